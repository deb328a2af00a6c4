/- XmlDeep: how deeply elements may be nested. The row, and its card, which ties what the library's tables hold to the program's text. No condition beyond the given statement's. (and what it stands on) -/
import Derived.Test.YtcgmnagcgkhogabGreatDoorZ5
namespace Go.Proofs.YtcgmnagcgkhogabGreatDoor
open Go.Sw Go.Sha Go.Esc Go.RowKit Go.Json Go.Xml
theorem mk_ne (b a:QN):(!(((bk b.pre).toList==(bk a.pre).toList)&&(((bk b.name).toList==(bk a.name).toList)&&((eB.toList==eB.toList)&&((b.has==a.has)&&true)))))=decide (b≠a):=by
 obtain ⟨p,n,k⟩:=b
 obtain ⟨p2,n2,k2⟩:=a
 rw [bkB,bkB,Bool.eq_iff_iff]
 simp
def pxA (a:AT):List UInt8:=if a.q.has then a.q.name else []
theorem decl_px {a:AT} (h:(M0 a).isSome=true):M0 a=some (pxA a):=by
 rcases decl_is.1 h with ⟨h1,h2⟩ | ⟨h1,h2⟩
 rw [decl_pre h1 h2]; unfold pxA; rw [if_pos h1]
 rw [decl_own h1 h2]; unfold pxA; rw [if_neg (by rw [h1]; decide)]
theorem px_yes {a:AT} (h:a.q.has=true):pxA a=a.q.name:=if_pos h
theorem px_no {a:AT} (h:a.q.has=false):pxA a=[]:=if_neg (by rw [h]; decide)
theorem as_yes {sp:SPX} {a:AT} (h:a.q.has=true):asX sp a=(K5 sp a.q.pre).getD []:=if_pos h
theorem as_no {sp:SPX} {a:AT} (h:a.q.has=false):asX sp a=[]:=if_neg (by rw [h]; decide)
theorem own_cap {e:TypeId} {z:Nat} {a:Option Addr} {n c m:Nat} {g:Grp} {cs:List Value} (h:Go.Sw.Own e z (.slice a n c) g m cs):m≤c:=by
 obtain ⟨_,_,h1,h2,_⟩:=h.shape
 injection h1 with _ _ h3
 omega
theorem rTfindN_ (sp:SPX) (n:Nat) (hn:n=sp.length) (a:Option Addr) (c:Nat) (S:Nat→Obj→Prop) (hrd:Rd S a (spV sp)) (hsl:sp.length≤1000000000) (p:List UInt8) (W0:World) (H:List Grp) (hS:∀ y o,S y o→At W0 H y o):Tri Tryz.prog 48 #[.slice a n c,.string (bk p)] W0 H (fun v H'=>v=.tuple #[.string (bk ((K5 sp p).getD [])),.bool (K5 sp p).isSome]∧H'=H):=by
 subst hn; exact rTfind_ sp a c S hrd hsl p W0 H hS
theorem q_eq {x y:QN} (h:(((y.has==x.has)&&((bk y.pre).toList==(bk x.pre).toList))&&((bk y.name).toList==(bk x.name).toList))=true):y=x:=by
 obtain ⟨p,n,k⟩:=x
 obtain ⟨p2,n2,k2⟩:=y
 rw [bkB,bkB] at h
 simp at h
 rw [h.1.1,h.1.2,h.2]
theorem q_ne {x y:QN} (h:(((y.has==x.has)&&((bk y.pre).toList==(bk x.pre).toList))&&((bk y.name).toList==(bk x.name).toList))=false):y≠x:=by
 rintro rfl
 rw [bkB,bkB] at h
 simp at h
theorem a_eq {s n:List UInt8} {y:XA}:(((bk s).toList==(bk y.space).toList)&&((bk n).toList==(bk y.name).toList))=(y.space==s&&y.name==n):=by
 rw [bkB,bkB,Bool.eq_iff_iff]
 simp only [Bool.and_eq_true,beq_iff_eq]
 exact ⟨fun h=>⟨h.1.symm,h.2.symm⟩,fun h=>⟨h.1.symm,h.2.symm⟩⟩
theorem q_roads {D r:List UInt8} {q:QN} (a:QN) (h:∀ x,G5 D=some x→x=(q,r)):G5 D=none∨(G5 D=some (q,r)∧q≠a)∨(G5 D=some (q,r)∧q=a):=by
  cases hq:G5 D with
  | none=>exact .inl rfl
  | some x =>
    rw [h x hq]
    by_cases he:q=a
    exact .inr (.inr ⟨rfl,he⟩)
    exact .inr (.inl ⟨rfl,he⟩)
theorem ne_snoc {ats:List AT} {j:Nat} {q:QN} {y:AT} (hj:j<ats.length) (hy:y=ats[j]) (h:∀ o∈ats.take j,o.q≠q) (hn:y.q≠q):∀ o∈ats.take (j+1),o.q≠q:=fun o ho=>by
 rw [take_at hj,← hy] at ho
 rcases List.mem_append.1 ho with ho | ho
 exact h o ho
 rw [List.mem_singleton.1 ho]; exact hn
theorem all_snoc {out:List XA} {j:Nat} {f:XA→Bool} {y:XA} (hj:j<out.length) (hy:y=out[j]) (h:∀ o∈out.take j,f o=false) (hn:f y=false):∀ o∈out.take (j+1),f o=false:=fun o ho=>by
 rw [take_at hj,← hy] at ho
 rcases List.mem_append.1 ho with ho | ho
 exact h o ho
 rw [List.mem_singleton.1 ho]; exact hn
theorem mem_tk {ats:List AT} {j k:Nat} {y:AT} (hj:j<ats.length) (hk:j<k) (hy:y=ats[j]):y∈ats.take k:=by
 rw [hy]; exact List.mem_iff_getElem.2 ⟨j,by rw [List.length_take]; omega,List.getElem_take⟩
theorem rd_noneS {S:Nat→Obj→Prop} {a:Option Addr} {sp:SPX} (h:Rd S a (spV sp)) (ha:a=none):sp.length=0:=by
 subst ha
 rcases h with h | ⟨b,off,c,e,fz,h1,_⟩
 have:=congrArg List.length h
 rw [spV_len] at this
 simp only [List.length_nil] at this
 omega
 cases h1
theorem cutA_0t (a:Option Addr) (cap sz:Nat):cutA a cap 0 sz=a:=by
 unfold cutA
 split
 rfl
 cases a with
 | none=>rfl
 | some a=>simp [Addr.add]
theorem spV_one:∀ sp:SPX,∀ u∈spV sp,u.oneCell'=true
  | [],_,h=>absurd h List.not_mem_nil
  | x::r,u,h=>by
    rcases List.mem_append.1 h with h | h
    exact spV_one r u h
    simp only [spC,List.mem_cons,List.not_mem_nil,or_false] at h; rcases h with rfl | rfl <;> rfl
theorem rTelW_ (lv:Nat) (d:Int) (hd:d=24 - (lv:Int)) (hlv:lv≤24) (t:Nat) (l:List UInt8) (hl:l.length≤1000000) (hel:∀ (n:Nat),lv=n+1→∀ (i:Nat),i≤l.length→∀ (sp:SPX) (sa:Option Addr) (sn sc:Nat) (S:Nat→Obj→Prop),sn=sp.length→Rd S sa (spV sp)→sp.length+n * 1000001≤30000000→∀ (W0:World) (H:List Grp),(∀ y o,S y o→At W0 H y o)→Tri Tryz.prog 23 #[pt t,.int .i64 (d+1),.slice sa sn sc] W0 (Y2 t l (i:Int)::H) (fun v H2=>(∃ k j c g,(elE n sp) (l.drop i)=.ok (k,l.drop j)∧i≤j∧j≤l.length∧k.text=[]∧XRep 59 26 k c g∧v=.tuple #[.agg c.toArray,.int .i64 0]∧H2=Y2 t l (j:Int)::g::H)∨(∃ e z,(elE n sp) (l.drop i)=.error e∧e≠0∧z≤l.length∧v=.tuple #[.agg zN.toArray,.int .i64 e]∧H2=Y2 t l ((z:Nat):Int)::H))) (i:Nat) (hi:i≤l.length) (sp:SPX) (sa:Option Addr) (sn sc:Nat) (S:Nat→Obj→Prop) (hsn0:sn=sp.length) (hrd:Rd S sa (spV sp)) (hsl:sp.length+lv * 1000001≤30000000) (W0:World) (H:List Grp) (hS:∀ y o,S y o→At W0 H y o):Tri Tryz.prog 23 #[pt t,.int .i64 d,.slice sa sp.length sc] W0 ([(t,.cells #[.string (bk l),.int .i64 ((i:Nat):Int)] 53 (0,0))]::H) (fun v H2=>(∃ k j c g,(elE lv sp) (l.drop i)=.ok (k,l.drop j)∧i≤j∧j≤l.length∧k.text=[]∧XRep 59 26 k c g∧v=.tuple #[.agg c.toArray,.int .i64 0]∧H2=Y2 t l (j:Int)::g::H)∨(∃ e z,(elE lv sp) (l.drop i)=.error e∧e≠0∧z≤l.length∧v=.tuple #[.agg zN.toArray,.int .i64 e]∧H2=Y2 t l ((z:Nat):Int)::H)):=by
 have hbz:=C9 l
 refine D5 253 Tryz.func23 ?_
 refine A1 (A2 (J1 (.agg zN.toArray) (fun b1=>A5 [0] [0,1,2,6] (k:=A0 (A1 (A2 (A3 (j:=1) [0] (k:=M1 0 [1] ?_))))))))
 refine D9 Tryz.func46 (rTmark_ t l i hl (by omega) _ _) ?_
 rintro _ _ ⟨q2,z2,hq2g,hq2l,rfl,hq2,rfl⟩
 have hqv:=hq2
 refine A3 (j:=5) [0,0,0] (k:=J1 (.agg #[.string eB,.string eB,.string eB,.bool false]) (fun b3=>D0 0 0 (.agg #[.string (bk q2.pre),.string (bk q2.name),.string eB,.bool q2.has]) rfl (A5 [0] [0,1,2,6,8,9] (k:=A0 (A1 (A1 (G_p [0,0] [0,1,2,6,8,35] (k:=A0 ?_))))))))
 refine B1 (b:=!((G5 (l.drop i)).isSome)) kr (fun hc4=>?_) (fun hc4=>?_)
 have hE:=el_q (lv:=lv) (sp0:=sp) (show G5 (l.drop i)=none by have h9:=hc4; rw [Bool.not_eq_true'] at h9; rwa [Option.isSome_eq_false_iff,Option.isNone_iff_eq_none] at h9)
 refine A1 (A2 (A3 (j:=1) [0] (k:=D0 2 0 (.agg zN.toArray) rfl (C0 (E':=[⟨6,[],pt b1⟩,⟨7,[],.int .i64 70⟩]) [0] [6,7] (k:=A0 (B4 (A4 (P1 1 [1,1] ([(t,.cells #[.string (bk l),.int .i64 ((z2:Nat):Int)] 53 (0,0))]::[(b1,.cells zN.toArray 26 (0,0))]::H) ?_))))))))
 refine F3 (H':=([(t,.cells #[.string (bk l),.int .i64 ((z2:Nat):Int)] 53 (0,0))]::[(b1,.cells zN.toArray 26 (0,0))]::H)) (fun w h=>Sat.flat h (List.Perm.of_eq (by simp []))) (J7 [.cell 6 26,.tmp 7] [.agg zN.toArray,.int .i64 70] rfl (.cons (.aq 1 0 rfl) (.cons .tq (.nil))) rfl ⟨_,?_,fun w h=>(h.pk 1 [0])⟩)
 exact .inr ⟨_,_,hE,by first | decide | exact heP,by omega,rfl,rfl⟩
 ·
  have hqn:=mark_some (by have h9:=hc4; rwa [Bool.not_eq_false'] at h9) hqv
  refine A7 (A0 (A1 (A2 (A3 (j:=1) [0] (k:=M1 0 [1] (D9 Tryz.func47 (rTtag_ t l z2 hl (by omega) _ _) ?_))))))
  rintro _ _ ⟨zT,hzTg,hzT,(⟨ats,cl,ta,tc,tg,htg,rfl,hTA,hatl,rfl⟩ | ⟨htg,rfl,rfl⟩)⟩
  ·
   have htc:=own_cap hTA
   have hqa:=tgQ_ok (fun a h=>absurd h List.not_mem_nil) htg
   refine A5 [0,0,0,0,0,0,0] [0,1,2,6,8,9,10,11] (k:=A0 (A1 (A1 (G_p [0,0] [0,1,2,6,8,10,11,44] (k:=A0 (C5 kr (A7 (A0 ?_))))))))
   refine A1 (A2 (H0 56 0 [] (fun b5=>A3 (j:=2) [0] (k:=Z9 (i:=2) (ch:=[]) (t:=57) (tx:=57) (e:=56) (inf:=Tryz.t56) (s:=.slice (some ⟨b5,0,none⟩) 0 0) (x:=.slice sa sp.length sc) (n:=0) (m:=sp.length) (j:=0) (cs:=[]) (news:=(spV sp)) (g:=[(b5,.cells #[] 56 (0,0))]) (S:=S) rfl rfl rfl rfl kr kr kr rfl rfl (.inl ⟨56,kr⟩) (fun ⟨_,h⟩=>by cases h) (fun _=>⟨56,kr⟩) kr kr kr rfl (Go.Sw.Own.lit rfl) (SrcOf.slice _ _ _ _ hrd (rd_noneS hrd)) (fun y o h=>At.cons (At.cons (At.cons (At.cons (At.cons (hS y o h)))))) (by rw [spV_len]; rfl) (spV_one _) (by omega) (by show (0+sp.length) * 32≤140737488355328; omega) (fun v6 g7 hO8=>?_)))))
   obtain ⟨a9,cap10,rfl,hcap11,hrd12⟩:=hO8.shape
   refine A5 [0] [0,1,6,8,10,11,12] (k:=A0 (A1 (A1 (G_p [0,0,0] [0,1,6,8,10,11,12,49,50,51] (k:=A0 (B3 (I6 (EI:=(fun ξ:Nat × List (List UInt8) × SPX × Nat × Option Addr × Nat × Grp=>[⟨0,[],pt t⟩,⟨1,[],.int .i64 d⟩,⟨6,[],pt b1⟩,⟨8,[],pt b3⟩,⟨10,[],.slice ta ats.length tc⟩,⟨11,[],.bool cl⟩,⟨12,[],.slice ξ.2.2.2.2.1 ξ.2.2.2.1 ξ.2.2.2.2.2.1⟩,⟨49,[],.slice ta ats.length tc⟩,⟨50,[],.int .i64 ((ats.length:Nat):Int)⟩,⟨51,[],.int .i64 ((ξ.1:Nat):Int)⟩])) (HI:=(fun ξ:Nat × List (List UInt8) × SPX × Nat × Option Addr × Nat × Grp=>(ξ.2.2.2.2.2.2::[(t,.cells #[.string (bk l),.int .i64 ((zT:Nat):Int)] 53 (0,0))]::tg::[(b3,.cells #[.string (bk q2.pre),.string (bk q2.name),.string eB,.bool q2.has] 85 (0,0))]::[(b1,.cells zN.toArray 26 (0,0))]::H))) (Φ:=(fun ξ:Nat × List (List UInt8) × SPX × Nat × Option Addr × Nat × Grp=>(ξ.1≤ats.length)∧(spE ats [] sp=spE (ats.drop ξ.1) ξ.2.1 ξ.2.2.1)∧(SeenAt ats ξ.1 ξ.2.1)∧(Go.Sw.Own 56 2 (.slice ξ.2.2.2.2.1 ξ.2.2.2.1 ξ.2.2.2.2.2.1) ξ.2.2.2.2.2.2 ξ.2.2.2.1 (spV ξ.2.2.1))∧(ξ.2.2.2.1=ξ.2.2.1.length)∧(ξ.2.2.2.1≤sp.length+ξ.1))) (μ:=(fun ξ:Nat × List (List UInt8) × SPX × Nat × Option Addr × Nat × Grp=>ats.length - ξ.1)) (s0:=(0,[],sp,(0+sp.length),a9,cap10,g7)) [0,1,6,8,10,11,12,49,50,51] kr kr ⟨(Nat.zero_le _),rfl,(seen_0 _),hO8,(Nat.zero_add _),(by dsimp only; omega)⟩ ?_)))))))
   rintro ⟨k,seen,spk,nn,na,nc,ng⟩ ⟨hkl,hT,hsn,hNO,hns,hnk⟩
   dsimp only at hkl hT hsn hNO hns hnk
   refine A1 (G_p [0] [0,1,6,8,10,11,12,49,50,51,52] (k:=A0 (A1 (B1 (b:=decide (((k:Nat):Int)<((ats.length:Nat):Int))) kr (fun hc13=>?_) (fun hc13=>?_)))))
   ·
    have hk:k<ats.length:=by have:=hc13; simp only [decide_eq_true_eq] at this; omega
    refine A7 (A0 (A1 (B3 (A1 (A2 (A3 (j:=1) [0] (k:=E4 (a:=ta) (S:=(inG tg)) (cs:=(atV ats)) ats.length ((k:Nat):Int) 4 (F0 hTA) (by exact ⟨by omega,by omega,by intro h; have h2:=congrArg List.length h; rw [atV_len] at h2; simp only [List.length_nil] at h2; omega⟩) ?_)))))))
    obtain ⟨x,hx⟩:∃ x,x=ats[k]'hk:=⟨_,rfl⟩
    have hxm:x∈ats:=by rw [hx]; exact List.getElem_mem hk
    refine K0 (ch:=[]) (a:=ta) (q:=k * 4) (S:=(inG tg)) (cs:=(atV ats)) (l:=[.string (bk x.q.pre),.string (bk x.q.name),.string (bk x.value),.bool x.q.has]) (hrd:=F0 hTA) (hS:=E0 2 rfl) (hl:=List.cons_ne_nil _ _) (hv:=(fun _=>(elt4 (by rw [hx]; exact atV_at hk)))) (k:=J1 (.agg #[.string eB,.string eB,.string eB,.bool false]) (fun b14=>A3 (j:=5) [0] (k:=D0 0 0 (.agg #[.string (bk x.q.pre),.string (bk x.q.name),.string (bk x.value),.bool x.q.has]) rfl (A5 [] [0,1,6,8,10,11,12,13,14,49,50,51] (k:=A0 (A1 (A2 (A3 (j:=1) [0] (k:=?_)))))))))
    refine C1 0 3 rfl rfl (A3 (j:=4) [0,0] (k:=C2 (ch:=[(58,true)]) (b:=b14) (off:=0) (v:=.string (bk x.q.pre)) (hA:=At.grp 0 0 rfl rfl) (k:=A3 (j:=9) [0,6,0,0] (k:=C2 (ch:=[(63,false)]) (b:=b14) (off:=3) (v:=.bool x.q.has) (hA:=At.grp 0 0 rfl rfl) (k:=A3 (j:=13) [0,0,0] (k:=C2 (ch:=[(67,true),(63,false)]) (b:=b14) (off:=1) (v:=.string (bk x.q.name)) (hA:=At.grp 0 0 rfl rfl) (k:=A5 [0,6,5] [0,1,6,8,10,11,12,13,14,49,50,51,72] (k:=A0 ?_))))))))
    refine B1 (b:=(x.q.has&&((bk x.q.pre).toList==aH.toList))||((!x.q.has)&&((bk x.q.name).toList==aH.toList))) kr (fun hc15=>?_) (fun hc15=>?_)
    ·
     have hd:(M0 x).isSome=true:=decl_is.2 (by have h:=hc15; simp only [Bool.or_eq_true,Bool.and_eq_true,Bool.not_eq_true'] at h; exact h.imp (fun h=>⟨h.1,(eqB _ _).1 h.2⟩) (fun h=>⟨h.1,(eqB _ _).1 h.2⟩))
     have hdp:=decl_px hd
     refine A1 (A1 (A2 (A3 (j:=2) [0,0] (k:=GL_sliceL (ch:=[]) (a:=ta) (len:=ats.length) (cap:=tc) (e:=85) (sz:=4) (vl:=none) (vh:=(some (.int .i64 ((k:Nat):Int)))) (l:=0) (h:=((k:Nat):Int)) (hb:=(by (try intro _); (repeat' apply And.intro) <;> omega)) (k:=E3 75 (x:=.slice (cutA ta tc 0 4) (k - 0) (tc - 0)) (y:=.slice ta k tc) (by rw [cutA_0t]; rfl) (A5 [0,0] [0,1,6,8,10,11,12,14,49,50,51,75,76,77] (k:=A0 (B3 ?_))))))))
     refine I6 (EI:=(fun ξ:Nat=>[⟨0,[],pt t⟩,⟨1,[],.int .i64 d⟩,⟨6,[],pt b1⟩,⟨8,[],pt b3⟩,⟨10,[],.slice ta ats.length tc⟩,⟨11,[],.bool cl⟩,⟨12,[],.slice na nn nc⟩,⟨14,[],pt b14⟩,⟨49,[],.slice ta ats.length tc⟩,⟨50,[],.int .i64 ((ats.length:Nat):Int)⟩,⟨51,[],.int .i64 ((k:Nat):Int)⟩,⟨75,[],.slice ta k tc⟩,⟨76,[],.int .i64 ((k:Nat):Int)⟩,⟨77,[],.int .i64 ((ξ:Nat):Int)⟩])) (HI:=(fun ξ:Nat=>([(b14,.cells #[.string (bk x.q.pre),.string (bk x.q.name),.string (bk x.value),.bool x.q.has] 85 (0,0))]::ng::[(t,.cells #[.string (bk l),.int .i64 ((zT:Nat):Int)] 53 (0,0))]::tg::[(b3,.cells #[.string (bk q2.pre),.string (bk q2.name),.string eB,.bool q2.has] 85 (0,0))]::[(b1,.cells zN.toArray 26 (0,0))]::H))) (Φ:=(fun ξ:Nat=>(ξ≤k)∧(∀ o∈ats.take ξ,o.q≠x.q))) (μ:=(fun ξ:Nat=>k - ξ)) (s0:=(0)) [0,1,6,8,10,11,12,14,49,50,51,75,76,77] kr kr ⟨(Nat.zero_le _),(fun o h=>absurd h (by rw [List.take_zero]; exact List.not_mem_nil))⟩ ?_
     rintro j ⟨hjk,hno⟩
     try dsimp only at hjk hno
     refine A1 (G_p [0] [0,1,6,8,10,11,12,14,49,50,51,75,76,77,78] (k:=A0 (A1 (B1 (b:=decide (((j:Nat):Int)<((k:Nat):Int))) kr (fun hc16=>?_) (fun hc16=>?_)))))
     have hjk2:j<k:=by have:=hc16; simp only [decide_eq_true_eq] at this; omega
     have hj2:j<ats.length:=by omega
     refine A7 (A0 (A1 (B3 (A1 (A2 (E4 (a:=ta) (S:=(inG tg)) (cs:=(atV ats)) k ((j:Nat):Int) 4 (F0 hTA) (by exact ⟨by omega,by omega,by intro h; have h2:=congrArg List.length h; rw [atV_len] at h2; simp only [List.length_nil] at h2; omega⟩) ?_))))))
     obtain ⟨y,hy⟩:∃ y,y=ats[j]'hj2:=⟨_,rfl⟩
     refine K0 (ch:=[]) (a:=ta) (q:=j * 4) (S:=(inG tg)) (cs:=(atV ats)) (l:=[.string (bk y.q.pre),.string (bk y.q.name),.string (bk y.value),.bool y.q.has]) (hrd:=F0 hTA) (hS:=E0 3 rfl) (hl:=List.cons_ne_nil _ _) (hv:=(fun _=>(elt4 (by rw [hy]; exact atV_at hj2)))) (k:=J1 (.agg #[.string eB,.string eB,.string eB,.bool false]) (fun b17=>D0 0 0 (.agg #[.string (bk y.q.pre),.string (bk y.q.name),.string (bk y.value),.bool y.q.has]) rfl (A5 [] [0,1,6,8,10,11,12,14,16,49,50,51,75,76,77] (k:=A0 (A1 (A2 (A3 (j:=1) [0] (k:=C1 0 3 rfl rfl ?_))))))))
     refine A3 (j:=3) [0] (k:=C1 1 3 rfl rfl (A3 (j:=7) [0,0,0] (k:=C2 (ch:=[(86,true)]) (b:=b17) (off:=0) (v:=.string (bk y.q.pre)) (hA:=At.grp 0 0 rfl rfl) (k:=A3 (j:=9) [0] (k:=C2 (ch:=[(86,true)]) (b:=b14) (off:=0) (v:=.string (bk x.q.pre)) (hA:=At.grp 1 0 rfl rfl) (k:=A3 (j:=14) [0,6,0,0] (k:=C2 (ch:=[(93,true)]) (b:=b17) (off:=1) (v:=.string (bk y.q.name)) (hA:=At.grp 0 0 rfl rfl) (k:=A3 (j:=16) [0] (k:=?_)))))))))
     refine C2 (ch:=[(93,true)]) (b:=b14) (off:=1) (v:=.string (bk x.q.name)) (hA:=At.grp 1 0 rfl rfl) (k:=A5 [0,6] [0,1,6,8,10,11,12,14,49,50,51,75,76,77,99] (k:=A0 (B1 (b:=((y.q.has==x.q.has)&&((bk y.q.pre).toList==(bk x.q.pre).toList))&&((bk y.q.name).toList==(bk x.q.name).toList)) kr (fun hc18=>?_) (fun hc18=>?_))))
     have hqe:=q_eq hc18
     have hE:=el_s (lv:=lv) hqn htg (show spE ats [] sp=none by rw [hT,drop_cons hk,← hx,spE_dup hdp (seen_dup hsn hdp (mem_tk hj2 hjk2 hy) hqe)])
     refine A1 (A2 (A3 (j:=1) [0] (k:=D0 6 0 (.agg zN.toArray) rfl (C0 (E':=[⟨6,[],pt b1⟩,⟨7,[],.int .i64 70⟩]) [0] [6,7] (k:=A0 (B4 (B0 (A4 ?_))))))))
     refine A4 (B0 (A4 (B0 (A4 (A4 (B0 (A4 (P1 5 [3,5] ([(t,.cells #[.string (bk l),.int .i64 ((zT:Nat):Int)] 53 (0,0))]::[(b1,.cells zN.toArray 26 (0,0))]::H) ?_))))))))
     refine F3 (H':=([(t,.cells #[.string (bk l),.int .i64 ((zT:Nat):Int)] 53 (0,0))]::[(b1,.cells zN.toArray 26 (0,0))]::H)) (fun w h=>Sat.flat h (List.Perm.of_eq (by simp []))) (J7 [.cell 6 26,.tmp 7] [.agg zN.toArray,.int .i64 70] rfl (.cons (.aq 1 0 rfl) (.cons .tq (.nil))) rfl ⟨_,?_,fun w h=>(h.pk 1 [0])⟩)
     exact .inr ⟨_,_,hE,by first | decide | exact heP,by omega,rfl,rfl⟩
     have hne:y.q≠x.q:=q_ne hc18
     refine A7 (B8 (A0 (A2 (A3 (j:=1) [0] (k:=D1 101 (((j:Nat):Int)+1) (by omega) (by omega) kr (A5 [0] [0,1,6,8,10,11,12,14,49,50,51,75,76,77] (k:=F8 1 [1,1,1,1,1,1] (D2 (s':=(j+1)) [0,1,6,8,10,11,12,14,49,50,51,75,76,77] kr kr ⟨(by omega),(ne_snoc hj2 hy hno hne)⟩ (by omega)))))))))
     have hjk2:j=k:=by have:=hc16; simp only [decide_eq_false_iff_not] at this; omega
     rw [hjk2] at hno
     have hnew:=seen_new hqa hxm hsn hdp hno
     refine E7 (A6 (A6 (B6 (A0 (A1 (A1 (A2 (A3 (j:=1) [0] (k:=?_)))))))))
     refine C1 0 3 rfl rfl (A3 (j:=4) [0,0] (k:=C2 (ch:=[(104,true)]) (b:=b14) (off:=2) (v:=.string (bk x.value)) (hA:=At.grp 0 0 rfl rfl) (k:=A5 [0,6] [0,1,6,8,10,11,12,14,49,50,51,108] (k:=A0 (B1 (b:=x.q.has&&((bk x.value).toList==eB.toList)) kr (fun hc20=>?_) (fun hc20=>?_))))))
     have h9:=hc20
     simp only [Bool.and_eq_true] at h9
     have hE:=el_s (lv:=lv) hqn htg (show spE ats [] sp=none by rw [hT,drop_cons hk,← hx,spE_nil hdp h9.1 ((eqB _ _).1 h9.2)])
     refine A1 (A2 (A3 (j:=1) [0] (k:=D0 5 0 (.agg zN.toArray) rfl (C0 (E':=[⟨6,[],pt b1⟩,⟨7,[],.int .i64 70⟩]) [0] [6,7] (k:=A0 (B4 (A4 (B0 ?_))))))))
     refine A4 (A4 (B0 (A4 (P1 4 [2,4] ([(t,.cells #[.string (bk l),.int .i64 ((zT:Nat):Int)] 53 (0,0))]::[(b1,.cells zN.toArray 26 (0,0))]::H) (F3 (H':=([(t,.cells #[.string (bk l),.int .i64 ((zT:Nat):Int)] 53 (0,0))]::[(b1,.cells zN.toArray 26 (0,0))]::H)) (fun w h=>Sat.flat h (List.Perm.of_eq (by simp []))) (J7 [.cell 6 26,.tmp 7] [.agg zN.toArray,.int .i64 70] rfl (.cons (.aq 1 0 rfl) (.cons .tq (.nil))) rfl ⟨_,?_,fun w h=>(h.pk 1 [0])⟩))))))
     exact .inr ⟨_,_,hE,by first | decide | exact heP,by omega,rfl,rfl⟩
     have hv0:¬ (x.q.has=true∧x.value=[]):=fun h9=>by have h8:=hc20; rw [h9.1,show ((bk x.value).toList==eB.toList)=true from (eqB _ _).2 h9.2] at h8; simp at h8
     refine A7 (A0 (A1 (A2 (A3 (j:=1) [0] (k:=C1 0 3 rfl rfl (A5 [] [0,1,6,8,10,11,12,14,49,50,51,111] (k:=A0 (B1 (b:=x.q.has) kr (fun hc21=>?_) (fun hc21=>?_)))))))))
     have hpx:=px_yes hc21
     refine A2 (A3 (j:=2) [0,0] (k:=C1 0 1 rfl rfl (A3 (j:=4) [0] (k:=C1 0 2 rfl rfl (A3 (j:=6) [0] (k:=H0 56 1 [.string (bk x.q.name),.string (bk x.value)] (fun b22=>L7 (inf:=Tryz.t56) 1 0 2 rfl rfl hNO (by omega) (by show (nn+1) * 32≤140737488355328; omega) (fun v23 g24 hO25=>?_))))))))
     obtain ⟨a26,cap27,rfl,hcap28,hrd29⟩:=hO25.shape
     refine A5 [0] [0,1,6,8,10,11,12,49,50,51] (k:=B8 (A0 (A2 (A3 (j:=1) [0] (k:=D1 126 (((k:Nat):Int)+1) (by omega) (by omega) kr (A5 [0] [0,1,6,8,10,11,12,49,50,51] (k:=F8 2 [2,2,2,2,2] (D2 (s':=((k+1),(pxA x::seen),((pxA x,x.value)::spk),(nn+1),a26,cap27,g24)) [0,1,6,8,10,11,12,49,50,51] kr kr ⟨(by dsimp only; omega),(by dsimp only; rw [hT,drop_cons hk,← hx,spE_go hdp hnew hv0]),(seen_s hk hx hsn hdp),(by dsimp only; rw [hpx]; exact hO25),(by dsimp only; rw [List.length_cons,hns]),(by dsimp only; omega)⟩ (by dsimp only; omega)))))))))
     have hpx:=px_no hc21
     refine A2 (A3 (j:=2) [0,0] (k:=C1 0 2 rfl rfl (A3 (j:=4) [0] (k:=H0 56 1 [.string eB,.string (bk x.value)] (fun b31=>L7 (inf:=Tryz.t56) 1 0 2 rfl rfl hNO (by omega) (by show (nn+1) * 32≤140737488355328; omega) (fun v32 g33 hO34=>?_))))))
     obtain ⟨a35,cap36,rfl,hcap37,hrd38⟩:=hO34.shape
     refine A5 [0] [0,1,6,8,10,11,12,49,50,51] (k:=B8 (A0 (A2 (A3 (j:=1) [0] (k:=D1 126 (((k:Nat):Int)+1) (by omega) (by omega) kr (A5 [0] [0,1,6,8,10,11,12,49,50,51] (k:=F8 2 [2,2,2,2,2] (D2 (s':=((k+1),(pxA x::seen),((pxA x,x.value)::spk),(nn+1),a35,cap36,g33)) [0,1,6,8,10,11,12,49,50,51] kr kr ⟨(by dsimp only; omega),(by dsimp only; rw [hT,drop_cons hk,← hx,spE_go hdp hnew hv0]),(seen_s hk hx hsn hdp),(by dsimp only; rw [hpx]; exact hO34),(by dsimp only; rw [List.length_cons,hns]),(by dsimp only; omega)⟩ (by dsimp only; omega)))))))))
    have hd:(M0 x).isSome=false:=by
     rw [← Bool.not_eq_true,decl_is]
     have h2:=hc15
     rintro (h | h)
     rw [h.1,show ((bk x.q.pre).toList==aH.toList)=true from (eqB _ _).2 h.2] at h2; exact Bool.noConfusion h2
     rw [h.1,show ((bk x.q.name).toList==aH.toList)=true from (eqB _ _).2 h.2] at h2; simp at h2
    have hdn:M0 x=none:=by rwa [Option.isSome_eq_false_iff,Option.isNone_iff_eq_none] at hd
    refine A7 (B8 (A0 (A2 (A3 (j:=1) [0] (k:=D1 126 (((k:Nat):Int)+1) (by omega) (by omega) kr (A5 [0] [0,1,6,8,10,11,12,49,50,51] (k:=F8 1 [1,1,1,1,1] (D2 (s':=((k+1),seen,spk,nn,na,nc,ng)) [0,1,6,8,10,11,12,49,50,51] kr kr ⟨(by dsimp only; omega),(by dsimp only; rw [hT,drop_cons hk,← hx,spE_no hdn]),(seen_no hk hx hsn hdn),hNO,hns,(by dsimp only; omega)⟩ (by dsimp only; omega)))))))))
   ·
    have hk:ats.length≤k:=by have:=hc13; simp only [decide_eq_false_iff_not] at this; omega
    have hsp:spE ats [] sp=some spk:=by rw [hT,List.drop_eq_nil_of_le hk]; rfl
    refine E7 (A6 (A6 (B6 (A0 (A1 (A2 (A3 (j:=1) [0] (k:=C1 3 1 rfl rfl ?_))))))))
    refine A3 (j:=3) [0] (k:=J1 (.agg zN.toArray) (fun b41=>D0 0 0 (.agg #[.string eB,.string (bk q2.name),.slice none 0 0,.slice none 0 0,.string eB]) rfl (A5 [] [0,1,6,8,10,11,12,17] (k:=A0 (A1 (A2 (A3 (j:=2) [0,0] (k:=C1 4 0 rfl rfl ?_))))))))
    refine D9 Tryz.func48 (rTfindN_ spk nn hns na nc (inG ng) (F0 hNO) (by omega) q2.pre _ _ (E0 1 rfl)) ?_
    rintro _ _ ⟨rfl,rfl⟩
    refine A5 [0,0,0,0,0] [0,1,6,8,10,11,12,17,18,19] (k:=A0 (A1 (A1 (A2 (A3 (j:=1) [0] (k:=C1 4 3 rfl rfl (A5 [0,0,0,6] [0,1,6,8,10,11,12,17,18,142] (k:=A0 ?_))))))))
    refine B1 (b:=q2.has&&(!((K5 spk q2.pre).isSome))) kr (fun hc42=>?_) (fun hc42=>?_)
    have h9:=hc42
    simp only [Bool.and_eq_true,Bool.not_eq_true'] at h9
    have hE:=el_p (lv:=lv) hqn htg hsp h9.1 h9.2
    refine A1 (A2 (A3 (j:=1) [0] (k:=D0 5 0 (.agg zN.toArray) rfl (C0 (E':=[⟨6,[],pt b1⟩,⟨7,[],.int .i64 70⟩]) [0] [6,7] (k:=A0 (B4 (A4 (P1 4 [2,4] ([(t,.cells #[.string (bk l),.int .i64 ((zT:Nat):Int)] 53 (0,0))]::[(b1,.cells zN.toArray 26 (0,0))]::H) ?_))))))))
    refine F3 (H':=([(t,.cells #[.string (bk l),.int .i64 ((zT:Nat):Int)] 53 (0,0))]::[(b1,.cells zN.toArray 26 (0,0))]::H)) (fun w h=>Sat.flat h (List.Perm.of_eq (by simp []))) (J7 [.cell 6 26,.tmp 7] [.agg zN.toArray,.int .i64 70] rfl (.cons (.aq 1 0 rfl) (.cons .tq (.nil))) rfl ⟨_,?_,fun w h=>(h.pk 1 [0])⟩)
    exact .inr ⟨_,_,hE,by first | decide | exact heP,by omega,rfl,rfl⟩
    ·
     have hspk:=spE_ok (sp:=spk) (a:=q2) (by rintro ⟨h8,h7⟩; have h9:=hc42; rw [h8,h7] at h9; simp at h9)
     refine A7 (A0 (A1 (A2 (A3 (j:=2) [0,0] (k:=D0 0 0 (.string (bk ((K5 spk q2.pre).getD []))) rfl (A5 [] [0,1,6,8,10,11,12,17] (k:=A0 (A1 ?_))))))))
     refine A1 (G_p [0,0,0] [0,1,6,8,11,12,17,146,147,148] (k:=A0 (B3 (R1 (H':=([]::[(b41,.cells #[.string (bk ((K5 spk q2.pre).getD [])),.string (bk q2.name),.slice none 0 0,.slice none 0 0,.string eB] 26 (0,0))]::ng::[(t,.cells #[.string (bk l),.int .i64 ((zT:Nat):Int)] 53 (0,0))]::tg::[(b3,.cells #[.string (bk q2.pre),.string (bk q2.name),.string eB,.bool q2.has] 85 (0,0))]::[(b1,.cells zN.toArray 26 (0,0))]::H)) (fun w h=>h.flat (List.Perm.refl _)) (I6 (EI:=(fun ξ:Nat × List XA × Nat × Option Addr × Nat × Grp=>[⟨0,[],pt t⟩,⟨1,[],.int .i64 d⟩,⟨6,[],pt b1⟩,⟨8,[],pt b3⟩,⟨11,[],.bool cl⟩,⟨12,[],.slice na nn nc⟩,⟨17,[],pt b41⟩,⟨146,[],.slice ta ats.length tc⟩,⟨147,[],.int .i64 ((ats.length:Nat):Int)⟩,⟨148,[],.int .i64 ((ξ.1:Nat):Int)⟩])) (HI:=(fun ξ:Nat × List XA × Nat × Option Addr × Nat × Grp=>(ξ.2.2.2.2.2::[(b41,.cells #[.string (bk ((K5 spk q2.pre).getD [])),.string (bk q2.name),.slice ξ.2.2.2.1 ξ.2.2.1 ξ.2.2.2.2.1,.slice none 0 0,.string eB] 26 (0,0))]::ng::[(t,.cells #[.string (bk l),.int .i64 ((zT:Nat):Int)] 53 (0,0))]::tg::[(b3,.cells #[.string (bk q2.pre),.string (bk q2.name),.string eB,.bool q2.has] 85 (0,0))]::[(b1,.cells zN.toArray 26 (0,0))]::H))) (Φ:=(fun ξ:Nat × List XA × Nat × Option Addr × Nat × Grp=>(ξ.1≤ats.length)∧(O3 ats [] spk=O3 (ats.drop ξ.1) ξ.2.1 spk)∧(Go.Sw.Own 59 3 (.slice ξ.2.2.2.1 ξ.2.2.1 ξ.2.2.2.2.1) ξ.2.2.2.2.2 ξ.2.2.1 (xaV ξ.2.1))∧(ξ.2.2.1=ξ.2.1.length)∧(ξ.2.2.1≤ξ.1))) (μ:=(fun ξ:Nat × List XA × Nat × Option Addr × Nat × Grp=>ats.length - ξ.1)) (s0:=(0,[],0,none,0,[])) [0,1,6,8,11,12,17,146,147,148] kr kr ⟨(Nat.zero_le _),rfl,Go.Sw.Own.nil,rfl,(Nat.le_refl _)⟩ ?_)))))
     rintro ⟨k,out,no,oa,oc,og⟩ ⟨hkl,hM,hAO,hno,hnk2⟩
     dsimp only at hkl hM hAO hno hnk2
     refine A1 (G_p [0] [0,1,6,8,11,12,17,146,147,148,149] (k:=A0 (A1 (B1 (b:=decide (((k:Nat):Int)<((ats.length:Nat):Int))) kr (fun hc43=>?_) (fun hc43=>?_)))))
     ·
      have hk:k<ats.length:=by have:=hc43; simp only [decide_eq_true_eq] at this; omega
      refine A7 (A0 (A1 (B3 (A1 (A2 (E4 (a:=ta) (S:=(inG tg)) (cs:=(atV ats)) ats.length ((k:Nat):Int) 4 (F0 hTA) (by exact ⟨by omega,by omega,by intro h; have h2:=congrArg List.length h; rw [atV_len] at h2; simp only [List.length_nil] at h2; omega⟩) ?_))))))
      obtain ⟨x,hx⟩:∃ x,x=ats[k]'hk:=⟨_,rfl⟩
      have hxm:x∈ats:=by rw [hx]; exact List.getElem_mem hk
      refine K0 (ch:=[]) (a:=ta) (q:=k * 4) (S:=(inG tg)) (cs:=(atV ats)) (l:=[.string (bk x.q.pre),.string (bk x.q.name),.string (bk x.value),.bool x.q.has]) (hrd:=F0 hTA) (hS:=E0 4 rfl) (hl:=List.cons_ne_nil _ _) (hv:=(fun _=>(elt4 (by rw [hx]; exact atV_at hk)))) (k:=J1 (.agg #[.string eB,.string eB,.string eB,.bool false]) (fun b44=>D0 0 0 (.agg #[.string (bk x.q.pre),.string (bk x.q.name),.string (bk x.value),.bool x.q.has]) rfl (A5 [] [0,1,6,8,11,12,17,21,146,147,148] (k:=A0 (A1 (A1 (A2 (A3 (j:=1) [0] (k:=?_)))))))))
      refine C1 0 3 rfl rfl (A3 (j:=4) [0,0] (k:=C2 (ch:=[(154,true)]) (b:=b44) (off:=0) (v:=.string (bk x.q.pre)) (hA:=At.grp 0 0 rfl rfl) (k:=A3 (j:=9) [0,6,0,0] (k:=C2 (ch:=[(159,false)]) (b:=b44) (off:=3) (v:=.bool x.q.has) (hA:=At.grp 0 0 rfl rfl) (k:=A3 (j:=13) [0,0,0] (k:=C2 (ch:=[(163,true),(159,false)]) (b:=b44) (off:=1) (v:=.string (bk x.q.name)) (hA:=At.grp 0 0 rfl rfl) (k:=A5 [0,6,5] [0,1,6,8,11,12,17,21,146,147,148,168] (k:=A0 ?_))))))))
      refine B1 (b:=(x.q.has&&((bk x.q.pre).toList==aH.toList))||((!x.q.has)&&((bk x.q.name).toList==aH.toList))) kr (fun hc45=>?_) (fun hc45=>?_)
      have hd:(M0 x).isSome=true:=decl_is.2 (by have h:=hc45; simp only [Bool.or_eq_true,Bool.and_eq_true,Bool.not_eq_true'] at h; exact h.imp (fun h=>⟨h.1,(eqB _ _).1 h.2⟩) (fun h=>⟨h.1,(eqB _ _).1 h.2⟩))
      refine E7 (A6 (B6 (A0 (A2 (A3 (j:=1) [0] (k:=D1 215 (((k:Nat):Int)+1) (by omega) (by omega) kr (A5 [0] [0,1,6,8,11,12,17,146,147,148] (k:=F8 1 [1,1,1,1,1,1,1] ?_))))))))
      refine D2 (s':=((k+1),out,no,oa,oc,og)) [0,1,6,8,11,12,17,146,147,148] kr kr ⟨(by dsimp only; omega),(by dsimp only; rw [hM,drop_cons hk,← hx,mkE_skip hd]),hAO,hno,(by dsimp only; omega)⟩ (by dsimp only; omega)
      ·
       have hd:(M0 x).isSome=false:=by
        rw [← Bool.not_eq_true,decl_is]
        have h2:=hc45
        rintro (h | h)
        rw [h.1,show ((bk x.q.pre).toList==aH.toList)=true from (eqB _ _).2 h.2] at h2; exact Bool.noConfusion h2
        rw [h.1,show ((bk x.q.name).toList==aH.toList)=true from (eqB _ _).2 h.2] at h2; simp at h2
       refine A7 (A0 (A1 (A2 (A3 (j:=1) [0] (k:=C1 0 1 rfl rfl (A3 (j:=3) [0] (k:=C1 0 2 rfl rfl (A3 (j:=5) [0] (k:=?_)))))))))
       refine J1 (.agg #[.string eB,.string eB,.string eB]) (fun b47=>D0 0 0 (.agg #[.string eB,.string (bk x.q.name),.string (bk x.value)]) rfl (A5 [] [0,1,6,8,11,12,17,21,22,146,147,148] (k:=A0 (A1 (A1 (A2 (A3 (j:=1) [0] (k:=C1 1 3 rfl rfl ?_))))))))
       refine A5 [] [0,1,6,8,11,12,17,21,22,146,147,148,175] (k:=A0 (G_joinR (T:=Unit) (fun _:Unit=>[⟨0,[],pt t⟩,⟨1,[],.int .i64 d⟩,⟨6,[],pt b1⟩,⟨8,[],pt b3⟩,⟨11,[],.bool cl⟩,⟨12,[],.slice na nn nc⟩,⟨17,[],pt b41⟩,⟨22,[],pt b47⟩,⟨146,[],.slice ta ats.length tc⟩,⟨147,[],.int .i64 ((ats.length:Nat):Int)⟩,⟨148,[],.int .i64 ((k:Nat):Int)⟩]) (fun _:Unit=>([(b47,.cells #[.string (bk (asX spk x)),.string (bk x.q.name),.string (bk x.value)] 59 (0,0))]::[(b44,.cells #[.string (bk x.q.pre),.string (bk x.q.name),.string (bk x.value),.bool x.q.has] 85 (0,0))]::og::[(b41,.cells #[.string (bk ((K5 spk q2.pre).getD [])),.string (bk q2.name),.slice oa no oc,.slice none 0 0,.string eB] 26 (0,0))]::ng::[(t,.cells #[.string (bk l),.int .i64 ((zT:Nat):Int)] 53 (0,0))]::tg::[(b3,.cells #[.string (bk q2.pre),.string (bk q2.name),.string eB,.bool q2.has] 85 (0,0))]::[(b1,.cells zN.toArray 26 (0,0))]::H)) (fun _:Unit=>(x.q.has=true→(K5 spk x.q.pre).isSome=true)) ?_ ?_))
       refine B1 (b:=x.q.has) kr (fun hc48=>?_) (fun hc48=>?_)
       have hhas:=hc48
       refine A1 (A2 (A3 (j:=2) [0,0] (k:=C1 1 0 rfl rfl (D9 Tryz.func48 (rTfindN_ spk nn hns na nc (inG ng) (F0 hNO) (by omega) x.q.pre _ _ (E0 4 rfl)) ?_))))
       rintro _ _ ⟨rfl,rfl⟩
       refine A5 [0,0,0,0,0] [0,1,6,8,11,12,17,22,23,24,146,147,148] (k:=A0 (A1 (A1 (G_p [0,0] [0,1,6,8,11,12,17,22,23,146,147,148,184] (k:=A0 (B1 (b:=!((K5 spk x.q.pre).isSome)) kr (fun hc49=>?_) (fun hc49=>?_)))))))
       have hE:=el_m (lv:=lv) hqn htg hsp hspk (show O3 ats [] spk=none by rw [hM,drop_cons hk,← hx,mkE_bad hd hhas (by have h9:=hc49; rwa [Bool.not_eq_true'] at h9)])
       refine A1 (A2 (A3 (j:=1) [0] (k:=D0 8 0 (.agg zN.toArray) rfl (C0 (E':=[⟨6,[],pt b1⟩,⟨7,[],.int .i64 70⟩]) [0] [6,7] (k:=A0 (B4 (A4 (N_joinRet ?_))))))))
       refine A4 (B0 (A4 (A4 (B0 (A4 (P1 7 [5,7] ([(t,.cells #[.string (bk l),.int .i64 ((zT:Nat):Int)] 53 (0,0))]::[(b1,.cells zN.toArray 26 (0,0))]::H) (F3 (H':=([(t,.cells #[.string (bk l),.int .i64 ((zT:Nat):Int)] 53 (0,0))]::[(b1,.cells zN.toArray 26 (0,0))]::H)) (fun w h=>Sat.flat h (List.Perm.of_eq (by simp []))) (J7 [.cell 6 26,.tmp 7] [.agg zN.toArray,.int .i64 70] rfl (.cons (.aq 1 0 rfl) (.cons .tq (.nil))) rfl ⟨_,?_,fun w h=>(h.pk 1 [0])⟩))))))))
       exact .inr ⟨_,_,hE,by first | decide | exact heP,by omega,rfl,rfl⟩
       have hsx0:x.q.has=true→(K5 spk x.q.pre).isSome=true:=fun _=>by have h9:=hc49; rwa [Bool.not_eq_false'] at h9
       refine A7 (A0 (A2 (A3 (j:=2) [0,0] (k:=D0 0 0 (.string (bk ((K5 spk x.q.pre).getD []))) rfl (A5 [] [0,1,6,8,11,12,17,22,146,147,148] (k:=L6 (E':=[⟨0,[],pt t⟩,⟨1,[],.int .i64 d⟩,⟨6,[],pt b1⟩,⟨8,[],pt b3⟩,⟨11,[],.bool cl⟩,⟨12,[],.slice na nn nc⟩,⟨17,[],pt b41⟩,⟨22,[],pt b47⟩,⟨146,[],.slice ta ats.length tc⟩,⟨147,[],.int .i64 ((ats.length:Nat):Int)⟩,⟨148,[],.int .i64 ((k:Nat):Int)⟩]) kr ?_))))))
       have hq9:=as_yes (sp:=spk) hhas
       refine R4 (H':=([(b47,.cells #[.string (bk ((K5 spk x.q.pre).getD [])),.string (bk x.q.name),.string (bk x.value)] 59 (0,0))]::[(b44,.cells #[.string (bk x.q.pre),.string (bk x.q.name),.string (bk x.value),.bool x.q.has] 85 (0,0))]::og::[(b41,.cells #[.string (bk ((K5 spk q2.pre).getD [])),.string (bk q2.name),.slice oa no oc,.slice none 0 0,.string eB] 26 (0,0))]::ng::[(t,.cells #[.string (bk l),.int .i64 ((zT:Nat):Int)] 53 (0,0))]::tg::[(b3,.cells #[.string (bk q2.pre),.string (bk q2.name),.string eB,.bool q2.has] 85 (0,0))]::[(b1,.cells zN.toArray 26 (0,0))]::H)) kr (R4 (H':=([(b47,.cells #[.string (bk (asX spk x)),.string (bk x.q.name),.string (bk x.value)] 59 (0,0))]::[(b44,.cells #[.string (bk x.q.pre),.string (bk x.q.name),.string (bk x.value),.bool x.q.has] 85 (0,0))]::og::[(b41,.cells #[.string (bk ((K5 spk q2.pre).getD [])),.string (bk q2.name),.slice oa no oc,.slice none 0 0,.string eB] 26 (0,0))]::ng::[(t,.cells #[.string (bk l),.int .i64 ((zT:Nat):Int)] 53 (0,0))]::tg::[(b3,.cells #[.string (bk q2.pre),.string (bk q2.name),.string eB,.bool q2.has] 85 (0,0))]::[(b1,.cells zN.toArray 26 (0,0))]::H)) (by rw [hq9]; try rfl) (N_joinR (()) [0,1,6,8,11,12,17,22,146,147,148] kr (fun w h=>h.pkT 0 []) hsx0))
       have hhas:=hc48
       refine A7 (L6 (E':=[⟨0,[],pt t⟩,⟨1,[],.int .i64 d⟩,⟨6,[],pt b1⟩,⟨8,[],pt b3⟩,⟨11,[],.bool cl⟩,⟨12,[],.slice na nn nc⟩,⟨17,[],pt b41⟩,⟨21,[],pt b44⟩,⟨22,[],pt b47⟩,⟨146,[],.slice ta ats.length tc⟩,⟨147,[],.int .i64 ((ats.length:Nat):Int)⟩,⟨148,[],.int .i64 ((k:Nat):Int)⟩,⟨175,[],.bool x.q.has⟩]) kr ?_)
       have hq9:=as_no (sp:=spk) hhas
       have hsx0:x.q.has=true→(K5 spk x.q.pre).isSome=true:=fun h9=>by rw [hhas] at h9; cases h9
       refine R4 (H':=([(b47,.cells #[.string eB,.string (bk x.q.name),.string (bk x.value)] 59 (0,0))]::[(b44,.cells #[.string (bk x.q.pre),.string (bk x.q.name),.string (bk x.value),.bool x.q.has] 85 (0,0))]::og::[(b41,.cells #[.string (bk ((K5 spk q2.pre).getD [])),.string (bk q2.name),.slice oa no oc,.slice none 0 0,.string eB] 26 (0,0))]::ng::[(t,.cells #[.string (bk l),.int .i64 ((zT:Nat):Int)] 53 (0,0))]::tg::[(b3,.cells #[.string (bk q2.pre),.string (bk q2.name),.string eB,.bool q2.has] 85 (0,0))]::[(b1,.cells zN.toArray 26 (0,0))]::H)) kr (R4 (H':=([(b47,.cells #[.string (bk (asX spk x)),.string (bk x.q.name),.string (bk x.value)] 59 (0,0))]::[(b44,.cells #[.string (bk x.q.pre),.string (bk x.q.name),.string (bk x.value),.bool x.q.has] 85 (0,0))]::og::[(b41,.cells #[.string (bk ((K5 spk q2.pre).getD [])),.string (bk q2.name),.slice oa no oc,.slice none 0 0,.string eB] 26 (0,0))]::ng::[(t,.cells #[.string (bk l),.int .i64 ((zT:Nat):Int)] 53 (0,0))]::tg::[(b3,.cells #[.string (bk q2.pre),.string (bk q2.name),.string eB,.bool q2.has] 85 (0,0))]::[(b1,.cells zN.toArray 26 (0,0))]::H)) (by rw [hq9]; try rfl) (N_joinR (()) [0,1,6,8,11,12,17,22,146,147,148] kr (fun w h=>h.pkT 0 []) hsx0))
       ·
        rintro _ hsx
        refine A0 (A1 (A1 (A2 (A3 (j:=1) [0] (k:=C1 3 2 rfl rfl (A5 [0,0] [0,1,6,8,11,12,17,22,146,147,148,189,190,191] (k:=A0 (B3 ?_))))))))
        refine I6 (EI:=(fun ξ:Nat=>[⟨0,[],pt t⟩,⟨1,[],.int .i64 d⟩,⟨6,[],pt b1⟩,⟨8,[],pt b3⟩,⟨11,[],.bool cl⟩,⟨12,[],.slice na nn nc⟩,⟨17,[],pt b41⟩,⟨22,[],pt b47⟩,⟨146,[],.slice ta ats.length tc⟩,⟨147,[],.int .i64 ((ats.length:Nat):Int)⟩,⟨148,[],.int .i64 ((k:Nat):Int)⟩,⟨189,[],.slice oa no oc⟩,⟨190,[],.int .i64 ((no:Nat):Int)⟩,⟨191,[],.int .i64 ((ξ:Nat):Int)⟩])) (HI:=(fun ξ:Nat=>([(b47,.cells #[.string (bk (asX spk x)),.string (bk x.q.name),.string (bk x.value)] 59 (0,0))]::[(b44,.cells #[.string (bk x.q.pre),.string (bk x.q.name),.string (bk x.value),.bool x.q.has] 85 (0,0))]::og::[(b41,.cells #[.string (bk ((K5 spk q2.pre).getD [])),.string (bk q2.name),.slice oa no oc,.slice none 0 0,.string eB] 26 (0,0))]::ng::[(t,.cells #[.string (bk l),.int .i64 ((zT:Nat):Int)] 53 (0,0))]::tg::[(b3,.cells #[.string (bk q2.pre),.string (bk q2.name),.string eB,.bool q2.has] 85 (0,0))]::[(b1,.cells zN.toArray 26 (0,0))]::H))) (Φ:=(fun ξ:Nat=>(ξ≤out.length)∧(∀ y∈out.take ξ,(y.space==asX spk x&&y.name==x.q.name)=false))) (μ:=(fun ξ:Nat=>out.length - ξ)) (s0:=(0)) [0,1,6,8,11,12,17,22,146,147,148,189,190,191] kr kr ⟨(Nat.zero_le _),(fun o h=>absurd h (by rw [List.take_zero]; exact List.not_mem_nil))⟩ ?_
        rintro j ⟨hjk,hny⟩
        try dsimp only at hjk hny
        refine A1 (G_p [0] [0,1,6,8,11,12,17,22,146,147,148,189,190,191,192] (k:=A0 (A1 (B1 (b:=decide (((j:Nat):Int)<((no:Nat):Int))) kr (fun hc50=>?_) (fun hc50=>?_)))))
        have hj2:j<out.length:=by have:=hc50; simp only [decide_eq_true_eq] at this; omega
        refine A7 (A0 (A1 (B3 (A1 (A2 (E4 (a:=oa) (S:=(inG og)) (cs:=(xaV out)) no ((j:Nat):Int) 3 (F0 hAO) (by exact ⟨by omega,by omega,by intro h; have h2:=congrArg List.length h; rw [A0a] at h2; simp only [List.length_nil] at h2; omega⟩) ?_))))))
        obtain ⟨y,hy⟩:∃ y,y=out[j]'hj2:=⟨_,rfl⟩
        refine K0 (ch:=[]) (a:=oa) (q:=j * 3) (S:=(inG og)) (cs:=(xaV out)) (l:=[.string (bk y.space),.string (bk y.name),.string (bk y.value)]) (hrd:=F0 hAO) (hS:=E0 2 rfl) (hl:=List.cons_ne_nil _ _) (hv:=(fun _=>(elt3 (by rw [hy]; exact xaV_at hj2)))) (k:=J1 (.agg #[.string eB,.string eB,.string eB]) (fun b51=>D0 0 0 (.agg #[.string (bk y.space),.string (bk y.name),.string (bk y.value)]) rfl (A5 [] [0,1,6,8,11,12,17,22,26,146,147,148,189,190,191] (k:=A0 (A1 (A2 (A3 (j:=1) [0] (k:=C1 1 0 rfl rfl ?_))))))))
        refine A3 (j:=3) [0] (k:=C1 0 0 rfl rfl (A3 (j:=7) [0,0,0] (k:=C2 (ch:=[(200,true)]) (b:=b47) (off:=1) (v:=.string (bk x.q.name)) (hA:=At.grp 1 0 rfl rfl) (k:=A3 (j:=9) [0] (k:=C2 (ch:=[(200,true)]) (b:=b51) (off:=1) (v:=.string (bk y.name)) (hA:=At.grp 0 0 rfl rfl) (k:=A5 [0,6] [0,1,6,8,11,12,17,22,146,147,148,189,190,191,206] (k:=A0 (B1 (b:=((bk (asX spk x)).toList==(bk y.space).toList)&&((bk x.q.name).toList==(bk y.name).toList)) kr (fun hc52=>?_) (fun hc52=>?_)))))))))
        have hE:=el_m (lv:=lv) hqn htg hsp hspk (show O3 ats [] spk=none by rw [hM,drop_cons hk,← hx,mkE_go hd hsx,if_pos (any_yes (y:=y) (by rw [hy]; exact List.getElem_mem hj2) (by rw [← a_eq]; exact hc52))])
        refine A1 (A2 (A3 (j:=1) [0] (k:=D0 9 0 (.agg zN.toArray) rfl (C0 (E':=[⟨6,[],pt b1⟩,⟨7,[],.int .i64 70⟩]) [0] [6,7] (k:=A0 (B4 (B0 (A4 ?_))))))))
        refine A4 (B0 (A4 (B0 (A4 (A4 (B0 (A4 (P1 8 [6,8] ([(t,.cells #[.string (bk l),.int .i64 ((zT:Nat):Int)] 53 (0,0))]::[(b1,.cells zN.toArray 26 (0,0))]::H) ?_))))))))
        refine F3 (H':=([(t,.cells #[.string (bk l),.int .i64 ((zT:Nat):Int)] 53 (0,0))]::[(b1,.cells zN.toArray 26 (0,0))]::H)) (fun w h=>Sat.flat h (List.Perm.of_eq (by simp []))) (J7 [.cell 6 26,.tmp 7] [.agg zN.toArray,.int .i64 70] rfl (.cons (.aq 1 0 rfl) (.cons .tq (.nil))) rfl ⟨_,?_,fun w h=>(h.pk 1 [0])⟩)
        exact .inr ⟨_,_,hE,by first | decide | exact heP,by omega,rfl,rfl⟩
        have hsm:(y.space==asX spk x&&y.name==x.q.name)=false:=by rw [← a_eq]; exact hc52
        refine A7 (B8 (A0 (A2 (A3 (j:=1) [0] (k:=D1 208 (((j:Nat):Int)+1) (by omega) (by omega) kr (A5 [0] [0,1,6,8,11,12,17,22,146,147,148,189,190,191] (k:=F8 1 [1,1,1,1,1,1,1,1,1] (D2 (s':=(j+1)) [0,1,6,8,11,12,17,22,146,147,148,189,190,191] kr kr ⟨(by omega),(all_snoc hj2 hy hny hsm)⟩ (by omega)))))))))
        have hj2:j=out.length:=by have:=hc50; simp only [decide_eq_false_iff_not] at this; omega
        rw [hj2,List.take_length] at hny
        have hany:=any_no hny
        refine E7 (A6 (A6 (B6 (A0 (A2 (A3 (j:=1) [0] (k:=C1 3 2 rfl rfl (M9 0 0 3 rfl ?_))))))))
        refine H0 59 1 [.string (bk (asX spk x)),.string (bk x.q.name),.string (bk x.value)] (fun b54=>L7 (inf:=Tryz.t59) 1 0 3 rfl rfl hAO (by omega) (by show (no+1) * 48≤140737488355328; omega) (fun v55 g56 hO57=>?_))
        obtain ⟨a58,cap59,rfl,hcap60,hrd61⟩:=hO57.shape
        refine A3 (j:=6) [0] (k:=D0 4 2 (.slice a58 (no+1) cap59) rfl (A5 [] [0,1,6,8,11,12,17,146,147,148] (k:=B8 (A0 (A2 (A3 (j:=1) [0] (k:=D1 215 (((k:Nat):Int)+1) (by omega) (by omega) kr (A5 [0] [0,1,6,8,11,12,17,146,147,148] (k:=?_)))))))))
        refine F8 3 [3,3,3,3,3,3,3] (D2 (s':=((k+1),(out++[⟨asX spk x,x.q.name,x.value⟩]),(no+1),a58,cap59,g56)) [0,1,6,8,11,12,17,146,147,148] kr kr ⟨(by dsimp only; omega),(by dsimp only; rw [hM,drop_cons hk,← hx,mkE_go hd hsx,if_neg (by rw [hany]; decide)]),(by dsimp only; rw [xaV_app]; exact hO57),(by dsimp only; rw [List.length_append,hno]; rfl),(by dsimp only; omega)⟩ (by dsimp only; omega))
     have hk:ats.length≤k:=by have:=hc43; simp only [decide_eq_false_iff_not] at this; omega
     have hma:O3 ats [] spk=some out:=by rw [hM,List.drop_eq_nil_of_le hk]; rfl
     have hhd0:=el_head hqn htg hsp hspk hma
     refine E7 (A6 (A6 (B6 (A0 (A1 (A1 (G_p [0,0] [0,1,6,8,11,12,17,217] (k:=A0 ?_))))))))
     refine B1 (b:=d==24) kr (fun hc63=>?_) (fun hc63=>?_)
     have hl0:lv=0:=by have:=hc63; simp only [beq_iff_eq] at this; omega
     have hE:elE lv sp (l.drop i)=.error 71:=by rw [hl0]; exact el_0 hhd0
     refine A1 (A2 (A3 (j:=1) [0] (k:=D0 6 0 (.agg zN.toArray) rfl (C0 (E':=[⟨6,[],pt b1⟩,⟨7,[],.int .i64 71⟩]) [0] [6,7] (k:=A0 (B4 (A4 (P1 5 [3,5] ([(t,.cells #[.string (bk l),.int .i64 ((zT:Nat):Int)] 53 (0,0))]::[(b1,.cells zN.toArray 26 (0,0))]::H) ?_))))))))
     refine F3 (H':=([(t,.cells #[.string (bk l),.int .i64 ((zT:Nat):Int)] 53 (0,0))]::[(b1,.cells zN.toArray 26 (0,0))]::H)) (fun w h=>Sat.flat h (List.Perm.of_eq (by simp []))) (J7 [.cell 6 26,.tmp 7] [.agg zN.toArray,.int .i64 71] rfl (.cons (.aq 1 0 rfl) (.cons .tq (.nil))) rfl ⟨_,?_,fun w h=>(h.pk 1 [0])⟩)
     exact .inr ⟨_,_,hE,by first | decide | exact heP,by omega,rfl,rfl⟩
     obtain ⟨m,hlm⟩:∃ m,lv=m+1:=⟨lv - 1,by have:=hc63; simp only [beq_eq_false_iff_ne] at this; omega⟩
     refine A7 (A0 (A1 (A1 (G_p [0] [0,1,6,8,12,17,219] (k:=A0 (B1 (b:=cl) kr (fun hc64=>?_) (fun hc64=>?_)))))))
     have hcl:=hc64
     subst hcl
     have hE:elE lv sp (l.drop i)=_:=(congrArg (fun n=>elE n sp (l.drop i)) hlm).trans (el_c hhd0)
     refine A1 (A2 (M9 1 0 5 rfl (D0 6 0 (.agg #[.string (bk ((K5 spk q2.pre).getD [])),.string (bk q2.name),.slice oa no oc,.slice none 0 0,.string eB]) rfl (C0 (E':=[⟨6,[],pt b1⟩,⟨7,[],.int .i64 0⟩]) [0] [6,7] (k:=A0 (B4 (A4 (P1 4 [3,5,0] ([(t,.cells #[.string (bk l),.int .i64 ((zT:Nat):Int)] 53 (0,0))]::[(b1,.cells #[.string (bk ((K5 spk q2.pre).getD [])),.string (bk q2.name),.slice oa no oc,.slice none 0 0,.string eB] 26 (0,0))]::og::H) ?_))))))))
     refine F3 (H':=([(t,.cells #[.string (bk l),.int .i64 ((zT:Nat):Int)] 53 (0,0))]::[(b1,.cells #[.string (bk ((K5 spk q2.pre).getD [])),.string (bk q2.name),.slice oa no oc,.slice none 0 0,.string eB] 26 (0,0))]::(og++([]++[]))::H)) (fun w h=>Sat.flat h (List.Perm.of_eq (by simp []))) (J7 [.cell 6 26,.tmp 7] [.agg #[.string (bk ((K5 spk q2.pre).getD [])),.string (bk q2.name),.slice oa no oc,.slice none 0 0,.string eB],.int .i64 0] rfl (.cons (.aq 1 0 rfl) (.cons .tq (.nil))) rfl ⟨_,?_,fun w h=>(h.pk 1 [0,1])⟩)
     subst hno; exact .inl ⟨_,zT,_,_,hE,by omega,hzT,rfl,.mk (l:=[]) hAO Go.Sw.Own.nil .nil,rfl,rfl⟩
     have hcl:=hc64
     subst hcl
     have hhd:=hhd0
     refine A7 (A0 (A1 (B3 (R1 (H':=([]::[]::og::[(b41,.cells #[.string (bk ((K5 spk q2.pre).getD [])),.string (bk q2.name),.slice oa no oc,.slice none 0 0,.string eB] 26 (0,0))]::ng::[(t,.cells #[.string (bk l),.int .i64 ((zT:Nat):Int)] 53 (0,0))]::tg::[(b3,.cells #[.string (bk q2.pre),.string (bk q2.name),.string eB,.bool q2.has] 85 (0,0))]::[(b1,.cells zN.toArray 26 (0,0))]::H)) (fun w h=>h.flat (List.Perm.refl _)) (I6 (EI:=(fun ξ:Nat × Nat × List XN × Nat × Option Addr × Nat × Grp × Grp × List Value=>[⟨0,[],pt t⟩,⟨1,[],.int .i64 d⟩,⟨6,[],pt b1⟩,⟨8,[],pt b3⟩,⟨12,[],.slice na nn nc⟩,⟨17,[],pt b41⟩])) (HI:=(fun ξ:Nat × Nat × List XN × Nat × Option Addr × Nat × Grp × Grp × List Value=>(ξ.2.2.2.2.2.2.1::ξ.2.2.2.2.2.2.2.1::og::[(b41,.cells #[.string (bk ((K5 spk q2.pre).getD [])),.string (bk q2.name),.slice oa no oc,.slice ξ.2.2.2.2.1 ξ.2.2.2.1 ξ.2.2.2.2.2.1,.string eB] 26 (0,0))]::ng::[(t,.cells #[.string (bk l),.int .i64 ((ξ.2.1:Nat):Int)] 53 (0,0))]::tg::[(b3,.cells #[.string (bk q2.pre),.string (bk q2.name),.string eB,.bool q2.has] 85 (0,0))]::[(b1,.cells zN.toArray 26 (0,0))]::H))) (Φ:=(fun ξ:Nat × Nat × List XN × Nat × Option Addr × Nat × Grp × Grp × List Value=>(zT≤ξ.2.1)∧(ξ.2.1≤l.length)∧(l.length - ξ.2.1<ξ.1)∧(X2 (elE m spk) ((l.drop zT).length+1) [] (l.drop zT)=X2 (elE m spk) ξ.1 ξ.2.2.1 (l.drop ξ.2.1))∧(Go.Sw.Own 26 5 (.slice ξ.2.2.2.2.1 ξ.2.2.2.1 ξ.2.2.2.2.2.1) ξ.2.2.2.2.2.2.1 ξ.2.2.2.1 ξ.2.2.2.2.2.2.2.2)∧(ξ.2.2.2.1=ξ.2.2.1.length)∧(XRepL 59 26 ξ.2.2.1 ξ.2.2.2.2.2.2.2.2 ξ.2.2.2.2.2.2.2.1)∧(ξ.2.2.2.1≤ξ.2.1)∧(lastT ξ.2.2.1≤4 * ξ.2.1))) (μ:=(fun ξ:Nat × Nat × List XN × Nat × Option Addr × Nat × Grp × Grp × List Value=>l.length - ξ.2.1)) (s0:=(((l.drop zT).length+1),zT,[],0,none,0,[],[],[])) [0,1,6,8,12,17] kr kr ⟨(Nat.le_refl _),hzT,(by dsimp only; rw [List.length_drop]; omega),rfl,Go.Sw.Own.nil,rfl,.nil,(Nat.zero_le _),(Nat.zero_le _)⟩ ?_)))))
     rintro ⟨f,j,ks,kn,ka,kc,kg,gs,kcs⟩ ⟨hzj,hj,hf,hCT,hKO,hkn,hKP,hkb,hlt⟩
     dsimp only at hzj hj hf hCT hKO hkn hKP hkb hlt
     obtain ⟨f1,rfl⟩:∃ f1,f=f1+1:=⟨f - 1,by omega⟩
     refine A1 (A1 (A2 (A3 (j:=1) [0] (k:=M1 0 [5] (D9 Tryz.func22 (R9 t l j hl (by omega) [60,47] (Nat.le_of_ble_eq_true rfl) _ _) ?_)))))
     rintro _ _ (⟨hk65,hk65l,rfl,rfl⟩ | ⟨hk65,rfl,rfl⟩)
     have hk65:[60,47].isPrefixOf (l.drop j)=true:=hk65
     have hk65l:j+2≤l.length:=hk65l
     have hCE:_=_:=hCT.trans (ct_end hk65)
     refine A5 [0] [0,1,6,8,12,17,223] (k:=A0 (C5 kr (E7 (A6 (A6 (B6 (A0 (A1 ?_))))))))
     refine A2 (A3 (j:=1) [0] (k:=D9 Tryz.func46 (rTmark_ t l (j+2) hl (by omega) _ _) ?_))
     rintro _ _ ⟨q66,z66,hq66g,hq66l,rfl,hq66,rfl⟩
     have hqw:=hq66
     refine A3 (j:=5) [0,0,0] (k:=J1 (.agg #[.string eB,.string eB,.string eB,.bool false]) (fun b67=>D0 0 0 (.agg #[.string (bk q66.pre),.string (bk q66.name),.string eB,.bool q66.has]) rfl (A5 [0] [0,6,8,9,17,28] (k:=A0 (A1 (A2 (A3 (j:=1) [0] (k:=M1 0 [1] ?_))))))))
     refine D9 Tryz.func44 (rTblanks_ t l z66 hl (by omega) _ _) ?_
     rintro _ _ ⟨i68,hbi68,hbi68g,hbi68l,rfl,rfl⟩
     have hbl:=hbi68
     refine A5 [] [0,6,8,9,17,28] (k:=A0 (A1 (A1 ?_)))
     rcases q_roads q2 hqw with hq2 | ⟨hq2,hqb⟩ | ⟨hq2,hqb⟩
     have hE:elE lv sp (l.drop i)=.error 70:=by rw [hlm,el_n hhd,hCE]; dsimp only; rw [en_q hq2]
     refine A2 (A3 (j:=2) [0,0] (k:=E3 240 (x:=.bool (!((G5 (l.drop (j+2))).isSome))) (y:=.bool true) (by rw [hq2]; rfl) (A5 [0,1,1,1,2,0,1,1,1,2] [6,17,250] (k:=A0 (B9 kr (A1 (A2 (A3 (j:=1) [0] (k:=?_)))))))))
     refine D0 9 0 (.agg zN.toArray) rfl (C0 (E':=[⟨6,[],pt b1⟩,⟨7,[],.int .i64 70⟩]) [0] [6,7] (k:=A0 (B4 (A4 (P1 8 [0,8] ([(t,.cells #[.string (bk l),.int .i64 ((i68:Nat):Int)] 53 (0,0))]::[(b1,.cells zN.toArray 26 (0,0))]::H) (F3 (H':=([(t,.cells #[.string (bk l),.int .i64 ((i68:Nat):Int)] 53 (0,0))]::[(b1,.cells zN.toArray 26 (0,0))]::H)) (fun w h=>Sat.flat h (List.Perm.of_eq (by simp []))) (J7 [.cell 6 26,.tmp 7] [.agg zN.toArray,.int .i64 70] rfl (.cons (.aq 1 0 rfl) (.cons .tq (.nil))) rfl ⟨_,?_,fun w h=>(h.pk 1 [0])⟩)))))))
     exact .inr ⟨_,_,hE,by first | decide | exact heP,by omega,rfl,rfl⟩
     have hE:elE lv sp (l.drop i)=.error 70:=by rw [hlm,el_n hhd,hCE]; dsimp only; rw [en_ne hq2 hqb]
     refine A2 (A3 (j:=2) [0,0] (k:=E3 240 (x:=.bool (!((G5 (l.drop (j+2))).isSome))) (y:=.bool false) (by rw [hq2]; rfl) (A3 (j:=3) [0] (k:=Q0 (ch:=[(241,false)]) (b:=b67) (off:=0) (l:=[.string (bk q66.pre),.string (bk q66.name),.string eB,.bool q66.has]) (hA:=At.grp 1 0 rfl rfl) (k:=Q0 (ch:=[(241,false)]) (b:=b3) (off:=0) (l:=[.string (bk q2.pre),.string (bk q2.name),.string eB,.bool q2.has]) (hA:=At.grp 8 0 rfl rfl) (k:=GL_eqAgg (ch:=[(241,false)]) (A:=[.string (bk q66.pre),.string (bk q66.name),.string eB,.bool q66.has]) (B:=[.string (bk q2.pre),.string (bk q2.name),.string eB,.bool q2.has]) (r:=(!((((bk q66.pre)).toList==((bk q2.pre)).toList)&&((((bk q66.name)).toList==((bk q2.name)).toList)&&(((eB).toList==(eB).toList)&&((q66.has==q2.has)&&true)))))) true (hr:=rfl) (k:=N7 244 [(241,false)] (x:=.bool (!((((bk q66.pre)).toList==((bk q2.pre)).toList)&&((((bk q66.name)).toList==((bk q2.name)).toList)&&(((eB).toList==(eB).toList)&&((q66.has==q2.has)&&true)))))) (y:=.bool true) (by rw [mk_ne,decide_eq_true hqb]) (A5 [3,0,1,1,1,2] [6,17,250] (k:=?_)))))))))
     refine A0 (B9 kr (A1 (A2 (A3 (j:=1) [0] (k:=D0 9 0 (.agg zN.toArray) rfl (C0 (E':=[⟨6,[],pt b1⟩,⟨7,[],.int .i64 70⟩]) [0] [6,7] (k:=A0 (B4 ?_))))))))
     refine A4 (P1 8 [0,8] ([(t,.cells #[.string (bk l),.int .i64 ((i68:Nat):Int)] 53 (0,0))]::[(b1,.cells zN.toArray 26 (0,0))]::H) (F3 (H':=([(t,.cells #[.string (bk l),.int .i64 ((i68:Nat):Int)] 53 (0,0))]::[(b1,.cells zN.toArray 26 (0,0))]::H)) (fun w h=>Sat.flat h (List.Perm.of_eq (by simp []))) (J7 [.cell 6 26,.tmp 7] [.agg zN.toArray,.int .i64 70] rfl (.cons (.aq 1 0 rfl) (.cons .tq (.nil))) rfl ⟨_,?_,fun w h=>(h.pk 1 [0])⟩)))
     exact .inr ⟨_,_,hE,by first | decide | exact heP,by omega,rfl,rfl⟩
     rw [hqb] at hq2
     refine A2 (A3 (j:=2) [0,0] (k:=E3 240 (x:=.bool (!((G5 (l.drop (j+2))).isSome))) (y:=.bool false) (by rw [hq2]; rfl) (A3 (j:=3) [0] (k:=Q0 (ch:=[(241,false)]) (b:=b67) (off:=0) (l:=[.string (bk q66.pre),.string (bk q66.name),.string eB,.bool q66.has]) (hA:=At.grp 1 0 rfl rfl) (k:=Q0 (ch:=[(241,false)]) (b:=b3) (off:=0) (l:=[.string (bk q2.pre),.string (bk q2.name),.string eB,.bool q2.has]) (hA:=At.grp 8 0 rfl rfl) (k:=GL_eqAgg (ch:=[(241,false)]) (A:=[.string (bk q66.pre),.string (bk q66.name),.string eB,.bool q66.has]) (B:=[.string (bk q2.pre),.string (bk q2.name),.string eB,.bool q2.has]) (r:=(!((((bk q66.pre)).toList==((bk q2.pre)).toList)&&((((bk q66.name)).toList==((bk q2.name)).toList)&&(((eB).toList==(eB).toList)&&((q66.has==q2.has)&&true)))))) true (hr:=rfl) (k:=N7 244 [(241,false)] (x:=.bool (!((((bk q66.pre)).toList==((bk q2.pre)).toList)&&((((bk q66.name)).toList==((bk q2.name)).toList)&&(((eB).toList==(eB).toList)&&((q66.has==q2.has)&&true)))))) (y:=.bool false) (by rw [mk_ne,hqb]; simp) (A3 (j:=9) [3,0,0] (k:=?_)))))))))
     refine Q2 (ch:=[(246,false)]) (f:=22) (fst:=#[]) (caps:=#[]) (vs:=[pt t,.string (mB #[62])]) (hf:=Tryz.func22) (hsure:=M3 kr) (hc:=R9 t l i68 hl (by omega) [62] (Nat.le_of_ble_eq_true rfl) _ _) (k:=?_)
     rintro _ _ (⟨hk69,hk69l,rfl,rfl⟩ | ⟨hk69,rfl,rfl⟩)
     have hk69:[62].isPrefixOf (l.drop i68)=true:=hk69
     have hk69l:i68+1≤l.length:=hk69l
     have hen:=en_yes hq2 hbl hk69
     refine A5 [0,3] [6,17,250] (k:=A0 (C5 kr (A7 (A0 (A1 (A2 (M9 5 0 5 rfl (D0 9 0 (.agg #[.string (bk ((K5 spk q2.pre).getD [])),.string (bk q2.name),.slice oa no oc,.slice ka kn kc,.string eB]) rfl ?_))))))))
     refine C0 (E':=[⟨6,[],pt b1⟩,⟨7,[],.int .i64 0⟩]) [0] [6,7] (k:=A0 (B4 (P1 5 [0,8,3,1,1] ([(t,.cells #[.string (bk l),.int .i64 ((i68+1:Nat):Int)] 53 (0,0))]::[(b1,.cells #[.string (bk ((K5 spk q2.pre).getD [])),.string (bk q2.name),.slice oa no oc,.slice ka kn kc,.string eB] 26 (0,0))]::og::kg::gs::H) (F3 (H':=([(t,.cells #[.string (bk l),.int .i64 ((i68+1:Nat):Int)] 53 (0,0))]::[(b1,.cells #[.string (bk ((K5 spk q2.pre).getD [])),.string (bk q2.name),.slice oa no oc,.slice ka kn kc,.string eB] 26 (0,0))]::(og++(kg++gs))::H)) (fun w h=>Sat.flat h (List.Perm.of_eq (by simp []))) (J7 [.cell 6 26,.tmp 7] [.agg #[.string (bk ((K5 spk q2.pre).getD [])),.string (bk q2.name),.slice oa no oc,.slice ka kn kc,.string eB],.int .i64 0] rfl (.cons (.aq 1 0 rfl) (.cons .tq (.nil))) rfl ⟨_,?_,fun w h=>(h.pk 1 [0,1])⟩)))))
     have hE:elE lv sp (l.drop i)=.ok (.mk ((K5 spk q2.pre).getD []) q2.name out ks [],l.drop (i68+1)):=by rw [hlm,el_n hhd,hCE]; dsimp only; rw [hen]
     subst hno; subst hkn; exact .inl ⟨_,_,_,_,hE,by omega,by omega,rfl,.mk hAO hKO hKP,rfl,rfl⟩
     have hk69:[62].isPrefixOf (l.drop i68)=false:=hk69
     have hE:elE lv sp (l.drop i)=.error 70:=by rw [hlm,el_n hhd,hCE]; dsimp only; rw [en_no hq2 hbl hk69]
     refine A5 [0,3] [6,17,250] (k:=A0 (B9 kr (A1 (A2 (A3 (j:=1) [0] (k:=D0 9 0 (.agg zN.toArray) rfl (C0 (E':=[⟨6,[],pt b1⟩,⟨7,[],.int .i64 70⟩]) [0] [6,7] (k:=A0 ?_))))))))
     refine B4 (A4 (P1 8 [0,8] ([(t,.cells #[.string (bk l),.int .i64 ((i68:Nat):Int)] 53 (0,0))]::[(b1,.cells zN.toArray 26 (0,0))]::H) (F3 (H':=([(t,.cells #[.string (bk l),.int .i64 ((i68:Nat):Int)] 53 (0,0))]::[(b1,.cells zN.toArray 26 (0,0))]::H)) (fun w h=>Sat.flat h (List.Perm.of_eq (by simp []))) (J7 [.cell 6 26,.tmp 7] [.agg zN.toArray,.int .i64 70] rfl (.cons (.aq 1 0 rfl) (.cons .tq (.nil))) rfl ⟨_,?_,fun w h=>(h.pk 1 [0])⟩))))
     exact .inr ⟨_,_,hE,by first | decide | exact heP,by omega,rfl,rfl⟩
     have hk65:[60,47].isPrefixOf (l.drop j)=false:=hk65
     have hce:=hk65
     refine A5 [0] [0,1,6,8,12,17,223] (k:=A0 (B9 kr (A7 (A0 (B3 (A1 (A2 (A3 (j:=3) [0,0,0] (k:=?_)))))))))
     refine M1 0 [0,3] (D9 Tryz.func49 (rTpiece_ t l j hl hj b41 (.string (bk ((K5 spk q2.pre).getD []))) (.string (bk q2.name)) (.slice oa no oc) (.string eB) ks kn ka kc kg gs kcs hkn hKO hKP (by omega) (by omega) d (by omega) (elE m spk) na nn nc (inG ng) (fun i hi W0 H hS=>hel m hlm i hi spk na nn nc (inG ng) hns (F0 hNO) (by omega) W0 H hS) _ _ (E0 1 rfl)) ?_)
     rintro _ _ (⟨ksP,jP,knP,kaP,kcP,kgP,csP,gsP,hpE,hjP,hjPl,rfl,hknP,hKOP,hKPP,hbP,hltP,rfl⟩ | ⟨eP,zP,cP,kgP,hpE,heP,hzP,rfl,rfl⟩)
     refine A5 [0] [0,1,6,8,12,17,27] (k:=A0 (A1 (G_p [0,0] [0,1,6,8,12,17,27,229] (k:=A0 (C5 kr (A7 (B8 (F8 0 [2,2,2,1,1,0,0,0,0] ?_))))))))
     refine D2 (s':=(f1,jP,ksP,knP,kaP,kcP,kgP,gsP,csP)) [0,1,6,8,12,17] kr kr ⟨(by dsimp only; omega),hjPl,(by dsimp only; omega),(by dsimp only; rw [hCT,ct_go hce hpE]),hKOP,hknP,hKPP,hbP,hltP⟩ (by dsimp only; omega)
     have hE:elE lv sp (l.drop i)=.error eP:=by rw [hlm,el_n hhd,hCT,ct_err hce hpE]
     refine A5 [0] [0,1,6,8,12,17,27] (k:=A0 (A1 (G_p [0,0] [0,1,6,8,12,17,27,229] (k:=A0 (B1 (b:=eP != 0) kr (fun hc70=>?_) (fun hc70=>?_))))))
     refine A1 (A2 (A3 (j:=2) [0,0] (k:=D0 7 0 (.agg zN.toArray) rfl (C0 (E':=[⟨6,[],pt b1⟩,⟨7,[],.int .i64 eP⟩]) [0] [6,7] (k:=A0 (B4 (B0 (A4 ?_))))))))
     refine B0 (A4 (P1 6 [0,6] ([(t,.cells #[.string (bk l),.int .i64 ((zP:Nat):Int)] 53 (0,0))]::[(b1,.cells zN.toArray 26 (0,0))]::H) (F3 (H':=([(t,.cells #[.string (bk l),.int .i64 ((zP:Nat):Int)] 53 (0,0))]::[(b1,.cells zN.toArray 26 (0,0))]::H)) (fun w h=>Sat.flat h (List.Perm.of_eq (by simp []))) (J7 [.cell 6 26,.tmp 7] [.agg zN.toArray,.int .i64 eP] rfl (.cons (.aq 1 0 rfl) (.cons .tq (.nil))) rfl ⟨_,?_,fun w h=>(h.pk 1 [0])⟩))))
     exact .inr ⟨_,_,hE,by first | decide | exact heP,by omega,rfl,rfl⟩
     exact absurd (by have h9:=hc70; simpa using h9) heP
  have hE:=el_t (lv:=lv) (sp0:=sp) hqn htg
  refine A5 [0,0,0,0,0,0,0] [0,1,2,6,8,9,10,11] (k:=A0 (A1 (A1 (G_p [0,0] [0,1,2,6,8,10,11,44] (k:=A0 (B9 kr (A1 (A2 ?_))))))))
  refine A3 (j:=1) [0] (k:=D0 2 0 (.agg zN.toArray) rfl (C0 (E':=[⟨6,[],pt b1⟩,⟨7,[],.int .i64 70⟩]) [0] [6,7] (k:=A0 (B4 (A4 (P1 1 [0,1] ([(t,.cells #[.string (bk l),.int .i64 ((zT:Nat):Int)] 53 (0,0))]::[(b1,.cells zN.toArray 26 (0,0))]::H) (F3 (H':=([(t,.cells #[.string (bk l),.int .i64 ((zT:Nat):Int)] 53 (0,0))]::[(b1,.cells zN.toArray 26 (0,0))]::H)) (fun w h=>Sat.flat h (List.Perm.of_eq (by simp []))) (J7 [.cell 6 26,.tmp 7] [.agg zN.toArray,.int .i64 70] rfl (.cons (.aq 1 0 rfl) (.cons .tq (.nil))) rfl ⟨_,?_,fun w h=>(h.pk 1 [0])⟩))))))))
  exact .inr ⟨_,_,hE,by first | decide | exact heP,by omega,rfl,rfl⟩
end Go.Proofs.YtcgmnagcgkhogabGreatDoor
namespace Go.Proofs.YtcgmnagcgkhogabGreatDoor
open Go.Sw Go.Sha Go.Esc Go.RowKit Go.Json Go.Xml
theorem GH_off {P:Program} {ops:Array Oper} {L:List Grp} {fuel:Nat} {listed:Array Bool} {Q:E9} {n:Fr} {E:Env} {W0:World} {H:List Grp} {o:Oper} (i:Nat)
  (ho:ops[i]? = some o) (hp:pstep P ops n 1 o E=some (Env.put E o.dst [] undef)) (hs:Region.noSelect ops=true) (hf:Region.free .any ops listed i=true)
  (hr:(Region.ready .any ops listed).contains i=true) (hL:∀ w,Sat W0 H w→Sat W0 L w)
  (k:GH P ops L fuel (listed.setIfInBounds i true) Q n (Env.put E o.dst [] undef) W0 H):GH P ops L (fuel+1) listed Q n E W0 H:=by
 intro a w ha hsat
 rcases pstep_sound hp ha with ⟨hw,hput⟩ | ⟨hw,v,hv,hput⟩
 exact wpAnyH_take (v:=undef) ho hs hf hr (fun c a w h=>absurd h.1 (by intro h; cases h)) (.inr ⟨hw,rfl⟩) (hL w hsat) (k _ w hput hsat)
 exact wpAnyH_take (v:=v) ho hs hf hr (fun c a w h=>absurd h.1 (by intro h; cases h)) (.inl ⟨hw,fun w' _=>hv w'⟩) (hL w hsat) (k _ w hput hsat)
section
variable {l : List UInt8} {x y z : Nat} {k : XN} {e : Int}
theorem pe_1 (h:65536<l.length):parE l=(J3,72):=if_pos h
theorem pe_0 (h:¬ 65536<l.length) (hv:(J0 (D6 l)&&(F9 (D6 l)==D6 l))=true):parE l=match I3 (((D6 l).drop 0).length+1) ((D6 l).drop 0) with
    | none=>(J3,70)
    | some r=>match O7 [60] r with
      | none=>(J3,70)
      | some r1=>match elE 24 I4 r1 with
        | .error e=>(J3,e)
        | .ok (k,r2)=>match I3 (r2.length+1) r2 with
          | none=>(J3,70)
          | some r3=>if r3=[] then (k,0) else (J3,70):=by
  unfold parE
  rw [Bool.and_eq_true,beq_iff_eq] at hv
  rw [if_neg h,if_neg (by rintro (h1 | h1); rw [hv.1] at h1; cases h1; exact h1 hv.2)]
  rfl
theorem pe_2 (h:¬ 65536<l.length) (hv:¬ (J0 (D6 l)&&(F9 (D6 l)==D6 l))=true):parE l=(J3,70):=by
 unfold parE
 rw [if_neg h,if_pos]
 rw [Bool.and_eq_true,beq_iff_eq] at hv
 by_cases h1:J0 (D6 l)=true
 exact .inr (fun h2=>hv ⟨h1,h2⟩)
 exact .inl (by simpa using h1)
theorem pe_3 (h:¬ 65536<l.length) (hv:(J0 (D6 l)&&(F9 (D6 l)==D6 l))=true) (h3:I3 (((D6 l).drop 0).length+1) ((D6 l).drop 0)=none):parE l=(J3,70):=by rw [pe_0 h hv,h3]
theorem pe_4 (h:¬ 65536<l.length) (hv:(J0 (D6 l)&&(F9 (D6 l)==D6 l))=true) (h3:I3 (((D6 l).drop 0).length+1) ((D6 l).drop 0)=some ((D6 l).drop z)) (h4:[60].isPrefixOf ((D6 l).drop z)=false):parE l=(J3,70):=by
 rw [pe_0 h hv,h3]; dsimp only; unfold O7; rw [if_neg (by rw [h4]; decide)]
theorem pe_5 (h:¬ 65536<l.length) (hv:(J0 (D6 l)&&(F9 (D6 l)==D6 l))=true) (h3:I3 (((D6 l).drop 0).length+1) ((D6 l).drop 0)=some ((D6 l).drop z)) (h4:[60].isPrefixOf ((D6 l).drop z)=true):parE l=match elE 24 I4 ((D6 l).drop (z+1)) with
        | .error e=>(J3,e)
        | .ok (k,r2)=>match I3 (r2.length+1) r2 with
          | none=>(J3,70)
          | some r3=>if r3=[] then (k,0) else (J3,70):=by
  rw [pe_0 h hv,h3]; dsimp only; unfold O7; rw [if_pos h4,List.drop_drop]; rfl
theorem pe_6 (hp:parE l=match elE 24 I4 ((D6 l).drop (z+1)) with
        | .error e=>(J3,e)
        | .ok (k,r2)=>match I3 (r2.length+1) r2 with
          | none=>(J3,70)
          | some r3=>if r3=[] then (k,0) else (J3,70)) (h:elE 24 I4 ((D6 l).drop (z+1))=.error e):parE l=(J3,e):=by rw [hp,h]
theorem pe_7 (hp:parE l=match elE 24 I4 ((D6 l).drop (z+1)) with
        | .error e=>(J3,e)
        | .ok (k,r2)=>match I3 (r2.length+1) r2 with
          | none=>(J3,70)
          | some r3=>if r3=[] then (k,0) else (J3,70)) (h:elE 24 I4 ((D6 l).drop (z+1))=.ok (k,(D6 l).drop y)):parE l=match I3 (((D6 l).drop y).length+1) ((D6 l).drop y) with
          | none=>(J3,70)
          | some r3=>if r3=[] then (k,0) else (J3,70):=by rw [hp,h]
theorem dr_nil {B:List UInt8}:B.drop x=[] ↔ ¬ x<B.length:=by rw [List.drop_eq_nil_iff]; omega
end
theorem rTel_:∀ (lv:Nat),lv≤24→∀ (d:Int),d=24 - (lv:Int)→∀ (t:Nat) (l:List UInt8),l.length≤1000000→∀ (i:Nat),i≤l.length→∀ (sp:SPX) (sa:Option Addr) (sn sc:Nat) (S:Nat→Obj→Prop),sn=sp.length→Rd S sa (spV sp)→sp.length+lv * 1000001≤30000000→∀ (W0:World) (H:List Grp),(∀ y o,S y o→At W0 H y o)→Tri Tryz.prog 23 #[pt t,.int .i64 d,.slice sa sn sc] W0 (Y2 t l (i:Int)::H) (fun v H2=>(∃ k j c g,(elE lv sp) (l.drop i)=.ok (k,l.drop j)∧i≤j∧j≤l.length∧k.text=[]∧XRep 59 26 k c g∧v=.tuple #[.agg c.toArray,.int .i64 0]∧H2=Y2 t l (j:Int)::g::H)∨(∃ e z,(elE lv sp) (l.drop i)=.error e∧e≠0∧z≤l.length∧v=.tuple #[.agg zN.toArray,.int .i64 e]∧H2=Y2 t l ((z:Nat):Int)::H))
  | 0,h,d,hd,t,l,hl,i,hi,sp,sa,sn,sc,S,h1,h2,h3,W0,H,hS=>by subst h1; exact rTelW_ 0 d hd h t l hl (fun n hn=>absurd hn (by omega)) i hi sp sa _ sc S rfl h2 h3 W0 H hS
  | m+1,h,d,hd,t,l,hl,i,hi,sp,sa,sn,sc,S,h1,h2,h3,W0,H,hS=>by
    subst h1
    exact rTelW_ (m+1) d hd h t l hl (fun n hn i hi sp sa sn sc S h1 h2 h3 W0 H hS=>by
      obtain rfl:m=n:=by omega
      exact rTel_ m (by omega) (d+1) (by omega) t l hl i hi sp sa sn sc S h1 h2 h3 W0 H hS) i hi sp sa _ sc S rfl h2 h3 W0 H hS
theorem rTparse_ (a:Option Addr) (c:Nat) (l:List UInt8) (S:Nat→Obj→Prop) (hrd:Rd S a (u8s l)) (W0:World) (H:List Grp) (hS:∀ y o,S y o→At W0 H y o):Tri Tryz.prog 6 #[.slice a l.length c] W0 H (fun v H2=>∃ c g,XRep 59 26 (parE l).1 c g∧v=.tuple #[.agg c.toArray,.int .i64 (parE l).2]∧H2=g::H):=by
 have hbl:=bom_len l
 have hbz:=C9 l
 have hbzb:=C9 (D6 l)
 refine D5 71 Tryz.func6 ?_
 refine A1 (A2 (J1 (.agg zN.toArray) (fun b1=>A5 [0] [0,2] (k:=A0 (A1 (A1 (G_p [0,0,0] [0,2,9] (k:=A0 ?_))))))))
 refine B1 (b:=decide (((l.length:Nat):Int) > 65536)) kr (fun hc2=>?_) (fun hc2=>?_)
 simp only [gt_iff_lt,decide_eq_true_eq] at hc2
 have hP:=pe_1 (l:=l) (by omega)
 refine A1 (A2 (A3 (j:=1) [0] (k:=D0 0 0 (.agg zN.toArray) rfl (C0 (E':=[⟨2,[],pt b1⟩,⟨3,[],.int .i64 72⟩]) [0] [2,3] (k:=A0 (B4 (A4 (R4 (H':=([(b1,.cells zN.toArray 26 (0,0))]::H)) kr ?_))))))))
 refine F3 (H':=([(b1,.cells zN.toArray 26 (0,0))]::[]::H)) (fun w h=>Sat.flat h (List.Perm.of_eq (by simp []))) (J7 [.cell 2 26,.tmp 3] [.agg zN.toArray,.int .i64 72] rfl (.cons (.aq 0 0 rfl) (.cons .tq (.nil))) rfl ⟨_,?_,fun w h=>(h.pk 1 [1])⟩)
 rw [hP]; exact ⟨_,_,XRep.nul,rfl,rfl⟩
 simp only [gt_iff_lt,decide_eq_false_iff_not] at hc2
 have hlen:¬ 65536<l.length:=by omega
 refine A7 (A0 (A1 (A2 (A3 (j:=1) [0] (k:=Z8 (ch:=[]) (a:=a) (cap:=c) (e:=5) (S:=S) (bk l) (hrd:=hrd) (hS:=(fun y o h=>At.cons (hS y o h))) (k:=A3 (j:=3) [0] (k:=V5 (.agg #[.string (bk l),.int .i64 0]) (fun b3=>C0 (E':=[⟨2,[],pt b1⟩,⟨4,[],pt b3⟩]) [0] [2,4] (k:=?_)))))))))
 refine A0 (A1 (A1 (A2 (A3 (j:=1) [0] (k:=D9 Tryz.func20 (rTlooks_ b3 l 0 (by omega) (by omega) [239,187,191] (Nat.le_of_ble_eq_true rfl) _ _) ?_)))))
 rintro _ _ ⟨rfl,rfl⟩
 refine A5 [] [2,4,16] (k:=A0 (P6 (T:=Unit) (fun _:Unit=>[⟨2,[],pt b1⟩,⟨4,[],pt b3⟩]) (fun _:Unit=>([(b3,.cells #[.string (bk (D6 l)),.int .i64 ((0:Nat):Int)] 53 (0,0))]::[(b1,.cells zN.toArray 26 (0,0))]::H)) (fun _:Unit=>True) ?_ ?_))
 refine B1 (b:=([239,187,191].isPrefixOf (l.drop 0))) kr (fun hc4=>?_) (fun hc4=>?_)
 have hp:[239,187,191].isPrefixOf l=true:=hc4
 have hq9:D6 l=l.drop 3:=if_pos hp
 refine A2 (A3 (j:=4) [0,0,0,0] (k:=C1 0 0 rfl rfl (M8 (bk l) 3 ((bk l).size:Int) (by intro _; have h9:=pre_le hp; simp only [List.length_cons,List.length_nil] at h9; exact ⟨by omega,by omega,by omega⟩) (E3 22 (x:=.string ((bk l).extract 3 (bk l).size)) (y:=.string (bk (l.drop 3))) (by rw [ext_bk]) (A3 (j:=8) [0,0] (k:=D0 0 0 (.string (bk (l.drop 3))) rfl (C0 (E':=[⟨2,[],pt b1⟩,⟨4,[],pt b3⟩]) [] [2,4] (k:=R4 (H':=([(b3,.cells #[.string (bk (l.drop 3)),.int .i64 0] 53 (0,0))]::[(b1,.cells zN.toArray 26 (0,0))]::H)) kr ?_))))))))
 refine R4 (H':=([(b3,.cells #[.string (bk (D6 l)),.int .i64 ((0:Nat):Int)] 53 (0,0))]::[(b1,.cells zN.toArray 26 (0,0))]::H)) (by rw [hq9]; try rfl) (E6 (()) [2,4] kr (fun w h=>h) trivial)
 have hq9:D6 l=l:=if_neg (by have h9:[239,187,191].isPrefixOf l=false:=hc4; rw [h9]; decide)
 refine A7 (L6 (E':=[⟨2,[],pt b1⟩,⟨4,[],pt b3⟩,⟨16,[],.bool ([239,187,191].isPrefixOf (l.drop 0))⟩]) kr (R4 (H':=([(b3,.cells #[.string (bk (D6 l)),.int .i64 ((0:Nat):Int)] 53 (0,0))]::[(b1,.cells zN.toArray 26 (0,0))]::H)) (by rw [hq9]; try rfl) (E6 (()) [2,4] kr (fun w h=>h) trivial)))
 rintro _ _
 refine A0 (A1 (A1 ?_))
 by_cases hv:(J0 (D6 l)&&(F9 (D6 l)==D6 l))=true
 refine A2 (A3 (j:=3) [0,0,0] (k:=C1 0 0 rfl rfl (H6 Tryz.func8 (rxplain_ (bk (D6 l)) (by rw [C9]; omega) _ _) (A3 (j:=6) [0] (k:=E3 30 (x:=.bool (!(J0 (D6 l)&&(F9 (D6 l)==(D6 l))))) (y:=.bool false) (by rw [hv]; rfl) (A3 (j:=8) [0,0] (k:=Q2 (ch:=[(31,false)]) (f:=21) (fst:=#[]) (caps:=#[]) (vs:=[pt b3]) (hf:=Tryz.func21) (hsure:=M3 kr) (hc:=rTaround_ b3 (D6 l) 0 (by omega) (by omega) _ _) (k:=?_))))))))
 rintro _ _ ⟨z5,hr5l,⟨hr5,rfl⟩ | ⟨hr5,rfl⟩,rfl⟩
 have ha1:_=some ((D6 l).drop z5):=hr5
 refine A3 (j:=13) [0,3,0,0] (k:=Q2 (ch:=[(36,false)]) (f:=22) (fst:=#[]) (caps:=#[]) (vs:=[pt b3,.string (mB #[60])]) (hf:=Tryz.func22) (hsure:=M3 kr) (hc:=R9 b3 (D6 l) z5 (by omega) (by omega) [60] (Nat.le_of_ble_eq_true rfl) _ _) (k:=?_))
 rintro _ _ (⟨hk6,hk6l,rfl,rfl⟩ | ⟨hk6,rfl,rfl⟩)
 have hk6:[60].isPrefixOf ((D6 l).drop z5)=true:=hk6
 have hk6l:z5+1≤(D6 l).length:=hk6l
 have hp0:=pe_5 hlen hv ha1 hk6
 refine A5 [0,3] [2,4,40] (k:=A0 (C5 kr (A7 (A0 (A1 (A2 (A3 (j:=3) [0,0,0] (k:=H0 56 2 [.string eB,.string eB,.string aJ,.string aA] (fun b7=>?_)))))))))
 refine M1 0 [1] (D9 (vs:=[pt b3,.int .i64 0,.slice (some ⟨b7,0,none⟩) 2 2]) Tryz.func23 (rTel_ 24 (Nat.le_refl _) 0 (by decide) b3 (D6 l) (by omega) (z5+1) (by omega) I4 (some ⟨b7,0,none⟩) 2 2 (inG [(b7,.cells (spV I4).toArray 56 (0,0))]) rfl (F0 (Go.Sw.Own.lit (et:=56) (sz:=2) (n:=2) (cs:=spV I4) rfl)) (Nat.le_of_ble_eq_true rfl) _ _ (E0 0 rfl)) ?_)
 rintro _ _ (⟨kE,jE,cE,gE,heE,hjEg,hjE,hkE,hJE,rfl,rfl⟩ | ⟨eE,zE,heE,hneE,hzE,rfl,rfl⟩)
 obtain ⟨eE0q,eE1q,eE2q,eE3q,eE4q,rfl,hEc⟩:=hJE.cells5
 have hp1:=pe_7 hp0 heE
 refine A3 (j:=8) [0,0,0] (k:=J1 (.agg zN.toArray) (fun b8=>?_))
 refine GL_st (ch:=[]) (b:=b8) (off:=0) (v:=.agg #[eE0q,eE1q,eE2q,eE3q,eE4q]) (j:=0) ([(b8,.cells #[eE0q,eE1q,eE2q,eE3q,eE4q] 26 (0,0))]::[(b3,.cells #[.string (bk (D6 l)),.int .i64 ((jE:Nat):Int)] 53 (0,0))]::gE::[(b7,.cells #[.string eB,.string eB,.string aJ,.string aA] 56 (0,0))]::[(b1,.cells zN.toArray 26 (0,0))]::H) (h1:=hEc) (hoff:=Nat.le_of_ble_eq_true rfl) (hfz:=(fun _ _=>thaw0)) (k:=A5 [0] [2,4,5,6] (k:=A0 (A1 (A1 (G_p [0,0] [2,4,5,6,51] (k:=A0 ?_))))))
 refine C5 kr (A7 (A0 (A1 (A1 (H4 ([(b8,.cells #[eE0q,eE1q,eE2q,eE3q,eE4q] 26 (0,0))]::gE::[(b7,.cells #[.string eB,.string eB,.string aJ,.string aA] 56 (0,0))]::[(b1,.cells zN.toArray 26 (0,0))]::H) kr (G1 (fuel:=14) [(0,0)] (fun w h=>(h.pk 1 [0,1,1,1])) (k:=C6 1 (k:=M1 0 [1] ?_))))))))
 refine D9 Tryz.func21 (rTaround_ b3 (D6 l) jE (by omega) (by omega) _ _) ?_
 rintro _ _ ⟨z9,hr9l,⟨hr9,rfl⟩ | ⟨hr9,rfl⟩,rfl⟩
 have ha2:=hr9
 refine A9 kr (fun w h=>(h.pk 1 [1,1,1,1])) (M2 ([(b3,.cells #[.string (bk (D6 l)),.int .i64 ((z9:Nat):Int)] 53 (0,0))]::[(b8,.cells #[eE0q,eE1q,eE2q,eE3q,eE4q] 26 (0,0))]::gE::[(b7,.cells #[.string eB,.string eB,.string aJ,.string aA] 56 (0,0))]::[(b1,.cells zN.toArray 26 (0,0))]::H) (fun w h=>(h.pk 1 [1,1,1,1])) (G1 (fuel:=10) [(2,0),(3,0),(4,0)] (fun w h=>h) (k:=GH_nilG (ad:=⟨b3,0,none⟩) 5 [(57,false)] rfl rfl kr kr kr kr kr kr kr (fun w h=>h) (G1 (fuel:=8) [(6,0)] (fun w h=>h) (k:=F6 7 (hL:=(fun w h=>h)) (hy:=C2 (i:=7) (ch:=[(57,false)]) (b:=b3) (off:=1) (v:=.int .i64 ((z9:Nat):Int)) (hA:=At.grp 0 0 rfl rfl) (k:=G6 kr rfl)) (k:=G1 (fuel:=6) [(8,0)] (fun w h=>h) (k:=GH_nilG (ad:=⟨b3,0,none⟩) 9 [(57,false)] rfl rfl kr kr kr kr kr kr kr (fun w h=>h) (G1 (fuel:=4) [(10,0)] (fun w h=>h) (k:=?_)))))))))
 refine F6 11 (hL:=(fun w h=>h)) (hy:=C2 (i:=11) (ch:=[(57,false)]) (b:=b3) (off:=0) (v:=.string (bk (D6 l))) (hA:=At.grp 0 0 rfl rfl) (k:=G6 kr rfl)) (k:=C6 12 (k:=GL_pure (E':=[⟨66,[(57,false)],.int .i64 ((bk (D6 l)).size:Int)⟩,⟨65,[(57,false)],.string (bk (D6 l))⟩,⟨64,[(57,false)],pt b3⟩,⟨63,[(57,false)],pt b3⟩,⟨62,[(57,false)],pt b3⟩,⟨61,[(57,false)],.int .i64 ((z9:Nat):Int)⟩,⟨60,[(57,false)],.pointer (some ⟨b3,1,none⟩)⟩,⟨59,[(57,false)],pt b3⟩,⟨58,[(57,false)],pt b3⟩,⟨57,[],.bool false⟩,⟨56,[],.bool false⟩,⟨55,[],.bool true⟩,⟨54,[],pt b3⟩,⟨2,[],pt b1⟩,⟨4,[],pt b3⟩,⟨5,[],pt b8⟩,⟨6,[],.int .i64 0⟩,⟨51,[],.bool false⟩]) [0] kr (j:=13) rfl (A9 kr (fun w h=>h) (G1 (fuel:=0) [(13,0),(14,3)] (fun w h=>h) (k:=D8 (E':=[⟨2,[],pt b1⟩,⟨5,[],pt b8⟩,⟨68,[],.bool (decide (((z9:Nat):Int)<((bk (D6 l)).size:Int)))⟩]) [2,5,68] (k:=A0 (B1 (b:=decide (((z9:Nat):Int)<((bk (D6 l)).size:Int))) kr (fun hc10=>?_) (fun hc10=>?_))))))))
 have hP:parE l=(J3,70):=by rw [hp1,ha2]; exact if_neg (fun h9=>dr_nil.1 h9 (by have h8:=hc10; simp only [decide_eq_true_eq] at h8; omega))
 refine A1 (A2 (A3 (j:=1) [0] (k:=D0 4 0 (.agg zN.toArray) rfl (C0 (E':=[⟨2,[],pt b1⟩,⟨3,[],.int .i64 70⟩]) [0] [2,3] (k:=A0 (B4 (A4 (P1 4 [4] ([(b1,.cells zN.toArray 26 (0,0))]::H) ?_))))))))
 refine F3 (H':=([(b1,.cells zN.toArray 26 (0,0))]::[]::H)) (fun w h=>Sat.flat h (List.Perm.of_eq (by simp []))) (J7 [.cell 2 26,.tmp 3] [.agg zN.toArray,.int .i64 70] rfl (.cons (.aq 0 0 rfl) (.cons .tq (.nil))) rfl ⟨_,?_,fun w h=>(h.pk 1 [1])⟩)
 rw [hP]; exact ⟨_,_,XRep.nul,rfl,rfl⟩
 have hP:parE l=(kE,0):=by rw [hp1,ha2]; exact if_pos (dr_nil.2 (by have h8:=hc10; simp only [decide_eq_false_iff_not] at h8; omega))
 refine A7 (A0 (A1 (A2 (M9 1 0 5 rfl (GL_st (ch:=[]) (b:=b1) (off:=0) (v:=.agg #[eE0q,eE1q,eE2q,eE3q,eE4q]) (j:=4) ([(b3,.cells #[.string (bk (D6 l)),.int .i64 ((z9:Nat):Int)] 53 (0,0))]::[(b8,.cells #[eE0q,eE1q,eE2q,eE3q,eE4q] 26 (0,0))]::gE::[(b7,.cells #[.string eB,.string eB,.string aJ,.string aA] 56 (0,0))]::[(b1,.cells #[eE0q,eE1q,eE2q,eE3q,eE4q] 26 (0,0))]::H) (h1:=hEc) (hoff:=Nat.le_of_ble_eq_true rfl) (hfz:=(fun _ _=>thaw0)) (k:=C0 (E':=[⟨2,[],pt b1⟩,⟨3,[],.int .i64 0⟩]) [0] [2,3] (k:=A0 (B4 ?_))))))))
 refine P1 3 [4,2] ([(b1,.cells #[eE0q,eE1q,eE2q,eE3q,eE4q] 26 (0,0))]::gE::H) (F3 (H':=([(b1,.cells #[eE0q,eE1q,eE2q,eE3q,eE4q] 26 (0,0))]::gE::H)) (fun w h=>Sat.flat h (List.Perm.of_eq (by simp []))) (J7 [.cell 2 26,.tmp 3] [.agg #[eE0q,eE1q,eE2q,eE3q,eE4q],.int .i64 0] rfl (.cons (.aq 0 0 rfl) (.cons .tq (.nil))) rfl ⟨_,?_,fun w h=>(h.pk 1 [1])⟩))
 rw [hP]; exact ⟨_,_,hJE,rfl,rfl⟩
 have hP:parE l=(J3,70):=by rw [hp1,hr9]
 refine A9 kr (fun w h=>(h.pk 1 [1,1,1,1])) (M2 ([(b3,.cells #[.string (bk (D6 l)),.int .i64 ((z9:Nat):Int)] 53 (0,0))]::[(b8,.cells #[eE0q,eE1q,eE2q,eE3q,eE4q] 26 (0,0))]::gE::[(b7,.cells #[.string eB,.string eB,.string aJ,.string aA] 56 (0,0))]::[(b1,.cells zN.toArray 26 (0,0))]::H) (fun w h=>(h.pk 1 [1,1,1,1])) (G1 (fuel:=10) [(2,0),(3,0),(4,1)] (fun w h=>h) (k:=GH_off 5 rfl kr kr kr kr (fun w h=>h) (G1 (fuel:=6) [(6,1),(7,1),(8,1)] (fun w h=>h) (k:=GH_off 9 rfl kr kr kr kr (fun w h=>h) (G1 (fuel:=3) [(10,1),(11,1)] (fun w h=>h) (k:=C6 12 (k:=GL_pure (E':=[⟨66,[],.tuple #[]⟩,⟨65,[],.tuple #[]⟩,⟨64,[],.tuple #[]⟩,⟨63,[],.tuple #[]⟩,⟨62,[],.tuple #[]⟩,⟨61,[],.tuple #[]⟩,⟨60,[],.tuple #[]⟩,⟨59,[],.tuple #[]⟩,⟨58,[],.tuple #[]⟩,⟨57,[],.bool true⟩,⟨56,[],.bool true⟩,⟨55,[],.bool false⟩,⟨54,[],pt b3⟩,⟨2,[],pt b1⟩,⟨4,[],pt b3⟩,⟨5,[],pt b8⟩,⟨6,[],.int .i64 0⟩,⟨51,[],.bool false⟩]) [1] kr (j:=13) rfl ?_))))))))
 refine A9 kr (fun w h=>h) (G1 (fuel:=0) [(13,1),(14,2)] (fun w h=>h) (k:=D8 (E':=[⟨2,[],pt b1⟩,⟨5,[],pt b8⟩,⟨68,[],.bool true⟩]) [2,5,68] (k:=A0 (B9 kr (A1 (A2 (A3 (j:=1) [0] (k:=D0 4 0 (.agg zN.toArray) rfl ?_))))))))
 refine C0 (E':=[⟨2,[],pt b1⟩,⟨3,[],.int .i64 70⟩]) [0] [2,3] (k:=A0 (B4 (A4 (P1 4 [4] ([(b1,.cells zN.toArray 26 (0,0))]::H) (F3 (H':=([(b1,.cells zN.toArray 26 (0,0))]::[]::H)) (fun w h=>Sat.flat h (List.Perm.of_eq (by simp []))) (J7 [.cell 2 26,.tmp 3] [.agg zN.toArray,.int .i64 70] rfl (.cons (.aq 0 0 rfl) (.cons .tq (.nil))) rfl ⟨_,?_,fun w h=>(h.pk 1 [1])⟩))))))
 rw [hP]; exact ⟨_,_,XRep.nul,rfl,rfl⟩
 have hP:=pe_6 hp0 heE
 refine A3 (j:=8) [0,0,0] (k:=J1 (.agg zN.toArray) (fun b11=>D0 0 0 (.agg zN.toArray) rfl (A5 [0] [2,4,5,6] (k:=A0 (A1 (A1 (G_p [0,0] [2,4,5,6,51] (k:=A0 ?_))))))))
 refine B1 (b:=eE != 0) kr (fun hc12=>?_) (fun hc12=>?_)
 refine A1 (A2 (A3 (j:=2) [0,0] (k:=D0 3 0 (.agg zN.toArray) rfl (C0 (E':=[⟨2,[],pt b1⟩,⟨3,[],.int .i64 eE⟩]) [0] [2,3] (k:=A0 (B4 (A4 (P1 3 [3] ([(b1,.cells zN.toArray 26 (0,0))]::H) ?_))))))))
 refine F3 (H':=([(b1,.cells zN.toArray 26 (0,0))]::[]::H)) (fun w h=>Sat.flat h (List.Perm.of_eq (by simp []))) (J7 [.cell 2 26,.tmp 3] [.agg zN.toArray,.int .i64 eE] rfl (.cons (.aq 0 0 rfl) (.cons .tq (.nil))) rfl ⟨_,?_,fun w h=>(h.pk 1 [1])⟩)
 rw [hP]; exact ⟨_,_,XRep.nul,rfl,rfl⟩
 exact absurd (by have h9:=hc12; simpa using h9) hneE
 have hk6:[60].isPrefixOf ((D6 l).drop z5)=false:=hk6
 have hP:=pe_4 hlen hv ha1 hk6
 refine A5 [0,3] [2,4,40] (k:=A0 (B9 kr (A1 (A2 (A3 (j:=1) [0] (k:=D0 1 0 (.agg zN.toArray) rfl (C0 (E':=[⟨2,[],pt b1⟩,⟨3,[],.int .i64 70⟩]) [0] [2,3] (k:=A0 ?_))))))))
 refine B4 (A4 (P1 1 [1] ([(b1,.cells zN.toArray 26 (0,0))]::H) (F3 (H':=([(b1,.cells zN.toArray 26 (0,0))]::[]::H)) (fun w h=>Sat.flat h (List.Perm.of_eq (by simp []))) (J7 [.cell 2 26,.tmp 3] [.agg zN.toArray,.int .i64 70] rfl (.cons (.aq 0 0 rfl) (.cons .tq (.nil))) rfl ⟨_,?_,fun w h=>(h.pk 1 [1])⟩))))
 rw [hP]; exact ⟨_,_,XRep.nul,rfl,rfl⟩
 have hP:=pe_3 hlen hv hr5
 refine A5 [0,3,0,1,1,1,2] [2,4,40] (k:=A0 (B9 kr (A1 (A2 (A3 (j:=1) [0] (k:=D0 1 0 (.agg zN.toArray) rfl (C0 (E':=[⟨2,[],pt b1⟩,⟨3,[],.int .i64 70⟩]) [0] [2,3] (k:=A0 ?_))))))))
 refine B4 (A4 (P1 1 [1] ([(b1,.cells zN.toArray 26 (0,0))]::H) (F3 (H':=([(b1,.cells zN.toArray 26 (0,0))]::[]::H)) (fun w h=>Sat.flat h (List.Perm.of_eq (by simp []))) (J7 [.cell 2 26,.tmp 3] [.agg zN.toArray,.int .i64 70] rfl (.cons (.aq 0 0 rfl) (.cons .tq (.nil))) rfl ⟨_,?_,fun w h=>(h.pk 1 [1])⟩))))
 rw [hP]; exact ⟨_,_,XRep.nul,rfl,rfl⟩
 have hP:=pe_2 hlen hv
 rw [Bool.not_eq_true] at hv
 refine A2 (A3 (j:=3) [0,0,0] (k:=C1 0 0 rfl rfl (H6 Tryz.func8 (rxplain_ (bk (D6 l)) (by rw [C9]; omega) _ _) (A3 (j:=6) [0] (k:=E3 30 (x:=.bool (!(J0 (D6 l)&&(F9 (D6 l)==(D6 l))))) (y:=.bool true) (by rw [hv]; rfl) (A5 [0,1,1,1,2,0,1,1,1,2] [2,4,40] (k:=A0 (B9 kr ?_))))))))
 refine A1 (A2 (A3 (j:=1) [0] (k:=D0 1 0 (.agg zN.toArray) rfl (C0 (E':=[⟨2,[],pt b1⟩,⟨3,[],.int .i64 70⟩]) [0] [2,3] (k:=A0 (B4 (A4 (P1 1 [1] ([(b1,.cells zN.toArray 26 (0,0))]::H) ?_))))))))
 refine F3 (H':=([(b1,.cells zN.toArray 26 (0,0))]::[]::H)) (fun w h=>Sat.flat h (List.Perm.of_eq (by simp []))) (J7 [.cell 2 26,.tmp 3] [.agg zN.toArray,.int .i64 70] rfl (.cons (.aq 0 0 rfl) (.cons .tq (.nil))) rfl ⟨_,?_,fun w h=>(h.pk 1 [1])⟩)
 rw [hP]; exact ⟨_,_,XRep.nul,rfl,rfl⟩
end Go.Proofs.YtcgmnagcgkhogabGreatDoor
namespace Go.Proofs.YtcgmnagcgkhogabGreatDoor
open Go.Sw Go.Sha Go.Esc Go.RowKit Go.Json Go.Xml
theorem rparseX (a:Option Addr) (c:Nat) (l:List UInt8) (S:Nat→Obj→Prop) (hrd:Rd S a (u8s l)) (x:XN) (e:Int) (hp:I5 l=(x,e)) (W0:World) (H:List Grp) (hS:∀ y o,S y o→At W0 H y o):Tri Tryz.prog 6 #[.slice a l.length c] W0 H (fun v H2=>∃ c g,XRep 59 26 x c g∧v=.tuple #[.agg c.toArray,.int .i64 e]∧H2=g::H):=by
 have h:=rTparse_ a c l S hrd W0 H hS
 rw [← par_ok,hp] at h; exact h
theorem parX_cnB (l:List UInt8):cnX (I5 l).1≤100000000:=by
 have h9:=parX_cn l
 rcases Nat.lt_or_ge 65536 l.length with h | h
 have e:I5 l=(J3,72):=by unfold I5; rw [if_pos h]
 rw [e]; exact Nat.le_of_ble_eq_true (by kernel_rfl)
 omega
end Go.Proofs.YtcgmnagcgkhogabGreatDoor
namespace Go.Xml
open Go.Esc Go.Json Go.Lib
def tagO:Bool→List UInt8
 | true=>[60,112,58,97,32,120,109,108,110,115,58,112,61,39,117,39,62]
 | false=>[60,98,62]
def R6 (bs:List Bool):List UInt8:=bs.flatMap tagO
theorem A0e (b:Bool) (bs:List Bool):R6 (b::bs)=tagO b++R6 bs:=rfl
def aXd:AT:=⟨⟨[120,109,108,110,115],[112],true⟩,[117]⟩
theorem tag_a1 (r:List UInt8) (n:Nat):Y7 (n+1) [] (32::120::109::108::110::115::58::112::61::39::117::39::62::r)=Y7 n [aXd] (62::r):=by
 rw [Y7]
 have e:blk (32::120::109::108::110::115::58::112::61::39::117::39::62::r)=120::109::108::110::115::58::112::61::39::117::39::62::r:=rfl
 rw [e,if_neg (fun h=>by cases h),if_neg (fun h=>by cases h),if_pos (by simp)]
 rfl
theorem tag_a2 (r:List UInt8) (n:Nat):Y7 (n+1) [aXd] (62::r)=some ([aXd],false,r):=rfl
theorem head_a (sp:SPX) (r:List UInt8):T5 sp (112::58::97::32::120::109::108::110::115::58::112::61::39::117::39::62::r)=some (⟨[112],[97],true⟩,[117],[],([112],[117])::sp,false,r) :=
 el_head (ats:=[aXd]) (r:=32::120::109::108::110::115::58::112::61::39::117::39::62::r) rfl ((tag_a1 r _).trans (tag_a2 r (120::109::108::110::115::58::112::61::39::117::39::62::r).length)) rfl rfl rfl
theorem head_b (sp:SPX) (r:List UInt8):T5 sp (98::62::r)=some (⟨[],[98],false⟩,(K5 sp []).getD [],[],sp,false,r):=rfl
theorem head_tag (b:Bool) (sp:SPX) (r:List UInt8):∃ a s sp',T5 sp ((tagO b++r).drop 1)=some (a,s,[],sp',false,r):=by
 cases b
 exact ⟨_,_,_,head_b sp r⟩
 exact ⟨_,_,_,head_a sp r⟩
theorem piece_tag (el:List UInt8→EX) (ks:List XN) (b:Bool) (r:List UInt8) (e:Int) (h:el ((tagO b++r).drop 1)=.error e):M4 el ks (tagO b++r)=.error e:=by
 cases b
 have h1:M4 el ks (tagO false++r)=match el ((tagO false++r).drop 1) with | .error e=>.error e | .ok (k,r)=>.ok (ks++[k],r):=rfl
 rw [h1,h]
 have h1:M4 el ks (tagO true++r)=match el ((tagO true++r).drop 1) with | .error e=>.error e | .ok (k,r)=>.ok (ks++[k],r):=rfl
 rw [h1,h]
theorem end_tag (b:Bool) (r:List UInt8):[60,47].isPrefixOf (tagO b++r)=false:=by cases b <;> rfl
theorem el_deep:∀ (lv:Nat) (b:Bool) (bs:List Bool) (sp:SPX) (u:List UInt8),lv≤bs.length→elE lv sp ((tagO b++(R6 bs++u)).drop 1)=.error 71
  | 0,b,bs,sp,u,_=>by
    obtain ⟨a,s,sp',h⟩:=head_tag b sp (R6 bs++u)
    exact el_0 h
  | lv+1,b,[],sp,u,h=>absurd h (by simp)
  | lv+1,b,b2::bs,sp,u,hl=>by
    obtain ⟨a,s,sp',h⟩:=head_tag b sp (R6 (b2::bs)++u)
    rw [el_n h,A0e,List.append_assoc,ct_err (end_tag b2 _) (piece_tag _ _ b2 _ 71 (el_deep lv b2 bs sp' u (by simpa using hl)))]
theorem bom_tag (b:Bool) (r:List UInt8):D6 (tagO b++r)=tagO b++r:=by cases b <;> rfl
theorem aside_tag (b:Bool) (r:List UInt8):J9 (blk (tagO b++r))=some none:=by cases b <;> rfl
theorem blk_tag (b:Bool) (r:List UInt8):blk (tagO b++r)=tagO b++r:=by cases b <;> rfl
theorem must_tag (b:Bool) (r:List UInt8):O7 [60] (tagO b++r)=some ((tagO b++r).drop 1):=by cases b <;> rfl
theorem par_deepT {b:Bool} {bs:List Bool} {u:List UInt8} (hl:(R6 (b::bs)++u).length≤65536) (hn:24≤bs.length) (hP:Pl (R6 (b::bs)++u)):(I5 (R6 (b::bs)++u)).2=71:=by
 have h1:=pl_valid hP
 have h2:=plain_app hP []
 rw [List.append_nil,show F9 []=[] from rfl,List.append_nil] at h2
 rw [par_ok]
 rw [A0e,List.append_assoc] at *
 unfold parE
 rw [if_neg (by omega),bom_tag,if_neg (by rintro (h | h); rw [h1] at h; cases h; exact h h2)]
 rw [show ∀ n,I3 (n+1) (tagO b++(R6 bs++u))=some (tagO b++(R6 bs++u)) from fun n=>by rw [I3,aside_tag,blk_tag]]
 dsimp only
 rw [must_tag]
 dsimp only
 rw [el_deep 24 b bs I4 u hn]
def tagC:Bool→List UInt8
 | true=>[60,47,112,58,97,62]
 | false=>[60,47,98,62]
theorem tagC_len (b:Bool):(tagC b).length≤6:=by cases b <;> decide
theorem opensT_len:∀ bs:List Bool,(R6 bs).length≤17 * bs.length
  | []=>Nat.le_refl _
  | b::bs=>by
    have:=opensT_len bs
    rw [A0e,List.length_append,List.length_cons]
    have h:(tagO b).length≤17:=by cases b <;> decide
    omega
end Go.Xml
namespace Go.Proofs.YtcgmnagcgkhogabGreatDoor
open Go.Sw Go.Sha Go.Esc Go.RowKit Go.Json Go.Xml
theorem tagC_pl (b:Bool):Pl (tagC b):=by cases b <;> exact pl_lit (by kernel_rfl) (by kernel_rfl)
theorem tagO_pl (b:Bool):Pl (tagO b):=by cases b <;> exact pl_lit (by kernel_rfl) (by kernel_rfl)
theorem opensT_pl:∀ bs:List Bool,Pl (R6 bs)
 | []=>Pl.nil
 | b::bs=>(tagO_pl b).app (opensT_pl bs)
theorem deep_71 {t s:ByteArray} {bs:List Bool} {z:List UInt8} (ht:t.data.toList=R6 bs++(s.data.toList++z)) (hl:t.size≤2000) (hb:24<bs.length) (hz:Pl z) (hp:(J0 s.data.toList&&F9 s.data.toList==s.data.toList)=true):(I5 t.data.toList).2=71:=by
  rw [Bool.and_eq_true,beq_iff_eq] at hp
  have h1:Pl s.data.toList:=pl_of hp.1 hp.2
  rw [ht]
  have h2:(R6 bs++(s.data.toList++z)).length≤65536:=by rw [← ht,G7]; omega
  cases bs with
  | nil=>simp at hb
  | cons b bs =>
    rw [List.length_cons] at hb
    exact par_deepT h2 (by omega) ((opensT_pl _).app (h1.app hz))
theorem deep_fin {t s:ByteArray} {n:Int} (hn0:0≤n) (h:24<n % 60→(J0 s.data.toList&&F9 s.data.toList==s.data.toList)=true→(I5 t.data.toList).2=71):((I5 t.data.toList).2==(I5 t.data.toList).2&&true&&(decide (n.tmod 60≤24)||(I5 t.data.toList).2==71||!(J0 s.data.toList&&F9 s.data.toList==s.data.toList)))=true:=by
 rw [beq_self_eq_true,Bool.true_and,Bool.true_and,r64 hn0]
 rcases Int.lt_or_le 24 (n % 60) with h1 | h1
 by_cases h2:(J0 s.data.toList&&F9 s.data.toList==s.data.toList)=true
 rw [h h1 h2]; simp
 rw [Bool.not_eq_true] at h2; rw [h2]; simp
 rw [decide_eq_true h1]; simp
theorem deep_s (b:Bool) {t:ByteArray} {bs:List Bool} {l z:List UInt8} (h:t.data.toList=R6 bs++(l++z)):(bk (tagO b)++t++bk (tagC b)).data.toList=R6 (b::bs)++(l++(z++tagC b)):=by
 rw [L8,L8,h,A0e]
 show tagO b++(R6 bs++(l++z))++tagC b=_
 simp only [List.append_assoc]
abbrev _root_.Go.aO:=mB #[60,112,58,97,32,120,109,108,110,115,58,112,61,39,117,39,62]
theorem xmlDeep_ (n:Int) (hn0:0≤n) (_:n≤255) (s:ByteArray) (W0:World) (H:List Grp) (hX:T9 W0):Tri Tryz.prog 3 #[.int .u8 n,.string s] W0 H (fun v H'=>v=.bool true∧H'=H):=by
 refine D5 67 Tryz.func3 ?_
 refine A1 (G_p [0] [0,1] (k:=A0 (A1 (A1 (A2 (H6 Tryz.func4 (firstX_ _ _ hX) (A5 [0] [0,1,12] (k:=A0 ?_))))))))
 refine C5 kr (A7 (A0 (A1 (A1 (G_p [0,0,0] [0,1,15] (k:=A0 (B1 (b:=decide ((s.size:Int) > 300)) kr (fun hc1=>?_) (fun hc1=>?_))))))))
 simp only [decide_eq_true_eq,gt_iff_lt] at hc1
 refine A1 (C3 (E':=[⟨4,[],.bool true⟩]) [0] [4] (k:=A0 (B4 (A4 (B7 [.tmp 4] [.bool true] (k:=?_))))))
 first | exact ⟨rfl,rfl⟩ | exact ⟨congrArg Value.bool (deep_fin hn0 fun h1 h2=>deep_71 ht hts (by omega) hPz h2),rfl⟩
 simp only [decide_eq_false_iff_not,gt_iff_lt] at hc1
 refine A7 (A0 (A1 (G_p [0,0] [0,1,5] (k:=A0 (A1 (A1 (A2 (A3 (j:=2) [0,0] (k:=?_)))))))))
 refine E3 18 (x:=.int .u8 (Int.tmod n 60)) (y:=.int .u8 (n % 60)) (by rw [r64 hn0]) (A3 (j:=3) [0] (k:=D1 19 (n % 60) (by omega) (by omega) kr (A5 [0] [0,1,5,19,20] (k:=A0 (B3 (I6 (EI:=(fun ξ:Nat × List Bool × ByteArray × List UInt8=>[⟨0,[],.int .u8 n⟩,⟨1,[],.string s⟩,⟨5,[],.string ξ.2.2.1⟩,⟨19,[],.int .i64 (n % 60)⟩,⟨20,[],.int .i64 ((ξ.1:Nat):Int)⟩])) (HI:=(fun ξ:Nat × List Bool × ByteArray × List UInt8=>H)) (Φ:=(fun ξ:Nat × List Bool × ByteArray × List UInt8=>(ξ.1≤60)∧(ξ.2.1.length=ξ.1)∧(ξ.2.2.1.data.toList=R6 ξ.2.1++(s.data.toList++ξ.2.2.2))∧(ξ.2.2.2.length≤6 * ξ.1)∧(Pl ξ.2.2.2))) (μ:=(fun ξ:Nat × List Bool × ByteArray × List UInt8=>60 - ξ.1)) (s0:=(0,[],s,[])) [0,1,5,19,20] kr rfl ⟨(by dsimp only; omega),rfl,(by dsimp only; rw [List.append_nil]; rfl),(by dsimp only; exact Nat.zero_le _),Pl.nil⟩ ?_))))))
 rintro ⟨k,bs,t,z⟩ ⟨hk,hb,ht,hz,hPz⟩
 dsimp only at hk hb ht hz hPz
 have hol:=opensT_len bs
 have hts:t.size≤2000:=by rw [← G7,ht,List.length_append,List.length_append,G7]; omega
 refine A1 (G_p [0] [0,1,5,19,20,21] (k:=A0 (A1 (B1 (b:=decide (((k:Nat):Int)<(n % 60))) kr (fun hc3=>?_) (fun hc3=>?_)))))
 simp only [decide_eq_true_eq] at hc3
 refine A7 (A0 (A1 (B3 (A1 (G_p [0,0] [0,1,5,6,19,20] (k:=A0 (A1 (A2 ?_))))))))
 refine A3 (j:=2) [0,0] (k:=?_)
 have hw4:Int.tmod ((k:Nat):Int) 3=((k:Nat):Int) % 3:=r64 (by omega)
 refine GL_w 24 hw4 kr (A5 [0] [0,1,5,19,20,25] (k:=A0 (B1 (b:=(((k:Nat):Int) % 3)==0) kr (fun hc5=>?_) (fun hc5=>?_))))
 simp at hc5
 refine A2 (A3 (j:=1) [0] (k:=V4 aO t (fun _=>by (try simp only [C9,List.length_cons,List.length_nil]); omega) (V4 (aO++t) (mB #[60,47,112,58,97,62]) (fun _=>by (try simp only [ByteArray.size_append,C9,List.length_cons,List.length_nil]); omega) (A5 [0] [0,1,5,19,20] (k:=B8 (A0 ?_))))))
 have hw6:IntKind.wrap .i64 (((k:Nat):Int)+1)=((k:Nat):Int)+1:=w64 (by omega) (by omega)
 refine A2 (A3 (j:=1) [0] (k:=E3 32 (x:=.int .i64 (IntKind.wrap .i64 (((k:Nat):Int)+1))) (y:=.int .i64 (((k:Nat):Int)+1)) (by simp only [hw6]) (E3 32 (x:=.int .i64 (((k:Nat):Int)+1)) (y:=.int .i64 ((k+1:Nat):Int)) (by rw [show ((k:Nat):Int)+1=((k+1:Nat):Int) by omega]) (A5 [0] [0,1,5,19,20] (k:=D2 (s':=((k+1),(true::bs),(aO++t)++(mB #[60,47,112,58,97,62]),(z++tagC true))) [0,1,5,19,20] kr rfl ⟨(by dsimp only; omega),(by dsimp only; rw [List.length_cons,hb]),(by dsimp only; exact deep_s true ht),(by dsimp only; have h9:=tagC_len true; rw [List.length_append]; omega),(hPz.app (tagC_pl true))⟩ (by dsimp only; omega))))))
 simp at hc5
 refine A2 (A3 (j:=1) [0] (k:=V4 (mB #[60,98,62]) t (fun _=>by (try simp only [C9,List.length_cons,List.length_nil]); omega) (V4 ((mB #[60,98,62])++t) (mB #[60,47,98,62]) (fun _=>by (try simp only [ByteArray.size_append,C9,List.length_cons,List.length_nil]); omega) (A5 [0] [0,1,5,19,20] (k:=B8 (A0 ?_))))))
 have hw7:IntKind.wrap .i64 (((k:Nat):Int)+1)=((k:Nat):Int)+1:=w64 (by omega) (by omega)
 refine A2 (A3 (j:=1) [0] (k:=E3 32 (x:=.int .i64 (IntKind.wrap .i64 (((k:Nat):Int)+1))) (y:=.int .i64 (((k:Nat):Int)+1)) (by simp only [hw7]) (E3 32 (x:=.int .i64 (((k:Nat):Int)+1)) (y:=.int .i64 ((k+1:Nat):Int)) (by rw [show ((k:Nat):Int)+1=((k+1:Nat):Int) by omega]) (A5 [0] [0,1,5,19,20] (k:=D2 (s':=((k+1),(false::bs),((mB #[60,98,62])++t)++(mB #[60,47,98,62]),(z++tagC false))) [0,1,5,19,20] kr rfl ⟨(by dsimp only; omega),(by dsimp only; rw [List.length_cons,hb]),(by dsimp only; exact deep_s false ht),(by dsimp only; have h9:=tagC_len false; rw [List.length_append]; omega),(hPz.app (tagC_pl false))⟩ (by dsimp only; omega))))))
 simp only [decide_eq_false_iff_not] at hc3
 refine E7 (A6 (A6 (B6 (A0 (A1 (A2 (A3 (j:=1) [0] (k:=M7 (ch:=[]) (src:=9) (dst:=30) (e:=5) (s:=t) (k:=(fun b8 cap9 g10 hcap11 hrd12=>?_))))))))))
 refine D9 Tryz.func5 (xparseV (some ⟨b8,0,none⟩) cap9 t.data.toList (inG g10) hrd12 ((I5 t.data.toList).1) ((I5 t.data.toList).2) rfl _ _ (E0 0 rfl) hX) ?_
 rintro _ _ ⟨c13,gp13,hJ13,rfl,rfl⟩
 obtain ⟨van13,vcn13,val13,vcl13,rfl⟩:=hJ13.shape
 refine A3 (j:=6) [0,0,0] (k:=J1 (.agg zN.toArray) (fun b14=>D0 0 0 (.agg #[.string (bk (I5 t.data.toList).1.space),.string (bk (I5 t.data.toList).1.name),.slice van13 ((I5 t.data.toList).1.attrs.length) vcn13,.slice val13 ((I5 t.data.toList).1.kids.length) vcl13,.string (bk (I5 t.data.toList).1.text)]) rfl (A5 [0] [0,1,5,7,8] (k:=A0 (A1 (A2 (A3 (j:=1) [0] (k:=M7 (ch:=[]) (src:=9) (dst:=30) (e:=5) (s:=t) (k:=(fun b15 cap16 g17 hcap18 hrd19=>?_))))))))))
 refine D9 Tryz.func6 (rparseX (some ⟨b15,0,none⟩) cap16 t.data.toList (inG g17) hrd19 ((I5 t.data.toList).1) ((I5 t.data.toList).2) rfl _ _ (E0 0 rfl)) ?_
 rintro _ _ ⟨c20,gp20,hJ20,rfl,rfl⟩
 obtain ⟨van20,vcn20,val20,vcl20,rfl⟩:=hJ20.shape
 refine A3 (j:=6) [0,0,0] (k:=J1 (.agg zN.toArray) (fun b21=>D0 0 0 (.agg #[.string (bk (I5 t.data.toList).1.space),.string (bk (I5 t.data.toList).1.name),.slice van20 ((I5 t.data.toList).1.attrs.length) vcn20,.slice val20 ((I5 t.data.toList).1.kids.length) vcl20,.string (bk (I5 t.data.toList).1.text)]) rfl (A5 [0] [0,1,7,8,9,10] (k:=A0 (A1 (A2 (A3 (j:=4) [0,0,0,0] (k:=Q0 (ch:=[(48,true)]) (b:=b14) (off:=0) (l:=[.string (bk (I5 t.data.toList).1.space),.string (bk (I5 t.data.toList).1.name),.slice van13 ((I5 t.data.toList).1.attrs.length) vcn13,.slice val13 ((I5 t.data.toList).1.kids.length) vcl13,.string (bk (I5 t.data.toList).1.text)]) (hA:=At.grp 3 0 rfl rfl) (k:=?_)))))))))
 refine Q0 (ch:=[(48,true)]) (b:=b21) (off:=0) (l:=[.string (bk (I5 t.data.toList).1.space),.string (bk (I5 t.data.toList).1.name),.slice van20 ((I5 t.data.toList).1.attrs.length) vcn20,.slice val20 ((I5 t.data.toList).1.kids.length) vcl20,.string (bk (I5 t.data.toList).1.text)]) (hA:=At.grp 0 0 rfl rfl) (k:=P7 (vs:=[.agg #[.string (bk (I5 t.data.toList).1.space),.string (bk (I5 t.data.toList).1.name),.slice van13 ((I5 t.data.toList).1.attrs.length) vcn13,.slice val13 ((I5 t.data.toList).1.kids.length) vcl13,.string (bk (I5 t.data.toList).1.text)],.agg #[.string (bk (I5 t.data.toList).1.space),.string (bk (I5 t.data.toList).1.name),.slice van20 ((I5 t.data.toList).1.attrs.length) vcn20,.slice val20 ((I5 t.data.toList).1.kids.length) vcl20,.string (bk (I5 t.data.toList).1.text)]]) [(48,true)] Tryz.func7 (fun hc=>xsameC ((I5 t.data.toList).1) (parX_cnB t.data.toList) [.string (bk (I5 t.data.toList).1.space),.string (bk (I5 t.data.toList).1.name),.slice van13 ((I5 t.data.toList).1.attrs.length) vcn13,.slice val13 ((I5 t.data.toList).1.kids.length) vcl13,.string (bk (I5 t.data.toList).1.text)] [.string (bk (I5 t.data.toList).1.space),.string (bk (I5 t.data.toList).1.name),.slice van20 ((I5 t.data.toList).1.attrs.length) vcn20,.slice val20 ((I5 t.data.toList).1.kids.length) vcl20,.string (bk (I5 t.data.toList).1.text)] (inG gp13) (inG gp20) (hJ13.rd (fun _ _ h=>h)) (hJ20.rd (fun _ _ h=>h)) _ _ (E0 4 rfl) (E0 1 rfl)) (A3 (j:=18) [6,0,0,0,0,0,0,0,5,0,0] (k:=P7 [(61,false),(53,true)] Tryz.func8 (fun hc=>rxplain_ s (by omega) _ _) (A5 [0,5,6,0] [4] (k:=A0 (B4 (F8 6 [] (B7 [.tmp 4] [.bool (((((I5 t.data.toList).2)==((I5 t.data.toList).2))&&true)&&(((decide ((Int.tmod n 60)≤24))||(((I5 t.data.toList).2)==71))||(!(J0 s.data.toList&&(F9 s.data.toList==s.data.toList)))))] (k:=?_)))))))))
 first | exact ⟨rfl,rfl⟩ | exact ⟨congrArg Value.bool (deep_fin hn0 fun h1 h2=>deep_71 ht hts (by omega) hPz h2),rfl⟩
end Go.Proofs.YtcgmnagcgkhogabGreatDoor
namespace Go.Proofs.YtcgmnagcgkhogabGreatDoor
open Go Go.ChangeShapes Go.WideShapes Go.ChangeAt Go.RowKit Go.Sw Go.Esc Go.Json Go.Xml
theorem ownKnobXmlDeep:ownKnob Tryz.prog.godebug=none:=by kernel_rfl
set_option maxRecDepth 100000 in
theorem xmlDeep_lifted (os:Os) (started:os.Started) (H:Type) (enc:TypeId × Value→H) :
  ReturnsInHanded {} Tryz.checked os 3 .any (fun w args=>(Rows.xmlDeepSpec.pre enc Tryz.prog Tryz.f3 Rows.xmlDeepRow.domain false w args∧laidMetH Tryz.prog Rows.xmlDeepRow.laid w)∧sizedMet enc Tryz.prog Tryz.f3 (OpenSpec.ofChange Rows.xmlDeepSpec) false w args)
   (Rows.xmlDeepSpec.post enc Tryz.prog Tryz.f3 false true false false):=by
 refine returnsIn_shaped (C:=Tryz.checked) (X:=fun w _=>laidMetH Tryz.prog Rows.xmlDeepRow.laid w) (fun _ _ _ hh h=>h.of_heap hh) ownKnobXmlDeep started (by kernel_rfl) Tryz.func3
  (ChangeSpec.witness_shaped (enc:=enc) (C:=Tryz.checked) (os:=os) (X:=fun w _=>laidMetH Tryz.prog Rows.xmlDeepRow.laid w) false (World.laidAll Tryz.prog os Rows.xmlDeepRow.laid) #[.int .u8 0,.string eB] 8 (World.laidAll_os _ _ _)
   (World.shaped_of_ZipB (by kernel_rfl) (by kernel_rfl)) (by kernel_rfl) (by kernel_rfl) (by kernel_rfl)
   (by rw [MakeChecks.laidMetH_plain _ _ _ (by kernel_rfl)]; exact laidMet_laidAll _ (by kernel_rfl) (by kernel_rfl))) ?_
 intro W base args ds gs before hval0 hW hc hL hsh
 have hval:∀ (j:Nat) t v,Tryz.f3.params[j]? = some t→args[j]? = some v→Value.okWide Tryz.prog W .any base t v:=hval0
 have hW':=hW
 obtain ⟨p,q,hA0,hV,rfl,_,_⟩:=hW
 have hA:DataW.TrodAll enc Tryz.prog W 0 (fun _=>true) true Tryz.f3.params.toList args.toList ds p:=hA0
 rw [Tryz.params3] at hA hval
 obtain ⟨v0,v1,d0,d1,q0,q1,rfl,rfl,rfl,h0,h1⟩:=trodAll_two hA
 obtain ⟨rfl,rfl⟩:=trodVars_none hV
 obtain ⟨n,rfl⟩:=okWide_int Tryz.underlying5 (hval 0 5 v0 rfl rfl)
 obtain ⟨n',en,_,_,wn⟩:=open_int Tryz.underlying5 (hval 0 5 _ rfl rfl) h0
 injection en with _ en; subst en
 obtain ⟨s,rfl,_,_,ws⟩:=Go.ChangeMaps.open_string Tryz.underlying9 (hval 1 9 v1 rfl rfl) h1
 simp only [List.append_nil] at hW'
 rw [MakeChecks.laidMetH_plain _ _ _ (by kernel_rfl)] at hL
 have hB:=baseX_of (base_of hL) hsh
 have hlt:∀ x∈q0++q1,x.block<W.heap.size:=fun x hx=>by simpa using hW'.lt x hx
 refine (xmlDeep_ n (wf_u8 wn).1 (by have:=(wf_u8 wn).2; omega) s W [] hB W (sat_nil W)).mono fun e W' ⟨v,H',he,⟨hv,hH⟩,hs⟩=>?_
 subst he; subst hv; subst hH
 have hb:=hs.below
 exact ⟨_,rfl,post_below (pv:=[]) hW' (fun _ _ _=>trodAll_mk1 (shut_bool Tryz.underlying4 _)) (fun sp hsp=>trodAll_mk2 (WideElems.Trod_stays laidOut_ (by kernel_rfl) (of_decide_eq_true (by kernel_rfl)) h0 (fun x hx=>hb.same (hlt x (by simp [hx]))) (fun x hx=>hsp x (by simp [hx]))) (WideElems.Trod_stays laidOut_ (by kernel_rfl) (of_decide_eq_true (by kernel_rfl)) h1 (fun x hx=>hb.same (hlt x (by simp [hx]))) (fun x hx=>hsp x (by simp [hx])))) (fun _ _=>rfl) (by simp) hb (ok_one (by kernel_rfl) rfl (okWide_bool_mk Tryz.underlying4 _))⟩
set_option maxHeartbeats 4000000 in
theorem xmlDeep_closed:joinedFacts Tryz.prog 3 Tryz.f3 Rows.xmlDeepSpec Rows.xmlDeepRow=true:=by
 unfold joinedFacts
 rw [cl_may,cl_lift,cl_make,cl_heard,cl_keys]
 iterate 31 (refine and_tt ?_ (by as_aux_lemma=>kernel_rfl))
 as_aux_lemma=>kernel_rfl
theorem xmlDeep_said:Rows.XmlDeepSaid :=
 OpenClaim.holds_of_wide 3 Tryz.f3 rfl rfl rfl rfl rfl rfl rfl ⟨rfl,rfl,rfl,rfl,rfl⟩ rfl rfl rfl rfl rfl (by as_aux_lemma=>kernel_rfl) Tryz.func3 xmlDeep_closed
  (of_decide_eq_true (by kernel_rfl)) (by unfold Func.isWrapper; first | (rw [if_pos (by decide +kernel)]; kernel_rfl) | (rw [if_neg (by decide +kernel)]; exact ⟨rfl,rfl⟩))
  (fun os started H enc _=>xmlDeep_lifted os started H enc)
theorem xmlDeep_card:Rows.XmlDeepCardSaid :=
 Claim7.holds_tied_plain_at .later [] _ _ _ _ xmlDeep_said (fun _ h=>by cases h) (by as_aux_lemma=>kernel_rfl) (fun _ h=>by cases h) xmlDeep_row_tie rfl ⟨rfl,rfl⟩ (by as_aux_lemma=>kernel_rfl) rfl
  (fun f fn hf hfn=>by
   obtain rfl : f = 3 := Option.some.inj ((show Tryz.prog.funcNamed "broadsheet/broadsheetlaw08.XmlDeep" = some 3 by as_aux_lemma => kernel_rfl).symm.trans hf) |>.symm
   obtain rfl:fn=Tryz.f3:=(Option.some.inj (Tryz.func3.symm.trans hfn)).symm
   exact ⟨by as_aux_lemma=>kernel_rfl,fun j t ht=>by
    rw [Tryz.params3] at ht
    have hm:t∈[5,9]:=by simpa using Array.mem_of_getElem? ht
    have hall:([5,9].all fun u=>!Tryz.prog.wantsStandIn u)=true:=by as_aux_lemma=>kernel_rfl
    exact (show Tryz.prog.wantsStandIn t=false by simpa using List.all_eq_true.1 hall t hm)⟩)
  (by as_aux_lemma=>kernel_rfl)
#print axioms xmlDeep_card
end Go.Proofs.YtcgmnagcgkhogabGreatDoor
