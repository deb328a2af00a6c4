/- How many parts an element has. Plain. (and what it stands on) -/
import Derived.Test.YtcgmnagcgkhogabGreatDoorZ3
import Derived.Lib.Strings
namespace Go.Proofs.YtcgmnagcgkhogabGreatDoor
open Go.Sw Go.Sha Go.Esc Go.RowKit Go.Json Go.Xml
def sameA (x y:XA):Bool:=y.space==x.space&&y.name==x.name
theorem sameA_eq (x y:XA):(((bk y.space).toList==(bk x.space).toList)&&((bk y.name).toList==(bk x.name).toList))=sameA x y:=by
 unfold sameA
 have h:∀ a b:List UInt8,((bk a).toList==(bk b).toList)=(a==b):=by
  intro a b
  by_cases e:a=b
  subst e; rw [(eqB _ _).2 rfl]; simp
  rw [(eqBf (bk a) (bk b)).2 e,beq_eq_false_iff_ne.2 e]
 rw [h,h]
theorem elt3 {cs l:List Value} {q:Nat} (h:(cs.drop q).take 3=l):∀ m (hm:m<l.length),cs[q+m]? = some l[m]:=by
 intro m hm
 subst h
 have h4:m<3:=by rw [List.length_take] at hm; omega
 rw [← List.getElem?_eq_getElem hm,List.getElem?_take_of_lt h4,List.getElem?_drop]
theorem xsameF_ (y x:XA) (xb:Nat) (W0:World) (H:List Grp):Tri Tryz.prog 42 #[.agg #[.string (bk y.space),.string (bk y.name),.string (bk y.value)],pt xb] W0 ([(xb,.cells #[.string (bk x.space),.string (bk x.name),.string (bk x.value)] 59 (0,0))]::H) (fun v H'=>v=.bool (sameA x y)∧H'=([(xb,.cells #[.string (bk x.space),.string (bk x.name),.string (bk x.value)] 59 (0,0))]::H)):=by
 refine D5 16 Tryz.func42 ?_
 refine A1 (A2 (V5 (.agg #[.string (bk y.space),.string (bk y.name),.string (bk y.value)]) (fun b1=>C0 (E':=[⟨1,[],pt xb⟩,⟨2,[],pt b1⟩]) [0] [1,2] (k:=A0 (A1 (A2 (A3 (j:=1) [0] (k:=C1 0 0 rfl rfl ?_))))))))
 refine A3 (j:=3) [0] (k:=C1 1 0 rfl rfl (A3 (j:=7) [0,0,0] (k:=C2 (ch:=[(9,true)]) (b:=b1) (off:=1) (v:=.string (bk y.name)) (hA:=At.grp 0 0 rfl rfl) (k:=A3 (j:=9) [0] (k:=C2 (ch:=[(9,true)]) (b:=xb) (off:=1) (v:=.string (bk x.name)) (hA:=At.grp 1 0 rfl rfl) (k:=A5 [0,6,0] [3] (k:=A0 (B4 ?_))))))))
 refine F8 1 [1] (B7 [.tmp 3] [.bool (((bk y.space).toList==(bk x.space).toList)&&((bk y.name).toList==(bk x.name).toList))] (k:=?_))
 exact ⟨congrArg Value.bool (sameA_eq x y),rfl⟩
theorem xindexF_ (out:List XA) (a:Option Addr) (c:Nat) (S:Nat→Obj→Prop) (hrd:Rd S a (xaV out)) (hol:out.length≤1000002) (x:XA) (xb:Nat) (W0:World) (H:List Grp) (hS:∀ y o,S y o→At W0 H y o):Tri Tryz.prog 71 #[.slice a out.length c,.func (.func 42) #[] #[pt xb]] W0 ([(xb,.cells #[.string (bk x.space),.string (bk x.name),.string (bk x.value)] 59 (0,0))]::H) (fun v H'=>∃ n:Int,v=.int .i64 n∧(out.any (sameA x)=decide (n ≥ 0))∧H'=([(xb,.cells #[.string (bk x.space),.string (bk x.name),.string (bk x.value)] 59 (0,0))]::H)):=by
 refine D5 19 Tryz.func71 ?_
 refine A1 (G_p [0] [0,1] (k:=A0 (A1 (A1 (G_p [0,0,0] [0,1,7,8] (k:=A0 (B3 (I6 (EI:=(fun ξ:Nat=>[⟨0,[],.slice a out.length c⟩,⟨1,[],.func (.func 42) #[] #[pt xb]⟩,⟨7,[],.int .i64 ((out.length:Nat):Int)⟩,⟨8,[],.int .i64 ((ξ:Nat):Int)⟩])) (HI:=(fun ξ:Nat=>([(xb,.cells #[.string (bk x.space),.string (bk x.name),.string (bk x.value)] 59 (0,0))]::H))) (Φ:=(fun ξ:Nat=>(ξ≤out.length)∧((out.take ξ).any (sameA x)=false))) (μ:=(fun ξ:Nat=>out.length - ξ)) (s0:=(0)) [0,1,7,8] kr rfl ⟨(Nat.zero_le _),rfl⟩ ?_))))))))
 rintro k ⟨hkl,hno⟩
 try dsimp only at hkl hno
 refine A1 (G_p [0] [0,1,7,8,9] (k:=A0 (A1 (B1 (b:=decide (((k:Nat):Int)<((out.length:Nat):Int))) kr (fun hc1=>?_) (fun hc1=>?_)))))
 have hk:k<out.length:=by have:=hc1; simp only [decide_eq_true_eq] at this; omega
 refine A7 (A0 (A1 (B3 (A1 (G_p [0,0] [0,1,5,7,8] (k:=A0 (A1 (A2 ?_))))))))
 refine A3 (j:=3) [0,0,0] (k:=E4 out.length ((k:Nat):Int) 3 hrd (by exact ⟨by omega,by omega,by intro h; have:=congrArg List.length h; rw [A0a] at this; simp only [List.length_nil] at this; omega⟩) ?_)
 obtain ⟨y,hy⟩:∃ y,y=out[k]'hk:=⟨_,rfl⟩
 refine K0 (ch:=[]) (a:=a) (q:=k * 3) (S:=S) (cs:=(xaV out)) (l:=[.string (bk y.space),.string (bk y.name),.string (bk y.value)]) (hrd:=hrd) (hS:=(fun y o h=>At.cons (hS y o h))) (hl:=List.cons_ne_nil _ _) (hv:=(fun _=>(elt3 (by rw [hy]; exact xaV_at hk)))) (k:=Q2 (ch:=[]) (f:=42) (fst:=#[]) (caps:=#[pt xb]) (vs:=[.agg #[.string (bk y.space),.string (bk y.name),.string (bk y.value)]]) (hf:=Tryz.func42) (hsure:=M3 kr) (hc:=xsameF_ y x xb _ _) (k:=?_))
 rintro _ _ ⟨rfl,rfl⟩
 refine A5 [] [0,1,5,7,8,16] (k:=A0 (B1 (b:=(sameA x y)) kr (fun hc2=>?_) (fun hc2=>?_)))
 have hsm:sameA x y=true:=hc2
 refine A1 (C3 (E':=[⟨4,[],.int .i64 ((k:Nat):Int)⟩]) [0,0] [4] (k:=A0 (B4 (B0 (A4 (A4 (B0 (A4 ?_))))))))
 refine B7 [.tmp 4] [.int .i64 ((k:Nat):Int)] (k:=?_)
 exact ⟨_,rfl,by rw [any_at hk (by rw [← hy]; exact hsm)]; exact (decide_eq_true (Int.natCast_nonneg k)).symm,rfl⟩
 have hsm:sameA x y=false:=hc2
 refine A7 (B8 (A0 (A2 (A3 (j:=1) [0] (k:=D1 18 (((k:Nat):Int)+1) (by omega) (by omega) kr (A5 [0] [0,1,7,8] (k:=D2 (s':=(k+1)) [0,1,7,8] kr rfl ⟨(by omega),(by rw [any_take hk,hno,← hy,hsm]; rfl)⟩ (by omega))))))))
 have hk:out.length≤k:=by have:=hc1; simp only [decide_eq_false_iff_not] at this; omega
 refine E7 (A6 (A6 (B6 (A0 (A1 (C3 (E':=[⟨4,[],.int .i64 (-1)⟩]) [0] [4] (k:=A0 (B4 ?_))))))))
 refine B7 [.tmp 4] [.int .i64 (-1)] (k:=?_)
 exact ⟨_,rfl,by rw [List.take_of_length_le hk] at hno; rw [hno]; rfl,rfl⟩
theorem xhasF_ (out:List XA) (a:Option Addr) (c:Nat) (S:Nat→Obj→Prop) (hrd:Rd S a (xaV out)) (hol:out.length≤1000002) (x:XA) (xb:Nat) (W0:World) (H:List Grp) (hS:∀ y o,S y o→At W0 H y o):Tri Tryz.prog 41 #[.slice a out.length c,.func (.func 42) #[] #[pt xb]] W0 ([(xb,.cells #[.string (bk x.space),.string (bk x.name),.string (bk x.value)] 59 (0,0))]::H) (fun v H'=>v=.bool (out.any (sameA x))∧H'=([(xb,.cells #[.string (bk x.space),.string (bk x.name),.string (bk x.value)] 59 (0,0))]::H)):=by
 refine D5 9 Tryz.func41 ?_
 refine A1 (G_p [0] [0,1] (k:=A0 (A1 (A2 (A3 (j:=2) [0,0] (k:=D9 Tryz.func71 (xindexF_ out a c S hrd hol x xb _ _ hS) ?_))))))
 rintro _ _ ⟨n,rfl,hn,rfl⟩
 refine C0 (E':=[⟨4,[],.bool (decide (n ≥ 0))⟩]) [0,0] [4] (k:=A0 (B4 (B7 [.tmp 4] [.bool (decide (n ≥ 0))] (k:=?_))))
 exact ⟨by rw [hn]; try rfl,rfl⟩
end Go.Proofs.YtcgmnagcgkhogabGreatDoor
namespace Go.Sw
theorem GL_storeO {P:Program} {ops:Array Oper} {i:Nat} {Q:E9} {n:Fr} {E:Env} {W0:World} {H:List Grp} {o:Oper} {ch:List (Nat × Bool)} {t et:TypeId} {x y:Operand} {a:Option Addr} {sz len cap q:Nat} {cs cs':List Value} {v:Value} {g:Grp} {j:Nat}
  (ho:ops[i]? = some o) (hop:o.op=.store t x y) (hx:evO E ch x=some (.pointer (some (eltA a q)))) (hy:evO E ch y=some v)
  (hsz:T3 P t=some v.cells.size) (h1:(v.cells.toList.all Value.oneCell')=true) (hvc:v.cells.toList=[v])
  (hch:D7 ops E o.guard=some ch) (hd:G2 n ch o.dst=true) (hsure:M6 E ch=true)
  (hj:H[j]? = some g) (hO:Own et sz (.slice a len cap) g len cs) (hq:q<cs.length) (hcs:cs.set q v=cs')
  (k:∀ g',Own et sz (.slice a len cap) g' len cs'→GL false P ops (i+1) Q n (Env.put E o.dst ch undef) W0 (H.set j g')):GL false P ops i Q n E W0 H:=by
 obtain ⟨hl,⟨he,rfl,hn⟩ | ⟨b,cap',junk,he,rfl,hc,hjk⟩⟩:=hO
 rw [hn] at hl; simp at hl; rw [hl] at hq; simp at hq
 injection he with e1 e2 e3
 subst e1 e3 hcs
 have hel:eltA (some ⟨b,0,none⟩) q=⟨b,q,none⟩:=by show Addr.add ⟨b,0,none⟩ q=_; rw [O9,Nat.zero_add]
 rw [hel] at hx
 have hv1:v.cells.size=1:=by rw [← Array.length_toList,hvc]; rfl
 refine P0 (b:=b) (off:=q) (v:=v) (c:=(cs++junk).toArray) (c':=((cs.set q v)++junk).toArray) (e:=et) (fz:=(0,0)) (j:=j) (m:=0) ho hop hx hy hsz h1 hch hd hsure hj rfl (by rw [hv1,List.size_toArray,List.length_append]; omega) (fun _ _=>thaw0) ?_ rfl (k _ ⟨by rw [List.length_set]; exact hl,.inr ⟨b,cap,junk,rfl,rfl,hc,by rw [List.length_append,List.length_set,← List.length_append]; exact hjk⟩⟩)
 rw [hvc]
 have e1:cs++junk=cs.take q++[cs[q]]++(cs.drop (q+1)++junk):=by
  rw [← List.append_assoc]
  congr 1
  rw [List.append_assoc,List.singleton_append,← List.drop_eq_getElem_cons hq,List.take_append_drop]
 have e2:cs.set q v++junk=cs.take q++[v]++(cs.drop (q+1)++junk):=by
  rw [← List.append_assoc,List.set_eq_take_append_cons_drop,if_pos hq]
  simp
 have e3:(cs.take q).length=q:=by rw [List.length_take]; omega
 rw [e1,e2]
 have:=Y8 [v] (cs.take q) (cs.drop (q+1)++junk) [cs[q]] rfl
 rw [e3] at this
 exact this
end Go.Sw
namespace Go.Sw
theorem E2 {P:Program} {ops:Array Oper} {i:Nat} {Q:E9} {n:Fr} {E:Env} {W0:World} {H:List Grp} {o:Oper} {ch:List (Nat × Bool)} {t et:TypeId} {x y:Operand} {a:Option Addr} {sz len cap q:Nat} {cs cs' l:List Value} {v:Value} {g:Grp} {j:Nat}
  (ho:ops[i]? = some o:=by exact rfl) (hop:o.op=.store t x y:=by exact rfl) (hx:evO E ch x=some (.pointer (some (eltA a q))):=by kernel_rfl) (hy:evO E ch y=some v:=by kernel_rfl)
  (hsz:T3 P t=some v.cells.size:=by kernel_rfl) (h1:(v.cells.toList.all Value.oneCell')=true:=by kernel_rfl) (hvc:v.cells.toList=l:=by exact rfl)
  (hch:D7 ops E o.guard=some ch:=by kernel_rfl) (hd:G2 n ch o.dst=true:=by kernel_rfl) (hsure:M6 E ch=true:=by kernel_rfl)
  (hj:H[j]? = some g:=by exact rfl) (hO:Own et sz (.slice a len cap) g len cs) (hq:q+l.length≤cs.length) (h0:l≠[]) (hcs:cs.take q++l++cs.drop (q+l.length)=cs')
  (k:∀ g',Own et sz (.slice a len cap) g' len cs'→GL false P ops (i+1) Q n (Env.put E o.dst ch undef) W0 (H.set j g')):GL false P ops i Q n E W0 H:=by
 have hl0:0<l.length:=List.length_pos_iff.2 h0
 have hlc:cs'.length=cs.length:=by rw [← hcs]; simp only [List.length_append,List.length_take,List.length_drop]; omega
 obtain ⟨hl,⟨he,rfl,hn⟩ | ⟨b,cap',junk,he,rfl,hc,hjk⟩⟩:=hO
 rw [hn] at hl; simp at hl; rw [hl] at hq; simp at hq; exact absurd hq.2 h0
 injection he with e1 e2 e3
 subst e1 e3
 have hel:eltA (some ⟨b,0,none⟩) q=⟨b,q,none⟩:=by show Addr.add ⟨b,0,none⟩ q=_; rw [O9,Nat.zero_add]
 rw [hel] at hx
 have hv1:v.cells.size=l.length:=by rw [← Array.length_toList,hvc]
 refine P0 (b:=b) (off:=q) (v:=v) (c:=(cs++junk).toArray) (c':=(cs'++junk).toArray) (e:=et) (fz:=(0,0)) (j:=j) (m:=0) ho hop hx hy hsz h1 hch hd hsure hj rfl (by rw [hv1,List.size_toArray,List.length_append]; omega) (fun _ _=>thaw0) ?_ rfl (k _ ⟨by rw [hlc]; exact hl,.inr ⟨b,cap,junk,rfl,rfl,hc,by rw [List.length_append,hlc,← List.length_append]; exact hjk⟩⟩)
 rw [hvc]
 have e1:cs++junk=cs.take q++(cs.drop q).take l.length++(cs.drop (q+l.length)++junk):=by
  rw [← List.append_assoc]
  congr 1
  rw [List.append_assoc,← List.drop_drop,List.take_append_drop,List.take_append_drop]
 have e2:cs'++junk=cs.take q++l++(cs.drop (q+l.length)++junk):=by
  rw [← hcs]; simp only [List.append_assoc]
 have e3:(cs.take q).length=q:=by rw [List.length_take]; omega
 rw [e1,e2]
 have:=Y8 l (cs.take q) (cs.drop (q+l.length)++junk) ((cs.drop q).take l.length) (by rw [List.length_take,List.length_drop]; omega)
 rw [e3] at this
 exact this
theorem F7 {cs z l:List Value} {q:Nat} (hq:cs.length=q) (hz:z.length=l.length):(cs++z).take q++l++(cs++z).drop (q+l.length)=cs++l:=by
 subst hq
 rw [List.take_left,List.drop_eq_nil_of_le (by rw [List.length_append]; omega),List.append_nil]
end Go.Sw
namespace Go.Xml
open Go.Sw Go.Esc Go.Json
def lastT (ks:List XN):Nat:=match ks.getLast? with
 | some v=>v.text.length
 | none=>0
theorem S0 (l:List XN) (v:XN):lastT (l++[v])=v.text.length:=by unfold lastT; rw [List.getLast?_concat]
theorem add_nil (ks:List XN):addX ks []=ks:=if_pos rfl
theorem add_last {l:List XN} {v:XN} {s:List UInt8} (hs:s≠[]) (hv:v.name=[]):addX (l++[v]) s=l++[.mk v.space [] v.attrs v.kids (v.text++s)]:=by
 unfold addX
 rw [if_neg hs,List.getLast?_concat,List.dropLast_concat]
 cases v with
 | mk sp nm at_ kk t=>cases hv; rfl
theorem T8 {ks:List XN} {s:List UInt8} (hs:s≠[]) (h:ks=[]∨∃ l v,ks=l++[v]∧v.name≠[]):addX ks s=ks++[.mk [] [] [] [] s]:=by
  unfold addX
  rw [if_neg hs]
  rcases h with rfl | ⟨l,v,rfl,hv⟩
  rfl
  rw [List.getLast?_concat]
  cases v with
  | mk sp nm at_ kk t =>
    cases nm with
    | nil=>exact absurd rfl hv
    | cons b r=>rfl
theorem lastT_add (ks:List XN) (s:List UInt8):lastT (addX ks s)≤lastT ks+s.length:=by
 by_cases hs:s=[]
 subst hs; rw [add_nil]; exact Nat.le_add_right _ _
 rcases List.eq_nil_or_concat ks with rfl | ⟨l,v,e⟩
 rw [T8 hs (.inl rfl)]; exact Nat.le_add_left _ _
 rw [List.concat_eq_append] at e; subst e
 by_cases hv:v.name=[]
 rw [add_last hs hv,S0,S0]; show (v.text++s).length≤_; rw [List.length_append]; exact Nat.le_refl _
 rw [T8 hs (.inr ⟨l,v,rfl,hv⟩),S0]; exact Nat.le_add_left _ _
theorem kid_cells {ta tn:TypeId} {v:XN} {c:List Value} {g:Grp} (h:XRep ta tn v c g):c[1]? = some (.string (bk v.name))∧c[4]? = some (.string (bk v.text)):=by
 cases h; exact ⟨rfl,rfl⟩
theorem kid_text {ta tn:TypeId} {v:XN} {c:List Value} {g:Grp} (h:XRep ta tn v c g) (hv:v.name=[]) (s:List UInt8):XRep ta tn (.mk v.space [] v.attrs v.kids (v.text++s)) (c.set 4 (.string (bk (v.text++s)))) g:=by
 cases h with
 | mk h1 h2 h3=>cases hv; exact .mk h1 h2 h3
theorem bk_app (a b:List UInt8):bk a++bk b=bk (a++b):=by
 apply ByteArray.ext; apply Array.ext'
 rw [ByteArray.data_append,Array.toList_append]
theorem add_len (ks:List XN) (s:List UInt8):(addX ks s).length≤ks.length+1:=by
 by_cases hs:s=[]
 subst hs; rw [add_nil]; exact Nat.le_succ _
 rcases List.eq_nil_or_concat ks with rfl | ⟨l,v,e⟩
 rw [T8 hs (.inl rfl)]; exact Nat.le_refl _
 rw [List.concat_eq_append] at e; subst e
 by_cases hv:v.name=[]
 rw [add_last hs hv,List.length_append,List.length_append]; exact Nat.le_succ _
 rw [T8 hs (.inr ⟨l,v,rfl,hv⟩),List.length_append]; exact Nat.le_refl _
end Go.Xml
namespace Go.Proofs.YtcgmnagcgkhogabGreatDoor
open Go.Sw Go.Sha Go.Esc Go.RowKit Go.Json Go.Xml
theorem xtext_ (nb:Nat) (v0 v1 v2 v4:Value) (ks:List XN) (kn:Nat) (ka:Option Addr) (kc:Nat) (kg gs:Grp) (cs:List Value) (hkn:kn=ks.length) (hO:Go.Sw.Own 26 5 (.slice ka kn kc) kg kn cs) (hP:XRepL 59 26 ks cs gs) (s:List UInt8) (hs:s.length≤1000000000) (hb:kn≤1000002) (hlt:lastT ks≤1000000000000) (W0:World) (H:List Grp):Tri Tryz.prog 72 #[pt nb,.string (bk s)] W0 ([(nb,.cells #[v0,v1,v2,.slice ka kn kc,v4] 26 (0,0))]::kg::H) (fun _ H'=>∃ kn' ka' kc' kg' cs',kn'=(addX ks s).length∧Go.Sw.Own 26 5 (.slice ka' kn' kc') kg' kn' cs'∧XRepL 59 26 (addX ks s) cs' gs∧H'=[(nb,.cells #[v0,v1,v2,.slice ka' kn' kc',v4] 26 (0,0))]::kg'::H):=by
 have hcl:=hP.len
 refine D5 52 Tryz.func72 ?_
 refine A1 (A2 (A3 (j:=3) [0,0,0] (k:=C1 0 3 rfl rfl (A3 (j:=6) [0,0] (k:=D1 10 (((kn:Nat):Int) - 1) (by omega) (by omega) kr (A5 [0] [0,1,4] (k:=A0 (B3 ?_))))))))
 refine A1 (G_p [0,0,0] [0,1,4,23] (k:=A0 (B1 (b:=(bk s).toList==eB.toList) kr (fun hc2=>?_) (fun hc2=>?_))))
 have hs0:s=[]:=(eqB _ _).1 hc2
 refine A7 (B8 (B7 [] [] (k:=?_)))
 subst hs0; rw [add_nil]; exact ⟨_,_,_,_,_,hkn,hO,hP,rfl⟩
 have hs0:s≠[]:=(eqBf _ _).1 hc2
 refine A1 ?_
 by_cases hk0:ks=[]
 have hn0:kn=0:=by rw [hkn,hk0]; rfl
 refine A2 (A3 (j:=2) [0,0] (k:=E3 28 (x:=.bool (decide ((((kn:Nat):Int) - 1) ≥ 0))) (y:=.bool false) (by rw [show decide (((kn:Nat):Int) - 1 ≥ 0)=false from decide_eq_false (by omega)]) (A5 [0,1,1,1,1,1,1,1,1,1,3,0] [0,1,4,26] (k:=A0 (C5 kr (P6 (T:=Option Addr × Nat × Grp) (fun ξ:Option Addr × Nat × Grp=>[]) (fun ξ:Option Addr × Nat × Grp=>([(nb,.cells #[v0,v1,v2,.slice ξ.1 (kn+1) ξ.2.1,v4] 26 (0,0))]::ξ.2.2::H)) (fun ξ:Option Addr × Nat × Grp=>(Go.Sw.Own 26 5 (.slice ξ.1 (kn+1) ξ.2.1) ξ.2.2 (kn+1) (cs++[.string eB,.string eB,.slice none 0 0,.slice none 0 0,.string (bk s)]))) ?_ ?_))))))
 refine H4 H kr (G1 (fuel:=13) [(0,0)] (fun w h=>(h.pk 2 [])) (k:=J4 (ad:=⟨nb,0,none⟩) 1 (hL:=(fun w h=>(h.pk 2 []))) (k:=G1 (fuel:=9) [(2,0),(4,0),(5,0)] (fun w h=>(h.pk 2 [])) (k:=H7 3 7 (k:=?_) (k':=?_)))))
 refine C1 0 3 rfl rfl (A9 kr (fun w h=>(h.pk 2 [])) (P9 (v:=.int .i64 ((kn:Nat):Int)) 6 (hL:=(fun w h=>(h.pk 2 []))) (k:=C6 7 (k:=H0 26 1 zN (fun b3=>A9 kr (fun w h=>(h.pk 3 [])) (M2 ([(b3,.cells zN.toArray 26 (0,0))]::H) (fun w h=>(h.pk 1 [])) (C6 8 (k:=L7 (inf:=Tryz.t26) 1 0 2 rfl rfl hO (by omega) (by show (kn+1) * 96≤140737488355328; omega) (fun v4 g5 hO6=>?_)))))))))
 obtain ⟨a7,cap8,rfl,hcap9,hrd10⟩:=hO6.shape
 refine A9 kr (fun w h=>(h.pkT 2 [0])) (J4 (ad:=⟨nb,0,none⟩) 11 (hL:=(fun w h=>(h.pkT 2 [0]))) (k:=G1 (fuel:=3) [(12,0)] (fun w h=>(h.pkT 2 [0])) (k:=H7 9 13 (k:=?_) (k':=?_))))
 refine E4 (a:=a7) (S:=(inG g5)) (cs:=(cs++zN)) (kn+1) ((kn:Nat):Int) 5 (F0 hO6) (by exact ⟨by omega,by omega,by intro h; have h2:=congrArg List.length h; rw [List.length_append] at h2; simp at h2⟩) (A9 kr (fun w h=>(h.pkT 2 [0])) (H7 10 13 (k:=?_) (k':=?_)))
 refine E2 (ch:=[]) (a:=a7) (q:=kn * 5) (len:=(kn+1)) (cap:=cap8) (v:=.agg #[.string eB,.string eB,.slice none 0 0,.slice none 0 0,.string (bk s)]) (g:=g5) (j:=2) (cs:=(cs++zN)) (cs':=(cs++[.string eB,.string eB,.slice none 0 0,.slice none 0 0,.string (bk s)])) (l:=[.string eB,.string eB,.slice none 0 0,.slice none 0 0,.string (bk s)]) (hO:=hO6) (hq:=(by rw [List.length_append,(show cs.length=kn * 5 by omega)]; exact Nat.le_refl _)) (h0:=List.cons_ne_nil _ _) (hcs:=F7 (z:=zN) (l:=[.string eB,.string eB,.slice none 0 0,.slice none 0 0,.string (bk s)]) (show cs.length=kn * 5 by omega) rfl) (k:=(fun g11 hO12=>?_))
 refine A9 kr (fun w h=>(h.pkT 2 [0])) (C6 13 (k:=D0 1 3 (.slice a7 (kn+1) cap8) rfl (A9 kr (fun w h=>(h.pkT 2 [0])) (D8 (E':=[]) [] (k:=E6 (a7,cap8,g11) [] kr (fun w h=>h.pkT 1 [1,1]) hO12)))))
 refine D0 1 3 (.slice a7 (kn+1) cap8) rfl (A9 kr (fun w h=>(h.pkT 2 [0])) (C6 10 (k:=E2 (ch:=[]) (a:=a7) (q:=kn * 5) (len:=(kn+1)) (cap:=cap8) (v:=.agg #[.string eB,.string eB,.slice none 0 0,.slice none 0 0,.string (bk s)]) (g:=g5) (j:=2) (cs:=(cs++zN)) (cs':=(cs++[.string eB,.string eB,.slice none 0 0,.slice none 0 0,.string (bk s)])) (l:=[.string eB,.string eB,.slice none 0 0,.slice none 0 0,.string (bk s)]) (hO:=hO6) (hq:=(by rw [List.length_append,(show cs.length=kn * 5 by omega)]; exact Nat.le_refl _)) (h0:=List.cons_ne_nil _ _) (hcs:=F7 (z:=zN) (l:=[.string eB,.string eB,.slice none 0 0,.slice none 0 0,.string (bk s)]) (show cs.length=kn * 5 by omega) rfl) (k:=(fun g13 hO14=>?_)))))
 refine A9 kr (fun w h=>(h.pkT 2 [0])) (D8 (E':=[]) [] (k:=E6 (a7,cap8,g13) [] kr (fun w h=>h.pkT 1 [1,1]) hO14))
 refine D0 1 3 (.slice a7 (kn+1) cap8) rfl (A9 kr (fun w h=>(h.pkT 2 [0])) (C6 9 (k:=E4 (a:=a7) (S:=(inG g5)) (cs:=(cs++zN)) (kn+1) ((kn:Nat):Int) 5 (F0 hO6) (by exact ⟨by omega,by omega,by intro h; have h2:=congrArg List.length h; rw [List.length_append] at h2; simp at h2⟩) (A9 kr (fun w h=>(h.pkT 2 [0])) (C6 10 (k:=E2 (ch:=[]) (a:=a7) (q:=kn * 5) (len:=(kn+1)) (cap:=cap8) (v:=.agg #[.string eB,.string eB,.slice none 0 0,.slice none 0 0,.string (bk s)]) (g:=g5) (j:=2) (cs:=(cs++zN)) (cs':=(cs++[.string eB,.string eB,.slice none 0 0,.slice none 0 0,.string (bk s)])) (l:=[.string eB,.string eB,.slice none 0 0,.slice none 0 0,.string (bk s)]) (hO:=hO6) (hq:=(by rw [List.length_append,(show cs.length=kn * 5 by omega)]; exact Nat.le_refl _)) (h0:=List.cons_ne_nil _ _) (hcs:=F7 (z:=zN) (l:=[.string eB,.string eB,.slice none 0 0,.slice none 0 0,.string (bk s)]) (show cs.length=kn * 5 by omega) rfl) (k:=(fun g15 hO16=>?_))))))))
 refine A9 kr (fun w h=>(h.pkT 2 [0])) (D8 (E':=[]) [] (k:=E6 (a7,cap8,g15) [] kr (fun w h=>h.pkT 1 [1,1]) hO16))
 refine H0 26 1 zN (fun b17=>A9 kr (fun w h=>(h.pk 3 [])) (M2 ([(b17,.cells zN.toArray 26 (0,0))]::H) (fun w h=>(h.pk 1 [])) (C6 3 (k:=C1 1 3 rfl rfl (A9 kr (fun w h=>(h.pk 2 [0])) (P9 (v:=.int .i64 ((kn:Nat):Int)) 6 (hL:=(fun w h=>(h.pk 2 [0]))) (k:=C6 8 (k:=L7 (inf:=Tryz.t26) 1 0 2 rfl rfl hO (by omega) (by show (kn+1) * 96≤140737488355328; omega) (fun v18 g19 hO20=>?_)))))))))
 obtain ⟨a21,cap22,rfl,hcap23,hrd24⟩:=hO20.shape
 refine A9 kr (fun w h=>(h.pkT 2 [0])) (J4 (ad:=⟨nb,0,none⟩) 11 (hL:=(fun w h=>(h.pkT 2 [0]))) (k:=G1 (fuel:=3) [(12,0)] (fun w h=>(h.pkT 2 [0])) (k:=H7 9 13 (k:=?_) (k':=?_))))
 refine E4 (a:=a21) (S:=(inG g19)) (cs:=(cs++zN)) (kn+1) ((kn:Nat):Int) 5 (F0 hO20) (by exact ⟨by omega,by omega,by intro h; have h2:=congrArg List.length h; rw [List.length_append] at h2; simp at h2⟩) (A9 kr (fun w h=>(h.pkT 2 [0])) (H7 10 13 (k:=?_) (k':=?_)))
 refine E2 (ch:=[]) (a:=a21) (q:=kn * 5) (len:=(kn+1)) (cap:=cap22) (v:=.agg #[.string eB,.string eB,.slice none 0 0,.slice none 0 0,.string (bk s)]) (g:=g19) (j:=2) (cs:=(cs++zN)) (cs':=(cs++[.string eB,.string eB,.slice none 0 0,.slice none 0 0,.string (bk s)])) (l:=[.string eB,.string eB,.slice none 0 0,.slice none 0 0,.string (bk s)]) (hO:=hO20) (hq:=(by rw [List.length_append,(show cs.length=kn * 5 by omega)]; exact Nat.le_refl _)) (h0:=List.cons_ne_nil _ _) (hcs:=F7 (z:=zN) (l:=[.string eB,.string eB,.slice none 0 0,.slice none 0 0,.string (bk s)]) (show cs.length=kn * 5 by omega) rfl) (k:=(fun g25 hO26=>?_))
 refine A9 kr (fun w h=>(h.pkT 2 [0])) (C6 13 (k:=D0 1 3 (.slice a21 (kn+1) cap22) rfl (A9 kr (fun w h=>(h.pkT 2 [0])) (D8 (E':=[]) [] (k:=E6 (a21,cap22,g25) [] kr (fun w h=>h.pkT 1 [1,1]) hO26)))))
 refine D0 1 3 (.slice a21 (kn+1) cap22) rfl (A9 kr (fun w h=>(h.pkT 2 [0])) (C6 10 (k:=E2 (ch:=[]) (a:=a21) (q:=kn * 5) (len:=(kn+1)) (cap:=cap22) (v:=.agg #[.string eB,.string eB,.slice none 0 0,.slice none 0 0,.string (bk s)]) (g:=g19) (j:=2) (cs:=(cs++zN)) (cs':=(cs++[.string eB,.string eB,.slice none 0 0,.slice none 0 0,.string (bk s)])) (l:=[.string eB,.string eB,.slice none 0 0,.slice none 0 0,.string (bk s)]) (hO:=hO20) (hq:=(by rw [List.length_append,(show cs.length=kn * 5 by omega)]; exact Nat.le_refl _)) (h0:=List.cons_ne_nil _ _) (hcs:=F7 (z:=zN) (l:=[.string eB,.string eB,.slice none 0 0,.slice none 0 0,.string (bk s)]) (show cs.length=kn * 5 by omega) rfl) (k:=(fun g27 hO28=>?_)))))
 refine A9 kr (fun w h=>(h.pkT 2 [0])) (D8 (E':=[]) [] (k:=E6 (a21,cap22,g27) [] kr (fun w h=>h.pkT 1 [1,1]) hO28))
 refine D0 1 3 (.slice a21 (kn+1) cap22) rfl (A9 kr (fun w h=>(h.pkT 2 [0])) (C6 9 (k:=E4 (a:=a21) (S:=(inG g19)) (cs:=(cs++zN)) (kn+1) ((kn:Nat):Int) 5 (F0 hO20) (by exact ⟨by omega,by omega,by intro h; have h2:=congrArg List.length h; rw [List.length_append] at h2; simp at h2⟩) (A9 kr (fun w h=>(h.pkT 2 [0])) (C6 10 (k:=E2 (ch:=[]) (a:=a21) (q:=kn * 5) (len:=(kn+1)) (cap:=cap22) (v:=.agg #[.string eB,.string eB,.slice none 0 0,.slice none 0 0,.string (bk s)]) (g:=g19) (j:=2) (cs:=(cs++zN)) (cs':=(cs++[.string eB,.string eB,.slice none 0 0,.slice none 0 0,.string (bk s)])) (l:=[.string eB,.string eB,.slice none 0 0,.slice none 0 0,.string (bk s)]) (hO:=hO20) (hq:=(by rw [List.length_append,(show cs.length=kn * 5 by omega)]; exact Nat.le_refl _)) (h0:=List.cons_ne_nil _ _) (hcs:=F7 (z:=zN) (l:=[.string eB,.string eB,.slice none 0 0,.slice none 0 0,.string (bk s)]) (show cs.length=kn * 5 by omega) rfl) (k:=(fun g29 hO30=>?_))))))))
 refine A9 kr (fun w h=>(h.pkT 2 [0])) (D8 (E':=[]) [] (k:=E6 (a21,cap22,g29) [] kr (fun w h=>h.pkT 1 [1,1]) hO30))
 rintro ⟨xa,xc,xg⟩ hxo
 dsimp only at hxo
 refine B8 (B7 [] [] (k:=?_))
 exact ⟨_,_,_,_,_,by rw [T8 hs0 (.inl hk0),List.length_append,hkn]; rfl,hxo,by rw [T8 hs0 (.inl hk0)]; have h2:=hP.snoc (XRep.text s); rwa [List.append_nil] at h2,rfl⟩
 obtain ⟨l0,v,cs0,c,g0,g1,e1,e2,e3,hP0,hPv⟩:=hP.last hk0
 have hcl0:=hP0.len
 have hvl:=hPv.len
 have hkl:kn=l0.length+1:=by rw [hkn,e1,List.length_append]; rfl
 refine A2 (A3 (j:=2) [0,0] (k:=E3 28 (x:=.bool (decide ((((kn:Nat):Int) - 1) ≥ 0))) (y:=.bool true) (by rw [show decide (((kn:Nat):Int) - 1 ≥ 0)=true from decide_eq_true (by omega)]) (A3 (j:=6) [0,0,0,0] (k:=C2 (ch:=[(29,true)]) (b:=nb) (off:=3) (v:=.slice ka kn kc) (hA:=At.grp 0 0 rfl rfl) (k:=A3 (j:=8) [0] (k:=K3 (ch:=[(29,true)]) (a:=ka) (len:=kn) (cap:=kc) (kd:=.i64) (j:=((kn:Nat):Int) - 1) (e:=26) (sz:=5) (S:=(inG kg)) (cs:=cs) (hrd:=F0 hO) (hb:=(fun hc=>by exact ⟨by omega,by omega,by intro h; have h2:=congrArg List.length h; rw [hcl,List.length_nil] at h2; omega⟩)) (k:=?_)))))))
 have hw31:Addr.add (eltA ka ((Int.toNat (((kn:Nat):Int) - 1)) * 5)) 1=eltA ka ((Int.toNat (((kn:Nat):Int) - 1)) * 5+1):=A0i _ _ _
 refine A3 (j:=10) [0] (k:=N7 36 [(29,true)] (x:=.pointer (some (Addr.add (eltA ka ((Int.toNat (((kn:Nat):Int) - 1)) * 5)) 1))) (y:=.pointer (some (eltA ka ((Int.toNat (((kn:Nat):Int) - 1)) * 5+1)))) (by simp only [hw31]) (GL_loadS (i:=10) (ch:=[(29,true)]) (a:=ka) (q:=(Int.toNat (((kn:Nat):Int) - 1)) * 5+1) (S:=(inG kg)) (cs:=cs) (v:=.string (bk v.name)) rfl rfl kr kr kr kr kr (F0 hO) (E0 1 rfl) (fun hc=>(by rw [e2,show Int.toNat (((kn:Nat):Int) - 1) * 5+1=cs0.length+1 by omega,List.getElem?_append_right (by omega),Nat.add_sub_cancel_left]; exact (kid_cells hPv).1)) ?_))
 refine A5 [0,2,0] [0,1,4,26] (k:=A0 (B1 (b:=(bk v.name).toList==eB.toList) kr (fun hc32=>?_) (fun hc32=>?_)))
 have hv:v.name=[]:=(eqB _ _).1 hc32
 refine A2 (A3 (j:=3) [0,0,0] (k:=C1 0 3 rfl rfl (A3 (j:=5) [0] (k:=E4 (a:=ka) (S:=(inG kg)) (cs:=cs) kn (((kn:Nat):Int) - 1) 5 (F0 hO) (by exact ⟨by omega,by omega,by intro h; have h2:=congrArg List.length h; rw [hcl,List.length_nil] at h2; omega⟩) ?_))))
 have hw33:Addr.add (eltA ka ((Int.toNat (((kn:Nat):Int) - 1)) * 5)) 4=eltA ka ((Int.toNat (((kn:Nat):Int) - 1)) * 5+4):=A0i _ _ _
 refine A3 (j:=7) [0] (k:=E3 46 (x:=.pointer (some (Addr.add (eltA ka ((Int.toNat (((kn:Nat):Int) - 1)) * 5)) 4))) (y:=.pointer (some (eltA ka ((Int.toNat (((kn:Nat):Int) - 1)) * 5+4)))) (by simp only [hw33]) (H9 (a:=ka) (S:=(inG kg)) (cs:=cs) ((Int.toNat (((kn:Nat):Int) - 1)) * 5+4) (.string (bk v.text)) (F0 hO) (E0 1 rfl) (fun _=>(by rw [e2,show Int.toNat (((kn:Nat):Int) - 1) * 5+4=cs0.length+4 by omega,List.getElem?_append_right (by omega),Nat.add_sub_cancel_left]; exact (kid_cells hPv).2)) ?_))
 refine A3 (j:=9) [0] (k:=V4 (bk v.text) (bk s) (by intro _; rw [C9,C9]; have h2:=S0 l0 v; rw [← e1] at h2; omega) (E3 49 (x:=.string ((bk v.text)++(bk s))) (y:=.string (bk (v.text++s))) (by rw [bk_app]) (E4 (a:=ka) (S:=(inG kg)) (cs:=cs) kn (((kn:Nat):Int) - 1) 5 (F0 hO) (by exact ⟨by omega,by omega,by intro h; have h2:=congrArg List.length h; rw [hcl,List.length_nil] at h2; omega⟩) ?_)))
 have hw34:Addr.add (eltA ka ((Int.toNat (((kn:Nat):Int) - 1)) * 5)) 4=eltA ka ((Int.toNat (((kn:Nat):Int) - 1)) * 5+4):=A0i _ _ _
 refine A3 (j:=12) [0] (k:=E3 51 (x:=.pointer (some (Addr.add (eltA ka ((Int.toNat (((kn:Nat):Int) - 1)) * 5)) 4))) (y:=.pointer (some (eltA ka ((Int.toNat (((kn:Nat):Int) - 1)) * 5+4)))) (by simp only [hw34]) (GL_storeO (i:=12) (ch:=[]) (a:=ka) (q:=(Int.toNat (((kn:Nat):Int) - 1)) * 5+4) (len:=kn) (cap:=kc) (v:=.string (bk (v.text++s))) (g:=kg) (j:=1) (cs:=cs) (cs':=(cs0++c.set 4 (.string (bk (v.text++s))))) rfl rfl kr kr kr kr rfl kr kr kr rfl hO (by omega) (by rw [e2,show (Int.toNat (((kn:Nat):Int) - 1)) * 5+4=cs0.length+4 by omega,List.set_append_right _ _ (by omega),Nat.add_sub_cancel_left]) (fun g35 hO36=>?_)))
 refine C0 (E':=[]) [] [] (k:=B8 (B7 [] [] (k:=?_)))
 exact ⟨_,_,_,_,_,by rw [e1,add_last hs0 hv,List.length_append]; exact hkl,hO36,by rw [e1,add_last hs0 hv,e3]; exact hP0.snoc (kid_text hPv hv s),rfl⟩
 have hv:v.name≠[]:=(eqBf _ _).1 hc32
 refine P6 (T:=Option Addr × Nat × Grp) (fun ξ:Option Addr × Nat × Grp=>[]) (fun ξ:Option Addr × Nat × Grp=>([(nb,.cells #[v0,v1,v2,.slice ξ.1 (kn+1) ξ.2.1,v4] 26 (0,0))]::ξ.2.2::H)) (fun ξ:Option Addr × Nat × Grp=>(Go.Sw.Own 26 5 (.slice ξ.1 (kn+1) ξ.2.1) ξ.2.2 (kn+1) (cs++[.string eB,.string eB,.slice none 0 0,.slice none 0 0,.string (bk s)]))) ?_ ?_
 refine H4 H kr (G1 (fuel:=13) [(0,0)] (fun w h=>(h.pk 2 [])) (k:=J4 (ad:=⟨nb,0,none⟩) 1 (hL:=(fun w h=>(h.pk 2 []))) (k:=G1 (fuel:=9) [(2,0),(4,0),(5,0)] (fun w h=>(h.pk 2 [])) (k:=H7 3 7 (k:=?_) (k':=?_)))))
 refine C1 0 3 rfl rfl (A9 kr (fun w h=>(h.pk 2 [])) (P9 (v:=.int .i64 ((kn:Nat):Int)) 6 (hL:=(fun w h=>(h.pk 2 []))) (k:=C6 7 (k:=H0 26 1 zN (fun b37=>A9 kr (fun w h=>(h.pk 3 [])) (M2 ([(b37,.cells zN.toArray 26 (0,0))]::H) (fun w h=>(h.pk 1 [])) (C6 8 (k:=L7 (inf:=Tryz.t26) 1 0 2 rfl rfl hO (by omega) (by show (kn+1) * 96≤140737488355328; omega) (fun v38 g39 hO40=>?_)))))))))
 obtain ⟨a41,cap42,rfl,hcap43,hrd44⟩:=hO40.shape
 refine A9 kr (fun w h=>(h.pkT 2 [0])) (J4 (ad:=⟨nb,0,none⟩) 11 (hL:=(fun w h=>(h.pkT 2 [0]))) (k:=G1 (fuel:=3) [(12,0)] (fun w h=>(h.pkT 2 [0])) (k:=H7 9 13 (k:=?_) (k':=?_))))
 refine E4 (a:=a41) (S:=(inG g39)) (cs:=(cs++zN)) (kn+1) ((kn:Nat):Int) 5 (F0 hO40) (by exact ⟨by omega,by omega,by intro h; have h2:=congrArg List.length h; rw [List.length_append] at h2; simp at h2⟩) (A9 kr (fun w h=>(h.pkT 2 [0])) (H7 10 13 (k:=?_) (k':=?_)))
 refine E2 (ch:=[]) (a:=a41) (q:=kn * 5) (len:=(kn+1)) (cap:=cap42) (v:=.agg #[.string eB,.string eB,.slice none 0 0,.slice none 0 0,.string (bk s)]) (g:=g39) (j:=2) (cs:=(cs++zN)) (cs':=(cs++[.string eB,.string eB,.slice none 0 0,.slice none 0 0,.string (bk s)])) (l:=[.string eB,.string eB,.slice none 0 0,.slice none 0 0,.string (bk s)]) (hO:=hO40) (hq:=(by rw [List.length_append,(show cs.length=kn * 5 by omega)]; exact Nat.le_refl _)) (h0:=List.cons_ne_nil _ _) (hcs:=F7 (z:=zN) (l:=[.string eB,.string eB,.slice none 0 0,.slice none 0 0,.string (bk s)]) (show cs.length=kn * 5 by omega) rfl) (k:=(fun g45 hO46=>?_))
 refine A9 kr (fun w h=>(h.pkT 2 [0])) (C6 13 (k:=D0 1 3 (.slice a41 (kn+1) cap42) rfl (A9 kr (fun w h=>(h.pkT 2 [0])) (D8 (E':=[]) [] (k:=E6 (a41,cap42,g45) [] kr (fun w h=>h.pkT 1 [1,1]) hO46)))))
 refine D0 1 3 (.slice a41 (kn+1) cap42) rfl (A9 kr (fun w h=>(h.pkT 2 [0])) (C6 10 (k:=E2 (ch:=[]) (a:=a41) (q:=kn * 5) (len:=(kn+1)) (cap:=cap42) (v:=.agg #[.string eB,.string eB,.slice none 0 0,.slice none 0 0,.string (bk s)]) (g:=g39) (j:=2) (cs:=(cs++zN)) (cs':=(cs++[.string eB,.string eB,.slice none 0 0,.slice none 0 0,.string (bk s)])) (l:=[.string eB,.string eB,.slice none 0 0,.slice none 0 0,.string (bk s)]) (hO:=hO40) (hq:=(by rw [List.length_append,(show cs.length=kn * 5 by omega)]; exact Nat.le_refl _)) (h0:=List.cons_ne_nil _ _) (hcs:=F7 (z:=zN) (l:=[.string eB,.string eB,.slice none 0 0,.slice none 0 0,.string (bk s)]) (show cs.length=kn * 5 by omega) rfl) (k:=(fun g47 hO48=>?_)))))
 refine A9 kr (fun w h=>(h.pkT 2 [0])) (D8 (E':=[]) [] (k:=E6 (a41,cap42,g47) [] kr (fun w h=>h.pkT 1 [1,1]) hO48))
 refine D0 1 3 (.slice a41 (kn+1) cap42) rfl (A9 kr (fun w h=>(h.pkT 2 [0])) (C6 9 (k:=E4 (a:=a41) (S:=(inG g39)) (cs:=(cs++zN)) (kn+1) ((kn:Nat):Int) 5 (F0 hO40) (by exact ⟨by omega,by omega,by intro h; have h2:=congrArg List.length h; rw [List.length_append] at h2; simp at h2⟩) (A9 kr (fun w h=>(h.pkT 2 [0])) (C6 10 (k:=E2 (ch:=[]) (a:=a41) (q:=kn * 5) (len:=(kn+1)) (cap:=cap42) (v:=.agg #[.string eB,.string eB,.slice none 0 0,.slice none 0 0,.string (bk s)]) (g:=g39) (j:=2) (cs:=(cs++zN)) (cs':=(cs++[.string eB,.string eB,.slice none 0 0,.slice none 0 0,.string (bk s)])) (l:=[.string eB,.string eB,.slice none 0 0,.slice none 0 0,.string (bk s)]) (hO:=hO40) (hq:=(by rw [List.length_append,(show cs.length=kn * 5 by omega)]; exact Nat.le_refl _)) (h0:=List.cons_ne_nil _ _) (hcs:=F7 (z:=zN) (l:=[.string eB,.string eB,.slice none 0 0,.slice none 0 0,.string (bk s)]) (show cs.length=kn * 5 by omega) rfl) (k:=(fun g49 hO50=>?_))))))))
 refine A9 kr (fun w h=>(h.pkT 2 [0])) (D8 (E':=[]) [] (k:=E6 (a41,cap42,g49) [] kr (fun w h=>h.pkT 1 [1,1]) hO50))
 refine H0 26 1 zN (fun b51=>A9 kr (fun w h=>(h.pk 3 [])) (M2 ([(b51,.cells zN.toArray 26 (0,0))]::H) (fun w h=>(h.pk 1 [])) (C6 3 (k:=C1 1 3 rfl rfl (A9 kr (fun w h=>(h.pk 2 [0])) (P9 (v:=.int .i64 ((kn:Nat):Int)) 6 (hL:=(fun w h=>(h.pk 2 [0]))) (k:=C6 8 (k:=L7 (inf:=Tryz.t26) 1 0 2 rfl rfl hO (by omega) (by show (kn+1) * 96≤140737488355328; omega) (fun v52 g53 hO54=>?_)))))))))
 obtain ⟨a55,cap56,rfl,hcap57,hrd58⟩:=hO54.shape
 refine A9 kr (fun w h=>(h.pkT 2 [0])) (J4 (ad:=⟨nb,0,none⟩) 11 (hL:=(fun w h=>(h.pkT 2 [0]))) (k:=G1 (fuel:=3) [(12,0)] (fun w h=>(h.pkT 2 [0])) (k:=H7 9 13 (k:=?_) (k':=?_))))
 refine E4 (a:=a55) (S:=(inG g53)) (cs:=(cs++zN)) (kn+1) ((kn:Nat):Int) 5 (F0 hO54) (by exact ⟨by omega,by omega,by intro h; have h2:=congrArg List.length h; rw [List.length_append] at h2; simp at h2⟩) (A9 kr (fun w h=>(h.pkT 2 [0])) (H7 10 13 (k:=?_) (k':=?_)))
 refine E2 (ch:=[]) (a:=a55) (q:=kn * 5) (len:=(kn+1)) (cap:=cap56) (v:=.agg #[.string eB,.string eB,.slice none 0 0,.slice none 0 0,.string (bk s)]) (g:=g53) (j:=2) (cs:=(cs++zN)) (cs':=(cs++[.string eB,.string eB,.slice none 0 0,.slice none 0 0,.string (bk s)])) (l:=[.string eB,.string eB,.slice none 0 0,.slice none 0 0,.string (bk s)]) (hO:=hO54) (hq:=(by rw [List.length_append,(show cs.length=kn * 5 by omega)]; exact Nat.le_refl _)) (h0:=List.cons_ne_nil _ _) (hcs:=F7 (z:=zN) (l:=[.string eB,.string eB,.slice none 0 0,.slice none 0 0,.string (bk s)]) (show cs.length=kn * 5 by omega) rfl) (k:=(fun g59 hO60=>?_))
 refine A9 kr (fun w h=>(h.pkT 2 [0])) (C6 13 (k:=D0 1 3 (.slice a55 (kn+1) cap56) rfl (A9 kr (fun w h=>(h.pkT 2 [0])) (D8 (E':=[]) [] (k:=E6 (a55,cap56,g59) [] kr (fun w h=>h.pkT 1 [1,1]) hO60)))))
 refine D0 1 3 (.slice a55 (kn+1) cap56) rfl (A9 kr (fun w h=>(h.pkT 2 [0])) (C6 10 (k:=E2 (ch:=[]) (a:=a55) (q:=kn * 5) (len:=(kn+1)) (cap:=cap56) (v:=.agg #[.string eB,.string eB,.slice none 0 0,.slice none 0 0,.string (bk s)]) (g:=g53) (j:=2) (cs:=(cs++zN)) (cs':=(cs++[.string eB,.string eB,.slice none 0 0,.slice none 0 0,.string (bk s)])) (l:=[.string eB,.string eB,.slice none 0 0,.slice none 0 0,.string (bk s)]) (hO:=hO54) (hq:=(by rw [List.length_append,(show cs.length=kn * 5 by omega)]; exact Nat.le_refl _)) (h0:=List.cons_ne_nil _ _) (hcs:=F7 (z:=zN) (l:=[.string eB,.string eB,.slice none 0 0,.slice none 0 0,.string (bk s)]) (show cs.length=kn * 5 by omega) rfl) (k:=(fun g61 hO62=>?_)))))
 refine A9 kr (fun w h=>(h.pkT 2 [0])) (D8 (E':=[]) [] (k:=E6 (a55,cap56,g61) [] kr (fun w h=>h.pkT 1 [1,1]) hO62))
 refine D0 1 3 (.slice a55 (kn+1) cap56) rfl (A9 kr (fun w h=>(h.pkT 2 [0])) (C6 9 (k:=E4 (a:=a55) (S:=(inG g53)) (cs:=(cs++zN)) (kn+1) ((kn:Nat):Int) 5 (F0 hO54) (by exact ⟨by omega,by omega,by intro h; have h2:=congrArg List.length h; rw [List.length_append] at h2; simp at h2⟩) (A9 kr (fun w h=>(h.pkT 2 [0])) (C6 10 (k:=E2 (ch:=[]) (a:=a55) (q:=kn * 5) (len:=(kn+1)) (cap:=cap56) (v:=.agg #[.string eB,.string eB,.slice none 0 0,.slice none 0 0,.string (bk s)]) (g:=g53) (j:=2) (cs:=(cs++zN)) (cs':=(cs++[.string eB,.string eB,.slice none 0 0,.slice none 0 0,.string (bk s)])) (l:=[.string eB,.string eB,.slice none 0 0,.slice none 0 0,.string (bk s)]) (hO:=hO54) (hq:=(by rw [List.length_append,(show cs.length=kn * 5 by omega)]; exact Nat.le_refl _)) (h0:=List.cons_ne_nil _ _) (hcs:=F7 (z:=zN) (l:=[.string eB,.string eB,.slice none 0 0,.slice none 0 0,.string (bk s)]) (show cs.length=kn * 5 by omega) rfl) (k:=(fun g63 hO64=>?_))))))))
 refine A9 kr (fun w h=>(h.pkT 2 [0])) (D8 (E':=[]) [] (k:=E6 (a55,cap56,g63) [] kr (fun w h=>h.pkT 1 [1,1]) hO64))
 rintro ⟨xa,xc,xg⟩ hxo
 dsimp only at hxo
 refine B8 (B7 [] [] (k:=?_))
 exact ⟨_,_,_,_,_,by rw [T8 hs0 (.inr ⟨l0,v,e1,hv⟩),List.length_append,hkn]; rfl,hxo,by rw [T8 hs0 (.inr ⟨l0,v,e1,hv⟩)]; have h2:=hP.snoc (XRep.text s); rwa [List.append_nil] at h2,rfl⟩
end Go.Proofs.YtcgmnagcgkhogabGreatDoor
namespace Go.Xml
open Go.Esc Go.Json
section
variable {el : XS → XN × XS} {n : Nat} {ks : List XN} {q : XS}
theorem cont_fault (h:q.2≠0):G8 el n ks q=(ks,q):=cont_ne h
theorem cont_end (h0:q.2=0) (h:[60,47].isPrefixOf q.1=true):G8 el (n+1) ks q=(ks,(q.1.drop 2,q.2)):=by
 rw [G8,if_neg (fun hn=>hn h0),Q7 h,if_pos rfl]; rfl
theorem cont_cdata (h0:q.2=0) (h1:¬ [60,47].isPrefixOf q.1=true) (h:[60,33,91,67,68,65,84,65,91].isPrefixOf q.1=true):G8 el (n+1) ks q=G8 el n (addX ks (B5 (I1 [93,93,62] (q.1.drop 9,q.2)).1)) (I1 [93,93,62] (q.1.drop 9,q.2)).2:=by
 rw [G8,if_neg (fun hn=>hn h0),N8 h1,Q7 h]; rfl
theorem cont_aside (h0:q.2=0) (h1:¬ [60,47].isPrefixOf q.1=true) (h2:¬ [60,33,91,67,68,65,84,65,91].isPrefixOf q.1=true) (h:(I2 q).1=true):G8 el (n+1) ks q=G8 el n ks (I2 q).2:=by
 rw [G8,if_neg (fun hn=>hn h0),N8 h1,N8 h2]
 simp only [Bool.false_eq_true,if_false]
 rw [if_pos h]
theorem cont_el (h0:q.2=0) (h1:¬ [60,47].isPrefixOf q.1=true) (h2:¬ [60,33,91,67,68,65,84,65,91].isPrefixOf q.1=true) (h3:(I2 q).1=false) (h:[60].isPrefixOf q.1=true):G8 el (n+1) ks q=G8 el n (ks++[(el (q.1.drop 1,q.2)).1]) (el (q.1.drop 1,q.2)).2:=by
 rw [G8,if_neg (fun hn=>hn h0),N8 h1,N8 h2]
 simp only [Bool.false_eq_true,if_false]
 rw [h3]
 simp only [Bool.false_eq_true,if_false]
 rw [Q7 h,if_pos rfl]; rfl
theorem cont_rest (h0:q.2=0) (h1:¬ [60,47].isPrefixOf q.1=true) (h2:¬ [60,33,91,67,68,65,84,65,91].isPrefixOf q.1=true) (h3:(I2 q).1=false) (h4:¬ [60].isPrefixOf q.1=true):G8 el (n+1) ks q=match idxL [60] q.1 with
  | none=>(ks,G0 70 q)
  | some i=>if (idxL [93,93,62] (q.1.take i)).isSome then (ks,G0 70 q) else G8 el n (addX ks (O4 (q.1.take i) (q.1.drop i,q.2)).1) (O4 (q.1.take i) (q.1.drop i,q.2)).2:=by
 rw [G8,if_neg (fun hn=>hn h0),N8 h1,N8 h2]
 simp only [Bool.false_eq_true,if_false]
 rw [h3]
 simp only [Bool.false_eq_true,if_false]
 rw [N8 h4]
 simp only [Bool.false_eq_true,if_false]
 rfl
theorem cont_none (h0:q.2=0) (h1:¬ [60,47].isPrefixOf q.1=true) (h2:¬ [60,33,91,67,68,65,84,65,91].isPrefixOf q.1=true) (h3:(I2 q).1=false) (h4:¬ [60].isPrefixOf q.1=true) (h:idxL [60] q.1=none):G8 el (n+1) ks q=(ks,G0 70 q):=by
 rw [cont_rest h0 h1 h2 h3 h4,h]
theorem cont_bad (h0:q.2=0) (h1:¬ [60,47].isPrefixOf q.1=true) (h2:¬ [60,33,91,67,68,65,84,65,91].isPrefixOf q.1=true) (h3:(I2 q).1=false) (h4:¬ [60].isPrefixOf q.1=true) {i:Nat} (h:idxL [60] q.1=some i) (hb:(idxL [93,93,62] (q.1.take i)).isSome=true):G8 el (n+1) ks q=(ks,G0 70 q):=by
 rw [cont_rest h0 h1 h2 h3 h4,h]; exact if_pos hb
theorem cont_text (h0:q.2=0) (h1:¬ [60,47].isPrefixOf q.1=true) (h2:¬ [60,33,91,67,68,65,84,65,91].isPrefixOf q.1=true) (h3:(I2 q).1=false) (h4:¬ [60].isPrefixOf q.1=true) {i:Nat} (h:idxL [60] q.1=some i) (hb:(idxL [93,93,62] (q.1.take i)).isSome=false):G8 el (n+1) ks q=G8 el n (addX ks (O4 (q.1.take i) (q.1.drop i,q.2)).1) (O4 (q.1.take i) (q.1.drop i,q.2)).2:=by
 rw [cont_rest h0 h1 h2 h3 h4,h]; exact if_neg (by rw [hb]; exact Bool.false_ne_true)
end
theorem aside_false {q:XS} (h:(I2 q).1=false):I2 q=(false,q):=by
 unfold I2 at h ⊢
 split at h
 cases h
 rename_i h1
 rw [if_neg h1]
 split at h
 cases h
 rename_i h2; rw [if_neg h2]
theorem refs_v (s:List UInt8) (q:XS):(O4 s q).1=unL (B5 s):=rfl
theorem el_text (lv:Nat) (sp:SPX) (q:XS):(elX lv sp q).1.text=[]:=by
 rw [elX_eq]
 dsimp only
 split
 rfl
 cases lv with
 | zero=>rfl
 | succ lv=>dsimp only; split <;> rfl
theorem pre_le {w l:List UInt8} (h:w.isPrefixOf l=true):w.length≤l.length:=(List.isPrefixOf_iff_prefix.1 h).length_le
theorem idx_pos {l:List UInt8} {i:Nat} (h:idxL [60] l=some i) (h0:¬ [60].isPrefixOf l=true):0<i∧i<l.length:=by
 refine ⟨?_,(A0f h).2.2⟩
 rcases Nat.eq_zero_or_pos i with rfl | hi
 have:=idx_pre h
 rw [List.drop_zero] at this
 exact absurd this h0
 exact hi
theorem until_sum (w:List UInt8) (q:XS):(I1 w q).1.length+(I1 w q).2.1.length≤q.1.length:=by
 unfold I1
 cases h:idxL w q.1 with
 | none=>dsimp only; rw [Y5]; simp
 | some i=>dsimp only; rw [List.length_take,List.length_drop]; omega
theorem tag_le (n:Nat) (acc:List AT):∀ (q:XS),(tagX n acc q).2.2.1.length≤q.1.length:=by
  have ha:∀ (n:Nat) (acc:List AT) (q:XS),(F4 n acc q).2.1.length≤q.1.length:=by
    intro n
    induction n with
    | zero=>intro acc q; exact Nat.le_refl _
    | succ n ih =>
      intro acc q
      rw [F4]
      split
      exact Nat.le_refl _
      split
      have h1:=ih (acc++[(Y6 (L5 q).2).1]) (Y6 (L5 q).2).2
      have h2:=attrX_le (L5 q).2
      have h3:=skip_le q
      omega
      exact skip_le q
  intro q
  unfold tagX
  dsimp only
  have h1:=ha n acc q
  have h2:=take_le [47,62] (F4 n acc q).2
  split
  omega
  have h3:=must_le [62] (G9 [47,62] (F4 n acc q).2).2
  omega
theorem attrs_le (n:Nat) (acc:List AT) (q:XS):(F4 n acc q).2.1.length≤q.1.length∧(F4 n acc q).1.length≤acc.length+n:=by
  induction n generalizing acc q with
  | zero=>exact ⟨Nat.le_refl _,Nat.le_refl _⟩
  | succ n ih =>
    rw [F4]
    split
    exact ⟨Nat.le_refl _,Nat.le_add_right _ _⟩
    split
    have h1:=ih (acc++[(Y6 (L5 q).2).1]) (Y6 (L5 q).2).2
    have h2:=attrX_le (L5 q).2
    have h3:=skip_le q
    rw [List.length_append,List.length_cons,List.length_nil] at h1
    exact ⟨by omega,by omega⟩
    exact ⟨skip_le q,Nat.le_add_right _ _⟩
theorem marks_le:∀ (ats:List AT) (out:List XA) (sp:SPX) (q:XS),(O6 ats out sp q).2.1=q.1∧(O6 ats out sp q).1.length≤out.length+ats.length
  | [],_,_,_=>⟨rfl,Nat.le_refl _⟩
  | a::r,out,sp,q=>by
    rw [O6]
    split
    have:=marks_le r out sp q; exact ⟨this.1,by rw [List.length_cons]; omega⟩
    have hs:(if a.q.has=true then K9 a.q.pre true sp q else ([],q)).2.1=q.1:=by
      split
      exact space_le _ _ _ _
      rfl
    dsimp only
    generalize (if a.q.has=true then K9 a.q.pre true sp q else ([],q))=y at hs ⊢
    refine ⟨?_,?_⟩
    rw [(marks_le r _ sp _).1]
    split
    exact hs
    exact hs
    refine Nat.le_trans (marks_le r _ sp _).2 ?_
    rw [List.length_append,List.length_cons,List.length_nil,List.length_cons]; omega
theorem cont_le {el:XS→XN × XS} (hel:∀ q,(el q).2.1.length≤q.1.length):∀ (n:Nat) (ks:List XN) (q:XS),(G8 el n ks q).2.1.length≤q.1.length
  | 0,_,_=>Nat.le_refl _
  | n+1,ks,q=>by
    by_cases h0:q.2=0
    by_cases h1:[60,47].isPrefixOf q.1=true
    rw [cont_end h0 h1]; show (q.1.drop 2).length≤_; rw [List.length_drop]; omega
    by_cases h2:[60,33,91,67,68,65,84,65,91].isPrefixOf q.1=true
    rw [cont_cdata h0 h1 h2]
    have h3:=cont_le hel n (addX ks (B5 (I1 [93,93,62] (q.1.drop 9,q.2)).1)) (I1 [93,93,62] (q.1.drop 9,q.2)).2
    have h4:=S5 [93,93,62] (q.1.drop 9,q.2)
    have h5:(q.1.drop 9).length≤q.1.length:=by rw [List.length_drop]; omega
    dsimp only at h4
    omega
    cases h3:(I2 q).1 with
    | true=>rw [cont_aside h0 h1 h2 h3]; have h4:=cont_le hel n ks (I2 q).2; have h5:=A0k q; omega
    | false =>
      by_cases h4:[60].isPrefixOf q.1=true
      rw [cont_el h0 h1 h2 h3 h4]
      have h5:=cont_le hel n (ks++[(el (q.1.drop 1,q.2)).1]) (el (q.1.drop 1,q.2)).2
      have h6:=hel (q.1.drop 1,q.2)
      have h7:(q.1.drop 1).length≤q.1.length:=by rw [List.length_drop]; omega
      dsimp only at h6
      omega
      cases hi:idxL [60] q.1 with
      | none=>rw [cont_none h0 h1 h2 h3 h4 hi]; exact Nat.le_refl _
      | some i =>
        cases hb:(idxL [93,93,62] (q.1.take i)).isSome with
        | true=>rw [cont_bad h0 h1 h2 h3 h4 hi hb]; exact Nat.le_refl _
        | false =>
          rw [cont_text h0 h1 h2 h3 h4 hi hb]
          have h5:=cont_le hel n (addX ks (O4 (q.1.take i) (q.1.drop i,q.2)).1) (O4 (q.1.take i) (q.1.drop i,q.2)).2
          rw [refs_len] at h5
          have h7:(q.1.drop i).length≤q.1.length:=by rw [List.length_drop]; omega
          dsimp only at h5
          omega
    rw [cont_ne h0]; exact Nat.le_refl _
theorem close_le (a:QN) (k:List XN × XS) (s:List UInt8) (m:List XA):(V0 a k s m).2.1.length≤k.2.1.length:=by
 unfold V0
 dsimp only
 have h1:=qual_le k.2
 have h2:=skip_le (A8 k.2).2
 have h3:=must_le [62] (L5 (A8 k.2).2).2
 split
 rw [Y5]; omega
 omega
theorem el_le:∀ (lv:Nat) (sp:SPX) (q:XS),(elX lv sp q).2.1.length≤q.1.length:=by
  intro lv
  induction lv with
  | zero =>
    intro sp q
    rw [elX_eq]
    dsimp only
    have h1:=qual_le q
    have h2:=tag_le ((A8 q).2.1.length+1) [] (A8 q).2
    split
    dsimp only; omega
    rw [Y5,(marks_le _ _ _ _).1,space_le,sp_le]; omega
  | succ lv ih =>
    intro sp q
    rw [elX_eq]
    dsimp only
    have h1:=qual_le q
    have h2:=tag_le ((A8 q).2.1.length+1) [] (A8 q).2
    split
    dsimp only; omega
    split
    dsimp only; rw [(marks_le _ _ _ _).1,space_le,sp_le]; omega
    refine Nat.le_trans (close_le _ _ _ _) ?_
    refine Nat.le_trans (cont_le (ih _) _ _ _) ?_
    rw [(marks_le _ _ _ _).1,space_le,sp_le]; omega
end Go.Xml
namespace Go.Proofs.YtcgmnagcgkhogabGreatDoor
open Go.Sw Go.Sha Go.Esc Go.RowKit Go.Json Go.Xml
theorem xaside2_ (r:Nat) (q:XS) (hl:q.1.length≤1000000) (W0:World) (H:List Grp) (hX:T9 W0):Tri Tryz.prog 35 #[pt r] W0 (rdX r q::H) (fun v H'=>((I2 q).1=true∧v=.bool true∧H'=rdX r (I2 q).2::H)∨((I2 q).1=false∧v=.bool false∧H'=rdX r q::H)):=by
 refine (xaside_ r q hl W0 H hX).post fun v H' ⟨h1,h2⟩=>⟨H',?_,fun _ h=>h⟩
 cases h:(I2 q).1 with
 | true=>exact .inl ⟨rfl,by rw [h1,h],h2⟩
 | false=>exact .inr ⟨rfl,by rw [h1,h],by rw [h2,aside_false h]⟩
theorem xcontent_ (lv:Nat) (d:Int) (hd:0≤d∧d≤24) (r:Nat) (q:XS) (hl:q.1.length≤1000000) (nb:Nat) (v0 v1 v2 v4:Value) (ms mc:Nat) (M:SM) (sp:SPX) (hel:∀ (q:XS),q.1.length≤1000000→∀ (W0:World) (H:List Grp),T9 W0→Tri Tryz.prog 18 #[pt r,.int .i64 (d+1),.map (some ms)] W0 (rdX r q::[(ms,.map (G3 M) mc)]::H) (fun v H2=>∃ c g,XRep 59 26 (elX lv sp q).1 c g∧v=.agg c.toArray∧H2=rdX r (elX lv sp q).2::[(ms,.map (G3 M) mc)]::g::H)) (W0:World) (H:List Grp) (hX:T9 W0):Tri Tryz.prog 43 #[pt r,pt nb,.int .i64 d,.map (some ms)] W0 ([(r,.cells #[.string (bk q.1),.int .i64 q.2] 45 (0,0))]::[(ms,.map (G3 M) mc)]::[(nb,.cells #[v0,v1,v2,.slice none 0 0,v4] 26 (0,0))]::H) (fun _ H2=>∃ kn ka kc kg cs gs,kn=(G8 (elX lv sp) (q.1.length+1) [] q).1.length∧Go.Sw.Own 26 5 (.slice ka kn kc) kg kn cs∧XRepL 59 26 (G8 (elX lv sp) (q.1.length+1) [] q).1 cs gs∧H2=rdX r (G8 (elX lv sp) (q.1.length+1) [] q).2::[(ms,.map (G3 M) mc)]::[(nb,.cells #[v0,v1,v2,.slice ka kn kc,v4] 26 (0,0))]::kg::gs::H):=by
 refine D5 84 Tryz.func43 ?_
 refine B3 (R1 (H':=([(r,.cells #[.string (bk q.1),.int .i64 q.2] 45 (0,0))]::[(ms,.map (G3 M) mc)]::[(nb,.cells #[v0,v1,v2,.slice none 0 0,v4] 26 (0,0))]::[]::[]::H)) (fun w h=>Sat.flat h (List.Perm.refl _)) (I6 (EI:=(fun ξ:Nat × XS × List XN × Nat × Option Addr × Nat × Grp × Grp × List Value=>[⟨0,[],pt r⟩,⟨1,[],pt nb⟩,⟨2,[],.int .i64 d⟩,⟨3,[],.map (some ms)⟩])) (HI:=(fun ξ:Nat × XS × List XN × Nat × Option Addr × Nat × Grp × Grp × List Value=>([(r,.cells #[.string (bk ξ.2.1.1),.int .i64 ξ.2.1.2] 45 (0,0))]::[(ms,.map (G3 M) mc)]::[(nb,.cells #[v0,v1,v2,.slice ξ.2.2.2.2.1 ξ.2.2.2.1 ξ.2.2.2.2.2.1,v4] 26 (0,0))]::ξ.2.2.2.2.2.2.1::ξ.2.2.2.2.2.2.2.1::H))) (Φ:=(fun ξ:Nat × XS × List XN × Nat × Option Addr × Nat × Grp × Grp × List Value=>((G8 (elX lv sp) (q.1.length+1) [] q)=G8 (elX lv sp) ξ.1 ξ.2.2.1 ξ.2.1)∧(ξ.2.1.2=0→ξ.2.1.1.length<ξ.1)∧(ξ.2.1.1.length≤1000000)∧(Go.Sw.Own 26 5 (.slice ξ.2.2.2.2.1 ξ.2.2.2.1 ξ.2.2.2.2.2.1) ξ.2.2.2.2.2.2.1 ξ.2.2.2.1 ξ.2.2.2.2.2.2.2.2)∧(ξ.2.2.2.1=ξ.2.2.1.length)∧(XRepL 59 26 ξ.2.2.1 ξ.2.2.2.2.2.2.2.2 ξ.2.2.2.2.2.2.2.1)∧(ξ.2.2.2.1+ξ.1≤1000002)∧(lastT ξ.2.2.1+4 * ξ.2.1.1.length≤8000000))) (μ:=(fun ξ:Nat × XS × List XN × Nat × Option Addr × Nat × Grp × Grp × List Value=>ξ.1)) (s0:=((q.1.length+1),q,[],0,none,0,[],[],[])) [0,1,2,3] kr rfl ⟨rfl,(fun _=>Nat.lt_succ_self _),hl,Go.Sw.Own.nil,rfl,.nil,(by show 0+(q.1.length+1)≤_; omega),(by show 0+4 * q.1.length≤_; omega)⟩ ?_))
 rintro ⟨n,q2,ks,kn,ka,kc,kg,gs,cs⟩ ⟨hT,hn,hl2,hO,hkn,hP,hb,hlt⟩
 dsimp only at hT hn hl2 hO hkn hP hb hlt
 refine A1 (A1 ?_)
 by_cases hq0:q2.2=0
 have hnq:=hn hq0
 obtain ⟨m,rfl⟩:∃ m,n=m+1:=⟨n - 1,by omega⟩
 refine A2 (A3 (j:=3) [0,0,0] (k:=C1 0 1 rfl rfl (A3 (j:=5) [0] (k:=E3 15 (x:=.bool (q2.2==0)) (y:=.bool true) (by rw [show (q2.2==0)=true by simpa using hq0]) (A3 (j:=7) [0,0] (k:=Q2 (ch:=[(16,true)]) (f:=36) (fst:=#[]) (caps:=#[]) (vs:=[pt r,.string (mB #[60,47])]) (hf:=Tryz.func36) (hsure:=M3 kr) (hc:=xtake_ r q2 [60,47] _ _) (k:=?_)))))))
 rintro _ _ (⟨hk1,rfl,rfl⟩ | ⟨hk1,rfl,rfl⟩)
 have hk1:[60,47].isPrefixOf q2.1=true:=hk1
 have hk1:=hk1
 refine A5 [0,2] [0,1,2,3,20] (k:=A0 (C5 kr (E7 (A6 (A6 (B6 (B7 [] [] (k:=?_))))))))
 rw [hT,cont_end hq0 hk1]; exact ⟨_,_,_,_,_,_,hkn,hO,hP,rfl⟩
 have hk1:¬ [60,47].isPrefixOf q2.1=true:=hk1
 have hk1:=hk1
 refine A5 [0,2] [0,1,2,3,20] (k:=A0 (B9 kr (A7 (A0 (B3 (B3 (A1 (A2 ?_))))))))
 refine A3 (j:=1) [0] (k:=D9 Tryz.func36 (xtake_ r q2 [60,33,91,67,68,65,84,65,91] _ _) ?_)
 rintro _ _ (⟨hk2,rfl,rfl⟩ | ⟨hk2,rfl,rfl⟩)
 have hk2:[60,33,91,67,68,65,84,65,91].isPrefixOf q2.1=true:=hk2
 have hk2:=hk2
 refine A5 [0] [0,1,2,3,53] (k:=A0 (B9 kr (A2 (A3 (j:=1) [0] (k:=H0 9 4 [.string (mB #[13,10]),.string (mB #[10]),.string (mB #[13]),.string (mB #[10])] (fun b3=>D9 Tryz.func73 (newRepC_ b3 _ _) ?_))))))
 rintro _ _ ⟨rb4,ra4,rcap4,rg4,rfl,hOwn4,rfl⟩
 have hRT4:Rd (inG rg4) ra4 crT:=by
  obtain ⟨a2,c2,e,_,h⟩:=hOwn4.shape
  injection e with e1; subst e1; exact h
 refine A3 (j:=4) [0] (k:=M1 0 [3] (D9 (vs:=[pt r,.string (mB #[93,93,62])]) Tryz.func64 (xuntil_ r (q2.1.drop 9,q2.2) [93,93,62] (by first | omega | (show (List.drop _ _).length≤_; rw [List.length_drop]; omega)) _ _ hX) ?_))
 rintro _ _ ⟨rfl,rfl⟩
 refine M1 0 [1,1] (D9 Tryz.func74 (crReplace_ rb4 ra4 rcap4 rg4 hRT4 (I1 [93,93,62] (q2.1.drop 9,q2.2)).1 (by have:=until_v [93,93,62] (q2.1.drop 9,q2.2); dsimp only at this; rw [List.length_drop] at this; omega) _ _) ?_)
 rintro _ _ ⟨rfl,rfl⟩
 refine M1 0 [3,3] (D9 Tryz.func72 (xtext_ nb v0 v1 v2 v4 ks kn ka kc kg gs cs hkn hO hP (B5 (I1 [93,93,62] (q2.1.drop 9,q2.2)).1) (by have h9:=N2 (I1 [93,93,62] (q2.1.drop 9,q2.2)).1; have h8:=until_v [93,93,62] (q2.1.drop 9,q2.2); dsimp only at h8; rw [List.length_drop] at h8; omega) (by omega) (by omega) _ _) ?_)
 rintro _ _ ⟨kn5,ka5,kc5,kg5,kcs5,hk5,hO5,hP5,rfl⟩
 refine A5 [] [0,1,2,3] (k:=B8 (B8 (F8 1 [2,3,0,0,1] (D2 (s':=(m,(I1 [93,93,62] (q2.1.drop 9,q2.2)).2,(addX ks (B5 (I1 [93,93,62] (q2.1.drop 9,q2.2)).1)),kn5,ka5,kc5,kg5,gs,kcs5)) [0,1,2,3] kr kr ⟨(by dsimp only; rw [hT,cont_cdata hq0 hk1 hk2]),(by dsimp only; intro _; have h9:=S5 [93,93,62] (q2.1.drop 9,q2.2); dsimp only at h9; rw [List.length_drop] at h9; have h8:=pre_le hk2; simp only [List.length_cons,List.length_nil] at h8; omega),(by dsimp only; have h9:=S5 [93,93,62] (q2.1.drop 9,q2.2); dsimp only at h9; rw [List.length_drop] at h9; omega),hO5,hk5,hP5,(by dsimp only; have h9:=add_len ks (B5 (I1 [93,93,62] (q2.1.drop 9,q2.2)).1); omega),(by dsimp only; have h9:=S5 [93,93,62] (q2.1.drop 9,q2.2); have h7:=until_sum [93,93,62] (q2.1.drop 9,q2.2); dsimp only at h9 h7; rw [List.length_drop] at h9 h7; have h6:=N2 (I1 [93,93,62] (q2.1.drop 9,q2.2)).1; have h5:=lastT_add ks (B5 (I1 [93,93,62] (q2.1.drop 9,q2.2)).1); omega)⟩ (by dsimp only; omega)))))
 have hk2:¬ [60,33,91,67,68,65,84,65,91].isPrefixOf q2.1=true:=hk2
 have hk2:=hk2
 refine A5 [0] [0,1,2,3,53] (k:=A0 (C5 kr (A1 (A2 (A3 (j:=1) [0] (k:=D9 (vs:=[pt r]) Tryz.func35 (xaside2_ r q2 (by first | omega | (show (List.drop _ _).length≤_; rw [List.length_drop]; omega)) _ _ hX) ?_))))))
 rintro _ _ (⟨ha6,rfl,rfl⟩ | ⟨ha6,rfl,rfl⟩)
 have has:(I2 q2).1=true:=ha6
 refine A5 [0] [0,1,2,3,63] (k:=A0 (B9 kr (A7 (B8 (B8 (D2 (s':=(m,(I2 q2).2,ks,kn,ka,kc,kg,gs,cs)) [0,1,2,3] kr kr ⟨(by dsimp only; rw [hT,cont_aside hq0 hk1 hk2 has]),(by dsimp only; intro _; have h9:=aside_lt has; omega),(by dsimp only; have h9:=A0k q2; omega),hO,hkn,hP,(by dsimp only; omega),(by dsimp only; have h9:=A0k q2; omega)⟩ (by dsimp only; omega)))))))
 have has:(I2 q2).1=false:=ha6
 refine A5 [0] [0,1,2,3,63] (k:=A0 (C5 kr (A1 (A2 (A3 (j:=1) [0] (k:=D9 Tryz.func36 (xtake_ r q2 [60] _ _) ?_))))))
 rintro _ _ (⟨hk7,rfl,rfl⟩ | ⟨hk7,rfl,rfl⟩)
 have hk7:[60].isPrefixOf q2.1=true:=hk7
 have hk3:=hk7
 refine A5 [0] [0,1,2,3,66] (k:=A0 (B9 kr (P6 (T:=Option Addr × Nat × Grp × List Value × Grp) (fun ξ:Option Addr × Nat × Grp × List Value × Grp=>[⟨0,[],pt r⟩,⟨1,[],pt nb⟩,⟨2,[],.int .i64 d⟩,⟨3,[],.map (some ms)⟩]) (fun ξ:Option Addr × Nat × Grp × List Value × Grp=>([(r,.cells #[.string (bk (((elX lv sp) (q2.1.drop 1,q2.2)).2).1),.int .i64 ((((elX lv sp) (q2.1.drop 1,q2.2)).2).2)] 45 (0,0))]::[(ms,.map (G3 M) mc)]::[(nb,.cells #[v0,v1,v2,.slice ξ.1 (kn+1) ξ.2.1,v4] 26 (0,0))]::ξ.2.2.1::gs::ξ.2.2.2.2::H)) (fun ξ:Option Addr × Nat × Grp × List Value × Grp=>(Go.Sw.Own 26 5 (.slice ξ.1 (kn+1) ξ.2.1) ξ.2.2.1 (kn+1) (cs++ξ.2.2.2.1))∧(XRep 59 26 ((elX lv sp) (q2.1.drop 1,q2.2)).1 ξ.2.2.2.1 ξ.2.2.2.2)) ?_ ?_)))
 refine H4 ([(ms,.map (G3 M) mc)]::gs::H) kr (G1 (fuel:=16) [(0,0)] (fun w h=>(h.pk 3 [1,3])) (k:=J4 (ad:=⟨nb,0,none⟩) 1 (hL:=(fun w h=>(h.pk 3 [1,3]))) (k:=G1 (fuel:=11) [(2,0),(4,0),(5,0),(6,0)] (fun w h=>(h.pk 3 [1,3])) (k:=GH_wi 75 (d+1) (by omega) (by omega) kr (G1 (fuel:=10) [(7,0)] (fun w h=>(h.pk 3 [1,3])) (k:=GH_eff3 3 8 10 kr kr kr kr kr kr kr ?_ ?_ ?_))))))
 refine C1 2 3 rfl rfl (A9 kr (fun w h=>(h.pk 3 [1,3])) (P9 (v:=.int .i64 ((kn:Nat):Int)) 9 (hL:=(fun w h=>(h.pk 3 [1,3]))) (k:=H7 8 10 (k:=?_) (k':=?_))))
 refine D9 (vs:=[pt r,.int .i64 (d+1),.map (some ms)]) Tryz.func18 (hel (q2.1.drop 1,q2.2) (by show (List.drop 1 _).length≤_; rw [List.length_drop]; omega) _ _ hX) ?_
 rintro _ _ ⟨vc9,gv9,hJ9,rfl,rfl⟩
 obtain ⟨e0_9,e1_9,e2_9,e3_9,e4_9,rfl,h19⟩:=hJ9.cells5
 refine A9 kr (fun w h=>(h.pk 4 [1,4])) (M2 ([(ms,.map (G3 M) mc)]::gv9::gs::H) (fun w h=>(h.pk 1 [0,1])) (C6 10 (k:=H0 26 1 zN (fun b10=>A9 kr (fun w h=>(h.pk 4 [2,2,4])) (M2 ([(b10,.cells zN.toArray 26 (0,0))]::[(ms,.map (G3 M) mc)]::gv9::gs::H) (fun w h=>(h.pk 1 [1,1,1])) (C6 11 (k:=L7 (inf:=Tryz.t26) 1 0 5 rfl rfl hO (by omega) (by show (kn+1) * 96≤140737488355328; omega) (fun v11 g12 hO13=>?_))))))))
 obtain ⟨a14,cap15,rfl,hcap16,hrd17⟩:=hO13.shape
 refine A9 kr (fun w h=>(h.pkT 3 [0,1,1,3])) (J4 (ad:=⟨nb,0,none⟩) 14 (hL:=(fun w h=>(h.pkT 3 [0,1,1,3]))) (k:=G1 (fuel:=3) [(15,0)] (fun w h=>(h.pkT 3 [0,1,1,3])) (k:=H7 12 16 (k:=?_) (k':=?_))))
 refine E4 (a:=a14) (S:=(inG g12)) (cs:=(cs++zN)) (kn+1) ((kn:Nat):Int) 5 (F0 hO13) (by exact ⟨by omega,by omega,by intro h; have h2:=congrArg List.length h; rw [List.length_append] at h2; simp at h2⟩) (A9 kr (fun w h=>(h.pkT 3 [0,1,1,3])) (H7 13 16 (k:=?_) (k':=?_)))
 refine E2 (ch:=[]) (a:=a14) (q:=kn * 5) (len:=(kn+1)) (cap:=cap15) (v:=.agg #[e0_9,e1_9,e2_9,e3_9,e4_9]) (g:=g12) (j:=5) (cs:=(cs++zN)) (cs':=(cs++[e0_9,e1_9,e2_9,e3_9,e4_9])) (l:=[e0_9,e1_9,e2_9,e3_9,e4_9]) (h1:=h19) (hO:=hO13) (hq:=(by rw [List.length_append,(show cs.length=kn * 5 by rw [hP.len]; omega)]; exact Nat.le_refl _)) (h0:=List.cons_ne_nil _ _) (hcs:=F7 (z:=zN) (l:=[e0_9,e1_9,e2_9,e3_9,e4_9]) (show cs.length=kn * 5 by rw [hP.len]; omega) rfl) (k:=(fun g18 hO19=>?_))
 refine A9 kr (fun w h=>(h.pkT 3 [0,1,1,3])) (C6 16 (k:=D0 4 3 (.slice a14 (kn+1) cap15) rfl (A9 kr (fun w h=>(h.pkT 3 [0,1,1,3])) (D8 (E':=[⟨0,[],pt r⟩,⟨1,[],pt nb⟩,⟨2,[],.int .i64 d⟩,⟨3,[],.map (some ms)⟩]) [0,1,2,3] (k:=E6 (a14,cap15,g18,[e0_9,e1_9,e2_9,e3_9,e4_9],gv9) [0,1,2,3] kr (fun w h=>h.pkT 1 [1,1,2,2,2,1]) ⟨hO19,hJ9⟩)))))
 refine D0 4 3 (.slice a14 (kn+1) cap15) rfl (A9 kr (fun w h=>(h.pkT 3 [0,1,1,3])) (C6 13 (k:=E2 (ch:=[]) (a:=a14) (q:=kn * 5) (len:=(kn+1)) (cap:=cap15) (v:=.agg #[e0_9,e1_9,e2_9,e3_9,e4_9]) (g:=g12) (j:=5) (cs:=(cs++zN)) (cs':=(cs++[e0_9,e1_9,e2_9,e3_9,e4_9])) (l:=[e0_9,e1_9,e2_9,e3_9,e4_9]) (h1:=h19) (hO:=hO13) (hq:=(by rw [List.length_append,(show cs.length=kn * 5 by rw [hP.len]; omega)]; exact Nat.le_refl _)) (h0:=List.cons_ne_nil _ _) (hcs:=F7 (z:=zN) (l:=[e0_9,e1_9,e2_9,e3_9,e4_9]) (show cs.length=kn * 5 by rw [hP.len]; omega) rfl) (k:=(fun g20 hO21=>?_)))))
 refine A9 kr (fun w h=>(h.pkT 3 [0,1,1,3])) (D8 (E':=[⟨0,[],pt r⟩,⟨1,[],pt nb⟩,⟨2,[],.int .i64 d⟩,⟨3,[],.map (some ms)⟩]) [0,1,2,3] (k:=E6 (a14,cap15,g20,[e0_9,e1_9,e2_9,e3_9,e4_9],gv9) [0,1,2,3] kr (fun w h=>h.pkT 1 [1,1,2,2,2,1]) ⟨hO21,hJ9⟩))
 refine D0 4 3 (.slice a14 (kn+1) cap15) rfl (A9 kr (fun w h=>(h.pkT 3 [0,1,1,3])) (C6 12 (k:=E4 (a:=a14) (S:=(inG g12)) (cs:=(cs++zN)) (kn+1) ((kn:Nat):Int) 5 (F0 hO13) (by exact ⟨by omega,by omega,by intro h; have h2:=congrArg List.length h; rw [List.length_append] at h2; simp at h2⟩) (A9 kr (fun w h=>(h.pkT 3 [0,1,1,3])) (C6 13 (k:=E2 (ch:=[]) (a:=a14) (q:=kn * 5) (len:=(kn+1)) (cap:=cap15) (v:=.agg #[e0_9,e1_9,e2_9,e3_9,e4_9]) (g:=g12) (j:=5) (cs:=(cs++zN)) (cs':=(cs++[e0_9,e1_9,e2_9,e3_9,e4_9])) (l:=[e0_9,e1_9,e2_9,e3_9,e4_9]) (h1:=h19) (hO:=hO13) (hq:=(by rw [List.length_append,(show cs.length=kn * 5 by rw [hP.len]; omega)]; exact Nat.le_refl _)) (h0:=List.cons_ne_nil _ _) (hcs:=F7 (z:=zN) (l:=[e0_9,e1_9,e2_9,e3_9,e4_9]) (show cs.length=kn * 5 by rw [hP.len]; omega) rfl) (k:=(fun g22 hO23=>?_))))))))
 refine A9 kr (fun w h=>(h.pkT 3 [0,1,1,3])) (D8 (E':=[⟨0,[],pt r⟩,⟨1,[],pt nb⟩,⟨2,[],.int .i64 d⟩,⟨3,[],.map (some ms)⟩]) [0,1,2,3] (k:=E6 (a14,cap15,g22,[e0_9,e1_9,e2_9,e3_9,e4_9],gv9) [0,1,2,3] kr (fun w h=>h.pkT 1 [1,1,2,2,2,1]) ⟨hO23,hJ9⟩))
 refine H0 26 1 zN (fun b24=>A9 kr (fun w h=>(h.pk 4 [2,4])) (M2 ([(b24,.cells zN.toArray 26 (0,0))]::[(ms,.map (G3 M) mc)]::gs::H) (fun w h=>(h.pk 1 [1,1])) (C6 8 (k:=M1 0 [1,1] (D9 (vs:=[pt r,.int .i64 (d+1),.map (some ms)]) Tryz.func18 (hel (q2.1.drop 1,q2.2) (by show (List.drop 1 _).length≤_; rw [List.length_drop]; omega) _ _ hX) ?_)))))
 rintro _ _ ⟨vc25,gv25,hJ25,rfl,rfl⟩
 obtain ⟨e0_25,e1_25,e2_25,e3_25,e4_25,rfl,h125⟩:=hJ25.cells5
 refine A9 kr (fun w h=>(h.pk 4 [3,1,4])) (M2 ([(ms,.map (G3 M) mc)]::gv25::[(b24,.cells zN.toArray 26 (0,0))]::gs::H) (fun w h=>(h.pk 1 [2,0,1])) (C6 11 (k:=L7 (inf:=Tryz.t26) 1 3 5 rfl rfl hO (by omega) (by show (kn+1) * 96≤140737488355328; omega) (fun v26 g27 hO28=>?_))))
 obtain ⟨a29,cap30,rfl,hcap31,hrd32⟩:=hO28.shape
 refine A9 kr (fun w h=>(h.pkT 3 [1,1,1,3])) (J4 (ad:=⟨nb,0,none⟩) 14 (hL:=(fun w h=>(h.pkT 3 [1,1,1,3]))) (k:=G1 (fuel:=3) [(15,0)] (fun w h=>(h.pkT 3 [1,1,1,3])) (k:=H7 12 16 (k:=?_) (k':=?_))))
 refine E4 (a:=a29) (S:=(inG g27)) (cs:=(cs++zN)) (kn+1) ((kn:Nat):Int) 5 (F0 hO28) (by exact ⟨by omega,by omega,by intro h; have h2:=congrArg List.length h; rw [List.length_append] at h2; simp at h2⟩) (A9 kr (fun w h=>(h.pkT 3 [1,1,1,3])) (H7 13 16 (k:=?_) (k':=?_)))
 refine E2 (ch:=[]) (a:=a29) (q:=kn * 5) (len:=(kn+1)) (cap:=cap30) (v:=.agg #[e0_25,e1_25,e2_25,e3_25,e4_25]) (g:=g27) (j:=5) (cs:=(cs++zN)) (cs':=(cs++[e0_25,e1_25,e2_25,e3_25,e4_25])) (l:=[e0_25,e1_25,e2_25,e3_25,e4_25]) (h1:=h125) (hO:=hO28) (hq:=(by rw [List.length_append,(show cs.length=kn * 5 by rw [hP.len]; omega)]; exact Nat.le_refl _)) (h0:=List.cons_ne_nil _ _) (hcs:=F7 (z:=zN) (l:=[e0_25,e1_25,e2_25,e3_25,e4_25]) (show cs.length=kn * 5 by rw [hP.len]; omega) rfl) (k:=(fun g33 hO34=>?_))
 refine A9 kr (fun w h=>(h.pkT 3 [1,1,1,3])) (C6 16 (k:=D0 4 3 (.slice a29 (kn+1) cap30) rfl (A9 kr (fun w h=>(h.pkT 3 [1,1,1,3])) (D8 (E':=[⟨0,[],pt r⟩,⟨1,[],pt nb⟩,⟨2,[],.int .i64 d⟩,⟨3,[],.map (some ms)⟩]) [0,1,2,3] (k:=E6 (a29,cap30,g33,[e0_25,e1_25,e2_25,e3_25,e4_25],gv25) [0,1,2,3] kr (fun w h=>h.pkT 1 [0,0,2,2,2,0]) ⟨hO34,hJ25⟩)))))
 refine D0 4 3 (.slice a29 (kn+1) cap30) rfl (A9 kr (fun w h=>(h.pkT 3 [1,1,1,3])) (C6 13 (k:=E2 (ch:=[]) (a:=a29) (q:=kn * 5) (len:=(kn+1)) (cap:=cap30) (v:=.agg #[e0_25,e1_25,e2_25,e3_25,e4_25]) (g:=g27) (j:=5) (cs:=(cs++zN)) (cs':=(cs++[e0_25,e1_25,e2_25,e3_25,e4_25])) (l:=[e0_25,e1_25,e2_25,e3_25,e4_25]) (h1:=h125) (hO:=hO28) (hq:=(by rw [List.length_append,(show cs.length=kn * 5 by rw [hP.len]; omega)]; exact Nat.le_refl _)) (h0:=List.cons_ne_nil _ _) (hcs:=F7 (z:=zN) (l:=[e0_25,e1_25,e2_25,e3_25,e4_25]) (show cs.length=kn * 5 by rw [hP.len]; omega) rfl) (k:=(fun g35 hO36=>?_)))))
 refine A9 kr (fun w h=>(h.pkT 3 [1,1,1,3])) (D8 (E':=[⟨0,[],pt r⟩,⟨1,[],pt nb⟩,⟨2,[],.int .i64 d⟩,⟨3,[],.map (some ms)⟩]) [0,1,2,3] (k:=E6 (a29,cap30,g35,[e0_25,e1_25,e2_25,e3_25,e4_25],gv25) [0,1,2,3] kr (fun w h=>h.pkT 1 [0,0,2,2,2,0]) ⟨hO36,hJ25⟩))
 refine D0 4 3 (.slice a29 (kn+1) cap30) rfl (A9 kr (fun w h=>(h.pkT 3 [1,1,1,3])) (C6 12 (k:=E4 (a:=a29) (S:=(inG g27)) (cs:=(cs++zN)) (kn+1) ((kn:Nat):Int) 5 (F0 hO28) (by exact ⟨by omega,by omega,by intro h; have h2:=congrArg List.length h; rw [List.length_append] at h2; simp at h2⟩) (A9 kr (fun w h=>(h.pkT 3 [1,1,1,3])) (C6 13 (k:=E2 (ch:=[]) (a:=a29) (q:=kn * 5) (len:=(kn+1)) (cap:=cap30) (v:=.agg #[e0_25,e1_25,e2_25,e3_25,e4_25]) (g:=g27) (j:=5) (cs:=(cs++zN)) (cs':=(cs++[e0_25,e1_25,e2_25,e3_25,e4_25])) (l:=[e0_25,e1_25,e2_25,e3_25,e4_25]) (h1:=h125) (hO:=hO28) (hq:=(by rw [List.length_append,(show cs.length=kn * 5 by rw [hP.len]; omega)]; exact Nat.le_refl _)) (h0:=List.cons_ne_nil _ _) (hcs:=F7 (z:=zN) (l:=[e0_25,e1_25,e2_25,e3_25,e4_25]) (show cs.length=kn * 5 by rw [hP.len]; omega) rfl) (k:=(fun g37 hO38=>?_))))))))
 refine A9 kr (fun w h=>(h.pkT 3 [1,1,1,3])) (D8 (E':=[⟨0,[],pt r⟩,⟨1,[],pt nb⟩,⟨2,[],.int .i64 d⟩,⟨3,[],.map (some ms)⟩]) [0,1,2,3] (k:=E6 (a29,cap30,g37,[e0_25,e1_25,e2_25,e3_25,e4_25],gv25) [0,1,2,3] kr (fun w h=>h.pkT 1 [0,0,2,2,2,0]) ⟨hO38,hJ25⟩))
 refine D9 (vs:=[pt r,.int .i64 (d+1),.map (some ms)]) Tryz.func18 (hel (q2.1.drop 1,q2.2) (by show (List.drop 1 _).length≤_; rw [List.length_drop]; omega) _ _ hX) ?_
 rintro _ _ ⟨vc39,gv39,hJ39,rfl,rfl⟩
 obtain ⟨e0_39,e1_39,e2_39,e3_39,e4_39,rfl,h139⟩:=hJ39.cells5
 refine A9 kr (fun w h=>(h.pk 4 [1,4])) (M2 ([(ms,.map (G3 M) mc)]::gv39::gs::H) (fun w h=>(h.pk 1 [0,1])) (H7 3 10 (k:=?_) (k':=?_)))
 refine C1 3 3 rfl rfl (A9 kr (fun w h=>(h.pk 3 [1,1,3])) (P9 (v:=.int .i64 ((kn:Nat):Int)) 9 (hL:=(fun w h=>(h.pk 3 [1,1,3]))) (k:=C6 10 (k:=H0 26 1 zN (fun b40=>A9 kr (fun w h=>(h.pk 4 [2,2,4])) (M2 ([(b40,.cells zN.toArray 26 (0,0))]::[(ms,.map (G3 M) mc)]::gv39::gs::H) (fun w h=>(h.pk 1 [1,1,1])) (C6 11 (k:=L7 (inf:=Tryz.t26) 1 0 5 rfl rfl hO (by omega) (by show (kn+1) * 96≤140737488355328; omega) (fun v41 g42 hO43=>?_)))))))))
 obtain ⟨a44,cap45,rfl,hcap46,hrd47⟩:=hO43.shape
 refine A9 kr (fun w h=>(h.pkT 3 [0,1,1,3])) (J4 (ad:=⟨nb,0,none⟩) 14 (hL:=(fun w h=>(h.pkT 3 [0,1,1,3]))) (k:=G1 (fuel:=3) [(15,0)] (fun w h=>(h.pkT 3 [0,1,1,3])) (k:=H7 12 16 (k:=?_) (k':=?_))))
 refine E4 (a:=a44) (S:=(inG g42)) (cs:=(cs++zN)) (kn+1) ((kn:Nat):Int) 5 (F0 hO43) (by exact ⟨by omega,by omega,by intro h; have h2:=congrArg List.length h; rw [List.length_append] at h2; simp at h2⟩) (A9 kr (fun w h=>(h.pkT 3 [0,1,1,3])) (H7 13 16 (k:=?_) (k':=?_)))
 refine E2 (ch:=[]) (a:=a44) (q:=kn * 5) (len:=(kn+1)) (cap:=cap45) (v:=.agg #[e0_39,e1_39,e2_39,e3_39,e4_39]) (g:=g42) (j:=5) (cs:=(cs++zN)) (cs':=(cs++[e0_39,e1_39,e2_39,e3_39,e4_39])) (l:=[e0_39,e1_39,e2_39,e3_39,e4_39]) (h1:=h139) (hO:=hO43) (hq:=(by rw [List.length_append,(show cs.length=kn * 5 by rw [hP.len]; omega)]; exact Nat.le_refl _)) (h0:=List.cons_ne_nil _ _) (hcs:=F7 (z:=zN) (l:=[e0_39,e1_39,e2_39,e3_39,e4_39]) (show cs.length=kn * 5 by rw [hP.len]; omega) rfl) (k:=(fun g48 hO49=>?_))
 refine A9 kr (fun w h=>(h.pkT 3 [0,1,1,3])) (C6 16 (k:=D0 4 3 (.slice a44 (kn+1) cap45) rfl (A9 kr (fun w h=>(h.pkT 3 [0,1,1,3])) (D8 (E':=[⟨0,[],pt r⟩,⟨1,[],pt nb⟩,⟨2,[],.int .i64 d⟩,⟨3,[],.map (some ms)⟩]) [0,1,2,3] (k:=E6 (a44,cap45,g48,[e0_39,e1_39,e2_39,e3_39,e4_39],gv39) [0,1,2,3] kr (fun w h=>h.pkT 1 [1,1,2,2,2,1]) ⟨hO49,hJ39⟩)))))
 refine D0 4 3 (.slice a44 (kn+1) cap45) rfl (A9 kr (fun w h=>(h.pkT 3 [0,1,1,3])) (C6 13 (k:=E2 (ch:=[]) (a:=a44) (q:=kn * 5) (len:=(kn+1)) (cap:=cap45) (v:=.agg #[e0_39,e1_39,e2_39,e3_39,e4_39]) (g:=g42) (j:=5) (cs:=(cs++zN)) (cs':=(cs++[e0_39,e1_39,e2_39,e3_39,e4_39])) (l:=[e0_39,e1_39,e2_39,e3_39,e4_39]) (h1:=h139) (hO:=hO43) (hq:=(by rw [List.length_append,(show cs.length=kn * 5 by rw [hP.len]; omega)]; exact Nat.le_refl _)) (h0:=List.cons_ne_nil _ _) (hcs:=F7 (z:=zN) (l:=[e0_39,e1_39,e2_39,e3_39,e4_39]) (show cs.length=kn * 5 by rw [hP.len]; omega) rfl) (k:=(fun g50 hO51=>?_)))))
 refine A9 kr (fun w h=>(h.pkT 3 [0,1,1,3])) (D8 (E':=[⟨0,[],pt r⟩,⟨1,[],pt nb⟩,⟨2,[],.int .i64 d⟩,⟨3,[],.map (some ms)⟩]) [0,1,2,3] (k:=E6 (a44,cap45,g50,[e0_39,e1_39,e2_39,e3_39,e4_39],gv39) [0,1,2,3] kr (fun w h=>h.pkT 1 [1,1,2,2,2,1]) ⟨hO51,hJ39⟩))
 refine D0 4 3 (.slice a44 (kn+1) cap45) rfl (A9 kr (fun w h=>(h.pkT 3 [0,1,1,3])) (C6 12 (k:=E4 (a:=a44) (S:=(inG g42)) (cs:=(cs++zN)) (kn+1) ((kn:Nat):Int) 5 (F0 hO43) (by exact ⟨by omega,by omega,by intro h; have h2:=congrArg List.length h; rw [List.length_append] at h2; simp at h2⟩) (A9 kr (fun w h=>(h.pkT 3 [0,1,1,3])) (C6 13 (k:=E2 (ch:=[]) (a:=a44) (q:=kn * 5) (len:=(kn+1)) (cap:=cap45) (v:=.agg #[e0_39,e1_39,e2_39,e3_39,e4_39]) (g:=g42) (j:=5) (cs:=(cs++zN)) (cs':=(cs++[e0_39,e1_39,e2_39,e3_39,e4_39])) (l:=[e0_39,e1_39,e2_39,e3_39,e4_39]) (h1:=h139) (hO:=hO43) (hq:=(by rw [List.length_append,(show cs.length=kn * 5 by rw [hP.len]; omega)]; exact Nat.le_refl _)) (h0:=List.cons_ne_nil _ _) (hcs:=F7 (z:=zN) (l:=[e0_39,e1_39,e2_39,e3_39,e4_39]) (show cs.length=kn * 5 by rw [hP.len]; omega) rfl) (k:=(fun g52 hO53=>?_))))))))
 refine A9 kr (fun w h=>(h.pkT 3 [0,1,1,3])) (D8 (E':=[⟨0,[],pt r⟩,⟨1,[],pt nb⟩,⟨2,[],.int .i64 d⟩,⟨3,[],.map (some ms)⟩]) [0,1,2,3] (k:=E6 (a44,cap45,g52,[e0_39,e1_39,e2_39,e3_39,e4_39],gv39) [0,1,2,3] kr (fun w h=>h.pkT 1 [1,1,2,2,2,1]) ⟨hO53,hJ39⟩))
 refine H0 26 1 zN (fun b54=>A9 kr (fun w h=>(h.pk 4 [2,2,4])) (M2 ([(b54,.cells zN.toArray 26 (0,0))]::[(ms,.map (G3 M) mc)]::gv39::gs::H) (fun w h=>(h.pk 1 [1,1,1])) (C6 3 (k:=C1 4 3 rfl rfl (A9 kr (fun w h=>(h.pk 3 [0,1,1,3])) (P9 (v:=.int .i64 ((kn:Nat):Int)) 9 (hL:=(fun w h=>(h.pk 3 [0,1,1,3]))) (k:=C6 11 (k:=L7 (inf:=Tryz.t26) 1 0 5 rfl rfl hO (by omega) (by show (kn+1) * 96≤140737488355328; omega) (fun v55 g56 hO57=>?_)))))))))
 obtain ⟨a58,cap59,rfl,hcap60,hrd61⟩:=hO57.shape
 refine A9 kr (fun w h=>(h.pkT 3 [0,1,1,3])) (J4 (ad:=⟨nb,0,none⟩) 14 (hL:=(fun w h=>(h.pkT 3 [0,1,1,3]))) (k:=G1 (fuel:=3) [(15,0)] (fun w h=>(h.pkT 3 [0,1,1,3])) (k:=H7 12 16 (k:=?_) (k':=?_))))
 refine E4 (a:=a58) (S:=(inG g56)) (cs:=(cs++zN)) (kn+1) ((kn:Nat):Int) 5 (F0 hO57) (by exact ⟨by omega,by omega,by intro h; have h2:=congrArg List.length h; rw [List.length_append] at h2; simp at h2⟩) (A9 kr (fun w h=>(h.pkT 3 [0,1,1,3])) (H7 13 16 (k:=?_) (k':=?_)))
 refine E2 (ch:=[]) (a:=a58) (q:=kn * 5) (len:=(kn+1)) (cap:=cap59) (v:=.agg #[e0_39,e1_39,e2_39,e3_39,e4_39]) (g:=g56) (j:=5) (cs:=(cs++zN)) (cs':=(cs++[e0_39,e1_39,e2_39,e3_39,e4_39])) (l:=[e0_39,e1_39,e2_39,e3_39,e4_39]) (h1:=h139) (hO:=hO57) (hq:=(by rw [List.length_append,(show cs.length=kn * 5 by rw [hP.len]; omega)]; exact Nat.le_refl _)) (h0:=List.cons_ne_nil _ _) (hcs:=F7 (z:=zN) (l:=[e0_39,e1_39,e2_39,e3_39,e4_39]) (show cs.length=kn * 5 by rw [hP.len]; omega) rfl) (k:=(fun g62 hO63=>?_))
 refine A9 kr (fun w h=>(h.pkT 3 [0,1,1,3])) (C6 16 (k:=D0 4 3 (.slice a58 (kn+1) cap59) rfl (A9 kr (fun w h=>(h.pkT 3 [0,1,1,3])) (D8 (E':=[⟨0,[],pt r⟩,⟨1,[],pt nb⟩,⟨2,[],.int .i64 d⟩,⟨3,[],.map (some ms)⟩]) [0,1,2,3] (k:=E6 (a58,cap59,g62,[e0_39,e1_39,e2_39,e3_39,e4_39],gv39) [0,1,2,3] kr (fun w h=>h.pkT 1 [1,1,2,2,2,1]) ⟨hO63,hJ39⟩)))))
 refine D0 4 3 (.slice a58 (kn+1) cap59) rfl (A9 kr (fun w h=>(h.pkT 3 [0,1,1,3])) (C6 13 (k:=E2 (ch:=[]) (a:=a58) (q:=kn * 5) (len:=(kn+1)) (cap:=cap59) (v:=.agg #[e0_39,e1_39,e2_39,e3_39,e4_39]) (g:=g56) (j:=5) (cs:=(cs++zN)) (cs':=(cs++[e0_39,e1_39,e2_39,e3_39,e4_39])) (l:=[e0_39,e1_39,e2_39,e3_39,e4_39]) (h1:=h139) (hO:=hO57) (hq:=(by rw [List.length_append,(show cs.length=kn * 5 by rw [hP.len]; omega)]; exact Nat.le_refl _)) (h0:=List.cons_ne_nil _ _) (hcs:=F7 (z:=zN) (l:=[e0_39,e1_39,e2_39,e3_39,e4_39]) (show cs.length=kn * 5 by rw [hP.len]; omega) rfl) (k:=(fun g64 hO65=>?_)))))
 refine A9 kr (fun w h=>(h.pkT 3 [0,1,1,3])) (D8 (E':=[⟨0,[],pt r⟩,⟨1,[],pt nb⟩,⟨2,[],.int .i64 d⟩,⟨3,[],.map (some ms)⟩]) [0,1,2,3] (k:=E6 (a58,cap59,g64,[e0_39,e1_39,e2_39,e3_39,e4_39],gv39) [0,1,2,3] kr (fun w h=>h.pkT 1 [1,1,2,2,2,1]) ⟨hO65,hJ39⟩))
 refine D0 4 3 (.slice a58 (kn+1) cap59) rfl (A9 kr (fun w h=>(h.pkT 3 [0,1,1,3])) (C6 12 (k:=E4 (a:=a58) (S:=(inG g56)) (cs:=(cs++zN)) (kn+1) ((kn:Nat):Int) 5 (F0 hO57) (by exact ⟨by omega,by omega,by intro h; have h2:=congrArg List.length h; rw [List.length_append] at h2; simp at h2⟩) (A9 kr (fun w h=>(h.pkT 3 [0,1,1,3])) (C6 13 (k:=E2 (ch:=[]) (a:=a58) (q:=kn * 5) (len:=(kn+1)) (cap:=cap59) (v:=.agg #[e0_39,e1_39,e2_39,e3_39,e4_39]) (g:=g56) (j:=5) (cs:=(cs++zN)) (cs':=(cs++[e0_39,e1_39,e2_39,e3_39,e4_39])) (l:=[e0_39,e1_39,e2_39,e3_39,e4_39]) (h1:=h139) (hO:=hO57) (hq:=(by rw [List.length_append,(show cs.length=kn * 5 by rw [hP.len]; omega)]; exact Nat.le_refl _)) (h0:=List.cons_ne_nil _ _) (hcs:=F7 (z:=zN) (l:=[e0_39,e1_39,e2_39,e3_39,e4_39]) (show cs.length=kn * 5 by rw [hP.len]; omega) rfl) (k:=(fun g66 hO67=>?_))))))))
 refine A9 kr (fun w h=>(h.pkT 3 [0,1,1,3])) (D8 (E':=[⟨0,[],pt r⟩,⟨1,[],pt nb⟩,⟨2,[],.int .i64 d⟩,⟨3,[],.map (some ms)⟩]) [0,1,2,3] (k:=E6 (a58,cap59,g66,[e0_39,e1_39,e2_39,e3_39,e4_39],gv39) [0,1,2,3] kr (fun w h=>h.pkT 1 [1,1,2,2,2,1]) ⟨hO67,hJ39⟩))
 refine H0 26 1 zN (fun b68=>A9 kr (fun w h=>(h.pk 4 [2,4])) (M2 ([(b68,.cells zN.toArray 26 (0,0))]::[(ms,.map (G3 M) mc)]::gs::H) (fun w h=>(h.pk 1 [1,1])) (H7 3 8 (k:=?_) (k':=?_))))
 refine C1 3 3 rfl rfl (A9 kr (fun w h=>(h.pk 3 [0,1,3])) (P9 (v:=.int .i64 ((kn:Nat):Int)) 9 (hL:=(fun w h=>(h.pk 3 [0,1,3]))) (k:=C6 8 (k:=M1 0 [1,1] (D9 (vs:=[pt r,.int .i64 (d+1),.map (some ms)]) Tryz.func18 (hel (q2.1.drop 1,q2.2) (by show (List.drop 1 _).length≤_; rw [List.length_drop]; omega) _ _ hX) ?_)))))
 rintro _ _ ⟨vc69,gv69,hJ69,rfl,rfl⟩
 obtain ⟨e0_69,e1_69,e2_69,e3_69,e4_69,rfl,h169⟩:=hJ69.cells5
 refine A9 kr (fun w h=>(h.pk 4 [3,1,4])) (M2 ([(ms,.map (G3 M) mc)]::gv69::[(b68,.cells zN.toArray 26 (0,0))]::gs::H) (fun w h=>(h.pk 1 [2,0,1])) (C6 11 (k:=L7 (inf:=Tryz.t26) 1 3 5 rfl rfl hO (by omega) (by show (kn+1) * 96≤140737488355328; omega) (fun v70 g71 hO72=>?_))))
 obtain ⟨a73,cap74,rfl,hcap75,hrd76⟩:=hO72.shape
 refine A9 kr (fun w h=>(h.pkT 3 [1,1,1,3])) (J4 (ad:=⟨nb,0,none⟩) 14 (hL:=(fun w h=>(h.pkT 3 [1,1,1,3]))) (k:=G1 (fuel:=3) [(15,0)] (fun w h=>(h.pkT 3 [1,1,1,3])) (k:=H7 12 16 (k:=?_) (k':=?_))))
 refine E4 (a:=a73) (S:=(inG g71)) (cs:=(cs++zN)) (kn+1) ((kn:Nat):Int) 5 (F0 hO72) (by exact ⟨by omega,by omega,by intro h; have h2:=congrArg List.length h; rw [List.length_append] at h2; simp at h2⟩) (A9 kr (fun w h=>(h.pkT 3 [1,1,1,3])) (H7 13 16 (k:=?_) (k':=?_)))
 refine E2 (ch:=[]) (a:=a73) (q:=kn * 5) (len:=(kn+1)) (cap:=cap74) (v:=.agg #[e0_69,e1_69,e2_69,e3_69,e4_69]) (g:=g71) (j:=5) (cs:=(cs++zN)) (cs':=(cs++[e0_69,e1_69,e2_69,e3_69,e4_69])) (l:=[e0_69,e1_69,e2_69,e3_69,e4_69]) (h1:=h169) (hO:=hO72) (hq:=(by rw [List.length_append,(show cs.length=kn * 5 by rw [hP.len]; omega)]; exact Nat.le_refl _)) (h0:=List.cons_ne_nil _ _) (hcs:=F7 (z:=zN) (l:=[e0_69,e1_69,e2_69,e3_69,e4_69]) (show cs.length=kn * 5 by rw [hP.len]; omega) rfl) (k:=(fun g77 hO78=>?_))
 refine A9 kr (fun w h=>(h.pkT 3 [1,1,1,3])) (C6 16 (k:=D0 4 3 (.slice a73 (kn+1) cap74) rfl (A9 kr (fun w h=>(h.pkT 3 [1,1,1,3])) (D8 (E':=[⟨0,[],pt r⟩,⟨1,[],pt nb⟩,⟨2,[],.int .i64 d⟩,⟨3,[],.map (some ms)⟩]) [0,1,2,3] (k:=E6 (a73,cap74,g77,[e0_69,e1_69,e2_69,e3_69,e4_69],gv69) [0,1,2,3] kr (fun w h=>h.pkT 1 [0,0,2,2,2,0]) ⟨hO78,hJ69⟩)))))
 refine D0 4 3 (.slice a73 (kn+1) cap74) rfl (A9 kr (fun w h=>(h.pkT 3 [1,1,1,3])) (C6 13 (k:=E2 (ch:=[]) (a:=a73) (q:=kn * 5) (len:=(kn+1)) (cap:=cap74) (v:=.agg #[e0_69,e1_69,e2_69,e3_69,e4_69]) (g:=g71) (j:=5) (cs:=(cs++zN)) (cs':=(cs++[e0_69,e1_69,e2_69,e3_69,e4_69])) (l:=[e0_69,e1_69,e2_69,e3_69,e4_69]) (h1:=h169) (hO:=hO72) (hq:=(by rw [List.length_append,(show cs.length=kn * 5 by rw [hP.len]; omega)]; exact Nat.le_refl _)) (h0:=List.cons_ne_nil _ _) (hcs:=F7 (z:=zN) (l:=[e0_69,e1_69,e2_69,e3_69,e4_69]) (show cs.length=kn * 5 by rw [hP.len]; omega) rfl) (k:=(fun g79 hO80=>?_)))))
 refine A9 kr (fun w h=>(h.pkT 3 [1,1,1,3])) (D8 (E':=[⟨0,[],pt r⟩,⟨1,[],pt nb⟩,⟨2,[],.int .i64 d⟩,⟨3,[],.map (some ms)⟩]) [0,1,2,3] (k:=E6 (a73,cap74,g79,[e0_69,e1_69,e2_69,e3_69,e4_69],gv69) [0,1,2,3] kr (fun w h=>h.pkT 1 [0,0,2,2,2,0]) ⟨hO80,hJ69⟩))
 refine D0 4 3 (.slice a73 (kn+1) cap74) rfl (A9 kr (fun w h=>(h.pkT 3 [1,1,1,3])) (C6 12 (k:=E4 (a:=a73) (S:=(inG g71)) (cs:=(cs++zN)) (kn+1) ((kn:Nat):Int) 5 (F0 hO72) (by exact ⟨by omega,by omega,by intro h; have h2:=congrArg List.length h; rw [List.length_append] at h2; simp at h2⟩) (A9 kr (fun w h=>(h.pkT 3 [1,1,1,3])) (C6 13 (k:=E2 (ch:=[]) (a:=a73) (q:=kn * 5) (len:=(kn+1)) (cap:=cap74) (v:=.agg #[e0_69,e1_69,e2_69,e3_69,e4_69]) (g:=g71) (j:=5) (cs:=(cs++zN)) (cs':=(cs++[e0_69,e1_69,e2_69,e3_69,e4_69])) (l:=[e0_69,e1_69,e2_69,e3_69,e4_69]) (h1:=h169) (hO:=hO72) (hq:=(by rw [List.length_append,(show cs.length=kn * 5 by rw [hP.len]; omega)]; exact Nat.le_refl _)) (h0:=List.cons_ne_nil _ _) (hcs:=F7 (z:=zN) (l:=[e0_69,e1_69,e2_69,e3_69,e4_69]) (show cs.length=kn * 5 by rw [hP.len]; omega) rfl) (k:=(fun g81 hO82=>?_))))))))
 refine A9 kr (fun w h=>(h.pkT 3 [1,1,1,3])) (D8 (E':=[⟨0,[],pt r⟩,⟨1,[],pt nb⟩,⟨2,[],.int .i64 d⟩,⟨3,[],.map (some ms)⟩]) [0,1,2,3] (k:=E6 (a73,cap74,g81,[e0_69,e1_69,e2_69,e3_69,e4_69],gv69) [0,1,2,3] kr (fun w h=>h.pkT 1 [0,0,2,2,2,0]) ⟨hO82,hJ69⟩))
 refine M1 0 [1,1] (D9 (vs:=[pt r,.int .i64 (d+1),.map (some ms)]) Tryz.func18 (hel (q2.1.drop 1,q2.2) (by show (List.drop 1 _).length≤_; rw [List.length_drop]; omega) _ _ hX) ?_)
 rintro _ _ ⟨vc83,gv83,hJ83,rfl,rfl⟩
 obtain ⟨e0_83,e1_83,e2_83,e3_83,e4_83,rfl,h183⟩:=hJ83.cells5
 refine A9 kr (fun w h=>(h.pk 4 [3,1,4])) (M2 ([(ms,.map (G3 M) mc)]::gv83::[(b68,.cells zN.toArray 26 (0,0))]::gs::H) (fun w h=>(h.pk 1 [2,0,1])) (C6 3 (k:=C1 4 3 rfl rfl (A9 kr (fun w h=>(h.pk 3 [1,1,1,3])) (P9 (v:=.int .i64 ((kn:Nat):Int)) 9 (hL:=(fun w h=>(h.pk 3 [1,1,1,3]))) (k:=C6 11 (k:=L7 (inf:=Tryz.t26) 1 3 5 rfl rfl hO (by omega) (by show (kn+1) * 96≤140737488355328; omega) (fun v84 g85 hO86=>?_))))))))
 obtain ⟨a87,cap88,rfl,hcap89,hrd90⟩:=hO86.shape
 refine A9 kr (fun w h=>(h.pkT 3 [1,1,1,3])) (J4 (ad:=⟨nb,0,none⟩) 14 (hL:=(fun w h=>(h.pkT 3 [1,1,1,3]))) (k:=G1 (fuel:=3) [(15,0)] (fun w h=>(h.pkT 3 [1,1,1,3])) (k:=H7 12 16 (k:=?_) (k':=?_))))
 refine E4 (a:=a87) (S:=(inG g85)) (cs:=(cs++zN)) (kn+1) ((kn:Nat):Int) 5 (F0 hO86) (by exact ⟨by omega,by omega,by intro h; have h2:=congrArg List.length h; rw [List.length_append] at h2; simp at h2⟩) (A9 kr (fun w h=>(h.pkT 3 [1,1,1,3])) (H7 13 16 (k:=?_) (k':=?_)))
 refine E2 (ch:=[]) (a:=a87) (q:=kn * 5) (len:=(kn+1)) (cap:=cap88) (v:=.agg #[e0_83,e1_83,e2_83,e3_83,e4_83]) (g:=g85) (j:=5) (cs:=(cs++zN)) (cs':=(cs++[e0_83,e1_83,e2_83,e3_83,e4_83])) (l:=[e0_83,e1_83,e2_83,e3_83,e4_83]) (h1:=h183) (hO:=hO86) (hq:=(by rw [List.length_append,(show cs.length=kn * 5 by rw [hP.len]; omega)]; exact Nat.le_refl _)) (h0:=List.cons_ne_nil _ _) (hcs:=F7 (z:=zN) (l:=[e0_83,e1_83,e2_83,e3_83,e4_83]) (show cs.length=kn * 5 by rw [hP.len]; omega) rfl) (k:=(fun g91 hO92=>?_))
 refine A9 kr (fun w h=>(h.pkT 3 [1,1,1,3])) (C6 16 (k:=D0 4 3 (.slice a87 (kn+1) cap88) rfl (A9 kr (fun w h=>(h.pkT 3 [1,1,1,3])) (D8 (E':=[⟨0,[],pt r⟩,⟨1,[],pt nb⟩,⟨2,[],.int .i64 d⟩,⟨3,[],.map (some ms)⟩]) [0,1,2,3] (k:=E6 (a87,cap88,g91,[e0_83,e1_83,e2_83,e3_83,e4_83],gv83) [0,1,2,3] kr (fun w h=>h.pkT 1 [0,0,2,2,2,0]) ⟨hO92,hJ83⟩)))))
 refine D0 4 3 (.slice a87 (kn+1) cap88) rfl (A9 kr (fun w h=>(h.pkT 3 [1,1,1,3])) (C6 13 (k:=E2 (ch:=[]) (a:=a87) (q:=kn * 5) (len:=(kn+1)) (cap:=cap88) (v:=.agg #[e0_83,e1_83,e2_83,e3_83,e4_83]) (g:=g85) (j:=5) (cs:=(cs++zN)) (cs':=(cs++[e0_83,e1_83,e2_83,e3_83,e4_83])) (l:=[e0_83,e1_83,e2_83,e3_83,e4_83]) (h1:=h183) (hO:=hO86) (hq:=(by rw [List.length_append,(show cs.length=kn * 5 by rw [hP.len]; omega)]; exact Nat.le_refl _)) (h0:=List.cons_ne_nil _ _) (hcs:=F7 (z:=zN) (l:=[e0_83,e1_83,e2_83,e3_83,e4_83]) (show cs.length=kn * 5 by rw [hP.len]; omega) rfl) (k:=(fun g93 hO94=>?_)))))
 refine A9 kr (fun w h=>(h.pkT 3 [1,1,1,3])) (D8 (E':=[⟨0,[],pt r⟩,⟨1,[],pt nb⟩,⟨2,[],.int .i64 d⟩,⟨3,[],.map (some ms)⟩]) [0,1,2,3] (k:=E6 (a87,cap88,g93,[e0_83,e1_83,e2_83,e3_83,e4_83],gv83) [0,1,2,3] kr (fun w h=>h.pkT 1 [0,0,2,2,2,0]) ⟨hO94,hJ83⟩))
 refine D0 4 3 (.slice a87 (kn+1) cap88) rfl (A9 kr (fun w h=>(h.pkT 3 [1,1,1,3])) (C6 12 (k:=E4 (a:=a87) (S:=(inG g85)) (cs:=(cs++zN)) (kn+1) ((kn:Nat):Int) 5 (F0 hO86) (by exact ⟨by omega,by omega,by intro h; have h2:=congrArg List.length h; rw [List.length_append] at h2; simp at h2⟩) (A9 kr (fun w h=>(h.pkT 3 [1,1,1,3])) (C6 13 (k:=E2 (ch:=[]) (a:=a87) (q:=kn * 5) (len:=(kn+1)) (cap:=cap88) (v:=.agg #[e0_83,e1_83,e2_83,e3_83,e4_83]) (g:=g85) (j:=5) (cs:=(cs++zN)) (cs':=(cs++[e0_83,e1_83,e2_83,e3_83,e4_83])) (l:=[e0_83,e1_83,e2_83,e3_83,e4_83]) (h1:=h183) (hO:=hO86) (hq:=(by rw [List.length_append,(show cs.length=kn * 5 by rw [hP.len]; omega)]; exact Nat.le_refl _)) (h0:=List.cons_ne_nil _ _) (hcs:=F7 (z:=zN) (l:=[e0_83,e1_83,e2_83,e3_83,e4_83]) (show cs.length=kn * 5 by rw [hP.len]; omega) rfl) (k:=(fun g95 hO96=>?_))))))))
 refine A9 kr (fun w h=>(h.pkT 3 [1,1,1,3])) (D8 (E':=[⟨0,[],pt r⟩,⟨1,[],pt nb⟩,⟨2,[],.int .i64 d⟩,⟨3,[],.map (some ms)⟩]) [0,1,2,3] (k:=E6 (a87,cap88,g95,[e0_83,e1_83,e2_83,e3_83,e4_83],gv83) [0,1,2,3] kr (fun w h=>h.pkT 1 [0,0,2,2,2,0]) ⟨hO96,hJ83⟩))
 rintro ⟨ya,yc,yg,c,gv⟩ ⟨hyo,hJ⟩
 dsimp only at hyo hJ
 refine B8 (B8 (F3 (H':=([(r,.cells #[.string (bk (((elX lv sp) (q2.1.drop 1,q2.2)).2).1),.int .i64 ((((elX lv sp) (q2.1.drop 1,q2.2)).2).2)] 45 (0,0))]::[(ms,.map (G3 M) mc)]::[(nb,.cells #[v0,v1,v2,.slice ya (kn+1) yc,v4] 26 (0,0))]::yg::(gs++gv)::H)) (fun w h=>Sat.flat h (List.Perm.of_eq (by simp []))) (D2 (s':=(m,((elX lv sp) (q2.1.drop 1,q2.2)).2,(ks++[((elX lv sp) (q2.1.drop 1,q2.2)).1]),(kn+1),ya,yc,yg,(gs++gv),(cs++c))) [0,1,2,3] kr kr ⟨(by dsimp only; rw [hT,cont_el hq0 hk1 hk2 has hk3]),(by dsimp only; intro _; have h9:=el_le lv sp (q2.1.drop 1,q2.2); dsimp only at h9; rw [List.length_drop] at h9; have h8:=pre_le hk3; simp only [List.length_cons,List.length_nil] at h8; omega),(by dsimp only; have h9:=el_le lv sp (q2.1.drop 1,q2.2); dsimp only at h9; rw [List.length_drop] at h9; omega),hyo,(by dsimp only; rw [List.length_append,hkn]; rfl),(by dsimp only; exact hP.snoc hJ),(by dsimp only; omega),(by dsimp only; have h9:=el_le lv sp (q2.1.drop 1,q2.2); dsimp only at h9; rw [List.length_drop] at h9; rw [S0,el_text]; simp only [List.length_nil]; omega)⟩ (by dsimp only; omega))))
 have hk7:¬ [60].isPrefixOf q2.1=true:=hk7
 have hk3:=hk7
 refine A5 [0] [0,1,2,3,66] (k:=A0 (C5 kr (A1 (A2 (A3 (j:=3) [0,0,0] (k:=C1 0 0 rfl rfl (D9 Tryz.func75 (cutW [60] q2.1 (by first | omega | (rw [List.length_take]; omega)) _ _ hX) ?_)))))))
 rintro _ _ ⟨⟨hI,rfl⟩ | ⟨i,hI,rfl⟩,rfl⟩
 refine A5 [0,0,0,0,0,0,0] [0,1,2,3,8,10] (k:=A0 (A1 (A1 (G_p [0,0,0,1,1,2] [0,1,2,3,8,35] (k:=A0 (B9 kr (A1 (A2 ?_))))))))
 refine A3 (j:=1) [0] (k:=D9 Tryz.func19 (O1 r q2 70 _ _) ?_)
 rintro _ _ rfl
 refine C0 (E':=[]) [] [] (k:=A0 (B4 (A4 (B0 (B0 (A4 (B0 (B7 [] [] (k:=?_)))))))))
 rw [hT,cont_none hq0 hk1 hk2 has hk3 hI]; exact ⟨_,_,_,_,_,_,hkn,hO,hP,rfl⟩
 refine A5 [0,0,0,0,0,0,0] [0,1,2,3,8,10] (k:=A0 (A1 (A1 (A2 (A3 (j:=4) [0,0,0,0] (k:=Q2 (ch:=[(32,false)]) (f:=68) (fst:=#[]) (caps:=#[]) (vs:=[.string (bk (q2.1.take i)),.string (mB #[93,93,62])]) (hf:=Tryz.func68) (hsure:=M3 kr) (hc:=hasW [93,93,62] (q2.1.take i) (by first | omega | (rw [List.length_take]; omega)) _ _ hX) (k:=?_)))))))
 rintro _ _ ⟨rfl,rfl⟩
 refine A5 [3] [0,1,2,3,8,35] (k:=A0 (B1 (b:=(idxL [93,93,62] (q2.1.take i)).isSome) kr (fun hc98=>?_) (fun hc98=>?_)))
 have hbb:(idxL [93,93,62] (q2.1.take i)).isSome=true:=hc98
 refine A1 (A2 (A3 (j:=1) [0] (k:=D9 Tryz.func19 (O1 r q2 70 _ _) ?_)))
 rintro _ _ rfl
 refine C0 (E':=[]) [] [] (k:=A0 (B4 (A4 (B0 (B0 (A4 (B0 (B7 [] [] (k:=?_)))))))))
 rw [hT,cont_bad hq0 hk1 hk2 has hk3 hI hbb]; exact ⟨_,_,_,_,_,_,hkn,hO,hP,rfl⟩
 have hbb:(idxL [93,93,62] (q2.1.take i)).isSome=false:=hc98
 have hip:=(A0f hI).2.2
 refine A7 (A0 (A1 (A2 (A3 (j:=4) [0,0,0,0] (k:=C1 0 0 rfl rfl (A3 (j:=7) [0,0] (k:=M8 (bk q2.1) ((bk (q2.1.take i)).size:Int) ((bk q2.1).size:Int) (by intro _; obtain ⟨_,_,hip⟩:=A0f hI; rw [C9,C9,List.length_take]; exact ⟨by omega,by omega,by omega⟩) (E3 45 (x:=.string ((bk q2.1).extract (bk (q2.1.take i)).size (bk q2.1).size)) (y:=.string (bk (q2.1.drop i))) (by rw [show (bk (q2.1.take i)).size=i by rw [C9,List.length_take]; omega,ext_bk]) ?_))))))))
 refine A3 (j:=10) [0,0] (k:=D0 0 0 (.string (bk (q2.1.drop i))) rfl (A5 [] [0,1,2,3,8] (k:=A0 (A2 (A3 (j:=3) [0,0,0] (k:=D9 Tryz.func69 (xrefs_ r ((q2.1.drop i),q2.2) (q2.1.take i) (by rw [List.length_take]; omega) _ _ hX) ?_))))))
 rintro _ _ ⟨rfl,rfl⟩
 refine M1 0 [2,2] (D9 Tryz.func72 (xtext_ nb v0 v1 v2 v4 ks kn ka kc kg gs cs hkn hO hP ((O4 (q2.1.take i) ((q2.1.drop i),q2.2)).1) (by rw [refs_v]; have h7:=un_len (B5 (q2.1.take i)); have h6:=N2 (q2.1.take i); rw [List.length_take] at h6; omega) (by omega) (by omega) _ _) ?_)
 rintro _ _ ⟨kn99,ka99,kc99,kg99,kcs99,hk99,hO99,hP99,rfl⟩
 refine A5 [] [0,1,2,3] (k:=B8 (B8 (F8 0 [2,2,0,0,0] (D2 (s':=(m,(O4 (q2.1.take i) ((q2.1.drop i),q2.2)).2,(addX ks (O4 (q2.1.take i) (q2.1.drop i,q2.2)).1),kn99,ka99,kc99,kg99,gs,kcs99)) [0,1,2,3] kr kr ⟨(by dsimp only; rw [hT,cont_text hq0 hk1 hk2 has hk3 hI hbb]),(by dsimp only; intro _; rw [refs_len]; dsimp only; rw [List.length_drop]; have h8:=idx_pos hI hk3; omega),(by dsimp only; rw [refs_len]; dsimp only; rw [List.length_drop]; omega),hO99,hk99,hP99,(by dsimp only; have h9:=add_len ks (O4 (q2.1.take i) (q2.1.drop i,q2.2)).1; omega),(by dsimp only; rw [refs_len,refs_v]; dsimp only; rw [List.length_drop]; have h7:=un_len (B5 (q2.1.take i)); have h6:=N2 (q2.1.take i); rw [List.length_take] at h6; have h5:=lastT_add ks (unL (B5 (q2.1.take i))); omega)⟩ (by dsimp only; omega)))))
 refine A2 (A3 (j:=3) [0,0,0] (k:=C1 0 1 rfl rfl (A3 (j:=5) [0] (k:=E3 15 (x:=.bool (q2.2==0)) (y:=.bool false) (by rw [show (q2.2==0)=false by simpa using hq0]) (A5 [0,1,1,1,3] [0,1,2,3,20] (k:=A0 (C5 kr (E7 ?_))))))))
 refine A6 (A6 (B6 (B7 [] [] (k:=?_))))
 rw [hT,cont_fault hq0]; exact ⟨_,_,_,_,_,_,hkn,hO,hP,rfl⟩
end Go.Proofs.YtcgmnagcgkhogabGreatDoor
namespace Go.Xml
open Go.Esc Go.Json
def elT (q:XS):List AT × Bool × XS:=tagX ((A8 q).2.1.length+1) [] (A8 q).2
def elS (sp:SPX) (q:XS):SPX × XS:=N0 (elT q).1 [] sp (elT q).2.2
def elV (sp:SPX) (q:XS):List UInt8 × XS:=K9 (A8 q).1.pre (A8 q).1.has (elS sp q).1 (elS sp q).2
def elM (sp:SPX) (q:XS):List XA × XS:=O6 (elT q).1 [] (elS sp q).1 (elV sp q).2
section
variable {sp : SPX} {q q2 : XS} {out : List XA}
theorem el_1 {lv:Nat} (h:(elT q).2.2.2≠0):elX lv sp q=(J3,(elT q).2.2):=by
 rw [elX_eq]; dsimp only; exact if_pos h
theorem el_2 (h:(elT q).2.2.2=0) (hm:elM sp q=(out,q2)):elX 0 sp q=(.mk (elV sp q).1 (A8 q).1.name out [] [],G0 71 q2):=by
 rw [elX_eq]; dsimp only
 rw [if_neg (fun hn=>hn h)]
 show (XN.mk (elV sp q).1 (A8 q).1.name (elM sp q).1 [] [],G0 71 (elM sp q).2)=_
 rw [hm]
theorem el_3 {n:Nat} (h:(elT q).2.2.2=0) (hm:elM sp q=(out,q2)) (hc:(elT q).2.1=true∨q2.2≠0):elX (n+1) sp q=(.mk (elV sp q).1 (A8 q).1.name out [] [],q2):=by
 rw [elX_eq]; dsimp only
 rw [if_neg (fun hn=>hn h)]
 show (if (elT q).2.1=true∨(elM sp q).2.2≠0 then (XN.mk (elV sp q).1 (A8 q).1.name (elM sp q).1 [] [],(elM sp q).2) else V0 (A8 q).1 (G8 (elX n (elS sp q).1) ((elM sp q).2.1.length+1) [] (elM sp q).2) (elV sp q).1 (elM sp q).1)=_
 rw [hm]; exact if_pos hc
theorem el_4 {n:Nat} (h:(elT q).2.2.2=0) (hm:elM sp q=(out,q2)) (hc:¬ ((elT q).2.1=true∨q2.2≠0)):elX (n+1) sp q=V0 (A8 q).1 (G8 (elX n (elS sp q).1) (q2.1.length+1) [] q2) (elV sp q).1 out:=by
 rw [elX_eq]; dsimp only
 rw [if_neg (fun hn=>hn h)]
 show (if (elT q).2.1=true∨(elM sp q).2.2≠0 then (XN.mk (elV sp q).1 (A8 q).1.name (elM sp q).1 [] [],(elM sp q).2) else V0 (A8 q).1 (G8 (elX n (elS sp q).1) ((elM sp q).2.1.length+1) [] (elM sp q).2) (elV sp q).1 (elM sp q).1)=_
 rw [hm]; exact if_neg hc
end
theorem close_yes {a:QN} {k:List XN × XS} {s:List UInt8} {m:List XA} (h:(A8 k.2).1≠a):V0 a k s m=(.mk s a.name m k.1 [],G0 70 (D4 [62] (blk (A8 k.2).2.1,(A8 k.2).2.2))):=by
 unfold V0; rw [if_pos h]; rfl
theorem close_no {a:QN} {k:List XN × XS} {s:List UInt8} {m:List XA} (h:(A8 k.2).1=a):V0 a k s m=(.mk s a.name m k.1 [],D4 [62] (blk (A8 k.2).2.1,(A8 k.2).2.2)):=by
 unfold V0; rw [if_neg (fun hn=>hn h)]; rfl
theorem qn_eq {a b:QN}:a=b ↔ a.pre=b.pre∧a.name=b.name∧a.has=b.has:=by
 cases a; cases b; simp
theorem flt71 (q:XS):(G0 71 q).2≠0:=by
 unfold G0; dsimp only; split
 decide
 rename_i h; exact h
def mkX (sp:SPX) (a:AT) (q:XS):List UInt8 × XS:=if a.q.has=true then K9 a.q.pre true sp q else ([],q)
theorem mkX_yes {sp:SPX} {a:AT} {q:XS} (h:a.q.has=true):mkX sp a q=K9 a.q.pre true sp q:=if_pos h
theorem mkX_no {sp:SPX} {a:AT} {q:XS} (h:a.q.has=false):mkX sp a q=([],q):=if_neg (by rw [h]; exact Bool.false_ne_true)
theorem mkX_le (sp:SPX) (a:AT) (q:XS):(mkX sp a q).2.1=q.1:=by unfold mkX; split; exact space_le _ _ _ _; rfl
theorem marks_yes {a:AT} {r:List AT} {out:List XA} {sp:SPX} {q:XS} (h:(M0 a).isSome=false) (hy:(out.any fun y=>y.space==(mkX sp a q).1&&y.name==a.q.name)=true):O6 (a::r) out sp q=O6 r (out++[⟨(mkX sp a q).1,a.q.name,a.value⟩]) sp (G0 70 (mkX sp a q).2):=by
 rw [marks_go h]
 show O6 r (out++[⟨(mkX sp a q).1,a.q.name,a.value⟩]) sp (if (out.any fun y=>y.space==(mkX sp a q).1&&y.name==a.q.name)=true then G0 70 (mkX sp a q).2 else (mkX sp a q).2)=_
 rw [if_pos hy]
theorem marks_no {a:AT} {r:List AT} {out:List XA} {sp:SPX} {q:XS} (h:(M0 a).isSome=false) (hy:(out.any fun y=>y.space==(mkX sp a q).1&&y.name==a.q.name)=false):O6 (a::r) out sp q=O6 r (out++[⟨(mkX sp a q).1,a.q.name,a.value⟩]) sp (mkX sp a q).2:=by
 rw [marks_go h]
 show O6 r (out++[⟨(mkX sp a q).1,a.q.name,a.value⟩]) sp (if (out.any fun y=>y.space==(mkX sp a q).1&&y.name==a.q.name)=true then G0 70 (mkX sp a q).2 else (mkX sp a q).2)=_
 rw [if_neg (by rw [hy]; exact Bool.false_ne_true)]
theorem decl_is {a:AT}:(M0 a).isSome=true ↔ (a.q.has=true∧a.q.pre=xmlns)∨(a.q.has=false∧a.q.name=xmlns):=by
 unfold M0
 constructor
 intro h
 split at h
 rename_i h1; exact .inr h1
 split at h
 rename_i h2; exact .inl h2
 cases h
 intro h
 split
 rfl
 rename_i h1
 rw [if_pos (h.resolve_right h1)]; rfl
theorem elT_le (q:XS):(elT q).2.2.1.length≤q.1.length:=by
 have h1:=tag_le ((A8 q).2.1.length+1) [] (A8 q).2
 have h2:=qual_le q
 unfold elT; omega
theorem elS_le (sp:SPX) (q:XS):(elS sp q).2.1=(elT q).2.2.1:=sp_le _ _ _ _
theorem elV_le (sp:SPX) (q:XS):(elV sp q).2.1=(elT q).2.2.1:=by unfold elV; rw [space_le,elS_le]
end Go.Xml
namespace Go.Proofs.YtcgmnagcgkhogabGreatDoor
open Go.Sw Go.Sha Go.Esc Go.RowKit Go.Json Go.Xml
theorem xtakeb_ (r:Nat) (q:XS) (w:List UInt8) (W0:World) (H:List Grp):Tri Tryz.prog 36 #[pt r,.string (bk w)] W0 (rdX r q::H) (fun v H'=>v=.bool (G9 w q).1∧H'=rdX r (G9 w q).2::H):=by
 refine (xtake_ r q w W0 H).post fun v H' h=>⟨H',?_,fun _ h=>h⟩
 rcases h with ⟨h,h1,h2⟩ | ⟨h,h1,h2⟩
 rw [Q7 h]; exact ⟨h1,h2⟩
 rw [N8 h]; exact ⟨h1,h2⟩
theorem xhasN_ (out:List XA) (no:Nat) (hno:no=out.length) (a:Option Addr) (c:Nat) (S:Nat→Obj→Prop) (hrd:Rd S a (xaV out)) (hol:out.length≤1000002) (x:XA) (xb:Nat) (W0:World) (H:List Grp) (hS:∀ y o,S y o→At W0 H y o):Tri Tryz.prog 41 #[.slice a no c,.func (.func 42) #[] #[pt xb]] W0 ([(xb,.cells #[.string (bk x.space),.string (bk x.name),.string (bk x.value)] 59 (0,0))]::H) (fun v H'=>v=.bool (out.any (sameA x))∧H'=[(xb,.cells #[.string (bk x.space),.string (bk x.name),.string (bk x.value)] 59 (0,0))]::H):=by
 subst hno; exact xhasF_ out a c S hrd hol x xb W0 H hS
theorem xelementW_ (lv:Nat) (d:Int) (hd:d=24 - (lv:Int)) (hlv:lv≤24) (r:Nat) (q:XS) (hl:q.1.length≤1000000) (ms mc:Nat) (M:SM) (sp:SPX) (hM:SpR M sp) (hcont:∀ n,lv=n+1→∀ (q:XS),q.1.length≤1000000→∀ (nb:Nat) (v0 v1 v2 v4:Value) (ms mc:Nat) (M:SM) (sp:SPX),SpR M sp→∀ (W0:World) (H:List Grp),T9 W0→Tri Tryz.prog 43 #[pt r,pt nb,.int .i64 d,.map (some ms)] W0 (rdX r q::[(ms,.map (G3 M) mc)]::[(nb,.cells #[v0,v1,v2,.slice none 0 0,v4] 26 (0,0))]::H) (fun _ H2=>∃ kn ka kc kg cs gs,kn=(G8 (elX n sp) (q.1.length+1) [] q).1.length∧Go.Sw.Own 26 5 (.slice ka kn kc) kg kn cs∧XRepL 59 26 (G8 (elX n sp) (q.1.length+1) [] q).1 cs gs∧H2=rdX r (G8 (elX n sp) (q.1.length+1) [] q).2::[(ms,.map (G3 M) mc)]::[(nb,.cells #[v0,v1,v2,.slice ka kn kc,v4] 26 (0,0))]::kg::gs::H)) (W0:World) (H:List Grp) (hX:T9 W0):Tri Tryz.prog 18 #[pt r,.int .i64 d,.map (some ms)] W0 ([(r,.cells #[.string (bk q.1),.int .i64 q.2] 45 (0,0))]::[(ms,.map (G3 M) mc)]::H) (fun v H2=>∃ c g,XRep 59 26 (elX lv sp q).1 c g∧v=.agg c.toArray∧H2=rdX r (elX lv sp q).2::[(ms,.map (G3 M) mc)]::g::H):=by
 have hql:=qual_le q
 have hal0:=(attrs_le ((A8 q).2.1.length+1) [] (A8 q).2).2
 have hal:(F4 ((A8 q).2.1.length+1) [] (A8 q).2).1.length≤1000002:=by rw [List.length_nil] at hal0; omega
 refine D5 142 Tryz.func18 ?_
 refine A1 (A2 (J1 (.agg zN.toArray) (fun b1=>A5 [] [0,1,2,6] (k:=A0 (A1 (A2 (A3 (j:=1) [0] (k:=M1 0 [1] ?_))))))))
 refine D9 Tryz.func37 (xqual_ r q (by first | omega | (have h9:=cont_le (el_le n (elS sp q).1) (q2.1.length+1) [] q2; omega)) _ _) ?_
 rintro _ _ ⟨rfl,rfl⟩
 refine A5 [0,0,0,0,0,0,0] [0,1,2,6,7,8,9] (k:=A0 (A1 (A2 (A3 (j:=1) [0] (k:=D9 Tryz.func38 (xattrs_ r (A8 q).2 (by have:=qual_le q; omega) _ _ hX) ?_)))))
 rintro _ _ ⟨ta,tc,tg,rfl,hTA,rfl⟩
 refine A5 [0] [0,1,2,6,7,8,9,10] (k:=A0 (A1 (A2 (A3 (j:=1) [0] (k:=D9 Tryz.func36 (xtakeb_ r ((F4 ((A8 q).2.1.length+1) [] (A8 q).2).2) [47,62] _ _) ?_)))))
 rintro _ _ ⟨rfl,rfl⟩
 refine A5 [0] [0,1,2,6,7,8,9,10,11] (k:=A0 (A1 (A1 (G_p [0,0] [0,1,2,6,7,8,9,10,11,30] (k:=A0 (P6 (T:=Unit) (fun _:Unit=>[⟨0,[],pt r⟩,⟨1,[],.int .i64 d⟩,⟨2,[],.map (some ms)⟩,⟨6,[],pt b1⟩,⟨7,[],.string (bk (A8 q).1.pre)⟩,⟨8,[],.string (bk (A8 q).1.name)⟩,⟨9,[],.bool ((A8 q).1.has)⟩,⟨10,[],.slice ta ((F4 ((A8 q).2.1.length+1) [] (A8 q).2).1.length) tc⟩,⟨11,[],.bool ((G9 [47,62] ((F4 ((A8 q).2.1.length+1) [] (A8 q).2).2)).1)⟩]) (fun _:Unit=>([(r,.cells #[.string (bk ((elT q).2.2).1),.int .i64 (((elT q).2.2).2)] 45 (0,0))]::tg::[(b1,.cells zN.toArray 26 (0,0))]::[(ms,.map (G3 M) mc)]::H)) (fun _:Unit=>True) ?_ ?_))))))
 refine B1 (b:=!((G9 [47,62] ((F4 ((A8 q).2.1.length+1) [] (A8 q).2).2)).1)) kr (fun hc2=>?_) (fun hc2=>?_)
 have hcl:¬ (G9 [47,62] (F4 ((A8 q).2.1.length+1) [] (A8 q).2).2).1=true:=by have h:=hc2; simpa using h
 refine A2 (A3 (j:=1) [0] (k:=D9 Tryz.func17 (xmust_ r ((G9 [47,62] ((F4 ((A8 q).2.1.length+1) [] (A8 q).2).2)).2) [62] _ _) ?_))
 rintro _ _ rfl
 refine A5 [] [0,1,2,6,7,8,9,10,11] (k:=L6 (E':=[⟨0,[],pt r⟩,⟨1,[],.int .i64 d⟩,⟨2,[],.map (some ms)⟩,⟨6,[],pt b1⟩,⟨7,[],.string (bk (A8 q).1.pre)⟩,⟨8,[],.string (bk (A8 q).1.name)⟩,⟨9,[],.bool ((A8 q).1.has)⟩,⟨10,[],.slice ta ((F4 ((A8 q).2.1.length+1) [] (A8 q).2).1.length) tc⟩,⟨11,[],.bool ((G9 [47,62] ((F4 ((A8 q).2.1.length+1) [] (A8 q).2).2)).1)⟩]) kr ?_)
 have hq9:(elT q).2.2=D4 [62] (G9 [47,62] (F4 ((A8 q).2.1.length+1) [] (A8 q).2).2).2:=if_neg hcl
 refine R4 (H':=([(r,.cells #[.string (bk ((elT q).2.2).1),.int .i64 (((elT q).2.2).2)] 45 (0,0))]::tg::[(b1,.cells zN.toArray 26 (0,0))]::[(ms,.map (G3 M) mc)]::H)) (by rw [hq9]; try rfl) (E6 (()) [0,1,2,6,7,8,9,10,11] kr (fun w h=>h) trivial)
 have hcl:(G9 [47,62] (F4 ((A8 q).2.1.length+1) [] (A8 q).2).2).1=true:=by have h:=hc2; simpa using h
 refine A7 (L6 (E':=[⟨0,[],pt r⟩,⟨1,[],.int .i64 d⟩,⟨2,[],.map (some ms)⟩,⟨6,[],pt b1⟩,⟨7,[],.string (bk (A8 q).1.pre)⟩,⟨8,[],.string (bk (A8 q).1.name)⟩,⟨9,[],.bool ((A8 q).1.has)⟩,⟨10,[],.slice ta ((F4 ((A8 q).2.1.length+1) [] (A8 q).2).1.length) tc⟩,⟨11,[],.bool ((G9 [47,62] ((F4 ((A8 q).2.1.length+1) [] (A8 q).2).2)).1)⟩,⟨30,[],.bool (!((G9 [47,62] ((F4 ((A8 q).2.1.length+1) [] (A8 q).2).2)).1))⟩]) kr ?_)
 have hq9:(elT q).2.2=(G9 [47,62] (F4 ((A8 q).2.1.length+1) [] (A8 q).2).2).2:=if_pos hcl
 refine R4 (H':=([(r,.cells #[.string (bk ((elT q).2.2).1),.int .i64 (((elT q).2.2).2)] 45 (0,0))]::tg::[(b1,.cells zN.toArray 26 (0,0))]::[(ms,.map (G3 M) mc)]::H)) (by rw [hq9]; try rfl) (E6 (()) [0,1,2,6,7,8,9,10,11] kr (fun w h=>h) trivial)
 rintro _ _
 refine A0 (A1 (A1 (A2 (A3 (j:=3) [0,0,0] (k:=C1 0 1 rfl rfl (A5 [0] [0,1,2,6,7,8,9,10,11,37] (k:=A0 (B1 (b:=(((elT q).2.2).2) != 0) kr (fun hc3=>?_) (fun hc3=>?_)))))))))
 have hf:(elT q).2.2.2≠0:=by simpa using hc3
 have hE:elX lv sp q=_:=el_1 hf
 refine A1 (A2 (A3 (j:=1) [0] (k:=D0 2 0 (.agg zN.toArray) rfl (C0 (E':=[⟨6,[],pt b1⟩]) [] [6] (k:=A0 (B4 (A4 (P1 1 [0,2,1] ([(r,.cells #[.string (bk ((elT q).2.2).1),.int .i64 (((elT q).2.2).2)] 45 (0,0))]::[(ms,.map (G3 M) mc)]::[(b1,.cells zN.toArray 26 (0,0))]::H) ?_))))))))
 refine F3 (H':=([(r,.cells #[.string (bk ((elT q).2.2).1),.int .i64 (((elT q).2.2).2)] 45 (0,0))]::[(ms,.map (G3 M) mc)]::[(b1,.cells zN.toArray 26 (0,0))]::[]::H)) (fun w h=>Sat.flat h (List.Perm.of_eq (by simp []))) (J7 [.cell 6 26] [.agg zN.toArray] rfl (.cons (.aq 2 0 rfl) (.nil)) rfl ⟨_,?_,fun w h=>(h.pk 1 [0,0,1])⟩)
 rw [hE]; exact ⟨_,_,XRep.nul,rfl,rfl⟩
 have hf:(elT q).2.2.2=0:=by simpa using hc3
 refine A7 (A0 (A1 (A2 (A3 (j:=3) [0,0,0] (k:=M1 0 [0,2] (D9 Tryz.func39 (xspaces_ r (elT q).2.2 (F4 ((A8 q).2.1.length+1) [] (A8 q).2).1 ta tc (inG tg) (F0 hTA) hal ms mc M sp hM _ _ (E0 0 rfl)) ?_))))))
 rintro _ _ ⟨mo,Mo,co,rfl,hMo,rfl⟩
 have hMo:SpR Mo (elS sp q).1:=hMo
 refine A5 [0] [0,1,2,6,7,8,9,10,11] (k:=A0 (A1 (A2 (A3 (j:=4) [0,0,0,0] (k:=D9 Tryz.func40 (xspace_ r ((elS sp q).2) ((A8 q).1.pre) ((A8 q).1.has) mo co Mo (elS sp q).1 hMo _ _) ?_)))))
 rintro _ _ ⟨rfl,rfl⟩
 refine A3 (j:=7) [0,0] (k:=J1 (.agg zN.toArray) (fun b4=>D0 0 0 (.agg #[.string (bk (elV sp q).1),.string (bk (A8 q).1.name),.slice none 0 0,.slice none 0 0,.string eB]) rfl (A5 [] [0,1,2,6,7,8,9,10,11,12] (k:=A0 (A1 (A1 (G_p [0,0,0] [0,1,2,6,7,8,9,11,12,50,51,52] (k:=A0 ?_))))))))
 refine B3 (G_pkT 0 [1,1,1,0,0,0] ([(r,.cells #[.string (bk ((elV sp q).2).1),.int .i64 (((elV sp q).2).2)] 45 (0,0))]::[(mo,.map (G3 Mo) co)]::[(ms,.map (G3 M) mc)]::[(b4,.cells #[.string (bk (elV sp q).1),.string (bk (A8 q).1.name),.slice none 0 0,.slice none 0 0,.string eB] 26 (0,0))]::tg::[(b1,.cells zN.toArray 26 (0,0))]::H) (R1 (H':=([(r,.cells #[.string (bk ((elV sp q).2).1),.int .i64 (((elV sp q).2).2)] 45 (0,0))]::[(mo,.map (G3 Mo) co)]::[(ms,.map (G3 M) mc)]::[(b4,.cells #[.string (bk (elV sp q).1),.string (bk (A8 q).1.name),.slice none 0 0,.slice none 0 0,.string eB] 26 (0,0))]::[]::tg::[(b1,.cells zN.toArray 26 (0,0))]::H)) (fun w h=>(Sat.flat h (List.Perm.of_eq (by simp)))) (I6 (EI:=(fun ξ:Nat × XS × List XA × Nat × Option Addr × Nat × Grp=>[⟨0,[],pt r⟩,⟨1,[],.int .i64 d⟩,⟨2,[],.map (some mo)⟩,⟨6,[],pt b1⟩,⟨7,[],.string (bk (A8 q).1.pre)⟩,⟨8,[],.string (bk (A8 q).1.name)⟩,⟨9,[],.bool ((A8 q).1.has)⟩,⟨11,[],.bool ((G9 [47,62] ((F4 ((A8 q).2.1.length+1) [] (A8 q).2).2)).1)⟩,⟨12,[],pt b4⟩,⟨50,[],.slice ta ((F4 ((A8 q).2.1.length+1) [] (A8 q).2).1.length) tc⟩,⟨51,[],.int .i64 (((F4 ((A8 q).2.1.length+1) [] (A8 q).2).1.length:Nat):Int)⟩,⟨52,[],.int .i64 ((ξ.1:Nat):Int)⟩])) (HI:=(fun ξ:Nat × XS × List XA × Nat × Option Addr × Nat × Grp=>([(r,.cells #[.string (bk ξ.2.1.1),.int .i64 ξ.2.1.2] 45 (0,0))]::[(mo,.map (G3 Mo) co)]::[(ms,.map (G3 M) mc)]::[(b4,.cells #[.string (bk (elV sp q).1),.string (bk (A8 q).1.name),.slice ξ.2.2.2.2.1 ξ.2.2.2.1 ξ.2.2.2.2.2.1,.slice none 0 0,.string eB] 26 (0,0))]::ξ.2.2.2.2.2.2::tg::[(b1,.cells zN.toArray 26 (0,0))]::H))) (Φ:=(fun ξ:Nat × XS × List XA × Nat × Option Addr × Nat × Grp=>(ξ.1≤(F4 ((A8 q).2.1.length+1) [] (A8 q).2).1.length)∧(elM sp q=O6 ((F4 ((A8 q).2.1.length+1) [] (A8 q).2).1.drop ξ.1) ξ.2.2.1 (elS sp q).1 ξ.2.1)∧(Go.Sw.Own 59 3 (.slice ξ.2.2.2.2.1 ξ.2.2.2.1 ξ.2.2.2.2.2.1) ξ.2.2.2.2.2.2 ξ.2.2.2.1 (xaV ξ.2.2.1))∧(ξ.2.2.2.1=ξ.2.2.1.length)∧(ξ.2.2.2.1≤ξ.1)∧(ξ.2.1.1.length≤1000000))) (μ:=(fun ξ:Nat × XS × List XA × Nat × Option Addr × Nat × Grp=>(F4 ((A8 q).2.1.length+1) [] (A8 q).2).1.length - ξ.1)) (s0:=(0,(elV sp q).2,[],0,none,0,[])) [0,1,2,6,7,8,9,11,12,50,51,52] kr kr ⟨(Nat.zero_le _),rfl,Go.Sw.Own.nil,rfl,(Nat.le_refl _),(by have h9:=elT_le q; rw [elV_le]; omega)⟩ ?_)))
 rintro ⟨k,q2,out,no,oa,oc,og⟩ ⟨hkl,hT,hO,hno,hnk,hl2⟩
 dsimp only at hkl hT hO hno hnk hl2
 refine A1 (G_p [0] [0,1,2,6,7,8,9,11,12,50,51,52,53] (k:=A0 (A1 (B1 (b:=decide (((k:Nat):Int)<(((F4 ((A8 q).2.1.length+1) [] (A8 q).2).1.length:Nat):Int))) kr (fun hc5=>?_) (fun hc5=>?_)))))
 have hk:k<(F4 ((A8 q).2.1.length+1) [] (A8 q).2).1.length:=by have:=hc5; simp only [decide_eq_true_eq] at this; omega
 refine A7 (A0 (A1 (B3 (A1 (A2 (E4 (a:=ta) (S:=(inG tg)) (cs:=(atV (F4 ((A8 q).2.1.length+1) [] (A8 q).2).1)) ((F4 ((A8 q).2.1.length+1) [] (A8 q).2).1.length) ((k:Nat):Int) 4 (F0 hTA) (by exact ⟨by omega,by omega,by intro h; have:=congrArg List.length h; rw [atV_len] at this; simp only [List.length_nil] at this; omega⟩) ?_))))))
 obtain ⟨x,hx⟩:∃ x,x=(F4 ((A8 q).2.1.length+1) [] (A8 q).2).1[k]'hk:=⟨_,rfl⟩
 refine K0 (ch:=[]) (a:=ta) (q:=k * 4) (S:=(inG tg)) (cs:=(atV (F4 ((A8 q).2.1.length+1) [] (A8 q).2).1)) (l:=[.string (bk x.q.pre),.string (bk x.q.name),.string (bk x.value),.bool x.q.has]) (hrd:=F0 hTA) (hS:=E0 5 rfl) (hl:=List.cons_ne_nil _ _) (hv:=(fun _=>(elt4 (by rw [hx]; exact atV_at hk)))) (k:=J1 (.agg #[.string eB,.string eB,.string eB,.bool false]) (fun b6=>D0 0 0 (.agg #[.string (bk x.q.pre),.string (bk x.q.name),.string (bk x.value),.bool x.q.has]) rfl (A5 [] [0,1,2,6,7,8,9,11,12,14,50,51,52] (k:=A0 (A1 (A1 (A2 (A3 (j:=1) [0] (k:=?_)))))))))
 refine C1 0 3 rfl rfl (A3 (j:=4) [0,0] (k:=C2 (ch:=[(58,true)]) (b:=b6) (off:=0) (v:=.string (bk x.q.pre)) (hA:=At.grp 0 0 rfl rfl) (k:=A3 (j:=9) [0,6,0,0] (k:=C2 (ch:=[(63,false)]) (b:=b6) (off:=3) (v:=.bool x.q.has) (hA:=At.grp 0 0 rfl rfl) (k:=A3 (j:=13) [0,0,0] (k:=C2 (ch:=[(67,true),(63,false)]) (b:=b6) (off:=1) (v:=.string (bk x.q.name)) (hA:=At.grp 0 0 rfl rfl) (k:=A5 [0,6,5] [0,1,2,6,7,8,9,11,12,14,50,51,52,72] (k:=A0 ?_))))))))
 refine B1 (b:=(x.q.has&&((bk x.q.pre).toList==aH.toList))||((!x.q.has)&&((bk x.q.name).toList==aH.toList))) kr (fun hc7=>?_) (fun hc7=>?_)
 have hd:(M0 x).isSome=true:=decl_is.2 (by have h:=hc7; simp only [Bool.or_eq_true,Bool.and_eq_true,Bool.not_eq_true'] at h; exact h.imp (fun h=>⟨h.1,(eqB _ _).1 h.2⟩) (fun h=>⟨h.1,(eqB _ _).1 h.2⟩))
 refine E7 (A6 (B6 (A0 (A2 (A3 (j:=1) [0] (k:=D1 98 (((k:Nat):Int)+1) (by omega) (by omega) kr (A5 [0] [0,1,2,6,7,8,9,11,12,50,51,52] (k:=F8 1 [1,1,1,1,1,1,1] ?_))))))))
 refine D2 (s':=((k+1),q2,out,no,oa,oc,og)) [0,1,2,6,7,8,9,11,12,50,51,52] kr kr ⟨(by dsimp only; omega),(by dsimp only; rw [hT,drop_cons hk,← hx,marks_skip hd]),hO,hno,(by dsimp only; omega),hl2⟩ (by dsimp only; omega)
 have hd:(M0 x).isSome=false:=by
  rw [← Bool.not_eq_true,decl_is]
  have h2:=hc7
  rintro (h | h)
  rw [h.1,show ((bk x.q.pre).toList==aH.toList)=true from (eqB _ _).2 h.2] at h2; exact Bool.noConfusion h2
  rw [h.1,show ((bk x.q.name).toList==aH.toList)=true from (eqB _ _).2 h.2] at h2; simp at h2
 refine A7 (A0 (A1 (A2 (A3 (j:=1) [0] (k:=C1 0 1 rfl rfl (A3 (j:=3) [0] (k:=C1 0 2 rfl rfl (A3 (j:=5) [0] (k:=?_)))))))))
 refine J1 (.agg #[.string eB,.string eB,.string eB]) (fun b9=>D0 0 0 (.agg #[.string eB,.string (bk x.q.name),.string (bk x.value)]) rfl (A5 [] [0,1,2,6,7,8,9,11,12,14,15,50,51,52] (k:=A0 (A1 (A1 (A2 (A3 (j:=1) [0] (k:=C1 1 3 rfl rfl ?_))))))))
 refine A5 [] [0,1,2,6,7,8,9,11,12,14,15,50,51,52,79] (k:=A0 (P6 (T:=Unit) (fun _:Unit=>[⟨0,[],pt r⟩,⟨1,[],.int .i64 d⟩,⟨2,[],.map (some mo)⟩,⟨6,[],pt b1⟩,⟨7,[],.string (bk (A8 q).1.pre)⟩,⟨8,[],.string (bk (A8 q).1.name)⟩,⟨9,[],.bool ((A8 q).1.has)⟩,⟨11,[],.bool ((G9 [47,62] ((F4 ((A8 q).2.1.length+1) [] (A8 q).2).2)).1)⟩,⟨12,[],pt b4⟩,⟨15,[],pt b9⟩,⟨50,[],.slice ta ((F4 ((A8 q).2.1.length+1) [] (A8 q).2).1.length) tc⟩,⟨51,[],.int .i64 (((F4 ((A8 q).2.1.length+1) [] (A8 q).2).1.length:Nat):Int)⟩,⟨52,[],.int .i64 ((k:Nat):Int)⟩]) (fun _:Unit=>([(b9,.cells #[.string (bk (mkX (elS sp q).1 x q2).1),.string (bk x.q.name),.string (bk x.value)] 59 (0,0))]::[(b6,.cells #[.string (bk x.q.pre),.string (bk x.q.name),.string (bk x.value),.bool x.q.has] 76 (0,0))]::[(r,.cells #[.string (bk ((mkX (elS sp q).1 x q2).2).1),.int .i64 (((mkX (elS sp q).1 x q2).2).2)] 45 (0,0))]::[(mo,.map (G3 Mo) co)]::[(ms,.map (G3 M) mc)]::[(b4,.cells #[.string (bk (elV sp q).1),.string (bk (A8 q).1.name),.slice oa no oc,.slice none 0 0,.string eB] 26 (0,0))]::og::tg::[(b1,.cells zN.toArray 26 (0,0))]::H)) (fun _:Unit=>True) ?_ ?_))
 refine B1 (b:=x.q.has) kr (fun hc10=>?_) (fun hc10=>?_)
 have hhas:x.q.has=true:=hc10
 refine A2 (A3 (j:=2) [0,0] (k:=C1 1 0 rfl rfl (A3 (j:=4) [0] (k:=M1 0 [2,2] (D9 Tryz.func40 (xspace_ r q2 x.q.pre true mo co Mo (elS sp q).1 hMo _ _) ?_)))))
 rintro _ _ ⟨rfl,rfl⟩
 refine A3 (j:=6) [0] (k:=D0 2 0 (.string (bk (K9 x.q.pre true (elS sp q).1 q2).1)) rfl (A5 [] [0,1,2,6,7,8,9,11,12,15,50,51,52] (k:=L6 (E':=[⟨0,[],pt r⟩,⟨1,[],.int .i64 d⟩,⟨2,[],.map (some mo)⟩,⟨6,[],pt b1⟩,⟨7,[],.string (bk (A8 q).1.pre)⟩,⟨8,[],.string (bk (A8 q).1.name)⟩,⟨9,[],.bool ((A8 q).1.has)⟩,⟨11,[],.bool ((G9 [47,62] ((F4 ((A8 q).2.1.length+1) [] (A8 q).2).2)).1)⟩,⟨12,[],pt b4⟩,⟨15,[],pt b9⟩,⟨50,[],.slice ta ((F4 ((A8 q).2.1.length+1) [] (A8 q).2).1.length) tc⟩,⟨51,[],.int .i64 (((F4 ((A8 q).2.1.length+1) [] (A8 q).2).1.length:Nat):Int)⟩,⟨52,[],.int .i64 ((k:Nat):Int)⟩]) kr (P1 0 [2,2,0,0,0,0,0,0,0] ([(b9,.cells #[.string (bk (K9 x.q.pre true (elS sp q).1 q2).1),.string (bk x.q.name),.string (bk x.value)] 59 (0,0))]::[(b6,.cells #[.string (bk x.q.pre),.string (bk x.q.name),.string (bk x.value),.bool x.q.has] 76 (0,0))]::[(r,.cells #[.string (bk ((K9 x.q.pre true (elS sp q).1 q2).2).1),.int .i64 (((K9 x.q.pre true (elS sp q).1 q2).2).2)] 45 (0,0))]::[(mo,.map (G3 Mo) co)]::[(ms,.map (G3 M) mc)]::[(b4,.cells #[.string (bk (elV sp q).1),.string (bk (A8 q).1.name),.slice oa no oc,.slice none 0 0,.string eB] 26 (0,0))]::og::tg::[(b1,.cells zN.toArray 26 (0,0))]::H) ?_))))
 have hq9:(mkX (elS sp q).1 x q2)=K9 x.q.pre true (elS sp q).1 q2:=mkX_yes hhas
 refine R4 (H':=([(b9,.cells #[.string (bk (mkX (elS sp q).1 x q2).1),.string (bk x.q.name),.string (bk x.value)] 59 (0,0))]::[(b6,.cells #[.string (bk x.q.pre),.string (bk x.q.name),.string (bk x.value),.bool x.q.has] 76 (0,0))]::[(r,.cells #[.string (bk ((mkX (elS sp q).1 x q2).2).1),.int .i64 (((mkX (elS sp q).1 x q2).2).2)] 45 (0,0))]::[(mo,.map (G3 Mo) co)]::[(ms,.map (G3 M) mc)]::[(b4,.cells #[.string (bk (elV sp q).1),.string (bk (A8 q).1.name),.slice oa no oc,.slice none 0 0,.string eB] 26 (0,0))]::og::tg::[(b1,.cells zN.toArray 26 (0,0))]::H)) (by rw [hq9]; try rfl) (E6 (()) [0,1,2,6,7,8,9,11,12,15,50,51,52] kr (fun w h=>h.pkT 0 []) trivial)
 have hhas:x.q.has=false:=hc10
 refine A7 (L6 (E':=[⟨0,[],pt r⟩,⟨1,[],.int .i64 d⟩,⟨2,[],.map (some mo)⟩,⟨6,[],pt b1⟩,⟨7,[],.string (bk (A8 q).1.pre)⟩,⟨8,[],.string (bk (A8 q).1.name)⟩,⟨9,[],.bool ((A8 q).1.has)⟩,⟨11,[],.bool ((G9 [47,62] ((F4 ((A8 q).2.1.length+1) [] (A8 q).2).2)).1)⟩,⟨12,[],pt b4⟩,⟨14,[],pt b6⟩,⟨15,[],pt b9⟩,⟨50,[],.slice ta ((F4 ((A8 q).2.1.length+1) [] (A8 q).2).1.length) tc⟩,⟨51,[],.int .i64 (((F4 ((A8 q).2.1.length+1) [] (A8 q).2).1.length:Nat):Int)⟩,⟨52,[],.int .i64 ((k:Nat):Int)⟩,⟨79,[],.bool x.q.has⟩]) kr ?_)
 have hq9:(mkX (elS sp q).1 x q2)=([],q2):=mkX_no hhas
 refine R4 (H':=([(b9,.cells #[.string eB,.string (bk x.q.name),.string (bk x.value)] 59 (0,0))]::[(b6,.cells #[.string (bk x.q.pre),.string (bk x.q.name),.string (bk x.value),.bool x.q.has] 76 (0,0))]::[(r,.cells #[.string (bk q2.1),.int .i64 q2.2] 45 (0,0))]::[(mo,.map (G3 Mo) co)]::[(ms,.map (G3 M) mc)]::[(b4,.cells #[.string (bk (elV sp q).1),.string (bk (A8 q).1.name),.slice oa no oc,.slice none 0 0,.string eB] 26 (0,0))]::og::tg::[(b1,.cells zN.toArray 26 (0,0))]::H)) kr (R4 (H':=([(b9,.cells #[.string (bk (mkX (elS sp q).1 x q2).1),.string (bk x.q.name),.string (bk x.value)] 59 (0,0))]::[(b6,.cells #[.string (bk x.q.pre),.string (bk x.q.name),.string (bk x.value),.bool x.q.has] 76 (0,0))]::[(r,.cells #[.string (bk ((mkX (elS sp q).1 x q2).2).1),.int .i64 (((mkX (elS sp q).1 x q2).2).2)] 45 (0,0))]::[(mo,.map (G3 Mo) co)]::[(ms,.map (G3 M) mc)]::[(b4,.cells #[.string (bk (elV sp q).1),.string (bk (A8 q).1.name),.slice oa no oc,.slice none 0 0,.string eB] 26 (0,0))]::og::tg::[(b1,.cells zN.toArray 26 (0,0))]::H)) (by rw [hq9]; try rfl) (E6 (()) [0,1,2,6,7,8,9,11,12,15,50,51,52] kr (fun w h=>h.pkT 0 []) trivial))
 rintro _ _
 refine A0 (A1 (A1 (A2 (A3 (j:=1) [0] (k:=C1 5 2 rfl rfl (A3 (j:=3) [0] (k:=D9 Tryz.func41 (xhasN_ out no hno oa oc (inG og) (F0 hO) (by omega) (XA.mk (mkX (elS sp q).1 x q2).1 x.q.name x.value) b9 _ _ (E0 5 rfl)) ?_)))))))
 rintro _ _ ⟨rfl,rfl⟩
 refine A5 [] [0,1,2,6,7,8,9,11,12,15,50,51,52,89] (k:=A0 (B1 (b:=(out.any (sameA (XA.mk (mkX (elS sp q).1 x q2).1 x.q.name x.value)))) kr (fun hc11=>?_) (fun hc11=>?_)))
 have hany:(out.any fun y=>y.space==(mkX (elS sp q).1 x q2).1&&y.name==x.q.name)=true:=hc11
 refine A2 (A3 (j:=1) [0] (k:=M1 0 [2] (D9 Tryz.func19 (O1 r ((mkX (elS sp q).1 x q2).2) 70 _ _) ?_)))
 rintro _ _ rfl
 refine A5 [] [0,1,2,6,7,8,9,11,12,15,50,51,52] (k:=A0 (A2 (A3 (j:=1) [0] (k:=C1 5 2 rfl rfl (M9 1 0 3 rfl (H0 59 1 [.string (bk (mkX (elS sp q).1 x q2).1),.string (bk x.q.name),.string (bk x.value)] (fun b12=>L7 (inf:=Tryz.t59) 1 0 7 rfl rfl hO (by omega) (by show (no+1) * 48≤140737488355328; omega) (fun v13 g14 hO15=>?_))))))))
 obtain ⟨a16,cap17,rfl,hcap18,hrd19⟩:=hO15.shape
 refine A3 (j:=6) [0] (k:=D0 6 2 (.slice a16 (no+1) cap17) rfl (A5 [] [0,1,2,6,7,8,9,11,12,50,51,52] (k:=B8 (A0 (A2 (A3 (j:=1) [0] (k:=D1 98 (((k:Nat):Int)+1) (by omega) (by omega) kr (A5 [0] [0,1,2,6,7,8,9,11,12,50,51,52] (k:=?_)))))))))
 refine F8 3 [1,3,3,3,3,3,3] (D2 (s':=((k+1),(G0 70 ((mkX (elS sp q).1 x q2).2)),(out++[(XA.mk (mkX (elS sp q).1 x q2).1 x.q.name x.value)]),(no+1),a16,cap17,g14)) [0,1,2,6,7,8,9,11,12,50,51,52] kr kr ⟨(by dsimp only; omega),(by dsimp only; rw [hT,drop_cons hk,← hx,marks_yes hd hany]),(by dsimp only; rw [xaV_app]; exact hO15),(by dsimp only; rw [List.length_append,hno]; rfl),(by dsimp only; omega),(by dsimp only; first | (rw [mkX_le]; exact hl2) | (rw [Y5,mkX_le]; exact hl2))⟩ (by dsimp only; omega))
 have hany:(out.any fun y=>y.space==(mkX (elS sp q).1 x q2).1&&y.name==x.q.name)=false:=hc11
 refine A7 (A0 (A2 (A3 (j:=1) [0] (k:=C1 5 2 rfl rfl (M9 0 0 3 rfl (H0 59 1 [.string (bk (mkX (elS sp q).1 x q2).1),.string (bk x.q.name),.string (bk x.value)] (fun b21=>L7 (inf:=Tryz.t59) 1 0 7 rfl rfl hO (by omega) (by show (no+1) * 48≤140737488355328; omega) (fun v22 g23 hO24=>?_))))))))
 obtain ⟨a25,cap26,rfl,hcap27,hrd28⟩:=hO24.shape
 refine A3 (j:=6) [0] (k:=D0 6 2 (.slice a25 (no+1) cap26) rfl (A5 [] [0,1,2,6,7,8,9,11,12,50,51,52] (k:=B8 (A0 (A2 (A3 (j:=1) [0] (k:=D1 98 (((k:Nat):Int)+1) (by omega) (by omega) kr (A5 [0] [0,1,2,6,7,8,9,11,12,50,51,52] (k:=?_)))))))))
 refine F8 3 [3,3,3,3,3,3,3] (D2 (s':=((k+1),(mkX (elS sp q).1 x q2).2,(out++[(XA.mk (mkX (elS sp q).1 x q2).1 x.q.name x.value)]),(no+1),a25,cap26,g23)) [0,1,2,6,7,8,9,11,12,50,51,52] kr kr ⟨(by dsimp only; omega),(by dsimp only; rw [hT,drop_cons hk,← hx,marks_no hd hany]),(by dsimp only; rw [xaV_app]; exact hO24),(by dsimp only; rw [List.length_append,hno]; rfl),(by dsimp only; omega),(by dsimp only; first | (rw [mkX_le]; exact hl2) | (rw [Y5,mkX_le]; exact hl2))⟩ (by dsimp only; omega))
 have hk:(F4 ((A8 q).2.1.length+1) [] (A8 q).2).1.length≤k:=by have:=hc5; simp only [decide_eq_false_iff_not] at this; omega
 have hm:elM sp q=(out,q2):=by rw [hT,List.drop_eq_nil_of_le hk]; rfl
 refine E7 (A6 (A6 (B6 (A0 (A1 (A1 (G_p [0,0] [0,1,2,6,7,8,9,11,12,100] (k:=A0 ?_))))))))
 refine B1 (b:=decide (d ≥ 24)) kr (fun hc30=>?_) (fun hc30=>?_)
 have hlv0:lv=0:=by have:=hc30; simp only [ge_iff_le,decide_eq_true_eq] at this; omega
 refine A2 (A3 (j:=1) [0] (k:=D9 Tryz.func19 (O1 r q2 71 _ _) ?_))
 rintro _ _ rfl
 refine A5 [] [0,1,2,6,7,8,9,11,12] (k:=A0 (A1 (A1 (A2 (A3 (j:=5) [0,0,0,0,0] (k:=C2 (ch:=[(104,false)]) (b:=r) (off:=1) (v:=.int .i64 ((G0 71 q2).2)) (hA:=At.grp 0 0 rfl rfl) (k:=A5 [0,5] [0,1,2,6,7,8,9,12,110] (k:=A0 ?_))))))))
 refine B1 (b:=((G9 [47,62] ((F4 ((A8 q).2.1.length+1) [] (A8 q).2).2)).1)||(((G0 71 q2).2) != 0)) kr (fun hc31=>?_) (fun hc31=>?_)
 have hE:elX lv sp q=_:=(congrArg (fun n=>elX n sp q) hlv0).trans (el_2 hf hm)
 refine A1 (A2 (M9 3 0 5 rfl (D0 6 0 (.agg #[.string (bk (elV sp q).1),.string (bk (A8 q).1.name),.slice oa no oc,.slice none 0 0,.string eB]) rfl (C0 (E':=[⟨6,[],pt b1⟩]) [] [6] (k:=A0 (B4 (A4 (P1 3 [0,1,4,2] ([(r,.cells #[.string (bk (G0 71 q2).1),.int .i64 ((G0 71 q2).2)] 45 (0,0))]::[(ms,.map (G3 M) mc)]::[(b1,.cells #[.string (bk (elV sp q).1),.string (bk (A8 q).1.name),.slice oa no oc,.slice none 0 0,.string eB] 26 (0,0))]::og::H) ?_))))))))
 refine F3 (H':=([(r,.cells #[.string (bk (G0 71 q2).1),.int .i64 ((G0 71 q2).2)] 45 (0,0))]::[(ms,.map (G3 M) mc)]::[(b1,.cells #[.string (bk (elV sp q).1),.string (bk (A8 q).1.name),.slice oa no oc,.slice none 0 0,.string eB] 26 (0,0))]::(og++([]++[]))::H)) (fun w h=>Sat.flat h (List.Perm.of_eq (by simp []))) (J7 [.cell 6 26] [.agg #[.string (bk (elV sp q).1),.string (bk (A8 q).1.name),.slice oa no oc,.slice none 0 0,.string eB]] rfl (.cons (.aq 2 0 rfl) (.nil)) rfl ⟨_,?_,fun w h=>(h.pk 1 [0,0,1])⟩)
 subst hno; rw [hE]; exact ⟨_,_,.mk (l:=[]) hO Go.Sw.Own.nil .nil,rfl,rfl⟩
 have h9:=hc31
 simp only [Bool.or_eq_false_iff,bne_eq_false_iff_eq] at h9
 exact absurd h9.2 (flt71 q2)
 have hlv0:lv≠0:=by have:=hc30; simp only [ge_iff_le,decide_eq_false_iff_not] at this; omega
 obtain ⟨n,hln⟩:∃ n,lv=n+1:=⟨lv - 1,by omega⟩
 refine A7 (A0 (A1 (A1 (A2 (A3 (j:=5) [0,0,0,0,0] (k:=C2 (ch:=[(104,false)]) (b:=r) (off:=1) (v:=.int .i64 q2.2) (hA:=At.grp 0 0 rfl rfl) (k:=A5 [0,5] [0,1,2,6,7,8,9,12,110] (k:=A0 ?_))))))))
 refine B1 (b:=((G9 [47,62] ((F4 ((A8 q).2.1.length+1) [] (A8 q).2).2)).1)||(q2.2 != 0)) kr (fun hc32=>?_) (fun hc32=>?_)
 have hE:elX lv sp q=_:=(congrArg (fun n=>elX n sp q) hln).trans (el_3 hf hm (by have h9:=hc32; simp only [Bool.or_eq_true,bne_iff_ne,ne_eq] at h9; exact h9))
 refine A1 (A2 (M9 3 0 5 rfl (D0 6 0 (.agg #[.string (bk (elV sp q).1),.string (bk (A8 q).1.name),.slice oa no oc,.slice none 0 0,.string eB]) rfl (C0 (E':=[⟨6,[],pt b1⟩]) [] [6] (k:=A0 (B4 (A4 (P1 3 [0,1,4,2] ([(r,.cells #[.string (bk q2.1),.int .i64 q2.2] 45 (0,0))]::[(ms,.map (G3 M) mc)]::[(b1,.cells #[.string (bk (elV sp q).1),.string (bk (A8 q).1.name),.slice oa no oc,.slice none 0 0,.string eB] 26 (0,0))]::og::H) ?_))))))))
 refine F3 (H':=([(r,.cells #[.string (bk q2.1),.int .i64 q2.2] 45 (0,0))]::[(ms,.map (G3 M) mc)]::[(b1,.cells #[.string (bk (elV sp q).1),.string (bk (A8 q).1.name),.slice oa no oc,.slice none 0 0,.string eB] 26 (0,0))]::(og++([]++[]))::H)) (fun w h=>Sat.flat h (List.Perm.of_eq (by simp []))) (J7 [.cell 6 26] [.agg #[.string (bk (elV sp q).1),.string (bk (A8 q).1.name),.slice oa no oc,.slice none 0 0,.string eB]] rfl (.cons (.aq 2 0 rfl) (.nil)) rfl ⟨_,?_,fun w h=>(h.pk 1 [0,0,1])⟩)
 subst hno; rw [hE]; exact ⟨_,_,.mk (l:=[]) hO Go.Sw.Own.nil .nil,rfl,rfl⟩
 have hE0:elX lv sp q=_:=(congrArg (fun n=>elX n sp q) hln).trans (el_4 hf hm (by have h9:=hc32; simp only [Bool.or_eq_false_iff,bne_eq_false_iff_eq] at h9; rintro (h | h); rw [show (G9 [47,62] (F4 ((A8 q).2.1.length+1) [] (A8 q).2).2).1=(elT q).2.1 from rfl,h] at h9; exact Bool.noConfusion h9.1; exact h h9.2))
 refine A7 (A0 (A1 (A2 (A3 (j:=3) [0,0,0] (k:=M1 0 [0,0,1] (D9 Tryz.func43 (hcont n hln q2 (by omega) b4 (.string (bk (elV sp q).1)) (.string (bk (A8 q).1.name)) (.slice oa no oc) (.string eB) mo co Mo (elS sp q).1 hMo _ _ hX) ?_))))))
 rintro _ _ ⟨kn,ka,kc,kg,kcs,gs,hkn,hKO,hKP,rfl⟩
 have hcl:=cont_le (el_le n (elS sp q).1) (q2.1.length+1) [] q2
 refine A5 [] [0,6,7,8,9,12] (k:=A0 (A1 (A2 (A3 (j:=1) [0] (k:=D9 Tryz.func37 (xqual_ r ((G8 (elX n (elS sp q).1) (q2.1.length+1) [] q2).2) (by first | omega | (have h9:=cont_le (el_le n (elS sp q).1) (q2.1.length+1) [] q2; omega)) _ _) ?_)))))
 rintro _ _ ⟨rfl,rfl⟩
 refine A5 [0,0,0,0,0,0,0] [0,6,7,8,9,12,16,17,18] (k:=A0 (A1 (A2 (A3 (j:=1) [0] (k:=D9 Tryz.func34 (xskip_ r ((A8 ((G8 (elX n (elS sp q).1) (q2.1.length+1) [] q2).2)).2) _ _) ?_)))))
 rintro _ _ ⟨rfl,rfl⟩
 refine A5 [] [0,6,7,8,9,12,16,17,18] (k:=A0 (A1 (A2 (A3 (j:=1) [0] (k:=D9 Tryz.func17 (xmust_ r (blk ((A8 ((G8 (elX n (elS sp q).1) (q2.1.length+1) [] q2).2)).2).1,((A8 ((G8 (elX n (elS sp q).1) (q2.1.length+1) [] q2).2)).2).2) [62] _ _) ?_)))))
 rintro _ _ rfl
 refine A5 [] [0,6,7,8,9,12,16,17,18] (k:=A0 (A1 (A1 (G_p [0,0,0,0,0,0,0,5,0,0,0,0,5] [0,6,12,138] (k:=A0 (B1 (b:=((!((bk (A8 ((G8 (elX n (elS sp q).1) (q2.1.length+1) [] q2).2)).1.pre).toList==(bk (A8 q).1.pre).toList))||(!((bk (A8 ((G8 (elX n (elS sp q).1) (q2.1.length+1) [] q2).2)).1.name).toList==(bk (A8 q).1.name).toList)))||(!(((A8 ((G8 (elX n (elS sp q).1) (q2.1.length+1) [] q2).2)).1.has)==((A8 q).1.has)))) kr (fun hc34=>?_) (fun hc34=>?_)))))))
 have hne:(A8 (G8 (elX n (elS sp q).1) (q2.1.length+1) [] q2).2).1≠(A8 q).1:=fun h=>by have h9:=hc34; rw [h] at h9; simp at h9
 have hE:elX lv sp q=_:=hE0.trans (close_yes hne)
 refine A2 (A3 (j:=1) [0] (k:=D9 Tryz.func19 (O1 r (D4 [62] (blk ((A8 ((G8 (elX n (elS sp q).1) (q2.1.length+1) [] q2).2)).2).1,((A8 ((G8 (elX n (elS sp q).1) (q2.1.length+1) [] q2).2)).2).2)) 70 _ _) ?_))
 rintro _ _ rfl
 refine C0 (E':=[⟨6,[],pt b1⟩,⟨12,[],pt b4⟩]) [] [6,12] (k:=A0 (A1 (A2 (M9 2 0 5 rfl (D0 8 0 (.agg #[.string (bk (elV sp q).1),.string (bk (A8 q).1.name),.slice oa no oc,.slice ka kn kc,.string eB]) rfl (C0 (E':=[⟨6,[],pt b1⟩]) [] [6] (k:=A0 (B4 ?_))))))))
 refine P1 3 [0,4,6,4,2,2] ([(r,.cells #[.string (bk (G0 70 (D4 [62] (blk ((A8 ((G8 (elX n (elS sp q).1) (q2.1.length+1) [] q2).2)).2).1,((A8 ((G8 (elX n (elS sp q).1) (q2.1.length+1) [] q2).2)).2).2))).1),.int .i64 ((G0 70 (D4 [62] (blk ((A8 ((G8 (elX n (elS sp q).1) (q2.1.length+1) [] q2).2)).2).1,((A8 ((G8 (elX n (elS sp q).1) (q2.1.length+1) [] q2).2)).2).2))).2)] 45 (0,0))]::[(ms,.map (G3 M) mc)]::[(b1,.cells #[.string (bk (elV sp q).1),.string (bk (A8 q).1.name),.slice oa no oc,.slice ka kn kc,.string eB] 26 (0,0))]::og::kg::gs::H) (F3 (H':=([(r,.cells #[.string (bk (G0 70 (D4 [62] (blk ((A8 ((G8 (elX n (elS sp q).1) (q2.1.length+1) [] q2).2)).2).1,((A8 ((G8 (elX n (elS sp q).1) (q2.1.length+1) [] q2).2)).2).2))).1),.int .i64 ((G0 70 (D4 [62] (blk ((A8 ((G8 (elX n (elS sp q).1) (q2.1.length+1) [] q2).2)).2).1,((A8 ((G8 (elX n (elS sp q).1) (q2.1.length+1) [] q2).2)).2).2))).2)] 45 (0,0))]::[(ms,.map (G3 M) mc)]::[(b1,.cells #[.string (bk (elV sp q).1),.string (bk (A8 q).1.name),.slice oa no oc,.slice ka kn kc,.string eB] 26 (0,0))]::(og++(kg++gs))::H)) (fun w h=>Sat.flat h (List.Perm.of_eq (by simp []))) (J7 [.cell 6 26] [.agg #[.string (bk (elV sp q).1),.string (bk (A8 q).1.name),.slice oa no oc,.slice ka kn kc,.string eB]] rfl (.cons (.aq 2 0 rfl) (.nil)) rfl ⟨_,?_,fun w h=>(h.pk 1 [0,0,1])⟩))
 subst hno; subst hkn; rw [hE]; exact ⟨_,_,.mk hO hKO hKP,rfl,rfl⟩
 have heq:(A8 (G8 (elX n (elS sp q).1) (q2.1.length+1) [] q2).2).1=(A8 q).1:=by have h9:=hc34; simp only [Bool.or_eq_false_iff,Bool.not_eq_false'] at h9; exact qn_eq.2 ⟨(eqB _ _).1 h9.1.1,(eqB _ _).1 h9.1.2,by simpa using h9.2⟩
 have hE:elX lv sp q=_:=hE0.trans (close_no heq)
 refine A7 (A0 (A1 (A2 (M9 2 0 5 rfl (D0 8 0 (.agg #[.string (bk (elV sp q).1),.string (bk (A8 q).1.name),.slice oa no oc,.slice ka kn kc,.string eB]) rfl (C0 (E':=[⟨6,[],pt b1⟩]) [] [6] (k:=A0 (B4 ?_))))))))
 refine P1 3 [0,4,6,4,2,2] ([(r,.cells #[.string (bk (D4 [62] (blk ((A8 ((G8 (elX n (elS sp q).1) (q2.1.length+1) [] q2).2)).2).1,((A8 ((G8 (elX n (elS sp q).1) (q2.1.length+1) [] q2).2)).2).2)).1),.int .i64 ((D4 [62] (blk ((A8 ((G8 (elX n (elS sp q).1) (q2.1.length+1) [] q2).2)).2).1,((A8 ((G8 (elX n (elS sp q).1) (q2.1.length+1) [] q2).2)).2).2)).2)] 45 (0,0))]::[(ms,.map (G3 M) mc)]::[(b1,.cells #[.string (bk (elV sp q).1),.string (bk (A8 q).1.name),.slice oa no oc,.slice ka kn kc,.string eB] 26 (0,0))]::og::kg::gs::H) (F3 (H':=([(r,.cells #[.string (bk (D4 [62] (blk ((A8 ((G8 (elX n (elS sp q).1) (q2.1.length+1) [] q2).2)).2).1,((A8 ((G8 (elX n (elS sp q).1) (q2.1.length+1) [] q2).2)).2).2)).1),.int .i64 ((D4 [62] (blk ((A8 ((G8 (elX n (elS sp q).1) (q2.1.length+1) [] q2).2)).2).1,((A8 ((G8 (elX n (elS sp q).1) (q2.1.length+1) [] q2).2)).2).2)).2)] 45 (0,0))]::[(ms,.map (G3 M) mc)]::[(b1,.cells #[.string (bk (elV sp q).1),.string (bk (A8 q).1.name),.slice oa no oc,.slice ka kn kc,.string eB] 26 (0,0))]::(og++(kg++gs))::H)) (fun w h=>Sat.flat h (List.Perm.of_eq (by simp []))) (J7 [.cell 6 26] [.agg #[.string (bk (elV sp q).1),.string (bk (A8 q).1.name),.slice oa no oc,.slice ka kn kc,.string eB]] rfl (.cons (.aq 2 0 rfl) (.nil)) rfl ⟨_,?_,fun w h=>(h.pk 1 [0,0,1])⟩))
 subst hno; subst hkn; rw [hE]; exact ⟨_,_,.mk hO hKO hKP,rfl,rfl⟩
theorem xelement_:∀ (lv:Nat),lv≤24→∀ (d:Int),d=24 - ((lv:Nat):Int)→∀ (r:Nat) (q:XS),q.1.length≤1000000→∀ (ms mc:Nat) (M:SM) (sp:SPX),SpR M sp→∀ (W0:World) (H:List Grp),T9 W0→Tri Tryz.prog 18 #[pt r,.int .i64 d,.map (some ms)] W0 (rdX r q::[(ms,.map (G3 M) mc)]::H) (fun v H2=>∃ c g,XRep 59 26 (elX lv sp q).1 c g∧v=.agg c.toArray∧H2=rdX r (elX lv sp q).2::[(ms,.map (G3 M) mc)]::g::H)
 | 0,h,d,hd,r,q,hl,ms,mc,M,sp,hM,W0,H,hX=>xelementW_ 0 d hd h r q hl ms mc M sp hM (fun n hn=>absurd hn (by omega)) W0 H hX
 | m+1,h,d,hd,r,q,hl,ms,mc,M,sp,hM,W0,H,hX=>xelementW_ (m+1) d hd h r q hl ms mc M sp hM
  (fun n hn q hl nb v0 v1 v2 v4 ms mc M sp hM W0 H hX=>by
   obtain rfl:m=n:=by omega
   exact xcontent_ m d (by omega) r q hl nb v0 v1 v2 v4 ms mc M sp (fun q hl W0 H hX=>xelement_ m (by omega) (d+1) (by omega) r q hl ms mc M sp hM W0 H hX) W0 H hX) W0 H hX
end Go.Proofs.YtcgmnagcgkhogabGreatDoor
namespace Go.Xml
open Go.Esc Go.Json Go.Sw
theorem around_le (n:Nat) (q:XS):(C4 n q).1.length≤q.1.length:=by
  induction n generalizing q with
  | zero=>exact Nat.le_refl _
  | succ n ih =>
    by_cases h0:q.2=0
    by_cases h:(blk q.1).length<q.1.length
    rw [around_skip h0 h]; have:=ih (blk q.1,q.2); dsimp only at this; omega
    have h9:=Z3 q.1
    by_cases ha:(I2 (blk q.1,q.2)).1=true
    rw [around_aside h0 h ha]; have h1:=ih (I2 (blk q.1,q.2)).2; have h2:=A0k (blk q.1,q.2); dsimp only at h2; omega
    rw [around_end h0 h ha]; have h2:=A0k (blk q.1,q.2); dsimp only at h2; omega
    rw [around_ne h0]; exact Nat.le_refl _
theorem bom_len (l:List UInt8):(D6 l).length≤l.length:=by
 unfold D6; split
 rw [List.length_drop]; omega
 exact Nat.le_refl _
def parN (n:XN × XS):XN × Int :=
 let q2:=C4 (n.2.1.length+1) n.2
 let q3:=if q2.1≠[] then G0 70 q2 else q2
 if q3.2≠0 then (J3,q3.2) else (n.1,0)
def H8 (l:List UInt8):XS:=D4 [60] (C4 ((D6 l).length+1) (D6 l,0))
theorem parQ_le (l:List UInt8):(H8 l).1.length≤l.length:=by
 unfold H8
 have h1:=must_le [60] (C4 ((D6 l).length+1) (D6 l,0))
 have h2:=around_le ((D6 l).length+1) (D6 l,0)
 have h3:=bom_len l
 dsimp only at h2; omega
theorem par_1 {l:List UInt8} (h:65536<l.length):I5 l=(J3,72):=by unfold I5; rw [if_pos h]
theorem par_2 {l:List UInt8} (h:¬ 65536<l.length) (hv:J0 (D6 l)=false∨F9 (D6 l)≠D6 l):I5 l=(J3,70):=by unfold I5; rw [if_neg h]; dsimp only; rw [if_pos hv]
theorem par_3 {l:List UInt8} (h:¬ 65536<l.length) (hv:¬ (J0 (D6 l)=false∨F9 (D6 l)≠D6 l)) (h0:(H8 l).2=0):I5 l=parN (elX 24 I4 (H8 l)):=by
 unfold I5; rw [if_neg h]; dsimp only; rw [if_neg hv]
 show parN (if (H8 l).2=0 then elX 24 I4 (H8 l) else (J3,H8 l))=_
 rw [if_pos h0]
theorem par_4 {l:List UInt8} (h:¬ 65536<l.length) (hv:¬ (J0 (D6 l)=false∨F9 (D6 l)≠D6 l)) (h0:(H8 l).2≠0):I5 l=parN (J3,H8 l):=by
 unfold I5; rw [if_neg h]; dsimp only; rw [if_neg hv]
 show parN (if (H8 l).2=0 then elX 24 I4 (H8 l) else (J3,H8 l))=_
 rw [if_neg h0]
theorem parN_1 {n:XN × XS} (h:(C4 (n.2.1.length+1) n.2).1≠[]) (he:(G0 70 (C4 (n.2.1.length+1) n.2)).2≠0):parN n=(J3,(G0 70 (C4 (n.2.1.length+1) n.2)).2):=by
 unfold parN; dsimp only; rw [if_pos h,if_pos he]
theorem parN_2 {n:XN × XS} (h:(C4 (n.2.1.length+1) n.2).1≠[]) (he:(G0 70 (C4 (n.2.1.length+1) n.2)).2=0):parN n=(n.1,0):=by
 unfold parN; dsimp only; rw [if_pos h,if_neg (fun hn=>hn he)]
theorem parN_3 {n:XN × XS} (h:(C4 (n.2.1.length+1) n.2).1=[]) (he:(C4 (n.2.1.length+1) n.2).2≠0):parN n=(J3,(C4 (n.2.1.length+1) n.2).2):=by
 have e:(if (C4 (n.2.1.length+1) n.2).1≠[] then G0 70 (C4 (n.2.1.length+1) n.2) else C4 (n.2.1.length+1) n.2)=C4 (n.2.1.length+1) n.2:=if_neg (fun hn=>hn h)
 unfold parN; dsimp only; rw [e,if_pos he]
theorem parN_4 {n:XN × XS} (h:(C4 (n.2.1.length+1) n.2).1=[]) (he:(C4 (n.2.1.length+1) n.2).2=0):parN n=(n.1,0):=by
 have e:(if (C4 (n.2.1.length+1) n.2).1≠[] then G0 70 (C4 (n.2.1.length+1) n.2) else C4 (n.2.1.length+1) n.2)=C4 (n.2.1.length+1) n.2:=if_neg (fun hn=>hn h)
 unfold parN; dsimp only; rw [e,if_neg (fun hn=>hn he)]
def ownX:List UInt8:=[104,116,116,112,58,47,47,119,119,119,46,119,51,46,111,114,103,47,88,77,76,47,49,57,57,56,47,110,97,109,101,115,112,97,99,101]
theorem sp0_ok (c:Nat):SpR (K4 [(bk [120,109,108],.string (bk ownX),0)] c (bk []) (.string (bk []))) I4:=by
 intro p
 rw [mgetX_put]
 unfold K5 I4
 by_cases h1:p=[]
 subst h1; rw [if_pos (bk_inj.2 rfl)]; rfl
 rw [if_neg (fun hh=>h1 (bk_inj.1 hh))]
 by_cases h2:p=[120,109,108]
 subst h2; rfl
 show (if (bk p==bk [120,109,108]) then some (0,Value.string (bk ownX)) else none).map (·.2)=_
 rw [if_neg (fun hh=>h2 (bk_inj.1 hh))]
 rw [List.find?_cons,show (([120,109,108],ownX):List UInt8 × List UInt8).1=[120,109,108] from rfl]
 rw [show (([120,109,108]:List UInt8)==p)=false from beq_eq_false_iff_ne.2 (fun e=>h2 e.symm)]
 dsimp only
 rw [List.find?_cons,show (([]:List UInt8)==p)=false from beq_eq_false_iff_ne.2 (fun e=>h1 e.symm)]
 rfl
end Go.Xml
namespace Go.Proofs.YtcgmnagcgkhogabGreatDoor
open Go.Sw Go.Sha Go.Esc Go.RowKit
theorem valid_ (s:ByteArray) (hs:s.size≤1000000000000) (W0:World) (H:List Grp) (hW:V6 W0):Tri Tryz.prog 14 #[.string s] W0 H (fun v H'=>v=.bool (J0 s.data.toList)∧H'=H):=by
 refine D5 5 Tryz.func14 ?_
 refine A1 (C3 (E':=[⟨0,[],.string s⟩]) [0] [0] (k:=A0 (A1 (A2 (A3 (j:=1) [0] (k:=D9 Tryz.func31 (validStr s (by omega) _ _ hW) ?_))))))
 rintro _ _ ⟨rfl,rfl⟩
 refine C0 (E':=[⟨2,[],.bool (J0 s.data.toList)⟩]) [0] [2] (k:=A0 (B4 (B7 [.tmp 2] [.bool (J0 s.data.toList)] (k:=?_))))
 exact ⟨rfl,rfl⟩
end Go.Proofs.YtcgmnagcgkhogabGreatDoor
namespace Go.Proofs.YtcgmnagcgkhogabGreatDoor
open Go.Sw Go.Sha Go.Esc Go.RowKit Go.Json Go.Xml
theorem xtrimP0_ (l:List UInt8) (W0:World) (H:List Grp):Tri Tryz.prog 30 #[.string (bk l),.string (mB #[239,187,191])] W0 H (fun v H'=>v=.string (bk (D6 l))∧H'=H):=by
 have hbz:=C9 l
 refine D5 13 Tryz.func30 ?_
 refine A1 (G_p [0] [0,1] (k:=A0 (A1 (A1 (A2 (A3 (j:=2) [0,0] (k:=H6 Tryz.func60 (jhas0_ (bk l) (mB #[239,187,191]) _ _) (A5 [] [0,1,7] (k:=?_)))))))))
 refine A0 (B1 (b:=I0 (bk l) (mB #[239,187,191])) kr (fun hc1=>?_) (fun hc1=>?_))
 have hp:[239,187,191].isPrefixOf l=true:=pre_iff.1 ((J8 (bk l) (mB #[239,187,191])).1 hc1)
 refine A1 (A2 (A3 (j:=3) [0,0,0] (k:=M8 (bk l) 3 ((bk l).size:Int) (by intro _; have h9:=pre_le hp; simp only [List.length_cons,List.length_nil] at h9; exact ⟨by omega,by omega,by omega⟩) (E3 11 (x:=.string ((bk l).extract 3 (bk l).size)) (y:=.string (bk (l.drop 3))) (by rw [ext_bk]) (C0 (E':=[⟨4,[],.string (bk (l.drop 3))⟩]) [0] [4] (k:=A0 (B4 (A4 ?_))))))))
 refine B7 [.tmp 4] [.string (bk (l.drop 3))] (k:=?_)
 exact ⟨by rw [show D6 l=l.drop 3 from if_pos hp]; try rfl,rfl⟩
 have hp:¬ [239,187,191].isPrefixOf l=true:=fun hn=>(J5 (bk l) (mB #[239,187,191])).1 hc1 (pre_iff.2 hn)
 refine A7 (A0 (A1 (C3 (E':=[⟨4,[],.string (bk l)⟩]) [0,0] [4] (k:=A0 (B4 (B7 [.tmp 4] [.string (bk l)] (k:=?_)))))))
 exact ⟨by rw [show D6 l=l from if_neg hp]; try rfl,rfl⟩
theorem xtrimP_ (l:List UInt8) (W0:World) (H:List Grp):Tri Tryz.prog 13 #[.string (bk l),.string (mB #[239,187,191])] W0 H (fun v H'=>v=.string (bk (D6 l))∧H'=H):=by
 have hbz:=C9 l
 refine D5 8 Tryz.func13 ?_
 refine A1 (G_p [0] [0,1] (k:=A0 (A1 (A2 (A3 (j:=2) [0,0] (k:=H6 Tryz.func30 (xtrimP0_ l _ _) (C0 (E':=[⟨4,[],.string (bk (D6 l))⟩]) [0] [4] (k:=A0 ?_))))))))
 refine B4 (B7 [.tmp 4] [.string (bk (D6 l))] (k:=?_))
 exact ⟨rfl,rfl⟩
abbrev _root_.Go.aA:=mB #[104,116,116,112,58,47,47,119,119,119,46,119,51,46,111,114,103,47,88,77,76,47,49,57,57,56,47,110,97,109,101,115,112,97,99,101]
abbrev _root_.Go.aJ:=mB #[120,109,108]
abbrev _root_.Go.aM:=K4 ([(aJ,.string aA,0)]) 1 eB (.string eB)
theorem xparse_ (a:Option Addr) (c:Nat) (l:List UInt8) (S:Nat→Obj→Prop) (hrd:Rd S a (u8s l)) (W0:World) (H:List Grp) (hS:∀ y o,S y o→At W0 H y o) (hX:T9 W0):Tri Tryz.prog 5 #[.slice a l.length c] W0 H (fun v H2=>∃ c g,XRep 59 26 (I5 l).1 c g∧v=.tuple #[.agg c.toArray,.int .i64 (I5 l).2]∧H2=g::H):=by
 have hW:V6 W0:=hX.base
 have hbl:=bom_len l
 have hql:=parQ_le l
 refine D5 67 Tryz.func5 ?_
 refine A1 (A2 (J1 (.agg zN.toArray) (fun b1=>A5 [0] [0,2] (k:=A0 (A1 (A1 (G_p [0,0,0] [0,2,8] (k:=A0 ?_))))))))
 refine B1 (b:=decide (((l.length:Nat):Int) > 65536)) kr (fun hc2=>?_) (fun hc2=>?_)
 simp only [gt_iff_lt,decide_eq_true_eq] at hc2
 have hlen:65536<l.length:=by omega
 have hP:=par_1 hlen
 refine A1 (A2 (A3 (j:=1) [0] (k:=D0 0 0 (.agg zN.toArray) rfl (C0 (E':=[⟨2,[],pt b1⟩,⟨3,[],.int .i64 72⟩]) [0] [2,3] (k:=A0 (B4 (A4 (F3 (H':=([(b1,.cells zN.toArray 26 (0,0))]::[]::H)) (fun w h=>Sat.flat h (List.Perm.refl _)) ?_))))))))
 refine J7 [.cell 2 26,.tmp 3] [.agg zN.toArray,.int .i64 72] rfl (.cons (.aq 0 0 rfl) (.cons .tq (.nil))) rfl ⟨_,?_,fun w h=>(h.pk 1 [1])⟩
 rw [hP]; exact ⟨_,_,XRep.nul,rfl,rfl⟩
 simp only [gt_iff_lt,decide_eq_false_iff_not] at hc2
 have hlen:¬ 65536<l.length:=by omega
 refine A7 (A0 (A1 (A2 (A3 (j:=1) [0] (k:=Z8 (ch:=[]) (a:=a) (cap:=c) (e:=5) (S:=S) (bk l) (hrd:=hrd) (hS:=(fun y o h=>At.cons (hS y o h))) (k:=H6 Tryz.func13 (xtrimP_ l _ _) (A3 (j:=4) [0] (k:=V5 (.agg #[.string (bk (D6 l)),.int .i64 0]) (fun b3=>?_)))))))))
 refine C0 (E':=[⟨2,[],pt b1⟩,⟨4,[],pt b3⟩]) [0] [2,4] (k:=A0 (A1 (A1 (H5 (k:=A3 (j:=3) [0,0,0] (k:=C1 0 0 rfl rfl (H6 Tryz.func14 (valid_ (bk (D6 l)) (by rw [C9]; omega) _ _ hW) (A3 (j:=10) [0,0,0,0,0] (k:=?_)))))))))
 refine C2 (ch:=[(21,false)]) (b:=b3) (off:=0) (v:=.string (bk (D6 l))) (hA:=At.grp 0 0 rfl rfl) (k:=P7 [(21,false)] Tryz.func15 (fun hc=>plain_ (bk (D6 l)) (by rw [C9]; omega) _ _) (A3 (j:=15) [0,0,0] (k:=C2 (ch:=[(21,false)]) (b:=b3) (off:=0) (v:=.string (bk (D6 l))) (hA:=At.grp 0 0 rfl rfl) (k:=A5 [0,5] [2,4,32] (k:=A0 (B1 (b:=(!(J0 (D6 l)))||(!((bk (F9 (D6 l))).toList==(bk (D6 l)).toList))) kr (fun hc4=>?_) (fun hc4=>?_)))))))
 have hv:J0 (D6 l)=false∨F9 (D6 l)≠D6 l:=by have h9:=hc4; simp only [Bool.or_eq_true,Bool.not_eq_true'] at h9; exact h9.imp id (fun h=>(eqBf _ _).1 h)
 have hP:=par_2 hlen hv
 refine A1 (A2 (A3 (j:=1) [0] (k:=D0 1 0 (.agg zN.toArray) rfl (C0 (E':=[⟨2,[],pt b1⟩,⟨3,[],.int .i64 70⟩]) [0] [2,3] (k:=A0 (B4 (A4 (P1 1 [1] ([(b1,.cells zN.toArray 26 (0,0))]::H) ?_))))))))
 refine F3 (H':=([(b1,.cells zN.toArray 26 (0,0))]::[]::H)) (fun w h=>Sat.flat h (List.Perm.refl _)) (J7 [.cell 2 26,.tmp 3] [.agg zN.toArray,.int .i64 70] rfl (.cons (.aq 0 0 rfl) (.cons .tq (.nil))) rfl ⟨_,?_,fun w h=>(h.pk 1 [1])⟩)
 rw [hP]; exact ⟨_,_,XRep.nul,rfl,rfl⟩
 have hv:¬ (J0 (D6 l)=false∨F9 (D6 l)≠D6 l):=by have h9:=hc4; simp only [Bool.or_eq_false_iff,Bool.not_eq_false'] at h9; rintro (h | h); rw [h9.1] at h; cases h; exact h ((eqB _ _).1 h9.2)
 refine A7 (A0 (A1 (A2 (A3 (j:=1) [0] (k:=D9 (vs:=[pt b3]) Tryz.func16 (xaround_ b3 ((D6 l),0) (by first | (show (D6 l).length≤_; omega) | (show (H8 l).1.length≤_; omega) | omega | (have h9:=el_le 24 I4 (H8 l); omega)) _ _ hX) ?_)))))
 rintro _ _ rfl
 refine C0 (E':=[⟨2,[],pt b1⟩,⟨4,[],pt b3⟩]) [] [2,4] (k:=A0 (A1 (A2 (A3 (j:=1) [0] (k:=D9 Tryz.func17 (xmust_ b3 (C4 (((D6 l),0).1.length+1) ((D6 l),0)) [60] _ _) ?_)))))
 rintro _ _ rfl
 refine C0 (E':=[⟨2,[],pt b1⟩,⟨4,[],pt b3⟩]) [] [2,4] (k:=A0 (A1 (A2 (J1 (.agg zN.toArray) (fun b5=>A5 [] [2,4,5] (k:=A0 (A1 (A1 ?_))))))))
 refine A2 (A3 (j:=3) [0,0,0] (k:=C1 1 1 rfl rfl (A5 [0] [2,4,5,42] (k:=A0 (B1 (b:=((D4 [60] (C4 (((D6 l),0).1.length+1) ((D6 l),0))).2)==0) kr (fun hc6=>?_) (fun hc6=>?_))))))
 have hq0:(H8 l).2=0:=by have h9:=hc6; show (D4 [60] (C4 ((D6 l).length+1) (D6 l,0))).2=0; simpa using h9
 refine A2 (A3 (j:=1) [0] (k:=GL_makeMap (i:=1) (ch:=[]) rfl rfl kr kr kr (fun b7=>N4 (ch:=[]) (kt:=9) (et:=9) (r:=b7) (c:=0) (j:=0) (q:=0) (m:=[]) (k:=aJ) (v:=.string aA) (H':=([(b7,.map (G3 ([(aJ,.string aA,0)])) 1)]::[(b5,.cells zN.toArray 26 (0,0))]::[(b3,.cells #[.string (bk (D4 [60] (C4 (((D6 l),0).1.length+1) ((D6 l),0))).1),.int .i64 ((D4 [60] (C4 (((D6 l),0).1.length+1) ((D6 l),0))).2)] 45 (0,0))]::[(b1,.cells zN.toArray 26 (0,0))]::H)) (hop:=.inr rfl) (kk:=N4 (ch:=[]) (kt:=9) (et:=9) (r:=b7) (c:=1) (j:=0) (q:=0) (m:=[(aJ,.string aA,0)]) (k:=eB) (v:=.string eB) (H':=([(b7,.map (G3 aM) (if V8 ([(aJ,.string aA,0)]) eB then 1 else 1+1))]::[(b5,.cells zN.toArray 26 (0,0))]::[(b3,.cells #[.string (bk (D4 [60] (C4 (((D6 l),0).1.length+1) ((D6 l),0))).1),.int .i64 ((D4 [60] (C4 (((D6 l),0).1.length+1) ((D6 l),0))).2)] 45 (0,0))]::[(b1,.cells zN.toArray 26 (0,0))]::H)) (hop:=.inr rfl) (kk:=A3 (j:=5) [0] (k:=M1 0 [2] (D9 (vs:=[pt b3,.int .i64 0,.map (some b7)]) Tryz.func18 (xelement_ 24 (Nat.le_refl _) 0 (by decide) b3 (H8 l) (by have:=parQ_le l; omega) b7 (if V8 ([(aJ,.string aA,0)]) eB then 1 else 1+1) aM I4 (sp0_ok _) _ _ hX) ?_)))))))
 rintro _ _ ⟨vc8,gv8,hJ8,rfl,rfl⟩
 obtain ⟨e0_8,e1_8,e2_8,e3_8,e4_8,rfl,h18⟩:=hJ8.cells5
 refine GL_st (ch:=[]) (b:=b5) (off:=0) (v:=.agg #[e0_8,e1_8,e2_8,e3_8,e4_8]) (j:=3) ([(b3,.cells #[.string (bk ((elX 24 I4 (H8 l)).2).1),.int .i64 (((elX 24 I4 (H8 l)).2).2)] 45 (0,0))]::[(b7,.map (G3 aM) (if V8 ([(aJ,.string aA,0)]) eB then 1 else 1+1))]::gv8::[(b5,.cells #[e0_8,e1_8,e2_8,e3_8,e4_8] 26 (0,0))]::[(b1,.cells zN.toArray 26 (0,0))]::H) (h1:=h18) (hoff:=Nat.le_of_ble_eq_true rfl) (hfz:=(fun _ _=>thaw0)) (k:=A5 [] [2,4,5] (k:=A0 (A1 (A2 (A3 (j:=1) [0] (k:=D9 (vs:=[pt b3]) Tryz.func16 (xaround_ b3 ((elX 24 I4 (H8 l)).2) (by first | (show (D6 l).length≤_; omega) | (show (H8 l).1.length≤_; omega) | omega | (have h9:=el_le 24 I4 (H8 l); omega)) _ _ hX) ?_))))))
 rintro _ _ rfl
 refine A5 [] [2,4,5] (k:=A0 (A1 (A1 (A2 (A3 (j:=3) [0,0,0] (k:=C1 0 0 rfl rfl (A5 [0] [2,4,5,53] (k:=A0 ?_))))))))
 refine B1 (b:=!((bk (C4 (((elX 24 I4 (H8 l)).2).1.length+1) ((elX 24 I4 (H8 l)).2)).1).toList==eB.toList)) kr (fun hc9=>?_) (fun hc9=>?_)
 have hs:(C4 ((elX 24 I4 (H8 l)).2.1.length+1) (elX 24 I4 (H8 l)).2).1≠[]:=by have h9:=hc9; exact (eqBf _ _).1 (by simpa only [Bool.not_eq_true'] using h9)
 refine A2 (A3 (j:=1) [0] (k:=D9 Tryz.func19 (O1 b3 (C4 (((elX 24 I4 (H8 l)).2).1.length+1) ((elX 24 I4 (H8 l)).2)) 70 _ _) ?_))
 rintro _ _ rfl
 refine A5 [] [2,4,5] (k:=A0 (A1 (A1 (A2 (A3 (j:=3) [0,0,0] (k:=C1 0 1 rfl rfl (A5 [0] [2,4,5,60] (k:=A0 ?_))))))))
 refine B1 (b:=((G0 70 (C4 (((elX 24 I4 (H8 l)).2).1.length+1) ((elX 24 I4 (H8 l)).2))).2) != 0) kr (fun hc10=>?_) (fun hc10=>?_)
 have he:(G0 70 (C4 ((elX 24 I4 (H8 l)).2.1.length+1) (elX 24 I4 (H8 l)).2)).2≠0:=bne_iff_ne.1 hc10
 have hP:=(par_3 hlen hv hq0).trans (parN_1 (n:=(elX 24 I4 (H8 l))) hs he)
 refine A1 (H4 ([(b3,.cells #[.string (bk (G0 70 (C4 (((elX 24 I4 (H8 l)).2).1.length+1) ((elX 24 I4 (H8 l)).2))).1),.int .i64 ((G0 70 (C4 (((elX 24 I4 (H8 l)).2).1.length+1) ((elX 24 I4 (H8 l)).2))).2)] 45 (0,0))]::[(b7,.map (G3 aM) (if V8 ([(aJ,.string aA,0)]) eB then 1 else 1+1))]::gv8::[(b5,.cells #[e0_8,e1_8,e2_8,e3_8,e4_8] 26 (0,0))]::[(b1,.cells zN.toArray 26 (0,0))]::H) kr (G1 (fuel:=5) [(0,0),(1,0)] (fun w h=>h) (k:=J4 (ad:=⟨b3,0,none⟩) 2 (hL:=(fun w h=>h)) (k:=G1 (fuel:=3) [(3,0)] (fun w h=>h) (k:=F6 4 kr (fun w h=>h) (C1 0 1 rfl rfl (G6 kr rfl)) (C6 5 (k:=D0 4 0 (.agg zN.toArray) rfl (A9 kr (fun w h=>h.pkT 0 []) ?_))))))))
 refine G1 (fuel:=0) [(6,0)] (fun w h=>h.pkT 0 []) (k:=D8 (E':=[⟨2,[],pt b1⟩,⟨3,[],.int .i64 ((G0 70 (C4 (((elX 24 I4 (H8 l)).2).1.length+1) ((elX 24 I4 (H8 l)).2))).2)⟩]) [2,3] (k:=A0 (B4 (A4 (P1 4 [4] ([(b1,.cells zN.toArray 26 (0,0))]::H) (F3 (H':=([(b1,.cells zN.toArray 26 (0,0))]::[]::H)) (fun w h=>Sat.flat h (List.Perm.refl _)) (J7 [.cell 2 26,.tmp 3] [.agg zN.toArray,.int .i64 ((G0 70 (C4 (((elX 24 I4 (H8 l)).2).1.length+1) ((elX 24 I4 (H8 l)).2))).2)] rfl (.cons (.aq 0 0 rfl) (.cons .tq (.nil))) rfl ⟨_,?_,fun w h=>(h.pk 1 [1])⟩)))))))
 rw [hP]; exact ⟨_,_,XRep.nul,rfl,rfl⟩
 have he:(G0 70 (C4 ((elX 24 I4 (H8 l)).2.1.length+1) (elX 24 I4 (H8 l)).2)).2=0:=bne_eq_false_iff_eq.1 hc10
 have hP:=(par_3 hlen hv hq0).trans (parN_2 (n:=(elX 24 I4 (H8 l))) hs he)
 refine A7 (A0 (A1 (A2 (M9 3 0 5 rfl (GL_st (ch:=[]) (b:=b1) (off:=0) (v:=.agg #[e0_8,e1_8,e2_8,e3_8,e4_8]) (j:=4) ([(b3,.cells #[.string (bk (G0 70 (C4 (((elX 24 I4 (H8 l)).2).1.length+1) ((elX 24 I4 (H8 l)).2))).1),.int .i64 ((G0 70 (C4 (((elX 24 I4 (H8 l)).2).1.length+1) ((elX 24 I4 (H8 l)).2))).2)] 45 (0,0))]::[(b7,.map (G3 aM) (if V8 ([(aJ,.string aA,0)]) eB then 1 else 1+1))]::gv8::[(b5,.cells #[e0_8,e1_8,e2_8,e3_8,e4_8] 26 (0,0))]::[(b1,.cells #[e0_8,e1_8,e2_8,e3_8,e4_8] 26 (0,0))]::H) (h1:=h18) (hoff:=Nat.le_of_ble_eq_true rfl) (hfz:=(fun _ _=>thaw0)) (k:=C0 (E':=[⟨2,[],pt b1⟩,⟨3,[],.int .i64 0⟩]) [0] [2,3] (k:=A0 (B4 ?_))))))))
 refine P1 3 [4,2] ([(b1,.cells #[e0_8,e1_8,e2_8,e3_8,e4_8] 26 (0,0))]::gv8::H) (F3 (H':=([(b1,.cells #[e0_8,e1_8,e2_8,e3_8,e4_8] 26 (0,0))]::gv8::H)) (fun w h=>Sat.flat h (List.Perm.refl _)) (J7 [.cell 2 26,.tmp 3] [.agg #[e0_8,e1_8,e2_8,e3_8,e4_8],.int .i64 0] rfl (.cons (.aq 0 0 rfl) (.cons .tq (.nil))) rfl ⟨_,?_,fun w h=>(h.pk 1 [1])⟩))
 rw [hP]; exact ⟨_,_,hJ8,rfl,rfl⟩
 have hs:(C4 ((elX 24 I4 (H8 l)).2.1.length+1) (elX 24 I4 (H8 l)).2).1=[]:=by have h9:=hc9; exact (eqB _ _).1 (by simpa only [Bool.not_eq_false'] using h9)
 refine A7 (A0 (A1 (A1 (A2 (A3 (j:=3) [0,0,0] (k:=C1 0 1 rfl rfl (A5 [0] [2,4,5,60] (k:=A0 ?_))))))))
 refine B1 (b:=((C4 (((elX 24 I4 (H8 l)).2).1.length+1) ((elX 24 I4 (H8 l)).2)).2) != 0) kr (fun hc11=>?_) (fun hc11=>?_)
 have he:(C4 ((elX 24 I4 (H8 l)).2.1.length+1) (elX 24 I4 (H8 l)).2).2≠0:=bne_iff_ne.1 hc11
 have hP:=(par_3 hlen hv hq0).trans (parN_3 (n:=(elX 24 I4 (H8 l))) hs he)
 refine A1 (H4 ([(b3,.cells #[.string (bk (C4 (((elX 24 I4 (H8 l)).2).1.length+1) ((elX 24 I4 (H8 l)).2)).1),.int .i64 ((C4 (((elX 24 I4 (H8 l)).2).1.length+1) ((elX 24 I4 (H8 l)).2)).2)] 45 (0,0))]::[(b7,.map (G3 aM) (if V8 ([(aJ,.string aA,0)]) eB then 1 else 1+1))]::gv8::[(b5,.cells #[e0_8,e1_8,e2_8,e3_8,e4_8] 26 (0,0))]::[(b1,.cells zN.toArray 26 (0,0))]::H) kr (G1 (fuel:=5) [(0,0),(1,0)] (fun w h=>h) (k:=J4 (ad:=⟨b3,0,none⟩) 2 (hL:=(fun w h=>h)) (k:=G1 (fuel:=3) [(3,0)] (fun w h=>h) (k:=F6 4 kr (fun w h=>h) (C1 0 1 rfl rfl (G6 kr rfl)) (C6 5 (k:=D0 4 0 (.agg zN.toArray) rfl (A9 kr (fun w h=>h.pkT 0 []) ?_))))))))
 refine G1 (fuel:=0) [(6,0)] (fun w h=>h.pkT 0 []) (k:=D8 (E':=[⟨2,[],pt b1⟩,⟨3,[],.int .i64 ((C4 (((elX 24 I4 (H8 l)).2).1.length+1) ((elX 24 I4 (H8 l)).2)).2)⟩]) [2,3] (k:=A0 (B4 (A4 (P1 4 [4] ([(b1,.cells zN.toArray 26 (0,0))]::H) (F3 (H':=([(b1,.cells zN.toArray 26 (0,0))]::[]::H)) (fun w h=>Sat.flat h (List.Perm.refl _)) (J7 [.cell 2 26,.tmp 3] [.agg zN.toArray,.int .i64 ((C4 (((elX 24 I4 (H8 l)).2).1.length+1) ((elX 24 I4 (H8 l)).2)).2)] rfl (.cons (.aq 0 0 rfl) (.cons .tq (.nil))) rfl ⟨_,?_,fun w h=>(h.pk 1 [1])⟩)))))))
 rw [hP]; exact ⟨_,_,XRep.nul,rfl,rfl⟩
 have he:(C4 ((elX 24 I4 (H8 l)).2.1.length+1) (elX 24 I4 (H8 l)).2).2=0:=bne_eq_false_iff_eq.1 hc11
 have hP:=(par_3 hlen hv hq0).trans (parN_4 (n:=(elX 24 I4 (H8 l))) hs he)
 refine A7 (A0 (A1 (A2 (M9 3 0 5 rfl (GL_st (ch:=[]) (b:=b1) (off:=0) (v:=.agg #[e0_8,e1_8,e2_8,e3_8,e4_8]) (j:=4) ([(b3,.cells #[.string (bk (C4 (((elX 24 I4 (H8 l)).2).1.length+1) ((elX 24 I4 (H8 l)).2)).1),.int .i64 ((C4 (((elX 24 I4 (H8 l)).2).1.length+1) ((elX 24 I4 (H8 l)).2)).2)] 45 (0,0))]::[(b7,.map (G3 aM) (if V8 ([(aJ,.string aA,0)]) eB then 1 else 1+1))]::gv8::[(b5,.cells #[e0_8,e1_8,e2_8,e3_8,e4_8] 26 (0,0))]::[(b1,.cells #[e0_8,e1_8,e2_8,e3_8,e4_8] 26 (0,0))]::H) (h1:=h18) (hoff:=Nat.le_of_ble_eq_true rfl) (hfz:=(fun _ _=>thaw0)) (k:=C0 (E':=[⟨2,[],pt b1⟩,⟨3,[],.int .i64 0⟩]) [0] [2,3] (k:=A0 (B4 ?_))))))))
 refine P1 3 [4,2] ([(b1,.cells #[e0_8,e1_8,e2_8,e3_8,e4_8] 26 (0,0))]::gv8::H) (F3 (H':=([(b1,.cells #[e0_8,e1_8,e2_8,e3_8,e4_8] 26 (0,0))]::gv8::H)) (fun w h=>Sat.flat h (List.Perm.refl _)) (J7 [.cell 2 26,.tmp 3] [.agg #[e0_8,e1_8,e2_8,e3_8,e4_8],.int .i64 0] rfl (.cons (.aq 0 0 rfl) (.cons .tq (.nil))) rfl ⟨_,?_,fun w h=>(h.pk 1 [1])⟩))
 rw [hP]; exact ⟨_,_,hJ8,rfl,rfl⟩
 have hq0:(H8 l).2≠0:=by have h9:=hc6; show (D4 [60] (C4 ((D6 l).length+1) (D6 l,0))).2≠0; simpa using h9
 refine A7 (A0 (A1 (A2 (A3 (j:=1) [0] (k:=M1 0 [1] (D9 (vs:=[pt b3]) Tryz.func16 (xaround_ b3 (D4 [60] (C4 (((D6 l),0).1.length+1) ((D6 l),0))) (by first | (show (D6 l).length≤_; omega) | (show (H8 l).1.length≤_; omega) | omega | (have h9:=el_le 24 I4 (H8 l); omega)) _ _ hX) ?_))))))
 rintro _ _ rfl
 refine A5 [] [2,4,5] (k:=A0 (A1 (A1 (A2 (A3 (j:=3) [0,0,0] (k:=C1 0 0 rfl rfl (A5 [0] [2,4,5,53] (k:=A0 ?_))))))))
 refine B1 (b:=!((bk (C4 ((D4 [60] (C4 (((D6 l),0).1.length+1) ((D6 l),0))).1.length+1) (D4 [60] (C4 (((D6 l),0).1.length+1) ((D6 l),0)))).1).toList==eB.toList)) kr (fun hc12=>?_) (fun hc12=>?_)
 have hs:(C4 ((J3,(H8 l)).2.1.length+1) (J3,(H8 l)).2).1≠[]:=by have h9:=hc12; exact (eqBf _ _).1 (by simpa only [Bool.not_eq_true'] using h9)
 refine A2 (A3 (j:=1) [0] (k:=D9 Tryz.func19 (O1 b3 (C4 ((D4 [60] (C4 (((D6 l),0).1.length+1) ((D6 l),0))).1.length+1) (D4 [60] (C4 (((D6 l),0).1.length+1) ((D6 l),0)))) 70 _ _) ?_))
 rintro _ _ rfl
 refine A5 [] [2,4,5] (k:=A0 (A1 (A1 (A2 (A3 (j:=3) [0,0,0] (k:=C1 0 1 rfl rfl (A5 [0] [2,4,5,60] (k:=A0 ?_))))))))
 refine B1 (b:=((G0 70 (C4 ((D4 [60] (C4 (((D6 l),0).1.length+1) ((D6 l),0))).1.length+1) (D4 [60] (C4 (((D6 l),0).1.length+1) ((D6 l),0))))).2) != 0) kr (fun hc13=>?_) (fun hc13=>?_)
 have he:(G0 70 (C4 ((J3,(H8 l)).2.1.length+1) (J3,(H8 l)).2)).2≠0:=bne_iff_ne.1 hc13
 have hP:=(par_4 hlen hv hq0).trans (parN_1 (n:=(J3,(H8 l))) hs he)
 refine A1 (H4 ([(b3,.cells #[.string (bk (G0 70 (C4 ((D4 [60] (C4 (((D6 l),0).1.length+1) ((D6 l),0))).1.length+1) (D4 [60] (C4 (((D6 l),0).1.length+1) ((D6 l),0))))).1),.int .i64 ((G0 70 (C4 ((D4 [60] (C4 (((D6 l),0).1.length+1) ((D6 l),0))).1.length+1) (D4 [60] (C4 (((D6 l),0).1.length+1) ((D6 l),0))))).2)] 45 (0,0))]::[(b5,.cells zN.toArray 26 (0,0))]::[(b1,.cells zN.toArray 26 (0,0))]::H) kr (G1 (fuel:=5) [(0,0),(1,0)] (fun w h=>h) (k:=J4 (ad:=⟨b3,0,none⟩) 2 (hL:=(fun w h=>h)) (k:=G1 (fuel:=3) [(3,0)] (fun w h=>h) (k:=F6 4 kr (fun w h=>h) (C1 0 1 rfl rfl (G6 kr rfl)) (C6 5 (k:=D0 2 0 (.agg zN.toArray) rfl (A9 kr (fun w h=>h.pkT 0 []) ?_))))))))
 refine G1 (fuel:=0) [(6,0)] (fun w h=>h.pkT 0 []) (k:=D8 (E':=[⟨2,[],pt b1⟩,⟨3,[],.int .i64 ((G0 70 (C4 ((D4 [60] (C4 (((D6 l),0).1.length+1) ((D6 l),0))).1.length+1) (D4 [60] (C4 (((D6 l),0).1.length+1) ((D6 l),0))))).2)⟩]) [2,3] (k:=A0 (B4 (A4 (P1 2 [2] ([(b1,.cells zN.toArray 26 (0,0))]::H) (F3 (H':=([(b1,.cells zN.toArray 26 (0,0))]::[]::H)) (fun w h=>Sat.flat h (List.Perm.refl _)) (J7 [.cell 2 26,.tmp 3] [.agg zN.toArray,.int .i64 ((G0 70 (C4 ((D4 [60] (C4 (((D6 l),0).1.length+1) ((D6 l),0))).1.length+1) (D4 [60] (C4 (((D6 l),0).1.length+1) ((D6 l),0))))).2)] rfl (.cons (.aq 0 0 rfl) (.cons .tq (.nil))) rfl ⟨_,?_,fun w h=>(h.pk 1 [1])⟩)))))))
 rw [hP]; exact ⟨_,_,XRep.nul,rfl,rfl⟩
 have he:(G0 70 (C4 ((J3,(H8 l)).2.1.length+1) (J3,(H8 l)).2)).2=0:=bne_eq_false_iff_eq.1 hc13
 have hP:=(par_4 hlen hv hq0).trans (parN_2 (n:=(J3,(H8 l))) hs he)
 refine A7 (A0 (A1 (A2 (M9 1 0 5 rfl (D0 2 0 (.agg zN.toArray) rfl (C0 (E':=[⟨2,[],pt b1⟩,⟨3,[],.int .i64 0⟩]) [0] [2,3] (k:=A0 (B4 ?_))))))))
 refine P1 2 [2] ([(b1,.cells zN.toArray 26 (0,0))]::H) (F3 (H':=([(b1,.cells zN.toArray 26 (0,0))]::[]::H)) (fun w h=>Sat.flat h (List.Perm.refl _)) (J7 [.cell 2 26,.tmp 3] [.agg zN.toArray,.int .i64 0] rfl (.cons (.aq 0 0 rfl) (.cons .tq (.nil))) rfl ⟨_,?_,fun w h=>(h.pk 1 [1])⟩))
 rw [hP]; exact ⟨_,_,XRep.nul,rfl,rfl⟩
 have hs:(C4 ((J3,(H8 l)).2.1.length+1) (J3,(H8 l)).2).1=[]:=by have h9:=hc12; exact (eqB _ _).1 (by simpa only [Bool.not_eq_false'] using h9)
 refine A7 (A0 (A1 (A1 (A2 (A3 (j:=3) [0,0,0] (k:=C1 0 1 rfl rfl (A5 [0] [2,4,5,60] (k:=A0 ?_))))))))
 refine B1 (b:=((C4 ((D4 [60] (C4 (((D6 l),0).1.length+1) ((D6 l),0))).1.length+1) (D4 [60] (C4 (((D6 l),0).1.length+1) ((D6 l),0)))).2) != 0) kr (fun hc14=>?_) (fun hc14=>?_)
 have he:(C4 ((J3,(H8 l)).2.1.length+1) (J3,(H8 l)).2).2≠0:=bne_iff_ne.1 hc14
 have hP:=(par_4 hlen hv hq0).trans (parN_3 (n:=(J3,(H8 l))) hs he)
 refine A1 (H4 ([(b3,.cells #[.string (bk (C4 ((D4 [60] (C4 (((D6 l),0).1.length+1) ((D6 l),0))).1.length+1) (D4 [60] (C4 (((D6 l),0).1.length+1) ((D6 l),0)))).1),.int .i64 ((C4 ((D4 [60] (C4 (((D6 l),0).1.length+1) ((D6 l),0))).1.length+1) (D4 [60] (C4 (((D6 l),0).1.length+1) ((D6 l),0)))).2)] 45 (0,0))]::[(b5,.cells zN.toArray 26 (0,0))]::[(b1,.cells zN.toArray 26 (0,0))]::H) kr (G1 (fuel:=5) [(0,0),(1,0)] (fun w h=>h) (k:=J4 (ad:=⟨b3,0,none⟩) 2 (hL:=(fun w h=>h)) (k:=G1 (fuel:=3) [(3,0)] (fun w h=>h) (k:=F6 4 kr (fun w h=>h) (C1 0 1 rfl rfl (G6 kr rfl)) (C6 5 (k:=D0 2 0 (.agg zN.toArray) rfl (A9 kr (fun w h=>h.pkT 0 []) ?_))))))))
 refine G1 (fuel:=0) [(6,0)] (fun w h=>h.pkT 0 []) (k:=D8 (E':=[⟨2,[],pt b1⟩,⟨3,[],.int .i64 ((C4 ((D4 [60] (C4 (((D6 l),0).1.length+1) ((D6 l),0))).1.length+1) (D4 [60] (C4 (((D6 l),0).1.length+1) ((D6 l),0)))).2)⟩]) [2,3] (k:=A0 (B4 (A4 (P1 2 [2] ([(b1,.cells zN.toArray 26 (0,0))]::H) (F3 (H':=([(b1,.cells zN.toArray 26 (0,0))]::[]::H)) (fun w h=>Sat.flat h (List.Perm.refl _)) (J7 [.cell 2 26,.tmp 3] [.agg zN.toArray,.int .i64 ((C4 ((D4 [60] (C4 (((D6 l),0).1.length+1) ((D6 l),0))).1.length+1) (D4 [60] (C4 (((D6 l),0).1.length+1) ((D6 l),0)))).2)] rfl (.cons (.aq 0 0 rfl) (.cons .tq (.nil))) rfl ⟨_,?_,fun w h=>(h.pk 1 [1])⟩)))))))
 rw [hP]; exact ⟨_,_,XRep.nul,rfl,rfl⟩
 have he:(C4 ((J3,(H8 l)).2.1.length+1) (J3,(H8 l)).2).2=0:=bne_eq_false_iff_eq.1 hc14
 have hP:=(par_4 hlen hv hq0).trans (parN_4 (n:=(J3,(H8 l))) hs he)
 refine A7 (A0 (A1 (A2 (M9 1 0 5 rfl (D0 2 0 (.agg zN.toArray) rfl (C0 (E':=[⟨2,[],pt b1⟩,⟨3,[],.int .i64 0⟩]) [0] [2,3] (k:=A0 (B4 ?_))))))))
 refine P1 2 [2] ([(b1,.cells zN.toArray 26 (0,0))]::H) (F3 (H':=([(b1,.cells zN.toArray 26 (0,0))]::[]::H)) (fun w h=>Sat.flat h (List.Perm.refl _)) (J7 [.cell 2 26,.tmp 3] [.agg zN.toArray,.int .i64 0] rfl (.cons (.aq 0 0 rfl) (.cons .tq (.nil))) rfl ⟨_,?_,fun w h=>(h.pk 1 [1])⟩))
 rw [hP]; exact ⟨_,_,XRep.nul,rfl,rfl⟩
end Go.Proofs.YtcgmnagcgkhogabGreatDoor
namespace Go.Proofs.YtcgmnagcgkhogabGreatDoor
open Go.Sw Go.Sha Go.Esc
theorem html_ (s:ByteArray) (hs:s.size≤400000) (W0:World) (H:List Grp):Tri Tryz.prog 57 #[.string s] W0 H (fun v H'=>v=.string ⟨(A0g s.data.toList).toArray⟩∧H'=H):=by
 have hps:ByteArray.size ⟨(F9 s.data.toList).toArray⟩≤2000000:=by
  have:=plain_len s.data.toList
  rw [show s.data.toList.length=s.size from Array.length_toList] at this
  show (F9 s.data.toList).toArray.size≤_
  rw [List.size_toArray]; omega
 refine D5 8 Tryz.func57 ?_
 refine A1 (C3 (E':=[⟨0,[],.string s⟩]) [0] [0] (k:=A0 (A1 (A2 (H0 9 10 [.string (mB #[38]),.string aC,.string (mB #[60]),.string aE,.string (mB #[62]),.string aD,.string (mB #[34]),.string aB,.string (mB #[39]),.string aG] (fun b1=>D9 Tryz.func73 (newRep_ b1 _ _) ?_))))))
 rintro _ _ ⟨rb,ra,rcap,rg,rfl,hOwn,rfl⟩
 have hRT:Rd (inG rg) ra htmlT:=by
  obtain ⟨a2,c2,e,_,h⟩:=hOwn.shape
  injection e with e1; subst e1; exact h
 refine A3 (j:=3) [0] (k:=H6 Tryz.func15 (plain_ s (by omega) _ _) (D9 Tryz.func74 (repReplace_ rb ra rcap rg hRT (bk (F9 s.data.toList)) (bk (A0g s.data.toList)) (fun c aT cT gT a38 c38 g38 a60 c60 g60 a62 c62 g62 a34 c34 g34 a39 c39 g39 W1 H1 hT hR=>tabReplace_ c c38 c60 c62 c34 c39 aT cT gT a38 a60 a62 a34 a39 g38 g60 g62 g34 g39 (bk (F9 s.data.toList)) hps hT hR W1 H1) _ _) ?_))
 rintro _ _ ⟨rfl,rfl⟩
 refine A5 [0] [2] (k:=A0 (B4 (F8 1 [] (B7 [.tmp 2] [.string (bk (A0g s.data.toList))] (k:=?_)))))
 exact ⟨rfl,rfl⟩
end Go.Proofs.YtcgmnagcgkhogabGreatDoor
namespace Go.Xml
open Go.Lib Go.Esc Go.Json Go.Sw
abbrev xvC (x:XN) (an:Option Addr) (cn:Nat) (al:Option Addr) (cl:Nat):List Value:=[.string (bk x.space),.string (bk x.name),.slice an x.attrs.length cn,.slice al x.kids.length cl,.string (bk x.text)]
theorem XRd.shape {S:Nat→Obj→Prop} {x:XN} {c:List Value} (h:XRd S x c):∃ (an al:Option Addr) (cn cl:Nat) (cs:List Value),c=xvC x an cn al cl∧Rd S an (xaV x.attrs)∧Rd S al cs∧XRdL S x.kids cs∧x.attrs.length≤cn:=by
 cases h with
 | mk h0 h1 h2 h3=>exact ⟨_,_,_,_,_,rfl,h1,h2,h3,h0⟩
theorem XRdL.get {S:Nat→Obj→Prop} {l:List XN} {cs:List Value} {k:Nat} (h:k<l.length) (hc:XRdL S l cs):∃ (x:XN) (an:Option Addr) (cn:Nat) (al:Option Addr) (cl:Nat) (cs2:List Value),x=l[k]∧(cs.drop (k * 5)).take 5=xvC x an cn al cl∧Rd S an (xaV x.attrs)∧Rd S al cs2∧XRdL S x.kids cs2∧x.attrs.length≤cn:=by
 obtain ⟨an,al,cn,cl,cs2,h1,h2,h3,h4,h5⟩:=(XRdL.at h hc).shape
 exact ⟨l[k],an,cn,al,cl,cs2,rfl,h1,h2,h3,h4,h5⟩
theorem XRd.of {S:Nat→Obj→Prop} {x:XN} {an al:Option Addr} {cn cl:Nat} {cs:List Value} (h0:x.attrs.length≤cn) (h1:Rd S an (xaV x.attrs)) (h2:Rd S al cs) (h3:XRdL S x.kids cs):XRd S x (xvC x an cn al cl):=by
 cases x; exact .mk h0 h1 h2 h3
theorem elt5 {cs l:List Value} {q:Nat} (h:(cs.drop q).take 5=l):∀ m (hm:m<l.length),cs[q+m]? = some l[m]:=by
 intro m hm
 subst h
 have h4:m<5:=by rw [List.length_take] at hm; omega
 rw [← List.getElem?_eq_getElem hm,List.getElem?_take_of_lt h4,List.getElem?_drop]
theorem XRdL.snoc {S:Nat→Obj→Prop}:∀ {l:List XN} {cs:List Value} {v:XN} {c:List Value},XRdL S l cs→XRd S v c→XRdL S (l++[v]) (cs++c)
  | [],_,v,c,h,hv=>by
    cases h
    have:=XRdL.cons hv .nil
    rw [List.append_nil] at this
    exact this
  | x::l,_,v,c,h,hv=>by
    cases h with
    | cons h1 h2=>rw [List.cons_append,List.append_assoc]; exact .cons h1 (XRdL.snoc h2 hv)
mutual
theorem XRd.mono {S S':Nat→Obj→Prop} (hs:∀ b o,S b o→S' b o):∀ {v:XN} {c:List Value},XRd S v c→XRd S' v c
 | .mk _ _ _ _ _,_,.mk h0 h1 h2 h3=>.mk h0 (rd_mono h1 hs) (rd_mono h2 hs) (XRdL.mono hs h3)
theorem XRdL.mono {S S':Nat→Obj→Prop} (hs:∀ b o,S b o→S' b o):∀ {l:List XN} {cs:List Value},XRdL S l cs→XRdL S' l cs
 | [],_,.nil=>.nil
 | _::_,_,.cons h1 h2=>.cons (XRd.mono hs h1) (XRdL.mono hs h2)
end
def wtA:List XA→Nat
 | []=>0
 | a::r=>a.space.length+a.name.length+a.value.length+1+wtA r
mutual
/-- all that an element has -/
def wtX:XN→Nat
 | .mk s n ats l t=>1+s.length+n.length+t.length+wtA ats+wtXL l
def wtXL:List XN→Nat
 | []=>0
 | v::l=>wtX v+wtXL l
end
theorem wtX_eq (s n:List UInt8) (ats:List XA) (l:List XN) (t:List UInt8):wtX (.mk s n ats l t)=1+s.length+n.length+t.length+wtA ats+wtXL l:=by simp only [wtX]
theorem P8 (v:XN) (l:List XN):wtXL (v::l)=wtX v+wtXL l:=by simp only [wtXL]
theorem wtXL_nil:wtXL []=0:=by simp only [wtXL]
theorem wtX_pos (v:XN):0<wtX v:=by cases v; rw [wtX_eq]; omega
theorem wtA_at:∀ {l:List XA} {i:Nat} (h:i<l.length),l[i].space.length+l[i].name.length+l[i].value.length+1≤wtA l
  | [],_,h=>absurd h (Nat.not_lt_zero _)
  | v::l,0,_=>by show v.space.length+v.name.length+v.value.length+1≤v.space.length+v.name.length+v.value.length+1+wtA l; omega
  | v::l,i+1,h=>by
    have hi:i<l.length:=by simpa using h
    have:=wtA_at hi
    show l[i].space.length+l[i].name.length+l[i].value.length+1≤v.space.length+v.name.length+v.value.length+1+wtA l; omega
theorem wtA_len:∀ l:List XA,l.length≤wtA l
 | []=>Nat.zero_le _
 | v::l=>by have:=wtA_len l; show l.length+1≤v.space.length+v.name.length+v.value.length+1+wtA l; omega
theorem wtXL_at:∀ {l:List XN} {i:Nat} (h:i<l.length),wtX l[i]≤wtXL l
  | [],_,h=>absurd h (Nat.not_lt_zero _)
  | v::l,0,_=>by rw [P8]; show wtX v≤_; omega
  | v::l,i+1,h=>by
    have hi:i<l.length:=by simpa using h
    have:=wtXL_at hi
    rw [P8]; show wtX l[i]≤_; omega
theorem wtXL_len:∀ l:List XN,l.length≤wtXL l
 | []=>Nat.zero_le _
 | v::l=>by have:=wtXL_len l; have:=wtX_pos v; rw [P8,List.length_cons]; omega
theorem wtXL_take:∀ (l:List XN) (i:Nat),wtXL (l.take i)≤wtXL l
 | [],i=>by rw [List.take_nil]; exact Nat.le_refl _
 | v::l,0=>by rw [List.take_zero,wtXL_nil]; exact Nat.zero_le _
 | v::l,i+1=>by rw [List.take_succ_cons,P8,P8]; have:=wtXL_take l i; omega
theorem W5 (x:XN):x.space.length+x.name.length+x.text.length+x.attrs.length+x.kids.length+1≤wtX x∧wtA x.attrs+wtXL x.kids+1≤wtX x:=by
  cases x with
  | mk s n ats l t =>
    have h1:=wtA_len ats
    have h2:=wtXL_len l
    rw [wtX_eq]
    exact ⟨by show s.length+n.length+t.length+ats.length+l.length+1≤_; omega,by show wtA ats+wtXL l+1≤_; omega⟩
theorem wtX_sum (x:XN):wtX x=1+x.space.length+x.name.length+x.text.length+wtA x.attrs+wtXL x.kids:=by
 cases x; exact wtX_eq _ _ _ _ _
theorem wtXL_step:∀ {l:List XN} {i:Nat} (h:i<l.length),wtXL (l.take i)+wtX l[i]≤wtXL l
  | [],_,h=>absurd h (Nat.not_lt_zero _)
  | v::l,0,_=>by rw [List.take_zero,wtXL_nil,P8]; show 0+wtX v≤_; omega
  | v::l,i+1,h=>by
    have hi:i<l.length:=by simpa using h
    have:=wtXL_step hi
    rw [List.take_succ_cons,P8,P8]; show _+wtX l[i]≤_; omega
theorem wtX_kid {x:XN} {i:Nat} (h:i<x.kids.length):wtX x.kids[i]<wtX x:=by
 have h1:=wtXL_at h
 have h2:=(W5 x).2
 omega
def kidX (sp nm:List UInt8) (k:XN):Bool:=k.name != []&&k.space==sp&&k.name==nm
def allX (x:XN) (sp nm:List UInt8):List XN:=x.kids.filter (kidX sp nm)
theorem A0h {l:List XN} {f:XN→Bool} {k:Nat} (h:k<l.length):(l.take (k+1)).filter f=(l.take k).filter f++(if f l[k] then [l[k]] else []):=by
 rw [List.take_succ_eq_append_getElem h,List.filter_append]
 congr 1
 rw [List.filter_cons]; rfl
def vlF (nm:List UInt8) (a:XA):Bool:=a.space==[]&&a.name==nm
def vlX (ats:List XA) (nm:List UInt8):List UInt8:=((ats.find? (vlF nm)).map (·.value)).getD []
theorem vl_step {ats:List XA} {nm:List UInt8} {k:Nat} (h:k<ats.length):vlX (ats.drop k) nm=if vlF nm ats[k] then ats[k].value else vlX (ats.drop (k+1)) nm:=by
 rw [drop_cons h]
 unfold vlX
 rw [List.find?_cons]
 cases vlF nm ats[k] <;> rfl
theorem bkB (a b:List UInt8):((bk a).toList==(bk b).toList)=(a==b):=by
 by_cases e:a=b
 subst e; rw [(eqB _ _).2 rfl]; simp
 rw [(eqBf (bk a) (bk b)).2 e,beq_eq_false_iff_ne.2 e]
mutual
def innX:XN→List UInt8
 | .mk _ n _ l t=>if n=[] then t else innL l
def innL:List XN→List UInt8
 | []=>[]
 | v::l=>innX v++innL l
end
theorem innL_nil:innL []=[]:=by simp only [innL]
theorem innL_cons (v:XN) (l:List XN):innL (v::l)=innX v++innL l:=by simp only [innL]
theorem innL_app:∀ (l m:List XN),innL (l++m)=innL l++innL m
 | [],m=>by rw [innL_nil]; rfl
 | v::l,m=>by rw [List.cons_append,innL_cons,innL_cons,innL_app l m,List.append_assoc]
theorem innX_text {x:XN} (h:x.name=[]):innX x=x.text:=by
 cases x with
 | mk s n ats l t=>cases h; simp only [innX]; rfl
theorem innX_el {x:XN} (h:x.name≠[]):innX x=innL x.kids:=by
 cases x with
 | mk s n ats l t=>simp only [innX]; exact if_neg h
theorem innL_take {l:List XN} {k:Nat} (h:k<l.length):innL (l.take (k+1))=innL (l.take k)++innX l[k]:=by
 rw [List.take_succ_eq_append_getElem h,innL_app,innL_cons,innL_nil,List.append_nil]
mutual
theorem inn_len:∀ x:XN,(innX x).length≤wtX x
  | .mk s n ats l t=>by
    have:=innL_len l
    rw [wtX_eq]
    simp only [innX]
    split <;> omega
theorem innL_len:∀ l:List XN,(innL l).length≤wtXL l
  | []=>by rw [innL_nil]; exact Nat.zero_le _
  | v::l=>by
    have h1:=inn_len v
    have h2:=innL_len l
    rw [innL_cons,P8,List.length_append]; omega
end
end Go.Xml
namespace Go.Xml
open Go.Esc Go.Json Go.Sw
def plX (s:List UInt8):Bool:=J0 s&&(F9 s==s)&&!(idxL [13] s).isSome
def nmOk (n:List UInt8):Bool:=!(n==[])&&(nmX n==n.length)
def sameN (x y:XA):Bool:=x.name==y.name
def atF (a:XA):Bool:=!(!(a.space==[])||a.name==[]||!(nmX a.name==a.name.length)||a.name==xmlns||!plX a.value||!plX a.name)
def attrsR:List XA→List XA→Bool
 | _,[]=>true
 | seen,a::r=>atF a&&!(seen.any (sameN a))&&attrsR (seen++[a]) r
def kidF (f:XN→Bool) (last:Bool) (y:XN):Bool:=!((y.name==[]&&(last||y.text==[]||!plX y.text||!(y.space==[])||decide (0<y.attrs.length+y.kids.length)))||(!(y.name==[])&&!f y))
def kidsR (f:XN→Bool):Bool→List XN→Bool
 | _,[]=>true
 | last,y::l=>kidF f last y&&kidsR f (y.name==[]) l
def rtX:Nat→XN→Bool
 | 0,_=>false
 | m+1,x=>nmOk x.name&&x.text==[]&&plX x.space&&plX x.name&&attrsR [] x.attrs&&kidsR (rtX m) false x.kids
theorem rtX_0 (x:XN):rtX 0 x=false:=by unfold rtX; rfl
theorem rtX_s (m:Nat) (x:XN):rtX (m+1) x=(nmOk x.name&&x.text==[]&&plX x.space&&plX x.name&&attrsR [] x.attrs&&kidsR (rtX m) false x.kids):=by rw [rtX]
theorem attrsR_step {l:List XA} {k:Nat} (h:k<l.length):attrsR (l.take k) (l.drop k)=(atF l[k]&&!((l.take k).any (sameN l[k]))&&attrsR (l.take (k+1)) (l.drop (k+1))):=by
 rw [drop_cons h,attrsR,List.take_succ_eq_append_getElem h]
theorem kidsR_step {f:XN→Bool} {b:Bool} {l:List XN} {k:Nat} (h:k<l.length):kidsR f b (l.drop k)=(kidF f b l[k]&&kidsR f (l[k].name==[]) (l.drop (k+1))):=by
 rw [drop_cons h,kidsR]
theorem bkN (a:List UInt8):((bk a).toList==eB.toList)=(a==[]):=bkB a []
def quoX (s:List UInt8):List UInt8:=34::(C7 F1 (A0g s)++[34])
def attP (a:XA):List UInt8:=32::(a.name++61::quoX a.value)
def attsP:List XA→List UInt8
 | []=>[]
 | a::r=>attP a++attsP r
def spcP (s sp:List UInt8):List UInt8:=if s=sp then [] else [32,120,109,108,110,115,61]++quoX s
theorem spcP_ne {s sp:List UInt8} (h:s≠sp):spcP s sp=[32,120,109,108,110,115,61]++quoX s:=if_neg h
theorem spcP_eq {s sp:List UInt8} (h:s=sp):spcP s sp=[]:=if_pos h
mutual
def prX (sp:List UInt8):XN→List UInt8
 | .mk s n ats l t=>if n=[] then A0g t else 60::n++spcP s sp++attsP ats++(if l.length=0 then [47,62] else 62::(prL s l++([60,47]++n++[62])))
def prL (sp:List UInt8):List XN→List UInt8
 | []=>[]
 | v::l=>prX sp v++prL sp l
end
theorem prL_nil (sp:List UInt8):prL sp []=[]:=by simp only [prL]
theorem prL_cons (sp:List UInt8) (v:XN) (l:List XN):prL sp (v::l)=prX sp v++prL sp l:=by simp only [prL]
theorem prL_app (sp:List UInt8):∀ (l m:List XN),prL sp (l++m)=prL sp l++prL sp m
 | [],m=>by rw [prL_nil]; rfl
 | v::l,m=>by rw [List.cons_append,prL_cons,prL_cons,prL_app sp l m,List.append_assoc]
theorem prL_take {sp:List UInt8} {l:List XN} {k:Nat} (h:k<l.length):prL sp (l.take (k+1))=prL sp (l.take k)++prX sp l[k]:=by
 rw [List.take_succ_eq_append_getElem h,prL_app,prL_cons,prL_nil,List.append_nil]
theorem attsP_app:∀ (l m:List XA),attsP (l++m)=attsP l++attsP m
 | [],m=>rfl
 | v::l,m=>by rw [List.cons_append,attsP,attsP,attsP_app l m,List.append_assoc]
theorem attsP_take {l:List XA} {k:Nat} (h:k<l.length):attsP (l.take (k+1))=attsP (l.take k)++attP l[k]:=by
 rw [List.take_succ_eq_append_getElem h,attsP_app]; show _++(attP l[k]++[])=_; rw [List.append_nil]
theorem prX_text {sp:List UInt8} {x:XN} (h:x.name=[]):prX sp x=A0g x.text:=by
 cases x with
 | mk s n ats l t=>cases h; simp only [prX]; rfl
def prH (sp:List UInt8) (x:XN):List UInt8:=60::x.name++spcP x.space sp
theorem prX_none {sp:List UInt8} {x:XN} (h:x.name≠[]) (hk:x.kids.length=0):prX sp x=prH sp x++attsP x.attrs++[47,62]:=by
 cases x with
 | mk s n ats l t=>simp only [prX]; exact (if_neg h).trans (by rw [if_pos (show l.length=0 from hk)]; rfl)
theorem prX_kids {sp:List UInt8} {x:XN} (h:x.name≠[]) (hk:¬ x.kids.length=0):prX sp x=prH sp x++attsP x.attrs++62::(prL x.space x.kids++([60,47]++x.name++[62])):=by
 cases x with
 | mk s n ats l t=>simp only [prX]; exact (if_neg h).trans (by rw [if_neg (show ¬ l.length=0 from hk)]; rfl)
theorem quoR_len6 (l:List UInt8):(C7 F1 l).length≤6 * l.length:=by
  induction l with
  | nil=>exact Nat.le_refl _
  | cons b l ih =>
    rw [Z0,List.length_append,List.length_cons]
    have:((F1 b).getD [b]).length≤6:=by
      unfold F1
      split
      show 5≤6; decide
      split
      show 4≤6; decide
      show 1≤6; decide
    omega
theorem quoX_len (s:List UInt8):(quoX s).length≤144 * s.length+2:=by
 have h1:=html_len s
 have h2:=quoR_len6 (A0g s)
 unfold quoX
 rw [List.length_cons,List.length_append,List.length_cons,List.length_nil]; omega
theorem attP_len (a:XA):(attP a).length≤a.name.length+144 * a.value.length+4:=by
 have h:=quoX_len a.value
 unfold attP
 rw [List.length_cons,List.length_append,List.length_cons]; omega
theorem attsP_len:∀ l:List XA,(attsP l).length≤150 * wtA l
  | []=>Nat.le_refl _
  | a::r=>by
    have h1:=attP_len a
    have h2:=attsP_len r
    show (attP a++attsP r).length≤150 * (a.space.length+a.name.length+a.value.length+1+wtA r)
    rw [List.length_append]; omega
theorem spcP_len (s sp:List UInt8):(spcP s sp).length≤144 * s.length+9:=by
 have h:=quoX_len s
 unfold spcP
 split
 exact Nat.zero_le _
 rw [List.length_append]; simp only [List.length_cons,List.length_nil]; omega
mutual
theorem prX_len:∀ (sp:List UInt8) (x:XN),(prX sp x).length≤150 * wtX x
  | sp,.mk s n ats l t=>by
    have h1:=html_len t
    have h2:=spcP_len s sp
    have h3:=attsP_len ats
    have h4:=prL_len s l
    rw [wtX_eq]
    simp only [prX]
    split
    omega
    split <;> (simp only [List.length_append,List.length_cons,List.length_nil]; omega)
theorem prL_len:∀ (sp:List UInt8) (l:List XN),(prL sp l).length≤150 * wtXL l
  | sp,[]=>by rw [prL_nil]; exact Nat.zero_le _
  | sp,v::l=>by
    have h1:=prX_len sp v
    have h2:=prL_len sp l
    rw [prL_cons,P8,List.length_append]; omega
end
theorem wtA_take:∀ (l:List XA) (i:Nat),wtA (l.take i)≤wtA l
  | [],i=>by rw [List.take_nil]; exact Nat.le_refl _
  | v::l,0=>by rw [List.take_zero]; exact Nat.zero_le _
  | v::l,i+1=>by
    rw [List.take_succ_cons]
    have:=wtA_take l i
    show v.space.length+v.name.length+v.value.length+1+wtA (l.take i)≤v.space.length+v.name.length+v.value.length+1+wtA l
    omega
end Go.Xml
namespace Go.Proofs.YtcgmnagcgkhogabGreatDoor
open Go.Sw Go.Sha Go.Esc Go.RowKit Go.Json Go.Xml
theorem xplain_ (l:List UInt8) (hl:l.length≤1000000) (W0:World) (H:List Grp) (hX:T9 W0):Tri Tryz.prog 54 #[.string (bk l)] W0 H (fun v H'=>v=.bool (plX l)∧H'=H):=by
 have hW:V6 W0:=hX.base
 refine D5 16 Tryz.func54 ?_
 refine A1 (C3 (E':=[⟨0,[],.string (bk l)⟩]) [0] [0] (k:=A0 (A1 (A2 (A3 (j:=1) [0] (k:=H6 Tryz.func14 (valid_ (bk l) (by rw [C9]; omega) _ _ hW) (A3 (j:=4) [0,0] (k:=P7 [(5,true)] Tryz.func15 (fun hc=>plain_ (bk l) (by rw [C9]; omega) _ _) ?_))))))))
 refine A3 (j:=10) [0,0,6,0,0] (k:=P7 [(11,true)] Tryz.func68 (fun hc=>hasW [13] l (by omega) _ _ hX) (A5 [0,6,0] [2] (k:=A0 (B4 (B7 [.tmp 2] [.bool (((J0 l)&&((bk (F9 l)).toList==(bk l).toList))&&(!((idxL [13] l).isSome)))] (k:=?_))))))
 exact ⟨by unfold plX; rw [bkB]; try rfl,rfl⟩
theorem xquoted_ (l:List UInt8) (hl:l.length≤80000) (W0:World) (H:List Grp):Tri Tryz.prog 58 #[.string (bk l)] W0 H (fun v H'=>v=.string (bk (quoX l))∧H'=H):=by
 have hps:(bk (A0g l)).size≤2000000:=by have:=html_len l; rw [C9]; omega
 have hqz:(bk (C7 F1 (A0g l))).size≤12000000:=by have:=html_len l; have:=quoR_len6 (A0g l); rw [C9]; omega
 have hq1:(mB #[34]).size=1:=rfl
 refine D5 10 Tryz.func58 ?_
 refine A1 (C3 (E':=[⟨0,[],.string (bk l)⟩]) [0] [0] (k:=A0 (A1 (A2 (H0 9 4 [.string (mB #[10]),.string aK,.string (mB #[9]),.string aL] (fun b1=>D9 Tryz.func73 (newRepQ_ b1 _ _) ?_))))))
 rintro _ _ ⟨rb,ra,rcap,rg,rfl,hOwn,rfl⟩
 have hRT:Rd (inG rg) ra quoT:=by
  obtain ⟨a2,c2,e,_,h⟩:=hOwn.shape
  injection e with e1; subst e1; exact h
 refine A3 (j:=3) [0] (k:=H6 Tryz.func57 (html_ (bk l) (by rw [C9]; omega) _ _) (D9 Tryz.func74 (repReplaceQ_ rb ra rcap rg hRT (bk (A0g l)) (bk (C7 F1 (A0g l))) (fun c aT cT gT a10 c10 g10 a9 c9 g9 W1 H1 hT hR=>tabReplaceQ_ c c10 c9 aT cT gT a10 a9 g10 g9 (bk (A0g l)) hps hT hR W1 H1) _ _) ?_))
 rintro _ _ ⟨rfl,rfl⟩
 refine V4 (mB #[34]) (bk (C7 F1 (A0g l))) (by intro _; (try rw [I8]); omega) (V4 ((mB #[34])++(bk (C7 F1 (A0g l)))) (mB #[34]) (by intro _; (try rw [I8]); omega) (A5 [0] [2] (k:=A0 (B4 (F8 1 [] (B7 [.tmp 2] [.string (((mB #[34])++(bk (C7 F1 (A0g l))))++(mB #[34]))] (k:=?_)))))))
 exact ⟨congrArg Value.string (ByteArray.ext (Array.ext' (by unfold quoX; simp only [L8]; rfl))),rfl⟩
end Go.Proofs.YtcgmnagcgkhogabGreatDoor
namespace Go.Proofs.YtcgmnagcgkhogabGreatDoor
open Go.Sw Go.Sha Go.Esc Go.RowKit Go.Json Go.Xml
theorem xall_ (x:XN) (an:Option Addr) (cn:Nat) (al:Option Addr) (cl:Nat) (cs:List Value) (S:Nat→Obj→Prop) (_:Rd S an (xaV x.attrs)) (hrl:Rd S al cs) (hrc:XRdL S x.kids cs) (sp nm:List UInt8) (hw:wtX x≤100000000) (W0:World) (H:List Grp) (hS:∀ y o,S y o→At W0 H y o):Tri Tryz.prog 26 #[.agg #[.string (bk x.space),.string (bk x.name),.slice an x.attrs.length cn,.slice al x.kids.length cl,.string (bk x.text)],.string (bk sp),.string (bk nm)] W0 H (fun v H'=>∃ a c g co,v=.slice a (allX x sp nm).length c∧Go.Sw.Own 26 5 (.slice a (allX x sp nm).length c) g (allX x sp nm).length co∧XRdL S (allX x sp nm) co∧H'=g::H):=by
 have hpx:=W5 x
 refine D5 38 Tryz.func26 ?_
 refine A1 (A2 (V5 (.agg #[.string (bk x.space),.string (bk x.name),.slice an x.attrs.length cn,.slice al x.kids.length cl,.string (bk x.text)]) (fun b1=>A5 [0] [1,2,3] (k:=A0 (A1 (G_p [0] [1,2,3,7] (k:=A0 (A1 ?_))))))))
 refine A1 (A2 (A3 (j:=1) [0] (k:=C1 0 3 rfl rfl (A5 [0,0] [1,2,7,11,12,13] (k:=A0 (B3 (R1 (H':=([]::[(b1,.cells #[.string (bk x.space),.string (bk x.name),.slice an x.attrs.length cn,.slice al x.kids.length cl,.string (bk x.text)] 26 (0,0))]::H)) (fun w h=>h.flat (List.Perm.refl _)) (I6 (EI:=(fun ξ:Nat × Nat × Option Addr × Nat × Grp × List Value=>[⟨1,[],.string (bk sp)⟩,⟨2,[],.string (bk nm)⟩,⟨7,[],.slice ξ.2.2.1 ξ.2.1 ξ.2.2.2.1⟩,⟨11,[],.slice al x.kids.length cl⟩,⟨12,[],.int .i64 ((x.kids.length:Nat):Int)⟩,⟨13,[],.int .i64 ((ξ.1:Nat):Int)⟩])) (HI:=(fun ξ:Nat × Nat × Option Addr × Nat × Grp × List Value=>(ξ.2.2.2.2.1::[(b1,.cells #[.string (bk x.space),.string (bk x.name),.slice an x.attrs.length cn,.slice al x.kids.length cl,.string (bk x.text)] 26 (0,0))]::H))) (Φ:=(fun ξ:Nat × Nat × Option Addr × Nat × Grp × List Value=>(ξ.1≤x.kids.length)∧(Go.Sw.Own 26 5 (.slice ξ.2.2.1 ξ.2.1 ξ.2.2.2.1) ξ.2.2.2.2.1 ξ.2.1 ξ.2.2.2.2.2)∧(ξ.2.1=((x.kids.take ξ.1).filter (kidX sp nm)).length)∧(ξ.2.1≤ξ.1)∧(XRdL S ((x.kids.take ξ.1).filter (kidX sp nm)) ξ.2.2.2.2.2))) (μ:=(fun ξ:Nat × Nat × Option Addr × Nat × Grp × List Value=>x.kids.length - ξ.1)) (s0:=(0,0,none,0,[],[])) [1,2,7,11,12,13] kr kr ⟨(Nat.zero_le _),Go.Sw.Own.nil,rfl,(Nat.le_refl _),.nil⟩ ?_))))))))
 rintro ⟨k,no,oa,oc,og,co⟩ ⟨hkl,hO,hno,hnk,hco⟩
 dsimp only at hkl hO hno hnk hco
 refine A1 (G_p [0] [1,2,7,11,12,13,14] (k:=A0 (A1 (B1 (b:=decide (((k:Nat):Int)<((x.kids.length:Nat):Int))) kr (fun hc2=>?_) (fun hc2=>?_)))))
 have hk:k<x.kids.length:=by have:=hc2; simp only [decide_eq_true_eq] at this; omega
 obtain ⟨y,yan,ycn,yal,ycl,ycs,hyx,hye,hya,hyl,hyc,hycn⟩:=hrc.get hk
 have hyw:wtX y<wtX x:=by rw [hyx]; exact wtX_kid hk
 refine A7 (A0 (A1 (B3 (A1 (A2 (E4 x.kids.length ((k:Nat):Int) 5 hrl (by exact ⟨by omega,by omega,by intro h; have h2:=congrArg List.length h; rw [hrc.len] at h2; simp only [List.length_nil] at h2; omega⟩) (K0 (ch:=[]) (a:=al) (q:=k * 5) (S:=S) (cs:=cs) (l:=[.string (bk y.space),.string (bk y.name),.slice yan y.attrs.length ycn,.slice yal y.kids.length ycl,.string (bk y.text)]) (hrd:=hrl) (hS:=(fun y o h=>At.cons (At.cons ((hS y o h))))) (hl:=List.cons_ne_nil _ _) (hv:=(fun _=>(elt5 hye))) (k:=J1 (.agg zN.toArray) (fun b3=>?_)))))))))
 refine D0 0 0 (.agg #[.string (bk y.space),.string (bk y.name),.slice yan y.attrs.length ycn,.slice yal y.kids.length ycl,.string (bk y.text)]) rfl (A5 [] [1,2,7,9,11,12,13] (k:=A0 (A1 (A2 (A3 (j:=1) [0] (k:=C1 0 1 rfl rfl (A3 (j:=5) [0,0,0] (k:=C2 (ch:=[(20,true)]) (b:=b3) (off:=0) (v:=.string (bk y.space)) (hA:=At.grp 0 0 rfl rfl) (k:=?_)))))))))
 refine A3 (j:=11) [0,0,6,0,0] (k:=C2 (ch:=[(26,true)]) (b:=b3) (off:=1) (v:=.string (bk y.name)) (hA:=At.grp 0 0 rfl rfl) (k:=A5 [0,0,6] [1,2,7,9,11,12,13,31] (k:=A0 (B1 (b:=((!((bk y.name).toList==eB.toList))&&((bk y.space).toList==(bk sp).toList))&&((bk y.name).toList==(bk nm).toList)) kr (fun hc4=>?_) (fun hc4=>?_)))))
 have hky:kidX sp nm y=true:=by have h9:=hc4; unfold kidX; rw [bkB y.space sp,bkB y.name nm,show ((bk y.name).toList==eB.toList)=(y.name==[]) from bkB y.name []] at h9; exact h9
 refine A2 (A3 (j:=1) [0] (k:=M9 0 0 5 rfl (H0 26 1 [.string (bk y.space),.string (bk y.name),.slice yan y.attrs.length ycn,.slice yal y.kids.length ycl,.string (bk y.text)] (fun b5=>L7 (inf:=Tryz.t26) 1 0 2 rfl rfl hO (by omega) (by show (no+1) * 96≤140737488355328; omega) (fun v6 g7 hO8=>?_)))))
 obtain ⟨a9,cap10,rfl,hcap11,hrd12⟩:=hO8.shape
 refine A5 [0] [1,2,7,11,12,13] (k:=B8 (A0 (A2 (A3 (j:=1) [0] (k:=D1 36 (((k:Nat):Int)+1) (by omega) (by omega) kr (A5 [0] [1,2,7,11,12,13] (k:=F8 2 [2,2] (D2 (s':=((k+1),(no+1),a9,cap10,g7,(co++xvC y yan ycn yal ycl))) [1,2,7,11,12,13] kr kr ⟨(by dsimp only; omega),hO8,(by dsimp only; rw [A0h hk,← hyx,hky]; simp only [if_true,List.length_append,List.length_cons,List.length_nil]; omega),(by dsimp only; omega),(by dsimp only; rw [A0h hk,← hyx,hky]; exact hco.snoc (XRd.of hycn hya hyl hyc))⟩ (by dsimp only; omega)))))))))
 have hky:kidX sp nm y=false:=by have h9:=hc4; unfold kidX; rw [bkB y.space sp,bkB y.name nm,show ((bk y.name).toList==eB.toList)=(y.name==[]) from bkB y.name []] at h9; exact h9
 refine A7 (B8 (A0 (A2 (A3 (j:=1) [0] (k:=D1 36 (((k:Nat):Int)+1) (by omega) (by omega) kr (A5 [0] [1,2,7,11,12,13] (k:=F8 1 [1,1] (D2 (s':=((k+1),no,oa,oc,og,co)) [1,2,7,11,12,13] kr kr ⟨(by dsimp only; omega),hO,(by dsimp only; rw [A0h hk,← hyx,hky]; simp only [Bool.false_eq_true,if_false,List.append_nil]; exact hno),(by dsimp only; omega),(by dsimp only; rw [A0h hk,← hyx,hky]; simp only [Bool.false_eq_true,if_false,List.append_nil]; exact hco)⟩ (by dsimp only; omega)))))))))
 have hk:x.kids.length≤k:=by have:=hc2; simp only [decide_eq_false_iff_not] at this; omega
 have hall:x.kids.take k=x.kids:=List.take_of_length_le hk
 rw [hall] at hno hco
 refine E7 (A6 (A6 (B6 (A0 (A1 (C3 (E':=[⟨6,[],.slice oa no oc⟩]) [0,0] [6] (k:=A0 (B4 ?_))))))))
 refine F8 1 [0] (B7 [.tmp 6] [.slice oa no oc] (k:=?_))
 subst hno; exact ⟨_,_,_,_,rfl,hO,hco,rfl⟩
theorem xfind_ (x:XN) (an:Option Addr) (cn:Nat) (al:Option Addr) (cl:Nat) (cs:List Value) (S:Nat→Obj→Prop) (hra:Rd S an (xaV x.attrs)) (hrl:Rd S al cs) (hrc:XRdL S x.kids cs) (sp nm:List UInt8) (hw:wtX x≤100000000) (W0:World) (H:List Grp) (hS:∀ y o,S y o→At W0 H y o):Tri Tryz.prog 9 #[.agg #[.string (bk x.space),.string (bk x.name),.slice an x.attrs.length cn,.slice al x.kids.length cl,.string (bk x.text)],.string (bk sp),.string (bk nm)] W0 H (fun v H'=>(((allX x sp nm)=[]∧v=.tuple #[.agg #[.string (bk []),.string (bk []),.slice none 0 0,.slice none 0 0,.string (bk [])],.bool false])∨∃ y l yan ycn yal ycl ycs,(allX x sp nm)=y::l∧v=.tuple #[.agg #[.string (bk y.space),.string (bk y.name),.slice yan y.attrs.length ycn,.slice yal y.kids.length ycl,.string (bk y.text)],.bool true]∧Rd S yan (xaV y.attrs)∧Rd S yal ycs∧XRdL S y.kids ycs∧y.attrs.length≤ycn)∧H'=H):=by
 refine D5 20 Tryz.func9 ?_
 refine A1 (A2 (V5 (.agg #[.string (bk x.space),.string (bk x.name),.slice an x.attrs.length cn,.slice al x.kids.length cl,.string (bk x.text)]) (fun b1=>J1 (.agg zN.toArray) (fun b2=>?_))))
 refine A5 [0] [1,2,3,6] (k:=A0 (A1 (A2 (M9 1 0 5 rfl (A3 (j:=3) [0,0] (k:=D9 Tryz.func26 (xall_ x an cn al cl cs S hra hrl hrc sp nm hw _ _ (fun y o h=>At.cons (At.cons ((hS y o h))))) ?_))))))
 rintro _ _ ⟨oa,oc,og,co,rfl,hO,hco,rfl⟩
 refine A5 [0] [6,8] (k:=A0 (A1 (A1 (G_p [0,0,0] [6,8,15] (k:=A0 (B1 (b:=(((allX x sp nm).length:Nat):Int)==0) kr (fun hc3=>?_) (fun hc3=>?_)))))))
 have h0:(allX x sp nm)=[]:=List.eq_nil_of_length_eq_zero (by have:=hc3; simp only [beq_iff_eq] at this; omega)
 refine A1 (A2 (A3 (j:=1) [0] (k:=D0 1 0 (.agg zN.toArray) rfl (C0 (E':=[⟨6,[],pt b2⟩,⟨7,[],.bool false⟩]) [0] [6,7] (k:=A0 (B4 (A4 (J7 [.cell 6 26,.tmp 7] [.agg zN.toArray,.bool false] rfl (.cons (.aq 1 0 rfl) (.cons .tq (.nil))) rfl ⟨_,?_,fun w h=>(h.pk 3 [])⟩))))))))
 exact ⟨.inl ⟨h0,rfl⟩,rfl⟩
 have h0:0<(allX x sp nm).length:=by have:=hc3; simp only [beq_eq_false_iff_ne,ne_eq] at this; omega
 obtain ⟨y,yan,ycn,yal,ycl,ycs,hyx,hye,hya,hyl,hyc,hycn⟩:=hco.get h0
 have hal:(allX x sp nm)=y::(allX x sp nm).drop 1:=by rw [hyx]; exact (drop_cons h0)
 refine A7 (A0 (A1 (A2 (A3 (j:=1) [0] (k:=E4 (a:=oa) (S:=(inG og)) (cs:=co) ((allX x sp nm).length) 0 5 (F0 hO) (by exact ⟨by omega,by omega,by intro h; have h2:=congrArg List.length h; rw [hco.len] at h2; simp only [List.length_nil] at h2; omega⟩) (K0 (ch:=[]) (a:=oa) (q:=0 * 5) (S:=(inG og)) (cs:=co) (l:=[.string (bk y.space),.string (bk y.name),.slice yan y.attrs.length ycn,.slice yal y.kids.length ycl,.string (bk y.text)]) (hrd:=F0 hO) (hS:=E0 0 rfl) (hl:=List.cons_ne_nil _ _) (hv:=(fun _=>(elt5 hye))) (k:=D0 1 0 (.agg #[.string (bk y.space),.string (bk y.name),.slice yan y.attrs.length ycn,.slice yal y.kids.length ycl,.string (bk y.text)]) rfl (C0 (E':=[⟨6,[],pt b2⟩,⟨7,[],.bool true⟩]) [0] [6,7] (k:=?_)))))))))
 refine A0 (B4 (J7 [.cell 6 26,.tmp 7] [.agg #[.string (bk y.space),.string (bk y.name),.slice yan y.attrs.length ycn,.slice yal y.kids.length ycl,.string (bk y.text)],.bool true] rfl (.cons (.aq 1 0 rfl) (.cons .tq (.nil))) rfl ⟨_,?_,fun w h=>(h.pk 3 [])⟩))
 exact ⟨.inr ⟨y,_,yan,ycn,yal,ycl,ycs,hal,rfl,hya,hyl,hyc,hycn⟩,rfl⟩
theorem xvalue_ (x:XN) (an:Option Addr) (cn:Nat) (al:Option Addr) (cl:Nat) (cs:List Value) (S:Nat→Obj→Prop) (hra:Rd S an (xaV x.attrs)) (_:Rd S al cs) (_:XRdL S x.kids cs) (nm:List UInt8) (hw:wtX x≤100000000) (W0:World) (H:List Grp) (hS:∀ y o,S y o→At W0 H y o):Tri Tryz.prog 11 #[.agg #[.string (bk x.space),.string (bk x.name),.slice an x.attrs.length cn,.slice al x.kids.length cl,.string (bk x.text)],.string (bk nm)] W0 H (fun v H'=>v=.string (bk (vlX x.attrs nm))∧H'=H):=by
 have hpx:=W5 x
 refine D5 26 Tryz.func11 ?_
 refine A1 (A2 (V5 (.agg #[.string (bk x.space),.string (bk x.name),.slice an x.attrs.length cn,.slice al x.kids.length cl,.string (bk x.text)]) (fun b1=>A5 [0] [1,2] (k:=A0 (A1 (A1 (A2 (A3 (j:=1) [0] (k:=?_)))))))))
 refine C1 0 2 rfl rfl (A5 [0,0] [1,8,9,10] (k:=A0 (B3 (I6 (EI:=(fun ξ:Nat=>[⟨1,[],.string (bk nm)⟩,⟨8,[],.slice an x.attrs.length cn⟩,⟨9,[],.int .i64 ((x.attrs.length:Nat):Int)⟩,⟨10,[],.int .i64 ((ξ:Nat):Int)⟩])) (HI:=(fun ξ:Nat=>([(b1,.cells #[.string (bk x.space),.string (bk x.name),.slice an x.attrs.length cn,.slice al x.kids.length cl,.string (bk x.text)] 26 (0,0))]::H))) (Φ:=(fun ξ:Nat=>(ξ≤x.attrs.length)∧(vlX x.attrs nm=vlX (x.attrs.drop ξ) nm))) (μ:=(fun ξ:Nat=>x.attrs.length - ξ)) (s0:=(0)) [1,8,9,10] kr rfl ⟨(Nat.zero_le _),rfl⟩ ?_))))
 rintro k ⟨hkl,hT⟩
 try dsimp only at hkl hT
 refine A1 (G_p [0] [1,8,9,10,11] (k:=A0 (A1 (B1 (b:=decide (((k:Nat):Int)<((x.attrs.length:Nat):Int))) kr (fun hc2=>?_) (fun hc2=>?_)))))
 have hk:k<x.attrs.length:=by have:=hc2; simp only [decide_eq_true_eq] at this; omega
 refine A7 (A0 (A1 (B3 (A1 (A2 (E4 x.attrs.length ((k:Nat):Int) 3 hra (by exact ⟨by omega,by omega,by intro h; have h2:=congrArg List.length h; rw [A0a] at h2; simp only [List.length_nil] at h2; omega⟩) ?_))))))
 obtain ⟨y,hy⟩:∃ y,y=x.attrs[k]'hk:=⟨_,rfl⟩
 refine K0 (ch:=[]) (a:=an) (q:=k * 3) (S:=S) (cs:=(xaV x.attrs)) (l:=[.string (bk y.space),.string (bk y.name),.string (bk y.value)]) (hrd:=hra) (hS:=(fun y o h=>At.cons ((hS y o h)))) (hl:=List.cons_ne_nil _ _) (hv:=(fun _=>(elt3 (by rw [hy]; exact xaV_at hk)))) (k:=J1 (.agg #[.string eB,.string eB,.string eB]) (fun b3=>D0 0 0 (.agg #[.string (bk y.space),.string (bk y.name),.string (bk y.value)]) rfl (A5 [] [1,6,8,9,10] (k:=A0 (A1 (A2 (A3 (j:=1) [0] (k:=C1 0 0 rfl rfl ?_))))))))
 refine A3 (j:=5) [0,0,0] (k:=C2 (ch:=[(17,true)]) (b:=b3) (off:=1) (v:=.string (bk y.name)) (hA:=At.grp 0 0 rfl rfl) (k:=A5 [0,0,6] [1,6,8,9,10,22] (k:=A0 (B1 (b:=((bk y.space).toList==eB.toList)&&((bk y.name).toList==(bk nm).toList)) kr (fun hc4=>?_) (fun hc4=>?_)))))
 have hvl:vlF nm y=true:=by have h9:=hc4; unfold vlF; rw [bkB y.name nm,show ((bk y.space).toList==eB.toList)=(y.space==[]) from bkB y.space []] at h9; exact h9
 refine A1 (A2 (A3 (j:=1) [0] (k:=C1 0 2 rfl rfl (C0 (E':=[⟨4,[],.string (bk y.value)⟩]) [0] [4] (k:=A0 (B4 (B0 (A4 ?_))))))))
 refine A4 (B0 (A4 (F8 2 [] (B7 [.tmp 4] [.string (bk y.value)] (k:=?_)))))
 exact ⟨by rw [hT,vl_step hk,← hy,hvl]; rfl,rfl⟩
 have hvl:vlF nm y=false:=by have h9:=hc4; unfold vlF; rw [bkB y.name nm,show ((bk y.space).toList==eB.toList)=(y.space==[]) from bkB y.space []] at h9; exact h9
 refine A7 (B8 (A0 (A2 (A3 (j:=1) [0] (k:=D1 25 (((k:Nat):Int)+1) (by omega) (by omega) kr (A5 [0] [1,8,9,10] (k:=F8 1 [1] (D2 (s':=(k+1)) [1,8,9,10] kr kr ⟨(by omega),(by rw [hT,vl_step hk,← hy,hvl]; rfl)⟩ (by omega)))))))))
 have hk:x.attrs.length≤k:=by have:=hc2; simp only [decide_eq_false_iff_not] at this; omega
 refine E7 (A6 (A6 (B6 (A0 (A1 (C3 (E':=[⟨4,[],.string eB⟩]) [0] [4] (k:=A0 (B4 ?_))))))))
 refine F8 1 [] (B7 [.tmp 4] [.string eB] (k:=?_))
 exact ⟨by rw [hT,List.drop_eq_nil_of_le hk]; rfl,rfl⟩
theorem xinnerW_ (x:XN) (an:Option Addr) (cn:Nat) (al:Option Addr) (cl:Nat) (cs:List Value) (S:Nat→Obj→Prop) (_:Rd S an (xaV x.attrs)) (hrl:Rd S al cs) (hrc:XRdL S x.kids cs) (hw:wtX x≤100000000) (hrec:∀ (y:XN),wtX y<wtX x→wtX y≤100000000→∀ (an:Option Addr) (cn:Nat) (al:Option Addr) (cl:Nat) (cs:List Value),Rd S an (xaV y.attrs)→Rd S al cs→XRdL S y.kids cs→∀ (W0:World) (H:List Grp),(∀ z o,S z o→At W0 H z o)→Tri Tryz.prog 12 #[.agg (xvC y an cn al cl).toArray] W0 H (fun v H'=>v=.string (bk (innX y))∧H'=H)) (W0:World) (H:List Grp) (hS:∀ y o,S y o→At W0 H y o):Tri Tryz.prog 12 #[.agg #[.string (bk x.space),.string (bk x.name),.slice an x.attrs.length cn,.slice al x.kids.length cl,.string (bk x.text)]] W0 H (fun v H'=>v=.string (bk (innX x))∧H'=H):=by
 have hpx:=W5 x
 refine D5 24 Tryz.func12 ?_
 refine A1 (A2 (V5 (.agg #[.string (bk x.space),.string (bk x.name),.slice an x.attrs.length cn,.slice al x.kids.length cl,.string (bk x.text)]) (fun b1=>C0 (E':=[⟨1,[],pt b1⟩]) [0] [1] (k:=A0 (A1 (A1 (A2 (A3 (j:=1) [0] (k:=?_)))))))))
 refine C1 0 1 rfl rfl (A5 [0] [1,8] (k:=A0 (B1 (b:=(bk x.name).toList==eB.toList) kr (fun hc2=>?_) (fun hc2=>?_))))
 have hn:x.name=[]:=(eqB _ _).1 hc2
 refine A1 (A2 (A3 (j:=1) [0] (k:=C1 0 4 rfl rfl (C0 (E':=[⟨2,[],.string (bk x.text)⟩]) [0] [2] (k:=A0 (B4 (A4 (F8 1 [] ?_))))))))
 refine B7 [.tmp 2] [.string (bk x.text)] (k:=?_)
 exact ⟨by rw [innX_text hn]; try rfl,rfl⟩
 have hn:x.name≠[]:=(eqBf _ _).1 hc2
 refine A7 (A0 (A1 (G_p [0] [1,3] (k:=A0 (A1 (A1 (A2 (A3 (j:=1) [0] (k:=?_)))))))))
 refine C1 0 3 rfl rfl (A5 [0,0] [3,12,13,14] (k:=A0 (B3 (G_env (E':=[⟨3,[],.string eB⟩,⟨12,[],.slice al x.kids.length cl⟩,⟨13,[],.int .i64 ((x.kids.length:Nat):Int)⟩,⟨14,[],.int .i64 0⟩]) kr ?_))))
 have hi0:eB=bk (innL (x.kids.take 0)):=by rw [List.take_zero,innL_nil]
 refine G_env (E':=[⟨3,[],.string (bk (innL (x.kids.take 0)))⟩,⟨12,[],.slice al x.kids.length cl⟩,⟨13,[],.int .i64 ((x.kids.length:Nat):Int)⟩,⟨14,[],.int .i64 0⟩]) (by rw [← hi0]) (I6 (EI:=(fun ξ:Nat=>[⟨3,[],.string (bk (innL (x.kids.take ξ)))⟩,⟨12,[],.slice al x.kids.length cl⟩,⟨13,[],.int .i64 ((x.kids.length:Nat):Int)⟩,⟨14,[],.int .i64 ((ξ:Nat):Int)⟩])) (HI:=(fun ξ:Nat=>([(b1,.cells #[.string (bk x.space),.string (bk x.name),.slice an x.attrs.length cn,.slice al x.kids.length cl,.string (bk x.text)] 26 (0,0))]::H))) (Φ:=(fun ξ:Nat=>(ξ≤x.kids.length))) (μ:=(fun ξ:Nat=>x.kids.length - ξ)) (s0:=(0)) [3,12,13,14] kr rfl (Nat.zero_le _) ?_)
 rintro k hkl
 refine A1 (G_p [0] [3,12,13,14,15] (k:=A0 (A1 (B1 (b:=decide (((k:Nat):Int)<((x.kids.length:Nat):Int))) kr (fun hc3=>?_) (fun hc3=>?_)))))
 have hk:k<x.kids.length:=by have:=hc3; simp only [decide_eq_true_eq] at this; omega
 obtain ⟨y,yan,ycn,yal,ycl,ycs,hyx,hye,hya,hyl,hyc,hycn⟩:=hrc.get hk
 have hyw:wtX y<wtX x:=by rw [hyx]; exact wtX_kid hk
 refine A7 (A0 (A1 (B3 (A1 (A2 (E4 x.kids.length ((k:Nat):Int) 5 hrl (by exact ⟨by omega,by omega,by intro h; have h2:=congrArg List.length h; rw [hrc.len] at h2; simp only [List.length_nil] at h2; omega⟩) (K0 (ch:=[]) (a:=al) (q:=k * 5) (S:=S) (cs:=cs) (l:=[.string (bk y.space),.string (bk y.name),.slice yan y.attrs.length ycn,.slice yal y.kids.length ycl,.string (bk y.text)]) (hrd:=hrl) (hS:=(fun y o h=>At.cons ((hS y o h)))) (hl:=List.cons_ne_nil _ _) (hv:=(fun _=>(elt5 hye))) (k:=J1 (.agg zN.toArray) (fun b4=>?_)))))))))
 refine D0 0 0 (.agg #[.string (bk y.space),.string (bk y.name),.slice yan y.attrs.length ycn,.slice yal y.kids.length ycl,.string (bk y.text)]) rfl (A5 [] [3,5,12,13,14] (k:=A0 (A2 (A3 (j:=1) [0] (k:=M9 0 0 5 rfl (H6 Tryz.func12 (hrec y hyw (by omega) yan ycn yal ycl ycs hya hyl hyc _ _ (fun y o h=>At.cons (At.cons ((hS y o h))))) (V4 (bk (innL (x.kids.take k))) (bk (innX y)) (by intro _; rw [C9,C9]; have h1:=innL_len (x.kids.take k); have h2:=wtXL_take x.kids k; have h3:=inn_len y; omega) (E3 21 (x:=.string ((bk (innL (x.kids.take k)))++(bk (innX y)))) (y:=.string (bk (innL (x.kids.take (k+1))))) (by rw [bk_app,innL_take hk,← hyx]) ?_))))))))
 refine A5 [0] [3,12,13,14] (k:=B8 (A0 (A2 (A3 (j:=1) [0] (k:=D1 22 (((k:Nat):Int)+1) (by omega) (by omega) kr (A5 [0] [3,12,13,14] (k:=F8 1 [1] (D2 (s':=(k+1)) [3,12,13,14] kr kr (by omega) (by omega)))))))))
 have hk:x.kids.length≤k:=by have:=hc3; simp only [decide_eq_false_iff_not] at this; omega
 refine E7 (A6 (A6 (B6 (A0 (A1 (G_p [0,0] [2] (k:=A0 (B4 ?_))))))))
 refine F8 1 [] (B7 [.tmp 2] [.string (bk (innL (x.kids.take k)))] (k:=?_))
 exact ⟨by rw [innX_el hn,List.take_of_length_le hk]; try rfl,rfl⟩
theorem xinner_:∀ (n:Nat) (x:XN),wtX x≤n→wtX x≤100000000→∀ (an:Option Addr) (cn:Nat) (al:Option Addr) (cl:Nat) (cs:List Value) (S:Nat→Obj→Prop),Rd S an (xaV x.attrs)→Rd S al cs→XRdL S x.kids cs→∀ (W0:World) (H:List Grp),(∀ z o,S z o→At W0 H z o)→Tri Tryz.prog 12 #[.agg (xvC x an cn al cl).toArray] W0 H (fun v H'=>v=.string (bk (innX x))∧H'=H)
 | 0,x,h,_,_,_,_,_,_,_,_,_,_,_,_,_=>absurd (wtX_pos x) (by omega)
 | n+1,x,h,hd,an,cn,al,cl,cs,S,h1,h2,h3,W0,H,hS=>xinnerW_ x an cn al cl cs S h1 h2 h3 hd (fun y hy hdy an cn al cl cs h1 h2 h3 W0 H hS=>xinner_ n y (by omega) hdy an cn al cl cs S h1 h2 h3 W0 H hS) W0 H hS
end Go.Proofs.YtcgmnagcgkhogabGreatDoor
namespace Go.Proofs.YtcgmnagcgkhogabGreatDoor
open Go.Sw Go.Sha Go.Esc Go.RowKit Go.Json Go.Xml
theorem sameN_eq (x y:XA):((bk x.name).toList==(bk y.name).toList)=sameN x y:=bkB _ _
theorem xaV_take:∀ (l:List XA) (k:Nat),xaV (l.take k)=(xaV l).take (k * 3)
  | [],k=>by rw [List.take_nil]; show []=List.take _ []; rw [List.take_nil]
  | x::l,0=>by rw [List.take_zero,Nat.zero_mul,List.take_zero]; rfl
  | x::l,k+1=>by
    rw [List.take_succ_cons,xaV,xaV_take l k,xaV,List.take_append,List.take_of_length_le (show (xaC x).length≤_ by show 3≤_; omega)]
    congr 2
    show k * 3=(k+1) * 3 - 3; omega
theorem rd_take {S:Nat→Obj→Prop} {a:Option Addr} {cs:List Value} (h:Rd S a cs) (m:Nat):Rd S a (cs.take m):=by
 rcases h with h | ⟨b,off,c,e,fz,h1,h2,h3⟩
 exact .inl (by simp [h])
 refine .inr ⟨b,off,c,e,fz,h1,h2,fun j u hj=>?_⟩
 rw [List.getElem?_take] at hj
 split at hj
 exact h3 _ _ hj
 simp at hj
theorem lenN (n:List UInt8):((nmX n:Int) != ((bk n).size:Int))=!(nmX n==n.length):=by
 rw [C9,Bool.eq_iff_iff]; simp [bne]; omega
theorem right_eq (_:Int) (x:XN):((((((nmX x.name:Int) != ((bk x.name).size:Int))||((bk x.name).toList==eB.toList))||(!((bk x.text).toList==eB.toList)))||(!(plX x.space)))||(!(plX x.name)))=!(nmOk x.name&&x.text==[]&&plX x.space&&plX x.name):=by
 rw [bkN,bkN,lenN]; unfold nmOk
 cases (x.name==[]) <;> cases (nmX x.name==x.name.length) <;> cases (x.text==[]) <;> cases plX x.space <;> cases plX x.name <;> rfl
theorem right_no {d:Int} (lv:Nat) (x:XN) (hd:d=24 - (lv:Int)) (h:((((((((nmX x.name:Int) != ((bk x.name).size:Int))||((bk x.name).toList==eB.toList))||(!((bk x.text).toList==eB.toList)))||(!(plX x.space)))||(!(plX x.name)))||(decide (d ≥ 24))))=true):rtX lv x=false:=by
  rw [right_eq d x,Bool.or_eq_true] at h
  cases lv with
  | zero=>exact rtX_0 x
  | succ m =>
    rcases h with h | h
    rw [Bool.not_eq_true'] at h; rw [rtX_s,h]; rfl
    have:=of_decide_eq_true h; omega
theorem right_yes {d:Int} (lv:Nat) (x:XN) (hd:d=24 - (lv:Int)) (h:((((((((nmX x.name:Int) != ((bk x.name).size:Int))||((bk x.name).toList==eB.toList))||(!((bk x.text).toList==eB.toList)))||(!(plX x.space)))||(!(plX x.name)))||(decide (d ≥ 24))))=false):∃ m,lv=m+1∧rtX lv x=(attrsR [] x.attrs&&kidsR (rtX m) false x.kids):=by
 rw [right_eq d x,Bool.or_eq_false_iff] at h
 cases lv with
 | zero=>have:=of_decide_eq_false h.2; omega
 | succ m=>exact ⟨m,rfl,by have h1:=h.1; rw [Bool.not_eq_false'] at h1; rw [rtX_s,h1]; rfl⟩
theorem atF_eq (y:XA):((((((!((bk y.space).toList==eB.toList))||((bk y.name).toList==eB.toList))||((nmX y.name:Int) != ((bk y.name).size:Int)))||((bk y.name).toList==(mB #[120,109,108,110,115]).toList))||(!(plX y.value)))||(!(plX y.name)))=!atF y:=by
 rw [bkN,bkN,lenN,show ((bk y.name).toList==(mB #[120,109,108,110,115]).toList)=(y.name==xmlns) from bkB y.name xmlns]; unfold atF
 rw [Bool.not_not]
theorem kidF_eq {f:XN→Bool} {last:Bool} {y:XN} (hw:y.attrs.length+y.kids.length≤1000000):((((bk y.name).toList==eB.toList)&&((((last||((bk y.text).toList==eB.toList))||(!(plX y.text)))||(!((bk y.space).toList==eB.toList)))||(decide ((IntKind.wrap .i64 (((y.attrs.length:Nat):Int)+((y.kids.length:Nat):Int))) > 0))))||((!((bk y.name).toList==eB.toList))&&(!(f y))))=!kidF f last y:=by
 rw [bkN,bkN,bkN,show decide ((IntKind.wrap .i64 (((y.attrs.length:Nat):Int)+((y.kids.length:Nat):Int))) > 0)=decide (0<y.attrs.length+y.kids.length) from by rw [w64 (by omega) (by omega)]; exact decide_eq_decide.2 (by omega)]; unfold kidF
 rw [Bool.not_not]
theorem cutA_z (a:Option Addr) (cap sz:Nat):cutA a cap 0 sz=a:=by
 unfold cutA
 split
 rfl
 cases a with
 | none=>rfl
 | some a=>simp [Addr.add]
theorem anyN_take {l:List XA} {k:Nat} {f:XA→Bool} (h:k<l.length):(l.take (k+1)).any f=((l.take k).any f||f l[k]):=by
 rw [List.take_succ_eq_append_getElem h,List.any_append]; simp
theorem xsameN_ (y x:XA) (xb:Nat) (W0:World) (H:List Grp):Tri Tryz.prog 55 #[.agg #[.string (bk y.space),.string (bk y.name),.string (bk y.value)],pt xb] W0 ([(xb,.cells #[.string (bk x.space),.string (bk x.name),.string (bk x.value)] 59 (0,0))]::H) (fun v H'=>v=.bool (sameN x y)∧H'=([(xb,.cells #[.string (bk x.space),.string (bk x.name),.string (bk x.value)] 59 (0,0))]::H)):=by
 refine D5 9 Tryz.func55 ?_
 refine A1 (A2 (V5 (.agg #[.string (bk y.space),.string (bk y.name),.string (bk y.value)]) (fun b1=>C0 (E':=[⟨1,[],pt xb⟩,⟨2,[],pt b1⟩]) [0] [1,2] (k:=A0 (A1 (A2 (A3 (j:=1) [0] (k:=C1 1 1 rfl rfl ?_))))))))
 refine A3 (j:=3) [0] (k:=C1 0 1 rfl rfl (A5 [0,0] [3] (k:=A0 (B4 (F8 1 [1] (B7 [.tmp 3] [.bool ((bk x.name).toList==(bk y.name).toList)] (k:=?_)))))))
 exact ⟨congrArg Value.bool (sameN_eq x y),rfl⟩
theorem xindexN_ (out:List XA) (n0:Nat) (hn0:n0=out.length) (a:Option Addr) (c:Nat) (S:Nat→Obj→Prop) (hrd:Rd S a (xaV out)) (hol:out.length≤1000002) (x:XA) (xb:Nat) (W0:World) (H:List Grp) (hS:∀ y o,S y o→At W0 H y o):Tri Tryz.prog 71 #[.slice a n0 c,.func (.func 55) #[] #[pt xb]] W0 ([(xb,.cells #[.string (bk x.space),.string (bk x.name),.string (bk x.value)] 59 (0,0))]::H) (fun v H'=>∃ n:Int,v=.int .i64 n∧(out.any (sameN x)=decide (n ≥ 0))∧H'=([(xb,.cells #[.string (bk x.space),.string (bk x.name),.string (bk x.value)] 59 (0,0))]::H)):=by
 refine D5 19 Tryz.func71 ?_
 refine A1 (G_p [0] [0,1] (k:=A0 (A1 (A1 (G_p [0,0,0] [0,1,7,8] (k:=A0 (B3 (I6 (EI:=(fun ξ:Nat=>[⟨0,[],.slice a n0 c⟩,⟨1,[],.func (.func 55) #[] #[pt xb]⟩,⟨7,[],.int .i64 ((n0:Nat):Int)⟩,⟨8,[],.int .i64 ((ξ:Nat):Int)⟩])) (HI:=(fun ξ:Nat=>([(xb,.cells #[.string (bk x.space),.string (bk x.name),.string (bk x.value)] 59 (0,0))]::H))) (Φ:=(fun ξ:Nat=>(ξ≤out.length)∧((out.take ξ).any (sameN x)=false))) (μ:=(fun ξ:Nat=>out.length - ξ)) (s0:=(0)) [0,1,7,8] kr rfl ⟨(Nat.zero_le _),rfl⟩ ?_))))))))
 rintro k ⟨hkl,hno⟩
 try dsimp only at hkl hno
 refine A1 (G_p [0] [0,1,7,8,9] (k:=A0 (A1 (B1 (b:=decide (((k:Nat):Int)<((n0:Nat):Int))) kr (fun hc1=>?_) (fun hc1=>?_)))))
 have hk:k<out.length:=by have:=hc1; simp only [decide_eq_true_eq] at this; omega
 refine A7 (A0 (A1 (B3 (A1 (G_p [0,0] [0,1,5,7,8] (k:=A0 (A1 (A2 ?_))))))))
 refine A3 (j:=3) [0,0,0] (k:=E4 n0 ((k:Nat):Int) 3 hrd (by exact ⟨by omega,by omega,by intro h; have:=congrArg List.length h; rw [A0a] at this; simp only [List.length_nil] at this; omega⟩) ?_)
 obtain ⟨y,hy⟩:∃ y,y=out[k]'hk:=⟨_,rfl⟩
 refine K0 (ch:=[]) (a:=a) (q:=k * 3) (S:=S) (cs:=(xaV out)) (l:=[.string (bk y.space),.string (bk y.name),.string (bk y.value)]) (hrd:=hrd) (hS:=(fun y o h=>At.cons (hS y o h))) (hl:=List.cons_ne_nil _ _) (hv:=(fun _=>(elt3 (by rw [hy]; exact xaV_at hk)))) (k:=Q2 (ch:=[]) (f:=55) (fst:=#[]) (caps:=#[pt xb]) (vs:=[.agg #[.string (bk y.space),.string (bk y.name),.string (bk y.value)]]) (hf:=Tryz.func55) (hsure:=M3 kr) (hc:=xsameN_ y x xb _ _) (k:=?_))
 rintro _ _ ⟨rfl,rfl⟩
 refine A5 [] [0,1,5,7,8,16] (k:=A0 (B1 (b:=(sameN x y)) kr (fun hc2=>?_) (fun hc2=>?_)))
 have hsm:sameN x y=true:=hc2
 refine A1 (C3 (E':=[⟨4,[],.int .i64 ((k:Nat):Int)⟩]) [0,0] [4] (k:=A0 (B4 (B0 (A4 (A4 (B0 (A4 ?_))))))))
 refine B7 [.tmp 4] [.int .i64 ((k:Nat):Int)] (k:=?_)
 exact ⟨_,rfl,by rw [any_at hk (by rw [← hy]; exact hsm)]; exact (decide_eq_true (Int.natCast_nonneg k)).symm,rfl⟩
 have hsm:sameN x y=false:=hc2
 refine A7 (B8 (A0 (A2 (A3 (j:=1) [0] (k:=D1 18 (((k:Nat):Int)+1) (by omega) (by omega) kr (A5 [0] [0,1,7,8] (k:=D2 (s':=(k+1)) [0,1,7,8] kr rfl ⟨(by omega),(by rw [anyN_take hk,hno,← hy,hsm]; rfl)⟩ (by omega))))))))
 have hk:out.length≤k:=by have:=hc1; simp only [decide_eq_false_iff_not] at this; omega
 refine E7 (A6 (A6 (B6 (A0 (A1 (C3 (E':=[⟨4,[],.int .i64 (-1)⟩]) [0] [4] (k:=A0 (B4 ?_))))))))
 refine B7 [.tmp 4] [.int .i64 (-1)] (k:=?_)
 exact ⟨_,rfl,by rw [List.take_of_length_le hk] at hno; rw [hno]; rfl,rfl⟩
theorem xhasNm_ (out:List XA) (n0:Nat) (hn0:n0=out.length) (a:Option Addr) (c:Nat) (S:Nat→Obj→Prop) (hrd:Rd S a (xaV out)) (hol:out.length≤1000002) (x:XA) (xb:Nat) (W0:World) (H:List Grp) (hS:∀ y o,S y o→At W0 H y o):Tri Tryz.prog 41 #[.slice a n0 c,.func (.func 55) #[] #[pt xb]] W0 ([(xb,.cells #[.string (bk x.space),.string (bk x.name),.string (bk x.value)] 59 (0,0))]::H) (fun v H'=>v=.bool (out.any (sameN x))∧H'=([(xb,.cells #[.string (bk x.space),.string (bk x.name),.string (bk x.value)] 59 (0,0))]::H)):=by
 refine D5 9 Tryz.func41 ?_
 refine A1 (G_p [0] [0,1] (k:=A0 (A1 (A2 (A3 (j:=2) [0,0] (k:=D9 Tryz.func71 (xindexN_ out n0 hn0 a c S hrd hol x xb _ _ hS) ?_))))))
 rintro _ _ ⟨n,rfl,hn,rfl⟩
 refine C0 (E':=[⟨4,[],.bool (decide (n ≥ 0))⟩]) [0,0] [4] (k:=A0 (B4 (B7 [.tmp 4] [.bool (decide (n ≥ 0))] (k:=?_))))
 exact ⟨by rw [hn]; try rfl,rfl⟩
theorem xrightW_ (x:XN) (an:Option Addr) (cn:Nat) (al:Option Addr) (cl:Nat) (cs:List Value) (S:Nat→Obj→Prop) (hra:Rd S an (xaV x.attrs)) (hrl:Rd S al cs) (hrc:XRdL S x.kids cs) (hcn:x.attrs.length≤cn) (lv:Nat) (hlv:lv≤24) (d:Int) (hd:d=24 - (lv:Int)) (hw:wtX x≤80000) (hrec:∀ (y:XN),wtX y<wtX x→wtX y≤80000→∀ (m:Nat),lv=m+1→∀ (an:Option Addr) (cn:Nat) (al:Option Addr) (cl:Nat) (cs:List Value),y.attrs.length≤cn→Rd S an (xaV y.attrs)→Rd S al cs→XRdL S y.kids cs→∀ (W0:World) (H:List Grp),(∀ z o,S z o→At W0 H z o)→T9 W0→Tri Tryz.prog 27 #[.agg (xvC y an cn al cl).toArray,.int .i64 (d+1)] W0 H (fun v H'=>v=.bool (rtX m y)∧H'=H)) (W0:World) (H:List Grp) (hS:∀ y o,S y o→At W0 H y o) (hX:T9 W0):Tri Tryz.prog 27 #[.agg #[.string (bk x.space),.string (bk x.name),.slice an x.attrs.length cn,.slice al x.kids.length cl,.string (bk x.text)],.int .i64 d] W0 H (fun v H'=>v=.bool (rtX lv x)∧H'=H):=by
 have hpx:=W5 x
 refine D5 146 Tryz.func27 ?_
 refine A1 (A2 (V5 (.agg #[.string (bk x.space),.string (bk x.name),.slice an x.attrs.length cn,.slice al x.kids.length cl,.string (bk x.text)]) (fun b1=>C0 (E':=[⟨1,[],.int .i64 d⟩,⟨2,[],pt b1⟩]) [0] [1,2] (k:=A0 (A1 (A1 (H5 (k:=A3 (j:=1) [0] (k:=?_)))))))))
 refine C1 0 1 rfl rfl (H6 Tryz.func53 (xlen_ x.name (by omega) _ _) (A3 (j:=4) [0] (k:=C1 0 1 rfl rfl (A3 (j:=9) [0,0,0,0] (k:=C2 (ch:=[(18,false)]) (b:=b1) (off:=1) (v:=.string (bk x.name)) (hA:=At.grp 0 0 rfl rfl) (k:=A3 (j:=14) [0,5,0,0] (k:=C2 (ch:=[(23,false)]) (b:=b1) (off:=4) (v:=.string (bk x.text)) (hA:=At.grp 0 0 rfl rfl) (k:=A3 (j:=19) [0,5,0,0] (k:=?_)))))))))
 refine C2 (ch:=[(28,false)]) (b:=b1) (off:=0) (v:=.string (bk x.space)) (hA:=At.grp 0 0 rfl rfl) (k:=P7 [(28,false)] Tryz.func54 (fun hc=>xplain_ x.space (by omega) _ _ hX) (A3 (j:=25) [0,5,0,0] (k:=C2 (ch:=[(34,false)]) (b:=b1) (off:=1) (v:=.string (bk x.name)) (hA:=At.grp 0 0 rfl rfl) (k:=P7 [(34,false)] Tryz.func54 (fun hc=>xplain_ x.name (by omega) _ _ hX) (A5 [0,5,0,0,0,5] [1,2,43] (k:=A0 (B1 (b:=((((((nmX x.name:Int) != ((bk x.name).size:Int))||((bk x.name).toList==eB.toList))||(!((bk x.text).toList==eB.toList)))||(!(plX x.space)))||(!(plX x.name)))||(decide (d ≥ 24))) kr (fun hc2=>?_) (fun hc2=>?_))))))))
 have hR:=right_no lv x hd hc2
 refine A1 (C3 (E':=[⟨4,[],.bool false⟩]) [0] [4] (k:=A0 (B4 (A4 (F8 1 [] (B7 [.tmp 4] [.bool false] (k:=?_)))))))
 exact ⟨by rw [hR]; rfl,rfl⟩
 ·
  obtain ⟨m,hlm,hR⟩:=right_yes lv x hd hc2
  refine A7 (A0 (A1 (A1 (A2 (A3 (j:=1) [0] (k:=C1 0 2 rfl rfl (A5 [0,0] [1,2,45,46,47] (k:=A0 ?_))))))))
  refine B3 (I6 (EI:=(fun ξ:Nat=>[⟨1,[],.int .i64 d⟩,⟨2,[],pt b1⟩,⟨45,[],.slice an x.attrs.length cn⟩,⟨46,[],.int .i64 ((x.attrs.length:Nat):Int)⟩,⟨47,[],.int .i64 ((ξ:Nat):Int)⟩])) (HI:=(fun ξ:Nat=>([(b1,.cells #[.string (bk x.space),.string (bk x.name),.slice an x.attrs.length cn,.slice al x.kids.length cl,.string (bk x.text)] 26 (0,0))]::H))) (Φ:=(fun ξ:Nat=>(ξ≤x.attrs.length)∧(attrsR [] x.attrs=attrsR (x.attrs.take ξ) (x.attrs.drop ξ)))) (μ:=(fun ξ:Nat=>x.attrs.length - ξ)) (s0:=(0)) [1,2,45,46,47] kr rfl ⟨(Nat.zero_le _),rfl⟩ ?_)
  rintro k ⟨hkl,hT⟩
  try dsimp only at hkl hT
  refine A1 (G_p [0] [1,2,45,46,47,48] (k:=A0 (A1 (B1 (b:=decide (((k:Nat):Int)<((x.attrs.length:Nat):Int))) kr (fun hc3=>?_) (fun hc3=>?_)))))
  have hk:k<x.attrs.length:=by have:=hc3; simp only [decide_eq_true_eq] at this; omega
  refine A7 (A0 (A1 (B3 (A1 (A2 (A3 (j:=1) [0] (k:=E4 x.attrs.length ((k:Nat):Int) 3 hra (by exact ⟨by omega,by omega,by intro h; have h2:=congrArg List.length h; rw [A0a] at h2; simp only [List.length_nil] at h2; omega⟩) ?_)))))))
  obtain ⟨y,hy⟩:∃ y,y=x.attrs[k]'hk:=⟨_,rfl⟩
  have hyz:=wtA_at hk
  rw [← hy] at hyz
  refine K0 (ch:=[]) (a:=an) (q:=k * 3) (S:=S) (cs:=(xaV x.attrs)) (l:=[.string (bk y.space),.string (bk y.name),.string (bk y.value)]) (hrd:=hra) (hS:=(fun y o h=>At.cons ((hS y o h)))) (hl:=List.cons_ne_nil _ _) (hv:=(fun _=>(elt3 (by rw [hy]; exact xaV_at hk)))) (k:=J1 (.agg #[.string eB,.string eB,.string eB]) (fun b4=>A3 (j:=5) [0] (k:=D0 0 0 (.agg #[.string (bk y.space),.string (bk y.name),.string (bk y.value)]) rfl (A5 [] [1,2,5,6,45,46,47] (k:=A0 (A1 (A1 (H5 (k:=?_)))))))))
  refine A3 (j:=1) [0] (k:=C1 0 0 rfl rfl (A3 (j:=5) [0,0,0] (k:=C2 (ch:=[(55,false)]) (b:=b4) (off:=1) (v:=.string (bk y.name)) (hA:=At.grp 0 0 rfl rfl) (k:=A3 (j:=10) [0,5,0,0] (k:=C2 (ch:=[(60,false)]) (b:=b4) (off:=1) (v:=.string (bk y.name)) (hA:=At.grp 0 0 rfl rfl) (k:=P7 [(60,false)] Tryz.func53 (fun hc=>xlen_ y.name (by omega) _ _) (A3 (j:=13) [0] (k:=C2 (ch:=[(60,false)]) (b:=b4) (off:=1) (v:=.string (bk y.name)) (hA:=At.grp 0 0 rfl rfl) (k:=?_)))))))))
  refine A3 (j:=19) [0,0,5,0,0] (k:=C2 (ch:=[(69,false)]) (b:=b4) (off:=1) (v:=.string (bk y.name)) (hA:=At.grp 0 0 rfl rfl) (k:=A3 (j:=24) [0,5,0,0] (k:=C2 (ch:=[(74,false)]) (b:=b4) (off:=2) (v:=.string (bk y.value)) (hA:=At.grp 0 0 rfl rfl) (k:=P7 [(74,false)] Tryz.func54 (fun hc=>xplain_ y.value (by omega) _ _ hX) (A3 (j:=30) [0,5,0,0] (k:=C2 (ch:=[(80,false)]) (b:=b4) (off:=1) (v:=.string (bk y.name)) (hA:=At.grp 0 0 rfl rfl) (k:=P7 [(80,false)] Tryz.func54 (fun hc=>xplain_ y.name (by omega) _ _ hX) (A5 [0,5] [1,2,5,6,45,46,47,85] (k:=?_)))))))))
  refine A0 (B1 (b:=(((((!((bk y.space).toList==eB.toList))||((bk y.name).toList==eB.toList))||((nmX y.name:Int) != ((bk y.name).size:Int)))||((bk y.name).toList==aH.toList))||(!(plX y.value)))||(!(plX y.name))) kr (fun hc5=>?_) (fun hc5=>?_))
  have haf:atF y=false:=by have h9:=hc5; rw [atF_eq] at h9; simpa using h9
  refine A1 (C3 (E':=[⟨4,[],.bool false⟩]) [0] [4] (k:=A0 (B4 (A4 (B0 (A4 (A4 (B0 ?_))))))))
  refine A4 (F8 2 [] (B7 [.tmp 4] [.bool false] (k:=?_)))
  exact ⟨by rw [hR,hT,attrsR_step hk,← hy,haf]; rfl,rfl⟩
  have haf:atF y=true:=by have h9:=hc5; rw [atF_eq] at h9; simpa using h9
  refine A7 (A0 (A1 (A2 (A3 (j:=1) [0] (k:=C1 1 2 rfl rfl (A3 (j:=3) [0] (k:=GL_sliceL (ch:=[]) (a:=an) (len:=x.attrs.length) (cap:=cn) (e:=59) (sz:=3) (vl:=none) (vh:=(some (.int .i64 ((k:Nat):Int)))) (l:=0) (h:=((k:Nat):Int)) (hb:=(fun _=>by omega)) (k:=E3 89 (x:=.slice (cutA an cn 0 3) (k - 0) (cn - 0)) (y:=.slice an k cn) (by rw [cutA_z]; rfl) ?_))))))))
  refine A3 (j:=5) [0] (k:=D9 (vs:=[.slice an k cn,.func (.func 55) #[] #[pt b4]]) Tryz.func41 (xhasNm_ (x.attrs.take k) k (by rw [List.length_take]; omega) an cn S (by rw [xaV_take]; exact rd_take hra _) (by rw [List.length_take]; omega) y b4 _ _ (fun y o h=>At.cons (hS y o h))) ?_)
  rintro _ _ ⟨rfl,rfl⟩
  refine A5 [] [1,2,45,46,47,91] (k:=A0 (B1 (b:=((x.attrs.take k).any (sameN y))) kr (fun hc6=>?_) (fun hc6=>?_)))
  have hsn:(x.attrs.take k).any (sameN y)=true:=hc6
  refine A1 (C3 (E':=[⟨4,[],.bool false⟩]) [0] [4] (k:=A0 (B4 (B0 (A4 (A4 (B0 (A4 ?_))))))))
  refine F8 2 [] (B7 [.tmp 4] [.bool false] (k:=?_))
  exact ⟨by rw [hR,hT,attrsR_step hk,← hy,haf,hsn]; rfl,rfl⟩
  have hsn:(x.attrs.take k).any (sameN y)=false:=hc6
  refine A7 (B8 (A0 (A2 (A3 (j:=1) [0] (k:=D1 92 (((k:Nat):Int)+1) (by omega) (by omega) kr (A5 [0] [1,2,45,46,47] (k:=F8 1 [1] (D2 (s':=(k+1)) [1,2,45,46,47] kr kr ⟨(by omega),(by rw [hT,attrsR_step hk,← hy,haf,hsn]; rfl)⟩ (by omega)))))))))
  ·
   have hk:x.attrs.length≤k:=by have:=hc3; simp only [decide_eq_false_iff_not] at this; omega
   have hA:attrsR [] x.attrs=true:=by rw [hT,List.drop_eq_nil_of_le hk,attrsR]
   refine E7 (A6 (A6 (B6 (A0 (A1 (G_p [0] [1,2,7] (k:=A0 (A1 ?_))))))))
   refine A1 (A2 (A3 (j:=1) [0] (k:=C1 0 3 rfl rfl (A5 [0,0] [1,7,94,95,96] (k:=A0 (B3 (I6 (EI:=(fun ξ:Nat × Bool=>[⟨1,[],.int .i64 d⟩,⟨7,[],.bool ξ.2⟩,⟨94,[],.slice al x.kids.length cl⟩,⟨95,[],.int .i64 ((x.kids.length:Nat):Int)⟩,⟨96,[],.int .i64 ((ξ.1:Nat):Int)⟩])) (HI:=(fun ξ:Nat × Bool=>([(b1,.cells #[.string (bk x.space),.string (bk x.name),.slice an x.attrs.length cn,.slice al x.kids.length cl,.string (bk x.text)] 26 (0,0))]::H))) (Φ:=(fun ξ:Nat × Bool=>(ξ.1≤x.kids.length)∧(kidsR (rtX m) false x.kids=kidsR (rtX m) ξ.2 (x.kids.drop ξ.1)))) (μ:=(fun ξ:Nat × Bool=>x.kids.length - ξ.1)) (s0:=(0,false)) [1,7,94,95,96] kr rfl ⟨(Nat.zero_le _),rfl⟩ ?_)))))))
   rintro ⟨k,last⟩ ⟨hkl,hT⟩
   try dsimp only at hkl hT
   refine A1 (G_p [0] [1,7,94,95,96,97] (k:=A0 (A1 (B1 (b:=decide (((k:Nat):Int)<((x.kids.length:Nat):Int))) kr (fun hc8=>?_) (fun hc8=>?_)))))
   have hk:k<x.kids.length:=by have:=hc8; simp only [decide_eq_true_eq] at this; omega
   obtain ⟨y,yan,ycn,yal,ycl,ycs,hyx,hye,hya,hyl,hyc,hycn⟩:=hrc.get hk
   have hyw:wtX y<wtX x:=by rw [hyx]; exact wtX_kid hk
   have hpy:=W5 y
   refine A7 (A0 (A1 (B3 (A1 (A2 (E4 x.kids.length ((k:Nat):Int) 5 hrl (by exact ⟨by omega,by omega,by intro h; have h2:=congrArg List.length h; rw [hrc.len] at h2; simp only [List.length_nil] at h2; omega⟩) (K0 (ch:=[]) (a:=al) (q:=k * 5) (S:=S) (cs:=cs) (l:=[.string (bk y.space),.string (bk y.name),.slice yan y.attrs.length ycn,.slice yal y.kids.length ycl,.string (bk y.text)]) (hrd:=hrl) (hS:=(fun y o h=>At.cons ((hS y o h)))) (hl:=List.cons_ne_nil _ _) (hv:=(fun _=>(elt5 hye))) (k:=J1 (.agg zN.toArray) (fun b9=>?_)))))))))
   refine D0 0 0 (.agg #[.string (bk y.space),.string (bk y.name),.slice yan y.attrs.length ycn,.slice yal y.kids.length ycl,.string (bk y.text)]) rfl (A5 [] [1,7,9,94,95,96] (k:=A0 (A1 (A2 (A3 (j:=1) [0] (k:=C1 0 1 rfl rfl (A5 [0,0] [1,7,9,10,94,95,96] (k:=A0 ?_))))))))
   refine A1 (A1 (A2 (A3 (j:=5) [0,0,0,0,0] (k:=C2 (ch:=[(106,false),(104,true)]) (b:=b9) (off:=4) (v:=.string (bk y.text)) (hA:=At.grp 0 0 rfl rfl) (k:=A3 (j:=10) [0,5,0,0] (k:=C2 (ch:=[(111,false),(104,true)]) (b:=b9) (off:=4) (v:=.string (bk y.text)) (hA:=At.grp 0 0 rfl rfl) (k:=P7 [(111,false),(104,true)] Tryz.func54 (fun hc=>xplain_ y.text (by omega) _ _ hX) (A3 (j:=16) [0,5,0,0] (k:=?_)))))))))
   refine C2 (ch:=[(117,false),(104,true)]) (b:=b9) (off:=0) (v:=.string (bk y.space)) (hA:=At.grp 0 0 rfl rfl) (k:=A3 (j:=21) [0,5,0,0] (k:=C2 (ch:=[(122,false),(104,true)]) (b:=b9) (off:=2) (v:=.slice yan y.attrs.length ycn) (hA:=At.grp 0 0 rfl rfl) (k:=A3 (j:=24) [0,0] (k:=C2 (ch:=[(122,false),(104,true)]) (b:=b9) (off:=3) (v:=.slice yal y.kids.length ycl) (hA:=At.grp 0 0 rfl rfl) (k:=A3 (j:=34) [0,0,0,5,6,0,0,0,0] (k:=Q0 (ch:=[(136,true),(133,false)]) (b:=b9) (off:=0) (l:=[.string (bk y.space),.string (bk y.name),.slice yan y.attrs.length ycn,.slice yal y.kids.length ycl,.string (bk y.text)]) (hA:=At.grp 0 0 rfl rfl) (k:=A3 (j:=37) [0,0] (k:=N7 139 [(136,true),(133,false)] (x:=.int .i64 (IntKind.wrap .i64 (d+1))) (y:=.int .i64 (d+1)) (by rw [w64 (by omega) (by omega)]) ?_))))))))
   refine P7 [(136,true),(133,false)] Tryz.func27 (fun hc=>hrec y hyw (by omega) m hlm yan ycn yal ycl ycs hycn hya hyl hyc _ _ (fun y o h=>At.cons (At.cons ((hS y o h)))) hX) (A5 [0,6,5] [1,10,94,95,96,143] (k:=A0 (B1 (b:=(((bk y.name).toList==eB.toList)&&((((last||((bk y.text).toList==eB.toList))||(!(plX y.text)))||(!((bk y.space).toList==eB.toList)))||(decide ((IntKind.wrap .i64 (((y.attrs.length:Nat):Int)+((y.kids.length:Nat):Int))) > 0))))||((!((bk y.name).toList==eB.toList))&&(!(rtX m y)))) kr (fun hc10=>?_) (fun hc10=>?_))))
   have hkf:kidF (rtX m) last y=false:=by have h9:=hc10; rw [kidF_eq (by omega)] at h9; simpa using h9
   refine A1 (C3 (E':=[⟨4,[],.bool false⟩]) [0] [4] (k:=A0 (B4 (A4 (B0 (A4 (A4 (B0 ?_))))))))
   refine A4 (F8 2 [] (B7 [.tmp 4] [.bool false] (k:=?_)))
   exact ⟨by rw [hR,hA,hT,kidsR_step hk,← hyx,hkf]; rfl,rfl⟩
   have hkf:kidF (rtX m) last y=true:=by have h9:=hc10; rw [kidF_eq (by omega)] at h9; simpa using h9
   refine A7 (A0 (G_p [0,0] [1,7,94,95,96] (k:=B8 (A0 (A2 (A3 (j:=1) [0] (k:=D1 145 (((k:Nat):Int)+1) (by omega) (by omega) kr (A5 [0] [1,7,94,95,96] (k:=?_)))))))))
   refine F8 1 [1] (D2 (s':=(k+1,((bk y.name).toList==eB.toList))) [1,7,94,95,96] kr kr ⟨(by dsimp only; omega),(by dsimp only; rw [hT,kidsR_step hk,← hyx,hkf,bkN]; rfl)⟩ (by dsimp only; omega))
   have hk:x.kids.length≤k:=by have:=hc8; simp only [decide_eq_false_iff_not] at this; omega
   have hK:kidsR (rtX m) false x.kids=true:=by rw [hT,List.drop_eq_nil_of_le hk,kidsR]
   refine E7 (A6 (A6 (B6 (A0 (A1 (C3 (E':=[⟨4,[],.bool true⟩]) [0] [4] (k:=A0 (B4 ?_))))))))
   refine F8 1 [] (B7 [.tmp 4] [.bool true] (k:=?_))
   exact ⟨by rw [hR,hA,hK]; rfl,rfl⟩
theorem xright_:∀ (n:Nat) (x:XN),wtX x≤n→wtX x≤80000→∀ (lv:Nat),lv≤24→∀ (d:Int),d=24 - (lv:Int)→∀ (an:Option Addr) (cn:Nat) (al:Option Addr) (cl:Nat) (cs:List Value) (S:Nat→Obj→Prop),x.attrs.length≤cn→Rd S an (xaV x.attrs)→Rd S al cs→XRdL S x.kids cs→∀ (W0:World) (H:List Grp),(∀ z o,S z o→At W0 H z o)→T9 W0→Tri Tryz.prog 27 #[.agg (xvC x an cn al cl).toArray,.int .i64 d] W0 H (fun v H'=>v=.bool (rtX lv x)∧H'=H)
 | 0,x,h,_,_,_,_,_,_,_,_,_,_,_,_,_,_,_,_,_,_,_=>absurd (wtX_pos x) (by omega)
 | n+1,x,h,hw,lv,hlv,d,hd,an,cn,al,cl,cs,S,h0,h1,h2,h3,W0,H,hS,hX=>xrightW_ x an cn al cl cs S h1 h2 h3 h0 lv hlv d hd hw (fun y hy hwy m hm an cn al cl cs h0 h1 h2 h3 W0 H hS hX=>xright_ n y (by omega) hwy m (by omega) (d+1) (by omega) an cn al cl cs S h0 h1 h2 h3 W0 H hS hX) W0 H hS hX
end Go.Proofs.YtcgmnagcgkhogabGreatDoor
namespace Go.Proofs.YtcgmnagcgkhogabGreatDoor
open Go.Sw Go.Sha Go.Esc Go.RowKit Go.Json Go.Xml
theorem bkoX (l:List UInt8) (t:ByteArray):(t++bk l).data.toList=t.data.toList++l:=L8 _ _
theorem bkX (l:List UInt8):(bk l).data.toList=l:=rfl
theorem ba_extX {s t:ByteArray} (h:s.data.toList=t.data.toList):s=t:=ByteArray.ext (Array.ext' h)
theorem Z2 (t:ByteArray):t.data.toList.length=t.size:=Array.length_toList
theorem sz2X (a b:UInt8):(⟨#[a,b]⟩:ByteArray).size=2:=rfl
theorem sz7X (a b c d e f g:UInt8):(⟨#[a,b,c,d,e,f,g]⟩:ByteArray).size=7:=rfl
theorem xwriteW_ (x:XN) (an:Option Addr) (cn:Nat) (al:Option Addr) (cl:Nat) (cs:List Value) (S:Nat→Obj→Prop) (hra:Rd S an (xaV x.attrs)) (hrl:Rd S al cs) (hrc:XRdL S x.kids cs) (sp:List UInt8) (hw:wtX x≤80000) (b:Nat) (p v:Value) (g:Grp) (t0:ByteArray) (hp:Bld b p) (hv:BOwn v g t0) (hs:t0.size+150 * wtX x≤10000000000) (hrec:∀ (y:XN),wtX y<wtX x→wtX y≤80000→∀ (sp:List UInt8) (an:Option Addr) (cn:Nat) (al:Option Addr) (cl:Nat) (cs:List Value),Rd S an (xaV y.attrs)→Rd S al cs→XRdL S y.kids cs→∀ (b:Nat) (p v:Value) (g:Grp) (t:ByteArray) (_:Bld b p) (_:BOwn v g t) (_:t.size+150 * wtX y≤10000000000) (W0:World) (H:List Grp),(∀ z o,S z o→At W0 H z o)→Tri Tryz.prog 28 #[pt b,.agg (xvC y an cn al cl).toArray,.string (bk sp)] W0 (bldG b p v::g::H) (fun _ H'=>∃ v' g',BOwn v' g' (t++bk (prX sp y))∧H'=bldG b (.pointer (some ⟨b,0,none⟩)) v'::g'::H)) (W0:World) (H:List Grp) (hS:∀ y o,S y o→At W0 H y o):Tri Tryz.prog 28 #[pt b,.agg #[.string (bk x.space),.string (bk x.name),.slice an x.attrs.length cn,.slice al x.kids.length cl,.string (bk x.text)],.string (bk sp)] W0 ([(b,.cells #[p,v] 64 (0,0))]::g::H) (fun _ H'=>∃ v' g',BOwn v' g' (t0++bk (prX sp x))∧H'=bldG b (.pointer (some ⟨b,0,none⟩)) v'::g'::H):=by
 have hpx:=W5 x
 have hsx:=wtX_sum x
 have hqs:=quoX_len x.space
 have hht:=html_len x.text
 refine D5 78 Tryz.func28 ?_
 refine A1 (A2 (V5 (.agg #[.string (bk x.space),.string (bk x.name),.slice an x.attrs.length cn,.slice al x.kids.length cl,.string (bk x.text)]) (fun b1=>A5 [] [0,2,4] (k:=A0 (A1 (A1 (A2 (A3 (j:=1) [0] (k:=?_)))))))))
 refine C1 0 1 rfl rfl (A5 [0] [0,2,4,12] (k:=A0 (B1 (b:=(bk x.name).toList==eB.toList) kr (fun hc2=>?_) (fun hc2=>?_))))
 have hn:x.name=[]:=(eqB _ _).1 hc2
 refine A1 (A2 (A3 (j:=2) [0,0] (k:=C1 0 4 rfl rfl (H6 Tryz.func57 (html_ (bk x.text) (by rw [C9]; omega) _ _) (M1 0 [1,1] (D9 Tryz.func56 (O5 b (p) (v) g t0 (bk (A0g x.text)) hp hv (by (try simp only [C9]); omega) _ _) ?_))))))
 rintro _ _ ⟨v3,g4,hB5,rfl⟩
 refine C0 (E':=[]) [] [] (k:=A0 (B4 (A4 (F8 1 [0,0] (B7 [] [] (k:=?_))))))
 exact ⟨_,_,(by rw [prX_text hn]; exact hB5),rfl⟩
 have hn:x.name≠[]:=(eqBf _ _).1 hc2
 refine A7 (A0 (A1 (A2 (A3 (j:=2) [0,0] (k:=C1 0 1 rfl rfl (V4 (mB #[60]) (bk x.name) (by intro _; simp only [C9,List.length_cons,List.length_nil]; omega) (M1 0 [1,1] (D9 Tryz.func56 (O5 b (p) (v) g t0 ((mB #[60])++(bk x.name)) hp hv (by (try simp only [I8,C9,List.length_cons,List.length_nil]); omega) _ _) ?_))))))))
 rintro _ _ ⟨v6,g7,hB8,rfl⟩
 refine A5 [] [0,2,4] (k:=A0 (A1 (A1 (A2 (A3 (j:=1) [0] (k:=C1 2 0 rfl rfl (A5 [0,0] [0,4,26] (k:=A0 ?_))))))))
 refine P6 (T:=Value × Value × Grp × ByteArray) (fun ξ:Value × Value × Grp × ByteArray=>[⟨0,[],pt b⟩,⟨4,[],pt b1⟩]) (fun ξ:Value × Value × Grp × ByteArray=>([(b,.cells #[ξ.1,ξ.2.1] 64 (0,0))]::ξ.2.2.1::[(b1,.cells #[.string (bk x.space),.string (bk x.name),.slice an x.attrs.length cn,.slice al x.kids.length cl,.string (bk x.text)] 26 (0,0))]::H)) (fun ξ:Value × Value × Grp × ByteArray=>(Bld b ξ.1)∧(BOwn ξ.2.1 ξ.2.2.1 ξ.2.2.2)∧(ξ.2.2.2.data.toList=t0.data.toList++prH sp x)) ?_ ?_
 refine B1 (b:=!((bk x.space).toList==(bk sp).toList)) kr (fun hc9=>?_) (fun hc9=>?_)
 have hspc:spcP x.space sp=[32,120,109,108,110,115,61]++quoX x.space:=spcP_ne (show x.space≠sp from (eqBf (bk x.space) (bk sp)).1 (by simpa only [Bool.not_eq_true'] using hc9))
 refine A2 (A3 (j:=2) [0,0] (k:=C1 2 0 rfl rfl (H6 Tryz.func58 (xquoted_ x.space (by omega) _ _) (V4 (mB #[32,120,109,108,110,115,61]) (bk (quoX x.space)) (by intro _; simp only [C9,List.length_cons,List.length_nil]; omega) (D9 Tryz.func56 (O5 b (pt b) (v6) g7 (t0++((mB #[60])++(bk x.name))) ((mB #[32,120,109,108,110,115,61])++(bk (quoX x.space))) bld1 hB8 (by (try simp only [I8,C9,List.length_cons,List.length_nil]); omega) _ _) ?_)))))
 rintro _ _ ⟨v10,g11,hB12,rfl⟩
 refine C0 (E':=[⟨0,[],pt b⟩,⟨4,[],pt b1⟩]) [] [0,4] (k:=E6 (pt b,v10,g11,((t0++((mB #[60])++(bk x.name)))++((mB #[32,120,109,108,110,115,61])++(bk (quoX x.space))))) [0,4] kr (fun w h=>h) ⟨bld1,hB12,(by simp only [prH,hspc,L8,List.append_assoc,List.cons_append,List.nil_append] <;> rfl)⟩)
 have hspc:spcP x.space sp=[]:=spcP_eq (show x.space=sp from (eqB (bk x.space) (bk sp)).1 (by simpa only [Bool.not_eq_false'] using hc9))
 refine A7 (E6 (pt b,v6,g7,(t0++((mB #[60])++(bk x.name)))) [0,4] kr (fun w h=>h) ⟨bld1,hB8,(by simp only [prH,hspc,L8,List.append_nil,List.cons_append,List.nil_append] <;> rfl)⟩)
 rintro ⟨p1,v1,g1,t1⟩ ⟨hb1,hB1,hT1⟩
 dsimp only at hb1 hB1 hT1
 have ht1:t1.size≤t0.size+x.name.length+144 * x.space.length+10:=by
  have h1:=congrArg List.length hT1
  have h2:=spcP_len x.space sp
  rw [List.length_append,Z2,Z2] at h1; unfold prH at h1; rw [List.cons_append,List.length_cons,List.length_append] at h1; omega
 refine A0 (A1 (A1 (A2 (A3 (j:=1) [0] (k:=C1 2 2 rfl rfl (A5 [0,0] [0,4,34,35,36] (k:=A0 (B3 ?_))))))))
 refine I6 (EI:=(fun ξ:Value × Value × Grp × ByteArray × Nat=>[⟨0,[],pt b⟩,⟨4,[],pt b1⟩,⟨34,[],.slice an x.attrs.length cn⟩,⟨35,[],.int .i64 ((x.attrs.length:Nat):Int)⟩,⟨36,[],.int .i64 ((ξ.2.2.2.2:Nat):Int)⟩])) (HI:=(fun ξ:Value × Value × Grp × ByteArray × Nat=>([(b,.cells #[ξ.1,ξ.2.1] 64 (0,0))]::ξ.2.2.1::[(b1,.cells #[.string (bk x.space),.string (bk x.name),.slice an x.attrs.length cn,.slice al x.kids.length cl,.string (bk x.text)] 26 (0,0))]::H))) (Φ:=(fun ξ:Value × Value × Grp × ByteArray × Nat=>(Bld b ξ.1)∧(BOwn ξ.2.1 ξ.2.2.1 ξ.2.2.2.1)∧(ξ.2.2.2.2≤x.attrs.length)∧(ξ.2.2.2.1.data.toList=t0.data.toList++prH sp x++attsP (x.attrs.take ξ.2.2.2.2)))) (μ:=(fun ξ:Value × Value × Grp × ByteArray × Nat=>x.attrs.length - ξ.2.2.2.2)) (s0:=(p1,v1,g1,t1,0)) [0,4,34,35,36] kr rfl ⟨hb1,hB1,(Nat.zero_le _),(by rw [hT1,List.take_zero]; exact (List.append_nil _).symm)⟩ ?_
 rintro ⟨p,v,g,t,k⟩ ⟨hbp,hB,hkl,hT⟩
 dsimp only at hbp hB hkl hT
 have hta:t.size≤t1.size+150 * wtA x.attrs:=by
  have h1:=congrArg List.length hT
  have h2:=attsP_len (x.attrs.take k)
  have h3:=wtA_take x.attrs k
  rw [← hT1,List.length_append,Z2,Z2] at h1; omega
 refine A1 (G_p [0] [0,4,34,35,36,37] (k:=A0 (A1 (B1 (b:=decide (((k:Nat):Int)<((x.attrs.length:Nat):Int))) kr (fun hc13=>?_) (fun hc13=>?_)))))
 have hk:k<x.attrs.length:=by have:=hc13; simp only [decide_eq_true_eq] at this; omega
 refine A7 (A0 (A1 (B3 (A1 (A2 (E4 x.attrs.length ((k:Nat):Int) 3 hra (by exact ⟨by omega,by omega,by intro h; have h2:=congrArg List.length h; rw [A0a] at h2; simp only [List.length_nil] at h2; omega⟩) ?_))))))
 obtain ⟨y,hy⟩:∃ y,y=x.attrs[k]'hk:=⟨_,rfl⟩
 have hyz:=wtA_at hk
 rw [← hy] at hyz
 have hqy:=quoX_len y.value
 refine K0 (ch:=[]) (a:=an) (q:=k * 3) (S:=S) (cs:=(xaV x.attrs)) (l:=[.string (bk y.space),.string (bk y.name),.string (bk y.value)]) (hrd:=hra) (hS:=(fun y o h=>At.cons (At.cons (At.cons ((hS y o h)))))) (hl:=List.cons_ne_nil _ _) (hv:=(fun _=>(elt3 (by rw [hy]; exact xaV_at hk)))) (k:=J1 (.agg #[.string eB,.string eB,.string eB]) (fun b14=>D0 0 0 (.agg #[.string (bk y.space),.string (bk y.name),.string (bk y.value)]) rfl (A5 [] [0,4,7,34,35,36] (k:=A0 (H4 ([(b14,.cells #[.string (bk y.space),.string (bk y.name),.string (bk y.value)] 59 (0,0))]::[(b1,.cells #[.string (bk x.space),.string (bk x.name),.slice an x.attrs.length cn,.slice al x.kids.length cl,.string (bk x.text)] 26 (0,0))]::H) kr (G1 (fuel:=8) [(0,0),(1,0)] (fun w h=>(h.pkT 2 [0,2])) (k:=F6 2 kr (fun w h=>(h.pkT 2 [0,2])) (C1 0 1 rfl rfl (G6 kr rfl)) (F6 3 kr (fun w h=>(h.pkT 2 [0,2])) (V4 (mB #[32]) (bk y.name) (by intro _; simp only [C9,List.length_cons,List.length_nil]; omega) (G6 kr rfl)) ?_))))))))
 refine F6 4 kr (fun w h=>(h.pkT 2 [0,2])) (V4 ((mB #[32])++(bk y.name)) (mB #[61]) (by intro _; simp only [I8,C9,List.length_cons,List.length_nil]; omega) (G6 kr rfl)) (G1 (fuel:=4) [(5,0)] (fun w h=>(h.pkT 2 [0,2])) (k:=F6 6 kr (fun w h=>(h.pkT 2 [0,2])) (C1 0 2 rfl rfl (G6 kr rfl)) (C6 7 (k:=H6 Tryz.func58 (xquoted_ y.value (by omega) _ _) (A9 kr (fun w h=>(h.pkT 2 [0,2])) (F6 8 kr (fun w h=>(h.pkT 2 [0,2])) (V4 (((mB #[32])++(bk y.name))++(mB #[61])) (bk (quoX y.value)) (by intro _; simp only [I8,C9,List.length_cons,List.length_nil]; omega) (G6 kr rfl)) (C6 9 (k:=M1 0 [1,1] ?_))))))))
 refine D9 Tryz.func56 (O5 b (p) (v) g t ((((mB #[32])++(bk y.name))++(mB #[61]))++(bk (quoX y.value))) hbp hB (by (try simp only [I8,C9,List.length_cons,List.length_nil]); omega) _ _) ?_
 rintro _ _ ⟨v15,g16,hB17,rfl⟩
 refine A9 kr (fun w h=>(h.pk 2 [2,2])) (D8 (E':=[⟨0,[],pt b⟩,⟨4,[],pt b1⟩,⟨34,[],.slice an x.attrs.length cn⟩,⟨35,[],.int .i64 ((x.attrs.length:Nat):Int)⟩,⟨36,[],.int .i64 ((k:Nat):Int)⟩]) [0,4,34,35,36] (k:=B8 (A0 (A2 (A3 (j:=1) [0] (k:=D1 50 (((k:Nat):Int)+1) (by omega) (by omega) kr (A5 [0] [0,4,34,35,36] (k:=F8 1 [0,0,1] ?_))))))))
 refine D2 (s':=(pt b,v15,g16,(t++((((mB #[32])++(bk y.name))++(mB #[61]))++(bk (quoX y.value)))),k+1)) [0,4,34,35,36] kr kr ⟨bld1,hB17,(by dsimp only; omega),(by dsimp only; rw [attsP_take hk,← hy]; unfold attP; simp only [L8,hT,List.append_assoc,List.cons_append,List.nil_append] <;> rfl)⟩ (by dsimp only; omega)
 have hk:x.attrs.length≤k:=by have:=hc13; simp only [decide_eq_false_iff_not] at this; omega
 rw [List.take_of_length_le hk] at hT
 have hTa:=hT
 obtain ⟨tz,htz⟩:∃ n,n=t.size:=⟨_,rfl⟩
 refine E7 (A6 (A6 (B6 (A0 (A1 (A1 (A2 (A3 (j:=1) [0] (k:=?_)))))))))
 refine C1 2 3 rfl rfl (A5 [0,0] [0,4,54] (k:=A0 (B1 (b:=((x.kids.length:Nat):Int)==0) kr (fun hc19=>?_) (fun hc19=>?_))))
 have hk0:x.kids.length=0:=by have:=hc19; simp only [beq_iff_eq] at this; omega
 refine A1 (A2 (A3 (j:=1) [0] (k:=D9 Tryz.func56 (O5 b (p) (v) g t (mB #[47,62]) hbp hB (by (try simp only [C9,List.length_cons,List.length_nil]); omega) _ _) ?_)))
 rintro _ _ ⟨v20,g21,hB22,rfl⟩
 refine C0 (E':=[]) [] [] (k:=A0 (B4 (A4 (F8 1 [0,0] (B7 [] [] (k:=?_))))))
 exact ⟨_,_,(by rw [show t0++bk (prX sp x)=(t++(mB #[47,62])) from (ba_extX (by rw [prX_none hn hk0]; simp only [L8,hTa,List.append_assoc] <;> rfl)).symm]; exact hB22),rfl⟩
 have hk0:¬ x.kids.length=0:=by have:=hc19; simp only [beq_eq_false_iff_ne,ne_eq] at this; omega
 refine A7 (A0 (A1 (A2 (A3 (j:=1) [0] (k:=D9 Tryz.func59 (writeByteC b (p) (v) g t (Nat.toUInt8 62) hbp hB (by (try simp only [I8,C9,sz1,sz2X,sz7X,List.length_cons,List.length_nil]); omega) _ _) ?_)))))
 rintro _ _ ⟨v23,g24,hB25,rfl⟩
 refine C0 (E':=[⟨0,[],pt b⟩,⟨4,[],pt b1⟩]) [] [0,4] (k:=A0 (A1 (A1 (A2 (A3 (j:=1) [0] (k:=C1 2 3 rfl rfl (A5 [0,0] [0,4,60,61,62] (k:=A0 ?_))))))))
 refine B3 (I6 (EI:=(fun ξ:Value × Value × Grp × ByteArray × Nat=>[⟨0,[],pt b⟩,⟨4,[],pt b1⟩,⟨60,[],.slice al x.kids.length cl⟩,⟨61,[],.int .i64 ((x.kids.length:Nat):Int)⟩,⟨62,[],.int .i64 ((ξ.2.2.2.2:Nat):Int)⟩])) (HI:=(fun ξ:Value × Value × Grp × ByteArray × Nat=>([(b,.cells #[ξ.1,ξ.2.1] 64 (0,0))]::ξ.2.2.1::[(b1,.cells #[.string (bk x.space),.string (bk x.name),.slice an x.attrs.length cn,.slice al x.kids.length cl,.string (bk x.text)] 26 (0,0))]::H))) (Φ:=(fun ξ:Value × Value × Grp × ByteArray × Nat=>(Bld b ξ.1)∧(BOwn ξ.2.1 ξ.2.2.1 ξ.2.2.2.1)∧(ξ.2.2.2.2≤x.kids.length)∧(ξ.2.2.2.1.data.toList=t0.data.toList++prH sp x++attsP x.attrs++62::prL x.space (x.kids.take ξ.2.2.2.2)))) (μ:=(fun ξ:Value × Value × Grp × ByteArray × Nat=>x.kids.length - ξ.2.2.2.2)) (s0:=(pt b,v23,g24,(t++⟨#[Nat.toUInt8 62]⟩),0)) [0,4,60,61,62] kr rfl ⟨bld1,hB25,(Nat.zero_le _),(by dsimp only; rw [List.take_zero,Xml.prL_nil,← hTa]; simp only [L8] <;> rfl)⟩ ?_)
 rintro ⟨p,v,g,t,k⟩ ⟨hbp,hB,hkl,hT2⟩
 dsimp only at hbp hB hkl hT2
 have htk:t.size≤tz+1+150 * wtXL (x.kids.take k):=by
  have h1:=congrArg List.length hT2
  have h2:=Xml.prL_len x.space (x.kids.take k)
  have h3:=congrArg List.length hTa
  rw [List.length_append,List.length_cons,← h3,Z2,Z2] at h1; omega
 refine A1 (G_p [0] [0,4,60,61,62,63] (k:=A0 (A1 (B1 (b:=decide (((k:Nat):Int)<((x.kids.length:Nat):Int))) kr (fun hc26=>?_) (fun hc26=>?_)))))
 have hk:k<x.kids.length:=by have:=hc26; simp only [decide_eq_true_eq] at this; omega
 obtain ⟨y,yan,ycn,yal,ycl,ycs,hyx,hye,hya,hyl,hyc,hycn⟩:=hrc.get hk
 have hyw:wtX y<wtX x:=by rw [hyx]; exact wtX_kid hk
 have hst:=wtXL_step hk
 rw [← hyx] at hst
 have hyn:=prX_len x.space y
 refine A7 (A0 (A1 (B3 (A1 (A2 (E4 x.kids.length ((k:Nat):Int) 5 hrl (by exact ⟨by omega,by omega,by intro h; have h2:=congrArg List.length h; rw [hrc.len] at h2; simp only [List.length_nil] at h2; omega⟩) (K0 (ch:=[]) (a:=al) (q:=k * 5) (S:=S) (cs:=cs) (l:=[.string (bk y.space),.string (bk y.name),.slice yan y.attrs.length ycn,.slice yal y.kids.length ycl,.string (bk y.text)]) (hrd:=hrl) (hS:=(fun y o h=>At.cons (At.cons (At.cons ((hS y o h)))))) (hl:=List.cons_ne_nil _ _) (hv:=(fun _=>(elt5 hye))) (k:=J1 (.agg zN.toArray) (fun b27=>?_)))))))))
 refine D0 0 0 (.agg #[.string (bk y.space),.string (bk y.name),.slice yan y.attrs.length ycn,.slice yal y.kids.length ycl,.string (bk y.text)]) rfl (A5 [] [0,4,9,60,61,62] (k:=A0 (A2 (A3 (j:=1) [0] (k:=M9 0 0 5 rfl (A3 (j:=3) [0] (k:=C1 3 0 rfl rfl (M1 0 [1,1] ?_))))))))
 refine D9 Tryz.func28 (hrec y hyw (by omega) x.space yan ycn yal ycl ycs hya hyl hyc b (p) (v) g t hbp hB (by (try simp only [I8,C9,sz1,sz2X,sz7X,List.length_cons,List.length_nil]); omega) _ _ (fun y o h=>At.cons (At.cons (hS y o h)))) ?_
 rintro _ _ ⟨v28,g29,hB30,rfl⟩
 refine A5 [] [0,4,60,61,62] (k:=B8 (A0 (A2 (A3 (j:=1) [0] (k:=D1 71 (((k:Nat):Int)+1) (by omega) (by omega) kr (A5 [0] [0,4,60,61,62] (k:=F8 1 [0,0,1] (D2 (s':=(pt b,v28,g29,(t++bk (prX x.space y)),k+1)) [0,4,60,61,62] kr kr ⟨bld1,hB30,(by dsimp only; omega),(by dsimp only; rw [prL_take hk,← hyx]; simp only [bkoX,hT2,List.append_assoc,List.cons_append])⟩ (by dsimp only; omega)))))))))
 have hk:x.kids.length≤k:=by have:=hc26; simp only [decide_eq_false_iff_not] at this; omega
 have hst:=wtXL_take x.kids k
 rw [List.take_of_length_le hk] at hT2
 refine E7 (A6 (A6 (B6 (A0 (A2 (A3 (j:=2) [0,0] (k:=C1 2 1 rfl rfl (V4 (mB #[60,47]) (bk x.name) (by intro _; simp only [C9,List.length_cons,List.length_nil]; omega) ?_))))))))
 refine V4 ((mB #[60,47])++(bk x.name)) (mB #[62]) (by intro _; simp only [I8,C9,List.length_cons,List.length_nil]; omega) (D9 Tryz.func56 (O5 b (p) (v) g t (((mB #[60,47])++(bk x.name))++(mB #[62])) hbp hB (by (try simp only [I8,C9,List.length_cons,List.length_nil]); omega) _ _) ?_)
 rintro _ _ ⟨v32,g33,hB34,rfl⟩
 refine C0 (E':=[]) [] [] (k:=F8 1 [0,0] (B7 [] [] (k:=?_)))
 exact ⟨_,_,(by rw [show t0++bk (prX sp x)=(t++(((mB #[60,47])++(bk x.name))++(mB #[62]))) from (ba_extX (by rw [prX_kids hn hk0]; simp only [L8,hT2,List.append_assoc,List.cons_append,List.nil_append] <;> rfl)).symm]; exact hB34),rfl⟩
theorem xwrite_:∀ (n:Nat) (x:XN),wtX x≤n→wtX x≤80000→∀ (sp:List UInt8) (an:Option Addr) (cn:Nat) (al:Option Addr) (cl:Nat) (cs:List Value) (S:Nat→Obj→Prop),Rd S an (xaV x.attrs)→Rd S al cs→XRdL S x.kids cs→∀ (b:Nat) (p v:Value) (g:Grp) (t:ByteArray) (_:Bld b p) (_:BOwn v g t) (_:t.size+150 * wtX x≤10000000000) (W0:World) (H:List Grp),(∀ z o,S z o→At W0 H z o)→Tri Tryz.prog 28 #[pt b,.agg (xvC x an cn al cl).toArray,.string (bk sp)] W0 (bldG b p v::g::H) (fun _ H'=>∃ v' g',BOwn v' g' (t++bk (prX sp x))∧H'=bldG b (.pointer (some ⟨b,0,none⟩)) v'::g'::H)
 | 0,x,h,_,_,_,_,_,_,_,_,_,_,_,_,_,_,_,_,_,_,_,_,_,_=>absurd (wtX_pos x) (by omega)
 | n+1,x,hz,hw,sp,an,cn,al,cl,cs,S,h1,h2,h3,b,p,v,g,t,hp,hv,hs,W0,H,hS=>xwriteW_ x an cn al cl cs S h1 h2 h3 sp hw b p v g t hp hv hs (fun y hy hwy sp an cn al cl cs h1 h2 h3 b p v g t hp hv hs W0 H hS=>xwrite_ n y (by omega) hwy sp an cn al cl cs S h1 h2 h3 b p v g t hp hv hs W0 H hS) W0 H hS
end Go.Proofs.YtcgmnagcgkhogabGreatDoor
namespace Go.Proofs.YtcgmnagcgkhogabGreatDoor
open Go.Sw Go.Sha Go.Esc Go.RowKit Go.Json Go.Xml
theorem xprint_ (x:XN) (an:Option Addr) (cn:Nat) (al:Option Addr) (cl:Nat) (cs:List Value) (S:Nat→Obj→Prop) (hra:Rd S an (xaV x.attrs)) (hrl:Rd S al cs) (hrc:XRdL S x.kids cs) (hcn:x.attrs.length≤cn) (hw:wtX x≤80000) (W0:World) (H:List Grp) (hS:∀ y o,S y o→At W0 H y o) (hX:T9 W0):Tri Tryz.prog 10 #[.agg #[.string (bk x.space),.string (bk x.name),.slice an x.attrs.length cn,.slice al x.kids.length cl,.string (bk x.text)]] W0 H (fun v H'=>v=(if rtX 24 x then .tuple #[.string (bk (prX [] x)),.int .i64 0] else .tuple #[.string eB,.int .i64 2])∧H'=H):=by
 have hpl:=prX_len [] x
 refine D5 11 Tryz.func10 ?_
 refine A1 (A2 (V5 (.agg #[.string (bk x.space),.string (bk x.name),.slice an x.attrs.length cn,.slice al x.kids.length cl,.string (bk x.text)]) (fun b1=>C0 (E':=[⟨1,[],pt b1⟩]) [0,0] [1] (k:=A0 (A1 (A1 (A2 (M9 0 0 5 rfl ?_))))))))
 refine H6 (vs:=[.agg #[.string (bk x.space),.string (bk x.name),.slice an x.attrs.length cn,.slice al x.kids.length cl,.string (bk x.text)],.int .i64 0]) Tryz.func27 (xright_ (wtX x) x (Nat.le_refl _) (by omega) 24 (Nat.le_refl _) 0 (by decide) an cn al cl cs S hcn hra hrl hrc _ _ (fun y o h=>At.cons ((hS y o h))) hX) (A5 [0] [1,7] (k:=A0 (B1 (b:=!(rtX 24 x)) kr (fun hc2=>?_) (fun hc2=>?_))))
 have hr:rtX 24 x=false:=by simpa using hc2
 refine A1 (G_p [0,0] [2,3] (k:=A0 (B4 (A4 (F8 1 [] (B7 [.tmp 2,.tmp 3] [.string eB,.int .i64 2] (k:=?_)))))))
 exact ⟨by rw [hr]; rfl,rfl⟩
 have hr:rtX 24 x=true:=by simpa using hc2
 refine A7 (A0 (A1 (A2 (J1 (.agg #[.pointer none,.slice none 0 0]) (fun b3=>GL_heap rfl (H':=([(b3,.cells #[.pointer none,.slice none 0 0] 64 (0,0))]::[]::[(b1,.cells #[.string (bk x.space),.string (bk x.name),.slice an x.attrs.length cn,.slice al x.kids.length cl,.string (bk x.text)] 26 (0,0))]::H)) (fun w h=>h.flat (List.Perm.refl _)) (C0 (E':=[⟨1,[],pt b1⟩,⟨4,[],pt b3⟩]) [] [1,4] (k:=A0 (A1 ?_))))))))
 refine A2 (M9 2 0 5 rfl (D9 (vs:=[pt b3,.agg #[.string (bk x.space),.string (bk x.name),.slice an x.attrs.length cn,.slice al x.kids.length cl,.string (bk x.text)],.string eB]) Tryz.func28 (xwrite_ (wtX x) x (Nat.le_refl _) (by omega) [] an cn al cl cs S hra hrl hrc b3 (.pointer none) (.slice none 0 0) [] .empty bld0 bown0 (by show 0+_≤_; omega) _ _ (fun y o h=>At.cons (hS y o h))) ?_))
 rintro _ _ ⟨v4,g5,hB6,rfl⟩
 refine C0 (E':=[⟨4,[],pt b3⟩]) [] [4] (k:=A0 (A1 (A2 (D9 (vs:=[pt b3]) Tryz.func29 (A0j b3 (pt b3) (v4) g5 (.empty++bk (prX ([]) x)) hB6 (by (try simp only [I8,C9]); show 0+_≤_; omega) _ _) ?_))))
 rintro _ _ ⟨rfl,rfl⟩
 refine A5 [0,0] [2,3] (k:=A0 (B4 (F8 2 [] (B7 [.tmp 2,.tmp 3] [.string (.empty++bk (prX ([]) x)),.int .i64 0] (k:=?_)))))
 exact ⟨by rw [hr]; exact congrArg (fun t=>Value.tuple #[.string t,.int .i64 0]) (ba_extX (L8 _ _)),rfl⟩
end Go.Proofs.YtcgmnagcgkhogabGreatDoor
namespace Go.Xml
open Go.Esc Go.Json Go.Sw
def V2:XN:=.mk [118] [99] [] [.mk [] [] [] [] [116,38]] []
def V1:XN:=.mk [117] [97] [⟨[],[98],[60]⟩] [V2] []
theorem v1_par:I5 [60,97,32,120,109,108,110,115,61,34,117,34,32,98,61,34,38,108,116,59,34,62,60,120,58,99,32,120,109,108,110,115,58,120,61,34,118,34,62,116,60,33,45,45,114,45,45,62,38,97,109,112,59,60,47,120,58,99,62,60,47,97,62]=(V1,0):=by kernel_rfl
theorem v1_bad:(I5 [60,97,62,60,98,62,60,47,97,62]).2=70:=by kernel_rfl
theorem v1_right:rtX 24 V1=true:=by kernel_rfl
theorem v1_print:prX [] V1=[60,97,32,120,109,108,110,115,61,34,117,34,32,98,61,34,38,108,116,59,34,62,60,99,32,120,109,108,110,115,61,34,118,34,62,116,38,97,109,112,59,60,47,99,62,60,47,97,62]:=by kernel_rfl
theorem v1_find:allX V1 [118] [99]=[V2]:=by kernel_rfl
theorem v1_wt:wtX V1≤100:=Nat.le_of_ble_eq_true (by kernel_rfl)
theorem v2_wt:wtX V2≤100:=Nat.le_of_ble_eq_true (by kernel_rfl)
end Go.Xml
namespace Go.Proofs.YtcgmnagcgkhogabGreatDoor
open Go.Sw Go.Sha Go.Esc Go.RowKit Go.Json Go.Xml
theorem rd_cast {S:Nat→Obj→Prop} {a:Option Addr} {cs cs':List Value} (h:Rd S a cs) (he:cs=cs'):Rd S a cs':=he ▸ h
theorem xparseV (a:Option Addr) (c:Nat) (l:List UInt8) (S:Nat→Obj→Prop) (hrd:Rd S a (u8s l)) (x:XN) (e:Int) (hp:I5 l=(x,e)) (W0:World) (H:List Grp) (hS:∀ y o,S y o→At W0 H y o) (hX:T9 W0):Tri Tryz.prog 5 #[.slice a l.length c] W0 H (fun v H2=>∃ c g,XRep 59 26 x c g∧v=.tuple #[.agg c.toArray,.int .i64 e]∧H2=g::H):=by
 have h:=xparse_ a c l S hrd W0 H hS hX
 rw [hp] at h; exact h
theorem xprintC (x:XN) (c:List Value) (S:Nat→Obj→Prop) (h:XRd S x c) (hw:wtX x≤80000) (u:Value) (hu:(if rtX 24 x then .tuple #[.string (bk (prX [] x)),.int .i64 0] else .tuple #[.string eB,.int .i64 2])=u) (W0:World) (H:List Grp) (hS:∀ z o,S z o→At W0 H z o) (hX:T9 W0):Tri Tryz.prog 10 #[.agg c.toArray] W0 H (fun v H'=>v=u∧H'=H):=by
 obtain ⟨an,al,cn,cl,cs,rfl,a1,a2,a3,a4⟩:=h.shape
 subst hu
 exact xprint_ x an cn al cl cs S a1 a2 a3 a4 hw W0 H hS hX
theorem xvalueC (x:XN) (c:List Value) (S:Nat→Obj→Prop) (h:XRd S x c) (hw:wtX x≤100000000) (nm:List UInt8) (W0:World) (H:List Grp) (hS:∀ z o,S z o→At W0 H z o):Tri Tryz.prog 11 #[.agg c.toArray,.string (bk nm)] W0 H (fun v H'=>v=.string (bk (vlX x.attrs nm))∧H'=H):=by
 obtain ⟨an,al,cn,cl,cs,rfl,a1,a2,a3,a4⟩:=h.shape
 exact xvalue_ x an cn al cl cs S a1 a2 a3 nm hw W0 H hS
theorem xinnerC (x:XN) (c:List Value) (S:Nat→Obj→Prop) (h:XRd S x c) (hw:wtX x≤100000000) (W0:World) (H:List Grp) (hS:∀ z o,S z o→At W0 H z o):Tri Tryz.prog 12 #[.agg c.toArray] W0 H (fun v H'=>v=.string (bk (innX x))∧H'=H):=by
 obtain ⟨an,al,cn,cl,cs,rfl,a1,a2,a3,a4⟩:=h.shape
 exact xinner_ (wtX x) x (Nat.le_refl _) hw an cn al cl cs S a1 a2 a3 W0 H hS
theorem xfindC (x:XN) (c:List Value) (S:Nat→Obj→Prop) (h:XRd S x c) (hw:wtX x≤100000000) (sp nm:List UInt8) (y:XN) (l:List XN) (hy:allX x sp nm=y::l) (W0:World) (H:List Grp) (hS:∀ z o,S z o→At W0 H z o):Tri Tryz.prog 9 #[.agg c.toArray,.string (bk sp),.string (bk nm)] W0 H (fun v H'=>∃ an cn al cl,XRd S y (xvC y an cn al cl)∧v=.tuple #[.agg (xvC y an cn al cl).toArray,.bool true]∧H'=H):=by
 obtain ⟨an,al,cn,cl,cs,rfl,a1,a2,a3,a4⟩:=h.shape
 refine (xfind_ x an cn al cl cs S a1 a2 a3 sp nm hw W0 H hS).post fun v H' ⟨h1,h2⟩=>⟨H',?_,fun _ h=>h⟩
 rcases h1 with ⟨h1,_⟩ | ⟨y',l',yan,ycn,yal,ycl,ycs,h1,h3,b1,b2,b3,b4⟩
 rw [hy] at h1; cases h1
 rw [hy] at h1; injection h1 with h1 _; subst h1
 exact ⟨yan,ycn,yal,ycl,XRd.of b4 b1 b2 b3,h3,h2⟩
abbrev _root_.Go.aI:=mB #[60,97,32,120,109,108,110,115,61,34,117,34,32,98,61,34,38,108,116,59,34,62,60,99,32,120,109,108,110,115,61,34,118,34,62,116,38,97,109,112,59,60,47,99,62,60,47,97,62]
abbrev _root_.Go.aN:=I5 [60,97,62,60,98,62,60,47,97,62]
theorem firstX_  (W0:World) (H:List Grp) (hX:T9 W0):Tri Tryz.prog 4 #[] W0 H (fun v H'=>v=.bool true∧H'=H):=by
 refine D5 63 Tryz.func4 ?_
 refine A1 (C3 (E':=[]) [0] [] (k:=A0 (A1 (A2 (H0 5 63 [.int .u8 60,.int .u8 97,.int .u8 32,.int .u8 120,.int .u8 109,.int .u8 108,.int .u8 110,.int .u8 115,.int .u8 61,.int .u8 34,.int .u8 117,.int .u8 34,.int .u8 32,.int .u8 98,.int .u8 61,.int .u8 34,.int .u8 38,.int .u8 108,.int .u8 116,.int .u8 59,.int .u8 34,.int .u8 62,.int .u8 60,.int .u8 120,.int .u8 58,.int .u8 99,.int .u8 32,.int .u8 120,.int .u8 109,.int .u8 108,.int .u8 110,.int .u8 115,.int .u8 58,.int .u8 120,.int .u8 61,.int .u8 34,.int .u8 118,.int .u8 34,.int .u8 62,.int .u8 116,.int .u8 60,.int .u8 33,.int .u8 45,.int .u8 45,.int .u8 114,.int .u8 45,.int .u8 45,.int .u8 62,.int .u8 38,.int .u8 97,.int .u8 109,.int .u8 112,.int .u8 59,.int .u8 60,.int .u8 47,.int .u8 120,.int .u8 58,.int .u8 99,.int .u8 62,.int .u8 60,.int .u8 47,.int .u8 97,.int .u8 62] (fun b1=>GL_sameBytes (i:=1) (ch:=[]) (t:=30) (e:=5) (b:=b1) (off:=0) (l:=63) (cap:=63) (j:=0) (m:=0) rfl rfl kr kr kr kr kr kr rfl rfl (by rfl) (D9 Tryz.func5 (xparseV (some ⟨b1,0,none⟩) 63 ([60,97,32,120,109,108,110,115,61,34,117,34,32,98,61,34,38,108,116,59,34,62,60,120,58,99,32,120,109,108,110,115,58,120,61,34,118,34,62,116,60,33,45,45,114,45,45,62,38,97,109,112,59,60,47,120,58,99,62,60,47,97,62]:List UInt8) (inG [(b1,.cells #[.int .u8 60,.int .u8 97,.int .u8 32,.int .u8 120,.int .u8 109,.int .u8 108,.int .u8 110,.int .u8 115,.int .u8 61,.int .u8 34,.int .u8 117,.int .u8 34,.int .u8 32,.int .u8 98,.int .u8 61,.int .u8 34,.int .u8 38,.int .u8 108,.int .u8 116,.int .u8 59,.int .u8 34,.int .u8 62,.int .u8 60,.int .u8 120,.int .u8 58,.int .u8 99,.int .u8 32,.int .u8 120,.int .u8 109,.int .u8 108,.int .u8 110,.int .u8 115,.int .u8 58,.int .u8 120,.int .u8 61,.int .u8 34,.int .u8 118,.int .u8 34,.int .u8 62,.int .u8 116,.int .u8 60,.int .u8 33,.int .u8 45,.int .u8 45,.int .u8 114,.int .u8 45,.int .u8 45,.int .u8 62,.int .u8 38,.int .u8 97,.int .u8 109,.int .u8 112,.int .u8 59,.int .u8 60,.int .u8 47,.int .u8 120,.int .u8 58,.int .u8 99,.int .u8 62,.int .u8 60,.int .u8 47,.int .u8 97,.int .u8 62] 5 (63,63+1))]) (rd_cast (cs:=[.int .u8 60,.int .u8 97,.int .u8 32,.int .u8 120,.int .u8 109,.int .u8 108,.int .u8 110,.int .u8 115,.int .u8 61,.int .u8 34,.int .u8 117,.int .u8 34,.int .u8 32,.int .u8 98,.int .u8 61,.int .u8 34,.int .u8 38,.int .u8 108,.int .u8 116,.int .u8 59,.int .u8 34,.int .u8 62,.int .u8 60,.int .u8 120,.int .u8 58,.int .u8 99,.int .u8 32,.int .u8 120,.int .u8 109,.int .u8 108,.int .u8 110,.int .u8 115,.int .u8 58,.int .u8 120,.int .u8 61,.int .u8 34,.int .u8 118,.int .u8 34,.int .u8 62,.int .u8 116,.int .u8 60,.int .u8 33,.int .u8 45,.int .u8 45,.int .u8 114,.int .u8 45,.int .u8 45,.int .u8 62,.int .u8 38,.int .u8 97,.int .u8 109,.int .u8 112,.int .u8 59,.int .u8 60,.int .u8 47,.int .u8 120,.int .u8 58,.int .u8 99,.int .u8 62,.int .u8 60,.int .u8 47,.int .u8 97,.int .u8 62]) Rd.lit kr) V1 0 v1_par _ _ (E0 0 rfl) hX) ?_)))))))
 rintro _ _ ⟨c2,gp2,hJ2,rfl,rfl⟩
 obtain ⟨van2,vcn2,val2,vcl2,rfl⟩:=hJ2.shape
 refine A3 (j:=6) [0,0,0] (k:=J1 (.agg zN.toArray) (fun b3=>D0 0 0 (.agg #[.string (bk V1.space),.string (bk V1.name),.slice van2 V1.attrs.length vcn2,.slice val2 V1.kids.length vcl2,.string (bk V1.text)]) rfl (C0 (E':=[⟨1,[],pt b3⟩,⟨2,[],.int .i64 0⟩]) [0] [1,2] (k:=A0 (A1 (A2 (M9 0 0 5 rfl (D9 (vs:=[.agg #[.string (bk V1.space),.string (bk V1.name),.slice van2 V1.attrs.length vcn2,.slice val2 V1.kids.length vcl2,.string (bk V1.text)],.string (mB #[118]),.string (mB #[99])]) Tryz.func9 (xfindC V1 [.string (bk V1.space),.string (bk V1.name),.slice van2 V1.attrs.length vcn2,.slice val2 V1.kids.length vcl2,.string (bk V1.text)] (inG gp2) (hJ2.rd (fun _ _ h=>h)) (Nat.le_trans v1_wt (by decide)) ((mB #[118]).data.toList) ((mB #[99]).data.toList) V2 [] v1_find _ _ (E0 1 rfl)) ?_))))))))
 rintro _ _ ⟨van4,vcn4,val4,vcl4,hF4,rfl,rfl⟩
 refine A3 (j:=5) [0,0,0] (k:=J1 (.agg zN.toArray) (fun b5=>D0 0 0 (.agg #[.string (bk V2.space),.string (bk V2.name),.slice van4 V2.attrs.length vcn4,.slice val4 V2.kids.length vcl4,.string (bk V2.text)]) rfl (A5 [0] [1,2,3,4] (k:=A0 (A1 (A2 (H0 5 10 [.int .u8 60,.int .u8 97,.int .u8 62,.int .u8 60,.int .u8 98,.int .u8 62,.int .u8 60,.int .u8 47,.int .u8 97,.int .u8 62] (fun b6=>GL_sameBytes (i:=1) (ch:=[]) (t:=30) (e:=5) (b:=b6) (off:=0) (l:=10) (cap:=10) (j:=0) (m:=0) rfl rfl kr kr kr kr kr kr rfl rfl (by rfl) ?_))))))))
 refine D9 Tryz.func5 (xparseV (some ⟨b6,0,none⟩) 10 ([60,97,62,60,98,62,60,47,97,62]:List UInt8) (inG [(b6,.cells #[.int .u8 60,.int .u8 97,.int .u8 62,.int .u8 60,.int .u8 98,.int .u8 62,.int .u8 60,.int .u8 47,.int .u8 97,.int .u8 62] 5 (10,10+1))]) (rd_cast (cs:=[.int .u8 60,.int .u8 97,.int .u8 62,.int .u8 60,.int .u8 98,.int .u8 62,.int .u8 60,.int .u8 47,.int .u8 97,.int .u8 62]) Rd.lit kr) (aN.1) 70 (by rw [← v1_bad]) _ _ (E0 0 rfl) hX) ?_
 rintro _ _ ⟨c7,gp7,hJ7,rfl,rfl⟩
 obtain ⟨van7,vcn7,val7,vcl7,rfl⟩:=hJ7.shape
 refine A3 (j:=6) [0,0,0] (k:=J1 (.agg zN.toArray) (fun b8=>D0 0 0 (.agg #[.string (bk aN.1.space),.string (bk aN.1.name),.slice van7 (aN.1.attrs.length) vcn7,.slice val7 (aN.1.kids.length) vcl7,.string (bk aN.1.text)]) rfl (A5 [0] [1,2,3,4,6] (k:=A0 (A1 (A2 (M9 4 0 5 rfl (H6 (vs:=[.agg #[.string (bk V1.space),.string (bk V1.name),.slice van2 V1.attrs.length vcn2,.slice val2 V1.kids.length vcl2,.string (bk V1.text)]]) Tryz.func10 (xprintC V1 [.string (bk V1.space),.string (bk V1.name),.slice van2 V1.attrs.length vcn2,.slice val2 V1.kids.length vcl2,.string (bk V1.text)] (inG gp2) (hJ2.rd (fun _ _ h=>h)) (Nat.le_trans v1_wt (by decide)) (.tuple #[.string aI,.int .i64 0]) (by rw [v1_right,v1_print]; rfl) _ _ (E0 5 rfl) hX) ?_))))))))
 refine A5 [0,0,0,0,0] [1,2,3,4,6,7,8] (k:=A0 (A1 (A2 (A3 (j:=4) [0,0,0,0] (k:=C2 (ch:=[(33,true)]) (b:=b3) (off:=0) (v:=.string (bk V1.space)) (hA:=At.grp 4 0 rfl rfl) (k:=A3 (j:=8) [0,2,0] (k:=Q0 (ch:=[(38,true)]) (b:=b3) (off:=0) (l:=[.string (bk V1.space),.string (bk V1.name),.slice van2 V1.attrs.length vcn2,.slice val2 V1.kids.length vcl2,.string (bk V1.text)]) (hA:=At.grp 4 0 rfl rfl) (k:=P7 (vs:=[.agg #[.string (bk V1.space),.string (bk V1.name),.slice van2 V1.attrs.length vcn2,.slice val2 V1.kids.length vcl2,.string (bk V1.text)],.string (mB #[98])]) [(38,true)] Tryz.func11 (fun hc=>xvalueC V1 [.string (bk V1.space),.string (bk V1.name),.slice van2 V1.attrs.length vcn2,.slice val2 V1.kids.length vcl2,.string (bk V1.text)] (inG gp2) (hJ2.rd (fun _ _ h=>h)) (Nat.le_trans v1_wt (by decide)) ((mB #[98]).data.toList) _ _ (E0 5 rfl)) ?_))))))))
 refine A3 (j:=16) [0,6,0,0,6,0] (k:=Q0 (ch:=[(46,true)]) (b:=b5) (off:=0) (l:=[.string (bk V2.space),.string (bk V2.name),.slice van4 V2.attrs.length vcn4,.slice val4 V2.kids.length vcl4,.string (bk V2.text)]) (hA:=At.grp 3 0 rfl rfl) (k:=P7 [(46,true)] Tryz.func12 (fun hc=>xinnerC V2 [.string (bk V2.space),.string (bk V2.name),.slice van4 V2.attrs.length vcn4,.slice val4 V2.kids.length vcl4,.string (bk V2.text)] (inG gp2) hF4 (Nat.le_trans v2_wt (by decide)) _ _ (E0 5 rfl)) (A5 [0,6,0,0,0,6,0,0,0,6,0,0,0,6,0] [0] (k:=A0 (B4 (F8 7 [] (B7 [.tmp 0] [.bool ((((((((bk V1.space).toList==(mB #[117]).toList)&&((bk (vlX V1.attrs ((mB #[98]).data.toList))).toList==(mB #[60]).toList))&&true)&&((bk (innX V2)).toList==(mB #[116,38]).toList))&&true)&&true)&&(aI.toList==aI.toList))] (k:=?_))))))))
 exact ⟨congrArg Value.bool (by kernel_rfl),rfl⟩
end Go.Proofs.YtcgmnagcgkhogabGreatDoor
namespace Go.Sw
def cellOk (P:Program) (t:TypeId):Value→Value→Bool
 | .string _,.string _=>(match P.underlying t with | some .string=>true | _=>false)
 | .bool _,.bool _=>(match P.underlying t with | some .bool=>true | _=>false)
 | _,_=>false
def fldOk (P:Program):List Field→Nat→List Value→List Value→Bool
 | [],_,[],[]=>true
 | f :: fs, i, a :: xs, b :: ys => f.name != "_" && f.offset == i && cellOk P f.type a b && fldOk P fs (i + 1) xs ys
 | _,_,_,_=>false
def cellEq:Value→Value→Bool
 | .string a,.string b=>a.toList==b.toList
 | .bool a,.bool b=>a==b
 | _,_=>true
def X3:List Value→List Value→Bool
 | a::xs,b::ys=>cellEq a b&&X3 xs ys
 | _,_=>true
theorem part_one {P:Program} {t:TypeId} {A:Array Value} {i:Nat} {v:Value} (w:World) (ht:P.underlying t=some .string∨P.underlying t=some .bool) (h:A[i]? = some v):(part t A i).run P w=.ok v w:=by
 unfold part isAgg
 rcases ht with ht | ht <;> simp [run_underlying ht,h]
theorem eqB_b (a b:ByteArray):(a==b)=(a.toList==b.toList):=by
 rw [Go.Lib.toList_data,Go.Lib.toList_data]
 show (a.data==b.data)=_
 rw [Bool.eq_iff_iff,beq_iff_eq,beq_iff_eq]
 exact ⟨fun h=>by rw [h],fun h=>Array.ext' h⟩
theorem cellOk_eq {P:Program} {t:TypeId} {a b:Value} (h:cellOk P t a b=true) (w:World) (d:Nat):(P.underlying t=some .string∨P.underlying t=some .bool)∧(Op.equalIn (d+1) t a b).run P w=.ok (cellEq a b) w:=by
 unfold cellOk at h
 split at h
 split at h
 rename_i ht; refine ⟨.inl ht,?_⟩
 rw [Op.equalIn]
 simp only [Sem.run_bind,run_underlying ht,Result.andThen_ok]
 show Result.ok _ w=_
 rw [eqB_b]; rfl
 cases h
 split at h
 rename_i ht; refine ⟨.inr ht,?_⟩
 rw [Op.equalIn]
 simp only [Sem.run_bind,run_underlying ht,Result.andThen_ok]
 rfl
 cases h
 cases h
theorem cellsEq_same:∀ A:List Value,X3 A A=true
  | []=>rfl
  | a::A=>by
    rw [X3,cellsEq_same A,Bool.and_true]
    cases a <;> first | rfl | exact beq_self_eq_true _
theorem run_flds {P : Program} (w : World) (A B : Array Value) (F : Field → Option Bool × Unit → Sem (ForInStep (Option Bool × Unit))) (hF : ∀ f a b, A[f.offset]? = some a → B[f.offset]? = some b → f.name ≠ "_" → cellOk P f.type a b = true → (F f (none, ())).run P w = .ok (if cellEq a b then .yield (none, ()) else .done (some false, ())) w) :
    ∀ (fs:List Field) (i:Nat) (xs ys:List Value),fldOk P fs i xs ys=true→(∀ j v,xs[j]? = some v→A[i+j]? = some v)→(∀ j v,ys[j]? = some v→B[i+j]? = some v)→(forIn fs (none,()) F).run P w=.ok (if X3 xs ys then (none,()) else (some false,())) w
  | [],i,[],[],h,_,_=>rfl
  | [],i,[],_::_,h,_,_=>by cases h
  | [],i,_::_,_,h,_,_=>by unfold fldOk at h; cases h
  | _::_,i,[],_,h,_,_=>by unfold fldOk at h; cases h
  | _::_,i,_::_,[],h,_,_=>by unfold fldOk at h; cases h
  | f::fs,i,a::xs,b::ys,h,hA,hB=>by
    rw [fldOk,Bool.and_eq_true,Bool.and_eq_true,Bool.and_eq_true] at h
    obtain ⟨⟨⟨h1,h2⟩,h3⟩,h4⟩:=h
    have ho:f.offset=i:=by simpa using h2
    have hf:=hF f a b (by rw [ho]; exact hA 0 a rfl) (by rw [ho]; exact hB 0 b rfl) (by simpa using h1) h3
    have ih:=run_flds w A B F hF fs (i+1) xs ys h4 (fun j v hv=>by rw [Nat.add_assoc,Nat.add_comm 1]; exact hA (j+1) v hv) (fun j v hv=>by rw [Nat.add_assoc,Nat.add_comm 1]; exact hB (j+1) v hv)
    rw [List.forIn_cons,Sem.run_bind,hf,Result.andThen_ok]
    rw [X3]
    cases cellEq a b
    rfl
    simp only [if_true,Bool.true_and]; exact ih
theorem run_eqAgg {P:Program} (A B:Array Value) (w:World) (t:TypeId) (fs:Array Field) (ht:P.underlying t=some (.struct fs)) (hst:P.stoodInHeld t=false) (h:fldOk P fs.toList 0 A.toList B.toList=true) (d:Nat) :
  (Op.equalIn (d+2) t (.agg A) (.agg B)).run P w=.ok (X3 A.toList B.toList) w:=by
 rw [Op.equalIn]
 simp only [Sem.run_bind,run_underlying ht,Result.andThen_ok]
 rw [show (program).run P w=.ok P w from rfl]
 simp only [Result.andThen_ok,hst]
 rw [if_neg (by decide)]
 simp only [Sem.run_bind]
 rw [← Array.forIn_toList,run_flds w A B _ ?_ fs.toList 0 A.toList B.toList h (fun j v hv=>by rw [Nat.zero_add,← Array.getElem?_toList]; exact hv) (fun j v hv=>by rw [Nat.zero_add,← Array.getElem?_toList]; exact hv)]
 cases X3 A.toList B.toList <;> rfl
 intro f a b ha hb hn hc
 obtain ⟨h1,h2⟩:=cellOk_eq hc w d
 rw [if_pos hn]
 simp only [Sem.run_bind,part_one w h1 ha,part_one w h1 hb,h2,Result.andThen_ok]
 cases cellEq a b <;> rfl
def isEqT (P:Program) (t:TypeId) (xs ys:List Value):Bool:=match P.underlying t with
 | some (.struct fs)=>fldOk P fs.toList 0 xs ys&&!P.stoodInHeld t&&!P.eqGuardType P.depth t
 | _=>false
theorem run_binAgg {P:Program} (A B:List Value) (w:World) (t:TypeId) (h:isEqT P t A B=true) (ne:Bool) (x y:Operand) :
  (binOp (if ne then .neq else .eql) t (.agg A.toArray) (.agg B.toArray)).run P w=.ok (.bool (bif ne then !X3 A B else X3 A B)) w∧(eqGuard (if ne then .neq else .eql) t x y (.agg A.toArray) (.agg B.toArray)).run P w=.ok () w:=by
 unfold isEqT at h
 split at h
 rename_i fs ht
 rw [Bool.and_eq_true,Bool.and_eq_true,Bool.not_eq_true',Bool.not_eq_true'] at h
 obtain ⟨⟨h1,h2⟩,h3⟩:=h
 have hr:=run_eqAgg A.toArray B.toArray w t fs ht h2 h1 9998
 constructor
 cases ne
 show (do pure (Value.bool (← Op.equal t (.agg A.toArray) (.agg B.toArray)))).run P w=_
 unfold Op.equal Op.maxDepth
 rw [Sem.run_bind,hr,Result.andThen_ok]; simp
 show (do pure (Value.bool (!(← Op.equal t (.agg A.toArray) (.agg B.toArray))))).run P w=_
 unfold Op.equal Op.maxDepth
 rw [Sem.run_bind,hr,Result.andThen_ok]; simp
 unfold eqGuard
 have hp:(program).run P w=.ok P w:=rfl
 cases ne <;> simp [hp,h3]
 cases h
theorem GL_eqAgg {d:Bool} {P:Program} {ops:Array Oper} {i:Nat} {Q:E9} {n:Fr} {E:Env} {W0:World} {H:List Grp} {o:Oper} {ch:List (Nat × Bool)} {t t2:TypeId} {x y:Operand} {A B:List Value} {r:Bool} (ne:Bool)
  (ho:ops[i]? = some o:=by exact rfl) (hop:o.op=.binOp (if ne then .neq else .eql) t x y t2:=by exact rfl) (hx:evO E ch x=some (.agg A.toArray):=by kernel_rfl) (hy:evO E ch y=some (.agg B.toArray):=by kernel_rfl) (ht:isEqT P t A B=true:=by kernel_rfl) (hr:(bif ne then !X3 A B else X3 A B)=r)
  (hch:D7 ops E o.guard=some ch:=by kernel_rfl) (hd:G2 n ch o.dst=true:=by kernel_rfl) (hk:K7 E ch=true:=by kernel_rfl)
  (k:GL d P ops (i+1) Q n (Env.put E o.dst ch (.bool r)) W0 H):GL d P ops i Q n E W0 H:=by
 refine J2 ho hch hd hk (fun r hr _ w hsat=>?_) k
 unfold execOp
 simp only [hop]
 rw [hr _ _ hx,hr _ _ hy]
 obtain ⟨h1,h2⟩:=run_binAgg (P:=P) A B w t ht ne x y
 subst_vars
 simp only [Sem.run_bind,h2,h1,Result.andThen_ok]
 exact ⟨rfl,rfl⟩
end Go.Sw
namespace Go.Xml
open Go.Esc Go.Json Go.Lib
theorem pre_app {w l:List UInt8} (t:List UInt8) (h:w.isPrefixOf l=true):w.isPrefixOf (l++t)=true∧(l++t).drop w.length=l.drop w.length++t:=by
 have h1:=List.isPrefixOf_iff_prefix.1 h
 refine ⟨List.isPrefixOf_iff_prefix.2 (h1.trans (List.prefix_append l t)),?_⟩
 rw [List.drop_append_of_le_length h1.length_le]
theorem pre_appF {w l:List UInt8} (t:List UInt8) (h:¬ w.isPrefixOf l=true) (hl:w.length≤l.length):¬ w.isPrefixOf (l++t)=true:=by
 intro h1
 have h2:=List.isPrefixOf_iff_prefix.1 h1
 exact h (List.isPrefixOf_iff_prefix.2 (List.prefix_of_prefix_length_le h2 (List.prefix_append l t) hl))
theorem idx_app {w:List UInt8} (t:List UInt8):∀ {l:List UInt8} {i:Nat},idxL w l=some i→idxL w (l++t)=some i
  | [],i,h=>by
    unfold idxL at h
    split at h
    rename_i hw; subst hw; injection h with h; subst h
    cases t <;> (simp only [List.nil_append]; unfold idxL; simp)
    cases h
  | b::l,i,h=>by
    have hle:=idx_le h
    unfold idxL at h
    rw [List.cons_append]; unfold idxL
    split at h
    rename_i hp; rw [if_pos (show w.isPrefixOf (b::(l++t))=true from (pre_app t hp).1)]; exact h
    rename_i hp
    rw [if_neg (show ¬ w.isPrefixOf (b::(l++t))=true from pre_appF (l:=b::l) t hp (by omega))]
    cases hq:idxL w l with
    | none=>rw [hq] at h; cases h
    | some j=>rw [hq] at h; rw [idx_app t hq]; exact h
theorem until_app {w l s r:List UInt8} (t:List UInt8) (h:L2 w l=some (s,r)):L2 w (l++t)=some (s,r++t):=by
  unfold L2 at h ⊢
  cases hi:idxL w l with
  | none=>rw [hi] at h; cases h
  | some i =>
    have hle:=idx_le hi
    rw [hi] at h; rw [idx_app t hi]
    injection h with h; injection h with h1 h2; subst h1; subst h2
    show some ((l++t).take i,(l++t).drop (i+w.length))=_
    rw [List.take_append_of_le_length (by omega),List.drop_append_of_le_length hle]
theorem must_app {w l r:List UInt8} (t:List UInt8) (h:O7 w l=some r):O7 w (l++t)=some (r++t):=by
 unfold O7 at h ⊢
 split at h
 rename_i hp; obtain ⟨h1,h2⟩:=pre_app t hp; rw [if_pos h1,h2]; injection h with h; rw [h]
 cases h
theorem must_ne' {w l r:List UInt8} (hw:w≠[]) (h:O7 w l=some r):l≠[]:=by
 rintro rfl; unfold O7 at h; split at h
 rename_i hp; cases w with
 | nil=>exact hw rfl
 | cons b w=>cases hp
 cases h
theorem tw_app {p:UInt8→Bool} {l:List UInt8} (t:List UInt8) (h:l.dropWhile p≠[]):(l++t).takeWhile p=l.takeWhile p:=by
  induction l with
  | nil=>exact absurd rfl h
  | cons b l ih =>
    rw [List.cons_append,List.takeWhile_cons,List.takeWhile_cons]
    split
    rename_i hb; rw [List.dropWhile_cons,if_pos hb] at h; rw [ih h]
    rfl
theorem drop_tw (p:UInt8→Bool) (l:List UInt8):l.drop (l.takeWhile p).length=l.dropWhile p:=by
 conv=>lhs; arg 2; rw [← List.takeWhile_append_dropWhile (p:=p) (l:=l)]
 rw [List.drop_left]
theorem nm_app {l:List UInt8} (t:List UInt8) (h0:nmX l≠0) (h:l.drop (nmX l)≠[]):nmX (l++t)=nmX l:=by
  cases l with
  | nil=>exact absurd rfl h0
  | cons b l =>
    rw [List.cons_append,Y4,Y4]
    rw [Y4] at h0 h
    split
    rename_i hb
    rw [if_pos hb,Nat.add_comm,List.drop_succ_cons,drop_tw] at h
    rw [tw_app t h]
    rfl
theorem nm_leT (l:List UInt8):nmX l≤l.length:=by
  cases l with
  | nil=>exact Nat.le_refl _
  | cons b l =>
    rw [Y4]; split
    have:=(List.takeWhile_prefix nxtX (l:=l)).length_le; rw [List.length_cons]; omega
    exact Nat.zero_le _
theorem name_app {l a r:List UInt8} (t:List UInt8) (h:R3 l=some (a,r)) (hr:r≠[]):R3 (l++t)=some (a,r++t):=by
 unfold R3 at h ⊢
 split at h
 cases h
 rename_i h0
 injection h with h; injection h with h1 h2; subst h1; subst h2
 rw [nm_app t h0 hr,if_neg h0,List.take_append_of_le_length (nm_leT l),List.drop_append_of_le_length (nm_leT l)]
theorem name_fst {l:List UInt8} {x:List UInt8 × List UInt8} (h:R3 l=some x):∃ c l',l=c::l'∧fstX c=true:=by
  unfold R3 at h
  split at h
  cases h
  rename_i h0
  cases l with
  | nil=>exact absurd rfl h0
  | cons c l' =>
    refine ⟨c,l',rfl,?_⟩
    rw [Y4] at h0
    cases hc:fstX c with
    | true=>rfl
    | false=>rw [hc] at h0; exact absurd rfl h0
theorem qual_fst {l:List UInt8} {x:QN × List UInt8} (h:G5 l=some x):∃ c l',l=c::l'∧fstX c=true:=by
 unfold G5 at h
 cases hn:R3 l with
 | none=>rw [hn] at h; cases h
 | some y=>exact name_fst hn
theorem one_app {c:UInt8} {r:List UInt8} (t:List UInt8) (hr:r≠[]):[c].isPrefixOf (r++t)=[c].isPrefixOf r:=by
 cases r with
 | nil=>exact absurd rfl hr
 | cons b r=>rfl
theorem qual_app {l r:List UInt8} {a:QN} (t:List UInt8) (h:G5 l=some (a,r)) (hr:r≠[]):G5 (l++t)=some (a,r++t):=by
  unfold G5 at h ⊢
  cases hn:R3 l with
  | none=>rw [hn] at h; cases h
  | some y =>
    obtain ⟨y,r1⟩:=y
    rw [hn] at h; dsimp only at h
    split at h
    rename_i hp
    have hr1:r1≠[]:=by rintro rfl; cases hp
    cases hm:R3 (r1.drop 1) with
    | none=>rw [hm] at h; cases h
    | some z =>
      obtain ⟨z,r2⟩:=z
      rw [hm] at h; injection h with h; injection h with h1 h2; subst h1; subst h2
      rw [name_app t hn hr1]; dsimp only
      obtain ⟨h1,h2⟩:=pre_app t hp
      have h2:(r1++t).drop 1=r1.drop 1++t:=h2
      rw [if_pos h1,h2,name_app t hm hr]; rfl
    rename_i hp
    injection h with h; injection h with h1 h2; subst h1; subst h2
    rw [name_app t hn hr]; dsimp only
    rw [if_neg (by rw [one_app t hr]; exact hp)]
theorem blk_app {l:List UInt8} (t:List UInt8) (h:blk l≠[]):blk (l++t)=blk l++t:=by
  unfold blk at h ⊢
  induction l with
  | nil=>exact absurd rfl h
  | cons b l ih =>
    rw [List.cons_append,List.dropWhile_cons,List.dropWhile_cons]
    rw [List.dropWhile_cons] at h
    split
    rename_i hb; rw [if_pos hb] at h; exact ih h
    rfl
theorem blk_ne {l:List UInt8} (h:blk l≠[]):l≠[]:=by rintro rfl; exact h rfl
theorem aside_app {l r:List UInt8} (t:List UInt8) (h:J9 l=some (some r)):J9 (l++t)=some (some (r++t)):=by
  unfold J9 at h ⊢
  split at h
  rename_i hp
  obtain ⟨h1,h2⟩:=pre_app t hp
  have h2:(l++t).drop 4=l.drop 4++t:=h2
  rw [if_pos h1,h2]
  cases hu:L2 [45,45] (l.drop 4) with
  | none=>rw [hu] at h; cases h
  | some x =>
    obtain ⟨x,r1⟩:=x
    rw [hu,Option.bind_some] at h
    rw [until_app t hu,Option.bind_some]
    cases hm:O7 [62] r1 with
    | none=>rw [hm] at h; cases h
    | some y=>rw [hm] at h; injection h with h; injection h with h; subst h; rw [must_app t hm]; rfl
  rename_i hp
  split at h
  rename_i hq
  obtain ⟨h1,h2⟩:=pre_app t hq
  have h2:(l++t).drop 2=l.drop 2++t:=h2
  have hn:¬ [60,33,45,45].isPrefixOf (l++t)=true:=by
    match l,hq with
    | [],hq=>cases hq
    | [_],hq=>simp at hq
    | a::b::l,hq=>intro h9; simp at hq h9; have:=hq.2.trans h9.2.1.symm; revert this; decide
  rw [if_neg hn,if_pos h1,h2]
  cases hu:R3 (l.drop 2) with
  | none=>rw [hu] at h; cases h
  | some x =>
    obtain ⟨x,r1⟩:=x
    rw [hu,Option.bind_some] at h
    cases hm:L2 [63,62] r1 with
    | none=>rw [hm] at h; cases h
    | some y =>
      obtain ⟨y,r2⟩:=y
      rw [hm] at h; injection h with h; injection h with h; subst h
      have hr:r1≠[]:=by rintro rfl; cases hm
      rw [name_app t hu hr,Option.bind_some,until_app t hm]; rfl
  cases h
theorem quote_app {l s r:List UInt8} (t:List UInt8) (h:W7 l=some (s,r)):W7 (l++t)=some (s,r++t):=by
 unfold W7 at h ⊢
 split at h
 rename_i hp
 obtain ⟨h1,h2⟩:=pre_app t hp
 have h2:(l++t).drop 1=l.drop 1++t:=h2
 rw [if_pos h1,h2]; exact until_app t h
 rename_i hp
 split at h
 rename_i hq
 obtain ⟨h1,h2⟩:=pre_app t hq
 have h2:(l++t).drop 1=l.drop 1++t:=h2
 have hl:l≠[]:=by rintro rfl; cases hq
 rw [if_neg (by rw [one_app t hl]; exact hp),if_pos h1,h2]; exact until_app t h
 cases h
theorem attr_app {l r:List UInt8} {x:AT} (t:List UInt8) (h:S3 l=some (x,r)):S3 (l++t)=some (x,r++t):=by
  unfold S3 at h ⊢
  cases hq:G5 l with
  | none=>rw [hq] at h; cases h
  | some a =>
    obtain ⟨a,r0⟩:=a
    rw [hq] at h; dsimp only at h
    cases hm:O7 [61] (blk r0) with
    | none=>rw [hm] at h; cases h
    | some r1 =>
      rw [hm] at h; dsimp only at h
      have hb0:=must_ne' (by decide) hm
      rw [qual_app t hq (blk_ne hb0)]; dsimp only
      rw [blk_app t hb0,must_app t hm]; dsimp only
      cases hv:W7 (blk r1) with
      | none=>rw [hv] at h; cases h
      | some v =>
        obtain ⟨v,r2⟩:=v
        have hb1:blk r1≠[]:=by intro h0; rw [h0] at hv; cases hv
        rw [hv] at h; rw [blk_app t hb1,quote_app t hv]; dsimp only at h ⊢
        split at h
        cases h
        rename_i h60
        rw [if_neg h60]
        cases hr:refsE v with
        | none=>rw [hr] at h; cases h
        | some y=>rw [hr] at h; dsimp only at h ⊢; injection h with h; injection h with h1 h2; rw [h1,h2]
theorem attr_fst {l:List UInt8} {x:AT × List UInt8} (h:S3 l=some x):∃ c l',l=c::l'∧fstX c=true:=by
 unfold S3 at h
 cases hq:G5 l with
 | none=>rw [hq] at h; cases h
 | some a=>exact qual_fst hq
theorem fst_ne {c:UInt8} (h:fstX c=true):c≠47∧c≠62∧c≠33∧c≠63∧c≠60∧c≠91:=by
 refine ⟨?_,?_,?_,?_,?_,?_⟩ <;> (rintro rfl; revert h; decide)
theorem tag_app (t:List UInt8):∀ {n m:Nat} {acc:List AT} {l:List UInt8} {ats:List AT} {c:Bool} {r:List UInt8},Y7 n acc l=some (ats,c,r)→n≤m→Y7 m acc (l++t)=some (ats,c,r++t)
  | 0,_,_,_,_,_,_,h,_=>by cases h
  | n+1,0,_,_,_,_,_,_,hm=>absurd hm (by omega)
  | n+1,m+1,acc,l,ats,c,r,h,hm=>by
    rw [Y7] at h ⊢
    split at h
    rename_i hp
    have hb:blk l≠[]:=by intro h0; rw [h0] at hp; cases hp
    obtain ⟨h1,h2⟩:=pre_app t hp
    have h2:(blk l++t).drop 2=(blk l).drop 2++t:=h2
    rw [blk_app t hb,if_pos h1,h2]
    injection h with h; injection h with h3 h; injection h with h4 h5; subst h3; subst h4; subst h5; rfl
    rename_i hp
    split at h
    rename_i hq
    have hb:blk l≠[]:=by intro h0; rw [h0] at hq; cases hq
    obtain ⟨h1,h2⟩:=pre_app t hq
    have h2:(blk l++t).drop 1=(blk l).drop 1++t:=h2
    have hn:¬ [47,62].isPrefixOf (blk l++t)=true:=by
      cases hbl:blk l with
      | nil=>exact absurd hbl hb
      | cons b u=>rw [hbl] at hq; intro h9; simp at hq h9; have:=hq.trans h9.1.symm; revert this; decide
    rw [blk_app t hb,if_neg hn,if_pos h1,h2]
    injection h with h; injection h with h3 h; injection h with h4 h5; subst h3; subst h4; subst h5; rfl
    rename_i hq
    split at h
    rename_i hlt
    cases ha:S3 (blk l) with
    | none=>rw [ha] at h; cases h
    | some x =>
      obtain ⟨x,r1⟩:=x
      rw [ha] at h; dsimp only at h
      obtain ⟨b,u,hbl,hf⟩:=attr_fst ha
      obtain ⟨f1,f2,_⟩:=fst_ne hf
      have hb:blk l≠[]:=by rw [hbl]; exact List.cons_ne_nil _ _
      have hn1:¬ [47,62].isPrefixOf (blk l++t)=true:=by rw [hbl]; intro h9; simp at h9; exact f1 h9.1.symm
      have hn2:¬ [62].isPrefixOf (blk l++t)=true:=by rw [hbl]; intro h9; simp at h9; exact f2 h9.symm
      rw [blk_app t hb,if_neg hn1,if_neg hn2,if_pos (by rw [List.length_append,List.length_append]; omega),attr_app t ha]
      exact tag_app t h (by omega)
    cases h
theorem tag_ne' {n:Nat} {acc:List AT} {l:List UInt8} {x:List AT × Bool × List UInt8} (h:Y7 n acc l=some x):l≠[]:=by
 rintro rfl
 cases n with
 | zero=>cases h
 | succ n=>rw [Y7] at h; revert h; simp [show blk []=[] from rfl]
theorem head_app {sp0:SPX} {l:List UInt8} {a:QN} {s:List UInt8} {m:List XA} {sp:SPX} {c:Bool} {r:List UInt8} (t:List UInt8) (h:T5 sp0 l=some (a,s,m,sp,c,r)):T5 sp0 (l++t)=some (a,s,m,sp,c,r++t):=by
  unfold T5 at h ⊢
  cases hq:G5 l with
  | none=>rw [hq] at h; cases h
  | some y =>
    obtain ⟨y,r0⟩:=y
    rw [hq] at h; dsimp only at h
    cases ht:Y7 (r0.length+1) [] r0 with
    | none=>rw [ht] at h; cases h
    | some z =>
      obtain ⟨ats,c1,r1⟩:=z
      rw [ht] at h; dsimp only at h
      rw [qual_app t hq (tag_ne' ht)]; dsimp only
      rw [tag_app t ht (by rw [List.length_append]; omega)]; dsimp only
      cases h1:spE ats [] sp0 with
      | none=>rw [h1] at h; cases h
      | some sp1 =>
        rw [h1] at h; dsimp only at h ⊢
        cases h2:R5 y.pre y.has sp1 with
        | none=>rw [h2] at h; cases h
        | some s1 =>
          rw [h2] at h; dsimp only at h ⊢
          cases h3:O3 ats [] sp1 with
          | none=>rw [h3] at h; cases h
          | some m1 =>
            rw [h3] at h; dsimp only at h ⊢
            injection h with h; injection h with e1 h; injection h with e2 h; injection h with e3 h; injection h with e4 h; injection h with e5 e6
            subst e1; subst e2; subst e3; subst e4; subst e5; subst e6; rfl
theorem head_fst {sp0:SPX} {l:List UInt8} {x:QN × List UInt8 × List XA × SPX × Bool × List UInt8} (h:T5 sp0 l=some x):∃ c l',l=c::l'∧fstX c=true:=by
 unfold T5 at h
 cases hq:G5 l with
 | none=>rw [hq] at h; cases h
 | some y=>exact qual_fst hq
def ElT (el:List UInt8→EX):Prop:=∀ l x r t,el l=.ok (x,r)→el (l++t)=.ok (x,r++t)∧∃ c l',l=c::l'∧fstX c=true
theorem text_app {l x r:List UInt8} (t:List UInt8) (h:A0c l=some (x,r)):A0c (l++t)=some (x,r++t):=by
  unfold A0c at h ⊢
  cases hi:idxL [60] l with
  | none=>rw [hi] at h; cases h
  | some i =>
    have hle:=idx_le hi
    rw [hi] at h; rw [idx_app t hi]; dsimp only at h ⊢
    rw [List.take_append_of_le_length (by omega),List.drop_append_of_le_length (by omega)]
    split at h
    cases h
    rename_i h0
    rw [if_neg h0]
    cases hr:refsE (l.take i) with
    | none=>rw [hr] at h; cases h
    | some y=>rw [hr] at h; dsimp only at h ⊢; injection h with h; injection h with h1 h2; rw [h1,h2]
theorem piece_app {el:List UInt8→EX} (hel:ElT el) {ks k2:List XN} {l r:List UInt8} (t:List UInt8) (h0:¬ [60,47].isPrefixOf l=true) (h:M4 el ks l=.ok (k2,r)):M4 el ks (l++t)=.ok (k2,r++t)∧¬ [60,47].isPrefixOf (l++t)=true:=by
  unfold M4 at h ⊢
  split at h
  rename_i hp
  obtain ⟨h1,h2⟩:=pre_app t hp
  have h2:(l++t).drop 9=l.drop 9++t:=h2
  have hl:=(List.isPrefixOf_iff_prefix.1 hp).length_le
  rw [if_pos h1,h2]
  refine ⟨?_,pre_appF t h0 (by simp only [List.length_cons,List.length_nil] at hl ⊢; omega)⟩
  cases hu:L2 [93,93,62] (l.drop 9) with
  | none=>rw [hu] at h; cases h
  | some x =>
    obtain ⟨x,r1⟩:=x
    rw [hu] at h; rw [until_app t hu]; dsimp only at h ⊢
    injection h with h; injection h with h1 h2; rw [h1,h2]
  rename_i hp
  cases ha:J9 l with
  | none=>rw [ha] at h; cases h
  | some o =>
    cases o with
    | some r1 =>
      rw [ha] at h; dsimp only at h
      injection h with h; injection h with h1 h2; subst h1; subst h2
      have hc:∃ b u,l=60::b::u∧(b=33∧(∃ v,u=45::v)∨b=63):=by
        unfold J9 at ha
        split at ha
        rename_i hq
        match l,hq with
        | [],hq=>cases hq
        | [_],hq=>simp at hq
        | [_,_],hq=>simp at hq
        | a::b::c::u,hq=>simp at hq; exact ⟨33,c::u,by rw [← hq.1,← hq.2.1],.inl ⟨rfl,u,by rw [← hq.2.2.1]⟩⟩
        split at ha
        rename_i hq
        match l,hq with
        | [],hq=>cases hq
        | [_],hq=>simp at hq
        | a::b::u,hq=>simp at hq; exact ⟨63,u,by rw [← hq.1,← hq.2],.inr rfl⟩
        cases ha
      obtain ⟨b,u,hl,hb⟩:=hc
      have n1:¬ [60,33,91,67,68,65,84,65,91].isPrefixOf (l++t)=true:=by
        rw [hl]; rcases hb with ⟨rfl,v,rfl⟩ | rfl <;> simp
      have n2:¬ [60,47].isPrefixOf (l++t)=true:=by
        rw [hl]; rcases hb with ⟨rfl,v,rfl⟩ | rfl <;> simp
      rw [if_neg n1,aside_app t ha]
      exact ⟨rfl,n2⟩
    | none =>
      rw [ha] at h; dsimp only at h
      split at h
      rename_i hq
      cases he:el (l.drop 1) with
      | error e=>rw [he] at h; cases h
      | ok x =>
        obtain ⟨x,r1⟩:=x
        rw [he] at h; dsimp only at h
        injection h with h; injection h with h1 h2; subst h1; subst h2
        obtain ⟨e1,c,u,e2,e3⟩:=hel _ _ _ t he
        obtain ⟨f1,f2,f3,f4,f5,f6⟩:=fst_ne e3
        have hl:l=60::c::u:=by
          cases l with
          | nil=>cases hq
          | cons b l=>simp at hq; rw [← hq]; exact congrArg _ e2
        have n1:¬ [60,33,91,67,68,65,84,65,91].isPrefixOf (l++t)=true:=by rw [hl]; intro h9; simp at h9; exact f3 h9.1.symm
        have n2:¬ [60,47].isPrefixOf (l++t)=true:=by rw [hl]; intro h9; simp at h9; exact f1 h9.symm
        have n3:J9 (l++t)=some none:=by
          unfold J9
          rw [if_neg (by rw [hl]; intro h9; simp at h9; exact f3 h9.1.symm),if_neg (by rw [hl]; intro h9; simp at h9; exact f4 h9.symm)]
        rw [if_neg n1,n3]; dsimp only
        obtain ⟨h1,h2⟩:=pre_app t hq
        have h2:(l++t).drop 1=l.drop 1++t:=h2
        rw [if_pos h1,h2,e1]
        exact ⟨rfl,n2⟩
      rename_i hq
      cases he:A0c l with
      | none=>rw [he] at h; cases h
      | some x =>
        obtain ⟨x,r1⟩:=x
        rw [he] at h; dsimp only at h
        injection h with h; injection h with h1 h2; subst h1; subst h2
        cases hl:l with
        | nil=>rw [hl] at he; cases he
        | cons b u =>
          have hb:b≠60:=by rintro rfl; rw [hl] at hq; exact hq rfl
          have np:∀ w,¬ (60::w).isPrefixOf (b::u++t)=true:=by intro w h9; simp at h9; exact hb h9.1.symm
          have n3:J9 (b::u++t)=some none:=by
            unfold J9
            rw [if_neg (np _),if_neg (np _)]
          rw [if_neg (np _),n3]; dsimp only
          rw [if_neg (np _),← hl,text_app t he]
          exact ⟨rfl,by rw [hl]; exact np _⟩
theorem cont_app {el:List UInt8→EX} (hel:ElT el) (t:List UInt8):∀ {n m:Nat} {ks k2:List XN} {l r:List UInt8},X2 el n ks l=.ok (k2,r)→n≤m→X2 el m ks (l++t)=.ok (k2,r++t)
  | 0,_,_,_,_,_,h,_=>by cases h
  | n+1,0,_,_,_,_,_,hm=>absurd hm (by omega)
  | n+1,m+1,ks,k2,l,r,h,hm=>by
    rw [X2] at h ⊢
    split at h
    rename_i hp
    obtain ⟨h1,h2⟩:=pre_app t hp
    have h2:(l++t).drop 2=l.drop 2++t:=h2
    rw [if_pos h1,h2]
    injection h with h; injection h with h3 h4; rw [h3,h4]
    rename_i hp
    cases hx:M4 el ks l with
    | error e=>rw [hx] at h; cases h
    | ok x =>
      obtain ⟨x,r1⟩:=x
      rw [hx] at h; dsimp only at h
      obtain ⟨h1,h2⟩:=piece_app hel t hp hx
      rw [if_neg h2,h1]; dsimp only
      exact cont_app hel t h (by omega)
theorem end_app {a:QN} {l r:List UInt8} (t:List UInt8) (h:endE a l=some r):endE a (l++t)=some (r++t):=by
  unfold endE at h ⊢
  cases hq:G5 l with
  | none=>rw [hq] at h; cases h
  | some b =>
    obtain ⟨b,r0⟩:=b
    rw [hq] at h; dsimp only at h
    split at h
    cases h
    rename_i hb
    have hn:=must_ne' (by decide) h
    rw [qual_app t hq (blk_ne hn)]; dsimp only
    rw [if_neg hb,blk_app t hn,must_app t h]
theorem el_app:∀ (lv:Nat) (sp0:SPX),ElT (elE lv sp0)
  | lv,sp0=>by
    intro l x r t h
    rw [elE] at h ⊢
    cases hh:T5 sp0 l with
    | none=>rw [hh] at h; cases h
    | some y =>
      obtain ⟨a,s,m,sp,c,r1⟩:=y
      refine ⟨?_,head_fst hh⟩
      rw [hh] at h; rw [head_app t hh]; dsimp only at h ⊢
      cases lv with
      | zero=>cases h
      | succ lv =>
        dsimp only at h ⊢
        split at h
        rename_i hc
        rw [if_pos hc]; injection h with h; injection h with h1 h2; rw [h1,h2]
        rename_i hc
        rw [if_neg hc]
        cases hk:X2 (elE lv sp) (r1.length+1) [] r1 with
        | error e=>rw [hk] at h; cases h
        | ok k =>
          obtain ⟨k,r2⟩:=k
          rw [hk] at h; rw [cont_app (el_app lv sp) t hk (by rw [List.length_append]; omega)]; dsimp only at h ⊢
          cases he:endE a r2 with
          | none=>rw [he] at h; cases h
          | some r3 =>
            rw [he] at h; rw [end_app t he]; dsimp only at h ⊢
            injection h with h; injection h with h1 h2; rw [h1,h2]
end Go.Xml
namespace Go.Xml
open Go.Esc Go.Json Go.Lib
def arE (l:List UInt8):Option (List UInt8):=I3 (l.length+1) l
def Amb (s:List UInt8):Prop:=(∀ l,arE (s++l)=arE l)∧Pl s
theorem Amb.nil:Amb []:=⟨fun _=>rfl,Pl.nil⟩
theorem Amb.app {a b:List UInt8} (ha:Amb a) (hb:Amb b):Amb (a++b):=⟨fun l=>by rw [List.append_assoc,ha.1,hb.1],ha.2.app hb.2⟩
theorem par_yes {l:List UInt8} {x:XN} (h:parE l=(x,0)) (_:(parE l).2=0):l.length≤65536∧Pl (D6 l)∧∃ c u r2,arE (D6 l)=some (60::c::u)∧fstX c=true∧elE 24 I4 (c::u)=.ok (x,r2)∧arE r2=some []:=by
  unfold parE at h
  split at h
  injection h with _ h; cases h
  rename_i hl
  split at h
  injection h with _ h; cases h
  rename_i hv
  have hv1:J0 (D6 l)=true:=by cases hq:J0 (D6 l) with | true=>rfl | false=>exact absurd (.inl hq) hv
  have hv2:F9 (D6 l)=D6 l:=by
    by_cases hq:F9 (D6 l)=D6 l
    exact hq
    exact absurd (.inr hq) hv
  refine ⟨by omega,pl_of hv1 hv2,?_⟩
  change (match arE (D6 l) with | none=>_ | some r=>_)=_ at h
  cases ha:arE (D6 l) with
  | none=>rw [ha] at h; injection h with _ h; cases h
  | some r =>
    rw [ha] at h; dsimp only at h
    cases hm:O7 [60] r with
    | none=>rw [hm] at h; injection h with _ h; cases h
    | some r1 =>
      rw [hm] at h; dsimp only at h
      have hr:r=60::r1:=by
        unfold O7 at hm
        split at hm
        rename_i hp; injection hm with hm
        have:=pre_eq hp
        rw [this]; exact congrArg _ hm
        cases hm
      cases he:elE 24 I4 r1 with
      | error e =>
        rw [he] at h; injection h with _ h
        exfalso
        have:=(el_ok 24 I4) r1
        have hpl:Pl r1:=by
          have hq:=Z4 ((D6 l).length+1) ((D6 l).length+1) (D6 l) (pl_of hv1 hv2) (Nat.lt_succ_self _) (Nat.lt_succ_self _)
          change match arE (D6 l) with | some r=>_ | none=>_ at hq
          rw [ha] at hq
          have:=hq.2.1
          rw [hr] at this
          exact this.tail (by decide)
        have h2:=this hpl
        rw [he] at h2
        exact h2.2 h
      | ok y =>
        obtain ⟨y,r2⟩:=y
        rw [he] at h; dsimp only at h
        obtain ⟨_,c,u,e2,e3⟩:=(el_app 24 I4) _ _ _ [] he
        change (match arE r2 with | none=>_ | some r=>_)=_ at h
        cases hb:arE r2 with
        | none=>rw [hb] at h; injection h with _ h; cases h
        | some r3 =>
          rw [hb] at h; dsimp only at h
          split at h
          rename_i h3
          injection h with h _; subst h
          exact ⟨c,u,r2,by rw [hr,e2],e3,by rw [← e2]; exact he,by rw [hb,h3]⟩
          injection h with _ h; cases h
end Go.Xml
namespace Go.Xml
open Go.Esc Go.Json Go.Lib
mutual
def cnX:XN→Nat
 | .mk _ _ ats l _=>1+ats.length+cnXL l
def cnXL:List XN→Nat
 | []=>0
 | v::l=>cnX v+cnXL l
end
theorem cnX_eq (s n:List UInt8) (ats:List XA) (l:List XN) (t:List UInt8):cnX (.mk s n ats l t)=1+ats.length+cnXL l:=by simp only [cnX]
theorem Q8 (v:XN) (l:List XN):cnXL (v::l)=cnX v+cnXL l:=by simp only [cnXL]
theorem Y1:cnXL []=0:=by simp only [cnXL]
theorem cnX_pos (v:XN):0<cnX v:=by cases v; rw [cnX_eq]; omega
theorem cnX_sum (x:XN):cnX x=1+x.attrs.length+cnXL x.kids:=by cases x; exact cnX_eq _ _ _ _ _
theorem cnXL_app:∀ l m:List XN,cnXL (l++m)=cnXL l+cnXL m
 | [],m=>by rw [Y1,List.nil_append,Nat.zero_add]
 | v::l,m=>by rw [List.cons_append,Q8,Q8,cnXL_app l m,Nat.add_assoc]
theorem cnXL_len:∀ l:List XN,l.length≤cnXL l
 | []=>Nat.zero_le _
 | v::l=>by have:=cnXL_len l; have:=cnX_pos v; rw [Q8,List.length_cons]; omega
theorem cnX_parts (x:XN):x.attrs.length+x.kids.length+1≤cnX x:=by
 have:=cnXL_len x.kids
 rw [cnX_sum]; omega
theorem cnXL_at:∀ {l:List XN} {i:Nat} (h:i<l.length),cnX l[i]≤cnXL l
  | [],_,h=>absurd h (Nat.not_lt_zero _)
  | v::l,0,_=>by rw [Q8]; show cnX v≤_; omega
  | v::l,i+1,h=>by
    have hi:i<l.length:=by simpa using h
    have:=cnXL_at hi
    rw [Q8]; show cnX l[i]≤_; omega
theorem cnX_kid {x:XN} {i:Nat} (h:i<x.kids.length):cnX x.kids[i]<cnX x:=by
 have:=cnXL_at h
 rw [cnX_sum x]; omega
theorem cn_nul:cnX J3=1:=by kernel_rfl
theorem add_cn (ks:List XN) (s:List UInt8):cnXL (addX ks s)≤cnXL ks+1:=by
 unfold addX
 split
 omega
 split
 rename_i sp at_ kk t h
 have e:ks=ks.dropLast++[.mk sp [] at_ kk t]:=by
  have hk:ks≠[]:=by rintro rfl; cases h
  rw [List.getLast?_eq_some_getLast hk] at h
  injection h with h
  rw [← h]; exact (List.dropLast_concat_getLast hk).symm
 have h2:=congrArg cnXL e
 rw [cnXL_app,Q8,Y1,cnX_eq] at h2
 rw [cnXL_app,Q8,Y1,cnX_eq]; omega
 rw [cnXL_app,Q8,Y1,cnX_eq,Y1]; simp
theorem marks_cn:∀ {ats:List AT} {out m:List XA} {sp:SPX},O3 ats out sp=some m→m.length≤out.length+ats.length
  | [],out,m,sp,h=>by rw [O3] at h; injection h with h; subst h; omega
  | a::r,out,m,sp,h=>by
    rw [O3] at h
    split at h
    have:=marks_cn h; rw [List.length_cons]; omega
    split at h
    cases h
    split at h
    cases h
    have:=marks_cn h; rw [List.length_append,List.length_cons,List.length_nil] at this; rw [List.length_cons]; omega
theorem tag_cn:∀ {n:Nat} {acc:List AT} {l:List UInt8} {ats:List AT} {c:Bool} {r:List UInt8},Pl l→Y7 n acc l=some (ats,c,r)→ats.length+r.length≤acc.length+l.length∧Pl r
  | 0,_,_,_,_,_,_,h=>by cases h
  | n+1,acc,l,ats,c,r,hp,h=>by
    rw [Y7] at h
    have hb:=Z3 l
    split at h
    rename_i hq
    injection h with h; injection h with h3 h; injection h with h4 h5; subst h3; subst h4; subst h5
    rw [List.length_drop]; exact ⟨by omega,hp.blk.pre hq (by decide)⟩
    split at h
    rename_i hq
    injection h with h; injection h with h3 h; injection h with h4 h5; subst h3; subst h4; subst h5
    rw [List.length_drop]; exact ⟨by omega,hp.blk.pre hq (by decide)⟩
    split at h
    cases ha:S3 (blk l) with
    | none=>rw [ha] at h; cases h
    | some x =>
      obtain ⟨x,r1⟩:=x
      rw [ha] at h; dsimp only at h
      obtain ⟨h1,h2,_⟩:=attr_pl hp.blk ha
      dsimp only at h1 h2
      have h3:=tag_cn h1 h
      rw [List.length_append,List.length_cons,List.length_nil] at h3
      exact ⟨by omega,h3.2⟩
    cases h
theorem head_cn {sp0:SPX} {l:List UInt8} {a:QN} {s:List UInt8} {m:List XA} {sp:SPX} {c:Bool} {r:List UInt8} (hp:Pl l) (h:T5 sp0 l=some (a,s,m,sp,c,r)):1+m.length+r.length≤l.length∧Pl r:=by
  unfold T5 at h
  cases hq:G5 l with
  | none=>rw [hq] at h; cases h
  | some y =>
    obtain ⟨y,r0⟩:=y
    rw [hq] at h; dsimp only at h
    obtain ⟨p1,p2,_⟩:=qual_pl hp hq
    dsimp only at p1 p2
    cases ht:Y7 (r0.length+1) [] r0 with
    | none=>rw [ht] at h; cases h
    | some z =>
      obtain ⟨ats,c1,r1⟩:=z
      rw [ht] at h; dsimp only at h
      have ht2:=tag_cn p1 ht
      rw [List.length_nil] at ht2
      cases h1:spE ats [] sp0 with
      | none=>rw [h1] at h; cases h
      | some sp1 =>
        rw [h1] at h; dsimp only at h
        cases h2:R5 y.pre y.has sp1 with
        | none=>rw [h2] at h; cases h
        | some s1 =>
          rw [h2] at h; dsimp only at h
          cases h3:O3 ats [] sp1 with
          | none=>rw [h3] at h; cases h
          | some m1 =>
            rw [h3] at h; dsimp only at h
            injection h with h; injection h with e1 h; injection h with e2 h; injection h with e3 h; injection h with e4 h; injection h with e5 e6
            subst e1; subst e2; subst e3; subst e4; subst e5; subst e6
            have h4:=marks_cn h3
            rw [List.length_nil] at h4
            exact ⟨by omega,ht2.2⟩
def ElC (el:List UInt8→EX):Prop:=∀ l x r,Pl l→el l=.ok (x,r)→cnX x+r.length≤l.length∧Pl r
theorem piece_cn {el:List UInt8→EX} (hel:ElC el) {ks k2:List XN} {l r:List UInt8} (hp:Pl l) (h:M4 el ks l=.ok (k2,r)):cnXL k2+r.length≤cnXL ks+l.length∧Pl r:=by
  unfold M4 at h
  split at h
  rename_i hq
  have h1:=hp.pre hq (by decide)
  have h1:Pl (l.drop 9):=h1
  have hl:=(List.isPrefixOf_iff_prefix.1 hq).length_le
  cases hu:L2 [93,93,62] (l.drop 9) with
  | none=>rw [hu] at h; cases h
  | some x =>
    obtain ⟨x,r1⟩:=x
    rw [hu] at h; dsimp only at h
    injection h with h; injection h with h3 h4; subst h3; subst h4
    obtain ⟨_,h5,h6⟩:=until_pl h1 (by decide) (by decide) hu
    dsimp only at h5 h6
    rw [List.length_drop] at h6
    have:=add_cn ks (B5 x)
    exact ⟨by omega,h5⟩
  cases ha:J9 l with
  | none=>rw [ha] at h; cases h
  | some o =>
    cases o with
    | some r1 =>
      rw [ha] at h; dsimp only at h
      injection h with h; injection h with h1 h2; subst h1; subst h2
      obtain ⟨h3,h4⟩:=aside_pl hp ha
      exact ⟨by omega,h3⟩
    | none =>
      rw [ha] at h; dsimp only at h
      split at h
      rename_i hq
      have h1:=hp.pre hq (by decide)
      have h1:Pl (l.drop 1):=h1
      cases he:el (l.drop 1) with
      | error e=>rw [he] at h; cases h
      | ok x =>
        obtain ⟨x,r1⟩:=x
        rw [he] at h; dsimp only at h
        injection h with h; injection h with h3 h4; subst h3; subst h4
        obtain ⟨h5,h6⟩:=hel _ _ _ h1 he
        rw [List.length_drop] at h5
        rw [cnXL_app,Q8,Y1]
        exact ⟨by omega,h6⟩
      rename_i hq
      cases he:A0c l with
      | none=>rw [he] at h; cases h
      | some x =>
        obtain ⟨x,r1⟩:=x
        rw [he] at h; dsimp only at h
        injection h with h; injection h with h3 h4; subst h3; subst h4
        obtain ⟨h5,h6⟩:=text_pl hp he (by cases hz:[60].isPrefixOf l with | true=>exact absurd hz hq | false=>rfl)
        dsimp only at h5 h6
        have:=add_cn ks x
        exact ⟨by omega,h5⟩
theorem cont_cn {el:List UInt8→EX} (hel:ElC el):∀ {n:Nat} {ks k2:List XN} {l r:List UInt8},Pl l→X2 el n ks l=.ok (k2,r)→cnXL k2+r.length≤cnXL ks+l.length∧Pl r
  | 0,_,_,_,_,_,h=>by cases h
  | n+1,ks,k2,l,r,hp,h=>by
    rw [X2] at h
    split at h
    rename_i hq
    injection h with h; injection h with h3 h4; subst h3; subst h4
    rw [List.length_drop]
    exact ⟨by omega,hp.pre hq (by decide)⟩
    cases hx:M4 el ks l with
    | error e=>rw [hx] at h; cases h
    | ok x =>
      obtain ⟨x,r1⟩:=x
      rw [hx] at h; dsimp only at h
      obtain ⟨h1,h2⟩:=piece_cn hel hp hx
      obtain ⟨h3,h4⟩:=cont_cn hel h2 h
      exact ⟨by omega,h4⟩
theorem end_cn {a:QN} {l r:List UInt8} (hp:Pl l) (h:endE a l=some r):r.length≤l.length∧Pl r:=by
  unfold endE at h
  cases hq:G5 l with
  | none=>rw [hq] at h; cases h
  | some b =>
    obtain ⟨b,r0⟩:=b
    rw [hq] at h; dsimp only at h
    obtain ⟨p1,p2,_⟩:=qual_pl hp hq
    dsimp only at p1 p2
    split at h
    cases h
    obtain ⟨h1,h2⟩:=must_pl p1.blk (by decide) (by decide) h
    have:=Z3 r0
    exact ⟨by omega,h1⟩
theorem el_cn:∀ (lv:Nat) (sp0:SPX),ElC (elE lv sp0)
  | lv,sp0=>by
    intro l x r hp h
    rw [elE] at h
    cases hh:T5 sp0 l with
    | none=>rw [hh] at h; cases h
    | some y =>
      obtain ⟨a,s,m,sp,c,r1⟩:=y
      obtain ⟨h1,h2⟩:=head_cn hp hh
      rw [hh] at h; dsimp only at h
      cases lv with
      | zero=>cases h
      | succ lv =>
        dsimp only at h
        split at h
        injection h with h; injection h with h3 h4; subst h3; subst h4
        rw [cnX_eq,Y1]; exact ⟨by omega,h2⟩
        cases hk:X2 (elE lv sp) (r1.length+1) [] r1 with
        | error e=>rw [hk] at h; cases h
        | ok k =>
          obtain ⟨k,r2⟩:=k
          rw [hk] at h; dsimp only at h
          obtain ⟨h3,h4⟩:=cont_cn (el_cn lv sp) h2 hk
          rw [Y1] at h3
          cases he:endE a r2 with
          | none=>rw [he] at h; cases h
          | some r3 =>
            rw [he] at h; dsimp only at h
            injection h with h; injection h with h5 h6; subst h5; subst h6
            obtain ⟨h7,h8⟩:=end_cn h4 he
            rw [cnX_eq]; exact ⟨by omega,h8⟩
theorem parE_cn (l:List UInt8):cnX (parE l).1≤l.length+1:=by
 by_cases hx:∃ x,parE l=(x,0)
 obtain ⟨x,hx⟩:=hx
 obtain ⟨h0,hp,c,u,r2,h1,h2,h3,h4⟩:=par_yes hx (by rw [hx])
 have ha:=Z4 ((D6 l).length+1) ((D6 l).length+1) (D6 l) hp (Nat.lt_succ_self _) (Nat.lt_succ_self _)
 change match arE (D6 l) with | some r=>_ | none=>_ at ha
 rw [h1] at ha
 obtain ⟨_,h5,h6⟩:=ha
 obtain ⟨h7,_⟩:=el_cn 24 I4 _ _ _ (h5.tail (by decide)) h3
 have h8:(D6 l).length≤l.length:=by
  unfold D6
  split
  rw [List.length_drop]; omega
  omega
 rw [hx]
 show cnX x≤_
 rw [List.length_cons] at h6
 omega
 have:(parE l).1=J3:=by
  have hx2:∀ x,parE l≠(x,0):=fun x h=>hx ⟨x,h⟩
  unfold parE at hx2 ⊢
  revert hx2
  split
  intro _; rfl
  split
  intro _; rfl
  split
  intro _; rfl
  split
  intro _; rfl
  split
  intro _; rfl
  split
  intro _; rfl
  split
  intro h; exact absurd rfl (h _)
  intro _; rfl
 rw [this,cn_nul]; omega
theorem parX_cn (l:List UInt8):cnX (I5 l).1≤l.length+1:=by rw [par_ok]; exact parE_cn l
end Go.Xml
