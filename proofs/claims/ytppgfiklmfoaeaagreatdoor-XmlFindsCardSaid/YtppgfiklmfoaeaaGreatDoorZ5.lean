/- What the laws of XML's elements stand on. (and what it stands on) -/
import Derived.Test.YtppgfiklmfoaeaaGreatDoorZ4
import Derived.Lib.Strings
namespace Go.Xml
open Go.Esc Go.Json
def elT (q:XS):List AT × Bool × XS:=tagX ((A7 q).2.1.length+1) [] (A7 q).2
def elS (sp:SPX) (q:XS):SPX × XS:=L7 (elT q).1 [] sp (elT q).2.2
def elV (sp:SPX) (q:XS):List UInt8 × XS:=J9 (A7 q).1.pre (A7 q).1.has (elS sp q).1 (elS sp q).2
def elM (sp:SPX) (q:XS):List XA × XS:=N3 (elT q).1 [] (elS sp q).1 (elV sp q).2
section
variable {sp : SPX} {q q2 : XS} {out : List XA}
theorem el_1 {lv:Nat} (h:(elT q).2.2.2≠0):elX lv sp q=(V8,(elT q).2.2):=by
  rw [elX_eq]; dsimp only; exact if_pos h
theorem el_2 (h:(elT q).2.2.2=0) (hm:elM sp q=(out,q2)):elX 0 sp q=(.mk (elV sp q).1 (A7 q).1.name out [] [],F0 71 q2):=by
  rw [elX_eq]; dsimp only
  rw [if_neg (fun hn=>hn h)]
  show (XN.mk (elV sp q).1 (A7 q).1.name (elM sp q).1 [] [],F0 71 (elM sp q).2)=_
  rw [hm]
theorem el_3 {n:Nat} (h:(elT q).2.2.2=0) (hm:elM sp q=(out,q2)) (hc:(elT q).2.1=true∨q2.2≠0):elX (n+1) sp q=(.mk (elV sp q).1 (A7 q).1.name out [] [],q2):=by
  rw [elX_eq]; dsimp only
  rw [if_neg (fun hn=>hn h)]
  show (if (elT q).2.1=true∨(elM sp q).2.2≠0 then (XN.mk (elV sp q).1 (A7 q).1.name (elM sp q).1 [] [],(elM sp q).2) else S7 (A7 q).1 (F7 (elX n (elS sp q).1) ((elM sp q).2.1.length+1) [] (elM sp q).2) (elV sp q).1 (elM sp q).1)=_
  rw [hm]; exact if_pos hc
theorem el_4 {n:Nat} (h:(elT q).2.2.2=0) (hm:elM sp q=(out,q2)) (hc:¬ ((elT q).2.1=true∨q2.2≠0)):elX (n+1) sp q=S7 (A7 q).1 (F7 (elX n (elS sp q).1) (q2.1.length+1) [] q2) (elV sp q).1 out:=by
  rw [elX_eq]; dsimp only
  rw [if_neg (fun hn=>hn h)]
  show (if (elT q).2.1=true∨(elM sp q).2.2≠0 then (XN.mk (elV sp q).1 (A7 q).1.name (elM sp q).1 [] [],(elM sp q).2) else S7 (A7 q).1 (F7 (elX n (elS sp q).1) ((elM sp q).2.1.length+1) [] (elM sp q).2) (elV sp q).1 (elM sp q).1)=_
  rw [hm]; exact if_neg hc
end
theorem close_yes {a:QN} {k:List XN × XS} {s:List UInt8} {m:List XA} (h:(A7 k.2).1≠a):S7 a k s m=(.mk s a.name m k.1 [],F0 70 (D3 [62] (blk (A7 k.2).2.1,(A7 k.2).2.2))):=by
  unfold S7; rw [if_pos h]; rfl
theorem close_no {a:QN} {k:List XN × XS} {s:List UInt8} {m:List XA} (h:(A7 k.2).1=a):S7 a k s m=(.mk s a.name m k.1 [],D3 [62] (blk (A7 k.2).2.1,(A7 k.2).2.2)):=by
  unfold S7; rw [if_neg (fun hn=>hn h)]; rfl
theorem qn_eq {a b:QN}:a=b ↔ a.pre=b.pre∧a.name=b.name∧a.has=b.has:=by
  cases a; cases b; simp
theorem flt71 (q:XS):(F0 71 q).2≠0:=by
  unfold F0; dsimp only; split
  · decide
  · rename_i h; exact h
def mkX (sp:SPX) (a:AT) (q:XS):List UInt8 × XS:=if a.q.has=true then J9 a.q.pre true sp q else ([],q)
theorem mkX_yes {sp:SPX} {a:AT} {q:XS} (h:a.q.has=true):mkX sp a q=J9 a.q.pre true sp q:=if_pos h
theorem mkX_no {sp:SPX} {a:AT} {q:XS} (h:a.q.has=false):mkX sp a q=([],q):=if_neg (by rw [h]; exact Bool.false_ne_true)
theorem mkX_le (sp:SPX) (a:AT) (q:XS):(mkX sp a q).2.1=q.1:=by unfold mkX; split; exact space_le _ _ _ _; rfl
theorem marks_yes {a:AT} {r:List AT} {out:List XA} {sp:SPX} {q:XS} (h:(P7 a).isSome=false) (hy:(out.any fun y=>y.space==(mkX sp a q).1&&y.name==a.q.name)=true):N3 (a::r) out sp q=N3 r (out++[⟨(mkX sp a q).1,a.q.name,a.value⟩]) sp (F0 70 (mkX sp a q).2):=by
  rw [marks_go h]
  show N3 r (out++[⟨(mkX sp a q).1,a.q.name,a.value⟩]) sp (if (out.any fun y=>y.space==(mkX sp a q).1&&y.name==a.q.name)=true then F0 70 (mkX sp a q).2 else (mkX sp a q).2)=_
  rw [if_pos hy]
theorem marks_no {a:AT} {r:List AT} {out:List XA} {sp:SPX} {q:XS} (h:(P7 a).isSome=false) (hy:(out.any fun y=>y.space==(mkX sp a q).1&&y.name==a.q.name)=false):N3 (a::r) out sp q=N3 r (out++[⟨(mkX sp a q).1,a.q.name,a.value⟩]) sp (mkX sp a q).2:=by
  rw [marks_go h]
  show N3 r (out++[⟨(mkX sp a q).1,a.q.name,a.value⟩]) sp (if (out.any fun y=>y.space==(mkX sp a q).1&&y.name==a.q.name)=true then F0 70 (mkX sp a q).2 else (mkX sp a q).2)=_
  rw [if_neg (by rw [hy]; exact Bool.false_ne_true)]
theorem decl_is {a:AT}:(P7 a).isSome=true ↔ (a.q.has=true∧a.q.pre=T1)∨(a.q.has=false∧a.q.name=T1):=by
  unfold P7
  constructor
  · intro h
    split at h
    · rename_i h1; exact .inr h1
    · split at h
      · rename_i h2; exact .inl h2
      · cases h
  · intro h
    split
    · rfl
    · rename_i h1
      rw [if_pos (h.resolve_right h1)]; rfl
theorem elT_le (q:XS):(elT q).2.2.1.length≤q.1.length:=by
  have h1:=tag_le ((A7 q).2.1.length+1) [] (A7 q).2
  have h2:=qual_le q
  unfold elT; omega
theorem elS_le (sp:SPX) (q:XS):(elS sp q).2.1=(elT q).2.2.1:=sp_le _ _ _ _
theorem elV_le (sp:SPX) (q:XS):(elV sp q).2.1=(elT q).2.2.1:=by unfold elV; rw [space_le,elS_le]
end Go.Xml
namespace Go.Proofs.YtppgfiklmfoaeaaGreatDoor
open Go.Sw Go.Sha Go.Esc Go.RowKit Go.Json Go.Xml
theorem xtakeb_ (r:Nat) (q:XS) (w:List UInt8) (W0:World) (H:List Grp):Tri Tryz.prog 102 #[pt r,.string (bk w)] W0 (rdX r q::H) (fun v H'=>v=.bool (G2 w q).1∧H'=rdX r (G2 w q).2::H):=by
  refine (xtake_ r q w W0 H).post fun v H' h=>⟨H',?_,fun _ h=>h⟩
  rcases h with ⟨h,h1,h2⟩ | ⟨h,h1,h2⟩
  · rw [P9 h]; exact ⟨h1,h2⟩
  · rw [M5 h]; exact ⟨h1,h2⟩
theorem xhasN_ (out:List XA) (no:Nat) (hno:no=out.length) (a:Option Addr) (c:Nat) (S:Nat→Obj→Prop) (hrd:Rd S a (xaV out)) (hol:out.length≤1000002) (x:XA) (xb:Nat) (W0:World) (H:List Grp) (hS:∀ y o,S y o→At W0 H y o):Tri Tryz.prog 107 #[.slice a no c,.func (.func 108) #[] #[pt xb]] W0 ([(xb,.cells #[.string (bk x.space),.string (bk x.name),.string (bk x.value)] 75 (0,0))]::H) (fun v H'=>v=.bool (out.any (sameA x))∧H'=[(xb,.cells #[.string (bk x.space),.string (bk x.name),.string (bk x.value)] 75 (0,0))]::H):=by
  subst hno; exact xhasF_ out a c S hrd hol x xb W0 H hS
theorem xelementW_ (lv:Nat) (d:Int) (hd:d=24 - (lv:Int)) (hlv:lv≤24) (r:Nat) (q:XS) (hl:q.1.length≤1000000) (ms mc:Nat) (M:SM) (sp:SPX) (hM:SpR M sp) (hcont:∀ n,lv=n+1→∀ (q:XS),q.1.length≤1000000→∀ (nb:Nat) (v0 v1 v2 v4:Value) (ms mc:Nat) (M:SM) (sp:SPX),SpR M sp→∀ (W0:World) (H:List Grp),P2 W0→Tri Tryz.prog 109 #[pt r,pt nb,.int .i64 d,.map (some ms)] W0 (rdX r q::[(ms,.map (F2 M) mc)]::[(nb,.cells #[v0,v1,v2,.slice none 0 0,v4] 55 (0,0))]::H) (fun _ H2=>∃ kn ka kc kg cs gs,kn=(F7 (elX n sp) (q.1.length+1) [] q).1.length∧Go.Sw.Own 55 5 (.slice ka kn kc) kg kn cs∧XRepL 75 55 (F7 (elX n sp) (q.1.length+1) [] q).1 cs gs∧H2=rdX r (F7 (elX n sp) (q.1.length+1) [] q).2::[(ms,.map (F2 M) mc)]::[(nb,.cells #[v0,v1,v2,.slice ka kn kc,v4] 55 (0,0))]::kg::gs::H)) (W0:World) (H:List Grp) (hX:P2 W0):Tri Tryz.prog 63 #[pt r,.int .i64 d,.map (some ms)] W0 ([(r,.cells #[.string (bk q.1),.int .i64 q.2] 97 (0,0))]::[(ms,.map (F2 M) mc)]::H) (fun v H2=>∃ c g,XRep 75 55 (elX lv sp q).1 c g∧v=.agg c.toArray∧H2=rdX r (elX lv sp q).2::[(ms,.map (F2 M) mc)]::g::H):=by
  have hql:=qual_le q
  have hal0:=(attrs_le ((A7 q).2.1.length+1) [] (A7 q).2).2
  have hal:(E8 ((A7 q).2.1.length+1) [] (A7 q).2).1.length≤1000002:=by rw [List.length_nil] at hal0; omega
  refine D4 142 Tryz.func63 ?_
  refine A1 (A3 (J5 (.agg zN.toArray) (fun b1=>A8 [] [0,1,2,6] (k:=A0 (A1 (A3 (A4 (j:=1) [0] (k:=O0 0 [1] ?_))))))))
  refine E0 Tryz.func103 (xqual_ r q (by first | omega | (have h9:=cont_le (el_le n (elS sp q).1) (q2.1.length+1) [] q2; omega)) _ _) ?_
  rintro _ _ ⟨rfl,rfl⟩
  refine A8 [0,0,0,0,0,0,0] [0,1,2,6,7,8,9] (k:=A0 (A1 (A3 (A4 (j:=1) [0] (k:=E0 Tryz.func104 (xattrs_ r (A7 q).2 (by have:=qual_le q; omega) _ _ hX) ?_)))))
  rintro _ _ ⟨ta,tc,tg,rfl,hTA,rfl⟩
  refine A8 [0] [0,1,2,6,7,8,9,10] (k:=A0 (A1 (A3 (A4 (j:=1) [0] (k:=E0 Tryz.func102 (xtakeb_ r ((E8 ((A7 q).2.1.length+1) [] (A7 q).2).2) [47,62] _ _) ?_)))))
  rintro _ _ ⟨rfl,rfl⟩
  refine A8 [0] [0,1,2,6,7,8,9,10,11] (k:=A0 (A1 (A1 (G_p [0,0] [0,1,2,6,7,8,9,10,11,30] (k:=A0 (S0 (T:=Unit) (fun _:Unit=>[⟨0,[],pt r⟩,⟨1,[],.int .i64 d⟩,⟨2,[],.map (some ms)⟩,⟨6,[],pt b1⟩,⟨7,[],.string (bk (A7 q).1.pre)⟩,⟨8,[],.string (bk (A7 q).1.name)⟩,⟨9,[],.bool ((A7 q).1.has)⟩,⟨10,[],.slice ta ((E8 ((A7 q).2.1.length+1) [] (A7 q).2).1.length) tc⟩,⟨11,[],.bool ((G2 [47,62] ((E8 ((A7 q).2.1.length+1) [] (A7 q).2).2)).1)⟩]) (fun _:Unit=>([(r,.cells #[.string (bk ((elT q).2.2).1),.int .i64 (((elT q).2.2).2)] 97 (0,0))]::tg::[(b1,.cells zN.toArray 55 (0,0))]::[(ms,.map (F2 M) mc)]::H)) (fun _:Unit=>True) ?_ ?_))))))
  ·
    refine B0 (b:=!((G2 [47,62] ((E8 ((A7 q).2.1.length+1) [] (A7 q).2).2)).1)) kr (fun hc2=>?_) (fun hc2=>?_)
    ·
      have hcl:¬ (G2 [47,62] (E8 ((A7 q).2.1.length+1) [] (A7 q).2).2).1=true:=by have h:=hc2; simpa using h
      refine A3 (A4 (j:=1) [0] (k:=E0 Tryz.func62 (xmust_ r ((G2 [47,62] ((E8 ((A7 q).2.1.length+1) [] (A7 q).2).2)).2) [62] _ _) ?_))
      rintro _ _ rfl
      refine B4 (E':=[⟨0,[],pt r⟩,⟨1,[],.int .i64 d⟩,⟨2,[],.map (some ms)⟩,⟨6,[],pt b1⟩,⟨7,[],.string (bk (A7 q).1.pre)⟩,⟨8,[],.string (bk (A7 q).1.name)⟩,⟨9,[],.bool ((A7 q).1.has)⟩,⟨10,[],.slice ta ((E8 ((A7 q).2.1.length+1) [] (A7 q).2).1.length) tc⟩,⟨11,[],.bool ((G2 [47,62] ((E8 ((A7 q).2.1.length+1) [] (A7 q).2).2)).1)⟩]) [] [0,1,2,6,7,8,9,10,11] (k:=?_)
      have hq9:(elT q).2.2=D3 [62] (G2 [47,62] (E8 ((A7 q).2.1.length+1) [] (A7 q).2).2).2:=if_neg hcl
      refine Y0 (H':=([(r,.cells #[.string (bk ((elT q).2.2).1),.int .i64 (((elT q).2.2).2)] 97 (0,0))]::tg::[(b1,.cells zN.toArray 55 (0,0))]::[(ms,.map (F2 M) mc)]::H)) (by rw [hq9]; try rfl) (G8 (()) [0,1,2,6,7,8,9,10,11] kr (fun w h=>h) trivial)
    ·
      have hcl:(G2 [47,62] (E8 ((A7 q).2.1.length+1) [] (A7 q).2).2).1=true:=by have h:=hc2; simpa using h
      refine A9 (Q1 (E':=[⟨0,[],pt r⟩,⟨1,[],.int .i64 d⟩,⟨2,[],.map (some ms)⟩,⟨6,[],pt b1⟩,⟨7,[],.string (bk (A7 q).1.pre)⟩,⟨8,[],.string (bk (A7 q).1.name)⟩,⟨9,[],.bool ((A7 q).1.has)⟩,⟨10,[],.slice ta ((E8 ((A7 q).2.1.length+1) [] (A7 q).2).1.length) tc⟩,⟨11,[],.bool ((G2 [47,62] ((E8 ((A7 q).2.1.length+1) [] (A7 q).2).2)).1)⟩,⟨30,[],.bool (!((G2 [47,62] ((E8 ((A7 q).2.1.length+1) [] (A7 q).2).2)).1))⟩]) kr ?_)
      have hq9:(elT q).2.2=(G2 [47,62] (E8 ((A7 q).2.1.length+1) [] (A7 q).2).2).2:=if_pos hcl
      refine Y0 (H':=([(r,.cells #[.string (bk ((elT q).2.2).1),.int .i64 (((elT q).2.2).2)] 97 (0,0))]::tg::[(b1,.cells zN.toArray 55 (0,0))]::[(ms,.map (F2 M) mc)]::H)) (by rw [hq9]; try rfl) (G8 (()) [0,1,2,6,7,8,9,10,11] kr (fun w h=>h) trivial)
  ·
    rintro _ _
    refine A0 (A1 (A1 (A3 (A4 (j:=3) [0,0,0] (k:=C4 0 1 rfl rfl (A8 [0] [0,1,2,6,7,8,9,10,11,37] (k:=A0 (B0 (b:=(((elT q).2.2).2) != 0) kr (fun hc3=>?_) (fun hc3=>?_)))))))))
    ·
      have hf:(elT q).2.2.2≠0:=by simpa using hc3
      have hE:elX lv sp q=_:=el_1 hf
      refine A1 (A3 (A4 (j:=1) [0] (k:=E4 2 0 (.agg zN.toArray) rfl (B4 (E':=[⟨6,[],pt b1⟩]) [] [6] (k:=A0 (B8 (A5 (N_pkT 1 [0,2,1] ([(r,.cells #[.string (bk ((elT q).2.2).1),.int .i64 (((elT q).2.2).2)] 97 (0,0))]::[(ms,.map (F2 M) mc)]::[(b1,.cells zN.toArray 55 (0,0))]::H) ?_))))))))
      refine I1 (H':=([(r,.cells #[.string (bk ((elT q).2.2).1),.int .i64 (((elT q).2.2).2)] 97 (0,0))]::[(ms,.map (F2 M) mc)]::[(b1,.cells zN.toArray 55 (0,0))]::[]::H)) (fun w h=>Sat.flat h (List.Perm.of_eq (by simp []))) (R9 [.cell 6 55] [.agg zN.toArray] rfl (.cons (.aq 2 0 rfl) (.nil)) rfl ⟨_,?_,fun w h=>(h.pk 1 [0,0,1])⟩)
      rw [hE]; exact ⟨_,_,XRep.nul,rfl,rfl⟩
    ·
      have hf:(elT q).2.2.2=0:=by simpa using hc3
      refine A9 (A0 (A1 (A3 (A4 (j:=3) [0,0,0] (k:=O0 0 [0,2] (E0 Tryz.func105 (xspaces_ r (elT q).2.2 (E8 ((A7 q).2.1.length+1) [] (A7 q).2).1 ta tc (inG tg) (H7 hTA) hal ms mc M sp hM _ _ (D9 0 rfl)) ?_))))))
      rintro _ _ ⟨mo,Mo,co,rfl,hMo,rfl⟩
      have hMo:SpR Mo (elS sp q).1:=hMo
      refine A8 [0] [0,1,2,6,7,8,9,10,11] (k:=A0 (A1 (A3 (A4 (j:=4) [0,0,0,0] (k:=E0 Tryz.func106 (xspace_ r ((elS sp q).2) ((A7 q).1.pre) ((A7 q).1.has) mo co Mo (elS sp q).1 hMo _ _) ?_)))))
      rintro _ _ ⟨rfl,rfl⟩
      refine A4 (j:=7) [0,0] (k:=J5 (.agg zN.toArray) (fun b4=>E4 0 0 (.agg #[.string (bk (elV sp q).1),.string (bk (A7 q).1.name),.slice none 0 0,.slice none 0 0,.string eB]) rfl (A8 [] [0,1,2,6,7,8,9,10,11,12] (k:=A0 (A1 (A1 (G_p [0,0,0] [0,1,2,6,7,8,9,11,12,50,51,52] (k:=A0 ?_))))))))
      refine B2 (G_pkT 0 [1,1,1,0,0,0] ([(r,.cells #[.string (bk ((elV sp q).2).1),.int .i64 (((elV sp q).2).2)] 97 (0,0))]::[(mo,.map (F2 Mo) co)]::[(ms,.map (F2 M) mc)]::[(b4,.cells #[.string (bk (elV sp q).1),.string (bk (A7 q).1.name),.slice none 0 0,.slice none 0 0,.string eB] 55 (0,0))]::tg::[(b1,.cells zN.toArray 55 (0,0))]::H) (V6 (H':=([(r,.cells #[.string (bk ((elV sp q).2).1),.int .i64 (((elV sp q).2).2)] 97 (0,0))]::[(mo,.map (F2 Mo) co)]::[(ms,.map (F2 M) mc)]::[(b4,.cells #[.string (bk (elV sp q).1),.string (bk (A7 q).1.name),.slice none 0 0,.slice none 0 0,.string eB] 55 (0,0))]::[]::tg::[(b1,.cells zN.toArray 55 (0,0))]::H)) (fun w h=>(Sat.flat h (List.Perm.of_eq (by simp)))) (I3 (EI:=(fun ξ:Nat × XS × List XA × Nat × Option Addr × Nat × Grp=>[⟨0,[],pt r⟩,⟨1,[],.int .i64 d⟩,⟨2,[],.map (some mo)⟩,⟨6,[],pt b1⟩,⟨7,[],.string (bk (A7 q).1.pre)⟩,⟨8,[],.string (bk (A7 q).1.name)⟩,⟨9,[],.bool ((A7 q).1.has)⟩,⟨11,[],.bool ((G2 [47,62] ((E8 ((A7 q).2.1.length+1) [] (A7 q).2).2)).1)⟩,⟨12,[],pt b4⟩,⟨50,[],.slice ta ((E8 ((A7 q).2.1.length+1) [] (A7 q).2).1.length) tc⟩,⟨51,[],.int .i64 (((E8 ((A7 q).2.1.length+1) [] (A7 q).2).1.length:Nat):Int)⟩,⟨52,[],.int .i64 ((ξ.1:Nat):Int)⟩])) (HI:=(fun ξ:Nat × XS × List XA × Nat × Option Addr × Nat × Grp=>([(r,.cells #[.string (bk ξ.2.1.1),.int .i64 ξ.2.1.2] 97 (0,0))]::[(mo,.map (F2 Mo) co)]::[(ms,.map (F2 M) mc)]::[(b4,.cells #[.string (bk (elV sp q).1),.string (bk (A7 q).1.name),.slice ξ.2.2.2.2.1 ξ.2.2.2.1 ξ.2.2.2.2.2.1,.slice none 0 0,.string eB] 55 (0,0))]::ξ.2.2.2.2.2.2::tg::[(b1,.cells zN.toArray 55 (0,0))]::H))) (Φ:=(fun ξ:Nat × XS × List XA × Nat × Option Addr × Nat × Grp=>(ξ.1≤(E8 ((A7 q).2.1.length+1) [] (A7 q).2).1.length)∧(elM sp q=N3 ((E8 ((A7 q).2.1.length+1) [] (A7 q).2).1.drop ξ.1) ξ.2.2.1 (elS sp q).1 ξ.2.1)∧(Go.Sw.Own 75 3 (.slice ξ.2.2.2.2.1 ξ.2.2.2.1 ξ.2.2.2.2.2.1) ξ.2.2.2.2.2.2 ξ.2.2.2.1 (xaV ξ.2.2.1))∧(ξ.2.2.2.1=ξ.2.2.1.length)∧(ξ.2.2.2.1≤ξ.1)∧(ξ.2.1.1.length≤1000000))) (μ:=(fun ξ:Nat × XS × List XA × Nat × Option Addr × Nat × Grp=>(E8 ((A7 q).2.1.length+1) [] (A7 q).2).1.length - ξ.1)) (s0:=(0,(elV sp q).2,[],0,none,0,[])) [0,1,2,6,7,8,9,11,12,50,51,52] kr kr ⟨(Nat.zero_le _),rfl,Go.Sw.Own.nil,rfl,(Nat.le_refl _),(by have h9:=elT_le q; rw [elV_le]; omega)⟩ ?_)))
      rintro ⟨k,q2,out,no,oa,oc,og⟩ ⟨hkl,hT,hO,hno,hnk,hl2⟩
      dsimp only at hkl hT hO hno hnk hl2
      refine A1 (G_p [0] [0,1,2,6,7,8,9,11,12,50,51,52,53] (k:=A0 (A1 (B0 (b:=decide (((k:Nat):Int)<(((E8 ((A7 q).2.1.length+1) [] (A7 q).2).1.length:Nat):Int))) kr (fun hc5=>?_) (fun hc5=>?_)))))
      ·
        have hk:k<(E8 ((A7 q).2.1.length+1) [] (A7 q).2).1.length:=by have:=hc5; simp only [decide_eq_true_eq] at this; omega
        refine A9 (A0 (A1 (B2 (A1 (A3 (E6 (a:=ta) (S:=(inG tg)) (cs:=(atV (E8 ((A7 q).2.1.length+1) [] (A7 q).2).1)) ((E8 ((A7 q).2.1.length+1) [] (A7 q).2).1.length) ((k:Nat):Int) 4 (H7 hTA) (by exact ⟨by omega,by omega,by intro h; have:=congrArg List.length h; rw [atV_len] at this; simp only [List.length_nil] at this; omega⟩) ?_))))))
        obtain ⟨x,hx⟩:∃ x,x=(E8 ((A7 q).2.1.length+1) [] (A7 q).2).1[k]'hk:=⟨_,rfl⟩
        refine G9 (ch:=[]) (a:=ta) (q:=k * 4) (S:=(inG tg)) (cs:=(atV (E8 ((A7 q).2.1.length+1) [] (A7 q).2).1)) (l:=[.string (bk x.q.pre),.string (bk x.q.name),.string (bk x.value),.bool x.q.has]) (hrd:=H7 hTA) (hS:=D9 5 rfl) (hl:=List.cons_ne_nil _ _) (hv:=(fun _=>(elt4 (by rw [hx]; exact atV_at hk)))) (k:=J5 (.agg #[.string eB,.string eB,.string eB,.bool false]) (fun b6=>E4 0 0 (.agg #[.string (bk x.q.pre),.string (bk x.q.name),.string (bk x.value),.bool x.q.has]) rfl (A8 [] [0,1,2,6,7,8,9,11,12,14,50,51,52] (k:=A0 (A1 (A1 (A3 (A4 (j:=1) [0] (k:=?_)))))))))
        refine C4 0 3 rfl rfl (A4 (j:=4) [0,0] (k:=C2 (ch:=[(58,true)]) (b:=b6) (off:=0) (v:=.string (bk x.q.pre)) (hA:=At.grp 0 0 rfl rfl) (k:=A4 (j:=9) [0,6,0,0] (k:=C2 (ch:=[(63,false)]) (b:=b6) (off:=3) (v:=.bool x.q.has) (hA:=At.grp 0 0 rfl rfl) (k:=A4 (j:=13) [0,0,0] (k:=C2 (ch:=[(67,true),(63,false)]) (b:=b6) (off:=1) (v:=.string (bk x.q.name)) (hA:=At.grp 0 0 rfl rfl) (k:=A8 [0,6,5] [0,1,2,6,7,8,9,11,12,14,50,51,52,72] (k:=A0 ?_))))))))
        refine B0 (b:=(x.q.has&&((bk x.q.pre).toList==(mB #[120,109,108,110,115]).toList))||((!x.q.has)&&((bk x.q.name).toList==(mB #[120,109,108,110,115]).toList))) kr (fun hc7=>?_) (fun hc7=>?_)
        ·
          have hd:(P7 x).isSome=true:=decl_is.2 (by have h:=hc7; simp only [Bool.or_eq_true,Bool.and_eq_true,Bool.not_eq_true'] at h; exact h.imp (fun h=>⟨h.1,(eqB _ _).1 h.2⟩) (fun h=>⟨h.1,(eqB _ _).1 h.2⟩))
          refine E3 (A6 (B5 (A0 (A3 (A4 (j:=1) [0] (k:=D0 98 (((k:Nat):Int)+1) (by omega) (by omega) kr (A8 [0] [0,1,2,6,7,8,9,11,12,50,51,52] (k:=E9 1 [1,1,1,1,1,1,1] ?_))))))))
          refine D2 (s':=((k+1),q2,out,no,oa,oc,og)) [0,1,2,6,7,8,9,11,12,50,51,52] kr kr ⟨(by dsimp only; omega),(by dsimp only; rw [hT,M1 hk,← hx,marks_skip hd]),hO,hno,(by dsimp only; omega),hl2⟩ (by dsimp only; omega)
        ·
          have hd:(P7 x).isSome=false:=by
            rw [← Bool.not_eq_true,decl_is]
            have h2:=hc7
            rintro (h | h)
            · rw [h.1,show ((bk x.q.pre).toList==(mB #[120,109,108,110,115]).toList)=true from (eqB _ _).2 h.2] at h2; exact Bool.noConfusion h2
            · rw [h.1,show ((bk x.q.name).toList==(mB #[120,109,108,110,115]).toList)=true from (eqB _ _).2 h.2] at h2; simp at h2
          refine A9 (A0 (A1 (A3 (A4 (j:=1) [0] (k:=C4 0 1 rfl rfl (A4 (j:=3) [0] (k:=C4 0 2 rfl rfl (A4 (j:=5) [0] (k:=?_)))))))))
          refine J5 (.agg #[.string eB,.string eB,.string eB]) (fun b9=>E4 0 0 (.agg #[.string eB,.string (bk x.q.name),.string (bk x.value)]) rfl (A8 [] [0,1,2,6,7,8,9,11,12,14,15,50,51,52] (k:=A0 (A1 (A1 (A3 (A4 (j:=1) [0] (k:=C4 1 3 rfl rfl ?_))))))))
          refine A8 [] [0,1,2,6,7,8,9,11,12,14,15,50,51,52,79] (k:=A0 (S0 (T:=Unit) (fun _:Unit=>[⟨0,[],pt r⟩,⟨1,[],.int .i64 d⟩,⟨2,[],.map (some mo)⟩,⟨6,[],pt b1⟩,⟨7,[],.string (bk (A7 q).1.pre)⟩,⟨8,[],.string (bk (A7 q).1.name)⟩,⟨9,[],.bool ((A7 q).1.has)⟩,⟨11,[],.bool ((G2 [47,62] ((E8 ((A7 q).2.1.length+1) [] (A7 q).2).2)).1)⟩,⟨12,[],pt b4⟩,⟨15,[],pt b9⟩,⟨50,[],.slice ta ((E8 ((A7 q).2.1.length+1) [] (A7 q).2).1.length) tc⟩,⟨51,[],.int .i64 (((E8 ((A7 q).2.1.length+1) [] (A7 q).2).1.length:Nat):Int)⟩,⟨52,[],.int .i64 ((k:Nat):Int)⟩]) (fun _:Unit=>([(b9,.cells #[.string (bk (mkX (elS sp q).1 x q2).1),.string (bk x.q.name),.string (bk x.value)] 75 (0,0))]::[(b6,.cells #[.string (bk x.q.pre),.string (bk x.q.name),.string (bk x.value),.bool x.q.has] 137 (0,0))]::[(r,.cells #[.string (bk ((mkX (elS sp q).1 x q2).2).1),.int .i64 (((mkX (elS sp q).1 x q2).2).2)] 97 (0,0))]::[(mo,.map (F2 Mo) co)]::[(ms,.map (F2 M) mc)]::[(b4,.cells #[.string (bk (elV sp q).1),.string (bk (A7 q).1.name),.slice oa no oc,.slice none 0 0,.string eB] 55 (0,0))]::og::tg::[(b1,.cells zN.toArray 55 (0,0))]::H)) (fun _:Unit=>True) ?_ ?_))
          ·
            refine B0 (b:=x.q.has) kr (fun hc10=>?_) (fun hc10=>?_)
            ·
              have hhas:x.q.has=true:=hc10
              refine A3 (A4 (j:=2) [0,0] (k:=C4 1 0 rfl rfl (A4 (j:=4) [0] (k:=O0 0 [2,2] (E0 Tryz.func106 (xspace_ r q2 x.q.pre true mo co Mo (elS sp q).1 hMo _ _) ?_)))))
              rintro _ _ ⟨rfl,rfl⟩
              refine A4 (j:=6) [0] (k:=E4 2 0 (.string (bk (J9 x.q.pre true (elS sp q).1 q2).1)) rfl (B4 (E':=[⟨0,[],pt r⟩,⟨1,[],.int .i64 d⟩,⟨2,[],.map (some mo)⟩,⟨6,[],pt b1⟩,⟨7,[],.string (bk (A7 q).1.pre)⟩,⟨8,[],.string (bk (A7 q).1.name)⟩,⟨9,[],.bool ((A7 q).1.has)⟩,⟨11,[],.bool ((G2 [47,62] ((E8 ((A7 q).2.1.length+1) [] (A7 q).2).2)).1)⟩,⟨12,[],pt b4⟩,⟨15,[],pt b9⟩,⟨50,[],.slice ta ((E8 ((A7 q).2.1.length+1) [] (A7 q).2).1.length) tc⟩,⟨51,[],.int .i64 (((E8 ((A7 q).2.1.length+1) [] (A7 q).2).1.length:Nat):Int)⟩,⟨52,[],.int .i64 ((k:Nat):Int)⟩]) [] [0,1,2,6,7,8,9,11,12,15,50,51,52] (k:=N_pkT 0 [2,2,0,0,0,0,0,0,0] ([(b9,.cells #[.string (bk (J9 x.q.pre true (elS sp q).1 q2).1),.string (bk x.q.name),.string (bk x.value)] 75 (0,0))]::[(b6,.cells #[.string (bk x.q.pre),.string (bk x.q.name),.string (bk x.value),.bool x.q.has] 137 (0,0))]::[(r,.cells #[.string (bk ((J9 x.q.pre true (elS sp q).1 q2).2).1),.int .i64 (((J9 x.q.pre true (elS sp q).1 q2).2).2)] 97 (0,0))]::[(mo,.map (F2 Mo) co)]::[(ms,.map (F2 M) mc)]::[(b4,.cells #[.string (bk (elV sp q).1),.string (bk (A7 q).1.name),.slice oa no oc,.slice none 0 0,.string eB] 55 (0,0))]::og::tg::[(b1,.cells zN.toArray 55 (0,0))]::H) ?_)))
              have hq9:(mkX (elS sp q).1 x q2)=J9 x.q.pre true (elS sp q).1 q2:=mkX_yes hhas
              refine Y0 (H':=([(b9,.cells #[.string (bk (mkX (elS sp q).1 x q2).1),.string (bk x.q.name),.string (bk x.value)] 75 (0,0))]::[(b6,.cells #[.string (bk x.q.pre),.string (bk x.q.name),.string (bk x.value),.bool x.q.has] 137 (0,0))]::[(r,.cells #[.string (bk ((mkX (elS sp q).1 x q2).2).1),.int .i64 (((mkX (elS sp q).1 x q2).2).2)] 97 (0,0))]::[(mo,.map (F2 Mo) co)]::[(ms,.map (F2 M) mc)]::[(b4,.cells #[.string (bk (elV sp q).1),.string (bk (A7 q).1.name),.slice oa no oc,.slice none 0 0,.string eB] 55 (0,0))]::og::tg::[(b1,.cells zN.toArray 55 (0,0))]::H)) (by rw [hq9]; try rfl) (G8 (()) [0,1,2,6,7,8,9,11,12,15,50,51,52] kr (fun w h=>h.pkT 0 []) trivial)
            ·
              have hhas:x.q.has=false:=hc10
              refine A9 (Q1 (E':=[⟨0,[],pt r⟩,⟨1,[],.int .i64 d⟩,⟨2,[],.map (some mo)⟩,⟨6,[],pt b1⟩,⟨7,[],.string (bk (A7 q).1.pre)⟩,⟨8,[],.string (bk (A7 q).1.name)⟩,⟨9,[],.bool ((A7 q).1.has)⟩,⟨11,[],.bool ((G2 [47,62] ((E8 ((A7 q).2.1.length+1) [] (A7 q).2).2)).1)⟩,⟨12,[],pt b4⟩,⟨14,[],pt b6⟩,⟨15,[],pt b9⟩,⟨50,[],.slice ta ((E8 ((A7 q).2.1.length+1) [] (A7 q).2).1.length) tc⟩,⟨51,[],.int .i64 (((E8 ((A7 q).2.1.length+1) [] (A7 q).2).1.length:Nat):Int)⟩,⟨52,[],.int .i64 ((k:Nat):Int)⟩,⟨79,[],.bool x.q.has⟩]) kr ?_)
              have hq9:(mkX (elS sp q).1 x q2)=([],q2):=mkX_no hhas
              refine Y0 (H':=([(b9,.cells #[.string eB,.string (bk x.q.name),.string (bk x.value)] 75 (0,0))]::[(b6,.cells #[.string (bk x.q.pre),.string (bk x.q.name),.string (bk x.value),.bool x.q.has] 137 (0,0))]::[(r,.cells #[.string (bk q2.1),.int .i64 q2.2] 97 (0,0))]::[(mo,.map (F2 Mo) co)]::[(ms,.map (F2 M) mc)]::[(b4,.cells #[.string (bk (elV sp q).1),.string (bk (A7 q).1.name),.slice oa no oc,.slice none 0 0,.string eB] 55 (0,0))]::og::tg::[(b1,.cells zN.toArray 55 (0,0))]::H)) kr (Y0 (H':=([(b9,.cells #[.string (bk (mkX (elS sp q).1 x q2).1),.string (bk x.q.name),.string (bk x.value)] 75 (0,0))]::[(b6,.cells #[.string (bk x.q.pre),.string (bk x.q.name),.string (bk x.value),.bool x.q.has] 137 (0,0))]::[(r,.cells #[.string (bk ((mkX (elS sp q).1 x q2).2).1),.int .i64 (((mkX (elS sp q).1 x q2).2).2)] 97 (0,0))]::[(mo,.map (F2 Mo) co)]::[(ms,.map (F2 M) mc)]::[(b4,.cells #[.string (bk (elV sp q).1),.string (bk (A7 q).1.name),.slice oa no oc,.slice none 0 0,.string eB] 55 (0,0))]::og::tg::[(b1,.cells zN.toArray 55 (0,0))]::H)) (by rw [hq9]; try rfl) (G8 (()) [0,1,2,6,7,8,9,11,12,15,50,51,52] kr (fun w h=>h.pkT 0 []) trivial))
          ·
            rintro _ _
            refine A0 (A1 (A1 (A3 (A4 (j:=1) [0] (k:=C4 5 2 rfl rfl (A4 (j:=3) [0] (k:=E0 Tryz.func107 (xhasN_ out no hno oa oc (inG og) (H7 hO) (by omega) (XA.mk (mkX (elS sp q).1 x q2).1 x.q.name x.value) b9 _ _ (D9 5 rfl)) ?_)))))))
            rintro _ _ ⟨rfl,rfl⟩
            refine A8 [] [0,1,2,6,7,8,9,11,12,15,50,51,52,89] (k:=A0 (B0 (b:=(out.any (sameA (XA.mk (mkX (elS sp q).1 x q2).1 x.q.name x.value)))) kr (fun hc11=>?_) (fun hc11=>?_)))
            ·
              have hany:(out.any fun y=>y.space==(mkX (elS sp q).1 x q2).1&&y.name==x.q.name)=true:=hc11
              refine A3 (A4 (j:=1) [0] (k:=O0 0 [2] (E0 Tryz.func64 (M7 r ((mkX (elS sp q).1 x q2).2) 70 _ _) ?_)))
              rintro _ _ rfl
              refine A8 [] [0,1,2,6,7,8,9,11,12,15,50,51,52] (k:=A0 (A3 (A4 (j:=1) [0] (k:=C4 5 2 rfl rfl (I7 1 0 3 rfl (L0 75 1 [.string (bk (mkX (elS sp q).1 x q2).1),.string (bk x.q.name),.string (bk x.value)] (fun b12=>O4 (inf:=Tryz.t75) 1 0 7 rfl rfl hO (by omega) (by show (no+1) * 48≤140737488355328; omega) (fun v13 g14 hO15=>?_))))))))
              obtain ⟨a16,cap17,rfl,hcap18,hrd19⟩:=hO15.shape
              refine A4 (j:=6) [0] (k:=E4 6 2 (.slice a16 (no+1) cap17) rfl (A8 [] [0,1,2,6,7,8,9,11,12,50,51,52] (k:=B6 (A0 (A3 (A4 (j:=1) [0] (k:=D0 98 (((k:Nat):Int)+1) (by omega) (by omega) kr (A8 [0] [0,1,2,6,7,8,9,11,12,50,51,52] (k:=?_)))))))))
              refine E9 3 [1,3,3,3,3,3,3] (D2 (s':=((k+1),(F0 70 ((mkX (elS sp q).1 x q2).2)),(out++[(XA.mk (mkX (elS sp q).1 x q2).1 x.q.name x.value)]),(no+1),a16,cap17,g14)) [0,1,2,6,7,8,9,11,12,50,51,52] kr kr ⟨(by dsimp only; omega),(by dsimp only; rw [hT,M1 hk,← hx,marks_yes hd hany]),(by dsimp only; rw [xaV_app]; exact hO15),(by dsimp only; rw [List.length_append,hno]; rfl),(by dsimp only; omega),(by dsimp only; first | (rw [mkX_le]; exact hl2) | (rw [W5,mkX_le]; exact hl2))⟩ (by dsimp only; omega))
            ·
              have hany:(out.any fun y=>y.space==(mkX (elS sp q).1 x q2).1&&y.name==x.q.name)=false:=hc11
              refine A9 (A0 (A3 (A4 (j:=1) [0] (k:=C4 5 2 rfl rfl (I7 0 0 3 rfl (L0 75 1 [.string (bk (mkX (elS sp q).1 x q2).1),.string (bk x.q.name),.string (bk x.value)] (fun b21=>O4 (inf:=Tryz.t75) 1 0 7 rfl rfl hO (by omega) (by show (no+1) * 48≤140737488355328; omega) (fun v22 g23 hO24=>?_))))))))
              obtain ⟨a25,cap26,rfl,hcap27,hrd28⟩:=hO24.shape
              refine A4 (j:=6) [0] (k:=E4 6 2 (.slice a25 (no+1) cap26) rfl (A8 [] [0,1,2,6,7,8,9,11,12,50,51,52] (k:=B6 (A0 (A3 (A4 (j:=1) [0] (k:=D0 98 (((k:Nat):Int)+1) (by omega) (by omega) kr (A8 [0] [0,1,2,6,7,8,9,11,12,50,51,52] (k:=?_)))))))))
              refine N_pkT 3 [3,3,3,3,3,3,3] ([(r,.cells #[.string (bk ((mkX (elS sp q).1 x q2).2).1),.int .i64 (((mkX (elS sp q).1 x q2).2).2)] 97 (0,0))]::[(mo,.map (F2 Mo) co)]::[(ms,.map (F2 M) mc)]::[(b4,.cells #[.string (bk (elV sp q).1),.string (bk (A7 q).1.name),.slice a25 (no+1) cap26,.slice none 0 0,.string eB] 55 (0,0))]::g23::tg::[(b1,.cells zN.toArray 55 (0,0))]::H) (D2 (s':=((k+1),(mkX (elS sp q).1 x q2).2,(out++[(XA.mk (mkX (elS sp q).1 x q2).1 x.q.name x.value)]),(no+1),a25,cap26,g23)) [0,1,2,6,7,8,9,11,12,50,51,52] kr kr ⟨(by dsimp only; omega),(by dsimp only; rw [hT,M1 hk,← hx,marks_no hd hany]),(by dsimp only; rw [xaV_app]; exact hO24),(by dsimp only; rw [List.length_append,hno]; rfl),(by dsimp only; omega),(by dsimp only; first | (rw [mkX_le]; exact hl2) | (rw [W5,mkX_le]; exact hl2))⟩ (by dsimp only; omega))
      ·
        have hk:(E8 ((A7 q).2.1.length+1) [] (A7 q).2).1.length≤k:=by have:=hc5; simp only [decide_eq_false_iff_not] at this; omega
        have hm:elM sp q=(out,q2):=by rw [hT,List.drop_eq_nil_of_le hk]; rfl
        refine E3 (A6 (A6 (B5 (A0 (A1 (A1 (G_p [0,0] [0,1,2,6,7,8,9,11,12,100] (k:=A0 ?_))))))))
        refine B0 (b:=decide (d ≥ 24)) kr (fun hc30=>?_) (fun hc30=>?_)
        ·
          have hlv0:lv=0:=by have:=hc30; simp only [ge_iff_le,decide_eq_true_eq] at this; omega
          refine A3 (A4 (j:=1) [0] (k:=E0 Tryz.func64 (M7 r q2 71 _ _) ?_))
          rintro _ _ rfl
          refine A8 [] [0,1,2,6,7,8,9,11,12] (k:=A0 (A1 (A1 (A3 (A4 (j:=5) [0,0,0,0,0] (k:=C2 (ch:=[(104,false)]) (b:=r) (off:=1) (v:=.int .i64 ((F0 71 q2).2)) (hA:=At.grp 0 0 rfl rfl) (k:=A8 [0,5] [0,1,2,6,7,8,9,12,110] (k:=A0 ?_))))))))
          refine B0 (b:=((G2 [47,62] ((E8 ((A7 q).2.1.length+1) [] (A7 q).2).2)).1)||(((F0 71 q2).2) != 0)) kr (fun hc31=>?_) (fun hc31=>?_)
          ·
            have hE:elX lv sp q=_:=(congrArg (fun n=>elX n sp q) hlv0).trans (el_2 hf hm)
            refine A1 (A3 (I7 3 0 5 rfl (E4 6 0 (.agg #[.string (bk (elV sp q).1),.string (bk (A7 q).1.name),.slice oa no oc,.slice none 0 0,.string eB]) rfl (B4 (E':=[⟨6,[],pt b1⟩]) [] [6] (k:=A0 (B8 (A5 (N_pkT 3 [0,1,4,2] ([(r,.cells #[.string (bk (F0 71 q2).1),.int .i64 ((F0 71 q2).2)] 97 (0,0))]::[(ms,.map (F2 M) mc)]::[(b1,.cells #[.string (bk (elV sp q).1),.string (bk (A7 q).1.name),.slice oa no oc,.slice none 0 0,.string eB] 55 (0,0))]::og::H) ?_))))))))
            refine I1 (H':=([(r,.cells #[.string (bk (F0 71 q2).1),.int .i64 ((F0 71 q2).2)] 97 (0,0))]::[(ms,.map (F2 M) mc)]::[(b1,.cells #[.string (bk (elV sp q).1),.string (bk (A7 q).1.name),.slice oa no oc,.slice none 0 0,.string eB] 55 (0,0))]::(og++([]++[]))::H)) (fun w h=>Sat.flat h (List.Perm.of_eq (by simp []))) (R9 [.cell 6 55] [.agg #[.string (bk (elV sp q).1),.string (bk (A7 q).1.name),.slice oa no oc,.slice none 0 0,.string eB]] rfl (.cons (.aq 2 0 rfl) (.nil)) rfl ⟨_,?_,fun w h=>(h.pk 1 [0,0,1])⟩)
            subst hno; rw [hE]; exact ⟨_,_,.mk (l:=[]) hO Go.Sw.Own.nil .nil,rfl,rfl⟩
          ·
            have h9:=hc31
            simp only [Bool.or_eq_false_iff,bne_eq_false_iff_eq] at h9
            exact absurd h9.2 (flt71 q2)
        ·
          have hlv0:lv≠0:=by have:=hc30; simp only [ge_iff_le,decide_eq_false_iff_not] at this; omega
          obtain ⟨n,hln⟩:∃ n,lv=n+1:=⟨lv - 1,by omega⟩
          refine A9 (A0 (A1 (A1 (A3 (A4 (j:=5) [0,0,0,0,0] (k:=C2 (ch:=[(104,false)]) (b:=r) (off:=1) (v:=.int .i64 q2.2) (hA:=At.grp 0 0 rfl rfl) (k:=A8 [0,5] [0,1,2,6,7,8,9,12,110] (k:=A0 ?_))))))))
          refine B0 (b:=((G2 [47,62] ((E8 ((A7 q).2.1.length+1) [] (A7 q).2).2)).1)||(q2.2 != 0)) kr (fun hc32=>?_) (fun hc32=>?_)
          ·
            have hE:elX lv sp q=_:=(congrArg (fun n=>elX n sp q) hln).trans (el_3 hf hm (by have h9:=hc32; simp only [Bool.or_eq_true,bne_iff_ne,ne_eq] at h9; exact h9))
            refine A1 (A3 (I7 3 0 5 rfl (E4 6 0 (.agg #[.string (bk (elV sp q).1),.string (bk (A7 q).1.name),.slice oa no oc,.slice none 0 0,.string eB]) rfl (B4 (E':=[⟨6,[],pt b1⟩]) [] [6] (k:=A0 (B8 (A5 (N_pkT 3 [0,1,4,2] ([(r,.cells #[.string (bk q2.1),.int .i64 q2.2] 97 (0,0))]::[(ms,.map (F2 M) mc)]::[(b1,.cells #[.string (bk (elV sp q).1),.string (bk (A7 q).1.name),.slice oa no oc,.slice none 0 0,.string eB] 55 (0,0))]::og::H) ?_))))))))
            refine I1 (H':=([(r,.cells #[.string (bk q2.1),.int .i64 q2.2] 97 (0,0))]::[(ms,.map (F2 M) mc)]::[(b1,.cells #[.string (bk (elV sp q).1),.string (bk (A7 q).1.name),.slice oa no oc,.slice none 0 0,.string eB] 55 (0,0))]::(og++([]++[]))::H)) (fun w h=>Sat.flat h (List.Perm.of_eq (by simp []))) (R9 [.cell 6 55] [.agg #[.string (bk (elV sp q).1),.string (bk (A7 q).1.name),.slice oa no oc,.slice none 0 0,.string eB]] rfl (.cons (.aq 2 0 rfl) (.nil)) rfl ⟨_,?_,fun w h=>(h.pk 1 [0,0,1])⟩)
            subst hno; rw [hE]; exact ⟨_,_,.mk (l:=[]) hO Go.Sw.Own.nil .nil,rfl,rfl⟩
          ·
            have hE0:elX lv sp q=_:=(congrArg (fun n=>elX n sp q) hln).trans (el_4 hf hm (by have h9:=hc32; simp only [Bool.or_eq_false_iff,bne_eq_false_iff_eq] at h9; rintro (h | h); rw [show (G2 [47,62] (E8 ((A7 q).2.1.length+1) [] (A7 q).2).2).1=(elT q).2.1 from rfl,h] at h9; exact Bool.noConfusion h9.1; exact h h9.2))
            refine A9 (A0 (A1 (A3 (A4 (j:=3) [0,0,0] (k:=O0 0 [0,0,1] (E0 Tryz.func109 (hcont n hln q2 (by omega) b4 (.string (bk (elV sp q).1)) (.string (bk (A7 q).1.name)) (.slice oa no oc) (.string eB) mo co Mo (elS sp q).1 hMo _ _ hX) ?_))))))
            rintro _ _ ⟨kn,ka,kc,kg,kcs,gs,hkn,hKO,hKP,rfl⟩
            have hcl:=cont_le (el_le n (elS sp q).1) (q2.1.length+1) [] q2
            refine A8 [] [0,6,7,8,9,12] (k:=A0 (A1 (A3 (A4 (j:=1) [0] (k:=E0 Tryz.func103 (xqual_ r ((F7 (elX n (elS sp q).1) (q2.1.length+1) [] q2).2) (by first | omega | (have h9:=cont_le (el_le n (elS sp q).1) (q2.1.length+1) [] q2; omega)) _ _) ?_)))))
            rintro _ _ ⟨rfl,rfl⟩
            refine A8 [0,0,0,0,0,0,0] [0,6,7,8,9,12,16,17,18] (k:=A0 (A1 (A3 (A4 (j:=1) [0] (k:=E0 Tryz.func100 (xskip_ r ((A7 ((F7 (elX n (elS sp q).1) (q2.1.length+1) [] q2).2)).2) _ _) ?_)))))
            rintro _ _ ⟨rfl,rfl⟩
            refine B4 (E':=[⟨0,[],pt r⟩,⟨6,[],pt b1⟩,⟨7,[],.string (bk (A7 q).1.pre)⟩,⟨8,[],.string (bk (A7 q).1.name)⟩,⟨9,[],.bool ((A7 q).1.has)⟩,⟨12,[],pt b4⟩,⟨16,[],.string (bk (A7 ((F7 (elX n (elS sp q).1) (q2.1.length+1) [] q2).2)).1.pre)⟩,⟨17,[],.string (bk (A7 ((F7 (elX n (elS sp q).1) (q2.1.length+1) [] q2).2)).1.name)⟩,⟨18,[],.bool ((A7 ((F7 (elX n (elS sp q).1) (q2.1.length+1) [] q2).2)).1.has)⟩]) [] [0,6,7,8,9,12,16,17,18] (k:=A0 (A1 (A3 (A4 (j:=1) [0] (k:=E0 Tryz.func62 (xmust_ r (blk ((A7 ((F7 (elX n (elS sp q).1) (q2.1.length+1) [] q2).2)).2).1,((A7 ((F7 (elX n (elS sp q).1) (q2.1.length+1) [] q2).2)).2).2) [62] _ _) ?_)))))
            rintro _ _ rfl
            refine A8 [] [0,6,7,8,9,12,16,17,18] (k:=A0 (A1 (A1 (G_p [0,0,0,0,0,0,0,5,0,0,0,0,5] [0,6,12,138] (k:=A0 (B0 (b:=((!((bk (A7 ((F7 (elX n (elS sp q).1) (q2.1.length+1) [] q2).2)).1.pre).toList==(bk (A7 q).1.pre).toList))||(!((bk (A7 ((F7 (elX n (elS sp q).1) (q2.1.length+1) [] q2).2)).1.name).toList==(bk (A7 q).1.name).toList)))||(!(((A7 ((F7 (elX n (elS sp q).1) (q2.1.length+1) [] q2).2)).1.has)==((A7 q).1.has)))) kr (fun hc34=>?_) (fun hc34=>?_)))))))
            ·
              have hne:(A7 (F7 (elX n (elS sp q).1) (q2.1.length+1) [] q2).2).1≠(A7 q).1:=fun h=>by have h9:=hc34; rw [h] at h9; simp at h9
              have hE:elX lv sp q=_:=hE0.trans (close_yes hne)
              refine A3 (A4 (j:=1) [0] (k:=E0 Tryz.func64 (M7 r (D3 [62] (blk ((A7 ((F7 (elX n (elS sp q).1) (q2.1.length+1) [] q2).2)).2).1,((A7 ((F7 (elX n (elS sp q).1) (q2.1.length+1) [] q2).2)).2).2)) 70 _ _) ?_))
              rintro _ _ rfl
              refine B4 (E':=[⟨6,[],pt b1⟩,⟨12,[],pt b4⟩]) [] [6,12] (k:=A0 (A1 (A3 (I7 2 0 5 rfl (E4 8 0 (.agg #[.string (bk (elV sp q).1),.string (bk (A7 q).1.name),.slice oa no oc,.slice ka kn kc,.string eB]) rfl (B4 (E':=[⟨6,[],pt b1⟩]) [] [6] (k:=A0 (B8 ?_))))))))
              refine N_pkT 3 [0,4,6,4,2,2] ([(r,.cells #[.string (bk (F0 70 (D3 [62] (blk ((A7 ((F7 (elX n (elS sp q).1) (q2.1.length+1) [] q2).2)).2).1,((A7 ((F7 (elX n (elS sp q).1) (q2.1.length+1) [] q2).2)).2).2))).1),.int .i64 ((F0 70 (D3 [62] (blk ((A7 ((F7 (elX n (elS sp q).1) (q2.1.length+1) [] q2).2)).2).1,((A7 ((F7 (elX n (elS sp q).1) (q2.1.length+1) [] q2).2)).2).2))).2)] 97 (0,0))]::[(ms,.map (F2 M) mc)]::[(b1,.cells #[.string (bk (elV sp q).1),.string (bk (A7 q).1.name),.slice oa no oc,.slice ka kn kc,.string eB] 55 (0,0))]::og::kg::gs::H) (I1 (H':=([(r,.cells #[.string (bk (F0 70 (D3 [62] (blk ((A7 ((F7 (elX n (elS sp q).1) (q2.1.length+1) [] q2).2)).2).1,((A7 ((F7 (elX n (elS sp q).1) (q2.1.length+1) [] q2).2)).2).2))).1),.int .i64 ((F0 70 (D3 [62] (blk ((A7 ((F7 (elX n (elS sp q).1) (q2.1.length+1) [] q2).2)).2).1,((A7 ((F7 (elX n (elS sp q).1) (q2.1.length+1) [] q2).2)).2).2))).2)] 97 (0,0))]::[(ms,.map (F2 M) mc)]::[(b1,.cells #[.string (bk (elV sp q).1),.string (bk (A7 q).1.name),.slice oa no oc,.slice ka kn kc,.string eB] 55 (0,0))]::(og++(kg++gs))::H)) (fun w h=>Sat.flat h (List.Perm.of_eq (by simp []))) (R9 [.cell 6 55] [.agg #[.string (bk (elV sp q).1),.string (bk (A7 q).1.name),.slice oa no oc,.slice ka kn kc,.string eB]] rfl (.cons (.aq 2 0 rfl) (.nil)) rfl ⟨_,?_,fun w h=>(h.pk 1 [0,0,1])⟩))
              subst hno; subst hkn; rw [hE]; exact ⟨_,_,.mk hO hKO hKP,rfl,rfl⟩
            ·
              have heq:(A7 (F7 (elX n (elS sp q).1) (q2.1.length+1) [] q2).2).1=(A7 q).1:=by have h9:=hc34; simp only [Bool.or_eq_false_iff,Bool.not_eq_false'] at h9; exact qn_eq.2 ⟨(eqB _ _).1 h9.1.1,(eqB _ _).1 h9.1.2,by simpa using h9.2⟩
              have hE:elX lv sp q=_:=hE0.trans (close_no heq)
              refine A9 (A0 (A1 (A3 (I7 2 0 5 rfl (E4 8 0 (.agg #[.string (bk (elV sp q).1),.string (bk (A7 q).1.name),.slice oa no oc,.slice ka kn kc,.string eB]) rfl (B4 (E':=[⟨6,[],pt b1⟩]) [] [6] (k:=A0 (B8 ?_))))))))
              refine N_pkT 3 [0,4,6,4,2,2] ([(r,.cells #[.string (bk (D3 [62] (blk ((A7 ((F7 (elX n (elS sp q).1) (q2.1.length+1) [] q2).2)).2).1,((A7 ((F7 (elX n (elS sp q).1) (q2.1.length+1) [] q2).2)).2).2)).1),.int .i64 ((D3 [62] (blk ((A7 ((F7 (elX n (elS sp q).1) (q2.1.length+1) [] q2).2)).2).1,((A7 ((F7 (elX n (elS sp q).1) (q2.1.length+1) [] q2).2)).2).2)).2)] 97 (0,0))]::[(ms,.map (F2 M) mc)]::[(b1,.cells #[.string (bk (elV sp q).1),.string (bk (A7 q).1.name),.slice oa no oc,.slice ka kn kc,.string eB] 55 (0,0))]::og::kg::gs::H) (I1 (H':=([(r,.cells #[.string (bk (D3 [62] (blk ((A7 ((F7 (elX n (elS sp q).1) (q2.1.length+1) [] q2).2)).2).1,((A7 ((F7 (elX n (elS sp q).1) (q2.1.length+1) [] q2).2)).2).2)).1),.int .i64 ((D3 [62] (blk ((A7 ((F7 (elX n (elS sp q).1) (q2.1.length+1) [] q2).2)).2).1,((A7 ((F7 (elX n (elS sp q).1) (q2.1.length+1) [] q2).2)).2).2)).2)] 97 (0,0))]::[(ms,.map (F2 M) mc)]::[(b1,.cells #[.string (bk (elV sp q).1),.string (bk (A7 q).1.name),.slice oa no oc,.slice ka kn kc,.string eB] 55 (0,0))]::(og++(kg++gs))::H)) (fun w h=>Sat.flat h (List.Perm.of_eq (by simp []))) (R9 [.cell 6 55] [.agg #[.string (bk (elV sp q).1),.string (bk (A7 q).1.name),.slice oa no oc,.slice ka kn kc,.string eB]] rfl (.cons (.aq 2 0 rfl) (.nil)) rfl ⟨_,?_,fun w h=>(h.pk 1 [0,0,1])⟩))
              subst hno; subst hkn; rw [hE]; exact ⟨_,_,.mk hO hKO hKP,rfl,rfl⟩
theorem xelement_:∀ (lv:Nat),lv≤24→∀ (d:Int),d=24 - ((lv:Nat):Int)→∀ (r:Nat) (q:XS),q.1.length≤1000000→∀ (ms mc:Nat) (M:SM) (sp:SPX),SpR M sp→∀ (W0:World) (H:List Grp),P2 W0→Tri Tryz.prog 63 #[pt r,.int .i64 d,.map (some ms)] W0 (rdX r q::[(ms,.map (F2 M) mc)]::H) (fun v H2=>∃ c g,XRep 75 55 (elX lv sp q).1 c g∧v=.agg c.toArray∧H2=rdX r (elX lv sp q).2::[(ms,.map (F2 M) mc)]::g::H)
  | 0,h,d,hd,r,q,hl,ms,mc,M,sp,hM,W0,H,hX=>xelementW_ 0 d hd h r q hl ms mc M sp hM (fun n hn=>absurd hn (by omega)) W0 H hX
  | m+1,h,d,hd,r,q,hl,ms,mc,M,sp,hM,W0,H,hX=>xelementW_ (m+1) d hd h r q hl ms mc M sp hM
      (fun n hn q hl nb v0 v1 v2 v4 ms mc M sp hM W0 H hX=>by
        obtain rfl:m=n:=by omega
        exact xcontent_ m d (by omega) r q hl nb v0 v1 v2 v4 ms mc M sp (fun q hl W0 H hX=>xelement_ m (by omega) (d+1) (by omega) r q hl ms mc M sp hM W0 H hX) W0 H hX) W0 H hX
end Go.Proofs.YtppgfiklmfoaeaaGreatDoor
namespace Go.Xml
open Go.Esc Go.Json Go.Sw
theorem around_le (n:Nat) (q:XS):(C3 n q).1.length≤q.1.length:=by
  induction n generalizing q with
  | zero=>exact Nat.le_refl _
  | succ n ih =>
    by_cases h0:q.2=0
    · by_cases h:(blk q.1).length<q.1.length
      · rw [around_skip h0 h]; have:=ih (blk q.1,q.2); dsimp only at this; omega
      · have h9:=X7 q.1
        by_cases ha:(H6 (blk q.1,q.2)).1=true
        · rw [around_aside h0 h ha]; have h1:=ih (H6 (blk q.1,q.2)).2; have h2:=Z0 (blk q.1,q.2); dsimp only at h2; omega
        · rw [around_end h0 h ha]; have h2:=Z0 (blk q.1,q.2); dsimp only at h2; omega
    · rw [around_ne h0]; exact Nat.le_refl _
theorem bom_len (l:List UInt8):(F4 l).length≤l.length:=by
  unfold F4; split
  · rw [List.length_drop]; omega
  · exact Nat.le_refl _
def parN (n:XN × XS):XN × Int :=
  let q2:=C3 (n.2.1.length+1) n.2
  let q3:=if q2.1≠[] then F0 70 q2 else q2
  if q3.2≠0 then (V8,q3.2) else (n.1,0)
def G7 (l:List UInt8):XS:=D3 [60] (C3 ((F4 l).length+1) (F4 l,0))
theorem parQ_le (l:List UInt8):(G7 l).1.length≤l.length:=by
  unfold G7
  have h1:=must_le [60] (C3 ((F4 l).length+1) (F4 l,0))
  have h2:=around_le ((F4 l).length+1) (F4 l,0)
  have h3:=bom_len l
  dsimp only at h2; omega
theorem par_1 {l:List UInt8} (h:65536<l.length):parX l=(V8,72):=by unfold parX; rw [if_pos h]
theorem par_2 {l:List UInt8} (h:¬ 65536<l.length) (hv:K8 (F4 l)=false∨D6 (F4 l)≠F4 l):parX l=(V8,70):=by unfold parX; rw [if_neg h]; dsimp only; rw [if_pos hv]
theorem par_3 {l:List UInt8} (h:¬ 65536<l.length) (hv:¬ (K8 (F4 l)=false∨D6 (F4 l)≠F4 l)) (h0:(G7 l).2=0):parX l=parN (elX 24 I6 (G7 l)):=by
  unfold parX; rw [if_neg h]; dsimp only; rw [if_neg hv]
  show parN (if (G7 l).2=0 then elX 24 I6 (G7 l) else (V8,G7 l))=_
  rw [if_pos h0]
theorem par_4 {l:List UInt8} (h:¬ 65536<l.length) (hv:¬ (K8 (F4 l)=false∨D6 (F4 l)≠F4 l)) (h0:(G7 l).2≠0):parX l=parN (V8,G7 l):=by
  unfold parX; rw [if_neg h]; dsimp only; rw [if_neg hv]
  show parN (if (G7 l).2=0 then elX 24 I6 (G7 l) else (V8,G7 l))=_
  rw [if_neg h0]
theorem parN_1 {n:XN × XS} (h:(C3 (n.2.1.length+1) n.2).1≠[]) (he:(F0 70 (C3 (n.2.1.length+1) n.2)).2≠0):parN n=(V8,(F0 70 (C3 (n.2.1.length+1) n.2)).2):=by
  unfold parN; dsimp only; rw [if_pos h,if_pos he]
theorem parN_2 {n:XN × XS} (h:(C3 (n.2.1.length+1) n.2).1≠[]) (he:(F0 70 (C3 (n.2.1.length+1) n.2)).2=0):parN n=(n.1,0):=by
  unfold parN; dsimp only; rw [if_pos h,if_neg (fun hn=>hn he)]
theorem parN_3 {n:XN × XS} (h:(C3 (n.2.1.length+1) n.2).1=[]) (he:(C3 (n.2.1.length+1) n.2).2≠0):parN n=(V8,(C3 (n.2.1.length+1) n.2).2):=by
  have e:(if (C3 (n.2.1.length+1) n.2).1≠[] then F0 70 (C3 (n.2.1.length+1) n.2) else C3 (n.2.1.length+1) n.2)=C3 (n.2.1.length+1) n.2:=if_neg (fun hn=>hn h)
  unfold parN; dsimp only; rw [e,if_pos he]
theorem parN_4 {n:XN × XS} (h:(C3 (n.2.1.length+1) n.2).1=[]) (he:(C3 (n.2.1.length+1) n.2).2=0):parN n=(n.1,0):=by
  have e:(if (C3 (n.2.1.length+1) n.2).1≠[] then F0 70 (C3 (n.2.1.length+1) n.2) else C3 (n.2.1.length+1) n.2)=C3 (n.2.1.length+1) n.2:=if_neg (fun hn=>hn h)
  unfold parN; dsimp only; rw [e,if_neg (fun hn=>hn he)]
def ownX:List UInt8:=[104,116,116,112,58,47,47,119,119,119,46,119,51,46,111,114,103,47,88,77,76,47,49,57,57,56,47,110,97,109,101,115,112,97,99,101]
theorem sp0_ok (c:Nat):SpR (J6 [(bk [120,109,108],.string (bk ownX),0)] c (bk []) (.string (bk []))) I6:=by
  intro p
  rw [mgetX_put]
  unfold lookX I6
  by_cases h1:p=[]
  · subst h1; rw [if_pos (bk_inj.2 rfl)]; rfl
  · rw [if_neg (fun hh=>h1 (bk_inj.1 hh))]
    by_cases h2:p=[120,109,108]
    · subst h2; rfl
    · show (if (bk p==bk [120,109,108]) then some (0,Value.string (bk ownX)) else none).map (·.2)=_
      rw [if_neg (fun hh=>h2 (bk_inj.1 hh))]
      rw [List.find?_cons,show (([120,109,108],ownX):List UInt8 × List UInt8).1=[120,109,108] from rfl]
      rw [show (([120,109,108]:List UInt8)==p)=false from beq_eq_false_iff_ne.2 (fun e=>h2 e.symm)]
      dsimp only
      rw [List.find?_cons,show (([]:List UInt8)==p)=false from beq_eq_false_iff_ne.2 (fun e=>h1 e.symm)]
      rfl
end Go.Xml
namespace Go.Proofs.YtppgfiklmfoaeaaGreatDoor
open Go.Sw Go.Sha Go.Esc Go.RowKit
theorem valid_ (s:ByteArray) (hs:s.size≤1000000000000) (W0:World) (H:List Grp) (hW:T0 W0):Tri Tryz.prog 59 #[.string s] W0 H (fun v H'=>v=.bool (K8 s.data.toList)∧H'=H):=by
 refine D4 5 Tryz.func59 ?_
 refine A1 (B9 (E':=[⟨0,[],.string s⟩]) [0] [0] (k:=A0 (A1 (A3 (A4 (j:=1) [0] (k:=E0 Tryz.func97 (validStr s (by omega) _ _ hW) ?_))))))
 rintro _ _ ⟨rfl,rfl⟩
 refine B4 (E':=[⟨2,[],.bool (K8 s.data.toList)⟩]) [0] [2] (k:=A0 (B8 (B7 [.tmp 2] [.bool (K8 s.data.toList)] (k:=?_))))
 exact ⟨rfl,rfl⟩
end Go.Proofs.YtppgfiklmfoaeaaGreatDoor
namespace Go.Proofs.YtppgfiklmfoaeaaGreatDoor
open Go.Sw Go.Sha Go.Esc Go.RowKit Go.Json Go.Xml
theorem xtrimP0_ (l:List UInt8) (W0:World) (H:List Grp):Tri Tryz.prog 96 #[.string (bk l),.string (mB #[239,187,191])] W0 H (fun v H'=>v=.string (bk (F4 l))∧H'=H):=by
 have hbz:=C8 l
 refine D4 13 Tryz.func96 ?_
 refine A1 (G_p [0] [0,1] (k:=A0 (A1 (A1 (A3 (A4 (j:=2) [0,0] (k:=F8 Tryz.func123 (jhas0_ (bk l) (mB #[239,187,191]) _ _) (A8 [] [0,1,7] (k:=?_)))))))))
 refine A0 (B0 (b:=J2 (bk l) (mB #[239,187,191])) kr (fun hc1=>?_) (fun hc1=>?_))
 ·
  have hp:[239,187,191].isPrefixOf l=true:=pre_iff.1 ((O8 (bk l) (mB #[239,187,191])).1 hc1)
  refine A1 (A3 (A4 (j:=3) [0,0,0] (k:=O2 (bk l) 3 ((bk l).size:Int) (by intro _; have h9:=pre_le hp; simp only [List.length_cons,List.length_nil] at h9; exact ⟨by omega,by omega,by omega⟩) (F6 11 (x:=.string ((bk l).extract 3 (bk l).size)) (y:=.string (bk (l.drop 3))) (by rw [ext_bk]) (B4 (E':=[⟨4,[],.string (bk (l.drop 3))⟩]) [0] [4] (k:=A0 (B8 (A5 ?_))))))))
  refine B7 [.tmp 4] [.string (bk (l.drop 3))] (k:=?_)
  exact ⟨by rw [show F4 l=l.drop 3 from if_pos hp]; try rfl,rfl⟩
 ·
  have hp:¬ [239,187,191].isPrefixOf l=true:=fun hn=>(O5 (bk l) (mB #[239,187,191])).1 hc1 (pre_iff.2 hn)
  refine A9 (A0 (A1 (B9 (E':=[⟨4,[],.string (bk l)⟩]) [0,0] [4] (k:=A0 (B8 (B7 [.tmp 4] [.string (bk l)] (k:=?_)))))))
  exact ⟨by rw [show F4 l=l from if_neg hp]; try rfl,rfl⟩
theorem xtrimP_ (l:List UInt8) (W0:World) (H:List Grp):Tri Tryz.prog 58 #[.string (bk l),.string (mB #[239,187,191])] W0 H (fun v H'=>v=.string (bk (F4 l))∧H'=H):=by
 have hbz:=C8 l
 refine D4 8 Tryz.func58 ?_
 refine A1 (G_p [0] [0,1] (k:=A0 (A1 (A3 (A4 (j:=2) [0,0] (k:=F8 Tryz.func96 (xtrimP0_ l _ _) (B4 (E':=[⟨4,[],.string (bk (F4 l))⟩]) [0] [4] (k:=A0 ?_))))))))
 refine B8 (B7 [.tmp 4] [.string (bk (F4 l))] (k:=?_))
 exact ⟨rfl,rfl⟩
theorem xparse_ (a:Option Addr) (c:Nat) (l:List UInt8) (S:Nat→Obj→Prop) (hrd:Rd S a (u8s l)) (W0:World) (H:List Grp) (hS:∀ y o,S y o→At W0 H y o) (hX:P2 W0):Tri Tryz.prog 29 #[.slice a l.length c] W0 H (fun v H2=>∃ c g,XRep 75 55 (parX l).1 c g∧v=.tuple #[.agg c.toArray,.int .i64 (parX l).2]∧H2=g::H):=by
 have hW:T0 W0:=hX.base
 have hbl:=bom_len l
 have hql:=parQ_le l
 refine D4 67 Tryz.func29 ?_
 refine A1 (A3 (J5 (.agg zN.toArray) (fun b1=>A8 [0] [0,2] (k:=A0 (A1 (A1 (G_p [0,0,0] [0,2,8] (k:=A0 ?_))))))))
 refine B0 (b:=decide (((l.length:Nat):Int) > 65536)) kr (fun hc2=>?_) (fun hc2=>?_)
 ·
  simp only [gt_iff_lt,decide_eq_true_eq] at hc2
  have hlen:65536<l.length:=by omega
  have hP:=par_1 hlen
  refine A1 (A3 (A4 (j:=1) [0] (k:=E4 0 0 (.agg zN.toArray) rfl (B4 (E':=[⟨2,[],pt b1⟩,⟨3,[],.int .i64 72⟩]) [0] [2,3] (k:=A0 (B8 (A5 (I1 (H':=([(b1,.cells zN.toArray 55 (0,0))]::[]::H)) (fun w h=>Sat.flat h (List.Perm.refl _)) ?_))))))))
  refine R9 [.cell 2 55,.tmp 3] [.agg zN.toArray,.int .i64 72] rfl (.cons (.aq 0 0 rfl) (.cons .tq (.nil))) rfl ⟨_,?_,fun w h=>(h.pk 1 [1])⟩
  rw [hP]; exact ⟨_,_,XRep.nul,rfl,rfl⟩
 ·
  simp only [gt_iff_lt,decide_eq_false_iff_not] at hc2
  have hlen:¬ 65536<l.length:=by omega
  refine A9 (A0 (A1 (A3 (A4 (j:=1) [0] (k:=GL_bytesB (ch:=[]) (a:=a) (cap:=c) (e:=5) (S:=S) (bk l) (hrd:=hrd) (hS:=(fun y o h=>At.cons (hS y o h))) (k:=F8 Tryz.func58 (xtrimP_ l _ _) (A4 (j:=4) [0] (k:=N4 (.agg #[.string (bk (F4 l)),.int .i64 0]) (fun b3=>?_)))))))))
  refine B4 (E':=[⟨2,[],pt b1⟩,⟨4,[],pt b3⟩]) [0] [2,4] (k:=A0 (A1 (A1 (H0 (k:=A4 (j:=3) [0,0,0] (k:=C4 0 0 rfl rfl (F8 Tryz.func59 (valid_ (bk (F4 l)) (by rw [C8]; omega) _ _ hW) (A4 (j:=10) [0,0,0,0,0] (k:=?_)))))))))
  refine C2 (ch:=[(21,false)]) (b:=b3) (off:=0) (v:=.string (bk (F4 l))) (hA:=At.grp 0 0 rfl rfl) (k:=N1 [(21,false)] Tryz.func60 (fun hc=>plain_ (bk (F4 l)) (by rw [C8]; omega) _ _) (A4 (j:=15) [0,0,0] (k:=C2 (ch:=[(21,false)]) (b:=b3) (off:=0) (v:=.string (bk (F4 l))) (hA:=At.grp 0 0 rfl rfl) (k:=A8 [0,5] [2,4,32] (k:=A0 (B0 (b:=(!(K8 (F4 l)))||(!((bk (D6 (F4 l))).toList==(bk (F4 l)).toList))) kr (fun hc4=>?_) (fun hc4=>?_)))))))
  ·
   have hv:K8 (F4 l)=false∨D6 (F4 l)≠F4 l:=by have h9:=hc4; simp only [Bool.or_eq_true,Bool.not_eq_true'] at h9; exact h9.imp id (fun h=>(eqBf _ _).1 h)
   have hP:=par_2 hlen hv
   refine A1 (A3 (A4 (j:=1) [0] (k:=E4 1 0 (.agg zN.toArray) rfl (B4 (E':=[⟨2,[],pt b1⟩,⟨3,[],.int .i64 70⟩]) [0] [2,3] (k:=A0 (B8 (A5 (N_pkT 1 [1] ([(b1,.cells zN.toArray 55 (0,0))]::H) ?_))))))))
   refine I1 (H':=([(b1,.cells zN.toArray 55 (0,0))]::[]::H)) (fun w h=>Sat.flat h (List.Perm.refl _)) (R9 [.cell 2 55,.tmp 3] [.agg zN.toArray,.int .i64 70] rfl (.cons (.aq 0 0 rfl) (.cons .tq (.nil))) rfl ⟨_,?_,fun w h=>(h.pk 1 [1])⟩)
   rw [hP]; exact ⟨_,_,XRep.nul,rfl,rfl⟩
  ·
   have hv:¬ (K8 (F4 l)=false∨D6 (F4 l)≠F4 l):=by have h9:=hc4; simp only [Bool.or_eq_false_iff,Bool.not_eq_false'] at h9; rintro (h | h); rw [h9.1] at h; cases h; exact h ((eqB _ _).1 h9.2)
   refine A9 (A0 (A1 (A3 (A4 (j:=1) [0] (k:=E0 (vs:=[pt b3]) Tryz.func61 (xaround_ b3 ((F4 l),0) (by first | (show (F4 l).length≤_; omega) | (show (G7 l).1.length≤_; omega) | omega | (have h9:=el_le 24 I6 (G7 l); omega)) _ _ hX) ?_)))))
   rintro _ _ rfl
   refine B4 (E':=[⟨2,[],pt b1⟩,⟨4,[],pt b3⟩]) [] [2,4] (k:=A0 (A1 (A3 (A4 (j:=1) [0] (k:=E0 Tryz.func62 (xmust_ b3 (C3 (((F4 l),0).1.length+1) ((F4 l),0)) [60] _ _) ?_)))))
   rintro _ _ rfl
   refine B4 (E':=[⟨2,[],pt b1⟩,⟨4,[],pt b3⟩]) [] [2,4] (k:=A0 (A1 (A3 (J5 (.agg zN.toArray) (fun b5=>A8 [] [2,4,5] (k:=A0 (A1 (A1 ?_))))))))
   refine A3 (A4 (j:=3) [0,0,0] (k:=C4 1 1 rfl rfl (A8 [0] [2,4,5,42] (k:=A0 (B0 (b:=((D3 [60] (C3 (((F4 l),0).1.length+1) ((F4 l),0))).2)==0) kr (fun hc6=>?_) (fun hc6=>?_))))))
   ·
    have hq0:(G7 l).2=0:=by have h9:=hc6; show (D3 [60] (C3 ((F4 l).length+1) (F4 l,0))).2=0; simpa using h9
    refine A3 (A4 (j:=1) [0] (k:=GL_makeMap (i:=1) (ch:=[]) rfl rfl kr kr kr (fun b7=>M2 (ch:=[]) (kt:=9) (et:=9) (r:=b7) (c:=0) (j:=0) (q:=0) (m:=[]) (k:=(mB #[120,109,108])) (v:=.string (mB #[104,116,116,112,58,47,47,119,119,119,46,119,51,46,111,114,103,47,88,77,76,47,49,57,57,56,47,110,97,109,101,115,112,97,99,101])) (H':=([(b7,.map (F2 ([((mB #[120,109,108]),.string (mB #[104,116,116,112,58,47,47,119,119,119,46,119,51,46,111,114,103,47,88,77,76,47,49,57,57,56,47,110,97,109,101,115,112,97,99,101]),0)])) 1)]::[(b5,.cells zN.toArray 55 (0,0))]::[(b3,.cells #[.string (bk (D3 [60] (C3 (((F4 l),0).1.length+1) ((F4 l),0))).1),.int .i64 ((D3 [60] (C3 (((F4 l),0).1.length+1) ((F4 l),0))).2)] 97 (0,0))]::[(b1,.cells zN.toArray 55 (0,0))]::H)) (hop:=.inr rfl) (kk:=M2 (ch:=[]) (kt:=9) (et:=9) (r:=b7) (c:=1) (j:=0) (q:=0) (m:=[((mB #[120,109,108]),.string (mB #[104,116,116,112,58,47,47,119,119,119,46,119,51,46,111,114,103,47,88,77,76,47,49,57,57,56,47,110,97,109,101,115,112,97,99,101]),0)]) (k:=eB) (v:=.string eB) (H':=([(b7,.map (F2 (J6 ([((mB #[120,109,108]),.string (mB #[104,116,116,112,58,47,47,119,119,119,46,119,51,46,111,114,103,47,88,77,76,47,49,57,57,56,47,110,97,109,101,115,112,97,99,101]),0)]) 1 eB (.string eB))) (if T3 ([((mB #[120,109,108]),.string (mB #[104,116,116,112,58,47,47,119,119,119,46,119,51,46,111,114,103,47,88,77,76,47,49,57,57,56,47,110,97,109,101,115,112,97,99,101]),0)]) eB then 1 else 1+1))]::[(b5,.cells zN.toArray 55 (0,0))]::[(b3,.cells #[.string (bk (D3 [60] (C3 (((F4 l),0).1.length+1) ((F4 l),0))).1),.int .i64 ((D3 [60] (C3 (((F4 l),0).1.length+1) ((F4 l),0))).2)] 97 (0,0))]::[(b1,.cells zN.toArray 55 (0,0))]::H)) (hop:=.inr rfl) (kk:=A4 (j:=5) [0] (k:=O0 0 [2] (E0 (vs:=[pt b3,.int .i64 0,.map (some b7)]) Tryz.func63 (xelement_ 24 (Nat.le_refl _) 0 (by decide) b3 (G7 l) (by have:=parQ_le l; omega) b7 (if T3 ([((mB #[120,109,108]),.string (mB #[104,116,116,112,58,47,47,119,119,119,46,119,51,46,111,114,103,47,88,77,76,47,49,57,57,56,47,110,97,109,101,115,112,97,99,101]),0)]) eB then 1 else 1+1) (J6 ([((mB #[120,109,108]),.string (mB #[104,116,116,112,58,47,47,119,119,119,46,119,51,46,111,114,103,47,88,77,76,47,49,57,57,56,47,110,97,109,101,115,112,97,99,101]),0)]) 1 eB (.string eB)) I6 (sp0_ok _) _ _ hX) ?_)))))))
    rintro _ _ ⟨vc8,gv8,hJ8,rfl,rfl⟩
    obtain ⟨e0_8,e1_8,e2_8,e3_8,e4_8,rfl,h18⟩:=hJ8.cells5
    refine GL_st (ch:=[]) (b:=b5) (off:=0) (v:=.agg #[e0_8,e1_8,e2_8,e3_8,e4_8]) (j:=3) ([(b3,.cells #[.string (bk ((elX 24 I6 (G7 l)).2).1),.int .i64 (((elX 24 I6 (G7 l)).2).2)] 97 (0,0))]::[(b7,.map (F2 (J6 ([((mB #[120,109,108]),.string (mB #[104,116,116,112,58,47,47,119,119,119,46,119,51,46,111,114,103,47,88,77,76,47,49,57,57,56,47,110,97,109,101,115,112,97,99,101]),0)]) 1 eB (.string eB))) (if T3 ([((mB #[120,109,108]),.string (mB #[104,116,116,112,58,47,47,119,119,119,46,119,51,46,111,114,103,47,88,77,76,47,49,57,57,56,47,110,97,109,101,115,112,97,99,101]),0)]) eB then 1 else 1+1))]::gv8::[(b5,.cells #[e0_8,e1_8,e2_8,e3_8,e4_8] 55 (0,0))]::[(b1,.cells zN.toArray 55 (0,0))]::H) (h1:=h18) (hoff:=Nat.le_of_ble_eq_true rfl) (hfz:=(fun _ _=>thaw0)) (k:=A8 [] [2,4,5] (k:=A0 (A1 (A3 (A4 (j:=1) [0] (k:=E0 (vs:=[pt b3]) Tryz.func61 (xaround_ b3 ((elX 24 I6 (G7 l)).2) (by first | (show (F4 l).length≤_; omega) | (show (G7 l).1.length≤_; omega) | omega | (have h9:=el_le 24 I6 (G7 l); omega)) _ _ hX) ?_))))))
    rintro _ _ rfl
    refine A8 [] [2,4,5] (k:=A0 (A1 (A1 (A3 (A4 (j:=3) [0,0,0] (k:=C4 0 0 rfl rfl (A8 [0] [2,4,5,53] (k:=A0 ?_))))))))
    refine B0 (b:=!((bk (C3 (((elX 24 I6 (G7 l)).2).1.length+1) ((elX 24 I6 (G7 l)).2)).1).toList==eB.toList)) kr (fun hc9=>?_) (fun hc9=>?_)
    ·
     have hs:(C3 ((elX 24 I6 (G7 l)).2.1.length+1) (elX 24 I6 (G7 l)).2).1≠[]:=by have h9:=hc9; exact (eqBf _ _).1 (by simpa only [Bool.not_eq_true'] using h9)
     refine A3 (A4 (j:=1) [0] (k:=E0 Tryz.func64 (M7 b3 (C3 (((elX 24 I6 (G7 l)).2).1.length+1) ((elX 24 I6 (G7 l)).2)) 70 _ _) ?_))
     rintro _ _ rfl
     refine B4 (E':=[⟨2,[],pt b1⟩,⟨4,[],pt b3⟩,⟨5,[],pt b5⟩]) [] [2,4,5] (k:=A0 (A1 (A1 (A3 (A4 (j:=3) [0,0,0] (k:=C4 0 1 rfl rfl (A8 [0] [2,4,5,60] (k:=A0 ?_))))))))
     refine B0 (b:=((F0 70 (C3 (((elX 24 I6 (G7 l)).2).1.length+1) ((elX 24 I6 (G7 l)).2))).2) != 0) kr (fun hc10=>?_) (fun hc10=>?_)
     ·
      have he:(F0 70 (C3 ((elX 24 I6 (G7 l)).2.1.length+1) (elX 24 I6 (G7 l)).2)).2≠0:=bne_iff_ne.1 hc10
      have hP:=(par_3 hlen hv hq0).trans (parN_1 (n:=(elX 24 I6 (G7 l))) hs he)
      refine A1 (H8 ([(b3,.cells #[.string (bk (F0 70 (C3 (((elX 24 I6 (G7 l)).2).1.length+1) ((elX 24 I6 (G7 l)).2))).1),.int .i64 ((F0 70 (C3 (((elX 24 I6 (G7 l)).2).1.length+1) ((elX 24 I6 (G7 l)).2))).2)] 97 (0,0))]::[(b7,.map (F2 (J6 ([((mB #[120,109,108]),.string (mB #[104,116,116,112,58,47,47,119,119,119,46,119,51,46,111,114,103,47,88,77,76,47,49,57,57,56,47,110,97,109,101,115,112,97,99,101]),0)]) 1 eB (.string eB))) (if T3 ([((mB #[120,109,108]),.string (mB #[104,116,116,112,58,47,47,119,119,119,46,119,51,46,111,114,103,47,88,77,76,47,49,57,57,56,47,110,97,109,101,115,112,97,99,101]),0)]) eB then 1 else 1+1))]::gv8::[(b5,.cells #[e0_8,e1_8,e2_8,e3_8,e4_8] 55 (0,0))]::[(b1,.cells zN.toArray 55 (0,0))]::H) kr (G5 (fuel:=5) [(0,0),(1,0)] (fun w h=>h) (k:=L2 (ad:=⟨b3,0,none⟩) 2 (hL:=(fun w h=>h)) (k:=G5 (fuel:=3) [(3,0)] (fun w h=>h) (k:=F5 4 kr (fun w h=>h) (C4 0 1 rfl rfl (G4 kr rfl)) (D7 5 (k:=E4 4 0 (.agg zN.toArray) rfl (C0 kr (fun w h=>h) ?_))))))))
      refine G5 (fuel:=0) [(6,0)] (fun w h=>h) (k:=G3 (E':=[⟨2,[],pt b1⟩,⟨3,[],.int .i64 ((F0 70 (C3 (((elX 24 I6 (G7 l)).2).1.length+1) ((elX 24 I6 (G7 l)).2))).2)⟩]) [2,3] (k:=A0 (B8 (A5 (N_pkT 4 [4] ([(b1,.cells zN.toArray 55 (0,0))]::H) (I1 (H':=([(b1,.cells zN.toArray 55 (0,0))]::[]::H)) (fun w h=>Sat.flat h (List.Perm.refl _)) (R9 [.cell 2 55,.tmp 3] [.agg zN.toArray,.int .i64 ((F0 70 (C3 (((elX 24 I6 (G7 l)).2).1.length+1) ((elX 24 I6 (G7 l)).2))).2)] rfl (.cons (.aq 0 0 rfl) (.cons .tq (.nil))) rfl ⟨_,?_,fun w h=>(h.pk 1 [1])⟩)))))))
      rw [hP]; exact ⟨_,_,XRep.nul,rfl,rfl⟩
     ·
      have he:(F0 70 (C3 ((elX 24 I6 (G7 l)).2.1.length+1) (elX 24 I6 (G7 l)).2)).2=0:=bne_eq_false_iff_eq.1 hc10
      have hP:=(par_3 hlen hv hq0).trans (parN_2 (n:=(elX 24 I6 (G7 l))) hs he)
      refine A9 (A0 (A1 (A3 (I7 3 0 5 rfl (GL_st (ch:=[]) (b:=b1) (off:=0) (v:=.agg #[e0_8,e1_8,e2_8,e3_8,e4_8]) (j:=4) ([(b3,.cells #[.string (bk (F0 70 (C3 (((elX 24 I6 (G7 l)).2).1.length+1) ((elX 24 I6 (G7 l)).2))).1),.int .i64 ((F0 70 (C3 (((elX 24 I6 (G7 l)).2).1.length+1) ((elX 24 I6 (G7 l)).2))).2)] 97 (0,0))]::[(b7,.map (F2 (J6 ([((mB #[120,109,108]),.string (mB #[104,116,116,112,58,47,47,119,119,119,46,119,51,46,111,114,103,47,88,77,76,47,49,57,57,56,47,110,97,109,101,115,112,97,99,101]),0)]) 1 eB (.string eB))) (if T3 ([((mB #[120,109,108]),.string (mB #[104,116,116,112,58,47,47,119,119,119,46,119,51,46,111,114,103,47,88,77,76,47,49,57,57,56,47,110,97,109,101,115,112,97,99,101]),0)]) eB then 1 else 1+1))]::gv8::[(b5,.cells #[e0_8,e1_8,e2_8,e3_8,e4_8] 55 (0,0))]::[(b1,.cells #[e0_8,e1_8,e2_8,e3_8,e4_8] 55 (0,0))]::H) (h1:=h18) (hoff:=Nat.le_of_ble_eq_true rfl) (hfz:=(fun _ _=>thaw0)) (k:=B4 (E':=[⟨2,[],pt b1⟩,⟨3,[],.int .i64 0⟩]) [0] [2,3] (k:=A0 (B8 ?_))))))))
      refine N_pkT 3 [4,2] ([(b1,.cells #[e0_8,e1_8,e2_8,e3_8,e4_8] 55 (0,0))]::gv8::H) (I1 (H':=([(b1,.cells #[e0_8,e1_8,e2_8,e3_8,e4_8] 55 (0,0))]::gv8::H)) (fun w h=>Sat.flat h (List.Perm.refl _)) (R9 [.cell 2 55,.tmp 3] [.agg #[e0_8,e1_8,e2_8,e3_8,e4_8],.int .i64 0] rfl (.cons (.aq 0 0 rfl) (.cons .tq (.nil))) rfl ⟨_,?_,fun w h=>(h.pk 1 [1])⟩))
      rw [hP]; exact ⟨_,_,hJ8,rfl,rfl⟩
    ·
     have hs:(C3 ((elX 24 I6 (G7 l)).2.1.length+1) (elX 24 I6 (G7 l)).2).1=[]:=by have h9:=hc9; exact (eqB _ _).1 (by simpa only [Bool.not_eq_false'] using h9)
     refine A9 (A0 (A1 (A1 (A3 (A4 (j:=3) [0,0,0] (k:=C4 0 1 rfl rfl (B4 (E':=[⟨2,[],pt b1⟩,⟨4,[],pt b3⟩,⟨5,[],pt b5⟩,⟨60,[],.bool (((C3 (((elX 24 I6 (G7 l)).2).1.length+1) ((elX 24 I6 (G7 l)).2)).2) != 0)⟩]) [0] [2,4,5,60] (k:=A0 ?_))))))))
     refine B0 (b:=((C3 (((elX 24 I6 (G7 l)).2).1.length+1) ((elX 24 I6 (G7 l)).2)).2) != 0) kr (fun hc11=>?_) (fun hc11=>?_)
     ·
      have he:(C3 ((elX 24 I6 (G7 l)).2.1.length+1) (elX 24 I6 (G7 l)).2).2≠0:=bne_iff_ne.1 hc11
      have hP:=(par_3 hlen hv hq0).trans (parN_3 (n:=(elX 24 I6 (G7 l))) hs he)
      refine A1 (H8 ([(b3,.cells #[.string (bk (C3 (((elX 24 I6 (G7 l)).2).1.length+1) ((elX 24 I6 (G7 l)).2)).1),.int .i64 ((C3 (((elX 24 I6 (G7 l)).2).1.length+1) ((elX 24 I6 (G7 l)).2)).2)] 97 (0,0))]::[(b7,.map (F2 (J6 ([((mB #[120,109,108]),.string (mB #[104,116,116,112,58,47,47,119,119,119,46,119,51,46,111,114,103,47,88,77,76,47,49,57,57,56,47,110,97,109,101,115,112,97,99,101]),0)]) 1 eB (.string eB))) (if T3 ([((mB #[120,109,108]),.string (mB #[104,116,116,112,58,47,47,119,119,119,46,119,51,46,111,114,103,47,88,77,76,47,49,57,57,56,47,110,97,109,101,115,112,97,99,101]),0)]) eB then 1 else 1+1))]::gv8::[(b5,.cells #[e0_8,e1_8,e2_8,e3_8,e4_8] 55 (0,0))]::[(b1,.cells zN.toArray 55 (0,0))]::H) kr (G5 (fuel:=5) [(0,0),(1,0)] (fun w h=>h) (k:=L2 (ad:=⟨b3,0,none⟩) 2 (hL:=(fun w h=>h)) (k:=G5 (fuel:=3) [(3,0)] (fun w h=>h) (k:=F5 4 kr (fun w h=>h) (C4 0 1 rfl rfl (G4 kr rfl)) (D7 5 (k:=E4 4 0 (.agg zN.toArray) rfl (C0 kr (fun w h=>h) ?_))))))))
      refine G5 (fuel:=0) [(6,0)] (fun w h=>h) (k:=G3 (E':=[⟨2,[],pt b1⟩,⟨3,[],.int .i64 ((C3 (((elX 24 I6 (G7 l)).2).1.length+1) ((elX 24 I6 (G7 l)).2)).2)⟩]) [2,3] (k:=A0 (B8 (A5 (N_pkT 4 [4] ([(b1,.cells zN.toArray 55 (0,0))]::H) (I1 (H':=([(b1,.cells zN.toArray 55 (0,0))]::[]::H)) (fun w h=>Sat.flat h (List.Perm.refl _)) (R9 [.cell 2 55,.tmp 3] [.agg zN.toArray,.int .i64 ((C3 (((elX 24 I6 (G7 l)).2).1.length+1) ((elX 24 I6 (G7 l)).2)).2)] rfl (.cons (.aq 0 0 rfl) (.cons .tq (.nil))) rfl ⟨_,?_,fun w h=>(h.pk 1 [1])⟩)))))))
      rw [hP]; exact ⟨_,_,XRep.nul,rfl,rfl⟩
     ·
      have he:(C3 ((elX 24 I6 (G7 l)).2.1.length+1) (elX 24 I6 (G7 l)).2).2=0:=bne_eq_false_iff_eq.1 hc11
      have hP:=(par_3 hlen hv hq0).trans (parN_4 (n:=(elX 24 I6 (G7 l))) hs he)
      refine A9 (A0 (A1 (A3 (I7 3 0 5 rfl (GL_st (ch:=[]) (b:=b1) (off:=0) (v:=.agg #[e0_8,e1_8,e2_8,e3_8,e4_8]) (j:=4) ([(b3,.cells #[.string (bk (C3 (((elX 24 I6 (G7 l)).2).1.length+1) ((elX 24 I6 (G7 l)).2)).1),.int .i64 ((C3 (((elX 24 I6 (G7 l)).2).1.length+1) ((elX 24 I6 (G7 l)).2)).2)] 97 (0,0))]::[(b7,.map (F2 (J6 ([((mB #[120,109,108]),.string (mB #[104,116,116,112,58,47,47,119,119,119,46,119,51,46,111,114,103,47,88,77,76,47,49,57,57,56,47,110,97,109,101,115,112,97,99,101]),0)]) 1 eB (.string eB))) (if T3 ([((mB #[120,109,108]),.string (mB #[104,116,116,112,58,47,47,119,119,119,46,119,51,46,111,114,103,47,88,77,76,47,49,57,57,56,47,110,97,109,101,115,112,97,99,101]),0)]) eB then 1 else 1+1))]::gv8::[(b5,.cells #[e0_8,e1_8,e2_8,e3_8,e4_8] 55 (0,0))]::[(b1,.cells #[e0_8,e1_8,e2_8,e3_8,e4_8] 55 (0,0))]::H) (h1:=h18) (hoff:=Nat.le_of_ble_eq_true rfl) (hfz:=(fun _ _=>thaw0)) (k:=B4 (E':=[⟨2,[],pt b1⟩,⟨3,[],.int .i64 0⟩]) [0] [2,3] (k:=A0 (B8 ?_))))))))
      refine N_pkT 3 [4,2] ([(b1,.cells #[e0_8,e1_8,e2_8,e3_8,e4_8] 55 (0,0))]::gv8::H) (I1 (H':=([(b1,.cells #[e0_8,e1_8,e2_8,e3_8,e4_8] 55 (0,0))]::gv8::H)) (fun w h=>Sat.flat h (List.Perm.refl _)) (R9 [.cell 2 55,.tmp 3] [.agg #[e0_8,e1_8,e2_8,e3_8,e4_8],.int .i64 0] rfl (.cons (.aq 0 0 rfl) (.cons .tq (.nil))) rfl ⟨_,?_,fun w h=>(h.pk 1 [1])⟩))
      rw [hP]; exact ⟨_,_,hJ8,rfl,rfl⟩
   ·
    have hq0:(G7 l).2≠0:=by have h9:=hc6; show (D3 [60] (C3 ((F4 l).length+1) (F4 l,0))).2≠0; simpa using h9
    refine A9 (A0 (A1 (A3 (A4 (j:=1) [0] (k:=O0 0 [1] (E0 (vs:=[pt b3]) Tryz.func61 (xaround_ b3 (D3 [60] (C3 (((F4 l),0).1.length+1) ((F4 l),0))) (by first | (show (F4 l).length≤_; omega) | (show (G7 l).1.length≤_; omega) | omega | (have h9:=el_le 24 I6 (G7 l); omega)) _ _ hX) ?_))))))
    rintro _ _ rfl
    refine A8 [] [2,4,5] (k:=A0 (A1 (A1 (A3 (A4 (j:=3) [0,0,0] (k:=C4 0 0 rfl rfl (A8 [0] [2,4,5,53] (k:=A0 ?_))))))))
    refine B0 (b:=!((bk (C3 ((D3 [60] (C3 (((F4 l),0).1.length+1) ((F4 l),0))).1.length+1) (D3 [60] (C3 (((F4 l),0).1.length+1) ((F4 l),0)))).1).toList==eB.toList)) kr (fun hc12=>?_) (fun hc12=>?_)
    ·
     have hs:(C3 ((V8,(G7 l)).2.1.length+1) (V8,(G7 l)).2).1≠[]:=by have h9:=hc12; exact (eqBf _ _).1 (by simpa only [Bool.not_eq_true'] using h9)
     refine A3 (A4 (j:=1) [0] (k:=E0 Tryz.func64 (M7 b3 (C3 ((D3 [60] (C3 (((F4 l),0).1.length+1) ((F4 l),0))).1.length+1) (D3 [60] (C3 (((F4 l),0).1.length+1) ((F4 l),0)))) 70 _ _) ?_))
     rintro _ _ rfl
     refine A8 [] [2,4,5] (k:=A0 (A1 (A1 (A3 (A4 (j:=3) [0,0,0] (k:=C4 0 1 rfl rfl (B4 (E':=[⟨2,[],pt b1⟩,⟨4,[],pt b3⟩,⟨5,[],pt b5⟩,⟨60,[],.bool (((F0 70 (C3 ((D3 [60] (C3 (((F4 l),0).1.length+1) ((F4 l),0))).1.length+1) (D3 [60] (C3 (((F4 l),0).1.length+1) ((F4 l),0))))).2) != 0)⟩]) [0] [2,4,5,60] (k:=A0 ?_))))))))
     refine B0 (b:=((F0 70 (C3 ((D3 [60] (C3 (((F4 l),0).1.length+1) ((F4 l),0))).1.length+1) (D3 [60] (C3 (((F4 l),0).1.length+1) ((F4 l),0))))).2) != 0) kr (fun hc13=>?_) (fun hc13=>?_)
     ·
      have he:(F0 70 (C3 ((V8,(G7 l)).2.1.length+1) (V8,(G7 l)).2)).2≠0:=bne_iff_ne.1 hc13
      have hP:=(par_4 hlen hv hq0).trans (parN_1 (n:=(V8,(G7 l))) hs he)
      refine A1 (H8 ([(b3,.cells #[.string (bk (F0 70 (C3 ((D3 [60] (C3 (((F4 l),0).1.length+1) ((F4 l),0))).1.length+1) (D3 [60] (C3 (((F4 l),0).1.length+1) ((F4 l),0))))).1),.int .i64 ((F0 70 (C3 ((D3 [60] (C3 (((F4 l),0).1.length+1) ((F4 l),0))).1.length+1) (D3 [60] (C3 (((F4 l),0).1.length+1) ((F4 l),0))))).2)] 97 (0,0))]::[(b5,.cells zN.toArray 55 (0,0))]::[(b1,.cells zN.toArray 55 (0,0))]::H) kr (G5 (fuel:=5) [(0,0),(1,0)] (fun w h=>h) (k:=L2 (ad:=⟨b3,0,none⟩) 2 (hL:=(fun w h=>h)) (k:=G5 (fuel:=3) [(3,0)] (fun w h=>h) (k:=F5 4 kr (fun w h=>h) (C4 0 1 rfl rfl (G4 kr rfl)) (D7 5 (k:=E4 2 0 (.agg zN.toArray) rfl (C0 kr (fun w h=>h) ?_))))))))
      refine G5 (fuel:=0) [(6,0)] (fun w h=>h) (k:=G3 (E':=[⟨2,[],pt b1⟩,⟨3,[],.int .i64 ((F0 70 (C3 ((D3 [60] (C3 (((F4 l),0).1.length+1) ((F4 l),0))).1.length+1) (D3 [60] (C3 (((F4 l),0).1.length+1) ((F4 l),0))))).2)⟩]) [2,3] (k:=A0 (B8 (A5 (N_pkT 2 [2] ([(b1,.cells zN.toArray 55 (0,0))]::H) (I1 (H':=([(b1,.cells zN.toArray 55 (0,0))]::[]::H)) (fun w h=>Sat.flat h (List.Perm.refl _)) (R9 [.cell 2 55,.tmp 3] [.agg zN.toArray,.int .i64 ((F0 70 (C3 ((D3 [60] (C3 (((F4 l),0).1.length+1) ((F4 l),0))).1.length+1) (D3 [60] (C3 (((F4 l),0).1.length+1) ((F4 l),0))))).2)] rfl (.cons (.aq 0 0 rfl) (.cons .tq (.nil))) rfl ⟨_,?_,fun w h=>(h.pk 1 [1])⟩)))))))
      rw [hP]; exact ⟨_,_,XRep.nul,rfl,rfl⟩
     ·
      have he:(F0 70 (C3 ((V8,(G7 l)).2.1.length+1) (V8,(G7 l)).2)).2=0:=bne_eq_false_iff_eq.1 hc13
      have hP:=(par_4 hlen hv hq0).trans (parN_2 (n:=(V8,(G7 l))) hs he)
      refine A9 (A0 (A1 (A3 (I7 1 0 5 rfl (E4 2 0 (.agg zN.toArray) rfl (B4 (E':=[⟨2,[],pt b1⟩,⟨3,[],.int .i64 0⟩]) [0] [2,3] (k:=A0 (B8 ?_))))))))
      refine N_pkT 2 [2] ([(b1,.cells zN.toArray 55 (0,0))]::H) (I1 (H':=([(b1,.cells zN.toArray 55 (0,0))]::[]::H)) (fun w h=>Sat.flat h (List.Perm.refl _)) (R9 [.cell 2 55,.tmp 3] [.agg zN.toArray,.int .i64 0] rfl (.cons (.aq 0 0 rfl) (.cons .tq (.nil))) rfl ⟨_,?_,fun w h=>(h.pk 1 [1])⟩))
      rw [hP]; exact ⟨_,_,XRep.nul,rfl,rfl⟩
    ·
     have hs:(C3 ((V8,(G7 l)).2.1.length+1) (V8,(G7 l)).2).1=[]:=by have h9:=hc12; exact (eqB _ _).1 (by simpa only [Bool.not_eq_false'] using h9)
     refine A9 (A0 (A1 (A1 (A3 (A4 (j:=3) [0,0,0] (k:=C4 0 1 rfl rfl (A8 [0] [2,4,5,60] (k:=A0 ?_))))))))
     refine B0 (b:=((C3 ((D3 [60] (C3 (((F4 l),0).1.length+1) ((F4 l),0))).1.length+1) (D3 [60] (C3 (((F4 l),0).1.length+1) ((F4 l),0)))).2) != 0) kr (fun hc14=>?_) (fun hc14=>?_)
     ·
      have he:(C3 ((V8,(G7 l)).2.1.length+1) (V8,(G7 l)).2).2≠0:=bne_iff_ne.1 hc14
      have hP:=(par_4 hlen hv hq0).trans (parN_3 (n:=(V8,(G7 l))) hs he)
      refine A1 (H8 ([(b3,.cells #[.string (bk (C3 ((D3 [60] (C3 (((F4 l),0).1.length+1) ((F4 l),0))).1.length+1) (D3 [60] (C3 (((F4 l),0).1.length+1) ((F4 l),0)))).1),.int .i64 ((C3 ((D3 [60] (C3 (((F4 l),0).1.length+1) ((F4 l),0))).1.length+1) (D3 [60] (C3 (((F4 l),0).1.length+1) ((F4 l),0)))).2)] 97 (0,0))]::[(b5,.cells zN.toArray 55 (0,0))]::[(b1,.cells zN.toArray 55 (0,0))]::H) kr (G5 (fuel:=5) [(0,0),(1,0)] (fun w h=>h) (k:=L2 (ad:=⟨b3,0,none⟩) 2 (hL:=(fun w h=>h)) (k:=G5 (fuel:=3) [(3,0)] (fun w h=>h) (k:=F5 4 kr (fun w h=>h) (C4 0 1 rfl rfl (G4 kr rfl)) (D7 5 (k:=E4 2 0 (.agg zN.toArray) rfl (C0 kr (fun w h=>h) ?_))))))))
      refine G5 (fuel:=0) [(6,0)] (fun w h=>h) (k:=G3 (E':=[⟨2,[],pt b1⟩,⟨3,[],.int .i64 ((C3 ((D3 [60] (C3 (((F4 l),0).1.length+1) ((F4 l),0))).1.length+1) (D3 [60] (C3 (((F4 l),0).1.length+1) ((F4 l),0)))).2)⟩]) [2,3] (k:=A0 (B8 (A5 (N_pkT 2 [2] ([(b1,.cells zN.toArray 55 (0,0))]::H) (I1 (H':=([(b1,.cells zN.toArray 55 (0,0))]::[]::H)) (fun w h=>Sat.flat h (List.Perm.refl _)) (R9 [.cell 2 55,.tmp 3] [.agg zN.toArray,.int .i64 ((C3 ((D3 [60] (C3 (((F4 l),0).1.length+1) ((F4 l),0))).1.length+1) (D3 [60] (C3 (((F4 l),0).1.length+1) ((F4 l),0)))).2)] rfl (.cons (.aq 0 0 rfl) (.cons .tq (.nil))) rfl ⟨_,?_,fun w h=>(h.pk 1 [1])⟩)))))))
      rw [hP]; exact ⟨_,_,XRep.nul,rfl,rfl⟩
     ·
      have he:(C3 ((V8,(G7 l)).2.1.length+1) (V8,(G7 l)).2).2=0:=bne_eq_false_iff_eq.1 hc14
      have hP:=(par_4 hlen hv hq0).trans (parN_4 (n:=(V8,(G7 l))) hs he)
      refine A9 (A0 (A1 (A3 (I7 1 0 5 rfl (E4 2 0 (.agg zN.toArray) rfl (B4 (E':=[⟨2,[],pt b1⟩,⟨3,[],.int .i64 0⟩]) [0] [2,3] (k:=A0 (B8 ?_))))))))
      refine N_pkT 2 [2] ([(b1,.cells zN.toArray 55 (0,0))]::H) (I1 (H':=([(b1,.cells zN.toArray 55 (0,0))]::[]::H)) (fun w h=>Sat.flat h (List.Perm.refl _)) (R9 [.cell 2 55,.tmp 3] [.agg zN.toArray,.int .i64 0] rfl (.cons (.aq 0 0 rfl) (.cons .tq (.nil))) rfl ⟨_,?_,fun w h=>(h.pk 1 [1])⟩))
      rw [hP]; exact ⟨_,_,XRep.nul,rfl,rfl⟩
end Go.Proofs.YtppgfiklmfoaeaaGreatDoor
namespace Go.Proofs.YtppgfiklmfoaeaaGreatDoor
open Go.Sw Go.Sha Go.Esc
theorem html_ (s:ByteArray) (hs:s.size≤400000) (W0:World) (H:List Grp):Tri Tryz.prog 119 #[.string s] W0 H (fun v H'=>v=.string ⟨(G0 s.data.toList).toArray⟩∧H'=H):=by
 have hps:ByteArray.size ⟨(D6 s.data.toList).toArray⟩≤2000000:=by
  have:=plain_len s.data.toList
  rw [show s.data.toList.length=s.size from Array.length_toList] at this
  show (D6 s.data.toList).toArray.size≤_
  rw [List.size_toArray]; omega
 refine D4 8 Tryz.func119 ?_
 refine A1 (B9 (E':=[⟨0,[],.string s⟩]) [0] [0] (k:=A0 (A1 (A3 (L0 9 10 [.string (mB #[38]),.string (mB #[38,97,109,112,59]),.string (mB #[60]),.string (mB #[38,108,116,59]),.string (mB #[62]),.string (mB #[38,103,116,59]),.string (mB #[34]),.string (mB #[38,113,117,111,116,59]),.string (mB #[39]),.string (mB #[38,35,51,57,59])] (fun b1=>E0 Tryz.func148 (newRep_ b1 _ _) ?_))))))
 rintro _ _ ⟨rb,ra,rcap,rg,rfl,hOwn,rfl⟩
 have hRT:Rd (inG rg) ra htmlT:=by
  obtain ⟨a2,c2,e,_,h⟩:=hOwn.shape
  injection e with e1; subst e1; exact h
 refine A4 (j:=3) [0] (k:=F8 Tryz.func60 (plain_ s (by omega) _ _) (E0 Tryz.func149 (repReplace_ rb ra rcap rg hRT (bk (D6 s.data.toList)) (bk (G0 s.data.toList)) (fun c aT cT gT a38 c38 g38 a60 c60 g60 a62 c62 g62 a34 c34 g34 a39 c39 g39 W1 H1 hT hR=>tabReplace_ c c38 c60 c62 c34 c39 aT cT gT a38 a60 a62 a34 a39 g38 g60 g62 g34 g39 (bk (D6 s.data.toList)) hps hT hR W1 H1) _ _) ?_))
 rintro _ _ ⟨rfl,rfl⟩
 refine A8 [0] [2] (k:=A0 (B8 (E9 1 [] (B7 [.tmp 2] [.string (bk (G0 s.data.toList))] (k:=?_)))))
 exact ⟨rfl,rfl⟩
end Go.Proofs.YtppgfiklmfoaeaaGreatDoor
namespace Go.Proofs.YtppgfiklmfoaeaaGreatDoor
open Go.Sw Go.Sha Go.Esc Go.RowKit Go.Json Go.Xml
theorem xplain_ (l:List UInt8) (hl:l.length≤1000000) (W0:World) (H:List Grp) (hX:P2 W0):Tri Tryz.prog 117 #[.string (bk l)] W0 H (fun v H'=>v=.bool (plX l)∧H'=H):=by
 have hW:T0 W0:=hX.base
 refine D4 16 Tryz.func117 ?_
 refine A1 (B9 (E':=[⟨0,[],.string (bk l)⟩]) [0] [0] (k:=A0 (A1 (A3 (A4 (j:=1) [0] (k:=F8 Tryz.func59 (valid_ (bk l) (by rw [C8]; omega) _ _ hW) (A4 (j:=4) [0,0] (k:=N1 [(5,true)] Tryz.func60 (fun hc=>plain_ (bk l) (by rw [C8]; omega) _ _) ?_))))))))
 refine A4 (j:=10) [0,0,6,0,0] (k:=N1 [(11,true)] Tryz.func143 (fun hc=>hasW [13] l (by omega) _ _ hX) (A8 [0,6,0] [2] (k:=A0 (B8 (B7 [.tmp 2] [.bool (((K8 l)&&((bk (D6 l)).toList==(bk l).toList))&&(!((idxL [13] l).isSome)))] (k:=?_))))))
 exact ⟨by unfold plX; rw [bkB]; try rfl,rfl⟩
theorem xquoted_ (l:List UInt8) (hl:l.length≤80000) (W0:World) (H:List Grp):Tri Tryz.prog 120 #[.string (bk l)] W0 H (fun v H'=>v=.string (bk (quoX l))∧H'=H):=by
 have hps:(bk (G0 l)).size≤2000000:=by have:=html_len l; rw [C8]; omega
 have hqz:(bk (C5 D8 (G0 l))).size≤12000000:=by have:=html_len l; have:=quoR_len6 (G0 l); rw [C8]; omega
 have hq1:(mB #[34]).size=1:=rfl
 refine D4 10 Tryz.func120 ?_
 refine A1 (B9 (E':=[⟨0,[],.string (bk l)⟩]) [0] [0] (k:=A0 (A1 (A3 (L0 9 4 [.string (mB #[10]),.string (mB #[38,35,49,48,59]),.string (mB #[9]),.string (mB #[38,35,57,59])] (fun b1=>E0 Tryz.func148 (newRepQ_ b1 _ _) ?_))))))
 rintro _ _ ⟨rb,ra,rcap,rg,rfl,hOwn,rfl⟩
 have hRT:Rd (inG rg) ra quoT:=by
  obtain ⟨a2,c2,e,_,h⟩:=hOwn.shape
  injection e with e1; subst e1; exact h
 refine A4 (j:=3) [0] (k:=F8 Tryz.func119 (html_ (bk l) (by rw [C8]; omega) _ _) (E0 Tryz.func149 (repReplaceQ_ rb ra rcap rg hRT (bk (G0 l)) (bk (C5 D8 (G0 l))) (fun c aT cT gT a10 c10 g10 a9 c9 g9 W1 H1 hT hR=>tabReplaceQ_ c c10 c9 aT cT gT a10 a9 g10 g9 (bk (G0 l)) hps hT hR W1 H1) _ _) ?_))
 rintro _ _ ⟨rfl,rfl⟩
 refine K5 (mB #[34]) (bk (C5 D8 (G0 l))) (by intro _; (try rw [H9]); omega) (K5 ((mB #[34])++(bk (C5 D8 (G0 l)))) (mB #[34]) (by intro _; (try rw [H9]); omega) (A8 [0] [2] (k:=A0 (B8 (E9 1 [] (B7 [.tmp 2] [.string (((mB #[34])++(bk (C5 D8 (G0 l))))++(mB #[34]))] (k:=?_)))))))
 exact ⟨congrArg Value.string (ByteArray.ext (Array.ext' (by unfold quoX; simp only [F9]; rfl))),rfl⟩
end Go.Proofs.YtppgfiklmfoaeaaGreatDoor
namespace Go.Proofs.YtppgfiklmfoaeaaGreatDoor
open Go.Sw Go.Sha Go.Esc Go.RowKit Go.Json Go.Xml
theorem xall_ (x:XN) (an:Option Addr) (cn:Nat) (al:Option Addr) (cl:Nat) (cs:List Value) (S:Nat→Obj→Prop) (_:Rd S an (xaV x.attrs)) (hrl:Rd S al cs) (hrc:XRdL S x.kids cs) (sp nm:List UInt8) (hw:wtX x≤100000000) (W0:World) (H:List Grp) (hS:∀ y o,S y o→At W0 H y o):Tri Tryz.prog 37 #[.agg #[.string (bk x.space),.string (bk x.name),.slice an x.attrs.length cn,.slice al x.kids.length cl,.string (bk x.text)],.string (bk sp),.string (bk nm)] W0 H (fun v H'=>∃ a c g co,v=.slice a (allX x sp nm).length c∧Go.Sw.Own 55 5 (.slice a (allX x sp nm).length c) g (allX x sp nm).length co∧XRdL S (allX x sp nm) co∧H'=g::H):=by
 have hpx:=M0 x
 refine D4 38 Tryz.func37 ?_
 refine A1 (A3 (N4 (.agg #[.string (bk x.space),.string (bk x.name),.slice an x.attrs.length cn,.slice al x.kids.length cl,.string (bk x.text)]) (fun b1=>A8 [0] [1,2,3] (k:=A0 (A1 (G_p [0] [1,2,3,7] (k:=A0 (A1 ?_))))))))
 refine A1 (A3 (A4 (j:=1) [0] (k:=C4 0 3 rfl rfl (A8 [0,0] [1,2,7,11,12,13] (k:=A0 (B2 (V6 (H':=([]::[(b1,.cells #[.string (bk x.space),.string (bk x.name),.slice an x.attrs.length cn,.slice al x.kids.length cl,.string (bk x.text)] 55 (0,0))]::H)) (fun w h=>h.flat (List.Perm.refl _)) (I3 (EI:=(fun ξ:Nat × Nat × Option Addr × Nat × Grp × List Value=>[⟨1,[],.string (bk sp)⟩,⟨2,[],.string (bk nm)⟩,⟨7,[],.slice ξ.2.2.1 ξ.2.1 ξ.2.2.2.1⟩,⟨11,[],.slice al x.kids.length cl⟩,⟨12,[],.int .i64 ((x.kids.length:Nat):Int)⟩,⟨13,[],.int .i64 ((ξ.1:Nat):Int)⟩])) (HI:=(fun ξ:Nat × Nat × Option Addr × Nat × Grp × List Value=>(ξ.2.2.2.2.1::[(b1,.cells #[.string (bk x.space),.string (bk x.name),.slice an x.attrs.length cn,.slice al x.kids.length cl,.string (bk x.text)] 55 (0,0))]::H))) (Φ:=(fun ξ:Nat × Nat × Option Addr × Nat × Grp × List Value=>(ξ.1≤x.kids.length)∧(Go.Sw.Own 55 5 (.slice ξ.2.2.1 ξ.2.1 ξ.2.2.2.1) ξ.2.2.2.2.1 ξ.2.1 ξ.2.2.2.2.2)∧(ξ.2.1=((x.kids.take ξ.1).filter (kidX sp nm)).length)∧(ξ.2.1≤ξ.1)∧(XRdL S ((x.kids.take ξ.1).filter (kidX sp nm)) ξ.2.2.2.2.2))) (μ:=(fun ξ:Nat × Nat × Option Addr × Nat × Grp × List Value=>x.kids.length - ξ.1)) (s0:=(0,0,none,0,[],[])) [1,2,7,11,12,13] kr kr ⟨(Nat.zero_le _),Go.Sw.Own.nil,rfl,(Nat.le_refl _),.nil⟩ ?_))))))))
 rintro ⟨k,no,oa,oc,og,co⟩ ⟨hkl,hO,hno,hnk,hco⟩
 dsimp only at hkl hO hno hnk hco
 refine A1 (G_p [0] [1,2,7,11,12,13,14] (k:=A0 (A1 (B0 (b:=decide (((k:Nat):Int)<((x.kids.length:Nat):Int))) kr (fun hc2=>?_) (fun hc2=>?_)))))
 ·
  have hk:k<x.kids.length:=by have:=hc2; simp only [decide_eq_true_eq] at this; omega
  obtain ⟨y,yan,ycn,yal,ycl,ycs,hyx,hye,hya,hyl,hyc,hycn⟩:=hrc.get hk
  have hyw:wtX y<wtX x:=by rw [hyx]; exact W3 hk
  refine A9 (A0 (A1 (B2 (A1 (A3 (E6 x.kids.length ((k:Nat):Int) 5 hrl (by exact ⟨by omega,by omega,by intro h; have h2:=congrArg List.length h; rw [hrc.len] at h2; simp only [List.length_nil] at h2; omega⟩) (G9 (ch:=[]) (a:=al) (q:=k * 5) (S:=S) (cs:=cs) (l:=[.string (bk y.space),.string (bk y.name),.slice yan y.attrs.length ycn,.slice yal y.kids.length ycl,.string (bk y.text)]) (hrd:=hrl) (hS:=(fun y o h=>At.cons (At.cons ((hS y o h))))) (hl:=List.cons_ne_nil _ _) (hv:=(fun _=>(elt5 hye))) (k:=J5 (.agg zN.toArray) (fun b3=>?_)))))))))
  refine E4 0 0 (.agg #[.string (bk y.space),.string (bk y.name),.slice yan y.attrs.length ycn,.slice yal y.kids.length ycl,.string (bk y.text)]) rfl (A8 [] [1,2,7,9,11,12,13] (k:=A0 (A1 (A3 (A4 (j:=1) [0] (k:=C4 0 1 rfl rfl (A4 (j:=5) [0,0,0] (k:=C2 (ch:=[(20,true)]) (b:=b3) (off:=0) (v:=.string (bk y.space)) (hA:=At.grp 0 0 rfl rfl) (k:=?_)))))))))
  refine A4 (j:=11) [0,0,6,0,0] (k:=C2 (ch:=[(26,true)]) (b:=b3) (off:=1) (v:=.string (bk y.name)) (hA:=At.grp 0 0 rfl rfl) (k:=A8 [0,0,6] [1,2,7,9,11,12,13,31] (k:=A0 (B0 (b:=((!((bk y.name).toList==eB.toList))&&((bk y.space).toList==(bk sp).toList))&&((bk y.name).toList==(bk nm).toList)) kr (fun hc4=>?_) (fun hc4=>?_)))))
  ·
   have hky:kidX sp nm y=true:=by have h9:=hc4; unfold kidX; rw [bkB y.space sp,bkB y.name nm,show ((bk y.name).toList==eB.toList)=(y.name==[]) from bkB y.name []] at h9; exact h9
   refine A3 (A4 (j:=1) [0] (k:=I7 0 0 5 rfl (L0 55 1 [.string (bk y.space),.string (bk y.name),.slice yan y.attrs.length ycn,.slice yal y.kids.length ycl,.string (bk y.text)] (fun b5=>O4 (inf:=Tryz.t55) 1 0 2 rfl rfl hO (by omega) (by show (no+1) * 96≤140737488355328; omega) (fun v6 g7 hO8=>?_)))))
   obtain ⟨a9,cap10,rfl,hcap11,hrd12⟩:=hO8.shape
   refine A8 [0] [1,2,7,11,12,13] (k:=B6 (A0 (A3 (A4 (j:=1) [0] (k:=D0 36 (((k:Nat):Int)+1) (by omega) (by omega) kr (A8 [0] [1,2,7,11,12,13] (k:=E9 2 [2,2] (D2 (s':=((k+1),(no+1),a9,cap10,g7,(co++xvC y yan ycn yal ycl))) [1,2,7,11,12,13] kr kr ⟨(by dsimp only; omega),hO8,(by dsimp only; rw [O6 hk,← hyx,hky]; simp only [if_true,List.length_append,List.length_cons,List.length_nil]; omega),(by dsimp only; omega),(by dsimp only; rw [O6 hk,← hyx,hky]; exact hco.snoc (XRd.of hycn hya hyl hyc))⟩ (by dsimp only; omega)))))))))
  ·
   have hky:kidX sp nm y=false:=by have h9:=hc4; unfold kidX; rw [bkB y.space sp,bkB y.name nm,show ((bk y.name).toList==eB.toList)=(y.name==[]) from bkB y.name []] at h9; exact h9
   refine A9 (B6 (A0 (A3 (A4 (j:=1) [0] (k:=D0 36 (((k:Nat):Int)+1) (by omega) (by omega) kr (A8 [0] [1,2,7,11,12,13] (k:=E9 1 [1,1] (D2 (s':=((k+1),no,oa,oc,og,co)) [1,2,7,11,12,13] kr kr ⟨(by dsimp only; omega),hO,(by dsimp only; rw [O6 hk,← hyx,hky]; simp only [Bool.false_eq_true,if_false,List.append_nil]; exact hno),(by dsimp only; omega),(by dsimp only; rw [O6 hk,← hyx,hky]; simp only [Bool.false_eq_true,if_false,List.append_nil]; exact hco)⟩ (by dsimp only; omega)))))))))
 ·
  have hk:x.kids.length≤k:=by have:=hc2; simp only [decide_eq_false_iff_not] at this; omega
  have hall:x.kids.take k=x.kids:=List.take_of_length_le hk
  rw [hall] at hno hco
  refine E3 (A6 (A6 (B5 (A0 (A1 (B9 (E':=[⟨6,[],.slice oa no oc⟩]) [0,0] [6] (k:=A0 (B8 ?_))))))))
  refine E9 1 [0] (B7 [.tmp 6] [.slice oa no oc] (k:=?_))
  subst hno; exact ⟨_,_,_,_,rfl,hO,hco,rfl⟩
theorem xfind_ (x:XN) (an:Option Addr) (cn:Nat) (al:Option Addr) (cl:Nat) (cs:List Value) (S:Nat→Obj→Prop) (hra:Rd S an (xaV x.attrs)) (hrl:Rd S al cs) (hrc:XRdL S x.kids cs) (sp nm:List UInt8) (hw:wtX x≤100000000) (W0:World) (H:List Grp) (hS:∀ y o,S y o→At W0 H y o):Tri Tryz.prog 39 #[.agg #[.string (bk x.space),.string (bk x.name),.slice an x.attrs.length cn,.slice al x.kids.length cl,.string (bk x.text)],.string (bk sp),.string (bk nm)] W0 H (fun v H'=>(((allX x sp nm)=[]∧v=.tuple #[.agg #[.string (bk []),.string (bk []),.slice none 0 0,.slice none 0 0,.string (bk [])],.bool false])∨∃ y l yan ycn yal ycl ycs,(allX x sp nm)=y::l∧v=.tuple #[.agg #[.string (bk y.space),.string (bk y.name),.slice yan y.attrs.length ycn,.slice yal y.kids.length ycl,.string (bk y.text)],.bool true]∧Rd S yan (xaV y.attrs)∧Rd S yal ycs∧XRdL S y.kids ycs∧y.attrs.length≤ycn)∧H'=H):=by
 refine D4 20 Tryz.func39 ?_
 refine A1 (A3 (N4 (.agg #[.string (bk x.space),.string (bk x.name),.slice an x.attrs.length cn,.slice al x.kids.length cl,.string (bk x.text)]) (fun b1=>J5 (.agg zN.toArray) (fun b2=>?_))))
 refine A8 [0] [1,2,3,6] (k:=A0 (A1 (A3 (I7 1 0 5 rfl (A4 (j:=3) [0,0] (k:=E0 Tryz.func37 (xall_ x an cn al cl cs S hra hrl hrc sp nm hw _ _ (fun y o h=>At.cons (At.cons ((hS y o h))))) ?_))))))
 rintro _ _ ⟨oa,oc,og,co,rfl,hO,hco,rfl⟩
 refine A8 [0] [6,8] (k:=A0 (A1 (A1 (G_p [0,0,0] [6,8,15] (k:=A0 (B0 (b:=(((allX x sp nm).length:Nat):Int)==0) kr (fun hc3=>?_) (fun hc3=>?_)))))))
 ·
  have h0:(allX x sp nm)=[]:=List.eq_nil_of_length_eq_zero (by have:=hc3; simp only [beq_iff_eq] at this; omega)
  refine A1 (A3 (A4 (j:=1) [0] (k:=E4 1 0 (.agg zN.toArray) rfl (B4 (E':=[⟨6,[],pt b2⟩,⟨7,[],.bool false⟩]) [0] [6,7] (k:=A0 (B8 (A5 (R9 [.cell 6 55,.tmp 7] [.agg zN.toArray,.bool false] rfl (.cons (.aq 1 0 rfl) (.cons .tq (.nil))) rfl ⟨_,?_,fun w h=>(h.pk 3 [])⟩))))))))
  exact ⟨.inl ⟨h0,rfl⟩,rfl⟩
 ·
  have h0:0<(allX x sp nm).length:=by have:=hc3; simp only [beq_eq_false_iff_ne,ne_eq] at this; omega
  obtain ⟨y,yan,ycn,yal,ycl,ycs,hyx,hye,hya,hyl,hyc,hycn⟩:=hco.get h0
  have hal:(allX x sp nm)=y::(allX x sp nm).drop 1:=by rw [hyx]; exact (M1 h0)
  refine A9 (A0 (A1 (A3 (A4 (j:=1) [0] (k:=E6 (a:=oa) (S:=(inG og)) (cs:=co) ((allX x sp nm).length) 0 5 (H7 hO) (by exact ⟨by omega,by omega,by intro h; have h2:=congrArg List.length h; rw [hco.len] at h2; simp only [List.length_nil] at h2; omega⟩) (G9 (ch:=[]) (a:=oa) (q:=0 * 5) (S:=(inG og)) (cs:=co) (l:=[.string (bk y.space),.string (bk y.name),.slice yan y.attrs.length ycn,.slice yal y.kids.length ycl,.string (bk y.text)]) (hrd:=H7 hO) (hS:=D9 0 rfl) (hl:=List.cons_ne_nil _ _) (hv:=(fun _=>(elt5 hye))) (k:=E4 1 0 (.agg #[.string (bk y.space),.string (bk y.name),.slice yan y.attrs.length ycn,.slice yal y.kids.length ycl,.string (bk y.text)]) rfl (B4 (E':=[⟨6,[],pt b2⟩,⟨7,[],.bool true⟩]) [0] [6,7] (k:=?_)))))))))
  refine A0 (B8 (R9 [.cell 6 55,.tmp 7] [.agg #[.string (bk y.space),.string (bk y.name),.slice yan y.attrs.length ycn,.slice yal y.kids.length ycl,.string (bk y.text)],.bool true] rfl (.cons (.aq 1 0 rfl) (.cons .tq (.nil))) rfl ⟨_,?_,fun w h=>(h.pk 3 [])⟩))
  exact ⟨.inr ⟨y,_,yan,ycn,yal,ycl,ycs,hal,rfl,hya,hyl,hyc,hycn⟩,rfl⟩
theorem xvalue_ (x:XN) (an:Option Addr) (cn:Nat) (al:Option Addr) (cl:Nat) (cs:List Value) (S:Nat→Obj→Prop) (hra:Rd S an (xaV x.attrs)) (_:Rd S al cs) (_:XRdL S x.kids cs) (nm:List UInt8) (hw:wtX x≤100000000) (W0:World) (H:List Grp) (hS:∀ y o,S y o→At W0 H y o):Tri Tryz.prog 40 #[.agg #[.string (bk x.space),.string (bk x.name),.slice an x.attrs.length cn,.slice al x.kids.length cl,.string (bk x.text)],.string (bk nm)] W0 H (fun v H'=>v=.string (bk (vlX x.attrs nm))∧H'=H):=by
 have hpx:=M0 x
 refine D4 26 Tryz.func40 ?_
 refine A1 (A3 (N4 (.agg #[.string (bk x.space),.string (bk x.name),.slice an x.attrs.length cn,.slice al x.kids.length cl,.string (bk x.text)]) (fun b1=>A8 [0] [1,2] (k:=A0 (A1 (A1 (A3 (A4 (j:=1) [0] (k:=?_)))))))))
 refine C4 0 2 rfl rfl (A8 [0,0] [1,8,9,10] (k:=A0 (B2 (I3 (EI:=(fun ξ:Nat=>[⟨1,[],.string (bk nm)⟩,⟨8,[],.slice an x.attrs.length cn⟩,⟨9,[],.int .i64 ((x.attrs.length:Nat):Int)⟩,⟨10,[],.int .i64 ((ξ:Nat):Int)⟩])) (HI:=(fun ξ:Nat=>([(b1,.cells #[.string (bk x.space),.string (bk x.name),.slice an x.attrs.length cn,.slice al x.kids.length cl,.string (bk x.text)] 55 (0,0))]::H))) (Φ:=(fun ξ:Nat=>(ξ≤x.attrs.length)∧(vlX x.attrs nm=vlX (x.attrs.drop ξ) nm))) (μ:=(fun ξ:Nat=>x.attrs.length - ξ)) (s0:=(0)) [1,8,9,10] kr rfl ⟨(Nat.zero_le _),rfl⟩ ?_))))
 rintro k ⟨hkl,hT⟩
 try dsimp only at hkl hT
 refine A1 (G_p [0] [1,8,9,10,11] (k:=A0 (A1 (B0 (b:=decide (((k:Nat):Int)<((x.attrs.length:Nat):Int))) kr (fun hc2=>?_) (fun hc2=>?_)))))
 ·
  have hk:k<x.attrs.length:=by have:=hc2; simp only [decide_eq_true_eq] at this; omega
  refine A9 (A0 (A1 (B2 (A1 (A3 (E6 x.attrs.length ((k:Nat):Int) 3 hra (by exact ⟨by omega,by omega,by intro h; have h2:=congrArg List.length h; rw [Q6] at h2; simp only [List.length_nil] at h2; omega⟩) ?_))))))
  obtain ⟨y,hy⟩:∃ y,y=x.attrs[k]'hk:=⟨_,rfl⟩
  refine G9 (ch:=[]) (a:=an) (q:=k * 3) (S:=S) (cs:=(xaV x.attrs)) (l:=[.string (bk y.space),.string (bk y.name),.string (bk y.value)]) (hrd:=hra) (hS:=(fun y o h=>At.cons ((hS y o h)))) (hl:=List.cons_ne_nil _ _) (hv:=(fun _=>(elt3 (by rw [hy]; exact W7 hk)))) (k:=J5 (.agg #[.string eB,.string eB,.string eB]) (fun b3=>E4 0 0 (.agg #[.string (bk y.space),.string (bk y.name),.string (bk y.value)]) rfl (A8 [] [1,6,8,9,10] (k:=A0 (A1 (A3 (A4 (j:=1) [0] (k:=C4 0 0 rfl rfl ?_))))))))
  refine A4 (j:=5) [0,0,0] (k:=C2 (ch:=[(17,true)]) (b:=b3) (off:=1) (v:=.string (bk y.name)) (hA:=At.grp 0 0 rfl rfl) (k:=A8 [0,0,6] [1,6,8,9,10,22] (k:=A0 (B0 (b:=((bk y.space).toList==eB.toList)&&((bk y.name).toList==(bk nm).toList)) kr (fun hc4=>?_) (fun hc4=>?_)))))
  ·
   have hvl:vlF nm y=true:=by have h9:=hc4; unfold vlF; rw [bkB y.name nm,show ((bk y.space).toList==eB.toList)=(y.space==[]) from bkB y.space []] at h9; exact h9
   refine A1 (A3 (A4 (j:=1) [0] (k:=C4 0 2 rfl rfl (B4 (E':=[⟨4,[],.string (bk y.value)⟩]) [0] [4] (k:=A0 (B8 (B3 (A5 ?_))))))))
   refine A5 (B3 (A5 (E9 2 [] (B7 [.tmp 4] [.string (bk y.value)] (k:=?_)))))
   exact ⟨by rw [hT,vl_step hk,← hy,hvl]; rfl,rfl⟩
  ·
   have hvl:vlF nm y=false:=by have h9:=hc4; unfold vlF; rw [bkB y.name nm,show ((bk y.space).toList==eB.toList)=(y.space==[]) from bkB y.space []] at h9; exact h9
   refine A9 (B6 (A0 (A3 (A4 (j:=1) [0] (k:=D0 25 (((k:Nat):Int)+1) (by omega) (by omega) kr (A8 [0] [1,8,9,10] (k:=E9 1 [1] (D2 (s':=(k+1)) [1,8,9,10] kr kr ⟨(by omega),(by rw [hT,vl_step hk,← hy,hvl]; rfl)⟩ (by omega)))))))))
 ·
  have hk:x.attrs.length≤k:=by have:=hc2; simp only [decide_eq_false_iff_not] at this; omega
  refine E3 (A6 (A6 (B5 (A0 (A1 (B9 (E':=[⟨4,[],.string eB⟩]) [0] [4] (k:=A0 (B8 ?_))))))))
  refine E9 1 [] (B7 [.tmp 4] [.string eB] (k:=?_))
  exact ⟨by rw [hT,List.drop_eq_nil_of_le hk]; rfl,rfl⟩
theorem xinnerW_ (x:XN) (an:Option Addr) (cn:Nat) (al:Option Addr) (cl:Nat) (cs:List Value) (S:Nat→Obj→Prop) (_:Rd S an (xaV x.attrs)) (hrl:Rd S al cs) (hrc:XRdL S x.kids cs) (hw:wtX x≤100000000) (hrec:∀ (y:XN),wtX y<wtX x→wtX y≤100000000→∀ (an:Option Addr) (cn:Nat) (al:Option Addr) (cl:Nat) (cs:List Value),Rd S an (xaV y.attrs)→Rd S al cs→XRdL S y.kids cs→∀ (W0:World) (H:List Grp),(∀ z o,S z o→At W0 H z o)→Tri Tryz.prog 42 #[.agg (xvC y an cn al cl).toArray] W0 H (fun v H'=>v=.string (bk (innX y))∧H'=H)) (W0:World) (H:List Grp) (hS:∀ y o,S y o→At W0 H y o):Tri Tryz.prog 42 #[.agg #[.string (bk x.space),.string (bk x.name),.slice an x.attrs.length cn,.slice al x.kids.length cl,.string (bk x.text)]] W0 H (fun v H'=>v=.string (bk (innX x))∧H'=H):=by
 have hpx:=M0 x
 refine D4 24 Tryz.func42 ?_
 refine A1 (A3 (N4 (.agg #[.string (bk x.space),.string (bk x.name),.slice an x.attrs.length cn,.slice al x.kids.length cl,.string (bk x.text)]) (fun b1=>B4 (E':=[⟨1,[],pt b1⟩]) [0] [1] (k:=A0 (A1 (A1 (A3 (A4 (j:=1) [0] (k:=?_)))))))))
 refine C4 0 1 rfl rfl (A8 [0] [1,8] (k:=A0 (B0 (b:=(bk x.name).toList==eB.toList) kr (fun hc2=>?_) (fun hc2=>?_))))
 ·
  have hn:x.name=[]:=(eqB _ _).1 hc2
  refine A1 (A3 (A4 (j:=1) [0] (k:=C4 0 4 rfl rfl (B4 (E':=[⟨2,[],.string (bk x.text)⟩]) [0] [2] (k:=A0 (B8 (A5 (E9 1 [] ?_))))))))
  refine B7 [.tmp 2] [.string (bk x.text)] (k:=?_)
  exact ⟨by rw [innX_text hn]; try rfl,rfl⟩
 ·
  have hn:x.name≠[]:=(eqBf _ _).1 hc2
  refine A9 (A0 (A1 (G_p [0] [1,3] (k:=A0 (A1 (A1 (A3 (A4 (j:=1) [0] (k:=?_)))))))))
  refine C4 0 3 rfl rfl (A8 [0,0] [3,12,13,14] (k:=A0 (B2 (G_env (E':=[⟨3,[],.string eB⟩,⟨12,[],.slice al x.kids.length cl⟩,⟨13,[],.int .i64 ((x.kids.length:Nat):Int)⟩,⟨14,[],.int .i64 0⟩]) kr ?_))))
  have hi0:eB=bk (innL (x.kids.take 0)):=by rw [List.take_zero,innL_nil]
  refine G_env (E':=[⟨3,[],.string (bk (innL (x.kids.take 0)))⟩,⟨12,[],.slice al x.kids.length cl⟩,⟨13,[],.int .i64 ((x.kids.length:Nat):Int)⟩,⟨14,[],.int .i64 0⟩]) (by rw [← hi0]) (I3 (EI:=(fun ξ:Nat=>[⟨3,[],.string (bk (innL (x.kids.take ξ)))⟩,⟨12,[],.slice al x.kids.length cl⟩,⟨13,[],.int .i64 ((x.kids.length:Nat):Int)⟩,⟨14,[],.int .i64 ((ξ:Nat):Int)⟩])) (HI:=(fun ξ:Nat=>([(b1,.cells #[.string (bk x.space),.string (bk x.name),.slice an x.attrs.length cn,.slice al x.kids.length cl,.string (bk x.text)] 55 (0,0))]::H))) (Φ:=(fun ξ:Nat=>(ξ≤x.kids.length))) (μ:=(fun ξ:Nat=>x.kids.length - ξ)) (s0:=(0)) [3,12,13,14] kr rfl (Nat.zero_le _) ?_)
  rintro k hkl
  refine A1 (G_p [0] [3,12,13,14,15] (k:=A0 (A1 (B0 (b:=decide (((k:Nat):Int)<((x.kids.length:Nat):Int))) kr (fun hc3=>?_) (fun hc3=>?_)))))
  ·
   have hk:k<x.kids.length:=by have:=hc3; simp only [decide_eq_true_eq] at this; omega
   obtain ⟨y,yan,ycn,yal,ycl,ycs,hyx,hye,hya,hyl,hyc,hycn⟩:=hrc.get hk
   have hyw:wtX y<wtX x:=by rw [hyx]; exact W3 hk
   refine A9 (A0 (A1 (B2 (A1 (A3 (E6 x.kids.length ((k:Nat):Int) 5 hrl (by exact ⟨by omega,by omega,by intro h; have h2:=congrArg List.length h; rw [hrc.len] at h2; simp only [List.length_nil] at h2; omega⟩) (G9 (ch:=[]) (a:=al) (q:=k * 5) (S:=S) (cs:=cs) (l:=[.string (bk y.space),.string (bk y.name),.slice yan y.attrs.length ycn,.slice yal y.kids.length ycl,.string (bk y.text)]) (hrd:=hrl) (hS:=(fun y o h=>At.cons ((hS y o h)))) (hl:=List.cons_ne_nil _ _) (hv:=(fun _=>(elt5 hye))) (k:=J5 (.agg zN.toArray) (fun b4=>?_)))))))))
   refine E4 0 0 (.agg #[.string (bk y.space),.string (bk y.name),.slice yan y.attrs.length ycn,.slice yal y.kids.length ycl,.string (bk y.text)]) rfl (A8 [] [3,5,12,13,14] (k:=A0 (A3 (A4 (j:=1) [0] (k:=I7 0 0 5 rfl (F8 Tryz.func42 (hrec y hyw (by omega) yan ycn yal ycl ycs hya hyl hyc _ _ (fun y o h=>At.cons (At.cons ((hS y o h))))) (K5 (bk (innL (x.kids.take k))) (bk (innX y)) (by intro _; rw [C8,C8]; have h1:=innL_len (x.kids.take k); have h2:=wtXL_take x.kids k; have h3:=inn_len y; omega) (F6 21 (x:=.string ((bk (innL (x.kids.take k)))++(bk (innX y)))) (y:=.string (bk (innL (x.kids.take (k+1))))) (by rw [bk_app,innL_take hk,← hyx]) ?_))))))))
   refine A8 [0] [3,12,13,14] (k:=B6 (A0 (A3 (A4 (j:=1) [0] (k:=D0 22 (((k:Nat):Int)+1) (by omega) (by omega) kr (A8 [0] [3,12,13,14] (k:=E9 1 [1] (D2 (s':=(k+1)) [3,12,13,14] kr kr (by omega) (by omega)))))))))
  ·
   have hk:x.kids.length≤k:=by have:=hc3; simp only [decide_eq_false_iff_not] at this; omega
   refine E3 (A6 (A6 (B5 (A0 (A1 (G_p [0,0] [2] (k:=A0 (B8 ?_))))))))
   refine E9 1 [] (B7 [.tmp 2] [.string (bk (innL (x.kids.take k)))] (k:=?_))
   exact ⟨by rw [innX_el hn,List.take_of_length_le hk]; try rfl,rfl⟩
theorem xinner_:∀ (n:Nat) (x:XN),wtX x≤n→wtX x≤100000000→∀ (an:Option Addr) (cn:Nat) (al:Option Addr) (cl:Nat) (cs:List Value) (S:Nat→Obj→Prop),Rd S an (xaV x.attrs)→Rd S al cs→XRdL S x.kids cs→∀ (W0:World) (H:List Grp),(∀ z o,S z o→At W0 H z o)→Tri Tryz.prog 42 #[.agg (xvC x an cn al cl).toArray] W0 H (fun v H'=>v=.string (bk (innX x))∧H'=H)
  | 0,x,h,_,_,_,_,_,_,_,_,_,_,_,_,_=>absurd (wtX_pos x) (by omega)
  | n+1,x,h,hd,an,cn,al,cl,cs,S,h1,h2,h3,W0,H,hS=>xinnerW_ x an cn al cl cs S h1 h2 h3 hd (fun y hy hdy an cn al cl cs h1 h2 h3 W0 H hS=>xinner_ n y (by omega) hdy an cn al cl cs S h1 h2 h3 W0 H hS) W0 H hS
end Go.Proofs.YtppgfiklmfoaeaaGreatDoor
namespace Go.Proofs.YtppgfiklmfoaeaaGreatDoor
open Go.Sw Go.Sha Go.Esc Go.RowKit Go.Json Go.Xml
theorem sameN_eq (x y:XA):((bk x.name).toList==(bk y.name).toList)=sameN x y:=bkB _ _
theorem xaV_take:∀ (l:List XA) (k:Nat),xaV (l.take k)=(xaV l).take (k * 3)
  | [],k=>by rw [List.take_nil]; show []=List.take _ []; rw [List.take_nil]
  | x::l,0=>by rw [List.take_zero,Nat.zero_mul,List.take_zero]; rfl
  | x::l,k+1=>by
    rw [List.take_succ_cons,xaV,xaV_take l k,xaV,List.take_append,List.take_of_length_le (show (xaC x).length≤_ by show 3≤_; omega)]
    congr 2
    show k * 3=(k+1) * 3 - 3; omega
theorem rd_take {S:Nat→Obj→Prop} {a:Option Addr} {cs:List Value} (h:Rd S a cs) (m:Nat):Rd S a (cs.take m):=by
  rcases h with h | ⟨b,off,c,e,fz,h1,h2,h3⟩
  · exact .inl (by simp [h])
  · refine .inr ⟨b,off,c,e,fz,h1,h2,fun j u hj=>?_⟩
    rw [List.getElem?_take] at hj
    split at hj
    · exact h3 _ _ hj
    · simp at hj
theorem lenN (n:List UInt8):((nmX n:Int) != ((bk n).size:Int))=!(nmX n==n.length):=by
  rw [C8,Bool.eq_iff_iff]; simp [bne]; omega
theorem right_eq (_:Int) (x:XN):((((((nmX x.name:Int) != ((bk x.name).size:Int))||((bk x.name).toList==eB.toList))||(!((bk x.text).toList==eB.toList)))||(!(plX x.space)))||(!(plX x.name)))=!(nmOk x.name&&x.text==[]&&plX x.space&&plX x.name):=by
  rw [bkN,bkN,lenN]; unfold nmOk
  cases (x.name==[]) <;> cases (nmX x.name==x.name.length) <;> cases (x.text==[]) <;> cases plX x.space <;> cases plX x.name <;> rfl
theorem right_no {d:Int} (lv:Nat) (x:XN) (hd:d=24 - (lv:Int)) (h:((((((((nmX x.name:Int) != ((bk x.name).size:Int))||((bk x.name).toList==eB.toList))||(!((bk x.text).toList==eB.toList)))||(!(plX x.space)))||(!(plX x.name)))||(decide (d ≥ 24))))=true):rtX lv x=false:=by
  rw [right_eq d x,Bool.or_eq_true] at h
  cases lv with
  | zero=>exact rtX_0 x
  | succ m =>
    rcases h with h | h
    · rw [Bool.not_eq_true'] at h; rw [rtX_s,h]; rfl
    · have:=of_decide_eq_true h; omega
theorem right_yes {d:Int} (lv:Nat) (x:XN) (hd:d=24 - (lv:Int)) (h:((((((((nmX x.name:Int) != ((bk x.name).size:Int))||((bk x.name).toList==eB.toList))||(!((bk x.text).toList==eB.toList)))||(!(plX x.space)))||(!(plX x.name)))||(decide (d ≥ 24))))=false):∃ m,lv=m+1∧rtX lv x=(O7 [] x.attrs&&Q8 (rtX m) false x.kids):=by
  rw [right_eq d x,Bool.or_eq_false_iff] at h
  cases lv with
  | zero=>have:=of_decide_eq_false h.2; omega
  | succ m=>exact ⟨m,rfl,by have h1:=h.1; rw [Bool.not_eq_false'] at h1; rw [rtX_s,h1]; rfl⟩
theorem atF_eq (y:XA):((((((!((bk y.space).toList==eB.toList))||((bk y.name).toList==eB.toList))||((nmX y.name:Int) != ((bk y.name).size:Int)))||((bk y.name).toList==(mB #[120,109,108,110,115]).toList))||(!(plX y.value)))||(!(plX y.name)))=!atF y:=by
  rw [bkN,bkN,lenN,show ((bk y.name).toList==(mB #[120,109,108,110,115]).toList)=(y.name==T1) from bkB y.name T1]; unfold atF
  rw [Bool.not_not]
theorem kidF_eq {f:XN→Bool} {last:Bool} {y:XN} (hw:y.attrs.length+y.kids.length≤1000000):((((bk y.name).toList==eB.toList)&&((((last||((bk y.text).toList==eB.toList))||(!(plX y.text)))||(!((bk y.space).toList==eB.toList)))||(decide ((IntKind.wrap .i64 (((y.attrs.length:Nat):Int)+((y.kids.length:Nat):Int))) > 0))))||((!((bk y.name).toList==eB.toList))&&(!(f y))))=!kidF f last y:=by
  rw [bkN,bkN,bkN,show decide ((IntKind.wrap .i64 (((y.attrs.length:Nat):Int)+((y.kids.length:Nat):Int))) > 0)=decide (0<y.attrs.length+y.kids.length) from by rw [w64 (by omega) (by omega)]; exact decide_eq_decide.2 (by omega)]; unfold kidF
  rw [Bool.not_not]
theorem cutA_z (a:Option Addr) (cap sz:Nat):cutA a cap 0 sz=a:=by
  unfold cutA
  split
  · rfl
  · cases a with
    | none=>rfl
    | some a=>simp [Addr.add]
theorem anyN_take {l:List XA} {k:Nat} {f:XA→Bool} (h:k<l.length):(l.take (k+1)).any f=((l.take k).any f||f l[k]):=by
  rw [List.take_succ_eq_append_getElem h,List.any_append]; simp
theorem xsameN_ (y x:XA) (xb:Nat) (W0:World) (H:List Grp):Tri Tryz.prog 118 #[.agg #[.string (bk y.space),.string (bk y.name),.string (bk y.value)],pt xb] W0 ([(xb,.cells #[.string (bk x.space),.string (bk x.name),.string (bk x.value)] 75 (0,0))]::H) (fun v H'=>v=.bool (sameN x y)∧H'=([(xb,.cells #[.string (bk x.space),.string (bk x.name),.string (bk x.value)] 75 (0,0))]::H)):=by
 refine D4 9 Tryz.func118 ?_
 refine A1 (A3 (N4 (.agg #[.string (bk y.space),.string (bk y.name),.string (bk y.value)]) (fun b1=>B4 (E':=[⟨1,[],pt xb⟩,⟨2,[],pt b1⟩]) [0] [1,2] (k:=A0 (A1 (A3 (A4 (j:=1) [0] (k:=C4 1 1 rfl rfl ?_))))))))
 refine A4 (j:=3) [0] (k:=C4 0 1 rfl rfl (A8 [0,0] [3] (k:=A0 (B8 (E9 1 [1] (B7 [.tmp 3] [.bool ((bk x.name).toList==(bk y.name).toList)] (k:=?_)))))))
 exact ⟨congrArg Value.bool (sameN_eq x y),rfl⟩
theorem xindexN_ (out:List XA) (n0:Nat) (hn0:n0=out.length) (a:Option Addr) (c:Nat) (S:Nat→Obj→Prop) (hrd:Rd S a (xaV out)) (hol:out.length≤1000002) (x:XA) (xb:Nat) (W0:World) (H:List Grp) (hS:∀ y o,S y o→At W0 H y o):Tri Tryz.prog 146 #[.slice a n0 c,.func (.func 118) #[] #[pt xb]] W0 ([(xb,.cells #[.string (bk x.space),.string (bk x.name),.string (bk x.value)] 75 (0,0))]::H) (fun v H'=>∃ n:Int,v=.int .i64 n∧(out.any (sameN x)=decide (n ≥ 0))∧H'=([(xb,.cells #[.string (bk x.space),.string (bk x.name),.string (bk x.value)] 75 (0,0))]::H)):=by
 refine D4 19 Tryz.func146 ?_
 refine A1 (G_p [0] [0,1] (k:=A0 (A1 (A1 (G_p [0,0,0] [0,1,7,8] (k:=A0 (B2 (I3 (EI:=(fun ξ:Nat=>[⟨0,[],.slice a n0 c⟩,⟨1,[],.func (.func 118) #[] #[pt xb]⟩,⟨7,[],.int .i64 ((n0:Nat):Int)⟩,⟨8,[],.int .i64 ((ξ:Nat):Int)⟩])) (HI:=(fun ξ:Nat=>([(xb,.cells #[.string (bk x.space),.string (bk x.name),.string (bk x.value)] 75 (0,0))]::H))) (Φ:=(fun ξ:Nat=>(ξ≤out.length)∧((out.take ξ).any (sameN x)=false))) (μ:=(fun ξ:Nat=>out.length - ξ)) (s0:=(0)) [0,1,7,8] kr rfl ⟨(Nat.zero_le _),rfl⟩ ?_))))))))
 rintro k ⟨hkl,hno⟩
 try dsimp only at hkl hno
 refine A1 (G_p [0] [0,1,7,8,9] (k:=A0 (A1 (B0 (b:=decide (((k:Nat):Int)<((n0:Nat):Int))) kr (fun hc1=>?_) (fun hc1=>?_)))))
 ·
  have hk:k<out.length:=by have:=hc1; simp only [decide_eq_true_eq] at this; omega
  refine A9 (A0 (A1 (B2 (A1 (G_p [0,0] [0,1,5,7,8] (k:=A0 (A1 (A3 ?_))))))))
  refine A4 (j:=3) [0,0,0] (k:=E6 n0 ((k:Nat):Int) 3 hrd (by exact ⟨by omega,by omega,by intro h; have:=congrArg List.length h; rw [Q6] at this; simp only [List.length_nil] at this; omega⟩) ?_)
  obtain ⟨y,hy⟩:∃ y,y=out[k]'hk:=⟨_,rfl⟩
  refine G9 (ch:=[]) (a:=a) (q:=k * 3) (S:=S) (cs:=(xaV out)) (l:=[.string (bk y.space),.string (bk y.name),.string (bk y.value)]) (hrd:=hrd) (hS:=(fun y o h=>At.cons (hS y o h))) (hl:=List.cons_ne_nil _ _) (hv:=(fun _=>(elt3 (by rw [hy]; exact W7 hk)))) (k:=Z2 (ch:=[]) (f:=118) (fst:=#[]) (caps:=#[pt xb]) (vs:=[.agg #[.string (bk y.space),.string (bk y.name),.string (bk y.value)]]) (hf:=Tryz.func118) (hsure:=Q0 kr) (hc:=xsameN_ y x xb _ _) (k:=?_))
  rintro _ _ ⟨rfl,rfl⟩
  refine A8 [] [0,1,5,7,8,16] (k:=A0 (B0 (b:=(sameN x y)) kr (fun hc2=>?_) (fun hc2=>?_)))
  ·
   have hsm:sameN x y=true:=hc2
   refine A1 (B9 (E':=[⟨4,[],.int .i64 ((k:Nat):Int)⟩]) [0,0] [4] (k:=A0 (B8 (B3 (A5 (A5 (B3 (A5 ?_))))))))
   refine B7 [.tmp 4] [.int .i64 ((k:Nat):Int)] (k:=?_)
   exact ⟨_,rfl,by rw [any_at hk (by rw [← hy]; exact hsm)]; exact (decide_eq_true (Int.natCast_nonneg k)).symm,rfl⟩
  ·
   have hsm:sameN x y=false:=hc2
   refine A9 (B6 (A0 (A3 (A4 (j:=1) [0] (k:=D0 18 (((k:Nat):Int)+1) (by omega) (by omega) kr (A8 [0] [0,1,7,8] (k:=D2 (s':=(k+1)) [0,1,7,8] kr rfl ⟨(by omega),(by rw [anyN_take hk,hno,← hy,hsm]; rfl)⟩ (by omega))))))))
 ·
  have hk:out.length≤k:=by have:=hc1; simp only [decide_eq_false_iff_not] at this; omega
  refine E3 (A6 (A6 (B5 (A0 (A1 (B9 (E':=[⟨4,[],.int .i64 (-1)⟩]) [0] [4] (k:=A0 (B8 ?_))))))))
  refine B7 [.tmp 4] [.int .i64 (-1)] (k:=?_)
  exact ⟨_,rfl,by rw [List.take_of_length_le hk] at hno; rw [hno]; rfl,rfl⟩
theorem xhasNm_ (out:List XA) (n0:Nat) (hn0:n0=out.length) (a:Option Addr) (c:Nat) (S:Nat→Obj→Prop) (hrd:Rd S a (xaV out)) (hol:out.length≤1000002) (x:XA) (xb:Nat) (W0:World) (H:List Grp) (hS:∀ y o,S y o→At W0 H y o):Tri Tryz.prog 107 #[.slice a n0 c,.func (.func 118) #[] #[pt xb]] W0 ([(xb,.cells #[.string (bk x.space),.string (bk x.name),.string (bk x.value)] 75 (0,0))]::H) (fun v H'=>v=.bool (out.any (sameN x))∧H'=([(xb,.cells #[.string (bk x.space),.string (bk x.name),.string (bk x.value)] 75 (0,0))]::H)):=by
 refine D4 9 Tryz.func107 ?_
 refine A1 (G_p [0] [0,1] (k:=A0 (A1 (A3 (A4 (j:=2) [0,0] (k:=E0 Tryz.func146 (xindexN_ out n0 hn0 a c S hrd hol x xb _ _ hS) ?_))))))
 rintro _ _ ⟨n,rfl,hn,rfl⟩
 refine B4 (E':=[⟨4,[],.bool (decide (n ≥ 0))⟩]) [0,0] [4] (k:=A0 (B8 (B7 [.tmp 4] [.bool (decide (n ≥ 0))] (k:=?_))))
 exact ⟨by rw [hn]; try rfl,rfl⟩
theorem xrightW_ (x:XN) (an:Option Addr) (cn:Nat) (al:Option Addr) (cl:Nat) (cs:List Value) (S:Nat→Obj→Prop) (hra:Rd S an (xaV x.attrs)) (hrl:Rd S al cs) (hrc:XRdL S x.kids cs) (hcn:x.attrs.length≤cn) (lv:Nat) (hlv:lv≤24) (d:Int) (hd:d=24 - (lv:Int)) (hw:wtX x≤80000) (hrec:∀ (y:XN),wtX y<wtX x→wtX y≤80000→∀ (m:Nat),lv=m+1→∀ (an:Option Addr) (cn:Nat) (al:Option Addr) (cl:Nat) (cs:List Value),y.attrs.length≤cn→Rd S an (xaV y.attrs)→Rd S al cs→XRdL S y.kids cs→∀ (W0:World) (H:List Grp),(∀ z o,S z o→At W0 H z o)→P2 W0→Tri Tryz.prog 69 #[.agg (xvC y an cn al cl).toArray,.int .i64 (d+1)] W0 H (fun v H'=>v=.bool (rtX m y)∧H'=H)) (W0:World) (H:List Grp) (hS:∀ y o,S y o→At W0 H y o) (hX:P2 W0):Tri Tryz.prog 69 #[.agg #[.string (bk x.space),.string (bk x.name),.slice an x.attrs.length cn,.slice al x.kids.length cl,.string (bk x.text)],.int .i64 d] W0 H (fun v H'=>v=.bool (rtX lv x)∧H'=H):=by
 have hpx:=M0 x
 refine D4 146 Tryz.func69 ?_
 refine A1 (A3 (N4 (.agg #[.string (bk x.space),.string (bk x.name),.slice an x.attrs.length cn,.slice al x.kids.length cl,.string (bk x.text)]) (fun b1=>B4 (E':=[⟨1,[],.int .i64 d⟩,⟨2,[],pt b1⟩]) [0] [1,2] (k:=A0 (A1 (A1 (H0 (k:=A4 (j:=1) [0] (k:=?_)))))))))
 refine C4 0 1 rfl rfl (F8 Tryz.func116 (xlen_ x.name (by omega) _ _) (A4 (j:=4) [0] (k:=C4 0 1 rfl rfl (A4 (j:=9) [0,0,0,0] (k:=C2 (ch:=[(18,false)]) (b:=b1) (off:=1) (v:=.string (bk x.name)) (hA:=At.grp 0 0 rfl rfl) (k:=A4 (j:=14) [0,5,0,0] (k:=C2 (ch:=[(23,false)]) (b:=b1) (off:=4) (v:=.string (bk x.text)) (hA:=At.grp 0 0 rfl rfl) (k:=A4 (j:=19) [0,5,0,0] (k:=?_)))))))))
 refine C2 (ch:=[(28,false)]) (b:=b1) (off:=0) (v:=.string (bk x.space)) (hA:=At.grp 0 0 rfl rfl) (k:=N1 [(28,false)] Tryz.func117 (fun hc=>xplain_ x.space (by omega) _ _ hX) (A4 (j:=25) [0,5,0,0] (k:=C2 (ch:=[(34,false)]) (b:=b1) (off:=1) (v:=.string (bk x.name)) (hA:=At.grp 0 0 rfl rfl) (k:=N1 [(34,false)] Tryz.func117 (fun hc=>xplain_ x.name (by omega) _ _ hX) (A8 [0,5,0,0,0,5] [1,2,43] (k:=A0 (B0 (b:=((((((nmX x.name:Int) != ((bk x.name).size:Int))||((bk x.name).toList==eB.toList))||(!((bk x.text).toList==eB.toList)))||(!(plX x.space)))||(!(plX x.name)))||(decide (d ≥ 24))) kr (fun hc2=>?_) (fun hc2=>?_))))))))
 ·
  have hR:=right_no lv x hd hc2
  refine A1 (B9 (E':=[⟨4,[],.bool false⟩]) [0] [4] (k:=A0 (B8 (A5 (E9 1 [] (B7 [.tmp 4] [.bool false] (k:=?_)))))))
  exact ⟨by rw [hR]; rfl,rfl⟩
 ·
  obtain ⟨m,hlm,hR⟩:=right_yes lv x hd hc2
  refine A9 (A0 (A1 (A1 (A3 (A4 (j:=1) [0] (k:=C4 0 2 rfl rfl (A8 [0,0] [1,2,45,46,47] (k:=A0 ?_))))))))
  refine B2 (I3 (EI:=(fun ξ:Nat=>[⟨1,[],.int .i64 d⟩,⟨2,[],pt b1⟩,⟨45,[],.slice an x.attrs.length cn⟩,⟨46,[],.int .i64 ((x.attrs.length:Nat):Int)⟩,⟨47,[],.int .i64 ((ξ:Nat):Int)⟩])) (HI:=(fun ξ:Nat=>([(b1,.cells #[.string (bk x.space),.string (bk x.name),.slice an x.attrs.length cn,.slice al x.kids.length cl,.string (bk x.text)] 55 (0,0))]::H))) (Φ:=(fun ξ:Nat=>(ξ≤x.attrs.length)∧(O7 [] x.attrs=O7 (x.attrs.take ξ) (x.attrs.drop ξ)))) (μ:=(fun ξ:Nat=>x.attrs.length - ξ)) (s0:=(0)) [1,2,45,46,47] kr rfl ⟨(Nat.zero_le _),rfl⟩ ?_)
  rintro k ⟨hkl,hT⟩
  try dsimp only at hkl hT
  refine A1 (G_p [0] [1,2,45,46,47,48] (k:=A0 (A1 (B0 (b:=decide (((k:Nat):Int)<((x.attrs.length:Nat):Int))) kr (fun hc3=>?_) (fun hc3=>?_)))))
  ·
   have hk:k<x.attrs.length:=by have:=hc3; simp only [decide_eq_true_eq] at this; omega
   refine A9 (A0 (A1 (B2 (A1 (A3 (A4 (j:=1) [0] (k:=E6 x.attrs.length ((k:Nat):Int) 3 hra (by exact ⟨by omega,by omega,by intro h; have h2:=congrArg List.length h; rw [Q6] at h2; simp only [List.length_nil] at h2; omega⟩) ?_)))))))
   obtain ⟨y,hy⟩:∃ y,y=x.attrs[k]'hk:=⟨_,rfl⟩
   have hyz:=wtA_at hk
   rw [← hy] at hyz
   refine G9 (ch:=[]) (a:=an) (q:=k * 3) (S:=S) (cs:=(xaV x.attrs)) (l:=[.string (bk y.space),.string (bk y.name),.string (bk y.value)]) (hrd:=hra) (hS:=(fun y o h=>At.cons ((hS y o h)))) (hl:=List.cons_ne_nil _ _) (hv:=(fun _=>(elt3 (by rw [hy]; exact W7 hk)))) (k:=J5 (.agg #[.string eB,.string eB,.string eB]) (fun b4=>A4 (j:=5) [0] (k:=E4 0 0 (.agg #[.string (bk y.space),.string (bk y.name),.string (bk y.value)]) rfl (A8 [] [1,2,5,6,45,46,47] (k:=A0 (A1 (A1 (H0 (k:=?_)))))))))
   refine A4 (j:=1) [0] (k:=C4 0 0 rfl rfl (A4 (j:=5) [0,0,0] (k:=C2 (ch:=[(55,false)]) (b:=b4) (off:=1) (v:=.string (bk y.name)) (hA:=At.grp 0 0 rfl rfl) (k:=A4 (j:=10) [0,5,0,0] (k:=C2 (ch:=[(60,false)]) (b:=b4) (off:=1) (v:=.string (bk y.name)) (hA:=At.grp 0 0 rfl rfl) (k:=N1 [(60,false)] Tryz.func116 (fun hc=>xlen_ y.name (by omega) _ _) (A4 (j:=13) [0] (k:=C2 (ch:=[(60,false)]) (b:=b4) (off:=1) (v:=.string (bk y.name)) (hA:=At.grp 0 0 rfl rfl) (k:=?_)))))))))
   refine A4 (j:=19) [0,0,5,0,0] (k:=C2 (ch:=[(69,false)]) (b:=b4) (off:=1) (v:=.string (bk y.name)) (hA:=At.grp 0 0 rfl rfl) (k:=A4 (j:=24) [0,5,0,0] (k:=C2 (ch:=[(74,false)]) (b:=b4) (off:=2) (v:=.string (bk y.value)) (hA:=At.grp 0 0 rfl rfl) (k:=N1 [(74,false)] Tryz.func117 (fun hc=>xplain_ y.value (by omega) _ _ hX) (A4 (j:=30) [0,5,0,0] (k:=C2 (ch:=[(80,false)]) (b:=b4) (off:=1) (v:=.string (bk y.name)) (hA:=At.grp 0 0 rfl rfl) (k:=N1 [(80,false)] Tryz.func117 (fun hc=>xplain_ y.name (by omega) _ _ hX) (A8 [0,5] [1,2,5,6,45,46,47,85] (k:=?_)))))))))
   refine A0 (B0 (b:=(((((!((bk y.space).toList==eB.toList))||((bk y.name).toList==eB.toList))||((nmX y.name:Int) != ((bk y.name).size:Int)))||((bk y.name).toList==(mB #[120,109,108,110,115]).toList))||(!(plX y.value)))||(!(plX y.name))) kr (fun hc5=>?_) (fun hc5=>?_))
   ·
    have haf:atF y=false:=by have h9:=hc5; rw [atF_eq] at h9; simpa using h9
    refine A1 (B9 (E':=[⟨4,[],.bool false⟩]) [0] [4] (k:=A0 (B8 (A5 (B3 (A5 (A5 (B3 ?_))))))))
    refine A5 (E9 2 [] (B7 [.tmp 4] [.bool false] (k:=?_)))
    exact ⟨by rw [hR,hT,I4 hk,← hy,haf]; rfl,rfl⟩
   ·
    have haf:atF y=true:=by have h9:=hc5; rw [atF_eq] at h9; simpa using h9
    refine A9 (A0 (A1 (A3 (A4 (j:=1) [0] (k:=C4 1 2 rfl rfl (A4 (j:=3) [0] (k:=GL_sliceL (ch:=[]) (a:=an) (len:=x.attrs.length) (cap:=cn) (e:=75) (sz:=3) (vl:=none) (vh:=(some (.int .i64 ((k:Nat):Int)))) (l:=0) (h:=((k:Nat):Int)) (hb:=(fun _=>by omega)) (k:=F6 89 (x:=.slice (cutA an cn 0 3) (k - 0) (cn - 0)) (y:=.slice an k cn) (by rw [cutA_z]; rfl) ?_))))))))
    refine A4 (j:=5) [0] (k:=E0 (vs:=[.slice an k cn,.func (.func 118) #[] #[pt b4]]) Tryz.func107 (xhasNm_ (x.attrs.take k) k (by rw [List.length_take]; omega) an cn S (by rw [xaV_take]; exact rd_take hra _) (by rw [List.length_take]; omega) y b4 _ _ (fun y o h=>At.cons (hS y o h))) ?_)
    rintro _ _ ⟨rfl,rfl⟩
    refine A8 [] [1,2,45,46,47,91] (k:=A0 (B0 (b:=((x.attrs.take k).any (sameN y))) kr (fun hc6=>?_) (fun hc6=>?_)))
    ·
     have hsn:(x.attrs.take k).any (sameN y)=true:=hc6
     refine A1 (B9 (E':=[⟨4,[],.bool false⟩]) [0] [4] (k:=A0 (B8 (B3 (A5 (A5 (B3 (A5 ?_))))))))
     refine E9 2 [] (B7 [.tmp 4] [.bool false] (k:=?_))
     exact ⟨by rw [hR,hT,I4 hk,← hy,haf,hsn]; rfl,rfl⟩
    ·
     have hsn:(x.attrs.take k).any (sameN y)=false:=hc6
     refine A9 (B6 (A0 (A3 (A4 (j:=1) [0] (k:=D0 92 (((k:Nat):Int)+1) (by omega) (by omega) kr (A8 [0] [1,2,45,46,47] (k:=E9 1 [1] (D2 (s':=(k+1)) [1,2,45,46,47] kr kr ⟨(by omega),(by rw [hT,I4 hk,← hy,haf,hsn]; rfl)⟩ (by omega)))))))))
  ·
   have hk:x.attrs.length≤k:=by have:=hc3; simp only [decide_eq_false_iff_not] at this; omega
   have hA:O7 [] x.attrs=true:=by rw [hT,List.drop_eq_nil_of_le hk,O7]
   refine E3 (A6 (A6 (B5 (A0 (A1 (G_p [0] [1,2,7] (k:=A0 (A1 ?_))))))))
   refine A1 (A3 (A4 (j:=1) [0] (k:=C4 0 3 rfl rfl (A8 [0,0] [1,7,94,95,96] (k:=A0 (B2 (I3 (EI:=(fun ξ:Nat × Bool=>[⟨1,[],.int .i64 d⟩,⟨7,[],.bool ξ.2⟩,⟨94,[],.slice al x.kids.length cl⟩,⟨95,[],.int .i64 ((x.kids.length:Nat):Int)⟩,⟨96,[],.int .i64 ((ξ.1:Nat):Int)⟩])) (HI:=(fun ξ:Nat × Bool=>([(b1,.cells #[.string (bk x.space),.string (bk x.name),.slice an x.attrs.length cn,.slice al x.kids.length cl,.string (bk x.text)] 55 (0,0))]::H))) (Φ:=(fun ξ:Nat × Bool=>(ξ.1≤x.kids.length)∧(Q8 (rtX m) false x.kids=Q8 (rtX m) ξ.2 (x.kids.drop ξ.1)))) (μ:=(fun ξ:Nat × Bool=>x.kids.length - ξ.1)) (s0:=(0,false)) [1,7,94,95,96] kr rfl ⟨(Nat.zero_le _),rfl⟩ ?_)))))))
   rintro ⟨k,last⟩ ⟨hkl,hT⟩
   try dsimp only at hkl hT
   refine A1 (G_p [0] [1,7,94,95,96,97] (k:=A0 (A1 (B0 (b:=decide (((k:Nat):Int)<((x.kids.length:Nat):Int))) kr (fun hc8=>?_) (fun hc8=>?_)))))
   ·
    have hk:k<x.kids.length:=by have:=hc8; simp only [decide_eq_true_eq] at this; omega
    obtain ⟨y,yan,ycn,yal,ycl,ycs,hyx,hye,hya,hyl,hyc,hycn⟩:=hrc.get hk
    have hyw:wtX y<wtX x:=by rw [hyx]; exact W3 hk
    have hpy:=M0 y
    refine A9 (A0 (A1 (B2 (A1 (A3 (E6 x.kids.length ((k:Nat):Int) 5 hrl (by exact ⟨by omega,by omega,by intro h; have h2:=congrArg List.length h; rw [hrc.len] at h2; simp only [List.length_nil] at h2; omega⟩) (G9 (ch:=[]) (a:=al) (q:=k * 5) (S:=S) (cs:=cs) (l:=[.string (bk y.space),.string (bk y.name),.slice yan y.attrs.length ycn,.slice yal y.kids.length ycl,.string (bk y.text)]) (hrd:=hrl) (hS:=(fun y o h=>At.cons ((hS y o h)))) (hl:=List.cons_ne_nil _ _) (hv:=(fun _=>(elt5 hye))) (k:=J5 (.agg zN.toArray) (fun b9=>?_)))))))))
    refine E4 0 0 (.agg #[.string (bk y.space),.string (bk y.name),.slice yan y.attrs.length ycn,.slice yal y.kids.length ycl,.string (bk y.text)]) rfl (A8 [] [1,7,9,94,95,96] (k:=A0 (A1 (A3 (A4 (j:=1) [0] (k:=C4 0 1 rfl rfl (A8 [0,0] [1,7,9,10,94,95,96] (k:=A0 ?_))))))))
    refine A1 (A1 (A3 (A4 (j:=5) [0,0,0,0,0] (k:=C2 (ch:=[(106,false),(104,true)]) (b:=b9) (off:=4) (v:=.string (bk y.text)) (hA:=At.grp 0 0 rfl rfl) (k:=A4 (j:=10) [0,5,0,0] (k:=C2 (ch:=[(111,false),(104,true)]) (b:=b9) (off:=4) (v:=.string (bk y.text)) (hA:=At.grp 0 0 rfl rfl) (k:=N1 [(111,false),(104,true)] Tryz.func117 (fun hc=>xplain_ y.text (by omega) _ _ hX) (A4 (j:=16) [0,5,0,0] (k:=?_)))))))))
    refine C2 (ch:=[(117,false),(104,true)]) (b:=b9) (off:=0) (v:=.string (bk y.space)) (hA:=At.grp 0 0 rfl rfl) (k:=A4 (j:=21) [0,5,0,0] (k:=C2 (ch:=[(122,false),(104,true)]) (b:=b9) (off:=2) (v:=.slice yan y.attrs.length ycn) (hA:=At.grp 0 0 rfl rfl) (k:=A4 (j:=24) [0,0] (k:=C2 (ch:=[(122,false),(104,true)]) (b:=b9) (off:=3) (v:=.slice yal y.kids.length ycl) (hA:=At.grp 0 0 rfl rfl) (k:=A4 (j:=34) [0,0,0,5,6,0,0,0,0] (k:=M6 (ch:=[(136,true),(133,false)]) (b:=b9) (off:=0) (l:=[.string (bk y.space),.string (bk y.name),.slice yan y.attrs.length ycn,.slice yal y.kids.length ycl,.string (bk y.text)]) (hA:=At.grp 0 0 rfl rfl) (k:=A4 (j:=37) [0,0] (k:=Q5 139 [(136,true),(133,false)] (x:=.int .i64 (IntKind.wrap .i64 (d+1))) (y:=.int .i64 (d+1)) (by rw [w64 (by omega) (by omega)]) ?_))))))))
    refine N1 [(136,true),(133,false)] Tryz.func69 (fun hc=>hrec y hyw (by omega) m hlm yan ycn yal ycl ycs hycn hya hyl hyc _ _ (fun y o h=>At.cons (At.cons ((hS y o h)))) hX) (A8 [0,6,5] [1,10,94,95,96,143] (k:=A0 (B0 (b:=(((bk y.name).toList==eB.toList)&&((((last||((bk y.text).toList==eB.toList))||(!(plX y.text)))||(!((bk y.space).toList==eB.toList)))||(decide ((IntKind.wrap .i64 (((y.attrs.length:Nat):Int)+((y.kids.length:Nat):Int))) > 0))))||((!((bk y.name).toList==eB.toList))&&(!(rtX m y)))) kr (fun hc10=>?_) (fun hc10=>?_))))
    ·
     have hkf:kidF (rtX m) last y=false:=by have h9:=hc10; rw [kidF_eq (by omega)] at h9; simpa using h9
     refine A1 (B9 (E':=[⟨4,[],.bool false⟩]) [0] [4] (k:=A0 (B8 (A5 (B3 (A5 (A5 (B3 ?_))))))))
     refine A5 (E9 2 [] (B7 [.tmp 4] [.bool false] (k:=?_)))
     exact ⟨by rw [hR,hA,hT,L9 hk,← hyx,hkf]; rfl,rfl⟩
    ·
     have hkf:kidF (rtX m) last y=true:=by have h9:=hc10; rw [kidF_eq (by omega)] at h9; simpa using h9
     refine A9 (A0 (G_p [0,0] [1,7,94,95,96] (k:=B6 (A0 (A3 (A4 (j:=1) [0] (k:=D0 145 (((k:Nat):Int)+1) (by omega) (by omega) kr (B4 (E':=[⟨1,[],.int .i64 d⟩,⟨7,[],.bool ((bk y.name).toList==eB.toList)⟩,⟨94,[],.slice al x.kids.length cl⟩,⟨95,[],.int .i64 ((x.kids.length:Nat):Int)⟩,⟨96,[],.int .i64 (((k:Nat):Int)+1)⟩]) [0] [1,7,94,95,96] (k:=?_)))))))))
     refine E9 1 [1] (D2 (s':=(k+1,((bk y.name).toList==eB.toList))) [1,7,94,95,96] kr kr ⟨(by dsimp only; omega),(by dsimp only; rw [hT,L9 hk,← hyx,hkf,bkN]; rfl)⟩ (by dsimp only; omega))
   ·
    have hk:x.kids.length≤k:=by have:=hc8; simp only [decide_eq_false_iff_not] at this; omega
    have hK:Q8 (rtX m) false x.kids=true:=by rw [hT,List.drop_eq_nil_of_le hk,Q8]
    refine E3 (A6 (A6 (B5 (A0 (A1 (B9 (E':=[⟨4,[],.bool true⟩]) [0] [4] (k:=A0 (B8 ?_))))))))
    refine E9 1 [] (B7 [.tmp 4] [.bool true] (k:=?_))
    exact ⟨by rw [hR,hA,hK]; rfl,rfl⟩
theorem xright_:∀ (n:Nat) (x:XN),wtX x≤n→wtX x≤80000→∀ (lv:Nat),lv≤24→∀ (d:Int),d=24 - (lv:Int)→∀ (an:Option Addr) (cn:Nat) (al:Option Addr) (cl:Nat) (cs:List Value) (S:Nat→Obj→Prop),x.attrs.length≤cn→Rd S an (xaV x.attrs)→Rd S al cs→XRdL S x.kids cs→∀ (W0:World) (H:List Grp),(∀ z o,S z o→At W0 H z o)→P2 W0→Tri Tryz.prog 69 #[.agg (xvC x an cn al cl).toArray,.int .i64 d] W0 H (fun v H'=>v=.bool (rtX lv x)∧H'=H)
  | 0,x,h,_,_,_,_,_,_,_,_,_,_,_,_,_,_,_,_,_,_,_=>absurd (wtX_pos x) (by omega)
  | n+1,x,h,hw,lv,hlv,d,hd,an,cn,al,cl,cs,S,h0,h1,h2,h3,W0,H,hS,hX=>xrightW_ x an cn al cl cs S h1 h2 h3 h0 lv hlv d hd hw (fun y hy hwy m hm an cn al cl cs h0 h1 h2 h3 W0 H hS hX=>xright_ n y (by omega) hwy m (by omega) (d+1) (by omega) an cn al cl cs S h0 h1 h2 h3 W0 H hS hX) W0 H hS hX
end Go.Proofs.YtppgfiklmfoaeaaGreatDoor
namespace Go.Proofs.YtppgfiklmfoaeaaGreatDoor
open Go.Sw Go.Sha Go.Esc Go.RowKit Go.Json Go.Xml
theorem rr_eq (x:XN):((((!(nmOk x.name))||(!(plX x.name)))||(!(plX x.space)))||(!((bk x.text).toList==eB.toList)))=!(nmOk x.name&&x.text==[]&&plX x.space&&plX x.name):=by
  rw [bkN]
  cases nmOk x.name <;> cases (x.text==[]) <;> cases plX x.space <;> cases plX x.name <;> rfl
theorem rr_no {d:Int} (lv:Nat) (x:XN) (hd:d=24 - (lv:Int)) (h:(((((!(nmOk x.name))||(!(plX x.name)))||(!(plX x.space)))||(!((bk x.text).toList==eB.toList)))||(d==24))=true):rtX lv x=false:=by
  rw [rr_eq x,Bool.or_eq_true] at h
  cases lv with
  | zero=>exact rtX_0 x
  | succ m =>
    rcases h with h | h
    · rw [Bool.not_eq_true'] at h; rw [rtX_s,h]; rfl
    · have:=beq_iff_eq.1 h; omega
theorem rr_yes {d:Int} (lv:Nat) (x:XN) (hd:d=24 - (lv:Int)) (h:(((((!(nmOk x.name))||(!(plX x.name)))||(!(plX x.space)))||(!((bk x.text).toList==eB.toList)))||(d==24))=false):∃ m,lv=m+1∧rtX lv x=(O7 [] x.attrs&&Q8 (rtX m) false x.kids):=by
  rw [rr_eq x,Bool.or_eq_false_iff] at h
  cases lv with
  | zero=>have:=beq_eq_false_iff_ne.1 h.2; omega
  | succ m=>exact ⟨m,rfl,by have h1:=h.1; rw [Bool.not_eq_false'] at h1; rw [rtX_s,h1]; rfl⟩
theorem atF_doc (y:XA):(((((!((bk y.space).toList==eB.toList))||(!(nmOk y.name)))||(!(plX y.name)))||((bk y.name).toList==(mB #[120,109,108,110,115]).toList))||(!(plX y.value)))=!atF y:=by
  rw [bkN,show ((bk y.name).toList==(mB #[120,109,108,110,115]).toList)=(y.name==T1) from bkB y.name T1]; unfold atF nmOk
  cases (y.space==[]) <;> cases (y.name==[]) <;> cases (nmX y.name==y.name.length) <;> cases (y.name==T1) <;> cases plX y.value <;> cases plX y.name <;> rfl
theorem kidF_el {f:XN→Bool} {last:Bool} {y:XN} (h:y.name≠[]):kidF f last y=f y:=by
  unfold kidF; rw [show (y.name==[])=false from beq_eq_false_iff_ne.2 h]; cases f y <;> rfl
theorem kidF_doc {f:XN→Bool} {last:Bool} {y:XN} (h:y.name=[]):((((((bk y.text).toList==eB.toList)||(!(plX y.text)))||(!((bk y.space).toList==eB.toList)))||(decide (((y.attrs.length:Nat):Int) > 0)))||(decide (((y.kids.length:Nat):Int) > 0))||last)=!kidF f last y:=by
  unfold kidF
  rw [bkN,bkN,h,show (([]:List UInt8)==[])=true from rfl,show decide (0<y.attrs.length+y.kids.length)=(decide (((y.attrs.length:Nat):Int) > 0)||decide (((y.kids.length:Nat):Int) > 0)) from by rw [← Bool.decide_or]; exact decide_eq_decide.2 (by omega)]
  cases (y.text==[]) <;> cases plX y.text <;> cases (y.space==[]) <;> cases decide (((y.attrs.length:Nat):Int) > 0) <;> cases decide (((y.kids.length:Nat):Int) > 0) <;> cases last <;> rfl
def lastK (l:List XN):Nat→Bool
  | 0=>false
  | k+1=>(l.getD k (.mk [] [] [] [] [])).name==[]
theorem lastK_s {l:List XN} {k:Nat} (h:k<l.length):lastK l (k+1)=(l[k].name==[]):=by
  show ((l.getD k (.mk [] [] [] [] [])).name==[])=_
  rw [List.getD_eq_getElem?_getD,List.getElem?_eq_getElem h]; rfl
theorem rrightW_ (x:XN) (an:Option Addr) (cn:Nat) (al:Option Addr) (cl:Nat) (cs:List Value) (S:Nat→Obj→Prop) (hra:Rd S an (xaV x.attrs)) (hrl:Rd S al cs) (hrc:XRdL S x.kids cs) (hcn:x.attrs.length≤cn) (lv:Nat) (hlv:lv≤24) (d:Int) (hd:d=24 - (lv:Int)) (hw:wtX x≤80000) (hrec:∀ (y:XN),wtX y<wtX x→wtX y≤80000→∀ (m:Nat),lv=m+1→∀ (an:Option Addr) (cn:Nat) (al:Option Addr) (cl:Nat) (cs:List Value),y.attrs.length≤cn→Rd S an (xaV y.attrs)→Rd S al cs→XRdL S y.kids cs→∀ (W0:World) (H:List Grp),(∀ z o,S z o→At W0 H z o)→Tri Tryz.prog 35 #[.agg (xvC y an cn al cl).toArray,.int .i64 (d+1)] W0 H (fun v H'=>v=.bool (rtX m y)∧H'=H)) (W0:World) (H:List Grp) (hS:∀ y o,S y o→At W0 H y o):Tri Tryz.prog 35 #[.agg #[.string (bk x.space),.string (bk x.name),.slice an x.attrs.length cn,.slice al x.kids.length cl,.string (bk x.text)],.int .i64 d] W0 H (fun v H'=>v=.bool (rtX lv x)∧H'=H):=by
 have hpx:=M0 x
 refine D4 143 Tryz.func35 ?_
 refine A1 (A3 (N4 (.agg #[.string (bk x.space),.string (bk x.name),.slice an x.attrs.length cn,.slice al x.kids.length cl,.string (bk x.text)]) (fun b1=>B4 (E':=[⟨1,[],.int .i64 d⟩,⟨2,[],pt b1⟩]) [0] [1,2] (k:=A0 (A1 (A1 (A3 (A4 (j:=1) [0] (k:=?_)))))))))
 refine C4 0 1 rfl rfl (F8 Tryz.func71 (rname_ (bk x.name) (by rw [C8]; omega) _ _) (A4 (j:=6) [0,0,0] (k:=C2 (ch:=[(15,false)]) (b:=b1) (off:=1) (v:=.string (bk x.name)) (hA:=At.grp 0 0 rfl rfl) (k:=N1 [(15,false)] Tryz.func72 (fun hc=>ropen_ (bk x.name) (by rw [C8]; omega) _ _) (A4 (j:=12) [0,5,0,0] (k:=C2 (ch:=[(21,false)]) (b:=b1) (off:=0) (v:=.string (bk x.space)) (hA:=At.grp 0 0 rfl rfl) (k:=N1 [(21,false)] Tryz.func72 (fun hc=>ropen_ (bk x.space) (by rw [C8]; omega) _ _) (A4 (j:=18) [0,5,0,0] (k:=?_)))))))))
 refine C2 (ch:=[(27,false)]) (b:=b1) (off:=4) (v:=.string (bk x.text)) (hA:=At.grp 0 0 rfl rfl) (k:=A8 [0,5,0,0,0,5] [1,2,35] (k:=A0 (B0 (b:=((((!(nmOk x.name))||(!(plX x.name)))||(!(plX x.space)))||(!((bk x.text).toList==eB.toList)))||(d==24)) kr (fun hc2=>?_) (fun hc2=>?_))))
 ·
  have hR:=rr_no lv x hd hc2
  refine A1 (B9 (E':=[⟨4,[],.bool false⟩]) [0] [4] (k:=A0 (B8 (A5 (E9 1 [] (B7 [.tmp 4] [.bool false] (k:=?_)))))))
  first | exact ⟨by rw [hR]; rfl,rfl⟩ | exact ⟨by rw [hR,hA,hT,L9 hk,← hyx,hkf]; rfl,rfl⟩ | exact ⟨by rw [hR,hA,hK]; rfl,rfl⟩ | exact ⟨by rw [hR,hT,I4 hk,← hy,haf]; rfl,rfl⟩ | exact ⟨by rw [hR,hT,I4 hk,← hy,haf,hany]; rfl,rfl⟩
 ·
  obtain ⟨m,hlm,hR⟩:=rr_yes lv x hd hc2
  refine A9 (A0 (A1 (A1 (A3 (A4 (j:=1) [0] (k:=C4 0 2 rfl rfl (A8 [0,0] [1,2,37,38,39] (k:=A0 ?_))))))))
  refine B2 (I3 (EI:=(fun ξ:Nat=>[⟨1,[],.int .i64 d⟩,⟨2,[],pt b1⟩,⟨37,[],.slice an x.attrs.length cn⟩,⟨38,[],.int .i64 ((x.attrs.length:Nat):Int)⟩,⟨39,[],.int .i64 ((ξ:Nat):Int)⟩])) (HI:=(fun ξ:Nat=>([(b1,.cells #[.string (bk x.space),.string (bk x.name),.slice an x.attrs.length cn,.slice al x.kids.length cl,.string (bk x.text)] 55 (0,0))]::H))) (Φ:=(fun ξ:Nat=>(ξ≤x.attrs.length)∧(O7 [] x.attrs=O7 (x.attrs.take ξ) (x.attrs.drop ξ)))) (μ:=(fun ξ:Nat=>x.attrs.length - ξ)) (s0:=(0)) [1,2,37,38,39] kr rfl ⟨(Nat.zero_le _),rfl⟩ ?_)
  rintro k ⟨hkl,hT⟩
  try dsimp only at hkl hT
  refine A1 (G_p [0] [1,2,37,38,39,40] (k:=A0 (A1 (B0 (b:=decide (((k:Nat):Int)<((x.attrs.length:Nat):Int))) kr (fun hc3=>?_) (fun hc3=>?_)))))
  ·
   have hk:k<x.attrs.length:=by have:=hc3; simp only [decide_eq_true_eq] at this; omega
   refine A9 (A0 (A1 (B2 (A1 (A3 (A4 (j:=1) [0] (k:=E6 x.attrs.length ((k:Nat):Int) 3 hra (by exact ⟨by omega,by omega,by intro h; have h2:=congrArg List.length h; rw [Q6] at h2; simp only [List.length_nil] at h2; omega⟩) ?_)))))))
   obtain ⟨y,hy⟩:∃ y,y=x.attrs[k]'hk:=⟨_,rfl⟩
   have hyz:=wtA_at hk
   rw [← hy] at hyz
   refine G9 (ch:=[]) (a:=an) (q:=k * 3) (S:=S) (cs:=(xaV x.attrs)) (l:=[.string (bk y.space),.string (bk y.name),.string (bk y.value)]) (hrd:=hra) (hS:=(fun y o h=>At.cons ((hS y o h)))) (hl:=List.cons_ne_nil _ _) (hv:=(fun _=>(elt3 (by rw [hy]; exact W7 hk)))) (k:=J5 (.agg #[.string eB,.string eB,.string eB]) (fun b4=>A4 (j:=5) [0] (k:=E4 0 0 (.agg #[.string (bk y.space),.string (bk y.name),.string (bk y.value)]) rfl (A8 [] [1,2,5,6,37,38,39] (k:=A0 (A1 (A1 (A3 ?_))))))))
   refine A4 (j:=1) [0] (k:=C4 0 0 rfl rfl (A4 (j:=5) [0,0,0] (k:=C2 (ch:=[(47,false)]) (b:=b4) (off:=1) (v:=.string (bk y.name)) (hA:=At.grp 0 0 rfl rfl) (k:=N1 [(47,false)] Tryz.func71 (fun hc=>rname_ (bk y.name) (by rw [C8]; omega) _ _) (A4 (j:=11) [0,5,0,0] (k:=C2 (ch:=[(53,false)]) (b:=b4) (off:=1) (v:=.string (bk y.name)) (hA:=At.grp 0 0 rfl rfl) (k:=N1 [(53,false)] Tryz.func72 (fun hc=>ropen_ (bk y.name) (by rw [C8]; omega) _ _) (A4 (j:=17) [0,5,0,0] (k:=?_)))))))))
   refine C2 (ch:=[(59,false)]) (b:=b4) (off:=1) (v:=.string (bk y.name)) (hA:=At.grp 0 0 rfl rfl) (k:=A4 (j:=22) [0,5,0,0] (k:=C2 (ch:=[(64,false)]) (b:=b4) (off:=2) (v:=.string (bk y.value)) (hA:=At.grp 0 0 rfl rfl) (k:=N1 [(64,false)] Tryz.func72 (fun hc=>ropen_ (bk y.value) (by rw [C8]; omega) _ _) (A8 [0,5] [1,2,5,6,37,38,39,69] (k:=A0 (B0 (b:=((((!((bk y.space).toList==eB.toList))||(!(nmOk y.name)))||(!(plX y.name)))||((bk y.name).toList==(mB #[120,109,108,110,115]).toList))||(!(plX y.value))) kr (fun hc5=>?_) (fun hc5=>?_)))))))
   ·
    have haf:atF y=false:=by have h9:=hc5; rw [atF_doc] at h9; simpa using h9
    refine A1 (B9 (E':=[⟨4,[],.bool false⟩]) [0] [4] (k:=A0 (B8 (A5 (B3 (A5 (A5 (B3 ?_))))))))
    refine A5 (E9 2 [] (B7 [.tmp 4] [.bool false] (k:=?_)))
    first | exact ⟨by rw [hR]; rfl,rfl⟩ | exact ⟨by rw [hR,hA,hT,L9 hk,← hyx,hkf]; rfl,rfl⟩ | exact ⟨by rw [hR,hA,hK]; rfl,rfl⟩ | exact ⟨by rw [hR,hT,I4 hk,← hy,haf]; rfl,rfl⟩ | exact ⟨by rw [hR,hT,I4 hk,← hy,haf,hany]; rfl,rfl⟩
   ·
    have haf:atF y=true:=by have h9:=hc5; rw [atF_doc] at h9; simpa using h9
    refine A9 (A0 (A1 (A3 (A4 (j:=1) [0] (k:=C4 1 2 rfl rfl (A4 (j:=3) [0] (k:=GL_sliceL (ch:=[]) (a:=an) (len:=x.attrs.length) (cap:=cn) (e:=75) (sz:=3) (vl:=none) (vh:=(some (.int .i64 ((k:Nat):Int)))) (l:=0) (h:=((k:Nat):Int)) (hb:=(by (try intro _); (repeat' apply And.intro) <;> omega)) (k:=F6 73 (x:=.slice (cutA an cn 0 3) (k - 0) (cn - 0)) (y:=.slice an k cn) (by rw [cutA_z]; rfl) ?_))))))))
    refine A8 [0,0] [1,2,6,37,38,39,73,74,75] (k:=A0 (B2 (I3 (EI:=(fun ξ:Nat=>[⟨1,[],.int .i64 d⟩,⟨2,[],pt b1⟩,⟨6,[],pt b4⟩,⟨37,[],.slice an x.attrs.length cn⟩,⟨38,[],.int .i64 ((x.attrs.length:Nat):Int)⟩,⟨39,[],.int .i64 ((k:Nat):Int)⟩,⟨73,[],.slice an k cn⟩,⟨74,[],.int .i64 ((k:Nat):Int)⟩,⟨75,[],.int .i64 ((ξ:Nat):Int)⟩])) (HI:=(fun ξ:Nat=>([(b4,.cells #[.string (bk y.space),.string (bk y.name),.string (bk y.value)] 75 (0,0))]::[(b1,.cells #[.string (bk x.space),.string (bk x.name),.slice an x.attrs.length cn,.slice al x.kids.length cl,.string (bk x.text)] 55 (0,0))]::H))) (Φ:=(fun ξ:Nat=>(ξ≤k)∧((x.attrs.take ξ).any (sameN y)=false))) (μ:=(fun ξ:Nat=>k - ξ)) (s0:=(0)) [1,2,6,37,38,39,73,74,75] kr kr ⟨(Nat.zero_le _),rfl⟩ ?_)))
    rintro j ⟨hjl,hno⟩
    try dsimp only at hjl hno
    refine A1 (G_p [0] [1,2,6,37,38,39,73,74,75,76] (k:=A0 (A1 (B0 (b:=decide (((j:Nat):Int)<((k:Nat):Int))) kr (fun hc6=>?_) (fun hc6=>?_)))))
    ·
     have hj2:j<x.attrs.length:=by have:=hc6; simp only [decide_eq_true_eq] at this; omega
     have hjk:j<k:=by have:=hc6; simp only [decide_eq_true_eq] at this; omega
     refine A9 (A0 (A1 (B2 (A1 (A3 (E6 k ((j:Nat):Int) 3 hra (by exact ⟨by omega,by omega,by intro h; have h2:=congrArg List.length h; rw [Q6] at h2; simp only [List.length_nil] at h2; omega⟩) ?_))))))
     obtain ⟨z,hz⟩:∃ z,z=x.attrs[j]'hj2:=⟨_,rfl⟩
     refine G9 (ch:=[]) (a:=an) (q:=j * 3) (S:=S) (cs:=(xaV x.attrs)) (l:=[.string (bk z.space),.string (bk z.name),.string (bk z.value)]) (hrd:=hra) (hS:=(fun y o h=>At.cons (At.cons ((hS y o h))))) (hl:=List.cons_ne_nil _ _) (hv:=(fun _=>(elt3 (by rw [hz]; exact W7 hj2)))) (k:=J5 (.agg #[.string eB,.string eB,.string eB]) (fun b7=>E4 0 0 (.agg #[.string (bk z.space),.string (bk z.name),.string (bk z.value)]) rfl (A8 [] [1,2,6,8,37,38,39,73,74,75] (k:=A0 (A1 (A3 (A4 (j:=1) [0] (k:=C4 1 1 rfl rfl ?_))))))))
     refine A4 (j:=3) [0] (k:=C4 0 1 rfl rfl (A8 [0] [1,2,6,37,38,39,73,74,75,83] (k:=A0 (B0 (b:=(bk y.name).toList==(bk z.name).toList) kr (fun hc8=>?_) (fun hc8=>?_)))))
     ·
      have hsm:sameN y z=true:=by have h9:=hc8; rw [bkB] at h9; exact h9
      have hj4:=List.length_take (i:=k) (l:=x.attrs)
      have hj3:j<(x.attrs.take k).length:=by omega
      have hany:(x.attrs.take k).any (sameN y)=true:=List.any_eq_true.2 ⟨z,by rw [hz]; exact List.mem_iff_getElem.2 ⟨j,hj3,List.getElem_take⟩,hsm⟩
      refine A1 (B9 (E':=[⟨4,[],.bool false⟩]) [0] [4] (k:=A0 (B8 (B3 (A5 (A5 (B3 (B3 ?_))))))))
      refine A5 (A5 (B3 (A5 (E9 3 [] (B7 [.tmp 4] [.bool false] (k:=?_))))))
      first | exact ⟨by rw [hR]; rfl,rfl⟩ | exact ⟨by rw [hR,hA,hT,L9 hk,← hyx,hkf]; rfl,rfl⟩ | exact ⟨by rw [hR,hA,hK]; rfl,rfl⟩ | exact ⟨by rw [hR,hT,I4 hk,← hy,haf]; rfl,rfl⟩ | exact ⟨by rw [hR,hT,I4 hk,← hy,haf,hany]; rfl,rfl⟩
     ·
      have hsm:sameN y z=false:=by have h9:=hc8; rw [bkB] at h9; exact h9
      refine A9 (B6 (A0 (A3 (A4 (j:=1) [0] (k:=D0 84 (((j:Nat):Int)+1) (by omega) (by omega) kr (A8 [0] [1,2,6,37,38,39,73,74,75] (k:=E9 1 [1,1] (D2 (s':=(j+1)) [1,2,6,37,38,39,73,74,75] kr kr ⟨(by omega),(by rw [anyN_take hj2,hno,← hz,hsm]; rfl)⟩ (by omega)))))))))
    ·
     have hjk:j=k:=by have:=hc6; simp only [decide_eq_false_iff_not] at this; omega
     rw [hjk] at hno
     refine E3 (A6 (A6 (B5 (B6 (A0 (A3 (A4 (j:=1) [0] (k:=D0 85 (((k:Nat):Int)+1) (by omega) (by omega) kr ?_))))))))
     refine A8 [0] [1,2,37,38,39] (k:=E9 1 [1] (D2 (s':=(k+1)) [1,2,37,38,39] kr kr ⟨(by omega),(by rw [hT,I4 hk,← hy,haf,hno]; rfl)⟩ (by omega)))
  ·
   have hk:x.attrs.length≤k:=by have:=hc3; simp only [decide_eq_false_iff_not] at this; omega
   have hA:O7 [] x.attrs=true:=by rw [hT,List.drop_eq_nil_of_le hk,O7]
   refine E3 (A6 (A6 (B5 (A0 (A1 (A1 (A3 (A4 (j:=1) [0] (k:=?_)))))))))
   refine C4 0 3 rfl rfl (A8 [0,0] [1,2,87,88,89] (k:=A0 (B2 (I3 (EI:=(fun ξ:Nat=>[⟨1,[],.int .i64 d⟩,⟨2,[],pt b1⟩,⟨87,[],.slice al x.kids.length cl⟩,⟨88,[],.int .i64 ((x.kids.length:Nat):Int)⟩,⟨89,[],.int .i64 ((ξ:Nat):Int)⟩])) (HI:=(fun ξ:Nat=>([(b1,.cells #[.string (bk x.space),.string (bk x.name),.slice an x.attrs.length cn,.slice al x.kids.length cl,.string (bk x.text)] 55 (0,0))]::H))) (Φ:=(fun ξ:Nat=>(ξ≤x.kids.length)∧(Q8 (rtX m) false x.kids=Q8 (rtX m) (lastK x.kids ξ) (x.kids.drop ξ)))) (μ:=(fun ξ:Nat=>x.kids.length - ξ)) (s0:=(0)) [1,2,87,88,89] kr rfl ⟨(Nat.zero_le _),rfl⟩ ?_))))
   rintro k ⟨hkl,hT⟩
   try dsimp only at hkl hT
   refine A1 (G_p [0] [1,2,87,88,89,90] (k:=A0 (A1 (B0 (b:=decide (((k:Nat):Int)<((x.kids.length:Nat):Int))) kr (fun hc11=>?_) (fun hc11=>?_)))))
   ·
    have hk:k<x.kids.length:=by have:=hc11; simp only [decide_eq_true_eq] at this; omega
    obtain ⟨y,yan,ycn,yal,ycl,ycs,hyx,hye,hya,hyl,hyc,hycn⟩:=hrc.get hk
    have hyw:wtX y<wtX x:=by rw [hyx]; exact W3 hk
    have hpy:=M0 y
    refine A9 (A0 (A1 (B2 (A1 (A3 (A4 (j:=1) [0] (k:=E6 x.kids.length ((k:Nat):Int) 5 hrl (by exact ⟨by omega,by omega,by intro h; have h2:=congrArg List.length h; rw [hrc.len] at h2; simp only [List.length_nil] at h2; omega⟩) (G9 (ch:=[]) (a:=al) (q:=k * 5) (S:=S) (cs:=cs) (l:=[.string (bk y.space),.string (bk y.name),.slice yan y.attrs.length ycn,.slice yal y.kids.length ycl,.string (bk y.text)]) (hrd:=hrl) (hS:=(fun y o h=>At.cons ((hS y o h)))) (hl:=List.cons_ne_nil _ _) (hv:=(fun _=>(elt5 hye))) (k:=?_)))))))))
    refine J5 (.agg zN.toArray) (fun b12=>A4 (j:=5) [0] (k:=E4 0 0 (.agg #[.string (bk y.space),.string (bk y.name),.slice yan y.attrs.length ycn,.slice yal y.kids.length ycl,.string (bk y.text)]) rfl (A8 [] [1,2,9,10,87,88,89] (k:=A0 (A1 (A1 (A3 (A4 (j:=1) [0] (k:=?_)))))))))
    refine C4 0 1 rfl rfl (A8 [0] [1,2,9,10,87,88,89,96] (k:=A0 (B0 (b:=!((bk y.name).toList==eB.toList)) kr (fun hc13=>?_) (fun hc13=>?_))))
    ·
     have hyn:y.name≠[]:=by simpa using hc13
     refine A1 (A1 (A3 (I7 0 0 5 rfl (A4 (j:=3) [0,0] (k:=D0 99 (d+1) (by omega) (by omega) kr (F8 Tryz.func35 (hrec y hyw (by omega) m hlm yan ycn yal ycl ycs hycn hya hyl hyc _ _ (fun y o h=>At.cons (At.cons ((hS y o h))))) (A8 [0] [1,2,87,88,89,101] (k:=A0 ?_))))))))
     refine B0 (b:=!(rtX m y)) kr (fun hc15=>?_) (fun hc15=>?_)
     ·
      have hkf:kidF (rtX m) (lastK x.kids k) y=false:=by rw [kidF_el hyn]; simpa using hc15
      refine A1 (B9 (E':=[⟨4,[],.bool false⟩]) [0] [4] (k:=A0 (B8 (A5 (A5 (B3 (A5 (A5 ?_))))))))
      refine B3 (A5 (E9 2 [] (B7 [.tmp 4] [.bool false] (k:=?_))))
      first | exact ⟨by rw [hR]; rfl,rfl⟩ | exact ⟨by rw [hR,hA,hT,L9 hk,← hyx,hkf]; rfl,rfl⟩ | exact ⟨by rw [hR,hA,hK]; rfl,rfl⟩ | exact ⟨by rw [hR,hT,I4 hk,← hy,haf]; rfl,rfl⟩ | exact ⟨by rw [hR,hT,I4 hk,← hy,haf,hany]; rfl,rfl⟩
     ·
      have hkf:kidF (rtX m) (lastK x.kids k) y=true:=by rw [kidF_el hyn]; simpa using hc15
      refine A9 (A0 (E3 (A6 (B5 (A0 (A3 (A4 (j:=1) [0] (k:=D0 142 (((k:Nat):Int)+1) (by omega) (by omega) kr ?_))))))))
      refine A8 [0] [1,2,87,88,89] (k:=E9 1 [1] (D2 (s':=(k+1)) [1,2,87,88,89] kr kr ⟨(by omega),(by rw [hT,L9 hk,← hyx,hkf,lastK_s hk,← hyx]; rfl)⟩ (by omega)))
    ·
     have hyn:y.name=[]:=by simpa using hc13
     refine A9 (A0 (A1 ?_))
     rcases Nat.eq_zero_or_pos k with hk0 | hk0
     ·
      have hla:lastK x.kids k=false:=by rw [hk0]; rfl
      refine A3 (A4 (j:=1) [0] (k:=C4 0 4 rfl rfl (A4 (j:=5) [0,0,0] (k:=C2 (ch:=[(105,false)]) (b:=b12) (off:=4) (v:=.string (bk y.text)) (hA:=At.grp 0 0 rfl rfl) (k:=N1 [(105,false)] Tryz.func72 (fun hc=>ropen_ (bk y.text) (by rw [C8]; omega) _ _) (A4 (j:=11) [0,5,0,0] (k:=C2 (ch:=[(111,false)]) (b:=b12) (off:=0) (v:=.string (bk y.space)) (hA:=At.grp 0 0 rfl rfl) (k:=A4 (j:=16) [0,5,0,0] (k:=?_)))))))))
      refine C2 (ch:=[(116,false)]) (b:=b12) (off:=2) (v:=.slice yan y.attrs.length ycn) (hA:=At.grp 0 0 rfl rfl) (k:=A4 (j:=22) [0,0,5,0,0] (k:=C2 (ch:=[(122,false)]) (b:=b12) (off:=3) (v:=.slice yal y.kids.length ycl) (hA:=At.grp 0 0 rfl rfl) (k:=A4 (j:=29) [0,0,5,0,0,0] (k:=Q5 130 [(128,false)] (x:=.bool (decide (((k:Nat):Int) > 0))) (y:=.bool false) (by rw [show decide (((k:Nat):Int) > 0)=false from decide_eq_false (by omega)]) (A8 [0,1,1,1,1,1,1,1,1,3,5] [1,2,87,88,89,141] (k:=A0 (B0 (b:=((((((bk y.text).toList==eB.toList)||(!(plX y.text)))||(!((bk y.space).toList==eB.toList)))||(decide (((y.attrs.length:Nat):Int) > 0)))||(decide (((y.kids.length:Nat):Int) > 0)))||false) kr (fun hc17=>?_) (fun hc17=>?_))))))))
      ·
       have hkf:kidF (rtX m) (lastK x.kids k) y=false:=by
        have h8:=kidF_doc (f:=rtX m) (last:=lastK x.kids k) hyn
        have h9:=hc17
        (try rw [bkN u.name] at h9)
        rw [hla] at h8 ⊢
        first | (rw [h8] at h9; simpa using h9) | (rw [← Bool.not_eq_true',← h8]; simpa using h9) | (rw [← Bool.not_eq_false',← h8]; simpa using h9)
       refine A1 (B9 (E':=[⟨4,[],.bool false⟩]) [0] [4] (k:=A0 (B8 (B3 (A5 (A5 (B3 (A5 ?_))))))))
       refine E9 2 [] (B7 [.tmp 4] [.bool false] (k:=?_))
       first | exact ⟨by rw [hR]; rfl,rfl⟩ | exact ⟨by rw [hR,hA,hT,L9 hk,← hyx,hkf]; rfl,rfl⟩ | exact ⟨by rw [hR,hA,hK]; rfl,rfl⟩ | exact ⟨by rw [hR,hT,I4 hk,← hy,haf]; rfl,rfl⟩ | exact ⟨by rw [hR,hT,I4 hk,← hy,haf,hany]; rfl,rfl⟩
      ·
       have hkf:kidF (rtX m) (lastK x.kids k) y=true:=by
        have h8:=kidF_doc (f:=rtX m) (last:=lastK x.kids k) hyn
        have h9:=hc17
        (try rw [bkN u.name] at h9)
        rw [hla] at h8 ⊢
        first | (rw [h8] at h9; simpa using h9) | (rw [← Bool.not_eq_true',← h8]; simpa using h9) | (rw [← Bool.not_eq_false',← h8]; simpa using h9)
       refine A9 (B6 (A0 (A3 (A4 (j:=1) [0] (k:=D0 142 (((k:Nat):Int)+1) (by omega) (by omega) kr (A8 [0] [1,2,87,88,89] (k:=E9 1 [1] (D2 (s':=(k+1)) [1,2,87,88,89] kr kr ⟨(by omega),(by rw [hT,L9 hk,← hyx,hkf,lastK_s hk,← hyx]; rfl)⟩ (by omega)))))))))
     ·
      obtain ⟨k1,hk1⟩:∃ k1,k=k1+1:=⟨k - 1,by omega⟩
      have hk2:k1<x.kids.length:=by omega
      obtain ⟨u,uan,ucn,ual,ucl,ucs,hux,hue,hua,hul,huc,hucn⟩:=hrc.get hk2
      have hla:lastK x.kids k=(u.name==[]):=by rw [hk1,lastK_s hk2,← hux]
      refine A3 (A4 (j:=1) [0] (k:=C4 0 4 rfl rfl (A4 (j:=5) [0,0,0] (k:=C2 (ch:=[(105,false)]) (b:=b12) (off:=4) (v:=.string (bk y.text)) (hA:=At.grp 0 0 rfl rfl) (k:=N1 [(105,false)] Tryz.func72 (fun hc=>ropen_ (bk y.text) (by rw [C8]; omega) _ _) (A4 (j:=11) [0,5,0,0] (k:=C2 (ch:=[(111,false)]) (b:=b12) (off:=0) (v:=.string (bk y.space)) (hA:=At.grp 0 0 rfl rfl) (k:=A4 (j:=16) [0,5,0,0] (k:=?_)))))))))
      refine C2 (ch:=[(116,false)]) (b:=b12) (off:=2) (v:=.slice yan y.attrs.length ycn) (hA:=At.grp 0 0 rfl rfl) (k:=A4 (j:=22) [0,0,5,0,0] (k:=C2 (ch:=[(122,false)]) (b:=b12) (off:=3) (v:=.slice yal y.kids.length ycl) (hA:=At.grp 0 0 rfl rfl) (k:=A4 (j:=29) [0,0,5,0,0,0] (k:=Q5 130 [(128,false)] (x:=.bool (decide (((k:Nat):Int) > 0))) (y:=.bool true) (by rw [show decide (((k:Nat):Int) > 0)=true from decide_eq_true (by omega)]) (A4 (j:=31) [0,0] (k:=C2 (ch:=[(131,true),(128,false)]) (b:=b1) (off:=3) (v:=.slice al x.kids.length cl) (hA:=At.grp 1 0 rfl rfl) (k:=?_)))))))
      have hw19:IntKind.wrap .i64 (((k:Nat):Int) - 1)=((k:Nat):Int) - 1:=w64 (by omega) (by omega)
      refine A4 (j:=34) [0,0] (k:=Q5 135 [(131,true),(128,false)] (x:=.int .i64 (IntKind.wrap .i64 (((k:Nat):Int) - 1))) (y:=.int .i64 (((k:Nat):Int) - 1)) (by simp only [hw19]) (Q5 135 [(131,true),(128,false)] (x:=.int .i64 (((k:Nat):Int) - 1)) (y:=.int .i64 ((k1:Nat):Int)) (by rw [show (((k:Nat):Int) - 1)=((k1:Nat):Int) by omega]) (J0 (ch:=[(131,true),(128,false)]) (a:=al) (len:=x.kids.length) (cap:=cl) (kd:=.i64) (j:=((k1:Nat):Int)) (e:=55) (sz:=5) (S:=S) (cs:=cs) (hrd:=hrl) (hb:=(fun hc=>by exact ⟨by omega,by omega,by intro h; have h2:=congrArg List.length h; rw [hrc.len] at h2; simp only [List.length_nil] at h2; omega⟩)) (k:=?_))))
      have hw20:Addr.add (eltA al (k1 * 5)) 1=eltA al (k1 * 5+1):=eltA_add _ _ _
      refine A4 (j:=36) [0] (k:=Q5 137 [(131,true),(128,false)] (x:=.pointer (some (Addr.add (eltA al (k1 * 5)) 1))) (y:=.pointer (some (eltA al (k1 * 5+1)))) (by simp only [hw20]) (GL_loadS (i:=36) (ch:=[(131,true),(128,false)]) (a:=al) (q:=k1 * 5+1) (S:=S) (cs:=cs) (v:=.string (bk u.name)) rfl rfl kr kr kr kr kr hrl (fun y o h=>At.cons (At.cons ((hS y o h)))) (fun hc=>(by have h9:=elt5 hue 1 (by show 1<5; omega); exact h9)) (A8 [0,2,5] [1,2,87,88,89,141] (k:=A0 (B0 (b:=((((((bk y.text).toList==eB.toList)||(!(plX y.text)))||(!((bk y.space).toList==eB.toList)))||(decide (((y.attrs.length:Nat):Int) > 0)))||(decide (((y.kids.length:Nat):Int) > 0)))||((bk u.name).toList==eB.toList)) kr (fun hc21=>?_) (fun hc21=>?_))))))
      ·
       have hkf:kidF (rtX m) (lastK x.kids k) y=false:=by
        have h8:=kidF_doc (f:=rtX m) (last:=lastK x.kids k) hyn
        have h9:=hc21
        (try rw [bkN u.name] at h9)
        rw [hla] at h8 ⊢
        first | (rw [h8] at h9; simpa using h9) | (rw [← Bool.not_eq_true',← h8]; simpa using h9) | (rw [← Bool.not_eq_false',← h8]; simpa using h9)
       refine A1 (B9 (E':=[⟨4,[],.bool false⟩]) [0] [4] (k:=A0 (B8 (B3 (A5 (A5 (B3 (A5 ?_))))))))
       refine E9 2 [] (B7 [.tmp 4] [.bool false] (k:=?_))
       first | exact ⟨by rw [hR]; rfl,rfl⟩ | exact ⟨by rw [hR,hA,hT,L9 hk,← hyx,hkf]; rfl,rfl⟩ | exact ⟨by rw [hR,hA,hK]; rfl,rfl⟩ | exact ⟨by rw [hR,hT,I4 hk,← hy,haf]; rfl,rfl⟩ | exact ⟨by rw [hR,hT,I4 hk,← hy,haf,hany]; rfl,rfl⟩
      ·
       have hkf:kidF (rtX m) (lastK x.kids k) y=true:=by
        have h8:=kidF_doc (f:=rtX m) (last:=lastK x.kids k) hyn
        have h9:=hc21
        (try rw [bkN u.name] at h9)
        rw [hla] at h8 ⊢
        first | (rw [h8] at h9; simpa using h9) | (rw [← Bool.not_eq_true',← h8]; simpa using h9) | (rw [← Bool.not_eq_false',← h8]; simpa using h9)
       refine A9 (B6 (A0 (A3 (A4 (j:=1) [0] (k:=D0 142 (((k:Nat):Int)+1) (by omega) (by omega) kr (A8 [0] [1,2,87,88,89] (k:=E9 1 [1] (D2 (s':=(k+1)) [1,2,87,88,89] kr kr ⟨(by omega),(by rw [hT,L9 hk,← hyx,hkf,lastK_s hk,← hyx]; rfl)⟩ (by omega)))))))))
   ·
    have hk:x.kids.length≤k:=by have:=hc11; simp only [decide_eq_false_iff_not] at this; omega
    have hK:Q8 (rtX m) false x.kids=true:=by rw [hT,List.drop_eq_nil_of_le hk,Q8]
    refine E3 (A6 (A6 (B5 (A0 (A1 (B9 (E':=[⟨4,[],.bool true⟩]) [0] [4] (k:=A0 (B8 ?_))))))))
    refine E9 1 [] (B7 [.tmp 4] [.bool true] (k:=?_))
    first | exact ⟨by rw [hR]; rfl,rfl⟩ | exact ⟨by rw [hR,hA,hT,L9 hk,← hyx,hkf]; rfl,rfl⟩ | exact ⟨by rw [hR,hA,hK]; rfl,rfl⟩ | exact ⟨by rw [hR,hT,I4 hk,← hy,haf]; rfl,rfl⟩ | exact ⟨by rw [hR,hT,I4 hk,← hy,haf,hany]; rfl,rfl⟩
theorem rright_:∀ (n:Nat) (x:XN),wtX x≤n→wtX x≤80000→∀ (lv:Nat),lv≤24→∀ (d:Int),d=24 - (lv:Int)→∀ (an:Option Addr) (cn:Nat) (al:Option Addr) (cl:Nat) (cs:List Value) (S:Nat→Obj→Prop),x.attrs.length≤cn→Rd S an (xaV x.attrs)→Rd S al cs→XRdL S x.kids cs→∀ (W0:World) (H:List Grp),(∀ z o,S z o→At W0 H z o)→Tri Tryz.prog 35 #[.agg (xvC x an cn al cl).toArray,.int .i64 d] W0 H (fun v H'=>v=.bool (rtX lv x)∧H'=H)
  | 0,x,h,_,_,_,_,_,_,_,_,_,_,_,_,_,_,_,_,_,_=>absurd (wtX_pos x) (by omega)
  | n+1,x,h,hw,lv,hlv,d,hd,an,cn,al,cl,cs,S,h0,h1,h2,h3,W0,H,hS=>rrightW_ x an cn al cl cs S h1 h2 h3 h0 lv hlv d hd hw (fun y hy hwy m hm an cn al cl cs h0 h1 h2 h3 W0 H hS=>rright_ n y (by omega) hwy m (by omega) (d+1) (by omega) an cn al cl cs S h0 h1 h2 h3 W0 H hS) W0 H hS
end Go.Proofs.YtppgfiklmfoaeaaGreatDoor
namespace Go.Proofs.YtppgfiklmfoaeaaGreatDoor
open Go.Sw Go.Sha Go.Esc Go.RowKit Go.Json Go.Xml
theorem bkoX (l:List UInt8) (t:ByteArray):(t++bk l).data.toList=t.data.toList++l:=F9 _ _
theorem bkX (l:List UInt8):(bk l).data.toList=l:=rfl
theorem ba_extX {s t:ByteArray} (h:s.data.toList=t.data.toList):s=t:=ByteArray.ext (Array.ext' h)
theorem X4 (t:ByteArray):t.data.toList.length=t.size:=Array.length_toList
theorem sz2X (a b:UInt8):(⟨#[a,b]⟩:ByteArray).size=2:=rfl
theorem sz7X (a b c d e f g:UInt8):(⟨#[a,b,c,d,e,f,g]⟩:ByteArray).size=7:=rfl
theorem xwriteW_ (x:XN) (an:Option Addr) (cn:Nat) (al:Option Addr) (cl:Nat) (cs:List Value) (S:Nat→Obj→Prop) (hra:Rd S an (xaV x.attrs)) (hrl:Rd S al cs) (hrc:XRdL S x.kids cs) (sp:List UInt8) (hw:wtX x≤80000) (b:Nat) (p v:Value) (g:Grp) (t0:ByteArray) (hp:Bld b p) (hv:BOwn v g t0) (hs:t0.size+150 * wtX x≤10000000000) (hrec:∀ (y:XN),wtX y<wtX x→wtX y≤80000→∀ (sp:List UInt8) (an:Option Addr) (cn:Nat) (al:Option Addr) (cl:Nat) (cs:List Value),Rd S an (xaV y.attrs)→Rd S al cs→XRdL S y.kids cs→∀ (b:Nat) (p v:Value) (g:Grp) (t:ByteArray) (_:Bld b p) (_:BOwn v g t) (_:t.size+150 * wtX y≤10000000000) (W0:World) (H:List Grp),(∀ z o,S z o→At W0 H z o)→Tri Tryz.prog 70 #[pt b,.agg (xvC y an cn al cl).toArray,.string (bk sp)] W0 (bldG b p v::g::H) (fun _ H'=>∃ v' g',BOwn v' g' (t++bk (prX sp y))∧H'=bldG b (.pointer (some ⟨b,0,none⟩)) v'::g'::H)) (W0:World) (H:List Grp) (hS:∀ y o,S y o→At W0 H y o):Tri Tryz.prog 70 #[pt b,.agg #[.string (bk x.space),.string (bk x.name),.slice an x.attrs.length cn,.slice al x.kids.length cl,.string (bk x.text)],.string (bk sp)] W0 ([(b,.cells #[p,v] 87 (0,0))]::g::H) (fun _ H'=>∃ v' g',BOwn v' g' (t0++bk (prX sp x))∧H'=bldG b (.pointer (some ⟨b,0,none⟩)) v'::g'::H):=by
 have hpx:=M0 x
 have hsx:=wtX_sum x
 have hqs:=quoX_len x.space
 have hht:=html_len x.text
 refine D4 78 Tryz.func70 ?_
 refine A1 (A3 (N4 (.agg #[.string (bk x.space),.string (bk x.name),.slice an x.attrs.length cn,.slice al x.kids.length cl,.string (bk x.text)]) (fun b1=>A8 [] [0,2,4] (k:=A0 (A1 (A1 (A3 (A4 (j:=1) [0] (k:=?_)))))))))
 refine C4 0 1 rfl rfl (A8 [0] [0,2,4,12] (k:=A0 (B0 (b:=(bk x.name).toList==eB.toList) kr (fun hc2=>?_) (fun hc2=>?_))))
 ·
  have hn:x.name=[]:=(eqB _ _).1 hc2
  refine A1 (A3 (A4 (j:=2) [0,0] (k:=C4 0 4 rfl rfl (F8 Tryz.func119 (html_ (bk x.text) (by rw [C8]; omega) _ _) (O0 0 [1,1] (E0 Tryz.func90 (N2 b (p) (v) g t0 (bk (G0 x.text)) hp hv (by (try simp only [C8]); omega) _ _) ?_))))))
  rintro _ _ ⟨v3,g4,hB5,rfl⟩
  refine B4 (E':=[]) [] [] (k:=A0 (B8 (A5 (E9 1 [0,0] (B7 [] [] (k:=?_))))))
  exact ⟨_,_,(by rw [prX_text hn]; exact hB5),rfl⟩
 ·
  have hn:x.name≠[]:=(eqBf _ _).1 hc2
  refine A9 (A0 (A1 (A3 (A4 (j:=2) [0,0] (k:=C4 0 1 rfl rfl (K5 (mB #[60]) (bk x.name) (by intro _; simp only [C8,List.length_cons,List.length_nil]; omega) (O0 0 [1,1] (E0 Tryz.func90 (N2 b (p) (v) g t0 ((mB #[60])++(bk x.name)) hp hv (by (try simp only [H9,C8,List.length_cons,List.length_nil]); omega) _ _) ?_))))))))
  rintro _ _ ⟨v6,g7,hB8,rfl⟩
  refine A8 [] [0,2,4] (k:=A0 (A1 (A1 (A3 (A4 (j:=1) [0] (k:=C4 2 0 rfl rfl (A8 [0,0] [0,4,26] (k:=A0 ?_))))))))
  refine S0 (T:=Value × Value × Grp × ByteArray) (fun ξ:Value × Value × Grp × ByteArray=>[⟨0,[],pt b⟩,⟨4,[],pt b1⟩]) (fun ξ:Value × Value × Grp × ByteArray=>([(b,.cells #[ξ.1,ξ.2.1] 87 (0,0))]::ξ.2.2.1::[(b1,.cells #[.string (bk x.space),.string (bk x.name),.slice an x.attrs.length cn,.slice al x.kids.length cl,.string (bk x.text)] 55 (0,0))]::H)) (fun ξ:Value × Value × Grp × ByteArray=>(Bld b ξ.1)∧(BOwn ξ.2.1 ξ.2.2.1 ξ.2.2.2)∧(ξ.2.2.2.data.toList=t0.data.toList++prH sp x)) ?_ ?_
  ·
   refine B0 (b:=!((bk x.space).toList==(bk sp).toList)) kr (fun hc9=>?_) (fun hc9=>?_)
   ·
    have hspc:spcP x.space sp=[32,120,109,108,110,115,61]++quoX x.space:=spcP_ne (show x.space≠sp from (eqBf (bk x.space) (bk sp)).1 (by simpa only [Bool.not_eq_true'] using hc9))
    refine A3 (A4 (j:=2) [0,0] (k:=C4 2 0 rfl rfl (F8 Tryz.func120 (xquoted_ x.space (by omega) _ _) (K5 (mB #[32,120,109,108,110,115,61]) (bk (quoX x.space)) (by intro _; simp only [C8,List.length_cons,List.length_nil]; omega) (E0 Tryz.func90 (N2 b (pt b) (v6) g7 (t0++((mB #[60])++(bk x.name))) ((mB #[32,120,109,108,110,115,61])++(bk (quoX x.space))) bld1 hB8 (by (try simp only [H9,C8,List.length_cons,List.length_nil]); omega) _ _) ?_)))))
    rintro _ _ ⟨v10,g11,hB12,rfl⟩
    refine B4 (E':=[⟨0,[],pt b⟩,⟨4,[],pt b1⟩]) [] [0,4] (k:=G8 (pt b,v10,g11,((t0++((mB #[60])++(bk x.name)))++((mB #[32,120,109,108,110,115,61])++(bk (quoX x.space))))) [0,4] kr (fun w h=>h) ⟨bld1,hB12,(by simp only [prH,hspc,F9,List.append_assoc,List.cons_append,List.nil_append] <;> rfl)⟩)
   ·
    have hspc:spcP x.space sp=[]:=spcP_eq (show x.space=sp from (eqB (bk x.space) (bk sp)).1 (by simpa only [Bool.not_eq_false'] using hc9))
    refine A9 (G8 (pt b,v6,g7,(t0++((mB #[60])++(bk x.name)))) [0,4] kr (fun w h=>h) ⟨bld1,hB8,(by simp only [prH,hspc,F9,List.append_nil,List.cons_append,List.nil_append] <;> rfl)⟩)
  ·
   rintro ⟨p1,v1,g1,t1⟩ ⟨hb1,hB1,hT1⟩
   dsimp only at hb1 hB1 hT1
   have ht1:t1.size≤t0.size+x.name.length+144 * x.space.length+10:=by
    have h1:=congrArg List.length hT1
    have h2:=spcP_len x.space sp
    rw [List.length_append,X4,X4] at h1; unfold prH at h1; rw [List.cons_append,List.length_cons,List.length_append] at h1; omega
   refine A0 (A1 (A1 (A3 (A4 (j:=1) [0] (k:=C4 2 2 rfl rfl (A8 [0,0] [0,4,34,35,36] (k:=A0 (B2 ?_))))))))
   refine I3 (EI:=(fun ξ:Value × Value × Grp × ByteArray × Nat=>[⟨0,[],pt b⟩,⟨4,[],pt b1⟩,⟨34,[],.slice an x.attrs.length cn⟩,⟨35,[],.int .i64 ((x.attrs.length:Nat):Int)⟩,⟨36,[],.int .i64 ((ξ.2.2.2.2:Nat):Int)⟩])) (HI:=(fun ξ:Value × Value × Grp × ByteArray × Nat=>([(b,.cells #[ξ.1,ξ.2.1] 87 (0,0))]::ξ.2.2.1::[(b1,.cells #[.string (bk x.space),.string (bk x.name),.slice an x.attrs.length cn,.slice al x.kids.length cl,.string (bk x.text)] 55 (0,0))]::H))) (Φ:=(fun ξ:Value × Value × Grp × ByteArray × Nat=>(Bld b ξ.1)∧(BOwn ξ.2.1 ξ.2.2.1 ξ.2.2.2.1)∧(ξ.2.2.2.2≤x.attrs.length)∧(ξ.2.2.2.1.data.toList=t0.data.toList++prH sp x++N0 (x.attrs.take ξ.2.2.2.2)))) (μ:=(fun ξ:Value × Value × Grp × ByteArray × Nat=>x.attrs.length - ξ.2.2.2.2)) (s0:=(p1,v1,g1,t1,0)) [0,4,34,35,36] kr rfl ⟨hb1,hB1,(Nat.zero_le _),(by rw [hT1,List.take_zero]; exact (List.append_nil _).symm)⟩ ?_
   rintro ⟨p,v,g,t,k⟩ ⟨hbp,hB,hkl,hT⟩
   dsimp only at hbp hB hkl hT
   have hta:t.size≤t1.size+150 * wtA x.attrs:=by
    have h1:=congrArg List.length hT
    have h2:=attsP_len (x.attrs.take k)
    have h3:=wtA_take x.attrs k
    rw [← hT1,List.length_append,X4,X4] at h1; omega
   refine A1 (G_p [0] [0,4,34,35,36,37] (k:=A0 (A1 (B0 (b:=decide (((k:Nat):Int)<((x.attrs.length:Nat):Int))) kr (fun hc13=>?_) (fun hc13=>?_)))))
   ·
    have hk:k<x.attrs.length:=by have:=hc13; simp only [decide_eq_true_eq] at this; omega
    refine A9 (A0 (A1 (B2 (A1 (A3 (E6 x.attrs.length ((k:Nat):Int) 3 hra (by exact ⟨by omega,by omega,by intro h; have h2:=congrArg List.length h; rw [Q6] at h2; simp only [List.length_nil] at h2; omega⟩) ?_))))))
    obtain ⟨y,hy⟩:∃ y,y=x.attrs[k]'hk:=⟨_,rfl⟩
    have hyz:=wtA_at hk
    rw [← hy] at hyz
    have hqy:=quoX_len y.value
    refine G9 (ch:=[]) (a:=an) (q:=k * 3) (S:=S) (cs:=(xaV x.attrs)) (l:=[.string (bk y.space),.string (bk y.name),.string (bk y.value)]) (hrd:=hra) (hS:=(fun y o h=>At.cons (At.cons (At.cons ((hS y o h)))))) (hl:=List.cons_ne_nil _ _) (hv:=(fun _=>(elt3 (by rw [hy]; exact W7 hk)))) (k:=J5 (.agg #[.string eB,.string eB,.string eB]) (fun b14=>E4 0 0 (.agg #[.string (bk y.space),.string (bk y.name),.string (bk y.value)]) rfl (A8 [] [0,4,7,34,35,36] (k:=A0 (H8 ([(b14,.cells #[.string (bk y.space),.string (bk y.name),.string (bk y.value)] 75 (0,0))]::[(b1,.cells #[.string (bk x.space),.string (bk x.name),.slice an x.attrs.length cn,.slice al x.kids.length cl,.string (bk x.text)] 55 (0,0))]::H) kr (G5 (fuel:=8) [(0,0),(1,0)] (fun w h=>(h.pk 2 [0,2])) (k:=F5 2 kr (fun w h=>(h.pk 2 [0,2])) (C4 0 1 rfl rfl (G4 kr rfl)) (F5 3 kr (fun w h=>(h.pk 2 [0,2])) (K5 (mB #[32]) (bk y.name) (by intro _; simp only [C8,List.length_cons,List.length_nil]; omega) (G4 kr rfl)) ?_))))))))
    refine F5 4 kr (fun w h=>(h.pk 2 [0,2])) (K5 ((mB #[32])++(bk y.name)) (mB #[61]) (by intro _; simp only [H9,C8,List.length_cons,List.length_nil]; omega) (G4 kr rfl)) (G5 (fuel:=4) [(5,0)] (fun w h=>(h.pk 2 [0,2])) (k:=F5 6 kr (fun w h=>(h.pk 2 [0,2])) (C4 0 2 rfl rfl (G4 kr rfl)) (D7 7 (k:=F8 Tryz.func120 (xquoted_ y.value (by omega) _ _) (C0 kr (fun w h=>(h.pk 2 [0,2])) (F5 8 kr (fun w h=>(h.pk 2 [0,2])) (K5 (((mB #[32])++(bk y.name))++(mB #[61])) (bk (quoX y.value)) (by intro _; simp only [H9,C8,List.length_cons,List.length_nil]; omega) (G4 kr rfl)) (D7 9 (k:=O0 0 [1,1] ?_))))))))
    refine E0 Tryz.func90 (N2 b (p) (v) g t ((((mB #[32])++(bk y.name))++(mB #[61]))++(bk (quoX y.value))) hbp hB (by (try simp only [H9,C8,List.length_cons,List.length_nil]); omega) _ _) ?_
    rintro _ _ ⟨v15,g16,hB17,rfl⟩
    refine C0 kr (fun w h=>(h.pk 2 [2,2])) (G3 (E':=[⟨0,[],pt b⟩,⟨4,[],pt b1⟩,⟨34,[],.slice an x.attrs.length cn⟩,⟨35,[],.int .i64 ((x.attrs.length:Nat):Int)⟩,⟨36,[],.int .i64 ((k:Nat):Int)⟩]) [0,4,34,35,36] (k:=B6 (A0 (A3 (A4 (j:=1) [0] (k:=D0 50 (((k:Nat):Int)+1) (by omega) (by omega) kr (A8 [0] [0,4,34,35,36] (k:=E9 1 [0,0,1] ?_))))))))
    refine D2 (s':=(pt b,v15,g16,(t++((((mB #[32])++(bk y.name))++(mB #[61]))++(bk (quoX y.value)))),k+1)) [0,4,34,35,36] kr kr ⟨bld1,hB17,(by dsimp only; omega),(by dsimp only; rw [attsP_take hk,← hy]; unfold attP; simp only [F9,hT,List.append_assoc,List.cons_append,List.nil_append] <;> rfl)⟩ (by dsimp only; omega)
   ·
    have hk:x.attrs.length≤k:=by have:=hc13; simp only [decide_eq_false_iff_not] at this; omega
    rw [List.take_of_length_le hk] at hT
    have hTa:=hT
    obtain ⟨tz,htz⟩:∃ n,n=t.size:=⟨_,rfl⟩
    refine E3 (A6 (A6 (B5 (A0 (A1 (A1 (A3 (A4 (j:=1) [0] (k:=?_)))))))))
    refine C4 2 3 rfl rfl (A8 [0,0] [0,4,54] (k:=A0 (B0 (b:=((x.kids.length:Nat):Int)==0) kr (fun hc19=>?_) (fun hc19=>?_))))
    ·
     have hk0:x.kids.length=0:=by have:=hc19; simp only [beq_iff_eq] at this; omega
     refine A1 (A3 (A4 (j:=1) [0] (k:=E0 Tryz.func90 (N2 b (p) (v) g t (mB #[47,62]) hbp hB (by (try simp only [C8,List.length_cons,List.length_nil]); omega) _ _) ?_)))
     rintro _ _ ⟨v20,g21,hB22,rfl⟩
     refine B4 (E':=[]) [] [] (k:=A0 (B8 (A5 (E9 1 [0,0] (B7 [] [] (k:=?_))))))
     exact ⟨_,_,(by rw [show t0++bk (prX sp x)=(t++(mB #[47,62])) from (ba_extX (by rw [prX_none hn hk0]; simp only [F9,hTa,List.append_assoc] <;> rfl)).symm]; exact hB22),rfl⟩
    ·
     have hk0:¬ x.kids.length=0:=by have:=hc19; simp only [beq_eq_false_iff_ne,ne_eq] at this; omega
     refine A9 (A0 (A1 (A3 (A4 (j:=1) [0] (k:=E0 Tryz.func92 (writeByteC b (p) (v) g t (Nat.toUInt8 62) hbp hB (by (try simp only [H9,C8,sz1,sz2X,sz7X,List.length_cons,List.length_nil]); omega) _ _) ?_)))))
     rintro _ _ ⟨v23,g24,hB25,rfl⟩
     refine B4 (E':=[⟨0,[],pt b⟩,⟨4,[],pt b1⟩]) [] [0,4] (k:=A0 (A1 (A1 (A3 (A4 (j:=1) [0] (k:=C4 2 3 rfl rfl (A8 [0,0] [0,4,60,61,62] (k:=A0 ?_))))))))
     refine B2 (I3 (EI:=(fun ξ:Value × Value × Grp × ByteArray × Nat=>[⟨0,[],pt b⟩,⟨4,[],pt b1⟩,⟨60,[],.slice al x.kids.length cl⟩,⟨61,[],.int .i64 ((x.kids.length:Nat):Int)⟩,⟨62,[],.int .i64 ((ξ.2.2.2.2:Nat):Int)⟩])) (HI:=(fun ξ:Value × Value × Grp × ByteArray × Nat=>([(b,.cells #[ξ.1,ξ.2.1] 87 (0,0))]::ξ.2.2.1::[(b1,.cells #[.string (bk x.space),.string (bk x.name),.slice an x.attrs.length cn,.slice al x.kids.length cl,.string (bk x.text)] 55 (0,0))]::H))) (Φ:=(fun ξ:Value × Value × Grp × ByteArray × Nat=>(Bld b ξ.1)∧(BOwn ξ.2.1 ξ.2.2.1 ξ.2.2.2.1)∧(ξ.2.2.2.2≤x.kids.length)∧(ξ.2.2.2.1.data.toList=t0.data.toList++prH sp x++N0 x.attrs++62::prL x.space (x.kids.take ξ.2.2.2.2)))) (μ:=(fun ξ:Value × Value × Grp × ByteArray × Nat=>x.kids.length - ξ.2.2.2.2)) (s0:=(pt b,v23,g24,(t++⟨#[Nat.toUInt8 62]⟩),0)) [0,4,60,61,62] kr rfl ⟨bld1,hB25,(Nat.zero_le _),(by dsimp only; rw [List.take_zero,Xml.prL_nil,← hTa]; simp only [F9] <;> rfl)⟩ ?_)
     rintro ⟨p,v,g,t,k⟩ ⟨hbp,hB,hkl,hT2⟩
     dsimp only at hbp hB hkl hT2
     have htk:t.size≤tz+1+150 * wtXL (x.kids.take k):=by
      have h1:=congrArg List.length hT2
      have h2:=Xml.prL_len x.space (x.kids.take k)
      have h3:=congrArg List.length hTa
      rw [List.length_append,List.length_cons,← h3,X4,X4] at h1; omega
     refine A1 (G_p [0] [0,4,60,61,62,63] (k:=A0 (A1 (B0 (b:=decide (((k:Nat):Int)<((x.kids.length:Nat):Int))) kr (fun hc26=>?_) (fun hc26=>?_)))))
     ·
      have hk:k<x.kids.length:=by have:=hc26; simp only [decide_eq_true_eq] at this; omega
      obtain ⟨y,yan,ycn,yal,ycl,ycs,hyx,hye,hya,hyl,hyc,hycn⟩:=hrc.get hk
      have hyw:wtX y<wtX x:=by rw [hyx]; exact W3 hk
      have hst:=wtXL_step hk
      rw [← hyx] at hst
      have hyn:=prX_len x.space y
      refine A9 (A0 (A1 (B2 (A1 (A3 (E6 x.kids.length ((k:Nat):Int) 5 hrl (by exact ⟨by omega,by omega,by intro h; have h2:=congrArg List.length h; rw [hrc.len] at h2; simp only [List.length_nil] at h2; omega⟩) (G9 (ch:=[]) (a:=al) (q:=k * 5) (S:=S) (cs:=cs) (l:=[.string (bk y.space),.string (bk y.name),.slice yan y.attrs.length ycn,.slice yal y.kids.length ycl,.string (bk y.text)]) (hrd:=hrl) (hS:=(fun y o h=>At.cons (At.cons (At.cons ((hS y o h)))))) (hl:=List.cons_ne_nil _ _) (hv:=(fun _=>(elt5 hye))) (k:=J5 (.agg zN.toArray) (fun b27=>?_)))))))))
      refine E4 0 0 (.agg #[.string (bk y.space),.string (bk y.name),.slice yan y.attrs.length ycn,.slice yal y.kids.length ycl,.string (bk y.text)]) rfl (A8 [] [0,4,9,60,61,62] (k:=A0 (A3 (A4 (j:=1) [0] (k:=I7 0 0 5 rfl (A4 (j:=3) [0] (k:=C4 3 0 rfl rfl (O0 0 [1,1] ?_))))))))
      refine E0 Tryz.func70 (hrec y hyw (by omega) x.space yan ycn yal ycl ycs hya hyl hyc b (p) (v) g t hbp hB (by (try simp only [H9,C8,sz1,sz2X,sz7X,List.length_cons,List.length_nil]); omega) _ _ (fun y o h=>At.cons (At.cons (hS y o h)))) ?_
      rintro _ _ ⟨v28,g29,hB30,rfl⟩
      refine A8 [] [0,4,60,61,62] (k:=B6 (A0 (A3 (A4 (j:=1) [0] (k:=D0 71 (((k:Nat):Int)+1) (by omega) (by omega) kr (A8 [0] [0,4,60,61,62] (k:=E9 1 [0,0,1] (D2 (s':=(pt b,v28,g29,(t++bk (prX x.space y)),k+1)) [0,4,60,61,62] kr kr ⟨bld1,hB30,(by dsimp only; omega),(by dsimp only; rw [prL_take hk,← hyx]; simp only [bkoX,hT2,List.append_assoc,List.cons_append])⟩ (by dsimp only; omega)))))))))
     ·
      have hk:x.kids.length≤k:=by have:=hc26; simp only [decide_eq_false_iff_not] at this; omega
      have hst:=wtXL_take x.kids k
      rw [List.take_of_length_le hk] at hT2
      refine E3 (A6 (A6 (B5 (A0 (A3 (A4 (j:=2) [0,0] (k:=C4 2 1 rfl rfl (K5 (mB #[60,47]) (bk x.name) (by intro _; simp only [C8,List.length_cons,List.length_nil]; omega) ?_))))))))
      refine K5 ((mB #[60,47])++(bk x.name)) (mB #[62]) (by intro _; simp only [H9,C8,List.length_cons,List.length_nil]; omega) (E0 Tryz.func90 (N2 b (p) (v) g t (((mB #[60,47])++(bk x.name))++(mB #[62])) hbp hB (by (try simp only [H9,C8,List.length_cons,List.length_nil]); omega) _ _) ?_)
      rintro _ _ ⟨v32,g33,hB34,rfl⟩
      refine B4 (E':=[]) [] [] (k:=E9 1 [0,0] (B7 [] [] (k:=?_)))
      exact ⟨_,_,(by rw [show t0++bk (prX sp x)=(t++(((mB #[60,47])++(bk x.name))++(mB #[62]))) from (ba_extX (by rw [prX_kids hn hk0]; simp only [F9,hT2,List.append_assoc,List.cons_append,List.nil_append] <;> rfl)).symm]; exact hB34),rfl⟩
theorem xwrite_:∀ (n:Nat) (x:XN),wtX x≤n→wtX x≤80000→∀ (sp:List UInt8) (an:Option Addr) (cn:Nat) (al:Option Addr) (cl:Nat) (cs:List Value) (S:Nat→Obj→Prop),Rd S an (xaV x.attrs)→Rd S al cs→XRdL S x.kids cs→∀ (b:Nat) (p v:Value) (g:Grp) (t:ByteArray) (_:Bld b p) (_:BOwn v g t) (_:t.size+150 * wtX x≤10000000000) (W0:World) (H:List Grp),(∀ z o,S z o→At W0 H z o)→Tri Tryz.prog 70 #[pt b,.agg (xvC x an cn al cl).toArray,.string (bk sp)] W0 (bldG b p v::g::H) (fun _ H'=>∃ v' g',BOwn v' g' (t++bk (prX sp x))∧H'=bldG b (.pointer (some ⟨b,0,none⟩)) v'::g'::H)
  | 0,x,h,_,_,_,_,_,_,_,_,_,_,_,_,_,_,_,_,_,_,_,_,_,_=>absurd (wtX_pos x) (by omega)
  | n+1,x,hz,hw,sp,an,cn,al,cl,cs,S,h1,h2,h3,b,p,v,g,t,hp,hv,hs,W0,H,hS=>xwriteW_ x an cn al cl cs S h1 h2 h3 sp hw b p v g t hp hv hs (fun y hy hwy sp an cn al cl cs h1 h2 h3 b p v g t hp hv hs W0 H hS=>xwrite_ n y (by omega) hwy sp an cn al cl cs S h1 h2 h3 b p v g t hp hv hs W0 H hS) W0 H hS
end Go.Proofs.YtppgfiklmfoaeaaGreatDoor
namespace Go.Proofs.YtppgfiklmfoaeaaGreatDoor
open Go.Sw Go.Sha Go.Esc Go.RowKit Go.Json Go.Xml
def RtB (x:XN):Prop:=x.name=[]∨∃ m,rtX m x=true
theorem kids_rt {m:Nat}:∀ {l:List XN} {last:Bool},Q8 (rtX m) last l=true→∀ y∈l,RtB y
  | [],_,_,_,h=>absurd h List.not_mem_nil
  | k::l,last,h,y,hy=>by
    rw [Q8,Bool.and_eq_true] at h
    rcases List.mem_cons.1 hy with rfl | hy
    · by_cases hn:y.name=[]
      · exact .inl hn
      · exact .inr ⟨m,by rw [← kidF_el (f:=rtX m) (last:=last) hn]; exact h.1⟩
    · exact kids_rt h.2 y hy
theorem rtB_parts {x:XN} (h:RtB x) (hn:x.name≠[]):plX x.space=true∧(∀ a∈x.attrs,plX a.value=true)∧∀ y∈x.kids,RtB y:=by
  obtain ⟨m,hm⟩:=h.resolve_left hn
  cases m with
  | zero=>rw [rtX_0] at hm; cases hm
  | succ m =>
    obtain ⟨_,_,h3,_,h5,h6⟩:=rt_parts hm
    refine ⟨h3,fun a ha=>?_,kids_rt h6⟩
    have:=X9 h5 a ha
    unfold atF at this
    rw [Bool.not_eq_true'] at this
    simp only [Bool.or_eq_false_iff,Bool.not_eq_false'] at this
    exact this.1.2
theorem X3 (a:Array UInt8):(ByteArray.mk a).size=a.size:=rfl
theorem prH_len (sp:List UInt8) (x:XN):(prH sp x).length≤1+x.name.length+(144 * x.space.length+9):=by
  have:=spcP_len x.space sp
  unfold prH
  rw [List.length_append,List.length_cons]; omega
theorem wt_parts2 (x:XN):150 * wtA x.attrs+150 * wtXL x.kids+150+150 * x.space.length+150 * x.name.length≤150 * wtX x:=by
  cases x with
  | mk s n a l t=>rw [wtX_eq]; show 150 * wtA a+150 * wtXL l+150+150 * s.length+150 * n.length≤_; omega
theorem rprintW_ (x:XN) (an:Option Addr) (cn:Nat) (al:Option Addr) (cl:Nat) (cs:List Value) (S:Nat→Obj→Prop) (hra:Rd S an (xaV x.attrs)) (hrl:Rd S al cs) (hrc:XRdL S x.kids cs) (sp:List UInt8) (hw:wtX x≤80000) (hok:RtB x) (hrec:∀ (y:XN),wtX y<wtX x→wtX y≤80000→RtB y→∀ (sp:List UInt8) (an:Option Addr) (cn:Nat) (al:Option Addr) (cl:Nat) (cs:List Value),Rd S an (xaV y.attrs)→Rd S al cs→XRdL S y.kids cs→∀ (W0:World) (H:List Grp),(∀ z o,S z o→At W0 H z o)→Tri Tryz.prog 36 #[.agg (xvC y an cn al cl).toArray,.string (bk sp)] W0 H (fun v H'=>v=.string (bk (prX sp y))∧H'=H)) (W0:World) (H:List Grp) (hS:∀ y o,S y o→At W0 H y o):Tri Tryz.prog 36 #[.agg #[.string (bk x.space),.string (bk x.name),.slice an x.attrs.length cn,.slice al x.kids.length cl,.string (bk x.text)],.string (bk sp)] W0 H (fun v H'=>v=.string (bk (prX sp x))∧H'=H):=by
 have hpx:=M0 x
 have hp2:=wt_parts2 x
 have hph:=prH_len sp x
 refine D4 75 Tryz.func36 ?_
 refine A1 (A3 (N4 (.agg #[.string (bk x.space),.string (bk x.name),.slice an x.attrs.length cn,.slice al x.kids.length cl,.string (bk x.text)]) (fun b1=>A8 [0] [1,2] (k:=A0 (A1 (A1 (A3 (A4 (j:=1) [0] (k:=?_)))))))))
 refine C4 0 1 rfl rfl (A8 [0] [1,2,12] (k:=A0 (B0 (b:=(bk x.name).toList==eB.toList) kr (fun hc2=>?_) (fun hc2=>?_))))
 ·
  have hn:x.name=[]:=(eqB _ _).1 hc2
  refine A1 (A3 (A4 (j:=1) [0] (k:=C4 0 4 rfl rfl (F8 Tryz.func73 (rhtml_ (bk x.text) (by rw [C8]; omega) _ _) (B4 (E':=[⟨4,[],.string (bk (G0 x.text))⟩]) [0] [4] (k:=A0 (B8 (A5 ?_))))))))
  refine E9 1 [] (B7 [.tmp 4] [.string (bk (G0 x.text))] (k:=?_))
  exact ⟨congrArg Value.string (by rw [prX_text hn]),rfl⟩
 ·
  have hn:x.name≠[]:=(eqBf _ _).1 hc2
  obtain ⟨hPs,hAt,hKi⟩:=rtB_parts hok hn
  have hqs:=quoX_len x.space
  refine A9 (A0 (A1 (A3 (A4 (j:=1) [0] (k:=C4 0 1 rfl rfl (K5 (mB #[60]) (bk x.name) (fun _=>by (try simp only [X3,List.size_toArray,List.length_cons,List.length_nil]); omega) (A8 [0] [1,2,5] (k:=A0 ?_))))))))
  refine A1 (A1 (A3 (A4 (j:=1) [0] (k:=C4 0 0 rfl rfl (A8 [0,0] [2,5,22] (k:=A0 (S0 (T:=ByteArray) (fun ξ:ByteArray=>[⟨2,[],pt b1⟩,⟨5,[],.string ξ⟩]) (fun ξ:ByteArray=>([(b1,.cells #[.string (bk x.space),.string (bk x.name),.slice an x.attrs.length cn,.slice al x.kids.length cl,.string (bk x.text)] 55 (0,0))]::H)) (fun ξ:ByteArray=>(ξ.data.toList=prH sp x)) ?_ ?_)))))))
  ·
   refine B0 (b:=!((bk x.space).toList==(bk sp).toList)) kr (fun hc3=>?_) (fun hc3=>?_)
   ·
    have hsp:x.space≠sp:=by simpa using hc3
    refine A3 (A4 (j:=2) [0,0] (k:=C4 0 0 rfl rfl (F8 Tryz.func74 (rquo_ x.space (by omega) hPs _ _) (K5 (mB #[32,120,109,108,110,115,61]) (bk (quoX x.space)) (fun _=>by (try simp only [X3,List.size_toArray,List.length_cons,List.length_nil]); omega) (K5 ((mB #[60])++(bk x.name)) ((mB #[32,120,109,108,110,115,61])++(bk (quoX x.space))) (fun _=>by (try simp only [ByteArray.size_append,X3,List.size_toArray,List.length_cons,List.length_nil]); omega) (A8 [0] [2,5] (k:=G8 (((mB #[60])++(bk x.name))++((mB #[32,120,109,108,110,115,61])++(bk (quoX x.space)))) [2,5] kr (fun w h=>h) (by unfold prH; first | (rw [spcP_eq hsp]; exact (List.append_nil _).symm) | (rw [spcP_ne hsp]; simp only [F9,List.cons_append,List.nil_append])))))))))
   ·
    have hsp:x.space=sp:=by simpa using hc3
    refine A9 (G8 ((mB #[60])++(bk x.name)) [2,5] kr (fun w h=>h) (by unfold prH; first | (rw [spcP_eq hsp]; exact (List.append_nil _).symm) | (rw [spcP_ne hsp]; simp only [F9,List.append_assoc,List.cons_append,List.nil_append])))
  ·
   rintro A2 hA2
   try dsimp only at hA2
   have hz2:A2.data.toList.length=A2.size:=Array.length_toList
   rw [hA2] at hz2
   refine A0 (A1 (A1 (A3 (A4 (j:=1) [0] (k:=C4 0 2 rfl rfl (A8 [0,0] [2,5,30,31,32] (k:=A0 (B2 ?_))))))))
   refine I3 (EI:=(fun ξ:Nat × ByteArray=>[⟨2,[],pt b1⟩,⟨5,[],.string ξ.2⟩,⟨30,[],.slice an x.attrs.length cn⟩,⟨31,[],.int .i64 ((x.attrs.length:Nat):Int)⟩,⟨32,[],.int .i64 ((ξ.1:Nat):Int)⟩])) (HI:=(fun ξ:Nat × ByteArray=>([(b1,.cells #[.string (bk x.space),.string (bk x.name),.slice an x.attrs.length cn,.slice al x.kids.length cl,.string (bk x.text)] 55 (0,0))]::H))) (Φ:=(fun ξ:Nat × ByteArray=>(ξ.1≤x.attrs.length)∧(ξ.2.data.toList=prH sp x++N0 (x.attrs.take ξ.1)))) (μ:=(fun ξ:Nat × ByteArray=>x.attrs.length - ξ.1)) (s0:=(0,A2)) [2,5,30,31,32] kr rfl ⟨(Nat.zero_le _),(by rw [hA2,List.take_zero]; exact (List.append_nil _).symm)⟩ ?_
   rintro ⟨k,t⟩ ⟨hkl,hT⟩
   dsimp only at hkl hT
   have htl:t.data.toList.length=t.size:=Array.length_toList
   rw [hT] at htl
   simp only [List.length_append] at htl
   have hal:=attsP_len (x.attrs.take k)
   have haw:=wtA_take x.attrs k
   refine A1 (G_p [0] [2,5,30,31,32,33] (k:=A0 (A1 (B0 (b:=decide (((k:Nat):Int)<((x.attrs.length:Nat):Int))) kr (fun hc4=>?_) (fun hc4=>?_)))))
   ·
    have hk:k<x.attrs.length:=by have:=hc4; simp only [decide_eq_true_eq] at this; omega
    refine A9 (A0 (A1 (B2 (A1 (A3 (E6 x.attrs.length ((k:Nat):Int) 3 hra (by exact ⟨by omega,by omega,by intro h; have h2:=congrArg List.length h; rw [Q6] at h2; simp only [List.length_nil] at h2; omega⟩) ?_))))))
    obtain ⟨y,hy⟩:∃ y,y=x.attrs[k]'hk:=⟨_,rfl⟩
    have hyz:=wtA_at hk
    rw [← hy] at hyz
    have hPv:plX y.value=true:=hAt y (by rw [hy]; exact List.getElem_mem hk)
    have hqv:=quoX_len y.value
    refine G9 (ch:=[]) (a:=an) (q:=k * 3) (S:=S) (cs:=(xaV x.attrs)) (l:=[.string (bk y.space),.string (bk y.name),.string (bk y.value)]) (hrd:=hra) (hS:=(fun y o h=>At.cons ((hS y o h)))) (hl:=List.cons_ne_nil _ _) (hv:=(fun _=>(elt3 (by rw [hy]; exact W7 hk)))) (k:=J5 (.agg #[.string eB,.string eB,.string eB]) (fun b5=>E4 0 0 (.agg #[.string (bk y.space),.string (bk y.name),.string (bk y.value)]) rfl (A8 [] [2,5,7,30,31,32] (k:=A0 (H0 (k:=A4 (j:=2) [0,0] (k:=C4 0 1 rfl rfl (K5 (mB #[32]) (bk y.name) (fun _=>by (try simp only [X3,List.size_toArray,List.length_cons,List.length_nil]); omega) ?_))))))))
    refine K5 ((mB #[32])++(bk y.name)) (mB #[61]) (fun _=>by (try simp only [ByteArray.size_append,X3,List.size_toArray,List.length_cons,List.length_nil]); omega) (A4 (j:=6) [0] (k:=C4 0 2 rfl rfl (F8 Tryz.func74 (rquo_ y.value (by omega) hPv _ _) (K5 (((mB #[32])++(bk y.name))++(mB #[61])) (bk (quoX y.value)) (fun _=>by (try simp only [ByteArray.size_append,X3,List.size_toArray,List.length_cons,List.length_nil]); omega) (K5 t ((((mB #[32])++(bk y.name))++(mB #[61]))++(bk (quoX y.value))) (fun _=>by (try simp only [ByteArray.size_append,X3,List.size_toArray,List.length_cons,List.length_nil]); omega) (A8 [0] [2,5,30,31,32] (k:=B6 (A0 ?_))))))))
    refine A3 (A4 (j:=1) [0] (k:=D0 46 (((k:Nat):Int)+1) (by omega) (by omega) kr (A8 [0] [2,5,30,31,32] (k:=E9 1 [1] (D2 (s':=(k+1,t++((((mB #[32])++(bk y.name))++(mB #[61]))++(bk (quoX y.value))))) [2,5,30,31,32] kr kr ⟨(by dsimp only; omega),(by dsimp only; rw [attsP_take hk,← hy]; simp only [F9,hT]; unfold attP; simp only [List.append_assoc,List.cons_append,List.nil_append])⟩ (by dsimp only; omega))))))
   ·
    have hk:x.attrs.length≤k:=by have:=hc4; simp only [decide_eq_false_iff_not] at this; omega
    have hT2:t.data.toList=prH sp x++N0 x.attrs:=by rw [hT,List.take_of_length_le hk]
    refine E3 (A6 (A6 (B5 (A0 (A1 (A1 (A3 (A4 (j:=1) [0] (k:=?_)))))))))
    refine C4 0 3 rfl rfl (A8 [0,0] [2,5,50] (k:=A0 (B0 (b:=((x.kids.length:Nat):Int)==0) kr (fun hc7=>?_) (fun hc7=>?_))))
    ·
     have hk0:x.kids.length=0:=by have:=hc7; simp only [beq_iff_eq] at this; omega
     refine A1 (A3 (A4 (j:=1) [0] (k:=K5 t (mB #[47,62]) (fun _=>by (try simp only [X3,List.size_toArray,List.length_cons,List.length_nil]); omega) (A8 [0] [4] (k:=A0 (B8 (A5 (E9 1 [] ?_))))))))
     refine B7 [.tmp 4] [.string (t++(mB #[47,62]))] (k:=?_)
     exact ⟨congrArg Value.string (ba_extX (by rw [bkX,prX_none hn hk0]; simp only [F9,hT2])),rfl⟩
    ·
     have hk0:¬ x.kids.length=0:=by have:=hc7; simp only [beq_eq_false_iff_ne,ne_eq] at this; omega
     refine A9 (A0 (A1 (A3 (A4 (j:=1) [0] (k:=K5 t (mB #[62]) (fun _=>by (try simp only [X3,List.size_toArray,List.length_cons,List.length_nil]); omega) (A8 [0] [2,5] (k:=A0 (A1 ?_))))))))
     refine A1 (A3 (A4 (j:=1) [0] (k:=C4 0 3 rfl rfl (A8 [0,0] [2,5,56,57,58] (k:=A0 (B2 (I3 (EI:=(fun ξ:Nat × ByteArray=>[⟨2,[],pt b1⟩,⟨5,[],.string ξ.2⟩,⟨56,[],.slice al x.kids.length cl⟩,⟨57,[],.int .i64 ((x.kids.length:Nat):Int)⟩,⟨58,[],.int .i64 ((ξ.1:Nat):Int)⟩])) (HI:=(fun ξ:Nat × ByteArray=>([(b1,.cells #[.string (bk x.space),.string (bk x.name),.slice an x.attrs.length cn,.slice al x.kids.length cl,.string (bk x.text)] 55 (0,0))]::H))) (Φ:=(fun ξ:Nat × ByteArray=>(ξ.1≤x.kids.length)∧(ξ.2.data.toList=prH sp x++N0 x.attrs++62::prL x.space (x.kids.take ξ.1)))) (μ:=(fun ξ:Nat × ByteArray=>x.kids.length - ξ.1)) (s0:=(0,t++(mB #[62]))) [2,5,56,57,58] kr rfl ⟨(Nat.zero_le _),(by dsimp only; rw [List.take_zero,Go.Xml.prL_nil]; simp only [F9,hT2])⟩ ?_)))))))
     rintro ⟨k,t⟩ ⟨hkl,hT⟩
     dsimp only at hkl hT
     have htl:t.data.toList.length=t.size:=Array.length_toList
     rw [hT] at htl
     simp only [List.length_append,List.length_cons] at htl
     have hal:=attsP_len x.attrs
     have haw:=wtXL_take x.kids k
     have hpk:=Go.Xml.prL_len x.space (x.kids.take k)
     refine A1 (G_p [0] [2,5,56,57,58,59] (k:=A0 (A1 (B0 (b:=decide (((k:Nat):Int)<((x.kids.length:Nat):Int))) kr (fun hc8=>?_) (fun hc8=>?_)))))
     ·
      have hk:k<x.kids.length:=by have:=hc8; simp only [decide_eq_true_eq] at this; omega
      obtain ⟨y,yan,ycn,yal,ycl,ycs,hyx,hye,hya,hyl,hyc,hycn⟩:=hrc.get hk
      have hyw:wtX y<wtX x:=by rw [hyx]; exact W3 hk
      have hyR:RtB y:=hKi y (by rw [hyx]; exact List.getElem_mem hk)
      have hpy:=prX_len x.space y
      refine A9 (A0 (A1 (B2 (A1 (A3 (E6 x.kids.length ((k:Nat):Int) 5 hrl (by exact ⟨by omega,by omega,by intro h; have h2:=congrArg List.length h; rw [hrc.len] at h2; simp only [List.length_nil] at h2; omega⟩) (G9 (ch:=[]) (a:=al) (q:=k * 5) (S:=S) (cs:=cs) (l:=[.string (bk y.space),.string (bk y.name),.slice yan y.attrs.length ycn,.slice yal y.kids.length ycl,.string (bk y.text)]) (hrd:=hrl) (hS:=(fun y o h=>At.cons ((hS y o h)))) (hl:=List.cons_ne_nil _ _) (hv:=(fun _=>(elt5 hye))) (k:=J5 (.agg zN.toArray) (fun b9=>?_)))))))))
      refine E4 0 0 (.agg #[.string (bk y.space),.string (bk y.name),.slice yan y.attrs.length ycn,.slice yal y.kids.length ycl,.string (bk y.text)]) rfl (A8 [] [2,5,9,56,57,58] (k:=A0 (A3 (A4 (j:=1) [0] (k:=I7 0 0 5 rfl (A4 (j:=3) [0] (k:=C4 1 0 rfl rfl (F8 Tryz.func36 (hrec y hyw (by omega) hyR x.space yan ycn yal ycl ycs hya hyl hyc _ _ (fun y o h=>At.cons (At.cons ((hS y o h))))) ?_))))))))
      refine K5 t (bk (prX x.space y)) (fun _=>by (try simp only [X3,List.size_toArray]); omega) (A8 [0] [2,5,56,57,58] (k:=B6 (A0 (A3 (A4 (j:=1) [0] (k:=D0 68 (((k:Nat):Int)+1) (by omega) (by omega) kr (A8 [0] [2,5,56,57,58] (k:=E9 1 [1] ?_))))))))
      refine D2 (s':=(k+1,t++(bk (prX x.space y)))) [2,5,56,57,58] kr kr ⟨(by dsimp only; omega),(by dsimp only; rw [Go.Xml.prL_take hk,← hyx]; simp only [F9,hT,List.append_assoc,List.cons_append])⟩ (by dsimp only; omega)
     ·
      have hk:x.kids.length≤k:=by have:=hc8; simp only [decide_eq_false_iff_not] at this; omega
      have hT3:t.data.toList=prH sp x++N0 x.attrs++62::prL x.space x.kids:=by rw [hT,List.take_of_length_le hk]
      refine E3 (A6 (A6 (B5 (A0 (A1 (A3 (A4 (j:=1) [0] (k:=K5 t (mB #[60,47]) (fun _=>by (try simp only [X3,List.size_toArray,List.length_cons,List.length_nil]); omega) ?_))))))))
      refine A4 (j:=3) [0] (k:=C4 0 1 rfl rfl (K5 (t++(mB #[60,47])) (bk x.name) (fun _=>by (try simp only [ByteArray.size_append,X3,List.size_toArray,List.length_cons,List.length_nil]); omega) (K5 ((t++(mB #[60,47]))++(bk x.name)) (mB #[62]) (fun _=>by (try simp only [ByteArray.size_append,X3,List.size_toArray,List.length_cons,List.length_nil]); omega) (A8 [0] [4] (k:=A0 (B8 (E9 1 [] (B7 [.tmp 4] [.string (((t++(mB #[60,47]))++(bk x.name))++(mB #[62]))] (k:=?_)))))))))
      exact ⟨congrArg Value.string (ba_extX (by rw [bkX,prX_kids hn hk0]; simp only [F9,hT3,List.append_assoc,List.cons_append,List.nil_append])),rfl⟩
theorem rprint_:∀ (n:Nat) (x:XN),wtX x≤n→wtX x≤80000→RtB x→∀ (sp:List UInt8) (an:Option Addr) (cn:Nat) (al:Option Addr) (cl:Nat) (cs:List Value) (S:Nat→Obj→Prop),Rd S an (xaV x.attrs)→Rd S al cs→XRdL S x.kids cs→∀ (W0:World) (H:List Grp),(∀ z o,S z o→At W0 H z o)→Tri Tryz.prog 36 #[.agg (xvC x an cn al cl).toArray,.string (bk sp)] W0 H (fun v H'=>v=.string (bk (prX sp x))∧H'=H)
  | 0,x,h,_,_,_,_,_,_,_,_,_,_,_,_,_,_,_=>absurd (wtX_pos x) (by omega)
  | n+1,x,h,hw,hok,sp,an,cn,al,cl,cs,S,h1,h2,h3,W0,H,hS=>rprintW_ x an cn al cl cs S h1 h2 h3 sp hw hok (fun y hy hwy hoy sp an cn al cl cs h1 h2 h3 W0 H hS=>rprint_ n y (by omega) hwy hoy sp an cn al cl cs S h1 h2 h3 W0 H hS) W0 H hS
end Go.Proofs.YtppgfiklmfoaeaaGreatDoor
namespace Go.Proofs.YtppgfiklmfoaeaaGreatDoor
open Go.Sw Go.Sha Go.Esc Go.RowKit Go.Json Go.Xml
theorem xprint_ (x:XN) (an:Option Addr) (cn:Nat) (al:Option Addr) (cl:Nat) (cs:List Value) (S:Nat→Obj→Prop) (hra:Rd S an (xaV x.attrs)) (hrl:Rd S al cs) (hrc:XRdL S x.kids cs) (hcn:x.attrs.length≤cn) (hw:wtX x≤80000) (W0:World) (H:List Grp) (hS:∀ y o,S y o→At W0 H y o) (hX:P2 W0):Tri Tryz.prog 34 #[.agg #[.string (bk x.space),.string (bk x.name),.slice an x.attrs.length cn,.slice al x.kids.length cl,.string (bk x.text)]] W0 H (fun v H'=>v=(if rtX 24 x then .tuple #[.string (bk (prX [] x)),.int .i64 0] else .tuple #[.string eB,.int .i64 2])∧H'=H):=by
 have hpl:=prX_len [] x
 refine D4 11 Tryz.func34 ?_
 refine A1 (A3 (N4 (.agg #[.string (bk x.space),.string (bk x.name),.slice an x.attrs.length cn,.slice al x.kids.length cl,.string (bk x.text)]) (fun b1=>B4 (E':=[⟨1,[],pt b1⟩]) [0,0] [1] (k:=A0 (A1 (A1 (A3 (I7 0 0 5 rfl ?_))))))))
 refine F8 (vs:=[.agg #[.string (bk x.space),.string (bk x.name),.slice an x.attrs.length cn,.slice al x.kids.length cl,.string (bk x.text)],.int .i64 0]) Tryz.func69 (xright_ (wtX x) x (Nat.le_refl _) (by omega) 24 (Nat.le_refl _) 0 (by decide) an cn al cl cs S hcn hra hrl hrc _ _ (fun y o h=>At.cons ((hS y o h))) hX) (A8 [0] [1,7] (k:=A0 (B0 (b:=!(rtX 24 x)) kr (fun hc2=>?_) (fun hc2=>?_))))
 ·
  have hr:rtX 24 x=false:=by simpa using hc2
  refine A1 (G_p [0,0] [2,3] (k:=A0 (B8 (A5 (E9 1 [] (B7 [.tmp 2,.tmp 3] [.string eB,.int .i64 2] (k:=?_)))))))
  exact ⟨by rw [hr]; rfl,rfl⟩
 ·
  have hr:rtX 24 x=true:=by simpa using hc2
  refine A9 (A0 (A1 (A3 (J5 (.agg #[.pointer none,.slice none 0 0]) (fun b3=>GL_heap rfl (H':=([(b3,.cells #[.pointer none,.slice none 0 0] 87 (0,0))]::[]::[(b1,.cells #[.string (bk x.space),.string (bk x.name),.slice an x.attrs.length cn,.slice al x.kids.length cl,.string (bk x.text)] 55 (0,0))]::H)) (fun w h=>h.flat (List.Perm.refl _)) (B4 (E':=[⟨1,[],pt b1⟩,⟨4,[],pt b3⟩]) [] [1,4] (k:=A0 (A1 ?_))))))))
  refine A3 (I7 2 0 5 rfl (E0 (vs:=[pt b3,.agg #[.string (bk x.space),.string (bk x.name),.slice an x.attrs.length cn,.slice al x.kids.length cl,.string (bk x.text)],.string eB]) Tryz.func70 (xwrite_ (wtX x) x (Nat.le_refl _) (by omega) [] an cn al cl cs S hra hrl hrc b3 (.pointer none) (.slice none 0 0) [] .empty bld0 bown0 (by show 0+_≤_; omega) _ _ (fun y o h=>At.cons (hS y o h))) ?_))
  rintro _ _ ⟨v4,g5,hB6,rfl⟩
  refine B4 (E':=[⟨4,[],pt b3⟩]) [] [4] (k:=A0 (A1 (A3 (E0 (vs:=[pt b3]) Tryz.func53 (Y9 b3 (pt b3) (v4) g5 (.empty++bk (prX ([]) x)) hB6 (by (try simp only [H9,C8]); show 0+_≤_; omega) _ _) ?_))))
  rintro _ _ ⟨rfl,rfl⟩
  refine A8 [0,0] [2,3] (k:=A0 (B8 (E9 2 [] (B7 [.tmp 2,.tmp 3] [.string (.empty++bk (prX ([]) x)),.int .i64 0] (k:=?_)))))
  exact ⟨by rw [hr]; exact congrArg (fun t=>Value.tuple #[.string t,.int .i64 0]) (ba_extX (F9 _ _)),rfl⟩
end Go.Proofs.YtppgfiklmfoaeaaGreatDoor
namespace Go.Xml
open Go.Esc Go.Json Go.Sw
def V2:XN:=.mk [118] [99] [] [.mk [] [] [] [] [116,38]] []
def V1:XN:=.mk [117] [97] [⟨[],[98],[60]⟩] [V2] []
theorem v1_par:parX [60,97,32,120,109,108,110,115,61,34,117,34,32,98,61,34,38,108,116,59,34,62,60,120,58,99,32,120,109,108,110,115,58,120,61,34,118,34,62,116,60,33,45,45,114,45,45,62,38,97,109,112,59,60,47,120,58,99,62,60,47,97,62]=(V1,0):=by kernel_rfl
theorem v1_bad:(parX [60,97,62,60,98,62,60,47,97,62]).2=70:=by kernel_rfl
theorem v1_right:rtX 24 V1=true:=by kernel_rfl
theorem v1_print:prX [] V1=[60,97,32,120,109,108,110,115,61,34,117,34,32,98,61,34,38,108,116,59,34,62,60,99,32,120,109,108,110,115,61,34,118,34,62,116,38,97,109,112,59,60,47,99,62,60,47,97,62]:=by kernel_rfl
theorem v1_find:allX V1 [118] [99]=[V2]:=by kernel_rfl
theorem v1_wt:wtX V1≤100:=Nat.le_of_ble_eq_true (by kernel_rfl)
theorem v2_wt:wtX V2≤100:=Nat.le_of_ble_eq_true (by kernel_rfl)
end Go.Xml
namespace Go.Proofs.YtppgfiklmfoaeaaGreatDoor
open Go.Sw Go.Sha Go.Esc Go.RowKit Go.Json Go.Xml
theorem rd_cast {S:Nat→Obj→Prop} {a:Option Addr} {cs cs':List Value} (h:Rd S a cs) (he:cs=cs'):Rd S a cs':=he ▸ h
theorem xparseV (a:Option Addr) (c:Nat) (l:List UInt8) (S:Nat→Obj→Prop) (hrd:Rd S a (u8s l)) (x:XN) (e:Int) (hp:parX l=(x,e)) (W0:World) (H:List Grp) (hS:∀ y o,S y o→At W0 H y o) (hX:P2 W0):Tri Tryz.prog 29 #[.slice a l.length c] W0 H (fun v H2=>∃ c g,XRep 75 55 x c g∧v=.tuple #[.agg c.toArray,.int .i64 e]∧H2=g::H):=by
  have h:=xparse_ a c l S hrd W0 H hS hX
  rw [hp] at h; exact h
theorem xprintC (x:XN) (c:List Value) (S:Nat→Obj→Prop) (h:XRd S x c) (hw:wtX x≤80000) (u:Value) (hu:(if rtX 24 x then .tuple #[.string (bk (prX [] x)),.int .i64 0] else .tuple #[.string eB,.int .i64 2])=u) (W0:World) (H:List Grp) (hS:∀ z o,S z o→At W0 H z o) (hX:P2 W0):Tri Tryz.prog 34 #[.agg c.toArray] W0 H (fun v H'=>v=u∧H'=H):=by
  obtain ⟨an,al,cn,cl,cs,rfl,a1,a2,a3,a4⟩:=h.shape
  subst hu
  exact xprint_ x an cn al cl cs S a1 a2 a3 a4 hw W0 H hS hX
theorem xvalueC (x:XN) (c:List Value) (S:Nat→Obj→Prop) (h:XRd S x c) (hw:wtX x≤100000000) (nm:List UInt8) (W0:World) (H:List Grp) (hS:∀ z o,S z o→At W0 H z o):Tri Tryz.prog 40 #[.agg c.toArray,.string (bk nm)] W0 H (fun v H'=>v=.string (bk (vlX x.attrs nm))∧H'=H):=by
  obtain ⟨an,al,cn,cl,cs,rfl,a1,a2,a3,a4⟩:=h.shape
  exact xvalue_ x an cn al cl cs S a1 a2 a3 nm hw W0 H hS
theorem xinnerC (x:XN) (c:List Value) (S:Nat→Obj→Prop) (h:XRd S x c) (hw:wtX x≤100000000) (W0:World) (H:List Grp) (hS:∀ z o,S z o→At W0 H z o):Tri Tryz.prog 42 #[.agg c.toArray] W0 H (fun v H'=>v=.string (bk (innX x))∧H'=H):=by
  obtain ⟨an,al,cn,cl,cs,rfl,a1,a2,a3,a4⟩:=h.shape
  exact xinner_ (wtX x) x (Nat.le_refl _) hw an cn al cl cs S a1 a2 a3 W0 H hS
theorem xfindC (x:XN) (c:List Value) (S:Nat→Obj→Prop) (h:XRd S x c) (hw:wtX x≤100000000) (sp nm:List UInt8) (y:XN) (l:List XN) (hy:allX x sp nm=y::l) (W0:World) (H:List Grp) (hS:∀ z o,S z o→At W0 H z o):Tri Tryz.prog 39 #[.agg c.toArray,.string (bk sp),.string (bk nm)] W0 H (fun v H'=>∃ an cn al cl,XRd S y (xvC y an cn al cl)∧v=.tuple #[.agg (xvC y an cn al cl).toArray,.bool true]∧H'=H):=by
  obtain ⟨an,al,cn,cl,cs,rfl,a1,a2,a3,a4⟩:=h.shape
  refine (xfind_ x an cn al cl cs S a1 a2 a3 sp nm hw W0 H hS).post fun v H' ⟨h1,h2⟩=>⟨H',?_,fun _ h=>h⟩
  rcases h1 with ⟨h1,_⟩ | ⟨y',l',yan,ycn,yal,ycl,ycs,h1,h3,b1,b2,b3,b4⟩
  · rw [hy] at h1; cases h1
  · rw [hy] at h1; injection h1 with h1 _; subst h1
    exact ⟨yan,ycn,yal,ycl,XRd.of b4 b1 b2 b3,h3,h2⟩
theorem firstX_  (W0:World) (H:List Grp) (hX:P2 W0):Tri Tryz.prog 28 #[] W0 H (fun v H'=>v=.bool true∧H'=H):=by
 refine D4 63 Tryz.func28 ?_
 refine A1 (B9 (E':=[]) [0] [] (k:=A0 (A1 (A3 (L0 5 63 [.int .u8 60,.int .u8 97,.int .u8 32,.int .u8 120,.int .u8 109,.int .u8 108,.int .u8 110,.int .u8 115,.int .u8 61,.int .u8 34,.int .u8 117,.int .u8 34,.int .u8 32,.int .u8 98,.int .u8 61,.int .u8 34,.int .u8 38,.int .u8 108,.int .u8 116,.int .u8 59,.int .u8 34,.int .u8 62,.int .u8 60,.int .u8 120,.int .u8 58,.int .u8 99,.int .u8 32,.int .u8 120,.int .u8 109,.int .u8 108,.int .u8 110,.int .u8 115,.int .u8 58,.int .u8 120,.int .u8 61,.int .u8 34,.int .u8 118,.int .u8 34,.int .u8 62,.int .u8 116,.int .u8 60,.int .u8 33,.int .u8 45,.int .u8 45,.int .u8 114,.int .u8 45,.int .u8 45,.int .u8 62,.int .u8 38,.int .u8 97,.int .u8 109,.int .u8 112,.int .u8 59,.int .u8 60,.int .u8 47,.int .u8 120,.int .u8 58,.int .u8 99,.int .u8 62,.int .u8 60,.int .u8 47,.int .u8 97,.int .u8 62] (fun b1=>GL_sameBytes (i:=1) (ch:=[]) (t:=22) (e:=5) (b:=b1) (off:=0) (l:=63) (cap:=63) (j:=0) (m:=0) rfl rfl kr kr kr kr kr kr rfl rfl (by rfl) (E0 Tryz.func29 (xparseV (some ⟨b1,0,none⟩) 63 ([60,97,32,120,109,108,110,115,61,34,117,34,32,98,61,34,38,108,116,59,34,62,60,120,58,99,32,120,109,108,110,115,58,120,61,34,118,34,62,116,60,33,45,45,114,45,45,62,38,97,109,112,59,60,47,120,58,99,62,60,47,97,62]:List UInt8) (inG [(b1,.cells #[.int .u8 60,.int .u8 97,.int .u8 32,.int .u8 120,.int .u8 109,.int .u8 108,.int .u8 110,.int .u8 115,.int .u8 61,.int .u8 34,.int .u8 117,.int .u8 34,.int .u8 32,.int .u8 98,.int .u8 61,.int .u8 34,.int .u8 38,.int .u8 108,.int .u8 116,.int .u8 59,.int .u8 34,.int .u8 62,.int .u8 60,.int .u8 120,.int .u8 58,.int .u8 99,.int .u8 32,.int .u8 120,.int .u8 109,.int .u8 108,.int .u8 110,.int .u8 115,.int .u8 58,.int .u8 120,.int .u8 61,.int .u8 34,.int .u8 118,.int .u8 34,.int .u8 62,.int .u8 116,.int .u8 60,.int .u8 33,.int .u8 45,.int .u8 45,.int .u8 114,.int .u8 45,.int .u8 45,.int .u8 62,.int .u8 38,.int .u8 97,.int .u8 109,.int .u8 112,.int .u8 59,.int .u8 60,.int .u8 47,.int .u8 120,.int .u8 58,.int .u8 99,.int .u8 62,.int .u8 60,.int .u8 47,.int .u8 97,.int .u8 62] 5 (63,63+1))]) (rd_cast (cs:=[.int .u8 60,.int .u8 97,.int .u8 32,.int .u8 120,.int .u8 109,.int .u8 108,.int .u8 110,.int .u8 115,.int .u8 61,.int .u8 34,.int .u8 117,.int .u8 34,.int .u8 32,.int .u8 98,.int .u8 61,.int .u8 34,.int .u8 38,.int .u8 108,.int .u8 116,.int .u8 59,.int .u8 34,.int .u8 62,.int .u8 60,.int .u8 120,.int .u8 58,.int .u8 99,.int .u8 32,.int .u8 120,.int .u8 109,.int .u8 108,.int .u8 110,.int .u8 115,.int .u8 58,.int .u8 120,.int .u8 61,.int .u8 34,.int .u8 118,.int .u8 34,.int .u8 62,.int .u8 116,.int .u8 60,.int .u8 33,.int .u8 45,.int .u8 45,.int .u8 114,.int .u8 45,.int .u8 45,.int .u8 62,.int .u8 38,.int .u8 97,.int .u8 109,.int .u8 112,.int .u8 59,.int .u8 60,.int .u8 47,.int .u8 120,.int .u8 58,.int .u8 99,.int .u8 62,.int .u8 60,.int .u8 47,.int .u8 97,.int .u8 62]) Rd.lit kr) V1 0 v1_par _ _ (D9 0 rfl) hX) ?_)))))))
 rintro _ _ ⟨c2,gp2,hJ2,rfl,rfl⟩
 obtain ⟨van2,vcn2,val2,vcl2,rfl⟩:=hJ2.shape
 refine A4 (j:=6) [0,0,0] (k:=J5 (.agg zN.toArray) (fun b3=>E4 0 0 (.agg #[.string (bk V1.space),.string (bk V1.name),.slice van2 V1.attrs.length vcn2,.slice val2 V1.kids.length vcl2,.string (bk V1.text)]) rfl (B4 (E':=[⟨1,[],pt b3⟩,⟨2,[],.int .i64 0⟩]) [0] [1,2] (k:=A0 (A1 (A3 (I7 0 0 5 rfl (E0 (vs:=[.agg #[.string (bk V1.space),.string (bk V1.name),.slice van2 V1.attrs.length vcn2,.slice val2 V1.kids.length vcl2,.string (bk V1.text)],.string (mB #[118]),.string (mB #[99])]) Tryz.func39 (xfindC V1 [.string (bk V1.space),.string (bk V1.name),.slice van2 V1.attrs.length vcn2,.slice val2 V1.kids.length vcl2,.string (bk V1.text)] (inG gp2) (hJ2.rd (fun _ _ h=>h)) (Nat.le_trans v1_wt (by decide)) ((mB #[118]).data.toList) ((mB #[99]).data.toList) V2 [] v1_find _ _ (D9 1 rfl)) ?_))))))))
 rintro _ _ ⟨van4,vcn4,val4,vcl4,hF4,rfl,rfl⟩
 refine A4 (j:=5) [0,0,0] (k:=J5 (.agg zN.toArray) (fun b5=>E4 0 0 (.agg #[.string (bk V2.space),.string (bk V2.name),.slice van4 V2.attrs.length vcn4,.slice val4 V2.kids.length vcl4,.string (bk V2.text)]) rfl (A8 [0] [1,2,3,4] (k:=A0 (A1 (A3 (L0 5 10 [.int .u8 60,.int .u8 97,.int .u8 62,.int .u8 60,.int .u8 98,.int .u8 62,.int .u8 60,.int .u8 47,.int .u8 97,.int .u8 62] (fun b6=>GL_sameBytes (i:=1) (ch:=[]) (t:=22) (e:=5) (b:=b6) (off:=0) (l:=10) (cap:=10) (j:=0) (m:=0) rfl rfl kr kr kr kr kr kr rfl rfl (by rfl) ?_))))))))
 refine E0 Tryz.func29 (xparseV (some ⟨b6,0,none⟩) 10 ([60,97,62,60,98,62,60,47,97,62]:List UInt8) (inG [(b6,.cells #[.int .u8 60,.int .u8 97,.int .u8 62,.int .u8 60,.int .u8 98,.int .u8 62,.int .u8 60,.int .u8 47,.int .u8 97,.int .u8 62] 5 (10,10+1))]) (rd_cast (cs:=[.int .u8 60,.int .u8 97,.int .u8 62,.int .u8 60,.int .u8 98,.int .u8 62,.int .u8 60,.int .u8 47,.int .u8 97,.int .u8 62]) Rd.lit kr) ((parX [60,97,62,60,98,62,60,47,97,62]).1) 70 (by rw [← v1_bad]) _ _ (D9 0 rfl) hX) ?_
 rintro _ _ ⟨c7,gp7,hJ7,rfl,rfl⟩
 obtain ⟨van7,vcn7,val7,vcl7,rfl⟩:=hJ7.shape
 refine A4 (j:=6) [0,0,0] (k:=J5 (.agg zN.toArray) (fun b8=>E4 0 0 (.agg #[.string (bk (parX [60,97,62,60,98,62,60,47,97,62]).1.space),.string (bk (parX [60,97,62,60,98,62,60,47,97,62]).1.name),.slice van7 ((parX [60,97,62,60,98,62,60,47,97,62]).1.attrs.length) vcn7,.slice val7 ((parX [60,97,62,60,98,62,60,47,97,62]).1.kids.length) vcl7,.string (bk (parX [60,97,62,60,98,62,60,47,97,62]).1.text)]) rfl (A8 [0] [1,2,3,4,6] (k:=A0 (A1 (A3 (I7 4 0 5 rfl (F8 (vs:=[.agg #[.string (bk V1.space),.string (bk V1.name),.slice van2 V1.attrs.length vcn2,.slice val2 V1.kids.length vcl2,.string (bk V1.text)]]) Tryz.func34 (xprintC V1 [.string (bk V1.space),.string (bk V1.name),.slice van2 V1.attrs.length vcn2,.slice val2 V1.kids.length vcl2,.string (bk V1.text)] (inG gp2) (hJ2.rd (fun _ _ h=>h)) (Nat.le_trans v1_wt (by decide)) (.tuple #[.string (mB #[60,97,32,120,109,108,110,115,61,34,117,34,32,98,61,34,38,108,116,59,34,62,60,99,32,120,109,108,110,115,61,34,118,34,62,116,38,97,109,112,59,60,47,99,62,60,47,97,62]),.int .i64 0]) (by rw [v1_right,v1_print]; rfl) _ _ (D9 5 rfl) hX) ?_))))))))
 refine A8 [0,0,0,0,0] [1,2,3,4,6,7,8] (k:=A0 (A1 (A3 (A4 (j:=4) [0,0,0,0] (k:=C2 (ch:=[(33,true)]) (b:=b3) (off:=0) (v:=.string (bk V1.space)) (hA:=At.grp 4 0 rfl rfl) (k:=A4 (j:=8) [0,2,0] (k:=M6 (ch:=[(38,true)]) (b:=b3) (off:=0) (l:=[.string (bk V1.space),.string (bk V1.name),.slice van2 V1.attrs.length vcn2,.slice val2 V1.kids.length vcl2,.string (bk V1.text)]) (hA:=At.grp 4 0 rfl rfl) (k:=N1 (vs:=[.agg #[.string (bk V1.space),.string (bk V1.name),.slice van2 V1.attrs.length vcn2,.slice val2 V1.kids.length vcl2,.string (bk V1.text)],.string (mB #[98])]) [(38,true)] Tryz.func40 (fun hc=>xvalueC V1 [.string (bk V1.space),.string (bk V1.name),.slice van2 V1.attrs.length vcn2,.slice val2 V1.kids.length vcl2,.string (bk V1.text)] (inG gp2) (hJ2.rd (fun _ _ h=>h)) (Nat.le_trans v1_wt (by decide)) ((mB #[98]).data.toList) _ _ (D9 5 rfl)) ?_))))))))
 refine A4 (j:=16) [0,6,0,0,6,0] (k:=M6 (ch:=[(46,true)]) (b:=b5) (off:=0) (l:=[.string (bk V2.space),.string (bk V2.name),.slice van4 V2.attrs.length vcn4,.slice val4 V2.kids.length vcl4,.string (bk V2.text)]) (hA:=At.grp 3 0 rfl rfl) (k:=N1 [(46,true)] Tryz.func42 (fun hc=>xinnerC V2 [.string (bk V2.space),.string (bk V2.name),.slice van4 V2.attrs.length vcn4,.slice val4 V2.kids.length vcl4,.string (bk V2.text)] (inG gp2) hF4 (Nat.le_trans v2_wt (by decide)) _ _ (D9 5 rfl)) (A8 [0,6,0,0,0,6,0,0,0,6,0,0,0,6,0] [0] (k:=A0 (B8 (E9 7 [] (B7 [.tmp 0] [.bool ((((((((bk V1.space).toList==(mB #[117]).toList)&&((bk (vlX V1.attrs ((mB #[98]).data.toList))).toList==(mB #[60]).toList))&&true)&&((bk (innX V2)).toList==(mB #[116,38]).toList))&&true)&&true)&&((mB #[60,97,32,120,109,108,110,115,61,34,117,34,32,98,61,34,38,108,116,59,34,62,60,99,32,120,109,108,110,115,61,34,118,34,62,116,38,97,109,112,59,60,47,99,62,60,47,97,62]).toList==(mB #[60,97,32,120,109,108,110,115,61,34,117,34,32,98,61,34,38,108,116,59,34,62,60,99,32,120,109,108,110,115,61,34,118,34,62,116,38,97,109,112,59,60,47,99,62,60,47,97,62]).toList))] (k:=?_))))))))
 exact ⟨congrArg Value.bool (by kernel_rfl),rfl⟩
end Go.Proofs.YtppgfiklmfoaeaaGreatDoor
namespace Go.Xml
open Go.Lib Go.Esc Go.Json
def zA:List XA→Int→Option Int
  | [],n=>some n
  | a::r,n=>if 100000<n∨100000<(a.space.length:Int)∨100000<(a.name.length:Int)∨100000<(a.value.length:Int) then none else zA r (n+((a.space.length:Int)+(a.name.length:Int)+(a.value.length:Int)+1))
def zF (f:XN→Int):List XN→Int→Option Int
  | [],n=>some n
  | v::r,n=>if 100000<n then none else zF f r (n+f v)
def szX:Nat→XN→Int
  | 0,_=>100001
  | d+1,.mk s nm ats l t=>if 100000<s.length∨100000<nm.length∨100000<t.length∨100000<ats.length∨100000<l.length then 100001 else
    match zA ats (1+(s.length:Int)+(nm.length:Int)+(t.length:Int)) with
    | none=>100001
    | some n=>(zF (szX d) l n).getD 100001
theorem zA_step {ns:List XA} {k:Nat} {n:Int} (hk:k<ns.length):zA (ns.drop k) n=if 100000<n∨100000<(ns[k].space.length:Int)∨100000<(ns[k].name.length:Int)∨100000<(ns[k].value.length:Int) then none else zA (ns.drop (k+1)) (n+((ns[k].space.length:Int)+(ns[k].name.length:Int)+(ns[k].value.length:Int)+1)):=by
  rw [List.drop_eq_getElem_cons hk]; rfl
theorem zF_step {f:XN→Int} {l:List XN} {k:Nat} {n:Int} (hk:k<l.length):zF f (l.drop k) n=if 100000<n then none else zF f (l.drop (k+1)) (n+f l[k]):=by
  rw [List.drop_eq_getElem_cons hk]; rfl
theorem zA_rng:∀ {ns:List XA} {n m:Int},0≤n→n≤400001→zA ns n=some m→0≤m∧m≤400001
  | [],n,m,h0,h1,h=>by injection h with h; subst h; exact ⟨h0,h1⟩
  | x::r,n,m,h0,h1,h=>by
    unfold zA at h
    split at h
    · cases h
    · exact zA_rng (ns:=r) (by omega) (by omega) h
theorem zF_rng {f:XN→Int} {B:Int} (hf:∀ v,0≤f v∧f v≤B):∀ {l:List XN} {n m:Int},0≤n→n≤400001+B→zF f l n=some m→0≤m∧m≤400001+B
  | [],n,m,h0,h1,h=>by injection h with h; subst h; exact ⟨h0,h1⟩
  | v::r,n,m,h0,h1,h=>by
    unfold zF at h
    have:=hf v
    split at h
    · cases h
    · exact zF_rng hf (l:=r) (by omega) (by omega) h
theorem szX_rng:∀ (d:Nat) (v:XN),0≤szX d v∧szX d v≤400001 * ((d:Int)+1)
  | 0,_=>by unfold szX; constructor <;> omega
  | d+1,.mk s nm ats l t=>by
    have ih:=szX_rng d
    unfold szX
    split
    · constructor <;> omega
    · cases hn:zA ats (1+(s.length:Int)+(nm.length:Int)+(t.length:Int)) with
      | none=>dsimp only; constructor <;> omega
      | some n =>
        have h1:=zA_rng (by omega) (by omega) hn
        dsimp only
        cases hl:zF (szX d) l n with
        | none=>show 0≤(100001:Int)∧_; constructor; omega; show (100001:Int)≤_; omega
        | some m =>
          have h2:=zF_rng ih (by omega) (by have:=ih (.mk [] [] [] [] []); omega) hl
          show 0≤m∧m≤_
          constructor <;> omega
theorem zA_wt:∀ {ns:List XA} {n m:Int},zA ns n=some m→m=n+wtA ns
  | [],n,m,h=>by injection h with h; subst h; show n=n+((0:Nat):Int); omega
  | x::r,n,m,h=>by
    unfold zA at h
    split at h
    · cases h
    · have:=zA_wt (ns:=r) h
      show m=n+((x.space.length+x.name.length+x.value.length+1+wtA r:Nat):Int); omega
theorem zF_wt {f:XN→Int} (h0:∀ v,0≤f v) (hf:∀ v,f v≤100000→f v=wtX v):∀ {l:List XN} {n m:Int},0≤n→zF f l n=some m→m≤100000→m=n+wtXL l
  | [],n,m,_,h,_=>by injection h with h; subst h; rw [wtXL_nil]; omega
  | v::r,n,m,hn,h,hm=>by
    unfold zF at h
    split at h
    · cases h
    · have h1:=h0 v
      have h2:=zF_wt h0 hf (l:=r) (by omega) h hm
      have h3:=hf v (by
        have h4:∀ {l:List XN} {a b:Int},zF f l a=some b→a≤b:=by
          intro l
          induction l with
          | nil=>intro a b h; injection h with h; omega
          | cons w l ih =>
            intro a b h
            unfold zF at h
            split at h
            · cases h
            · have:=ih h; have:=h0 w; omega
        have:=h4 h; omega)
      rw [N9]; omega
theorem szX_wt:∀ (d:Nat) (v:XN),szX d v≤100000→szX d v=wtX v
  | 0,_,h=>by unfold szX at h; omega
  | d+1,.mk s nm ats l t,h=>by
    unfold szX at h ⊢
    split at h
    · omega
    rename_i hc
    rw [if_neg hc]
    cases hn:zA ats (1+(s.length:Int)+(nm.length:Int)+(t.length:Int)) with
    | none=>rw [hn] at h; dsimp only at h; omega
    | some n =>
      rw [hn] at h
      dsimp only at h ⊢
      have h1:=zA_wt hn
      cases hl:zF (szX d) l n with
      | none=>rw [hl] at h; exact absurd h (by show ¬ (100001:Int)≤100000; omega)
      | some m =>
        rw [hl] at h
        have h2:=zF_wt (fun v=>(szX_rng d v).1) (fun v hv=>szX_wt d v hv) (by omega) hl h
        show m=_
        rw [wtX_eq]; omega
end Go.Xml
namespace Go.Sw
theorem GL_max3 {d:Bool} {P:Program} {ops:Array Oper} {i:Nat} {Q:E5} {n:Fr} {E:Env} {W0:World} {H:List Grp} {o:Oper} {ch:List (Nat × Bool)} {c:Call} {ka kb ke:IntKind} {a b e:Int}
    (ho:ops[i]? = some o) (hop:o.op=.call c) (hce:c.callee=.builtin .max) (hargs:evL (evO E ch) c.args.toList=some [.int ka a,.int kb b,.int ke e])
    (hch:D5 ops E o.guard=some ch) (hd:F3 n ch o.dst=true) (hk:J4 E ch=true)
    (k:GL d P ops (i+1) Q n (Env.put E o.dst ch (.int ka (if e > (if b > a then b else a) then e else (if b > a then b else a)))) W0 H):GL d P ops i Q n E W0 H:=by
  refine I5 ho hch hd hk (fun r hr hcb w _=>?_) k
  have hrun:(execOp r o).run P w=.ok (.value (.int ka (if e > (if b > a then b else a) then e else (if b > a then b else a)))) w:=by
    simp [execOp,hop,resolve,hce,invoke,Go.builtin,M8 hr hargs,Builtin.max_,Builtin.max2]
  rw [hrun]
  exact ⟨rfl,rfl⟩
def imx (a b:Int):Int:=if b > a then b else a
theorem imx_lt {a b n:Int}:n<imx a b ↔ n<a∨n<b:=by unfold imx; split <;> omega
theorem GL_max5 {d:Bool} {P:Program} {ops:Array Oper} {i:Nat} {Q:E5} {n:Fr} {E:Env} {W0:World} {H:List Grp} {o:Oper} {ch:List (Nat × Bool)} {c:Call} {k0 k1 k2 k3 k4:IntKind} {a0 a1 a2 a3 a4:Int}
    (ho:ops[i]? = some o) (hop:o.op=.call c) (hce:c.callee=.builtin .max) (hargs:evL (evO E ch) c.args.toList=some [.int k0 a0,.int k1 a1,.int k2 a2,.int k3 a3,.int k4 a4])
    (hch:D5 ops E o.guard=some ch) (hd:F3 n ch o.dst=true) (hk:J4 E ch=true)
    (k:GL d P ops (i+1) Q n (Env.put E o.dst ch (.int k0 (imx (imx (imx (imx a0 a1) a2) a3) a4))) W0 H):GL d P ops i Q n E W0 H:=by
  refine I5 ho hch hd hk (fun r hr hcb w _=>?_) k
  have hrun:(execOp r o).run P w=.ok (.value (.int k0 (imx (imx (imx (imx a0 a1) a2) a3) a4))) w:=by
    simp [execOp,hop,resolve,hce,invoke,Go.builtin,M8 hr hargs,Builtin.max_,Builtin.max2,imx]
  rw [hrun]
  exact ⟨rfl,rfl⟩
end Go.Sw
namespace Go.Proofs.YtppgfiklmfoaeaaGreatDoor
open Go.Sw Go.Sha Go.Esc Go.RowKit Go.Json Go.Xml
theorem kidX_sym (sp nm:List UInt8) (y:XN):kidX sp nm y=((y.name==nm&&y.space==sp)&&!(nm==[])):=by
  unfold kidX
  by_cases h:y.name=nm
  · subst h
    cases (y.space==sp) <;> simp [bne]
  · rw [show (y.name==nm)=false from beq_eq_false_iff_ne.2 h,Bool.and_false]; rfl
theorem rxsizeW_ (x:XN) (an:Option Addr) (cn:Nat) (al:Option Addr) (cl:Nat) (cs:List Value) (S:Nat→Obj→Prop) (hra:Rd S an (xaV x.attrs)) (hrl:Rd S al cs) (hrc:XRdL S x.kids cs) (m0:Nat) (d:Int) (hd:d=(m0:Int)) (hm0:m0≤100) (hrec:∀ (y:XN),wtX y<wtX x→∀ (m:Nat),m0=m+1→∀ (an:Option Addr) (cn:Nat) (al:Option Addr) (cl:Nat) (cs:List Value),Rd S an (xaV y.attrs)→Rd S al cs→XRdL S y.kids cs→∀ (W0:World) (H:List Grp),(∀ z o,S z o→At W0 H z o)→Tri Tryz.prog 33 #[.agg (xvC y an cn al cl).toArray,.int .i64 (d - 1)] W0 H (fun v H'=>v=.int .i64 (szX m y)∧H'=H)) (W0:World) (H:List Grp) (hS:∀ y o,S y o→At W0 H y o):Tri Tryz.prog 33 #[.agg #[.string (bk x.space),.string (bk x.name),.slice an x.attrs.length cn,.slice al x.kids.length cl,.string (bk x.text)],.int .i64 d] W0 H (fun v H'=>v=.int .i64 (szX m0 x)∧H'=H):=by
 refine D4 97 Tryz.func33 ?_
 refine A1 (A3 (N4 (.agg #[.string (bk x.space),.string (bk x.name),.slice an x.attrs.length cn,.slice al x.kids.length cl,.string (bk x.text)]) (fun b1=>B4 (E':=[⟨1,[],.int .i64 d⟩,⟨2,[],pt b1⟩]) [0] [1,2] (k:=A0 (A1 (A1 (A3 (A4 (j:=4) [0,0,0,0] (k:=?_)))))))))
 refine C2 (ch:=[(12,false)]) (b:=b1) (off:=0) (v:=.string (bk x.space)) (hA:=At.grp 0 0 rfl rfl) (k:=A4 (j:=7) [0,0] (k:=C2 (ch:=[(12,false)]) (b:=b1) (off:=1) (v:=.string (bk x.name)) (hA:=At.grp 0 0 rfl rfl) (k:=A4 (j:=10) [0,0] (k:=C2 (ch:=[(12,false)]) (b:=b1) (off:=4) (v:=.string (bk x.text)) (hA:=At.grp 0 0 rfl rfl) (k:=A4 (j:=13) [0,0] (k:=C2 (ch:=[(12,false)]) (b:=b1) (off:=2) (v:=.slice an x.attrs.length cn) (hA:=At.grp 0 0 rfl rfl) (k:=A4 (j:=16) [0,0] (k:=C2 (ch:=[(12,false)]) (b:=b1) (off:=3) (v:=.slice al x.kids.length cl) (hA:=At.grp 0 0 rfl rfl) (k:=?_)))))))))
 refine A4 (j:=18) [0] (k:=GL_max5 (i:=18) (ch:=[(12,false)]) (k0:=.i64) (a0:=((bk x.space).size:Int)) (k1:=.i64) (a1:=((bk x.name).size:Int)) (k2:=.i64) (a2:=((bk x.text).size:Int)) (k3:=.i64) (a3:=((x.attrs.length:Nat):Int)) (k4:=.i64) (a4:=((x.kids.length:Nat):Int)) rfl rfl rfl kr kr kr kr (A8 [0,5] [1,2,30] (k:=A0 (B0 (b:=(d==0)||(decide ((imx (imx (imx (imx ((bk x.space).size:Int) ((bk x.name).size:Int)) ((bk x.text).size:Int)) ((x.attrs.length:Nat):Int)) ((x.kids.length:Nat):Int)) > 100000))) kr (fun hc2=>?_) (fun hc2=>?_)))))
 ·
  simp only [Bool.or_eq_true,decide_eq_true_eq,beq_iff_eq,gt_iff_lt] at hc2
  have h8:=hc2
  simp only [imx_lt,C8] at h8
  have hZ:szX m0 x=100001:=by
   cases x with
   | mk s nm ats l t =>
    cases m0 with
    | zero=>unfold szX; rfl
    | succ m =>
     unfold szX
     rw [if_pos]
     dsimp only [XN.space,XN.name,XN.text,XN.attrs,XN.kids] at h8
     omega
  refine A1 (B9 (E':=[⟨4,[],.int .i64 100001⟩]) [0] [4] (k:=A0 (B8 (A5 (E9 1 [] (B7 [.tmp 4] [.int .i64 100001] (k:=?_)))))))
  exact ⟨congrArg (Value.int .i64) hZ.symm,rfl⟩
 ·
  simp only [Bool.or_eq_false_iff,decide_eq_false_iff_not,beq_eq_false_iff_ne,ne_eq,gt_iff_lt] at hc2
  have h8:=hc2
  simp only [imx_lt,C8] at h8
  obtain ⟨m,hdm⟩:∃ m,m0=m+1:=⟨m0 - 1,by omega⟩
  have hmx:x.space.length≤100000∧x.name.length≤100000∧x.text.length≤100000∧x.attrs.length≤100000∧x.kids.length≤100000:=by omega
  have hZ:szX m0 x=match zA x.attrs (1+(x.space.length:Int)+(x.name.length:Int)+(x.text.length:Int)) with | none=>100001 | some n=>(zF (szX m) x.kids n).getD 100001:=by
   rw [hdm]; cases x with
   | mk s nm ats l t =>
    dsimp only [XN.space,XN.name,XN.text,XN.attrs,XN.kids] at hmx
    rw [szX,if_neg (by omega)]; rfl
  have hbs:=C8 x.space
  have hbn:=C8 x.name
  have hbt:=C8 x.text
  refine A9 (A0 (A1 (A3 (A4 (j:=1) [0] (k:=C4 0 0 rfl rfl (A4 (j:=4) [0,0] (k:=D0 34 (1+((bk x.space).size:Int)) (by omega) (by omega) kr (A4 (j:=5) [0] (k:=?_)))))))))
  refine C4 0 1 rfl rfl (A4 (j:=8) [0,0] (k:=D0 38 ((1+((bk x.space).size:Int))+((bk x.name).size:Int)) (by omega) (by omega) kr (A4 (j:=9) [0] (k:=C4 0 4 rfl rfl (A4 (j:=12) [0,0] (k:=D0 42 (((1+((bk x.space).size:Int))+((bk x.name).size:Int))+((bk x.text).size:Int)) (by omega) (by omega) kr (A8 [0] [1,2,5] (k:=A0 ?_))))))))
  refine A1 (A1 (A3 (A4 (j:=1) [0] (k:=C4 0 2 rfl rfl (A8 [0,0] [1,2,5,44,45,46] (k:=A0 (B2 (I3 (EI:=(fun ξ:Nat × Int=>[⟨1,[],.int .i64 d⟩,⟨2,[],pt b1⟩,⟨5,[],.int .i64 ξ.2⟩,⟨44,[],.slice an x.attrs.length cn⟩,⟨45,[],.int .i64 ((x.attrs.length:Nat):Int)⟩,⟨46,[],.int .i64 ((ξ.1:Nat):Int)⟩])) (HI:=(fun ξ:Nat × Int=>([(b1,.cells #[.string (bk x.space),.string (bk x.name),.slice an x.attrs.length cn,.slice al x.kids.length cl,.string (bk x.text)] 55 (0,0))]::H))) (Φ:=(fun ξ:Nat × Int=>(ξ.1≤x.attrs.length)∧(0≤ξ.2∧ξ.2≤400001)∧(zA x.attrs (1+(x.space.length:Int)+(x.name.length:Int)+(x.text.length:Int))=zA (x.attrs.drop ξ.1) ξ.2))) (μ:=(fun ξ:Nat × Int=>x.attrs.length - ξ.1)) (s0:=(0,((1+((bk x.space).size:Int))+((bk x.name).size:Int))+((bk x.text).size:Int))) [1,2,5,44,45,46] kr rfl ⟨(Nat.zero_le _),(by simp only [C8]; exact ⟨by omega,by omega⟩),(by rw [List.drop_zero]; simp only [C8])⟩ ?_))))))))
  rintro ⟨k,n⟩ ⟨hkl,hn0,hT⟩
  dsimp only at hkl hn0 hT
  refine A1 (G_p [0] [1,2,5,44,45,46,47] (k:=A0 (A1 (B0 (b:=decide (((k:Nat):Int)<((x.attrs.length:Nat):Int))) kr (fun hc6=>?_) (fun hc6=>?_)))))
  ·
   simp only [decide_eq_true_eq] at hc6
   have hk:k<x.attrs.length:=by omega
   refine A9 (A0 (A1 (B2 (A1 (A3 (E6 x.attrs.length ((k:Nat):Int) 3 hra (by exact ⟨by omega,by omega,by intro h; have h2:=congrArg List.length h; rw [Q6] at h2; simp only [List.length_nil] at h2; omega⟩) ?_))))))
   obtain ⟨y,hy⟩:∃ y,y=x.attrs[k]'hk:=⟨_,rfl⟩
   refine G9 (ch:=[]) (a:=an) (q:=k * 3) (S:=S) (cs:=(xaV x.attrs)) (l:=[.string (bk y.space),.string (bk y.name),.string (bk y.value)]) (hrd:=hra) (hS:=(fun y o h=>At.cons ((hS y o h)))) (hl:=List.cons_ne_nil _ _) (hv:=(fun _=>(elt3 (by rw [hy]; exact W7 hk)))) (k:=J5 (.agg #[.string eB,.string eB,.string eB]) (fun b7=>E4 0 0 (.agg #[.string (bk y.space),.string (bk y.name),.string (bk y.value)]) rfl (A8 [] [1,2,5,7,44,45,46] (k:=A0 (A1 (A1 (A3 (A4 (j:=4) [0,0,0,0] (k:=?_)))))))))
   refine C2 (ch:=[(52,false)]) (b:=b7) (off:=0) (v:=.string (bk y.space)) (hA:=At.grp 0 0 rfl rfl) (k:=A4 (j:=7) [0,0] (k:=C2 (ch:=[(52,false)]) (b:=b7) (off:=1) (v:=.string (bk y.name)) (hA:=At.grp 0 0 rfl rfl) (k:=A4 (j:=10) [0,0] (k:=C2 (ch:=[(52,false)]) (b:=b7) (off:=2) (v:=.string (bk y.value)) (hA:=At.grp 0 0 rfl rfl) (k:=A4 (j:=12) [0] (k:=GL_max3 (i:=12) (ch:=[(52,false)]) (ka:=.i64) (kb:=.i64) (ke:=.i64) (a:=((bk y.space).size:Int)) (b:=((bk y.name).size:Int)) (e:=((bk y.value).size:Int)) rfl rfl rfl kr kr kr kr (A8 [0,5] [1,2,5,7,44,45,46,64] (k:=A0 ?_))))))))
   refine B0 (b:=(decide (n > 100000))||(decide ((if ((bk y.value).size:Int) > (if ((bk y.name).size:Int) > ((bk y.space).size:Int) then ((bk y.name).size:Int) else ((bk y.space).size:Int)) then ((bk y.value).size:Int) else (if ((bk y.name).size:Int) > ((bk y.space).size:Int) then ((bk y.name).size:Int) else ((bk y.space).size:Int))) > 100000))) kr (fun hc8=>?_) (fun hc8=>?_)
   ·
    simp only [Bool.or_eq_true,decide_eq_true_eq,gt_iff_lt] at hc8
    simp only [C8] at hc8
    have h8:100000<n∨100000<(y.space.length:Int)∨100000<(y.name.length:Int)∨100000<(y.value.length:Int):=by
     have h9:=hc8
     (repeat' split at h9) <;> omega
    have hT1:zA x.attrs (1+(x.space.length:Int)+(x.name.length:Int)+(x.text.length:Int))=none:=by rw [hT,zA_step hk,← hy,if_pos h8]
    rw [hT1] at hZ
    refine A1 (B9 (E':=[⟨4,[],.int .i64 100001⟩]) [0] [4] (k:=A0 (B8 (A5 (B3 (A5 (A5 (B3 ?_))))))))
    refine A5 (E9 2 [] (B7 [.tmp 4] [.int .i64 100001] (k:=?_)))
    exact ⟨congrArg (Value.int .i64) hZ.symm,rfl⟩
   ·
    simp only [Bool.or_eq_false_iff,decide_eq_false_iff_not,gt_iff_lt] at hc8
    simp only [C8] at hc8
    have h8:n≤100000∧(y.space.length:Int)≤100000∧(y.name.length:Int)≤100000∧(y.value.length:Int)≤100000:=by
     have h9:=hc8
     (repeat' split at h9) <;> omega
    have hb1:=C8 y.space
    have hb2:=C8 y.name
    have hb3:=C8 y.value
    refine A9 (A0 (A3 (A4 (j:=2) [0,0] (k:=C4 0 0 rfl rfl (A4 (j:=5) [0,0] (k:=C4 0 1 rfl rfl (A4 (j:=8) [0,0] (k:=D0 72 (((bk y.space).size:Int)+((bk y.name).size:Int)) (by omega) (by omega) kr ?_))))))))
    refine A4 (j:=9) [0] (k:=C4 0 2 rfl rfl (A4 (j:=12) [0,0] (k:=D0 76 ((((bk y.space).size:Int)+((bk y.name).size:Int))+((bk y.value).size:Int)) (by omega) (by omega) kr (A4 (j:=13) [0] (k:=D0 77 (((((bk y.space).size:Int)+((bk y.name).size:Int))+((bk y.value).size:Int))+1) (by omega) (by omega) kr (A4 (j:=14) [0] (k:=D0 78 (n+(((((bk y.space).size:Int)+((bk y.name).size:Int))+((bk y.value).size:Int))+1)) (by omega) (by omega) kr (A8 [0] [1,2,5,44,45,46] (k:=?_)))))))))
    refine B6 (A0 (A3 (A4 (j:=1) [0] (k:=D0 79 (((k:Nat):Int)+1) (by omega) (by omega) kr (A8 [0] [1,2,5,44,45,46] (k:=E9 1 [1] (D2 (s':=(k+1,n+(((((bk y.space).size:Int)+((bk y.name).size:Int))+((bk y.value).size:Int))+1))) [1,2,5,44,45,46] kr kr ⟨(by dsimp only; omega),(by dsimp only; simp only [C8]; omega),(by dsimp only; rw [hT,zA_step hk,← hy,if_neg (by omega)]; simp only [C8])⟩ (by dsimp only; omega))))))))
  ·
   simp only [decide_eq_false_iff_not] at hc6
   have hT1:zA x.attrs (1+(x.space.length:Int)+(x.name.length:Int)+(x.text.length:Int))=some n:=by rw [hT,List.drop_eq_nil_of_le (by omega)]; rfl
   rw [hT1] at hZ
   dsimp only at hZ
   refine E3 (A6 (A6 (B5 (A0 (A1 (A1 (A3 (A4 (j:=1) [0] (k:=?_)))))))))
   refine C4 0 3 rfl rfl (A8 [0,0] [1,5,81,82,83] (k:=A0 (B2 (I3 (EI:=(fun ξ:Nat × Int=>[⟨1,[],.int .i64 d⟩,⟨5,[],.int .i64 ξ.2⟩,⟨81,[],.slice al x.kids.length cl⟩,⟨82,[],.int .i64 ((x.kids.length:Nat):Int)⟩,⟨83,[],.int .i64 ((ξ.1:Nat):Int)⟩])) (HI:=(fun ξ:Nat × Int=>([(b1,.cells #[.string (bk x.space),.string (bk x.name),.slice an x.attrs.length cn,.slice al x.kids.length cl,.string (bk x.text)] 55 (0,0))]::H))) (Φ:=(fun ξ:Nat × Int=>(ξ.1≤x.kids.length)∧(0≤ξ.2∧ξ.2≤400001+400001 * (d+1))∧(zF (szX m) x.kids n=zF (szX m) (x.kids.drop ξ.1) ξ.2))) (μ:=(fun ξ:Nat × Int=>x.kids.length - ξ.1)) (s0:=(0,n)) [1,5,81,82,83] kr rfl ⟨(Nat.zero_le _),(by dsimp only; omega),(by rw [List.drop_zero])⟩ ?_))))
   rintro ⟨k,z⟩ ⟨hkl,hn1,hL⟩
   dsimp only at hkl hn1 hL
   refine A1 (G_p [0] [1,5,81,82,83,84] (k:=A0 (A1 (B0 (b:=decide (((k:Nat):Int)<((x.kids.length:Nat):Int))) kr (fun hc14=>?_) (fun hc14=>?_)))))
   ·
    simp only [decide_eq_true_eq] at hc14
    have hk:k<x.kids.length:=by omega
    obtain ⟨y,yan,ycn,yal,ycl,ycs,hyx,hye,hya,hyl,hyc,hycn⟩:=hrc.get hk
    have hyw:wtX y<wtX x:=by rw [hyx]; exact W3 hk
    have hzr:=szX_rng m y
    refine A9 (A0 (A1 (B2 (A1 (A3 (E6 x.kids.length ((k:Nat):Int) 5 hrl (by exact ⟨by omega,by omega,by intro h; have h2:=congrArg List.length h; rw [hrc.len] at h2; simp only [List.length_nil] at h2; omega⟩) (G9 (ch:=[]) (a:=al) (q:=k * 5) (S:=S) (cs:=cs) (l:=[.string (bk y.space),.string (bk y.name),.slice yan y.attrs.length ycn,.slice yal y.kids.length ycl,.string (bk y.text)]) (hrd:=hrl) (hS:=(fun y o h=>At.cons ((hS y o h)))) (hl:=List.cons_ne_nil _ _) (hv:=(fun _=>(elt5 hye))) (k:=J5 (.agg zN.toArray) (fun b15=>?_)))))))))
    refine E4 0 0 (.agg #[.string (bk y.space),.string (bk y.name),.slice yan y.attrs.length ycn,.slice yal y.kids.length ycl,.string (bk y.text)]) rfl (A8 [] [1,5,9,81,82,83] (k:=A0 (A1 (A1 (G_p [0,0] [1,5,9,81,82,83,88] (k:=A0 (B0 (b:=decide (z > 100000)) kr (fun hc16=>?_) (fun hc16=>?_))))))))
    ·
     simp only [decide_eq_true_eq,gt_iff_lt] at hc16
     have hL1:zF (szX m) x.kids n=none:=by rw [hL,zF_step hk,if_pos (by omega)]
     rw [hL1] at hZ
     refine A1 (B9 (E':=[⟨4,[],.int .i64 100001⟩]) [0] [4] (k:=A0 (B8 (A5 (B3 (A5 (A5 (B3 ?_))))))))
     refine A5 (E9 2 [] (B7 [.tmp 4] [.int .i64 100001] (k:=?_)))
     exact ⟨congrArg (Value.int .i64) hZ.symm,rfl⟩
    ·
     simp only [decide_eq_false_iff_not,gt_iff_lt] at hc16
     refine A9 (A0 (A3 (A4 (j:=1) [0] (k:=I7 0 0 5 rfl (A4 (j:=4) [0,0] (k:=D0 92 (d - 1) (by omega) (by omega) kr (F8 Tryz.func33 (hrec y hyw m hdm yan ycn yal ycl ycs hya hyl hyc _ _ (fun y o h=>At.cons (At.cons ((hS y o h))))) (A4 (j:=6) [0] (k:=?_)))))))))
     refine D0 94 (z+(szX m y)) (by omega) (by omega) kr (A8 [0] [1,5,81,82,83] (k:=B6 (A0 (A3 (A4 (j:=1) [0] (k:=D0 95 (((k:Nat):Int)+1) (by omega) (by omega) kr (A8 [0] [1,5,81,82,83] (k:=E9 1 [1] ?_))))))))
     refine D2 (s':=(k+1,z+(szX m y))) [1,5,81,82,83] kr kr ⟨(by dsimp only; omega),(by dsimp only; omega),(by dsimp only; rw [hL,zF_step hk,← hyx,if_neg (by omega)])⟩ (by dsimp only; omega)
   ·
    simp only [decide_eq_false_iff_not] at hc14
    have hL1:zF (szX m) x.kids n=some z:=by rw [hL,List.drop_eq_nil_of_le (by omega)]; rfl
    rw [hL1] at hZ
    refine E3 (A6 (A6 (B5 (A0 (A1 (B9 (E':=[⟨4,[],.int .i64 z⟩]) [0,0] [4] (k:=A0 (B8 ?_))))))))
    refine E9 1 [] (B7 [.tmp 4] [.int .i64 z] (k:=?_))
    exact ⟨congrArg (Value.int .i64) hZ.symm,rfl⟩
theorem rxsize_:∀ (n:Nat) (x:XN),wtX x≤n→∀ (m0:Nat),m0≤100→∀ (d:Int),d=(m0:Int)→∀ (an:Option Addr) (cn:Nat) (al:Option Addr) (cl:Nat) (cs:List Value) (S:Nat→Obj→Prop),Rd S an (xaV x.attrs)→Rd S al cs→XRdL S x.kids cs→∀ (W0:World) (H:List Grp),(∀ z o,S z o→At W0 H z o)→Tri Tryz.prog 33 #[.agg (xvC x an cn al cl).toArray,.int .i64 d] W0 H (fun v H'=>v=.int .i64 (szX m0 x)∧H'=H)
  | 0,x,h,_,_,_,_,_,_,_,_,_,_,_,_,_,_,_,_=>absurd (wtX_pos x) (by omega)
  | n+1,x,h,m0,hm,d,hd,an,cn,al,cl,cs,S,h1,h2,h3,W0,H,hS=>rxsizeW_ x an cn al cl cs S h1 h2 h3 m0 d hd hm (fun y hy m hdm an cn al cl cs h1 h2 h3 W0 H hS=>rxsize_ n y (by omega) m (by omega) (d - 1) (by omega) an cn al cl cs S h1 h2 h3 W0 H hS) W0 H hS
theorem rxall_ (x:XN) (an:Option Addr) (cn:Nat) (al:Option Addr) (cl:Nat) (cs:List Value) (S:Nat→Obj→Prop) (_:Rd S an (xaV x.attrs)) (hrl:Rd S al cs) (hrc:XRdL S x.kids cs) (sp nm:List UInt8) (hw:wtX x≤100000000) (W0:World) (H:List Grp) (hS:∀ y o,S y o→At W0 H y o):Tri Tryz.prog 38 #[.agg #[.string (bk x.space),.string (bk x.name),.slice an x.attrs.length cn,.slice al x.kids.length cl,.string (bk x.text)],.string (bk sp),.string (bk nm)] W0 H (fun v H'=>∃ a c g co,v=.slice a (allX x sp nm).length c∧Go.Sw.Own 55 5 (.slice a (allX x sp nm).length c) g (allX x sp nm).length co∧XRdL S (allX x sp nm) co∧H'=g::H):=by
 have hpx:=M0 x
 refine D4 37 Tryz.func38 ?_
 refine A1 (A3 (N4 (.agg #[.string (bk x.space),.string (bk x.name),.slice an x.attrs.length cn,.slice al x.kids.length cl,.string (bk x.text)]) (fun b1=>A8 [0] [1,2,3] (k:=A0 (A1 (G_p [0] [1,2,3,7] (k:=A0 (A1 ?_))))))))
 refine A1 (A3 (A4 (j:=1) [0] (k:=C4 0 3 rfl rfl (A8 [0,0] [1,2,7,11,12,13] (k:=A0 (B2 (V6 (H':=([]::[(b1,.cells #[.string (bk x.space),.string (bk x.name),.slice an x.attrs.length cn,.slice al x.kids.length cl,.string (bk x.text)] 55 (0,0))]::H)) (fun w h=>h.flat (List.Perm.refl _)) (I3 (EI:=(fun ξ:Nat × Nat × Option Addr × Nat × Grp × List Value=>[⟨1,[],.string (bk sp)⟩,⟨2,[],.string (bk nm)⟩,⟨7,[],.slice ξ.2.2.1 ξ.2.1 ξ.2.2.2.1⟩,⟨11,[],.slice al x.kids.length cl⟩,⟨12,[],.int .i64 ((x.kids.length:Nat):Int)⟩,⟨13,[],.int .i64 ((ξ.1:Nat):Int)⟩])) (HI:=(fun ξ:Nat × Nat × Option Addr × Nat × Grp × List Value=>(ξ.2.2.2.2.1::[(b1,.cells #[.string (bk x.space),.string (bk x.name),.slice an x.attrs.length cn,.slice al x.kids.length cl,.string (bk x.text)] 55 (0,0))]::H))) (Φ:=(fun ξ:Nat × Nat × Option Addr × Nat × Grp × List Value=>(ξ.1≤x.kids.length)∧(Go.Sw.Own 55 5 (.slice ξ.2.2.1 ξ.2.1 ξ.2.2.2.1) ξ.2.2.2.2.1 ξ.2.1 ξ.2.2.2.2.2)∧(ξ.2.1=((x.kids.take ξ.1).filter (kidX sp nm)).length)∧(ξ.2.1≤ξ.1)∧(XRdL S ((x.kids.take ξ.1).filter (kidX sp nm)) ξ.2.2.2.2.2))) (μ:=(fun ξ:Nat × Nat × Option Addr × Nat × Grp × List Value=>x.kids.length - ξ.1)) (s0:=(0,0,none,0,[],[])) [1,2,7,11,12,13] kr kr ⟨(Nat.zero_le _),Go.Sw.Own.nil,rfl,(Nat.le_refl _),.nil⟩ ?_))))))))
 rintro ⟨k,no,oa,oc,og,co⟩ ⟨hkl,hO,hno,hnk,hco⟩
 dsimp only at hkl hO hno hnk hco
 refine A1 (G_p [0] [1,2,7,11,12,13,14] (k:=A0 (A1 (B0 (b:=decide (((k:Nat):Int)<((x.kids.length:Nat):Int))) kr (fun hc2=>?_) (fun hc2=>?_)))))
 ·
  have hk:k<x.kids.length:=by have:=hc2; simp only [decide_eq_true_eq] at this; omega
  obtain ⟨y,yan,ycn,yal,ycl,ycs,hyx,hye,hya,hyl,hyc,hycn⟩:=hrc.get hk
  have hyw:wtX y<wtX x:=by rw [hyx]; exact W3 hk
  refine A9 (A0 (A1 (B2 (A1 (A3 (E6 x.kids.length ((k:Nat):Int) 5 hrl (by exact ⟨by omega,by omega,by intro h; have h2:=congrArg List.length h; rw [hrc.len] at h2; simp only [List.length_nil] at h2; omega⟩) (G9 (ch:=[]) (a:=al) (q:=k * 5) (S:=S) (cs:=cs) (l:=[.string (bk y.space),.string (bk y.name),.slice yan y.attrs.length ycn,.slice yal y.kids.length ycl,.string (bk y.text)]) (hrd:=hrl) (hS:=(fun y o h=>At.cons (At.cons ((hS y o h))))) (hl:=List.cons_ne_nil _ _) (hv:=(fun _=>(elt5 hye))) (k:=J5 (.agg zN.toArray) (fun b3=>?_)))))))))
  refine E4 0 0 (.agg #[.string (bk y.space),.string (bk y.name),.slice yan y.attrs.length ycn,.slice yal y.kids.length ycl,.string (bk y.text)]) rfl (A8 [] [1,2,7,9,11,12,13] (k:=A0 (A1 (A3 (A4 (j:=1) [0] (k:=C4 0 1 rfl rfl (A4 (j:=6) [0,0,0,0] (k:=C2 (ch:=[(21,true)]) (b:=b3) (off:=0) (v:=.string (bk y.space)) (hA:=At.grp 0 0 rfl rfl) (k:=?_)))))))))
  refine A8 [0,0,6,0,0,0,6] [1,2,7,9,11,12,13,30] (k:=A0 (B0 (b:=(((bk y.name).toList==(bk nm).toList)&&((bk y.space).toList==(bk sp).toList))&&(!((bk nm).toList==eB.toList))) kr (fun hc4=>?_) (fun hc4=>?_)))
  ·
   have hky:kidX sp nm y=true:=by rw [kidX_sym]; have h9:=hc4; rw [bkB y.name nm,bkB y.space sp,show ((bk nm).toList==eB.toList)=(nm==[]) from bkB nm []] at h9; exact h9
   refine A3 (A4 (j:=1) [0] (k:=I7 0 0 5 rfl (L0 55 1 [.string (bk y.space),.string (bk y.name),.slice yan y.attrs.length ycn,.slice yal y.kids.length ycl,.string (bk y.text)] (fun b5=>O4 (inf:=Tryz.t55) 1 0 2 rfl rfl hO (by omega) (by show (no+1) * 96≤140737488355328; omega) (fun v6 g7 hO8=>?_)))))
   obtain ⟨a9,cap10,rfl,hcap11,hrd12⟩:=hO8.shape
   refine A8 [0] [1,2,7,11,12,13] (k:=B6 (A0 (A3 (A4 (j:=1) [0] (k:=D0 35 (((k:Nat):Int)+1) (by omega) (by omega) kr (A8 [0] [1,2,7,11,12,13] (k:=E9 2 [2,2] (D2 (s':=((k+1),(no+1),a9,cap10,g7,(co++xvC y yan ycn yal ycl))) [1,2,7,11,12,13] kr kr ⟨(by dsimp only; omega),hO8,(by dsimp only; rw [O6 hk,← hyx,hky]; simp only [if_true,List.length_append,List.length_cons,List.length_nil]; omega),(by dsimp only; omega),(by dsimp only; rw [O6 hk,← hyx,hky]; exact hco.snoc (XRd.of hycn hya hyl hyc))⟩ (by dsimp only; omega)))))))))
  ·
   have hky:kidX sp nm y=false:=by rw [kidX_sym]; have h9:=hc4; rw [bkB y.name nm,bkB y.space sp,show ((bk nm).toList==eB.toList)=(nm==[]) from bkB nm []] at h9; exact h9
   refine A9 (B6 (A0 (A3 (A4 (j:=1) [0] (k:=D0 35 (((k:Nat):Int)+1) (by omega) (by omega) kr (A8 [0] [1,2,7,11,12,13] (k:=E9 1 [1,1] (D2 (s':=((k+1),no,oa,oc,og,co)) [1,2,7,11,12,13] kr kr ⟨(by dsimp only; omega),hO,(by dsimp only; rw [O6 hk,← hyx,hky]; simp only [Bool.false_eq_true,if_false,List.append_nil]; exact hno),(by dsimp only; omega),(by dsimp only; rw [O6 hk,← hyx,hky]; simp only [Bool.false_eq_true,if_false,List.append_nil]; exact hco)⟩ (by dsimp only; omega)))))))))
 ·
  have hk:x.kids.length≤k:=by have:=hc2; simp only [decide_eq_false_iff_not] at this; omega
  have hall:x.kids.take k=x.kids:=List.take_of_length_le hk
  rw [hall] at hno hco
  refine E3 (A6 (A6 (B5 (A0 (A1 (B9 (E':=[⟨6,[],.slice oa no oc⟩]) [0,0] [6] (k:=A0 (B8 ?_))))))))
  refine E9 1 [0] (B7 [.tmp 6] [.slice oa no oc] (k:=?_))
  subst hno; exact ⟨_,_,_,_,rfl,hO,hco,rfl⟩
theorem rxvalue_ (x:XN) (an:Option Addr) (cn:Nat) (al:Option Addr) (cl:Nat) (cs:List Value) (S:Nat→Obj→Prop) (hra:Rd S an (xaV x.attrs)) (_:Rd S al cs) (_:XRdL S x.kids cs) (nm:List UInt8) (hw:wtX x≤100000000) (W0:World) (H:List Grp) (hS:∀ y o,S y o→At W0 H y o):Tri Tryz.prog 41 #[.agg #[.string (bk x.space),.string (bk x.name),.slice an x.attrs.length cn,.slice al x.kids.length cl,.string (bk x.text)],.string (bk nm)] W0 H (fun v H'=>v=.string (bk (vlX x.attrs nm))∧H'=H):=by
 have hpx:=M0 x
 refine D4 26 Tryz.func41 ?_
 refine A1 (A3 (N4 (.agg #[.string (bk x.space),.string (bk x.name),.slice an x.attrs.length cn,.slice al x.kids.length cl,.string (bk x.text)]) (fun b1=>A8 [0] [1,2] (k:=A0 (A1 (A1 (A3 (A4 (j:=1) [0] (k:=?_)))))))))
 refine C4 0 2 rfl rfl (A8 [0,0] [1,8,9,10] (k:=A0 (B2 (I3 (EI:=(fun ξ:Nat=>[⟨1,[],.string (bk nm)⟩,⟨8,[],.slice an x.attrs.length cn⟩,⟨9,[],.int .i64 ((x.attrs.length:Nat):Int)⟩,⟨10,[],.int .i64 ((ξ:Nat):Int)⟩])) (HI:=(fun ξ:Nat=>([(b1,.cells #[.string (bk x.space),.string (bk x.name),.slice an x.attrs.length cn,.slice al x.kids.length cl,.string (bk x.text)] 55 (0,0))]::H))) (Φ:=(fun ξ:Nat=>(ξ≤x.attrs.length)∧(vlX x.attrs nm=vlX (x.attrs.drop ξ) nm))) (μ:=(fun ξ:Nat=>x.attrs.length - ξ)) (s0:=(0)) [1,8,9,10] kr rfl ⟨(Nat.zero_le _),rfl⟩ ?_))))
 rintro k ⟨hkl,hT⟩
 try dsimp only at hkl hT
 refine A1 (G_p [0] [1,8,9,10,11] (k:=A0 (A1 (B0 (b:=decide (((k:Nat):Int)<((x.attrs.length:Nat):Int))) kr (fun hc2=>?_) (fun hc2=>?_)))))
 ·
  have hk:k<x.attrs.length:=by have:=hc2; simp only [decide_eq_true_eq] at this; omega
  refine A9 (A0 (A1 (B2 (A1 (A3 (E6 x.attrs.length ((k:Nat):Int) 3 hra (by exact ⟨by omega,by omega,by intro h; have h2:=congrArg List.length h; rw [Q6] at h2; simp only [List.length_nil] at h2; omega⟩) ?_))))))
  obtain ⟨y,hy⟩:∃ y,y=x.attrs[k]'hk:=⟨_,rfl⟩
  refine G9 (ch:=[]) (a:=an) (q:=k * 3) (S:=S) (cs:=(xaV x.attrs)) (l:=[.string (bk y.space),.string (bk y.name),.string (bk y.value)]) (hrd:=hra) (hS:=(fun y o h=>At.cons ((hS y o h)))) (hl:=List.cons_ne_nil _ _) (hv:=(fun _=>(elt3 (by rw [hy]; exact W7 hk)))) (k:=J5 (.agg #[.string eB,.string eB,.string eB]) (fun b3=>E4 0 0 (.agg #[.string (bk y.space),.string (bk y.name),.string (bk y.value)]) rfl (A8 [] [1,6,8,9,10] (k:=A0 (A1 (A3 (A4 (j:=1) [0] (k:=C4 0 1 rfl rfl ?_))))))))
  refine A4 (j:=6) [0,0,0,0] (k:=C2 (ch:=[(18,true)]) (b:=b3) (off:=0) (v:=.string (bk y.space)) (hA:=At.grp 0 0 rfl rfl) (k:=A8 [0,6] [1,6,8,9,10,22] (k:=A0 (B0 (b:=((bk y.name).toList==(bk nm).toList)&&((bk y.space).toList==eB.toList)) kr (fun hc4=>?_) (fun hc4=>?_)))))
  ·
   have hvl:vlF nm y=true:=by have h9:=hc4; unfold vlF; rw [Bool.and_comm]; rw [bkB y.name nm,show ((bk y.space).toList==eB.toList)=(y.space==[]) from bkB y.space []] at h9; exact h9
   refine A1 (A3 (A4 (j:=1) [0] (k:=C4 0 2 rfl rfl (B4 (E':=[⟨4,[],.string (bk y.value)⟩]) [0] [4] (k:=A0 (B8 (B3 (A5 ?_))))))))
   refine A5 (B3 (A5 (E9 2 [] (B7 [.tmp 4] [.string (bk y.value)] (k:=?_)))))
   exact ⟨by rw [hT,vl_step hk,← hy,hvl]; rfl,rfl⟩
  ·
   have hvl:vlF nm y=false:=by have h9:=hc4; unfold vlF; rw [Bool.and_comm]; rw [bkB y.name nm,show ((bk y.space).toList==eB.toList)=(y.space==[]) from bkB y.space []] at h9; exact h9
   refine A9 (B6 (A0 (A3 (A4 (j:=1) [0] (k:=D0 25 (((k:Nat):Int)+1) (by omega) (by omega) kr (A8 [0] [1,8,9,10] (k:=E9 1 [1] (D2 (s':=(k+1)) [1,8,9,10] kr kr ⟨(by omega),(by rw [hT,vl_step hk,← hy,hvl]; rfl)⟩ (by omega)))))))))
 ·
  have hk:x.attrs.length≤k:=by have:=hc2; simp only [decide_eq_false_iff_not] at this; omega
  refine E3 (A6 (A6 (B5 (A0 (A1 (B9 (E':=[⟨4,[],.string eB⟩]) [0] [4] (k:=A0 (B8 ?_))))))))
  refine E9 1 [] (B7 [.tmp 4] [.string eB] (k:=?_))
  exact ⟨by rw [hT,List.drop_eq_nil_of_le hk]; rfl,rfl⟩
theorem rxinnerW_ (x:XN) (an:Option Addr) (cn:Nat) (al:Option Addr) (cl:Nat) (cs:List Value) (S:Nat→Obj→Prop) (_:Rd S an (xaV x.attrs)) (hrl:Rd S al cs) (hrc:XRdL S x.kids cs) (hw:wtX x≤100000000) (hrec:∀ (y:XN),wtX y<wtX x→wtX y≤100000000→∀ (an:Option Addr) (cn:Nat) (al:Option Addr) (cl:Nat) (cs:List Value),Rd S an (xaV y.attrs)→Rd S al cs→XRdL S y.kids cs→∀ (W0:World) (H:List Grp),(∀ z o,S z o→At W0 H z o)→Tri Tryz.prog 43 #[.agg (xvC y an cn al cl).toArray] W0 H (fun v H'=>v=.string (bk (innX y))∧H'=H)) (W0:World) (H:List Grp) (hS:∀ y o,S y o→At W0 H y o):Tri Tryz.prog 43 #[.agg #[.string (bk x.space),.string (bk x.name),.slice an x.attrs.length cn,.slice al x.kids.length cl,.string (bk x.text)]] W0 H (fun v H'=>v=.string (bk (innX x))∧H'=H):=by
 have hpx:=M0 x
 refine D4 24 Tryz.func43 ?_
 refine A1 (A3 (N4 (.agg #[.string (bk x.space),.string (bk x.name),.slice an x.attrs.length cn,.slice al x.kids.length cl,.string (bk x.text)]) (fun b1=>B4 (E':=[⟨1,[],pt b1⟩]) [0] [1] (k:=A0 (A1 (A1 (A3 (A4 (j:=1) [0] (k:=?_)))))))))
 refine C4 0 1 rfl rfl (A8 [0] [1,8] (k:=A0 (B0 (b:=(bk x.name).toList==eB.toList) kr (fun hc2=>?_) (fun hc2=>?_))))
 ·
  have hn:x.name=[]:=(eqB _ _).1 hc2
  refine A1 (A3 (A4 (j:=1) [0] (k:=C4 0 4 rfl rfl (B4 (E':=[⟨2,[],.string (bk x.text)⟩]) [0] [2] (k:=A0 (B8 (A5 (E9 1 [] ?_))))))))
  refine B7 [.tmp 2] [.string (bk x.text)] (k:=?_)
  exact ⟨by rw [innX_text hn]; try rfl,rfl⟩
 ·
  have hn:x.name≠[]:=(eqBf _ _).1 hc2
  refine A9 (A0 (A1 (G_p [0] [1,3] (k:=A0 (A1 (A1 (A3 (A4 (j:=1) [0] (k:=?_)))))))))
  refine C4 0 3 rfl rfl (A8 [0,0] [3,12,13,14] (k:=A0 (B2 (G_env (E':=[⟨3,[],.string eB⟩,⟨12,[],.slice al x.kids.length cl⟩,⟨13,[],.int .i64 ((x.kids.length:Nat):Int)⟩,⟨14,[],.int .i64 0⟩]) kr ?_))))
  have hi0:eB=bk (innL (x.kids.take 0)):=by rw [List.take_zero,innL_nil]
  refine G_env (E':=[⟨3,[],.string (bk (innL (x.kids.take 0)))⟩,⟨12,[],.slice al x.kids.length cl⟩,⟨13,[],.int .i64 ((x.kids.length:Nat):Int)⟩,⟨14,[],.int .i64 0⟩]) (by rw [← hi0]) (I3 (EI:=(fun ξ:Nat=>[⟨3,[],.string (bk (innL (x.kids.take ξ)))⟩,⟨12,[],.slice al x.kids.length cl⟩,⟨13,[],.int .i64 ((x.kids.length:Nat):Int)⟩,⟨14,[],.int .i64 ((ξ:Nat):Int)⟩])) (HI:=(fun ξ:Nat=>([(b1,.cells #[.string (bk x.space),.string (bk x.name),.slice an x.attrs.length cn,.slice al x.kids.length cl,.string (bk x.text)] 55 (0,0))]::H))) (Φ:=(fun ξ:Nat=>(ξ≤x.kids.length))) (μ:=(fun ξ:Nat=>x.kids.length - ξ)) (s0:=(0)) [3,12,13,14] kr rfl (Nat.zero_le _) ?_)
  rintro k hkl
  refine A1 (G_p [0] [3,12,13,14,15] (k:=A0 (A1 (B0 (b:=decide (((k:Nat):Int)<((x.kids.length:Nat):Int))) kr (fun hc3=>?_) (fun hc3=>?_)))))
  ·
   have hk:k<x.kids.length:=by have:=hc3; simp only [decide_eq_true_eq] at this; omega
   obtain ⟨y,yan,ycn,yal,ycl,ycs,hyx,hye,hya,hyl,hyc,hycn⟩:=hrc.get hk
   have hyw:wtX y<wtX x:=by rw [hyx]; exact W3 hk
   refine A9 (A0 (A1 (B2 (A1 (A3 (E6 x.kids.length ((k:Nat):Int) 5 hrl (by exact ⟨by omega,by omega,by intro h; have h2:=congrArg List.length h; rw [hrc.len] at h2; simp only [List.length_nil] at h2; omega⟩) (G9 (ch:=[]) (a:=al) (q:=k * 5) (S:=S) (cs:=cs) (l:=[.string (bk y.space),.string (bk y.name),.slice yan y.attrs.length ycn,.slice yal y.kids.length ycl,.string (bk y.text)]) (hrd:=hrl) (hS:=(fun y o h=>At.cons ((hS y o h)))) (hl:=List.cons_ne_nil _ _) (hv:=(fun _=>(elt5 hye))) (k:=J5 (.agg zN.toArray) (fun b4=>?_)))))))))
   refine E4 0 0 (.agg #[.string (bk y.space),.string (bk y.name),.slice yan y.attrs.length ycn,.slice yal y.kids.length ycl,.string (bk y.text)]) rfl (A8 [] [3,5,12,13,14] (k:=A0 (A3 (A4 (j:=1) [0] (k:=I7 0 0 5 rfl (F8 Tryz.func43 (hrec y hyw (by omega) yan ycn yal ycl ycs hya hyl hyc _ _ (fun y o h=>At.cons (At.cons ((hS y o h))))) (K5 (bk (innL (x.kids.take k))) (bk (innX y)) (by intro _; rw [C8,C8]; have h1:=innL_len (x.kids.take k); have h2:=wtXL_take x.kids k; have h3:=inn_len y; omega) (F6 21 (x:=.string ((bk (innL (x.kids.take k)))++(bk (innX y)))) (y:=.string (bk (innL (x.kids.take (k+1))))) (by rw [bk_app,innL_take hk,← hyx]) ?_))))))))
   refine A8 [0] [3,12,13,14] (k:=B6 (A0 (A3 (A4 (j:=1) [0] (k:=D0 22 (((k:Nat):Int)+1) (by omega) (by omega) kr (A8 [0] [3,12,13,14] (k:=E9 1 [1] (D2 (s':=(k+1)) [3,12,13,14] kr kr (by omega) (by omega)))))))))
  ·
   have hk:x.kids.length≤k:=by have:=hc3; simp only [decide_eq_false_iff_not] at this; omega
   refine E3 (A6 (A6 (B5 (A0 (A1 (G_p [0,0] [2] (k:=A0 (B8 ?_))))))))
   refine E9 1 [] (B7 [.tmp 2] [.string (bk (innL (x.kids.take k)))] (k:=?_))
   exact ⟨by rw [innX_el hn,List.take_of_length_le hk]; try rfl,rfl⟩
theorem rxinner_:∀ (n:Nat) (x:XN),wtX x≤n→wtX x≤100000000→∀ (an:Option Addr) (cn:Nat) (al:Option Addr) (cl:Nat) (cs:List Value) (S:Nat→Obj→Prop),Rd S an (xaV x.attrs)→Rd S al cs→XRdL S x.kids cs→∀ (W0:World) (H:List Grp),(∀ z o,S z o→At W0 H z o)→Tri Tryz.prog 43 #[.agg (xvC x an cn al cl).toArray] W0 H (fun v H'=>v=.string (bk (innX x))∧H'=H)
  | 0,x,h,_,_,_,_,_,_,_,_,_,_,_,_,_=>absurd (wtX_pos x) (by omega)
  | n+1,x,h,hd,an,cn,al,cl,cs,S,h1,h2,h3,W0,H,hS=>rxinnerW_ x an cn al cl cs S h1 h2 h3 hd (fun y hy hdy an cn al cl cs h1 h2 h3 W0 H hS=>rxinner_ n y (by omega) hdy an cn al cl cs S h1 h2 h3 W0 H hS) W0 H hS
end Go.Proofs.YtppgfiklmfoaeaaGreatDoor
namespace Go.Sw
def cellOk (P:Program) (t:TypeId):Value→Value→Bool
  | .string _,.string _=>(match P.underlying t with | some .string=>true | _=>false)
  | .bool _,.bool _=>(match P.underlying t with | some .bool=>true | _=>false)
  | _,_=>false
def fldOk (P:Program):List Field→Nat→List Value→List Value→Bool
  | [],_,[],[]=>true
  | f :: fs, i, a :: xs, b :: ys => f.name != "_" && f.offset == i && cellOk P f.type a b && fldOk P fs (i + 1) xs ys
  | _,_,_,_=>false
def cellEq:Value→Value→Bool
  | .string a,.string b=>a.toList==b.toList
  | .bool a,.bool b=>a==b
  | _,_=>true
def V5:List Value→List Value→Bool
  | a::xs,b::ys=>cellEq a b&&V5 xs ys
  | _,_=>true
theorem part_one {P:Program} {t:TypeId} {A:Array Value} {i:Nat} {v:Value} (w:World) (ht:P.underlying t=some .string∨P.underlying t=some .bool) (h:A[i]? = some v):(part t A i).run P w=.ok v w:=by
  unfold part isAgg
  rcases ht with ht | ht <;> simp [run_underlying ht,h]
theorem eqB_b (a b:ByteArray):(a==b)=(a.toList==b.toList):=by
  rw [Go.Lib.toList_data,Go.Lib.toList_data]
  show (a.data==b.data)=_
  rw [Bool.eq_iff_iff,beq_iff_eq,beq_iff_eq]
  exact ⟨fun h=>by rw [h],fun h=>Array.ext' h⟩
theorem cellOk_eq {P:Program} {t:TypeId} {a b:Value} (h:cellOk P t a b=true) (w:World) (d:Nat):(P.underlying t=some .string∨P.underlying t=some .bool)∧(Op.equalIn (d+1) t a b).run P w=.ok (cellEq a b) w:=by
  unfold cellOk at h
  split at h
  · split at h
    · rename_i ht; refine ⟨.inl ht,?_⟩
      rw [Op.equalIn]
      simp only [Sem.run_bind,run_underlying ht,Result.andThen_ok]
      show Result.ok _ w=_
      rw [eqB_b]; rfl
    · cases h
  · split at h
    · rename_i ht; refine ⟨.inr ht,?_⟩
      rw [Op.equalIn]
      simp only [Sem.run_bind,run_underlying ht,Result.andThen_ok]
      rfl
    · cases h
  · cases h
theorem cellsEq_same:∀ A:List Value,V5 A A=true
  | []=>rfl
  | a::A=>by
    rw [V5,cellsEq_same A,Bool.and_true]
    cases a <;> first | rfl | exact beq_self_eq_true _
theorem run_flds {P : Program} (w : World) (A B : Array Value) (F : Field → Option Bool × Unit → Sem (ForInStep (Option Bool × Unit))) (hF : ∀ f a b, A[f.offset]? = some a → B[f.offset]? = some b → f.name ≠ "_" → cellOk P f.type a b = true → (F f (none, ())).run P w = .ok (if cellEq a b then .yield (none, ()) else .done (some false, ())) w) :
    ∀ (fs:List Field) (i:Nat) (xs ys:List Value),fldOk P fs i xs ys=true→(∀ j v,xs[j]? = some v→A[i+j]? = some v)→(∀ j v,ys[j]? = some v→B[i+j]? = some v)→(forIn fs (none,()) F).run P w=.ok (if V5 xs ys then (none,()) else (some false,())) w
  | [],i,[],[],h,_,_=>rfl
  | [],i,[],_::_,h,_,_=>by cases h
  | [],i,_::_,_,h,_,_=>by unfold fldOk at h; cases h
  | _::_,i,[],_,h,_,_=>by unfold fldOk at h; cases h
  | _::_,i,_::_,[],h,_,_=>by unfold fldOk at h; cases h
  | f::fs,i,a::xs,b::ys,h,hA,hB=>by
    rw [fldOk,Bool.and_eq_true,Bool.and_eq_true,Bool.and_eq_true] at h
    obtain ⟨⟨⟨h1,h2⟩,h3⟩,h4⟩:=h
    have ho:f.offset=i:=by simpa using h2
    have hf:=hF f a b (by rw [ho]; exact hA 0 a rfl) (by rw [ho]; exact hB 0 b rfl) (by simpa using h1) h3
    have ih:=run_flds w A B F hF fs (i+1) xs ys h4 (fun j v hv=>by rw [Nat.add_assoc,Nat.add_comm 1]; exact hA (j+1) v hv) (fun j v hv=>by rw [Nat.add_assoc,Nat.add_comm 1]; exact hB (j+1) v hv)
    rw [List.forIn_cons,Sem.run_bind,hf,Result.andThen_ok]
    rw [V5]
    cases cellEq a b
    · rfl
    · simp only [if_true,Bool.true_and]; exact ih
theorem run_eqAgg {P:Program} (A B:Array Value) (w:World) (t:TypeId) (fs:Array Field) (ht:P.underlying t=some (.struct fs)) (hst:P.stoodInHeld t=false) (h:fldOk P fs.toList 0 A.toList B.toList=true) (d:Nat) :
    (Op.equalIn (d+2) t (.agg A) (.agg B)).run P w=.ok (V5 A.toList B.toList) w:=by
  rw [Op.equalIn]
  simp only [Sem.run_bind,run_underlying ht,Result.andThen_ok]
  rw [show (program).run P w=.ok P w from rfl]
  simp only [Result.andThen_ok,hst]
  rw [if_neg (by decide)]
  simp only [Sem.run_bind]
  rw [← Array.forIn_toList,run_flds w A B _ ?_ fs.toList 0 A.toList B.toList h (fun j v hv=>by rw [Nat.zero_add,← Array.getElem?_toList]; exact hv) (fun j v hv=>by rw [Nat.zero_add,← Array.getElem?_toList]; exact hv)]
  · cases V5 A.toList B.toList <;> rfl
  · intro f a b ha hb hn hc
    obtain ⟨h1,h2⟩:=cellOk_eq hc w d
    rw [if_pos hn]
    simp only [Sem.run_bind,part_one w h1 ha,part_one w h1 hb,h2,Result.andThen_ok]
    cases cellEq a b <;> rfl
def isEqT (P:Program) (t:TypeId) (xs ys:List Value):Bool:=match P.underlying t with
  | some (.struct fs)=>fldOk P fs.toList 0 xs ys&&!P.stoodInHeld t&&!P.eqGuardType P.depth t
  | _=>false
theorem run_binAgg {P:Program} (A B:List Value) (w:World) (t:TypeId) (h:isEqT P t A B=true) (ne:Bool) (x y:Operand) :
    (binOp (if ne then .neq else .eql) t (.agg A.toArray) (.agg B.toArray)).run P w=.ok (.bool (bif ne then !V5 A B else V5 A B)) w∧(eqGuard (if ne then .neq else .eql) t x y (.agg A.toArray) (.agg B.toArray)).run P w=.ok () w:=by
  unfold isEqT at h
  split at h
  · rename_i fs ht
    rw [Bool.and_eq_true,Bool.and_eq_true,Bool.not_eq_true',Bool.not_eq_true'] at h
    obtain ⟨⟨h1,h2⟩,h3⟩:=h
    have hr:=run_eqAgg A.toArray B.toArray w t fs ht h2 h1 9998
    constructor
    · cases ne
      · show (do pure (Value.bool (← Op.equal t (.agg A.toArray) (.agg B.toArray)))).run P w=_
        unfold Op.equal Op.maxDepth
        rw [Sem.run_bind,hr,Result.andThen_ok]; simp
      · show (do pure (Value.bool (!(← Op.equal t (.agg A.toArray) (.agg B.toArray))))).run P w=_
        unfold Op.equal Op.maxDepth
        rw [Sem.run_bind,hr,Result.andThen_ok]; simp
    · unfold eqGuard
      have hp:(program).run P w=.ok P w:=rfl
      cases ne <;> simp [hp,h3]
  · cases h
theorem GL_eqAgg {d:Bool} {P:Program} {ops:Array Oper} {i:Nat} {Q:E5} {n:Fr} {E:Env} {W0:World} {H:List Grp} {o:Oper} {ch:List (Nat × Bool)} {t t2:TypeId} {x y:Operand} {A B:List Value} {r:Bool} (ne:Bool)
    (ho:ops[i]? = some o) (hop:o.op=.binOp (if ne then .neq else .eql) t x y t2) (hx:evO E ch x=some (.agg A.toArray)) (hy:evO E ch y=some (.agg B.toArray)) (ht:isEqT P t A B=true) (hr:(bif ne then !V5 A B else V5 A B)=r)
    (hch:D5 ops E o.guard=some ch) (hd:F3 n ch o.dst=true) (hk:J4 E ch=true)
    (k:GL d P ops (i+1) Q n (Env.put E o.dst ch (.bool r)) W0 H):GL d P ops i Q n E W0 H:=by
  refine I5 ho hch hd hk (fun r hr _ w hsat=>?_) k
  unfold execOp
  simp only [hop]
  rw [hr _ _ hx,hr _ _ hy]
  obtain ⟨h1,h2⟩:=run_binAgg (P:=P) A B w t ht ne x y
  subst_vars
  simp only [Sem.run_bind,h2,h1,Result.andThen_ok]
  exact ⟨rfl,rfl⟩
end Go.Sw
namespace Go.Xml
open Go.Esc Go.Json Go.Lib
mutual
def cnX:XN→Nat
  | .mk _ _ ats l _=>1+ats.length+cnXL l
def cnXL:List XN→Nat
  | []=>0
  | v::l=>cnX v+cnXL l
end
theorem cnX_eq (s n:List UInt8) (ats:List XA) (l:List XN) (t:List UInt8):cnX (.mk s n ats l t)=1+ats.length+cnXL l:=by simp only [cnX]
theorem cnXL_cons (v:XN) (l:List XN):cnXL (v::l)=cnX v+cnXL l:=by simp only [cnXL]
theorem cnX_pos (v:XN):0<cnX v:=by cases v; rw [cnX_eq]; omega
theorem cnX_sum (x:XN):cnX x=1+x.attrs.length+cnXL x.kids:=by cases x; exact cnX_eq _ _ _ _ _
theorem cnXL_len:∀ l:List XN,l.length≤cnXL l
  | []=>Nat.zero_le _
  | v::l=>by have:=cnXL_len l; have:=cnX_pos v; rw [cnXL_cons,List.length_cons]; omega
theorem cnX_parts (x:XN):x.attrs.length+x.kids.length+1≤cnX x:=by
  have:=cnXL_len x.kids
  rw [cnX_sum]; omega
theorem cnXL_at:∀ {l:List XN} {i:Nat} (h:i<l.length),cnX l[i]≤cnXL l
  | [],_,h=>absurd h (Nat.not_lt_zero _)
  | v::l,0,_=>by rw [cnXL_cons]; show cnX v≤_; omega
  | v::l,i+1,h=>by
    have hi:i<l.length:=by simpa using h
    have:=cnXL_at hi
    rw [cnXL_cons]; show cnX l[i]≤_; omega
theorem cnX_kid {x:XN} {i:Nat} (h:i<x.kids.length):cnX x.kids[i]<cnX x:=by
  have:=cnXL_at h
  rw [cnX_sum x]; omega
mutual
theorem cnX_wt:∀ x:XN,cnX x≤wtX x
  | .mk s n ats l t=>by
    have h1:=cnXL_wt l
    have h2:=wtA_len ats
    rw [cnX_eq,wtX_eq]; omega
theorem cnXL_wt:∀ l:List XN,cnXL l≤wtXL l
  | []=>Nat.le_refl _
  | v::l=>by
    have h1:=cnX_wt v
    have h2:=cnXL_wt l
    rw [cnXL_cons,N9]; omega
end
end Go.Xml
namespace Go.Proofs.YtppgfiklmfoaeaaGreatDoor
open Go.Sw Go.Sha Go.Esc Go.RowKit Go.Json Go.Xml
theorem xsameW_ (x:XN) (an:Option Addr) (cn:Nat) (al:Option Addr) (cl:Nat) (cs:List Value) (S:Nat→Obj→Prop) (hra:Rd S an (xaV x.attrs)) (hrl:Rd S al cs) (hrc:XRdL S x.kids cs) (an2:Option Addr) (cn2:Nat) (al2:Option Addr) (cl2:Nat) (cs2:List Value) (S2:Nat→Obj→Prop) (hra2:Rd S2 an2 (xaV x.attrs)) (hrl2:Rd S2 al2 cs2) (hrc2:XRdL S2 x.kids cs2) (hw:cnX x≤100000000) (hrec:∀ (y:XN),cnX y<cnX x→cnX y≤100000000→∀ (an:Option Addr) (cn:Nat) (al:Option Addr) (cl:Nat) (cs:List Value),Rd S an (xaV y.attrs)→Rd S al cs→XRdL S y.kids cs→∀ (an2:Option Addr) (cn2:Nat) (al2:Option Addr) (cl2:Nat) (cs2:List Value),Rd S2 an2 (xaV y.attrs)→Rd S2 al2 cs2→XRdL S2 y.kids cs2→∀ (W0:World) (H:List Grp),(∀ z o,S z o→At W0 H z o)→(∀ z o,S2 z o→At W0 H z o)→Tri Tryz.prog 31 #[.agg (xvC y an cn al cl).toArray,.agg (xvC y an2 cn2 al2 cl2).toArray] W0 H (fun v H'=>v=.bool true∧H'=H)) (W0:World) (H:List Grp) (hS:∀ y o,S y o→At W0 H y o) (hS2:∀ y o,S2 y o→At W0 H y o):Tri Tryz.prog 31 #[.agg #[.string (bk x.space),.string (bk x.name),.slice an x.attrs.length cn,.slice al x.kids.length cl,.string (bk x.text)],.agg #[.string (bk x.space),.string (bk x.name),.slice an2 x.attrs.length cn2,.slice al2 x.kids.length cl2,.string (bk x.text)]] W0 H (fun v H'=>v=.bool true∧H'=H):=by
 have hpx:=cnX_parts x
 refine D4 81 Tryz.func31 ?_
 refine A1 (A3 (N4 (.agg #[.string (bk x.space),.string (bk x.name),.slice an x.attrs.length cn,.slice al x.kids.length cl,.string (bk x.text)]) (fun b1=>N4 (.agg #[.string (bk x.space),.string (bk x.name),.slice an2 x.attrs.length cn2,.slice al2 x.kids.length cl2,.string (bk x.text)]) (fun b2=>?_))))
 refine B4 (E':=[⟨2,[],pt b1⟩,⟨3,[],pt b2⟩]) [0] [2,3] (k:=A0 (A1 (A1 (A3 (A4 (j:=1) [0] (k:=C4 1 0 rfl rfl (A4 (j:=3) [0] (k:=C4 0 0 rfl rfl ?_))))))))
 refine A4 (j:=7) [0,0,0] (k:=C2 (ch:=[(12,false)]) (b:=b1) (off:=1) (v:=.string (bk x.name)) (hA:=At.grp 1 0 rfl rfl) (k:=A4 (j:=9) [0] (k:=C2 (ch:=[(12,false)]) (b:=b2) (off:=1) (v:=.string (bk x.name)) (hA:=At.grp 0 0 rfl rfl) (k:=A4 (j:=14) [0,5,0,0] (k:=C2 (ch:=[(19,false)]) (b:=b1) (off:=4) (v:=.string (bk x.text)) (hA:=At.grp 1 0 rfl rfl) (k:=A4 (j:=16) [0] (k:=C2 (ch:=[(19,false)]) (b:=b2) (off:=4) (v:=.string (bk x.text)) (hA:=At.grp 0 0 rfl rfl) (k:=A4 (j:=21) [0,5,0,0] (k:=?_)))))))))
 refine C2 (ch:=[(26,false)]) (b:=b1) (off:=2) (v:=.slice an x.attrs.length cn) (hA:=At.grp 1 0 rfl rfl) (k:=A4 (j:=24) [0,0] (k:=C2 (ch:=[(26,false)]) (b:=b2) (off:=2) (v:=.slice an2 x.attrs.length cn2) (hA:=At.grp 0 0 rfl rfl) (k:=A4 (j:=30) [0,0,5,0,0] (k:=C2 (ch:=[(35,false)]) (b:=b1) (off:=3) (v:=.slice al x.kids.length cl) (hA:=At.grp 1 0 rfl rfl) (k:=A4 (j:=33) [0,0] (k:=C2 (ch:=[(35,false)]) (b:=b2) (off:=3) (v:=.slice al2 x.kids.length cl2) (hA:=At.grp 0 0 rfl rfl) (k:=A8 [0,0,5] [2,3,43] (k:=A0 ?_))))))))
 refine B0 (b:=((((!((bk x.space).toList==(bk x.space).toList))||(!((bk x.name).toList==(bk x.name).toList)))||(!((bk x.text).toList==(bk x.text).toList)))||(((x.attrs.length:Nat):Int) != ((x.attrs.length:Nat):Int)))||(((x.kids.length:Nat):Int) != ((x.kids.length:Nat):Int))) kr (fun hc3=>?_) (fun hc3=>?_)
 ·
  simp at hc3
 ·
  skip
  refine A9 (A0 (A1 (A1 (A3 (A4 (j:=1) [0] (k:=C4 1 2 rfl rfl (A8 [0,0] [2,3,46,47] (k:=A0 ?_))))))))
  refine B2 (I3 (EI:=(fun ξ:Nat=>[⟨2,[],pt b1⟩,⟨3,[],pt b2⟩,⟨46,[],.int .i64 ((x.attrs.length:Nat):Int)⟩,⟨47,[],.int .i64 ((ξ:Nat):Int)⟩])) (HI:=(fun ξ:Nat=>([(b2,.cells #[.string (bk x.space),.string (bk x.name),.slice an2 x.attrs.length cn2,.slice al2 x.kids.length cl2,.string (bk x.text)] 55 (0,0))]::[(b1,.cells #[.string (bk x.space),.string (bk x.name),.slice an x.attrs.length cn,.slice al x.kids.length cl,.string (bk x.text)] 55 (0,0))]::H))) (Φ:=(fun ξ:Nat=>(ξ≤x.attrs.length))) (μ:=(fun ξ:Nat=>x.attrs.length - ξ)) (s0:=(0)) [2,3,46,47] kr rfl (Nat.zero_le _) ?_)
  rintro k hkl
  refine A1 (G_p [0] [2,3,46,47,48] (k:=A0 (A1 (B0 (b:=decide (((k:Nat):Int)<((x.attrs.length:Nat):Int))) kr (fun hc4=>?_) (fun hc4=>?_)))))
  ·
   have hk:k<x.attrs.length:=by have:=hc4; simp only [decide_eq_true_eq] at this; omega
   obtain ⟨y,hy⟩:∃ y,y=x.attrs[k]'hk:=⟨_,rfl⟩
   refine A9 (A0 (A1 (B2 (A1 (G_p [0,0] [2,3,5,46,47] (k:=A0 (A1 (H0 (k:=?_)))))))))
   refine A4 (j:=1) [0] (k:=C4 1 2 rfl rfl (A4 (j:=3) [0] (k:=E6 x.attrs.length ((k:Nat):Int) 3 hra (by exact ⟨by omega,by omega,by intro h; have h2:=congrArg List.length h; rw [Q6] at h2; simp only [List.length_nil] at h2; omega⟩) (G9 (ch:=[]) (a:=an) (q:=k * 3) (S:=S) (cs:=(xaV x.attrs)) (l:=[.string (bk y.space),.string (bk y.name),.string (bk y.value)]) (hrd:=hra) (hS:=(fun y o h=>At.cons (At.cons ((hS y o h))))) (hl:=List.cons_ne_nil _ _) (hv:=(fun _=>(elt3 (by rw [hy]; exact W7 hk)))) (k:=A4 (j:=6) [0] (k:=C4 0 2 rfl rfl (A4 (j:=8) [0] (k:=E6 x.attrs.length ((k:Nat):Int) 3 hra2 (by exact ⟨by omega,by omega,by intro h; have h2:=congrArg List.length h; rw [Q6] at h2; simp only [List.length_nil] at h2; omega⟩) ?_))))))))
   refine G9 (ch:=[]) (a:=an2) (q:=k * 3) (S:=S2) (cs:=(xaV x.attrs)) (l:=[.string (bk y.space),.string (bk y.name),.string (bk y.value)]) (hrd:=hra2) (hS:=(fun y o h=>At.cons (At.cons ((hS2 y o h))))) (hl:=List.cons_ne_nil _ _) (hv:=(fun _=>(elt3 (by rw [hy]; exact W7 hk)))) (k:=GL_eqAgg true (i:=10) (ch:=[]) (A:=[.string (bk y.space),.string (bk y.name),.string (bk y.value)]) (B:=[.string (bk y.space),.string (bk y.name),.string (bk y.value)]) (r:=false) rfl rfl kr kr kr (by rw [cellsEq_same]; rfl) kr kr kr (A8 [] [2,3,46,47,60] (k:=A0 (C9 kr (A9 (B6 (A0 (A3 ?_))))))))
   refine A4 (j:=1) [0] (k:=D0 61 (((k:Nat):Int)+1) (by omega) (by omega) kr (A8 [0] [2,3,46,47] (k:=D2 (s':=(k+1)) [2,3,46,47] kr rfl (by omega) (by omega))))
  ·
   have hk:x.attrs.length≤k:=by have:=hc4; simp only [decide_eq_false_iff_not] at this; omega
   refine E3 (A6 (A6 (B5 (A0 (A1 (A1 (A3 (A4 (j:=1) [0] (k:=?_)))))))))
   refine C4 1 3 rfl rfl (A8 [0,0] [2,3,64,65] (k:=A0 (B2 (I3 (EI:=(fun ξ:Nat=>[⟨2,[],pt b1⟩,⟨3,[],pt b2⟩,⟨64,[],.int .i64 ((x.kids.length:Nat):Int)⟩,⟨65,[],.int .i64 ((ξ:Nat):Int)⟩])) (HI:=(fun ξ:Nat=>([(b2,.cells #[.string (bk x.space),.string (bk x.name),.slice an2 x.attrs.length cn2,.slice al2 x.kids.length cl2,.string (bk x.text)] 55 (0,0))]::[(b1,.cells #[.string (bk x.space),.string (bk x.name),.slice an x.attrs.length cn,.slice al x.kids.length cl,.string (bk x.text)] 55 (0,0))]::H))) (Φ:=(fun ξ:Nat=>(ξ≤x.kids.length))) (μ:=(fun ξ:Nat=>x.kids.length - ξ)) (s0:=(0)) [2,3,64,65] kr rfl (Nat.zero_le _) ?_))))
   rintro k hkl
   refine A1 (G_p [0] [2,3,64,65,66] (k:=A0 (A1 (B0 (b:=decide (((k:Nat):Int)<((x.kids.length:Nat):Int))) kr (fun hc6=>?_) (fun hc6=>?_)))))
   ·
    have hk:k<x.kids.length:=by have:=hc6; simp only [decide_eq_true_eq] at this; omega
    obtain ⟨y,yan,ycn,yal,ycl,ycs,hyx,hye,hya,hyl,hyc,hycn⟩:=hrc.get hk
    have hyw:cnX y<cnX x:=by rw [hyx]; exact cnX_kid hk
    obtain ⟨y2,yan2,ycn2,yal2,ycl2,ycs2,hyx2,hye2,hya2,hyl2,hyc2,hycn2⟩:=hrc2.get hk
    have hyy:y2=y:=hyx2.trans hyx.symm
    rw [hyy] at hye2 hya2 hyc2
    refine A9 (A0 (A1 (B2 (A1 (G_p [0,0] [2,3,6,64,65] (k:=A0 (A1 (H0 (k:=?_)))))))))
    refine A4 (j:=1) [0] (k:=C4 1 3 rfl rfl (A4 (j:=3) [0] (k:=E6 x.kids.length ((k:Nat):Int) 5 hrl (by first | exact ⟨by omega,by omega,by intro h; have h2:=congrArg List.length h; rw [hrc.len] at h2; simp only [List.length_nil] at h2; omega⟩ | exact ⟨by omega,by omega,by intro h; have h2:=congrArg List.length h; rw [hrc2.len] at h2; simp only [List.length_nil] at h2; omega⟩) (G9 (ch:=[]) (a:=al) (q:=k * 5) (S:=S) (cs:=cs) (l:=[.string (bk y.space),.string (bk y.name),.slice yan y.attrs.length ycn,.slice yal y.kids.length ycl,.string (bk y.text)]) (hrd:=hrl) (hS:=(fun y o h=>At.cons (At.cons ((hS y o h))))) (hl:=List.cons_ne_nil _ _) (hv:=(fun _=>(elt5 hye))) (k:=A4 (j:=6) [0] (k:=C4 0 3 rfl rfl (A4 (j:=8) [0] (k:=E6 x.kids.length ((k:Nat):Int) 5 hrl2 (by first | exact ⟨by omega,by omega,by intro h; have h2:=congrArg List.length h; rw [hrc.len] at h2; simp only [List.length_nil] at h2; omega⟩ | exact ⟨by omega,by omega,by intro h; have h2:=congrArg List.length h; rw [hrc2.len] at h2; simp only [List.length_nil] at h2; omega⟩) ?_))))))))
    refine G9 (ch:=[]) (a:=al2) (q:=k * 5) (S:=S2) (cs:=cs2) (l:=[.string (bk y.space),.string (bk y.name),.slice yan2 y.attrs.length ycn2,.slice yal2 y.kids.length ycl2,.string (bk y.text)]) (hrd:=hrl2) (hS:=(fun y o h=>At.cons (At.cons ((hS2 y o h))))) (hl:=List.cons_ne_nil _ _) (hv:=(fun _=>(elt5 hye2))) (k:=F8 Tryz.func31 (hrec y hyw (by omega) yan ycn yal ycl ycs hya hyl hyc yan2 ycn2 yal2 ycl2 ycs2 hya2 hyl2 hyc2 _ _ (fun y o h=>At.cons (At.cons ((hS y o h)))) (fun y o h=>At.cons (At.cons ((hS2 y o h))))) (A8 [0] [2,3,64,65,79] (k:=A0 (C9 kr (A9 (B6 (A0 (A3 ?_))))))))
    refine A4 (j:=1) [0] (k:=D0 80 (((k:Nat):Int)+1) (by omega) (by omega) kr (A8 [0] [2,3,64,65] (k:=D2 (s':=(k+1)) [2,3,64,65] kr rfl (by omega) (by omega))))
   ·
    have hk:x.kids.length≤k:=by have:=hc6; simp only [decide_eq_false_iff_not] at this; omega
    refine E3 (A6 (A6 (B5 (A0 (A1 (B9 (E':=[⟨4,[],.bool true⟩]) [0] [4] (k:=A0 (B8 ?_))))))))
    refine E9 2 [] (B7 [.tmp 4] [.bool true] (k:=?_))
    exact ⟨rfl,rfl⟩
theorem xsame_:∀ (n:Nat) (x:XN),cnX x≤n→cnX x≤100000000→∀ (an:Option Addr) (cn:Nat) (al:Option Addr) (cl:Nat) (cs:List Value) (S:Nat→Obj→Prop),Rd S an (xaV x.attrs)→Rd S al cs→XRdL S x.kids cs→∀ (an2:Option Addr) (cn2:Nat) (al2:Option Addr) (cl2:Nat) (cs2:List Value) (S2:Nat→Obj→Prop),Rd S2 an2 (xaV x.attrs)→Rd S2 al2 cs2→XRdL S2 x.kids cs2→∀ (W0:World) (H:List Grp),(∀ z o,S z o→At W0 H z o)→(∀ z o,S2 z o→At W0 H z o)→Tri Tryz.prog 31 #[.agg (xvC x an cn al cl).toArray,.agg (xvC x an2 cn2 al2 cl2).toArray] W0 H (fun v H'=>v=.bool true∧H'=H)
  | 0,x,h,_,_,_,_,_,_,_,_,_,_,_,_,_,_,_,_,_,_,_,_,_,_,_=>absurd (cnX_pos x) (by omega)
  | n+1,x,h,hd,an,cn,al,cl,cs,S,h1,h2,h3,an2,cn2,al2,cl2,cs2,S2,k1,k2,k3,W0,H,hS,hS2=>xsameW_ x an cn al cl cs S h1 h2 h3 an2 cn2 al2 cl2 cs2 S2 k1 k2 k3 hd (fun y hy hdy an cn al cl cs h1 h2 h3 an2 cn2 al2 cl2 cs2 k1 k2 k3 W0 H hS hS2=>xsame_ n y (by omega) hdy an cn al cl cs S h1 h2 h3 an2 cn2 al2 cl2 cs2 S2 k1 k2 k3 W0 H hS hS2) W0 H hS hS2
theorem xsameC (x:XN) (hd:cnX x≤100000000) (c c2:List Value) (S S2:Nat→Obj→Prop) (h:XRd S x c) (h2:XRd S2 x c2) (W0:World) (H:List Grp) (hS:∀ z o,S z o→At W0 H z o) (hS2:∀ z o,S2 z o→At W0 H z o):Tri Tryz.prog 31 #[.agg c.toArray,.agg c2.toArray] W0 H (fun v H'=>v=.bool true∧H'=H):=by
  obtain ⟨an,al,cn,cl,cs,rfl,a1,a2,a3,_⟩:=h.shape
  obtain ⟨an2,al2,cn2,cl2,cs2,rfl,b1,b2,b3,_⟩:=h2.shape
  exact xsame_ (cnX x) x (Nat.le_refl _) hd an cn al cl cs S a1 a2 a3 an2 cn2 al2 cl2 cs2 S2 b1 b2 b3 W0 H hS hS2
end Go.Proofs.YtppgfiklmfoaeaaGreatDoor
namespace Go.Proofs.YtppgfiklmfoaeaaGreatDoor
open Go.Sw Go.Sha Go.Esc Go.RowKit Go.Json Go.Xml
theorem xrdGet {S:Nat→Obj→Prop} {l:List XN} {cs:List Value} {k:Nat} (h:k<l.length) (hc:XRdL S l cs) (y:XN) (hy:y=l[k]):∃ an cn al cl,(cs.drop (k * 5)).take 5=xvC y an cn al cl∧XRd S y (xvC y an cn al cl):=by
  obtain ⟨z,an,cn,al,cl,cs2,rfl,he,h1,h2,h3,h4⟩:=hc.get h
  subst hy
  exact ⟨an,cn,al,cl,he,XRd.of h4 h1 h2 h3⟩
theorem nulRd {S:Nat→Obj→Prop}:XRd S (.mk [] [] [] [] []) zN:=XRd.mk (ats:=[]) (l:=[]) (Nat.le_refl 0) (.inl rfl) (.inl rfl) .nil
theorem all_wt {x y:XN} {sp nm:List UInt8} (h:y∈allX x sp nm):wtX y≤wtX x:=by
  have h1:y∈x.kids:=(List.mem_filter.1 h).1
  obtain ⟨k,hk,rfl⟩:=List.getElem_of_mem h1
  exact Nat.le_of_lt (W3 hk)
theorem rxsizeC (x:XN) (c:List Value) (S:Nat→Obj→Prop) (h:XRd S x c) (W0:World) (H:List Grp) (hS:∀ z o,S z o→At W0 H z o):Tri Tryz.prog 33 #[.agg c.toArray,.int .i64 40] W0 H (fun v H'=>v=.int .i64 (szX 40 x)∧H'=H):=by
  obtain ⟨an,al,cn,cl,cs,rfl,a1,a2,a3,a4⟩:=h.shape
  exact rxsize_ (wtX x) x (Nat.le_refl _) 40 (by decide) 40 (by decide) an cn al cl cs S a1 a2 a3 W0 H hS
theorem xallV (x:XN) (c:List Value) (S:Nat→Obj→Prop) (h:XRd S x c) (hw:wtX x≤100000000) (sp nm:List UInt8) (B:List XN) (hB:allX x sp nm=B) (W0:World) (H:List Grp) (hS:∀ z o,S z o→At W0 H z o):Tri Tryz.prog 37 #[.agg c.toArray,.string (bk sp),.string (bk nm)] W0 H (fun v H'=>∃ a c g co,v=.slice a B.length c∧Go.Sw.Own 55 5 (.slice a B.length c) g B.length co∧XRdL S B co∧H'=g::H):=by
  obtain ⟨an,al,cn,cl,cs,rfl,a1,a2,a3,a4⟩:=h.shape
  subst hB
  exact xall_ x an cn al cl cs S a1 a2 a3 sp nm hw W0 H hS
theorem rxallV (x:XN) (c:List Value) (S:Nat→Obj→Prop) (h:XRd S x c) (hw:wtX x≤100000000) (sp nm:List UInt8) (B:List XN) (hB:allX x sp nm=B) (W0:World) (H:List Grp) (hS:∀ z o,S z o→At W0 H z o):Tri Tryz.prog 38 #[.agg c.toArray,.string (bk sp),.string (bk nm)] W0 H (fun v H'=>∃ a c g co,v=.slice a B.length c∧Go.Sw.Own 55 5 (.slice a B.length c) g B.length co∧XRdL S B co∧H'=g::H):=by
  obtain ⟨an,al,cn,cl,cs,rfl,a1,a2,a3,a4⟩:=h.shape
  subst hB
  exact rxall_ x an cn al cl cs S a1 a2 a3 sp nm hw W0 H hS
theorem xfindC0 (x:XN) (c:List Value) (S:Nat→Obj→Prop) (h:XRd S x c) (hw:wtX x≤100000000) (sp nm:List UInt8) (hy:allX x sp nm=[]) (W0:World) (H:List Grp) (hS:∀ z o,S z o→At W0 H z o):Tri Tryz.prog 39 #[.agg c.toArray,.string (bk sp),.string (bk nm)] W0 H (fun v H'=>v=.tuple #[.agg zN.toArray,.bool false]∧H'=H):=by
  obtain ⟨an,al,cn,cl,cs,rfl,a1,a2,a3,a4⟩:=h.shape
  refine (xfind_ x an cn al cl cs S a1 a2 a3 sp nm hw W0 H hS).post fun v H' ⟨h1,h2⟩=>⟨H',?_,fun _ h=>h⟩
  rcases h1 with ⟨_,h1⟩ | ⟨y',l',yan,ycn,yal,ycl,ycs,h1,_⟩
  · exact ⟨h1,h2⟩
  · rw [hy] at h1; cases h1
theorem rxvalueC (x:XN) (c:List Value) (S:Nat→Obj→Prop) (h:XRd S x c) (hw:wtX x≤100000000) (nm:List UInt8) (W0:World) (H:List Grp) (hS:∀ z o,S z o→At W0 H z o):Tri Tryz.prog 41 #[.agg c.toArray,.string (bk nm)] W0 H (fun v H'=>v=.string (bk (vlX x.attrs nm))∧H'=H):=by
  obtain ⟨an,al,cn,cl,cs,rfl,a1,a2,a3,a4⟩:=h.shape
  exact rxvalue_ x an cn al cl cs S a1 a2 a3 nm hw W0 H hS
theorem rxinnerC (x:XN) (c:List Value) (S:Nat→Obj→Prop) (h:XRd S x c) (hw:wtX x≤100000000) (W0:World) (H:List Grp) (hS:∀ z o,S z o→At W0 H z o):Tri Tryz.prog 43 #[.agg c.toArray] W0 H (fun v H'=>v=.string (bk (innX x))∧H'=H):=by
  obtain ⟨an,al,cn,cl,cs,rfl,a1,a2,a3,a4⟩:=h.shape
  exact rxinner_ (wtX x) x (Nat.le_refl _) hw an cn al cl cs S a1 a2 a3 W0 H hS
theorem szX_small {x:XN} (h:szX 40 x≤5000):wtX x≤5000:=by
  have:=szX_wt 40 x (by omega); omega
theorem xmlFinds0_ (x:XN) (an:Option Addr) (cn:Nat) (al:Option Addr) (cl:Nat) (S:Nat→Obj→Prop) (hx:XRd S x (xvC x an cn al cl)) (sp nm:List UInt8) (hB:allX x sp nm=[]) (W0:World) (H:List Grp) (hS:∀ y o,S y o→At W0 H y o) (hX:P2 W0):Tri Tryz.prog 12 #[.agg #[.string (bk x.space),.string (bk x.name),.slice an x.attrs.length cn,.slice al x.kids.length cl,.string (bk x.text)],.string (bk sp),.string (bk nm)] W0 H (fun v H'=>v=.bool true∧H'=H):=by
 refine D4 95 Tryz.func12 ?_
 refine A1 (A3 (N4 (.agg #[.string (bk x.space),.string (bk x.name),.slice an x.attrs.length cn,.slice al x.kids.length cl,.string (bk x.text)]) (fun b1=>A8 [0] [1,2,3] (k:=A0 (A1 (A1 (A3 (F8 Tryz.func28 (firstX_ _ _ hX) ?_))))))))
 refine A8 [0] [1,2,3,13] (k:=A0 (C9 kr (A9 (A0 (A1 (A1 (A3 (I7 0 0 5 rfl ?_))))))))
 refine F8 Tryz.func33 (rxsizeC x [.string (bk x.space),.string (bk x.name),.slice an x.attrs.length cn,.slice al x.kids.length cl,.string (bk x.text)] S hx _ _ (fun y o h=>At.cons ((hS y o h)))) (A8 [0] [1,2,3,16] (k:=A0 (B0 (b:=decide ((szX 40 x) > 5000)) kr (fun hc2=>?_) (fun hc2=>?_))))
 ·
  skip
  refine A1 (B9 (E':=[⟨6,[],.bool true⟩]) [0] [6] (k:=A0 (B8 (A5 (E9 1 [] (B7 [.tmp 6] [.bool true] (k:=?_)))))))
  first | exact ⟨rfl,rfl⟩ | exact ⟨congrArg Value.bool (by simp),rfl⟩
 ·
  have hw:=szX_small (x:=x) (by simpa using hc2)
  refine A9 (A0 (A1 (H8 ([(b1,.cells #[.string (bk x.space),.string (bk x.name),.slice an x.attrs.length cn,.slice al x.kids.length cl,.string (bk x.text)] 55 (0,0))]::H) kr (F5 0 kr (fun w h=>h) (I7 0 0 5 rfl (G4 kr rfl)) (G5 (fuel:=7) [(1,0),(2,0)] (fun w h=>h) (k:=F5 4 kr (fun w h=>h) (I7 0 0 5 rfl (G4 kr rfl)) (G5 (fuel:=4) [(5,0),(6,0)] (fun w h=>h) (k:=D7 3 (k:=?_)))))))))
  refine E0 Tryz.func37 (xallV x [.string (bk x.space),.string (bk x.name),.slice an x.attrs.length cn,.slice al x.kids.length cl,.string (bk x.text)] S hx (by omega) sp nm [] hB _ _ (fun y o h=>At.cons ((hS y o h)))) ?_
  rintro _ _ ⟨oa3,oc3,og3,co3,rfl,hO3,hco3,rfl⟩
  refine C0 kr (fun w h=>(h.pk 1 [1])) (N8 (og3::[(b1,.cells #[.string (bk x.space),.string (bk x.name),.slice an x.attrs.length cn,.slice al x.kids.length cl,.string (bk x.text)] 55 (0,0))]::H) (fun w h=>(h.pk 1 [1])) (D7 7 (k:=E0 Tryz.func38 (rxallV x [.string (bk x.space),.string (bk x.name),.slice an x.attrs.length cn,.slice al x.kids.length cl,.string (bk x.text)] S hx (by omega) sp nm [] hB _ _ (fun y o h=>At.cons (At.cons ((hS y o h))))) ?_)))
  rintro _ _ ⟨oa4,oc4,og4,co4,rfl,hO4,hco4,rfl⟩
  refine C0 kr (fun w h=>(h.pk 1 [1,1])) (N8 (og4::og3::[(b1,.cells #[.string (bk x.space),.string (bk x.name),.slice an x.attrs.length cn,.slice al x.kids.length cl,.string (bk x.text)] 55 (0,0))]::H) (fun w h=>(h.pk 1 [1,1])) (G5 (fuel:=0) [(8,0),(9,0)] (fun w h=>h) (k:=G3 (E':=[⟨1,[],.string (bk sp)⟩,⟨2,[],.string (bk nm)⟩,⟨3,[],pt b1⟩,⟨7,[],.slice oa3 0 oc3⟩,⟨8,[],.slice oa4 0 oc4⟩]) [1,2,3,7,8] (k:=A0 (A1 (A3 (I7 2 0 5 rfl (A4 (j:=3) [0,0] (k:=?_)))))))))
  refine F8 Tryz.func39 (xfindC0 x [.string (bk x.space),.string (bk x.name),.slice an x.attrs.length cn,.slice al x.kids.length cl,.string (bk x.text)] S hx (by omega) sp nm hB _ _ (fun y o h=>At.cons (At.cons (At.cons ((hS y o h)))))) (A4 (j:=7) [0,0,0] (k:=J5 (.agg zN.toArray) (fun b5=>E4 0 0 (.agg zN.toArray) rfl (A8 [0] [2,3,7,8,9,10] (k:=A0 (A1 (A1 (H0 (k:=?_)))))))))
  refine A4 (j:=27) [0,0,0,0,0,0,0,0,0,0,0,3,0,0,0,1,1,1,1,1,1,3,3,0,0,0,0] (k:=M6 (ch:=[(58,true),(55,false)]) (b:=b5) (off:=0) (l:=zN) (hA:=At.grp 0 0 rfl rfl) (k:=A4 (j:=29) [0] (k:=N1 [(58,true),(55,false)] Tryz.func31 (fun hc=>xsameC (.mk [] [] [] [] []) (Nat.le_of_ble_eq_true kr) zN zN (inG []) (inG []) nulRd nulRd _ _ (fun y o h=>absurd h List.not_mem_nil) (fun y o h=>absurd h List.not_mem_nil)) (A8 [0,2,3] [2,3,7,8,64] (k:=A0 (C9 kr (A9 (A0 ?_))))))))
  refine A1 (A1 (G_p [0,0,0] [2,3,7,8,66,67] (k:=A0 (B2 (I3 (EI:=(fun ξ:Nat=>[⟨2,[],.string (bk nm)⟩,⟨3,[],pt b1⟩,⟨7,[],.slice oa3 0 oc3⟩,⟨8,[],.slice oa4 0 oc4⟩,⟨66,[],.int .i64 0⟩,⟨67,[],.int .i64 ((ξ:Nat):Int)⟩])) (HI:=(fun ξ:Nat=>([(b5,.cells zN.toArray 55 (0,0))]::og4::og3::[(b1,.cells #[.string (bk x.space),.string (bk x.name),.slice an x.attrs.length cn,.slice al x.kids.length cl,.string (bk x.text)] 55 (0,0))]::H))) (Φ:=(fun ξ:Nat=>(ξ≤0))) (μ:=(fun ξ:Nat=>0 - ξ)) (s0:=(0)) [2,3,7,8,66,67] kr kr (Nat.zero_le _) ?_)))))
  rintro k hk0
  try dsimp only at hk0
  refine A1 (G_p [0] [2,3,7,8,66,67,68] (k:=A0 (A1 (B0 (b:=decide (((k:Nat):Int)<0)) kr (fun hc6=>?_) (fun hc6=>?_)))))
  ·
   simp only [decide_eq_true_eq] at hc6
   omega
  ·
   simp only [decide_eq_false_iff_not] at hc6
   refine E3 (A6 (A6 (B5 (A0 (A1 (H0 (k:=I7 3 0 5 rfl (A4 (j:=2) [0] (k:=?_)))))))))
   refine F8 Tryz.func40 (xvalueC x [.string (bk x.space),.string (bk x.name),.slice an x.attrs.length cn,.slice al x.kids.length cl,.string (bk x.text)] S hx (by omega) nm _ _ (fun y o h=>At.cons (At.cons (At.cons (At.cons ((hS y o h))))))) (I7 3 0 5 rfl (A4 (j:=5) [0] (k:=F8 Tryz.func41 (rxvalueC x [.string (bk x.space),.string (bk x.name),.slice an x.attrs.length cn,.slice al x.kids.length cl,.string (bk x.text)] S hx (by omega) nm _ _ (fun y o h=>At.cons (At.cons (At.cons (At.cons ((hS y o h))))))) (A4 (j:=8) [0,0] (k:=M6 (ch:=[(88,true)]) (b:=b1) (off:=0) (l:=[.string (bk x.space),.string (bk x.name),.slice an x.attrs.length cn,.slice al x.kids.length cl,.string (bk x.text)]) (hA:=At.grp 3 0 rfl rfl) (k:=N1 [(88,true)] Tryz.func42 (fun hc=>xinnerC x [.string (bk x.space),.string (bk x.name),.slice an x.attrs.length cn,.slice al x.kids.length cl,.string (bk x.text)] S hx (by omega) _ _ (fun y o h=>At.cons (At.cons (At.cons (At.cons ((hS y o h))))))) (M6 (ch:=[(88,true)]) (b:=b1) (off:=0) (l:=[.string (bk x.space),.string (bk x.name),.slice an x.attrs.length cn,.slice al x.kids.length cl,.string (bk x.text)]) (hA:=At.grp 3 0 rfl rfl) (k:=N1 [(88,true)] Tryz.func43 (fun hc=>rxinnerC x [.string (bk x.space),.string (bk x.name),.slice an x.attrs.length cn,.slice al x.kids.length cl,.string (bk x.text)] S hx (by omega) _ _ (fun y o h=>At.cons (At.cons (At.cons (At.cons ((hS y o h))))))) ?_))))))))
   refine A8 [0,6,0] [6] (k:=A0 (B8 (E9 4 [] (B7 [.tmp 6] [.bool (((bk (vlX x.attrs nm)).toList==(bk (vlX x.attrs nm)).toList)&&((bk (innX x)).toList==(bk (innX x)).toList))] (k:=?_)))))
   first | exact ⟨rfl,rfl⟩ | exact ⟨congrArg Value.bool (by simp),rfl⟩
theorem xmlFinds1_ (x:XN) (an:Option Addr) (cn:Nat) (al:Option Addr) (cl:Nat) (S:Nat→Obj→Prop) (hx:XRd S x (xvC x an cn al cl)) (sp nm:List UInt8) (y:XN) (r:List XN) (hB:allX x sp nm=(y::r)) (W0:World) (H:List Grp) (hS:∀ y o,S y o→At W0 H y o) (hX:P2 W0):Tri Tryz.prog 12 #[.agg #[.string (bk x.space),.string (bk x.name),.slice an x.attrs.length cn,.slice al x.kids.length cl,.string (bk x.text)],.string (bk sp),.string (bk nm)] W0 H (fun v H'=>v=.bool true∧H'=H):=by
 refine D4 95 Tryz.func12 ?_
 refine A1 (A3 (N4 (.agg #[.string (bk x.space),.string (bk x.name),.slice an x.attrs.length cn,.slice al x.kids.length cl,.string (bk x.text)]) (fun b1=>A8 [0] [1,2,3] (k:=A0 (A1 (A1 (A3 (F8 Tryz.func28 (firstX_ _ _ hX) ?_))))))))
 refine A8 [0] [1,2,3,13] (k:=A0 (C9 kr (A9 (A0 (A1 (A1 (A3 (I7 0 0 5 rfl ?_))))))))
 refine F8 Tryz.func33 (rxsizeC x [.string (bk x.space),.string (bk x.name),.slice an x.attrs.length cn,.slice al x.kids.length cl,.string (bk x.text)] S hx _ _ (fun y o h=>At.cons ((hS y o h)))) (A8 [0] [1,2,3,16] (k:=A0 (B0 (b:=decide ((szX 40 x) > 5000)) kr (fun hc2=>?_) (fun hc2=>?_))))
 ·
  skip
  refine A1 (B9 (E':=[⟨6,[],.bool true⟩]) [0] [6] (k:=A0 (B8 (A5 (E9 1 [] (B7 [.tmp 6] [.bool true] (k:=?_)))))))
  first | exact ⟨rfl,rfl⟩ | exact ⟨congrArg Value.bool (by simp),rfl⟩
 ·
  have hw:=szX_small (x:=x) (by simpa using hc2)
  have hyw:wtX y≤wtX x:=all_wt (sp:=sp) (nm:=nm) (by rw [hB]; exact List.mem_cons_self)
  have hpx:=M0 x
  have hrl:(y::r).length≤x.kids.length:=by rw [← hB]; exact List.length_filter_le _ _
  rw [List.length_cons] at hrl
  refine A9 (A0 (A1 (H8 ([(b1,.cells #[.string (bk x.space),.string (bk x.name),.slice an x.attrs.length cn,.slice al x.kids.length cl,.string (bk x.text)] 55 (0,0))]::H) kr (F5 0 kr (fun w h=>h) (I7 0 0 5 rfl (G4 kr rfl)) (G5 (fuel:=7) [(1,0),(2,0)] (fun w h=>h) (k:=F5 4 kr (fun w h=>h) (I7 0 0 5 rfl (G4 kr rfl)) (G5 (fuel:=4) [(5,0),(6,0)] (fun w h=>h) (k:=D7 3 (k:=?_)))))))))
  refine E0 Tryz.func37 (xallV x [.string (bk x.space),.string (bk x.name),.slice an x.attrs.length cn,.slice al x.kids.length cl,.string (bk x.text)] S hx (by omega) sp nm (y::r) hB _ _ (fun y o h=>At.cons ((hS y o h)))) ?_
  rintro _ _ ⟨oa3,oc3,og3,co3,rfl,hO3,hco3,rfl⟩
  refine C0 kr (fun w h=>(h.pk 1 [1])) (N8 (og3::[(b1,.cells #[.string (bk x.space),.string (bk x.name),.slice an x.attrs.length cn,.slice al x.kids.length cl,.string (bk x.text)] 55 (0,0))]::H) (fun w h=>(h.pk 1 [1])) (D7 7 (k:=E0 Tryz.func38 (rxallV x [.string (bk x.space),.string (bk x.name),.slice an x.attrs.length cn,.slice al x.kids.length cl,.string (bk x.text)] S hx (by omega) sp nm (y::r) hB _ _ (fun y o h=>At.cons (At.cons ((hS y o h))))) ?_)))
  rintro _ _ ⟨oa4,oc4,og4,co4,rfl,hO4,hco4,rfl⟩
  refine C0 kr (fun w h=>(h.pk 1 [1,1])) (N8 (og4::og3::[(b1,.cells #[.string (bk x.space),.string (bk x.name),.slice an x.attrs.length cn,.slice al x.kids.length cl,.string (bk x.text)] 55 (0,0))]::H) (fun w h=>(h.pk 1 [1,1])) (G5 (fuel:=0) [(8,0),(9,0)] (fun w h=>h) (k:=G3 (E':=[⟨1,[],.string (bk sp)⟩,⟨2,[],.string (bk nm)⟩,⟨3,[],pt b1⟩,⟨7,[],.slice oa3 (r.length+1) oc3⟩,⟨8,[],.slice oa4 (r.length+1) oc4⟩]) [1,2,3,7,8] (k:=A0 (A1 (A3 (I7 2 0 5 rfl (A4 (j:=3) [0,0] (k:=?_)))))))))
  refine E0 Tryz.func39 (xfindC x [.string (bk x.space),.string (bk x.name),.slice an x.attrs.length cn,.slice al x.kids.length cl,.string (bk x.text)] S hx (by omega) sp nm y r hB _ _ (fun y o h=>At.cons (At.cons (At.cons ((hS y o h)))))) ?_
  rintro _ _ ⟨van5,vcn5,val5,vcl5,hF5,rfl,rfl⟩
  refine A4 (j:=7) [0,0,0] (k:=J5 (.agg zN.toArray) (fun b6=>E4 0 0 (.agg #[.string (bk y.space),.string (bk y.name),.slice van5 y.attrs.length vcn5,.slice val5 y.kids.length vcl5,.string (bk y.text)]) rfl (A8 [0] [2,3,7,8,9,10] (k:=A0 (A1 (A1 (H0 (k:=A4 (j:=15) [0,0,0,0,0,0,0,0,0,0,0,5,0,0,0] (k:=?_)))))))))
  refine M6 (ch:=[(46,true),(44,false)]) (b:=b6) (off:=0) (l:=[.string (bk y.space),.string (bk y.name),.slice van5 y.attrs.length vcn5,.slice val5 y.kids.length vcl5,.string (bk y.text)]) (hA:=At.grp 0 0 rfl rfl) (k:=A4 (j:=17) [0] (k:=J0 (ch:=[(46,true),(44,false)]) (a:=oa4) (len:=(r.length+1)) (cap:=oc4) (kd:=.i64) (j:=0) (e:=55) (sz:=5) (S:=(inG og4)) (cs:=co4) (hrd:=H7 hO4) (hb:=(fun hc=>by (try rw [List.length_cons] at hk); exact ⟨by omega,by omega,by intro h; have h2:=hco4.len; rw [h] at h2; simp only [List.length_cons,List.length_nil] at h2; omega⟩)) (k:=?_)))
  obtain ⟨ean7,ecn7,eal7,ecl7,hee7,hex7⟩:=xrdGet (k:=0) (show 0<(y::r).length from Nat.zero_lt_succ _) hco4 y rfl
  refine G9 (ch:=[(46,true),(44,false)]) (a:=oa4) (q:=0 * 5) (S:=(inG og4)) (cs:=co4) (l:=[.string (bk y.space),.string (bk y.name),.slice ean7 y.attrs.length ecn7,.slice eal7 y.kids.length ecl7,.string (bk y.text)]) (hrd:=H7 hO4) (hS:=D9 1 rfl) (hl:=List.cons_ne_nil _ _) (hv:=(fun hc=>(elt5 hee7))) (k:=N1 [(46,true),(44,false)] Tryz.func31 (fun hc=>xsameC y (by have:=cnX_wt y; omega) [.string (bk y.space),.string (bk y.name),.slice van5 y.attrs.length vcn5,.slice val5 y.kids.length vcl5,.string (bk y.text)] [.string (bk y.space),.string (bk y.name),.slice ean7 y.attrs.length ecn7,.slice eal7 y.kids.length ecl7,.string (bk y.text)] S S hF5 hex7 _ _ (fun y o h=>At.cons (At.cons (At.cons (At.cons ((hS y o h)))))) (fun y o h=>At.cons (At.cons (At.cons (At.cons ((hS y o h))))))) (A8 [0,2,5,0,0,0,0,1,1,1,1,3,5] [2,3,7,8,64] (k:=A0 (B0 (b:=((((((r.length+1):Nat):Int) != (((r.length+1):Nat):Int))||(!(true==(decide ((((r.length+1):Nat):Int) > 0)))))||false)||false) kr (fun hc8=>?_) (fun hc8=>?_)))))
  ·
   have h9:=hc8
   simp at h9
   try omega
  ·
   simp only [Bool.or_eq_false_iff,Bool.not_eq_false',beq_iff_eq,bne_eq_false_iff_eq,gt_iff_lt] at hc8
   refine A9 (A0 (A1 (A1 (G_p [0,0,0] [2,3,7,8,66,67] (k:=A0 (B2 (I3 (EI:=(fun ξ:Nat=>[⟨2,[],.string (bk nm)⟩,⟨3,[],pt b1⟩,⟨7,[],.slice oa3 (r.length+1) oc3⟩,⟨8,[],.slice oa4 (r.length+1) oc4⟩,⟨66,[],.int .i64 (((r.length+1):Nat):Int)⟩,⟨67,[],.int .i64 ((ξ:Nat):Int)⟩])) (HI:=(fun ξ:Nat=>([(b6,.cells #[.string (bk y.space),.string (bk y.name),.slice van5 y.attrs.length vcn5,.slice val5 y.kids.length vcl5,.string (bk y.text)] 55 (0,0))]::og4::og3::[(b1,.cells #[.string (bk x.space),.string (bk x.name),.slice an x.attrs.length cn,.slice al x.kids.length cl,.string (bk x.text)] 55 (0,0))]::H))) (Φ:=(fun ξ:Nat=>(ξ≤(r.length+1)))) (μ:=(fun ξ:Nat=>(r.length+1) - ξ)) (s0:=(0)) [2,3,7,8,66,67] kr kr (Nat.zero_le _) ?_)))))))
   rintro k hk0
   try dsimp only at hk0
   refine A1 (G_p [0] [2,3,7,8,66,67,68] (k:=A0 (A1 (B0 (b:=decide (((k:Nat):Int)<(((r.length+1):Nat):Int))) kr (fun hc9=>?_) (fun hc9=>?_)))))
   ·
    simp only [decide_eq_true_eq] at hc9
    have hk:k<(y::r).length:=by rw [List.length_cons]; omega
    obtain ⟨z,hz⟩:∃ z,z=(y::r)[k]'hk:=⟨_,rfl⟩
    have hzw:wtX z≤wtX x:=all_wt (sp:=sp) (nm:=nm) (by rw [hB,hz]; exact List.getElem_mem hk)
    refine A9 (A0 (A1 (B2 (A1 (G_p [0,0] [2,3,7,8,11,66,67] (k:=A0 (A1 (H0 (k:=?_)))))))))
    refine A4 (j:=2) [0,0] (k:=E6 (a:=oa3) (S:=(inG og3)) (cs:=co3) (r.length+1) ((k:Nat):Int) 5 (H7 hO3) (by (try rw [List.length_cons] at hk); exact ⟨by omega,by omega,by intro h; have h2:=hco3.len; rw [h] at h2; simp only [List.length_cons,List.length_nil] at h2; omega⟩) ?_)
    obtain ⟨ean10,ecn10,eal10,ecl10,hee10,hex10⟩:=xrdGet (k:=k) hk hco3 z hz
    refine G9 (ch:=[]) (a:=oa3) (q:=k * 5) (S:=(inG og3)) (cs:=co3) (l:=[.string (bk z.space),.string (bk z.name),.slice ean10 z.attrs.length ecn10,.slice eal10 z.kids.length ecl10,.string (bk z.text)]) (hrd:=H7 hO3) (hS:=D9 2 rfl) (hl:=List.cons_ne_nil _ _) (hv:=(fun _=>(elt5 hee10))) (k:=A4 (j:=6) [0,0] (k:=E6 (a:=oa4) (S:=(inG og4)) (cs:=co4) (r.length+1) ((k:Nat):Int) 5 (H7 hO4) (by (try rw [List.length_cons] at hk); exact ⟨by omega,by omega,by intro h; have h2:=hco4.len; rw [h] at h2; simp only [List.length_cons,List.length_nil] at h2; omega⟩) ?_))
    obtain ⟨ean11,ecn11,eal11,ecl11,hee11,hex11⟩:=xrdGet (k:=k) hk hco4 z hz
    refine G9 (ch:=[]) (a:=oa4) (q:=k * 5) (S:=(inG og4)) (cs:=co4) (l:=[.string (bk z.space),.string (bk z.name),.slice ean11 z.attrs.length ecn11,.slice eal11 z.kids.length ecl11,.string (bk z.text)]) (hrd:=H7 hO4) (hS:=D9 1 rfl) (hl:=List.cons_ne_nil _ _) (hv:=(fun _=>(elt5 hee11))) (k:=F8 Tryz.func31 (xsameC z (by have:=cnX_wt z; omega) [.string (bk z.space),.string (bk z.name),.slice ean10 z.attrs.length ecn10,.slice eal10 z.kids.length ecl10,.string (bk z.text)] [.string (bk z.space),.string (bk z.name),.slice ean11 z.attrs.length ecn11,.slice eal11 z.kids.length ecl11,.string (bk z.text)] S S hex10 hex11 _ _ (fun y o h=>At.cons (At.cons (At.cons (At.cons ((hS y o h)))))) (fun y o h=>At.cons (At.cons (At.cons (At.cons ((hS y o h))))))) (A8 [0] [2,3,7,8,66,67,79] (k:=A0 (C9 kr (A9 (B6 (A0 (A3 ?_))))))))
    refine A4 (j:=1) [0] (k:=D0 80 (((k:Nat):Int)+1) (by omega) (by omega) kr (A8 [0] [2,3,7,8,66,67] (k:=D2 (s':=(k+1)) [2,3,7,8,66,67] kr kr (by omega) (by omega))))
   ·
    simp only [decide_eq_false_iff_not] at hc9
    refine E3 (A6 (A6 (B5 (A0 (A1 (H0 (k:=I7 3 0 5 rfl (A4 (j:=2) [0] (k:=?_)))))))))
    refine F8 Tryz.func40 (xvalueC x [.string (bk x.space),.string (bk x.name),.slice an x.attrs.length cn,.slice al x.kids.length cl,.string (bk x.text)] S hx (by omega) nm _ _ (fun y o h=>At.cons (At.cons (At.cons (At.cons ((hS y o h))))))) (I7 3 0 5 rfl (A4 (j:=5) [0] (k:=F8 Tryz.func41 (rxvalueC x [.string (bk x.space),.string (bk x.name),.slice an x.attrs.length cn,.slice al x.kids.length cl,.string (bk x.text)] S hx (by omega) nm _ _ (fun y o h=>At.cons (At.cons (At.cons (At.cons ((hS y o h))))))) (A4 (j:=8) [0,0] (k:=M6 (ch:=[(88,true)]) (b:=b1) (off:=0) (l:=[.string (bk x.space),.string (bk x.name),.slice an x.attrs.length cn,.slice al x.kids.length cl,.string (bk x.text)]) (hA:=At.grp 3 0 rfl rfl) (k:=N1 [(88,true)] Tryz.func42 (fun hc=>xinnerC x [.string (bk x.space),.string (bk x.name),.slice an x.attrs.length cn,.slice al x.kids.length cl,.string (bk x.text)] S hx (by omega) _ _ (fun y o h=>At.cons (At.cons (At.cons (At.cons ((hS y o h))))))) (M6 (ch:=[(88,true)]) (b:=b1) (off:=0) (l:=[.string (bk x.space),.string (bk x.name),.slice an x.attrs.length cn,.slice al x.kids.length cl,.string (bk x.text)]) (hA:=At.grp 3 0 rfl rfl) (k:=N1 [(88,true)] Tryz.func43 (fun hc=>rxinnerC x [.string (bk x.space),.string (bk x.name),.slice an x.attrs.length cn,.slice al x.kids.length cl,.string (bk x.text)] S hx (by omega) _ _ (fun y o h=>At.cons (At.cons (At.cons (At.cons ((hS y o h))))))) ?_))))))))
    refine A8 [0,6,0] [6] (k:=A0 (B8 (E9 4 [] (B7 [.tmp 6] [.bool (((bk (vlX x.attrs nm)).toList==(bk (vlX x.attrs nm)).toList)&&((bk (innX x)).toList==(bk (innX x)).toList))] (k:=?_)))))
    first | exact ⟨rfl,rfl⟩ | exact ⟨congrArg Value.bool (by simp),rfl⟩
end Go.Proofs.YtppgfiklmfoaeaaGreatDoor
namespace Go.Proofs.YtppgfiklmfoaeaaGreatDoor
open Go.Sw Go.Sha Go.Esc Go.RowKit Go.Json Go.Xml
theorem rrightC (x:XN) (c:List Value) (S:Nat→Obj→Prop) (h:XRd S x c) (hw:wtX x≤80000) (r:Bool) (hr:rtX 24 x=r) (W0:World) (H:List Grp) (hS:∀ z o,S z o→At W0 H z o):Tri Tryz.prog 35 #[.agg c.toArray,.int .i64 0] W0 H (fun v H'=>v=.bool r∧H'=H):=by
  obtain ⟨an,al,cn,cl,cs,rfl,a1,a2,a3,a4⟩:=h.shape
  subst hr
  exact rright_ (wtX x) x (Nat.le_refl _) hw 24 (Nat.le_refl _) 0 (by omega) an cn al cl cs S a4 a1 a2 a3 W0 H hS
theorem rprintC (x:XN) (c:List Value) (S:Nat→Obj→Prop) (h:XRd S x c) (hw:wtX x≤80000) (hr:rtX 24 x=true) (W0:World) (H:List Grp) (hS:∀ z o,S z o→At W0 H z o):Tri Tryz.prog 36 #[.agg c.toArray,.string eB] W0 H (fun v H'=>v=.string (bk (prX [] x))∧H'=H):=by
  obtain ⟨an,al,cn,cl,cs,rfl,a1,a2,a3,a4⟩:=h.shape
  exact rprint_ (wtX x) x (Nat.le_refl _) hw (.inr ⟨24,hr⟩) [] an cn al cl cs S a1 a2 a3 W0 H hS
theorem xmlPrintsT_ (x:XN) (an:Option Addr) (cn:Nat) (al:Option Addr) (cl:Nat) (S:Nat→Obj→Prop) (hx:XRd S x (xvC x an cn al cl)) (hr:rtX 24 x=true) (hz:(prX [] x).length≤65536) (W0:World) (H:List Grp) (hS:∀ y o,S y o→At W0 H y o) (hX:P2 W0):Tri Tryz.prog 11 #[.agg #[.string (bk x.space),.string (bk x.name),.slice an x.attrs.length cn,.slice al x.kids.length cl,.string (bk x.text)]] W0 H (fun v H'=>v=.bool true∧H'=H):=by
 refine D4 54 Tryz.func11 ?_
 refine A1 (A3 (N4 (.agg #[.string (bk x.space),.string (bk x.name),.slice an x.attrs.length cn,.slice al x.kids.length cl,.string (bk x.text)]) (fun b1=>B4 (E':=[⟨1,[],pt b1⟩]) [0] [1] (k:=A0 (A1 (A1 (A3 (F8 Tryz.func28 (firstX_ _ _ hX) ?_))))))))
 refine B4 (E':=[⟨1,[],pt b1⟩,⟨8,[],.bool false⟩]) [0] [1,8] (k:=A0 (C9 kr (A9 (A0 (A1 (A1 (A3 (I7 0 0 5 rfl ?_))))))))
 refine F8 Tryz.func33 (rxsizeC x [.string (bk x.space),.string (bk x.name),.slice an x.attrs.length cn,.slice al x.kids.length cl,.string (bk x.text)] S hx _ _ (fun y o h=>At.cons ((hS y o h)))) (A8 [0] [1,11] (k:=A0 (B0 (b:=decide ((szX 40 x) > 5000)) kr (fun hc2=>?_) (fun hc2=>?_))))
 ·
  skip
  refine A1 (B9 (E':=[⟨2,[],.bool true⟩]) [0] [2] (k:=A0 (B8 (A5 (E9 1 [] (B7 [.tmp 2] [.bool true] (k:=?_)))))))
  first | exact ⟨rfl,rfl⟩ | exact ⟨congrArg Value.bool (by simp),rfl⟩
 ·
  have hw:=szX_small (x:=x) (by simpa using hc2)
  have hpz:=C8 (prX [] x)
  have hpl:=prX_len [] x
  have hPx:parX ((bk (prX [] x)).data.toList)=(x,0):=par_pr hr hz
  refine A9 (A0 (A1 (A3 (I7 0 0 5 rfl (F8 Tryz.func34 (xprintC x [.string (bk x.space),.string (bk x.name),.slice an x.attrs.length cn,.slice al x.kids.length cl,.string (bk x.text)] S hx (by omega) (.tuple #[.string (bk (prX [] x)),.int .i64 0]) (by rw [hr]; rfl) _ _ (fun y o h=>At.cons ((hS y o h))) hX) (A8 [0,0,0,0,0] [1,3,4] (k:=A0 (A1 ?_))))))))
  refine A1 (A3 (I7 0 0 5 rfl (F8 Tryz.func35 (rrightC x [.string (bk x.space),.string (bk x.name),.slice an x.attrs.length cn,.slice al x.kids.length cl,.string (bk x.text)] S hx (by omega) true hr _ _ (fun y o h=>At.cons ((hS y o h)))) (A8 [0] [1,3,4,19] (k:=A0 (C9 kr (A9 (A0 ?_))))))))
  refine A1 (A3 (A4 (j:=1) [0] (k:=L4 (ch:=[]) (src:=9) (dst:=22) (e:=5) (s:=(bk (prX [] x))) (k:=(fun b3 cap4 g5 hcap6 hrd7=>?_)))))
  refine E0 Tryz.func29 (xparseV (some ⟨b3,0,none⟩) cap4 ((bk (prX [] x)).data.toList) (inG g5) hrd7 x 0 hPx _ _ (D9 0 rfl) hX) ?_
  rintro _ _ ⟨c8,gp8,hJ8,rfl,rfl⟩
  obtain ⟨van8,vcn8,val8,vcl8,rfl⟩:=hJ8.shape
  refine A4 (j:=6) [0,0,0] (k:=J5 (.agg zN.toArray) (fun b9=>E4 0 0 (.agg #[.string (bk x.space),.string (bk x.name),.slice van8 x.attrs.length vcn8,.slice val8 x.kids.length vcl8,.string (bk x.text)]) rfl (A8 [0] [1,3,4,5,6] (k:=A0 (A1 (A3 (A4 (j:=4) [0,0,0,0] (k:=M6 (ch:=[(34,true)]) (b:=b1) (off:=0) (l:=[.string (bk x.space),.string (bk x.name),.slice an x.attrs.length cn,.slice al x.kids.length cl,.string (bk x.text)]) (hA:=At.grp 3 0 rfl rfl) (k:=?_)))))))))
  refine N1 [(34,true)] Tryz.func36 (fun hc=>rprintC x [.string (bk x.space),.string (bk x.name),.slice an x.attrs.length cn,.slice al x.kids.length cl,.string (bk x.text)] S hx (by omega) hr _ _ (fun y o h=>At.cons (At.cons (At.cons (At.cons ((hS y o h))))))) (A4 (j:=7) [0] (k:=Q5 38 [(34,true)] (x:=.bool ((bk (prX [] x)).toList==(bk (prX [] x)).toList)) (y:=.bool true) (by rw [(eqB _ _).2 rfl]) (A4 (j:=12) [2,0,0,0,0] (k:=Q5 43 [(40,true)] (x:=.bool (decide (((bk (prX [] x)).size:Int) > 65536))) (y:=.bool false) (by rw [show decide (((bk (prX [] x)).size:Int) > 65536)=false from decide_eq_false (by omega)]) (A4 (j:=16) [0,0,0,0] (k:=M6 (ch:=[(47,true),(44,false),(40,true)]) (b:=b9) (off:=0) (l:=[.string (bk x.space),.string (bk x.name),.slice van8 x.attrs.length vcn8,.slice val8 x.kids.length vcl8,.string (bk x.text)]) (hA:=At.grp 0 0 rfl rfl) (k:=M6 (ch:=[(47,true),(44,false),(40,true)]) (b:=b1) (off:=0) (l:=[.string (bk x.space),.string (bk x.name),.slice an x.attrs.length cn,.slice al x.kids.length cl,.string (bk x.text)]) (hA:=At.grp 3 0 rfl rfl) (k:=N1 (vs:=[.agg #[.string (bk x.space),.string (bk x.name),.slice van8 x.attrs.length vcn8,.slice val8 x.kids.length vcl8,.string (bk x.text)],.agg #[.string (bk x.space),.string (bk x.name),.slice an x.attrs.length cn,.slice al x.kids.length cl,.string (bk x.text)]]) [(47,true),(44,false),(40,true)] Tryz.func31 (fun hc=>xsameC x (by have:=cnX_wt x; omega) [.string (bk x.space),.string (bk x.name),.slice van8 x.attrs.length vcn8,.slice val8 x.kids.length vcl8,.string (bk x.text)] [.string (bk x.space),.string (bk x.name),.slice an x.attrs.length cn,.slice al x.kids.length cl,.string (bk x.text)] (inG gp8) S (hJ8.rd (fun _ _ h=>h)) hx _ _ (D9 1 rfl) (fun y o h=>At.cons (At.cons (At.cons (At.cons ((hS y o h))))))) ?_))))))))
  refine B4 (E':=[⟨2,[],.bool true⟩]) [2,3,2,0] [2] (k:=A0 (B8 (E9 4 [] (B7 [.tmp 2] [.bool true] (k:=?_)))))
  first | exact ⟨rfl,rfl⟩ | exact ⟨congrArg Value.bool (by simp),rfl⟩
theorem xmlPrintsL_ (x:XN) (an:Option Addr) (cn:Nat) (al:Option Addr) (cl:Nat) (S:Nat→Obj→Prop) (hx:XRd S x (xvC x an cn al cl)) (hr:rtX 24 x=true) (hz:65536<(prX [] x).length) (W0:World) (H:List Grp) (hS:∀ y o,S y o→At W0 H y o) (hX:P2 W0):Tri Tryz.prog 11 #[.agg #[.string (bk x.space),.string (bk x.name),.slice an x.attrs.length cn,.slice al x.kids.length cl,.string (bk x.text)]] W0 H (fun v H'=>v=.bool true∧H'=H):=by
 refine D4 54 Tryz.func11 ?_
 refine A1 (A3 (N4 (.agg #[.string (bk x.space),.string (bk x.name),.slice an x.attrs.length cn,.slice al x.kids.length cl,.string (bk x.text)]) (fun b1=>B4 (E':=[⟨1,[],pt b1⟩]) [0] [1] (k:=A0 (A1 (A1 (A3 (F8 Tryz.func28 (firstX_ _ _ hX) ?_))))))))
 refine B4 (E':=[⟨1,[],pt b1⟩,⟨8,[],.bool false⟩]) [0] [1,8] (k:=A0 (C9 kr (A9 (A0 (A1 (A1 (A3 (I7 0 0 5 rfl ?_))))))))
 refine F8 Tryz.func33 (rxsizeC x [.string (bk x.space),.string (bk x.name),.slice an x.attrs.length cn,.slice al x.kids.length cl,.string (bk x.text)] S hx _ _ (fun y o h=>At.cons ((hS y o h)))) (A8 [0] [1,11] (k:=A0 (B0 (b:=decide ((szX 40 x) > 5000)) kr (fun hc2=>?_) (fun hc2=>?_))))
 ·
  skip
  refine A1 (B9 (E':=[⟨2,[],.bool true⟩]) [0] [2] (k:=A0 (B8 (A5 (E9 1 [] (B7 [.tmp 2] [.bool true] (k:=?_)))))))
  first | exact ⟨rfl,rfl⟩ | exact ⟨congrArg Value.bool (by simp),rfl⟩
 ·
  have hw:=szX_small (x:=x) (by simpa using hc2)
  have hpz:=C8 (prX [] x)
  have hpl:=prX_len [] x
  refine A9 (A0 (A1 (A3 (I7 0 0 5 rfl (F8 Tryz.func34 (xprintC x [.string (bk x.space),.string (bk x.name),.slice an x.attrs.length cn,.slice al x.kids.length cl,.string (bk x.text)] S hx (by omega) (.tuple #[.string (bk (prX [] x)),.int .i64 0]) (by rw [hr]; rfl) _ _ (fun y o h=>At.cons ((hS y o h))) hX) (A8 [0,0,0,0,0] [1,3,4] (k:=A0 (A1 ?_))))))))
  refine A1 (A3 (I7 0 0 5 rfl (F8 Tryz.func35 (rrightC x [.string (bk x.space),.string (bk x.name),.slice an x.attrs.length cn,.slice al x.kids.length cl,.string (bk x.text)] S hx (by omega) true hr _ _ (fun y o h=>At.cons ((hS y o h)))) (A8 [0] [1,3,4,19] (k:=A0 (C9 kr (A9 (A0 ?_))))))))
  refine A1 (A3 (A4 (j:=1) [0] (k:=L4 (ch:=[]) (src:=9) (dst:=22) (e:=5) (s:=(bk (prX [] x))) (k:=(fun b3 cap4 g5 hcap6 hrd7=>?_)))))
  refine E0 Tryz.func29 (xparseV (some ⟨b3,0,none⟩) cap4 ((bk (prX [] x)).data.toList) (inG g5) hrd7 ((parX ((bk (prX [] x)).data.toList)).1) ((parX ((bk (prX [] x)).data.toList)).2) rfl _ _ (D9 0 rfl) hX) ?_
  rintro _ _ ⟨c8,gp8,hJ8,rfl,rfl⟩
  obtain ⟨van8,vcn8,val8,vcl8,rfl⟩:=hJ8.shape
  refine A4 (j:=6) [0,0,0] (k:=J5 (.agg zN.toArray) (fun b9=>E4 0 0 (.agg #[.string (bk (parX ((bk (prX [] x)).data.toList)).1.space),.string (bk (parX ((bk (prX [] x)).data.toList)).1.name),.slice van8 ((parX ((bk (prX [] x)).data.toList)).1.attrs.length) vcn8,.slice val8 ((parX ((bk (prX [] x)).data.toList)).1.kids.length) vcl8,.string (bk (parX ((bk (prX [] x)).data.toList)).1.text)]) rfl (A8 [0] [1,3,4,5,6] (k:=A0 (A1 (A3 (A4 (j:=4) [0,0,0,0] (k:=M6 (ch:=[(34,true)]) (b:=b1) (off:=0) (l:=[.string (bk x.space),.string (bk x.name),.slice an x.attrs.length cn,.slice al x.kids.length cl,.string (bk x.text)]) (hA:=At.grp 3 0 rfl rfl) (k:=?_)))))))))
  refine N1 [(34,true)] Tryz.func36 (fun hc=>rprintC x [.string (bk x.space),.string (bk x.name),.slice an x.attrs.length cn,.slice al x.kids.length cl,.string (bk x.text)] S hx (by omega) hr _ _ (fun y o h=>At.cons (At.cons (At.cons (At.cons ((hS y o h))))))) (A4 (j:=7) [0] (k:=Q5 38 [(34,true)] (x:=.bool ((bk (prX [] x)).toList==(bk (prX [] x)).toList)) (y:=.bool true) (by rw [(eqB _ _).2 rfl]) (A4 (j:=12) [2,0,0,0,0] (k:=Q5 43 [(40,true)] (x:=.bool (decide (((bk (prX [] x)).size:Int) > 65536))) (y:=.bool true) (by rw [show decide (((bk (prX [] x)).size:Int) > 65536)=true from decide_eq_true (by omega)]) (B4 (E':=[⟨2,[],.bool true⟩]) [0,1,1,1,1,1,1,1,2,2,0] [2] (k:=A0 (B8 (E9 4 [] ?_))))))))
  refine B7 [.tmp 2] [.bool true] (k:=?_)
  first | exact ⟨rfl,rfl⟩ | exact ⟨congrArg Value.bool (by simp),rfl⟩
theorem xmlPrintsF_ (x:XN) (an:Option Addr) (cn:Nat) (al:Option Addr) (cl:Nat) (S:Nat→Obj→Prop) (hx:XRd S x (xvC x an cn al cl)) (hr:rtX 24 x=false) (W0:World) (H:List Grp) (hS:∀ y o,S y o→At W0 H y o) (hX:P2 W0):Tri Tryz.prog 11 #[.agg #[.string (bk x.space),.string (bk x.name),.slice an x.attrs.length cn,.slice al x.kids.length cl,.string (bk x.text)]] W0 H (fun v H'=>v=.bool true∧H'=H):=by
 refine D4 54 Tryz.func11 ?_
 refine A1 (A3 (N4 (.agg #[.string (bk x.space),.string (bk x.name),.slice an x.attrs.length cn,.slice al x.kids.length cl,.string (bk x.text)]) (fun b1=>B4 (E':=[⟨1,[],pt b1⟩]) [0] [1] (k:=A0 (A1 (A1 (A3 (F8 Tryz.func28 (firstX_ _ _ hX) ?_))))))))
 refine B4 (E':=[⟨1,[],pt b1⟩,⟨8,[],.bool false⟩]) [0] [1,8] (k:=A0 (C9 kr (A9 (A0 (A1 (A1 (A3 (I7 0 0 5 rfl ?_))))))))
 refine F8 Tryz.func33 (rxsizeC x [.string (bk x.space),.string (bk x.name),.slice an x.attrs.length cn,.slice al x.kids.length cl,.string (bk x.text)] S hx _ _ (fun y o h=>At.cons ((hS y o h)))) (A8 [0] [1,11] (k:=A0 (B0 (b:=decide ((szX 40 x) > 5000)) kr (fun hc2=>?_) (fun hc2=>?_))))
 ·
  skip
  refine A1 (B9 (E':=[⟨2,[],.bool true⟩]) [0] [2] (k:=A0 (B8 (A5 (E9 1 [] (B7 [.tmp 2] [.bool true] (k:=?_)))))))
  first | exact ⟨rfl,rfl⟩ | exact ⟨congrArg Value.bool (by simp),rfl⟩
 ·
  have hw:=szX_small (x:=x) (by simpa using hc2)
  refine A9 (A0 (A1 (A3 (I7 0 0 5 rfl (F8 Tryz.func34 (xprintC x [.string (bk x.space),.string (bk x.name),.slice an x.attrs.length cn,.slice al x.kids.length cl,.string (bk x.text)] S hx (by omega) (.tuple #[.string eB,.int .i64 2]) (by rw [hr]; rfl) _ _ (fun y o h=>At.cons ((hS y o h))) hX) (A8 [0,0,0,0,0] [1,3,4] (k:=A0 (A1 ?_))))))))
  refine A1 (A3 (I7 0 0 5 rfl (F8 Tryz.func35 (rrightC x [.string (bk x.space),.string (bk x.name),.slice an x.attrs.length cn,.slice al x.kids.length cl,.string (bk x.text)] S hx (by omega) false hr _ _ (fun y o h=>At.cons ((hS y o h)))) (A8 [0] [1,3,4,19] (k:=A0 (C7 kr (A1 (G_p [0,0,0,0,0,2,0] [2] (k:=?_)))))))))
  refine A0 (B8 (A5 (E9 1 [] (B7 [.tmp 2] [.bool (eB.toList==eB.toList)] (k:=?_)))))
  first | exact ⟨rfl,rfl⟩ | exact ⟨congrArg Value.bool (by simp),rfl⟩
theorem xmlPrints_ (x:XN) (an:Option Addr) (cn:Nat) (al:Option Addr) (cl:Nat) (S:Nat→Obj→Prop) (hx:XRd S x (xvC x an cn al cl)) (W0:World) (H:List Grp) (hS:∀ y o,S y o→At W0 H y o) (hX:P2 W0):Tri Tryz.prog 11 #[.agg (xvC x an cn al cl).toArray] W0 H (fun v H'=>v=.bool true∧H'=H):=by
  cases hr:rtX 24 x with
  | true =>
    rcases Nat.lt_or_ge 65536 (prX [] x).length with hz | hz
    · exact xmlPrintsL_ x an cn al cl S hx hr hz W0 H hS hX
    · exact xmlPrintsT_ x an cn al cl S hx hr hz W0 H hS hX
  | false=>exact xmlPrintsF_ x an cn al cl S hx hr W0 H hS hX
theorem xmlFinds_ (x:XN) (an:Option Addr) (cn:Nat) (al:Option Addr) (cl:Nat) (S:Nat→Obj→Prop) (hx:XRd S x (xvC x an cn al cl)) (sp nm:List UInt8) (W0:World) (H:List Grp) (hS:∀ y o,S y o→At W0 H y o) (hX:P2 W0):Tri Tryz.prog 12 #[.agg (xvC x an cn al cl).toArray,.string (bk sp),.string (bk nm)] W0 H (fun v H'=>v=.bool true∧H'=H):=by
  cases hB:allX x sp nm with
  | nil=>exact xmlFinds0_ x an cn al cl S hx sp nm hB W0 H hS hX
  | cons y r=>exact xmlFinds1_ x an cn al cl S hx sp nm y r hB W0 H hS hX
end Go.Proofs.YtppgfiklmfoaeaaGreatDoor
namespace Go.Proofs.YtppgfiklmfoaeaaGreatDoor
theorem xmlRoots2:True:=by
  -- xmlPrints_ xmlFinds_ open_node baseX_of returnsIn_shaped base_of sat_nil post_below open_bytesL wf_u8 sw_at SW laidOut_ and_tt cl_may cl_lift cl_make cl_heard cl_keys ok_one okWide_bool_mk shut_bool trodAll_mk1
  trivial
end Go.Proofs.YtppgfiklmfoaeaaGreatDoor
