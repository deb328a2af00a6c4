/- The document's Same of an element read twice. Conditions: its weight, what lies in memory. (and what it stands on) -/
import Derived.Test.YtppgfiklmfoaeaaGreatDoorZ4
import Derived.Lib.Strings
namespace Go.Proofs.YtppgfiklmfoaeaaGreatDoor
open Go.Sw Go.Sha Go.Esc Go.RowKit Go.Json Go.Xml
theorem xtakeb_ (r:Nat) (q:XS) (w:List UInt8) (W0:World) (H:List Grp):Tri Tryz.prog 102 #[pt r,.string (bk w)] W0 (rdX r q::H) (fun v H'=>v=.bool (G0 w q).1∧H'=rdX r (G0 w q).2::H):=by
  refine (xtake_ r q w W0 H).post fun v H' h=>⟨H',?_,fun _ h=>h⟩
  rcases h with ⟨h,h1,h2⟩ | ⟨h,h1,h2⟩
  · rw [O8 h]; exact ⟨h1,h2⟩
  · rw [M0 h]; exact ⟨h1,h2⟩
theorem xhasN_ (out:List XA) (no:Nat) (hno:no=out.length) (a:Option Addr) (c:Nat) (S:Nat→Obj→Prop) (hrd:Rd S a (xaV out)) (hol:out.length≤1000002) (x:XA) (xb:Nat) (W0:World) (H:List Grp) (hS:∀ y o,S y o→At W0 H y o):Tri Tryz.prog 107 #[.slice a no c,.func (.func 108) #[] #[pt xb]] W0 ([(xb,.cells #[.string (bk x.space),.string (bk x.name),.string (bk x.value)] 75 (0,0))]::H) (fun v H'=>v=.bool (out.any (sameA x))∧H'=[(xb,.cells #[.string (bk x.space),.string (bk x.name),.string (bk x.value)] 75 (0,0))]::H):=by
  subst hno; exact xhasF_ out a c S hrd hol x xb W0 H hS
theorem xelementW_ (lv:Nat) (d:Int) (hd:d=24 - (lv:Int)) (hlv:lv≤24) (r:Nat) (q:XS) (hl:q.1.length≤1000000) (ms mc:Nat) (M:SM) (sp:SPX) (hM:SpR M sp) (hcont:∀ n,lv=n+1→∀ (q:XS),q.1.length≤1000000→∀ (nb:Nat) (v0 v1 v2 v4:Value) (ms mc:Nat) (M:SM) (sp:SPX),SpR M sp→∀ (W0:World) (H:List Grp),R2 W0→Tri Tryz.prog 109 #[pt r,pt nb,.int .i64 d,.map (some ms)] W0 (rdX r q::[(ms,.map (C9 M) mc)]::[(nb,.cells #[v0,v1,v2,.slice none 0 0,v4] 55 (0,0))]::H) (fun _ H2=>∃ kn ka kc kg cs gs,kn=(F3 (elX n sp) (q.1.length+1) [] q).1.length∧Go.Sw.Own 55 5 (.slice ka kn kc) kg kn cs∧XRepL 75 55 (F3 (elX n sp) (q.1.length+1) [] q).1 cs gs∧H2=rdX r (F3 (elX n sp) (q.1.length+1) [] q).2::[(ms,.map (C9 M) mc)]::[(nb,.cells #[v0,v1,v2,.slice ka kn kc,v4] 55 (0,0))]::kg::gs::H)) (W0:World) (H:List Grp) (hX:R2 W0):Tri Tryz.prog 63 #[pt r,.int .i64 d,.map (some ms)] W0 ([(r,.cells #[.string (bk q.1),.int .i64 q.2] 97 (0,0))]::[(ms,.map (C9 M) mc)]::H) (fun v H2=>∃ c g,XRep 75 55 (elX lv sp q).1 c g∧v=.agg c.toArray∧H2=rdX r (elX lv sp q).2::[(ms,.map (C9 M) mc)]::g::H):=by
  have hql:=qual_le q
  have hal0:=(attrs_le ((A5 q).2.1.length+1) [] (A5 q).2).2
  have hal:(F1 ((A5 q).2.1.length+1) [] (A5 q).2).1.length≤1000002:=by rw [List.length_nil] at hal0; omega
  refine D0 (args:=[pt r,.int .i64 d,.map (some ms)]) (n:=142) Tryz.func63 rfl rfl (Nat.le_of_ble_eq_true rfl) ?_
  refine A1 (A3 ?_)
  refine H5 (ch:=[]) (z:=.agg zN.toArray) (k:=(fun b1=>?_))
  refine B1 [] [0,1,2,6] (k:=A0 ?_)
  refine A1 (A3 ?_)
  refine A4 (j:=1) [0] (k:=H4 rfl (H':=([(r,.cells #[.string (bk q.1),.int .i64 q.2] 97 (0,0))]::[(b1,.cells zN.toArray 55 (0,0))]::[(ms,.map (C9 M) mc)]::H)) (fun w h=>(h.front (j:=1) rfl)) ?_)
  refine E7 Tryz.func103 (xqual_ r q (by first | omega | (have h9:=cont_le (el_le n (elS sp q).1) (q2.1.length+1) [] q2; omega)) _ _) ?_
  rintro _ _ ⟨rfl,rfl⟩
  refine B1 [0,0,0,0,0,0,0] [0,1,2,6,7,8,9] (k:=A0 ?_)
  refine A1 (A3 ?_)
  refine A4 (j:=1) [0] (k:=E7 Tryz.func104 (xattrs_ r (A5 q).2 (by have:=qual_le q; omega) _ _ hX) ?_)
  rintro _ _ ⟨ta,tc,tg,rfl,hTA,rfl⟩
  refine B1 [0] [0,1,2,6,7,8,9,10] (k:=A0 ?_)
  refine A1 (A3 ?_)
  refine A4 (j:=1) [0] (k:=E7 Tryz.func102 (xtakeb_ r ((F1 ((A5 q).2.1.length+1) [] (A5 q).2).2) [47,62] _ _) ?_)
  rintro _ _ ⟨rfl,rfl⟩
  refine B1 [0] [0,1,2,6,7,8,9,10,11] (k:=A0 ?_)
  refine A1 (A1 ?_)
  refine G_p [0,0] [0,1,2,6,7,8,9,10,11,30] (k:=A0 ?_)
  refine Q7 (T:=Unit) (fun _:Unit=>[⟨0,[],pt r⟩,⟨1,[],.int .i64 d⟩,⟨2,[],.map (some ms)⟩,⟨6,[],pt b1⟩,⟨7,[],.string (bk (A5 q).1.pre)⟩,⟨8,[],.string (bk (A5 q).1.name)⟩,⟨9,[],.bool ((A5 q).1.has)⟩,⟨10,[],.slice ta ((F1 ((A5 q).2.1.length+1) [] (A5 q).2).1.length) tc⟩,⟨11,[],.bool ((G0 [47,62] ((F1 ((A5 q).2.1.length+1) [] (A5 q).2).2)).1)⟩]) (fun _:Unit=>([(r,.cells #[.string (bk ((elT q).2.2).1),.int .i64 (((elT q).2.2).2)] 97 (0,0))]::tg::[(b1,.cells zN.toArray 55 (0,0))]::[(ms,.map (C9 M) mc)]::H)) (fun _:Unit=>True) ?_ ?_
  ·
    refine B7 (b:=!((G0 [47,62] ((F1 ((A5 q).2.1.length+1) [] (A5 q).2).2)).1)) kr (fun hc2=>?_) (fun hc2=>?_)
    ·
      have hcl:¬ (G0 [47,62] (F1 ((A5 q).2.1.length+1) [] (A5 q).2).2).1=true:=by have h:=hc2; simpa using h
      refine A3 (A4 (j:=1) [0] (k:=?_))
      refine E7 Tryz.func62 (xmust_ r ((G0 [47,62] ((F1 ((A5 q).2.1.length+1) [] (A5 q).2).2)).2) [62] _ _) ?_
      rintro _ _ rfl
      refine B5 (E':=[⟨0,[],pt r⟩,⟨1,[],.int .i64 d⟩,⟨2,[],.map (some ms)⟩,⟨6,[],pt b1⟩,⟨7,[],.string (bk (A5 q).1.pre)⟩,⟨8,[],.string (bk (A5 q).1.name)⟩,⟨9,[],.bool ((A5 q).1.has)⟩,⟨10,[],.slice ta ((F1 ((A5 q).2.1.length+1) [] (A5 q).2).1.length) tc⟩,⟨11,[],.bool ((G0 [47,62] ((F1 ((A5 q).2.1.length+1) [] (A5 q).2).2)).1)⟩]) [] [0,1,2,6,7,8,9,10,11] (k:=?_)
      have hq9:(elT q).2.2=C2 [62] (G0 [47,62] (F1 ((A5 q).2.1.length+1) [] (A5 q).2).2).2:=if_neg hcl
      refine N_heq (H':=([(r,.cells #[.string (bk ((elT q).2.2).1),.int .i64 (((elT q).2.2).2)] 97 (0,0))]::tg::[(b1,.cells zN.toArray 55 (0,0))]::[(ms,.map (C9 M) mc)]::H)) (by rw [hq9]; try rfl) (H0 (()) [0,1,2,6,7,8,9,10,11] kr (fun w h=>h) trivial)
    ·
      have hcl:(G0 [47,62] (F1 ((A5 q).2.1.length+1) [] (A5 q).2).2).1=true:=by have h:=hc2; simpa using h
      refine B4 (W4 (E':=[⟨0,[],pt r⟩,⟨1,[],.int .i64 d⟩,⟨2,[],.map (some ms)⟩,⟨6,[],pt b1⟩,⟨7,[],.string (bk (A5 q).1.pre)⟩,⟨8,[],.string (bk (A5 q).1.name)⟩,⟨9,[],.bool ((A5 q).1.has)⟩,⟨10,[],.slice ta ((F1 ((A5 q).2.1.length+1) [] (A5 q).2).1.length) tc⟩,⟨11,[],.bool ((G0 [47,62] ((F1 ((A5 q).2.1.length+1) [] (A5 q).2).2)).1)⟩,⟨30,[],.bool (!((G0 [47,62] ((F1 ((A5 q).2.1.length+1) [] (A5 q).2).2)).1))⟩]) kr ?_)
      have hq9:(elT q).2.2=(G0 [47,62] (F1 ((A5 q).2.1.length+1) [] (A5 q).2).2).2:=if_pos hcl
      refine N_heq (H':=([(r,.cells #[.string (bk ((elT q).2.2).1),.int .i64 (((elT q).2.2).2)] 97 (0,0))]::tg::[(b1,.cells zN.toArray 55 (0,0))]::[(ms,.map (C9 M) mc)]::H)) (by rw [hq9]; try rfl) (H0 (()) [0,1,2,6,7,8,9,10,11] kr (fun w h=>h) trivial)
  ·
    rintro _ _
    refine A0 (A1 ?_)
    refine A1 (A3 ?_)
    refine A4 (j:=3) [0,0,0] (k:=A6 (ch:=[]) (b:=r) (off:=1) (v:=.int .i64 (((elT q).2.2).2)) (hA:=At.grp 0 0 rfl rfl) (k:=?_))
    refine B1 [0] [0,1,2,6,7,8,9,10,11,37] (k:=A0 ?_)
    refine B7 (b:=(((elT q).2.2).2) != 0) kr (fun hc3=>?_) (fun hc3=>?_)
    ·
      have hf:(elT q).2.2.2≠0:=by simpa using hc3
      have hE:elX lv sp q=_:=el_1 hf
      refine A1 (A3 ?_)
      refine A4 (j:=1) [0] (k:=E2 (ch:=[]) (b:=b1) (off:=0) (v:=.agg zN.toArray) (j:=2) ([(r,.cells #[.string (bk ((elT q).2.2).1),.int .i64 (((elT q).2.2).2)] 97 (0,0))]::tg::[(b1,.cells zN.toArray 55 (0,0))]::[(ms,.map (C9 M) mc)]::H) (hoff:=Nat.le_of_ble_eq_true rfl) (hfz:=(fun _ _=>E0)) (k:=?_))
      refine B5 (E':=[⟨6,[],pt b1⟩]) [] [6] (k:=A0 ?_)
      refine C5 (B2 ?_)
      refine C1 (H':=([(r,.cells #[.string (bk ((elT q).2.2).1),.int .i64 (((elT q).2.2).2)] 97 (0,0))]::[(ms,.map (C9 M) mc)]::[(b1,.cells zN.toArray 55 (0,0))]::[]::H)) (fun w h=>Sat.flat ((((h.front (j:=2) rfl).front (j:=3) rfl).front (j:=2) rfl).erase 3) (List.Perm.of_eq (by simp []))) (Q6 [.cell 6 55] [.agg zN.toArray] rfl (.cons (.agg (b:=b1) (off:=0) (l:=zN) kr kr kr (At.grp 2 0 rfl rfl) kr) (.nil)) rfl ⟨([(r,.cells #[.string (bk ((elT q).2.2).1),.int .i64 (((elT q).2.2).2)] 97 (0,0))]::[(ms,.map (C9 M) mc)]::[]::H),?_,fun w h=>(h.erase 2)⟩)
      rw [hE]; exact ⟨_,_,XRep.nul,rfl,rfl⟩
    ·
      have hf:(elT q).2.2.2=0:=by simpa using hc3
      refine B4 (A0 ?_)
      refine A1 (A3 ?_)
      refine A4 (j:=3) [0,0,0] (k:=H4 rfl (H':=([(r,.cells #[.string (bk ((elT q).2.2).1),.int .i64 (((elT q).2.2).2)] 97 (0,0))]::[(ms,.map (C9 M) mc)]::tg::[(b1,.cells zN.toArray 55 (0,0))]::H)) (fun w h=>((h.front (j:=3) rfl).front (j:=1) rfl)) ?_)
      refine E7 Tryz.func105 (xspaces_ r (elT q).2.2 (F1 ((A5 q).2.1.length+1) [] (A5 q).2).1 ta tc (inG tg) (K7 hTA) hal ms mc M sp hM _ _ (D4 0 rfl)) ?_
      rintro _ _ ⟨mo,Mo,co,rfl,hMo,rfl⟩
      have hMo:SpR Mo (elS sp q).1:=hMo
      refine B1 [0] [0,1,2,6,7,8,9,10,11] (k:=A0 ?_)
      refine A1 (A3 ?_)
      refine A4 (j:=4) [0,0,0,0] (k:=E7 Tryz.func106 (xspace_ r ((elS sp q).2) ((A5 q).1.pre) ((A5 q).1.has) mo co Mo (elS sp q).1 hMo _ _) ?_)
      rintro _ _ ⟨rfl,rfl⟩
      refine A4 (j:=7) [0,0] (k:=H5 (ch:=[]) (z:=.agg zN.toArray) (k:=(fun b4=>?_)))
      refine E2 (ch:=[]) (b:=b4) (off:=0) (v:=.agg #[.string (bk (elV sp q).1),.string (bk (A5 q).1.name),.slice none 0 0,.slice none 0 0,.string eB]) (j:=0) ([(b4,.cells #[.string (bk (elV sp q).1),.string (bk (A5 q).1.name),.slice none 0 0,.slice none 0 0,.string eB] 55 (0,0))]::[(r,.cells #[.string (bk ((elV sp q).2).1),.int .i64 (((elV sp q).2).2)] 97 (0,0))]::[(mo,.map (C9 Mo) co)]::[(ms,.map (C9 M) mc)]::tg::[(b1,.cells zN.toArray 55 (0,0))]::H) (hoff:=Nat.le_of_ble_eq_true rfl) (hfz:=(fun _ _=>E0)) (k:=B1 [] [0,1,2,6,7,8,9,10,11,12] (k:=?_))
      refine A0 (A1 ?_)
      refine A1 (G_p [0,0,0] [0,1,2,6,7,8,9,11,12,50,51,52] (k:=?_))
      refine A0 (B8 ?_)
      refine G_heap (H':=([(r,.cells #[.string (bk ((elV sp q).2).1),.int .i64 (((elV sp q).2).2)] 97 (0,0))]::[(mo,.map (C9 Mo) co)]::[(ms,.map (C9 M) mc)]::[(b4,.cells #[.string (bk (elV sp q).1),.string (bk (A5 q).1.name),.slice none 0 0,.slice none 0 0,.string eB] 55 (0,0))]::[]::tg::[(b1,.cells zN.toArray 55 (0,0))]::H)) (fun w h=>(Sat.flat ((((((h.front (j:=5) rfl).front (j:=5) rfl).front (j:=2) rfl).front (j:=5) rfl).front (j:=5) rfl).front (j:=5) rfl) (List.Perm.of_eq (by simp)))) (L4 (EI:=(fun ξ:Nat × XS × List XA × Nat × Option Addr × Nat × Grp=>[⟨0,[],pt r⟩,⟨1,[],.int .i64 d⟩,⟨2,[],.map (some mo)⟩,⟨6,[],pt b1⟩,⟨7,[],.string (bk (A5 q).1.pre)⟩,⟨8,[],.string (bk (A5 q).1.name)⟩,⟨9,[],.bool ((A5 q).1.has)⟩,⟨11,[],.bool ((G0 [47,62] ((F1 ((A5 q).2.1.length+1) [] (A5 q).2).2)).1)⟩,⟨12,[],pt b4⟩,⟨50,[],.slice ta ((F1 ((A5 q).2.1.length+1) [] (A5 q).2).1.length) tc⟩,⟨51,[],.int .i64 (((F1 ((A5 q).2.1.length+1) [] (A5 q).2).1.length:Nat):Int)⟩,⟨52,[],.int .i64 ((ξ.1:Nat):Int)⟩])) (HI:=(fun ξ:Nat × XS × List XA × Nat × Option Addr × Nat × Grp=>([(r,.cells #[.string (bk ξ.2.1.1),.int .i64 ξ.2.1.2] 97 (0,0))]::[(mo,.map (C9 Mo) co)]::[(ms,.map (C9 M) mc)]::[(b4,.cells #[.string (bk (elV sp q).1),.string (bk (A5 q).1.name),.slice ξ.2.2.2.2.1 ξ.2.2.2.1 ξ.2.2.2.2.2.1,.slice none 0 0,.string eB] 55 (0,0))]::ξ.2.2.2.2.2.2::tg::[(b1,.cells zN.toArray 55 (0,0))]::H))) (Φ:=(fun ξ:Nat × XS × List XA × Nat × Option Addr × Nat × Grp=>(ξ.1≤(F1 ((A5 q).2.1.length+1) [] (A5 q).2).1.length)∧(elM sp q=M7 ((F1 ((A5 q).2.1.length+1) [] (A5 q).2).1.drop ξ.1) ξ.2.2.1 (elS sp q).1 ξ.2.1)∧(Go.Sw.Own 75 3 (.slice ξ.2.2.2.2.1 ξ.2.2.2.1 ξ.2.2.2.2.2.1) ξ.2.2.2.2.2.2 ξ.2.2.2.1 (xaV ξ.2.2.1))∧(ξ.2.2.2.1=ξ.2.2.1.length)∧(ξ.2.2.2.1≤ξ.1)∧(ξ.2.1.1.length≤1000000))) (μ:=(fun ξ:Nat × XS × List XA × Nat × Option Addr × Nat × Grp=>(F1 ((A5 q).2.1.length+1) [] (A5 q).2).1.length - ξ.1)) (s0:=(0,(elV sp q).2,[],0,none,0,[])) [0,1,2,6,7,8,9,11,12,50,51,52] kr kr ⟨(Nat.zero_le _),rfl,Go.Sw.Own.nil,rfl,(Nat.le_refl _),(by have h9:=elT_le q; rw [elV_le]; omega)⟩ ?_)
      rintro ⟨k,q2,out,no,oa,oc,og⟩ ⟨hkl,hT,hO,hno,hnk,hl2⟩
      dsimp only at hkl hT hO hno hnk hl2
      refine A1 (G_p [0] [0,1,2,6,7,8,9,11,12,50,51,52,53] (k:=?_))
      refine A0 (A1 ?_)
      refine B7 (b:=decide (((k:Nat):Int)<(((F1 ((A5 q).2.1.length+1) [] (A5 q).2).1.length:Nat):Int))) kr (fun hc5=>?_) (fun hc5=>?_)
      ·
        have hk:k<(F1 ((A5 q).2.1.length+1) [] (A5 q).2).1.length:=by have:=hc5; simp only [decide_eq_true_eq] at this; omega
        refine B4 (A0 ?_)
        refine A1 (B8 ?_)
        refine A1 (A3 ?_)
        refine A9 (ch:=[]) (a:=ta) (len:=(F1 ((A5 q).2.1.length+1) [] (A5 q).2).1.length) (cap:=tc) (kd:=.i64) (j:=((k:Nat):Int)) (e:=137) (sz:=4) (S:=(inG tg)) (cs:=(atV (F1 ((A5 q).2.1.length+1) [] (A5 q).2).1)) (hrd:=K7 hTA) (hb:=(fun _=>by exact ⟨by omega,by omega,by intro h; have:=congrArg List.length h; rw [atV_len] at this; simp only [List.length_nil] at this; omega⟩)) (k:=?_)
        obtain ⟨x,hx⟩:∃ x,x=(F1 ((A5 q).2.1.length+1) [] (A5 q).2).1[k]'hk:=⟨_,rfl⟩
        refine L0 (ch:=[]) (a:=ta) (q:=k * 4) (S:=(inG tg)) (cs:=(atV (F1 ((A5 q).2.1.length+1) [] (A5 q).2).1)) (l:=[.string (bk x.q.pre),.string (bk x.q.name),.string (bk x.value),.bool x.q.has]) (hrd:=K7 hTA) (hS:=D4 5 rfl) (hl:=List.cons_ne_nil _ _) (hv:=(fun _=>(elt4 (by rw [hx]; exact atV_at hk)))) (k:=H5 (ch:=[]) (z:=.agg #[.string eB,.string eB,.string eB,.bool false]) (k:=(fun b6=>?_)))
        refine E2 (ch:=[]) (b:=b6) (off:=0) (v:=.agg #[.string (bk x.q.pre),.string (bk x.q.name),.string (bk x.value),.bool x.q.has]) (j:=0) ([(b6,.cells #[.string (bk x.q.pre),.string (bk x.q.name),.string (bk x.value),.bool x.q.has] 137 (0,0))]::[(r,.cells #[.string (bk q2.1),.int .i64 q2.2] 97 (0,0))]::[(mo,.map (C9 Mo) co)]::[(ms,.map (C9 M) mc)]::[(b4,.cells #[.string (bk (elV sp q).1),.string (bk (A5 q).1.name),.slice oa no oc,.slice none 0 0,.string eB] 55 (0,0))]::og::tg::[(b1,.cells zN.toArray 55 (0,0))]::H) (hoff:=Nat.le_of_ble_eq_true rfl) (hfz:=(fun _ _=>E0)) (k:=B1 [] [0,1,2,6,7,8,9,11,12,14,50,51,52] (k:=?_))
        refine A0 (A1 ?_)
        refine A1 (A3 ?_)
        refine A4 (j:=1) [0] (k:=A6 (ch:=[]) (b:=b6) (off:=3) (v:=.bool x.q.has) (hA:=At.grp 0 0 rfl rfl) (k:=?_))
        refine A4 (j:=4) [0,0] (k:=A6 (ch:=[(58,true)]) (b:=b6) (off:=0) (v:=.string (bk x.q.pre)) (hA:=At.grp 0 0 rfl rfl) (k:=?_))
        refine A4 (j:=9) [0,6,0,0] (k:=A6 (ch:=[(63,false)]) (b:=b6) (off:=3) (v:=.bool x.q.has) (hA:=At.grp 0 0 rfl rfl) (k:=?_))
        refine A4 (j:=13) [0,0,0] (k:=A6 (ch:=[(67,true),(63,false)]) (b:=b6) (off:=1) (v:=.string (bk x.q.name)) (hA:=At.grp 0 0 rfl rfl) (k:=?_))
        refine B1 [0,6,5] [0,1,2,6,7,8,9,11,12,14,50,51,52,72] (k:=A0 ?_)
        refine B7 (b:=(x.q.has&&((bk x.q.pre).toList==(mB #[120,109,108,110,115]).toList))||((!x.q.has)&&((bk x.q.name).toList==(mB #[120,109,108,110,115]).toList))) kr (fun hc7=>?_) (fun hc7=>?_)
        ·
          have hd:(Q4 x).isSome=true:=decl_is.2 (by have h:=hc7; simp only [Bool.or_eq_true,Bool.and_eq_true,Bool.not_eq_true'] at h; exact h.imp (fun h=>⟨h.1,(eqB _ _).1 h.2⟩) (fun h=>⟨h.1,(eqB _ _).1 h.2⟩))
          refine H7 (B0 ?_)
          refine C7 (A0 ?_)
          refine A3 (A4 (j:=1) [0] (k:=?_))
          refine F6 98 (((k:Nat):Int)+1) (by omega) (by omega) kr (B1 [0] [0,1,2,6,7,8,9,11,12,50,51,52] (k:=?_))
          refine C1 (H':=([(r,.cells #[.string (bk q2.1),.int .i64 q2.2] 97 (0,0))]::[(mo,.map (C9 Mo) co)]::[(ms,.map (C9 M) mc)]::[(b4,.cells #[.string (bk (elV sp q).1),.string (bk (A5 q).1.name),.slice oa no oc,.slice none 0 0,.string eB] 55 (0,0))]::og::tg::[(b1,.cells zN.toArray 55 (0,0))]::H)) (fun w h=>(h.erase 0)) (E9 (s':=((k+1),q2,out,no,oa,oc,og)) [0,1,2,6,7,8,9,11,12,50,51,52] kr kr ⟨(by dsimp only; omega),(by dsimp only; rw [hT,L7 hk,← hx,marks_skip hd]),hO,hno,(by dsimp only; omega),hl2⟩ (by dsimp only; omega))
        ·
          have hd:(Q4 x).isSome=false:=by
            rw [← Bool.not_eq_true,decl_is]
            have h2:=hc7
            rintro (h | h)
            · rw [h.1,show ((bk x.q.pre).toList==(mB #[120,109,108,110,115]).toList)=true from (eqB _ _).2 h.2] at h2; exact Bool.noConfusion h2
            · rw [h.1,show ((bk x.q.name).toList==(mB #[120,109,108,110,115]).toList)=true from (eqB _ _).2 h.2] at h2; simp at h2
          refine B4 (A0 ?_)
          refine A1 (A3 ?_)
          refine A4 (j:=1) [0] (k:=A6 (ch:=[]) (b:=b6) (off:=1) (v:=.string (bk x.q.name)) (hA:=At.grp 0 0 rfl rfl) (k:=?_))
          refine A4 (j:=3) [0] (k:=A6 (ch:=[]) (b:=b6) (off:=2) (v:=.string (bk x.value)) (hA:=At.grp 0 0 rfl rfl) (k:=?_))
          refine A4 (j:=5) [0] (k:=H5 (ch:=[]) (z:=.agg #[.string eB,.string eB,.string eB]) (k:=(fun b9=>?_)))
          refine E2 (ch:=[]) (b:=b9) (off:=0) (v:=.agg #[.string eB,.string (bk x.q.name),.string (bk x.value)]) (j:=0) ([(b9,.cells #[.string eB,.string (bk x.q.name),.string (bk x.value)] 75 (0,0))]::[(b6,.cells #[.string (bk x.q.pre),.string (bk x.q.name),.string (bk x.value),.bool x.q.has] 137 (0,0))]::[(r,.cells #[.string (bk q2.1),.int .i64 q2.2] 97 (0,0))]::[(mo,.map (C9 Mo) co)]::[(ms,.map (C9 M) mc)]::[(b4,.cells #[.string (bk (elV sp q).1),.string (bk (A5 q).1.name),.slice oa no oc,.slice none 0 0,.string eB] 55 (0,0))]::og::tg::[(b1,.cells zN.toArray 55 (0,0))]::H) (hoff:=Nat.le_of_ble_eq_true rfl) (hfz:=(fun _ _=>E0)) (k:=B1 [] [0,1,2,6,7,8,9,11,12,14,15,50,51,52] (k:=?_))
          refine A0 (A1 ?_)
          refine A1 (A3 ?_)
          refine A4 (j:=1) [0] (k:=A6 (ch:=[]) (b:=b6) (off:=3) (v:=.bool x.q.has) (hA:=At.grp 1 0 rfl rfl) (k:=?_))
          refine B1 [] [0,1,2,6,7,8,9,11,12,14,15,50,51,52,79] (k:=A0 ?_)
          refine Q7 (T:=Unit) (fun _:Unit=>[⟨0,[],pt r⟩,⟨1,[],.int .i64 d⟩,⟨2,[],.map (some mo)⟩,⟨6,[],pt b1⟩,⟨7,[],.string (bk (A5 q).1.pre)⟩,⟨8,[],.string (bk (A5 q).1.name)⟩,⟨9,[],.bool ((A5 q).1.has)⟩,⟨11,[],.bool ((G0 [47,62] ((F1 ((A5 q).2.1.length+1) [] (A5 q).2).2)).1)⟩,⟨12,[],pt b4⟩,⟨15,[],pt b9⟩,⟨50,[],.slice ta ((F1 ((A5 q).2.1.length+1) [] (A5 q).2).1.length) tc⟩,⟨51,[],.int .i64 (((F1 ((A5 q).2.1.length+1) [] (A5 q).2).1.length:Nat):Int)⟩,⟨52,[],.int .i64 ((k:Nat):Int)⟩]) (fun _:Unit=>([(b9,.cells #[.string (bk (mkX (elS sp q).1 x q2).1),.string (bk x.q.name),.string (bk x.value)] 75 (0,0))]::[(b6,.cells #[.string (bk x.q.pre),.string (bk x.q.name),.string (bk x.value),.bool x.q.has] 137 (0,0))]::[(r,.cells #[.string (bk ((mkX (elS sp q).1 x q2).2).1),.int .i64 (((mkX (elS sp q).1 x q2).2).2)] 97 (0,0))]::[(mo,.map (C9 Mo) co)]::[(ms,.map (C9 M) mc)]::[(b4,.cells #[.string (bk (elV sp q).1),.string (bk (A5 q).1.name),.slice oa no oc,.slice none 0 0,.string eB] 55 (0,0))]::og::tg::[(b1,.cells zN.toArray 55 (0,0))]::H)) (fun _:Unit=>True) ?_ ?_
          ·
            refine B7 (b:=x.q.has) kr (fun hc10=>?_) (fun hc10=>?_)
            ·
              have hhas:x.q.has=true:=hc10
              refine A3 (A4 (j:=2) [0,0] (k:=?_))
              refine A6 (ch:=[]) (b:=b6) (off:=0) (v:=.string (bk x.q.pre)) (hA:=At.grp 1 0 rfl rfl) (k:=A4 (j:=4) [0] (k:=?_))
              refine H4 rfl (H':=([(r,.cells #[.string (bk q2.1),.int .i64 q2.2] 97 (0,0))]::[(mo,.map (C9 Mo) co)]::[(b9,.cells #[.string eB,.string (bk x.q.name),.string (bk x.value)] 75 (0,0))]::[(b6,.cells #[.string (bk x.q.pre),.string (bk x.q.name),.string (bk x.value),.bool x.q.has] 137 (0,0))]::[(ms,.map (C9 M) mc)]::[(b4,.cells #[.string (bk (elV sp q).1),.string (bk (A5 q).1.name),.slice oa no oc,.slice none 0 0,.string eB] 55 (0,0))]::og::tg::[(b1,.cells zN.toArray 55 (0,0))]::H)) (fun w h=>((h.front (j:=3) rfl).front (j:=3) rfl)) (E7 Tryz.func106 (xspace_ r q2 x.q.pre true mo co Mo (elS sp q).1 hMo _ _) ?_)
              rintro _ _ ⟨rfl,rfl⟩
              refine A4 (j:=6) [0] (k:=E2 (ch:=[]) (b:=b9) (off:=0) (v:=.string (bk (J2 x.q.pre true (elS sp q).1 q2).1)) (j:=2) ([(r,.cells #[.string (bk ((J2 x.q.pre true (elS sp q).1 q2).2).1),.int .i64 (((J2 x.q.pre true (elS sp q).1 q2).2).2)] 97 (0,0))]::[(mo,.map (C9 Mo) co)]::[(b9,.cells #[.string (bk (J2 x.q.pre true (elS sp q).1 q2).1),.string (bk x.q.name),.string (bk x.value)] 75 (0,0))]::[(b6,.cells #[.string (bk x.q.pre),.string (bk x.q.name),.string (bk x.value),.bool x.q.has] 137 (0,0))]::[(ms,.map (C9 M) mc)]::[(b4,.cells #[.string (bk (elV sp q).1),.string (bk (A5 q).1.name),.slice oa no oc,.slice none 0 0,.string eB] 55 (0,0))]::og::tg::[(b1,.cells zN.toArray 55 (0,0))]::H) (hoff:=Nat.le_of_ble_eq_true rfl) (hfz:=(fun _ _=>E0)) (k:=?_))
              refine B5 (E':=[⟨0,[],pt r⟩,⟨1,[],.int .i64 d⟩,⟨2,[],.map (some mo)⟩,⟨6,[],pt b1⟩,⟨7,[],.string (bk (A5 q).1.pre)⟩,⟨8,[],.string (bk (A5 q).1.name)⟩,⟨9,[],.bool ((A5 q).1.has)⟩,⟨11,[],.bool ((G0 [47,62] ((F1 ((A5 q).2.1.length+1) [] (A5 q).2).2)).1)⟩,⟨12,[],pt b4⟩,⟨15,[],pt b9⟩,⟨50,[],.slice ta ((F1 ((A5 q).2.1.length+1) [] (A5 q).2).1.length) tc⟩,⟨51,[],.int .i64 (((F1 ((A5 q).2.1.length+1) [] (A5 q).2).1.length:Nat):Int)⟩,⟨52,[],.int .i64 ((k:Nat):Int)⟩]) [] [0,1,2,6,7,8,9,11,12,15,50,51,52] (k:=C1 (H':=([(b9,.cells #[.string (bk (J2 x.q.pre true (elS sp q).1 q2).1),.string (bk x.q.name),.string (bk x.value)] 75 (0,0))]::[(b6,.cells #[.string (bk x.q.pre),.string (bk x.q.name),.string (bk x.value),.bool x.q.has] 137 (0,0))]::[(r,.cells #[.string (bk ((J2 x.q.pre true (elS sp q).1 q2).2).1),.int .i64 (((J2 x.q.pre true (elS sp q).1 q2).2).2)] 97 (0,0))]::[(mo,.map (C9 Mo) co)]::[(ms,.map (C9 M) mc)]::[(b4,.cells #[.string (bk (elV sp q).1),.string (bk (A5 q).1.name),.slice oa no oc,.slice none 0 0,.string eB] 55 (0,0))]::og::tg::[(b1,.cells zN.toArray 55 (0,0))]::H)) (fun w h=>(((((((((h.front (j:=8) rfl).front (j:=8) rfl).front (j:=8) rfl).front (j:=8) rfl).front (j:=8) rfl).front (j:=6) rfl).front (j:=6) rfl).front (j:=8) rfl).front (j:=8) rfl)) ?_)
              have hq9:(mkX (elS sp q).1 x q2)=J2 x.q.pre true (elS sp q).1 q2:=mkX_yes hhas
              refine N_heq (H':=([(b9,.cells #[.string (bk (mkX (elS sp q).1 x q2).1),.string (bk x.q.name),.string (bk x.value)] 75 (0,0))]::[(b6,.cells #[.string (bk x.q.pre),.string (bk x.q.name),.string (bk x.value),.bool x.q.has] 137 (0,0))]::[(r,.cells #[.string (bk ((mkX (elS sp q).1 x q2).2).1),.int .i64 (((mkX (elS sp q).1 x q2).2).2)] 97 (0,0))]::[(mo,.map (C9 Mo) co)]::[(ms,.map (C9 M) mc)]::[(b4,.cells #[.string (bk (elV sp q).1),.string (bk (A5 q).1.name),.slice oa no oc,.slice none 0 0,.string eB] 55 (0,0))]::og::tg::[(b1,.cells zN.toArray 55 (0,0))]::H)) (by rw [hq9]; try rfl) (H0 (()) [0,1,2,6,7,8,9,11,12,15,50,51,52] kr (fun w h=>h) trivial)
            ·
              have hhas:x.q.has=false:=hc10
              refine B4 (W4 (E':=[⟨0,[],pt r⟩,⟨1,[],.int .i64 d⟩,⟨2,[],.map (some mo)⟩,⟨6,[],pt b1⟩,⟨7,[],.string (bk (A5 q).1.pre)⟩,⟨8,[],.string (bk (A5 q).1.name)⟩,⟨9,[],.bool ((A5 q).1.has)⟩,⟨11,[],.bool ((G0 [47,62] ((F1 ((A5 q).2.1.length+1) [] (A5 q).2).2)).1)⟩,⟨12,[],pt b4⟩,⟨14,[],pt b6⟩,⟨15,[],pt b9⟩,⟨50,[],.slice ta ((F1 ((A5 q).2.1.length+1) [] (A5 q).2).1.length) tc⟩,⟨51,[],.int .i64 (((F1 ((A5 q).2.1.length+1) [] (A5 q).2).1.length:Nat):Int)⟩,⟨52,[],.int .i64 ((k:Nat):Int)⟩,⟨79,[],.bool x.q.has⟩]) kr ?_)
              have hq9:(mkX (elS sp q).1 x q2)=([],q2):=mkX_no hhas
              refine N_heq (H':=([(b9,.cells #[.string (bk (mkX (elS sp q).1 x q2).1),.string (bk x.q.name),.string (bk x.value)] 75 (0,0))]::[(b6,.cells #[.string (bk x.q.pre),.string (bk x.q.name),.string (bk x.value),.bool x.q.has] 137 (0,0))]::[(r,.cells #[.string (bk ((mkX (elS sp q).1 x q2).2).1),.int .i64 (((mkX (elS sp q).1 x q2).2).2)] 97 (0,0))]::[(mo,.map (C9 Mo) co)]::[(ms,.map (C9 M) mc)]::[(b4,.cells #[.string (bk (elV sp q).1),.string (bk (A5 q).1.name),.slice oa no oc,.slice none 0 0,.string eB] 55 (0,0))]::og::tg::[(b1,.cells zN.toArray 55 (0,0))]::H)) (by rw [hq9]; try rfl) (H0 (()) [0,1,2,6,7,8,9,11,12,15,50,51,52] kr (fun w h=>h) trivial)
          ·
            rintro _ _
            refine A0 (A1 ?_)
            refine A1 (A3 ?_)
            refine A4 (j:=1) [0] (k:=A6 (ch:=[]) (b:=b4) (off:=2) (v:=.slice oa no oc) (hA:=At.grp 5 0 rfl rfl) (k:=?_))
            refine A4 (j:=3) [0] (k:=E7 Tryz.func107 (xhasN_ out no hno oa oc (inG og) (K7 hO) (by omega) (XA.mk (mkX (elS sp q).1 x q2).1 x.q.name x.value) b9 _ _ (D4 5 rfl)) ?_)
            rintro _ _ ⟨rfl,rfl⟩
            refine B1 [] [0,1,2,6,7,8,9,11,12,15,50,51,52,89] (k:=A0 ?_)
            refine B7 (b:=(out.any (sameA (XA.mk (mkX (elS sp q).1 x q2).1 x.q.name x.value)))) kr (fun hc11=>?_) (fun hc11=>?_)
            ·
              have hany:(out.any fun y=>y.space==(mkX (elS sp q).1 x q2).1&&y.name==x.q.name)=true:=hc11
              refine A3 (A4 (j:=1) [0] (k:=?_))
              refine H4 rfl (H':=([(r,.cells #[.string (bk ((mkX (elS sp q).1 x q2).2).1),.int .i64 (((mkX (elS sp q).1 x q2).2).2)] 97 (0,0))]::[(b9,.cells #[.string (bk (mkX (elS sp q).1 x q2).1),.string (bk x.q.name),.string (bk x.value)] 75 (0,0))]::[(b6,.cells #[.string (bk x.q.pre),.string (bk x.q.name),.string (bk x.value),.bool x.q.has] 137 (0,0))]::[(mo,.map (C9 Mo) co)]::[(ms,.map (C9 M) mc)]::[(b4,.cells #[.string (bk (elV sp q).1),.string (bk (A5 q).1.name),.slice oa no oc,.slice none 0 0,.string eB] 55 (0,0))]::og::tg::[(b1,.cells zN.toArray 55 (0,0))]::H)) (fun w h=>(h.front (j:=2) rfl)) (E7 Tryz.func64 (M3 r ((mkX (elS sp q).1 x q2).2) 70 _ _) ?_)
              rintro _ _ rfl
              refine B1 [] [0,1,2,6,7,8,9,11,12,15,50,51,52] (k:=A0 ?_)
              refine A3 (A4 (j:=1) [0] (k:=?_))
              refine A6 (ch:=[]) (b:=b4) (off:=2) (v:=.slice oa no oc) (hA:=At.grp 5 0 rfl rfl) (k:=I5 (ch:=[]) (b:=b9) (off:=0) (l:=[.string (bk (mkX (elS sp q).1 x q2).1),.string (bk x.q.name),.string (bk x.value)]) (hA:=At.grp 1 0 rfl rfl) (k:=?_))
              refine D5 (ch:=[]) (e:=75) (l:=[(0,.agg #[.string (bk (mkX (elS sp q).1 x q2).1),.string (bk x.q.name),.string (bk x.value)])]) (c:=[.string (bk (mkX (elS sp q).1 x q2).1),.string (bk x.q.name),.string (bk x.value)]) (k:=(fun b12=>?_))
              refine G4 (i:=4) (ch:=[]) (t:=52) (tx:=52) (e:=75) (inf:=Tryz.t75) (s:=.slice oa no oc) (x:=.slice (some ⟨b12,0,none⟩) 1 1) (n:=no) (m:=1) (j:=7) (cs:=(xaV out)) (news:=[.string (bk (mkX (elS sp q).1 x q2).1),.string (bk x.q.name),.string (bk x.value)]) (g:=og) (S:=(inG [(b12,.cells #[.string (bk (mkX (elS sp q).1 x q2).1),.string (bk x.q.name),.string (bk x.value)] 75 (0,0))])) rfl rfl rfl rfl kr kr kr rfl rfl (.inl ⟨75,kr⟩) (fun ⟨_,h⟩=>by cases h) (fun _=>⟨75,kr⟩) kr kr kr rfl hO (SrcOf.slice _ _ _ _ Rd.lit (fun h=>by cases h)) (D4 0 rfl) kr (by intro u hu; simp only [List.mem_cons,List.not_mem_nil,or_false] at hu; rcases hu with rfl | rfl | rfl <;> rfl) (by omega) (by show (no+1) * 48≤140737488355328; omega) (fun v13 g14 hO15=>?_)
              obtain ⟨a16,cap17,rfl,hcap18,hrd19⟩:=hO15.shape
              refine A4 (j:=6) [0] (k:=E2 (ch:=[]) (b:=b4) (off:=2) (v:=.slice a16 (no+1) cap17) (j:=6) ([(b12,.cells #[.string (bk (mkX (elS sp q).1 x q2).1),.string (bk x.q.name),.string (bk x.value)] 75 (0,0))]::[(r,.cells #[.string (bk (E3 70 ((mkX (elS sp q).1 x q2).2)).1),.int .i64 ((E3 70 ((mkX (elS sp q).1 x q2).2)).2)] 97 (0,0))]::[(b9,.cells #[.string (bk (mkX (elS sp q).1 x q2).1),.string (bk x.q.name),.string (bk x.value)] 75 (0,0))]::[(b6,.cells #[.string (bk x.q.pre),.string (bk x.q.name),.string (bk x.value),.bool x.q.has] 137 (0,0))]::[(mo,.map (C9 Mo) co)]::[(ms,.map (C9 M) mc)]::[(b4,.cells #[.string (bk (elV sp q).1),.string (bk (A5 q).1.name),.slice a16 (no+1) cap17,.slice none 0 0,.string eB] 55 (0,0))]::g14::tg::[(b1,.cells zN.toArray 55 (0,0))]::H) (hoff:=Nat.le_of_ble_eq_true rfl) (hfz:=(fun _ _=>E0)) (k:=?_))
              refine B1 [] [0,1,2,6,7,8,9,11,12,50,51,52] (k:=C6 ?_)
              refine A0 (A3 ?_)
              refine A4 (j:=1) [0] (k:=F6 98 (((k:Nat):Int)+1) (by omega) (by omega) kr ?_)
              refine B1 [0] [0,1,2,6,7,8,9,11,12,50,51,52] (k:=C1 (H':=([(r,.cells #[.string (bk (E3 70 ((mkX (elS sp q).1 x q2).2)).1),.int .i64 ((E3 70 ((mkX (elS sp q).1 x q2).2)).2)] 97 (0,0))]::[(mo,.map (C9 Mo) co)]::[(ms,.map (C9 M) mc)]::[(b4,.cells #[.string (bk (elV sp q).1),.string (bk (A5 q).1.name),.slice a16 (no+1) cap17,.slice none 0 0,.string eB] 55 (0,0))]::g14::tg::[(b1,.cells zN.toArray 55 (0,0))]::H)) (fun w h=>(((h.erase 3).erase 2).erase 0)) ?_)
              refine E9 (s':=((k+1),(E3 70 ((mkX (elS sp q).1 x q2).2)),(out++[(XA.mk (mkX (elS sp q).1 x q2).1 x.q.name x.value)]),(no+1),a16,cap17,g14)) [0,1,2,6,7,8,9,11,12,50,51,52] kr kr ⟨(by dsimp only; omega),(by dsimp only; rw [hT,L7 hk,← hx,marks_yes hd hany]),(by dsimp only; rw [xaV_app]; exact hO15),(by dsimp only; rw [List.length_append,hno]; rfl),(by dsimp only; omega),(by dsimp only; first | (rw [mkX_le]; exact hl2) | (rw [V4,mkX_le]; exact hl2))⟩ (by dsimp only; omega)
            ·
              have hany:(out.any fun y=>y.space==(mkX (elS sp q).1 x q2).1&&y.name==x.q.name)=false:=hc11
              refine B4 (A0 ?_)
              refine A3 (A4 (j:=1) [0] (k:=?_))
              refine A6 (ch:=[]) (b:=b4) (off:=2) (v:=.slice oa no oc) (hA:=At.grp 5 0 rfl rfl) (k:=I5 (ch:=[]) (b:=b9) (off:=0) (l:=[.string (bk (mkX (elS sp q).1 x q2).1),.string (bk x.q.name),.string (bk x.value)]) (hA:=At.grp 0 0 rfl rfl) (k:=?_))
              refine D5 (ch:=[]) (e:=75) (l:=[(0,.agg #[.string (bk (mkX (elS sp q).1 x q2).1),.string (bk x.q.name),.string (bk x.value)])]) (c:=[.string (bk (mkX (elS sp q).1 x q2).1),.string (bk x.q.name),.string (bk x.value)]) (k:=(fun b21=>?_))
              refine G4 (i:=4) (ch:=[]) (t:=52) (tx:=52) (e:=75) (inf:=Tryz.t75) (s:=.slice oa no oc) (x:=.slice (some ⟨b21,0,none⟩) 1 1) (n:=no) (m:=1) (j:=7) (cs:=(xaV out)) (news:=[.string (bk (mkX (elS sp q).1 x q2).1),.string (bk x.q.name),.string (bk x.value)]) (g:=og) (S:=(inG [(b21,.cells #[.string (bk (mkX (elS sp q).1 x q2).1),.string (bk x.q.name),.string (bk x.value)] 75 (0,0))])) rfl rfl rfl rfl kr kr kr rfl rfl (.inl ⟨75,kr⟩) (fun ⟨_,h⟩=>by cases h) (fun _=>⟨75,kr⟩) kr kr kr rfl hO (SrcOf.slice _ _ _ _ Rd.lit (fun h=>by cases h)) (D4 0 rfl) kr (by intro u hu; simp only [List.mem_cons,List.not_mem_nil,or_false] at hu; rcases hu with rfl | rfl | rfl <;> rfl) (by omega) (by show (no+1) * 48≤140737488355328; omega) (fun v22 g23 hO24=>?_)
              obtain ⟨a25,cap26,rfl,hcap27,hrd28⟩:=hO24.shape
              refine A4 (j:=6) [0] (k:=E2 (ch:=[]) (b:=b4) (off:=2) (v:=.slice a25 (no+1) cap26) (j:=6) ([(b21,.cells #[.string (bk (mkX (elS sp q).1 x q2).1),.string (bk x.q.name),.string (bk x.value)] 75 (0,0))]::[(b9,.cells #[.string (bk (mkX (elS sp q).1 x q2).1),.string (bk x.q.name),.string (bk x.value)] 75 (0,0))]::[(b6,.cells #[.string (bk x.q.pre),.string (bk x.q.name),.string (bk x.value),.bool x.q.has] 137 (0,0))]::[(r,.cells #[.string (bk ((mkX (elS sp q).1 x q2).2).1),.int .i64 (((mkX (elS sp q).1 x q2).2).2)] 97 (0,0))]::[(mo,.map (C9 Mo) co)]::[(ms,.map (C9 M) mc)]::[(b4,.cells #[.string (bk (elV sp q).1),.string (bk (A5 q).1.name),.slice a25 (no+1) cap26,.slice none 0 0,.string eB] 55 (0,0))]::g23::tg::[(b1,.cells zN.toArray 55 (0,0))]::H) (hoff:=Nat.le_of_ble_eq_true rfl) (hfz:=(fun _ _=>E0)) (k:=?_))
              refine B1 [] [0,1,2,6,7,8,9,11,12,50,51,52] (k:=C6 ?_)
              refine A0 (A3 ?_)
              refine A4 (j:=1) [0] (k:=F6 98 (((k:Nat):Int)+1) (by omega) (by omega) kr ?_)
              refine B1 [0] [0,1,2,6,7,8,9,11,12,50,51,52] (k:=C1 (H':=([(r,.cells #[.string (bk ((mkX (elS sp q).1 x q2).2).1),.int .i64 (((mkX (elS sp q).1 x q2).2).2)] 97 (0,0))]::[(mo,.map (C9 Mo) co)]::[(ms,.map (C9 M) mc)]::[(b4,.cells #[.string (bk (elV sp q).1),.string (bk (A5 q).1.name),.slice a25 (no+1) cap26,.slice none 0 0,.string eB] 55 (0,0))]::g23::tg::[(b1,.cells zN.toArray 55 (0,0))]::H)) (fun w h=>(((h.erase 2).erase 1).erase 0)) ?_)
              refine E9 (s':=((k+1),(mkX (elS sp q).1 x q2).2,(out++[(XA.mk (mkX (elS sp q).1 x q2).1 x.q.name x.value)]),(no+1),a25,cap26,g23)) [0,1,2,6,7,8,9,11,12,50,51,52] kr kr ⟨(by dsimp only; omega),(by dsimp only; rw [hT,L7 hk,← hx,marks_no hd hany]),(by dsimp only; rw [xaV_app]; exact hO24),(by dsimp only; rw [List.length_append,hno]; rfl),(by dsimp only; omega),(by dsimp only; first | (rw [mkX_le]; exact hl2) | (rw [V4,mkX_le]; exact hl2))⟩ (by dsimp only; omega)
      ·
        have hk:(F1 ((A5 q).2.1.length+1) [] (A5 q).2).1.length≤k:=by have:=hc5; simp only [decide_eq_false_iff_not] at this; omega
        have hm:elM sp q=(out,q2):=by rw [hT,List.drop_eq_nil_of_le hk]; rfl
        refine H7 (B0 ?_)
        refine B0 (C7 ?_)
        refine A0 (A1 ?_)
        refine A1 (G_p [0,0] [0,1,2,6,7,8,9,11,12,100] (k:=?_))
        refine A0 (B7 (b:=decide (d ≥ 24)) kr (fun hc30=>?_) (fun hc30=>?_))
        ·
          have hlv0:lv=0:=by have:=hc30; simp only [ge_iff_le,decide_eq_true_eq] at this; omega
          refine A3 (A4 (j:=1) [0] (k:=?_))
          refine E7 Tryz.func64 (M3 r q2 71 _ _) ?_
          rintro _ _ rfl
          refine B1 [] [0,1,2,6,7,8,9,11,12] (k:=A0 ?_)
          refine A1 (A1 ?_)
          refine A3 (A4 (j:=5) [0,0,0,0,0] (k:=?_))
          refine A6 (ch:=[(104,false)]) (b:=r) (off:=1) (v:=.int .i64 ((E3 71 q2).2)) (hA:=At.grp 0 0 rfl rfl) (k:=B1 [0,5] [0,1,2,6,7,8,9,12,110] (k:=?_))
          refine A0 (B7 (b:=((G0 [47,62] ((F1 ((A5 q).2.1.length+1) [] (A5 q).2).2)).1)||(((E3 71 q2).2) != 0)) kr (fun hc31=>?_) (fun hc31=>?_))
          ·
            have hE:elX lv sp q=_:=(congrArg (fun n=>elX n sp q) hlv0).trans (el_2 hf hm)
            refine A1 (A3 ?_)
            refine I5 (ch:=[]) (b:=b4) (off:=0) (l:=[.string (bk (elV sp q).1),.string (bk (A5 q).1.name),.slice oa no oc,.slice none 0 0,.string eB]) (hA:=At.grp 3 0 rfl rfl) (k:=E2 (ch:=[]) (b:=b1) (off:=0) (v:=.agg #[.string (bk (elV sp q).1),.string (bk (A5 q).1.name),.slice oa no oc,.slice none 0 0,.string eB]) (j:=6) ([(r,.cells #[.string (bk (E3 71 q2).1),.int .i64 ((E3 71 q2).2)] 97 (0,0))]::[(mo,.map (C9 Mo) co)]::[(ms,.map (C9 M) mc)]::[(b4,.cells #[.string (bk (elV sp q).1),.string (bk (A5 q).1.name),.slice oa no oc,.slice none 0 0,.string eB] 55 (0,0))]::og::tg::[(b1,.cells #[.string (bk (elV sp q).1),.string (bk (A5 q).1.name),.slice oa no oc,.slice none 0 0,.string eB] 55 (0,0))]::H) (hoff:=Nat.le_of_ble_eq_true rfl) (hfz:=(fun _ _=>E0)) (k:=?_))
            refine B5 (E':=[⟨6,[],pt b1⟩]) [] [6] (k:=A0 ?_)
            refine C5 (B2 ?_)
            refine C1 (H':=([(r,.cells #[.string (bk (E3 71 q2).1),.int .i64 ((E3 71 q2).2)] 97 (0,0))]::[(ms,.map (C9 M) mc)]::[(b1,.cells #[.string (bk (elV sp q).1),.string (bk (A5 q).1.name),.slice oa no oc,.slice none 0 0,.string eB] 55 (0,0))]::(og++([]++[]))::H)) (fun w h=>Sat.flat (((((((h.front (j:=4) rfl).front (j:=6) rfl).front (j:=4) rfl).front (j:=3) rfl).erase 6).erase 5).erase 4) (List.Perm.of_eq (by simp []))) (Q6 [.cell 6 55] [.agg #[.string (bk (elV sp q).1),.string (bk (A5 q).1.name),.slice oa no oc,.slice none 0 0,.string eB]] rfl (.cons (.agg (b:=b1) (off:=0) (l:=[.string (bk (elV sp q).1),.string (bk (A5 q).1.name),.slice oa no oc,.slice none 0 0,.string eB]) kr kr kr (At.grp 2 0 rfl rfl) kr) (.nil)) rfl ⟨([(r,.cells #[.string (bk (E3 71 q2).1),.int .i64 ((E3 71 q2).2)] 97 (0,0))]::[(ms,.map (C9 M) mc)]::(og++([]++[]))::H),?_,fun w h=>(h.erase 2)⟩)
            subst hno; rw [hE]; exact ⟨_,_,.mk (l:=[]) hO Go.Sw.Own.nil .nil,rfl,rfl⟩
          ·
            have h9:=hc31
            simp only [Bool.or_eq_false_iff,bne_eq_false_iff_eq] at h9
            exact absurd h9.2 (flt71 q2)
        ·
          have hlv0:lv≠0:=by have:=hc30; simp only [ge_iff_le,decide_eq_false_iff_not] at this; omega
          obtain ⟨n,hln⟩:∃ n,lv=n+1:=⟨lv - 1,by omega⟩
          refine B4 (A0 ?_)
          refine A1 (A1 ?_)
          refine A3 (A4 (j:=5) [0,0,0,0,0] (k:=?_))
          refine A6 (ch:=[(104,false)]) (b:=r) (off:=1) (v:=.int .i64 q2.2) (hA:=At.grp 0 0 rfl rfl) (k:=B1 [0,5] [0,1,2,6,7,8,9,12,110] (k:=?_))
          refine A0 (B7 (b:=((G0 [47,62] ((F1 ((A5 q).2.1.length+1) [] (A5 q).2).2)).1)||(q2.2 != 0)) kr (fun hc32=>?_) (fun hc32=>?_))
          ·
            have hE:elX lv sp q=_:=(congrArg (fun n=>elX n sp q) hln).trans (el_3 hf hm (by have h9:=hc32; simp only [Bool.or_eq_true,bne_iff_ne,ne_eq] at h9; exact h9))
            refine A1 (A3 ?_)
            refine I5 (ch:=[]) (b:=b4) (off:=0) (l:=[.string (bk (elV sp q).1),.string (bk (A5 q).1.name),.slice oa no oc,.slice none 0 0,.string eB]) (hA:=At.grp 3 0 rfl rfl) (k:=E2 (ch:=[]) (b:=b1) (off:=0) (v:=.agg #[.string (bk (elV sp q).1),.string (bk (A5 q).1.name),.slice oa no oc,.slice none 0 0,.string eB]) (j:=6) ([(r,.cells #[.string (bk q2.1),.int .i64 q2.2] 97 (0,0))]::[(mo,.map (C9 Mo) co)]::[(ms,.map (C9 M) mc)]::[(b4,.cells #[.string (bk (elV sp q).1),.string (bk (A5 q).1.name),.slice oa no oc,.slice none 0 0,.string eB] 55 (0,0))]::og::tg::[(b1,.cells #[.string (bk (elV sp q).1),.string (bk (A5 q).1.name),.slice oa no oc,.slice none 0 0,.string eB] 55 (0,0))]::H) (hoff:=Nat.le_of_ble_eq_true rfl) (hfz:=(fun _ _=>E0)) (k:=?_))
            refine B5 (E':=[⟨6,[],pt b1⟩]) [] [6] (k:=A0 ?_)
            refine C5 (B2 ?_)
            refine C1 (H':=([(r,.cells #[.string (bk q2.1),.int .i64 q2.2] 97 (0,0))]::[(ms,.map (C9 M) mc)]::[(b1,.cells #[.string (bk (elV sp q).1),.string (bk (A5 q).1.name),.slice oa no oc,.slice none 0 0,.string eB] 55 (0,0))]::(og++([]++[]))::H)) (fun w h=>Sat.flat (((((((h.front (j:=4) rfl).front (j:=6) rfl).front (j:=4) rfl).front (j:=3) rfl).erase 6).erase 5).erase 4) (List.Perm.of_eq (by simp []))) (Q6 [.cell 6 55] [.agg #[.string (bk (elV sp q).1),.string (bk (A5 q).1.name),.slice oa no oc,.slice none 0 0,.string eB]] rfl (.cons (.agg (b:=b1) (off:=0) (l:=[.string (bk (elV sp q).1),.string (bk (A5 q).1.name),.slice oa no oc,.slice none 0 0,.string eB]) kr kr kr (At.grp 2 0 rfl rfl) kr) (.nil)) rfl ⟨([(r,.cells #[.string (bk q2.1),.int .i64 q2.2] 97 (0,0))]::[(ms,.map (C9 M) mc)]::(og++([]++[]))::H),?_,fun w h=>(h.erase 2)⟩)
            subst hno; rw [hE]; exact ⟨_,_,.mk (l:=[]) hO Go.Sw.Own.nil .nil,rfl,rfl⟩
          ·
            have hE0:elX lv sp q=_:=(congrArg (fun n=>elX n sp q) hln).trans (el_4 hf hm (by have h9:=hc32; simp only [Bool.or_eq_false_iff,bne_eq_false_iff_eq] at h9; rintro (h | h); rw [show (G0 [47,62] (F1 ((A5 q).2.1.length+1) [] (A5 q).2).2).1=(elT q).2.1 from rfl,h] at h9; exact Bool.noConfusion h9.1; exact h h9.2))
            refine B4 (A0 ?_)
            refine A1 (A3 ?_)
            refine A4 (j:=3) [0,0,0] (k:=H4 rfl (H':=([(r,.cells #[.string (bk q2.1),.int .i64 q2.2] 97 (0,0))]::[(mo,.map (C9 Mo) co)]::[(b4,.cells #[.string (bk (elV sp q).1),.string (bk (A5 q).1.name),.slice oa no oc,.slice none 0 0,.string eB] 55 (0,0))]::[(ms,.map (C9 M) mc)]::og::tg::[(b1,.cells zN.toArray 55 (0,0))]::H)) (fun w h=>(((h.front (j:=3) rfl).front (j:=2) rfl).front (j:=2) rfl)) ?_)
            refine E7 Tryz.func109 (hcont n hln q2 (by omega) b4 (.string (bk (elV sp q).1)) (.string (bk (A5 q).1.name)) (.slice oa no oc) (.string eB) mo co Mo (elS sp q).1 hMo _ _ hX) ?_
            rintro _ _ ⟨kn,ka,kc,kg,kcs,gs,hkn,hKO,hKP,rfl⟩
            have hcl:=cont_le (el_le n (elS sp q).1) (q2.1.length+1) [] q2
            refine B1 [] [0,6,7,8,9,12] (k:=A0 ?_)
            refine A1 (A3 ?_)
            refine A4 (j:=1) [0] (k:=E7 Tryz.func103 (xqual_ r ((F3 (elX n (elS sp q).1) (q2.1.length+1) [] q2).2) (by first | omega | (have h9:=cont_le (el_le n (elS sp q).1) (q2.1.length+1) [] q2; omega)) _ _) ?_)
            rintro _ _ ⟨rfl,rfl⟩
            refine B1 [0,0,0,0,0,0,0] [0,6,7,8,9,12,16,17,18] (k:=A0 ?_)
            refine A1 (A3 ?_)
            refine A4 (j:=1) [0] (k:=E7 Tryz.func100 (xskip_ r ((A5 ((F3 (elX n (elS sp q).1) (q2.1.length+1) [] q2).2)).2) _ _) ?_)
            rintro _ _ ⟨rfl,rfl⟩
            refine B5 (E':=[⟨0,[],pt r⟩,⟨6,[],pt b1⟩,⟨7,[],.string (bk (A5 q).1.pre)⟩,⟨8,[],.string (bk (A5 q).1.name)⟩,⟨9,[],.bool ((A5 q).1.has)⟩,⟨12,[],pt b4⟩,⟨16,[],.string (bk (A5 ((F3 (elX n (elS sp q).1) (q2.1.length+1) [] q2).2)).1.pre)⟩,⟨17,[],.string (bk (A5 ((F3 (elX n (elS sp q).1) (q2.1.length+1) [] q2).2)).1.name)⟩,⟨18,[],.bool ((A5 ((F3 (elX n (elS sp q).1) (q2.1.length+1) [] q2).2)).1.has)⟩]) [] [0,6,7,8,9,12,16,17,18] (k:=A0 ?_)
            refine A1 (A3 ?_)
            refine A4 (j:=1) [0] (k:=E7 Tryz.func62 (xmust_ r (blk ((A5 ((F3 (elX n (elS sp q).1) (q2.1.length+1) [] q2).2)).2).1,((A5 ((F3 (elX n (elS sp q).1) (q2.1.length+1) [] q2).2)).2).2) [62] _ _) ?_)
            rintro _ _ rfl
            refine B1 [] [0,6,7,8,9,12,16,17,18] (k:=A0 ?_)
            refine A1 (A1 ?_)
            refine G_p [0,0,0,0,0,0,0,5,0,0,0,0,5] [0,6,12,138] (k:=A0 ?_)
            refine B7 (b:=((!((bk (A5 ((F3 (elX n (elS sp q).1) (q2.1.length+1) [] q2).2)).1.pre).toList==(bk (A5 q).1.pre).toList))||(!((bk (A5 ((F3 (elX n (elS sp q).1) (q2.1.length+1) [] q2).2)).1.name).toList==(bk (A5 q).1.name).toList)))||(!(((A5 ((F3 (elX n (elS sp q).1) (q2.1.length+1) [] q2).2)).1.has)==((A5 q).1.has)))) kr (fun hc34=>?_) (fun hc34=>?_)
            ·
              have hne:(A5 (F3 (elX n (elS sp q).1) (q2.1.length+1) [] q2).2).1≠(A5 q).1:=fun h=>by have h9:=hc34; rw [h] at h9; simp at h9
              have hE:elX lv sp q=_:=hE0.trans (close_yes hne)
              refine A3 (A4 (j:=1) [0] (k:=?_))
              refine E7 Tryz.func64 (M3 r (C2 [62] (blk ((A5 ((F3 (elX n (elS sp q).1) (q2.1.length+1) [] q2).2)).2).1,((A5 ((F3 (elX n (elS sp q).1) (q2.1.length+1) [] q2).2)).2).2)) 70 _ _) ?_
              rintro _ _ rfl
              refine B5 (E':=[⟨6,[],pt b1⟩,⟨12,[],pt b4⟩]) [] [6,12] (k:=A0 ?_)
              refine A1 (A3 ?_)
              refine I5 (ch:=[]) (b:=b4) (off:=0) (l:=[.string (bk (elV sp q).1),.string (bk (A5 q).1.name),.slice oa no oc,.slice ka kn kc,.string eB]) (hA:=At.grp 2 0 rfl rfl) (k:=E2 (ch:=[]) (b:=b1) (off:=0) (v:=.agg #[.string (bk (elV sp q).1),.string (bk (A5 q).1.name),.slice oa no oc,.slice ka kn kc,.string eB]) (j:=8) ([(r,.cells #[.string (bk (E3 70 (C2 [62] (blk ((A5 ((F3 (elX n (elS sp q).1) (q2.1.length+1) [] q2).2)).2).1,((A5 ((F3 (elX n (elS sp q).1) (q2.1.length+1) [] q2).2)).2).2))).1),.int .i64 ((E3 70 (C2 [62] (blk ((A5 ((F3 (elX n (elS sp q).1) (q2.1.length+1) [] q2).2)).2).1,((A5 ((F3 (elX n (elS sp q).1) (q2.1.length+1) [] q2).2)).2).2))).2)] 97 (0,0))]::[(mo,.map (C9 Mo) co)]::[(b4,.cells #[.string (bk (elV sp q).1),.string (bk (A5 q).1.name),.slice oa no oc,.slice ka kn kc,.string eB] 55 (0,0))]::kg::gs::[(ms,.map (C9 M) mc)]::og::tg::[(b1,.cells #[.string (bk (elV sp q).1),.string (bk (A5 q).1.name),.slice oa no oc,.slice ka kn kc,.string eB] 55 (0,0))]::H) (hoff:=Nat.le_of_ble_eq_true rfl) (hfz:=(fun _ _=>E0)) (k:=?_))
              refine B5 (E':=[⟨6,[],pt b1⟩]) [] [6] (k:=A0 ?_)
              refine C5 (C1 (H':=([(r,.cells #[.string (bk (E3 70 (C2 [62] (blk ((A5 ((F3 (elX n (elS sp q).1) (q2.1.length+1) [] q2).2)).2).1,((A5 ((F3 (elX n (elS sp q).1) (q2.1.length+1) [] q2).2)).2).2))).1),.int .i64 ((E3 70 (C2 [62] (blk ((A5 ((F3 (elX n (elS sp q).1) (q2.1.length+1) [] q2).2)).2).1,((A5 ((F3 (elX n (elS sp q).1) (q2.1.length+1) [] q2).2)).2).2))).2)] 97 (0,0))]::[(ms,.map (C9 M) mc)]::[(b1,.cells #[.string (bk (elV sp q).1),.string (bk (A5 q).1.name),.slice oa no oc,.slice ka kn kc,.string eB] 55 (0,0))]::(og++(kg++gs))::H)) (fun w h=>Sat.flat (((((((((h.front (j:=4) rfl).front (j:=4) rfl).front (j:=6) rfl).front (j:=8) rfl).front (j:=7) rfl).front (j:=5) rfl).erase 8).erase 7).erase 6) (List.Perm.of_eq (by simp []))) ?_)
              refine Q6 [.cell 6 55] [.agg #[.string (bk (elV sp q).1),.string (bk (A5 q).1.name),.slice oa no oc,.slice ka kn kc,.string eB]] rfl (.cons (.agg (b:=b1) (off:=0) (l:=[.string (bk (elV sp q).1),.string (bk (A5 q).1.name),.slice oa no oc,.slice ka kn kc,.string eB]) kr kr kr (At.grp 2 0 rfl rfl) kr) (.nil)) rfl ⟨([(r,.cells #[.string (bk (E3 70 (C2 [62] (blk ((A5 ((F3 (elX n (elS sp q).1) (q2.1.length+1) [] q2).2)).2).1,((A5 ((F3 (elX n (elS sp q).1) (q2.1.length+1) [] q2).2)).2).2))).1),.int .i64 ((E3 70 (C2 [62] (blk ((A5 ((F3 (elX n (elS sp q).1) (q2.1.length+1) [] q2).2)).2).1,((A5 ((F3 (elX n (elS sp q).1) (q2.1.length+1) [] q2).2)).2).2))).2)] 97 (0,0))]::[(ms,.map (C9 M) mc)]::(og++(kg++gs))::H),?_,fun w h=>(h.erase 2)⟩
              subst hno; subst hkn; rw [hE]; exact ⟨_,_,.mk hO hKO hKP,rfl,rfl⟩
            ·
              have heq:(A5 (F3 (elX n (elS sp q).1) (q2.1.length+1) [] q2).2).1=(A5 q).1:=by have h9:=hc34; simp only [Bool.or_eq_false_iff,Bool.not_eq_false'] at h9; exact qn_eq.2 ⟨(eqB _ _).1 h9.1.1,(eqB _ _).1 h9.1.2,by simpa using h9.2⟩
              have hE:elX lv sp q=_:=hE0.trans (close_no heq)
              refine B4 (A0 ?_)
              refine A1 (A3 ?_)
              refine I5 (ch:=[]) (b:=b4) (off:=0) (l:=[.string (bk (elV sp q).1),.string (bk (A5 q).1.name),.slice oa no oc,.slice ka kn kc,.string eB]) (hA:=At.grp 2 0 rfl rfl) (k:=E2 (ch:=[]) (b:=b1) (off:=0) (v:=.agg #[.string (bk (elV sp q).1),.string (bk (A5 q).1.name),.slice oa no oc,.slice ka kn kc,.string eB]) (j:=8) ([(r,.cells #[.string (bk (C2 [62] (blk ((A5 ((F3 (elX n (elS sp q).1) (q2.1.length+1) [] q2).2)).2).1,((A5 ((F3 (elX n (elS sp q).1) (q2.1.length+1) [] q2).2)).2).2)).1),.int .i64 ((C2 [62] (blk ((A5 ((F3 (elX n (elS sp q).1) (q2.1.length+1) [] q2).2)).2).1,((A5 ((F3 (elX n (elS sp q).1) (q2.1.length+1) [] q2).2)).2).2)).2)] 97 (0,0))]::[(mo,.map (C9 Mo) co)]::[(b4,.cells #[.string (bk (elV sp q).1),.string (bk (A5 q).1.name),.slice oa no oc,.slice ka kn kc,.string eB] 55 (0,0))]::kg::gs::[(ms,.map (C9 M) mc)]::og::tg::[(b1,.cells #[.string (bk (elV sp q).1),.string (bk (A5 q).1.name),.slice oa no oc,.slice ka kn kc,.string eB] 55 (0,0))]::H) (hoff:=Nat.le_of_ble_eq_true rfl) (hfz:=(fun _ _=>E0)) (k:=?_))
              refine B5 (E':=[⟨6,[],pt b1⟩]) [] [6] (k:=A0 ?_)
              refine C5 (C1 (H':=([(r,.cells #[.string (bk (C2 [62] (blk ((A5 ((F3 (elX n (elS sp q).1) (q2.1.length+1) [] q2).2)).2).1,((A5 ((F3 (elX n (elS sp q).1) (q2.1.length+1) [] q2).2)).2).2)).1),.int .i64 ((C2 [62] (blk ((A5 ((F3 (elX n (elS sp q).1) (q2.1.length+1) [] q2).2)).2).1,((A5 ((F3 (elX n (elS sp q).1) (q2.1.length+1) [] q2).2)).2).2)).2)] 97 (0,0))]::[(ms,.map (C9 M) mc)]::[(b1,.cells #[.string (bk (elV sp q).1),.string (bk (A5 q).1.name),.slice oa no oc,.slice ka kn kc,.string eB] 55 (0,0))]::(og++(kg++gs))::H)) (fun w h=>Sat.flat (((((((((h.front (j:=4) rfl).front (j:=4) rfl).front (j:=6) rfl).front (j:=8) rfl).front (j:=7) rfl).front (j:=5) rfl).erase 8).erase 7).erase 6) (List.Perm.of_eq (by simp []))) ?_)
              refine Q6 [.cell 6 55] [.agg #[.string (bk (elV sp q).1),.string (bk (A5 q).1.name),.slice oa no oc,.slice ka kn kc,.string eB]] rfl (.cons (.agg (b:=b1) (off:=0) (l:=[.string (bk (elV sp q).1),.string (bk (A5 q).1.name),.slice oa no oc,.slice ka kn kc,.string eB]) kr kr kr (At.grp 2 0 rfl rfl) kr) (.nil)) rfl ⟨([(r,.cells #[.string (bk (C2 [62] (blk ((A5 ((F3 (elX n (elS sp q).1) (q2.1.length+1) [] q2).2)).2).1,((A5 ((F3 (elX n (elS sp q).1) (q2.1.length+1) [] q2).2)).2).2)).1),.int .i64 ((C2 [62] (blk ((A5 ((F3 (elX n (elS sp q).1) (q2.1.length+1) [] q2).2)).2).1,((A5 ((F3 (elX n (elS sp q).1) (q2.1.length+1) [] q2).2)).2).2)).2)] 97 (0,0))]::[(ms,.map (C9 M) mc)]::(og++(kg++gs))::H),?_,fun w h=>(h.erase 2)⟩
              subst hno; subst hkn; rw [hE]; exact ⟨_,_,.mk hO hKO hKP,rfl,rfl⟩
theorem xelement_:∀ (lv:Nat),lv≤24→∀ (d:Int),d=24 - ((lv:Nat):Int)→∀ (r:Nat) (q:XS),q.1.length≤1000000→∀ (ms mc:Nat) (M:SM) (sp:SPX),SpR M sp→∀ (W0:World) (H:List Grp),R2 W0→Tri Tryz.prog 63 #[pt r,.int .i64 d,.map (some ms)] W0 (rdX r q::[(ms,.map (C9 M) mc)]::H) (fun v H2=>∃ c g,XRep 75 55 (elX lv sp q).1 c g∧v=.agg c.toArray∧H2=rdX r (elX lv sp q).2::[(ms,.map (C9 M) mc)]::g::H)
  | 0,h,d,hd,r,q,hl,ms,mc,M,sp,hM,W0,H,hX=>xelementW_ 0 d hd h r q hl ms mc M sp hM (fun n hn=>absurd hn (by omega)) W0 H hX
  | m+1,h,d,hd,r,q,hl,ms,mc,M,sp,hM,W0,H,hX=>xelementW_ (m+1) d hd h r q hl ms mc M sp hM
      (fun n hn q hl nb v0 v1 v2 v4 ms mc M sp hM W0 H hX=>by
        obtain rfl:m=n:=by omega
        exact xcontent_ m d (by omega) r q hl nb v0 v1 v2 v4 ms mc M sp (fun q hl W0 H hX=>xelement_ m (by omega) (d+1) (by omega) r q hl ms mc M sp hM W0 H hX) W0 H hX) W0 H hX
end Go.Proofs.YtppgfiklmfoaeaaGreatDoor
namespace Go.Xml
open Go.Esc Go.Json Go.Sw
theorem around_le (n:Nat) (q:XS):(B3 n q).1.length≤q.1.length:=by
  induction n generalizing q with
  | zero=>exact Nat.le_refl _
  | succ n ih =>
    by_cases h0:q.2=0
    · by_cases h:(blk q.1).length<q.1.length
      · rw [around_skip h0 h]; have:=ih (blk q.1,q.2); dsimp only at this; omega
      · have h9:=Q5 q.1
        by_cases ha:(H9 (blk q.1,q.2)).1=true
        · rw [around_aside h0 h ha]; have h1:=ih (H9 (blk q.1,q.2)).2; have h2:=X5 (blk q.1,q.2); dsimp only at h2; omega
        · rw [around_end h0 h ha]; have h2:=X5 (blk q.1,q.2); dsimp only at h2; omega
    · rw [around_ne h0]; exact Nat.le_refl _
theorem bom_len (l:List UInt8):(D2 l).length≤l.length:=by
  unfold D2; split
  · rw [List.length_drop]; omega
  · exact Nat.le_refl _
def parN (n:XN × XS):XN × Int :=
  let q2:=B3 (n.2.1.length+1) n.2
  let q3:=if q2.1≠[] then E3 70 q2 else q2
  if q3.2≠0 then (T2,q3.2) else (n.1,0)
def F8 (l:List UInt8):XS:=C2 [60] (B3 ((D2 l).length+1) (D2 l,0))
theorem parQ_le (l:List UInt8):(F8 l).1.length≤l.length:=by
  unfold F8
  have h1:=must_le [60] (B3 ((D2 l).length+1) (D2 l,0))
  have h2:=around_le ((D2 l).length+1) (D2 l,0)
  have h3:=bom_len l
  dsimp only at h2; omega
theorem par_1 {l:List UInt8} (h:65536<l.length):D8 l=(T2,72):=by unfold D8; rw [if_pos h]
theorem par_2 {l:List UInt8} (h:¬ 65536<l.length) (hv:N1 (D2 l)=false∨I6 (D2 l)≠D2 l):D8 l=(T2,70):=by unfold D8; rw [if_neg h]; dsimp only; rw [if_pos hv]
theorem par_3 {l:List UInt8} (h:¬ 65536<l.length) (hv:¬ (N1 (D2 l)=false∨I6 (D2 l)≠D2 l)) (h0:(F8 l).2=0):D8 l=parN (elX 24 G8 (F8 l)):=by
  unfold D8; rw [if_neg h]; dsimp only; rw [if_neg hv]
  show parN (if (F8 l).2=0 then elX 24 G8 (F8 l) else (T2,F8 l))=_
  rw [if_pos h0]
theorem par_4 {l:List UInt8} (h:¬ 65536<l.length) (hv:¬ (N1 (D2 l)=false∨I6 (D2 l)≠D2 l)) (h0:(F8 l).2≠0):D8 l=parN (T2,F8 l):=by
  unfold D8; rw [if_neg h]; dsimp only; rw [if_neg hv]
  show parN (if (F8 l).2=0 then elX 24 G8 (F8 l) else (T2,F8 l))=_
  rw [if_neg h0]
theorem parN_1 {n:XN × XS} (h:(B3 (n.2.1.length+1) n.2).1≠[]) (he:(E3 70 (B3 (n.2.1.length+1) n.2)).2≠0):parN n=(T2,(E3 70 (B3 (n.2.1.length+1) n.2)).2):=by
  unfold parN; dsimp only; rw [if_pos h,if_pos he]
theorem parN_2 {n:XN × XS} (h:(B3 (n.2.1.length+1) n.2).1≠[]) (he:(E3 70 (B3 (n.2.1.length+1) n.2)).2=0):parN n=(n.1,0):=by
  unfold parN; dsimp only; rw [if_pos h,if_neg (fun hn=>hn he)]
theorem parN_3 {n:XN × XS} (h:(B3 (n.2.1.length+1) n.2).1=[]) (he:(B3 (n.2.1.length+1) n.2).2≠0):parN n=(T2,(B3 (n.2.1.length+1) n.2).2):=by
  have e:(if (B3 (n.2.1.length+1) n.2).1≠[] then E3 70 (B3 (n.2.1.length+1) n.2) else B3 (n.2.1.length+1) n.2)=B3 (n.2.1.length+1) n.2:=if_neg (fun hn=>hn h)
  unfold parN; dsimp only; rw [e,if_pos he]
theorem parN_4 {n:XN × XS} (h:(B3 (n.2.1.length+1) n.2).1=[]) (he:(B3 (n.2.1.length+1) n.2).2=0):parN n=(n.1,0):=by
  have e:(if (B3 (n.2.1.length+1) n.2).1≠[] then E3 70 (B3 (n.2.1.length+1) n.2) else B3 (n.2.1.length+1) n.2)=B3 (n.2.1.length+1) n.2:=if_neg (fun hn=>hn h)
  unfold parN; dsimp only; rw [e,if_neg (fun hn=>hn he)]
def ownX:List UInt8:=[104,116,116,112,58,47,47,119,119,119,46,119,51,46,111,114,103,47,88,77,76,47,49,57,57,56,47,110,97,109,101,115,112,97,99,101]
theorem sp0_ok (c:Nat):SpR (I2 [(bk [120,109,108],.string (bk ownX),0)] c (bk []) (.string (bk []))) G8:=by
  intro p
  rw [mgetX_put]
  unfold lookX G8
  by_cases h1:p=[]
  · subst h1; rw [if_pos (bk_inj.2 rfl)]; rfl
  · rw [if_neg (fun hh=>h1 (bk_inj.1 hh))]
    by_cases h2:p=[120,109,108]
    · subst h2; rfl
    · show (if (bk p==bk [120,109,108]) then some (0,Value.string (bk ownX)) else none).map (·.2)=_
      rw [if_neg (fun hh=>h2 (bk_inj.1 hh))]
      rw [List.find?_cons,show (([120,109,108],ownX):List UInt8 × List UInt8).1=[120,109,108] from rfl]
      rw [show (([120,109,108]:List UInt8)==p)=false from beq_eq_false_iff_ne.2 (fun e=>h2 e.symm)]
      dsimp only
      rw [List.find?_cons,show (([]:List UInt8)==p)=false from beq_eq_false_iff_ne.2 (fun e=>h1 e.symm)]
      rfl
end Go.Xml
namespace Go.Proofs.YtppgfiklmfoaeaaGreatDoor
open Go.Sw Go.Sha Go.Esc Go.RowKit
theorem valid_ (s:ByteArray) (hs:s.size≤1000000000000) (W0:World) (H:List Grp) (hW:R5 W0):Tri Tryz.prog 59 #[.string s] W0 H (fun v H'=>v=.bool (N1 s.data.toList)∧H'=H):=by
 refine D0 (args:=[.string s]) (n:=5) Tryz.func59 rfl rfl (Nat.le_of_ble_eq_true rfl) ?_
 refine A1 (C3 (E':=[⟨0,[],.string s⟩]) [0] [0] (k:=?_))
 refine A0 (A1 ?_)
 refine A3 (A4 (j:=1) [0] (k:=?_))
 refine E7 Tryz.func97 (validStr s (by omega) _ _ hW) ?_
 rintro _ _ ⟨rfl,rfl⟩
 refine B5 (E':=[⟨2,[],.bool (N1 s.data.toList)⟩]) [0] [2] (k:=A0 ?_)
 refine C5 (B9 [.tmp 2] [.bool (N1 s.data.toList)] (k:=?_))
 exact ⟨rfl,rfl⟩
end Go.Proofs.YtppgfiklmfoaeaaGreatDoor
namespace Go.Proofs.YtppgfiklmfoaeaaGreatDoor
open Go.Sw Go.Sha Go.Esc Go.RowKit Go.Json Go.Xml
theorem xtrimP0_ (l:List UInt8) (W0:World) (H:List Grp):Tri Tryz.prog 96 #[.string (bk l),.string (mB #[239,187,191])] W0 H (fun v H'=>v=.string (bk (D2 l))∧H'=H):=by
 have hbz:=D9 l
 refine D0 (args:=[.string (bk l),.string (mB #[239,187,191])]) (n:=13) Tryz.func96 rfl rfl (Nat.le_of_ble_eq_true rfl) ?_
 refine A1 (G_p [0] [0,1] (k:=?_))
 refine A0 (A1 ?_)
 refine A1 (A3 ?_)
 refine A4 (j:=2) [0,0] (k:=M5 Tryz.func123 (jhas0_ (bk l) (mB #[239,187,191]) _ _) ?_)
 refine B1 [] [0,1,7] (k:=A0 ?_)
 refine B7 (b:=I0 (bk l) (mB #[239,187,191])) kr (fun hc1=>?_) (fun hc1=>?_)
 ·
  have hp:[239,187,191].isPrefixOf l=true:=pre_iff.1 ((N4 (bk l) (mB #[239,187,191])).1 hc1)
  refine A1 (A3 ?_)
  refine A4 (j:=3) [0,0,0] (k:=H8 (ch:=[]) (s:=(bk l)) (vl:=(some (.int .i64 3))) (vh:=none) (l:=3) (h:=((bk l).size:Int)) (hb:=(by intro _; have h9:=pre_le hp; simp only [List.length_cons,List.length_nil] at h9; exact ⟨by omega,by omega,by omega⟩)) (k:=?_))
  refine F0 (E':=[⟨11,[],.string (bk (l.drop 3))⟩,⟨10,[],.int .i64 3⟩,⟨9,[],.string (mB #[239,187,191])⟩,⟨8,[],.string (bk l)⟩,⟨0,[],.string (bk l)⟩,⟨1,[],.string (mB #[239,187,191])⟩,⟨7,[],.bool (I0 (bk l) (mB #[239,187,191]))⟩]) (by have hz:([⟨11,[],.string ((bk l).extract 3 (bk l).size)⟩,⟨10,[],.int .i64 3⟩,⟨9,[],.string (mB #[239,187,191])⟩,⟨8,[],.string (bk l)⟩,⟨0,[],.string (bk l)⟩,⟨1,[],.string (mB #[239,187,191])⟩,⟨7,[],.bool (I0 (bk l) (mB #[239,187,191]))⟩]:List Sl)=[⟨11,[],.string (bk (l.drop 3))⟩,⟨10,[],.int .i64 3⟩,⟨9,[],.string (mB #[239,187,191])⟩,⟨8,[],.string (bk l)⟩,⟨0,[],.string (bk l)⟩,⟨1,[],.string (mB #[239,187,191])⟩,⟨7,[],.bool (I0 (bk l) (mB #[239,187,191]))⟩]:=(by rw [ext_bk]); exact Eq.trans kr hz) (B5 (E':=[⟨4,[],.string (bk (l.drop 3))⟩]) [0] [4] (k:=?_))
  refine A0 (C5 ?_)
  refine B2 (B9 [.tmp 4] [.string (bk (l.drop 3))] (k:=?_))
  exact ⟨by rw [show D2 l=l.drop 3 from if_pos hp]; try rfl,rfl⟩
 ·
  have hp:¬ [239,187,191].isPrefixOf l=true:=fun hn=>(N3 (bk l) (mB #[239,187,191])).1 hc1 (pre_iff.2 hn)
  refine B4 (A0 ?_)
  refine A1 (C3 (E':=[⟨4,[],.string (bk l)⟩]) [0,0] [4] (k:=?_))
  refine A0 (C5 ?_)
  refine B9 [.tmp 4] [.string (bk l)] (k:=?_)
  exact ⟨by rw [show D2 l=l from if_neg hp]; try rfl,rfl⟩
theorem xtrimP_ (l:List UInt8) (W0:World) (H:List Grp):Tri Tryz.prog 58 #[.string (bk l),.string (mB #[239,187,191])] W0 H (fun v H'=>v=.string (bk (D2 l))∧H'=H):=by
 have hbz:=D9 l
 refine D0 (args:=[.string (bk l),.string (mB #[239,187,191])]) (n:=8) Tryz.func58 rfl rfl (Nat.le_of_ble_eq_true rfl) ?_
 refine A1 (G_p [0] [0,1] (k:=?_))
 refine A0 (A1 ?_)
 refine A3 (A4 (j:=2) [0,0] (k:=?_))
 refine M5 Tryz.func96 (xtrimP0_ l _ _) (B5 (E':=[⟨4,[],.string (bk (D2 l))⟩]) [0] [4] (k:=?_))
 refine A0 (C5 ?_)
 refine B9 [.tmp 4] [.string (bk (D2 l))] (k:=?_)
 exact ⟨rfl,rfl⟩
theorem xparse_ (a:Option Addr) (c:Nat) (l:List UInt8) (S:Nat→Obj→Prop) (hrd:Rd S a (u8s l)) (W0:World) (H:List Grp) (hS:∀ y o,S y o→At W0 H y o) (hX:R2 W0):Tri Tryz.prog 29 #[.slice a l.length c] W0 H (fun v H2=>∃ c g,XRep 75 55 (D8 l).1 c g∧v=.tuple #[.agg c.toArray,.int .i64 (D8 l).2]∧H2=g::H):=by
 have hW:R5 W0:=hX.base
 have hbl:=bom_len l
 have hql:=parQ_le l
 refine D0 (args:=[.slice a l.length c]) (n:=67) Tryz.func29 rfl rfl (Nat.le_of_ble_eq_true rfl) ?_
 refine A1 (A3 ?_)
 refine H5 (ch:=[]) (z:=.agg zN.toArray) (k:=(fun b1=>?_))
 refine B1 [0] [0,2] (k:=A0 ?_)
 refine A1 (A1 ?_)
 refine G_p [0,0,0] [0,2,8] (k:=A0 ?_)
 refine B7 (b:=decide (((l.length:Nat):Int) > 65536)) kr (fun hc2=>?_) (fun hc2=>?_)
 ·
  simp only [gt_iff_lt,decide_eq_true_eq] at hc2
  have hlen:65536<l.length:=by omega
  have hP:=par_1 hlen
  refine A1 (A3 ?_)
  refine A4 (j:=1) [0] (k:=E2 (ch:=[]) (b:=b1) (off:=0) (v:=.agg zN.toArray) (j:=0) ([(b1,.cells zN.toArray 55 (0,0))]::H) (hoff:=Nat.le_of_ble_eq_true rfl) (hfz:=(fun _ _=>E0)) (k:=?_))
  refine B5 (E':=[⟨2,[],pt b1⟩,⟨3,[],.int .i64 72⟩]) [0] [2,3] (k:=A0 ?_)
  refine C5 (B2 ?_)
  refine C1 (H':=([(b1,.cells zN.toArray 55 (0,0))]::[]::H)) (fun w h=>Sat.flat h (List.Perm.refl _)) (Q6 [.cell 2 55,.tmp 3] [.agg zN.toArray,.int .i64 72] rfl (.cons (.agg (b:=b1) (off:=0) (l:=zN) kr kr kr (At.grp 0 0 rfl rfl) kr) (.cons (.tmp kr) (.nil))) rfl ⟨([]::H),?_,fun w h=>(h.erase 0)⟩)
  rw [hP]; exact ⟨_,_,XRep.nul,rfl,rfl⟩
 ·
  simp only [gt_iff_lt,decide_eq_false_iff_not] at hc2
  have hlen:¬ 65536<l.length:=by omega
  refine B4 (A0 ?_)
  refine A1 (A3 ?_)
  refine A4 (j:=1) [0] (k:=T0 (ch:=[]) (a:=a) (cap:=c) (e:=5) (S:=S) (bk l) (hrd:=hrd) (hS:=(fun y o h=>At.cons (hS y o h))) (k:=?_))
  refine M5 Tryz.func58 (xtrimP_ l _ _) (A4 (j:=4) [0] (k:=?_))
  refine T1 (ch:=[]) (v:=.agg #[.string (bk (D2 l)),.int .i64 0]) (k:=(fun b3=>?_))
  refine B5 (E':=[⟨2,[],pt b1⟩,⟨4,[],pt b3⟩]) [0] [2,4] (k:=A0 ?_)
  refine A1 (A1 ?_)
  refine I8 (k:=A4 (j:=3) [0,0,0] (k:=?_))
  refine A6 (ch:=[]) (b:=b3) (off:=0) (v:=.string (bk (D2 l))) (hA:=At.grp 0 0 rfl rfl) (k:=M5 Tryz.func59 (valid_ (bk (D2 l)) (by rw [D9]; omega) _ _ hW) ?_)
  refine A4 (j:=10) [0,0,0,0,0] (k:=A6 (ch:=[(21,false)]) (b:=b3) (off:=0) (v:=.string (bk (D2 l))) (hA:=At.grp 0 0 rfl rfl) (k:=?_))
  refine J7 (ch:=[(21,false)]) (f:=60) (fst:=#[]) (caps:=#[]) (vs:=[.string (bk (D2 l))]) (v:=.string (bk (I6 (D2 l)))) (hf:=Tryz.func60) (hc:=(fun hc=>plain_ (bk (D2 l)) (by rw [D9]; omega) _ _)) (k:=A4 (j:=15) [0,0,0] (k:=?_))
  refine A6 (ch:=[(21,false)]) (b:=b3) (off:=0) (v:=.string (bk (D2 l))) (hA:=At.grp 0 0 rfl rfl) (k:=B1 [0,5] [2,4,32] (k:=?_))
  refine A0 (B7 (b:=(!(N1 (D2 l)))||(!((bk (I6 (D2 l))).toList==(bk (D2 l)).toList))) kr (fun hc4=>?_) (fun hc4=>?_))
  ·
   have hv:N1 (D2 l)=false∨I6 (D2 l)≠D2 l:=by have h9:=hc4; simp only [Bool.or_eq_true,Bool.not_eq_true'] at h9; exact h9.imp id (fun h=>(eqBf _ _).1 h)
   have hP:=par_2 hlen hv
   refine A1 (A3 ?_)
   refine A4 (j:=1) [0] (k:=E2 (ch:=[]) (b:=b1) (off:=0) (v:=.agg zN.toArray) (j:=1) ([(b3,.cells #[.string (bk (D2 l)),.int .i64 0] 97 (0,0))]::[(b1,.cells zN.toArray 55 (0,0))]::H) (hoff:=Nat.le_of_ble_eq_true rfl) (hfz:=(fun _ _=>E0)) (k:=?_))
   refine B5 (E':=[⟨2,[],pt b1⟩,⟨3,[],.int .i64 70⟩]) [0] [2,3] (k:=A0 ?_)
   refine C5 (B2 ?_)
   refine C1 (H':=([(b1,.cells zN.toArray 55 (0,0))]::[]::H)) (fun w h=>Sat.flat (h.erase 0) (List.Perm.refl _)) (Q6 [.cell 2 55,.tmp 3] [.agg zN.toArray,.int .i64 70] rfl (.cons (.agg (b:=b1) (off:=0) (l:=zN) kr kr kr (At.grp 0 0 rfl rfl) kr) (.cons (.tmp kr) (.nil))) rfl ⟨([]::H),?_,fun w h=>(h.erase 0)⟩)
   rw [hP]; exact ⟨_,_,XRep.nul,rfl,rfl⟩
  ·
   have hv:¬ (N1 (D2 l)=false∨I6 (D2 l)≠D2 l):=by have h9:=hc4; simp only [Bool.or_eq_false_iff,Bool.not_eq_false'] at h9; rintro (h | h); rw [h9.1] at h; cases h; exact h ((eqB _ _).1 h9.2)
   refine B4 (A0 ?_)
   refine A1 (A3 ?_)
   refine A4 (j:=1) [0] (k:=E7 (vs:=[pt b3]) Tryz.func61 (xaround_ b3 ((D2 l),0) (by first | (show (D2 l).length≤_; omega) | (show (F8 l).1.length≤_; omega) | omega | (have h9:=el_le 24 G8 (F8 l); omega)) _ _ hX) ?_)
   rintro _ _ rfl
   refine B5 (E':=[⟨2,[],pt b1⟩,⟨4,[],pt b3⟩]) [] [2,4] (k:=A0 ?_)
   refine A1 (A3 ?_)
   refine A4 (j:=1) [0] (k:=E7 Tryz.func62 (xmust_ b3 (B3 (((D2 l),0).1.length+1) ((D2 l),0)) [60] _ _) ?_)
   rintro _ _ rfl
   refine B5 (E':=[⟨2,[],pt b1⟩,⟨4,[],pt b3⟩]) [] [2,4] (k:=A0 ?_)
   refine A1 (A3 ?_)
   refine H5 (ch:=[]) (z:=.agg zN.toArray) (k:=(fun b5=>?_))
   refine B1 [] [2,4,5] (k:=A0 ?_)
   refine A1 (A1 ?_)
   refine A3 (A4 (j:=3) [0,0,0] (k:=?_))
   refine A6 (ch:=[]) (b:=b3) (off:=1) (v:=.int .i64 ((C2 [60] (B3 (((D2 l),0).1.length+1) ((D2 l),0))).2)) (hA:=At.grp 1 0 rfl rfl) (k:=B1 [0] [2,4,5,42] (k:=?_))
   refine A0 (B7 (b:=((C2 [60] (B3 (((D2 l),0).1.length+1) ((D2 l),0))).2)==0) kr (fun hc6=>?_) (fun hc6=>?_))
   ·
    have hq0:(F8 l).2=0:=by have h9:=hc6; show (C2 [60] (B3 ((D2 l).length+1) (D2 l,0))).2=0; simpa using h9
    refine A3 (A4 (j:=1) [0] (k:=?_))
    refine GL_makeMap (i:=1) (ch:=[]) rfl rfl kr kr kr (fun b7=>L8 (ch:=[]) (kt:=9) (et:=9) (r:=b7) (c:=0) (j:=0) (q:=0) (m:=[]) (k:=(mB #[120,109,108])) (v:=.string (mB #[104,116,116,112,58,47,47,119,119,119,46,119,51,46,111,114,103,47,88,77,76,47,49,57,57,56,47,110,97,109,101,115,112,97,99,101])) (H':=([(b7,.map (C9 ([((mB #[120,109,108]),.string (mB #[104,116,116,112,58,47,47,119,119,119,46,119,51,46,111,114,103,47,88,77,76,47,49,57,57,56,47,110,97,109,101,115,112,97,99,101]),0)])) 1)]::[(b5,.cells zN.toArray 55 (0,0))]::[(b3,.cells #[.string (bk (C2 [60] (B3 (((D2 l),0).1.length+1) ((D2 l),0))).1),.int .i64 ((C2 [60] (B3 (((D2 l),0).1.length+1) ((D2 l),0))).2)] 97 (0,0))]::[(b1,.cells zN.toArray 55 (0,0))]::H)) (hop:=.inr rfl) (kk:=?_))
    refine L8 (ch:=[]) (kt:=9) (et:=9) (r:=b7) (c:=1) (j:=0) (q:=0) (m:=[((mB #[120,109,108]),.string (mB #[104,116,116,112,58,47,47,119,119,119,46,119,51,46,111,114,103,47,88,77,76,47,49,57,57,56,47,110,97,109,101,115,112,97,99,101]),0)]) (k:=eB) (v:=.string eB) (H':=([(b7,.map (C9 (I2 ([((mB #[120,109,108]),.string (mB #[104,116,116,112,58,47,47,119,119,119,46,119,51,46,111,114,103,47,88,77,76,47,49,57,57,56,47,110,97,109,101,115,112,97,99,101]),0)]) 1 eB (.string eB))) (if J0 ([((mB #[120,109,108]),.string (mB #[104,116,116,112,58,47,47,119,119,119,46,119,51,46,111,114,103,47,88,77,76,47,49,57,57,56,47,110,97,109,101,115,112,97,99,101]),0)]) eB then 1 else 1+1))]::[(b5,.cells zN.toArray 55 (0,0))]::[(b3,.cells #[.string (bk (C2 [60] (B3 (((D2 l),0).1.length+1) ((D2 l),0))).1),.int .i64 ((C2 [60] (B3 (((D2 l),0).1.length+1) ((D2 l),0))).2)] 97 (0,0))]::[(b1,.cells zN.toArray 55 (0,0))]::H)) (hop:=.inr rfl) (kk:=A4 (j:=5) [0] (k:=?_))
    refine H4 rfl (H':=([(b3,.cells #[.string (bk (C2 [60] (B3 (((D2 l),0).1.length+1) ((D2 l),0))).1),.int .i64 ((C2 [60] (B3 (((D2 l),0).1.length+1) ((D2 l),0))).2)] 97 (0,0))]::[(b7,.map (C9 (I2 ([((mB #[120,109,108]),.string (mB #[104,116,116,112,58,47,47,119,119,119,46,119,51,46,111,114,103,47,88,77,76,47,49,57,57,56,47,110,97,109,101,115,112,97,99,101]),0)]) 1 eB (.string eB))) (if J0 ([((mB #[120,109,108]),.string (mB #[104,116,116,112,58,47,47,119,119,119,46,119,51,46,111,114,103,47,88,77,76,47,49,57,57,56,47,110,97,109,101,115,112,97,99,101]),0)]) eB then 1 else 1+1))]::[(b5,.cells zN.toArray 55 (0,0))]::[(b1,.cells zN.toArray 55 (0,0))]::H)) (fun w h=>(h.front (j:=2) rfl)) (E7 (vs:=[pt b3,.int .i64 0,.map (some b7)]) Tryz.func63 (xelement_ 24 (Nat.le_refl _) 0 (by decide) b3 (F8 l) (by have:=parQ_le l; omega) b7 (if J0 ([((mB #[120,109,108]),.string (mB #[104,116,116,112,58,47,47,119,119,119,46,119,51,46,111,114,103,47,88,77,76,47,49,57,57,56,47,110,97,109,101,115,112,97,99,101]),0)]) eB then 1 else 1+1) (I2 ([((mB #[120,109,108]),.string (mB #[104,116,116,112,58,47,47,119,119,119,46,119,51,46,111,114,103,47,88,77,76,47,49,57,57,56,47,110,97,109,101,115,112,97,99,101]),0)]) 1 eB (.string eB)) G8 (sp0_ok _) _ _ hX) ?_)
    rintro _ _ ⟨vc8,gv8,hJ8,rfl,rfl⟩
    obtain ⟨e0_8,e1_8,e2_8,e3_8,e4_8,rfl,h18⟩:=hJ8.cells5
    refine E2 (ch:=[]) (b:=b5) (off:=0) (v:=.agg #[e0_8,e1_8,e2_8,e3_8,e4_8]) (j:=3) ([(b3,.cells #[.string (bk ((elX 24 G8 (F8 l)).2).1),.int .i64 (((elX 24 G8 (F8 l)).2).2)] 97 (0,0))]::[(b7,.map (C9 (I2 ([((mB #[120,109,108]),.string (mB #[104,116,116,112,58,47,47,119,119,119,46,119,51,46,111,114,103,47,88,77,76,47,49,57,57,56,47,110,97,109,101,115,112,97,99,101]),0)]) 1 eB (.string eB))) (if J0 ([((mB #[120,109,108]),.string (mB #[104,116,116,112,58,47,47,119,119,119,46,119,51,46,111,114,103,47,88,77,76,47,49,57,57,56,47,110,97,109,101,115,112,97,99,101]),0)]) eB then 1 else 1+1))]::gv8::[(b5,.cells #[e0_8,e1_8,e2_8,e3_8,e4_8] 55 (0,0))]::[(b1,.cells zN.toArray 55 (0,0))]::H) (h1:=h18) (hoff:=Nat.le_of_ble_eq_true rfl) (hfz:=(fun _ _=>E0)) (k:=B1 [] [2,4,5] (k:=?_))
    refine A0 (A1 ?_)
    refine A3 (A4 (j:=1) [0] (k:=?_))
    refine E7 (vs:=[pt b3]) Tryz.func61 (xaround_ b3 ((elX 24 G8 (F8 l)).2) (by first | (show (D2 l).length≤_; omega) | (show (F8 l).1.length≤_; omega) | omega | (have h9:=el_le 24 G8 (F8 l); omega)) _ _ hX) ?_
    rintro _ _ rfl
    refine B1 [] [2,4,5] (k:=A0 ?_)
    refine A1 (A1 ?_)
    refine A3 (A4 (j:=3) [0,0,0] (k:=?_))
    refine A6 (ch:=[]) (b:=b3) (off:=0) (v:=.string (bk (B3 (((elX 24 G8 (F8 l)).2).1.length+1) ((elX 24 G8 (F8 l)).2)).1)) (hA:=At.grp 0 0 rfl rfl) (k:=B1 [0] [2,4,5,53] (k:=?_))
    refine A0 (B7 (b:=!((bk (B3 (((elX 24 G8 (F8 l)).2).1.length+1) ((elX 24 G8 (F8 l)).2)).1).toList==eB.toList)) kr (fun hc9=>?_) (fun hc9=>?_))
    ·
     have hs:(B3 ((elX 24 G8 (F8 l)).2.1.length+1) (elX 24 G8 (F8 l)).2).1≠[]:=by have h9:=hc9; exact (eqBf _ _).1 (by simpa only [Bool.not_eq_true'] using h9)
     refine A3 (A4 (j:=1) [0] (k:=?_))
     refine E7 Tryz.func64 (M3 b3 (B3 (((elX 24 G8 (F8 l)).2).1.length+1) ((elX 24 G8 (F8 l)).2)) 70 _ _) ?_
     rintro _ _ rfl
     refine B5 (E':=[⟨2,[],pt b1⟩,⟨4,[],pt b3⟩,⟨5,[],pt b5⟩]) [] [2,4,5] (k:=A0 ?_)
     refine A1 (A1 ?_)
     refine A3 (A4 (j:=3) [0,0,0] (k:=?_))
     refine A6 (ch:=[]) (b:=b3) (off:=1) (v:=.int .i64 ((E3 70 (B3 (((elX 24 G8 (F8 l)).2).1.length+1) ((elX 24 G8 (F8 l)).2))).2)) (hA:=At.grp 0 0 rfl rfl) (k:=B1 [0] [2,4,5,60] (k:=?_))
     refine A0 (B7 (b:=((E3 70 (B3 (((elX 24 G8 (F8 l)).2).1.length+1) ((elX 24 G8 (F8 l)).2))).2) != 0) kr (fun hc10=>?_) (fun hc10=>?_))
     ·
      have he:(E3 70 (B3 ((elX 24 G8 (F8 l)).2.1.length+1) (elX 24 G8 (F8 l)).2)).2≠0:=bne_iff_ne.1 hc10
      have hP:=(par_3 hlen hv hq0).trans (parN_1 (n:=(elX 24 G8 (F8 l))) hs he)
      refine A1 (I4 ([(b3,.cells #[.string (bk (E3 70 (B3 (((elX 24 G8 (F8 l)).2).1.length+1) ((elX 24 G8 (F8 l)).2))).1),.int .i64 ((E3 70 (B3 (((elX 24 G8 (F8 l)).2).1.length+1) ((elX 24 G8 (F8 l)).2))).2)] 97 (0,0))]::[(b7,.map (C9 (I2 ([((mB #[120,109,108]),.string (mB #[104,116,116,112,58,47,47,119,119,119,46,119,51,46,111,114,103,47,88,77,76,47,49,57,57,56,47,110,97,109,101,115,112,97,99,101]),0)]) 1 eB (.string eB))) (if J0 ([((mB #[120,109,108]),.string (mB #[104,116,116,112,58,47,47,119,119,119,46,119,51,46,111,114,103,47,88,77,76,47,49,57,57,56,47,110,97,109,101,115,112,97,99,101]),0)]) eB then 1 else 1+1))]::gv8::[(b5,.cells #[e0_8,e1_8,e2_8,e3_8,e4_8] 55 (0,0))]::[(b1,.cells zN.toArray 55 (0,0))]::H) kr ?_)
      refine G6 (fuel:=5) [(0,0),(1,0)] (fun w h=>h) (k:=L1 (ad:=⟨b3,0,none⟩) 2 (hL:=(fun w h=>h)) (k:=?_))
      refine G6 (fuel:=3) [(3,0)] (fun w h=>h) (k:=F7 4 (hL:=(fun w h=>h)) (hy:=A6 (i:=4) (ch:=[]) (b:=b3) (off:=1) (v:=.int .i64 ((E3 70 (B3 (((elX 24 G8 (F8 l)).2).1.length+1) ((elX 24 G8 (F8 l)).2))).2)) (hA:=At.grp 0 0 rfl rfl) (k:=G9 kr rfl)) (k:=?_))
      refine E4 5 (k:=E2 (ch:=[]) (b:=b1) (off:=0) (v:=.agg zN.toArray) (j:=4) ([(b3,.cells #[.string (bk (E3 70 (B3 (((elX 24 G8 (F8 l)).2).1.length+1) ((elX 24 G8 (F8 l)).2))).1),.int .i64 ((E3 70 (B3 (((elX 24 G8 (F8 l)).2).1.length+1) ((elX 24 G8 (F8 l)).2))).2)] 97 (0,0))]::[(b7,.map (C9 (I2 ([((mB #[120,109,108]),.string (mB #[104,116,116,112,58,47,47,119,119,119,46,119,51,46,111,114,103,47,88,77,76,47,49,57,57,56,47,110,97,109,101,115,112,97,99,101]),0)]) 1 eB (.string eB))) (if J0 ([((mB #[120,109,108]),.string (mB #[104,116,116,112,58,47,47,119,119,119,46,119,51,46,111,114,103,47,88,77,76,47,49,57,57,56,47,110,97,109,101,115,112,97,99,101]),0)]) eB then 1 else 1+1))]::gv8::[(b5,.cells #[e0_8,e1_8,e2_8,e3_8,e4_8] 55 (0,0))]::[(b1,.cells zN.toArray 55 (0,0))]::H) (hoff:=Nat.le_of_ble_eq_true rfl) (hfz:=(fun _ _=>E0)) (k:=?_))
      refine B6 kr (fun w h=>h) (G6 (fuel:=0) [(6,0)] (fun w h=>h) (k:=?_))
      refine G3 (E':=[⟨2,[],pt b1⟩,⟨3,[],.int .i64 ((E3 70 (B3 (((elX 24 G8 (F8 l)).2).1.length+1) ((elX 24 G8 (F8 l)).2))).2)⟩]) [2,3] (k:=A0 ?_)
      refine C5 (B2 ?_)
      refine C1 (H':=([(b1,.cells zN.toArray 55 (0,0))]::[]::H)) (fun w h=>Sat.flat ((((h.erase 3).erase 2).erase 1).erase 0) (List.Perm.refl _)) (Q6 [.cell 2 55,.tmp 3] [.agg zN.toArray,.int .i64 ((E3 70 (B3 (((elX 24 G8 (F8 l)).2).1.length+1) ((elX 24 G8 (F8 l)).2))).2)] rfl (.cons (.agg (b:=b1) (off:=0) (l:=zN) kr kr kr (At.grp 0 0 rfl rfl) kr) (.cons (.tmp kr) (.nil))) rfl ⟨([]::H),?_,fun w h=>(h.erase 0)⟩)
      rw [hP]; exact ⟨_,_,XRep.nul,rfl,rfl⟩
     ·
      have he:(E3 70 (B3 ((elX 24 G8 (F8 l)).2.1.length+1) (elX 24 G8 (F8 l)).2)).2=0:=bne_eq_false_iff_eq.1 hc10
      have hP:=(par_3 hlen hv hq0).trans (parN_2 (n:=(elX 24 G8 (F8 l))) hs he)
      refine B4 (A0 ?_)
      refine A1 (A3 ?_)
      refine I5 (ch:=[]) (b:=b5) (off:=0) (l:=[e0_8,e1_8,e2_8,e3_8,e4_8]) (hA:=At.grp 3 0 rfl rfl) (k:=E2 (ch:=[]) (b:=b1) (off:=0) (v:=.agg #[e0_8,e1_8,e2_8,e3_8,e4_8]) (j:=4) ([(b3,.cells #[.string (bk (E3 70 (B3 (((elX 24 G8 (F8 l)).2).1.length+1) ((elX 24 G8 (F8 l)).2))).1),.int .i64 ((E3 70 (B3 (((elX 24 G8 (F8 l)).2).1.length+1) ((elX 24 G8 (F8 l)).2))).2)] 97 (0,0))]::[(b7,.map (C9 (I2 ([((mB #[120,109,108]),.string (mB #[104,116,116,112,58,47,47,119,119,119,46,119,51,46,111,114,103,47,88,77,76,47,49,57,57,56,47,110,97,109,101,115,112,97,99,101]),0)]) 1 eB (.string eB))) (if J0 ([((mB #[120,109,108]),.string (mB #[104,116,116,112,58,47,47,119,119,119,46,119,51,46,111,114,103,47,88,77,76,47,49,57,57,56,47,110,97,109,101,115,112,97,99,101]),0)]) eB then 1 else 1+1))]::gv8::[(b5,.cells #[e0_8,e1_8,e2_8,e3_8,e4_8] 55 (0,0))]::[(b1,.cells #[e0_8,e1_8,e2_8,e3_8,e4_8] 55 (0,0))]::H) (h1:=h18) (hoff:=Nat.le_of_ble_eq_true rfl) (hfz:=(fun _ _=>E0)) (k:=?_))
      refine B5 (E':=[⟨2,[],pt b1⟩,⟨3,[],.int .i64 0⟩]) [0] [2,3] (k:=A0 ?_)
      refine C5 (C1 (H':=([(b1,.cells #[e0_8,e1_8,e2_8,e3_8,e4_8] 55 (0,0))]::gv8::H)) (fun w h=>Sat.flat (((((h.front (j:=2) rfl).front (j:=4) rfl).erase 4).erase 3).erase 2) (List.Perm.refl _)) ?_)
      refine Q6 [.cell 2 55,.tmp 3] [.agg #[e0_8,e1_8,e2_8,e3_8,e4_8],.int .i64 0] rfl (.cons (.agg (b:=b1) (off:=0) (l:=[e0_8,e1_8,e2_8,e3_8,e4_8]) kr kr kr (At.grp 0 0 rfl rfl) kr) (.cons (.tmp kr) (.nil))) rfl ⟨(gv8::H),?_,fun w h=>(h.erase 0)⟩
      rw [hP]; exact ⟨_,_,hJ8,rfl,rfl⟩
    ·
     have hs:(B3 ((elX 24 G8 (F8 l)).2.1.length+1) (elX 24 G8 (F8 l)).2).1=[]:=by have h9:=hc9; exact (eqB _ _).1 (by simpa only [Bool.not_eq_false'] using h9)
     refine B4 (A0 ?_)
     refine A1 (A1 ?_)
     refine A3 (A4 (j:=3) [0,0,0] (k:=?_))
     refine A6 (ch:=[]) (b:=b3) (off:=1) (v:=.int .i64 ((B3 (((elX 24 G8 (F8 l)).2).1.length+1) ((elX 24 G8 (F8 l)).2)).2)) (hA:=At.grp 0 0 rfl rfl) (k:=B5 (E':=[⟨2,[],pt b1⟩,⟨4,[],pt b3⟩,⟨5,[],pt b5⟩,⟨60,[],.bool (((B3 (((elX 24 G8 (F8 l)).2).1.length+1) ((elX 24 G8 (F8 l)).2)).2) != 0)⟩]) [0] [2,4,5,60] (k:=?_))
     refine A0 (B7 (b:=((B3 (((elX 24 G8 (F8 l)).2).1.length+1) ((elX 24 G8 (F8 l)).2)).2) != 0) kr (fun hc11=>?_) (fun hc11=>?_))
     ·
      have he:(B3 ((elX 24 G8 (F8 l)).2.1.length+1) (elX 24 G8 (F8 l)).2).2≠0:=bne_iff_ne.1 hc11
      have hP:=(par_3 hlen hv hq0).trans (parN_3 (n:=(elX 24 G8 (F8 l))) hs he)
      refine A1 (I4 ([(b3,.cells #[.string (bk (B3 (((elX 24 G8 (F8 l)).2).1.length+1) ((elX 24 G8 (F8 l)).2)).1),.int .i64 ((B3 (((elX 24 G8 (F8 l)).2).1.length+1) ((elX 24 G8 (F8 l)).2)).2)] 97 (0,0))]::[(b7,.map (C9 (I2 ([((mB #[120,109,108]),.string (mB #[104,116,116,112,58,47,47,119,119,119,46,119,51,46,111,114,103,47,88,77,76,47,49,57,57,56,47,110,97,109,101,115,112,97,99,101]),0)]) 1 eB (.string eB))) (if J0 ([((mB #[120,109,108]),.string (mB #[104,116,116,112,58,47,47,119,119,119,46,119,51,46,111,114,103,47,88,77,76,47,49,57,57,56,47,110,97,109,101,115,112,97,99,101]),0)]) eB then 1 else 1+1))]::gv8::[(b5,.cells #[e0_8,e1_8,e2_8,e3_8,e4_8] 55 (0,0))]::[(b1,.cells zN.toArray 55 (0,0))]::H) kr ?_)
      refine G6 (fuel:=5) [(0,0),(1,0)] (fun w h=>h) (k:=L1 (ad:=⟨b3,0,none⟩) 2 (hL:=(fun w h=>h)) (k:=?_))
      refine G6 (fuel:=3) [(3,0)] (fun w h=>h) (k:=F7 4 (hL:=(fun w h=>h)) (hy:=A6 (i:=4) (ch:=[]) (b:=b3) (off:=1) (v:=.int .i64 ((B3 (((elX 24 G8 (F8 l)).2).1.length+1) ((elX 24 G8 (F8 l)).2)).2)) (hA:=At.grp 0 0 rfl rfl) (k:=G9 kr rfl)) (k:=?_))
      refine E4 5 (k:=E2 (ch:=[]) (b:=b1) (off:=0) (v:=.agg zN.toArray) (j:=4) ([(b3,.cells #[.string (bk (B3 (((elX 24 G8 (F8 l)).2).1.length+1) ((elX 24 G8 (F8 l)).2)).1),.int .i64 ((B3 (((elX 24 G8 (F8 l)).2).1.length+1) ((elX 24 G8 (F8 l)).2)).2)] 97 (0,0))]::[(b7,.map (C9 (I2 ([((mB #[120,109,108]),.string (mB #[104,116,116,112,58,47,47,119,119,119,46,119,51,46,111,114,103,47,88,77,76,47,49,57,57,56,47,110,97,109,101,115,112,97,99,101]),0)]) 1 eB (.string eB))) (if J0 ([((mB #[120,109,108]),.string (mB #[104,116,116,112,58,47,47,119,119,119,46,119,51,46,111,114,103,47,88,77,76,47,49,57,57,56,47,110,97,109,101,115,112,97,99,101]),0)]) eB then 1 else 1+1))]::gv8::[(b5,.cells #[e0_8,e1_8,e2_8,e3_8,e4_8] 55 (0,0))]::[(b1,.cells zN.toArray 55 (0,0))]::H) (hoff:=Nat.le_of_ble_eq_true rfl) (hfz:=(fun _ _=>E0)) (k:=?_))
      refine B6 kr (fun w h=>h) (G6 (fuel:=0) [(6,0)] (fun w h=>h) (k:=?_))
      refine G3 (E':=[⟨2,[],pt b1⟩,⟨3,[],.int .i64 ((B3 (((elX 24 G8 (F8 l)).2).1.length+1) ((elX 24 G8 (F8 l)).2)).2)⟩]) [2,3] (k:=A0 ?_)
      refine C5 (B2 ?_)
      refine C1 (H':=([(b1,.cells zN.toArray 55 (0,0))]::[]::H)) (fun w h=>Sat.flat ((((h.erase 3).erase 2).erase 1).erase 0) (List.Perm.refl _)) (Q6 [.cell 2 55,.tmp 3] [.agg zN.toArray,.int .i64 ((B3 (((elX 24 G8 (F8 l)).2).1.length+1) ((elX 24 G8 (F8 l)).2)).2)] rfl (.cons (.agg (b:=b1) (off:=0) (l:=zN) kr kr kr (At.grp 0 0 rfl rfl) kr) (.cons (.tmp kr) (.nil))) rfl ⟨([]::H),?_,fun w h=>(h.erase 0)⟩)
      rw [hP]; exact ⟨_,_,XRep.nul,rfl,rfl⟩
     ·
      have he:(B3 ((elX 24 G8 (F8 l)).2.1.length+1) (elX 24 G8 (F8 l)).2).2=0:=bne_eq_false_iff_eq.1 hc11
      have hP:=(par_3 hlen hv hq0).trans (parN_4 (n:=(elX 24 G8 (F8 l))) hs he)
      refine B4 (A0 ?_)
      refine A1 (A3 ?_)
      refine I5 (ch:=[]) (b:=b5) (off:=0) (l:=[e0_8,e1_8,e2_8,e3_8,e4_8]) (hA:=At.grp 3 0 rfl rfl) (k:=E2 (ch:=[]) (b:=b1) (off:=0) (v:=.agg #[e0_8,e1_8,e2_8,e3_8,e4_8]) (j:=4) ([(b3,.cells #[.string (bk (B3 (((elX 24 G8 (F8 l)).2).1.length+1) ((elX 24 G8 (F8 l)).2)).1),.int .i64 ((B3 (((elX 24 G8 (F8 l)).2).1.length+1) ((elX 24 G8 (F8 l)).2)).2)] 97 (0,0))]::[(b7,.map (C9 (I2 ([((mB #[120,109,108]),.string (mB #[104,116,116,112,58,47,47,119,119,119,46,119,51,46,111,114,103,47,88,77,76,47,49,57,57,56,47,110,97,109,101,115,112,97,99,101]),0)]) 1 eB (.string eB))) (if J0 ([((mB #[120,109,108]),.string (mB #[104,116,116,112,58,47,47,119,119,119,46,119,51,46,111,114,103,47,88,77,76,47,49,57,57,56,47,110,97,109,101,115,112,97,99,101]),0)]) eB then 1 else 1+1))]::gv8::[(b5,.cells #[e0_8,e1_8,e2_8,e3_8,e4_8] 55 (0,0))]::[(b1,.cells #[e0_8,e1_8,e2_8,e3_8,e4_8] 55 (0,0))]::H) (h1:=h18) (hoff:=Nat.le_of_ble_eq_true rfl) (hfz:=(fun _ _=>E0)) (k:=?_))
      refine B5 (E':=[⟨2,[],pt b1⟩,⟨3,[],.int .i64 0⟩]) [0] [2,3] (k:=A0 ?_)
      refine C5 (C1 (H':=([(b1,.cells #[e0_8,e1_8,e2_8,e3_8,e4_8] 55 (0,0))]::gv8::H)) (fun w h=>Sat.flat (((((h.front (j:=2) rfl).front (j:=4) rfl).erase 4).erase 3).erase 2) (List.Perm.refl _)) ?_)
      refine Q6 [.cell 2 55,.tmp 3] [.agg #[e0_8,e1_8,e2_8,e3_8,e4_8],.int .i64 0] rfl (.cons (.agg (b:=b1) (off:=0) (l:=[e0_8,e1_8,e2_8,e3_8,e4_8]) kr kr kr (At.grp 0 0 rfl rfl) kr) (.cons (.tmp kr) (.nil))) rfl ⟨(gv8::H),?_,fun w h=>(h.erase 0)⟩
      rw [hP]; exact ⟨_,_,hJ8,rfl,rfl⟩
   ·
    have hq0:(F8 l).2≠0:=by have h9:=hc6; show (C2 [60] (B3 ((D2 l).length+1) (D2 l,0))).2≠0; simpa using h9
    refine B4 (A0 ?_)
    refine A1 (A3 ?_)
    refine A4 (j:=1) [0] (k:=H4 rfl (H':=([(b3,.cells #[.string (bk (C2 [60] (B3 (((D2 l),0).1.length+1) ((D2 l),0))).1),.int .i64 ((C2 [60] (B3 (((D2 l),0).1.length+1) ((D2 l),0))).2)] 97 (0,0))]::[(b5,.cells zN.toArray 55 (0,0))]::[(b1,.cells zN.toArray 55 (0,0))]::H)) (fun w h=>(h.front (j:=1) rfl)) ?_)
    refine E7 (vs:=[pt b3]) Tryz.func61 (xaround_ b3 (C2 [60] (B3 (((D2 l),0).1.length+1) ((D2 l),0))) (by first | (show (D2 l).length≤_; omega) | (show (F8 l).1.length≤_; omega) | omega | (have h9:=el_le 24 G8 (F8 l); omega)) _ _ hX) ?_
    rintro _ _ rfl
    refine B1 [] [2,4,5] (k:=A0 ?_)
    refine A1 (A1 ?_)
    refine A3 (A4 (j:=3) [0,0,0] (k:=?_))
    refine A6 (ch:=[]) (b:=b3) (off:=0) (v:=.string (bk (B3 ((C2 [60] (B3 (((D2 l),0).1.length+1) ((D2 l),0))).1.length+1) (C2 [60] (B3 (((D2 l),0).1.length+1) ((D2 l),0)))).1)) (hA:=At.grp 0 0 rfl rfl) (k:=B1 [0] [2,4,5,53] (k:=?_))
    refine A0 (B7 (b:=!((bk (B3 ((C2 [60] (B3 (((D2 l),0).1.length+1) ((D2 l),0))).1.length+1) (C2 [60] (B3 (((D2 l),0).1.length+1) ((D2 l),0)))).1).toList==eB.toList)) kr (fun hc12=>?_) (fun hc12=>?_))
    ·
     have hs:(B3 ((T2,(F8 l)).2.1.length+1) (T2,(F8 l)).2).1≠[]:=by have h9:=hc12; exact (eqBf _ _).1 (by simpa only [Bool.not_eq_true'] using h9)
     refine A3 (A4 (j:=1) [0] (k:=?_))
     refine E7 Tryz.func64 (M3 b3 (B3 ((C2 [60] (B3 (((D2 l),0).1.length+1) ((D2 l),0))).1.length+1) (C2 [60] (B3 (((D2 l),0).1.length+1) ((D2 l),0)))) 70 _ _) ?_
     rintro _ _ rfl
     refine B1 [] [2,4,5] (k:=A0 ?_)
     refine A1 (A1 ?_)
     refine A3 (A4 (j:=3) [0,0,0] (k:=?_))
     refine A6 (ch:=[]) (b:=b3) (off:=1) (v:=.int .i64 ((E3 70 (B3 ((C2 [60] (B3 (((D2 l),0).1.length+1) ((D2 l),0))).1.length+1) (C2 [60] (B3 (((D2 l),0).1.length+1) ((D2 l),0))))).2)) (hA:=At.grp 0 0 rfl rfl) (k:=B5 (E':=[⟨2,[],pt b1⟩,⟨4,[],pt b3⟩,⟨5,[],pt b5⟩,⟨60,[],.bool (((E3 70 (B3 ((C2 [60] (B3 (((D2 l),0).1.length+1) ((D2 l),0))).1.length+1) (C2 [60] (B3 (((D2 l),0).1.length+1) ((D2 l),0))))).2) != 0)⟩]) [0] [2,4,5,60] (k:=?_))
     refine A0 (B7 (b:=((E3 70 (B3 ((C2 [60] (B3 (((D2 l),0).1.length+1) ((D2 l),0))).1.length+1) (C2 [60] (B3 (((D2 l),0).1.length+1) ((D2 l),0))))).2) != 0) kr (fun hc13=>?_) (fun hc13=>?_))
     ·
      have he:(E3 70 (B3 ((T2,(F8 l)).2.1.length+1) (T2,(F8 l)).2)).2≠0:=bne_iff_ne.1 hc13
      have hP:=(par_4 hlen hv hq0).trans (parN_1 (n:=(T2,(F8 l))) hs he)
      refine A1 (I4 ([(b3,.cells #[.string (bk (E3 70 (B3 ((C2 [60] (B3 (((D2 l),0).1.length+1) ((D2 l),0))).1.length+1) (C2 [60] (B3 (((D2 l),0).1.length+1) ((D2 l),0))))).1),.int .i64 ((E3 70 (B3 ((C2 [60] (B3 (((D2 l),0).1.length+1) ((D2 l),0))).1.length+1) (C2 [60] (B3 (((D2 l),0).1.length+1) ((D2 l),0))))).2)] 97 (0,0))]::[(b5,.cells zN.toArray 55 (0,0))]::[(b1,.cells zN.toArray 55 (0,0))]::H) kr ?_)
      refine G6 (fuel:=5) [(0,0),(1,0)] (fun w h=>h) (k:=L1 (ad:=⟨b3,0,none⟩) 2 (hL:=(fun w h=>h)) (k:=?_))
      refine G6 (fuel:=3) [(3,0)] (fun w h=>h) (k:=F7 4 (hL:=(fun w h=>h)) (hy:=A6 (i:=4) (ch:=[]) (b:=b3) (off:=1) (v:=.int .i64 ((E3 70 (B3 ((C2 [60] (B3 (((D2 l),0).1.length+1) ((D2 l),0))).1.length+1) (C2 [60] (B3 (((D2 l),0).1.length+1) ((D2 l),0))))).2)) (hA:=At.grp 0 0 rfl rfl) (k:=G9 kr rfl)) (k:=?_))
      refine E4 5 (k:=E2 (ch:=[]) (b:=b1) (off:=0) (v:=.agg zN.toArray) (j:=2) ([(b3,.cells #[.string (bk (E3 70 (B3 ((C2 [60] (B3 (((D2 l),0).1.length+1) ((D2 l),0))).1.length+1) (C2 [60] (B3 (((D2 l),0).1.length+1) ((D2 l),0))))).1),.int .i64 ((E3 70 (B3 ((C2 [60] (B3 (((D2 l),0).1.length+1) ((D2 l),0))).1.length+1) (C2 [60] (B3 (((D2 l),0).1.length+1) ((D2 l),0))))).2)] 97 (0,0))]::[(b5,.cells zN.toArray 55 (0,0))]::[(b1,.cells zN.toArray 55 (0,0))]::H) (hoff:=Nat.le_of_ble_eq_true rfl) (hfz:=(fun _ _=>E0)) (k:=?_))
      refine B6 kr (fun w h=>h) (G6 (fuel:=0) [(6,0)] (fun w h=>h) (k:=?_))
      refine G3 (E':=[⟨2,[],pt b1⟩,⟨3,[],.int .i64 ((E3 70 (B3 ((C2 [60] (B3 (((D2 l),0).1.length+1) ((D2 l),0))).1.length+1) (C2 [60] (B3 (((D2 l),0).1.length+1) ((D2 l),0))))).2)⟩]) [2,3] (k:=A0 ?_)
      refine C5 (B2 ?_)
      refine C1 (H':=([(b1,.cells zN.toArray 55 (0,0))]::[]::H)) (fun w h=>Sat.flat ((h.erase 1).erase 0) (List.Perm.refl _)) (Q6 [.cell 2 55,.tmp 3] [.agg zN.toArray,.int .i64 ((E3 70 (B3 ((C2 [60] (B3 (((D2 l),0).1.length+1) ((D2 l),0))).1.length+1) (C2 [60] (B3 (((D2 l),0).1.length+1) ((D2 l),0))))).2)] rfl (.cons (.agg (b:=b1) (off:=0) (l:=zN) kr kr kr (At.grp 0 0 rfl rfl) kr) (.cons (.tmp kr) (.nil))) rfl ⟨([]::H),?_,fun w h=>(h.erase 0)⟩)
      rw [hP]; exact ⟨_,_,XRep.nul,rfl,rfl⟩
     ·
      have he:(E3 70 (B3 ((T2,(F8 l)).2.1.length+1) (T2,(F8 l)).2)).2=0:=bne_eq_false_iff_eq.1 hc13
      have hP:=(par_4 hlen hv hq0).trans (parN_2 (n:=(T2,(F8 l))) hs he)
      refine B4 (A0 ?_)
      refine A1 (A3 ?_)
      refine I5 (ch:=[]) (b:=b5) (off:=0) (l:=zN) (hA:=At.grp 1 0 rfl rfl) (k:=E2 (ch:=[]) (b:=b1) (off:=0) (v:=.agg zN.toArray) (j:=2) ([(b3,.cells #[.string (bk (E3 70 (B3 ((C2 [60] (B3 (((D2 l),0).1.length+1) ((D2 l),0))).1.length+1) (C2 [60] (B3 (((D2 l),0).1.length+1) ((D2 l),0))))).1),.int .i64 ((E3 70 (B3 ((C2 [60] (B3 (((D2 l),0).1.length+1) ((D2 l),0))).1.length+1) (C2 [60] (B3 (((D2 l),0).1.length+1) ((D2 l),0))))).2)] 97 (0,0))]::[(b5,.cells zN.toArray 55 (0,0))]::[(b1,.cells zN.toArray 55 (0,0))]::H) (hoff:=Nat.le_of_ble_eq_true rfl) (hfz:=(fun _ _=>E0)) (k:=?_))
      refine B5 (E':=[⟨2,[],pt b1⟩,⟨3,[],.int .i64 0⟩]) [0] [2,3] (k:=A0 ?_)
      refine C5 (C1 (H':=([(b1,.cells zN.toArray 55 (0,0))]::[]::H)) (fun w h=>Sat.flat ((h.erase 1).erase 0) (List.Perm.refl _)) ?_)
      refine Q6 [.cell 2 55,.tmp 3] [.agg zN.toArray,.int .i64 0] rfl (.cons (.agg (b:=b1) (off:=0) (l:=zN) kr kr kr (At.grp 0 0 rfl rfl) kr) (.cons (.tmp kr) (.nil))) rfl ⟨([]::H),?_,fun w h=>(h.erase 0)⟩
      rw [hP]; exact ⟨_,_,XRep.nul,rfl,rfl⟩
    ·
     have hs:(B3 ((T2,(F8 l)).2.1.length+1) (T2,(F8 l)).2).1=[]:=by have h9:=hc12; exact (eqB _ _).1 (by simpa only [Bool.not_eq_false'] using h9)
     refine B4 (A0 ?_)
     refine A1 (A1 ?_)
     refine A3 (A4 (j:=3) [0,0,0] (k:=?_))
     refine A6 (ch:=[]) (b:=b3) (off:=1) (v:=.int .i64 ((B3 ((C2 [60] (B3 (((D2 l),0).1.length+1) ((D2 l),0))).1.length+1) (C2 [60] (B3 (((D2 l),0).1.length+1) ((D2 l),0)))).2)) (hA:=At.grp 0 0 rfl rfl) (k:=B1 [0] [2,4,5,60] (k:=?_))
     refine A0 (B7 (b:=((B3 ((C2 [60] (B3 (((D2 l),0).1.length+1) ((D2 l),0))).1.length+1) (C2 [60] (B3 (((D2 l),0).1.length+1) ((D2 l),0)))).2) != 0) kr (fun hc14=>?_) (fun hc14=>?_))
     ·
      have he:(B3 ((T2,(F8 l)).2.1.length+1) (T2,(F8 l)).2).2≠0:=bne_iff_ne.1 hc14
      have hP:=(par_4 hlen hv hq0).trans (parN_3 (n:=(T2,(F8 l))) hs he)
      refine A1 (I4 ([(b3,.cells #[.string (bk (B3 ((C2 [60] (B3 (((D2 l),0).1.length+1) ((D2 l),0))).1.length+1) (C2 [60] (B3 (((D2 l),0).1.length+1) ((D2 l),0)))).1),.int .i64 ((B3 ((C2 [60] (B3 (((D2 l),0).1.length+1) ((D2 l),0))).1.length+1) (C2 [60] (B3 (((D2 l),0).1.length+1) ((D2 l),0)))).2)] 97 (0,0))]::[(b5,.cells zN.toArray 55 (0,0))]::[(b1,.cells zN.toArray 55 (0,0))]::H) kr ?_)
      refine G6 (fuel:=5) [(0,0),(1,0)] (fun w h=>h) (k:=L1 (ad:=⟨b3,0,none⟩) 2 (hL:=(fun w h=>h)) (k:=?_))
      refine G6 (fuel:=3) [(3,0)] (fun w h=>h) (k:=F7 4 (hL:=(fun w h=>h)) (hy:=A6 (i:=4) (ch:=[]) (b:=b3) (off:=1) (v:=.int .i64 ((B3 ((C2 [60] (B3 (((D2 l),0).1.length+1) ((D2 l),0))).1.length+1) (C2 [60] (B3 (((D2 l),0).1.length+1) ((D2 l),0)))).2)) (hA:=At.grp 0 0 rfl rfl) (k:=G9 kr rfl)) (k:=?_))
      refine E4 5 (k:=E2 (ch:=[]) (b:=b1) (off:=0) (v:=.agg zN.toArray) (j:=2) ([(b3,.cells #[.string (bk (B3 ((C2 [60] (B3 (((D2 l),0).1.length+1) ((D2 l),0))).1.length+1) (C2 [60] (B3 (((D2 l),0).1.length+1) ((D2 l),0)))).1),.int .i64 ((B3 ((C2 [60] (B3 (((D2 l),0).1.length+1) ((D2 l),0))).1.length+1) (C2 [60] (B3 (((D2 l),0).1.length+1) ((D2 l),0)))).2)] 97 (0,0))]::[(b5,.cells zN.toArray 55 (0,0))]::[(b1,.cells zN.toArray 55 (0,0))]::H) (hoff:=Nat.le_of_ble_eq_true rfl) (hfz:=(fun _ _=>E0)) (k:=?_))
      refine B6 kr (fun w h=>h) (G6 (fuel:=0) [(6,0)] (fun w h=>h) (k:=?_))
      refine G3 (E':=[⟨2,[],pt b1⟩,⟨3,[],.int .i64 ((B3 ((C2 [60] (B3 (((D2 l),0).1.length+1) ((D2 l),0))).1.length+1) (C2 [60] (B3 (((D2 l),0).1.length+1) ((D2 l),0)))).2)⟩]) [2,3] (k:=A0 ?_)
      refine C5 (B2 ?_)
      refine C1 (H':=([(b1,.cells zN.toArray 55 (0,0))]::[]::H)) (fun w h=>Sat.flat ((h.erase 1).erase 0) (List.Perm.refl _)) (Q6 [.cell 2 55,.tmp 3] [.agg zN.toArray,.int .i64 ((B3 ((C2 [60] (B3 (((D2 l),0).1.length+1) ((D2 l),0))).1.length+1) (C2 [60] (B3 (((D2 l),0).1.length+1) ((D2 l),0)))).2)] rfl (.cons (.agg (b:=b1) (off:=0) (l:=zN) kr kr kr (At.grp 0 0 rfl rfl) kr) (.cons (.tmp kr) (.nil))) rfl ⟨([]::H),?_,fun w h=>(h.erase 0)⟩)
      rw [hP]; exact ⟨_,_,XRep.nul,rfl,rfl⟩
     ·
      have he:(B3 ((T2,(F8 l)).2.1.length+1) (T2,(F8 l)).2).2=0:=bne_eq_false_iff_eq.1 hc14
      have hP:=(par_4 hlen hv hq0).trans (parN_4 (n:=(T2,(F8 l))) hs he)
      refine B4 (A0 ?_)
      refine A1 (A3 ?_)
      refine I5 (ch:=[]) (b:=b5) (off:=0) (l:=zN) (hA:=At.grp 1 0 rfl rfl) (k:=E2 (ch:=[]) (b:=b1) (off:=0) (v:=.agg zN.toArray) (j:=2) ([(b3,.cells #[.string (bk (B3 ((C2 [60] (B3 (((D2 l),0).1.length+1) ((D2 l),0))).1.length+1) (C2 [60] (B3 (((D2 l),0).1.length+1) ((D2 l),0)))).1),.int .i64 ((B3 ((C2 [60] (B3 (((D2 l),0).1.length+1) ((D2 l),0))).1.length+1) (C2 [60] (B3 (((D2 l),0).1.length+1) ((D2 l),0)))).2)] 97 (0,0))]::[(b5,.cells zN.toArray 55 (0,0))]::[(b1,.cells zN.toArray 55 (0,0))]::H) (hoff:=Nat.le_of_ble_eq_true rfl) (hfz:=(fun _ _=>E0)) (k:=?_))
      refine B5 (E':=[⟨2,[],pt b1⟩,⟨3,[],.int .i64 0⟩]) [0] [2,3] (k:=A0 ?_)
      refine C5 (C1 (H':=([(b1,.cells zN.toArray 55 (0,0))]::[]::H)) (fun w h=>Sat.flat ((h.erase 1).erase 0) (List.Perm.refl _)) ?_)
      refine Q6 [.cell 2 55,.tmp 3] [.agg zN.toArray,.int .i64 0] rfl (.cons (.agg (b:=b1) (off:=0) (l:=zN) kr kr kr (At.grp 0 0 rfl rfl) kr) (.cons (.tmp kr) (.nil))) rfl ⟨([]::H),?_,fun w h=>(h.erase 0)⟩
      rw [hP]; exact ⟨_,_,XRep.nul,rfl,rfl⟩
end Go.Proofs.YtppgfiklmfoaeaaGreatDoor
namespace Go.Proofs.YtppgfiklmfoaeaaGreatDoor
open Go.Sw Go.Sha Go.Esc
theorem html_ (s:ByteArray) (hs:s.size≤400000) (W0:World) (H:List Grp):Tri Tryz.prog 119 #[.string s] W0 H (fun v H'=>v=.string ⟨(X2 s.data.toList).toArray⟩∧H'=H):=by
 have hps:ByteArray.size ⟨(I6 s.data.toList).toArray⟩≤2000000:=by
  have:=plain_len s.data.toList
  rw [show s.data.toList.length=s.size from Array.length_toList] at this
  show (I6 s.data.toList).toArray.size≤_
  rw [List.size_toArray]; omega
 refine D0 (args:=[.string s]) (n:=8) Tryz.func119 rfl rfl (Nat.le_of_ble_eq_true rfl) ?_
 refine A1 (C3 (E':=[⟨0,[],.string s⟩]) [0] [0] (k:=?_))
 refine A0 (A1 ?_)
 refine A3 (D5 (ch:=[]) (e:=9) (l:=[(0,.string (mB #[38])),(1,.string (mB #[38,97,109,112,59])),(2,.string (mB #[60])),(3,.string (mB #[38,108,116,59])),(4,.string (mB #[62])),(5,.string (mB #[38,103,116,59])),(6,.string (mB #[34])),(7,.string (mB #[38,113,117,111,116,59])),(8,.string (mB #[39])),(9,.string (mB #[38,35,51,57,59]))]) (c:=[.string (mB #[38]),.string (mB #[38,97,109,112,59]),.string (mB #[60]),.string (mB #[38,108,116,59]),.string (mB #[62]),.string (mB #[38,103,116,59]),.string (mB #[34]),.string (mB #[38,113,117,111,116,59]),.string (mB #[39]),.string (mB #[38,35,51,57,59])]) (k:=(fun b1=>?_)))
 refine E7 Tryz.func148 (newRep_ b1 _ _) ?_
 rintro _ _ ⟨rb,ra,rcap,rg,rfl,hOwn,rfl⟩
 have hRT:Rd (inG rg) ra L2:=by
  obtain ⟨a2,c2,e,_,h⟩:=hOwn.shape
  injection e with e1; subst e1; exact h
 refine A4 (j:=3) [0] (k:=M5 Tryz.func60 (plain_ s (by omega) _ _) ?_)
 refine E7 Tryz.func149 (repReplace_ rb ra rcap rg hRT (bk (I6 s.data.toList)) (bk (X2 s.data.toList)) (fun c aT cT gT a38 c38 g38 a60 c60 g60 a62 c62 g62 a34 c34 g34 a39 c39 g39 W1 H1 hT hR=>tabReplace_ c c38 c60 c62 c34 c39 aT cT gT a38 a60 a62 a34 a39 g38 g60 g62 g34 g39 (bk (I6 s.data.toList)) hps hT hR W1 H1) _ _) ?_
 rintro _ _ ⟨rfl,rfl⟩
 refine B1 [0] [2] (k:=A0 ?_)
 refine C5 (C1 (H':=H) (fun w h=>(h.erase 0)) ?_)
 refine B9 [.tmp 2] [.string (bk (X2 s.data.toList))] (k:=?_)
 exact ⟨rfl,rfl⟩
end Go.Proofs.YtppgfiklmfoaeaaGreatDoor
namespace Go.Xml
open Go.Lib Go.Esc Go.Json Go.Sw
abbrev xvC (x:XN) (an:Option Addr) (cn:Nat) (al:Option Addr) (cl:Nat):List Value:=[.string (bk x.space),.string (bk x.name),.slice an x.attrs.length cn,.slice al x.kids.length cl,.string (bk x.text)]
theorem XRd.shape {S:Nat→Obj→Prop} {x:XN} {c:List Value} (h:XRd S x c):∃ (an al:Option Addr) (cn cl:Nat) (cs:List Value),c=xvC x an cn al cl∧Rd S an (xaV x.attrs)∧Rd S al cs∧XRdL S x.kids cs∧x.attrs.length≤cn:=by
  cases h with
  | mk h0 h1 h2 h3=>exact ⟨_,_,_,_,_,rfl,h1,h2,h3,h0⟩
theorem XRdL.get {S:Nat→Obj→Prop} {l:List XN} {cs:List Value} {k:Nat} (h:k<l.length) (hc:XRdL S l cs):∃ (x:XN) (an:Option Addr) (cn:Nat) (al:Option Addr) (cl:Nat) (cs2:List Value),x=l[k]∧(cs.drop (k * 5)).take 5=xvC x an cn al cl∧Rd S an (xaV x.attrs)∧Rd S al cs2∧XRdL S x.kids cs2∧x.attrs.length≤cn:=by
  obtain ⟨an,al,cn,cl,cs2,h1,h2,h3,h4,h5⟩:=(XRdL.at h hc).shape
  exact ⟨l[k],an,cn,al,cl,cs2,rfl,h1,h2,h3,h4,h5⟩
theorem XRd.of {S:Nat→Obj→Prop} {x:XN} {an al:Option Addr} {cn cl:Nat} {cs:List Value} (h0:x.attrs.length≤cn) (h1:Rd S an (xaV x.attrs)) (h2:Rd S al cs) (h3:XRdL S x.kids cs):XRd S x (xvC x an cn al cl):=by
  cases x; exact .mk h0 h1 h2 h3
theorem elt5 {cs l:List Value} {q:Nat} (h:(cs.drop q).take 5=l):∀ m (hm:m<l.length),cs[q+m]? = some l[m]:=by
  intro m hm
  subst h
  have h4:m<5:=by rw [List.length_take] at hm; omega
  rw [← List.getElem?_eq_getElem hm,List.getElem?_take_of_lt h4,List.getElem?_drop]
theorem XRdL.snoc {S:Nat→Obj→Prop}:∀ {l:List XN} {cs:List Value} {v:XN} {c:List Value},XRdL S l cs→XRd S v c→XRdL S (l++[v]) (cs++c)
  | [],_,v,c,h,hv=>by
    cases h
    have:=XRdL.cons hv .nil
    rw [List.append_nil] at this
    exact this
  | x::l,_,v,c,h,hv=>by
    cases h with
    | cons h1 h2=>rw [List.cons_append,List.append_assoc]; exact .cons h1 (XRdL.snoc h2 hv)
mutual
theorem XRd.mono {S S':Nat→Obj→Prop} (hs:∀ b o,S b o→S' b o):∀ {v:XN} {c:List Value},XRd S v c→XRd S' v c
  | .mk _ _ _ _ _,_,.mk h0 h1 h2 h3=>.mk h0 (rd_mono h1 hs) (rd_mono h2 hs) (XRdL.mono hs h3)
theorem XRdL.mono {S S':Nat→Obj→Prop} (hs:∀ b o,S b o→S' b o):∀ {l:List XN} {cs:List Value},XRdL S l cs→XRdL S' l cs
  | [],_,.nil=>.nil
  | _::_,_,.cons h1 h2=>.cons (XRd.mono hs h1) (XRdL.mono hs h2)
end
def wtA:List XA→Nat
  | []=>0
  | a::r=>a.space.length+a.name.length+a.value.length+1+wtA r
mutual
/-- all that an element has -/
def wtX:XN→Nat
  | .mk s n ats l t=>1+s.length+n.length+t.length+wtA ats+wtXL l
def wtXL:List XN→Nat
  | []=>0
  | v::l=>wtX v+wtXL l
end
theorem wtX_eq (s n:List UInt8) (ats:List XA) (l:List XN) (t:List UInt8):wtX (.mk s n ats l t)=1+s.length+n.length+t.length+wtA ats+wtXL l:=by simp only [wtX]
theorem N7 (v:XN) (l:List XN):wtXL (v::l)=wtX v+wtXL l:=by simp only [wtXL]
theorem wtXL_nil:wtXL []=0:=by simp only [wtXL]
theorem wtX_pos (v:XN):0<wtX v:=by cases v; rw [wtX_eq]; omega
theorem wtA_at:∀ {l:List XA} {i:Nat} (h:i<l.length),l[i].space.length+l[i].name.length+l[i].value.length+1≤wtA l
  | [],_,h=>absurd h (Nat.not_lt_zero _)
  | v::l,0,_=>by show v.space.length+v.name.length+v.value.length+1≤v.space.length+v.name.length+v.value.length+1+wtA l; omega
  | v::l,i+1,h=>by
    have hi:i<l.length:=by simpa using h
    have:=wtA_at hi
    show l[i].space.length+l[i].name.length+l[i].value.length+1≤v.space.length+v.name.length+v.value.length+1+wtA l; omega
theorem wtA_len:∀ l:List XA,l.length≤wtA l
  | []=>Nat.zero_le _
  | v::l=>by have:=wtA_len l; show l.length+1≤v.space.length+v.name.length+v.value.length+1+wtA l; omega
theorem wtXL_at:∀ {l:List XN} {i:Nat} (h:i<l.length),wtX l[i]≤wtXL l
  | [],_,h=>absurd h (Nat.not_lt_zero _)
  | v::l,0,_=>by rw [N7]; show wtX v≤_; omega
  | v::l,i+1,h=>by
    have hi:i<l.length:=by simpa using h
    have:=wtXL_at hi
    rw [N7]; show wtX l[i]≤_; omega
theorem wtXL_len:∀ l:List XN,l.length≤wtXL l
  | []=>Nat.zero_le _
  | v::l=>by have:=wtXL_len l; have:=wtX_pos v; rw [N7,List.length_cons]; omega
theorem wtXL_take:∀ (l:List XN) (i:Nat),wtXL (l.take i)≤wtXL l
  | [],i=>by rw [List.take_nil]; exact Nat.le_refl _
  | v::l,0=>by rw [List.take_zero,wtXL_nil]; exact Nat.zero_le _
  | v::l,i+1=>by rw [List.take_succ_cons,N7,N7]; have:=wtXL_take l i; omega
theorem S1 (x:XN):x.space.length+x.name.length+x.text.length+x.attrs.length+x.kids.length+1≤wtX x∧wtA x.attrs+wtXL x.kids+1≤wtX x:=by
  cases x with
  | mk s n ats l t =>
    have h1:=wtA_len ats
    have h2:=wtXL_len l
    rw [wtX_eq]
    exact ⟨by show s.length+n.length+t.length+ats.length+l.length+1≤_; omega,by show wtA ats+wtXL l+1≤_; omega⟩
theorem wtX_sum (x:XN):wtX x=1+x.space.length+x.name.length+x.text.length+wtA x.attrs+wtXL x.kids:=by
  cases x; exact wtX_eq _ _ _ _ _
theorem wtXL_step:∀ {l:List XN} {i:Nat} (h:i<l.length),wtXL (l.take i)+wtX l[i]≤wtXL l
  | [],_,h=>absurd h (Nat.not_lt_zero _)
  | v::l,0,_=>by rw [List.take_zero,wtXL_nil,N7]; show 0+wtX v≤_; omega
  | v::l,i+1,h=>by
    have hi:i<l.length:=by simpa using h
    have:=wtXL_step hi
    rw [List.take_succ_cons,N7,N7]; show _+wtX l[i]≤_; omega
theorem wtX_kid {x:XN} {i:Nat} (h:i<x.kids.length):wtX x.kids[i]<wtX x:=by
  have h1:=wtXL_at h
  have h2:=(S1 x).2
  omega
def kidX (sp nm:List UInt8) (k:XN):Bool:=k.name != []&&k.space==sp&&k.name==nm
def allX (x:XN) (sp nm:List UInt8):List XN:=x.kids.filter (kidX sp nm)
theorem X3 {l:List XN} {f:XN→Bool} {k:Nat} (h:k<l.length):(l.take (k+1)).filter f=(l.take k).filter f++(if f l[k] then [l[k]] else []):=by
  rw [List.take_succ_eq_append_getElem h,List.filter_append]
  congr 1
  rw [List.filter_cons]; rfl
def vlF (nm:List UInt8) (a:XA):Bool:=a.space==[]&&a.name==nm
def vlX (ats:List XA) (nm:List UInt8):List UInt8:=((ats.find? (vlF nm)).map (·.value)).getD []
theorem vl_step {ats:List XA} {nm:List UInt8} {k:Nat} (h:k<ats.length):vlX (ats.drop k) nm=if vlF nm ats[k] then ats[k].value else vlX (ats.drop (k+1)) nm:=by
  rw [L7 h]
  unfold vlX
  rw [List.find?_cons]
  cases vlF nm ats[k] <;> rfl
theorem bkB (a b:List UInt8):((bk a).toList==(bk b).toList)=(a==b):=by
  by_cases e:a=b
  · subst e; rw [(eqB _ _).2 rfl]; simp
  · rw [(eqBf (bk a) (bk b)).2 e,beq_eq_false_iff_ne.2 e]
mutual
def innX:XN→List UInt8
  | .mk _ n _ l t=>if n=[] then t else innL l
def innL:List XN→List UInt8
  | []=>[]
  | v::l=>innX v++innL l
end
theorem innL_nil:innL []=[]:=by simp only [innL]
theorem innL_cons (v:XN) (l:List XN):innL (v::l)=innX v++innL l:=by simp only [innL]
theorem innL_app:∀ (l m:List XN),innL (l++m)=innL l++innL m
  | [],m=>by rw [innL_nil]; rfl
  | v::l,m=>by rw [List.cons_append,innL_cons,innL_cons,innL_app l m,List.append_assoc]
theorem innX_text {x:XN} (h:x.name=[]):innX x=x.text:=by
  cases x with
  | mk s n ats l t=>cases h; simp only [innX]; rfl
theorem innX_el {x:XN} (h:x.name≠[]):innX x=innL x.kids:=by
  cases x with
  | mk s n ats l t=>simp only [innX]; exact if_neg h
theorem innL_take {l:List XN} {k:Nat} (h:k<l.length):innL (l.take (k+1))=innL (l.take k)++innX l[k]:=by
  rw [List.take_succ_eq_append_getElem h,innL_app,innL_cons,innL_nil,List.append_nil]
mutual
theorem inn_len:∀ x:XN,(innX x).length≤wtX x
  | .mk s n ats l t=>by
    have:=innL_len l
    rw [wtX_eq]
    simp only [innX]
    split <;> omega
theorem innL_len:∀ l:List XN,(innL l).length≤wtXL l
  | []=>by rw [innL_nil]; exact Nat.zero_le _
  | v::l=>by
    have h1:=inn_len v
    have h2:=innL_len l
    rw [innL_cons,N7,List.length_append]; omega
end
end Go.Xml
namespace Go.Xml
open Go.Esc Go.Json Go.Sw
def plX (s:List UInt8):Bool:=N1 s&&(I6 s==s)&&!(idxL [13] s).isSome
def nmOk (n:List UInt8):Bool:=!(n==[])&&(nmX n==n.length)
def sameN (x y:XA):Bool:=x.name==y.name
def atF (a:XA):Bool:=!(!(a.space==[])||a.name==[]||!(nmX a.name==a.name.length)||a.name==xmlns||!plX a.value||!plX a.name)
def attrsR:List XA→List XA→Bool
  | _,[]=>true
  | seen,a::r=>atF a&&!(seen.any (sameN a))&&attrsR (seen++[a]) r
def kidF (f:XN→Bool) (last:Bool) (y:XN):Bool:=!((y.name==[]&&(last||y.text==[]||!plX y.text||!(y.space==[])||decide (0<y.attrs.length+y.kids.length)))||(!(y.name==[])&&!f y))
def kidsR (f:XN→Bool):Bool→List XN→Bool
  | _,[]=>true
  | last,y::l=>kidF f last y&&kidsR f (y.name==[]) l
def rtX:Nat→XN→Bool
  | 0,_=>false
  | m+1,x=>nmOk x.name&&x.text==[]&&plX x.space&&plX x.name&&attrsR [] x.attrs&&kidsR (rtX m) false x.kids
theorem rtX_0 (x:XN):rtX 0 x=false:=by unfold rtX; rfl
theorem rtX_s (m:Nat) (x:XN):rtX (m+1) x=(nmOk x.name&&x.text==[]&&plX x.space&&plX x.name&&attrsR [] x.attrs&&kidsR (rtX m) false x.kids):=by rw [rtX]
theorem attrsR_step {l:List XA} {k:Nat} (h:k<l.length):attrsR (l.take k) (l.drop k)=(atF l[k]&&!((l.take k).any (sameN l[k]))&&attrsR (l.take (k+1)) (l.drop (k+1))):=by
  rw [L7 h,attrsR,List.take_succ_eq_append_getElem h]
theorem kidsR_step {f:XN→Bool} {b:Bool} {l:List XN} {k:Nat} (h:k<l.length):kidsR f b (l.drop k)=(kidF f b l[k]&&kidsR f (l[k].name==[]) (l.drop (k+1))):=by
  rw [L7 h,kidsR]
theorem bkN (a:List UInt8):((bk a).toList==eB.toList)=(a==[]):=bkB a []
def quoX (s:List UInt8):List UInt8:=34::(C0 E8 (X2 s)++[34])
def attP (a:XA):List UInt8:=32::(a.name++61::quoX a.value)
def attsP:List XA→List UInt8
  | []=>[]
  | a::r=>attP a++attsP r
def spcP (s sp:List UInt8):List UInt8:=if s=sp then [] else [32,120,109,108,110,115,61]++quoX s
theorem spcP_ne {s sp:List UInt8} (h:s≠sp):spcP s sp=[32,120,109,108,110,115,61]++quoX s:=if_neg h
theorem spcP_eq {s sp:List UInt8} (h:s=sp):spcP s sp=[]:=if_pos h
mutual
def prX (sp:List UInt8):XN→List UInt8
  | .mk s n ats l t=>if n=[] then X2 t else 60::n++spcP s sp++attsP ats++(if l.length=0 then [47,62] else 62::(prL s l++([60,47]++n++[62])))
def prL (sp:List UInt8):List XN→List UInt8
  | []=>[]
  | v::l=>prX sp v++prL sp l
end
theorem prL_nil (sp:List UInt8):prL sp []=[]:=by simp only [prL]
theorem prL_cons (sp:List UInt8) (v:XN) (l:List XN):prL sp (v::l)=prX sp v++prL sp l:=by simp only [prL]
theorem prL_app (sp:List UInt8):∀ (l m:List XN),prL sp (l++m)=prL sp l++prL sp m
  | [],m=>by rw [prL_nil]; rfl
  | v::l,m=>by rw [List.cons_append,prL_cons,prL_cons,prL_app sp l m,List.append_assoc]
theorem prL_take {sp:List UInt8} {l:List XN} {k:Nat} (h:k<l.length):prL sp (l.take (k+1))=prL sp (l.take k)++prX sp l[k]:=by
  rw [List.take_succ_eq_append_getElem h,prL_app,prL_cons,prL_nil,List.append_nil]
theorem attsP_app:∀ (l m:List XA),attsP (l++m)=attsP l++attsP m
  | [],m=>rfl
  | v::l,m=>by rw [List.cons_append,attsP,attsP,attsP_app l m,List.append_assoc]
theorem attsP_take {l:List XA} {k:Nat} (h:k<l.length):attsP (l.take (k+1))=attsP (l.take k)++attP l[k]:=by
  rw [List.take_succ_eq_append_getElem h,attsP_app]; show _++(attP l[k]++[])=_; rw [List.append_nil]
theorem prX_text {sp:List UInt8} {x:XN} (h:x.name=[]):prX sp x=X2 x.text:=by
  cases x with
  | mk s n ats l t=>cases h; simp only [prX]; rfl
def prH (sp:List UInt8) (x:XN):List UInt8:=60::x.name++spcP x.space sp
theorem prX_none {sp:List UInt8} {x:XN} (h:x.name≠[]) (hk:x.kids.length=0):prX sp x=prH sp x++attsP x.attrs++[47,62]:=by
  cases x with
  | mk s n ats l t=>simp only [prX]; exact (if_neg h).trans (by rw [if_pos (show l.length=0 from hk)]; rfl)
theorem prX_kids {sp:List UInt8} {x:XN} (h:x.name≠[]) (hk:¬ x.kids.length=0):prX sp x=prH sp x++attsP x.attrs++62::(prL x.space x.kids++([60,47]++x.name++[62])):=by
  cases x with
  | mk s n ats l t=>simp only [prX]; exact (if_neg h).trans (by rw [if_neg (show ¬ l.length=0 from hk)]; rfl)
theorem quoR_len6 (l:List UInt8):(C0 E8 l).length≤6 * l.length:=by
  induction l with
  | nil=>exact Nat.le_refl _
  | cons b l ih =>
    rw [V7,List.length_append,List.length_cons]
    have:((E8 b).getD [b]).length≤6:=by
      unfold E8
      split
      · show 5≤6; decide
      · split
        · show 4≤6; decide
        · show 1≤6; decide
    omega
theorem quoX_len (s:List UInt8):(quoX s).length≤144 * s.length+2:=by
  have h1:=html_len s
  have h2:=quoR_len6 (X2 s)
  unfold quoX
  rw [List.length_cons,List.length_append,List.length_cons,List.length_nil]; omega
theorem attP_len (a:XA):(attP a).length≤a.name.length+144 * a.value.length+4:=by
  have h:=quoX_len a.value
  unfold attP
  rw [List.length_cons,List.length_append,List.length_cons]; omega
theorem attsP_len:∀ l:List XA,(attsP l).length≤150 * wtA l
  | []=>Nat.le_refl _
  | a::r=>by
    have h1:=attP_len a
    have h2:=attsP_len r
    show (attP a++attsP r).length≤150 * (a.space.length+a.name.length+a.value.length+1+wtA r)
    rw [List.length_append]; omega
theorem spcP_len (s sp:List UInt8):(spcP s sp).length≤144 * s.length+9:=by
  have h:=quoX_len s
  unfold spcP
  split
  · exact Nat.zero_le _
  · rw [List.length_append]; simp only [List.length_cons,List.length_nil]; omega
mutual
theorem prX_len:∀ (sp:List UInt8) (x:XN),(prX sp x).length≤150 * wtX x
  | sp,.mk s n ats l t=>by
    have h1:=html_len t
    have h2:=spcP_len s sp
    have h3:=attsP_len ats
    have h4:=prL_len s l
    rw [wtX_eq]
    simp only [prX]
    split
    · omega
    · split <;> (simp only [List.length_append,List.length_cons,List.length_nil]; omega)
theorem prL_len:∀ (sp:List UInt8) (l:List XN),(prL sp l).length≤150 * wtXL l
  | sp,[]=>by rw [prL_nil]; exact Nat.zero_le _
  | sp,v::l=>by
    have h1:=prX_len sp v
    have h2:=prL_len sp l
    rw [prL_cons,N7,List.length_append]; omega
end
theorem wtA_take:∀ (l:List XA) (i:Nat),wtA (l.take i)≤wtA l
  | [],i=>by rw [List.take_nil]; exact Nat.le_refl _
  | v::l,0=>by rw [List.take_zero]; exact Nat.zero_le _
  | v::l,i+1=>by
    rw [List.take_succ_cons]
    have:=wtA_take l i
    show v.space.length+v.name.length+v.value.length+1+wtA (l.take i)≤v.space.length+v.name.length+v.value.length+1+wtA l
    omega
end Go.Xml
namespace Go.Proofs.YtppgfiklmfoaeaaGreatDoor
open Go.Sw Go.Sha Go.Esc Go.RowKit Go.Json Go.Xml
theorem xplain_ (l:List UInt8) (hl:l.length≤1000000) (W0:World) (H:List Grp) (hX:R2 W0):Tri Tryz.prog 117 #[.string (bk l)] W0 H (fun v H'=>v=.bool (plX l)∧H'=H):=by
 have hW:R5 W0:=hX.base
 refine D0 (args:=[.string (bk l)]) (n:=16) Tryz.func117 rfl rfl (Nat.le_of_ble_eq_true rfl) ?_
 refine A1 (C3 (E':=[⟨0,[],.string (bk l)⟩]) [0] [0] (k:=?_))
 refine A0 (A1 ?_)
 refine A3 (A4 (j:=1) [0] (k:=?_))
 refine M5 Tryz.func59 (valid_ (bk l) (by rw [D9]; omega) _ _ hW) (A4 (j:=4) [0,0] (k:=?_))
 refine J7 (ch:=[(5,true)]) (f:=60) (fst:=#[]) (caps:=#[]) (vs:=[.string (bk l)]) (v:=.string (bk (I6 l))) (hf:=Tryz.func60) (hc:=(fun hc=>plain_ (bk l) (by rw [D9]; omega) _ _)) (k:=A4 (j:=10) [0,0,6,0,0] (k:=?_))
 refine J7 (ch:=[(11,true)]) (f:=143) (fst:=#[]) (caps:=#[]) (vs:=[.string (bk l),.string (mB #[13])]) (v:=.bool ((idxL [13] l).isSome)) (hf:=Tryz.func143) (hc:=(fun hc=>hasW [13] l (by omega) _ _ hX)) (k:=B1 [0,6,0] [2] (k:=?_))
 refine A0 (C5 ?_)
 refine B9 [.tmp 2] [.bool (((N1 l)&&((bk (I6 l)).toList==(bk l).toList))&&(!((idxL [13] l).isSome)))] (k:=?_)
 exact ⟨by unfold plX; rw [bkB]; try rfl,rfl⟩
theorem xquoted_ (l:List UInt8) (hl:l.length≤80000) (W0:World) (H:List Grp):Tri Tryz.prog 120 #[.string (bk l)] W0 H (fun v H'=>v=.string (bk (quoX l))∧H'=H):=by
 have hps:(bk (X2 l)).size≤2000000:=by have:=html_len l; rw [D9]; omega
 have hqz:(bk (C0 E8 (X2 l))).size≤12000000:=by have:=html_len l; have:=quoR_len6 (X2 l); rw [D9]; omega
 have hq1:(mB #[34]).size=1:=rfl
 refine D0 (args:=[.string (bk l)]) (n:=10) Tryz.func120 rfl rfl (Nat.le_of_ble_eq_true rfl) ?_
 refine A1 (C3 (E':=[⟨0,[],.string (bk l)⟩]) [0] [0] (k:=?_))
 refine A0 (A1 ?_)
 refine A3 (D5 (ch:=[]) (e:=9) (l:=[(0,.string (mB #[10])),(1,.string (mB #[38,35,49,48,59])),(2,.string (mB #[9])),(3,.string (mB #[38,35,57,59]))]) (c:=[.string (mB #[10]),.string (mB #[38,35,49,48,59]),.string (mB #[9]),.string (mB #[38,35,57,59])]) (k:=(fun b1=>?_)))
 refine E7 Tryz.func148 (newRepQ_ b1 _ _) ?_
 rintro _ _ ⟨rb,ra,rcap,rg,rfl,hOwn,rfl⟩
 have hRT:Rd (inG rg) ra quoT:=by
  obtain ⟨a2,c2,e,_,h⟩:=hOwn.shape
  injection e with e1; subst e1; exact h
 refine A4 (j:=3) [0] (k:=M5 Tryz.func119 (html_ (bk l) (by rw [D9]; omega) _ _) ?_)
 refine E7 Tryz.func149 (repReplaceQ_ rb ra rcap rg hRT (bk (X2 l)) (bk (C0 E8 (X2 l))) (fun c aT cT gT a10 c10 g10 a9 c9 g9 W1 H1 hT hR=>tabReplaceQ_ c c10 c9 aT cT gT a10 a9 g10 g9 (bk (X2 l)) hps hT hR W1 H1) _ _) ?_
 rintro _ _ ⟨rfl,rfl⟩
 refine I9 (ch:=[]) (s:=(mB #[34])) (u:=(bk (C0 E8 (X2 l)))) (hb:=(by intro _; (try rw [I3]); omega)) (k:=I9 (ch:=[]) (s:=(mB #[34])++(bk (C0 E8 (X2 l)))) (u:=(mB #[34])) (hb:=(by intro _; (try rw [I3]); omega)) (k:=?_))
 refine B1 [0] [2] (k:=A0 ?_)
 refine C5 (C1 (H':=H) (fun w h=>(h.erase 0)) ?_)
 refine B9 [.tmp 2] [.string (((mB #[34])++(bk (C0 E8 (X2 l))))++(mB #[34]))] (k:=?_)
 exact ⟨congrArg Value.string (ByteArray.ext (Array.ext' (by unfold quoX; simp only [J4]; rfl))),rfl⟩
end Go.Proofs.YtppgfiklmfoaeaaGreatDoor
namespace Go.Proofs.YtppgfiklmfoaeaaGreatDoor
open Go.Sw Go.Sha Go.Esc Go.RowKit Go.Json Go.Xml
theorem xall_ (x:XN) (an:Option Addr) (cn:Nat) (al:Option Addr) (cl:Nat) (cs:List Value) (S:Nat→Obj→Prop) (_:Rd S an (xaV x.attrs)) (hrl:Rd S al cs) (hrc:XRdL S x.kids cs) (sp nm:List UInt8) (hw:wtX x≤100000000) (W0:World) (H:List Grp) (hS:∀ y o,S y o→At W0 H y o):Tri Tryz.prog 37 #[.agg #[.string (bk x.space),.string (bk x.name),.slice an x.attrs.length cn,.slice al x.kids.length cl,.string (bk x.text)],.string (bk sp),.string (bk nm)] W0 H (fun v H'=>∃ a c g co,v=.slice a (allX x sp nm).length c∧Go.Sw.Own 55 5 (.slice a (allX x sp nm).length c) g (allX x sp nm).length co∧XRdL S (allX x sp nm) co∧H'=g::H):=by
 have hpx:=S1 x
 refine D0 (args:=[.agg #[.string (bk x.space),.string (bk x.name),.slice an x.attrs.length cn,.slice al x.kids.length cl,.string (bk x.text)],.string (bk sp),.string (bk nm)]) (n:=38) Tryz.func37 rfl rfl (Nat.le_of_ble_eq_true rfl) ?_
 refine A1 (A3 ?_)
 refine T1 (ch:=[]) (v:=.agg #[.string (bk x.space),.string (bk x.name),.slice an x.attrs.length cn,.slice al x.kids.length cl,.string (bk x.text)]) (k:=(fun b1=>?_))
 refine B1 [0] [1,2,3] (k:=A0 ?_)
 refine A1 (G_p [0] [1,2,3,7] (k:=?_))
 refine A0 (A1 ?_)
 refine A1 (A3 ?_)
 refine A4 (j:=1) [0] (k:=A6 (ch:=[]) (b:=b1) (off:=3) (v:=.slice al x.kids.length cl) (hA:=At.grp 0 0 rfl rfl) (k:=?_))
 refine B1 [0,0] [1,2,7,11,12,13] (k:=A0 ?_)
 refine B8 (G_heap (H':=([]::[(b1,.cells #[.string (bk x.space),.string (bk x.name),.slice an x.attrs.length cn,.slice al x.kids.length cl,.string (bk x.text)] 55 (0,0))]::H)) (fun w h=>h.flat (List.Perm.refl _)) ?_)
 refine L4 (EI:=(fun ξ:Nat × Nat × Option Addr × Nat × Grp × List Value=>[⟨1,[],.string (bk sp)⟩,⟨2,[],.string (bk nm)⟩,⟨7,[],.slice ξ.2.2.1 ξ.2.1 ξ.2.2.2.1⟩,⟨11,[],.slice al x.kids.length cl⟩,⟨12,[],.int .i64 ((x.kids.length:Nat):Int)⟩,⟨13,[],.int .i64 ((ξ.1:Nat):Int)⟩])) (HI:=(fun ξ:Nat × Nat × Option Addr × Nat × Grp × List Value=>(ξ.2.2.2.2.1::[(b1,.cells #[.string (bk x.space),.string (bk x.name),.slice an x.attrs.length cn,.slice al x.kids.length cl,.string (bk x.text)] 55 (0,0))]::H))) (Φ:=(fun ξ:Nat × Nat × Option Addr × Nat × Grp × List Value=>(ξ.1≤x.kids.length)∧(Go.Sw.Own 55 5 (.slice ξ.2.2.1 ξ.2.1 ξ.2.2.2.1) ξ.2.2.2.2.1 ξ.2.1 ξ.2.2.2.2.2)∧(ξ.2.1=((x.kids.take ξ.1).filter (kidX sp nm)).length)∧(ξ.2.1≤ξ.1)∧(XRdL S ((x.kids.take ξ.1).filter (kidX sp nm)) ξ.2.2.2.2.2))) (μ:=(fun ξ:Nat × Nat × Option Addr × Nat × Grp × List Value=>x.kids.length - ξ.1)) (s0:=(0,0,none,0,[],[])) [1,2,7,11,12,13] kr kr ⟨(Nat.zero_le _),Go.Sw.Own.nil,rfl,(Nat.le_refl _),.nil⟩ ?_
 rintro ⟨k,no,oa,oc,og,co⟩ ⟨hkl,hO,hno,hnk,hco⟩
 dsimp only at hkl hO hno hnk hco
 refine A1 (G_p [0] [1,2,7,11,12,13,14] (k:=?_))
 refine A0 (A1 ?_)
 refine B7 (b:=decide (((k:Nat):Int)<((x.kids.length:Nat):Int))) kr (fun hc2=>?_) (fun hc2=>?_)
 ·
  have hk:k<x.kids.length:=by have:=hc2; simp only [decide_eq_true_eq] at this; omega
  obtain ⟨y,yan,ycn,yal,ycl,ycs,hyx,hye,hya,hyl,hyc,hycn⟩:=hrc.get hk
  have hyw:wtX y<wtX x:=by rw [hyx]; exact wtX_kid hk
  refine B4 (A0 ?_)
  refine A1 (B8 ?_)
  refine A1 (A3 ?_)
  refine A9 (ch:=[]) (a:=al) (len:=x.kids.length) (cap:=cl) (kd:=.i64) (j:=((k:Nat):Int)) (e:=55) (sz:=5) (S:=S) (cs:=cs) (hrd:=hrl) (hb:=(fun _=>by exact ⟨by omega,by omega,by intro h; have h2:=congrArg List.length h; rw [hrc.len] at h2; simp only [List.length_nil] at h2; omega⟩)) (k:=L0 (ch:=[]) (a:=al) (q:=k * 5) (S:=S) (cs:=cs) (l:=[.string (bk y.space),.string (bk y.name),.slice yan y.attrs.length ycn,.slice yal y.kids.length ycl,.string (bk y.text)]) (hrd:=hrl) (hS:=(fun y o h=>At.cons (At.cons ((hS y o h))))) (hl:=List.cons_ne_nil _ _) (hv:=(fun _=>(elt5 hye))) (k:=?_))
  refine H5 (ch:=[]) (z:=.agg zN.toArray) (k:=(fun b3=>?_))
  refine E2 (ch:=[]) (b:=b3) (off:=0) (v:=.agg #[.string (bk y.space),.string (bk y.name),.slice yan y.attrs.length ycn,.slice yal y.kids.length ycl,.string (bk y.text)]) (j:=0) ([(b3,.cells #[.string (bk y.space),.string (bk y.name),.slice yan y.attrs.length ycn,.slice yal y.kids.length ycl,.string (bk y.text)] 55 (0,0))]::og::[(b1,.cells #[.string (bk x.space),.string (bk x.name),.slice an x.attrs.length cn,.slice al x.kids.length cl,.string (bk x.text)] 55 (0,0))]::H) (hoff:=Nat.le_of_ble_eq_true rfl) (hfz:=(fun _ _=>E0)) (k:=B1 [] [1,2,7,9,11,12,13] (k:=?_))
  refine A0 (A1 ?_)
  refine A3 (A4 (j:=1) [0] (k:=?_))
  refine A6 (ch:=[]) (b:=b3) (off:=1) (v:=.string (bk y.name)) (hA:=At.grp 0 0 rfl rfl) (k:=A4 (j:=5) [0,0,0] (k:=?_))
  refine A6 (ch:=[(20,true)]) (b:=b3) (off:=0) (v:=.string (bk y.space)) (hA:=At.grp 0 0 rfl rfl) (k:=A4 (j:=11) [0,0,6,0,0] (k:=?_))
  refine A6 (ch:=[(26,true)]) (b:=b3) (off:=1) (v:=.string (bk y.name)) (hA:=At.grp 0 0 rfl rfl) (k:=B1 [0,0,6] [1,2,7,9,11,12,13,31] (k:=?_))
  refine A0 (B7 (b:=((!((bk y.name).toList==eB.toList))&&((bk y.space).toList==(bk sp).toList))&&((bk y.name).toList==(bk nm).toList)) kr (fun hc4=>?_) (fun hc4=>?_))
  ·
   have hky:kidX sp nm y=true:=by have h9:=hc4; unfold kidX; rw [bkB y.space sp,bkB y.name nm,show ((bk y.name).toList==eB.toList)=(y.name==[]) from bkB y.name []] at h9; exact h9
   refine A3 (A4 (j:=1) [0] (k:=?_))
   refine I5 (ch:=[]) (b:=b3) (off:=0) (l:=[.string (bk y.space),.string (bk y.name),.slice yan y.attrs.length ycn,.slice yal y.kids.length ycl,.string (bk y.text)]) (hA:=At.grp 0 0 rfl rfl) (k:=D5 (ch:=[]) (e:=55) (l:=[(0,.agg #[.string (bk y.space),.string (bk y.name),.slice yan y.attrs.length ycn,.slice yal y.kids.length ycl,.string (bk y.text)])]) (c:=[.string (bk y.space),.string (bk y.name),.slice yan y.attrs.length ycn,.slice yal y.kids.length ycl,.string (bk y.text)]) (k:=(fun b5=>?_)))
   refine G4 (i:=3) (ch:=[]) (t:=53) (tx:=53) (e:=55) (inf:=Tryz.t55) (s:=.slice oa no oc) (x:=.slice (some ⟨b5,0,none⟩) 1 1) (n:=no) (m:=1) (j:=2) (cs:=co) (news:=[.string (bk y.space),.string (bk y.name),.slice yan y.attrs.length ycn,.slice yal y.kids.length ycl,.string (bk y.text)]) (g:=og) (S:=(inG [(b5,.cells #[.string (bk y.space),.string (bk y.name),.slice yan y.attrs.length ycn,.slice yal y.kids.length ycl,.string (bk y.text)] 55 (0,0))])) rfl rfl rfl rfl kr kr kr rfl rfl (.inl ⟨55,kr⟩) (fun ⟨_,h⟩=>by cases h) (fun _=>⟨55,kr⟩) kr kr kr rfl hO (SrcOf.slice _ _ _ _ Rd.lit (fun h=>by cases h)) (D4 0 rfl) kr (by intro u hu; simp only [List.mem_cons,List.not_mem_nil,or_false] at hu; rcases hu with rfl | rfl | rfl | rfl | rfl <;> rfl) (by omega) (by show (no+1) * 96≤140737488355328; omega) (fun v6 g7 hO8=>?_)
   obtain ⟨a9,cap10,rfl,hcap11,hrd12⟩:=hO8.shape
   refine B1 [0] [1,2,7,11,12,13] (k:=C6 ?_)
   refine A0 (A3 ?_)
   refine A4 (j:=1) [0] (k:=F6 36 (((k:Nat):Int)+1) (by omega) (by omega) kr ?_)
   refine B1 [0] [1,2,7,11,12,13] (k:=C1 (H':=(g7::[(b1,.cells #[.string (bk x.space),.string (bk x.name),.slice an x.attrs.length cn,.slice al x.kids.length cl,.string (bk x.text)] 55 (0,0))]::H)) (fun w h=>((h.erase 1).erase 0)) ?_)
   refine E9 (s':=((k+1),(no+1),a9,cap10,g7,(co++xvC y yan ycn yal ycl))) [1,2,7,11,12,13] kr kr ⟨(by dsimp only; omega),hO8,(by dsimp only; rw [X3 hk,← hyx,hky]; simp only [if_true,List.length_append,List.length_cons,List.length_nil]; omega),(by dsimp only; omega),(by dsimp only; rw [X3 hk,← hyx,hky]; exact hco.snoc (XRd.of hycn hya hyl hyc))⟩ (by dsimp only; omega)
  ·
   have hky:kidX sp nm y=false:=by have h9:=hc4; unfold kidX; rw [bkB y.space sp,bkB y.name nm,show ((bk y.name).toList==eB.toList)=(y.name==[]) from bkB y.name []] at h9; exact h9
   refine B4 (C6 ?_)
   refine A0 (A3 ?_)
   refine A4 (j:=1) [0] (k:=F6 36 (((k:Nat):Int)+1) (by omega) (by omega) kr ?_)
   refine B1 [0] [1,2,7,11,12,13] (k:=C1 (H':=(og::[(b1,.cells #[.string (bk x.space),.string (bk x.name),.slice an x.attrs.length cn,.slice al x.kids.length cl,.string (bk x.text)] 55 (0,0))]::H)) (fun w h=>(h.erase 0)) ?_)
   refine E9 (s':=((k+1),no,oa,oc,og,co)) [1,2,7,11,12,13] kr kr ⟨(by dsimp only; omega),hO,(by dsimp only; rw [X3 hk,← hyx,hky]; simp only [Bool.false_eq_true,if_false,List.append_nil]; exact hno),(by dsimp only; omega),(by dsimp only; rw [X3 hk,← hyx,hky]; simp only [Bool.false_eq_true,if_false,List.append_nil]; exact hco)⟩ (by dsimp only; omega)
 ·
  have hk:x.kids.length≤k:=by have:=hc2; simp only [decide_eq_false_iff_not] at this; omega
  have hall:x.kids.take k=x.kids:=List.take_of_length_le hk
  rw [hall] at hno hco
  refine H7 (B0 ?_)
  refine B0 (C7 ?_)
  refine A0 (A1 ?_)
  refine C3 (E':=[⟨6,[],.slice oa no oc⟩]) [0,0] [6] (k:=A0 ?_)
  refine C5 (C1 (H':=(og::H)) (fun w h=>(h.erase 1)) ?_)
  refine B9 [.tmp 6] [.slice oa no oc] (k:=?_)
  subst hno; exact ⟨_,_,_,_,rfl,hO,hco,rfl⟩
theorem xfind_ (x:XN) (an:Option Addr) (cn:Nat) (al:Option Addr) (cl:Nat) (cs:List Value) (S:Nat→Obj→Prop) (hra:Rd S an (xaV x.attrs)) (hrl:Rd S al cs) (hrc:XRdL S x.kids cs) (sp nm:List UInt8) (hw:wtX x≤100000000) (W0:World) (H:List Grp) (hS:∀ y o,S y o→At W0 H y o):Tri Tryz.prog 39 #[.agg #[.string (bk x.space),.string (bk x.name),.slice an x.attrs.length cn,.slice al x.kids.length cl,.string (bk x.text)],.string (bk sp),.string (bk nm)] W0 H (fun v H'=>(((allX x sp nm)=[]∧v=.tuple #[.agg #[.string (bk []),.string (bk []),.slice none 0 0,.slice none 0 0,.string (bk [])],.bool false])∨∃ y l yan ycn yal ycl ycs,(allX x sp nm)=y::l∧v=.tuple #[.agg #[.string (bk y.space),.string (bk y.name),.slice yan y.attrs.length ycn,.slice yal y.kids.length ycl,.string (bk y.text)],.bool true]∧Rd S yan (xaV y.attrs)∧Rd S yal ycs∧XRdL S y.kids ycs∧y.attrs.length≤ycn)∧H'=H):=by
 refine D0 (args:=[.agg #[.string (bk x.space),.string (bk x.name),.slice an x.attrs.length cn,.slice al x.kids.length cl,.string (bk x.text)],.string (bk sp),.string (bk nm)]) (n:=20) Tryz.func39 rfl rfl (Nat.le_of_ble_eq_true rfl) ?_
 refine A1 (A3 ?_)
 refine T1 (ch:=[]) (v:=.agg #[.string (bk x.space),.string (bk x.name),.slice an x.attrs.length cn,.slice al x.kids.length cl,.string (bk x.text)]) (k:=(fun b1=>?_))
 refine H5 (ch:=[]) (z:=.agg zN.toArray) (k:=(fun b2=>?_))
 refine B1 [0] [1,2,3,6] (k:=A0 ?_)
 refine A1 (A3 ?_)
 refine I5 (ch:=[]) (b:=b1) (off:=0) (l:=[.string (bk x.space),.string (bk x.name),.slice an x.attrs.length cn,.slice al x.kids.length cl,.string (bk x.text)]) (hA:=At.grp 1 0 rfl rfl) (k:=A4 (j:=3) [0,0] (k:=?_))
 refine E7 Tryz.func37 (xall_ x an cn al cl cs S hra hrl hrc sp nm hw _ _ (fun y o h=>At.cons (At.cons ((hS y o h))))) ?_
 rintro _ _ ⟨oa,oc,og,co,rfl,hO,hco,rfl⟩
 refine B1 [0] [6,8] (k:=A0 ?_)
 refine A1 (A1 ?_)
 refine G_p [0,0,0] [6,8,15] (k:=A0 ?_)
 refine B7 (b:=(((allX x sp nm).length:Nat):Int)==0) kr (fun hc3=>?_) (fun hc3=>?_)
 ·
  have h0:(allX x sp nm)=[]:=List.eq_nil_of_length_eq_zero (by have:=hc3; simp only [beq_iff_eq] at this; omega)
  refine A1 (A3 ?_)
  refine A4 (j:=1) [0] (k:=E2 (ch:=[]) (b:=b2) (off:=0) (v:=.agg zN.toArray) (j:=1) (og::[(b2,.cells zN.toArray 55 (0,0))]::[(b1,.cells #[.string (bk x.space),.string (bk x.name),.slice an x.attrs.length cn,.slice al x.kids.length cl,.string (bk x.text)] 55 (0,0))]::H) (hoff:=Nat.le_of_ble_eq_true rfl) (hfz:=(fun _ _=>E0)) (k:=?_))
  refine B5 (E':=[⟨6,[],pt b2⟩,⟨7,[],.bool false⟩]) [0] [6,7] (k:=A0 ?_)
  refine C5 (B2 ?_)
  refine Q6 [.cell 6 55,.tmp 7] [.agg zN.toArray,.bool false] rfl (.cons (.agg (b:=b2) (off:=0) (l:=zN) kr kr kr (At.grp 1 0 rfl rfl) kr) (.cons (.tmp kr) (.nil))) rfl ⟨H,?_,fun w h=>(((h.erase 2).erase 1).erase 0)⟩
  exact ⟨.inl ⟨h0,rfl⟩,rfl⟩
 ·
  have h0:0<(allX x sp nm).length:=by have:=hc3; simp only [beq_eq_false_iff_ne,ne_eq] at this; omega
  obtain ⟨y,yan,ycn,yal,ycl,ycs,hyx,hye,hya,hyl,hyc,hycn⟩:=hco.get h0
  have hal:(allX x sp nm)=y::(allX x sp nm).drop 1:=by rw [hyx]; exact (L7 h0)
  refine B4 (A0 ?_)
  refine A1 (A3 ?_)
  refine A4 (j:=1) [0] (k:=A9 (ch:=[]) (a:=oa) (len:=(allX x sp nm).length) (cap:=oc) (kd:=.i64) (j:=0) (e:=55) (sz:=5) (S:=(inG og)) (cs:=co) (hrd:=K7 hO) (hb:=(fun _=>by exact ⟨by omega,by omega,by intro h; have h2:=congrArg List.length h; rw [hco.len] at h2; simp only [List.length_nil] at h2; omega⟩)) (k:=?_))
  refine L0 (ch:=[]) (a:=oa) (q:=0 * 5) (S:=(inG og)) (cs:=co) (l:=[.string (bk y.space),.string (bk y.name),.slice yan y.attrs.length ycn,.slice yal y.kids.length ycl,.string (bk y.text)]) (hrd:=K7 hO) (hS:=D4 0 rfl) (hl:=List.cons_ne_nil _ _) (hv:=(fun _=>(elt5 hye))) (k:=E2 (ch:=[]) (b:=b2) (off:=0) (v:=.agg #[.string (bk y.space),.string (bk y.name),.slice yan y.attrs.length ycn,.slice yal y.kids.length ycl,.string (bk y.text)]) (j:=1) (og::[(b2,.cells #[.string (bk y.space),.string (bk y.name),.slice yan y.attrs.length ycn,.slice yal y.kids.length ycl,.string (bk y.text)] 55 (0,0))]::[(b1,.cells #[.string (bk x.space),.string (bk x.name),.slice an x.attrs.length cn,.slice al x.kids.length cl,.string (bk x.text)] 55 (0,0))]::H) (hoff:=Nat.le_of_ble_eq_true rfl) (hfz:=(fun _ _=>E0)) (k:=?_))
  refine B5 (E':=[⟨6,[],pt b2⟩,⟨7,[],.bool true⟩]) [0] [6,7] (k:=A0 ?_)
  refine C5 (Q6 [.cell 6 55,.tmp 7] [.agg #[.string (bk y.space),.string (bk y.name),.slice yan y.attrs.length ycn,.slice yal y.kids.length ycl,.string (bk y.text)],.bool true] rfl (.cons (.agg (b:=b2) (off:=0) (l:=[.string (bk y.space),.string (bk y.name),.slice yan y.attrs.length ycn,.slice yal y.kids.length ycl,.string (bk y.text)]) kr kr kr (At.grp 1 0 rfl rfl) kr) (.cons (.tmp kr) (.nil))) rfl ⟨H,?_,fun w h=>(((h.erase 2).erase 1).erase 0)⟩)
  exact ⟨.inr ⟨y,_,yan,ycn,yal,ycl,ycs,hal,rfl,hya,hyl,hyc,hycn⟩,rfl⟩
theorem xvalue_ (x:XN) (an:Option Addr) (cn:Nat) (al:Option Addr) (cl:Nat) (cs:List Value) (S:Nat→Obj→Prop) (hra:Rd S an (xaV x.attrs)) (_:Rd S al cs) (_:XRdL S x.kids cs) (nm:List UInt8) (hw:wtX x≤100000000) (W0:World) (H:List Grp) (hS:∀ y o,S y o→At W0 H y o):Tri Tryz.prog 40 #[.agg #[.string (bk x.space),.string (bk x.name),.slice an x.attrs.length cn,.slice al x.kids.length cl,.string (bk x.text)],.string (bk nm)] W0 H (fun v H'=>v=.string (bk (vlX x.attrs nm))∧H'=H):=by
 have hpx:=S1 x
 refine D0 (args:=[.agg #[.string (bk x.space),.string (bk x.name),.slice an x.attrs.length cn,.slice al x.kids.length cl,.string (bk x.text)],.string (bk nm)]) (n:=26) Tryz.func40 rfl rfl (Nat.le_of_ble_eq_true rfl) ?_
 refine A1 (A3 ?_)
 refine T1 (ch:=[]) (v:=.agg #[.string (bk x.space),.string (bk x.name),.slice an x.attrs.length cn,.slice al x.kids.length cl,.string (bk x.text)]) (k:=(fun b1=>?_))
 refine B1 [0] [1,2] (k:=A0 ?_)
 refine A1 (A1 ?_)
 refine A3 (A4 (j:=1) [0] (k:=?_))
 refine A6 (ch:=[]) (b:=b1) (off:=2) (v:=.slice an x.attrs.length cn) (hA:=At.grp 0 0 rfl rfl) (k:=B1 [0,0] [1,8,9,10] (k:=?_))
 refine A0 (B8 ?_)
 refine L4 (EI:=(fun ξ:Nat=>[⟨1,[],.string (bk nm)⟩,⟨8,[],.slice an x.attrs.length cn⟩,⟨9,[],.int .i64 ((x.attrs.length:Nat):Int)⟩,⟨10,[],.int .i64 ((ξ:Nat):Int)⟩])) (HI:=(fun ξ:Nat=>([(b1,.cells #[.string (bk x.space),.string (bk x.name),.slice an x.attrs.length cn,.slice al x.kids.length cl,.string (bk x.text)] 55 (0,0))]::H))) (Φ:=(fun ξ:Nat=>(ξ≤x.attrs.length)∧(vlX x.attrs nm=vlX (x.attrs.drop ξ) nm))) (μ:=(fun ξ:Nat=>x.attrs.length - ξ)) (s0:=(0)) [1,8,9,10] kr rfl ⟨(Nat.zero_le _),rfl⟩ ?_
 rintro k ⟨hkl,hT⟩
 try dsimp only at hkl hT
 refine A1 (G_p [0] [1,8,9,10,11] (k:=?_))
 refine A0 (A1 ?_)
 refine B7 (b:=decide (((k:Nat):Int)<((x.attrs.length:Nat):Int))) kr (fun hc2=>?_) (fun hc2=>?_)
 ·
  have hk:k<x.attrs.length:=by have:=hc2; simp only [decide_eq_true_eq] at this; omega
  refine B4 (A0 ?_)
  refine A1 (B8 ?_)
  refine A1 (A3 ?_)
  refine A9 (ch:=[]) (a:=an) (len:=x.attrs.length) (cap:=cn) (kd:=.i64) (j:=((k:Nat):Int)) (e:=75) (sz:=3) (S:=S) (cs:=(xaV x.attrs)) (hrd:=hra) (hb:=(fun _=>by exact ⟨by omega,by omega,by intro h; have h2:=congrArg List.length h; rw [xaV_len] at h2; simp only [List.length_nil] at h2; omega⟩)) (k:=?_)
  obtain ⟨y,hy⟩:∃ y,y=x.attrs[k]'hk:=⟨_,rfl⟩
  refine L0 (ch:=[]) (a:=an) (q:=k * 3) (S:=S) (cs:=(xaV x.attrs)) (l:=[.string (bk y.space),.string (bk y.name),.string (bk y.value)]) (hrd:=hra) (hS:=(fun y o h=>At.cons ((hS y o h)))) (hl:=List.cons_ne_nil _ _) (hv:=(fun _=>(elt3 (by rw [hy]; exact xaV_at hk)))) (k:=H5 (ch:=[]) (z:=.agg #[.string eB,.string eB,.string eB]) (k:=(fun b3=>?_)))
  refine E2 (ch:=[]) (b:=b3) (off:=0) (v:=.agg #[.string (bk y.space),.string (bk y.name),.string (bk y.value)]) (j:=0) ([(b3,.cells #[.string (bk y.space),.string (bk y.name),.string (bk y.value)] 75 (0,0))]::[(b1,.cells #[.string (bk x.space),.string (bk x.name),.slice an x.attrs.length cn,.slice al x.kids.length cl,.string (bk x.text)] 55 (0,0))]::H) (hoff:=Nat.le_of_ble_eq_true rfl) (hfz:=(fun _ _=>E0)) (k:=B1 [] [1,6,8,9,10] (k:=?_))
  refine A0 (A1 ?_)
  refine A3 (A4 (j:=1) [0] (k:=?_))
  refine A6 (ch:=[]) (b:=b3) (off:=0) (v:=.string (bk y.space)) (hA:=At.grp 0 0 rfl rfl) (k:=A4 (j:=5) [0,0,0] (k:=?_))
  refine A6 (ch:=[(17,true)]) (b:=b3) (off:=1) (v:=.string (bk y.name)) (hA:=At.grp 0 0 rfl rfl) (k:=B1 [0,0,6] [1,6,8,9,10,22] (k:=?_))
  refine A0 (B7 (b:=((bk y.space).toList==eB.toList)&&((bk y.name).toList==(bk nm).toList)) kr (fun hc4=>?_) (fun hc4=>?_))
  ·
   have hvl:vlF nm y=true:=by have h9:=hc4; unfold vlF; rw [bkB y.name nm,show ((bk y.space).toList==eB.toList)=(y.space==[]) from bkB y.space []] at h9; exact h9
   refine A1 (A3 ?_)
   refine A4 (j:=1) [0] (k:=A6 (ch:=[]) (b:=b3) (off:=2) (v:=.string (bk y.value)) (hA:=At.grp 0 0 rfl rfl) (k:=?_))
   refine B5 (E':=[⟨4,[],.string (bk y.value)⟩]) [0] [4] (k:=A0 ?_)
   refine C5 (D6 ?_)
   refine B2 (B2 ?_)
   refine D6 (B2 ?_)
   refine C1 (H':=H) (fun w h=>((h.erase 1).erase 0)) (B9 [.tmp 4] [.string (bk y.value)] (k:=?_))
   exact ⟨by rw [hT,vl_step hk,← hy,hvl]; rfl,rfl⟩
  ·
   have hvl:vlF nm y=false:=by have h9:=hc4; unfold vlF; rw [bkB y.name nm,show ((bk y.space).toList==eB.toList)=(y.space==[]) from bkB y.space []] at h9; exact h9
   refine B4 (C6 ?_)
   refine A0 (A3 ?_)
   refine A4 (j:=1) [0] (k:=F6 25 (((k:Nat):Int)+1) (by omega) (by omega) kr ?_)
   refine B1 [0] [1,8,9,10] (k:=C1 (H':=([(b1,.cells #[.string (bk x.space),.string (bk x.name),.slice an x.attrs.length cn,.slice al x.kids.length cl,.string (bk x.text)] 55 (0,0))]::H)) (fun w h=>(h.erase 0)) ?_)
   refine E9 (s':=(k+1)) [1,8,9,10] kr rfl ⟨(by omega),(by rw [hT,vl_step hk,← hy,hvl]; rfl)⟩ (by omega)
 ·
  have hk:x.attrs.length≤k:=by have:=hc2; simp only [decide_eq_false_iff_not] at this; omega
  refine H7 (B0 ?_)
  refine B0 (C7 ?_)
  refine A0 (A1 ?_)
  refine C3 (E':=[⟨4,[],.string eB⟩]) [0] [4] (k:=A0 ?_)
  refine C5 (C1 (H':=H) (fun w h=>(h.erase 0)) ?_)
  refine B9 [.tmp 4] [.string eB] (k:=?_)
  exact ⟨by rw [hT,List.drop_eq_nil_of_le hk]; rfl,rfl⟩
theorem xinnerW_ (x:XN) (an:Option Addr) (cn:Nat) (al:Option Addr) (cl:Nat) (cs:List Value) (S:Nat→Obj→Prop) (_:Rd S an (xaV x.attrs)) (hrl:Rd S al cs) (hrc:XRdL S x.kids cs) (hw:wtX x≤100000000) (hrec:∀ (y:XN),wtX y<wtX x→wtX y≤100000000→∀ (an:Option Addr) (cn:Nat) (al:Option Addr) (cl:Nat) (cs:List Value),Rd S an (xaV y.attrs)→Rd S al cs→XRdL S y.kids cs→∀ (W0:World) (H:List Grp),(∀ z o,S z o→At W0 H z o)→Tri Tryz.prog 42 #[.agg (xvC y an cn al cl).toArray] W0 H (fun v H'=>v=.string (bk (innX y))∧H'=H)) (W0:World) (H:List Grp) (hS:∀ y o,S y o→At W0 H y o):Tri Tryz.prog 42 #[.agg #[.string (bk x.space),.string (bk x.name),.slice an x.attrs.length cn,.slice al x.kids.length cl,.string (bk x.text)]] W0 H (fun v H'=>v=.string (bk (innX x))∧H'=H):=by
 have hpx:=S1 x
 refine D0 (args:=[.agg #[.string (bk x.space),.string (bk x.name),.slice an x.attrs.length cn,.slice al x.kids.length cl,.string (bk x.text)]]) (n:=24) Tryz.func42 rfl rfl (Nat.le_of_ble_eq_true rfl) ?_
 refine A1 (A3 ?_)
 refine T1 (ch:=[]) (v:=.agg #[.string (bk x.space),.string (bk x.name),.slice an x.attrs.length cn,.slice al x.kids.length cl,.string (bk x.text)]) (k:=(fun b1=>?_))
 refine B5 (E':=[⟨1,[],pt b1⟩]) [0] [1] (k:=A0 ?_)
 refine A1 (A1 ?_)
 refine A3 (A4 (j:=1) [0] (k:=?_))
 refine A6 (ch:=[]) (b:=b1) (off:=1) (v:=.string (bk x.name)) (hA:=At.grp 0 0 rfl rfl) (k:=B1 [0] [1,8] (k:=?_))
 refine A0 (B7 (b:=(bk x.name).toList==eB.toList) kr (fun hc2=>?_) (fun hc2=>?_))
 ·
  have hn:x.name=[]:=(eqB _ _).1 hc2
  refine A1 (A3 ?_)
  refine A4 (j:=1) [0] (k:=A6 (ch:=[]) (b:=b1) (off:=4) (v:=.string (bk x.text)) (hA:=At.grp 0 0 rfl rfl) (k:=?_))
  refine B5 (E':=[⟨2,[],.string (bk x.text)⟩]) [0] [2] (k:=A0 ?_)
  refine C5 (B2 ?_)
  refine C1 (H':=H) (fun w h=>(h.erase 0)) (B9 [.tmp 2] [.string (bk x.text)] (k:=?_))
  exact ⟨by rw [innX_text hn]; try rfl,rfl⟩
 ·
  have hn:x.name≠[]:=(eqBf _ _).1 hc2
  refine B4 (A0 ?_)
  refine A1 (G_p [0] [1,3] (k:=?_))
  refine A0 (A1 ?_)
  refine A1 (A3 ?_)
  refine A4 (j:=1) [0] (k:=A6 (ch:=[]) (b:=b1) (off:=3) (v:=.slice al x.kids.length cl) (hA:=At.grp 0 0 rfl rfl) (k:=?_))
  refine B1 [0,0] [3,12,13,14] (k:=A0 ?_)
  refine B8 (G_env (E':=[⟨3,[],.string eB⟩,⟨12,[],.slice al x.kids.length cl⟩,⟨13,[],.int .i64 ((x.kids.length:Nat):Int)⟩,⟨14,[],.int .i64 0⟩]) kr ?_)
  have hi0:eB=bk (innL (x.kids.take 0)):=by rw [List.take_zero,innL_nil]
  refine G_env (E':=[⟨3,[],.string (bk (innL (x.kids.take 0)))⟩,⟨12,[],.slice al x.kids.length cl⟩,⟨13,[],.int .i64 ((x.kids.length:Nat):Int)⟩,⟨14,[],.int .i64 0⟩]) (by rw [← hi0]) (L4 (EI:=(fun ξ:Nat=>[⟨3,[],.string (bk (innL (x.kids.take ξ)))⟩,⟨12,[],.slice al x.kids.length cl⟩,⟨13,[],.int .i64 ((x.kids.length:Nat):Int)⟩,⟨14,[],.int .i64 ((ξ:Nat):Int)⟩])) (HI:=(fun ξ:Nat=>([(b1,.cells #[.string (bk x.space),.string (bk x.name),.slice an x.attrs.length cn,.slice al x.kids.length cl,.string (bk x.text)] 55 (0,0))]::H))) (Φ:=(fun ξ:Nat=>(ξ≤x.kids.length))) (μ:=(fun ξ:Nat=>x.kids.length - ξ)) (s0:=(0)) [3,12,13,14] kr rfl (Nat.zero_le _) ?_)
  rintro k hkl
  refine A1 (G_p [0] [3,12,13,14,15] (k:=?_))
  refine A0 (A1 ?_)
  refine B7 (b:=decide (((k:Nat):Int)<((x.kids.length:Nat):Int))) kr (fun hc3=>?_) (fun hc3=>?_)
  ·
   have hk:k<x.kids.length:=by have:=hc3; simp only [decide_eq_true_eq] at this; omega
   obtain ⟨y,yan,ycn,yal,ycl,ycs,hyx,hye,hya,hyl,hyc,hycn⟩:=hrc.get hk
   have hyw:wtX y<wtX x:=by rw [hyx]; exact wtX_kid hk
   refine B4 (A0 ?_)
   refine A1 (B8 ?_)
   refine A1 (A3 ?_)
   refine A9 (ch:=[]) (a:=al) (len:=x.kids.length) (cap:=cl) (kd:=.i64) (j:=((k:Nat):Int)) (e:=55) (sz:=5) (S:=S) (cs:=cs) (hrd:=hrl) (hb:=(fun _=>by exact ⟨by omega,by omega,by intro h; have h2:=congrArg List.length h; rw [hrc.len] at h2; simp only [List.length_nil] at h2; omega⟩)) (k:=L0 (ch:=[]) (a:=al) (q:=k * 5) (S:=S) (cs:=cs) (l:=[.string (bk y.space),.string (bk y.name),.slice yan y.attrs.length ycn,.slice yal y.kids.length ycl,.string (bk y.text)]) (hrd:=hrl) (hS:=(fun y o h=>At.cons ((hS y o h)))) (hl:=List.cons_ne_nil _ _) (hv:=(fun _=>(elt5 hye))) (k:=?_))
   refine H5 (ch:=[]) (z:=.agg zN.toArray) (k:=(fun b4=>?_))
   refine E2 (ch:=[]) (b:=b4) (off:=0) (v:=.agg #[.string (bk y.space),.string (bk y.name),.slice yan y.attrs.length ycn,.slice yal y.kids.length ycl,.string (bk y.text)]) (j:=0) ([(b4,.cells #[.string (bk y.space),.string (bk y.name),.slice yan y.attrs.length ycn,.slice yal y.kids.length ycl,.string (bk y.text)] 55 (0,0))]::[(b1,.cells #[.string (bk x.space),.string (bk x.name),.slice an x.attrs.length cn,.slice al x.kids.length cl,.string (bk x.text)] 55 (0,0))]::H) (hoff:=Nat.le_of_ble_eq_true rfl) (hfz:=(fun _ _=>E0)) (k:=B1 [] [3,5,12,13,14] (k:=?_))
   refine A0 (A3 ?_)
   refine A4 (j:=1) [0] (k:=I5 (ch:=[]) (b:=b4) (off:=0) (l:=[.string (bk y.space),.string (bk y.name),.slice yan y.attrs.length ycn,.slice yal y.kids.length ycl,.string (bk y.text)]) (hA:=At.grp 0 0 rfl rfl) (k:=?_))
   refine M5 Tryz.func42 (hrec y hyw (by omega) yan ycn yal ycl ycs hya hyl hyc _ _ (fun y o h=>At.cons (At.cons ((hS y o h))))) (I9 (ch:=[]) (s:=(bk (innL (x.kids.take k)))) (u:=(bk (innX y))) (hb:=(by intro _; rw [D9,D9]; have h1:=innL_len (x.kids.take k); have h2:=wtXL_take x.kids k; have h3:=inn_len y; omega)) (k:=?_))
   refine F0 (E':=[⟨21,[],.string (bk (innL (x.kids.take (k+1))))⟩,⟨20,[],.string (bk (innX y))⟩,⟨19,[],.agg #[.string (bk y.space),.string (bk y.name),.slice yan y.attrs.length ycn,.slice yal y.kids.length ycl,.string (bk y.text)]⟩,⟨18,[],.string (bk (innL (x.kids.take k)))⟩,⟨3,[],.string (bk (innL (x.kids.take k)))⟩,⟨5,[],pt b4⟩,⟨12,[],.slice al x.kids.length cl⟩,⟨13,[],.int .i64 ((x.kids.length:Nat):Int)⟩,⟨14,[],.int .i64 ((k:Nat):Int)⟩]) (by have hz:([⟨21,[],.string ((bk (innL (x.kids.take k)))++(bk (innX y)))⟩,⟨20,[],.string (bk (innX y))⟩,⟨19,[],.agg #[.string (bk y.space),.string (bk y.name),.slice yan y.attrs.length ycn,.slice yal y.kids.length ycl,.string (bk y.text)]⟩,⟨18,[],.string (bk (innL (x.kids.take k)))⟩,⟨3,[],.string (bk (innL (x.kids.take k)))⟩,⟨5,[],pt b4⟩,⟨12,[],.slice al x.kids.length cl⟩,⟨13,[],.int .i64 ((x.kids.length:Nat):Int)⟩,⟨14,[],.int .i64 ((k:Nat):Int)⟩]:List Sl)=[⟨21,[],.string (bk (innL (x.kids.take (k+1))))⟩,⟨20,[],.string (bk (innX y))⟩,⟨19,[],.agg #[.string (bk y.space),.string (bk y.name),.slice yan y.attrs.length ycn,.slice yal y.kids.length ycl,.string (bk y.text)]⟩,⟨18,[],.string (bk (innL (x.kids.take k)))⟩,⟨3,[],.string (bk (innL (x.kids.take k)))⟩,⟨5,[],pt b4⟩,⟨12,[],.slice al x.kids.length cl⟩,⟨13,[],.int .i64 ((x.kids.length:Nat):Int)⟩,⟨14,[],.int .i64 ((k:Nat):Int)⟩]:=(by rw [bk_app,innL_take hk,← hyx]); exact Eq.trans kr hz) (B1 [0] [3,12,13,14] (k:=?_))
   refine C6 (A0 ?_)
   refine A3 (A4 (j:=1) [0] (k:=?_))
   refine F6 22 (((k:Nat):Int)+1) (by omega) (by omega) kr (B1 [0] [3,12,13,14] (k:=?_))
   refine C1 (H':=([(b1,.cells #[.string (bk x.space),.string (bk x.name),.slice an x.attrs.length cn,.slice al x.kids.length cl,.string (bk x.text)] 55 (0,0))]::H)) (fun w h=>(h.erase 0)) (E9 (s':=(k+1)) [3,12,13,14] kr rfl (by omega) (by omega))
  ·
   have hk:x.kids.length≤k:=by have:=hc3; simp only [decide_eq_false_iff_not] at this; omega
   refine H7 (B0 ?_)
   refine B0 (C7 ?_)
   refine A0 (A1 ?_)
   refine G_p [0,0] [2] (k:=A0 ?_)
   refine C5 (C1 (H':=H) (fun w h=>(h.erase 0)) ?_)
   refine B9 [.tmp 2] [.string (bk (innL (x.kids.take k)))] (k:=?_)
   exact ⟨by rw [innX_el hn,List.take_of_length_le hk]; try rfl,rfl⟩
theorem xinner_:∀ (n:Nat) (x:XN),wtX x≤n→wtX x≤100000000→∀ (an:Option Addr) (cn:Nat) (al:Option Addr) (cl:Nat) (cs:List Value) (S:Nat→Obj→Prop),Rd S an (xaV x.attrs)→Rd S al cs→XRdL S x.kids cs→∀ (W0:World) (H:List Grp),(∀ z o,S z o→At W0 H z o)→Tri Tryz.prog 42 #[.agg (xvC x an cn al cl).toArray] W0 H (fun v H'=>v=.string (bk (innX x))∧H'=H)
  | 0,x,h,_,_,_,_,_,_,_,_,_,_,_,_,_=>absurd (wtX_pos x) (by omega)
  | n+1,x,h,hd,an,cn,al,cl,cs,S,h1,h2,h3,W0,H,hS=>xinnerW_ x an cn al cl cs S h1 h2 h3 hd (fun y hy hdy an cn al cl cs h1 h2 h3 W0 H hS=>xinner_ n y (by omega) hdy an cn al cl cs S h1 h2 h3 W0 H hS) W0 H hS
end Go.Proofs.YtppgfiklmfoaeaaGreatDoor
namespace Go.Proofs.YtppgfiklmfoaeaaGreatDoor
open Go.Sw Go.Sha Go.Esc Go.RowKit Go.Json Go.Xml
theorem sameN_eq (x y:XA):((bk x.name).toList==(bk y.name).toList)=sameN x y:=bkB _ _
theorem xaV_take:∀ (l:List XA) (k:Nat),xaV (l.take k)=(xaV l).take (k * 3)
  | [],k=>by rw [List.take_nil]; show []=List.take _ []; rw [List.take_nil]
  | x::l,0=>by rw [List.take_zero,Nat.zero_mul,List.take_zero]; rfl
  | x::l,k+1=>by
    rw [List.take_succ_cons,xaV,xaV_take l k,xaV,List.take_append,List.take_of_length_le (show (xaC x).length≤_ by show 3≤_; omega)]
    congr 2
    show k * 3=(k+1) * 3 - 3; omega
theorem rd_take {S:Nat→Obj→Prop} {a:Option Addr} {cs:List Value} (h:Rd S a cs) (m:Nat):Rd S a (cs.take m):=by
  rcases h with h | ⟨b,off,c,e,fz,h1,h2,h3⟩
  · exact .inl (by simp [h])
  · refine .inr ⟨b,off,c,e,fz,h1,h2,fun j u hj=>?_⟩
    rw [List.getElem?_take] at hj
    split at hj
    · exact h3 _ _ hj
    · simp at hj
theorem lenN (n:List UInt8):((nmX n:Int) != ((bk n).size:Int))=!(nmX n==n.length):=by
  rw [D9,Bool.eq_iff_iff]; simp [bne]; omega
theorem right_eq (_:Int) (x:XN):((((((nmX x.name:Int) != ((bk x.name).size:Int))||((bk x.name).toList==eB.toList))||(!((bk x.text).toList==eB.toList)))||(!(plX x.space)))||(!(plX x.name)))=!(nmOk x.name&&x.text==[]&&plX x.space&&plX x.name):=by
  rw [bkN,bkN,lenN]; unfold nmOk
  cases (x.name==[]) <;> cases (nmX x.name==x.name.length) <;> cases (x.text==[]) <;> cases plX x.space <;> cases plX x.name <;> rfl
theorem right_no {d:Int} (lv:Nat) (x:XN) (hd:d=24 - (lv:Int)) (h:((((((((nmX x.name:Int) != ((bk x.name).size:Int))||((bk x.name).toList==eB.toList))||(!((bk x.text).toList==eB.toList)))||(!(plX x.space)))||(!(plX x.name)))||(decide (d ≥ 24))))=true):rtX lv x=false:=by
  rw [right_eq d x,Bool.or_eq_true] at h
  cases lv with
  | zero=>exact rtX_0 x
  | succ m =>
    rcases h with h | h
    · rw [Bool.not_eq_true'] at h; rw [rtX_s,h]; rfl
    · have:=of_decide_eq_true h; omega
theorem right_yes {d:Int} (lv:Nat) (x:XN) (hd:d=24 - (lv:Int)) (h:((((((((nmX x.name:Int) != ((bk x.name).size:Int))||((bk x.name).toList==eB.toList))||(!((bk x.text).toList==eB.toList)))||(!(plX x.space)))||(!(plX x.name)))||(decide (d ≥ 24))))=false):∃ m,lv=m+1∧rtX lv x=(attrsR [] x.attrs&&kidsR (rtX m) false x.kids):=by
  rw [right_eq d x,Bool.or_eq_false_iff] at h
  cases lv with
  | zero=>have:=of_decide_eq_false h.2; omega
  | succ m=>exact ⟨m,rfl,by have h1:=h.1; rw [Bool.not_eq_false'] at h1; rw [rtX_s,h1]; rfl⟩
theorem atF_eq (y:XA):((((((!((bk y.space).toList==eB.toList))||((bk y.name).toList==eB.toList))||((nmX y.name:Int) != ((bk y.name).size:Int)))||((bk y.name).toList==(mB #[120,109,108,110,115]).toList))||(!(plX y.value)))||(!(plX y.name)))=!atF y:=by
  rw [bkN,bkN,lenN,show ((bk y.name).toList==(mB #[120,109,108,110,115]).toList)=(y.name==xmlns) from bkB y.name xmlns]; unfold atF
  rw [Bool.not_not]
theorem kidF_eq {f:XN→Bool} {last:Bool} {y:XN} (hw:y.attrs.length+y.kids.length≤1000000):((((bk y.name).toList==eB.toList)&&((((last||((bk y.text).toList==eB.toList))||(!(plX y.text)))||(!((bk y.space).toList==eB.toList)))||(decide ((IntKind.wrap .i64 (((y.attrs.length:Nat):Int)+((y.kids.length:Nat):Int))) > 0))))||((!((bk y.name).toList==eB.toList))&&(!(f y))))=!kidF f last y:=by
  rw [bkN,bkN,bkN,show decide ((IntKind.wrap .i64 (((y.attrs.length:Nat):Int)+((y.kids.length:Nat):Int))) > 0)=decide (0<y.attrs.length+y.kids.length) from by rw [w64 (by omega) (by omega)]; exact decide_eq_decide.2 (by omega)]; unfold kidF
  rw [Bool.not_not]
theorem cutA_z (a:Option Addr) (cap sz:Nat):cutA a cap 0 sz=a:=by
  unfold cutA
  split
  · rfl
  · cases a with
    | none=>rfl
    | some a=>simp [Addr.add]
theorem anyN_take {l:List XA} {k:Nat} {f:XA→Bool} (h:k<l.length):(l.take (k+1)).any f=((l.take k).any f||f l[k]):=by
  rw [List.take_succ_eq_append_getElem h,List.any_append]; simp
theorem xsameN_ (y x:XA) (xb:Nat) (W0:World) (H:List Grp):Tri Tryz.prog 118 #[.agg #[.string (bk y.space),.string (bk y.name),.string (bk y.value)],pt xb] W0 ([(xb,.cells #[.string (bk x.space),.string (bk x.name),.string (bk x.value)] 75 (0,0))]::H) (fun v H'=>v=.bool (sameN x y)∧H'=([(xb,.cells #[.string (bk x.space),.string (bk x.name),.string (bk x.value)] 75 (0,0))]::H)):=by
 refine D0 (args:=[.agg #[.string (bk y.space),.string (bk y.name),.string (bk y.value)],pt xb]) (n:=9) Tryz.func118 rfl rfl (Nat.le_of_ble_eq_true rfl) ?_
 refine A1 (A3 ?_)
 refine T1 (ch:=[]) (v:=.agg #[.string (bk y.space),.string (bk y.name),.string (bk y.value)]) (k:=(fun b1=>?_))
 refine B5 (E':=[⟨1,[],pt xb⟩,⟨2,[],pt b1⟩]) [0] [1,2] (k:=A0 ?_)
 refine A1 (A3 ?_)
 refine A4 (j:=1) [0] (k:=A6 (ch:=[]) (b:=xb) (off:=1) (v:=.string (bk x.name)) (hA:=At.grp 1 0 rfl rfl) (k:=?_))
 refine A4 (j:=3) [0] (k:=A6 (ch:=[]) (b:=b1) (off:=1) (v:=.string (bk y.name)) (hA:=At.grp 0 0 rfl rfl) (k:=?_))
 refine B1 [0,0] [3] (k:=A0 ?_)
 refine C5 (C1 (H':=([(xb,.cells #[.string (bk x.space),.string (bk x.name),.string (bk x.value)] 75 (0,0))]::H)) (fun w h=>(h.erase 0)) ?_)
 refine B9 [.tmp 3] [.bool ((bk x.name).toList==(bk y.name).toList)] (k:=?_)
 exact ⟨congrArg Value.bool (sameN_eq x y),rfl⟩
theorem xindexN_ (out:List XA) (n0:Nat) (hn0:n0=out.length) (a:Option Addr) (c:Nat) (S:Nat→Obj→Prop) (hrd:Rd S a (xaV out)) (hol:out.length≤1000002) (x:XA) (xb:Nat) (W0:World) (H:List Grp) (hS:∀ y o,S y o→At W0 H y o):Tri Tryz.prog 146 #[.slice a n0 c,.func (.func 118) #[] #[pt xb]] W0 ([(xb,.cells #[.string (bk x.space),.string (bk x.name),.string (bk x.value)] 75 (0,0))]::H) (fun v H'=>∃ n:Int,v=.int .i64 n∧(out.any (sameN x)=decide (n ≥ 0))∧H'=([(xb,.cells #[.string (bk x.space),.string (bk x.name),.string (bk x.value)] 75 (0,0))]::H)):=by
 refine D0 (args:=[.slice a n0 c,.func (.func 118) #[] #[pt xb]]) (n:=19) Tryz.func146 rfl rfl (Nat.le_of_ble_eq_true rfl) ?_
 refine A1 (G_p [0] [0,1] (k:=?_))
 refine A0 (A1 ?_)
 refine A1 (G_p [0,0,0] [0,1,7,8] (k:=?_))
 refine A0 (B8 ?_)
 refine L4 (EI:=(fun ξ:Nat=>[⟨0,[],.slice a n0 c⟩,⟨1,[],.func (.func 118) #[] #[pt xb]⟩,⟨7,[],.int .i64 ((n0:Nat):Int)⟩,⟨8,[],.int .i64 ((ξ:Nat):Int)⟩])) (HI:=(fun ξ:Nat=>([(xb,.cells #[.string (bk x.space),.string (bk x.name),.string (bk x.value)] 75 (0,0))]::H))) (Φ:=(fun ξ:Nat=>(ξ≤out.length)∧((out.take ξ).any (sameN x)=false))) (μ:=(fun ξ:Nat=>out.length - ξ)) (s0:=(0)) [0,1,7,8] kr rfl ⟨(Nat.zero_le _),rfl⟩ ?_
 rintro k ⟨hkl,hno⟩
 try dsimp only at hkl hno
 refine A1 (G_p [0] [0,1,7,8,9] (k:=?_))
 refine A0 (A1 ?_)
 refine B7 (b:=decide (((k:Nat):Int)<((n0:Nat):Int))) kr (fun hc1=>?_) (fun hc1=>?_)
 ·
  have hk:k<out.length:=by have:=hc1; simp only [decide_eq_true_eq] at this; omega
  refine B4 (A0 ?_)
  refine A1 (B8 ?_)
  refine A1 (G_p [0,0] [0,1,5,7,8] (k:=?_))
  refine A0 (A1 ?_)
  refine A3 (A4 (j:=3) [0,0,0] (k:=?_))
  refine A9 (ch:=[]) (a:=a) (len:=n0) (cap:=c) (kd:=.i64) (j:=((k:Nat):Int)) (e:=75) (sz:=3) (S:=S) (cs:=(xaV out)) (hrd:=hrd) (hb:=(fun _=>by exact ⟨by omega,by omega,by intro h; have:=congrArg List.length h; rw [xaV_len] at this; simp only [List.length_nil] at this; omega⟩)) (k:=?_)
  obtain ⟨y,hy⟩:∃ y,y=out[k]'hk:=⟨_,rfl⟩
  refine L0 (ch:=[]) (a:=a) (q:=k * 3) (S:=S) (cs:=(xaV out)) (l:=[.string (bk y.space),.string (bk y.name),.string (bk y.value)]) (hrd:=hrd) (hS:=(fun y o h=>At.cons (hS y o h))) (hl:=List.cons_ne_nil _ _) (hv:=(fun _=>(elt3 (by rw [hy]; exact xaV_at hk)))) (k:=X7 (ch:=[]) (f:=118) (fst:=#[]) (caps:=#[pt xb]) (vs:=[.agg #[.string (bk y.space),.string (bk y.name),.string (bk y.value)]]) (hf:=Tryz.func118) (hsure:=P2 kr) (hc:=xsameN_ y x xb _ _) (k:=?_))
  rintro _ _ ⟨rfl,rfl⟩
  refine B1 [] [0,1,5,7,8,16] (k:=A0 ?_)
  refine B7 (b:=(sameN x y)) kr (fun hc2=>?_) (fun hc2=>?_)
  ·
   have hsm:sameN x y=true:=hc2
   refine A1 (C3 (E':=[⟨4,[],.int .i64 ((k:Nat):Int)⟩]) [0,0] [4] (k:=?_))
   refine A0 (C5 ?_)
   refine D6 (B2 ?_)
   refine B2 (D6 ?_)
   refine B2 (B9 [.tmp 4] [.int .i64 ((k:Nat):Int)] (k:=?_))
   exact ⟨_,rfl,by rw [any_at hk (by rw [← hy]; exact hsm)]; exact (decide_eq_true (Int.natCast_nonneg k)).symm,rfl⟩
  ·
   have hsm:sameN x y=false:=hc2
   refine B4 (C6 ?_)
   refine A0 (A3 ?_)
   refine A4 (j:=1) [0] (k:=F6 18 (((k:Nat):Int)+1) (by omega) (by omega) kr ?_)
   refine B1 [0] [0,1,7,8] (k:=E9 (s':=(k+1)) [0,1,7,8] kr rfl ⟨(by omega),(by rw [anyN_take hk,hno,← hy,hsm]; rfl)⟩ (by omega))
 ·
  have hk:out.length≤k:=by have:=hc1; simp only [decide_eq_false_iff_not] at this; omega
  refine H7 (B0 ?_)
  refine B0 (C7 ?_)
  refine A0 (A1 ?_)
  refine C3 (E':=[⟨4,[],.int .i64 (-1)⟩]) [0] [4] (k:=A0 ?_)
  refine C5 (B9 [.tmp 4] [.int .i64 (-1)] (k:=?_))
  exact ⟨_,rfl,by rw [List.take_of_length_le hk] at hno; rw [hno]; rfl,rfl⟩
theorem xhasNm_ (out:List XA) (n0:Nat) (hn0:n0=out.length) (a:Option Addr) (c:Nat) (S:Nat→Obj→Prop) (hrd:Rd S a (xaV out)) (hol:out.length≤1000002) (x:XA) (xb:Nat) (W0:World) (H:List Grp) (hS:∀ y o,S y o→At W0 H y o):Tri Tryz.prog 107 #[.slice a n0 c,.func (.func 118) #[] #[pt xb]] W0 ([(xb,.cells #[.string (bk x.space),.string (bk x.name),.string (bk x.value)] 75 (0,0))]::H) (fun v H'=>v=.bool (out.any (sameN x))∧H'=([(xb,.cells #[.string (bk x.space),.string (bk x.name),.string (bk x.value)] 75 (0,0))]::H)):=by
 refine D0 (args:=[.slice a n0 c,.func (.func 118) #[] #[pt xb]]) (n:=9) Tryz.func107 rfl rfl (Nat.le_of_ble_eq_true rfl) ?_
 refine A1 (G_p [0] [0,1] (k:=?_))
 refine A0 (A1 ?_)
 refine A3 (A4 (j:=2) [0,0] (k:=?_))
 refine E7 Tryz.func146 (xindexN_ out n0 hn0 a c S hrd hol x xb _ _ hS) ?_
 rintro _ _ ⟨n,rfl,hn,rfl⟩
 refine B5 (E':=[⟨4,[],.bool (decide (n ≥ 0))⟩]) [0,0] [4] (k:=A0 ?_)
 refine C5 (B9 [.tmp 4] [.bool (decide (n ≥ 0))] (k:=?_))
 exact ⟨by rw [hn]; try rfl,rfl⟩
theorem xrightW_ (x:XN) (an:Option Addr) (cn:Nat) (al:Option Addr) (cl:Nat) (cs:List Value) (S:Nat→Obj→Prop) (hra:Rd S an (xaV x.attrs)) (hrl:Rd S al cs) (hrc:XRdL S x.kids cs) (hcn:x.attrs.length≤cn) (lv:Nat) (hlv:lv≤24) (d:Int) (hd:d=24 - (lv:Int)) (hw:wtX x≤80000) (hrec:∀ (y:XN),wtX y<wtX x→wtX y≤80000→∀ (m:Nat),lv=m+1→∀ (an:Option Addr) (cn:Nat) (al:Option Addr) (cl:Nat) (cs:List Value),y.attrs.length≤cn→Rd S an (xaV y.attrs)→Rd S al cs→XRdL S y.kids cs→∀ (W0:World) (H:List Grp),(∀ z o,S z o→At W0 H z o)→R2 W0→Tri Tryz.prog 69 #[.agg (xvC y an cn al cl).toArray,.int .i64 (d+1)] W0 H (fun v H'=>v=.bool (rtX m y)∧H'=H)) (W0:World) (H:List Grp) (hS:∀ y o,S y o→At W0 H y o) (hX:R2 W0):Tri Tryz.prog 69 #[.agg #[.string (bk x.space),.string (bk x.name),.slice an x.attrs.length cn,.slice al x.kids.length cl,.string (bk x.text)],.int .i64 d] W0 H (fun v H'=>v=.bool (rtX lv x)∧H'=H):=by
 have hpx:=S1 x
 refine D0 (args:=[.agg #[.string (bk x.space),.string (bk x.name),.slice an x.attrs.length cn,.slice al x.kids.length cl,.string (bk x.text)],.int .i64 d]) (n:=146) Tryz.func69 rfl rfl (Nat.le_of_ble_eq_true rfl) ?_
 refine A1 (A3 ?_)
 refine T1 (ch:=[]) (v:=.agg #[.string (bk x.space),.string (bk x.name),.slice an x.attrs.length cn,.slice al x.kids.length cl,.string (bk x.text)]) (k:=(fun b1=>?_))
 refine B5 (E':=[⟨1,[],.int .i64 d⟩,⟨2,[],pt b1⟩]) [0] [1,2] (k:=A0 ?_)
 refine A1 (A1 ?_)
 refine I8 (k:=A4 (j:=1) [0] (k:=?_))
 refine A6 (ch:=[]) (b:=b1) (off:=1) (v:=.string (bk x.name)) (hA:=At.grp 0 0 rfl rfl) (k:=M5 Tryz.func116 (xlen_ x.name (by omega) _ _) ?_)
 refine A4 (j:=4) [0] (k:=A6 (ch:=[]) (b:=b1) (off:=1) (v:=.string (bk x.name)) (hA:=At.grp 0 0 rfl rfl) (k:=?_))
 refine A4 (j:=9) [0,0,0,0] (k:=A6 (ch:=[(18,false)]) (b:=b1) (off:=1) (v:=.string (bk x.name)) (hA:=At.grp 0 0 rfl rfl) (k:=?_))
 refine A4 (j:=14) [0,5,0,0] (k:=A6 (ch:=[(23,false)]) (b:=b1) (off:=4) (v:=.string (bk x.text)) (hA:=At.grp 0 0 rfl rfl) (k:=?_))
 refine A4 (j:=19) [0,5,0,0] (k:=A6 (ch:=[(28,false)]) (b:=b1) (off:=0) (v:=.string (bk x.space)) (hA:=At.grp 0 0 rfl rfl) (k:=?_))
 refine J7 (ch:=[(28,false)]) (f:=117) (fst:=#[]) (caps:=#[]) (vs:=[.string (bk x.space)]) (v:=.bool (plX x.space)) (hf:=Tryz.func117) (hc:=(fun hc=>xplain_ x.space (by omega) _ _ hX)) (k:=A4 (j:=25) [0,5,0,0] (k:=?_))
 refine A6 (ch:=[(34,false)]) (b:=b1) (off:=1) (v:=.string (bk x.name)) (hA:=At.grp 0 0 rfl rfl) (k:=J7 (ch:=[(34,false)]) (f:=117) (fst:=#[]) (caps:=#[]) (vs:=[.string (bk x.name)]) (v:=.bool (plX x.name)) (hf:=Tryz.func117) (hc:=(fun hc=>xplain_ x.name (by omega) _ _ hX)) (k:=?_))
 refine B1 [0,5,0,0,0,5] [1,2,43] (k:=A0 ?_)
 refine B7 (b:=((((((nmX x.name:Int) != ((bk x.name).size:Int))||((bk x.name).toList==eB.toList))||(!((bk x.text).toList==eB.toList)))||(!(plX x.space)))||(!(plX x.name)))||(decide (d ≥ 24))) kr (fun hc2=>?_) (fun hc2=>?_)
 ·
  have hR:=right_no lv x hd hc2
  refine A1 (C3 (E':=[⟨4,[],.bool false⟩]) [0] [4] (k:=?_))
  refine A0 (C5 ?_)
  refine B2 (C1 (H':=H) (fun w h=>(h.erase 0)) ?_)
  refine B9 [.tmp 4] [.bool false] (k:=?_)
  exact ⟨by rw [hR]; rfl,rfl⟩
 ·
  obtain ⟨m,hlm,hR⟩:=right_yes lv x hd hc2
  refine B4 (A0 ?_)
  refine A1 (A1 ?_)
  refine A3 (A4 (j:=1) [0] (k:=?_))
  refine A6 (ch:=[]) (b:=b1) (off:=2) (v:=.slice an x.attrs.length cn) (hA:=At.grp 0 0 rfl rfl) (k:=B1 [0,0] [1,2,45,46,47] (k:=?_))
  refine A0 (B8 ?_)
  refine L4 (EI:=(fun ξ:Nat=>[⟨1,[],.int .i64 d⟩,⟨2,[],pt b1⟩,⟨45,[],.slice an x.attrs.length cn⟩,⟨46,[],.int .i64 ((x.attrs.length:Nat):Int)⟩,⟨47,[],.int .i64 ((ξ:Nat):Int)⟩])) (HI:=(fun ξ:Nat=>([(b1,.cells #[.string (bk x.space),.string (bk x.name),.slice an x.attrs.length cn,.slice al x.kids.length cl,.string (bk x.text)] 55 (0,0))]::H))) (Φ:=(fun ξ:Nat=>(ξ≤x.attrs.length)∧(attrsR [] x.attrs=attrsR (x.attrs.take ξ) (x.attrs.drop ξ)))) (μ:=(fun ξ:Nat=>x.attrs.length - ξ)) (s0:=(0)) [1,2,45,46,47] kr rfl ⟨(Nat.zero_le _),rfl⟩ ?_
  rintro k ⟨hkl,hT⟩
  try dsimp only at hkl hT
  refine A1 (G_p [0] [1,2,45,46,47,48] (k:=?_))
  refine A0 (A1 ?_)
  refine B7 (b:=decide (((k:Nat):Int)<((x.attrs.length:Nat):Int))) kr (fun hc3=>?_) (fun hc3=>?_)
  ·
   have hk:k<x.attrs.length:=by have:=hc3; simp only [decide_eq_true_eq] at this; omega
   refine B4 (A0 ?_)
   refine A1 (B8 ?_)
   refine A1 (A3 ?_)
   refine A4 (j:=1) [0] (k:=A9 (ch:=[]) (a:=an) (len:=x.attrs.length) (cap:=cn) (kd:=.i64) (j:=((k:Nat):Int)) (e:=75) (sz:=3) (S:=S) (cs:=(xaV x.attrs)) (hrd:=hra) (hb:=(fun _=>by exact ⟨by omega,by omega,by intro h; have h2:=congrArg List.length h; rw [xaV_len] at h2; simp only [List.length_nil] at h2; omega⟩)) (k:=?_))
   obtain ⟨y,hy⟩:∃ y,y=x.attrs[k]'hk:=⟨_,rfl⟩
   have hyz:=wtA_at hk
   rw [← hy] at hyz
   refine L0 (ch:=[]) (a:=an) (q:=k * 3) (S:=S) (cs:=(xaV x.attrs)) (l:=[.string (bk y.space),.string (bk y.name),.string (bk y.value)]) (hrd:=hra) (hS:=(fun y o h=>At.cons ((hS y o h)))) (hl:=List.cons_ne_nil _ _) (hv:=(fun _=>(elt3 (by rw [hy]; exact xaV_at hk)))) (k:=H5 (ch:=[]) (z:=.agg #[.string eB,.string eB,.string eB]) (k:=(fun b4=>?_)))
   refine A4 (j:=5) [0] (k:=E2 (ch:=[]) (b:=b4) (off:=0) (v:=.agg #[.string (bk y.space),.string (bk y.name),.string (bk y.value)]) (j:=0) ([(b4,.cells #[.string (bk y.space),.string (bk y.name),.string (bk y.value)] 75 (0,0))]::[(b1,.cells #[.string (bk x.space),.string (bk x.name),.slice an x.attrs.length cn,.slice al x.kids.length cl,.string (bk x.text)] 55 (0,0))]::H) (hoff:=Nat.le_of_ble_eq_true rfl) (hfz:=(fun _ _=>E0)) (k:=?_))
   refine B1 [] [1,2,5,6,45,46,47] (k:=A0 ?_)
   refine A1 (A1 ?_)
   refine I8 (k:=A4 (j:=1) [0] (k:=?_))
   refine A6 (ch:=[]) (b:=b4) (off:=0) (v:=.string (bk y.space)) (hA:=At.grp 0 0 rfl rfl) (k:=A4 (j:=5) [0,0,0] (k:=?_))
   refine A6 (ch:=[(55,false)]) (b:=b4) (off:=1) (v:=.string (bk y.name)) (hA:=At.grp 0 0 rfl rfl) (k:=A4 (j:=10) [0,5,0,0] (k:=?_))
   refine A6 (ch:=[(60,false)]) (b:=b4) (off:=1) (v:=.string (bk y.name)) (hA:=At.grp 0 0 rfl rfl) (k:=J7 (ch:=[(60,false)]) (f:=116) (fst:=#[]) (caps:=#[]) (vs:=[.string (bk y.name)]) (v:=.int .i64 (nmX y.name:Int)) (hf:=Tryz.func116) (hc:=(fun hc=>xlen_ y.name (by omega) _ _)) (k:=?_))
   refine A4 (j:=13) [0] (k:=A6 (ch:=[(60,false)]) (b:=b4) (off:=1) (v:=.string (bk y.name)) (hA:=At.grp 0 0 rfl rfl) (k:=?_))
   refine A4 (j:=19) [0,0,5,0,0] (k:=A6 (ch:=[(69,false)]) (b:=b4) (off:=1) (v:=.string (bk y.name)) (hA:=At.grp 0 0 rfl rfl) (k:=?_))
   refine A4 (j:=24) [0,5,0,0] (k:=A6 (ch:=[(74,false)]) (b:=b4) (off:=2) (v:=.string (bk y.value)) (hA:=At.grp 0 0 rfl rfl) (k:=?_))
   refine J7 (ch:=[(74,false)]) (f:=117) (fst:=#[]) (caps:=#[]) (vs:=[.string (bk y.value)]) (v:=.bool (plX y.value)) (hf:=Tryz.func117) (hc:=(fun hc=>xplain_ y.value (by omega) _ _ hX)) (k:=A4 (j:=30) [0,5,0,0] (k:=?_))
   refine A6 (ch:=[(80,false)]) (b:=b4) (off:=1) (v:=.string (bk y.name)) (hA:=At.grp 0 0 rfl rfl) (k:=J7 (ch:=[(80,false)]) (f:=117) (fst:=#[]) (caps:=#[]) (vs:=[.string (bk y.name)]) (v:=.bool (plX y.name)) (hf:=Tryz.func117) (hc:=(fun hc=>xplain_ y.name (by omega) _ _ hX)) (k:=?_))
   refine B1 [0,5] [1,2,5,6,45,46,47,85] (k:=A0 ?_)
   refine B7 (b:=(((((!((bk y.space).toList==eB.toList))||((bk y.name).toList==eB.toList))||((nmX y.name:Int) != ((bk y.name).size:Int)))||((bk y.name).toList==(mB #[120,109,108,110,115]).toList))||(!(plX y.value)))||(!(plX y.name))) kr (fun hc5=>?_) (fun hc5=>?_)
   ·
    have haf:atF y=false:=by have h9:=hc5; rw [atF_eq] at h9; simpa using h9
    refine A1 (C3 (E':=[⟨4,[],.bool false⟩]) [0] [4] (k:=?_))
    refine A0 (C5 ?_)
    refine B2 (D6 ?_)
    refine B2 (B2 ?_)
    refine D6 (B2 ?_)
    refine C1 (H':=H) (fun w h=>((h.erase 1).erase 0)) (B9 [.tmp 4] [.bool false] (k:=?_))
    exact ⟨by rw [hR,hT,attrsR_step hk,← hy,haf]; rfl,rfl⟩
   ·
    have haf:atF y=true:=by have h9:=hc5; rw [atF_eq] at h9; simpa using h9
    refine B4 (A0 ?_)
    refine A1 (A3 ?_)
    refine A4 (j:=1) [0] (k:=A6 (ch:=[]) (b:=b1) (off:=2) (v:=.slice an x.attrs.length cn) (hA:=At.grp 1 0 rfl rfl) (k:=?_))
    refine A4 (j:=3) [0] (k:=GL_sliceL (ch:=[]) (a:=an) (len:=x.attrs.length) (cap:=cn) (e:=75) (sz:=3) (vl:=none) (vh:=(some (.int .i64 ((k:Nat):Int)))) (l:=0) (h:=((k:Nat):Int)) (hb:=(fun _=>by omega)) (k:=?_))
    refine F0 (E':=[⟨89,[],.slice an k cn⟩,⟨88,[],.int .i64 ((k:Nat):Int)⟩,⟨87,[],.slice an x.attrs.length cn⟩,⟨86,[],.pointer (some ⟨b1,2,none⟩)⟩,⟨1,[],.int .i64 d⟩,⟨2,[],pt b1⟩,⟨5,[],.int .i64 ((k:Nat):Int)⟩,⟨6,[],pt b4⟩,⟨45,[],.slice an x.attrs.length cn⟩,⟨46,[],.int .i64 ((x.attrs.length:Nat):Int)⟩,⟨47,[],.int .i64 ((k:Nat):Int)⟩,⟨85,[],.bool ((((((!((bk y.space).toList==eB.toList))||((bk y.name).toList==eB.toList))||((nmX y.name:Int) != ((bk y.name).size:Int)))||((bk y.name).toList==(mB #[120,109,108,110,115]).toList))||(!(plX y.value)))||(!(plX y.name)))⟩]) (by have hz:([⟨89,[],.slice (cutA an cn 0 3) (k - 0) (cn - 0)⟩,⟨88,[],.int .i64 ((k:Nat):Int)⟩,⟨87,[],.slice an x.attrs.length cn⟩,⟨86,[],.pointer (some ⟨b1,2,none⟩)⟩,⟨1,[],.int .i64 d⟩,⟨2,[],pt b1⟩,⟨5,[],.int .i64 ((k:Nat):Int)⟩,⟨6,[],pt b4⟩,⟨45,[],.slice an x.attrs.length cn⟩,⟨46,[],.int .i64 ((x.attrs.length:Nat):Int)⟩,⟨47,[],.int .i64 ((k:Nat):Int)⟩,⟨85,[],.bool ((((((!((bk y.space).toList==eB.toList))||((bk y.name).toList==eB.toList))||((nmX y.name:Int) != ((bk y.name).size:Int)))||((bk y.name).toList==(mB #[120,109,108,110,115]).toList))||(!(plX y.value)))||(!(plX y.name)))⟩]:List Sl)=[⟨89,[],.slice an k cn⟩,⟨88,[],.int .i64 ((k:Nat):Int)⟩,⟨87,[],.slice an x.attrs.length cn⟩,⟨86,[],.pointer (some ⟨b1,2,none⟩)⟩,⟨1,[],.int .i64 d⟩,⟨2,[],pt b1⟩,⟨5,[],.int .i64 ((k:Nat):Int)⟩,⟨6,[],pt b4⟩,⟨45,[],.slice an x.attrs.length cn⟩,⟨46,[],.int .i64 ((x.attrs.length:Nat):Int)⟩,⟨47,[],.int .i64 ((k:Nat):Int)⟩,⟨85,[],.bool ((((((!((bk y.space).toList==eB.toList))||((bk y.name).toList==eB.toList))||((nmX y.name:Int) != ((bk y.name).size:Int)))||((bk y.name).toList==(mB #[120,109,108,110,115]).toList))||(!(plX y.value)))||(!(plX y.name)))⟩]:=(by rw [cutA_z]; rfl); exact Eq.trans kr hz) (A4 (j:=5) [0] (k:=?_))
    refine E7 (vs:=[.slice an k cn,.func (.func 118) #[] #[pt b4]]) Tryz.func107 (xhasNm_ (x.attrs.take k) k (by rw [List.length_take]; omega) an cn S (by rw [xaV_take]; exact rd_take hra _) (by rw [List.length_take]; omega) y b4 _ _ (fun y o h=>At.cons (hS y o h))) ?_
    rintro _ _ ⟨rfl,rfl⟩
    refine B1 [] [1,2,45,46,47,91] (k:=A0 ?_)
    refine B7 (b:=((x.attrs.take k).any (sameN y))) kr (fun hc6=>?_) (fun hc6=>?_)
    ·
     have hsn:(x.attrs.take k).any (sameN y)=true:=hc6
     refine A1 (C3 (E':=[⟨4,[],.bool false⟩]) [0] [4] (k:=?_))
     refine A0 (C5 ?_)
     refine D6 (B2 ?_)
     refine B2 (D6 ?_)
     refine B2 (C1 (H':=H) (fun w h=>((h.erase 1).erase 0)) ?_)
     refine B9 [.tmp 4] [.bool false] (k:=?_)
     exact ⟨by rw [hR,hT,attrsR_step hk,← hy,haf,hsn]; rfl,rfl⟩
    ·
     have hsn:(x.attrs.take k).any (sameN y)=false:=hc6
     refine B4 (C6 ?_)
     refine A0 (A3 ?_)
     refine A4 (j:=1) [0] (k:=F6 92 (((k:Nat):Int)+1) (by omega) (by omega) kr ?_)
     refine B1 [0] [1,2,45,46,47] (k:=C1 (H':=([(b1,.cells #[.string (bk x.space),.string (bk x.name),.slice an x.attrs.length cn,.slice al x.kids.length cl,.string (bk x.text)] 55 (0,0))]::H)) (fun w h=>(h.erase 0)) ?_)
     refine E9 (s':=(k+1)) [1,2,45,46,47] kr rfl ⟨(by omega),(by rw [hT,attrsR_step hk,← hy,haf,hsn]; rfl)⟩ (by omega)
  ·
   have hk:x.attrs.length≤k:=by have:=hc3; simp only [decide_eq_false_iff_not] at this; omega
   have hA:attrsR [] x.attrs=true:=by rw [hT,List.drop_eq_nil_of_le hk,attrsR]
   refine H7 (B0 ?_)
   refine B0 (C7 ?_)
   refine A0 (A1 ?_)
   refine G_p [0] [1,2,7] (k:=A0 ?_)
   refine A1 (A1 ?_)
   refine A3 (A4 (j:=1) [0] (k:=?_))
   refine A6 (ch:=[]) (b:=b1) (off:=3) (v:=.slice al x.kids.length cl) (hA:=At.grp 0 0 rfl rfl) (k:=B1 [0,0] [1,7,94,95,96] (k:=?_))
   refine A0 (B8 ?_)
   refine L4 (EI:=(fun ξ:Nat × Bool=>[⟨1,[],.int .i64 d⟩,⟨7,[],.bool ξ.2⟩,⟨94,[],.slice al x.kids.length cl⟩,⟨95,[],.int .i64 ((x.kids.length:Nat):Int)⟩,⟨96,[],.int .i64 ((ξ.1:Nat):Int)⟩])) (HI:=(fun ξ:Nat × Bool=>([(b1,.cells #[.string (bk x.space),.string (bk x.name),.slice an x.attrs.length cn,.slice al x.kids.length cl,.string (bk x.text)] 55 (0,0))]::H))) (Φ:=(fun ξ:Nat × Bool=>(ξ.1≤x.kids.length)∧(kidsR (rtX m) false x.kids=kidsR (rtX m) ξ.2 (x.kids.drop ξ.1)))) (μ:=(fun ξ:Nat × Bool=>x.kids.length - ξ.1)) (s0:=(0,false)) [1,7,94,95,96] kr rfl ⟨(Nat.zero_le _),rfl⟩ ?_
   rintro ⟨k,last⟩ ⟨hkl,hT⟩
   try dsimp only at hkl hT
   refine A1 (G_p [0] [1,7,94,95,96,97] (k:=?_))
   refine A0 (A1 ?_)
   refine B7 (b:=decide (((k:Nat):Int)<((x.kids.length:Nat):Int))) kr (fun hc8=>?_) (fun hc8=>?_)
   ·
    have hk:k<x.kids.length:=by have:=hc8; simp only [decide_eq_true_eq] at this; omega
    obtain ⟨y,yan,ycn,yal,ycl,ycs,hyx,hye,hya,hyl,hyc,hycn⟩:=hrc.get hk
    have hyw:wtX y<wtX x:=by rw [hyx]; exact wtX_kid hk
    have hpy:=S1 y
    refine B4 (A0 ?_)
    refine A1 (B8 ?_)
    refine A1 (A3 ?_)
    refine A9 (ch:=[]) (a:=al) (len:=x.kids.length) (cap:=cl) (kd:=.i64) (j:=((k:Nat):Int)) (e:=55) (sz:=5) (S:=S) (cs:=cs) (hrd:=hrl) (hb:=(fun _=>by exact ⟨by omega,by omega,by intro h; have h2:=congrArg List.length h; rw [hrc.len] at h2; simp only [List.length_nil] at h2; omega⟩)) (k:=L0 (ch:=[]) (a:=al) (q:=k * 5) (S:=S) (cs:=cs) (l:=[.string (bk y.space),.string (bk y.name),.slice yan y.attrs.length ycn,.slice yal y.kids.length ycl,.string (bk y.text)]) (hrd:=hrl) (hS:=(fun y o h=>At.cons ((hS y o h)))) (hl:=List.cons_ne_nil _ _) (hv:=(fun _=>(elt5 hye))) (k:=?_))
    refine H5 (ch:=[]) (z:=.agg zN.toArray) (k:=(fun b9=>?_))
    refine E2 (ch:=[]) (b:=b9) (off:=0) (v:=.agg #[.string (bk y.space),.string (bk y.name),.slice yan y.attrs.length ycn,.slice yal y.kids.length ycl,.string (bk y.text)]) (j:=0) ([(b9,.cells #[.string (bk y.space),.string (bk y.name),.slice yan y.attrs.length ycn,.slice yal y.kids.length ycl,.string (bk y.text)] 55 (0,0))]::[(b1,.cells #[.string (bk x.space),.string (bk x.name),.slice an x.attrs.length cn,.slice al x.kids.length cl,.string (bk x.text)] 55 (0,0))]::H) (hoff:=Nat.le_of_ble_eq_true rfl) (hfz:=(fun _ _=>E0)) (k:=B1 [] [1,7,9,94,95,96] (k:=?_))
    refine A0 (A1 ?_)
    refine A3 (A4 (j:=1) [0] (k:=?_))
    refine A6 (ch:=[]) (b:=b9) (off:=1) (v:=.string (bk y.name)) (hA:=At.grp 0 0 rfl rfl) (k:=B1 [0,0] [1,7,9,10,94,95,96] (k:=?_))
    refine A0 (A1 ?_)
    refine A1 (A3 ?_)
    refine A4 (j:=5) [0,0,0,0,0] (k:=A6 (ch:=[(106,false),(104,true)]) (b:=b9) (off:=4) (v:=.string (bk y.text)) (hA:=At.grp 0 0 rfl rfl) (k:=?_))
    refine A4 (j:=10) [0,5,0,0] (k:=A6 (ch:=[(111,false),(104,true)]) (b:=b9) (off:=4) (v:=.string (bk y.text)) (hA:=At.grp 0 0 rfl rfl) (k:=?_))
    refine J7 (ch:=[(111,false),(104,true)]) (f:=117) (fst:=#[]) (caps:=#[]) (vs:=[.string (bk y.text)]) (v:=.bool (plX y.text)) (hf:=Tryz.func117) (hc:=(fun hc=>xplain_ y.text (by omega) _ _ hX)) (k:=A4 (j:=16) [0,5,0,0] (k:=?_))
    refine A6 (ch:=[(117,false),(104,true)]) (b:=b9) (off:=0) (v:=.string (bk y.space)) (hA:=At.grp 0 0 rfl rfl) (k:=A4 (j:=21) [0,5,0,0] (k:=?_))
    refine A6 (ch:=[(122,false),(104,true)]) (b:=b9) (off:=2) (v:=.slice yan y.attrs.length ycn) (hA:=At.grp 0 0 rfl rfl) (k:=A4 (j:=24) [0,0] (k:=?_))
    refine A6 (ch:=[(122,false),(104,true)]) (b:=b9) (off:=3) (v:=.slice yal y.kids.length ycl) (hA:=At.grp 0 0 rfl rfl) (k:=A4 (j:=34) [0,0,0,5,6,0,0,0,0] (k:=?_))
    refine I5 (ch:=[(136,true),(133,false)]) (b:=b9) (off:=0) (l:=[.string (bk y.space),.string (bk y.name),.slice yan y.attrs.length ycn,.slice yal y.kids.length ycl,.string (bk y.text)]) (hA:=At.grp 0 0 rfl rfl) (k:=G5 (E':=[⟨139,[(136,true),(133,false)],.int .i64 (IntKind.wrap .i64 (d+1))⟩,⟨137,[(136,true),(133,false)],.agg #[.string (bk y.space),.string (bk y.name),.slice yan y.attrs.length ycn,.slice yal y.kids.length ycl,.string (bk y.text)]⟩,⟨136,[(133,false)],.bool (!((bk y.name).toList==eB.toList))⟩,⟨133,[],.bool (((bk y.name).toList==eB.toList)&&((((last||((bk y.text).toList==eB.toList))||(!(plX y.text)))||(!((bk y.space).toList==eB.toList)))||(decide ((IntKind.wrap .i64 (((y.attrs.length:Nat):Int)+((y.kids.length:Nat):Int))) > 0))))⟩,⟨1,[],.int .i64 d⟩,⟨10,[],.bool ((bk y.name).toList==eB.toList)⟩,⟨94,[],.slice al x.kids.length cl⟩,⟨95,[],.int .i64 ((x.kids.length:Nat):Int)⟩,⟨96,[],.int .i64 ((k:Nat):Int)⟩]) (j:=37) [0,0] (k:=?_))
    refine F0 (E':=[⟨139,[(136,true),(133,false)],.int .i64 (d+1)⟩,⟨137,[(136,true),(133,false)],.agg #[.string (bk y.space),.string (bk y.name),.slice yan y.attrs.length ycn,.slice yal y.kids.length ycl,.string (bk y.text)]⟩,⟨136,[(133,false)],.bool (!((bk y.name).toList==eB.toList))⟩,⟨133,[],.bool (((bk y.name).toList==eB.toList)&&((((last||((bk y.text).toList==eB.toList))||(!(plX y.text)))||(!((bk y.space).toList==eB.toList)))||(decide ((IntKind.wrap .i64 (((y.attrs.length:Nat):Int)+((y.kids.length:Nat):Int))) > 0))))⟩,⟨1,[],.int .i64 d⟩,⟨10,[],.bool ((bk y.name).toList==eB.toList)⟩,⟨94,[],.slice al x.kids.length cl⟩,⟨95,[],.int .i64 ((x.kids.length:Nat):Int)⟩,⟨96,[],.int .i64 ((k:Nat):Int)⟩]) (by rw [w64 (by omega) (by omega)]) (J7 (ch:=[(136,true),(133,false)]) (f:=69) (fst:=#[]) (caps:=#[]) (vs:=[.agg #[.string (bk y.space),.string (bk y.name),.slice yan y.attrs.length ycn,.slice yal y.kids.length ycl,.string (bk y.text)],.int .i64 (d+1)]) (v:=.bool (rtX m y)) (hf:=Tryz.func69) (hc:=(fun hc=>hrec y hyw (by omega) m hlm yan ycn yal ycl ycs hycn hya hyl hyc _ _ (fun y o h=>At.cons (At.cons ((hS y o h)))) hX)) (k:=?_))
    refine B1 [0,6,5] [1,10,94,95,96,143] (k:=A0 ?_)
    refine B7 (b:=(((bk y.name).toList==eB.toList)&&((((last||((bk y.text).toList==eB.toList))||(!(plX y.text)))||(!((bk y.space).toList==eB.toList)))||(decide ((IntKind.wrap .i64 (((y.attrs.length:Nat):Int)+((y.kids.length:Nat):Int))) > 0))))||((!((bk y.name).toList==eB.toList))&&(!(rtX m y)))) kr (fun hc10=>?_) (fun hc10=>?_)
    ·
     have hkf:kidF (rtX m) last y=false:=by have h9:=hc10; rw [kidF_eq (by omega)] at h9; simpa using h9
     refine A1 (C3 (E':=[⟨4,[],.bool false⟩]) [0] [4] (k:=?_))
     refine A0 (C5 ?_)
     refine B2 (D6 ?_)
     refine B2 (B2 ?_)
     refine D6 (B2 ?_)
     refine C1 (H':=H) (fun w h=>((h.erase 1).erase 0)) (B9 [.tmp 4] [.bool false] (k:=?_))
     exact ⟨by rw [hR,hA,hT,kidsR_step hk,← hyx,hkf]; rfl,rfl⟩
    ·
     have hkf:kidF (rtX m) last y=true:=by have h9:=hc10; rw [kidF_eq (by omega)] at h9; simpa using h9
     refine B4 (A0 ?_)
     refine G_p [0,0] [1,7,94,95,96] (k:=C6 ?_)
     refine A0 (A3 ?_)
     refine A4 (j:=1) [0] (k:=F6 145 (((k:Nat):Int)+1) (by omega) (by omega) kr ?_)
     refine B5 (E':=[⟨1,[],.int .i64 d⟩,⟨7,[],.bool ((bk y.name).toList==eB.toList)⟩,⟨94,[],.slice al x.kids.length cl⟩,⟨95,[],.int .i64 ((x.kids.length:Nat):Int)⟩,⟨96,[],.int .i64 (((k:Nat):Int)+1)⟩]) [0] [1,7,94,95,96] (k:=C1 (H':=([(b1,.cells #[.string (bk x.space),.string (bk x.name),.slice an x.attrs.length cn,.slice al x.kids.length cl,.string (bk x.text)] 55 (0,0))]::H)) (fun w h=>(h.erase 0)) ?_)
     refine E9 (s':=(k+1,((bk y.name).toList==eB.toList))) [1,7,94,95,96] kr rfl ⟨(by dsimp only; omega),(by dsimp only; rw [hT,kidsR_step hk,← hyx,hkf,bkN]; rfl)⟩ (by dsimp only; omega)
   ·
    have hk:x.kids.length≤k:=by have:=hc8; simp only [decide_eq_false_iff_not] at this; omega
    have hK:kidsR (rtX m) false x.kids=true:=by rw [hT,List.drop_eq_nil_of_le hk,kidsR]
    refine H7 (B0 ?_)
    refine B0 (C7 ?_)
    refine A0 (A1 ?_)
    refine C3 (E':=[⟨4,[],.bool true⟩]) [0] [4] (k:=A0 ?_)
    refine C5 (C1 (H':=H) (fun w h=>(h.erase 0)) ?_)
    refine B9 [.tmp 4] [.bool true] (k:=?_)
    exact ⟨by rw [hR,hA,hK]; rfl,rfl⟩
theorem xright_:∀ (n:Nat) (x:XN),wtX x≤n→wtX x≤80000→∀ (lv:Nat),lv≤24→∀ (d:Int),d=24 - (lv:Int)→∀ (an:Option Addr) (cn:Nat) (al:Option Addr) (cl:Nat) (cs:List Value) (S:Nat→Obj→Prop),x.attrs.length≤cn→Rd S an (xaV x.attrs)→Rd S al cs→XRdL S x.kids cs→∀ (W0:World) (H:List Grp),(∀ z o,S z o→At W0 H z o)→R2 W0→Tri Tryz.prog 69 #[.agg (xvC x an cn al cl).toArray,.int .i64 d] W0 H (fun v H'=>v=.bool (rtX lv x)∧H'=H)
  | 0,x,h,_,_,_,_,_,_,_,_,_,_,_,_,_,_,_,_,_,_,_=>absurd (wtX_pos x) (by omega)
  | n+1,x,h,hw,lv,hlv,d,hd,an,cn,al,cl,cs,S,h0,h1,h2,h3,W0,H,hS,hX=>xrightW_ x an cn al cl cs S h1 h2 h3 h0 lv hlv d hd hw (fun y hy hwy m hm an cn al cl cs h0 h1 h2 h3 W0 H hS hX=>xright_ n y (by omega) hwy m (by omega) (d+1) (by omega) an cn al cl cs S h0 h1 h2 h3 W0 H hS hX) W0 H hS hX
end Go.Proofs.YtppgfiklmfoaeaaGreatDoor
namespace Go.Proofs.YtppgfiklmfoaeaaGreatDoor
open Go.Sw Go.Sha Go.Esc Go.RowKit Go.Json Go.Xml
theorem bkoX (l:List UInt8) (t:ByteArray):(t++bk l).data.toList=t.data.toList++l:=J4 _ _
theorem bkX (l:List UInt8):(bk l).data.toList=l:=rfl
theorem ba_extX {s t:ByteArray} (h:s.data.toList=t.data.toList):s=t:=ByteArray.ext (Array.ext' h)
theorem V9 (t:ByteArray):t.data.toList.length=t.size:=Array.length_toList
theorem sz2X (a b:UInt8):(⟨#[a,b]⟩:ByteArray).size=2:=rfl
theorem sz7X (a b c d e f g:UInt8):(⟨#[a,b,c,d,e,f,g]⟩:ByteArray).size=7:=rfl
theorem xwriteW_ (x:XN) (an:Option Addr) (cn:Nat) (al:Option Addr) (cl:Nat) (cs:List Value) (S:Nat→Obj→Prop) (hra:Rd S an (xaV x.attrs)) (hrl:Rd S al cs) (hrc:XRdL S x.kids cs) (sp:List UInt8) (hw:wtX x≤80000) (b:Nat) (p v:Value) (g:Grp) (t0:ByteArray) (hp:Bld b p) (hv:BOwn v g t0) (hs:t0.size+150 * wtX x≤10000000000) (hrec:∀ (y:XN),wtX y<wtX x→wtX y≤80000→∀ (sp:List UInt8) (an:Option Addr) (cn:Nat) (al:Option Addr) (cl:Nat) (cs:List Value),Rd S an (xaV y.attrs)→Rd S al cs→XRdL S y.kids cs→∀ (b:Nat) (p v:Value) (g:Grp) (t:ByteArray) (_:Bld b p) (_:BOwn v g t) (_:t.size+150 * wtX y≤10000000000) (W0:World) (H:List Grp),(∀ z o,S z o→At W0 H z o)→Tri Tryz.prog 70 #[pt b,.agg (xvC y an cn al cl).toArray,.string (bk sp)] W0 (bldG b p v::g::H) (fun _ H'=>∃ v' g',BOwn v' g' (t++bk (prX sp y))∧H'=bldG b (.pointer (some ⟨b,0,none⟩)) v'::g'::H)) (W0:World) (H:List Grp) (hS:∀ y o,S y o→At W0 H y o):Tri Tryz.prog 70 #[pt b,.agg #[.string (bk x.space),.string (bk x.name),.slice an x.attrs.length cn,.slice al x.kids.length cl,.string (bk x.text)],.string (bk sp)] W0 ([(b,.cells #[p,v] 87 (0,0))]::g::H) (fun _ H'=>∃ v' g',BOwn v' g' (t0++bk (prX sp x))∧H'=bldG b (.pointer (some ⟨b,0,none⟩)) v'::g'::H):=by
 have hpx:=S1 x
 have hsx:=wtX_sum x
 have hqs:=quoX_len x.space
 have hht:=html_len x.text
 refine D0 (args:=[pt b,.agg #[.string (bk x.space),.string (bk x.name),.slice an x.attrs.length cn,.slice al x.kids.length cl,.string (bk x.text)],.string (bk sp)]) (n:=78) Tryz.func70 rfl rfl (Nat.le_of_ble_eq_true rfl) ?_
 refine A1 (A3 ?_)
 refine T1 (ch:=[]) (v:=.agg #[.string (bk x.space),.string (bk x.name),.slice an x.attrs.length cn,.slice al x.kids.length cl,.string (bk x.text)]) (k:=(fun b1=>?_))
 refine B1 [] [0,2,4] (k:=A0 ?_)
 refine A1 (A1 ?_)
 refine A3 (A4 (j:=1) [0] (k:=?_))
 refine A6 (ch:=[]) (b:=b1) (off:=1) (v:=.string (bk x.name)) (hA:=At.grp 0 0 rfl rfl) (k:=B1 [0] [0,2,4,12] (k:=?_))
 refine A0 (B7 (b:=(bk x.name).toList==eB.toList) kr (fun hc2=>?_) (fun hc2=>?_))
 ·
  have hn:x.name=[]:=(eqB _ _).1 hc2
  refine A1 (A3 ?_)
  refine A4 (j:=2) [0,0] (k:=A6 (ch:=[]) (b:=b1) (off:=4) (v:=.string (bk x.text)) (hA:=At.grp 0 0 rfl rfl) (k:=?_))
  refine M5 Tryz.func119 (html_ (bk x.text) (by rw [D9]; omega) _ _) (H4 rfl (H':=([(b,.cells #[p,v] 87 (0,0))]::g::[(b1,.cells #[.string (bk x.space),.string (bk x.name),.slice an x.attrs.length cn,.slice al x.kids.length cl,.string (bk x.text)] 55 (0,0))]::H)) (fun w h=>((h.front (j:=2) rfl).front (j:=2) rfl)) ?_)
  refine E7 Tryz.func90 (M6 b (p) (v) g t0 (bk (X2 x.text)) hp hv (by (try simp only [D9]); omega) _ _) ?_
  rintro _ _ ⟨v3,g4,hB5,rfl⟩
  refine B5 (E':=[]) [] [] (k:=A0 ?_)
  refine C5 (B2 ?_)
  refine C1 (H':=([(b,.cells #[pt b,v3] 87 (0,0))]::g4::H)) (fun w h=>(h.erase 2)) (B9 [] [] (k:=?_))
  exact ⟨_,_,(by rw [prX_text hn]; exact hB5),rfl⟩
 ·
  have hn:x.name≠[]:=(eqBf _ _).1 hc2
  refine B4 (A0 ?_)
  refine A1 (A3 ?_)
  refine A4 (j:=2) [0,0] (k:=A6 (ch:=[]) (b:=b1) (off:=1) (v:=.string (bk x.name)) (hA:=At.grp 0 0 rfl rfl) (k:=?_))
  refine I9 (ch:=[]) (s:=(mB #[60])) (u:=(bk x.name)) (hb:=(by intro _; simp only [D9,List.length_cons,List.length_nil]; omega)) (k:=H4 rfl (H':=([(b,.cells #[p,v] 87 (0,0))]::g::[(b1,.cells #[.string (bk x.space),.string (bk x.name),.slice an x.attrs.length cn,.slice al x.kids.length cl,.string (bk x.text)] 55 (0,0))]::H)) (fun w h=>((h.front (j:=2) rfl).front (j:=2) rfl)) ?_)
  refine E7 Tryz.func90 (M6 b (p) (v) g t0 ((mB #[60])++(bk x.name)) hp hv (by (try simp only [I3,D9,List.length_cons,List.length_nil]); omega) _ _) ?_
  rintro _ _ ⟨v6,g7,hB8,rfl⟩
  refine B1 [] [0,2,4] (k:=A0 ?_)
  refine A1 (A1 ?_)
  refine A3 (A4 (j:=1) [0] (k:=?_))
  refine A6 (ch:=[]) (b:=b1) (off:=0) (v:=.string (bk x.space)) (hA:=At.grp 2 0 rfl rfl) (k:=B1 [0,0] [0,4,26] (k:=?_))
  refine A0 (Q7 (T:=Value × Value × Grp × ByteArray) (fun ξ:Value × Value × Grp × ByteArray=>[⟨0,[],pt b⟩,⟨4,[],pt b1⟩]) (fun ξ:Value × Value × Grp × ByteArray=>([(b,.cells #[ξ.1,ξ.2.1] 87 (0,0))]::ξ.2.2.1::[(b1,.cells #[.string (bk x.space),.string (bk x.name),.slice an x.attrs.length cn,.slice al x.kids.length cl,.string (bk x.text)] 55 (0,0))]::H)) (fun ξ:Value × Value × Grp × ByteArray=>(Bld b ξ.1)∧(BOwn ξ.2.1 ξ.2.2.1 ξ.2.2.2)∧(ξ.2.2.2.data.toList=t0.data.toList++prH sp x)) ?_ ?_)
  ·
   refine B7 (b:=!((bk x.space).toList==(bk sp).toList)) kr (fun hc9=>?_) (fun hc9=>?_)
   ·
    have hspc:spcP x.space sp=[32,120,109,108,110,115,61]++quoX x.space:=spcP_ne (show x.space≠sp from (eqBf (bk x.space) (bk sp)).1 (by simpa only [Bool.not_eq_true'] using hc9))
    refine A3 (A4 (j:=2) [0,0] (k:=?_))
    refine A6 (ch:=[]) (b:=b1) (off:=0) (v:=.string (bk x.space)) (hA:=At.grp 2 0 rfl rfl) (k:=M5 Tryz.func120 (xquoted_ x.space (by omega) _ _) ?_)
    refine I9 (ch:=[]) (s:=(mB #[32,120,109,108,110,115,61])) (u:=(bk (quoX x.space))) (hb:=(by intro _; simp only [D9,List.length_cons,List.length_nil]; omega)) (k:=E7 Tryz.func90 (M6 b (pt b) (v6) g7 (t0++((mB #[60])++(bk x.name))) ((mB #[32,120,109,108,110,115,61])++(bk (quoX x.space))) bld1 hB8 (by (try simp only [I3,D9,List.length_cons,List.length_nil]); omega) _ _) ?_)
    rintro _ _ ⟨v10,g11,hB12,rfl⟩
    refine B5 (E':=[⟨0,[],pt b⟩,⟨4,[],pt b1⟩]) [] [0,4] (k:=H0 (pt b,v10,g11,((t0++((mB #[60])++(bk x.name)))++((mB #[32,120,109,108,110,115,61])++(bk (quoX x.space))))) [0,4] kr (fun w h=>h) ⟨bld1,hB12,(by simp only [prH,hspc,J4,List.append_assoc,List.cons_append,List.nil_append] <;> rfl)⟩)
   ·
    have hspc:spcP x.space sp=[]:=spcP_eq (show x.space=sp from (eqB (bk x.space) (bk sp)).1 (by simpa only [Bool.not_eq_false'] using hc9))
    refine B4 (H0 (pt b,v6,g7,(t0++((mB #[60])++(bk x.name)))) [0,4] kr (fun w h=>h) ⟨bld1,hB8,(by simp only [prH,hspc,J4,List.append_nil,List.cons_append,List.nil_append] <;> rfl)⟩)
  ·
   rintro ⟨p1,v1,g1,t1⟩ ⟨hb1,hB1,hT1⟩
   dsimp only at hb1 hB1 hT1
   have ht1:t1.size≤t0.size+x.name.length+144 * x.space.length+10:=by
    have h1:=congrArg List.length hT1
    have h2:=spcP_len x.space sp
    rw [List.length_append,V9,V9] at h1; unfold prH at h1; rw [List.cons_append,List.length_cons,List.length_append] at h1; omega
   refine A0 (A1 ?_)
   refine A1 (A3 ?_)
   refine A4 (j:=1) [0] (k:=A6 (ch:=[]) (b:=b1) (off:=2) (v:=.slice an x.attrs.length cn) (hA:=At.grp 2 0 rfl rfl) (k:=?_))
   refine B1 [0,0] [0,4,34,35,36] (k:=A0 ?_)
   refine B8 (L4 (EI:=(fun ξ:Value × Value × Grp × ByteArray × Nat=>[⟨0,[],pt b⟩,⟨4,[],pt b1⟩,⟨34,[],.slice an x.attrs.length cn⟩,⟨35,[],.int .i64 ((x.attrs.length:Nat):Int)⟩,⟨36,[],.int .i64 ((ξ.2.2.2.2:Nat):Int)⟩])) (HI:=(fun ξ:Value × Value × Grp × ByteArray × Nat=>([(b,.cells #[ξ.1,ξ.2.1] 87 (0,0))]::ξ.2.2.1::[(b1,.cells #[.string (bk x.space),.string (bk x.name),.slice an x.attrs.length cn,.slice al x.kids.length cl,.string (bk x.text)] 55 (0,0))]::H))) (Φ:=(fun ξ:Value × Value × Grp × ByteArray × Nat=>(Bld b ξ.1)∧(BOwn ξ.2.1 ξ.2.2.1 ξ.2.2.2.1)∧(ξ.2.2.2.2≤x.attrs.length)∧(ξ.2.2.2.1.data.toList=t0.data.toList++prH sp x++attsP (x.attrs.take ξ.2.2.2.2)))) (μ:=(fun ξ:Value × Value × Grp × ByteArray × Nat=>x.attrs.length - ξ.2.2.2.2)) (s0:=(p1,v1,g1,t1,0)) [0,4,34,35,36] kr rfl ⟨hb1,hB1,(Nat.zero_le _),(by rw [hT1,List.take_zero]; exact (List.append_nil _).symm)⟩ ?_)
   rintro ⟨p,v,g,t,k⟩ ⟨hbp,hB,hkl,hT⟩
   dsimp only at hbp hB hkl hT
   have hta:t.size≤t1.size+150 * wtA x.attrs:=by
    have h1:=congrArg List.length hT
    have h2:=attsP_len (x.attrs.take k)
    have h3:=wtA_take x.attrs k
    rw [← hT1,List.length_append,V9,V9] at h1; omega
   refine A1 (G_p [0] [0,4,34,35,36,37] (k:=?_))
   refine A0 (A1 ?_)
   refine B7 (b:=decide (((k:Nat):Int)<((x.attrs.length:Nat):Int))) kr (fun hc13=>?_) (fun hc13=>?_)
   ·
    have hk:k<x.attrs.length:=by have:=hc13; simp only [decide_eq_true_eq] at this; omega
    refine B4 (A0 ?_)
    refine A1 (B8 ?_)
    refine A1 (A3 ?_)
    refine A9 (ch:=[]) (a:=an) (len:=x.attrs.length) (cap:=cn) (kd:=.i64) (j:=((k:Nat):Int)) (e:=75) (sz:=3) (S:=S) (cs:=(xaV x.attrs)) (hrd:=hra) (hb:=(fun _=>by exact ⟨by omega,by omega,by intro h; have h2:=congrArg List.length h; rw [xaV_len] at h2; simp only [List.length_nil] at h2; omega⟩)) (k:=?_)
    obtain ⟨y,hy⟩:∃ y,y=x.attrs[k]'hk:=⟨_,rfl⟩
    have hyz:=wtA_at hk
    rw [← hy] at hyz
    have hqy:=quoX_len y.value
    refine L0 (ch:=[]) (a:=an) (q:=k * 3) (S:=S) (cs:=(xaV x.attrs)) (l:=[.string (bk y.space),.string (bk y.name),.string (bk y.value)]) (hrd:=hra) (hS:=(fun y o h=>At.cons (At.cons (At.cons ((hS y o h)))))) (hl:=List.cons_ne_nil _ _) (hv:=(fun _=>(elt3 (by rw [hy]; exact xaV_at hk)))) (k:=H5 (ch:=[]) (z:=.agg #[.string eB,.string eB,.string eB]) (k:=(fun b14=>?_)))
    refine E2 (ch:=[]) (b:=b14) (off:=0) (v:=.agg #[.string (bk y.space),.string (bk y.name),.string (bk y.value)]) (j:=0) ([(b14,.cells #[.string (bk y.space),.string (bk y.name),.string (bk y.value)] 75 (0,0))]::[(b,.cells #[p,v] 87 (0,0))]::g::[(b1,.cells #[.string (bk x.space),.string (bk x.name),.slice an x.attrs.length cn,.slice al x.kids.length cl,.string (bk x.text)] 55 (0,0))]::H) (hoff:=Nat.le_of_ble_eq_true rfl) (hfz:=(fun _ _=>E0)) (k:=B1 [] [0,4,7,34,35,36] (k:=?_))
    refine A0 (I4 ([(b14,.cells #[.string (bk y.space),.string (bk y.name),.string (bk y.value)] 75 (0,0))]::[(b1,.cells #[.string (bk x.space),.string (bk x.name),.slice an x.attrs.length cn,.slice al x.kids.length cl,.string (bk x.text)] 55 (0,0))]::H) kr ?_)
    refine G6 (fuel:=8) [(0,0),(1,0)] (fun w h=>((h.erase 2).erase 1)) (k:=F7 2 (hL:=(fun w h=>((h.erase 2).erase 1))) (hy:=A6 (i:=2) (ch:=[]) (b:=b14) (off:=1) (v:=.string (bk y.name)) (hA:=At.grp 0 0 rfl rfl) (k:=G9 kr rfl)) (k:=?_))
    refine F7 3 (hL:=(fun w h=>((h.erase 2).erase 1))) (hy:=I9 (i:=3) (ch:=[]) (s:=(mB #[32])) (u:=(bk y.name)) (hb:=(by intro _; simp only [D9,List.length_cons,List.length_nil]; omega)) (k:=G9 kr rfl)) (k:=F7 4 (hL:=(fun w h=>((h.erase 2).erase 1))) (hy:=I9 (i:=4) (ch:=[]) (s:=(mB #[32])++(bk y.name)) (u:=(mB #[61])) (hb:=(by intro _; simp only [I3,D9,List.length_cons,List.length_nil]; omega)) (k:=G9 kr rfl)) (k:=?_))
    refine G6 (fuel:=4) [(5,0)] (fun w h=>((h.erase 2).erase 1)) (k:=F7 6 (hL:=(fun w h=>((h.erase 2).erase 1))) (hy:=A6 (i:=6) (ch:=[]) (b:=b14) (off:=2) (v:=.string (bk y.value)) (hA:=At.grp 0 0 rfl rfl) (k:=G9 kr rfl)) (k:=?_))
    refine E4 7 (k:=M5 Tryz.func120 (xquoted_ y.value (by omega) _ _) ?_)
    refine B6 kr (fun w h=>((h.erase 2).erase 1)) (F7 8 (hL:=(fun w h=>((h.erase 2).erase 1))) (hy:=I9 (i:=8) (ch:=[]) (s:=((mB #[32])++(bk y.name))++(mB #[61])) (u:=(bk (quoX y.value))) (hb:=(by intro _; simp only [I3,D9,List.length_cons,List.length_nil]; omega)) (k:=G9 kr rfl)) (k:=?_))
    refine E4 9 (k:=H4 rfl (H':=([(b,.cells #[p,v] 87 (0,0))]::g::[(b14,.cells #[.string (bk y.space),.string (bk y.name),.string (bk y.value)] 75 (0,0))]::[(b1,.cells #[.string (bk x.space),.string (bk x.name),.slice an x.attrs.length cn,.slice al x.kids.length cl,.string (bk x.text)] 55 (0,0))]::H)) (fun w h=>((h.front (j:=2) rfl).front (j:=2) rfl)) ?_)
    refine E7 Tryz.func90 (M6 b (p) (v) g t ((((mB #[32])++(bk y.name))++(mB #[61]))++(bk (quoX y.value))) hbp hB (by (try simp only [I3,D9,List.length_cons,List.length_nil]); omega) _ _) ?_
    rintro _ _ ⟨v15,g16,hB17,rfl⟩
    refine B6 kr (fun w h=>((h.erase 1).erase 0)) (G3 (E':=[⟨0,[],pt b⟩,⟨4,[],pt b1⟩,⟨34,[],.slice an x.attrs.length cn⟩,⟨35,[],.int .i64 ((x.attrs.length:Nat):Int)⟩,⟨36,[],.int .i64 ((k:Nat):Int)⟩]) [0,4,34,35,36] (k:=?_))
    refine C6 (A0 ?_)
    refine A3 (A4 (j:=1) [0] (k:=?_))
    refine F6 50 (((k:Nat):Int)+1) (by omega) (by omega) kr (B1 [0] [0,4,34,35,36] (k:=?_))
    refine C1 (H':=([(b,.cells #[pt b,v15] 87 (0,0))]::g16::[(b1,.cells #[.string (bk x.space),.string (bk x.name),.slice an x.attrs.length cn,.slice al x.kids.length cl,.string (bk x.text)] 55 (0,0))]::H)) (fun w h=>(h.erase 2)) (E9 (s':=(pt b,v15,g16,(t++((((mB #[32])++(bk y.name))++(mB #[61]))++(bk (quoX y.value)))),k+1)) [0,4,34,35,36] kr rfl ⟨bld1,hB17,(by dsimp only; omega),(by dsimp only; rw [attsP_take hk,← hy]; unfold attP; simp only [J4,hT,List.append_assoc,List.cons_append,List.nil_append] <;> rfl)⟩ (by dsimp only; omega))
   ·
    have hk:x.attrs.length≤k:=by have:=hc13; simp only [decide_eq_false_iff_not] at this; omega
    rw [List.take_of_length_le hk] at hT
    have hTa:=hT
    obtain ⟨tz,htz⟩:∃ n,n=t.size:=⟨_,rfl⟩
    refine H7 (B0 ?_)
    refine B0 (C7 ?_)
    refine A0 (A1 ?_)
    refine A1 (A3 ?_)
    refine A4 (j:=1) [0] (k:=A6 (ch:=[]) (b:=b1) (off:=3) (v:=.slice al x.kids.length cl) (hA:=At.grp 2 0 rfl rfl) (k:=?_))
    refine B1 [0,0] [0,4,54] (k:=A0 ?_)
    refine B7 (b:=((x.kids.length:Nat):Int)==0) kr (fun hc19=>?_) (fun hc19=>?_)
    ·
     have hk0:x.kids.length=0:=by have:=hc19; simp only [beq_iff_eq] at this; omega
     refine A1 (A3 ?_)
     refine A4 (j:=1) [0] (k:=E7 Tryz.func90 (M6 b (p) (v) g t (mB #[47,62]) hbp hB (by (try simp only [D9,List.length_cons,List.length_nil]); omega) _ _) ?_)
     rintro _ _ ⟨v20,g21,hB22,rfl⟩
     refine B5 (E':=[]) [] [] (k:=A0 ?_)
     refine C5 (B2 ?_)
     refine C1 (H':=([(b,.cells #[pt b,v20] 87 (0,0))]::g21::H)) (fun w h=>(h.erase 2)) (B9 [] [] (k:=?_))
     exact ⟨_,_,(by rw [show t0++bk (prX sp x)=(t++(mB #[47,62])) from (ba_extX (by rw [prX_none hn hk0]; simp only [J4,hTa,List.append_assoc] <;> rfl)).symm]; exact hB22),rfl⟩
    ·
     have hk0:¬ x.kids.length=0:=by have:=hc19; simp only [beq_eq_false_iff_ne,ne_eq] at this; omega
     refine B4 (A0 ?_)
     refine A1 (A3 ?_)
     refine A4 (j:=1) [0] (k:=E7 Tryz.func92 (writeByteC b (p) (v) g t (Nat.toUInt8 62) hbp hB (by (try simp only [I3,D9,sz1,sz2X,sz7X,List.length_cons,List.length_nil]); omega) _ _) ?_)
     rintro _ _ ⟨v23,g24,hB25,rfl⟩
     refine B5 (E':=[⟨0,[],pt b⟩,⟨4,[],pt b1⟩]) [] [0,4] (k:=A0 ?_)
     refine A1 (A1 ?_)
     refine A3 (A4 (j:=1) [0] (k:=?_))
     refine A6 (ch:=[]) (b:=b1) (off:=3) (v:=.slice al x.kids.length cl) (hA:=At.grp 2 0 rfl rfl) (k:=B1 [0,0] [0,4,60,61,62] (k:=?_))
     refine A0 (B8 ?_)
     refine L4 (EI:=(fun ξ:Value × Value × Grp × ByteArray × Nat=>[⟨0,[],pt b⟩,⟨4,[],pt b1⟩,⟨60,[],.slice al x.kids.length cl⟩,⟨61,[],.int .i64 ((x.kids.length:Nat):Int)⟩,⟨62,[],.int .i64 ((ξ.2.2.2.2:Nat):Int)⟩])) (HI:=(fun ξ:Value × Value × Grp × ByteArray × Nat=>([(b,.cells #[ξ.1,ξ.2.1] 87 (0,0))]::ξ.2.2.1::[(b1,.cells #[.string (bk x.space),.string (bk x.name),.slice an x.attrs.length cn,.slice al x.kids.length cl,.string (bk x.text)] 55 (0,0))]::H))) (Φ:=(fun ξ:Value × Value × Grp × ByteArray × Nat=>(Bld b ξ.1)∧(BOwn ξ.2.1 ξ.2.2.1 ξ.2.2.2.1)∧(ξ.2.2.2.2≤x.kids.length)∧(ξ.2.2.2.1.data.toList=t0.data.toList++prH sp x++attsP x.attrs++62::prL x.space (x.kids.take ξ.2.2.2.2)))) (μ:=(fun ξ:Value × Value × Grp × ByteArray × Nat=>x.kids.length - ξ.2.2.2.2)) (s0:=(pt b,v23,g24,(t++⟨#[Nat.toUInt8 62]⟩),0)) [0,4,60,61,62] kr rfl ⟨bld1,hB25,(Nat.zero_le _),(by dsimp only; rw [List.take_zero,Xml.prL_nil,← hTa]; simp only [J4] <;> rfl)⟩ ?_
     rintro ⟨p,v,g,t,k⟩ ⟨hbp,hB,hkl,hT2⟩
     dsimp only at hbp hB hkl hT2
     have htk:t.size≤tz+1+150 * wtXL (x.kids.take k):=by
      have h1:=congrArg List.length hT2
      have h2:=Xml.prL_len x.space (x.kids.take k)
      have h3:=congrArg List.length hTa
      rw [List.length_append,List.length_cons,← h3,V9,V9] at h1; omega
     refine A1 (G_p [0] [0,4,60,61,62,63] (k:=?_))
     refine A0 (A1 ?_)
     refine B7 (b:=decide (((k:Nat):Int)<((x.kids.length:Nat):Int))) kr (fun hc26=>?_) (fun hc26=>?_)
     ·
      have hk:k<x.kids.length:=by have:=hc26; simp only [decide_eq_true_eq] at this; omega
      obtain ⟨y,yan,ycn,yal,ycl,ycs,hyx,hye,hya,hyl,hyc,hycn⟩:=hrc.get hk
      have hyw:wtX y<wtX x:=by rw [hyx]; exact wtX_kid hk
      have hst:=wtXL_step hk
      rw [← hyx] at hst
      have hyn:=prX_len x.space y
      refine B4 (A0 ?_)
      refine A1 (B8 ?_)
      refine A1 (A3 ?_)
      refine A9 (ch:=[]) (a:=al) (len:=x.kids.length) (cap:=cl) (kd:=.i64) (j:=((k:Nat):Int)) (e:=55) (sz:=5) (S:=S) (cs:=cs) (hrd:=hrl) (hb:=(fun _=>by exact ⟨by omega,by omega,by intro h; have h2:=congrArg List.length h; rw [hrc.len] at h2; simp only [List.length_nil] at h2; omega⟩)) (k:=L0 (ch:=[]) (a:=al) (q:=k * 5) (S:=S) (cs:=cs) (l:=[.string (bk y.space),.string (bk y.name),.slice yan y.attrs.length ycn,.slice yal y.kids.length ycl,.string (bk y.text)]) (hrd:=hrl) (hS:=(fun y o h=>At.cons (At.cons (At.cons ((hS y o h)))))) (hl:=List.cons_ne_nil _ _) (hv:=(fun _=>(elt5 hye))) (k:=?_))
      refine H5 (ch:=[]) (z:=.agg zN.toArray) (k:=(fun b27=>?_))
      refine E2 (ch:=[]) (b:=b27) (off:=0) (v:=.agg #[.string (bk y.space),.string (bk y.name),.slice yan y.attrs.length ycn,.slice yal y.kids.length ycl,.string (bk y.text)]) (j:=0) ([(b27,.cells #[.string (bk y.space),.string (bk y.name),.slice yan y.attrs.length ycn,.slice yal y.kids.length ycl,.string (bk y.text)] 55 (0,0))]::[(b,.cells #[p,v] 87 (0,0))]::g::[(b1,.cells #[.string (bk x.space),.string (bk x.name),.slice an x.attrs.length cn,.slice al x.kids.length cl,.string (bk x.text)] 55 (0,0))]::H) (hoff:=Nat.le_of_ble_eq_true rfl) (hfz:=(fun _ _=>E0)) (k:=B1 [] [0,4,9,60,61,62] (k:=?_))
      refine A0 (A3 ?_)
      refine A4 (j:=1) [0] (k:=I5 (ch:=[]) (b:=b27) (off:=0) (l:=[.string (bk y.space),.string (bk y.name),.slice yan y.attrs.length ycn,.slice yal y.kids.length ycl,.string (bk y.text)]) (hA:=At.grp 0 0 rfl rfl) (k:=?_))
      refine A4 (j:=3) [0] (k:=A6 (ch:=[]) (b:=b1) (off:=0) (v:=.string (bk x.space)) (hA:=At.grp 3 0 rfl rfl) (k:=?_))
      refine H4 rfl (H':=([(b,.cells #[p,v] 87 (0,0))]::g::[(b27,.cells #[.string (bk y.space),.string (bk y.name),.slice yan y.attrs.length ycn,.slice yal y.kids.length ycl,.string (bk y.text)] 55 (0,0))]::[(b1,.cells #[.string (bk x.space),.string (bk x.name),.slice an x.attrs.length cn,.slice al x.kids.length cl,.string (bk x.text)] 55 (0,0))]::H)) (fun w h=>((h.front (j:=2) rfl).front (j:=2) rfl)) (E7 Tryz.func70 (hrec y hyw (by omega) x.space yan ycn yal ycl ycs hya hyl hyc b (p) (v) g t hbp hB (by (try simp only [I3,D9,sz1,sz2X,sz7X,List.length_cons,List.length_nil]); omega) _ _ (fun y o h=>At.cons (At.cons (hS y o h)))) ?_)
      rintro _ _ ⟨v28,g29,hB30,rfl⟩
      refine B1 [] [0,4,60,61,62] (k:=C6 ?_)
      refine A0 (A3 ?_)
      refine A4 (j:=1) [0] (k:=F6 71 (((k:Nat):Int)+1) (by omega) (by omega) kr ?_)
      refine B1 [0] [0,4,60,61,62] (k:=C1 (H':=([(b,.cells #[pt b,v28] 87 (0,0))]::g29::[(b1,.cells #[.string (bk x.space),.string (bk x.name),.slice an x.attrs.length cn,.slice al x.kids.length cl,.string (bk x.text)] 55 (0,0))]::H)) (fun w h=>(h.erase 2)) ?_)
      refine E9 (s':=(pt b,v28,g29,(t++bk (prX x.space y)),k+1)) [0,4,60,61,62] kr rfl ⟨bld1,hB30,(by dsimp only; omega),(by dsimp only; rw [prL_take hk,← hyx]; simp only [bkoX,hT2,List.append_assoc,List.cons_append])⟩ (by dsimp only; omega)
     ·
      have hk:x.kids.length≤k:=by have:=hc26; simp only [decide_eq_false_iff_not] at this; omega
      have hst:=wtXL_take x.kids k
      rw [List.take_of_length_le hk] at hT2
      refine H7 (B0 ?_)
      refine B0 (C7 ?_)
      refine A0 (A3 ?_)
      refine A4 (j:=2) [0,0] (k:=A6 (ch:=[]) (b:=b1) (off:=1) (v:=.string (bk x.name)) (hA:=At.grp 2 0 rfl rfl) (k:=?_))
      refine I9 (ch:=[]) (s:=(mB #[60,47])) (u:=(bk x.name)) (hb:=(by intro _; simp only [D9,List.length_cons,List.length_nil]; omega)) (k:=I9 (ch:=[]) (s:=(mB #[60,47])++(bk x.name)) (u:=(mB #[62])) (hb:=(by intro _; simp only [I3,D9,List.length_cons,List.length_nil]; omega)) (k:=?_))
      refine E7 Tryz.func90 (M6 b (p) (v) g t (((mB #[60,47])++(bk x.name))++(mB #[62])) hbp hB (by (try simp only [I3,D9,List.length_cons,List.length_nil]); omega) _ _) ?_
      rintro _ _ ⟨v32,g33,hB34,rfl⟩
      refine B5 (E':=[]) [] [] (k:=C1 (H':=([(b,.cells #[pt b,v32] 87 (0,0))]::g33::H)) (fun w h=>(h.erase 2)) ?_)
      refine B9 [] [] (k:=?_)
      exact ⟨_,_,(by rw [show t0++bk (prX sp x)=(t++(((mB #[60,47])++(bk x.name))++(mB #[62]))) from (ba_extX (by rw [prX_kids hn hk0]; simp only [J4,hT2,List.append_assoc,List.cons_append,List.nil_append] <;> rfl)).symm]; exact hB34),rfl⟩
theorem xwrite_:∀ (n:Nat) (x:XN),wtX x≤n→wtX x≤80000→∀ (sp:List UInt8) (an:Option Addr) (cn:Nat) (al:Option Addr) (cl:Nat) (cs:List Value) (S:Nat→Obj→Prop),Rd S an (xaV x.attrs)→Rd S al cs→XRdL S x.kids cs→∀ (b:Nat) (p v:Value) (g:Grp) (t:ByteArray) (_:Bld b p) (_:BOwn v g t) (_:t.size+150 * wtX x≤10000000000) (W0:World) (H:List Grp),(∀ z o,S z o→At W0 H z o)→Tri Tryz.prog 70 #[pt b,.agg (xvC x an cn al cl).toArray,.string (bk sp)] W0 (bldG b p v::g::H) (fun _ H'=>∃ v' g',BOwn v' g' (t++bk (prX sp x))∧H'=bldG b (.pointer (some ⟨b,0,none⟩)) v'::g'::H)
  | 0,x,h,_,_,_,_,_,_,_,_,_,_,_,_,_,_,_,_,_,_,_,_,_,_=>absurd (wtX_pos x) (by omega)
  | n+1,x,hz,hw,sp,an,cn,al,cl,cs,S,h1,h2,h3,b,p,v,g,t,hp,hv,hs,W0,H,hS=>xwriteW_ x an cn al cl cs S h1 h2 h3 sp hw b p v g t hp hv hs (fun y hy hwy sp an cn al cl cs h1 h2 h3 b p v g t hp hv hs W0 H hS=>xwrite_ n y (by omega) hwy sp an cn al cl cs S h1 h2 h3 b p v g t hp hv hs W0 H hS) W0 H hS
end Go.Proofs.YtppgfiklmfoaeaaGreatDoor
namespace Go.Proofs.YtppgfiklmfoaeaaGreatDoor
open Go.Sw Go.Sha Go.Esc Go.RowKit Go.Json Go.Xml
theorem xprint_ (x:XN) (an:Option Addr) (cn:Nat) (al:Option Addr) (cl:Nat) (cs:List Value) (S:Nat→Obj→Prop) (hra:Rd S an (xaV x.attrs)) (hrl:Rd S al cs) (hrc:XRdL S x.kids cs) (hcn:x.attrs.length≤cn) (hw:wtX x≤80000) (W0:World) (H:List Grp) (hS:∀ y o,S y o→At W0 H y o) (hX:R2 W0):Tri Tryz.prog 34 #[.agg #[.string (bk x.space),.string (bk x.name),.slice an x.attrs.length cn,.slice al x.kids.length cl,.string (bk x.text)]] W0 H (fun v H'=>v=(if rtX 24 x then .tuple #[.string (bk (prX [] x)),.int .i64 0] else .tuple #[.string eB,.int .i64 2])∧H'=H):=by
 have hpl:=prX_len [] x
 refine D0 (args:=[.agg #[.string (bk x.space),.string (bk x.name),.slice an x.attrs.length cn,.slice al x.kids.length cl,.string (bk x.text)]]) (n:=11) Tryz.func34 rfl rfl (Nat.le_of_ble_eq_true rfl) ?_
 refine A1 (A3 ?_)
 refine T1 (ch:=[]) (v:=.agg #[.string (bk x.space),.string (bk x.name),.slice an x.attrs.length cn,.slice al x.kids.length cl,.string (bk x.text)]) (k:=(fun b1=>?_))
 refine B5 (E':=[⟨1,[],pt b1⟩]) [0,0] [1] (k:=A0 ?_)
 refine A1 (A1 ?_)
 refine A3 (I5 (ch:=[]) (b:=b1) (off:=0) (l:=[.string (bk x.space),.string (bk x.name),.slice an x.attrs.length cn,.slice al x.kids.length cl,.string (bk x.text)]) (hA:=At.grp 0 0 rfl rfl) (k:=?_))
 refine M5 (vs:=[.agg #[.string (bk x.space),.string (bk x.name),.slice an x.attrs.length cn,.slice al x.kids.length cl,.string (bk x.text)],.int .i64 0]) Tryz.func69 (xright_ (wtX x) x (Nat.le_refl _) (by omega) 24 (Nat.le_refl _) 0 (by decide) an cn al cl cs S hcn hra hrl hrc _ _ (fun y o h=>At.cons ((hS y o h))) hX) (B1 [0] [1,7] (k:=?_))
 refine A0 (B7 (b:=!(rtX 24 x)) kr (fun hc2=>?_) (fun hc2=>?_))
 ·
  have hr:rtX 24 x=false:=by simpa using hc2
  refine A1 (G_p [0,0] [2,3] (k:=?_))
  refine A0 (C5 ?_)
  refine B2 (C1 (H':=H) (fun w h=>(h.erase 0)) ?_)
  refine B9 [.tmp 2,.tmp 3] [.string eB,.int .i64 2] (k:=?_)
  exact ⟨by rw [hr]; rfl,rfl⟩
 ·
  have hr:rtX 24 x=true:=by simpa using hc2
  refine B4 (A0 ?_)
  refine A1 (A3 ?_)
  refine H5 (ch:=[]) (z:=.agg #[.pointer none,.slice none 0 0]) (k:=(fun b3=>?_))
  refine H4 rfl (H':=([(b3,.cells #[.pointer none,.slice none 0 0] 87 (0,0))]::[]::[(b1,.cells #[.string (bk x.space),.string (bk x.name),.slice an x.attrs.length cn,.slice al x.kids.length cl,.string (bk x.text)] 55 (0,0))]::H)) (fun w h=>h.flat (List.Perm.refl _)) (B5 (E':=[⟨1,[],pt b1⟩,⟨4,[],pt b3⟩]) [] [1,4] (k:=?_))
  refine A0 (A1 ?_)
  refine A3 (I5 (ch:=[]) (b:=b1) (off:=0) (l:=[.string (bk x.space),.string (bk x.name),.slice an x.attrs.length cn,.slice al x.kids.length cl,.string (bk x.text)]) (hA:=At.grp 2 0 rfl rfl) (k:=?_))
  refine E7 (vs:=[pt b3,.agg #[.string (bk x.space),.string (bk x.name),.slice an x.attrs.length cn,.slice al x.kids.length cl,.string (bk x.text)],.string eB]) Tryz.func70 (xwrite_ (wtX x) x (Nat.le_refl _) (by omega) [] an cn al cl cs S hra hrl hrc b3 (.pointer none) (.slice none 0 0) [] .empty bld0 bown0 (by show 0+_≤_; omega) _ _ (fun y o h=>At.cons (hS y o h))) ?_
  rintro _ _ ⟨v4,g5,hB6,rfl⟩
  refine B5 (E':=[⟨4,[],pt b3⟩]) [] [4] (k:=A0 ?_)
  refine A1 (A3 ?_)
  refine E7 (vs:=[pt b3]) Tryz.func53 (X4 b3 (pt b3) (v4) g5 (.empty++bk (prX ([]) x)) hB6 (by (try simp only [I3,D9]); show 0+_≤_; omega) _ _) ?_
  rintro _ _ ⟨rfl,rfl⟩
  refine B1 [0,0] [2,3] (k:=A0 ?_)
  refine C5 (C1 (H':=H) (fun w h=>((h.erase 1).erase 0)) ?_)
  refine B9 [.tmp 2,.tmp 3] [.string (.empty++bk (prX ([]) x)),.int .i64 0] (k:=?_)
  exact ⟨by rw [hr]; exact congrArg (fun t=>Value.tuple #[.string t,.int .i64 0]) (ba_extX (J4 _ _)),rfl⟩
end Go.Proofs.YtppgfiklmfoaeaaGreatDoor
namespace Go.Xml
open Go.Esc Go.Json Go.Sw
def V2:XN:=.mk [118] [99] [] [.mk [] [] [] [] [116,38]] []
def V1:XN:=.mk [117] [97] [⟨[],[98],[60]⟩] [V2] []
theorem v1_par:D8 [60,97,32,120,109,108,110,115,61,34,117,34,32,98,61,34,38,108,116,59,34,62,60,120,58,99,32,120,109,108,110,115,58,120,61,34,118,34,62,116,60,33,45,45,114,45,45,62,38,97,109,112,59,60,47,120,58,99,62,60,47,97,62]=(V1,0):=by kernel_rfl
theorem v1_bad:(D8 [60,97,62,60,98,62,60,47,97,62]).2=70:=by kernel_rfl
theorem v1_right:rtX 24 V1=true:=by kernel_rfl
theorem v1_print:prX [] V1=[60,97,32,120,109,108,110,115,61,34,117,34,32,98,61,34,38,108,116,59,34,62,60,99,32,120,109,108,110,115,61,34,118,34,62,116,38,97,109,112,59,60,47,99,62,60,47,97,62]:=by kernel_rfl
theorem v1_find:allX V1 [118] [99]=[V2]:=by kernel_rfl
theorem v1_wt:wtX V1≤100:=Nat.le_of_ble_eq_true (by kernel_rfl)
theorem v2_wt:wtX V2≤100:=Nat.le_of_ble_eq_true (by kernel_rfl)
end Go.Xml
namespace Go.Proofs.YtppgfiklmfoaeaaGreatDoor
open Go.Sw Go.Sha Go.Esc Go.RowKit Go.Json Go.Xml
theorem rd_cast {S:Nat→Obj→Prop} {a:Option Addr} {cs cs':List Value} (h:Rd S a cs) (he:cs=cs'):Rd S a cs':=he ▸ h
theorem xparseV (a:Option Addr) (c:Nat) (l:List UInt8) (S:Nat→Obj→Prop) (hrd:Rd S a (u8s l)) (x:XN) (e:Int) (hp:D8 l=(x,e)) (W0:World) (H:List Grp) (hS:∀ y o,S y o→At W0 H y o) (hX:R2 W0):Tri Tryz.prog 29 #[.slice a l.length c] W0 H (fun v H2=>∃ c g,XRep 75 55 x c g∧v=.tuple #[.agg c.toArray,.int .i64 e]∧H2=g::H):=by
  have h:=xparse_ a c l S hrd W0 H hS hX
  rw [hp] at h; exact h
theorem xprintC (x:XN) (c:List Value) (S:Nat→Obj→Prop) (h:XRd S x c) (hw:wtX x≤80000) (u:Value) (hu:(if rtX 24 x then .tuple #[.string (bk (prX [] x)),.int .i64 0] else .tuple #[.string eB,.int .i64 2])=u) (W0:World) (H:List Grp) (hS:∀ z o,S z o→At W0 H z o) (hX:R2 W0):Tri Tryz.prog 34 #[.agg c.toArray] W0 H (fun v H'=>v=u∧H'=H):=by
  obtain ⟨an,al,cn,cl,cs,rfl,a1,a2,a3,a4⟩:=h.shape
  subst hu
  exact xprint_ x an cn al cl cs S a1 a2 a3 a4 hw W0 H hS hX
theorem xvalueC (x:XN) (c:List Value) (S:Nat→Obj→Prop) (h:XRd S x c) (hw:wtX x≤100000000) (nm:List UInt8) (W0:World) (H:List Grp) (hS:∀ z o,S z o→At W0 H z o):Tri Tryz.prog 40 #[.agg c.toArray,.string (bk nm)] W0 H (fun v H'=>v=.string (bk (vlX x.attrs nm))∧H'=H):=by
  obtain ⟨an,al,cn,cl,cs,rfl,a1,a2,a3,a4⟩:=h.shape
  exact xvalue_ x an cn al cl cs S a1 a2 a3 nm hw W0 H hS
theorem xinnerC (x:XN) (c:List Value) (S:Nat→Obj→Prop) (h:XRd S x c) (hw:wtX x≤100000000) (W0:World) (H:List Grp) (hS:∀ z o,S z o→At W0 H z o):Tri Tryz.prog 42 #[.agg c.toArray] W0 H (fun v H'=>v=.string (bk (innX x))∧H'=H):=by
  obtain ⟨an,al,cn,cl,cs,rfl,a1,a2,a3,a4⟩:=h.shape
  exact xinner_ (wtX x) x (Nat.le_refl _) hw an cn al cl cs S a1 a2 a3 W0 H hS
theorem xfindC (x:XN) (c:List Value) (S:Nat→Obj→Prop) (h:XRd S x c) (hw:wtX x≤100000000) (sp nm:List UInt8) (y:XN) (l:List XN) (hy:allX x sp nm=y::l) (W0:World) (H:List Grp) (hS:∀ z o,S z o→At W0 H z o):Tri Tryz.prog 39 #[.agg c.toArray,.string (bk sp),.string (bk nm)] W0 H (fun v H'=>∃ an cn al cl,XRd S y (xvC y an cn al cl)∧v=.tuple #[.agg (xvC y an cn al cl).toArray,.bool true]∧H'=H):=by
  obtain ⟨an,al,cn,cl,cs,rfl,a1,a2,a3,a4⟩:=h.shape
  refine (xfind_ x an cn al cl cs S a1 a2 a3 sp nm hw W0 H hS).post fun v H' ⟨h1,h2⟩=>⟨H',?_,fun _ h=>h⟩
  rcases h1 with ⟨h1,_⟩ | ⟨y',l',yan,ycn,yal,ycl,ycs,h1,h3,b1,b2,b3,b4⟩
  · rw [hy] at h1; cases h1
  · rw [hy] at h1; injection h1 with h1 _; subst h1
    exact ⟨yan,ycn,yal,ycl,XRd.of b4 b1 b2 b3,h3,h2⟩
theorem firstX_  (W0:World) (H:List Grp) (hX:R2 W0):Tri Tryz.prog 28 #[] W0 H (fun v H'=>v=.bool true∧H'=H):=by
 refine D0 (args:=[]) (n:=63) Tryz.func28 rfl rfl (Nat.le_of_ble_eq_true rfl) ?_
 refine A1 (C3 (E':=[]) [0] [] (k:=?_))
 refine A0 (A1 ?_)
 refine A3 (D5 (ch:=[]) (e:=5) (l:=[(0,.int .u8 60),(1,.int .u8 97),(2,.int .u8 32),(3,.int .u8 120),(4,.int .u8 109),(5,.int .u8 108),(6,.int .u8 110),(7,.int .u8 115),(8,.int .u8 61),(9,.int .u8 34),(10,.int .u8 117),(11,.int .u8 34),(12,.int .u8 32),(13,.int .u8 98),(14,.int .u8 61),(15,.int .u8 34),(16,.int .u8 38),(17,.int .u8 108),(18,.int .u8 116),(19,.int .u8 59),(20,.int .u8 34),(21,.int .u8 62),(22,.int .u8 60),(23,.int .u8 120),(24,.int .u8 58),(25,.int .u8 99),(26,.int .u8 32),(27,.int .u8 120),(28,.int .u8 109),(29,.int .u8 108),(30,.int .u8 110),(31,.int .u8 115),(32,.int .u8 58),(33,.int .u8 120),(34,.int .u8 61),(35,.int .u8 34),(36,.int .u8 118),(37,.int .u8 34),(38,.int .u8 62),(39,.int .u8 116),(40,.int .u8 60),(41,.int .u8 33),(42,.int .u8 45),(43,.int .u8 45),(44,.int .u8 114),(45,.int .u8 45),(46,.int .u8 45),(47,.int .u8 62),(48,.int .u8 38),(49,.int .u8 97),(50,.int .u8 109),(51,.int .u8 112),(52,.int .u8 59),(53,.int .u8 60),(54,.int .u8 47),(55,.int .u8 120),(56,.int .u8 58),(57,.int .u8 99),(58,.int .u8 62),(59,.int .u8 60),(60,.int .u8 47),(61,.int .u8 97),(62,.int .u8 62)]) (c:=[.int .u8 60,.int .u8 97,.int .u8 32,.int .u8 120,.int .u8 109,.int .u8 108,.int .u8 110,.int .u8 115,.int .u8 61,.int .u8 34,.int .u8 117,.int .u8 34,.int .u8 32,.int .u8 98,.int .u8 61,.int .u8 34,.int .u8 38,.int .u8 108,.int .u8 116,.int .u8 59,.int .u8 34,.int .u8 62,.int .u8 60,.int .u8 120,.int .u8 58,.int .u8 99,.int .u8 32,.int .u8 120,.int .u8 109,.int .u8 108,.int .u8 110,.int .u8 115,.int .u8 58,.int .u8 120,.int .u8 61,.int .u8 34,.int .u8 118,.int .u8 34,.int .u8 62,.int .u8 116,.int .u8 60,.int .u8 33,.int .u8 45,.int .u8 45,.int .u8 114,.int .u8 45,.int .u8 45,.int .u8 62,.int .u8 38,.int .u8 97,.int .u8 109,.int .u8 112,.int .u8 59,.int .u8 60,.int .u8 47,.int .u8 120,.int .u8 58,.int .u8 99,.int .u8 62,.int .u8 60,.int .u8 47,.int .u8 97,.int .u8 62]) (k:=(fun b1=>?_)))
 refine GL_sameBytes (i:=1) (ch:=[]) (t:=22) (e:=5) (b:=b1) (off:=0) (l:=63) (cap:=63) (j:=0) (m:=0) rfl rfl kr kr kr kr kr kr rfl rfl (by rfl) (E7 Tryz.func29 (xparseV (some ⟨b1,0,none⟩) 63 ([60,97,32,120,109,108,110,115,61,34,117,34,32,98,61,34,38,108,116,59,34,62,60,120,58,99,32,120,109,108,110,115,58,120,61,34,118,34,62,116,60,33,45,45,114,45,45,62,38,97,109,112,59,60,47,120,58,99,62,60,47,97,62]:List UInt8) (inG [(b1,.cells #[.int .u8 60,.int .u8 97,.int .u8 32,.int .u8 120,.int .u8 109,.int .u8 108,.int .u8 110,.int .u8 115,.int .u8 61,.int .u8 34,.int .u8 117,.int .u8 34,.int .u8 32,.int .u8 98,.int .u8 61,.int .u8 34,.int .u8 38,.int .u8 108,.int .u8 116,.int .u8 59,.int .u8 34,.int .u8 62,.int .u8 60,.int .u8 120,.int .u8 58,.int .u8 99,.int .u8 32,.int .u8 120,.int .u8 109,.int .u8 108,.int .u8 110,.int .u8 115,.int .u8 58,.int .u8 120,.int .u8 61,.int .u8 34,.int .u8 118,.int .u8 34,.int .u8 62,.int .u8 116,.int .u8 60,.int .u8 33,.int .u8 45,.int .u8 45,.int .u8 114,.int .u8 45,.int .u8 45,.int .u8 62,.int .u8 38,.int .u8 97,.int .u8 109,.int .u8 112,.int .u8 59,.int .u8 60,.int .u8 47,.int .u8 120,.int .u8 58,.int .u8 99,.int .u8 62,.int .u8 60,.int .u8 47,.int .u8 97,.int .u8 62] 5 (63,63+1))]) (rd_cast (cs:=[.int .u8 60,.int .u8 97,.int .u8 32,.int .u8 120,.int .u8 109,.int .u8 108,.int .u8 110,.int .u8 115,.int .u8 61,.int .u8 34,.int .u8 117,.int .u8 34,.int .u8 32,.int .u8 98,.int .u8 61,.int .u8 34,.int .u8 38,.int .u8 108,.int .u8 116,.int .u8 59,.int .u8 34,.int .u8 62,.int .u8 60,.int .u8 120,.int .u8 58,.int .u8 99,.int .u8 32,.int .u8 120,.int .u8 109,.int .u8 108,.int .u8 110,.int .u8 115,.int .u8 58,.int .u8 120,.int .u8 61,.int .u8 34,.int .u8 118,.int .u8 34,.int .u8 62,.int .u8 116,.int .u8 60,.int .u8 33,.int .u8 45,.int .u8 45,.int .u8 114,.int .u8 45,.int .u8 45,.int .u8 62,.int .u8 38,.int .u8 97,.int .u8 109,.int .u8 112,.int .u8 59,.int .u8 60,.int .u8 47,.int .u8 120,.int .u8 58,.int .u8 99,.int .u8 62,.int .u8 60,.int .u8 47,.int .u8 97,.int .u8 62]) Rd.lit kr) V1 0 v1_par _ _ (D4 0 rfl) hX) ?_)
 rintro _ _ ⟨c2,gp2,hJ2,rfl,rfl⟩
 obtain ⟨van2,vcn2,val2,vcl2,rfl⟩:=hJ2.shape
 refine A4 (j:=6) [0,0,0] (k:=H5 (ch:=[]) (z:=.agg zN.toArray) (k:=(fun b3=>?_)))
 refine E2 (ch:=[]) (b:=b3) (off:=0) (v:=.agg #[.string (bk V1.space),.string (bk V1.name),.slice van2 V1.attrs.length vcn2,.slice val2 V1.kids.length vcl2,.string (bk V1.text)]) (j:=0) ([(b3,.cells #[.string (bk V1.space),.string (bk V1.name),.slice van2 V1.attrs.length vcn2,.slice val2 V1.kids.length vcl2,.string (bk V1.text)] 55 (0,0))]::gp2::[(b1,.cells #[.int .u8 60,.int .u8 97,.int .u8 32,.int .u8 120,.int .u8 109,.int .u8 108,.int .u8 110,.int .u8 115,.int .u8 61,.int .u8 34,.int .u8 117,.int .u8 34,.int .u8 32,.int .u8 98,.int .u8 61,.int .u8 34,.int .u8 38,.int .u8 108,.int .u8 116,.int .u8 59,.int .u8 34,.int .u8 62,.int .u8 60,.int .u8 120,.int .u8 58,.int .u8 99,.int .u8 32,.int .u8 120,.int .u8 109,.int .u8 108,.int .u8 110,.int .u8 115,.int .u8 58,.int .u8 120,.int .u8 61,.int .u8 34,.int .u8 118,.int .u8 34,.int .u8 62,.int .u8 116,.int .u8 60,.int .u8 33,.int .u8 45,.int .u8 45,.int .u8 114,.int .u8 45,.int .u8 45,.int .u8 62,.int .u8 38,.int .u8 97,.int .u8 109,.int .u8 112,.int .u8 59,.int .u8 60,.int .u8 47,.int .u8 120,.int .u8 58,.int .u8 99,.int .u8 62,.int .u8 60,.int .u8 47,.int .u8 97,.int .u8 62] 5 (63,63+1))]::H) (hoff:=Nat.le_of_ble_eq_true rfl) (hfz:=(fun _ _=>E0)) (k:=B5 (E':=[⟨1,[],pt b3⟩,⟨2,[],.int .i64 0⟩]) [0] [1,2] (k:=?_))
 refine A0 (A1 ?_)
 refine A3 (I5 (ch:=[]) (b:=b3) (off:=0) (l:=[.string (bk V1.space),.string (bk V1.name),.slice van2 V1.attrs.length vcn2,.slice val2 V1.kids.length vcl2,.string (bk V1.text)]) (hA:=At.grp 0 0 rfl rfl) (k:=?_))
 refine E7 (vs:=[.agg #[.string (bk V1.space),.string (bk V1.name),.slice van2 V1.attrs.length vcn2,.slice val2 V1.kids.length vcl2,.string (bk V1.text)],.string (mB #[118]),.string (mB #[99])]) Tryz.func39 (xfindC V1 [.string (bk V1.space),.string (bk V1.name),.slice van2 V1.attrs.length vcn2,.slice val2 V1.kids.length vcl2,.string (bk V1.text)] (inG gp2) (hJ2.rd (fun _ _ h=>h)) (Nat.le_trans v1_wt (by decide)) ((mB #[118]).data.toList) ((mB #[99]).data.toList) V2 [] v1_find _ _ (D4 1 rfl)) ?_
 rintro _ _ ⟨van4,vcn4,val4,vcl4,hF4,rfl,rfl⟩
 refine A4 (j:=5) [0,0,0] (k:=H5 (ch:=[]) (z:=.agg zN.toArray) (k:=(fun b5=>?_)))
 refine E2 (ch:=[]) (b:=b5) (off:=0) (v:=.agg #[.string (bk V2.space),.string (bk V2.name),.slice van4 V2.attrs.length vcn4,.slice val4 V2.kids.length vcl4,.string (bk V2.text)]) (j:=0) ([(b5,.cells #[.string (bk V2.space),.string (bk V2.name),.slice van4 V2.attrs.length vcn4,.slice val4 V2.kids.length vcl4,.string (bk V2.text)] 55 (0,0))]::[(b3,.cells #[.string (bk V1.space),.string (bk V1.name),.slice van2 V1.attrs.length vcn2,.slice val2 V1.kids.length vcl2,.string (bk V1.text)] 55 (0,0))]::gp2::[(b1,.cells #[.int .u8 60,.int .u8 97,.int .u8 32,.int .u8 120,.int .u8 109,.int .u8 108,.int .u8 110,.int .u8 115,.int .u8 61,.int .u8 34,.int .u8 117,.int .u8 34,.int .u8 32,.int .u8 98,.int .u8 61,.int .u8 34,.int .u8 38,.int .u8 108,.int .u8 116,.int .u8 59,.int .u8 34,.int .u8 62,.int .u8 60,.int .u8 120,.int .u8 58,.int .u8 99,.int .u8 32,.int .u8 120,.int .u8 109,.int .u8 108,.int .u8 110,.int .u8 115,.int .u8 58,.int .u8 120,.int .u8 61,.int .u8 34,.int .u8 118,.int .u8 34,.int .u8 62,.int .u8 116,.int .u8 60,.int .u8 33,.int .u8 45,.int .u8 45,.int .u8 114,.int .u8 45,.int .u8 45,.int .u8 62,.int .u8 38,.int .u8 97,.int .u8 109,.int .u8 112,.int .u8 59,.int .u8 60,.int .u8 47,.int .u8 120,.int .u8 58,.int .u8 99,.int .u8 62,.int .u8 60,.int .u8 47,.int .u8 97,.int .u8 62] 5 (63,63+1))]::H) (hoff:=Nat.le_of_ble_eq_true rfl) (hfz:=(fun _ _=>E0)) (k:=B1 [0] [1,2,3,4] (k:=?_))
 refine A0 (A1 ?_)
 refine A3 (D5 (ch:=[]) (e:=5) (l:=[(0,.int .u8 60),(1,.int .u8 97),(2,.int .u8 62),(3,.int .u8 60),(4,.int .u8 98),(5,.int .u8 62),(6,.int .u8 60),(7,.int .u8 47),(8,.int .u8 97),(9,.int .u8 62)]) (c:=[.int .u8 60,.int .u8 97,.int .u8 62,.int .u8 60,.int .u8 98,.int .u8 62,.int .u8 60,.int .u8 47,.int .u8 97,.int .u8 62]) (k:=(fun b6=>?_)))
 refine GL_sameBytes (i:=1) (ch:=[]) (t:=22) (e:=5) (b:=b6) (off:=0) (l:=10) (cap:=10) (j:=0) (m:=0) rfl rfl kr kr kr kr kr kr rfl rfl (by rfl) (E7 Tryz.func29 (xparseV (some ⟨b6,0,none⟩) 10 ([60,97,62,60,98,62,60,47,97,62]:List UInt8) (inG [(b6,.cells #[.int .u8 60,.int .u8 97,.int .u8 62,.int .u8 60,.int .u8 98,.int .u8 62,.int .u8 60,.int .u8 47,.int .u8 97,.int .u8 62] 5 (10,10+1))]) (rd_cast (cs:=[.int .u8 60,.int .u8 97,.int .u8 62,.int .u8 60,.int .u8 98,.int .u8 62,.int .u8 60,.int .u8 47,.int .u8 97,.int .u8 62]) Rd.lit kr) ((D8 [60,97,62,60,98,62,60,47,97,62]).1) 70 (by rw [← v1_bad]) _ _ (D4 0 rfl) hX) ?_)
 rintro _ _ ⟨c7,gp7,hJ7,rfl,rfl⟩
 obtain ⟨van7,vcn7,val7,vcl7,rfl⟩:=hJ7.shape
 refine A4 (j:=6) [0,0,0] (k:=H5 (ch:=[]) (z:=.agg zN.toArray) (k:=(fun b8=>?_)))
 refine E2 (ch:=[]) (b:=b8) (off:=0) (v:=.agg #[.string (bk (D8 [60,97,62,60,98,62,60,47,97,62]).1.space),.string (bk (D8 [60,97,62,60,98,62,60,47,97,62]).1.name),.slice van7 ((D8 [60,97,62,60,98,62,60,47,97,62]).1.attrs.length) vcn7,.slice val7 ((D8 [60,97,62,60,98,62,60,47,97,62]).1.kids.length) vcl7,.string (bk (D8 [60,97,62,60,98,62,60,47,97,62]).1.text)]) (j:=0) ([(b8,.cells #[.string (bk (D8 [60,97,62,60,98,62,60,47,97,62]).1.space),.string (bk (D8 [60,97,62,60,98,62,60,47,97,62]).1.name),.slice van7 ((D8 [60,97,62,60,98,62,60,47,97,62]).1.attrs.length) vcn7,.slice val7 ((D8 [60,97,62,60,98,62,60,47,97,62]).1.kids.length) vcl7,.string (bk (D8 [60,97,62,60,98,62,60,47,97,62]).1.text)] 55 (0,0))]::gp7::[(b6,.cells #[.int .u8 60,.int .u8 97,.int .u8 62,.int .u8 60,.int .u8 98,.int .u8 62,.int .u8 60,.int .u8 47,.int .u8 97,.int .u8 62] 5 (10,10+1))]::[(b5,.cells #[.string (bk V2.space),.string (bk V2.name),.slice van4 V2.attrs.length vcn4,.slice val4 V2.kids.length vcl4,.string (bk V2.text)] 55 (0,0))]::[(b3,.cells #[.string (bk V1.space),.string (bk V1.name),.slice van2 V1.attrs.length vcn2,.slice val2 V1.kids.length vcl2,.string (bk V1.text)] 55 (0,0))]::gp2::[(b1,.cells #[.int .u8 60,.int .u8 97,.int .u8 32,.int .u8 120,.int .u8 109,.int .u8 108,.int .u8 110,.int .u8 115,.int .u8 61,.int .u8 34,.int .u8 117,.int .u8 34,.int .u8 32,.int .u8 98,.int .u8 61,.int .u8 34,.int .u8 38,.int .u8 108,.int .u8 116,.int .u8 59,.int .u8 34,.int .u8 62,.int .u8 60,.int .u8 120,.int .u8 58,.int .u8 99,.int .u8 32,.int .u8 120,.int .u8 109,.int .u8 108,.int .u8 110,.int .u8 115,.int .u8 58,.int .u8 120,.int .u8 61,.int .u8 34,.int .u8 118,.int .u8 34,.int .u8 62,.int .u8 116,.int .u8 60,.int .u8 33,.int .u8 45,.int .u8 45,.int .u8 114,.int .u8 45,.int .u8 45,.int .u8 62,.int .u8 38,.int .u8 97,.int .u8 109,.int .u8 112,.int .u8 59,.int .u8 60,.int .u8 47,.int .u8 120,.int .u8 58,.int .u8 99,.int .u8 62,.int .u8 60,.int .u8 47,.int .u8 97,.int .u8 62] 5 (63,63+1))]::H) (hoff:=Nat.le_of_ble_eq_true rfl) (hfz:=(fun _ _=>E0)) (k:=B1 [0] [1,2,3,4,6] (k:=?_))
 refine A0 (A1 ?_)
 refine A3 (I5 (ch:=[]) (b:=b3) (off:=0) (l:=[.string (bk V1.space),.string (bk V1.name),.slice van2 V1.attrs.length vcn2,.slice val2 V1.kids.length vcl2,.string (bk V1.text)]) (hA:=At.grp 4 0 rfl rfl) (k:=?_))
 refine M5 (vs:=[.agg #[.string (bk V1.space),.string (bk V1.name),.slice van2 V1.attrs.length vcn2,.slice val2 V1.kids.length vcl2,.string (bk V1.text)]]) Tryz.func34 (xprintC V1 [.string (bk V1.space),.string (bk V1.name),.slice van2 V1.attrs.length vcn2,.slice val2 V1.kids.length vcl2,.string (bk V1.text)] (inG gp2) (hJ2.rd (fun _ _ h=>h)) (Nat.le_trans v1_wt (by decide)) (.tuple #[.string (mB #[60,97,32,120,109,108,110,115,61,34,117,34,32,98,61,34,38,108,116,59,34,62,60,99,32,120,109,108,110,115,61,34,118,34,62,116,38,97,109,112,59,60,47,99,62,60,47,97,62]),.int .i64 0]) (by rw [v1_right,v1_print]; rfl) _ _ (D4 5 rfl) hX) (B1 [0,0,0,0,0] [1,2,3,4,6,7,8] (k:=?_))
 refine A0 (A1 ?_)
 refine A3 (A4 (j:=4) [0,0,0,0] (k:=?_))
 refine A6 (ch:=[(33,true)]) (b:=b3) (off:=0) (v:=.string (bk V1.space)) (hA:=At.grp 4 0 rfl rfl) (k:=A4 (j:=8) [0,2,0] (k:=?_))
 refine I5 (ch:=[(38,true)]) (b:=b3) (off:=0) (l:=[.string (bk V1.space),.string (bk V1.name),.slice van2 V1.attrs.length vcn2,.slice val2 V1.kids.length vcl2,.string (bk V1.text)]) (hA:=At.grp 4 0 rfl rfl) (k:=J7 (ch:=[(38,true)]) (f:=40) (fst:=#[]) (caps:=#[]) (vs:=[.agg #[.string (bk V1.space),.string (bk V1.name),.slice van2 V1.attrs.length vcn2,.slice val2 V1.kids.length vcl2,.string (bk V1.text)],.string (mB #[98])]) (v:=.string (bk (vlX V1.attrs ((mB #[98]).data.toList)))) (hf:=Tryz.func40) (hc:=(fun hc=>xvalueC V1 [.string (bk V1.space),.string (bk V1.name),.slice van2 V1.attrs.length vcn2,.slice val2 V1.kids.length vcl2,.string (bk V1.text)] (inG gp2) (hJ2.rd (fun _ _ h=>h)) (Nat.le_trans v1_wt (by decide)) ((mB #[98]).data.toList) _ _ (D4 5 rfl))) (k:=?_))
 refine A4 (j:=16) [0,6,0,0,6,0] (k:=I5 (ch:=[(46,true)]) (b:=b5) (off:=0) (l:=[.string (bk V2.space),.string (bk V2.name),.slice van4 V2.attrs.length vcn4,.slice val4 V2.kids.length vcl4,.string (bk V2.text)]) (hA:=At.grp 3 0 rfl rfl) (k:=?_))
 refine J7 (ch:=[(46,true)]) (f:=42) (fst:=#[]) (caps:=#[]) (vs:=[.agg #[.string (bk V2.space),.string (bk V2.name),.slice van4 V2.attrs.length vcn4,.slice val4 V2.kids.length vcl4,.string (bk V2.text)]]) (v:=.string (bk (innX V2))) (hf:=Tryz.func42) (hc:=(fun hc=>xinnerC V2 [.string (bk V2.space),.string (bk V2.name),.slice van4 V2.attrs.length vcn4,.slice val4 V2.kids.length vcl4,.string (bk V2.text)] (inG gp2) hF4 (Nat.le_trans v2_wt (by decide)) _ _ (D4 5 rfl))) (k:=B1 [0,6,0,0,0,6,0,0,0,6,0,0,0,6,0] [0] (k:=?_))
 refine A0 (C5 ?_)
 refine C1 (H':=H) (fun w h=>(((((((h.erase 6).erase 5).erase 4).erase 3).erase 2).erase 1).erase 0)) (B9 [.tmp 0] [.bool ((((((((bk V1.space).toList==(mB #[117]).toList)&&((bk (vlX V1.attrs ((mB #[98]).data.toList))).toList==(mB #[60]).toList))&&true)&&((bk (innX V2)).toList==(mB #[116,38]).toList))&&true)&&true)&&((mB #[60,97,32,120,109,108,110,115,61,34,117,34,32,98,61,34,38,108,116,59,34,62,60,99,32,120,109,108,110,115,61,34,118,34,62,116,38,97,109,112,59,60,47,99,62,60,47,97,62]).toList==(mB #[60,97,32,120,109,108,110,115,61,34,117,34,32,98,61,34,38,108,116,59,34,62,60,99,32,120,109,108,110,115,61,34,118,34,62,116,38,97,109,112,59,60,47,99,62,60,47,97,62]).toList))] (k:=?_))
 exact ⟨congrArg Value.bool (by kernel_rfl),rfl⟩
end Go.Proofs.YtppgfiklmfoaeaaGreatDoor
namespace Go.Sw
def cellOk (P:Program) (t:TypeId):Value→Value→Bool
  | .string _,.string _=>(match P.underlying t with | some .string=>true | _=>false)
  | .bool _,.bool _=>(match P.underlying t with | some .bool=>true | _=>false)
  | _,_=>false
def fldOk (P:Program):List Field→Nat→List Value→List Value→Bool
  | [],_,[],[]=>true
  | f :: fs, i, a :: xs, b :: ys => f.name != "_" && f.offset == i && cellOk P f.type a b && fldOk P fs (i + 1) xs ys
  | _,_,_,_=>false
def cellEq:Value→Value→Bool
  | .string a,.string b=>a.toList==b.toList
  | .bool a,.bool b=>a==b
  | _,_=>true
def S9:List Value→List Value→Bool
  | a::xs,b::ys=>cellEq a b&&S9 xs ys
  | _,_=>true
theorem part_one {P:Program} {t:TypeId} {A:Array Value} {i:Nat} {v:Value} (w:World) (ht:P.underlying t=some .string∨P.underlying t=some .bool) (h:A[i]? = some v):(part t A i).run P w=.ok v w:=by
  unfold part isAgg
  rcases ht with ht | ht <;> simp [run_underlying ht,h]
theorem eqB_b (a b:ByteArray):(a==b)=(a.toList==b.toList):=by
  rw [Go.Lib.toList_data,Go.Lib.toList_data]
  show (a.data==b.data)=_
  rw [Bool.eq_iff_iff,beq_iff_eq,beq_iff_eq]
  exact ⟨fun h=>by rw [h],fun h=>Array.ext' h⟩
theorem cellOk_eq {P:Program} {t:TypeId} {a b:Value} (h:cellOk P t a b=true) (w:World) (d:Nat):(P.underlying t=some .string∨P.underlying t=some .bool)∧(Op.equalIn (d+1) t a b).run P w=.ok (cellEq a b) w:=by
  unfold cellOk at h
  split at h
  · split at h
    · rename_i ht; refine ⟨.inl ht,?_⟩
      rw [Op.equalIn]
      simp only [Sem.run_bind,run_underlying ht,Result.andThen_ok]
      show Result.ok _ w=_
      rw [eqB_b]; rfl
    · cases h
  · split at h
    · rename_i ht; refine ⟨.inr ht,?_⟩
      rw [Op.equalIn]
      simp only [Sem.run_bind,run_underlying ht,Result.andThen_ok]
      rfl
    · cases h
  · cases h
theorem cellsEq_same:∀ A:List Value,S9 A A=true
  | []=>rfl
  | a::A=>by
    rw [S9,cellsEq_same A,Bool.and_true]
    cases a <;> first | rfl | exact beq_self_eq_true _
theorem run_flds {P : Program} (w : World) (A B : Array Value) (F : Field → Option Bool × Unit → Sem (ForInStep (Option Bool × Unit))) (hF : ∀ f a b, A[f.offset]? = some a → B[f.offset]? = some b → f.name ≠ "_" → cellOk P f.type a b = true → (F f (none, ())).run P w = .ok (if cellEq a b then .yield (none, ()) else .done (some false, ())) w) :
    ∀ (fs:List Field) (i:Nat) (xs ys:List Value),fldOk P fs i xs ys=true→(∀ j v,xs[j]? = some v→A[i+j]? = some v)→(∀ j v,ys[j]? = some v→B[i+j]? = some v)→(forIn fs (none,()) F).run P w=.ok (if S9 xs ys then (none,()) else (some false,())) w
  | [],i,[],[],h,_,_=>rfl
  | [],i,[],_::_,h,_,_=>by cases h
  | [],i,_::_,_,h,_,_=>by unfold fldOk at h; cases h
  | _::_,i,[],_,h,_,_=>by unfold fldOk at h; cases h
  | _::_,i,_::_,[],h,_,_=>by unfold fldOk at h; cases h
  | f::fs,i,a::xs,b::ys,h,hA,hB=>by
    rw [fldOk,Bool.and_eq_true,Bool.and_eq_true,Bool.and_eq_true] at h
    obtain ⟨⟨⟨h1,h2⟩,h3⟩,h4⟩:=h
    have ho:f.offset=i:=by simpa using h2
    have hf:=hF f a b (by rw [ho]; exact hA 0 a rfl) (by rw [ho]; exact hB 0 b rfl) (by simpa using h1) h3
    have ih:=run_flds w A B F hF fs (i+1) xs ys h4 (fun j v hv=>by rw [Nat.add_assoc,Nat.add_comm 1]; exact hA (j+1) v hv) (fun j v hv=>by rw [Nat.add_assoc,Nat.add_comm 1]; exact hB (j+1) v hv)
    rw [List.forIn_cons,Sem.run_bind,hf,Result.andThen_ok]
    rw [S9]
    cases cellEq a b
    · rfl
    · simp only [if_true,Bool.true_and]; exact ih
theorem run_eqAgg {P:Program} (A B:Array Value) (w:World) (t:TypeId) (fs:Array Field) (ht:P.underlying t=some (.struct fs)) (hst:P.stoodInHeld t=false) (h:fldOk P fs.toList 0 A.toList B.toList=true) (d:Nat) :
    (Op.equalIn (d+2) t (.agg A) (.agg B)).run P w=.ok (S9 A.toList B.toList) w:=by
  rw [Op.equalIn]
  simp only [Sem.run_bind,run_underlying ht,Result.andThen_ok]
  rw [show (program).run P w=.ok P w from rfl]
  simp only [Result.andThen_ok,hst]
  rw [if_neg (by decide)]
  simp only [Sem.run_bind]
  rw [← Array.forIn_toList,run_flds w A B _ ?_ fs.toList 0 A.toList B.toList h (fun j v hv=>by rw [Nat.zero_add,← Array.getElem?_toList]; exact hv) (fun j v hv=>by rw [Nat.zero_add,← Array.getElem?_toList]; exact hv)]
  · cases S9 A.toList B.toList <;> rfl
  · intro f a b ha hb hn hc
    obtain ⟨h1,h2⟩:=cellOk_eq hc w d
    rw [if_pos hn]
    simp only [Sem.run_bind,part_one w h1 ha,part_one w h1 hb,h2,Result.andThen_ok]
    cases cellEq a b <;> rfl
def isEqT (P:Program) (t:TypeId) (xs ys:List Value):Bool:=match P.underlying t with
  | some (.struct fs)=>fldOk P fs.toList 0 xs ys&&!P.stoodInHeld t&&!P.eqGuardType P.depth t
  | _=>false
theorem run_binAgg {P:Program} (A B:List Value) (w:World) (t:TypeId) (h:isEqT P t A B=true) (ne:Bool) (x y:Operand) :
    (binOp (if ne then .neq else .eql) t (.agg A.toArray) (.agg B.toArray)).run P w=.ok (.bool (bif ne then !S9 A B else S9 A B)) w∧(eqGuard (if ne then .neq else .eql) t x y (.agg A.toArray) (.agg B.toArray)).run P w=.ok () w:=by
  unfold isEqT at h
  split at h
  · rename_i fs ht
    rw [Bool.and_eq_true,Bool.and_eq_true,Bool.not_eq_true',Bool.not_eq_true'] at h
    obtain ⟨⟨h1,h2⟩,h3⟩:=h
    have hr:=run_eqAgg A.toArray B.toArray w t fs ht h2 h1 9998
    constructor
    · cases ne
      · show (do pure (Value.bool (← Op.equal t (.agg A.toArray) (.agg B.toArray)))).run P w=_
        unfold Op.equal Op.maxDepth
        rw [Sem.run_bind,hr,Result.andThen_ok]; simp
      · show (do pure (Value.bool (!(← Op.equal t (.agg A.toArray) (.agg B.toArray))))).run P w=_
        unfold Op.equal Op.maxDepth
        rw [Sem.run_bind,hr,Result.andThen_ok]; simp
    · unfold eqGuard
      have hp:(program).run P w=.ok P w:=rfl
      cases ne <;> simp [hp,h3]
  · cases h
theorem GL_eqAgg {d:Bool} {P:Program} {ops:Array Oper} {i:Nat} {Q:F2} {n:Fr} {E:Env} {W0:World} {H:List Grp} {o:Oper} {ch:List (Nat × Bool)} {t t2:TypeId} {x y:Operand} {A B:List Value} {r:Bool} (ne:Bool)
    (ho:ops[i]? = some o) (hop:o.op=.binOp (if ne then .neq else .eql) t x y t2) (hx:evO E ch x=some (.agg A.toArray)) (hy:evO E ch y=some (.agg B.toArray)) (ht:isEqT P t A B=true) (hr:(bif ne then !S9 A B else S9 A B)=r)
    (hch:E5 ops E o.guard=some ch) (hd:G2 n ch o.dst=true) (hk:J8 E ch=true)
    (k:GL d P ops (i+1) Q n (Env.put E o.dst ch (.bool r)) W0 H):GL d P ops i Q n E W0 H:=by
  refine I7 ho hch hd hk (fun r hr _ w hsat=>?_) k
  unfold execOp
  simp only [hop]
  rw [hr _ _ hx,hr _ _ hy]
  obtain ⟨h1,h2⟩:=run_binAgg (P:=P) A B w t ht ne x y
  subst_vars
  simp only [Sem.run_bind,h2,h1,Result.andThen_ok]
  exact ⟨rfl,rfl⟩
end Go.Sw
namespace Go.Xml
open Go.Esc Go.Json Go.Lib
theorem pre_app {w l:List UInt8} (t:List UInt8) (h:w.isPrefixOf l=true):w.isPrefixOf (l++t)=true∧(l++t).drop w.length=l.drop w.length++t:=by
  have h1:=List.isPrefixOf_iff_prefix.1 h
  refine ⟨List.isPrefixOf_iff_prefix.2 (h1.trans (List.prefix_append l t)),?_⟩
  rw [List.drop_append_of_le_length h1.length_le]
theorem pre_appF {w l:List UInt8} (t:List UInt8) (h:¬ w.isPrefixOf l=true) (hl:w.length≤l.length):¬ w.isPrefixOf (l++t)=true:=by
  intro h1
  have h2:=List.isPrefixOf_iff_prefix.1 h1
  exact h (List.isPrefixOf_iff_prefix.2 (List.prefix_of_prefix_length_le h2 (List.prefix_append l t) hl))
theorem idx_app {w:List UInt8} (t:List UInt8):∀ {l:List UInt8} {i:Nat},idxL w l=some i→idxL w (l++t)=some i
  | [],i,h=>by
    unfold idxL at h
    split at h
    · rename_i hw; subst hw; injection h with h; subst h
      cases t <;> (simp only [List.nil_append]; unfold idxL; simp)
    · cases h
  | b::l,i,h=>by
    have hle:=idx_le h
    unfold idxL at h
    rw [List.cons_append]; unfold idxL
    split at h
    · rename_i hp; rw [if_pos (show w.isPrefixOf (b::(l++t))=true from (pre_app t hp).1)]; exact h
    · rename_i hp
      rw [if_neg (show ¬ w.isPrefixOf (b::(l++t))=true from pre_appF (l:=b::l) t hp (by omega))]
      cases hq:idxL w l with
      | none=>rw [hq] at h; cases h
      | some j=>rw [hq] at h; rw [idx_app t hq]; exact h
theorem until_app {w l s r:List UInt8} (t:List UInt8) (h:N8 w l=some (s,r)):N8 w (l++t)=some (s,r++t):=by
  unfold N8 at h ⊢
  cases hi:idxL w l with
  | none=>rw [hi] at h; cases h
  | some i =>
    have hle:=idx_le hi
    rw [hi] at h; rw [idx_app t hi]
    injection h with h; injection h with h1 h2; subst h1; subst h2
    show some ((l++t).take i,(l++t).drop (i+w.length))=_
    rw [List.take_append_of_le_length (by omega),List.drop_append_of_le_length hle]
theorem must_app {w l r:List UInt8} (t:List UInt8) (h:Q9 w l=some r):Q9 w (l++t)=some (r++t):=by
  unfold Q9 at h ⊢
  split at h
  · rename_i hp; obtain ⟨h1,h2⟩:=pre_app t hp; rw [if_pos h1,h2]; injection h with h; rw [h]
  · cases h
theorem must_ne' {w l r:List UInt8} (hw:w≠[]) (h:Q9 w l=some r):l≠[]:=by
  rintro rfl; unfold Q9 at h; split at h
  · rename_i hp; cases w with
    | nil=>exact hw rfl
    | cons b w=>cases hp
  · cases h
theorem tw_app {p:UInt8→Bool} {l:List UInt8} (t:List UInt8) (h:l.dropWhile p≠[]):(l++t).takeWhile p=l.takeWhile p:=by
  induction l with
  | nil=>exact absurd rfl h
  | cons b l ih =>
    rw [List.cons_append,List.takeWhile_cons,List.takeWhile_cons]
    split
    · rename_i hb; rw [List.dropWhile_cons,if_pos hb] at h; rw [ih h]
    · rfl
theorem drop_tw (p:UInt8→Bool) (l:List UInt8):l.drop (l.takeWhile p).length=l.dropWhile p:=by
  conv=>lhs; arg 2; rw [← List.takeWhile_append_dropWhile (p:=p) (l:=l)]
  rw [List.drop_left]
theorem nm_app {l:List UInt8} (t:List UInt8) (h0:nmX l≠0) (h:l.drop (nmX l)≠[]):nmX (l++t)=nmX l:=by
  cases l with
  | nil=>exact absurd rfl h0
  | cons b l =>
    rw [List.cons_append,V3,V3]
    rw [V3] at h0 h
    split
    · rename_i hb
      rw [if_pos hb,Nat.add_comm,List.drop_succ_cons,drop_tw] at h
      rw [tw_app t h]
    · rfl
theorem name_app {l a r:List UInt8} (t:List UInt8) (h:T5 l=some (a,r)) (hr:r≠[]):T5 (l++t)=some (a,r++t):=by
  unfold T5 at h ⊢
  split at h
  · cases h
  · rename_i h0
    injection h with h; injection h with h1 h2; subst h1; subst h2
    rw [nm_app t h0 hr,if_neg h0,List.take_append_of_le_length (nm_le l),List.drop_append_of_le_length (nm_le l)]
theorem name_fst {l:List UInt8} {x:List UInt8 × List UInt8} (h:T5 l=some x):∃ c l',l=c::l'∧fstX c=true:=by
  unfold T5 at h
  split at h
  · cases h
  · rename_i h0
    cases l with
    | nil=>exact absurd rfl h0
    | cons c l' =>
      refine ⟨c,l',rfl,?_⟩
      rw [V3] at h0
      cases hc:fstX c with
      | true=>rfl
      | false=>rw [hc] at h0; exact absurd rfl h0
theorem qual_fst {l:List UInt8} {x:QN × List UInt8} (h:R7 l=some x):∃ c l',l=c::l'∧fstX c=true:=by
  unfold R7 at h
  cases hn:T5 l with
  | none=>rw [hn] at h; cases h
  | some y=>exact name_fst hn
theorem one_app {c:UInt8} {r:List UInt8} (t:List UInt8) (hr:r≠[]):[c].isPrefixOf (r++t)=[c].isPrefixOf r:=by
  cases r with
  | nil=>exact absurd rfl hr
  | cons b r=>rfl
theorem qual_app {l r:List UInt8} {a:QN} (t:List UInt8) (h:R7 l=some (a,r)) (hr:r≠[]):R7 (l++t)=some (a,r++t):=by
  unfold R7 at h ⊢
  cases hn:T5 l with
  | none=>rw [hn] at h; cases h
  | some y =>
    obtain ⟨y,r1⟩:=y
    rw [hn] at h; dsimp only at h
    split at h
    · rename_i hp
      have hr1:r1≠[]:=by rintro rfl; cases hp
      cases hm:T5 (r1.drop 1) with
      | none=>rw [hm] at h; cases h
      | some z =>
        obtain ⟨z,r2⟩:=z
        rw [hm] at h; injection h with h; injection h with h1 h2; subst h1; subst h2
        rw [name_app t hn hr1]; dsimp only
        obtain ⟨h1,h2⟩:=pre_app t hp
        have h2:(r1++t).drop 1=r1.drop 1++t:=h2
        rw [if_pos h1,h2,name_app t hm hr]; rfl
    · rename_i hp
      injection h with h; injection h with h1 h2; subst h1; subst h2
      rw [name_app t hn hr]; dsimp only
      rw [if_neg (by rw [one_app t hr]; exact hp)]
theorem blk_app {l:List UInt8} (t:List UInt8) (h:blk l≠[]):blk (l++t)=blk l++t:=by
  unfold blk at h ⊢
  induction l with
  | nil=>exact absurd rfl h
  | cons b l ih =>
    rw [List.cons_append,List.dropWhile_cons,List.dropWhile_cons]
    rw [List.dropWhile_cons] at h
    split
    · rename_i hb; rw [if_pos hb] at h; exact ih h
    · rfl
theorem blk_ne {l:List UInt8} (h:blk l≠[]):l≠[]:=by rintro rfl; exact h rfl
theorem aside_app {l r:List UInt8} (t:List UInt8) (h:M4 l=some (some r)):M4 (l++t)=some (some (r++t)):=by
  unfold M4 at h ⊢
  split at h
  · rename_i hp
    obtain ⟨h1,h2⟩:=pre_app t hp
    have h2:(l++t).drop 4=l.drop 4++t:=h2
    rw [if_pos h1,h2]
    cases hu:N8 [45,45] (l.drop 4) with
    | none=>rw [hu] at h; cases h
    | some x =>
      obtain ⟨x,r1⟩:=x
      rw [hu,Option.bind_some] at h
      rw [until_app t hu,Option.bind_some]
      cases hm:Q9 [62] r1 with
      | none=>rw [hm] at h; cases h
      | some y=>rw [hm] at h; injection h with h; injection h with h; subst h; rw [must_app t hm]; rfl
  · rename_i hp
    split at h
    · rename_i hq
      obtain ⟨h1,h2⟩:=pre_app t hq
      have h2:(l++t).drop 2=l.drop 2++t:=h2
      have hn:¬ [60,33,45,45].isPrefixOf (l++t)=true:=by
        match l,hq with
        | [],hq=>cases hq
        | [_],hq=>simp at hq
        | a::b::l,hq=>intro h9; simp at hq h9; have:=hq.2.trans h9.2.1.symm; revert this; decide
      rw [if_neg hn,if_pos h1,h2]
      cases hu:T5 (l.drop 2) with
      | none=>rw [hu] at h; cases h
      | some x =>
        obtain ⟨x,r1⟩:=x
        rw [hu,Option.bind_some] at h
        cases hm:N8 [63,62] r1 with
        | none=>rw [hm] at h; cases h
        | some y =>
          obtain ⟨y,r2⟩:=y
          rw [hm] at h; injection h with h; injection h with h; subst h
          have hr:r1≠[]:=by rintro rfl; cases hm
          rw [name_app t hu hr,Option.bind_some,until_app t hm]; rfl
    · cases h
theorem quote_app {l s r:List UInt8} (t:List UInt8) (h:quoteE l=some (s,r)):quoteE (l++t)=some (s,r++t):=by
  unfold quoteE at h ⊢
  split at h
  · rename_i hp
    obtain ⟨h1,h2⟩:=pre_app t hp
    have h2:(l++t).drop 1=l.drop 1++t:=h2
    rw [if_pos h1,h2]; exact until_app t h
  · rename_i hp
    split at h
    · rename_i hq
      obtain ⟨h1,h2⟩:=pre_app t hq
      have h2:(l++t).drop 1=l.drop 1++t:=h2
      have hl:l≠[]:=by rintro rfl; cases hq
      rw [if_neg (by rw [one_app t hl]; exact hp),if_pos h1,h2]; exact until_app t h
    · cases h
theorem attr_app {l r:List UInt8} {x:AT} (t:List UInt8) (h:attrE l=some (x,r)):attrE (l++t)=some (x,r++t):=by
  unfold attrE at h ⊢
  cases hq:R7 l with
  | none=>rw [hq] at h; cases h
  | some a =>
    obtain ⟨a,r0⟩:=a
    rw [hq] at h; dsimp only at h
    cases hm:Q9 [61] (blk r0) with
    | none=>rw [hm] at h; cases h
    | some r1 =>
      rw [hm] at h; dsimp only at h
      have hb0:=must_ne' (by decide) hm
      rw [qual_app t hq (blk_ne hb0)]; dsimp only
      rw [blk_app t hb0,must_app t hm]; dsimp only
      cases hv:quoteE (blk r1) with
      | none=>rw [hv] at h; cases h
      | some v =>
        obtain ⟨v,r2⟩:=v
        have hb1:blk r1≠[]:=by intro h0; rw [h0] at hv; cases hv
        rw [hv] at h; rw [blk_app t hb1,quote_app t hv]; dsimp only at h ⊢
        split at h
        · cases h
        · rename_i h60
          rw [if_neg h60]
          cases hr:refsE v with
          | none=>rw [hr] at h; cases h
          | some y=>rw [hr] at h; dsimp only at h ⊢; injection h with h; injection h with h1 h2; rw [h1,h2]
theorem attr_fst {l:List UInt8} {x:AT × List UInt8} (h:attrE l=some x):∃ c l',l=c::l'∧fstX c=true:=by
  unfold attrE at h
  cases hq:R7 l with
  | none=>rw [hq] at h; cases h
  | some a=>exact qual_fst hq
theorem fst_ne {c:UInt8} (h:fstX c=true):c≠47∧c≠62∧c≠33∧c≠63∧c≠60∧c≠91:=by
  refine ⟨?_,?_,?_,?_,?_,?_⟩ <;> (rintro rfl; revert h; decide)
theorem tag_app (t:List UInt8):∀ {n m:Nat} {acc:List AT} {l:List UInt8} {ats:List AT} {c:Bool} {r:List UInt8},tagE n acc l=some (ats,c,r)→n≤m→tagE m acc (l++t)=some (ats,c,r++t)
  | 0,_,_,_,_,_,_,h,_=>by cases h
  | n+1,0,_,_,_,_,_,_,hm=>absurd hm (by omega)
  | n+1,m+1,acc,l,ats,c,r,h,hm=>by
    rw [tagE] at h ⊢
    split at h
    · rename_i hp
      have hb:blk l≠[]:=by intro h0; rw [h0] at hp; cases hp
      obtain ⟨h1,h2⟩:=pre_app t hp
      have h2:(blk l++t).drop 2=(blk l).drop 2++t:=h2
      rw [blk_app t hb,if_pos h1,h2]
      injection h with h; injection h with h3 h; injection h with h4 h5; subst h3; subst h4; subst h5; rfl
    · rename_i hp
      split at h
      · rename_i hq
        have hb:blk l≠[]:=by intro h0; rw [h0] at hq; cases hq
        obtain ⟨h1,h2⟩:=pre_app t hq
        have h2:(blk l++t).drop 1=(blk l).drop 1++t:=h2
        have hn:¬ [47,62].isPrefixOf (blk l++t)=true:=by
          cases hbl:blk l with
          | nil=>exact absurd hbl hb
          | cons b u=>rw [hbl] at hq; intro h9; simp at hq h9; have:=hq.trans h9.1.symm; revert this; decide
        rw [blk_app t hb,if_neg hn,if_pos h1,h2]
        injection h with h; injection h with h3 h; injection h with h4 h5; subst h3; subst h4; subst h5; rfl
      · rename_i hq
        split at h
        · rename_i hlt
          cases ha:attrE (blk l) with
          | none=>rw [ha] at h; cases h
          | some x =>
            obtain ⟨x,r1⟩:=x
            rw [ha] at h; dsimp only at h
            obtain ⟨b,u,hbl,hf⟩:=attr_fst ha
            obtain ⟨f1,f2,_⟩:=fst_ne hf
            have hb:blk l≠[]:=by rw [hbl]; exact List.cons_ne_nil _ _
            have hn1:¬ [47,62].isPrefixOf (blk l++t)=true:=by rw [hbl]; intro h9; simp at h9; exact f1 h9.1.symm
            have hn2:¬ [62].isPrefixOf (blk l++t)=true:=by rw [hbl]; intro h9; simp at h9; exact f2 h9.symm
            rw [blk_app t hb,if_neg hn1,if_neg hn2,if_pos (by rw [List.length_append,List.length_append]; omega),attr_app t ha]
            exact tag_app t h (by omega)
        · cases h
theorem tag_ne' {n:Nat} {acc:List AT} {l:List UInt8} {x:List AT × Bool × List UInt8} (h:tagE n acc l=some x):l≠[]:=by
  rintro rfl
  cases n with
  | zero=>cases h
  | succ n=>rw [tagE] at h; revert h; simp [show blk []=[] from rfl]
theorem head_app {sp0:SPX} {l:List UInt8} {a:QN} {s:List UInt8} {m:List XA} {sp:SPX} {c:Bool} {r:List UInt8} (t:List UInt8) (h:headE sp0 l=some (a,s,m,sp,c,r)):headE sp0 (l++t)=some (a,s,m,sp,c,r++t):=by
  unfold headE at h ⊢
  cases hq:R7 l with
  | none=>rw [hq] at h; cases h
  | some y =>
    obtain ⟨y,r0⟩:=y
    rw [hq] at h; dsimp only at h
    cases ht:tagE (r0.length+1) [] r0 with
    | none=>rw [ht] at h; cases h
    | some z =>
      obtain ⟨ats,c1,r1⟩:=z
      rw [ht] at h; dsimp only at h
      rw [qual_app t hq (tag_ne' ht)]; dsimp only
      rw [tag_app t ht (by rw [List.length_append]; omega)]; dsimp only
      cases h1:spE ats [] sp0 with
      | none=>rw [h1] at h; cases h
      | some sp1 =>
        rw [h1] at h; dsimp only at h ⊢
        cases h2:spaceE y.pre y.has sp1 with
        | none=>rw [h2] at h; cases h
        | some s1 =>
          rw [h2] at h; dsimp only at h ⊢
          cases h3:marksE ats [] sp1 with
          | none=>rw [h3] at h; cases h
          | some m1 =>
            rw [h3] at h; dsimp only at h ⊢
            injection h with h; injection h with e1 h; injection h with e2 h; injection h with e3 h; injection h with e4 h; injection h with e5 e6
            subst e1; subst e2; subst e3; subst e4; subst e5; subst e6; rfl
theorem head_fst {sp0:SPX} {l:List UInt8} {x:QN × List UInt8 × List XA × SPX × Bool × List UInt8} (h:headE sp0 l=some x):∃ c l',l=c::l'∧fstX c=true:=by
  unfold headE at h
  cases hq:R7 l with
  | none=>rw [hq] at h; cases h
  | some y=>exact qual_fst hq
def ElT (el:List UInt8→EX):Prop:=∀ l x r t,el l=.ok (x,r)→el (l++t)=.ok (x,r++t)∧∃ c l',l=c::l'∧fstX c=true
theorem text_app {l x r:List UInt8} (t:List UInt8) (h:textE l=some (x,r)):textE (l++t)=some (x,r++t):=by
  unfold textE at h ⊢
  cases hi:idxL [60] l with
  | none=>rw [hi] at h; cases h
  | some i =>
    have hle:=idx_le hi
    rw [hi] at h; rw [idx_app t hi]; dsimp only at h ⊢
    rw [List.take_append_of_le_length (by omega),List.drop_append_of_le_length (by omega)]
    split at h
    · cases h
    · rename_i h0
      rw [if_neg h0]
      cases hr:refsE (l.take i) with
      | none=>rw [hr] at h; cases h
      | some y=>rw [hr] at h; dsimp only at h ⊢; injection h with h; injection h with h1 h2; rw [h1,h2]
theorem piece_app {el:List UInt8→EX} (hel:ElT el) {ks k2:List XN} {l r:List UInt8} (t:List UInt8) (h0:¬ [60,47].isPrefixOf l=true) (h:pieceE el ks l=.ok (k2,r)):pieceE el ks (l++t)=.ok (k2,r++t)∧¬ [60,47].isPrefixOf (l++t)=true:=by
  unfold pieceE at h ⊢
  split at h
  · rename_i hp
    obtain ⟨h1,h2⟩:=pre_app t hp
    have h2:(l++t).drop 9=l.drop 9++t:=h2
    have hl:=(List.isPrefixOf_iff_prefix.1 hp).length_le
    rw [if_pos h1,h2]
    refine ⟨?_,pre_appF t h0 (by simp only [List.length_cons,List.length_nil] at hl ⊢; omega)⟩
    cases hu:N8 [93,93,62] (l.drop 9) with
    | none=>rw [hu] at h; cases h
    | some x =>
      obtain ⟨x,r1⟩:=x
      rw [hu] at h; rw [until_app t hu]; dsimp only at h ⊢
      injection h with h; injection h with h1 h2; rw [h1,h2]
  · rename_i hp
    cases ha:M4 l with
    | none=>rw [ha] at h; cases h
    | some o =>
      cases o with
      | some r1 =>
        rw [ha] at h; dsimp only at h
        injection h with h; injection h with h1 h2; subst h1; subst h2
        have hc:∃ b u,l=60::b::u∧(b=33∧(∃ v,u=45::v)∨b=63):=by
          unfold M4 at ha
          split at ha
          · rename_i hq
            match l,hq with
            | [],hq=>cases hq
            | [_],hq=>simp at hq
            | [_,_],hq=>simp at hq
            | a::b::c::u,hq=>simp at hq; exact ⟨33,c::u,by rw [← hq.1,← hq.2.1],.inl ⟨rfl,u,by rw [← hq.2.2.1]⟩⟩
          · split at ha
            · rename_i hq
              match l,hq with
              | [],hq=>cases hq
              | [_],hq=>simp at hq
              | a::b::u,hq=>simp at hq; exact ⟨63,u,by rw [← hq.1,← hq.2],.inr rfl⟩
            · cases ha
        obtain ⟨b,u,hl,hb⟩:=hc
        have n1:¬ [60,33,91,67,68,65,84,65,91].isPrefixOf (l++t)=true:=by
          rw [hl]; rcases hb with ⟨rfl,v,rfl⟩ | rfl <;> simp
        have n2:¬ [60,47].isPrefixOf (l++t)=true:=by
          rw [hl]; rcases hb with ⟨rfl,v,rfl⟩ | rfl <;> simp
        rw [if_neg n1,aside_app t ha]
        exact ⟨rfl,n2⟩
      | none =>
        rw [ha] at h; dsimp only at h
        split at h
        · rename_i hq
          cases he:el (l.drop 1) with
          | error e=>rw [he] at h; cases h
          | ok x =>
            obtain ⟨x,r1⟩:=x
            rw [he] at h; dsimp only at h
            injection h with h; injection h with h1 h2; subst h1; subst h2
            obtain ⟨e1,c,u,e2,e3⟩:=hel _ _ _ t he
            obtain ⟨f1,f2,f3,f4,f5,f6⟩:=fst_ne e3
            have hl:l=60::c::u:=by
              cases l with
              | nil=>cases hq
              | cons b l=>simp at hq; rw [← hq]; exact congrArg _ e2
            have n1:¬ [60,33,91,67,68,65,84,65,91].isPrefixOf (l++t)=true:=by rw [hl]; intro h9; simp at h9; exact f3 h9.1.symm
            have n2:¬ [60,47].isPrefixOf (l++t)=true:=by rw [hl]; intro h9; simp at h9; exact f1 h9.symm
            have n3:M4 (l++t)=some none:=by
              unfold M4
              rw [if_neg (by rw [hl]; intro h9; simp at h9; exact f3 h9.1.symm),if_neg (by rw [hl]; intro h9; simp at h9; exact f4 h9.symm)]
            rw [if_neg n1,n3]; dsimp only
            obtain ⟨h1,h2⟩:=pre_app t hq
            have h2:(l++t).drop 1=l.drop 1++t:=h2
            rw [if_pos h1,h2,e1]
            exact ⟨rfl,n2⟩
        · rename_i hq
          cases he:textE l with
          | none=>rw [he] at h; cases h
          | some x =>
            obtain ⟨x,r1⟩:=x
            rw [he] at h; dsimp only at h
            injection h with h; injection h with h1 h2; subst h1; subst h2
            cases hl:l with
            | nil=>rw [hl] at he; cases he
            | cons b u =>
              have hb:b≠60:=by rintro rfl; rw [hl] at hq; exact hq rfl
              have np:∀ w,¬ (60::w).isPrefixOf (b::u++t)=true:=by intro w h9; simp at h9; exact hb h9.1.symm
              have n3:M4 (b::u++t)=some none:=by
                unfold M4
                rw [if_neg (np _),if_neg (np _)]
              rw [if_neg (np _),n3]; dsimp only
              rw [if_neg (np _),← hl,text_app t he]
              exact ⟨rfl,by rw [hl]; exact np _⟩
theorem cont_app {el:List UInt8→EX} (hel:ElT el) (t:List UInt8):∀ {n m:Nat} {ks k2:List XN} {l r:List UInt8},contE el n ks l=.ok (k2,r)→n≤m→contE el m ks (l++t)=.ok (k2,r++t)
  | 0,_,_,_,_,_,h,_=>by cases h
  | n+1,0,_,_,_,_,_,hm=>absurd hm (by omega)
  | n+1,m+1,ks,k2,l,r,h,hm=>by
    rw [contE] at h ⊢
    split at h
    · rename_i hp
      obtain ⟨h1,h2⟩:=pre_app t hp
      have h2:(l++t).drop 2=l.drop 2++t:=h2
      rw [if_pos h1,h2]
      injection h with h; injection h with h3 h4; rw [h3,h4]
    · rename_i hp
      cases hx:pieceE el ks l with
      | error e=>rw [hx] at h; cases h
      | ok x =>
        obtain ⟨x,r1⟩:=x
        rw [hx] at h; dsimp only at h
        obtain ⟨h1,h2⟩:=piece_app hel t hp hx
        rw [if_neg h2,h1]; dsimp only
        exact cont_app hel t h (by omega)
theorem end_app {a:QN} {l r:List UInt8} (t:List UInt8) (h:endE a l=some r):endE a (l++t)=some (r++t):=by
  unfold endE at h ⊢
  cases hq:R7 l with
  | none=>rw [hq] at h; cases h
  | some b =>
    obtain ⟨b,r0⟩:=b
    rw [hq] at h; dsimp only at h
    split at h
    · cases h
    · rename_i hb
      have hn:=must_ne' (by decide) h
      rw [qual_app t hq (blk_ne hn)]; dsimp only
      rw [if_neg hb,blk_app t hn,must_app t h]
theorem el_app:∀ (lv:Nat) (sp0:SPX),ElT (elE lv sp0)
  | lv,sp0=>by
    intro l x r t h
    rw [elE] at h ⊢
    cases hh:headE sp0 l with
    | none=>rw [hh] at h; cases h
    | some y =>
      obtain ⟨a,s,m,sp,c,r1⟩:=y
      refine ⟨?_,head_fst hh⟩
      rw [hh] at h; rw [head_app t hh]; dsimp only at h ⊢
      cases lv with
      | zero=>cases h
      | succ lv =>
        dsimp only at h ⊢
        split at h
        · rename_i hc
          rw [if_pos hc]; injection h with h; injection h with h1 h2; rw [h1,h2]
        · rename_i hc
          rw [if_neg hc]
          cases hk:contE (elE lv sp) (r1.length+1) [] r1 with
          | error e=>rw [hk] at h; cases h
          | ok k =>
            obtain ⟨k,r2⟩:=k
            rw [hk] at h; rw [cont_app (el_app lv sp) t hk (by rw [List.length_append]; omega)]; dsimp only at h ⊢
            cases he:endE a r2 with
            | none=>rw [he] at h; cases h
            | some r3 =>
              rw [he] at h; rw [end_app t he]; dsimp only at h ⊢
              injection h with h; injection h with h1 h2; rw [h1,h2]
end Go.Xml
namespace Go.Xml
open Go.Esc Go.Json Go.Lib
def arE (l:List UInt8):Option (List UInt8):=M9 (l.length+1) l
theorem aside_lt' {l r:List UInt8} (h:M4 l=some (some r)):r.length<l.length:=by
  have h1:=aside_ok (l:=l)
  rw [h] at h1
  have h2:=aside_lt (q:=(l,0)) (by rw [h1])
  rw [h1] at h2; exact h2
theorem around_fuel:∀ (n m:Nat) (l:List UInt8),l.length<n→l.length<m→M9 n l=M9 m l
  | 0,_,_,h,_=>absurd h (by omega)
  | _,0,_,_,h=>absurd h (by omega)
  | n+1,m+1,l,hn,hm=>by
    rw [M9,M9]
    cases ha:M4 (blk l) with
    | none=>rfl
    | some o =>
      cases o with
      | none=>rfl
      | some r =>
        have h1:=aside_lt' ha
        have h2:=Q5 l
        exact around_fuel n m r (by omega) (by omega)
theorem T9 (l:List UInt8):arE l=match M4 (blk l) with | none=>none | some (some r)=>arE r | some none=>some (blk l):=by
  unfold arE
  rw [M9]
  cases ha:M4 (blk l) with
  | none=>rfl
  | some o =>
    cases o with
    | none=>rfl
    | some r =>
      have h1:=aside_lt' ha
      have h2:=Q5 l
      exact around_fuel _ _ r (by omega) (by omega)
theorem arE_blk (l:List UInt8):arE (blk l)=arE l:=by rw [T9,blk_idem,← T9]
theorem arE_end (t:List UInt8):∀ (n:Nat) (l:List UInt8),l.length≤n→arE l=some []→arE (l++t)=arE t
  | n,l,hn,h=>by
    rw [T9] at h
    cases hb:blk l with
    | nil =>
      have e:blk (l++t)=blk t:=by
        clear h hn
        unfold blk at hb ⊢
        induction l with
        | nil=>rfl
        | cons b l ih =>
          rw [List.dropWhile_cons] at hb
          split at hb
          · rename_i h1; rw [List.cons_append,List.dropWhile_cons,if_pos h1]; exact ih hb
          · cases hb
      rw [← arE_blk,e,arE_blk]
    | cons b u =>
      have hne:blk l≠[]:=by rw [hb]; exact List.cons_ne_nil _ _
      cases ha:M4 (blk l) with
      | none=>rw [ha] at h; cases h
      | some o =>
        cases o with
        | none=>rw [ha] at h; dsimp only at h; injection h with h; exact absurd h hne
        | some r =>
          rw [ha] at h; dsimp only at h
          have h1:=aside_lt' ha
          have h2:=Q5 l
          have ha2:=aside_app t ha
          rw [T9 (l++t),blk_app t hne,ha2]; dsimp only
          cases n with
          | zero=>omega
          | succ n=>exact arE_end t n r (by omega) h
theorem arE_app (t:List UInt8):∀ (n:Nat) (l:List UInt8) (c:UInt8) (u:List UInt8),l.length≤n→arE l=some (60::c::u)→c≠33→c≠63→arE (l++t)=some (60::c::(u++t))
  | n,l,c,u,hn,h,hc1,hc2=>by
    rw [T9] at h
    cases ha:M4 (blk l) with
    | none=>rw [ha] at h; cases h
    | some o =>
      cases o with
      | none =>
        rw [ha] at h; dsimp only at h; injection h with h
        have hne:blk l≠[]:=by rw [h]; exact List.cons_ne_nil _ _
        rw [T9 (l++t),blk_app t hne,h]
        have hno:M4 (60::c::u++t)=some none:=by
          unfold M4
          rw [if_neg (by intro h9; simp at h9; exact hc1 h9.1.symm),if_neg (by intro h9; simp at h9; exact hc2 h9.symm)]
        rw [hno]; rfl
      | some r =>
        rw [ha] at h; dsimp only at h
        have h1:=aside_lt' ha
        have h2:=Q5 l
        have hne:blk l≠[]:=by intro h0; rw [h0] at h1; exact absurd h1 (by simp)
        rw [T9 (l++t),blk_app t hne,aside_app t ha]; dsimp only
        cases n with
        | zero=>omega
        | succ n=>exact arE_app t n r c u (by omega) h hc1 hc2
def Amb (s:List UInt8):Prop:=(∀ l,arE (s++l)=arE l)∧Pl s
theorem Amb.nil:Amb []:=⟨fun _=>rfl,Pl.nil⟩
theorem Amb.app {a b:List UInt8} (ha:Amb a) (hb:Amb b):Amb (a++b):=⟨fun l=>by rw [List.append_assoc,ha.1,hb.1],ha.2.app hb.2⟩
theorem amb_of {s:List UInt8} (h:arE s=some []) (hp:Pl s):Amb s:=⟨fun l=>arE_end l _ s (Nat.le_refl _) h,hp⟩
def rmks:List (List UInt8):=[[32],[60,33,45,45,32,114,32,45,45,62],[60,63,105,32,100,63,62],[10],[60,33,45,45,45,45,62]]
theorem rmk_amb (i:Nat):Amb (rmks.getD i []):=by
  match i with
  | 0=>exact amb_of (by kernel_rfl) (pl_of (by kernel_rfl) (by kernel_rfl))
  | 1=>exact amb_of (by kernel_rfl) (pl_of (by kernel_rfl) (by kernel_rfl))
  | 2=>exact amb_of (by kernel_rfl) (pl_of (by kernel_rfl) (by kernel_rfl))
  | 3=>exact amb_of (by kernel_rfl) (pl_of (by kernel_rfl) (by kernel_rfl))
  | 4=>exact amb_of (by kernel_rfl) (pl_of (by kernel_rfl) (by kernel_rfl))
  | i+5=>exact Amb.nil
theorem rmk_len (i:Nat):(rmks.getD i []).length≤10:=by
  match i with
  | 0=>show 1≤10; decide
  | 1=>show 10≤10; decide
  | 2=>show 7≤10; decide
  | 3=>show 1≤10; decide
  | 4=>show 7≤10; decide
  | i+5=>exact Nat.zero_le _
theorem par_yes {l:List UInt8} {x:XN} (h:parE l=(x,0)) (_:(parE l).2=0):l.length≤65536∧Pl (D2 l)∧∃ c u r2,arE (D2 l)=some (60::c::u)∧fstX c=true∧elE 24 G8 (c::u)=.ok (x,r2)∧arE r2=some []:=by
  unfold parE at h
  split at h
  · injection h with _ h; cases h
  · rename_i hl
    split at h
    · injection h with _ h; cases h
    · rename_i hv
      have hv1:N1 (D2 l)=true:=by cases hq:N1 (D2 l) with | true=>rfl | false=>exact absurd (.inl hq) hv
      have hv2:I6 (D2 l)=D2 l:=by
        by_cases hq:I6 (D2 l)=D2 l
        · exact hq
        · exact absurd (.inr hq) hv
      refine ⟨by omega,pl_of hv1 hv2,?_⟩
      change (match arE (D2 l) with | none=>_ | some r=>_)=_ at h
      cases ha:arE (D2 l) with
      | none=>rw [ha] at h; injection h with _ h; cases h
      | some r =>
        rw [ha] at h; dsimp only at h
        cases hm:Q9 [60] r with
        | none=>rw [hm] at h; injection h with _ h; cases h
        | some r1 =>
          rw [hm] at h; dsimp only at h
          have hr:r=60::r1:=by
            unfold Q9 at hm
            split at hm
            · rename_i hp; injection hm with hm
              have:=pre_eq hp
              rw [this]; exact congrArg _ hm
            · cases hm
          cases he:elE 24 G8 r1 with
          | error e =>
            rw [he] at h; injection h with _ h
            exfalso
            have:=(el_ok 24 G8) r1
            have hpl:Pl r1:=by
              have hq:=W3 ((D2 l).length+1) ((D2 l).length+1) (D2 l) (pl_of hv1 hv2) (Nat.lt_succ_self _) (Nat.lt_succ_self _)
              change match arE (D2 l) with | some r=>_ | none=>_ at hq
              rw [ha] at hq
              have:=hq.2.1
              rw [hr] at this
              exact this.tail (by decide)
            have h2:=this hpl
            rw [he] at h2
            exact h2.2 h
          | ok y =>
            obtain ⟨y,r2⟩:=y
            rw [he] at h; dsimp only at h
            obtain ⟨_,c,u,e2,e3⟩:=(el_app 24 G8) _ _ _ [] he
            change (match arE r2 with | none=>_ | some r=>_)=_ at h
            cases hb:arE r2 with
            | none=>rw [hb] at h; injection h with _ h; cases h
            | some r3 =>
              rw [hb] at h; dsimp only at h
              split at h
              · rename_i h3
                injection h with h _; subst h
                exact ⟨c,u,r2,by rw [hr,e2],e3,by rw [← e2]; exact he,by rw [hb,h3]⟩
              · injection h with _ h; cases h
theorem bom_ne {c:UInt8} {u:List UInt8} (h:c≠239):D2 (c::u)=c::u:=by
  unfold D2
  rw [if_neg (by intro h9; simp at h9; exact h h9.1.symm)]
theorem arE_none {l:List UInt8} {c:UInt8} {u:List UInt8} (h:arE l=some (60::c::u)):l≠[]:=by
  rintro rfl
  have:arE []=some []:=by kernel_rfl
  rw [this] at h; cases h
theorem par_mk {l:List UInt8} (hl:l.length≤65536) (hp:Pl (D2 l)) {c:UInt8} {u r2:List UInt8} {x:XN} (h1:arE (D2 l)=some (60::c::u)) (h2:elE 24 G8 (c::u)=.ok (x,r2)):parE l=match arE r2 with | none=>(T2,70) | some r3=>if r3=[] then (x,0) else (T2,70):=by
  unfold parE
  rw [if_neg (by omega),if_neg (by rintro (h | h); rw [pl_valid hp] at h; cases h; exact h (pl_plain hp))]
  change (match arE (D2 l) with | none=>_ | some r=>_)=_
  rw [h1]
  dsimp only
  rw [show Q9 [60] (60::c::u)=some (c::u) from rfl]
  dsimp only
  rw [h2]; rfl
theorem bom_app {l t:List UInt8} (h:[239,187,191].isPrefixOf l=true):D2 (l++t)=D2 l++t:=by
  obtain ⟨h1,h2⟩:=pre_app t h
  unfold D2
  rw [if_pos h1,if_pos h]; exact h2
theorem doc_first {l:List UInt8} (h:¬ [239,187,191].isPrefixOf l=true) {c:UInt8} {u:List UInt8} (h1:arE (D2 l)=some (60::c::u)):∃ b v,l=b::v∧b≠239:=by
  have hb:D2 l=l:=if_neg h
  rw [hb] at h1
  cases l with
  | nil=>exact absurd rfl (arE_none h1)
  | cons b v =>
    refine ⟨b,v,rfl,?_⟩
    rintro rfl
    rw [T9] at h1
    have e:blk (239::v)=239::v:=rfl
    have ha:M4 (239::v)=some none:=rfl
    rw [e,ha] at h1
    injection h1 with h1; injection h1 with h1 _; cases h1
theorem rmk_law {l a b:List UInt8} {x:XN} (h:parE l=(x,0)) (ha:Amb a) (hb:Amb b) (hl:(a++l++b).length≤65536) (hbom:a=[]∨(a.head?≠some 239∧¬ [239,187,191].isPrefixOf l=true)):parE (a++l++b)=(x,0):=by
  obtain ⟨h0,hp,c,u,r2,h1,h2,h3,h4⟩:=par_yes h (by rw [h])
  obtain ⟨f1,f2,f3,f4,f5,f6⟩:=fst_ne h2
  have hB:D2 (a++l++b)=a++D2 l++b:=by
    by_cases hq:[239,187,191].isPrefixOf l=true
    · rcases hbom with rfl | hbom
      · simp only [List.nil_append]; exact bom_app hq
      · exact absurd hq hbom.2
    · obtain ⟨d,v,hd,hdn⟩:=doc_first hq h1
      rw [show D2 l=l from if_neg hq]
      cases a with
      | nil=>rw [List.nil_append,hd]; exact bom_ne hdn
      | cons e a =>
        rcases hbom with hbom | hbom
        · cases hbom
        · exact bom_ne (fun he=>hbom.1 (by rw [he]; rfl))
  have hA:arE (D2 (a++l++b))=some (60::c::(u++b)):=by
    rw [hB,List.append_assoc,ha.1]
    exact arE_app b _ _ c u (Nat.le_refl _) h1 f3 f4
  have hE:=((el_app 24 G8) _ _ _ b h3).1
  rw [par_mk hl (by rw [hB]; exact (ha.2.app hp).app hb.2) hA hE,arE_end b _ r2 (Nat.le_refl _) h4]
  have:=hb.1 []
  rw [List.append_nil] at this
  rw [this,show arE []=some [] from by kernel_rfl]; rfl
theorem rmk_second {l:List UInt8} {x:XN} (h:parE l=(x,0)) (hl:l.length+4≤65536):(parE (l++[60,122,47,62])).2=70:=by
  obtain ⟨h0,hp,c,u,r2,h1,h2,h3,h4⟩:=par_yes h (by rw [h])
  obtain ⟨f1,f2,f3,f4,f5,f6⟩:=fst_ne h2
  have hB:D2 (l++[60,122,47,62])=D2 l++[60,122,47,62]:=by
    by_cases hq:[239,187,191].isPrefixOf l=true
    · exact bom_app hq
    · obtain ⟨d,v,hd,hdn⟩:=doc_first hq h1
      rw [show D2 l=l from if_neg hq,hd]
      exact bom_ne hdn
  have hA:arE (D2 (l++[60,122,47,62]))=some (60::c::(u++[60,122,47,62])):=by
    rw [hB]; exact arE_app _ _ _ c u (Nat.le_refl _) h1 f3 f4
  have hE:=((el_app 24 G8) _ _ _ [60,122,47,62] h3).1
  rw [par_mk (by rw [List.length_append]; exact hl) (by rw [hB]; exact hp.app (pl_of (by kernel_rfl) (by kernel_rfl))) hA hE,arE_end _ _ r2 (Nat.le_refl _) h4,show arE [60,122,47,62]=some [60,122,47,62] from by kernel_rfl]
  rfl
end Go.Xml
namespace Go.Xml
open Go.Esc Go.Json Go.Lib
mutual
def cnX:XN→Nat
  | .mk _ _ ats l _=>1+ats.length+cnXL l
def cnXL:List XN→Nat
  | []=>0
  | v::l=>cnX v+cnXL l
end
theorem cnX_eq (s n:List UInt8) (ats:List XA) (l:List XN) (t:List UInt8):cnX (.mk s n ats l t)=1+ats.length+cnXL l:=by simp only [cnX]
theorem P1 (v:XN) (l:List XN):cnXL (v::l)=cnX v+cnXL l:=by simp only [cnXL]
theorem T8:cnXL []=0:=by simp only [cnXL]
theorem cnX_pos (v:XN):0<cnX v:=by cases v; rw [cnX_eq]; omega
theorem cnX_sum (x:XN):cnX x=1+x.attrs.length+cnXL x.kids:=by cases x; exact cnX_eq _ _ _ _ _
theorem cnXL_app:∀ l m:List XN,cnXL (l++m)=cnXL l+cnXL m
  | [],m=>by rw [T8,List.nil_append,Nat.zero_add]
  | v::l,m=>by rw [List.cons_append,P1,P1,cnXL_app l m,Nat.add_assoc]
theorem cnXL_len:∀ l:List XN,l.length≤cnXL l
  | []=>Nat.zero_le _
  | v::l=>by have:=cnXL_len l; have:=cnX_pos v; rw [P1,List.length_cons]; omega
theorem cnX_parts (x:XN):x.attrs.length+x.kids.length+1≤cnX x:=by
  have:=cnXL_len x.kids
  rw [cnX_sum]; omega
theorem cnXL_at:∀ {l:List XN} {i:Nat} (h:i<l.length),cnX l[i]≤cnXL l
  | [],_,h=>absurd h (Nat.not_lt_zero _)
  | v::l,0,_=>by rw [P1]; show cnX v≤_; omega
  | v::l,i+1,h=>by
    have hi:i<l.length:=by simpa using h
    have:=cnXL_at hi
    rw [P1]; show cnX l[i]≤_; omega
theorem cnX_kid {x:XN} {i:Nat} (h:i<x.kids.length):cnX x.kids[i]<cnX x:=by
  have:=cnXL_at h
  rw [cnX_sum x]; omega
theorem cn_nul:cnX T2=1:=by kernel_rfl
theorem add_cn (ks:List XN) (s:List UInt8):cnXL (addX ks s)≤cnXL ks+1:=by
  unfold addX
  split
  · omega
  · split
    · rename_i sp at_ kk t h
      have e:ks=ks.dropLast++[.mk sp [] at_ kk t]:=by
        have hk:ks≠[]:=by rintro rfl; cases h
        rw [List.getLast?_eq_some_getLast hk] at h
        injection h with h
        rw [← h]; exact (List.dropLast_concat_getLast hk).symm
      have h2:=congrArg cnXL e
      rw [cnXL_app,P1,T8,cnX_eq] at h2
      rw [cnXL_app,P1,T8,cnX_eq]; omega
    · rw [cnXL_app,P1,T8,cnX_eq,T8]; simp
theorem marks_cn:∀ {ats:List AT} {out m:List XA} {sp:SPX},marksE ats out sp=some m→m.length≤out.length+ats.length
  | [],out,m,sp,h=>by rw [marksE] at h; injection h with h; subst h; omega
  | a::r,out,m,sp,h=>by
    rw [marksE] at h
    split at h
    · have:=marks_cn h; rw [List.length_cons]; omega
    · split at h
      · cases h
      · split at h
        · cases h
        · have:=marks_cn h; rw [List.length_append,List.length_cons,List.length_nil] at this; rw [List.length_cons]; omega
theorem tag_cn:∀ {n:Nat} {acc:List AT} {l:List UInt8} {ats:List AT} {c:Bool} {r:List UInt8},Pl l→tagE n acc l=some (ats,c,r)→ats.length+r.length≤acc.length+l.length∧Pl r
  | 0,_,_,_,_,_,_,h=>by cases h
  | n+1,acc,l,ats,c,r,hp,h=>by
    rw [tagE] at h
    have hb:=Q5 l
    split at h
    · rename_i hq
      injection h with h; injection h with h3 h; injection h with h4 h5; subst h3; subst h4; subst h5
      rw [List.length_drop]; exact ⟨by omega,hp.blk.pre hq (by decide)⟩
    · split at h
      · rename_i hq
        injection h with h; injection h with h3 h; injection h with h4 h5; subst h3; subst h4; subst h5
        rw [List.length_drop]; exact ⟨by omega,hp.blk.pre hq (by decide)⟩
      · split at h
        · cases ha:attrE (blk l) with
          | none=>rw [ha] at h; cases h
          | some x =>
            obtain ⟨x,r1⟩:=x
            rw [ha] at h; dsimp only at h
            obtain ⟨h1,h2,_⟩:=attr_pl hp.blk ha
            dsimp only at h1 h2
            have h3:=tag_cn h1 h
            rw [List.length_append,List.length_cons,List.length_nil] at h3
            exact ⟨by omega,h3.2⟩
        · cases h
theorem head_cn {sp0:SPX} {l:List UInt8} {a:QN} {s:List UInt8} {m:List XA} {sp:SPX} {c:Bool} {r:List UInt8} (hp:Pl l) (h:headE sp0 l=some (a,s,m,sp,c,r)):1+m.length+r.length≤l.length∧Pl r:=by
  unfold headE at h
  cases hq:R7 l with
  | none=>rw [hq] at h; cases h
  | some y =>
    obtain ⟨y,r0⟩:=y
    rw [hq] at h; dsimp only at h
    obtain ⟨p1,p2,_⟩:=qual_pl hp hq
    dsimp only at p1 p2
    cases ht:tagE (r0.length+1) [] r0 with
    | none=>rw [ht] at h; cases h
    | some z =>
      obtain ⟨ats,c1,r1⟩:=z
      rw [ht] at h; dsimp only at h
      have ht2:=tag_cn p1 ht
      rw [List.length_nil] at ht2
      cases h1:spE ats [] sp0 with
      | none=>rw [h1] at h; cases h
      | some sp1 =>
        rw [h1] at h; dsimp only at h
        cases h2:spaceE y.pre y.has sp1 with
        | none=>rw [h2] at h; cases h
        | some s1 =>
          rw [h2] at h; dsimp only at h
          cases h3:marksE ats [] sp1 with
          | none=>rw [h3] at h; cases h
          | some m1 =>
            rw [h3] at h; dsimp only at h
            injection h with h; injection h with e1 h; injection h with e2 h; injection h with e3 h; injection h with e4 h; injection h with e5 e6
            subst e1; subst e2; subst e3; subst e4; subst e5; subst e6
            have h4:=marks_cn h3
            rw [List.length_nil] at h4
            exact ⟨by omega,ht2.2⟩
def ElC (el:List UInt8→EX):Prop:=∀ l x r,Pl l→el l=.ok (x,r)→cnX x+r.length≤l.length∧Pl r
theorem piece_cn {el:List UInt8→EX} (hel:ElC el) {ks k2:List XN} {l r:List UInt8} (hp:Pl l) (h:pieceE el ks l=.ok (k2,r)):cnXL k2+r.length≤cnXL ks+l.length∧Pl r:=by
  unfold pieceE at h
  split at h
  · rename_i hq
    have h1:=hp.pre hq (by decide)
    have h1:Pl (l.drop 9):=h1
    have hl:=(List.isPrefixOf_iff_prefix.1 hq).length_le
    cases hu:N8 [93,93,62] (l.drop 9) with
    | none=>rw [hu] at h; cases h
    | some x =>
      obtain ⟨x,r1⟩:=x
      rw [hu] at h; dsimp only at h
      injection h with h; injection h with h3 h4; subst h3; subst h4
      obtain ⟨_,h5,h6⟩:=until_pl h1 (by decide) (by decide) hu
      dsimp only at h5 h6
      rw [List.length_drop] at h6
      have:=add_cn ks (A7 x)
      exact ⟨by omega,h5⟩
  · cases ha:M4 l with
    | none=>rw [ha] at h; cases h
    | some o =>
      cases o with
      | some r1 =>
        rw [ha] at h; dsimp only at h
        injection h with h; injection h with h1 h2; subst h1; subst h2
        obtain ⟨h3,h4⟩:=aside_pl hp ha
        exact ⟨by omega,h3⟩
      | none =>
        rw [ha] at h; dsimp only at h
        split at h
        · rename_i hq
          have h1:=hp.pre hq (by decide)
          have h1:Pl (l.drop 1):=h1
          cases he:el (l.drop 1) with
          | error e=>rw [he] at h; cases h
          | ok x =>
            obtain ⟨x,r1⟩:=x
            rw [he] at h; dsimp only at h
            injection h with h; injection h with h3 h4; subst h3; subst h4
            obtain ⟨h5,h6⟩:=hel _ _ _ h1 he
            rw [List.length_drop] at h5
            rw [cnXL_app,P1,T8]
            exact ⟨by omega,h6⟩
        · rename_i hq
          cases he:textE l with
          | none=>rw [he] at h; cases h
          | some x =>
            obtain ⟨x,r1⟩:=x
            rw [he] at h; dsimp only at h
            injection h with h; injection h with h3 h4; subst h3; subst h4
            obtain ⟨h5,h6⟩:=text_pl hp he (by cases hz:[60].isPrefixOf l with | true=>exact absurd hz hq | false=>rfl)
            dsimp only at h5 h6
            have:=add_cn ks x
            exact ⟨by omega,h5⟩
theorem cont_cn {el:List UInt8→EX} (hel:ElC el):∀ {n:Nat} {ks k2:List XN} {l r:List UInt8},Pl l→contE el n ks l=.ok (k2,r)→cnXL k2+r.length≤cnXL ks+l.length∧Pl r
  | 0,_,_,_,_,_,h=>by cases h
  | n+1,ks,k2,l,r,hp,h=>by
    rw [contE] at h
    split at h
    · rename_i hq
      injection h with h; injection h with h3 h4; subst h3; subst h4
      rw [List.length_drop]
      exact ⟨by omega,hp.pre hq (by decide)⟩
    · cases hx:pieceE el ks l with
      | error e=>rw [hx] at h; cases h
      | ok x =>
        obtain ⟨x,r1⟩:=x
        rw [hx] at h; dsimp only at h
        obtain ⟨h1,h2⟩:=piece_cn hel hp hx
        obtain ⟨h3,h4⟩:=cont_cn hel h2 h
        exact ⟨by omega,h4⟩
theorem end_cn {a:QN} {l r:List UInt8} (hp:Pl l) (h:endE a l=some r):r.length≤l.length∧Pl r:=by
  unfold endE at h
  cases hq:R7 l with
  | none=>rw [hq] at h; cases h
  | some b =>
    obtain ⟨b,r0⟩:=b
    rw [hq] at h; dsimp only at h
    obtain ⟨p1,p2,_⟩:=qual_pl hp hq
    dsimp only at p1 p2
    split at h
    · cases h
    · obtain ⟨h1,h2⟩:=must_pl p1.blk (by decide) (by decide) h
      have:=Q5 r0
      exact ⟨by omega,h1⟩
theorem el_cn:∀ (lv:Nat) (sp0:SPX),ElC (elE lv sp0)
  | lv,sp0=>by
    intro l x r hp h
    rw [elE] at h
    cases hh:headE sp0 l with
    | none=>rw [hh] at h; cases h
    | some y =>
      obtain ⟨a,s,m,sp,c,r1⟩:=y
      obtain ⟨h1,h2⟩:=head_cn hp hh
      rw [hh] at h; dsimp only at h
      cases lv with
      | zero=>cases h
      | succ lv =>
        dsimp only at h
        split at h
        · injection h with h; injection h with h3 h4; subst h3; subst h4
          rw [cnX_eq,T8]; exact ⟨by omega,h2⟩
        · cases hk:contE (elE lv sp) (r1.length+1) [] r1 with
          | error e=>rw [hk] at h; cases h
          | ok k =>
            obtain ⟨k,r2⟩:=k
            rw [hk] at h; dsimp only at h
            obtain ⟨h3,h4⟩:=cont_cn (el_cn lv sp) h2 hk
            rw [T8] at h3
            cases he:endE a r2 with
            | none=>rw [he] at h; cases h
            | some r3 =>
              rw [he] at h; dsimp only at h
              injection h with h; injection h with h5 h6; subst h5; subst h6
              obtain ⟨h7,h8⟩:=end_cn h4 he
              rw [cnX_eq]; exact ⟨by omega,h8⟩
theorem parE_cn (l:List UInt8):cnX (parE l).1≤l.length+1:=by
  by_cases hx:∃ x,parE l=(x,0)
  · obtain ⟨x,hx⟩:=hx
    obtain ⟨h0,hp,c,u,r2,h1,h2,h3,h4⟩:=par_yes hx (by rw [hx])
    have ha:=W3 ((D2 l).length+1) ((D2 l).length+1) (D2 l) hp (Nat.lt_succ_self _) (Nat.lt_succ_self _)
    change match arE (D2 l) with | some r=>_ | none=>_ at ha
    rw [h1] at ha
    obtain ⟨_,h5,h6⟩:=ha
    obtain ⟨h7,_⟩:=el_cn 24 G8 _ _ _ (h5.tail (by decide)) h3
    have h8:(D2 l).length≤l.length:=by
      unfold D2
      split
      · rw [List.length_drop]; omega
      · omega
    rw [hx]
    show cnX x≤_
    rw [List.length_cons] at h6
    omega
  · have:(parE l).1=T2:=by
      have hx2:∀ x,parE l≠(x,0):=fun x h=>hx ⟨x,h⟩
      unfold parE at hx2 ⊢
      revert hx2
      split
      · intro _; rfl
      · split
        · intro _; rfl
        · split
          · intro _; rfl
          · split
            · intro _; rfl
            · split
              · intro _; rfl
              · split
                · intro _; rfl
                · split
                  · intro h; exact absurd rfl (h _)
                  · intro _; rfl
    rw [this,cn_nul]; omega
theorem parX_cn (l:List UInt8):cnX (D8 l).1≤l.length+1:=by rw [par_ok]; exact parE_cn l
end Go.Xml
namespace Go.Proofs.YtppgfiklmfoaeaaGreatDoor
open Go.Sw Go.Sha Go.Esc Go.RowKit Go.Json Go.Xml
theorem xsameW_ (x:XN) (an:Option Addr) (cn:Nat) (al:Option Addr) (cl:Nat) (cs:List Value) (S:Nat→Obj→Prop) (hra:Rd S an (xaV x.attrs)) (hrl:Rd S al cs) (hrc:XRdL S x.kids cs) (an2:Option Addr) (cn2:Nat) (al2:Option Addr) (cl2:Nat) (cs2:List Value) (S2:Nat→Obj→Prop) (hra2:Rd S2 an2 (xaV x.attrs)) (hrl2:Rd S2 al2 cs2) (hrc2:XRdL S2 x.kids cs2) (hw:cnX x≤100000000) (hrec:∀ (y:XN),cnX y<cnX x→cnX y≤100000000→∀ (an:Option Addr) (cn:Nat) (al:Option Addr) (cl:Nat) (cs:List Value),Rd S an (xaV y.attrs)→Rd S al cs→XRdL S y.kids cs→∀ (an2:Option Addr) (cn2:Nat) (al2:Option Addr) (cl2:Nat) (cs2:List Value),Rd S2 an2 (xaV y.attrs)→Rd S2 al2 cs2→XRdL S2 y.kids cs2→∀ (W0:World) (H:List Grp),(∀ z o,S z o→At W0 H z o)→(∀ z o,S2 z o→At W0 H z o)→Tri Tryz.prog 31 #[.agg (xvC y an cn al cl).toArray,.agg (xvC y an2 cn2 al2 cl2).toArray] W0 H (fun v H'=>v=.bool true∧H'=H)) (W0:World) (H:List Grp) (hS:∀ y o,S y o→At W0 H y o) (hS2:∀ y o,S2 y o→At W0 H y o):Tri Tryz.prog 31 #[.agg #[.string (bk x.space),.string (bk x.name),.slice an x.attrs.length cn,.slice al x.kids.length cl,.string (bk x.text)],.agg #[.string (bk x.space),.string (bk x.name),.slice an2 x.attrs.length cn2,.slice al2 x.kids.length cl2,.string (bk x.text)]] W0 H (fun v H'=>v=.bool true∧H'=H):=by
 have hpx:=cnX_parts x
 refine D0 (args:=[.agg #[.string (bk x.space),.string (bk x.name),.slice an x.attrs.length cn,.slice al x.kids.length cl,.string (bk x.text)],.agg #[.string (bk x.space),.string (bk x.name),.slice an2 x.attrs.length cn2,.slice al2 x.kids.length cl2,.string (bk x.text)]]) (n:=81) Tryz.func31 rfl rfl (Nat.le_of_ble_eq_true rfl) ?_
 refine A1 (A3 ?_)
 refine T1 (ch:=[]) (v:=.agg #[.string (bk x.space),.string (bk x.name),.slice an x.attrs.length cn,.slice al x.kids.length cl,.string (bk x.text)]) (k:=(fun b1=>?_))
 refine T1 (ch:=[]) (v:=.agg #[.string (bk x.space),.string (bk x.name),.slice an2 x.attrs.length cn2,.slice al2 x.kids.length cl2,.string (bk x.text)]) (k:=(fun b2=>?_))
 refine B5 (E':=[⟨2,[],pt b1⟩,⟨3,[],pt b2⟩]) [0] [2,3] (k:=A0 ?_)
 refine A1 (A1 ?_)
 refine A3 (A4 (j:=1) [0] (k:=?_))
 refine A6 (ch:=[]) (b:=b1) (off:=0) (v:=.string (bk x.space)) (hA:=At.grp 1 0 rfl rfl) (k:=A4 (j:=3) [0] (k:=?_))
 refine A6 (ch:=[]) (b:=b2) (off:=0) (v:=.string (bk x.space)) (hA:=At.grp 0 0 rfl rfl) (k:=A4 (j:=7) [0,0,0] (k:=?_))
 refine A6 (ch:=[(12,false)]) (b:=b1) (off:=1) (v:=.string (bk x.name)) (hA:=At.grp 1 0 rfl rfl) (k:=A4 (j:=9) [0] (k:=?_))
 refine A6 (ch:=[(12,false)]) (b:=b2) (off:=1) (v:=.string (bk x.name)) (hA:=At.grp 0 0 rfl rfl) (k:=A4 (j:=14) [0,5,0,0] (k:=?_))
 refine A6 (ch:=[(19,false)]) (b:=b1) (off:=4) (v:=.string (bk x.text)) (hA:=At.grp 1 0 rfl rfl) (k:=A4 (j:=16) [0] (k:=?_))
 refine A6 (ch:=[(19,false)]) (b:=b2) (off:=4) (v:=.string (bk x.text)) (hA:=At.grp 0 0 rfl rfl) (k:=A4 (j:=21) [0,5,0,0] (k:=?_))
 refine A6 (ch:=[(26,false)]) (b:=b1) (off:=2) (v:=.slice an x.attrs.length cn) (hA:=At.grp 1 0 rfl rfl) (k:=A4 (j:=24) [0,0] (k:=?_))
 refine A6 (ch:=[(26,false)]) (b:=b2) (off:=2) (v:=.slice an2 x.attrs.length cn2) (hA:=At.grp 0 0 rfl rfl) (k:=A4 (j:=30) [0,0,5,0,0] (k:=?_))
 refine A6 (ch:=[(35,false)]) (b:=b1) (off:=3) (v:=.slice al x.kids.length cl) (hA:=At.grp 1 0 rfl rfl) (k:=A4 (j:=33) [0,0] (k:=?_))
 refine A6 (ch:=[(35,false)]) (b:=b2) (off:=3) (v:=.slice al2 x.kids.length cl2) (hA:=At.grp 0 0 rfl rfl) (k:=B1 [0,0,5] [2,3,43] (k:=?_))
 refine A0 (B7 (b:=((((!((bk x.space).toList==(bk x.space).toList))||(!((bk x.name).toList==(bk x.name).toList)))||(!((bk x.text).toList==(bk x.text).toList)))||(((x.attrs.length:Nat):Int) != ((x.attrs.length:Nat):Int)))||(((x.kids.length:Nat):Int) != ((x.kids.length:Nat):Int))) kr (fun hc3=>?_) (fun hc3=>?_))
 ·
  simp at hc3
 ·
  skip
  refine B4 (A0 ?_)
  refine A1 (A1 ?_)
  refine A3 (A4 (j:=1) [0] (k:=?_))
  refine A6 (ch:=[]) (b:=b1) (off:=2) (v:=.slice an x.attrs.length cn) (hA:=At.grp 1 0 rfl rfl) (k:=B1 [0,0] [2,3,46,47] (k:=?_))
  refine A0 (B8 ?_)
  refine L4 (EI:=(fun ξ:Nat=>[⟨2,[],pt b1⟩,⟨3,[],pt b2⟩,⟨46,[],.int .i64 ((x.attrs.length:Nat):Int)⟩,⟨47,[],.int .i64 ((ξ:Nat):Int)⟩])) (HI:=(fun ξ:Nat=>([(b2,.cells #[.string (bk x.space),.string (bk x.name),.slice an2 x.attrs.length cn2,.slice al2 x.kids.length cl2,.string (bk x.text)] 55 (0,0))]::[(b1,.cells #[.string (bk x.space),.string (bk x.name),.slice an x.attrs.length cn,.slice al x.kids.length cl,.string (bk x.text)] 55 (0,0))]::H))) (Φ:=(fun ξ:Nat=>(ξ≤x.attrs.length))) (μ:=(fun ξ:Nat=>x.attrs.length - ξ)) (s0:=(0)) [2,3,46,47] kr rfl (Nat.zero_le _) ?_
  rintro k hkl
  refine A1 (G_p [0] [2,3,46,47,48] (k:=?_))
  refine A0 (A1 ?_)
  refine B7 (b:=decide (((k:Nat):Int)<((x.attrs.length:Nat):Int))) kr (fun hc4=>?_) (fun hc4=>?_)
  ·
   have hk:k<x.attrs.length:=by have:=hc4; simp only [decide_eq_true_eq] at this; omega
   obtain ⟨y,hy⟩:∃ y,y=x.attrs[k]'hk:=⟨_,rfl⟩
   refine B4 (A0 ?_)
   refine A1 (B8 ?_)
   refine A1 (G_p [0,0] [2,3,5,46,47] (k:=?_))
   refine A0 (A1 ?_)
   refine I8 (k:=A4 (j:=1) [0] (k:=?_))
   refine A6 (ch:=[]) (b:=b1) (off:=2) (v:=.slice an x.attrs.length cn) (hA:=At.grp 1 0 rfl rfl) (k:=A4 (j:=3) [0] (k:=?_))
   refine A9 (ch:=[]) (a:=an) (len:=x.attrs.length) (cap:=cn) (kd:=.i64) (j:=((k:Nat):Int)) (e:=75) (sz:=3) (S:=S) (cs:=(xaV x.attrs)) (hrd:=hra) (hb:=(fun _=>by exact ⟨by omega,by omega,by intro h; have h2:=congrArg List.length h; rw [xaV_len] at h2; simp only [List.length_nil] at h2; omega⟩)) (k:=L0 (ch:=[]) (a:=an) (q:=k * 3) (S:=S) (cs:=(xaV x.attrs)) (l:=[.string (bk y.space),.string (bk y.name),.string (bk y.value)]) (hrd:=hra) (hS:=(fun y o h=>At.cons (At.cons ((hS y o h))))) (hl:=List.cons_ne_nil _ _) (hv:=(fun _=>(elt3 (by rw [hy]; exact xaV_at hk)))) (k:=?_))
   refine A4 (j:=6) [0] (k:=A6 (ch:=[]) (b:=b2) (off:=2) (v:=.slice an2 x.attrs.length cn2) (hA:=At.grp 0 0 rfl rfl) (k:=?_))
   refine A4 (j:=8) [0] (k:=A9 (ch:=[]) (a:=an2) (len:=x.attrs.length) (cap:=cn2) (kd:=.i64) (j:=((k:Nat):Int)) (e:=75) (sz:=3) (S:=S2) (cs:=(xaV x.attrs)) (hrd:=hra2) (hb:=(fun _=>by exact ⟨by omega,by omega,by intro h; have h2:=congrArg List.length h; rw [xaV_len] at h2; simp only [List.length_nil] at h2; omega⟩)) (k:=?_))
   refine L0 (ch:=[]) (a:=an2) (q:=k * 3) (S:=S2) (cs:=(xaV x.attrs)) (l:=[.string (bk y.space),.string (bk y.name),.string (bk y.value)]) (hrd:=hra2) (hS:=(fun y o h=>At.cons (At.cons ((hS2 y o h))))) (hl:=List.cons_ne_nil _ _) (hv:=(fun _=>(elt3 (by rw [hy]; exact xaV_at hk)))) (k:=GL_eqAgg true (i:=10) (ch:=[]) (A:=[.string (bk y.space),.string (bk y.name),.string (bk y.value)]) (B:=[.string (bk y.space),.string (bk y.name),.string (bk y.value)]) (r:=false) rfl rfl kr kr kr (by rw [cellsEq_same]; rfl) kr kr kr ?_)
   refine B1 [] [2,3,46,47,60] (k:=A0 ?_)
   refine D3 kr (B4 ?_)
   refine C6 (A0 ?_)
   refine A3 (A4 (j:=1) [0] (k:=?_))
   refine F6 61 (((k:Nat):Int)+1) (by omega) (by omega) kr (B1 [0] [2,3,46,47] (k:=?_))
   refine E9 (s':=(k+1)) [2,3,46,47] kr rfl (by omega) (by omega)
  ·
   have hk:x.attrs.length≤k:=by have:=hc4; simp only [decide_eq_false_iff_not] at this; omega
   refine H7 (B0 ?_)
   refine B0 (C7 ?_)
   refine A0 (A1 ?_)
   refine A1 (A3 ?_)
   refine A4 (j:=1) [0] (k:=A6 (ch:=[]) (b:=b1) (off:=3) (v:=.slice al x.kids.length cl) (hA:=At.grp 1 0 rfl rfl) (k:=?_))
   refine B1 [0,0] [2,3,64,65] (k:=A0 ?_)
   refine B8 (L4 (EI:=(fun ξ:Nat=>[⟨2,[],pt b1⟩,⟨3,[],pt b2⟩,⟨64,[],.int .i64 ((x.kids.length:Nat):Int)⟩,⟨65,[],.int .i64 ((ξ:Nat):Int)⟩])) (HI:=(fun ξ:Nat=>([(b2,.cells #[.string (bk x.space),.string (bk x.name),.slice an2 x.attrs.length cn2,.slice al2 x.kids.length cl2,.string (bk x.text)] 55 (0,0))]::[(b1,.cells #[.string (bk x.space),.string (bk x.name),.slice an x.attrs.length cn,.slice al x.kids.length cl,.string (bk x.text)] 55 (0,0))]::H))) (Φ:=(fun ξ:Nat=>(ξ≤x.kids.length))) (μ:=(fun ξ:Nat=>x.kids.length - ξ)) (s0:=(0)) [2,3,64,65] kr rfl (Nat.zero_le _) ?_)
   rintro k hkl
   refine A1 (G_p [0] [2,3,64,65,66] (k:=?_))
   refine A0 (A1 ?_)
   refine B7 (b:=decide (((k:Nat):Int)<((x.kids.length:Nat):Int))) kr (fun hc6=>?_) (fun hc6=>?_)
   ·
    have hk:k<x.kids.length:=by have:=hc6; simp only [decide_eq_true_eq] at this; omega
    obtain ⟨y,yan,ycn,yal,ycl,ycs,hyx,hye,hya,hyl,hyc,hycn⟩:=hrc.get hk
    have hyw:cnX y<cnX x:=by rw [hyx]; exact cnX_kid hk
    obtain ⟨y2,yan2,ycn2,yal2,ycl2,ycs2,hyx2,hye2,hya2,hyl2,hyc2,hycn2⟩:=hrc2.get hk
    have hyy:y2=y:=hyx2.trans hyx.symm
    rw [hyy] at hye2 hya2 hyc2
    refine B4 (A0 ?_)
    refine A1 (B8 ?_)
    refine A1 (G_p [0,0] [2,3,6,64,65] (k:=?_))
    refine A0 (A1 ?_)
    refine I8 (k:=A4 (j:=1) [0] (k:=?_))
    refine A6 (ch:=[]) (b:=b1) (off:=3) (v:=.slice al x.kids.length cl) (hA:=At.grp 1 0 rfl rfl) (k:=A4 (j:=3) [0] (k:=?_))
    refine A9 (ch:=[]) (a:=al) (len:=x.kids.length) (cap:=cl) (kd:=.i64) (j:=((k:Nat):Int)) (e:=55) (sz:=5) (S:=S) (cs:=cs) (hrd:=hrl) (hb:=(fun _=>by first | exact ⟨by omega,by omega,by intro h; have h2:=congrArg List.length h; rw [hrc.len] at h2; simp only [List.length_nil] at h2; omega⟩ | exact ⟨by omega,by omega,by intro h; have h2:=congrArg List.length h; rw [hrc2.len] at h2; simp only [List.length_nil] at h2; omega⟩)) (k:=L0 (ch:=[]) (a:=al) (q:=k * 5) (S:=S) (cs:=cs) (l:=[.string (bk y.space),.string (bk y.name),.slice yan y.attrs.length ycn,.slice yal y.kids.length ycl,.string (bk y.text)]) (hrd:=hrl) (hS:=(fun y o h=>At.cons (At.cons ((hS y o h))))) (hl:=List.cons_ne_nil _ _) (hv:=(fun _=>(elt5 hye))) (k:=?_))
    refine A4 (j:=6) [0] (k:=A6 (ch:=[]) (b:=b2) (off:=3) (v:=.slice al2 x.kids.length cl2) (hA:=At.grp 0 0 rfl rfl) (k:=?_))
    refine A4 (j:=8) [0] (k:=A9 (ch:=[]) (a:=al2) (len:=x.kids.length) (cap:=cl2) (kd:=.i64) (j:=((k:Nat):Int)) (e:=55) (sz:=5) (S:=S2) (cs:=cs2) (hrd:=hrl2) (hb:=(fun _=>by first | exact ⟨by omega,by omega,by intro h; have h2:=congrArg List.length h; rw [hrc.len] at h2; simp only [List.length_nil] at h2; omega⟩ | exact ⟨by omega,by omega,by intro h; have h2:=congrArg List.length h; rw [hrc2.len] at h2; simp only [List.length_nil] at h2; omega⟩)) (k:=?_))
    refine L0 (ch:=[]) (a:=al2) (q:=k * 5) (S:=S2) (cs:=cs2) (l:=[.string (bk y.space),.string (bk y.name),.slice yan2 y.attrs.length ycn2,.slice yal2 y.kids.length ycl2,.string (bk y.text)]) (hrd:=hrl2) (hS:=(fun y o h=>At.cons (At.cons ((hS2 y o h))))) (hl:=List.cons_ne_nil _ _) (hv:=(fun _=>(elt5 hye2))) (k:=M5 Tryz.func31 (hrec y hyw (by omega) yan ycn yal ycl ycs hya hyl hyc yan2 ycn2 yal2 ycl2 ycs2 hya2 hyl2 hyc2 _ _ (fun y o h=>At.cons (At.cons ((hS y o h)))) (fun y o h=>At.cons (At.cons ((hS2 y o h))))) ?_)
    refine B1 [0] [2,3,64,65,79] (k:=A0 ?_)
    refine D3 kr (B4 ?_)
    refine C6 (A0 ?_)
    refine A3 (A4 (j:=1) [0] (k:=?_))
    refine F6 80 (((k:Nat):Int)+1) (by omega) (by omega) kr (B1 [0] [2,3,64,65] (k:=?_))
    refine E9 (s':=(k+1)) [2,3,64,65] kr rfl (by omega) (by omega)
   ·
    have hk:x.kids.length≤k:=by have:=hc6; simp only [decide_eq_false_iff_not] at this; omega
    refine H7 (B0 ?_)
    refine B0 (C7 ?_)
    refine A0 (A1 ?_)
    refine C3 (E':=[⟨4,[],.bool true⟩]) [0] [4] (k:=A0 ?_)
    refine C5 (C1 (H':=H) (fun w h=>((h.erase 1).erase 0)) ?_)
    refine B9 [.tmp 4] [.bool true] (k:=?_)
    exact ⟨rfl,rfl⟩
theorem xsame_:∀ (n:Nat) (x:XN),cnX x≤n→cnX x≤100000000→∀ (an:Option Addr) (cn:Nat) (al:Option Addr) (cl:Nat) (cs:List Value) (S:Nat→Obj→Prop),Rd S an (xaV x.attrs)→Rd S al cs→XRdL S x.kids cs→∀ (an2:Option Addr) (cn2:Nat) (al2:Option Addr) (cl2:Nat) (cs2:List Value) (S2:Nat→Obj→Prop),Rd S2 an2 (xaV x.attrs)→Rd S2 al2 cs2→XRdL S2 x.kids cs2→∀ (W0:World) (H:List Grp),(∀ z o,S z o→At W0 H z o)→(∀ z o,S2 z o→At W0 H z o)→Tri Tryz.prog 31 #[.agg (xvC x an cn al cl).toArray,.agg (xvC x an2 cn2 al2 cl2).toArray] W0 H (fun v H'=>v=.bool true∧H'=H)
  | 0,x,h,_,_,_,_,_,_,_,_,_,_,_,_,_,_,_,_,_,_,_,_,_,_,_=>absurd (cnX_pos x) (by omega)
  | n+1,x,h,hd,an,cn,al,cl,cs,S,h1,h2,h3,an2,cn2,al2,cl2,cs2,S2,k1,k2,k3,W0,H,hS,hS2=>xsameW_ x an cn al cl cs S h1 h2 h3 an2 cn2 al2 cl2 cs2 S2 k1 k2 k3 hd (fun y hy hdy an cn al cl cs h1 h2 h3 an2 cn2 al2 cl2 cs2 k1 k2 k3 W0 H hS hS2=>xsame_ n y (by omega) hdy an cn al cl cs S h1 h2 h3 an2 cn2 al2 cl2 cs2 S2 k1 k2 k3 W0 H hS hS2) W0 H hS hS2
theorem xsameC (x:XN) (hd:cnX x≤100000000) (c c2:List Value) (S S2:Nat→Obj→Prop) (h:XRd S x c) (h2:XRd S2 x c2) (W0:World) (H:List Grp) (hS:∀ z o,S z o→At W0 H z o) (hS2:∀ z o,S2 z o→At W0 H z o):Tri Tryz.prog 31 #[.agg c.toArray,.agg c2.toArray] W0 H (fun v H'=>v=.bool true∧H'=H):=by
  obtain ⟨an,al,cn,cl,cs,rfl,a1,a2,a3,_⟩:=h.shape
  obtain ⟨an2,al2,cn2,cl2,cs2,rfl,b1,b2,b3,_⟩:=h2.shape
  exact xsame_ (cnX x) x (Nat.le_refl _) hd an cn al cl cs S a1 a2 a3 an2 cn2 al2 cl2 cs2 S2 b1 b2 b3 W0 H hS hS2
end Go.Proofs.YtppgfiklmfoaeaaGreatDoor
