/- What must be answered by presses ahead of everything else. (and what it stands on) -/
import Derived.Test.YtdolpaagdpeagaaGreatDoorZ3
import Derived.Lib.Bytealg
import Derived.Lib.IndexBytes
import Derived.Lib.Atoi
import Derived.OrdersIn
import Derived.Lib.AtoiErrMem
namespace Go.Pr
open Go.Sw Go.Vf Go.Lib Go.Proofs.YtdolpaagdpeagaaGreatDoor
structure Gen (n:Int) (F:List FB) (M:DM):Prop where
  none:n=0→Bnd M G7 none
  cur:n≠0→St M G7 (gB n++lfB)
  man:n≠0→St M (inG n maniB) (C6 F)
  files:n≠0→∀ f∈F,St M (inG n f.1) f.2
structure Laid (n:Int) (F:List FB) (M:DM):Prop where
  man:St M (inG n maniB) (C6 F)
  files:∀ f∈F,St M (inG n f.1) f.2
structure Dbt (n:Int) (F:List FB) (m:Int) (G:List FB) (M:DM):Prop where
  old:n≠0→Laid n F M
  new:Laid m G M
  two:∃ o k,(∀ j,C9 (((H7 M.changes (dirB G7)).take j).foldl E7 M.kept) G7=o∨C9 (((H7 M.changes (dirB G7)).take j).foldl E7 M.kept) G7=some k)∧Solid M k (gB m++lfB)∧(n=0→o=none)∧(n≠0→∃ q,o=some q∧Solid M q (gB n++lfB))
def Pn (m:Int) (p:ByteArray):Prop:=dirB p≠gB m∧p≠E6
theorem Laid.kps {P:ByteArray→Prop} {n:Int} {F:List FB} {M M':DM} (h:Laid n F M) (hk:Kps P M M') (hi:Inv M) (hP:∀ x,P (inG n x)):Laid n F M' :=
  ⟨hk.st hi (hP _) h.man,fun f hf=>hk.st hi (hP _) (h.files f hf)⟩
theorem Gen.kps {P:ByteArray→Prop} {n:Int} {F:List FB} {M M':DM} (h:Gen n F M) (hk:Kps P M M') (hi:Inv M) (hc:P G7) (hP:n≠0→∀ x,P (inG n x)):Gen n F M' :=
  ⟨fun h0=>hk.bnd _ _ hc hi (h.none h0),fun h0=>hk.st hi hc (h.cur h0),fun h0=>hk.st hi (hP h0 _) (h.man h0),fun h0 f hf=>hk.st hi (hP h0 _) (h.files h0 f hf)⟩
theorem Gen.laid {n:Int} {F:List FB} {M:DM} (h:Gen n F M) (h0:n≠0):Laid n F M:=⟨h.man h0,h.files h0⟩
theorem Laid.crash {n:Int} {F:List FB} {M:DM} (h:Laid n F M) (hi:Inv M) (ks:List Int):Laid n F (N3 M ks):=⟨h.man.crash hi ks,fun f hf=>(h.files f hf).crash hi ks⟩
theorem Gen.crash {n:Int} {F:List FB} {M:DM} (h:Gen n F M) (hi:Inv M) (ks:List Int):Gen n F (N3 M ks) :=
  ⟨fun h0=>(h.none h0).crash hi ks,fun h0=>(h.cur h0).crash hi ks,fun h0=>(h.man h0).crash hi ks,fun h0 f hf=>(h.files h0 f hf).crash hi ks⟩
theorem Gen.fail {n:Int} {F:List FB} {M:DM} (h:Gen n F M) (a:Int) (o:Bool):Gen n F (failM M a o):=⟨h.none,h.cur,h.man,h.files⟩
theorem Dbt.crash {n m:Int} {F G:List FB} {M:DM} (h:Dbt n F m G M) (hm:m≠0) (hi:Inv M) (ks:List Int):Gen n F (N3 M ks)∨Gen m G (N3 M ks):=by
  obtain ⟨o,k,h1,h2,h3,h4⟩:=h.two
  obtain ⟨j,hj⟩:=bnd_crash hi G7 ks
  rcases h1 j with e | e
  · rw [e] at hj
    left
    refine ⟨fun h0=>by rw [h3 h0] at hj; exact hj,fun h0=>?_,fun h0=>((h.old h0).crash hi ks).man,fun h0=>((h.old h0).crash hi ks).files⟩
    obtain ⟨q,e1,e2⟩:=h4 h0
    exact ⟨q,by rw [← e1]; exact hj,solid_crash e2 ks⟩
  · rw [e] at hj
    exact .inr ⟨fun h0=>absurd h0 hm,fun _=>⟨k,hj,solid_crash h2 ks⟩,fun _=>(h.new.crash hi ks).man,fun _=>(h.new.crash hi ks).files⟩
theorem kps_drop {m:Int} {l:List ByteArray} (hl:∀ p∈l,dirB p=gB m):∀ f∈dropS l,∀ M,Kps (Pn m) M (f M).2:=fun f hf M=>by
  obtain ⟨p,hp,rfl⟩:=List.mem_map.1 hf
  exact kps_remove M fun h=>h.1 (hl p hp)
theorem list_dir {M:DM} {d p:ByteArray} (h:p∈P2 M d):dirB p=d:=by
  unfold P2 at h
  have h1:=(L8 _).mem_iff.1 h
  obtain ⟨x,hx,rfl⟩:=List.mem_map.1 h1
  obtain ⟨_,h2⟩:=List.mem_filter.1 hx
  exact Y8 (beq_iff_eq.1 h2)
theorem kps_puts {m:Int} (hm:0≤m) {l:List FB}:∀ f∈S5 m l,∀ M,Kps (Pn m) M (f M).2:=fun f hf M=>by
  obtain ⟨x,_,hf⟩:=puts_mem hf
  exact kps_put (fun h=>h.1 (J2 hm _)) _ f hf M
theorem err_no61 {M:DM} {r:Bool}:J0 M r≠61:=by
  unfold J0
  rcases callS_or M.fails M.once M.calls r with h | h | h <;> rw [h] <;> decide
theorem syncDir_no61 {M:DM} {d:ByteArray}:(H5 M d).1≠61:=by
  by_cases he:J0 M (dirR d)=0
  · rw [K2 he]; exact (by decide:(0:Int)≠61)
  · rw [K7 he]; exact err_no61
def Fate (n:Int) (F s:List FB) (r:Int × DM):Prop:=Inv r.2∧((r.1=0∧Gen (n+1) s r.2)∨(r.1≠0∧Gen n F r.2)∨(r.1≠0∧r.1≠61∧Dbt n F (n+1) s r.2))
theorem fate_step {n:Int} {F s:List FB} {A B:List (DM→Int × DM)} {M:DM} (hn:0≤n) (hA:∀ f∈A,∀ M,Kps (Pn (n+1)) M (f M).2) (hi:Inv M) (hg:Gen n F M)
    (next:(E9 A M).1=0→Inv (E9 A M).2→Gen n F (E9 A M).2→Fate n F s (E9 B (E9 A M).2)):Fate n F s (E9 (A++B) M):=by
  have hm0:(0:Int)≤n+1:=by omega
  have hk:=tryP_kps hA M
  have i1:=hk.inv hi
  have g1:=hg.kps hk hi ⟨cur_dir hm0,cur_fresh⟩ (fun _ x=>⟨fun e=>by rw [J2 hn] at e; have:=gB_inj hn hm0 e; omega,R5 hn x⟩)
  rw [L3]
  by_cases e:(E9 A M).1=0
  · rw [if_neg (by simpa using e)]; exact next e i1 g1
  · rw [if_pos (by simpa using e)]; exact ⟨i1,.inr (.inl ⟨e,g1⟩)⟩
theorem tryP_one {f:DM→Int × DM} {M:DM} (h:(E9 [f] M).1=0):(f M).1=0∧(E9 [f] M).2=(f M).2:=by
  simp only [E9] at h ⊢
  by_cases e:(f M).1=0
  · rw [if_neg (by simpa using e)]; exact ⟨e,rfl⟩
  · rw [if_pos (by simpa using e)] at h; exact absurd h e
theorem fate_point {n:Int} {F s:List FB} {M:DM} {k:Int} (hn:0≤n) (i5:Inv M) (g5:Gen n F M) (l5:Laid (n+1) s M) (v5:C9 M.names E6=some k) (b5:Solid M k (gB (n+1)++lfB)) :
    Fate n F s (E9 [fun M=>H9 M E6 G7,fun M=>H5 M eB] M):=by
  have hm0:(0:Int)≤n+1:=by omega
  have hren:Kps (fun q=>q≠E6∧q≠G7) M (H9 M E6 G7).2:=kps_rename M (fun h=>h.1 rfl) (fun h=>h.2 rfl)
  simp only [E9]
  by_cases he6:J0 M (renR E6 G7)=0
  rotate_left
  · have e6:(H9 M E6 G7).1≠0:=by rw [M9 he6]; exact he6
    rw [if_pos (by simpa using e6)]
    refine ⟨hren.inv i5,.inr (.inl ⟨e6,?_⟩)⟩
    rw [M9 he6]
    exact g5.kps (N8 (fun _=>True) M _) i5 trivial fun _ _=>trivial
  have e6:(H9 M E6 G7).1=0:=by rw [N4 he6 v5 fresh_cur]
  rw [if_neg (by simpa using e6)]
  have i6:=hren.inv i5
  have l6:Laid (n+1) s (H9 M E6 G7).2:=l5.kps hren i5 fun x=>⟨R5 hm0 x,inG_cur hm0 x⟩
  have o6:n≠0→Laid n F (H9 M E6 G7).2:=fun h0=>(g5.laid h0).kps hren i5 fun x=>⟨R5 hn x,inG_cur hn x⟩
  have b6:=hren.solid k _ b5
  obtain ⟨o,ho1,ho2,ho3⟩:∃ o,Bnd M G7 o∧(n=0→o=none)∧(n≠0→∃ q,o=some q∧Solid M q (gB n++lfB)):=by
    by_cases h0:n=0
    · exact ⟨none,g5.none h0,fun _=>rfl,fun h=>absurd h0 h⟩
    · obtain ⟨q,h1,h2⟩:=g5.cur h0
      exact ⟨some q,h1,fun h=>absurd h h0,fun _=>⟨q,rfl,h2⟩⟩
  have n6:C9 (H9 M E6 G7).2.names G7=some k:=by
    rw [N4 he6 v5 fresh_cur]
    show C9 (Z3 (Z3 M.names (E6,-1)) (G7,k)) G7=_
    rw [S6,if_pos (baEq.2 rfl),if_pos b5.1]
  have t6:∀ j,C9 (((H7 (H9 M E6 G7).2.changes (dirB G7)).take j).foldl E7 (H9 M E6 G7).2.kept) G7=o∨C9 (((H7 (H9 M E6 G7).2.changes (dirB G7)).take j).foldl E7 (H9 M E6 G7).2.kept) G7=some k:=by
    intro j
    rw [N4 he6 v5 fresh_cur]
    show C9 (((H7 (M.changes++[⟨dirB G7,[(E6,-1),(G7,k)]⟩]) (dirB G7)).take j).foldl E7 M.kept) G7=o∨C9 (((H7 (M.changes++[⟨dirB G7,[(E6,-1),(G7,k)]⟩]) (dirB G7)).take j).foldl E7 M.kept) G7=some k
    rw [chOf_snoc,if_pos (baEq.2 rfl),List.take_append,List.foldl_append]
    rcases Nat.eq_zero_or_pos (j - (H7 M.changes (dirB G7)).length) with h | h
    · left; rw [h]; exact ho1 j
    · right
      rw [List.take_of_length_le (l:=[[(E6,(-1:Int)),(G7,k)]]) (by show 1≤_; omega)]
      show C9 (Z3 (Z3 _ (E6,-1)) (G7,k)) G7=_
      rw [S6,if_pos (baEq.2 rfl),if_pos b5.1]
  have o7:n≠0→∃ q,o=some q∧Solid (H9 M E6 G7).2 q (gB n++lfB):=fun h0=>by
    obtain ⟨q,h1,h2⟩:=ho3 h0
    exact ⟨q,h1,hren.solid q _ h2⟩
  generalize (H9 M E6 G7).2=M6 at i6 l6 o6 b6 n6 t6 o7
  have k7:=kps_sdir (fun _=>True) M6 eB
  by_cases e7:(H5 M6 eB).1=0
  · rw [if_neg (by simpa using e7)]
    refine ⟨k7.inv i6,.inl ⟨rfl,fun h=>absurd h (by omega),fun _=>⟨k,?_,k7.solid k _ b6⟩,fun _=>(l6.kps k7 i6 fun _=>trivial).man,fun _=>(l6.kps k7 i6 fun _=>trivial).files⟩⟩
    have:=bnd_sdir i6 e7 (p:=G7) (by exact cur_dir0)
    rwa [n6] at this
  · rw [if_pos (by simpa using e7)]
    refine ⟨k7.inv i6,.inr (.inr ⟨e7,syncDir_no61,?_⟩)⟩
    by_cases he:J0 M6 (dirR eB)=0
    · rw [K2 he] at e7; exact absurd rfl e7
    · rw [K7 he]
      have kc:=N8 (fun _=>True) M6 (dirR eB)
      exact ⟨fun h0=>(o6 h0).kps kc i6 fun _=>trivial,l6.kps kc i6 fun _=>trivial,o,k,t6,b6,ho2,o7⟩
theorem kps_sd1 (P:ByteArray→Prop) (d:ByteArray):∀ f∈[fun M=>H5 M d],∀ M,Kps P M (f M).2:=fun f hf M=>by
  obtain rfl:=List.mem_singleton.1 hf
  exact kps_sdir P M d
theorem lay_fate {n:Int} {F s:List FB} {M:DM} (hn:0≤n) (hi:Inv M) (hg:Gen n F M) (hs:(s.map Prod.fst).Nodup) (hm:∀ f∈s,f.1≠maniB):Fate n F s (Y7 (n+1) s M):=by
  have hm0:(0:Int)≤n+1:=by omega
  unfold Y7 pointS
  refine fate_step hn (kps_drop fun p hp=>list_dir hp) hi hg fun e1 i1 g1=>?_
  generalize (E9 (dropS (P2 M (gB (n+1)))) M).2=M1 at i1 g1
  refine fate_step hn (kps_puts hm0) i1 g1 fun e2 i2 g2=>?_
  have w2:=puts_now (n:=n+1) (fun x y e=>inG_inj e) hs e2
  generalize (E9 (S5 (n+1) s) M1).2=M2 at i2 g2 w2
  refine fate_step hn (kps_put (fun h=>h.1 (J2 hm0 _)) _) i2 g2 fun e3 i3 g3=>?_
  have w3:∀ x∈s,Now (E9 (V3 (inG (n+1) maniB) (C6 s)) M2).2 (inG (n+1) x.1) x.2:=by
    intro x hx
    have hne:¬ (inG (n+1) maniB=inG (n+1) x.1):=fun e=>hm x hx (inG_inj e).symm
    have hk:=tryP_kps (P:=fun q=>q=inG (n+1) x.1) (A:=V3 (inG (n+1) maniB) (C6 s)) (kps_put (P:=fun q=>q=inG (n+1) x.1) (p:=inG (n+1) maniB) hne (C6 s)) M2
    exact Kps.nw hk (Eq.refl (inG (n+1) x.1)) (w2 x hx)
  have v3:=put_now e3
  obtain ⟨M3,hM3⟩:∃ M',M'=(E9 (V3 (inG (n+1) maniB) (C6 s)) M2).2:=⟨_,rfl⟩
  rw [← hM3] at i3 g3 w3 v3 ⊢
  refine fate_step (A:=[fun M=>H5 M (gB (n+1))]) (B:=V3 E6 (gB (n+1)++lfB)++[fun M=>H9 M E6 G7,fun M=>H5 M eB]) hn (kps_sd1 _ _) i3 g3 fun e4 i4 g4=>?_
  obtain ⟨e4,t4⟩:=tryP_one e4
  rw [t4] at i4 g4 ⊢
  have l4:Laid (n+1) s (H5 M3 (gB (n+1))).2:=by
    have go:∀ {p c:ByteArray},dirB p=gB (n+1)→Now M3 p c→St (H5 M3 (gB (n+1))).2 p c:=fun hd ⟨k,h1,h2⟩ =>
      ⟨k,by have:=bnd_sdir i3 e4 hd; rwa [h1] at this,(kps_sdir (fun _=>True) M3 (gB (n+1))).solid k _ h2⟩
    exact ⟨go (J2 hm0 _) v3,fun f hf=>go (J2 hm0 _) (w3 f hf)⟩
  obtain ⟨M4,hM4⟩:∃ M',M'=(H5 M3 (gB (n+1))).2:=⟨_,rfl⟩
  rw [← hM4] at i4 g4 l4 ⊢
  refine fate_step hn (kps_put (fun h=>h.2 rfl) _) i4 g4 fun e5 i5 g5=>?_
  have l5:Laid (n+1) s (E9 (V3 E6 (gB (n+1)++lfB)) M4).2:=l4.kps (tryP_kps (P:=fun q=>q≠E6) (kps_put (fun h=>h rfl) _) M4) i4 fun x=>R5 hm0 x
  obtain ⟨k,v5,b5⟩:=put_now e5
  exact fate_point hn i5 g5 l5 v5 b5
theorem write_ne2 {M:DM} {p b:ByteArray} (h:A4 p=true):(E5 M p b).1≠2:=by
  rcases err_true (M:=M) h with he | he
  · by_cases hroom:(V0 M:Int) - (wasM M p:Int)+(b.size:Int) > M.room
    · rw [Q0 he hroom]; exact (by decide:(61:Int)≠2)
    · rw [W7 he hroom]; exact (by decide:(0:Int)≠2)
  · rw [V8 (by rw [he]; decide),he]; exact (by decide:(62:Int)≠2)
theorem sync_ne2 {M:DM} {p:ByteArray} (h:A4 p=true):(N5 M p).1≠2:=by
  rcases err_true (M:=M) h with he | he
  · cases hl:C9 M.names p with
    | none=>rw [syncM_no he hl]; exact (by decide:(60:Int)≠2)
    | some k=>rw [Y4 he hl]; exact (by decide:(0:Int)≠2)
  · rw [S9 (by rw [he]; decide),he]; exact (by decide:(62:Int)≠2)
theorem remove_ne2 {M:DM} {p:ByteArray} (h:A4 p=true):(J6 M p).1≠2:=by
  rcases err_true (M:=M) h with he | he
  · cases hl:C9 M.names p with
    | none=>rw [W4 he hl]; exact (by decide:(60:Int)≠2)
    | some k=>rw [S4 he hl]; exact (by decide:(0:Int)≠2)
  · rw [Q1 (by rw [he]; decide),he]; exact (by decide:(62:Int)≠2)
theorem rename_ne2 {M:DM} {p q:ByteArray} (h:renR p q=true):(H9 M p q).1≠2:=by
  rcases err_true (M:=M) h with he | he
  · cases hl:C9 M.names p with
    | none=>rw [Z7 he hl]; exact (by decide:(60:Int)≠2)
    | some k =>
      cases hs:p==q with
      | true=>rw [T0 he hl hs]; exact (by decide:(0:Int)≠2)
      | false=>rw [N4 he hl hs]; exact (by decide:(0:Int)≠2)
  · rw [M9 (by rw [he]; decide),he]; exact (by decide:(62:Int)≠2)
theorem sdir_ne2 {M:DM} {d:ByteArray} (h:dirR d=true):(H5 M d).1≠2:=by
  rcases err_true (M:=M) h with he | he
  · rw [K2 he]; exact (by decide:(0:Int)≠2)
  · rw [K7 (by rw [he]; decide),he]; exact (by decide:(62:Int)≠2)
theorem tryP_ne2:∀ {A:List (DM→Int × DM)},(∀ f∈A,∀ M,(f M).1≠2)→∀ M,(E9 A M).1≠2
  | [],_,M=>by show (0:Int)≠2; exact (by decide:(0:Int)≠2)
  | f::A,h,M=>by
    rw [E9]
    split
    · exact h f List.mem_cons_self M
    · exact tryP_ne2 (fun g hg=>h g (List.mem_cons_of_mem _ hg)) _
theorem put_ne2 {p:ByteArray} (h:A4 p=true) (b:ByteArray):∀ f∈V3 p b,∀ M,(f M).1≠2:=fun f hf M=>by
  rcases List.mem_cons.1 hf with rfl | hf
  · exact write_ne2 h
  · rw [List.mem_singleton.1 hf]; exact sync_ne2 h
theorem lay_ne2 {n:Int} {s:List FB} {M:DM} (hn:0≤n) (hn1:n≤1000000000) (hs:∀ f∈s,G2 f.1=true) (hR:∀ x∈M.names,A4 x.1=true):(Y7 n s M).1≠2:=by
  unfold Y7
  refine tryP_ne2 (fun f hf M'=>?_) M
  rcases List.mem_append.1 hf with hf | hf
  · obtain ⟨p,hp,rfl⟩:=List.mem_map.1 hf
    refine remove_ne2 ?_
    have h1:=(L8 _).mem_iff.1 (show p∈R1 ((M.names.filter fun n_1=>(dirB n_1.1).toList==(gB n).toList).map Prod.fst) from hp)
    obtain ⟨x,hx,rfl⟩:=List.mem_map.1 h1
    exact hR x (List.mem_filter.1 hx).1
  · rcases List.mem_append.1 hf with hf | hf
    · obtain ⟨x,hx,hf⟩:=puts_mem hf
      exact put_ne2 (right_inG hn hn1 (hs x hx)) _ f hf M'
    · unfold pointS at hf
      rcases List.mem_append.1 hf with hf | hf
      · exact put_ne2 (right_inG hn hn1 part_mani) _ f hf M'
      · rcases List.mem_cons.1 hf with rfl | hf
        · exact sdir_ne2 (dirR_gB hn hn1)
        · rcases List.mem_append.1 hf with hf | hf
          · exact put_ne2 right_fresh _ f hf M'
          · rcases List.mem_cons.1 hf with rfl | hf
            · exact rename_ne2 ren_right
            · rw [List.mem_singleton.1 hf]; exact sdir_ne2 dirR_root
end Go.Pr
namespace Go.Pr
open Go.Sw Go.Vf Go.Lib Go.Proofs.YtdolpaagdpeagaaGreatDoor
theorem sweepL_kps {P:ByteArray→Prop}:∀ {l:List ByteArray},(∀ p∈l,¬ P p)→∀ M,Kps P M (sweepL l M)
  | [],_,M=>Kps.refl P M
  | p::_,h,M=>(kps_remove M (h p List.mem_cons_self)).trans (sweepL_kps (fun q hq=>h q (List.mem_cons_of_mem _ hq)) _)
theorem sweep_kps (d:ByteArray) (M:DM):Kps (fun p=>dirB p≠d) M (L7 d M):=sweepL_kps (fun _ hp h=>h (list_dir hp)) M
theorem sweeps_kps:∀ (ns:List Int) (M:DM),Kps (fun p=>∀ n∈ns,n > 0→dirB p≠gB n) M (L6 ns M)
  | [],M=>Kps.refl _ M
  | n::ns,M=>by
    show Kps _ M (L6 ns (if n > 0 then L7 (gB n) M else M))
    refine Kps.trans (M':=if n > 0 then L7 (gB n) M else M) ?_ ((sweeps_kps ns _).mono fun p hp m hm=>hp m (List.mem_cons_of_mem _ hm))
    split
    · rename_i h; exact (sweep_kps (gB n) M).mono fun p hp=>hp n List.mem_cons_self h
    · exact Kps.refl _ M
theorem tidy_kps (ns:List Int) (M:DM):Kps (fun p=>(∀ n∈ns,n > 0→dirB p≠gB n)∧p≠E6) M (K4 ns M):=by
  unfold K4
  have h:=(sweeps_kps ns M).mono (Q:=fun p=>(∀ n∈ns,n > 0→dirB p≠gB n)∧p≠E6) fun p hp=>hp.1
  split
  · exact h.trans (kps_remove _ fun hp=>hp.2 rfl)
  · exact h
theorem Gen.tidy {n:Int} {F:List FB} {M:DM} (hn:0≤n) (h:Gen n F M) (hi:Inv M) (ns:List Int) (hns:∀ m∈ns,m≠n):Gen n F (K4 ns M)∧Inv (K4 ns M):=by
  have k:=tidy_kps ns M
  refine ⟨h.kps k hi ⟨fun m _ hm=>cur_dir (by omega),cur_fresh⟩ fun h0 x=>⟨fun m hm hp e=>?_,R5 hn x⟩,k.inv hi⟩
  rw [J2 hn] at e
  exact hns m hm (gB_inj hn (by omega) e).symm
theorem Gen.sweep {n m:Int} {F:List FB} {M:DM} (hn:0≤n) (hm:0≤m) (hne:m≠n) (h:Gen n F M) (hi:Inv M):Gen n F (L7 (gB m) M)∧Inv (L7 (gB m) M):=by
  have k:=sweep_kps (gB m) M
  refine ⟨h.kps k hi (cur_dir hm) fun h0 x=>?_,k.inv hi⟩
  intro e
  rw [J2 hn] at e
  exact hne (gB_inj hn hm e).symm
theorem pub_fate {p:PM} {F l s:List FB} {M:DM} (hn:0≤p.n) (hn1:p.n<1000000000) (hd:p.down=false) (hi:Inv M) (hR:∀ x∈M.names,A4 x.1=true) (hg:Gen p.n F M) (hs:F8 l=some s) :
    Inv (E8 p M l).2.2∧(((E8 p M l).1=0∧(E8 p M l).2.1=⟨p.n+1,s,false⟩∧Gen (p.n+1) s (E8 p M l).2.2)∨((E8 p M l).1≠0∧(E8 p M l).1≠2∧(Gen p.n F (E8 p M l).2.2∨Dbt p.n F (p.n+1) s (E8 p M l).2.2))):=by
  have ho:=K3 hs
  obtain ⟨i1,h1⟩:=lay_fate (s:=s) hn hi hg (A0c ho.asc) (fun f hf=>name_mani (ho.names f hf))
  have h2:=lay_ne2 (n:=p.n+1) (s:=s) (M:=M) (by omega) (by omega) (fun f hf=>(name_part (ho.names f hf)).1) hR
  unfold E8
  rw [hs]
  dsimp only
  rw [hd,if_neg Bool.false_ne_true]
  rcases h1 with ⟨e,g⟩ | ⟨e,g⟩ | ⟨e,e61,g⟩
  · rw [if_neg (by rw [e]; decide)]
    dsimp only
    by_cases h1:p.n+1 > 1
    · rw [if_pos h1]
      obtain ⟨g2,i2⟩:=g.sweep (by omega) hn (by omega) i1
      exact ⟨i2,.inl ⟨rfl,rfl,g2⟩⟩
    · rw [if_neg h1]; exact ⟨i1,.inl ⟨rfl,rfl,g⟩⟩
  · rw [if_pos (by simpa using e)]
    by_cases h61:(Y7 (p.n+1) s M).1=61
    · rw [if_pos (by rw [h61]; decide)]
      obtain ⟨g2,i2⟩:=g.tidy hn i1 [p.n+1] (fun m hm=>by rw [List.mem_singleton.1 hm]; omega)
      exact ⟨i2,.inr ⟨by show (61:Int)≠0; decide,by show (61:Int)≠2; decide,.inl g2⟩⟩
    · rw [if_neg (by simpa using h61)]; exact ⟨i1,.inr ⟨e,h2,.inl g⟩⟩
  · rw [if_pos (by simpa using e),if_neg (by simpa using e61)]; exact ⟨i1,.inr ⟨e,h2,.inr g⟩⟩
end Go.Pr
namespace Go.Pr
open Go.Sw Go.Vf Go.Lib Go.Proofs.YtdolpaagdpeagaaGreatDoor
theorem callS_rng2 {f o r:Bool} {c:Int} (hc:-9223372036854775808≤c∧c≤9223372036854775807):-9223372036854775808≤(B7 f o c r).2.2∧(B7 f o c r).2.2≤9223372036854775807:=by
  unfold B7
  split
  · exact hc
  · split
    · exact hc
    · split
      · show -9223372036854775808≤c - 1∧c - 1≤9223372036854775807; omega
      · exact hc
structure Fx (i q:Nat) (M:DM):Prop where
  bodies:M.bodies.length≤q
  size:∀ B∈M.bodies,B.now.size≤100000∧B.kept.size≤B.now.size
  names:M.names.length≤q
  kept:M.kept.length+addsC M.changes≤q
  changes:M.changes.length≤i
  calls:-9223372036854775808≤M.calls∧M.calls≤9223372036854775807
  rn:R6 M.names
  rk:R6 M.kept
  rc:∀ c∈M.changes,R6 c.l∧c.dir.size≤161∧c.l.length≤2
theorem Fx.small {i q:Nat} {M:DM} (h:Fx i q M) (hi:i≤100000) (hq:q≤10000):Y0 M :=
  ⟨by have:=h.bodies; omega,fun B hB=>⟨Nat.le_trans (h.size B hB).1 (by omega),(h.size B hB).2⟩,by have:=h.names; omega,by have:=h.changes; omega,h.calls,fun x hx=>by have:=S3 (h.rn x hx); omega,fun c hc=>by have:=(h.rc c hc).2.1; omega⟩
theorem Fx.read {i q:Nat} {M:DM} (h:Fx i q M):∀ B∈M.bodies,B.now.size≤10000000:=fun B hB=>Nat.le_trans (h.size B hB).1 (by omega)
theorem Fx.up {i i' q q':Nat} {M:DM} (h:Fx i q M) (hi:i≤i') (hq:q≤q'):Fx i' q' M :=
  ⟨Nat.le_trans h.bodies hq,h.size,Nat.le_trans h.names hq,Nat.le_trans h.kept hq,Nat.le_trans h.changes hi,h.calls,h.rn,h.rk,h.rc⟩
theorem Fx.call_ {i q:Nat} {M:DM} (h:Fx i q M) (r:Bool):Fx i q (J9 M r):=⟨h.bodies,h.size,h.names,h.kept,h.changes,callS_rng2 h.calls,h.rn,h.rk,h.rc⟩
theorem fx_change {i q n:Nat} {M:DM} (h:Fx i q M) {d:ByteArray} {l:List Nm} (hl:adds l≤n) (hll:l.length≤2) (hr:R6 l) (hd:d.size≤161):Fx (i+1) (q+n) (P3 M d l):=by
  refine ⟨Nat.le_trans h.bodies (Nat.le_add_right q n),h.size,?_,?_,?_,h.calls,right_apply h.rn hr,h.rk,fun c hc=>?_⟩
  · have h1:=apply_len l M.names
    have h2:=h.names
    show (E7 M.names l).length≤_
    omega
  · have h2:=h.kept
    show M.kept.length+addsC (M.changes++[⟨d,l⟩])≤_
    rw [addsC_app]
    have:addsC [⟨d,l⟩]=adds l:=by simp [addsC]
    omega
  · have h2:=h.changes
    show (M.changes++[_]).length≤_
    rw [List.length_append]; simp; omega
  · rcases List.mem_append.1 (show c∈M.changes++[⟨d,l⟩] from hc) with hc | hc
    · exact h.rc c hc
    · rw [List.mem_singleton.1 hc]; exact ⟨hr,hd,hll⟩
theorem fx_at {i q:Nat} {M:DM} (h:Fx i q M) (k:Int):(I5 M k).now.size≤100000∧(I5 M k).kept.size≤(I5 M k).now.size:=by
  unfold I5
  rw [List.getD_eq_getElem?_getD]
  by_cases hk:k.toNat<M.bodies.length
  · rw [List.getElem?_eq_getElem hk]; exact h.size _ (List.getElem_mem hk)
  · rw [List.getElem?_eq_none (by omega)]; exact ⟨Nat.zero_le _,Nat.zero_le _⟩
theorem fx_set {i q:Nat} {M:DM} (h:Fx i q M) (k:Int) {B:Body} (hB:B.now.size≤100000∧B.kept.size≤B.now.size):Fx i q (setBody M k B) :=
  ⟨by show (M.bodies.set _ _).length≤_; rw [List.length_set]; exact h.bodies,fun x hx=>by
    rcases List.mem_or_eq_of_mem_set (show x∈M.bodies.set k.toNat B from hx) with hx | rfl
    · exact h.size x hx
    · exact hB,h.names,h.kept,h.changes,h.calls,h.rn,h.rk,h.rc⟩
theorem fx_write {i q:Nat} {M:DM} (h:Fx i q M) (p:ByteArray) {b:ByteArray} (hb:b.size≤100000):Fx (i+1) (q+1) (E5 M p b).2:=by
  have hc:=(h.call_ (A4 p)).up (Nat.le_succ i) (Nat.le_succ q)
  by_cases he:J0 M (A4 p)=0
  · have hr:=err_right he
    by_cases hroom:(V0 M:Int) - (wasM M p:Int)+(b.size:Int) > M.room
    · rw [Q0 he hroom]; exact hc
    · rw [W7 he hroom]
      have h0:=h.call_ (A4 p)
      have h1:Fx (i+1) (q+1) (P3 (J9 M (A4 p)) (dirB p) [(p,(M.bodies.length:Int))]) :=
        fx_change h0 (by unfold adds; exact Nat.le_trans (List.length_filter_le _ _) (Nat.le_refl 1)) (Nat.le_of_ble_eq_true rfl) (fun x hx=>by rw [List.mem_singleton.1 hx]; exact hr) (by have:=dir_size p; have:=S3 hr; omega)
      refine ⟨?_,fun B hB=>?_,h1.names,h1.kept,h1.changes,h1.calls,h1.rn,h1.rk,h1.rc⟩
      · show (M.bodies++[_]).length≤_
        rw [List.length_append]; have:=h.bodies; simp; omega
      · rcases List.mem_append.1 (show B∈M.bodies++[⟨b,ByteArray.mk #[]⟩] from hB) with hB | hB
        · exact h.size B hB
        · rw [List.mem_singleton.1 hB]; exact ⟨hb,Nat.zero_le _⟩
  · rw [V8 he]; exact hc
theorem fx_rename {i q:Nat} {M:DM} (h:Fx i q M) (p t:ByteArray):Fx (i+1) (q+1) (H9 M p t).2:=by
  have hc:=(h.call_ (renR p t)).up (Nat.le_succ i) (Nat.le_succ q)
  by_cases he:J0 M (renR p t)=0
  · have hr:=err_right he
    have hpq:A4 p=true∧A4 t=true:=by
      unfold renR at hr
      simp only [Bool.and_eq_true] at hr
      exact hr.1
    cases hl:C9 M.names p with
    | none=>rw [Z7 he hl]; exact hc
    | some k =>
      cases hs:p==t with
      | true=>rw [T0 he hl hs]; exact hc
      | false =>
        rw [N4 he hl hs]
        exact fx_change (h.call_ (renR p t)) (by
          unfold adds
          rw [List.filter_cons,if_neg (by show ¬ decide ((0:Int)≤-1)=true; decide)]
          exact Nat.le_trans (List.length_filter_le _ _) (Nat.le_refl 1)) (Nat.le_of_ble_eq_true rfl) (fun x hx=>by
          rcases List.mem_cons.1 hx with rfl | hx
          · exact hpq.1
          · rw [List.mem_singleton.1 hx]; exact hpq.2) (by have:=dir_size t; have:=S3 hpq.2; omega)
  · rw [M9 he]; exact hc
theorem Z9 {i q:Nat} {M:DM} (h:Fx i q M) (p:ByteArray):Fx (i+1) q (J6 M p).2:=by
  have hc:=(h.call_ (A4 p)).up (Nat.le_succ i) (Nat.le_refl q)
  by_cases he:J0 M (A4 p)=0
  · have hr:=err_right he
    cases hl:C9 M.names p with
    | none=>rw [W4 he hl]; exact hc
    | some k =>
      rw [S4 he hl]
      exact fx_change (n:=0) (h.call_ (A4 p)) (by
        unfold adds
        rw [List.filter_cons,if_neg (by show ¬ decide ((0:Int)≤-1)=true; decide)]
        exact Nat.zero_le 0) (Nat.le_of_ble_eq_true rfl) (fun x hx=>by rw [List.mem_singleton.1 hx]; exact hr) (by have:=dir_size p; have:=S3 hr; omega)
  · rw [Q1 he]; exact hc
theorem fx_sync {i q:Nat} {M:DM} (h:Fx i q M) (p:ByteArray):Fx (i+1) q (N5 M p).2:=by
  have hc:=(h.call_ (A4 p)).up (Nat.le_succ i) (Nat.le_refl q)
  by_cases he:J0 M (A4 p)=0
  · cases hl:C9 M.names p with
    | none=>rw [syncM_no he hl]; exact hc
    | some k =>
      rw [Y4 he hl]
      obtain ⟨s1,s2⟩:=fx_at h k
      exact fx_set hc k ⟨s1,Nat.le_refl _⟩
  · rw [S9 he]; exact hc
theorem fx_sdir {i q:Nat} {M:DM} (h:Fx i q M) (d:ByteArray):Fx (i+1) q (H5 M d).2:=by
  have hc:=(h.call_ (dirR d)).up (Nat.le_succ i) (Nat.le_refl q)
  by_cases he:J0 M (dirR d)=0
  · rw [K2 he]
    have e1:=fold_len (H7 M.changes d) M.kept
    have e2:=addsC_split M.changes d
    have e3:M.kept.length+addsC M.changes≤q:=hc.kept
    have e4:M.changes.length≤i+1:=hc.changes
    have e5:=List.length_filter_le (fun c:Ch=>!(d==c.dir)) M.changes
    refine ⟨hc.bodies,hc.size,hc.names,?_,?_,hc.calls,hc.rn,right_fold hc.rk fun x hx=>?_,fun c hm=>hc.rc c (List.mem_filter.1 hm).1⟩
    · show ((H7 M.changes d).foldl E7 M.kept).length+addsC (M.changes.filter _)≤q
      omega
    · show (M.changes.filter _).length≤i+1
      omega
    · obtain ⟨c,hm,rfl⟩:=chOf_mem hx
      exact (hc.rc c hm).1
  · rw [K7 he]; exact hc
theorem fx_fail {i q:Nat} {M:DM} (h:Fx i q M) {n:Int} (hn:-9223372036854775808≤n∧n≤9223372036854775807) (o:Bool):Fx i q (failM M n o):=by
  refine ⟨h.bodies,h.size,h.names,h.kept,h.changes,?_,h.rn,h.rk,h.rc⟩
  show -9223372036854775808≤(if 0 > n then 0 else n)∧(if 0 > n then 0 else n)≤9223372036854775807
  split <;> omega
theorem O4 {i q:Nat} {M:DM} (h:Fx i q M) (ks:List Int):Fx i q (N3 M ks):=by
  have hk:=crashD_len (dirsOf M.changes) M.changes (O8 M.bodies ks).2 M.kept (dirs_nodup _)
  have h1:=h.kept
  have hr:R6 (Q8 M.changes (dirsOf M.changes) (O8 M.bodies ks).2 M.kept):=right_crash h.rk fun c hm=>(h.rc c hm).1
  have hs:=crashB_size (n:=100000) (ks:=ks) h.size
  refine ⟨?_,fun B hB=>⟨(hs B hB).1,Nat.le_of_eq (hs B hB).2⟩,?_,?_,Nat.zero_le _,h.calls,hr,hr,fun c hm=>absurd hm List.not_mem_nil⟩
  · show (O8 M.bodies ks).1.length≤q
    rw [crashB_len]; exact h.bodies
  · show (Q8 _ _ _ _).length≤q
    omega
  · show (Q8 M.changes (dirsOf M.changes) (O8 M.bodies ks).2 M.kept).length+0≤q
    omega
theorem fx_new (room:Int):Fx 0 0 (newM room) :=
  ⟨Nat.le_refl _,fun B hB=>absurd hB List.not_mem_nil,Nat.le_refl _,Nat.le_refl _,Nat.le_refl _,by show (-9223372036854775808:Int)≤0∧(0:Int)≤9223372036854775807; omega,fun x hx=>absurd hx List.not_mem_nil,fun x hx=>absurd hx List.not_mem_nil,fun c hc=>absurd hc List.not_mem_nil⟩
theorem tryP_fx {a b:Nat}:∀ {A:List (DM→Int × DM)} {i q:Nat} {M:DM},(∀ f∈A,∀ {i q:Nat} {M:DM},Fx i q M→Fx (i+a) (q+b) (f M).2)→Fx i q M→Fx (i+A.length * a) (q+A.length * b) (E9 A M).2
  | [],i,q,M,_,h=>h.up (Nat.le_add_right _ _) (Nat.le_add_right _ _)
  | f::A,i,q,M,hA,h=>by
    have h1:=hA f List.mem_cons_self h
    rw [E9]
    split
    · exact h1.up (by rw [List.length_cons,Nat.succ_mul]; omega) (by rw [List.length_cons,Nat.succ_mul]; omega)
    · exact (tryP_fx (A:=A) (fun g hg=>hA g (List.mem_cons_of_mem _ hg)) h1).up (by rw [List.length_cons,Nat.succ_mul]; omega) (by rw [List.length_cons,Nat.succ_mul]; omega)
theorem fx_put {i q:Nat} {M:DM} (h:Fx i q M) (p:ByteArray) {b:ByteArray} (hb:b.size≤100000):Fx (i+2) (q+1) (E9 (V3 p b) M).2:=by
  show Fx (i+2) (q+1) (if (E5 M p b).1 != 0 then E5 M p b else if (N5 (E5 M p b).2 p).1 != 0 then N5 (E5 M p b).2 p else (0,(N5 (E5 M p b).2 p).2)).2
  have h1:=fx_write h p hb
  have h2:=fx_sync h1 p
  split
  · exact h1.up (Nat.le_succ _) (Nat.le_refl _)
  · split
    · exact h2
    · exact h2
theorem fx_drop {i q:Nat} {M:DM} (h:Fx i q M) (l:List ByteArray):Fx (i+l.length) q (E9 (dropS l) M).2:=by
  have:=tryP_fx (a:=1) (b:=0) (A:=dropS l) (fun f hf i q M h=>by
    obtain ⟨p,_,rfl⟩:=List.mem_map.1 hf
    exact Z9 h p) h
  unfold dropS at this ⊢
  rw [List.length_map] at this
  exact this.up (by omega) (by omega)
theorem fx_puts {n:Int}:∀ {s:List FB} {i q:Nat} {M:DM},(∀ f∈s,f.2.size≤100000)→Fx i q M→Fx (i+s.length * 2) (q+s.length) (E9 (S5 n s) M).2
  | [],i,q,M,_,h=>h
  | f::s,i,q,M,hs,h=>by
    have h1:=fx_put h (inG n f.1) (hs f List.mem_cons_self)
    show Fx _ _ (E9 (V3 (inG n f.1) f.2++S5 n s) M).2
    rw [L3]
    split
    · exact h1.up (by rw [List.length_cons]; omega) (by rw [List.length_cons]; omega)
    · exact (fx_puts (s:=s) (fun g hg=>hs g (List.mem_cons_of_mem _ hg)) h1).up (by rw [List.length_cons]; omega) (by rw [List.length_cons]; omega)
theorem fx_sweepL:∀ {l:List ByteArray} {i q:Nat} {M:DM},Fx i q M→Fx (i+l.length) q (sweepL l M)
  | [],_,_,_,h=>h
  | p::l,i,q,M,h=>(fx_sweepL (l:=l) (Z9 h p)).up (by rw [List.length_cons]; omega) (Nat.le_refl _)
theorem list_le {M:DM} {d:ByteArray}:(P2 M d).length≤M.names.length:=by
  unfold P2
  rw [(L8 _).length_eq,List.length_map]
  exact List.length_filter_le _ _
theorem fx_sweep {i q:Nat} {M:DM} (h:Fx i q M) (d:ByteArray):Fx (i+q) q (L7 d M):=(fx_sweepL h).up (by have:=list_le (M:=M) (d:=d); have:=h.names; omega) (Nat.le_refl _)
theorem fx_sweeps:∀ {ns:List Int} {i q:Nat} {M:DM},Fx i q M→Fx (i+ns.length * q) q (L6 ns M)
  | [],_,_,_,h=>h.up (by omega) (Nat.le_refl _)
  | n::ns,i,q,M,h=>by
    show Fx _ _ (L6 ns (if n > 0 then L7 (gB n) M else M))
    have h1:Fx (i+q) q (if n > 0 then L7 (gB n) M else M):=by
      split
      · exact fx_sweep h _
      · exact h.up (by omega) (Nat.le_refl _)
    exact (fx_sweeps (ns:=ns) h1).up (by rw [List.length_cons,Nat.succ_mul]; omega) (Nat.le_refl _)
theorem fx_tidy {i q:Nat} {M:DM} (h:Fx i q M) (ns:List Int):Fx (i+ns.length * q+1) q (K4 ns M):=by
  unfold K4
  have h1:=fx_sweeps (ns:=ns) h
  split
  · exact Z9 h1 _
  · exact h1.up (by omega) (Nat.le_refl _)
end Go.Pr
namespace Go.Sw
def FV (P:Program) (v:Value) (vs:List Value) (W0:World) (H:List Grp) (R:Value→List Grp→Prop):Prop :=
  ∃ f fst caps fn, v = .func (.func f) fst caps ∧ P.funcs[f]? = some fn ∧ (fn.name == "runtime.NumGoroutine") = false ∧ fn.body.isNone = false ∧ Tri P f (fst ++ vs.toArray ++ caps) W0 H R
theorem FV.of {P : Program} {vs : List Value} {W0 : World} {H : List Grp} {R : Value → List Grp → Prop} {f : FuncId} {fst caps : Array Value} {fn : Func} (hf : P.funcs[f]? = some fn) (hn : (fn.name == "runtime.NumGoroutine") = false) (hb : fn.body.isNone = false)
    (h:Tri P f (fst++vs.toArray++caps) W0 H R):FV P (.func (.func f) fst caps) vs W0 H R:=⟨f,fst,caps,fn,rfl,hf,hn,hb,h⟩
theorem GL_callV {P:Program} {ops:Array Oper} {i:Nat} {Q:D7} {n:Fr} {E:Env} {W0:World} {H:List Grp} {o:Oper} {ch:List (Nat × Bool)} {c:Call} {fo:Operand} {fv:Value} {vs:List Value} {R:Value→List Grp→Prop}
    (ho:ops[i]? = some o) (hop:o.op=.call c) (hce:c.callee=.value fo) (hfo:evO E ch fo=some fv) (hargs:evL (evO E ch) c.args.toList=some vs)
    (hch:D4 ops E o.guard=some ch) (hd:F5 n ch o.dst=true) (hsure:∀ β:Nat→Bool→Bool,(∀ s,s∈E→∀ w,β s.t w=(T7 s.v==some w))→chT β ch=true)
    (hc:FV P fv vs W0 H R)
    (k:∀ v H',R v H'→GL false P ops (i+1) Q n (Env.put E o.dst ch v) W0 H'):GL false P ops i Q n E W0 H:=by
  obtain ⟨f,fst,caps,fn,rfl,h1,h2,h3,h4⟩:=hc
  exact I3 ho hop hce hfo hargs h1 h2 h3 hch hd hsure h4 k
end Go.Sw
namespace Go.Proofs.YtdolpaagdpeagaaGreatDoor
open Go.Sw Go.Lib Go.Vf Go.Sha Go.Pr Go.RowKit
theorem Sat.takeMid {W0:World} {K A B:List Grp} {w:World} (h:Sat W0 (K++(A++B)) w):Sat W0 (K++A) w:=h.subl (by
  simp only [List.flatten_append]
  exact List.Sublist.append (List.Sublist.refl _) (List.sublist_append_left _ _))
theorem At.app {W0:World} {K B:List Grp} {b:Nat} {o:Obj} (h:At W0 K b o):At W0 (K++B) b o:=by
  rcases h with h | h
  · exact .inl h
  · exact .inr (by rw [List.flatten_append]; exact List.mem_append_left _ h)
theorem sweep_go {M:DM}:∀ {L:List ByteArray} {k:Nat},k<L.length→sweepL (L.take (k+1)) M=(J6 (sweepL (L.take k) M) (L.getD k default)).2
  | [],k,h=>absurd h (Nat.not_lt_zero k)
  | p::L,0,_=>by rw [List.take_succ_cons,List.take_zero]; rfl
  | p::L,k+1,h=>by
    rw [List.take_succ_cons,List.take_succ_cons]
    show sweepL (L.take (k+1)) (J6 M p).2=(J6 (sweepL (L.take k) (J6 M p).2) (L.getD k default)).2
    exact sweep_go (by simpa using h)
theorem sweeps_go {M:DM}:∀ {L:List Int} {k:Nat},k<L.length→L6 (L.take (k+1)) M=(if L.getD k 0 > 0 then L7 (gB (L.getD k 0)) (L6 (L.take k) M) else L6 (L.take k) M)
  | [],k,h=>absurd h (Nat.not_lt_zero k)
  | p::L,0,_=>by rw [List.take_succ_cons,List.take_zero]; rfl
  | p::L,k+1,h=>by
    rw [List.take_succ_cons,List.take_succ_cons]
    show L6 (L.take (k+1)) (if p > 0 then L7 (gB p) M else M)=(if L.getD k 0 > 0 then L7 (gB (L.getD k 0)) (L6 (L.take k) (if p > 0 then L7 (gB p) M else M)) else L6 (L.take k) (if p > 0 then L7 (gB p) M else M))
    exact sweeps_go (by simpa using h)
theorem strs_le {L:List ByteArray} {k:Nat} (h:k<L.length):Y5 L≠[]:=fun e=>by
  have:=congrArg List.length e; simp [Y5] at this; subst this; exact absurd h (Nat.not_lt_zero k)
theorem list_right {M:DM} {d p:ByteArray} (h:R6 M.names) (hp:p∈P2 M d):A4 p=true:=by
  unfold P2 at hp
  have h1:=(L8 _).mem_iff.1 hp
  obtain ⟨x,hx,rfl⟩:=List.mem_map.1 h1
  exact h x (List.mem_filter.1 hx).1
theorem put_err {M:DM} {p b:ByteArray} (h:(E5 M p b).1≠0):E9 (V3 p b) M=E5 M p b:=by
  show (if (E5 M p b).1 != 0 then E5 M p b else _)=_
  rw [if_pos (by simpa using h)]
theorem put_go {M:DM} {p b:ByteArray} (h:(E5 M p b).1=0):E9 (V3 p b) M=N5 (E5 M p b).2 p:=by
  show (if (E5 M p b).1 != 0 then E5 M p b else if (N5 (E5 M p b).2 p).1 != 0 then N5 (E5 M p b).2 p else (0,(N5 (E5 M p b).2 p).2))=_
  rw [if_neg (by simpa using h)]
  by_cases e:(N5 (E5 M p b).2 p).1=0
  · rw [if_neg (by simpa using e),← e]
  · rw [if_pos (by simpa using e)]
theorem ints_ne {S:Nat→Obj→Prop} {a:Option Addr} {ns:List Int} {k:Nat} (_:Rd S a (ns.map (Value.int .i64))) (hk:k<ns.length):ns.map (Value.int .i64)≠[]:=fun e=>by
  have:=congrArg List.length e
  rw [List.length_map,List.length_nil] at this; omega
theorem ints_at {ns:List Int} {k:Nat} (h:k<ns.length):(ns.map (Value.int .i64))[k]? = some (.int .i64 (ns.getD k 0)):=by
  rw [List.getElem?_map,List.getD,List.getElem?_eq_getElem h]; rfl
theorem gB_size {n:Int} (h:0≤n∧n<100):(gB n).size≤3:=by
  have:=it_size h
  show (ByteArray.mk #[103]++itB n).size≤3
  rw [ByteArray.size_append]; show 1+(itB n).size≤3; omega
theorem tidy_yes {ns:List Int} {M M1:DM} (hM:M1=L6 ns M) (h:((P1 M1 E6).2==0)=true):K4 ns M=(J6 M1 E6).2:=by subst hM; unfold K4; rw [if_pos h]
theorem tidy_no {ns:List Int} {M M1:DM} (hM:M1=L6 ns M) (h:((P1 M1 E6).2==0)=false):K4 ns M=M1:=by subst hM; unfold K4; rw [if_neg (by rw [h]; decide)]
theorem sweep_ {s:DS} {M:DM} (hs:s.ok M) {i q:Nat} (hf:Fx i q M) (hi:i+q≤100000) (hq:q≤10000) (K:List Grp) (d:Nat) (dir:ByteArray) (W0:World) (H:List Grp):Tri Tryz.prog 25 #[pt d,.string dir] W0 (K++(s.G d M++H)) (IsK K d (L7 dir M) (.tuple #[]) H):=by
 obtain ⟨L,hL⟩:∃ L,P2 M dir=L:=⟨_,rfl⟩
 have hll:L.length≤q:=by have h1:=list_le (M:=M) (d:=dir); have h2:=hf.names; rw [hL] at h1; omega
 have hpt:∀ p∈L,p.size≤1000000:=fun p hp=>by rw [← hL] at hp; have:=list_right hf.rn hp; have:=S3 this; omega
 refine D6 18 Tryz.func25 ?_
 refine A2 (A3 (A5 (j:=2) [0,0] (k:=E4 Tryz.func20 (dList hs (hf.small (by omega) (by omega)) d dir K _ H hL) ?_)))
 rintro v H' ⟨la1,lc2,g3,rfl,hlc4,hrd5,rfl⟩
 refine B5 [0,0] [0,8,9,10] (k:=A1 (B8 (I6 (EI:=(fun ξ:Nat × DM × DS=>[⟨0,[],pt d⟩,⟨8,[],.slice la1 L.length lc2⟩,⟨9,[],.int .i64 ((L.length:Nat):Int)⟩,⟨10,[],.int .i64 ((ξ.1:Nat):Int)⟩])) (HI:=(fun ξ:Nat × DM × DS=>(g3::(K++(ξ.2.2.G d ξ.2.1++H))))) (Φ:=(fun ξ:Nat × DM × DS=>(ξ.1≤L.length)∧(ξ.2.2.ok ξ.2.1)∧(Fx (i+ξ.1) q ξ.2.1)∧(ξ.2.1=sweepL (L.take ξ.1) M))) (μ:=(fun ξ:Nat × DM × DS=>L.length - ξ.1)) (s0:=(0,M,s)) [0,8,9,10] kr rfl ⟨(by omega),hs,hf,rfl⟩ ?_)))
 rintro ⟨k,ML,sL⟩ ⟨hk,hsL,hfL,hM⟩
 dsimp only at hsL hfL hM
 refine A2 (G_p [0] [0,8,9,10,11] (k:=A1 (A2 (D2 (b:=decide (((k:Nat):Int)<((L.length:Nat):Int))) kr (fun hc6=>?_) (fun hc6=>?_)))))
 ·
  simp at hc6
  refine B6 (A1 (A2 (B8 (A2 (A3 (L2 L.length ((k:Nat):Int) 1 hrd5 (by exact ⟨by omega,by omega,strs_le (by omega)⟩) (O3 (k * 1) (.string (L.getD k default)) hrd5 (H6 0 rfl) (fun _=>(by rw [Nat.mul_one]; exact strs_at (by omega))) (B5 [0] [0,5,8,9,10] (k:=?_)))))))))
  refine A1 (A3 (A5 (j:=2) [0,0] (k:=E4 Tryz.func42 (dRemove hsL (hfL.small (by omega) (by omega)) d (L.getD k default) (by have:=hpt (L.getD k default) (by rw [List.getD,List.getElem?_eq_getElem (by omega)]; exact List.getElem_mem _); omega) ([g3]++K) _ H rfl) ?_)))
  rintro v H' ⟨rfl,s1,hs1,rfl⟩
  have hf7:=Z9 hfL (L.getD k default)
  refine B5 [] [0,8,9,10] (k:=D3 (A1 (A3 (A5 (j:=1) [0] (k:=F0 17 (((k:Nat):Int)+1) (by omega) (by omega) kr (B5 [0] [0,8,9,10] (k:=F6 (s':=(k+1,((J6 ML (L.getD k default)).2),s1)) [0,8,9,10] kr rfl ⟨(by omega),hs1,hf7,(by dsimp only; rw [sweep_go (by omega),← hM])⟩ (by omega))))))))
 ·
  simp at hc6
  refine H0 (A6 (A6 (C3 (G8 (fun w h=>h.erase 0) (C5 [] [] (k:=?_))))))
  rw [show L7 dir M=ML from by rw [L7,hL,hM,List.take_of_length_le (show L.length≤k by omega)]]
  exact ⟨rfl,sL,hsL,rfl⟩
theorem put_ {s:DS} {M:DM} (hs:s.ok M) {i q:Nat} (hf:Fx i q M) (hi:i+2≤100000) (hq:q+1≤10000) (K:List Grp) (d pb:Nat) (pn:Int) (pv:Value) (pdn:Bool) (path b:ByteArray) (hpath:path.size≤1000000) (hb:b.size≤100000) {bv:Value} (W0:World) (H:List Grp) (hbv:BytesV W0 (K++H) bv b) (hP:At W0 K pb (.cells #[pt d,.int .i64 pn,pv,.bool pdn] 66 (0,0))):Tri Tryz.prog 46 #[pt pb,.string path,bv] W0 (K++(s.G d M++H)) (IsK K d (E9 (V3 path b) M).2 (.int .i64 (E9 (V3 path b) M).1) H):=by
 refine D6 24 Tryz.func46 ?_
 refine A2 (G_p [0] [0,1,2] (k:=A1 (A2 (A2 (A3 (A5 (j:=3) [0,0,0] (k:=F9 (ch:=[]) (b:=pb) (off:=0) (v:=pt d) (hA:=At.app hP) (k:=A5 (j:=6) [0,0] (k:=?_)))))))))
 refine E4 Tryz.func76 (dWrite hs (hf.small (by omega) (by omega)) d path b (by omega) (by omega) K _ H hbv rfl) ?_
 rintro v H' ⟨rfl,s1,hs1,rfl⟩
 have hf1:=fx_write (b:=b) hf path hb
 refine B5 [0] [0,1,7] (k:=A1 (A2 (G_p [0,0] [0,1,7,16] (k:=A1 (D2 (b:=((E5 M path b).1) != 0) kr (fun hc2=>?_) (fun hc2=>?_))))))
 ·
  simp at hc2
  refine A2 (G_p [0,0] [6] (k:=A1 (C8 (C0 (C5 [.tmp 6] [.int .i64 ((E5 M path b).1)] (k:=?_))))))
  rw [put_err (by simpa using hc2)]
  exact ⟨rfl,_,hs1,rfl⟩
 ·
  simp at hc2
  refine B6 (A1 (A2 (A3 (A5 (j:=3) [0,0,0] (k:=F9 (ch:=[]) (b:=pb) (off:=0) (v:=pt d) (hA:=At.app hP) (k:=A5 (j:=5) [0] (k:=E4 Tryz.func77 (dSync hs1 (hf1.small (by omega) (by omega)) d path (by omega) K _ H rfl) ?_)))))))
  rintro v H' ⟨rfl,s2,hs2,rfl⟩
  have hf3:=fx_sync hf1 path
  refine B5 [0] [6] (k:=A1 (C8 (C5 [.tmp 6] [.int .i64 ((N5 ((E5 M path b).2) path).1)] (k:=?_))))
  rw [put_go (by simpa using hc2)]
  exact ⟨rfl,_,hs2,rfl⟩
theorem tidy_ {s:DS} {M:DM} (hs:s.ok M) {i q:Nat} (hf:Fx i q M) (hq:q≤10000) (K:List Grp) (d pb:Nat) (pn:Int) (pv:Value) (pdn:Bool) (na:Option Addr) (nc:Nat) (ns:List Int) (SN:Nat→Obj→Prop) (hrn:Rd SN na (ns.map (Value.int .i64))) (hi:i+ns.length * q+1≤100000) (hns:∀ m∈ns,m<100) (hnl:ns.length≤1000000) (W0:World) (H:List Grp) (hSN:∀ y o,SN y o→At W0 K y o) (hP:At W0 K pb (.cells #[pt d,.int .i64 pn,pv,.bool pdn] 66 (0,0))):Tri Tryz.prog 22 #[pt pb,.slice na ns.length nc] W0 (K++(s.G d M++H)) (IsK K d (K4 ns M) (.tuple #[]) H):=by
 refine D6 39 Tryz.func22 ?_
 refine A2 (A2 (G_p [0,0,0] [0,8,9,10] (k:=A1 (B8 (I6 (EI:=(fun ξ:Nat × DM × DS=>[⟨0,[],pt pb⟩,⟨8,[],.slice na ns.length nc⟩,⟨9,[],.int .i64 ((ns.length:Nat):Int)⟩,⟨10,[],.int .i64 ((ξ.1:Nat):Int)⟩])) (HI:=(fun ξ:Nat × DM × DS=>(K++(ξ.2.2.G d ξ.2.1++H)))) (Φ:=(fun ξ:Nat × DM × DS=>(ξ.1≤ns.length)∧(ξ.2.2.ok ξ.2.1)∧(Fx (i+ξ.1 * q) q ξ.2.1)∧(ξ.2.1=L6 (ns.take ξ.1) M))) (μ:=(fun ξ:Nat × DM × DS=>ns.length - ξ.1)) (s0:=(0,M,s)) [0,8,9,10] kr rfl ⟨(by omega),hs,(by simpa using hf),rfl⟩ ?_)))))
 rintro ⟨k,ML,sL⟩ ⟨hk,hsL,hfL,hM⟩
 dsimp only at hsL hfL hM
 refine A2 (G_p [0] [0,8,9,10,11] (k:=A1 (A2 (D2 (b:=decide (((k:Nat):Int)<((ns.length:Nat):Int))) kr (fun hc1=>?_) (fun hc1=>?_)))))
 ·
  have hlt:k<ns.length:=by simp only [decide_eq_true_eq] at hc1; omega
  have hkq:=Nat.mul_le_mul_right q (show k+1≤ns.length from hlt)
  rw [Nat.succ_mul] at hkq
  have hnk:ns.getD k 0<100:=by rw [List.getD,List.getElem?_eq_getElem hlt]; exact hns _ (List.getElem_mem hlt)
  refine B6 (A1 (A2 (B8 (A2 (A3 (L2 ns.length ((k:Nat):Int) 1 hrn (by exact ⟨by omega,by omega,ints_ne hrn hlt⟩) (O3 (k * 1) (.int .i64 (ns.getD k 0)) hrn (fun y o h=>(At.app (hSN y o h))) (fun _=>(by rw [Nat.mul_one]; exact ints_at (by omega))) (B5 [0] [0,5,8,9,10] (k:=?_)))))))))
  refine A1 (A2 (G_p [0,0] [0,5,8,9,10,15] (k:=A1 (D2 (b:=decide ((ns.getD k 0) > 0)) kr (fun hc2=>?_) (fun hc2=>?_)))))
  ·
   have hps:=of_decide_eq_true hc2
   refine F4 K kr (E2 (fuel:=6) [(0,0)] (fun w h=>(Sat.takeMid (K:=[]) (A:=K) h)) (k:=P0 (ad:=⟨pb,0,none⟩) 1 (hL:=(fun w h=>(Sat.takeMid (K:=[]) (A:=K) h))) (k:=E2 (fuel:=4) [(2,0)] (fun w h=>(Sat.takeMid (K:=[]) (A:=K) h)) (k:=A9 3 (hL:=(fun w h=>(Sat.takeMid (K:=[]) (A:=K) h))) (hy:=F9 (i:=3) (ch:=[]) (b:=pb) (off:=0) (v:=pt d) (hA:=hP) (k:=B4 kr rfl)) (k:=E2 (fuel:=2) [(4,0)] (fun w h=>(Sat.takeMid (K:=[]) (A:=K) h)) (k:=C2 5 (k:=G1 Tryz.func26 (dir_ (ns.getD k 0) ⟨by omega,hnk⟩ _ _) (A7 kr (fun w h=>(Sat.takeMid (K:=[]) (A:=K) h)) ?_))))))))
   refine C2 6 (k:=E4 Tryz.func25 (sweep_ hsL hfL (by omega) (by omega) K d (gB (ns.getD k 0)) _ H) ?_)
   rintro v H' ⟨rfl,s1,hs1,rfl⟩
   have hf3:=fx_sweep hfL (gB (ns.getD k 0))
   refine A7 kr (fun w h=>(Sat.takeMid (K:=[]) (A:=K) h)) (D8 (E':=[⟨0,[],pt pb⟩,⟨8,[],.slice na ns.length nc⟩,⟨9,[],.int .i64 ((ns.length:Nat):Int)⟩,⟨10,[],.int .i64 ((k:Nat):Int)⟩]) [0,8,9,10] (k:=D3 (A1 (A3 (A5 (j:=1) [0] (k:=F0 23 (((k:Nat):Int)+1) (by omega) (by omega) kr (B5 [0] [0,8,9,10] (k:=F6 (s':=(k+1,(L7 (gB (ns.getD k 0)) ML),s1)) [0,8,9,10] kr rfl ⟨(by omega),hs1,(hf3.up (by dsimp only; rw [Nat.succ_mul]; omega) (Nat.le_refl _)),(by dsimp only; rw [sweeps_go (by omega),← hM,if_pos (by simpa using hps)])⟩ (by omega)))))))))
  ·
   have hps:=of_decide_eq_false hc2
   refine B6 (D3 (A1 (A3 (A5 (j:=1) [0] (k:=F0 23 (((k:Nat):Int)+1) (by omega) (by omega) kr (B5 [0] [0,8,9,10] (k:=F6 (s':=(k+1,ML,sL)) [0,8,9,10] kr rfl ⟨(by omega),hsL,(hfL.up (by dsimp only; rw [Nat.succ_mul]; omega) (Nat.le_refl _)),(by dsimp only; rw [sweeps_go (by omega),← hM,if_neg (by simpa using hps)])⟩ (by omega))))))))
 ·
  have hge:ns.length≤k:=by simp only [decide_eq_false_iff_not] at hc1; omega
  have hkq:=Nat.mul_le_mul_right q (show k≤ns.length from hk)
  refine H0 (A6 (A6 (C3 (A1 (A2 (A3 (A5 (j:=3) [0,0,0] (k:=F9 (ch:=[]) (b:=pb) (off:=0) (v:=pt d) (hA:=At.app hP) (k:=?_)))))))))
  refine E4 Tryz.func21 (dRead (b:=(P1 ML (mB #[99,117,114,114,101,110,116,46,110,101,119])).1) (e:=(P1 ML (mB #[99,117,114,114,101,110,116,46,110,101,119])).2) hsL hfL.read d (mB #[99,117,114,114,101,110,116,46,110,101,119]) K _ H rfl) ?_
  rintro v H' ⟨ra6,rc7,g8,rfl,hrc9,hrd10,rfl⟩
  refine B5 [0,0,0,0,0] [0,7] (k:=A1 (A2 (G_p [0,0] [0,33] (k:=A1 (D2 (b:=((P1 ML (mB #[99,117,114,114,101,110,116,46,110,101,119])).2)==0) kr (fun hc11=>?_) (fun hc11=>?_))))))
  ·
   have hcr:=hc11
   refine A3 (A5 (j:=3) [0,0,0] (k:=F9 (ch:=[]) (b:=pb) (off:=0) (v:=pt d) (hA:=At.cons (At.app hP)) (k:=E4 Tryz.func42 (dRemove hsL (hfL.small (by omega) (by omega)) d (mB #[99,117,114,114,101,110,116,46,110,101,119]) (by show 11≤_; omega) ([g8]++K) _ H rfl) ?_)))
   rintro v H' ⟨rfl,s2,hs2,rfl⟩
   have hf12:=Z9 hfL (mB #[99,117,114,114,101,110,116,46,110,101,119])
   refine D5 (E':=[]) [] [] (k:=G8 (fun w h=>h.erase 0) (C5 [] [] (k:=?_)))
   rw [tidy_yes (hM.trans (by rw [List.take_of_length_le hge])) hcr]
   exact ⟨rfl,_,hs2,rfl⟩
  ·
   have hcr:=hc11
   refine B6 (G8 (fun w h=>h.erase 0) (C5 [] [] (k:=?_)))
   rw [tidy_no (hM.trans (by rw [List.take_of_length_le hge])) hcr]
   exact ⟨rfl,_,hsL,rfl⟩
end Go.Proofs.YtdolpaagdpeagaaGreatDoor
namespace Go.Proofs.YtdolpaagdpeagaaGreatDoor
open Go.Sw Go.Lib Go.Vf Go.Sha Go.Pr Go.RowKit
def ptS (n:Int) (F:List FB):Nat→DM→Int × DM
  | 0,M=>E9 (V3 (inG n maniB) (C6 F)) M
  | 1,M=>H5 M (gB n)
  | 2,M=>E9 (V3 E6 (gB n++lfB)) M
  | 3,M=>H9 M E6 G7
  | _,M=>H5 M eB
def pointB (n:Int) (F:List FB):List (DM→Int × DM):=[ptS n F 0,ptS n F 1,ptS n F 2,ptS n F 3,ptS n F 4]
def putsB (n:Int) (F:List FB):List (DM→Int × DM):=F.map fun f M=>E9 (V3 (inG n f.1) f.2) M
theorem V1 {f:DM→Int × DM} {A:List (DM→Int × DM)} {M:DM}:E9 (f::A) M=if (f M).1 != 0 then f M else E9 A (f M).2:=rfl
theorem try_flat {A B:List (DM→Int × DM)} {M:DM}:E9 (A++B) M=E9 ((fun M=>E9 A M)::B) M:=by rw [L3]; rfl
theorem putsB_eq {n:Int}:∀ {F:List FB} {M:DM},E9 (putsB n F) M=E9 (S5 n F) M
  | [],_=>rfl
  | f::F,M=>by
    show E9 ((fun M=>E9 (V3 (inG n f.1) f.2) M)::putsB n F) M=E9 (V3 (inG n f.1) f.2++S5 n F) M
    rw [try_flat,V1,V1,putsB_eq]
theorem pointB_eq {n:Int} {F:List FB} {M:DM}:E9 (pointB n F) M=E9 (pointS n F) M:=by
  unfold pointS
  rw [try_flat]
  show E9 [ptS n F 0,ptS n F 1,ptS n F 2,ptS n F 3,ptS n F 4] M=_
  rw [V1,V1]
  show (if (ptS n F 0 M).1 != 0 then _ else E9 [ptS n F 1,ptS n F 2,ptS n F 3,ptS n F 4] (ptS n F 0 M).2)=if (ptS n F 0 M).1 != 0 then _ else _
  congr 1
  rw [V1,V1]
  show (if (ptS n F 1 (ptS n F 0 M).2).1 != 0 then _ else E9 [ptS n F 2,ptS n F 3,ptS n F 4] (ptS n F 1 (ptS n F 0 M).2).2)=if (ptS n F 1 (ptS n F 0 M).2).1 != 0 then _ else _
  congr 1
  rw [try_flat]
  rfl
theorem lay_big {n:Int} {F:List FB} {M:DM}:Y7 n F M=E9 (dropS (P2 M (gB n))++(putsB n F++pointB n F)) M:=by
  unfold Y7
  rw [L3,L3 (dropS _)]
  congr 1
  rw [L3,L3 (putsB _ _),putsB_eq,pointB_eq]
theorem try_stop {A B:List (DM→Int × DM)} {f:DM→Int × DM} {M1:DM}:∀ {k:Nat} {M:DM},A[k]? = some f→E9 (A.take k) M=(0,M1)→(f M1).1≠0→E9 (A++B) M=f M1:=by
  induction A with
  | nil=>intro k M h; simp at h
  | cons g A ih =>
    intro k M hk h he
    cases k with
    | zero =>
      have hg:g=f:=by simpa using hk
      have hM:M=M1:=congrArg Prod.snd h
      subst hg hM
      show (if (g M).1 != 0 then g M else _)=g M
      rw [if_pos (by simpa using he)]
    | succ k =>
      rw [List.take_succ_cons,V1] at h
      show (if (g M).1 != 0 then g M else E9 (A++B) (g M).2)=f M1
      by_cases e:((g M).1 != 0)=true
      · rw [if_pos e] at h; rw [h] at e; exact absurd (show ((0:Int) != 0)=true from e) (by decide)
      · rw [if_neg e] at h ⊢
        exact ih (by simpa using hk) h he
theorem try_next {A:List (DM→Int × DM)} {f:DM→Int × DM} {M1:DM}:∀ {k:Nat} {M:DM},A[k]? = some f→E9 (A.take k) M=(0,M1)→(f M1).1=0→E9 (A.take (k+1)) M=(0,(f M1).2):=by
  induction A with
  | nil=>intro k M h; simp at h
  | cons g A ih =>
    intro k M hk h he
    cases k with
    | zero =>
      have hg:g=f:=by simpa using hk
      have hM:M=M1:=congrArg Prod.snd h
      subst hg hM
      show (if (g M).1 != 0 then g M else (0,(g M).2))=(0,(g M).2)
      rw [if_neg (by simpa using he)]
    | succ k =>
      rw [List.take_succ_cons,V1] at h
      rw [List.take_succ_cons,V1]
      by_cases e:((g M).1 != 0)=true
      · rw [if_pos e] at h; rw [h] at e; exact absurd (show ((0:Int) != 0)=true from e) (by decide)
      · rw [if_neg e] at h ⊢
        exact ih (by simpa using hk) h he
theorem try_all {A B:List (DM→Int × DM)} {k:Nat} {M M1:DM} (hk:A.length≤k) (h:E9 (A.take k) M=(0,M1)):E9 (A++B) M=E9 B M1:=by
  rw [List.take_of_length_le hk] at h
  rw [L3,h]; rfl
theorem drop_at {L:List ByteArray} {k:Nat} (h:k<L.length):(dropS L)[k]? = some (fun M=>J6 M (L.getD k default)):=by
  unfold dropS
  rw [List.getElem?_map,List.getD,List.getElem?_eq_getElem h]; rfl
theorem puts_at {n:Int} {F:List FB} {k:Nat} {f:FB} (h:k<F.length) (hf:f=F[k]):(putsB n F)[k]? = some (fun M=>E9 (V3 (inG n f.1) f.2) M):=by
  unfold putsB
  rw [List.getElem?_map,List.getElem?_eq_getElem h,← hf]; rfl
theorem point_at {n:Int} {F:List FB}:∀ {k:Nat},k<5→(pointB n F)[k]? = some (ptS n F k)
  | 0,_=>rfl
  | 1,_=>rfl
  | 2,_=>rfl
  | 3,_=>rfl
  | 4,_=>rfl
  | k+5,h=>absurd h (by omega)
theorem fs_at {fs:List Value} {k:Nat} (h:k<fs.length):fs[k]? = some (fs.getD k default):=by
  rw [List.getD,List.getElem?_eq_getElem h]; rfl
theorem frd_bytes {W0:World} {H:List Grp} {S:Nat→Obj→Prop} {a:Option Addr} {c:Nat} {b:ByteArray} (h:Rd S a (u8s b.data.toList)) (hs:Sh a b.size c) (hS:∀ y o,S y o→At W0 H y o):BytesV W0 H (.slice a b.size c) b:=⟨a,c,S,rfl,hs,h,hS⟩
theorem cLay1 {s:DS} {M:DM} (hs:s.ok M) {i q:Nat} (hf:Fx i q M) (hi:i+2≤100000) (hq:q+1≤10000) (K:List Grp) (d pb bp bn bf:Nat) (pn:Int) (pv:Value) (pdn:Bool) (fa:Option Addr) (fc:Nat) (F:List FB) (cs:List Value) (S:Nat→Obj→Prop) (hrd:Rd S fa cs) (hF:FRd S F cs) (hFn:F.length≤1000) (hFz:∀ f∈F,f.1.size≤1000) (hFb:∀ f∈F,f.2.size≤100000) (hlz:(C6 F).size≤100000) (n:Int) (hn0:0≤n∧n<100) (W0:World) (H:List Grp) (hS:∀ y o,S y o→At W0 K y o) (hP:At W0 K pb (.cells #[pt d,.int .i64 pn,pv,.bool pdn] 66 (0,0))) (hbp:At W0 K bp (.cells #[pt pb] 27 (0,0))) (hbn:At W0 K bn (.cells #[.int .i64 n] 3 (0,0))) (hbf:At W0 K bf (.cells #[.slice fa F.length fc] 35 (0,0))):Tri Tryz.prog 47 #[pt bp,pt bn,pt bf] W0 (K++(s.G d M++H)) (IsK K d (ptS n F 0 M).2 (.int .i64 (ptS n F 0 M).1) H):=by
 refine D6 13 Tryz.func47 ?_
 refine A2 (G_p [0] [0,1,2] (k:=A1 (A2 (F4 K kr (A9 0 (hL:=(fun w h=>(Sat.takeMid (K:=[]) (A:=K) h))) (hy:=F9 (i:=0) (ch:=[]) (b:=bp) (off:=0) (v:=pt pb) (hA:=hbp) (k:=B4 kr rfl)) (k:=A9 1 (hL:=(fun w h=>(Sat.takeMid (K:=[]) (A:=K) h))) (hy:=F9 (i:=1) (ch:=[]) (b:=bn) (off:=0) (v:=.int .i64 n) (hA:=hbn) (k:=B4 kr rfl)) (k:=A9 5 (hL:=(fun w h=>(Sat.takeMid (K:=[]) (A:=K) h))) (hy:=F9 (i:=5) (ch:=[]) (b:=bf) (off:=0) (v:=.slice fa F.length fc) (hA:=hbf) (k:=B4 kr rfl)) (k:=C2 2 (k:=?_)))))))))
 refine G1 Tryz.func26 (dir_ n hn0 _ _) (A7 kr (fun w h=>(Sat.takeMid (K:=[]) (A:=K) h)) (A9 3 kr (fun w h=>(Sat.takeMid (K:=[]) (A:=K) h)) (Z2 (gB n) (mB #[47]) (fun _=>by first | omega | (have h3:=gB_size hn0; first | (show (gB n).size+1≤_; omega) | (show (gB n++ByteArray.mk #[47]).size+8≤_; rw [ByteArray.size_append]; show (gB n).size+1+8≤_; omega))) (B4 kr rfl)) (A9 4 kr (fun w h=>(Sat.takeMid (K:=[]) (A:=K) h)) (Z2 ((gB n)++(mB #[47])) (mB #[109,97,110,105,102,101,115,116]) (fun _=>by first | omega | (have h3:=gB_size hn0; first | (show (gB n).size+1≤_; omega) | (show (gB n++ByteArray.mk #[47]).size+8≤_; rw [ByteArray.size_append]; show (gB n).size+1+8≤_; omega))) (B4 kr rfl)) (C2 6 (k:=E4 Tryz.func32 (lines_ fa fc F cs S hrd hF (by omega) (fun f hf=>Nat.le_trans (hFz f hf) (by omega)) (fun f hf=>Nat.le_trans (hFb f hf) (by omega)) _ _ (fun y o h=>(At.app (hS y o h)))) ?_)))))
 rintro v H' ⟨rfl,rfl⟩
 refine A7 kr (fun w h=>(Sat.takeMid (K:=[]) (A:=K) h)) (C2 7 (k:=GL_strBytes (i:=7) (ch:=[]) (src:=9) (dst:=31) (e:=5) (s:=(C6 F)) rfl rfl kr kr kr kr kr kr kr (fun b1 cap2 g3 hcap4 hrd5=>?_)))
 refine A7 kr (fun w h=>(Sat.takeMid (K:=[]) (A:=K) (h.pk 1 []))) (I0 (g3::K) (fun w h=>(h.pk 1 [])) (C2 8 (k:=E4 (vs:=[pt pb,.string (((gB n)++(mB #[47]))++(mB #[109,97,110,105,102,101,115,116])),.slice (some ⟨b1,0,none⟩) ((C6 F).size) cap2]) Tryz.func46 (put_ hs hf (by omega) (by omega) ([g3]++K) d pb _ _ _ (((gB n)++(mB #[47]))++(mB #[109,97,110,105,102,101,115,116])) (C6 F) (by have h3:=gB_size hn0; simp only [ByteArray.size_append]; show (gB n).size+1+8≤_; omega) (by omega) _ H ⟨(some ⟨b1,0,none⟩),cap2,(inG g3),rfl,.inr (.inr ⟨b1,0,rfl⟩),hrd5,(H6 0 rfl)⟩ (At.cons hP)) ?_)))
 rintro v H' ⟨rfl,s1,hs1,rfl⟩
 have hf6:=fx_put (b:=(C6 F)) hf (((gB n)++(mB #[47]))++(mB #[109,97,110,105,102,101,115,116])) (by omega)
 refine A7 kr (fun w h=>(Sat.takeMid (K:=[_]) (A:=K) h)) (E2 (fuel:=0) [(9,0)] (fun w h=>(Sat.takeMid (K:=[_]) (A:=K) h)) (k:=D8 (E':=[⟨3,[],.int .i64 ((E9 (V3 (((gB n)++(mB #[47]))++(mB #[109,97,110,105,102,101,115,116])) (C6 F)) M).1)⟩]) [3] (k:=A1 (C8 (G8 (fun w h=>h.erase 0) (C5 [.tmp 3] [.int .i64 ((E9 (V3 (((gB n)++(mB #[47]))++(mB #[109,97,110,105,102,101,115,116])) (C6 F)) M).1)] (k:=?_)))))))
 exact ⟨rfl,_,hs1,rfl⟩
theorem cLay2 {s:DS} {M:DM} (hs:s.ok M) {i q:Nat} (hf:Fx i q M) (hi:i+2≤100000) (hq:q+1≤10000) (K:List Grp) (d pb bp bn bf:Nat) (pn:Int) (pv:Value) (pdn:Bool) (fa:Option Addr) (fc:Nat) (F:List FB) (cs:List Value) (S:Nat→Obj→Prop) (_:Rd S fa cs) (_:FRd S F cs) (_:F.length≤1000) (_:∀ f∈F,f.1.size≤1000) (_:∀ f∈F,f.2.size≤100000) (_:(C6 F).size≤100000) (n:Int) (hn0:0≤n∧n<100) (W0:World) (H:List Grp) (_:∀ y o,S y o→At W0 K y o) (hP:At W0 K pb (.cells #[pt d,.int .i64 pn,pv,.bool pdn] 66 (0,0))) (hbp:At W0 K bp (.cells #[pt pb] 27 (0,0))) (hbn:At W0 K bn (.cells #[.int .i64 n] 3 (0,0))) (_:At W0 K bf (.cells #[.slice fa F.length fc] 35 (0,0))):Tri Tryz.prog 48 #[pt bp,pt bn] W0 (K++(s.G d M++H)) (IsK K d (ptS n F 1 M).2 (.int .i64 (ptS n F 1 M).1) H):=by
 refine D6 10 Tryz.func48 ?_
 refine A2 (B9 (E':=[⟨0,[],pt bp⟩,⟨1,[],pt bn⟩]) [0] [0,1] (k:=A1 (A2 (F4 K kr (A9 0 (hL:=(fun w h=>(Sat.takeMid (K:=[]) (A:=K) h))) (hy:=F9 (i:=0) (ch:=[]) (b:=bp) (off:=0) (v:=pt pb) (hA:=hbp) (k:=B4 kr rfl)) (k:=P0 (ad:=⟨pb,0,none⟩) 1 (hL:=(fun w h=>(Sat.takeMid (K:=[]) (A:=K) h))) (k:=E2 (fuel:=5) [(2,0)] (fun w h=>(Sat.takeMid (K:=[]) (A:=K) h)) (k:=A9 3 (hL:=(fun w h=>(Sat.takeMid (K:=[]) (A:=K) h))) (hy:=F9 (i:=3) (ch:=[]) (b:=pb) (off:=0) (v:=pt d) (hA:=hP) (k:=B4 kr rfl)) (k:=?_)))))))))
 refine A9 4 (hL:=(fun w h=>(Sat.takeMid (K:=[]) (A:=K) h))) (hy:=F9 (i:=4) (ch:=[]) (b:=bn) (off:=0) (v:=.int .i64 n) (hA:=hbn) (k:=B4 kr rfl)) (k:=C2 5 (k:=G1 Tryz.func26 (dir_ n hn0 _ _) (A7 kr (fun w h=>(Sat.takeMid (K:=[]) (A:=K) h)) (C2 6 (k:=E4 Tryz.func49 (dSyncDir hs (hf.small (by omega) (by omega)) d (gB n) (by have h3:=gB_size hn0; omega) K _ H rfl) ?_)))))
 rintro v H' ⟨rfl,s1,hs1,rfl⟩
 have hf1:=fx_sdir hf (gB n)
 refine A7 kr (fun w h=>(Sat.takeMid (K:=[]) (A:=K) h)) (E2 (fuel:=0) [(7,0)] (fun w h=>(Sat.takeMid (K:=[]) (A:=K) h)) (k:=D8 (E':=[⟨2,[],.int .i64 ((H5 M (gB n)).1)⟩]) [2] (k:=A1 (C8 (C5 [.tmp 2] [.int .i64 ((H5 M (gB n)).1)] (k:=?_))))))
 exact ⟨rfl,_,hs1,rfl⟩
theorem cLay3 {s:DS} {M:DM} (hs:s.ok M) {i q:Nat} (hf:Fx i q M) (hi:i+2≤100000) (hq:q+1≤10000) (K:List Grp) (d pb bp bn bf:Nat) (pn:Int) (pv:Value) (pdn:Bool) (fa:Option Addr) (fc:Nat) (F:List FB) (cs:List Value) (S:Nat→Obj→Prop) (_:Rd S fa cs) (_:FRd S F cs) (_:F.length≤1000) (_:∀ f∈F,f.1.size≤1000) (_:∀ f∈F,f.2.size≤100000) (_:(C6 F).size≤100000) (n:Int) (hn0:0≤n∧n<100) (W0:World) (H:List Grp) (_:∀ y o,S y o→At W0 K y o) (hP:At W0 K pb (.cells #[pt d,.int .i64 pn,pv,.bool pdn] 66 (0,0))) (hbp:At W0 K bp (.cells #[pt pb] 27 (0,0))) (hbn:At W0 K bn (.cells #[.int .i64 n] 3 (0,0))) (_:At W0 K bf (.cells #[.slice fa F.length fc] 35 (0,0))):Tri Tryz.prog 50 #[pt bp,pt bn] W0 (K++(s.G d M++H)) (IsK K d (ptS n F 2 M).2 (.int .i64 (ptS n F 2 M).1) H):=by
 refine D6 9 Tryz.func50 ?_
 refine A2 (B9 (E':=[⟨0,[],pt bp⟩,⟨1,[],pt bn⟩]) [0] [0,1] (k:=A1 (A2 (F4 K kr (A9 0 (hL:=(fun w h=>(Sat.takeMid (K:=[]) (A:=K) h))) (hy:=F9 (i:=0) (ch:=[]) (b:=bp) (off:=0) (v:=pt pb) (hA:=hbp) (k:=B4 kr rfl)) (k:=A9 1 (hL:=(fun w h=>(Sat.takeMid (K:=[]) (A:=K) h))) (hy:=F9 (i:=1) (ch:=[]) (b:=bn) (off:=0) (v:=.int .i64 n) (hA:=hbn) (k:=B4 kr rfl)) (k:=C2 2 (k:=G1 Tryz.func26 (dir_ n hn0 _ _) ?_))))))))
 refine A7 kr (fun w h=>(Sat.takeMid (K:=[]) (A:=K) h)) (A9 3 kr (fun w h=>(Sat.takeMid (K:=[]) (A:=K) h)) (Z2 (gB n) (mB #[10]) (fun _=>by first | omega | (have h3:=gB_size hn0; first | (show (gB n).size+1≤_; omega) | (show (gB n++ByteArray.mk #[47]).size+8≤_; rw [ByteArray.size_append]; show (gB n).size+1+8≤_; omega))) (B4 kr rfl)) (C2 4 (k:=GL_strBytes (i:=4) (ch:=[]) (src:=9) (dst:=31) (e:=5) (s:=(gB n)++(mB #[10])) rfl rfl kr kr kr kr kr kr kr (fun b1 cap2 g3 hcap4 hrd5=>?_))))
 refine A7 kr (fun w h=>(Sat.takeMid (K:=[]) (A:=K) (h.pk 1 []))) (I0 (g3::K) (fun w h=>(h.pk 1 [])) (C2 5 (k:=E4 (vs:=[pt pb,.string (mB #[99,117,114,114,101,110,116,46,110,101,119]),.slice (some ⟨b1,0,none⟩) (((gB n)++(mB #[10])).size) cap2]) Tryz.func46 (put_ hs hf (by omega) (by omega) ([g3]++K) d pb _ _ _ (mB #[99,117,114,114,101,110,116,46,110,101,119]) ((gB n)++(mB #[10])) (by decide) (by have h3:=gB_size hn0; rw [ByteArray.size_append]; show (gB n).size+1≤_; omega) _ H ⟨(some ⟨b1,0,none⟩),cap2,(inG g3),rfl,.inr (.inr ⟨b1,0,rfl⟩),hrd5,(H6 0 rfl)⟩ (At.cons hP)) ?_)))
 rintro v H' ⟨rfl,s1,hs1,rfl⟩
 have hf6:=fx_put (b:=((gB n)++(mB #[10]))) hf (mB #[99,117,114,114,101,110,116,46,110,101,119]) (by have h3:=gB_size hn0; rw [ByteArray.size_append]; show (gB n).size+1≤_; omega)
 refine A7 kr (fun w h=>(Sat.takeMid (K:=[_]) (A:=K) h)) (E2 (fuel:=0) [(6,0)] (fun w h=>(Sat.takeMid (K:=[_]) (A:=K) h)) (k:=D8 (E':=[⟨2,[],.int .i64 ((E9 (V3 (mB #[99,117,114,114,101,110,116,46,110,101,119]) ((gB n)++(mB #[10]))) M).1)⟩]) [2] (k:=A1 (C8 (G8 (fun w h=>h.erase 0) (C5 [.tmp 2] [.int .i64 ((E9 (V3 (mB #[99,117,114,114,101,110,116,46,110,101,119]) ((gB n)++(mB #[10]))) M).1)] (k:=?_)))))))
 exact ⟨rfl,_,hs1,rfl⟩
theorem cLay4 {s:DS} {M:DM} (hs:s.ok M) {i q:Nat} (hf:Fx i q M) (hi:i+2≤100000) (hq:q+1≤10000) (K:List Grp) (d pb bp bn bf:Nat) (pn:Int) (pv:Value) (pdn:Bool) (fa:Option Addr) (fc:Nat) (F:List FB) (cs:List Value) (S:Nat→Obj→Prop) (_:Rd S fa cs) (_:FRd S F cs) (_:F.length≤1000) (_:∀ f∈F,f.1.size≤1000) (_:∀ f∈F,f.2.size≤100000) (_:(C6 F).size≤100000) (n:Int) (_:0≤n∧n<100) (W0:World) (H:List Grp) (_:∀ y o,S y o→At W0 K y o) (hP:At W0 K pb (.cells #[pt d,.int .i64 pn,pv,.bool pdn] 66 (0,0))) (hbp:At W0 K bp (.cells #[pt pb] 27 (0,0))) (_:At W0 K bn (.cells #[.int .i64 n] 3 (0,0))) (_:At W0 K bf (.cells #[.slice fa F.length fc] 35 (0,0))):Tri Tryz.prog 51 #[pt bp] W0 (K++(s.G d M++H)) (IsK K d (ptS n F 3 M).2 (.int .i64 (ptS n F 3 M).1) H):=by
 refine D6 7 Tryz.func51 ?_
 refine A2 (B9 (E':=[⟨0,[],pt bp⟩]) [0] [0] (k:=A1 (A2 (A3 (F9 (ch:=[]) (b:=bp) (off:=0) (v:=pt pb) (hA:=At.app hbp) (k:=A5 (j:=3) [0,0] (k:=F9 (ch:=[]) (b:=pb) (off:=0) (v:=pt d) (hA:=At.app hP) (k:=E4 Tryz.func52 (dRename hs (hf.small (by omega) (by omega)) d (mB #[99,117,114,114,101,110,116,46,110,101,119]) (mB #[99,117,114,114,101,110,116]) (by decide) (by decide) K _ H rfl) ?_))))))))
 rintro v H' ⟨rfl,s1,hs1,rfl⟩
 have hf1:=fx_rename hf (mB #[99,117,114,114,101,110,116,46,110,101,119]) (mB #[99,117,114,114,101,110,116])
 refine B5 [0] [1] (k:=A1 (C8 (C5 [.tmp 1] [.int .i64 ((H9 M (mB #[99,117,114,114,101,110,116,46,110,101,119]) (mB #[99,117,114,114,101,110,116])).1)] (k:=?_))))
 exact ⟨rfl,_,hs1,rfl⟩
theorem cLay5 {s:DS} {M:DM} (hs:s.ok M) {i q:Nat} (hf:Fx i q M) (hi:i+2≤100000) (hq:q+1≤10000) (K:List Grp) (d pb bp bn bf:Nat) (pn:Int) (pv:Value) (pdn:Bool) (fa:Option Addr) (fc:Nat) (F:List FB) (cs:List Value) (S:Nat→Obj→Prop) (_:Rd S fa cs) (_:FRd S F cs) (_:F.length≤1000) (_:∀ f∈F,f.1.size≤1000) (_:∀ f∈F,f.2.size≤100000) (_:(C6 F).size≤100000) (n:Int) (_:0≤n∧n<100) (W0:World) (H:List Grp) (_:∀ y o,S y o→At W0 K y o) (hP:At W0 K pb (.cells #[pt d,.int .i64 pn,pv,.bool pdn] 66 (0,0))) (hbp:At W0 K bp (.cells #[pt pb] 27 (0,0))) (_:At W0 K bn (.cells #[.int .i64 n] 3 (0,0))) (_:At W0 K bf (.cells #[.slice fa F.length fc] 35 (0,0))):Tri Tryz.prog 53 #[pt bp] W0 (K++(s.G d M++H)) (IsK K d (ptS n F 4 M).2 (.int .i64 (ptS n F 4 M).1) H):=by
 refine D6 7 Tryz.func53 ?_
 refine A2 (B9 (E':=[⟨0,[],pt bp⟩]) [0] [0] (k:=A1 (A2 (A3 (F9 (ch:=[]) (b:=bp) (off:=0) (v:=pt pb) (hA:=At.app hbp) (k:=A5 (j:=3) [0,0] (k:=F9 (ch:=[]) (b:=pb) (off:=0) (v:=pt d) (hA:=At.app hP) (k:=E4 Tryz.func49 (dSyncDir hs (hf.small (by omega) (by omega)) d eB (by decide) K _ H rfl) ?_))))))))
 rintro v H' ⟨rfl,s1,hs1,rfl⟩
 have hf1:=fx_sdir hf eB
 refine B5 [0] [1] (k:=A1 (C8 (C5 [.tmp 1] [.int .i64 ((H5 M eB).1)] (k:=?_))))
 exact ⟨rfl,_,hs1,rfl⟩
end Go.Proofs.YtdolpaagdpeagaaGreatDoor
namespace Go.Proofs.YtdolpaagdpeagaaGreatDoor
open Go.Sw Go.Lib Go.Vf Go.Sha Go.Pr Go.RowKit
theorem try_stop0 {A:List (DM→Int × DM)} {f:DM→Int × DM} {M1:DM} {k:Nat} {M:DM} (h1:A[k]? = some f) (h2:E9 (A.take k) M=(0,M1)) (h3:(f M1).1≠0):E9 A M=f M1:=by
  have:=try_stop (B:=[]) h1 h2 h3
  rwa [List.append_nil] at this
theorem fx_pt {i q:Nat} {M:DM} (h:Fx i q M) {n:Int} (hn:0≤n∧n<100) {F:List FB} (hl:(C6 F).size≤100000):∀ k,Fx (i+2) (q+1) (ptS n F k M).2
  | 0=>fx_put h _ hl
  | 1=>(fx_sdir h _).up (by omega) (by omega)
  | 2=>fx_put h _ (by have h3:=gB_size hn; show (gB n++lfB).size≤_; rw [ByteArray.size_append]; show (gB n).size+1≤_; omega)
  | 3=>(fx_rename h _ _).up (by omega) (by omega)
  | _+4=>(fx_sdir h _).up (by omega) (by omega)
theorem lay_call {s:DS} {M:DM} (hs:s.ok M) {i q:Nat} (hf:Fx i q M) (hi:i+2≤100000) (hq:q+1≤10000) (K:List Grp) (d pb bp bn bf:Nat) (pn:Int) (pv:Value) (pdn:Bool) (fa:Option Addr) (fc:Nat) (F:List FB) (cs:List Value) (S:Nat→Obj→Prop) (hrd:Rd S fa cs) (hF:FRd S F cs) (hFn:F.length≤1000) (hFz:∀ f∈F,f.1.size≤1000) (hFb:∀ f∈F,f.2.size≤100000) (hlz:(C6 F).size≤100000) (n:Int) (hn0:0≤n∧n<100) (W0:World) (H:List Grp) (hS:∀ y o,S y o→At W0 K y o) (hP:At W0 K pb (.cells #[pt d,.int .i64 pn,pv,.bool pdn] 66 (0,0))) (hbp:At W0 K bp (.cells #[pt pb] 27 (0,0))) (hbn:At W0 K bn (.cells #[.int .i64 n] 3 (0,0))) (hbf:At W0 K bf (.cells #[.slice fa F.length fc] 35 (0,0))):∀ (k:Nat),k<5 →
    FV Tryz.prog (([.func (.func 47) #[] #[pt bp,pt bn,pt bf],.func (.func 48) #[] #[pt bp,pt bn],.func (.func 50) #[] #[pt bp,pt bn],.func (.func 51) #[] #[pt bp],.func (.func 53) #[] #[pt bp]]:List Value).getD k default) [] W0 (K++(s.G d M++H)) (fun v H'=>∃ s2:DS,v=.int .i64 (ptS n F k M).1∧s2.ok (ptS n F k M).2∧Fx (i+2) (q+1) (ptS n F k M).2∧H'=K++(s2.G d (ptS n F k M).2++H))
  | 0,_=>FV.of Tryz.func47 rfl rfl (Tri.post (cLay1 hs hf hi hq K d pb bp bn bf pn pv pdn fa fc F cs S hrd hF hFn hFz hFb hlz n hn0 W0 H hS hP hbp hbn hbf) fun v H1 ⟨hv,s2,h2,hH⟩=>⟨_,⟨s2,hv,h2,fx_pt hf hn0 hlz 0,rfl⟩,fun w hw=>by rw [hH] at hw; exact hw⟩)
  | 1,_=>FV.of Tryz.func48 rfl rfl (Tri.post (cLay2 hs hf hi hq K d pb bp bn bf pn pv pdn fa fc F cs S hrd hF hFn hFz hFb hlz n hn0 W0 H hS hP hbp hbn hbf) fun v H1 ⟨hv,s2,h2,hH⟩=>⟨_,⟨s2,hv,h2,fx_pt hf hn0 hlz 1,rfl⟩,fun w hw=>by rw [hH] at hw; exact hw⟩)
  | 2,_=>FV.of Tryz.func50 rfl rfl (Tri.post (cLay3 hs hf hi hq K d pb bp bn bf pn pv pdn fa fc F cs S hrd hF hFn hFz hFb hlz n hn0 W0 H hS hP hbp hbn hbf) fun v H1 ⟨hv,s2,h2,hH⟩=>⟨_,⟨s2,hv,h2,fx_pt hf hn0 hlz 2,rfl⟩,fun w hw=>by rw [hH] at hw; exact hw⟩)
  | 3,_=>FV.of Tryz.func51 rfl rfl (Tri.post (cLay4 hs hf hi hq K d pb bp bn bf pn pv pdn fa fc F cs S hrd hF hFn hFz hFb hlz n hn0 W0 H hS hP hbp hbn hbf) fun v H1 ⟨hv,s2,h2,hH⟩=>⟨_,⟨s2,hv,h2,fx_pt hf hn0 hlz 3,rfl⟩,fun w hw=>by rw [hH] at hw; exact hw⟩)
  | 4,_=>FV.of Tryz.func53 rfl rfl (Tri.post (cLay5 hs hf hi hq K d pb bp bn bf pn pv pdn fa fc F cs S hrd hF hFn hFz hFb hlz n hn0 W0 H hS hP hbp hbn hbf) fun v H1 ⟨hv,s2,h2,hH⟩=>⟨_,⟨s2,hv,h2,fx_pt hf hn0 hlz 4,rfl⟩,fun w hw=>by rw [hH] at hw; exact hw⟩)
  | k+5,h=>absurd h (by omega)
theorem lay_ (fa:Option Addr) (fc:Nat) (F:List FB) (cs:List Value) (S:Nat→Obj→Prop) (hrd:Rd S fa cs) (hF:FRd S F cs) (hFn:F.length≤1000) (hFz:∀ f∈F,f.1.size≤1000) (hFb:∀ f∈F,f.2.size≤100000) (hlz:(C6 F).size≤100000) (n:Int) (hn0:0≤n∧n<100) {s:DS} {M:DM} (hs:s.ok M) {i q:Nat} (hf:Fx i q M) (hi:i+q+2 * F.length+12≤100000) (hq:q+F.length+6≤10000) (K:List Grp) (d pb:Nat) (pn:Int) (pv:Value) (pdn:Bool) (W0:World) (H:List Grp) (hS:∀ y o,S y o→At W0 K y o) (hP:At W0 K pb (.cells #[pt d,.int .i64 pn,pv,.bool pdn] 66 (0,0))):Tri Tryz.prog 24 #[pt pb,.int .i64 n,.slice fa F.length fc] W0 (K++(s.G d M++H)) (IsK K d (Y7 n F M).2 (.int .i64 (Y7 n F M).1) H):=by
 obtain ⟨L,hL⟩:∃ L,P2 M (gB n)=L:=⟨_,rfl⟩
 have hll:L.length≤q:=by have h1:=list_le (M:=M) (d:=gB n); have h2:=hf.names; rw [hL] at h1; omega
 have hpt:∀ p∈L,p.size≤1000000:=fun p hp=>by rw [← hL] at hp; have:=list_right hf.rn hp; have:=S3 this; omega
 refine D6 77 Tryz.func24 ?_
 refine A2 (A3 (O9 (pt pb) (fun b1=>O9 (.int .i64 n) (fun b2=>?_))))
 refine O9 (.slice fa F.length fc) (fun b3=>B5 [0] [3,4,5] (k:=A1 (A2 (A2 (F4 ([(b3,.cells #[.slice fa F.length fc] 35 (0,0))]::[(b2,.cells #[.int .i64 n] 3 (0,0))]::[(b1,.cells #[pt pb] 27 (0,0))]::K) kr (A9 0 kr (fun w h=>(Sat.takeMid (K:=[_,_,_]) (A:=K) h)) (D0 2 0 rfl rfl (B4 kr rfl)) (P0 (ad:=⟨pb,0,none⟩) 1 (hL:=(fun w h=>(Sat.takeMid (K:=[_,_,_]) (A:=K) h))) (k:=E2 (fuel:=6) [(2,0)] (fun w h=>(Sat.takeMid (K:=[_,_,_]) (A:=K) h)) (k:=?_)))))))))
 refine A9 3 (hL:=(fun w h=>(Sat.takeMid (K:=[_,_,_]) (A:=K) h))) (hy:=F9 (i:=3) (ch:=[]) (b:=pb) (off:=0) (v:=pt d) (hA:=At.cons (At.cons (At.cons hP))) (k:=B4 kr rfl)) (k:=A9 4 kr (fun w h=>(Sat.takeMid (K:=[_,_,_]) (A:=K) h)) (D0 1 0 rfl rfl (B4 kr rfl)) (E2 (fuel:=3) [(8,0)] (fun w h=>(Sat.takeMid (K:=[_,_,_]) (A:=K) h)) (k:=C2 5 (k:=G1 Tryz.func26 (dir_ n hn0 _ _) (A7 kr (fun w h=>(Sat.takeMid (K:=[_,_,_]) (A:=K) h)) (C2 6 (k:=E4 Tryz.func20 (dList hs (hf.small (by omega) (by omega)) d (gB n) ([[(b3,.cells #[.slice fa F.length fc] 35 (0,0))],[(b2,.cells #[.int .i64 n] 3 (0,0))],[(b1,.cells #[pt pb] 27 (0,0))]]++K) _ H hL) ?_)))))))
 rintro v H' ⟨la4,lc5,g6,rfl,hlc7,hrd8,rfl⟩
 refine A7 kr (fun w h=>(Sat.takeMid (K:=[_,_,_]) (A:=K) (h.pk 1 [1,1,1]))) (I0 (g6::[(b3,.cells #[.slice fa F.length fc] 35 (0,0))]::[(b2,.cells #[.int .i64 n] 3 (0,0))]::[(b1,.cells #[pt pb] 27 (0,0))]::K) (fun w h=>(h.pk 1 [1,1,1])) (GH_pev (v:=.int .i64 ((L.length:Nat):Int)) 7 (hL:=(fun w h=>(Sat.takeMid (K:=[_,_,_,_]) (A:=K) h))) (k:=D8 (E':=[⟨3,[],pt b1⟩,⟨4,[],pt b2⟩,⟨5,[],pt b3⟩,⟨23,[],.slice la4 L.length lc5⟩,⟨24,[],.int .i64 ((L.length:Nat):Int)⟩,⟨25,[],.int .i64 0⟩]) [3,4,5,23,24,25] (k:=A1 (B8 (I6 (EI:=(fun ξ:Nat × DM × DS=>[⟨3,[],pt b1⟩,⟨4,[],pt b2⟩,⟨5,[],pt b3⟩,⟨23,[],.slice la4 L.length lc5⟩,⟨24,[],.int .i64 ((L.length:Nat):Int)⟩,⟨25,[],.int .i64 ((ξ.1:Nat):Int)⟩])) (HI:=(fun ξ:Nat × DM × DS=>(g6::[(b3,.cells #[.slice fa F.length fc] 35 (0,0))]::[(b2,.cells #[.int .i64 n] 3 (0,0))]::[(b1,.cells #[pt pb] 27 (0,0))]::(K++(ξ.2.2.G d ξ.2.1++H))))) (Φ:=(fun ξ:Nat × DM × DS=>(ξ.1≤L.length)∧(ξ.2.2.ok ξ.2.1)∧(Fx (i+ξ.1) q ξ.2.1)∧(E9 ((dropS L).take ξ.1) M=(0,ξ.2.1)))) (μ:=(fun ξ:Nat × DM × DS=>L.length - ξ.1)) (s0:=(0,M,s)) [3,4,5,23,24,25] kr rfl ⟨(by omega),hs,hf,rfl⟩ ?_))))))
 rintro ⟨k,MA,sA⟩ ⟨hk,hsA,hfMA,hMA⟩
 dsimp only at hsA hfMA hMA
 refine A2 (G_p [0] [3,4,5,23,24,25,26] (k:=A1 (A2 (D2 (b:=decide (((k:Nat):Int)<((L.length:Nat):Int))) kr (fun hc9=>?_) (fun hc9=>?_)))))
 ·
  have hlt:k<L.length:=by simp only [decide_eq_true_eq] at hc9; omega
  refine B6 (A1 (A2 (B8 (A2 (A3 (L2 L.length ((k:Nat):Int) 1 hrd8 (by first | exact ⟨by omega,by omega,strs_le (by omega)⟩ | exact ⟨by omega,by omega,P8 hF (by omega)⟩ | exact ⟨by omega,by omega,by intro h; cases h⟩) (O3 (k * 1) (.string (L.getD k default)) hrd8 (H6 0 rfl) (fun _=>(by rw [Nat.mul_one]; exact strs_at (by omega))) (B5 [0] [3,4,5,8,23,24,25] (k:=?_)))))))))
  refine A1 (A2 (A3 (D0 3 0 rfl rfl (A5 (j:=3) [0,0] (k:=F9 (ch:=[]) (b:=pb) (off:=0) (v:=pt d) (hA:=At.cons (At.cons (At.cons (At.cons (At.app hP))))) (k:=A5 (j:=5) [0] (k:=E4 Tryz.func42 (dRemove hsA (hfMA.small (by omega) (by omega)) d (L.getD k default) (by have:=hpt (L.getD k default) (by rw [List.getD,List.getElem?_eq_getElem (by omega)]; exact List.getElem_mem _); omega) ([g6,[(b3,.cells #[.slice fa F.length fc] 35 (0,0))],[(b2,.cells #[.int .i64 n] 3 (0,0))],[(b1,.cells #[pt pb] 27 (0,0))]]++K) _ H rfl) ?_)))))))
  rintro v H' ⟨rfl,s1,hs1,rfl⟩
  have hf10:=Z9 hfMA (L.getD k default)
  refine B5 [0] [3,4,5,9,23,24,25] (k:=A1 (A2 (G_p [0,0] [3,4,5,9,23,24,25,36] (k:=A1 (D2 (b:=((J6 MA (L.getD k default)).1) != 0) kr (fun hc11=>?_) (fun hc11=>?_))))))
  ·
   have hyes:=hc11
   refine A2 (G_p [0,0] [6] (k:=A1 (C8 (G3 (C0 (C0 (G3 (C0 ?_))))))))
   refine G8 (fun w h=>h.erase 3) (G8 (fun w h=>h.erase 2) (G8 (fun w h=>h.erase 1) (G8 (fun w h=>h.erase 0) (C5 [.tmp 6] [.int .i64 ((J6 MA (L.getD k default)).1)] (k:=?_)))))
   rw [lay_big,hL,try_stop (drop_at hlt) hMA (bne_iff_ne.1 hyes)]
   exact ⟨rfl,_,hs1,rfl⟩
  ·
   have hno:=hc11
   simp only [bne_eq_false_iff_eq] at hno
   refine B6 (D3 (A1 (A3 (A5 (j:=1) [0] (k:=F0 38 (((k:Nat):Int)+1) (by omega) (by omega) kr (B5 [0] [3,4,5,23,24,25] (k:=F6 (s':=(k+1,((J6 MA (L.getD k default)).2),s1)) [3,4,5,23,24,25] kr rfl ⟨(by omega),hs1,hf10,(try_next (drop_at hlt) hMA hno)⟩ (by omega))))))))
 ·
  have hgeA:L.length≤k:=by simp only [decide_eq_false_iff_not] at hc9; omega
  refine H0 (A6 (A6 (C3 (A1 (A2 (A2 (A3 (D0 1 0 rfl rfl ?_))))))))
  refine B5 [0,0] [3,4,5,39,40,41] (k:=A1 (B8 (I6 (EI:=(fun ξ:Nat × DM × DS=>[⟨3,[],pt b1⟩,⟨4,[],pt b2⟩,⟨5,[],pt b3⟩,⟨39,[],.slice fa F.length fc⟩,⟨40,[],.int .i64 ((F.length:Nat):Int)⟩,⟨41,[],.int .i64 ((ξ.1:Nat):Int)⟩])) (HI:=(fun ξ:Nat × DM × DS=>(g6::[(b3,.cells #[.slice fa F.length fc] 35 (0,0))]::[(b2,.cells #[.int .i64 n] 3 (0,0))]::[(b1,.cells #[pt pb] 27 (0,0))]::(K++(ξ.2.2.G d ξ.2.1++H))))) (Φ:=(fun ξ:Nat × DM × DS=>(ξ.1≤F.length)∧(ξ.2.2.ok ξ.2.1)∧(Fx (i+q+2 * ξ.1) (q+ξ.1) ξ.2.1)∧(E9 ((putsB n F).take ξ.1) MA=(0,ξ.2.1)))) (μ:=(fun ξ:Nat × DM × DS=>F.length - ξ.1)) (s0:=(0,MA,sA)) [3,4,5,39,40,41] kr rfl ⟨(by omega),hsA,(hfMA.up (by dsimp only; omega) (by dsimp only; omega)),rfl⟩ ?_)))
  rintro ⟨k2,MB,sB⟩ ⟨hk2,hsB,hfMB,hMB⟩
  dsimp only at hsB hfMB hMB
  refine A2 (G_p [0] [3,4,5,39,40,41,42] (k:=A1 (A2 (D2 (b:=decide (((k2:Nat):Int)<((F.length:Nat):Int))) kr (fun hc13=>?_) (fun hc13=>?_)))))
  ·
   have hlt2:k2<F.length:=by simp only [decide_eq_true_eq] at hc13; omega
   obtain ⟨ba,bc,hge,hgr,hgc⟩:=hF.get hlt2
   obtain ⟨f,hfk⟩:∃ f,f=F[k2]:=⟨_,rfl⟩
   rw [← hfk] at hge hgr hgc
   have hfm:f∈F:=by rw [hfk]; exact List.getElem_mem hlt2
   refine B6 (A1 (A2 (B8 (A2 (A3 (L2 F.length ((k2:Nat):Int) 2 hrd (by first | exact ⟨by omega,by omega,strs_le (by omega)⟩ | exact ⟨by omega,by omega,P8 hF (by omega)⟩ | exact ⟨by omega,by omega,by intro h; cases h⟩) (L0 (ch:=[]) (a:=fa) (q:=k2 * 2) (S:=S) (cs:=cs) (l:=[.string f.1,.slice ba f.2.size bc]) (hrd:=hrd) (hS:=(fun y o h=>(At.cons (At.cons (At.cons (At.cons (At.app (hS y o h)))))))) (hl:=List.cons_ne_nil _ _) (hv:=(fun _=>(elt2 hge))) (k:=O0 (.agg #[.string eB,.slice none 0 0]) (fun b14=>?_)))))))))
   refine M8 0 0 (.agg #[.string f.1,.slice ba f.2.size bc]) rfl (B5 [] [3,4,5,11,39,40,41] (k:=A1 (A2 (F4 ([(b14,.cells #[.string f.1,.slice ba f.2.size bc] 34 (0,0))]::g6::[(b3,.cells #[.slice fa F.length fc] 35 (0,0))]::[(b2,.cells #[.int .i64 n] 3 (0,0))]::[(b1,.cells #[pt pb] 27 (0,0))]::K) kr (A9 0 kr (fun w h=>(Sat.takeMid (K:=[_,_,_,_,_]) (A:=K) h)) (D0 4 0 rfl rfl (B4 kr rfl)) (A9 1 kr (fun w h=>(Sat.takeMid (K:=[_,_,_,_,_]) (A:=K) h)) (D0 3 0 rfl rfl (B4 kr rfl)) (E2 (fuel:=8) [(4,0)] (fun w h=>(Sat.takeMid (K:=[_,_,_,_,_]) (A:=K) h)) (k:=A9 5 kr (fun w h=>(Sat.takeMid (K:=[_,_,_,_,_]) (A:=K) h)) (D0 0 0 rfl rfl (B4 kr rfl)) ?_))))))))
   refine E2 (fuel:=6) [(7,0)] (fun w h=>(Sat.takeMid (K:=[_,_,_,_,_]) (A:=K) h)) (k:=A9 8 kr (fun w h=>(Sat.takeMid (K:=[_,_,_,_,_]) (A:=K) h)) (D0 0 1 rfl rfl (B4 kr rfl)) (C2 2 (k:=G1 Tryz.func26 (dir_ n hn0 _ _) (A7 kr (fun w h=>(Sat.takeMid (K:=[_,_,_,_,_]) (A:=K) h)) (A9 3 kr (fun w h=>(Sat.takeMid (K:=[_,_,_,_,_]) (A:=K) h)) (Z2 (gB n) (mB #[47]) (fun _=>by first | omega | (have h3:=gB_size hn0; first | (show (gB n).size+1≤_; omega) | (have h4:=hFz f hfm; show (gB n++ByteArray.mk #[47]).size+f.1.size≤_; rw [ByteArray.size_append]; show (gB n).size+1+f.1.size≤_; omega))) (B4 kr rfl)) (A9 6 kr (fun w h=>(Sat.takeMid (K:=[_,_,_,_,_]) (A:=K) h)) (Z2 ((gB n)++(mB #[47])) f.1 (fun _=>by first | omega | (have h3:=gB_size hn0; first | (show (gB n).size+1≤_; omega) | (have h4:=hFz f hfm; show (gB n++ByteArray.mk #[47]).size+f.1.size≤_; rw [ByteArray.size_append]; show (gB n).size+1+f.1.size≤_; omega))) (B4 kr rfl)) (C2 9 (k:=E4 (vs:=[pt pb,.string (((gB n)++(mB #[47]))++f.1),.slice ba f.2.size bc]) Tryz.func46 (put_ hsB hfMB (by omega) (by omega) ([[(b14,.cells #[.string f.1,.slice ba f.2.size bc] 34 (0,0))],g6,[(b3,.cells #[.slice fa F.length fc] 35 (0,0))],[(b2,.cells #[.int .i64 n] 3 (0,0))],[(b1,.cells #[pt pb] 27 (0,0))]]++K) d pb _ _ _ (((gB n)++(mB #[47]))++f.1) f.2 (by have h3:=gB_size hn0; have h4:=hFz f hfm; simp only [ByteArray.size_append]; show (gB n).size+1+f.1.size≤_; omega) (hFb f hfm) _ H (frd_bytes hgr hgc (fun y o h=>(At.cons (At.cons (At.cons (At.cons (At.cons (At.app (hS y o h))))))))) (At.cons (At.cons (At.cons (At.cons (At.cons hP)))))) ?_))))))))
   rintro v H' ⟨rfl,s2,hs2,rfl⟩
   have hf15:=fx_put (b:=f.2) hfMB (((gB n)++(mB #[47]))++f.1) (hFb f hfm)
   refine A7 kr (fun w h=>(Sat.takeMid (K:=[_,_,_,_,_]) (A:=K) h)) (E2 (fuel:=0) [(10,0)] (fun w h=>(Sat.takeMid (K:=[_,_,_,_,_]) (A:=K) h)) (k:=D8 (E':=[⟨3,[],pt b1⟩,⟨4,[],pt b2⟩,⟨5,[],pt b3⟩,⟨12,[],.int .i64 ((E9 (V3 (((gB n)++(mB #[47]))++f.1) f.2) MB).1)⟩,⟨39,[],.slice fa F.length fc⟩,⟨40,[],.int .i64 ((F.length:Nat):Int)⟩,⟨41,[],.int .i64 ((k2:Nat):Int)⟩]) [3,4,5,12,39,40,41] (k:=A1 (A2 (G_p [0,0] [3,4,5,12,39,40,41,56] (k:=A1 (D2 (b:=((E9 (V3 (((gB n)++(mB #[47]))++f.1) f.2) MB).1) != 0) kr (fun hc16=>?_) (fun hc16=>?_))))))))
   ·
    have hyes2:=hc16
    refine A2 (G_p [0,0] [6] (k:=A1 (C8 (G3 (C0 (C0 (G3 (C0 ?_))))))))
    refine G8 (fun w h=>h.erase 4) (G8 (fun w h=>h.erase 3) (G8 (fun w h=>h.erase 2) (G8 (fun w h=>h.erase 1) (G8 (H':=(K++(s2.G d ((E9 (V3 (((gB n)++(mB #[47]))++f.1) f.2) MB).2)++H))) (fun w h=>h.erase 0) (C5 [.tmp 6] [.int .i64 ((E9 (V3 (((gB n)++(mB #[47]))++f.1) f.2) MB).1)] (k:=?_))))))
    rw [lay_big,hL,try_all (A:=dropS L) (by unfold dropS; rw [List.length_map]; exact hgeA) hMA,try_stop (puts_at hlt2 hfk) hMB (bne_iff_ne.1 hyes2)]
    exact ⟨rfl,_,hs2,rfl⟩
   ·
    have hno2:=hc16
    simp only [bne_eq_false_iff_eq] at hno2
    refine B6 (D3 (A1 (A3 (A5 (j:=1) [0] (k:=F0 58 (((k2:Nat):Int)+1) (by omega) (by omega) kr (B5 [0] [3,4,5,39,40,41] (k:=N_pk 1 [1,1,1,1] (F6 (s':=(k2+1,((E9 (V3 (((gB n)++(mB #[47]))++f.1) f.2) MB).2),s2)) [3,4,5,39,40,41] kr kr ⟨(by omega),hs2,(hf15.up (by dsimp only; omega) (by dsimp only; omega)),(try_next (puts_at hlt2 hfk) hMB hno2)⟩ (by omega)))))))))
  ·
   have hgeB:F.length≤k2:=by simp only [decide_eq_false_iff_not] at hc13; omega
   refine H0 (A6 (A6 (C3 (A1 (A2 (A3 (A5 (j:=5) [0,0,0,0,0] (k:=N2 97 5 [.func (.func 47) #[] #[pt b1,pt b2,pt b3],.func (.func 48) #[] #[pt b1,pt b2],.func (.func 50) #[] #[pt b1,pt b2],.func (.func 51) #[] #[pt b1],.func (.func 53) #[] #[pt b1]] (fun b18=>?_)))))))))
   refine B5 [0] [13] (k:=A1 (A2 (A2 (G_p [0,0,0] [65,66,67] (k:=A1 (B8 (I6 (EI:=(fun ξ:Nat × DM × DS=>[⟨65,[],.slice (some ⟨b18,0,none⟩) 5 5⟩,⟨66,[],.int .i64 5⟩,⟨67,[],.int .i64 ((ξ.1:Nat):Int)⟩])) (HI:=(fun ξ:Nat × DM × DS=>([(b18,.cells #[.func (.func 47) #[] #[pt b1,pt b2,pt b3],.func (.func 48) #[] #[pt b1,pt b2],.func (.func 50) #[] #[pt b1,pt b2],.func (.func 51) #[] #[pt b1],.func (.func 53) #[] #[pt b1]] 97 (0,0))]::g6::[(b3,.cells #[.slice fa F.length fc] 35 (0,0))]::[(b2,.cells #[.int .i64 n] 3 (0,0))]::[(b1,.cells #[pt pb] 27 (0,0))]::(K++(ξ.2.2.G d ξ.2.1++H))))) (Φ:=(fun ξ:Nat × DM × DS=>(ξ.1≤5)∧(ξ.2.2.ok ξ.2.1)∧(Fx (i+q+2 * F.length+2 * ξ.1) (q+F.length+ξ.1) ξ.2.1)∧(E9 ((pointB n F).take ξ.1) MB=(0,ξ.2.1)))) (μ:=(fun ξ:Nat × DM × DS=>5 - ξ.1)) (s0:=(0,MB,sB)) [65,66,67] kr rfl ⟨(by omega),hsB,(hfMB.up (by dsimp only; omega) (by dsimp only; omega)),rfl⟩ ?_)))))))
   rintro ⟨k3,MC,sC⟩ ⟨hk3,hsC,hfMC,hMC⟩
   dsimp only at hsC hfMC hMC
   refine A2 (G_p [0] [65,66,67,68] (k:=A1 (A2 (D2 (b:=decide (((k3:Nat):Int)<5)) kr (fun hc19=>?_) (fun hc19=>?_)))))
   ·
    have hlt3:k3<5:=by simp only [decide_eq_true_eq] at hc19; omega
    refine B6 (A1 (A2 (B8 (A2 (A3 (L2 (a:=(some ⟨b18,0,none⟩)) (S:=(inG [(b18,.cells #[.func (.func 47) #[] #[pt b1,pt b2,pt b3],.func (.func 48) #[] #[pt b1,pt b2],.func (.func 50) #[] #[pt b1,pt b2],.func (.func 51) #[] #[pt b1],.func (.func 53) #[] #[pt b1]] 97 (0,0))])) (cs:=[.func (.func 47) #[] #[pt b1,pt b2,pt b3],.func (.func 48) #[] #[pt b1,pt b2],.func (.func 50) #[] #[pt b1,pt b2],.func (.func 51) #[] #[pt b1],.func (.func 53) #[] #[pt b1]]) 5 ((k3:Nat):Int) 1 Rd.lit (by first | exact ⟨by omega,by omega,strs_le (by omega)⟩ | exact ⟨by omega,by omega,P8 hF (by omega)⟩ | exact ⟨by omega,by omega,by intro h; cases h⟩) (O3 (a:=(some ⟨b18,0,none⟩)) (S:=(inG [(b18,.cells #[.func (.func 47) #[] #[pt b1,pt b2,pt b3],.func (.func 48) #[] #[pt b1,pt b2],.func (.func 50) #[] #[pt b1,pt b2],.func (.func 51) #[] #[pt b1],.func (.func 53) #[] #[pt b1]] 97 (0,0))])) (cs:=[.func (.func 47) #[] #[pt b1,pt b2,pt b3],.func (.func 48) #[] #[pt b1,pt b2],.func (.func 50) #[] #[pt b1,pt b2],.func (.func 51) #[] #[pt b1],.func (.func 53) #[] #[pt b1]]) (k3 * 1) (([.func (.func 47) #[] #[pt b1,pt b2,pt b3],.func (.func 48) #[] #[pt b1,pt b2],.func (.func 50) #[] #[pt b1,pt b2],.func (.func 51) #[] #[pt b1],.func (.func 53) #[] #[pt b1]]:List Value).getD k3 default) Rd.lit (H6 0 rfl) (fun _=>(by rw [Nat.mul_one]; exact fs_at (by show k3<5; omega))) (B5 [0] [15,65,66,67] (k:=?_)))))))))
    refine A1 (A2 (A3 (A5 (j:=1) [0] (k:=GL_callV (i:=1) (ch:=[]) (fv:=(([.func (.func 47) #[] #[pt b1,pt b2,pt b3],.func (.func 48) #[] #[pt b1,pt b2],.func (.func 50) #[] #[pt b1,pt b2],.func (.func 51) #[] #[pt b1],.func (.func 53) #[] #[pt b1]]:List Value).getD k3 default)) (vs:=[]) rfl rfl rfl kr kr kr kr (G0 kr) (lay_call hsC hfMC (by omega) (by omega) ([[(b18,.cells #[.func (.func 47) #[] #[pt b1,pt b2,pt b3],.func (.func 48) #[] #[pt b1,pt b2],.func (.func 50) #[] #[pt b1,pt b2],.func (.func 51) #[] #[pt b1],.func (.func 53) #[] #[pt b1]] 97 (0,0))],g6,[(b3,.cells #[.slice fa F.length fc] 35 (0,0))],[(b2,.cells #[.int .i64 n] 3 (0,0))],[(b1,.cells #[pt pb] 27 (0,0))]]++K) d pb b1 b2 b3 pn pv pdn fa fc F cs S hrd hF hFn hFz hFb hlz n hn0 _ H (fun y o h=>(At.cons (At.cons (At.cons (At.cons (At.cons (hS y o h))))))) (At.cons (At.cons (At.cons (At.cons (At.cons hP))))) (At.grp 4 0 rfl rfl) (At.grp 3 0 rfl rfl) (At.grp 2 0 rfl rfl) k3 hlt3) ?_))))
    rintro v H' ⟨s3,rfl,hs3,hf20,rfl⟩
    refine B5 [0] [16,65,66,67] (k:=A1 (A2 (G_p [0,0] [16,65,66,67,74] (k:=A1 (D2 (b:=((ptS n F k3 MC).1) != 0) kr (fun hc21=>?_) (fun hc21=>?_))))))
    ·
     have hyes3:=hc21
     refine A2 (B9 (E':=[⟨6,[],.int .i64 ((ptS n F k3 MC).1)⟩]) [0,0] [6] (k:=A1 (C8 (G3 (C0 (C0 (G3 (C0 ?_))))))))
     refine G8 (fun w h=>h.erase 4) (G8 (fun w h=>h.erase 3) (G8 (fun w h=>h.erase 2) (G8 (fun w h=>h.erase 1) (G8 (H':=(K++(s3.G d ((ptS n F k3 MC).2)++H))) (fun w h=>h.erase 0) (C5 [.tmp 6] [.int .i64 ((ptS n F k3 MC).1)] (k:=?_))))))
     rw [lay_big,hL,try_all (A:=dropS L) (by unfold dropS; rw [List.length_map]; exact hgeA) hMA,try_all (A:=putsB n F) (by unfold putsB; rw [List.length_map]; exact hgeB) hMB,try_stop0 (point_at hlt3) hMC (bne_iff_ne.1 hyes3)]
     exact ⟨rfl,_,hs3,rfl⟩
    ·
     have hno3:=hc21
     simp only [bne_eq_false_iff_eq] at hno3
     refine B6 (D3 (A1 (A3 (A5 (j:=1) [0] (k:=F0 76 (((k3:Nat):Int)+1) (by omega) (by omega) kr (B5 [0] [65,66,67] (k:=F6 (s':=(k3+1,((ptS n F k3 MC).2),s3)) [65,66,67] kr rfl ⟨(by omega),hs3,(hf20.up (by dsimp only; omega) (by dsimp only; omega)),(try_next (point_at hlt3) hMC hno3)⟩ (by omega))))))))
   ·
    have hgeC:5≤k3:=by simp only [decide_eq_false_iff_not] at hc19; omega
    refine H0 (A6 (A6 (C3 (A1 (A2 (B9 (E':=[⟨6,[],.int .i64 0⟩]) [0] [6] (k:=A1 (C8 ?_))))))))
    refine G8 (fun w h=>h.erase 4) (G8 (fun w h=>h.erase 3) (G8 (fun w h=>h.erase 2) (G8 (fun w h=>h.erase 1) (G8 (H':=(K++(sC.G d MC++H))) (fun w h=>h.erase 0) (C5 [.tmp 6] [.int .i64 0] (k:=?_))))))
    rw [lay_big,hL,try_all (A:=dropS L) (by unfold dropS; rw [List.length_map]; exact hgeA) hMA,try_all (A:=putsB n F) (by unfold putsB; rw [List.length_map]; exact hgeB) hMB,show E9 (pointB n F) MB=(0,MC) from by rw [← hMC,List.take_of_length_le (by exact hgeC)]]
    exact ⟨rfl,_,hsC,rfl⟩
end Go.Proofs.YtdolpaagdpeagaaGreatDoor
namespace Go.Proofs.YtdolpaagdpeagaaGreatDoor
open Go.Sw Go.Lib Go.Vf Go.Sha Go.Pr Go.RowKit
def cmpB (x y:ByteArray):Int:=if Op.bytesLess x.toList y.toList then -1 else if (!(Op.bytesLess x.toList y.toList||x.toList==y.toList))=true then 1 else 0
theorem cmp_lt {x y:ByteArray}:decide (cmpB x y<0)=Op.bytesLess x.toList y.toList:=by
  unfold cmpB
  cases h:Op.bytesLess x.toList y.toList with
  | true=>rfl
  | false=>cases h2:(x.toList==y.toList) <;> rfl
theorem isNaN_ (s:ByteArray) (W0:World) (H:List Grp):Tri Tryz.prog 75 #[.string s] W0 H (fun v H'=>v=.bool false∧H'=H):=by
 refine D6 6 Tryz.func75 ?_
 refine A2 (B9 (E':=[⟨0,[],.string s⟩]) [0] [0] (k:=A1 (A2 (G_p [0,0,0,0] [2] (k:=A1 (C8 (C5 [.tmp 2] [.bool (!(s.toList==s.toList))] (k:=?_))))))))
 exact ⟨congrArg Value.bool (by simp),rfl⟩
theorem compare_ (x y:ByteArray) (W0:World) (H:List Grp):Tri Tryz.prog 45 #[.string x,.string y] W0 H (fun v H'=>v=.int .i64 (cmpB x y)∧H'=H):=by
 refine D6 20 Tryz.func45 ?_
 refine A2 (B9 (E':=[⟨0,[],.string x⟩,⟨1,[],.string y⟩]) [0] [0,1] (k:=A1 (A2 (A3 (A5 (j:=1) [0] (k:=G1 (vs:=[.string x]) Tryz.func75 (isNaN_ _ _ _) (B5 [0] [0,1,5] (k:=A1 ?_))))))))
 refine A2 (A3 (A5 (j:=1) [0] (k:=G1 (vs:=[.string y]) Tryz.func75 (isNaN_ _ _ _) (B5 [0] [0,1,5,6] (k:=A1 (A2 (A2 (G_p [0] [0,1,6,11] (k:=?_)))))))))
 refine A1 (D9 kr (B6 (A1 (A2 (A2 (G_p [0] [0,1,13] (k:=A1 (D9 kr ?_))))))))
 refine B6 (A1 (A2 (A2 (G_p [0,0,0] [0,1,16] (k:=A1 (D2 (b:=Op.bytesLess x.toList y.toList) kr (fun hc1=>?_) (fun hc1=>?_)))))))
 ·
  skip
  refine A2 (B9 (E':=[⟨4,[],.int .i64 (-1)⟩]) [0] [4] (k:=A1 (C8 (C0 (C5 [.tmp 4] [.int .i64 (-1)] (k:=?_))))))
  exact ⟨congrArg (Value.int .i64) (by unfold cmpB; rw [if_pos hc1]),rfl⟩
 ·
  skip
  refine B6 (A1 (A2 (A2 (B9 (E':=[⟨19,[],.bool (!(Op.bytesLess x.toList y.toList||x.toList==y.toList))⟩]) [0,0,0] [19] (k:=A1 (D2 (b:=!(Op.bytesLess x.toList y.toList||x.toList==y.toList)) kr (fun hc2=>?_) (fun hc2=>?_)))))))
  ·
   skip
   refine A2 (B9 (E':=[⟨4,[],.int .i64 1⟩]) [0] [4] (k:=A1 (C8 (C0 (C5 [.tmp 4] [.int .i64 1] (k:=?_))))))
   exact ⟨congrArg (Value.int .i64) (by unfold cmpB; rw [if_neg (by rw [hc1]; decide),if_pos hc2]),rfl⟩
  ·
   skip
   refine B6 (A1 (A2 (B9 (E':=[⟨4,[],.int .i64 0⟩]) [0] [4] (k:=A1 (C8 (C5 [.tmp 4] [.int .i64 0] (k:=?_)))))))
   exact ⟨congrArg (Value.int .i64) (by unfold cmpB; rw [if_neg (by rw [hc1]; decide),if_neg (by rw [hc2]; decide)]),rfl⟩
theorem sortedF_ (x y:ByteArray) (xv yv:Value) (W0:World) (H:List Grp):Tri Tryz.prog 44 #[.agg #[.string x,xv],.agg #[.string y,yv]] W0 H (fun v H'=>v=.int .i64 (cmpB x y)∧H'=H):=by
 refine D6 10 Tryz.func44 ?_
 refine A2 (A3 (O9 (.agg #[.string x,xv]) (fun b1=>O9 (.agg #[.string y,yv]) (fun b2=>?_))))
 refine D5 (E':=[⟨2,[],pt b1⟩,⟨3,[],pt b2⟩]) [0] [2,3] (k:=A1 (A2 (A3 (A5 (j:=1) [0] (k:=D0 1 0 rfl rfl (A5 (j:=3) [0] (k:=D0 0 0 rfl rfl (G1 (vs:=[.string x,.string y]) Tryz.func45 (compare_ _ _ _ _) ?_))))))))
 refine D5 (E':=[⟨4,[],.int .i64 (cmpB x y)⟩]) [0] [4] (k:=A1 (C8 (G8 (fun w h=>h.erase 1) (G8 (fun w h=>h.erase 0) (C5 [.tmp 4] [.int .i64 (cmpB x y)] (k:=?_))))))
 exact ⟨rfl,rfl⟩
end Go.Proofs.YtdolpaagdpeagaaGreatDoor
namespace Go.Pr
open Go.Sw Go.Vf Go.Sha
abbrev SE:=FB × (Option Addr × Nat)
def C1:List SE→List Value
  | []=>[]
  | z::r=>.string z.1.1::.slice z.2.1 z.1.2.size z.2.2::C1 r
theorem O5:∀ (A B:List SE),C1 (A++B)=C1 A++C1 B
  | [],_=>rfl
  | _::A,B=>by
    show _::_::C1 (A++B)=_::_::(C1 A++C1 B)
    rw [O5 A B]
theorem H4:∀ (A:List SE),(C1 A).length=A.length * 2
  | []=>rfl
  | _::A=>by
    show (C1 A).length+2=_
    rw [H4 A,List.length_cons]; omega
theorem cellsZ_at {A R:List SE} {x:SE} {q:Nat} (hq:q=A.length * 2):((C1 (A++x::R)).drop q).take 2=[.string x.1.1,.slice x.2.1 x.1.2.size x.2.2]:=by
  rw [O5,List.drop_left' (by rw [H4,hq])]
  rfl
theorem cellsZ_set {A R:List SE} {x y:SE} {q:Nat} (hq:q=A.length * 2):(C1 (A++x::R)).take q++[.string y.1.1,.slice y.2.1 y.1.2.size y.2.2]++(C1 (A++x::R)).drop (q+[Value.string y.1.1,.slice y.2.1 y.1.2.size y.2.2].length)=C1 (A++y::R):=by
  have hl:(C1 A).length=q:=by rw [H4,hq]
  rw [O5,O5,List.take_left' hl,← List.drop_drop,List.drop_left' hl,List.append_assoc]
  rfl
def ZOk (S:Nat→Obj→Prop) (z:SE):Prop:=Rd S z.2.1 (u8s z.1.2.data.toList)∧Sh z.2.1 z.1.2.size z.2.2
theorem frd_z {S:Nat→Obj→Prop}:∀ {l:List SE},(∀ z∈l,ZOk S z)→FRd S (l.map Prod.fst) (C1 l)
  | [],_=>.nil
  | z::_,h=>.cons (h z List.mem_cons_self).1 (h z List.mem_cons_self).2 (frd_z fun y hy=>h y (List.mem_cons_of_mem _ hy))
def ltZ (x y:SE):Bool:=Op.bytesLess x.1.1.toList y.1.1.toList
def SrtZ (l:List SE):Prop:=l.Pairwise fun x y=>ltZ y x=false
structure InsZ (l0 A:List SE) (x:SE) (B C:List SE):Prop where
  perm:(A++x::(B++C)).Perm l0
  srt:SrtZ (A++B)
  low:∀ b∈B,ltZ x b=true
theorem InsZ.step {l0 A':List SE} {y x:SE} {B C:List SE} (h:InsZ l0 (A'++[y]) x B C) (hlt:ltZ x y=true):InsZ l0 A' x (y::B) C:=by
  refine ⟨?_,?_,fun b hb=>?_⟩
  · refine List.Perm.trans ?_ h.perm
    rw [List.append_assoc]
    exact List.Perm.append_left _ (List.Perm.swap y x _)
  · have:=h.srt; rw [List.append_assoc] at this; exact this
  · rcases List.mem_cons.1 hb with rfl | hb
    · exact hlt
    · exact h.low b hb
theorem InsZ.done {l0 A:List SE} {x:SE} {B C:List SE} (h:InsZ l0 A x B C) (hA:∀ A' y,A=A'++[y]→ltZ x y=false)
    (tr:∀ a b c:SE,ltZ b a=false→ltZ c b=false→ltZ c a=false) (asy:∀ a b:SE,ltZ a b=true→ltZ b a=false):SrtZ (A++x::B):=by
  have hs:=h.srt
  unfold SrtZ at hs ⊢
  rw [List.pairwise_append] at hs ⊢
  obtain ⟨h1,h2,h3⟩:=hs
  refine ⟨h1,List.pairwise_cons.2 ⟨fun b hb=>asy _ _ (h.low b hb),h2⟩,fun a ha b hb=>?_⟩
  rcases List.mem_cons.1 hb with rfl | hb
  · rcases List.eq_nil_or_concat A with rfl | ⟨A',y,rfl⟩
    · exact absurd ha List.not_mem_nil
    · have hy:=hA A' y (by simp)
      rw [List.concat_eq_append] at ha h1
      rcases List.mem_append.1 ha with ha | ha
      · exact tr a y b ((List.pairwise_append.1 h1).2.2 a ha y (List.mem_singleton.2 rfl)) hy
      · rw [List.mem_singleton.1 ha]; exact hy
  · exact h3 a ha b hb
end Go.Pr
namespace Go.Sw
theorem GL_storeO {P:Program} {ops:Array Oper} {i:Nat} {Q:D7} {n:Fr} {E:Env} {W0:World} {H:List Grp} {o:Oper} {ch:List (Nat × Bool)} {t et:TypeId} {x y:Operand} {a:Option Addr} {sz len cap q:Nat} {cs cs':List Value} {v:Value} {g:Grp} {j:Nat}
    (ho:ops[i]? = some o) (hop:o.op=.store t x y) (hx:evO E ch x=some (.pointer (some (eltA a q)))) (hy:evO E ch y=some v)
    (hsz:T5 P t=some v.cells.size) (h1:(v.cells.toList.all Value.oneCell')=true) (hvc:v.cells.toList=[v])
    (hch:D4 ops E o.guard=some ch) (hd:F5 n ch o.dst=true) (hsure:N9 E ch=true)
    (hj:H[j]? = some g) (hO:Own et sz (.slice a len cap) g len cs) (hq:q<cs.length) (hcs:cs.set q v=cs')
    (k:∀ g',Own et sz (.slice a len cap) g' len cs'→GL false P ops (i+1) Q n (Env.put E o.dst ch undef) W0 (H.set j g')):GL false P ops i Q n E W0 H:=by
  obtain ⟨hl,⟨he,rfl,hn⟩ | ⟨b,cap',junk,he,rfl,hc,hjk⟩⟩:=hO
  · rw [hn] at hl; simp at hl; rw [hl] at hq; simp at hq
  · injection he with e1 e2 e3
    subst e1 e3 hcs
    have hel:eltA (some ⟨b,0,none⟩) q=⟨b,q,none⟩:=by show Addr.add ⟨b,0,none⟩ q=_; rw [L5,Nat.zero_add]
    rw [hel] at hx
    have hv1:v.cells.size=1:=by rw [← Array.length_toList,hvc]; rfl
    refine J8 (b:=b) (off:=q) (v:=v) (c:=(cs++junk).toArray) (c':=((cs.set q v)++junk).toArray) (e:=et) (fz:=(0,0)) (j:=j) (m:=0) ho hop hx hy hsz h1 hch hd hsure hj rfl (by rw [hv1,List.size_toArray,List.length_append]; omega) (fun _ _=>P5) ?_ rfl (k _ ⟨by rw [List.length_set]; exact hl,.inr ⟨b,cap,junk,rfl,rfl,hc,by rw [List.length_append,List.length_set,← List.length_append]; exact hjk⟩⟩)
    rw [hvc]
    have e1:cs++junk=cs.take q++[cs[q]]++(cs.drop (q+1)++junk):=by
      rw [← List.append_assoc]
      congr 1
      rw [List.append_assoc,List.singleton_append,← List.drop_eq_getElem_cons hq,List.take_append_drop]
    have e2:cs.set q v++junk=cs.take q++[v]++(cs.drop (q+1)++junk):=by
      rw [← List.append_assoc,List.set_eq_take_append_cons_drop,if_pos hq]
      simp
    have e3:(cs.take q).length=q:=by rw [List.length_take]; omega
    rw [e1,e2]
    have:=V9 [v] (cs.take q) (cs.drop (q+1)++junk) [cs[q]] rfl
    rw [e3] at this
    exact this
end Go.Sw
namespace Go.Sw
theorem R0 {P:Program} {ops:Array Oper} {i:Nat} {Q:D7} {n:Fr} {E:Env} {W0:World} {H:List Grp} {o:Oper} {ch:List (Nat × Bool)} {t et:TypeId} {x y:Operand} {a:Option Addr} {sz len cap q:Nat} {cs cs' l:List Value} {v:Value} {g:Grp} {j:Nat}
    (ho:ops[i]? = some o:=by exact rfl) (hop:o.op=.store t x y:=by exact rfl) (hx:evO E ch x=some (.pointer (some (eltA a q))):=by kernel_rfl) (hy:evO E ch y=some v:=by kernel_rfl)
    (hsz:T5 P t=some v.cells.size:=by kernel_rfl) (h1:(v.cells.toList.all Value.oneCell')=true:=by kernel_rfl) (hvc:v.cells.toList=l:=by exact rfl)
    (hch:D4 ops E o.guard=some ch:=by kernel_rfl) (hd:F5 n ch o.dst=true:=by kernel_rfl) (hsure:N9 E ch=true:=by kernel_rfl)
    (hj:H[j]? = some g:=by exact rfl) (hO:Own et sz (.slice a len cap) g len cs) (hq:q+l.length≤cs.length) (h0:l≠[]) (hcs:cs.take q++l++cs.drop (q+l.length)=cs')
    (k:∀ g',Own et sz (.slice a len cap) g' len cs'→GL false P ops (i+1) Q n (Env.put E o.dst ch undef) W0 (H.set j g')):GL false P ops i Q n E W0 H:=by
  have hl0:0<l.length:=List.length_pos_iff.2 h0
  have hlc:cs'.length=cs.length:=by rw [← hcs]; simp only [List.length_append,List.length_take,List.length_drop]; omega
  obtain ⟨hl,⟨he,rfl,hn⟩ | ⟨b,cap',junk,he,rfl,hc,hjk⟩⟩:=hO
  · rw [hn] at hl; simp at hl; rw [hl] at hq; simp at hq; exact absurd hq.2 h0
  · injection he with e1 e2 e3
    subst e1 e3
    have hel:eltA (some ⟨b,0,none⟩) q=⟨b,q,none⟩:=by show Addr.add ⟨b,0,none⟩ q=_; rw [L5,Nat.zero_add]
    rw [hel] at hx
    have hv1:v.cells.size=l.length:=by rw [← Array.length_toList,hvc]
    refine J8 (b:=b) (off:=q) (v:=v) (c:=(cs++junk).toArray) (c':=(cs'++junk).toArray) (e:=et) (fz:=(0,0)) (j:=j) (m:=0) ho hop hx hy hsz h1 hch hd hsure hj rfl (by rw [hv1,List.size_toArray,List.length_append]; omega) (fun _ _=>P5) ?_ rfl (k _ ⟨by rw [hlc]; exact hl,.inr ⟨b,cap,junk,rfl,rfl,hc,by rw [List.length_append,hlc,← List.length_append]; exact hjk⟩⟩)
    rw [hvc]
    have e1:cs++junk=cs.take q++(cs.drop q).take l.length++(cs.drop (q+l.length)++junk):=by
      rw [← List.append_assoc]
      congr 1
      rw [List.append_assoc,← List.drop_drop,List.take_append_drop,List.take_append_drop]
    have e2:cs'++junk=cs.take q++l++(cs.drop (q+l.length)++junk):=by
      rw [← hcs]; simp only [List.append_assoc]
    have e3:(cs.take q).length=q:=by rw [List.length_take]; omega
    rw [e1,e2]
    have:=V9 l (cs.take q) (cs.drop (q+l.length)++junk) ((cs.drop q).take l.length) (by rw [List.length_take,List.length_drop]; omega)
    rw [e3] at this
    exact this
end Go.Sw
namespace Go.Proofs.YtdolpaagdpeagaaGreatDoor
open Go.Sw Go.Lib Go.Vf Go.Sha Go.Pr Go.RowKit
theorem ltZ_cmp {x y:SE}:decide (cmpB x.1.1 y.1.1<0)=ltZ x y:=cmp_lt
theorem z_at {A R:List SE} {x:SE} {q:Nat} (hq:q=A.length * 2):∀ m (hm:m<[Value.string x.1.1,.slice x.2.1 x.1.2.size x.2.2].length),(C1 (A++x::R))[q+m]? = some [Value.string x.1.1,.slice x.2.1 x.1.2.size x.2.2][m]:=elt2 (cellsZ_at hq)
theorem z_atL {A A' R:List SE} {y:SE} {q:Nat} (hA:A=A'++[y]) (hq:q=A'.length * 2):∀ m (hm:m<[Value.string y.1.1,.slice y.2.1 y.1.2.size y.2.2].length),(C1 (A++R))[q+m]? = some [Value.string y.1.1,.slice y.2.1 y.1.2.size y.2.2][m]:=by
  subst hA; rw [List.append_assoc]; exact elt2 (cellsZ_at hq)
theorem z_setL {A A' R:List SE} {x y:SE} {q:Nat} (hA:A=A'++[y]) (hq:q=A'.length * 2):(C1 (A++R)).take q++[.string x.1.1,.slice x.2.1 x.1.2.size x.2.2]++(C1 (A++R)).drop (q+[Value.string x.1.1,.slice x.2.1 x.1.2.size x.2.2].length)=C1 (A'++x::R):=by
  subst hA; rw [show (A'++[y])++R=A'++y::R by simp]; exact cellsZ_set hq
theorem nil_snoc (A:List SE):A=[]∨∃ A' y,A=A'++[y]:=by
  rcases List.eq_nil_or_concat A with h | ⟨A',y,h⟩
  · exact .inl h
  · exact .inr ⟨A',y,by rw [h]; simp⟩
theorem srt_one (l:List SE):SrtZ (l.take 1):=by
  cases l with
  | nil=>exact List.Pairwise.nil
  | cons x l=>exact List.pairwise_singleton _ _
theorem cut_at {l:List SE} {i:Nat} (h:i<l.length):∃ A x C,l=A++x::C∧A.length=i∧A=l.take i :=
  ⟨l.take i,l[i],l.drop (i+1),by rw [← List.drop_eq_getElem_cons h,List.take_append_drop],by rw [List.length_take]; omega,rfl⟩
theorem ins_start {l0 l A C:List SE} {x:SE} (hl:l=A++x::C) (hp:l.Perm l0) (hs:SrtZ A):InsZ l0 A x [] C:=⟨by rw [List.nil_append,← hl]; exact hp,by rw [List.append_nil]; exact hs,fun b hb=>absurd hb List.not_mem_nil⟩
theorem ltZ_tr (a b c:SE) (h1:ltZ b a=false) (h2:ltZ c b=false):ltZ c a=false:=by
  unfold ltZ at *
  rw [Y6,decide_eq_false_iff_not] at *
  exact List.not_lt.2 (List.le_trans (List.not_lt.1 h1) (List.not_lt.1 h2))
theorem ltZ_as (a b:SE) (h:ltZ a b=true):ltZ b a=false:=by
  unfold ltZ at *
  rw [Y6,decide_eq_true_eq] at h
  rw [Y6,decide_eq_false_iff_not]
  exact List.lt_asymm h
theorem ins_end {l0 A B C:List SE} {x:SE} {i:Nat} (h:InsZ l0 A x B C) (hd:∀ A' y,A=A'++[y]→ltZ x y=false) (hi:A.length+B.length=i):SrtZ ((A++x::(B++C)).take (i+1)):=by
  have:=h.done hd ltZ_tr ltZ_as
  rw [show A++x::(B++C)=(A++x::B)++C by simp,List.take_left' (by simp; omega)]
  exact this
theorem no_snoc {A:List SE} {x:SE} (h:A=[]):∀ A' y,A=A'++[y]→ltZ x y=false:=fun A' y e=>by rw [h] at e; simp at e
theorem one_snoc {A A0:List SE} {x y0:SE} (h:A=A0++[y0]) (hl:ltZ x y0=false):∀ A' y,A=A'++[y]→ltZ x y=false:=fun A' y e=>by
  rw [h] at e
  obtain ⟨_,e2⟩:=List.append_inj' e rfl
  simp at e2; subst e2; exact hl
theorem z_ne {A R:List SE} {x:SE}:C1 (A++x::R)≠[]:=fun e=>by
  have:=congrArg List.length e
  rw [H4,List.length_append,List.length_cons,List.length_nil] at this; omega
theorem insZ_ (a:Option Addr) (n c:Nat) (g:Grp) (l0:List SE) (hn:l0.length=n) (hO:Go.Sw.Own 34 2 (.slice a n c) g n (C1 l0)) (hn1:n≤1000000) (W0:World) (H:List Grp):Tri Tryz.prog 101 #[.slice a n c,.int .i64 0,.int .i64 ((n:Nat):Int),.func (.func 44) #[] #[]] W0 (g::H) (fun v H'=>∃ g2 l,v=.tuple #[]∧Go.Sw.Own 34 2 (.slice a n c) g2 n (C1 l)∧l.Perm l0∧SrtZ l∧H'=g2::H):=by
 refine D6 53 Tryz.func101 ?_
 refine A2 (A3 (A5 (j:=2) [0,0] (k:=F0 11 (0+1) (by omega) (by omega) kr (B5 [0] [0,1,2,3,8] (k:=A1 (B8 (I6 (EI:=(fun ξ:Nat × List SE × Grp=>[⟨0,[],.slice a n c⟩,⟨1,[],.int .i64 0⟩,⟨2,[],.int .i64 ((n:Nat):Int)⟩,⟨3,[],.func (.func 44) #[] #[]⟩,⟨8,[],.int .i64 ((ξ.1:Nat):Int)⟩])) (HI:=(fun ξ:Nat × List SE × Grp=>(ξ.2.2::H))) (Φ:=(fun ξ:Nat × List SE × Grp=>(1≤ξ.1)∧(ξ.2.1.length=n)∧(Go.Sw.Own 34 2 (.slice a n c) ξ.2.2 n (C1 ξ.2.1))∧(ξ.2.1.Perm l0)∧(SrtZ (ξ.2.1.take ξ.1)))) (μ:=(fun ξ:Nat × List SE × Grp=>n - ξ.1)) (s0:=(1,l0,g)) [0,1,2,3,8] kr rfl ⟨(Nat.le_refl 1),hn,hO,(List.Perm.refl _),(srt_one l0)⟩ ?_)))))))
 rintro ⟨i,l,gi⟩ ⟨hi,hln,hOi,hpm,hsr⟩
 dsimp only at hi hln hOi hpm hsr
 refine A2 (A2 (G_p [0,0,0] [0,1,2,3,8,14] (k:=A1 (D2 (b:=decide (((i:Nat):Int)<((n:Nat):Int))) kr (fun hc2=>?_) (fun hc2=>?_)))))
 ·
  have hlt:i<n:=by simp only [decide_eq_true_eq] at hc2; omega
  refine B6 (A1 (A2 (B8 (A2 (G_p [0,0] [0,1,2,3,8,9] (k:=A1 (B8 ?_)))))))
  obtain ⟨A0,x,C,hl3,hA0,hA1⟩:=cut_at (l:=l) (i:=i) (by omega)
  refine G_env (E':=[⟨0,[],.slice a n c⟩,⟨1,[],.int .i64 0⟩,⟨2,[],.int .i64 ((n:Nat):Int)⟩,⟨3,[],.func (.func 44) #[] #[]⟩,⟨8,[],.int .i64 ((i:Nat):Int)⟩,⟨9,[],.int .i64 ((i:Nat):Int)⟩]) kr (I6 (EI:=(fun ξ:List SE × List SE × Grp=>[⟨0,[],.slice a n c⟩,⟨1,[],.int .i64 0⟩,⟨2,[],.int .i64 ((n:Nat):Int)⟩,⟨3,[],.func (.func 44) #[] #[]⟩,⟨8,[],.int .i64 ((i:Nat):Int)⟩,⟨9,[],.int .i64 ((ξ.1.length:Nat):Int)⟩])) (HI:=(fun ξ:List SE × List SE × Grp=>(ξ.2.2::H))) (Φ:=(fun ξ:List SE × List SE × Grp=>(InsZ l0 ξ.1 x ξ.2.1 C)∧(Go.Sw.Own 34 2 (.slice a n c) ξ.2.2 n (C1 (ξ.1++x::(ξ.2.1++C))))∧(ξ.1.length+ξ.2.1.length=i))) (μ:=(fun ξ:List SE × List SE × Grp=>ξ.1.length)) (s0:=(A0,[],gi)) [0,1,2,3,8,9] (by rw [← hA0] <;> kernel_rfl) rfl ⟨(ins_start hl3 hpm (by rw [hA1]; exact hsr)),(X3 hOi (by rw [hl3]; rfl)),(by simpa using hA0)⟩ ?_)
  rintro ⟨A,B,gj⟩ ⟨hIns,hOj,hlen⟩
  dsimp only at hIns hOj hlen
  refine A2 (A2 ?_)
  rcases nil_snoc A with hA | ⟨A',y,hA⟩
  ·
   have hdn:=no_snoc (x:=x) hA
   refine F4 (gj::H) kr (E2 (fuel:=15) [(0,0),(1,0)] (fun w h=>h) (k:=GH_pure (E':=[⟨20,[],.bool (decide (((A.length:Nat):Int) > 0))⟩,⟨0,[],.slice a n c⟩,⟨1,[],.int .i64 0⟩,⟨2,[],.int .i64 ((n:Nat):Int)⟩,⟨3,[],.func (.func 44) #[] #[]⟩,⟨8,[],.int .i64 ((i:Nat):Int)⟩,⟨9,[],.int .i64 ((A.length:Nat):Int)⟩]) 2 0 kr (fun w h=>h) kr (GH_env (E':=[⟨20,[],.bool false⟩,⟨0,[],.slice a n c⟩,⟨1,[],.int .i64 0⟩,⟨2,[],.int .i64 ((n:Nat):Int)⟩,⟨3,[],.func (.func 44) #[] #[]⟩,⟨8,[],.int .i64 ((i:Nat):Int)⟩,⟨9,[],.int .i64 ((A.length:Nat):Int)⟩]) (by rw [show decide (((A.length:Nat):Int) > 0)=false from decide_eq_false (by rw [hA]; simp)]) (E2 (fuel:=3) [(3,0),(4,1),(5,1),(6,1),(7,1),(8,1),(9,1),(10,1),(11,1),(12,1),(13,1)] (fun w h=>h) (k:=C2 14 (k:=GL_pure (E':=[⟨32,[],.tuple #[]⟩,⟨31,[],.tuple #[]⟩,⟨30,[],.tuple #[]⟩,⟨29,[],.tuple #[]⟩,⟨28,[],.tuple #[]⟩,⟨27,[],.tuple #[]⟩,⟨26,[],.tuple #[]⟩,⟨25,[],.tuple #[]⟩,⟨24,[],.tuple #[]⟩,⟨23,[],.tuple #[]⟩,⟨22,[],.tuple #[]⟩,⟨21,[],.bool false⟩,⟨20,[],.bool false⟩,⟨0,[],.slice a n c⟩,⟨1,[],.int .i64 0⟩,⟨2,[],.int .i64 ((n:Nat):Int)⟩,⟨3,[],.func (.func 44) #[] #[]⟩,⟨8,[],.int .i64 ((i:Nat):Int)⟩,⟨9,[],.int .i64 ((A.length:Nat):Int)⟩]) [1] kr (j:=15) rfl (A7 kr (fun w h=>h) (E2 (fuel:=0) [(15,1),(16,3)] (fun w h=>h) (k:=?_)))))))))
   refine D8 (E':=[⟨0,[],.slice a n c⟩,⟨1,[],.int .i64 0⟩,⟨2,[],.int .i64 ((n:Nat):Int)⟩,⟨3,[],.func (.func 44) #[] #[]⟩,⟨8,[],.int .i64 ((i:Nat):Int)⟩,⟨9,[],.int .i64 ((A.length:Nat):Int)⟩,⟨34,[],.bool false⟩]) [0,1,2,3,8,9,34] (k:=A1 (D9 kr (H0 (A6 (A6 (C3 (D3 (A1 ?_))))))))
   refine A3 (A5 (j:=2) [0,0] (k:=F0 16 (((i:Nat):Int)+1) (by omega) (by omega) kr (B5 [0] [0,1,2,3,8] (k:=F6 (s':=(i+1,(A++x::(B++C)),gj)) [0,1,2,3,8] kr rfl ⟨(by dsimp only; omega),(by have:=hIns.perm.length_eq; rw [hn] at this; exact this),hOj,hIns.perm,(ins_end hIns hdn hlen)⟩ (by omega)))))
  ·
   refine F4 (gj::H) kr (E2 (fuel:=15) [(0,0),(1,0)] (fun w h=>h) (k:=GH_pure (E':=[⟨20,[],.bool (decide (((A.length:Nat):Int) > 0))⟩,⟨0,[],.slice a n c⟩,⟨1,[],.int .i64 0⟩,⟨2,[],.int .i64 ((n:Nat):Int)⟩,⟨3,[],.func (.func 44) #[] #[]⟩,⟨8,[],.int .i64 ((i:Nat):Int)⟩,⟨9,[],.int .i64 ((A.length:Nat):Int)⟩]) 2 0 kr (fun w h=>h) kr (GH_env (E':=[⟨20,[],.bool true⟩,⟨0,[],.slice a n c⟩,⟨1,[],.int .i64 0⟩,⟨2,[],.int .i64 ((n:Nat):Int)⟩,⟨3,[],.func (.func 44) #[] #[]⟩,⟨8,[],.int .i64 ((i:Nat):Int)⟩,⟨9,[],.int .i64 ((A.length:Nat):Int)⟩]) (by rw [show decide (((A.length:Nat):Int) > 0)=true from decide_eq_true (by have hA2:=congrArg List.length hA; simp at hA2; omega)]) (E2 (fuel:=10) [(3,0),(4,0),(5,0),(6,0)] (fun w h=>h) (k:=A9 7 (hL:=(fun w h=>h)) (hy:=I7 (i:=7) (ch:=[(21,true)]) (a:=a) (len:=n) (cap:=c) (kd:=.i64) (j:=((A.length:Nat):Int)) (e:=34) (sz:=2) (S:=(inG gj)) (cs:=(C1 (A++x::(B++C)))) (hrd:=I4 hOj) (hb:=(fun hc=>by first | exact ⟨by omega,by have:=hIns.perm.length_eq; simp at this; omega,z_ne⟩ | (have hA2:=congrArg List.length hA; simp at hA2; exact ⟨by omega,by have:=hIns.perm.length_eq; simp at this; omega,z_ne⟩))) (k:=B4 kr rfl)) (k:=A9 8 kr (fun w h=>h) (L0 (i:=8) (ch:=[(21,true)]) (a:=a) (q:=(Int.toNat ((A.length:Nat):Int)) * 2) (S:=(inG gj)) (cs:=(C1 (A++x::(B++C)))) (l:=[.string x.1.1,.slice x.2.1 x.1.2.size x.2.2]) rfl rfl kr kr kr kr kr kr (I4 hOj) (H6 0 rfl) (List.cons_ne_nil _ _) (fun hc=>(z_at (by simp))) (B4 kr rfl)) (E2 (fuel:=6) [(9,0),(10,0)] (fun w h=>h) (k:=GH_pure (E':=[⟨29,[(21,true)],.int .i64 (IntKind.wrap .i64 (((A.length:Nat):Int) - 1))⟩,⟨27,[(21,true)],.slice a n c⟩,⟨26,[(21,true)],.agg #[.string x.1.1,.slice x.2.1 x.1.2.size x.2.2]⟩,⟨22,[(21,true)],.func (.func 44) #[] #[]⟩,⟨21,[],.bool true⟩,⟨0,[],.slice a n c⟩,⟨1,[],.int .i64 0⟩,⟨2,[],.int .i64 ((n:Nat):Int)⟩,⟨3,[],.func (.func 44) #[] #[]⟩,⟨8,[],.int .i64 ((i:Nat):Int)⟩,⟨9,[],.int .i64 ((A.length:Nat):Int)⟩]) 11 0 kr (fun w h=>h) kr ?_))))))))
   refine GH_env (E':=[⟨29,[(21,true)],.int .i64 (((A.length:Nat):Int) - 1)⟩,⟨27,[(21,true)],.slice a n c⟩,⟨26,[(21,true)],.agg #[.string x.1.1,.slice x.2.1 x.1.2.size x.2.2]⟩,⟨22,[(21,true)],.func (.func 44) #[] #[]⟩,⟨21,[],.bool true⟩,⟨0,[],.slice a n c⟩,⟨1,[],.int .i64 0⟩,⟨2,[],.int .i64 ((n:Nat):Int)⟩,⟨3,[],.func (.func 44) #[] #[]⟩,⟨8,[],.int .i64 ((i:Nat):Int)⟩,⟨9,[],.int .i64 ((A.length:Nat):Int)⟩]) (by rw [w64 (x:=((A.length:Nat):Int) - 1) (by omega) (by omega)]) (A9 12 (hL:=(fun w h=>h)) (hy:=I7 (i:=12) (ch:=[(21,true)]) (a:=a) (len:=n) (cap:=c) (kd:=.i64) (j:=(((A.length:Nat):Int) - 1)) (e:=34) (sz:=2) (S:=(inG gj)) (cs:=(C1 (A++x::(B++C)))) (hrd:=I4 hOj) (hb:=(fun hc=>by first | exact ⟨by omega,by have:=hIns.perm.length_eq; simp at this; omega,z_ne⟩ | (have hA2:=congrArg List.length hA; simp at hA2; exact ⟨by omega,by have:=hIns.perm.length_eq; simp at this; omega,z_ne⟩))) (k:=B4 kr rfl)) (k:=A9 13 kr (fun w h=>h) (L0 (i:=13) (ch:=[(21,true)]) (a:=a) (q:=(Int.toNat (((A.length:Nat):Int) - 1)) * 2) (S:=(inG gj)) (cs:=(C1 (A++x::(B++C)))) (l:=[.string y.1.1,.slice y.2.1 y.1.2.size y.2.2]) rfl rfl kr kr kr kr kr kr (I4 hOj) (H6 0 rfl) (List.cons_ne_nil _ _) (fun hc=>(z_atL hA (by rw [hA]; simp))) (B4 kr rfl)) (C2 14 (k:=A0p (vs:=[.agg #[.string x.1.1,.slice x.2.1 x.1.2.size x.2.2],.agg #[.string y.1.1,.slice y.2.1 y.1.2.size y.2.2]]) [(21,true)] Tryz.func44 (fun hc=>sortedF_ _ _ _ _ _ _) (A7 kr (fun w h=>h) (E2 (fuel:=0) [(15,0),(16,2)] (fun w h=>h) (k:=D8 (E':=[⟨0,[],.slice a n c⟩,⟨1,[],.int .i64 0⟩,⟨2,[],.int .i64 ((n:Nat):Int)⟩,⟨3,[],.func (.func 44) #[] #[]⟩,⟨8,[],.int .i64 ((i:Nat):Int)⟩,⟨9,[],.int .i64 ((A.length:Nat):Int)⟩,⟨34,[],.bool (decide ((cmpB x.1.1 y.1.1)<0))⟩]) [0,1,2,3,8,9,34] (k:=A1 ?_))))))))
   refine D2 (b:=decide ((cmpB x.1.1 y.1.1)<0)) kr (fun hc4=>?_) (fun hc4=>?_)
   ·
    have hxy:ltZ x y=true:=by rw [← ltZ_cmp]; exact hc4
    refine B6 (A1 (A2 (B8 (F4 H kr (E2 (fuel:=13) [(0,0),(1,0),(2,0),(3,0),(4,0)] (fun w h=>(h.pk 1 [])) (k:=Y2 41 (((A.length:Nat):Int) - 1) (by omega) (by omega) kr (E2 (fuel:=10) [(5,0),(6,0),(7,0)] (fun w h=>(h.pk 1 [])) (k:=Y2 44 (((A.length:Nat):Int) - 1) (by omega) (by omega) kr ?_))))))))
    refine A9 8 kr (fun w h=>(h.pk 1 [])) (L2 (a:=a) (S:=(inG gj)) (cs:=(C1 (A++x::(B++C)))) n (((A.length:Nat):Int) - 1) 2 (I4 hOj) (by first | exact ⟨by omega,by have:=hIns.perm.length_eq; simp at this; omega,z_ne⟩ | (have hA2:=congrArg List.length hA; simp at hA2; exact ⟨by omega,by have:=hIns.perm.length_eq; simp at this; omega,z_ne⟩)) (B4 kr rfl)) (E2 (fuel:=7) [(10,0),(11,0)] (fun w h=>(h.pk 1 [])) (k:=A9 12 kr (fun w h=>(h.pk 1 [])) (L2 (a:=a) (S:=(inG gj)) (cs:=(C1 (A++x::(B++C)))) n ((A.length:Nat):Int) 2 (I4 hOj) (by first | exact ⟨by omega,by have:=hIns.perm.length_eq; simp at this; omega,z_ne⟩ | (have hA2:=congrArg List.length hA; simp at hA2; exact ⟨by omega,by have:=hIns.perm.length_eq; simp at this; omega,z_ne⟩)) (B4 kr rfl)) (P4 9 13 (k:=?_) (k':=?_))))
    ·
     refine L0 (ch:=[]) (a:=a) (q:=(Int.toNat (((A.length:Nat):Int) - 1)) * 2) (S:=(inG gj)) (cs:=(C1 (A++x::(B++C)))) (l:=[.string y.1.1,.slice y.2.1 y.1.2.size y.2.2]) (hrd:=I4 hOj) (hS:=H6 0 rfl) (hl:=List.cons_ne_nil _ _) (hv:=(fun _=>(z_atL hA (by rw [hA]; simp)))) (k:=A7 kr (fun w h=>(h.pk 1 [])) (C2 13 (k:=L0 (ch:=[]) (a:=a) (q:=(Int.toNat ((A.length:Nat):Int)) * 2) (S:=(inG gj)) (cs:=(C1 (A++x::(B++C)))) (l:=[.string x.1.1,.slice x.2.1 x.1.2.size x.2.2]) (hrd:=I4 hOj) (hS:=H6 0 rfl) (hl:=List.cons_ne_nil _ _) (hv:=(fun _=>(z_at (by simp)))) (k:=A7 kr (fun w h=>(h.pk 1 [])) (A9 14 kr (fun w h=>(h.pk 1 [])) (L2 (a:=a) (S:=(inG gj)) (cs:=(C1 (A++x::(B++C)))) n ((A.length:Nat):Int) 2 (I4 hOj) (by first | exact ⟨by omega,by have:=hIns.perm.length_eq; simp at this; omega,z_ne⟩ | (have hA2:=congrArg List.length hA; simp at hA2; exact ⟨by omega,by have:=hIns.perm.length_eq; simp at this; omega,z_ne⟩)) (B4 kr rfl)) (C2 15 (k:=R0 (ch:=[]) (a:=a) (q:=(Int.toNat ((A.length:Nat):Int)) * 2) (len:=n) (cap:=c) (v:=.agg #[.string y.1.1,.slice y.2.1 y.1.2.size y.2.2]) (g:=gj) (j:=0) (cs:=(C1 (A++x::(B++C)))) (cs':=(C1 (A++y::(B++C)))) (l:=[.string y.1.1,.slice y.2.1 y.1.2.size y.2.2]) (hO:=hOj) (hq:=(by rw [H4,List.length_append,List.length_cons]; first | (have:=congrArg List.length hA; simp at this ⊢; omega) | (simp; omega))) (h0:=List.cons_ne_nil _ _) (hcs:=cellsZ_set (by simp)) (k:=(fun g7 hO8=>?_)))))))))
     refine A7 kr (fun w h=>(h.pk 1 [])) (A9 16 kr (fun w h=>(h.pk 1 [])) (L2 (a:=a) (S:=(inG gj)) (cs:=(C1 (A++x::(B++C)))) n (((A.length:Nat):Int) - 1) 2 (I4 hOj) (by first | exact ⟨by omega,by have:=hIns.perm.length_eq; simp at this; omega,z_ne⟩ | (have hA2:=congrArg List.length hA; simp at hA2; exact ⟨by omega,by have:=hIns.perm.length_eq; simp at this; omega,z_ne⟩)) (B4 kr rfl)) (C2 17 (k:=R0 (ch:=[]) (a:=a) (q:=(Int.toNat (((A.length:Nat):Int) - 1)) * 2) (len:=n) (cap:=c) (v:=.agg #[.string x.1.1,.slice x.2.1 x.1.2.size x.2.2]) (g:=g7) (j:=0) (cs:=(C1 (A++y::(B++C)))) (cs':=(C1 (A'++x::(y::(B++C))))) (l:=[.string x.1.1,.slice x.2.1 x.1.2.size x.2.2]) (hO:=hO8) (hq:=(by rw [H4,List.length_append,List.length_cons]; first | (have:=congrArg List.length hA; simp at this ⊢; omega) | (simp; omega))) (h0:=List.cons_ne_nil _ _) (hcs:=z_setL hA (by rw [hA]; simp)) (k:=(fun g9 hO10=>?_)))))
     refine A7 kr (fun w h=>(h.pk 1 [])) (D8 (E':=[⟨0,[],.slice a n c⟩,⟨1,[],.int .i64 0⟩,⟨2,[],.int .i64 ((n:Nat):Int)⟩,⟨3,[],.func (.func 44) #[] #[]⟩,⟨8,[],.int .i64 ((i:Nat):Int)⟩,⟨9,[],.int .i64 ((A.length:Nat):Int)⟩]) [0,1,2,3,8,9] (k:=D3 (A1 (A3 (A5 (j:=2) [0,0] (k:=F0 36 (((A.length:Nat):Int) - 1) (by omega) (by omega) kr (B5 [0] [0,1,2,3,8,9] (k:=N_env (E':=[⟨0,[],.slice a n c⟩,⟨1,[],.int .i64 0⟩,⟨2,[],.int .i64 ((n:Nat):Int)⟩,⟨3,[],.func (.func 44) #[] #[]⟩,⟨8,[],.int .i64 ((i:Nat):Int)⟩,⟨9,[],.int .i64 (((A.length:Nat):Int) - 1)⟩]) kr ?_))))))))
     refine F6 (s':=(A',(y::B),g9)) [0,1,2,3,8,9] (by rw [show (((A.length:Nat):Int) - 1)=((A'.length:Nat):Int) by rw [hA]; simp] <;> kernel_rfl) rfl ⟨((show InsZ l0 (A'++[y]) x B C from hA ▸ hIns).step hxy),hO10,(by dsimp only; rw [← hlen,hA]; simp; omega)⟩ (by dsimp only; rw [hA]; simp)
    ·
     refine L0 (ch:=[]) (a:=a) (q:=(Int.toNat ((A.length:Nat):Int)) * 2) (S:=(inG gj)) (cs:=(C1 (A++x::(B++C)))) (l:=[.string x.1.1,.slice x.2.1 x.1.2.size x.2.2]) (hrd:=I4 hOj) (hS:=H6 0 rfl) (hl:=List.cons_ne_nil _ _) (hv:=(fun _=>(z_at (by simp)))) (k:=A7 kr (fun w h=>(h.pk 1 [])) (C2 9 (k:=L0 (ch:=[]) (a:=a) (q:=(Int.toNat (((A.length:Nat):Int) - 1)) * 2) (S:=(inG gj)) (cs:=(C1 (A++x::(B++C)))) (l:=[.string y.1.1,.slice y.2.1 y.1.2.size y.2.2]) (hrd:=I4 hOj) (hS:=H6 0 rfl) (hl:=List.cons_ne_nil _ _) (hv:=(fun _=>(z_atL hA (by rw [hA]; simp)))) (k:=A7 kr (fun w h=>(h.pk 1 [])) (A9 14 kr (fun w h=>(h.pk 1 [])) (L2 (a:=a) (S:=(inG gj)) (cs:=(C1 (A++x::(B++C)))) n ((A.length:Nat):Int) 2 (I4 hOj) (by first | exact ⟨by omega,by have:=hIns.perm.length_eq; simp at this; omega,z_ne⟩ | (have hA2:=congrArg List.length hA; simp at hA2; exact ⟨by omega,by have:=hIns.perm.length_eq; simp at this; omega,z_ne⟩)) (B4 kr rfl)) (C2 15 (k:=R0 (ch:=[]) (a:=a) (q:=(Int.toNat ((A.length:Nat):Int)) * 2) (len:=n) (cap:=c) (v:=.agg #[.string y.1.1,.slice y.2.1 y.1.2.size y.2.2]) (g:=gj) (j:=0) (cs:=(C1 (A++x::(B++C)))) (cs':=(C1 (A++y::(B++C)))) (l:=[.string y.1.1,.slice y.2.1 y.1.2.size y.2.2]) (hO:=hOj) (hq:=(by rw [H4,List.length_append,List.length_cons]; first | (have:=congrArg List.length hA; simp at this ⊢; omega) | (simp; omega))) (h0:=List.cons_ne_nil _ _) (hcs:=cellsZ_set (by simp)) (k:=(fun g12 hO13=>?_)))))))))
     refine A7 kr (fun w h=>(h.pk 1 [])) (A9 16 kr (fun w h=>(h.pk 1 [])) (L2 (a:=a) (S:=(inG gj)) (cs:=(C1 (A++x::(B++C)))) n (((A.length:Nat):Int) - 1) 2 (I4 hOj) (by first | exact ⟨by omega,by have:=hIns.perm.length_eq; simp at this; omega,z_ne⟩ | (have hA2:=congrArg List.length hA; simp at hA2; exact ⟨by omega,by have:=hIns.perm.length_eq; simp at this; omega,z_ne⟩)) (B4 kr rfl)) (C2 17 (k:=R0 (ch:=[]) (a:=a) (q:=(Int.toNat (((A.length:Nat):Int) - 1)) * 2) (len:=n) (cap:=c) (v:=.agg #[.string x.1.1,.slice x.2.1 x.1.2.size x.2.2]) (g:=g12) (j:=0) (cs:=(C1 (A++y::(B++C)))) (cs':=(C1 (A'++x::(y::(B++C))))) (l:=[.string x.1.1,.slice x.2.1 x.1.2.size x.2.2]) (hO:=hO13) (hq:=(by rw [H4,List.length_append,List.length_cons]; first | (have:=congrArg List.length hA; simp at this ⊢; omega) | (simp; omega))) (h0:=List.cons_ne_nil _ _) (hcs:=z_setL hA (by rw [hA]; simp)) (k:=(fun g14 hO15=>?_)))))
     refine A7 kr (fun w h=>(h.pk 1 [])) (D8 (E':=[⟨0,[],.slice a n c⟩,⟨1,[],.int .i64 0⟩,⟨2,[],.int .i64 ((n:Nat):Int)⟩,⟨3,[],.func (.func 44) #[] #[]⟩,⟨8,[],.int .i64 ((i:Nat):Int)⟩,⟨9,[],.int .i64 ((A.length:Nat):Int)⟩]) [0,1,2,3,8,9] (k:=D3 (A1 (A3 (A5 (j:=2) [0,0] (k:=F0 36 (((A.length:Nat):Int) - 1) (by omega) (by omega) kr (B5 [0] [0,1,2,3,8,9] (k:=N_env (E':=[⟨0,[],.slice a n c⟩,⟨1,[],.int .i64 0⟩,⟨2,[],.int .i64 ((n:Nat):Int)⟩,⟨3,[],.func (.func 44) #[] #[]⟩,⟨8,[],.int .i64 ((i:Nat):Int)⟩,⟨9,[],.int .i64 (((A.length:Nat):Int) - 1)⟩]) kr ?_))))))))
     refine F6 (s':=(A',(y::B),g14)) [0,1,2,3,8,9] (by rw [show (((A.length:Nat):Int) - 1)=((A'.length:Nat):Int) by rw [hA]; simp] <;> kernel_rfl) rfl ⟨((show InsZ l0 (A'++[y]) x B C from hA ▸ hIns).step hxy),hO15,(by dsimp only; rw [← hlen,hA]; simp; omega)⟩ (by dsimp only; rw [hA]; simp)
   ·
    have hxy:ltZ x y=false:=by rw [← ltZ_cmp]; exact hc4
    have hdn:=one_snoc hA hxy
    refine H0 (A6 (A6 (C3 (D3 (A1 (A3 (A5 (j:=2) [0,0] (k:=F0 16 (((i:Nat):Int)+1) (by omega) (by omega) kr ?_))))))))
    refine B5 [0] [0,1,2,3,8] (k:=F6 (s':=(i+1,(A++x::(B++C)),gj)) [0,1,2,3,8] kr rfl ⟨(by dsimp only; omega),(by have:=hIns.perm.length_eq; rw [hn] at this; exact this),hOj,hIns.perm,(ins_end hIns hdn hlen)⟩ (by omega))
 ·
  have hge:n≤i:=by simp only [decide_eq_false_iff_not] at hc2; omega
  refine H0 (A6 (A6 (C3 (C5 [] [] (k:=?_)))))
  exact ⟨_,l,rfl,hOi,hpm,by rw [← List.take_of_length_le (l:=l) (i:=i) (by omega)]; exact hsr,rfl⟩
end Go.Proofs.YtdolpaagdpeagaaGreatDoor
namespace Go.Proofs.YtdolpaagdpeagaaGreatDoor
open Go.Sw Go.Lib Go.Vf Go.Sha Go.Pr Go.RowKit
theorem insN_ (dv:Value) (a0 b0:Int) (h:b0≤a0) (ha:0≤a0∧a0≤1000000) (W0:World) (H:List Grp):Tri Tryz.prog 101 #[dv,.int .i64 a0,.int .i64 b0,.func (.func 44) #[] #[]] W0 H (fun v H'=>v=.tuple #[]∧H'=H):=by
 refine D6 53 Tryz.func101 ?_
 refine A2 (A3 (A5 (j:=2) [0,0] (k:=F0 11 (a0+1) (by omega) (by omega) kr (B5 [0] [0,1,2,3,8] (k:=A1 (B8 (I6 (EI:=(fun ξ:Nat=>[⟨0,[],dv⟩,⟨1,[],.int .i64 a0⟩,⟨2,[],.int .i64 b0⟩,⟨3,[],.func (.func 44) #[] #[]⟩,⟨8,[],.int .i64 (a0+1)⟩])) (HI:=(fun ξ:Nat=>H)) (Φ:=(fun ξ:Nat=>(ξ=0))) (μ:=(fun ξ:Nat=>0)) (s0:=(0)) [0,1,2,3,8] kr rfl rfl ?_)))))))
 rintro u hu
 refine A2 (A2 (G_p [0,0,0] [0,1,2,3,8,14] (k:=A1 (D2 (b:=decide ((a0+1)<b0)) kr (fun hc2=>?_) (fun hc2=>?_)))))
 ·
  exact absurd (of_decide_eq_true hc2) (by omega)
 ·
  skip
  refine H0 (A6 (A6 (C3 (C5 [] [] (k:=?_)))))
  exact ⟨rfl,rfl⟩
theorem insA_ (a:Option Addr) (n c:Nat) (g:Grp) (l0:List SE) (hn:l0.length=n) (hO:Go.Sw.Own 34 2 (.slice a n c) g n (C1 l0)) (hn1:n≤1000000) (a0 b0:Int) (h:(a0=0∧b0=((n:Nat):Int))∨(b0≤a0∧0≤a0∧a0≤1000000∧SrtZ l0)) (W0:World) (H:List Grp):Tri Tryz.prog 101 #[.slice a n c,.int .i64 a0,.int .i64 b0,.func (.func 44) #[] #[]] W0 (g::H) (fun v H'=>∃ g2 l,v=.tuple #[]∧Go.Sw.Own 34 2 (.slice a n c) g2 n (C1 l)∧l.Perm l0∧SrtZ l∧H'=g2::H):=by
  rcases h with ⟨rfl,rfl⟩ | ⟨h1,h2,h3,h4⟩
  · exact insZ_ a n c g l0 hn hO hn1 W0 H
  · exact Tri.post (insN_ (.slice a n c) a0 b0 h1 ⟨h2,h3⟩ W0 (g::H)) fun v H1 ⟨hv,hH⟩=>⟨_,⟨g,l0,hv,hO,List.Perm.refl _,h4,rfl⟩,fun w hw=>by rw [hH] at hw; exact hw⟩
theorem ins_or {t n:Nat} {P:Prop} {b0:Int} (ht:t=0∨(t=1∧n=20∧P)) (hb:((t=0∧n=20)∧b0=((20 * t+20:Nat):Int))∨b0=((n:Nat):Int)):((((20 * t:Nat):Int)=0∧b0=((n:Nat):Int))∨(b0≤((20 * t:Nat):Int)∧0≤((20 * t:Nat):Int)∧((20 * t:Nat):Int)≤1000000∧P)):=by
  rcases ht with h | ⟨h,h2,h3⟩
  · left; rcases hb with ⟨h4,h5⟩ | h5 <;> (refine ⟨?_,?_⟩ <;> omega)
  · right; rcases hb with ⟨h4,h5⟩ | h5
    · omega
    · exact ⟨by omega,by omega,by omega,h3⟩
theorem stable_ (a:Option Addr) (n c:Nat) (g:Grp) (l0:List SE) (hn:l0.length=n) (hO:Go.Sw.Own 34 2 (.slice a n c) g n (C1 l0)) (hn20:n≤20) (W0:World) (H:List Grp):Tri Tryz.prog 74 #[.slice a n c,.int .i64 ((n:Nat):Int),.func (.func 44) #[] #[]] W0 (g::H) (fun v H'=>∃ g2 l,v=.tuple #[]∧Go.Sw.Own 34 2 (.slice a n c) g2 n (C1 l)∧l.Perm l0∧SrtZ l∧H'=g2::H):=by
 refine D6 63 Tryz.func74 ?_
 refine A2 (G_p [0] [0,1,2,6] (k:=A1 (A2 (G_p [0,0,0] [0,1,2,6,7,8] (k:=A1 (A2 (B8 (I6 (EI:=(fun ξ:Nat × List SE × Grp=>[⟨0,[],.slice a n c⟩,⟨1,[],.int .i64 ((n:Nat):Int)⟩,⟨2,[],.func (.func 44) #[] #[]⟩,⟨6,[],.int .i64 20⟩,⟨7,[],.int .i64 ((20 * ξ.1:Nat):Int)⟩,⟨8,[],.int .i64 ((20 * ξ.1+20:Nat):Int)⟩])) (HI:=(fun ξ:Nat × List SE × Grp=>(ξ.2.2::H))) (Φ:=(fun ξ:Nat × List SE × Grp=>(ξ.1=0∨(ξ.1=1∧n=20∧SrtZ ξ.2.1))∧(Go.Sw.Own 34 2 (.slice a n c) ξ.2.2 n (C1 ξ.2.1))∧(ξ.2.1.Perm l0))) (μ:=(fun ξ:Nat × List SE × Grp=>1 - ξ.1)) (s0:=(0,l0,g)) [0,1,2,6,7,8] kr rfl ⟨(.inl rfl),hO,(List.Perm.refl _)⟩ ?_))))))))
 rintro ⟨t,l,gi⟩ ⟨ht,hOi,hpm⟩
 dsimp only at ht hOi hpm
 refine A2 (A2 (G_p [0,0,0] [0,1,2,6,7,8,13] (k:=A1 (D2 (b:=decide (((20 * t+20:Nat):Int)≤((n:Nat):Int))) kr (fun hc1=>?_) (fun hc1=>?_)))))
 ·
  have ht0:t=0∧n=20:=by
   have h9:=of_decide_eq_true hc1
   rcases ht with h8 | ⟨h8,_,_⟩ <;> omega
  refine B6 (A1 (B8 (A2 (A3 (A5 (j:=4) [0,0,0,0] (k:=E4 Tryz.func101 (insA_ a n c gi l (by rw [hpm.length_eq]; exact hn) hOi (by omega) ((20 * t:Nat):Int) ((20 * t+20:Nat):Int) (ins_or (t:=t) (n:=n) ht (by first | exact .inl ⟨ht0,rfl⟩ | exact .inr rfl)) _ _) ?_))))))
  rintro _ _ ⟨g2,l3,rfl,hO4,hp5,hs6,rfl⟩
  refine B5 [] [0,1,2,6,8] (k:=A1 (A2 (G_p [0,0] [0,1,2,6,7,8] (k:=A1 (A3 (A5 (j:=3) [0,0,0] (k:=F0 22 (((20 * t+20:Nat):Int)+20) (by omega) (by omega) kr (B5 [0] [0,1,2,6,7,8] (k:=?_)))))))))
  refine D3 (F6 (s':=((t+1),l3,g2)) [0,1,2,6,7,8] kr rfl ⟨(.inr ⟨by dsimp only; omega,ht0.2,hs6⟩),hO4,(hp5.trans hpm)⟩ (by dsimp only; omega))
 ·
  have htf:=of_decide_eq_false hc1
  refine H0 (A6 (A6 (C3 (A1 (A2 (A3 (A5 (j:=4) [0,0,0,0] (k:=E4 Tryz.func101 (insA_ a n c gi l (by rw [hpm.length_eq]; exact hn) hOi (by omega) ((20 * t:Nat):Int) ((n:Nat):Int) (ins_or (t:=t) (n:=n) ht (by first | exact .inl ⟨ht0,rfl⟩ | exact .inr rfl)) _ _) ?_))))))))
  rintro _ _ ⟨g8,l9,rfl,hO10,hp11,hs12,rfl⟩
  refine B5 [] [0,1,2,6] (k:=A1 (B8 (I6 (EI:=(fun ξ:Nat=>[⟨0,[],.slice a n c⟩,⟨1,[],.int .i64 ((n:Nat):Int)⟩,⟨2,[],.func (.func 44) #[] #[]⟩,⟨6,[],.int .i64 20⟩])) (HI:=(fun ξ:Nat=>(g8::H))) (Φ:=(fun ξ:Nat=>(ξ=0))) (μ:=(fun ξ:Nat=>0)) (s0:=(0)) [0,1,2,6] kr rfl rfl ?_)))
  rintro u hu
  refine A2 (A2 (G_p [0,0,0] [0,1,2,6,30] (k:=A1 (D2 (b:=decide (20<((n:Nat):Int))) kr (fun hc13=>?_) (fun hc13=>?_)))))
  ·
   exact absurd (of_decide_eq_true hc13) (by omega)
  ·
   skip
   refine H0 (A6 (A6 (C3 (C5 [] [] (k:=?_)))))
   exact ⟨_,l9,rfl,hO10,hp11.trans hpm,hs12,rfl⟩
theorem sortZ_ (a:Option Addr) (n c:Nat) (g:Grp) (l0:List SE) (hn:l0.length=n) (hO:Go.Sw.Own 34 2 (.slice a n c) g n (C1 l0)) (hn20:n≤20) (W0:World) (H:List Grp):Tri Tryz.prog 43 #[.slice a n c,.func (.func 44) #[] #[]] W0 (g::H) (fun v H'=>∃ g2 l,v=.tuple #[]∧Go.Sw.Own 34 2 (.slice a n c) g2 n (C1 l)∧l.Perm l0∧SrtZ l∧H'=g2::H):=by
 refine D6 9 Tryz.func43 ?_
 refine A3 (A5 (j:=4) [0,0,0,0] (k:=E4 Tryz.func74 (stable_ a n c g l0 hn hO hn20 _ _) ?_))
 rintro _ _ ⟨g1,l2,rfl,hO3,hp4,hs5,rfl⟩
 refine D5 (E':=[]) [] [] (k:=C5 [] [] (k:=?_))
 exact ⟨_,l2,rfl,hO3,hp4,hs5,rfl⟩
end Go.Proofs.YtdolpaagdpeagaaGreatDoor
namespace Go.Proofs.YtdolpaagdpeagaaGreatDoor
open Go.Sw Go.Lib Go.Vf Go.Sha Go.Pr Go.RowKit
theorem clone_z {t:TypeId} {v:Value} {g:Grp} {n:Nat} {l:List Value} (h:Go.Sw.Own t 1 v g n l):∃ a c,v=.slice a n c∧Rd (inG g) a l∧Sh a n c:=by
  obtain ⟨a,c,rfl,_,hr⟩:=h.shape
  refine ⟨a,c,rfl,hr,?_⟩
  obtain ⟨_,⟨he,_,hn⟩ | ⟨b,cap,junk,he,_,_,_⟩⟩:=h
  · injection he with e1 e2 e3; exact .inl ⟨e1,hn,e3⟩
  · injection he with e1 e2 e3; exact .inr (.inr ⟨b,0,e1⟩)
theorem T8 {S S':Nat→Obj→Prop} (hs:∀ b o,S b o→S' b o) {z:SE} (h:ZOk S z):ZOk S' z:=⟨h.1.mono hs,h.2⟩
theorem z_get {l:List SE} {m q:Nat} (h:m<l.length) (hq:q=m * 2):((C1 l).drop q).take 2=[.string (l.getD m default).1.1,.slice (l.getD m default).2.1 (l.getD m default).1.2.size (l.getD m default).2.2]:=by
  have e:l=l.take m++l[m]::l.drop (m+1):=by rw [← List.drop_eq_getElem_cons h,List.take_append_drop]
  have e2:l.getD m default=l[m]:=by rw [List.getD,List.getElem?_eq_getElem h]; rfl
  rw [e2]
  conv=>lhs; rw [e]
  exact cellsZ_at (by rw [List.length_take,hq]; congr 1; omega)
theorem z_get1 {l:List SE} {m q:Nat} (h:m<l.length) (hq:q=m * 2):(C1 l)[q]? = some (.string (l.getD m default).1.1):=elt2 (z_get h hq) 0 (by show 0<2; omega)
def badZ (l:List SE) (m:Nat):Bool:=!(R2 (l.getD m default).1.1)||(decide (0<m)&&(l.getD (m - 1) default).1.1.toList==(l.getD m default).1.1.toList)
def OkZ (l:List SE) (m:Nat):Prop:=∀ j,j<m→badZ l j=false
theorem ok_zero (l:List SE):OkZ l 0:=fun j h=>absurd h (Nat.not_lt_zero j)
theorem ok_next {l:List SE} {m:Nat} (h:OkZ l m) (hb:badZ l m=false):OkZ l (m+1):=fun j hj=>by
  rcases Nat.lt_or_ge j m with h1 | h1
  · exact h j h1
  · rw [show j=m by omega]; exact hb
theorem z_next {F:List FB} {zl:List SE} {k:Nat} {f:FB} {w:Option Addr × Nat} (h:zl.map Prod.fst=F.take k) (hk:k<F.length) (hf:f=F[k]):(zl++[(f,w)]).map Prod.fst=F.take (k+1):=by
  rw [List.map_append,h,List.take_succ_eq_append_getElem hk,hf]; rfl
theorem z_all {Z:List Grp} {g:Grp} {zl:List SE} {z:SE} (h:∀ y∈zl,ZOk (inZ Z) y) (hz:ZOk (inG g) z):∀ y∈zl++[z],ZOk (inZ (g::Z)) y:=fun y hy=>by
  rcases List.mem_append.1 hy with hy | hy
  · exact T8 (fun b o hb=>inZ_app (K:=[g]) hb) (h y hy)
  · rw [List.mem_singleton.1 hy]
    refine T8 (fun b o hb=>?_) hz
    show (b,o)∈(g::Z).flatten
    rw [List.flatten_cons]; exact List.mem_append_left _ hb
theorem C4 {W0:World} {K H:List Grp} {y:Nat} {o:Obj} (h:At W0 H y o):At W0 (K++H) y o:=by
  rcases h with h | h
  · exact .inl h
  · exact .inr (by rw [List.flatten_append]; exact List.mem_append_right _ h)
theorem sorted_ (fa:Option Addr) (fc:Nat) (F:List FB) (cs:List Value) (S:Nat→Obj→Prop) (hrd:Rd S fa cs) (hF:FRd S F cs) (hn20:F.length≤20) (hz:∀ f∈F,f.1.size≤1000000) (hb:∀ f∈F,f.2.size≤1000000000) (W0:World) (H:List Grp) (hS:∀ y o,S y o→At W0 H y o):Tri Tryz.prog 23 #[.slice fa F.length fc] W0 H (fun v H'=>∃ (l zl:List SE) (Z:List Grp) (g:Grp) (a:Option Addr) (c:Nat),zl.map Prod.fst=F∧l.Perm zl∧SrtZ l∧(∀ z∈zl,ZOk (inZ Z) z)∧Go.Sw.Own 34 2 (.slice a F.length c) g F.length (C1 l)∧H'=g::(Z++H)∧((v=.tuple #[.slice a F.length c,.bool true]∧OkZ l F.length)∨(v=.tuple #[.slice none 0 0,.bool false]∧∃ m,m<F.length∧badZ l m=true))):=by
 refine D6 58 Tryz.func23 ?_
 refine A2 (B9 (E':=[⟨0,[],.slice fa F.length fc⟩]) [0,0] [0] (k:=A1 (A2 (G_p [0] [0,4] (k:=A1 (A2 (A2 (G_p [0,0,0] [4,9,10,11] (k:=?_)))))))))
 refine A1 (B8 (G_heap (H':=([]::([]++H))) (fun w h=>h.flat (List.Perm.refl _)) (I6 (EI:=(fun ξ:Nat × Option Addr × Nat × Grp × List SE × List Grp=>[⟨4,[],.slice ξ.2.1 ξ.1 ξ.2.2.1⟩,⟨9,[],.slice fa F.length fc⟩,⟨10,[],.int .i64 ((F.length:Nat):Int)⟩,⟨11,[],.int .i64 ((ξ.1:Nat):Int)⟩])) (HI:=(fun ξ:Nat × Option Addr × Nat × Grp × List SE × List Grp=>(ξ.2.2.2.1::(ξ.2.2.2.2.2++H)))) (Φ:=(fun ξ:Nat × Option Addr × Nat × Grp × List SE × List Grp=>(ξ.1≤F.length)∧(Go.Sw.Own 34 2 (.slice ξ.2.1 ξ.1 ξ.2.2.1) ξ.2.2.2.1 ξ.1 (C1 ξ.2.2.2.2.1))∧(ξ.2.2.2.2.1.map Prod.fst=F.take ξ.1)∧(∀ z∈ξ.2.2.2.2.1,ZOk (inZ ξ.2.2.2.2.2) z))) (μ:=(fun ξ:Nat × Option Addr × Nat × Grp × List SE × List Grp=>F.length - ξ.1)) (s0:=(0,none,0,[],[],[])) [4,9,10,11] kr rfl ⟨(by omega),Go.Sw.Own.nil,rfl,(fun z h=>absurd h List.not_mem_nil)⟩ ?_)))
 rintro ⟨k,a,c,g,zl,Z⟩ ⟨hk,hO,hzl,hZ⟩
 dsimp only at hk hO hzl hZ
 refine A2 (G_p [0] [4,9,10,11,12] (k:=A1 (A2 (D2 (b:=decide (((k:Nat):Int)<((F.length:Nat):Int))) kr (fun hc1=>?_) (fun hc1=>?_)))))
 ·
  have hlt:k<F.length:=by simp only [decide_eq_true_eq] at hc1; omega
  obtain ⟨ba,bc,hge,hgr,hgc⟩:=hF.get hlt
  obtain ⟨f,hfk⟩:∃ f,f=F[k]:=⟨_,rfl⟩
  rw [← hfk] at hge hgr hgc
  have hfm:f∈F:=by rw [hfk]; exact List.getElem_mem hlt
  refine B6 (A1 (A2 (B8 (A2 (A3 (L2 F.length ((k:Nat):Int) 2 hrd (by exact ⟨by omega,by omega,P8 hF hlt⟩) (L0 (ch:=[]) (a:=fa) (q:=k * 2) (S:=S) (cs:=cs) (l:=[.string f.1,.slice ba f.2.size bc]) (hrd:=hrd) (hS:=(fun y o h=>(At.cons (C4 (hS y o h))))) (hl:=List.cons_ne_nil _ _) (hv:=(fun _=>(elt2 hge))) (k:=O0 (.agg #[.string eB,.slice none 0 0]) (fun b2=>?_)))))))))
  refine M8 0 0 (.agg #[.string f.1,.slice ba f.2.size bc]) rfl (B5 [] [4,6,9,10,11] (k:=A1 (F4 ([(b2,.cells #[.string f.1,.slice ba f.2.size bc] 34 (0,0))]::(Z++H)) kr (E2 (fuel:=8) [(0,0),(1,0)] (fun w h=>(h.pkT 1 [0])) (k:=A9 2 kr (fun w h=>(h.pkT 1 [0])) (D0 0 0 rfl rfl (B4 kr rfl)) (E2 (fuel:=6) [(3,0)] (fun w h=>(h.pkT 1 [0])) (k:=A9 4 kr (fun w h=>(h.pkT 1 [0])) (D0 0 1 rfl rfl (B4 kr rfl)) (C2 5 (k:=?_)))))))))
  refine E4 Tryz.func41 (vCloneO ba f.2.size bc S f.2.data.toList hgc hgr (by rw [Array.length_toList]; rfl) (by have:=hb f hfm; omega) _ _ (fun y o h=>(At.cons (At.cons (C4 (hS y o h)))))) ?_
  rintro _ _ ⟨g3,ho4,rfl⟩
  obtain ⟨ca5,cc6,rfl,hr7,hs8⟩:=clone_z ho4
  refine A7 kr (fun w h=>(h.pk 2 [1])) (I0 (g3::[(b2,.cells #[.string f.1,.slice ba f.2.size bc] 34 (0,0))]::(Z++H)) (fun w h=>(h.pk 1 [1])) (E2 (fuel:=3) [(6,0)] (fun w h=>(h.pk 1 [0,0])) (k:=C2 7 (k:=N2 34 1 [.string f.1,.slice ca5 f.2.size cc6] (fun b9=>A7 kr (fun w h=>(h.pk 2 [1,1])) (I0 ([(b9,.cells #[.string f.1,.slice ca5 f.2.size cc6] 34 (0,0))]::g3::[(b2,.cells #[.string f.1,.slice ba f.2.size bc] 34 (0,0))]::(Z++H)) (fun w h=>(h.pk 1 [1,1])) (C2 8 (k:=M0 (i:=8) (ch:=[]) (t:=35) (tx:=35) (e:=34) (inf:=Tryz.t34) (s:=.slice a k c) (x:=.slice (some ⟨b9,0,none⟩) 1 1) (n:=k) (m:=1) (j:=3) (cs:=(C1 zl)) (news:=[.string f.1,.slice ca5 f.2.size cc6]) (g:=g) (S:=(inG [(b9,.cells #[.string f.1,.slice ca5 f.2.size cc6] 34 (0,0))])) rfl rfl rfl rfl kr kr kr rfl rfl (.inl ⟨34,kr⟩) (fun ⟨_,h⟩=>by cases h) (fun _=>⟨34,kr⟩) kr kr kr rfl hO (SrcOf.slice _ _ _ _ Rd.lit (fun h=>by cases h)) (H6 0 rfl) rfl (by intro u hu; simp only [List.mem_cons,List.not_mem_nil,or_false] at hu; rcases hu with rfl | rfl <;> rfl) (by omega) (by show (k+1) * 40≤140737488355328; omega) (fun v10 g11 hO12=>?_)))))))))
  obtain ⟨a13,cap14,rfl,hcap15,hrd16⟩:=hO12.shape
  refine A7 kr (fun w h=>(h.pkT 1 [0,0,0])) (E2 (fuel:=0) [(9,0)] (fun w h=>(h.pkT 1 [0,0,0])) (k:=D8 (E':=[⟨4,[],.slice a13 (k+1) cap14⟩,⟨9,[],.slice fa F.length fc⟩,⟨10,[],.int .i64 ((F.length:Nat):Int)⟩,⟨11,[],.int .i64 ((k:Nat):Int)⟩]) [4,9,10,11] (k:=D3 (A1 (A3 (A5 (j:=1) [0] (k:=F0 24 (((k:Nat):Int)+1) (by omega) (by omega) kr (B5 [0] [4,9,10,11] (k:=?_)))))))))
  refine N_pk 2 [3,1] (F6 (s':=(k+1,a13,cap14,g11,(zl++[(f,ca5,cc6)]),(g3::Z))) [4,9,10,11] kr kr ⟨(by omega),(X3 hO12 (by rw [O5]; rfl)),(z_next hzl hlt hfk),(z_all hZ ⟨hr7,hs8⟩)⟩ (by omega))
 ·
  have hge:¬ k<F.length:=by simp only [decide_eq_false_iff_not] at hc1; omega
  have hzn:zl.length=k:=by have:=congrArg List.length hzl; rw [List.length_map,List.length_take] at this; omega
  refine H0 (A6 (A6 (C3 (A1 (A2 (A3 (A5 (j:=1) [0] (k:=E4 Tryz.func43 (sortZ_ a k c g zl hzn hO (by omega) _ _) ?_))))))))
  rintro _ _ ⟨g18,l19,rfl,hO20,hp21,hs22,rfl⟩
  refine D5 (E':=[⟨4,[],.slice a k c⟩]) [] [4] (k:=A1 (A2 (A2 (G_p [0,0,0] [4,27,28,29] (k:=A1 (B8 (I6 (EI:=(fun ξ:Nat=>[⟨4,[],.slice a k c⟩,⟨27,[],.slice a k c⟩,⟨28,[],.int .i64 ((k:Nat):Int)⟩,⟨29,[],.int .i64 ((ξ:Nat):Int)⟩])) (HI:=(fun ξ:Nat=>(g18::(Z++H)))) (Φ:=(fun ξ:Nat=>(ξ≤k)∧(OkZ l19 ξ))) (μ:=(fun ξ:Nat=>k - ξ)) (s0:=(0)) [4,27,28,29] kr rfl ⟨(by omega),(ok_zero _)⟩ ?_)))))))
  rintro m ⟨hm,hok⟩
  refine A2 (G_p [0] [4,27,28,29,30] (k:=A1 (A2 (D2 (b:=decide (((m:Nat):Int)<((k:Nat):Int))) kr (fun hc23=>?_) (fun hc23=>?_)))))
  ·
   have hml:m<k:=by simp only [decide_eq_true_eq] at hc23; omega
   have hml2:m<l19.length:=by rw [hp21.length_eq,hzn]; exact hml
   obtain ⟨z,hzm⟩:∃ z,z=l19.getD m default:=⟨_,rfl⟩
   have hzs:z.1.1.size≤1000000:=by
    have h5:z∈l19:=by rw [hzm,List.getD,List.getElem?_eq_getElem hml2]; exact List.getElem_mem hml2
    have h6:z.1∈F:=List.mem_of_mem_take (i:=k) (by rw [← hzl]; exact List.mem_map_of_mem (hp21.mem_iff.1 h5))
    exact hz z.1 h6
   refine B6 (A1 (A2 (B8 (A2 (A3 (A5 (j:=1) [0] (k:=L2 (a:=a) (S:=(inG g18)) (cs:=(C1 l19)) k ((m:Nat):Int) 2 (I4 hO20) (by exact ⟨by omega,by omega,fun e=>by have:=congrArg List.length e; rw [H4,List.length_nil] at this; omega⟩) (L0 (ch:=[]) (a:=a) (q:=m * 2) (S:=(inG g18)) (cs:=(C1 l19)) (l:=[.string z.1.1,.slice z.2.1 z.1.2.size z.2.2]) (hrd:=I4 hO20) (hS:=H6 0 rfl) (hl:=List.cons_ne_nil _ _) (hv:=(fun _=>(by rw [hzm]; exact elt2 (z_get hml2 (by simp))))) (k:=?_)))))))))
   refine O0 (.agg #[.string eB,.slice none 0 0]) (fun b24=>A5 (j:=5) [0] (k:=M8 0 0 (.agg #[.string z.1.1,.slice z.2.1 z.1.2.size z.2.2]) rfl (B5 [] [4,7,8,27,28,29] (k:=A1 (A2 ?_)))))
   rcases Nat.eq_zero_or_pos m with hm0 | hm0
   ·
    refine K0 (k:=A5 (j:=1) [0] (k:=D0 0 0 rfl rfl (G1 Tryz.func31 (name_ z.1.1 (by omega) _ _) (A5 (j:=7) [0,0,0,0] (k:=L1 40 [(38,false)] (x:=.bool (decide (((m:Nat):Int) > 0))) (y:=.bool false) (by rw [show decide (((m:Nat):Int) > 0)=false from decide_eq_false (by omega)]) (B5 [0,1,1,1,1,1,1,1,1,1,3,5] [4,27,28,29,52] (k:=A1 (D2 (b:=(!(R2 z.1.1))||false) kr (fun hc25=>?_) (fun hc25=>?_)))))))))
    ·
     have hbad:=hc25
     refine A2 (G_p [0,0] [2,3] (k:=A1 (C8 (G3 (C0 (C0 (G3 (C0 ?_))))))))
     refine N_pk 1 [1] (C5 [.tmp 2,.tmp 3] [.slice none 0 0,.bool false] (k:=?_))
     have hkF:k=F.length:=by omega
     subst hkF
     refine ⟨l19,zl,Z,_,a,c,by rw [hzl,List.take_length],hp21,hs22,hZ,hO20,rfl,?_⟩
     exact .inr ⟨rfl,m,by omega,by unfold badZ; rw [← hzm,show decide (0<m)=false from decide_eq_false (by omega)]; simpa using hbad⟩
    ·
     have hcn:badZ l19 m=false:=by unfold badZ; rw [← hzm,show decide (0<m)=false from decide_eq_false (by omega)]; simpa using hc25
     refine B6 (D3 (A1 (A3 (A5 (j:=1) [0] (k:=F0 53 (((m:Nat):Int)+1) (by omega) (by omega) kr (B5 [0] [4,27,28,29] (k:=N_pk 1 [1] (F6 (s':=(m+1)) [4,27,28,29] kr kr ⟨(by omega),(ok_next hok hcn)⟩ (by omega)))))))))
   ·
    obtain ⟨zp,hzp⟩:∃ z,z=l19.getD (m - 1) default:=⟨_,rfl⟩
    refine K0 (k:=A5 (j:=1) [0] (k:=D0 0 0 rfl rfl (G1 Tryz.func31 (name_ z.1.1 (by omega) _ _) (A5 (j:=7) [0,0,0,0] (k:=L1 40 [(38,false)] (x:=.bool (decide (((m:Nat):Int) > 0))) (y:=.bool true) (by rw [show decide (((m:Nat):Int) > 0)=true from decide_eq_true (by omega)]) (A5 (j:=11) [0,0,0,0] (k:=L1 44 [(41,true),(38,false)] (x:=.int .i64 (IntKind.wrap .i64 (((m:Nat):Int) - 1))) (y:=.int .i64 (((m:Nat):Int) - 1)) (by rw [w64 (x:=((m:Nat):Int) - 1) (by omega) (by omega)]) (I7 (ch:=[(41,true),(38,false)]) (a:=a) (len:=k) (cap:=c) (kd:=.i64) (j:=(((m:Nat):Int) - 1)) (e:=34) (sz:=2) (S:=(inG g18)) (cs:=(C1 l19)) (hrd:=I4 hO20) (hb:=(fun hc=>by exact ⟨by omega,by omega,fun e=>by have:=congrArg List.length e; rw [H4,List.length_nil] at this; omega⟩)) (k:=?_)))))))))
    refine A5 (j:=13) [0] (k:=R7 (ch:=[(41,true),(38,false)]) (a:=a) (q:=(Int.toNat (((m:Nat):Int) - 1)) * 2) (S:=(inG g18)) (cs:=(C1 l19)) (v:=.string zp.1.1) (hrd:=I4 hO20) (hS:=H6 1 rfl) (hv:=(fun hc=>(by rw [hzp]; exact z_get1 (by omega) (by omega)))) (k:=A5 (j:=15) [0] (k:=F9 (ch:=[(41,true),(38,false)]) (b:=b24) (off:=0) (v:=.string z.1.1) (hA:=At.grp 0 0 rfl rfl) (k:=B5 [0,2,5] [4,27,28,29,52] (k:=A1 (D2 (b:=(!(R2 z.1.1))||(zp.1.1.toList==z.1.1.toList)) kr (fun hc27=>?_) (fun hc27=>?_)))))))
    ·
     have hbad:=hc27
     refine A2 (G_p [0,0] [2,3] (k:=A1 (C8 (G3 (C0 (C0 (G3 (C0 ?_))))))))
     refine N_pk 1 [1] (C5 [.tmp 2,.tmp 3] [.slice none 0 0,.bool false] (k:=?_))
     have hkF:k=F.length:=by omega
     subst hkF
     refine ⟨l19,zl,Z,_,a,c,by rw [hzl,List.take_length],hp21,hs22,hZ,hO20,rfl,?_⟩
     exact .inr ⟨rfl,m,by omega,by unfold badZ; rw [← hzm,← hzp,show decide (0<m)=true from decide_eq_true hm0]; simpa using hbad⟩
    ·
     have hcn:badZ l19 m=false:=by unfold badZ; rw [← hzm,← hzp,show decide (0<m)=true from decide_eq_true hm0]; simpa using hc27
     refine B6 (D3 (A1 (A3 (A5 (j:=1) [0] (k:=F0 53 (((m:Nat):Int)+1) (by omega) (by omega) kr (B5 [0] [4,27,28,29] (k:=N_pk 1 [1] (F6 (s':=(m+1)) [4,27,28,29] kr kr ⟨(by omega),(ok_next hok hcn)⟩ (by omega)))))))))
  ·
   have hgem:k≤m:=by simp only [decide_eq_false_iff_not] at hc23; omega
   refine H0 (A6 (A6 (C3 (A1 (A2 (G_p [0,0,0,0,0,0] [2,3] (k:=A1 (C8 ?_))))))))
   refine C5 [.tmp 2,.tmp 3] [.slice a k c,.bool (decide (((k:Nat):Int)≤400))] (k:=?_)
   have hkF:k=F.length:=by omega
   subst hkF
   refine ⟨l19,zl,Z,_,a,c,by rw [hzl,List.take_length],hp21,hs22,hZ,hO20,rfl,?_⟩
   exact .inl ⟨by rw [show decide _=true from decide_eq_true (by omega)]; rfl,fun j hj=>hok j (by omega)⟩
end Go.Proofs.YtdolpaagdpeagaaGreatDoor
namespace Go.Pr
open Go.Sw Go.Vf Go.Sha Go.Lib Go.Proofs.YtdolpaagdpeagaaGreatDoor
theorem bk_self (s:ByteArray):(⟨s.data.toList.toArray⟩:ByteArray)=s:=ext_dl (by simp)
theorem lf_dl:lfB.data.toList=[10]:=rfl
theorem idx_at {a:List UInt8} {c:UInt8} {r:List UInt8} (h:∀ x∈a,x≠c):Lib.indexByte (a++c::r) c=(a.length:Int):=by
  induction a with
  | nil=>show Lib.indexByte (c::r) c=0; unfold Lib.indexByte; rw [if_pos (by simp)]
  | cons b a ih =>
    have h1:=h b List.mem_cons_self
    have h2:=ih fun x hx=>h x (List.mem_cons_of_mem _ hx)
    show Lib.indexByte (b::(a++c::r)) c=_
    unfold Lib.indexByte
    rw [if_neg (by simpa using h1),h2,if_neg (by simp),List.length_cons]
    omega
theorem trim_at (a b:List UInt8):Lib.trimSuffix (a++b) b=a:=by
  unfold Lib.trimSuffix Lib.hasSuffix
  rw [if_pos (by rw [List.isSuffixOf_iff_suffix]; exact List.suffix_append a b),List.length_append,Nat.add_sub_cancel,List.take_left]
theorem hex2_ok:(List.range 256).all (fun n=>(hex2 ((n:Nat):Int)).all fun b=>b != 10&&b != 32)=true:=by decide +kernel
theorem hexK_ok (l:List UInt8) (j:Nat):∀ x∈hexK l j,x≠10∧x≠32:=fun x hx=>by
  unfold hexK at hx
  obtain ⟨b,_,hb⟩:=List.mem_flatMap.1 hx
  have:=List.all_eq_true.1 hex2_ok b.toNat (List.mem_range.2 b.toNat_lt)
  have:=List.all_eq_true.1 this x hb
  simpa using this
theorem hexM_ok (l:List UInt8):∀ x∈(hexM l).data.toList,x≠10∧x≠32:=fun x hx=>hexK_ok (sumB l) 32 x (by simpa [hexM] using hx)
theorem mem_byte {s:ByteArray} {b:UInt8} (h:b∈s.data.toList):∃ j,j<s.size∧G9 s (j:Int)=((b.toNat:Nat):Int):=by
  obtain ⟨j,hj,e⟩:=List.getElem_of_mem h
  refine ⟨j,by rw [Array.length_toList] at hj; exact hj,?_⟩
  unfold G9
  rw [Int.toNat_natCast,List.getElem?_eq_getElem hj,Option.getD_some,e]
theorem name_ok {s:ByteArray} (h:R2 s=true):∀ x∈s.data.toList,x≠10:=fun x hx e=>by
  have hp:=(name_part h).1
  unfold G2 at hp
  simp only [Bool.and_eq_true] at hp
  have hall:=hp.1.1.1.1
  obtain ⟨j,hj,e2⟩:=mem_byte hx
  unfold pallB at hall
  have:=List.all_eq_true.1 hall j (List.mem_range.2 hj)
  rw [e2,e] at this
  exact absurd this (by decide)
theorem X4 {s:ByteArray} (h:R2 s=true):s.size≤80:=by
  have hp:=(name_part h).1
  unfold G2 at hp
  simp only [Bool.and_eq_true,decide_eq_true_eq] at hp
  have:=hp.1.1.2
  omega
def P6 (f:FB):ByteArray:=(hexM f.2.data.toList++ByteArray.mk #[32])++f.1
theorem lineQ_dl (f:FB):(P6 f).data.toList=(hexM f.2.data.toList).data.toList++32::f.1.data.toList:=by
  unfold P6
  rw [app_dl,app_dl,List.append_assoc]; rfl
theorem lineP_q (f:FB):R8 f=P6 f++lfB:=rfl
theorem lineQ_no {f:FB} (h:R2 f.1=true):∀ x∈(P6 f).data.toList,x≠10:=fun x hx=>by
  rw [lineQ_dl] at hx
  rcases List.mem_append.1 hx with hx | hx
  · exact (hexM_ok _ x hx).1
  · rcases List.mem_cons.1 hx with rfl | hx
    · decide
    · exact name_ok h x hx
theorem trim_line (f:FB):(⟨(Lib.trimSuffix (R8 f).data.toList (mB #[10]).data.toList).toArray⟩:ByteArray)=P6 f:=by
  rw [lineP_q,app_dl]
  show (⟨(Lib.trimSuffix ((P6 f).data.toList++[10]) [10]).toArray⟩:ByteArray)=_
  rw [trim_at,bk_self]
theorem idx_line {f:FB} (h:R2 f.1=true) (r:ByteArray):Lib.indexByte (R8 f++r).data.toList 10=(((P6 f).size:Nat):Int):=by
  rw [lineP_q,app_dl,app_dl,lf_dl,List.append_assoc]
  show Lib.indexByte ((P6 f).data.toList++10::r.data.toList) 10=_
  rw [idx_at (lineQ_no h),Array.length_toList]; rfl
end Go.Pr
namespace Go.Sw
open Go.RowKit
theorem op_in {P:Program} {ops:Array Oper} {Q:D7} {r n:Nat} (hLO:∀ a w,¬ Q .outgrown a w) (hd:noDefer ops.toList=true) {i:Nat} {K K':Act→World→Prop} (hK:∀ a w,K a w→K' a w) {a:Act} {w:World}
    (h:wpOp P ops Q i K a w):wpOpIn (RF r) n P ops Q i K' a w:=by
  unfold wpOp at h
  unfold wpOpIn
  cases ho:ops[i]? with
  | none=>rw [ho] at h; exact hK _ _ h
  | some o =>
    rw [ho] at h
    dsimp only at h ⊢
    by_cases hw:Region.wanted o (yielded ops a.tmps)=true
    · rw [if_pos hw] at h ⊢
      rcases h with h | ⟨_,a0,w0,hq⟩
      · refine ⟨fun _ _=>trivial,?_⟩
        have hm:o∈ops.toList:=by
          obtain ⟨h1,h2⟩:=Array.getElem?_eq_some_iff.1 ho
          rw [← h2]; exact Array.getElem_mem_toList h1
        have h1:=List.all_eq_true.1 hd o hm
        rw [show Oper.semAt (RF r).round a.eval o=execOp a.eval o from Oper.semAt_some r _ _ (fun c e=>by rw [e] at h1; exact Bool.noConfusion h1)]
        exact upon_in hK h
      · exact absurd hq (hLO _ _)
    · rw [if_neg hw] at h ⊢
      exact ⟨fun _ _=>trivial,hK _ _ h⟩
theorem any_in {P:Program} {ops:Array Oper} {Q:D7} {r n:Nat} (hLO:∀ a w,¬ Q .outgrown a w) (hd:noDefer ops.toList=true):∀ (fuel:Nat) (listed:Array Bool) (a:Act) (w:World),wpAny P .any ops Q fuel listed a w→wpAnyIn (RF r) n P .any ops Q fuel listed a w
  | 0,_,_,_,h=>h
  | fuel+1,_,_,_,h=>⟨h.1,fun i hi=>op_in hLO hd (fun _ _ h=>any_in hLO hd fuel _ _ _ h) (h.2 i hi)⟩
end Go.Sw
namespace Go.Sw
open Go.RowKit
def SeqN (P:Program) (gf:Nat) (lb:Array Value) (enc:Nat→Array Value) (N kb:Nat) (ob:Nat→Obj):Prop :=
  ∀ (l:Nat) (J:Nat→World→Prop) (Jx:World→Prop) (W:World),(∀ k W,J k W→J k W.drew)→(∀ k W,J k W→W.heap[kb]? = some (ob k)) →
    (∀ k W,k<N→J k W→YieldAt Fence.wide 7 P l (enc k) (W.putObj kb (ob (k+1))) fun e W'=>(e=.returned (.bool true)∧J (k+1) W')∨(e=.returned (.bool false)∧Jx W')) →
    J 0 W→CallsIn Fence.wide 8 P gf (#[.func (.yield l) #[] #[]]++lb) W fun e W'=>(∃ v,e=.returned v)∧(J N W'∨Jx W')
def RQN {σ:Type} (W0:World) (L:Grp) (D:Grp) (I:Nat→σ→Prop) (HI:Nat→σ→List Grp) (X:Code→List Grp→Prop) (k:Nat):D7
  | .normal,_,w=>∃ y,I k y∧Sat W0 (L::D::HI k y) w
  | .ret,_,w=>∃ H',X .ret H'∧Sat W0 (L::D::H') w
  | .exit id,_,w=>∃ H',X (.exit id) H'∧Sat W0 (L::D::H') w
  | _,_,_=>False
theorem G_rangeN {P:Program} {g:Operand} {ps:Array Tmp} {assign body:Code} {Q:D7} {n:Fr} {E:Env} {W0:World} {H:List Grp} {σ:Type} {gf:Nat} {lb:Array Value} {enc:Nat→Array Value} {NN kb:Nat} {ob:Nat→Obj}
    (hz:n.dl=[]) (hg:evO E [] g=some (.func (.func gf) #[] lb)) (eg:∀ args w,(callFunc gf args).run P w=.ok (.enter gf args) w)
    (hseq:SeqN P gf lb enc NN kb ob)
    (HI:Nat→σ→List Grp) (I:Nat→σ→Prop) (X:Code→List Grp→Prop) (y0:σ) (hI0:I 0 y0) (h0:[(kb,ob 0)]::HI 0 y0=H)
    (hps:∀ k,(enc k).size=ps.size) (hpn:∀ t,t∈ps→t<n.k) (EI:Nat→Env)
    (hassign:∀ r L D k y,k<NN→I k y→GR r 7 P assign (fun e a w=>e=.normal∧Ag n (EI k) a∧Sat W0 (L::D::[(kb,ob (k+1))]::HI k y) w) n (putAll (ps.zip (enc k)).toList E) W0 (L::D::[(kb,ob (k+1))]::HI k y))
    (hbody:∀ r L D k y,k<NN→I k y→GR r 7 P body (RQN W0 L D I (fun k y=>[(kb,ob k)]::HI k y) X (k+1)) n (EI k) W0 (L::D::[(kb,ob (k+1))]::HI k y))
    (hdone:∀ D y,I NN y→N Q .normal ⟨n.k,mkD D⟩ E W0 ([(D,.deferred (some []))]::[(kb,ob NN)]::HI NN y))
    (hstop:∀ D c H',X c H'→G P c Q ⟨n.k,mkD D⟩ E W0 ([(D,.deferred (some []))]::H')) :
    G P (.rangeFunc g ps assign body) Q n E W0 H:=by
  intro a w ha hs
  refine (wpIn_wide (n:=9)).1 (wpIn_rangeFunc fun fn hfn=>?_)
  obtain ⟨rec,hrec⟩:∃ rec:LoopState→Option Code→Loop,rec=fun st pe=>{ state:=st,pending:=pe,fn,tmps:=a.tmps,params:=ps,assign,body,defers:=w.heap.size }:=⟨_,rfl⟩
  obtain ⟨l,hl⟩:∃ l,l=w.heap.size+1:=⟨_,rfl⟩
  have hs0:Sat W0 ([(w.heap.size,.deferred (some []))]::H) (w.alloc (.deferred (some []))):=hs.new rfl rfl rfl rfl
  obtain ⟨W1,hW1⟩:∃ W1,(w.alloc (.deferred (some []))).alloc (.loop (rec .ready none))=W1:=⟨_,rfl⟩
  have hs1:Sat W0 ([(l,.loop (rec .ready none))]::[(w.heap.size,.deferred (some []))]::H) W1:=by
    have h1:Sat W0 ([((w.alloc (.deferred (some []))).heap.size,.loop (rec .ready none))]::[(w.heap.size,.deferred (some []))]::H) W1:=hs0.new (by rw [← hW1]; rfl) (by rw [← hW1]; rfl) (by rw [← hW1]; rfl) (by rw [← hW1]; rfl)
    rwa [show (w.alloc (.deferred (some []))).heap.size=l by rw [World.size_alloc,hl]] at h1
  refine ⟨l,[{ target:=.collected w.heap.size,args:=#[] }],W1,{ target:=.fn (.func gf) lb,args:=#[.func (.yield l) #[] #[]] },W1,gf,#[.func (.yield l) #[] #[]]++lb,W1,?_,?_,?_,?_,fun e=>(by cases e),?_⟩
  · rw [← hW1,hrec,hl]; exact run_enterLoop_outer _ _ _ _ _
  · simp only [resolve,ha.eval hg]
    simp [go_sem]
  · exact fun _ _=>trivial
  · simp [invoke,go_sem,eg]
  refine (hseq l
    (fun k W=>∃ y,I k y∧Sat W0 ([(l,.loop (rec .ready none))]::[(w.heap.size,.deferred (some []))]::[(kb,ob k)]::HI k y) W)
    (fun W=>∃ c H',X c H'∧Sat W0 ([(l,.loop (rec .done (some c)))]::[(w.heap.size,.deferred (some []))]::H') W)
    W1 ?_ ?_ ?_ ⟨y0,hI0,by rw [h0]; exact hs1⟩).mono ?_
  · rintro k W ⟨y,hI,hS⟩
    exact ⟨y,hI,hS.drew⟩
  · rintro k W ⟨y,hI,hS⟩
    exact hS.has (kb,ob k) (by simp)
  · rintro k W hk ⟨y,hI,hS⟩
    have hS2:Sat W0 ([(l,.loop (rec .ready none))]::[(w.heap.size,.deferred (some []))]::[(kb,ob (k+1))]::HI k y) (W.putObj kb (ob (k+1))) :=
      hS.wr (j:=2) (i:=0) rfl rfl (putObj_wr (hS.has (kb,ob k) (by simp)))
    revert hS2
    generalize W.putObj kb (ob (k+1))=W
    intro hS
    have hlk:W.heap[l]? = some (.loop (rec .ready none)):=hS.has (l,_) (by simp)
    have hy:=run_yield (P:=P) (args:=enc k) hlk (by rw [hrec]; exact hps k)
    rw [hrec] at hy
    refine ⟨fn,_,assign,body,hy,roundIn_of_wpIn hfn ?_⟩
    have ha1:Ag n E { tmps:=a.tmps,defers:=[] }:=by
      obtain ⟨h1,h2,h3⟩:=ha
      exact ⟨(ds_none hz).symm,h2,h3⟩
    have ha2:=Ag.puts (ps.zip (enc k)).toList ha1 (fun p hp=>hpn p.1 (by
      rw [Array.toList_zip] at hp
      have:=(List.of_mem_zip (a:=p.1) (b:=p.2) hp).1
      simpa using this))
    rw [Array.foldl_toList] at ha2
    refine wpIn_mono (hassign l _ _ k y hk hI _ W ha2 hS) ?_
    rintro e a1 W2 ⟨rfl,ha3,hS2⟩
    have hlk2:W2.heap[l]? = some (.loop (rec .ready none)):=hS2.has (l,_) (by simp)
    refine ⟨_,run_beginRound hlk2 (by rw [hrec]),?_⟩
    refine wpIn_mono (hbody l _ _ k y hk hI a1 _ ha3 (hS2.put0 (.loop { rec .ready none with state:=.busy }))) ?_
    have fin:∀ (jump:Option Code) (W3:World) (H3:List Grp),Sat W0 ([(l,.loop { rec .ready none with state:=.busy })]::[(w.heap.size,.deferred (some []))]::H3) W3 →
        (Instr.endRound l jump).run P W3=.ok (.bool jump.isNone) (W3.putObj l (.loop (rec (if jump.isNone then .ready else .done) jump))):=fun jump W3 H3 h3=>by
      have hl3:W3.heap[l]? = some (.loop { rec .ready none with state:=.busy }):=h3.has (l,.loop { rec .ready none with state:=.busy }) (by simp)
      have:=run_endRound (P:=P) jump hl3
      rw [hrec] at this ⊢
      exact this
    rintro e a3 W3 hp
    cases e with
    | normal =>
      obtain ⟨y2,hI3,hp⟩:=hp
      exact ⟨_,_,fin none W3 _ hp,.inl ⟨rfl,y2,hI3,hp.put0 _⟩⟩
    | ret =>
      obtain ⟨H',hX,hS3⟩:=hp
      exact ⟨_,_,fin (some .ret) W3 _ hS3,.inr ⟨rfl,.ret,H',hX,hS3.put0 _⟩⟩
    | exit id =>
      obtain ⟨H',hX,hS3⟩:=hp
      exact ⟨_,_,fin (some (.exit id)) W3 _ hS3,.inr ⟨rfl,.exit id,H',hX,hS3.put0 _⟩⟩
    | goto t=>exact hp.elim
    | panic ch=>exact hp.elim
    | outgrown=>exact hp.elim
  · have hA:Ag ⟨n.k,mkD w.heap.size⟩ E { a with defers:=[{ target:=.collected w.heap.size,args:=#[] }]++a.defers }:=by
      obtain ⟨h1,h2,h3⟩:=ha
      exact ⟨by rw [h1,ds_none hz]; rfl,h2,h3⟩
    rintro e W2 ⟨⟨v,rfl⟩,(⟨y,hI3,hi⟩ | ⟨c,H',hX,hi⟩)⟩
    · have hlk:=hi.has (l,.loop (rec .ready none)) (by simp)
      refine ⟨none,_,by have:=run_endLoop (P:=P) hlk (by rw [hrec]; simp); rw [hrec] at this; exact this,?_⟩
      have h6:=(hi.put0 (.loop { rec .ready none with state:=.exhausted })).tail
      rw [hrec] at h6
      exact hdone _ y hI3 _ _ hA h6
    · have hlk:=hi.has (l,.loop (rec .done (some c))) (by simp)
      refine ⟨some c,_,by have:=run_endLoop (P:=P) hlk (by rw [hrec]; simp); rw [hrec] at this; exact this,?_⟩
      have h6:=(hi.put0 (.loop { rec .done (some c) with state:=.exhausted })).tail
      rw [hrec] at h6
      exact (wpIn_wide (n:=9)).2 (hstop _ c H' hX _ _ hA h6)
end Go.Sw
namespace Go.Sw
open Go.RowKit
section
variable {r m : Nat} {P : Program} {Q : D7} {n : Fr} {E : Env} {W0 : World} {H : List Grp}
theorem W5 {id:Nat} {ops:Array Oper} (k:GL false P ops 0 Q n E W0 H) (hd:noDefer ops.toList=true:=by rfl) (hLO:∀ a w,¬ Q .outgrown a w:=by exact fun _ _ h=>h):GR r m P (.region id ops false) Q n E W0 H:=GR_region hd hLO k
theorem GR_regionH {id:Nat} {ops:Array Oper} (L:List Grp) (hm:P.follows .mixedOrders=true) (k:GH P ops L ops.size (Array.replicate ops.size false) Q n E W0 H) (hd:noDefer ops.toList=true:=by rfl):GR r m P (.region id ops true) Q n E W0 H:=by
  intro a w ha hs
  refine wpIn_mono (Q:=Qn (Q .normal)) (wpIn_region_any hm (any_in (fun _ _ h=>by cases h.1) hd _ _ _ _ (wpAny_of_held _ _ _ _ (k a _ ha hs.drew)))) fun e a w h=>?_
  obtain ⟨rfl,h⟩:=h
  exact h
theorem GR_env {c:Code} {E':Env} (h:E=E') (k:GR r m P c Q n E' W0 H):GR r m P c Q n E W0 H:=by subst h; exact k
theorem GR_heq {c:Code} {H':List Grp} (h:H=H') (k:GR r m P c Q n E W0 H'):GR r m P c Q n E W0 H:=by subst h; exact k
theorem GR_condf {c:Operand} {x y:Code} (hc:evO E [] c=some (.bool false)) (k:GR r m P y Q n E W0 H):GR r m P (.cond c x y) Q n E W0 H:=GR_cond (b:=false) hc (fun h=>by cases h) (fun _=>k)
end
end Go.Sw
namespace Go.Proofs.YtdolpaagdpeagaaGreatDoor
open Go.Sw Go.RowKit Go.Shelf
attribute [local go_sem] Oper.semAt_some
theorem ext_l (a b:ByteArray):(a++b).extract 0 a.size=a:=by
  refine ByteArray.ext (Array.toList_inj.1 ?_)
  have h:∀ s:ByteArray,s.toList=s.data.toList:=ByteArray.toList_eq
  rw [← h,← h,Lib.extract_toList,ByteArray.data_append,Array.toList_append,List.drop_zero,Nat.sub_zero,show a.size=a.data.toList.length by rw [Array.length_toList]; rfl,List.take_left,h]
theorem ext_r (a b:ByteArray):(a++b).extract a.size (a++b).size=b:=by
  refine ByteArray.ext (Array.toList_inj.1 ?_)
  have h:∀ s:ByteArray,s.toList=s.data.toList:=ByteArray.toList_eq
  rw [← h,← h,Lib.extract_toList,ByteArray.data_append,Array.toList_append,show a.size=a.data.toList.length by rw [Array.length_toList]; rfl,List.drop_left,ByteArray.size_append,show b.size=b.data.toList.length by rw [Array.length_toList]; rfl,show a.size=a.data.toList.length by rw [Array.length_toList]; rfl,List.take_of_length_le (by omega),h]
theorem set_put {w:World} {kb:Nat} {x v:Value} {t:TypeId} (h:w.heap[kb]? = some (.cells #[x] t)):w.setCell ⟨kb,0,none⟩ v=w.putObj kb (.cells #[v] t):=by
  have e:w.heap.modify kb (fun o=>match o with | Obj.cells c elem frozen=>Obj.cells (c.setIfInBounds 0 v) elem frozen | o=>o)=w.heap.setIfInBounds kb (.cells #[v] t):=by
    refine Array.ext_getElem? fun i=>?_
    by_cases hi:i=kb
    · subst hi
      have hlt:=(Array.getElem?_eq_some_iff.1 h).1
      rw [Array.getElem?_modify,if_pos rfl,h,Array.getElem?_setIfInBounds_self_of_lt hlt]
      rfl
    · rw [Array.getElem?_modify,if_neg (fun e=>hi e.symm),Array.getElem?_setIfInBounds_ne (fun e=>hi e.symm)]
  show ({ w with heap:=_ }:World)={ w with heap:=_ }
  rw [← e]
  rfl
def szW (kb:Nat) (w:World):Nat:=match w.cell? ⟨kb,0,none⟩ with | some (.string s)=>s.size | _=>0
set_option maxRecDepth 100000 in
set_option maxHeartbeats 2000000 in
theorem lines1_in (hix:∀ (s:ByteArray) (w:World),Calls Tryz.prog 58 #[.string s,.int .u8 10] w fun e w'=>e=.returned (.int .i64 (Lib.indexByte s.data.toList 10))∧w'=w)
    (kb N:Nat) (R L:Nat→ByteArray) (hR:∀ k,k<N→R k=L k++R (k+1)) (hL:∀ k,k<N→0<(L k).size) (hi:∀ k,k<N→Lib.indexByte (R k).data.toList 10=(((L k).size - 1:Nat):Int)) (hN:(R N).size=0) (hs:∀ k,k≤N→(R k).size≤1000000000)
    (l:Nat) (J:Nat→World→Prop) (Jx:World→Prop) (hJd:∀ k W,J k W→J k W.drew) (hJk:∀ k W,J k W→W.heap[kb]? = some (.cells #[.string (R k)] 9))
    (hY:∀ k W,k<N→J k W→YieldAt Fence.wide 7 Tryz.prog l #[.string (L k)] (W.putObj kb (.cells #[.string (R (k+1))] 9)) fun e W'=>(e=.returned (.bool true)∧J (k+1) W')∨(e=.returned (.bool false)∧Jx W'))
    (W:World) (h0:J 0 W) :
    CallsIn Fence.wide 8 Tryz.prog 57 #[.func (.yield l) #[] #[],.pointer (some ⟨kb,0,none⟩)] W fun e W'=>(∃ v,e=.returned v)∧(J N W'∨Jx W'):=by
  refine callsIn_of_wp Tryz.func57 rfl trivial ?_ rfl
  simp only [Tryz.ntmps57,List.size_toArray,List.length_cons,List.length_nil,Nat.reduceAdd,Nat.reduceSub,Array.replicate_succ,Array.replicate_zero,List.push_toArray,List.append_toArray,List.nil_append,List.cons_append]
  gi_wp2
  gi_loopw [] (fun wr=>∃ (k:Nat),k≤N∧J k wr)
    (fun wr=>szW kb wr)
  case atStart=>exact ⟨0,Nat.zero_le _,h0⟩
  case round =>
    obtain ⟨k,hk,hJs⟩:=hrel
    have hc1:=hJk _ _ hJs
    have hcx:wr.cell? ⟨kb,0,none⟩=some (.string (R k)):=by unfold World.cell?; rw [hc1]; rfl
    by_cases hlt:k<N
    · have hpos:0<(R k).size:=by rw [hR k hlt,ByteArray.size_append]; have:=hL k hlt; omega
      have hsz:(L k).size≤(R k).size:=by rw [hR k hlt,ByteArray.size_append]; omega
      have hz1:(L k).size - 1+1=(L k).size:=by have:=hL k hlt; omega
      have e1:(R k).extract 0 ((L k).size - 1+1)=L k:=by rw [hz1,hR k hlt]; exact ext_l _ _
      have e2:(R k).extract ((L k).size - 1+1) (R k).size=R (k+1):=by rw [hz1,hR k hlt]; exact ext_r _ _
      have hfz:wr.frozen? ⟨kb,0,none⟩=false:=by unfold World.frozen?; simp [hc1]
      have hLk:=hL k hlt
      have hik:=hi k hlt
      have hsk:=hs k hk
      have e1':(R k).extract 0 (L k).size=L k:=hz1 ▸ e1
      have e2':(R k).extract (L k).size (R k).size=R (k+1):=hz1 ▸ e2
      have hYd:=hY k wr.drew hlt (hJd _ _ hJs)
      have hw2:wr.drew.putObj kb (.cells #[.string (R (k+1))] 9)=(wr.setCell ⟨kb,0,none⟩ (.string (R (k+1)))).drew:=by
        rw [set_put hc1]; rfl
      rw [hw2] at hYd
      obtain ⟨fn,tmps,assign,body,hy,hRd⟩:=hYd
      have hJk2:=hJk (k+1)
      have hszk:(R (k+1)).size<(R k).size:=by rw [hR k hlt,ByteArray.size_append]; omega
      clear hR hi
      have hcl:=(callsIn_wide (n:=7)).2 (hix (R k) wr)
      rw [hik] at hcl
      gi_wp2
      refine ⟨trivial,hcl.mono ?_⟩
      rintro e w' ⟨rfl,rfl⟩
      gi_wp2
      have hmix:Tryz.prog.follows .mixedOrders=true:=by kernel_rfl
      gi_region
      gi_wp2
      refine hRd.mono ?_
      rintro e W3 (⟨rfl,hJ3⟩ | ⟨rfl,hJx3⟩)
      · have hc3:=hJk2 _ hJ3
        have hcx3:W3.cell? ⟨kb,0,none⟩=some (.string (R (k+1))):=by unfold World.cell?; rw [hc3]; rfl
        gi_wp2
        go_roundw
        case rel=>exact ⟨k+1,hlt,hJ3⟩
        case measure=>unfold szW; rw [hcx,hcx3]; exact hszk
      · gi_wp2
        refine bodyPost_ret (results_none rfl _ _ _) rfl ?_
        exact ⟨⟨_,rfl⟩,.inr hJx3⟩
    · obtain rfl:k=N:=by omega
      have hcz:wr.cell? ⟨kb,0,none⟩=some (.string eB):=by rw [hcx]; rw [show R k=ByteArray.mk #[] from ByteArray.ext (by have:(R k).data.size=0:=hN; exact Array.eq_empty_of_size_eq_zero this)]
      clear hcx
      gi_wp2
      go_end0
      exact ⟨⟨_,rfl⟩,.inl hJs⟩
theorem lines_seq (hix:∀ (s:ByteArray) (w:World),Calls Tryz.prog 58 #[.string s,.int .u8 10] w fun e w'=>e=.returned (.int .i64 (Lib.indexByte s.data.toList 10))∧w'=w)
    (kb N:Nat) (R L:Nat→ByteArray) (hR:∀ k,k<N→R k=L k++R (k+1)) (hL:∀ k,k<N→0<(L k).size) (hi:∀ k,k<N→Lib.indexByte (R k).data.toList 10=(((L k).size - 1:Nat):Int)) (hN:(R N).size=0) (hs:∀ k,k≤N→(R k).size≤1000000000) :
    SeqN Tryz.prog 57 #[.pointer (some ⟨kb,0,none⟩)] (fun k=>#[.string (L k)]) N kb (fun k=>.cells #[.string (R k)] 9):=fun l J Jx W hJd hJk hY h0 =>
  lines1_in hix kb N R L hR hL hi hN hs l J Jx hJd hJk hY W h0
end Go.Proofs.YtdolpaagdpeagaaGreatDoor
namespace Go.Sw
def isIfT (P:Program) (t:TypeId):Bool:=match P.underlying t with | some (.interface _)=>true | _=>false
theorem isIfT_ms {P:Program} {t:TypeId} (h:isIfT P t=true):∃ ms,P.underlying t=some (.interface ms):=by
  unfold isIfT at h; split at h
  · rename_i ms he; exact ⟨ms,he⟩
  · cases h
theorem run_ifNil {P:Program} (w:World) {t:TypeId} {ms:Array (String × TypeId)} {v:Value} {e ne:Bool} (ht:P.underlying t=some (.interface ms)) (hv:(v=.nilIface∧e=true)∨((∃ a b,v=.iface a b)∧e=false)) :
    (binOp (if ne then .neq else .eql) t v .nilIface).run P w=.ok (.bool (ne ^^ e)) w:=by
  have h:∀ d:Nat,(Op.equalIn (d+1) t v .nilIface).run P w=.ok e w:=fun d=>by
    rcases hv with ⟨rfl,rfl⟩ | ⟨⟨a,b,rfl⟩,rfl⟩ <;> simp [Op.equalIn,run_underlying ht]
  cases ne
  · show (binOp .eql t v .nilIface).run P w=_
    rcases hv with ⟨rfl,rfl⟩ | ⟨⟨a,b,rfl⟩,rfl⟩ <;> (simp only [binOp]; simp [Op.equal,Op.maxDepth,h 9999])
  · show (binOp .neq t v .nilIface).run P w=_
    rcases hv with ⟨rfl,rfl⟩ | ⟨⟨a,b,rfl⟩,rfl⟩ <;> (simp only [binOp]; simp [Op.equal,Op.maxDepth,h 9999])
theorem GL_ifNil {d:Bool} {P:Program} {ops:Array Oper} {i:Nat} {Q:D7} {n:Fr} {E:Env} {W0:World} {H:List Grp} {o:Oper} {ch:List (Nat × Bool)} {t t2:TypeId} {x:Operand} {v:Value} {e:Bool} (ne:Bool)
    (ho:ops[i]? = some o) (hop:o.op=.binOp (if ne then .neq else .eql) t x (.const .nilIface) t2) (hx:evO E ch x=some v) (ht:isIfT P t=true) (hv:(v=.nilIface∧e=true)∨((∃ a b,v=.iface a b)∧e=false))
    (hch:D4 ops E o.guard=some ch) (hd:F5 n ch o.dst=true) (hk:J3 E ch=true)
    (k:GL d P ops (i+1) Q n (Env.put E o.dst ch (.bool (ne ^^ e))) W0 H):GL d P ops i Q n E W0 H:=by
  refine I2 ho hch hd hk (fun r hr _ w hsat=>?_) k
  unfold execOp
  simp only [hop]
  rw [hr _ _ hx,hr (.const .nilIface) .nilIface rfl]
  obtain ⟨ms,ht⟩:=isIfT_ms ht
  have:=run_ifNil (P:=P) w (ne:=ne) ht hv
  have hg:(eqGuard (if ne then .neq else .eql) t x (.const .nilIface) v .nilIface).run P w=.ok () w:=by
    rcases hv with ⟨rfl,rfl⟩ | ⟨⟨a,b,rfl⟩,rfl⟩ <;> cases ne <;> cases x <;> rfl
  simp only [Sem.run_bind,hg,this,Result.andThen_ok]
  exact ⟨rfl,rfl⟩
end Go.Sw
namespace Go.Proofs.YtdolpaagdpeagaaGreatDoor
open Go.Sw Go.Lib Go.Vf Go.Sha Go.Pr Go.RowKit
theorem below_eq {w w':World} (h:w'=w):Below w.heap.size w w':=by rw [h]; exact ⟨rfl,rfl,rfl,Nat.le_refl _,fun _ _=>rfl⟩
theorem idxOne (s:ByteArray) (W0:World) (H:List Grp):Tri Tryz.prog 84 #[.string s,.string (mB #[32])] W0 H (fun v H'=>v=.int .i64 (Lib.indexByte s.data.toList 32)∧H'=H) :=
  X9 (fun w _=>(Tryz.stringslite_Index_one s 32 w).mono fun _ _ ⟨h1,h2⟩=>⟨h1,below_eq h2⟩)
theorem ixB (s:ByteArray) (w:World):Calls Tryz.prog 58 #[.string s,.int .u8 10] w fun e w'=>e=.returned (.int .i64 (Lib.indexByte s.data.toList 10))∧w'=w:=Tryz.strings_IndexByte s 10 w
theorem trimL (f:FB) (hz:(R8 f).size≤1000000000) (W0:World) (H:List Grp):Tri Tryz.prog 30 #[.string (R8 f),.string (mB #[10])] W0 H (fun v H'=>v=.string (P6 f)∧H'=H) :=
  X9 (fun w _=>(Tryz.strings_TrimSuffix (R8 f) (mB #[10]) w (by omega)).mono fun _ _ ⟨h1,h2⟩=>⟨by rw [h1,trim_line],below_eq h2⟩)
theorem gl_dl (n:Int):(gB n++lfB).data.toList=103::(itB n++lfB).data.toList:=by
  unfold gB
  rw [app_dl,app_dl,app_dl]; rfl
theorem cutpG (n:Int) (W0:World) (H:List Grp):Tri Tryz.prog 55 #[.string (gB n++lfB),.string (mB #[103])] W0 H (fun v H'=>v=.tuple #[.string (itB n++lfB),.bool true]∧H'=H) :=
  X9 (fun w _=>(Tryz.strings_CutPrefix (gB n++lfB) (mB #[103]) w).mono fun _ _ ⟨h1,h2⟩=>⟨by
    rw [h1,gl_dl]
    have e:Lib.hasPrefix (103::(itB n++lfB).data.toList) (mB #[103]).data.toList=true:=by
      show List.isPrefixOf [103] (103::(itB n++lfB).data.toList)=true
      simp [List.isPrefixOf]
    rw [show Lib.trimPrefix (103::(itB n++lfB).data.toList) (mB #[103]).data.toList=(itB n++lfB).data.toList from by unfold Lib.trimPrefix; rw [if_pos e]; rfl,e,bk_self],below_eq h2⟩)
theorem trimI (n:Int) (h:0≤n∧n<100) (W0:World) (H:List Grp):Tri Tryz.prog 30 #[.string (itB n++lfB),.string (mB #[10])] W0 H (fun v H'=>v=.string (itB n)∧H'=H) :=
  X9 (fun w _=>(Tryz.strings_TrimSuffix (itB n++lfB) (mB #[10]) w (by have:=it_size h; rw [ByteArray.size_append]; show (itB n).size+1≤_; omega)).mono fun _ _ ⟨h1,h2⟩=>⟨by
    rw [h1,app_dl]
    show Ending.returned (Value.string ⟨(Lib.trimSuffix ((itB n).data.toList++[10]) [10]).toArray⟩)=_
    rw [trim_at,bk_self],below_eq h2⟩)
theorem atoi_dig:∀ m:Fin 100,Lib.atoi (Lib.decDigits m.val)=some (m.val:Int):=by decide +kernel
theorem atoiI (n:Int) (h:0≤n∧n<100) (W0:World) (H:List Grp):Tri Tryz.prog 56 #[.string (itB n)] W0 H (fun v H'=>v=.tuple #[.int .i64 n,.nilIface]∧H'=H):=by
  have e:Lib.atoi (itB n).data.toList=some n:=by
    obtain ⟨m,rfl⟩:=Int.eq_ofNat_of_zero_le h.1
    have:=atoi_dig ⟨m,by omega⟩
    rw [it_dig h.1]; simpa using this
  exact X9 (fun w _=>(Tryz.strconv_Atoi (itB n) n (by have:=it_size h; omega) e w).mono fun _ _ ⟨h1,t,h2⟩=>⟨h1,by subst h2; exact Lib.bytesWorld_below w 5 t⟩)
theorem drop_line {F:List FB} {k:Nat} (h:k<F.length):C6 (F.drop k)=R8 (F.getD k default)++C6 (F.drop (k+1)):=by
  rw [List.drop_eq_getElem_cons h,List.getD,List.getElem?_eq_getElem h]; rfl
theorem drop_le {F:List FB} {z:Nat} (hz:∀ f∈F,f.1.size≤z) (hn:F.length≤1000) (hzz:z≤1000) (k:Nat):(C6 (F.drop k)).size≤1000000000:=by
  have h1:=A0i (F:=F.drop k) (z:=z) fun f hf=>hz f (List.mem_of_mem_drop hf)
  have h2:(F.drop k).length≤F.length:=by rw [List.length_drop]; omega
  have h3:(F.drop k).length * (z+66)≤1000 * 1066:=Nat.mul_le_mul (by omega) (by omega)
  omega
theorem linesI_seq (kb:Nat) (F:List FB) (hnm:∀ f∈F,R2 f.1=true) (hn:F.length≤1000) :
    SeqN Tryz.prog 57 #[.pointer (some ⟨kb,0,none⟩)] (fun k=>#[.string (R8 (F.getD k default))]) F.length kb (fun k=>.cells #[.string (C6 (F.drop k))] 9):=by
  have hm:∀ k,k<F.length→R2 (F.getD k default).1=true:=fun k hk=>by
    rw [List.getD,List.getElem?_eq_getElem hk]; exact hnm _ (List.getElem_mem hk)
  refine lines_seq ixB kb F.length (fun k=>C6 (F.drop k)) (fun k=>R8 (F.getD k default)) (fun k hk=>drop_line hk) (fun k hk=>by rw [Z8]; omega) (fun k hk=>?_) (by rw [List.drop_length]; rfl) (fun k _=>drop_le (z:=80) (fun f hf=>X4 (hnm f hf)) hn (by omega) k)
  rw [drop_line hk,idx_line (hm k hk),lineP_q,ByteArray.size_append]
  show ((P6 (F.getD k default)).size:Int)=(((P6 (F.getD k default)).size+1 - 1:Nat):Int)
  omega
theorem cutL_a (f:FB):(P6 f).extract 0 64=hexM f.2.data.toList:=by
  have h:=ext_l (hexM f.2.data.toList) (ByteArray.mk #[32]++f.1)
  rw [Q6,← ByteArray.append_assoc] at h; exact h
theorem cutL_b (f:FB):(P6 f).extract 65 (P6 f).size=f.1:=by
  have h:=ext_r (hexM f.2.data.toList++ByteArray.mk #[32]) f.1
  rwa [show (hexM f.2.data.toList++ByteArray.mk #[32]).size=65 by rw [ByteArray.size_append,Q6]; rfl] at h
theorem cutL_ (f:FB) (hz:(P6 f).size≤1000000000) (W0:World) (H:List Grp):Tri Tryz.prog 59 #[.string (P6 f),.string (mB #[32])] W0 H (fun v H'=>v=.tuple #[.string (hexM f.2.data.toList),.string f.1,.bool true]∧H'=H):=by
 have hcx:Lib.indexByte (P6 f).data.toList 32=((64:Nat):Int):=by rw [lineQ_dl,idx_at fun x hx=>(hexM_ok _ x hx).2,← Q6 f.2.data.toList,Array.length_toList]; rfl
 have hqs:(P6 f).size=65+f.1.size:=by unfold P6; rw [ByteArray.size_append,ByteArray.size_append,Q6]; rfl
 refine D6 23 Tryz.func59 ?_
 refine A2 (G_p [0,0,0] [0,1] (k:=A1 (A2 (A2 (A3 (A5 (j:=2) [0,0] (k:=G1 Tryz.func84 (idxOne (P6 f) _ _) (Y1 10 (x:=.int .i64 (Lib.indexByte (P6 f).data.toList 32)) (y:=.int .i64 64) (by rw [hcx]; rfl) ?_))))))))
 refine B5 [0] [0,1,7] (k:=A1 (A2 (G_p [0,0] [0,1,7,12] (k:=A1 (G6 kr (A2 (K0 (k:=A5 (j:=2) [0,0] (k:=?_)))))))))
 refine GL_slq (P6 f) 0 64 (by first | exact ⟨by omega,by omega,by omega⟩ | (intro _; exact ⟨by omega,by omega,by omega⟩)) (A5 (j:=8) [0,0,0,0,0] (k:=F0 20 (64+1) (by omega) (by omega) kr (GL_slq (P6 f) (64+1) ((P6 f).size:Int) (by first | exact ⟨by omega,by omega,by omega⟩ | (intro _; exact ⟨by omega,by omega,by omega⟩)) (B5 [0,0,0] [4,5,6] (k:=A1 (C8 (C0 (C5 [.tmp 4,.tmp 5,.tmp 6] [.string ((P6 f).extract 0 64),.string ((P6 f).extract (Int.toNat (64+1)) (P6 f).size),.bool true] (k:=?_)))))))))
 have e2:(P6 f).extract ((64:Int)+1).toNat (P6 f).size=f.1:=cutL_b f
 exact ⟨by rw [cutL_a,e2]; rfl,rfl⟩
theorem cutS_ (f:FB) (hz:(P6 f).size≤1000000000) (W0:World) (H:List Grp):Tri Tryz.prog 29 #[.string (P6 f),.string (mB #[32])] W0 H (fun v H'=>v=.tuple #[.string (hexM f.2.data.toList),.string f.1,.bool true]∧H'=H):=by
 refine D6 13 Tryz.func29 ?_
 refine A2 (G_p [0,0,0] [0,1] (k:=A1 (A2 (A3 (A5 (j:=2) [0,0] (k:=G1 Tryz.func59 (cutL_ f hz _ _) (B5 [0,0,0,0,0,0] [4,5,6] (k:=A1 ?_))))))))
 refine C8 (C5 [.tmp 4,.tmp 5,.tmp 6] [.string (hexM f.2.data.toList),.string f.1,.bool true] (k:=?_))
 exact ⟨rfl,rfl⟩
theorem pointed_ (n:Int) (hn:1≤n∧n<100) (W0:World) (H:List Grp):Tri Tryz.prog 27 #[.string (gB n++lfB)] W0 H (fun v H'=>v=.int .i64 n∧H'=H):=by
 refine D6 37 Tryz.func27 ?_
 refine A2 (B9 (E':=[⟨0,[],.string (gB n++lfB)⟩]) [0] [0] (k:=A1 (A2 (A3 (A5 (j:=1) [0] (k:=G1 Tryz.func55 (cutpG n _ _) (B5 [0,0,0,0,0] [0,3] (k:=A1 ?_))))))))
 refine A2 (A3 (A5 (j:=1) [0] (k:=G1 Tryz.func30 (trimI n ⟨by omega,by omega⟩ _ _) (B5 [0] [0,3] (k:=A1 (A2 (A3 (A5 (j:=1) [0] (k:=?_)))))))))
 refine G1 Tryz.func56 (atoiI n ⟨by omega,by omega⟩ _ _) (B5 [0,0,0,0,0] [0,5,6] (k:=A1 (A2 (A2 (A3 (A5 (j:=1) [0] (k:=GL_ifNil true (i:=1) (ch:=[]) (v:=.nilIface) (e:=true) rfl rfl kr kr (.inl ⟨rfl,rfl⟩) kr kr kr (A5 (j:=5) [0,0,0] (k:=?_)))))))))
 refine L1 23 [(21,false)] (x:=.bool (decide (n<1))) (y:=.bool false) (by rw [show decide (n<1)=false from decide_eq_false (by omega)]) (A5 (j:=9) [3,0,0,0] (k:=L1 27 [(25,false)] (x:=.bool (decide (n > 1000000000))) (y:=.bool false) (by rw [show decide (n > 1000000000)=false from decide_eq_false (by omega)]) (A5 (j:=12) [3,0,0] (k:=A0p [(29,false)] Tryz.func26 (fun hc=>dir_ n ⟨by omega,by omega⟩ _ _) (GL_concat (i:=13) (ch:=[(29,false)]) (s:=(gB n)) (u:=(mB #[10])) rfl rfl kr kr kr kr kr (fun hc=>by first | (intro _; have:=gB_size (n:=n) ⟨by omega,by omega⟩; show (gB n).size+1≤_; omega) | (have:=gB_size (n:=n) ⟨by omega,by omega⟩; show (gB n).size+1≤_; omega)) (B5 [0,0,3] [5,35] (k:=A1 (D2 (b:=!(((gB n)++(mB #[10])).toList==(gB n++lfB).toList)) kr (fun hc1=>?_) (fun hc1=>?_)))))))))
 ·
  exact absurd hc1 (by show ¬ (!((gB n++lfB).toList==(gB n++lfB).toList))=true; simp)
 ·
  skip
  refine B6 (A1 (A2 (B9 (E':=[⟨2,[],.int .i64 n⟩]) [0,0] [2] (k:=A1 (C8 (C5 [.tmp 2] [.int .i64 n] (k:=?_)))))))
  exact ⟨rfl,rfl⟩
theorem linesI_ (s:ByteArray) (W0:World) (H:List Grp):Tri Tryz.prog 28 #[.string s] W0 H (fun v H'=>∃ kb,v=.func (.func 57) #[] #[pt kb]∧H'=[(kb,.cells #[.string s] 9 (0,0))]::H):=by
 refine D6 4 Tryz.func28 ?_
 refine A2 (A3 (O9 (.string s) (fun b1=>D5 (E':=[⟨1,[],pt b1⟩]) [0] [1] (k:=A1 (A2 (B9 (E':=[⟨2,[],.func (.func 57) #[] #[pt b1]⟩]) [0,0] [2] (k:=A1 (C8 ?_))))))))
 refine C5 [.tmp 2] [.func (.func 57) #[] #[pt b1]] (k:=?_)
 exact ⟨b1,rfl,rfl⟩
end Go.Proofs.YtdolpaagdpeagaaGreatDoor
namespace Go.Pr
open Go.Sw Go.Vf Go.Lib Go.Sort Go.Proofs Go.Proofs.YtdolpaagdpeagaaGreatDoor
def SrtF (l:List FB):Prop:=l.Pairwise fun a b=>¬ keyF b<keyF a
def badF (l:List FB) (m:Nat):Bool:=!(R2 (l.getD m default).1)||(decide (0<m)&&(l.getD (m - 1) default).1.toList==(l.getD m default).1.toList)
theorem badF_cons {f:FB} {l:List FB} {m:Nat}:badF (f::l) (m+2)=badF l (m+1):=by
  unfold badF
  simp
theorem twoP_bad:∀ {l:List FB},twoP l=true ↔ ∀ m,m<l.length→badF l m=false
  | []=>⟨fun _ m h=>absurd h (Nat.not_lt_zero m),fun _=>rfl⟩
  | [f]=>by
    constructor
    · intro h m hm
      have:m=0:=by simp at hm; omega
      subst this
      show (!(R2 f.1)||(decide (0<0)&&_))=false
      rw [show R2 f.1=true from h]; rfl
    · intro h
      have:=h 0 (by simp)
      unfold badF at this
      simp at this
      exact this
  | f::g::r=>by
    have ih:=twoP_bad (l:=g::r)
    unfold twoP
    rw [Bool.and_eq_true,Bool.and_eq_true,ih]
    constructor
    · rintro ⟨h1,h2,h3⟩ m hm
      match m with
      | 0=>unfold badF; simp [h1]
      | 1 =>
        have:=h3 0 (by simp)
        unfold badF at this ⊢
        simp at this h2 ⊢
        exact ⟨this,h2⟩
      | m+2=>rw [badF_cons]; exact h3 (m+1) (by simpa using hm)
    · intro h
      have h0:=h 0 (by simp)
      have h1:=h 1 (by simp)
      unfold badF at h0 h1
      simp at h0 h1
      refine ⟨h0,by simpa using h1.2,fun m hm=>?_⟩
      match m with
      | 0=>unfold badF; simp [h1.1]
      | m+1=>have:=h (m+2) (by simpa using hm); rwa [badF_cons] at this
theorem nodup_fst:∀ {l:List FB},(l.map Prod.fst).Nodup→∀ {a b:FB},a∈l→b∈l→a.1=b.1→a=b
  | [],_,_,_,h,_,_=>absurd h List.not_mem_nil
  | f::l,hn,a,b,ha,hb,e=>by
    rw [List.map_cons,List.nodup_cons] at hn
    rcases List.mem_cons.1 ha with h1 | h1 <;> rcases List.mem_cons.1 hb with h2 | h2
    · rw [h1,h2]
    · exact absurd (by rw [← h1,e]; exact List.mem_map_of_mem h2) hn.1
    · exact absurd (by rw [← h2,← e]; exact List.mem_map_of_mem h1) hn.1
    · exact nodup_fst hn.2 h1 h2 e
theorem srt_eq {s t:List FB} (hs:SrtF s) (ht:SrtF t) (hp:s.Perm t) (hn:(t.map Prod.fst).Nodup):s=t:=by
  refine List.Perm.eq_of_pairwise (le:=fun a b=>¬ keyF b<keyF a) (fun a b ha hb h1 h2=>?_) hs ht hp
  have hk:keyF a=keyF b:=List.le_antisymm (List.not_lt.1 h1) (List.not_lt.1 h2)
  have ha':=hp.mem_iff.1 ha
  exact nodup_fst hn ha' hb (key_inj hk)
theorem sorted_told {F s:List FB} (hp:s.Perm F) (hs:SrtF s) (hb:∀ m,m<s.length→badF s m=false):F8 F=some s:=by
  obtain ⟨h2,h3⟩:=twoP_spec (twoP_bad.2 hb) hs
  have e:sortP F=s:=srt_eq (sortP_asc F) hs ((sortP_perm F).trans hp.symm) (A0c h2)
  unfold F8
  rw [e,if_pos (twoP_bad.2 hb)]
theorem sorted_not {F s:List FB} (hp:s.Perm F) (hs:SrtF s) {m:Nat} (hm:m<s.length) (hb:badF s m=true):F8 F=none:=by
  cases h:F8 F with
  | none=>rfl
  | some t =>
    have ho:=K3 h
    have ht:SrtF t:=ho.asc.imp fun {a b} h1 h2=>List.lt_asymm h1 h2
    have e:s=t:=srt_eq hs ht (hp.trans ho.perm.symm) (A0c ho.asc)
    have hw:twoP t=true:=by
      unfold F8 at h
      split at h
      · rename_i h1; injection h with h; rw [← h]; exact h1
      · cases h
    rw [e] at hb hm
    rw [twoP_bad.1 hw m hm] at hb
    cases hb
end Go.Pr
namespace Go.Proofs.YtdolpaagdpeagaaGreatDoor
open Go.Sw Go.Lib Go.Vf Go.Sha Go.Pr Go.RowKit
theorem getD_fst (l:List SE) (m:Nat):(l.map Prod.fst).getD m default=(l.getD m default).1:=by
  rw [List.getD_eq_getElem?_getD,List.getD_eq_getElem?_getD,List.getElem?_map]
  cases l[m]? <;> rfl
theorem bad_map (l:List SE) (m:Nat):badZ l m=badF (l.map Prod.fst) m:=by
  unfold badZ badF
  rw [getD_fst,getD_fst]
theorem srt_map {l:List SE} (h:SrtZ l):SrtF (l.map Prod.fst):=by
  unfold SrtF SrtZ at *
  rw [List.pairwise_map]
  refine h.imp fun {a b} hab=>?_
  unfold ltZ at hab
  rw [Y6,decide_eq_false_iff_not] at hab
  exact hab
theorem z_told {F:List FB} {l zl:List SE} (hm:zl.map Prod.fst=F) (hp:l.Perm zl) (hs:SrtZ l) (hok:OkZ l F.length):F8 F=some (l.map Prod.fst):=by
  have hp2:(l.map Prod.fst).Perm F:=by rw [← hm]; exact hp.map _
  refine sorted_told hp2 (srt_map hs) fun m h=>?_
  rw [← bad_map]
  exact hok m (by rw [← hp2.length_eq]; exact h)
theorem z_not {F:List FB} {l zl:List SE} (hm:zl.map Prod.fst=F) (hp:l.Perm zl) (hs:SrtZ l) {m:Nat} (hl:m<F.length) (hb:badZ l m=true):F8 F=none:=by
  have hp2:(l.map Prod.fst).Perm F:=by rw [← hm]; exact hp.map _
  exact sorted_not hp2 (srt_map hs) (by rw [hp2.length_eq]; exact hl) (by rw [← bad_map]; exact hb)
theorem z_all_perm {S:Nat→Obj→Prop} {l zl:List SE} (hp:l.Perm zl) (h:∀ z∈zl,ZOk S z):∀ z∈l,ZOk S z:=fun z hz=>h z (hp.mem_iff.1 hz)
end Go.Proofs.YtdolpaagdpeagaaGreatDoor
namespace Go.Proofs.YtdolpaagdpeagaaGreatDoor
open Go.Sw Go.Lib Go.Vf Go.Sha Go.Pr Go.RowKit
theorem dReadZ {s:DS} {M:DM} {b:ByteArray} {e:Int} (h:s.ok M) (hm:∀ B∈M.bodies,B.now.size≤10000000) (d:Nat) (path:ByteArray) (K:List Grp) (W0:World) (H:List Grp) (he:P1 M path=(b,e)) :
    Tri Tryz.prog 21 #[.pointer (some ⟨d,0,none⟩),.string path] W0 (K++(s.G d M++H)) (fun v H'=>∃ a c g,v=.tuple #[.slice a b.size c,.int .i64 e]∧Sh a b.size c∧Rd (inG g) a (u8s b.data.toList)∧H'=g::(K++(s.G d M++H))):=by
  have:=cRead h hm d path W0 (K++H)
  rw [he] at this
  refine Tri.heap (fun _ hw=>A0k hw) (Tri.post this fun v H1 ⟨x,g,hv,ho,hH⟩=>?_)
  obtain ⟨a,c,rfl,hr,hs⟩:=clone_z ho
  refine ⟨_,⟨a,c,g,hv,hs,hr,rfl⟩,fun w hw=>?_⟩
  rw [hH] at hw
  refine A8 hw fun _ x=>?_
  simp only [List.flatten_cons,List.flatten_append,List.count_append]
  omega
structure ReadOk (n:Int) (F:List FB) (M:DM):Prop where
  cur:P1 M G7=(gB n++lfB,0)
  man:P1 M (inG n maniB)=(C6 F,0)
  files:∀ f∈F,P1 M (inG n f.1)=(f.2,0)
  name:∀ f∈F,R2 f.1=true
  asc:Asc F
  len:F.length≤20
  size:∀ f∈F,f.2.size≤1000000
theorem asc_at {F:List FB} (h:Asc F) {k:Nat} (h0:0<k) (hk:k<F.length):Op.bytesLess (F.getD (k - 1) default).1.toList (F.getD k default).1.toList=true:=by
  rw [Y6,decide_eq_true_eq,List.getD,List.getD,List.getElem?_eq_getElem hk,List.getElem?_eq_getElem (by omega:k - 1<F.length)]
  exact (List.pairwise_iff_getElem.1 h) (k - 1) k (by omega) hk (by omega)
theorem z_take {F:List FB} {zl:List SE} {k:Nat} (h:zl.map Prod.fst=F.take k) (hk:k≤F.length):zl.length=k:=by
  have:=congrArg List.length h
  rw [List.length_map,List.length_take] at this; omega
theorem z_fst {F:List FB} {zl:List SE} {k m:Nat} (h:zl.map Prod.fst=F.take k) (_:k≤F.length) (hm:m<k):(zl.getD m default).1=F.getD m default:=by
  rw [← getD_fst,h,List.getD,List.getElem?_take_of_lt hm]; rfl
theorem z_nextD {F:List FB} {zl:List SE} {k:Nat} {f:FB} {w:Option Addr × Nat} (h:zl.map Prod.fst=F.take k) (hk:k<F.length) (hf:f=F.getD k default):(zl++[(f,w)]).map Prod.fst=F.take (k+1) :=
  z_next h hk (by rw [hf,List.getD,List.getElem?_eq_getElem hk]; rfl)
theorem at_z {W0:World} {Z X:List Grp} {y:Nat} {o:Obj} (h:inZ Z y o):At W0 (Z++X) y o:=.inr (by rw [List.flatten_append]; exact List.mem_append_left _ h)
theorem read_ {s:DS} {M:DM} (hs:s.ok M) (hM:∀ B∈M.bodies,B.now.size≤10000000) (K:List Grp) (d:Nat) (n:Int) (hn:1≤n∧n<100) (F:List FB) (hr:ReadOk n F M) (W0:World) (H:List Grp):Tri Tryz.prog 12 #[pt d] W0 (K++(s.G d M++H)) (fun v H'=>∃ (zl:List SE) (Z:List Grp) (g:Grp) (a:Option Addr) (c:Nat),v=.tuple #[.slice a F.length c,.int .i64 n,.int .i64 0]∧zl.map Prod.fst=F∧(∀ z∈zl,ZOk (inZ Z) z)∧Go.Sw.Own 34 2 (.slice a F.length c) g F.length (C1 zl)∧H'=g::((Z++K)++(s.G d M++H))):=by
 have hgn:=gB_size (n:=n) ⟨by omega,by omega⟩
 have hr20:=hr.len
 refine Tri_ofM (args:=[pt d]) (n:=98) Tryz.func12 rfl rfl (Nat.le_of_ble_eq_true rfl) ?_
 refine A2 (A3 (O9 (pt d) (fun b1=>O0 (.slice none 0 0) (fun b2=>?_))))
 refine O0 (.int .i64 0) (fun b3=>O0 (.int .i64 0) (fun b4=>?_))
 refine B5 [] [1,2,3,4] (k:=A1 (A2 (A2 (A3 (D0 3 0 rfl rfl (B5 [0] [1,2,3,4,17] (k:=A1 (D9 kr ?_))))))))
 refine B6 (A1 (A2 (A3 (D0 3 0 rfl rfl (E4 Tryz.func21 (dReadZ (b:=(gB n++lfB)) hs hM d (mB #[99,117,114,114,101,110,116]) ([[(b4,.cells #[.int .i64 0] 28 (0,0))],[(b3,.cells #[.int .i64 0] 3 (0,0))],[(b2,.cells #[.slice none 0 0] 35 (0,0))],[(b1,.cells #[pt d] 25 (0,0))]]++K) _ H hr.cur) ?_)))))
 rintro _ _ ⟨ra5,rc6,g7,rfl,hsh8,hrd9,rfl⟩
 refine B5 [0,0,0,0,0] [1,2,3,4,5,6] (k:=A1 (A2 (A2 (G_p [0,0] [1,2,3,4,5,24] (k:=A1 (D9 kr (B6 (A1 ?_))))))))
 refine A2 (A3 (A5 (j:=1) [0] (k:=K6 (ch:=[]) (a:=ra5) (cap:=rc6) (e:=5) (S:=(inG g7)) (gB n++lfB) (hrd:=hrd9) (hS:=H6 0 rfl) (k:=G1 Tryz.func27 (pointed_ n hn _ _) (O0 (.int .i64 0) (fun b10=>M8 0 0 (.int .i64 n) rfl (B5 [] [1,2,3,4,7] (k:=A1 ?_))))))))
 refine A2 (F4 ([(b10,.cells #[.int .i64 n] 3 (0,0))]::g7::[(b4,.cells #[.int .i64 0] 28 (0,0))]::[(b3,.cells #[.int .i64 0] 3 (0,0))]::[(b2,.cells #[.slice none 0 0] 35 (0,0))]::[(b1,.cells #[pt d] 25 (0,0))]::K) kr (A9 0 kr (fun w h=>(Sat.takeMid (K:=[_,_,_,_,_,_]) (A:=K) h)) (D0 5 0 rfl rfl (B4 kr rfl)) (A9 1 kr (fun w h=>(Sat.takeMid (K:=[_,_,_,_,_,_]) (A:=K) h)) (D0 0 0 rfl rfl (B4 kr rfl)) (C2 2 (k:=G1 Tryz.func26 (dir_ n ⟨by omega,by omega⟩ _ _) (A7 kr (fun w h=>(Sat.takeMid (K:=[_,_,_,_,_,_]) (A:=K) h)) (A9 3 kr (fun w h=>(Sat.takeMid (K:=[_,_,_,_,_,_]) (A:=K) h)) (Z2 (gB n) (mB #[47]) (fun _=>by first | omega | (show (gB n).size+1≤_; omega) | (show (gB n++ByteArray.mk #[47]).size+8≤_; rw [ByteArray.size_append]; show (gB n).size+1+8≤_; omega) | (show (gB n++ByteArray.mk #[47]).size+f.1.size≤_; rw [ByteArray.size_append]; show (gB n).size+1+f.1.size≤_; omega)) (B4 kr rfl)) (A9 4 kr (fun w h=>(Sat.takeMid (K:=[_,_,_,_,_,_]) (A:=K) h)) (Z2 ((gB n)++(mB #[47])) (mB #[109,97,110,105,102,101,115,116]) (fun _=>by first | omega | (show (gB n).size+1≤_; omega) | (show (gB n++ByteArray.mk #[47]).size+8≤_; rw [ByteArray.size_append]; show (gB n).size+1+8≤_; omega) | (show (gB n++ByteArray.mk #[47]).size+f.1.size≤_; rw [ByteArray.size_append]; show (gB n).size+1+f.1.size≤_; omega)) (B4 kr rfl)) ?_))))))))
 refine C2 5 (k:=E4 Tryz.func21 (dReadZ (b:=(C6 F)) hs hM d (((gB n)++(mB #[47]))++(mB #[109,97,110,105,102,101,115,116])) ([[(b10,.cells #[.int .i64 n] 3 (0,0))],g7,[(b4,.cells #[.int .i64 0] 28 (0,0))],[(b3,.cells #[.int .i64 0] 3 (0,0))],[(b2,.cells #[.slice none 0 0] 35 (0,0))],[(b1,.cells #[pt d] 25 (0,0))]]++K) _ H hr.man) ?_)
 rintro _ _ ⟨ra11,rc12,g13,rfl,hsh14,hrd15,rfl⟩
 refine A7 kr (fun w h=>(Sat.takeMid (K:=[_,_,_,_,_,_]) (A:=K) (h.pk 1 [1,1,1,1,1,1]))) (I0 (g13::[(b10,.cells #[.int .i64 n] 3 (0,0))]::g7::[(b4,.cells #[.int .i64 0] 28 (0,0))]::[(b3,.cells #[.int .i64 0] 3 (0,0))]::[(b2,.cells #[.slice none 0 0] 35 (0,0))]::[(b1,.cells #[pt d] 25 (0,0))]::K) (fun w h=>(h.pk 1 [1,1,1,1,1,1])) (E2 (fuel:=0) [(6,0),(7,0),(8,0),(9,0),(10,0)] (fun w h=>(Sat.takeMid (K:=[_,_,_,_,_,_,_]) (A:=K) h)) (k:=D8 (E':=[⟨1,[],pt b1⟩,⟨2,[],pt b2⟩,⟨3,[],pt b3⟩,⟨4,[],pt b4⟩,⟨6,[],.int .i64 0⟩,⟨7,[],pt b10⟩,⟨8,[],.slice ra11 ((C6 F).size) rc12⟩]) [1,2,3,4,6,7,8] (k:=A1 (A2 (A2 (A3 (D0 1 0 rfl rfl ?_))))))))
 refine A5 (j:=2) [0] (k:=Y1 38 (x:=.bool (n==0)) (y:=.bool false) (by rw [show (n==0)=false from beq_eq_false_iff_ne.2 (by omega)]) (B5 [0,0,0,3] [1,2,3,4,7,8,42] (k:=A1 (D9 kr (B6 (A1 (A2 (A3 ?_))))))))
 refine O0 (.slice none 0 0) (fun b16=>B5 [] [1,2,3,4,7,8,9] (k:=A1 (A2 (A2 (A3 (A5 (j:=1) [0] (k:=K6 (ch:=[]) (a:=ra11) (cap:=rc12) (e:=5) (S:=(inG g13)) (C6 F) (hrd:=hrd15) (hS:=H6 1 rfl) (k:=E4 Tryz.func28 (linesI_ (C6 F) _ _) ?_))))))))
 rintro _ _ ⟨kb17,rfl,rfl⟩
 refine B5 [] [1,2,3,4,7,8,9,45] (k:=A1 (B8 (G_env (E':=[⟨1,[],pt b1⟩,⟨2,[],pt b2⟩,⟨3,[],pt b3⟩,⟨4,[],pt b4⟩,⟨7,[],pt b10⟩,⟨8,[],.slice ra11 ((C6 F).size) rc12⟩,⟨9,[],pt b16⟩,⟨45,[],.func (.func 57) #[] #[pt kb17]⟩]) kr (G_heap (H':=([(kb17,.cells #[.string (C6 F)] 9 (0,0))]::[]::[(b16,.cells #[.slice none 0 0] 35 (0,0))]::g13::[(b10,.cells #[.int .i64 n] 3 (0,0))]::g7::[(b4,.cells #[.int .i64 0] 28 (0,0))]::[(b3,.cells #[.int .i64 0] 3 (0,0))]::[(b2,.cells #[.slice none 0 0] 35 (0,0))]::[(b1,.cells #[pt d] 25 (0,0))]::(([]++K)++(s.G d M++H)))) (fun w h=>Sat.flat h (List.Perm.refl _)) (G_rangeN (σ:=Option Addr × Nat × Grp × List SE × List Grp) (gf:=57) (lb:=#[pt kb17]) (enc:=fun k=>#[.string (R8 (F.getD k default))]) (NN:=F.length) (kb:=kb17) (ob:=fun k=>.cells #[.string (C6 (F.drop k))] 9) rfl kr (enters_of Tryz.func57 kr rfl) (linesI_seq kb17 F hr.name (by have:=hr.len; omega)) (fun k ξ=>(ξ.2.2.1::[(b16,.cells #[.slice ξ.1 k ξ.2.1] 35 (0,0))]::g13::[(b10,.cells #[.int .i64 n] 3 (0,0))]::g7::[(b4,.cells #[.int .i64 0] 28 (0,0))]::[(b3,.cells #[.int .i64 0] 3 (0,0))]::[(b2,.cells #[.slice none 0 0] 35 (0,0))]::[(b1,.cells #[pt d] 25 (0,0))]::((ξ.2.2.2.2++K)++(s.G d M++H)))) (fun k ξ=>(Go.Sw.Own 34 2 (.slice ξ.1 k ξ.2.1) ξ.2.2.1 k (C1 ξ.2.2.2.1)∧ξ.2.2.2.1.map Prod.fst=F.take k∧∀ z∈ξ.2.2.2.1,ZOk (inZ ξ.2.2.2.2) z)) (fun _ _=>False) (none,0,[],[],[]) ⟨Go.Sw.Own.nil,rfl,fun z h=>absurd h List.not_mem_nil⟩ rfl (fun _=>rfl) (fun t ht=>by have h9:=List.mem_singleton.1 (Array.mem_toList_iff.2 ht); subst h9; exact Nat.le_of_ble_eq_true rfl) (fun k=>[⟨10,[],.string (R8 (F.getD k default))⟩,⟨1,[],pt b1⟩,⟨2,[],pt b2⟩,⟨3,[],pt b3⟩,⟨4,[],pt b4⟩,⟨7,[],pt b10⟩,⟨8,[],.slice ra11 ((C6 F).size) rc12⟩,⟨9,[],pt b16⟩]) ?_ ?_ ?_ (fun _ _ _ h=>h.elim))))))
 ·
  exact fun r L D k y hk hI=>GR_region rfl (fun _ _ h=>by cases h.1) (D5 (E':=[⟨10,[],.string (R8 (F.getD k default))⟩,⟨1,[],pt b1⟩,⟨2,[],pt b2⟩,⟨3,[],pt b3⟩,⟨4,[],pt b4⟩,⟨7,[],pt b10⟩,⟨8,[],.slice ra11 ((C6 F).size) rc12⟩,⟨9,[],pt b16⟩]) [0] [10,1,2,3,4,7,8,9] rfl (by kernel_rfl) (fun a w ha hs=>⟨rfl,ha,hs⟩))
 ·
  rintro r L D k ⟨a,c,g,zl,Z⟩ hk ⟨hO,hzl,hZ⟩
  dsimp only at hO hzl hZ
  obtain ⟨f,hfk⟩:∃ f,f=F.getD k default:=⟨_,rfl⟩
  have hfm:f∈F:=by rw [hfk,List.getD,List.getElem?_eq_getElem hk]; exact List.getElem_mem hk
  have hfn:=X4 (hr.name f hfm)
  have hqz:(P6 f).size≤1000000000:=by have h1:=Z8 f; rw [lineP_q,ByteArray.size_append] at h1; omega
  have hlz:(R8 f).size≤1000000000:=by rw [Z8]; omega
  have hzn:=z_take hzl (by omega)
  refine GR_env (E':=[⟨10,[],.string (R8 f)⟩,⟨1,[],pt b1⟩,⟨2,[],pt b2⟩,⟨3,[],pt b3⟩,⟨4,[],pt b4⟩,⟨7,[],pt b10⟩,⟨8,[],.slice ra11 ((C6 F).size) rc12⟩,⟨9,[],pt b16⟩]) (by rw [hfk]) (GR_heq (H':=(L::D::[(kb17,.cells #[.string (C6 (F.drop (k+1)))] 9 (0,0))]::g::[(b16,.cells #[.slice a k c] 35 (0,0))]::g13::[(b10,.cells #[.int .i64 n] 3 (0,0))]::g7::[(b4,.cells #[.int .i64 0] 28 (0,0))]::[(b3,.cells #[.int .i64 0] 3 (0,0))]::[(b2,.cells #[.slice none 0 0] 35 (0,0))]::[(b1,.cells #[pt d] 25 (0,0))]::((Z++K)++(s.G d M++H)))) rfl (GR_block (GR_seq (W5 (A5 (j:=1) [0] (k:=G1 Tryz.func30 (trimL f hlz _ _) (G1 Tryz.func29 (cutS_ f hqz _ _) (B5 [0,0,0,0,0,0,0] [1,2,3,4,7,9,12] (k:=?_)))))))))
  refine NR_then (GR_seq (GR_seq (W5 (A5 (j:=1) [0] (k:=G1 Tryz.func31 (name_ f.1 (by omega) _ _) (B5 [0] [1,2,3,4,7,9,12,56] (k:=NR_then (GR_cond (b:=!(R2 f.1)) (by kernel_rfl) (fun hc18=>?_) (fun hc18=>?_)))))))))
  ·
   exact absurd hc18 (by first | (simp; done) | (rw [hr.name f hfm]; simp; done) | (simp [hls]; done) | (show ¬ (!((C6 F).toList==(C6 F).toList))=true; simp; done))
  ·
   skip
   refine GR_skip (NR_then (GR_seq (GR_regionH (L::D::[(kb17,.cells #[.string (C6 (F.drop (k+1)))] 9 (0,0))]::[(b16,.cells #[.slice a k c] 35 (0,0))]::g13::[(b10,.cells #[.int .i64 n] 3 (0,0))]::g7::[(b4,.cells #[.int .i64 0] 28 (0,0))]::[(b3,.cells #[.int .i64 0] 3 (0,0))]::[(b2,.cells #[.slice none 0 0] 35 (0,0))]::[(b1,.cells #[pt d] 25 (0,0))]::(Z++K)) (by kernel_rfl) (A9 0 kr (fun w h=>(Sat.takeMid (K:=[_,_,_,_,_,_,_,_,_,_,_]) (A:=(Z++K)) (h.pk 1 [0,0,0,1,1,1,1,1,1,1,1]))) (D0 10 0 rfl rfl (B4 kr rfl)) (A9 1 kr (fun w h=>(Sat.takeMid (K:=[_,_,_,_,_,_,_,_,_,_,_]) (A:=(Z++K)) (h.pk 1 [0,0,0,1,1,1,1,1,1,1,1]))) (D0 5 0 rfl rfl (B4 kr rfl)) (E2 (fuel:=9) [(4,0)] (fun w h=>(Sat.takeMid (K:=[_,_,_,_,_,_,_,_,_,_,_]) (A:=(Z++K)) (h.pk 1 [0,0,0,1,1,1,1,1,1,1,1]))) (k:=C2 2 (k:=G1 Tryz.func26 (dir_ n ⟨by omega,by omega⟩ _ _) ?_))))))))
   refine A7 kr (fun w h=>(Sat.takeMid (K:=[_,_,_,_,_,_,_,_,_,_,_]) (A:=(Z++K)) (h.pk 1 [0,0,0,1,1,1,1,1,1,1,1]))) (A9 3 kr (fun w h=>(Sat.takeMid (K:=[_,_,_,_,_,_,_,_,_,_,_]) (A:=(Z++K)) (h.pk 1 [0,0,0,1,1,1,1,1,1,1,1]))) (Z2 (gB n) (mB #[47]) (fun _=>by first | omega | (show (gB n).size+1≤_; omega) | (show (gB n++ByteArray.mk #[47]).size+8≤_; rw [ByteArray.size_append]; show (gB n).size+1+8≤_; omega) | (show (gB n++ByteArray.mk #[47]).size+f.1.size≤_; rw [ByteArray.size_append]; show (gB n).size+1+f.1.size≤_; omega)) (B4 kr rfl)) (A9 5 kr (fun w h=>(Sat.takeMid (K:=[_,_,_,_,_,_,_,_,_,_,_]) (A:=(Z++K)) (h.pk 1 [0,0,0,1,1,1,1,1,1,1,1]))) (Z2 ((gB n)++(mB #[47])) f.1 (fun _=>by first | omega | (show (gB n).size+1≤_; omega) | (show (gB n++ByteArray.mk #[47]).size+8≤_; rw [ByteArray.size_append]; show (gB n).size+1+8≤_; omega) | (show (gB n++ByteArray.mk #[47]).size+f.1.size≤_; rw [ByteArray.size_append]; show (gB n).size+1+f.1.size≤_; omega)) (B4 kr rfl)) (C2 6 (k:=E4 Tryz.func21 (dReadZ (b:=f.2) hs hM d (((gB n)++(mB #[47]))++f.1) ([L,D,[(kb17,.cells #[.string (C6 (F.drop (k+1)))] 9 (0,0))],g,[(b16,.cells #[.slice a k c] 35 (0,0))],g13,[(b10,.cells #[.int .i64 n] 3 (0,0))],g7,[(b4,.cells #[.int .i64 0] 28 (0,0))],[(b3,.cells #[.int .i64 0] 3 (0,0))],[(b2,.cells #[.slice none 0 0] 35 (0,0))],[(b1,.cells #[pt d] 25 (0,0))]]++(Z++K)) _ H (hr.files f hfm)) ?_))))
   rintro _ _ ⟨ra19,rc20,g21,rfl,hsh22,hrd23,rfl⟩
   refine A7 kr (fun w h=>(Sat.takeMid (K:=[_,_,_,_,_,_,_,_,_,_,_]) (A:=(Z++K)) (h.pk 2 [1,1,1,2,2,2,2,2,2,2,2]))) (I0 (g21::L::D::[(kb17,.cells #[.string (C6 (F.drop (k+1)))] 9 (0,0))]::[(b16,.cells #[.slice a k c] 35 (0,0))]::g13::[(b10,.cells #[.int .i64 n] 3 (0,0))]::g7::[(b4,.cells #[.int .i64 0] 28 (0,0))]::[(b3,.cells #[.int .i64 0] 3 (0,0))]::[(b2,.cells #[.slice none 0 0] 35 (0,0))]::[(b1,.cells #[pt d] 25 (0,0))]::(Z++K)) (fun w h=>(h.pk 1 [1,1,1,1,1,1,1,1,1,1,1])) (E2 (fuel:=0) [(7,0),(8,0),(9,0),(10,0),(11,0)] (fun w h=>(Sat.takeMid (K:=[_,_,_,_,_,_,_,_,_,_,_,_]) (A:=(Z++K)) (h.pk 1 [0,0,0,0,1,1,1,1,1,1,1,1]))) (k:=D8 (E':=[⟨2,[],pt b2⟩,⟨3,[],pt b3⟩,⟨4,[],pt b4⟩,⟨9,[],pt b16⟩,⟨12,[],.string f.1⟩,⟨14,[],.slice ra19 f.2.size rc20⟩,⟨15,[],.int .i64 0⟩]) [2,3,4,9,12,14,15] (k:=NR_then (GR_seq (GR_seq ?_))))))
   rcases Nat.eq_zero_or_pos k with hk0 | hk0
   ·
    refine W5 (A5 (j:=3) [0,0,0] (k:=F9 (ch:=[(69,false)]) (b:=b16) (off:=0) (v:=.slice a k c) (hA:=At.grp 5 0 rfl rfl) (k:=A5 (j:=6) [0,0] (k:=L1 72 [(69,false)] (x:=.bool (decide (((k:Nat):Int) > 0))) (y:=.bool false) (by rw [show decide (((k:Nat):Int) > 0)=false from decide_eq_false (by omega)]) (B5 [0,1,1,1,1,1,1,1,1,1,3,3] [2,3,4,9,12,14,84] (k:=NR_then (GR_condf (by kernel_rfl) (GR_skip ?_))))))))
    refine NR_then (W5 (D0 5 0 rfl rfl (A5 (j:=4) [0,0,0] (k:=N2 34 1 [.string f.1,.slice ra19 f.2.size rc20] (fun b24=>M0 (i:=5) (ch:=[]) (t:=35) (tx:=35) (e:=34) (inf:=Tryz.t34) (s:=.slice a k c) (x:=.slice (some ⟨b24,0,none⟩) 1 1) (n:=k) (m:=1) (j:=5) (cs:=(C1 zl)) (news:=[.string f.1,.slice ra19 f.2.size rc20]) (g:=g) (S:=(inG [(b24,.cells #[.string f.1,.slice ra19 f.2.size rc20] 34 (0,0))])) rfl rfl rfl rfl kr kr kr rfl rfl (.inl ⟨34,kr⟩) (fun ⟨_,h⟩=>by cases h) (fun _=>⟨34,kr⟩) kr kr kr rfl hO (SrcOf.slice _ _ _ _ Rd.lit (fun h=>by cases h)) (H6 0 rfl) rfl (by intro u hu; simp only [List.mem_cons,List.not_mem_nil,or_false] at hu; rcases hu with rfl | rfl <;> rfl) (by omega) (by show (k+1) * 40≤140737488355328; omega) (fun v25 g26 hO27=>?_))))))
    obtain ⟨a28,cap29,rfl,hcap30,hrd31⟩:=hO27.shape
    refine GL_st (ch:=[]) (b:=b16) (off:=0) (v:=.slice a28 (k+1) cap29) (j:=6) ([(b24,.cells #[.string f.1,.slice ra19 f.2.size rc20] 34 (0,0))]::g21::L::D::[(kb17,.cells #[.string (C6 (F.drop (k+1)))] 9 (0,0))]::g26::[(b16,.cells #[.slice a28 (k+1) cap29] 35 (0,0))]::g13::[(b10,.cells #[.int .i64 n] 3 (0,0))]::g7::[(b4,.cells #[.int .i64 0] 28 (0,0))]::[(b3,.cells #[.int .i64 0] 3 (0,0))]::[(b2,.cells #[.slice none 0 0] 35 (0,0))]::[(b1,.cells #[pt d] 25 (0,0))]::((Z++K)++(s.G d M++H))) (hoff:=Nat.le_of_ble_eq_true rfl) (hfz:=(fun _ _=>P5)) (k:=D5 (E':=[]) [] [] (k:=D3 (N_pkT 1 [2,2,2,2,2,2,2,2,2,2,2,2,1] (L::D::[(kb17,.cells #[.string (C6 (F.drop (k+1)))] 9 (0,0))]::g26::[(b16,.cells #[.slice a28 (k+1) cap29] 35 (0,0))]::g13::[(b10,.cells #[.int .i64 n] 3 (0,0))]::g7::[(b4,.cells #[.int .i64 0] 28 (0,0))]::[(b3,.cells #[.int .i64 0] 3 (0,0))]::[(b2,.cells #[.slice none 0 0] 35 (0,0))]::[(b1,.cells #[pt d] 25 (0,0))]::g21::((Z++K)++(s.G d M++H))) ?_)))
    exact fun a0 w ha hs=>⟨(a28,cap29,g26,zl++[(f,ra19,rc20)],g21::Z),⟨X3 hO27 (by rw [O5]; rfl),z_nextD hzl hk hfk,z_all hZ ⟨hrd23,hsh22⟩⟩,hs⟩
   ·
    obtain ⟨zp,hzp⟩:∃ z,z=zl.getD (k - 1) default:=⟨_,rfl⟩
    have hzf:zp.1=F.getD (k - 1) default:=by rw [hzp]; exact z_fst hzl (by omega) (by omega)
    have hls:=asc_at hr.asc hk0 hk
    rw [← hzf,← hfk] at hls
    refine W5 (A5 (j:=3) [0,0,0] (k:=F9 (ch:=[(69,false)]) (b:=b16) (off:=0) (v:=.slice a k c) (hA:=At.grp 5 0 rfl rfl) (k:=A5 (j:=6) [0,0] (k:=L1 72 [(69,false)] (x:=.bool (decide (((k:Nat):Int) > 0))) (y:=.bool true) (by rw [show decide (((k:Nat):Int) > 0)=true from decide_eq_true (by omega)]) (A5 (j:=7) [0] (k:=F9 (ch:=[(73,true),(69,false)]) (b:=b16) (off:=0) (v:=.slice a k c) (hA:=At.grp 5 0 rfl rfl) (k:=F9 (ch:=[(73,true),(69,false)]) (b:=b16) (off:=0) (v:=.slice a k c) (hA:=At.grp 5 0 rfl rfl) (k:=A5 (j:=11) [0,0] (k:=?_)))))))))
    refine L1 77 [(73,true),(69,false)] (x:=.int .i64 (IntKind.wrap .i64 (((k:Nat):Int) - 1))) (y:=.int .i64 (((k:Nat):Int) - 1)) (by rw [w64 (x:=((k:Nat):Int) - 1) (by omega) (by omega)]) (I7 (ch:=[(73,true),(69,false)]) (a:=a) (len:=k) (cap:=c) (kd:=.i64) (j:=(((k:Nat):Int) - 1)) (e:=34) (sz:=2) (S:=(inG g)) (cs:=(C1 zl)) (hrd:=I4 hO) (hb:=(fun hc=>by exact ⟨by omega,by omega,fun e=>by have:=congrArg List.length e; rw [H4,List.length_nil] at this; omega⟩)) (k:=A5 (j:=13) [0] (k:=R7 (ch:=[(73,true),(69,false)]) (a:=a) (q:=(Int.toNat (((k:Nat):Int) - 1)) * 2) (S:=(inG g)) (cs:=(C1 zl)) (v:=.string zp.1.1) (hrd:=I4 hO) (hS:=H6 4 rfl) (hv:=(fun hc=>(by rw [hzp]; exact z_get1 (by omega) (by omega)))) (k:=B5 [0,0,2,3] [2,3,4,9,12,14,84] (k:=NR_then (GR_cond (b:=!(Op.bytesLess zp.1.1.toList f.1.toList)) (by kernel_rfl) (fun hc32=>?_) (fun hc32=>?_)))))))
    ·
     exact absurd hc32 (by first | (simp; done) | (rw [hr.name f hfm]; simp; done) | (simp [hls]; done) | (show ¬ (!((C6 F).toList==(C6 F).toList))=true; simp; done))
    ·
     skip
     refine GR_skip (NR_then (W5 (D0 5 0 rfl rfl (A5 (j:=4) [0,0,0] (k:=N2 34 1 [.string f.1,.slice ra19 f.2.size rc20] (fun b33=>M0 (i:=5) (ch:=[]) (t:=35) (tx:=35) (e:=34) (inf:=Tryz.t34) (s:=.slice a k c) (x:=.slice (some ⟨b33,0,none⟩) 1 1) (n:=k) (m:=1) (j:=5) (cs:=(C1 zl)) (news:=[.string f.1,.slice ra19 f.2.size rc20]) (g:=g) (S:=(inG [(b33,.cells #[.string f.1,.slice ra19 f.2.size rc20] 34 (0,0))])) rfl rfl rfl rfl kr kr kr rfl rfl (.inl ⟨34,kr⟩) (fun ⟨_,h⟩=>by cases h) (fun _=>⟨34,kr⟩) kr kr kr rfl hO (SrcOf.slice _ _ _ _ Rd.lit (fun h=>by cases h)) (H6 0 rfl) rfl (by intro u hu; simp only [List.mem_cons,List.not_mem_nil,or_false] at hu; rcases hu with rfl | rfl <;> rfl) (by omega) (by show (k+1) * 40≤140737488355328; omega) (fun v34 g35 hO36=>?_)))))))
     obtain ⟨a37,cap38,rfl,hcap39,hrd40⟩:=hO36.shape
     refine GL_st (ch:=[]) (b:=b16) (off:=0) (v:=.slice a37 (k+1) cap38) (j:=6) ([(b33,.cells #[.string f.1,.slice ra19 f.2.size rc20] 34 (0,0))]::g21::L::D::[(kb17,.cells #[.string (C6 (F.drop (k+1)))] 9 (0,0))]::g35::[(b16,.cells #[.slice a37 (k+1) cap38] 35 (0,0))]::g13::[(b10,.cells #[.int .i64 n] 3 (0,0))]::g7::[(b4,.cells #[.int .i64 0] 28 (0,0))]::[(b3,.cells #[.int .i64 0] 3 (0,0))]::[(b2,.cells #[.slice none 0 0] 35 (0,0))]::[(b1,.cells #[pt d] 25 (0,0))]::((Z++K)++(s.G d M++H))) (hoff:=Nat.le_of_ble_eq_true rfl) (hfz:=(fun _ _=>P5)) (k:=D5 (E':=[]) [] [] (k:=D3 (N_pkT 1 [2,2,2,2,2,2,2,2,2,2,2,2,1] (L::D::[(kb17,.cells #[.string (C6 (F.drop (k+1)))] 9 (0,0))]::g35::[(b16,.cells #[.slice a37 (k+1) cap38] 35 (0,0))]::g13::[(b10,.cells #[.int .i64 n] 3 (0,0))]::g7::[(b4,.cells #[.int .i64 0] 28 (0,0))]::[(b3,.cells #[.int .i64 0] 3 (0,0))]::[(b2,.cells #[.slice none 0 0] 35 (0,0))]::[(b1,.cells #[pt d] 25 (0,0))]::g21::((Z++K)++(s.G d M++H))) ?_)))
     exact fun a0 w ha hs=>⟨(a37,cap38,g35,zl++[(f,ra19,rc20)],g21::Z),⟨X3 hO36 (by rw [O5]; rfl),z_nextD hzl hk hfk,z_all hZ ⟨hrd23,hsh22⟩⟩,hs⟩
 ·
  rintro D1 ⟨a,c,g,zl,Z⟩ ⟨hO,hzl,hZ⟩
  dsimp only at hO hzl hZ
  refine N_heq (H':=([(D1,.deferred (some []))]::[(kb17,.cells #[.string (C6 (F.drop F.length))] 9 (0,0))]::g::[(b16,.cells #[.slice a F.length c] 35 (0,0))]::g13::[(b10,.cells #[.int .i64 n] 3 (0,0))]::g7::[(b4,.cells #[.int .i64 0] 28 (0,0))]::[(b3,.cells #[.int .i64 0] 3 (0,0))]::[(b2,.cells #[.slice none 0 0] 35 (0,0))]::[(b1,.cells #[pt d] 25 (0,0))]::((Z++K)++(s.G d M++H)))) rfl (D3 (A1 (A2 (A2 (F4 ([(D1,.deferred (some []))]::[(kb17,.cells #[.string (C6 (F.drop F.length))] 9 (0,0))]::g::[(b16,.cells #[.slice a F.length c] 35 (0,0))]::g13::[(b10,.cells #[.int .i64 n] 3 (0,0))]::g7::[(b1,.cells #[pt d] 25 (0,0))]::(Z++K)) kr (A9 0 kr (fun w h=>(Sat.takeMid (K:=[_,_,_,_,_,_,_,_]) (A:=(Z++K)) (h.pk 3 [0,0,0,0,0,0,0,3]))) (D0 3 0 rfl rfl (B4 kr rfl)) (E2 (fuel:=3) [(2,0)] (fun w h=>(Sat.takeMid (K:=[_,_,_,_,_,_,_,_]) (A:=(Z++K)) (h.pk 3 [0,0,0,0,0,0,0,3]))) (k:=A9 3 (hL:=(fun w h=>(Sat.takeMid (K:=[_,_,_,_,_,_,_,_]) (A:=(Z++K)) (h.pk 3 [0,0,0,0,0,0,0,3])))) (hy:=K6 (i:=3) (ch:=[]) (a:=ra11) (cap:=rc12) (e:=5) (S:=(inG g13)) (C6 F) (hrd:=hrd15) (hS:=H6 4 rfl) (k:=B4 kr rfl)) (k:=?_)))))))))
  refine C2 1 (k:=?_)
  have hfr:FRd (fun y o=>inG g y o∨inZ Z y o) F (C1 zl):=by have h1:=frd_z (S:=(fun y o=>inG g y o∨inZ Z y o)) (l:=zl) (fun z hz=>T8 (fun b o h=>.inr h) (hZ z hz)); rw [hzl,List.take_length] at h1; exact h1
  refine E4 Tryz.func32 (lines_ a c F (C1 zl) (fun y o=>inG g y o∨inZ Z y o) ((I4 hO).mono fun b o h=>.inl h) hfr (by have:=hr.len; omega) (fun f hf=>by have:=X4 (hr.name f hf); omega) (fun f hf=>by have:=hr.size f hf; omega) _ _ (fun y o h=>h.elim (fun h=>H6 2 rfl y o h) (fun h=>At.cons (At.cons (At.cons (At.cons (At.cons (At.cons (At.cons (At.cons (At.cons (At.cons (At.cons (At.app (at_z h))))))))))))))) ?_
  rintro v H' ⟨rfl,rfl⟩
  refine A7 kr (fun w h=>(Sat.takeMid (K:=[_,_,_,_,_,_,_,_]) (A:=(Z++K)) (h.pk 3 [0,0,0,0,0,0,0,3]))) (E2 (fuel:=0) [(4,0)] (fun w h=>(Sat.takeMid (K:=[_,_,_,_,_,_,_,_]) (A:=(Z++K)) (h.pk 3 [0,0,0,0,0,0,0,3]))) (k:=D8 (E':=[⟨2,[],pt b2⟩,⟨3,[],pt b3⟩,⟨4,[],pt b4⟩,⟨7,[],pt b10⟩,⟨9,[],pt b16⟩,⟨95,[],.bool (!((C6 F).toList==(C6 F).toList))⟩]) [2,3,4,7,9,95] (k:=A1 (D2 (b:=!((C6 F).toList==(C6 F).toList)) kr (fun hc41=>?_) (fun hc41=>?_)))))
  ·
   exact absurd hc41 (by first | (simp; done) | (rw [hr.name f hfm]; simp; done) | (simp [hls]; done) | (show ¬ (!((C6 F).toList==(C6 F).toList))=true; simp; done))
  ·
   skip
   refine B6 (A1 (A2 (F4 ([(D1,.deferred (some []))]::[(kb17,.cells #[.string (C6 (F.drop F.length))] 9 (0,0))]::g::[(b16,.cells #[.slice a F.length c] 35 (0,0))]::g13::[(b10,.cells #[.int .i64 n] 3 (0,0))]::g7::[(b1,.cells #[pt d] 25 (0,0))]::(Z++K)) kr (A9 0 kr (fun w h=>(Sat.takeMid (K:=[_,_,_,_,_,_,_,_]) (A:=(Z++K)) (h.pk 3 [0,0,0,0,0,0,0,3]))) (D0 3 0 rfl rfl (B4 kr rfl)) (A9 1 kr (fun w h=>(Sat.takeMid (K:=[_,_,_,_,_,_,_,_]) (A:=(Z++K)) (h.pk 3 [0,0,0,0,0,0,0,3]))) (D0 5 0 rfl rfl (B4 kr rfl)) (C2 2 (k:=M8 9 0 (.slice a F.length c) rfl (A7 kr (fun w h=>(Sat.takeMid (K:=[_,_,_,_,_,_,_,_]) (A:=(Z++K)) (h.pk 3 [0,0,0,0,0,0,0,3]))) ?_))))))))
   refine C2 3 (k:=GL_st (ch:=[]) (b:=b3) (off:=0) (v:=.int .i64 n) (j:=8) ([(D1,.deferred (some []))]::[(kb17,.cells #[.string (C6 (F.drop F.length))] 9 (0,0))]::g::[(b16,.cells #[.slice a F.length c] 35 (0,0))]::g13::[(b10,.cells #[.int .i64 n] 3 (0,0))]::g7::[(b4,.cells #[.int .i64 0] 28 (0,0))]::[(b3,.cells #[.int .i64 n] 3 (0,0))]::[(b2,.cells #[.slice a F.length c] 35 (0,0))]::[(b1,.cells #[pt d] 25 (0,0))]::((Z++K)++(s.G d M++H))) (hoff:=Nat.le_of_ble_eq_true rfl) (hfz:=(fun _ _=>P5)) (k:=A7 kr (fun w h=>(Sat.takeMid (K:=[_,_,_,_,_,_,_,_]) (A:=(Z++K)) (h.pk 3 [0,0,0,0,0,0,0,3]))) (C2 4 (k:=M8 7 0 (.int .i64 0) rfl (A7 kr (fun w h=>(Sat.takeMid (K:=[_,_,_,_,_,_,_,_]) (A:=(Z++K)) (h.pk 3 [0,0,0,0,0,0,0,3]))) (D8 (E':=[⟨2,[],pt b2⟩,⟨3,[],pt b3⟩,⟨4,[],pt b4⟩]) [2,3,4] (k:=A1 (C8 ?_))))))))
   refine N_heq (H':=([(D1,.deferred (some []))]::[(kb17,.cells #[.string (C6 (F.drop F.length))] 9 (0,0))]::g::[(b16,.cells #[.slice a F.length c] 35 (0,0))]::g13::[(b10,.cells #[.int .i64 n] 3 (0,0))]::g7::[(b4,.cells #[.int .i64 0] 28 (0,0))]::[(b3,.cells #[.int .i64 n] 3 (0,0))]::[(b2,.cells #[.slice a F.length c] 35 (0,0))]::[(b1,.cells #[pt d] 25 (0,0))]::((Z++K)++(s.G d M++H)))) kr (N_retM [.cell 2 35,.cell 3 3,.cell 4 28] [.slice a F.length c,.int .i64 n,.int .i64 0] rfl rfl (.cons (.oq 8 0 rfl) (.cons (.oq 7 0 rfl) (.cons (.oq 6 0 rfl) (.nil)))) rfl ⟨(g::((Z++K)++(s.G d M++H))),?_,fun w h=>(h.pk 9 [1])⟩)
   exact ⟨zl,Z,g,a,c,rfl,by rw [hzl,List.take_length],hZ,hO,rfl⟩
end Go.Proofs.YtdolpaagdpeagaaGreatDoor
namespace Go.Proofs.YtdolpaagdpeagaaGreatDoor
open Go.Sw Go.Lib Go.Vf Go.Sha Go.Pr Go.RowKit
def PrV (pb d:Nat) (p:PM) (G:List Grp):Prop:=∃ (a:Option Addr) (c:Nat) (cs:List Value) (ZF:List Grp),G=[(pb,.cells #[pt d,.int .i64 p.n,.slice a p.files.length c,.bool p.down] 66 (0,0))]::ZF∧Rd (inZ ZF) a cs∧FRd (inZ ZF) p.files cs
theorem inZ_here {g:Grp} {Z:List Grp} {y:Nat} {o:Obj} (h:inG g y o):inZ (g::Z) y o:=by
  show (y,o)∈(g::Z).flatten
  rw [List.flatten_cons]; exact List.mem_append_left _ h
theorem z_files {g:Grp} {Z:List Grp} {zl:List SE} {t:TypeId} {v:Value} {a:Option Addr} {n c:Nat} (hZ:∀ z∈zl,ZOk (inZ Z) z) (hO:Go.Sw.Own t 2 (.slice a n c) g n (C1 zl)) (_:v=v):Rd (inZ (g::Z)) a (C1 zl)∧FRd (inZ (g::Z)) (zl.map Prod.fst) (C1 zl) :=
  ⟨(I4 hO).mono fun _ _ h=>inZ_here h,frd_z fun z hz=>T8 (fun _ _ h=>inZ_app (K:=[g]) h) (hZ z hz)⟩
theorem fx_lay {i q:Nat} {M:DM} (h:Fx i q M) {n:Int} (hn:0≤n∧n<100) {F:List FB} (hF:∀ f∈F,f.2.size≤100000) (hl:(C6 F).size≤100000):Fx (i+q+2 * F.length+10) (q+F.length+5) (Y7 n F M).2:=by
  unfold Y7
  have hL:(P2 M (gB n)).length≤q:=by have h1:=list_le (M:=M) (d:=gB n); have h2:=h.names; omega
  have h1:=(fx_drop h (P2 M (gB n))).up (i':=i+q) (q':=q) (by omega) (Nat.le_refl _)
  rw [L3]
  split
  · exact h1.up (by omega) (by omega)
  · have h2:=(fx_puts (n:=n) (s:=F) hF h1).up (i':=i+q+2 * F.length) (q':=q+F.length) (by omega) (Nat.le_refl _)
    rw [L3]
    split
    · exact h2.up (by omega) (by omega)
    · rw [← pointB_eq]
      exact (tryP_fx (a:=2) (b:=1) (A:=pointB n F) (fun f hf i q M h=>by
        have hm:∀ k,Fx (i+2) (q+1) (ptS n F k M).2:=fx_pt h hn hl
        simp only [pointB,List.mem_cons,List.not_mem_nil,or_false] at hf
        rcases hf with rfl | rfl | rfl | rfl | rfl
        · exact hm 0
        · exact hm 1
        · exact hm 2
        · exact hm 3
        · exact hm 4) h2).up (by show _+5 * 2≤_; omega) (by show _+5 * 1≤_; omega)
theorem app_h (P g:Grp) (Z K X:List Grp):P::(g::((Z++K)++X))=(P::(g::Z))++(K++X):=by simp
theorem drop_z {W0:World} {P:Grp} {Z K X:List Grp} {w:World} (h:Sat W0 (P::((Z++K)++X)) w):Sat W0 (P::(K++X)) w:=h.subl (by
  simp only [List.flatten_cons,List.flatten_append,List.append_assoc]
  exact (List.sublist_append_right _ _).append_left _)
theorem sortedS (fa:Option Addr) (fc:Nat) (F:List FB) (cs:List Value) (S:Nat→Obj→Prop) (hrd:Rd S fa cs) (hF:FRd S F cs) (hn20:F.length≤20) (hz:∀ f∈F,f.1.size≤1000000) (hb:∀ f∈F,f.2.size≤1000000000) {s0:List FB} (hsm:F8 F=some s0) (W0:World) (P:Grp) (K X:List Grp) (hS:∀ y o,S y o→At W0 (P::(K++X)) y o) :
    Tri Tryz.prog 23 #[.slice fa F.length fc] W0 (P::(K++X)) (fun v H'=>∃ (zl:List SE) (Z:List Grp) (g:Grp) (a:Option Addr) (c:Nat),zl.map Prod.fst=s0∧v=.tuple #[.slice a s0.length c,.bool true]∧(∀ z∈zl,ZOk (inZ Z) z)∧Go.Sw.Own 34 2 (.slice a s0.length c) g s0.length (C1 zl)∧H'=g::P::((Z++K)++X)) :=
  Tri.post (sorted_ fa fc F cs S hrd hF hn20 hz hb W0 _ hS) fun v H1 ⟨l,zl,Z,g,a,c,h1,h2,h3,h4,h5,hH,hc⟩=>by
    rcases hc with ⟨hv,hok⟩ | ⟨hv,m,hm,hbad⟩
    · have e:=z_told h1 h2 h3 hok
      rw [hsm] at e
      injection e with e
      subst e
      have hlen:(l.map Prod.fst).length=F.length:=by rw [← h1,List.length_map,List.length_map]; exact h2.length_eq
      refine ⟨_,⟨l,Z,g,a,c,rfl,by rw [hlen]; exact hv,z_all_perm h2 h4,by rw [hlen]; exact h5,rfl⟩,fun w hw=>?_⟩
      rw [hH] at hw
      exact A8 hw fun _ x=>by simp only [List.flatten_cons,List.flatten_append,List.count_append]; omega
    · rw [z_not h1 h2 h3 hm hbad] at hsm; cases hsm
theorem sortedN (fa:Option Addr) (fc:Nat) (F:List FB) (cs:List Value) (S:Nat→Obj→Prop) (hrd:Rd S fa cs) (hF:FRd S F cs) (hn20:F.length≤20) (hz:∀ f∈F,f.1.size≤1000000) (hb:∀ f∈F,f.2.size≤1000000000) (hsm:F8 F=none) (W0:World) (X:List Grp) (hS:∀ y o,S y o→At W0 X y o) :
    Tri Tryz.prog 23 #[.slice fa F.length fc] W0 X (fun v H'=>v=.tuple #[.slice none 0 0,.bool false]∧H'=X) :=
  Tri.post (sorted_ fa fc F cs S hrd hF hn20 hz hb W0 _ hS) fun v H1 ⟨l,zl,Z,g,a,c,h1,h2,h3,h4,h5,hH,hc⟩=>by
    rcases hc with ⟨hv,hok⟩ | ⟨hv,m,hm,hbad⟩
    · rw [z_told h1 h2 h3 hok] at hsm; cases hsm
    · exact ⟨_,⟨hv,rfl⟩,fun w hw=>by rw [hH] at hw; exact Sat.dropApp hw.tail⟩
theorem pub_arg {p:PM} {M:DM} {l:List FB} (h:F8 l=none):E8 p M l=(2,p,M):=by unfold E8; rw [h]
theorem pub_down {p:PM} {M:DM} {l s:List FB} (h:F8 l=some s) (hd:p.down=true):E8 p M l=(63,p,M):=by unfold E8; rw [h]; dsimp only; rw [if_pos hd]
theorem pub_room {p:PM} {M:DM} {l s:List FB} (h:F8 l=some s) (hd:p.down=false) (he:(Y7 (p.n+1) s M).1=61):E8 p M l=(61,p,K4 [p.n+1] (Y7 (p.n+1) s M).2):=by
  unfold E8; rw [h]; dsimp only; rw [if_neg (by rw [hd]; decide),if_pos (by rw [he]; decide),if_pos (by rw [he]; decide)]
theorem pub_err {p:PM} {M:DM} {l s:List FB} (h:F8 l=some s) (hd:p.down=false) (he:(Y7 (p.n+1) s M).1≠0) (h6:(Y7 (p.n+1) s M).1≠61):E8 p M l=((Y7 (p.n+1) s M).1,{ p with down:=true },(Y7 (p.n+1) s M).2):=by
  unfold E8; rw [h]; dsimp only; rw [if_neg (by rw [hd]; decide),if_pos (by simpa using he),if_neg (by simpa using h6)]
theorem pub_ok {p:PM} {M:DM} {l s:List FB} (h:F8 l=some s) (hd:p.down=false) (he:(Y7 (p.n+1) s M).1=0):E8 p M l=(0,⟨p.n+1,s,false⟩,if p.n+1 > 1 then L7 (gB p.n) (Y7 (p.n+1) s M).2 else (Y7 (p.n+1) s M).2):=by
  unfold E8; rw [h]; dsimp only; rw [if_neg (by rw [hd]; decide),if_neg (by rw [he]; decide)]
theorem readNo_ {s:DS} {M:DM} (hs:s.ok M) (hM:∀ B∈M.bodies,B.now.size≤10000000) (K:List Grp) (d:Nat) (hno:P1 M G7=(ByteArray.mk #[],60)) (W0:World) (H:List Grp):Tri Tryz.prog 12 #[pt d] W0 (K++(s.G d M++H)) (fun v H'=>v=.tuple #[.slice none 0 0,.int .i64 0,.int .i64 60]∧H'=(K++(s.G d M++H))):=by
 refine Tri_ofM (args:=[pt d]) (n:=98) Tryz.func12 rfl rfl (Nat.le_of_ble_eq_true rfl) ?_
 refine A2 (A3 (O9 (pt d) (fun b1=>O0 (.slice none 0 0) (fun b2=>?_))))
 refine O0 (.int .i64 0) (fun b3=>O0 (.int .i64 0) (fun b4=>?_))
 refine B5 [] [1,2,3,4] (k:=A1 (A2 (A2 (A3 (D0 3 0 rfl rfl (B5 [0] [1,2,3,4,17] (k:=A1 (D9 kr ?_))))))))
 refine B6 (A1 (A2 (A3 (D0 3 0 rfl rfl (E4 Tryz.func21 (dReadZ (b:=ByteArray.mk #[]) hs hM d (mB #[99,117,114,114,101,110,116]) ([[(b4,.cells #[.int .i64 0] 28 (0,0))],[(b3,.cells #[.int .i64 0] 3 (0,0))],[(b2,.cells #[.slice none 0 0] 35 (0,0))],[(b1,.cells #[pt d] 25 (0,0))]]++K) _ H hno) ?_)))))
 rintro _ _ ⟨ra5,rc6,g7,rfl,hsh8,hrd9,rfl⟩
 refine B5 [0,0,0,0,0] [1,2,3,4,5,6] (k:=A1 (A2 (A2 (G_p [0,0] [1,2,3,4,5,24] (k:=A1 (G6 kr (A2 (A3 ?_))))))))
 refine GL_st (ch:=[]) (b:=b2) (off:=0) (v:=.slice none 0 0) (j:=3) (g7::[(b4,.cells #[.int .i64 0] 28 (0,0))]::[(b3,.cells #[.int .i64 0] 3 (0,0))]::[(b2,.cells #[.slice none 0 0] 35 (0,0))]::[(b1,.cells #[pt d] 25 (0,0))]::(K++(s.G d M++H))) (hoff:=Nat.le_of_ble_eq_true rfl) (hfz:=(fun _ _=>P5)) (k:=GL_st (ch:=[]) (b:=b3) (off:=0) (v:=.int .i64 0) (j:=2) (g7::[(b4,.cells #[.int .i64 0] 28 (0,0))]::[(b3,.cells #[.int .i64 0] 3 (0,0))]::[(b2,.cells #[.slice none 0 0] 35 (0,0))]::[(b1,.cells #[pt d] 25 (0,0))]::(K++(s.G d M++H))) (hoff:=Nat.le_of_ble_eq_true rfl) (hfz:=(fun _ _=>P5)) (k:=GL_st (ch:=[]) (b:=b4) (off:=0) (v:=.int .i64 60) (j:=1) (g7::[(b4,.cells #[.int .i64 60] 28 (0,0))]::[(b3,.cells #[.int .i64 0] 3 (0,0))]::[(b2,.cells #[.slice none 0 0] 35 (0,0))]::[(b1,.cells #[pt d] 25 (0,0))]::(K++(s.G d M++H))) (hoff:=Nat.le_of_ble_eq_true rfl) (hfz:=(fun _ _=>P5)) (k:=B5 [] [2,3,4] (k:=A1 (C8 (C0 (N_heq (H':=(g7::[(b4,.cells #[.int .i64 60] 28 (0,0))]::[(b3,.cells #[.int .i64 0] 3 (0,0))]::[(b2,.cells #[.slice none 0 0] 35 (0,0))]::[(b1,.cells #[pt d] 25 (0,0))]::(K++(s.G d M++H)))) kr (N_retM0 [.cell 2 35,.cell 3 3,.cell 4 28] [.slice none 0 0,.int .i64 0,.int .i64 60] rfl (.cons (.oq 3 0 rfl) (.cons (.oq 2 0 rfl) (.cons (.oq 1 0 rfl) (.nil)))) rfl ⟨(K++(s.G d M++H)),?_,fun w h=>(h.pk 5 [])⟩))))))))
 exact ⟨rfl,rfl⟩
theorem readNil_ (W0:World) (H:List Grp):Tri Tryz.prog 12 #[.pointer none] W0 H (fun v H'=>v=.tuple #[.slice none 0 0,.int .i64 0,.int .i64 1]∧H'=H):=by
 refine Tri_ofM (args:=[.pointer none]) (n:=98) Tryz.func12 rfl rfl (Nat.le_of_ble_eq_true rfl) ?_
 refine A2 (A3 (O9 (.pointer none) (fun b1=>O0 (.slice none 0 0) (fun b2=>?_))))
 refine O0 (.int .i64 0) (fun b3=>O0 (.int .i64 0) (fun b4=>?_))
 refine B5 [] [1,2,3,4] (k:=A1 (A2 (A2 (A3 (D0 3 0 rfl rfl (B5 [0] [1,2,3,4,17] (k:=A1 (G6 kr ?_))))))))
 refine A2 (A3 (GL_st (ch:=[]) (b:=b2) (off:=0) (v:=.slice none 0 0) (j:=2) ([(b4,.cells #[.int .i64 0] 28 (0,0))]::[(b3,.cells #[.int .i64 0] 3 (0,0))]::[(b2,.cells #[.slice none 0 0] 35 (0,0))]::[(b1,.cells #[.pointer none] 25 (0,0))]::H) (hoff:=Nat.le_of_ble_eq_true rfl) (hfz:=(fun _ _=>P5)) (k:=GL_st (ch:=[]) (b:=b3) (off:=0) (v:=.int .i64 0) (j:=1) ([(b4,.cells #[.int .i64 0] 28 (0,0))]::[(b3,.cells #[.int .i64 0] 3 (0,0))]::[(b2,.cells #[.slice none 0 0] 35 (0,0))]::[(b1,.cells #[.pointer none] 25 (0,0))]::H) (hoff:=Nat.le_of_ble_eq_true rfl) (hfz:=(fun _ _=>P5)) (k:=GL_st (ch:=[]) (b:=b4) (off:=0) (v:=.int .i64 1) (j:=0) ([(b4,.cells #[.int .i64 1] 28 (0,0))]::[(b3,.cells #[.int .i64 0] 3 (0,0))]::[(b2,.cells #[.slice none 0 0] 35 (0,0))]::[(b1,.cells #[.pointer none] 25 (0,0))]::H) (hoff:=Nat.le_of_ble_eq_true rfl) (hfz:=(fun _ _=>P5)) (k:=B5 [] [2,3,4] (k:=A1 (C8 (C0 ?_))))))))
 refine N_heq (H':=([(b4,.cells #[.int .i64 1] 28 (0,0))]::[(b3,.cells #[.int .i64 0] 3 (0,0))]::[(b2,.cells #[.slice none 0 0] 35 (0,0))]::[(b1,.cells #[.pointer none] 25 (0,0))]::H)) kr (N_retM0 [.cell 2 35,.cell 3 3,.cell 4 28] [.slice none 0 0,.int .i64 0,.int .i64 1] rfl (.cons (.oq 2 0 rfl) (.cons (.oq 1 0 rfl) (.cons (.oq 0 0 rfl) (.nil)))) rfl ⟨H,?_,fun w h=>(h.pk 4 [])⟩)
 exact ⟨rfl,rfl⟩
theorem openG_ {s:DS} {M:DM} (hs:s.ok M) {i q:Nat} (hf:Fx i q M) (hq:q≤10000) (hi:i+2 * q+1≤100000) (K:List Grp) (d:Nat) (n:Int) (hn:1≤n∧n<99) (F:List FB) (hr:ReadOk n F M) (W0:World) (H:List Grp):Tri Tryz.prog 9 #[pt d] W0 (K++(s.G d M++H)) (fun v H'=>∃ (pb:Nat) (GP:List Grp) (s2:DS),v=.tuple #[pt pb,.int .i64 0]∧PrV pb d ⟨n,F,false⟩ GP∧s2.ok (K4 [n - 1,n+1] M)∧H'=GP++(K++(s2.G d (K4 [n - 1,n+1] M)++H))):=by
 have hn100:1≤n∧n<100:=⟨by omega,by omega⟩
 refine D6 34 Tryz.func9 ?_
 refine A2 (B9 (E':=[⟨0,[],pt d⟩]) [0,0] [0] (k:=A1 (A2 (A3 (A5 (j:=1) [0] (k:=E4 Tryz.func12 (read_ hs hf.read K d n hn100 F hr _ H) ?_))))))
 rintro _ _ ⟨zl,Z,g,a,c,rfl,hzl,hZ,hO,rfl⟩
 refine B5 [0,0,0,0,0,0,0] [0,4,5,6] (k:=A1 (A2 (A2 (G_p [0,0,0,1,1,3] [0,4,5,6,19] (k:=A1 (D9 kr (B6 (A1 ?_))))))))
 refine A2 (A3 (A5 (j:=4) [0,0,0,0] (k:=O9 (.agg #[pt d,.int .i64 n,.slice a F.length c,.bool false]) (fun b1=>D5 (E':=[⟨5,[],.int .i64 n⟩,⟨7,[],pt b1⟩]) [0] [5,7] (k:=A1 (A2 (A3 (A5 (j:=3) [0,0,0] (k:=?_)))))))))
 refine F0 28 (n - 1) (by omega) (by omega) kr (A5 (j:=5) [0,0] (k:=F0 30 (n+1) (by omega) (by omega) kr (N2 3 2 [.int .i64 (n - 1),.int .i64 (n+1)] (fun b4=>E4 (vs:=[pt b1,.slice (some ⟨b4,0,none⟩) 2 2]) Tryz.func22 (tidy_ hs hf (by omega) ([[(b4,.cells #[.int .i64 (n - 1),.int .i64 (n+1)] 3 (0,0))],[(b1,.cells #[pt d,.int .i64 n,.slice a F.length c,.bool false] 66 (0,0))],g]++(Z++K)) d b1 n (.slice a F.length c) false (some ⟨b4,0,none⟩) 2 [n - 1,n+1] (inG [(b4,.cells #[.int .i64 (n - 1),.int .i64 (n+1)] 3 (0,0))]) Rd.lit (by show _+2 * _+1≤_; omega) (by intro m hm; simp only [List.mem_cons,List.not_mem_nil,or_false] at hm; omega) (by show 2≤1000000; omega) _ H (H6 0 rfl) (At.grp 1 0 rfl rfl)) ?_))))
 rintro v H' ⟨rfl,s1,hs1,rfl⟩
 refine D5 (E':=[⟨7,[],pt b1⟩]) [] [7] (k:=A1 (A2 (B9 (E':=[⟨2,[],pt b1⟩,⟨3,[],.int .i64 0⟩]) [0,0,0] [2,3] (k:=A1 (C8 (N_pkT 1 [1,1] ([(b1,.cells #[pt d,.int .i64 n,.slice a F.length c,.bool false] 66 (0,0))]::g::((Z++K)++(s1.G d (K4 [n - 1,n+1] M)++H))) (C5 [.tmp 2,.tmp 3] [pt b1,.int .i64 0] (k:=?_))))))))
 exact ⟨_,_::(g::Z),s1,rfl,⟨a,c,C1 zl,g::Z,rfl,(z_files (v:=.nilIface) hZ hO rfl).1,by have:=(z_files (v:=.nilIface) hZ hO rfl).2; rw [hzl] at this; exact this⟩,hs1,app_h _ _ _ _ _⟩
theorem open0_ {s:DS} {M:DM} (hs:s.ok M) {i q:Nat} (hf:Fx i q M) (hq:q≤10000) (hi:i+2 * q+1≤100000) (K:List Grp) (d:Nat) (hno:P1 M G7=(ByteArray.mk #[],60)) (W0:World) (H:List Grp):Tri Tryz.prog 9 #[pt d] W0 (K++(s.G d M++H)) (fun v H'=>∃ (pb:Nat) (GP:List Grp) (s2:DS),v=.tuple #[pt pb,.int .i64 0]∧PrV pb d ⟨0,[],false⟩ GP∧s2.ok (K4 [-1,1] M)∧H'=GP++(K++(s2.G d (K4 [-1,1] M)++H))):=by
 refine D6 34 Tryz.func9 ?_
 refine A2 (B9 (E':=[⟨0,[],pt d⟩]) [0,0] [0] (k:=A1 (A2 (A3 (A5 (j:=1) [0] (k:=E4 Tryz.func12 (readNo_ hs hf.read K d hno _ H) ?_))))))
 rintro _ _ ⟨rfl,rfl⟩
 refine B5 [0,0,0,0,0,0,0] [0,4,5,6] (k:=A1 (A2 (A2 (G_p [0,0,0,0,0,2] [0,4,5,6,19] (k:=A1 (D9 kr (B6 (A1 ?_))))))))
 refine A2 (A3 (A5 (j:=4) [0,0,0,0] (k:=O9 (.agg #[pt d,.int .i64 0,.slice none 0 0,.bool false]) (fun b1=>D5 (E':=[⟨5,[],.int .i64 0⟩,⟨7,[],pt b1⟩]) [0] [5,7] (k:=A1 (A2 (A3 (A5 (j:=3) [0,0,0] (k:=?_)))))))))
 refine F0 28 (0 - 1) (by omega) (by omega) kr (A5 (j:=5) [0,0] (k:=F0 30 (0+1) (by omega) (by omega) kr (N2 3 2 [.int .i64 (0 - 1),.int .i64 (0+1)] (fun b4=>E4 (vs:=[pt b1,.slice (some ⟨b4,0,none⟩) 2 2]) Tryz.func22 (tidy_ hs hf (by omega) ([[(b4,.cells #[.int .i64 (0 - 1),.int .i64 (0+1)] 3 (0,0))],[(b1,.cells #[pt d,.int .i64 0,.slice none 0 0,.bool false] 66 (0,0))]]++K) d b1 0 (.slice none 0 0) false (some ⟨b4,0,none⟩) 2 [0 - 1,0+1] (inG [(b4,.cells #[.int .i64 (0 - 1),.int .i64 (0+1)] 3 (0,0))]) Rd.lit (by show _+2 * _+1≤_; omega) (by intro m hm; simp only [List.mem_cons,List.not_mem_nil,or_false] at hm; omega) (by show 2≤1000000; omega) _ H (H6 0 rfl) (At.grp 1 0 rfl rfl)) ?_))))
 rintro v H' ⟨rfl,s1,hs1,rfl⟩
 refine D5 (E':=[⟨7,[],pt b1⟩]) [] [7] (k:=A1 (A2 (B9 (E':=[⟨2,[],pt b1⟩,⟨3,[],.int .i64 0⟩]) [0,0,0] [2,3] (k:=A1 (C8 (N_pkT 1 [1] ([(b1,.cells #[pt d,.int .i64 0,.slice none 0 0,.bool false] 66 (0,0))]::(K++(s1.G d (K4 [0 - 1,0+1] M)++H))) (C5 [.tmp 2,.tmp 3] [pt b1,.int .i64 0] (k:=?_))))))))
 exact ⟨_,[_],s1,rfl,⟨none,0,[],[],rfl,.inl rfl,.nil⟩,hs1,rfl⟩
theorem openNil_ (W0:World) (H:List Grp):Tri Tryz.prog 9 #[.pointer none] W0 H (fun v H'=>v=.tuple #[.pointer none,.int .i64 1]∧H'=H):=by
 refine D6 34 Tryz.func9 ?_
 refine A2 (B9 (E':=[⟨0,[],.pointer none⟩]) [0,0] [0] (k:=A1 (A2 (A3 (A5 (j:=1) [0] (k:=E4 Tryz.func12 (readNil_ _ _) ?_))))))
 rintro _ _ ⟨rfl,rfl⟩
 refine B5 [0,0,0,0,0,0,0] [0,4,5,6] (k:=A1 (A2 (A2 (G_p [0,0,0,0,0,2] [0,4,5,6,19] (k:=A1 (G6 kr (A2 (G_p [0,0,0] [2,3] (k:=?_)))))))))
 refine A1 (C8 (C0 (C5 [.tmp 2,.tmp 3] [.pointer none,.int .i64 1] (k:=?_))))
 exact ⟨rfl,rfl⟩
theorem publishN_ {s:DS} {M:DM} (hs:s.ok M) {i q:Nat} (_:Fx i q M) (_:i+2 * q+200≤100000) (_:q+30≤10000) (K:List Grp) (d pb:Nat) (pn:Int) (_:0≤pn∧pn<98) (pv:Value) (pdn:Bool) (PF:List FB) (fa:Option Addr) (fc:Nat) (F:List FB) (cs:List Value) (S:Nat→Obj→Prop) (hrd:Rd S fa cs) (hF:FRd S F cs) (hn20:F.length≤20) (hz:∀ f∈F,f.1.size≤1000000) (hb:∀ f∈F,f.2.size≤100000) {s0:List FB} (hsm:F8 F=none) {e2:Int} {p2:PM} {M2:DM} (hpub:E8 ⟨pn,PF,pdn⟩ M F=(e2,p2,M2)) (W0:World) (H:List Grp) (hS:∀ y o,S y o→At W0 (K++(s.G d M++H)) y o):Tri Tryz.prog 10 #[pt pb,.slice fa F.length fc] W0 ([(pb,.cells #[pt d,.int .i64 pn,pv,.bool pdn] 66 (0,0))]::(K++(s.G d M++H))) (fun v H'=>∃ s2:DS,s2.ok M2∧v=.int .i64 e2∧((∃ b,p2=⟨pn,PF,b⟩∧H'=[(pb,.cells #[pt d,.int .i64 pn,pv,.bool b] 66 (0,0))]::(K++(s2.G d M2++H)))∨(∃ (zl:List SE) (Z:List Grp) (g:Grp) (a:Option Addr) (c:Nat),p2=⟨pn+1,s0,false⟩∧zl.map Prod.fst=s0∧(∀ z∈zl,ZOk (inZ Z) z)∧Go.Sw.Own 34 2 (.slice a s0.length c) g s0.length (C1 zl)∧H'=[(pb,.cells #[pt d,.int .i64 (pn+1),.slice a s0.length c,.bool false] 66 (0,0))]::(g::((Z++K)++(s2.G d M2++H)))))):=by
 refine D6 63 Tryz.func10 ?_
 refine A2 (G_p [0] [0,1] (k:=A1 (A2 (A2 (G_p [0,0] [0,1,10] (k:=A1 (D9 kr (B6 ?_))))))))
 refine A1 (A2 (A3 (A5 (j:=1) [0] (k:=E4 Tryz.func23 (sortedN fa fc F cs S hrd hF hn20 hz (fun f hf=>by have:=hb f hf; omega) hsm _ _ (fun y o h=>At.cons (hS y o h))) ?_))))
 rintro _ _ ⟨rfl,rfl⟩
 refine B5 [0,0,0,0,0] [0,5,6] (k:=A1 (A2 (B8 (A2 (G_p [0,0,0] [0,5,16] (k:=A1 (G6 kr (A2 ?_))))))))
 refine B9 (E':=[⟨4,[],.int .i64 2⟩]) [0] [4] (k:=A1 (C8 (G3 (C0 (C5 [.tmp 4] [.int .i64 2] (k:=?_))))))
 rw [pub_arg hsm] at hpub
 obtain ⟨rfl,rfl,rfl⟩:=Prod.mk.inj hpub |>.imp id Prod.mk.inj
 exact ⟨s,hs,rfl,.inl ⟨_,rfl,rfl⟩⟩
theorem publishS_ {s:DS} {M:DM} (hs:s.ok M) {i q:Nat} (hf:Fx i q M) (hi:i+2 * q+200≤100000) (hq:q+30≤10000) (K:List Grp) (d pb:Nat) (pn:Int) (hpn:0≤pn∧pn<98) (pv:Value) (pdn:Bool) (PF:List FB) (fa:Option Addr) (fc:Nat) (F:List FB) (cs:List Value) (S:Nat→Obj→Prop) (hrd:Rd S fa cs) (hF:FRd S F cs) (hn20:F.length≤20) (hz:∀ f∈F,f.1.size≤1000000) (hb:∀ f∈F,f.2.size≤100000) {s0:List FB} (hsm:F8 F=some s0) {e2:Int} {p2:PM} {M2:DM} (hpub:E8 ⟨pn,PF,pdn⟩ M F=(e2,p2,M2)) (W0:World) (H:List Grp) (hS:∀ y o,S y o→At W0 (K++(s.G d M++H)) y o):Tri Tryz.prog 10 #[pt pb,.slice fa F.length fc] W0 ([(pb,.cells #[pt d,.int .i64 pn,pv,.bool pdn] 66 (0,0))]::(K++(s.G d M++H))) (fun v H'=>∃ s2:DS,s2.ok M2∧v=.int .i64 e2∧((∃ b,p2=⟨pn,PF,b⟩∧H'=[(pb,.cells #[pt d,.int .i64 pn,pv,.bool b] 66 (0,0))]::(K++(s2.G d M2++H)))∨(∃ (zl:List SE) (Z:List Grp) (g:Grp) (a:Option Addr) (c:Nat),p2=⟨pn+1,s0,false⟩∧zl.map Prod.fst=s0∧(∀ z∈zl,ZOk (inZ Z) z)∧Go.Sw.Own 34 2 (.slice a s0.length c) g s0.length (C1 zl)∧H'=[(pb,.cells #[pt d,.int .i64 (pn+1),.slice a s0.length c,.bool false] 66 (0,0))]::(g::((Z++K)++(s2.G d M2++H)))))):=by
 have hso:=K3 hsm
 have hs20:s0.length≤20:=by rw [hso.perm.length_eq]; exact hn20
 have hlz0:(C6 s0).size≤100000:=by
  have h1:=A0i (F:=s0) (z:=80) fun f hf=>X4 (hso.names f hf)
  have h2:s0.length * (80+66)≤20 * 146:=Nat.mul_le_mul hs20 (Nat.le_refl _)
  omega
 refine D6 63 Tryz.func10 ?_
 refine A2 (G_p [0] [0,1] (k:=A1 (A2 (A2 (G_p [0,0] [0,1,10] (k:=A1 (D9 kr (B6 ?_))))))))
 refine A1 (A2 (A3 (A5 (j:=1) [0] (k:=E4 Tryz.func23 (sortedS fa fc F cs S hrd hF hn20 hz (fun f hf=>by have:=hb f hf; omega) hsm _ [(pb,.cells #[pt d,.int .i64 pn,pv,.bool pdn] 66 (0,0))] K _ (fun y o h=>At.cons (hS y o h))) ?_))))
 rintro _ _ ⟨zl,Z,g,a,c,hzl,rfl,hZ,hO,rfl⟩
 refine B5 [0,0,0,0,0] [0,5,6] (k:=A1 (A2 (B8 (A2 (G_p [0,0,0] [0,5,16] (k:=A1 (D9 kr (A2 ?_))))))))
 refine A3 (A5 (j:=3) [0,0,0] (k:=D0 1 3 rfl rfl (B5 [0] [0,5,19] (k:=A1 (D2 (b:=pdn) kr (fun hc1=>?_) (fun hc1=>?_))))))
 ·
  have hdn:pdn=true:=hc1
  refine A2 (B9 (E':=[⟨4,[],.int .i64 63⟩]) [0] [4] (k:=A1 (C8 (G3 (C0 (N_pkT 1 [1] ([(pb,.cells #[pt d,.int .i64 pn,pv,.bool pdn] 66 (0,0))]::((Z++K)++(s.G d M++H))) (G8 (fun w h=>(drop_z (P:=[(pb,.cells #[pt d,.int .i64 pn,pv,.bool pdn] 66 (0,0))]) (Z:=Z) (K:=K) (X:=(s.G d M++H)) h)) (C5 [.tmp 4] [.int .i64 63] (k:=?_)))))))))
  rw [pub_down (p:=⟨pn,PF,pdn⟩) hsm hdn] at hpub
  obtain ⟨rfl,rfl,rfl⟩:=Prod.mk.inj hpub |>.imp id Prod.mk.inj
  exact ⟨s,hs,rfl,.inl ⟨_,rfl,rfl⟩⟩
 ·
  have hdn:pdn=false:=hc1
  refine B6 (D3 (A1 (A2 (A3 (A5 (j:=3) [0,0,0] (k:=D0 1 1 rfl rfl (A5 (j:=5) [0] (k:=F0 28 (pn+1) (by omega) (by omega) kr ?_))))))))
  refine D5 (E':=[⟨0,[],pt pb⟩,⟨5,[],.slice a s0.length c⟩,⟨7,[],.int .i64 (pn+1)⟩]) [0] [0,5,7] (k:=A1 (A2 (A2 (A3 (A5 (j:=3) [0,0,0] (k:=?_))))))
  have hfr:FRd (fun y o=>inG g y o∨inZ Z y o) s0 (C1 zl):=by have h1:=frd_z (S:=(fun y o=>inG g y o∨inZ Z y o)) (l:=zl) (fun z hz=>T8 (fun b o h=>.inr h) (hZ z hz)); rw [hzl] at h1; exact h1
  refine E4 Tryz.func24 (lay_ a c s0 (C1 zl) (fun y o=>inG g y o∨inZ Z y o) ((I4 hO).mono fun b o h=>.inl h) hfr (by omega) (fun f hf=>by have:=X4 (hso.names f hf); omega) (fun f hf=>hb f (hso.perm.mem_iff.1 hf)) hlz0 (pn+1) ⟨by omega,by omega⟩ hs hf (by omega) (by omega) ([g,[(pb,.cells #[pt d,.int .i64 pn,pv,.bool pdn] 66 (0,0))]]++(Z++K)) d pb pn pv pdn _ H (fun y o h=>h.elim (fun h=>H6 0 rfl y o h) (fun h=>At.cons (At.cons (at_z (Z:=Z) (X:=K) h)))) (At.grp 1 0 rfl rfl)) ?_
  rintro v H' ⟨rfl,s1,hs1,rfl⟩
  have hf3:=fx_lay hf (n:=pn+1) ⟨by omega,by omega⟩ (F:=s0) (fun f hf=>hb f (hso.perm.mem_iff.1 hf)) hlz0
  refine B5 [0] [0,5,7,8] (k:=A1 (A2 (G_p [0,0] [0,5,7,8,34] (k:=A1 (D2 (b:=((Y7 (pn+1) s0 M).1) != 0) kr (fun hc4=>?_) (fun hc4=>?_))))))
  ·
   have hne:=bne_iff_ne.1 hc4
   refine A2 (A2 (G_p [0,0] [0,7,8,36] (k:=A1 (D2 (b:=((Y7 (pn+1) s0 M).1)==61) kr (fun hc5=>?_) (fun hc5=>?_)))))
   ·
    have h61:(Y7 (pn+1) s0 M).1=61:=by simpa using hc5
    refine A3 (A5 (j:=2) [0,0] (k:=N2 3 1 [.int .i64 (pn+1)] (fun b6=>E4 (vs:=[pt pb,.slice (some ⟨b6,0,none⟩) 1 1]) Tryz.func22 (tidy_ hs1 hf3 (by omega) ([[(b6,.cells #[.int .i64 (pn+1)] 3 (0,0))],g,[(pb,.cells #[pt d,.int .i64 pn,pv,.bool pdn] 66 (0,0))]]++(Z++K)) d pb pn pv pdn (some ⟨b6,0,none⟩) 1 [pn+1] (inG [(b6,.cells #[.int .i64 (pn+1)] 3 (0,0))]) Rd.lit (by show _+1 * _+1≤_; omega) (by intro m hm; simp only [List.mem_cons,List.not_mem_nil,or_false] at hm; omega) (by show 1≤1000000; omega) _ H (H6 0 rfl) (At.grp 2 0 rfl rfl)) ?_)))
    rintro v H' ⟨rfl,s2,hs2,rfl⟩
    refine B5 [] [8] (k:=A1 (A2 (G_p [0,0] [4] (k:=A1 (C8 (C0 (N_pkT 2 [2] ([(pb,.cells #[pt d,.int .i64 pn,pv,.bool pdn] 66 (0,0))]::((Z++K)++(s2.G d (K4 [pn+1] ((Y7 (pn+1) s0 M).2))++H))) (G8 (fun w h=>(drop_z (P:=[(pb,.cells #[pt d,.int .i64 pn,pv,.bool pdn] 66 (0,0))]) (Z:=Z) (K:=K) (X:=(s2.G d (K4 [pn+1] ((Y7 (pn+1) s0 M).2))++H)) h)) ?_))))))))
    refine C5 [.tmp 4] [.int .i64 ((Y7 (pn+1) s0 M).1)] (k:=?_)
    rw [pub_room (p:=⟨pn,PF,pdn⟩) hsm hdn h61] at hpub
    obtain ⟨rfl,rfl,rfl⟩:=Prod.mk.inj hpub |>.imp id Prod.mk.inj
    exact ⟨s2,hs2,congrArg (Value.int .i64) h61,.inl ⟨_,rfl,rfl⟩⟩
   ·
    have h61:(Y7 (pn+1) s0 M).1≠61:=by simpa using hc5
    refine A3 (A5 (j:=3) [0,0,0] (k:=GL_st (ch:=[]) (b:=pb) (off:=3) (v:=.bool true) (j:=1) (g::[(pb,.cells #[pt d,.int .i64 pn,pv,.bool true] 66 (0,0))]::((Z++K)++(s1.G d ((Y7 (pn+1) s0 M).2)++H))) (hoff:=Nat.le_of_ble_eq_true rfl) (hfz:=(fun _ _=>P5)) (k:=B5 [] [8] (k:=A1 (A2 (G_p [0,0] [4] (k:=A1 (C8 ?_))))))))
    refine C0 (N_pkT 1 [1] ([(pb,.cells #[pt d,.int .i64 pn,pv,.bool true] 66 (0,0))]::((Z++K)++(s1.G d ((Y7 (pn+1) s0 M).2)++H))) (G8 (fun w h=>(drop_z (P:=[(pb,.cells #[pt d,.int .i64 pn,pv,.bool true] 66 (0,0))]) (Z:=Z) (K:=K) (X:=(s1.G d ((Y7 (pn+1) s0 M).2)++H)) h)) (C5 [.tmp 4] [.int .i64 ((Y7 (pn+1) s0 M).1)] (k:=?_))))
    rw [pub_err (p:=⟨pn,PF,pdn⟩) hsm hdn hne h61] at hpub
    obtain ⟨rfl,rfl,rfl⟩:=Prod.mk.inj hpub |>.imp id Prod.mk.inj
    exact ⟨s1,hs1,rfl,.inl ⟨_,rfl,rfl⟩⟩
  ·
   have heq:(Y7 (pn+1) s0 M).1=0:=by simpa using hc4
   refine B6 (A1 (A2 (A3 (A5 (j:=6) [0,0,0,0,0,0] (k:=GL_st (ch:=[]) (b:=pb) (off:=1) (v:=.int .i64 (pn+1)) (j:=1) (g::[(pb,.cells #[pt d,.int .i64 (pn+1),pv,.bool pdn] 66 (0,0))]::((Z++K)++(s1.G d ((Y7 (pn+1) s0 M).2)++H))) (hoff:=Nat.le_of_ble_eq_true rfl) (hfz:=(fun _ _=>P5)) (k:=A5 (j:=9) [0,0] (k:=GL_st (ch:=[]) (b:=pb) (off:=2) (v:=.slice a s0.length c) (j:=1) (g::[(pb,.cells #[pt d,.int .i64 (pn+1),.slice a s0.length c,.bool pdn] 66 (0,0))]::((Z++K)++(s1.G d ((Y7 (pn+1) s0 M).2)++H))) (hoff:=Nat.le_of_ble_eq_true rfl) (hfz:=(fun _ _=>P5)) (k:=B5 [] [0,7] (k:=?_)))))))))
   refine A1 (A2 (A2 (G_p [0,0] [0,7,54] (k:=A1 (D2 (b:=decide ((pn+1) > 1)) kr (fun hc8=>?_) (fun hc8=>?_))))))
   ·
    have hgt:=of_decide_eq_true hc8
    refine F4 (g::[(pb,.cells #[pt d,.int .i64 (pn+1),.slice a s0.length c,.bool pdn] 66 (0,0))]::(Z++K)) kr (E2 (fuel:=7) [(0,0)] (fun w h=>(Sat.takeMid (K:=[_,_]) (A:=(Z++K)) h)) (k:=P0 (ad:=⟨pb,0,none⟩) 1 (hL:=(fun w h=>(Sat.takeMid (K:=[_,_]) (A:=(Z++K)) h))) (k:=E2 (fuel:=5) [(2,0)] (fun w h=>(Sat.takeMid (K:=[_,_]) (A:=(Z++K)) h)) (k:=A9 3 kr (fun w h=>(Sat.takeMid (K:=[_,_]) (A:=(Z++K)) h)) (D0 1 0 rfl rfl (B4 kr rfl)) (E2 (fuel:=2) [(4,0),(5,0)] (fun w h=>(Sat.takeMid (K:=[_,_]) (A:=(Z++K)) h)) (k:=Y2 60 ((pn+1) - 1) (by omega) (by omega) kr (C2 6 (k:=G1 Tryz.func26 (dir_ ((pn+1) - 1) ⟨by omega,by omega⟩ _ _) ?_))))))))
    refine A7 kr (fun w h=>(Sat.takeMid (K:=[_,_]) (A:=(Z++K)) h)) (C2 7 (k:=E4 Tryz.func25 (sweep_ hs1 hf3 (by omega) (by omega) ([g,[(pb,.cells #[pt d,.int .i64 (pn+1),.slice a s0.length c,.bool pdn] 66 (0,0))]]++(Z++K)) d (gB ((pn+1) - 1)) _ H) ?_))
    rintro v H' ⟨rfl,s3,hs3,rfl⟩
    refine A7 kr (fun w h=>(Sat.takeMid (K:=[_,_]) (A:=(Z++K)) h)) (D8 (E':=[]) [] (k:=A1 (A2 (B9 (E':=[⟨4,[],.int .i64 0⟩]) [0] [4] (k:=A1 (C8 (N_pkT 0 [1,0] ([(pb,.cells #[pt d,.int .i64 (pn+1),.slice a s0.length c,.bool pdn] 66 (0,0))]::g::((Z++K)++(s3.G d (L7 (gB ((pn+1) - 1)) ((Y7 (pn+1) s0 M).2))++H))) (C5 [.tmp 4] [.int .i64 0] (k:=?_)))))))))
    rw [pub_ok (p:=⟨pn,PF,pdn⟩) hsm hdn heq,if_pos hgt] at hpub
    obtain ⟨rfl,rfl,rfl⟩:=Prod.mk.inj hpub |>.imp id Prod.mk.inj
    have e9:pn+1 - 1=pn:=by omega
    rw [e9] at hs3 ⊢
    exact ⟨s3,hs3,rfl,.inr ⟨zl,Z,g,a,c,rfl,hzl,hZ,hO,by rw [hdn]⟩⟩
   ·
    have hgt:=of_decide_eq_false hc8
    refine B6 (A1 (A2 (B9 (E':=[⟨4,[],.int .i64 0⟩]) [0] [4] (k:=A1 (C8 (N_pkT 0 [1,0] ([(pb,.cells #[pt d,.int .i64 (pn+1),.slice a s0.length c,.bool pdn] 66 (0,0))]::g::((Z++K)++(s1.G d ((Y7 (pn+1) s0 M).2)++H))) (C5 [.tmp 4] [.int .i64 0] (k:=?_))))))))
    rw [pub_ok (p:=⟨pn,PF,pdn⟩) hsm hdn heq,if_neg hgt] at hpub
    obtain ⟨rfl,rfl,rfl⟩:=Prod.mk.inj hpub |>.imp id Prod.mk.inj
    exact ⟨s1,hs1,rfl,.inr ⟨zl,Z,g,a,c,rfl,hzl,hZ,hO,by rw [hdn]⟩⟩
end Go.Proofs.YtdolpaagdpeagaaGreatDoor
namespace Go.Pr
open Go.Sw Go.Vf Go.Lib Go.Proofs.YtdolpaagdpeagaaGreatDoor
def vw (M:DM):List FB:=M.names.map fun x=>(x.1,(I5 M x.2).now)
def del (p:ByteArray) (V:List FB):List FB:=V.filter fun x=>!(p==x.1)
def szV (V:List FB):Nat:=(V.map fun x=>x.2.size).sum
def getV:List FB→ByteArray→Option ByteArray
  | [],_=>none
  | x::V,p=>if p==x.1 then some x.2 else getV V p
structure Vs (R:Int) (M:DM) (V:List FB):Prop where
  qt:M.fails=false
  eq:vw M=V
  ok:∀ x∈M.names,0≤x.2∧x.2.toNat<M.bodies.length∧A4 x.1=true
  nd:(V.map Prod.fst).Nodup
  room:M.room=R
theorem W8 (V W:List FB):szV (V++W)=szV V+szV W:=by unfold szV; rw [List.map_append,List.sum_append]
theorem Z4 (x:FB):szV [x]=x.2.size:=by simp [szV]
theorem getV_map (f:Int→ByteArray) (p:ByteArray):∀ l:List Nm,getV (l.map fun x=>(x.1,f x.2)) p=(C9 l p).map f
  | []=>rfl
  | x::l=>by
    show (if p==x.1 then some (f x.2) else getV (l.map fun x=>(x.1,f x.2)) p)=(if p==x.1 then some x.2 else C9 l p).map f
    split
    · rfl
    · exact getV_map f p l
theorem getV_none {V:List FB} {p:ByteArray}:getV V p=none ↔ ∀ x∈V,x.1≠p:=by
  induction V with
  | nil=>exact ⟨fun _ x h=>absurd h List.not_mem_nil,fun _=>rfl⟩
  | cons y V ih =>
    show (if p==y.1 then some y.2 else getV V p)=none ↔ _
    by_cases h:p=y.1
    · subst h
      rw [if_pos (by simp)]
      exact ⟨fun h=>(by cases h),fun h=>absurd rfl (h y List.mem_cons_self)⟩
    · rw [if_neg (by simpa using h),ih]
      exact ⟨fun h2 x hx=>by
        rcases List.mem_cons.1 hx with rfl | hx
        · exact fun e=>h e.symm
        · exact h2 x hx,fun h2 x hx=>h2 x (List.mem_cons_of_mem _ hx)⟩
theorem getV_mem {V:List FB} (hn:(V.map Prod.fst).Nodup) {x:FB} (hx:x∈V):getV V x.1=some x.2:=by
  induction V with
  | nil=>exact absurd hx List.not_mem_nil
  | cons y V ih =>
    rw [List.map_cons,List.nodup_cons] at hn
    show (if x.1==y.1 then some y.2 else getV V x.1)=_
    rcases List.mem_cons.1 hx with rfl | hx
    · rw [if_pos (by simp)]
    · rw [if_neg (by
        intro e
        have e2:x.1=y.1:=by simpa using e
        exact hn.1 (by rw [← e2]; exact List.mem_map_of_mem hx))]
      exact ih hn.2 hx
theorem del_none {V:List FB} {p:ByteArray} (h:getV V p=none):del p V=V:=by
  unfold del
  rw [List.filter_eq_self]
  intro x hx
  have:=getV_none.1 h x hx
  simpa using fun e=>this e.symm
theorem del_app (p:ByteArray) (V W:List FB):del p (V++W)=del p V++del p W:=List.filter_append ..
theorem del_names (f:Int→ByteArray) (p:ByteArray) (l:List Nm):(l.filter fun n=>!(p==n.1)).map (fun x=>(x.1,f x.2))=del p (l.map fun x=>(x.1,f x.2)):=by
  unfold del
  rw [List.filter_map]; rfl
theorem nd_del {V:List FB} (h:(V.map Prod.fst).Nodup) (p:ByteArray):((del p V).map Prod.fst).Nodup:=h.sublist (List.filter_sublist.map _)
theorem nd_snoc {V:List FB} (h:(V.map Prod.fst).Nodup) {p b:ByteArray} (hp:getV V p=none):((V++[(p,b)]).map Prod.fst).Nodup:=by
  rw [List.map_append,List.nodup_append]
  refine ⟨h,by simp,fun a ha c hc=>?_⟩
  simp at hc; subst hc
  obtain ⟨x,hx,rfl⟩:=List.mem_map.1 ha
  exact getV_none.1 hp x hx
theorem del_get (V:List FB) (p:ByteArray):getV (del p V) p=none:=getV_none.2 fun x hx e=>by
  have:=(List.mem_filter.1 hx).2
  rw [e] at this; simp at this
theorem wpos {l:List Nm} {p:ByteArray} {k:Int} (hk:0≤k):E7 l [(p,k)]=l.filter (fun n=>!(p==n.1))++[(p,k)]:=by
  show l.filter (fun n=>!(p==n.1))++(if 0≤((p,k):Nm).2 then [(p,k)] else [])=_
  rw [if_pos (show 0≤((p,k):Nm).2 from hk)]
theorem wdel {l:List Nm} {p:ByteArray}:E7 l [(p,-1)]=l.filter (fun n=>!(p==n.1)):=by
  show l.filter (fun n=>!(p==n.1))++(if 0≤((p,-1):Nm).2 then [(p,-1)] else [])=_
  rw [if_neg (show ¬ (0:Int)≤((p,-1):Nm).2 from (by decide:¬ (0:Int)≤-1)),List.append_nil]
section
variable {R : Int} {M : DM} {V : List FB} (h : Vs R M V)
include h
theorem Vs.err:J0 M true=0∧J9 M true=M:=err_ok rfl h.qt
theorem Vs.get (p:ByteArray):getV V p=(C9 M.names p).map fun k=>(I5 M k).now:=by rw [← h.eq]; exact getV_map (fun k=>(I5 M k).now) p M.names
theorem Vs.used:V0 M=szV V:=by
  rw [← h.eq]; unfold V0 szV vw
  rw [List.map_map]; rfl
theorem Vs.look {p c:ByteArray} (hp:getV V p=some c):∃ k,C9 M.names p=some k∧(I5 M k).now=c:=by
  rw [h.get] at hp
  cases hl:C9 M.names p with
  | none=>rw [hl] at hp; cases hp
  | some k=>rw [hl] at hp; exact ⟨k,rfl,by injection hp⟩
theorem Vs.no {p:ByteArray} (hp:getV V p=none):C9 M.names p=none:=by
  rw [h.get] at hp
  cases hl:C9 M.names p with
  | none=>rfl
  | some k=>rw [hl] at hp; cases hp
theorem Vs.read {p c:ByteArray} (hp:getV V p=some c):P1 M p=(c,0):=by
  obtain ⟨k,h1,h2⟩:=h.look hp
  rw [readM_ok h1,h2]
theorem Vs.readNo {p:ByteArray} (hp:getV V p=none):P1 M p=(ByteArray.mk #[],60):=by unfold P1; rw [h.no hp]
theorem Vs.key {x:FB} (hx:x∈V):A4 x.1=true:=by
  rw [← h.eq] at hx
  obtain ⟨y,hy,rfl⟩:=List.mem_map.1 hx
  exact (h.ok y hy).2.2
theorem Vs.write {p b:ByteArray} (hr:A4 p=true) (hp:getV V p=none):(((szV V+b.size:Nat):Int)≤R→(E5 M p b).1=0∧Vs R (E5 M p b).2 (V++[(p,b)]))∧(¬ ((szV V+b.size:Nat):Int)≤R→E5 M p b=(61,M)):=by
  have hl:=h.no hp
  have he:J0 M (A4 p)=0:=by rw [hr]; exact h.err.1
  have hc:J9 M (A4 p)=M:=by rw [hr]; exact h.err.2
  have hw:(wasM M p:Int)=0:=by unfold wasM; rw [hl]; rfl
  have hu:=h.used
  have hR:=h.room
  constructor
  · intro hfit
    rw [W7 he (by rw [hw,hu,hR]; omega),hc]
    refine ⟨rfl,h.qt,?_,fun x hx=>?_,nd_snoc h.nd hp,h.room⟩
    · show (E7 M.names [(p,(M.bodies.length:Int))]).map (fun x=>(x.1,((M.bodies++[(⟨b,ByteArray.mk #[]⟩:Body)]).getD x.2.toNat default).now))=_
      rw [wpos (by omega),List.map_append,List.filter_eq_self.2 (fun x hx=>by
        have:getV (vw M) p=none:=by rw [h.eq]; exact hp
        have:=getV_none.1 this (x.1,(I5 M x.2).now) (List.mem_map_of_mem hx)
        simpa using fun e=>this e.symm)]
      congr 1
      · rw [← h.eq]
        refine List.map_congr_left fun x hx=>?_
        rw [List.getD_eq_getElem?_getD,List.getElem?_append_left (h.ok x hx).2.1]
        unfold I5
        rw [List.getD_eq_getElem?_getD]
      · show [(p,((M.bodies++[(⟨b,ByteArray.mk #[]⟩:Body)]).getD ((M.bodies.length:Nat):Int).toNat default).now)]=_
        rw [Int.toNat_natCast,List.getD_eq_getElem?_getD]
        simp
    · have hx:x∈E7 M.names [(p,(M.bodies.length:Int))]:=hx
      rw [wpos (by omega)] at hx
      show 0≤x.2∧x.2.toNat<(M.bodies++[_]).length∧_
      rw [List.length_append,List.length_singleton]
      rcases List.mem_append.1 hx with hx | hx
      · have:=h.ok x (List.mem_filter.1 hx).1
        exact ⟨this.1,by omega,this.2.2⟩
      · rw [List.mem_singleton.1 hx]
        exact ⟨by show (0:Int)≤(M.bodies.length:Int); omega,by show ((M.bodies.length:Nat):Int).toNat<_; omega,hr⟩
  · intro hfit
    rw [Q0 he (by rw [hw,hu,hR]; omega),hc]
theorem Vs.sync {p c:ByteArray} (hr:A4 p=true) (hp:getV V p=some c):(N5 M p).1=0∧Vs R (N5 M p).2 V:=by
  obtain ⟨k,h1,h2⟩:=h.look hp
  have he:J0 M (A4 p)=0:=by rw [hr]; exact h.err.1
  have hc:J9 M (A4 p)=M:=by rw [hr]; exact h.err.2
  rw [Y4 he h1,hc]
  refine ⟨rfl,h.qt,?_,fun x hx=>?_,h.nd,h.room⟩
  · rw [← h.eq]
    refine List.map_congr_left fun x _=>?_
    show (x.1,((M.bodies.set k.toNat ⟨(I5 M k).now,(I5 M k).now⟩).getD x.2.toNat default).now)=(x.1,(M.bodies.getD x.2.toNat default).now)
    by_cases e:k.toNat=x.2.toNat
    · by_cases hlt:k.toNat<M.bodies.length
      · rw [← e,List.getD_eq_getElem?_getD,List.getElem?_set_self hlt]; rfl
      · rw [List.set_eq_of_length_le (by omega)]
    · rw [List.getD_eq_getElem?_getD,List.getElem?_set_ne e,List.getD_eq_getElem?_getD]
  · have:=h.ok x hx
    exact ⟨this.1,by show _<(M.bodies.set _ _).length; rw [List.length_set]; exact this.2.1,this.2.2⟩
theorem Vs.names {l:List Nm} {c:List Ch} (hl:∀ x∈l,x∈M.names) {W:List FB} (hW:(l.map fun x=>(x.1,(I5 M x.2).now))=W) (hn:(W.map Prod.fst).Nodup):Vs R { M with names:=l,changes:=c } W :=
  ⟨h.qt,hW,fun x hx=>h.ok x (hl x hx),hn,h.room⟩
theorem Vs.remove {p:ByteArray} (hr:A4 p=true):Vs R (J6 M p).2 (del p V)∧(getV V p≠none→(J6 M p).1=0):=by
  have he:J0 M (A4 p)=0:=by rw [hr]; exact h.err.1
  have hc:J9 M (A4 p)=M:=by rw [hr]; exact h.err.2
  cases hl:C9 M.names p with
  | none =>
    have hp:getV V p=none:=by rw [h.get,hl]; rfl
    rw [W4 he hl,hc,del_none hp]
    exact ⟨h,fun h2=>absurd hp h2⟩
  | some k =>
    rw [S4 he hl,hc]
    refine ⟨?_,fun _=>rfl⟩
    show Vs R { M with names:=E7 M.names [(p,-1)],changes:=_ } _
    rw [wdel]
    exact h.names (fun x hx=>(List.mem_filter.1 hx).1) (by rw [del_names (fun k=>(I5 M k).now)]; rw [← h.eq]; rfl) (nd_del h.nd p)
theorem Vs.rename {p q c:ByteArray} (hr:renR p q=true) (hq:A4 q=true) (hne:(p==q)=false) (hp:getV V p=some c):(H9 M p q).1=0∧Vs R (H9 M p q).2 (del q (del p V)++[(q,c)]):=by
  obtain ⟨k,h1,h2⟩:=h.look hp
  have he:J0 M (renR p q)=0:=by rw [hr]; exact h.err.1
  have hc:J9 M (renR p q)=M:=by rw [hr]; exact h.err.2
  have hk:(p,k)∈M.names:=by
    have:∀ l:List Nm,C9 l p=some k→(p,k)∈l:=by
      intro l
      induction l with
      | nil=>intro e; cases e
      | cons x l ih =>
        intro e
        change (if p==x.1 then some x.2 else C9 l p)=some k at e
        split at e
        · rename_i e2
          have e3:p=x.1:=by simpa using e2
          injection e with e
          rw [show (p,k)=x from by rw [e3,← e]]
          exact List.mem_cons_self
        · exact List.mem_cons_of_mem _ (ih e)
    exact this _ h1
  obtain ⟨k0,k1,_⟩:=h.ok _ hk
  rw [N4 he h1 hne,hc]
  refine ⟨rfl,?_⟩
  show Vs R { M with names:=E7 (E7 M.names [(p,-1)]) [(q,k)],changes:=_ } _
  rw [wdel,wpos k0]
  refine ⟨h.qt,?_,fun x hx=>?_,nd_snoc (nd_del (nd_del h.nd p) q) (del_get _ _),h.room⟩
  · show List.map (fun x:Nm=>(x.1,(I5 M x.2).now)) _=_
    rw [List.map_append,del_names (fun k=>(I5 M k).now),del_names (fun k=>(I5 M k).now)]
    rw [show M.names.map (fun x=>(x.1,(I5 M x.2).now))=V from h.eq]
    congr 1
    show [(q,(I5 M k).now)]=_
    rw [h2]
  · rcases List.mem_append.1 hx with hx | hx
    · exact h.ok x (List.mem_filter.1 (List.mem_filter.1 hx).1).1
    · rw [List.mem_singleton.1 hx]; exact ⟨k0,k1,hq⟩
theorem Vs.sdir {d:ByteArray} (hd:dirR d=true):(H5 M d).1=0∧Vs R (H5 M d).2 V:=by
  have he:J0 M (dirR d)=0:=by rw [hd]; exact h.err.1
  have hc:J9 M (dirR d)=M:=by rw [hd]; exact h.err.2
  rw [K2 he,hc]
  exact ⟨rfl,h.qt,h.eq,h.ok,h.nd,h.room⟩
theorem Vs.put {p b:ByteArray} (hr:A4 p=true) (hp:getV V p=none):(((szV V+b.size:Nat):Int)≤R→(E9 (V3 p b) M).1=0∧Vs R (E9 (V3 p b) M).2 (V++[(p,b)]))∧(¬ ((szV V+b.size:Nat):Int)≤R→E9 (V3 p b) M=(61,M)):=by
  obtain ⟨w1,w2⟩:=h.write (b:=b) hr hp
  constructor
  · intro hf
    obtain ⟨e,hv⟩:=w1 hf
    have hg:getV (V++[(p,b)]) p=some b:=getV_mem (x:=(p,b)) hv.nd (List.mem_append_right _ (List.mem_singleton.2 rfl))
    obtain ⟨e2,hv2⟩:=hv.sync hr hg
    show (if (E5 M p b).1 != 0 then E5 M p b else if (N5 (E5 M p b).2 p).1 != 0 then N5 (E5 M p b).2 p else (0,(N5 (E5 M p b).2 p).2)).1=0∧Vs R (if (E5 M p b).1 != 0 then E5 M p b else if (N5 (E5 M p b).2 p).1 != 0 then N5 (E5 M p b).2 p else (0,(N5 (E5 M p b).2 p).2)).2 _
    rw [if_neg (by rw [e]; decide),if_neg (by rw [e2]; decide)]
    exact ⟨rfl,hv2⟩
  · intro hf
    have e:=w2 hf
    show (if (E5 M p b).1 != 0 then E5 M p b else _)=_
    rw [e]; rfl
end
end Go.Pr
namespace Go.Pr
open Go.Sw Go.Vf Go.Lib Go.Proofs.YtdolpaagdpeagaaGreatDoor
def At' (n:Int) (F:List FB):List FB:=F.map fun f=>(inG n f.1,f.2)
def Gv (n:Int) (F:List FB):List FB:=if n=0 then [] else At' n F++([(inG n maniB,C6 F)]++[(G7,gB n++lfB)])
theorem gv_pos {n:Int} (h:n≠0) (F:List FB):Gv n F=At' n F++([(inG n maniB,C6 F)]++[(G7,gB n++lfB)]):=if_neg h
structure Nms (s:List FB):Prop where
  nd:(s.map Prod.fst).Nodup
  part:∀ f∈s,G2 f.1=true
  man:∀ f∈s,f.1≠maniB
theorem nms_of {s:List FB} (ha:Asc s) (hn:∀ f∈s,R2 f.1=true):Nms s:=⟨A0c ha,fun f hf=>(name_part (hn f hf)).1,fun f hf=>name_mani (hn f hf)⟩
def Jk (n:Int) (x:FB):Prop:=dirB x.1=gB n∨x.1=E6
theorem puts_vs {R:Int} {n:Int} (hn:0≤n) (hn1:n≤1000000000):∀ {s:List FB} {M:DM} {V:List FB},Nms s→Vs R M V→((szV V:Nat):Int)≤R→(∀ f∈s,getV V (inG n f.1)=none) →
    (((szV V+szV (At' n s):Nat):Int)≤R→(E9 (S5 n s) M).1=0∧Vs R (E9 (S5 n s) M).2 (V++At' n s))∧(¬ ((szV V+szV (At' n s):Nat):Int)≤R→(E9 (S5 n s) M).1=61∧∃ B,(∀ x∈B,Jk n x)∧Vs R (E9 (S5 n s) M).2 (V++B))
  | [],M,V,_,h,hR,_=>by
    constructor
    · intro _; exact ⟨rfl,by show Vs R M (V++[]); rw [List.append_nil]; exact h⟩
    · intro hf; exact absurd (by show ((szV V+0:Nat):Int)≤R; exact hR) hf
  | f::s,M,V,hs,h,hR,hV=>by
    have hnd:=hs.nd
    rw [List.map_cons,List.nodup_cons] at hnd
    have hs2:Nms s:=⟨hnd.2,fun g hg=>hs.part g (List.mem_cons_of_mem _ hg),fun g hg=>hs.man g (List.mem_cons_of_mem _ hg)⟩
    have hr:=right_inG hn hn1 (hs.part f List.mem_cons_self)
    obtain ⟨p1,p2⟩:=h.put (b:=f.2) hr (hV f List.mem_cons_self)
    have hsz:szV (At' n (f::s))=f.2.size+szV (At' n s):=by show szV ([(inG n f.1,f.2)]++At' n s)=_; rw [W8,Z4]
    show (_→(E9 (V3 (inG n f.1) f.2++S5 n s) M).1=0∧Vs R (E9 (V3 (inG n f.1) f.2++S5 n s) M).2 _)∧(_→(E9 (V3 (inG n f.1) f.2++S5 n s) M).1=61∧∃ B,_∧Vs R (E9 (V3 (inG n f.1) f.2++S5 n s) M).2 _)
    rw [L3,hsz]
    by_cases hfit:((szV V+f.2.size:Nat):Int)≤R
    · obtain ⟨e,hv⟩:=p1 hfit
      rw [if_neg (by rw [e]; decide)]
      have hV2:∀ g∈s,getV (V++[(inG n f.1,f.2)]) (inG n g.1)=none:=fun g hg=>getV_none.2 fun x hx e2=>by
        rcases List.mem_append.1 hx with hx | hx
        · exact getV_none.1 (hV g (List.mem_cons_of_mem _ hg)) x hx e2
        · rw [List.mem_singleton.1 hx] at e2
          exact hnd.1 (by rw [inG_inj e2]; exact List.mem_map_of_mem hg)
      obtain ⟨q1,q2⟩:=puts_vs hn hn1 hs2 hv (by rw [W8,Z4]; exact hfit) hV2
      rw [W8,Z4,show ((inG n f.1,f.2):FB).2.size=f.2.size from rfl] at q1 q2
      constructor
      · intro hf
        obtain ⟨e3,hv3⟩:=q1 (by omega)
        exact ⟨e3,by rw [List.append_assoc] at hv3; exact hv3⟩
      · intro hf
        obtain ⟨e3,B,hB,hv3⟩:=q2 (by omega)
        refine ⟨e3,[(inG n f.1,f.2)]++B,fun x hx=>?_,by rw [List.append_assoc] at hv3; exact hv3⟩
        rcases List.mem_append.1 hx with hx | hx
        · rw [List.mem_singleton.1 hx]; exact .inl (J2 hn _)
        · exact hB x hx
    · have e:=p2 hfit
      rw [e,if_pos (by decide:((61:Int) != 0)=true)]
      exact ⟨fun hf=>absurd hf (by omega),fun _=>⟨rfl,[],fun x hx=>absurd hx List.not_mem_nil,by rw [List.append_nil]; exact h⟩⟩
theorem try_cons0 {f:DM→Int × DM} {A:List (DM→Int × DM)} {M:DM}:E9 (f::A) M=if (f M).1 != 0 then f M else E9 A (f M).2:=rfl
theorem del_id {p:ByteArray} {V:List FB} (h:∀ x∈V,x.1≠p):del p V=V:=del_none (getV_none.2 h)
theorem lay_vs {R:Int} {n:Int} (hn:0≤n) (hn1:n≤1000000000) {s:List FB} (hs:Nms s) {M:DM} {V:List FB} (h:Vs R M V) (hR:((szV V:Nat):Int)≤R) (hV:∀ x∈V,¬ Jk n x) :
    (((szV V+(szV (At' n s)+((C6 s).size+(gB n++lfB).size)):Nat):Int)≤R→(Y7 n s M).1=0∧Vs R (Y7 n s M).2 (del G7 V++(At' n s++([(inG n maniB,C6 s)]++[(G7,gB n++lfB)])))) ∧
    (¬ ((szV V+(szV (At' n s)+((C6 s).size+(gB n++lfB).size)):Nat):Int)≤R→(Y7 n s M).1=61∧∃ B,(∀ x∈B,Jk n x)∧Vs R (Y7 n s M).2 (V++B)):=by
  have hlist:P2 M (gB n)=[]:=by
    cases hl:P2 M (gB n) with
    | nil=>rfl
    | cons p r =>
      have hp:p∈P2 M (gB n):=by rw [hl]; exact List.mem_cons_self
      have hd:=list_dir hp
      unfold P2 at hp
      have h1:=(L8 _).mem_iff.1 hp
      obtain ⟨x,hx,rfl⟩:=List.mem_map.1 h1
      have hx2:(x.1,(I5 M x.2).now)∈V:=by rw [← h.eq]; exact List.mem_map_of_mem (List.mem_filter.1 hx).1
      exact absurd (.inl hd) (hV _ hx2)
  have hV1:∀ f∈s,getV V (inG n f.1)=none:=fun f hf=>getV_none.2 fun x hx e=>hV x hx (.inl (by rw [e]; exact J2 hn _))
  obtain ⟨p1,p2⟩:=puts_vs hn hn1 hs h hR hV1
  unfold Y7 pointS
  rw [hlist]
  show (_→(E9 (S5 n s++_) M).1=0∧Vs R (E9 (S5 n s++_) M).2 _)∧(_→(E9 (S5 n s++_) M).1=61∧∃ B,_∧Vs R (E9 (S5 n s++_) M).2 _)
  rw [L3 (S5 n s)]
  by_cases f1:((szV V+szV (At' n s):Nat):Int)≤R
  rotate_left
  · obtain ⟨e,B,hB,hv⟩:=p2 f1
    rw [if_pos (by rw [e]; decide)]
    exact ⟨fun hf=>absurd hf (by omega),fun _=>⟨e,B,hB,hv⟩⟩
  obtain ⟨e1,v1⟩:=p1 f1
  rw [if_neg (by rw [e1]; decide)]
  generalize (E9 (S5 n s) M).2=M1 at v1 ⊢
  have hJA:∀ x∈At' n s,Jk n x:=fun x hx=>by
    obtain ⟨f,_,rfl⟩:=List.mem_map.1 hx
    exact .inl (J2 hn _)
  have hm:getV (V++At' n s) (inG n maniB)=none:=getV_none.2 fun x hx e=>by
    rcases List.mem_append.1 hx with hx | hx
    · exact hV x hx (.inl (by rw [e]; exact J2 hn _))
    · obtain ⟨f,hf,rfl⟩:=List.mem_map.1 hx
      exact hs.man f hf (inG_inj e)
  obtain ⟨q1,q2⟩:=v1.put (b:=C6 s) (right_inG hn hn1 part_mani) hm
  rw [W8] at q1 q2
  rw [L3 (V3 (inG n maniB) (C6 s))]
  by_cases f2:((szV V+szV (At' n s)+(C6 s).size:Nat):Int)≤R
  rotate_left
  · have e:=q2 f2
    rw [e,if_pos (by decide:((61:Int) != 0)=true)]
    exact ⟨fun hf=>absurd hf (by omega),fun _=>⟨rfl,At' n s,hJA,v1⟩⟩
  obtain ⟨e2,v2⟩:=q1 f2
  rw [if_neg (by rw [e2]; decide)]
  generalize (E9 (V3 (inG n maniB) (C6 s)) M1).2=M2 at v2 ⊢
  have hJ2:∀ x∈At' n s++[(inG n maniB,C6 s)],Jk n x:=fun x hx=>by
    rcases List.mem_append.1 hx with hx | hx
    · exact hJA x hx
    · rw [List.mem_singleton.1 hx]; exact .inl (J2 hn _)
  obtain ⟨e3,v3⟩:=v2.sdir (dirR_gB hn hn1)
  rw [try_cons0,if_neg (by rw [e3]; decide)]
  generalize (H5 M2 (gB n)).2=M3 at v3 ⊢
  have hf3:getV ((V++At' n s)++[(inG n maniB,C6 s)]) E6=none:=getV_none.2 fun x hx e=>by
    rw [List.append_assoc] at hx
    rcases List.mem_append.1 hx with hx | hx
    · exact hV x hx (.inr e)
    · rcases List.mem_append.1 hx with hx | hx
      · obtain ⟨f,_,rfl⟩:=List.mem_map.1 hx; exact R5 hn _ e
      · rw [List.mem_singleton.1 hx] at e; exact R5 hn _ e
  obtain ⟨r1,r2⟩:=v3.put (b:=gB n++lfB) right_fresh hf3
  rw [W8,W8,Z4] at r1 r2
  rw [L3 (V3 E6 (gB n++lfB))]
  by_cases f3:((szV V+szV (At' n s)+(C6 s).size+(gB n++lfB).size:Nat):Int)≤R
  rotate_left
  · have e:=r2 f3
    rw [e,if_pos (by decide:((61:Int) != 0)=true)]
    exact ⟨fun hf=>absurd hf (by omega),fun _=>⟨rfl,_,hJ2,by rw [← List.append_assoc]; exact v3⟩⟩
  obtain ⟨e4,v4⟩:=r1 f3
  rw [if_neg (by rw [e4]; decide)]
  generalize (E9 (V3 E6 (gB n++lfB)) M3).2=M4 at v4 ⊢
  have hg4:getV (((V++At' n s)++[(inG n maniB,C6 s)])++[(E6,gB n++lfB)]) E6=some (gB n++lfB):=getV_mem (x:=(E6,gB n++lfB)) v4.nd (List.mem_append_right _ (List.mem_singleton.2 rfl))
  obtain ⟨e5,v5⟩:=v4.rename ren_right right_cur fresh_cur hg4
  rw [try_cons0,if_neg (by rw [e5]; decide)]
  generalize (H9 M4 E6 G7).2=M5 at v5 ⊢
  obtain ⟨e6,v6⟩:=v5.sdir dirR_root
  rw [try_cons0,if_neg (by rw [e6]; decide)]
  refine ⟨fun _=>⟨rfl,?_⟩,fun hf=>absurd (by omega) hf⟩
  have hd:del G7 (del E6 (((V++At' n s)++[(inG n maniB,C6 s)])++[(E6,gB n++lfB)]))++[(G7,gB n++lfB)]=del G7 V++(At' n s++([(inG n maniB,C6 s)]++[(G7,gB n++lfB)])):=by
    rw [del_app E6,del_none hf3,show del E6 [(E6,gB n++lfB)]=[] from by simp [del],List.append_nil,del_app,del_app,
      show del G7 (At' n s)=At' n s from del_id fun x hx e=>by
        obtain ⟨f,_,rfl⟩:=List.mem_map.1 hx; exact inG_cur hn _ e,
      show del G7 [(inG n maniB,C6 s)]=[(inG n maniB,C6 s)] from del_id fun x hx e=>by
        rw [List.mem_singleton.1 hx] at e; exact inG_cur hn _ e]
    simp only [List.append_assoc]
  rw [hd] at v6
  exact v6
theorem sweepL_vs {R:Int}:∀ {l:List ByteArray} {M:DM} {V:List FB},(∀ p∈l,A4 p=true)→Vs R M V→Vs R (sweepL l M) (V.filter fun x=>!(l.contains x.1))
  | [],M,V,_,h=>by
    have:(V.filter fun x=>!(([]:List ByteArray).contains x.1))=V:=List.filter_eq_self.2 fun x _=>rfl
    rw [this]; exact h
  | p::l,M,V,hl,h=>by
    have h1:=(h.remove (hl p List.mem_cons_self)).1
    have h2:=sweepL_vs (l:=l) (fun q hq=>hl q (List.mem_cons_of_mem _ hq)) h1
    have e:((del p V).filter fun x=>!(l.contains x.1))=V.filter fun x=>!((p::l).contains x.1):=by
      unfold del
      rw [List.filter_filter]
      refine List.filter_congr fun x _=>?_
      rw [List.contains_cons]
      by_cases e:p=x.1
      · subst e; simp
      · have e1:(p==x.1)=false:=by simpa using e
        have e2:(x.1==p)=false:=by simpa using fun h=>e h.symm
        rw [e1,e2]; simp
    rw [← e]; exact h2
theorem list_rightP {M:DM} {d p:ByteArray} (h:R6 M.names) (hp:p∈P2 M d):A4 p=true:=by
  unfold P2 at hp
  have h1:=(L8 _).mem_iff.1 hp
  obtain ⟨x,hx,rfl⟩:=List.mem_map.1 h1
  exact h x (List.mem_filter.1 hx).1
theorem sweep_vs {R:Int} {M:DM} {V:List FB} (h:Vs R M V) (d:ByteArray):Vs R (L7 d M) (V.filter fun x=>!(dirB x.1==d)):=by
  have hl:∀ p∈P2 M d,A4 p=true:=fun p hp=>list_rightP (fun x hx=>(h.ok x hx).2.2) hp
  have h1:=sweepL_vs hl h
  have e:(V.filter fun x=>!((P2 M d).contains x.1))=V.filter fun x=>!(dirB x.1==d):=by
    refine List.filter_congr fun x hx=>?_
    congr 1
    rw [Bool.eq_iff_iff,List.contains_iff_mem]
    constructor
    · intro hm; rw [list_dir hm]; simp
    · intro hd
      have hd:dirB x.1=d:=by simpa using hd
      rw [← h.eq] at hx
      obtain ⟨y,hy,rfl⟩:=List.mem_map.1 hx
      unfold P2
      exact (L8 _).mem_iff.2 (List.mem_map.2 ⟨y,List.mem_filter.2 ⟨hy,by rw [show dirB y.1=d from hd]; simp⟩,rfl⟩)
  rw [e] at h1; exact h1
theorem filt_all {P:FB→Bool} {V:List FB} (h:∀ x∈V,P x=true):V.filter P=V:=List.filter_eq_self.2 h
theorem filt_none {P:FB→Bool} {V:List FB} (h:∀ x∈V,P x=false):V.filter P=[]:=List.filter_eq_nil_iff.2 fun x hx=>by rw [h x hx]; decide
theorem tidy_vs {R:Int} {n:Int} (hn:0<n) {M:DM} {V B:List FB} (h:Vs R M (V++B)) (hV:∀ x∈V,¬ Jk n x) (hB:∀ x∈B,Jk n x):Vs R (K4 [n] M) V:=by
  have h1:Vs R (L6 [n] M) ((V++B).filter fun x=>!(dirB x.1==gB n)):=by
    show Vs R (if n > 0 then L7 (gB n) M else M) _
    rw [if_pos hn]; exact sweep_vs h _
  have e1:((V++B).filter fun x=>!(dirB x.1==gB n))=V++B.filter fun x=>!(dirB x.1==gB n):=by
    rw [List.filter_append,filt_all fun x hx=>by
      have:=hV x hx
      have h2:dirB x.1≠gB n:=fun e=>this (.inl e)
      simpa using h2]
  rw [e1] at h1
  have hdel:del E6 (V++B.filter fun x=>!(dirB x.1==gB n))=V:=by
    rw [del_app,del_id (fun x hx e=>hV x hx (.inr e))]
    have:del E6 (B.filter fun x=>!(dirB x.1==gB n))=[]:=by
      unfold del
      rw [List.filter_filter]
      refine filt_none fun x hx=>?_
      rcases hB x hx with e | e
      · rw [e]; simp
      · rw [e]; simp
    rw [this,List.append_nil]
  unfold K4
  have h3:=(h1.remove right_fresh).1
  rw [hdel] at h3
  by_cases hr:((P1 (L6 [n] M) E6).2==0)=true
  · rw [if_pos hr]; exact h3
  · rw [if_neg hr]
    have:getV (V++B.filter fun x=>!(dirB x.1==gB n)) E6=none:=by
      cases hg:getV (V++B.filter fun x=>!(dirB x.1==gB n)) E6 with
      | none=>rfl
      | some c=>rw [h1.read hg] at hr; exact absurd rfl hr
    rw [del_none this] at hdel
    rw [hdel] at h1; exact h1
theorem gv_jk {n:Int} (hn:0≤n) {F:List FB}:∀ x∈Gv n F,¬ Jk (n+1) x:=fun x hx=>by
  by_cases h0:n=0
  · subst h0; exact absurd hx List.not_mem_nil
  rw [gv_pos h0] at hx
  rcases List.mem_append.1 hx with hx | hx
  · obtain ⟨f,_,rfl⟩:=List.mem_map.1 hx
    rintro (e | e)
    · rw [J2 hn] at e; have:=gB_inj hn (by omega) e; omega
    · exact R5 hn _ e
  · rcases List.mem_append.1 hx with hx | hx <;> rw [List.mem_singleton.1 hx]
    · rintro (e | e)
      · rw [J2 hn] at e; have:=gB_inj hn (by omega) e; omega
      · exact R5 hn _ e
    · rintro (e | e)
      · exact cur_dir (by omega) e
      · exact cur_fresh e
theorem gv_swept {n:Int} (hn:0≤n) {F:List FB}:(del G7 (Gv n F)).filter (fun x=>!(dirB x.1==gB n))=[]:=by
  by_cases h0:n=0
  · subst h0; rfl
  rw [gv_pos h0,del_app,del_app]
  rw [List.filter_append,List.filter_append,show del G7 [(G7,gB n++lfB)]=[] from by simp [del]]
  have hA:∀ W:List FB,(∀ x∈W,dirB x.1=gB n)→(del G7 W).filter (fun x=>!(dirB x.1==gB n))=[]:=fun W hW=>filt_none fun x hx=>by
    rw [hW x (List.mem_filter.1 hx).1]; simp
  rw [hA _ fun x hx=>by obtain ⟨f,_,rfl⟩:=List.mem_map.1 hx; exact J2 hn _,hA _ fun x hx=>by rw [List.mem_singleton.1 hx]; exact J2 hn _]
  rfl
theorem pub_vs {R:Int} {p:PM} {M:DM} {l s:List FB} (hn:0≤p.n) (hn1:p.n<1000000000) (hd:p.down=false) (h:Vs R M (Gv p.n p.files)) (hR:((szV (Gv p.n p.files):Nat):Int)≤R) (hs:F8 l=some s) :
    (((szV (Gv p.n p.files)+(szV (At' (p.n+1) s)+((C6 s).size+(gB (p.n+1)++lfB).size)):Nat):Int)≤R→(E8 p M l).1=0∧(E8 p M l).2.1=⟨p.n+1,s,false⟩∧Vs R (E8 p M l).2.2 (Gv (p.n+1) s)) ∧
    (¬ ((szV (Gv p.n p.files)+(szV (At' (p.n+1) s)+((C6 s).size+(gB (p.n+1)++lfB).size)):Nat):Int)≤R→(E8 p M l).1=61∧(E8 p M l).2.1=p∧Vs R (E8 p M l).2.2 (Gv p.n p.files)):=by
  have ho:=K3 hs
  obtain ⟨l1,l2⟩:=lay_vs (n:=p.n+1) (by omega) (by omega) (nms_of ho.asc ho.names) h hR (gv_jk hn)
  constructor
  · intro hf
    obtain ⟨e,v⟩:=l1 hf
    unfold E8
    rw [hs]; dsimp only
    rw [hd,if_neg Bool.false_ne_true,if_neg (by rw [e]; decide)]
    refine ⟨rfl,rfl,?_⟩
    have hg:Gv (p.n+1) s=At' (p.n+1) s++([(inG (p.n+1) maniB,C6 s)]++[(G7,gB (p.n+1)++lfB)]):=gv_pos (by omega) _
    by_cases h1:p.n+1 > 1
    · dsimp only
      rw [if_pos h1]
      have hsw:=sweep_vs v (gB p.n)
      rw [List.filter_append,gv_swept hn,List.nil_append,filt_all (fun x hx=>by
        rw [← hg] at hx
        have hne:dirB x.1≠gB p.n:=by
          rw [hg] at hx
          have hA:dirB x.1=gB (p.n+1)→dirB x.1≠gB p.n:=fun e e2=>by
            rw [e] at e2; have:=gB_inj (by omega) hn e2; omega
          rcases List.mem_append.1 hx with hx | hx
          · obtain ⟨f,_,rfl⟩:=List.mem_map.1 hx; exact hA (J2 (by omega) _)
          · rcases List.mem_append.1 hx with hx | hx <;> rw [List.mem_singleton.1 hx]
            · exact fun e2=>by rw [J2 (by omega)] at e2; have:=gB_inj (by omega) hn e2; omega
            · exact cur_dir hn
        simpa using hne),← hg] at hsw
      exact hsw
    · dsimp only
      rw [if_neg h1]
      have h0:p.n=0:=by omega
      rw [show del G7 (Gv p.n p.files)=[] from by rw [h0]; rfl,List.nil_append,← hg] at v
      exact v
  · intro hf
    obtain ⟨e,B,hB,v⟩:=l2 hf
    unfold E8
    rw [hs]; dsimp only
    rw [hd,if_neg Bool.false_ne_true,if_pos (by rw [e]; decide),if_pos (by rw [e]; decide)]
    exact ⟨rfl,rfl,tidy_vs (by omega) v (gv_jk hn) hB⟩
end Go.Pr
namespace Go.Proofs.YtdolpaagdpeagaaGreatDoor
open Go.Sw Go.Lib Go.Vf Go.Sha Go.Pr Go.RowKit
def DD (d:Nat) (M:DM) (G:List Grp):Prop:=∃ s:DS,s.ok M∧G=s.G d M
def FilesIn (ZR:List Grp) (F:List FB) (a:Option Addr) (cs:List Value):Prop:=Rd (inZ ZR) a cs∧FRd (inZ ZR) F cs
structure FArg (W0:World) (X:List Grp) (F:List FB) (fa:Option Addr) (cs:List Value):Prop where
  rd:∃ S:Nat→Obj→Prop,Rd S fa cs∧FRd S F cs∧∀ y o,S y o→At W0 X y o
theorem FilesIn.arg {W0:World} {ZR X:List Grp} {F:List FB} {a:Option Addr} {cs:List Value} (h:FilesIn ZR F a cs) (hX:∀ p,p∈ZR.flatten→p∈X.flatten):FArg W0 X F a cs:=⟨⟨inZ ZR,h.1,h.2,fun _ _ hy=>.inr (hX _ hy)⟩⟩
theorem FArg.base {W0:World} {X:List Grp} {F:List FB} {a:Option Addr} {cs:List Value} (h:FArg W0 [] F a cs):FArg W0 X F a cs:=by
  obtain ⟨S,h1,h2,h3⟩:=h.rd
  exact ⟨⟨S,h1,h2,fun y o hy=>at_up (h3 y o hy)⟩⟩
theorem FArg.app {W0:World} {X Y:List Grp} {F:List FB} {a:Option Addr} {cs:List Value} (h:FArg W0 X F a cs):FArg W0 (Y++X) F a cs:=by
  obtain ⟨S,h1,h2,h3⟩:=h.rd
  exact ⟨⟨S,h1,h2,fun y o hy=>C4 (h3 y o hy)⟩⟩
theorem cNewP (room:Int) {M:DM} (he:newM room=M) (W0:World) (X:List Grp):Tri Tryz.prog 8 #[.int .i64 room] W0 X (fun v H'=>∃ d GD,v=.pointer (some ⟨d,0,none⟩)∧DD d M GD∧H'=GD++X) :=
  Tri.post (dNew room W0 X he) fun v H1 ⟨d,hv,s,hs,hH⟩=>⟨_,⟨d,_,hv,⟨s,hs,rfl⟩,rfl⟩,fun w hw=>by rw [hH] at hw; exact hw⟩
section
variable {d : Nat} {M : DM} {GD : List Grp} (h : DD d M GD) {i q : Nat} (hf : Fx i q M) (W0 : World) (X : List Grp)
include h hf
theorem cOpen0 (hq:q≤10000) (hi:i+2 * q+1≤100000) (hno:P1 M G7=(ByteArray.mk #[],60)) :
    Tri Tryz.prog 9 #[pt d] W0 (GD++X) (fun v H'=>∃ pb GD' GP,v=.tuple #[pt pb,.int .i64 0]∧DD d (K4 [-1,1] M) GD'∧PrV pb d ⟨0,[],false⟩ GP∧H'=GD'++(GP++X)):=by
  obtain ⟨s,hs,rfl⟩:=h
  exact Tri.post (open0_ hs hf hq hi [] d hno W0 X) fun v H1 ⟨pb,GP,s2,hv,hp,h2,hH⟩=>⟨_,⟨pb,_,GP,hv,⟨s2,h2,rfl⟩,hp,rfl⟩,fun w hw=>by
    rw [hH] at hw
    exact A8 hw fun _ x=>by simp only [List.flatten_append,List.count_append,List.nil_append]; omega⟩
theorem cOpenG (hq:q≤10000) (hi:i+2 * q+1≤100000) (n:Int) (hn:1≤n∧n<99) (F:List FB) (hr:ReadOk n F M) :
    Tri Tryz.prog 9 #[pt d] W0 (GD++X) (fun v H'=>∃ pb GD' GP,v=.tuple #[pt pb,.int .i64 0]∧DD d (K4 [n - 1,n+1] M) GD'∧PrV pb d ⟨n,F,false⟩ GP∧H'=GD'++(GP++X)):=by
  obtain ⟨s,hs,rfl⟩:=h
  exact Tri.post (openG_ hs hf hq hi [] d n hn F hr W0 X) fun v H1 ⟨pb,GP,s2,hv,hp,h2,hH⟩=>⟨_,⟨pb,_,GP,hv,⟨s2,h2,rfl⟩,hp,rfl⟩,fun w hw=>by
    rw [hH] at hw
    exact A8 hw fun _ x=>by simp only [List.flatten_append,List.count_append,List.nil_append]; omega⟩
theorem cReadG (n:Int) (hn:1≤n∧n<100) (F:List FB) (hr:ReadOk n F M) :
    Tri Tryz.prog 12 #[pt d] W0 (GD++X) (fun v H'=>∃ (ZR:List Grp) (a:Option Addr) (c:Nat) (cs:List Value),v=.tuple #[.slice a F.length c,.int .i64 n,.int .i64 0]∧FilesIn ZR F a cs∧H'=ZR++(GD++X)):=by
  obtain ⟨s,hs,rfl⟩:=h
  exact Tri.post (read_ hs hf.read [] d n hn F hr W0 X) fun v H1 ⟨zl,Z,g,a,c,hv,hz,hZ,hO,hH⟩=>⟨_,⟨g::Z,a,c,C1 zl,hv,⟨(z_files (v:=.nilIface) hZ hO rfl).1,by have:=(z_files (v:=.nilIface) hZ hO rfl).2; rw [hz] at this; exact this⟩,rfl⟩,fun w hw=>by
    rw [hH] at hw
    exact A8 hw fun _ x=>by simp only [List.flatten_append,List.flatten_cons,List.count_append,List.append_nil]; omega⟩
theorem cRead0 (hno:P1 M G7=(ByteArray.mk #[],60)) :
    Tri Tryz.prog 12 #[pt d] W0 (GD++X) (fun v H'=>v=.tuple #[.slice none 0 0,.int .i64 0,.int .i64 60]∧H'=GD++X):=by
  obtain ⟨s,hs,rfl⟩:=h
  exact readNo_ hs hf.read [] d hno W0 X
theorem cReadD (path:ByteArray) {b:ByteArray} {e:Int} (he:P1 M path=(b,e)) :
    Tri Tryz.prog 21 #[pt d,.string path] W0 (GD++X) (fun v H'=>∃ a c g,v=.tuple #[.slice a b.size c,.int .i64 e]∧Sh a b.size c∧Rd (inG g) a (u8s b.data.toList)∧H'=g::(GD++X)):=by
  obtain ⟨s,hs,rfl⟩:=h
  exact dReadZ hs hf.read d path [] W0 X he
theorem cCrashD (hq:q≤10000) (hi:i≤100000) (l:List Int) (a:Option Addr) (c:Nat) (S0:Nat→Obj→Prop) (hks:KsOk S0 ⟨l,a,c⟩) (hS0:∀ y o,S0 y o→At W0 [] y o) :
    Tri Tryz.prog 17 #[pt d,.slice a l.length c] W0 (GD++X) (fun v H'=>∃ GD',v=.tuple #[]∧DD d (N3 M l) GD'∧H'=GD'++X):=by
  obtain ⟨s,hs,rfl⟩:=h
  exact Tri.post (dCrash hs (hf.small hi hq) d l a c S0 hks [] W0 X (fun y o hy=>at_up (hS0 y o hy)) rfl) fun v H1 ⟨hv,s2,h2,hH⟩=>⟨_,⟨_,hv,⟨s2,h2,rfl⟩,rfl⟩,fun w hw=>by rw [hH] at hw; exact hw⟩
theorem cFailD (n:Int) (o:Bool) :
    Tri Tryz.prog 14 #[pt d,.int .i64 n,.bool o] W0 (GD++X) (fun v H'=>∃ GD',v=.tuple #[]∧DD d (failM M n o) GD'∧H'=GD'++X):=by
  have _:=hf
  obtain ⟨s,hs,rfl⟩:=h
  exact Tri.post (dFail hs d n o [] W0 X rfl) fun v H1 ⟨hv,s2,h2,hH⟩=>⟨_,⟨_,hv,⟨s2,h2,rfl⟩,rfl⟩,fun w hw=>by rw [hH] at hw; exact hw⟩
theorem cUsedD (hq:q≤10000) (hi:i≤100000) {n:Nat} (he:V0 M=n) :
    Tri Tryz.prog 11 #[pt d] W0 (GD++X) (fun v H'=>v=.int .i64 (n:Int)∧H'=GD++X):=by
  obtain ⟨s,hs,rfl⟩:=h
  exact dUsed hs (hf.small hi hq) d [] W0 X he
theorem cListD (hq:q≤10000) (hi:i≤100000) (dir:ByteArray) {n:Nat} (he:(P2 M dir).length=n) :
    Tri Tryz.prog 20 #[pt d,.string dir] W0 (GD++X) (fun v H'=>∃ a c,v=.slice a n c∧H'=GD++X):=by
  obtain ⟨s,hs,rfl⟩:=h
  subst he
  exact Tri.post (dList hs (hf.small hi hq) d dir [] W0 X rfl) fun v H1 ⟨a,c,g,hv,_,_,hH⟩=>⟨_,⟨a,c,hv,rfl⟩,fun w hw=>by rw [hH] at hw; exact hw.tail⟩
theorem cPub {pb:Nat} {p:PM} {GP:List Grp} (hp:PrV pb d p GP) (hi:i+2 * q+200≤100000) (hq:q+30≤10000) (hpn:0≤p.n∧p.n<98) {F:List FB} {fa:Option Addr} (fc:Nat) {cs:List Value} (hF:FArg W0 X F fa cs) (hn20:F.length≤20) (hz:∀ f∈F,f.1.size≤1000000) (hb:∀ f∈F,f.2.size≤100000)
    {e2:Int} {p2:PM} {M2:DM} (hpub:E8 p M F=(e2,p2,M2)) :
    Tri Tryz.prog 10 #[pt pb,.slice fa F.length fc] W0 (GD++(GP++X)) (fun v H'=>∃ GD' GP',v=.int .i64 e2∧DD d M2 GD'∧PrV pb d p2 GP'∧H'=GD'++(GP'++X)):=by
  obtain ⟨s,hs,rfl⟩:=h
  obtain ⟨S,hrd,hfr,hS⟩:=hF.rd
  obtain ⟨a,c,cs0,ZF,rfl,hr0,hf0⟩:=hp
  obtain ⟨pn,PF,pdn⟩:=p
  have hS2:∀ y o,S y o→At W0 (ZF++(s.G d M++X)) y o:=fun y o hy=>C4 (C4 (hS y o hy))
  refine Tri.heap (H':=[(pb,.cells #[pt d,.int .i64 pn,.slice a PF.length c,.bool pdn] 66 (0,0))]::(ZF++(s.G d M++X))) (fun _ hw=>A8 hw fun _ x=>by simp only [List.flatten_append,List.flatten_cons,List.count_append]; omega) ?_
  have fin:∀ (v:Value) (H1:List Grp),(∃ s2:DS,s2.ok M2∧v=.int .i64 e2∧((∃ b,p2=⟨pn,PF,b⟩∧H1=[(pb,.cells #[pt d,.int .i64 pn,.slice a PF.length c,.bool b] 66 (0,0))]::(ZF++(s2.G d M2++X)))∨(∃ (s0:List FB) (zl:List SE) (Z:List Grp) (g:Grp) (a:Option Addr) (c:Nat),p2=⟨pn+1,s0,false⟩∧zl.map Prod.fst=s0∧(∀ z∈zl,ZOk (inZ Z) z)∧Go.Sw.Own 34 2 (.slice a s0.length c) g s0.length (C1 zl)∧H1=[(pb,.cells #[pt d,.int .i64 (pn+1),.slice a s0.length c,.bool false] 66 (0,0))]::(g::((Z++ZF)++(s2.G d M2++X)))))) →
      ∃ H',(∃ GD' GP',v=.int .i64 e2∧DD d M2 GD'∧PrV pb d p2 GP'∧H'=GD'++(GP'++X))∧∀ w,Sat W0 H1 w→Sat W0 H' w:=by
    rintro v H1 ⟨s2,h2,hv,⟨b,rfl,rfl⟩ | ⟨s0,zl,Z,g,a2,c2,rfl,hz2,hZ,hO,rfl⟩⟩
    · exact ⟨_,⟨_,_,hv,⟨s2,h2,rfl⟩,⟨a,c,cs0,ZF,rfl,hr0,hf0⟩,rfl⟩,fun w hw=>A8 hw fun _ x=>by simp only [List.flatten_append,List.flatten_cons,List.count_append]; omega⟩
    · refine ⟨_,⟨_,_,hv,⟨s2,h2,rfl⟩,⟨a2,c2,C1 zl,g::Z,rfl,(z_files (v:=.nilIface) hZ hO rfl).1,by have:=(z_files (v:=.nilIface) hZ hO rfl).2; rw [hz2] at this; exact this⟩,rfl⟩,fun w hw=>?_⟩
      have h3:Sat W0 ([(pb,.cells #[pt d,.int .i64 (pn+1),.slice a2 s0.length c2,.bool false] 66 (0,0))]::(g::(Z++(s2.G d M2++X)))) w:=hw.subl (by
        simp only [List.flatten_cons,List.flatten_append,List.append_assoc]
        exact (((List.sublist_append_right _ _).append_left _).append_left _).append_left _)
      exact A8 h3 fun _ x=>by simp only [List.flatten_append,List.flatten_cons,List.count_append]; omega
  cases hsm:F8 F with
  | none=>exact Tri.post (publishN_ hs hf hi hq ZF d pb pn hpn (.slice a PF.length c) pdn PF fa fc F cs S hrd hfr hn20 hz hb (s0:=[]) hsm hpub W0 X hS2) fun v H1 ⟨s2,h2,hv,hc⟩=>fin v H1 ⟨s2,h2,hv,hc.imp id fun ⟨zl,Z,g,a,c,x⟩=>⟨_,zl,Z,g,a,c,x⟩⟩
  | some s0=>exact Tri.post (publishS_ hs hf hi hq ZF d pb pn hpn (.slice a PF.length c) pdn PF fa fc F cs S hrd hfr hn20 hz hb hsm hpub W0 X hS2) fun v H1 ⟨s2,h2,hv,hc⟩=>fin v H1 ⟨s2,h2,hv,hc.imp id fun ⟨zl,Z,g,a,c,x⟩=>⟨_,zl,Z,g,a,c,x⟩⟩
end
end Go.Proofs.YtdolpaagdpeagaaGreatDoor
namespace Go.Proofs.YtdolpaagdpeagaaGreatDoor
open Go.Sw Go.Lib Go.Vf Go.Sha Go.Pr Go.RowKit
theorem sortedX (fa:Option Addr) (fc:Nat) (F:List FB) (cs:List Value) (S:Nat→Obj→Prop) (hrd:Rd S fa cs) (hF:FRd S F cs) (hn20:F.length≤20) (hz:∀ f∈F,f.1.size≤1000000) (hb:∀ f∈F,f.2.size≤1000000000) {s0:List FB} (hsm:F8 F=some s0) (W0:World) (X:List Grp) (hS:∀ y o,S y o→At W0 X y o) :
    Tri Tryz.prog 23 #[.slice fa F.length fc] W0 X (fun v H'=>∃ (ZR:List Grp) (a:Option Addr) (c:Nat) (cs2:List Value),v=.tuple #[.slice a s0.length c,.bool true]∧FilesIn ZR s0 a cs2∧H'=ZR++X) :=
  Tri.post (sorted_ fa fc F cs S hrd hF hn20 hz hb W0 _ hS) fun v H1 ⟨l,zl,Z,g,a,c,h1,h2,h3,h4,h5,hH,hc⟩=>by
    rcases hc with ⟨hv,hok⟩ | ⟨hv,m,hm,hbad⟩
    · have e:=z_told h1 h2 h3 hok
      rw [hsm] at e
      injection e with e
      subst e
      have hlen:(l.map Prod.fst).length=F.length:=by rw [← h1,List.length_map,List.length_map]; exact h2.length_eq
      exact ⟨_,⟨g::Z,a,c,C1 l,by rw [hlen]; exact hv,z_files (v:=.nilIface) (z_all_perm h2 h4) h5 rfl,rfl⟩,fun w hw=>by rw [hH] at hw; exact hw⟩
    · rw [z_not h1 h2 h3 hm hbad] at hsm; cases hsm
def longM (F:List FB):Bool:=(F.any fun f=>decide ((f.2.size:Int) > 500)||decide ((f.1.size:Int) > 200))||decide ((F.length:Int) > 20)
theorem long_at {F:List FB} {k:Nat} {f:FB} (hk:k<F.length) (hf:f=F[k]) (h:(decide ((f.2.size:Int) > 500)||decide ((f.1.size:Int) > 200))=true):longM F=true:=by
  unfold longM
  rw [Bool.or_eq_true]; left
  exact List.any_eq_true.2 ⟨f,by rw [hf]; exact List.getElem_mem hk,h⟩
def NoLong (F:List FB) (k:Nat):Prop:=∀ j,j<k→(hj:j<F.length)→(decide ((F[j].2.size:Int) > 500)||decide ((F[j].1.size:Int) > 200))=false
theorem nolong_next {F:List FB} {k:Nat} {f:FB} (h:NoLong F k) (hk:k<F.length) (hf:f=F[k]) (hc:(decide ((f.2.size:Int) > 500)||decide ((f.1.size:Int) > 200))=false):NoLong F (k+1):=fun j hj hl=>by
  rcases Nat.lt_or_ge j k with h1 | h1
  · exact h j h1 hl
  · have:j=k:=by omega
    subst this; rw [← hf]; exact hc
theorem long_all {F:List FB} (h:NoLong F F.length):longM F=decide ((F.length:Int) > 20):=by
  unfold longM
  rw [show (F.any fun f=>decide ((f.2.size:Int) > 500)||decide ((f.1.size:Int) > 200))=false from by
    rw [List.any_eq_false]
    intro f hf
    obtain ⟨j,hj,rfl⟩:=List.getElem_of_mem hf
    rw [h j hj hj]; decide,Bool.false_or]
theorem X8 {F:List FB} (h:longM F=false):F.length≤20∧(∀ f∈F,f.2.size≤500)∧∀ f∈F,f.1.size≤200:=by
  unfold longM at h
  rw [Bool.or_eq_false_iff] at h
  have h1:=List.any_eq_false.1 h.1
  have h2:=of_decide_eq_false h.2
  have h3:∀ f∈F,¬ ((f.2.size:Int) > 500)∧¬ ((f.1.size:Int) > 200):=fun f hf=>by
    have:=h1 f hf
    simpa using this
  exact ⟨by omega,fun f hf=>by have:=(h3 f hf).1; omega,fun f hf=>by have:=(h3 f hf).2; omega⟩
theorem gen_ (d pb:Nat) (pn:Int) (pv:Value) (pdn:Bool) (W0:World) (H:List Grp) (hP:At W0 H pb (.cells #[pt d,.int .i64 pn,pv,.bool pdn] 66 (0,0))):Tri Tryz.prog 13 #[pt pb] W0 H (fun v H'=>v=.int .i64 pn∧H'=H):=by
 refine D6 9 Tryz.func13 ?_
 refine A2 (B9 (E':=[⟨0,[],pt pb⟩]) [0] [0] (k:=A1 (A2 (A2 (B9 (E':=[⟨0,[],pt pb⟩,⟨4,[],.bool false⟩]) [0,0] [0,4] (k:=A1 (D9 kr (B6 ?_))))))))
 refine A1 (A2 (A3 (A5 (j:=3) [0,0,0] (k:=F9 (ch:=[]) (b:=pb) (off:=1) (v:=.int .i64 pn) (hA:=hP) (k:=D5 (E':=[⟨2,[],.int .i64 pn⟩]) [0] [2] (k:=A1 (C8 (C5 [.tmp 2] [.int .i64 pn] (k:=?_)))))))))
 exact ⟨rfl,rfl⟩
theorem genNil_ (W0:World) (H:List Grp):Tri Tryz.prog 13 #[.pointer none] W0 H (fun v H'=>v=.int .i64 0∧H'=H):=by
 refine D6 9 Tryz.func13 ?_
 refine A2 (B9 (E':=[⟨0,[],.pointer none⟩]) [0] [0] (k:=A1 (A2 (A2 (G_p [0,0] [0,4] (k:=A1 (G6 kr (A2 ?_))))))))
 refine B9 (E':=[⟨2,[],.int .i64 0⟩]) [0] [2] (k:=A1 (C8 (C0 (C5 [.tmp 2] [.int .i64 0] (k:=?_)))))
 exact ⟨rfl,rfl⟩
theorem files_ (d pb:Nat) (pn:Int) (pdn:Bool) (fa:Option Addr) (fc:Nat) (F:List FB) (cs:List Value) (S:Nat→Obj→Prop) (hrd:Rd S fa cs) (hF:FRd S F cs) (hn20:F.length≤20) (hz:∀ f∈F,f.1.size≤1000000) (hb:∀ f∈F,f.2.size≤1000000000) {s0:List FB} (hsm:F8 F=some s0) (W0:World) (H:List Grp) (hS:∀ y o,S y o→At W0 H y o) (hP:At W0 H pb (.cells #[pt d,.int .i64 pn,.slice fa F.length fc,.bool pdn] 66 (0,0))):Tri Tryz.prog 19 #[pt pb] W0 H (fun v H'=>∃ (ZR:List Grp) (a:Option Addr) (c:Nat) (cs2:List Value),v=.slice a s0.length c∧FilesIn ZR s0 a cs2∧H'=ZR++H):=by
 refine D6 16 Tryz.func19 ?_
 refine A2 (B9 (E':=[⟨0,[],pt pb⟩]) [0] [0] (k:=A1 (A2 (A2 (B9 (E':=[⟨0,[],pt pb⟩,⟨6,[],.bool false⟩]) [0,0] [0,6] (k:=A1 (D9 kr (B6 ?_))))))))
 refine A1 (A2 (A3 (A5 (j:=3) [0,0,0] (k:=F9 (ch:=[]) (b:=pb) (off:=2) (v:=.slice fa F.length fc) (hA:=hP) (k:=E4 Tryz.func23 (sortedX fa fc F cs S hrd hF hn20 hz hb hsm _ _ hS) ?_)))))
 rintro _ _ ⟨ZR,a,c,cs2,rfl,hfi,rfl⟩
 refine D5 (E':=[⟨3,[],.slice a s0.length c⟩]) [0,0,0,0,0] [3] (k:=A1 (A2 (B9 (E':=[⟨2,[],.slice a s0.length c⟩]) [0,0] [2] (k:=A1 (C8 (C5 [.tmp 2] [.slice a s0.length c] (k:=?_)))))))
 exact ⟨ZR,a,c,cs2,rfl,hfi,rfl⟩
theorem filesNil_ (W0:World) (H:List Grp):Tri Tryz.prog 19 #[.pointer none] W0 H (fun v H'=>v=.slice none 0 0∧H'=H):=by
 refine D6 16 Tryz.func19 ?_
 refine A2 (B9 (E':=[⟨0,[],.pointer none⟩]) [0] [0] (k:=A1 (A2 (A2 (G_p [0,0] [0,6] (k:=A1 (G6 kr (A2 ?_))))))))
 refine B9 (E':=[⟨2,[],.slice none 0 0⟩]) [0] [2] (k:=A1 (C8 (C0 (C5 [.tmp 2] [.slice none 0 0] (k:=?_)))))
 exact ⟨rfl,rfl⟩
theorem publishNil_ (v0:Value) (W0:World) (H:List Grp):Tri Tryz.prog 10 #[.pointer none,v0] W0 H (fun v H'=>v=.int .i64 1∧H'=H):=by
 refine D6 63 Tryz.func10 ?_
 refine A2 (B9 (E':=[⟨0,[],.pointer none⟩,⟨1,[],v0⟩]) [0] [0,1] (k:=A1 (A2 (A2 (G_p [0,0] [0,1,10] (k:=A1 (G6 kr (A2 ?_))))))))
 refine B9 (E':=[⟨4,[],.int .i64 1⟩]) [0] [4] (k:=A1 (C8 (C0 (C5 [.tmp 4] [.int .i64 1] (k:=?_)))))
 exact ⟨rfl,rfl⟩
theorem cFiles {pb d:Nat} {p:PM} {GP:List Grp} (hp:PrV pb d p GP) (hn20:p.files.length≤20) (hz:∀ f∈p.files,f.1.size≤1000000) (hb:∀ f∈p.files,f.2.size≤1000000000) {s0:List FB} (hsm:F8 p.files=some s0) (W0:World) (X:List Grp) :
    Tri Tryz.prog 19 #[pt pb] W0 (GP++X) (fun v H'=>∃ (ZR:List Grp) (a:Option Addr) (c:Nat) (cs2:List Value),v=.slice a s0.length c∧FilesIn ZR s0 a cs2∧H'=ZR++(GP++X)):=by
  obtain ⟨a,c,cs,ZF,rfl,hr,hf⟩:=hp
  exact files_ d pb p.n p.down a c p.files cs (inZ ZF) hr hf hn20 hz hb hsm W0 _ (fun y o hy=>.inr (by
    have hy:(y,o)∈ZF.flatten:=hy
    rw [List.cons_append,List.flatten_cons,List.flatten_append]; exact List.mem_append_right _ (List.mem_append_left _ hy))) (.inr (by simp))
theorem cGenAt {pb d:Nat} {p:PM} {GP:List Grp} (hp:PrV pb d p GP) (W0:World) (H:List Grp) (hin:∀ x,x∈GP.flatten→x∈H.flatten):Tri Tryz.prog 13 #[pt pb] W0 H (fun v H'=>v=.int .i64 p.n∧H'=H):=by
  obtain ⟨a,c,cs,ZF,rfl,hr,hf⟩:=hp
  exact gen_ d pb p.n (.slice a p.files.length c) p.down W0 _ (.inr (hin _ (by simp)))
theorem same_ (fa ga:Option Addr) (fc gc:Nat) (F:List FB) (cs cs2:List Value) (S S2:Nat→Obj→Prop) (hrd:Rd S fa cs) (hF:FRd S F cs) (hrd2:Rd S2 ga cs2) (hF2:FRd S2 F cs2) (hn:F.length≤1000000) (W0:World) (H:List Grp) (hS:∀ y o,S y o→At W0 H y o) (hS2:∀ y o,S2 y o→At W0 H y o):Tri Tryz.prog 18 #[.slice fa F.length fc,.slice ga F.length gc] W0 H (fun v H'=>v=.bool true∧H'=H):=by
 refine D6 43 Tryz.func18 ?_
 refine A2 (G_p [0] [0,1] (k:=A1 (A2 (A2 (G_p [0,0,0,0,0] [0,1,10] (k:=A1 (D2 (b:=((F.length:Nat):Int) != ((F.length:Nat):Int)) kr (fun hc1=>?_) (fun hc1=>?_))))))))
 ·
  exact absurd hc1 (by simp)
 ·
  skip
  refine B6 (A1 (A2 (A2 (G_p [0,0,0] [0,1,12,13] (k:=A1 (B8 (I6 (EI:=(fun ξ:Nat=>[⟨0,[],.slice fa F.length fc⟩,⟨1,[],.slice ga F.length gc⟩,⟨12,[],.int .i64 ((F.length:Nat):Int)⟩,⟨13,[],.int .i64 ((ξ:Nat):Int)⟩])) (HI:=(fun ξ:Nat=>H)) (Φ:=(fun ξ:Nat=>(ξ≤F.length))) (μ:=(fun ξ:Nat=>F.length - ξ)) (s0:=(0)) [0,1,12,13] kr rfl (by omega) ?_)))))))
  rintro k hk
  refine A2 (G_p [0] [0,1,12,13,14] (k:=A1 (A2 (D2 (b:=decide (((k:Nat):Int)<((F.length:Nat):Int))) kr (fun hc2=>?_) (fun hc2=>?_)))))
  ·
   have hlt:k<F.length:=by simp only [decide_eq_true_eq] at hc2; omega
   obtain ⟨ba,ca,hae,har,hac⟩:=hF.get hlt
   obtain ⟨bg,cg,hge,hgr,hgc⟩:=hF2.get hlt
   obtain ⟨f,hfk⟩:∃ f,f=F[k]:=⟨_,rfl⟩
   rw [← hfk] at hae har hac hge hgr hgc
   refine B6 (A1 (A2 (B8 (A2 (G_p [0,0] [0,1,5,12,13] (k:=A1 (A2 (K0 (k:=?_)))))))))
   refine A5 (j:=2) [0,0] (k:=L2 F.length ((k:Nat):Int) 2 hrd (by exact ⟨by omega,by omega,by first | exact P8 hF hlt | exact P8 hF2 hlt⟩) (A5 (j:=4) [0] (k:=O3 (k * 2) (.string f.1) hrd hS (fun _=>(elt2 hae 0 (by show 0<2; omega))) (A5 (j:=7) [0,0] (k:=L2 F.length ((k:Nat):Int) 2 hrd2 (by exact ⟨by omega,by omega,by first | exact P8 hF hlt | exact P8 hF2 hlt⟩) (A5 (j:=9) [0] (k:=O3 (k * 2) (.string f.1) hrd2 hS2 (fun _=>(elt2 hge 0 (by show 0<2; omega))) (A5 (j:=14) [0,0,0,0] (k:=?_)))))))))
   refine I7 (ch:=[(27,false)]) (a:=fa) (len:=F.length) (cap:=fc) (kd:=.i64) (j:=((k:Nat):Int)) (e:=34) (sz:=2) (S:=S) (cs:=cs) (hrd:=hrd) (hb:=(fun hc=>by exact ⟨by omega,by omega,by first | exact P8 hF hlt | exact P8 hF2 hlt⟩)) (k:=?_)
   have hw3:Addr.add (eltA fa (k * 2)) 1=eltA fa (k * 2+1):=eltA_add _ _ _
   refine A5 (j:=16) [0] (k:=L1 31 [(27,false)] (x:=.pointer (some (Addr.add (eltA fa (k * 2)) 1))) (y:=.pointer (some (eltA fa (k * 2+1)))) (by simp only [hw3]) (R7 (ch:=[(27,false)]) (a:=fa) (q:=k * 2+1) (S:=S) (cs:=cs) (v:=.slice ba f.2.size ca) (hrd:=hrd) (hS:=hS) (hv:=(fun hc=>(elt2 hae 1 (by show 1<2; omega)))) (k:=K6 (ch:=[(27,false)]) (a:=ba) (cap:=ca) (e:=5) (S:=S) f.2 (hrd:=har) (hS:=hS) (k:=A5 (j:=20) [0,0] (k:=I7 (ch:=[(27,false)]) (a:=ga) (len:=F.length) (cap:=gc) (kd:=.i64) (j:=((k:Nat):Int)) (e:=34) (sz:=2) (S:=S2) (cs:=cs2) (hrd:=hrd2) (hb:=(fun hc=>by exact ⟨by omega,by omega,by first | exact P8 hF hlt | exact P8 hF2 hlt⟩)) (k:=?_))))))
   have hw4:Addr.add (eltA ga (k * 2)) 1=eltA ga (k * 2+1):=eltA_add _ _ _
   refine A5 (j:=22) [0] (k:=L1 37 [(27,false)] (x:=.pointer (some (Addr.add (eltA ga (k * 2)) 1))) (y:=.pointer (some (eltA ga (k * 2+1)))) (by simp only [hw4]) (R7 (ch:=[(27,false)]) (a:=ga) (q:=k * 2+1) (S:=S2) (cs:=cs2) (v:=.slice bg f.2.size cg) (hrd:=hrd2) (hS:=hS2) (hv:=(fun hc=>(elt2 hge 1 (by show 1<2; omega)))) (k:=K6 (ch:=[(27,false)]) (a:=bg) (cap:=cg) (e:=5) (S:=S2) f.2 (hrd:=hgr) (hS:=hS2) (k:=B5 [0,5] [0,1,12,13,41] (k:=A1 (D2 (b:=(!(f.1.toList==f.1.toList))||(!(f.2.toList==f.2.toList))) kr (fun hc5=>?_) (fun hc5=>?_)))))))
   ·
    exact absurd hc5 (by simp)
   ·
    skip
    refine B6 (D3 (A1 (A3 (A5 (j:=1) [0] (k:=F0 42 (((k:Nat):Int)+1) (by omega) (by omega) kr (B5 [0] [0,1,12,13] (k:=F6 (s':=(k+1)) [0,1,12,13] kr rfl (by omega) (by omega))))))))
  ·
   skip
   refine H0 (A6 (A6 (C3 (A1 (A2 (B9 (E':=[⟨4,[],.bool true⟩]) [0] [4] (k:=A1 (C8 ?_))))))))
   refine C5 [.tmp 4] [.bool true] (k:=?_)
   exact ⟨rfl,rfl⟩
theorem long_ (fa:Option Addr) (fc:Nat) (F:List FB) (cs:List Value) (S:Nat→Obj→Prop) (hrd:Rd S fa cs) (hF:FRd S F cs) (hn:F.length≤9223372036854775807) (W0:World) (H:List Grp) (hS:∀ y o,S y o→At W0 H y o):Tri Tryz.prog 15 #[.agg #[.int .i64 0,.int .i64 0,.slice fa F.length fc,.string eB,.slice none 0 0]] W0 H (fun v H'=>v=.bool (longM F)∧H'=H):=by
 refine D6 39 Tryz.func15 ?_
 refine A2 (A3 (O9 (.agg #[.int .i64 0,.int .i64 0,.slice fa F.length fc,.string eB,.slice none 0 0]) (fun b1=>D5 (E':=[⟨1,[],pt b1⟩]) [0] [1] (k:=A1 (A2 (A2 (A3 (A5 (j:=1) [0] (k:=?_)))))))))
 refine D0 0 2 rfl rfl (B5 [0,0] [1,6,7,8] (k:=A1 (B8 (I6 (EI:=(fun ξ:Nat=>[⟨1,[],pt b1⟩,⟨6,[],.slice fa F.length fc⟩,⟨7,[],.int .i64 ((F.length:Nat):Int)⟩,⟨8,[],.int .i64 ((ξ:Nat):Int)⟩])) (HI:=(fun ξ:Nat=>([(b1,.cells #[.int .i64 0,.int .i64 0,.slice fa F.length fc,.string eB,.slice none 0 0] 47 (0,0))]::H))) (Φ:=(fun ξ:Nat=>(ξ≤F.length)∧(NoLong F ξ))) (μ:=(fun ξ:Nat=>F.length - ξ)) (s0:=(0)) [1,6,7,8] kr rfl ⟨(by omega),(fun j h=>absurd h (Nat.not_lt_zero j))⟩ ?_))))
 rintro k ⟨hk,hno⟩
 refine A2 (G_p [0] [1,6,7,8,9] (k:=A1 (A2 (D2 (b:=decide (((k:Nat):Int)<((F.length:Nat):Int))) kr (fun hc2=>?_) (fun hc2=>?_)))))
 ·
  have hlt:k<F.length:=by simp only [decide_eq_true_eq] at hc2; omega
  obtain ⟨ba,bc,hge,hgr,hgc⟩:=hF.get hlt
  obtain ⟨f,hfk⟩:∃ f,f=F[k]:=⟨_,rfl⟩
  rw [← hfk] at hge hgr hgc
  refine B6 (A1 (A2 (B8 (A2 (A3 (L2 F.length ((k:Nat):Int) 2 hrd (by exact ⟨by omega,by omega,P8 hF hlt⟩) (L0 (ch:=[]) (a:=fa) (q:=k * 2) (S:=S) (cs:=cs) (l:=[.string f.1,.slice ba f.2.size bc]) (hrd:=hrd) (hS:=(fun y o h=>At.cons (hS y o h))) (hl:=List.cons_ne_nil _ _) (hv:=(fun _=>(elt2 hge))) (k:=O0 (.agg #[.string eB,.slice none 0 0]) (fun b3=>?_)))))))))
  refine M8 0 0 (.agg #[.string f.1,.slice ba f.2.size bc]) rfl (B5 [] [1,4,6,7,8] (k:=A1 (A2 (A3 (A5 (j:=1) [0] (k:=D0 0 1 rfl rfl (A5 (j:=6) [0,0,0,0] (k:=F9 (ch:=[(16,false)]) (b:=b3) (off:=0) (v:=.string f.1) (hA:=At.grp 0 0 rfl rfl) (k:=?_)))))))))
  refine B5 [0,0,5] [1,6,7,8,21] (k:=A1 (D2 (b:=(decide (((f.2.size:Nat):Int) > 500))||(decide ((f.1.size:Int) > 200))) kr (fun hc4=>?_) (fun hc4=>?_)))
  ·
   have hyes:=hc4
   refine A2 (B9 (E':=[⟨2,[],.bool true⟩]) [0] [2] (k:=A1 (C8 (G3 (C0 (C0 (G3 (C0 ?_))))))))
   refine G8 (fun w h=>h.erase 1) (G8 (fun w h=>h.erase 0) (C5 [.tmp 2] [.bool true] (k:=?_)))
   exact ⟨congrArg Value.bool (long_at hlt hfk hyes).symm,rfl⟩
  ·
   have hcn:=hc4
   refine B6 (D3 (A1 (A3 (A5 (j:=1) [0] (k:=F0 22 (((k:Nat):Int)+1) (by omega) (by omega) kr (B5 [0] [1,6,7,8] (k:=N_pk 1 [1] (F6 (s':=(k+1)) [1,6,7,8] kr kr ⟨(by omega),(nolong_next hno hlt hfk hcn)⟩ (by omega)))))))))
 ·
  have hge:F.length≤k:=by simp only [decide_eq_false_iff_not] at hc2; omega
  refine H0 (A6 (A6 (C3 (A1 (A2 (A3 (A5 (j:=1) [0] (k:=D0 0 2 rfl rfl ?_))))))))
  refine A5 (j:=6) [0,0,0,0] (k:=F9 (ch:=[(27,false)]) (b:=b1) (off:=4) (v:=.slice none 0 0) (hA:=At.grp 0 0 rfl rfl) (k:=A5 (j:=12) [0,0,5,0,0] (k:=F9 (ch:=[(33,false)]) (b:=b1) (off:=3) (v:=.string eB) (hA:=At.grp 0 0 rfl rfl) (k:=B5 [0,0,5,0] [2] (k:=A1 (C8 (G8 (fun w h=>h.erase 0) (C5 [.tmp 2] [.bool (((decide (((F.length:Nat):Int) > 20))||false)||false)] (k:=?_)))))))))
  have hkF:k=F.length:=by omega
  subst hkF
  exact ⟨congrArg Value.bool (by rw [long_all hno]; simp),rfl⟩
end Go.Proofs.YtdolpaagdpeagaaGreatDoor
namespace Go.Proofs.YtdolpaagdpeagaaGreatDoor
open Go.Sw Go.Lib Go.Vf Go.Sha Go.Pr Go.RowKit
structure FOk (F:List FB):Prop where
  asc:Asc F
  name:∀ f∈F,R2 f.1=true
  len:F.length≤20
  size:∀ f∈F,f.2.size≤100000
theorem fok_nil:FOk []:=⟨List.Pairwise.nil,fun _ h=>absurd h List.not_mem_nil,Nat.zero_le _,fun _ h=>absurd h List.not_mem_nil⟩
theorem fok_of {l s:List FB} (h:F8 l=some s) (hn:l.length≤20) (hb:∀ f∈l,f.2.size≤100000):FOk s:=by
  have ho:=K3 h
  exact ⟨ho.asc,ho.names,by rw [ho.perm.length_eq]; exact hn,fun f hf=>hb f (ho.perm.mem_iff.1 hf)⟩
theorem FOk.self {F:List FB} (h:FOk F):F8 F=some F:=by
  have hs:SrtF F:=h.asc.imp fun {a b} h1 h2=>List.lt_asymm h1 h2
  refine sorted_told (List.Perm.refl F) hs fun m hm=>?_
  have htw:twoP F=true:=by
    have:∀ {F:List FB},Asc F→(∀ f∈F,R2 f.1=true)→twoP F=true:=by
      intro F
      induction F with
      | nil=>exact fun _ _=>rfl
      | cons f r ih =>
        intro ha hn
        cases r with
        | nil=>exact hn f List.mem_cons_self
        | cons g r =>
          show (R2 f.1&&(!(f.1.toList==g.1.toList)&&twoP (g::r)))=true
          have h1:=(List.pairwise_cons.1 ha).1 g List.mem_cons_self
          rw [hn f List.mem_cons_self,ih (List.pairwise_cons.1 ha).2 fun x hx=>hn x (List.mem_cons_of_mem _ hx)]
          have:(f.1.toList==g.1.toList)=false:=by
            rw [beq_eq_false_iff_ne]
            intro e
            have e2:f.1=g.1:=Y8 e
            have:keyF f=keyF g:=by unfold keyF; rw [e2]
            rw [this] at h1
            exact List.lt_irrefl _ h1
          rw [this]; rfl
    exact this h.asc h.name
  exact twoP_bad.1 htw m hm
theorem FOk.nsz {F:List FB} (h:FOk F):∀ f∈F,f.1.size≤80:=fun f hf=>X4 (h.name f hf)
theorem vs_new {room:Int} (h:0≤room):Vs room (newM room) (Gv 0 []):=⟨rfl,rfl,fun x hx=>absurd hx List.not_mem_nil,List.nodup_nil,by show (if 0 > room then 0 else room)=room; rw [if_neg (by omega)]⟩
theorem gen_new (room:Int):Gen 0 [] (newM room):=⟨fun _ j=>by show C9 (((H7 [] (dirB G7)).take j).foldl E7 []) G7=none; rw [show H7 [] (dirB G7)=[] from rfl,List.take_nil]; rfl,fun h=>absurd rfl h,fun h=>absurd rfl h,fun h=>absurd rfl h⟩
theorem gv_dir {n:Int} {F:List FB} (h0:n≠0) (hn:0≤n):∀ x∈Gv n F,dirB x.1=gB n∨x=(G7,gB n++lfB):=fun x hx=>by
  rw [gv_pos h0] at hx
  rcases List.mem_append.1 hx with hx | hx
  · obtain ⟨f,_,rfl⟩:=List.mem_map.1 hx; exact .inl (J2 hn _)
  · rcases List.mem_append.1 hx with hx | hx <;> rw [List.mem_singleton.1 hx]
    · exact .inl (J2 hn _)
    · exact .inr rfl
theorem gv_nofresh {n:Int} {F:List FB} (hn:0≤n):getV (Gv n F) E6=none:=getV_none.2 fun x hx e=>gv_jk hn x hx (.inr e)
theorem gv_sweepO {R:Int} {n m:Int} {F:List FB} {M:DM} (hn:0≤n) (hm:m > 0) (hne:m≠n) (h:Vs R M (Gv n F)):Vs R (L7 (gB m) M) (Gv n F):=by
  have h1:=sweep_vs h (gB m)
  rwa [filt_all fun x hx=>by
    by_cases h0:n=0
    · subst h0; exact absurd hx List.not_mem_nil
    have:dirB x.1≠gB m:=by
      rcases gv_dir h0 hn x hx with e | e
      · rw [e]; exact fun e2=>hne (gB_inj hn (by omega) e2).symm
      · rw [e]; exact cur_dir (by omega)
    simpa using this] at h1
theorem gv_tidy {R:Int} {n:Int} {F:List FB} {M:DM} (hn:0≤n) (h:Vs R M (Gv n F)):Vs R (K4 [n - 1,n+1] M) (Gv n F):=by
  have h1:Vs R (L6 [n - 1,n+1] M) (Gv n F):=by
    show Vs R (if n+1 > 0 then L7 (gB (n+1)) (if n - 1 > 0 then L7 (gB (n - 1)) M else M) else (if n - 1 > 0 then L7 (gB (n - 1)) M else M)) (Gv n F)
    rw [if_pos (by omega)]
    refine gv_sweepO hn (by omega) (by omega) ?_
    split
    · rename_i h1; exact gv_sweepO hn h1 (by omega) h
    · exact h
  unfold K4
  rw [h1.readNo (gv_nofresh hn)]
  exact h1
theorem gv_mem {n:Int} {F:List FB} (h0:n≠0):(G7,gB n++lfB)∈Gv n F∧(inG n maniB,C6 F)∈Gv n F∧∀ f∈F,(inG n f.1,f.2)∈Gv n F:=by
  rw [gv_pos h0]
  exact ⟨List.mem_append_right _ (List.mem_append_right _ (List.mem_singleton.2 rfl)),List.mem_append_right _ (List.mem_append_left _ (List.mem_singleton.2 rfl)),fun f hf=>List.mem_append_left _ (List.mem_map.2 ⟨f,hf,rfl⟩)⟩
theorem gv_ok {R:Int} {n:Int} {F:List FB} {M:DM} (hn:1≤n) (h:Vs R M (Gv n F)) (hF:FOk F):ReadOk n F M:=by
  obtain ⟨m1,m2,m3⟩:=gv_mem (n:=n) (F:=F) (by omega)
  exact ⟨h.read (getV_mem h.nd m1),h.read (getV_mem h.nd m2),fun f hf=>h.read (getV_mem h.nd (m3 f hf)),hF.name,hF.asc,hF.len,fun f hf=>Nat.le_trans (hF.size f hf) (by omega)⟩
theorem gv_no {R:Int} {F:List FB} {M:DM} (h:Vs R M (Gv 0 F)):P1 M G7=(ByteArray.mk #[],60):=h.readNo rfl
theorem gen_ok {n:Int} {F:List FB} {M:DM} (hn:1≤n) (h:Gen n F M) (hi:Inv M) (hF:FOk F):ReadOk n F M :=
  ⟨((h.cur (by omega)).now hi).read,((h.man (by omega)).now hi).read,fun f hf=>((h.files (by omega) f hf).now hi).read,hF.name,hF.asc,hF.len,fun f hf=>Nat.le_trans (hF.size f hf) (by omega)⟩
theorem gen_no {F:List FB} {M:DM} (h:Gen 0 F M) (hi:Inv M):P1 M G7=(ByteArray.mk #[],60):=by
  unfold P1; rw [(h.none rfl).look hi]
theorem list_len {R:Int} {M:DM} {V:List FB} (h:Vs R M V) (d:ByteArray):(P2 M d).length=(V.filter fun x=>(dirB x.1).toList==d.toList).length:=by
  unfold P2
  rw [(L8 _).length_eq,List.length_map,← h.eq]
  unfold vw
  rw [List.filter_map,List.length_map]; rfl
theorem gv_list0 {R:Int} {n:Int} {F:List FB} {M:DM} (hn:1≤n) (h:Vs R M (Gv n F)):(P2 M eB).length=1:=by
  rw [list_len h,gv_pos (by omega),List.filter_append,List.filter_append]
  have hA:∀ W:List FB,(∀ x∈W,dirB x.1=gB n)→W.filter (fun x=>(dirB x.1).toList==eB.toList)=[]:=fun W hW=>filt_none fun x hx=>by
    rw [hW x hx,beq_eq_false_iff_ne]
    exact fun e=>gB_ne (by omega) (Y8 e)
  rw [hA _ fun x hx=>by obtain ⟨f,_,rfl⟩:=List.mem_map.1 hx; exact J2 (by omega) _,hA _ fun x hx=>by rw [List.mem_singleton.1 hx]; exact J2 (by omega) _]
  rw [filt_all fun x hx=>by rw [List.mem_singleton.1 hx]; show ((dirB G7).toList==_)=true; rw [cur_dir0]; simp]
  rfl
theorem gv_listg {R:Int} {n g:Int} {F:List FB} {M:DM} (hn:1≤n) (hg:1≤g) (h:Vs R M (Gv n F)):(P2 M (gB g)).length=if g=n then F.length+1 else 0:=by
  rw [list_len h,gv_pos (by omega),List.filter_append,List.filter_append]
  have hc:([(G7,gB n++lfB)]:List FB).filter (fun x=>(dirB x.1).toList==(gB g).toList)=[]:=filt_none fun x hx=>by
    rw [List.mem_singleton.1 hx,beq_eq_false_iff_ne]
    exact fun e=>cur_dir (n:=g) (by omega) (Y8 e)
  rw [hc,List.append_nil]
  split
  · rename_i e
    subst e
    rw [filt_all fun x hx=>by obtain ⟨f,_,rfl⟩:=List.mem_map.1 hx; rw [J2 (by omega)]; simp,filt_all fun x hx=>by rw [List.mem_singleton.1 hx,J2 (by omega)]; simp,List.length_append]
    unfold At'
    rw [List.length_map]; rfl
  · rename_i e
    have hA:∀ W:List FB,(∀ x∈W,dirB x.1=gB n)→W.filter (fun x=>(dirB x.1).toList==(gB g).toList)=[]:=fun W hW=>filt_none fun x hx=>by
      rw [hW x hx,beq_eq_false_iff_ne]
      exact fun e2=>e (gB_inj (by omega) (by omega) (Y8 e2)).symm
    rw [hA _ fun x hx=>by obtain ⟨f,_,rfl⟩:=List.mem_map.1 hx; exact J2 (by omega) _,hA _ fun x hx=>by rw [List.mem_singleton.1 hx]; exact J2 (by omega) _]
    rfl
theorem gl_size {n:Int} (hn:0≤n∧n<100):(gB n++lfB).size≤4:=by
  have:=gB_size hn
  rw [ByteArray.size_append]; show (gB n).size+1≤4; omega
theorem at_size {n:Int} {z:Nat}:∀ {s:List FB},(∀ f∈s,f.2.size≤z)→szV (At' n s)≤s.length * z
  | [],_=>Nat.zero_le _
  | f::s,h=>by
    have h1:=h f List.mem_cons_self
    have h2:=at_size (n:=n) (s:=s) fun g hg=>h g (List.mem_cons_of_mem _ hg)
    show szV ([(inG n f.1,f.2)]++At' n s)≤_
    rw [W8,Z4,List.length_cons,Nat.succ_mul]
    show f.2.size+_≤_
    omega
theorem gv_size {n:Int} (hn:0≤n∧n<100) {F:List FB} (hF:FOk F) {z:Nat} (hz:∀ f∈F,f.2.size≤z):szV (At' n F)+((C6 F).size+(gB n++lfB).size)≤20 * z+3000∧szV (Gv n F)≤20 * z+3000:=by
  have h1:=at_size (n:=n) hz
  have h2:F.length * z≤20 * z:=Nat.mul_le_mul_right _ hF.len
  have h3:=A0i (F:=F) (z:=80) hF.nsz
  have h4:F.length * (80+66)≤20 * 146:=Nat.mul_le_mul hF.len (Nat.le_refl _)
  have h5:=gl_size hn
  refine ⟨by omega,?_⟩
  unfold Gv
  split
  · exact Nat.zero_le _
  · rw [W8,W8,Z4,Z4]
    show szV (At' n F)+((C6 F).size+(gB n++lfB).size)≤_
    omega
end Go.Proofs.YtdolpaagdpeagaaGreatDoor
namespace Go.Proofs.YtdolpaagdpeagaaGreatDoor
open Go.Sw Go.Lib Go.Vf Go.Sha Go.Pr Go.RowKit
theorem fx_pub {i q:Nat} {M:DM} (h:Fx i q M) {p:PM} (hpn:0≤p.n∧p.n<98) {l:List FB} (hn:l.length≤20) (hb:∀ f∈l,f.2.size≤100000):Fx (i+2 * q+200) (q+30) (E8 p M l).2.2:=by
  cases hs:F8 l with
  | none=>rw [pub_arg hs]; exact h.up (by omega) (by omega)
  | some s =>
    have ho:=fok_of hs hn hb
    have h3:=A0i (F:=s) (z:=80) ho.nsz
    have h4:s.length * (80+66)≤20 * 146:=Nat.mul_le_mul ho.len (Nat.le_refl _)
    have hl:=ho.len
    have hlay:=fx_lay h (n:=p.n+1) ⟨by omega,by omega⟩ (F:=s) ho.size (by omega)
    cases hd:p.down with
    | true=>rw [pub_down hs hd]; exact h.up (by omega) (by omega)
    | false =>
      by_cases e:(Y7 (p.n+1) s M).1=0
      · rw [pub_ok hs hd e]
        dsimp only
        split
        · exact (fx_sweep hlay _).up (by omega) (by omega)
        · exact hlay.up (by omega) (by omega)
      · by_cases e6:(Y7 (p.n+1) s M).1=61
        · rw [pub_room hs hd e6]
          exact (fx_tidy hlay [p.n+1]).up (by show _+1 * _+1≤_; omega) (by omega)
        · rw [pub_err hs hd e e6]; exact hlay.up (by omega) (by omega)
def l1:List FB:=[(ByteArray.mk #[98],ByteArray.mk #[50]),(ByteArray.mk #[97],ByteArray.mk #[49])]
def s1:List FB:=[(ByteArray.mk #[97],ByteArray.mk #[49]),(ByteArray.mk #[98],ByteArray.mk #[50])]
def l2:List FB:=[(ByteArray.mk #[97,47,98],ByteArray.mk #[])]
theorem l1_s:F8 l1=some s1:=by decide +kernel
theorem l2_s:F8 l2=none:=by decide +kernel
theorem l1_ok:l1.length≤20∧(∀ f∈l1,f.1.size≤1000)∧∀ f∈l1,f.2.size≤1:=by decide +kernel
theorem l2_ok:l2.length≤20∧(∀ f∈l2,f.1.size≤1000)∧∀ f∈l2,f.2.size≤1:=by decide +kernel
theorem opened (room:Int) (h:0≤room):P1 (newM room) G7=(ByteArray.mk #[],60)∧Vs room (K4 [-1,1] (newM room)) (Gv 0 [])∧Gen 0 [] (K4 [-1,1] (newM room))∧Inv (K4 [-1,1] (newM room))∧Fx 1 0 (K4 [-1,1] (newM room)):=by
  obtain ⟨g,i⟩:=Gen.tidy (n:=0) (by omega) (gen_new room) (inv_new room) [-1,1] (fun m hm=>by simp at hm; omega)
  exact ⟨gv_no (vs_new h),gv_tidy (n:=0) (by omega) (vs_new h),g,i,(fx_tidy (fx_new room) [-1,1]).up (by decide) (by decide)⟩
theorem first_model:∃ M2,E8 ⟨0,[],false⟩ (K4 [-1,1] (newM 10000)) l1=(0,⟨1,s1,false⟩,M2)∧Fx 201 30 M2∧ReadOk 1 s1 (N3 M2 []):=by
  obtain ⟨h1,h2,h3,h4,h5⟩:=opened 10000 (by decide)
  obtain ⟨k1,k2,k3⟩:=l1_ok
  have ho:=fok_of l1_s k1 fun f hf=>Nat.le_trans (k3 f hf) (by decide)
  have hz:∀ f∈s1,f.2.size≤1:=by decide +kernel
  have hp:=(pub_vs (p:=⟨0,[],false⟩) (by decide) (by decide) rfl h2 (by decide) l1_s).1 (by
    have h6:=(gv_size (n:=(⟨0,[],false⟩:PM).n+1) ⟨by decide,by decide⟩ ho hz).1
    have h7:szV (Gv (⟨0,[],false⟩:PM).n (⟨0,[],false⟩:PM).files)=0:=rfl
    rw [h7]
    omega)
  have hR:∀ x∈(K4 [-1,1] (newM 10000)).names,A4 x.1=true:=h5.rn
  have hg:=pub_fate (p:=⟨0,[],false⟩) (by decide) (by decide) rfl h4 hR h3 l1_s
  have hx:=fx_pub h5 (p:=⟨0,[],false⟩) ⟨by decide,by decide⟩ k1 fun f hf=>Nat.le_trans (k3 f hf) (by decide)
  generalize hr:E8 ⟨0,[],false⟩ (K4 [-1,1] (newM 10000)) l1=r at hp hg hx
  obtain ⟨e,p2,M2⟩:=r
  obtain ⟨a1,a2,a3⟩:=hp
  dsimp only at a1 a2 a3 hg hx
  subst a1 a2
  refine ⟨M2,rfl,hx,?_⟩
  obtain ⟨i2,⟨_,_,g2⟩ | ⟨ne,_⟩⟩:=hg
  · exact gen_ok (by decide) (g2.crash i2 []) (P7 M2 []) ho
  · exact absurd rfl ne
theorem frd2 {S:Nat→Obj→Prop} {cs:List Value} (h:FRd S s1 cs):cs[0 * 2]? = some (.string (mB #[97]))∧∃ rb cb,cs[1 * 2+1]? = some (.slice rb 1 cb)∧Rd S rb (u8s (mB #[50]).data.toList)∧Sh rb 1 cb:=by
  cases h with
  | cons a1 a2 a3 =>
    cases a3 with
    | cons b1 b2 b3=>exact ⟨rfl,_,_,rfl,b1,b2⟩
theorem first_ (W0:World) (H:List Grp):Tri Tryz.prog 7 #[] W0 H (fun v H'=>v=.bool true∧H'=H):=by
 obtain ⟨ho1,ho2,ho3,ho4,ho5⟩:=opened 10000 (by decide)
 obtain ⟨M2,hm1,hm2,hm3⟩:=first_model
 refine D6 79 Tryz.func7 ?_
 refine A2 (B9 (E':=[]) [0] [] (k:=A1 (A2 (A3 (E4 (vs:=[.int .i64 10000]) Tryz.func8 (Tri.heap (fun _ hw=>A8 hw fun _ x=>by simp only [] <;> omega) (cNewP 10000 rfl _ H)) ?_)))))
 rintro _ _ ⟨d1,GD2,rfl,hd3,rfl⟩
 refine E0 rfl (H':=(GD2++H)) (fun w h=>A8 h fun _ x=>by simp only [List.flatten_append,List.count_append] <;> omega) (D5 (E':=[⟨1,[],pt d1⟩]) [0] [1] (k:=A1 (A2 (A3 (A5 (j:=1) [0] (k:=E4 (vs:=[pt d1]) Tryz.func9 (Tri.heap (fun _ hw=>A8 hw fun _ x=>by simp only [List.flatten_append,List.count_append] <;> omega) (cOpen0 hd3 (fx_new 10000) _ H (by omega) (by omega) ho1)) ?_))))))
 rintro _ _ ⟨pb4,GD5,GP6,rfl,hd7,hp8,rfl⟩
 refine E0 rfl (H':=(GD5++(GP6++H))) (fun w h=>A8 h fun _ x=>by simp only [List.flatten_append,List.count_append] <;> omega) (B5 [0,0,0,0,0] [1,2,3] (k:=A1 (A2 (A3 (N2 5 1 [.int .u8 50] (fun b9=>GL_sameBytes (i:=1) (ch:=[]) (t:=31) (e:=5) (b:=b9) (off:=0) (l:=1) (cap:=1) (j:=0) (m:=0) rfl rfl kr kr kr kr kr kr rfl rfl (by rfl) (A5 (j:=3) [0] (k:=N2 5 1 [.int .u8 49] (fun b10=>?_)))))))))
 refine GL_sameBytes (i:=4) (ch:=[]) (t:=31) (e:=5) (b:=b10) (off:=0) (l:=1) (cap:=1) (j:=0) (m:=0) rfl rfl kr kr kr kr kr kr rfl rfl (by rfl) (A5 (j:=6) [0] (k:=N2 34 2 [.string (mB #[98]),.slice (some ⟨b9,0,none⟩) 1 1,.string (mB #[97]),.slice (some ⟨b10,0,none⟩) 1 1] (fun b11=>B5 [0] [1,2,3,4] (k:=A1 (A2 (A2 (A3 (A5 (j:=9) [0,0,0,0,0,3,0,0,0] (k:=?_)))))))))
 refine Z0 (H':=([(b11,.cells #[.string (mB #[98]),.slice (some ⟨b9,0,none⟩) 1 1,.string (mB #[97]),.slice (some ⟨b10,0,none⟩) 1 1] 34 (0,0))]::[(b10,.cells #[.int .u8 49] 5 (1,1+1))]::[(b9,.cells #[.int .u8 50] 5 (1,1+1))]::(GD5++(GP6++H)))) kr ?_
 have hfa1:FilesIn [[(b11,.cells #[.string (mB #[98]),.slice (some ⟨b9,0,none⟩) 1 1,.string (mB #[97]),.slice (some ⟨b10,0,none⟩) 1 1] 34 (0,0))],[(b9,.cells #[.int .u8 50] 5 (1,1+1))],[(b10,.cells #[.int .u8 49] 5 (1,1+1))]] l1 (some ⟨b11,0,none⟩) [.string (mB #[98]),.slice (some ⟨b9,0,none⟩) 1 1,.string (mB #[97]),.slice (some ⟨b10,0,none⟩) 1 1]:=⟨Rd.mono Rd.lit fun b o h=>(by simp only [inZ,Go.Sw.inG,List.flatten_cons,List.mem_append] at h ⊢; exact .inl h),.cons (Rd.mono Rd.lit fun b o h=>(by simp only [inZ,Go.Sw.inG,List.flatten_cons,List.flatten_nil,List.mem_append] at h ⊢; exact .inr (.inl h))) (.inr (.inr ⟨_,_,rfl⟩)) (.cons (Rd.mono Rd.lit fun b o h=>(by simp only [inZ,Go.Sw.inG,List.flatten_cons,List.flatten_nil,List.mem_append] at h ⊢; exact .inr (.inr (.inl h)))) (.inr (.inr ⟨_,_,rfl⟩)) .nil)⟩
 refine I3 (ch:=[(27,false)]) (f:=10) (fst:=#[]) (caps:=#[]) (vs:=[pt pb4,.slice (some ⟨b11,0,none⟩) 2 2]) (hf:=Tryz.func10) (hsure:=G0 kr) (hc:=Tri.heap (fun _ hw=>A8 hw fun _ x=>by simp only [List.flatten_append,List.flatten_cons,List.flatten_nil,List.count_append,List.append_nil] <;> omega) (cPub hd7 ho5 _ ([[(b11,.cells #[.string (mB #[98]),.slice (some ⟨b9,0,none⟩) 1 1,.string (mB #[97]),.slice (some ⟨b10,0,none⟩) 1 1] 34 (0,0))],[(b10,.cells #[.int .u8 49] 5 (1,1+1))],[(b9,.cells #[.int .u8 50] 5 (1,1+1))]]++H) hp8 (by omega) (by omega) ⟨by decide,by decide⟩ 2 (hfa1.arg (fun p hp=>by simp only [List.flatten_append,List.flatten_cons,List.flatten_nil,List.mem_append] at hp ⊢; first | (rcases hp with hp | hp | hp | hp <;> first | exact absurd hp List.not_mem_nil | simp only [hp,true_or,or_true]) | (rcases hp with hp | hp <;> first | exact absurd hp List.not_mem_nil | simp only [hp,true_or,or_true]))) l1_ok.1 (fun f hf=>Nat.le_trans (l1_ok.2.1 f hf) (by decide)) (fun f hf=>Nat.le_trans (l1_ok.2.2 f hf) (by decide)) hm1)) (k:=?_)
 rintro _ _ ⟨GD12,GP13,rfl,hd14,hp15,rfl⟩
 refine E0 rfl (H':=([(b11,.cells #[.string (mB #[98]),.slice (some ⟨b9,0,none⟩) 1 1,.string (mB #[97]),.slice (some ⟨b10,0,none⟩) 1 1] 34 (0,0))]::[(b10,.cells #[.int .u8 49] 5 (1,1+1))]::[(b9,.cells #[.int .u8 50] 5 (1,1+1))]::(GD12++(GP13++H)))) (fun w h=>A8 h fun _ x=>by simp only [List.flatten_append,List.flatten_cons,List.flatten_nil,List.count_append,List.append_nil] <;> omega) (A5 (j:=15) [0,3,0,0,0] (k:=GL_buildSlice (i:=15) (ch:=[(33,false)]) (e:=34) (l:=[(0,.agg #[.string (mB #[97,47,98]),.slice none 0 0])]) (c:=[.string (mB #[97,47,98]),.slice none 0 0]) rfl rfl kr kr kr kr kr (fun b16=>Z0 (H':=([(b16,.cells #[.string (mB #[97,47,98]),.slice none 0 0] 34 (0,0))]::[(b11,.cells #[.string (mB #[98]),.slice (some ⟨b9,0,none⟩) 1 1,.string (mB #[97]),.slice (some ⟨b10,0,none⟩) 1 1] 34 (0,0))]::[(b10,.cells #[.int .u8 49] 5 (1,1+1))]::[(b9,.cells #[.int .u8 50] 5 (1,1+1))]::(GD12++(GP13++H)))) kr ?_)))
 have hfa2:FilesIn [[(b16,.cells #[.string (mB #[97,47,98]),.slice none 0 0] 34 (0,0))]] l2 (some ⟨b16,0,none⟩) [.string (mB #[97,47,98]),.slice none 0 0]:=⟨Rd.mono Rd.lit fun b o h=>(by simp only [inZ,Go.Sw.inG,List.flatten_cons,List.mem_append] at h ⊢; exact .inl h),.cons (.inl rfl) (.inl ⟨rfl,rfl,rfl⟩) .nil⟩
 refine I3 (ch:=[(33,false)]) (f:=10) (fst:=#[]) (caps:=#[]) (vs:=[pt pb4,.slice (some ⟨b16,0,none⟩) 1 1]) (hf:=Tryz.func10) (hsure:=G0 kr) (hc:=Tri.heap (fun _ hw=>A8 hw fun _ x=>by simp only [List.flatten_append,List.flatten_cons,List.flatten_nil,List.count_append,List.append_nil] <;> omega) (cPub hd14 hm2 _ ([[(b16,.cells #[.string (mB #[97,47,98]),.slice none 0 0] 34 (0,0))],[(b11,.cells #[.string (mB #[98]),.slice (some ⟨b9,0,none⟩) 1 1,.string (mB #[97]),.slice (some ⟨b10,0,none⟩) 1 1] 34 (0,0))],[(b10,.cells #[.int .u8 49] 5 (1,1+1))],[(b9,.cells #[.int .u8 50] 5 (1,1+1))]]++H) hp15 (by omega) (by omega) ⟨by decide,by decide⟩ 1 (hfa2.arg (fun p hp=>by simp only [List.flatten_append,List.flatten_cons,List.flatten_nil,List.mem_append] at hp ⊢; first | (rcases hp with hp | hp | hp | hp <;> first | exact absurd hp List.not_mem_nil | simp only [hp,true_or]) | (rcases hp with hp | hp <;> first | exact absurd hp List.not_mem_nil | simp only [hp,true_or,or_true]))) l2_ok.1 (fun f hf=>Nat.le_trans (l2_ok.2.1 f hf) (by decide)) (fun f hf=>Nat.le_trans (l2_ok.2.2 f hf) (by decide)) (pub_arg l2_s))) (k:=?_)
 rintro _ _ ⟨GD17,GP18,rfl,hd19,hp20,rfl⟩
 refine E0 rfl (H':=([(b16,.cells #[.string (mB #[97,47,98]),.slice none 0 0] 34 (0,0))]::[(b11,.cells #[.string (mB #[98]),.slice (some ⟨b9,0,none⟩) 1 1,.string (mB #[97]),.slice (some ⟨b10,0,none⟩) 1 1] 34 (0,0))]::[(b10,.cells #[.int .u8 49] 5 (1,1+1))]::[(b9,.cells #[.int .u8 50] 5 (1,1+1))]::(GD17++(GP18++H)))) (fun w h=>A8 h fun _ x=>by simp only [List.flatten_append,List.flatten_cons,List.flatten_nil,List.count_append,List.append_nil] <;> omega) (B5 [0,3] [1,2,39] (k:=A1 (D9 kr (B6 (A1 (A2 (A3 (A5 (j:=1) [0] (k:=?_)))))))))
 refine E4 (vs:=[pt d1,.slice none 0 0]) Tryz.func17 (Tri.heap (fun _ hw=>A8 hw fun _ x=>by simp only [List.flatten_append,List.flatten_cons,List.flatten_nil,List.count_append,List.append_nil] <;> omega) (cCrashD hd19 hm2 _ ([[(b16,.cells #[.string (mB #[97,47,98]),.slice none 0 0] 34 (0,0))],[(b11,.cells #[.string (mB #[98]),.slice (some ⟨b9,0,none⟩) 1 1,.string (mB #[97]),.slice (some ⟨b10,0,none⟩) 1 1] 34 (0,0))],[(b10,.cells #[.int .u8 49] 5 (1,1+1))],[(b9,.cells #[.int .u8 50] 5 (1,1+1))]]++(GP18++H)) (by omega) (by omega) [] none 0 (fun _ _=>False) ⟨.inl rfl,Nat.le_refl _,by decide,fun x hx=>absurd hx List.not_mem_nil⟩ (fun _ _ h=>h.elim))) ?_
 rintro _ _ ⟨GD21,rfl,hd22,rfl⟩
 refine E0 rfl (H':=([(b16,.cells #[.string (mB #[97,47,98]),.slice none 0 0] 34 (0,0))]::[(b11,.cells #[.string (mB #[98]),.slice (some ⟨b9,0,none⟩) 1 1,.string (mB #[97]),.slice (some ⟨b10,0,none⟩) 1 1] 34 (0,0))]::[(b10,.cells #[.int .u8 49] 5 (1,1+1))]::[(b9,.cells #[.int .u8 50] 5 (1,1+1))]::(GD21++(GP18++H)))) (fun w h=>A8 h fun _ x=>by simp only [List.flatten_append,List.flatten_cons,List.flatten_nil,List.count_append,List.append_nil] <;> omega) (D5 (E':=[⟨1,[],pt d1⟩,⟨2,[],pt pb4⟩]) [] [1,2] (k:=A1 (A2 (A3 (A5 (j:=1) [0] (k:=E4 (vs:=[pt d1]) Tryz.func12 (Tri.heap (fun _ hw=>A8 hw fun _ x=>by simp only [List.flatten_append,List.flatten_cons,List.flatten_nil,List.count_append,List.append_nil] <;> omega) (cReadG hd22 (O4 hm2 []) _ ([[(b16,.cells #[.string (mB #[97,47,98]),.slice none 0 0] 34 (0,0))],[(b11,.cells #[.string (mB #[98]),.slice (some ⟨b9,0,none⟩) 1 1,.string (mB #[97]),.slice (some ⟨b10,0,none⟩) 1 1] 34 (0,0))],[(b10,.cells #[.int .u8 49] 5 (1,1+1))],[(b9,.cells #[.int .u8 50] 5 (1,1+1))]]++(GP18++H)) 1 ⟨by decide,by decide⟩ s1 hm3)) ?_))))))
 rintro _ _ ⟨ZR23,ra24,rc25,cs26,rfl,hfi27,rfl⟩
 refine E0 rfl (H':=([(b16,.cells #[.string (mB #[97,47,98]),.slice none 0 0] 34 (0,0))]::[(b11,.cells #[.string (mB #[98]),.slice (some ⟨b9,0,none⟩) 1 1,.string (mB #[97]),.slice (some ⟨b10,0,none⟩) 1 1] 34 (0,0))]::[(b10,.cells #[.int .u8 49] 5 (1,1+1))]::[(b9,.cells #[.int .u8 50] 5 (1,1+1))]::(GD21++(GP18++(ZR23++H))))) (fun w h=>A8 h fun _ x=>by simp only [List.flatten_append,List.flatten_cons,List.flatten_nil,List.count_append,List.append_nil] <;> omega) (B5 [0,0,0,0,0,0,0] [2,5,6,7] (k:=A1 (A2 (A3 (A5 (j:=13) [0,0,0,0,0,2,0,0,0,0,2,0,0] (k:=I7 (ch:=[(59,true)]) (a:=ra24) (len:=s1.length) (cap:=rc25) (kd:=.i64) (j:=0) (e:=34) (sz:=2) (S:=(inZ ZR23)) (cs:=cs26) (hrd:=hfi27.1) (hb:=(fun hc=>by exact ⟨by decide,by decide,P8 (F:=s1) hfi27.2 (k:=0) (by decide)⟩)) (k:=A5 (j:=15) [0] (k:=R7 (ch:=[(59,true)]) (a:=ra24) (q:=0 * 2) (S:=(inZ ZR23)) (cs:=cs26) (v:=.string (mB #[97])) (hrd:=hfi27.1) (hS:=(fun y o h=>At.cons (At.cons (At.cons (At.cons (C4 (C4 (at_z h)))))))) (hv:=(fun hc=>(frd2 hfi27.2).1)) (k:=?_)))))))))
 refine A5 (j:=20) [0,6,0,0] (k:=I7 (ch:=[(66,true)]) (a:=ra24) (len:=s1.length) (cap:=rc25) (kd:=.i64) (j:=1) (e:=34) (sz:=2) (S:=(inZ ZR23)) (cs:=cs26) (hrd:=hfi27.1) (hb:=(fun hc=>by exact ⟨by decide,by decide,P8 (F:=s1) hfi27.2 (k:=0) (by decide)⟩)) (k:=?_))
 have hw28:Addr.add (eltA ra24 (1 * 2)) 1=eltA ra24 (1 * 2+1):=eltA_add _ _ _
 refine A5 (j:=22) [0] (k:=L1 69 [(66,true)] (x:=.pointer (some (Addr.add (eltA ra24 (1 * 2)) 1))) (y:=.pointer (some (eltA ra24 (1 * 2+1)))) (by simp only [hw28]) ?_)
 obtain ⟨_,rb,cb,hbe,hbr,hbc⟩:=frd2 hfi27.2
 refine R7 (ch:=[(66,true)]) (a:=ra24) (q:=1 * 2+1) (S:=(inZ ZR23)) (cs:=cs26) (v:=.slice rb 1 cb) (hrd:=hfi27.1) (hS:=(fun y o h=>At.cons (At.cons (At.cons (At.cons (C4 (C4 (at_z h)))))))) (hv:=(fun hc=>hbe)) (k:=K6 (ch:=[(66,true)]) (a:=rb) (cap:=cb) (e:=5) (S:=(inZ ZR23)) (mB #[50]) (hrd:=hbr) (hS:=(fun y o h=>At.cons (At.cons (At.cons (At.cons (C4 (C4 (at_z h)))))))) (k:=A5 (j:=28) [0,6,0,0] (k:=A0p [(74,true)] Tryz.func13 (fun hc=>cGenAt hp20 _ _ (fun x hx=>by simp only [List.flatten_append,List.flatten_cons,List.mem_append]; simp only [hx,true_or,or_true])) (B5 [0,6,0] [0] (k:=A1 (C8 (G8 (fun w h=>(Sat.dropApp (Sat.dropApp (Sat.dropApp ((((h).tail).tail).tail).tail)))) (C5 [.tmp 0] [.bool ((((((s1.length:Nat):Int)==2)&&((mB #[97]).toList==(mB #[97]).toList))&&((mB #[50]).toList==(mB #[50]).toList))&&true)] (k:=?_)))))))))
 exact ⟨congrArg Value.bool (by decide +kernel),rfl⟩
end Go.Proofs.YtdolpaagdpeagaaGreatDoor
