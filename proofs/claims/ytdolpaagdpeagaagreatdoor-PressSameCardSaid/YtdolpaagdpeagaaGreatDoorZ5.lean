/- What the laws of the press stand on. (and what it stands on) -/
import Derived.Test.YtdolpaagdpeagaaGreatDoorZ4
import Derived.ChangeArms
import Derived.Test.YtdolpaagdpeagaaGreatDoorCards
import Derived.Test.YtdolpaagdpeagaaGreatDoorTie
import Derived.LaidMore
import Derived.Lay
import Derived.SevenTiedAt
import Derived.Stop.Joined
import Derived.Stop.LaidErr
import Derived.LaidLaws
namespace Go.Proofs.YtdolpaagdpeagaaGreatDoor
open Go.Sw Go.Lib Go.Vf Go.Sha Go.Pr Go.RowKit
theorem nameD_eq {s:ByteArray} (h:R2 s=true):(G2 s&&!(s.toList==maniB.toList))=true:=by
  obtain ⟨h1,h2⟩:=name_part h
  rw [h1]
  have:(s.toList==maniB.toList)=false:=by rw [beq_eq_false_iff_ne]; exact fun e=>h2 (Y8 e)
  rw [this]; rfl
theorem nil_cons (B:List SE):B=[]∨∃ y R,B=y::R:=by
  cases B with
  | nil=>exact .inl rfl
  | cons y R=>exact .inr ⟨y,R,rfl⟩
theorem z_atQ {zl A B R:List SE} {y:SE} {q:Nat} (hab:A++B=zl) (hB:B=y::R) (hq:q=A.length * 2):(C1 zl)[q]? = some (.string y.1.1):=by
  subst hab hB; exact z_at hq 0 (by show 0<2; omega)
theorem cells_nn {zl:List SE} (h:zl.length≠0):C1 zl≠[]:=fun e=>by
  have:=congrArg List.length e
  rw [H4,List.length_nil] at this; omega
def AscZ (l:List SE):Prop:=l.Pairwise fun x y=>ltZ x y=true
theorem ltZ_iff (x y:SE):ltZ x y=true ↔ keyF x.1<keyF y.1:=by unfold ltZ; rw [Y6,decide_eq_true_eq]
theorem ltZ_trans {x y z:SE} (h1:ltZ x y=true) (h2:ltZ y z=true):ltZ x z=true:=(ltZ_iff _ _).2 (List.lt_trans ((ltZ_iff _ _).1 h1) ((ltZ_iff _ _).1 h2))
theorem gt_of {y x:SE} (h1:Op.bytesLess y.1.1.toList x.1.1.toList=false) (h2:(y.1.1.toList==x.1.1.toList)=false):ltZ x y=true:=by
  rw [Y6,decide_eq_false_iff_not] at h1
  rw [ltZ_iff]
  by_cases h:keyF x.1<keyF y.1
  · exact h
  · have e:keyF x.1=keyF y.1:=List.le_antisymm (List.not_lt.1 h1) (List.not_lt.1 h)
    exact absurd (by rw [key_inj e]; simp) (by rw [h2]; decide:¬ (y.1.1.toList==x.1.1.toList)=true)
theorem asc_ins {A B:List SE} {x:SE} (h:AscZ (A++B)) (hl:∀ a∈A,ltZ a x=true) (hu:∀ b∈B,ltZ x b=true):AscZ (A++x::B):=by
  unfold AscZ at h ⊢
  rw [List.pairwise_append] at h ⊢
  refine ⟨h.1,List.pairwise_cons.2 ⟨hu,h.2.1⟩,fun a ha b hb=>?_⟩
  rcases List.mem_cons.1 hb with rfl | hb
  · exact hl a ha
  · exact h.2.2 a ha b hb
theorem up_all {A R:List SE} {x y:SE} (h:AscZ (A++y::R)) (hy:ltZ x y=true):∀ b∈y::R,ltZ x b=true:=fun b hb=>by
  rcases List.mem_cons.1 hb with rfl | hb
  · exact hy
  · exact ltZ_trans hy ((List.pairwise_cons.1 (List.pairwise_append.1 h).2.1).1 b hb)
theorem dis_ne {F:List FB} {zl A R:List SE} {y:SE} {k:Nat} {f:FB} (hn:(F.map Prod.fst).Nodup) (hp:(zl.map Prod.fst).Perm (F.take k)) (hk:k<F.length) (hf:f=F[k]) (hab:A++y::R=zl):(y.1.1.toList==f.1.toList)=false:=by
  rw [beq_eq_false_iff_ne]
  intro e
  have e1:y.1.1=f.1:=Y8 e
  have hy:y.1∈F.take k:=hp.mem_iff.1 (List.mem_map_of_mem (by rw [← hab]; simp))
  obtain ⟨j,hj,e2⟩:=List.getElem_of_mem hy
  rw [List.length_take] at hj
  rw [List.getElem_take] at e2
  have e3:(F.map Prod.fst)[j]'(by rw [List.length_map]; omega)=(F.map Prod.fst)[k]'(by rw [List.length_map]; exact hk):=by
    rw [List.getElem_map,List.getElem_map,e2,e1,hf]
  exact (List.pairwise_iff_getElem.1 hn) j k (by rw [List.length_map]; omega) (by rw [List.length_map]; exact hk) (by omega) e3
theorem ins_perm {F:List FB} {zl A B:List SE} {k:Nat} {f:FB} {w:Option Addr × Nat} (hab:A++B=zl) (hp:(zl.map Prod.fst).Perm (F.take k)) (hk:k<F.length) (hf:f=F[k]):((A++(f,w)::B).map Prod.fst).Perm (F.take (k+1)):=by
  rw [List.take_succ_eq_append_getElem hk,← hf]
  have h1:(A++(f,w)::B).Perm ((f,w)::(A++B)):=List.perm_middle
  have h2:=h1.map Prod.fst
  rw [List.map_cons,hab] at h2
  exact h2.trans ((List.Perm.cons f hp).trans (List.perm_append_singleton f _).symm)
theorem asc_told {F s0:List FB} {zl:List SE} (h:F8 F=some s0) (hp:(zl.map Prod.fst).Perm F) (ha:AscZ zl):zl.map Prod.fst=s0:=by
  have ho:=K3 h
  refine srt_eq ?_ (ho.asc.imp fun {a b} h1 h2=>List.lt_asymm h1 h2) (hp.trans ho.perm.symm) (A0c ho.asc)
  unfold SrtF
  rw [List.pairwise_map]
  exact ha.imp fun {a b} h1 h2=>List.lt_asymm ((ltZ_iff _ _).1 h1) h2
theorem nodup_of {F s0:List FB} (h:F8 F=some s0):(F.map Prod.fst).Nodup:=by
  have ho:=K3 h
  exact (ho.perm.map Prod.fst).nodup_iff.1 (A0c ho.asc)
theorem name_of {F s0:List FB} (h:F8 F=some s0):∀ f∈F,R2 f.1=true:=fun f hf=>(K3 h).names f ((K3 h).perm.mem_iff.2 hf)
theorem z_insall {S:Nat→Obj→Prop} {zl A B:List SE} {z:SE} (hab:A++B=zl) (h:∀ y∈zl,ZOk S y) (hz:ZOk S z):∀ y∈A++z::B,ZOk S y:=fun y hy=>by
  rcases List.mem_append.1 hy with hy | hy
  · exact h y (by rw [← hab]; exact List.mem_append_left _ hy)
  · rcases List.mem_cons.1 hy with rfl | hy
    · exact hz
    · exact h y (by rw [← hab]; exact List.mem_append_right _ hy)
def z0:SE:=((ByteArray.mk #[],ByteArray.mk #[]),(none,0))
theorem cells_z0 {zl A B:List SE} (hab:A++B=zl):C1 zl++[.string eB,.slice none 0 0]=C1 (A++(B++z0::[])):=by
  subst hab
  rw [← List.append_assoc,O5 (A++B)]; rfl
theorem z_setQ {A B1 B2:List SE} {x y:SE} {q:Nat} (hq:q=(A.length+B1.length) * 2):(C1 (A++(B1++x::B2))).take q++[.string y.1.1,.slice y.2.1 y.1.2.size y.2.2]++(C1 (A++(B1++x::B2))).drop (q+[Value.string y.1.1,.slice y.2.1 y.1.2.size y.2.2].length)=C1 (A++(B1++y::B2)):=by
  rw [← List.append_assoc,← List.append_assoc]
  exact cellsZ_set (by rw [List.length_append]; exact hq)
theorem z_atP {A B0 B2 B1:List SE} {x y:SE} {q:Nat} (hB1:B1=B0++[y]) (hq:q=(A.length+B0.length) * 2):∀ m (hm:m<[Value.string y.1.1,.slice y.2.1 y.1.2.size y.2.2].length),(C1 (A++(B1++x::B2)))[q+m]? = some [Value.string y.1.1,.slice y.2.1 y.1.2.size y.2.2][m]:=by
  subst hB1
  rw [show A++((B0++[y])++x::B2)=(A++B0)++y::(x::B2) by simp]
  exact z_at (by rw [List.length_append]; exact hq)
theorem nameD_ (s:ByteArray) (hs:s.size≤9223372036854775807) (W0:World) (H:List Grp):Tri Tryz.prog 33 #[.string s] W0 H (fun v H'=>v=.bool (G2 s&&!(s.toList==maniB.toList))∧H'=H):=by
 refine D6 9 Tryz.func33 ?_
 refine A2 (B9 (E':=[⟨0,[],.string s⟩]) [0] [0] (k:=A1 (A2 (A3 (A5 (j:=1) [0] (k:=G1 Tryz.func66 (refPart s hs _ _) (B5 [0,0,0,6,0] [2] (k:=A1 ?_))))))))
 refine C8 (C5 [.tmp 2] [.bool ((G2 s)&&(!(s.toList==(mB #[109,97,110,105,102,101,115,116]).toList)))] (k:=?_))
 exact ⟨rfl,rfl⟩
theorem sortedD_ (fa:Option Addr) (fc:Nat) (F:List FB) (cs:List Value) (S:Nat→Obj→Prop) (hrd:Rd S fa cs) (hF:FRd S F cs) (hn20:F.length≤20) {s0:List FB} (hsm:F8 F=some s0) (W0:World) (H:List Grp) (hS:∀ y o,S y o→At W0 H y o):Tri Tryz.prog 16 #[.slice fa F.length fc] W0 H (fun v H'=>∃ (zl:List SE) (g:Grp) (a:Option Addr) (c:Nat),v=.tuple #[.slice a F.length c,.bool true]∧zl.map Prod.fst=s0∧(∀ z∈zl,ZOk S z)∧Go.Sw.Own 34 2 (.slice a F.length c) g F.length (C1 zl)∧H'=g::H):=by
  have hnd:=nodup_of hsm
  have hnm:=name_of hsm
  refine D6 80 Tryz.func16 ?_
  refine A2 (B9 (E':=[⟨0,[],.slice fa F.length fc⟩]) [0,0] [0] (k:=A1 (A2 (G_p [0] [0,4] (k:=A1 (A2 (A2 (G_p [0,0,0] [0,4,9,10,11] (k:=?_)))))))))
  refine A1 (B8 (G_heap (H':=([]::H)) (fun w h=>h.flat (List.Perm.refl _)) (I6 (EI:=(fun ξ:Nat × Option Addr × Nat × Grp × List SE=>[⟨0,[],.slice fa F.length fc⟩,⟨4,[],.slice ξ.2.1 ξ.1 ξ.2.2.1⟩,⟨9,[],.slice fa F.length fc⟩,⟨10,[],.int .i64 ((F.length:Nat):Int)⟩,⟨11,[],.int .i64 ((ξ.1:Nat):Int)⟩])) (HI:=(fun ξ:Nat × Option Addr × Nat × Grp × List SE=>(ξ.2.2.2.1::H))) (Φ:=(fun ξ:Nat × Option Addr × Nat × Grp × List SE=>(ξ.1≤F.length)∧(Go.Sw.Own 34 2 (.slice ξ.2.1 ξ.1 ξ.2.2.1) ξ.2.2.2.1 ξ.1 (C1 ξ.2.2.2.2))∧((ξ.2.2.2.2.map Prod.fst).Perm (F.take ξ.1))∧(AscZ ξ.2.2.2.2)∧(∀ z∈ξ.2.2.2.2,ZOk S z))) (μ:=(fun ξ:Nat × Option Addr × Nat × Grp × List SE=>F.length - ξ.1)) (s0:=(0,none,0,[],[])) [0,4,9,10,11] kr rfl ⟨(by omega),Go.Sw.Own.nil,(List.Perm.refl _),List.Pairwise.nil,(fun z h=>absurd h List.not_mem_nil)⟩ ?_)))
  rintro ⟨k,a,c,g,zl⟩ ⟨hk,hO,hpm,hasc,hZ⟩
  dsimp only at hk hO hpm hasc hZ
  refine A2 (G_p [0] [0,4,9,10,11,12] (k:=A1 (A2 (D2 (b:=decide (((k:Nat):Int)<((F.length:Nat):Int))) kr (fun hc1=>?_) (fun hc1=>?_)))))
  ·
    have hlt:k<F.length:=by simp only [decide_eq_true_eq] at hc1; omega
    obtain ⟨ba,bc,hge,hgr,hgc⟩:=hF.get hlt
    obtain ⟨f,hfk⟩:∃ f,f=F[k]:=⟨_,rfl⟩
    rw [← hfk] at hge hgr hgc
    have hfm:f∈F:=by rw [hfk]; exact List.getElem_mem hlt
    have hfs:=X4 (hnm f hfm)
    have hzk:zl.length=k:=by have h1:=hpm.length_eq; rw [List.length_map,List.length_take] at h1; omega
    refine B6 (A1 (A2 (B8 (A2 (A3 (L2 F.length ((k:Nat):Int) 2 hrd (by exact ⟨by omega,by omega,P8 hF hlt⟩) (L0 (ch:=[]) (a:=fa) (q:=k * 2) (S:=S) (cs:=cs) (l:=[.string f.1,.slice ba f.2.size bc]) (hrd:=hrd) (hS:=(fun y o h=>At.cons (hS y o h))) (hl:=List.cons_ne_nil _ _) (hv:=(fun _=>(elt2 hge))) (k:=O0 (.agg #[.string eB,.slice none 0 0]) (fun b2=>?_)))))))))
    refine M8 0 0 (.agg #[.string f.1,.slice ba f.2.size bc]) rfl (B5 [] [0,4,6,9,10,11] (k:=A1 (A2 (A2 (A3 (A5 (j:=1) [0] (k:=D0 0 0 rfl rfl (G1 Tryz.func33 (nameD_ f.1 (by omega) _ _) ?_))))))))
    refine B5 [0,0,0,0,0,5] [0,4,6,9,10,11,23] (k:=A1 (D2 (b:=(!(G2 f.1&&!(f.1.toList==maniB.toList)))||(decide (((F.length:Nat):Int) > 400))) kr (fun hc3=>?_) (fun hc3=>?_)))
    ·
      exact absurd hc3 (by have h8:=nameD_eq (hnm f hfm); rw [h8]; simp; try omega)
    ·
      skip
      refine B6 (A1 (A2 (G_p [0] [0,4,6,7,9,10,11] (k:=A1 (A2 (B8 (I6 (EI:=(fun ξ:List SE × List SE=>[⟨0,[],.slice fa F.length fc⟩,⟨4,[],.slice a k c⟩,⟨6,[],pt b2⟩,⟨7,[],.int .i64 ((ξ.1.length:Nat):Int)⟩,⟨9,[],.slice fa F.length fc⟩,⟨10,[],.int .i64 ((F.length:Nat):Int)⟩,⟨11,[],.int .i64 ((k:Nat):Int)⟩])) (HI:=(fun ξ:List SE × List SE=>([(b2,.cells #[.string f.1,.slice ba f.2.size bc] 34 (0,0))]::g::H))) (Φ:=(fun ξ:List SE × List SE=>(ξ.1++ξ.2=zl)∧(∀ z∈ξ.1,ltZ z (f,ba,bc)=true))) (μ:=(fun ξ:List SE × List SE=>ξ.2.length)) (s0:=([],zl)) [0,4,6,7,9,10,11] kr kr ⟨(List.nil_append zl),(fun z h=>absurd h List.not_mem_nil)⟩ ?_)))))))
      rintro ⟨A,B⟩ ⟨hab,hlo⟩
      dsimp only at hab hlo
      refine A2 (A2 ?_)
      have hal0:A.length+B.length=zl.length:=by rw [← hab,List.length_append]
      rcases nil_cons B with hB | ⟨y,R,hB⟩
      ·
        have hup:∀ b∈B,ltZ (f,ba,bc) b=true:=fun b h=>by rw [hB] at h; exact absurd h List.not_mem_nil
        refine K0 (k:=A5 (j:=4) [0,0,0,0] (k:=Y1 27 (x:=.bool (decide (((A.length:Nat):Int)<((k:Nat):Int)))) (y:=.bool false) (by rw [show decide (((A.length:Nat):Int)<((k:Nat):Int))=false from decide_eq_false (by rw [hB] at hal0; simp at hal0; omega)]) (B5 [0,1,1,1,1,1,1,1,1,3] [0,4,6,7,9,10,11,37] (k:=A1 (D9 kr (H0 (A6 (A6 ?_))))))))
        refine C3 (A1 (A2 (A2 ?_)))
        have hal9:A.length+B.length=zl.length:=by rw [← hab,List.length_append]
        ·
          skip
          refine K0 (k:=A5 (j:=4) [0,0,0,0] (k:=Y1 43 (x:=.bool (decide (((A.length:Nat):Int)<((k:Nat):Int)))) (y:=.bool false) (by rw [show decide (((A.length:Nat):Int)<((k:Nat):Int))=false from decide_eq_false (by have:=hal9; rw [hB] at this; simp at this; omega)]) (B5 [0,1,1,1,1,1,1,1,1,3] [0,4,6,7,9,10,11,53] (k:=A1 (D9 kr (B6 (A1 (A2 ?_))))))))
          refine A3 (A5 (j:=2) [0,0] (k:=N2 34 1 [.string eB,.slice none 0 0] (fun b4=>M0 (i:=3) (ch:=[]) (t:=35) (tx:=35) (e:=34) (inf:=Tryz.t34) (s:=.slice a k c) (x:=.slice (some ⟨b4,0,none⟩) 1 1) (n:=k) (m:=1) (j:=2) (cs:=(C1 zl)) (news:=[.string eB,.slice none 0 0]) (g:=g) (S:=(inG [(b4,.cells #[.string eB,.slice none 0 0] 34 (0,0))])) rfl rfl rfl rfl kr kr kr rfl rfl (.inl ⟨34,kr⟩) (fun ⟨_,h⟩=>by cases h) (fun _=>⟨34,kr⟩) kr kr kr rfl hO (SrcOf.slice _ _ _ _ Rd.lit (fun h=>by cases h)) (H6 0 rfl) rfl (by intro u hu; simp only [List.mem_cons,List.not_mem_nil,or_false] at hu; rcases hu with rfl | rfl <;> rfl) (by omega) (by show (k+1) * 40≤140737488355328; omega) (fun v5 g6 hO7=>?_))))
          obtain ⟨a8,cap9,rfl,hcap10,hrd11⟩:=hO7.shape
          refine B5 [0] [0,4,6,7,9,10,11] (k:=A1 (A2 (A2 ?_)))
          have hw12:IntKind.wrap .i64 ((((k+1):Nat):Int) - 1)=(((k+1):Nat):Int) - 1:=w64 (by omega) (by omega)
          refine A3 (A5 (j:=3) [0,0,0] (k:=Y1 60 (x:=.int .i64 (IntKind.wrap .i64 ((((k+1):Nat):Int) - 1))) (y:=.int .i64 ((((k+1):Nat):Int) - 1)) (by simp only [hw12]) (Y1 60 (x:=.int .i64 ((((k+1):Nat):Int) - 1)) (y:=.int .i64 ((k:Nat):Int)) (by rw [show ((k+1:Nat):Int) - 1=((k:Nat):Int) by omega]) (B5 [0] [0,4,6,7,8,9,10,11] (k:=A1 (B8 ?_))))))
          have hal:A.length+B.length=k:=by have h1:=congrArg List.length hab; rw [List.length_append] at h1; omega
          refine G_env (E':=[⟨0,[],.slice fa F.length fc⟩,⟨4,[],.slice a8 (k+1) cap9⟩,⟨6,[],pt b2⟩,⟨7,[],.int .i64 ((A.length:Nat):Int)⟩,⟨8,[],.int .i64 ((k:Nat):Int)⟩,⟨9,[],.slice fa F.length fc⟩,⟨10,[],.int .i64 ((F.length:Nat):Int)⟩,⟨11,[],.int .i64 ((k:Nat):Int)⟩]) kr (I6 (EI:=(fun ξ:List SE × SE × List SE × Grp=>[⟨0,[],.slice fa F.length fc⟩,⟨4,[],.slice a8 (k+1) cap9⟩,⟨6,[],pt b2⟩,⟨7,[],.int .i64 ((A.length:Nat):Int)⟩,⟨8,[],.int .i64 ((A.length+ξ.1.length:Nat):Int)⟩,⟨9,[],.slice fa F.length fc⟩,⟨10,[],.int .i64 ((F.length:Nat):Int)⟩,⟨11,[],.int .i64 ((k:Nat):Int)⟩])) (HI:=(fun ξ:List SE × SE × List SE × Grp=>([(b4,.cells #[.string eB,.slice none 0 0] 34 (0,0))]::[(b2,.cells #[.string f.1,.slice ba f.2.size bc] 34 (0,0))]::ξ.2.2.2::H))) (Φ:=(fun ξ:List SE × SE × List SE × Grp=>(ξ.1++ξ.2.2.1=B)∧(Go.Sw.Own 34 2 (.slice a8 (k+1) cap9) ξ.2.2.2 (k+1) (C1 (A++(ξ.1++ξ.2.1::ξ.2.2.1)))))) (μ:=(fun ξ:List SE × SE × List SE × Grp=>ξ.1.length)) (s0:=(B,z0,[],g6)) [0,4,6,7,8,9,10,11] (by rw [show ((A.length+B.length:Nat):Int)=((k:Nat):Int) by omega]; kernel_rfl) kr ⟨(List.append_nil B),(X3 hO7 (cells_z0 hab))⟩ ?_)
          rintro ⟨B1,x,B2,gz⟩ ⟨hB12,hOz⟩
          dsimp only at hB12 hOz
          refine A2 (A2 (G_p [0,0,0] [0,4,6,7,8,9,10,11,63] (k:=A1 (D2 (b:=decide (((A.length+B1.length:Nat):Int) > ((A.length:Nat):Int))) kr (fun hc13=>?_) (fun hc13=>?_)))))
          ·
            obtain ⟨B0,y,hB1⟩:∃ B0 y,B1=B0++[y]:=by
              rcases nil_snoc B1 with h9 | h9
              · have:=of_decide_eq_true hc13; rw [h9] at this; simp at this
              · exact h9
            have hb1:B1.length=B0.length+1:=by rw [hB1]; simp
            have hbl:B1.length+B2.length=B.length:=by rw [← hB12]; simp
            refine B6 (A1 (A2 (B8 ?_)))
            have hw14:IntKind.wrap .i64 (((A.length+B1.length:Nat):Int) - 1)=((A.length+B1.length:Nat):Int) - 1:=w64 (by omega) (by omega)
            refine A3 (A5 (j:=5) [0,0,0,0,0] (k:=Y1 70 (x:=.int .i64 (IntKind.wrap .i64 (((A.length+B1.length:Nat):Int) - 1))) (y:=.int .i64 (((A.length+B1.length:Nat):Int) - 1)) (by simp only [hw14]) (Y1 70 (x:=.int .i64 (((A.length+B1.length:Nat):Int) - 1)) (y:=.int .i64 ((A.length+B0.length:Nat):Int)) (by rw [show ((A.length+B1.length:Nat):Int) - 1=((A.length+B0.length:Nat):Int) by omega]) (L2 (a:=a8) (S:=(inG gz)) (cs:=(C1 (A++(B1++x::B2)))) (k+1) ((A.length+B0.length:Nat):Int) 2 (I4 hOz) (by exact ⟨by omega,by omega,(fun e=>by have:=congrArg List.length e; rw [H4] at this; simp at this)⟩) (L0 (ch:=[]) (a:=a8) (q:=(Int.toNat ((A.length+B0.length:Nat):Int)) * 2) (S:=(inG gz)) (cs:=(C1 (A++(B1++x::B2)))) (l:=[.string y.1.1,.slice y.2.1 y.1.2.size y.2.2]) (hrd:=I4 hOz) (hS:=H6 2 rfl) (hl:=List.cons_ne_nil _ _) (hv:=(fun _=>(z_atP hB1 (by omega)))) (k:=L2 (a:=a8) (S:=(inG gz)) (cs:=(C1 (A++(B1++x::B2)))) (k+1) ((A.length+B1.length:Nat):Int) 2 (I4 hOz) (by exact ⟨by omega,by omega,(fun e=>by have:=congrArg List.length e; rw [H4] at this; simp at this)⟩) (R0 (ch:=[]) (a:=a8) (q:=(Int.toNat ((A.length+B1.length:Nat):Int)) * 2) (len:=(k+1)) (cap:=cap9) (v:=.agg #[.string y.1.1,.slice y.2.1 y.1.2.size y.2.2]) (g:=gz) (j:=2) (cs:=(C1 (A++(B1++x::B2)))) (cs':=(C1 (A++(B1++y::B2)))) (l:=[.string y.1.1,.slice y.2.1 y.1.2.size y.2.2]) (hO:=hOz) (hq:=(by rw [H4,List.length_append,List.length_append,List.length_cons]; simp; omega)) (h0:=List.cons_ne_nil _ _) (hcs:=z_setQ (y:=y) (by omega)) (k:=(fun g15 hO16=>?_)))))))))
            refine B5 [] [0,4,6,7,8,9,10,11] (k:=D3 (A1 (A3 (A5 (j:=2) [0,0] (k:=F0 65 (((A.length+B1.length:Nat):Int) - 1) (by omega) (by omega) kr (B5 [0] [0,4,6,7,8,9,10,11] (k:=N_env (E':=[⟨0,[],.slice fa F.length fc⟩,⟨4,[],.slice a8 (k+1) cap9⟩,⟨6,[],pt b2⟩,⟨7,[],.int .i64 ((A.length:Nat):Int)⟩,⟨8,[],.int .i64 (((A.length+B1.length:Nat):Int) - 1)⟩,⟨9,[],.slice fa F.length fc⟩,⟨10,[],.int .i64 ((F.length:Nat):Int)⟩,⟨11,[],.int .i64 ((k:Nat):Int)⟩]) kr (F6 (s':=(B0,y,(y::B2),g15)) [0,4,6,7,8,9,10,11] (by rw [show ((A.length+B0.length:Nat):Int)=((A.length+B1.length:Nat):Int) - 1 by rw [hB1]; simp; omega]; kernel_rfl) rfl ⟨(by rw [← hB12,hB1]; simp),(X3 hO16 (by rw [hB1]; simp))⟩ (by dsimp only; rw [hB1]; simp)))))))))
          ·
            have hB1:B1=[]:=by
              have:=of_decide_eq_false hc13
              exact List.eq_nil_of_length_eq_zero (by omega)
            have hb1:B1.length=0:=by rw [hB1]; rfl
            have hbl:B1.length+B2.length=B.length:=by rw [← hB12]; simp
            refine H0 (A6 (A6 (C3 (A1 (A3 (A5 (j:=2) [0,0] (k:=GL_laq 1 0 2 rfl (L2 (a:=a8) (S:=(inG gz)) (cs:=(C1 (A++(B1++x::B2)))) (k+1) ((A.length:Nat):Int) 2 (I4 hOz) (by exact ⟨by omega,by omega,(fun e=>by have:=congrArg List.length e; rw [H4] at this; simp at this)⟩) ?_))))))))
            refine R0 (ch:=[]) (a:=a8) (q:=(Int.toNat ((A.length:Nat):Int)) * 2) (len:=(k+1)) (cap:=cap9) (v:=.agg #[.string f.1,.slice ba f.2.size bc]) (g:=gz) (j:=2) (cs:=(C1 (A++(B1++x::B2)))) (cs':=(C1 (A++(B1++(f,ba,bc)::B2)))) (l:=[.string f.1,.slice ba f.2.size bc]) (hO:=hOz) (hq:=(by rw [H4,List.length_append,List.length_append,List.length_cons]; simp; omega)) (h0:=List.cons_ne_nil _ _) (hcs:=z_setQ (y:=(f,ba,bc)) (by omega)) (k:=(fun g18 hO19=>?_))
            refine B5 [] [0,4,9,10,11] (k:=D3 (A1 (A3 (A5 (j:=1) [0] (k:=F0 78 (((k:Nat):Int)+1) (by omega) (by omega) kr (B5 [0] [0,4,9,10,11] (k:=N_pk 2 [2] (F6 (s':=(k+1,a8,cap9,g18,(A++(f,ba,bc)::B))) [0,4,9,10,11] kr kr ⟨(by omega),(X3 hO19 (by rw [hB1,List.nil_append,← hB12,hB1]; rfl)),(ins_perm hab hpm hlt hfk),(asc_ins (by rw [hab]; exact hasc) hlo hup),(z_insall hab hZ ⟨hgr,hgc⟩)⟩ (by omega)))))))))
      ·
        refine K0 (k:=A5 (j:=4) [0,0,0,0] (k:=Y1 27 (x:=.bool (decide (((A.length:Nat):Int)<((k:Nat):Int)))) (y:=.bool true) (by rw [show decide (((A.length:Nat):Int)<((k:Nat):Int))=true from decide_eq_true (by rw [hB] at hal0; simp at hal0; omega)]) (A5 (j:=7) [0,0,0] (k:=I7 (ch:=[(28,true)]) (a:=a) (len:=k) (cap:=c) (kd:=.i64) (j:=((A.length:Nat):Int)) (e:=34) (sz:=2) (S:=(inG g)) (cs:=(C1 zl)) (hrd:=I4 hO) (hb:=(fun hc=>by exact ⟨by omega,by rw [hB] at hal0; simp at hal0; omega,cells_nn (by rw [hB] at hal0; simp at hal0; omega)⟩)) (k:=A5 (j:=9) [0] (k:=R7 (ch:=[(28,true)]) (a:=a) (q:=(Int.toNat ((A.length:Nat):Int)) * 2) (S:=(inG g)) (cs:=(C1 zl)) (v:=.string y.1.1) (hrd:=I4 hO) (hS:=H6 1 rfl) (hv:=(fun hc=>(z_atQ hab hB (by simp)))) (k:=A5 (j:=11) [0] (k:=F9 (ch:=[(28,true)]) (b:=b2) (off:=0) (v:=.string f.1) (hA:=At.grp 0 0 rfl rfl) (k:=?_)))))))))
        refine B5 [0,2] [0,4,6,7,9,10,11,37] (k:=A1 (D2 (b:=Op.bytesLess y.1.1.toList f.1.toList) kr (fun hc21=>?_) (fun hc21=>?_)))
        ·
          have hxy:ltZ y (f,ba,bc)=true:=hc21
          refine B6 (A1 (B8 (A3 (A5 (j:=2) [0,0] (k:=F0 39 (((A.length:Nat):Int)+1) (by omega) (by omega) kr (B5 [0] [0,4,6,7,9,10,11] (k:=D3 (N_env (E':=[⟨0,[],.slice fa F.length fc⟩,⟨4,[],.slice a k c⟩,⟨6,[],pt b2⟩,⟨7,[],.int .i64 (((A.length:Nat):Int)+1)⟩,⟨9,[],.slice fa F.length fc⟩,⟨10,[],.int .i64 ((F.length:Nat):Int)⟩,⟨11,[],.int .i64 ((k:Nat):Int)⟩]) kr ?_))))))))
          refine F6 (s':=((A++[y]),R)) [0,4,6,7,9,10,11] (by rw [show (((A++[y]).length:Nat):Int)=((A.length:Nat):Int)+1 by simp]; kernel_rfl) rfl ⟨(by rw [← hab,hB]; simp),(fun z hz=>(List.mem_append.1 hz).elim (hlo z) fun h=>by rw [List.mem_singleton.1 h]; exact hxy)⟩ (by dsimp only; rw [hB]; simp)
        ·
          have hxy:Op.bytesLess y.1.1.toList f.1.toList=false:=hc21
          have hne:=dis_ne hnd hpm hlt hfk (by rw [← hab,hB])
          have hup:∀ b∈B,ltZ (f,ba,bc) b=true:=by rw [hB]; exact up_all (A:=A) (by rw [← hB,hab]; exact hasc) (gt_of hxy hne)
          refine H0 (A6 (A6 (C3 (A1 (A2 (A2 ?_))))))
          have hal9:A.length+B.length=zl.length:=by rw [← hab,List.length_append]
          ·
            skip
            refine K0 (k:=A5 (j:=4) [0,0,0,0] (k:=Y1 43 (x:=.bool (decide (((A.length:Nat):Int)<((k:Nat):Int)))) (y:=.bool true) (by rw [show decide (((A.length:Nat):Int)<((k:Nat):Int))=true from decide_eq_true (by have:=hal9; rw [hB] at this; simp at this; omega)]) (A5 (j:=7) [0,0,0] (k:=I7 (ch:=[(44,true)]) (a:=a) (len:=k) (cap:=c) (kd:=.i64) (j:=((A.length:Nat):Int)) (e:=34) (sz:=2) (S:=(inG g)) (cs:=(C1 zl)) (hrd:=I4 hO) (hb:=(fun hc=>by exact ⟨by omega,by have:=hal9; rw [hB] at this; simp at this; omega,cells_nn (by have:=hal9; rw [hB] at this; simp at this; omega)⟩)) (k:=A5 (j:=9) [0] (k:=R7 (ch:=[(44,true)]) (a:=a) (q:=(Int.toNat ((A.length:Nat):Int)) * 2) (S:=(inG g)) (cs:=(C1 zl)) (v:=.string y.1.1) (hrd:=I4 hO) (hS:=H6 1 rfl) (hv:=(fun hc=>(z_atQ hab hB (by simp)))) (k:=A5 (j:=11) [0] (k:=F9 (ch:=[(44,true)]) (b:=b2) (off:=0) (v:=.string f.1) (hA:=At.grp 0 0 rfl rfl) (k:=?_)))))))))
            refine A5 (j:=13) [0] (k:=L1 52 [(44,true)] (x:=.bool (y.1.1.toList==f.1.toList)) (y:=.bool false) (by rw [hne]) (B5 [2] [0,4,6,7,9,10,11,53] (k:=A1 (D9 kr (B6 (A1 (A2 (A3 ?_))))))))
            refine A5 (j:=2) [0,0] (k:=N2 34 1 [.string eB,.slice none 0 0] (fun b23=>M0 (i:=3) (ch:=[]) (t:=35) (tx:=35) (e:=34) (inf:=Tryz.t34) (s:=.slice a k c) (x:=.slice (some ⟨b23,0,none⟩) 1 1) (n:=k) (m:=1) (j:=2) (cs:=(C1 zl)) (news:=[.string eB,.slice none 0 0]) (g:=g) (S:=(inG [(b23,.cells #[.string eB,.slice none 0 0] 34 (0,0))])) rfl rfl rfl rfl kr kr kr rfl rfl (.inl ⟨34,kr⟩) (fun ⟨_,h⟩=>by cases h) (fun _=>⟨34,kr⟩) kr kr kr rfl hO (SrcOf.slice _ _ _ _ Rd.lit (fun h=>by cases h)) (H6 0 rfl) rfl (by intro u hu; simp only [List.mem_cons,List.not_mem_nil,or_false] at hu; rcases hu with rfl | rfl <;> rfl) (by omega) (by show (k+1) * 40≤140737488355328; omega) (fun v24 g25 hO26=>?_)))
            obtain ⟨a27,cap28,rfl,hcap29,hrd30⟩:=hO26.shape
            refine B5 [0] [0,4,6,7,9,10,11] (k:=A1 (A2 (A2 ?_)))
            have hw31:IntKind.wrap .i64 ((((k+1):Nat):Int) - 1)=(((k+1):Nat):Int) - 1:=w64 (by omega) (by omega)
            refine A3 (A5 (j:=3) [0,0,0] (k:=Y1 60 (x:=.int .i64 (IntKind.wrap .i64 ((((k+1):Nat):Int) - 1))) (y:=.int .i64 ((((k+1):Nat):Int) - 1)) (by simp only [hw31]) (Y1 60 (x:=.int .i64 ((((k+1):Nat):Int) - 1)) (y:=.int .i64 ((k:Nat):Int)) (by rw [show ((k+1:Nat):Int) - 1=((k:Nat):Int) by omega]) (B5 [0] [0,4,6,7,8,9,10,11] (k:=A1 (B8 ?_))))))
            have hal:A.length+B.length=k:=by have h1:=congrArg List.length hab; rw [List.length_append] at h1; omega
            refine G_env (E':=[⟨0,[],.slice fa F.length fc⟩,⟨4,[],.slice a27 (k+1) cap28⟩,⟨6,[],pt b2⟩,⟨7,[],.int .i64 ((A.length:Nat):Int)⟩,⟨8,[],.int .i64 ((k:Nat):Int)⟩,⟨9,[],.slice fa F.length fc⟩,⟨10,[],.int .i64 ((F.length:Nat):Int)⟩,⟨11,[],.int .i64 ((k:Nat):Int)⟩]) kr (I6 (EI:=(fun ξ:List SE × SE × List SE × Grp=>[⟨0,[],.slice fa F.length fc⟩,⟨4,[],.slice a27 (k+1) cap28⟩,⟨6,[],pt b2⟩,⟨7,[],.int .i64 ((A.length:Nat):Int)⟩,⟨8,[],.int .i64 ((A.length+ξ.1.length:Nat):Int)⟩,⟨9,[],.slice fa F.length fc⟩,⟨10,[],.int .i64 ((F.length:Nat):Int)⟩,⟨11,[],.int .i64 ((k:Nat):Int)⟩])) (HI:=(fun ξ:List SE × SE × List SE × Grp=>([(b23,.cells #[.string eB,.slice none 0 0] 34 (0,0))]::[(b2,.cells #[.string f.1,.slice ba f.2.size bc] 34 (0,0))]::ξ.2.2.2::H))) (Φ:=(fun ξ:List SE × SE × List SE × Grp=>(ξ.1++ξ.2.2.1=B)∧(Go.Sw.Own 34 2 (.slice a27 (k+1) cap28) ξ.2.2.2 (k+1) (C1 (A++(ξ.1++ξ.2.1::ξ.2.2.1)))))) (μ:=(fun ξ:List SE × SE × List SE × Grp=>ξ.1.length)) (s0:=(B,z0,[],g25)) [0,4,6,7,8,9,10,11] (by rw [show ((A.length+B.length:Nat):Int)=((k:Nat):Int) by omega]; kernel_rfl) kr ⟨(List.append_nil B),(X3 hO26 (cells_z0 hab))⟩ ?_)
            rintro ⟨B1,x,B2,gz⟩ ⟨hB12,hOz⟩
            dsimp only at hB12 hOz
            refine A2 (A2 (G_p [0,0,0] [0,4,6,7,8,9,10,11,63] (k:=A1 (D2 (b:=decide (((A.length+B1.length:Nat):Int) > ((A.length:Nat):Int))) kr (fun hc32=>?_) (fun hc32=>?_)))))
            ·
              obtain ⟨B0,y,hB1⟩:∃ B0 y,B1=B0++[y]:=by
                rcases nil_snoc B1 with h9 | h9
                · have:=of_decide_eq_true hc32; rw [h9] at this; simp at this
                · exact h9
              have hb1:B1.length=B0.length+1:=by rw [hB1]; simp
              have hbl:B1.length+B2.length=B.length:=by rw [← hB12]; simp
              refine B6 (A1 (A2 (B8 ?_)))
              have hw33:IntKind.wrap .i64 (((A.length+B1.length:Nat):Int) - 1)=((A.length+B1.length:Nat):Int) - 1:=w64 (by omega) (by omega)
              refine A3 (A5 (j:=5) [0,0,0,0,0] (k:=Y1 70 (x:=.int .i64 (IntKind.wrap .i64 (((A.length+B1.length:Nat):Int) - 1))) (y:=.int .i64 (((A.length+B1.length:Nat):Int) - 1)) (by simp only [hw33]) (Y1 70 (x:=.int .i64 (((A.length+B1.length:Nat):Int) - 1)) (y:=.int .i64 ((A.length+B0.length:Nat):Int)) (by rw [show ((A.length+B1.length:Nat):Int) - 1=((A.length+B0.length:Nat):Int) by omega]) (L2 (a:=a27) (S:=(inG gz)) (cs:=(C1 (A++(B1++x::B2)))) (k+1) ((A.length+B0.length:Nat):Int) 2 (I4 hOz) (by exact ⟨by omega,by omega,(fun e=>by have:=congrArg List.length e; rw [H4] at this; simp at this)⟩) (L0 (ch:=[]) (a:=a27) (q:=(Int.toNat ((A.length+B0.length:Nat):Int)) * 2) (S:=(inG gz)) (cs:=(C1 (A++(B1++x::B2)))) (l:=[.string y.1.1,.slice y.2.1 y.1.2.size y.2.2]) (hrd:=I4 hOz) (hS:=H6 2 rfl) (hl:=List.cons_ne_nil _ _) (hv:=(fun _=>(z_atP hB1 (by omega)))) (k:=L2 (a:=a27) (S:=(inG gz)) (cs:=(C1 (A++(B1++x::B2)))) (k+1) ((A.length+B1.length:Nat):Int) 2 (I4 hOz) (by exact ⟨by omega,by omega,(fun e=>by have:=congrArg List.length e; rw [H4] at this; simp at this)⟩) (R0 (ch:=[]) (a:=a27) (q:=(Int.toNat ((A.length+B1.length:Nat):Int)) * 2) (len:=(k+1)) (cap:=cap28) (v:=.agg #[.string y.1.1,.slice y.2.1 y.1.2.size y.2.2]) (g:=gz) (j:=2) (cs:=(C1 (A++(B1++x::B2)))) (cs':=(C1 (A++(B1++y::B2)))) (l:=[.string y.1.1,.slice y.2.1 y.1.2.size y.2.2]) (hO:=hOz) (hq:=(by rw [H4,List.length_append,List.length_append,List.length_cons]; simp; omega)) (h0:=List.cons_ne_nil _ _) (hcs:=z_setQ (y:=y) (by omega)) (k:=(fun g34 hO35=>?_)))))))))
              refine B5 [] [0,4,6,7,8,9,10,11] (k:=D3 (A1 (A3 (A5 (j:=2) [0,0] (k:=F0 65 (((A.length+B1.length:Nat):Int) - 1) (by omega) (by omega) kr (B5 [0] [0,4,6,7,8,9,10,11] (k:=N_env (E':=[⟨0,[],.slice fa F.length fc⟩,⟨4,[],.slice a27 (k+1) cap28⟩,⟨6,[],pt b2⟩,⟨7,[],.int .i64 ((A.length:Nat):Int)⟩,⟨8,[],.int .i64 (((A.length+B1.length:Nat):Int) - 1)⟩,⟨9,[],.slice fa F.length fc⟩,⟨10,[],.int .i64 ((F.length:Nat):Int)⟩,⟨11,[],.int .i64 ((k:Nat):Int)⟩]) kr (F6 (s':=(B0,y,(y::B2),g34)) [0,4,6,7,8,9,10,11] (by rw [show ((A.length+B0.length:Nat):Int)=((A.length+B1.length:Nat):Int) - 1 by rw [hB1]; simp; omega]; kernel_rfl) rfl ⟨(by rw [← hB12,hB1]; simp),(X3 hO35 (by rw [hB1]; simp))⟩ (by dsimp only; rw [hB1]; simp)))))))))
            ·
              have hB1:B1=[]:=by
                have:=of_decide_eq_false hc32
                exact List.eq_nil_of_length_eq_zero (by omega)
              have hb1:B1.length=0:=by rw [hB1]; rfl
              have hbl:B1.length+B2.length=B.length:=by rw [← hB12]; simp
              refine H0 (A6 (A6 (C3 (A1 (A3 (A5 (j:=2) [0,0] (k:=GL_laq 1 0 2 rfl (L2 (a:=a27) (S:=(inG gz)) (cs:=(C1 (A++(B1++x::B2)))) (k+1) ((A.length:Nat):Int) 2 (I4 hOz) (by exact ⟨by omega,by omega,(fun e=>by have:=congrArg List.length e; rw [H4] at this; simp at this)⟩) ?_))))))))
              refine R0 (ch:=[]) (a:=a27) (q:=(Int.toNat ((A.length:Nat):Int)) * 2) (len:=(k+1)) (cap:=cap28) (v:=.agg #[.string f.1,.slice ba f.2.size bc]) (g:=gz) (j:=2) (cs:=(C1 (A++(B1++x::B2)))) (cs':=(C1 (A++(B1++(f,ba,bc)::B2)))) (l:=[.string f.1,.slice ba f.2.size bc]) (hO:=hOz) (hq:=(by rw [H4,List.length_append,List.length_append,List.length_cons]; simp; omega)) (h0:=List.cons_ne_nil _ _) (hcs:=z_setQ (y:=(f,ba,bc)) (by omega)) (k:=(fun g37 hO38=>?_))
              refine B5 [] [0,4,9,10,11] (k:=D3 (A1 (A3 (A5 (j:=1) [0] (k:=F0 78 (((k:Nat):Int)+1) (by omega) (by omega) kr (B5 [0] [0,4,9,10,11] (k:=N_pk 2 [2] (F6 (s':=(k+1,a27,cap28,g37,(A++(f,ba,bc)::B))) [0,4,9,10,11] kr kr ⟨(by omega),(X3 hO38 (by rw [hB1,List.nil_append,← hB12,hB1]; rfl)),(ins_perm hab hpm hlt hfk),(asc_ins (by rw [hab]; exact hasc) hlo hup),(z_insall hab hZ ⟨hgr,hgc⟩)⟩ (by omega)))))))))
  ·
    have hge:F.length≤k:=by simp only [decide_eq_false_iff_not] at hc1; omega
    refine H0 (A6 (A6 (C3 (A1 (A2 (G_p [0,0,0] [2,3] (k:=A1 (C8 ?_))))))))
    refine C5 [.tmp 2,.tmp 3] [.slice a k c,.bool true] (k:=?_)
    have hkF:k=F.length:=by omega
    subst hkF
    exact ⟨zl,g,a,c,rfl,asc_told hsm (by rw [List.take_length] at hpm; exact hpm) hasc,hZ,hO,rfl⟩
end Go.Proofs.YtdolpaagdpeagaaGreatDoor
namespace Go.Proofs.YtdolpaagdpeagaaGreatDoor
open Go.Sw Go.Lib Go.Vf Go.Sha Go.Pr Go.RowKit
inductive FLRd (S:Nat→Obj→Prop):List (List FB)→List Value→Prop
  | nil:FLRd S [] []
  | cons {F:List FB} {L:List (List FB)} {a:Option Addr} {c:Nat} {cs cl:List Value}:Rd S a cs→FRd S F cs→FLRd S L cl→FLRd S (F::L) (.slice a F.length c::cl)
theorem FLRd.len {S:Nat→Obj→Prop}:∀ {L:List (List FB)} {cl:List Value},FLRd S L cl→cl.length=L.length
  | [],_,.nil=>rfl
  | _::L,_,.cons _ _ h=>by rw [List.length_cons,List.length_cons,h.len]
theorem FLRd.get {S:Nat→Obj→Prop}:∀ {L:List (List FB)} {cl:List Value} {k:Nat} (hk:k<L.length),FLRd S L cl→∃ (a:Option Addr) (c:Nat) (cs:List Value),cl[k]? = some (.slice a L[k].length c)∧Rd S a cs∧FRd S L[k] cs
  | [],_,_,hk,_=>absurd hk (Nat.not_lt_zero _)
  | _::_,_,0,_,.cons h1 h2 _=>⟨_,_,_,rfl,h1,h2⟩
  | _::L,_,k+1,hk,.cons _ _ h3=>by
    obtain ⟨a,c,cs,h4,h5,h6⟩:=FLRd.get (L:=L) (k:=k) (by simpa using hk) h3
    exact ⟨a,c,cs,by rw [List.getElem?_cons_succ]; exact h4,h5,h6⟩
theorem flrd_ne {S:Nat→Obj→Prop} {L:List (List FB)} {cl:List Value} {k:Nat} (h:FLRd S L cl) (hk:k<L.length):cl≠[]:=fun e=>by
  have:=h.len; rw [e,List.length_nil] at this; omega
structure TSt (k:Nat) (p:PM) (M:DM):Prop where
  vs:Vs 1048576 M (Gv p.n p.files)
  fx:Fx (1+1000 * k) (30 * k) M
  fok:FOk p.files
  sz:∀ f∈p.files,f.2.size≤500
  n0:0≤p.n
  nk:p.n≤k
  dn:p.down=false
  z0:p.n=0→p.files=[]
theorem pub_t {k:Nat} {p:PM} {M:DM} (h:TSt k p M) (hk:k<8) {F:List FB} (hl:longM F=false) {e2:Int} {p2:PM} {M2:DM} (hp:E8 p M F=(e2,p2,M2)) :
    Fx (1+1000 * (k+1)) (30 * (k+1)) M2∧((e2≠0∧p2=p∧TSt (k+1) p M2)∨(e2=0∧∃ s,F8 F=some s∧s.length=F.length∧p2=⟨p.n+1,s,false⟩∧TSt (k+1) ⟨p.n+1,s,false⟩ M2)):=by
  obtain ⟨l1,l2,l3⟩:=X8 hl
  have hnk:=h.nk
  have hn0:=h.n0
  have hfx0:=fx_pub h.fx (p:=p) ⟨hn0,by omega⟩ (l:=F) l1 fun f hf=>Nat.le_trans (l2 f hf) (by omega)
  rw [hp] at hfx0
  have hfx:Fx (1+1000 * (k+1)) (30 * (k+1)) M2:=hfx0.up (by omega) (by omega)
  refine ⟨hfx,?_⟩
  have hstay:Vs 1048576 M2 (Gv p.n p.files)→TSt (k+1) p M2:=fun hv=>⟨hv,hfx,h.fok,h.sz,hn0,by omega,h.dn,h.z0⟩
  cases hs:F8 F with
  | none =>
    rw [pub_arg hs] at hp
    injection hp with h1 h2; injection h2 with h2 h3
    subst h1 h2 h3
    exact .inl ⟨by decide,rfl,hstay h.vs⟩
  | some s =>
    have hok:=fok_of hs l1 fun f hf=>Nat.le_trans (l2 f hf) (by omega)
    have ho:=K3 hs
    have hsz:∀ f∈s,f.2.size≤500:=fun f hf=>l2 f (ho.perm.mem_iff.1 hf)
    have hg:=(gv_size (n:=p.n) ⟨hn0,by omega⟩ h.fok h.sz).2
    obtain ⟨y,n⟩:=pub_vs hn0 (by omega) h.dn h.vs (by omega) hs
    rw [hp] at y n
    by_cases hf:((szV (Gv p.n p.files)+(szV (At' (p.n+1) s)+((C6 s).size+(gB (p.n+1)++lfB).size)):Nat):Int)≤1048576
    · obtain ⟨h1,h2,h3⟩:=y hf
      dsimp only at h1 h2 h3
      subst h1 h2
      exact .inr ⟨rfl,s,rfl,ho.perm.length_eq,rfl,h3,hfx,hok,hsz,by show 0≤p.n+1; omega,by show p.n+1≤((k+1:Nat):Int); omega,rfl,fun e=>absurd e (by show ¬ p.n+1=0; omega)⟩
    · obtain ⟨h1,h2,h3⟩:=n hf
      dsimp only at h1 h2 h3
      subst h1 h2
      exact .inl ⟨by decide,rfl,hstay h3⟩
theorem it_one {g:Int} (h:1≤g∧g≤9):u8s (itB g).data.toList=[.int .u8 (48+g)]:=by
  have:∀ m:Fin 10,(Lib.decDigits m.val).map (fun b=>((b.toNat:Nat):Int))=[48+(m.val:Int)]:=by decide +kernel
  obtain ⟨m,rfl⟩:=Int.eq_ofNat_of_zero_le (show 0≤g by omega)
  have h2:=this ⟨m,by omega⟩
  rw [it_dig (by omega)]
  show u8s (Lib.decDigits m).toArray.toList=_
  unfold u8s
  have h3:=congrArg (List.map (Value.int .u8)) h2
  rw [List.map_map] at h3
  simpa using h3
theorem rd_it {b:Nat} {g:Int} {t:TypeId} {fz:Nat × Nat} (h:1≤g∧g≤9):Rd (Go.Sw.inG [(b,.cells #[.int .u8 (48+g)] t fz)]) (some ⟨b,0,none⟩) (u8s (itB g).data.toList):=by rw [it_one h]; exact Rd.lit
theorem cSorted (fa:Option Addr) (fc:Nat) (F:List FB) (cs:List Value) (S:Nat→Obj→Prop) (hrd:Rd S fa cs) (hF:FRd S F cs) (hn20:F.length≤20) {s0:List FB} (hsm:F8 F=some s0) (W0:World) (H:List Grp) (hS:∀ y o,S y o→At W0 H y o) :
    Tri Tryz.prog 16 #[.slice fa F.length fc] W0 H (fun v H'=>∃ (g:Grp) (a:Option Addr) (c:Nat) (cs2:List Value),v=.tuple #[.slice a s0.length c,.bool true]∧Rd (fun y o=>Go.Sw.inG g y o∨S y o) a cs2∧FRd (fun y o=>Go.Sw.inG g y o∨S y o) s0 cs2∧H'=g::H) :=
  Tri.post (sortedD_ fa fc F cs S hrd hF hn20 hsm W0 H hS) fun v H1 ⟨zl,g,a,c,hv,hz,hZ,hO,hH⟩=>by
    have hl:s0.length=F.length:=(K3 hsm).perm.length_eq
    subst hz
    exact ⟨_,⟨g,a,c,C1 zl,by rw [hl]; exact hv,(I4 hO).mono fun _ _ h=>.inl h,frd_z fun z hz=>T8 (fun _ _ h=>.inr h) (hZ z hz),hH⟩,fun w h=>h⟩
theorem cOpenT {d k:Nat} {p:PM} {M:DM} {GD:List Grp} (h:DD d M GD) (hst:TSt k p M) (hk:k≤8) (W0:World) (X:List Grp) :
    Tri Tryz.prog 9 #[pt d] W0 (GD++X) (fun v H'=>∃ pb GD' GP,v=.tuple #[pt pb,.int .i64 0]∧DD d (K4 [p.n - 1,p.n+1] M) GD'∧PrV pb d ⟨p.n,p.files,false⟩ GP∧H'=GD'++(GP++X)):=by
  have h1:=hst.n0
  have h2:=hst.nk
  rcases Int.lt_or_le 0 p.n with h3 | h3
  · exact cOpenG h hst.fx W0 X (by omega) (by omega) p.n ⟨by omega,by omega⟩ p.files (gv_ok (by omega) hst.vs hst.fok)
  · have h4:p.n=0:=by omega
    have hv:=hst.vs
    rw [h4] at hv
    rw [h4,hst.z0 h4]
    exact cOpen0 h hst.fx W0 X (by omega) (by omega) (gv_no hv)
theorem it_sz {g:Int} (h:1≤g∧g≤9):(itB g).size=1:=by
  have:=congrArg List.length (it_one h)
  unfold u8s at this
  rw [List.length_map,Array.length_toList] at this
  exact this
theorem tidies_ (la:Option Addr) (lc:Nat) (L:List (List FB)) (cl:List Value) (S:Nat→Obj→Prop) (hrd:Rd S la cl) (hL:FLRd S L cl) (hln:L.length≤9223372036854775807) (hLz:∀ F∈L,F.length≤9223372036854775807) (W0:World) (H:List Grp) (hS:∀ y o,S y o→At W0 [] y o):Tri Tryz.prog 5 #[.slice la L.length lc] W0 H (fun v H'=>v=.bool true∧H'=H):=by
  obtain ⟨ho1,ho2,ho3,ho4,ho5⟩:=opened 1048576 (by decide)
  have hst0:TSt 0 ⟨0,[],false⟩ (K4 [-1,1] (newM 1048576)):=⟨ho2,ho5,fok_nil,fun f h=>absurd h List.not_mem_nil,Int.le_refl _,Int.le_refl _,rfl,fun _=>rfl⟩
  refine D6 179 Tryz.func5 ?_
  refine A2 (B9 (E':=[⟨0,[],.slice la L.length lc⟩]) [0] [0] (k:=A1 (A2 (A2 (A3 (G1 Tryz.func7 (first_ _ _) (B5 [0] [0,25] (k:=A1 ?_))))))))
  refine D9 kr (B6 (A1 (A2 (A3 (E4 (vs:=[.int .i64 1048576]) Tryz.func8 (Tri.heap (fun _ hw=>A8 hw fun _ x=>by simp only [] <;> omega) (cNewP 1048576 rfl _ H)) ?_)))))
  rintro _ _ ⟨d1,GD2,rfl,hd3,rfl⟩
  refine E0 rfl (H':=(GD2++H)) (fun w h=>A8 h fun _ x=>by simp only [List.flatten_append,List.count_append] <;> omega) (B5 [0] [0,3] (k:=A1 (A2 (A3 (A5 (j:=1) [0] (k:=E4 (vs:=[pt d1]) Tryz.func9 (Tri.heap (fun _ hw=>A8 hw fun _ x=>by simp only [List.flatten_append,List.count_append] <;> omega) (cOpen0 hd3 (fx_new 1048576) _ H (by omega) (by omega) ho1)) ?_))))))
  rintro _ _ ⟨pb4,GD5,GP6,rfl,hd7,hp8,rfl⟩
  refine E0 rfl (H':=(GD5++(GP6++H))) (fun w h=>A8 h fun _ x=>by simp only [List.flatten_append,List.count_append] <;> omega) (B5 [0,0,0,0,0] [0,3,4] (k:=A1 (A2 (G_p [0] [0,3,4,6] (k:=A1 (A2 (A2 (G_p [0,0,0] [3,4,6,32,33,34] (k:=?_)))))))))
  refine A1 (G_join (T:=Nat × PM × DM × List Grp × List Grp × List Grp) (fun ξ:Nat × PM × DM × List Grp × List Grp × List Grp=>[⟨3,[],pt d1⟩,⟨4,[],pt pb4⟩,⟨6,[],.int .i64 ξ.2.1.n⟩]) (fun ξ:Nat × PM × DM × List Grp × List Grp × List Grp=>(ξ.2.2.2.1++(ξ.2.2.2.2.1++(ξ.2.2.2.2.2++H)))) (fun ξ:Nat × PM × DM × List Grp × List Grp × List Grp=>(ξ.1≤8)∧(DD d1 ξ.2.2.1 ξ.2.2.2.1)∧(PrV pb4 d1 ξ.2.1 ξ.2.2.2.2.1)∧(TSt ξ.1 ξ.2.1 ξ.2.2.1)) ?_ ?_)
  ·
    refine B8 (I6 (EI:=(fun ξ:Nat × PM × DM × List Grp × List Grp × List Grp=>[⟨3,[],pt d1⟩,⟨4,[],pt pb4⟩,⟨6,[],.int .i64 ξ.2.1.n⟩,⟨32,[],.slice la L.length lc⟩,⟨33,[],.int .i64 ((L.length:Nat):Int)⟩,⟨34,[],.int .i64 ((ξ.1:Nat):Int)⟩])) (HI:=(fun ξ:Nat × PM × DM × List Grp × List Grp × List Grp=>(ξ.2.2.2.1++(ξ.2.2.2.2.1++(ξ.2.2.2.2.2++H))))) (Φ:=(fun ξ:Nat × PM × DM × List Grp × List Grp × List Grp=>(ξ.1≤L.length)∧(ξ.1≤8)∧(DD d1 ξ.2.2.1 ξ.2.2.2.1)∧(PrV pb4 d1 ξ.2.1 ξ.2.2.2.2.1)∧(TSt ξ.1 ξ.2.1 ξ.2.2.1))) (μ:=(fun ξ:Nat × PM × DM × List Grp × List Grp × List Grp=>L.length - ξ.1)) (s0:=(0,⟨0,[],false⟩,(K4 [-1,1] (newM 1048576)),GD5,GP6,[])) [3,4,6,32,33,34] kr rfl ⟨(by omega),(by omega),hd7,hp8,hst0⟩ ?_)
    rintro ⟨k,p,M,GD,GP,T⟩ ⟨hk,hk8,hd,hp,hst⟩
    dsimp only at hk hk8 hd hp hst
    refine A2 (G_p [0] [3,4,6,32,33,34,35] (k:=A1 (A2 (D2 (b:=decide (((k:Nat):Int)<((L.length:Nat):Int))) kr (fun hc9=>?_) (fun hc9=>?_)))))
    ·
      have hlt:k<L.length:=by simp only [decide_eq_true_eq] at hc9; omega
      obtain ⟨fa,fc,cs,hge,hfr,hff⟩:=hL.get hlt
      obtain ⟨F,hFk⟩:∃ F,F=L[k]:=⟨_,rfl⟩
      rw [← hFk] at hge hff
      have hFz:=hLz F (by rw [hFk]; exact List.getElem_mem hlt)
      have hsk:=hst.nk
      have hs0:=hst.n0
      refine B6 (A1 (A2 (B8 (A2 (A3 (A5 (j:=1) [0] (k:=L2 L.length ((k:Nat):Int) 1 hrd (by exact ⟨by omega,by omega,flrd_ne hL hlt⟩) (O3 (k * 1) (.slice fa F.length fc) hrd (fun y o h=>at_up (hS y o h)) (fun _=>(by rw [Nat.mul_one]; exact hge)) ?_))))))))
      refine B5 [0,0] [3,4,6,7,8,32,33,34] (k:=A1 (A2 (A2 (A3 (A5 (j:=5) [0,0,0,0,0] (k:=A0p [(41,false)] Tryz.func15 (fun hc=>long_ fa fc F cs S hfr hff (by omega) _ _ (fun y o h=>at_up (hS y o h))) (B5 [5] [3,4,6,8,32,33,34,45] (k:=A1 ?_))))))))
      refine D2 (b:=(decide (((k:Nat):Int) ≥ 8))||(longM F)) kr (fun hc10=>?_) (fun hc10=>?_)
      ·
        skip
        refine H0 (A6 (A0n rfl (A6 (A6 (C3 (T4 (k,p,M,GD,GP,T) [3,4,6] kr (fun w h=>h) ⟨hk8,hd,hp,hst⟩))))))
      ·
        have hlg:(decide (((k:Nat):Int) ≥ 8)||longM F)=false:=hc10
        rw [Bool.or_eq_false_iff] at hlg
        have hk8l:k<8:=by have:=of_decide_eq_false hlg.1; omega
        have hlf:=hlg.2
        refine B6 (A1 (A2 (A2 (A3 (A5 (j:=2) [0,0] (k:=?_))))))
        obtain ⟨e2,p2,M2,hpub⟩:∃ e2 p2 M2,E8 p M F=(e2,p2,M2):=⟨_,_,_,rfl⟩
        refine E4 (vs:=[pt pb4,.slice fa F.length fc]) Tryz.func10 (Tri.heap (fun _ hw=>A8 hw fun _ x=>by simp only [List.flatten_append,List.count_append] <;> omega) (cPub hd hst.fx _ (T++H) hp (by omega) (by omega) ⟨by omega,by omega⟩ fc (FArg.base ⟨⟨S,hfr,hff,hS⟩⟩) (X8 hlf).1 (fun f hf=>by have:=(X8 hlf).2.2 f hf; omega) (fun f hf=>by have:=(X8 hlf).2.1 f hf; omega) hpub)) ?_
        rintro _ _ ⟨GD11,GP12,rfl,hd13,hp14,rfl⟩
        refine E0 rfl (H':=(GD11++(GP12++(T++H)))) (fun w h=>A8 h fun _ x=>by simp only [List.flatten_append,List.count_append] <;> omega) ?_
        have hpt:=pub_t hst hk8l hlf hpub
        refine B5 [0] [3,4,6,8,32,33,34,49] (k:=A1 (D2 (b:=e2 != 0) kr (fun hc15=>?_) (fun hc15=>?_)))
        ·
          have hen:e2≠0:=bne_iff_ne.1 hc15
          obtain ⟨hpp,hst2⟩:p2=p∧TSt (k+1) p M2:=by
            rcases hpt.2 with h9 | h9
            · exact h9.2
            · exact absurd h9.1 hen
          refine H0 (A6 (C3 (A1 (A3 (A5 (j:=1) [0] (k:=F0 125 (((k:Nat):Int)+1) (by omega) (by omega) kr (B5 [0] [3,4,6,32,33,34] (k:=G8 (H':=(GD11++(GP12++(T++H)))) (fun w h=>A8 h fun _ x=>by simp only [List.flatten_append,List.count_append] <;> omega) ?_))))))))
          refine F6 (s':=((k+1),p,M2,GD11,GP12,T)) [3,4,6,32,33,34] kr rfl ⟨(by omega),(by omega),hd13,(hpp ▸ hp14),hst2⟩ (by omega)
        ·
          have he0:e2=0:=by simpa using hc15
          obtain ⟨s,hsm,hsl,rfl,hst2⟩:∃ s,F8 F=some s∧s.length=F.length∧p2=⟨p.n+1,s,false⟩∧TSt (k+1) ⟨p.n+1,s,false⟩ M2:=by
            rcases hpt.2 with h9 | h9
            · exact absurd he0 h9.1
            · exact h9.2
          have hfo:FOk s:=hst2.fok
          have hnn:1≤p.n+1∧p.n+1≤9:=⟨by omega,by omega⟩
          have hs20:=hfo.len
          have hrk:=gv_ok (n:=p.n+1) hnn.1 hst2.vs hfo
          refine B6 (A1 (A2 (A3 (A5 (j:=2) [0,0] (k:=F0 51 (p.n+1) (by omega) (by omega) kr (B5 [0] [3,4,6,8,32,33,34] (k:=A1 (A2 ?_))))))))
          refine A3 (A5 (j:=1) [0] (k:=E4 Tryz.func16 (cSorted fa fc F cs S hfr hff (X8 hlf).1 hsm _ _ (fun y o h=>at_up (hS y o h))) ?_))
          rintro _ _ ⟨gw18,wa19,wc20,wcs21,rfl,hwr22,hwf23,rfl⟩
          refine D5 (E':=[⟨3,[],pt d1⟩,⟨4,[],pt pb4⟩,⟨6,[],.int .i64 (p.n+1)⟩,⟨9,[],.slice wa19 s.length wc20⟩,⟨32,[],.slice la L.length lc⟩,⟨33,[],.int .i64 ((L.length:Nat):Int)⟩,⟨34,[],.int .i64 ((k:Nat):Int)⟩]) [0,0,0,0,0] [3,4,6,9,32,33,34] (k:=A1 (A2 (A3 (A5 (j:=1) [0] (k:=Z0 (H':=(gw18::(GD11++(GP12++(T++H))))) kr (E4 (vs:=[pt d1]) Tryz.func12 (Tri.heap (fun _ hw=>A8 hw fun _ x=>by simp only [List.flatten_append,List.flatten_cons,List.flatten_nil,List.count_append,List.append_nil] <;> omega) (cReadG hd13 hpt.1 _ ([gw18]++(GP12++(T++H))) (p.n+1) ⟨by omega,by omega⟩ s hrk)) ?_))))))
          rintro _ _ ⟨ZR24,ra25,rc26,cs27,rfl,hfi28,rfl⟩
          refine E0 rfl (H':=(gw18::(GD11++(GP12++(T++(ZR24++H)))))) (fun w h=>A8 h fun _ x=>by simp only [List.flatten_append,List.flatten_cons,List.flatten_nil,List.count_append,List.append_nil] <;> omega) ?_
          skip
          refine B5 [0,0,0,0,0,0,0] [3,4,6,9,11,12,13,32,33,34] (k:=A1 (A2 (A2 (A3 (A5 (j:=6) [0,0,0,0,0,0] (k:=L1 68 [(65,false)] (x:=.bool ((p.n+1) != (p.n+1))) (y:=.bool false) (by rw [show ((p.n+1) != (p.n+1))=false by simp]) (A5 (j:=10) [3,0,0,0] (k:=I3 (ch:=[(70,false)]) (f:=18) (fst:=#[]) (caps:=#[]) (vs:=[.slice ra25 s.length rc26,.slice wa19 s.length wc20]) (hf:=Tryz.func18) (hsure:=G0 kr) (hc:=same_ ra25 wa19 _ _ s cs27 wcs21 (inZ ZR24) (fun y o=>Go.Sw.inG gw18 y o∨S y o) hfi28.1 hfi28.2 hwr22 hwf23 (by first | omega | (have:=hst.fok.len; omega)) _ _ (fun y o h=>At.cons (C4 (C4 (C4 (at_z h))))) (fun y o h=>h.elim (fun h=>H6 0 rfl y o h) (fun h=>at_up (hS y o h)))) (k:=?_)))))))))
          rintro _ _ ⟨rfl,rfl⟩
          refine A5 (j:=15) [0,3,0,0] (k:=I3 (ch:=[(76,false)]) (f:=19) (fst:=#[]) (caps:=#[]) (vs:=[pt pb4]) (hf:=Tryz.func19) (hsure:=G0 kr) (hc:=Tri.heap (fun _ hw=>A8 hw fun _ x=>by simp only [List.flatten_append,List.flatten_cons,List.flatten_nil,List.count_append,List.append_nil] <;> omega) (cFiles hp14 hfo.len (fun f hf=>by have:=hfo.nsz f hf; omega) (fun f hf=>by have:=hfo.size f hf; omega) hfo.self _ ([gw18]++(GD11++(T++(ZR24++H)))))) (k:=?_))
          rintro _ _ ⟨ZR29,ra30,rc31,cs32,rfl,hfi33,rfl⟩
          refine E0 rfl (H':=(gw18::(GD11++(GP12++(T++(ZR24++(ZR29++H))))))) (fun w h=>A8 h fun _ x=>by simp only [List.flatten_append,List.flatten_cons,List.flatten_nil,List.count_append,List.append_nil] <;> omega) (A5 (j:=17) [0] (k:=I3 (ch:=[(76,false)]) (f:=18) (fst:=#[]) (caps:=#[]) (vs:=[.slice ra30 s.length rc31,.slice wa19 s.length wc20]) (hf:=Tryz.func18) (hsure:=G0 kr) (hc:=same_ ra30 wa19 _ _ s cs32 wcs21 (inZ ZR29) (fun y o=>Go.Sw.inG gw18 y o∨S y o) hfi33.1 hfi33.2 hwr22 hwf23 (by first | omega | (have:=hst.fok.len; omega)) _ _ (fun y o h=>At.cons (C4 (C4 (C4 (C4 (at_z h)))))) (fun y o h=>h.elim (fun h=>H6 0 rfl y o h) (fun h=>at_up (hS y o h)))) (k:=?_)))
          rintro _ _ ⟨rfl,rfl⟩
          refine A5 (j:=22) [0,3,0,0] (k:=I3 (ch:=[(83,false)]) (f:=20) (fst:=#[]) (caps:=#[]) (vs:=[pt d1,.string eB]) (hf:=Tryz.func20) (hsure:=G0 kr) (hc:=Tri.heap (fun _ hw=>A8 hw fun _ x=>by simp only [List.flatten_append,List.flatten_cons,List.flatten_nil,List.count_append,List.append_nil] <;> omega) (cListD hd13 hst2.fx _ ([gw18]++(GP12++(T++(ZR24++(ZR29++H))))) (by omega) (by omega) eB (n:=1) (gv_list0 hnn.1 hst2.vs))) (k:=?_))
          rintro _ _ ⟨la34,lc35,rfl,rfl⟩
          refine E0 rfl (H':=(gw18::(GD11++(GP12++(T++(ZR24++(ZR29++H))))))) (fun w h=>A8 h fun _ x=>by simp only [List.flatten_append,List.flatten_cons,List.flatten_nil,List.count_append,List.append_nil] <;> omega) (B5 [0,0,3] [3,4,6,9,32,33,34,88] (k:=A1 (D9 kr (B6 (A1 (A2 (G_p [0] [3,4,6,9,14,32,33,34] (k:=A1 ?_))))))))
          refine B8 (I6 (EI:=(fun ξ:Int=>[⟨3,[],pt d1⟩,⟨4,[],pt pb4⟩,⟨6,[],.int .i64 (p.n+1)⟩,⟨9,[],.slice wa19 s.length wc20⟩,⟨14,[],.int .i64 ξ⟩,⟨32,[],.slice la L.length lc⟩,⟨33,[],.int .i64 ((L.length:Nat):Int)⟩,⟨34,[],.int .i64 ((k:Nat):Int)⟩])) (HI:=(fun ξ:Int=>(gw18::(GD11++(GP12++(T++(ZR24++(ZR29++H)))))))) (Φ:=(fun ξ:Int=>(1≤ξ)∧(ξ≤p.n+3))) (μ:=(fun ξ:Int=>(p.n+3 - ξ).toNat)) (s0:=(1)) [3,4,6,9,14,32,33,34] kr rfl ⟨(by omega),(by omega)⟩ ?_)
          rintro g ⟨hg1,hg2⟩
          refine A2 (A2 (A3 (A5 (j:=3) [0,0,0] (k:=F0 91 ((p.n+1)+1) (by omega) (by omega) kr (B5 [0] [3,4,6,9,14,32,33,34,92] (k:=A1 (D2 (b:=decide (g≤((p.n+1)+1))) kr (fun hc37=>?_) (fun hc37=>?_))))))))
          ·
            have hgl:=of_decide_eq_true hc37
            refine B6 (A1 (A2 (B8 (A2 (A3 (A5 (j:=2) [0,0] (k:=F0 96 (48+g) (by omega) (by omega) kr ?_)))))))
            have hw39:IntKind.wrap .u8 (48+g)=(48+g):=(by show (48+g) % 256=48+g; omega)
            refine A5 (j:=3) [0] (k:=Y1 97 (x:=.int .u8 (IntKind.wrap .u8 (48+g))) (y:=.int .u8 (48+g)) (by simp only [hw39]) (N2 5 1 [.int .u8 (48+g)] (fun b40=>GL_env (E':=[⟨98,[],.slice (some ⟨b40,0,none⟩) ((itB g).size) 1⟩,⟨97,[],.int .u8 (48+g)⟩,⟨96,[],.int .i64 (48+g)⟩,⟨95,[],.int .i64 g⟩,⟨3,[],pt d1⟩,⟨4,[],pt pb4⟩,⟨6,[],.int .i64 (p.n+1)⟩,⟨9,[],.slice wa19 s.length wc20⟩,⟨14,[],.int .i64 g⟩,⟨32,[],.slice la L.length lc⟩,⟨33,[],.int .i64 ((L.length:Nat):Int)⟩,⟨34,[],.int .i64 ((k:Nat):Int)⟩,⟨92,[],.bool (decide (g≤((p.n+1)+1)))⟩]) (by rw [it_sz ⟨hg1,by omega⟩] <;> kernel_rfl) (K6 (ch:=[]) (a:=(some ⟨b40,0,none⟩)) (cap:=1) (e:=5) (S:=(Go.Sw.inG [(b40,.cells #[.int .u8 (48+g)] 5 (0,0))])) (itB g) (hrd:=rd_it ⟨hg1,by omega⟩) (hS:=H6 0 rfl) (k:=Z2 (mB #[103]) (itB g) (fun _=>by first | omega | (have:=it_sz (g:=g) ⟨hg1,by omega⟩; show 1+(itB g).size≤_; omega)) (B5 [0] [3,4,6,9,14,15,32,33,34] (k:=A1 (A2 ?_))))))))
            by_cases hgn:g=p.n+1
            ·
              refine A3 (A5 (j:=3) [0,0,0] (k:=Y1 103 (x:=.bool (g==(p.n+1))) (y:=.bool true) (by rw [show (g==(p.n+1))=true from beq_iff_eq.2 hgn]) (A5 (j:=5) [0,0] (k:=Z0 (H':=([(b40,.cells #[.int .u8 (48+g)] 5 (0,0))]::gw18::(GD11++(GP12++(T++(ZR24++(ZR29++H))))))) kr (E4 (vs:=[pt d1,.string ((mB #[103])++(itB g))]) Tryz.func20 (Tri.heap (fun _ hw=>A8 hw fun _ x=>by simp only [List.flatten_append,List.flatten_cons,List.flatten_nil,List.count_append,List.append_nil] <;> omega) (cListD hd13 hst2.fx _ ([[(b40,.cells #[.int .u8 (48+g)] 5 (0,0))],gw18]++(GP12++(T++(ZR24++(ZR29++H))))) (by omega) (by omega) ((mB #[103])++(itB g)) (n:=(s.length+1)) ((gv_listg (g:=g) hnn.1 hg1 hst2.vs).trans (if_pos hgn)))) ?_)))))
              rintro _ _ ⟨la41,lc42,rfl,rfl⟩
              refine E0 rfl (H':=([(b40,.cells #[.int .u8 (48+g)] 5 (0,0))]::gw18::(GD11++(GP12++(T++(ZR24++(ZR29++H))))))) (fun w h=>A8 h fun _ x=>by simp only [List.flatten_append,List.flatten_cons,List.flatten_nil,List.count_append,List.append_nil] <;> omega) (A5 (j:=8) [0,0] (k:=Y1 108 (x:=.bool (decide ((((s.length+1):Nat):Int) > 0))) (y:=.bool true) (by rw [show decide ((((s.length+1):Nat):Int) > 0)=true from decide_eq_true (by omega)]) (A5 (j:=13) [0,0,0,0,0] (k:=L1 113 [(110,false)] (x:=.bool (g==(p.n+1))) (y:=.bool true) (by rw [show (g==(p.n+1))=true from beq_iff_eq.2 hgn]) (A5 (j:=16) [0,0,0] (k:=I3 (ch:=[(114,true),(110,false)]) (f:=20) (fst:=#[]) (caps:=#[]) (vs:=[pt d1,.string ((mB #[103])++(itB g))]) (hf:=Tryz.func20) (hsure:=G0 kr) (hc:=Tri.heap (fun _ hw=>A8 hw fun _ x=>by simp only [List.flatten_append,List.flatten_cons,List.flatten_nil,List.count_append,List.append_nil] <;> omega) (cListD hd13 hst2.fx _ ([[(b40,.cells #[.int .u8 (48+g)] 5 (0,0))],gw18]++(GP12++(T++(ZR24++(ZR29++H))))) (by omega) (by omega) ((mB #[103])++(itB g)) (n:=(s.length+1)) ((gv_listg (g:=g) hnn.1 hg1 hst2.vs).trans (if_pos hgn)))) (k:=?_)))))))
              rintro _ _ ⟨la43,lc44,rfl,rfl⟩
              refine E0 rfl (H':=([(b40,.cells #[.int .u8 (48+g)] 5 (0,0))]::gw18::(GD11++(GP12++(T++(ZR24++(ZR29++H))))))) (fun w h=>A8 h fun _ x=>by simp only [List.flatten_append,List.flatten_cons,List.flatten_nil,List.count_append,List.append_nil] <;> omega) (A5 (j:=22) [0,0,0,0,0] (k:=L1 122 [(114,true),(110,false)] (x:=.bool ((((s.length+1):Nat):Int) != (IntKind.wrap .i64 (((s.length:Nat):Int)+1)))) (y:=.bool false) (by rw [w64 (x:=((s.length:Nat):Int)+1) (by omega) (by omega),show ((((s.length+1):Nat):Int) != (((s.length:Nat):Int)+1))=false by simp]) (B5 [2,3] [3,4,6,9,14,32,33,34,124] (k:=A1 (D9 kr (B6 (D3 (A1 ?_))))))))
              refine A3 (A5 (j:=2) [0,0] (k:=F0 94 (g+1) (by omega) (by omega) kr (B5 [0] [3,4,6,9,14,32,33,34] (k:=N_pk 1 [1] (F6 (s':=((g+1))) [3,4,6,9,14,32,33,34] kr kr ⟨(by omega),(by omega)⟩ (by omega))))))
            ·
              refine A3 (A5 (j:=3) [0,0,0] (k:=Y1 103 (x:=.bool (g==(p.n+1))) (y:=.bool false) (by rw [show (g==(p.n+1))=false from beq_eq_false_iff_ne.2 hgn]) (A5 (j:=5) [0,0] (k:=E4 (vs:=[pt d1,.string ((mB #[103])++(itB g))]) Tryz.func20 (Tri.heap (fun _ hw=>A8 hw fun _ x=>by simp only [List.flatten_append,List.flatten_cons,List.flatten_nil,List.count_append,List.append_nil] <;> omega) (cListD hd13 hst2.fx _ ([[(b40,.cells #[.int .u8 (48+g)] 5 (0,0))],gw18]++(GP12++(T++(ZR24++(ZR29++H))))) (by omega) (by omega) ((mB #[103])++(itB g)) (n:=0) ((gv_listg (g:=g) hnn.1 hg1 hst2.vs).trans (if_neg hgn)))) ?_))))
              rintro _ _ ⟨la46,lc47,rfl,rfl⟩
              refine E0 rfl (H':=([(b40,.cells #[.int .u8 (48+g)] 5 (0,0))]::gw18::(GD11++(GP12++(T++(ZR24++(ZR29++H))))))) (fun w h=>A8 h fun _ x=>by simp only [List.flatten_append,List.flatten_cons,List.flatten_nil,List.count_append,List.append_nil] <;> omega) (A5 (j:=13) [0,0,0,0,0,0,0] (k:=L1 113 [(110,false)] (x:=.bool (g==(p.n+1))) (y:=.bool false) (by rw [show (g==(p.n+1))=false from beq_eq_false_iff_ne.2 hgn]) (B5 [0,1,1,1,1,1,1,1,1,3,3] [3,4,6,9,14,32,33,34,124] (k:=A1 (D9 kr (B6 (D3 (A1 ?_))))))))
              refine A3 (A5 (j:=2) [0,0] (k:=F0 94 (g+1) (by omega) (by omega) kr (B5 [0] [3,4,6,9,14,32,33,34] (k:=N_pk 1 [1] (F6 (s':=((g+1))) [3,4,6,9,14,32,33,34] kr kr ⟨(by omega),(by omega)⟩ (by omega))))))
          ·
            have hgl:=of_decide_eq_false hc37
            refine H0 (A6 (A6 (C3 (D3 (A1 (A3 (A5 (j:=1) [0] (k:=F0 125 (((k:Nat):Int)+1) (by omega) (by omega) kr ?_))))))))
            refine B5 [0] [3,4,6,32,33,34] (k:=G8 (H':=(GD11++(GP12++(([gw18]++T++ZR24++ZR29)++H)))) (fun w h=>A8 h fun _ x=>by simp only [List.flatten_append,List.flatten_cons,List.flatten_nil,List.count_append,List.append_nil] <;> omega) (F6 (s':=((k+1),⟨p.n+1,s,false⟩,M2,GD11,GP12,([gw18]++T++ZR24++ZR29))) [3,4,6,32,33,34] kr rfl ⟨(by omega),(by omega),hd13,hp14,hst2⟩ (by omega)))
    ·
      have hkend:L.length≤k:=by simp only [decide_eq_false_iff_not] at hc9; omega
      refine H0 (A6 (A6 (C3 (T4 (k,p,M,GD,GP,T) [3,4,6] kr (fun w h=>h) ⟨hk8,hd,hp,hst⟩))))
  ·
    rintro ⟨k,p,M,GD,GP,T⟩ ⟨hk8,hd,hp,hst⟩
    dsimp only at hk8 hd hp hst
    have hsn:=hst.n0
    have hsk2:=hst.nk
    refine N_env (E':=[⟨3,[],pt d1⟩,⟨4,[],pt pb4⟩,⟨6,[],.int .i64 p.n⟩]) kr (A1 (A2 (A3 (A5 (j:=1) [0] (k:=E4 (vs:=[pt d1]) Tryz.func9 (Tri.heap (fun _ hw=>A8 hw fun _ x=>by simp only [List.flatten_append,List.count_append] <;> omega) (cOpenT hd hst hk8 _ (GP++(T++H)))) ?_)))))
    rintro _ _ ⟨pb50,GD51,GP52,rfl,hd53,hp54,rfl⟩
    refine E0 rfl (H':=(GD51++(GP52++(GP++(T++H))))) (fun w h=>A8 h fun _ x=>by simp only [List.flatten_append,List.count_append] <;> omega) (B5 [0,0,0,0,0] [4,6,16,17] (k:=A1 (A2 (G_p [0] [4,6,16,17,18] (k:=A1 (A2 (A3 (E4 Tryz.func12 (readNil_ _ _) ?_))))))))
    rintro _ _ ⟨rfl,rfl⟩
    refine B5 [0,0,0,0,0,0,0] [4,6,16,17,18,21] (k:=A1 (A2 (A3 (E4 Tryz.func9 (openNil_ _ _) ?_))))
    rintro _ _ ⟨rfl,rfl⟩
    refine B5 [0,0,0,0,0] [4,6,16,17,18,21,23] (k:=A1 (A2 (A3 (A5 (j:=4) [0,0,0,0] (k:=A0p [(142,true)] Tryz.func13 (fun hc=>cGenAt hp54 _ _ (fun x hx=>by simp only [List.flatten_append,List.mem_append]; simp only [hx,true_or,or_true])) (A5 (j:=7) [0,0] (k:=L1 146 [(142,true)] (x:=.bool (p.n==p.n)) (y:=.bool true) (by rw [show (p.n==p.n)=true by simp]) (A5 (j:=10) [2,0,0] (k:=?_)))))))))
    refine I3 (ch:=[(148,true)]) (f:=19) (fst:=#[]) (caps:=#[]) (vs:=[pt pb50]) (hf:=Tryz.func19) (hsure:=G0 kr) (hc:=Tri.heap (fun _ hw=>A8 hw fun _ x=>by simp only [List.flatten_append,List.count_append] <;> omega) (cFiles hp54 hst.fok.len (fun f hf=>by have:=hst.fok.nsz f hf; omega) (fun f hf=>by have:=hst.fok.size f hf; omega) hst.fok.self _ (GD51++(GP++(T++H))))) (k:=?_)
    rintro _ _ ⟨ZR55,ra56,rc57,cs58,rfl,hfi59,rfl⟩
    refine E0 rfl (H':=(GD51++(GP52++(GP++(T++(ZR55++H)))))) (fun w h=>A8 h fun _ x=>by simp only [List.flatten_append,List.count_append] <;> omega) (A5 (j:=12) [0] (k:=I3 (ch:=[(148,true)]) (f:=19) (fst:=#[]) (caps:=#[]) (vs:=[pt pb4]) (hf:=Tryz.func19) (hsure:=G0 kr) (hc:=Tri.heap (fun _ hw=>A8 hw fun _ x=>by simp only [List.flatten_append,List.count_append] <;> omega) (cFiles hp hst.fok.len (fun f hf=>by have:=hst.fok.nsz f hf; omega) (fun f hf=>by have:=hst.fok.size f hf; omega) hst.fok.self _ (GD51++(GP52++(T++(ZR55++H)))))) (k:=?_)))
    rintro _ _ ⟨ZR60,ra61,rc62,cs63,rfl,hfi64,rfl⟩
    refine E0 rfl (H':=(GD51++(GP52++(GP++(T++(ZR55++(ZR60++H))))))) (fun w h=>A8 h fun _ x=>by simp only [List.flatten_append,List.count_append] <;> omega) (I3 (ch:=[(148,true)]) (f:=18) (fst:=#[]) (caps:=#[]) (vs:=[.slice ra56 p.files.length rc57,.slice ra61 p.files.length rc62]) (hf:=Tryz.func18) (hsure:=G0 kr) (hc:=same_ ra56 ra61 _ _ p.files cs58 cs63 (inZ ZR55) (inZ ZR60) hfi59.1 hfi59.2 hfi64.1 hfi64.2 (by first | omega | (have:=hst.fok.len; omega)) _ _ (fun y o h=>C4 (C4 (C4 (C4 (at_z h))))) (fun y o h=>C4 (C4 (C4 (C4 (C4 (at_z h))))))) (k:=?_))
    rintro _ _ ⟨rfl,rfl⟩
    refine A5 (j:=17) [2,0,0] (k:=I3 (ch:=[(155,true)]) (f:=10) (fst:=#[]) (caps:=#[]) (vs:=[.pointer none,.slice none 0 0]) (hf:=Tryz.func10) (hsure:=G0 kr) (hc:=publishNil_ _ _ _) (k:=?_))
    rintro _ _ ⟨rfl,rfl⟩
    refine A5 (j:=22) [0,2,0,0] (k:=I3 (ch:=[(160,true)]) (f:=19) (fst:=#[]) (caps:=#[]) (vs:=[.pointer none]) (hf:=Tryz.func19) (hsure:=G0 kr) (hc:=filesNil_ _ _) (k:=?_))
    rintro _ _ ⟨rfl,rfl⟩
    refine A5 (j:=28) [0,0,2,0,0] (k:=A0p [(166,true)] Tryz.func13 (fun hc=>genNil_ _ _) (D5 (E':=[⟨2,[],.bool true⟩]) [0,2,0,0,0,2,0,0,0,2,0] [2] (k:=A1 (C8 (G8 (fun w h=>(Sat.dropApp (Sat.dropApp (Sat.dropApp (Sat.dropApp (Sat.dropApp (Sat.dropApp h))))))) (C5 [.tmp 2] [.bool true] (k:=?_)))))))
    exact ⟨rfl,rfl⟩
end Go.Proofs.YtdolpaagdpeagaaGreatDoor
namespace Go.Proofs.YtdolpaagdpeagaaGreatDoor
open Go Go.ChangeShapes Go.WideShapes Go.ChangeAt Go.RowKit Go.Sw Go.Vf Go.Pr
theorem add_addP (a:Addr) (i j:Nat) (h:i≤j):(a.add i).add (j - i)=a.add j:=by
  unfold Addr.add
  by_cases hm0:i=0
  · simp [hm0]
  · by_cases hj0:j - i=0
    · have:j=i:=by omega
      simp [this]
    · have:j≠0:=by omega
      simp [hm0,hj0,this]
      omega
theorem flat_len {α:Type} {f:α→List Value} {sz:Nat} (hf:∀ x,(f x).length=sz):∀ l:List α,(l.flatMap f).length=l.length * sz
  | []=>by simp
  | x::l=>by rw [List.flatMap_cons,List.length_append,hf,flat_len hf l,List.length_cons,Nat.succ_mul]; omega
theorem gather {α:Type} {W:World} {a:Addr} {f:α→List Value} {sz:Nat} {Q:α→Prop} (hf:∀ x,(f x).length=sz) {len:Nat} (each:∀ i,i<len→∃ x,Q x∧∀ j,j<sz→W.cell? ((a.add (i * sz)).add j)=(f x)[j]?) :
    ∃ l:List α,l.length=len∧(∀ x∈l,Q x)∧∀ j u,(l.flatMap f)[j]? = some u→W.cell? (a.add j)=some u:=by
  have build:∀ m,m≤len→∃ l:List α,l.length=m∧(∀ x∈l,Q x)∧∀ j u,(l.flatMap f)[j]? = some u→W.cell? (a.add j)=some u:=by
    intro m
    induction m with
    | zero=>intro _; exact ⟨[],rfl,fun _ h=>absurd h List.not_mem_nil,fun j u h=>by simp at h⟩
    | succ m ih =>
      intro hm1
      obtain ⟨l,h1,h2,h3⟩:=ih (by omega)
      obtain ⟨o,ho,hc⟩:=each m (by omega)
      have hll:(l.flatMap f).length=m * sz:=by rw [flat_len hf,h1]
      refine ⟨l++[o],by simp [h1],fun x hx=>?_,fun j u hu=>?_⟩
      · rcases List.mem_append.1 hx with hx | hx
        · exact h2 x hx
        · rw [List.mem_singleton.1 hx]; exact ho
      · rw [List.flatMap_append] at hu
        rcases Nat.lt_or_ge j (m * sz) with hlt | hge
        · rw [List.getElem?_append_left (by omega)] at hu
          exact h3 j u hu
        · rw [List.getElem?_append_right (by omega),hll] at hu
          simp only [List.flatMap_cons,List.flatMap_nil,List.append_nil] at hu
          have hj:j - m * sz<sz:=by
            rcases Nat.lt_or_ge (j - m * sz) sz with h | h
            · exact h
            · rw [List.getElem?_eq_none (by rw [hf]; exact h)] at hu; cases hu
          have h4:=hc (j - m * sz) hj
          rw [hu,add_addP a (m * sz) j hge] at h4
          exact h4
  exact build len (Nat.le_refl _)
def zC (z:SE):List Value:=[.string z.1.1,.slice z.2.1 z.1.2.size z.2.2]
theorem zC_flat:∀ l:List SE,l.flatMap zC=C1 l
  | []=>rfl
  | z::l=>by rw [List.flatMap_cons,zC_flat l]; rfl
theorem cells_file:Tryz.prog.cellsOf 34=2:=by kernel_rfl
theorem cells_files:Tryz.prog.cellsOf 35=1:=by kernel_rfl
set_option maxRecDepth 100000 in
theorem file_core {H:Type} {enc:TypeId × Value→H} {W:World} {cs:List Value} {x:DataW H × List MemPlace} {fuel:Nat} (hf:DataW.trod enc Tryz.prog W 0 (fun _=>true) true fuel 34 cs=some x) :
    ∃ z:SE,cs=zC z∧ZOk (SW W) z:=by
  obtain ⟨xs,n,rfl,rfl,hl,hx,hs⟩:=DataW.trod_struct Tryz.underlying34 hf
  have hl2:cs.length=2:=by rw [hl]; kernel_rfl
  obtain ⟨c0,c1,rfl⟩:∃ c0 c1,cs=[c0,c1]:=by
    match cs,hl2 with
    | [c0,c1],_=>exact ⟨c0,c1,rfl⟩
  have h0:DataW.trod enc Tryz.prog W 0 (fun _=>true) true n 9 ((List.drop 0 [c0,c1]).take (Tryz.prog.cellsOf 9))=xs[0]? := hs 0 _ rfl
  rw [cells_str] at h0
  have h1:DataW.trod enc Tryz.prog W 0 (fun _=>true) true n 31 ((List.drop 1 [c0,c1]).take (Tryz.prog.cellsOf 31))=xs[1]? := hs 1 _ rfl
  rw [cells_bs] at h1
  have hx2:xs.length=2:=by rw [hx]; rfl
  rw [List.getElem?_eq_getElem (by omega)] at h0 h1
  simp only [List.drop_succ_cons,List.drop_zero,List.take_succ_cons,List.take_zero] at h0 h1
  obtain ⟨path,e0,_,w0⟩:=DataW.trod_string Tryz.underlying9 h0
  obtain ⟨ba,bc,b,e1,w1,w2,w3⟩:=bytes_core h1
  injection e0 with e0 _
  injection e1 with e1 _
  subst e0 e1
  exact ⟨((path,b),(ba,bc)),rfl,w1.rd,w1.sh⟩
set_option maxRecDepth 100000 in
theorem files_core {H:Type} {enc:TypeId × Value→H} {W:World} {cs:List Value} {x:DataW H × List MemPlace} {fuel:Nat} (hf:DataW.trod enc Tryz.prog W 0 (fun _=>true) true fuel 35 cs=some x) :
    ∃ (a:Option Addr) (c:Nat) (F:List FB) (cl:List Value),cs=[.slice a F.length c]∧Rd (SW W) a cl∧FRd (SW W) F cl∧F.length≤9223372036854775807:=by
  have hml:maxLen≤9223372036854775807:=by decide
  rcases DataW.trod_slice Tryz.underlying35 hf with ⟨hcs,_⟩ | ⟨a,len,cap,elems,rest,n,rfl,hcs,_,_,hl,hm,hlen,hel,_,_⟩
  · subst hcs
    exact ⟨none,0,[],[],rfl,.inl rfl,.nil,by decide⟩
  · subst hcs
    rw [cells_file] at hel
    obtain ⟨l,h1,h2,h3⟩:=gather (W:=W) (a:=a) (f:=zC) (sz:=2) (Q:=ZOk (SW W)) (fun _=>rfl) (len:=len) fun i hi=>by
      have h:=hel i hi
      rw [List.getElem?_eq_getElem (by omega)] at h
      obtain ⟨cs,hc,ht⟩:=Option.bind_eq_some_iff.1 h
      obtain ⟨z,rfl,hz⟩:=file_core ht
      exact ⟨z,hz,(World.cells?_some hc).2.2⟩
    have hlm:(l.map Prod.fst).length=len:=by rw [List.length_map,h1]
    refine ⟨some a,cap,l.map Prod.fst,C1 l,by rw [hlm],?_,frd_z h2,by rw [hlm]; omega⟩
    rw [zC_flat] at h3
    by_cases h0:C1 l=[]
    · rw [h0]; exact .inl rfl
    · exact (rd_cells h0 h3).2
set_option maxRecDepth 100000 in
theorem open_files {H:Type} {enc:TypeId × Value→H} {W:World} {v:Value} {d:DataW H} {p:List MemPlace} {r:Reach} {b0:Nat} (hval:Value.okWide Tryz.prog W r b0 35 v) (h0:DataW.Trod enc Tryz.prog W 0 (fun _=>true) true 35 v d p) :
    ∃ (a:Option Addr) (c:Nat) (F:List FB) (cl:List Value),v=.slice a F.length c∧Rd (SW W) a cl∧FRd (SW W) F cl∧F.length≤9223372036854775807:=by
  obtain ⟨a0,len,cap,rfl⟩:=okWide_slice Tryz.underlying35 hval
  obtain ⟨fuel,hf⟩:=h0
  obtain ⟨a,c,F,cl,h1,h2⟩:=files_core hf
  exact ⟨a,c,F,cl,by simpa [Value.cells] using h1,h2⟩
abbrev LE:=List FB × (Option Addr × Nat × List Value)
def lC (x:LE):List Value:=[.slice x.2.1 x.1.length x.2.2.1]
def LOk (W:World) (x:LE):Prop:=Rd (SW W) x.2.1 x.2.2.2∧FRd (SW W) x.1 x.2.2.2∧x.1.length≤9223372036854775807
theorem flrd_l {W:World}:∀ {l:List LE},(∀ x∈l,LOk W x)→FLRd (SW W) (l.map Prod.fst) (l.flatMap lC)
  | [],_=>.nil
  | x::l,h=>by
    obtain ⟨h1,h2,_⟩:=h x List.mem_cons_self
    exact .cons h1 h2 (flrd_l fun y hy=>h y (List.mem_cons_of_mem _ hy))
set_option maxRecDepth 100000 in
theorem open_lists {H:Type} {enc:TypeId × Value→H} {W:World} {v:Value} {d:DataW H} {p:List MemPlace} {r:Reach} {b0:Nat} (hval:Value.okWide Tryz.prog W r b0 40 v) (h0:DataW.Trod enc Tryz.prog W 0 (fun _=>true) true 40 v d p) :
    ∃ (a:Option Addr) (c:Nat) (L:List (List FB)) (cl:List Value),v=.slice a L.length c∧Rd (SW W) a cl∧FLRd (SW W) L cl∧L.length≤9223372036854775807∧∀ F∈L,F.length≤9223372036854775807:=by
  obtain ⟨a0,len,cap,rfl⟩:=okWide_slice Tryz.underlying40 hval
  obtain ⟨fuel,hf⟩:=h0
  have hml:maxLen≤9223372036854775807:=by decide
  rcases DataW.trod_slice Tryz.underlying40 hf with ⟨hcs,_⟩ | ⟨a,len',cap',elems,rest,n,rfl,hcs,_,_,hl,hm,hlen,hel,_,_⟩
  · simp [Value.cells] at hcs
    obtain ⟨rfl,rfl,rfl⟩:=hcs
    exact ⟨none,0,[],[],rfl,.inl rfl,.nil,by decide,fun _ h=>absurd h List.not_mem_nil⟩
  · simp [Value.cells] at hcs
    obtain ⟨rfl,rfl,rfl⟩:=hcs
    rw [cells_files] at hel
    obtain ⟨l,h1,h2,h3⟩:=gather (W:=W) (a:=a) (f:=lC) (sz:=1) (Q:=LOk W) (fun _=>rfl) (len:=len) fun i hi=>by
      have h:=hel i hi
      rw [List.getElem?_eq_getElem (by omega)] at h
      obtain ⟨cs,hc,ht⟩:=Option.bind_eq_some_iff.1 h
      obtain ⟨a,c,F,cl,rfl,hz⟩:=files_core ht
      exact ⟨(F,(a,c,cl)),hz,(World.cells?_some hc).2.2⟩
    have hlm:(l.map Prod.fst).length=len:=by rw [List.length_map,h1]
    refine ⟨some a,cap,l.map Prod.fst,l.flatMap lC,by rw [hlm],?_,flrd_l h2,by rw [hlm]; omega,fun F hF=>?_⟩
    · by_cases h0:l.flatMap lC=[]
      · rw [h0]; exact .inl rfl
      · exact (rd_cells h0 h3).2
    · obtain ⟨x,hx,rfl⟩:=List.mem_map.1 hF
      exact (h2 x hx).2.2
theorem arr3U:Tryz.prog.underlying 23=some (.array 3 22):=by kernel_rfl
theorem arr2U:Tryz.prog.underlying 41=some (.array 2 3):=by kernel_rfl
theorem cells_u16:Tryz.prog.cellsOf 22=1:=by kernel_rfl
theorem wf_u16 {n:Int} (h:(Lit.int .u16 n).wf=true):0≤n∧n<65536:=by
  simp [Lit.wf,IntKind.min,IntKind.max,IntKind.bits,IntKind.signed] at h
  omega
set_option maxRecDepth 100000 in
theorem open_arr3 {H:Type} {enc:TypeId × Value→H} {W:World} {v:Value} {d:DataW H} {p:List MemPlace} {r:Reach} {b0:Nat} (hval:Value.okWide Tryz.prog W r b0 23 v) (h0:DataW.Trod enc Tryz.prog W 0 (fun _=>true) true 23 v d p) :
    ∃ n0 n1 n2:Nat,v=.agg #[.int .u16 ((n0:Nat):Int),.int .u16 ((n1:Nat):Int),.int .u16 ((n2:Nat):Int)]∧n0<65536∧n1<65536∧n2<65536:=by
  obtain ⟨cs,rfl,hsz,_⟩:∃ cs,v=.agg cs∧cs.size=Tryz.prog.cellsOf 23∧Row.okWide Tryz.prog W r b0 23 cs:=by
    simpa [Value.okWide,arr3U] using hval
  rw [show Tryz.prog.cellsOf 23=3 from by kernel_rfl] at hsz
  obtain ⟨l⟩:=cs
  obtain ⟨c0,c1,c2,rfl⟩:∃ c0 c1 c2,l=[c0,c1,c2]:=by
    match l,hsz with
    | [c0,c1,c2],_=>exact ⟨c0,c1,c2,rfl⟩
  obtain ⟨fuel,hf⟩:=h0
  replace hf:DataW.trod enc Tryz.prog W 0 (fun _=>true) true fuel 23 [c0,c1,c2]=some (d,p):=by simpa [Value.cells] using hf
  obtain ⟨xs,m,_,_,_,hx,hs⟩:=DataW.trod_array arr3U hf
  have one:∀ (i:Nat) (c:Value),i<3→[c0,c1,c2][i]? = some c→∃ n:Nat,c=.int .u16 ((n:Nat):Int)∧n<65536:=by
    intro i c hi hc
    have h:=hs i hi
    rw [cells_u16,List.getElem?_eq_getElem (by omega)] at h
    obtain ⟨hlt,hc⟩:=List.getElem?_eq_some_iff.1 hc
    have hd:(([c0,c1,c2]:List Value).drop (i * 1)).take 1=[c]:=by
      rw [Nat.mul_one,List.drop_eq_getElem_cons hlt,List.take_succ_cons,List.take_zero,hc]
    rw [hd] at h
    obtain ⟨z,e0,_,wz⟩:=DataW.trod_int Tryz.underlying22 h
    injection e0 with e0 _
    obtain ⟨hz0,hz1⟩:=wf_u16 wz
    exact ⟨z.toNat,by rw [e0,Int.toNat_of_nonneg hz0],by omega⟩
  obtain ⟨n0,e0,h0⟩:=one 0 c0 (by decide) rfl
  obtain ⟨n1,e1,h1⟩:=one 1 c1 (by decide) rfl
  obtain ⟨n2,e2,h2⟩:=one 2 c2 (by decide) rfl
  exact ⟨n0,n1,n2,by rw [e0,e1,e2],h0,h1,h2⟩
set_option maxRecDepth 100000 in
theorem open_arr2 {H:Type} {enc:TypeId × Value→H} {W:World} {v:Value} {d:DataW H} {p:List MemPlace} {r:Reach} {b0:Nat} (hval:Value.okWide Tryz.prog W r b0 41 v) (h0:DataW.Trod enc Tryz.prog W 0 (fun _=>true) true 41 v d p) :
    ∃ a0 a1:Int,v=.agg #[.int .i64 a0,.int .i64 a1]:=by
  obtain ⟨cs,rfl,hsz,_⟩:∃ cs,v=.agg cs∧cs.size=Tryz.prog.cellsOf 41∧Row.okWide Tryz.prog W r b0 41 cs:=by
    simpa [Value.okWide,arr2U] using hval
  rw [show Tryz.prog.cellsOf 41=2 from by kernel_rfl] at hsz
  obtain ⟨l⟩:=cs
  obtain ⟨c0,c1,rfl⟩:∃ c0 c1,l=[c0,c1]:=by
    match l,hsz with
    | [c0,c1],_=>exact ⟨c0,c1,rfl⟩
  obtain ⟨fuel,hf⟩:=h0
  replace hf:DataW.trod enc Tryz.prog W 0 (fun _=>true) true fuel 41 [c0,c1]=some (d,p):=by simpa [Value.cells] using hf
  obtain ⟨xs,m,_,_,_,hx,hs⟩:=DataW.trod_array arr2U hf
  have one:∀ (i:Nat) (c:Value),i<2→[c0,c1][i]? = some c→∃ n:Int,c=.int .i64 n:=by
    intro i c hi hc
    have h:=hs i hi
    rw [cells_int,List.getElem?_eq_getElem (by omega)] at h
    obtain ⟨hlt,hc⟩:=List.getElem?_eq_some_iff.1 hc
    have hd:(([c0,c1]:List Value).drop (i * 1)).take 1=[c]:=by
      rw [Nat.mul_one,List.drop_eq_getElem_cons hlt,List.take_succ_cons,List.take_zero,hc]
    rw [hd] at h
    obtain ⟨z,e0,_,wz⟩:=DataW.trod_int Tryz.underlying3 h
    injection e0 with e0 _
    exact ⟨z,e0⟩
  obtain ⟨n0,e0⟩:=one 0 c0 (by decide) rfl
  obtain ⟨n1,e1⟩:=one 1 c1 (by decide) rfl
  exact ⟨n0,n1,by rw [e0,e1]⟩
end Go.Proofs.YtdolpaagdpeagaaGreatDoor
namespace Go.Proofs.YtdolpaagdpeagaaGreatDoor
open Go Go.ChangeShapes Go.WideShapes Go.ChangeAt Go.RowKit Go.Sw
theorem and_tt {a b:Bool} (h:a=true) (h2:b=true):(a&&b)=true:=by rw [h,h2]; rfl
theorem cl_may:Tryz.prog.mayEnter=true:=by kernel_rfl
theorem cl_lift:Tryz.prog.liftsFinal=Rows.pressRoomsRow.lifted:=by kernel_rfl
theorem cl_make:Tryz.prog.make=some Rows.pressRoomsRow.make:=by kernel_rfl
theorem cl_heard:Tryz.prog.stopsHeard=true:=by kernel_rfl
theorem cl_keys:Tryz.prog.plainKeys=Rows.pressRoomsRow.plainKeys:=by kernel_rfl
end Go.Proofs.YtdolpaagdpeagaaGreatDoor
namespace Go.Sw
open Go.RowKit
def zb (n:Nat):ByteArray:=⟨(List.replicate n (0:UInt8)).toArray⟩
theorem A0f (n:Nat):(zb n).size=n:=by show (List.replicate n (0:UInt8)).toArray.size=n; simp
theorem zb_dl (n:Nat):(zb n).data.toList=List.replicate n 0:=by unfold zb; simp
theorem made_zb (n:Nat):madeCells #[Value.int .u8 0] n=(u8s (zb n).data.toList).toArray:=by
  rw [zb_dl]
  unfold madeCells u8s
  rw [List.map_replicate]
  refine Array.ext (by simp) fun i h1 h2=>?_
  simp
  rw [Nat.mod_one]; rfl
theorem N1 {P:Program} {ops:Array Oper} {i:Nat} {Q:D7} {n:Fr} {E:Env} {W0:World} {H:List Grp} {o:Oper} {ch:List (Nat × Bool)} {t e:TypeId} {x y:Operand} {inf:TypeInfo} {kd:IntKind} (l:Nat)
    (ho:ops[i]? = some o:=by exact rfl) (hop:o.op=.makeSlice t x y:=by exact rfl) (hx:evO E ch x=some (.int kd (l:Int)):=by kernel_rfl) (hy:evO E ch y=some (.int kd (l:Int)):=by kernel_rfl) (ht:P.underlying t=some (.slice e):=by kernel_rfl) (hi:P.info? e=some inf:=by kernel_rfl) (hz:inf.zero=some (.int .u8 0):=by kernel_rfl) (hsz:inf.size=1:=by kernel_rfl)
    (hb:inf.bytes=1:=by kernel_rfl) (hm:l≤16777216)
    (hch:D4 ops E o.guard=some ch:=by kernel_rfl) (hd:F5 n ch o.dst=true:=by kernel_rfl) (hsure:N9 E ch=true:=by kernel_rfl)
    (k:∀ b,GL false P ops (i+1) Q n (Env.put E o.dst ch (.slice (some ⟨b,0,none⟩) (zb l).size (zb l).size)) W0 ([(b,.cells (u8s (zb l).data.toList).toArray e)]::H)):GL false P ops i Q n E W0 H :=
  GL_new (f:=fun b=>.slice (some ⟨b,0,none⟩) (zb l).size (zb l).size) ho hch hd hsure (fun r hr w=>by
    rw [A0f]
    unfold execOp; simp only [hop]
    rw [hr _ _ hx,hr _ _ hy]
    have:=run_makeSlice (P:=P) w t e inf (.int .u8 0) ht hi hz kd kd (l:Int) (l:Int) (by omega) (Int.le_refl _) (by rw [hsz]; simpa using hm) (by rw [hb]; omega) (by omega)
    rw [hsz,Nat.mul_one] at this
    have e1:madeCells (Value.int .u8 0).cells ((l:Int).toNat)=(u8s (zb l).data.toList).toArray:=by rw [Int.toNat_natCast]; exact made_zb l
    simp only [Int.toNat_natCast] at this e1
    rw [e1] at this
    simp only [Sem.run_bind,this,Result.andThen_ok]
    rfl) k
end Go.Sw
namespace Go.Proofs.YtdolpaagdpeagaaGreatDoor
open Go.Sw Go.Lib Go.Vf Go.Sha Go.Pr Go.RowKit
def xB:ByteArray:=ByteArray.mk #[120]
theorem x_nm:R2 xB=true:=by decide +kernel
theorem one_s (b:ByteArray):F8 [(xB,b)]=some [(xB,b)]:=by
  unfold F8
  rw [show sortP [(xB,b)]=[(xB,b)] from rfl,if_pos (show twoP [(xB,b)]=true from x_nm)]
theorem one_ok (b:ByteArray) (hb:b.size≤100000):FOk [(xB,b)]:=fok_of (one_s b) (by simp) fun f hf=>by rw [List.mem_singleton.1 hf]; exact hb
theorem one_size (n:Int) (hn:1≤n∧n≤9) (b:ByteArray):szV (At' n [(xB,b)])+((C6 [(xB,b)]).size+(gB n++lfB).size)=b.size+70∧szV (Gv n [(xB,b)])=b.size+70:=by
  have h1:(C6 [(xB,b)]).size=67:=by
    show (R8 (xB,b)++ByteArray.empty).size=67
    rw [ByteArray.size_append,Z8]; rfl
  have h2:(gB n++lfB).size=3:=by
    have h3:(itB n).size=1:=by
      have:∀ m:Fin 10,(⟨(Lib.decDigits m.val).toArray⟩:ByteArray).size=1:=by decide +kernel
      obtain ⟨m,rfl⟩:=Int.eq_ofNat_of_zero_le (show 0≤n by omega)
      rw [it_dig (by omega)]
      exact this ⟨m,by omega⟩
    unfold gB
    rw [ByteArray.size_append,ByteArray.size_append,h3]; rfl
  have h4:szV (At' n [(xB,b)])=b.size:=by show szV [(inG n xB,b)]=_; rw [Z4]
  refine ⟨by omega,?_⟩
  rw [gv_pos (by omega),W8,W8,Z4,Z4,h4]
  show b.size+((C6 [(xB,b)]).size+(gB n++lfB).size)=_
  omega
theorem rooms_model {a b c:ByteArray} (ha:a.size<900) (hb:b.size<65536) (hc:c.size<900):∃ (e2 n2 e3:Int) (w:ByteArray) (p3:PM) (M2 M3 M4:DM),
    E8 ⟨0,[],false⟩ (K4 [-1,1] (newM 3000)) [(xB,a)]=(0,⟨1,[(xB,a)],false⟩,M2)∧E8 ⟨1,[(xB,a)],false⟩ M2 [(xB,b)]=(e2,⟨n2,[(xB,w)],false⟩,M3)∧E8 ⟨n2,[(xB,w)],false⟩ M3 [(xB,c)]=(e3,p3,M4) ∧
    Fx 201 30 M2∧Fx 461 60 M3∧ReadOk n2 [(xB,w)] M3∧V0 M3=w.size+70∧(1≤n2∧n2<98)∧((e2=0∧n2=2∧w=b)∨(e2=61∧n2=1∧w=a∧e3=0∧p3.n=2)):=by
  obtain ⟨_,v1,_,_,f1⟩:=opened 3000 (by decide)
  have sz:=one_size
  have fxl:∀ (b:ByteArray),b.size≤100000→∀ f∈[(xB,b)],(f:FB).2.size≤100000:=fun b hb f hf=>by rw [List.mem_singleton.1 hf]; exact hb
  -- the first one goes in
  have p1:=(pub_vs (p:=⟨0,[],false⟩) (by decide) (by decide) rfl v1 (by decide) (one_s a)).1 (by
    have h6:=(sz ((⟨0,[],false⟩:PM).n+1) ⟨by decide,by decide⟩ a).1
    have h7:szV (Gv (⟨0,[],false⟩:PM).n (⟨0,[],false⟩:PM).files)=0:=rfl
    rw [h7]; omega)
  have g1:=fx_pub f1 (p:=⟨0,[],false⟩) ⟨by decide,by decide⟩ (l:=[(xB,a)]) (by simp) (fxl a (by omega))
  generalize hr1:E8 ⟨0,[],false⟩ (K4 [-1,1] (newM 3000)) [(xB,a)]=r1 at p1 g1
  obtain ⟨e1,q1,M2⟩:=r1
  obtain ⟨h1,h2,v2⟩:=p1
  dsimp only at h1 h2 v2 g1
  subst h1 h2
  replace v2:Vs 3000 M2 (Gv 1 [(xB,a)]):=v2
  have s1:=(sz 1 ⟨by decide,by decide⟩ a).2
  have p2:=pub_vs (p:=⟨1,[(xB,a)],false⟩) (by show (0:Int)≤1; decide) (by show (1:Int)<1000000000; decide) rfl v2 (by show ((szV (Gv 1 [(xB,a)]):Nat):Int)≤3000; omega) (one_s b)
  have g2:=fx_pub g1 (p:=⟨1,[(xB,a)],false⟩) ⟨by show (0:Int)≤1; decide,by show (1:Int)<98; decide⟩ (l:=[(xB,b)]) (by simp) (fxl b (by omega))
  generalize hr2:E8 ⟨1,[(xB,a)],false⟩ M2 [(xB,b)]=r2 at p2 g2
  obtain ⟨e2,q2,M3⟩:=r2
  dsimp only at p2 g2
  obtain ⟨y2,n2⟩:=p2
  generalize hfit:(szV (Gv 1 [(xB,a)])+(szV (At' (1+1) [(xB,b)])+((C6 [(xB,b)]).size+(gB (1+1)++lfB).size)):Nat)=fit at y2 n2
  by_cases hf:(fit:Int)≤3000
  · obtain ⟨h1,h2,v3⟩:=y2 hf
    subst h1 h2
    replace v3:Vs 3000 M3 (Gv 2 [(xB,b)]):=v3
    exact ⟨0,2,_,b,_,M2,M3,_,rfl,hr2,rfl,g1,g2,gv_ok (by decide) v3 (one_ok b (by omega)),by rw [v3.used]; exact (sz 2 ⟨by decide,by decide⟩ b).2,⟨by decide,by decide⟩,.inl ⟨rfl,rfl,rfl⟩⟩
  · obtain ⟨h1,h2,v3⟩:=n2 hf
    subst h1 h2
    replace v3:Vs 3000 M3 (Gv 1 [(xB,a)]):=v3
    have p3:=(pub_vs (p:=⟨1,[(xB,a)],false⟩) (by show (0:Int)≤1; decide) (by show (1:Int)<1000000000; decide) rfl v3 (by show ((szV (Gv 1 [(xB,a)]):Nat):Int)≤3000; omega) (one_s c)).1 (by
      have h6:=(sz ((⟨1,[(xB,a)],false⟩:PM).n+1) ⟨by show (1:Int)≤1+1; decide,by show (1:Int)+1≤9; decide⟩ c).1
      have h7:szV (Gv (⟨1,[(xB,a)],false⟩:PM).n (⟨1,[(xB,a)],false⟩:PM).files)=a.size+70:=s1
      rw [h7]; omega)
    exact ⟨61,1,_,a,_,M2,M3,_,rfl,hr2,rfl,g1,g2,gv_ok (by decide) v3 (one_ok a (by omega)),by rw [v3.used]; exact s1,⟨by decide,by decide⟩,.inr ⟨rfl,rfl,rfl,p3.1,congrArg PM.n p3.2.1⟩⟩
theorem frd1 {S:Nat→Obj→Prop} {b:ByteArray} {cs:List Value} (h:FRd S [(xB,b)] cs):∃ rb cb,cs[0 * 2+1]? = some (.slice rb b.size cb)∧Rd S rb (u8s b.data.toList)∧Sh rb b.size cb:=by
  cases h with
  | cons a1 a2 a3=>exact ⟨_,_,rfl,a1,a2⟩
theorem files_one {b1 b2:Nat} {b:ByteArray} {t t2:TypeId}:FilesIn [[(b1,.cells #[.string (mB #[120]),.slice (some ⟨b2,0,none⟩) b.size b.size] t (0,0))],[(b2,.cells (u8s b.data.toList).toArray t2)]] [(xB,b)] (some ⟨b1,0,none⟩) [.string (mB #[120]),.slice (some ⟨b2,0,none⟩) b.size b.size] :=
  ⟨Rd.mono Rd.lit fun b o h=>(by simp only [inZ,Go.Sw.inG,List.flatten_cons,List.mem_append] at h ⊢; exact .inl h),
    .cons (f:=(xB,b)) (Rd.mono Rd.lit fun b o h=>(by simp only [inZ,Go.Sw.inG,List.flatten_cons,List.flatten_nil,List.mem_append] at h ⊢; exact .inr (.inl h))) (.inr (.inr ⟨_,_,rfl⟩)) .nil⟩
theorem rooms_ (n0 n1 n2:Nat) (_:n0<65536) (h1:n1<65536) (_:n2<65536) (W0:World) (H:List Grp):Tri Tryz.prog 3 #[.agg #[.int .u16 ((n0:Nat):Int),.int .u16 ((n1:Nat):Int),.int .u16 ((n2:Nat):Int)]] W0 H (fun v H'=>v=.bool true∧H'=H):=by
 obtain ⟨ho1,ho2,ho3,ho4,ho5⟩:=opened 3000 (by decide)
 obtain ⟨e2,m2,e3,wd,p3,M2,M3,M4,hm1,hm2,hm3,hx2,hx3,hrd,hus,hmn,hcs⟩:=rooms_model (a:=zb (n0 % 900)) (b:=zb n1) (c:=zb (n2 % 900)) (by rw [A0f]; omega) (by rw [A0f]; omega) (by rw [A0f]; omega)
 have hwB:IntKind.wrap .i64 (IntKind.wrap .i64 ((n1:Int)+67)+3)=(n1:Int)+70:=by rw [w64 (x:=(n1:Int)+67) (by omega) (by omega),w64 (x:=(n1:Int)+67+3) (by omega) (by omega)]; omega
 have hwA:IntKind.wrap .i64 (IntKind.wrap .i64 ((n0:Int) % 900+67)+3)=(n0:Int) % 900+70:=by rw [w64 (x:=(n0:Int) % 900+67) (by omega) (by omega),w64 (x:=(n0:Int) % 900+67+3) (by omega) (by omega)]; omega
 refine D6 124 Tryz.func3 ?_
 refine A2 (A3 (O9 (.agg #[.int .u16 ((n0:Nat):Int),.int .u16 ((n1:Nat):Int),.int .u16 ((n2:Nat):Int)]) (fun b1=>D5 (E':=[⟨1,[],pt b1⟩]) [0] [1] (k:=A1 (A2 (A2 (A3 (G1 Tryz.func7 (first_ _ _) ?_))))))))
 refine D5 (E':=[⟨1,[],pt b1⟩,⟨17,[],.bool false⟩]) [0] [1,17] (k:=A1 (D9 kr (B6 (A1 (A2 (A3 (Z0 (H':=([(b1,.cells #[.int .u16 ((n0:Nat):Int),.int .u16 ((n1:Nat):Int),.int .u16 ((n2:Nat):Int)] 23 (0,0))]::H)) kr (E4 (vs:=[.int .i64 3000]) Tryz.func8 (Tri.heap (fun _ hw=>A8 hw fun _ x=>by simp only [List.flatten_append,List.flatten_cons,List.flatten_nil,List.count_append,List.append_nil] <;> omega) (cNewP 3000 rfl _ ([[(b1,.cells #[.int .u16 ((n0:Nat):Int),.int .u16 ((n1:Nat):Int),.int .u16 ((n2:Nat):Int)] 23 (0,0))]]++H))) ?_))))))))
 rintro _ _ ⟨d2,GD3,rfl,hd4,rfl⟩
 refine E0 rfl (H':=([(b1,.cells #[.int .u16 ((n0:Nat):Int),.int .u16 ((n1:Nat):Int),.int .u16 ((n2:Nat):Int)] 23 (0,0))]::(GD3++H))) (fun w h=>A8 h fun _ x=>by simp only [List.flatten_append,List.flatten_cons,List.flatten_nil,List.count_append,List.append_nil] <;> omega) (D5 (E':=[⟨1,[],pt b1⟩,⟨3,[],pt d2⟩]) [0] [1,3] (k:=A1 (A2 (A3 (A5 (j:=1) [0] (k:=E4 (vs:=[pt d2]) Tryz.func9 (Tri.heap (fun _ hw=>A8 hw fun _ x=>by simp only [List.flatten_append,List.flatten_cons,List.flatten_nil,List.count_append,List.append_nil] <;> omega) (cOpen0 hd4 (fx_new 3000) _ ([[(b1,.cells #[.int .u16 ((n0:Nat):Int),.int .u16 ((n1:Nat):Int),.int .u16 ((n2:Nat):Int)] 23 (0,0))]]++H) (by omega) (by omega) ho1)) ?_))))))
 rintro _ _ ⟨pb5,GD6,GP7,rfl,hd8,hp9,rfl⟩
 refine E0 rfl (H':=([(b1,.cells #[.int .u16 ((n0:Nat):Int),.int .u16 ((n1:Nat):Int),.int .u16 ((n2:Nat):Int)] 23 (0,0))]::(GD6++(GP7++H)))) (fun w h=>A8 h fun _ x=>by simp only [List.flatten_append,List.flatten_cons,List.flatten_nil,List.count_append,List.append_nil] <;> omega) (B5 [0,0,0,0,0] [1,3,4] (k:=A1 (A2 (G_join (T:=Nat × Nat × Nat) (fun ξ:Nat × Nat × Nat=>[⟨3,[],pt d2⟩,⟨4,[],pt pb5⟩,⟨6,[],.slice (some ⟨ξ.1,0,none⟩) ((zb (n0 % 900)).size) ((zb (n0 % 900)).size)⟩,⟨7,[],.slice (some ⟨ξ.2.1,0,none⟩) ((zb n1).size) ((zb n1).size)⟩,⟨8,[],.slice (some ⟨ξ.2.2,0,none⟩) ((zb (n2 % 900)).size) ((zb (n2 % 900)).size)⟩]) (fun ξ:Nat × Nat × Nat=>([(ξ.1,.cells (u8s (zb (n0 % 900)).data.toList).toArray 5)]::[(ξ.2.1,.cells (u8s (zb n1).data.toList).toArray 5)]::[(ξ.2.2,.cells (u8s (zb (n2 % 900)).data.toList).toArray 5)]::[(b1,.cells #[.int .u16 ((n0:Nat):Int),.int .u16 ((n1:Nat):Int),.int .u16 ((n2:Nat):Int)] 23 (0,0))]::(GD6++(GP7++H)))) (fun ξ:Nat × Nat × Nat=>True) ?_ ?_))))
 ·
  refine F4 ([(b1,.cells #[.int .u16 ((n0:Nat):Int),.int .u16 ((n1:Nat):Int),.int .u16 ((n2:Nat):Int)] 23 (0,0))]::(GD6++(GP7++H))) kr (A9 0 (hL:=(fun w h=>h)) (hy:=C7 (i:=0) (ch:=[]) (b:=b1) (off:=0) (len:=3) (sz:=1) (e:=22) (kd:=.i64) (j:=0) (hb:=(fun _=>⟨by decide,by decide⟩)) (k:=B4 kr rfl)) (k:=A9 1 kr (fun w h=>h) (D0 0 0 rfl rfl (B4 kr rfl)) (GH_pure (E':=[⟨26,[],.int .u16 (Int.tmod ((n0:Nat):Int) 900)⟩,⟨1,[],pt b1⟩,⟨3,[],pt d2⟩,⟨4,[],pt pb5⟩]) 2 0 kr (fun w h=>h) kr (GH_env (E':=[⟨26,[],.int .u16 ((n0 % 900:Nat):Int)⟩,⟨1,[],pt b1⟩,⟨3,[],pt d2⟩,⟨4,[],pt pb5⟩]) (by rw [show Int.tmod ((n0:Nat):Int) 900=((n0 % 900:Nat):Int) from (Int.ofNat_tmod n0 900).symm]) (A9 4 (hL:=(fun w h=>h)) (hy:=C7 (i:=4) (ch:=[]) (b:=b1) (off:=0) (len:=3) (sz:=1) (e:=22) (kd:=.i64) (j:=1) (hb:=(fun _=>⟨by decide,by decide⟩)) (k:=B4 kr rfl)) (k:=A9 5 kr (fun w h=>h) (D0 0 1 rfl rfl (B4 kr rfl)) (A9 7 (hL:=(fun w h=>h)) (hy:=C7 (i:=7) (ch:=[]) (b:=b1) (off:=0) (len:=3) (sz:=1) (e:=22) (kd:=.i64) (j:=2) (hb:=(fun _=>⟨by decide,by decide⟩)) (k:=B4 kr rfl)) (k:=A9 8 kr (fun w h=>h) (D0 0 2 rfl rfl (B4 kr rfl)) ?_))))))))
  refine GH_pure (E':=[⟨33,[],.int .u16 (Int.tmod ((n2:Nat):Int) 900)⟩,⟨29,[],.int .u16 ((n1:Nat):Int)⟩,⟨26,[],.int .u16 ((n0 % 900:Nat):Int)⟩,⟨3,[],pt d2⟩,⟨4,[],pt pb5⟩]) 9 0 kr (fun w h=>h) kr (GH_env (E':=[⟨33,[],.int .u16 ((n2 % 900:Nat):Int)⟩,⟨29,[],.int .u16 ((n1:Nat):Int)⟩,⟨26,[],.int .u16 ((n0 % 900:Nat):Int)⟩,⟨3,[],pt d2⟩,⟨4,[],pt pb5⟩]) (by rw [show Int.tmod ((n2:Nat):Int) 900=((n2 % 900:Nat):Int) from (Int.ofNat_tmod n2 900).symm]) (GH_eff3 3 6 10 (k:=?_) (k':=?_) (k2:=?_)))
  ·
   refine N1 (ch:=[]) (t:=31) (e:=5) (inf:=Tryz.t5) (kd:=.u16) (n0 % 900) (hm:=(by omega)) (k:=(fun b10=>A7 kr (fun w h=>(h.pk 1 [1])) (I0 ([(b10,.cells (u8s (zb (n0 % 900)).data.toList).toArray 5)]::[(b1,.cells #[.int .u16 ((n0:Nat):Int),.int .u16 ((n1:Nat):Int),.int .u16 ((n2:Nat):Int)] 23 (0,0))]::(GD6++(GP7++H))) (fun w h=>(h.pk 1 [1])) (E2 (fuel:=4) [(11,0)] (fun w h=>h) (k:=P4 6 10 (k:=?_) (k':=?_))))))
   ·
    refine N1 (ch:=[]) (t:=31) (e:=5) (inf:=Tryz.t5) (kd:=.u16) n1 (hm:=(by omega)) (k:=(fun b11=>A7 kr (fun w h=>(h.pk 1 [1,1])) (I0 ([(b11,.cells (u8s (zb n1).data.toList).toArray 5)]::[(b10,.cells (u8s (zb (n0 % 900)).data.toList).toArray 5)]::[(b1,.cells #[.int .u16 ((n0:Nat):Int),.int .u16 ((n1:Nat):Int),.int .u16 ((n2:Nat):Int)] 23 (0,0))]::(GD6++(GP7++H))) (fun w h=>(h.pk 1 [1,1])) (E2 (fuel:=2) [(12,0)] (fun w h=>h) (k:=C2 10 (k:=N1 (ch:=[]) (t:=31) (e:=5) (inf:=Tryz.t5) (kd:=.u16) (n2 % 900) (hm:=(by omega)) (k:=(fun b12=>A7 kr (fun w h=>(h.pk 1 [1,1,1])) (I0 ([(b12,.cells (u8s (zb (n2 % 900)).data.toList).toArray 5)]::[(b11,.cells (u8s (zb n1).data.toList).toArray 5)]::[(b10,.cells (u8s (zb (n0 % 900)).data.toList).toArray 5)]::[(b1,.cells #[.int .u16 ((n0:Nat):Int),.int .u16 ((n1:Nat):Int),.int .u16 ((n2:Nat):Int)] 23 (0,0))]::(GD6++(GP7++H))) (fun w h=>(h.pk 1 [1,1,1])) (E2 (fuel:=0) [(13,0)] (fun w h=>h) (k:=?_)))))))))))
    refine D8 (E':=[⟨3,[],pt d2⟩,⟨4,[],pt pb5⟩,⟨6,[],.slice (some ⟨b10,0,none⟩) ((zb (n0 % 900)).size) ((zb (n0 % 900)).size)⟩,⟨7,[],.slice (some ⟨b11,0,none⟩) ((zb n1).size) ((zb n1).size)⟩,⟨8,[],.slice (some ⟨b12,0,none⟩) ((zb (n2 % 900)).size) ((zb (n2 % 900)).size)⟩]) [3,4,6,7,8] (k:=T4 (b10,b11,b12) [3,4,6,7,8] kr (fun w h=>h.pkT 0 [2,1,0,0]) trivial)
   ·
    refine N1 (ch:=[]) (t:=31) (e:=5) (inf:=Tryz.t5) (kd:=.u16) (n2 % 900) (hm:=(by omega)) (k:=(fun b13=>A7 kr (fun w h=>(h.pk 1 [1,1])) (I0 ([(b13,.cells (u8s (zb (n2 % 900)).data.toList).toArray 5)]::[(b10,.cells (u8s (zb (n0 % 900)).data.toList).toArray 5)]::[(b1,.cells #[.int .u16 ((n0:Nat):Int),.int .u16 ((n1:Nat):Int),.int .u16 ((n2:Nat):Int)] 23 (0,0))]::(GD6++(GP7++H))) (fun w h=>(h.pk 1 [1,1])) (C2 6 (k:=N1 (ch:=[]) (t:=31) (e:=5) (inf:=Tryz.t5) (kd:=.u16) n1 (hm:=(by omega)) (k:=(fun b14=>A7 kr (fun w h=>(h.pk 1 [1,1,1])) (I0 ([(b14,.cells (u8s (zb n1).data.toList).toArray 5)]::[(b13,.cells (u8s (zb (n2 % 900)).data.toList).toArray 5)]::[(b10,.cells (u8s (zb (n0 % 900)).data.toList).toArray 5)]::[(b1,.cells #[.int .u16 ((n0:Nat):Int),.int .u16 ((n1:Nat):Int),.int .u16 ((n2:Nat):Int)] 23 (0,0))]::(GD6++(GP7++H))) (fun w h=>(h.pk 1 [1,1,1])) (E2 (fuel:=0) [(12,0),(13,0)] (fun w h=>h) (k:=D8 (E':=[⟨3,[],pt d2⟩,⟨4,[],pt pb5⟩,⟨6,[],.slice (some ⟨b10,0,none⟩) ((zb (n0 % 900)).size) ((zb (n0 % 900)).size)⟩,⟨7,[],.slice (some ⟨b14,0,none⟩) ((zb n1).size) ((zb n1).size)⟩,⟨8,[],.slice (some ⟨b13,0,none⟩) ((zb (n2 % 900)).size) ((zb (n2 % 900)).size)⟩]) [3,4,6,7,8] (k:=?_)))))))))))
    refine T4 (b10,b14,b13) [3,4,6,7,8] kr (fun w h=>h.pkT 0 [2,0,0,0]) trivial
  ·
   refine N1 (ch:=[]) (t:=31) (e:=5) (inf:=Tryz.t5) (kd:=.u16) n1 (hm:=(by omega)) (k:=(fun b15=>A7 kr (fun w h=>(h.pk 1 [1])) (I0 ([(b15,.cells (u8s (zb n1).data.toList).toArray 5)]::[(b1,.cells #[.int .u16 ((n0:Nat):Int),.int .u16 ((n1:Nat):Int),.int .u16 ((n2:Nat):Int)] 23 (0,0))]::(GD6++(GP7++H))) (fun w h=>(h.pk 1 [1])) (P4 3 10 (k:=?_) (k':=?_)))))
   ·
    refine N1 (ch:=[]) (t:=31) (e:=5) (inf:=Tryz.t5) (kd:=.u16) (n0 % 900) (hm:=(by omega)) (k:=(fun b16=>A7 kr (fun w h=>(h.pk 1 [1,1])) (I0 ([(b16,.cells (u8s (zb (n0 % 900)).data.toList).toArray 5)]::[(b15,.cells (u8s (zb n1).data.toList).toArray 5)]::[(b1,.cells #[.int .u16 ((n0:Nat):Int),.int .u16 ((n1:Nat):Int),.int .u16 ((n2:Nat):Int)] 23 (0,0))]::(GD6++(GP7++H))) (fun w h=>(h.pk 1 [1,1])) (E2 (fuel:=2) [(11,0),(12,0)] (fun w h=>h) (k:=C2 10 (k:=N1 (ch:=[]) (t:=31) (e:=5) (inf:=Tryz.t5) (kd:=.u16) (n2 % 900) (hm:=(by omega)) (k:=(fun b17=>A7 kr (fun w h=>(h.pk 1 [1,1,1])) (I0 ([(b17,.cells (u8s (zb (n2 % 900)).data.toList).toArray 5)]::[(b16,.cells (u8s (zb (n0 % 900)).data.toList).toArray 5)]::[(b15,.cells (u8s (zb n1).data.toList).toArray 5)]::[(b1,.cells #[.int .u16 ((n0:Nat):Int),.int .u16 ((n1:Nat):Int),.int .u16 ((n2:Nat):Int)] 23 (0,0))]::(GD6++(GP7++H))) (fun w h=>(h.pk 1 [1,1,1])) (E2 (fuel:=0) [(13,0)] (fun w h=>h) (k:=?_)))))))))))
    refine D8 (E':=[⟨3,[],pt d2⟩,⟨4,[],pt pb5⟩,⟨6,[],.slice (some ⟨b16,0,none⟩) ((zb (n0 % 900)).size) ((zb (n0 % 900)).size)⟩,⟨7,[],.slice (some ⟨b15,0,none⟩) ((zb n1).size) ((zb n1).size)⟩,⟨8,[],.slice (some ⟨b17,0,none⟩) ((zb (n2 % 900)).size) ((zb (n2 % 900)).size)⟩]) [3,4,6,7,8] (k:=T4 (b16,b15,b17) [3,4,6,7,8] kr (fun w h=>h.pkT 0 [1,1,0,0]) trivial)
   ·
    refine N1 (ch:=[]) (t:=31) (e:=5) (inf:=Tryz.t5) (kd:=.u16) (n2 % 900) (hm:=(by omega)) (k:=(fun b18=>A7 kr (fun w h=>(h.pk 1 [1,1])) (I0 ([(b18,.cells (u8s (zb (n2 % 900)).data.toList).toArray 5)]::[(b15,.cells (u8s (zb n1).data.toList).toArray 5)]::[(b1,.cells #[.int .u16 ((n0:Nat):Int),.int .u16 ((n1:Nat):Int),.int .u16 ((n2:Nat):Int)] 23 (0,0))]::(GD6++(GP7++H))) (fun w h=>(h.pk 1 [1,1])) (C2 3 (k:=N1 (ch:=[]) (t:=31) (e:=5) (inf:=Tryz.t5) (kd:=.u16) (n0 % 900) (hm:=(by omega)) (k:=(fun b19=>A7 kr (fun w h=>(h.pk 1 [1,1,1])) (I0 ([(b19,.cells (u8s (zb (n0 % 900)).data.toList).toArray 5)]::[(b18,.cells (u8s (zb (n2 % 900)).data.toList).toArray 5)]::[(b15,.cells (u8s (zb n1).data.toList).toArray 5)]::[(b1,.cells #[.int .u16 ((n0:Nat):Int),.int .u16 ((n1:Nat):Int),.int .u16 ((n2:Nat):Int)] 23 (0,0))]::(GD6++(GP7++H))) (fun w h=>(h.pk 1 [1,1,1])) (E2 (fuel:=0) [(11,0),(12,0),(13,0)] (fun w h=>h) (k:=D8 (E':=[⟨3,[],pt d2⟩,⟨4,[],pt pb5⟩,⟨6,[],.slice (some ⟨b19,0,none⟩) ((zb (n0 % 900)).size) ((zb (n0 % 900)).size)⟩,⟨7,[],.slice (some ⟨b15,0,none⟩) ((zb n1).size) ((zb n1).size)⟩,⟨8,[],.slice (some ⟨b18,0,none⟩) ((zb (n2 % 900)).size) ((zb (n2 % 900)).size)⟩]) [3,4,6,7,8] (k:=?_)))))))))))
    refine T4 (b19,b15,b18) [3,4,6,7,8] kr (fun w h=>h.pkT 0 [0,1,0,0]) trivial
  ·
   refine N1 (ch:=[]) (t:=31) (e:=5) (inf:=Tryz.t5) (kd:=.u16) (n2 % 900) (hm:=(by omega)) (k:=(fun b20=>A7 kr (fun w h=>(h.pk 1 [1])) (I0 ([(b20,.cells (u8s (zb (n2 % 900)).data.toList).toArray 5)]::[(b1,.cells #[.int .u16 ((n0:Nat):Int),.int .u16 ((n1:Nat):Int),.int .u16 ((n2:Nat):Int)] 23 (0,0))]::(GD6++(GP7++H))) (fun w h=>(h.pk 1 [1])) (P4 3 6 (k:=?_) (k':=?_)))))
   ·
    refine N1 (ch:=[]) (t:=31) (e:=5) (inf:=Tryz.t5) (kd:=.u16) (n0 % 900) (hm:=(by omega)) (k:=(fun b21=>A7 kr (fun w h=>(h.pk 1 [1,1])) (I0 ([(b21,.cells (u8s (zb (n0 % 900)).data.toList).toArray 5)]::[(b20,.cells (u8s (zb (n2 % 900)).data.toList).toArray 5)]::[(b1,.cells #[.int .u16 ((n0:Nat):Int),.int .u16 ((n1:Nat):Int),.int .u16 ((n2:Nat):Int)] 23 (0,0))]::(GD6++(GP7++H))) (fun w h=>(h.pk 1 [1,1])) (E2 (fuel:=3) [(11,0)] (fun w h=>h) (k:=C2 6 (k:=N1 (ch:=[]) (t:=31) (e:=5) (inf:=Tryz.t5) (kd:=.u16) n1 (hm:=(by omega)) (k:=(fun b22=>A7 kr (fun w h=>(h.pk 1 [1,1,1])) (I0 ([(b22,.cells (u8s (zb n1).data.toList).toArray 5)]::[(b21,.cells (u8s (zb (n0 % 900)).data.toList).toArray 5)]::[(b20,.cells (u8s (zb (n2 % 900)).data.toList).toArray 5)]::[(b1,.cells #[.int .u16 ((n0:Nat):Int),.int .u16 ((n1:Nat):Int),.int .u16 ((n2:Nat):Int)] 23 (0,0))]::(GD6++(GP7++H))) (fun w h=>(h.pk 1 [1,1,1])) (E2 (fuel:=0) [(12,0),(13,0)] (fun w h=>h) (k:=?_)))))))))))
    refine D8 (E':=[⟨3,[],pt d2⟩,⟨4,[],pt pb5⟩,⟨6,[],.slice (some ⟨b21,0,none⟩) ((zb (n0 % 900)).size) ((zb (n0 % 900)).size)⟩,⟨7,[],.slice (some ⟨b22,0,none⟩) ((zb n1).size) ((zb n1).size)⟩,⟨8,[],.slice (some ⟨b20,0,none⟩) ((zb (n2 % 900)).size) ((zb (n2 % 900)).size)⟩]) [3,4,6,7,8] (k:=T4 (b21,b22,b20) [3,4,6,7,8] kr (fun w h=>h.pkT 0 [1,0,0,0]) trivial)
   ·
    refine N1 (ch:=[]) (t:=31) (e:=5) (inf:=Tryz.t5) (kd:=.u16) n1 (hm:=(by omega)) (k:=(fun b23=>A7 kr (fun w h=>(h.pk 1 [1,1])) (I0 ([(b23,.cells (u8s (zb n1).data.toList).toArray 5)]::[(b20,.cells (u8s (zb (n2 % 900)).data.toList).toArray 5)]::[(b1,.cells #[.int .u16 ((n0:Nat):Int),.int .u16 ((n1:Nat):Int),.int .u16 ((n2:Nat):Int)] 23 (0,0))]::(GD6++(GP7++H))) (fun w h=>(h.pk 1 [1,1])) (C2 3 (k:=N1 (ch:=[]) (t:=31) (e:=5) (inf:=Tryz.t5) (kd:=.u16) (n0 % 900) (hm:=(by omega)) (k:=(fun b24=>A7 kr (fun w h=>(h.pk 1 [1,1,1])) (I0 ([(b24,.cells (u8s (zb (n0 % 900)).data.toList).toArray 5)]::[(b23,.cells (u8s (zb n1).data.toList).toArray 5)]::[(b20,.cells (u8s (zb (n2 % 900)).data.toList).toArray 5)]::[(b1,.cells #[.int .u16 ((n0:Nat):Int),.int .u16 ((n1:Nat):Int),.int .u16 ((n2:Nat):Int)] 23 (0,0))]::(GD6++(GP7++H))) (fun w h=>(h.pk 1 [1,1,1])) (E2 (fuel:=0) [(11,0),(12,0),(13,0)] (fun w h=>h) (k:=D8 (E':=[⟨3,[],pt d2⟩,⟨4,[],pt pb5⟩,⟨6,[],.slice (some ⟨b24,0,none⟩) ((zb (n0 % 900)).size) ((zb (n0 % 900)).size)⟩,⟨7,[],.slice (some ⟨b23,0,none⟩) ((zb n1).size) ((zb n1).size)⟩,⟨8,[],.slice (some ⟨b20,0,none⟩) ((zb (n2 % 900)).size) ((zb (n2 % 900)).size)⟩]) [3,4,6,7,8] (k:=?_)))))))))))
    refine T4 (b24,b23,b20) [3,4,6,7,8] kr (fun w h=>h) trivial
 ·
  rintro ⟨ka,kb,kc⟩ _
  refine A1 (A2 (A3 (A5 (j:=3) [0,0,0] (k:=N2 34 1 [.string (mB #[120]),.slice (some ⟨ka,0,none⟩) ((zb (n0 % 900)).size) ((zb (n0 % 900)).size)] (fun b25=>Z0 (H':=([(b25,.cells #[.string (mB #[120]),.slice (some ⟨ka,0,none⟩) ((zb (n0 % 900)).size) ((zb (n0 % 900)).size)] 34 (0,0))]::[(ka,.cells (u8s (zb (n0 % 900)).data.toList).toArray 5)]::[(kb,.cells (u8s (zb n1).data.toList).toArray 5)]::[(kc,.cells (u8s (zb (n2 % 900)).data.toList).toArray 5)]::[(b1,.cells #[.int .u16 ((n0:Nat):Int),.int .u16 ((n1:Nat):Int),.int .u16 ((n2:Nat):Int)] 23 (0,0))]::(GD6++(GP7++H)))) kr ?_)))))
  have hfa1:FilesIn [[(b25,.cells #[.string (mB #[120]),.slice (some ⟨ka,0,none⟩) ((zb (n0 % 900)).size) ((zb (n0 % 900)).size)] 34 (0,0))],[(ka,.cells (u8s (zb (n0 % 900)).data.toList).toArray 5)]] [(xB,zb (n0 % 900))] (some ⟨b25,0,none⟩) [.string (mB #[120]),.slice (some ⟨ka,0,none⟩) ((zb (n0 % 900)).size) ((zb (n0 % 900)).size)]:=files_one
  refine E4 (vs:=[pt pb5,.slice (some ⟨b25,0,none⟩) 1 1]) Tryz.func10 (Tri.heap (fun _ hw=>A8 hw fun _ x=>by simp only [List.flatten_append,List.flatten_cons,List.flatten_nil,List.count_append,List.append_nil] <;> omega) (cPub hd8 ho5 _ ([[(b25,.cells #[.string (mB #[120]),.slice (some ⟨ka,0,none⟩) ((zb (n0 % 900)).size) ((zb (n0 % 900)).size)] 34 (0,0))],[(ka,.cells (u8s (zb (n0 % 900)).data.toList).toArray 5)],[(kb,.cells (u8s (zb n1).data.toList).toArray 5)],[(kc,.cells (u8s (zb (n2 % 900)).data.toList).toArray 5)],[(b1,.cells #[.int .u16 ((n0:Nat):Int),.int .u16 ((n1:Nat):Int),.int .u16 ((n2:Nat):Int)] 23 (0,0))]]++H) hp9 (by omega) (by omega) ⟨by decide,by decide⟩ 1 (hfa1.arg (fun p hp=>by simp only [List.flatten_append,List.flatten_cons,List.flatten_nil,List.mem_append] at hp ⊢; rcases hp with hp | hp | hp <;> first | exact absurd hp List.not_mem_nil | simp only [hp,true_or,or_true])) (by show 1≤20; decide) (fun f hf=>by rw [List.mem_singleton.1 hf]; show 1≤1000000; decide) (fun f hf=>by rw [List.mem_singleton.1 hf]; show (zb (n0 % 900)).size≤_; rw [A0f]; omega) hm1)) ?_
  rintro _ _ ⟨GD26,GP27,rfl,hd28,hp29,rfl⟩
  refine E0 rfl (H':=([(b25,.cells #[.string (mB #[120]),.slice (some ⟨ka,0,none⟩) ((zb (n0 % 900)).size) ((zb (n0 % 900)).size)] 34 (0,0))]::[(ka,.cells (u8s (zb (n0 % 900)).data.toList).toArray 5)]::[(kb,.cells (u8s (zb n1).data.toList).toArray 5)]::[(kc,.cells (u8s (zb (n2 % 900)).data.toList).toArray 5)]::[(b1,.cells #[.int .u16 ((n0:Nat):Int),.int .u16 ((n1:Nat):Int),.int .u16 ((n2:Nat):Int)] 23 (0,0))]::(GD26++(GP27++H)))) (fun w h=>A8 h fun _ x=>by simp only [List.flatten_append,List.flatten_cons,List.flatten_nil,List.count_append,List.append_nil] <;> omega) (B5 [0] [3,4,6,7,8,9] (k:=A1 (A2 (A3 (A5 (j:=3) [0,0,0] (k:=N2 34 1 [.string (mB #[120]),.slice (some ⟨kb,0,none⟩) ((zb n1).size) ((zb n1).size)] (fun b30=>Z0 (H':=([(b30,.cells #[.string (mB #[120]),.slice (some ⟨kb,0,none⟩) ((zb n1).size) ((zb n1).size)] 34 (0,0))]::[(b25,.cells #[.string (mB #[120]),.slice (some ⟨ka,0,none⟩) ((zb (n0 % 900)).size) ((zb (n0 % 900)).size)] 34 (0,0))]::[(ka,.cells (u8s (zb (n0 % 900)).data.toList).toArray 5)]::[(kb,.cells (u8s (zb n1).data.toList).toArray 5)]::[(kc,.cells (u8s (zb (n2 % 900)).data.toList).toArray 5)]::[(b1,.cells #[.int .u16 ((n0:Nat):Int),.int .u16 ((n1:Nat):Int),.int .u16 ((n2:Nat):Int)] 23 (0,0))]::(GD26++(GP27++H)))) kr ?_)))))))
  have hfa2:FilesIn [[(b30,.cells #[.string (mB #[120]),.slice (some ⟨kb,0,none⟩) ((zb n1).size) ((zb n1).size)] 34 (0,0))],[(kb,.cells (u8s (zb n1).data.toList).toArray 5)]] [(xB,zb n1)] (some ⟨b30,0,none⟩) [.string (mB #[120]),.slice (some ⟨kb,0,none⟩) ((zb n1).size) ((zb n1).size)]:=files_one
  refine E4 (vs:=[pt pb5,.slice (some ⟨b30,0,none⟩) 1 1]) Tryz.func10 (Tri.heap (fun _ hw=>A8 hw fun _ x=>by simp only [List.flatten_append,List.flatten_cons,List.flatten_nil,List.count_append,List.append_nil] <;> omega) (cPub hd28 hx2 _ ([[(b30,.cells #[.string (mB #[120]),.slice (some ⟨kb,0,none⟩) ((zb n1).size) ((zb n1).size)] 34 (0,0))],[(b25,.cells #[.string (mB #[120]),.slice (some ⟨ka,0,none⟩) ((zb (n0 % 900)).size) ((zb (n0 % 900)).size)] 34 (0,0))],[(ka,.cells (u8s (zb (n0 % 900)).data.toList).toArray 5)],[(kb,.cells (u8s (zb n1).data.toList).toArray 5)],[(kc,.cells (u8s (zb (n2 % 900)).data.toList).toArray 5)],[(b1,.cells #[.int .u16 ((n0:Nat):Int),.int .u16 ((n1:Nat):Int),.int .u16 ((n2:Nat):Int)] 23 (0,0))]]++H) hp29 (by omega) (by omega) ⟨by show (0:Int)≤1; decide,by show (1:Int)<98; decide⟩ 1 (hfa2.arg (fun p hp=>by simp only [List.flatten_append,List.flatten_cons,List.flatten_nil,List.mem_append] at hp ⊢; rcases hp with hp | hp | hp <;> first | exact absurd hp List.not_mem_nil | simp only [hp,true_or,or_true])) (by show 1≤20; decide) (fun f hf=>by rw [List.mem_singleton.1 hf]; show 1≤1000000; decide) (fun f hf=>by rw [List.mem_singleton.1 hf]; show (zb n1).size≤_; rw [A0f]; omega) hm2)) ?_
  rintro _ _ ⟨GD31,GP32,rfl,hd33,hp34,rfl⟩
  refine E0 rfl (H':=([(b30,.cells #[.string (mB #[120]),.slice (some ⟨kb,0,none⟩) ((zb n1).size) ((zb n1).size)] 34 (0,0))]::[(b25,.cells #[.string (mB #[120]),.slice (some ⟨ka,0,none⟩) ((zb (n0 % 900)).size) ((zb (n0 % 900)).size)] 34 (0,0))]::[(ka,.cells (u8s (zb (n0 % 900)).data.toList).toArray 5)]::[(kb,.cells (u8s (zb n1).data.toList).toArray 5)]::[(kc,.cells (u8s (zb (n2 % 900)).data.toList).toArray 5)]::[(b1,.cells #[.int .u16 ((n0:Nat):Int),.int .u16 ((n1:Nat):Int),.int .u16 ((n2:Nat):Int)] 23 (0,0))]::(GD31++(GP32++H)))) (fun w h=>A8 h fun _ x=>by simp only [List.flatten_append,List.flatten_cons,List.flatten_nil,List.count_append,List.append_nil] <;> omega) (B5 [0] [3,4,6,7,8,9,10] (k:=A1 (A2 (A3 (A5 (j:=1) [0] (k:=E4 (vs:=[pt d2]) Tryz.func11 (Tri.heap (fun _ hw=>A8 hw fun _ x=>by simp only [List.flatten_append,List.flatten_cons,List.flatten_nil,List.count_append,List.append_nil] <;> omega) (cUsedD hd33 hx3 _ ([[(b30,.cells #[.string (mB #[120]),.slice (some ⟨kb,0,none⟩) ((zb n1).size) ((zb n1).size)] 34 (0,0))],[(b25,.cells #[.string (mB #[120]),.slice (some ⟨ka,0,none⟩) ((zb (n0 % 900)).size) ((zb (n0 % 900)).size)] 34 (0,0))],[(ka,.cells (u8s (zb (n0 % 900)).data.toList).toArray 5)],[(kb,.cells (u8s (zb n1).data.toList).toArray 5)],[(kc,.cells (u8s (zb (n2 % 900)).data.toList).toArray 5)],[(b1,.cells #[.int .u16 ((n0:Nat):Int),.int .u16 ((n1:Nat):Int),.int .u16 ((n2:Nat):Int)] 23 (0,0))]]++(GP32++H)) (by omega) (by omega) hus)) ?_))))))
  rintro _ _ ⟨rfl,rfl⟩
  refine E0 rfl (H':=([(b30,.cells #[.string (mB #[120]),.slice (some ⟨kb,0,none⟩) ((zb n1).size) ((zb n1).size)] 34 (0,0))]::[(b25,.cells #[.string (mB #[120]),.slice (some ⟨ka,0,none⟩) ((zb (n0 % 900)).size) ((zb (n0 % 900)).size)] 34 (0,0))]::[(ka,.cells (u8s (zb (n0 % 900)).data.toList).toArray 5)]::[(kb,.cells (u8s (zb n1).data.toList).toArray 5)]::[(kc,.cells (u8s (zb (n2 % 900)).data.toList).toArray 5)]::[(b1,.cells #[.int .u16 ((n0:Nat):Int),.int .u16 ((n1:Nat):Int),.int .u16 ((n2:Nat):Int)] 23 (0,0))]::(GD31++(GP32++H)))) (fun w h=>A8 h fun _ x=>by simp only [List.flatten_append,List.flatten_cons,List.flatten_nil,List.count_append,List.append_nil] <;> omega) (B5 [0] [3,4,6,7,8,9,10,11] (k:=A1 (A2 (A3 (A5 (j:=1) [0] (k:=E4 (vs:=[pt d2]) Tryz.func12 (Tri.heap (fun _ hw=>A8 hw fun _ x=>by simp only [List.flatten_append,List.flatten_cons,List.flatten_nil,List.count_append,List.append_nil] <;> omega) (cReadG hd33 hx3 _ ([[(b30,.cells #[.string (mB #[120]),.slice (some ⟨kb,0,none⟩) ((zb n1).size) ((zb n1).size)] 34 (0,0))],[(b25,.cells #[.string (mB #[120]),.slice (some ⟨ka,0,none⟩) ((zb (n0 % 900)).size) ((zb (n0 % 900)).size)] 34 (0,0))],[(ka,.cells (u8s (zb (n0 % 900)).data.toList).toArray 5)],[(kb,.cells (u8s (zb n1).data.toList).toArray 5)],[(kc,.cells (u8s (zb (n2 % 900)).data.toList).toArray 5)],[(b1,.cells #[.int .u16 ((n0:Nat):Int),.int .u16 ((n1:Nat):Int),.int .u16 ((n2:Nat):Int)] 23 (0,0))]]++(GP32++H)) m2 ⟨by omega,by omega⟩ [(xB,wd)] hrd)) ?_))))))
  rintro _ _ ⟨ZR35,ra36,rc37,cs38,rfl,hfi39,rfl⟩
  refine E0 rfl (H':=([(b30,.cells #[.string (mB #[120]),.slice (some ⟨kb,0,none⟩) ((zb n1).size) ((zb n1).size)] 34 (0,0))]::[(b25,.cells #[.string (mB #[120]),.slice (some ⟨ka,0,none⟩) ((zb (n0 % 900)).size) ((zb (n0 % 900)).size)] 34 (0,0))]::[(ka,.cells (u8s (zb (n0 % 900)).data.toList).toArray 5)]::[(kb,.cells (u8s (zb n1).data.toList).toArray 5)]::[(kc,.cells (u8s (zb (n2 % 900)).data.toList).toArray 5)]::[(b1,.cells #[.int .u16 ((n0:Nat):Int),.int .u16 ((n1:Nat):Int),.int .u16 ((n2:Nat):Int)] 23 (0,0))]::(GD31++(GP32++(ZR35++H))))) (fun w h=>A8 h fun _ x=>by simp only [List.flatten_append,List.flatten_cons,List.flatten_nil,List.count_append,List.append_nil] <;> omega) ?_
  obtain ⟨rb,cb,hbe,hbr,hbc⟩:=frd1 hfi39.2
  refine B5 [0,0,0,0,0,0,0] [4,6,7,8,9,10,11,12,13,14] (k:=A1 (A2 (A3 (A5 (j:=3) [0,0,0] (k:=N2 34 1 [.string (mB #[120]),.slice (some ⟨kc,0,none⟩) ((zb (n2 % 900)).size) ((zb (n2 % 900)).size)] (fun b40=>Z0 (H':=([(b40,.cells #[.string (mB #[120]),.slice (some ⟨kc,0,none⟩) ((zb (n2 % 900)).size) ((zb (n2 % 900)).size)] 34 (0,0))]::[(b30,.cells #[.string (mB #[120]),.slice (some ⟨kb,0,none⟩) ((zb n1).size) ((zb n1).size)] 34 (0,0))]::[(b25,.cells #[.string (mB #[120]),.slice (some ⟨ka,0,none⟩) ((zb (n0 % 900)).size) ((zb (n0 % 900)).size)] 34 (0,0))]::[(ka,.cells (u8s (zb (n0 % 900)).data.toList).toArray 5)]::[(kb,.cells (u8s (zb n1).data.toList).toArray 5)]::[(kc,.cells (u8s (zb (n2 % 900)).data.toList).toArray 5)]::[(b1,.cells #[.int .u16 ((n0:Nat):Int),.int .u16 ((n1:Nat):Int),.int .u16 ((n2:Nat):Int)] 23 (0,0))]::(GD31++(GP32++(ZR35++H))))) kr ?_))))))
  have hfa3:FilesIn [[(b40,.cells #[.string (mB #[120]),.slice (some ⟨kc,0,none⟩) ((zb (n2 % 900)).size) ((zb (n2 % 900)).size)] 34 (0,0))],[(kc,.cells (u8s (zb (n2 % 900)).data.toList).toArray 5)]] [(xB,zb (n2 % 900))] (some ⟨b40,0,none⟩) [.string (mB #[120]),.slice (some ⟨kc,0,none⟩) ((zb (n2 % 900)).size) ((zb (n2 % 900)).size)]:=files_one
  refine E4 (vs:=[pt pb5,.slice (some ⟨b40,0,none⟩) 1 1]) Tryz.func10 (Tri.heap (fun _ hw=>A8 hw fun _ x=>by simp only [List.flatten_append,List.flatten_cons,List.flatten_nil,List.count_append,List.append_nil] <;> omega) (cPub hd33 hx3 _ ([[(b40,.cells #[.string (mB #[120]),.slice (some ⟨kc,0,none⟩) ((zb (n2 % 900)).size) ((zb (n2 % 900)).size)] 34 (0,0))],[(b30,.cells #[.string (mB #[120]),.slice (some ⟨kb,0,none⟩) ((zb n1).size) ((zb n1).size)] 34 (0,0))],[(b25,.cells #[.string (mB #[120]),.slice (some ⟨ka,0,none⟩) ((zb (n0 % 900)).size) ((zb (n0 % 900)).size)] 34 (0,0))],[(ka,.cells (u8s (zb (n0 % 900)).data.toList).toArray 5)],[(kb,.cells (u8s (zb n1).data.toList).toArray 5)],[(kc,.cells (u8s (zb (n2 % 900)).data.toList).toArray 5)],[(b1,.cells #[.int .u16 ((n0:Nat):Int),.int .u16 ((n1:Nat):Int),.int .u16 ((n2:Nat):Int)] 23 (0,0))]]++(ZR35++H)) hp34 (by omega) (by omega) ⟨by dsimp only; omega,by dsimp only; omega⟩ 1 (hfa3.arg (fun p hp=>by simp only [List.flatten_append,List.flatten_cons,List.flatten_nil,List.mem_append] at hp ⊢; rcases hp with hp | hp | hp <;> first | exact absurd hp List.not_mem_nil | simp only [hp,true_or,or_true])) (by show 1≤20; decide) (fun f hf=>by rw [List.mem_singleton.1 hf]; show 1≤1000000; decide) (fun f hf=>by rw [List.mem_singleton.1 hf]; show (zb (n2 % 900)).size≤_; rw [A0f]; omega) hm3)) ?_
  rintro _ _ ⟨GD41,GP42,rfl,hd43,hp44,rfl⟩
  refine E0 rfl (H':=([(b40,.cells #[.string (mB #[120]),.slice (some ⟨kc,0,none⟩) ((zb (n2 % 900)).size) ((zb (n2 % 900)).size)] 34 (0,0))]::[(b30,.cells #[.string (mB #[120]),.slice (some ⟨kb,0,none⟩) ((zb n1).size) ((zb n1).size)] 34 (0,0))]::[(b25,.cells #[.string (mB #[120]),.slice (some ⟨ka,0,none⟩) ((zb (n0 % 900)).size) ((zb (n0 % 900)).size)] 34 (0,0))]::[(ka,.cells (u8s (zb (n0 % 900)).data.toList).toArray 5)]::[(kb,.cells (u8s (zb n1).data.toList).toArray 5)]::[(kc,.cells (u8s (zb (n2 % 900)).data.toList).toArray 5)]::[(b1,.cells #[.int .u16 ((n0:Nat):Int),.int .u16 ((n1:Nat):Int),.int .u16 ((n2:Nat):Int)] 23 (0,0))]::(GD41++(GP42++(ZR35++H))))) (fun w h=>A8 h fun _ x=>by simp only [List.flatten_append,List.flatten_cons,List.flatten_nil,List.count_append,List.append_nil] <;> omega) (B5 [0] [4,6,7,9,10,11,12,13,14,15] (k:=A1 (A2 (A2 (B9 (E':=[⟨4,[],pt pb5⟩,⟨6,[],.slice (some ⟨ka,0,none⟩) ((zb (n0 % 900)).size) ((zb (n0 % 900)).size)⟩,⟨7,[],.slice (some ⟨kb,0,none⟩) ((zb n1).size) ((zb n1).size)⟩,⟨10,[],.int .i64 e2⟩,⟨11,[],.int .i64 (((wd.size+70):Nat):Int)⟩,⟨12,[],.slice ra36 ([(xB,wd)].length) rc37⟩,⟨13,[],.int .i64 m2⟩,⟨15,[],.int .i64 e3⟩,⟨68,[],.bool ((([(xB,wd)].length:Nat):Int) != 1)⟩]) [0,0,0,0,0,3,0,0,0,0,3] [4,6,7,10,11,12,13,15,68] (k:=A1 (D2 (b:=(([(xB,wd)].length:Nat):Int) != 1) kr (fun hc45=>?_) (fun hc45=>?_))))))))
  ·
   exact absurd hc45 (by simp)
  ·
   skip
   refine B6 (A1 (A2 (A2 (G_p [0,0] [4,6,7,10,11,12,13,15,70] (k:=A1 (D2 (b:=e2==0) kr (fun hc46=>?_) (fun hc46=>?_)))))))
   ·
    have he2:=hc46
    refine A2 (K0 (k:=A5 (j:=4) [0,0,0,0] (k:=I7 (ch:=[(73,true)]) (a:=ra36) (len:=[(xB,wd)].length) (cap:=rc37) (kd:=.i64) (j:=0) (e:=34) (sz:=2) (S:=(inZ ZR35)) (cs:=cs38) (hrd:=hfi39.1) (hb:=(fun hc=>by exact ⟨by show (0:Int)≤0; decide,by show (0:Int)<1; decide,P8 (F:=[(xB,wd)]) hfi39.2 (k:=0) (by show 0<1; decide)⟩)) (k:=?_))))
    have hw47:Addr.add (eltA ra36 (0 * 2)) 1=eltA ra36 (0 * 2+1):=eltA_add _ _ _
    refine A5 (j:=6) [0] (k:=L1 76 [(73,true)] (x:=.pointer (some (Addr.add (eltA ra36 (0 * 2)) 1))) (y:=.pointer (some (eltA ra36 (0 * 2+1)))) (by simp only [hw47]) (R7 (ch:=[(73,true)]) (a:=ra36) (q:=0 * 2+1) (S:=(inZ ZR35)) (cs:=cs38) (v:=.slice rb wd.size cb) (hrd:=hfi39.1) (hS:=(fun y o h=>At.cons (At.cons (At.cons (At.cons (At.cons (At.cons (At.cons (C4 (C4 (at_z h))))))))))) (hv:=(fun hc=>hbe)) (k:=K6 (ch:=[(73,true)]) (a:=rb) (cap:=cb) (e:=5) (S:=(inZ ZR35)) wd (hrd:=hbr) (hS:=(fun y o h=>At.cons (At.cons (At.cons (At.cons (At.cons (At.cons (At.cons (C4 (C4 (at_z h))))))))))) (k:=A5 (j:=9) [0] (k:=K6 (ch:=[(73,true)]) (a:=(some ⟨kb,0,none⟩)) (cap:=(zb n1).size) (e:=5) (S:=(Go.Sw.inG [(kb,.cells (u8s (zb n1).data.toList).toArray 5)])) (zb n1) (hrd:=Rd.lit) (hS:=H6 4 rfl) (k:=B5 [0,6,0,0,0,0,0,0,0,6,0] [2] (k:=A1 (C8 ?_))))))))
    refine C0 (G8 (fun w h=>(Sat.dropApp (Sat.dropApp (Sat.dropApp (((((((h).tail).tail).tail).tail).tail).tail).tail)))) (C5 [.tmp 2] [.bool (((m2==2)&&(wd.toList==(zb n1).toList))&&((((wd.size+70):Nat):Int)==(IntKind.wrap .i64 ((IntKind.wrap .i64 ((((zb n1).size:Nat):Int)+67))+3))))] (k:=?_)))
    exact ⟨congrArg Value.bool (by rcases hcs with ⟨q1,q2,q3⟩ | ⟨q1,q2,q3,q4,q5⟩; (subst q2 q3; simp [A0f,hwB]); (rw [q1] at he2; exact absurd he2 (by decide))),rfl⟩
   ·
    have he2:=hc46
    refine B6 (A1 (A2 (K0 (k:=A5 (j:=8) [0,0,0,0,0,6,0,0] (k:=I7 (ch:=[(97,true)]) (a:=ra36) (len:=[(xB,wd)].length) (cap:=rc37) (kd:=.i64) (j:=0) (e:=34) (sz:=2) (S:=(inZ ZR35)) (cs:=cs38) (hrd:=hfi39.1) (hb:=(fun hc=>by exact ⟨by show (0:Int)≤0; decide,by show (0:Int)<1; decide,P8 (F:=[(xB,wd)]) hfi39.2 (k:=0) (by show 0<1; decide)⟩)) (k:=?_))))))
    have hw48:Addr.add (eltA ra36 (0 * 2)) 1=eltA ra36 (0 * 2+1):=eltA_add _ _ _
    refine A5 (j:=10) [0] (k:=L1 100 [(97,true)] (x:=.pointer (some (Addr.add (eltA ra36 (0 * 2)) 1))) (y:=.pointer (some (eltA ra36 (0 * 2+1)))) (by simp only [hw48]) (R7 (ch:=[(97,true)]) (a:=ra36) (q:=0 * 2+1) (S:=(inZ ZR35)) (cs:=cs38) (v:=.slice rb wd.size cb) (hrd:=hfi39.1) (hS:=(fun y o h=>At.cons (At.cons (At.cons (At.cons (At.cons (At.cons (At.cons (C4 (C4 (at_z h))))))))))) (hv:=(fun hc=>hbe)) (k:=K6 (ch:=[(97,true)]) (a:=rb) (cap:=cb) (e:=5) (S:=(inZ ZR35)) wd (hrd:=hbr) (hS:=(fun y o h=>At.cons (At.cons (At.cons (At.cons (At.cons (At.cons (At.cons (C4 (C4 (at_z h))))))))))) (k:=A5 (j:=13) [0] (k:=K6 (ch:=[(97,true)]) (a:=(some ⟨ka,0,none⟩)) (cap:=(zb (n0 % 900)).size) (e:=5) (S:=(Go.Sw.inG [(ka,.cells (u8s (zb (n0 % 900)).data.toList).toArray 5)])) (zb (n0 % 900)) (hrd:=Rd.lit) (hS:=H6 3 rfl) (k:=A5 (j:=30) [0,6,0,0,0,0,0,0,0,6,0,0,0,6,0,0] (k:=A0p [(119,true)] Tryz.func13 (fun hc=>cGenAt hp44 _ _ (fun x hx=>by simp only [List.flatten_append,List.flatten_cons,List.mem_append]; simp only [hx,true_or,or_true])) (B5 [0,6,0] [2] (k:=?_)))))))))
    refine A1 (C8 (G8 (fun w h=>(Sat.dropApp (Sat.dropApp (Sat.dropApp (((((((h).tail).tail).tail).tail).tail).tail).tail)))) (C5 [.tmp 2] [.bool ((((((e2==61)&&(m2==1))&&(wd.toList==(zb (n0 % 900)).toList))&&((((wd.size+70):Nat):Int)==(IntKind.wrap .i64 ((IntKind.wrap .i64 ((((zb (n0 % 900)).size:Nat):Int)+67))+3))))&&(e3==0))&&(p3.n==2))] (k:=?_))))
    exact ⟨congrArg Value.bool (by rcases hcs with ⟨q1,q2,q3⟩ | ⟨q1,q2,q3,q4,q5⟩; (rw [q1] at he2; exact absurd he2 (by decide)); (subst q1 q2 q3 q4; simp [A0f,q5,hwA])),rfl⟩
end Go.Proofs.YtdolpaagdpeagaaGreatDoor
namespace Go.Proofs.YtdolpaagdpeagaaGreatDoor
open Go.Sw Go.Lib Go.Vf Go.Sha Go.Pr Go.RowKit
theorem wrap_b (x:Int):-9223372036854775808≤IntKind.wrap .i64 x∧IntKind.wrap .i64 x≤9223372036854775807:=by
  simp only [IntKind.wrap,IntKind.bits,IntKind.signed]
  simp only [show (2:Int) ^ 64=18446744073709551616 from by decide,show (2:Int) ^ (64 - 1)=9223372036854775808 from by decide]
  split <;> rename_i h <;> simp at h <;> omega
theorem wr9 (a:Int):0≤IntKind.wrap .i64 (Int.tmod (IntKind.wrap .u64 a) 9)∧IntKind.wrap .i64 (Int.tmod (IntKind.wrap .u64 a) 9)≤8:=by
  have h0:0≤IntKind.wrap .u64 a:=Int.emod_nonneg _ (by decide)
  have h1:=Int.tmod_nonneg 9 h0
  have h2:=Int.tmod_lt_of_pos (IntKind.wrap .u64 a) (show (0:Int)<9 by decide)
  rw [w64 (by omega) (by omega)]
  exact ⟨h1,by omega⟩
structure CSt (k:Nat) (p:PM) (M:DM):Prop where
  gen:Gen p.n p.files M
  inv:Inv M
  fx:Fx (1+1000 * k) (30 * k) M
  fok:FOk p.files
  n0:0≤p.n
  nk:p.n≤k
  dn:p.down=false
theorem pub_c {k:Nat} {p:PM} {M:DM} (h:CSt k p M) (hk:k<8) {F:List FB} (hl:longM F=false) {e2:Int} {p2:PM} {M2:DM} (hp:E8 p M F=(e2,p2,M2)) :
    Fx (1+1000 * (k+1)) (30 * (k+1)) M2∧((e2=2∧p2=p∧CSt (k+1) p M2)∨(e2≠2∧∃ s,F8 F=some s∧FOk s∧((e2=0∧p2=⟨p.n+1,s,false⟩∧CSt (k+1) ⟨p.n+1,s,false⟩ M2)∨(e2≠0∧Inv M2∧(Gen p.n p.files M2∨Dbt p.n p.files (p.n+1) s M2))))):=by
  obtain ⟨l1,l2,l3⟩:=X8 hl
  have hnk:=h.nk
  have hn0:=h.n0
  have hfx0:=fx_pub h.fx (p:=p) ⟨hn0,by omega⟩ (l:=F) l1 fun f hf=>Nat.le_trans (l2 f hf) (by omega)
  rw [hp] at hfx0
  have hfx:Fx (1+1000 * (k+1)) (30 * (k+1)) M2:=hfx0.up (by omega) (by omega)
  refine ⟨hfx,?_⟩
  cases hs:F8 F with
  | none =>
    rw [pub_arg hs] at hp
    injection hp with h1 h2; injection h2 with h2 h3
    subst h1 h2 h3
    exact .inl ⟨rfl,rfl,h.gen,h.inv,hfx,h.fok,hn0,by omega,h.dn⟩
  | some s =>
    have hok:=fok_of hs l1 fun f hf=>Nat.le_trans (l2 f hf) (by omega)
    obtain ⟨i2,hg⟩:=pub_fate hn0 (by omega) h.dn h.inv h.fx.rn h.gen hs
    rw [hp] at i2 hg
    dsimp only at i2 hg
    rcases hg with ⟨h1,h2,h3⟩ | ⟨h1,h2,h3⟩
    · subst h1 h2
      exact .inr ⟨by decide,s,rfl,hok,.inl ⟨rfl,rfl,h3,i2,hfx,hok,by show 0≤p.n+1; omega,by show p.n+1≤((k+1:Nat):Int); omega,rfl⟩⟩
    · exact .inr ⟨h2,s,rfl,hok,.inr ⟨h1,i2,h3⟩⟩
structure ASt (j:Nat) (n:Int) (F1 F2:List FB) (db:Bool) (M:DM):Prop where
  st:Gen n F1 M∨(db=true∧Dbt n F1 (n+1) F2 M)
  inv:Inv M
  fx:Fx (8001+1000 * j) 240 M
  fok:FOk F1
  fok2:db=true→FOk F2
  n0:0≤n
  n8:n≤8+j
theorem ASt.crashed {j:Nat} {n:Int} {F1 F2:List FB} {db:Bool} {M:DM} (h:ASt j n F1 F2 db M) (ks:List Int):(n=0∧Gen n F1 (N3 M ks))∨(1≤n∧Gen n F1 (N3 M ks))∨(db=true∧FOk F2∧Gen (n+1) F2 (N3 M ks)):=by
  have h0:=h.n0
  have go:Gen n F1 (N3 M ks)→(n=0∧Gen n F1 (N3 M ks))∨(1≤n∧Gen n F1 (N3 M ks))∨(db=true∧FOk F2∧Gen (n+1) F2 (N3 M ks)):=fun hg=>by
    rcases Int.lt_or_le 0 n with h1 | h1
    · exact .inr (.inl ⟨by omega,hg⟩)
    · exact .inl ⟨by omega,hg⟩
  rcases h.st with hg | ⟨hd,hg⟩
  · exact go (hg.crash h.inv ks)
  · rcases hg.crash (by omega) h.inv ks with hg | hg
    · exact go hg
    · exact .inr (.inr ⟨hd,h.fok2 hd,hg⟩)
theorem ast_next {j:Nat} {n:Int} {F1 F2:List FB} {db:Bool} {M:DM} (_:j<2) {i:Nat} (hi:i≤8001+1000 * j) {x:Int} (hx:-9223372036854775808≤x∧x≤9223372036854775807) (hg:Gen n F1 M) (hv:Inv M) (hf:Fx i 240 M) (h1:FOk F1) (h2:db=true→FOk F2) (h0:0≤n) (h8:n≤9+j):ASt (j+1) n F1 F2 db (K4 [n - 1,n+1] (failM M x false)):=by
  obtain ⟨a,b⟩:=Gen.tidy h0 (hg.fail x false) (inv_fail hv x false) [n - 1,n+1] (fun m hm=>by simp only [List.mem_cons,List.not_mem_nil,or_false] at hm; omega)
  exact ⟨.inl a,b,(fx_tidy (fx_fail hf hx false) [n - 1,n+1]).up (by simp only [List.length_cons,List.length_nil]; omega) (Nat.le_refl _),h1,h2,h0,by omega⟩
theorem cOpenC {d:Nat} {n:Int} {F:List FB} {M:DM} {GD:List Grp} (h:DD d M GD) {i q:Nat} (hf:Fx i q M) (hq:q≤10000) (hi:i+2 * q+1≤100000) (hg:Gen n F M) (hv:Inv M) (hF:FOk F) (h0:0≤n) (h9:n<99) (W0:World) (X:List Grp) :
    Tri Tryz.prog 9 #[pt d] W0 (GD++X) (fun v H'=>∃ pb GD' GP,v=.tuple #[pt pb,.int .i64 0]∧DD d (K4 [n - 1,n+1] M) GD'∧H'=GD'++(GP++X)):=by
  rcases Int.lt_or_le 0 n with h1 | h1
  · exact Tri.post (cOpenG h hf W0 X hq hi n ⟨by omega,h9⟩ F (gen_ok (by omega) hg hv hF)) fun v H1 ⟨pb,GD',GP,hv,h2,_,hH⟩=>⟨_,⟨pb,GD',GP,hv,h2,hH⟩,fun w h=>h⟩
  · have e:n=0:=by omega
    subst e
    exact Tri.post (cOpen0 h hf W0 X hq hi (gen_no hg hv)) fun v H1 ⟨pb,GD',GP,hv,h2,_,hH⟩=>⟨_,⟨pb,GD',GP,hv,h2,hH⟩,fun w h=>h⟩
theorem farg_nil {W0:World} {X:List Grp}:FArg W0 X [] none []:=⟨⟨fun _ _=>False,.inl rfl,.nil,fun _ _ h=>h.elim⟩⟩
theorem farg_w {W0:World} {g:Grp} {X:List Grp} {S:Nat→Obj→Prop} {s:List FB} {a:Option Addr} {cs:List Value} (h1:Rd (fun y o=>Go.Sw.inG g y o∨S y o) a cs) (h2:FRd (fun y o=>Go.Sw.inG g y o∨S y o) s cs) (hS:∀ y o,S y o→At W0 [] y o):FArg W0 ([g]++X) s a cs :=
  ⟨⟨_,h1,h2,fun y o h=>h.elim (fun h=>H6 0 rfl y o h) (fun h=>at_up (hS y o h))⟩⟩
theorem FArg.appR {W0:World} {X Y:List Grp} {F:List FB} {a:Option Addr} {cs:List Value} (h:FArg W0 X F a cs):FArg W0 (X++Y) F a cs:=by
  obtain ⟨S,h1,h2,h3⟩:=h.rd
  exact ⟨⟨S,h1,h2,fun y o hy=>At.app (h3 y o hy)⟩⟩
theorem crashes_ (la:Option Addr) (lc:Nat) (L:List (List FB)) (cl:List Value) (S:Nat→Obj→Prop) (hrd:Rd S la cl) (hL:FLRd S L cl) (hln:L.length≤9223372036854775807) (hLz:∀ F∈L,F.length≤9223372036854775807) (a0 a1:Int) (kl:List Int) (ka:Option Addr) (kc:Nat) (SK:Nat→Obj→Prop) (hks:kl.length≤50→KsOk SK ⟨kl,ka,kc⟩) (W0:World) (H:List Grp) (hS:∀ y o,S y o→At W0 [] y o) (hSK:∀ y o,SK y o→At W0 [] y o):Tri Tryz.prog 4 #[.slice la L.length lc,.agg #[.int .i64 a0,.int .i64 a1],.slice ka kl.length kc] W0 H (fun v H'=>v=.bool true∧H'=H):=by
  obtain ⟨ho1,ho2,ho3,ho4,ho5⟩:=opened 1048576 (by decide)
  refine D6 140 Tryz.func4 ?_
  refine A2 (A3 (O9 (.agg #[.int .i64 a0,.int .i64 a1]) (fun b1=>B5 [0] [0,2,4] (k:=A1 (A2 (A2 (A3 (G1 Tryz.func7 (first_ _ _) ?_))))))))
  refine B5 [0] [0,2,4,23] (k:=A1 (D9 kr (B6 (A1 (A2 (A2 (G_p [0,0,0] [0,2,4,26] (k:=A1 ?_))))))))
  refine D2 (b:=decide (((kl.length:Nat):Int) > 50)) kr (fun hc2=>?_) (fun hc2=>?_)
  ·
    skip
    refine A2 (B9 (E':=[⟨6,[],.bool true⟩]) [0] [6] (k:=A1 (C8 (C0 (G8 (fun w h=>(h).tail) (C5 [.tmp 6] [.bool true] (k:=?_)))))))
    exact ⟨rfl,rfl⟩
  ·
    skip
    refine B6 (A1 (A2 (A3 (Z0 (H':=([(b1,.cells #[.int .i64 a0,.int .i64 a1] 41 (0,0))]::H)) kr (E4 (vs:=[.int .i64 1048576]) Tryz.func8 (Tri.heap (fun _ hw=>A8 hw fun _ x=>by simp only [List.flatten_append,List.flatten_cons,List.flatten_nil,List.count_append,List.append_nil] <;> omega) (cNewP 1048576 rfl _ ([[(b1,.cells #[.int .i64 a0,.int .i64 a1] 41 (0,0))]]++H))) ?_)))))
    rintro _ _ ⟨d3,GD4,rfl,hd5,rfl⟩
    refine E0 rfl (H':=([(b1,.cells #[.int .i64 a0,.int .i64 a1] 41 (0,0))]::(GD4++H))) (fun w h=>A8 h fun _ x=>by simp only [List.flatten_append,List.flatten_cons,List.flatten_nil,List.count_append,List.append_nil] <;> omega) (B5 [0] [0,2,4,7] (k:=A1 (A2 (A3 (A5 (j:=1) [0] (k:=E4 (vs:=[pt d3]) Tryz.func9 (Tri.heap (fun _ hw=>A8 hw fun _ x=>by simp only [List.flatten_append,List.flatten_cons,List.flatten_nil,List.count_append,List.append_nil] <;> omega) (cOpen0 hd5 (fx_new 1048576) _ ([[(b1,.cells #[.int .i64 a0,.int .i64 a1] 41 (0,0))]]++H) (by omega) (by omega) ho1)) ?_))))))
    rintro _ _ ⟨pb6,GD7,GP8,rfl,hd9,hp10,rfl⟩
    refine E0 rfl (H':=([(b1,.cells #[.int .i64 a0,.int .i64 a1] 41 (0,0))]::(GD7++(GP8++H)))) (fun w h=>A8 h fun _ x=>by simp only [List.flatten_append,List.flatten_cons,List.flatten_nil,List.count_append,List.append_nil] <;> omega) (B5 [0,0,0,0,0] [0,2,4,7,8] (k:=A1 (A2 (A3 (A5 (j:=1) [0] (k:=C7 (ch:=[]) (b:=b1) (off:=0) (len:=2) (sz:=1) (e:=3) (kd:=.i64) (j:=0) (hb:=(fun _=>⟨by decide,by decide⟩)) (k:=D0 0 0 rfl rfl (A5 (j:=6) [0,0,0] (k:=?_)))))))))
    refine E4 (vs:=[pt d3,.int .i64 (IntKind.wrap .i64 (Int.tmod (IntKind.wrap .u64 a0) 100)),.bool false]) Tryz.func14 (Tri.heap (fun _ hw=>A8 hw fun _ x=>by simp only [List.flatten_append,List.flatten_cons,List.flatten_nil,List.count_append,List.append_nil] <;> omega) (cFailD hd9 ho5 _ ([[(b1,.cells #[.int .i64 a0,.int .i64 a1] 41 (0,0))]]++(GP8++H)) (IntKind.wrap .i64 (Int.tmod (IntKind.wrap .u64 a0) 100)) false)) ?_
    rintro _ _ ⟨GD11,rfl,hd12,rfl⟩
    refine E0 rfl (H':=([(b1,.cells #[.int .i64 a0,.int .i64 a1] 41 (0,0))]::(GD11++(GP8++H)))) (fun w h=>A8 h fun _ x=>by simp only [List.flatten_append,List.flatten_cons,List.flatten_nil,List.count_append,List.append_nil] <;> omega) (D5 (E':=[⟨0,[],.slice la L.length lc⟩,⟨2,[],.slice ka kl.length kc⟩,⟨4,[],pt b1⟩,⟨7,[],pt d3⟩,⟨8,[],pt pb6⟩]) [] [0,2,4,7,8] (k:=A1 (A2 (G_p [0,0] [0,2,4,7,8,10,11] (k:=A1 (A2 (G_p [0,0] [0,2,4,7,8,10,11,12,13] (k:=A1 ?_))))))))
    refine A2 (A2 (G_p [0,0,0] [2,4,7,8,10,11,12,13,40,41,42] (k:=A1 (G_join (T:=Int × List FB × List FB × Bool × DM × Option Addr × Nat × List Value × Option Addr × Nat × List Value × List Grp × List Grp) (fun ξ:Int × List FB × List FB × Bool × DM × Option Addr × Nat × List Value × Option Addr × Nat × List Value × List Grp × List Grp=>[⟨2,[],.slice ka kl.length kc⟩,⟨4,[],pt b1⟩,⟨7,[],pt d3⟩,⟨10,[],.slice ξ.2.2.2.2.2.1 ξ.2.1.length ξ.2.2.2.2.2.2.1⟩,⟨11,[],.slice ξ.2.2.2.2.2.2.2.2.1 ξ.2.2.1.length ξ.2.2.2.2.2.2.2.2.2.1⟩,⟨12,[],.int .i64 ξ.1⟩,⟨13,[],.bool ξ.2.2.2.1⟩]) (fun ξ:Int × List FB × List FB × Bool × DM × Option Addr × Nat × List Value × Option Addr × Nat × List Value × List Grp × List Grp=>([(b1,.cells #[.int .i64 a0,.int .i64 a1] 41 (0,0))]::(ξ.2.2.2.2.2.2.2.2.2.2.2.1++(ξ.2.2.2.2.2.2.2.2.2.2.2.2++H)))) (fun ξ:Int × List FB × List FB × Bool × DM × Option Addr × Nat × List Value × Option Addr × Nat × List Value × List Grp × List Grp=>(DD d3 ξ.2.2.2.2.1 ξ.2.2.2.2.2.2.2.2.2.2.2.1)∧(ASt 0 ξ.1 ξ.2.1 ξ.2.2.1 ξ.2.2.2.1 ξ.2.2.2.2.1)∧(FArg W0 ξ.2.2.2.2.2.2.2.2.2.2.2.2 ξ.2.1 ξ.2.2.2.2.2.1 ξ.2.2.2.2.2.2.2.1)∧(FArg W0 ξ.2.2.2.2.2.2.2.2.2.2.2.2 ξ.2.2.1 ξ.2.2.2.2.2.2.2.2.1 ξ.2.2.2.2.2.2.2.2.2.2.1)) ?_ ?_))))
    ·
      refine B8 ?_
      have hst0:CSt 0 ⟨0,[],false⟩ (failM (K4 [-1,1] (newM 1048576)) (IntKind.wrap .i64 (Int.tmod (IntKind.wrap .u64 a0) 100)) false):=⟨ho3.fail _ false,inv_fail ho4 _ false,fx_fail ho5 (wrap_b _) false,fok_nil,Int.le_refl _,Int.le_refl _,rfl⟩
      refine I6 (EI:=(fun ξ:Nat × PM × DM × List FB × Option Addr × Nat × List Value × Option Addr × Nat × List Value × List Grp × List Grp × List Grp=>[⟨2,[],.slice ka kl.length kc⟩,⟨4,[],pt b1⟩,⟨7,[],pt d3⟩,⟨8,[],pt pb6⟩,⟨10,[],.slice ξ.2.2.2.2.1 ξ.2.1.files.length ξ.2.2.2.2.2.1⟩,⟨11,[],.slice ξ.2.2.2.2.2.2.2.1 ξ.2.2.2.1.length ξ.2.2.2.2.2.2.2.2.1⟩,⟨12,[],.int .i64 ξ.2.1.n⟩,⟨13,[],.bool false⟩,⟨40,[],.slice la L.length lc⟩,⟨41,[],.int .i64 ((L.length:Nat):Int)⟩,⟨42,[],.int .i64 ((ξ.1:Nat):Int)⟩])) (HI:=(fun ξ:Nat × PM × DM × List FB × Option Addr × Nat × List Value × Option Addr × Nat × List Value × List Grp × List Grp × List Grp=>([(b1,.cells #[.int .i64 a0,.int .i64 a1] 41 (0,0))]::(ξ.2.2.2.2.2.2.2.2.2.2.1++(ξ.2.2.2.2.2.2.2.2.2.2.2.1++(ξ.2.2.2.2.2.2.2.2.2.2.2.2++H)))))) (Φ:=(fun ξ:Nat × PM × DM × List FB × Option Addr × Nat × List Value × Option Addr × Nat × List Value × List Grp × List Grp × List Grp=>(ξ.1≤L.length)∧(ξ.1≤8)∧(DD d3 ξ.2.2.1 ξ.2.2.2.2.2.2.2.2.2.2.1)∧(PrV pb6 d3 ξ.2.1 ξ.2.2.2.2.2.2.2.2.2.2.2.1)∧(CSt ξ.1 ξ.2.1 ξ.2.2.1)∧(FArg W0 ξ.2.2.2.2.2.2.2.2.2.2.2.2 ξ.2.1.files ξ.2.2.2.2.1 ξ.2.2.2.2.2.2.1)∧(FArg W0 ξ.2.2.2.2.2.2.2.2.2.2.2.2 ξ.2.2.2.1 ξ.2.2.2.2.2.2.2.1 ξ.2.2.2.2.2.2.2.2.2.1))) (μ:=(fun ξ:Nat × PM × DM × List FB × Option Addr × Nat × List Value × Option Addr × Nat × List Value × List Grp × List Grp × List Grp=>L.length - ξ.1)) (s0:=(0,⟨0,[],false⟩,(failM (K4 [-1,1] (newM 1048576)) (IntKind.wrap .i64 (Int.tmod (IntKind.wrap .u64 a0) 100)) false),[],none,0,[],none,0,[],GD11,GP8,[])) [2,4,7,8,10,11,12,13,40,41,42] kr rfl ⟨(by omega),(by omega),hd12,hp10,hst0,farg_nil,farg_nil⟩ ?_
      rintro ⟨k,p,M,F2,na,nc,ncs,xa,xc,xcs,GD,GP,T⟩ ⟨hk,hk8,hd,hp,hst,hna,hxa⟩
      dsimp only at hk hk8 hd hp hst hna hxa
      refine A2 (G_p [0] [2,4,7,8,10,11,12,13,40,41,42,43] (k:=A1 (A2 (D2 (b:=decide (((k:Nat):Int)<((L.length:Nat):Int))) kr (fun hc13=>?_) (fun hc13=>?_)))))
      ·
        have hlt:k<L.length:=by simp only [decide_eq_true_eq] at hc13; omega
        obtain ⟨fa,fc,cs,hge,hfr,hff⟩:=hL.get hlt
        obtain ⟨F,hFk⟩:∃ F,F=L[k]:=⟨_,rfl⟩
        rw [← hFk] at hge hff
        have hFz:=hLz F (by rw [hFk]; exact List.getElem_mem hlt)
        have hsk:=hst.nk
        have hs0:=hst.n0
        refine B6 (A1 (A2 (B8 (A2 (A3 (A5 (j:=1) [0] (k:=L2 L.length ((k:Nat):Int) 1 hrd (by exact ⟨by omega,by omega,flrd_ne hL hlt⟩) (O3 (k * 1) (.slice fa F.length fc) hrd (fun y o h=>at_up (hS y o h)) (fun _=>(by rw [Nat.mul_one]; exact hge)) ?_))))))))
        refine B5 [0,0] [2,4,7,8,10,11,12,13,14,15,40,41,42] (k:=A1 (A2 (A2 (A3 (A5 (j:=5) [0,0,0,0,0] (k:=A0p [(49,false)] Tryz.func15 (fun hc=>long_ fa fc F cs S hfr hff (by omega) _ _ (fun y o h=>at_up (hS y o h))) (B5 [5] [2,4,7,8,10,11,12,13,15,40,41,42,53] (k:=A1 ?_))))))))
        refine D2 (b:=(decide (((k:Nat):Int) ≥ 8))||(longM F)) kr (fun hc14=>?_) (fun hc14=>?_)
        ·
          skip
          refine H0 (A6 (A0n rfl (A6 (A6 (C3 (G8 (H':=([(b1,.cells #[.int .i64 a0,.int .i64 a1] 41 (0,0))]::(GD++((GP++T)++H)))) (fun w h=>A8 h fun _ x=>by simp only [List.flatten_append,List.flatten_cons,List.count_append] <;> omega) (T4 (p.n,p.files,F2,false,M,na,nc,ncs,xa,xc,xcs,GD,(GP++T)) [2,4,7,10,11,12,13] kr (fun w h=>h) ⟨hd,⟨.inl hst.gen,hst.inv,hst.fx.up (by omega) (by omega),hst.fok,(fun h=>by cases h),hst.n0,(by have:=hst.nk; omega)⟩,hna.app,hxa.app⟩)))))))
        ·
          have hlg:(decide (((k:Nat):Int) ≥ 8)||longM F)=false:=hc14
          rw [Bool.or_eq_false_iff] at hlg
          have hk8l:k<8:=by have:=of_decide_eq_false hlg.1; omega
          have hlf:=hlg.2
          refine B6 (A1 (A2 (A3 (A5 (j:=2) [0,0] (k:=Z0 (H':=([(b1,.cells #[.int .i64 a0,.int .i64 a1] 41 (0,0))]::(GD++(GP++(T++H))))) kr ?_)))))
          obtain ⟨e2,p2,M2,hpub⟩:∃ e2 p2 M2,E8 p M F=(e2,p2,M2):=⟨_,_,_,rfl⟩
          refine E4 (vs:=[pt pb6,.slice fa F.length fc]) Tryz.func10 (Tri.heap (fun _ hw=>A8 hw fun _ x=>by simp only [List.flatten_append,List.flatten_cons,List.flatten_nil,List.count_append,List.append_nil] <;> omega) (cPub hd hst.fx _ ([[(b1,.cells #[.int .i64 a0,.int .i64 a1] 41 (0,0))]]++(T++H)) hp (by omega) (by omega) ⟨by omega,by omega⟩ fc (FArg.base ⟨⟨S,hfr,hff,hS⟩⟩) (X8 hlf).1 (fun f hf=>by have:=(X8 hlf).2.2 f hf; omega) (fun f hf=>by have:=(X8 hlf).2.1 f hf; omega) hpub)) ?_
          rintro _ _ ⟨GD15,GP16,rfl,hd17,hp18,rfl⟩
          refine E0 rfl (H':=([(b1,.cells #[.int .i64 a0,.int .i64 a1] 41 (0,0))]::(GD15++(GP16++(T++H))))) (fun w h=>A8 h fun _ x=>by simp only [List.flatten_append,List.flatten_cons,List.flatten_nil,List.count_append,List.append_nil] <;> omega) ?_
          have hpt:=pub_c hst hk8l hlf hpub
          refine B5 [0] [2,4,7,8,10,11,12,13,15,16,40,41,42] (k:=A1 (A2 (A2 (G_p [0,0] [2,4,7,8,10,11,12,13,15,16,40,41,42,58] (k:=A1 (D2 (b:=e2==2) kr (fun hc19=>?_) (fun hc19=>?_)))))))
          ·
            have he2:e2=2:=by simpa using hc19
            obtain ⟨hpp,hst2⟩:p2=p∧CSt (k+1) p M2:=by
              rcases hpt.2 with h9 | h9
              · exact h9.2
              · exact absurd he2 h9.1
            refine H0 (A6 (C3 (A1 (A3 (A5 (j:=1) [0] (k:=F0 69 (((k:Nat):Int)+1) (by omega) (by omega) kr (D5 (E':=[⟨2,[],.slice ka kl.length kc⟩,⟨4,[],pt b1⟩,⟨7,[],pt d3⟩,⟨8,[],pt pb6⟩,⟨10,[],.slice na p.files.length nc⟩,⟨11,[],.slice xa F2.length xc⟩,⟨12,[],.int .i64 p.n⟩,⟨13,[],.bool false⟩,⟨40,[],.slice la L.length lc⟩,⟨41,[],.int .i64 ((L.length:Nat):Int)⟩,⟨42,[],.int .i64 (((k:Nat):Int)+1)⟩]) [0] [2,4,7,8,10,11,12,13,40,41,42] (k:=G8 (H':=([(b1,.cells #[.int .i64 a0,.int .i64 a1] 41 (0,0))]::(GD15++(GP16++(T++H))))) (fun w h=>A8 h fun _ x=>by simp only [List.flatten_append,List.flatten_cons,List.count_append] <;> omega) ?_))))))))
            refine F6 (s':=((k+1),p,M2,F2,na,nc,ncs,xa,xc,xcs,GD15,GP16,T)) [2,4,7,8,10,11,12,13,40,41,42] kr rfl ⟨(by omega),(by omega),hd17,(hpp ▸ hp18),hst2,hna,hxa⟩ (by omega)
          ·
            have he2:e2≠2:=by simpa using hc19
            obtain ⟨s,hsm,hso,hss⟩:∃ s,F8 F=some s∧FOk s∧((e2=0∧p2=⟨p.n+1,s,false⟩∧CSt (k+1) ⟨p.n+1,s,false⟩ M2)∨(e2≠0∧Inv M2∧(Gen p.n p.files M2∨Dbt p.n p.files (p.n+1) s M2))):=by
              rcases hpt.2 with h9 | h9
              · exact absurd h9.1 he2
              · exact h9.2
            have hs20:=hso.len
            refine B6 (A1 (A2 (A3 (A5 (j:=1) [0] (k:=E4 Tryz.func16 (cSorted fa fc F cs S hfr hff (X8 hlf).1 hsm _ _ (fun y o h=>at_up (hS y o h))) ?_)))))
            rintro _ _ ⟨gw21,wa22,wc23,wcs24,rfl,hwr25,hwf26,rfl⟩
            refine D5 (E':=[⟨2,[],.slice ka kl.length kc⟩,⟨4,[],pt b1⟩,⟨7,[],pt d3⟩,⟨8,[],pt pb6⟩,⟨10,[],.slice na p.files.length nc⟩,⟨11,[],.slice wa22 s.length wc23⟩,⟨12,[],.int .i64 p.n⟩,⟨13,[],.bool false⟩,⟨16,[],.int .i64 e2⟩,⟨40,[],.slice la L.length lc⟩,⟨41,[],.int .i64 ((L.length:Nat):Int)⟩,⟨42,[],.int .i64 ((k:Nat):Int)⟩]) [0,0,0,0] [2,4,7,8,10,11,12,13,16,40,41,42] (k:=A1 (A2 (A2 (G_p [0,0] [2,4,7,8,10,11,12,13,40,41,42,65] (k:=A1 (D2 (b:=e2 != 0) kr (fun hc27=>?_) (fun hc27=>?_)))))))
            ·
              have hen:e2≠0:=bne_iff_ne.1 hc27
              obtain ⟨hiv,hgd⟩:Inv M2∧(Gen p.n p.files M2∨Dbt p.n p.files (p.n+1) s M2):=by
                rcases hss with h9 | h9
                · exact absurd h9.1 hen
                · exact h9.2
              refine A2 (G_p [0] [2,4,7,10,11,12,13] (k:=A1 (H0 (A6 (A0n rfl (A6 (A6 (C3 ?_))))))))
              refine G8 (H':=([(b1,.cells #[.int .i64 a0,.int .i64 a1] 41 (0,0))]::(GD15++(([gw21]++(GP16++T))++H)))) (fun w h=>A8 h fun _ x=>by simp only [List.flatten_append,List.flatten_cons,List.flatten_nil,List.count_append,List.append_nil] <;> omega) (T4 (p.n,p.files,s,true,M2,na,nc,ncs,wa22,wc23,wcs24,GD15,([gw21]++(GP16++T))) [2,4,7,10,11,12,13] kr (fun w h=>h) ⟨hd17,⟨hgd.imp id fun h=>⟨rfl,h⟩,hiv,hpt.1.up (by omega) (by omega),hst.fok,fun _=>hso,hst.n0,by omega⟩,hna.app.app,(farg_w hwr25 hwf26 hS)⟩)
            ·
              have he0:e2=0:=by simpa using hc27
              obtain ⟨rfl,hst2⟩:p2=⟨p.n+1,s,false⟩∧CSt (k+1) ⟨p.n+1,s,false⟩ M2:=by
                rcases hss with h9 | h9
                · exact h9.2
                · exact absurd he0 h9.1
              refine B6 (A1 (A2 (G_p [0,0] [2,4,7,8,10,11,12,13,40,41,42] (k:=A1 (A3 (A5 (j:=2) [0,0] (k:=F0 68 (p.n+1) (by omega) (by omega) kr (B5 [0] [2,4,7,8,10,11,12,13,40,41,42] (k:=?_)))))))))
              refine D3 (A1 (A3 (A5 (j:=1) [0] (k:=F0 69 (((k:Nat):Int)+1) (by omega) (by omega) kr (B5 [0] [2,4,7,8,10,11,12,13,40,41,42] (k:=G8 (H':=([(b1,.cells #[.int .i64 a0,.int .i64 a1] 41 (0,0))]::(GD15++(GP16++(([gw21]++T)++H))))) (fun w h=>A8 h fun _ x=>by simp only [List.flatten_append,List.flatten_cons,List.flatten_nil,List.count_append,List.append_nil] <;> omega) (F6 (s':=((k+1),⟨p.n+1,s,false⟩,M2,s,wa22,wc23,wcs24,wa22,wc23,wcs24,GD15,GP16,([gw21]++T))) [2,4,7,8,10,11,12,13,40,41,42] kr rfl ⟨(by omega),(by omega),hd17,hp18,hst2,(farg_w hwr25 hwf26 hS),(farg_w hwr25 hwf26 hS)⟩ (by omega))))))))
      ·
        have hkend:=hc13
        refine H0 (A6 (A6 (C3 (G8 (H':=([(b1,.cells #[.int .i64 a0,.int .i64 a1] 41 (0,0))]::(GD++((GP++T)++H)))) (fun w h=>A8 h fun _ x=>by simp only [List.flatten_append,List.flatten_cons,List.count_append] <;> omega) (T4 (p.n,p.files,F2,false,M,na,nc,ncs,xa,xc,xcs,GD,(GP++T)) [2,4,7,10,11,12,13] kr (fun w h=>h) ⟨hd,⟨.inl hst.gen,hst.inv,hst.fx.up (by omega) (by omega),hst.fok,(fun h=>by cases h),hst.n0,(by have:=hst.nk; omega)⟩,hna.app,hxa.app⟩)))))
    ·
      rintro ⟨n,F1,F2,db,M,na,nc,ncs,xa,xc,xcs,GD,T⟩ ⟨hd,hst,hna,hxa⟩
      dsimp only at hd hst hna hxa
      refine N_env (E':=[⟨2,[],.slice ka kl.length kc⟩,⟨4,[],pt b1⟩,⟨7,[],pt d3⟩,⟨10,[],.slice na F1.length nc⟩,⟨11,[],.slice xa F2.length xc⟩,⟨12,[],.int .i64 n⟩,⟨13,[],.bool db⟩]) kr (A1 (A2 (A2 (G_p [0] [2,4,7,10,11,12,13,70] (k:=A1 (B8 (I6 (EI:=(fun ξ:Nat × Int × List FB × List FB × Bool × DM × Option Addr × Nat × List Value × Option Addr × Nat × List Value × List Grp × List Grp=>[⟨2,[],.slice ka kl.length kc⟩,⟨4,[],pt b1⟩,⟨7,[],pt d3⟩,⟨10,[],.slice ξ.2.2.2.2.2.2.1 ξ.2.2.1.length ξ.2.2.2.2.2.2.2.1⟩,⟨11,[],.slice ξ.2.2.2.2.2.2.2.2.2.1 ξ.2.2.2.1.length ξ.2.2.2.2.2.2.2.2.2.2.1⟩,⟨12,[],.int .i64 ξ.2.1⟩,⟨13,[],.bool ξ.2.2.2.2.1⟩,⟨70,[],.int .i64 ((ξ.1:Nat):Int)⟩])) (HI:=(fun ξ:Nat × Int × List FB × List FB × Bool × DM × Option Addr × Nat × List Value × Option Addr × Nat × List Value × List Grp × List Grp=>([(b1,.cells #[.int .i64 a0,.int .i64 a1] 41 (0,0))]::(ξ.2.2.2.2.2.2.2.2.2.2.2.2.1++(ξ.2.2.2.2.2.2.2.2.2.2.2.2.2++H))))) (Φ:=(fun ξ:Nat × Int × List FB × List FB × Bool × DM × Option Addr × Nat × List Value × Option Addr × Nat × List Value × List Grp × List Grp=>(ξ.1≤2)∧(DD d3 ξ.2.2.2.2.2.1 ξ.2.2.2.2.2.2.2.2.2.2.2.2.1)∧(ASt ξ.1 ξ.2.1 ξ.2.2.1 ξ.2.2.2.1 ξ.2.2.2.2.1 ξ.2.2.2.2.2.1)∧(FArg W0 ξ.2.2.2.2.2.2.2.2.2.2.2.2.2 ξ.2.2.1 ξ.2.2.2.2.2.2.1 ξ.2.2.2.2.2.2.2.2.1)∧(FArg W0 ξ.2.2.2.2.2.2.2.2.2.2.2.2.2 ξ.2.2.2.1 ξ.2.2.2.2.2.2.2.2.2.1 ξ.2.2.2.2.2.2.2.2.2.2.2.1))) (μ:=(fun ξ:Nat × Int × List FB × List FB × Bool × DM × Option Addr × Nat × List Value × Option Addr × Nat × List Value × List Grp × List Grp=>2 - ξ.1)) (s0:=(0,n,F1,F2,db,M,na,nc,ncs,xa,xc,xcs,GD,T)) [2,4,7,10,11,12,13,70] kr rfl ⟨(by omega),hd,hst,hna,hxa⟩ ?_)))))))
      rintro ⟨j,n,F1,F2,db,M,na,nc,ncs,xa,xc,xcs,GD,T⟩ ⟨hj,hd,hst,hna,hxa⟩
      dsimp only at hj hd hst hna hxa
      obtain ⟨Sn,hnr,hnf,hnS⟩:=hna.rd
      obtain ⟨Sx,hxr,hxf,hxS⟩:=hxa.rd
      have hs0:=hst.n0
      have hs8:=hst.n8
      have hx9:=wr9 a1
      refine A2 (G_p [0] [2,4,7,10,11,12,13,70,71] (k:=A1 (A2 (D2 (b:=decide (((j:Nat):Int)<2)) kr (fun hc30=>?_) (fun hc30=>?_)))))
      ·
        have hjl:j<2:=by have:=of_decide_eq_true hc30; omega
        refine B6 (A1 (A2 (B8 (A2 (G_p [0,0] [2,4,7,10,11,12,13,17,70] (k:=A1 (A2 (A3 ?_))))))))
        refine A5 (j:=2) [0,0] (k:=Z0 (H':=([(b1,.cells #[.int .i64 a0,.int .i64 a1] 41 (0,0))]::(GD++(T++H)))) kr (E4 (vs:=[pt d3,.slice ka kl.length kc]) Tryz.func17 (Tri.heap (fun _ hw=>A8 hw fun _ x=>by simp only [List.flatten_append,List.flatten_cons,List.flatten_nil,List.count_append,List.append_nil] <;> omega) (cCrashD hd hst.fx _ ([[(b1,.cells #[.int .i64 a0,.int .i64 a1] 41 (0,0))]]++(T++H)) (by omega) (by omega) kl ka kc SK (hks (by have h9:=hc2; simp only [decide_eq_false_iff_not] at h9; omega)) hSK)) ?_))
        rintro _ _ ⟨GD31,rfl,hd32,rfl⟩
        refine E0 rfl (H':=([(b1,.cells #[.int .i64 a0,.int .i64 a1] 41 (0,0))]::(GD31++(T++H)))) (fun w h=>A8 h fun _ x=>by simp only [List.flatten_append,List.flatten_cons,List.flatten_nil,List.count_append,List.append_nil] <;> omega) (B5 [] [2,4,7,10,11,12,13,17,70] (k:=A1 (A2 ?_)))
        have hF1l:=hst.fok.len
        rcases hst.crashed kl with ⟨hnz,hgc⟩ | ⟨hn1,hgc⟩ | ⟨hdb,hfo2,hgc⟩
        ·
          refine A3 (A5 (j:=1) [0] (k:=E4 (vs:=[pt d3]) Tryz.func12 (Tri.heap (fun _ hw=>A8 hw fun _ x=>by simp only [List.flatten_append,List.flatten_cons,List.flatten_nil,List.count_append,List.append_nil] <;> omega) (cRead0 hd32 (O4 hst.fx kl) _ ([[(b1,.cells #[.int .i64 a0,.int .i64 a1] 41 (0,0))]]++(T++H)) (by have h:=hgc; rw [hnz] at h; exact gen_no h (P7 M kl)))) ?_))
          rintro _ _ ⟨rfl,rfl⟩
          refine E0 rfl (H':=([(b1,.cells #[.int .i64 a0,.int .i64 a1] 41 (0,0))]::(GD31++(T++H)))) (fun w h=>A8 h fun _ x=>by simp only [List.flatten_append,List.flatten_cons,List.flatten_nil,List.count_append,List.append_nil] <;> omega) (B5 [0,0,0,0,0,0,0] [2,4,7,10,11,12,13,17,18,19,20,70] (k:=A1 (A2 (G_p [0,0,0,1,1,1,1,1,1,1,1,1,1,1,1,1,1,1,1,1,1,1,1,1,1,3,0] [2,4,7,10,11,12,13,17,19,20,21,70] (k:=A1 (A2 (A2 (A3 ?_))))))))
          refine A5 (j:=8) [0,0,0,0,0,0,0,0] (k:=L1 115 [(113,true),(110,true)] (x:=.bool (n==0)) (y:=.bool true) (by rw [show (n==0)=true by first | exact beq_iff_eq.2 (by omega) | exact beq_eq_false_iff_ne.2 (by omega) | exact decide_eq_true (by omega) | exact decide_eq_false (by omega)]) (D5 (E':=[⟨2,[],.slice ka kl.length kc⟩,⟨4,[],pt b1⟩,⟨7,[],pt d3⟩,⟨10,[],.slice na F1.length nc⟩,⟨11,[],.slice xa F2.length xc⟩,⟨12,[],.int .i64 n⟩,⟨13,[],.bool db⟩,⟨17,[],.int .i64 ((j:Nat):Int)⟩,⟨19,[],.int .i64 0⟩,⟨20,[],.int .i64 60⟩,⟨70,[],.int .i64 ((j:Nat):Int)⟩,⟨118,[],.bool false⟩]) [2,0,2] [2,4,7,10,11,12,13,17,19,20,70,118] (k:=A1 (D9 kr (B6 (A1 (A2 (A2 ?_))))))))
          refine A3 (A5 (j:=3) [0,0,0] (k:=Y1 121 (x:=.bool (decide (0 > n))) (y:=.bool false) (by rw [show (decide (0 > n))=false by first | exact beq_iff_eq.2 (by omega) | exact beq_eq_false_iff_ne.2 (by omega) | exact decide_eq_true (by omega) | exact decide_eq_false (by omega)]) (B5 [0,1,1,3] [2,4,7,10,11,12,13,17,19,70,125] (k:=A1 (D9 kr (B6 (A1 (A2 ?_))))))))
          refine A3 (A5 (j:=1) [0] (k:=C7 (ch:=[]) (b:=b1) (off:=0) (len:=2) (sz:=1) (e:=3) (kd:=.i64) (j:=1) (hb:=(fun _=>⟨by decide,by decide⟩)) (k:=D0 0 1 rfl rfl (A5 (j:=8) [0,0,0,0,0] (k:=F0 135 ((IntKind.wrap .i64 (Int.tmod (IntKind.wrap .u64 a1) 9))+((j:Nat):Int)) (by omega) (by omega) kr (E4 (vs:=[pt d3,.int .i64 ((IntKind.wrap .i64 (Int.tmod (IntKind.wrap .u64 a1) 9))+((j:Nat):Int)),.bool false]) Tryz.func14 (Tri.heap (fun _ hw=>A8 hw fun _ x=>by simp only [List.flatten_append,List.flatten_cons,List.flatten_nil,List.count_append,List.append_nil] <;> omega) (cFailD hd32 (O4 hst.fx kl) _ ([[(b1,.cells #[.int .i64 a0,.int .i64 a1] 41 (0,0))]]++(T++H)) ((IntKind.wrap .i64 (Int.tmod (IntKind.wrap .u64 a1) 9))+((j:Nat):Int)) false)) ?_))))))
          rintro _ _ ⟨GD34,rfl,hd35,rfl⟩
          refine E0 rfl (H':=([(b1,.cells #[.int .i64 a0,.int .i64 a1] 41 (0,0))]::(GD34++(T++H)))) (fun w h=>A8 h fun _ x=>by simp only [List.flatten_append,List.flatten_cons,List.flatten_nil,List.count_append,List.append_nil] <;> omega) (B5 [] [2,4,7,10,11,12,13,70] (k:=A1 (A3 (A5 (j:=1) [0] (k:=E4 (vs:=[pt d3]) Tryz.func9 (Tri.heap (fun _ hw=>A8 hw fun _ x=>by simp only [List.flatten_append,List.flatten_cons,List.flatten_nil,List.count_append,List.append_nil] <;> omega) (cOpenC (n:=n) (F:=F1) hd35 (fx_fail (O4 hst.fx kl) (by first | exact wrap_b _ | (have h9:=wr9 a1; exact ⟨by omega,by omega⟩)) false) (by omega) (by omega) (hgc.fail _ false) (inv_fail (P7 M kl) _ false) hst.fok (by omega) (by omega) _ ([[(b1,.cells #[.int .i64 a0,.int .i64 a1] 41 (0,0))]]++(T++H)))) ?_)))))
          rintro _ _ ⟨pb36,GD37,GP38,rfl,hd39,rfl⟩
          refine E0 rfl (H':=([(b1,.cells #[.int .i64 a0,.int .i64 a1] 41 (0,0))]::(GD37++(GP38++(T++H))))) (fun w h=>A8 h fun _ x=>by simp only [List.flatten_append,List.flatten_cons,List.flatten_nil,List.count_append,List.append_nil] <;> omega) (B5 [] [2,4,7,10,11,12,13,70] (k:=D3 (A1 (A3 (A5 (j:=1) [0] (k:=F0 139 (((j:Nat):Int)+1) (by omega) (by omega) kr (B5 [0] [2,4,7,10,11,12,13,70] (k:=G8 (H':=([(b1,.cells #[.int .i64 a0,.int .i64 a1] 41 (0,0))]::(GD37++((GP38++T)++H)))) (fun w h=>A8 h fun _ x=>by simp only [List.flatten_append,List.flatten_cons,List.count_append] <;> omega) ?_))))))))
          refine F6 (s':=((j+1),n,F1,F2,db,(K4 [n - 1,n+1] (failM (N3 M kl) ((IntKind.wrap .i64 (Int.tmod (IntKind.wrap .u64 a1) 9))+((j:Nat):Int)) false)),na,nc,ncs,xa,xc,xcs,GD37,(GP38++T))) [2,4,7,10,11,12,13,70] kr rfl ⟨(by omega),hd39,(ast_next (by omega) (i:=8001+1000 * j) (Nat.le_refl _) (by first | exact wrap_b _ | (have h9:=wr9 a1; exact ⟨by omega,by omega⟩)) hgc (P7 M kl) (O4 hst.fx kl) hst.fok hst.fok2 (by dsimp only; omega) (by dsimp only; omega)),(hna.app),(hxa.app)⟩ (by omega)
        ·
          refine A3 (A5 (j:=1) [0] (k:=E4 (vs:=[pt d3]) Tryz.func12 (Tri.heap (fun _ hw=>A8 hw fun _ x=>by simp only [List.flatten_append,List.flatten_cons,List.flatten_nil,List.count_append,List.append_nil] <;> omega) (cReadG hd32 (O4 hst.fx kl) _ ([[(b1,.cells #[.int .i64 a0,.int .i64 a1] 41 (0,0))]]++(T++H)) n ⟨by omega,by omega⟩ F1 (gen_ok (by omega) hgc (P7 M kl) hst.fok))) ?_))
          rintro _ _ ⟨ZR41,ra42,rc43,cs44,rfl,hfi45,rfl⟩
          refine E0 rfl (H':=([(b1,.cells #[.int .i64 a0,.int .i64 a1] 41 (0,0))]::(GD31++(T++(ZR41++H))))) (fun w h=>A8 h fun _ x=>by simp only [List.flatten_append,List.flatten_cons,List.flatten_nil,List.count_append,List.append_nil] <;> omega) ?_
          skip
          refine B5 [0,0,0,0,0,0,0] [2,4,7,10,11,12,13,17,18,19,20,70] (k:=A1 (A2 (A3 (A5 (j:=6) [0,0,0,0,0,0] (k:=L1 87 [(84,true)] (x:=.bool (n==n)) (y:=.bool true) (by rw [show (n==n)=true by first | exact beq_iff_eq.2 (by omega) | exact beq_eq_false_iff_ne.2 (by omega) | exact decide_eq_true (by omega) | exact decide_eq_false (by omega)]) (A5 (j:=9) [0,0,0] (k:=I3 (ch:=[(88,true),(84,true)]) (f:=18) (fst:=#[]) (caps:=#[]) (vs:=[.slice ra42 F1.length rc43,.slice na F1.length nc]) (hf:=Tryz.func18) (hsure:=G0 kr) (hc:=same_ ra42 na _ _ F1 cs44 ncs (inZ ZR41) Sn hfi45.1 hfi45.2 hnr hnf (by omega) _ _ (fun y o h=>At.cons (C4 (C4 (at_z h)))) (fun y o h=>At.cons (C4 (At.app (hnS y o h))))) (k:=?_))))))))
          rintro _ _ ⟨rfl,rfl⟩
          refine B5 [2,0,1,1,1,1,1,1,1,1,1,1,1,1,2,2,0] [2,4,7,10,11,12,13,17,19,20,21,70] (k:=A1 (A2 (A2 (B9 (E':=[⟨2,[],.slice ka kl.length kc⟩,⟨4,[],pt b1⟩,⟨7,[],pt d3⟩,⟨10,[],.slice na F1.length nc⟩,⟨11,[],.slice xa F2.length xc⟩,⟨12,[],.int .i64 n⟩,⟨13,[],.bool db⟩,⟨17,[],.int .i64 ((j:Nat):Int)⟩,⟨19,[],.int .i64 n⟩,⟨20,[],.int .i64 0⟩,⟨70,[],.int .i64 ((j:Nat):Int)⟩,⟨118,[],.bool false⟩]) [0,0,0,1,1,1,1,1,1,1,3] [2,4,7,10,11,12,13,17,19,20,70,118] (k:=A1 (D9 kr (B6 (A1 ?_))))))))
          refine A2 (A2 (A3 (A5 (j:=3) [0,0,0] (k:=Y1 121 (x:=.bool (decide (n > n))) (y:=.bool false) (by rw [show (decide (n > n))=false by first | exact beq_iff_eq.2 (by omega) | exact beq_eq_false_iff_ne.2 (by omega) | exact decide_eq_true (by omega) | exact decide_eq_false (by omega)]) (B5 [0,1,1,3] [2,4,7,10,11,12,13,17,19,70,125] (k:=A1 (D9 kr (B6 ?_))))))))
          refine A1 (A2 (A3 (A5 (j:=1) [0] (k:=C7 (ch:=[]) (b:=b1) (off:=0) (len:=2) (sz:=1) (e:=3) (kd:=.i64) (j:=1) (hb:=(fun _=>⟨by decide,by decide⟩)) (k:=D0 0 1 rfl rfl (A5 (j:=8) [0,0,0,0,0] (k:=F0 135 ((IntKind.wrap .i64 (Int.tmod (IntKind.wrap .u64 a1) 9))+((j:Nat):Int)) (by omega) (by omega) kr (E4 (vs:=[pt d3,.int .i64 ((IntKind.wrap .i64 (Int.tmod (IntKind.wrap .u64 a1) 9))+((j:Nat):Int)),.bool false]) Tryz.func14 (Tri.heap (fun _ hw=>A8 hw fun _ x=>by simp only [List.flatten_append,List.flatten_cons,List.flatten_nil,List.count_append,List.append_nil] <;> omega) (cFailD hd32 (O4 hst.fx kl) _ ([[(b1,.cells #[.int .i64 a0,.int .i64 a1] 41 (0,0))]]++(T++(ZR41++H))) ((IntKind.wrap .i64 (Int.tmod (IntKind.wrap .u64 a1) 9))+((j:Nat):Int)) false)) ?_))))))))
          rintro _ _ ⟨GD47,rfl,hd48,rfl⟩
          refine E0 rfl (H':=([(b1,.cells #[.int .i64 a0,.int .i64 a1] 41 (0,0))]::(GD47++(T++(ZR41++H))))) (fun w h=>A8 h fun _ x=>by simp only [List.flatten_append,List.flatten_cons,List.flatten_nil,List.count_append,List.append_nil] <;> omega) (B5 [] [2,4,7,10,11,12,13,70] (k:=A1 (A3 (A5 (j:=1) [0] (k:=E4 (vs:=[pt d3]) Tryz.func9 (Tri.heap (fun _ hw=>A8 hw fun _ x=>by simp only [List.flatten_append,List.flatten_cons,List.flatten_nil,List.count_append,List.append_nil] <;> omega) (cOpenC (n:=n) (F:=F1) hd48 (fx_fail (O4 hst.fx kl) (by first | exact wrap_b _ | (have h9:=wr9 a1; exact ⟨by omega,by omega⟩)) false) (by omega) (by omega) (hgc.fail _ false) (inv_fail (P7 M kl) _ false) hst.fok (by omega) (by omega) _ ([[(b1,.cells #[.int .i64 a0,.int .i64 a1] 41 (0,0))]]++(T++(ZR41++H))))) ?_)))))
          rintro _ _ ⟨pb49,GD50,GP51,rfl,hd52,rfl⟩
          refine E0 rfl (H':=([(b1,.cells #[.int .i64 a0,.int .i64 a1] 41 (0,0))]::(GD50++(GP51++(T++(ZR41++H)))))) (fun w h=>A8 h fun _ x=>by simp only [List.flatten_append,List.flatten_cons,List.flatten_nil,List.count_append,List.append_nil] <;> omega) (B5 [] [2,4,7,10,11,12,13,70] (k:=D3 (A1 (A3 (A5 (j:=1) [0] (k:=F0 139 (((j:Nat):Int)+1) (by omega) (by omega) kr (B5 [0] [2,4,7,10,11,12,13,70] (k:=G8 (H':=([(b1,.cells #[.int .i64 a0,.int .i64 a1] 41 (0,0))]::(GD50++((GP51++(T++ZR41))++H)))) (fun w h=>A8 h fun _ x=>by simp only [List.flatten_append,List.flatten_cons,List.count_append] <;> omega) ?_))))))))
          refine F6 (s':=((j+1),n,F1,F2,db,(K4 [n - 1,n+1] (failM (N3 M kl) ((IntKind.wrap .i64 (Int.tmod (IntKind.wrap .u64 a1) 9))+((j:Nat):Int)) false)),na,nc,ncs,xa,xc,xcs,GD50,(GP51++(T++ZR41)))) [2,4,7,10,11,12,13,70] kr rfl ⟨(by omega),hd52,(ast_next (by omega) (i:=8001+1000 * j) (Nat.le_refl _) (by first | exact wrap_b _ | (have h9:=wr9 a1; exact ⟨by omega,by omega⟩)) hgc (P7 M kl) (O4 hst.fx kl) hst.fok hst.fok2 (by dsimp only; omega) (by dsimp only; omega)),(hna.appR.app),(hxa.appR.app)⟩ (by omega)
        ·
          have hF2l:=hfo2.len
          refine A3 (A5 (j:=1) [0] (k:=E4 (vs:=[pt d3]) Tryz.func12 (Tri.heap (fun _ hw=>A8 hw fun _ x=>by simp only [List.flatten_append,List.flatten_cons,List.flatten_nil,List.count_append,List.append_nil] <;> omega) (cReadG hd32 (O4 hst.fx kl) _ ([[(b1,.cells #[.int .i64 a0,.int .i64 a1] 41 (0,0))]]++(T++H)) (n+1) ⟨by omega,by omega⟩ F2 (gen_ok (by omega) hgc (P7 M kl) hfo2))) ?_))
          rintro _ _ ⟨ZR54,ra55,rc56,cs57,rfl,hfi58,rfl⟩
          refine E0 rfl (H':=([(b1,.cells #[.int .i64 a0,.int .i64 a1] 41 (0,0))]::(GD31++(T++(ZR54++H))))) (fun w h=>A8 h fun _ x=>by simp only [List.flatten_append,List.flatten_cons,List.flatten_nil,List.count_append,List.append_nil] <;> omega) ?_
          skip
          refine B5 [0,0,0,0,0,0,0] [2,4,7,10,11,12,13,17,18,19,20,70] (k:=A1 (A2 (A3 (A5 (j:=6) [0,0,0,0,0,0] (k:=L1 87 [(84,true)] (x:=.bool ((n+1)==n)) (y:=.bool false) (by rw [show ((n+1)==n)=false by first | exact beq_iff_eq.2 (by omega) | exact beq_eq_false_iff_ne.2 (by omega) | exact decide_eq_true (by omega) | exact decide_eq_false (by omega)]) (A5 (j:=13) [0,1,1,1,3,0,0] (k:=L1 94 [(93,false),(84,true)] (x:=.bool db) (y:=.bool true) (by rw [hdb]) (A5 (j:=18) [0,0,0,0,0] (k:=?_)))))))))
          refine L1 99 [(95,true),(93,false),(84,true)] (x:=.bool ((n+1)==(IntKind.wrap .i64 (n+1)))) (y:=.bool true) (by rw [w64 (x:=n+1) (by omega) (by omega),show ((n+1)==(n+1))=true by simp]) (A5 (j:=22) [2,0,0,0] (k:=I3 (ch:=[(101,true),(93,false),(84,true)]) (f:=18) (fst:=#[]) (caps:=#[]) (vs:=[.slice ra55 F2.length rc56,.slice xa F2.length xc]) (hf:=Tryz.func18) (hsure:=G0 kr) (hc:=same_ ra55 xa _ _ F2 cs57 xcs (inZ ZR54) Sx hfi58.1 hfi58.2 hxr hxf (by omega) _ _ (fun y o h=>At.cons (C4 (C4 (at_z h)))) (fun y o h=>At.cons (C4 (At.app (hxS y o h))))) (k:=?_)))
          rintro _ _ ⟨rfl,rfl⟩
          refine B5 [2,3,2,0] [2,4,7,10,11,12,13,17,19,20,21,70] (k:=A1 (A2 (A2 (B9 (E':=[⟨2,[],.slice ka kl.length kc⟩,⟨4,[],pt b1⟩,⟨7,[],pt d3⟩,⟨10,[],.slice na F1.length nc⟩,⟨11,[],.slice xa F2.length xc⟩,⟨12,[],.int .i64 n⟩,⟨13,[],.bool db⟩,⟨17,[],.int .i64 ((j:Nat):Int)⟩,⟨19,[],.int .i64 (n+1)⟩,⟨20,[],.int .i64 0⟩,⟨70,[],.int .i64 ((j:Nat):Int)⟩,⟨118,[],.bool false⟩]) [0,0,0,1,1,1,1,1,1,1,3] [2,4,7,10,11,12,13,17,19,20,70,118] (k:=A1 (D9 kr (B6 (A1 ?_))))))))
          refine A2 (A2 (A3 (A5 (j:=3) [0,0,0] (k:=Y1 121 (x:=.bool (decide ((n+1) > n))) (y:=.bool true) (by rw [show (decide ((n+1) > n))=true by first | exact beq_iff_eq.2 (by omega) | exact beq_eq_false_iff_ne.2 (by omega) | exact decide_eq_true (by omega) | exact decide_eq_false (by omega)]) (B5 [0,0,0,2] [2,4,7,10,11,12,13,17,19,70,125] (k:=A1 (G6 kr (G_p [0,0,0,0,0] [2,4,7,10,11,12,13,17,70] (k:=?_)))))))))
          refine A1 (A2 (A3 (A5 (j:=1) [0] (k:=C7 (ch:=[]) (b:=b1) (off:=0) (len:=2) (sz:=1) (e:=3) (kd:=.i64) (j:=1) (hb:=(fun _=>⟨by decide,by decide⟩)) (k:=D0 0 1 rfl rfl (A5 (j:=8) [0,0,0,0,0] (k:=F0 135 ((IntKind.wrap .i64 (Int.tmod (IntKind.wrap .u64 a1) 9))+((j:Nat):Int)) (by omega) (by omega) kr (E4 (vs:=[pt d3,.int .i64 ((IntKind.wrap .i64 (Int.tmod (IntKind.wrap .u64 a1) 9))+((j:Nat):Int)),.bool false]) Tryz.func14 (Tri.heap (fun _ hw=>A8 hw fun _ x=>by simp only [List.flatten_append,List.flatten_cons,List.flatten_nil,List.count_append,List.append_nil] <;> omega) (cFailD hd32 (O4 hst.fx kl) _ ([[(b1,.cells #[.int .i64 a0,.int .i64 a1] 41 (0,0))]]++(T++(ZR54++H))) ((IntKind.wrap .i64 (Int.tmod (IntKind.wrap .u64 a1) 9))+((j:Nat):Int)) false)) ?_))))))))
          rintro _ _ ⟨GD60,rfl,hd61,rfl⟩
          refine E0 rfl (H':=([(b1,.cells #[.int .i64 a0,.int .i64 a1] 41 (0,0))]::(GD60++(T++(ZR54++H))))) (fun w h=>A8 h fun _ x=>by simp only [List.flatten_append,List.flatten_cons,List.flatten_nil,List.count_append,List.append_nil] <;> omega) (B5 [] [2,4,7,10,11,12,13,70] (k:=A1 (A3 (A5 (j:=1) [0] (k:=E4 (vs:=[pt d3]) Tryz.func9 (Tri.heap (fun _ hw=>A8 hw fun _ x=>by simp only [List.flatten_append,List.flatten_cons,List.flatten_nil,List.count_append,List.append_nil] <;> omega) (cOpenC (n:=(n+1)) (F:=F2) hd61 (fx_fail (O4 hst.fx kl) (by first | exact wrap_b _ | (have h9:=wr9 a1; exact ⟨by omega,by omega⟩)) false) (by omega) (by omega) (hgc.fail _ false) (inv_fail (P7 M kl) _ false) hfo2 (by omega) (by omega) _ ([[(b1,.cells #[.int .i64 a0,.int .i64 a1] 41 (0,0))]]++(T++(ZR54++H))))) ?_)))))
          rintro _ _ ⟨pb62,GD63,GP64,rfl,hd65,rfl⟩
          refine E0 rfl (H':=([(b1,.cells #[.int .i64 a0,.int .i64 a1] 41 (0,0))]::(GD63++(GP64++(T++(ZR54++H)))))) (fun w h=>A8 h fun _ x=>by simp only [List.flatten_append,List.flatten_cons,List.flatten_nil,List.count_append,List.append_nil] <;> omega) (B5 [] [2,4,7,10,11,12,13,70] (k:=D3 (A1 (A3 (A5 (j:=1) [0] (k:=F0 139 (((j:Nat):Int)+1) (by omega) (by omega) kr (B5 [0] [2,4,7,10,11,12,13,70] (k:=G8 (H':=([(b1,.cells #[.int .i64 a0,.int .i64 a1] 41 (0,0))]::(GD63++((GP64++(T++ZR54))++H)))) (fun w h=>A8 h fun _ x=>by simp only [List.flatten_append,List.flatten_cons,List.count_append] <;> omega) ?_))))))))
          refine F6 (s':=((j+1),(n+1),F2,F2,false,(K4 [(n+1) - 1,(n+1)+1] (failM (N3 M kl) ((IntKind.wrap .i64 (Int.tmod (IntKind.wrap .u64 a1) 9))+((j:Nat):Int)) false)),xa,xc,xcs,xa,xc,xcs,GD63,(GP64++(T++ZR54)))) [2,4,7,10,11,12,13,70] kr rfl ⟨(by omega),hd65,(ast_next (by omega) (i:=8001+1000 * j) (Nat.le_refl _) (by first | exact wrap_b _ | (have h9:=wr9 a1; exact ⟨by omega,by omega⟩)) hgc (P7 M kl) (O4 hst.fx kl) hfo2 (fun h=>by cases h) (by dsimp only; omega) (by dsimp only; omega)),(hxa.appR.app),(hxa.appR.app)⟩ (by omega)
      ·
        skip
        refine H0 (A6 (A6 (C3 (A1 (A2 (B9 (E':=[⟨6,[],.bool true⟩]) [0] [6] (k:=A1 (C8 ?_))))))))
        refine G8 (fun w h=>(Sat.dropApp (Sat.dropApp (h).tail))) (C5 [.tmp 6] [.bool true] (k:=?_))
        exact ⟨rfl,rfl⟩
end Go.Proofs.YtdolpaagdpeagaaGreatDoor
namespace Go.Proofs.YtdolpaagdpeagaaGreatDoor
open Go.Sw Go.Lib Go.Vf Go.Sha Go.Pr Go.RowKit
theorem sorted_perm {F G:List FB} (h:F.Perm G):F8 F=F8 G:=by
  have go:∀ {F G:List FB},F.Perm G→∀ s,F8 F=some s→F8 G=some s:=fun h s hs=>by
    have ho:=K3 hs
    have htw:twoP s=true:=by
      unfold F8 at hs
      split at hs
      · rename_i h1; injection hs with hs; rw [← hs]; exact h1
      · cases hs
    exact sorted_told (ho.perm.trans h) (ho.asc.imp fun {a b} h1 h2=>List.lt_asymm h1 h2) (twoP_bad.1 htw)
  cases hF:F8 F with
  | some s=>exact (go h s hF).symm
  | none =>
    cases hG:F8 G with
    | none=>rfl
    | some s=>rw [go h.symm s hG] at hF; cases hF
theorem pub_perm {p:PM} {M:DM} {F G:List FB} (h:F.Perm G):E8 p M F=E8 p M G:=by unfold E8; rw [sorted_perm h]
theorem turn_at {zs:List Int} {k:Nat} (h:k<zs.length):(zs.map (Value.int .u8))[k]? = some (.int .u8 (zs.getD k 0)):=by
  rw [List.getElem?_map,List.getD,List.getElem?_eq_getElem h]; rfl
theorem turn_set {zs:List Int} {k:Nat} {v:Int}:(zs.map (Value.int .u8)).set k (.int .u8 v)=(zs.set k v).map (Value.int .u8):=by rw [List.map_set]
theorem turn_ne {zs:List Int} {k:Nat} (h:k<zs.length):zs.map (Value.int .u8)≠[]:=fun e=>by
  have:=congrArg List.length e
  rw [List.length_map,List.length_nil] at this; omega
theorem u8z2 (l:List UInt8):u8s l=(l.map fun b=>(b.toNat:Int)).map (Value.int .u8):=by unfold u8s; rw [List.map_map]; rfl
def BRow (z:SE) (g:Grp):Prop:=∃ zs:List Int,zs.length=z.1.2.size∧Go.Sw.Own 5 1 (.slice z.2.1 z.1.2.size z.2.2) g z.1.2.size (zs.map (Value.int .u8))
inductive ZRel (P:SE→Grp→Prop):List SE→List Grp→Prop
  | nil:ZRel P [] []
  | cons {z:SE} {g:Grp} {l:List SE} {G:List Grp}:P z g→ZRel P l G→ZRel P (z::l) (g::G)
theorem ZRel.snoc {P:SE→Grp→Prop} {z:SE} {g:Grp} (h:P z g):∀ {l:List SE} {G:List Grp},ZRel P l G→ZRel P (l++[z]) (G++[g])
  | [],_,.nil=>.cons h .nil
  | _::_,_,.cons h1 h2=>.cons h1 (ZRel.snoc h h2)
theorem ZRel.imp {P Q:SE→Grp→Prop} (hPQ:∀ z g,P z g→Q z g):∀ {l:List SE} {G:List Grp},ZRel P l G→ZRel Q l G
  | [],_,.nil=>.nil
  | _::_,_,.cons h1 h2=>.cons (hPQ _ _ h1) (ZRel.imp hPQ h2)
theorem ZRel.get {P:SE→Grp→Prop}:∀ {l:List SE} {G:List Grp} {k:Nat} (hk:k<l.length),ZRel P l G→∃ A g B,G=A++g::B∧P l[k] g∧∀ g',P l[k] g'→ZRel P l (A++g'::B)
  | [],_,_,hk,_=>absurd hk (Nat.not_lt_zero _)
  | _::_,_,0,_,.cons (g:=g) (G:=G) h1 h2=>⟨[],g,G,rfl,h1,fun g' h=>.cons h h2⟩
  | _::l,_,k+1,hk,.cons (g:=g0) h1 h2=>by
    obtain ⟨A,g,B,e,h3,h4⟩:=ZRel.get (l:=l) (k:=k) (by simpa using hk) h2
    exact ⟨g0::A,g,B,by rw [e]; rfl,h3,fun g' h=>.cons h1 (h4 g' h)⟩
def FRow (z:SE) (g:Grp):Prop:=Go.Sw.Own 5 1 (.slice z.2.1 z.1.2.size z.2.2) g z.1.2.size (u8s z.1.2.data.toList)
theorem frow_b {z:SE} {g:Grp} (h:FRow z g):BRow z g:=⟨z.1.2.data.toList.map fun b=>(b.toNat:Int),by rw [List.length_map,Array.length_toList]; rfl,by rw [← u8z2]; exact h⟩
theorem frow_ok {z:SE} {g:Grp} (h:FRow z g):ZOk (Go.Sw.inG g) z:=by
  obtain ⟨a,c,e,hr,hs⟩:=clone_z h
  injection e with e1 e2 e3
  unfold ZOk
  rw [e1,e3]; exact ⟨hr,hs⟩
theorem zrel_ok:∀ {l:List SE} {G:List Grp},ZRel FRow l G→∀ z∈l,ZOk (inZ G) z
  | [],_,.nil,_,h=>absurd h List.not_mem_nil
  | _::_,_,.cons h1 h2,z,h=>by
    rcases List.mem_cons.1 h with rfl | h
    · exact T8 (fun _ _ h=>inZ_here h) (frow_ok h1)
    · exact T8 (fun b o hb=>by
        have hb:(b,o)∈_:=hb
        show (b,o)∈(_::_:List Grp).flatten
        rw [List.flatten_cons]; exact List.mem_append_right _ hb) (zrel_ok h2 z h)
theorem turned_arg {W0:World} {zl:List SE} {Z X:List Grp} {g:Grp} {t:TypeId} {a:Option Addr} {n c:Nat} {F:List FB} (hO:Go.Sw.Own t 2 (.slice a n c) g n (C1 zl)) (hZ:ZRel FRow zl Z) (hF:zl.map Prod.fst=F) (hX:∀ p,p∈g∨p∈Z.flatten→p∈X.flatten):FArg W0 X F a (C1 zl):=by
  subst hF
  exact ⟨⟨fun y o=>Go.Sw.inG g y o∨inZ Z y o,(I4 hO).mono fun _ _ h=>.inl h,frd_z fun z hz=>T8 (fun _ _ h=>.inr h) (zrel_ok hZ z hz),fun y o h=>.inr (hX _ h)⟩⟩
theorem rev_next {F:List FB} {zl:List SE} {k:Nat} {f:FB} {w:Option Addr × Nat} (h:zl.map Prod.fst=(F.drop k).reverse) (h1:1≤k) (hk:k≤F.length) (hf:f=F[k - 1]'(by omega)):(zl++[(f,w)]).map Prod.fst=(F.drop (k - 1)).reverse:=by
  rw [List.map_append,h,List.drop_eq_getElem_cons (i:=k - 1) (by omega),List.reverse_cons,← hf,show k - 1+1=k by omega]; rfl
theorem same_t {F:List FB} (hl:longM F=false) {e2:Int} {p2:PM} {M2:DM} (hst:TSt 0 ⟨0,[],false⟩ (K4 [-1,1] (newM 1048576))) (hp:E8 ⟨0,[],false⟩ (K4 [-1,1] (newM 1048576)) F=(e2,p2,M2)):TSt 1 p2 M2∧((e2≠0∧p2.n=0)∨(e2=0∧p2.n=1)):=by
  obtain ⟨_,⟨h1,h2,h3⟩ | ⟨h1,s,_,_,h2,h3⟩⟩:=pub_t hst (by omega) hl hp
  · subst h2; exact ⟨h3,.inl ⟨h1,rfl⟩⟩
  · subst h2; exact ⟨h3,.inr ⟨h1,rfl⟩⟩
theorem cPubN {n:Nat} {F:List FB} (hnF:n=F.length) {d:Nat} {M:DM} {GD:List Grp} (h:DD d M GD) {i q:Nat} (hf:Fx i q M) (W0:World) (X:List Grp) {pb:Nat} {p:PM} {GP:List Grp} (hp:PrV pb d p GP) (hi:i+2 * q+200≤100000) (hq:q+30≤10000) (hpn:0≤p.n∧p.n<98) {fa:Option Addr} (fc:Nat) {cs:List Value} (hF:FArg W0 X F fa cs) (hn20:F.length≤20) (hz:∀ f∈F,f.1.size≤1000000) (hb:∀ f∈F,f.2.size≤100000)
    {e2:Int} {p2:PM} {M2:DM} (hpub:E8 p M F=(e2,p2,M2)) :
    Tri Tryz.prog 10 #[pt pb,.slice fa n fc] W0 (GD++(GP++X)) (fun v H'=>∃ GD' GP',v=.int .i64 e2∧DD d M2 GD'∧PrV pb d p2 GP'∧H'=GD'++(GP'++X)):=by
  subst hnF; exact cPub h hf W0 X hp hi hq hpn fc hF hn20 hz hb hpub
theorem nil_farg_same {H:List Grp} {W0:World}:∀ (y:Nat) (o:Obj),(fun _ _=>False:Nat→Obj→Prop) y o→At W0 H y o:=fun _ _ h=>h.elim
theorem same23_ (fa:Option Addr) (fc:Nat) (F:List FB) (cs:List Value) (S:Nat→Obj→Prop) (hrd:Rd S fa cs) (hF:FRd S F cs) (hFn:F.length≤9223372036854775807) (W0:World) (H:List Grp) (hS:∀ y o,S y o→At W0 [] y o):Tri Tryz.prog 6 #[.slice fa F.length fc] W0 H (fun v H'=>v=.bool true∧H'=H):=by
 obtain ⟨ho1,ho2,ho3,ho4,ho5⟩:=opened 1048576 (by decide)
 have hst0:TSt 0 ⟨0,[],false⟩ (K4 [-1,1] (newM 1048576)):=⟨ho2,ho5,fok_nil,fun f h=>absurd h List.not_mem_nil,Int.le_refl _,Int.le_refl _,rfl,fun _=>rfl⟩
 refine D6 155 Tryz.func6 ?_
 refine A2 (B9 (E':=[⟨0,[],.slice fa F.length fc⟩]) [0] [0] (k:=A1 (A2 (A2 (A3 (G1 Tryz.func7 (first_ _ _) (B5 [0] [0,27] (k:=A1 ?_))))))))
 refine D9 kr (B6 (A1 (A2 (A2 (A3 (A5 (j:=2) [0,0] (k:=G1 Tryz.func15 (long_ fa fc F cs S hrd hF (by omega) _ _ (fun y o h=>at_up (hS y o h))) (B5 [] [0,30] (k:=?_)))))))))
 refine A1 (D2 (b:=(longM F)) kr (fun hc1=>?_) (fun hc1=>?_))
 ·
  skip
  refine A2 (B9 (E':=[⟨2,[],.bool true⟩]) [0] [2] (k:=A1 (C8 (C0 (C5 [.tmp 2] [.bool true] (k:=?_))))))
  exact ⟨rfl,rfl⟩
 ·
  have hlf:longM F=false:=hc1
  obtain ⟨hl1,hl2,hl3⟩:=X8 hlf
  refine B6 (A1 (A2 (A3 (E4 (vs:=[.int .i64 1048576]) Tryz.func8 (Tri.heap (fun _ hw=>A8 hw fun _ x=>by simp only [] <;> omega) (cNewP 1048576 rfl _ H)) ?_))))
  rintro _ _ ⟨d2,GD3,rfl,hd4,rfl⟩
  refine E0 rfl (H':=(GD3++H)) (fun w h=>A8 h fun _ x=>by simp only [List.flatten_append,List.count_append] <;> omega) (E4 (vs:=[.int .i64 1048576]) Tryz.func8 (Tri.heap (fun _ hw=>A8 hw fun _ x=>by simp only [List.flatten_append,List.count_append] <;> omega) (cNewP 1048576 rfl _ (GD3++H))) ?_)
  rintro _ _ ⟨d5,GD6,rfl,hd7,rfl⟩
  refine E0 rfl (H':=(GD6++(GD3++H))) (fun w h=>A8 h fun _ x=>by simp only [List.flatten_append,List.count_append] <;> omega) (B5 [0,0] [0,3,4] (k:=A1 (A2 (A3 (A5 (j:=1) [0] (k:=E4 (vs:=[pt d2]) Tryz.func9 (Tri.heap (fun _ hw=>A8 hw fun _ x=>by simp only [List.flatten_append,List.count_append] <;> omega) (cOpen0 hd4 (fx_new 1048576) _ (GD6++H) (by omega) (by omega) ho1)) ?_))))))
  rintro _ _ ⟨pb8,GD9,GP10,rfl,hd11,hp12,rfl⟩
  refine E0 rfl (H':=(GD9++(GP10++(GD6++H)))) (fun w h=>A8 h fun _ x=>by simp only [List.flatten_append,List.count_append] <;> omega) (B5 [0,0,0,0,0] [0,3,4,5] (k:=A1 (A2 (A3 (A5 (j:=1) [0] (k:=E4 (vs:=[pt d5]) Tryz.func9 (Tri.heap (fun _ hw=>A8 hw fun _ x=>by simp only [List.flatten_append,List.count_append] <;> omega) (cOpen0 hd7 (fx_new 1048576) _ (GD9++(GP10++H)) (by omega) (by omega) ho1)) ?_))))))
  rintro _ _ ⟨pb13,GD14,GP15,rfl,hd16,hp17,rfl⟩
  refine E0 rfl (H':=(GD14++(GP15++(GD9++(GP10++H))))) (fun w h=>A8 h fun _ x=>by simp only [List.flatten_append,List.count_append] <;> omega) (B5 [0,0,0,0,0] [0,3,4,5,7] (k:=A1 (A2 (B9 (E':=[⟨0,[],.slice fa F.length fc⟩,⟨3,[],pt d2⟩,⟨4,[],pt d5⟩,⟨5,[],pt pb8⟩,⟨7,[],pt pb13⟩,⟨9,[],.slice none 0 0⟩]) [0] [0,3,4,5,7,9] (k:=A1 (A2 (A2 (A3 ?_))))))))
  refine A5 (j:=3) [0,0,0] (k:=F0 45 (((F.length:Nat):Int) - 1) (by omega) (by omega) kr (B5 [0] [0,3,4,5,7,9,10] (k:=A1 (B8 (G_heap (H':=([]::(GD14++(GP15++(GD9++(GP10++([]++H))))))) (fun w h=>A8 h fun _ x=>by simp only [List.flatten_append,List.flatten_cons,List.flatten_nil,List.count_append,List.count_nil] <;> omega) (I6 (EI:=(fun ξ:Nat × Nat × Option Addr × Nat × Grp × List SE × List Grp=>[⟨0,[],.slice fa F.length fc⟩,⟨3,[],pt d2⟩,⟨4,[],pt d5⟩,⟨5,[],pt pb8⟩,⟨7,[],pt pb13⟩,⟨9,[],.slice ξ.2.2.1 ξ.2.1 ξ.2.2.2.1⟩,⟨10,[],.int .i64 (((ξ.1:Nat):Int) - 1)⟩])) (HI:=(fun ξ:Nat × Nat × Option Addr × Nat × Grp × List SE × List Grp=>(ξ.2.2.2.2.1::(GD14++(GP15++(GD9++(GP10++(ξ.2.2.2.2.2.2++H)))))))) (Φ:=(fun ξ:Nat × Nat × Option Addr × Nat × Grp × List SE × List Grp=>(ξ.1+ξ.2.1=F.length)∧(Go.Sw.Own 34 2 (.slice ξ.2.2.1 ξ.2.1 ξ.2.2.2.1) ξ.2.2.2.2.1 ξ.2.1 (C1 ξ.2.2.2.2.2.1))∧(ξ.2.2.2.2.2.1.map Prod.fst=(F.drop ξ.1).reverse)∧(ZRel FRow ξ.2.2.2.2.2.1 ξ.2.2.2.2.2.2))) (μ:=(fun ξ:Nat × Nat × Option Addr × Nat × Grp × List SE × List Grp=>ξ.1)) (s0:=(F.length,0,none,0,[],[],[])) [0,3,4,5,7,9,10] kr rfl ⟨(Nat.add_zero _),Go.Sw.Own.nil,(by rw [List.drop_length]; rfl),.nil⟩ ?_))))))
  rintro ⟨k,m,a,c,g,zl,Z⟩ ⟨hkm,hO,hzl,hZ⟩
  dsimp only at hkm hO hzl hZ
  refine A2 (A2 (G_p [0,0] [0,3,4,5,7,9,10,47] (k:=A1 (D2 (b:=decide ((((k:Nat):Int) - 1) ≥ 0)) kr (fun hc19=>?_) (fun hc19=>?_)))))
  ·
   have hk1:1≤k:=by have:=of_decide_eq_true hc19; omega
   obtain ⟨ba,bc,hge,hgr,hgc⟩:=hF.get (k:=k - 1) (by omega)
   obtain ⟨f,hfk⟩:∃ f,f=F[k - 1]'(by omega):=⟨_,rfl⟩
   rw [← hfk] at hge hgr hgc
   have hfm:f∈F:=by rw [hfk]; exact List.getElem_mem _
   have hf2:=hl2 f hfm
   refine B6 (A1 (A2 (B8 (F4 (GD14++(GP15++(GD9++(GP10++(Z++H))))) kr (E2 (fuel:=14) [(0,0),(1,0),(2,0)] (fun w h=>(h.pk 1 [])) (k:=A9 3 kr (fun w h=>(h.pk 1 [])) (L2 F.length (((k:Nat):Int) - 1) 2 hrd (by exact ⟨by omega,by omega,P8 hF (k:=k - 1) (by omega)⟩) (B4 kr rfl)) (E2 (fuel:=12) [(4,0)] (fun w h=>(h.pk 1 [])) (k:=A9 5 kr (fun w h=>(h.pk 1 [])) (O3 ((Int.toNat (((k:Nat):Int) - 1)) * 2) (.string f.1) hrd (fun y o h=>at_up (hS y o h)) (fun _=>(by rw [show (((k:Nat):Int) - 1).toNat=k - 1 by omega]; exact elt2 hge 0 (by show 0<2; omega))) (B4 kr rfl)) ?_))))))))
   refine E2 (fuel:=9) [(7,0),(8,0)] (fun w h=>(h.pk 1 [])) (k:=A9 9 kr (fun w h=>(h.pk 1 [])) (L2 F.length (((k:Nat):Int) - 1) 2 hrd (by exact ⟨by omega,by omega,P8 hF (k:=k - 1) (by omega)⟩) (B4 kr rfl)) ?_)
   have hw20:Addr.add (eltA fa ((Int.toNat (((k:Nat):Int) - 1)) * 2)) 1=eltA fa ((Int.toNat (((k:Nat):Int) - 1)) * 2+1):=eltA_add _ _ _
   refine GH_pure (E':=[⟨60,[],.pointer (some (eltA fa ((Int.toNat (((k:Nat):Int) - 1)) * 2+1)))⟩,⟨55,[],.string f.1⟩,⟨50,[],.slice a m c⟩,⟨0,[],.slice fa F.length fc⟩,⟨3,[],pt d2⟩,⟨4,[],pt d5⟩,⟨5,[],pt pb8⟩,⟨7,[],pt pb13⟩,⟨9,[],.slice a m c⟩,⟨10,[],.int .i64 (((k:Nat):Int) - 1)⟩]) 10 0 kr (fun w h=>(h.pk 1 [])) (Eq.trans (b:=some [⟨60,[],.pointer (some (Addr.add (eltA fa ((Int.toNat (((k:Nat):Int) - 1)) * 2)) 1))⟩,⟨55,[],.string f.1⟩,⟨50,[],.slice a m c⟩,⟨0,[],.slice fa F.length fc⟩,⟨3,[],pt d2⟩,⟨4,[],pt d5⟩,⟨5,[],pt pb8⟩,⟨7,[],pt pb13⟩,⟨9,[],.slice a m c⟩,⟨10,[],.int .i64 (((k:Nat):Int) - 1)⟩]) kr (by simp only [hw20])) (A9 11 kr (fun w h=>(h.pk 1 [])) (O3 ((Int.toNat (((k:Nat):Int) - 1)) * 2+1) (.slice ba f.2.size bc) hrd (fun y o h=>at_up (hS y o h)) (fun _=>(by rw [show (((k:Nat):Int) - 1).toNat=k - 1 by omega]; exact elt2 hge 1 (by show 1<2; omega))) (B4 kr rfl)) (C2 6 (k:=N2 5 0 [] (fun b21=>A7 kr (fun w h=>(h.pk 2 [])) (C2 12 (k:=M0 (i:=12) (ch:=[]) (t:=31) (tx:=31) (e:=5) (inf:=Tryz.t5) (s:=.slice (some ⟨b21,0,none⟩) 0 0) (x:=.slice ba f.2.size bc) (n:=0) (m:=f.2.size) (j:=0) (cs:=[]) (news:=(u8s f.2.data.toList)) (g:=[(b21,.cells #[] 5 (0,0))]) (S:=S) rfl rfl rfl rfl kr kr kr rfl rfl (.inl ⟨5,kr⟩) (fun ⟨_,h⟩=>by cases h) (fun _=>⟨5,kr⟩) kr kr kr rfl (Go.Sw.Own.lit rfl) (SrcOf.slice _ _ _ _ hgr (rd_non hgr)) (fun y o h=>at_up (hS y o h)) (by show (u8s _).length=_ * 1; rw [u8s_len,Nat.mul_one]; exact Array.length_toList) (u8s_one) (by omega) (by show (0+f.2.size) * 1≤140737488355328; omega) (fun v22 g23 hO24=>?_)))))))
   replace hO24:=own_from0 hO24
   obtain ⟨a25,cap26,rfl,hcap27,hrd28⟩:=hO24.shape
   refine A7 kr (fun w h=>(h.pkT 2 [])) (E2 (fuel:=3) [(13,0)] (fun w h=>(h.pkT 2 [])) (k:=C2 14 (k:=N2 34 1 [.string f.1,.slice a25 f.2.size cap26] (fun b29=>A7 kr (fun w h=>(h.pkT 3 [])) (C2 15 (k:=M0 (i:=15) (ch:=[]) (t:=35) (tx:=35) (e:=34) (inf:=Tryz.t34) (s:=.slice a m c) (x:=.slice (some ⟨b29,0,none⟩) 1 1) (n:=m) (m:=1) (j:=2) (cs:=(C1 zl)) (news:=[.string f.1,.slice a25 f.2.size cap26]) (g:=g) (S:=(inG [(b29,.cells #[.string f.1,.slice a25 f.2.size cap26] 34 (0,0))])) rfl rfl rfl rfl kr kr kr rfl rfl (.inl ⟨34,kr⟩) (fun ⟨_,h⟩=>by cases h) (fun _=>⟨34,kr⟩) kr kr kr rfl hO (SrcOf.slice _ _ _ _ Rd.lit (fun h=>by cases h)) (H6 0 rfl) rfl (by intro u hu; simp only [List.mem_cons,List.not_mem_nil,or_false] at hu; rcases hu with rfl | rfl <;> rfl) (by omega) (by show (m+1) * 40≤140737488355328; omega) (fun v30 g31 hO32=>?_)))))))
   obtain ⟨a33,cap34,rfl,hcap35,hrd36⟩:=hO32.shape
   refine A7 kr (fun w h=>(h.pkT 3 [])) (E2 (fuel:=0) [(16,0)] (fun w h=>(h.pkT 3 [])) (k:=D8 (E':=[⟨0,[],.slice fa F.length fc⟩,⟨3,[],pt d2⟩,⟨4,[],pt d5⟩,⟨5,[],pt pb8⟩,⟨7,[],pt pb13⟩,⟨9,[],.slice a33 (m+1) cap34⟩,⟨10,[],.int .i64 (((k:Nat):Int) - 1)⟩]) [0,3,4,5,7,9,10] (k:=D3 (A1 (A3 (A5 (j:=2) [0,0] (k:=F0 49 ((((k:Nat):Int) - 1) - 1) (by omega) (by omega) kr (B5 [0] [0,3,4,5,7,9,10] (k:=?_)))))))))
   refine N_pkT 1 [2,1] (g31::g23::(GD14++(GP15++(GD9++(GP10++(Z++H)))))) (G8 (H':=(g31::(GD14++(GP15++(GD9++(GP10++((Z++[g23])++H))))))) (fun w h=>A8 h fun _ x=>by simp only [List.flatten_append,List.flatten_cons,List.flatten_nil,List.count_append,List.append_nil] <;> omega) (N_env (E':=[⟨0,[],.slice fa F.length fc⟩,⟨3,[],pt d2⟩,⟨4,[],pt d5⟩,⟨5,[],pt pb8⟩,⟨7,[],pt pb13⟩,⟨9,[],.slice a33 (m+1) cap34⟩,⟨10,[],.int .i64 ((((k:Nat):Int) - 1) - 1)⟩]) kr (F6 (s':=((k - 1),(m+1),a33,cap34,g31,(zl++[(f,a25,cap26)]),(Z++[g23]))) [0,3,4,5,7,9,10] (by rw [show (((k - 1:Nat):Nat):Int) - 1=((k:Nat):Int) - 1 - 1 by omega]; kernel_rfl) rfl ⟨(by dsimp only; omega),(X3 hO32 (by rw [O5]; rfl)),(rev_next hzl (by omega) (by omega) hfk),(hZ.snoc hO24)⟩ (by dsimp only; omega))))
  ·
   have hk0:k=0:=by have:=of_decide_eq_false hc19; omega
   have hzr:zl.map Prod.fst=F.reverse:=by rw [hzl,hk0,List.drop_zero]
   have hmF:m=F.reverse.length:=by rw [List.length_reverse]; omega
   refine H0 (A6 (A6 (C3 (A1 (A2 (A3 (A5 (j:=2) [0,0] (k:=Z0 (H':=(g::(GD14++(GP15++(GD9++(GP10++(Z++H))))))) kr ?_))))))))
   obtain ⟨e2,p2,M2,hpub⟩:∃ e2 p2 M2,E8 ⟨0,[],false⟩ (K4 [-1,1] (newM 1048576)) F=(e2,p2,M2):=⟨_,_,_,rfl⟩
   obtain ⟨hst2,hcs2⟩:=same_t hlf hst0 hpub
   refine E4 (vs:=[pt pb8,.slice fa F.length fc]) Tryz.func10 (Tri.heap (fun _ hw=>A8 hw fun _ x=>by simp only [List.flatten_append,List.flatten_cons,List.flatten_nil,List.count_append,List.append_nil] <;> omega) (cPub hd11 ho5 _ ([g]++(GD14++(GP15++(Z++H)))) hp12 (by omega) (by omega) ⟨by show (0:Int)≤0; decide,by show (0:Int)<98; decide⟩ fc (FArg.base ⟨⟨S,hrd,hF,hS⟩⟩) hl1 (fun f hf=>by have:=hl3 f hf; omega) (fun f hf=>by have:=hl2 f hf; omega) hpub)) ?_
   rintro _ _ ⟨GD38,GP39,rfl,hd40,hp41,rfl⟩
   refine E0 rfl (H':=(g::(GD38++(GP39++(GD14++(GP15++(Z++H))))))) (fun w h=>A8 h fun _ x=>by simp only [List.flatten_append,List.flatten_cons,List.flatten_nil,List.count_append,List.append_nil] <;> omega) (A5 (j:=5) [0,0] (k:=E4 (vs:=[pt pb13,.slice a m c]) Tryz.func10 (Tri.heap (fun _ hw=>A8 hw fun _ x=>by simp only [List.flatten_append,List.flatten_cons,List.flatten_nil,List.count_append,List.append_nil] <;> omega) (cPubN hmF hd16 ho5 _ ([g]++(GD38++(GP39++(Z++H)))) hp17 (by omega) (by omega) ⟨by show (0:Int)≤0; decide,by show (0:Int)<98; decide⟩ c (turned_arg (F:=F.reverse) hO hZ hzr (fun p hp=>by simp only [List.flatten_append,List.flatten_cons,List.flatten_nil,List.mem_append]; rcases hp with hp | hp <;> simp only [hp,true_or,or_true])) (by rw [List.length_reverse]; exact hl1) (fun f hf=>by have:=hl3 f (List.mem_reverse.1 hf); omega) (fun f hf=>by have:=hl2 f (List.mem_reverse.1 hf); omega) ((pub_perm (List.reverse_perm F)).trans hpub))) ?_))
   rintro _ _ ⟨GD42,GP43,rfl,hd44,hp45,rfl⟩
   refine E0 rfl (H':=(g::(GD42++(GP43++(GD38++(GP39++(Z++H))))))) (fun w h=>A8 h fun _ x=>by simp only [List.flatten_append,List.flatten_cons,List.flatten_nil,List.count_append,List.append_nil] <;> omega) (B5 [0,0] [3,4,5,7,9,11,12] (k:=A1 (A2 (A2 (G_p [0,0,0] [3,4,5,7,11,12,72,73,74] (k:=A1 (B8 ?_)))))))
   have hZB:=hZ.imp fun z g h=>frow_b h
   have hzn:zl.length=m:=by have h9:=congrArg List.length hzl; rw [List.length_map,List.length_reverse,List.length_drop] at h9; omega
   refine I6 (EI:=(fun ξ:Nat × List Grp=>[⟨3,[],pt d2⟩,⟨4,[],pt d5⟩,⟨5,[],pt pb8⟩,⟨7,[],pt pb13⟩,⟨11,[],.int .i64 e2⟩,⟨12,[],.int .i64 e2⟩,⟨72,[],.slice a m c⟩,⟨73,[],.int .i64 ((m:Nat):Int)⟩,⟨74,[],.int .i64 ((ξ.1:Nat):Int)⟩])) (HI:=(fun ξ:Nat × List Grp=>(g::(GD42++(GP43++(GD38++(GP39++(ξ.2++H)))))))) (Φ:=(fun ξ:Nat × List Grp=>(ξ.1≤m)∧(ZRel BRow zl ξ.2))) (μ:=(fun ξ:Nat × List Grp=>m - ξ.1)) (s0:=(0,Z)) [3,4,5,7,11,12,72,73,74] kr rfl ⟨(by omega),hZB⟩ ?_
   rintro ⟨q,ZM⟩ ⟨hq,hZM⟩
   dsimp only at hq hZM
   refine A2 (G_p [0] [3,4,5,7,11,12,72,73,74,75] (k:=A1 (A2 (D2 (b:=decide (((q:Nat):Int)<((m:Nat):Int))) kr (fun hc46=>?_) (fun hc46=>?_)))))
   ·
    have hqm:q<m:=by simp only [decide_eq_true_eq] at hc46; omega
    have hml2:q<zl.length:=by omega
    obtain ⟨z,hzm⟩:∃ z,z=zl.getD q default:=⟨_,rfl⟩
    have hze:zl[q]=z:=by rw [hzm,List.getD,List.getElem?_eq_getElem hml2]; rfl
    have hzs2:z.1.2.size≤500:=hl2 z.1 (List.mem_reverse.1 (by rw [← hzr]; exact List.mem_map_of_mem (by rw [← hze]; exact List.getElem_mem hml2)))
    obtain ⟨A,gB,B,rfl,hbr,hback⟩:=hZM.get hml2
    rw [hze] at hbr hback
    obtain ⟨zs0,hzs0,hO0⟩:=hbr
    refine G_heap (H':=(g::gB::(GD42++(GP43++(GD38++(GP39++(A++(B++H)))))))) (fun w h=>A8 h fun _ x=>by simp only [List.flatten_append,List.flatten_cons,List.count_append] <;> omega) (B6 (A1 (A2 (B8 (A2 (A3 (L2 (a:=a) (S:=(inG g)) (cs:=(C1 zl)) m ((q:Nat):Int) 2 (I4 hO) (by exact ⟨by omega,by omega,cells_nn (by omega)⟩) (L0 (ch:=[]) (a:=a) (q:=q * 2) (S:=(inG g)) (cs:=(C1 zl)) (l:=[.string z.1.1,.slice z.2.1 z.1.2.size z.2.2]) (hrd:=I4 hO) (hS:=H6 0 rfl) (hl:=List.cons_ne_nil _ _) (hv:=(fun _=>(by rw [hzm]; exact elt2 (z_get hml2 rfl)))) (k:=?_)))))))))
    refine O0 (.agg #[.string eB,.slice none 0 0]) (fun b47=>M8 0 0 (.agg #[.string z.1.1,.slice z.2.1 z.1.2.size z.2.2]) rfl (B5 [] [3,4,5,7,11,12,14,72,73,74] (k:=A1 (A2 (A3 (A5 (j:=1) [0] (k:=D0 0 1 rfl rfl (B5 [0,0] [3,4,5,7,11,12,14,72,73,74,80,81] (k:=?_)))))))))
    refine A1 (B8 (G_pkT 0 [2,0,0] (gB::[(b47,.cells #[.string z.1.1,.slice z.2.1 z.1.2.size z.2.2] 34 (0,0))]::g::(GD42++(GP43++(GD38++(GP39++(A++(B++H))))))) (I6 (EI:=(fun ξ:Nat × List Int × Grp=>[⟨3,[],pt d2⟩,⟨4,[],pt d5⟩,⟨5,[],pt pb8⟩,⟨7,[],pt pb13⟩,⟨11,[],.int .i64 e2⟩,⟨12,[],.int .i64 e2⟩,⟨14,[],pt b47⟩,⟨72,[],.slice a m c⟩,⟨73,[],.int .i64 ((m:Nat):Int)⟩,⟨74,[],.int .i64 ((q:Nat):Int)⟩,⟨80,[],.int .i64 ((z.1.2.size:Nat):Int)⟩,⟨81,[],.int .i64 ((ξ.1:Nat):Int)⟩])) (HI:=(fun ξ:Nat × List Int × Grp=>(ξ.2.2::[(b47,.cells #[.string z.1.1,.slice z.2.1 z.1.2.size z.2.2] 34 (0,0))]::g::(GD42++(GP43++(GD38++(GP39++(A++(B++H))))))))) (Φ:=(fun ξ:Nat × List Int × Grp=>(ξ.1≤z.1.2.size)∧(ξ.2.1.length=z.1.2.size)∧(Go.Sw.Own 5 1 (.slice z.2.1 z.1.2.size z.2.2) ξ.2.2 z.1.2.size (ξ.2.1.map (Value.int .u8))))) (μ:=(fun ξ:Nat × List Int × Grp=>z.1.2.size - ξ.1)) (s0:=(0,zs0,gB)) [3,4,5,7,11,12,14,72,73,74,80,81] kr kr ⟨(by omega),hzs0,hO0⟩ ?_)))
    rintro ⟨r,zs,gb⟩ ⟨hr,hzs,hOb⟩
    dsimp only at hr hzs hOb
    refine A2 (G_p [0] [3,4,5,7,11,12,14,72,73,74,80,81,82] (k:=A1 (A2 (D2 (b:=decide (((r:Nat):Int)<((z.1.2.size:Nat):Int))) kr (fun hc48=>?_) (fun hc48=>?_)))))
    ·
     have hrl:r<z.1.2.size:=by simp only [decide_eq_true_eq] at hc48; omega
     refine B6 (A1 (A2 (B8 (A2 (G_p [0,0] [3,4,5,7,11,12,14,15,72,73,74,80,81] (k:=A1 (A3 (A5 (j:=1) [0] (k:=?_)))))))))
     refine D0 1 1 rfl rfl (A5 (j:=3) [0] (k:=L2 (a:=z.2.1) (S:=(inG gb)) (cs:=(zs.map (Value.int .u8))) z.1.2.size ((r:Nat):Int) 1 (I4 hOb) (by exact ⟨by omega,by omega,turn_ne (k:=r) (by omega)⟩) (O3 (a:=z.2.1) (S:=(inG gb)) (cs:=(zs.map (Value.int .u8))) (r * 1) (.int .u8 (zs.getD r 0)) (I4 hOb) (H6 0 rfl) (fun _=>(by rw [Nat.mul_one]; exact turn_at (by omega))) (A5 (j:=6) [0] (k:=L2 (a:=z.2.1) (S:=(inG gb)) (cs:=(zs.map (Value.int .u8))) z.1.2.size ((r:Nat):Int) 1 (I4 hOb) (by exact ⟨by omega,by omega,turn_ne (k:=r) (by omega)⟩) (GL_storeO (i:=7) (ch:=[]) (a:=z.2.1) (q:=r * 1) (len:=z.1.2.size) (cap:=z.2.2) (v:=.int .u8 (IntKind.wrap .u8 ((BitVec.ofInt (IntKind.bits .u8) (zs.getD r 0) ^^^ BitVec.ofInt (IntKind.bits .u8) 255).toNat))) (g:=gb) (j:=0) (cs:=(zs.map (Value.int .u8))) (cs':=((zs.set r (IntKind.wrap .u8 ((BitVec.ofInt (IntKind.bits .u8) (zs.getD r 0) ^^^ BitVec.ofInt (IntKind.bits .u8) 255).toNat))).map (Value.int .u8))) rfl rfl kr kr kr kr rfl kr kr kr rfl hOb (by rw [List.length_map]; omega) (by rw [Nat.mul_one]; exact turn_set) (fun g49 hO50=>?_)))))))
     refine B5 [] [3,4,5,7,11,12,14,72,73,74,80,81] (k:=D3 (A1 (A3 (A5 (j:=1) [0] (k:=F0 91 (((r:Nat):Int)+1) (by omega) (by omega) kr (B5 [0] [3,4,5,7,11,12,14,72,73,74,80,81] (k:=F6 (s':=(r+1,(zs.set r (IntKind.wrap .u8 ((BitVec.ofInt (IntKind.bits .u8) (zs.getD r 0) ^^^ BitVec.ofInt (IntKind.bits .u8) 255).toNat))),g49)) [3,4,5,7,11,12,14,72,73,74,80,81] kr rfl ⟨(by omega),(by show (List.set _ _ _).length=_; rw [List.length_set]; exact hzs),hO50⟩ (by omega))))))))
    ·
     skip
     refine H0 (A6 (A6 (C3 (D3 (A1 (A3 (A5 (j:=1) [0] (k:=F0 92 (((q:Nat):Int)+1) (by omega) (by omega) kr ?_))))))))
     refine B5 [0] [3,4,5,7,11,12,72,73,74] (k:=N_pkT 1 [2,0] (g::gb::(GD42++(GP43++(GD38++(GP39++(A++(B++H))))))) (G8 (H':=(g::(GD42++(GP43++(GD38++(GP39++((A++gb::B)++H))))))) (fun w h=>A8 h fun _ x=>by simp only [List.flatten_append,List.flatten_cons,List.count_append] <;> omega) (F6 (s':=(q+1,(A++gb::B))) [3,4,5,7,11,12,72,73,74] kr rfl ⟨(by omega),(hback _ ⟨zs,hzs,hOb⟩)⟩ (by omega))))
   ·
    skip
    refine H0 (A6 (A6 (C3 (A1 (A2 (A2 (A3 (A5 (j:=3) [0,0,0] (k:=?_)))))))))
    refine Y1 95 (x:=.bool (e2 != e2)) (y:=.bool false) (by rw [show (e2 != e2)=false by simp]) (A5 (j:=5) [0,0] (k:=Z0 (H':=(g::(GD42++(GP43++(GD38++(GP39++(ZM++H))))))) kr (I3 (ch:=[(96,false)]) (f:=19) (fst:=#[]) (caps:=#[]) (vs:=[pt pb8]) (hf:=Tryz.func19) (hsure:=G0 kr) (hc:=Tri.heap (fun _ hw=>A8 hw fun _ x=>by simp only [List.flatten_append,List.flatten_cons,List.flatten_nil,List.count_append,List.append_nil] <;> omega) (cFiles hp41 hst2.fok.len (fun f hf=>by have:=hst2.fok.nsz f hf; omega) (fun f hf=>by have:=hst2.fok.size f hf; omega) hst2.fok.self _ ([g]++(GD42++(GP43++(GD38++(ZM++H))))))) (k:=?_))))
    rintro _ _ ⟨ZR53,ra54,rc55,cs56,rfl,hfi57,rfl⟩
    refine E0 rfl (H':=(g::(GD42++(GP43++(GD38++(GP39++(ZM++(ZR53++H)))))))) (fun w h=>A8 h fun _ x=>by simp only [List.flatten_append,List.flatten_cons,List.flatten_nil,List.count_append,List.append_nil] <;> omega) (A5 (j:=7) [0] (k:=I3 (ch:=[(96,false)]) (f:=19) (fst:=#[]) (caps:=#[]) (vs:=[pt pb13]) (hf:=Tryz.func19) (hsure:=G0 kr) (hc:=Tri.heap (fun _ hw=>A8 hw fun _ x=>by simp only [List.flatten_append,List.flatten_cons,List.flatten_nil,List.count_append,List.append_nil] <;> omega) (cFiles hp45 hst2.fok.len (fun f hf=>by have:=hst2.fok.nsz f hf; omega) (fun f hf=>by have:=hst2.fok.size f hf; omega) hst2.fok.self _ ([g]++(GD42++(GD38++(GP39++(ZM++(ZR53++H)))))))) (k:=?_)))
    rintro _ _ ⟨ZR58,ra59,rc60,cs61,rfl,hfi62,rfl⟩
    refine E0 rfl (H':=(g::(GD42++(GP43++(GD38++(GP39++(ZM++(ZR53++(ZR58++H))))))))) (fun w h=>A8 h fun _ x=>by simp only [List.flatten_append,List.flatten_cons,List.flatten_nil,List.count_append,List.append_nil] <;> omega) (I3 (ch:=[(96,false)]) (f:=18) (fst:=#[]) (caps:=#[]) (vs:=[.slice ra54 p2.files.length rc55,.slice ra59 p2.files.length rc60]) (hf:=Tryz.func18) (hsure:=G0 kr) (hc:=same_ ra54 ra59 _ _ p2.files cs56 cs61 (inZ ZR53) (inZ ZR58) hfi57.1 hfi57.2 hfi62.1 hfi62.2 (by first | omega | (have:=hst2.fok.len; omega) | (show 0≤1000000; omega)) _ _ (fun y o h=>At.cons (C4 (C4 (C4 (C4 (C4 (at_z h))))))) (fun y o h=>At.cons (C4 (C4 (C4 (C4 (C4 (C4 (at_z h))))))))) (k:=?_))
    rintro _ _ ⟨rfl,rfl⟩
    refine A5 (j:=13) [0,3,0,0] (k:=I3 (ch:=[(104,false)]) (f:=11) (fst:=#[]) (caps:=#[]) (vs:=[pt d2]) (hf:=Tryz.func11) (hsure:=G0 kr) (hc:=Tri.heap (fun _ hw=>A8 hw fun _ x=>by simp only [List.flatten_append,List.flatten_cons,List.flatten_nil,List.count_append,List.append_nil] <;> omega) (cUsedD hd40 hst2.fx _ ([g]++(GD42++(GP43++(GP39++(ZM++(ZR53++(ZR58++H))))))) (by omega) (by omega) rfl)) (k:=?_))
    rintro _ _ ⟨rfl,rfl⟩
    refine E0 rfl (H':=(g::(GD42++(GP43++(GD38++(GP39++(ZM++(ZR53++(ZR58++H))))))))) (fun w h=>A8 h fun _ x=>by simp only [List.flatten_append,List.flatten_cons,List.flatten_nil,List.count_append,List.append_nil] <;> omega) (A5 (j:=15) [0] (k:=I3 (ch:=[(104,false)]) (f:=11) (fst:=#[]) (caps:=#[]) (vs:=[pt d5]) (hf:=Tryz.func11) (hsure:=G0 kr) (hc:=Tri.heap (fun _ hw=>A8 hw fun _ x=>by simp only [List.flatten_append,List.flatten_cons,List.flatten_nil,List.count_append,List.append_nil] <;> omega) (cUsedD hd44 hst2.fx _ ([g]++(GP43++(GD38++(GP39++(ZM++(ZR53++(ZR58++H))))))) (by omega) (by omega) rfl)) (k:=?_)))
    rintro _ _ ⟨rfl,rfl⟩
    refine E0 rfl (H':=(g::(GD42++(GP43++(GD38++(GP39++(ZM++(ZR53++(ZR58++H))))))))) (fun w h=>A8 h fun _ x=>by simp only [List.flatten_append,List.flatten_cons,List.flatten_nil,List.count_append,List.append_nil] <;> omega) (A5 (j:=17) [0] (k:=L1 109 [(104,false)] (x:=.bool ((((V0 M2):Nat):Int) != (((V0 M2):Nat):Int))) (y:=.bool false) (by rw [show (((V0 M2:Nat):Int) != ((V0 M2:Nat):Int))=false by simp]) (B5 [3] [3,4,11,110] (k:=A1 (D9 kr (B6 (A1 (A2 ?_))))))))
    obtain ⟨bx,ex,hbx⟩:∃ bx ex,P1 M2 (mB #[103,49,47,109,97,110,105,102,101,115,116])=(bx,ex):=⟨_,_,rfl⟩
    have hpl:=hst2.fok.len
    rcases hcs2 with ⟨hen,hn2⟩ | ⟨hen,hn2⟩
    ·
     refine A3 (A5 (j:=1) [0] (k:=E4 (vs:=[pt d2]) Tryz.func12 (Tri.heap (fun _ hw=>A8 hw fun _ x=>by simp only [List.flatten_append,List.flatten_cons,List.flatten_nil,List.count_append,List.append_nil] <;> omega) (cRead0 hd40 hst2.fx _ ([g]++(GD42++(GP43++(GP39++(ZM++(ZR53++(ZR58++H))))))) (by have h:=hst2.vs; rw [hn2] at h; exact gv_no h))) ?_))
     rintro _ _ ⟨rfl,rfl⟩
     refine E0 rfl (H':=(g::(GD42++(GP43++(GD38++(GP39++(ZM++(ZR53++(ZR58++H))))))))) (fun w h=>A8 h fun _ x=>by simp only [List.flatten_append,List.flatten_cons,List.flatten_nil,List.count_append,List.append_nil] <;> omega) (B5 [0,0,0,0,0,0,0] [3,4,11,16,18] (k:=A1 (A2 (A3 (A5 (j:=1) [0] (k:=E4 (vs:=[pt d5]) Tryz.func12 (Tri.heap (fun _ hw=>A8 hw fun _ x=>by simp only [List.flatten_append,List.flatten_cons,List.flatten_nil,List.count_append,List.append_nil] <;> omega) (cRead0 hd44 hst2.fx _ ([g]++(GP43++(GD38++(GP39++(ZM++(ZR53++(ZR58++H))))))) (by have h:=hst2.vs; rw [hn2] at h; exact gv_no h))) ?_))))))
     rintro _ _ ⟨rfl,rfl⟩
     refine E0 rfl (H':=(g::(GD42++(GP43++(GD38++(GP39++(ZM++(ZR53++(ZR58++H))))))))) (fun w h=>A8 h fun _ x=>by simp only [List.flatten_append,List.flatten_cons,List.flatten_nil,List.count_append,List.append_nil] <;> omega) (B5 [0,0,0,0,0,0,0] [3,4,11,16,18,19,21] (k:=A1 (A2 (A3 (A5 (j:=1) [0] (k:=E4 (vs:=[pt d2,.string (mB #[103,49,47,109,97,110,105,102,101,115,116])]) Tryz.func21 (Tri.heap (fun _ hw=>A8 hw fun _ x=>by simp only [List.flatten_append,List.flatten_cons,List.flatten_nil,List.count_append,List.append_nil] <;> omega) (cReadD hd40 hst2.fx _ ([g]++(GD42++(GP43++(GP39++(ZM++(ZR53++(ZR58++H))))))) (mB #[103,49,47,109,97,110,105,102,101,115,116]) hbx)) ?_))))))
     rintro _ _ ⟨ra63,rc64,g65,rfl,hsh66,hrd67,rfl⟩
     refine E0 rfl (H':=(g65::g::(GD42++(GP43++(GD38++(GP39++(ZM++(ZR53++(ZR58++H))))))))) (fun w h=>A8 h fun _ x=>by simp only [List.flatten_append,List.flatten_cons,List.flatten_nil,List.count_append,List.append_nil] <;> omega) (B5 [0,0,0,0,0] [4,11,16,18,19,21,22] (k:=A1 (A2 (A3 (A5 (j:=1) [0] (k:=E4 (vs:=[pt d5,.string (mB #[103,49,47,109,97,110,105,102,101,115,116])]) Tryz.func21 (Tri.heap (fun _ hw=>A8 hw fun _ x=>by simp only [List.flatten_append,List.flatten_cons,List.flatten_nil,List.count_append,List.append_nil] <;> omega) (cReadD hd44 hst2.fx _ ([g65,g]++(GP43++(GD38++(GP39++(ZM++(ZR53++(ZR58++H))))))) (mB #[103,49,47,109,97,110,105,102,101,115,116]) hbx)) ?_))))))
     rintro _ _ ⟨ra68,rc69,g70,rfl,hsh71,hrd72,rfl⟩
     refine E0 rfl (H':=(g70::g65::g::(GD42++(GP43++(GD38++(GP39++(ZM++(ZR53++(ZR58++H))))))))) (fun w h=>A8 h fun _ x=>by simp only [List.flatten_append,List.flatten_cons,List.flatten_nil,List.count_append,List.append_nil] <;> omega) (D5 (E':=[⟨11,[],.int .i64 e2⟩,⟨16,[],.slice none 0 0⟩,⟨18,[],.int .i64 60⟩,⟨19,[],.slice none 0 0⟩,⟨21,[],.int .i64 60⟩,⟨22,[],.slice ra63 bx.size rc64⟩,⟨24,[],.slice ra68 bx.size rc69⟩]) [0,0,0,0,0] [11,16,18,19,21,22,24] (k:=A1 (A2 (A3 (A5 (j:=6) [0,0,0,0,0,0] (k:=I3 (ch:=[(136,true)]) (f:=18) (fst:=#[]) (caps:=#[]) (vs:=[.slice none 0 0,.slice none 0 0]) (hf:=Tryz.func18) (hsure:=G0 kr) (hc:=same_ none none _ _ [] [] [] (fun _ _=>False) (fun _ _=>False) (.inl rfl) .nil (.inl rfl) .nil (by first | omega | (have:=hst2.fok.len; omega) | (show 0≤1000000; omega)) _ _ nil_farg_same nil_farg_same) (k:=?_)))))))
     rintro _ _ ⟨rfl,rfl⟩
     refine A5 (j:=10) [2,0,0] (k:=K6 (ch:=[(141,true)]) (a:=ra63) (cap:=rc64) (e:=5) (S:=(Go.Sw.inG g65)) bx (hrd:=hrd67) (hS:=H6 1 rfl) (k:=A5 (j:=12) [0] (k:=K6 (ch:=[(141,true)]) (a:=ra68) (cap:=rc69) (e:=5) (S:=(Go.Sw.inG g70)) bx (hrd:=hrd72) (hS:=H6 0 rfl) (k:=A5 (j:=14) [0] (k:=L1 146 [(141,true)] (x:=.bool (bx.toList==bx.toList)) (y:=.bool true) (by rw [show (bx.toList==bx.toList)=true by simp]) (A5 (j:=18) [2,0,0,0] (k:=L1 150 [(148,true)] (x:=.bool (e2==0)) (y:=.bool false) (by rw [show (e2==0)=false from beq_eq_false_iff_ne.2 hen]) (D5 (E':=[⟨2,[],.bool true⟩]) [0,0,0,2,0] [2] (k:=?_)))))))))
     refine A1 (C8 (G8 (fun w h=>(Sat.dropApp (Sat.dropApp (Sat.dropApp (Sat.dropApp (Sat.dropApp (Sat.dropApp (Sat.dropApp (((h).tail).tail).tail)))))))) (C5 [.tmp 2] [.bool true] (k:=?_))))
     exact ⟨rfl,rfl⟩
    ·
     refine A3 (A5 (j:=1) [0] (k:=Z0 (H':=(g::(GD42++(GP43++(GD38++(GP39++(ZM++(ZR53++(ZR58++H))))))))) kr (E4 (vs:=[pt d2]) Tryz.func12 (Tri.heap (fun _ hw=>A8 hw fun _ x=>by simp only [List.flatten_append,List.flatten_cons,List.flatten_nil,List.count_append,List.append_nil] <;> omega) (cReadG hd40 hst2.fx _ ([g]++(GD42++(GP43++(GP39++(ZM++(ZR53++(ZR58++H))))))) 1 ⟨by decide,by decide⟩ p2.files (by have h:=hst2.vs; rw [hn2] at h; exact gv_ok (by decide) h hst2.fok))) ?_)))
     rintro _ _ ⟨ZR73,ra74,rc75,cs76,rfl,hfi77,rfl⟩
     refine E0 rfl (H':=(g::(GD42++(GP43++(GD38++(GP39++(ZM++(ZR53++(ZR58++(ZR73++H)))))))))) (fun w h=>A8 h fun _ x=>by simp only [List.flatten_append,List.flatten_cons,List.flatten_nil,List.count_append,List.append_nil] <;> omega) ?_
     skip
     refine B5 [0,0,0,0,0,0,0] [3,4,11,16,18] (k:=A1 (A2 (A3 (A5 (j:=1) [0] (k:=E4 (vs:=[pt d5]) Tryz.func12 (Tri.heap (fun _ hw=>A8 hw fun _ x=>by simp only [List.flatten_append,List.flatten_cons,List.flatten_nil,List.count_append,List.append_nil] <;> omega) (cReadG hd44 hst2.fx _ ([g]++(GP43++(GD38++(GP39++(ZM++(ZR53++(ZR58++(ZR73++H)))))))) 1 ⟨by decide,by decide⟩ p2.files (by have h:=hst2.vs; rw [hn2] at h; exact gv_ok (by decide) h hst2.fok))) ?_)))))
     rintro _ _ ⟨ZR78,ra79,rc80,cs81,rfl,hfi82,rfl⟩
     refine E0 rfl (H':=(g::(GD42++(GP43++(GD38++(GP39++(ZM++(ZR53++(ZR58++(ZR73++(ZR78++H))))))))))) (fun w h=>A8 h fun _ x=>by simp only [List.flatten_append,List.flatten_cons,List.flatten_nil,List.count_append,List.append_nil] <;> omega) ?_
     skip
     refine B5 [0,0,0,0,0,0,0] [3,4,11,16,18,19,21] (k:=A1 (A2 (A3 (A5 (j:=1) [0] (k:=E4 (vs:=[pt d2,.string (mB #[103,49,47,109,97,110,105,102,101,115,116])]) Tryz.func21 (Tri.heap (fun _ hw=>A8 hw fun _ x=>by simp only [List.flatten_append,List.flatten_cons,List.flatten_nil,List.count_append,List.append_nil] <;> omega) (cReadD hd40 hst2.fx _ ([g]++(GD42++(GP43++(GP39++(ZM++(ZR53++(ZR58++(ZR73++(ZR78++H))))))))) (mB #[103,49,47,109,97,110,105,102,101,115,116]) hbx)) ?_)))))
     rintro _ _ ⟨ra83,rc84,g85,rfl,hsh86,hrd87,rfl⟩
     refine E0 rfl (H':=(g85::g::(GD42++(GP43++(GD38++(GP39++(ZM++(ZR53++(ZR58++(ZR73++(ZR78++H))))))))))) (fun w h=>A8 h fun _ x=>by simp only [List.flatten_append,List.flatten_cons,List.flatten_nil,List.count_append,List.append_nil] <;> omega) (B5 [0,0,0,0,0] [4,11,16,18,19,21,22] (k:=A1 (A2 (A3 (A5 (j:=1) [0] (k:=E4 (vs:=[pt d5,.string (mB #[103,49,47,109,97,110,105,102,101,115,116])]) Tryz.func21 (Tri.heap (fun _ hw=>A8 hw fun _ x=>by simp only [List.flatten_append,List.flatten_cons,List.flatten_nil,List.count_append,List.append_nil] <;> omega) (cReadD hd44 hst2.fx _ ([g85,g]++(GP43++(GD38++(GP39++(ZM++(ZR53++(ZR58++(ZR73++(ZR78++H))))))))) (mB #[103,49,47,109,97,110,105,102,101,115,116]) hbx)) ?_))))))
     rintro _ _ ⟨ra88,rc89,g90,rfl,hsh91,hrd92,rfl⟩
     refine E0 rfl (H':=(g90::g85::g::(GD42++(GP43++(GD38++(GP39++(ZM++(ZR53++(ZR58++(ZR73++(ZR78++H))))))))))) (fun w h=>A8 h fun _ x=>by simp only [List.flatten_append,List.flatten_cons,List.flatten_nil,List.count_append,List.append_nil] <;> omega) (D5 (E':=[⟨11,[],.int .i64 e2⟩,⟨16,[],.slice ra74 p2.files.length rc75⟩,⟨18,[],.int .i64 0⟩,⟨19,[],.slice ra79 p2.files.length rc80⟩,⟨21,[],.int .i64 0⟩,⟨22,[],.slice ra83 bx.size rc84⟩,⟨24,[],.slice ra88 bx.size rc89⟩]) [0,0,0,0,0] [11,16,18,19,21,22,24] (k:=A1 (A2 (A3 (A5 (j:=6) [0,0,0,0,0,0] (k:=I3 (ch:=[(136,true)]) (f:=18) (fst:=#[]) (caps:=#[]) (vs:=[.slice ra74 p2.files.length rc75,.slice ra79 p2.files.length rc80]) (hf:=Tryz.func18) (hsure:=G0 kr) (hc:=same_ ra74 ra79 _ _ p2.files cs76 cs81 (inZ ZR73) (inZ ZR78) hfi77.1 hfi77.2 hfi82.1 hfi82.2 (by first | omega | (have:=hst2.fok.len; omega) | (show 0≤1000000; omega)) _ _ (fun y o h=>At.cons (At.cons (At.cons (C4 (C4 (C4 (C4 (C4 (C4 (C4 (at_z h))))))))))) (fun y o h=>At.cons (At.cons (At.cons (C4 (C4 (C4 (C4 (C4 (C4 (C4 (C4 (at_z h))))))))))))) (k:=?_)))))))
     rintro _ _ ⟨rfl,rfl⟩
     refine A5 (j:=10) [2,0,0] (k:=K6 (ch:=[(141,true)]) (a:=ra83) (cap:=rc84) (e:=5) (S:=(Go.Sw.inG g85)) bx (hrd:=hrd87) (hS:=H6 1 rfl) (k:=A5 (j:=12) [0] (k:=K6 (ch:=[(141,true)]) (a:=ra88) (cap:=rc89) (e:=5) (S:=(Go.Sw.inG g90)) bx (hrd:=hrd92) (hS:=H6 0 rfl) (k:=A5 (j:=14) [0] (k:=L1 146 [(141,true)] (x:=.bool (bx.toList==bx.toList)) (y:=.bool true) (by rw [show (bx.toList==bx.toList)=true by simp]) (A5 (j:=18) [2,0,0,0] (k:=L1 150 [(148,true)] (x:=.bool (e2==0)) (y:=.bool true) (by rw [show (e2==0)=true from beq_iff_eq.2 hen]) (D5 (E':=[⟨2,[],.bool true⟩]) [0,0,0,2,0] [2] (k:=?_)))))))))
     refine A1 (C8 (G8 (fun w h=>(Sat.dropApp (Sat.dropApp (Sat.dropApp (Sat.dropApp (Sat.dropApp (Sat.dropApp (Sat.dropApp (Sat.dropApp (Sat.dropApp (((h).tail).tail).tail)))))))))) (C5 [.tmp 2] [.bool true] (k:=?_))))
     exact ⟨rfl,rfl⟩
end Go.Proofs.YtdolpaagdpeagaaGreatDoor
namespace Go.Proofs.YtdolpaagdpeagaaGreatDoor
theorem pressRoots:True:=by
  -- rooms_ tidies_ crashes_ same23_ open_files open_lists open_arr3 open_arr2 open_intsA sat_nil post_below SW sw_at laidOut_ and_tt cl_may cl_lift cl_make cl_heard cl_keys ok_one okWide_bool_mk shut_bool trodAll_mk1
  trivial
end Go.Proofs.YtdolpaagdpeagaaGreatDoor
