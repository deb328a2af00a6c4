/- EscTwice: what is written out twice takes two steps back, and texts one behind the other are written out so, for all texts; the row, and its card, which ties what the library's tables hold to the program's text. No condition beyond the given statement's. (and what it stands on) -/
import Derived.Test.YtbnfbffiehoapaaGreatDoorZ3
import Derived.ChangeMaps5
namespace Go.Proofs.YtbnfbffiehoapaaGreatDoor
open Go.Sw Go.Sha Go.Esc Go.RowKit
theorem escTwice_ (a b:ByteArray) (W0:World) (H:List Grp) (hW:H3 W0):Tri Tryz.prog 8 #[.string a,.string b] W0 H (fun v H'=>v=.bool true∧H'=H):=by
  refine C2 (args:=[.string a,.string b]) (n:=78) Tryz.func8 rfl rfl (Nat.le_of_ble_eq_true rfl) ?_
  refine A1 (B3 (E':=[⟨0,[],.string a⟩,⟨1,[],.string b⟩]) [0] [0,1] (k:=?_))
  refine A0 (A1 ?_)
  refine A1 (A2 ?_)
  refine I2 Tryz.func9 (first_ _ _ hW) (A9 [0] [0,1,12] (k:=?_))
  refine A0 (D6 kr ?_)
  refine A7 (A0 ?_)
  refine A1 (A1 ?_)
  refine G_p [0,0,0,0,0,0] [0,1,18] (k:=A0 ?_)
  refine B1 (b:=decide ((if (b.size:Int) > (a.size:Int) then (b.size:Int) else (a.size:Int)) > 1500)) kr (fun hc1=>?_) (fun hc1=>?_)
  ·
    skip
    refine A1 (B3 (E':=[⟨4,[],.bool true⟩]) [0] [4] (k:=?_))
    refine A0 (B6 ?_)
    refine A4 (B2 [.tmp 4] [.bool true] (k:=?_))
    exact ⟨rfl,rfl⟩
  ·
    simp only [gt_iff_lt,decide_eq_false_iff_not] at hc1
    have ha:a.size≤1500∧b.size≤1500:=by split at hc1 <;> omega
    have hla:=C5 a
    have hlb:=C5 b
    have hra:=L7 a.data.toList
    have hrb:=L7 b.data.toList
    have hea:=encL_len (A6 a.data.toList)
    have heb:=encL_len (A6 b.data.toList)
    have hh1:=html_len a.data.toList
    have hh2:=html_len (C8 a.data.toList)
    have hu1:=un_len (C8 (C8 a.data.toList))
    have hj1:=json_len (C3 (A6 a.data.toList))
    have hj2:=json_len (C3 (A6 b.data.toList))
    have hj3:2≤(F0 (C3 (A6 a.data.toList))).length:=by unfold F0; rw [List.length_cons,List.length_append]; simp
    have hj4:2≤(F0 (C3 (A6 b.data.toList))).length:=by unfold F0; rw [List.length_cons,List.length_append]; simp
    have hk1:=html_len (C3 (A6 a.data.toList))
    have hk2:=html_len (C3 (A6 b.data.toList))
    have hp1:=perc_len a.data.toList
    have hp2:=perc_len b.data.toList
    refine A7 (A0 ?_)
    refine A1 (A2 ?_)
    refine A5 (j:=1) [0] (k:=I2 Tryz.func10 (html_ a (by (try simp only [E8,C6]); omega) _ _) ?_)
    refine A9 [0] [0,1,5] (k:=A0 ?_)
    refine A1 (A2 ?_)
    refine A5 (j:=1) [0] (k:=E5 Tryz.func20 (fixed_ a (by omega) _ _) ?_)
    rintro _ _ ⟨iaf1,icf1,igf1,rfl,iOf1,rfl⟩
    refine E5 (vs:=[.slice iaf1 ((A6 a.data.toList).length) icf1]) Tryz.func19 (text_ iaf1 icf1 (A6 a.data.toList) (inG igf1) (own_rd iOf1) (L8 _) (by omega) _ _ (C7 0 rfl)) ?_
    rintro _ _ ⟨rfl,rfl⟩
    refine A5 (j:=4) [0] (k:=E5 Tryz.func20 (fixed_ b (by omega) _ _) ?_)
    rintro _ _ ⟨iaf2,icf2,igf2,rfl,iOf2,rfl⟩
    refine E5 (vs:=[.slice iaf2 ((A6 b.data.toList).length) icf2]) Tryz.func19 (text_ iaf2 icf2 (A6 b.data.toList) (inG igf2) (own_rd iOf2) (L8 _) (by omega) _ _ (C7 0 rfl)) ?_
    rintro _ _ ⟨rfl,rfl⟩
    refine A9 [0,0] [0,1,5,6,7] (k:=A0 ?_)
    refine A1 (A2 ?_)
    refine A5 (j:=1) [0] (k:=I2 Tryz.func14 (json_ (bk (C3 (A6 a.data.toList))) (by (try simp only [E8]); omega) _ _ hW) ?_)
    refine A5 (j:=3) [0] (k:=I2 Tryz.func14 (json_ (bk (C3 (A6 b.data.toList))) (by (try simp only [E8]); omega) _ _ hW) ?_)
    refine A5 (j:=6) [0,0] (k:=J5 (ch:=[]) (s:=(bk (C3 (A6 a.data.toList)))) (u:=(bk (C3 (A6 b.data.toList)))) (hb:=(fun _=>by (try simp only [E8]); omega)) (k:=?_))
    refine I2 Tryz.func14 (json_ ((bk (C3 (A6 a.data.toList)))++(bk (C3 (A6 b.data.toList)))) (by (try simp only [E8,C6]); omega) _ _ hW) (A9 [0,0,0] [0,1,5,6,7,8,9,10] (k:=?_))
    refine A0 (A1 ?_)
    refine J4 (k:=A5 (j:=1) [0] (k:=?_))
    refine I2 Tryz.func10 (html_ (bk (C8 a.data.toList)) (by (try simp only [E8]); omega) _ _) (I2 Tryz.func12 (unhtml_ (bk (C8 (C8 a.data.toList))) (by (try simp only [E8]); omega) _ _ hW) ?_)
    refine I2 Tryz.func12 (unhtml_ (bk (unL (C8 (C8 a.data.toList)))) (by (try simp only [E8]); omega) _ _ hW) (A5 (j:=5) [0] (k:=?_))
    refine I2 Tryz.func18 (rplain_ a (by (try simp only [E8,C6]); omega) _ _) (A5 (j:=10) [0,0,0,0] (k:=?_))
    refine J5 (ch:=[(42,true)]) (s:=(bk (C3 (A6 a.data.toList)))) (u:=(bk (C3 (A6 b.data.toList)))) (hb:=(fun hc=>by have hg0:=chB_hd (t:=42) (c:=[]) (b:=(bk (unL (unL (C8 (C8 a.data.toList))))).toList==(bk (G5 a.data.toList)).toList) hc kr; (try simp at hg0); (try simp only [E8]); omega)) (k:=F8 (ch:=[(42,true)]) (f:=10) (fst:=#[]) (caps:=#[]) (vs:=[.string ((bk (C3 (A6 a.data.toList)))++(bk (C3 (A6 b.data.toList))))]) (v:=.string (bk (C8 ((bk (C3 (A6 a.data.toList)))++(bk (C3 (A6 b.data.toList)))).data.toList))) (hf:=Tryz.func10) (hc:=(fun hc=>html_ ((bk (C3 (A6 a.data.toList)))++(bk (C3 (A6 b.data.toList)))) (by (try simp only [E8,C6]); omega) _ _)) (k:=?_))
    refine A5 (j:=13) [0] (k:=F8 (ch:=[(42,true)]) (f:=10) (fst:=#[]) (caps:=#[]) (vs:=[.string (bk (C3 (A6 a.data.toList)))]) (v:=.string (bk (C8 (C3 (A6 a.data.toList))))) (hf:=Tryz.func10) (hc:=(fun hc=>html_ (bk (C3 (A6 a.data.toList))) (by (try simp only [E8]); omega) _ _)) (k:=?_))
    refine A5 (j:=15) [0] (k:=F8 (ch:=[(42,true)]) (f:=10) (fst:=#[]) (caps:=#[]) (vs:=[.string (bk (C3 (A6 b.data.toList)))]) (v:=.string (bk (C8 (C3 (A6 b.data.toList))))) (hf:=Tryz.func10) (hc:=(fun hc=>html_ (bk (C3 (A6 b.data.toList))) (by (try simp only [E8]); omega) _ _)) (k:=?_))
    refine J5 (ch:=[(42,true)]) (s:=(bk (C8 (C3 (A6 a.data.toList))))) (u:=(bk (C8 (C3 (A6 b.data.toList))))) (hb:=(fun hc=>by have hg0:=chB_hd (t:=42) (c:=[]) (b:=(bk (unL (unL (C8 (C8 a.data.toList))))).toList==(bk (G5 a.data.toList)).toList) hc kr; (try simp at hg0); (try simp only [E8]); omega)) (k:=?_)
    have hw4:IntKind.wrap .i64 (((bk (F0 (C3 (A6 a.data.toList)))).size:Int) - 1)=((bk (F0 (C3 (A6 a.data.toList)))).size:Int) - 1:=w64 (by (try simp only [E8]); omega) (by (try simp only [E8]); omega)
    refine D7 (E':=[⟨59,[(54,true)],.int .i64 (((bk (F0 (C3 (A6 a.data.toList)))).size:Int) - 1)⟩,⟨56,[(54,true)],.string (bk (F0 (C3 (A6 a.data.toList))))⟩,⟨55,[(54,true)],.string (bk (F0 ((bk (C3 (A6 a.data.toList)))++(bk (C3 (A6 b.data.toList)))).data.toList))⟩,⟨54,[],.bool (((bk (unL (unL (C8 (C8 a.data.toList))))).toList==(bk (G5 a.data.toList)).toList)&&((bk (C8 ((bk (C3 (A6 a.data.toList)))++(bk (C3 (A6 b.data.toList)))).data.toList)).toList==((bk (C8 (C3 (A6 a.data.toList))))++(bk (C8 (C3 (A6 b.data.toList))))).toList))⟩,⟨0,[],.string a⟩,⟨1,[],.string b⟩,⟨9,[],.string (bk (F0 (C3 (A6 b.data.toList))))⟩]) [0,6,0,0,0,0,0,0] (Eq.trans (b:=some [⟨59,[(54,true)],.int .i64 (IntKind.wrap .i64 (((bk (F0 (C3 (A6 a.data.toList)))).size:Int) - 1))⟩,⟨56,[(54,true)],.string (bk (F0 (C3 (A6 a.data.toList))))⟩,⟨55,[(54,true)],.string (bk (F0 ((bk (C3 (A6 a.data.toList)))++(bk (C3 (A6 b.data.toList)))).data.toList))⟩,⟨54,[],.bool (((bk (unL (unL (C8 (C8 a.data.toList))))).toList==(bk (G5 a.data.toList)).toList)&&((bk (C8 ((bk (C3 (A6 a.data.toList)))++(bk (C3 (A6 b.data.toList)))).data.toList)).toList==((bk (C8 (C3 (A6 a.data.toList))))++(bk (C8 (C3 (A6 b.data.toList))))).toList))⟩,⟨0,[],.string a⟩,⟨1,[],.string b⟩,⟨9,[],.string (bk (F0 (C3 (A6 b.data.toList))))⟩]) kr (by simp only [hw4])) (j:=25) rfl (F6 (ch:=[(54,true)]) (s:=(bk (F0 (C3 (A6 a.data.toList))))) (vl:=none) (vh:=(some (.int .i64 (((bk (F0 (C3 (A6 a.data.toList)))).size:Int) - 1)))) (l:=0) (h:=((bk (F0 (C3 (A6 a.data.toList)))).size:Int) - 1) (hb:=(fun hc=>by have hg0:=chB_hd (t:=54) (c:=[]) (b:=((bk (unL (unL (C8 (C8 a.data.toList))))).toList==(bk (G5 a.data.toList)).toList)&&((bk (C8 ((bk (C3 (A6 a.data.toList)))++(bk (C3 (A6 b.data.toList)))).data.toList)).toList==((bk (C8 (C3 (A6 a.data.toList))))++(bk (C8 (C3 (A6 b.data.toList))))).toList)) hc kr; (try simp at hg0); (try simp only [E8]); omega)) (k:=?_))
    refine A5 (j:=27) [0] (k:=F6 (ch:=[(54,true)]) (s:=(bk (F0 (C3 (A6 b.data.toList))))) (vl:=(some (.int .i64 1))) (vh:=none) (l:=1) (h:=((bk (F0 (C3 (A6 b.data.toList)))).size:Int)) (hb:=(fun hc=>by have hg0:=chB_hd (t:=54) (c:=[]) (b:=((bk (unL (unL (C8 (C8 a.data.toList))))).toList==(bk (G5 a.data.toList)).toList)&&((bk (C8 ((bk (C3 (A6 a.data.toList)))++(bk (C3 (A6 b.data.toList)))).data.toList)).toList==((bk (C8 (C3 (A6 a.data.toList))))++(bk (C8 (C3 (A6 b.data.toList))))).toList)) hc kr; (try simp at hg0); (try simp only [E8]); omega)) (k:=?_))
    refine J5 (ch:=[(54,true)]) (s:=(bk (F0 (C3 (A6 a.data.toList)))).extract 0 (Int.toNat (((bk (F0 (C3 (A6 a.data.toList)))).size:Int) - 1))) (u:=(bk (F0 (C3 (A6 b.data.toList)))).extract 1 (bk (F0 (C3 (A6 b.data.toList)))).size) (hb:=(fun hc=>by have hg0:=chB_hd (t:=54) (c:=[]) (b:=((bk (unL (unL (C8 (C8 a.data.toList))))).toList==(bk (G5 a.data.toList)).toList)&&((bk (C8 ((bk (C3 (A6 a.data.toList)))++(bk (C3 (A6 b.data.toList)))).data.toList)).toList==((bk (C8 (C3 (A6 a.data.toList))))++(bk (C8 (C3 (A6 b.data.toList))))).toList)) hc kr; (try simp at hg0); (try simp only [ByteArray.size_extract,E8]); omega)) (k:=A5 (j:=34) [0,6,0,0,0] (k:=?_))
    refine J5 (ch:=[(66,true)]) (s:=a) (u:=b) (hb:=(fun hc=>by have hg0:=chB_hd (t:=66) (c:=[]) (b:=(((bk (unL (unL (C8 (C8 a.data.toList))))).toList==(bk (G5 a.data.toList)).toList)&&((bk (C8 ((bk (C3 (A6 a.data.toList)))++(bk (C3 (A6 b.data.toList)))).data.toList)).toList==((bk (C8 (C3 (A6 a.data.toList))))++(bk (C8 (C3 (A6 b.data.toList))))).toList))&&((bk (F0 ((bk (C3 (A6 a.data.toList)))++(bk (C3 (A6 b.data.toList)))).data.toList)).toList==(((bk (F0 (C3 (A6 a.data.toList)))).extract 0 (Int.toNat (((bk (F0 (C3 (A6 a.data.toList)))).size:Int) - 1)))++((bk (F0 (C3 (A6 b.data.toList)))).extract 1 (bk (F0 (C3 (A6 b.data.toList)))).size)).toList)) hc kr; (try simp at hg0); (try simp only [C6,ByteArray.size_extract,E8]); omega)) (k:=F8 (ch:=[(66,true)]) (f:=21) (fst:=#[]) (caps:=#[]) (vs:=[.string (a++b)]) (v:=.string (bk (J7 (a++b).data.toList))) (hf:=Tryz.func21) (hc:=(fun hc=>percent_ (a++b) (by (try simp only [C6]); omega) _ _)) (k:=?_))
    refine A5 (j:=37) [0] (k:=F8 (ch:=[(66,true)]) (f:=21) (fst:=#[]) (caps:=#[]) (vs:=[.string a]) (v:=.string (bk (J7 a.data.toList))) (hf:=Tryz.func21) (hc:=(fun hc=>percent_ a (by (try simp only [E8,C6]); omega) _ _)) (k:=?_))
    refine A5 (j:=39) [0] (k:=F8 (ch:=[(66,true)]) (f:=21) (fst:=#[]) (caps:=#[]) (vs:=[.string b]) (v:=.string (bk (J7 b.data.toList))) (hf:=Tryz.func21) (hc:=(fun hc=>percent_ b (by (try simp only [E8,C6]); omega) _ _)) (k:=?_))
    refine J5 (ch:=[(66,true)]) (s:=(bk (J7 a.data.toList))) (u:=(bk (J7 b.data.toList))) (hb:=(fun hc=>by have hg0:=chB_hd (t:=66) (c:=[]) (b:=(((bk (unL (unL (C8 (C8 a.data.toList))))).toList==(bk (G5 a.data.toList)).toList)&&((bk (C8 ((bk (C3 (A6 a.data.toList)))++(bk (C3 (A6 b.data.toList)))).data.toList)).toList==((bk (C8 (C3 (A6 a.data.toList))))++(bk (C8 (C3 (A6 b.data.toList))))).toList))&&((bk (F0 ((bk (C3 (A6 a.data.toList)))++(bk (C3 (A6 b.data.toList)))).data.toList)).toList==(((bk (F0 (C3 (A6 a.data.toList)))).extract 0 (Int.toNat (((bk (F0 (C3 (A6 a.data.toList)))).size:Int) - 1)))++((bk (F0 (C3 (A6 b.data.toList)))).extract 1 (bk (F0 (C3 (A6 b.data.toList)))).size)).toList)) hc kr; (try simp at hg0); (try simp only [E8]); omega)) (k:=B4 (E':=[⟨4,[],.bool (((((bk (unL (unL (C8 (C8 a.data.toList))))).toList==(bk (G5 a.data.toList)).toList)&&((bk (C8 ((bk (C3 (A6 a.data.toList)))++(bk (C3 (A6 b.data.toList)))).data.toList)).toList==((bk (C8 (C3 (A6 a.data.toList))))++(bk (C8 (C3 (A6 b.data.toList))))).toList))&&((bk (F0 ((bk (C3 (A6 a.data.toList)))++(bk (C3 (A6 b.data.toList)))).data.toList)).toList==(((bk (F0 (C3 (A6 a.data.toList)))).extract 0 (Int.toNat (((bk (F0 (C3 (A6 a.data.toList)))).size:Int) - 1)))++((bk (F0 (C3 (A6 b.data.toList)))).extract 1 (bk (F0 (C3 (A6 b.data.toList)))).size)).toList))&&((bk (J7 (a++b).data.toList)).toList==((bk (J7 a.data.toList))++(bk (J7 b.data.toList))).toList))⟩]) [0,6,0] [4] (k:=?_))
    refine A0 (B6 ?_)
    refine D9 (H':=H) (fun w h=>((h.erase 1).erase 0)) (B2 [.tmp 4] [.bool (((((bk (unL (unL (C8 (C8 a.data.toList))))).toList==(bk (G5 a.data.toList)).toList)&&((bk (C8 ((bk (C3 (A6 a.data.toList)))++(bk (C3 (A6 b.data.toList)))).data.toList)).toList==((bk (C8 (C3 (A6 a.data.toList))))++(bk (C8 (C3 (A6 b.data.toList))))).toList))&&((bk (F0 ((bk (C3 (A6 a.data.toList)))++(bk (C3 (A6 b.data.toList)))).data.toList)).toList==(((bk (F0 (C3 (A6 a.data.toList)))).extract 0 (Int.toNat (((bk (F0 (C3 (A6 a.data.toList)))).size:Int) - 1)))++((bk (F0 (C3 (A6 b.data.toList)))).extract 1 (bk (F0 (C3 (A6 b.data.toList)))).size)).toList))&&((bk (J7 (a++b).data.toList)).toList==((bk (J7 a.data.toList))++(bk (J7 b.data.toList))).toList))] (k:=?_))
    refine ⟨congrArg Value.bool ?_,rfl⟩
    simp only [Bool.and_eq_true,eqB]
    refine ⟨⟨⟨html_twice _,?_⟩,?_⟩,?_⟩
    · rw [E7,E7]; exact html_app _ _
    · rw [E7,E7,ext_take,G4,show Int.toNat (((bk (F0 (C3 (A6 a.data.toList)))).size:Int) - 1)=(F0 (C3 (A6 a.data.toList))).length - 1 by rw [E8]; omega]; exact json_app _ _
    · rw [E7,E7]; exact perc_app _ _
end Go.Proofs.YtbnfbffiehoapaaGreatDoor
namespace Go.Proofs.YtbnfbffiehoapaaGreatDoor
open Go Go.ChangeShapes Go.WideShapes Go.ChangeAt Go.RowKit Go.Sw
theorem ownKnobEscTwice:ownKnob Tryz.prog.godebug=none:=by kernel_rfl
set_option maxRecDepth 100000 in
theorem escTwice_lifted (os:Os) (started:os.Started) (H:Type) (enc:TypeId × Value→H) :
    ReturnsInHanded {} Tryz.checked os 8 .any (fun w args=>(Rows.escTwiceSpec.pre enc Tryz.prog Tryz.f8 Rows.escTwiceRow.domain false w args∧laidMetH Tryz.prog Rows.escTwiceRow.laid w)∧sizedMet enc Tryz.prog Tryz.f8 (OpenSpec.ofChange Rows.escTwiceSpec) false w args)
      (Rows.escTwiceSpec.post enc Tryz.prog Tryz.f8 false true false false):=by
  refine returnsInHanded_of_change_and (C:=Tryz.checked) (X:=fun w _=>laidMetH Tryz.prog Rows.escTwiceRow.laid w) (fun _ _ _ hh h=>h.of_heap hh) ownKnobEscTwice started (by kernel_rfl) Tryz.func8
    (ChangeSpec.witness_shaped (enc:=enc) (C:=Tryz.checked) (os:=os) (X:=fun w _=>laidMetH Tryz.prog Rows.escTwiceRow.laid w) false (World.laidAll Tryz.prog os Rows.escTwiceRow.laid) #[.string (ByteArray.mk #[]),.string (ByteArray.mk #[])] 8 (World.laidAll_os _ _ _)
      (World.shaped_of_ZipB (by kernel_rfl) (by kernel_rfl)) (by kernel_rfl) (by kernel_rfl) (by kernel_rfl)
      (by rw [MakeChecks.laidMetH_plain _ _ _ (by kernel_rfl)]; exact laidMet_laidAll _ (by kernel_rfl) (by kernel_rfl))) ?_
  intro W base args ds gs before hval0 hW hc _ hL _
  have hval:∀ (j:Nat) t v,Tryz.f8.params[j]? = some t→args[j]? = some v→Value.okWide Tryz.prog W .any base t v:=hval0
  have hW':=hW
  obtain ⟨p,q,hA0,hV,rfl,_,_⟩:=hW
  have hA:DataW.TrodAll enc Tryz.prog W 0 (fun _=>true) true Tryz.f8.params.toList args.toList ds p:=hA0
  rw [Tryz.params8] at hA hval
  obtain ⟨v0,vs0,d0,ds0,p0,q0,hargs,rfl,rfl,h0,r0⟩:=trodAll_cons hA
  obtain ⟨v1,vs1,d1,ds1,p1,q1,rfl,rfl,rfl,h1,r1⟩:=trodAll_cons r0
  obtain ⟨rfl,rfl,rfl⟩:=trodAll_nil r1
  obtain rfl:args=#[v0,v1]:=by cases args; simp_all
  obtain ⟨rfl,rfl⟩:=trodVars_none hV
  obtain ⟨x,rfl,rfl,rfl,wx⟩:=Go.ChangeMaps.open_string Tryz.underlying9 (hval 0 9 v0 rfl rfl) h0
  obtain ⟨y,rfl,rfl,rfl,wy⟩:=Go.ChangeMaps.open_string Tryz.underlying9 (hval 1 9 v1 rfl rfl) h1
  clear hA0
  simp only [List.append_nil] at hW'
  have hB:H3 W:=by
    rw [MakeChecks.laidMetH_plain _ _ _ (by kernel_rfl)] at hL
    exact base_of hL
  refine (escTwice_ x y W [] hB W (sat_nil W)).mono fun e W' ⟨v,H',he,⟨hv,hH⟩,hs⟩=>?_
  subst he; subst hv; subst hH
  exact ⟨_,rfl,post_below (pa:=[]) (pv:=[]) hW' (fun _ _ _=>trodAll_mk1 (shut_bool Tryz.underlying4 _)) (fun sp _=>trodAll_cons_mk (Go.ChangeMaps.shut_string Tryz.underlying9 wx) (trodAll_cons_mk (Go.ChangeMaps.shut_string Tryz.underlying9 wy) trodAll_mk0)) (fun _ _=>rfl) rfl hs.below (ok_one (by kernel_rfl) rfl (okWide_bool_mk Tryz.underlying4 _))⟩
theorem escTwice_said:Rows.EscTwiceSaid :=
  OpenClaim.holds_of_wide 8 Tryz.f8 rfl rfl rfl rfl rfl rfl rfl ⟨rfl,rfl,rfl,rfl,rfl⟩ rfl rfl rfl rfl rfl (by kernel_rfl) Tryz.func8 (by kernel_rfl)
    (of_decide_eq_true (by kernel_rfl)) (by unfold Func.isWrapper; first | (rw [if_pos (by decide +kernel)]; kernel_rfl) | (rw [if_neg (by decide +kernel)]; exact ⟨rfl,rfl⟩))
    (fun os started H enc _=>escTwice_lifted os started H enc)
theorem escTwice_card:Rows.EscTwiceCardSaid :=
  Claim7.holds_tied_plain_at .later [] _ _ _ _ escTwice_said (fun _ h=>by cases h) (by kernel_rfl) (fun _ h=>by cases h) escTwice_row_tie rfl ⟨rfl,rfl⟩ (by kernel_rfl) rfl
    (fun f fn hf hfn=>by
      obtain rfl : f = 8 := Option.some.inj ((show Tryz.prog.funcNamed "broadsheet/broadsheetlaw02.EscTwice" = some 8 by kernel_rfl).symm.trans hf) |>.symm
      obtain rfl:fn=Tryz.f8:=(Option.some.inj (Tryz.func8.symm.trans hfn)).symm
      exact ⟨by kernel_rfl,fun j t ht=>by
        rw [Tryz.params8] at ht
        have hm:t∈[9]:=by simpa using Array.mem_of_getElem? ht
        have hall:([9].all fun u=>!Tryz.prog.wantsStandIn u)=true:=by kernel_rfl
        exact (show Tryz.prog.wantsStandIn t=false by simpa using List.all_eq_true.1 hall t hm)⟩)
    (by kernel_rfl)
#print axioms escTwice_card
end Go.Proofs.YtbnfbffiehoapaaGreatDoor
