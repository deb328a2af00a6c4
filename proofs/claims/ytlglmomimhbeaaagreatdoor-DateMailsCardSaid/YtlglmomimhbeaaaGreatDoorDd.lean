/- The walk of Mail. -/
import Derived.Test.YtlglmomimhbeaaaGreatDoorDc
namespace Go.Proofs.YtlglmomimhbeaaaGreatDoor
open Go.Sw Go.Lib Go.Cal Go.Scn

def partsL (s : ByteArray) (k : Nat) : List ByteArray := (List.range k).map fun j => s.extract (3 * j) (3 * j + 3)
theorem parts_succ (s : ByteArray) (k : Nat) : strs (partsL s k) ++ [.string (s.extract (Int.toNat ((3 * k : Nat) : Int)) (Int.toNat (((3 * k : Nat) : Int) + 3)))] = strs (partsL s (k + 1)) := by
  have e : Int.toNat (((3 * k : Nat) : Int) + 3) = 3 * k + 3 := by omega
  rw [e, Int.toNat_natCast]
  simp [strs, partsL, List.range_succ]
def wkL : List ByteArray := partsL (ByteArray.mk #[77, 111, 110, 84, 117, 101, 87, 101, 100, 84, 104, 117, 70, 114, 105, 83, 97, 116, 83, 117, 110]) 7
def monL : List ByteArray := partsL (ByteArray.mk #[74, 97, 110, 70, 101, 98, 77, 97, 114, 65, 112, 114, 77, 97, 121, 74, 117, 110, 74, 117, 108, 65, 117, 103, 83, 101, 112, 79, 99, 116, 78, 111, 118, 68, 101, 99]) 12
def zoneL : List ByteArray := [ByteArray.mk #[71, 77, 84], ByteArray.mk #[85, 84], ByteArray.mk #[90], ByteArray.mk #[69, 83, 84], ByteArray.mk #[69, 68, 84], ByteArray.mk #[67, 83, 84], ByteArray.mk #[67, 68, 84], ByteArray.mk #[77, 83, 84], ByteArray.mk #[77, 68, 84], ByteArray.mk #[80, 83, 84], ByteArray.mk #[80, 68, 84]]
theorem num2_bd {p : Int × Sc} {σ : Sc} (h : p = num 2 σ) : p.1 ≤ 99 := by
  subst h
  unfold num
  split
  · rename_i h
    have := dvalL_bd (σ.s.extract 0 2).data.toList 0 h.2 (Int.le_refl 0)
    have hl : (σ.s.extract 0 2).data.toList.length = 2 := by
      rw [Array.length_toList]
      have : (σ.s.extract 0 2).size = 2 := by simp; omega
      exact this
    rw [hl] at this
    unfold dvalL
    simp only
    omega
  · simp
theorem ne_pos {s : ByteArray} (h : (!(s.toList == (ByteArray.mk #[]).toList)) = true) : (0 : Int) < s.size := by
  have hl : s.toList.length = s.size := by rw [toList_data, Array.length_toList]; rfl
  rcases Nat.eq_zero_or_pos s.size with h0 | h0
  · have : s.toList = [] := List.eq_nil_of_length_eq_zero (by omega)
    rw [this, show (ByteArray.mk #[]).toList = [] from by rw [toList_data]] at h
    cases h
  · omega
def weekM (s : ByteArray) : Sc := bif (decide ((s.size : Int) > 3)) && ((byteAt s 3) == 44) then (one [ByteArray.mk #[44, 32]] (one wkL ⟨s, false⟩).2).2 else ⟨s, false⟩
def dayM (σ : Sc) : Int × Sc := bif (decide ((σ.s.size : Int) > 1)) && ((byteAt σ.s 1) == 32) then num 1 σ else num 2 σ
def yearM (σ : Sc) : Int × Sc := bif (decide ((σ.s.size : Int) > 2)) && ((byteAt σ.s 2) == 32) then ((num 2 σ).1 + (1900 + 100 * ((149 - (num 2 σ).1) / 100)), (num 2 σ).2) else num 4 σ
def secM (σ : Sc) : Int × Sc := bif (may (ByteArray.mk #[58]) σ).1 then num 2 (may (ByteArray.mk #[58]) σ).2 else (0, (may (ByteArray.mk #[58]) σ).2)
def mailH (s : ByteArray) : (Int × Int × Int × Int × Int × Int) × Sc :=
  let d := dayM (weekM s)
  let mo := one monL (one [ByteArray.mk #[32]] d.2).2
  let y := yearM (one [ByteArray.mk #[32]] mo.2).2
  let h := num 2 (one [ByteArray.mk #[32]] y.2).2
  let mi := num 2 (one [ByteArray.mk #[58]] h.2).2
  let sc := secM mi.2
  ((y.1, mo.1 + 1, d.1, h.1, mi.1, sc.1), (one [ByteArray.mk #[32]] sc.2).2)
def signB (s : ByteArray) : Bool := (!(s.toList == (ByteArray.mk #[]).toList)) && (((byteAt s 0) == 43) || ((byteAt s 0) == 45))
def mailM (s : ByteArray) : Option Int :=
  let h := mailH s
  bif signB h.2.s then endM (offM (ByteArray.mk #[]) h.2).2 (timeM h.1.1 h.1.2.1 h.1.2.2.1 h.1.2.2.2.1 h.1.2.2.2.2.1 h.1.2.2.2.2.2 (offM (ByteArray.mk #[]) h.2).1)
  else endM (one zoneL h.2).2 (timeM h.1.1 h.1.2.1 h.1.2.2.1 h.1.2.2.2.1 h.1.2.2.2.2.1 h.1.2.2.2.2.2 (zoneM (one zoneL h.2).1))
theorem merrR {t : Option Int} {s : ByteArray} {l : List Value} {H : List Grp} (h : mailM s = t) (hl : packV l = tErr t) : packV l = tErr (mailM s) ∧ H = H := ⟨by rw [h]; exact hl, rfl⟩

theorem parts_ (s : ByteArray) (n : Nat) (hn : s.size = 3 * n) (hl : n ≤ 100) (W0 : World) (H : List Grp) : Tri Tryz.prog 18 #[.string s] W0 H (fun v H' => ∃ g, Own 9 1 v g n (strs (partsL s n)) ∧ H' = g :: H) := by
  refine Tri_of (args := [.string s]) (n := 20) Tryz.func18 rfl rfl (Nat.le_of_ble_eq_true rfl) ?_
  refine G_seq ?_
  refine G_pure (E' := [⟨0, [], .string s⟩]) [0] [0] rfl (by kernel_rfl) ?_
  refine N_then ?_
  refine G_seq ?_
  refine G_pure (E' := [⟨0, [], .string s⟩, ⟨3, [], .slice none 0 0⟩]) [0] [0, 3] rfl (by kernel_rfl) ?_
  refine N_then ?_
  refine G_seq ?_
  refine G_seq ?_
  refine G_pure (E' := [⟨0, [], .string s⟩, ⟨3, [], .slice none 0 0⟩, ⟨4, [], .int .i64 0⟩]) [0] [0, 3, 4] rfl (by kernel_rfl) ?_
  refine N_then ?_
  refine G_block ?_
  refine G_heap (H' := [] :: H) (fun w h => h.flat (List.Perm.refl _)) ?_
  refine G_loop (EI := (fun ξ : Nat × Value × Grp => [⟨0, [], .string s⟩, ⟨3, [], ξ.2.1⟩, ⟨4, [], .int .i64 ((3 * ξ.1 : Nat) : Int)⟩])) (HI := (fun ξ : Nat × Value × Grp => (ξ.2.2 :: H))) (Φ := (fun ξ : Nat × Value × Grp => (ξ.1 ≤ n) ∧ (Own 9 1 ξ.2.1 ξ.2.2 ξ.1 (strs (partsL s ξ.1))))) (μ := (fun ξ : Nat × Value × Grp => n - ξ.1)) (s0 := (0, .slice none 0 0, [])) [0, 3, 4] (by kernel_rfl) rfl ⟨(by omega), Own.nil⟩ ?_
  rintro ⟨k, v, g⟩ ⟨hk, hO⟩
  refine G_seq ?_
  refine G_seq ?_
  refine G_pure (E' := [⟨0, [], .string s⟩, ⟨3, [], v⟩, ⟨4, [], .int .i64 ((3 * k : Nat) : Int)⟩, ⟨8, [], .bool (decide (((3 * k : Nat) : Int) < (s.size : Int)))⟩]) [0, 0, 0, 0] [0, 3, 4, 8] rfl (by kernel_rfl) ?_
  refine N_then ?_
  refine G_cond (b := decide (((3 * k : Nat) : Int) < (s.size : Int))) (by kernel_rfl) (fun hc1 => ?_) (fun hc1 => ?_)
  ·
    simp at hc1
    refine G_skip ?_
    refine N_then ?_
    refine G_seq ?_
    refine G_block ?_
    have hw2 : IntKind.wrap .i64 (((3 * k : Nat) : Int) + 3) = ((3 * k : Nat) : Int) + 3 := w64 (by omega) (by omega)
    refine G_region ?_
    refine GL_pure (E' := [⟨15, [], .int .i64 (((3 * k : Nat) : Int) + 3)⟩, ⟨14, [], .int .i64 ((3 * k : Nat) : Int)⟩, ⟨13, [], .int .i64 ((3 * k : Nat) : Int)⟩, ⟨12, [], .string s⟩, ⟨11, [], v⟩, ⟨0, [], .string s⟩, ⟨3, [], v⟩, ⟨4, [], .int .i64 ((3 * k : Nat) : Int)⟩, ⟨8, [], .bool (decide (((3 * k : Nat) : Int) < (s.size : Int)))⟩]) [0, 0, 0, 0, 0] (Eq.trans (b := some [⟨15, [], .int .i64 (IntKind.wrap .i64 (((3 * k : Nat) : Int) + 3))⟩, ⟨14, [], .int .i64 ((3 * k : Nat) : Int)⟩, ⟨13, [], .int .i64 ((3 * k : Nat) : Int)⟩, ⟨12, [], .string s⟩, ⟨11, [], v⟩, ⟨0, [], .string s⟩, ⟨3, [], v⟩, ⟨4, [], .int .i64 ((3 * k : Nat) : Int)⟩, ⟨8, [], .bool (decide (((3 * k : Nat) : Int) < (s.size : Int)))⟩]) (by kernel_rfl) (by simp only [hw2])) (j := 5) rfl ?_
    refine GL_sliceS (i := 5) (ch := []) (s := s) (vl := (some (.int .i64 ((3 * k : Nat) : Int)))) (vh := (some (.int .i64 (((3 * k : Nat) : Int) + 3)))) (l := ((3 * k : Nat) : Int)) (h := ((3 * k : Nat) : Int) + 3) rfl rfl (by kernel_rfl) (by kernel_rfl) (by kernel_rfl) (by kernel_rfl) (by kernel_rfl) (by kernel_rfl) (by kernel_rfl) (by kernel_rfl) (by kernel_rfl) (fun _ => by omega) ?_
    refine GL_buildSlice (i := 6) (ch := []) (e := 9) (l := [(0, .string (s.extract (Int.toNat ((3 * k : Nat) : Int)) (Int.toNat (((3 * k : Nat) : Int) + 3))))]) (c := [.string (s.extract (Int.toNat ((3 * k : Nat) : Int)) (Int.toNat (((3 * k : Nat) : Int) + 3)))]) rfl rfl (by kernel_rfl) (by kernel_rfl) (by kernel_rfl) (by kernel_rfl) (by kernel_rfl) (fun b3 => ?_)
    refine GL_append (i := 7) (ch := []) (t := 35) (tx := 35) (e := 9) (inf := Tryz.t9) (s := v) (x := .slice (some ⟨b3, 0, none⟩) 1 1) (n := k) (m := 1) (j := 1) (cs := (strs (partsL s k))) (news := [.string (s.extract (Int.toNat ((3 * k : Nat) : Int)) (Int.toNat (((3 * k : Nat) : Int) + 3)))]) (g := g) (S := (inG [(b3, .cells #[.string (s.extract (Int.toNat ((3 * k : Nat) : Int)) (Int.toNat (((3 * k : Nat) : Int) + 3)))] 9 (0, 0))])) rfl rfl rfl rfl (by kernel_rfl) (by kernel_rfl) (by kernel_rfl) rfl rfl (.inl ⟨9, (by kernel_rfl)⟩) (fun ⟨_, h⟩ => by cases h) (fun _ => ⟨9, (by kernel_rfl)⟩) (by kernel_rfl) (by kernel_rfl) (by kernel_rfl) rfl hO (SrcOf.slice _ _ _ _ Rd.lit (fun h => by cases h)) (at_inG 0 rfl) (by kernel_rfl) (by intro u hu; rcases List.mem_singleton.1 hu with rfl; rfl) (by omega) (by show (k + 1) * 16 ≤ 140737488355328; omega) (fun v4 g5 hO6 => ?_)
    refine GL_fin (E' := [⟨0, [], .string s⟩, ⟨3, [], v4⟩, ⟨4, [], .int .i64 ((3 * k : Nat) : Int)⟩]) [0] [0, 3, 4] rfl (by kernel_rfl) ?_
    refine N_block ?_
    refine N_then ?_
    have hw7 : IntKind.wrap .i64 (((3 * k : Nat) : Int) + 3) = ((3 * k : Nat) : Int) + 3 := w64 (by omega) (by omega)
    refine G_pure (E' := [⟨0, [], .string s⟩, ⟨3, [], v4⟩, ⟨4, [], .int .i64 (((3 * k : Nat) : Int) + 3)⟩]) [0, 0, 0] [0, 3, 4] rfl (Eq.trans (b := some [⟨0, [], .string s⟩, ⟨3, [], v4⟩, ⟨4, [], .int .i64 (IntKind.wrap .i64 (((3 * k : Nat) : Int) + 3))⟩]) (by kernel_rfl) (by simp only [hw7])) ?_
    refine N_heap (H' := (g5 :: H)) (fun w h => ((h.front (j := 1) rfl).erase 1)) ?_
    refine N_round (s' := (k + 1, v4, g5)) [0, 3, 4] (by kernel_rfl) rfl ⟨(by omega), (by rw [← parts_succ]; first | exact hO8 | assumption)⟩ (by omega)
  ·
    simp at hc1
    refine G_exit ?_
    refine N_then_exit ?_
    refine N_then_exit ?_
    refine N_block_exit ?_
    refine N_then ?_
    refine G_seq ?_
    refine G_pure (E' := [⟨2, [], v⟩]) [0, 0] [2] rfl (by kernel_rfl) ?_
    refine N_then ?_
    refine G_ret ?_
    refine N_ret [.tmp 2] [v] rfl (by kernel_rfl) rfl ?_
    have hkn : k = n := by omega
    subst hkn
    exact ⟨g, hO, rfl⟩

theorem mail_ (s : ByteArray) (W0 : World) (H : List Grp) : Tri Tryz.prog 6 #[.string s] W0 H (fun v H' => v = tErr (mailM s) ∧ H' = H) := by
  refine Tri_of (args := [.string s]) (n := 142) Tryz.func6 rfl rfl (Nat.le_of_ble_eq_true rfl) ?_
  refine G_seq ?_
  refine G_pure (E' := [⟨0, [], .string s⟩]) [0, 0] [0] rfl (by kernel_rfl) ?_
  refine N_then ?_
  refine G_seq ?_
  refine G_region ?_
  refine GL_pure (E' := [⟨7, [], .agg #[.string s, .bool false]⟩, ⟨6, [], .string s⟩, ⟨0, [], .string s⟩]) [0, 0] (by kernel_rfl) (j := 2) rfl ?_
  refine GL_box (i := 2) (ch := []) (v := .agg #[.string s, .bool false]) rfl rfl (by kernel_rfl) (by kernel_rfl) (by kernel_rfl) (by kernel_rfl) (fun b1 => ?_)
  refine GL_fin (E' := [⟨0, [], .string s⟩, ⟨4, [], .pointer (some ⟨b1, 0, none⟩)⟩]) [0] [0, 4] rfl (by kernel_rfl) ?_
  refine N_then ?_
  refine G_seq ?_
  refine G_seq ?_
  refine G_region ?_
  refine GL_pure (E' := [⟨13, [(12, true)], .string s⟩, ⟨12, [], .bool (decide ((s.size : Int) > 3))⟩, ⟨11, [], .bool (decide ((s.size : Int) > 3))⟩, ⟨10, [], .int .i64 (s.size : Int)⟩, ⟨9, [], .string s⟩, ⟨0, [], .string s⟩, ⟨4, [], .pointer (some ⟨b1, 0, none⟩)⟩]) [0, 0, 0, 0, 0] (by kernel_rfl) (j := 5) rfl ?_
  refine GL_index (i := 5) (ch := [(12, true)]) (s := s) (kd := .i64) (j := 3) rfl rfl (by kernel_rfl) (by kernel_rfl) (by kernel_rfl) (by kernel_rfl) (by kernel_rfl) (by kernel_rfl) (fun hc => by have hg0 := chB_hd (t := 12) (c := []) (b := decide ((s.size : Int) > 3)) hc (by kernel_rfl); (try simp at hg0); omega) ?_
  have hb2 := byteAt_rng s 3
  refine GL_fin (E' := [⟨4, [], .pointer (some ⟨b1, 0, none⟩)⟩, ⟨16, [], .bool ((decide ((s.size : Int) > 3)) && ((byteAt s 3) == 44))⟩]) [0, 6] [4, 16] rfl (by kernel_rfl) ?_
  refine N_then ?_
  refine G_join (T := Sc) (fun ξ : Sc => [⟨4, [], .pointer (some ⟨b1, 0, none⟩)⟩]) (fun ξ : Sc => ([(b1, .cells #[.string ξ.s, .bool ξ.bad] 40 (0, 0))] :: H)) (fun ξ : Sc => (ξ = weekM s)) ?_ ?_
  ·
    refine G_cond (b := (decide ((s.size : Int) > 3)) && ((byteAt s 3) == 44)) (by kernel_rfl) (fun hc3 => ?_) (fun hc3 => ?_)
    ·
      -- hc3 true
      skip
      refine G_seq ?_
      refine G_region ?_
      refine GL_pure (E' := [⟨17, [], .pointer (some ⟨b1, 0, none⟩)⟩, ⟨4, [], .pointer (some ⟨b1, 0, none⟩)⟩, ⟨16, [], .bool ((decide ((s.size : Int) > 3)) && ((byteAt s 3) == 44))⟩]) [0] (by kernel_rfl) (j := 1) rfl ?_
      refine GL_call (i := 1) (ch := []) (f := 18) (fst := #[]) (caps := #[]) (vs := [.string (ByteArray.mk #[77, 111, 110, 84, 117, 101, 87, 101, 100, 84, 104, 117, 70, 114, 105, 83, 97, 116, 83, 117, 110])]) rfl rfl rfl (by kernel_rfl) (by kernel_rfl) Tryz.func18 rfl rfl (by kernel_rfl) (by kernel_rfl) (chSure_of (by kernel_rfl)) (parts_ (ByteArray.mk #[77, 111, 110, 84, 117, 101, 87, 101, 100, 84, 104, 117, 70, 114, 105, 83, 97, 116, 83, 117, 110]) 7 rfl (Nat.le_of_ble_eq_true rfl) _ _) ?_
      rintro _ _ ⟨g4, hO5, rfl⟩
      obtain ⟨a6, cap7, rfl, hcap8, hrd9⟩ := hO5.shape
      refine GL_heap rfl (H' := ([(b1, .cells #[.string s, .bool false] 40 (0, 0))] :: g4 :: H)) (fun w h => (h.front (j := 1) rfl)) ?_
      refine GL_call (i := 2) (ch := []) (f := 17) (fst := #[]) (caps := #[]) (vs := [.pointer (some ⟨b1, 0, none⟩), .slice a6 7 cap7]) rfl rfl rfl (by kernel_rfl) (by kernel_rfl) Tryz.func17 rfl rfl (by kernel_rfl) (by kernel_rfl) (chSure_of (by kernel_rfl)) (one_ b1 ⟨s, false⟩ a6 cap7 (inG g4) wkL hrd9 (Nat.le_of_ble_eq_true rfl) _ _ (at_inG 1 rfl)) ?_
      rintro _ _ ⟨p10, hp10, hp10a, hp10b, hp10c, rfl, rfl⟩
      rw [show wkL.length = 7 from rfl] at hp10b
      refine GL_fin (E' := [⟨4, [], .pointer (some ⟨b1, 0, none⟩)⟩]) [] [4] rfl (by kernel_rfl) ?_
      refine N_then ?_
      refine G_region ?_
      refine GL_pure (E' := [⟨20, [], .pointer (some ⟨b1, 0, none⟩)⟩, ⟨4, [], .pointer (some ⟨b1, 0, none⟩)⟩]) [0] (by kernel_rfl) (j := 1) rfl ?_
      refine GL_buildSlice (i := 1) (ch := []) (e := 9) (l := [(0, .string (ByteArray.mk #[44, 32]))]) (c := [.string (ByteArray.mk #[44, 32])]) rfl rfl (by kernel_rfl) (by kernel_rfl) (by kernel_rfl) (by kernel_rfl) (by kernel_rfl) (fun b11 => ?_)
      refine GL_heap rfl (H' := ([(b1, .cells #[.string p10.2.s, .bool p10.2.bad] 40 (0, 0))] :: [(b11, .cells #[.string (ByteArray.mk #[44, 32])] 9 (0, 0))] :: g4 :: H)) (fun w h => (h.front (j := 1) rfl)) ?_
      refine GL_call (i := 2) (ch := []) (f := 17) (fst := #[]) (caps := #[]) (vs := [.pointer (some ⟨b1, 0, none⟩), .slice (some ⟨b11, 0, none⟩) 1 1]) rfl rfl rfl (by kernel_rfl) (by kernel_rfl) Tryz.func17 rfl rfl (by kernel_rfl) (by kernel_rfl) (chSure_of (by kernel_rfl)) (one_ b1 p10.2 (some ⟨b11, 0, none⟩) 1 (inG [(b11, .cells #[.string (ByteArray.mk #[44, 32])] 9 (0, 0))]) ([(ByteArray.mk #[44, 32])]) (Rd.lit (c := [.string (ByteArray.mk #[44, 32])])) (Nat.le_of_ble_eq_true rfl) _ _ (at_inG 1 rfl)) ?_
      rintro _ _ ⟨p12, hp12, hp12a, hp12b, hp12c, rfl, rfl⟩
      simp at hp12b
      refine GL_fin (E' := [⟨4, [], .pointer (some ⟨b1, 0, none⟩)⟩]) [] [4] rfl (by kernel_rfl) ?_
      refine N_join (p12.2) [4] (by kernel_rfl) (fun w h => ((h.erase 2).erase 1)) (by simp only [weekM, hc3, cond_true, ← hp10, ← hp12])
    ·
      -- hc3 false
      skip
      refine G_skip ?_
      refine N_join (⟨s, false⟩) [4] (by kernel_rfl) (fun w h => h) (by simp only [weekM, hc3, cond_false])
  ·
    rintro w0 hw0
    -- J hw0
    refine N_then ?_
    refine G_seq ?_
    refine G_region ?_
    refine GL_pure (E' := [⟨23, [], .agg #[.int .i64 0, .int .i64 0, .int .i64 0, .int .i64 0, .int .i64 0, .int .i64 0]⟩, ⟨4, [], .pointer (some ⟨b1, 0, none⟩)⟩]) [0] (by kernel_rfl) (j := 1) rfl ?_
    refine GL_alloc (i := 1) (ch := []) (z := .agg #[.int .i64 0, .int .i64 0, .int .i64 0, .int .i64 0, .int .i64 0, .int .i64 0]) rfl rfl (by kernel_rfl) (by kernel_rfl) (by kernel_rfl) (by kernel_rfl) (fun b13 => ?_)
    refine GL_store (i := 2) (ch := []) (b := b13) (off := 0) (v := .agg #[.int .i64 0, .int .i64 0, .int .i64 0, .int .i64 0, .int .i64 0, .int .i64 0]) (c := #[.int .i64 0, .int .i64 0, .int .i64 0, .int .i64 0, .int .i64 0, .int .i64 0]) (c' := #[.int .i64 0, .int .i64 0, .int .i64 0, .int .i64 0, .int .i64 0, .int .i64 0]) (j := 0) (m := 0) (H' := ([(b13, .cells #[.int .i64 0, .int .i64 0, .int .i64 0, .int .i64 0, .int .i64 0, .int .i64 0] 44 (0, 0))] :: [(b1, .cells #[.string w0.s, .bool w0.bad] 40 (0, 0))] :: H)) rfl rfl (by kernel_rfl) (by kernel_rfl) (by kernel_rfl) (by kernel_rfl) (by kernel_rfl) (by kernel_rfl) (by kernel_rfl) rfl rfl (Nat.le_of_ble_eq_true rfl) (fun _ _ => thaw0) (by kernel_rfl) (by kernel_rfl) ?_
    refine GL_fin (E' := [⟨4, [], .pointer (some ⟨b1, 0, none⟩)⟩, ⟨5, [], .pointer (some ⟨b13, 0, none⟩)⟩]) [] [4, 5] rfl (by kernel_rfl) ?_
    refine N_then ?_
    refine G_seq ?_
    refine G_seq ?_
    refine G_region ?_
    refine GL_pure (E' := [⟨26, [], .pointer (some ⟨b1, 0, none⟩)⟩, ⟨25, [], .pointer (some ⟨b1, 0, none⟩)⟩, ⟨24, [], .pointer (some ⟨b1, 0, none⟩)⟩, ⟨4, [], .pointer (some ⟨b1, 0, none⟩)⟩, ⟨5, [], .pointer (some ⟨b13, 0, none⟩)⟩]) [0, 0, 0] (by kernel_rfl) (j := 3) rfl ?_
    refine GL_load (i := 3) (ch := []) (b := b1) (off := 0) (v := .string w0.s) rfl rfl (by kernel_rfl) (by kernel_rfl) (by kernel_rfl) (by kernel_rfl) (by kernel_rfl) (At.grp 1 0 rfl rfl) rfl ?_
    refine GL_pure (E' := [⟨33, [(30, true)], .pointer (some ⟨b1, 0, none⟩)⟩, ⟨32, [(30, true)], .pointer (some ⟨b1, 0, none⟩)⟩, ⟨31, [(30, true)], .pointer (some ⟨b1, 0, none⟩)⟩, ⟨30, [], .bool (decide ((w0.s.size : Int) > 1))⟩, ⟨29, [], .bool (decide ((w0.s.size : Int) > 1))⟩, ⟨28, [], .int .i64 (w0.s.size : Int)⟩, ⟨27, [], .string w0.s⟩, ⟨26, [], .pointer (some ⟨b1, 0, none⟩)⟩, ⟨25, [], .pointer (some ⟨b1, 0, none⟩)⟩, ⟨24, [], .pointer (some ⟨b1, 0, none⟩)⟩, ⟨4, [], .pointer (some ⟨b1, 0, none⟩)⟩, ⟨5, [], .pointer (some ⟨b13, 0, none⟩)⟩]) [0, 0, 0, 0, 0, 0] (by kernel_rfl) (j := 10) rfl ?_
    refine GL_load (i := 10) (ch := [(30, true)]) (b := b1) (off := 0) (v := .string w0.s) rfl rfl (by kernel_rfl) (by kernel_rfl) (by kernel_rfl) (by kernel_rfl) (by kernel_rfl) (At.grp 1 0 rfl rfl) rfl ?_
    refine GL_index (i := 11) (ch := [(30, true)]) (s := w0.s) (kd := .i64) (j := 1) rfl rfl (by kernel_rfl) (by kernel_rfl) (by kernel_rfl) (by kernel_rfl) (by kernel_rfl) (by kernel_rfl) (fun hc => by have hg0 := chB_hd (t := 30) (c := []) (b := decide ((w0.s.size : Int) > 1)) hc (by kernel_rfl); (try simp at hg0); omega) ?_
    have hb14 := byteAt_rng w0.s 1
    refine GL_fin (E' := [⟨4, [], .pointer (some ⟨b1, 0, none⟩)⟩, ⟨5, [], .pointer (some ⟨b13, 0, none⟩)⟩, ⟨37, [], .bool ((decide ((w0.s.size : Int) > 1)) && ((byteAt w0.s 1) == 32))⟩]) [0, 6] [4, 5, 37] rfl (by kernel_rfl) ?_
    refine N_then ?_
    refine G_join (T := Int × Sc) (fun ξ : Int × Sc => [⟨4, [], .pointer (some ⟨b1, 0, none⟩)⟩, ⟨5, [], .pointer (some ⟨b13, 0, none⟩)⟩]) (fun ξ : Int × Sc => ([(b13, .cells #[.int .i64 0, .int .i64 0, .int .i64 ξ.1, .int .i64 0, .int .i64 0, .int .i64 0] 44 (0, 0))] :: [(b1, .cells #[.string ξ.2.s, .bool ξ.2.bad] 40 (0, 0))] :: H)) (fun ξ : Int × Sc => ((ξ.1, ξ.2) = dayM w0) ∧ (0 ≤ ξ.1) ∧ (ξ.1 ≤ 9999)) ?_ ?_
    ·
      refine G_cond (b := (decide ((w0.s.size : Int) > 1)) && ((byteAt w0.s 1) == 32)) (by kernel_rfl) (fun hc15 => ?_) (fun hc15 => ?_)
      ·
        -- hc15 true
        skip
        refine G_region ?_
        refine GL_pure (E' := [⟨38, [], .pointer (some ⟨b1, 0, none⟩)⟩, ⟨4, [], .pointer (some ⟨b1, 0, none⟩)⟩, ⟨5, [], .pointer (some ⟨b13, 0, none⟩)⟩, ⟨37, [], .bool ((decide ((w0.s.size : Int) > 1)) && ((byteAt w0.s 1) == 32))⟩]) [0] (by kernel_rfl) (j := 1) rfl ?_
        refine GL_heap rfl (H' := ([(b1, .cells #[.string w0.s, .bool w0.bad] 40 (0, 0))] :: [(b13, .cells #[.int .i64 0, .int .i64 0, .int .i64 0, .int .i64 0, .int .i64 0, .int .i64 0] 44 (0, 0))] :: H)) (fun w h => (h.front (j := 1) rfl)) ?_
        refine GL_call (i := 1) (ch := []) (f := 19) (fst := #[]) (caps := #[]) (vs := [.pointer (some ⟨b1, 0, none⟩), .int .i64 1]) rfl rfl rfl (by kernel_rfl) (by kernel_rfl) Tryz.func19 rfl rfl (by kernel_rfl) (by kernel_rfl) (chSure_of (by kernel_rfl)) (number_ b1 w0 1 (by omega) (by omega) _ _) ?_
        rintro _ _ ⟨p16, hp16, hp16a, hp16b, hp16c, rfl, rfl⟩
        refine GL_pure (E' := [⟨40, [], .pointer (some ⟨b13, 2, none⟩)⟩, ⟨39, [], .int .i64 p16.1⟩, ⟨38, [], .pointer (some ⟨b1, 0, none⟩)⟩, ⟨4, [], .pointer (some ⟨b1, 0, none⟩)⟩, ⟨5, [], .pointer (some ⟨b13, 0, none⟩)⟩, ⟨37, [], .bool ((decide ((w0.s.size : Int) > 1)) && ((byteAt w0.s 1) == 32))⟩]) [0] (by kernel_rfl) (j := 3) rfl ?_
        refine GL_store (i := 3) (ch := []) (b := b13) (off := 2) (v := .int .i64 p16.1) (c := #[.int .i64 0, .int .i64 0, .int .i64 0, .int .i64 0, .int .i64 0, .int .i64 0]) (c' := #[.int .i64 0, .int .i64 0, .int .i64 p16.1, .int .i64 0, .int .i64 0, .int .i64 0]) (j := 1) (m := 0) (H' := ([(b1, .cells #[.string p16.2.s, .bool p16.2.bad] 40 (0, 0))] :: [(b13, .cells #[.int .i64 0, .int .i64 0, .int .i64 p16.1, .int .i64 0, .int .i64 0, .int .i64 0] 44 (0, 0))] :: H)) rfl rfl (by kernel_rfl) (by kernel_rfl) (by kernel_rfl) (by kernel_rfl) (by kernel_rfl) (by kernel_rfl) (by kernel_rfl) rfl rfl (Nat.le_of_ble_eq_true rfl) (fun _ _ => thaw0) (by kernel_rfl) (by kernel_rfl) ?_
        refine GL_fin (E' := [⟨4, [], .pointer (some ⟨b1, 0, none⟩)⟩, ⟨5, [], .pointer (some ⟨b13, 0, none⟩)⟩]) [] [4, 5] rfl (by kernel_rfl) ?_
        refine N_join (p16.1, p16.2) [4, 5] (by kernel_rfl) (fun w h => (h.front (j := 1) rfl)) ⟨(by simp only [dayM, hc15, cond_true, ← hp16]), (by omega), (by omega)⟩
      ·
        -- hc15 false
        skip
        refine G_region ?_
        refine GL_pure (E' := [⟨41, [], .pointer (some ⟨b1, 0, none⟩)⟩, ⟨4, [], .pointer (some ⟨b1, 0, none⟩)⟩, ⟨5, [], .pointer (some ⟨b13, 0, none⟩)⟩, ⟨37, [], .bool ((decide ((w0.s.size : Int) > 1)) && ((byteAt w0.s 1) == 32))⟩]) [0] (by kernel_rfl) (j := 1) rfl ?_
        refine GL_heap rfl (H' := ([(b1, .cells #[.string w0.s, .bool w0.bad] 40 (0, 0))] :: [(b13, .cells #[.int .i64 0, .int .i64 0, .int .i64 0, .int .i64 0, .int .i64 0, .int .i64 0] 44 (0, 0))] :: H)) (fun w h => (h.front (j := 1) rfl)) ?_
        refine GL_call (i := 1) (ch := []) (f := 19) (fst := #[]) (caps := #[]) (vs := [.pointer (some ⟨b1, 0, none⟩), .int .i64 2]) rfl rfl rfl (by kernel_rfl) (by kernel_rfl) Tryz.func19 rfl rfl (by kernel_rfl) (by kernel_rfl) (chSure_of (by kernel_rfl)) (number_ b1 w0 2 (by omega) (by omega) _ _) ?_
        rintro _ _ ⟨p17, hp17, hp17a, hp17b, hp17c, rfl, rfl⟩
        have hp17d := num2_bd hp17
        refine GL_pure (E' := [⟨43, [], .pointer (some ⟨b13, 2, none⟩)⟩, ⟨42, [], .int .i64 p17.1⟩, ⟨41, [], .pointer (some ⟨b1, 0, none⟩)⟩, ⟨4, [], .pointer (some ⟨b1, 0, none⟩)⟩, ⟨5, [], .pointer (some ⟨b13, 0, none⟩)⟩, ⟨37, [], .bool ((decide ((w0.s.size : Int) > 1)) && ((byteAt w0.s 1) == 32))⟩]) [0] (by kernel_rfl) (j := 3) rfl ?_
        refine GL_store (i := 3) (ch := []) (b := b13) (off := 2) (v := .int .i64 p17.1) (c := #[.int .i64 0, .int .i64 0, .int .i64 0, .int .i64 0, .int .i64 0, .int .i64 0]) (c' := #[.int .i64 0, .int .i64 0, .int .i64 p17.1, .int .i64 0, .int .i64 0, .int .i64 0]) (j := 1) (m := 0) (H' := ([(b1, .cells #[.string p17.2.s, .bool p17.2.bad] 40 (0, 0))] :: [(b13, .cells #[.int .i64 0, .int .i64 0, .int .i64 p17.1, .int .i64 0, .int .i64 0, .int .i64 0] 44 (0, 0))] :: H)) rfl rfl (by kernel_rfl) (by kernel_rfl) (by kernel_rfl) (by kernel_rfl) (by kernel_rfl) (by kernel_rfl) (by kernel_rfl) rfl rfl (Nat.le_of_ble_eq_true rfl) (fun _ _ => thaw0) (by kernel_rfl) (by kernel_rfl) ?_
        refine GL_fin (E' := [⟨4, [], .pointer (some ⟨b1, 0, none⟩)⟩, ⟨5, [], .pointer (some ⟨b13, 0, none⟩)⟩]) [] [4, 5] rfl (by kernel_rfl) ?_
        refine N_join (p17.1, p17.2) [4, 5] (by kernel_rfl) (fun w h => (h.front (j := 1) rfl)) ⟨(by simp only [dayM, hc15, cond_false, ← hp17]), (by omega), (by omega)⟩
    ·
      rintro ⟨d1, w1⟩ ⟨hd, hd1, hd2⟩
      -- J hd
      refine N_then ?_
      refine G_seq ?_
      refine G_region ?_
      refine GL_pure (E' := [⟨44, [], .pointer (some ⟨b1, 0, none⟩)⟩, ⟨4, [], .pointer (some ⟨b1, 0, none⟩)⟩, ⟨5, [], .pointer (some ⟨b13, 0, none⟩)⟩]) [0] (by kernel_rfl) (j := 1) rfl ?_
      refine GL_buildSlice (i := 1) (ch := []) (e := 9) (l := [(0, .string (ByteArray.mk #[32]))]) (c := [.string (ByteArray.mk #[32])]) rfl rfl (by kernel_rfl) (by kernel_rfl) (by kernel_rfl) (by kernel_rfl) (by kernel_rfl) (fun b18 => ?_)
      refine GL_heap rfl (H' := ([(b1, .cells #[.string w1.s, .bool w1.bad] 40 (0, 0))] :: [(b18, .cells #[.string (ByteArray.mk #[32])] 9 (0, 0))] :: [(b13, .cells #[.int .i64 0, .int .i64 0, .int .i64 d1, .int .i64 0, .int .i64 0, .int .i64 0] 44 (0, 0))] :: H)) (fun w h => (h.front (j := 2) rfl)) ?_
      refine GL_call (i := 2) (ch := []) (f := 17) (fst := #[]) (caps := #[]) (vs := [.pointer (some ⟨b1, 0, none⟩), .slice (some ⟨b18, 0, none⟩) 1 1]) rfl rfl rfl (by kernel_rfl) (by kernel_rfl) Tryz.func17 rfl rfl (by kernel_rfl) (by kernel_rfl) (chSure_of (by kernel_rfl)) (one_ b1 w1 (some ⟨b18, 0, none⟩) 1 (inG [(b18, .cells #[.string (ByteArray.mk #[32])] 9 (0, 0))]) ([(ByteArray.mk #[32])]) (Rd.lit (c := [.string (ByteArray.mk #[32])])) (Nat.le_of_ble_eq_true rfl) _ _ (at_inG 1 rfl)) ?_
      rintro _ _ ⟨p19, hp19, hp19a, hp19b, hp19c, rfl, rfl⟩
      simp at hp19b
      refine GL_fin (E' := [⟨4, [], .pointer (some ⟨b1, 0, none⟩)⟩, ⟨5, [], .pointer (some ⟨b13, 0, none⟩)⟩]) [] [4, 5] rfl (by kernel_rfl) ?_
      refine N_then ?_
      refine G_seq ?_
      refine G_region ?_
      refine GL_pure (E' := [⟨47, [], .pointer (some ⟨b1, 0, none⟩)⟩, ⟨4, [], .pointer (some ⟨b1, 0, none⟩)⟩, ⟨5, [], .pointer (some ⟨b13, 0, none⟩)⟩]) [0] (by kernel_rfl) (j := 1) rfl ?_
      refine GL_call (i := 1) (ch := []) (f := 18) (fst := #[]) (caps := #[]) (vs := [.string (ByteArray.mk #[74, 97, 110, 70, 101, 98, 77, 97, 114, 65, 112, 114, 77, 97, 121, 74, 117, 110, 74, 117, 108, 65, 117, 103, 83, 101, 112, 79, 99, 116, 78, 111, 118, 68, 101, 99])]) rfl rfl rfl (by kernel_rfl) (by kernel_rfl) Tryz.func18 rfl rfl (by kernel_rfl) (by kernel_rfl) (chSure_of (by kernel_rfl)) (parts_ (ByteArray.mk #[74, 97, 110, 70, 101, 98, 77, 97, 114, 65, 112, 114, 77, 97, 121, 74, 117, 110, 74, 117, 108, 65, 117, 103, 83, 101, 112, 79, 99, 116, 78, 111, 118, 68, 101, 99]) 12 rfl (Nat.le_of_ble_eq_true rfl) _ _) ?_
      rintro _ _ ⟨g20, hO21, rfl⟩
      obtain ⟨a22, cap23, rfl, hcap24, hrd25⟩ := hO21.shape
      refine GL_heap rfl (H' := ([(b1, .cells #[.string p19.2.s, .bool p19.2.bad] 40 (0, 0))] :: g20 :: [(b18, .cells #[.string (ByteArray.mk #[32])] 9 (0, 0))] :: [(b13, .cells #[.int .i64 0, .int .i64 0, .int .i64 d1, .int .i64 0, .int .i64 0, .int .i64 0] 44 (0, 0))] :: H)) (fun w h => (h.front (j := 1) rfl)) ?_
      refine GL_call (i := 2) (ch := []) (f := 17) (fst := #[]) (caps := #[]) (vs := [.pointer (some ⟨b1, 0, none⟩), .slice a22 12 cap23]) rfl rfl rfl (by kernel_rfl) (by kernel_rfl) Tryz.func17 rfl rfl (by kernel_rfl) (by kernel_rfl) (chSure_of (by kernel_rfl)) (one_ b1 p19.2 a22 cap23 (inG g20) monL hrd25 (Nat.le_of_ble_eq_true rfl) _ _ (at_inG 1 rfl)) ?_
      rintro _ _ ⟨p26, hp26, hp26a, hp26b, hp26c, rfl, rfl⟩
      rw [show monL.length = 12 from rfl] at hp26b
      have hw27 : IntKind.wrap .i64 (p26.1 + 1) = p26.1 + 1 := w64 (by omega) (by omega)
      refine GL_pure (E' := [⟨51, [], .pointer (some ⟨b13, 1, none⟩)⟩, ⟨50, [], .int .i64 (p26.1 + 1)⟩, ⟨49, [], .int .i64 p26.1⟩, ⟨48, [], .slice a22 12 cap23⟩, ⟨47, [], .pointer (some ⟨b1, 0, none⟩)⟩, ⟨4, [], .pointer (some ⟨b1, 0, none⟩)⟩, ⟨5, [], .pointer (some ⟨b13, 0, none⟩)⟩]) [0, 0] (Eq.trans (b := some [⟨51, [], .pointer (some ⟨b13, 1, none⟩)⟩, ⟨50, [], .int .i64 (IntKind.wrap .i64 (p26.1 + 1))⟩, ⟨49, [], .int .i64 p26.1⟩, ⟨48, [], .slice a22 12 cap23⟩, ⟨47, [], .pointer (some ⟨b1, 0, none⟩)⟩, ⟨4, [], .pointer (some ⟨b1, 0, none⟩)⟩, ⟨5, [], .pointer (some ⟨b13, 0, none⟩)⟩]) (by kernel_rfl) (by simp only [hw27])) (j := 5) rfl ?_
      refine GL_store (i := 5) (ch := []) (b := b13) (off := 1) (v := .int .i64 (p26.1 + 1)) (c := #[.int .i64 0, .int .i64 0, .int .i64 d1, .int .i64 0, .int .i64 0, .int .i64 0]) (c' := #[.int .i64 0, .int .i64 (p26.1 + 1), .int .i64 d1, .int .i64 0, .int .i64 0, .int .i64 0]) (j := 3) (m := 0) (H' := ([(b1, .cells #[.string p26.2.s, .bool p26.2.bad] 40 (0, 0))] :: g20 :: [(b18, .cells #[.string (ByteArray.mk #[32])] 9 (0, 0))] :: [(b13, .cells #[.int .i64 0, .int .i64 (p26.1 + 1), .int .i64 d1, .int .i64 0, .int .i64 0, .int .i64 0] 44 (0, 0))] :: H)) rfl rfl (by kernel_rfl) (by kernel_rfl) (by kernel_rfl) (by kernel_rfl) (by kernel_rfl) (by kernel_rfl) (by kernel_rfl) rfl rfl (Nat.le_of_ble_eq_true rfl) (fun _ _ => thaw0) (by kernel_rfl) (by kernel_rfl) ?_
      refine GL_fin (E' := [⟨4, [], .pointer (some ⟨b1, 0, none⟩)⟩, ⟨5, [], .pointer (some ⟨b13, 0, none⟩)⟩]) [] [4, 5] rfl (by kernel_rfl) ?_
      refine N_then ?_
      refine G_seq ?_
      refine G_region ?_
      refine GL_pure (E' := [⟨52, [], .pointer (some ⟨b1, 0, none⟩)⟩, ⟨4, [], .pointer (some ⟨b1, 0, none⟩)⟩, ⟨5, [], .pointer (some ⟨b13, 0, none⟩)⟩]) [0] (by kernel_rfl) (j := 1) rfl ?_
      refine GL_buildSlice (i := 1) (ch := []) (e := 9) (l := [(0, .string (ByteArray.mk #[32]))]) (c := [.string (ByteArray.mk #[32])]) rfl rfl (by kernel_rfl) (by kernel_rfl) (by kernel_rfl) (by kernel_rfl) (by kernel_rfl) (fun b28 => ?_)
      refine GL_heap rfl (H' := ([(b1, .cells #[.string p26.2.s, .bool p26.2.bad] 40 (0, 0))] :: [(b28, .cells #[.string (ByteArray.mk #[32])] 9 (0, 0))] :: g20 :: [(b18, .cells #[.string (ByteArray.mk #[32])] 9 (0, 0))] :: [(b13, .cells #[.int .i64 0, .int .i64 (p26.1 + 1), .int .i64 d1, .int .i64 0, .int .i64 0, .int .i64 0] 44 (0, 0))] :: H)) (fun w h => (h.front (j := 1) rfl)) ?_
      refine GL_call (i := 2) (ch := []) (f := 17) (fst := #[]) (caps := #[]) (vs := [.pointer (some ⟨b1, 0, none⟩), .slice (some ⟨b28, 0, none⟩) 1 1]) rfl rfl rfl (by kernel_rfl) (by kernel_rfl) Tryz.func17 rfl rfl (by kernel_rfl) (by kernel_rfl) (chSure_of (by kernel_rfl)) (one_ b1 p26.2 (some ⟨b28, 0, none⟩) 1 (inG [(b28, .cells #[.string (ByteArray.mk #[32])] 9 (0, 0))]) ([(ByteArray.mk #[32])]) (Rd.lit (c := [.string (ByteArray.mk #[32])])) (Nat.le_of_ble_eq_true rfl) _ _ (at_inG 1 rfl)) ?_
      rintro _ _ ⟨p29, hp29, hp29a, hp29b, hp29c, rfl, rfl⟩
      simp at hp29b
      refine GL_fin (E' := [⟨4, [], .pointer (some ⟨b1, 0, none⟩)⟩, ⟨5, [], .pointer (some ⟨b13, 0, none⟩)⟩]) [] [4, 5] rfl (by kernel_rfl) ?_
      refine N_then ?_
      refine G_seq ?_
      refine G_seq ?_
      refine G_region ?_
      refine GL_pure (E' := [⟨57, [], .pointer (some ⟨b1, 0, none⟩)⟩, ⟨56, [], .pointer (some ⟨b1, 0, none⟩)⟩, ⟨55, [], .pointer (some ⟨b1, 0, none⟩)⟩, ⟨4, [], .pointer (some ⟨b1, 0, none⟩)⟩, ⟨5, [], .pointer (some ⟨b13, 0, none⟩)⟩]) [0, 0, 0] (by kernel_rfl) (j := 3) rfl ?_
      refine GL_load (i := 3) (ch := []) (b := b1) (off := 0) (v := .string p29.2.s) rfl rfl (by kernel_rfl) (by kernel_rfl) (by kernel_rfl) (by kernel_rfl) (by kernel_rfl) (At.grp 0 0 rfl rfl) rfl ?_
      refine GL_pure (E' := [⟨64, [(61, true)], .pointer (some ⟨b1, 0, none⟩)⟩, ⟨63, [(61, true)], .pointer (some ⟨b1, 0, none⟩)⟩, ⟨62, [(61, true)], .pointer (some ⟨b1, 0, none⟩)⟩, ⟨61, [], .bool (decide ((p29.2.s.size : Int) > 2))⟩, ⟨60, [], .bool (decide ((p29.2.s.size : Int) > 2))⟩, ⟨59, [], .int .i64 (p29.2.s.size : Int)⟩, ⟨58, [], .string p29.2.s⟩, ⟨57, [], .pointer (some ⟨b1, 0, none⟩)⟩, ⟨56, [], .pointer (some ⟨b1, 0, none⟩)⟩, ⟨55, [], .pointer (some ⟨b1, 0, none⟩)⟩, ⟨4, [], .pointer (some ⟨b1, 0, none⟩)⟩, ⟨5, [], .pointer (some ⟨b13, 0, none⟩)⟩]) [0, 0, 0, 0, 0, 0] (by kernel_rfl) (j := 10) rfl ?_
      refine GL_load (i := 10) (ch := [(61, true)]) (b := b1) (off := 0) (v := .string p29.2.s) rfl rfl (by kernel_rfl) (by kernel_rfl) (by kernel_rfl) (by kernel_rfl) (by kernel_rfl) (At.grp 0 0 rfl rfl) rfl ?_
      refine GL_index (i := 11) (ch := [(61, true)]) (s := p29.2.s) (kd := .i64) (j := 2) rfl rfl (by kernel_rfl) (by kernel_rfl) (by kernel_rfl) (by kernel_rfl) (by kernel_rfl) (by kernel_rfl) (fun hc => by have hg0 := chB_hd (t := 61) (c := []) (b := decide ((p29.2.s.size : Int) > 2)) hc (by kernel_rfl); (try simp at hg0); omega) ?_
      have hb30 := byteAt_rng p29.2.s 2
      refine GL_fin (E' := [⟨4, [], .pointer (some ⟨b1, 0, none⟩)⟩, ⟨5, [], .pointer (some ⟨b13, 0, none⟩)⟩, ⟨68, [], .bool ((decide ((p29.2.s.size : Int) > 2)) && ((byteAt p29.2.s 2) == 32))⟩]) [0, 6] [4, 5, 68] rfl (by kernel_rfl) ?_
      refine N_then ?_
      refine G_join (T := Int × Sc) (fun ξ : Int × Sc => [⟨4, [], .pointer (some ⟨b1, 0, none⟩)⟩, ⟨5, [], .pointer (some ⟨b13, 0, none⟩)⟩]) (fun ξ : Int × Sc => ([(b1, .cells #[.string ξ.2.s, .bool ξ.2.bad] 40 (0, 0))] :: [(b13, .cells #[.int .i64 ξ.1, .int .i64 (p26.1 + 1), .int .i64 d1, .int .i64 0, .int .i64 0, .int .i64 0] 44 (0, 0))] :: H)) (fun ξ : Int × Sc => ((ξ.1, ξ.2) = yearM p29.2) ∧ (0 ≤ ξ.1) ∧ (ξ.1 ≤ 9999)) ?_ ?_
      ·
        refine G_cond (b := (decide ((p29.2.s.size : Int) > 2)) && ((byteAt p29.2.s 2) == 32)) (by kernel_rfl) (fun hc31 => ?_) (fun hc31 => ?_)
        ·
          -- hc31 true
          skip
          refine G_seq ?_
          refine G_region ?_
          refine GL_pure (E' := [⟨69, [], .pointer (some ⟨b1, 0, none⟩)⟩, ⟨4, [], .pointer (some ⟨b1, 0, none⟩)⟩, ⟨5, [], .pointer (some ⟨b13, 0, none⟩)⟩, ⟨68, [], .bool ((decide ((p29.2.s.size : Int) > 2)) && ((byteAt p29.2.s 2) == 32))⟩]) [0] (by kernel_rfl) (j := 1) rfl ?_
          refine GL_call (i := 1) (ch := []) (f := 19) (fst := #[]) (caps := #[]) (vs := [.pointer (some ⟨b1, 0, none⟩), .int .i64 2]) rfl rfl rfl (by kernel_rfl) (by kernel_rfl) Tryz.func19 rfl rfl (by kernel_rfl) (by kernel_rfl) (chSure_of (by kernel_rfl)) (number_ b1 p29.2 2 (by omega) (by omega) _ _) ?_
          rintro _ _ ⟨p32, hp32, hp32a, hp32b, hp32c, rfl, rfl⟩
          have hp32d := num2_bd hp32
          refine GL_pure (E' := [⟨71, [], .pointer (some ⟨b13, 0, none⟩)⟩, ⟨70, [], .int .i64 p32.1⟩, ⟨69, [], .pointer (some ⟨b1, 0, none⟩)⟩, ⟨4, [], .pointer (some ⟨b1, 0, none⟩)⟩, ⟨5, [], .pointer (some ⟨b13, 0, none⟩)⟩, ⟨68, [], .bool ((decide ((p29.2.s.size : Int) > 2)) && ((byteAt p29.2.s 2) == 32))⟩]) [0] (by kernel_rfl) (j := 3) rfl ?_
          refine GL_store (i := 3) (ch := []) (b := b13) (off := 0) (v := .int .i64 p32.1) (c := #[.int .i64 0, .int .i64 (p26.1 + 1), .int .i64 d1, .int .i64 0, .int .i64 0, .int .i64 0]) (c' := #[.int .i64 p32.1, .int .i64 (p26.1 + 1), .int .i64 d1, .int .i64 0, .int .i64 0, .int .i64 0]) (j := 4) (m := 0) (H' := ([(b1, .cells #[.string p32.2.s, .bool p32.2.bad] 40 (0, 0))] :: [(b28, .cells #[.string (ByteArray.mk #[32])] 9 (0, 0))] :: g20 :: [(b18, .cells #[.string (ByteArray.mk #[32])] 9 (0, 0))] :: [(b13, .cells #[.int .i64 p32.1, .int .i64 (p26.1 + 1), .int .i64 d1, .int .i64 0, .int .i64 0, .int .i64 0] 44 (0, 0))] :: H)) rfl rfl (by kernel_rfl) (by kernel_rfl) (by kernel_rfl) (by kernel_rfl) (by kernel_rfl) (by kernel_rfl) (by kernel_rfl) rfl rfl (Nat.le_of_ble_eq_true rfl) (fun _ _ => thaw0) (by kernel_rfl) (by kernel_rfl) ?_
          refine GL_fin (E' := [⟨4, [], .pointer (some ⟨b1, 0, none⟩)⟩, ⟨5, [], .pointer (some ⟨b13, 0, none⟩)⟩]) [] [4, 5] rfl (by kernel_rfl) ?_
          refine N_then ?_
          refine G_region ?_
          refine GL_pure (E' := [⟨72, [], .pointer (some ⟨b13, 0, none⟩)⟩, ⟨4, [], .pointer (some ⟨b1, 0, none⟩)⟩, ⟨5, [], .pointer (some ⟨b13, 0, none⟩)⟩]) [0] (by kernel_rfl) (j := 1) rfl ?_
          refine GL_load (i := 1) (ch := []) (b := b13) (off := 0) (v := .int .i64 p32.1) rfl rfl (by kernel_rfl) (by kernel_rfl) (by kernel_rfl) (by kernel_rfl) (by kernel_rfl) (At.grp 4 0 rfl rfl) rfl ?_
          refine GL_pure (E' := [⟨74, [], .pointer (some ⟨b13, 0, none⟩)⟩, ⟨73, [], .int .i64 p32.1⟩, ⟨72, [], .pointer (some ⟨b13, 0, none⟩)⟩, ⟨4, [], .pointer (some ⟨b1, 0, none⟩)⟩, ⟨5, [], .pointer (some ⟨b13, 0, none⟩)⟩]) [0] (by kernel_rfl) (j := 3) rfl ?_
          refine GL_load (i := 3) (ch := []) (b := b13) (off := 0) (v := .int .i64 p32.1) rfl rfl (by kernel_rfl) (by kernel_rfl) (by kernel_rfl) (by kernel_rfl) (by kernel_rfl) (At.grp 4 0 rfl rfl) rfl ?_
          have hw33 : IntKind.wrap .i64 (149 - p32.1) = 149 - p32.1 := w64 (by omega) (by omega)
          have hw34 : IntKind.wrap .i64 (Int.tdiv (149 - p32.1) 100) = (149 - p32.1) / 100 := q64 (by omega) (by omega) (by decide)
          have hw35 : IntKind.wrap .i64 (100 * ((149 - p32.1) / 100)) = 100 * ((149 - p32.1) / 100) := w64 (by omega) (by omega)
          have hw36 : IntKind.wrap .i64 (1900 + (100 * ((149 - p32.1) / 100))) = 1900 + (100 * ((149 - p32.1) / 100)) := w64 (by omega) (by omega)
          have hw37 : IntKind.wrap .i64 (p32.1 + (1900 + (100 * ((149 - p32.1) / 100)))) = p32.1 + (1900 + (100 * ((149 - p32.1) / 100))) := w64 (by omega) (by omega)
          refine GL_pure (E' := [⟨81, [], .pointer (some ⟨b13, 0, none⟩)⟩, ⟨80, [], .int .i64 (p32.1 + (1900 + (100 * ((149 - p32.1) / 100))))⟩, ⟨79, [], .int .i64 (1900 + (100 * ((149 - p32.1) / 100)))⟩, ⟨78, [], .int .i64 (100 * ((149 - p32.1) / 100))⟩, ⟨77, [], .int .i64 ((149 - p32.1) / 100)⟩, ⟨76, [], .int .i64 (149 - p32.1)⟩, ⟨75, [], .int .i64 p32.1⟩, ⟨74, [], .pointer (some ⟨b13, 0, none⟩)⟩, ⟨73, [], .int .i64 p32.1⟩, ⟨72, [], .pointer (some ⟨b13, 0, none⟩)⟩, ⟨4, [], .pointer (some ⟨b1, 0, none⟩)⟩, ⟨5, [], .pointer (some ⟨b13, 0, none⟩)⟩]) [0, 0, 0, 0, 0, 0] (Eq.trans (b := some [⟨81, [], .pointer (some ⟨b13, 0, none⟩)⟩, ⟨80, [], .int .i64 (IntKind.wrap .i64 (p32.1 + (IntKind.wrap .i64 (1900 + (IntKind.wrap .i64 (100 * (IntKind.wrap .i64 (Int.tdiv (IntKind.wrap .i64 (149 - p32.1)) 100))))))))⟩, ⟨79, [], .int .i64 (IntKind.wrap .i64 (1900 + (IntKind.wrap .i64 (100 * (IntKind.wrap .i64 (Int.tdiv (IntKind.wrap .i64 (149 - p32.1)) 100))))))⟩, ⟨78, [], .int .i64 (IntKind.wrap .i64 (100 * (IntKind.wrap .i64 (Int.tdiv (IntKind.wrap .i64 (149 - p32.1)) 100))))⟩, ⟨77, [], .int .i64 (IntKind.wrap .i64 (Int.tdiv (IntKind.wrap .i64 (149 - p32.1)) 100))⟩, ⟨76, [], .int .i64 (IntKind.wrap .i64 (149 - p32.1))⟩, ⟨75, [], .int .i64 p32.1⟩, ⟨74, [], .pointer (some ⟨b13, 0, none⟩)⟩, ⟨73, [], .int .i64 p32.1⟩, ⟨72, [], .pointer (some ⟨b13, 0, none⟩)⟩, ⟨4, [], .pointer (some ⟨b1, 0, none⟩)⟩, ⟨5, [], .pointer (some ⟨b13, 0, none⟩)⟩]) (by kernel_rfl) (by simp only [hw33, hw34, hw35, hw36, hw37])) (j := 10) rfl ?_
          refine GL_store (i := 10) (ch := []) (b := b13) (off := 0) (v := .int .i64 (p32.1 + (1900 + (100 * ((149 - p32.1) / 100))))) (c := #[.int .i64 p32.1, .int .i64 (p26.1 + 1), .int .i64 d1, .int .i64 0, .int .i64 0, .int .i64 0]) (c' := #[.int .i64 (p32.1 + (1900 + (100 * ((149 - p32.1) / 100)))), .int .i64 (p26.1 + 1), .int .i64 d1, .int .i64 0, .int .i64 0, .int .i64 0]) (j := 4) (m := 0) (H' := ([(b1, .cells #[.string p32.2.s, .bool p32.2.bad] 40 (0, 0))] :: [(b28, .cells #[.string (ByteArray.mk #[32])] 9 (0, 0))] :: g20 :: [(b18, .cells #[.string (ByteArray.mk #[32])] 9 (0, 0))] :: [(b13, .cells #[.int .i64 (p32.1 + (1900 + (100 * ((149 - p32.1) / 100)))), .int .i64 (p26.1 + 1), .int .i64 d1, .int .i64 0, .int .i64 0, .int .i64 0] 44 (0, 0))] :: H)) rfl rfl (by kernel_rfl) (by kernel_rfl) (by kernel_rfl) (by kernel_rfl) (by kernel_rfl) (by kernel_rfl) (by kernel_rfl) rfl rfl (Nat.le_of_ble_eq_true rfl) (fun _ _ => thaw0) (by kernel_rfl) (by kernel_rfl) ?_
          refine GL_fin (E' := [⟨4, [], .pointer (some ⟨b1, 0, none⟩)⟩, ⟨5, [], .pointer (some ⟨b13, 0, none⟩)⟩]) [] [4, 5] rfl (by kernel_rfl) ?_
          refine N_join (p32.1 + (1900 + (100 * ((149 - p32.1) / 100))), p32.2) [4, 5] (by kernel_rfl) (fun w h => (((((h.front (j := 4) rfl).front (j := 1) rfl).erase 4).erase 3).erase 2)) ⟨(by simp only [yearM, hc31, cond_true, ← hp32]), (by omega), (by omega)⟩
        ·
          -- hc31 false
          skip
          refine G_region ?_
          refine GL_pure (E' := [⟨82, [], .pointer (some ⟨b1, 0, none⟩)⟩, ⟨4, [], .pointer (some ⟨b1, 0, none⟩)⟩, ⟨5, [], .pointer (some ⟨b13, 0, none⟩)⟩, ⟨68, [], .bool ((decide ((p29.2.s.size : Int) > 2)) && ((byteAt p29.2.s 2) == 32))⟩]) [0] (by kernel_rfl) (j := 1) rfl ?_
          refine GL_call (i := 1) (ch := []) (f := 19) (fst := #[]) (caps := #[]) (vs := [.pointer (some ⟨b1, 0, none⟩), .int .i64 4]) rfl rfl rfl (by kernel_rfl) (by kernel_rfl) Tryz.func19 rfl rfl (by kernel_rfl) (by kernel_rfl) (chSure_of (by kernel_rfl)) (number_ b1 p29.2 4 (by omega) (by omega) _ _) ?_
          rintro _ _ ⟨p38, hp38, hp38a, hp38b, hp38c, rfl, rfl⟩
          refine GL_pure (E' := [⟨84, [], .pointer (some ⟨b13, 0, none⟩)⟩, ⟨83, [], .int .i64 p38.1⟩, ⟨82, [], .pointer (some ⟨b1, 0, none⟩)⟩, ⟨4, [], .pointer (some ⟨b1, 0, none⟩)⟩, ⟨5, [], .pointer (some ⟨b13, 0, none⟩)⟩, ⟨68, [], .bool ((decide ((p29.2.s.size : Int) > 2)) && ((byteAt p29.2.s 2) == 32))⟩]) [0] (by kernel_rfl) (j := 3) rfl ?_
          refine GL_store (i := 3) (ch := []) (b := b13) (off := 0) (v := .int .i64 p38.1) (c := #[.int .i64 0, .int .i64 (p26.1 + 1), .int .i64 d1, .int .i64 0, .int .i64 0, .int .i64 0]) (c' := #[.int .i64 p38.1, .int .i64 (p26.1 + 1), .int .i64 d1, .int .i64 0, .int .i64 0, .int .i64 0]) (j := 4) (m := 0) (H' := ([(b1, .cells #[.string p38.2.s, .bool p38.2.bad] 40 (0, 0))] :: [(b28, .cells #[.string (ByteArray.mk #[32])] 9 (0, 0))] :: g20 :: [(b18, .cells #[.string (ByteArray.mk #[32])] 9 (0, 0))] :: [(b13, .cells #[.int .i64 p38.1, .int .i64 (p26.1 + 1), .int .i64 d1, .int .i64 0, .int .i64 0, .int .i64 0] 44 (0, 0))] :: H)) rfl rfl (by kernel_rfl) (by kernel_rfl) (by kernel_rfl) (by kernel_rfl) (by kernel_rfl) (by kernel_rfl) (by kernel_rfl) rfl rfl (Nat.le_of_ble_eq_true rfl) (fun _ _ => thaw0) (by kernel_rfl) (by kernel_rfl) ?_
          refine GL_fin (E' := [⟨4, [], .pointer (some ⟨b1, 0, none⟩)⟩, ⟨5, [], .pointer (some ⟨b13, 0, none⟩)⟩]) [] [4, 5] rfl (by kernel_rfl) ?_
          refine N_join (p38.1, p38.2) [4, 5] (by kernel_rfl) (fun w h => (((((h.front (j := 4) rfl).front (j := 1) rfl).erase 4).erase 3).erase 2)) ⟨(by simp only [yearM, hc31, cond_false, ← hp38]), (by omega), (by omega)⟩
      ·
        rintro ⟨y2, w2⟩ ⟨hy, hy1, hy2⟩
        -- J hy
        refine N_then ?_
        refine G_seq ?_
        refine G_region ?_
        refine GL_pure (E' := [⟨85, [], .pointer (some ⟨b1, 0, none⟩)⟩, ⟨4, [], .pointer (some ⟨b1, 0, none⟩)⟩, ⟨5, [], .pointer (some ⟨b13, 0, none⟩)⟩]) [0] (by kernel_rfl) (j := 1) rfl ?_
        refine GL_buildSlice (i := 1) (ch := []) (e := 9) (l := [(0, .string (ByteArray.mk #[32]))]) (c := [.string (ByteArray.mk #[32])]) rfl rfl (by kernel_rfl) (by kernel_rfl) (by kernel_rfl) (by kernel_rfl) (by kernel_rfl) (fun b39 => ?_)
        refine GL_heap rfl (H' := ([(b1, .cells #[.string w2.s, .bool w2.bad] 40 (0, 0))] :: [(b39, .cells #[.string (ByteArray.mk #[32])] 9 (0, 0))] :: [(b13, .cells #[.int .i64 y2, .int .i64 (p26.1 + 1), .int .i64 d1, .int .i64 0, .int .i64 0, .int .i64 0] 44 (0, 0))] :: H)) (fun w h => (h.front (j := 1) rfl)) ?_
        refine GL_call (i := 2) (ch := []) (f := 17) (fst := #[]) (caps := #[]) (vs := [.pointer (some ⟨b1, 0, none⟩), .slice (some ⟨b39, 0, none⟩) 1 1]) rfl rfl rfl (by kernel_rfl) (by kernel_rfl) Tryz.func17 rfl rfl (by kernel_rfl) (by kernel_rfl) (chSure_of (by kernel_rfl)) (one_ b1 w2 (some ⟨b39, 0, none⟩) 1 (inG [(b39, .cells #[.string (ByteArray.mk #[32])] 9 (0, 0))]) ([(ByteArray.mk #[32])]) (Rd.lit (c := [.string (ByteArray.mk #[32])])) (Nat.le_of_ble_eq_true rfl) _ _ (at_inG 1 rfl)) ?_
        rintro _ _ ⟨p40, hp40, hp40a, hp40b, hp40c, rfl, rfl⟩
        simp at hp40b
        refine GL_fin (E' := [⟨4, [], .pointer (some ⟨b1, 0, none⟩)⟩, ⟨5, [], .pointer (some ⟨b13, 0, none⟩)⟩]) [] [4, 5] rfl (by kernel_rfl) ?_
        refine N_then ?_
        refine G_seq ?_
        refine G_region ?_
        refine GL_pure (E' := [⟨88, [], .pointer (some ⟨b1, 0, none⟩)⟩, ⟨4, [], .pointer (some ⟨b1, 0, none⟩)⟩, ⟨5, [], .pointer (some ⟨b13, 0, none⟩)⟩]) [0] (by kernel_rfl) (j := 1) rfl ?_
        refine GL_call (i := 1) (ch := []) (f := 19) (fst := #[]) (caps := #[]) (vs := [.pointer (some ⟨b1, 0, none⟩), .int .i64 2]) rfl rfl rfl (by kernel_rfl) (by kernel_rfl) Tryz.func19 rfl rfl (by kernel_rfl) (by kernel_rfl) (chSure_of (by kernel_rfl)) (number_ b1 p40.2 2 (by omega) (by omega) _ _) ?_
        rintro _ _ ⟨p41, hp41, hp41a, hp41b, hp41c, rfl, rfl⟩
        have hp41d := num2_bd hp41
        refine GL_pure (E' := [⟨90, [], .pointer (some ⟨b13, 3, none⟩)⟩, ⟨89, [], .int .i64 p41.1⟩, ⟨88, [], .pointer (some ⟨b1, 0, none⟩)⟩, ⟨4, [], .pointer (some ⟨b1, 0, none⟩)⟩, ⟨5, [], .pointer (some ⟨b13, 0, none⟩)⟩]) [0] (by kernel_rfl) (j := 3) rfl ?_
        refine GL_store (i := 3) (ch := []) (b := b13) (off := 3) (v := .int .i64 p41.1) (c := #[.int .i64 y2, .int .i64 (p26.1 + 1), .int .i64 d1, .int .i64 0, .int .i64 0, .int .i64 0]) (c' := #[.int .i64 y2, .int .i64 (p26.1 + 1), .int .i64 d1, .int .i64 p41.1, .int .i64 0, .int .i64 0]) (j := 2) (m := 0) (H' := ([(b1, .cells #[.string p41.2.s, .bool p41.2.bad] 40 (0, 0))] :: [(b39, .cells #[.string (ByteArray.mk #[32])] 9 (0, 0))] :: [(b13, .cells #[.int .i64 y2, .int .i64 (p26.1 + 1), .int .i64 d1, .int .i64 p41.1, .int .i64 0, .int .i64 0] 44 (0, 0))] :: H)) rfl rfl (by kernel_rfl) (by kernel_rfl) (by kernel_rfl) (by kernel_rfl) (by kernel_rfl) (by kernel_rfl) (by kernel_rfl) rfl rfl (Nat.le_of_ble_eq_true rfl) (fun _ _ => thaw0) (by kernel_rfl) (by kernel_rfl) ?_
        refine GL_fin (E' := [⟨4, [], .pointer (some ⟨b1, 0, none⟩)⟩, ⟨5, [], .pointer (some ⟨b13, 0, none⟩)⟩]) [] [4, 5] rfl (by kernel_rfl) ?_
        refine N_then ?_
        refine G_seq ?_
        refine G_region ?_
        refine GL_pure (E' := [⟨91, [], .pointer (some ⟨b1, 0, none⟩)⟩, ⟨4, [], .pointer (some ⟨b1, 0, none⟩)⟩, ⟨5, [], .pointer (some ⟨b13, 0, none⟩)⟩]) [0] (by kernel_rfl) (j := 1) rfl ?_
        refine GL_buildSlice (i := 1) (ch := []) (e := 9) (l := [(0, .string (ByteArray.mk #[58]))]) (c := [.string (ByteArray.mk #[58])]) rfl rfl (by kernel_rfl) (by kernel_rfl) (by kernel_rfl) (by kernel_rfl) (by kernel_rfl) (fun b42 => ?_)
        refine GL_heap rfl (H' := ([(b1, .cells #[.string p41.2.s, .bool p41.2.bad] 40 (0, 0))] :: [(b42, .cells #[.string (ByteArray.mk #[58])] 9 (0, 0))] :: [(b39, .cells #[.string (ByteArray.mk #[32])] 9 (0, 0))] :: [(b13, .cells #[.int .i64 y2, .int .i64 (p26.1 + 1), .int .i64 d1, .int .i64 p41.1, .int .i64 0, .int .i64 0] 44 (0, 0))] :: H)) (fun w h => (h.front (j := 1) rfl)) ?_
        refine GL_call (i := 2) (ch := []) (f := 17) (fst := #[]) (caps := #[]) (vs := [.pointer (some ⟨b1, 0, none⟩), .slice (some ⟨b42, 0, none⟩) 1 1]) rfl rfl rfl (by kernel_rfl) (by kernel_rfl) Tryz.func17 rfl rfl (by kernel_rfl) (by kernel_rfl) (chSure_of (by kernel_rfl)) (one_ b1 p41.2 (some ⟨b42, 0, none⟩) 1 (inG [(b42, .cells #[.string (ByteArray.mk #[58])] 9 (0, 0))]) ([(ByteArray.mk #[58])]) (Rd.lit (c := [.string (ByteArray.mk #[58])])) (Nat.le_of_ble_eq_true rfl) _ _ (at_inG 1 rfl)) ?_
        rintro _ _ ⟨p43, hp43, hp43a, hp43b, hp43c, rfl, rfl⟩
        simp at hp43b
        refine GL_fin (E' := [⟨4, [], .pointer (some ⟨b1, 0, none⟩)⟩, ⟨5, [], .pointer (some ⟨b13, 0, none⟩)⟩]) [] [4, 5] rfl (by kernel_rfl) ?_
        refine N_then ?_
        refine G_seq ?_
        refine G_region ?_
        refine GL_pure (E' := [⟨94, [], .pointer (some ⟨b1, 0, none⟩)⟩, ⟨4, [], .pointer (some ⟨b1, 0, none⟩)⟩, ⟨5, [], .pointer (some ⟨b13, 0, none⟩)⟩]) [0] (by kernel_rfl) (j := 1) rfl ?_
        refine GL_call (i := 1) (ch := []) (f := 19) (fst := #[]) (caps := #[]) (vs := [.pointer (some ⟨b1, 0, none⟩), .int .i64 2]) rfl rfl rfl (by kernel_rfl) (by kernel_rfl) Tryz.func19 rfl rfl (by kernel_rfl) (by kernel_rfl) (chSure_of (by kernel_rfl)) (number_ b1 p43.2 2 (by omega) (by omega) _ _) ?_
        rintro _ _ ⟨p44, hp44, hp44a, hp44b, hp44c, rfl, rfl⟩
        have hp44d := num2_bd hp44
        refine GL_pure (E' := [⟨96, [], .pointer (some ⟨b13, 4, none⟩)⟩, ⟨95, [], .int .i64 p44.1⟩, ⟨94, [], .pointer (some ⟨b1, 0, none⟩)⟩, ⟨4, [], .pointer (some ⟨b1, 0, none⟩)⟩, ⟨5, [], .pointer (some ⟨b13, 0, none⟩)⟩]) [0] (by kernel_rfl) (j := 3) rfl ?_
        refine GL_store (i := 3) (ch := []) (b := b13) (off := 4) (v := .int .i64 p44.1) (c := #[.int .i64 y2, .int .i64 (p26.1 + 1), .int .i64 d1, .int .i64 p41.1, .int .i64 0, .int .i64 0]) (c' := #[.int .i64 y2, .int .i64 (p26.1 + 1), .int .i64 d1, .int .i64 p41.1, .int .i64 p44.1, .int .i64 0]) (j := 3) (m := 0) (H' := ([(b1, .cells #[.string p44.2.s, .bool p44.2.bad] 40 (0, 0))] :: [(b42, .cells #[.string (ByteArray.mk #[58])] 9 (0, 0))] :: [(b39, .cells #[.string (ByteArray.mk #[32])] 9 (0, 0))] :: [(b13, .cells #[.int .i64 y2, .int .i64 (p26.1 + 1), .int .i64 d1, .int .i64 p41.1, .int .i64 p44.1, .int .i64 0] 44 (0, 0))] :: H)) rfl rfl (by kernel_rfl) (by kernel_rfl) (by kernel_rfl) (by kernel_rfl) (by kernel_rfl) (by kernel_rfl) (by kernel_rfl) rfl rfl (Nat.le_of_ble_eq_true rfl) (fun _ _ => thaw0) (by kernel_rfl) (by kernel_rfl) ?_
        refine GL_fin (E' := [⟨4, [], .pointer (some ⟨b1, 0, none⟩)⟩, ⟨5, [], .pointer (some ⟨b13, 0, none⟩)⟩]) [] [4, 5] rfl (by kernel_rfl) ?_
        refine N_then ?_
        refine G_seq ?_
        refine G_seq ?_
        refine G_region ?_
        refine GL_pure (E' := [⟨97, [], .pointer (some ⟨b1, 0, none⟩)⟩, ⟨4, [], .pointer (some ⟨b1, 0, none⟩)⟩, ⟨5, [], .pointer (some ⟨b13, 0, none⟩)⟩]) [0] (by kernel_rfl) (j := 1) rfl ?_
        refine GL_call (i := 1) (ch := []) (f := 20) (fst := #[]) (caps := #[]) (vs := [.pointer (some ⟨b1, 0, none⟩), .string (ByteArray.mk #[58])]) rfl rfl rfl (by kernel_rfl) (by kernel_rfl) Tryz.func20 rfl rfl (by kernel_rfl) (by kernel_rfl) (chSure_of (by kernel_rfl)) (maybe_ b1 p44.2 (ByteArray.mk #[58]) _ _) ?_
        rintro _ _ ⟨p45, hp45, hp45a, hp45b, hp45c, rfl, rfl⟩
        refine GL_fin (E' := [⟨4, [], .pointer (some ⟨b1, 0, none⟩)⟩, ⟨5, [], .pointer (some ⟨b13, 0, none⟩)⟩, ⟨98, [], .bool p45.1⟩]) [] [4, 5, 98] rfl (by kernel_rfl) ?_
        refine N_then ?_
        refine G_join (T := Int × Sc) (fun ξ : Int × Sc => [⟨4, [], .pointer (some ⟨b1, 0, none⟩)⟩, ⟨5, [], .pointer (some ⟨b13, 0, none⟩)⟩]) (fun ξ : Int × Sc => ([(b1, .cells #[.string ξ.2.s, .bool ξ.2.bad] 40 (0, 0))] :: [(b13, .cells #[.int .i64 y2, .int .i64 (p26.1 + 1), .int .i64 d1, .int .i64 p41.1, .int .i64 p44.1, .int .i64 ξ.1] 44 (0, 0))] :: H)) (fun ξ : Int × Sc => ((ξ.1, ξ.2) = secM p44.2) ∧ (0 ≤ ξ.1) ∧ (ξ.1 ≤ 9999)) ?_ ?_
        ·
          refine G_cond (b := p45.1) (by kernel_rfl) (fun hc46 => ?_) (fun hc46 => ?_)
          ·
            -- hc46 true
            skip
            refine G_region ?_
            refine GL_pure (E' := [⟨99, [], .pointer (some ⟨b1, 0, none⟩)⟩, ⟨4, [], .pointer (some ⟨b1, 0, none⟩)⟩, ⟨5, [], .pointer (some ⟨b13, 0, none⟩)⟩, ⟨98, [], .bool p45.1⟩]) [0] (by kernel_rfl) (j := 1) rfl ?_
            refine GL_call (i := 1) (ch := []) (f := 19) (fst := #[]) (caps := #[]) (vs := [.pointer (some ⟨b1, 0, none⟩), .int .i64 2]) rfl rfl rfl (by kernel_rfl) (by kernel_rfl) Tryz.func19 rfl rfl (by kernel_rfl) (by kernel_rfl) (chSure_of (by kernel_rfl)) (number_ b1 p45.2 2 (by omega) (by omega) _ _) ?_
            rintro _ _ ⟨p47, hp47, hp47a, hp47b, hp47c, rfl, rfl⟩
            have hp47d := num2_bd hp47
            refine GL_pure (E' := [⟨101, [], .pointer (some ⟨b13, 5, none⟩)⟩, ⟨100, [], .int .i64 p47.1⟩, ⟨99, [], .pointer (some ⟨b1, 0, none⟩)⟩, ⟨4, [], .pointer (some ⟨b1, 0, none⟩)⟩, ⟨5, [], .pointer (some ⟨b13, 0, none⟩)⟩, ⟨98, [], .bool p45.1⟩]) [0] (by kernel_rfl) (j := 3) rfl ?_
            refine GL_store (i := 3) (ch := []) (b := b13) (off := 5) (v := .int .i64 p47.1) (c := #[.int .i64 y2, .int .i64 (p26.1 + 1), .int .i64 d1, .int .i64 p41.1, .int .i64 p44.1, .int .i64 0]) (c' := #[.int .i64 y2, .int .i64 (p26.1 + 1), .int .i64 d1, .int .i64 p41.1, .int .i64 p44.1, .int .i64 p47.1]) (j := 3) (m := 0) (H' := ([(b1, .cells #[.string p47.2.s, .bool p47.2.bad] 40 (0, 0))] :: [(b42, .cells #[.string (ByteArray.mk #[58])] 9 (0, 0))] :: [(b39, .cells #[.string (ByteArray.mk #[32])] 9 (0, 0))] :: [(b13, .cells #[.int .i64 y2, .int .i64 (p26.1 + 1), .int .i64 d1, .int .i64 p41.1, .int .i64 p44.1, .int .i64 p47.1] 44 (0, 0))] :: H)) rfl rfl (by kernel_rfl) (by kernel_rfl) (by kernel_rfl) (by kernel_rfl) (by kernel_rfl) (by kernel_rfl) (by kernel_rfl) rfl rfl (Nat.le_of_ble_eq_true rfl) (fun _ _ => thaw0) (by kernel_rfl) (by kernel_rfl) ?_
            refine GL_fin (E' := [⟨4, [], .pointer (some ⟨b1, 0, none⟩)⟩, ⟨5, [], .pointer (some ⟨b13, 0, none⟩)⟩]) [] [4, 5] rfl (by kernel_rfl) ?_
            refine N_join (p47.1, p47.2) [4, 5] (by kernel_rfl) (fun w h => ((((h.front (j := 3) rfl).front (j := 1) rfl).erase 3).erase 2)) ⟨(by simp only [secM, hc46, cond_true, ← hp45, ← hp47]), (by omega), (by omega)⟩
          ·
            -- hc46 false
            skip
            refine G_skip ?_
            refine N_join (0, p45.2) [4, 5] (by kernel_rfl) (fun w h => ((((h.front (j := 3) rfl).front (j := 1) rfl).erase 3).erase 2)) ⟨(by simp only [secM, hc46, cond_false, ← hp45]), (by omega), (by omega)⟩
        ·
          rintro ⟨s3, w3⟩ ⟨hs, hs1, hs2⟩
          -- J hs
          refine N_then ?_
          refine G_seq ?_
          refine G_region ?_
          refine GL_pure (E' := [⟨102, [], .pointer (some ⟨b1, 0, none⟩)⟩, ⟨4, [], .pointer (some ⟨b1, 0, none⟩)⟩, ⟨5, [], .pointer (some ⟨b13, 0, none⟩)⟩]) [0] (by kernel_rfl) (j := 1) rfl ?_
          refine GL_buildSlice (i := 1) (ch := []) (e := 9) (l := [(0, .string (ByteArray.mk #[32]))]) (c := [.string (ByteArray.mk #[32])]) rfl rfl (by kernel_rfl) (by kernel_rfl) (by kernel_rfl) (by kernel_rfl) (by kernel_rfl) (fun b48 => ?_)
          refine GL_heap rfl (H' := ([(b1, .cells #[.string w3.s, .bool w3.bad] 40 (0, 0))] :: [(b48, .cells #[.string (ByteArray.mk #[32])] 9 (0, 0))] :: [(b13, .cells #[.int .i64 y2, .int .i64 (p26.1 + 1), .int .i64 d1, .int .i64 p41.1, .int .i64 p44.1, .int .i64 s3] 44 (0, 0))] :: H)) (fun w h => (h.front (j := 1) rfl)) ?_
          refine GL_call (i := 2) (ch := []) (f := 17) (fst := #[]) (caps := #[]) (vs := [.pointer (some ⟨b1, 0, none⟩), .slice (some ⟨b48, 0, none⟩) 1 1]) rfl rfl rfl (by kernel_rfl) (by kernel_rfl) Tryz.func17 rfl rfl (by kernel_rfl) (by kernel_rfl) (chSure_of (by kernel_rfl)) (one_ b1 w3 (some ⟨b48, 0, none⟩) 1 (inG [(b48, .cells #[.string (ByteArray.mk #[32])] 9 (0, 0))]) ([(ByteArray.mk #[32])]) (Rd.lit (c := [.string (ByteArray.mk #[32])])) (Nat.le_of_ble_eq_true rfl) _ _ (at_inG 1 rfl)) ?_
          rintro _ _ ⟨p49, hp49, hp49a, hp49b, hp49c, rfl, rfl⟩
          simp at hp49b
          refine GL_fin (E' := [⟨4, [], .pointer (some ⟨b1, 0, none⟩)⟩, ⟨5, [], .pointer (some ⟨b13, 0, none⟩)⟩]) [] [4, 5] rfl (by kernel_rfl) ?_
          refine N_then ?_
          refine G_seq ?_
          refine G_seq ?_
          refine G_region ?_
          refine GL_pure (E' := [⟨107, [], .pointer (some ⟨b1, 0, none⟩)⟩, ⟨106, [], .pointer (some ⟨b1, 0, none⟩)⟩, ⟨105, [], .pointer (some ⟨b1, 0, none⟩)⟩, ⟨4, [], .pointer (some ⟨b1, 0, none⟩)⟩, ⟨5, [], .pointer (some ⟨b13, 0, none⟩)⟩]) [0, 0, 0] (by kernel_rfl) (j := 3) rfl ?_
          refine GL_load (i := 3) (ch := []) (b := b1) (off := 0) (v := .string p49.2.s) rfl rfl (by kernel_rfl) (by kernel_rfl) (by kernel_rfl) (by kernel_rfl) (by kernel_rfl) (At.grp 0 0 rfl rfl) rfl ?_
          refine GL_pure (E' := [⟨113, [(110, true)], .pointer (some ⟨b1, 0, none⟩)⟩, ⟨112, [(110, true)], .pointer (some ⟨b1, 0, none⟩)⟩, ⟨111, [(110, true)], .pointer (some ⟨b1, 0, none⟩)⟩, ⟨110, [], .bool (!(p49.2.s.toList == (ByteArray.mk #[]).toList))⟩, ⟨109, [], .bool (!(p49.2.s.toList == (ByteArray.mk #[]).toList))⟩, ⟨108, [], .string p49.2.s⟩, ⟨107, [], .pointer (some ⟨b1, 0, none⟩)⟩, ⟨106, [], .pointer (some ⟨b1, 0, none⟩)⟩, ⟨105, [], .pointer (some ⟨b1, 0, none⟩)⟩, ⟨4, [], .pointer (some ⟨b1, 0, none⟩)⟩, ⟨5, [], .pointer (some ⟨b13, 0, none⟩)⟩]) [0, 0, 0, 0, 0] (by kernel_rfl) (j := 9) rfl ?_
          refine GL_load (i := 9) (ch := [(110, true)]) (b := b1) (off := 0) (v := .string p49.2.s) rfl rfl (by kernel_rfl) (by kernel_rfl) (by kernel_rfl) (by kernel_rfl) (by kernel_rfl) (At.grp 0 0 rfl rfl) rfl ?_
          refine GL_index (i := 10) (ch := [(110, true)]) (s := p49.2.s) (kd := .i64) (j := 0) rfl rfl (by kernel_rfl) (by kernel_rfl) (by kernel_rfl) (by kernel_rfl) (by kernel_rfl) (by kernel_rfl) (fun hc => by have hg0 := chB_hd (t := 110) (c := []) (b := !(p49.2.s.toList == (ByteArray.mk #[]).toList)) hc (by kernel_rfl); exact ⟨by omega, ne_pos (by first | exact hg0 | exact hg1)⟩) ?_
          have hb50 := byteAt_rng p49.2.s 0
          refine GL_pure (E' := [⟨120, [(117, false), (110, true)], .pointer (some ⟨b1, 0, none⟩)⟩, ⟨119, [(117, false), (110, true)], .pointer (some ⟨b1, 0, none⟩)⟩, ⟨118, [(117, false), (110, true)], .pointer (some ⟨b1, 0, none⟩)⟩, ⟨117, [(110, true)], .bool ((byteAt p49.2.s 0) == 43)⟩, ⟨116, [(110, true)], .bool ((byteAt p49.2.s 0) == 43)⟩, ⟨115, [(110, true)], .int .u8 (byteAt p49.2.s 0)⟩, ⟨114, [(110, true)], .string p49.2.s⟩, ⟨113, [(110, true)], .pointer (some ⟨b1, 0, none⟩)⟩, ⟨112, [(110, true)], .pointer (some ⟨b1, 0, none⟩)⟩, ⟨111, [(110, true)], .pointer (some ⟨b1, 0, none⟩)⟩, ⟨110, [], .bool (!(p49.2.s.toList == (ByteArray.mk #[]).toList))⟩, ⟨109, [], .bool (!(p49.2.s.toList == (ByteArray.mk #[]).toList))⟩, ⟨108, [], .string p49.2.s⟩, ⟨107, [], .pointer (some ⟨b1, 0, none⟩)⟩, ⟨106, [], .pointer (some ⟨b1, 0, none⟩)⟩, ⟨105, [], .pointer (some ⟨b1, 0, none⟩)⟩, ⟨4, [], .pointer (some ⟨b1, 0, none⟩)⟩, ⟨5, [], .pointer (some ⟨b13, 0, none⟩)⟩]) [0, 0, 0, 0, 0] (by kernel_rfl) (j := 16) rfl ?_
          refine GL_load (i := 16) (ch := [(117, false), (110, true)]) (b := b1) (off := 0) (v := .string p49.2.s) rfl rfl (by kernel_rfl) (by kernel_rfl) (by kernel_rfl) (by kernel_rfl) (by kernel_rfl) (At.grp 0 0 rfl rfl) rfl ?_
          refine GL_index (i := 17) (ch := [(117, false), (110, true)]) (s := p49.2.s) (kd := .i64) (j := 0) rfl rfl (by kernel_rfl) (by kernel_rfl) (by kernel_rfl) (by kernel_rfl) (by kernel_rfl) (by kernel_rfl) (fun hc => by have hg0 := chB_hd (t := 117) (c := [(110, true)]) (b := (byteAt p49.2.s 0) == 43) hc (by kernel_rfl); have hg1 := chB_hd (t := 110) (c := []) (b := !(p49.2.s.toList == (ByteArray.mk #[]).toList)) (chB_tl hc) (by kernel_rfl); exact ⟨by omega, ne_pos (by first | exact hg0 | exact hg1)⟩) ?_
          have hb51 := byteAt_rng p49.2.s 0
          refine GL_fin (E' := [⟨4, [], .pointer (some ⟨b1, 0, none⟩)⟩, ⟨5, [], .pointer (some ⟨b13, 0, none⟩)⟩, ⟨125, [], .bool ((!(p49.2.s.toList == (ByteArray.mk #[]).toList)) && (((byteAt p49.2.s 0) == 43) || ((byteAt p49.2.s 0) == 45)))⟩]) [0, 5, 6] [4, 5, 125] rfl (by kernel_rfl) ?_
          refine N_then ?_
          refine G_cond (b := (!(p49.2.s.toList == (ByteArray.mk #[]).toList)) && (((byteAt p49.2.s 0) == 43) || ((byteAt p49.2.s 0) == 45))) (by kernel_rfl) (fun hc52 => ?_) (fun hc52 => ?_)
          ·
            -- hc52 true
            skip
            refine G_seq ?_
            refine G_regionH ([(b48, .cells #[.string (ByteArray.mk #[32])] 9 (0, 0))] :: [(b13, .cells #[.int .i64 y2, .int .i64 (p26.1 + 1), .int .i64 d1, .int .i64 p41.1, .int .i64 p44.1, .int .i64 s3] 44 (0, 0))] :: H) (by kernel_rfl) ?_
            refine GH_take (E' := [⟨126, [], .pointer (some ⟨b1, 0, none⟩)⟩, ⟨4, [], .pointer (some ⟨b1, 0, none⟩)⟩, ⟨5, [], .pointer (some ⟨b13, 0, none⟩)⟩, ⟨125, [], .bool ((!(p49.2.s.toList == (ByteArray.mk #[]).toList)) && (((byteAt p49.2.s 0) == 43) || ((byteAt p49.2.s 0) == 45)))⟩]) 0 (by kernel_rfl) (by kernel_rfl) (by kernel_rfl) (by kernel_rfl) (by kernel_rfl) (fun w h => (((h.front (j := 2) rfl).front (j := 2) rfl).erase 2)) ?_ ?_
            ·
              refine GL_pure (E' := [⟨126, [], .pointer (some ⟨b1, 0, none⟩)⟩, ⟨4, [], .pointer (some ⟨b1, 0, none⟩)⟩, ⟨5, [], .pointer (some ⟨b13, 0, none⟩)⟩, ⟨125, [], .bool ((!(p49.2.s.toList == (ByteArray.mk #[]).toList)) && (((byteAt p49.2.s 0) == 43) || ((byteAt p49.2.s 0) == 45)))⟩]) [0] (by kernel_rfl) (j := 1) rfl ?_
              exact GL_yend (by kernel_rfl) (by kernel_rfl)
            refine GH_take (E' := [⟨127, [], .agg #[.int .i64 y2, .int .i64 (p26.1 + 1), .int .i64 d1, .int .i64 p41.1, .int .i64 p44.1, .int .i64 s3]⟩, ⟨126, [], .pointer (some ⟨b1, 0, none⟩)⟩, ⟨4, [], .pointer (some ⟨b1, 0, none⟩)⟩, ⟨5, [], .pointer (some ⟨b13, 0, none⟩)⟩, ⟨125, [], .bool ((!(p49.2.s.toList == (ByteArray.mk #[]).toList)) && (((byteAt p49.2.s 0) == 43) || ((byteAt p49.2.s 0) == 45)))⟩]) 1 (by kernel_rfl) (by kernel_rfl) (by kernel_rfl) (by kernel_rfl) (by kernel_rfl) (fun w h => (((h.front (j := 2) rfl).front (j := 2) rfl).erase 2)) ?_ ?_
            ·
              refine GL_loadA (i := 1) (ch := []) (b := b13) (off := 0) (l := [.int .i64 y2, .int .i64 (p26.1 + 1), .int .i64 d1, .int .i64 p41.1, .int .i64 p44.1, .int .i64 s3]) rfl rfl (by kernel_rfl) (by kernel_rfl) (by kernel_rfl) (by kernel_rfl) (by kernel_rfl) (by kernel_rfl) (At.grp 1 0 rfl rfl) (by kernel_rfl) ?_
              exact GL_yend (by kernel_rfl) (by kernel_rfl)
            refine GH_take (E' := [⟨128, [], .pointer (some ⟨b1, 0, none⟩)⟩, ⟨127, [], .agg #[.int .i64 y2, .int .i64 (p26.1 + 1), .int .i64 d1, .int .i64 p41.1, .int .i64 p44.1, .int .i64 s3]⟩, ⟨126, [], .pointer (some ⟨b1, 0, none⟩)⟩, ⟨4, [], .pointer (some ⟨b1, 0, none⟩)⟩, ⟨5, [], .pointer (some ⟨b13, 0, none⟩)⟩, ⟨125, [], .bool ((!(p49.2.s.toList == (ByteArray.mk #[]).toList)) && (((byteAt p49.2.s 0) == 43) || ((byteAt p49.2.s 0) == 45)))⟩]) 2 (by kernel_rfl) (by kernel_rfl) (by kernel_rfl) (by kernel_rfl) (by kernel_rfl) (fun w h => (((h.front (j := 2) rfl).front (j := 2) rfl).erase 2)) ?_ ?_
            ·
              refine GL_pure (E' := [⟨128, [], .pointer (some ⟨b1, 0, none⟩)⟩, ⟨127, [], .agg #[.int .i64 y2, .int .i64 (p26.1 + 1), .int .i64 d1, .int .i64 p41.1, .int .i64 p44.1, .int .i64 s3]⟩, ⟨126, [], .pointer (some ⟨b1, 0, none⟩)⟩, ⟨4, [], .pointer (some ⟨b1, 0, none⟩)⟩, ⟨5, [], .pointer (some ⟨b13, 0, none⟩)⟩, ⟨125, [], .bool ((!(p49.2.s.toList == (ByteArray.mk #[]).toList)) && (((byteAt p49.2.s 0) == 43) || ((byteAt p49.2.s 0) == 45)))⟩]) [0] (by kernel_rfl) (j := 3) rfl ?_
              exact GL_yend (by kernel_rfl) (by kernel_rfl)
            refine GH_eff 3 (by kernel_rfl) (by kernel_rfl) (by kernel_rfl) ?_
            refine GL_call (i := 3) (ch := []) (f := 22) (fst := #[]) (caps := #[]) (vs := [.pointer (some ⟨b1, 0, none⟩), .string (ByteArray.mk #[])]) rfl rfl rfl (by kernel_rfl) (by kernel_rfl) Tryz.func22 rfl rfl (by kernel_rfl) (by kernel_rfl) (chSure_of (by kernel_rfl)) (offset_ b1 p49.2 (ByteArray.mk #[]) _ _) ?_
            rintro _ _ ⟨p53, hp53, hp53a, hp53b, hp53c, rfl, rfl⟩
            refine GH_back (by kernel_rfl) (fun w h => (((h.front (j := 2) rfl).front (j := 2) rfl).erase 2)) ?_
            refine GH_eff 4 (by kernel_rfl) (by kernel_rfl) (by kernel_rfl) ?_
            refine GL_call (i := 4) (ch := []) (f := 21) (fst := #[]) (caps := #[]) (vs := [.pointer (some ⟨b1, 0, none⟩), .agg #[.int .i64 y2, .int .i64 (p26.1 + 1), .int .i64 d1, .int .i64 p41.1, .int .i64 p44.1, .int .i64 s3], .int .i64 p53.1]) rfl rfl rfl (by kernel_rfl) (by kernel_rfl) Tryz.func21 rfl rfl (by kernel_rfl) (by kernel_rfl) (chSure_of (by kernel_rfl)) (end_ b1 p53.2 y2 (p26.1 + 1) d1 p41.1 p44.1 s3 p53.1 (by omega) (by omega) (by omega) (by omega) (by omega) (by omega) (by first | omega | exact zoneM_bd (by omega) (by omega)) _ _) ?_
            rintro v H' ⟨rfl, rfl⟩
            rcases he54 : endM p53.2 (timeM y2 (p26.1 + 1) d1 p41.1 p44.1 s3 p53.1) with _ | t55
            ·
              refine GH_back (by kernel_rfl) (fun w h => (((h.front (j := 2) rfl).front (j := 2) rfl).erase 2)) ?_
              refine GH_take (E' := [⟨131, [], .int .i64 0⟩, ⟨130, [], .tuple #[.int .i64 0, .int .i64 30]⟩, ⟨129, [], .int .i64 p53.1⟩, ⟨128, [], .pointer (some ⟨b1, 0, none⟩)⟩, ⟨127, [], .agg #[.int .i64 y2, .int .i64 (p26.1 + 1), .int .i64 d1, .int .i64 p41.1, .int .i64 p44.1, .int .i64 s3]⟩, ⟨126, [], .pointer (some ⟨b1, 0, none⟩)⟩, ⟨4, [], .pointer (some ⟨b1, 0, none⟩)⟩, ⟨5, [], .pointer (some ⟨b13, 0, none⟩)⟩, ⟨125, [], .bool ((!(p49.2.s.toList == (ByteArray.mk #[]).toList)) && (((byteAt p49.2.s 0) == 43) || ((byteAt p49.2.s 0) == 45)))⟩]) 5 (by kernel_rfl) (by kernel_rfl) (by kernel_rfl) (by kernel_rfl) (by kernel_rfl) (fun w h => (((h.front (j := 2) rfl).front (j := 2) rfl).erase 2)) ?_ ?_
              ·
                refine GL_pure (E' := [⟨131, [], .int .i64 0⟩, ⟨130, [], .tuple #[.int .i64 0, .int .i64 30]⟩, ⟨129, [], .int .i64 p53.1⟩, ⟨128, [], .pointer (some ⟨b1, 0, none⟩)⟩, ⟨127, [], .agg #[.int .i64 y2, .int .i64 (p26.1 + 1), .int .i64 d1, .int .i64 p41.1, .int .i64 p44.1, .int .i64 s3]⟩, ⟨126, [], .pointer (some ⟨b1, 0, none⟩)⟩, ⟨4, [], .pointer (some ⟨b1, 0, none⟩)⟩, ⟨5, [], .pointer (some ⟨b13, 0, none⟩)⟩, ⟨125, [], .bool ((!(p49.2.s.toList == (ByteArray.mk #[]).toList)) && (((byteAt p49.2.s 0) == 43) || ((byteAt p49.2.s 0) == 45)))⟩]) [0] (by kernel_rfl) (j := 6) rfl ?_
                exact GL_yend (by kernel_rfl) (by kernel_rfl)
              refine GH_take (E' := [⟨132, [], .int .i64 30⟩, ⟨131, [], .int .i64 0⟩, ⟨130, [], .tuple #[.int .i64 0, .int .i64 30]⟩, ⟨129, [], .int .i64 p53.1⟩, ⟨128, [], .pointer (some ⟨b1, 0, none⟩)⟩, ⟨127, [], .agg #[.int .i64 y2, .int .i64 (p26.1 + 1), .int .i64 d1, .int .i64 p41.1, .int .i64 p44.1, .int .i64 s3]⟩, ⟨126, [], .pointer (some ⟨b1, 0, none⟩)⟩, ⟨4, [], .pointer (some ⟨b1, 0, none⟩)⟩, ⟨5, [], .pointer (some ⟨b13, 0, none⟩)⟩, ⟨125, [], .bool ((!(p49.2.s.toList == (ByteArray.mk #[]).toList)) && (((byteAt p49.2.s 0) == 43) || ((byteAt p49.2.s 0) == 45)))⟩]) 6 (by kernel_rfl) (by kernel_rfl) (by kernel_rfl) (by kernel_rfl) (by kernel_rfl) (fun w h => (((h.front (j := 2) rfl).front (j := 2) rfl).erase 2)) ?_ ?_
              ·
                refine GL_pure (E' := [⟨132, [], .int .i64 30⟩, ⟨131, [], .int .i64 0⟩, ⟨130, [], .tuple #[.int .i64 0, .int .i64 30]⟩, ⟨129, [], .int .i64 p53.1⟩, ⟨128, [], .pointer (some ⟨b1, 0, none⟩)⟩, ⟨127, [], .agg #[.int .i64 y2, .int .i64 (p26.1 + 1), .int .i64 d1, .int .i64 p41.1, .int .i64 p44.1, .int .i64 s3]⟩, ⟨126, [], .pointer (some ⟨b1, 0, none⟩)⟩, ⟨4, [], .pointer (some ⟨b1, 0, none⟩)⟩, ⟨5, [], .pointer (some ⟨b13, 0, none⟩)⟩, ⟨125, [], .bool ((!(p49.2.s.toList == (ByteArray.mk #[]).toList)) && (((byteAt p49.2.s 0) == 43) || ((byteAt p49.2.s 0) == 45)))⟩]) [0] (by kernel_rfl) (j := 7) rfl ?_
                exact GL_yend (by kernel_rfl) (by kernel_rfl)
              refine GH_take (E' := [⟨2, [], .int .i64 0⟩, ⟨132, [], .int .i64 30⟩, ⟨131, [], .int .i64 0⟩, ⟨130, [], .tuple #[.int .i64 0, .int .i64 30]⟩, ⟨129, [], .int .i64 p53.1⟩, ⟨128, [], .pointer (some ⟨b1, 0, none⟩)⟩, ⟨127, [], .agg #[.int .i64 y2, .int .i64 (p26.1 + 1), .int .i64 d1, .int .i64 p41.1, .int .i64 p44.1, .int .i64 s3]⟩, ⟨126, [], .pointer (some ⟨b1, 0, none⟩)⟩, ⟨4, [], .pointer (some ⟨b1, 0, none⟩)⟩, ⟨5, [], .pointer (some ⟨b13, 0, none⟩)⟩, ⟨125, [], .bool ((!(p49.2.s.toList == (ByteArray.mk #[]).toList)) && (((byteAt p49.2.s 0) == 43) || ((byteAt p49.2.s 0) == 45)))⟩]) 7 (by kernel_rfl) (by kernel_rfl) (by kernel_rfl) (by kernel_rfl) (by kernel_rfl) (fun w h => (((h.front (j := 2) rfl).front (j := 2) rfl).erase 2)) ?_ ?_
              ·
                refine GL_pure (E' := [⟨2, [], .int .i64 0⟩, ⟨132, [], .int .i64 30⟩, ⟨131, [], .int .i64 0⟩, ⟨130, [], .tuple #[.int .i64 0, .int .i64 30]⟩, ⟨129, [], .int .i64 p53.1⟩, ⟨128, [], .pointer (some ⟨b1, 0, none⟩)⟩, ⟨127, [], .agg #[.int .i64 y2, .int .i64 (p26.1 + 1), .int .i64 d1, .int .i64 p41.1, .int .i64 p44.1, .int .i64 s3]⟩, ⟨126, [], .pointer (some ⟨b1, 0, none⟩)⟩, ⟨4, [], .pointer (some ⟨b1, 0, none⟩)⟩, ⟨5, [], .pointer (some ⟨b13, 0, none⟩)⟩, ⟨125, [], .bool ((!(p49.2.s.toList == (ByteArray.mk #[]).toList)) && (((byteAt p49.2.s 0) == 43) || ((byteAt p49.2.s 0) == 45)))⟩]) [0] (by kernel_rfl) (j := 8) rfl ?_
                exact GL_yend (by kernel_rfl) (by kernel_rfl)
              refine GH_take (E' := [⟨3, [], .int .i64 30⟩, ⟨2, [], .int .i64 0⟩, ⟨132, [], .int .i64 30⟩, ⟨131, [], .int .i64 0⟩, ⟨130, [], .tuple #[.int .i64 0, .int .i64 30]⟩, ⟨129, [], .int .i64 p53.1⟩, ⟨128, [], .pointer (some ⟨b1, 0, none⟩)⟩, ⟨127, [], .agg #[.int .i64 y2, .int .i64 (p26.1 + 1), .int .i64 d1, .int .i64 p41.1, .int .i64 p44.1, .int .i64 s3]⟩, ⟨126, [], .pointer (some ⟨b1, 0, none⟩)⟩, ⟨4, [], .pointer (some ⟨b1, 0, none⟩)⟩, ⟨5, [], .pointer (some ⟨b13, 0, none⟩)⟩, ⟨125, [], .bool ((!(p49.2.s.toList == (ByteArray.mk #[]).toList)) && (((byteAt p49.2.s 0) == 43) || ((byteAt p49.2.s 0) == 45)))⟩]) 8 (by kernel_rfl) (by kernel_rfl) (by kernel_rfl) (by kernel_rfl) (by kernel_rfl) (fun w h => (((h.front (j := 2) rfl).front (j := 2) rfl).erase 2)) ?_ ?_
              ·
                refine GL_pure (E' := [⟨3, [], .int .i64 30⟩, ⟨2, [], .int .i64 0⟩, ⟨132, [], .int .i64 30⟩, ⟨131, [], .int .i64 0⟩, ⟨130, [], .tuple #[.int .i64 0, .int .i64 30]⟩, ⟨129, [], .int .i64 p53.1⟩, ⟨128, [], .pointer (some ⟨b1, 0, none⟩)⟩, ⟨127, [], .agg #[.int .i64 y2, .int .i64 (p26.1 + 1), .int .i64 d1, .int .i64 p41.1, .int .i64 p44.1, .int .i64 s3]⟩, ⟨126, [], .pointer (some ⟨b1, 0, none⟩)⟩, ⟨4, [], .pointer (some ⟨b1, 0, none⟩)⟩, ⟨5, [], .pointer (some ⟨b13, 0, none⟩)⟩, ⟨125, [], .bool ((!(p49.2.s.toList == (ByteArray.mk #[]).toList)) && (((byteAt p49.2.s 0) == 43) || ((byteAt p49.2.s 0) == 45)))⟩]) [0] (by kernel_rfl) (j := 9) rfl ?_
                exact GL_yend (by kernel_rfl) (by kernel_rfl)
              refine GH_done (E' := [⟨2, [], .int .i64 0⟩, ⟨3, [], .int .i64 30⟩]) [2, 3] (by kernel_rfl) (by kernel_rfl) ?_
              refine N_then ?_
              refine G_ret ?_
              refine N_then_ret ?_
              refine N_heap (H' := ([(b1, .cells #[.string p53.2.s, .bool p53.2.bad] 40 (0, 0))] :: [(b48, .cells #[.string (ByteArray.mk #[32])] 9 (0, 0))] :: H)) (fun w h => h.erase 2) ?_
              refine N_heap (H' := ([(b1, .cells #[.string p53.2.s, .bool p53.2.bad] 40 (0, 0))] :: H)) (fun w h => h.erase 1) ?_
              refine N_heap (H' := H) (fun w h => h.erase 0) ?_
              refine N_ret [.tmp 2, .tmp 3] [.int .i64 0, .int .i64 30] rfl (by kernel_rfl) rfl ?_
              exact merrR (t := none) (by simp only [mailM, mailH, ← hw0, ← hd, ← hy, ← hs, ← hp19, ← hp26, ← hp29, ← hp40, ← hp41, ← hp43, ← hp44, ← hp49, ← hp53, signB, hc52, cond_true, he54]) rfl
            ·
              refine GH_back (by kernel_rfl) (fun w h => (((h.front (j := 2) rfl).front (j := 2) rfl).erase 2)) ?_
              refine GH_take (E' := [⟨131, [], .int .i64 t55⟩, ⟨130, [], .tuple #[.int .i64 t55, .int .i64 0]⟩, ⟨129, [], .int .i64 p53.1⟩, ⟨128, [], .pointer (some ⟨b1, 0, none⟩)⟩, ⟨127, [], .agg #[.int .i64 y2, .int .i64 (p26.1 + 1), .int .i64 d1, .int .i64 p41.1, .int .i64 p44.1, .int .i64 s3]⟩, ⟨126, [], .pointer (some ⟨b1, 0, none⟩)⟩, ⟨4, [], .pointer (some ⟨b1, 0, none⟩)⟩, ⟨5, [], .pointer (some ⟨b13, 0, none⟩)⟩, ⟨125, [], .bool ((!(p49.2.s.toList == (ByteArray.mk #[]).toList)) && (((byteAt p49.2.s 0) == 43) || ((byteAt p49.2.s 0) == 45)))⟩]) 5 (by kernel_rfl) (by kernel_rfl) (by kernel_rfl) (by kernel_rfl) (by kernel_rfl) (fun w h => (((h.front (j := 2) rfl).front (j := 2) rfl).erase 2)) ?_ ?_
              ·
                refine GL_pure (E' := [⟨131, [], .int .i64 t55⟩, ⟨130, [], .tuple #[.int .i64 t55, .int .i64 0]⟩, ⟨129, [], .int .i64 p53.1⟩, ⟨128, [], .pointer (some ⟨b1, 0, none⟩)⟩, ⟨127, [], .agg #[.int .i64 y2, .int .i64 (p26.1 + 1), .int .i64 d1, .int .i64 p41.1, .int .i64 p44.1, .int .i64 s3]⟩, ⟨126, [], .pointer (some ⟨b1, 0, none⟩)⟩, ⟨4, [], .pointer (some ⟨b1, 0, none⟩)⟩, ⟨5, [], .pointer (some ⟨b13, 0, none⟩)⟩, ⟨125, [], .bool ((!(p49.2.s.toList == (ByteArray.mk #[]).toList)) && (((byteAt p49.2.s 0) == 43) || ((byteAt p49.2.s 0) == 45)))⟩]) [0] (by kernel_rfl) (j := 6) rfl ?_
                exact GL_yend (by kernel_rfl) (by kernel_rfl)
              refine GH_take (E' := [⟨132, [], .int .i64 0⟩, ⟨131, [], .int .i64 t55⟩, ⟨130, [], .tuple #[.int .i64 t55, .int .i64 0]⟩, ⟨129, [], .int .i64 p53.1⟩, ⟨128, [], .pointer (some ⟨b1, 0, none⟩)⟩, ⟨127, [], .agg #[.int .i64 y2, .int .i64 (p26.1 + 1), .int .i64 d1, .int .i64 p41.1, .int .i64 p44.1, .int .i64 s3]⟩, ⟨126, [], .pointer (some ⟨b1, 0, none⟩)⟩, ⟨4, [], .pointer (some ⟨b1, 0, none⟩)⟩, ⟨5, [], .pointer (some ⟨b13, 0, none⟩)⟩, ⟨125, [], .bool ((!(p49.2.s.toList == (ByteArray.mk #[]).toList)) && (((byteAt p49.2.s 0) == 43) || ((byteAt p49.2.s 0) == 45)))⟩]) 6 (by kernel_rfl) (by kernel_rfl) (by kernel_rfl) (by kernel_rfl) (by kernel_rfl) (fun w h => (((h.front (j := 2) rfl).front (j := 2) rfl).erase 2)) ?_ ?_
              ·
                refine GL_pure (E' := [⟨132, [], .int .i64 0⟩, ⟨131, [], .int .i64 t55⟩, ⟨130, [], .tuple #[.int .i64 t55, .int .i64 0]⟩, ⟨129, [], .int .i64 p53.1⟩, ⟨128, [], .pointer (some ⟨b1, 0, none⟩)⟩, ⟨127, [], .agg #[.int .i64 y2, .int .i64 (p26.1 + 1), .int .i64 d1, .int .i64 p41.1, .int .i64 p44.1, .int .i64 s3]⟩, ⟨126, [], .pointer (some ⟨b1, 0, none⟩)⟩, ⟨4, [], .pointer (some ⟨b1, 0, none⟩)⟩, ⟨5, [], .pointer (some ⟨b13, 0, none⟩)⟩, ⟨125, [], .bool ((!(p49.2.s.toList == (ByteArray.mk #[]).toList)) && (((byteAt p49.2.s 0) == 43) || ((byteAt p49.2.s 0) == 45)))⟩]) [0] (by kernel_rfl) (j := 7) rfl ?_
                exact GL_yend (by kernel_rfl) (by kernel_rfl)
              refine GH_take (E' := [⟨2, [], .int .i64 t55⟩, ⟨132, [], .int .i64 0⟩, ⟨131, [], .int .i64 t55⟩, ⟨130, [], .tuple #[.int .i64 t55, .int .i64 0]⟩, ⟨129, [], .int .i64 p53.1⟩, ⟨128, [], .pointer (some ⟨b1, 0, none⟩)⟩, ⟨127, [], .agg #[.int .i64 y2, .int .i64 (p26.1 + 1), .int .i64 d1, .int .i64 p41.1, .int .i64 p44.1, .int .i64 s3]⟩, ⟨126, [], .pointer (some ⟨b1, 0, none⟩)⟩, ⟨4, [], .pointer (some ⟨b1, 0, none⟩)⟩, ⟨5, [], .pointer (some ⟨b13, 0, none⟩)⟩, ⟨125, [], .bool ((!(p49.2.s.toList == (ByteArray.mk #[]).toList)) && (((byteAt p49.2.s 0) == 43) || ((byteAt p49.2.s 0) == 45)))⟩]) 7 (by kernel_rfl) (by kernel_rfl) (by kernel_rfl) (by kernel_rfl) (by kernel_rfl) (fun w h => (((h.front (j := 2) rfl).front (j := 2) rfl).erase 2)) ?_ ?_
              ·
                refine GL_pure (E' := [⟨2, [], .int .i64 t55⟩, ⟨132, [], .int .i64 0⟩, ⟨131, [], .int .i64 t55⟩, ⟨130, [], .tuple #[.int .i64 t55, .int .i64 0]⟩, ⟨129, [], .int .i64 p53.1⟩, ⟨128, [], .pointer (some ⟨b1, 0, none⟩)⟩, ⟨127, [], .agg #[.int .i64 y2, .int .i64 (p26.1 + 1), .int .i64 d1, .int .i64 p41.1, .int .i64 p44.1, .int .i64 s3]⟩, ⟨126, [], .pointer (some ⟨b1, 0, none⟩)⟩, ⟨4, [], .pointer (some ⟨b1, 0, none⟩)⟩, ⟨5, [], .pointer (some ⟨b13, 0, none⟩)⟩, ⟨125, [], .bool ((!(p49.2.s.toList == (ByteArray.mk #[]).toList)) && (((byteAt p49.2.s 0) == 43) || ((byteAt p49.2.s 0) == 45)))⟩]) [0] (by kernel_rfl) (j := 8) rfl ?_
                exact GL_yend (by kernel_rfl) (by kernel_rfl)
              refine GH_take (E' := [⟨3, [], .int .i64 0⟩, ⟨2, [], .int .i64 t55⟩, ⟨132, [], .int .i64 0⟩, ⟨131, [], .int .i64 t55⟩, ⟨130, [], .tuple #[.int .i64 t55, .int .i64 0]⟩, ⟨129, [], .int .i64 p53.1⟩, ⟨128, [], .pointer (some ⟨b1, 0, none⟩)⟩, ⟨127, [], .agg #[.int .i64 y2, .int .i64 (p26.1 + 1), .int .i64 d1, .int .i64 p41.1, .int .i64 p44.1, .int .i64 s3]⟩, ⟨126, [], .pointer (some ⟨b1, 0, none⟩)⟩, ⟨4, [], .pointer (some ⟨b1, 0, none⟩)⟩, ⟨5, [], .pointer (some ⟨b13, 0, none⟩)⟩, ⟨125, [], .bool ((!(p49.2.s.toList == (ByteArray.mk #[]).toList)) && (((byteAt p49.2.s 0) == 43) || ((byteAt p49.2.s 0) == 45)))⟩]) 8 (by kernel_rfl) (by kernel_rfl) (by kernel_rfl) (by kernel_rfl) (by kernel_rfl) (fun w h => (((h.front (j := 2) rfl).front (j := 2) rfl).erase 2)) ?_ ?_
              ·
                refine GL_pure (E' := [⟨3, [], .int .i64 0⟩, ⟨2, [], .int .i64 t55⟩, ⟨132, [], .int .i64 0⟩, ⟨131, [], .int .i64 t55⟩, ⟨130, [], .tuple #[.int .i64 t55, .int .i64 0]⟩, ⟨129, [], .int .i64 p53.1⟩, ⟨128, [], .pointer (some ⟨b1, 0, none⟩)⟩, ⟨127, [], .agg #[.int .i64 y2, .int .i64 (p26.1 + 1), .int .i64 d1, .int .i64 p41.1, .int .i64 p44.1, .int .i64 s3]⟩, ⟨126, [], .pointer (some ⟨b1, 0, none⟩)⟩, ⟨4, [], .pointer (some ⟨b1, 0, none⟩)⟩, ⟨5, [], .pointer (some ⟨b13, 0, none⟩)⟩, ⟨125, [], .bool ((!(p49.2.s.toList == (ByteArray.mk #[]).toList)) && (((byteAt p49.2.s 0) == 43) || ((byteAt p49.2.s 0) == 45)))⟩]) [0] (by kernel_rfl) (j := 9) rfl ?_
                exact GL_yend (by kernel_rfl) (by kernel_rfl)
              refine GH_done (E' := [⟨2, [], .int .i64 t55⟩, ⟨3, [], .int .i64 0⟩]) [2, 3] (by kernel_rfl) (by kernel_rfl) ?_
              refine N_then ?_
              refine G_ret ?_
              refine N_then_ret ?_
              refine N_heap (H' := ([(b1, .cells #[.string p53.2.s, .bool p53.2.bad] 40 (0, 0))] :: [(b48, .cells #[.string (ByteArray.mk #[32])] 9 (0, 0))] :: H)) (fun w h => h.erase 2) ?_
              refine N_heap (H' := ([(b1, .cells #[.string p53.2.s, .bool p53.2.bad] 40 (0, 0))] :: H)) (fun w h => h.erase 1) ?_
              refine N_heap (H' := H) (fun w h => h.erase 0) ?_
              refine N_ret [.tmp 2, .tmp 3] [.int .i64 t55, .int .i64 0] rfl (by kernel_rfl) rfl ?_
              exact merrR (t := (some t55)) (by simp only [mailM, mailH, ← hw0, ← hd, ← hy, ← hs, ← hp19, ← hp26, ← hp29, ← hp40, ← hp41, ← hp43, ← hp44, ← hp49, ← hp53, signB, hc52, cond_true, he54]) rfl
          ·
            -- hc52 false
            skip
            refine G_skip ?_
            refine N_then ?_
            refine G_seq ?_
            refine G_regionH ([(b48, .cells #[.string (ByteArray.mk #[32])] 9 (0, 0))] :: [(b13, .cells #[.int .i64 y2, .int .i64 (p26.1 + 1), .int .i64 d1, .int .i64 p41.1, .int .i64 p44.1, .int .i64 s3] 44 (0, 0))] :: H) (by kernel_rfl) ?_
            refine GH_take (E' := [⟨133, [], .pointer (some ⟨b1, 0, none⟩)⟩, ⟨4, [], .pointer (some ⟨b1, 0, none⟩)⟩, ⟨5, [], .pointer (some ⟨b13, 0, none⟩)⟩, ⟨125, [], .bool ((!(p49.2.s.toList == (ByteArray.mk #[]).toList)) && (((byteAt p49.2.s 0) == 43) || ((byteAt p49.2.s 0) == 45)))⟩]) 0 (by kernel_rfl) (by kernel_rfl) (by kernel_rfl) (by kernel_rfl) (by kernel_rfl) (fun w h => (((h.front (j := 2) rfl).front (j := 2) rfl).erase 2)) ?_ ?_
            ·
              refine GL_pure (E' := [⟨133, [], .pointer (some ⟨b1, 0, none⟩)⟩, ⟨4, [], .pointer (some ⟨b1, 0, none⟩)⟩, ⟨5, [], .pointer (some ⟨b13, 0, none⟩)⟩, ⟨125, [], .bool ((!(p49.2.s.toList == (ByteArray.mk #[]).toList)) && (((byteAt p49.2.s 0) == 43) || ((byteAt p49.2.s 0) == 45)))⟩]) [0] (by kernel_rfl) (j := 1) rfl ?_
              exact GL_yend (by kernel_rfl) (by kernel_rfl)
            refine GH_take (E' := [⟨134, [], .agg #[.int .i64 y2, .int .i64 (p26.1 + 1), .int .i64 d1, .int .i64 p41.1, .int .i64 p44.1, .int .i64 s3]⟩, ⟨133, [], .pointer (some ⟨b1, 0, none⟩)⟩, ⟨4, [], .pointer (some ⟨b1, 0, none⟩)⟩, ⟨5, [], .pointer (some ⟨b13, 0, none⟩)⟩, ⟨125, [], .bool ((!(p49.2.s.toList == (ByteArray.mk #[]).toList)) && (((byteAt p49.2.s 0) == 43) || ((byteAt p49.2.s 0) == 45)))⟩]) 1 (by kernel_rfl) (by kernel_rfl) (by kernel_rfl) (by kernel_rfl) (by kernel_rfl) (fun w h => (((h.front (j := 2) rfl).front (j := 2) rfl).erase 2)) ?_ ?_
            ·
              refine GL_loadA (i := 1) (ch := []) (b := b13) (off := 0) (l := [.int .i64 y2, .int .i64 (p26.1 + 1), .int .i64 d1, .int .i64 p41.1, .int .i64 p44.1, .int .i64 s3]) rfl rfl (by kernel_rfl) (by kernel_rfl) (by kernel_rfl) (by kernel_rfl) (by kernel_rfl) (by kernel_rfl) (At.grp 1 0 rfl rfl) (by kernel_rfl) ?_
              exact GL_yend (by kernel_rfl) (by kernel_rfl)
            refine GH_take (E' := [⟨135, [], .pointer (some ⟨b1, 0, none⟩)⟩, ⟨134, [], .agg #[.int .i64 y2, .int .i64 (p26.1 + 1), .int .i64 d1, .int .i64 p41.1, .int .i64 p44.1, .int .i64 s3]⟩, ⟨133, [], .pointer (some ⟨b1, 0, none⟩)⟩, ⟨4, [], .pointer (some ⟨b1, 0, none⟩)⟩, ⟨5, [], .pointer (some ⟨b13, 0, none⟩)⟩, ⟨125, [], .bool ((!(p49.2.s.toList == (ByteArray.mk #[]).toList)) && (((byteAt p49.2.s 0) == 43) || ((byteAt p49.2.s 0) == 45)))⟩]) 2 (by kernel_rfl) (by kernel_rfl) (by kernel_rfl) (by kernel_rfl) (by kernel_rfl) (fun w h => (((h.front (j := 2) rfl).front (j := 2) rfl).erase 2)) ?_ ?_
            ·
              refine GL_pure (E' := [⟨135, [], .pointer (some ⟨b1, 0, none⟩)⟩, ⟨134, [], .agg #[.int .i64 y2, .int .i64 (p26.1 + 1), .int .i64 d1, .int .i64 p41.1, .int .i64 p44.1, .int .i64 s3]⟩, ⟨133, [], .pointer (some ⟨b1, 0, none⟩)⟩, ⟨4, [], .pointer (some ⟨b1, 0, none⟩)⟩, ⟨5, [], .pointer (some ⟨b13, 0, none⟩)⟩, ⟨125, [], .bool ((!(p49.2.s.toList == (ByteArray.mk #[]).toList)) && (((byteAt p49.2.s 0) == 43) || ((byteAt p49.2.s 0) == 45)))⟩]) [0] (by kernel_rfl) (j := 3) rfl ?_
              exact GL_yend (by kernel_rfl) (by kernel_rfl)
            refine GH_eff 3 (by kernel_rfl) (by kernel_rfl) (by kernel_rfl) ?_
            refine GL_buildSlice (i := 3) (ch := []) (e := 9) (l := [(0, .string (ByteArray.mk #[71, 77, 84])), (1, .string (ByteArray.mk #[85, 84])), (2, .string (ByteArray.mk #[90])), (3, .string (ByteArray.mk #[69, 83, 84])), (4, .string (ByteArray.mk #[69, 68, 84])), (5, .string (ByteArray.mk #[67, 83, 84])), (6, .string (ByteArray.mk #[67, 68, 84])), (7, .string (ByteArray.mk #[77, 83, 84])), (8, .string (ByteArray.mk #[77, 68, 84])), (9, .string (ByteArray.mk #[80, 83, 84])), (10, .string (ByteArray.mk #[80, 68, 84]))]) (c := [.string (ByteArray.mk #[71, 77, 84]), .string (ByteArray.mk #[85, 84]), .string (ByteArray.mk #[90]), .string (ByteArray.mk #[69, 83, 84]), .string (ByteArray.mk #[69, 68, 84]), .string (ByteArray.mk #[67, 83, 84]), .string (ByteArray.mk #[67, 68, 84]), .string (ByteArray.mk #[77, 83, 84]), .string (ByteArray.mk #[77, 68, 84]), .string (ByteArray.mk #[80, 83, 84]), .string (ByteArray.mk #[80, 68, 84])]) rfl rfl (by kernel_rfl) (by kernel_rfl) (by kernel_rfl) (by kernel_rfl) (by kernel_rfl) (fun b56 => ?_)
            refine GH_back (by kernel_rfl) (fun w h => ((((h.front (j := 3) rfl).front (j := 3) rfl).erase 3).erase 2)) ?_
            refine GH_more ([(b56, .cells #[.string (ByteArray.mk #[71, 77, 84]), .string (ByteArray.mk #[85, 84]), .string (ByteArray.mk #[90]), .string (ByteArray.mk #[69, 83, 84]), .string (ByteArray.mk #[69, 68, 84]), .string (ByteArray.mk #[67, 83, 84]), .string (ByteArray.mk #[67, 68, 84]), .string (ByteArray.mk #[77, 83, 84]), .string (ByteArray.mk #[77, 68, 84]), .string (ByteArray.mk #[80, 83, 84]), .string (ByteArray.mk #[80, 68, 84])] 9 (0, 0))] :: [(b48, .cells #[.string (ByteArray.mk #[32])] 9 (0, 0))] :: [(b13, .cells #[.int .i64 y2, .int .i64 (p26.1 + 1), .int .i64 d1, .int .i64 p41.1, .int .i64 p44.1, .int .i64 s3] 44 (0, 0))] :: H) (fun w h => (((h.front (j := 2) rfl).front (j := 2) rfl).erase 2)) ?_
            refine GH_eff 4 (by kernel_rfl) (by kernel_rfl) (by kernel_rfl) ?_
            refine GL_heap rfl (H' := ([(b1, .cells #[.string p49.2.s, .bool p49.2.bad] 40 (0, 0))] :: [(b56, .cells #[.string (ByteArray.mk #[71, 77, 84]), .string (ByteArray.mk #[85, 84]), .string (ByteArray.mk #[90]), .string (ByteArray.mk #[69, 83, 84]), .string (ByteArray.mk #[69, 68, 84]), .string (ByteArray.mk #[67, 83, 84]), .string (ByteArray.mk #[67, 68, 84]), .string (ByteArray.mk #[77, 83, 84]), .string (ByteArray.mk #[77, 68, 84]), .string (ByteArray.mk #[80, 83, 84]), .string (ByteArray.mk #[80, 68, 84])] 9 (0, 0))] :: [(b48, .cells #[.string (ByteArray.mk #[32])] 9 (0, 0))] :: [(b13, .cells #[.int .i64 y2, .int .i64 (p26.1 + 1), .int .i64 d1, .int .i64 p41.1, .int .i64 p44.1, .int .i64 s3] 44 (0, 0))] :: H)) (fun w h => (h.front (j := 1) rfl)) ?_
            refine GL_call (i := 4) (ch := []) (f := 17) (fst := #[]) (caps := #[]) (vs := [.pointer (some ⟨b1, 0, none⟩), .slice (some ⟨b56, 0, none⟩) 11 11]) rfl rfl rfl (by kernel_rfl) (by kernel_rfl) Tryz.func17 rfl rfl (by kernel_rfl) (by kernel_rfl) (chSure_of (by kernel_rfl)) (one_ b1 p49.2 (some ⟨b56, 0, none⟩) 11 (inG [(b56, .cells #[.string (ByteArray.mk #[71, 77, 84]), .string (ByteArray.mk #[85, 84]), .string (ByteArray.mk #[90]), .string (ByteArray.mk #[69, 83, 84]), .string (ByteArray.mk #[69, 68, 84]), .string (ByteArray.mk #[67, 83, 84]), .string (ByteArray.mk #[67, 68, 84]), .string (ByteArray.mk #[77, 83, 84]), .string (ByteArray.mk #[77, 68, 84]), .string (ByteArray.mk #[80, 83, 84]), .string (ByteArray.mk #[80, 68, 84])] 9 (0, 0))]) zoneL (Rd.lit (c := [.string (ByteArray.mk #[71, 77, 84]), .string (ByteArray.mk #[85, 84]), .string (ByteArray.mk #[90]), .string (ByteArray.mk #[69, 83, 84]), .string (ByteArray.mk #[69, 68, 84]), .string (ByteArray.mk #[67, 83, 84]), .string (ByteArray.mk #[67, 68, 84]), .string (ByteArray.mk #[77, 83, 84]), .string (ByteArray.mk #[77, 68, 84]), .string (ByteArray.mk #[80, 83, 84]), .string (ByteArray.mk #[80, 68, 84])])) (Nat.le_of_ble_eq_true rfl) _ _ (at_inG 1 rfl)) ?_
            rintro _ _ ⟨p57, hp57, hp57a, hp57b, hp57c, rfl, rfl⟩
            rw [show zoneL.length = 11 from rfl] at hp57b
            refine GH_back (by kernel_rfl) (fun w h => ((((h.front (j := 3) rfl).front (j := 3) rfl).front (j := 3) rfl).erase 3)) ?_
            refine GH_eff 5 (by kernel_rfl) (by kernel_rfl) (by kernel_rfl) ?_
            refine GL_callQ (i := 5) (ch := []) (f := 23) (fst := #[]) (caps := #[]) (vs := [.int .i64 p57.1]) (v := .int .i64 (zoneM p57.1)) rfl rfl rfl (by kernel_rfl) (by kernel_rfl) Tryz.func23 rfl rfl (by kernel_rfl) (by kernel_rfl) (by kernel_rfl) (fun _ => zone_ _ (by omega) _ _) ?_
            refine GH_back (by kernel_rfl) (fun w h => ((((h.front (j := 3) rfl).front (j := 3) rfl).front (j := 3) rfl).erase 3)) ?_
            refine GH_eff 6 (by kernel_rfl) (by kernel_rfl) (by kernel_rfl) ?_
            refine GL_call (i := 6) (ch := []) (f := 21) (fst := #[]) (caps := #[]) (vs := [.pointer (some ⟨b1, 0, none⟩), .agg #[.int .i64 y2, .int .i64 (p26.1 + 1), .int .i64 d1, .int .i64 p41.1, .int .i64 p44.1, .int .i64 s3], .int .i64 (zoneM p57.1)]) rfl rfl rfl (by kernel_rfl) (by kernel_rfl) Tryz.func21 rfl rfl (by kernel_rfl) (by kernel_rfl) (chSure_of (by kernel_rfl)) (end_ b1 p57.2 y2 (p26.1 + 1) d1 p41.1 p44.1 s3 (zoneM p57.1) (by omega) (by omega) (by omega) (by omega) (by omega) (by omega) (by first | omega | exact zoneM_bd (by omega) (by omega)) _ _) ?_
            rintro v H' ⟨rfl, rfl⟩
            rcases he58 : endM p57.2 (timeM y2 (p26.1 + 1) d1 p41.1 p44.1 s3 (zoneM p57.1)) with _ | t59
            ·
              refine GH_back (by kernel_rfl) (fun w h => ((((h.front (j := 3) rfl).front (j := 3) rfl).front (j := 3) rfl).erase 3)) ?_
              refine GH_take (E' := [⟨140, [], .int .i64 0⟩, ⟨139, [], .tuple #[.int .i64 0, .int .i64 30]⟩, ⟨138, [], .int .i64 (zoneM p57.1)⟩, ⟨137, [], .int .i64 p57.1⟩, ⟨136, [], .slice (some ⟨b56, 0, none⟩) 11 11⟩, ⟨135, [], .pointer (some ⟨b1, 0, none⟩)⟩, ⟨134, [], .agg #[.int .i64 y2, .int .i64 (p26.1 + 1), .int .i64 d1, .int .i64 p41.1, .int .i64 p44.1, .int .i64 s3]⟩, ⟨133, [], .pointer (some ⟨b1, 0, none⟩)⟩, ⟨4, [], .pointer (some ⟨b1, 0, none⟩)⟩, ⟨5, [], .pointer (some ⟨b13, 0, none⟩)⟩, ⟨125, [], .bool ((!(p49.2.s.toList == (ByteArray.mk #[]).toList)) && (((byteAt p49.2.s 0) == 43) || ((byteAt p49.2.s 0) == 45)))⟩]) 7 (by kernel_rfl) (by kernel_rfl) (by kernel_rfl) (by kernel_rfl) (by kernel_rfl) (fun w h => ((((h.front (j := 3) rfl).front (j := 3) rfl).front (j := 3) rfl).erase 3)) ?_ ?_
              ·
                refine GL_pure (E' := [⟨140, [], .int .i64 0⟩, ⟨139, [], .tuple #[.int .i64 0, .int .i64 30]⟩, ⟨138, [], .int .i64 (zoneM p57.1)⟩, ⟨137, [], .int .i64 p57.1⟩, ⟨136, [], .slice (some ⟨b56, 0, none⟩) 11 11⟩, ⟨135, [], .pointer (some ⟨b1, 0, none⟩)⟩, ⟨134, [], .agg #[.int .i64 y2, .int .i64 (p26.1 + 1), .int .i64 d1, .int .i64 p41.1, .int .i64 p44.1, .int .i64 s3]⟩, ⟨133, [], .pointer (some ⟨b1, 0, none⟩)⟩, ⟨4, [], .pointer (some ⟨b1, 0, none⟩)⟩, ⟨5, [], .pointer (some ⟨b13, 0, none⟩)⟩, ⟨125, [], .bool ((!(p49.2.s.toList == (ByteArray.mk #[]).toList)) && (((byteAt p49.2.s 0) == 43) || ((byteAt p49.2.s 0) == 45)))⟩]) [0] (by kernel_rfl) (j := 8) rfl ?_
                exact GL_yend (by kernel_rfl) (by kernel_rfl)
              refine GH_take (E' := [⟨141, [], .int .i64 30⟩, ⟨140, [], .int .i64 0⟩, ⟨139, [], .tuple #[.int .i64 0, .int .i64 30]⟩, ⟨138, [], .int .i64 (zoneM p57.1)⟩, ⟨137, [], .int .i64 p57.1⟩, ⟨136, [], .slice (some ⟨b56, 0, none⟩) 11 11⟩, ⟨135, [], .pointer (some ⟨b1, 0, none⟩)⟩, ⟨134, [], .agg #[.int .i64 y2, .int .i64 (p26.1 + 1), .int .i64 d1, .int .i64 p41.1, .int .i64 p44.1, .int .i64 s3]⟩, ⟨133, [], .pointer (some ⟨b1, 0, none⟩)⟩, ⟨4, [], .pointer (some ⟨b1, 0, none⟩)⟩, ⟨5, [], .pointer (some ⟨b13, 0, none⟩)⟩, ⟨125, [], .bool ((!(p49.2.s.toList == (ByteArray.mk #[]).toList)) && (((byteAt p49.2.s 0) == 43) || ((byteAt p49.2.s 0) == 45)))⟩]) 8 (by kernel_rfl) (by kernel_rfl) (by kernel_rfl) (by kernel_rfl) (by kernel_rfl) (fun w h => ((((h.front (j := 3) rfl).front (j := 3) rfl).front (j := 3) rfl).erase 3)) ?_ ?_
              ·
                refine GL_pure (E' := [⟨141, [], .int .i64 30⟩, ⟨140, [], .int .i64 0⟩, ⟨139, [], .tuple #[.int .i64 0, .int .i64 30]⟩, ⟨138, [], .int .i64 (zoneM p57.1)⟩, ⟨137, [], .int .i64 p57.1⟩, ⟨136, [], .slice (some ⟨b56, 0, none⟩) 11 11⟩, ⟨135, [], .pointer (some ⟨b1, 0, none⟩)⟩, ⟨134, [], .agg #[.int .i64 y2, .int .i64 (p26.1 + 1), .int .i64 d1, .int .i64 p41.1, .int .i64 p44.1, .int .i64 s3]⟩, ⟨133, [], .pointer (some ⟨b1, 0, none⟩)⟩, ⟨4, [], .pointer (some ⟨b1, 0, none⟩)⟩, ⟨5, [], .pointer (some ⟨b13, 0, none⟩)⟩, ⟨125, [], .bool ((!(p49.2.s.toList == (ByteArray.mk #[]).toList)) && (((byteAt p49.2.s 0) == 43) || ((byteAt p49.2.s 0) == 45)))⟩]) [0] (by kernel_rfl) (j := 9) rfl ?_
                exact GL_yend (by kernel_rfl) (by kernel_rfl)
              refine GH_take (E' := [⟨2, [], .int .i64 0⟩, ⟨141, [], .int .i64 30⟩, ⟨140, [], .int .i64 0⟩, ⟨139, [], .tuple #[.int .i64 0, .int .i64 30]⟩, ⟨138, [], .int .i64 (zoneM p57.1)⟩, ⟨137, [], .int .i64 p57.1⟩, ⟨136, [], .slice (some ⟨b56, 0, none⟩) 11 11⟩, ⟨135, [], .pointer (some ⟨b1, 0, none⟩)⟩, ⟨134, [], .agg #[.int .i64 y2, .int .i64 (p26.1 + 1), .int .i64 d1, .int .i64 p41.1, .int .i64 p44.1, .int .i64 s3]⟩, ⟨133, [], .pointer (some ⟨b1, 0, none⟩)⟩, ⟨4, [], .pointer (some ⟨b1, 0, none⟩)⟩, ⟨5, [], .pointer (some ⟨b13, 0, none⟩)⟩, ⟨125, [], .bool ((!(p49.2.s.toList == (ByteArray.mk #[]).toList)) && (((byteAt p49.2.s 0) == 43) || ((byteAt p49.2.s 0) == 45)))⟩]) 9 (by kernel_rfl) (by kernel_rfl) (by kernel_rfl) (by kernel_rfl) (by kernel_rfl) (fun w h => ((((h.front (j := 3) rfl).front (j := 3) rfl).front (j := 3) rfl).erase 3)) ?_ ?_
              ·
                refine GL_pure (E' := [⟨2, [], .int .i64 0⟩, ⟨141, [], .int .i64 30⟩, ⟨140, [], .int .i64 0⟩, ⟨139, [], .tuple #[.int .i64 0, .int .i64 30]⟩, ⟨138, [], .int .i64 (zoneM p57.1)⟩, ⟨137, [], .int .i64 p57.1⟩, ⟨136, [], .slice (some ⟨b56, 0, none⟩) 11 11⟩, ⟨135, [], .pointer (some ⟨b1, 0, none⟩)⟩, ⟨134, [], .agg #[.int .i64 y2, .int .i64 (p26.1 + 1), .int .i64 d1, .int .i64 p41.1, .int .i64 p44.1, .int .i64 s3]⟩, ⟨133, [], .pointer (some ⟨b1, 0, none⟩)⟩, ⟨4, [], .pointer (some ⟨b1, 0, none⟩)⟩, ⟨5, [], .pointer (some ⟨b13, 0, none⟩)⟩, ⟨125, [], .bool ((!(p49.2.s.toList == (ByteArray.mk #[]).toList)) && (((byteAt p49.2.s 0) == 43) || ((byteAt p49.2.s 0) == 45)))⟩]) [0] (by kernel_rfl) (j := 10) rfl ?_
                exact GL_yend (by kernel_rfl) (by kernel_rfl)
              refine GH_take (E' := [⟨3, [], .int .i64 30⟩, ⟨2, [], .int .i64 0⟩, ⟨141, [], .int .i64 30⟩, ⟨140, [], .int .i64 0⟩, ⟨139, [], .tuple #[.int .i64 0, .int .i64 30]⟩, ⟨138, [], .int .i64 (zoneM p57.1)⟩, ⟨137, [], .int .i64 p57.1⟩, ⟨136, [], .slice (some ⟨b56, 0, none⟩) 11 11⟩, ⟨135, [], .pointer (some ⟨b1, 0, none⟩)⟩, ⟨134, [], .agg #[.int .i64 y2, .int .i64 (p26.1 + 1), .int .i64 d1, .int .i64 p41.1, .int .i64 p44.1, .int .i64 s3]⟩, ⟨133, [], .pointer (some ⟨b1, 0, none⟩)⟩, ⟨4, [], .pointer (some ⟨b1, 0, none⟩)⟩, ⟨5, [], .pointer (some ⟨b13, 0, none⟩)⟩, ⟨125, [], .bool ((!(p49.2.s.toList == (ByteArray.mk #[]).toList)) && (((byteAt p49.2.s 0) == 43) || ((byteAt p49.2.s 0) == 45)))⟩]) 10 (by kernel_rfl) (by kernel_rfl) (by kernel_rfl) (by kernel_rfl) (by kernel_rfl) (fun w h => ((((h.front (j := 3) rfl).front (j := 3) rfl).front (j := 3) rfl).erase 3)) ?_ ?_
              ·
                refine GL_pure (E' := [⟨3, [], .int .i64 30⟩, ⟨2, [], .int .i64 0⟩, ⟨141, [], .int .i64 30⟩, ⟨140, [], .int .i64 0⟩, ⟨139, [], .tuple #[.int .i64 0, .int .i64 30]⟩, ⟨138, [], .int .i64 (zoneM p57.1)⟩, ⟨137, [], .int .i64 p57.1⟩, ⟨136, [], .slice (some ⟨b56, 0, none⟩) 11 11⟩, ⟨135, [], .pointer (some ⟨b1, 0, none⟩)⟩, ⟨134, [], .agg #[.int .i64 y2, .int .i64 (p26.1 + 1), .int .i64 d1, .int .i64 p41.1, .int .i64 p44.1, .int .i64 s3]⟩, ⟨133, [], .pointer (some ⟨b1, 0, none⟩)⟩, ⟨4, [], .pointer (some ⟨b1, 0, none⟩)⟩, ⟨5, [], .pointer (some ⟨b13, 0, none⟩)⟩, ⟨125, [], .bool ((!(p49.2.s.toList == (ByteArray.mk #[]).toList)) && (((byteAt p49.2.s 0) == 43) || ((byteAt p49.2.s 0) == 45)))⟩]) [0] (by kernel_rfl) (j := 11) rfl ?_
                exact GL_yend (by kernel_rfl) (by kernel_rfl)
              refine GH_done (E' := [⟨2, [], .int .i64 0⟩, ⟨3, [], .int .i64 30⟩]) [2, 3] (by kernel_rfl) (by kernel_rfl) ?_
              refine N_then ?_
              refine G_ret ?_
              refine N_heap (H' := ([(b1, .cells #[.string p57.2.s, .bool p57.2.bad] 40 (0, 0))] :: [(b56, .cells #[.string (ByteArray.mk #[71, 77, 84]), .string (ByteArray.mk #[85, 84]), .string (ByteArray.mk #[90]), .string (ByteArray.mk #[69, 83, 84]), .string (ByteArray.mk #[69, 68, 84]), .string (ByteArray.mk #[67, 83, 84]), .string (ByteArray.mk #[67, 68, 84]), .string (ByteArray.mk #[77, 83, 84]), .string (ByteArray.mk #[77, 68, 84]), .string (ByteArray.mk #[80, 83, 84]), .string (ByteArray.mk #[80, 68, 84])] 9 (0, 0))] :: [(b48, .cells #[.string (ByteArray.mk #[32])] 9 (0, 0))] :: H)) (fun w h => h.erase 3) ?_
              refine N_heap (H' := ([(b1, .cells #[.string p57.2.s, .bool p57.2.bad] 40 (0, 0))] :: [(b56, .cells #[.string (ByteArray.mk #[71, 77, 84]), .string (ByteArray.mk #[85, 84]), .string (ByteArray.mk #[90]), .string (ByteArray.mk #[69, 83, 84]), .string (ByteArray.mk #[69, 68, 84]), .string (ByteArray.mk #[67, 83, 84]), .string (ByteArray.mk #[67, 68, 84]), .string (ByteArray.mk #[77, 83, 84]), .string (ByteArray.mk #[77, 68, 84]), .string (ByteArray.mk #[80, 83, 84]), .string (ByteArray.mk #[80, 68, 84])] 9 (0, 0))] :: H)) (fun w h => h.erase 2) ?_
              refine N_heap (H' := ([(b1, .cells #[.string p57.2.s, .bool p57.2.bad] 40 (0, 0))] :: H)) (fun w h => h.erase 1) ?_
              refine N_heap (H' := H) (fun w h => h.erase 0) ?_
              refine N_ret [.tmp 2, .tmp 3] [.int .i64 0, .int .i64 30] rfl (by kernel_rfl) rfl ?_
              exact merrR (t := none) (by simp only [mailM, mailH, ← hw0, ← hd, ← hy, ← hs, ← hp19, ← hp26, ← hp29, ← hp40, ← hp41, ← hp43, ← hp44, ← hp49, ← hp57, signB, hc52, cond_false, he58]) rfl
            ·
              refine GH_back (by kernel_rfl) (fun w h => ((((h.front (j := 3) rfl).front (j := 3) rfl).front (j := 3) rfl).erase 3)) ?_
              refine GH_take (E' := [⟨140, [], .int .i64 t59⟩, ⟨139, [], .tuple #[.int .i64 t59, .int .i64 0]⟩, ⟨138, [], .int .i64 (zoneM p57.1)⟩, ⟨137, [], .int .i64 p57.1⟩, ⟨136, [], .slice (some ⟨b56, 0, none⟩) 11 11⟩, ⟨135, [], .pointer (some ⟨b1, 0, none⟩)⟩, ⟨134, [], .agg #[.int .i64 y2, .int .i64 (p26.1 + 1), .int .i64 d1, .int .i64 p41.1, .int .i64 p44.1, .int .i64 s3]⟩, ⟨133, [], .pointer (some ⟨b1, 0, none⟩)⟩, ⟨4, [], .pointer (some ⟨b1, 0, none⟩)⟩, ⟨5, [], .pointer (some ⟨b13, 0, none⟩)⟩, ⟨125, [], .bool ((!(p49.2.s.toList == (ByteArray.mk #[]).toList)) && (((byteAt p49.2.s 0) == 43) || ((byteAt p49.2.s 0) == 45)))⟩]) 7 (by kernel_rfl) (by kernel_rfl) (by kernel_rfl) (by kernel_rfl) (by kernel_rfl) (fun w h => ((((h.front (j := 3) rfl).front (j := 3) rfl).front (j := 3) rfl).erase 3)) ?_ ?_
              ·
                refine GL_pure (E' := [⟨140, [], .int .i64 t59⟩, ⟨139, [], .tuple #[.int .i64 t59, .int .i64 0]⟩, ⟨138, [], .int .i64 (zoneM p57.1)⟩, ⟨137, [], .int .i64 p57.1⟩, ⟨136, [], .slice (some ⟨b56, 0, none⟩) 11 11⟩, ⟨135, [], .pointer (some ⟨b1, 0, none⟩)⟩, ⟨134, [], .agg #[.int .i64 y2, .int .i64 (p26.1 + 1), .int .i64 d1, .int .i64 p41.1, .int .i64 p44.1, .int .i64 s3]⟩, ⟨133, [], .pointer (some ⟨b1, 0, none⟩)⟩, ⟨4, [], .pointer (some ⟨b1, 0, none⟩)⟩, ⟨5, [], .pointer (some ⟨b13, 0, none⟩)⟩, ⟨125, [], .bool ((!(p49.2.s.toList == (ByteArray.mk #[]).toList)) && (((byteAt p49.2.s 0) == 43) || ((byteAt p49.2.s 0) == 45)))⟩]) [0] (by kernel_rfl) (j := 8) rfl ?_
                exact GL_yend (by kernel_rfl) (by kernel_rfl)
              refine GH_take (E' := [⟨141, [], .int .i64 0⟩, ⟨140, [], .int .i64 t59⟩, ⟨139, [], .tuple #[.int .i64 t59, .int .i64 0]⟩, ⟨138, [], .int .i64 (zoneM p57.1)⟩, ⟨137, [], .int .i64 p57.1⟩, ⟨136, [], .slice (some ⟨b56, 0, none⟩) 11 11⟩, ⟨135, [], .pointer (some ⟨b1, 0, none⟩)⟩, ⟨134, [], .agg #[.int .i64 y2, .int .i64 (p26.1 + 1), .int .i64 d1, .int .i64 p41.1, .int .i64 p44.1, .int .i64 s3]⟩, ⟨133, [], .pointer (some ⟨b1, 0, none⟩)⟩, ⟨4, [], .pointer (some ⟨b1, 0, none⟩)⟩, ⟨5, [], .pointer (some ⟨b13, 0, none⟩)⟩, ⟨125, [], .bool ((!(p49.2.s.toList == (ByteArray.mk #[]).toList)) && (((byteAt p49.2.s 0) == 43) || ((byteAt p49.2.s 0) == 45)))⟩]) 8 (by kernel_rfl) (by kernel_rfl) (by kernel_rfl) (by kernel_rfl) (by kernel_rfl) (fun w h => ((((h.front (j := 3) rfl).front (j := 3) rfl).front (j := 3) rfl).erase 3)) ?_ ?_
              ·
                refine GL_pure (E' := [⟨141, [], .int .i64 0⟩, ⟨140, [], .int .i64 t59⟩, ⟨139, [], .tuple #[.int .i64 t59, .int .i64 0]⟩, ⟨138, [], .int .i64 (zoneM p57.1)⟩, ⟨137, [], .int .i64 p57.1⟩, ⟨136, [], .slice (some ⟨b56, 0, none⟩) 11 11⟩, ⟨135, [], .pointer (some ⟨b1, 0, none⟩)⟩, ⟨134, [], .agg #[.int .i64 y2, .int .i64 (p26.1 + 1), .int .i64 d1, .int .i64 p41.1, .int .i64 p44.1, .int .i64 s3]⟩, ⟨133, [], .pointer (some ⟨b1, 0, none⟩)⟩, ⟨4, [], .pointer (some ⟨b1, 0, none⟩)⟩, ⟨5, [], .pointer (some ⟨b13, 0, none⟩)⟩, ⟨125, [], .bool ((!(p49.2.s.toList == (ByteArray.mk #[]).toList)) && (((byteAt p49.2.s 0) == 43) || ((byteAt p49.2.s 0) == 45)))⟩]) [0] (by kernel_rfl) (j := 9) rfl ?_
                exact GL_yend (by kernel_rfl) (by kernel_rfl)
              refine GH_take (E' := [⟨2, [], .int .i64 t59⟩, ⟨141, [], .int .i64 0⟩, ⟨140, [], .int .i64 t59⟩, ⟨139, [], .tuple #[.int .i64 t59, .int .i64 0]⟩, ⟨138, [], .int .i64 (zoneM p57.1)⟩, ⟨137, [], .int .i64 p57.1⟩, ⟨136, [], .slice (some ⟨b56, 0, none⟩) 11 11⟩, ⟨135, [], .pointer (some ⟨b1, 0, none⟩)⟩, ⟨134, [], .agg #[.int .i64 y2, .int .i64 (p26.1 + 1), .int .i64 d1, .int .i64 p41.1, .int .i64 p44.1, .int .i64 s3]⟩, ⟨133, [], .pointer (some ⟨b1, 0, none⟩)⟩, ⟨4, [], .pointer (some ⟨b1, 0, none⟩)⟩, ⟨5, [], .pointer (some ⟨b13, 0, none⟩)⟩, ⟨125, [], .bool ((!(p49.2.s.toList == (ByteArray.mk #[]).toList)) && (((byteAt p49.2.s 0) == 43) || ((byteAt p49.2.s 0) == 45)))⟩]) 9 (by kernel_rfl) (by kernel_rfl) (by kernel_rfl) (by kernel_rfl) (by kernel_rfl) (fun w h => ((((h.front (j := 3) rfl).front (j := 3) rfl).front (j := 3) rfl).erase 3)) ?_ ?_
              ·
                refine GL_pure (E' := [⟨2, [], .int .i64 t59⟩, ⟨141, [], .int .i64 0⟩, ⟨140, [], .int .i64 t59⟩, ⟨139, [], .tuple #[.int .i64 t59, .int .i64 0]⟩, ⟨138, [], .int .i64 (zoneM p57.1)⟩, ⟨137, [], .int .i64 p57.1⟩, ⟨136, [], .slice (some ⟨b56, 0, none⟩) 11 11⟩, ⟨135, [], .pointer (some ⟨b1, 0, none⟩)⟩, ⟨134, [], .agg #[.int .i64 y2, .int .i64 (p26.1 + 1), .int .i64 d1, .int .i64 p41.1, .int .i64 p44.1, .int .i64 s3]⟩, ⟨133, [], .pointer (some ⟨b1, 0, none⟩)⟩, ⟨4, [], .pointer (some ⟨b1, 0, none⟩)⟩, ⟨5, [], .pointer (some ⟨b13, 0, none⟩)⟩, ⟨125, [], .bool ((!(p49.2.s.toList == (ByteArray.mk #[]).toList)) && (((byteAt p49.2.s 0) == 43) || ((byteAt p49.2.s 0) == 45)))⟩]) [0] (by kernel_rfl) (j := 10) rfl ?_
                exact GL_yend (by kernel_rfl) (by kernel_rfl)
              refine GH_take (E' := [⟨3, [], .int .i64 0⟩, ⟨2, [], .int .i64 t59⟩, ⟨141, [], .int .i64 0⟩, ⟨140, [], .int .i64 t59⟩, ⟨139, [], .tuple #[.int .i64 t59, .int .i64 0]⟩, ⟨138, [], .int .i64 (zoneM p57.1)⟩, ⟨137, [], .int .i64 p57.1⟩, ⟨136, [], .slice (some ⟨b56, 0, none⟩) 11 11⟩, ⟨135, [], .pointer (some ⟨b1, 0, none⟩)⟩, ⟨134, [], .agg #[.int .i64 y2, .int .i64 (p26.1 + 1), .int .i64 d1, .int .i64 p41.1, .int .i64 p44.1, .int .i64 s3]⟩, ⟨133, [], .pointer (some ⟨b1, 0, none⟩)⟩, ⟨4, [], .pointer (some ⟨b1, 0, none⟩)⟩, ⟨5, [], .pointer (some ⟨b13, 0, none⟩)⟩, ⟨125, [], .bool ((!(p49.2.s.toList == (ByteArray.mk #[]).toList)) && (((byteAt p49.2.s 0) == 43) || ((byteAt p49.2.s 0) == 45)))⟩]) 10 (by kernel_rfl) (by kernel_rfl) (by kernel_rfl) (by kernel_rfl) (by kernel_rfl) (fun w h => ((((h.front (j := 3) rfl).front (j := 3) rfl).front (j := 3) rfl).erase 3)) ?_ ?_
              ·
                refine GL_pure (E' := [⟨3, [], .int .i64 0⟩, ⟨2, [], .int .i64 t59⟩, ⟨141, [], .int .i64 0⟩, ⟨140, [], .int .i64 t59⟩, ⟨139, [], .tuple #[.int .i64 t59, .int .i64 0]⟩, ⟨138, [], .int .i64 (zoneM p57.1)⟩, ⟨137, [], .int .i64 p57.1⟩, ⟨136, [], .slice (some ⟨b56, 0, none⟩) 11 11⟩, ⟨135, [], .pointer (some ⟨b1, 0, none⟩)⟩, ⟨134, [], .agg #[.int .i64 y2, .int .i64 (p26.1 + 1), .int .i64 d1, .int .i64 p41.1, .int .i64 p44.1, .int .i64 s3]⟩, ⟨133, [], .pointer (some ⟨b1, 0, none⟩)⟩, ⟨4, [], .pointer (some ⟨b1, 0, none⟩)⟩, ⟨5, [], .pointer (some ⟨b13, 0, none⟩)⟩, ⟨125, [], .bool ((!(p49.2.s.toList == (ByteArray.mk #[]).toList)) && (((byteAt p49.2.s 0) == 43) || ((byteAt p49.2.s 0) == 45)))⟩]) [0] (by kernel_rfl) (j := 11) rfl ?_
                exact GL_yend (by kernel_rfl) (by kernel_rfl)
              refine GH_done (E' := [⟨2, [], .int .i64 t59⟩, ⟨3, [], .int .i64 0⟩]) [2, 3] (by kernel_rfl) (by kernel_rfl) ?_
              refine N_then ?_
              refine G_ret ?_
              refine N_heap (H' := ([(b1, .cells #[.string p57.2.s, .bool p57.2.bad] 40 (0, 0))] :: [(b56, .cells #[.string (ByteArray.mk #[71, 77, 84]), .string (ByteArray.mk #[85, 84]), .string (ByteArray.mk #[90]), .string (ByteArray.mk #[69, 83, 84]), .string (ByteArray.mk #[69, 68, 84]), .string (ByteArray.mk #[67, 83, 84]), .string (ByteArray.mk #[67, 68, 84]), .string (ByteArray.mk #[77, 83, 84]), .string (ByteArray.mk #[77, 68, 84]), .string (ByteArray.mk #[80, 83, 84]), .string (ByteArray.mk #[80, 68, 84])] 9 (0, 0))] :: [(b48, .cells #[.string (ByteArray.mk #[32])] 9 (0, 0))] :: H)) (fun w h => h.erase 3) ?_
              refine N_heap (H' := ([(b1, .cells #[.string p57.2.s, .bool p57.2.bad] 40 (0, 0))] :: [(b56, .cells #[.string (ByteArray.mk #[71, 77, 84]), .string (ByteArray.mk #[85, 84]), .string (ByteArray.mk #[90]), .string (ByteArray.mk #[69, 83, 84]), .string (ByteArray.mk #[69, 68, 84]), .string (ByteArray.mk #[67, 83, 84]), .string (ByteArray.mk #[67, 68, 84]), .string (ByteArray.mk #[77, 83, 84]), .string (ByteArray.mk #[77, 68, 84]), .string (ByteArray.mk #[80, 83, 84]), .string (ByteArray.mk #[80, 68, 84])] 9 (0, 0))] :: H)) (fun w h => h.erase 2) ?_
              refine N_heap (H' := ([(b1, .cells #[.string p57.2.s, .bool p57.2.bad] 40 (0, 0))] :: H)) (fun w h => h.erase 1) ?_
              refine N_heap (H' := H) (fun w h => h.erase 0) ?_
              refine N_ret [.tmp 2, .tmp 3] [.int .i64 t59, .int .i64 0] rfl (by kernel_rfl) rfl ?_
              exact merrR (t := (some t59)) (by simp only [mailM, mailH, ← hw0, ← hd, ← hy, ← hs, ← hp19, ← hp26, ← hp29, ← hp40, ← hp41, ← hp43, ← hp44, ← hp49, ← hp57, signB, hc52, cond_false, he58]) rfl

end Go.Proofs.YtlglmomimhbeaaaGreatDoor
