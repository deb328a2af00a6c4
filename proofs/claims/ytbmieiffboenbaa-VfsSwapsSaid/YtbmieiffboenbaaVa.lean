/- Walks of the plain functions of layer 6 on texts. No condition but the texts' length. -/
import Derived.Test.YtbmieiffboenbaaLib
import Derived.Test.YtbmieiffboenbaaRows
import Derived.Lib.Strings
namespace Go.Proofs.Ytbmieiffboenbaa
open Go.Sw Go.Lib

def pbyte (c : Int) : Bool := (97 ≤ c && c ≤ 122) || (65 ≤ c && c ≤ 90) || (48 ≤ c && c ≤ 57) || c == 45 || c == 95 || c == 46
/-- the bytes before k may stand in a part -/
def pall (s : ByteArray) (k : Nat) : Prop := ∀ j : Nat, j < k → pbyte (byteAt s j) = true
def pallB (s : ByteArray) : Bool := (List.range s.size).all fun j => pbyte (byteAt s j)
def partB (s : ByteArray) : Bool := pallB s && !(s.toList == (ByteArray.mk #[]).toList) && decide ((s.size : Int) ≤ 80) && !(s.toList == (ByteArray.mk #[46]).toList) && !(s.toList == (ByteArray.mk #[46, 46]).toList)
theorem pall_zero {s : ByteArray} : pall s 0 := fun j h => absurd h (Nat.not_lt_zero j)
theorem pall_succ {s : ByteArray} {k : Nat} (h : pall s k) (hk : pbyte (byteAt s k) = true) : pall s (k + 1) := fun j hj => by
  rcases Nat.lt_or_ge j k with h' | h'
  · exact h j h'
  · have : j = k := by omega
    subst this; exact hk
theorem pallB_true {s : ByteArray} {k : Nat} (h : pall s k) (hk : s.size ≤ k) : pallB s = true := by
  unfold pallB
  rw [List.all_eq_true]
  intro j hj
  exact h j (by have := List.mem_range.1 hj; omega)
theorem pallB_false {s : ByteArray} {k : Nat} (hk : k < s.size) (hb : pbyte (byteAt s k) = false) : pallB s = false := by
  unfold pallB
  rw [← Bool.not_eq_true, List.all_eq_true]
  intro h
  rw [h k (List.mem_range.2 hk)] at hb
  simp at hb
theorem pbyte_of {c : Int} {b : Bool} (h : b = pbyte c) : b = pbyte c := h
/-- the first slash -/
def slash (s : ByteArray) : Int := bIdx s 47
def rightB (s : ByteArray) : Bool := if slash s < 0 then partB s else partB (s.extract 0 (slash s).toNat) && partB (s.extract ((slash s).toNat + 1) s.size)
theorem slash_facts {s : ByteArray} (h : ¬ slash s < 0) : (slash s).toNat < s.size ∧ (s.extract 0 (slash s).toNat).size = (slash s).toNat ∧ (s.extract ((slash s).toNat + 1) s.size).size + ((slash s).toNat + 1) = s.size := by
  rcases bIdx_spec s (c := 47) (by omega) (by omega) with ⟨k, hk, he, _, _⟩ | ⟨he, _⟩
  · have : slash s = k := he
    rw [this]
    simp only [ByteArray.size_extract, Int.toNat_natCast]
    omega
  · exact absurd (show slash s < 0 by rw [slash, he]; omega) h
theorem three_idx {c : Int} (h0 : 0 ≤ c) (h1 : c < 256) : decide (bIdx (ByteArray.mk #[45, 95, 46]) c ≥ 0) = (c == 45 || c == 95 || c == 46) := by
  rcases bIdx_spec (ByteArray.mk #[45, 95, 46]) h0 h1 with ⟨k, hk, he, hb, _⟩ | ⟨he, hn⟩
  · rw [he]
    have hk3 : k < 3 := hk
    have : k = 0 ∨ k = 1 ∨ k = 2 := by omega
    rcases this with rfl | rfl | rfl
    · have : c = 45 := hb.symm
      subst this; rfl
    · have : c = 95 := hb.symm
      subst this; rfl
    · have : c = 46 := hb.symm
      subst this; rfl
  · rw [he]
    have h45 : ¬ c = 45 := fun h => hn 0 (by decide) h.symm
    have h95 : ¬ c = 95 := fun h => hn 1 (by decide) h.symm
    have h46 : ¬ c = 46 := fun h => hn 2 (by decide) h.symm
    simp [h45, h95, h46]
theorem len_toList (s : ByteArray) : s.toList.length = s.size := by rw [toList_data, Array.length_toList]; rfl
theorem nil_toList {s : ByteArray} : s.toList = [] ↔ s.size = 0 := by rw [← len_toList, List.length_eq_zero_iff]
theorem part_no {s : ByteArray} (h : ((((decide ((s.size : Int) < 1)) || (decide ((s.size : Int) > 80))) || (s.toList == (ByteArray.mk #[46]).toList)) || (s.toList == (ByteArray.mk #[46, 46]).toList)) = true) : partB s = false := by
  have e := nil_toList (s := s)
  simp only [partB, Bool.or_eq_true, decide_eq_true_eq, beq_iff_eq] at h ⊢
  rcases h with ((h | h) | h) | h
  · have : s.toList = [] := e.2 (by omega)
    simp [this]
  · have : ¬ (s.size : Int) ≤ 80 := by omega
    simp [this]
  · simp [h]
  · simp [h]
theorem part_yes {s : ByteArray} (h : ((((decide ((s.size : Int) < 1)) || (decide ((s.size : Int) > 80))) || (s.toList == (ByteArray.mk #[46]).toList)) || (s.toList == (ByteArray.mk #[46, 46]).toList)) = false) : partB s = pallB s := by
  have e := nil_toList (s := s)
  simp only [Bool.or_eq_false_iff, decide_eq_false_iff_not] at h
  obtain ⟨⟨⟨h1, h2⟩, h3⟩, h4⟩ := h
  have h5 : (s.toList == (ByteArray.mk #[]).toList) = false := by
    rw [beq_eq_false_iff_ne]; intro h; have := e.1 (by simpa using h); omega
  have h6 : decide ((s.size : Int) ≤ 80) = true := by simp; omega
  simp only [partB, h3, h4, h5, h6, Bool.not_false, Bool.and_true]
theorem slash_or (s : ByteArray) : slash s < 0 ∨ (slash s).toNat < s.size := by
  rcases Int.lt_or_le (slash s) 0 with h | h
  · exact .inl h
  · exact .inr (slash_facts (by omega)).1
theorem slash_one {s : ByteArray} (h : (ByteArray.mk #[47]).toList = s.toList) : slash s = 0 := by
  have : s = ByteArray.mk #[47] := by
    rw [toList_data, toList_data] at h
    cases s with | mk d => cases d with | mk l => simp at h; rw [← h]
  rw [this]; rfl
def dirB (s : ByteArray) : ByteArray := if slash s < 0 then ByteArray.mk #[] else s.extract 0 (slash s).toNat

theorem sliteIndexByte (s : ByteArray) (c : Int) (W0 : World) (H : List Grp) : Tri Try.prog 67 #[.string s, .int .u8 c] W0 H (fun v H' => v = .int .i64 (bIdx s c) ∧ H' = H) := by
  refine Tri_of (args := [.string s, .int .u8 c]) (n := 8) Try.func67 rfl rfl (Nat.le_of_ble_eq_true rfl) ?_
  refine G_seq ?_
  refine G_pure (E' := [⟨0, [], .string s⟩, ⟨1, [], .int .u8 c⟩]) [0] [0, 1] rfl (by kernel_rfl) ?_
  refine N_then ?_
  refine G_seq ?_
  refine G_region ?_
  refine GL_pure (E' := [⟨6, [], .int .u8 c⟩, ⟨5, [], .string s⟩, ⟨0, [], .string s⟩, ⟨1, [], .int .u8 c⟩]) [0, 0] (by kernel_rfl) (j := 2) rfl ?_
  refine GL_extern (i := 2) (ch := []) (f := 84) (vs := [.string s, .int .u8 c]) (v := .int .i64 (bIdx s c)) (e := Extern.BytealgIndexByte.indexByte) rfl rfl rfl (by kernel_rfl) (by kernel_rfl) Try.func84 (by kernel_rfl) rfl (by kernel_rfl) (by kernel_rfl) (by kernel_rfl) (by kernel_rfl) (by kernel_rfl) (fun w => run_indexByte_string s c w) ?_
  refine GL_fin (E' := [⟨4, [], .int .i64 (bIdx s c)⟩]) [0] [4] rfl (by kernel_rfl) ?_
  refine N_then ?_
  refine G_ret ?_
  refine N_ret [.tmp 4] [.int .i64 (bIdx s c)] rfl (by kernel_rfl) rfl ?_
  exact ⟨rfl, rfl⟩

theorem stringsIndexByte (s : ByteArray) (c : Int) (W0 : World) (H : List Grp) : Tri Try.prog 57 #[.string s, .int .u8 c] W0 H (fun v H' => v = .int .i64 (bIdx s c) ∧ H' = H) := by
  refine Tri_of (args := [.string s, .int .u8 c]) (n := 8) Try.func57 rfl rfl (Nat.le_of_ble_eq_true rfl) ?_
  refine G_seq ?_
  refine G_pure (E' := [⟨0, [], .string s⟩, ⟨1, [], .int .u8 c⟩]) [0] [0, 1] rfl (by kernel_rfl) ?_
  refine N_then ?_
  refine G_seq ?_
  refine G_region ?_
  refine GL_pure (E' := [⟨6, [], .int .u8 c⟩, ⟨5, [], .string s⟩, ⟨0, [], .string s⟩, ⟨1, [], .int .u8 c⟩]) [0, 0] (by kernel_rfl) (j := 2) rfl ?_
  refine GL_callQ (i := 2) (ch := []) (f := 67) (fst := #[]) (caps := #[]) (vs := [.string s, .int .u8 c]) (v := .int .i64 (bIdx s c)) rfl rfl rfl (by kernel_rfl) (by kernel_rfl) Try.func67 rfl rfl (by kernel_rfl) (by kernel_rfl) (by kernel_rfl) (fun _ => sliteIndexByte _ _ _ _) ?_
  refine GL_fin (E' := [⟨4, [], .int .i64 (bIdx s c)⟩]) [0] [4] rfl (by kernel_rfl) ?_
  refine N_then ?_
  refine G_ret ?_
  refine N_ret [.tmp 4] [.int .i64 (bIdx s c)] rfl (by kernel_rfl) rfl ?_
  exact ⟨rfl, rfl⟩

theorem refPart (s : ByteArray) (hs : s.size ≤ 9223372036854775807) (W0 : World) (H : List Grp) : Tri Try.prog 33 #[.string s] W0 H (fun v H' => v = .bool (partB s) ∧ H' = H) := by
  refine Tri_of (args := [.string s]) (n := 64) Try.func33 rfl rfl (Nat.le_of_ble_eq_true rfl) ?_
  refine G_seq ?_
  refine G_pure (E' := [⟨0, [], .string s⟩]) [0] [0] rfl (by kernel_rfl) ?_
  refine N_then ?_
  refine G_seq ?_
  refine G_seq ?_
  refine G_pure (E' := [⟨0, [], .string s⟩, ⟨3, [], .int .i64 0⟩]) [0] [0, 3] rfl (by kernel_rfl) ?_
  refine N_then ?_
  refine G_block ?_
  refine G_loop (EI := (fun ξ : Nat => [⟨0, [], .string s⟩, ⟨3, [], .int .i64 ((ξ : Nat) : Int)⟩])) (HI := (fun ξ : Nat => H)) (Φ := (fun ξ : Nat => (ξ ≤ s.size) ∧ (pall s ξ))) (μ := (fun ξ : Nat => s.size - ξ)) (s0 := (0)) [0, 3] (by kernel_rfl) rfl ⟨(by omega), pall_zero⟩ ?_
  rintro k ⟨hk, hp⟩
  refine G_seq ?_
  refine G_seq ?_
  refine G_pure (E' := [⟨0, [], .string s⟩, ⟨3, [], .int .i64 ((k : Nat) : Int)⟩, ⟨8, [], .bool (decide (((k : Nat) : Int) < (s.size : Int)))⟩]) [0, 0, 0, 0] [0, 3, 8] rfl (by kernel_rfl) ?_
  refine N_then ?_
  refine G_cond (b := decide (((k : Nat) : Int) < (s.size : Int))) (by kernel_rfl) (fun hc1 => ?_) (fun hc1 => ?_)
  ·
    simp at hc1
    refine G_skip ?_
    refine N_then ?_
    refine G_seq ?_
    refine G_block ?_
    refine G_seq ?_
    refine G_region ?_
    refine GL_pure (E' := [⟨12, [], .int .i64 ((k : Nat) : Int)⟩, ⟨11, [], .string s⟩, ⟨0, [], .string s⟩, ⟨3, [], .int .i64 ((k : Nat) : Int)⟩, ⟨8, [], .bool (decide (((k : Nat) : Int) < (s.size : Int)))⟩]) [0, 0] (by kernel_rfl) (j := 2) rfl ?_
    refine GL_index (i := 2) (ch := []) (s := s) (kd := .i64) (j := ((k : Nat) : Int)) rfl rfl (by kernel_rfl) (by kernel_rfl) (by kernel_rfl) (by kernel_rfl) (by kernel_rfl) (by kernel_rfl) (fun _ => by omega) ?_
    have hb2 := byteAt_rng s ((k : Nat) : Int)
    refine GL_fin (E' := [⟨0, [], .string s⟩, ⟨3, [], .int .i64 ((k : Nat) : Int)⟩, ⟨4, [], .int .u8 (byteAt s ((k : Nat) : Int))⟩]) [0] [0, 3, 4] rfl (by kernel_rfl) ?_
    refine N_then ?_
    refine G_seq ?_
    refine G_pure (E' := [⟨0, [], .string s⟩, ⟨3, [], .int .i64 ((k : Nat) : Int)⟩, ⟨48, [], .bool (!(((((((decide ((byteAt s ((k : Nat) : Int)) ≥ 97)) && (decide ((byteAt s ((k : Nat) : Int)) ≤ 122))) || ((decide ((byteAt s ((k : Nat) : Int)) ≥ 65)) && (decide ((byteAt s ((k : Nat) : Int)) ≤ 90)))) || ((decide ((byteAt s ((k : Nat) : Int)) ≥ 48)) && (decide ((byteAt s ((k : Nat) : Int)) ≤ 57)))) || ((byteAt s ((k : Nat) : Int)) == 45)) || ((byteAt s ((k : Nat) : Int)) == 95)) || ((byteAt s ((k : Nat) : Int)) == 46)))⟩]) [0, 0, 0, 0, 0, 6, 0, 0, 0, 0, 0, 0, 6, 5, 0, 0, 0, 0, 0, 0, 6, 5, 0, 0, 0, 5, 0, 0, 0, 5, 0, 0, 0, 5, 0] [0, 3, 48] rfl (by kernel_rfl) ?_
    refine N_then ?_
    refine G_cond (b := !(((((((decide ((byteAt s ((k : Nat) : Int)) ≥ 97)) && (decide ((byteAt s ((k : Nat) : Int)) ≤ 122))) || ((decide ((byteAt s ((k : Nat) : Int)) ≥ 65)) && (decide ((byteAt s ((k : Nat) : Int)) ≤ 90)))) || ((decide ((byteAt s ((k : Nat) : Int)) ≥ 48)) && (decide ((byteAt s ((k : Nat) : Int)) ≤ 57)))) || ((byteAt s ((k : Nat) : Int)) == 45)) || ((byteAt s ((k : Nat) : Int)) == 95)) || ((byteAt s ((k : Nat) : Int)) == 46))) (by kernel_rfl) (fun hc3 => ?_) (fun hc3 => ?_)
    ·
      have hpb : pbyte (byteAt s k) = false := by (simp only [pbyte]; revert hc3; simp; omega)
      refine G_seq ?_
      refine G_pure (E' := [⟨2, [], .bool false⟩]) [0] [2] rfl (by kernel_rfl) ?_
      refine N_then ?_
      refine G_ret ?_
      refine N_block_ret ?_
      refine N_then_ret ?_
      refine N_then_ret ?_
      refine N_block_ret ?_
      refine N_then_ret ?_
      refine N_ret [.tmp 2] [.bool false] rfl (by kernel_rfl) rfl ?_
      exact ⟨by simp [packV, partB, pallB_false hc1 hpb], rfl⟩
    ·
      have hpb : pbyte (byteAt s k) = true := by (simp only [pbyte]; revert hc3; simp; omega)
      refine G_skip ?_
      refine N_block ?_
      refine N_then ?_
      have hw4 : IntKind.wrap .i64 (((k : Nat) : Int) + 1) = ((k : Nat) : Int) + 1 := w64 (by omega) (by omega)
      refine G_pure (E' := [⟨0, [], .string s⟩, ⟨3, [], .int .i64 (((k : Nat) : Int) + 1)⟩]) [0, 0, 0] [0, 3] rfl (Eq.trans (b := some [⟨0, [], .string s⟩, ⟨3, [], .int .i64 (IntKind.wrap .i64 (((k : Nat) : Int) + 1))⟩]) (by kernel_rfl) (by simp only [hw4])) ?_
      refine N_round (s' := (k + 1)) [0, 3] (by kernel_rfl) rfl ⟨(by omega), (pall_succ hp hpb)⟩ (by omega)
  ·
    simp at hc1
    refine G_exit ?_
    refine N_then_exit ?_
    refine N_then_exit ?_
    refine N_block_exit ?_
    refine N_then ?_
    refine G_seq ?_
    refine G_pure (E' := [⟨2, [], .bool ((((!(s.toList == (ByteArray.mk #[]).toList)) && (decide ((s.size : Int) ≤ 80))) && (!(s.toList == (ByteArray.mk #[46]).toList))) && (!(s.toList == (ByteArray.mk #[46, 46]).toList)))⟩]) [0, 0, 0, 0, 0, 0, 6, 0, 0, 0, 6, 0, 0, 0, 6, 0] [2] rfl (by kernel_rfl) ?_
    refine N_then ?_
    refine G_ret ?_
    refine N_ret [.tmp 2] [.bool ((((!(s.toList == (ByteArray.mk #[]).toList)) && (decide ((s.size : Int) ≤ 80))) && (!(s.toList == (ByteArray.mk #[46]).toList))) && (!(s.toList == (ByteArray.mk #[46, 46]).toList)))] rfl (by kernel_rfl) rfl ?_
    exact ⟨by simp [packV, partB, pallB_true hp hc1], rfl⟩

theorem refSplit (s : ByteArray) (hs : s.size ≤ 9223372036854775807) (W0 : World) (H : List Grp) : Tri Try.prog 28 #[.string s] W0 H (fun v H' => v = .tuple (if slash s < 0 then #[.string (ByteArray.mk #[]), .string s] else #[.string (s.extract 0 (slash s).toNat), .string (s.extract ((slash s).toNat + 1) s.size)]) ∧ H' = H) := by
  refine Tri_of (args := [.string s]) (n := 23) Try.func28 rfl rfl (Nat.le_of_ble_eq_true rfl) ?_
  refine G_seq ?_
  refine G_pure (E' := [⟨0, [], .string s⟩]) [0, 0] [0] rfl (by kernel_rfl) ?_
  refine N_then ?_
  refine G_seq ?_
  refine G_seq ?_
  refine G_pure (E' := [⟨0, [], .string s⟩, ⟨4, [], .int .i64 0⟩]) [0] [0, 4] rfl (by kernel_rfl) ?_
  refine N_then ?_
  refine G_block ?_
  refine G_loop (EI := (fun ξ : Nat => [⟨0, [], .string s⟩, ⟨4, [], .int .i64 ((ξ : Nat) : Int)⟩])) (HI := (fun ξ : Nat => H)) (Φ := (fun ξ : Nat => (ξ ≤ s.size) ∧ (noB s 47 ξ))) (μ := (fun ξ : Nat => s.size - ξ)) (s0 := (0)) [0, 4] (by kernel_rfl) rfl ⟨(by omega), noB_zero⟩ ?_
  rintro k ⟨hk, hn⟩
  refine G_seq ?_
  refine G_seq ?_
  refine G_pure (E' := [⟨0, [], .string s⟩, ⟨4, [], .int .i64 ((k : Nat) : Int)⟩, ⟨8, [], .bool (decide (((k : Nat) : Int) < (s.size : Int)))⟩]) [0, 0, 0, 0] [0, 4, 8] rfl (by kernel_rfl) ?_
  refine N_then ?_
  refine G_cond (b := decide (((k : Nat) : Int) < (s.size : Int))) (by kernel_rfl) (fun hc1 => ?_) (fun hc1 => ?_)
  ·
    simp at hc1
    refine G_skip ?_
    refine N_then ?_
    refine G_seq ?_
    refine G_block ?_
    refine G_seq ?_
    refine G_region ?_
    refine GL_pure (E' := [⟨12, [], .int .i64 ((k : Nat) : Int)⟩, ⟨11, [], .string s⟩, ⟨0, [], .string s⟩, ⟨4, [], .int .i64 ((k : Nat) : Int)⟩, ⟨8, [], .bool (decide (((k : Nat) : Int) < (s.size : Int)))⟩]) [0, 0] (by kernel_rfl) (j := 2) rfl ?_
    refine GL_index (i := 2) (ch := []) (s := s) (kd := .i64) (j := ((k : Nat) : Int)) rfl rfl (by kernel_rfl) (by kernel_rfl) (by kernel_rfl) (by kernel_rfl) (by kernel_rfl) (by kernel_rfl) (fun _ => by omega) ?_
    have hb2 := byteAt_rng s ((k : Nat) : Int)
    refine GL_fin (E' := [⟨0, [], .string s⟩, ⟨4, [], .int .i64 ((k : Nat) : Int)⟩, ⟨14, [], .bool ((byteAt s ((k : Nat) : Int)) == 47)⟩]) [0] [0, 4, 14] rfl (by kernel_rfl) ?_
    refine N_then ?_
    refine G_cond (b := (byteAt s ((k : Nat) : Int)) == 47) (by kernel_rfl) (fun hc3 => ?_) (fun hc3 => ?_)
    ·
      simp at hc3
      refine G_seq ?_
      refine G_regionD (by kernel_rfl) (by kernel_rfl) ?_
      refine GL_pure (E' := [⟨16, [], .int .i64 ((k : Nat) : Int)⟩, ⟨15, [], .string s⟩, ⟨0, [], .string s⟩, ⟨4, [], .int .i64 ((k : Nat) : Int)⟩, ⟨14, [], .bool ((byteAt s ((k : Nat) : Int)) == 47)⟩]) [0, 0] (by kernel_rfl) (j := 2) rfl ?_
      refine GL_sliceS (i := 2) (ch := []) (s := s) (vl := none) (vh := (some (.int .i64 ((k : Nat) : Int)))) (l := 0) (h := ((k : Nat) : Int)) rfl rfl (by kernel_rfl) (by kernel_rfl) (by kernel_rfl) (by kernel_rfl) (by kernel_rfl) (by kernel_rfl) (by kernel_rfl) (by kernel_rfl) (by kernel_rfl) (fun _ => by omega) ?_
      have hw4 : IntKind.wrap .i64 (((k : Nat) : Int) + 1) = ((k : Nat) : Int) + 1 := w64 (by omega) (by omega)
      refine GL_pure (E' := [⟨20, [], .int .i64 (((k : Nat) : Int) + 1)⟩, ⟨19, [], .int .i64 ((k : Nat) : Int)⟩, ⟨18, [], .string s⟩, ⟨17, [], .string (s.extract 0 k)⟩, ⟨16, [], .int .i64 ((k : Nat) : Int)⟩, ⟨15, [], .string s⟩, ⟨0, [], .string s⟩, ⟨4, [], .int .i64 ((k : Nat) : Int)⟩, ⟨14, [], .bool ((byteAt s ((k : Nat) : Int)) == 47)⟩]) [0, 0, 0] (Eq.trans (b := some [⟨20, [], .int .i64 (IntKind.wrap .i64 (((k : Nat) : Int) + 1))⟩, ⟨19, [], .int .i64 ((k : Nat) : Int)⟩, ⟨18, [], .string s⟩, ⟨17, [], .string (s.extract 0 k)⟩, ⟨16, [], .int .i64 ((k : Nat) : Int)⟩, ⟨15, [], .string s⟩, ⟨0, [], .string s⟩, ⟨4, [], .int .i64 ((k : Nat) : Int)⟩, ⟨14, [], .bool ((byteAt s ((k : Nat) : Int)) == 47)⟩]) (by kernel_rfl) (by simp only [hw4])) (j := 6) rfl ?_
      refine GL_sliceS (i := 6) (ch := []) (s := s) (vl := (some (.int .i64 (((k : Nat) : Int) + 1)))) (vh := none) (l := ((k : Nat) : Int) + 1) (h := (s.size : Int)) rfl rfl (by kernel_rfl) (by kernel_rfl) (by kernel_rfl) (by kernel_rfl) (by kernel_rfl) (by kernel_rfl) (by kernel_rfl) (by kernel_rfl) (by kernel_rfl) (fun _ => by omega) ?_
      refine GL_fin (E' := [⟨2, [], .string (s.extract 0 k)⟩, ⟨3, [], .string (s.extract (Int.toNat (((k : Nat) : Int) + 1)) s.size)⟩]) [0, 0] [2, 3] rfl (by kernel_rfl) ?_
      refine N_then ?_
      refine G_ret ?_
      refine N_block_ret ?_
      refine N_then_ret ?_
      refine N_then_ret ?_
      refine N_block_ret ?_
      refine N_then_ret ?_
      refine N_ret [.tmp 2, .tmp 3] [.string (s.extract 0 k), .string (s.extract (Int.toNat (((k : Nat) : Int) + 1)) s.size)] rfl (by kernel_rfl) rfl ?_
      have e := bIdx_eq (by omega) (by omega) hc1 hc3 hn
      refine ⟨?_, rfl⟩
      rw [if_neg (by rw [slash, e]; omega), slash, e]
      rfl
    ·
      simp at hc3
      refine G_skip ?_
      refine N_block ?_
      refine N_then ?_
      have hw5 : IntKind.wrap .i64 (((k : Nat) : Int) + 1) = ((k : Nat) : Int) + 1 := w64 (by omega) (by omega)
      refine G_pure (E' := [⟨0, [], .string s⟩, ⟨4, [], .int .i64 (((k : Nat) : Int) + 1)⟩]) [0, 0, 0] [0, 4] rfl (Eq.trans (b := some [⟨0, [], .string s⟩, ⟨4, [], .int .i64 (IntKind.wrap .i64 (((k : Nat) : Int) + 1))⟩]) (by kernel_rfl) (by simp only [hw5])) ?_
      refine N_round (s' := (k + 1)) [0, 4] (by kernel_rfl) rfl ⟨(by omega), (noB_succ hn hc3)⟩ (by omega)
  ·
    simp at hc1
    refine G_exit ?_
    refine N_then_exit ?_
    refine N_then_exit ?_
    refine N_block_exit ?_
    refine N_then ?_
    refine G_seq ?_
    refine G_pure (E' := [⟨2, [], .string (ByteArray.mk #[])⟩, ⟨3, [], .string s⟩]) [0, 0, 0] [2, 3] rfl (by kernel_rfl) ?_
    refine N_then ?_
    refine G_ret ?_
    refine N_ret [.tmp 2, .tmp 3] [.string (ByteArray.mk #[]), .string s] rfl (by kernel_rfl) rfl ?_
    have e := bIdx_none (by omega) (by omega) (fun j hj => hn j (by omega))
    refine ⟨?_, rfl⟩
    rw [if_pos (by rw [slash, e]; omega)]
    rfl

theorem refDir (p : ByteArray) (hp : p.size ≤ 9223372036854775807) (W0 : World) (H : List Grp) : Tri Try.prog 55 #[.string p] W0 H (fun v H' => v = .string (dirB p) ∧ H' = H) := by
  refine Tri_of (args := [.string p]) (n := 11) Try.func55 rfl rfl (Nat.le_of_ble_eq_true rfl) ?_
  refine G_seq ?_
  refine G_pure (E' := [⟨0, [], .string p⟩]) [0] [0] rfl (by kernel_rfl) ?_
  refine N_then ?_
  refine G_seq ?_
  refine G_region ?_
  refine GL_pure (E' := [⟨6, [], .string p⟩, ⟨0, [], .string p⟩]) [0] (by kernel_rfl) (j := 1) rfl ?_
  refine GL_call (i := 1) (ch := []) (f := 28) (fst := #[]) (caps := #[]) (vs := [.string p]) rfl rfl rfl (by kernel_rfl) (by kernel_rfl) Try.func28 rfl rfl (by kernel_rfl) (by kernel_rfl) (chSure_of (by kernel_rfl)) (refSplit _ hp _ _) ?_
  rintro v H' ⟨rfl, rfl⟩
  by_cases hs1 : slash p < 0
  ·
    rw [if_pos hs1]
    refine GL_fin (E' := [⟨3, [], .string (ByteArray.mk #[])⟩]) [0, 0, 0, 0, 0] [3] rfl (by kernel_rfl) ?_
    refine N_then ?_
    refine G_seq ?_
    refine G_pure (E' := [⟨2, [], .string (ByteArray.mk #[])⟩]) [0, 0] [2] rfl (by kernel_rfl) ?_
    refine N_then ?_
    refine G_ret ?_
    refine N_ret [.tmp 2] [.string (ByteArray.mk #[])] rfl (by kernel_rfl) rfl ?_
    exact ⟨by simp [packV, dirB, hs1], rfl⟩
  ·
    rw [if_neg hs1]
    obtain ⟨hs1a, hs1b, hs1c⟩ := slash_facts hs1
    refine GL_fin (E' := [⟨3, [], .string (p.extract 0 (slash p).toNat)⟩]) [0, 0, 0, 0, 0] [3] rfl (by kernel_rfl) ?_
    refine N_then ?_
    refine G_seq ?_
    refine G_pure (E' := [⟨2, [], .string (p.extract 0 (slash p).toNat)⟩]) [0, 0] [2] rfl (by kernel_rfl) ?_
    refine N_then ?_
    refine G_ret ?_
    refine N_ret [.tmp 2] [.string (p.extract 0 (slash p).toNat)] rfl (by kernel_rfl) rfl ?_
    exact ⟨by simp [packV, dirB, hs1], rfl⟩

theorem refRight (p : ByteArray) (hp : p.size ≤ 9223372036854775807) (W0 : World) (H : List Grp) : Tri Try.prog 11 #[.string p] W0 H (fun v H' => v = .bool (rightB p) ∧ H' = H) := by
  refine Tri_of (args := [.string p]) (n := 26) Try.func11 rfl rfl (Nat.le_of_ble_eq_true rfl) ?_
  refine G_seq ?_
  refine G_pure (E' := [⟨0, [], .string p⟩]) [0] [0] rfl (by kernel_rfl) ?_
  refine N_then ?_
  refine G_seq ?_
  refine G_region ?_
  refine GL_pure (E' := [⟨6, [], .string p⟩, ⟨0, [], .string p⟩]) [0] (by kernel_rfl) (j := 1) rfl ?_
  refine GL_call (i := 1) (ch := []) (f := 28) (fst := #[]) (caps := #[]) (vs := [.string p]) rfl rfl rfl (by kernel_rfl) (by kernel_rfl) Try.func28 rfl rfl (by kernel_rfl) (by kernel_rfl) (chSure_of (by kernel_rfl)) (refSplit _ hp _ _) ?_
  rintro v H' ⟨rfl, rfl⟩
  by_cases hs1 : slash p < 0
  ·
    rw [if_pos hs1]
    refine GL_fin (E' := [⟨0, [], .string p⟩, ⟨3, [], .string (ByteArray.mk #[])⟩, ⟨4, [], .string p⟩]) [0, 0, 0, 0, 0] [0, 3, 4] rfl (by kernel_rfl) ?_
    refine N_then ?_
    refine G_seq ?_
    refine G_seq ?_
    have hw2 : IntKind.wrap .i64 (0 + (p.size : Int)) = 0 + (p.size : Int) := w64 (by omega) (by omega)
    refine G_pure (E' := [⟨3, [], .string (ByteArray.mk #[])⟩, ⟨4, [], .string p⟩, ⟨17, [], .bool (decide ((0 + (p.size : Int)) < (p.size : Int)))⟩]) [0, 0, 0, 0, 0, 0, 0, 0] [3, 4, 17] rfl (Eq.trans (b := some [⟨3, [], .string (ByteArray.mk #[])⟩, ⟨4, [], .string p⟩, ⟨17, [], .bool (decide ((IntKind.wrap .i64 (0 + (p.size : Int))) < (p.size : Int)))⟩]) (by kernel_rfl) (by simp only [hw2])) ?_
    refine N_then ?_
    refine G_cond (b := decide ((0 + (p.size : Int)) < (p.size : Int))) (by kernel_rfl) (fun hc3 => ?_) (fun hc3 => ?_)
    ·
      simp at hc3
    ·
      skip
      refine G_skip ?_
      refine N_then ?_
      refine G_seq ?_
      refine G_region ?_
      refine GL_pure (E' := [⟨24, [], .string p⟩, ⟨3, [], .string (ByteArray.mk #[])⟩, ⟨4, [], .string p⟩, ⟨17, [], .bool (decide ((0 + (p.size : Int)) < (p.size : Int)))⟩]) [0] (by kernel_rfl) (j := 1) rfl ?_
      refine GL_callQ (i := 1) (ch := []) (f := 33) (fst := #[]) (caps := #[]) (vs := [.string p]) (v := .bool (partB p)) rfl rfl rfl (by kernel_rfl) (by kernel_rfl) Try.func33 rfl rfl (by kernel_rfl) (by kernel_rfl) (by kernel_rfl) (fun _ => refPart _ hp _ _) ?_
      refine GL_fin (E' := [⟨2, [], .bool (partB p)⟩]) [0] [2] rfl (by kernel_rfl) ?_
      refine N_then ?_
      refine G_ret ?_
      refine N_ret [.tmp 2] [.bool (partB p)] rfl (by kernel_rfl) rfl ?_
      exact ⟨by simp [packV, rightB, hs1], rfl⟩
  ·
    rw [if_neg hs1]
    obtain ⟨hs1a, hs1b, hs1c⟩ := slash_facts hs1
    refine GL_fin (E' := [⟨0, [], .string p⟩, ⟨3, [], .string (p.extract 0 (slash p).toNat)⟩, ⟨4, [], .string (p.extract ((slash p).toNat + 1) p.size)⟩]) [0, 0, 0, 0, 0] [0, 3, 4] rfl (by kernel_rfl) ?_
    refine N_then ?_
    refine G_seq ?_
    refine G_seq ?_
    have hw4 : IntKind.wrap .i64 (((p.extract 0 (slash p).toNat).size : Int) + ((p.extract ((slash p).toNat + 1) p.size).size : Int)) = ((p.extract 0 (slash p).toNat).size : Int) + ((p.extract ((slash p).toNat + 1) p.size).size : Int) := w64 (by omega) (by omega)
    refine G_pure (E' := [⟨3, [], .string (p.extract 0 (slash p).toNat)⟩, ⟨4, [], .string (p.extract ((slash p).toNat + 1) p.size)⟩, ⟨17, [], .bool (decide ((((p.extract 0 (slash p).toNat).size : Int) + ((p.extract ((slash p).toNat + 1) p.size).size : Int)) < (p.size : Int)))⟩]) [0, 0, 0, 0, 0, 0, 0, 0] [3, 4, 17] rfl (Eq.trans (b := some [⟨3, [], .string (p.extract 0 (slash p).toNat)⟩, ⟨4, [], .string (p.extract ((slash p).toNat + 1) p.size)⟩, ⟨17, [], .bool (decide ((IntKind.wrap .i64 (((p.extract 0 (slash p).toNat).size : Int) + ((p.extract ((slash p).toNat + 1) p.size).size : Int))) < (p.size : Int)))⟩]) (by kernel_rfl) (by simp only [hw4])) ?_
    refine N_then ?_
    refine G_cond (b := decide ((((p.extract 0 (slash p).toNat).size : Int) + ((p.extract ((slash p).toNat + 1) p.size).size : Int)) < (p.size : Int))) (by kernel_rfl) (fun hc5 => ?_) (fun hc5 => ?_)
    ·
      skip
      refine G_seq ?_
      refine G_region ?_
      refine GL_pure (E' := [⟨18, [], .string (p.extract 0 (slash p).toNat)⟩, ⟨3, [], .string (p.extract 0 (slash p).toNat)⟩, ⟨4, [], .string (p.extract ((slash p).toNat + 1) p.size)⟩, ⟨17, [], .bool (decide ((((p.extract 0 (slash p).toNat).size : Int) + ((p.extract ((slash p).toNat + 1) p.size).size : Int)) < (p.size : Int)))⟩]) [0] (by kernel_rfl) (j := 1) rfl ?_
      refine GL_callQ (i := 1) (ch := []) (f := 33) (fst := #[]) (caps := #[]) (vs := [.string (p.extract 0 (slash p).toNat)]) (v := .bool (partB (p.extract 0 (slash p).toNat))) rfl rfl rfl (by kernel_rfl) (by kernel_rfl) Try.func33 rfl rfl (by kernel_rfl) (by kernel_rfl) (by kernel_rfl) (fun _ => refPart _ (by simp only [ByteArray.size_extract]; omega) _ _) ?_
      refine GL_pure (E' := [⟨21, [(20, true)], .string (p.extract ((slash p).toNat + 1) p.size)⟩, ⟨20, [], .bool (partB (p.extract 0 (slash p).toNat))⟩, ⟨19, [], .bool (partB (p.extract 0 (slash p).toNat))⟩, ⟨18, [], .string (p.extract 0 (slash p).toNat)⟩, ⟨3, [], .string (p.extract 0 (slash p).toNat)⟩, ⟨4, [], .string (p.extract ((slash p).toNat + 1) p.size)⟩, ⟨17, [], .bool (decide ((((p.extract 0 (slash p).toNat).size : Int) + ((p.extract ((slash p).toNat + 1) p.size).size : Int)) < (p.size : Int)))⟩]) [0, 0] (by kernel_rfl) (j := 4) rfl ?_
      refine GL_callQ (i := 4) (ch := [(20, true)]) (f := 33) (fst := #[]) (caps := #[]) (vs := [.string (p.extract ((slash p).toNat + 1) p.size)]) (v := .bool (partB (p.extract ((slash p).toNat + 1) p.size))) rfl rfl rfl (by kernel_rfl) (by kernel_rfl) Try.func33 rfl rfl (by kernel_rfl) (by kernel_rfl) (by kernel_rfl) (fun hc => refPart _ (by simp only [ByteArray.size_extract]; omega) _ _) ?_
      refine GL_fin (E' := [⟨2, [], .bool ((partB (p.extract 0 (slash p).toNat)) && (partB (p.extract ((slash p).toNat + 1) p.size)))⟩]) [6, 0] [2] rfl (by kernel_rfl) ?_
      refine N_then ?_
      refine G_ret ?_
      refine N_then_ret ?_
      refine N_ret [.tmp 2] [.bool ((partB (p.extract 0 (slash p).toNat)) && (partB (p.extract ((slash p).toNat + 1) p.size)))] rfl (by kernel_rfl) rfl ?_
      exact ⟨by simp [packV, rightB, hs1], rfl⟩
    ·
      simp only [decide_eq_false_iff_not] at hc5; omega

theorem sliteIndex (s : ByteArray) (W0 : World) (H : List Grp) : Tri Try.prog 66 #[.string s, .string (ByteArray.mk #[47])] W0 H (fun v H' => v = .int .i64 (slash s) ∧ H' = H) := by
  refine Tri_of (args := [.string s, .string (ByteArray.mk #[47])]) (n := 143) Try.func66 rfl rfl (Nat.le_of_ble_eq_true rfl) ?_
  refine G_seq ?_
  refine G_pure (E' := [⟨0, [], .string s⟩, ⟨1, [], .string (ByteArray.mk #[47])⟩]) [0] [0, 1] rfl (by kernel_rfl) ?_
  refine N_then ?_
  refine G_seq ?_
  refine G_pure (E' := [⟨0, [], .string s⟩, ⟨1, [], .string (ByteArray.mk #[47])⟩, ⟨5, [], .int .i64 1⟩]) [0, 0, 0] [0, 1, 5] rfl (by kernel_rfl) ?_
  refine N_then ?_
  refine G_seq ?_
  refine G_block ?_
  refine G_seq ?_
  refine G_pure (E' := [⟨0, [], .string s⟩, ⟨1, [], .string (ByteArray.mk #[47])⟩, ⟨5, [], .int .i64 1⟩, ⟨16, [], .bool ((ByteArray.mk #[47]).toList == s.toList)⟩]) [0, 0, 0, 0, 0, 0, 3, 0] [0, 1, 5, 16] rfl (by kernel_rfl) ?_
  refine N_then ?_
  refine G_cond (b := (ByteArray.mk #[47]).toList == s.toList) (by kernel_rfl) (fun hc1 => ?_) (fun hc1 => ?_)
  ·
    have hc1 := slash_one (by simpa using hc1)
    refine G_seq ?_
    refine G_pure (E' := [⟨4, [], .int .i64 0⟩]) [0] [4] rfl (by kernel_rfl) ?_
    refine N_then ?_
    refine G_ret ?_
    refine N_block_ret ?_
    refine N_then_ret ?_
    refine N_ret [.tmp 4] [.int .i64 0] rfl (by kernel_rfl) rfl ?_
    exact ⟨by rw [hc1]; rfl, rfl⟩
  ·
    simp at hc1
    refine G_seq ?_
    refine G_pure (E' := [⟨0, [], .string s⟩, ⟨1, [], .string (ByteArray.mk #[47])⟩, ⟨5, [], .int .i64 1⟩, ⟨24, [], .bool true⟩]) [0, 0, 0] [0, 1, 5, 24] rfl (by kernel_rfl) ?_
    refine N_then ?_
    refine G_condt (by kernel_rfl) ?_
    refine G_seq ?_
    refine G_region ?_
    refine GL_pure (E' := [⟨28, [], .string (ByteArray.mk #[47])⟩, ⟨27, [], .string s⟩, ⟨0, [], .string s⟩, ⟨1, [], .string (ByteArray.mk #[47])⟩, ⟨5, [], .int .i64 1⟩, ⟨24, [], .bool true⟩]) [0, 0] (by kernel_rfl) (j := 2) rfl ?_
    refine GL_index (i := 2) (ch := []) (s := (ByteArray.mk #[47])) (kd := .i64) (j := 0) rfl rfl (by kernel_rfl) (by kernel_rfl) (by kernel_rfl) (by kernel_rfl) (by kernel_rfl) (by kernel_rfl) (fun _ => by decide) ?_
    refine GL_callQ (i := 3) (ch := []) (f := 67) (fst := #[]) (caps := #[]) (vs := [.string s, .int .u8 47]) (v := .int .i64 (bIdx s 47)) rfl rfl rfl (by kernel_rfl) (by kernel_rfl) Try.func67 rfl rfl (by kernel_rfl) (by kernel_rfl) (by kernel_rfl) (fun _ => sliteIndexByte _ _ _ _) ?_
    refine GL_fin (E' := [⟨4, [], .int .i64 (bIdx s 47)⟩]) [0] [4] rfl (by kernel_rfl) ?_
    refine N_then ?_
    refine G_ret ?_
    refine N_block_ret ?_
    refine N_then_ret ?_
    refine N_ret [.tmp 4] [.int .i64 (bIdx s 47)] rfl (by kernel_rfl) rfl ?_
    exact ⟨rfl, rfl⟩

theorem sliteCut (s : ByteArray) (hs : s.size ≤ 9223372036854775807) (W0 : World) (H : List Grp) : Tri Try.prog 56 #[.string s, .string (ByteArray.mk #[47])] W0 H (fun v H' => v = .tuple (if slash s < 0 then #[.string s, .string (ByteArray.mk #[]), .bool false] else #[.string (s.extract 0 (slash s).toNat), .string (s.extract ((slash s).toNat + 1) s.size), .bool true]) ∧ H' = H) := by
  have hsl := slash_or s
  refine Tri_of (args := [.string s, .string (ByteArray.mk #[47])]) (n := 23) Try.func56 rfl rfl (Nat.le_of_ble_eq_true rfl) ?_
  refine G_seq ?_
  refine G_pure (E' := [⟨0, [], .string s⟩, ⟨1, [], .string (ByteArray.mk #[47])⟩]) [0, 0, 0] [0, 1] rfl (by kernel_rfl) ?_
  refine N_then ?_
  refine G_seq ?_
  refine G_seq ?_
  refine G_region ?_
  refine GL_pure (E' := [⟨9, [], .string (ByteArray.mk #[47])⟩, ⟨8, [], .string s⟩, ⟨0, [], .string s⟩, ⟨1, [], .string (ByteArray.mk #[47])⟩]) [0, 0] (by kernel_rfl) (j := 2) rfl ?_
  refine GL_callQ (i := 2) (ch := []) (f := 66) (fst := #[]) (caps := #[]) (vs := [.string s, .string (ByteArray.mk #[47])]) (v := .int .i64 (slash s)) rfl rfl rfl (by kernel_rfl) (by kernel_rfl) Try.func66 rfl rfl (by kernel_rfl) (by kernel_rfl) (by kernel_rfl) (fun _ => sliteIndex _ _ _) ?_
  refine GL_fin (E' := [⟨0, [], .string s⟩, ⟨1, [], .string (ByteArray.mk #[47])⟩, ⟨7, [], .int .i64 (slash s)⟩]) [0] [0, 1, 7] rfl (by kernel_rfl) ?_
  refine N_then ?_
  refine G_seq ?_
  refine G_pure (E' := [⟨0, [], .string s⟩, ⟨1, [], .string (ByteArray.mk #[47])⟩, ⟨7, [], .int .i64 (slash s)⟩, ⟨12, [], .bool (decide ((slash s) ≥ 0))⟩]) [0, 0] [0, 1, 7, 12] rfl (by kernel_rfl) ?_
  refine N_then ?_
  refine G_cond (b := decide ((slash s) ≥ 0)) (by kernel_rfl) (fun hc1 => ?_) (fun hc1 => ?_)
  ·
    simp at hc1
    refine G_seq ?_
    refine G_regionD (by kernel_rfl) (by kernel_rfl) ?_
    refine GL_pure (E' := [⟨14, [], .int .i64 (slash s)⟩, ⟨13, [], .string s⟩, ⟨0, [], .string s⟩, ⟨1, [], .string (ByteArray.mk #[47])⟩, ⟨7, [], .int .i64 (slash s)⟩, ⟨12, [], .bool (decide ((slash s) ≥ 0))⟩]) [0, 0] (by kernel_rfl) (j := 2) rfl ?_
    refine GL_sliceS (i := 2) (ch := []) (s := s) (vl := none) (vh := (some (.int .i64 (slash s)))) (l := 0) (h := slash s) rfl rfl (by kernel_rfl) (by kernel_rfl) (by kernel_rfl) (by kernel_rfl) (by kernel_rfl) (by kernel_rfl) (by kernel_rfl) (by kernel_rfl) (by kernel_rfl) (fun _ => by omega) ?_
    have hw2 : IntKind.wrap .i64 ((slash s) + 1) = (slash s) + 1 := w64 (by omega) (by omega)
    refine GL_pure (E' := [⟨20, [], .int .i64 ((slash s) + 1)⟩, ⟨19, [], .int .i64 1⟩, ⟨18, [], .string (ByteArray.mk #[47])⟩, ⟨17, [], .int .i64 (slash s)⟩, ⟨16, [], .string s⟩, ⟨15, [], .string (s.extract 0 (Int.toNat (slash s)))⟩, ⟨14, [], .int .i64 (slash s)⟩, ⟨13, [], .string s⟩, ⟨0, [], .string s⟩, ⟨1, [], .string (ByteArray.mk #[47])⟩, ⟨7, [], .int .i64 (slash s)⟩, ⟨12, [], .bool (decide ((slash s) ≥ 0))⟩]) [0, 0, 0, 0, 0] (Eq.trans (b := some [⟨20, [], .int .i64 (IntKind.wrap .i64 ((slash s) + 1))⟩, ⟨19, [], .int .i64 1⟩, ⟨18, [], .string (ByteArray.mk #[47])⟩, ⟨17, [], .int .i64 (slash s)⟩, ⟨16, [], .string s⟩, ⟨15, [], .string (s.extract 0 (Int.toNat (slash s)))⟩, ⟨14, [], .int .i64 (slash s)⟩, ⟨13, [], .string s⟩, ⟨0, [], .string s⟩, ⟨1, [], .string (ByteArray.mk #[47])⟩, ⟨7, [], .int .i64 (slash s)⟩, ⟨12, [], .bool (decide ((slash s) ≥ 0))⟩]) (by kernel_rfl) (by simp only [hw2])) (j := 8) rfl ?_
    refine GL_sliceS (i := 8) (ch := []) (s := s) (vl := (some (.int .i64 ((slash s) + 1)))) (vh := none) (l := (slash s) + 1) (h := (s.size : Int)) rfl rfl (by kernel_rfl) (by kernel_rfl) (by kernel_rfl) (by kernel_rfl) (by kernel_rfl) (by kernel_rfl) (by kernel_rfl) (by kernel_rfl) (by kernel_rfl) (fun _ => by omega) ?_
    refine GL_fin (E' := [⟨4, [], .string (s.extract 0 (Int.toNat (slash s)))⟩, ⟨5, [], .string (s.extract (Int.toNat ((slash s) + 1)) s.size)⟩, ⟨6, [], .bool true⟩]) [0, 0, 0] [4, 5, 6] rfl (by kernel_rfl) ?_
    refine N_then ?_
    refine G_ret ?_
    refine N_then_ret ?_
    refine N_ret [.tmp 4, .tmp 5, .tmp 6] [.string (s.extract 0 (Int.toNat (slash s))), .string (s.extract (Int.toNat ((slash s) + 1)) s.size), .bool true] rfl (by kernel_rfl) rfl ?_
    exact ⟨by rw [if_neg (by omega), show (slash s + 1).toNat = (slash s).toNat + 1 from by omega]; rfl, rfl⟩
  ·
    simp at hc1
    refine G_skip ?_
    refine N_then ?_
    refine G_seq ?_
    refine G_pure (E' := [⟨4, [], .string s⟩, ⟨5, [], .string (ByteArray.mk #[])⟩, ⟨6, [], .bool false⟩]) [0, 0, 0, 0] [4, 5, 6] rfl (by kernel_rfl) ?_
    refine N_then ?_
    refine G_ret ?_
    refine N_ret [.tmp 4, .tmp 5, .tmp 6] [.string s, .string (ByteArray.mk #[]), .bool false] rfl (by kernel_rfl) rfl ?_
    exact ⟨by rw [if_pos (by omega)]; rfl, rfl⟩

theorem stringsCut (s : ByteArray) (hs : s.size ≤ 9223372036854775807) (W0 : World) (H : List Grp) : Tri Try.prog 31 #[.string s, .string (ByteArray.mk #[47])] W0 H (fun v H' => v = .tuple (if slash s < 0 then #[.string s, .string (ByteArray.mk #[]), .bool false] else #[.string (s.extract 0 (slash s).toNat), .string (s.extract ((slash s).toNat + 1) s.size), .bool true]) ∧ H' = H) := by
  refine Tri_of (args := [.string s, .string (ByteArray.mk #[47])]) (n := 13) Try.func31 rfl rfl (Nat.le_of_ble_eq_true rfl) ?_
  refine G_seq ?_
  refine G_pure (E' := [⟨0, [], .string s⟩, ⟨1, [], .string (ByteArray.mk #[47])⟩]) [0, 0, 0] [0, 1] rfl (by kernel_rfl) ?_
  refine N_then ?_
  refine G_seq ?_
  refine G_region ?_
  refine GL_pure (E' := [⟨8, [], .string (ByteArray.mk #[47])⟩, ⟨7, [], .string s⟩, ⟨0, [], .string s⟩, ⟨1, [], .string (ByteArray.mk #[47])⟩]) [0, 0] (by kernel_rfl) (j := 2) rfl ?_
  refine GL_call (i := 2) (ch := []) (f := 56) (fst := #[]) (caps := #[]) (vs := [.string s, .string (ByteArray.mk #[47])]) rfl rfl rfl (by kernel_rfl) (by kernel_rfl) Try.func56 rfl rfl (by kernel_rfl) (by kernel_rfl) (chSure_of (by kernel_rfl)) (sliteCut _ hs _ _) ?_
  rintro v H' ⟨rfl, rfl⟩
  by_cases hs1 : slash s < 0
  ·
    rw [if_pos hs1]
    refine GL_fin (E' := [⟨4, [], .string s⟩, ⟨5, [], .string (ByteArray.mk #[])⟩, ⟨6, [], .bool false⟩]) [0, 0, 0, 0, 0, 0] [4, 5, 6] rfl (by kernel_rfl) ?_
    refine N_then ?_
    refine G_ret ?_
    refine N_ret [.tmp 4, .tmp 5, .tmp 6] [.string s, .string (ByteArray.mk #[]), .bool false] rfl (by kernel_rfl) rfl ?_
    exact ⟨rfl, rfl⟩
  ·
    rw [if_neg hs1]
    obtain ⟨hs1a, hs1b, hs1c⟩ := slash_facts hs1
    refine GL_fin (E' := [⟨4, [], .string (s.extract 0 (slash s).toNat)⟩, ⟨5, [], .string (s.extract ((slash s).toNat + 1) s.size)⟩, ⟨6, [], .bool true⟩]) [0, 0, 0, 0, 0, 0] [4, 5, 6] rfl (by kernel_rfl) ?_
    refine N_then ?_
    refine G_ret ?_
    refine N_ret [.tmp 4, .tmp 5, .tmp 6] [.string (s.extract 0 (slash s).toNat), .string (s.extract ((slash s).toNat + 1) s.size), .bool true] rfl (by kernel_rfl) rfl ?_
    exact ⟨rfl, rfl⟩

theorem vfsPart (s : ByteArray) (hs : s.size ≤ 9223372036854775807) (W0 : World) (H : List Grp) : Tri Try.prog 32 #[.string s] W0 H (fun v H' => v = .bool (partB s) ∧ H' = H) := by
  refine Tri_of (args := [.string s]) (n := 58) Try.func32 rfl rfl (Nat.le_of_ble_eq_true rfl) ?_
  refine G_seq ?_
  refine G_pure (E' := [⟨0, [], .string s⟩]) [0] [0] rfl (by kernel_rfl) ?_
  refine N_then ?_
  refine G_seq ?_
  refine G_seq ?_
  refine G_pure (E' := [⟨0, [], .string s⟩, ⟨20, [], .bool ((((decide ((s.size : Int) < 1)) || (decide ((s.size : Int) > 80))) || (s.toList == (ByteArray.mk #[46]).toList)) || (s.toList == (ByteArray.mk #[46, 46]).toList))⟩]) [0, 0, 0, 0, 0, 0, 0, 5, 0, 0, 0, 5, 0, 0, 0, 5] [0, 20] rfl (by kernel_rfl) ?_
  refine N_then ?_
  refine G_cond (b := (((decide ((s.size : Int) < 1)) || (decide ((s.size : Int) > 80))) || (s.toList == (ByteArray.mk #[46]).toList)) || (s.toList == (ByteArray.mk #[46, 46]).toList)) (by kernel_rfl) (fun hc1 => ?_) (fun hc1 => ?_)
  ·
    have hf := part_no hc1
    refine G_seq ?_
    refine G_pure (E' := [⟨2, [], .bool false⟩]) [0] [2] rfl (by kernel_rfl) ?_
    refine N_then ?_
    refine G_ret ?_
    refine N_then_ret ?_
    refine N_ret [.tmp 2] [.bool false] rfl (by kernel_rfl) rfl ?_
    exact ⟨by rw [hf]; rfl, rfl⟩
  ·
    have hf := part_yes hc1
    have hsz : s.size ≤ 80 := by (revert hc1; simp; omega)
    refine G_skip ?_
    refine N_then ?_
    refine G_seq ?_
    refine G_seq ?_
    refine G_pure (E' := [⟨0, [], .string s⟩, ⟨22, [], .int .i64 (s.size : Int)⟩, ⟨23, [], .int .i64 0⟩]) [0, 0, 0] [0, 22, 23] rfl (by kernel_rfl) ?_
    refine N_then ?_
    refine G_block ?_
    refine G_loop (EI := (fun ξ : Nat => [⟨0, [], .string s⟩, ⟨22, [], .int .i64 (s.size : Int)⟩, ⟨23, [], .int .i64 ((ξ : Nat) : Int)⟩])) (HI := (fun ξ : Nat => H)) (Φ := (fun ξ : Nat => (ξ ≤ s.size) ∧ (pall s ξ))) (μ := (fun ξ : Nat => s.size - ξ)) (s0 := (0)) [0, 22, 23] (by kernel_rfl) rfl ⟨(by omega), pall_zero⟩ ?_
    rintro k ⟨hk, hp⟩
    refine G_seq ?_
    refine G_pure (E' := [⟨0, [], .string s⟩, ⟨22, [], .int .i64 (s.size : Int)⟩, ⟨23, [], .int .i64 ((k : Nat) : Int)⟩, ⟨24, [], .bool (decide (((k : Nat) : Int) < (s.size : Int)))⟩]) [0] [0, 22, 23, 24] rfl (by kernel_rfl) ?_
    refine N_then ?_
    refine G_seq ?_
    refine G_cond (b := decide (((k : Nat) : Int) < (s.size : Int))) (by kernel_rfl) (fun hc2 => ?_) (fun hc2 => ?_)
    ·
      simp at hc2
      refine G_skip ?_
      refine N_then ?_
      refine G_seq ?_
      refine G_block ?_
      refine G_seq ?_
      refine G_pure (E' := [⟨0, [], .string s⟩, ⟨3, [], .int .i64 ((k : Nat) : Int)⟩, ⟨22, [], .int .i64 (s.size : Int)⟩, ⟨23, [], .int .i64 ((k : Nat) : Int)⟩]) [0, 0] [0, 3, 22, 23] rfl (by kernel_rfl) ?_
      refine N_then ?_
      refine G_seq ?_
      refine G_region ?_
      refine GL_pure (E' := [⟨27, [], .int .i64 ((k : Nat) : Int)⟩, ⟨26, [], .string s⟩, ⟨0, [], .string s⟩, ⟨3, [], .int .i64 ((k : Nat) : Int)⟩, ⟨22, [], .int .i64 (s.size : Int)⟩, ⟨23, [], .int .i64 ((k : Nat) : Int)⟩]) [0, 0] (by kernel_rfl) (j := 2) rfl ?_
      refine GL_index (i := 2) (ch := []) (s := s) (kd := .i64) (j := ((k : Nat) : Int)) rfl rfl (by kernel_rfl) (by kernel_rfl) (by kernel_rfl) (by kernel_rfl) (by kernel_rfl) (by kernel_rfl) (fun _ => by omega) ?_
      have hb3 := byteAt_rng s ((k : Nat) : Int)
      refine GL_fin (E' := [⟨0, [], .string s⟩, ⟨4, [], .int .u8 (byteAt s ((k : Nat) : Int))⟩, ⟨22, [], .int .i64 (s.size : Int)⟩, ⟨23, [], .int .i64 ((k : Nat) : Int)⟩]) [0] [0, 4, 22, 23] rfl (by kernel_rfl) ?_
      refine N_then ?_
      refine G_seq ?_
      refine G_region ?_
      refine GL_pure (E' := [⟨52, [(51, false)], .int .u8 (byteAt s ((k : Nat) : Int))⟩, ⟨51, [], .bool ((((decide ((byteAt s ((k : Nat) : Int)) ≥ 97)) && (decide ((byteAt s ((k : Nat) : Int)) ≤ 122))) || ((decide ((byteAt s ((k : Nat) : Int)) ≥ 65)) && (decide ((byteAt s ((k : Nat) : Int)) ≤ 90)))) || ((decide ((byteAt s ((k : Nat) : Int)) ≥ 48)) && (decide ((byteAt s ((k : Nat) : Int)) ≤ 57))))⟩, ⟨50, [], .bool ((((decide ((byteAt s ((k : Nat) : Int)) ≥ 97)) && (decide ((byteAt s ((k : Nat) : Int)) ≤ 122))) || ((decide ((byteAt s ((k : Nat) : Int)) ≥ 65)) && (decide ((byteAt s ((k : Nat) : Int)) ≤ 90)))) || ((decide ((byteAt s ((k : Nat) : Int)) ≥ 48)) && (decide ((byteAt s ((k : Nat) : Int)) ≤ 57))))⟩, ⟨49, [(43, false)], .bool ((decide ((byteAt s ((k : Nat) : Int)) ≥ 48)) && (decide ((byteAt s ((k : Nat) : Int)) ≤ 57)))⟩, ⟨48, [(46, true), (43, false)], .bool (decide ((byteAt s ((k : Nat) : Int)) ≤ 57))⟩, ⟨47, [(46, true), (43, false)], .int .u8 (byteAt s ((k : Nat) : Int))⟩, ⟨46, [(43, false)], .bool (decide ((byteAt s ((k : Nat) : Int)) ≥ 48))⟩, ⟨45, [(43, false)], .bool (decide ((byteAt s ((k : Nat) : Int)) ≥ 48))⟩, ⟨44, [(43, false)], .int .u8 (byteAt s ((k : Nat) : Int))⟩, ⟨43, [], .bool (((decide ((byteAt s ((k : Nat) : Int)) ≥ 97)) && (decide ((byteAt s ((k : Nat) : Int)) ≤ 122))) || ((decide ((byteAt s ((k : Nat) : Int)) ≥ 65)) && (decide ((byteAt s ((k : Nat) : Int)) ≤ 90))))⟩, ⟨42, [], .bool (((decide ((byteAt s ((k : Nat) : Int)) ≥ 97)) && (decide ((byteAt s ((k : Nat) : Int)) ≤ 122))) || ((decide ((byteAt s ((k : Nat) : Int)) ≥ 65)) && (decide ((byteAt s ((k : Nat) : Int)) ≤ 90))))⟩, ⟨41, [(35, false)], .bool ((decide ((byteAt s ((k : Nat) : Int)) ≥ 65)) && (decide ((byteAt s ((k : Nat) : Int)) ≤ 90)))⟩, ⟨40, [(38, true), (35, false)], .bool (decide ((byteAt s ((k : Nat) : Int)) ≤ 90))⟩, ⟨39, [(38, true), (35, false)], .int .u8 (byteAt s ((k : Nat) : Int))⟩, ⟨38, [(35, false)], .bool (decide ((byteAt s ((k : Nat) : Int)) ≥ 65))⟩, ⟨37, [(35, false)], .bool (decide ((byteAt s ((k : Nat) : Int)) ≥ 65))⟩, ⟨36, [(35, false)], .int .u8 (byteAt s ((k : Nat) : Int))⟩, ⟨35, [], .bool ((decide ((byteAt s ((k : Nat) : Int)) ≥ 97)) && (decide ((byteAt s ((k : Nat) : Int)) ≤ 122)))⟩, ⟨34, [], .bool ((decide ((byteAt s ((k : Nat) : Int)) ≥ 97)) && (decide ((byteAt s ((k : Nat) : Int)) ≤ 122)))⟩, ⟨33, [(31, true)], .bool (decide ((byteAt s ((k : Nat) : Int)) ≤ 122))⟩, ⟨32, [(31, true)], .int .u8 (byteAt s ((k : Nat) : Int))⟩, ⟨31, [], .bool (decide ((byteAt s ((k : Nat) : Int)) ≥ 97))⟩, ⟨30, [], .bool (decide ((byteAt s ((k : Nat) : Int)) ≥ 97))⟩, ⟨29, [], .int .u8 (byteAt s ((k : Nat) : Int))⟩, ⟨0, [], .string s⟩, ⟨4, [], .int .u8 (byteAt s ((k : Nat) : Int))⟩, ⟨22, [], .int .i64 (s.size : Int)⟩, ⟨23, [], .int .i64 ((k : Nat) : Int)⟩]) [0, 0, 0, 0, 0, 6, 0, 0, 0, 0, 0, 0, 6, 5, 0, 0, 0, 0, 0, 0, 6, 5, 0, 0] (by kernel_rfl) (j := 24) rfl ?_
      refine GL_callQ (i := 24) (ch := [(51, false)]) (f := 57) (fst := #[]) (caps := #[]) (vs := [.string (ByteArray.mk #[45, 95, 46]), .int .u8 (byteAt s ((k : Nat) : Int))]) (v := .int .i64 (bIdx (ByteArray.mk #[45, 95, 46]) (byteAt s ((k : Nat) : Int)))) rfl rfl rfl (by kernel_rfl) (by kernel_rfl) Try.func57 rfl rfl (by kernel_rfl) (by kernel_rfl) (by kernel_rfl) (fun hc => stringsIndexByte _ _ _ _) ?_
      refine GL_fin (E' := [⟨0, [], .string s⟩, ⟨22, [], .int .i64 (s.size : Int)⟩, ⟨23, [], .int .i64 ((k : Nat) : Int)⟩, ⟨56, [], .bool (!(((((decide ((byteAt s ((k : Nat) : Int)) ≥ 97)) && (decide ((byteAt s ((k : Nat) : Int)) ≤ 122))) || ((decide ((byteAt s ((k : Nat) : Int)) ≥ 65)) && (decide ((byteAt s ((k : Nat) : Int)) ≤ 90)))) || ((decide ((byteAt s ((k : Nat) : Int)) ≥ 48)) && (decide ((byteAt s ((k : Nat) : Int)) ≤ 57)))) || (decide ((bIdx (ByteArray.mk #[45, 95, 46]) (byteAt s ((k : Nat) : Int))) ≥ 0))))⟩]) [0, 5, 0] [0, 22, 23, 56] rfl (by kernel_rfl) ?_
      refine N_then ?_
      refine G_cond (b := !(((((decide ((byteAt s ((k : Nat) : Int)) ≥ 97)) && (decide ((byteAt s ((k : Nat) : Int)) ≤ 122))) || ((decide ((byteAt s ((k : Nat) : Int)) ≥ 65)) && (decide ((byteAt s ((k : Nat) : Int)) ≤ 90)))) || ((decide ((byteAt s ((k : Nat) : Int)) ≥ 48)) && (decide ((byteAt s ((k : Nat) : Int)) ≤ 57)))) || (decide ((bIdx (ByteArray.mk #[45, 95, 46]) (byteAt s ((k : Nat) : Int))) ≥ 0)))) (by kernel_rfl) (fun hc4 => ?_) (fun hc4 => ?_)
      ·
        rw [three_idx hb3.1 hb3.2] at hc4
        have hpb : pbyte (byteAt s k) = false := by (simp only [pbyte]; revert hc4; simp; omega)
        refine G_seq ?_
        refine G_pure (E' := [⟨2, [], .bool false⟩]) [0] [2] rfl (by kernel_rfl) ?_
        refine N_then ?_
        refine G_ret ?_
        refine N_block_ret ?_
        refine N_then_ret ?_
        refine N_then_ret ?_
        refine N_block_ret ?_
        refine N_then_ret ?_
        refine N_ret [.tmp 2] [.bool false] rfl (by kernel_rfl) rfl ?_
        exact ⟨by simp [packV, hf, pallB_false hc2 hpb], rfl⟩
      ·
        rw [three_idx hb3.1 hb3.2] at hc4
        have hpb : pbyte (byteAt s k) = true := by (simp only [pbyte]; revert hc4; simp; omega)
        refine G_skip ?_
        refine N_block ?_
        refine N_then ?_
        have hw5 : IntKind.wrap .i64 (((k : Nat) : Int) + 1) = ((k : Nat) : Int) + 1 := w64 (by omega) (by omega)
        refine G_pure (E' := [⟨0, [], .string s⟩, ⟨22, [], .int .i64 (s.size : Int)⟩, ⟨23, [], .int .i64 (((k : Nat) : Int) + 1)⟩]) [0, 0] [0, 22, 23] rfl (Eq.trans (b := some [⟨0, [], .string s⟩, ⟨22, [], .int .i64 (s.size : Int)⟩, ⟨23, [], .int .i64 (IntKind.wrap .i64 (((k : Nat) : Int) + 1))⟩]) (by kernel_rfl) (by simp only [hw5])) ?_
        refine N_round (s' := (k + 1)) [0, 22, 23] (by kernel_rfl) rfl ⟨(by omega), (pall_succ hp hpb)⟩ (by omega)
    ·
      simp at hc2
      refine G_exit ?_
      refine N_then_exit ?_
      refine N_then_exit ?_
      refine N_block_exit ?_
      refine N_then ?_
      refine G_seq ?_
      refine G_pure (E' := [⟨2, [], .bool true⟩]) [0] [2] rfl (by kernel_rfl) ?_
      refine N_then ?_
      refine G_ret ?_
      refine N_ret [.tmp 2] [.bool true] rfl (by kernel_rfl) rfl ?_
      exact ⟨by simp [packV, hf, pallB_true hp hc2], rfl⟩

theorem vfsRight (p : ByteArray) (hp : p.size ≤ 9223372036854775807) (W0 : World) (H : List Grp) : Tri Try.prog 10 #[.string p] W0 H (fun v H' => v = .bool (rightB p) ∧ H' = H) := by
  refine Tri_of (args := [.string p]) (n := 22) Try.func10 rfl rfl (Nat.le_of_ble_eq_true rfl) ?_
  refine G_seq ?_
  refine G_pure (E' := [⟨0, [], .string p⟩]) [0] [0] rfl (by kernel_rfl) ?_
  refine N_then ?_
  refine G_seq ?_
  refine G_region ?_
  refine GL_pure (E' := [⟨7, [], .string p⟩, ⟨0, [], .string p⟩]) [0] (by kernel_rfl) (j := 1) rfl ?_
  refine GL_call (i := 1) (ch := []) (f := 31) (fst := #[]) (caps := #[]) (vs := [.string p, .string (ByteArray.mk #[47])]) rfl rfl rfl (by kernel_rfl) (by kernel_rfl) Try.func31 rfl rfl (by kernel_rfl) (by kernel_rfl) (chSure_of (by kernel_rfl)) (stringsCut _ hp _ _) ?_
  rintro v H' ⟨rfl, rfl⟩
  by_cases hs1 : slash p < 0
  ·
    rw [if_pos hs1]
    refine GL_fin (E' := [⟨3, [], .string p⟩, ⟨4, [], .string (ByteArray.mk #[])⟩, ⟨5, [], .bool false⟩]) [0, 0, 0, 0, 0, 0, 0] [3, 4, 5] rfl (by kernel_rfl) ?_
    refine N_then ?_
    refine G_seq ?_
    refine G_region ?_
    refine GL_pure (E' := [⟨12, [], .string p⟩, ⟨3, [], .string p⟩, ⟨4, [], .string (ByteArray.mk #[])⟩, ⟨5, [], .bool false⟩]) [0] (by kernel_rfl) (j := 1) rfl ?_
    refine GL_callQ (i := 1) (ch := []) (f := 32) (fst := #[]) (caps := #[]) (vs := [.string p]) (v := .bool (partB p)) rfl rfl rfl (by kernel_rfl) (by kernel_rfl) Try.func32 rfl rfl (by kernel_rfl) (by kernel_rfl) (by kernel_rfl) (fun _ => vfsPart _ hp _ _) ?_
    refine GL_fin (E' := [⟨2, [], .bool ((partB p) && true)⟩]) [0, 0, 0, 0, 1, 1, 2, 6, 0] [2] rfl (by kernel_rfl) ?_
    refine N_then ?_
    refine G_ret ?_
    refine N_ret [.tmp 2] [.bool ((partB p) && true)] rfl (by kernel_rfl) rfl ?_
    exact ⟨by simp [packV, rightB, hs1], rfl⟩
  ·
    rw [if_neg hs1]
    obtain ⟨hs1a, hs1b, hs1c⟩ := slash_facts hs1
    refine GL_fin (E' := [⟨3, [], .string (p.extract 0 (slash p).toNat)⟩, ⟨4, [], .string (p.extract ((slash p).toNat + 1) p.size)⟩, ⟨5, [], .bool true⟩]) [0, 0, 0, 0, 0, 0, 0] [3, 4, 5] rfl (by kernel_rfl) ?_
    refine N_then ?_
    refine G_seq ?_
    refine G_region ?_
    refine GL_pure (E' := [⟨12, [], .string (p.extract 0 (slash p).toNat)⟩, ⟨3, [], .string (p.extract 0 (slash p).toNat)⟩, ⟨4, [], .string (p.extract ((slash p).toNat + 1) p.size)⟩, ⟨5, [], .bool true⟩]) [0] (by kernel_rfl) (j := 1) rfl ?_
    refine GL_callQ (i := 1) (ch := []) (f := 32) (fst := #[]) (caps := #[]) (vs := [.string (p.extract 0 (slash p).toNat)]) (v := .bool (partB (p.extract 0 (slash p).toNat))) rfl rfl rfl (by kernel_rfl) (by kernel_rfl) Try.func32 rfl rfl (by kernel_rfl) (by kernel_rfl) (by kernel_rfl) (fun _ => vfsPart _ (by simp only [ByteArray.size_extract]; omega) _ _) ?_
    refine GL_pure (E' := [⟨18, [(17, false), (14, true)], .string (p.extract ((slash p).toNat + 1) p.size)⟩, ⟨17, [(14, true)], .bool false⟩, ⟨16, [(14, true)], .bool false⟩, ⟨15, [(14, true)], .bool true⟩, ⟨14, [], .bool (partB (p.extract 0 (slash p).toNat))⟩, ⟨13, [], .bool (partB (p.extract 0 (slash p).toNat))⟩, ⟨12, [], .string (p.extract 0 (slash p).toNat)⟩, ⟨3, [], .string (p.extract 0 (slash p).toNat)⟩, ⟨4, [], .string (p.extract ((slash p).toNat + 1) p.size)⟩, ⟨5, [], .bool true⟩]) [0, 0, 0, 0, 0] (by kernel_rfl) (j := 7) rfl ?_
    refine GL_callQ (i := 7) (ch := [(17, false), (14, true)]) (f := 32) (fst := #[]) (caps := #[]) (vs := [.string (p.extract ((slash p).toNat + 1) p.size)]) (v := .bool (partB (p.extract ((slash p).toNat + 1) p.size))) rfl rfl rfl (by kernel_rfl) (by kernel_rfl) Try.func32 rfl rfl (by kernel_rfl) (by kernel_rfl) (by kernel_rfl) (fun hc => vfsPart _ (by simp only [ByteArray.size_extract]; omega) _ _) ?_
    refine GL_fin (E' := [⟨2, [], .bool ((partB (p.extract 0 (slash p).toNat)) && (partB (p.extract ((slash p).toNat + 1) p.size)))⟩]) [3, 6, 0] [2] rfl (by kernel_rfl) ?_
    refine N_then ?_
    refine G_ret ?_
    refine N_ret [.tmp 2] [.bool ((partB (p.extract 0 (slash p).toNat)) && (partB (p.extract ((slash p).toNat + 1) p.size)))] rfl (by kernel_rfl) rfl ?_
    exact ⟨by simp [packV, rightB, hs1], rfl⟩

theorem vfsDirOf (p : ByteArray) (hp : p.size ≤ 9223372036854775807) (W0 : World) (H : List Grp) : Tri Try.prog 37 #[.string p] W0 H (fun v H' => v = .string (dirB p) ∧ H' = H) := by
  refine Tri_of (args := [.string p]) (n := 15) Try.func37 rfl rfl (Nat.le_of_ble_eq_true rfl) ?_
  refine G_seq ?_
  refine G_pure (E' := [⟨0, [], .string p⟩]) [0] [0] rfl (by kernel_rfl) ?_
  refine N_then ?_
  refine G_seq ?_
  refine G_region ?_
  refine GL_pure (E' := [⟨7, [], .string p⟩, ⟨0, [], .string p⟩]) [0] (by kernel_rfl) (j := 1) rfl ?_
  refine GL_call (i := 1) (ch := []) (f := 31) (fst := #[]) (caps := #[]) (vs := [.string p, .string (ByteArray.mk #[47])]) rfl rfl rfl (by kernel_rfl) (by kernel_rfl) Try.func31 rfl rfl (by kernel_rfl) (by kernel_rfl) (chSure_of (by kernel_rfl)) (stringsCut _ hp _ _) ?_
  rintro v H' ⟨rfl, rfl⟩
  by_cases hs1 : slash p < 0
  ·
    rw [if_pos hs1]
    refine GL_fin (E' := [⟨3, [], .string p⟩, ⟨5, [], .bool false⟩]) [0, 0, 0, 0, 0, 0, 0] [3, 5] rfl (by kernel_rfl) ?_
    refine N_then ?_
    refine G_seq ?_
    refine G_seq ?_
    refine G_pure (E' := [⟨3, [], .string p⟩, ⟨13, [], .bool true⟩]) [0, 0] [3, 13] rfl (by kernel_rfl) ?_
    refine N_then ?_
    refine G_condt (by kernel_rfl) ?_
    refine G_seq ?_
    refine G_pure (E' := [⟨2, [], .string (ByteArray.mk #[])⟩]) [0] [2] rfl (by kernel_rfl) ?_
    refine N_then ?_
    refine G_ret ?_
    refine N_then_ret ?_
    refine N_ret [.tmp 2] [.string (ByteArray.mk #[])] rfl (by kernel_rfl) rfl ?_
    exact ⟨by simp [packV, dirB, hs1], rfl⟩
  ·
    rw [if_neg hs1]
    obtain ⟨hs1a, hs1b, hs1c⟩ := slash_facts hs1
    refine GL_fin (E' := [⟨3, [], .string (p.extract 0 (slash p).toNat)⟩, ⟨5, [], .bool true⟩]) [0, 0, 0, 0, 0, 0, 0] [3, 5] rfl (by kernel_rfl) ?_
    refine N_then ?_
    refine G_seq ?_
    refine G_seq ?_
    refine G_pure (E' := [⟨3, [], .string (p.extract 0 (slash p).toNat)⟩, ⟨13, [], .bool false⟩]) [0, 0] [3, 13] rfl (by kernel_rfl) ?_
    refine N_then ?_
    refine G_condf (by kernel_rfl) ?_
    refine G_skip ?_
    refine N_then ?_
    refine G_seq ?_
    refine G_pure (E' := [⟨2, [], .string (p.extract 0 (slash p).toNat)⟩]) [0, 0] [2] rfl (by kernel_rfl) ?_
    refine N_then ?_
    refine G_ret ?_
    refine N_ret [.tmp 2] [.string (p.extract 0 (slash p).toNat)] rfl (by kernel_rfl) rfl ?_
    exact ⟨by simp [packV, dirB, hs1], rfl⟩

end Go.Proofs.Ytbmieiffboenbaa
