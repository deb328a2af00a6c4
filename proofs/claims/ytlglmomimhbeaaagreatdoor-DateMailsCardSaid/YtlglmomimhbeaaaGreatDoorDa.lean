/- Walks of the functions of layer 3: the calendar and the scan. Each contract names its own conditions. -/
import Derived.Test.YtlglmomimhbeaaaGreatDoorDate
import Derived.Test.YtlglmomimhbeaaaGreatDoorScan
import Derived.Test.YtlglmomimhbeaaaGreatDoorRows
import Derived.Test.YtlglmomimhbeaaaGreatDoorHeld
import Derived.Lib.Strings
namespace Go.Proofs.YtlglmomimhbeaaaGreatDoor
open Go.Sw Go.Lib Go.Cal Go.Scn

def four : List Int := [4, 6, 9, 11]
theorem four_at {k : Nat} (h : k < 4) : ([.int .i64 4, .int .i64 6, .int .i64 9, .int .i64 11] : List Value)[k * 1]? = some (.int .i64 (four.getD k 0)) := by
  have : k = 0 ∨ k = 1 ∨ k = 2 ∨ k = 3 := by omega
  rcases this with rfl | rfl | rfl | rfl <;> rfl
theorem four_succ {m : Int} {k : Nat} (hn : ∀ j, j < k → m ≠ four.getD j 0) (h : ¬ m = four.getD k 0) : ∀ j, j < k + 1 → m ≠ four.getD j 0 := fun j hj => by
  rcases Nat.lt_or_ge j k with h' | h'
  · exact hn j h'
  · have : j = k := by omega
    subst this; exact h
def idx4 (m : Int) : Int := if m = 4 then 0 else if m = 6 then 1 else if m = 9 then 2 else if m = 11 then 3 else -1
theorem idx4_hit {m : Int} {k : Nat} (hk : k < 4) (hn : ∀ j, j < k → m ≠ four.getD j 0) (h : m = four.getD k 0) : idx4 m = k := by
  have : k = 0 ∨ k = 1 ∨ k = 2 ∨ k = 3 := by omega
  rcases this with rfl | rfl | rfl | rfl <;> subst h <;> rfl
theorem idx4_miss {m : Int} (hn : ∀ j, j < 4 → m ≠ four.getD j 0) : idx4 m = -1 := by
  have h0 : m ≠ 4 := hn 0 (by omega)
  have h1 : m ≠ 6 := hn 1 (by omega)
  have h2 : m ≠ 9 := hn 2 (by omega)
  have h3 : m ≠ 11 := hn 3 (by omega)
  simp [idx4, h0, h1, h2, h3]
theorem idx4_ge {m : Int} : decide (idx4 m ≥ 0) = decide (m = 4 ∨ m = 6 ∨ m = 9 ∨ m = 11) := by
  unfold idx4
  by_cases h0 : m = 4
  · simp [h0]
  by_cases h1 : m = 6
  · simp [h1]
  by_cases h2 : m = 9
  · simp [h2]
  by_cases h3 : m = 11
  · simp [h3]
  simp [h0, h1, h2, h3]

theorem leap_ (y : Int) (h0 : 0 ≤ y) (W0 : World) (H : List Grp) : Tri Tryz.prog 56 #[.int .i64 y] W0 H (fun v H' => v = .bool (leapB y) ∧ H' = H) := by
  refine Tri_of (args := [.int .i64 y]) (n := 16) Tryz.func56 rfl rfl (Nat.le_of_ble_eq_true rfl) ?_
  refine G_seq ?_
  refine G_pure (E' := [⟨0, [], .int .i64 y⟩]) [0] [0] rfl (by kernel_rfl) ?_
  refine N_then ?_
  refine G_seq ?_
  have hw1 : Int.tmod y 4 = y % 4 := r64 (by omega)
  refine G_pure (E' := [⟨2, [], .bool ((((y % 4) == 0) && ((Int.tmod y 100) != 0)) || ((Int.tmod y 400) == 0))⟩]) [0, 0, 0, 0, 0, 0, 0, 6, 0, 0, 0, 0, 5, 0] [2] rfl (Eq.trans (b := some [⟨2, [], .bool ((((Int.tmod y 4) == 0) && ((Int.tmod y 100) != 0)) || ((Int.tmod y 400) == 0))⟩]) (by kernel_rfl) (by simp only [hw1])) ?_
  refine N_then ?_
  refine G_ret ?_
  refine N_ret [.tmp 2] [.bool ((((y % 4) == 0) && ((Int.tmod y 100) != 0)) || ((Int.tmod y 400) == 0))] rfl (by kernel_rfl) rfl ?_
  refine ⟨?_, rfl⟩
  simp only [packV, leapB, Int.tmod_eq_emod_of_nonneg h0]

theorem sliceIndex4 (b : Nat) (m : Int) (W0 : World) (H : List Grp) : Tri Tryz.prog 75 #[.slice (some ⟨b, 0, none⟩) 4 4, .int .i64 m] W0 ([(b, .cells #[.int .i64 4, .int .i64 6, .int .i64 9, .int .i64 11] 3 (0, 0))] :: H) (fun v H' => v = .int .i64 (idx4 m) ∧ H' = ([(b, .cells #[.int .i64 4, .int .i64 6, .int .i64 9, .int .i64 11] 3 (0, 0))] :: H)) := by
  refine Tri_of (args := [.slice (some ⟨b, 0, none⟩) 4 4, .int .i64 m]) (n := 19) Tryz.func75 rfl rfl (Nat.le_of_ble_eq_true rfl) ?_
  refine G_seq ?_
  refine G_pure (E' := [⟨0, [], .slice (some ⟨b, 0, none⟩) 4 4⟩, ⟨1, [], .int .i64 m⟩]) [0] [0, 1] rfl (by kernel_rfl) ?_
  refine N_then ?_
  refine G_seq ?_
  refine G_seq ?_
  refine G_pure (E' := [⟨0, [], .slice (some ⟨b, 0, none⟩) 4 4⟩, ⟨1, [], .int .i64 m⟩, ⟨7, [], .int .i64 4⟩, ⟨8, [], .int .i64 0⟩]) [0, 0, 0] [0, 1, 7, 8] rfl (by kernel_rfl) ?_
  refine N_then ?_
  refine G_block ?_
  refine G_loop (EI := (fun ξ : Nat => [⟨0, [], .slice (some ⟨b, 0, none⟩) 4 4⟩, ⟨1, [], .int .i64 m⟩, ⟨7, [], .int .i64 4⟩, ⟨8, [], .int .i64 ((ξ : Nat) : Int)⟩])) (HI := (fun ξ : Nat => ([(b, .cells #[.int .i64 4, .int .i64 6, .int .i64 9, .int .i64 11] 3 (0, 0))] :: H))) (Φ := (fun ξ : Nat => (ξ ≤ 4) ∧ (∀ j, j < ξ → m ≠ four.getD j 0))) (μ := (fun ξ : Nat => 4 - ξ)) (s0 := (0)) [0, 1, 7, 8] (by kernel_rfl) rfl ⟨(by omega), (fun j hj => absurd hj (Nat.not_lt_zero j))⟩ ?_
  rintro k ⟨hk, hn⟩
  refine G_seq ?_
  refine G_pure (E' := [⟨0, [], .slice (some ⟨b, 0, none⟩) 4 4⟩, ⟨1, [], .int .i64 m⟩, ⟨7, [], .int .i64 4⟩, ⟨8, [], .int .i64 ((k : Nat) : Int)⟩, ⟨9, [], .bool (decide (((k : Nat) : Int) < 4))⟩]) [0] [0, 1, 7, 8, 9] rfl (by kernel_rfl) ?_
  refine N_then ?_
  refine G_seq ?_
  refine G_cond (b := decide (((k : Nat) : Int) < 4)) (by kernel_rfl) (fun hc1 => ?_) (fun hc1 => ?_)
  ·
    simp at hc1
    refine G_skip ?_
    refine N_then ?_
    refine G_seq ?_
    refine G_block ?_
    refine G_seq ?_
    refine G_pure (E' := [⟨0, [], .slice (some ⟨b, 0, none⟩) 4 4⟩, ⟨1, [], .int .i64 m⟩, ⟨5, [], .int .i64 ((k : Nat) : Int)⟩, ⟨7, [], .int .i64 4⟩, ⟨8, [], .int .i64 ((k : Nat) : Int)⟩]) [0, 0] [0, 1, 5, 7, 8] rfl (by kernel_rfl) ?_
    refine N_then ?_
    refine G_seq ?_
    refine G_region ?_
    refine GL_pure (E' := [⟨13, [], .int .i64 ((k : Nat) : Int)⟩, ⟨12, [], .slice (some ⟨b, 0, none⟩) 4 4⟩, ⟨11, [], .int .i64 m⟩, ⟨0, [], .slice (some ⟨b, 0, none⟩) 4 4⟩, ⟨1, [], .int .i64 m⟩, ⟨5, [], .int .i64 ((k : Nat) : Int)⟩, ⟨7, [], .int .i64 4⟩, ⟨8, [], .int .i64 ((k : Nat) : Int)⟩]) [0, 0, 0] (by kernel_rfl) (j := 3) rfl ?_
    refine GL_indexAddr (i := 3) (ch := []) (a := (some ⟨b, 0, none⟩)) (len := 4) (cap := 4) (kd := .i64) (j := ((k : Nat) : Int)) (e := 3) (sz := 1) (S := (inG [(b, .cells #[.int .i64 4, .int .i64 6, .int .i64 9, .int .i64 11] 3 (0, 0))])) (cs := [.int .i64 4, .int .i64 6, .int .i64 9, .int .i64 11]) rfl rfl (by kernel_rfl) (by kernel_rfl) (by kernel_rfl) (by kernel_rfl) (by kernel_rfl) (by kernel_rfl) (by kernel_rfl) Rd.lit (fun _ => by exact ⟨by omega, by omega, by simp⟩) ?_
    refine GL_loadS (i := 4) (ch := []) (a := (some ⟨b, 0, none⟩)) (q := k * 1) (S := (inG [(b, .cells #[.int .i64 4, .int .i64 6, .int .i64 9, .int .i64 11] 3 (0, 0))])) (cs := [.int .i64 4, .int .i64 6, .int .i64 9, .int .i64 11]) (v := .int .i64 (four.getD k 0)) rfl rfl (by kernel_rfl) (by kernel_rfl) (by kernel_rfl) (by kernel_rfl) (by kernel_rfl) Rd.lit (at_inG 0 rfl) (fun _ => four_at (by omega)) ?_
    refine GL_fin (E' := [⟨0, [], .slice (some ⟨b, 0, none⟩) 4 4⟩, ⟨1, [], .int .i64 m⟩, ⟨5, [], .int .i64 ((k : Nat) : Int)⟩, ⟨7, [], .int .i64 4⟩, ⟨8, [], .int .i64 ((k : Nat) : Int)⟩, ⟨16, [], .bool (m == (four.getD k 0))⟩]) [0] [0, 1, 5, 7, 8, 16] rfl (by kernel_rfl) ?_
    refine N_then ?_
    refine G_cond (b := m == (four.getD k 0)) (by kernel_rfl) (fun hc2 => ?_) (fun hc2 => ?_)
    ·
      simp at hc2
      refine G_seq ?_
      refine G_pure (E' := [⟨4, [], .int .i64 ((k : Nat) : Int)⟩]) [0, 0] [4] rfl (by kernel_rfl) ?_
      refine N_then ?_
      refine G_ret ?_
      refine N_block_ret ?_
      refine N_then_ret ?_
      refine N_then_ret ?_
      refine N_block_ret ?_
      refine N_then_ret ?_
      refine N_ret [.tmp 4] [.int .i64 ((k : Nat) : Int)] rfl (by kernel_rfl) rfl ?_
      exact ⟨by rw [idx4_hit (by omega) hn hc2]; rfl, rfl⟩
    ·
      simp at hc2
      refine G_skip ?_
      refine N_block ?_
      refine N_then ?_
      have hw3 : IntKind.wrap .i64 (((k : Nat) : Int) + 1) = ((k : Nat) : Int) + 1 := w64 (by omega) (by omega)
      refine G_pure (E' := [⟨0, [], .slice (some ⟨b, 0, none⟩) 4 4⟩, ⟨1, [], .int .i64 m⟩, ⟨7, [], .int .i64 4⟩, ⟨8, [], .int .i64 (((k : Nat) : Int) + 1)⟩]) [0, 0] [0, 1, 7, 8] rfl (Eq.trans (b := some [⟨0, [], .slice (some ⟨b, 0, none⟩) 4 4⟩, ⟨1, [], .int .i64 m⟩, ⟨7, [], .int .i64 4⟩, ⟨8, [], .int .i64 (IntKind.wrap .i64 (((k : Nat) : Int) + 1))⟩]) (by kernel_rfl) (by simp only [hw3])) ?_
      refine N_round (s' := (k + 1)) [0, 1, 7, 8] (by kernel_rfl) rfl ⟨(by omega), (four_succ hn hc2)⟩ (by omega)
  ·
    simp at hc1
    refine G_exit ?_
    refine N_then_exit ?_
    refine N_then_exit ?_
    refine N_block_exit ?_
    refine N_then ?_
    refine G_seq ?_
    refine G_pure (E' := [⟨4, [], .int .i64 (-1)⟩]) [0] [4] rfl (by kernel_rfl) ?_
    refine N_then ?_
    refine G_ret ?_
    refine N_ret [.tmp 4] [.int .i64 (-1)] rfl (by kernel_rfl) rfl ?_
    exact ⟨by rw [idx4_miss (fun j hj => hn j (by omega))]; rfl, rfl⟩

theorem sliceContains4 (b : Nat) (m : Int) (W0 : World) (H : List Grp) : Tri Tryz.prog 57 #[.slice (some ⟨b, 0, none⟩) 4 4, .int .i64 m] W0 ([(b, .cells #[.int .i64 4, .int .i64 6, .int .i64 9, .int .i64 11] 3 (0, 0))] :: H) (fun v H' => v = .bool (decide (m = 4 ∨ m = 6 ∨ m = 9 ∨ m = 11)) ∧ H' = ([(b, .cells #[.int .i64 4, .int .i64 6, .int .i64 9, .int .i64 11] 3 (0, 0))] :: H)) := by
  refine Tri_of (args := [.slice (some ⟨b, 0, none⟩) 4 4, .int .i64 m]) (n := 9) Tryz.func57 rfl rfl (Nat.le_of_ble_eq_true rfl) ?_
  refine G_seq ?_
  refine G_pure (E' := [⟨0, [], .slice (some ⟨b, 0, none⟩) 4 4⟩, ⟨1, [], .int .i64 m⟩]) [0] [0, 1] rfl (by kernel_rfl) ?_
  refine N_then ?_
  refine G_seq ?_
  refine G_region ?_
  refine GL_pure (E' := [⟨6, [], .int .i64 m⟩, ⟨5, [], .slice (some ⟨b, 0, none⟩) 4 4⟩, ⟨0, [], .slice (some ⟨b, 0, none⟩) 4 4⟩, ⟨1, [], .int .i64 m⟩]) [0, 0] (by kernel_rfl) (j := 2) rfl ?_
  refine GL_call (i := 2) (ch := []) (f := 75) (fst := #[]) (caps := #[]) (vs := [.slice (some ⟨b, 0, none⟩) 4 4, .int .i64 m]) rfl rfl rfl (by kernel_rfl) (by kernel_rfl) Tryz.func75 rfl rfl (by kernel_rfl) (by kernel_rfl) (chSure_of (by kernel_rfl)) (sliceIndex4 _ m _ _) ?_
  rintro v H' ⟨rfl, rfl⟩
  refine GL_fin (E' := [⟨4, [], .bool (decide ((idx4 m) ≥ 0))⟩]) [0, 0] [4] rfl (by kernel_rfl) ?_
  refine N_then ?_
  refine G_ret ?_
  refine N_ret [.tmp 4] [.bool (decide ((idx4 m) ≥ 0))] rfl (by kernel_rfl) rfl ?_
  exact ⟨by rw [← idx4_ge]; rfl, rfl⟩

theorem length_ (y m : Int) (h0 : 0 ≤ y) (W0 : World) (H : List Grp) : Tri Tryz.prog 43 #[.int .i64 y, .int .i64 m] W0 H (fun v H' => v = .int .i64 (mlen y m) ∧ H' = H) := by
  refine Tri_of (args := [.int .i64 y, .int .i64 m]) (n := 19) Tryz.func43 rfl rfl (Nat.le_of_ble_eq_true rfl) ?_
  refine G_seq ?_
  refine G_pure (E' := [⟨0, [], .int .i64 y⟩, ⟨1, [], .int .i64 m⟩]) [0] [0, 1] rfl (by kernel_rfl) ?_
  refine N_then ?_
  refine G_seq ?_
  refine G_block ?_
  refine G_seq ?_
  refine G_region ?_
  refine GL_pure (E' := [⟨9, [(8, true)], .int .i64 y⟩, ⟨8, [], .bool (m == 2)⟩, ⟨7, [], .bool (m == 2)⟩, ⟨6, [], .int .i64 m⟩, ⟨0, [], .int .i64 y⟩, ⟨1, [], .int .i64 m⟩]) [0, 0, 0, 0] (by kernel_rfl) (j := 4) rfl ?_
  refine GL_callQ (i := 4) (ch := [(8, true)]) (f := 56) (fst := #[]) (caps := #[]) (vs := [.int .i64 y]) (v := .bool (leapB y)) rfl rfl rfl (by kernel_rfl) (by kernel_rfl) Tryz.func56 rfl rfl (by kernel_rfl) (by kernel_rfl) (by kernel_rfl) (fun hc => leap_ _ (by omega) _ _) ?_
  refine GL_fin (E' := [⟨1, [], .int .i64 m⟩, ⟨5, [], .bool ((m == 2) && (leapB y))⟩]) [6, 0] [1, 5] rfl (by kernel_rfl) ?_
  refine N_then ?_
  refine G_cond (b := (m == 2) && (leapB y)) (by kernel_rfl) (fun hc1 => ?_) (fun hc1 => ?_)
  ·
    skip
    refine G_seq ?_
    refine G_pure (E' := [⟨4, [], .int .i64 29⟩]) [0] [4] rfl (by kernel_rfl) ?_
    refine N_then ?_
    refine G_ret ?_
    refine N_block_ret ?_
    refine N_then_ret ?_
    refine N_ret [.tmp 4] [.int .i64 29] rfl (by kernel_rfl) rfl ?_
    exact ⟨by simp at hc1; simp [packV, mlen, hc1], rfl⟩
  ·
    skip
    refine G_seq ?_
    refine G_pure (E' := [⟨1, [], .int .i64 m⟩, ⟨12, [], .bool (m == 2)⟩]) [0, 0, 0] [1, 12] rfl (by kernel_rfl) ?_
    refine N_then ?_
    refine G_cond (b := m == 2) (by kernel_rfl) (fun hc2 => ?_) (fun hc2 => ?_)
    ·
      skip
      refine G_seq ?_
      refine G_pure (E' := [⟨4, [], .int .i64 28⟩]) [0] [4] rfl (by kernel_rfl) ?_
      refine N_then ?_
      refine G_ret ?_
      refine N_block_ret ?_
      refine N_then_ret ?_
      refine N_ret [.tmp 4] [.int .i64 28] rfl (by kernel_rfl) rfl ?_
      exact ⟨by simp at hc1 hc2; simp [packV, mlen, hc1, hc2], rfl⟩
    ·
      skip
      refine G_seq ?_
      refine G_region ?_
      refine GL_buildSlice (i := 0) (ch := []) (e := 3) (l := [(0, .int .i64 4), (1, .int .i64 6), (2, .int .i64 9), (3, .int .i64 11)]) (c := [.int .i64 4, .int .i64 6, .int .i64 9, .int .i64 11]) rfl rfl (by kernel_rfl) (by kernel_rfl) (by kernel_rfl) (by kernel_rfl) (by kernel_rfl) (fun b3 => ?_)
      refine GL_pure (E' := [⟨17, [], .int .i64 m⟩, ⟨16, [], .slice (some ⟨b3, 0, none⟩) 4 4⟩, ⟨1, [], .int .i64 m⟩, ⟨12, [], .bool (m == 2)⟩]) [0] (by kernel_rfl) (j := 2) rfl ?_
      refine GL_call (i := 2) (ch := []) (f := 57) (fst := #[]) (caps := #[]) (vs := [.slice (some ⟨b3, 0, none⟩) 4 4, .int .i64 m]) rfl rfl rfl (by kernel_rfl) (by kernel_rfl) Tryz.func57 rfl rfl (by kernel_rfl) (by kernel_rfl) (chSure_of (by kernel_rfl)) (sliceContains4 _ m _ _) ?_
      rintro v H' ⟨rfl, rfl⟩
      refine GL_fin (E' := [⟨15, [], .bool (decide (m = 4 ∨ m = 6 ∨ m = 9 ∨ m = 11))⟩]) [0] [15] rfl (by kernel_rfl) ?_
      refine N_then ?_
      refine G_cond (b := decide (m = 4 ∨ m = 6 ∨ m = 9 ∨ m = 11)) (by kernel_rfl) (fun hc4 => ?_) (fun hc4 => ?_)
      ·
        skip
        refine G_seq ?_
        refine G_pure (E' := [⟨4, [], .int .i64 30⟩]) [0] [4] rfl (by kernel_rfl) ?_
        refine N_then ?_
        refine G_ret ?_
        refine N_block_ret ?_
        refine N_then_ret ?_
        refine N_heap (H' := H) (fun w h => h.erase 0) ?_
        refine N_ret [.tmp 4] [.int .i64 30] rfl (by kernel_rfl) rfl ?_
        exact ⟨by simp at hc2 hc4; simp [packV, mlen, hc2, hc4], rfl⟩
      ·
        skip
        refine G_skip ?_
        refine N_block ?_
        refine N_then ?_
        refine G_seq ?_
        refine G_pure (E' := [⟨4, [], .int .i64 31⟩]) [0] [4] rfl (by kernel_rfl) ?_
        refine N_then ?_
        refine G_ret ?_
        refine N_heap (H' := H) (fun w h => h.erase 0) ?_
        refine N_ret [.tmp 4] [.int .i64 31] rfl (by kernel_rfl) rfl ?_
        exact ⟨by simp at hc2 hc4; simp [packV, mlen, hc2, hc4], rfl⟩

theorem before_ (y : Int) (h0 : 1 ≤ y) (h1 : y ≤ 10000) (W0 : World) (H : List Grp) : Tri Tryz.prog 42 #[.int .i64 y] W0 H (fun v H' => v = .int .i64 (bef y) ∧ H' = H) := by
  refine Tri_of (args := [.int .i64 y]) (n := 16) Tryz.func42 rfl rfl (Nat.le_of_ble_eq_true rfl) ?_
  refine G_seq ?_
  refine G_pure (E' := [⟨0, [], .int .i64 y⟩]) [0] [0] rfl (by kernel_rfl) ?_
  refine N_then ?_
  refine G_seq ?_
  have hw1 : IntKind.wrap .i64 (y - 1) = y - 1 := w64 (by omega) (by omega)
  refine G_pure (E' := [⟨0, [], .int .i64 (y - 1)⟩]) [0, 0, 0] [0] rfl (Eq.trans (b := some [⟨0, [], .int .i64 (IntKind.wrap .i64 (y - 1))⟩]) (by kernel_rfl) (by simp only [hw1])) ?_
  refine N_then ?_
  refine G_seq ?_
  have hw2 : IntKind.wrap .i64 (365 * (y - 1)) = 365 * (y - 1) := w64 (by omega) (by omega)
  have hw3 : IntKind.wrap .i64 (Int.tdiv (y - 1) 4) = (y - 1) / 4 := q64 (by omega) (by omega) (by decide)
  have hw4 : IntKind.wrap .i64 ((365 * (y - 1)) + ((y - 1) / 4)) = (365 * (y - 1)) + ((y - 1) / 4) := w64 (by omega) (by omega)
  have hw5 : IntKind.wrap .i64 (Int.tdiv (y - 1) 100) = (y - 1) / 100 := q64 (by omega) (by omega) (by decide)
  have hw6 : IntKind.wrap .i64 (((365 * (y - 1)) + ((y - 1) / 4)) - ((y - 1) / 100)) = ((365 * (y - 1)) + ((y - 1) / 4)) - ((y - 1) / 100) := w64 (by omega) (by omega)
  have hw7 : IntKind.wrap .i64 (Int.tdiv (y - 1) 400) = (y - 1) / 400 := q64 (by omega) (by omega) (by decide)
  have hw8 : IntKind.wrap .i64 ((((365 * (y - 1)) + ((y - 1) / 4)) - ((y - 1) / 100)) + ((y - 1) / 400)) = (((365 * (y - 1)) + ((y - 1) / 4)) - ((y - 1) / 100)) + ((y - 1) / 400) := w64 (by omega) (by omega)
  refine G_pure (E' := [⟨2, [], .int .i64 ((((365 * (y - 1)) + ((y - 1) / 4)) - ((y - 1) / 100)) + ((y - 1) / 400))⟩]) [0, 0, 0, 0, 0, 0, 0, 0, 0, 0, 0, 0] [2] rfl (Eq.trans (b := some [⟨2, [], .int .i64 (IntKind.wrap .i64 ((IntKind.wrap .i64 ((IntKind.wrap .i64 ((IntKind.wrap .i64 (365 * (y - 1))) + (IntKind.wrap .i64 (Int.tdiv (y - 1) 4)))) - (IntKind.wrap .i64 (Int.tdiv (y - 1) 100)))) + (IntKind.wrap .i64 (Int.tdiv (y - 1) 400))))⟩]) (by kernel_rfl) (by simp only [hw2, hw3, hw4, hw5, hw6, hw7, hw8])) ?_
  refine N_then ?_
  refine G_ret ?_
  refine N_ret [.tmp 2] [.int .i64 ((((365 * (y - 1)) + ((y - 1) / 4)) - ((y - 1) / 100)) + ((y - 1) / 400))] rfl (by kernel_rfl) rfl ?_
  refine ⟨?_, rfl⟩
  simp only [packV, bef]


def tErr : Option Int → Value
  | some t => .tuple #[.int .i64 t, .int .i64 0]
  | none => .tuple #[.int .i64 0, .int .i64 30]
def cumF (a y : Int) : Nat → Int
  | 0 => a
  | k + 1 => cumF a y k + mlen y ((k + 1 : Nat) : Int)
theorem cumF_eq (a y : Int) : ∀ k, cumF a y k = a + cum y k
  | 0 => by simp [cumF, cum]
  | k + 1 => by rw [cumF, cumF_eq a y k, cum]; push_cast; omega
theorem cumF_bd (a y : Int) (k : Nat) : a + 28 * k ≤ cumF a y k ∧ cumF a y k ≤ a + 31 * k := by
  have := cum_bd y k; rw [cumF_eq]; omega
theorem starts_le {s p : ByteArray} (h : startsB s p = true) : p.size ≤ s.size := by
  simp only [startsB, Bool.and_eq_true, decide_eq_true_eq] at h; omega
theorem starts_succ {s : ByteArray} {ws : List ByteArray} {k : Nat} (hn : ∀ j, j < k → startsB s (ws.getD j default) = false) (h : startsB s (ws.getD k default) = false) : ∀ j, j < k + 1 → startsB s (ws.getD j default) = false := fun j hj => by
  rcases Nat.lt_or_ge j k with h' | h'
  · exact hn j h'
  · have : j = k := by omega
    subst this; exact h
theorem strs_ne {ws : List ByteArray} {k : Nat} (h : k < ws.length) : strs ws ≠ [] := by
  intro h0
  have := congrArg List.length h0
  simp [strs] at this
  rw [this] at h; simp at h
theorem oneR {ws : List ByteArray} {σ : Sc} {b : Nat} {H : List Grp} {q : Int × Sc} (h : one ws σ = q) : ∃ p, p = one ws σ ∧ -1 ≤ p.1 ∧ p.1 ≤ ws.length ∧ p.2.s.size ≤ σ.s.size ∧ (.int .i64 q.1 : Value) = .int .i64 p.1 ∧ ([(b, .cells #[.string q.2.s, .bool q.2.bad] 40 (0, 0))] :: H : List Grp) = ([(b, .cells #[.string p.2.s, .bool p.2.bad] 40 (0, 0))] :: H) := by
  subst h
  have := one_bd σ ws 0 (by omega)
  refine ⟨_, rfl, this.1, ?_, this.2.2, rfl, rfl⟩
  have h2 := this.2.1
  unfold one
  by_cases hw : ws = []
  · subst hw; simp [oneFrom]
  · simp [hw] at h2; omega
theorem mayR {p : ByteArray} {σ : Sc} {b : Nat} {H : List Grp} {q : Bool × Sc} (h : may p σ = q) : ∃ r, r = may p σ ∧ True ∧ True ∧ r.2.s.size ≤ σ.s.size ∧ (.bool q.1 : Value) = .bool r.1 ∧ ([(b, .cells #[.string q.2.s, .bool q.2.bad] 40 (0, 0))] :: H : List Grp) = ([(b, .cells #[.string r.2.s, .bool r.2.bad] 40 (0, 0))] :: H) := by
  subst h
  exact ⟨_, rfl, trivial, trivial, cutP_size _ _, rfl, rfl⟩
def zoneM (k : Int) : Int := if k < 3 then 0 else -3600 * (5 + (k - 3) / 2 - (k - 3) % 2)
theorem zoneM_bd {k : Int} (h0 : -1 ≤ k) (h1 : k ≤ 1000) : -1000000000 ≤ zoneM k ∧ zoneM k ≤ 1000000000 := by
  unfold zoneM; split <;> omega
theorem time_no {y mo d h mi s off : Int} (hc : (((((((((decide (y < 1)) || (decide (y > 9999))) || (decide (mo < 1))) || (decide (mo > 12))) || (decide (d < 1))) || (decide (d > (mlen y mo)))) || (decide (h > 23))) || (decide (mi > 59))) || (decide (s > 60))) = true) : timeM y mo d h mi s off = none := by
  simp only [Bool.or_eq_true, decide_eq_true_eq] at hc
  rw [timeM, if_pos (by omega)]
theorem time_yes {y mo d h mi s : Int} (hc : (((((((((decide (y < 1)) || (decide (y > 9999))) || (decide (mo < 1))) || (decide (mo > 12))) || (decide (d < 1))) || (decide (d > (mlen y mo)))) || (decide (h > 23))) || (decide (mi > 59))) || (decide (s > 60))) = false) :
    1 ≤ y ∧ y ≤ 9999 ∧ 1 ≤ mo ∧ mo ≤ 12 ∧ 1 ≤ d ∧ d ≤ mlen y mo ∧ h ≤ 23 ∧ mi ≤ 59 ∧ s ≤ 60 := by
  simp only [Bool.or_eq_false_iff, decide_eq_false_iff_not] at hc
  omega
theorem time_is {y mo d h mi s off t : Int} (h1 : 1 ≤ y) (h2 : y ≤ 9999) (h3 : 1 ≤ mo) (h4 : mo ≤ 12) (h5 : 1 ≤ d) (h6 : d ≤ mlen y mo) (h7 : h ≤ 23) (h8 : mi ≤ 59) (h9 : s ≤ 60) {k : Nat}
    (ht : t = cumF (bef y - 719162 + d - 1) y k * 86400 + h * 3600 + mi * 60 + (if 59 < s then 59 else s) - off) (hk : (k : Int) + 1 = mo) : timeM y mo d h mi s off = some t := by
  rw [timeM, if_neg (by omega), ht, cumF_eq]
  have : (mo - 1).toNat = k := by omega
  rw [this]
  congr 1
  split <;> split <;> omega

theorem time_ (y mo d h mi s off : Int) (hy : -20000 ≤ y ∧ y ≤ 20000) (hmo : -20000 ≤ mo ∧ mo ≤ 20000) (hd : -20000 ≤ d ∧ d ≤ 20000) (hh : -20000 ≤ h ∧ h ≤ 20000) (hmi : -20000 ≤ mi ∧ mi ≤ 20000) (hs : -20000 ≤ s ∧ s ≤ 20000) (ho : -1000000000 ≤ off ∧ off ≤ 1000000000) (W0 : World) (H : List Grp) : Tri Tryz.prog 40 #[.agg #[.int .i64 y, .int .i64 mo, .int .i64 d, .int .i64 h, .int .i64 mi, .int .i64 s], .int .i64 off] W0 H (fun v H' => v = tErr (timeM y mo d h mi s off) ∧ H' = H) := by
  refine Tri_of (args := [.agg #[.int .i64 y, .int .i64 mo, .int .i64 d, .int .i64 h, .int .i64 mi, .int .i64 s], .int .i64 off]) (n := 92) Tryz.func40 rfl rfl (Nat.le_of_ble_eq_true rfl) ?_
  refine G_seq ?_
  refine G_region ?_
  refine GL_box (i := 0) (ch := []) (v := .agg #[.int .i64 y, .int .i64 mo, .int .i64 d, .int .i64 h, .int .i64 mi, .int .i64 s]) rfl rfl (by kernel_rfl) (by kernel_rfl) (by kernel_rfl) (by kernel_rfl) (fun b1 => ?_)
  refine GL_fin (E' := [⟨1, [], .int .i64 off⟩, ⟨2, [], .pointer (some ⟨b1, 0, none⟩)⟩]) [0, 0] [1, 2] rfl (by kernel_rfl) ?_
  refine N_then ?_
  refine G_seq ?_
  refine G_seq ?_
  refine G_regionD (by kernel_rfl) (by kernel_rfl) ?_
  refine GL_pure (E' := [⟨8, [], .pointer (some ⟨b1, 0, none⟩)⟩, ⟨1, [], .int .i64 off⟩, ⟨2, [], .pointer (some ⟨b1, 0, none⟩)⟩]) [0] (by kernel_rfl) (j := 1) rfl ?_
  refine GL_load (i := 1) (ch := []) (b := b1) (off := 0) (v := .int .i64 y) rfl rfl (by kernel_rfl) (by kernel_rfl) (by kernel_rfl) (by kernel_rfl) (by kernel_rfl) (At.grp 0 0 rfl rfl) rfl ?_
  refine GL_pure (E' := [⟨12, [(11, false)], .pointer (some ⟨b1, 0, none⟩)⟩, ⟨11, [], .bool (decide (y < 1))⟩, ⟨10, [], .bool (decide (y < 1))⟩, ⟨9, [], .int .i64 y⟩, ⟨8, [], .pointer (some ⟨b1, 0, none⟩)⟩, ⟨1, [], .int .i64 off⟩, ⟨2, [], .pointer (some ⟨b1, 0, none⟩)⟩]) [0, 0, 0] (by kernel_rfl) (j := 5) rfl ?_
  refine GL_load (i := 5) (ch := [(11, false)]) (b := b1) (off := 0) (v := .int .i64 y) rfl rfl (by kernel_rfl) (by kernel_rfl) (by kernel_rfl) (by kernel_rfl) (by kernel_rfl) (At.grp 0 0 rfl rfl) rfl ?_
  refine GL_pure (E' := [⟨17, [(16, false)], .pointer (some ⟨b1, 1, none⟩)⟩, ⟨16, [], .bool ((decide (y < 1)) || (decide (y > 9999)))⟩, ⟨15, [], .bool ((decide (y < 1)) || (decide (y > 9999)))⟩, ⟨14, [(11, false)], .bool (decide (y > 9999))⟩, ⟨13, [(11, false)], .int .i64 y⟩, ⟨12, [(11, false)], .pointer (some ⟨b1, 0, none⟩)⟩, ⟨11, [], .bool (decide (y < 1))⟩, ⟨10, [], .bool (decide (y < 1))⟩, ⟨9, [], .int .i64 y⟩, ⟨8, [], .pointer (some ⟨b1, 0, none⟩)⟩, ⟨1, [], .int .i64 off⟩, ⟨2, [], .pointer (some ⟨b1, 0, none⟩)⟩]) [0, 5, 0, 0] (by kernel_rfl) (j := 10) rfl ?_
  refine GL_load (i := 10) (ch := [(16, false)]) (b := b1) (off := 1) (v := .int .i64 mo) rfl rfl (by kernel_rfl) (by kernel_rfl) (by kernel_rfl) (by kernel_rfl) (by kernel_rfl) (At.grp 0 0 rfl rfl) rfl ?_
  refine GL_pure (E' := [⟨22, [(21, false)], .pointer (some ⟨b1, 1, none⟩)⟩, ⟨21, [], .bool (((decide (y < 1)) || (decide (y > 9999))) || (decide (mo < 1)))⟩, ⟨20, [], .bool (((decide (y < 1)) || (decide (y > 9999))) || (decide (mo < 1)))⟩, ⟨19, [(16, false)], .bool (decide (mo < 1))⟩, ⟨18, [(16, false)], .int .i64 mo⟩, ⟨17, [(16, false)], .pointer (some ⟨b1, 1, none⟩)⟩, ⟨16, [], .bool ((decide (y < 1)) || (decide (y > 9999)))⟩, ⟨15, [], .bool ((decide (y < 1)) || (decide (y > 9999)))⟩, ⟨14, [(11, false)], .bool (decide (y > 9999))⟩, ⟨13, [(11, false)], .int .i64 y⟩, ⟨12, [(11, false)], .pointer (some ⟨b1, 0, none⟩)⟩, ⟨11, [], .bool (decide (y < 1))⟩, ⟨10, [], .bool (decide (y < 1))⟩, ⟨9, [], .int .i64 y⟩, ⟨8, [], .pointer (some ⟨b1, 0, none⟩)⟩, ⟨1, [], .int .i64 off⟩, ⟨2, [], .pointer (some ⟨b1, 0, none⟩)⟩]) [0, 5, 0, 0] (by kernel_rfl) (j := 15) rfl ?_
  refine GL_load (i := 15) (ch := [(21, false)]) (b := b1) (off := 1) (v := .int .i64 mo) rfl rfl (by kernel_rfl) (by kernel_rfl) (by kernel_rfl) (by kernel_rfl) (by kernel_rfl) (At.grp 0 0 rfl rfl) rfl ?_
  refine GL_pure (E' := [⟨27, [(26, false)], .pointer (some ⟨b1, 2, none⟩)⟩, ⟨26, [], .bool ((((decide (y < 1)) || (decide (y > 9999))) || (decide (mo < 1))) || (decide (mo > 12)))⟩, ⟨25, [], .bool ((((decide (y < 1)) || (decide (y > 9999))) || (decide (mo < 1))) || (decide (mo > 12)))⟩, ⟨24, [(21, false)], .bool (decide (mo > 12))⟩, ⟨23, [(21, false)], .int .i64 mo⟩, ⟨22, [(21, false)], .pointer (some ⟨b1, 1, none⟩)⟩, ⟨21, [], .bool (((decide (y < 1)) || (decide (y > 9999))) || (decide (mo < 1)))⟩, ⟨20, [], .bool (((decide (y < 1)) || (decide (y > 9999))) || (decide (mo < 1)))⟩, ⟨19, [(16, false)], .bool (decide (mo < 1))⟩, ⟨18, [(16, false)], .int .i64 mo⟩, ⟨17, [(16, false)], .pointer (some ⟨b1, 1, none⟩)⟩, ⟨16, [], .bool ((decide (y < 1)) || (decide (y > 9999)))⟩, ⟨15, [], .bool ((decide (y < 1)) || (decide (y > 9999)))⟩, ⟨14, [(11, false)], .bool (decide (y > 9999))⟩, ⟨13, [(11, false)], .int .i64 y⟩, ⟨12, [(11, false)], .pointer (some ⟨b1, 0, none⟩)⟩, ⟨11, [], .bool (decide (y < 1))⟩, ⟨10, [], .bool (decide (y < 1))⟩, ⟨9, [], .int .i64 y⟩, ⟨8, [], .pointer (some ⟨b1, 0, none⟩)⟩, ⟨1, [], .int .i64 off⟩, ⟨2, [], .pointer (some ⟨b1, 0, none⟩)⟩]) [0, 5, 0, 0] (by kernel_rfl) (j := 20) rfl ?_
  refine GL_load (i := 20) (ch := [(26, false)]) (b := b1) (off := 2) (v := .int .i64 d) rfl rfl (by kernel_rfl) (by kernel_rfl) (by kernel_rfl) (by kernel_rfl) (by kernel_rfl) (At.grp 0 0 rfl rfl) rfl ?_
  refine GL_pure (E' := [⟨32, [(31, false)], .pointer (some ⟨b1, 2, none⟩)⟩, ⟨31, [], .bool (((((decide (y < 1)) || (decide (y > 9999))) || (decide (mo < 1))) || (decide (mo > 12))) || (decide (d < 1)))⟩, ⟨30, [], .bool (((((decide (y < 1)) || (decide (y > 9999))) || (decide (mo < 1))) || (decide (mo > 12))) || (decide (d < 1)))⟩, ⟨29, [(26, false)], .bool (decide (d < 1))⟩, ⟨28, [(26, false)], .int .i64 d⟩, ⟨27, [(26, false)], .pointer (some ⟨b1, 2, none⟩)⟩, ⟨26, [], .bool ((((decide (y < 1)) || (decide (y > 9999))) || (decide (mo < 1))) || (decide (mo > 12)))⟩, ⟨25, [], .bool ((((decide (y < 1)) || (decide (y > 9999))) || (decide (mo < 1))) || (decide (mo > 12)))⟩, ⟨24, [(21, false)], .bool (decide (mo > 12))⟩, ⟨23, [(21, false)], .int .i64 mo⟩, ⟨22, [(21, false)], .pointer (some ⟨b1, 1, none⟩)⟩, ⟨21, [], .bool (((decide (y < 1)) || (decide (y > 9999))) || (decide (mo < 1)))⟩, ⟨20, [], .bool (((decide (y < 1)) || (decide (y > 9999))) || (decide (mo < 1)))⟩, ⟨19, [(16, false)], .bool (decide (mo < 1))⟩, ⟨18, [(16, false)], .int .i64 mo⟩, ⟨17, [(16, false)], .pointer (some ⟨b1, 1, none⟩)⟩, ⟨16, [], .bool ((decide (y < 1)) || (decide (y > 9999)))⟩, ⟨15, [], .bool ((decide (y < 1)) || (decide (y > 9999)))⟩, ⟨14, [(11, false)], .bool (decide (y > 9999))⟩, ⟨13, [(11, false)], .int .i64 y⟩, ⟨12, [(11, false)], .pointer (some ⟨b1, 0, none⟩)⟩, ⟨11, [], .bool (decide (y < 1))⟩, ⟨10, [], .bool (decide (y < 1))⟩, ⟨9, [], .int .i64 y⟩, ⟨8, [], .pointer (some ⟨b1, 0, none⟩)⟩, ⟨1, [], .int .i64 off⟩, ⟨2, [], .pointer (some ⟨b1, 0, none⟩)⟩]) [0, 5, 0, 0] (by kernel_rfl) (j := 25) rfl ?_
  refine GL_load (i := 25) (ch := [(31, false)]) (b := b1) (off := 2) (v := .int .i64 d) rfl rfl (by kernel_rfl) (by kernel_rfl) (by kernel_rfl) (by kernel_rfl) (by kernel_rfl) (At.grp 0 0 rfl rfl) rfl ?_
  refine GL_pure (E' := [⟨34, [(31, false)], .pointer (some ⟨b1, 0, none⟩)⟩, ⟨33, [(31, false)], .int .i64 d⟩, ⟨32, [(31, false)], .pointer (some ⟨b1, 2, none⟩)⟩, ⟨31, [], .bool (((((decide (y < 1)) || (decide (y > 9999))) || (decide (mo < 1))) || (decide (mo > 12))) || (decide (d < 1)))⟩, ⟨30, [], .bool (((((decide (y < 1)) || (decide (y > 9999))) || (decide (mo < 1))) || (decide (mo > 12))) || (decide (d < 1)))⟩, ⟨29, [(26, false)], .bool (decide (d < 1))⟩, ⟨28, [(26, false)], .int .i64 d⟩, ⟨27, [(26, false)], .pointer (some ⟨b1, 2, none⟩)⟩, ⟨26, [], .bool ((((decide (y < 1)) || (decide (y > 9999))) || (decide (mo < 1))) || (decide (mo > 12)))⟩, ⟨25, [], .bool ((((decide (y < 1)) || (decide (y > 9999))) || (decide (mo < 1))) || (decide (mo > 12)))⟩, ⟨24, [(21, false)], .bool (decide (mo > 12))⟩, ⟨23, [(21, false)], .int .i64 mo⟩, ⟨22, [(21, false)], .pointer (some ⟨b1, 1, none⟩)⟩, ⟨21, [], .bool (((decide (y < 1)) || (decide (y > 9999))) || (decide (mo < 1)))⟩, ⟨20, [], .bool (((decide (y < 1)) || (decide (y > 9999))) || (decide (mo < 1)))⟩, ⟨19, [(16, false)], .bool (decide (mo < 1))⟩, ⟨18, [(16, false)], .int .i64 mo⟩, ⟨17, [(16, false)], .pointer (some ⟨b1, 1, none⟩)⟩, ⟨16, [], .bool ((decide (y < 1)) || (decide (y > 9999)))⟩, ⟨15, [], .bool ((decide (y < 1)) || (decide (y > 9999)))⟩, ⟨14, [(11, false)], .bool (decide (y > 9999))⟩, ⟨13, [(11, false)], .int .i64 y⟩, ⟨12, [(11, false)], .pointer (some ⟨b1, 0, none⟩)⟩, ⟨11, [], .bool (decide (y < 1))⟩, ⟨10, [], .bool (decide (y < 1))⟩, ⟨9, [], .int .i64 y⟩, ⟨8, [], .pointer (some ⟨b1, 0, none⟩)⟩, ⟨1, [], .int .i64 off⟩, ⟨2, [], .pointer (some ⟨b1, 0, none⟩)⟩]) [0] (by kernel_rfl) (j := 27) rfl ?_
  refine GL_load (i := 27) (ch := [(31, false)]) (b := b1) (off := 0) (v := .int .i64 y) rfl rfl (by kernel_rfl) (by kernel_rfl) (by kernel_rfl) (by kernel_rfl) (by kernel_rfl) (At.grp 0 0 rfl rfl) rfl ?_
  refine GL_pure (E' := [⟨36, [(31, false)], .pointer (some ⟨b1, 1, none⟩)⟩, ⟨35, [(31, false)], .int .i64 y⟩, ⟨34, [(31, false)], .pointer (some ⟨b1, 0, none⟩)⟩, ⟨33, [(31, false)], .int .i64 d⟩, ⟨32, [(31, false)], .pointer (some ⟨b1, 2, none⟩)⟩, ⟨31, [], .bool (((((decide (y < 1)) || (decide (y > 9999))) || (decide (mo < 1))) || (decide (mo > 12))) || (decide (d < 1)))⟩, ⟨30, [], .bool (((((decide (y < 1)) || (decide (y > 9999))) || (decide (mo < 1))) || (decide (mo > 12))) || (decide (d < 1)))⟩, ⟨29, [(26, false)], .bool (decide (d < 1))⟩, ⟨28, [(26, false)], .int .i64 d⟩, ⟨27, [(26, false)], .pointer (some ⟨b1, 2, none⟩)⟩, ⟨26, [], .bool ((((decide (y < 1)) || (decide (y > 9999))) || (decide (mo < 1))) || (decide (mo > 12)))⟩, ⟨25, [], .bool ((((decide (y < 1)) || (decide (y > 9999))) || (decide (mo < 1))) || (decide (mo > 12)))⟩, ⟨24, [(21, false)], .bool (decide (mo > 12))⟩, ⟨23, [(21, false)], .int .i64 mo⟩, ⟨22, [(21, false)], .pointer (some ⟨b1, 1, none⟩)⟩, ⟨21, [], .bool (((decide (y < 1)) || (decide (y > 9999))) || (decide (mo < 1)))⟩, ⟨20, [], .bool (((decide (y < 1)) || (decide (y > 9999))) || (decide (mo < 1)))⟩, ⟨19, [(16, false)], .bool (decide (mo < 1))⟩, ⟨18, [(16, false)], .int .i64 mo⟩, ⟨17, [(16, false)], .pointer (some ⟨b1, 1, none⟩)⟩, ⟨16, [], .bool ((decide (y < 1)) || (decide (y > 9999)))⟩, ⟨15, [], .bool ((decide (y < 1)) || (decide (y > 9999)))⟩, ⟨14, [(11, false)], .bool (decide (y > 9999))⟩, ⟨13, [(11, false)], .int .i64 y⟩, ⟨12, [(11, false)], .pointer (some ⟨b1, 0, none⟩)⟩, ⟨11, [], .bool (decide (y < 1))⟩, ⟨10, [], .bool (decide (y < 1))⟩, ⟨9, [], .int .i64 y⟩, ⟨8, [], .pointer (some ⟨b1, 0, none⟩)⟩, ⟨1, [], .int .i64 off⟩, ⟨2, [], .pointer (some ⟨b1, 0, none⟩)⟩]) [0] (by kernel_rfl) (j := 29) rfl ?_
  refine GL_load (i := 29) (ch := [(31, false)]) (b := b1) (off := 1) (v := .int .i64 mo) rfl rfl (by kernel_rfl) (by kernel_rfl) (by kernel_rfl) (by kernel_rfl) (by kernel_rfl) (At.grp 0 0 rfl rfl) rfl ?_
  refine GL_callQ (i := 30) (ch := [(31, false)]) (f := 43) (fst := #[]) (caps := #[]) (vs := [.int .i64 y, .int .i64 mo]) (v := .int .i64 (mlen y mo)) rfl rfl rfl (by kernel_rfl) (by kernel_rfl) Tryz.func43 rfl rfl (by kernel_rfl) (by kernel_rfl) (by kernel_rfl) (fun hc => length_ _ _ (by have hg0 := chB_hd (t := 31) (c := []) (b := ((((decide (y < 1)) || (decide (y > 9999))) || (decide (mo < 1))) || (decide (mo > 12))) || (decide (d < 1))) hc (by kernel_rfl); (try simp at hg0); omega) _ _) ?_
  refine GL_pure (E' := [⟨42, [(41, false)], .pointer (some ⟨b1, 3, none⟩)⟩, ⟨41, [], .bool ((((((decide (y < 1)) || (decide (y > 9999))) || (decide (mo < 1))) || (decide (mo > 12))) || (decide (d < 1))) || (decide (d > (mlen y mo))))⟩, ⟨40, [], .bool ((((((decide (y < 1)) || (decide (y > 9999))) || (decide (mo < 1))) || (decide (mo > 12))) || (decide (d < 1))) || (decide (d > (mlen y mo))))⟩, ⟨39, [(31, false)], .bool (decide (d > (mlen y mo)))⟩, ⟨38, [(31, false)], .int .i64 (mlen y mo)⟩, ⟨37, [(31, false)], .int .i64 mo⟩, ⟨36, [(31, false)], .pointer (some ⟨b1, 1, none⟩)⟩, ⟨35, [(31, false)], .int .i64 y⟩, ⟨34, [(31, false)], .pointer (some ⟨b1, 0, none⟩)⟩, ⟨33, [(31, false)], .int .i64 d⟩, ⟨32, [(31, false)], .pointer (some ⟨b1, 2, none⟩)⟩, ⟨31, [], .bool (((((decide (y < 1)) || (decide (y > 9999))) || (decide (mo < 1))) || (decide (mo > 12))) || (decide (d < 1)))⟩, ⟨30, [], .bool (((((decide (y < 1)) || (decide (y > 9999))) || (decide (mo < 1))) || (decide (mo > 12))) || (decide (d < 1)))⟩, ⟨29, [(26, false)], .bool (decide (d < 1))⟩, ⟨28, [(26, false)], .int .i64 d⟩, ⟨27, [(26, false)], .pointer (some ⟨b1, 2, none⟩)⟩, ⟨26, [], .bool ((((decide (y < 1)) || (decide (y > 9999))) || (decide (mo < 1))) || (decide (mo > 12)))⟩, ⟨25, [], .bool ((((decide (y < 1)) || (decide (y > 9999))) || (decide (mo < 1))) || (decide (mo > 12)))⟩, ⟨24, [(21, false)], .bool (decide (mo > 12))⟩, ⟨23, [(21, false)], .int .i64 mo⟩, ⟨22, [(21, false)], .pointer (some ⟨b1, 1, none⟩)⟩, ⟨21, [], .bool (((decide (y < 1)) || (decide (y > 9999))) || (decide (mo < 1)))⟩, ⟨20, [], .bool (((decide (y < 1)) || (decide (y > 9999))) || (decide (mo < 1)))⟩, ⟨19, [(16, false)], .bool (decide (mo < 1))⟩, ⟨18, [(16, false)], .int .i64 mo⟩, ⟨17, [(16, false)], .pointer (some ⟨b1, 1, none⟩)⟩, ⟨16, [], .bool ((decide (y < 1)) || (decide (y > 9999)))⟩, ⟨15, [], .bool ((decide (y < 1)) || (decide (y > 9999)))⟩, ⟨14, [(11, false)], .bool (decide (y > 9999))⟩, ⟨13, [(11, false)], .int .i64 y⟩, ⟨12, [(11, false)], .pointer (some ⟨b1, 0, none⟩)⟩, ⟨11, [], .bool (decide (y < 1))⟩, ⟨10, [], .bool (decide (y < 1))⟩, ⟨9, [], .int .i64 y⟩, ⟨8, [], .pointer (some ⟨b1, 0, none⟩)⟩, ⟨1, [], .int .i64 off⟩, ⟨2, [], .pointer (some ⟨b1, 0, none⟩)⟩]) [0, 5, 0, 0] (by kernel_rfl) (j := 35) rfl ?_
  refine GL_load (i := 35) (ch := [(41, false)]) (b := b1) (off := 3) (v := .int .i64 h) rfl rfl (by kernel_rfl) (by kernel_rfl) (by kernel_rfl) (by kernel_rfl) (by kernel_rfl) (At.grp 0 0 rfl rfl) rfl ?_
  refine GL_pure (E' := [⟨47, [(46, false)], .pointer (some ⟨b1, 4, none⟩)⟩, ⟨46, [], .bool (((((((decide (y < 1)) || (decide (y > 9999))) || (decide (mo < 1))) || (decide (mo > 12))) || (decide (d < 1))) || (decide (d > (mlen y mo)))) || (decide (h > 23)))⟩, ⟨45, [], .bool (((((((decide (y < 1)) || (decide (y > 9999))) || (decide (mo < 1))) || (decide (mo > 12))) || (decide (d < 1))) || (decide (d > (mlen y mo)))) || (decide (h > 23)))⟩, ⟨44, [(41, false)], .bool (decide (h > 23))⟩, ⟨43, [(41, false)], .int .i64 h⟩, ⟨42, [(41, false)], .pointer (some ⟨b1, 3, none⟩)⟩, ⟨41, [], .bool ((((((decide (y < 1)) || (decide (y > 9999))) || (decide (mo < 1))) || (decide (mo > 12))) || (decide (d < 1))) || (decide (d > (mlen y mo))))⟩, ⟨40, [], .bool ((((((decide (y < 1)) || (decide (y > 9999))) || (decide (mo < 1))) || (decide (mo > 12))) || (decide (d < 1))) || (decide (d > (mlen y mo))))⟩, ⟨39, [(31, false)], .bool (decide (d > (mlen y mo)))⟩, ⟨38, [(31, false)], .int .i64 (mlen y mo)⟩, ⟨37, [(31, false)], .int .i64 mo⟩, ⟨36, [(31, false)], .pointer (some ⟨b1, 1, none⟩)⟩, ⟨35, [(31, false)], .int .i64 y⟩, ⟨34, [(31, false)], .pointer (some ⟨b1, 0, none⟩)⟩, ⟨33, [(31, false)], .int .i64 d⟩, ⟨32, [(31, false)], .pointer (some ⟨b1, 2, none⟩)⟩, ⟨31, [], .bool (((((decide (y < 1)) || (decide (y > 9999))) || (decide (mo < 1))) || (decide (mo > 12))) || (decide (d < 1)))⟩, ⟨30, [], .bool (((((decide (y < 1)) || (decide (y > 9999))) || (decide (mo < 1))) || (decide (mo > 12))) || (decide (d < 1)))⟩, ⟨29, [(26, false)], .bool (decide (d < 1))⟩, ⟨28, [(26, false)], .int .i64 d⟩, ⟨27, [(26, false)], .pointer (some ⟨b1, 2, none⟩)⟩, ⟨26, [], .bool ((((decide (y < 1)) || (decide (y > 9999))) || (decide (mo < 1))) || (decide (mo > 12)))⟩, ⟨25, [], .bool ((((decide (y < 1)) || (decide (y > 9999))) || (decide (mo < 1))) || (decide (mo > 12)))⟩, ⟨24, [(21, false)], .bool (decide (mo > 12))⟩, ⟨23, [(21, false)], .int .i64 mo⟩, ⟨22, [(21, false)], .pointer (some ⟨b1, 1, none⟩)⟩, ⟨21, [], .bool (((decide (y < 1)) || (decide (y > 9999))) || (decide (mo < 1)))⟩, ⟨20, [], .bool (((decide (y < 1)) || (decide (y > 9999))) || (decide (mo < 1)))⟩, ⟨19, [(16, false)], .bool (decide (mo < 1))⟩, ⟨18, [(16, false)], .int .i64 mo⟩, ⟨17, [(16, false)], .pointer (some ⟨b1, 1, none⟩)⟩, ⟨16, [], .bool ((decide (y < 1)) || (decide (y > 9999)))⟩, ⟨15, [], .bool ((decide (y < 1)) || (decide (y > 9999)))⟩, ⟨14, [(11, false)], .bool (decide (y > 9999))⟩, ⟨13, [(11, false)], .int .i64 y⟩, ⟨12, [(11, false)], .pointer (some ⟨b1, 0, none⟩)⟩, ⟨11, [], .bool (decide (y < 1))⟩, ⟨10, [], .bool (decide (y < 1))⟩, ⟨9, [], .int .i64 y⟩, ⟨8, [], .pointer (some ⟨b1, 0, none⟩)⟩, ⟨1, [], .int .i64 off⟩, ⟨2, [], .pointer (some ⟨b1, 0, none⟩)⟩]) [0, 5, 0, 0] (by kernel_rfl) (j := 40) rfl ?_
  refine GL_load (i := 40) (ch := [(46, false)]) (b := b1) (off := 4) (v := .int .i64 mi) rfl rfl (by kernel_rfl) (by kernel_rfl) (by kernel_rfl) (by kernel_rfl) (by kernel_rfl) (At.grp 0 0 rfl rfl) rfl ?_
  refine GL_pure (E' := [⟨52, [(51, false)], .pointer (some ⟨b1, 5, none⟩)⟩, ⟨51, [], .bool ((((((((decide (y < 1)) || (decide (y > 9999))) || (decide (mo < 1))) || (decide (mo > 12))) || (decide (d < 1))) || (decide (d > (mlen y mo)))) || (decide (h > 23))) || (decide (mi > 59)))⟩, ⟨50, [], .bool ((((((((decide (y < 1)) || (decide (y > 9999))) || (decide (mo < 1))) || (decide (mo > 12))) || (decide (d < 1))) || (decide (d > (mlen y mo)))) || (decide (h > 23))) || (decide (mi > 59)))⟩, ⟨49, [(46, false)], .bool (decide (mi > 59))⟩, ⟨48, [(46, false)], .int .i64 mi⟩, ⟨47, [(46, false)], .pointer (some ⟨b1, 4, none⟩)⟩, ⟨46, [], .bool (((((((decide (y < 1)) || (decide (y > 9999))) || (decide (mo < 1))) || (decide (mo > 12))) || (decide (d < 1))) || (decide (d > (mlen y mo)))) || (decide (h > 23)))⟩, ⟨45, [], .bool (((((((decide (y < 1)) || (decide (y > 9999))) || (decide (mo < 1))) || (decide (mo > 12))) || (decide (d < 1))) || (decide (d > (mlen y mo)))) || (decide (h > 23)))⟩, ⟨44, [(41, false)], .bool (decide (h > 23))⟩, ⟨43, [(41, false)], .int .i64 h⟩, ⟨42, [(41, false)], .pointer (some ⟨b1, 3, none⟩)⟩, ⟨41, [], .bool ((((((decide (y < 1)) || (decide (y > 9999))) || (decide (mo < 1))) || (decide (mo > 12))) || (decide (d < 1))) || (decide (d > (mlen y mo))))⟩, ⟨40, [], .bool ((((((decide (y < 1)) || (decide (y > 9999))) || (decide (mo < 1))) || (decide (mo > 12))) || (decide (d < 1))) || (decide (d > (mlen y mo))))⟩, ⟨39, [(31, false)], .bool (decide (d > (mlen y mo)))⟩, ⟨38, [(31, false)], .int .i64 (mlen y mo)⟩, ⟨37, [(31, false)], .int .i64 mo⟩, ⟨36, [(31, false)], .pointer (some ⟨b1, 1, none⟩)⟩, ⟨35, [(31, false)], .int .i64 y⟩, ⟨34, [(31, false)], .pointer (some ⟨b1, 0, none⟩)⟩, ⟨33, [(31, false)], .int .i64 d⟩, ⟨32, [(31, false)], .pointer (some ⟨b1, 2, none⟩)⟩, ⟨31, [], .bool (((((decide (y < 1)) || (decide (y > 9999))) || (decide (mo < 1))) || (decide (mo > 12))) || (decide (d < 1)))⟩, ⟨30, [], .bool (((((decide (y < 1)) || (decide (y > 9999))) || (decide (mo < 1))) || (decide (mo > 12))) || (decide (d < 1)))⟩, ⟨29, [(26, false)], .bool (decide (d < 1))⟩, ⟨28, [(26, false)], .int .i64 d⟩, ⟨27, [(26, false)], .pointer (some ⟨b1, 2, none⟩)⟩, ⟨26, [], .bool ((((decide (y < 1)) || (decide (y > 9999))) || (decide (mo < 1))) || (decide (mo > 12)))⟩, ⟨25, [], .bool ((((decide (y < 1)) || (decide (y > 9999))) || (decide (mo < 1))) || (decide (mo > 12)))⟩, ⟨24, [(21, false)], .bool (decide (mo > 12))⟩, ⟨23, [(21, false)], .int .i64 mo⟩, ⟨22, [(21, false)], .pointer (some ⟨b1, 1, none⟩)⟩, ⟨21, [], .bool (((decide (y < 1)) || (decide (y > 9999))) || (decide (mo < 1)))⟩, ⟨20, [], .bool (((decide (y < 1)) || (decide (y > 9999))) || (decide (mo < 1)))⟩, ⟨19, [(16, false)], .bool (decide (mo < 1))⟩, ⟨18, [(16, false)], .int .i64 mo⟩, ⟨17, [(16, false)], .pointer (some ⟨b1, 1, none⟩)⟩, ⟨16, [], .bool ((decide (y < 1)) || (decide (y > 9999)))⟩, ⟨15, [], .bool ((decide (y < 1)) || (decide (y > 9999)))⟩, ⟨14, [(11, false)], .bool (decide (y > 9999))⟩, ⟨13, [(11, false)], .int .i64 y⟩, ⟨12, [(11, false)], .pointer (some ⟨b1, 0, none⟩)⟩, ⟨11, [], .bool (decide (y < 1))⟩, ⟨10, [], .bool (decide (y < 1))⟩, ⟨9, [], .int .i64 y⟩, ⟨8, [], .pointer (some ⟨b1, 0, none⟩)⟩, ⟨1, [], .int .i64 off⟩, ⟨2, [], .pointer (some ⟨b1, 0, none⟩)⟩]) [0, 5, 0, 0] (by kernel_rfl) (j := 45) rfl ?_
  refine GL_load (i := 45) (ch := [(51, false)]) (b := b1) (off := 5) (v := .int .i64 s) rfl rfl (by kernel_rfl) (by kernel_rfl) (by kernel_rfl) (by kernel_rfl) (by kernel_rfl) (At.grp 0 0 rfl rfl) rfl ?_
  refine GL_fin (E' := [⟨1, [], .int .i64 off⟩, ⟨2, [], .pointer (some ⟨b1, 0, none⟩)⟩, ⟨55, [], .bool (((((((((decide (y < 1)) || (decide (y > 9999))) || (decide (mo < 1))) || (decide (mo > 12))) || (decide (d < 1))) || (decide (d > (mlen y mo)))) || (decide (h > 23))) || (decide (mi > 59))) || (decide (s > 60)))⟩]) [0, 5] [1, 2, 55] rfl (by kernel_rfl) ?_
  refine N_then ?_
  refine G_cond (b := ((((((((decide (y < 1)) || (decide (y > 9999))) || (decide (mo < 1))) || (decide (mo > 12))) || (decide (d < 1))) || (decide (d > (mlen y mo)))) || (decide (h > 23))) || (decide (mi > 59))) || (decide (s > 60))) (by kernel_rfl) (fun hc2 => ?_) (fun hc2 => ?_)
  ·
    have hn := time_no (off := off) hc2
    refine G_seq ?_
    refine G_pure (E' := [⟨4, [], .int .i64 0⟩, ⟨5, [], .int .i64 30⟩]) [0, 0] [4, 5] rfl (by kernel_rfl) ?_
    refine N_then ?_
    refine G_ret ?_
    refine N_then_ret ?_
    refine N_heap (H' := H) (fun w h => h.erase 0) ?_
    refine N_ret [.tmp 4, .tmp 5] [.int .i64 0, .int .i64 30] rfl (by kernel_rfl) rfl ?_
    exact ⟨by rw [hn]; rfl, rfl⟩
  ·
    obtain ⟨hf1, hf2, hf3, hf4, hf5, hf6, hf7, hf8, hf9⟩ := time_yes hc2
    have hmn := mlen_bd y mo
    have hbf := bef_bd (y := y) (by omega) (by omega)
    refine G_skip ?_
    refine N_then ?_
    refine G_seq ?_
    refine G_regionD (by kernel_rfl) (by kernel_rfl) ?_
    refine GL_pure (E' := [⟨56, [], .pointer (some ⟨b1, 0, none⟩)⟩, ⟨1, [], .int .i64 off⟩, ⟨2, [], .pointer (some ⟨b1, 0, none⟩)⟩, ⟨55, [], .bool (((((((((decide (y < 1)) || (decide (y > 9999))) || (decide (mo < 1))) || (decide (mo > 12))) || (decide (d < 1))) || (decide (d > (mlen y mo)))) || (decide (h > 23))) || (decide (mi > 59))) || (decide (s > 60)))⟩]) [0] (by kernel_rfl) (j := 1) rfl ?_
    refine GL_load (i := 1) (ch := []) (b := b1) (off := 0) (v := .int .i64 y) rfl rfl (by kernel_rfl) (by kernel_rfl) (by kernel_rfl) (by kernel_rfl) (by kernel_rfl) (At.grp 0 0 rfl rfl) rfl ?_
    refine GL_callQ (i := 2) (ch := []) (f := 42) (fst := #[]) (caps := #[]) (vs := [.int .i64 y]) (v := .int .i64 (bef y)) rfl rfl rfl (by kernel_rfl) (by kernel_rfl) Tryz.func42 rfl rfl (by kernel_rfl) (by kernel_rfl) (by kernel_rfl) (fun _ => before_ _ (by omega) (by omega) _ _) ?_
    have hw3 : IntKind.wrap .i64 ((bef y) - 719162) = (bef y) - 719162 := w64 (by omega) (by omega)
    refine GL_pure (E' := [⟨60, [], .pointer (some ⟨b1, 2, none⟩)⟩, ⟨59, [], .int .i64 ((bef y) - 719162)⟩, ⟨58, [], .int .i64 (bef y)⟩, ⟨57, [], .int .i64 y⟩, ⟨56, [], .pointer (some ⟨b1, 0, none⟩)⟩, ⟨1, [], .int .i64 off⟩, ⟨2, [], .pointer (some ⟨b1, 0, none⟩)⟩, ⟨55, [], .bool (((((((((decide (y < 1)) || (decide (y > 9999))) || (decide (mo < 1))) || (decide (mo > 12))) || (decide (d < 1))) || (decide (d > (mlen y mo)))) || (decide (h > 23))) || (decide (mi > 59))) || (decide (s > 60)))⟩]) [0, 0] (Eq.trans (b := some [⟨60, [], .pointer (some ⟨b1, 2, none⟩)⟩, ⟨59, [], .int .i64 (IntKind.wrap .i64 ((bef y) - 719162))⟩, ⟨58, [], .int .i64 (bef y)⟩, ⟨57, [], .int .i64 y⟩, ⟨56, [], .pointer (some ⟨b1, 0, none⟩)⟩, ⟨1, [], .int .i64 off⟩, ⟨2, [], .pointer (some ⟨b1, 0, none⟩)⟩, ⟨55, [], .bool (((((((((decide (y < 1)) || (decide (y > 9999))) || (decide (mo < 1))) || (decide (mo > 12))) || (decide (d < 1))) || (decide (d > (mlen y mo)))) || (decide (h > 23))) || (decide (mi > 59))) || (decide (s > 60)))⟩]) (by kernel_rfl) (by simp only [hw3])) (j := 5) rfl ?_
    refine GL_load (i := 5) (ch := []) (b := b1) (off := 2) (v := .int .i64 d) rfl rfl (by kernel_rfl) (by kernel_rfl) (by kernel_rfl) (by kernel_rfl) (by kernel_rfl) (At.grp 0 0 rfl rfl) rfl ?_
    have hw4 : IntKind.wrap .i64 (((bef y) - 719162) + d) = ((bef y) - 719162) + d := w64 (by omega) (by omega)
    have hw5 : IntKind.wrap .i64 ((((bef y) - 719162) + d) - 1) = (((bef y) - 719162) + d) - 1 := w64 (by omega) (by omega)
    refine GL_fin (E' := [⟨1, [], .int .i64 off⟩, ⟨2, [], .pointer (some ⟨b1, 0, none⟩)⟩, ⟨6, [], .int .i64 ((((bef y) - 719162) + d) - 1)⟩]) [0, 0, 0] [1, 2, 6] rfl (Eq.trans (b := some [⟨1, [], .int .i64 off⟩, ⟨2, [], .pointer (some ⟨b1, 0, none⟩)⟩, ⟨6, [], .int .i64 (IntKind.wrap .i64 ((IntKind.wrap .i64 (((bef y) - 719162) + d)) - 1))⟩]) (by kernel_rfl) (by simp only [hw4, hw5])) ?_
    refine N_then ?_
    refine G_seq ?_
    refine G_seq ?_
    refine G_pure (E' := [⟨1, [], .int .i64 off⟩, ⟨2, [], .pointer (some ⟨b1, 0, none⟩)⟩, ⟨6, [], .int .i64 ((((bef y) - 719162) + d) - 1)⟩, ⟨7, [], .int .i64 1⟩]) [0] [1, 2, 6, 7] rfl (by kernel_rfl) ?_
    refine N_then ?_
    refine G_block ?_
    refine G_loop (EI := (fun ξ : Nat => [⟨1, [], .int .i64 off⟩, ⟨2, [], .pointer (some ⟨b1, 0, none⟩)⟩, ⟨6, [], .int .i64 (cumF (bef y - 719162 + d - 1) y ξ)⟩, ⟨7, [], .int .i64 (((ξ + 1 : Nat)) : Int)⟩])) (HI := (fun ξ : Nat => ([(b1, .cells #[.int .i64 y, .int .i64 mo, .int .i64 d, .int .i64 h, .int .i64 mi, .int .i64 s] 44 (0, 0))] :: H))) (Φ := (fun ξ : Nat => (((ξ : Nat) : Int) + 1 ≤ mo))) (μ := (fun ξ : Nat => (mo - ξ).toNat)) (s0 := (0)) [1, 2, 6, 7] (by kernel_rfl) rfl (by omega) ?_
    rintro k hk
    have hcf := cumF_bd (bef y - 719162 + d - 1) y k
    have hml := mlen_bd y ((k + 1 : Nat) : Int)
    refine G_seq ?_
    refine G_seq ?_
    refine G_region ?_
    refine GL_pure (E' := [⟨65, [], .pointer (some ⟨b1, 1, none⟩)⟩, ⟨64, [], .int .i64 (((k + 1 : Nat)) : Int)⟩, ⟨1, [], .int .i64 off⟩, ⟨2, [], .pointer (some ⟨b1, 0, none⟩)⟩, ⟨6, [], .int .i64 (cumF (bef y - 719162 + d - 1) y k)⟩, ⟨7, [], .int .i64 (((k + 1 : Nat)) : Int)⟩]) [0, 0] (by kernel_rfl) (j := 2) rfl ?_
    refine GL_load (i := 2) (ch := []) (b := b1) (off := 1) (v := .int .i64 mo) rfl rfl (by kernel_rfl) (by kernel_rfl) (by kernel_rfl) (by kernel_rfl) (by kernel_rfl) (At.grp 0 0 rfl rfl) rfl ?_
    refine GL_fin (E' := [⟨1, [], .int .i64 off⟩, ⟨2, [], .pointer (some ⟨b1, 0, none⟩)⟩, ⟨6, [], .int .i64 (cumF (bef y - 719162 + d - 1) y k)⟩, ⟨7, [], .int .i64 (((k + 1 : Nat)) : Int)⟩, ⟨67, [], .bool (decide ((((k + 1 : Nat)) : Int) < mo))⟩]) [0] [1, 2, 6, 7, 67] rfl (by kernel_rfl) ?_
    refine N_then ?_
    refine G_cond (b := decide ((((k + 1 : Nat)) : Int) < mo)) (by kernel_rfl) (fun hc6 => ?_) (fun hc6 => ?_)
    ·
      simp at hc6
      refine G_skip ?_
      refine N_then ?_
      refine G_seq ?_
      refine G_block ?_
      refine G_region ?_
      refine GL_pure (E' := [⟨71, [], .pointer (some ⟨b1, 0, none⟩)⟩, ⟨70, [], .int .i64 (cumF (bef y - 719162 + d - 1) y k)⟩, ⟨1, [], .int .i64 off⟩, ⟨2, [], .pointer (some ⟨b1, 0, none⟩)⟩, ⟨6, [], .int .i64 (cumF (bef y - 719162 + d - 1) y k)⟩, ⟨7, [], .int .i64 (((k + 1 : Nat)) : Int)⟩, ⟨67, [], .bool (decide ((((k + 1 : Nat)) : Int) < mo))⟩]) [0, 0] (by kernel_rfl) (j := 2) rfl ?_
      refine GL_load (i := 2) (ch := []) (b := b1) (off := 0) (v := .int .i64 y) rfl rfl (by kernel_rfl) (by kernel_rfl) (by kernel_rfl) (by kernel_rfl) (by kernel_rfl) (At.grp 0 0 rfl rfl) rfl ?_
      refine GL_pure (E' := [⟨73, [], .int .i64 (((k + 1 : Nat)) : Int)⟩, ⟨72, [], .int .i64 y⟩, ⟨71, [], .pointer (some ⟨b1, 0, none⟩)⟩, ⟨70, [], .int .i64 (cumF (bef y - 719162 + d - 1) y k)⟩, ⟨1, [], .int .i64 off⟩, ⟨2, [], .pointer (some ⟨b1, 0, none⟩)⟩, ⟨6, [], .int .i64 (cumF (bef y - 719162 + d - 1) y k)⟩, ⟨7, [], .int .i64 (((k + 1 : Nat)) : Int)⟩, ⟨67, [], .bool (decide ((((k + 1 : Nat)) : Int) < mo))⟩]) [0] (by kernel_rfl) (j := 4) rfl ?_
      refine GL_callQ (i := 4) (ch := []) (f := 43) (fst := #[]) (caps := #[]) (vs := [.int .i64 y, .int .i64 (((k + 1 : Nat)) : Int)]) (v := .int .i64 (mlen y (((k + 1 : Nat)) : Int))) rfl rfl rfl (by kernel_rfl) (by kernel_rfl) Tryz.func43 rfl rfl (by kernel_rfl) (by kernel_rfl) (by kernel_rfl) (fun _ => length_ _ _ (by omega) _ _) ?_
      have hw7 : IntKind.wrap .i64 ((cumF (bef y - 719162 + d - 1) y k) + (mlen y (((k + 1 : Nat)) : Int))) = (cumF (bef y - 719162 + d - 1) y k) + (mlen y (((k + 1 : Nat)) : Int)) := w64 (by omega) (by omega)
      refine GL_fin (E' := [⟨1, [], .int .i64 off⟩, ⟨2, [], .pointer (some ⟨b1, 0, none⟩)⟩, ⟨6, [], .int .i64 ((cumF (bef y - 719162 + d - 1) y k) + (mlen y (((k + 1 : Nat)) : Int)))⟩, ⟨7, [], .int .i64 (((k + 1 : Nat)) : Int)⟩]) [0, 0] [1, 2, 6, 7] rfl (Eq.trans (b := some [⟨1, [], .int .i64 off⟩, ⟨2, [], .pointer (some ⟨b1, 0, none⟩)⟩, ⟨6, [], .int .i64 (IntKind.wrap .i64 ((cumF (bef y - 719162 + d - 1) y k) + (mlen y (((k + 1 : Nat)) : Int))))⟩, ⟨7, [], .int .i64 (((k + 1 : Nat)) : Int)⟩]) (by kernel_rfl) (by simp only [hw7])) ?_
      refine N_block ?_
      refine N_then ?_
      have hw8 : IntKind.wrap .i64 ((((k + 1 : Nat)) : Int) + 1) = (((k + 1 : Nat)) : Int) + 1 := w64 (by omega) (by omega)
      refine G_pure (E' := [⟨1, [], .int .i64 off⟩, ⟨2, [], .pointer (some ⟨b1, 0, none⟩)⟩, ⟨6, [], .int .i64 ((cumF (bef y - 719162 + d - 1) y k) + (mlen y (((k + 1 : Nat)) : Int)))⟩, ⟨7, [], .int .i64 ((((k + 1 : Nat)) : Int) + 1)⟩]) [0, 0, 0] [1, 2, 6, 7] rfl (Eq.trans (b := some [⟨1, [], .int .i64 off⟩, ⟨2, [], .pointer (some ⟨b1, 0, none⟩)⟩, ⟨6, [], .int .i64 ((cumF (bef y - 719162 + d - 1) y k) + (mlen y (((k + 1 : Nat)) : Int)))⟩, ⟨7, [], .int .i64 (IntKind.wrap .i64 ((((k + 1 : Nat)) : Int) + 1))⟩]) (by kernel_rfl) (by simp only [hw8])) ?_
      refine N_round (s' := (k + 1)) [1, 2, 6, 7] (by kernel_rfl) rfl (by omega) (by omega)
    ·
      simp at hc6
      refine G_exit ?_
      refine N_then_exit ?_
      refine N_then_exit ?_
      refine N_block_exit ?_
      refine N_then ?_
      refine G_seq ?_
      have hw9 : IntKind.wrap .i64 ((cumF (bef y - 719162 + d - 1) y k) * 86400) = (cumF (bef y - 719162 + d - 1) y k) * 86400 := w64 (by omega) (by omega)
      refine G_region ?_
      refine GL_pure (E' := [⟨78, [], .pointer (some ⟨b1, 3, none⟩)⟩, ⟨77, [], .int .i64 ((cumF (bef y - 719162 + d - 1) y k) * 86400)⟩, ⟨76, [], .int .i64 (cumF (bef y - 719162 + d - 1) y k)⟩, ⟨1, [], .int .i64 off⟩, ⟨2, [], .pointer (some ⟨b1, 0, none⟩)⟩, ⟨6, [], .int .i64 (cumF (bef y - 719162 + d - 1) y k)⟩, ⟨7, [], .int .i64 (((k + 1 : Nat)) : Int)⟩, ⟨67, [], .bool (decide ((((k + 1 : Nat)) : Int) < mo))⟩]) [0, 0, 0] (Eq.trans (b := some [⟨78, [], .pointer (some ⟨b1, 3, none⟩)⟩, ⟨77, [], .int .i64 (IntKind.wrap .i64 ((cumF (bef y - 719162 + d - 1) y k) * 86400))⟩, ⟨76, [], .int .i64 (cumF (bef y - 719162 + d - 1) y k)⟩, ⟨1, [], .int .i64 off⟩, ⟨2, [], .pointer (some ⟨b1, 0, none⟩)⟩, ⟨6, [], .int .i64 (cumF (bef y - 719162 + d - 1) y k)⟩, ⟨7, [], .int .i64 (((k + 1 : Nat)) : Int)⟩, ⟨67, [], .bool (decide ((((k + 1 : Nat)) : Int) < mo))⟩]) (by kernel_rfl) (by simp only [hw9])) (j := 3) rfl ?_
      refine GL_load (i := 3) (ch := []) (b := b1) (off := 3) (v := .int .i64 h) rfl rfl (by kernel_rfl) (by kernel_rfl) (by kernel_rfl) (by kernel_rfl) (by kernel_rfl) (At.grp 0 0 rfl rfl) rfl ?_
      have hw10 : IntKind.wrap .i64 (h * 3600) = h * 3600 := w64 (by omega) (by omega)
      have hw11 : IntKind.wrap .i64 (((cumF (bef y - 719162 + d - 1) y k) * 86400) + (h * 3600)) = ((cumF (bef y - 719162 + d - 1) y k) * 86400) + (h * 3600) := w64 (by omega) (by omega)
      refine GL_pure (E' := [⟨82, [], .pointer (some ⟨b1, 4, none⟩)⟩, ⟨81, [], .int .i64 (((cumF (bef y - 719162 + d - 1) y k) * 86400) + (h * 3600))⟩, ⟨80, [], .int .i64 (h * 3600)⟩, ⟨79, [], .int .i64 h⟩, ⟨78, [], .pointer (some ⟨b1, 3, none⟩)⟩, ⟨77, [], .int .i64 ((cumF (bef y - 719162 + d - 1) y k) * 86400)⟩, ⟨76, [], .int .i64 (cumF (bef y - 719162 + d - 1) y k)⟩, ⟨1, [], .int .i64 off⟩, ⟨2, [], .pointer (some ⟨b1, 0, none⟩)⟩, ⟨6, [], .int .i64 (cumF (bef y - 719162 + d - 1) y k)⟩, ⟨7, [], .int .i64 (((k + 1 : Nat)) : Int)⟩, ⟨67, [], .bool (decide ((((k + 1 : Nat)) : Int) < mo))⟩]) [0, 0, 0] (Eq.trans (b := some [⟨82, [], .pointer (some ⟨b1, 4, none⟩)⟩, ⟨81, [], .int .i64 (IntKind.wrap .i64 (((cumF (bef y - 719162 + d - 1) y k) * 86400) + (IntKind.wrap .i64 (h * 3600))))⟩, ⟨80, [], .int .i64 (IntKind.wrap .i64 (h * 3600))⟩, ⟨79, [], .int .i64 h⟩, ⟨78, [], .pointer (some ⟨b1, 3, none⟩)⟩, ⟨77, [], .int .i64 ((cumF (bef y - 719162 + d - 1) y k) * 86400)⟩, ⟨76, [], .int .i64 (cumF (bef y - 719162 + d - 1) y k)⟩, ⟨1, [], .int .i64 off⟩, ⟨2, [], .pointer (some ⟨b1, 0, none⟩)⟩, ⟨6, [], .int .i64 (cumF (bef y - 719162 + d - 1) y k)⟩, ⟨7, [], .int .i64 (((k + 1 : Nat)) : Int)⟩, ⟨67, [], .bool (decide ((((k + 1 : Nat)) : Int) < mo))⟩]) (by kernel_rfl) (by simp only [hw10, hw11])) (j := 7) rfl ?_
      refine GL_load (i := 7) (ch := []) (b := b1) (off := 4) (v := .int .i64 mi) rfl rfl (by kernel_rfl) (by kernel_rfl) (by kernel_rfl) (by kernel_rfl) (by kernel_rfl) (At.grp 0 0 rfl rfl) rfl ?_
      have hw12 : IntKind.wrap .i64 (mi * 60) = mi * 60 := w64 (by omega) (by omega)
      have hw13 : IntKind.wrap .i64 ((((cumF (bef y - 719162 + d - 1) y k) * 86400) + (h * 3600)) + (mi * 60)) = (((cumF (bef y - 719162 + d - 1) y k) * 86400) + (h * 3600)) + (mi * 60) := w64 (by omega) (by omega)
      refine GL_pure (E' := [⟨86, [], .pointer (some ⟨b1, 5, none⟩)⟩, ⟨85, [], .int .i64 ((((cumF (bef y - 719162 + d - 1) y k) * 86400) + (h * 3600)) + (mi * 60))⟩, ⟨84, [], .int .i64 (mi * 60)⟩, ⟨83, [], .int .i64 mi⟩, ⟨82, [], .pointer (some ⟨b1, 4, none⟩)⟩, ⟨81, [], .int .i64 (((cumF (bef y - 719162 + d - 1) y k) * 86400) + (h * 3600))⟩, ⟨80, [], .int .i64 (h * 3600)⟩, ⟨79, [], .int .i64 h⟩, ⟨78, [], .pointer (some ⟨b1, 3, none⟩)⟩, ⟨77, [], .int .i64 ((cumF (bef y - 719162 + d - 1) y k) * 86400)⟩, ⟨76, [], .int .i64 (cumF (bef y - 719162 + d - 1) y k)⟩, ⟨1, [], .int .i64 off⟩, ⟨2, [], .pointer (some ⟨b1, 0, none⟩)⟩, ⟨6, [], .int .i64 (cumF (bef y - 719162 + d - 1) y k)⟩, ⟨7, [], .int .i64 (((k + 1 : Nat)) : Int)⟩, ⟨67, [], .bool (decide ((((k + 1 : Nat)) : Int) < mo))⟩]) [0, 0, 0] (Eq.trans (b := some [⟨86, [], .pointer (some ⟨b1, 5, none⟩)⟩, ⟨85, [], .int .i64 (IntKind.wrap .i64 ((((cumF (bef y - 719162 + d - 1) y k) * 86400) + (h * 3600)) + (IntKind.wrap .i64 (mi * 60))))⟩, ⟨84, [], .int .i64 (IntKind.wrap .i64 (mi * 60))⟩, ⟨83, [], .int .i64 mi⟩, ⟨82, [], .pointer (some ⟨b1, 4, none⟩)⟩, ⟨81, [], .int .i64 (((cumF (bef y - 719162 + d - 1) y k) * 86400) + (h * 3600))⟩, ⟨80, [], .int .i64 (h * 3600)⟩, ⟨79, [], .int .i64 h⟩, ⟨78, [], .pointer (some ⟨b1, 3, none⟩)⟩, ⟨77, [], .int .i64 ((cumF (bef y - 719162 + d - 1) y k) * 86400)⟩, ⟨76, [], .int .i64 (cumF (bef y - 719162 + d - 1) y k)⟩, ⟨1, [], .int .i64 off⟩, ⟨2, [], .pointer (some ⟨b1, 0, none⟩)⟩, ⟨6, [], .int .i64 (cumF (bef y - 719162 + d - 1) y k)⟩, ⟨7, [], .int .i64 (((k + 1 : Nat)) : Int)⟩, ⟨67, [], .bool (decide ((((k + 1 : Nat)) : Int) < mo))⟩]) (by kernel_rfl) (by simp only [hw12, hw13])) (j := 11) rfl ?_
      refine GL_load (i := 11) (ch := []) (b := b1) (off := 5) (v := .int .i64 s) rfl rfl (by kernel_rfl) (by kernel_rfl) (by kernel_rfl) (by kernel_rfl) (by kernel_rfl) (At.grp 0 0 rfl rfl) rfl ?_
      have hw14 : IntKind.wrap .i64 (((((cumF (bef y - 719162 + d - 1) y k) * 86400) + (h * 3600)) + (mi * 60)) + (if 59 < s then 59 else s)) = ((((cumF (bef y - 719162 + d - 1) y k) * 86400) + (h * 3600)) + (mi * 60)) + (if 59 < s then 59 else s) := w64 (by omega) (by omega)
      have hw15 : IntKind.wrap .i64 ((((((cumF (bef y - 719162 + d - 1) y k) * 86400) + (h * 3600)) + (mi * 60)) + (if 59 < s then 59 else s)) - off) = (((((cumF (bef y - 719162 + d - 1) y k) * 86400) + (h * 3600)) + (mi * 60)) + (if 59 < s then 59 else s)) - off := w64 (by omega) (by omega)
      refine GL_fin (E' := [⟨4, [], .int .i64 ((((((cumF (bef y - 719162 + d - 1) y k) * 86400) + (h * 3600)) + (mi * 60)) + (if 59 < s then 59 else s)) - off)⟩, ⟨5, [], .int .i64 0⟩]) [0, 0, 0, 0, 0, 0] [4, 5] rfl (Eq.trans (b := some [⟨4, [], .int .i64 (IntKind.wrap .i64 ((IntKind.wrap .i64 (((((cumF (bef y - 719162 + d - 1) y k) * 86400) + (h * 3600)) + (mi * 60)) + (if 59 < s then 59 else s))) - off))⟩, ⟨5, [], .int .i64 0⟩]) (by kernel_rfl) (by simp only [hw14, hw15])) ?_
      refine N_then ?_
      refine G_ret ?_
      refine N_heap (H' := H) (fun w h => h.erase 0) ?_
      refine N_ret [.tmp 4, .tmp 5] [.int .i64 ((((((cumF (bef y - 719162 + d - 1) y k) * 86400) + (h * 3600)) + (mi * 60)) + (if 59 < s then 59 else s)) - off), .int .i64 0] rfl (by kernel_rfl) rfl ?_
      refine ⟨?_, rfl⟩
      rw [time_is (t := (((((cumF (bef y - 719162 + d - 1) y k) * 86400) + (h * 3600)) + (mi * 60)) + (if 59 < s then 59 else s)) - off) hf1 hf2 hf3 hf4 hf5 hf6 hf7 hf8 hf9 (by omega) (k := k) (by omega)]
      rfl

theorem sliteHasPrefix (s p : ByteArray) (W0 : World) (H : List Grp) : Tri Tryz.prog 68 #[.string s, .string p] W0 H (fun v H' => v = .bool (startsB s p) ∧ H' = H) := by
  refine Tri_of (args := [.string s, .string p]) (n := 18) Tryz.func68 rfl rfl (Nat.le_of_ble_eq_true rfl) ?_
  refine G_seq ?_
  refine G_pure (E' := [⟨0, [], .string s⟩, ⟨1, [], .string p⟩]) [0] [0, 1] rfl (by kernel_rfl) ?_
  refine N_then ?_
  refine G_seq ?_
  refine G_region ?_
  refine GL_pure (E' := [⟨13, [(10, true)], .int .i64 (p.size : Int)⟩, ⟨12, [(10, true)], .string p⟩, ⟨11, [(10, true)], .string s⟩, ⟨10, [], .bool (decide ((s.size : Int) ≥ (p.size : Int)))⟩, ⟨9, [], .bool (decide ((s.size : Int) ≥ (p.size : Int)))⟩, ⟨8, [], .int .i64 (p.size : Int)⟩, ⟨7, [], .string p⟩, ⟨6, [], .int .i64 (s.size : Int)⟩, ⟨5, [], .string s⟩, ⟨0, [], .string s⟩, ⟨1, [], .string p⟩]) [0, 0, 0, 0, 0, 0, 0, 0, 0] (by kernel_rfl) (j := 9) rfl ?_
  refine GL_sliceS (i := 9) (ch := [(10, true)]) (s := s) (vl := none) (vh := (some (.int .i64 (p.size : Int)))) (l := 0) (h := (p.size : Int)) rfl rfl (by kernel_rfl) (by kernel_rfl) (by kernel_rfl) (by kernel_rfl) (by kernel_rfl) (by kernel_rfl) (by kernel_rfl) (by kernel_rfl) (by kernel_rfl) (fun hc => by have hg0 := chB_hd (t := 10) (c := []) (b := decide ((s.size : Int) ≥ (p.size : Int))) hc (by kernel_rfl); (try simp at hg0); omega) ?_
  refine GL_fin (E' := [⟨4, [], .bool ((decide ((s.size : Int) ≥ (p.size : Int))) && ((s.extract 0 p.size).toList == p.toList))⟩]) [0, 0, 6, 0] [4] rfl (by kernel_rfl) ?_
  refine N_then ?_
  refine G_ret ?_
  refine N_ret [.tmp 4] [.bool ((decide ((s.size : Int) ≥ (p.size : Int))) && ((s.extract 0 p.size).toList == p.toList))] rfl (by kernel_rfl) rfl ?_
  exact ⟨rfl, rfl⟩

theorem stringsHasPrefix (s p : ByteArray) (W0 : World) (H : List Grp) : Tri Tryz.prog 60 #[.string s, .string p] W0 H (fun v H' => v = .bool (startsB s p) ∧ H' = H) := by
  refine Tri_of (args := [.string s, .string p]) (n := 8) Tryz.func60 rfl rfl (Nat.le_of_ble_eq_true rfl) ?_
  refine G_seq ?_
  refine G_pure (E' := [⟨0, [], .string s⟩, ⟨1, [], .string p⟩]) [0] [0, 1] rfl (by kernel_rfl) ?_
  refine N_then ?_
  refine G_seq ?_
  refine G_region ?_
  refine GL_pure (E' := [⟨6, [], .string p⟩, ⟨5, [], .string s⟩, ⟨0, [], .string s⟩, ⟨1, [], .string p⟩]) [0, 0] (by kernel_rfl) (j := 2) rfl ?_
  refine GL_callQ (i := 2) (ch := []) (f := 68) (fst := #[]) (caps := #[]) (vs := [.string s, .string p]) (v := .bool (startsB s p)) rfl rfl rfl (by kernel_rfl) (by kernel_rfl) Tryz.func68 rfl rfl (by kernel_rfl) (by kernel_rfl) (by kernel_rfl) (fun _ => sliteHasPrefix _ _ _ _) ?_
  refine GL_fin (E' := [⟨4, [], .bool (startsB s p)⟩]) [0] [4] rfl (by kernel_rfl) ?_
  refine N_then ?_
  refine G_ret ?_
  refine N_ret [.tmp 4] [.bool (startsB s p)] rfl (by kernel_rfl) rfl ?_
  exact ⟨rfl, rfl⟩

theorem sliteCutPrefix (s p : ByteArray) (W0 : World) (H : List Grp) : Tri Tryz.prog 50 #[.string s, .string p] W0 H (fun v H' => v = .tuple #[.string (cutP s p), .bool (startsB s p)] ∧ H' = H) := by
  refine Tri_of (args := [.string s, .string p]) (n := 15) Tryz.func50 rfl rfl (Nat.le_of_ble_eq_true rfl) ?_
  refine G_seq ?_
  refine G_pure (E' := [⟨0, [], .string s⟩, ⟨1, [], .string p⟩]) [0, 0] [0, 1] rfl (by kernel_rfl) ?_
  refine N_then ?_
  refine G_seq ?_
  refine G_seq ?_
  refine G_region ?_
  refine GL_pure (E' := [⟨7, [], .string p⟩, ⟨6, [], .string s⟩, ⟨0, [], .string s⟩, ⟨1, [], .string p⟩]) [0, 0] (by kernel_rfl) (j := 2) rfl ?_
  refine GL_callQ (i := 2) (ch := []) (f := 68) (fst := #[]) (caps := #[]) (vs := [.string s, .string p]) (v := .bool (startsB s p)) rfl rfl rfl (by kernel_rfl) (by kernel_rfl) Tryz.func68 rfl rfl (by kernel_rfl) (by kernel_rfl) (by kernel_rfl) (fun _ => sliteHasPrefix _ _ _ _) ?_
  refine GL_fin (E' := [⟨0, [], .string s⟩, ⟨1, [], .string p⟩, ⟨9, [], .bool (!(startsB s p))⟩]) [0] [0, 1, 9] rfl (by kernel_rfl) ?_
  refine N_then ?_
  refine G_cond (b := !(startsB s p)) (by kernel_rfl) (fun hc1 => ?_) (fun hc1 => ?_)
  ·
    simp only [Bool.not_eq_true'] at hc1
    refine G_seq ?_
    refine G_pure (E' := [⟨4, [], .string s⟩, ⟨5, [], .bool false⟩]) [0, 0, 0] [4, 5] rfl (by kernel_rfl) ?_
    refine N_then ?_
    refine G_ret ?_
    refine N_then_ret ?_
    refine N_ret [.tmp 4, .tmp 5] [.string s, .bool false] rfl (by kernel_rfl) rfl ?_
    exact ⟨by simp [packV, cutP, hc1], rfl⟩
  ·
    simp only [Bool.not_eq_false'] at hc1
    have hle := starts_le hc1
    refine G_skip ?_
    refine N_then ?_
    refine G_seq ?_
    refine G_region ?_
    refine GL_pure (E' := [⟨13, [], .int .i64 (p.size : Int)⟩, ⟨12, [], .string p⟩, ⟨11, [], .string s⟩, ⟨0, [], .string s⟩, ⟨1, [], .string p⟩, ⟨9, [], .bool (!(startsB s p))⟩]) [0, 0, 0] (by kernel_rfl) (j := 3) rfl ?_
    refine GL_sliceS (i := 3) (ch := []) (s := s) (vl := (some (.int .i64 (p.size : Int)))) (vh := none) (l := (p.size : Int)) (h := (s.size : Int)) rfl rfl (by kernel_rfl) (by kernel_rfl) (by kernel_rfl) (by kernel_rfl) (by kernel_rfl) (by kernel_rfl) (by kernel_rfl) (by kernel_rfl) (by kernel_rfl) (fun _ => by omega) ?_
    refine GL_fin (E' := [⟨4, [], .string (s.extract p.size s.size)⟩, ⟨5, [], .bool true⟩]) [0, 0] [4, 5] rfl (by kernel_rfl) ?_
    refine N_then ?_
    refine G_ret ?_
    refine N_ret [.tmp 4, .tmp 5] [.string (s.extract p.size s.size), .bool true] rfl (by kernel_rfl) rfl ?_
    exact ⟨by simp [packV, cutP, hc1], rfl⟩

theorem stringsCutPrefix (s p : ByteArray) (W0 : World) (H : List Grp) : Tri Tryz.prog 37 #[.string s, .string p] W0 H (fun v H' => v = .tuple #[.string (cutP s p), .bool (startsB s p)] ∧ H' = H) := by
  refine Tri_of (args := [.string s, .string p]) (n := 11) Tryz.func37 rfl rfl (Nat.le_of_ble_eq_true rfl) ?_
  refine G_seq ?_
  refine G_pure (E' := [⟨0, [], .string s⟩, ⟨1, [], .string p⟩]) [0, 0] [0, 1] rfl (by kernel_rfl) ?_
  refine N_then ?_
  refine G_seq ?_
  refine G_region ?_
  refine GL_pure (E' := [⟨7, [], .string p⟩, ⟨6, [], .string s⟩, ⟨0, [], .string s⟩, ⟨1, [], .string p⟩]) [0, 0] (by kernel_rfl) (j := 2) rfl ?_
  refine GL_callQ (i := 2) (ch := []) (f := 50) (fst := #[]) (caps := #[]) (vs := [.string s, .string p]) (v := .tuple #[.string (cutP s p), .bool (startsB s p)]) rfl rfl rfl (by kernel_rfl) (by kernel_rfl) Tryz.func50 rfl rfl (by kernel_rfl) (by kernel_rfl) (by kernel_rfl) (fun _ => sliteCutPrefix _ _ _ _) ?_
  refine GL_fin (E' := [⟨4, [], .string (cutP s p)⟩, ⟨5, [], .bool (startsB s p)⟩]) [0, 0, 0, 0] [4, 5] rfl (by kernel_rfl) ?_
  refine N_then ?_
  refine G_ret ?_
  refine N_ret [.tmp 4, .tmp 5] [.string (cutP s p), .bool (startsB s p)] rfl (by kernel_rfl) rfl ?_
  exact ⟨rfl, rfl⟩

theorem one_ (b : Nat) (σ : Sc) (a : Option Addr) (cap : Nat) (S : Nat → Obj → Prop) (ws : List ByteArray) (hrd : Rd S a (strs ws)) (hws : ws.length ≤ 1000) (W0 : World) (H : List Grp) (hS : ∀ x o, S x o → At W0 ([(b, .cells #[.string σ.s, .bool σ.bad] 40 (0, 0))] :: H) x o) : Tri Tryz.prog 17 #[.pointer (some ⟨b, 0, none⟩), .slice a ws.length cap] W0 ([(b, .cells #[.string σ.s, .bool σ.bad] 40 (0, 0))] :: H) (fun v H' => ∃ p, p = one ws σ ∧ -1 ≤ p.1 ∧ p.1 ≤ ws.length ∧ p.2.s.size ≤ σ.s.size ∧ v = .int .i64 p.1 ∧ H' = ([(b, .cells #[.string p.2.s, .bool p.2.bad] 40 (0, 0))] :: H)) := by
  refine Tri_of (args := [.pointer (some ⟨b, 0, none⟩), .slice a ws.length cap]) (n := 35) Tryz.func17 rfl rfl (Nat.le_of_ble_eq_true rfl) ?_
  refine G_seq ?_
  refine G_pure (E' := [⟨0, [], .pointer (some ⟨b, 0, none⟩)⟩, ⟨1, [], .slice a ws.length cap⟩]) [0] [0, 1] rfl (by kernel_rfl) ?_
  refine N_then ?_
  refine G_seq ?_
  refine G_seq ?_
  refine G_pure (E' := [⟨0, [], .pointer (some ⟨b, 0, none⟩)⟩, ⟨9, [], .slice a ws.length cap⟩, ⟨10, [], .int .i64 ((ws.length : Nat) : Int)⟩, ⟨11, [], .int .i64 0⟩]) [0, 0, 0] [0, 9, 10, 11] rfl (by kernel_rfl) ?_
  refine N_then ?_
  refine G_block ?_
  refine G_loop (EI := (fun ξ : Nat => [⟨0, [], .pointer (some ⟨b, 0, none⟩)⟩, ⟨9, [], .slice a ws.length cap⟩, ⟨10, [], .int .i64 ((ws.length : Nat) : Int)⟩, ⟨11, [], .int .i64 ((ξ : Nat) : Int)⟩])) (HI := (fun ξ : Nat => ([(b, .cells #[.string σ.s, .bool σ.bad] 40 (0, 0))] :: H))) (Φ := (fun ξ : Nat => (ξ ≤ ws.length) ∧ (∀ j, j < ξ → startsB σ.s (ws.getD j default) = false))) (μ := (fun ξ : Nat => ws.length - ξ)) (s0 := (0)) [0, 9, 10, 11] (by kernel_rfl) rfl ⟨(by omega), (fun j hj => absurd hj (Nat.not_lt_zero j))⟩ ?_
  rintro k ⟨hk, hn⟩
  refine G_seq ?_
  refine G_pure (E' := [⟨0, [], .pointer (some ⟨b, 0, none⟩)⟩, ⟨9, [], .slice a ws.length cap⟩, ⟨10, [], .int .i64 ((ws.length : Nat) : Int)⟩, ⟨11, [], .int .i64 ((k : Nat) : Int)⟩, ⟨12, [], .bool (decide (((k : Nat) : Int) < ((ws.length : Nat) : Int)))⟩]) [0] [0, 9, 10, 11, 12] rfl (by kernel_rfl) ?_
  refine N_then ?_
  refine G_seq ?_
  refine G_cond (b := decide (((k : Nat) : Int) < ((ws.length : Nat) : Int))) (by kernel_rfl) (fun hc1 => ?_) (fun hc1 => ?_)
  ·
    simp at hc1
    refine G_skip ?_
    refine N_then ?_
    refine G_seq ?_
    refine G_block ?_
    refine G_seq ?_
    refine G_region ?_
    refine GL_pure (E' := [⟨13, [], .int .i64 ((k : Nat) : Int)⟩, ⟨0, [], .pointer (some ⟨b, 0, none⟩)⟩, ⟨9, [], .slice a ws.length cap⟩, ⟨10, [], .int .i64 ((ws.length : Nat) : Int)⟩, ⟨11, [], .int .i64 ((k : Nat) : Int)⟩, ⟨12, [], .bool (decide (((k : Nat) : Int) < ((ws.length : Nat) : Int)))⟩]) [0] (by kernel_rfl) (j := 1) rfl ?_
    refine GL_indexAddr (i := 1) (ch := []) (a := a) (len := ws.length) (cap := cap) (kd := .i64) (j := ((k : Nat) : Int)) (e := 9) (sz := 1) (S := S) (cs := strs ws) rfl rfl (by kernel_rfl) (by kernel_rfl) (by kernel_rfl) (by kernel_rfl) (by kernel_rfl) (by kernel_rfl) (by kernel_rfl) hrd (fun _ => by exact ⟨by omega, by omega, strs_ne (k := k) (by omega)⟩) ?_
    refine GL_loadS (i := 2) (ch := []) (a := a) (q := k * 1) (S := S) (cs := strs ws) (v := .string (ws.getD k default)) rfl rfl (by kernel_rfl) (by kernel_rfl) (by kernel_rfl) (by kernel_rfl) (by kernel_rfl) hrd hS (fun _ => (by rw [Nat.mul_one]; exact strs_at (by omega))) ?_
    refine GL_fin (E' := [⟨0, [], .pointer (some ⟨b, 0, none⟩)⟩, ⟨5, [], .int .i64 ((k : Nat) : Int)⟩, ⟨6, [], .string (ws.getD k default)⟩, ⟨9, [], .slice a ws.length cap⟩, ⟨10, [], .int .i64 ((ws.length : Nat) : Int)⟩, ⟨11, [], .int .i64 ((k : Nat) : Int)⟩]) [0, 0] [0, 5, 6, 9, 10, 11] rfl (by kernel_rfl) ?_
    refine N_then ?_
    refine G_seq ?_
    refine G_region ?_
    refine GL_pure (E' := [⟨19, [], .pointer (some ⟨b, 0, none⟩)⟩, ⟨18, [], .pointer (some ⟨b, 0, none⟩)⟩, ⟨17, [], .pointer (some ⟨b, 0, none⟩)⟩, ⟨0, [], .pointer (some ⟨b, 0, none⟩)⟩, ⟨5, [], .int .i64 ((k : Nat) : Int)⟩, ⟨6, [], .string (ws.getD k default)⟩, ⟨9, [], .slice a ws.length cap⟩, ⟨10, [], .int .i64 ((ws.length : Nat) : Int)⟩, ⟨11, [], .int .i64 ((k : Nat) : Int)⟩]) [0, 0, 0] (by kernel_rfl) (j := 3) rfl ?_
    refine GL_load (i := 3) (ch := []) (b := b) (off := 0) (v := .string σ.s) rfl rfl (by kernel_rfl) (by kernel_rfl) (by kernel_rfl) (by kernel_rfl) (by kernel_rfl) (At.grp 0 0 rfl rfl) rfl ?_
    refine GL_pure (E' := [⟨21, [], .string (ws.getD k default)⟩, ⟨20, [], .string σ.s⟩, ⟨19, [], .pointer (some ⟨b, 0, none⟩)⟩, ⟨18, [], .pointer (some ⟨b, 0, none⟩)⟩, ⟨17, [], .pointer (some ⟨b, 0, none⟩)⟩, ⟨0, [], .pointer (some ⟨b, 0, none⟩)⟩, ⟨5, [], .int .i64 ((k : Nat) : Int)⟩, ⟨6, [], .string (ws.getD k default)⟩, ⟨9, [], .slice a ws.length cap⟩, ⟨10, [], .int .i64 ((ws.length : Nat) : Int)⟩, ⟨11, [], .int .i64 ((k : Nat) : Int)⟩]) [0] (by kernel_rfl) (j := 5) rfl ?_
    refine GL_callQ (i := 5) (ch := []) (f := 37) (fst := #[]) (caps := #[]) (vs := [.string σ.s, .string (ws.getD k default)]) (v := .tuple #[.string (cutP σ.s (ws.getD k default)), .bool (startsB σ.s (ws.getD k default))]) rfl rfl rfl (by kernel_rfl) (by kernel_rfl) Tryz.func37 rfl rfl (by kernel_rfl) (by kernel_rfl) (by kernel_rfl) (fun _ => stringsCutPrefix _ _ _ _) ?_
    refine GL_fin (E' := [⟨0, [], .pointer (some ⟨b, 0, none⟩)⟩, ⟨5, [], .int .i64 ((k : Nat) : Int)⟩, ⟨7, [], .string (cutP σ.s (ws.getD k default))⟩, ⟨8, [], .bool (startsB σ.s (ws.getD k default))⟩, ⟨9, [], .slice a ws.length cap⟩, ⟨10, [], .int .i64 ((ws.length : Nat) : Int)⟩, ⟨11, [], .int .i64 ((k : Nat) : Int)⟩]) [0, 0, 0, 0, 0] [0, 5, 7, 8, 9, 10, 11] rfl (by kernel_rfl) ?_
    refine N_then ?_
    refine G_seq ?_
    refine G_pure (E' := [⟨0, [], .pointer (some ⟨b, 0, none⟩)⟩, ⟨5, [], .int .i64 ((k : Nat) : Int)⟩, ⟨7, [], .string (cutP σ.s (ws.getD k default))⟩, ⟨9, [], .slice a ws.length cap⟩, ⟨10, [], .int .i64 ((ws.length : Nat) : Int)⟩, ⟨11, [], .int .i64 ((k : Nat) : Int)⟩, ⟨25, [], .bool (startsB σ.s (ws.getD k default))⟩]) [0] [0, 5, 7, 9, 10, 11, 25] rfl (by kernel_rfl) ?_
    refine N_then ?_
    refine G_cond (b := startsB σ.s (ws.getD k default)) (by kernel_rfl) (fun hc2 => ?_) (fun hc2 => ?_)
    ·
      skip
      refine G_seq ?_
      refine G_region ?_
      refine GL_pure (E' := [⟨29, [], .pointer (some ⟨b, 0, none⟩)⟩, ⟨28, [], .pointer (some ⟨b, 0, none⟩)⟩, ⟨27, [], .string (cutP σ.s (ws.getD k default))⟩, ⟨26, [], .pointer (some ⟨b, 0, none⟩)⟩, ⟨0, [], .pointer (some ⟨b, 0, none⟩)⟩, ⟨5, [], .int .i64 ((k : Nat) : Int)⟩, ⟨7, [], .string (cutP σ.s (ws.getD k default))⟩, ⟨9, [], .slice a ws.length cap⟩, ⟨10, [], .int .i64 ((ws.length : Nat) : Int)⟩, ⟨11, [], .int .i64 ((k : Nat) : Int)⟩, ⟨25, [], .bool (startsB σ.s (ws.getD k default))⟩]) [0, 0, 0, 0] (by kernel_rfl) (j := 4) rfl ?_
      refine GL_store (i := 4) (ch := []) (b := b) (off := 0) (v := .string (cutP σ.s (ws.getD k default))) (c := #[.string σ.s, .bool σ.bad]) (c' := #[.string (cutP σ.s (ws.getD k default)), .bool σ.bad]) (j := 0) (m := 0) (H' := ([(b, .cells #[.string (cutP σ.s (ws.getD k default)), .bool σ.bad] 40 (0, 0))] :: H)) rfl rfl (by kernel_rfl) (by kernel_rfl) (by kernel_rfl) (by kernel_rfl) (by kernel_rfl) (by kernel_rfl) (by kernel_rfl) rfl rfl (Nat.le_of_ble_eq_true rfl) (fun _ _ => thaw0) (by kernel_rfl) (by kernel_rfl) ?_
      refine GL_fin (E' := [⟨5, [], .int .i64 ((k : Nat) : Int)⟩]) [] [5] rfl (by kernel_rfl) ?_
      refine N_then ?_
      refine G_seq ?_
      refine G_pure (E' := [⟨4, [], .int .i64 ((k : Nat) : Int)⟩]) [0, 0] [4] rfl (by kernel_rfl) ?_
      refine N_then ?_
      refine G_ret ?_
      refine N_block_ret ?_
      refine N_then_ret ?_
      refine N_then_ret ?_
      refine N_block_ret ?_
      refine N_then_ret ?_
      refine N_ret [.tmp 4] [.int .i64 ((k : Nat) : Int)] rfl (by kernel_rfl) rfl ?_
      exact oneR (one_hit (by omega) hn hc2)
    ·
      skip
      refine G_skip ?_
      refine N_block ?_
      refine N_then ?_
      have hw3 : IntKind.wrap .i64 (((k : Nat) : Int) + 1) = ((k : Nat) : Int) + 1 := w64 (by omega) (by omega)
      refine G_pure (E' := [⟨0, [], .pointer (some ⟨b, 0, none⟩)⟩, ⟨9, [], .slice a ws.length cap⟩, ⟨10, [], .int .i64 ((ws.length : Nat) : Int)⟩, ⟨11, [], .int .i64 (((k : Nat) : Int) + 1)⟩]) [0, 0] [0, 9, 10, 11] rfl (Eq.trans (b := some [⟨0, [], .pointer (some ⟨b, 0, none⟩)⟩, ⟨9, [], .slice a ws.length cap⟩, ⟨10, [], .int .i64 ((ws.length : Nat) : Int)⟩, ⟨11, [], .int .i64 (IntKind.wrap .i64 (((k : Nat) : Int) + 1))⟩]) (by kernel_rfl) (by simp only [hw3])) ?_
      refine N_round (s' := (k + 1)) [0, 9, 10, 11] (by kernel_rfl) rfl ⟨(by omega), (starts_succ hn hc2)⟩ (by omega)
  ·
    simp at hc1
    refine G_exit ?_
    refine N_then_exit ?_
    refine N_then_exit ?_
    refine N_block_exit ?_
    refine N_then ?_
    refine G_seq ?_
    refine G_region ?_
    refine GL_pure (E' := [⟨34, [], .pointer (some ⟨b, 1, none⟩)⟩, ⟨33, [], .pointer (some ⟨b, 0, none⟩)⟩, ⟨32, [], .pointer (some ⟨b, 0, none⟩)⟩, ⟨0, [], .pointer (some ⟨b, 0, none⟩)⟩, ⟨9, [], .slice a ws.length cap⟩, ⟨10, [], .int .i64 ((ws.length : Nat) : Int)⟩, ⟨11, [], .int .i64 ((k : Nat) : Int)⟩, ⟨12, [], .bool (decide (((k : Nat) : Int) < ((ws.length : Nat) : Int)))⟩]) [0, 0, 0] (by kernel_rfl) (j := 3) rfl ?_
    refine GL_store (i := 3) (ch := []) (b := b) (off := 1) (v := .bool true) (c := #[.string σ.s, .bool σ.bad]) (c' := #[.string σ.s, .bool true]) (j := 0) (m := 0) (H' := ([(b, .cells #[.string σ.s, .bool true] 40 (0, 0))] :: H)) rfl rfl (by kernel_rfl) (by kernel_rfl) (by kernel_rfl) (by kernel_rfl) (by kernel_rfl) (by kernel_rfl) (by kernel_rfl) rfl rfl (Nat.le_of_ble_eq_true rfl) (fun _ _ => thaw0) (by kernel_rfl) (by kernel_rfl) ?_
    refine GL_fin (E' := []) [] [] rfl (by kernel_rfl) ?_
    refine N_then ?_
    refine G_seq ?_
    refine G_pure (E' := [⟨4, [], .int .i64 (-1)⟩]) [0] [4] rfl (by kernel_rfl) ?_
    refine N_then ?_
    refine G_ret ?_
    refine N_ret [.tmp 4] [.int .i64 (-1)] rfl (by kernel_rfl) rfl ?_
    exact oneR (one_miss (fun j hj => hn j (by omega)))

theorem maybe_ (b : Nat) (σ : Sc) (p : ByteArray) (W0 : World) (H : List Grp) : Tri Tryz.prog 20 #[.pointer (some ⟨b, 0, none⟩), .string p] W0 ([(b, .cells #[.string σ.s, .bool σ.bad] 40 (0, 0))] :: H) (fun v H' => ∃ q, q = may p σ ∧ True ∧ True ∧ q.2.s.size ≤ σ.s.size ∧ v = .bool q.1 ∧ H' = ([(b, .cells #[.string q.2.s, .bool q.2.bad] 40 (0, 0))] :: H)) := by
  refine Tri_of (args := [.pointer (some ⟨b, 0, none⟩), .string p]) (n := 22) Tryz.func20 rfl rfl (Nat.le_of_ble_eq_true rfl) ?_
  refine G_seq ?_
  refine G_pure (E' := [⟨0, [], .pointer (some ⟨b, 0, none⟩)⟩, ⟨1, [], .string p⟩]) [0] [0, 1] rfl (by kernel_rfl) ?_
  refine N_then ?_
  refine G_seq ?_
  refine G_region ?_
  refine GL_pure (E' := [⟨10, [], .pointer (some ⟨b, 0, none⟩)⟩, ⟨9, [], .pointer (some ⟨b, 0, none⟩)⟩, ⟨8, [], .pointer (some ⟨b, 0, none⟩)⟩, ⟨0, [], .pointer (some ⟨b, 0, none⟩)⟩, ⟨1, [], .string p⟩]) [0, 0, 0] (by kernel_rfl) (j := 3) rfl ?_
  refine GL_load (i := 3) (ch := []) (b := b) (off := 0) (v := .string σ.s) rfl rfl (by kernel_rfl) (by kernel_rfl) (by kernel_rfl) (by kernel_rfl) (by kernel_rfl) (At.grp 0 0 rfl rfl) rfl ?_
  refine GL_pure (E' := [⟨12, [], .string p⟩, ⟨11, [], .string σ.s⟩, ⟨10, [], .pointer (some ⟨b, 0, none⟩)⟩, ⟨9, [], .pointer (some ⟨b, 0, none⟩)⟩, ⟨8, [], .pointer (some ⟨b, 0, none⟩)⟩, ⟨0, [], .pointer (some ⟨b, 0, none⟩)⟩, ⟨1, [], .string p⟩]) [0] (by kernel_rfl) (j := 5) rfl ?_
  refine GL_callQ (i := 5) (ch := []) (f := 37) (fst := #[]) (caps := #[]) (vs := [.string σ.s, .string p]) (v := .tuple #[.string (cutP σ.s p), .bool (startsB σ.s p)]) rfl rfl rfl (by kernel_rfl) (by kernel_rfl) Tryz.func37 rfl rfl (by kernel_rfl) (by kernel_rfl) (by kernel_rfl) (fun _ => stringsCutPrefix _ _ _ _) ?_
  refine GL_fin (E' := [⟨0, [], .pointer (some ⟨b, 0, none⟩)⟩, ⟨5, [], .string (cutP σ.s p)⟩, ⟨6, [], .bool (startsB σ.s p)⟩]) [0, 0, 0, 0, 0] [0, 5, 6] rfl (by kernel_rfl) ?_
  refine N_then ?_
  refine G_seq ?_
  refine G_seq ?_
  refine G_pure (E' := [⟨0, [], .pointer (some ⟨b, 0, none⟩)⟩, ⟨5, [], .string (cutP σ.s p)⟩, ⟨6, [], .bool (startsB σ.s p)⟩, ⟨16, [], .bool (startsB σ.s p)⟩]) [0] [0, 5, 6, 16] rfl (by kernel_rfl) ?_
  refine N_then ?_
  refine G_cond (b := startsB σ.s p) (by kernel_rfl) (fun hc1 => ?_) (fun hc1 => ?_)
  ·
    skip
    refine G_region ?_
    refine GL_pure (E' := [⟨20, [], .pointer (some ⟨b, 0, none⟩)⟩, ⟨19, [], .pointer (some ⟨b, 0, none⟩)⟩, ⟨18, [], .string (cutP σ.s p)⟩, ⟨17, [], .pointer (some ⟨b, 0, none⟩)⟩, ⟨0, [], .pointer (some ⟨b, 0, none⟩)⟩, ⟨5, [], .string (cutP σ.s p)⟩, ⟨6, [], .bool (startsB σ.s p)⟩, ⟨16, [], .bool (startsB σ.s p)⟩]) [0, 0, 0, 0] (by kernel_rfl) (j := 4) rfl ?_
    refine GL_store (i := 4) (ch := []) (b := b) (off := 0) (v := .string (cutP σ.s p)) (c := #[.string σ.s, .bool σ.bad]) (c' := #[.string (cutP σ.s p), .bool σ.bad]) (j := 0) (m := 0) (H' := ([(b, .cells #[.string (cutP σ.s p), .bool σ.bad] 40 (0, 0))] :: H)) rfl rfl (by kernel_rfl) (by kernel_rfl) (by kernel_rfl) (by kernel_rfl) (by kernel_rfl) (by kernel_rfl) (by kernel_rfl) rfl rfl (Nat.le_of_ble_eq_true rfl) (fun _ _ => thaw0) (by kernel_rfl) (by kernel_rfl) ?_
    refine GL_fin (E' := [⟨6, [], .bool (startsB σ.s p)⟩]) [] [6] rfl (by kernel_rfl) ?_
    refine N_then ?_
    refine G_seq ?_
    refine G_pure (E' := [⟨4, [], .bool (startsB σ.s p)⟩]) [0, 0] [4] rfl (by kernel_rfl) ?_
    refine N_then ?_
    refine G_ret ?_
    refine N_ret [.tmp 4] [.bool (startsB σ.s p)] rfl (by kernel_rfl) rfl ?_
    exact mayR rfl
  ·
    skip
    refine G_skip ?_
    refine N_then ?_
    refine G_seq ?_
    refine G_pure (E' := [⟨4, [], .bool (startsB σ.s p)⟩]) [0, 0] [4] rfl (by kernel_rfl) ?_
    refine N_then ?_
    refine G_ret ?_
    refine N_ret [.tmp 4] [.bool (startsB σ.s p)] rfl (by kernel_rfl) rfl ?_
    exact mayR (q := (startsB σ.s p, ⟨σ.s, σ.bad⟩)) (by simp [may, cutP, hc1])

theorem zone_ (k : Int) (hk : -1 ≤ k ∧ k ≤ 100) (W0 : World) (H : List Grp) : Tri Tryz.prog 23 #[.int .i64 k] W0 H (fun v H' => v = .int .i64 (zoneM k) ∧ H' = H) := by
  refine Tri_of (args := [.int .i64 k]) (n := 15) Tryz.func23 rfl rfl (Nat.le_of_ble_eq_true rfl) ?_
  refine G_seq ?_
  refine G_pure (E' := [⟨0, [], .int .i64 k⟩]) [0] [0] rfl (by kernel_rfl) ?_
  refine N_then ?_
  refine G_seq ?_
  refine G_seq ?_
  refine G_pure (E' := [⟨0, [], .int .i64 k⟩, ⟨5, [], .bool (decide (k < 3))⟩]) [0, 0] [0, 5] rfl (by kernel_rfl) ?_
  refine N_then ?_
  refine G_cond (b := decide (k < 3)) (by kernel_rfl) (fun hc1 => ?_) (fun hc1 => ?_)
  ·
    simp at hc1
    refine G_seq ?_
    refine G_pure (E' := [⟨2, [], .int .i64 0⟩]) [0] [2] rfl (by kernel_rfl) ?_
    refine N_then ?_
    refine G_ret ?_
    refine N_then_ret ?_
    refine N_ret [.tmp 2] [.int .i64 0] rfl (by kernel_rfl) rfl ?_
    exact ⟨by rw [zoneM, if_pos hc1]; rfl, rfl⟩
  ·
    simp at hc1
    refine G_skip ?_
    refine N_then ?_
    refine G_seq ?_
    have hw2 : IntKind.wrap .i64 (k - 3) = k - 3 := w64 (by omega) (by omega)
    refine G_pure (E' := [⟨3, [], .int .i64 (k - 3)⟩]) [0, 0, 0] [3] rfl (Eq.trans (b := some [⟨3, [], .int .i64 (IntKind.wrap .i64 (k - 3))⟩]) (by kernel_rfl) (by simp only [hw2])) ?_
    refine N_then ?_
    refine G_seq ?_
    have hw3 : IntKind.wrap .i64 (Int.tdiv (k - 3) 2) = (k - 3) / 2 := q64 (by omega) (by omega) (by decide)
    have hw4 : IntKind.wrap .i64 (5 + ((k - 3) / 2)) = 5 + ((k - 3) / 2) := w64 (by omega) (by omega)
    have hw5 : Int.tmod (k - 3) 2 = (k - 3) % 2 := r64 (by omega)
    have hw6 : IntKind.wrap .i64 ((5 + ((k - 3) / 2)) - ((k - 3) % 2)) = (5 + ((k - 3) / 2)) - ((k - 3) % 2) := w64 (by omega) (by omega)
    have hw7 : IntKind.wrap .i64 ((-3600) * ((5 + ((k - 3) / 2)) - ((k - 3) % 2))) = (-3600) * ((5 + ((k - 3) / 2)) - ((k - 3) % 2)) := w64 (by omega) (by omega)
    refine G_pure (E' := [⟨2, [], .int .i64 ((-3600) * ((5 + ((k - 3) / 2)) - ((k - 3) % 2)))⟩]) [0, 0, 0, 0, 0, 0, 0, 0] [2] rfl (Eq.trans (b := some [⟨2, [], .int .i64 (IntKind.wrap .i64 ((-3600) * (IntKind.wrap .i64 ((IntKind.wrap .i64 (5 + (IntKind.wrap .i64 (Int.tdiv (k - 3) 2)))) - (Int.tmod (k - 3) 2)))))⟩]) (by kernel_rfl) (by simp only [hw3, hw4, hw5, hw6, hw7])) ?_
    refine N_then ?_
    refine G_ret ?_
    refine N_ret [.tmp 2] [.int .i64 ((-3600) * ((5 + ((k - 3) / 2)) - ((k - 3) % 2)))] rfl (by kernel_rfl) rfl ?_
    exact ⟨by rw [zoneM, if_neg (by omega)]; rfl, rfl⟩

end Go.Proofs.YtlglmomimhbeaaaGreatDoor
