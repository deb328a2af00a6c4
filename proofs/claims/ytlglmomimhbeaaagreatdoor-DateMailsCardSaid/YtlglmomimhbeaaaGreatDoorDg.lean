/- The walks of the document's answer: the calendar. -/
import Derived.Test.YtlglmomimhbeaaaGreatDoorDf
import Derived.Test.YtlglmomimhbeaaaGreatDoorConv
namespace Go.Proofs.YtlglmomimhbeaaaGreatDoor
open Go.Sw Go.Lib Go.Cal Go.Scn

def mtab : List Int := [31, 28, 31, 30, 31, 30, 31, 31, 30, 31, 30, 31]
def mtabV : List Value := mtab.map (Value.int .i64)
theorem mtab_at {k : Nat} (h : k < 12) : mtabV[k]? = some (.int .i64 (mtab.getD k 0)) := by
  simp only [mtabV, List.getElem?_map, List.getD_eq_getElem?_getD]
  have : k < mtab.length := h
  rw [List.getElem?_eq_getElem this]; rfl
theorem mtab_yes {y m : Int} (h0 : 0 ≤ y) (hc : ((m == 2) && ((Int.tmod y 400 == 0) || ((Int.tmod y 4 == 0) && (decide (Int.tmod y 100 > 0))))) = true) : mtab.getD (Int.toNat (m - 1)) 0 + 1 = mlen y m := by
  simp only [Int.tmod_eq_emod_of_nonneg h0, Bool.and_eq_true, Bool.or_eq_true, beq_iff_eq, decide_eq_true_eq] at hc
  obtain ⟨rfl, h⟩ := hc
  have hl : leapB y = true := by rw [leap_iff]; omega
  simp [mlen, hl]
  rfl
theorem mtab_no {y m : Int} (h0 : 0 ≤ y) (h1 : 1 ≤ m) (h2 : m ≤ 12) (hc : ((m == 2) && ((Int.tmod y 400 == 0) || ((Int.tmod y 4 == 0) && (decide (Int.tmod y 100 > 0))))) = false) : mtab.getD (Int.toNat (m - 1)) 0 = mlen y m := by
  by_cases hm : m = 2
  · subst hm
    have hl : leapB y = false := by
      rw [← Bool.not_eq_true, leap_iff]
      intro h
      rw [← Bool.not_eq_true] at hc
      refine hc ?_
      simp only [Int.tmod_eq_emod_of_nonneg h0, Bool.and_eq_true, Bool.or_eq_true, beq_iff_eq, decide_eq_true_eq]
      exact ⟨trivial, by omega⟩
    simp [mlen, hl]
    rfl
  · have : m = 1 ∨ m = 3 ∨ m = 4 ∨ m = 5 ∨ m = 6 ∨ m = 7 ∨ m = 8 ∨ m = 9 ∨ m = 10 ∨ m = 11 ∨ m = 12 := by omega
    rcases this with rfl | rfl | rfl | rfl | rfl | rfl | rfl | rfl | rfl | rfl | rfl <;> rfl
def upF (a : Int) : Nat → Int
  | 0 => a
  | k + 1 => upF a k + (337 + mlen (1970 + (k : Int)) 2)
def yj (y : Int) : Nat → Int
  | 0 => y
  | k + 1 => yj y k + 1
theorem yj_eq (y : Int) : ∀ k : Nat, yj y k = y + (k : Int)
  | 0 => by simp [yj]
  | k + 1 => by rw [yj, yj_eq y k]; omega
def downF (a y : Int) : Nat → Int
  | 0 => a
  | k + 1 => downF a y k - (337 + mlen (yj y k) 2)
theorem feb (y : Int) : 337 + mlen y 2 = bef (y + 1) - bef y := by
  rw [bef_succ]; simp only [mlen, if_true]; split <;> omega
theorem upF_eq (a : Int) : ∀ k : Nat, upF a k = a + bef (1970 + (k : Int)) - 719162
  | 0 => by simp [upF]; rw [show bef 1970 = 719162 from rfl]; omega
  | k + 1 => by rw [upF, upF_eq a k, feb]; rw [show (1970 : Int) + ((k + 1 : Nat) : Int) = 1970 + (k : Int) + 1 from by omega]; omega
theorem downF_eq (a y : Int) : ∀ k : Nat, downF a y k = a - bef (y + (k : Int)) + bef y
  | 0 => by simp [downF]
  | k + 1 => by rw [downF, downF_eq a y k, feb, yj_eq]; rw [show y + ((k + 1 : Nat) : Int) = y + (k : Int) + 1 from by omega]; omega
theorem bef_bd2 {y : Int} (h1 : 0 ≤ y) (h2 : y ≤ 20001) : -400 ≤ bef y ∧ bef y ≤ 7400000 := by unfold bef; omega
def dayN (y m d : Int) : Int := bef y - 719162 + cum y (m - 1).toNat + d - 1
theorem dayN_is {y m d : Int} {k i j : Nat} (hk : (k : Int) + 1 = m) (hi : (i : Int) = 0 ∧ y ≤ 1970 ∨ 1970 + (i : Int) = y) (hj : (j : Int) = 0 ∧ 1970 ≤ y ∨ y + (j : Int) = 1970) :
    downF (upF (cumF (d - 1) y k) i) y j = dayN y m d := by
  rw [downF_eq, upF_eq, cumF_eq]
  unfold dayN
  rw [show (m - 1).toNat = k from by omega]
  have e : bef 1970 = 719162 := rfl
  rcases hi with ⟨h1, h2⟩ | h1
  · rcases hj with ⟨h3, h4⟩ | h3
    · rw [h1, h3]; have : y = 1970 := by omega
      subst this; simp only [Int.add_zero]; omega
    · rw [h1, h3]; simp only [Int.add_zero]; omega
  · rcases hj with ⟨h3, h4⟩ | h3
    · rw [h1, h3]; simp only [Int.add_zero]; omega
    · have : y = 1970 := by omega
      rw [h1, h3]; subst this; omega
theorem mtab_bd {m : Int} (h1 : 1 ≤ m) (h2 : m ≤ 12) : 28 ≤ mtab.getD (Int.toNat (m - 1)) 0 ∧ mtab.getD (Int.toNat (m - 1)) 0 ≤ 31 := by
  have : m = 1 ∨ m = 2 ∨ m = 3 ∨ m = 4 ∨ m = 5 ∨ m = 6 ∨ m = 7 ∨ m = 8 ∨ m = 9 ∨ m = 10 ∨ m = 11 ∨ m = 12 := by omega
  rcases this with rfl | rfl | rfl | rfl | rfl | rfl | rfl | rfl | rfl | rfl | rfl | rfl <;> decide
def twoB (n : Int) : ByteArray := ⟨[UInt8.ofNat (48 + n / 10).toNat, UInt8.ofNat (48 + n % 10).toNat].toArray⟩
theorem two_u8 {n : Int} (h0 : 0 ≤ n) (h1 : n ≤ 99) : u8s [UInt8.ofNat (48 + n / 10).toNat, UInt8.ofNat (48 + n % 10).toNat] = [.int .u8 (IntKind.wrap .u8 (48 + n / 10)), .int .u8 (IntKind.wrap .u8 (48 + n % 10))] := by
  have h : ∀ x : Int, 0 ≤ x → x < 256 → ((UInt8.ofNat x.toNat).toNat : Int) = IntKind.wrap .u8 x := by
    intro x a b
    have e : IntKind.wrap .u8 x = x % 256 := rfl
    rw [e, UInt8.toNat_ofNat']
    omega
  simp only [u8s, List.map_cons, List.map_nil]
  rw [h _ (by omega) (by omega), h _ (by omega) (by omega)]

theorem refLength (y m : Int) (h0 : 0 ≤ y) (h1 : 1 ≤ m) (h2 : m ≤ 12) (W0 : World) (H : List Grp) : Tri Tryz.prog 32 #[.int .i64 y, .int .i64 m] W0 H (fun v H' => v = .int .i64 (mlen y m) ∧ H' = H) := by
  have hmt := mtab_bd (m := m) h1 h2
  refine Tri_of (args := [.int .i64 y, .int .i64 m]) (n := 31) Tryz.func32 rfl rfl (Nat.le_of_ble_eq_true rfl) ?_
  refine G_seq ?_
  refine G_pure (E' := [⟨0, [], .int .i64 y⟩, ⟨1, [], .int .i64 m⟩]) [0] [0, 1] rfl (by kernel_rfl) ?_
  refine N_then ?_
  refine G_seq ?_
  refine G_region ?_
  refine GL_buildSlice (i := 0) (ch := []) (e := 3) (l := [(0, .int .i64 31), (1, .int .i64 28), (2, .int .i64 31), (3, .int .i64 30), (4, .int .i64 31), (5, .int .i64 30), (6, .int .i64 31), (7, .int .i64 31), (8, .int .i64 30), (9, .int .i64 31), (10, .int .i64 30), (11, .int .i64 31)]) (c := [.int .i64 31, .int .i64 28, .int .i64 31, .int .i64 30, .int .i64 31, .int .i64 30, .int .i64 31, .int .i64 31, .int .i64 30, .int .i64 31, .int .i64 30, .int .i64 31]) rfl rfl (by kernel_rfl) (by kernel_rfl) (by kernel_rfl) (by kernel_rfl) (by kernel_rfl) (fun b1 => ?_)
  have hw2 : IntKind.wrap .i64 (m - 1) = m - 1 := w64 (by omega) (by omega)
  refine GL_pure (E' := [⟨8, [], .int .i64 (m - 1)⟩, ⟨7, [], .int .i64 m⟩, ⟨6, [], .slice (some ⟨b1, 0, none⟩) 12 12⟩, ⟨0, [], .int .i64 y⟩, ⟨1, [], .int .i64 m⟩]) [0, 0] (Eq.trans (b := some [⟨8, [], .int .i64 (IntKind.wrap .i64 (m - 1))⟩, ⟨7, [], .int .i64 m⟩, ⟨6, [], .slice (some ⟨b1, 0, none⟩) 12 12⟩, ⟨0, [], .int .i64 y⟩, ⟨1, [], .int .i64 m⟩]) (by kernel_rfl) (by simp only [hw2])) (j := 3) rfl ?_
  refine GL_indexAddr (i := 3) (ch := []) (a := (some ⟨b1, 0, none⟩)) (len := 12) (cap := 12) (kd := .i64) (j := m - 1) (e := 3) (sz := 1) (S := (inG [(b1, .cells #[.int .i64 31, .int .i64 28, .int .i64 31, .int .i64 30, .int .i64 31, .int .i64 30, .int .i64 31, .int .i64 31, .int .i64 30, .int .i64 31, .int .i64 30, .int .i64 31] 3 (0, 0))])) (cs := [.int .i64 31, .int .i64 28, .int .i64 31, .int .i64 30, .int .i64 31, .int .i64 30, .int .i64 31, .int .i64 31, .int .i64 30, .int .i64 31, .int .i64 30, .int .i64 31]) rfl rfl (by kernel_rfl) (by kernel_rfl) (by kernel_rfl) (by kernel_rfl) (by kernel_rfl) (by kernel_rfl) (by kernel_rfl) Rd.lit (fun _ => by exact ⟨by omega, by omega, by simp⟩) ?_
  refine GL_loadS (i := 4) (ch := []) (a := (some ⟨b1, 0, none⟩)) (q := (Int.toNat (m - 1)) * 1) (S := (inG [(b1, .cells #[.int .i64 31, .int .i64 28, .int .i64 31, .int .i64 30, .int .i64 31, .int .i64 30, .int .i64 31, .int .i64 31, .int .i64 30, .int .i64 31, .int .i64 30, .int .i64 31] 3 (0, 0))])) (cs := [.int .i64 31, .int .i64 28, .int .i64 31, .int .i64 30, .int .i64 31, .int .i64 30, .int .i64 31, .int .i64 31, .int .i64 30, .int .i64 31, .int .i64 30, .int .i64 31]) (v := .int .i64 (mtab.getD (Int.toNat (m - 1)) 0)) rfl rfl (by kernel_rfl) (by kernel_rfl) (by kernel_rfl) (by kernel_rfl) (by kernel_rfl) Rd.lit (at_inG 0 rfl) (fun _ => (by rw [Nat.mul_one]; exact mtab_at (k := Int.toNat (m - 1)) (by omega))) ?_
  refine GL_fin (E' := [⟨0, [], .int .i64 y⟩, ⟨1, [], .int .i64 m⟩, ⟨5, [], .int .i64 (mtab.getD (Int.toNat (m - 1)) 0)⟩]) [0] [0, 1, 5] rfl (by kernel_rfl) ?_
  refine N_then ?_
  refine G_seq ?_
  refine G_seq ?_
  refine G_pure (E' := [⟨5, [], .int .i64 (mtab.getD (Int.toNat (m - 1)) 0)⟩, ⟨27, [], .bool ((m == 2) && (((Int.tmod y 400) == 0) || (((Int.tmod y 4) == 0) && (decide ((Int.tmod y 100) > 0)))))⟩]) [0, 0, 0, 0, 0, 0, 0, 0, 0, 0, 0, 0, 0, 0, 6, 5, 6] [5, 27] rfl (by kernel_rfl) ?_
  refine N_then ?_
  refine G_cond (b := (m == 2) && (((Int.tmod y 400) == 0) || (((Int.tmod y 4) == 0) && (decide ((Int.tmod y 100) > 0))))) (by kernel_rfl) (fun hc3 => ?_) (fun hc3 => ?_)
  ·
    have hl := mtab_yes h0 hc3
    have hw4 : IntKind.wrap .i64 ((mtab.getD (Int.toNat (m - 1)) 0) + 1) = (mtab.getD (Int.toNat (m - 1)) 0) + 1 := w64 (by omega) (by omega)
    refine G_pure (E' := [⟨5, [], .int .i64 ((mtab.getD (Int.toNat (m - 1)) 0) + 1)⟩]) [0, 0, 0] [5] rfl (Eq.trans (b := some [⟨5, [], .int .i64 (IntKind.wrap .i64 ((mtab.getD (Int.toNat (m - 1)) 0) + 1))⟩]) (by kernel_rfl) (by simp only [hw4])) ?_
    refine N_then ?_
    refine G_seq ?_
    refine G_pure (E' := [⟨4, [], .int .i64 ((mtab.getD (Int.toNat (m - 1)) 0) + 1)⟩]) [0, 0] [4] rfl (by kernel_rfl) ?_
    refine N_then ?_
    refine G_ret ?_
    refine N_heap (H' := H) (fun w h => h.erase 0) ?_
    refine N_ret [.tmp 4] [.int .i64 ((mtab.getD (Int.toNat (m - 1)) 0) + 1)] rfl (by kernel_rfl) rfl ?_
    exact ⟨by rw [← hl]; rfl, rfl⟩
  ·
    have hl := mtab_no h0 h1 h2 hc3
    refine G_skip ?_
    refine N_then ?_
    refine G_seq ?_
    refine G_pure (E' := [⟨4, [], .int .i64 (mtab.getD (Int.toNat (m - 1)) 0)⟩]) [0, 0] [4] rfl (by kernel_rfl) ?_
    refine N_then ?_
    refine G_ret ?_
    refine N_heap (H' := H) (fun w h => h.erase 0) ?_
    refine N_ret [.tmp 4] [.int .i64 (mtab.getD (Int.toNat (m - 1)) 0)] rfl (by kernel_rfl) rfl ?_
    exact ⟨by rw [← hl]; rfl, rfl⟩

theorem refDays (y m d : Int) (h0 : 1 ≤ y) (h1 : y ≤ 9999) (h2 : 1 ≤ m) (h3 : m ≤ 12) (h4 : -1000 ≤ d) (h5 : d ≤ 1000) (W0 : World) (H : List Grp) : Tri Tryz.prog 41 #[.int .i64 y, .int .i64 m, .int .i64 d] W0 H (fun v H' => v = .int .i64 (dayN y m d) ∧ H' = H) := by
  have hby := bef_bd2 (y := y) (by omega) (by omega)
  refine Tri_of (args := [.int .i64 y, .int .i64 m, .int .i64 d]) (n := 44) Tryz.func41 rfl rfl (Nat.le_of_ble_eq_true rfl) ?_
  refine G_seq ?_
  refine G_pure (E' := [⟨0, [], .int .i64 y⟩, ⟨1, [], .int .i64 m⟩, ⟨2, [], .int .i64 d⟩]) [0] [0, 1, 2] rfl (by kernel_rfl) ?_
  refine N_then ?_
  refine G_seq ?_
  have hw1 : IntKind.wrap .i64 (d - 1) = d - 1 := w64 (by omega) (by omega)
  refine G_pure (E' := [⟨0, [], .int .i64 y⟩, ⟨1, [], .int .i64 m⟩, ⟨7, [], .int .i64 (d - 1)⟩]) [0, 0, 0] [0, 1, 7] rfl (Eq.trans (b := some [⟨0, [], .int .i64 y⟩, ⟨1, [], .int .i64 m⟩, ⟨7, [], .int .i64 (IntKind.wrap .i64 (d - 1))⟩]) (by kernel_rfl) (by simp only [hw1])) ?_
  refine N_then ?_
  refine G_seq ?_
  refine G_seq ?_
  refine G_pure (E' := [⟨0, [], .int .i64 y⟩, ⟨1, [], .int .i64 m⟩, ⟨7, [], .int .i64 (d - 1)⟩, ⟨8, [], .int .i64 1⟩]) [0] [0, 1, 7, 8] rfl (by kernel_rfl) ?_
  refine N_then ?_
  refine G_block ?_
  refine G_loop (EI := (fun ξ : Nat => [⟨0, [], .int .i64 y⟩, ⟨1, [], .int .i64 m⟩, ⟨7, [], .int .i64 (cumF (d - 1) y ξ)⟩, ⟨8, [], .int .i64 ((ξ + 1 : Nat) : Int)⟩])) (HI := (fun ξ : Nat => H)) (Φ := (fun ξ : Nat => (((ξ : Nat) : Int) + 1 ≤ m))) (μ := (fun ξ : Nat => (m - ξ).toNat)) (s0 := (0)) [0, 1, 7, 8] (by kernel_rfl) rfl (by omega) ?_
  rintro k hk
  have hcf := cumF_bd (d - 1) y k
  have hml := mlen_bd y ((k + 1 : Nat) : Int)
  refine G_seq ?_
  refine G_seq ?_
  refine G_pure (E' := [⟨0, [], .int .i64 y⟩, ⟨1, [], .int .i64 m⟩, ⟨7, [], .int .i64 (cumF (d - 1) y k)⟩, ⟨8, [], .int .i64 ((k + 1 : Nat) : Int)⟩, ⟨15, [], .bool (decide (((k + 1 : Nat) : Int) < m))⟩]) [0, 0, 0] [0, 1, 7, 8, 15] rfl (by kernel_rfl) ?_
  refine N_then ?_
  refine G_cond (b := decide (((k + 1 : Nat) : Int) < m)) (by kernel_rfl) (fun hc2 => ?_) (fun hc2 => ?_)
  ·
    simp at hc2
    refine G_skip ?_
    refine N_then ?_
    refine G_seq ?_
    refine G_block ?_
    refine G_region ?_
    refine GL_pure (E' := [⟨20, [], .int .i64 ((k + 1 : Nat) : Int)⟩, ⟨19, [], .int .i64 y⟩, ⟨18, [], .int .i64 (cumF (d - 1) y k)⟩, ⟨0, [], .int .i64 y⟩, ⟨1, [], .int .i64 m⟩, ⟨7, [], .int .i64 (cumF (d - 1) y k)⟩, ⟨8, [], .int .i64 ((k + 1 : Nat) : Int)⟩, ⟨15, [], .bool (decide (((k + 1 : Nat) : Int) < m))⟩]) [0, 0, 0] (by kernel_rfl) (j := 3) rfl ?_
    refine GL_callQ (i := 3) (ch := []) (f := 32) (fst := #[]) (caps := #[]) (vs := [.int .i64 y, .int .i64 ((k + 1 : Nat) : Int)]) (v := .int .i64 (mlen y ((k + 1 : Nat) : Int))) rfl rfl rfl (by kernel_rfl) (by kernel_rfl) Tryz.func32 rfl rfl (by kernel_rfl) (by kernel_rfl) (by kernel_rfl) (fun _ => refLength _ _ (by omega) (by omega) (by omega) _ _) ?_
    have hw3 : IntKind.wrap .i64 ((cumF (d - 1) y k) + (mlen y ((k + 1 : Nat) : Int))) = (cumF (d - 1) y k) + (mlen y ((k + 1 : Nat) : Int)) := w64 (by omega) (by omega)
    refine GL_fin (E' := [⟨0, [], .int .i64 y⟩, ⟨1, [], .int .i64 m⟩, ⟨7, [], .int .i64 ((cumF (d - 1) y k) + (mlen y ((k + 1 : Nat) : Int)))⟩, ⟨8, [], .int .i64 ((k + 1 : Nat) : Int)⟩]) [0, 0] [0, 1, 7, 8] rfl (Eq.trans (b := some [⟨0, [], .int .i64 y⟩, ⟨1, [], .int .i64 m⟩, ⟨7, [], .int .i64 (IntKind.wrap .i64 ((cumF (d - 1) y k) + (mlen y ((k + 1 : Nat) : Int))))⟩, ⟨8, [], .int .i64 ((k + 1 : Nat) : Int)⟩]) (by kernel_rfl) (by simp only [hw3])) ?_
    refine N_block ?_
    refine N_then ?_
    have hw4 : IntKind.wrap .i64 (((k + 1 : Nat) : Int) + 1) = ((k + 1 : Nat) : Int) + 1 := w64 (by omega) (by omega)
    refine G_pure (E' := [⟨0, [], .int .i64 y⟩, ⟨1, [], .int .i64 m⟩, ⟨7, [], .int .i64 ((cumF (d - 1) y k) + (mlen y ((k + 1 : Nat) : Int)))⟩, ⟨8, [], .int .i64 (((k + 1 : Nat) : Int) + 1)⟩]) [0, 0, 0] [0, 1, 7, 8] rfl (Eq.trans (b := some [⟨0, [], .int .i64 y⟩, ⟨1, [], .int .i64 m⟩, ⟨7, [], .int .i64 ((cumF (d - 1) y k) + (mlen y ((k + 1 : Nat) : Int)))⟩, ⟨8, [], .int .i64 (IntKind.wrap .i64 (((k + 1 : Nat) : Int) + 1))⟩]) (by kernel_rfl) (by simp only [hw4])) ?_
    refine N_round (s' := (k + 1)) [0, 1, 7, 8] (by kernel_rfl) rfl (by omega) (by omega)
  ·
    simp at hc2
    refine G_exit ?_
    refine N_then_exit ?_
    refine N_then_exit ?_
    refine N_block_exit ?_
    refine N_then ?_
    refine G_seq ?_
    refine G_seq ?_
    refine G_pure (E' := [⟨0, [], .int .i64 y⟩, ⟨7, [], .int .i64 (cumF (d - 1) y k)⟩, ⟨9, [], .int .i64 1970⟩]) [0] [0, 7, 9] rfl (by kernel_rfl) ?_
    refine N_then ?_
    refine G_block ?_
    refine G_loop (EI := (fun ξ : Nat => [⟨0, [], .int .i64 y⟩, ⟨7, [], .int .i64 (upF (cumF (d - 1) y k) ξ)⟩, ⟨9, [], .int .i64 (1970 + ((ξ : Nat) : Int))⟩])) (HI := (fun ξ : Nat => H)) (Φ := (fun ξ : Nat => (((ξ : Nat) : Int) = 0 ∨ 1970 + ((ξ : Nat) : Int) ≤ y))) (μ := (fun ξ : Nat => (y - 1970 - ξ).toNat)) (s0 := (0)) [0, 7, 9] (by kernel_rfl) rfl (by omega) ?_
    rintro i hi
    have huf := upF_eq (cumF (d - 1) y k) i
    have hb1 := bef_bd2 (y := 1970 + ((i : Nat) : Int)) (by omega) (by omega)
    have hm2 := mlen_bd (1970 + ((i : Nat) : Int)) 2
    refine G_seq ?_
    refine G_seq ?_
    refine G_pure (E' := [⟨0, [], .int .i64 y⟩, ⟨7, [], .int .i64 (upF (cumF (d - 1) y k) i)⟩, ⟨9, [], .int .i64 (1970 + ((i : Nat) : Int))⟩, ⟨25, [], .bool (decide ((1970 + ((i : Nat) : Int)) < y))⟩]) [0, 0, 0] [0, 7, 9, 25] rfl (by kernel_rfl) ?_
    refine N_then ?_
    refine G_cond (b := decide ((1970 + ((i : Nat) : Int)) < y)) (by kernel_rfl) (fun hc5 => ?_) (fun hc5 => ?_)
    ·
      simp at hc5
      refine G_skip ?_
      refine N_then ?_
      refine G_seq ?_
      refine G_block ?_
      refine G_region ?_
      refine GL_pure (E' := [⟨29, [], .int .i64 (1970 + ((i : Nat) : Int))⟩, ⟨28, [], .int .i64 (upF (cumF (d - 1) y k) i)⟩, ⟨0, [], .int .i64 y⟩, ⟨7, [], .int .i64 (upF (cumF (d - 1) y k) i)⟩, ⟨9, [], .int .i64 (1970 + ((i : Nat) : Int))⟩, ⟨25, [], .bool (decide ((1970 + ((i : Nat) : Int)) < y))⟩]) [0, 0] (by kernel_rfl) (j := 2) rfl ?_
      refine GL_callQ (i := 2) (ch := []) (f := 32) (fst := #[]) (caps := #[]) (vs := [.int .i64 (1970 + ((i : Nat) : Int)), .int .i64 2]) (v := .int .i64 (mlen (1970 + ((i : Nat) : Int)) 2)) rfl rfl rfl (by kernel_rfl) (by kernel_rfl) Tryz.func32 rfl rfl (by kernel_rfl) (by kernel_rfl) (by kernel_rfl) (fun _ => refLength _ _ (by omega) (by omega) (by omega) _ _) ?_
      have hw6 : IntKind.wrap .i64 (337 + (mlen (1970 + ((i : Nat) : Int)) 2)) = 337 + (mlen (1970 + ((i : Nat) : Int)) 2) := w64 (by omega) (by omega)
      have hw7 : IntKind.wrap .i64 ((upF (cumF (d - 1) y k) i) + (337 + (mlen (1970 + ((i : Nat) : Int)) 2))) = (upF (cumF (d - 1) y k) i) + (337 + (mlen (1970 + ((i : Nat) : Int)) 2)) := w64 (by omega) (by omega)
      refine GL_fin (E' := [⟨0, [], .int .i64 y⟩, ⟨7, [], .int .i64 ((upF (cumF (d - 1) y k) i) + (337 + (mlen (1970 + ((i : Nat) : Int)) 2)))⟩, ⟨9, [], .int .i64 (1970 + ((i : Nat) : Int))⟩]) [0, 0, 0] [0, 7, 9] rfl (Eq.trans (b := some [⟨0, [], .int .i64 y⟩, ⟨7, [], .int .i64 (IntKind.wrap .i64 ((upF (cumF (d - 1) y k) i) + (IntKind.wrap .i64 (337 + (mlen (1970 + ((i : Nat) : Int)) 2)))))⟩, ⟨9, [], .int .i64 (1970 + ((i : Nat) : Int))⟩]) (by kernel_rfl) (by simp only [hw6, hw7])) ?_
      refine N_block ?_
      refine N_then ?_
      have hw8 : IntKind.wrap .i64 ((1970 + ((i : Nat) : Int)) + 1) = (1970 + ((i : Nat) : Int)) + 1 := w64 (by omega) (by omega)
      refine G_pure (E' := [⟨0, [], .int .i64 y⟩, ⟨7, [], .int .i64 ((upF (cumF (d - 1) y k) i) + (337 + (mlen (1970 + ((i : Nat) : Int)) 2)))⟩, ⟨9, [], .int .i64 ((1970 + ((i : Nat) : Int)) + 1)⟩]) [0, 0, 0] [0, 7, 9] rfl (Eq.trans (b := some [⟨0, [], .int .i64 y⟩, ⟨7, [], .int .i64 ((upF (cumF (d - 1) y k) i) + (337 + (mlen (1970 + ((i : Nat) : Int)) 2)))⟩, ⟨9, [], .int .i64 (IntKind.wrap .i64 ((1970 + ((i : Nat) : Int)) + 1))⟩]) (by kernel_rfl) (by simp only [hw8])) ?_
      refine N_round (s' := (i + 1)) [0, 7, 9] (by kernel_rfl) rfl (by omega) (by omega)
    ·
      simp at hc5
      refine G_exit ?_
      refine N_then_exit ?_
      refine N_then_exit ?_
      refine N_block_exit ?_
      refine N_then ?_
      refine G_seq ?_
      refine G_seq ?_
      refine G_pure (E' := [⟨7, [], .int .i64 (upF (cumF (d - 1) y k) i)⟩, ⟨10, [], .int .i64 y⟩]) [0, 0] [7, 10] rfl (by kernel_rfl) ?_
      refine N_then ?_
      refine G_block ?_
      refine G_loop (EI := (fun ξ : Nat => [⟨7, [], .int .i64 (downF (upF (cumF (d - 1) y k) i) y ξ)⟩, ⟨10, [], .int .i64 (yj y ξ)⟩])) (HI := (fun ξ : Nat => H)) (Φ := (fun ξ : Nat => (((ξ : Nat) : Int) = 0 ∨ y + ((ξ : Nat) : Int) ≤ 1970))) (μ := (fun ξ : Nat => (1970 - y - ξ).toNat)) (s0 := (0)) [7, 10] (by kernel_rfl) rfl (by omega) ?_
      rintro j hj
      have hdf := downF_eq (upF (cumF (d - 1) y k) i) y j
      have hyj := yj_eq y j
      have hb2 := bef_bd2 (y := y + ((j : Nat) : Int)) (by omega) (by omega)
      have hm3 := mlen_bd (yj y j) 2
      refine G_seq ?_
      refine G_seq ?_
      refine G_pure (E' := [⟨7, [], .int .i64 (downF (upF (cumF (d - 1) y k) i) y j)⟩, ⟨10, [], .int .i64 (yj y j)⟩, ⟨35, [], .bool (decide ((yj y j) < 1970))⟩]) [0, 0] [7, 10, 35] rfl (by kernel_rfl) ?_
      refine N_then ?_
      refine G_cond (b := decide ((yj y j) < 1970)) (by kernel_rfl) (fun hc9 => ?_) (fun hc9 => ?_)
      ·
        simp at hc9
        refine G_skip ?_
        refine N_then ?_
        refine G_seq ?_
        refine G_block ?_
        refine G_region ?_
        refine GL_pure (E' := [⟨39, [], .int .i64 (yj y j)⟩, ⟨38, [], .int .i64 (downF (upF (cumF (d - 1) y k) i) y j)⟩, ⟨7, [], .int .i64 (downF (upF (cumF (d - 1) y k) i) y j)⟩, ⟨10, [], .int .i64 (yj y j)⟩, ⟨35, [], .bool (decide ((yj y j) < 1970))⟩]) [0, 0] (by kernel_rfl) (j := 2) rfl ?_
        refine GL_callQ (i := 2) (ch := []) (f := 32) (fst := #[]) (caps := #[]) (vs := [.int .i64 (yj y j), .int .i64 2]) (v := .int .i64 (mlen (yj y j) 2)) rfl rfl rfl (by kernel_rfl) (by kernel_rfl) Tryz.func32 rfl rfl (by kernel_rfl) (by kernel_rfl) (by kernel_rfl) (fun _ => refLength _ _ (by omega) (by omega) (by omega) _ _) ?_
        have hw10 : IntKind.wrap .i64 (337 + (mlen (yj y j) 2)) = 337 + (mlen (yj y j) 2) := w64 (by omega) (by omega)
        have hw11 : IntKind.wrap .i64 ((downF (upF (cumF (d - 1) y k) i) y j) - (337 + (mlen (yj y j) 2))) = (downF (upF (cumF (d - 1) y k) i) y j) - (337 + (mlen (yj y j) 2)) := w64 (by omega) (by omega)
        refine GL_fin (E' := [⟨7, [], .int .i64 ((downF (upF (cumF (d - 1) y k) i) y j) - (337 + (mlen (yj y j) 2)))⟩, ⟨10, [], .int .i64 (yj y j)⟩]) [0, 0, 0] [7, 10] rfl (Eq.trans (b := some [⟨7, [], .int .i64 (IntKind.wrap .i64 ((downF (upF (cumF (d - 1) y k) i) y j) - (IntKind.wrap .i64 (337 + (mlen (yj y j) 2)))))⟩, ⟨10, [], .int .i64 (yj y j)⟩]) (by kernel_rfl) (by simp only [hw10, hw11])) ?_
        refine N_block ?_
        refine N_then ?_
        have hw12 : IntKind.wrap .i64 ((yj y j) + 1) = (yj y j) + 1 := w64 (by omega) (by omega)
        refine G_pure (E' := [⟨7, [], .int .i64 ((downF (upF (cumF (d - 1) y k) i) y j) - (337 + (mlen (yj y j) 2)))⟩, ⟨10, [], .int .i64 ((yj y j) + 1)⟩]) [0, 0, 0] [7, 10] rfl (Eq.trans (b := some [⟨7, [], .int .i64 ((downF (upF (cumF (d - 1) y k) i) y j) - (337 + (mlen (yj y j) 2)))⟩, ⟨10, [], .int .i64 (IntKind.wrap .i64 ((yj y j) + 1))⟩]) (by kernel_rfl) (by simp only [hw12])) ?_
        refine N_round (s' := (j + 1)) [7, 10] (by kernel_rfl) rfl (by omega) (by omega)
      ·
        simp at hc9
        refine G_exit ?_
        refine N_then_exit ?_
        refine N_then_exit ?_
        refine N_block_exit ?_
        refine N_then ?_
        refine G_seq ?_
        refine G_pure (E' := [⟨6, [], .int .i64 (downF (upF (cumF (d - 1) y k) i) y j)⟩]) [0, 0] [6] rfl (by kernel_rfl) ?_
        refine N_then ?_
        refine G_ret ?_
        refine N_ret [.tmp 6] [.int .i64 (downF (upF (cumF (d - 1) y k) i) y j)] rfl (by kernel_rfl) rfl ?_
        exact ⟨by rw [← dayN_is (k := k) (i := i) (j := j) (by omega) (by omega) (by omega)]; rfl, rfl⟩

theorem refLow  (W0 : World) (H : List Grp) : Tri Tryz.prog 30 #[] W0 H (fun v H' => v = .int .i64 (-62135596800) ∧ H' = H) := by
  have hv : dayN 1 1 1 = -719162 := rfl
  refine Tri_of (args := []) (n := 3) Tryz.func30 rfl rfl (Nat.le_of_ble_eq_true rfl) ?_
  refine G_seq ?_
  refine G_pure (E' := []) [0] [] rfl (by kernel_rfl) ?_
  refine N_then ?_
  refine G_seq ?_
  refine G_region ?_
  refine GL_callQ (i := 0) (ch := []) (f := 41) (fst := #[]) (caps := #[]) (vs := [.int .i64 1, .int .i64 1, .int .i64 1]) (v := .int .i64 (dayN 1 1 1)) rfl rfl rfl (by kernel_rfl) (by kernel_rfl) Tryz.func41 rfl rfl (by kernel_rfl) (by kernel_rfl) (by kernel_rfl) (fun _ => refDays _ _ _ (by omega) (by omega) (by omega) (by omega) (by omega) (by omega) _ _) ?_
  have hw1 : IntKind.wrap .i64 (86400 * (dayN 1 1 1)) = 86400 * (dayN 1 1 1) := w64 (by omega) (by omega)
  refine GL_fin (E' := [⟨0, [], .int .i64 (86400 * (dayN 1 1 1))⟩]) [0, 0] [0] rfl (Eq.trans (b := some [⟨0, [], .int .i64 (IntKind.wrap .i64 (86400 * (dayN 1 1 1)))⟩]) (by kernel_rfl) (by simp only [hw1])) ?_
  refine N_then ?_
  refine G_ret ?_
  refine N_ret [.tmp 0] [.int .i64 (86400 * (dayN 1 1 1))] rfl (by kernel_rfl) rfl ?_
  exact ⟨by rw [hv]; rfl, rfl⟩

theorem refHigh  (W0 : World) (H : List Grp) : Tri Tryz.prog 31 #[] W0 H (fun v H' => v = .int .i64 253402300799 ∧ H' = H) := by
  have hv : dayN 9999 12 31 = 2932896 := by kernel_rfl
  refine Tri_of (args := []) (n := 4) Tryz.func31 rfl rfl (Nat.le_of_ble_eq_true rfl) ?_
  refine G_seq ?_
  refine G_pure (E' := []) [0] [] rfl (by kernel_rfl) ?_
  refine N_then ?_
  refine G_seq ?_
  refine G_region ?_
  refine GL_callQ (i := 0) (ch := []) (f := 41) (fst := #[]) (caps := #[]) (vs := [.int .i64 9999, .int .i64 12, .int .i64 31]) (v := .int .i64 (dayN 9999 12 31)) rfl rfl rfl (by kernel_rfl) (by kernel_rfl) Tryz.func41 rfl rfl (by kernel_rfl) (by kernel_rfl) (by kernel_rfl) (fun _ => refDays _ _ _ (by omega) (by omega) (by omega) (by omega) (by omega) (by omega) _ _) ?_
  have hw1 : IntKind.wrap .i64 (86400 * (dayN 9999 12 31)) = 86400 * (dayN 9999 12 31) := w64 (by omega) (by omega)
  have hw2 : IntKind.wrap .i64 ((86400 * (dayN 9999 12 31)) + 86399) = (86400 * (dayN 9999 12 31)) + 86399 := w64 (by omega) (by omega)
  refine GL_fin (E' := [⟨0, [], .int .i64 ((86400 * (dayN 9999 12 31)) + 86399)⟩]) [0, 0, 0] [0] rfl (Eq.trans (b := some [⟨0, [], .int .i64 (IntKind.wrap .i64 ((IntKind.wrap .i64 (86400 * (dayN 9999 12 31))) + 86399))⟩]) (by kernel_rfl) (by simp only [hw1, hw2])) ?_
  refine N_then ?_
  refine G_ret ?_
  refine N_ret [.tmp 0] [.int .i64 ((86400 * (dayN 9999 12 31)) + 86399)] rfl (by kernel_rfl) rfl ?_
  exact ⟨by rw [hv]; rfl, rfl⟩

theorem refTwo (n : Int) (h0 : 0 ≤ n) (h1 : n ≤ 99) (W0 : World) (H : List Grp) : Tri Tryz.prog 10 #[.int .i64 n] W0 H (fun v H' => v = .string (twoB n) ∧ H' = H) := by
  refine Tri_of (args := [.int .i64 n]) (n := 13) Tryz.func10 rfl rfl (Nat.le_of_ble_eq_true rfl) ?_
  refine G_seq ?_
  refine G_pure (E' := [⟨0, [], .int .i64 n⟩]) [0] [0] rfl (by kernel_rfl) ?_
  refine N_then ?_
  refine G_seq ?_
  have hw1 : IntKind.wrap .i64 (Int.tdiv n 10) = n / 10 := q64 (by omega) (by omega) (by decide)
  have hw2 : IntKind.wrap .i64 (48 + (n / 10)) = 48 + (n / 10) := w64 (by omega) (by omega)
  have hw3 : Int.tmod n 10 = n % 10 := r64 (by omega)
  have hw4 : IntKind.wrap .i64 (48 + (n % 10)) = 48 + (n % 10) := w64 (by omega) (by omega)
  refine G_region ?_
  refine GL_pure (E' := [⟨10, [], .int .u8 (IntKind.wrap .u8 (48 + (n % 10)))⟩, ⟨9, [], .int .i64 (48 + (n % 10))⟩, ⟨8, [], .int .i64 (n % 10)⟩, ⟨7, [], .int .i64 n⟩, ⟨6, [], .int .u8 (IntKind.wrap .u8 (48 + (n / 10)))⟩, ⟨5, [], .int .i64 (48 + (n / 10))⟩, ⟨4, [], .int .i64 (n / 10)⟩, ⟨3, [], .int .i64 n⟩, ⟨0, [], .int .i64 n⟩]) [0, 0, 0, 0, 0, 0, 0, 0] (Eq.trans (b := some [⟨10, [], .int .u8 (IntKind.wrap .u8 (IntKind.wrap .i64 (48 + (Int.tmod n 10))))⟩, ⟨9, [], .int .i64 (IntKind.wrap .i64 (48 + (Int.tmod n 10)))⟩, ⟨8, [], .int .i64 (Int.tmod n 10)⟩, ⟨7, [], .int .i64 n⟩, ⟨6, [], .int .u8 (IntKind.wrap .u8 (IntKind.wrap .i64 (48 + (IntKind.wrap .i64 (Int.tdiv n 10)))))⟩, ⟨5, [], .int .i64 (IntKind.wrap .i64 (48 + (IntKind.wrap .i64 (Int.tdiv n 10))))⟩, ⟨4, [], .int .i64 (IntKind.wrap .i64 (Int.tdiv n 10))⟩, ⟨3, [], .int .i64 n⟩, ⟨0, [], .int .i64 n⟩]) (by kernel_rfl) (by simp only [hw1, hw2, hw3, hw4])) (j := 8) rfl ?_
  refine GL_buildSlice (i := 8) (ch := []) (e := 5) (l := [(0, .int .u8 (IntKind.wrap .u8 (48 + (n / 10)))), (1, .int .u8 (IntKind.wrap .u8 (48 + (n % 10))))]) (c := [.int .u8 (IntKind.wrap .u8 (48 + (n / 10))), .int .u8 (IntKind.wrap .u8 (48 + (n % 10)))]) rfl rfl (by kernel_rfl) (by kernel_rfl) (by kernel_rfl) (by kernel_rfl) (by kernel_rfl) (fun b5 => ?_)
  refine GL_bytesStr (i := 9) (ch := []) (a := ⟨b5, 0, none⟩) (cap := 2) (e := 5) (S := (inG [(b5, .cells #[.int .u8 (IntKind.wrap .u8 (48 + (n / 10))), .int .u8 (IntKind.wrap .u8 (48 + (n % 10)))] 5 (0, 0))])) ([UInt8.ofNat (48 + n / 10).toNat, UInt8.ofNat (48 + n % 10).toNat]) rfl rfl (by kernel_rfl) (by kernel_rfl) (by kernel_rfl) (by kernel_rfl) (by kernel_rfl) (by kernel_rfl) (by kernel_rfl) (by rw [two_u8 h0 h1]; exact Rd.lit) (at_inG 0 rfl) ?_
  refine GL_fin (E' := [⟨2, [], .string (twoB n)⟩]) [0] [2] rfl (by kernel_rfl) ?_
  refine N_then ?_
  refine G_ret ?_
  refine N_heap (H' := H) (fun w h => h.erase 0) ?_
  refine N_ret [.tmp 2] [.string (twoB n)] rfl (by kernel_rfl) rfl ?_
  exact ⟨rfl, rfl⟩

end Go.Proofs.YtlglmomimhbeaaaGreatDoor
