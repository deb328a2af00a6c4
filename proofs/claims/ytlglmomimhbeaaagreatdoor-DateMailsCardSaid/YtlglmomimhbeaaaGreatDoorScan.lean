/- A scan of a text, in plain words. -/
import Derived.Test.YtlglmomimhbeaaaGreatDoorLib
namespace Go.Scn
open Go.Sw

structure Sc where
  s : ByteArray
  bad : Bool

def isDig (c : Int) : Bool := 48 ≤ c && c ≤ 57
def digB (t : ByteArray) : Bool := (t.data.toList).all fun c => isDig (c.toNat : Int)
def dvalL (l : List UInt8) : Int := l.foldl (fun a c => 10 * a + ((c.toNat : Int) - 48)) 0
def startsB (s p : ByteArray) : Bool := decide ((s.size : Int) ≥ (p.size : Int)) && ((s.extract 0 p.size).toList == p.toList)
def cutP (s p : ByteArray) : ByteArray := if startsB s p then s.extract p.size s.size else s

def num (n : Nat) (σ : Sc) : Int × Sc :=
  if n ≤ σ.s.size ∧ digB (σ.s.extract 0 n) = true then (dvalL (σ.s.extract 0 n).data.toList, ⟨σ.s.extract n σ.s.size, σ.bad⟩) else (0, ⟨σ.s, true⟩)
def oneFrom (σ : Sc) : List ByteArray → Int → Int × Sc
  | [], _ => (-1, ⟨σ.s, true⟩)
  | w :: r, i => if startsB σ.s w then (i, ⟨cutP σ.s w, σ.bad⟩) else oneFrom σ r (i + 1)
def one (ws : List ByteArray) (σ : Sc) : Int × Sc := oneFrom σ ws 0
def may (w : ByteArray) (σ : Sc) : Bool × Sc := (startsB σ.s w, ⟨cutP σ.s w, σ.bad⟩)

theorem dvalL_bd : ∀ (l : List UInt8) (a : Int), (l.all fun c => isDig (c.toNat : Int)) = true → 0 ≤ a →
    0 ≤ l.foldl (fun a c => 10 * a + ((c.toNat : Int) - 48)) a ∧ l.foldl (fun a c => 10 * a + ((c.toNat : Int) - 48)) a + 1 ≤ (a + 1) * 10 ^ l.length
  | [], a, _, h => by simp; exact h
  | c :: l, a, hl, h => by
    simp only [List.all_cons, Bool.and_eq_true, isDig, decide_eq_true_eq] at hl
    obtain ⟨⟨h1, h2⟩, h3⟩ := hl
    have := dvalL_bd l (10 * a + ((c.toNat : Int) - 48)) h3 (by omega)
    simp only [List.foldl_cons, List.length_cons]
    refine ⟨this.1, Int.le_trans this.2 ?_⟩
    rw [show (10 : Int) ^ (l.length + 1) = 10 * 10 ^ l.length from by rw [Int.pow_succ]; omega, ← Int.mul_assoc]
    apply Int.mul_le_mul_of_nonneg_right
    · omega
    · exact Int.pow_nonneg (by omega)

theorem num_bd (n : Nat) (hn : n ≤ 4) (σ : Sc) : 0 ≤ (num n σ).1 ∧ (num n σ).1 ≤ 9999 := by
  unfold num
  split
  · rename_i h
    have := dvalL_bd (σ.s.extract 0 n).data.toList 0 h.2 (Int.le_refl 0)
    have hl : (σ.s.extract 0 n).data.toList.length = n := by
      rw [Array.length_toList]
      have : (σ.s.extract 0 n).size = n := by simp; omega
      exact this
    rw [hl] at this
    have h4 : (10 : Int) ^ n ≤ 10000 := by
      have : n = 0 ∨ n = 1 ∨ n = 2 ∨ n = 3 ∨ n = 4 := by omega
      rcases this with rfl | rfl | rfl | rfl | rfl <;> decide
    unfold dvalL
    simp only
    omega
  · simp
theorem num_size (n : Nat) (σ : Sc) : (num n σ).2.s.size ≤ σ.s.size := by
  unfold num; split
  · simp
  · simp
theorem cutP_size (s p : ByteArray) : (cutP s p).size ≤ s.size := by unfold cutP; split <;> simp
theorem one_bd (σ : Sc) : ∀ (ws : List ByteArray) (i : Int), 0 ≤ i → -1 ≤ (oneFrom σ ws i).1 ∧ (oneFrom σ ws i).1 < i + ws.length + (if ws = [] then 1 else 0) ∧ (oneFrom σ ws i).2.s.size ≤ σ.s.size
  | [], i, h => by simp [oneFrom]; omega
  | w :: r, i, h => by
    unfold oneFrom
    split
    · simp only [List.length_cons]; exact ⟨by omega, by simp; omega, cutP_size _ _⟩
    · have := one_bd σ r (i + 1) (by omega)
      simp only [List.length_cons]
      refine ⟨this.1, ?_, this.2.2⟩
      have h2 := this.2.1
      by_cases hr : r = []
      · subst hr; simp [oneFrom]; omega
      · simp [hr] at h2 ⊢; omega
theorem oneFrom_skip (σ : Sc) : ∀ (ws : List ByteArray) (i : Int) (k : Nat), k ≤ ws.length → (∀ j, j < k → startsB σ.s (ws.getD j default) = false) → oneFrom σ ws i = oneFrom σ (ws.drop k) (i + k)
  | ws, i, 0, _, _ => by simp
  | [], i, k + 1, h, _ => by simp at h
  | w :: r, i, k + 1, h, hj => by
    have h0 := hj 0 (by omega)
    simp only [List.getD_cons_zero] at h0
    rw [oneFrom, h0]
    simp only [Bool.false_eq_true, if_false, List.drop_succ_cons]
    rw [oneFrom_skip σ r (i + 1) k (by simp at h; omega) (fun j hjk => by have := hj (j + 1) (by omega); simpa using this)]
    congr 1
    push_cast
    omega
theorem one_hit {σ : Sc} {ws : List ByteArray} {k : Nat} (hk : k < ws.length) (hj : ∀ j, j < k → startsB σ.s (ws.getD j default) = false) (h : startsB σ.s (ws.getD k default) = true) :
    one ws σ = ((k : Int), ⟨cutP σ.s (ws.getD k default), σ.bad⟩) := by
  unfold one
  rw [oneFrom_skip σ ws 0 k (by omega) hj, List.drop_eq_getElem_cons hk, oneFrom]
  have e : ws.getD k default = ws[k] := by simp [List.getD_eq_getElem?_getD, hk]
  rw [e] at h ⊢
  rw [h]
  simp
theorem one_miss {σ : Sc} {ws : List ByteArray} (hj : ∀ j, j < ws.length → startsB σ.s (ws.getD j default) = false) : one ws σ = (-1, ⟨σ.s, true⟩) := by
  unfold one
  rw [oneFrom_skip σ ws 0 ws.length (Nat.le_refl _) hj, List.drop_length, oneFrom]

end Go.Scn
