/- The day of a number of days, in plain words: the year, the month and the day that it has; that there is just one. -/
import Derived.Test.YtlglmomimhbeaaaGreatDoorDate
namespace Go.Cal

theorem year_ex (days : Int) (h0 : 0 ≤ days) : ∀ n : Nat, days < bef (1 + n) → ∃ y, 1 ≤ y ∧ y < 1 + (n : Int) ∧ bef y ≤ days ∧ days < bef (y + 1)
  | 0, h => by simp [bef] at h; omega
  | n + 1, h => by
    by_cases hn : days < bef (1 + n)
    · obtain ⟨y, h1, h2, h3, h4⟩ := year_ex days h0 n hn
      exact ⟨y, h1, by push_cast; omega, h3, h4⟩
    · exact ⟨1 + n, by omega, by push_cast; omega, by omega, by rw [show (1 : Int) + n + 1 = 1 + ((n + 1 : Nat) : Int) from by push_cast; omega]; exact h⟩
theorem month_ex (y left : Int) (h0 : 0 ≤ left) : ∀ k : Nat, left < cum y k → ∃ m, m < k ∧ cum y m ≤ left ∧ left < cum y (m + 1)
  | 0, h => by simp [cum] at h; omega
  | k + 1, h => by
    by_cases hk : left < cum y k
    · obtain ⟨m, h1, h2, h3⟩ := month_ex y left h0 k hk
      exact ⟨m, by omega, h2, h3⟩
    · exact ⟨k, by omega, by omega, h⟩
theorem ym_ex {days : Int} (h0 : 0 ≤ days) (h1 : days ≤ 3652058) : ∃ r, IsYM days r := by
  obtain ⟨y, a, b, c, d⟩ := year_ex days h0 9999 (by simp [bef]; omega)
  have e := bef_succ y
  have f := cum12 y
  obtain ⟨m, g, h, i⟩ := month_ex y (days - bef y) (by omega) 12 (by omega)
  simp only [cum] at i
  exact ⟨⟨y, m, days - bef y - cum y m⟩, a, by simp only; omega, g, by simp only; omega, by simp only; omega, by simp only; omega⟩
open Classical in
noncomputable def ymC (days : Int) : YM := if h : ∃ r, IsYM days r then Classical.choose h else ⟨1, 0, 0⟩
theorem ymC_is {days : Int} (h0 : 0 ≤ days) (h1 : days ≤ 3652058) : IsYM days (ymC days) := by
  have h := ym_ex h0 h1
  unfold ymC
  rw [dif_pos h]
  exact Classical.choose_spec h
theorem ymC_eq {days : Int} {r : YM} (h : IsYM days r) : ymC days = r := by
  have h' : ∃ r, IsYM days r := ⟨r, h⟩
  unfold ymC
  rw [dif_pos h']
  exact isYM_uniq (Classical.choose_spec h') h
/-- the nearest time that can be written -/
def clampT (t : Int) : Int := if (if t < 253402300799 then t else 253402300799) > (-62135596800) then (if t < 253402300799 then t else 253402300799) else (-62135596800)
def upT (t : Int) : Int := clampT t - (-62135596800)
def dT (t : Int) : Int := upT t / 86400
def rT (t : Int) : Int := upT t % 86400
noncomputable def yT (t : Int) : Int := (ymC (dT t)).y
noncomputable def moT (t : Int) : Int := (((ymC (dT t)).m + 1 : Nat) : Int)
noncomputable def ddT (t : Int) : Int := (ymC (dT t)).d + 1
theorem upT_bd (t : Int) : 0 ≤ upT t ∧ upT t ≤ 315537897599 := by
  unfold upT clampT; split <;> split <;> omega
theorem dT_bd (t : Int) : 0 ≤ dT t ∧ dT t ≤ 3652058 := by
  have := upT_bd t; unfold dT; omega
theorem rT_bd (t : Int) : 0 ≤ rT t ∧ rT t < 86400 := by unfold rT; omega
theorem ymT_bd (t : Int) : 1 ≤ yT t ∧ yT t ≤ 9999 ∧ 1 ≤ moT t ∧ moT t ≤ 12 ∧ 1 ≤ ddT t ∧ ddT t ≤ 31 ∧ ddT t ≤ mlen (yT t) (moT t) := by
  have h := dT_bd t
  obtain ⟨h1, h2, h3, h4, h5, h6⟩ := ymC_is h.1 h.2
  have := mlen_bd (ymC (dT t)).y ((ymC (dT t)).m + 1)
  unfold yT moT ddT
  rw [show (((ymC (dT t)).m + 1 : Nat) : Int) = ((ymC (dT t)).m : Int) + 1 from by push_cast; rfl]
  omega
def leftF (a y : Int) : Nat → Int
  | 0 => a
  | k + 1 => leftF a y k - mlen y ((k + 1 : Nat) : Int)
theorem leftF_eq (a y : Int) : ∀ k, leftF a y k = a - cum y k
  | 0 => by simp [leftF, cum]
  | k + 1 => by rw [leftF, leftF_eq a y k, cum]; push_cast; omega
theorem bef_first {days : Int} (h0 : 0 ≤ days) (h1 : days ≤ 3652058) : 1 ≤ (if days / 366 > 1 then days / 366 else 1) ∧ (if days / 366 > 1 then days / 366 else 1) ≤ 9999 ∧ bef (if days / 366 > 1 then days / 366 else 1) ≤ days := by
  split
  · unfold bef; omega
  · simp [bef]; omega
end Go.Cal
