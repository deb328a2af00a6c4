/- The calendar in plain numbers: nothing of the program is in sight. -/
import Derived.KernelRfl
namespace Go.Cal

def leapB (y : Int) : Bool := y % 4 == 0 && y % 100 != 0 || y % 400 == 0
def mlen (y m : Int) : Int := if m = 2 then (if leapB y then 29 else 28) else if m = 4 ∨ m = 6 ∨ m = 9 ∨ m = 11 then 30 else 31
/-- days of the years 1 .. y - 1 -/
def bef (y : Int) : Int := 365 * (y - 1) + (y - 1) / 4 - (y - 1) / 100 + (y - 1) / 400
/-- days of the first k months -/
def cum (y : Int) : Nat → Int
  | 0 => 0
  | k + 1 => cum y k + mlen y (k + 1)

theorem mlen_bd (y m : Int) : 28 ≤ mlen y m ∧ mlen y m ≤ 31 := by
  unfold mlen; split <;> (try split) <;> (try split) <;> omega
theorem cum_bd (y : Int) : ∀ k : Nat, 28 * k ≤ cum y k ∧ cum y k ≤ 31 * k
  | 0 => by simp [cum]
  | k + 1 => by
    have := cum_bd y k; have := mlen_bd y (k + 1)
    simp only [cum]; omega
theorem leap_iff (y : Int) : leapB y = true ↔ (y % 4 = 0 ∧ ¬ y % 100 = 0) ∨ y % 400 = 0 := by
  simp [leapB]
theorem bef_succ (y : Int) : bef (y + 1) = bef y + 365 + (if leapB y then 1 else 0) := by
  unfold bef
  by_cases h : leapB y = true
  · rw [if_pos h]; rw [leap_iff] at h; omega
  · rw [if_neg h]; rw [leap_iff] at h; omega
theorem cum12 (y : Int) : cum y 12 = 365 + (if leapB y then 1 else 0) := by
  simp only [cum, mlen]
  by_cases h : leapB y = true <;> simp [h]
theorem bef_mono {a b : Int} (h : a ≤ b) : bef a ≤ bef b := by unfold bef; omega
theorem bef_bd {y : Int} (h1 : 1 ≤ y) (h2 : y ≤ 10000) : 0 ≤ bef y ∧ bef y ≤ 3652059 := by unfold bef; omega
theorem bef_lo {y : Int} : 365 * (y - 1) ≤ bef y + 1 + (y - 1) / 100 ∧ bef y ≤ 366 * (y - 1) ∨ y < 1 := by unfold bef; omega
theorem cum_mono (y : Int) {a b : Nat} (h : a ≤ b) : cum y a ≤ cum y b := by
  induction h with
  | refl => exact Int.le_refl _
  | step _ ih => simp only [cum]; rename_i m _; have := mlen_bd y ((m : Int) + 1); omega

/-- the time of a date; none: there is no such date -/
def timeM (y mo d h mi s off : Int) : Option Int :=
  if y < 1 ∨ 9999 < y ∨ mo < 1 ∨ 12 < mo ∨ d < 1 ∨ mlen y mo < d ∨ 23 < h ∨ 59 < mi ∨ 60 < s then none
  else some (86400 * (bef y - 719162 + cum y (mo - 1).toNat + d - 1) + h * 3600 + mi * 60 + (if s < 59 then s else 59) - off)
def low : Int := -62135596800
def high : Int := 253402300799

/-- the year of a number of days from the beginning of the year 1 -/
structure YM where
  y : Int
  m : Nat     -- months that are over
  d : Int     -- days of the month that are over
def IsYM (days : Int) (r : YM) : Prop := 1 ≤ r.y ∧ r.y ≤ 9999 ∧ r.m < 12 ∧ 0 ≤ r.d ∧ r.d < mlen r.y (r.m + 1) ∧ days = bef r.y + cum r.y r.m + r.d

theorem isYM_year {days : Int} {r : YM} (h : IsYM days r) : bef r.y ≤ days ∧ days < bef (r.y + 1) := by
  obtain ⟨h1, h2, h3, h4, h5, h6⟩ := h
  have a := cum_bd r.y r.m
  have b : cum r.y (r.m + 1) ≤ cum r.y 12 := cum_mono r.y (by omega)
  simp only [cum] at b
  have c := cum12 r.y
  have d := bef_succ r.y
  simp only [cum] at c
  omega
theorem isYM_uniq {days : Int} {r r' : YM} (h : IsYM days r) (h' : IsYM days r') : r = r' := by
  have a := isYM_year h
  have b := isYM_year h'
  have hy : r.y = r'.y := by
    rcases Int.lt_trichotomy r.y r'.y with hl | he | hl
    · have := bef_mono (a := r.y + 1) (b := r'.y) (by omega); omega
    · exact he
    · have := bef_mono (a := r'.y + 1) (b := r.y) (by omega); omega
  obtain ⟨y, m, d⟩ := r
  obtain ⟨y', m', d'⟩ := r'
  simp only at hy
  subst hy
  obtain ⟨h1, h2, h3, h4, h5, h6⟩ := h
  obtain ⟨g1, g2, g3, g4, g5, g6⟩ := h'
  simp only at *
  have hm : m = m' := by
    rcases Nat.lt_trichotomy m m' with hl | he | hl
    · have := cum_mono y (a := m + 1) (b := m') (by omega); simp only [cum] at this; omega
    · exact he
    · have := cum_mono y (a := m' + 1) (b := m) (by omega); simp only [cum] at this; omega
  subst hm
  have : d = d' := by omega
  subst this
  rfl

end Go.Cal
