/- Printed times stand in the order of the times. No program is in sight. -/
import Derived.Test.YtlglmomimhbeaaaDoorBack2
namespace Go.Proofs.YtlglmomimhbeaaaDoor
open Go.Sw Go.Lib Go.Cal Go.Scn

theorem D_lt {a b : Int} (ha : 0 ≤ a ∧ a ≤ 9) (hb : 0 ≤ b ∧ b ≤ 9) : decide (D a < D b) = decide (a < b) := by
  rw [decide_eq_decide, UInt8.lt_iff_toNat_lt]
  have h1 := D_nat ha.1 ha.2
  have h2 := D_nat hb.1 hb.2
  omega
theorem D_eq {a b : Int} (ha : 0 ≤ a ∧ a ≤ 9) (hb : 0 ≤ b ∧ b ≤ 9) : (D a == D b) = (a == b) := by
  rw [Bool.eq_iff_iff, beq_iff_eq, beq_iff_eq]
  have h1 := D_nat ha.1 ha.2
  have h2 := D_nat hb.1 hb.2
  constructor
  · intro h; rw [h] at h1; omega
  · intro h; rw [h]
theorem bl_D {a b : Int} (ha : 0 ≤ a ∧ a ≤ 9) (hb : 0 ≤ b ∧ b ≤ 9) (x y : List UInt8) : Op.bytesLess (D a :: x) (D b :: y) = (decide (a < b) || (a == b) && Op.bytesLess x y) := by
  rw [Op.bytesLess, D_lt ha hb, D_eq ha hb]
theorem bl_c (c : UInt8) (x y : List UInt8) : Op.bytesLess (c :: x) (c :: y) = Op.bytesLess x y := by
  rw [Op.bytesLess]
  simp
theorem bl_2 {v w : Int} (hv : 0 ≤ v ∧ v ≤ 99) (hw : 0 ≤ w ∧ w ≤ 99) (x y : List UInt8) : Op.bytesLess (D (v / 10) :: D (v % 10) :: x) (D (w / 10) :: D (w % 10) :: y) = (decide (v < w) || (v == w) && Op.bytesLess x y) := by
  rw [bl_D (by omega) (by omega), bl_D (by omega) (by omega)]
  cases Op.bytesLess x y
  · rw [Bool.eq_iff_iff]
    simp only [Bool.or_eq_true, Bool.and_eq_true, decide_eq_true_eq, beq_iff_eq, Bool.false_eq_true, and_false, or_false]
    omega
  · rw [Bool.eq_iff_iff]
    simp only [Bool.or_eq_true, Bool.and_eq_true, decide_eq_true_eq, beq_iff_eq, and_true]
    omega
theorem bl_4 {v w : Int} (hv : 0 ≤ v ∧ v ≤ 9999) (hw : 0 ≤ w ∧ w ≤ 9999) (x y : List UInt8) : Op.bytesLess (D (v / 1000) :: D (v / 100 % 10) :: D (v / 10 % 10) :: D (v % 10) :: x) (D (w / 1000) :: D (w / 100 % 10) :: D (w / 10 % 10) :: D (w % 10) :: y) = (decide (v < w) || (v == w) && Op.bytesLess x y) := by
  rw [bl_D (by omega) (by omega), bl_D (by omega) (by omega), bl_D (by omega) (by omega), bl_D (by omega) (by omega)]
  cases Op.bytesLess x y
  · rw [Bool.eq_iff_iff]
    simp only [Bool.or_eq_true, Bool.and_eq_true, decide_eq_true_eq, beq_iff_eq, Bool.false_eq_true, and_false, or_false]
    omega
  · rw [Bool.eq_iff_iff]
    simp only [Bool.or_eq_true, Bool.and_eq_true, decide_eq_true_eq, beq_iff_eq, and_true]
    omega
theorem ymd_lt {t u : Int} (h : yT t < yT u ∨ yT t = yT u ∧ (moT t < moT u ∨ moT t = moT u ∧ ddT t < ddT u)) : dT t < dT u := by
  have bt := dT_bd t
  have bu := dT_bd u
  have ht := ymC_is bt.1 bt.2
  have hu := ymC_is bu.1 bu.2
  have yt := isYM_year ht
  have yu := isYM_year hu
  obtain ⟨a1, a2, a3, a4, a5, a6⟩ := ht
  obtain ⟨b1, b2, b3, b4, b5, b6⟩ := hu
  unfold yT moT ddT at h
  rcases h with h | ⟨hy, h⟩
  · have := bef_mono (a := (ymC (dT t)).y + 1) (b := (ymC (dT u)).y) (by omega)
    omega
  · rw [← hy] at b6
    rcases h with h | ⟨hm, h⟩
    · have := cum_mono (ymC (dT t)).y (a := (ymC (dT t)).m + 1) (b := (ymC (dT u)).m) (by omega)
      simp only [cum] at this
      omega
    · have : (ymC (dT t)).m = (ymC (dT u)).m := by omega
      rw [← this] at b6
      omega
theorem ymd_iff {t u : Int} : (yT t < yT u ∨ yT t = yT u ∧ (moT t < moT u ∨ moT t = moT u ∧ ddT t < ddT u)) ↔ dT t < dT u := by
  refine ⟨ymd_lt, fun h => ?_⟩
  have h2 := fun h' => ymd_lt (t := u) (u := t) h'
  have h3 : yT t = yT u ∧ moT t = moT u ∧ ddT t = ddT u → dT t = dT u := by
    rintro ⟨e1, e2, e3⟩
    have bt := dT_bd t
    have bu := dT_bd u
    obtain ⟨a1, a2, a3, a4, a5, a6⟩ := ymC_is bt.1 bt.2
    obtain ⟨b1, b2, b3, b4, b5, b6⟩ := ymC_is bu.1 bu.2
    unfold yT moT ddT at *
    have em : (ymC (dT t)).m = (ymC (dT u)).m := by omega
    rw [e1, em] at a6
    omega
  by_cases e : yT t < yT u ∨ yT t = yT u ∧ (moT t < moT u ∨ moT t = moT u ∧ ddT t < ddT u)
  · exact e
  · exfalso
    by_cases f : yT u < yT t ∨ yT u = yT t ∧ (moT u < moT t ∨ moT u = moT t ∧ ddT u < ddT t)
    · have := h2 f; omega
    · have := h3 (by omega); omega
theorem less_day (t u : Int) (x y : List UInt8) : Op.bytesLess ((dayB t).toList ++ x) ((dayB u).toList ++ y) = (decide (dT t < dT u) || (dT t == dT u) && Op.bytesLess x y) := by
  have a := ymT_bd t
  have b := ymT_bd u
  rw [day_mk, day_mk, mk_toList, mk_toList]
  simp only [List.cons_append, List.nil_append]
  rw [bl_4 (by omega) (by omega), bl_c, bl_2 (by omega) (by omega), bl_c, bl_2 (by omega) (by omega)]
  have h1 := ymd_iff (t := t) (u := u)
  have h2 := ymd_iff (t := u) (u := t)
  cases Op.bytesLess x y
  · rw [Bool.eq_iff_iff]
    simp only [Bool.or_eq_true, Bool.and_eq_true, decide_eq_true_eq, beq_iff_eq, Bool.false_eq_true, and_false, or_false]
    omega
  · rw [Bool.eq_iff_iff]
    simp only [Bool.or_eq_true, Bool.and_eq_true, decide_eq_true_eq, beq_iff_eq, and_true]
    omega
theorem less_clock (t u : Int) (x : List UInt8) : Op.bytesLess ((clockB (rT t / 3600) (rT t / 60 % 60) (rT t % 60)).toList ++ x) ((clockB (rT u / 3600) (rT u / 60 % 60) (rT u % 60)).toList ++ x) = decide (rT t < rT u) := by
  have a := clock_bd t
  have b := clock_bd u
  have c := rT_bd t
  have d := rT_bd u
  have hx : Op.bytesLess x x = false := by
    induction x with
    | nil => rfl
    | cons c r ih => rw [bl_c, ih]
  rw [clock_mk (by omega) (by omega) (by omega), clock_mk (by omega) (by omega) (by omega), mk_toList, mk_toList]
  simp only [List.cons_append, List.nil_append]
  rw [bl_2 (by omega) (by omega), bl_c, bl_2 (by omega) (by omega), bl_c, bl_2 (by omega) (by omega), hx, Bool.eq_iff_iff]
  simp only [Bool.or_eq_true, Bool.and_eq_true, decide_eq_true_eq, beq_iff_eq, Bool.false_eq_true, and_false, or_false]
  omega
theorem toList_app (a b : ByteArray) : (a ++ b).toList = a.toList ++ b.toList := by
  rw [mk_of a, mk_of b, mk_app, mk_toList, mk_toList, mk_toList]
theorem print_less (t u : Int) : Op.bytesLess (printB t).toList (printB u).toList = decide (clampT t < clampT u) := by
  rw [print_split, print_split]
  simp only [toList_app, mk_toList, List.append_assoc]
  rw [less_day, List.singleton_append, List.singleton_append, bl_c, less_clock]
  have h1 : upT t = clampT t - (-62135596800) := rfl
  have h2 : upT u = clampT u - (-62135596800) := rfl
  have h3 : dT t = upT t / 86400 := rfl
  have h4 : dT u = upT u / 86400 := rfl
  have h5 : rT t = upT t % 86400 := rfl
  have h6 : rT u = upT u % 86400 := rfl
  rw [Bool.eq_iff_iff]
  simp only [Bool.or_eq_true, Bool.and_eq_true, decide_eq_true_eq, beq_iff_eq]
  omega
theorem bl_irr : ∀ x : List UInt8, Op.bytesLess x x = false
  | [] => rfl
  | c :: r => by rw [bl_c, bl_irr r]
theorem print_eq (t u : Int) : ((printB t).toList == (printB u).toList) = (clampT t == clampT u) := by
  rw [Bool.eq_iff_iff, beq_iff_eq, beq_iff_eq]
  constructor
  · intro h
    have h1 := print_less t u
    have h2 := print_less u t
    rw [h, bl_irr] at h1
    rw [h, bl_irr] at h2
    have h3 : ¬ clampT t < clampT u := by intro h'; rw [decide_eq_true h'] at h1; cases h1
    have h4 : ¬ clampT u < clampT t := by intro h'; rw [decide_eq_true h'] at h2; cases h2
    omega
  · intro h
    have e1 : upT t = upT u := by unfold upT; rw [h]
    have e2 : dT t = dT u := by unfold dT; rw [e1]
    have e3 : rT t = rT u := by unfold rT; rw [e1]
    have e : printB t = printB u := by unfold printB dayB yT moT ddT; rw [e2, e3]
    rw [e]
theorem clamp_id {a : Int} (h0 : -62135596800 ≤ a) (h1 : a ≤ 253402300799) : clampT a = a := by
  unfold clampT; split <;> split <;> omega
theorem clamp_bd (t : Int) : -62135596800 ≤ clampT t ∧ clampT t ≤ 253402300799 := by
  unfold clampT; split <;> split <;> omega
theorem day_less {a : Int} (h0 : -62135596800 ≤ a) (h1 : a ≤ 253402214399) : Op.bytesLess (dayB a).toList (dayB (a + 86400)).toList = true := by
  have h := less_day a (a + 86400) [] []
  rw [List.append_nil, List.append_nil] at h
  rw [h]
  have e1 : dT a = (clampT a - (-62135596800)) / 86400 := rfl
  have e2 : dT (a + 86400) = (clampT (a + 86400) - (-62135596800)) / 86400 := rfl
  rw [clamp_id (by omega) (by omega)] at e1 e2
  have : dT a < dT (a + 86400) := by omega
  simp [this]
theorem day_size (t : Int) : (dayB t).size = 10 := by rw [day_mk]; rfl
theorem print_cut (t : Int) : (printB t).extract 0 10 = dayB t ∧ (printB t).extract 10 (printB t).size = mk [84] ++ clockB (rT t / 3600) (rT t / 60 % 60) (rT t % 60) ++ mk [90] ∧ (printB t).size = 20 := by
  have hc := clock_bd t
  rw [print_split, day_mk, clock_mk (by omega) (by omega) (by omega)]
  simp only [mk_app, mk_ext, mk_size]
  exact ⟨rfl, rfl, rfl⟩
theorem tail_same {a : Int} (h0 : -62135596800 ≤ a) (h1 : a ≤ 253402214399) : (printB a).extract 10 (printB a).size = (printB (a + 86400)).extract 10 (printB (a + 86400)).size := by
  rw [(print_cut a).2.1, (print_cut (a + 86400)).2.1]
  have e1 : rT a = (clampT a - (-62135596800)) % 86400 := rfl
  have e2 : rT (a + 86400) = (clampT (a + 86400) - (-62135596800)) % 86400 := rfl
  rw [clamp_id (by omega) (by omega)] at e1 e2
  have : rT (a + 86400) = rT a := by omega
  rw [this]
end Go.Proofs.YtlglmomimhbeaaaDoor
