/- A printed time with an offset is read as the time as much ahead. No program is in sight. -/
import Derived.Test.YtlglmomimhbeaaaDoorOrder
namespace Go.Proofs.YtlglmomimhbeaaaDoor
open Go.Sw Go.Lib Go.Cal Go.Scn

theorem time_off (y mo d h mi s off : Int) : timeM y mo d h mi s off = (timeM y mo d h mi s 0).map (fun x => x - off) := by
  unfold timeM
  split
  · rfl
  · simp only [Option.map_some]; congr 1; omega
/-- the offset's text: two digits each, a colon or none between -/
theorem off_plus {h m : Int} (h0 : 0 ≤ h ∧ h ≤ 23) (h1 : 0 ≤ m ∧ m ≤ 59) : offM (mk [58]) ⟨mk (43 :: D (h / 10) :: D (h % 10) :: 58 :: D (m / 10) :: D (m % 10) :: []), false⟩ = (3600 * h + 60 * m, ⟨mk [], false⟩) := by
  unfold offM
  have e1 : ∀ (l : List UInt8) (b : Bool), Scn.one [pl, mi_] ⟨mk (43 :: l), b⟩ = (0, ⟨mk l, b⟩) := by
    intro l b
    simp [Scn.one, oneFrom, show pl = mk [43] from rfl, startsB_mk, cutP_mk, pre]
  have e2 : ((mk [58]).toList == (ByteArray.mk #[]).toList) = false := by rw [mk_toList, show ByteArray.mk #[] = mk [] from rfl, mk_toList]; rfl
  simp only [e1, e2, num2_D (v := h) (by omega) (by omega), Bool.false_eq_true, if_false, one_1 (p := [58]) (List.singleton_append).symm, num2_D (v := m) (by omega) (by omega)]
  rw [show decide (h > 23) = false from by simp; omega, show decide (m > 59) = false from by simp; omega]
  congr 1
  omega
theorem off_minus {h m : Int} (h0 : 0 ≤ h ∧ h ≤ 23) (h1 : 0 ≤ m ∧ m ≤ 59) : offM (mk [58]) ⟨mk (45 :: D (h / 10) :: D (h % 10) :: 58 :: D (m / 10) :: D (m % 10) :: []), false⟩ = (-(3600 * h + 60 * m), ⟨mk [], false⟩) := by
  unfold offM
  have e1 : ∀ (l : List UInt8) (b : Bool), Scn.one [pl, mi_] ⟨mk (45 :: l), b⟩ = (1, ⟨mk l, b⟩) := by
    intro l b
    simp [Scn.one, oneFrom, show pl = mk [43] from rfl, show mi_ = mk [45] from rfl, startsB_mk, cutP_mk, pre]
  have e2 : ((mk [58]).toList == (ByteArray.mk #[]).toList) = false := by rw [mk_toList, show ByteArray.mk #[] = mk [] from rfl, mk_toList]; rfl
  simp only [e1, e2, num2_D (v := h) (by omega) (by omega), Bool.false_eq_true, if_false, one_1 (p := [58]) (List.singleton_append).symm, num2_D (v := m) (by omega) (by omega)]
  rw [show decide (h > 23) = false from by simp; omega, show decide (m > 59) = false from by simp; omega]
  congr 1
  omega
theorem off_bare {h m : Int} (h0 : 0 ≤ h ∧ h ≤ 23) (h1 : 0 ≤ m ∧ m ≤ 59) : offM (ByteArray.mk #[]) ⟨mk (43 :: D (h / 10) :: D (h % 10) :: D (m / 10) :: D (m % 10) :: []), false⟩ = (3600 * h + 60 * m, ⟨mk [], false⟩) := by
  unfold offM
  have e1 : ∀ (l : List UInt8) (b : Bool), Scn.one [pl, mi_] ⟨mk (43 :: l), b⟩ = (0, ⟨mk l, b⟩) := by
    intro l b
    simp [Scn.one, oneFrom, show pl = mk [43] from rfl, startsB_mk, cutP_mk, pre]
  have e2 : ((ByteArray.mk #[]).toList == (ByteArray.mk #[]).toList) = true := by rw [beq_iff_eq]
  simp only [e1, e2, num2_D (v := h) (by omega) (by omega), if_true, num2_D (v := m) (by omega) (by omega)]
  rw [show decide (h > 23) = false from by simp; omega, show decide (m > 59) = false from by simp; omega]
  congr 1
  omega
theorem frac_no {c : UInt8} {r : List UInt8} (h : (c == 46) = false) : fracM ⟨mk (c :: r), false⟩ = ⟨mk (c :: r), false⟩ := by
  unfold fracM
  rw [show ByteArray.mk #[46] = mk [46] from rfl, may_mk]
  have : pre [46] (c :: r) = false := by simp only [pre, List.isPrefixOf, Bool.and_true]; rw [beq_eq_false_iff_ne] at *; exact fun e => h e.symm
  simp only [this, cond_false]
theorem zed_no {c : UInt8} {r : List UInt8} (h : (c == 90) = false) (h2 : (c == 122) = false) : zedM ⟨mk (c :: r), false⟩ = (false, ⟨mk (c :: r), false⟩) := by
  unfold zedM
  rw [show ByteArray.mk #[90] = mk [90] from rfl, show ByteArray.mk #[122] = mk [122] from rfl]
  have e1 : pre [90] (c :: r) = false := by simp only [pre, List.isPrefixOf, Bool.and_true]; rw [beq_eq_false_iff_ne] at *; exact fun e => h e.symm
  have e2 : pre [122] (c :: r) = false := by simp only [pre, List.isPrefixOf, Bool.and_true]; rw [beq_eq_false_iff_ne] at *; exact fun e => h2 e.symm
  simp only [may_mk, e1, e2, cond_false]
theorem print_head (t : Int) : (printB t).extract 0 (Int.toNat (((printB t).size : Int) - 1)) = dayB t ++ mk [84] ++ clockB (rT t / 3600) (rT t / 60 % 60) (rT t % 60) := by
  have hc := clock_bd t
  rw [(print_cut t).2.2, print_split, day_mk, clock_mk (by omega) (by omega) (by omega)]
  simp only [mk_app, mk_ext]
  rfl
theorem atom_plus (t h m : Int) (h0 : 0 ≤ h ∧ h ≤ 23) (h1 : 0 ≤ m ∧ m ≤ 59) : atomM ((printB t).extract 0 (Int.toNat (((printB t).size : Int) - 1)) ++ (ByteArray.mk #[43]) ++ (twoB h ++ (ByteArray.mk #[58]) ++ twoB m)) = some (clampT t - (3600 * h + 60 * m)) := by
  rw [print_head, two_mk, two_mk, show ByteArray.mk #[58] = mk [58] from rfl, show ByteArray.mk #[43] = mk [43] from rfl, mk_app, mk_app, ByteArray.append_assoc (a := _ ++ _ ++ _), mk_app]
  simp only [List.cons_append, List.nil_append]
  unfold atomM
  simp only [headM_print, frac_no (c := 43) rfl, zed_no (c := 43) rfl rfl, cond_false, show ByteArray.mk #[58] = mk [58] from rfl, off_plus h0 h1]
  rw [time_off, time_back]
  rfl
theorem atom_minus (t h m : Int) (h0 : 0 ≤ h ∧ h ≤ 23) (h1 : 0 ≤ m ∧ m ≤ 59) : atomM ((printB t).extract 0 (Int.toNat (((printB t).size : Int) - 1)) ++ (ByteArray.mk #[45]) ++ (twoB h ++ (ByteArray.mk #[58]) ++ twoB m)) = some (clampT t + (3600 * h + 60 * m)) := by
  rw [print_head, two_mk, two_mk, show ByteArray.mk #[58] = mk [58] from rfl, show ByteArray.mk #[45] = mk [45] from rfl, mk_app, mk_app, ByteArray.append_assoc (a := _ ++ _ ++ _), mk_app]
  simp only [List.cons_append, List.nil_append]
  unfold atomM
  simp only [headM_print, frac_no (c := 45) rfl, zed_no (c := 45) rfl rfl, cond_false, show ByteArray.mk #[58] = mk [58] from rfl, off_minus h0 h1]
  rw [time_off, time_back, Option.map_some, show clampT t - -(3600 * h + 60 * m) = clampT t + (3600 * h + 60 * m) from by omega]
  rfl
theorem mailHead_mk (t : Int) : ∃ l : List UInt8, mailHeadB t = mk l ∧ l.length = 25 := by
  have h := ymT_bd t
  have hc := clock_bd t
  have hd := dT_bd t
  obtain ⟨w, hw1, hw2, _⟩ := wk_at (dT t % 7) (by omega) (by omega)
  obtain ⟨m, hm1, hm2, _⟩ := mon_at (moT t) (by omega) (by omega)
  unfold mailHeadB
  rw [hw1, hm1, pad2 (by omega) (by omega), pad4 (by omega) (by omega), clock_mk (by omega) (by omega) (by omega)]
  simp only [mk_app]
  exact ⟨_, rfl, by simp only [List.length_append, List.length_cons, List.length_nil, hw2, hm2]⟩
theorem mail_plus (t h m : Int) (h0 : 0 ≤ h ∧ h ≤ 23) (h1 : 0 ≤ m ∧ m ≤ 59) : mailM ((printMailB t).extract 0 (Int.toNat (((printMailB t).size : Int) - 3)) ++ (ByteArray.mk #[43]) ++ twoB h ++ twoB m) = some (clampT t - (3600 * h + 60 * m)) := by
  have e : (printMailB t).extract 0 (Int.toNat (((printMailB t).size : Int) - 3)) = mailHeadB t ++ mk [32] := by
    obtain ⟨l, hl, hn⟩ := mailHead_mk t
    rw [printMail_split, hl, mk_app, mk_app, mk_size, mk_ext, List.drop_zero]
    congr 1
    rw [List.length_append, hn, List.take_append, List.take_of_length_le (by simp; omega)]
    simp [hn]
  rw [e, two_mk, two_mk, show ByteArray.mk #[43] = mk [43] from rfl, ByteArray.append_assoc, ByteArray.append_assoc, ByteArray.append_assoc, mk_app, mk_app, mk_app]
  simp only [List.cons_append, List.nil_append]
  unfold mailM
  simp only [mailH_print]
  have hs : ∀ r, signB (mk (43 :: r)) = true := by
    intro r
    unfold signB
    rw [show ByteArray.mk #[] = mk [] from rfl, mk_toList, mk_toList]; rfl
  simp only [hs, cond_true, off_bare h0 h1]
  rw [time_off, time_back]
  rfl
end Go.Proofs.YtlglmomimhbeaaaDoor
