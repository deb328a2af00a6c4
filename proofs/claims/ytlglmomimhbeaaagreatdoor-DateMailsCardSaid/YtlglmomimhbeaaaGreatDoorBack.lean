/- What is printed is read again. No program is in sight. -/
import Derived.Test.YtlglmomimhbeaaaGreatDoorPl
namespace Go.Proofs.YtlglmomimhbeaaaGreatDoor
open Go.Sw Go.Lib Go.Cal Go.Scn

theorem clock_mk {h mi s : Int} (hh : 0 ≤ h ∧ h ≤ 99) (hm : 0 ≤ mi ∧ mi ≤ 99) (hs : 0 ≤ s ∧ s ≤ 99) : clockB h mi s = mk [D (h / 10), D (h % 10), 58, D (mi / 10), D (mi % 10), 58, D (s / 10), D (s % 10)] := by
  unfold clockB
  rw [pad2 hh.1 hh.2, pad2 hm.1 hm.2, pad2 hs.1 hs.2, show ByteArray.mk #[58] = mk [58] from rfl]
  simp only [mk_app, List.cons_append, List.nil_append]
theorem day_mk (t : Int) : dayB t = mk [D (yT t / 1000), D (yT t / 100 % 10), D (yT t / 10 % 10), D (yT t % 10), 45, D (moT t / 10), D (moT t % 10), 45, D (ddT t / 10), D (ddT t % 10)] := by
  have h := ymT_bd t
  unfold dayB
  rw [pad4 (by omega) (by omega), pad2 (by omega) (by omega), pad2 (by omega) (by omega), show ByteArray.mk #[45] = mk [45] from rfl]
  simp only [mk_app, List.cons_append, List.nil_append]
theorem clock_bd (t : Int) : (0 ≤ rT t / 3600 ∧ rT t / 3600 ≤ 23) ∧ (0 ≤ rT t / 60 % 60 ∧ rT t / 60 % 60 ≤ 59) ∧ (0 ≤ rT t % 60 ∧ rT t % 60 ≤ 59) := by
  have := rT_bd t; omega
theorem time_back (t : Int) : timeM (yT t) (moT t) (ddT t) (rT t / 3600) (rT t / 60 % 60) (rT t % 60) 0 = some (clampT t) := by
  have h := ymT_bd t
  have hc := clock_bd t
  have hd := dT_bd t
  obtain ⟨a, b, c, d, e, f⟩ := ymC_is hd.1 hd.2
  unfold timeM
  rw [if_neg (by omega)]
  congr 1
  have hm : (moT t - 1).toNat = (ymC (dT t)).m := by unfold moT; omega
  rw [hm]
  have hy : yT t = (ymC (dT t)).y := rfl
  have hdd : ddT t = (ymC (dT t)).d + 1 := rfl
  rw [hy, hdd]
  have hu : upT t = clampT t - (-62135596800) := rfl
  have h1 : dT t = upT t / 86400 := rfl
  have h2 : rT t = upT t % 86400 := rfl
  split <;> omega
/-- the head of a printed time, whatever follows -/
theorem headM_print (t : Int) (r : List UInt8) : headM (dayB t ++ mk [84] ++ clockB (rT t / 3600) (rT t / 60 % 60) (rT t % 60) ++ mk r) = ((yT t, moT t, ddT t, rT t / 3600, rT t / 60 % 60, rT t % 60), ⟨mk r, false⟩) := by
  have h := ymT_bd t
  have hc := clock_bd t
  rw [day_mk, clock_mk (by omega) (by omega) (by omega)]
  simp only [mk_app, List.cons_append, List.nil_append]
  unfold headM
  rw [show ByteArray.mk #[45] = mk [45] from rfl, show ByteArray.mk #[84] = mk [84] from rfl, show ByteArray.mk #[58] = mk [58] from rfl]
  have hT : ∀ (l : List UInt8) (b : Bool), Scn.one [mk [84], ByteArray.mk #[116], ByteArray.mk #[32]] ⟨mk (84 :: l), b⟩ = (0, ⟨mk l, b⟩) := by
    intro l b
    simp [Scn.one, oneFrom, startsB_mk, cutP_mk, pre]
  simp only [num4_D (v := yT t) (by omega) (by omega), one_1 (p := [45]) (List.singleton_append).symm, one_1 (p := [58]) (List.singleton_append).symm, num2_D (v := moT t) (by omega) (by omega), num2_D (v := ddT t) (by omega) (by omega), hT,
    num2_D (v := rT t / 3600) (by omega) (by omega), num2_D (v := rT t / 60 % 60) (by omega) (by omega), num2_D (v := rT t % 60) (by omega) (by omega)]
theorem print_split (t : Int) : printB t = dayB t ++ mk [84] ++ clockB (rT t / 3600) (rT t / 60 % 60) (rT t % 60) ++ mk [90] := rfl
theorem atom_print (t : Int) : atomM (printB t) = some (clampT t) := by
  rw [print_split]
  unfold atomM
  simp only [headM_print]
  have hf : fracM ⟨mk [90], false⟩ = ⟨mk [90], false⟩ := by
    unfold fracM
    rw [show ByteArray.mk #[46] = mk [46] from rfl, may_mk]
    rfl
  have hz : zedM ⟨mk [90], false⟩ = (true, ⟨mk [], false⟩) := by
    unfold zedM
    rw [show ByteArray.mk #[90] = mk [90] from rfl, may_mk]
    rfl
  simp only [hf, hz, cond_true, time_back]
  rfl
end Go.Proofs.YtlglmomimhbeaaaGreatDoor
