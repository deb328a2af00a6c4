/- What is printed for RSS is read again; what must be answered ahead of everything. No program is in sight. -/
import Derived.Test.YtlglmomimhbeaaaGreatDoorBack
namespace Go.Proofs.YtlglmomimhbeaaaGreatDoor
open Go.Sw Go.Lib Go.Cal Go.Scn

def wkU : List (List UInt8) := [[77, 111, 110], [84, 117, 101], [87, 101, 100], [84, 104, 117], [70, 114, 105], [83, 97, 116], [83, 117, 110]]
def monU : List (List UInt8) := [[74, 97, 110], [70, 101, 98], [77, 97, 114], [65, 112, 114], [77, 97, 121], [74, 117, 110], [74, 117, 108], [65, 117, 103], [83, 101, 112], [79, 99, 116], [78, 111, 118], [68, 101, 99]]
theorem wkL_mk : wkL = wkU.map mk := by kernel_rfl
theorem monL_mk : monL = monU.map mk := by kernel_rfl
theorem wk_at (d : Int) (h0 : 0 ≤ d) (h1 : d ≤ 6) : ∃ w : List UInt8, wkAt d = mk w ∧ w.length = 3 ∧ ∀ r b, Scn.one wkL ⟨mk (w ++ r), b⟩ = (d, ⟨mk r, b⟩) := by
  unfold wkAt
  rw [wkL_mk]
  have : d = 0 ∨ d = 1 ∨ d = 2 ∨ d = 3 ∨ d = 4 ∨ d = 5 ∨ d = 6 := by omega
  rcases this with rfl | rfl | rfl | rfl | rfl | rfl | rfl <;>
    exact ⟨_, rfl, rfl, fun r b => by simp [Scn.one, oneFrom, startsB_mk, cutP_mk, pre, wkU]⟩
theorem mon_at (d : Int) (h0 : 1 ≤ d) (h1 : d ≤ 12) : ∃ w : List UInt8, monAt d = mk w ∧ w.length = 3 ∧ ∀ r b, Scn.one monL ⟨mk (w ++ r), b⟩ = (d - 1, ⟨mk r, b⟩) := by
  unfold monAt
  rw [monL_mk]
  have : d = 1 ∨ d = 2 ∨ d = 3 ∨ d = 4 ∨ d = 5 ∨ d = 6 ∨ d = 7 ∨ d = 8 ∨ d = 9 ∨ d = 10 ∨ d = 11 ∨ d = 12 := by omega
  rcases this with rfl | rfl | rfl | rfl | rfl | rfl | rfl | rfl | rfl | rfl | rfl | rfl <;>
    exact ⟨_, rfl, rfl, fun r b => by simp [Scn.one, oneFrom, startsB_mk, cutP_mk, pre, monU]⟩
theorem byteAt_mk (l : List UInt8) (j : Int) : byteAt (mk l) j = ((l[j.toNat]?.getD 0).toNat : Int) := rfl
theorem weekM_mk {w r : List UInt8} {d : Int} (hw : w.length = 3) (ho : ∀ r b, Scn.one wkL ⟨mk (w ++ r), b⟩ = (d, ⟨mk r, b⟩)) : weekM (mk (w ++ 44 :: 32 :: r)) = ⟨mk r, false⟩ := by
  unfold weekM
  have h3 : byteAt (mk (w ++ 44 :: 32 :: r)) 3 = 44 := by
    rw [byteAt_mk, show (3 : Int).toNat = w.length from by rw [hw]; rfl, List.getElem?_append_right (Nat.le_refl _), Nat.sub_self]; rfl
  have h4 : decide (((mk (w ++ 44 :: 32 :: r)).size : Int) > 3) = true := by
    rw [mk_size, List.length_append, hw, decide_eq_true_eq]; simp only [List.length_cons]; omega
  rw [h3, h4, ho]
  simp only [show ByteArray.mk #[44, 32] = mk [44, 32] from rfl, one_1 (p := [44, 32]) (show 44 :: 32 :: r = [44, 32] ++ r from rfl)]
  rfl
theorem dig_ne {k : Int} (h0 : 0 ≤ k) (h1 : k ≤ 9) : (((D k).toNat : Int) == 32) = false := by
  rw [D_nat h0 h1, beq_eq_false_iff_ne]; omega
theorem dayM_D {v : Int} (h0 : 0 ≤ v) (h1 : v ≤ 99) (r : List UInt8) (b : Bool) : dayM ⟨mk (D (v / 10) :: D (v % 10) :: r), b⟩ = (v, ⟨mk r, b⟩) := by
  unfold dayM
  have : byteAt (mk (D (v / 10) :: D (v % 10) :: r)) 1 = ((D (v % 10)).toNat : Int) := rfl
  simp only [this, dig_ne (k := v % 10) (by omega) (by omega), Bool.and_false, cond_false, num2_D h0 h1]
theorem yearM_D {v : Int} (h0 : 0 ≤ v) (h1 : v ≤ 9999) (r : List UInt8) (b : Bool) : yearM ⟨mk (D (v / 1000) :: D (v / 100 % 10) :: D (v / 10 % 10) :: D (v % 10) :: r), b⟩ = (v, ⟨mk r, b⟩) := by
  unfold yearM
  have : byteAt (mk (D (v / 1000) :: D (v / 100 % 10) :: D (v / 10 % 10) :: D (v % 10) :: r)) 2 = ((D (v / 10 % 10)).toNat : Int) := rfl
  simp only [this, dig_ne (k := v / 10 % 10) (by omega) (by omega), Bool.and_false, cond_false, num4_D h0 h1]
theorem secM_D {v : Int} (h0 : 0 ≤ v) (h1 : v ≤ 99) (r : List UInt8) (b : Bool) : secM ⟨mk (58 :: D (v / 10) :: D (v % 10) :: r), b⟩ = (v, ⟨mk r, b⟩) := by
  unfold secM
  rw [show ByteArray.mk #[58] = mk [58] from rfl, may_mk]
  have : pre [58] (58 :: D (v / 10) :: D (v % 10) :: r) = true := by simp [pre]
  simp only [this, cond_true, List.length_cons, List.length_nil, List.drop_succ_cons, List.drop_zero, num2_D h0 h1]
/-- a printed time for RSS up to its zone -/
noncomputable def mailHeadB (t : Int) : ByteArray := wkAt (dT t % 7) ++ mk [44, 32] ++ padB (ddT t) 2 ++ mk [32] ++ monAt (moT t) ++ mk [32] ++ padB (yT t) 4 ++ mk [32] ++ clockB (rT t / 3600) (rT t / 60 % 60) (rT t % 60)
theorem mailH_print (t : Int) (r : List UInt8) : mailH (mailHeadB t ++ mk (32 :: r)) = ((yT t, moT t, ddT t, rT t / 3600, rT t / 60 % 60, rT t % 60), ⟨mk r, false⟩) := by
  have h := ymT_bd t
  have hc := clock_bd t
  have hd := dT_bd t
  obtain ⟨w, hw1, hw2, hw3⟩ := wk_at (dT t % 7) (by omega) (by omega)
  obtain ⟨m, hm1, hm2, hm3⟩ := mon_at (moT t) (by omega) (by omega)
  unfold mailHeadB
  rw [hw1, hm1, pad2 (by omega) (by omega), pad4 (by omega) (by omega), clock_mk (by omega) (by omega) (by omega)]
  simp only [mk_app, List.append_assoc, List.cons_append, List.nil_append]
  unfold mailH
  simp only [show ByteArray.mk #[32] = mk [32] from rfl, show ByteArray.mk #[58] = mk [58] from rfl, weekM_mk hw2 hw3, dayM_D (v := ddT t) (by omega) (by omega), one_1 (p := [32]) (List.singleton_append).symm, one_1 (p := [58]) (List.singleton_append).symm, hm3,
    yearM_D (v := yT t) (by omega) (by omega), num2_D (v := rT t / 3600) (by omega) (by omega), num2_D (v := rT t / 60 % 60) (by omega) (by omega), secM_D (v := rT t % 60) (by omega) (by omega)]
  rw [show moT t - 1 + 1 = moT t from by omega]
theorem printMail_split (t : Int) : printMailB t = mailHeadB t ++ mk [32, 71, 77, 84] := rfl
theorem mail_print (t : Int) : mailM (printMailB t) = some (clampT t) := by
  rw [printMail_split]
  unfold mailM
  simp only [mailH_print]
  have hs : signB (mk [71, 77, 84]) = false := by
    unfold signB
    rw [show ByteArray.mk #[] = mk [] from rfl, mk_toList, mk_toList]; rfl
  have hz : Scn.one zoneL ⟨mk [71, 77, 84], false⟩ = (0, ⟨mk [], false⟩) := by
    simp [Scn.one, zoneL, oneFrom, show ByteArray.mk #[71, 77, 84] = mk [71, 77, 84] from rfl, startsB_mk, cutP_mk, pre]
  simp only [hs, hz, cond_false, show zoneM 0 = 0 from rfl, time_back]
  rfl
end Go.Proofs.YtlglmomimhbeaaaGreatDoor
