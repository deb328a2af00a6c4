/- What is printed, in digits, two by two. No program is in sight. -/
import Derived.Test.YtlglmomimhbeaaaGreatDoorBack2
namespace Go.Proofs.YtlglmomimhbeaaaGreatDoor
open Go.Sw Go.Lib Go.Cal Go.Scn

def fourB (n : Int) : ByteArray := twoB (n / 100) ++ twoB (n % 100)
theorem pad2_two {v : Int} (h0 : 0 ≤ v) (h1 : v ≤ 99) : padB v 2 = twoB v := by rw [pad2 h0 h1]; rfl
theorem pad4_four {v : Int} (h0 : 0 ≤ v) (h1 : v ≤ 9999) : padB v 4 = fourB v := by
  unfold fourB
  rw [pad4 h0 h1, two_mk, two_mk, mk_app, show v / 100 / 10 = v / 1000 from by omega, show v % 100 / 10 = v / 10 % 10 from by omega, show v % 100 % 10 = v % 10 from by omega]
  rfl
theorem day_two (t : Int) : dayB t = ((((fourB (yT t)) ++ (ByteArray.mk #[45])) ++ (twoB (moT t))) ++ (ByteArray.mk #[45])) ++ (twoB (ddT t)) := by
  have h := ymT_bd t
  unfold dayB
  rw [pad4_four (by omega) (by omega), pad2_two (by omega) (by omega), pad2_two (by omega) (by omega)]
theorem clock_two {h mi s : Int} (hh : 0 ≤ h ∧ h ≤ 99) (hm : 0 ≤ mi ∧ mi ≤ 99) (hs : 0 ≤ s ∧ s ≤ 99) : clockB h mi s = ((((twoB h) ++ (ByteArray.mk #[58])) ++ (twoB mi)) ++ (ByteArray.mk #[58])) ++ (twoB s) := by
  unfold clockB
  rw [pad2_two hh.1 hh.2, pad2_two hm.1 hm.2, pad2_two hs.1 hs.2]
theorem day_eq (t : Int) : ((dayB t).toList == (dayB t).toList) = true := beq_self_eq_true _
theorem print_two (t : Int) : ((printB t).toList == ((((dayB t) ++ (ByteArray.mk #[84])) ++ (clockB (rT t / 3600) (rT t / 60 % 60) (rT t % 60))) ++ (ByteArray.mk #[90])).toList) = true := beq_self_eq_true _
theorem mail_two (t : Int) : ((printMailB t).toList == (((((((((wkAt (dT t % 7)) ++ (ByteArray.mk #[44, 32])) ++ (twoB (ddT t))) ++ (ByteArray.mk #[32])) ++ (monAt (moT t))) ++ (ByteArray.mk #[32])) ++ (fourB (yT t))) ++ (ByteArray.mk #[32])) ++ (clockB (rT t / 3600) (rT t / 60 % 60) (rT t % 60)) ++ (ByteArray.mk #[32, 71, 77, 84])).toList) = true := by
  have h := ymT_bd t
  rw [← pad4_four (by omega) (by omega), ← pad2_two (by omega) (by omega)]
  exact beq_self_eq_true _
end Go.Proofs.YtlglmomimhbeaaaGreatDoor
