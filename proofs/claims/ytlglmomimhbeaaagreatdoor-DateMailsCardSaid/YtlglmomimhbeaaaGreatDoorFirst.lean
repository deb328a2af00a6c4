/- What must be answered ahead of everything. -/
import Derived.Test.YtlglmomimhbeaaaGreatDoorBack2
namespace Go.Proofs.YtlglmomimhbeaaaGreatDoor
open Go.Sw Go.Lib Go.Cal Go.Scn

theorem first_a : atomM (ByteArray.mk #[49, 57, 55, 48, 45, 48, 49, 45, 48, 50, 84, 48, 48, 58, 48, 48, 58, 48, 49, 46, 53, 43, 48, 48, 58, 48, 48]) = some 86401 := by kernel_rfl
theorem first_b : mailM (ByteArray.mk #[70, 114, 105, 44, 32, 50, 32, 74, 97, 110, 32, 55, 48, 32, 48, 48, 58, 48, 48, 32, 71, 77, 84]) = some 86400 := by kernel_rfl
theorem first_c : atomM (ByteArray.mk #[49, 57, 55, 48, 45, 48, 50, 45, 51, 48, 84, 48, 48, 58, 48, 48, 58, 48, 48, 90]) = none := by kernel_rfl
theorem ym_0 : ymC (dT 0) = ⟨1970, 0, 0⟩ := ymC_eq (by refine ⟨by decide, by decide, by decide, by decide, by decide, ?_⟩; kernel_rfl)
theorem ym_1 : ymC (dT 86400) = ⟨1970, 0, 1⟩ := ymC_eq (by refine ⟨by decide, by decide, by decide, by decide, by decide, ?_⟩; kernel_rfl)
theorem first_d : printB 0 = ByteArray.mk #[49, 57, 55, 48, 45, 48, 49, 45, 48, 49, 84, 48, 48, 58, 48, 48, 58, 48, 48, 90] := by
  rw [print_split, day_mk, clock_mk (by decide) (by decide) (by decide)]
  unfold yT moT ddT
  rw [ym_0]
  simp only [mk_app, List.cons_append, List.nil_append]
  kernel_rfl
theorem first_e : printMailB 86400 = ByteArray.mk #[70, 114, 105, 44, 32, 48, 50, 32, 74, 97, 110, 32, 49, 57, 55, 48, 32, 48, 48, 58, 48, 48, 58, 48, 48, 32, 71, 77, 84] := by
  have h := ymT_bd 86400
  rw [printMail_split, mailHeadB, pad2 (by omega) (by omega), pad4 (by omega) (by omega), clock_mk (by decide) (by decide) (by decide)]
  unfold yT moT ddT
  rw [ym_1]
  rw [show wkAt (dT 86400 % 7) = mk [70, 114, 105] from by kernel_rfl, show monAt ((0 + 1 : Nat) : Int) = mk [74, 97, 110] from by kernel_rfl]
  simp only [mk_app, List.cons_append, List.nil_append]
  exact rfl
end Go.Proofs.YtlglmomimhbeaaaGreatDoor
