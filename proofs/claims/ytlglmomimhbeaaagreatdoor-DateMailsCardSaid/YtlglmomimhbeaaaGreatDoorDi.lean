/- The walks of first and of the laws on what is read again. The table of powers lies as laid. -/
import Derived.Test.YtlglmomimhbeaaaGreatDoorFirst
namespace Go.Proofs.YtlglmomimhbeaaaGreatDoor
open Go.Sw Go.Lib Go.Cal Go.Scn


theorem first_  (W0 : World) (hT : Tab W0) (H : List Grp) : Tri Tryz.prog 5 #[] W0 H (fun v H' => v = .bool true ∧ H' = H) := by
  refine Tri_of (args := []) (n := 45) Tryz.func5 rfl rfl (Nat.le_of_ble_eq_true rfl) ?_
  refine G_seq ?_
  refine G_pure (E' := []) [0] [] rfl (by kernel_rfl) ?_
  refine N_then ?_
  refine G_seq ?_
  refine G_region ?_
  refine GL_call (i := 0) (ch := []) (f := 16) (fst := #[]) (caps := #[]) (vs := [.string (ByteArray.mk #[49, 57, 55, 48, 45, 48, 49, 45, 48, 50, 84, 48, 48, 58, 48, 48, 58, 48, 49, 46, 53, 43, 48, 48, 58, 48, 48])]) rfl rfl rfl (by kernel_rfl) (by kernel_rfl) Tryz.func16 rfl rfl (by kernel_rfl) (by kernel_rfl) (chSure_of (by kernel_rfl)) (atom_ _ _ _) ?_
  intro v H' hv
  have hv1 := hv.1
  have hv2 := hv.2
  rw [first_a] at hv1
  subst hv1
  subst hv2
  refine GL_fin (E' := [⟨1, [], .int .i64 86401⟩, ⟨2, [], .int .i64 0⟩]) [0, 0, 0, 0, 0] [1, 2] rfl (by kernel_rfl) ?_
  refine N_then ?_
  refine G_seq ?_
  refine G_region ?_
  refine GL_call (i := 0) (ch := []) (f := 6) (fst := #[]) (caps := #[]) (vs := [.string (ByteArray.mk #[70, 114, 105, 44, 32, 50, 32, 74, 97, 110, 32, 55, 48, 32, 48, 48, 58, 48, 48, 32, 71, 77, 84])]) rfl rfl rfl (by kernel_rfl) (by kernel_rfl) Tryz.func6 rfl rfl (by kernel_rfl) (by kernel_rfl) (chSure_of (by kernel_rfl)) (mail_ _ _ _) ?_
  intro v H' hv
  have hv1 := hv.1
  have hv2 := hv.2
  rw [first_b] at hv1
  subst hv1
  subst hv2
  refine GL_fin (E' := [⟨1, [], .int .i64 86401⟩, ⟨2, [], .int .i64 0⟩, ⟨3, [], .int .i64 86400⟩, ⟨4, [], .int .i64 0⟩]) [0, 0, 0, 0, 0] [1, 2, 3, 4] rfl (by kernel_rfl) ?_
  refine N_then ?_
  refine G_seq ?_
  refine G_region ?_
  refine GL_call (i := 0) (ch := []) (f := 16) (fst := #[]) (caps := #[]) (vs := [.string (ByteArray.mk #[49, 57, 55, 48, 45, 48, 50, 45, 51, 48, 84, 48, 48, 58, 48, 48, 58, 48, 48, 90])]) rfl rfl rfl (by kernel_rfl) (by kernel_rfl) Tryz.func16 rfl rfl (by kernel_rfl) (by kernel_rfl) (chSure_of (by kernel_rfl)) (atom_ _ _ _) ?_
  intro v H' hv
  have hv1 := hv.1
  have hv2 := hv.2
  rw [first_c] at hv1
  subst hv1
  subst hv2
  refine GL_fin (E' := [⟨1, [], .int .i64 86401⟩, ⟨2, [], .int .i64 0⟩, ⟨3, [], .int .i64 86400⟩, ⟨4, [], .int .i64 0⟩, ⟨6, [], .int .i64 30⟩]) [0, 0, 0, 0, 0] [1, 2, 3, 4, 6] rfl (by kernel_rfl) ?_
  refine N_then ?_
  refine G_seq ?_
  refine G_region ?_
  refine GL_pure (E' := [⟨37, [], .bool true⟩, ⟨36, [], .bool true⟩, ⟨35, [(33, true)], .bool true⟩, ⟨34, [(33, true)], .int .i64 30⟩, ⟨33, [], .bool true⟩, ⟨32, [], .bool true⟩, ⟨31, [(29, true)], .bool true⟩, ⟨30, [(29, true)], .int .i64 0⟩, ⟨29, [], .bool true⟩, ⟨28, [], .bool true⟩, ⟨27, [(25, true)], .bool true⟩, ⟨26, [(25, true)], .int .i64 86400⟩, ⟨25, [], .bool true⟩, ⟨24, [], .bool true⟩, ⟨23, [(21, true)], .bool true⟩, ⟨22, [(21, true)], .int .i64 0⟩, ⟨21, [], .bool true⟩, ⟨20, [], .bool true⟩, ⟨19, [], .int .i64 86401⟩, ⟨1, [], .int .i64 86401⟩, ⟨2, [], .int .i64 0⟩, ⟨3, [], .int .i64 86400⟩, ⟨4, [], .int .i64 0⟩, ⟨6, [], .int .i64 30⟩]) [0, 0, 0, 0, 0, 2, 0, 0, 0, 2, 0, 0, 0, 2, 0, 0, 0, 2, 0] (by kernel_rfl) (j := 19) rfl ?_
  refine GL_callQ (i := 19) (ch := [(37, true)]) (f := 12) (fst := #[]) (caps := #[]) (vs := [.int .i64 0]) (v := .string (printB 0)) rfl rfl rfl (by kernel_rfl) (by kernel_rfl) Tryz.func12 rfl rfl (by kernel_rfl) (by kernel_rfl) (by kernel_rfl) (fun hc => print_ _ _ hT _) ?_
  refine GL_pure (E' := [⟨41, [], .bool ((printB 0).toList == (ByteArray.mk #[49, 57, 55, 48, 45, 48, 49, 45, 48, 49, 84, 48, 48, 58, 48, 48, 58, 48, 48, 90]).toList)⟩, ⟨40, [], .bool ((printB 0).toList == (ByteArray.mk #[49, 57, 55, 48, 45, 48, 49, 45, 48, 49, 84, 48, 48, 58, 48, 48, 58, 48, 48, 90]).toList)⟩, ⟨39, [(37, true)], .bool ((printB 0).toList == (ByteArray.mk #[49, 57, 55, 48, 45, 48, 49, 45, 48, 49, 84, 48, 48, 58, 48, 48, 58, 48, 48, 90]).toList)⟩, ⟨38, [(37, true)], .string (printB 0)⟩, ⟨37, [], .bool true⟩, ⟨36, [], .bool true⟩, ⟨35, [(33, true)], .bool true⟩, ⟨34, [(33, true)], .int .i64 30⟩, ⟨33, [], .bool true⟩, ⟨32, [], .bool true⟩, ⟨31, [(29, true)], .bool true⟩, ⟨30, [(29, true)], .int .i64 0⟩, ⟨29, [], .bool true⟩, ⟨28, [], .bool true⟩, ⟨27, [(25, true)], .bool true⟩, ⟨26, [(25, true)], .int .i64 86400⟩, ⟨25, [], .bool true⟩, ⟨24, [], .bool true⟩, ⟨23, [(21, true)], .bool true⟩, ⟨22, [(21, true)], .int .i64 0⟩, ⟨21, [], .bool true⟩, ⟨20, [], .bool true⟩, ⟨19, [], .int .i64 86401⟩, ⟨1, [], .int .i64 86401⟩, ⟨2, [], .int .i64 0⟩, ⟨3, [], .int .i64 86400⟩, ⟨4, [], .int .i64 0⟩, ⟨6, [], .int .i64 30⟩]) [0, 2, 0] (by kernel_rfl) (j := 23) rfl ?_
  refine GL_callQ (i := 23) (ch := [(41, true)]) (f := 13) (fst := #[]) (caps := #[]) (vs := [.int .i64 86400]) (v := .string (printMailB 86400)) rfl rfl rfl (by kernel_rfl) (by kernel_rfl) Tryz.func13 rfl rfl (by kernel_rfl) (by kernel_rfl) (by kernel_rfl) (fun hc => printMail_ _ _ hT _) ?_
  refine GL_fin (E' := [⟨0, [], .bool (((printB 0).toList == (ByteArray.mk #[49, 57, 55, 48, 45, 48, 49, 45, 48, 49, 84, 48, 48, 58, 48, 48, 58, 48, 48, 90]).toList) && ((printMailB 86400).toList == (ByteArray.mk #[70, 114, 105, 44, 32, 48, 50, 32, 74, 97, 110, 32, 49, 57, 55, 48, 32, 48, 48, 58, 48, 48, 58, 48, 48, 32, 71, 77, 84]).toList))⟩]) [0, 6, 0] [0] rfl (by kernel_rfl) ?_
  refine N_then ?_
  refine G_ret ?_
  refine N_ret [.tmp 0] [.bool (((printB 0).toList == (ByteArray.mk #[49, 57, 55, 48, 45, 48, 49, 45, 48, 49, 84, 48, 48, 58, 48, 48, 58, 48, 48, 90]).toList) && ((printMailB 86400).toList == (ByteArray.mk #[70, 114, 105, 44, 32, 48, 50, 32, 74, 97, 110, 32, 49, 57, 55, 48, 32, 48, 48, 58, 48, 48, 58, 48, 48, 32, 71, 77, 84]).toList))] rfl (by kernel_rfl) rfl ?_
  exact ⟨by rw [first_d, first_e]; simp [packV], rfl⟩

end Go.Proofs.YtlglmomimhbeaaaGreatDoor
