/- The walk of the law on the dates of RSS. The table of powers lies as laid. -/
import Derived.Test.YtlglmomimhbeaaaGreatDoorDs
namespace Go.Proofs.YtlglmomimhbeaaaGreatDoor
open Go.Sw Go.Lib Go.Cal Go.Scn


theorem dateMails_ (s : ByteArray) (W0 : World) (hT : Tab W0) (H : List Grp) : Tri Tryz.prog 3 #[.string s] W0 H (fun v H' => v = .bool true ∧ H' = H) := by
  refine Tri_of (args := [.string s]) (n := 40) Tryz.func3 rfl rfl (Nat.le_of_ble_eq_true rfl) ?_
  refine G_seq ?_
  refine G_pure (E' := [⟨0, [], .string s⟩]) [0] [0] rfl (by kernel_rfl) ?_
  refine N_then ?_
  refine G_seq ?_
  refine G_seq ?_
  refine G_region ?_
  refine GL_callQ (i := 0) (ch := []) (f := 5) (fst := #[]) (caps := #[]) (vs := []) (v := .bool true) rfl rfl rfl (by kernel_rfl) (by kernel_rfl) Tryz.func5 rfl rfl (by kernel_rfl) (by kernel_rfl) (by kernel_rfl) (fun _ => first_ _ hT _) ?_
  refine GL_fin (E' := [⟨0, [], .string s⟩, ⟨8, [], .bool false⟩]) [0] [0, 8] rfl (by kernel_rfl) ?_
  refine N_then ?_
  refine G_condf (by kernel_rfl) ?_
  refine G_skip ?_
  refine N_then ?_
  refine G_seq ?_
  refine G_seq ?_
  refine G_pure (E' := [⟨0, [], .string s⟩, ⟨11, [], .bool (decide ((s.size : Int) > 200))⟩]) [0, 0, 0] [0, 11] rfl (by kernel_rfl) ?_
  refine N_then ?_
  refine G_cond (b := decide ((s.size : Int) > 200)) (by kernel_rfl) (fun hc1 => ?_) (fun hc1 => ?_)
  ·
    simp at hc1
    refine G_seq ?_
    refine G_pure (E' := [⟨2, [], .bool true⟩]) [0] [2] rfl (by kernel_rfl) ?_
    refine N_then ?_
    refine G_ret ?_
    refine N_then_ret ?_
    refine N_ret [.tmp 2] [.bool true] rfl (by kernel_rfl) rfl ?_
    exact ⟨by simp [packV], rfl⟩
  ·
    simp at hc1
    refine G_skip ?_
    refine N_then ?_
    refine G_seq ?_
    refine G_region ?_
    refine GL_pure (E' := [⟨13, [], .string s⟩, ⟨0, [], .string s⟩, ⟨11, [], .bool (decide ((s.size : Int) > 200))⟩]) [0] (by kernel_rfl) (j := 1) rfl ?_
    refine GL_call (i := 1) (ch := []) (f := 6) (fst := #[]) (caps := #[]) (vs := [.string s]) rfl rfl rfl (by kernel_rfl) (by kernel_rfl) Tryz.func6 rfl rfl (by kernel_rfl) (by kernel_rfl) (chSure_of (by kernel_rfl)) (mail_ _ _ _) ?_
    intro v H' hv
    obtain ⟨hv1, hv2⟩ := hv
    subst hv2
    rcases ht2 : mailM s with _ | t3
    ·
      rw [ht2] at hv1
      subst hv1
      refine GL_fin (E' := [⟨0, [], .string s⟩, ⟨3, [], .int .i64 0⟩, ⟨4, [], .int .i64 30⟩]) [0, 0, 0, 0, 0] [0, 3, 4] rfl (by kernel_rfl) ?_
      refine N_then ?_
      refine G_seq ?_
      refine G_region ?_
      refine GL_pure (E' := [⟨18, [], .string s⟩, ⟨0, [], .string s⟩, ⟨3, [], .int .i64 0⟩, ⟨4, [], .int .i64 30⟩]) [0] (by kernel_rfl) (j := 1) rfl ?_
      have hr : refMailM s = none := by rw [← mails_same]; exact ht2
      refine GL_call (i := 1) (ch := []) (f := 7) (fst := #[]) (caps := #[]) (vs := [.string s]) rfl rfl rfl (by kernel_rfl) (by kernel_rfl) Tryz.func7 rfl rfl (by kernel_rfl) (by kernel_rfl) (chSure_of (by kernel_rfl)) (refMail s (by omega) _ _) ?_
      intro v H' hv
      obtain ⟨hv1, hv2⟩ := hv
      subst hv2
      rw [hr] at hv1
      subst hv1
      refine GL_fin (E' := [⟨3, [], .int .i64 0⟩, ⟨4, [], .int .i64 30⟩, ⟨5, [], .int .i64 0⟩, ⟨6, [], .bool false⟩]) [0, 0, 0, 0, 0] [3, 4, 5, 6] rfl (by kernel_rfl) ?_
      refine N_then ?_
      refine G_seq ?_
      refine G_pure (E' := [⟨2, [], .bool true⟩]) [0, 0, 0, 0, 0, 0, 1, 1, 3, 0, 0, 0, 0, 0, 0, 2, 3, 2, 0] [2] rfl (by kernel_rfl) ?_
      refine N_then ?_
      refine G_ret ?_
      refine N_ret [.tmp 2] [.bool true] rfl (by kernel_rfl) rfl ?_
      exact ⟨by simp [packV], rfl⟩
    ·
      rw [ht2] at hv1
      subst hv1
      refine GL_fin (E' := [⟨0, [], .string s⟩, ⟨3, [], .int .i64 t3⟩, ⟨4, [], .int .i64 0⟩]) [0, 0, 0, 0, 0] [0, 3, 4] rfl (by kernel_rfl) ?_
      refine N_then ?_
      refine G_seq ?_
      refine G_region ?_
      refine GL_pure (E' := [⟨18, [], .string s⟩, ⟨0, [], .string s⟩, ⟨3, [], .int .i64 t3⟩, ⟨4, [], .int .i64 0⟩]) [0] (by kernel_rfl) (j := 1) rfl ?_
      have hr : refMailM s = some t3 := by rw [← mails_same]; exact ht2
      refine GL_call (i := 1) (ch := []) (f := 7) (fst := #[]) (caps := #[]) (vs := [.string s]) rfl rfl rfl (by kernel_rfl) (by kernel_rfl) Tryz.func7 rfl rfl (by kernel_rfl) (by kernel_rfl) (chSure_of (by kernel_rfl)) (refMail s (by omega) _ _) ?_
      intro v H' hv
      obtain ⟨hv1, hv2⟩ := hv
      subst hv2
      rw [hr] at hv1
      subst hv1
      refine GL_fin (E' := [⟨3, [], .int .i64 t3⟩, ⟨4, [], .int .i64 0⟩, ⟨5, [], .int .i64 t3⟩, ⟨6, [], .bool true⟩]) [0, 0, 0, 0, 0] [3, 4, 5, 6] rfl (by kernel_rfl) ?_
      refine N_then ?_
      refine G_seq ?_
      refine G_pure (E' := [⟨2, [], .bool ((t3 == t3) && true)⟩]) [0, 0, 0, 0, 0, 0, 0, 0, 2, 0, 1, 1, 1, 1, 1, 1, 2, 6, 0] [2] rfl (by kernel_rfl) ?_
      refine N_then ?_
      refine G_ret ?_
      refine N_ret [.tmp 2] [.bool ((t3 == t3) && true)] rfl (by kernel_rfl) rfl ?_
      exact ⟨by simp [packV], rfl⟩

end Go.Proofs.YtlglmomimhbeaaaGreatDoor
