/- The walks of what the document's answer reads in Atom. The table of powers lies as laid. -/
import Derived.Test.YtlglmomimhbeaaaGreatDoorDi
import Derived.Test.YtlglmomimhbeaaaGreatDoorSame
namespace Go.Proofs.YtlglmomimhbeaaaGreatDoor
open Go.Sw Go.Lib Go.Cal Go.Scn


theorem refLike (s p : ByteArray) (hs : p.size ≤ 300) (W0 : World) (H : List Grp) : Tri Tryz.prog 26 #[.string s, .string p] W0 H (fun v H' => v = .bool (likeB s p) ∧ H' = H) := by
  refine Tri_of (args := [.string s, .string p]) (n := 48) Tryz.func26 rfl rfl (Nat.le_of_ble_eq_true rfl) ?_
  refine G_seq ?_
  refine G_pure (E' := [⟨0, [], .string s⟩, ⟨1, [], .string p⟩]) [0] [0, 1] rfl (by kernel_rfl) ?_
  refine N_then ?_
  refine G_seq ?_
  refine G_seq ?_
  refine G_pure (E' := [⟨0, [], .string s⟩, ⟨1, [], .string p⟩, ⟨10, [], .bool ((s.size : Int) != (p.size : Int))⟩]) [0, 0, 0, 0, 0] [0, 1, 10] rfl (by kernel_rfl) ?_
  refine N_then ?_
  refine G_cond (b := (s.size : Int) != (p.size : Int)) (by kernel_rfl) (fun hc1 => ?_) (fun hc1 => ?_)
  ·
    simp at hc1
    refine G_seq ?_
    refine G_pure (E' := [⟨4, [], .bool false⟩]) [0] [4] rfl (by kernel_rfl) ?_
    refine N_then ?_
    refine G_ret ?_
    refine N_then_ret ?_
    refine N_ret [.tmp 4] [.bool false] rfl (by kernel_rfl) rfl ?_
    exact ⟨by rw [likeB_no (by omega)]; rfl, rfl⟩
  ·
    simp at hc1
    refine G_skip ?_
    refine N_then ?_
    refine G_seq ?_
    refine G_seq ?_
    refine G_pure (E' := [⟨0, [], .string s⟩, ⟨1, [], .string p⟩, ⟨5, [], .int .i64 0⟩]) [0] [0, 1, 5] rfl (by kernel_rfl) ?_
    refine N_then ?_
    refine G_block ?_
    refine G_loop (EI := (fun ξ : Nat => [⟨0, [], .string s⟩, ⟨1, [], .string p⟩, ⟨5, [], .int .i64 ((ξ : Nat) : Int)⟩])) (HI := (fun ξ : Nat => H)) (Φ := (fun ξ : Nat => (ξ ≤ s.size) ∧ (okUp s p ξ))) (μ := (fun ξ : Nat => s.size - ξ)) (s0 := (0)) [0, 1, 5] (by kernel_rfl) rfl ⟨(by omega), okUp_zero⟩ ?_
    rintro k ⟨hk, hp⟩
    refine G_seq ?_
    refine G_seq ?_
    refine G_pure (E' := [⟨0, [], .string s⟩, ⟨1, [], .string p⟩, ⟨5, [], .int .i64 ((k : Nat) : Int)⟩, ⟨14, [], .bool (decide (((k : Nat) : Int) < (s.size : Int)))⟩]) [0, 0, 0, 0] [0, 1, 5, 14] rfl (by kernel_rfl) ?_
    refine N_then ?_
    refine G_cond (b := decide (((k : Nat) : Int) < (s.size : Int))) (by kernel_rfl) (fun hc2 => ?_) (fun hc2 => ?_)
    ·
      simp at hc2
      refine G_skip ?_
      refine N_then ?_
      refine G_seq ?_
      refine G_block ?_
      refine G_seq ?_
      refine G_regionD (by kernel_rfl) (by kernel_rfl) ?_
      refine GL_pure (E' := [⟨18, [], .int .i64 ((k : Nat) : Int)⟩, ⟨17, [], .string p⟩, ⟨0, [], .string s⟩, ⟨1, [], .string p⟩, ⟨5, [], .int .i64 ((k : Nat) : Int)⟩, ⟨14, [], .bool (decide (((k : Nat) : Int) < (s.size : Int)))⟩]) [0, 0] (by kernel_rfl) (j := 2) rfl ?_
      refine GL_index (i := 2) (ch := []) (s := p) (kd := .i64) (j := ((k : Nat) : Int)) rfl rfl (by kernel_rfl) (by kernel_rfl) (by kernel_rfl) (by kernel_rfl) (by kernel_rfl) (by kernel_rfl) (fun _ => by omega) ?_
      have hb3 := byteAt_rng p ((k : Nat) : Int)
      refine GL_pure (E' := [⟨23, [(21, true)], .int .i64 ((k : Nat) : Int)⟩, ⟨22, [(21, true)], .string s⟩, ⟨21, [], .bool ((byteAt p ((k : Nat) : Int)) == 57)⟩, ⟨20, [], .bool ((byteAt p ((k : Nat) : Int)) == 57)⟩, ⟨19, [], .int .u8 (byteAt p ((k : Nat) : Int))⟩, ⟨18, [], .int .i64 ((k : Nat) : Int)⟩, ⟨17, [], .string p⟩, ⟨0, [], .string s⟩, ⟨1, [], .string p⟩, ⟨5, [], .int .i64 ((k : Nat) : Int)⟩, ⟨14, [], .bool (decide (((k : Nat) : Int) < (s.size : Int)))⟩]) [0, 0, 0, 0] (by kernel_rfl) (j := 7) rfl ?_
      refine GL_index (i := 7) (ch := [(21, true)]) (s := s) (kd := .i64) (j := ((k : Nat) : Int)) rfl rfl (by kernel_rfl) (by kernel_rfl) (by kernel_rfl) (by kernel_rfl) (by kernel_rfl) (by kernel_rfl) (fun hc => by have hg0 := chB_hd (t := 21) (c := []) (b := (byteAt p ((k : Nat) : Int)) == 57) hc (by kernel_rfl); (try simp at hg0); omega) ?_
      have hb4 := byteAt_rng s ((k : Nat) : Int)
      refine GL_pure (E' := [⟨28, [(26, false), (21, true)], .int .i64 ((k : Nat) : Int)⟩, ⟨27, [(26, false), (21, true)], .string s⟩, ⟨26, [(21, true)], .bool (decide ((byteAt s ((k : Nat) : Int)) < 48))⟩, ⟨25, [(21, true)], .bool (decide ((byteAt s ((k : Nat) : Int)) < 48))⟩, ⟨24, [(21, true)], .int .u8 (byteAt s ((k : Nat) : Int))⟩, ⟨23, [(21, true)], .int .i64 ((k : Nat) : Int)⟩, ⟨22, [(21, true)], .string s⟩, ⟨21, [], .bool ((byteAt p ((k : Nat) : Int)) == 57)⟩, ⟨20, [], .bool ((byteAt p ((k : Nat) : Int)) == 57)⟩, ⟨19, [], .int .u8 (byteAt p ((k : Nat) : Int))⟩, ⟨18, [], .int .i64 ((k : Nat) : Int)⟩, ⟨17, [], .string p⟩, ⟨0, [], .string s⟩, ⟨1, [], .string p⟩, ⟨5, [], .int .i64 ((k : Nat) : Int)⟩, ⟨14, [], .bool (decide (((k : Nat) : Int) < (s.size : Int)))⟩]) [0, 0, 0, 0] (by kernel_rfl) (j := 12) rfl ?_
      refine GL_index (i := 12) (ch := [(26, false), (21, true)]) (s := s) (kd := .i64) (j := ((k : Nat) : Int)) rfl rfl (by kernel_rfl) (by kernel_rfl) (by kernel_rfl) (by kernel_rfl) (by kernel_rfl) (by kernel_rfl) (fun hc => by have hg0 := chB_hd (t := 26) (c := [(21, true)]) (b := decide ((byteAt s ((k : Nat) : Int)) < 48)) hc (by kernel_rfl); have hg1 := chB_hd (t := 21) (c := []) (b := (byteAt p ((k : Nat) : Int)) == 57) (chB_tl hc) (by kernel_rfl); (try simp at hg0 hg1); omega) ?_
      have hb5 := byteAt_rng s ((k : Nat) : Int)
      refine GL_pure (E' := [⟨35, [(33, false)], .int .i64 ((k : Nat) : Int)⟩, ⟨34, [(33, false)], .string p⟩, ⟨33, [], .bool (((byteAt p ((k : Nat) : Int)) == 57) && ((decide ((byteAt s ((k : Nat) : Int)) < 48)) || (decide ((byteAt s ((k : Nat) : Int)) > 57))))⟩, ⟨32, [], .bool (((byteAt p ((k : Nat) : Int)) == 57) && ((decide ((byteAt s ((k : Nat) : Int)) < 48)) || (decide ((byteAt s ((k : Nat) : Int)) > 57))))⟩, ⟨31, [(21, true)], .bool ((decide ((byteAt s ((k : Nat) : Int)) < 48)) || (decide ((byteAt s ((k : Nat) : Int)) > 57)))⟩, ⟨30, [(26, false), (21, true)], .bool (decide ((byteAt s ((k : Nat) : Int)) > 57))⟩, ⟨29, [(26, false), (21, true)], .int .u8 (byteAt s ((k : Nat) : Int))⟩, ⟨28, [(26, false), (21, true)], .int .i64 ((k : Nat) : Int)⟩, ⟨27, [(26, false), (21, true)], .string s⟩, ⟨26, [(21, true)], .bool (decide ((byteAt s ((k : Nat) : Int)) < 48))⟩, ⟨25, [(21, true)], .bool (decide ((byteAt s ((k : Nat) : Int)) < 48))⟩, ⟨24, [(21, true)], .int .u8 (byteAt s ((k : Nat) : Int))⟩, ⟨23, [(21, true)], .int .i64 ((k : Nat) : Int)⟩, ⟨22, [(21, true)], .string s⟩, ⟨21, [], .bool ((byteAt p ((k : Nat) : Int)) == 57)⟩, ⟨20, [], .bool ((byteAt p ((k : Nat) : Int)) == 57)⟩, ⟨19, [], .int .u8 (byteAt p ((k : Nat) : Int))⟩, ⟨18, [], .int .i64 ((k : Nat) : Int)⟩, ⟨17, [], .string p⟩, ⟨0, [], .string s⟩, ⟨1, [], .string p⟩, ⟨5, [], .int .i64 ((k : Nat) : Int)⟩, ⟨14, [], .bool (decide (((k : Nat) : Int) < (s.size : Int)))⟩]) [0, 5, 6, 0, 0, 0] (by kernel_rfl) (j := 19) rfl ?_
      refine GL_index (i := 19) (ch := [(33, false)]) (s := p) (kd := .i64) (j := ((k : Nat) : Int)) rfl rfl (by kernel_rfl) (by kernel_rfl) (by kernel_rfl) (by kernel_rfl) (by kernel_rfl) (by kernel_rfl) (fun hc => by have hg0 := chB_hd (t := 33) (c := []) (b := ((byteAt p ((k : Nat) : Int)) == 57) && ((decide ((byteAt s ((k : Nat) : Int)) < 48)) || (decide ((byteAt s ((k : Nat) : Int)) > 57)))) hc (by kernel_rfl); (try simp at hg0); omega) ?_
      have hb6 := byteAt_rng p ((k : Nat) : Int)
      refine GL_pure (E' := [⟨40, [(38, true), (33, false)], .int .i64 ((k : Nat) : Int)⟩, ⟨39, [(38, true), (33, false)], .string s⟩, ⟨38, [(33, false)], .bool ((byteAt p ((k : Nat) : Int)) != 57)⟩, ⟨37, [(33, false)], .bool ((byteAt p ((k : Nat) : Int)) != 57)⟩, ⟨36, [(33, false)], .int .u8 (byteAt p ((k : Nat) : Int))⟩, ⟨35, [(33, false)], .int .i64 ((k : Nat) : Int)⟩, ⟨34, [(33, false)], .string p⟩, ⟨33, [], .bool (((byteAt p ((k : Nat) : Int)) == 57) && ((decide ((byteAt s ((k : Nat) : Int)) < 48)) || (decide ((byteAt s ((k : Nat) : Int)) > 57))))⟩, ⟨32, [], .bool (((byteAt p ((k : Nat) : Int)) == 57) && ((decide ((byteAt s ((k : Nat) : Int)) < 48)) || (decide ((byteAt s ((k : Nat) : Int)) > 57))))⟩, ⟨31, [(21, true)], .bool ((decide ((byteAt s ((k : Nat) : Int)) < 48)) || (decide ((byteAt s ((k : Nat) : Int)) > 57)))⟩, ⟨30, [(26, false), (21, true)], .bool (decide ((byteAt s ((k : Nat) : Int)) > 57))⟩, ⟨29, [(26, false), (21, true)], .int .u8 (byteAt s ((k : Nat) : Int))⟩, ⟨28, [(26, false), (21, true)], .int .i64 ((k : Nat) : Int)⟩, ⟨27, [(26, false), (21, true)], .string s⟩, ⟨26, [(21, true)], .bool (decide ((byteAt s ((k : Nat) : Int)) < 48))⟩, ⟨25, [(21, true)], .bool (decide ((byteAt s ((k : Nat) : Int)) < 48))⟩, ⟨24, [(21, true)], .int .u8 (byteAt s ((k : Nat) : Int))⟩, ⟨23, [(21, true)], .int .i64 ((k : Nat) : Int)⟩, ⟨22, [(21, true)], .string s⟩, ⟨21, [], .bool ((byteAt p ((k : Nat) : Int)) == 57)⟩, ⟨20, [], .bool ((byteAt p ((k : Nat) : Int)) == 57)⟩, ⟨19, [], .int .u8 (byteAt p ((k : Nat) : Int))⟩, ⟨18, [], .int .i64 ((k : Nat) : Int)⟩, ⟨17, [], .string p⟩, ⟨0, [], .string s⟩, ⟨1, [], .string p⟩, ⟨5, [], .int .i64 ((k : Nat) : Int)⟩, ⟨14, [], .bool (decide (((k : Nat) : Int) < (s.size : Int)))⟩]) [0, 0, 0, 0] (by kernel_rfl) (j := 24) rfl ?_
      refine GL_index (i := 24) (ch := [(38, true), (33, false)]) (s := s) (kd := .i64) (j := ((k : Nat) : Int)) rfl rfl (by kernel_rfl) (by kernel_rfl) (by kernel_rfl) (by kernel_rfl) (by kernel_rfl) (by kernel_rfl) (fun hc => by have hg0 := chB_hd (t := 38) (c := [(33, false)]) (b := (byteAt p ((k : Nat) : Int)) != 57) hc (by kernel_rfl); have hg1 := chB_hd (t := 33) (c := []) (b := ((byteAt p ((k : Nat) : Int)) == 57) && ((decide ((byteAt s ((k : Nat) : Int)) < 48)) || (decide ((byteAt s ((k : Nat) : Int)) > 57)))) (chB_tl hc) (by kernel_rfl); (try simp at hg0 hg1); omega) ?_
      have hb7 := byteAt_rng s ((k : Nat) : Int)
      refine GL_pure (E' := [⟨43, [(38, true), (33, false)], .int .i64 ((k : Nat) : Int)⟩, ⟨42, [(38, true), (33, false)], .string p⟩, ⟨41, [(38, true), (33, false)], .int .u8 (byteAt s ((k : Nat) : Int))⟩, ⟨40, [(38, true), (33, false)], .int .i64 ((k : Nat) : Int)⟩, ⟨39, [(38, true), (33, false)], .string s⟩, ⟨38, [(33, false)], .bool ((byteAt p ((k : Nat) : Int)) != 57)⟩, ⟨37, [(33, false)], .bool ((byteAt p ((k : Nat) : Int)) != 57)⟩, ⟨36, [(33, false)], .int .u8 (byteAt p ((k : Nat) : Int))⟩, ⟨35, [(33, false)], .int .i64 ((k : Nat) : Int)⟩, ⟨34, [(33, false)], .string p⟩, ⟨33, [], .bool (((byteAt p ((k : Nat) : Int)) == 57) && ((decide ((byteAt s ((k : Nat) : Int)) < 48)) || (decide ((byteAt s ((k : Nat) : Int)) > 57))))⟩, ⟨32, [], .bool (((byteAt p ((k : Nat) : Int)) == 57) && ((decide ((byteAt s ((k : Nat) : Int)) < 48)) || (decide ((byteAt s ((k : Nat) : Int)) > 57))))⟩, ⟨31, [(21, true)], .bool ((decide ((byteAt s ((k : Nat) : Int)) < 48)) || (decide ((byteAt s ((k : Nat) : Int)) > 57)))⟩, ⟨30, [(26, false), (21, true)], .bool (decide ((byteAt s ((k : Nat) : Int)) > 57))⟩, ⟨29, [(26, false), (21, true)], .int .u8 (byteAt s ((k : Nat) : Int))⟩, ⟨28, [(26, false), (21, true)], .int .i64 ((k : Nat) : Int)⟩, ⟨27, [(26, false), (21, true)], .string s⟩, ⟨26, [(21, true)], .bool (decide ((byteAt s ((k : Nat) : Int)) < 48))⟩, ⟨25, [(21, true)], .bool (decide ((byteAt s ((k : Nat) : Int)) < 48))⟩, ⟨24, [(21, true)], .int .u8 (byteAt s ((k : Nat) : Int))⟩, ⟨23, [(21, true)], .int .i64 ((k : Nat) : Int)⟩, ⟨22, [(21, true)], .string s⟩, ⟨21, [], .bool ((byteAt p ((k : Nat) : Int)) == 57)⟩, ⟨20, [], .bool ((byteAt p ((k : Nat) : Int)) == 57)⟩, ⟨19, [], .int .u8 (byteAt p ((k : Nat) : Int))⟩, ⟨18, [], .int .i64 ((k : Nat) : Int)⟩, ⟨17, [], .string p⟩, ⟨0, [], .string s⟩, ⟨1, [], .string p⟩, ⟨5, [], .int .i64 ((k : Nat) : Int)⟩, ⟨14, [], .bool (decide (((k : Nat) : Int) < (s.size : Int)))⟩]) [0, 0] (by kernel_rfl) (j := 27) rfl ?_
      refine GL_index (i := 27) (ch := [(38, true), (33, false)]) (s := p) (kd := .i64) (j := ((k : Nat) : Int)) rfl rfl (by kernel_rfl) (by kernel_rfl) (by kernel_rfl) (by kernel_rfl) (by kernel_rfl) (by kernel_rfl) (fun hc => by have hg0 := chB_hd (t := 38) (c := [(33, false)]) (b := (byteAt p ((k : Nat) : Int)) != 57) hc (by kernel_rfl); have hg1 := chB_hd (t := 33) (c := []) (b := ((byteAt p ((k : Nat) : Int)) == 57) && ((decide ((byteAt s ((k : Nat) : Int)) < 48)) || (decide ((byteAt s ((k : Nat) : Int)) > 57)))) (chB_tl hc) (by kernel_rfl); (try simp at hg0 hg1); omega) ?_
      have hb8 := byteAt_rng p ((k : Nat) : Int)
      refine GL_fin (E' := [⟨0, [], .string s⟩, ⟨1, [], .string p⟩, ⟨5, [], .int .i64 ((k : Nat) : Int)⟩, ⟨47, [], .bool ((((byteAt p ((k : Nat) : Int)) == 57) && ((decide ((byteAt s ((k : Nat) : Int)) < 48)) || (decide ((byteAt s ((k : Nat) : Int)) > 57)))) || (((byteAt p ((k : Nat) : Int)) != 57) && ((byteAt s ((k : Nat) : Int)) != (byteAt p ((k : Nat) : Int)))))⟩]) [0, 6, 5] [0, 1, 5, 47] rfl (by kernel_rfl) ?_
      refine N_then ?_
      refine G_cond (b := (((byteAt p ((k : Nat) : Int)) == 57) && ((decide ((byteAt s ((k : Nat) : Int)) < 48)) || (decide ((byteAt s ((k : Nat) : Int)) > 57)))) || (((byteAt p ((k : Nat) : Int)) != 57) && ((byteAt s ((k : Nat) : Int)) != (byteAt p ((k : Nat) : Int))))) (by kernel_rfl) (fun hc9 => ?_) (fun hc9 => ?_)
      ·
        have hl : lkI (byteAt s (k : Int)) (byteAt p (k : Int)) = false := by (unfold lkI; rw [hc9]; rfl)
        refine G_seq ?_
        refine G_pure (E' := [⟨4, [], .bool false⟩]) [0] [4] rfl (by kernel_rfl) ?_
        refine N_then ?_
        refine G_ret ?_
        refine N_block_ret ?_
        refine N_then_ret ?_
        refine N_then_ret ?_
        refine N_block_ret ?_
        refine N_then_ret ?_
        refine N_ret [.tmp 4] [.bool false] rfl (by kernel_rfl) rfl ?_
        exact ⟨by rw [likeB_bad (by omega) hl]; rfl, rfl⟩
      ·
        have hl : lkI (byteAt s (k : Int)) (byteAt p (k : Int)) = true := by (unfold lkI; rw [hc9]; rfl)
        refine G_skip ?_
        refine N_block ?_
        refine N_then ?_
        have hw10 : IntKind.wrap .i64 (((k : Nat) : Int) + 1) = ((k : Nat) : Int) + 1 := w64 (by omega) (by omega)
        refine G_pure (E' := [⟨0, [], .string s⟩, ⟨1, [], .string p⟩, ⟨5, [], .int .i64 (((k : Nat) : Int) + 1)⟩]) [0, 0, 0] [0, 1, 5] rfl (Eq.trans (b := some [⟨0, [], .string s⟩, ⟨1, [], .string p⟩, ⟨5, [], .int .i64 (IntKind.wrap .i64 (((k : Nat) : Int) + 1))⟩]) (by kernel_rfl) (by simp only [hw10])) ?_
        refine N_round (s' := (k + 1)) [0, 1, 5] (by kernel_rfl) rfl ⟨(by omega), (okUp_succ hp hl)⟩ (by omega)
    ·
      simp at hc2
      refine G_exit ?_
      refine N_then_exit ?_
      refine N_then_exit ?_
      refine N_block_exit ?_
      refine N_then ?_
      refine G_seq ?_
      refine G_pure (E' := [⟨4, [], .bool true⟩]) [0] [4] rfl (by kernel_rfl) ?_
      refine N_then ?_
      refine G_ret ?_
      refine N_ret [.tmp 4] [.bool true] rfl (by kernel_rfl) rfl ?_
      exact ⟨by rw [likeB_all (by omega) (fun j hj => hp j (by omega))]; rfl, rfl⟩

theorem refDigits (s : ByteArray) (hs : s.size ≤ 4) (W0 : World) (H : List Grp) : Tri Tryz.prog 27 #[.string s] W0 H (fun v H' => v = .int .i64 (rdig s) ∧ H' = H) := by
  refine Tri_of (args := [.string s]) (n := 30) Tryz.func27 rfl rfl (Nat.le_of_ble_eq_true rfl) ?_
  refine G_seq ?_
  refine G_pure (E' := [⟨0, [], .string s⟩]) [0] [0] rfl (by kernel_rfl) ?_
  refine N_then ?_
  refine G_seq ?_
  refine G_pure (E' := [⟨0, [], .string s⟩, ⟨3, [], .int .i64 0⟩]) [0] [0, 3] rfl (by kernel_rfl) ?_
  refine N_then ?_
  refine G_seq ?_
  refine G_seq ?_
  refine G_pure (E' := [⟨0, [], .string s⟩, ⟨3, [], .int .i64 0⟩, ⟨4, [], .int .i64 0⟩]) [0] [0, 3, 4] rfl (by kernel_rfl) ?_
  refine N_then ?_
  refine G_block ?_
  refine G_loop (EI := (fun ξ : Nat => [⟨0, [], .string s⟩, ⟨3, [], .int .i64 (upD s ξ)⟩, ⟨4, [], .int .i64 ((ξ : Nat) : Int)⟩])) (HI := (fun ξ : Nat => H)) (Φ := (fun ξ : Nat => (ξ ≤ s.size) ∧ (digUp s ξ))) (μ := (fun ξ : Nat => s.size - ξ)) (s0 := (0)) [0, 3, 4] (by kernel_rfl) rfl ⟨(by omega), digUp_zero⟩ ?_
  rintro k ⟨hk, hp⟩
  have hub := upD_bd4 (k := k) (by omega) hp
  have hu8 := u8_bd (byteAt s (k : Int) - 48)
  refine G_seq ?_
  refine G_seq ?_
  refine G_pure (E' := [⟨0, [], .string s⟩, ⟨3, [], .int .i64 (upD s k)⟩, ⟨4, [], .int .i64 ((k : Nat) : Int)⟩, ⟨8, [], .bool (decide (((k : Nat) : Int) < (s.size : Int)))⟩]) [0, 0, 0, 0] [0, 3, 4, 8] rfl (by kernel_rfl) ?_
  refine N_then ?_
  refine G_cond (b := decide (((k : Nat) : Int) < (s.size : Int))) (by kernel_rfl) (fun hc1 => ?_) (fun hc1 => ?_)
  ·
    simp at hc1
    refine G_skip ?_
    refine N_then ?_
    refine G_seq ?_
    refine G_block ?_
    refine G_seq ?_
    refine G_seq ?_
    refine G_region ?_
    refine GL_pure (E' := [⟨12, [], .int .i64 ((k : Nat) : Int)⟩, ⟨11, [], .string s⟩, ⟨0, [], .string s⟩, ⟨3, [], .int .i64 (upD s k)⟩, ⟨4, [], .int .i64 ((k : Nat) : Int)⟩, ⟨8, [], .bool (decide (((k : Nat) : Int) < (s.size : Int)))⟩]) [0, 0] (by kernel_rfl) (j := 2) rfl ?_
    refine GL_index (i := 2) (ch := []) (s := s) (kd := .i64) (j := ((k : Nat) : Int)) rfl rfl (by kernel_rfl) (by kernel_rfl) (by kernel_rfl) (by kernel_rfl) (by kernel_rfl) (by kernel_rfl) (fun _ => by omega) ?_
    have hb2 := byteAt_rng s ((k : Nat) : Int)
    refine GL_pure (E' := [⟨17, [(15, false)], .int .i64 ((k : Nat) : Int)⟩, ⟨16, [(15, false)], .string s⟩, ⟨15, [], .bool (decide ((byteAt s ((k : Nat) : Int)) < 48))⟩, ⟨14, [], .bool (decide ((byteAt s ((k : Nat) : Int)) < 48))⟩, ⟨13, [], .int .u8 (byteAt s ((k : Nat) : Int))⟩, ⟨12, [], .int .i64 ((k : Nat) : Int)⟩, ⟨11, [], .string s⟩, ⟨0, [], .string s⟩, ⟨3, [], .int .i64 (upD s k)⟩, ⟨4, [], .int .i64 ((k : Nat) : Int)⟩, ⟨8, [], .bool (decide (((k : Nat) : Int) < (s.size : Int)))⟩]) [0, 0, 0, 0] (by kernel_rfl) (j := 7) rfl ?_
    refine GL_index (i := 7) (ch := [(15, false)]) (s := s) (kd := .i64) (j := ((k : Nat) : Int)) rfl rfl (by kernel_rfl) (by kernel_rfl) (by kernel_rfl) (by kernel_rfl) (by kernel_rfl) (by kernel_rfl) (fun hc => by have hg0 := chB_hd (t := 15) (c := []) (b := decide ((byteAt s ((k : Nat) : Int)) < 48)) hc (by kernel_rfl); (try simp at hg0); omega) ?_
    have hb3 := byteAt_rng s ((k : Nat) : Int)
    refine GL_fin (E' := [⟨0, [], .string s⟩, ⟨3, [], .int .i64 (upD s k)⟩, ⟨4, [], .int .i64 ((k : Nat) : Int)⟩, ⟨20, [], .bool ((decide ((byteAt s ((k : Nat) : Int)) < 48)) || (decide ((byteAt s ((k : Nat) : Int)) > 57)))⟩]) [0, 5] [0, 3, 4, 20] rfl (by kernel_rfl) ?_
    refine N_then ?_
    refine G_cond (b := (decide ((byteAt s ((k : Nat) : Int)) < 48)) || (decide ((byteAt s ((k : Nat) : Int)) > 57))) (by kernel_rfl) (fun hc4 => ?_) (fun hc4 => ?_)
    ·
      have hl : isDig (byteAt s (k : Int)) = false := by (unfold isDig; revert hc4; simp; omega)
      refine G_seq ?_
      refine G_pure (E' := [⟨2, [], .int .i64 (-1)⟩]) [0] [2] rfl (by kernel_rfl) ?_
      refine N_then ?_
      refine G_ret ?_
      refine N_then_ret ?_
      refine N_block_ret ?_
      refine N_then_ret ?_
      refine N_then_ret ?_
      refine N_block_ret ?_
      refine N_then_ret ?_
      refine N_ret [.tmp 2] [.int .i64 (-1)] rfl (by kernel_rfl) rfl ?_
      exact ⟨by rw [rdig_no hc1 hl]; rfl, rfl⟩
    ·
      have hl : isDig (byteAt s (k : Int)) = true := by (unfold isDig; revert hc4; simp)
      refine G_skip ?_
      refine N_then ?_
      have hw5 : IntKind.wrap .i64 (10 * (upD s k)) = 10 * (upD s k) := w64 (by omega) (by omega)
      refine G_region ?_
      refine GL_pure (E' := [⟨24, [], .int .i64 ((k : Nat) : Int)⟩, ⟨23, [], .string s⟩, ⟨22, [], .int .i64 (10 * (upD s k))⟩, ⟨21, [], .int .i64 (upD s k)⟩, ⟨0, [], .string s⟩, ⟨3, [], .int .i64 (upD s k)⟩, ⟨4, [], .int .i64 ((k : Nat) : Int)⟩, ⟨20, [], .bool ((decide ((byteAt s ((k : Nat) : Int)) < 48)) || (decide ((byteAt s ((k : Nat) : Int)) > 57)))⟩]) [0, 0, 0, 0] (Eq.trans (b := some [⟨24, [], .int .i64 ((k : Nat) : Int)⟩, ⟨23, [], .string s⟩, ⟨22, [], .int .i64 (IntKind.wrap .i64 (10 * (upD s k)))⟩, ⟨21, [], .int .i64 (upD s k)⟩, ⟨0, [], .string s⟩, ⟨3, [], .int .i64 (upD s k)⟩, ⟨4, [], .int .i64 ((k : Nat) : Int)⟩, ⟨20, [], .bool ((decide ((byteAt s ((k : Nat) : Int)) < 48)) || (decide ((byteAt s ((k : Nat) : Int)) > 57)))⟩]) (by kernel_rfl) (by simp only [hw5])) (j := 4) rfl ?_
      refine GL_index (i := 4) (ch := []) (s := s) (kd := .i64) (j := ((k : Nat) : Int)) rfl rfl (by kernel_rfl) (by kernel_rfl) (by kernel_rfl) (by kernel_rfl) (by kernel_rfl) (by kernel_rfl) (fun _ => by omega) ?_
      have hb6 := byteAt_rng s ((k : Nat) : Int)
      have hw7 : IntKind.wrap .i64 (IntKind.wrap .u8 ((byteAt s ((k : Nat) : Int)) - 48)) = (IntKind.wrap .u8 ((byteAt s ((k : Nat) : Int)) - 48)) := w64 (by omega) (by omega)
      have hw8 : IntKind.wrap .i64 ((10 * (upD s k)) + (IntKind.wrap .u8 ((byteAt s ((k : Nat) : Int)) - 48))) = (10 * (upD s k)) + (IntKind.wrap .u8 ((byteAt s ((k : Nat) : Int)) - 48)) := w64 (by omega) (by omega)
      refine GL_fin (E' := [⟨0, [], .string s⟩, ⟨3, [], .int .i64 ((10 * (upD s k)) + (IntKind.wrap .u8 ((byteAt s ((k : Nat) : Int)) - 48)))⟩, ⟨4, [], .int .i64 ((k : Nat) : Int)⟩]) [0, 0, 0, 0] [0, 3, 4] rfl (Eq.trans (b := some [⟨0, [], .string s⟩, ⟨3, [], .int .i64 (IntKind.wrap .i64 ((10 * (upD s k)) + (IntKind.wrap .i64 (IntKind.wrap .u8 ((byteAt s ((k : Nat) : Int)) - 48)))))⟩, ⟨4, [], .int .i64 ((k : Nat) : Int)⟩]) (by kernel_rfl) (by simp only [hw7, hw8])) ?_
      refine N_block ?_
      refine N_then ?_
      have hw9 : IntKind.wrap .i64 (((k : Nat) : Int) + 1) = ((k : Nat) : Int) + 1 := w64 (by omega) (by omega)
      refine G_pure (E' := [⟨0, [], .string s⟩, ⟨3, [], .int .i64 ((10 * (upD s k)) + (IntKind.wrap .u8 ((byteAt s ((k : Nat) : Int)) - 48)))⟩, ⟨4, [], .int .i64 (((k : Nat) : Int) + 1)⟩]) [0, 0, 0] [0, 3, 4] rfl (Eq.trans (b := some [⟨0, [], .string s⟩, ⟨3, [], .int .i64 ((10 * (upD s k)) + (IntKind.wrap .u8 ((byteAt s ((k : Nat) : Int)) - 48)))⟩, ⟨4, [], .int .i64 (IntKind.wrap .i64 (((k : Nat) : Int) + 1))⟩]) (by kernel_rfl) (by simp only [hw9])) ?_
      refine N_round (s' := (k + 1)) [0, 3, 4] (by kernel_rfl) rfl ⟨(by omega), (digUp_succ hp hl)⟩ (by omega)
  ·
    simp at hc1
    refine G_exit ?_
    refine N_then_exit ?_
    refine N_then_exit ?_
    refine N_block_exit ?_
    refine N_then ?_
    refine G_seq ?_
    refine G_pure (E' := [⟨2, [], .int .i64 (upD s k)⟩]) [0, 0] [2] rfl (by kernel_rfl) ?_
    refine N_then ?_
    refine G_ret ?_
    refine N_ret [.tmp 2] [.int .i64 (upD s k)] rfl (by kernel_rfl) rfl ?_
    have e : k = s.size := by omega
    subst e
    exact ⟨by rw [rdig_all hp]; rfl, rfl⟩

theorem refOffset (s c : ByteArray) (hc : c.size ≤ 1) (W0 : World) (H : List Grp) : Tri Tryz.prog 28 #[.string s, .string c] W0 H (fun v H' => v = .tuple #[.int .i64 ((rOff s c).1), .bool ((rOff s c).2)] ∧ H' = H) := by
  have hd1 := rdig_bd (s := s.extract 1 3) (ext_size (by omega))
  have hd2 := rdig_bd (s := s.extract (Int.toNat ((s.size : Int) - 2)) s.size) (ext_size (by omega))
  refine Tri_of (args := [.string s, .string c]) (n := 49) Tryz.func28 rfl rfl (Nat.le_of_ble_eq_true rfl) ?_
  refine G_seq ?_
  refine G_pure (E' := [⟨0, [], .string s⟩, ⟨1, [], .string c⟩]) [0, 0] [0, 1] rfl (by kernel_rfl) ?_
  refine N_then ?_
  refine G_seq ?_
  refine G_seq ?_
  refine G_region ?_
  refine GL_pure (E' := [⟨10, [], .string c⟩, ⟨9, [], .string s⟩, ⟨0, [], .string s⟩, ⟨1, [], .string c⟩]) [0, 0] (by kernel_rfl) (j := 2) rfl ?_
  refine GL_concat (i := 2) (ch := []) (s := (ByteArray.mk #[43, 57, 57])) (u := c) rfl rfl (by kernel_rfl) (by kernel_rfl) (by kernel_rfl) (by kernel_rfl) (by kernel_rfl) (fun _ => Nat.le_trans (Nat.add_le_add (show (ByteArray.mk #[43, 57, 57]).size ≤ 3 from Nat.le_refl _) hc) (Nat.le_of_ble_eq_true rfl)) ?_
  refine GL_concat (i := 3) (ch := []) (s := (ByteArray.mk #[43, 57, 57]) ++ c) (u := (ByteArray.mk #[57, 57])) rfl rfl (by kernel_rfl) (by kernel_rfl) (by kernel_rfl) (by kernel_rfl) (by kernel_rfl) (fun _ => Nat.le_trans (Nat.add_le_add (app_le (show (ByteArray.mk #[43, 57, 57]).size ≤ 3 from Nat.le_refl _) hc) (show (ByteArray.mk #[57, 57]).size ≤ 2 from Nat.le_refl _)) (Nat.le_of_ble_eq_true rfl)) ?_
  refine GL_callQ (i := 4) (ch := []) (f := 26) (fst := #[]) (caps := #[]) (vs := [.string s, .string (((ByteArray.mk #[43, 57, 57]) ++ c) ++ (ByteArray.mk #[57, 57]))]) (v := .bool (likeB s (((ByteArray.mk #[43, 57, 57]) ++ c) ++ (ByteArray.mk #[57, 57])))) rfl rfl rfl (by kernel_rfl) (by kernel_rfl) Tryz.func26 rfl rfl (by kernel_rfl) (by kernel_rfl) (by kernel_rfl) (fun _ => refLike _ _ (by first | exact Nat.le_of_ble_eq_true rfl | (rw [ByteArray.size_append, ByteArray.size_append]; show 3 + c.size + 2 ≤ 300; omega)) _ _) ?_
  refine GL_pure (E' := [⟨17, [(15, true)], .string c⟩, ⟨16, [(15, true)], .string s⟩, ⟨15, [], .bool (!(likeB s (((ByteArray.mk #[43, 57, 57]) ++ c) ++ (ByteArray.mk #[57, 57]))))⟩, ⟨14, [], .bool (!(likeB s (((ByteArray.mk #[43, 57, 57]) ++ c) ++ (ByteArray.mk #[57, 57]))))⟩, ⟨13, [], .bool (likeB s (((ByteArray.mk #[43, 57, 57]) ++ c) ++ (ByteArray.mk #[57, 57])))⟩, ⟨12, [], .string (((ByteArray.mk #[43, 57, 57]) ++ c) ++ (ByteArray.mk #[57, 57]))⟩, ⟨11, [], .string ((ByteArray.mk #[43, 57, 57]) ++ c)⟩, ⟨10, [], .string c⟩, ⟨9, [], .string s⟩, ⟨0, [], .string s⟩, ⟨1, [], .string c⟩]) [0, 0, 0, 0] (by kernel_rfl) (j := 9) rfl ?_
  refine GL_concat (i := 9) (ch := [(15, true)]) (s := (ByteArray.mk #[45, 57, 57])) (u := c) rfl rfl (by kernel_rfl) (by kernel_rfl) (by kernel_rfl) (by kernel_rfl) (by kernel_rfl) (fun _ => Nat.le_trans (Nat.add_le_add (show (ByteArray.mk #[45, 57, 57]).size ≤ 3 from Nat.le_refl _) hc) (Nat.le_of_ble_eq_true rfl)) ?_
  refine GL_concat (i := 10) (ch := [(15, true)]) (s := (ByteArray.mk #[45, 57, 57]) ++ c) (u := (ByteArray.mk #[57, 57])) rfl rfl (by kernel_rfl) (by kernel_rfl) (by kernel_rfl) (by kernel_rfl) (by kernel_rfl) (fun _ => Nat.le_trans (Nat.add_le_add (app_le (show (ByteArray.mk #[45, 57, 57]).size ≤ 3 from Nat.le_refl _) hc) (show (ByteArray.mk #[57, 57]).size ≤ 2 from Nat.le_refl _)) (Nat.le_of_ble_eq_true rfl)) ?_
  refine GL_callQ (i := 11) (ch := [(15, true)]) (f := 26) (fst := #[]) (caps := #[]) (vs := [.string s, .string (((ByteArray.mk #[45, 57, 57]) ++ c) ++ (ByteArray.mk #[57, 57]))]) (v := .bool (likeB s (((ByteArray.mk #[45, 57, 57]) ++ c) ++ (ByteArray.mk #[57, 57])))) rfl rfl rfl (by kernel_rfl) (by kernel_rfl) Tryz.func26 rfl rfl (by kernel_rfl) (by kernel_rfl) (by kernel_rfl) (fun hc => refLike _ _ (by first | exact Nat.le_of_ble_eq_true rfl | (rw [ByteArray.size_append, ByteArray.size_append]; show 3 + c.size + 2 ≤ 300; omega)) _ _) ?_
  refine GL_fin (E' := [⟨0, [], .string s⟩, ⟨22, [], .bool ((!(likeB s (((ByteArray.mk #[43, 57, 57]) ++ c) ++ (ByteArray.mk #[57, 57])))) && (!(likeB s (((ByteArray.mk #[45, 57, 57]) ++ c) ++ (ByteArray.mk #[57, 57])))))⟩]) [0, 6] [0, 22] rfl (by kernel_rfl) ?_
  refine N_then ?_
  refine G_cond (b := (!(likeB s (((ByteArray.mk #[43, 57, 57]) ++ c) ++ (ByteArray.mk #[57, 57])))) && (!(likeB s (((ByteArray.mk #[45, 57, 57]) ++ c) ++ (ByteArray.mk #[57, 57]))))) (by kernel_rfl) (fun hc1 => ?_) (fun hc1 => ?_)
  ·
    have hl := offset_no hc1
    refine G_seq ?_
    refine G_pure (E' := [⟨4, [], .int .i64 0⟩, ⟨5, [], .bool false⟩]) [0, 0] [4, 5] rfl (by kernel_rfl) ?_
    refine N_then ?_
    refine G_ret ?_
    refine N_then_ret ?_
    refine N_ret [.tmp 4, .tmp 5] [.int .i64 0, .bool false] rfl (by kernel_rfl) rfl ?_
    exact ⟨by rw [hl]; rfl, rfl⟩
  ·
    obtain ⟨hl, hls⟩ := offset_yes hc1
    refine G_skip ?_
    refine N_then ?_
    refine G_seq ?_
    refine G_regionD (by kernel_rfl) (by kernel_rfl) ?_
    refine GL_pure (E' := [⟨23, [], .string s⟩, ⟨0, [], .string s⟩, ⟨22, [], .bool ((!(likeB s (((ByteArray.mk #[43, 57, 57]) ++ c) ++ (ByteArray.mk #[57, 57])))) && (!(likeB s (((ByteArray.mk #[45, 57, 57]) ++ c) ++ (ByteArray.mk #[57, 57])))))⟩]) [0] (by kernel_rfl) (j := 1) rfl ?_
    refine GL_sliceS (i := 1) (ch := []) (s := s) (vl := (some (.int .i64 1))) (vh := (some (.int .i64 3))) (l := 1) (h := 3) rfl rfl (by kernel_rfl) (by kernel_rfl) (by kernel_rfl) (by kernel_rfl) (by kernel_rfl) (by kernel_rfl) (by kernel_rfl) (by kernel_rfl) (by kernel_rfl) (fun _ => by omega) ?_
    refine GL_callQ (i := 2) (ch := []) (f := 27) (fst := #[]) (caps := #[]) (vs := [.string (s.extract 1 3)]) (v := .int .i64 (rdig (s.extract 1 3))) rfl rfl rfl (by kernel_rfl) (by kernel_rfl) Tryz.func27 rfl rfl (by kernel_rfl) (by kernel_rfl) (by kernel_rfl) (fun _ => refDigits _ (by first | exact ext_size (Nat.le_of_ble_eq_true rfl) | exact ext_size' (by omega) | omega) _ _) ?_
    have hw2 : IntKind.wrap .i64 ((s.size : Int) - 2) = (s.size : Int) - 2 := w64 (by omega) (by omega)
    refine GL_pure (E' := [⟨29, [], .int .i64 ((s.size : Int) - 2)⟩, ⟨28, [], .int .i64 (s.size : Int)⟩, ⟨27, [], .string s⟩, ⟨26, [], .string s⟩, ⟨25, [], .int .i64 (rdig (s.extract 1 3))⟩, ⟨24, [], .string (s.extract 1 3)⟩, ⟨23, [], .string s⟩, ⟨0, [], .string s⟩, ⟨22, [], .bool ((!(likeB s (((ByteArray.mk #[43, 57, 57]) ++ c) ++ (ByteArray.mk #[57, 57])))) && (!(likeB s (((ByteArray.mk #[45, 57, 57]) ++ c) ++ (ByteArray.mk #[57, 57])))))⟩]) [0, 0, 0, 0] (Eq.trans (b := some [⟨29, [], .int .i64 (IntKind.wrap .i64 ((s.size : Int) - 2))⟩, ⟨28, [], .int .i64 (s.size : Int)⟩, ⟨27, [], .string s⟩, ⟨26, [], .string s⟩, ⟨25, [], .int .i64 (rdig (s.extract 1 3))⟩, ⟨24, [], .string (s.extract 1 3)⟩, ⟨23, [], .string s⟩, ⟨0, [], .string s⟩, ⟨22, [], .bool ((!(likeB s (((ByteArray.mk #[43, 57, 57]) ++ c) ++ (ByteArray.mk #[57, 57])))) && (!(likeB s (((ByteArray.mk #[45, 57, 57]) ++ c) ++ (ByteArray.mk #[57, 57])))))⟩]) (by kernel_rfl) (by simp only [hw2])) (j := 7) rfl ?_
    refine GL_sliceS (i := 7) (ch := []) (s := s) (vl := (some (.int .i64 ((s.size : Int) - 2)))) (vh := none) (l := (s.size : Int) - 2) (h := (s.size : Int)) rfl rfl (by kernel_rfl) (by kernel_rfl) (by kernel_rfl) (by kernel_rfl) (by kernel_rfl) (by kernel_rfl) (by kernel_rfl) (by kernel_rfl) (by kernel_rfl) (fun _ => by omega) ?_
    refine GL_callQ (i := 8) (ch := []) (f := 27) (fst := #[]) (caps := #[]) (vs := [.string (s.extract (Int.toNat ((s.size : Int) - 2)) s.size)]) (v := .int .i64 (rdig (s.extract (Int.toNat ((s.size : Int) - 2)) s.size))) rfl rfl rfl (by kernel_rfl) (by kernel_rfl) Tryz.func27 rfl rfl (by kernel_rfl) (by kernel_rfl) (by kernel_rfl) (fun _ => refDigits _ (by first | exact ext_size (Nat.le_of_ble_eq_true rfl) | exact ext_size' (by omega) | omega) _ _) ?_
    refine GL_fin (E' := [⟨0, [], .string s⟩, ⟨6, [], .int .i64 (rdig (s.extract 1 3))⟩, ⟨7, [], .int .i64 (rdig (s.extract (Int.toNat ((s.size : Int) - 2)) s.size))⟩]) [0, 0] [0, 6, 7] rfl (by kernel_rfl) ?_
    refine N_then ?_
    refine G_seq ?_
    have hw3 : IntKind.wrap .i64 (3600 * (rdig (s.extract 1 3))) = 3600 * (rdig (s.extract 1 3)) := w64 (by omega) (by omega)
    have hw4 : IntKind.wrap .i64 (60 * (rdig (s.extract (Int.toNat ((s.size : Int) - 2)) s.size))) = 60 * (rdig (s.extract (Int.toNat ((s.size : Int) - 2)) s.size)) := w64 (by omega) (by omega)
    have hw5 : IntKind.wrap .i64 ((3600 * (rdig (s.extract 1 3))) + (60 * (rdig (s.extract (Int.toNat ((s.size : Int) - 2)) s.size)))) = (3600 * (rdig (s.extract 1 3))) + (60 * (rdig (s.extract (Int.toNat ((s.size : Int) - 2)) s.size))) := w64 (by omega) (by omega)
    refine G_pure (E' := [⟨0, [], .string s⟩, ⟨6, [], .int .i64 (rdig (s.extract 1 3))⟩, ⟨7, [], .int .i64 (rdig (s.extract (Int.toNat ((s.size : Int) - 2)) s.size))⟩, ⟨8, [], .int .i64 ((3600 * (rdig (s.extract 1 3))) + (60 * (rdig (s.extract (Int.toNat ((s.size : Int) - 2)) s.size))))⟩]) [0, 0, 0, 0, 0, 0] [0, 6, 7, 8] rfl (Eq.trans (b := some [⟨0, [], .string s⟩, ⟨6, [], .int .i64 (rdig (s.extract 1 3))⟩, ⟨7, [], .int .i64 (rdig (s.extract (Int.toNat ((s.size : Int) - 2)) s.size))⟩, ⟨8, [], .int .i64 (IntKind.wrap .i64 ((IntKind.wrap .i64 (3600 * (rdig (s.extract 1 3)))) + (IntKind.wrap .i64 (60 * (rdig (s.extract (Int.toNat ((s.size : Int) - 2)) s.size))))))⟩]) (by kernel_rfl) (by simp only [hw3, hw4, hw5])) ?_
    refine N_then ?_
    refine G_seq ?_
    refine G_seq ?_
    refine G_region ?_
    refine GL_pure (E' := [⟨37, [], .string s⟩, ⟨0, [], .string s⟩, ⟨6, [], .int .i64 (rdig (s.extract 1 3))⟩, ⟨7, [], .int .i64 (rdig (s.extract (Int.toNat ((s.size : Int) - 2)) s.size))⟩, ⟨8, [], .int .i64 ((3600 * (rdig (s.extract 1 3))) + (60 * (rdig (s.extract (Int.toNat ((s.size : Int) - 2)) s.size))))⟩]) [0] (by kernel_rfl) (j := 1) rfl ?_
    refine GL_index (i := 1) (ch := []) (s := s) (kd := .i64) (j := 0) rfl rfl (by kernel_rfl) (by kernel_rfl) (by kernel_rfl) (by kernel_rfl) (by kernel_rfl) (by kernel_rfl) (fun _ => by omega) ?_
    have hb6 := byteAt_rng s 0
    refine GL_fin (E' := [⟨6, [], .int .i64 (rdig (s.extract 1 3))⟩, ⟨7, [], .int .i64 (rdig (s.extract (Int.toNat ((s.size : Int) - 2)) s.size))⟩, ⟨8, [], .int .i64 ((3600 * (rdig (s.extract 1 3))) + (60 * (rdig (s.extract (Int.toNat ((s.size : Int) - 2)) s.size))))⟩, ⟨39, [], .bool ((byteAt s 0) == 45)⟩]) [0] [6, 7, 8, 39] rfl (by kernel_rfl) ?_
    refine N_then ?_
    refine G_cond (b := (byteAt s 0) == 45) (by kernel_rfl) (fun hc7 => ?_) (fun hc7 => ?_)
    ·
      have hsg := hc7
      have hw8 : IntKind.wrap .i64 (0 - ((3600 * (rdig (s.extract 1 3))) + (60 * (rdig (s.extract (Int.toNat ((s.size : Int) - 2)) s.size))))) = 0 - ((3600 * (rdig (s.extract 1 3))) + (60 * (rdig (s.extract (Int.toNat ((s.size : Int) - 2)) s.size)))) := w64 (by omega) (by omega)
      refine G_pure (E' := [⟨6, [], .int .i64 (rdig (s.extract 1 3))⟩, ⟨7, [], .int .i64 (rdig (s.extract (Int.toNat ((s.size : Int) - 2)) s.size))⟩, ⟨8, [], .int .i64 (0 - ((3600 * (rdig (s.extract 1 3))) + (60 * (rdig (s.extract (Int.toNat ((s.size : Int) - 2)) s.size)))))⟩]) [0, 0, 0] [6, 7, 8] rfl (Eq.trans (b := some [⟨6, [], .int .i64 (rdig (s.extract 1 3))⟩, ⟨7, [], .int .i64 (rdig (s.extract (Int.toNat ((s.size : Int) - 2)) s.size))⟩, ⟨8, [], .int .i64 (IntKind.wrap .i64 (0 - ((3600 * (rdig (s.extract 1 3))) + (60 * (rdig (s.extract (Int.toNat ((s.size : Int) - 2)) s.size))))))⟩]) (by kernel_rfl) (by simp only [hw8])) ?_
      refine N_then ?_
      refine G_seq ?_
      refine G_pure (E' := [⟨4, [], .int .i64 (0 - ((3600 * (rdig (s.extract 1 3))) + (60 * (rdig (s.extract (Int.toNat ((s.size : Int) - 2)) s.size)))))⟩, ⟨5, [], .bool ((decide ((rdig (s.extract 1 3)) < 24)) && (decide ((rdig (s.extract (Int.toNat ((s.size : Int) - 2)) s.size)) < 60)))⟩]) [0, 0, 0, 0, 0, 0, 6, 0, 0] [4, 5] rfl (by kernel_rfl) ?_
      refine N_then ?_
      refine G_ret ?_
      refine N_ret [.tmp 4, .tmp 5] [.int .i64 (0 - ((3600 * (rdig (s.extract 1 3))) + (60 * (rdig (s.extract (Int.toNat ((s.size : Int) - 2)) s.size))))), .bool ((decide ((rdig (s.extract 1 3)) < 24)) && (decide ((rdig (s.extract (Int.toNat ((s.size : Int) - 2)) s.size)) < 60)))] rfl (by kernel_rfl) rfl ?_
      exact ⟨by rw [hl, hsg]; rfl, rfl⟩
    ·
      have hsg := hc7
      refine G_skip ?_
      refine N_then ?_
      refine G_seq ?_
      refine G_pure (E' := [⟨4, [], .int .i64 ((3600 * (rdig (s.extract 1 3))) + (60 * (rdig (s.extract (Int.toNat ((s.size : Int) - 2)) s.size))))⟩, ⟨5, [], .bool ((decide ((rdig (s.extract 1 3)) < 24)) && (decide ((rdig (s.extract (Int.toNat ((s.size : Int) - 2)) s.size)) < 60)))⟩]) [0, 0, 0, 0, 0, 0, 6, 0, 0] [4, 5] rfl (by kernel_rfl) ?_
      refine N_then ?_
      refine G_ret ?_
      refine N_ret [.tmp 4, .tmp 5] [.int .i64 ((3600 * (rdig (s.extract 1 3))) + (60 * (rdig (s.extract (Int.toNat ((s.size : Int) - 2)) s.size)))), .bool ((decide ((rdig (s.extract 1 3)) < 24)) && (decide ((rdig (s.extract (Int.toNat ((s.size : Int) - 2)) s.size)) < 60)))] rfl (by kernel_rfl) rfl ?_
      exact ⟨by rw [hl, hsg]; rfl, rfl⟩

theorem refTime (y mo d h mi s off : Int) (b_y : -20000 ≤ y ∧ y ≤ 20000) (b_mo : -20000 ≤ mo ∧ mo ≤ 20000) (b_d : -20000 ≤ d ∧ d ≤ 20000) (b_h : -20000 ≤ h ∧ h ≤ 20000) (b_mi : -20000 ≤ mi ∧ mi ≤ 20000) (b_s : -20000 ≤ s ∧ s ≤ 20000) (bo : -1000000000 ≤ off ∧ off ≤ 1000000000) (W0 : World) (H : List Grp) : Tri Tryz.prog 29 #[.agg #[.int .i64 y, .int .i64 mo, .int .i64 d, .int .i64 h, .int .i64 mi, .int .i64 s, .int .i64 off]] W0 H (fun v H' => v = tOk (timeM y mo d h mi s off) ∧ H' = H) := by
  refine Tri_of (args := [.agg #[.int .i64 y, .int .i64 mo, .int .i64 d, .int .i64 h, .int .i64 mi, .int .i64 s, .int .i64 off]]) (n := 78) Tryz.func29 rfl rfl (Nat.le_of_ble_eq_true rfl) ?_
  refine G_seq ?_
  refine G_region ?_
  refine GL_box (i := 0) (ch := []) (v := .agg #[.int .i64 y, .int .i64 mo, .int .i64 d, .int .i64 h, .int .i64 mi, .int .i64 s, .int .i64 off]) rfl rfl (by kernel_rfl) (by kernel_rfl) (by kernel_rfl) (by kernel_rfl) (fun b1 => ?_)
  refine GL_fin (E' := [⟨1, [], .pointer (some ⟨b1, 0, none⟩)⟩]) [0, 0] [1] rfl (by kernel_rfl) ?_
  refine N_then ?_
  refine G_seq ?_
  refine G_region ?_
  refine GL_pure (E' := [⟨5, [], .pointer (some ⟨b1, 0, none⟩)⟩, ⟨1, [], .pointer (some ⟨b1, 0, none⟩)⟩]) [0] (by kernel_rfl) (j := 1) rfl ?_
  refine GL_loadA (i := 1) (ch := []) (b := b1) (off := 0) (l := [.int .i64 y, .int .i64 mo, .int .i64 d, .int .i64 h, .int .i64 mi, .int .i64 s]) rfl rfl (by kernel_rfl) (by kernel_rfl) (by kernel_rfl) (by kernel_rfl) (by kernel_rfl) (by kernel_rfl) (At.grp 0 0 rfl rfl) (by kernel_rfl) ?_
  refine GL_alloc (i := 2) (ch := []) (z := .agg #[.int .i64 0, .int .i64 0, .int .i64 0, .int .i64 0, .int .i64 0, .int .i64 0]) rfl rfl (by kernel_rfl) (by kernel_rfl) (by kernel_rfl) (by kernel_rfl) (fun b2 => ?_)
  refine GL_store (i := 3) (ch := []) (b := b2) (off := 0) (v := .agg #[.int .i64 y, .int .i64 mo, .int .i64 d, .int .i64 h, .int .i64 mi, .int .i64 s]) (c := #[.int .i64 0, .int .i64 0, .int .i64 0, .int .i64 0, .int .i64 0, .int .i64 0]) (c' := #[.int .i64 y, .int .i64 mo, .int .i64 d, .int .i64 h, .int .i64 mi, .int .i64 s]) (j := 0) (m := 0) (H' := ([(b2, .cells #[.int .i64 y, .int .i64 mo, .int .i64 d, .int .i64 h, .int .i64 mi, .int .i64 s] 29 (0, 0))] :: [(b1, .cells #[.int .i64 y, .int .i64 mo, .int .i64 d, .int .i64 h, .int .i64 mi, .int .i64 s, .int .i64 off] 31 (0, 0))] :: H)) rfl rfl (by kernel_rfl) (by kernel_rfl) (by kernel_rfl) (by kernel_rfl) (by kernel_rfl) (by kernel_rfl) (by kernel_rfl) rfl rfl (Nat.le_of_ble_eq_true rfl) (fun _ _ => thaw0) (by kernel_rfl) (by kernel_rfl) ?_
  refine GL_fin (E' := [⟨1, [], .pointer (some ⟨b1, 0, none⟩)⟩, ⟨4, [], .pointer (some ⟨b2, 0, none⟩)⟩]) [] [1, 4] rfl (by kernel_rfl) ?_
  refine N_then ?_
  refine G_seq ?_
  refine G_seq ?_
  refine G_regionD (by kernel_rfl) (by kernel_rfl) ?_
  refine GL_indexArr (i := 0) (ch := []) (b := b2) (off := 0) (len := 6) (sz := 1) (e := 3) (kd := .i64) (j := 0) rfl rfl (by kernel_rfl) (by kernel_rfl) (by kernel_rfl) (by kernel_rfl) (by kernel_rfl) (by kernel_rfl) (by kernel_rfl) (fun _ => ⟨by decide, by decide⟩) ?_
  refine GL_load (i := 1) (ch := []) (b := b2) (off := 0) (v := .int .i64 y) rfl rfl (by kernel_rfl) (by kernel_rfl) (by kernel_rfl) (by kernel_rfl) (by kernel_rfl) (At.grp 0 0 rfl rfl) rfl ?_
  refine GL_pure (E' := [⟨10, [], .bool (decide (y < 1))⟩, ⟨9, [], .bool (decide (y < 1))⟩, ⟨8, [], .int .i64 y⟩, ⟨7, [], .pointer (some ⟨b2, 0, none⟩)⟩, ⟨1, [], .pointer (some ⟨b1, 0, none⟩)⟩, ⟨4, [], .pointer (some ⟨b2, 0, none⟩)⟩]) [0, 0] (by kernel_rfl) (j := 4) rfl ?_
  refine GL_indexArr (i := 4) (ch := [(10, false)]) (b := b2) (off := 0) (len := 6) (sz := 1) (e := 3) (kd := .i64) (j := 0) rfl rfl (by kernel_rfl) (by kernel_rfl) (by kernel_rfl) (by kernel_rfl) (by kernel_rfl) (by kernel_rfl) (by kernel_rfl) (fun _ => ⟨by decide, by decide⟩) ?_
  refine GL_load (i := 5) (ch := [(10, false)]) (b := b2) (off := 0) (v := .int .i64 y) rfl rfl (by kernel_rfl) (by kernel_rfl) (by kernel_rfl) (by kernel_rfl) (by kernel_rfl) (At.grp 0 0 rfl rfl) rfl ?_
  refine GL_pure (E' := [⟨15, [], .bool ((decide (y < 1)) || (decide (y > 9999)))⟩, ⟨14, [], .bool ((decide (y < 1)) || (decide (y > 9999)))⟩, ⟨13, [(10, false)], .bool (decide (y > 9999))⟩, ⟨12, [(10, false)], .int .i64 y⟩, ⟨11, [(10, false)], .pointer (some ⟨b2, 0, none⟩)⟩, ⟨10, [], .bool (decide (y < 1))⟩, ⟨9, [], .bool (decide (y < 1))⟩, ⟨8, [], .int .i64 y⟩, ⟨7, [], .pointer (some ⟨b2, 0, none⟩)⟩, ⟨1, [], .pointer (some ⟨b1, 0, none⟩)⟩, ⟨4, [], .pointer (some ⟨b2, 0, none⟩)⟩]) [0, 5, 0] (by kernel_rfl) (j := 9) rfl ?_
  refine GL_indexArr (i := 9) (ch := [(15, false)]) (b := b2) (off := 0) (len := 6) (sz := 1) (e := 3) (kd := .i64) (j := 1) rfl rfl (by kernel_rfl) (by kernel_rfl) (by kernel_rfl) (by kernel_rfl) (by kernel_rfl) (by kernel_rfl) (by kernel_rfl) (fun _ => ⟨by decide, by decide⟩) ?_
  refine GL_load (i := 10) (ch := [(15, false)]) (b := b2) (off := 1) (v := .int .i64 mo) rfl rfl (by kernel_rfl) (by kernel_rfl) (by kernel_rfl) (by kernel_rfl) (by kernel_rfl) (At.grp 0 0 rfl rfl) rfl ?_
  refine GL_pure (E' := [⟨20, [], .bool (((decide (y < 1)) || (decide (y > 9999))) || (decide (mo < 1)))⟩, ⟨19, [], .bool (((decide (y < 1)) || (decide (y > 9999))) || (decide (mo < 1)))⟩, ⟨18, [(15, false)], .bool (decide (mo < 1))⟩, ⟨17, [(15, false)], .int .i64 mo⟩, ⟨16, [(15, false)], .pointer (some ⟨b2, 1, none⟩)⟩, ⟨15, [], .bool ((decide (y < 1)) || (decide (y > 9999)))⟩, ⟨14, [], .bool ((decide (y < 1)) || (decide (y > 9999)))⟩, ⟨13, [(10, false)], .bool (decide (y > 9999))⟩, ⟨12, [(10, false)], .int .i64 y⟩, ⟨11, [(10, false)], .pointer (some ⟨b2, 0, none⟩)⟩, ⟨10, [], .bool (decide (y < 1))⟩, ⟨9, [], .bool (decide (y < 1))⟩, ⟨8, [], .int .i64 y⟩, ⟨7, [], .pointer (some ⟨b2, 0, none⟩)⟩, ⟨1, [], .pointer (some ⟨b1, 0, none⟩)⟩, ⟨4, [], .pointer (some ⟨b2, 0, none⟩)⟩]) [0, 5, 0] (by kernel_rfl) (j := 14) rfl ?_
  refine GL_indexArr (i := 14) (ch := [(20, false)]) (b := b2) (off := 0) (len := 6) (sz := 1) (e := 3) (kd := .i64) (j := 1) rfl rfl (by kernel_rfl) (by kernel_rfl) (by kernel_rfl) (by kernel_rfl) (by kernel_rfl) (by kernel_rfl) (by kernel_rfl) (fun _ => ⟨by decide, by decide⟩) ?_
  refine GL_load (i := 15) (ch := [(20, false)]) (b := b2) (off := 1) (v := .int .i64 mo) rfl rfl (by kernel_rfl) (by kernel_rfl) (by kernel_rfl) (by kernel_rfl) (by kernel_rfl) (At.grp 0 0 rfl rfl) rfl ?_
  refine GL_pure (E' := [⟨25, [], .bool ((((decide (y < 1)) || (decide (y > 9999))) || (decide (mo < 1))) || (decide (mo > 12)))⟩, ⟨24, [], .bool ((((decide (y < 1)) || (decide (y > 9999))) || (decide (mo < 1))) || (decide (mo > 12)))⟩, ⟨23, [(20, false)], .bool (decide (mo > 12))⟩, ⟨22, [(20, false)], .int .i64 mo⟩, ⟨21, [(20, false)], .pointer (some ⟨b2, 1, none⟩)⟩, ⟨20, [], .bool (((decide (y < 1)) || (decide (y > 9999))) || (decide (mo < 1)))⟩, ⟨19, [], .bool (((decide (y < 1)) || (decide (y > 9999))) || (decide (mo < 1)))⟩, ⟨18, [(15, false)], .bool (decide (mo < 1))⟩, ⟨17, [(15, false)], .int .i64 mo⟩, ⟨16, [(15, false)], .pointer (some ⟨b2, 1, none⟩)⟩, ⟨15, [], .bool ((decide (y < 1)) || (decide (y > 9999)))⟩, ⟨14, [], .bool ((decide (y < 1)) || (decide (y > 9999)))⟩, ⟨13, [(10, false)], .bool (decide (y > 9999))⟩, ⟨12, [(10, false)], .int .i64 y⟩, ⟨11, [(10, false)], .pointer (some ⟨b2, 0, none⟩)⟩, ⟨10, [], .bool (decide (y < 1))⟩, ⟨9, [], .bool (decide (y < 1))⟩, ⟨8, [], .int .i64 y⟩, ⟨7, [], .pointer (some ⟨b2, 0, none⟩)⟩, ⟨1, [], .pointer (some ⟨b1, 0, none⟩)⟩, ⟨4, [], .pointer (some ⟨b2, 0, none⟩)⟩]) [0, 5, 0] (by kernel_rfl) (j := 19) rfl ?_
  refine GL_indexArr (i := 19) (ch := [(25, false)]) (b := b2) (off := 0) (len := 6) (sz := 1) (e := 3) (kd := .i64) (j := 2) rfl rfl (by kernel_rfl) (by kernel_rfl) (by kernel_rfl) (by kernel_rfl) (by kernel_rfl) (by kernel_rfl) (by kernel_rfl) (fun _ => ⟨by decide, by decide⟩) ?_
  refine GL_load (i := 20) (ch := [(25, false)]) (b := b2) (off := 2) (v := .int .i64 d) rfl rfl (by kernel_rfl) (by kernel_rfl) (by kernel_rfl) (by kernel_rfl) (by kernel_rfl) (At.grp 0 0 rfl rfl) rfl ?_
  refine GL_pure (E' := [⟨30, [], .bool (((((decide (y < 1)) || (decide (y > 9999))) || (decide (mo < 1))) || (decide (mo > 12))) || (decide (d < 1)))⟩, ⟨29, [], .bool (((((decide (y < 1)) || (decide (y > 9999))) || (decide (mo < 1))) || (decide (mo > 12))) || (decide (d < 1)))⟩, ⟨28, [(25, false)], .bool (decide (d < 1))⟩, ⟨27, [(25, false)], .int .i64 d⟩, ⟨26, [(25, false)], .pointer (some ⟨b2, 2, none⟩)⟩, ⟨25, [], .bool ((((decide (y < 1)) || (decide (y > 9999))) || (decide (mo < 1))) || (decide (mo > 12)))⟩, ⟨24, [], .bool ((((decide (y < 1)) || (decide (y > 9999))) || (decide (mo < 1))) || (decide (mo > 12)))⟩, ⟨23, [(20, false)], .bool (decide (mo > 12))⟩, ⟨22, [(20, false)], .int .i64 mo⟩, ⟨21, [(20, false)], .pointer (some ⟨b2, 1, none⟩)⟩, ⟨20, [], .bool (((decide (y < 1)) || (decide (y > 9999))) || (decide (mo < 1)))⟩, ⟨19, [], .bool (((decide (y < 1)) || (decide (y > 9999))) || (decide (mo < 1)))⟩, ⟨18, [(15, false)], .bool (decide (mo < 1))⟩, ⟨17, [(15, false)], .int .i64 mo⟩, ⟨16, [(15, false)], .pointer (some ⟨b2, 1, none⟩)⟩, ⟨15, [], .bool ((decide (y < 1)) || (decide (y > 9999)))⟩, ⟨14, [], .bool ((decide (y < 1)) || (decide (y > 9999)))⟩, ⟨13, [(10, false)], .bool (decide (y > 9999))⟩, ⟨12, [(10, false)], .int .i64 y⟩, ⟨11, [(10, false)], .pointer (some ⟨b2, 0, none⟩)⟩, ⟨10, [], .bool (decide (y < 1))⟩, ⟨9, [], .bool (decide (y < 1))⟩, ⟨8, [], .int .i64 y⟩, ⟨7, [], .pointer (some ⟨b2, 0, none⟩)⟩, ⟨1, [], .pointer (some ⟨b1, 0, none⟩)⟩, ⟨4, [], .pointer (some ⟨b2, 0, none⟩)⟩]) [0, 5, 0] (by kernel_rfl) (j := 24) rfl ?_
  refine GL_indexArr (i := 24) (ch := [(30, false)]) (b := b2) (off := 0) (len := 6) (sz := 1) (e := 3) (kd := .i64) (j := 2) rfl rfl (by kernel_rfl) (by kernel_rfl) (by kernel_rfl) (by kernel_rfl) (by kernel_rfl) (by kernel_rfl) (by kernel_rfl) (fun _ => ⟨by decide, by decide⟩) ?_
  refine GL_load (i := 25) (ch := [(30, false)]) (b := b2) (off := 2) (v := .int .i64 d) rfl rfl (by kernel_rfl) (by kernel_rfl) (by kernel_rfl) (by kernel_rfl) (by kernel_rfl) (At.grp 0 0 rfl rfl) rfl ?_
  refine GL_indexArr (i := 26) (ch := [(30, false)]) (b := b2) (off := 0) (len := 6) (sz := 1) (e := 3) (kd := .i64) (j := 0) rfl rfl (by kernel_rfl) (by kernel_rfl) (by kernel_rfl) (by kernel_rfl) (by kernel_rfl) (by kernel_rfl) (by kernel_rfl) (fun _ => ⟨by decide, by decide⟩) ?_
  refine GL_load (i := 27) (ch := [(30, false)]) (b := b2) (off := 0) (v := .int .i64 y) rfl rfl (by kernel_rfl) (by kernel_rfl) (by kernel_rfl) (by kernel_rfl) (by kernel_rfl) (At.grp 0 0 rfl rfl) rfl ?_
  refine GL_indexArr (i := 28) (ch := [(30, false)]) (b := b2) (off := 0) (len := 6) (sz := 1) (e := 3) (kd := .i64) (j := 1) rfl rfl (by kernel_rfl) (by kernel_rfl) (by kernel_rfl) (by kernel_rfl) (by kernel_rfl) (by kernel_rfl) (by kernel_rfl) (fun _ => ⟨by decide, by decide⟩) ?_
  refine GL_load (i := 29) (ch := [(30, false)]) (b := b2) (off := 1) (v := .int .i64 mo) rfl rfl (by kernel_rfl) (by kernel_rfl) (by kernel_rfl) (by kernel_rfl) (by kernel_rfl) (At.grp 0 0 rfl rfl) rfl ?_
  refine GL_callQ (i := 30) (ch := [(30, false)]) (f := 32) (fst := #[]) (caps := #[]) (vs := [.int .i64 y, .int .i64 mo]) (v := .int .i64 (mlen y mo)) rfl rfl rfl (by kernel_rfl) (by kernel_rfl) Tryz.func32 rfl rfl (by kernel_rfl) (by kernel_rfl) (by kernel_rfl) (fun hc => refLength _ _ (by have hg0 := chB_hd (t := 30) (c := []) (b := ((((decide (y < 1)) || (decide (y > 9999))) || (decide (mo < 1))) || (decide (mo > 12))) || (decide (d < 1))) hc (by kernel_rfl); (try simp at hg0); omega) (by have hg0 := chB_hd (t := 30) (c := []) (b := ((((decide (y < 1)) || (decide (y > 9999))) || (decide (mo < 1))) || (decide (mo > 12))) || (decide (d < 1))) hc (by kernel_rfl); (try simp at hg0); omega) (by have hg0 := chB_hd (t := 30) (c := []) (b := ((((decide (y < 1)) || (decide (y > 9999))) || (decide (mo < 1))) || (decide (mo > 12))) || (decide (d < 1))) hc (by kernel_rfl); (try simp at hg0); omega) _ _) ?_
  refine GL_pure (E' := [⟨40, [], .bool ((((((decide (y < 1)) || (decide (y > 9999))) || (decide (mo < 1))) || (decide (mo > 12))) || (decide (d < 1))) || (decide (d > (mlen y mo))))⟩, ⟨39, [], .bool ((((((decide (y < 1)) || (decide (y > 9999))) || (decide (mo < 1))) || (decide (mo > 12))) || (decide (d < 1))) || (decide (d > (mlen y mo))))⟩, ⟨38, [(30, false)], .bool (decide (d > (mlen y mo)))⟩, ⟨37, [(30, false)], .int .i64 (mlen y mo)⟩, ⟨36, [(30, false)], .int .i64 mo⟩, ⟨35, [(30, false)], .pointer (some ⟨b2, 1, none⟩)⟩, ⟨34, [(30, false)], .int .i64 y⟩, ⟨33, [(30, false)], .pointer (some ⟨b2, 0, none⟩)⟩, ⟨32, [(30, false)], .int .i64 d⟩, ⟨31, [(30, false)], .pointer (some ⟨b2, 2, none⟩)⟩, ⟨30, [], .bool (((((decide (y < 1)) || (decide (y > 9999))) || (decide (mo < 1))) || (decide (mo > 12))) || (decide (d < 1)))⟩, ⟨29, [], .bool (((((decide (y < 1)) || (decide (y > 9999))) || (decide (mo < 1))) || (decide (mo > 12))) || (decide (d < 1)))⟩, ⟨28, [(25, false)], .bool (decide (d < 1))⟩, ⟨27, [(25, false)], .int .i64 d⟩, ⟨26, [(25, false)], .pointer (some ⟨b2, 2, none⟩)⟩, ⟨25, [], .bool ((((decide (y < 1)) || (decide (y > 9999))) || (decide (mo < 1))) || (decide (mo > 12)))⟩, ⟨24, [], .bool ((((decide (y < 1)) || (decide (y > 9999))) || (decide (mo < 1))) || (decide (mo > 12)))⟩, ⟨23, [(20, false)], .bool (decide (mo > 12))⟩, ⟨22, [(20, false)], .int .i64 mo⟩, ⟨21, [(20, false)], .pointer (some ⟨b2, 1, none⟩)⟩, ⟨20, [], .bool (((decide (y < 1)) || (decide (y > 9999))) || (decide (mo < 1)))⟩, ⟨19, [], .bool (((decide (y < 1)) || (decide (y > 9999))) || (decide (mo < 1)))⟩, ⟨18, [(15, false)], .bool (decide (mo < 1))⟩, ⟨17, [(15, false)], .int .i64 mo⟩, ⟨16, [(15, false)], .pointer (some ⟨b2, 1, none⟩)⟩, ⟨15, [], .bool ((decide (y < 1)) || (decide (y > 9999)))⟩, ⟨14, [], .bool ((decide (y < 1)) || (decide (y > 9999)))⟩, ⟨13, [(10, false)], .bool (decide (y > 9999))⟩, ⟨12, [(10, false)], .int .i64 y⟩, ⟨11, [(10, false)], .pointer (some ⟨b2, 0, none⟩)⟩, ⟨10, [], .bool (decide (y < 1))⟩, ⟨9, [], .bool (decide (y < 1))⟩, ⟨8, [], .int .i64 y⟩, ⟨7, [], .pointer (some ⟨b2, 0, none⟩)⟩, ⟨1, [], .pointer (some ⟨b1, 0, none⟩)⟩, ⟨4, [], .pointer (some ⟨b2, 0, none⟩)⟩]) [0, 5, 0] (by kernel_rfl) (j := 34) rfl ?_
  refine GL_indexArr (i := 34) (ch := [(40, false)]) (b := b2) (off := 0) (len := 6) (sz := 1) (e := 3) (kd := .i64) (j := 3) rfl rfl (by kernel_rfl) (by kernel_rfl) (by kernel_rfl) (by kernel_rfl) (by kernel_rfl) (by kernel_rfl) (by kernel_rfl) (fun _ => ⟨by decide, by decide⟩) ?_
  refine GL_load (i := 35) (ch := [(40, false)]) (b := b2) (off := 3) (v := .int .i64 h) rfl rfl (by kernel_rfl) (by kernel_rfl) (by kernel_rfl) (by kernel_rfl) (by kernel_rfl) (At.grp 0 0 rfl rfl) rfl ?_
  refine GL_pure (E' := [⟨45, [], .bool (((((((decide (y < 1)) || (decide (y > 9999))) || (decide (mo < 1))) || (decide (mo > 12))) || (decide (d < 1))) || (decide (d > (mlen y mo)))) || (decide (h > 23)))⟩, ⟨44, [], .bool (((((((decide (y < 1)) || (decide (y > 9999))) || (decide (mo < 1))) || (decide (mo > 12))) || (decide (d < 1))) || (decide (d > (mlen y mo)))) || (decide (h > 23)))⟩, ⟨43, [(40, false)], .bool (decide (h > 23))⟩, ⟨42, [(40, false)], .int .i64 h⟩, ⟨41, [(40, false)], .pointer (some ⟨b2, 3, none⟩)⟩, ⟨40, [], .bool ((((((decide (y < 1)) || (decide (y > 9999))) || (decide (mo < 1))) || (decide (mo > 12))) || (decide (d < 1))) || (decide (d > (mlen y mo))))⟩, ⟨39, [], .bool ((((((decide (y < 1)) || (decide (y > 9999))) || (decide (mo < 1))) || (decide (mo > 12))) || (decide (d < 1))) || (decide (d > (mlen y mo))))⟩, ⟨38, [(30, false)], .bool (decide (d > (mlen y mo)))⟩, ⟨37, [(30, false)], .int .i64 (mlen y mo)⟩, ⟨36, [(30, false)], .int .i64 mo⟩, ⟨35, [(30, false)], .pointer (some ⟨b2, 1, none⟩)⟩, ⟨34, [(30, false)], .int .i64 y⟩, ⟨33, [(30, false)], .pointer (some ⟨b2, 0, none⟩)⟩, ⟨32, [(30, false)], .int .i64 d⟩, ⟨31, [(30, false)], .pointer (some ⟨b2, 2, none⟩)⟩, ⟨30, [], .bool (((((decide (y < 1)) || (decide (y > 9999))) || (decide (mo < 1))) || (decide (mo > 12))) || (decide (d < 1)))⟩, ⟨29, [], .bool (((((decide (y < 1)) || (decide (y > 9999))) || (decide (mo < 1))) || (decide (mo > 12))) || (decide (d < 1)))⟩, ⟨28, [(25, false)], .bool (decide (d < 1))⟩, ⟨27, [(25, false)], .int .i64 d⟩, ⟨26, [(25, false)], .pointer (some ⟨b2, 2, none⟩)⟩, ⟨25, [], .bool ((((decide (y < 1)) || (decide (y > 9999))) || (decide (mo < 1))) || (decide (mo > 12)))⟩, ⟨24, [], .bool ((((decide (y < 1)) || (decide (y > 9999))) || (decide (mo < 1))) || (decide (mo > 12)))⟩, ⟨23, [(20, false)], .bool (decide (mo > 12))⟩, ⟨22, [(20, false)], .int .i64 mo⟩, ⟨21, [(20, false)], .pointer (some ⟨b2, 1, none⟩)⟩, ⟨20, [], .bool (((decide (y < 1)) || (decide (y > 9999))) || (decide (mo < 1)))⟩, ⟨19, [], .bool (((decide (y < 1)) || (decide (y > 9999))) || (decide (mo < 1)))⟩, ⟨18, [(15, false)], .bool (decide (mo < 1))⟩, ⟨17, [(15, false)], .int .i64 mo⟩, ⟨16, [(15, false)], .pointer (some ⟨b2, 1, none⟩)⟩, ⟨15, [], .bool ((decide (y < 1)) || (decide (y > 9999)))⟩, ⟨14, [], .bool ((decide (y < 1)) || (decide (y > 9999)))⟩, ⟨13, [(10, false)], .bool (decide (y > 9999))⟩, ⟨12, [(10, false)], .int .i64 y⟩, ⟨11, [(10, false)], .pointer (some ⟨b2, 0, none⟩)⟩, ⟨10, [], .bool (decide (y < 1))⟩, ⟨9, [], .bool (decide (y < 1))⟩, ⟨8, [], .int .i64 y⟩, ⟨7, [], .pointer (some ⟨b2, 0, none⟩)⟩, ⟨1, [], .pointer (some ⟨b1, 0, none⟩)⟩, ⟨4, [], .pointer (some ⟨b2, 0, none⟩)⟩]) [0, 5, 0] (by kernel_rfl) (j := 39) rfl ?_
  refine GL_indexArr (i := 39) (ch := [(45, false)]) (b := b2) (off := 0) (len := 6) (sz := 1) (e := 3) (kd := .i64) (j := 4) rfl rfl (by kernel_rfl) (by kernel_rfl) (by kernel_rfl) (by kernel_rfl) (by kernel_rfl) (by kernel_rfl) (by kernel_rfl) (fun _ => ⟨by decide, by decide⟩) ?_
  refine GL_load (i := 40) (ch := [(45, false)]) (b := b2) (off := 4) (v := .int .i64 mi) rfl rfl (by kernel_rfl) (by kernel_rfl) (by kernel_rfl) (by kernel_rfl) (by kernel_rfl) (At.grp 0 0 rfl rfl) rfl ?_
  refine GL_pure (E' := [⟨50, [], .bool ((((((((decide (y < 1)) || (decide (y > 9999))) || (decide (mo < 1))) || (decide (mo > 12))) || (decide (d < 1))) || (decide (d > (mlen y mo)))) || (decide (h > 23))) || (decide (mi > 59)))⟩, ⟨49, [], .bool ((((((((decide (y < 1)) || (decide (y > 9999))) || (decide (mo < 1))) || (decide (mo > 12))) || (decide (d < 1))) || (decide (d > (mlen y mo)))) || (decide (h > 23))) || (decide (mi > 59)))⟩, ⟨48, [(45, false)], .bool (decide (mi > 59))⟩, ⟨47, [(45, false)], .int .i64 mi⟩, ⟨46, [(45, false)], .pointer (some ⟨b2, 4, none⟩)⟩, ⟨45, [], .bool (((((((decide (y < 1)) || (decide (y > 9999))) || (decide (mo < 1))) || (decide (mo > 12))) || (decide (d < 1))) || (decide (d > (mlen y mo)))) || (decide (h > 23)))⟩, ⟨44, [], .bool (((((((decide (y < 1)) || (decide (y > 9999))) || (decide (mo < 1))) || (decide (mo > 12))) || (decide (d < 1))) || (decide (d > (mlen y mo)))) || (decide (h > 23)))⟩, ⟨43, [(40, false)], .bool (decide (h > 23))⟩, ⟨42, [(40, false)], .int .i64 h⟩, ⟨41, [(40, false)], .pointer (some ⟨b2, 3, none⟩)⟩, ⟨40, [], .bool ((((((decide (y < 1)) || (decide (y > 9999))) || (decide (mo < 1))) || (decide (mo > 12))) || (decide (d < 1))) || (decide (d > (mlen y mo))))⟩, ⟨39, [], .bool ((((((decide (y < 1)) || (decide (y > 9999))) || (decide (mo < 1))) || (decide (mo > 12))) || (decide (d < 1))) || (decide (d > (mlen y mo))))⟩, ⟨38, [(30, false)], .bool (decide (d > (mlen y mo)))⟩, ⟨37, [(30, false)], .int .i64 (mlen y mo)⟩, ⟨36, [(30, false)], .int .i64 mo⟩, ⟨35, [(30, false)], .pointer (some ⟨b2, 1, none⟩)⟩, ⟨34, [(30, false)], .int .i64 y⟩, ⟨33, [(30, false)], .pointer (some ⟨b2, 0, none⟩)⟩, ⟨32, [(30, false)], .int .i64 d⟩, ⟨31, [(30, false)], .pointer (some ⟨b2, 2, none⟩)⟩, ⟨30, [], .bool (((((decide (y < 1)) || (decide (y > 9999))) || (decide (mo < 1))) || (decide (mo > 12))) || (decide (d < 1)))⟩, ⟨29, [], .bool (((((decide (y < 1)) || (decide (y > 9999))) || (decide (mo < 1))) || (decide (mo > 12))) || (decide (d < 1)))⟩, ⟨28, [(25, false)], .bool (decide (d < 1))⟩, ⟨27, [(25, false)], .int .i64 d⟩, ⟨26, [(25, false)], .pointer (some ⟨b2, 2, none⟩)⟩, ⟨25, [], .bool ((((decide (y < 1)) || (decide (y > 9999))) || (decide (mo < 1))) || (decide (mo > 12)))⟩, ⟨24, [], .bool ((((decide (y < 1)) || (decide (y > 9999))) || (decide (mo < 1))) || (decide (mo > 12)))⟩, ⟨23, [(20, false)], .bool (decide (mo > 12))⟩, ⟨22, [(20, false)], .int .i64 mo⟩, ⟨21, [(20, false)], .pointer (some ⟨b2, 1, none⟩)⟩, ⟨20, [], .bool (((decide (y < 1)) || (decide (y > 9999))) || (decide (mo < 1)))⟩, ⟨19, [], .bool (((decide (y < 1)) || (decide (y > 9999))) || (decide (mo < 1)))⟩, ⟨18, [(15, false)], .bool (decide (mo < 1))⟩, ⟨17, [(15, false)], .int .i64 mo⟩, ⟨16, [(15, false)], .pointer (some ⟨b2, 1, none⟩)⟩, ⟨15, [], .bool ((decide (y < 1)) || (decide (y > 9999)))⟩, ⟨14, [], .bool ((decide (y < 1)) || (decide (y > 9999)))⟩, ⟨13, [(10, false)], .bool (decide (y > 9999))⟩, ⟨12, [(10, false)], .int .i64 y⟩, ⟨11, [(10, false)], .pointer (some ⟨b2, 0, none⟩)⟩, ⟨10, [], .bool (decide (y < 1))⟩, ⟨9, [], .bool (decide (y < 1))⟩, ⟨8, [], .int .i64 y⟩, ⟨7, [], .pointer (some ⟨b2, 0, none⟩)⟩, ⟨1, [], .pointer (some ⟨b1, 0, none⟩)⟩, ⟨4, [], .pointer (some ⟨b2, 0, none⟩)⟩]) [0, 5, 0] (by kernel_rfl) (j := 44) rfl ?_
  refine GL_indexArr (i := 44) (ch := [(50, false)]) (b := b2) (off := 0) (len := 6) (sz := 1) (e := 3) (kd := .i64) (j := 5) rfl rfl (by kernel_rfl) (by kernel_rfl) (by kernel_rfl) (by kernel_rfl) (by kernel_rfl) (by kernel_rfl) (by kernel_rfl) (fun _ => ⟨by decide, by decide⟩) ?_
  refine GL_load (i := 45) (ch := [(50, false)]) (b := b2) (off := 5) (v := .int .i64 s) rfl rfl (by kernel_rfl) (by kernel_rfl) (by kernel_rfl) (by kernel_rfl) (by kernel_rfl) (At.grp 0 0 rfl rfl) rfl ?_
  refine GL_fin (E' := [⟨1, [], .pointer (some ⟨b1, 0, none⟩)⟩, ⟨4, [], .pointer (some ⟨b2, 0, none⟩)⟩, ⟨54, [], .bool (((((((((decide (y < 1)) || (decide (y > 9999))) || (decide (mo < 1))) || (decide (mo > 12))) || (decide (d < 1))) || (decide (d > (mlen y mo)))) || (decide (h > 23))) || (decide (mi > 59))) || (decide (s > 60)))⟩]) [0, 5] [1, 4, 54] rfl (by kernel_rfl) ?_
  refine N_then ?_
  refine G_cond (b := ((((((((decide (y < 1)) || (decide (y > 9999))) || (decide (mo < 1))) || (decide (mo > 12))) || (decide (d < 1))) || (decide (d > (mlen y mo)))) || (decide (h > 23))) || (decide (mi > 59))) || (decide (s > 60))) (by kernel_rfl) (fun hc3 => ?_) (fun hc3 => ?_)
  ·
    have hn := time_no (off := off) hc3
    refine G_seq ?_
    refine G_pure (E' := [⟨2, [], .int .i64 0⟩, ⟨3, [], .bool false⟩]) [0, 0] [2, 3] rfl (by kernel_rfl) ?_
    refine N_then ?_
    refine G_ret ?_
    refine N_then_ret ?_
    refine N_heap (H' := ([(b2, .cells #[.int .i64 y, .int .i64 mo, .int .i64 d, .int .i64 h, .int .i64 mi, .int .i64 s] 29 (0, 0))] :: H)) (fun w h => h.erase 1) ?_
    refine N_heap (H' := H) (fun w h => h.erase 0) ?_
    refine N_ret [.tmp 2, .tmp 3] [.int .i64 0, .bool false] rfl (by kernel_rfl) rfl ?_
    exact ⟨by rw [hn]; rfl, rfl⟩
  ·
    obtain ⟨hf1, hf2, hf3, hf4, hf5, hf6, hf7, hf8, hf9⟩ := time_yes hc3
    have hmn := mlen_bd y mo
    have hdb := dayN_bd hf1 hf2 hf3 hf4 hf5 (by omega)
    refine G_skip ?_
    refine N_then ?_
    refine G_seq ?_
    refine G_regionD (by kernel_rfl) (by kernel_rfl) ?_
    refine GL_indexArr (i := 0) (ch := []) (b := b2) (off := 0) (len := 6) (sz := 1) (e := 3) (kd := .i64) (j := 0) rfl rfl (by kernel_rfl) (by kernel_rfl) (by kernel_rfl) (by kernel_rfl) (by kernel_rfl) (by kernel_rfl) (by kernel_rfl) (fun _ => ⟨by decide, by decide⟩) ?_
    refine GL_load (i := 1) (ch := []) (b := b2) (off := 0) (v := .int .i64 y) rfl rfl (by kernel_rfl) (by kernel_rfl) (by kernel_rfl) (by kernel_rfl) (by kernel_rfl) (At.grp 0 0 rfl rfl) rfl ?_
    refine GL_indexArr (i := 2) (ch := []) (b := b2) (off := 0) (len := 6) (sz := 1) (e := 3) (kd := .i64) (j := 1) rfl rfl (by kernel_rfl) (by kernel_rfl) (by kernel_rfl) (by kernel_rfl) (by kernel_rfl) (by kernel_rfl) (by kernel_rfl) (fun _ => ⟨by decide, by decide⟩) ?_
    refine GL_load (i := 3) (ch := []) (b := b2) (off := 1) (v := .int .i64 mo) rfl rfl (by kernel_rfl) (by kernel_rfl) (by kernel_rfl) (by kernel_rfl) (by kernel_rfl) (At.grp 0 0 rfl rfl) rfl ?_
    refine GL_indexArr (i := 4) (ch := []) (b := b2) (off := 0) (len := 6) (sz := 1) (e := 3) (kd := .i64) (j := 2) rfl rfl (by kernel_rfl) (by kernel_rfl) (by kernel_rfl) (by kernel_rfl) (by kernel_rfl) (by kernel_rfl) (by kernel_rfl) (fun _ => ⟨by decide, by decide⟩) ?_
    refine GL_load (i := 5) (ch := []) (b := b2) (off := 2) (v := .int .i64 d) rfl rfl (by kernel_rfl) (by kernel_rfl) (by kernel_rfl) (by kernel_rfl) (by kernel_rfl) (At.grp 0 0 rfl rfl) rfl ?_
    refine GL_callQ (i := 6) (ch := []) (f := 41) (fst := #[]) (caps := #[]) (vs := [.int .i64 y, .int .i64 mo, .int .i64 d]) (v := .int .i64 (dayN y mo d)) rfl rfl rfl (by kernel_rfl) (by kernel_rfl) Tryz.func41 rfl rfl (by kernel_rfl) (by kernel_rfl) (by kernel_rfl) (fun _ => refDays _ _ _ (by omega) (by omega) (by omega) (by omega) (by omega) (by omega) _ _) ?_
    have hw4 : IntKind.wrap .i64 (86400 * (dayN y mo d)) = 86400 * (dayN y mo d) := w64 (by omega) (by omega)
    refine GL_pure (E' := [⟨62, [], .int .i64 (86400 * (dayN y mo d))⟩, ⟨61, [], .int .i64 (dayN y mo d)⟩, ⟨60, [], .int .i64 d⟩, ⟨59, [], .pointer (some ⟨b2, 2, none⟩)⟩, ⟨58, [], .int .i64 mo⟩, ⟨57, [], .pointer (some ⟨b2, 1, none⟩)⟩, ⟨56, [], .int .i64 y⟩, ⟨55, [], .pointer (some ⟨b2, 0, none⟩)⟩, ⟨1, [], .pointer (some ⟨b1, 0, none⟩)⟩, ⟨4, [], .pointer (some ⟨b2, 0, none⟩)⟩, ⟨54, [], .bool (((((((((decide (y < 1)) || (decide (y > 9999))) || (decide (mo < 1))) || (decide (mo > 12))) || (decide (d < 1))) || (decide (d > (mlen y mo)))) || (decide (h > 23))) || (decide (mi > 59))) || (decide (s > 60)))⟩]) [0] (Eq.trans (b := some [⟨62, [], .int .i64 (IntKind.wrap .i64 (86400 * (dayN y mo d)))⟩, ⟨61, [], .int .i64 (dayN y mo d)⟩, ⟨60, [], .int .i64 d⟩, ⟨59, [], .pointer (some ⟨b2, 2, none⟩)⟩, ⟨58, [], .int .i64 mo⟩, ⟨57, [], .pointer (some ⟨b2, 1, none⟩)⟩, ⟨56, [], .int .i64 y⟩, ⟨55, [], .pointer (some ⟨b2, 0, none⟩)⟩, ⟨1, [], .pointer (some ⟨b1, 0, none⟩)⟩, ⟨4, [], .pointer (some ⟨b2, 0, none⟩)⟩, ⟨54, [], .bool (((((((((decide (y < 1)) || (decide (y > 9999))) || (decide (mo < 1))) || (decide (mo > 12))) || (decide (d < 1))) || (decide (d > (mlen y mo)))) || (decide (h > 23))) || (decide (mi > 59))) || (decide (s > 60)))⟩]) (by kernel_rfl) (by simp only [hw4])) (j := 8) rfl ?_
    refine GL_indexArr (i := 8) (ch := []) (b := b2) (off := 0) (len := 6) (sz := 1) (e := 3) (kd := .i64) (j := 3) rfl rfl (by kernel_rfl) (by kernel_rfl) (by kernel_rfl) (by kernel_rfl) (by kernel_rfl) (by kernel_rfl) (by kernel_rfl) (fun _ => ⟨by decide, by decide⟩) ?_
    refine GL_load (i := 9) (ch := []) (b := b2) (off := 3) (v := .int .i64 h) rfl rfl (by kernel_rfl) (by kernel_rfl) (by kernel_rfl) (by kernel_rfl) (by kernel_rfl) (At.grp 0 0 rfl rfl) rfl ?_
    have hw5 : IntKind.wrap .i64 (3600 * h) = 3600 * h := w64 (by omega) (by omega)
    have hw6 : IntKind.wrap .i64 ((86400 * (dayN y mo d)) + (3600 * h)) = (86400 * (dayN y mo d)) + (3600 * h) := w64 (by omega) (by omega)
    refine GL_pure (E' := [⟨66, [], .int .i64 ((86400 * (dayN y mo d)) + (3600 * h))⟩, ⟨65, [], .int .i64 (3600 * h)⟩, ⟨64, [], .int .i64 h⟩, ⟨63, [], .pointer (some ⟨b2, 3, none⟩)⟩, ⟨62, [], .int .i64 (86400 * (dayN y mo d))⟩, ⟨61, [], .int .i64 (dayN y mo d)⟩, ⟨60, [], .int .i64 d⟩, ⟨59, [], .pointer (some ⟨b2, 2, none⟩)⟩, ⟨58, [], .int .i64 mo⟩, ⟨57, [], .pointer (some ⟨b2, 1, none⟩)⟩, ⟨56, [], .int .i64 y⟩, ⟨55, [], .pointer (some ⟨b2, 0, none⟩)⟩, ⟨1, [], .pointer (some ⟨b1, 0, none⟩)⟩, ⟨4, [], .pointer (some ⟨b2, 0, none⟩)⟩, ⟨54, [], .bool (((((((((decide (y < 1)) || (decide (y > 9999))) || (decide (mo < 1))) || (decide (mo > 12))) || (decide (d < 1))) || (decide (d > (mlen y mo)))) || (decide (h > 23))) || (decide (mi > 59))) || (decide (s > 60)))⟩]) [0, 0] (Eq.trans (b := some [⟨66, [], .int .i64 (IntKind.wrap .i64 ((86400 * (dayN y mo d)) + (IntKind.wrap .i64 (3600 * h))))⟩, ⟨65, [], .int .i64 (IntKind.wrap .i64 (3600 * h))⟩, ⟨64, [], .int .i64 h⟩, ⟨63, [], .pointer (some ⟨b2, 3, none⟩)⟩, ⟨62, [], .int .i64 (86400 * (dayN y mo d))⟩, ⟨61, [], .int .i64 (dayN y mo d)⟩, ⟨60, [], .int .i64 d⟩, ⟨59, [], .pointer (some ⟨b2, 2, none⟩)⟩, ⟨58, [], .int .i64 mo⟩, ⟨57, [], .pointer (some ⟨b2, 1, none⟩)⟩, ⟨56, [], .int .i64 y⟩, ⟨55, [], .pointer (some ⟨b2, 0, none⟩)⟩, ⟨1, [], .pointer (some ⟨b1, 0, none⟩)⟩, ⟨4, [], .pointer (some ⟨b2, 0, none⟩)⟩, ⟨54, [], .bool (((((((((decide (y < 1)) || (decide (y > 9999))) || (decide (mo < 1))) || (decide (mo > 12))) || (decide (d < 1))) || (decide (d > (mlen y mo)))) || (decide (h > 23))) || (decide (mi > 59))) || (decide (s > 60)))⟩]) (by kernel_rfl) (by simp only [hw5, hw6])) (j := 12) rfl ?_
    refine GL_indexArr (i := 12) (ch := []) (b := b2) (off := 0) (len := 6) (sz := 1) (e := 3) (kd := .i64) (j := 4) rfl rfl (by kernel_rfl) (by kernel_rfl) (by kernel_rfl) (by kernel_rfl) (by kernel_rfl) (by kernel_rfl) (by kernel_rfl) (fun _ => ⟨by decide, by decide⟩) ?_
    refine GL_load (i := 13) (ch := []) (b := b2) (off := 4) (v := .int .i64 mi) rfl rfl (by kernel_rfl) (by kernel_rfl) (by kernel_rfl) (by kernel_rfl) (by kernel_rfl) (At.grp 0 0 rfl rfl) rfl ?_
    have hw7 : IntKind.wrap .i64 (60 * mi) = 60 * mi := w64 (by omega) (by omega)
    have hw8 : IntKind.wrap .i64 (((86400 * (dayN y mo d)) + (3600 * h)) + (60 * mi)) = ((86400 * (dayN y mo d)) + (3600 * h)) + (60 * mi) := w64 (by omega) (by omega)
    refine GL_pure (E' := [⟨70, [], .int .i64 (((86400 * (dayN y mo d)) + (3600 * h)) + (60 * mi))⟩, ⟨69, [], .int .i64 (60 * mi)⟩, ⟨68, [], .int .i64 mi⟩, ⟨67, [], .pointer (some ⟨b2, 4, none⟩)⟩, ⟨66, [], .int .i64 ((86400 * (dayN y mo d)) + (3600 * h))⟩, ⟨65, [], .int .i64 (3600 * h)⟩, ⟨64, [], .int .i64 h⟩, ⟨63, [], .pointer (some ⟨b2, 3, none⟩)⟩, ⟨62, [], .int .i64 (86400 * (dayN y mo d))⟩, ⟨61, [], .int .i64 (dayN y mo d)⟩, ⟨60, [], .int .i64 d⟩, ⟨59, [], .pointer (some ⟨b2, 2, none⟩)⟩, ⟨58, [], .int .i64 mo⟩, ⟨57, [], .pointer (some ⟨b2, 1, none⟩)⟩, ⟨56, [], .int .i64 y⟩, ⟨55, [], .pointer (some ⟨b2, 0, none⟩)⟩, ⟨1, [], .pointer (some ⟨b1, 0, none⟩)⟩, ⟨4, [], .pointer (some ⟨b2, 0, none⟩)⟩, ⟨54, [], .bool (((((((((decide (y < 1)) || (decide (y > 9999))) || (decide (mo < 1))) || (decide (mo > 12))) || (decide (d < 1))) || (decide (d > (mlen y mo)))) || (decide (h > 23))) || (decide (mi > 59))) || (decide (s > 60)))⟩]) [0, 0] (Eq.trans (b := some [⟨70, [], .int .i64 (IntKind.wrap .i64 (((86400 * (dayN y mo d)) + (3600 * h)) + (IntKind.wrap .i64 (60 * mi))))⟩, ⟨69, [], .int .i64 (IntKind.wrap .i64 (60 * mi))⟩, ⟨68, [], .int .i64 mi⟩, ⟨67, [], .pointer (some ⟨b2, 4, none⟩)⟩, ⟨66, [], .int .i64 ((86400 * (dayN y mo d)) + (3600 * h))⟩, ⟨65, [], .int .i64 (3600 * h)⟩, ⟨64, [], .int .i64 h⟩, ⟨63, [], .pointer (some ⟨b2, 3, none⟩)⟩, ⟨62, [], .int .i64 (86400 * (dayN y mo d))⟩, ⟨61, [], .int .i64 (dayN y mo d)⟩, ⟨60, [], .int .i64 d⟩, ⟨59, [], .pointer (some ⟨b2, 2, none⟩)⟩, ⟨58, [], .int .i64 mo⟩, ⟨57, [], .pointer (some ⟨b2, 1, none⟩)⟩, ⟨56, [], .int .i64 y⟩, ⟨55, [], .pointer (some ⟨b2, 0, none⟩)⟩, ⟨1, [], .pointer (some ⟨b1, 0, none⟩)⟩, ⟨4, [], .pointer (some ⟨b2, 0, none⟩)⟩, ⟨54, [], .bool (((((((((decide (y < 1)) || (decide (y > 9999))) || (decide (mo < 1))) || (decide (mo > 12))) || (decide (d < 1))) || (decide (d > (mlen y mo)))) || (decide (h > 23))) || (decide (mi > 59))) || (decide (s > 60)))⟩]) (by kernel_rfl) (by simp only [hw7, hw8])) (j := 16) rfl ?_
    refine GL_indexArr (i := 16) (ch := []) (b := b2) (off := 0) (len := 6) (sz := 1) (e := 3) (kd := .i64) (j := 5) rfl rfl (by kernel_rfl) (by kernel_rfl) (by kernel_rfl) (by kernel_rfl) (by kernel_rfl) (by kernel_rfl) (by kernel_rfl) (fun _ => ⟨by decide, by decide⟩) ?_
    refine GL_load (i := 17) (ch := []) (b := b2) (off := 5) (v := .int .i64 s) rfl rfl (by kernel_rfl) (by kernel_rfl) (by kernel_rfl) (by kernel_rfl) (by kernel_rfl) (At.grp 0 0 rfl rfl) rfl ?_
    have hw9 : IntKind.wrap .i64 ((((86400 * (dayN y mo d)) + (3600 * h)) + (60 * mi)) + (if 59 < s then 59 else s)) = (((86400 * (dayN y mo d)) + (3600 * h)) + (60 * mi)) + (if 59 < s then 59 else s) := w64 (by omega) (by omega)
    refine GL_pure (E' := [⟨75, [], .pointer (some ⟨b1, 6, none⟩)⟩, ⟨74, [], .int .i64 ((((86400 * (dayN y mo d)) + (3600 * h)) + (60 * mi)) + (if 59 < s then 59 else s))⟩, ⟨73, [], .int .i64 (if 59 < s then 59 else s)⟩, ⟨72, [], .int .i64 s⟩, ⟨71, [], .pointer (some ⟨b2, 5, none⟩)⟩, ⟨70, [], .int .i64 (((86400 * (dayN y mo d)) + (3600 * h)) + (60 * mi))⟩, ⟨69, [], .int .i64 (60 * mi)⟩, ⟨68, [], .int .i64 mi⟩, ⟨67, [], .pointer (some ⟨b2, 4, none⟩)⟩, ⟨66, [], .int .i64 ((86400 * (dayN y mo d)) + (3600 * h))⟩, ⟨65, [], .int .i64 (3600 * h)⟩, ⟨64, [], .int .i64 h⟩, ⟨63, [], .pointer (some ⟨b2, 3, none⟩)⟩, ⟨62, [], .int .i64 (86400 * (dayN y mo d))⟩, ⟨61, [], .int .i64 (dayN y mo d)⟩, ⟨60, [], .int .i64 d⟩, ⟨59, [], .pointer (some ⟨b2, 2, none⟩)⟩, ⟨58, [], .int .i64 mo⟩, ⟨57, [], .pointer (some ⟨b2, 1, none⟩)⟩, ⟨56, [], .int .i64 y⟩, ⟨55, [], .pointer (some ⟨b2, 0, none⟩)⟩, ⟨1, [], .pointer (some ⟨b1, 0, none⟩)⟩, ⟨4, [], .pointer (some ⟨b2, 0, none⟩)⟩, ⟨54, [], .bool (((((((((decide (y < 1)) || (decide (y > 9999))) || (decide (mo < 1))) || (decide (mo > 12))) || (decide (d < 1))) || (decide (d > (mlen y mo)))) || (decide (h > 23))) || (decide (mi > 59))) || (decide (s > 60)))⟩]) [0, 0, 0] (Eq.trans (b := some [⟨75, [], .pointer (some ⟨b1, 6, none⟩)⟩, ⟨74, [], .int .i64 (IntKind.wrap .i64 ((((86400 * (dayN y mo d)) + (3600 * h)) + (60 * mi)) + (if 59 < s then 59 else s)))⟩, ⟨73, [], .int .i64 (if 59 < s then 59 else s)⟩, ⟨72, [], .int .i64 s⟩, ⟨71, [], .pointer (some ⟨b2, 5, none⟩)⟩, ⟨70, [], .int .i64 (((86400 * (dayN y mo d)) + (3600 * h)) + (60 * mi))⟩, ⟨69, [], .int .i64 (60 * mi)⟩, ⟨68, [], .int .i64 mi⟩, ⟨67, [], .pointer (some ⟨b2, 4, none⟩)⟩, ⟨66, [], .int .i64 ((86400 * (dayN y mo d)) + (3600 * h))⟩, ⟨65, [], .int .i64 (3600 * h)⟩, ⟨64, [], .int .i64 h⟩, ⟨63, [], .pointer (some ⟨b2, 3, none⟩)⟩, ⟨62, [], .int .i64 (86400 * (dayN y mo d))⟩, ⟨61, [], .int .i64 (dayN y mo d)⟩, ⟨60, [], .int .i64 d⟩, ⟨59, [], .pointer (some ⟨b2, 2, none⟩)⟩, ⟨58, [], .int .i64 mo⟩, ⟨57, [], .pointer (some ⟨b2, 1, none⟩)⟩, ⟨56, [], .int .i64 y⟩, ⟨55, [], .pointer (some ⟨b2, 0, none⟩)⟩, ⟨1, [], .pointer (some ⟨b1, 0, none⟩)⟩, ⟨4, [], .pointer (some ⟨b2, 0, none⟩)⟩, ⟨54, [], .bool (((((((((decide (y < 1)) || (decide (y > 9999))) || (decide (mo < 1))) || (decide (mo > 12))) || (decide (d < 1))) || (decide (d > (mlen y mo)))) || (decide (h > 23))) || (decide (mi > 59))) || (decide (s > 60)))⟩]) (by kernel_rfl) (by simp only [hw9])) (j := 21) rfl ?_
    refine GL_load (i := 21) (ch := []) (b := b1) (off := 6) (v := .int .i64 off) rfl rfl (by kernel_rfl) (by kernel_rfl) (by kernel_rfl) (by kernel_rfl) (by kernel_rfl) (At.grp 1 0 rfl rfl) rfl ?_
    have hw10 : IntKind.wrap .i64 (((((86400 * (dayN y mo d)) + (3600 * h)) + (60 * mi)) + (if 59 < s then 59 else s)) - off) = ((((86400 * (dayN y mo d)) + (3600 * h)) + (60 * mi)) + (if 59 < s then 59 else s)) - off := w64 (by omega) (by omega)
    refine GL_fin (E' := [⟨2, [], .int .i64 (((((86400 * (dayN y mo d)) + (3600 * h)) + (60 * mi)) + (if 59 < s then 59 else s)) - off)⟩, ⟨3, [], .bool true⟩]) [0, 0, 0] [2, 3] rfl (Eq.trans (b := some [⟨2, [], .int .i64 (IntKind.wrap .i64 (((((86400 * (dayN y mo d)) + (3600 * h)) + (60 * mi)) + (if 59 < s then 59 else s)) - off))⟩, ⟨3, [], .bool true⟩]) (by kernel_rfl) (by simp only [hw10])) ?_
    refine N_then ?_
    refine G_ret ?_
    refine N_heap (H' := ([(b2, .cells #[.int .i64 y, .int .i64 mo, .int .i64 d, .int .i64 h, .int .i64 mi, .int .i64 s] 29 (0, 0))] :: H)) (fun w h => h.erase 1) ?_
    refine N_heap (H' := H) (fun w h => h.erase 0) ?_
    refine N_ret [.tmp 2, .tmp 3] [.int .i64 (((((86400 * (dayN y mo d)) + (3600 * h)) + (60 * mi)) + (if 59 < s then 59 else s)) - off), .bool true] rfl (by kernel_rfl) rfl ?_
    exact ⟨by rw [timeR_is (t := ((((86400 * (dayN y mo d)) + (3600 * h)) + (60 * mi)) + (if 59 < s then 59 else s)) - off) hf1 hf2 hf3 hf4 hf5 hf6 hf7 hf8 hf9 rfl]; rfl, rfl⟩

end Go.Proofs.YtlglmomimhbeaaaGreatDoor
