/- The walk of the law on the days of the week. The table of powers lies as laid. -/
import Derived.Test.YtlglmomimhbeaabDoorDi
import Derived.Test.YtlglmomimhbeaabDoorWk
namespace Go.Proofs.YtlglmomimhbeaabDoor
open Go.Sw Go.Lib Go.Cal Go.Scn


theorem dateWeeks_ (t : Int) (W0 : World) (hT : Tab W0) (H : List Grp) : Tri Tryd.prog 3 #[.int .i64 t] W0 H (fun v H' => v = .bool true ∧ H' = H) := by
  have hwt := wT_bd t
  refine Tri_of (args := [.int .i64 t]) (n := 46) Tryd.func3 rfl rfl (Nat.le_of_ble_eq_true rfl) ?_
  refine G_seq ?_
  refine G_pure (E' := [⟨0, [], .int .i64 t⟩]) [0] [0] rfl (by kernel_rfl) ?_
  refine N_then ?_
  refine G_seq ?_
  refine G_seq ?_
  refine G_region ?_
  refine GL_callQ (i := 0) (ch := []) (f := 4) (fst := #[]) (caps := #[]) (vs := []) (v := .bool true) rfl rfl rfl (by kernel_rfl) (by kernel_rfl) Tryd.func4 rfl rfl (by kernel_rfl) (by kernel_rfl) (by kernel_rfl) (fun _ => first_ _ hT _) ?_
  refine GL_fin (E' := [⟨0, [], .int .i64 t⟩, ⟨8, [], .bool false⟩]) [0] [0, 8] rfl (by kernel_rfl) ?_
  refine N_then ?_
  refine G_condf (by kernel_rfl) ?_
  refine G_skip ?_
  refine N_then ?_
  refine G_seq ?_
  refine G_region ?_
  refine GL_callQ (i := 0) (ch := []) (f := 5) (fst := #[]) (caps := #[]) (vs := []) (v := .int .i64 (-62135596800)) rfl rfl rfl (by kernel_rfl) (by kernel_rfl) Tryd.func5 rfl rfl (by kernel_rfl) (by kernel_rfl) (by kernel_rfl) (fun _ => refLow _ _) ?_
  refine GL_callQ (i := 1) (ch := []) (f := 6) (fst := #[]) (caps := #[]) (vs := []) (v := .int .i64 253402300799) rfl rfl rfl (by kernel_rfl) (by kernel_rfl) Tryd.func6 rfl rfl (by kernel_rfl) (by kernel_rfl) (by kernel_rfl) (fun _ => refHigh _ _) ?_
  have hw1 : IntKind.wrap .i64 (253402300799 - 691200) = 253402300799 - 691200 := w64 (by omega) (by omega)
  refine GL_fin (E' := [⟨3, [], .int .i64 (if (if t < (253402300799 - 691200) then t else (253402300799 - 691200)) > (-62135596800) then (if t < (253402300799 - 691200) then t else (253402300799 - 691200)) else (-62135596800))⟩]) [0, 0, 0, 0, 0] [3] rfl (Eq.trans (b := some [⟨3, [], .int .i64 (if (if t < (IntKind.wrap .i64 (253402300799 - 691200)) then t else (IntKind.wrap .i64 (253402300799 - 691200))) > (-62135596800) then (if t < (IntKind.wrap .i64 (253402300799 - 691200)) then t else (IntKind.wrap .i64 (253402300799 - 691200))) else (-62135596800))⟩]) (by kernel_rfl) (by simp only [hw1])) ?_
  refine N_env (E' := [⟨3, [], .int .i64 (wT t)⟩]) (by kernel_rfl) ?_
  refine N_then ?_
  refine G_seq ?_
  refine G_region ?_
  refine GL_alloc (i := 0) (ch := []) (z := .agg #[.string (ByteArray.mk #[]), .string (ByteArray.mk #[]), .string (ByteArray.mk #[]), .string (ByteArray.mk #[]), .string (ByteArray.mk #[]), .string (ByteArray.mk #[]), .string (ByteArray.mk #[])]) rfl rfl (by kernel_rfl) (by kernel_rfl) (by kernel_rfl) (by kernel_rfl) (fun b2 => ?_)
  refine GL_fin (E' := [⟨3, [], .int .i64 (wT t)⟩, ⟨4, [], .pointer (some ⟨b2, 0, none⟩)⟩]) [] [3, 4] rfl (by kernel_rfl) ?_
  refine N_then ?_
  refine G_seq ?_
  refine G_seq ?_
  refine G_pure (E' := [⟨3, [], .int .i64 (wT t)⟩, ⟨4, [], .pointer (some ⟨b2, 0, none⟩)⟩, ⟨15, [], .int .i64 0⟩]) [0] [3, 4, 15] rfl (by kernel_rfl) ?_
  refine N_then ?_
  refine G_block ?_
  refine G_loop (EI := (fun ξ : Nat => [⟨3, [], .int .i64 (wT t)⟩, ⟨4, [], .pointer (some ⟨b2, 0, none⟩)⟩, ⟨15, [], .int .i64 ((ξ : Nat) : Int)⟩])) (HI := (fun ξ : Nat => ([(b2, .cells (wkRow (wT t) ξ).toArray 24 (0, 0))] :: H))) (Φ := (fun ξ : Nat => (ξ ≤ 7))) (μ := (fun ξ : Nat => 7 - ξ)) (s0 := (0)) [3, 4, 15] (by kernel_rfl) (by kernel_rfl) (by omega) ?_
  rintro i hi
  refine G_seq ?_
  refine G_pure (E' := [⟨3, [], .int .i64 (wT t)⟩, ⟨4, [], .pointer (some ⟨b2, 0, none⟩)⟩, ⟨15, [], .int .i64 ((i : Nat) : Int)⟩, ⟨16, [], .bool (decide (((i : Nat) : Int) < 7))⟩]) [0] [3, 4, 15, 16] rfl (by kernel_rfl) ?_
  refine N_then ?_
  refine G_seq ?_
  refine G_cond (b := decide (((i : Nat) : Int) < 7)) (by kernel_rfl) (fun hc3 => ?_) (fun hc3 => ?_)
  ·
    simp at hc3
    refine G_skip ?_
    refine N_then ?_
    refine G_seq ?_
    refine G_block ?_
    refine G_seq ?_
    refine G_pure (E' := [⟨3, [], .int .i64 (wT t)⟩, ⟨4, [], .pointer (some ⟨b2, 0, none⟩)⟩, ⟨5, [], .int .i64 ((i : Nat) : Int)⟩, ⟨15, [], .int .i64 ((i : Nat) : Int)⟩]) [0, 0] [3, 4, 5, 15] rfl (by kernel_rfl) ?_
    refine N_then ?_
    refine G_seq ?_
    have hw4 : IntKind.wrap .i64 (((i : Nat) : Int) * 86400) = ((i : Nat) : Int) * 86400 := w64 (by omega) (by omega)
    have hw5 : IntKind.wrap .i64 ((wT t) + (((i : Nat) : Int) * 86400)) = (wT t) + (((i : Nat) : Int) * 86400) := w64 (by omega) (by omega)
    refine G_region ?_
    refine GL_pure (E' := [⟨22, [], .int .i64 ((wT t) + (((i : Nat) : Int) * 86400))⟩, ⟨21, [], .int .i64 (((i : Nat) : Int) * 86400)⟩, ⟨20, [], .int .i64 ((i : Nat) : Int)⟩, ⟨19, [], .int .i64 (wT t)⟩, ⟨18, [], .int .i64 ((i : Nat) : Int)⟩, ⟨3, [], .int .i64 (wT t)⟩, ⟨4, [], .pointer (some ⟨b2, 0, none⟩)⟩, ⟨5, [], .int .i64 ((i : Nat) : Int)⟩, ⟨15, [], .int .i64 ((i : Nat) : Int)⟩]) [0, 0, 0, 0, 0] (Eq.trans (b := some [⟨22, [], .int .i64 (IntKind.wrap .i64 ((wT t) + (IntKind.wrap .i64 (((i : Nat) : Int) * 86400))))⟩, ⟨21, [], .int .i64 (IntKind.wrap .i64 (((i : Nat) : Int) * 86400))⟩, ⟨20, [], .int .i64 ((i : Nat) : Int)⟩, ⟨19, [], .int .i64 (wT t)⟩, ⟨18, [], .int .i64 ((i : Nat) : Int)⟩, ⟨3, [], .int .i64 (wT t)⟩, ⟨4, [], .pointer (some ⟨b2, 0, none⟩)⟩, ⟨5, [], .int .i64 ((i : Nat) : Int)⟩, ⟨15, [], .int .i64 ((i : Nat) : Int)⟩]) (by kernel_rfl) (by simp only [hw4, hw5])) (j := 5) rfl ?_
    refine GL_callQ (i := 5) (ch := []) (f := 7) (fst := #[]) (caps := #[]) (vs := [.int .i64 ((wT t) + (((i : Nat) : Int) * 86400))]) (v := .string (printMailB ((wT t) + (((i : Nat) : Int) * 86400)))) rfl rfl rfl (by kernel_rfl) (by kernel_rfl) Tryd.func7 rfl rfl (by kernel_rfl) (by kernel_rfl) (by kernel_rfl) (fun _ => printMail_ _ _ hT _) ?_
    refine GL_sliceS (i := 6) (ch := []) (s := printMailB ((wT t) + (((i : Nat) : Int) * 86400))) (vl := none) (vh := (some (.int .i64 3))) (l := 0) (h := 3) rfl rfl (by kernel_rfl) (by kernel_rfl) (by kernel_rfl) (by kernel_rfl) (by kernel_rfl) (by kernel_rfl) (by kernel_rfl) (by kernel_rfl) (by kernel_rfl) (by have := mail_29 (wT t + ((i : Nat) : Int) * 86400); intro _; omega) ?_
    refine GL_indexArr (i := 7) (ch := []) (b := b2) (off := 0) (len := 7) (sz := 1) (e := 9) (kd := .i64) (j := ((i : Nat) : Int)) rfl rfl (by kernel_rfl) (by kernel_rfl) (by kernel_rfl) (by kernel_rfl) (by kernel_rfl) (by kernel_rfl) (by kernel_rfl) (fun _ => ⟨by omega, by omega⟩) ?_
    refine GL_store (i := 8) (ch := []) (b := b2) (off := 0 + Int.toNat ((i : Nat) : Int) * 1) (v := .string ((printMailB ((wT t) + (((i : Nat) : Int) * 86400))).extract 0 3)) (c := (wkRow (wT t) i).toArray) (c' := (wkRow (wT t) (i + 1)).toArray) (j := 0) (m := 0) (H' := ([(b2, .cells (wkRow (wT t) (i + 1)).toArray 24 (0, 0))] :: H)) rfl rfl (by kernel_rfl) (by kernel_rfl) (by kernel_rfl) (by kernel_rfl) (by kernel_rfl) (by kernel_rfl) (by kernel_rfl) rfl rfl (by rw [wkRow_size]; show 0 + Int.toNat _ * 1 + 1 ≤ 7; omega) (fun _ _ => thaw0) (wkRow_set (by omega)) rfl ?_
    refine GL_fin (E' := [⟨3, [], .int .i64 (wT t)⟩, ⟨4, [], .pointer (some ⟨b2, 0, none⟩)⟩, ⟨5, [], .int .i64 ((i : Nat) : Int)⟩, ⟨15, [], .int .i64 ((i : Nat) : Int)⟩]) [] [3, 4, 5, 15] rfl (by kernel_rfl) ?_
    refine N_then ?_
    refine G_seq ?_
    refine G_pure (E' := [⟨3, [], .int .i64 (wT t)⟩, ⟨4, [], .pointer (some ⟨b2, 0, none⟩)⟩, ⟨5, [], .int .i64 ((i : Nat) : Int)⟩, ⟨15, [], .int .i64 ((i : Nat) : Int)⟩, ⟨26, [], .int .i64 ((i : Nat) : Int)⟩, ⟨27, [], .int .i64 0⟩]) [0, 0] [3, 4, 5, 15, 26, 27] rfl (by kernel_rfl) ?_
    refine N_then ?_
    refine G_block ?_
    refine G_loop (EI := (fun ξ : Nat => [⟨3, [], .int .i64 (wT t)⟩, ⟨4, [], .pointer (some ⟨b2, 0, none⟩)⟩, ⟨5, [], .int .i64 ((i : Nat) : Int)⟩, ⟨15, [], .int .i64 ((i : Nat) : Int)⟩, ⟨26, [], .int .i64 ((i : Nat) : Int)⟩, ⟨27, [], .int .i64 ((ξ : Nat) : Int)⟩])) (HI := (fun ξ : Nat => ([(b2, .cells (wkRow (wT t) (i + 1)).toArray 24 (0, 0))] :: H))) (Φ := (fun ξ : Nat => (ξ ≤ i))) (μ := (fun ξ : Nat => i - ξ)) (s0 := (0)) [3, 4, 5, 15, 26, 27] (by kernel_rfl) rfl (by omega) ?_
    rintro k hk
    refine G_seq ?_
    refine G_pure (E' := [⟨3, [], .int .i64 (wT t)⟩, ⟨4, [], .pointer (some ⟨b2, 0, none⟩)⟩, ⟨5, [], .int .i64 ((i : Nat) : Int)⟩, ⟨15, [], .int .i64 ((i : Nat) : Int)⟩, ⟨26, [], .int .i64 ((i : Nat) : Int)⟩, ⟨27, [], .int .i64 ((k : Nat) : Int)⟩, ⟨28, [], .bool (decide (((k : Nat) : Int) < ((i : Nat) : Int)))⟩]) [0] [3, 4, 5, 15, 26, 27, 28] rfl (by kernel_rfl) ?_
    refine N_then ?_
    refine G_seq ?_
    refine G_cond (b := decide (((k : Nat) : Int) < ((i : Nat) : Int))) (by kernel_rfl) (fun hc6 => ?_) (fun hc6 => ?_)
    ·
      simp at hc6
      refine G_skip ?_
      refine N_then ?_
      refine G_seq ?_
      refine G_block ?_
      refine G_seq ?_
      refine G_pure (E' := [⟨3, [], .int .i64 (wT t)⟩, ⟨4, [], .pointer (some ⟨b2, 0, none⟩)⟩, ⟨5, [], .int .i64 ((i : Nat) : Int)⟩, ⟨6, [], .int .i64 ((k : Nat) : Int)⟩, ⟨15, [], .int .i64 ((i : Nat) : Int)⟩, ⟨26, [], .int .i64 ((i : Nat) : Int)⟩, ⟨27, [], .int .i64 ((k : Nat) : Int)⟩]) [0, 0] [3, 4, 5, 6, 15, 26, 27] rfl (by kernel_rfl) ?_
      refine N_then ?_
      refine G_seq ?_
      refine G_regionD (by kernel_rfl) (by kernel_rfl) ?_
      refine GL_pure (E' := [⟨30, [], .int .i64 ((i : Nat) : Int)⟩, ⟨3, [], .int .i64 (wT t)⟩, ⟨4, [], .pointer (some ⟨b2, 0, none⟩)⟩, ⟨5, [], .int .i64 ((i : Nat) : Int)⟩, ⟨6, [], .int .i64 ((k : Nat) : Int)⟩, ⟨15, [], .int .i64 ((i : Nat) : Int)⟩, ⟨26, [], .int .i64 ((i : Nat) : Int)⟩, ⟨27, [], .int .i64 ((k : Nat) : Int)⟩]) [0] (by kernel_rfl) (j := 1) rfl ?_
      refine GL_indexArr (i := 1) (ch := []) (b := b2) (off := 0) (len := 7) (sz := 1) (e := 9) (kd := .i64) (j := ((i : Nat) : Int)) rfl rfl (by kernel_rfl) (by kernel_rfl) (by kernel_rfl) (by kernel_rfl) (by kernel_rfl) (by kernel_rfl) (by kernel_rfl) (fun _ => ⟨by omega, by omega⟩) ?_
      refine GL_load (i := 2) (ch := []) (b := b2) (off := 0 + Int.toNat ((i : Nat) : Int) * 1) (v := .string (wkName (wT t) ((i : Nat) : Int))) rfl rfl (by kernel_rfl) (by kernel_rfl) (by kernel_rfl) (by kernel_rfl) (by kernel_rfl) (At.grp 0 0 rfl rfl) (wkRow_at (by omega) (by omega)) ?_
      refine GL_pure (E' := [⟨33, [], .int .i64 ((k : Nat) : Int)⟩, ⟨32, [], .string (wkName (wT t) ((i : Nat) : Int))⟩, ⟨31, [], .pointer (some ⟨b2, 0 + Int.toNat ((i : Nat) : Int) * 1, none⟩)⟩, ⟨30, [], .int .i64 ((i : Nat) : Int)⟩, ⟨3, [], .int .i64 (wT t)⟩, ⟨4, [], .pointer (some ⟨b2, 0, none⟩)⟩, ⟨5, [], .int .i64 ((i : Nat) : Int)⟩, ⟨6, [], .int .i64 ((k : Nat) : Int)⟩, ⟨15, [], .int .i64 ((i : Nat) : Int)⟩, ⟨26, [], .int .i64 ((i : Nat) : Int)⟩, ⟨27, [], .int .i64 ((k : Nat) : Int)⟩]) [0] (by kernel_rfl) (j := 4) rfl ?_
      refine GL_indexArr (i := 4) (ch := []) (b := b2) (off := 0) (len := 7) (sz := 1) (e := 9) (kd := .i64) (j := ((k : Nat) : Int)) rfl rfl (by kernel_rfl) (by kernel_rfl) (by kernel_rfl) (by kernel_rfl) (by kernel_rfl) (by kernel_rfl) (by kernel_rfl) (fun _ => ⟨by omega, by omega⟩) ?_
      refine GL_load (i := 5) (ch := []) (b := b2) (off := 0 + Int.toNat ((k : Nat) : Int) * 1) (v := .string (wkName (wT t) ((k : Nat) : Int))) rfl rfl (by kernel_rfl) (by kernel_rfl) (by kernel_rfl) (by kernel_rfl) (by kernel_rfl) (At.grp 0 0 rfl rfl) (wkRow_at (by omega) (by omega)) ?_
      refine GL_fin (E' := [⟨3, [], .int .i64 (wT t)⟩, ⟨4, [], .pointer (some ⟨b2, 0, none⟩)⟩, ⟨5, [], .int .i64 ((i : Nat) : Int)⟩, ⟨15, [], .int .i64 ((i : Nat) : Int)⟩, ⟨26, [], .int .i64 ((i : Nat) : Int)⟩, ⟨27, [], .int .i64 ((k : Nat) : Int)⟩, ⟨36, [], .bool ((wkName (wT t) ((i : Nat) : Int)).toList == (wkName (wT t) ((k : Nat) : Int)).toList)⟩]) [0] [3, 4, 5, 15, 26, 27, 36] rfl (by kernel_rfl) ?_
      refine N_then ?_
      refine G_cond (b := (wkName (wT t) ((i : Nat) : Int)).toList == (wkName (wT t) ((k : Nat) : Int)).toList) (by kernel_rfl) (fun hc7 => ?_) (fun hc7 => ?_)
      ·
        rw [show ((wkName (wT t) ((i : Nat) : Int)).toList == (wkName (wT t) ((k : Nat) : Int)).toList) = false from wkName_unlike hwt.1 hwt.2 (by omega) (by omega)] at hc7; cases hc7
      ·
        skip
        refine G_skip ?_
        refine N_block ?_
        refine N_then ?_
        have hw8 : IntKind.wrap .i64 (((k : Nat) : Int) + 1) = ((k : Nat) : Int) + 1 := w64 (by omega) (by omega)
        refine G_pure (E' := [⟨3, [], .int .i64 (wT t)⟩, ⟨4, [], .pointer (some ⟨b2, 0, none⟩)⟩, ⟨5, [], .int .i64 ((i : Nat) : Int)⟩, ⟨15, [], .int .i64 ((i : Nat) : Int)⟩, ⟨26, [], .int .i64 ((i : Nat) : Int)⟩, ⟨27, [], .int .i64 (((k : Nat) : Int) + 1)⟩]) [0, 0] [3, 4, 5, 15, 26, 27] rfl (Eq.trans (b := some [⟨3, [], .int .i64 (wT t)⟩, ⟨4, [], .pointer (some ⟨b2, 0, none⟩)⟩, ⟨5, [], .int .i64 ((i : Nat) : Int)⟩, ⟨15, [], .int .i64 ((i : Nat) : Int)⟩, ⟨26, [], .int .i64 ((i : Nat) : Int)⟩, ⟨27, [], .int .i64 (IntKind.wrap .i64 (((k : Nat) : Int) + 1))⟩]) (by kernel_rfl) (by simp only [hw8])) ?_
        refine N_round (s' := (k + 1)) [3, 4, 5, 15, 26, 27] (by kernel_rfl) rfl (by omega) (by omega)
    ·
      simp at hc6
      refine G_exit ?_
      refine N_then_exit ?_
      refine N_then_exit ?_
      refine N_block_exit ?_
      refine N_block ?_
      refine N_then ?_
      have hw9 : IntKind.wrap .i64 (((i : Nat) : Int) + 1) = ((i : Nat) : Int) + 1 := w64 (by omega) (by omega)
      refine G_pure (E' := [⟨3, [], .int .i64 (wT t)⟩, ⟨4, [], .pointer (some ⟨b2, 0, none⟩)⟩, ⟨15, [], .int .i64 (((i : Nat) : Int) + 1)⟩]) [0, 0] [3, 4, 15] rfl (Eq.trans (b := some [⟨3, [], .int .i64 (wT t)⟩, ⟨4, [], .pointer (some ⟨b2, 0, none⟩)⟩, ⟨15, [], .int .i64 (IntKind.wrap .i64 (((i : Nat) : Int) + 1))⟩]) (by kernel_rfl) (by simp only [hw9])) ?_
      refine N_round (s' := (i + 1)) [3, 4, 15] (by kernel_rfl) rfl (by omega) (by omega)
  ·
    simp at hc3
    refine G_exit ?_
    refine N_then_exit ?_
    refine N_then_exit ?_
    refine N_block_exit ?_
    refine N_then ?_
    refine G_seq ?_
    have hw10 : IntKind.wrap .i64 ((wT t) + 604800) = (wT t) + 604800 := w64 (by omega) (by omega)
    refine G_regionD (by kernel_rfl) (by kernel_rfl) ?_
    refine GL_pure (E' := [⟨40, [], .int .i64 ((wT t) + 604800)⟩, ⟨39, [], .int .i64 (wT t)⟩, ⟨3, [], .int .i64 (wT t)⟩, ⟨4, [], .pointer (some ⟨b2, 0, none⟩)⟩, ⟨15, [], .int .i64 ((i : Nat) : Int)⟩, ⟨16, [], .bool (decide (((i : Nat) : Int) < 7))⟩]) [0, 0] (Eq.trans (b := some [⟨40, [], .int .i64 (IntKind.wrap .i64 ((wT t) + 604800))⟩, ⟨39, [], .int .i64 (wT t)⟩, ⟨3, [], .int .i64 (wT t)⟩, ⟨4, [], .pointer (some ⟨b2, 0, none⟩)⟩, ⟨15, [], .int .i64 ((i : Nat) : Int)⟩, ⟨16, [], .bool (decide (((i : Nat) : Int) < 7))⟩]) (by kernel_rfl) (by simp only [hw10])) (j := 2) rfl ?_
    refine GL_callQ (i := 2) (ch := []) (f := 7) (fst := #[]) (caps := #[]) (vs := [.int .i64 ((wT t) + 604800)]) (v := .string (printMailB ((wT t) + 604800))) rfl rfl rfl (by kernel_rfl) (by kernel_rfl) Tryd.func7 rfl rfl (by kernel_rfl) (by kernel_rfl) (by kernel_rfl) (fun _ => printMail_ _ _ hT _) ?_
    refine GL_sliceS (i := 3) (ch := []) (s := printMailB ((wT t) + 604800)) (vl := none) (vh := (some (.int .i64 3))) (l := 0) (h := 3) rfl rfl (by kernel_rfl) (by kernel_rfl) (by kernel_rfl) (by kernel_rfl) (by kernel_rfl) (by kernel_rfl) (by kernel_rfl) (by kernel_rfl) (by kernel_rfl) (by have := mail_29 (wT t + 604800); intro _; omega) ?_
    refine GL_indexArr (i := 4) (ch := []) (b := b2) (off := 0) (len := 7) (sz := 1) (e := 9) (kd := .i64) (j := 0) rfl rfl (by kernel_rfl) (by kernel_rfl) (by kernel_rfl) (by kernel_rfl) (by kernel_rfl) (by kernel_rfl) (by kernel_rfl) (fun _ => ⟨by omega, by omega⟩) ?_
    refine GL_load (i := 5) (ch := []) (b := b2) (off := 0) (v := .string (wkName (wT t) 0)) rfl rfl (by kernel_rfl) (by kernel_rfl) (by kernel_rfl) (by kernel_rfl) (by kernel_rfl) (At.grp 0 0 rfl rfl) (wkRow_0 (by omega)) ?_
    refine GL_fin (E' := [⟨2, [], .bool (((printMailB ((wT t) + 604800)).extract 0 3).toList == (wkName (wT t) 0).toList)⟩]) [0, 0] [2] rfl (by kernel_rfl) ?_
    refine N_then ?_
    refine G_ret ?_
    refine N_heap (H' := H) (fun w h => h.erase 0) ?_
    refine N_ret [.tmp 2] [.bool (((printMailB ((wT t) + 604800)).extract 0 3).toList == (wkName (wT t) 0).toList)] rfl (by kernel_rfl) rfl ?_
    exact ⟨by rw [wk_end hwt.1 hwt.2]; rfl, rfl⟩

end Go.Proofs.YtlglmomimhbeaabDoor
