/- The walks of the disk's small calls. No condition but that numbers are ints. -/
import Derived.Test.YtbmieiffboenbaaDk
namespace Go.Proofs.Ytbmieiffboenbaa
open Go.Sw Go.Lib Go.Vf Go.RowKit


theorem vCall (d nb kb cb : Nat) (room calls : Int) (bv : Value) (fails once : Bool) (right : Bool) (hc : -9223372036854775808 ≤ calls ∧ calls ≤ 9223372036854775807) (W0 : World) (H : List Grp) : Tri Try.prog 34 #[.pointer (some ⟨d, 0, none⟩), .bool right] W0 ([(d, .cells #[.int .i64 room, bv, .map (some nb), .map (some kb), .map (some cb), .bool fails, .bool once, .int .i64 calls] 64 (0, 0))] :: H) (fun v H' => v = .int .i64 (callS fails once calls right).1 ∧ H' = ([(d, .cells #[.int .i64 room, bv, .map (some nb), .map (some kb), .map (some cb), .bool ((callS fails once calls right).2.1), .bool once, .int .i64 ((callS fails once calls right).2.2)] 64 (0, 0))] :: H)) := by
  refine Tri_of (args := [.pointer (some ⟨d, 0, none⟩), .bool right]) (n := 38) Try.func34 rfl rfl (Nat.le_of_ble_eq_true rfl) ?_
  refine G_seq ?_
  refine G_pure (E' := [⟨0, [], .pointer (some ⟨d, 0, none⟩)⟩, ⟨1, [], .bool right⟩]) [0] [0, 1] rfl (by kernel_rfl) ?_
  refine N_then ?_
  refine G_seq ?_
  refine G_block ?_
  refine G_seq ?_
  refine G_pure (E' := [⟨0, [], .pointer (some ⟨d, 0, none⟩)⟩, ⟨1, [], .bool right⟩, ⟨5, [], .bool false⟩]) [0, 0, 0] [0, 1, 5] rfl (by kernel_rfl) ?_
  refine N_then ?_
  refine G_condf (by kernel_rfl) ?_
  refine G_seq ?_
  refine G_pure (E' := [⟨0, [], .pointer (some ⟨d, 0, none⟩)⟩, ⟨8, [], .bool (!right)⟩]) [0, 0, 0] [0, 8] rfl (by kernel_rfl) ?_
  refine N_then ?_
  refine G_cond (b := !right) (by kernel_rfl) (fun hc1 => ?_) (fun hc1 => ?_)
  ·
    have hr := hc1
    refine G_seq ?_
    refine G_pure (E' := [⟨4, [], .int .i64 2⟩]) [0] [4] rfl (by kernel_rfl) ?_
    refine N_then ?_
    refine G_ret ?_
    refine N_block_ret ?_
    refine N_then_ret ?_
    refine N_ret [.tmp 4] [.int .i64 2] rfl (by kernel_rfl) rfl ?_
    rw [callS_arg hr]
    exact ⟨rfl, rfl⟩
  ·
    have hr := hc1
    refine G_seq ?_
    refine G_region ?_
    refine GL_pure (E' := [⟨14, [], .pointer (some ⟨d, 5, none⟩)⟩, ⟨13, [], .pointer (some ⟨d, 0, none⟩)⟩, ⟨12, [], .pointer (some ⟨d, 0, none⟩)⟩, ⟨0, [], .pointer (some ⟨d, 0, none⟩)⟩, ⟨8, [], .bool (!right)⟩]) [0, 0, 0] (by kernel_rfl) (j := 3) rfl ?_
    refine GL_load (i := 3) (ch := []) (b := d) (off := 5) (v := .bool fails) rfl rfl (by kernel_rfl) (by kernel_rfl) (by kernel_rfl) (by kernel_rfl) (by kernel_rfl) (At.grp 0 0 rfl rfl) rfl ?_
    refine GL_fin (E' := [⟨0, [], .pointer (some ⟨d, 0, none⟩)⟩, ⟨11, [], .bool (!fails)⟩]) [0, 0] [0, 11] rfl (by kernel_rfl) ?_
    refine N_then ?_
    refine G_cond (b := !fails) (by kernel_rfl) (fun hc2 => ?_) (fun hc2 => ?_)
    ·
      have hf := hc2
      refine G_seq ?_
      refine G_pure (E' := [⟨4, [], .int .i64 0⟩]) [0] [4] rfl (by kernel_rfl) ?_
      refine N_then ?_
      refine G_ret ?_
      refine N_block_ret ?_
      refine N_then_ret ?_
      refine N_ret [.tmp 4] [.int .i64 0] rfl (by kernel_rfl) rfl ?_
      rw [callS_ok hr hf]
      exact ⟨rfl, rfl⟩
    ·
      have hf := hc2
      refine G_seq ?_
      refine G_region ?_
      refine GL_pure (E' := [⟨20, [], .pointer (some ⟨d, 7, none⟩)⟩, ⟨19, [], .pointer (some ⟨d, 0, none⟩)⟩, ⟨18, [], .pointer (some ⟨d, 0, none⟩)⟩, ⟨0, [], .pointer (some ⟨d, 0, none⟩)⟩, ⟨11, [], .bool (!fails)⟩]) [0, 0, 0] (by kernel_rfl) (j := 3) rfl ?_
      refine GL_load (i := 3) (ch := []) (b := d) (off := 7) (v := .int .i64 calls) rfl rfl (by kernel_rfl) (by kernel_rfl) (by kernel_rfl) (by kernel_rfl) (by kernel_rfl) (At.grp 0 0 rfl rfl) rfl ?_
      refine GL_fin (E' := [⟨0, [], .pointer (some ⟨d, 0, none⟩)⟩, ⟨17, [], .bool (decide (calls > 0))⟩]) [0, 0] [0, 17] rfl (by kernel_rfl) ?_
      refine N_then ?_
      refine G_cond (b := decide (calls > 0)) (by kernel_rfl) (fun hc3 => ?_) (fun hc3 => ?_)
      ·
        have hp := hc3
        simp at hc3
        refine G_seq ?_
        refine G_region ?_
        refine GL_pure (E' := [⟨25, [], .pointer (some ⟨d, 7, none⟩)⟩, ⟨24, [], .pointer (some ⟨d, 0, none⟩)⟩, ⟨23, [], .pointer (some ⟨d, 0, none⟩)⟩, ⟨0, [], .pointer (some ⟨d, 0, none⟩)⟩, ⟨17, [], .bool (decide (calls > 0))⟩]) [0, 0, 0] (by kernel_rfl) (j := 3) rfl ?_
        refine GL_load (i := 3) (ch := []) (b := d) (off := 7) (v := .int .i64 calls) rfl rfl (by kernel_rfl) (by kernel_rfl) (by kernel_rfl) (by kernel_rfl) (by kernel_rfl) (At.grp 0 0 rfl rfl) rfl ?_
        have hw4 : IntKind.wrap .i64 (calls - 1) = calls - 1 := w64 (by omega) (by omega)
        refine GL_pure (E' := [⟨29, [], .pointer (some ⟨d, 7, none⟩)⟩, ⟨28, [], .pointer (some ⟨d, 0, none⟩)⟩, ⟨27, [], .int .i64 (calls - 1)⟩, ⟨26, [], .int .i64 calls⟩, ⟨25, [], .pointer (some ⟨d, 7, none⟩)⟩, ⟨24, [], .pointer (some ⟨d, 0, none⟩)⟩, ⟨23, [], .pointer (some ⟨d, 0, none⟩)⟩, ⟨0, [], .pointer (some ⟨d, 0, none⟩)⟩, ⟨17, [], .bool (decide (calls > 0))⟩]) [0, 0, 0] (Eq.trans (b := some [⟨29, [], .pointer (some ⟨d, 7, none⟩)⟩, ⟨28, [], .pointer (some ⟨d, 0, none⟩)⟩, ⟨27, [], .int .i64 (IntKind.wrap .i64 (calls - 1))⟩, ⟨26, [], .int .i64 calls⟩, ⟨25, [], .pointer (some ⟨d, 7, none⟩)⟩, ⟨24, [], .pointer (some ⟨d, 0, none⟩)⟩, ⟨23, [], .pointer (some ⟨d, 0, none⟩)⟩, ⟨0, [], .pointer (some ⟨d, 0, none⟩)⟩, ⟨17, [], .bool (decide (calls > 0))⟩]) (by kernel_rfl) (by simp only [hw4])) (j := 7) rfl ?_
        refine GL_store (i := 7) (ch := []) (b := d) (off := 7) (v := .int .i64 (calls - 1)) (c := #[.int .i64 room, bv, .map (some nb), .map (some kb), .map (some cb), .bool fails, .bool once, .int .i64 calls]) (c' := #[.int .i64 room, bv, .map (some nb), .map (some kb), .map (some cb), .bool fails, .bool once, .int .i64 (calls - 1)]) (j := 0) (m := 0) (H' := ([(d, .cells #[.int .i64 room, bv, .map (some nb), .map (some kb), .map (some cb), .bool fails, .bool once, .int .i64 (calls - 1)] 64 (0, 0))] :: H)) rfl rfl (by kernel_rfl) (by kernel_rfl) (by kernel_rfl) (by kernel_rfl) (by kernel_rfl) (by kernel_rfl) (by kernel_rfl) rfl rfl (Nat.le_of_ble_eq_true rfl) (fun _ _ => thaw0) (by kernel_rfl) (by kernel_rfl) ?_
        refine GL_fin (E' := []) [] [] rfl (by kernel_rfl) ?_
        refine N_then ?_
        refine G_seq ?_
        refine G_pure (E' := [⟨4, [], .int .i64 0⟩]) [0] [4] rfl (by kernel_rfl) ?_
        refine N_then ?_
        refine G_ret ?_
        refine N_block_ret ?_
        refine N_then_ret ?_
        refine N_ret [.tmp 4] [.int .i64 0] rfl (by kernel_rfl) rfl ?_
        rw [callS_dec hr hf hp]
        exact ⟨rfl, rfl⟩
      ·
        have hp := hc3
        simp at hc3
        refine G_skip ?_
        refine N_block ?_
        refine N_then ?_
        refine G_seq ?_
        refine G_region ?_
        refine GL_pure (E' := [⟨33, [], .pointer (some ⟨d, 6, none⟩)⟩, ⟨32, [], .pointer (some ⟨d, 0, none⟩)⟩, ⟨31, [], .pointer (some ⟨d, 0, none⟩)⟩, ⟨30, [], .pointer (some ⟨d, 0, none⟩)⟩, ⟨0, [], .pointer (some ⟨d, 0, none⟩)⟩, ⟨17, [], .bool (decide (calls > 0))⟩]) [0, 0, 0, 0] (by kernel_rfl) (j := 4) rfl ?_
        refine GL_load (i := 4) (ch := []) (b := d) (off := 6) (v := .bool once) rfl rfl (by kernel_rfl) (by kernel_rfl) (by kernel_rfl) (by kernel_rfl) (by kernel_rfl) (At.grp 0 0 rfl rfl) rfl ?_
        refine GL_pure (E' := [⟨37, [], .pointer (some ⟨d, 5, none⟩)⟩, ⟨36, [], .pointer (some ⟨d, 0, none⟩)⟩, ⟨35, [], .bool (!once)⟩, ⟨34, [], .bool once⟩, ⟨33, [], .pointer (some ⟨d, 6, none⟩)⟩, ⟨32, [], .pointer (some ⟨d, 0, none⟩)⟩, ⟨31, [], .pointer (some ⟨d, 0, none⟩)⟩, ⟨30, [], .pointer (some ⟨d, 0, none⟩)⟩, ⟨0, [], .pointer (some ⟨d, 0, none⟩)⟩, ⟨17, [], .bool (decide (calls > 0))⟩]) [0, 0, 0] (by kernel_rfl) (j := 8) rfl ?_
        refine GL_store (i := 8) (ch := []) (b := d) (off := 5) (v := .bool (!once)) (c := #[.int .i64 room, bv, .map (some nb), .map (some kb), .map (some cb), .bool fails, .bool once, .int .i64 calls]) (c' := #[.int .i64 room, bv, .map (some nb), .map (some kb), .map (some cb), .bool (!once), .bool once, .int .i64 calls]) (j := 0) (m := 0) (H' := ([(d, .cells #[.int .i64 room, bv, .map (some nb), .map (some kb), .map (some cb), .bool (!once), .bool once, .int .i64 calls] 64 (0, 0))] :: H)) rfl rfl (by kernel_rfl) (by kernel_rfl) (by kernel_rfl) (by kernel_rfl) (by kernel_rfl) (by kernel_rfl) (by kernel_rfl) rfl rfl (Nat.le_of_ble_eq_true rfl) (fun _ _ => thaw0) (by kernel_rfl) (by kernel_rfl) ?_
        refine GL_fin (E' := []) [] [] rfl (by kernel_rfl) ?_
        refine N_then ?_
        refine G_seq ?_
        refine G_pure (E' := [⟨4, [], .int .i64 62⟩]) [0] [4] rfl (by kernel_rfl) ?_
        refine N_then ?_
        refine G_ret ?_
        refine N_ret [.tmp 4] [.int .i64 62] rfl (by kernel_rfl) rfl ?_
        rw [callS_no hr hf hp]
        exact ⟨rfl, rfl⟩

theorem vCallNil (right : Bool) (W0 : World) (H : List Grp) : Tri Try.prog 34 #[.pointer none, .bool right] W0 H (fun v H' => v = .int .i64 1 ∧ H' = H) := by
  refine Tri_of (args := [.pointer none, .bool right]) (n := 38) Try.func34 rfl rfl (Nat.le_of_ble_eq_true rfl) ?_
  refine G_seq ?_
  refine G_pure (E' := [⟨0, [], .pointer none⟩, ⟨1, [], .bool right⟩]) [0] [0, 1] rfl (by kernel_rfl) ?_
  refine N_then ?_
  refine G_seq ?_
  refine G_block ?_
  refine G_seq ?_
  refine G_pure (E' := [⟨0, [], .pointer none⟩, ⟨1, [], .bool right⟩, ⟨5, [], .bool true⟩]) [0, 0, 0] [0, 1, 5] rfl (by kernel_rfl) ?_
  refine N_then ?_
  refine G_condt (by kernel_rfl) ?_
  refine G_seq ?_
  refine G_pure (E' := [⟨4, [], .int .i64 1⟩]) [0] [4] rfl (by kernel_rfl) ?_
  refine N_then ?_
  refine G_ret ?_
  refine N_block_ret ?_
  refine N_then_ret ?_
  refine N_ret [.tmp 4] [.int .i64 1] rfl (by kernel_rfl) rfl ?_
  exact ⟨rfl, rfl⟩

theorem vFail (d nb kb cb : Nat) (room calls : Int) (bv : Value) (fails once : Bool) (n : Int) (o : Bool) (W0 : World) (H : List Grp) : Tri Try.prog 16 #[.pointer (some ⟨d, 0, none⟩), .int .i64 n, .bool o] W0 ([(d, .cells #[.int .i64 room, bv, .map (some nb), .map (some kb), .map (some cb), .bool fails, .bool once, .int .i64 calls] 64 (0, 0))] :: H) (fun v H' => v = .tuple #[] ∧ H' = ([(d, .cells #[.int .i64 room, bv, .map (some nb), .map (some kb), .map (some cb), .bool true, .bool o, .int .i64 (if 0 > n then 0 else n)] 64 (0, 0))] :: H)) := by
  refine Tri_of (args := [.pointer (some ⟨d, 0, none⟩), .int .i64 n, .bool o]) (n := 20) Try.func16 rfl rfl (Nat.le_of_ble_eq_true rfl) ?_
  refine G_seq ?_
  refine G_pure (E' := [⟨0, [], .pointer (some ⟨d, 0, none⟩)⟩, ⟨1, [], .int .i64 n⟩, ⟨2, [], .bool o⟩, ⟨7, [], .bool true⟩]) [0, 0] [0, 1, 2, 7] rfl (by kernel_rfl) ?_
  refine N_then ?_
  refine G_condt (by kernel_rfl) ?_
  refine G_region ?_
  refine GL_pure (E' := [⟨15, [], .pointer (some ⟨d, 5, none⟩)⟩, ⟨14, [], .pointer (some ⟨d, 0, none⟩)⟩, ⟨13, [], .int .i64 (if 0 > n then 0 else n)⟩, ⟨12, [], .int .i64 n⟩, ⟨11, [], .bool o⟩, ⟨10, [], .pointer (some ⟨d, 0, none⟩)⟩, ⟨9, [], .pointer (some ⟨d, 0, none⟩)⟩, ⟨8, [], .pointer (some ⟨d, 0, none⟩)⟩, ⟨0, [], .pointer (some ⟨d, 0, none⟩)⟩, ⟨1, [], .int .i64 n⟩, ⟨2, [], .bool o⟩, ⟨7, [], .bool true⟩]) [0, 0, 0, 0, 0, 0, 0, 0] (by kernel_rfl) (j := 8) rfl ?_
  refine GL_store (i := 8) (ch := []) (b := d) (off := 5) (v := .bool true) (c := #[.int .i64 room, bv, .map (some nb), .map (some kb), .map (some cb), .bool fails, .bool once, .int .i64 calls]) (c' := #[.int .i64 room, bv, .map (some nb), .map (some kb), .map (some cb), .bool true, .bool once, .int .i64 calls]) (j := 0) (m := 0) (H' := ([(d, .cells #[.int .i64 room, bv, .map (some nb), .map (some kb), .map (some cb), .bool true, .bool once, .int .i64 calls] 64 (0, 0))] :: H)) rfl rfl (by kernel_rfl) (by kernel_rfl) (by kernel_rfl) (by kernel_rfl) (by kernel_rfl) (by kernel_rfl) (by kernel_rfl) rfl rfl (Nat.le_of_ble_eq_true rfl) (fun _ _ => thaw0) (by kernel_rfl) (by kernel_rfl) ?_
  refine GL_pure (E' := [⟨17, [], .pointer (some ⟨d, 6, none⟩)⟩, ⟨16, [], .pointer (some ⟨d, 0, none⟩)⟩, ⟨15, [], .pointer (some ⟨d, 5, none⟩)⟩, ⟨14, [], .pointer (some ⟨d, 0, none⟩)⟩, ⟨13, [], .int .i64 (if 0 > n then 0 else n)⟩, ⟨12, [], .int .i64 n⟩, ⟨11, [], .bool o⟩, ⟨10, [], .pointer (some ⟨d, 0, none⟩)⟩, ⟨9, [], .pointer (some ⟨d, 0, none⟩)⟩, ⟨8, [], .pointer (some ⟨d, 0, none⟩)⟩, ⟨0, [], .pointer (some ⟨d, 0, none⟩)⟩, ⟨1, [], .int .i64 n⟩, ⟨2, [], .bool o⟩, ⟨7, [], .bool true⟩]) [0, 0] (by kernel_rfl) (j := 11) rfl ?_
  refine GL_store (i := 11) (ch := []) (b := d) (off := 6) (v := .bool o) (c := #[.int .i64 room, bv, .map (some nb), .map (some kb), .map (some cb), .bool true, .bool once, .int .i64 calls]) (c' := #[.int .i64 room, bv, .map (some nb), .map (some kb), .map (some cb), .bool true, .bool o, .int .i64 calls]) (j := 0) (m := 0) (H' := ([(d, .cells #[.int .i64 room, bv, .map (some nb), .map (some kb), .map (some cb), .bool true, .bool o, .int .i64 calls] 64 (0, 0))] :: H)) rfl rfl (by kernel_rfl) (by kernel_rfl) (by kernel_rfl) (by kernel_rfl) (by kernel_rfl) (by kernel_rfl) (by kernel_rfl) rfl rfl (Nat.le_of_ble_eq_true rfl) (fun _ _ => thaw0) (by kernel_rfl) (by kernel_rfl) ?_
  refine GL_pure (E' := [⟨19, [], .pointer (some ⟨d, 7, none⟩)⟩, ⟨18, [], .pointer (some ⟨d, 0, none⟩)⟩, ⟨17, [], .pointer (some ⟨d, 6, none⟩)⟩, ⟨16, [], .pointer (some ⟨d, 0, none⟩)⟩, ⟨15, [], .pointer (some ⟨d, 5, none⟩)⟩, ⟨14, [], .pointer (some ⟨d, 0, none⟩)⟩, ⟨13, [], .int .i64 (if 0 > n then 0 else n)⟩, ⟨12, [], .int .i64 n⟩, ⟨11, [], .bool o⟩, ⟨10, [], .pointer (some ⟨d, 0, none⟩)⟩, ⟨9, [], .pointer (some ⟨d, 0, none⟩)⟩, ⟨8, [], .pointer (some ⟨d, 0, none⟩)⟩, ⟨0, [], .pointer (some ⟨d, 0, none⟩)⟩, ⟨1, [], .int .i64 n⟩, ⟨2, [], .bool o⟩, ⟨7, [], .bool true⟩]) [0, 0] (by kernel_rfl) (j := 14) rfl ?_
  refine GL_store (i := 14) (ch := []) (b := d) (off := 7) (v := .int .i64 (if 0 > n then 0 else n)) (c := #[.int .i64 room, bv, .map (some nb), .map (some kb), .map (some cb), .bool true, .bool o, .int .i64 calls]) (c' := #[.int .i64 room, bv, .map (some nb), .map (some kb), .map (some cb), .bool true, .bool o, .int .i64 (if 0 > n then 0 else n)]) (j := 0) (m := 0) (H' := ([(d, .cells #[.int .i64 room, bv, .map (some nb), .map (some kb), .map (some cb), .bool true, .bool o, .int .i64 (if 0 > n then 0 else n)] 64 (0, 0))] :: H)) rfl rfl (by kernel_rfl) (by kernel_rfl) (by kernel_rfl) (by kernel_rfl) (by kernel_rfl) (by kernel_rfl) (by kernel_rfl) rfl rfl (Nat.le_of_ble_eq_true rfl) (fun _ _ => thaw0) (by kernel_rfl) (by kernel_rfl) ?_
  refine GL_fin (E' := []) [] [] rfl (by kernel_rfl) ?_
  refine N_ret [] [] rfl (by kernel_rfl) rfl ?_
  exact ⟨rfl, rfl⟩

theorem vNew (room : Int) (W0 : World) (H : List Grp) : Tri Try.prog 12 #[.int .i64 room] W0 H (fun v H' => ∃ d nb kb cb, v = .pointer (some ⟨d, 0, none⟩) ∧ H' = [(d, .cells #[.int .i64 (if 0 > room then 0 else room), .slice none 0 0, .map (some nb), .map (some kb), .map (some cb), .bool false, .bool false, .int .i64 0] 64 (0, 0))] :: [(cb, .map (encM []) 0)] :: [(kb, .map (encM []) 0)] :: [(nb, .map (encM []) 0)] :: H) := by
  refine Tri_of (args := [.int .i64 room]) (n := 10) Try.func12 rfl rfl (Nat.le_of_ble_eq_true rfl) ?_
  refine G_seq ?_
  refine G_pure (E' := [⟨0, [], .int .i64 room⟩]) [0] [0] rfl (by kernel_rfl) ?_
  refine N_then ?_
  refine G_seq ?_
  refine G_region ?_
  refine GL_pure (E' := [⟨4, [], .int .i64 (if 0 > room then 0 else room)⟩, ⟨3, [], .int .i64 room⟩, ⟨0, [], .int .i64 room⟩]) [0, 0] (by kernel_rfl) (j := 2) rfl ?_
  refine GL_makeMap (i := 2) (ch := []) rfl rfl (by kernel_rfl) (by kernel_rfl) (by kernel_rfl) (fun b1 => ?_)
  refine GL_makeMap (i := 3) (ch := []) rfl rfl (by kernel_rfl) (by kernel_rfl) (by kernel_rfl) (fun b2 => ?_)
  refine GL_makeMap (i := 4) (ch := []) rfl rfl (by kernel_rfl) (by kernel_rfl) (by kernel_rfl) (fun b3 => ?_)
  refine GL_pure (E' := [⟨8, [], .agg #[.int .i64 (if 0 > room then 0 else room), .slice none 0 0, .map (some b1), .map (some b2), .map (some b3), .bool false, .bool false, .int .i64 0]⟩, ⟨7, [], .map (some b3)⟩, ⟨6, [], .map (some b2)⟩, ⟨5, [], .map (some b1)⟩, ⟨4, [], .int .i64 (if 0 > room then 0 else room)⟩, ⟨3, [], .int .i64 room⟩, ⟨0, [], .int .i64 room⟩]) [0] (by kernel_rfl) (j := 6) rfl ?_
  refine GL_box (i := 6) (ch := []) (v := .agg #[.int .i64 (if 0 > room then 0 else room), .slice none 0 0, .map (some b1), .map (some b2), .map (some b3), .bool false, .bool false, .int .i64 0]) rfl rfl (by kernel_rfl) (by kernel_rfl) (by kernel_rfl) (by kernel_rfl) (fun b4 => ?_)
  refine GL_fin (E' := [⟨2, [], .pointer (some ⟨b4, 0, none⟩)⟩]) [0] [2] rfl (by kernel_rfl) ?_
  refine N_then ?_
  refine G_ret ?_
  refine N_ret [.tmp 2] [.pointer (some ⟨b4, 0, none⟩)] rfl (by kernel_rfl) rfl ?_
  exact ⟨_, _, _, _, rfl, rfl⟩

theorem vApply (nb q nc cc : Nat) (nm cm : SM) (hn : MapOk nm nc) (hcm : MapOk cm cc) (hv : ∀ e ∈ cm, e.2.1 = .pointer none ∨ ∃ p, e.2.1 = .pointer (some ⟨p, 0, none⟩)) (W0 : World) (H : List Grp) (hA : At W0 H q (.map (encM cm) cc)) : Tri Try.prog 38 #[.map (some nb), .map (some q)] W0 ([(nb, .map (encM nm) nc)] :: H) (fun v H' => ∃ dn, dn.Perm cm ∧ v = .tuple #[] ∧ H' = [(nb, .map (encM (foldS (nm, nc) dn).1) (foldS (nm, nc) dn).2)] :: H) := by
  refine Tri_of (args := [.map (some nb), .map (some q)]) (n := 20) Try.func38 rfl rfl (Nat.le_of_ble_eq_true rfl) ?_
  refine G_seq ?_
  refine G_region ?_
  refine GL_pure (E' := [⟨6, [], .map (some q)⟩, ⟨0, [], .map (some nb)⟩, ⟨1, [], .map (some q)⟩]) [0] (by kernel_rfl) (j := 1) rfl ?_
  refine GL_range (i := 1) (ch := []) (kt := 9) (et := 66) (r := q) (c := cc) (m := cm) rfl rfl (by kernel_rfl) (by kernel_rfl) (by kernel_rfl) (by kernel_rfl) (by kernel_rfl) (At.cons hA) (fun it1 => ?_)
  refine GL_fin (E' := [⟨0, [], .map (some nb)⟩, ⟨7, [], .pointer (some ⟨it1, 0, none⟩)⟩]) [] [0, 7] rfl (by kernel_rfl) ?_
  refine N_then ?_
  refine G_block ?_
  refine G_loop (EI := (fun ξ : SM × SM => [⟨0, [], .map (some nb)⟩, ⟨7, [], .pointer (some ⟨it1, 0, none⟩)⟩])) (HI := (fun ξ : SM × SM => ([(it1, .mapIter (some q) cc (seenOf ξ.1) cc)] :: [(nb, .map (encM ((foldS (nm, nc) ξ.1).1)) ((foldS (nm, nc) ξ.1).2))] :: H))) (Φ := (fun ξ : SM × SM => ((ξ.1 ++ ξ.2).Perm cm))) (μ := (fun ξ : SM × SM => ξ.2.length)) (s0 := ([], cm)) [0, 7] (by kernel_rfl) (by rfl) (List.Perm.refl _) ?_
  rintro ⟨dn, rest⟩ hpm
  refine G_seq ?_
  refine G_region ?_
  refine GL_next (i := 0) (ch := []) (it := it1) (r := q) (c := cc) (j := 0) (q := 0) (m := cm) (dn := dn) (rest := rest) rfl rfl (by kernel_rfl) (by kernel_rfl) (by kernel_rfl) (by kernel_rfl) rfl rfl (At.cons (At.cons hA)) hcm hpm (fun hend6 => ?_) (fun e2 rest3 hp4 hq5 => ?_)
  ·
    refine GL_fin (E' := [⟨0, [], .map (some nb)⟩, ⟨7, [], .pointer (some ⟨it1, 0, none⟩)⟩, ⟨9, [], .bool false⟩]) [0] [0, 7, 9] rfl (by kernel_rfl) ?_
    refine N_then ?_
    refine G_seq ?_
    refine G_condf (by kernel_rfl) ?_
    refine G_exit ?_
    refine N_then_exit ?_
    refine N_then_exit ?_
    refine N_block_exit ?_
    refine N_heap (H' := ([(nb, .map (encM ((foldS (nm, nc) dn).1)) ((foldS (nm, nc) dn).2))] :: H)) (fun w h => h.erase 0) ?_
    refine N_ret [] [] rfl (by kernel_rfl) rfl ?_
    exact ⟨dn, by simpa [hend6] using hpm, rfl, rfl⟩
  ·
    have hve := hv e2 (hq5.mem_iff.1 (by simp))
    obtain ⟨k7, v8, st9⟩ := e2
    simp only at hve
    rcases hve with rfl | ⟨p10, rfl⟩
    ·
      refine GL_fin (E' := [⟨0, [], .map (some nb)⟩, ⟨7, [], .pointer (some ⟨it1, 0, none⟩)⟩, ⟨9, [], .bool true⟩]) [0] [0, 7, 9] rfl (by kernel_rfl) ?_
      refine N_then ?_
      refine G_seq ?_
      refine G_condt (by kernel_rfl) ?_
      refine G_skip ?_
      refine N_then ?_
      refine G_block ?_
      refine G_seq ?_
      refine G_region ?_
      refine GL_entry (i := 0) (ch := []) (it := it1) (r := q) (c := cc) (m := cm) (dn := dn) (e := (k7, .pointer none, st9)) rfl rfl (by kernel_rfl) (by kernel_rfl) (by kernel_rfl) (by kernel_rfl) (At.grp 0 0 rfl rfl) (At.cons (At.cons hA)) hcm (hq5.mem_iff.1 (by simp)) ?_
      refine GL_fin (E' := [⟨0, [], .map (some nb)⟩, ⟨4, [], .string k7⟩, ⟨5, [], .pointer none⟩, ⟨7, [], .pointer (some ⟨it1, 0, none⟩)⟩]) [0, 0, 0, 0] [0, 4, 5, 7] rfl (by kernel_rfl) ?_
      refine N_then ?_
      refine G_seq ?_
      refine G_pure (E' := [⟨0, [], .map (some nb)⟩, ⟨4, [], .string k7⟩, ⟨5, [], .pointer none⟩, ⟨7, [], .pointer (some ⟨it1, 0, none⟩)⟩, ⟨14, [], .bool true⟩]) [0, 0] [0, 4, 5, 7, 14] rfl (by kernel_rfl) ?_
      refine N_then ?_
      refine G_condt (by kernel_rfl) ?_
      refine G_region ?_
      refine GL_pure (E' := [⟨16, [], .string k7⟩, ⟨15, [], .map (some nb)⟩, ⟨0, [], .map (some nb)⟩, ⟨4, [], .string k7⟩, ⟨5, [], .pointer none⟩, ⟨7, [], .pointer (some ⟨it1, 0, none⟩)⟩, ⟨14, [], .bool true⟩]) [0, 0] (by kernel_rfl) (j := 2) rfl ?_
      refine GL_delete (i := 2) (ch := []) (ts := #[60, 9]) (t := 60) (kt := 9) (et := 66) (r := nb) (c := (foldS (nm, nc) dn).2) (j := 1) (q := 0) (m := (foldS (nm, nc) dn).1) (k := k7) (H' := ([(it1, .mapIter (some q) cc (seenOf (dn ++ [(k7, .pointer none, st9)])) cc)] :: [(nb, .map (encM (mdel ((foldS (nm, nc) dn).1) k7)) ((foldS (nm, nc) dn).2))] :: H)) rfl rfl rfl rfl rfl (by kernel_rfl) (by kernel_rfl) (by kernel_rfl) (by kernel_rfl) (by kernel_rfl) (by kernel_rfl) rfl rfl rfl ?_
      refine GL_fin (E' := [⟨0, [], .map (some nb)⟩, ⟨7, [], .pointer (some ⟨it1, 0, none⟩)⟩]) [] [0, 7] rfl (by kernel_rfl) ?_
      refine N_block ?_
      refine N_heap (H' := ([(it1, .mapIter (some q) cc (seenOf (dn ++ [(k7, .pointer none, st9)])) cc)] :: [(nb, .map (encM (mdel ((foldS (nm, nc) dn).1) k7)) ((foldS (nm, nc) dn).2))] :: H)) (fun w h => ((h.front (j := 1) rfl).front (j := 1) rfl)) ?_
      refine N_round (s' := (dn ++ [(k7, .pointer none, st9)], rest3)) [0, 7] (by kernel_rfl) (by rw [foldS_snoc]; rfl) hq5 (by have := hp4.length_eq; simp only [List.length_cons] at this; show rest3.length < rest.length; omega)
    ·
      refine GL_fin (E' := [⟨0, [], .map (some nb)⟩, ⟨7, [], .pointer (some ⟨it1, 0, none⟩)⟩, ⟨9, [], .bool true⟩]) [0] [0, 7, 9] rfl (by kernel_rfl) ?_
      refine N_then ?_
      refine G_seq ?_
      refine G_condt (by kernel_rfl) ?_
      refine G_skip ?_
      refine N_then ?_
      refine G_block ?_
      refine G_seq ?_
      refine G_region ?_
      refine GL_entry (i := 0) (ch := []) (it := it1) (r := q) (c := cc) (m := cm) (dn := dn) (e := (k7, .pointer (some ⟨p10, 0, none⟩), st9)) rfl rfl (by kernel_rfl) (by kernel_rfl) (by kernel_rfl) (by kernel_rfl) (At.grp 0 0 rfl rfl) (At.cons (At.cons hA)) hcm (hq5.mem_iff.1 (by simp)) ?_
      refine GL_fin (E' := [⟨0, [], .map (some nb)⟩, ⟨4, [], .string k7⟩, ⟨5, [], .pointer (some ⟨p10, 0, none⟩)⟩, ⟨7, [], .pointer (some ⟨it1, 0, none⟩)⟩]) [0, 0, 0, 0] [0, 4, 5, 7] rfl (by kernel_rfl) ?_
      refine N_then ?_
      refine G_seq ?_
      refine G_pure (E' := [⟨0, [], .map (some nb)⟩, ⟨4, [], .string k7⟩, ⟨5, [], .pointer (some ⟨p10, 0, none⟩)⟩, ⟨7, [], .pointer (some ⟨it1, 0, none⟩)⟩, ⟨14, [], .bool false⟩]) [0, 0] [0, 4, 5, 7, 14] rfl (by kernel_rfl) ?_
      refine N_then ?_
      refine G_condf (by kernel_rfl) ?_
      refine G_region ?_
      refine GL_pure (E' := [⟨19, [], .pointer (some ⟨p10, 0, none⟩)⟩, ⟨18, [], .string k7⟩, ⟨17, [], .map (some nb)⟩, ⟨0, [], .map (some nb)⟩, ⟨4, [], .string k7⟩, ⟨5, [], .pointer (some ⟨p10, 0, none⟩)⟩, ⟨7, [], .pointer (some ⟨it1, 0, none⟩)⟩, ⟨14, [], .bool false⟩]) [0, 0, 0] (by kernel_rfl) (j := 3) rfl ?_
      refine GL_mapPut (i := 3) (ch := []) (kt := 9) (et := 66) (r := nb) (c := (foldS (nm, nc) dn).2) (j := 1) (q := 0) (m := (foldS (nm, nc) dn).1) (k := k7) (v := .pointer (some ⟨p10, 0, none⟩)) (H' := ([(it1, .mapIter (some q) cc (seenOf (dn ++ [(k7, .pointer (some ⟨p10, 0, none⟩), st9)])) cc)] :: [(nb, .map (encM (mput ((foldS (nm, nc) dn).1) ((foldS (nm, nc) dn).2) k7 (.pointer (some ⟨p10, 0, none⟩)))) (if mhas ((foldS (nm, nc) dn).1) k7 then (foldS (nm, nc) dn).2 else (foldS (nm, nc) dn).2 + 1))] :: H)) rfl (.inl rfl) (by kernel_rfl) (by kernel_rfl) (by kernel_rfl) (by kernel_rfl) (by kernel_rfl) (by kernel_rfl) (by kernel_rfl) (by kernel_rfl) rfl rfl rfl ?_
      refine GL_fin (E' := [⟨0, [], .map (some nb)⟩, ⟨7, [], .pointer (some ⟨it1, 0, none⟩)⟩]) [] [0, 7] rfl (by kernel_rfl) ?_
      refine N_block ?_
      refine N_heap (H' := ([(it1, .mapIter (some q) cc (seenOf (dn ++ [(k7, .pointer (some ⟨p10, 0, none⟩), st9)])) cc)] :: [(nb, .map (encM (mput ((foldS (nm, nc) dn).1) ((foldS (nm, nc) dn).2) k7 (.pointer (some ⟨p10, 0, none⟩)))) (if mhas ((foldS (nm, nc) dn).1) k7 then (foldS (nm, nc) dn).2 else (foldS (nm, nc) dn).2 + 1))] :: H)) (fun w h => ((h.front (j := 1) rfl).front (j := 1) rfl)) ?_
      refine N_round (s' := (dn ++ [(k7, .pointer (some ⟨p10, 0, none⟩), st9)], rest3)) [0, 7] (by kernel_rfl) (by rw [foldS_snoc]; rfl) hq5 (by have := hp4.length_eq; simp only [List.length_cons] at this; show rest3.length < rest.length; omega)

end Go.Proofs.Ytbmieiffboenbaa
