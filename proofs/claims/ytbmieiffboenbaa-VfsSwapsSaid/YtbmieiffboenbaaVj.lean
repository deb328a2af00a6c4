/- Write of what is no path. Conditions: the numbers are ints. -/
import Derived.Test.YtbmieiffboenbaaVi
namespace Go.Proofs.Ytbmieiffboenbaa
open Go.Sw Go.Lib Go.Vf Go.RowKit

theorem vCallBad (d nb kb cb : Nat) (room calls : Int) (bv : Value) (fails once : Bool) (right : Bool) (hr : right = false) (hc : -9223372036854775808 ≤ calls ∧ calls ≤ 9223372036854775807) (W0 : World) (H : List Grp) :
    Tri Try.prog 34 #[.pointer (some ⟨d, 0, none⟩), .bool right] W0 ([(d, .cells #[.int .i64 room, bv, .map (some nb), .map (some kb), .map (some cb), .bool fails, .bool once, .int .i64 calls] 64 (0, 0))] :: H) (fun v H' => v = .int .i64 2 ∧ H' = [(d, .cells #[.int .i64 room, bv, .map (some nb), .map (some kb), .map (some cb), .bool fails, .bool once, .int .i64 calls] 64 (0, 0))] :: H) := by
  subst hr
  exact vCall d nb kb cb room calls bv fails once false hc W0 H


theorem vWriteBad (d nb kb cb : Nat) (room calls : Int) (bv : Value) (fails once : Bool) (path : ByteArray) (hpath : path.size ≤ 9223372036854775807) (hca : -9223372036854775808 ≤ calls ∧ calls ≤ 9223372036854775807) (hr : rightB path = false) (W0 : World) (H : List Grp) : Tri Try.prog 13 #[.pointer (some ⟨d, 0, none⟩), .string path, .slice none 0 0] W0 ([(d, .cells #[.int .i64 room, bv, .map (some nb), .map (some kb), .map (some cb), .bool fails, .bool once, .int .i64 calls] 64 (0, 0))] :: H) (fun v H' => v = .int .i64 2 ∧ H' = ([(d, .cells #[.int .i64 room, bv, .map (some nb), .map (some kb), .map (some cb), .bool fails, .bool once, .int .i64 calls] 64 (0, 0))] :: H)) := by
  refine Tri_of (args := [.pointer (some ⟨d, 0, none⟩), .string path, .slice none 0 0]) (n := 65) Try.func13 rfl rfl (Nat.le_of_ble_eq_true rfl) ?_
  refine G_seq ?_
  refine G_pure (E' := [⟨0, [], .pointer (some ⟨d, 0, none⟩)⟩, ⟨1, [], .string path⟩, ⟨2, [], .slice none 0 0⟩]) [0] [0, 1, 2] rfl (by kernel_rfl) ?_
  refine N_then ?_
  refine G_seq ?_
  refine G_seq ?_
  refine G_region ?_
  refine GL_pure (E' := [⟨12, [], .string path⟩, ⟨11, [], .pointer (some ⟨d, 0, none⟩)⟩, ⟨0, [], .pointer (some ⟨d, 0, none⟩)⟩, ⟨1, [], .string path⟩, ⟨2, [], .slice none 0 0⟩]) [0, 0] (by kernel_rfl) (j := 2) rfl ?_
  refine GL_callQ (i := 2) (ch := []) (f := 10) (fst := #[]) (caps := #[]) (vs := [.string path]) (v := .bool (rightB path)) rfl rfl rfl (by kernel_rfl) (by kernel_rfl) Try.func10 rfl rfl (by kernel_rfl) (by kernel_rfl) (by kernel_rfl) (fun _ => vfsRight _ hpath _ _) ?_
  refine GL_call (i := 3) (ch := []) (f := 34) (fst := #[]) (caps := #[]) (vs := [.pointer (some ⟨d, 0, none⟩), .bool (rightB path)]) rfl rfl rfl (by kernel_rfl) (by kernel_rfl) Try.func34 rfl rfl (by kernel_rfl) (by kernel_rfl) (chSure_of (by kernel_rfl)) (vCallBad d nb kb cb room calls bv fails once (rightB path) hr hca _ _) ?_
  rintro v H' ⟨rfl, rfl⟩
  refine GL_fin (E' := [⟨0, [], .pointer (some ⟨d, 0, none⟩)⟩, ⟨1, [], .string path⟩, ⟨2, [], .slice none 0 0⟩, ⟨7, [], .int .i64 2⟩]) [0] [0, 1, 2, 7] rfl (by kernel_rfl) ?_
  refine N_then ?_
  refine G_seq ?_
  refine G_pure (E' := [⟨0, [], .pointer (some ⟨d, 0, none⟩)⟩, ⟨1, [], .string path⟩, ⟨2, [], .slice none 0 0⟩, ⟨7, [], .int .i64 2⟩, ⟨16, [], .bool true⟩]) [0, 0] [0, 1, 2, 7, 16] rfl (by kernel_rfl) ?_
  refine N_then ?_
  refine G_condt (by kernel_rfl) ?_
  refine G_seq ?_
  refine G_pure (E' := [⟨6, [], .int .i64 2⟩]) [0, 0] [6] rfl (by kernel_rfl) ?_
  refine N_then ?_
  refine G_ret ?_
  refine N_then_ret ?_
  refine N_ret [.tmp 6] [.int .i64 2] rfl (by kernel_rfl) rfl ?_
  exact ⟨rfl, rfl⟩

end Go.Proofs.Ytbmieiffboenbaa
