/- The walks of Sync, SyncDir, Remove, Rename. Conditions: the numbers are ints; what the blocks hold is told. -/
import Derived.Test.YtbmieiffboenbaaVe
namespace Go.Proofs.Ytbmieiffboenbaa
open Go.Sw Go.Lib Go.Vf Go.RowKit


theorem vSyncNo (d nb kb cb nc : Nat) (room calls : Int) (bv : Value) (fails once : Bool) (nm : SM) (path : ByteArray) (hpath : path.size ≤ 9223372036854775807) (hca : -9223372036854775808 ≤ calls ∧ calls ≤ 9223372036854775807) (hg : mget nm path = none) (W0 : World) (H : List Grp) : Tri Try.prog 14 #[.pointer (some ⟨d, 0, none⟩), .string path] W0 ([(d, .cells #[.int .i64 room, bv, .map (some nb), .map (some kb), .map (some cb), .bool fails, .bool once, .int .i64 calls] 64 (0, 0))] :: [(nb, .map (encM nm) nc)] :: H) (fun v H' => ((callS fails once calls (rightB path)).1 ≠ 0 ∧ v = .int .i64 (callS fails once calls (rightB path)).1 ∧ H' = ([(d, .cells #[.int .i64 room, bv, .map (some nb), .map (some kb), .map (some cb), .bool ((callS fails once calls (rightB path)).2.1), .bool once, .int .i64 ((callS fails once calls (rightB path)).2.2)] 64 (0, 0))] :: [(nb, .map (encM nm) nc)] :: H)) ∨ ((callS fails once calls (rightB path)).1 = 0 ∧ v = .int .i64 60 ∧ H' = ([(d, .cells #[.int .i64 room, bv, .map (some nb), .map (some kb), .map (some cb), .bool ((callS fails once calls (rightB path)).2.1), .bool once, .int .i64 ((callS fails once calls (rightB path)).2.2)] 64 (0, 0))] :: [(nb, .map (encM nm) nc)] :: H))) := by
  refine Tri_of (args := [.pointer (some ⟨d, 0, none⟩), .string path]) (n := 29) Try.func14 rfl rfl (Nat.le_of_ble_eq_true rfl) ?_
  refine G_seq ?_
  refine G_pure (E' := [⟨0, [], .pointer (some ⟨d, 0, none⟩)⟩, ⟨1, [], .string path⟩]) [0] [0, 1] rfl (by kernel_rfl) ?_
  refine N_then ?_
  refine G_seq ?_
  refine G_seq ?_
  refine G_region ?_
  refine GL_pure (E' := [⟨8, [], .string path⟩, ⟨7, [], .pointer (some ⟨d, 0, none⟩)⟩, ⟨0, [], .pointer (some ⟨d, 0, none⟩)⟩, ⟨1, [], .string path⟩]) [0, 0] (by kernel_rfl) (j := 2) rfl ?_
  refine GL_callQ (i := 2) (ch := []) (f := 10) (fst := #[]) (caps := #[]) (vs := [.string path]) (v := .bool (rightB path)) rfl rfl rfl (by kernel_rfl) (by kernel_rfl) Try.func10 rfl rfl (by kernel_rfl) (by kernel_rfl) (by kernel_rfl) (fun _ => vfsRight _ hpath _ _) ?_
  refine GL_call (i := 3) (ch := []) (f := 34) (fst := #[]) (caps := #[]) (vs := [.pointer (some ⟨d, 0, none⟩), .bool (rightB path)]) rfl rfl rfl (by kernel_rfl) (by kernel_rfl) Try.func34 rfl rfl (by kernel_rfl) (by kernel_rfl) (chSure_of (by kernel_rfl)) (vCall d nb kb cb room calls bv fails once (rightB path) hca _ _) ?_
  rintro v H' ⟨rfl, rfl⟩
  refine GL_fin (E' := [⟨0, [], .pointer (some ⟨d, 0, none⟩)⟩, ⟨1, [], .string path⟩, ⟨5, [], .int .i64 ((callS fails once calls (rightB path)).1)⟩]) [0] [0, 1, 5] rfl (by kernel_rfl) ?_
  refine N_then ?_
  refine G_seq ?_
  refine G_pure (E' := [⟨0, [], .pointer (some ⟨d, 0, none⟩)⟩, ⟨1, [], .string path⟩, ⟨5, [], .int .i64 ((callS fails once calls (rightB path)).1)⟩, ⟨12, [], .bool (((callS fails once calls (rightB path)).1) != 0)⟩]) [0, 0] [0, 1, 5, 12] rfl (by kernel_rfl) ?_
  refine N_then ?_
  refine G_cond (b := ((callS fails once calls (rightB path)).1) != 0) (by kernel_rfl) (fun hc1 => ?_) (fun hc1 => ?_)
  ·
    have hce : (callS fails once calls (rightB path)).1 ≠ 0 := by simpa using hc1
    -- L err
    refine G_seq ?_
    refine G_pure (E' := [⟨4, [], .int .i64 ((callS fails once calls (rightB path)).1)⟩]) [0, 0] [4] rfl (by kernel_rfl) ?_
    refine N_then ?_
    refine G_ret ?_
    refine N_then_ret ?_
    refine N_ret [.tmp 4] [.int .i64 ((callS fails once calls (rightB path)).1)] rfl (by kernel_rfl) rfl ?_
    exact .inl ⟨hce, rfl, rfl⟩
  ·
    have hce : (callS fails once calls (rightB path)).1 = 0 := by simpa using hc1
    refine G_skip ?_
    refine N_then ?_
    refine G_seq ?_
    refine G_region ?_
    refine GL_pure (E' := [⟨16, [], .pointer (some ⟨d, 2, none⟩)⟩, ⟨15, [], .pointer (some ⟨d, 0, none⟩)⟩, ⟨14, [], .pointer (some ⟨d, 0, none⟩)⟩, ⟨0, [], .pointer (some ⟨d, 0, none⟩)⟩, ⟨1, [], .string path⟩, ⟨5, [], .int .i64 ((callS fails once calls (rightB path)).1)⟩, ⟨12, [], .bool (((callS fails once calls (rightB path)).1) != 0)⟩]) [0, 0, 0] (by kernel_rfl) (j := 3) rfl ?_
    refine GL_load (i := 3) (ch := []) (b := d) (off := 2) (v := .map (some nb)) rfl rfl (by kernel_rfl) (by kernel_rfl) (by kernel_rfl) (by kernel_rfl) (by kernel_rfl) (At.grp 0 0 rfl rfl) rfl ?_
    refine GL_pure (E' := [⟨18, [], .string path⟩, ⟨17, [], .map (some nb)⟩, ⟨16, [], .pointer (some ⟨d, 2, none⟩)⟩, ⟨15, [], .pointer (some ⟨d, 0, none⟩)⟩, ⟨14, [], .pointer (some ⟨d, 0, none⟩)⟩, ⟨0, [], .pointer (some ⟨d, 0, none⟩)⟩, ⟨1, [], .string path⟩, ⟨5, [], .int .i64 ((callS fails once calls (rightB path)).1)⟩, ⟨12, [], .bool (((callS fails once calls (rightB path)).1) != 0)⟩]) [0] (by kernel_rfl) (j := 5) rfl ?_
    refine GL_lookup (i := 5) (ch := []) (kt := 9) (et := 66) (r := nb) (c := nc) (m := nm) (k := path) (z := .pointer none) (ov := none) rfl rfl (by kernel_rfl) (by kernel_rfl) (by kernel_rfl) (by kernel_rfl) (by kernel_rfl) (by kernel_rfl) (by kernel_rfl) (by kernel_rfl) (At.grp 1 0 rfl rfl) (fun _ => hg) ?_
    refine GL_fin (E' := [⟨6, [], .pointer none⟩]) [0] [6] rfl (by kernel_rfl) ?_
    refine N_then ?_
    refine G_seq ?_
    refine G_seq ?_
    refine G_pure (E' := [⟨6, [], .pointer none⟩, ⟨21, [], .bool true⟩]) [0, 0] [6, 21] rfl (by kernel_rfl) ?_
    refine N_then ?_
    refine G_condt (by kernel_rfl) ?_
    refine G_seq ?_
    refine G_pure (E' := [⟨4, [], .int .i64 60⟩]) [0] [4] rfl (by kernel_rfl) ?_
    refine N_then ?_
    refine G_ret ?_
    refine N_then_ret ?_
    refine N_ret [.tmp 4] [.int .i64 60] rfl (by kernel_rfl) rfl ?_
    exact .inr ⟨hce, rfl, rfl⟩

theorem vSyncYes (d nb kb cb nc : Nat) (room calls : Int) (bv : Value) (fails once : Bool) (nm : SM) (path : ByteArray) (hpath : path.size ≤ 9223372036854775807) (hca : -9223372036854775808 ≤ calls ∧ calls ≤ 9223372036854775807) (p n cn m ck : Nat) (an ak : Option Addr) (hg : mget nm path = some (.pointer (some ⟨p, 0, none⟩))) (W0 : World) (H : List Grp) : Tri Try.prog 14 #[.pointer (some ⟨d, 0, none⟩), .string path] W0 ([(d, .cells #[.int .i64 room, bv, .map (some nb), .map (some kb), .map (some cb), .bool fails, .bool once, .int .i64 calls] 64 (0, 0))] :: [(nb, .map (encM nm) nc)] :: [(p, .cells #[.slice an n cn, .slice ak m ck] 68 (0, 0))] :: H) (fun v H' => ((callS fails once calls (rightB path)).1 ≠ 0 ∧ v = .int .i64 (callS fails once calls (rightB path)).1 ∧ H' = ([(d, .cells #[.int .i64 room, bv, .map (some nb), .map (some kb), .map (some cb), .bool ((callS fails once calls (rightB path)).2.1), .bool once, .int .i64 ((callS fails once calls (rightB path)).2.2)] 64 (0, 0))] :: [(nb, .map (encM nm) nc)] :: [(p, .cells #[.slice an n cn, .slice ak m ck] 68 (0, 0))] :: H)) ∨ ((callS fails once calls (rightB path)).1 = 0 ∧ v = .int .i64 0 ∧ H' = ([(d, .cells #[.int .i64 room, bv, .map (some nb), .map (some kb), .map (some cb), .bool ((callS fails once calls (rightB path)).2.1), .bool once, .int .i64 ((callS fails once calls (rightB path)).2.2)] 64 (0, 0))] :: [(nb, .map (encM nm) nc)] :: [(p, .cells #[.slice an n cn, .slice an n cn] 68 (0, 0))] :: H))) := by
  refine Tri_of (args := [.pointer (some ⟨d, 0, none⟩), .string path]) (n := 29) Try.func14 rfl rfl (Nat.le_of_ble_eq_true rfl) ?_
  refine G_seq ?_
  refine G_pure (E' := [⟨0, [], .pointer (some ⟨d, 0, none⟩)⟩, ⟨1, [], .string path⟩]) [0] [0, 1] rfl (by kernel_rfl) ?_
  refine N_then ?_
  refine G_seq ?_
  refine G_seq ?_
  refine G_region ?_
  refine GL_pure (E' := [⟨8, [], .string path⟩, ⟨7, [], .pointer (some ⟨d, 0, none⟩)⟩, ⟨0, [], .pointer (some ⟨d, 0, none⟩)⟩, ⟨1, [], .string path⟩]) [0, 0] (by kernel_rfl) (j := 2) rfl ?_
  refine GL_callQ (i := 2) (ch := []) (f := 10) (fst := #[]) (caps := #[]) (vs := [.string path]) (v := .bool (rightB path)) rfl rfl rfl (by kernel_rfl) (by kernel_rfl) Try.func10 rfl rfl (by kernel_rfl) (by kernel_rfl) (by kernel_rfl) (fun _ => vfsRight _ hpath _ _) ?_
  refine GL_call (i := 3) (ch := []) (f := 34) (fst := #[]) (caps := #[]) (vs := [.pointer (some ⟨d, 0, none⟩), .bool (rightB path)]) rfl rfl rfl (by kernel_rfl) (by kernel_rfl) Try.func34 rfl rfl (by kernel_rfl) (by kernel_rfl) (chSure_of (by kernel_rfl)) (vCall d nb kb cb room calls bv fails once (rightB path) hca _ _) ?_
  rintro v H' ⟨rfl, rfl⟩
  refine GL_fin (E' := [⟨0, [], .pointer (some ⟨d, 0, none⟩)⟩, ⟨1, [], .string path⟩, ⟨5, [], .int .i64 ((callS fails once calls (rightB path)).1)⟩]) [0] [0, 1, 5] rfl (by kernel_rfl) ?_
  refine N_then ?_
  refine G_seq ?_
  refine G_pure (E' := [⟨0, [], .pointer (some ⟨d, 0, none⟩)⟩, ⟨1, [], .string path⟩, ⟨5, [], .int .i64 ((callS fails once calls (rightB path)).1)⟩, ⟨12, [], .bool (((callS fails once calls (rightB path)).1) != 0)⟩]) [0, 0] [0, 1, 5, 12] rfl (by kernel_rfl) ?_
  refine N_then ?_
  refine G_cond (b := ((callS fails once calls (rightB path)).1) != 0) (by kernel_rfl) (fun hc1 => ?_) (fun hc1 => ?_)
  ·
    have hce : (callS fails once calls (rightB path)).1 ≠ 0 := by simpa using hc1
    -- L err
    refine G_seq ?_
    refine G_pure (E' := [⟨4, [], .int .i64 ((callS fails once calls (rightB path)).1)⟩]) [0, 0] [4] rfl (by kernel_rfl) ?_
    refine N_then ?_
    refine G_ret ?_
    refine N_then_ret ?_
    refine N_ret [.tmp 4] [.int .i64 ((callS fails once calls (rightB path)).1)] rfl (by kernel_rfl) rfl ?_
    exact .inl ⟨hce, rfl, rfl⟩
  ·
    have hce : (callS fails once calls (rightB path)).1 = 0 := by simpa using hc1
    refine G_skip ?_
    refine N_then ?_
    refine G_seq ?_
    refine G_region ?_
    refine GL_pure (E' := [⟨16, [], .pointer (some ⟨d, 2, none⟩)⟩, ⟨15, [], .pointer (some ⟨d, 0, none⟩)⟩, ⟨14, [], .pointer (some ⟨d, 0, none⟩)⟩, ⟨0, [], .pointer (some ⟨d, 0, none⟩)⟩, ⟨1, [], .string path⟩, ⟨5, [], .int .i64 ((callS fails once calls (rightB path)).1)⟩, ⟨12, [], .bool (((callS fails once calls (rightB path)).1) != 0)⟩]) [0, 0, 0] (by kernel_rfl) (j := 3) rfl ?_
    refine GL_load (i := 3) (ch := []) (b := d) (off := 2) (v := .map (some nb)) rfl rfl (by kernel_rfl) (by kernel_rfl) (by kernel_rfl) (by kernel_rfl) (by kernel_rfl) (At.grp 0 0 rfl rfl) rfl ?_
    refine GL_pure (E' := [⟨18, [], .string path⟩, ⟨17, [], .map (some nb)⟩, ⟨16, [], .pointer (some ⟨d, 2, none⟩)⟩, ⟨15, [], .pointer (some ⟨d, 0, none⟩)⟩, ⟨14, [], .pointer (some ⟨d, 0, none⟩)⟩, ⟨0, [], .pointer (some ⟨d, 0, none⟩)⟩, ⟨1, [], .string path⟩, ⟨5, [], .int .i64 ((callS fails once calls (rightB path)).1)⟩, ⟨12, [], .bool (((callS fails once calls (rightB path)).1) != 0)⟩]) [0] (by kernel_rfl) (j := 5) rfl ?_
    refine GL_lookup (i := 5) (ch := []) (kt := 9) (et := 66) (r := nb) (c := nc) (m := nm) (k := path) (z := .pointer none) (ov := (some (.pointer (some ⟨p, 0, none⟩)))) rfl rfl (by kernel_rfl) (by kernel_rfl) (by kernel_rfl) (by kernel_rfl) (by kernel_rfl) (by kernel_rfl) (by kernel_rfl) (by kernel_rfl) (At.grp 1 0 rfl rfl) (fun _ => hg) ?_
    refine GL_fin (E' := [⟨6, [], .pointer (some ⟨p, 0, none⟩)⟩]) [0] [6] rfl (by kernel_rfl) ?_
    refine N_then ?_
    refine G_seq ?_
    refine G_seq ?_
    refine G_pure (E' := [⟨6, [], .pointer (some ⟨p, 0, none⟩)⟩, ⟨21, [], .bool false⟩]) [0, 0] [6, 21] rfl (by kernel_rfl) ?_
    refine N_then ?_
    refine G_condf (by kernel_rfl) ?_
    refine G_skip ?_
    refine N_then ?_
    refine G_seq ?_
    refine G_region ?_
    refine GL_pure (E' := [⟨25, [], .pointer (some ⟨p, 0, none⟩)⟩, ⟨24, [], .pointer (some ⟨p, 0, none⟩)⟩, ⟨23, [], .pointer (some ⟨p, 0, none⟩)⟩, ⟨22, [], .pointer (some ⟨p, 0, none⟩)⟩, ⟨6, [], .pointer (some ⟨p, 0, none⟩)⟩, ⟨21, [], .bool false⟩]) [0, 0, 0, 0] (by kernel_rfl) (j := 4) rfl ?_
    refine GL_load (i := 4) (ch := []) (b := p) (off := 0) (v := .slice an n cn) rfl rfl (by kernel_rfl) (by kernel_rfl) (by kernel_rfl) (by kernel_rfl) (by kernel_rfl) (At.grp 2 0 rfl rfl) rfl ?_
    refine GL_pure (E' := [⟨28, [], .pointer (some ⟨p, 1, none⟩)⟩, ⟨27, [], .pointer (some ⟨p, 0, none⟩)⟩, ⟨26, [], .slice an n cn⟩, ⟨25, [], .pointer (some ⟨p, 0, none⟩)⟩, ⟨24, [], .pointer (some ⟨p, 0, none⟩)⟩, ⟨23, [], .pointer (some ⟨p, 0, none⟩)⟩, ⟨22, [], .pointer (some ⟨p, 0, none⟩)⟩, ⟨6, [], .pointer (some ⟨p, 0, none⟩)⟩, ⟨21, [], .bool false⟩]) [0, 0] (by kernel_rfl) (j := 7) rfl ?_
    refine GL_store (i := 7) (ch := []) (b := p) (off := 1) (v := .slice an n cn) (c := #[.slice an n cn, .slice ak m ck]) (c' := #[.slice an n cn, .slice an n cn]) (j := 2) (m := 0) (H' := ([(d, .cells #[.int .i64 room, bv, .map (some nb), .map (some kb), .map (some cb), .bool ((callS fails once calls (rightB path)).2.1), .bool once, .int .i64 ((callS fails once calls (rightB path)).2.2)] 64 (0, 0))] :: [(nb, .map (encM nm) nc)] :: [(p, .cells #[.slice an n cn, .slice an n cn] 68 (0, 0))] :: H)) rfl rfl (by kernel_rfl) (by kernel_rfl) (by kernel_rfl) (by kernel_rfl) (by kernel_rfl) (by kernel_rfl) (by kernel_rfl) rfl rfl (Nat.le_of_ble_eq_true rfl) (fun _ _ => thaw0) (by kernel_rfl) (by kernel_rfl) ?_
    refine GL_fin (E' := []) [] [] rfl (by kernel_rfl) ?_
    refine N_then ?_
    refine G_seq ?_
    refine G_pure (E' := [⟨4, [], .int .i64 0⟩]) [0] [4] rfl (by kernel_rfl) ?_
    refine N_then ?_
    refine G_ret ?_
    refine N_ret [.tmp 4] [.int .i64 0] rfl (by kernel_rfl) rfl ?_
    exact .inr ⟨hce, rfl, rfl⟩

theorem vRemoveNo (d nb kb cb nc : Nat) (room calls : Int) (bv : Value) (fails once : Bool) (nm cm : SM) (cc : Nat) (hn : MapOk nm nc) (path : ByteArray) (hpath : path.size ≤ 9223372036854775807) (hca : -9223372036854775808 ≤ calls ∧ calls ≤ 9223372036854775807) (hg : mget nm path = none) (W0 : World) (H : List Grp) : Tri Try.prog 43 #[.pointer (some ⟨d, 0, none⟩), .string path] W0 ([(d, .cells #[.int .i64 room, bv, .map (some nb), .map (some kb), .map (some cb), .bool fails, .bool once, .int .i64 calls] 64 (0, 0))] :: [(nb, .map (encM nm) nc)] :: [(cb, .map (encM cm) cc)] :: H) (fun v H' => ((callS fails once calls (rightB path)).1 ≠ 0 ∧ v = .int .i64 (callS fails once calls (rightB path)).1 ∧ H' = ([(d, .cells #[.int .i64 room, bv, .map (some nb), .map (some kb), .map (some cb), .bool ((callS fails once calls (rightB path)).2.1), .bool once, .int .i64 ((callS fails once calls (rightB path)).2.2)] 64 (0, 0))] :: [(nb, .map (encM nm) nc)] :: [(cb, .map (encM cm) cc)] :: H)) ∨ ((callS fails once calls (rightB path)).1 = 0 ∧ v = .int .i64 60 ∧ H' = ([(d, .cells #[.int .i64 room, bv, .map (some nb), .map (some kb), .map (some cb), .bool ((callS fails once calls (rightB path)).2.1), .bool once, .int .i64 ((callS fails once calls (rightB path)).2.2)] 64 (0, 0))] :: [(nb, .map (encM nm) nc)] :: [(cb, .map (encM cm) cc)] :: H))) := by
  refine Tri_of (args := [.pointer (some ⟨d, 0, none⟩), .string path]) (n := 27) Try.func43 rfl rfl (Nat.le_of_ble_eq_true rfl) ?_
  refine G_seq ?_
  refine G_pure (E' := [⟨0, [], .pointer (some ⟨d, 0, none⟩)⟩, ⟨1, [], .string path⟩]) [0] [0, 1] rfl (by kernel_rfl) ?_
  refine N_then ?_
  refine G_seq ?_
  refine G_seq ?_
  refine G_region ?_
  refine GL_pure (E' := [⟨7, [], .string path⟩, ⟨6, [], .pointer (some ⟨d, 0, none⟩)⟩, ⟨0, [], .pointer (some ⟨d, 0, none⟩)⟩, ⟨1, [], .string path⟩]) [0, 0] (by kernel_rfl) (j := 2) rfl ?_
  refine GL_callQ (i := 2) (ch := []) (f := 10) (fst := #[]) (caps := #[]) (vs := [.string path]) (v := .bool (rightB path)) rfl rfl rfl (by kernel_rfl) (by kernel_rfl) Try.func10 rfl rfl (by kernel_rfl) (by kernel_rfl) (by kernel_rfl) (fun _ => vfsRight _ hpath _ _) ?_
  refine GL_call (i := 3) (ch := []) (f := 34) (fst := #[]) (caps := #[]) (vs := [.pointer (some ⟨d, 0, none⟩), .bool (rightB path)]) rfl rfl rfl (by kernel_rfl) (by kernel_rfl) Try.func34 rfl rfl (by kernel_rfl) (by kernel_rfl) (chSure_of (by kernel_rfl)) (vCall d nb kb cb room calls bv fails once (rightB path) hca _ _) ?_
  rintro v H' ⟨rfl, rfl⟩
  refine GL_fin (E' := [⟨0, [], .pointer (some ⟨d, 0, none⟩)⟩, ⟨1, [], .string path⟩, ⟨5, [], .int .i64 ((callS fails once calls (rightB path)).1)⟩]) [0] [0, 1, 5] rfl (by kernel_rfl) ?_
  refine N_then ?_
  refine G_seq ?_
  refine G_pure (E' := [⟨0, [], .pointer (some ⟨d, 0, none⟩)⟩, ⟨1, [], .string path⟩, ⟨5, [], .int .i64 ((callS fails once calls (rightB path)).1)⟩, ⟨11, [], .bool (((callS fails once calls (rightB path)).1) != 0)⟩]) [0, 0] [0, 1, 5, 11] rfl (by kernel_rfl) ?_
  refine N_then ?_
  refine G_cond (b := ((callS fails once calls (rightB path)).1) != 0) (by kernel_rfl) (fun hc1 => ?_) (fun hc1 => ?_)
  ·
    have hce : (callS fails once calls (rightB path)).1 ≠ 0 := by simpa using hc1
    -- L err
    refine G_seq ?_
    refine G_pure (E' := [⟨4, [], .int .i64 ((callS fails once calls (rightB path)).1)⟩]) [0, 0] [4] rfl (by kernel_rfl) ?_
    refine N_then ?_
    refine G_ret ?_
    refine N_then_ret ?_
    refine N_ret [.tmp 4] [.int .i64 ((callS fails once calls (rightB path)).1)] rfl (by kernel_rfl) rfl ?_
    exact .inl ⟨hce, rfl, rfl⟩
  ·
    have hce : (callS fails once calls (rightB path)).1 = 0 := by simpa using hc1
    refine G_skip ?_
    refine N_then ?_
    refine G_seq ?_
    refine G_seq ?_
    refine G_region ?_
    refine GL_pure (E' := [⟨15, [], .pointer (some ⟨d, 2, none⟩)⟩, ⟨14, [], .pointer (some ⟨d, 0, none⟩)⟩, ⟨13, [], .pointer (some ⟨d, 0, none⟩)⟩, ⟨0, [], .pointer (some ⟨d, 0, none⟩)⟩, ⟨1, [], .string path⟩, ⟨5, [], .int .i64 ((callS fails once calls (rightB path)).1)⟩, ⟨11, [], .bool (((callS fails once calls (rightB path)).1) != 0)⟩]) [0, 0, 0] (by kernel_rfl) (j := 3) rfl ?_
    refine GL_load (i := 3) (ch := []) (b := d) (off := 2) (v := .map (some nb)) rfl rfl (by kernel_rfl) (by kernel_rfl) (by kernel_rfl) (by kernel_rfl) (by kernel_rfl) (At.grp 0 0 rfl rfl) rfl ?_
    refine GL_pure (E' := [⟨17, [], .string path⟩, ⟨16, [], .map (some nb)⟩, ⟨15, [], .pointer (some ⟨d, 2, none⟩)⟩, ⟨14, [], .pointer (some ⟨d, 0, none⟩)⟩, ⟨13, [], .pointer (some ⟨d, 0, none⟩)⟩, ⟨0, [], .pointer (some ⟨d, 0, none⟩)⟩, ⟨1, [], .string path⟩, ⟨5, [], .int .i64 ((callS fails once calls (rightB path)).1)⟩, ⟨11, [], .bool (((callS fails once calls (rightB path)).1) != 0)⟩]) [0] (by kernel_rfl) (j := 5) rfl ?_
    refine GL_lookup (i := 5) (ch := []) (kt := 9) (et := 66) (r := nb) (c := nc) (m := nm) (k := path) (z := .pointer none) (ov := none) rfl rfl (by kernel_rfl) (by kernel_rfl) (by kernel_rfl) (by kernel_rfl) (by kernel_rfl) (by kernel_rfl) (by kernel_rfl) (by kernel_rfl) (At.grp 1 0 rfl rfl) (fun _ => hg) ?_
    refine GL_fin (E' := [⟨0, [], .pointer (some ⟨d, 0, none⟩)⟩, ⟨1, [], .string path⟩, ⟨19, [], .bool true⟩]) [0] [0, 1, 19] rfl (by kernel_rfl) ?_
    refine N_then ?_
    refine G_condt (by kernel_rfl) ?_
    refine G_seq ?_
    refine G_pure (E' := [⟨4, [], .int .i64 60⟩]) [0] [4] rfl (by kernel_rfl) ?_
    refine N_then ?_
    refine G_ret ?_
    refine N_then_ret ?_
    refine N_ret [.tmp 4] [.int .i64 60] rfl (by kernel_rfl) rfl ?_
    exact .inr ⟨hce, rfl, rfl⟩

theorem vRemoveYes (d nb kb cb nc : Nat) (room calls : Int) (bv : Value) (fails once : Bool) (nm cm : SM) (cc : Nat) (hn : MapOk nm nc) (path : ByteArray) (hpath : path.size ≤ 9223372036854775807) (hca : -9223372036854775808 ≤ calls ∧ calls ≤ 9223372036854775807) (p : Nat) (hg : mget nm path = some (.pointer (some ⟨p, 0, none⟩))) (hdir : mget cm (dirB path) = none) (W0 : World) (H : List Grp) : Tri Try.prog 43 #[.pointer (some ⟨d, 0, none⟩), .string path] W0 ([(d, .cells #[.int .i64 room, bv, .map (some nb), .map (some kb), .map (some cb), .bool fails, .bool once, .int .i64 calls] 64 (0, 0))] :: [(nb, .map (encM nm) nc)] :: [(cb, .map (encM cm) cc)] :: H) (fun v H' => ((callS fails once calls (rightB path)).1 ≠ 0 ∧ v = .int .i64 (callS fails once calls (rightB path)).1 ∧ H' = ([(d, .cells #[.int .i64 room, bv, .map (some nb), .map (some kb), .map (some cb), .bool ((callS fails once calls (rightB path)).2.1), .bool once, .int .i64 ((callS fails once calls (rightB path)).2.2)] 64 (0, 0))] :: [(nb, .map (encM nm) nc)] :: [(cb, .map (encM cm) cc)] :: H)) ∨ ((callS fails once calls (rightB path)).1 = 0 ∧ v = .int .i64 0 ∧ ∃ q x g, Own 72 1 x g 1 [.map (some q)] ∧ H' = ([(d, .cells #[.int .i64 room, bv, .map (some nb), .map (some kb), .map (some cb), .bool ((callS fails once calls (rightB path)).2.1), .bool once, .int .i64 ((callS fails once calls (rightB path)).2.2)] 64 (0, 0))]  :: [(nb, .map (encM (foldS (nm, nc) [(path, .pointer none, 0)]).1) (foldS (nm, nc) [(path, .pointer none, 0)]).2)] :: [(cb, .map (encM (mput cm cc (dirB path) x)) (if mhas cm (dirB path) then cc else cc + 1))] :: g :: [(q, .map (encM [(path, .pointer none, 0)]) 1)] :: H))) := by
  refine Tri_of (args := [.pointer (some ⟨d, 0, none⟩), .string path]) (n := 27) Try.func43 rfl rfl (Nat.le_of_ble_eq_true rfl) ?_
  refine G_seq ?_
  refine G_pure (E' := [⟨0, [], .pointer (some ⟨d, 0, none⟩)⟩, ⟨1, [], .string path⟩]) [0] [0, 1] rfl (by kernel_rfl) ?_
  refine N_then ?_
  refine G_seq ?_
  refine G_seq ?_
  refine G_region ?_
  refine GL_pure (E' := [⟨7, [], .string path⟩, ⟨6, [], .pointer (some ⟨d, 0, none⟩)⟩, ⟨0, [], .pointer (some ⟨d, 0, none⟩)⟩, ⟨1, [], .string path⟩]) [0, 0] (by kernel_rfl) (j := 2) rfl ?_
  refine GL_callQ (i := 2) (ch := []) (f := 10) (fst := #[]) (caps := #[]) (vs := [.string path]) (v := .bool (rightB path)) rfl rfl rfl (by kernel_rfl) (by kernel_rfl) Try.func10 rfl rfl (by kernel_rfl) (by kernel_rfl) (by kernel_rfl) (fun _ => vfsRight _ hpath _ _) ?_
  refine GL_call (i := 3) (ch := []) (f := 34) (fst := #[]) (caps := #[]) (vs := [.pointer (some ⟨d, 0, none⟩), .bool (rightB path)]) rfl rfl rfl (by kernel_rfl) (by kernel_rfl) Try.func34 rfl rfl (by kernel_rfl) (by kernel_rfl) (chSure_of (by kernel_rfl)) (vCall d nb kb cb room calls bv fails once (rightB path) hca _ _) ?_
  rintro v H' ⟨rfl, rfl⟩
  refine GL_fin (E' := [⟨0, [], .pointer (some ⟨d, 0, none⟩)⟩, ⟨1, [], .string path⟩, ⟨5, [], .int .i64 ((callS fails once calls (rightB path)).1)⟩]) [0] [0, 1, 5] rfl (by kernel_rfl) ?_
  refine N_then ?_
  refine G_seq ?_
  refine G_pure (E' := [⟨0, [], .pointer (some ⟨d, 0, none⟩)⟩, ⟨1, [], .string path⟩, ⟨5, [], .int .i64 ((callS fails once calls (rightB path)).1)⟩, ⟨11, [], .bool (((callS fails once calls (rightB path)).1) != 0)⟩]) [0, 0] [0, 1, 5, 11] rfl (by kernel_rfl) ?_
  refine N_then ?_
  refine G_cond (b := ((callS fails once calls (rightB path)).1) != 0) (by kernel_rfl) (fun hc1 => ?_) (fun hc1 => ?_)
  ·
    have hce : (callS fails once calls (rightB path)).1 ≠ 0 := by simpa using hc1
    -- L err
    refine G_seq ?_
    refine G_pure (E' := [⟨4, [], .int .i64 ((callS fails once calls (rightB path)).1)⟩]) [0, 0] [4] rfl (by kernel_rfl) ?_
    refine N_then ?_
    refine G_ret ?_
    refine N_then_ret ?_
    refine N_heap (H' := ([(d, .cells #[.int .i64 room, bv, .map (some nb), .map (some kb), .map (some cb), .bool ((callS fails once calls (rightB path)).2.1), .bool once, .int .i64 ((callS fails once calls (rightB path)).2.2)] 64 (0, 0))] :: [(nb, .map (encM nm) nc)] :: [(cb, .map (encM cm) cc)] :: H)) (fun w h => (((h.front (j := 2) rfl).front (j := 2) rfl).front (j := 2) rfl)) ?_
    refine N_ret [.tmp 4] [.int .i64 ((callS fails once calls (rightB path)).1)] rfl (by kernel_rfl) rfl ?_
    exact .inl ⟨hce, rfl, rfl⟩
  ·
    have hce : (callS fails once calls (rightB path)).1 = 0 := by simpa using hc1
    refine G_skip ?_
    refine N_then ?_
    refine G_seq ?_
    refine G_seq ?_
    refine G_region ?_
    refine GL_pure (E' := [⟨15, [], .pointer (some ⟨d, 2, none⟩)⟩, ⟨14, [], .pointer (some ⟨d, 0, none⟩)⟩, ⟨13, [], .pointer (some ⟨d, 0, none⟩)⟩, ⟨0, [], .pointer (some ⟨d, 0, none⟩)⟩, ⟨1, [], .string path⟩, ⟨5, [], .int .i64 ((callS fails once calls (rightB path)).1)⟩, ⟨11, [], .bool (((callS fails once calls (rightB path)).1) != 0)⟩]) [0, 0, 0] (by kernel_rfl) (j := 3) rfl ?_
    refine GL_load (i := 3) (ch := []) (b := d) (off := 2) (v := .map (some nb)) rfl rfl (by kernel_rfl) (by kernel_rfl) (by kernel_rfl) (by kernel_rfl) (by kernel_rfl) (At.grp 0 0 rfl rfl) rfl ?_
    refine GL_pure (E' := [⟨17, [], .string path⟩, ⟨16, [], .map (some nb)⟩, ⟨15, [], .pointer (some ⟨d, 2, none⟩)⟩, ⟨14, [], .pointer (some ⟨d, 0, none⟩)⟩, ⟨13, [], .pointer (some ⟨d, 0, none⟩)⟩, ⟨0, [], .pointer (some ⟨d, 0, none⟩)⟩, ⟨1, [], .string path⟩, ⟨5, [], .int .i64 ((callS fails once calls (rightB path)).1)⟩, ⟨11, [], .bool (((callS fails once calls (rightB path)).1) != 0)⟩]) [0] (by kernel_rfl) (j := 5) rfl ?_
    refine GL_lookup (i := 5) (ch := []) (kt := 9) (et := 66) (r := nb) (c := nc) (m := nm) (k := path) (z := .pointer none) (ov := (some (.pointer (some ⟨p, 0, none⟩)))) rfl rfl (by kernel_rfl) (by kernel_rfl) (by kernel_rfl) (by kernel_rfl) (by kernel_rfl) (by kernel_rfl) (by kernel_rfl) (by kernel_rfl) (At.grp 1 0 rfl rfl) (fun _ => hg) ?_
    refine GL_fin (E' := [⟨0, [], .pointer (some ⟨d, 0, none⟩)⟩, ⟨1, [], .string path⟩, ⟨19, [], .bool false⟩]) [0] [0, 1, 19] rfl (by kernel_rfl) ?_
    refine N_then ?_
    refine G_condf (by kernel_rfl) ?_
    refine G_skip ?_
    refine N_then ?_
    refine G_seq ?_
    refine G_region ?_
    refine GL_pure (E' := [⟨21, [], .string path⟩, ⟨20, [], .pointer (some ⟨d, 0, none⟩)⟩, ⟨0, [], .pointer (some ⟨d, 0, none⟩)⟩, ⟨1, [], .string path⟩, ⟨19, [], .bool false⟩]) [0, 0] (by kernel_rfl) (j := 2) rfl ?_
    refine GL_callQ (i := 2) (ch := []) (f := 37) (fst := #[]) (caps := #[]) (vs := [.string path]) (v := .string (dirB path)) rfl rfl rfl (by kernel_rfl) (by kernel_rfl) Try.func37 rfl rfl (by kernel_rfl) (by kernel_rfl) (by kernel_rfl) (fun _ => vfsDirOf _ hpath _ _) ?_
    refine GL_makeMap (i := 3) (ch := []) rfl rfl (by kernel_rfl) (by kernel_rfl) (by kernel_rfl) (fun b2 => ?_)
    refine GL_pure (E' := [⟨24, [], .string path⟩, ⟨23, [], .map (some b2)⟩, ⟨22, [], .string (dirB path)⟩, ⟨21, [], .string path⟩, ⟨20, [], .pointer (some ⟨d, 0, none⟩)⟩, ⟨0, [], .pointer (some ⟨d, 0, none⟩)⟩, ⟨1, [], .string path⟩, ⟨19, [], .bool false⟩]) [0] (by kernel_rfl) (j := 5) rfl ?_
    refine GL_mapPut (i := 5) (ch := []) (kt := 9) (et := 66) (r := b2) (c := 0) (j := 0) (q := 0) (m := []) (k := path) (v := .pointer none) (H' := ([(b2, .map (encM ([(path, .pointer none, 0)])) 1)] :: [(d, .cells #[.int .i64 room, bv, .map (some nb), .map (some kb), .map (some cb), .bool ((callS fails once calls (rightB path)).2.1), .bool once, .int .i64 ((callS fails once calls (rightB path)).2.2)] 64 (0, 0))] :: [(nb, .map (encM nm) nc)] :: [(cb, .map (encM cm) cc)] :: H)) rfl (.inr rfl) (by kernel_rfl) (by kernel_rfl) (by kernel_rfl) (by kernel_rfl) (by kernel_rfl) (by kernel_rfl) (by kernel_rfl) (by kernel_rfl) rfl rfl rfl ?_
    refine GL_pure (E' := [⟨25, [], .map (some b2)⟩, ⟨24, [], .string path⟩, ⟨23, [], .map (some b2)⟩, ⟨22, [], .string (dirB path)⟩, ⟨21, [], .string path⟩, ⟨20, [], .pointer (some ⟨d, 0, none⟩)⟩, ⟨0, [], .pointer (some ⟨d, 0, none⟩)⟩, ⟨1, [], .string path⟩, ⟨19, [], .bool false⟩]) [0] (by kernel_rfl) (j := 7) rfl ?_
    refine GL_heap rfl (H' := ([(d, .cells #[.int .i64 room, bv, .map (some nb), .map (some kb), .map (some cb), .bool ((callS fails once calls (rightB path)).2.1), .bool once, .int .i64 ((callS fails once calls (rightB path)).2.2)] 64 (0, 0))] :: [(nb, .map (encM nm) nc)] :: [(cb, .map (encM cm) cc)] :: [(b2, .map (encM ([(path, .pointer none, 0)])) 1)] :: H)) (fun w h => (((h.front (j := 3) rfl).front (j := 3) rfl).front (j := 3) rfl)) ?_
    refine GL_call (i := 7) (ch := []) (f := 36) (fst := #[]) (caps := #[]) (vs := [.pointer (some ⟨d, 0, none⟩), .string (dirB path), .map (some b2)]) rfl rfl rfl (by kernel_rfl) (by kernel_rfl) Try.func36 rfl rfl (by kernel_rfl) (by kernel_rfl) (chSure_of (by kernel_rfl)) (vNameNew d nb kb cb b2 nc cc 1 room ((callS fails once calls (rightB path)).2.2) bv ((callS fails once calls (rightB path)).2.1) once nm cm ([(path, .pointer none, 0)]) (dirB path) hn (mapok1 _ _) (hv0 _) hdir _ _ (At.grp 0 0 rfl rfl)) ?_
    rintro v H' ⟨dn3, x4, g5, hdn6, hO7, rfl, rfl⟩
    refine GL_fin (E' := []) [] [] rfl (by kernel_rfl) ?_
    refine N_then ?_
    refine G_seq ?_
    refine G_pure (E' := [⟨4, [], .int .i64 0⟩]) [0] [4] rfl (by kernel_rfl) ?_
    refine N_then ?_
    refine G_ret ?_
    refine N_heap (H' := ([(d, .cells #[.int .i64 room, bv, .map (some nb), .map (some kb), .map (some cb), .bool ((callS fails once calls (rightB path)).2.1), .bool once, .int .i64 ((callS fails once calls (rightB path)).2.2)] 64 (0, 0))] :: [(nb, .map (encM ((foldS (nm, nc) dn3).1)) ((foldS (nm, nc) dn3).2))] :: [(cb, .map (encM (mput cm cc (dirB path) x4)) (if mhas cm (dirB path) then cc else cc + 1))] :: g5 :: [(b2, .map (encM ([(path, .pointer none, 0)])) 1)] :: H)) (fun w h => (((((h.front (j := 4) rfl).front (j := 4) rfl).front (j := 4) rfl).front (j := 4) rfl).front (j := 4) rfl)) ?_
    refine N_ret [.tmp 4] [.int .i64 0] rfl (by kernel_rfl) rfl ?_
    have hdn1 := List.perm_singleton.1 hdn6
    subst hdn1
    exact .inr ⟨hce, rfl, _, x4, g5, hO7, rfl⟩

theorem vSyncDirNo (d nb kb cb kc cc : Nat) (room calls : Int) (bv : Value) (fails once : Bool) (km cm : SM) (dir : ByteArray) (hdir : dir.size ≤ 9223372036854775807) (hca : -9223372036854775808 ≤ calls ∧ calls ≤ 9223372036854775807) (hk : MapOk km kc) (hg : mget cm dir = none) (W0 : World) (H : List Grp) : Tri Try.prog 15 #[.pointer (some ⟨d, 0, none⟩), .string dir] W0 ([(d, .cells #[.int .i64 room, bv, .map (some nb), .map (some kb), .map (some cb), .bool fails, .bool once, .int .i64 calls] 64 (0, 0))] :: [(kb, .map (encM km) kc)] :: [(cb, .map (encM cm) cc)] :: H) (fun v H' => ((callS fails once calls ((dir.toList == (ByteArray.mk #[]).toList) || partB dir)).1 ≠ 0 ∧ v = .int .i64 (callS fails once calls ((dir.toList == (ByteArray.mk #[]).toList) || partB dir)).1 ∧ H' = ([(d, .cells #[.int .i64 room, bv, .map (some nb), .map (some kb), .map (some cb), .bool ((callS fails once calls ((dir.toList == (ByteArray.mk #[]).toList) || partB dir)).2.1), .bool once, .int .i64 ((callS fails once calls ((dir.toList == (ByteArray.mk #[]).toList) || partB dir)).2.2)] 64 (0, 0))] :: [(kb, .map (encM km) kc)] :: [(cb, .map (encM cm) cc)] :: H)) ∨ ((callS fails once calls ((dir.toList == (ByteArray.mk #[]).toList) || partB dir)).1 = 0 ∧ v = .int .i64 0 ∧ H' = ([(d, .cells #[.int .i64 room, bv, .map (some nb), .map (some kb), .map (some cb), .bool ((callS fails once calls ((dir.toList == (ByteArray.mk #[]).toList) || partB dir)).2.1), .bool once, .int .i64 ((callS fails once calls ((dir.toList == (ByteArray.mk #[]).toList) || partB dir)).2.2)] 64 (0, 0))] :: [(kb, .map (encM km) kc)] :: [(cb, .map (encM (mdel cm dir)) cc)] :: H))) := by
  refine Tri_of (args := [.pointer (some ⟨d, 0, none⟩), .string dir]) (n := 42) Try.func15 rfl rfl (Nat.le_of_ble_eq_true rfl) ?_
  refine G_seq ?_
  refine G_pure (E' := [⟨0, [], .pointer (some ⟨d, 0, none⟩)⟩, ⟨1, [], .string dir⟩]) [0] [0, 1] rfl (by kernel_rfl) ?_
  refine N_then ?_
  refine G_seq ?_
  refine G_seq ?_
  refine G_region ?_
  refine GL_pure (E' := [⟨12, [(11, false)], .string dir⟩, ⟨11, [], .bool (dir.toList == (ByteArray.mk #[]).toList)⟩, ⟨10, [], .bool (dir.toList == (ByteArray.mk #[]).toList)⟩, ⟨9, [], .string dir⟩, ⟨8, [], .pointer (some ⟨d, 0, none⟩)⟩, ⟨0, [], .pointer (some ⟨d, 0, none⟩)⟩, ⟨1, [], .string dir⟩]) [0, 0, 0, 0, 0] (by kernel_rfl) (j := 5) rfl ?_
  refine GL_callQ (i := 5) (ch := [(11, false)]) (f := 32) (fst := #[]) (caps := #[]) (vs := [.string dir]) (v := .bool (partB dir)) rfl rfl rfl (by kernel_rfl) (by kernel_rfl) Try.func32 rfl rfl (by kernel_rfl) (by kernel_rfl) (by kernel_rfl) (fun hc => vfsPart _ hdir _ _) ?_
  refine GL_pure (E' := [⟨14, [], .bool ((dir.toList == (ByteArray.mk #[]).toList) || (partB dir))⟩, ⟨13, [(11, false)], .bool (partB dir)⟩, ⟨12, [(11, false)], .string dir⟩, ⟨11, [], .bool (dir.toList == (ByteArray.mk #[]).toList)⟩, ⟨10, [], .bool (dir.toList == (ByteArray.mk #[]).toList)⟩, ⟨9, [], .string dir⟩, ⟨8, [], .pointer (some ⟨d, 0, none⟩)⟩, ⟨0, [], .pointer (some ⟨d, 0, none⟩)⟩, ⟨1, [], .string dir⟩]) [5] (by kernel_rfl) (j := 7) rfl ?_
  refine GL_call (i := 7) (ch := []) (f := 34) (fst := #[]) (caps := #[]) (vs := [.pointer (some ⟨d, 0, none⟩), .bool ((dir.toList == (ByteArray.mk #[]).toList) || (partB dir))]) rfl rfl rfl (by kernel_rfl) (by kernel_rfl) Try.func34 rfl rfl (by kernel_rfl) (by kernel_rfl) (chSure_of (by kernel_rfl)) (vCall d nb kb cb room calls bv fails once ((dir.toList == (ByteArray.mk #[]).toList) || (partB dir)) hca _ _) ?_
  rintro v H' ⟨rfl, rfl⟩
  refine GL_fin (E' := [⟨0, [], .pointer (some ⟨d, 0, none⟩)⟩, ⟨1, [], .string dir⟩, ⟨5, [], .int .i64 ((callS fails once calls ((dir.toList == (ByteArray.mk #[]).toList) || (partB dir))).1)⟩]) [0] [0, 1, 5] rfl (by kernel_rfl) ?_
  refine N_then ?_
  refine G_seq ?_
  refine G_pure (E' := [⟨0, [], .pointer (some ⟨d, 0, none⟩)⟩, ⟨1, [], .string dir⟩, ⟨5, [], .int .i64 ((callS fails once calls ((dir.toList == (ByteArray.mk #[]).toList) || (partB dir))).1)⟩, ⟨17, [], .bool (((callS fails once calls ((dir.toList == (ByteArray.mk #[]).toList) || (partB dir))).1) != 0)⟩]) [0, 0] [0, 1, 5, 17] rfl (by kernel_rfl) ?_
  refine N_then ?_
  refine G_cond (b := ((callS fails once calls ((dir.toList == (ByteArray.mk #[]).toList) || (partB dir))).1) != 0) (by kernel_rfl) (fun hc1 => ?_) (fun hc1 => ?_)
  ·
    have hce : (callS fails once calls ((dir.toList == (ByteArray.mk #[]).toList) || partB dir)).1 ≠ 0 := by simpa using hc1
    -- L err
    refine G_seq ?_
    refine G_pure (E' := [⟨4, [], .int .i64 ((callS fails once calls ((dir.toList == (ByteArray.mk #[]).toList) || (partB dir))).1)⟩]) [0, 0] [4] rfl (by kernel_rfl) ?_
    refine N_then ?_
    refine G_ret ?_
    refine N_then_ret ?_
    refine N_ret [.tmp 4] [.int .i64 ((callS fails once calls ((dir.toList == (ByteArray.mk #[]).toList) || (partB dir))).1)] rfl (by kernel_rfl) rfl ?_
    exact .inl ⟨hce, rfl, rfl⟩
  ·
    have hce : (callS fails once calls ((dir.toList == (ByteArray.mk #[]).toList) || partB dir)).1 = 0 := by simpa using hc1
    refine G_skip ?_
    refine N_then ?_
    refine G_seq ?_
    refine G_seq ?_
    refine G_region ?_
    refine GL_pure (E' := [⟨21, [], .pointer (some ⟨d, 4, none⟩)⟩, ⟨20, [], .pointer (some ⟨d, 0, none⟩)⟩, ⟨19, [], .pointer (some ⟨d, 0, none⟩)⟩, ⟨0, [], .pointer (some ⟨d, 0, none⟩)⟩, ⟨1, [], .string dir⟩, ⟨5, [], .int .i64 ((callS fails once calls ((dir.toList == (ByteArray.mk #[]).toList) || (partB dir))).1)⟩, ⟨17, [], .bool (((callS fails once calls ((dir.toList == (ByteArray.mk #[]).toList) || (partB dir))).1) != 0)⟩]) [0, 0, 0] (by kernel_rfl) (j := 3) rfl ?_
    refine GL_load (i := 3) (ch := []) (b := d) (off := 4) (v := .map (some cb)) rfl rfl (by kernel_rfl) (by kernel_rfl) (by kernel_rfl) (by kernel_rfl) (by kernel_rfl) (At.grp 0 0 rfl rfl) rfl ?_
    refine GL_pure (E' := [⟨23, [], .string dir⟩, ⟨22, [], .map (some cb)⟩, ⟨21, [], .pointer (some ⟨d, 4, none⟩)⟩, ⟨20, [], .pointer (some ⟨d, 0, none⟩)⟩, ⟨19, [], .pointer (some ⟨d, 0, none⟩)⟩, ⟨0, [], .pointer (some ⟨d, 0, none⟩)⟩, ⟨1, [], .string dir⟩, ⟨5, [], .int .i64 ((callS fails once calls ((dir.toList == (ByteArray.mk #[]).toList) || (partB dir))).1)⟩, ⟨17, [], .bool (((callS fails once calls ((dir.toList == (ByteArray.mk #[]).toList) || (partB dir))).1) != 0)⟩]) [0] (by kernel_rfl) (j := 5) rfl ?_
    refine GL_lookup (i := 5) (ch := []) (kt := 9) (et := 73) (r := cb) (c := cc) (m := cm) (k := dir) (z := .slice none 0 0) (ov := none) rfl rfl (by kernel_rfl) (by kernel_rfl) (by kernel_rfl) (by kernel_rfl) (by kernel_rfl) (by kernel_rfl) (by kernel_rfl) (by kernel_rfl) (At.grp 2 0 rfl rfl) (fun _ => hg) ?_
    refine GL_fin (E' := [⟨0, [], .pointer (some ⟨d, 0, none⟩)⟩, ⟨1, [], .string dir⟩, ⟨24, [], .slice none 0 0⟩, ⟨25, [], .int .i64 0⟩, ⟨26, [], .int .i64 0⟩]) [0, 0] [0, 1, 24, 25, 26] rfl (by kernel_rfl) ?_
    refine N_then ?_
    refine G_block ?_
    refine G_loop (EI := (fun ξ : Unit => [⟨0, [], .pointer (some ⟨d, 0, none⟩)⟩, ⟨1, [], .string dir⟩, ⟨24, [], .slice none 0 0⟩, ⟨25, [], .int .i64 0⟩, ⟨26, [], .int .i64 0⟩])) (HI := (fun ξ : Unit => ([(d, .cells #[.int .i64 room, bv, .map (some nb), .map (some kb), .map (some cb), .bool ((callS fails once calls ((dir.toList == (ByteArray.mk #[]).toList) || (partB dir))).2.1), .bool once, .int .i64 ((callS fails once calls ((dir.toList == (ByteArray.mk #[]).toList) || (partB dir))).2.2)] 64 (0, 0))] :: [(kb, .map (encM km) kc)] :: [(cb, .map (encM cm) cc)] :: H))) (Φ := (fun ξ : Unit => True)) (μ := (fun ξ : Unit => 0)) (s0 := (())) [0, 1, 24, 25, 26] (by kernel_rfl) rfl trivial ?_
    rintro u _
    refine G_seq ?_
    refine G_pure (E' := [⟨0, [], .pointer (some ⟨d, 0, none⟩)⟩, ⟨1, [], .string dir⟩, ⟨24, [], .slice none 0 0⟩, ⟨25, [], .int .i64 0⟩, ⟨26, [], .int .i64 0⟩, ⟨27, [], .bool false⟩]) [0] [0, 1, 24, 25, 26, 27] rfl (by kernel_rfl) ?_
    refine N_then ?_
    refine G_seq ?_
    refine G_condf (by kernel_rfl) ?_
    refine G_exit ?_
    refine N_then_exit ?_
    refine N_then_exit ?_
    refine N_block_exit ?_
    refine N_then ?_
    refine G_seq ?_
    refine G_region ?_
    refine GL_pure (E' := [⟨39, [], .pointer (some ⟨d, 4, none⟩)⟩, ⟨38, [], .pointer (some ⟨d, 0, none⟩)⟩, ⟨37, [], .pointer (some ⟨d, 0, none⟩)⟩, ⟨0, [], .pointer (some ⟨d, 0, none⟩)⟩, ⟨1, [], .string dir⟩, ⟨24, [], .slice none 0 0⟩, ⟨25, [], .int .i64 0⟩, ⟨26, [], .int .i64 0⟩, ⟨27, [], .bool false⟩]) [0, 0, 0] (by kernel_rfl) (j := 3) rfl ?_
    refine GL_load (i := 3) (ch := []) (b := d) (off := 4) (v := .map (some cb)) rfl rfl (by kernel_rfl) (by kernel_rfl) (by kernel_rfl) (by kernel_rfl) (by kernel_rfl) (At.grp 0 0 rfl rfl) rfl ?_
    refine GL_pure (E' := [⟨41, [], .string dir⟩, ⟨40, [], .map (some cb)⟩, ⟨39, [], .pointer (some ⟨d, 4, none⟩)⟩, ⟨38, [], .pointer (some ⟨d, 0, none⟩)⟩, ⟨37, [], .pointer (some ⟨d, 0, none⟩)⟩, ⟨0, [], .pointer (some ⟨d, 0, none⟩)⟩, ⟨1, [], .string dir⟩, ⟨24, [], .slice none 0 0⟩, ⟨25, [], .int .i64 0⟩, ⟨26, [], .int .i64 0⟩, ⟨27, [], .bool false⟩]) [0] (by kernel_rfl) (j := 5) rfl ?_
    refine GL_delete (i := 5) (ch := []) (ts := #[61, 9]) (t := 61) (kt := 9) (et := 73) (r := cb) (c := cc) (j := 2) (q := 0) (m := cm) (k := dir) (H' := ([(d, .cells #[.int .i64 room, bv, .map (some nb), .map (some kb), .map (some cb), .bool ((callS fails once calls ((dir.toList == (ByteArray.mk #[]).toList) || (partB dir))).2.1), .bool once, .int .i64 ((callS fails once calls ((dir.toList == (ByteArray.mk #[]).toList) || (partB dir))).2.2)] 64 (0, 0))] :: [(kb, .map (encM km) kc)] :: [(cb, .map (encM (mdel cm dir)) cc)] :: H)) rfl rfl rfl rfl rfl (by kernel_rfl) (by kernel_rfl) (by kernel_rfl) (by kernel_rfl) (by kernel_rfl) (by kernel_rfl) rfl rfl rfl ?_
    refine GL_fin (E' := []) [] [] rfl (by kernel_rfl) ?_
    refine N_then ?_
    refine G_seq ?_
    refine G_pure (E' := [⟨4, [], .int .i64 0⟩]) [0] [4] rfl (by kernel_rfl) ?_
    refine N_then ?_
    refine G_ret ?_
    refine N_ret [.tmp 4] [.int .i64 0] rfl (by kernel_rfl) rfl ?_
    exact .inr ⟨hce, rfl, rfl⟩

end Go.Proofs.Ytbmieiffboenbaa
