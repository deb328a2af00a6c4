/- The walks of the disk's calls that change names, over all rows. Conditions: the numbers are ints; what the blocks hold is told. -/
import Derived.Test.YtbmieiffboenbaaRow
namespace Go.Proofs.Ytbmieiffboenbaa
open Go.Sw Go.Lib Go.Vf Go.RowKit

/-- a rename's change, its entries made in either order -/
def RenC (path to : ByteArray) (p : Nat) (m : SM) (c : Nat) : Prop :=
  (m = mput [(to, .pointer (some ⟨p, 0, none⟩), 0)] 1 path (.pointer none) ∧ c = if mhas [(to, .pointer (some ⟨p, 0, none⟩), 0)] path then 1 else 1 + 1) ∨
  (m = mput [(path, .pointer none, 0)] 1 to (.pointer (some ⟨p, 0, none⟩)) ∧ c = if mhas [(path, .pointer none, 0)] to then 1 else 1 + 1)
theorem hvput {m : SM} {c : Nat} {k : ByteArray} {v : Value} {Q : Value → Prop} (h : ∀ e ∈ m, Q e.2.1) (hv : Q v) : ∀ e ∈ mput m c k v, Q e.2.1 := by
  induction m with
  | nil => intro e he; rw [mput, List.mem_singleton] at he; subst he; exact hv
  | cons x m ih =>
    intro e he
    rw [mput] at he
    split at he
    · rcases List.mem_cons.1 he with rfl | he
      · exact hv
      · exact h e (List.mem_cons_of_mem _ he)
    · rcases List.mem_cons.1 he with rfl | he
      · exact h _ List.mem_cons_self
      · exact ih (fun y hy => h y (List.mem_cons_of_mem _ hy)) e he


theorem vRemove (d nb kb cb nc cc : Nat) (room calls : Int) (bv : Value) (fails once : Bool) (nm cm : SM) (path : ByteArray) (hpath : path.size ≤ 9223372036854775807) (hca : -9223372036854775808 ≤ calls ∧ calls ≤ 9223372036854775807) (hn : MapOk nm nc) (rows : List RW) (hR : RowsOk cm rows) (hl : ∀ r ∈ rows, r.qs.length ≤ 1000000) (p : Nat) (hg : mget nm path = some (.pointer (some ⟨p, 0, none⟩))) (W0 : World) (H : List Grp) : Tri Try.prog 43 #[.pointer (some ⟨d, 0, none⟩), .string path] W0 ([(d, .cells #[.int .i64 room, bv, .map (some nb), .map (some kb), .map (some cb), .bool fails, .bool once, .int .i64 calls] 64 (0, 0))] :: [(nb, .map (encM nm) nc)] :: [(cb, .map (encM cm) cc)] :: (rowsG rows ++ H)) (fun v H' => ((callS fails once calls (rightB path)).1 ≠ 0 ∧ v = .int .i64 (callS fails once calls (rightB path)).1 ∧ H' = ([(d, .cells #[.int .i64 room, bv, .map (some nb), .map (some kb), .map (some cb), .bool ((callS fails once calls (rightB path)).2.1), .bool once, .int .i64 ((callS fails once calls (rightB path)).2.2)] 64 (0, 0))] :: [(nb, .map (encM nm) nc)] :: [(cb, .map (encM cm) cc)] :: (rowsG rows ++ H))) ∨ ((callS fails once calls (rightB path)).1 = 0 ∧ v = .int .i64 0 ∧ ∃ q x rows1, RowsOk (mput cm cc (dirB path) x) rows1 ∧ RowsAdd rows (dirB path) q rows1 ∧ H' = ([(d, .cells #[.int .i64 room, bv, .map (some nb), .map (some kb), .map (some cb), .bool ((callS fails once calls (rightB path)).2.1), .bool once, .int .i64 ((callS fails once calls (rightB path)).2.2)] 64 (0, 0))]  :: [(nb, .map (encM (foldS (nm, nc) [(path, .pointer none, 0)]).1) (foldS (nm, nc) [(path, .pointer none, 0)]).2)] :: [(cb, .map (encM (mput cm cc (dirB path) x)) (if mhas cm (dirB path) then cc else cc + 1))] :: [(q, .map (encM [(path, .pointer none, 0)]) 1)] :: (rowsG rows1 ++ H)))) := by
  refine Tri_of (args := [.pointer (some ⟨d, 0, none⟩), .string path]) (n := 27) Try.func43 rfl rfl (Nat.le_of_ble_eq_true rfl) ?_
  refine G_seq ?_
  refine G_pure (E' := [⟨0, [], .pointer (some ⟨d, 0, none⟩)⟩, ⟨1, [], .string path⟩]) [0] [0, 1] rfl (by kernel_rfl) ?_
  refine N_then ?_
  refine G_seq ?_
  refine G_seq ?_
  refine G_region ?_
  refine GL_pure (E' := [⟨7, [], .string path⟩, ⟨6, [], .pointer (some ⟨d, 0, none⟩)⟩, ⟨0, [], .pointer (some ⟨d, 0, none⟩)⟩, ⟨1, [], .string path⟩]) [0, 0] (by kernel_rfl) (j := 2) rfl ?_
  refine GL_callQ (i := 2) (ch := []) (f := 10) (fst := #[]) (caps := #[]) (vs := [.string path]) (v := .bool (rightB path)) rfl rfl rfl (by kernel_rfl) (by kernel_rfl) Try.func10 rfl rfl (by kernel_rfl) (by kernel_rfl) (by kernel_rfl) (fun _ => vfsRight _ hpath _ _) ?_
  refine GL_call (i := 3) (ch := []) (f := 34) (fst := #[]) (caps := #[]) (vs := [.pointer (some ⟨d, 0, none⟩), .bool (rightB path)]) rfl rfl rfl (by kernel_rfl) (by kernel_rfl) Try.func34 rfl rfl (by kernel_rfl) (by kernel_rfl) (chSure_of (by kernel_rfl)) (vCall d nb kb cb room calls bv fails once (rightB path) hca _ _) ?_
  rintro v H' ⟨rfl, rfl⟩
  refine GL_fin (E' := [⟨0, [], .pointer (some ⟨d, 0, none⟩)⟩, ⟨1, [], .string path⟩, ⟨5, [], .int .i64 ((callS fails once calls (rightB path)).1)⟩]) [0] [0, 1, 5] rfl (by kernel_rfl) ?_
  refine N_then ?_
  refine G_seq ?_
  refine G_pure (E' := [⟨0, [], .pointer (some ⟨d, 0, none⟩)⟩, ⟨1, [], .string path⟩, ⟨5, [], .int .i64 ((callS fails once calls (rightB path)).1)⟩, ⟨11, [], .bool (((callS fails once calls (rightB path)).1) != 0)⟩]) [0, 0] [0, 1, 5, 11] rfl (by kernel_rfl) ?_
  refine N_then ?_
  refine G_cond (b := ((callS fails once calls (rightB path)).1) != 0) (by kernel_rfl) (fun hc1 => ?_) (fun hc1 => ?_)
  ·
    have hce : (callS fails once calls (rightB path)).1 ≠ 0 := by simpa using hc1
    -- L err
    refine G_seq ?_
    refine G_pure (E' := [⟨4, [], .int .i64 ((callS fails once calls (rightB path)).1)⟩]) [0, 0] [4] rfl (by kernel_rfl) ?_
    refine N_then ?_
    refine G_ret ?_
    refine N_then_ret ?_
    refine N_ret [.tmp 4] [.int .i64 ((callS fails once calls (rightB path)).1)] rfl (by kernel_rfl) rfl ?_
    exact .inl ⟨hce, rfl, rfl⟩
  ·
    have hce : (callS fails once calls (rightB path)).1 = 0 := by simpa using hc1
    refine G_skip ?_
    refine N_then ?_
    refine G_seq ?_
    refine G_seq ?_
    refine G_region ?_
    refine GL_pure (E' := [⟨15, [], .pointer (some ⟨d, 2, none⟩)⟩, ⟨14, [], .pointer (some ⟨d, 0, none⟩)⟩, ⟨13, [], .pointer (some ⟨d, 0, none⟩)⟩, ⟨0, [], .pointer (some ⟨d, 0, none⟩)⟩, ⟨1, [], .string path⟩, ⟨5, [], .int .i64 ((callS fails once calls (rightB path)).1)⟩, ⟨11, [], .bool (((callS fails once calls (rightB path)).1) != 0)⟩]) [0, 0, 0] (by kernel_rfl) (j := 3) rfl ?_
    refine GL_load (i := 3) (ch := []) (b := d) (off := 2) (v := .map (some nb)) rfl rfl (by kernel_rfl) (by kernel_rfl) (by kernel_rfl) (by kernel_rfl) (by kernel_rfl) (At.grp 0 0 rfl rfl) rfl ?_
    refine GL_pure (E' := [⟨17, [], .string path⟩, ⟨16, [], .map (some nb)⟩, ⟨15, [], .pointer (some ⟨d, 2, none⟩)⟩, ⟨14, [], .pointer (some ⟨d, 0, none⟩)⟩, ⟨13, [], .pointer (some ⟨d, 0, none⟩)⟩, ⟨0, [], .pointer (some ⟨d, 0, none⟩)⟩, ⟨1, [], .string path⟩, ⟨5, [], .int .i64 ((callS fails once calls (rightB path)).1)⟩, ⟨11, [], .bool (((callS fails once calls (rightB path)).1) != 0)⟩]) [0] (by kernel_rfl) (j := 5) rfl ?_
    refine GL_lookup (i := 5) (ch := []) (kt := 9) (et := 66) (r := nb) (c := nc) (m := nm) (k := path) (z := .pointer none) (ov := (some (.pointer (some ⟨p, 0, none⟩)))) rfl rfl (by kernel_rfl) (by kernel_rfl) (by kernel_rfl) (by kernel_rfl) (by kernel_rfl) (by kernel_rfl) (by kernel_rfl) (by kernel_rfl) (At.grp 1 0 rfl rfl) (fun _ => hg) ?_
    refine GL_fin (E' := [⟨0, [], .pointer (some ⟨d, 0, none⟩)⟩, ⟨1, [], .string path⟩, ⟨19, [], .bool false⟩]) [0] [0, 1, 19] rfl (by kernel_rfl) ?_
    refine N_then ?_
    refine G_condf (by kernel_rfl) ?_
    refine G_skip ?_
    refine N_then ?_
    refine G_seq ?_
    refine G_region ?_
    refine GL_pure (E' := [⟨21, [], .string path⟩, ⟨20, [], .pointer (some ⟨d, 0, none⟩)⟩, ⟨0, [], .pointer (some ⟨d, 0, none⟩)⟩, ⟨1, [], .string path⟩, ⟨19, [], .bool false⟩]) [0, 0] (by kernel_rfl) (j := 2) rfl ?_
    refine GL_callQ (i := 2) (ch := []) (f := 37) (fst := #[]) (caps := #[]) (vs := [.string path]) (v := .string (dirB path)) rfl rfl rfl (by kernel_rfl) (by kernel_rfl) Try.func37 rfl rfl (by kernel_rfl) (by kernel_rfl) (by kernel_rfl) (fun _ => vfsDirOf _ hpath _ _) ?_
    refine GL_makeMap (i := 3) (ch := []) rfl rfl (by kernel_rfl) (by kernel_rfl) (by kernel_rfl) (fun b2 => ?_)
    refine GL_pure (E' := [⟨24, [], .string path⟩, ⟨23, [], .map (some b2)⟩, ⟨22, [], .string (dirB path)⟩, ⟨21, [], .string path⟩, ⟨20, [], .pointer (some ⟨d, 0, none⟩)⟩, ⟨0, [], .pointer (some ⟨d, 0, none⟩)⟩, ⟨1, [], .string path⟩, ⟨19, [], .bool false⟩]) [0] (by kernel_rfl) (j := 5) rfl ?_
    refine GL_mapPut (i := 5) (ch := []) (kt := 9) (et := 66) (r := b2) (c := 0) (j := 0) (q := 0) (m := []) (k := path) (v := .pointer none) (H' := ([(b2, .map (encM ([(path, .pointer none, 0)])) 1)] :: [(d, .cells #[.int .i64 room, bv, .map (some nb), .map (some kb), .map (some cb), .bool ((callS fails once calls (rightB path)).2.1), .bool once, .int .i64 ((callS fails once calls (rightB path)).2.2)] 64 (0, 0))] :: [(nb, .map (encM nm) nc)] :: [(cb, .map (encM cm) cc)] :: (rowsG rows ++ H))) rfl (.inr rfl) (by kernel_rfl) (by kernel_rfl) (by kernel_rfl) (by kernel_rfl) (by kernel_rfl) (by kernel_rfl) (by kernel_rfl) (by kernel_rfl) rfl rfl rfl ?_
    refine GL_pure (E' := [⟨25, [], .map (some b2)⟩, ⟨24, [], .string path⟩, ⟨23, [], .map (some b2)⟩, ⟨22, [], .string (dirB path)⟩, ⟨21, [], .string path⟩, ⟨20, [], .pointer (some ⟨d, 0, none⟩)⟩, ⟨0, [], .pointer (some ⟨d, 0, none⟩)⟩, ⟨1, [], .string path⟩, ⟨19, [], .bool false⟩]) [0] (by kernel_rfl) (j := 7) rfl ?_
    refine GL_heap rfl (H' := ([(d, .cells #[.int .i64 room, bv, .map (some nb), .map (some kb), .map (some cb), .bool ((callS fails once calls (rightB path)).2.1), .bool once, .int .i64 ((callS fails once calls (rightB path)).2.2)] 64 (0, 0))] :: [(nb, .map (encM nm) nc)] :: [(cb, .map (encM cm) cc)] :: [(b2, .map (encM ([(path, .pointer none, 0)])) 1)] :: (rowsG rows ++ H))) (fun w h => (((h.front (j := 3) rfl).front (j := 3) rfl).front (j := 3) rfl)) ?_
    refine GL_call (i := 7) (ch := []) (f := 36) (fst := #[]) (caps := #[]) (vs := [.pointer (some ⟨d, 0, none⟩), .string (dirB path), .map (some b2)]) rfl rfl rfl (by kernel_rfl) (by kernel_rfl) Try.func36 rfl rfl (by kernel_rfl) (by kernel_rfl) (chSure_of (by kernel_rfl)) (vName d nb kb cb b2 nc cc 1 room ((callS fails once calls (rightB path)).2.2) bv ((callS fails once calls (rightB path)).2.1) once nm cm ([(path, .pointer none, 0)]) (dirB path) hn (mapok1 _ _) (hv0 _) rows hR hl [[(b2, .map (encM ([(path, .pointer none, 0)])) 1)]] _ H (At.grp 0 0 rfl rfl)) ?_
    rintro v H' ⟨dn3, x4, rows5, hdn6, rfl, hR7, hA8, rfl⟩
    refine GL_fin (E' := []) [] [] rfl (by kernel_rfl) ?_
    refine N_then ?_
    refine G_seq ?_
    refine G_pure (E' := [⟨4, [], .int .i64 0⟩]) [0] [4] rfl (by kernel_rfl) ?_
    refine N_then ?_
    refine G_ret ?_
    refine N_ret [.tmp 4] [.int .i64 0] rfl (by kernel_rfl) rfl ?_
    have hdn1 := List.perm_singleton.1 hdn6
    subst hdn1
    exact .inr ⟨hce, rfl, _, x4, rows5, hR7, hA8, rfl⟩

theorem vRenameNo (d nb kb cb nc cc : Nat) (room calls : Int) (bv : Value) (fails once : Bool) (nm cm : SM) (path to : ByteArray) (hpath : path.size ≤ 9223372036854775807) (hto : to.size ≤ 9223372036854775807) (hca : -9223372036854775808 ≤ calls ∧ calls ≤ 9223372036854775807) (hn : MapOk nm nc) (rows : List RW) (hR : RowsOk cm rows) (hl : ∀ r ∈ rows, r.qs.length ≤ 1000000) (hg : mget nm path = none) (W0 : World) (H : List Grp) : Tri Try.prog 17 #[.pointer (some ⟨d, 0, none⟩), .string path, .string to] W0 ([(d, .cells #[.int .i64 room, bv, .map (some nb), .map (some kb), .map (some cb), .bool fails, .bool once, .int .i64 calls] 64 (0, 0))] :: [(nb, .map (encM nm) nc)] :: [(cb, .map (encM cm) cc)] :: (rowsG rows ++ H)) (fun v H' => ((callS fails once calls ((rightB path && rightB to) && ((dirB path).toList == (dirB to).toList))).1 ≠ 0 ∧ v = .int .i64 (callS fails once calls ((rightB path && rightB to) && ((dirB path).toList == (dirB to).toList))).1 ∧ H' = ([(d, .cells #[.int .i64 room, bv, .map (some nb), .map (some kb), .map (some cb), .bool ((callS fails once calls ((rightB path && rightB to) && ((dirB path).toList == (dirB to).toList))).2.1), .bool once, .int .i64 ((callS fails once calls ((rightB path && rightB to) && ((dirB path).toList == (dirB to).toList))).2.2)] 64 (0, 0))] :: [(nb, .map (encM nm) nc)] :: [(cb, .map (encM cm) cc)] :: (rowsG rows ++ H))) ∨ ((callS fails once calls ((rightB path && rightB to) && ((dirB path).toList == (dirB to).toList))).1 = 0 ∧ v = .int .i64 60 ∧ H' = ([(d, .cells #[.int .i64 room, bv, .map (some nb), .map (some kb), .map (some cb), .bool ((callS fails once calls ((rightB path && rightB to) && ((dirB path).toList == (dirB to).toList))).2.1), .bool once, .int .i64 ((callS fails once calls ((rightB path && rightB to) && ((dirB path).toList == (dirB to).toList))).2.2)] 64 (0, 0))] :: [(nb, .map (encM nm) nc)] :: [(cb, .map (encM cm) cc)] :: (rowsG rows ++ H)))) := by
  refine Tri_of (args := [.pointer (some ⟨d, 0, none⟩), .string path, .string to]) (n := 47) Try.func17 rfl rfl (Nat.le_of_ble_eq_true rfl) ?_
  refine G_seq ?_
  refine G_pure (E' := [⟨0, [], .pointer (some ⟨d, 0, none⟩)⟩, ⟨1, [], .string path⟩, ⟨2, [], .string to⟩]) [0] [0, 1, 2] rfl (by kernel_rfl) ?_
  refine N_then ?_
  refine G_seq ?_
  refine G_seq ?_
  refine G_region ?_
  refine GL_pure (E' := [⟨10, [], .string path⟩, ⟨9, [], .pointer (some ⟨d, 0, none⟩)⟩, ⟨0, [], .pointer (some ⟨d, 0, none⟩)⟩, ⟨1, [], .string path⟩, ⟨2, [], .string to⟩]) [0, 0] (by kernel_rfl) (j := 2) rfl ?_
  refine GL_callQ (i := 2) (ch := []) (f := 10) (fst := #[]) (caps := #[]) (vs := [.string path]) (v := .bool (rightB path)) rfl rfl rfl (by kernel_rfl) (by kernel_rfl) Try.func10 rfl rfl (by kernel_rfl) (by kernel_rfl) (by kernel_rfl) (fun _ => vfsRight _ hpath _ _) ?_
  refine GL_pure (E' := [⟨13, [(12, true)], .string to⟩, ⟨12, [], .bool (rightB path)⟩, ⟨11, [], .bool (rightB path)⟩, ⟨10, [], .string path⟩, ⟨9, [], .pointer (some ⟨d, 0, none⟩)⟩, ⟨0, [], .pointer (some ⟨d, 0, none⟩)⟩, ⟨1, [], .string path⟩, ⟨2, [], .string to⟩]) [0, 0] (by kernel_rfl) (j := 5) rfl ?_
  refine GL_callQ (i := 5) (ch := [(12, true)]) (f := 10) (fst := #[]) (caps := #[]) (vs := [.string to]) (v := .bool (rightB to)) rfl rfl rfl (by kernel_rfl) (by kernel_rfl) Try.func10 rfl rfl (by kernel_rfl) (by kernel_rfl) (by kernel_rfl) (fun hc => vfsRight _ hto _ _) ?_
  refine GL_pure (E' := [⟨17, [(16, true)], .string path⟩, ⟨16, [], .bool ((rightB path) && (rightB to))⟩, ⟨15, [], .bool ((rightB path) && (rightB to))⟩, ⟨14, [(12, true)], .bool (rightB to)⟩, ⟨13, [(12, true)], .string to⟩, ⟨12, [], .bool (rightB path)⟩, ⟨11, [], .bool (rightB path)⟩, ⟨10, [], .string path⟩, ⟨9, [], .pointer (some ⟨d, 0, none⟩)⟩, ⟨0, [], .pointer (some ⟨d, 0, none⟩)⟩, ⟨1, [], .string path⟩, ⟨2, [], .string to⟩]) [6, 0, 0] (by kernel_rfl) (j := 9) rfl ?_
  refine GL_callQ (i := 9) (ch := [(16, true)]) (f := 37) (fst := #[]) (caps := #[]) (vs := [.string path]) (v := .string (dirB path)) rfl rfl rfl (by kernel_rfl) (by kernel_rfl) Try.func37 rfl rfl (by kernel_rfl) (by kernel_rfl) (by kernel_rfl) (fun hc => vfsDirOf _ hpath _ _) ?_
  refine GL_pure (E' := [⟨19, [(16, true)], .string to⟩, ⟨18, [(16, true)], .string (dirB path)⟩, ⟨17, [(16, true)], .string path⟩, ⟨16, [], .bool ((rightB path) && (rightB to))⟩, ⟨15, [], .bool ((rightB path) && (rightB to))⟩, ⟨14, [(12, true)], .bool (rightB to)⟩, ⟨13, [(12, true)], .string to⟩, ⟨12, [], .bool (rightB path)⟩, ⟨11, [], .bool (rightB path)⟩, ⟨10, [], .string path⟩, ⟨9, [], .pointer (some ⟨d, 0, none⟩)⟩, ⟨0, [], .pointer (some ⟨d, 0, none⟩)⟩, ⟨1, [], .string path⟩, ⟨2, [], .string to⟩]) [0] (by kernel_rfl) (j := 11) rfl ?_
  refine GL_callQ (i := 11) (ch := [(16, true)]) (f := 37) (fst := #[]) (caps := #[]) (vs := [.string to]) (v := .string (dirB to)) rfl rfl rfl (by kernel_rfl) (by kernel_rfl) Try.func37 rfl rfl (by kernel_rfl) (by kernel_rfl) (by kernel_rfl) (fun hc => vfsDirOf _ hto _ _) ?_
  refine GL_pure (E' := [⟨22, [], .bool (((rightB path) && (rightB to)) && ((dirB path).toList == (dirB to).toList))⟩, ⟨21, [(16, true)], .bool ((dirB path).toList == (dirB to).toList)⟩, ⟨20, [(16, true)], .string (dirB to)⟩, ⟨19, [(16, true)], .string to⟩, ⟨18, [(16, true)], .string (dirB path)⟩, ⟨17, [(16, true)], .string path⟩, ⟨16, [], .bool ((rightB path) && (rightB to))⟩, ⟨15, [], .bool ((rightB path) && (rightB to))⟩, ⟨14, [(12, true)], .bool (rightB to)⟩, ⟨13, [(12, true)], .string to⟩, ⟨12, [], .bool (rightB path)⟩, ⟨11, [], .bool (rightB path)⟩, ⟨10, [], .string path⟩, ⟨9, [], .pointer (some ⟨d, 0, none⟩)⟩, ⟨0, [], .pointer (some ⟨d, 0, none⟩)⟩, ⟨1, [], .string path⟩, ⟨2, [], .string to⟩]) [0, 6] (by kernel_rfl) (j := 14) rfl ?_
  refine GL_call (i := 14) (ch := []) (f := 34) (fst := #[]) (caps := #[]) (vs := [.pointer (some ⟨d, 0, none⟩), .bool (((rightB path) && (rightB to)) && ((dirB path).toList == (dirB to).toList))]) rfl rfl rfl (by kernel_rfl) (by kernel_rfl) Try.func34 rfl rfl (by kernel_rfl) (by kernel_rfl) (chSure_of (by kernel_rfl)) (vCall d nb kb cb room calls bv fails once (((rightB path) && (rightB to)) && ((dirB path).toList == (dirB to).toList)) hca _ _) ?_
  rintro v H' ⟨rfl, rfl⟩
  refine GL_fin (E' := [⟨0, [], .pointer (some ⟨d, 0, none⟩)⟩, ⟨1, [], .string path⟩, ⟨2, [], .string to⟩, ⟨7, [], .int .i64 ((callS fails once calls (((rightB path) && (rightB to)) && ((dirB path).toList == (dirB to).toList))).1)⟩]) [0] [0, 1, 2, 7] rfl (by kernel_rfl) ?_
  refine N_then ?_
  refine G_seq ?_
  refine G_pure (E' := [⟨0, [], .pointer (some ⟨d, 0, none⟩)⟩, ⟨1, [], .string path⟩, ⟨2, [], .string to⟩, ⟨7, [], .int .i64 ((callS fails once calls (((rightB path) && (rightB to)) && ((dirB path).toList == (dirB to).toList))).1)⟩, ⟨25, [], .bool (((callS fails once calls (((rightB path) && (rightB to)) && ((dirB path).toList == (dirB to).toList))).1) != 0)⟩]) [0, 0] [0, 1, 2, 7, 25] rfl (by kernel_rfl) ?_
  refine N_then ?_
  refine G_cond (b := ((callS fails once calls (((rightB path) && (rightB to)) && ((dirB path).toList == (dirB to).toList))).1) != 0) (by kernel_rfl) (fun hc1 => ?_) (fun hc1 => ?_)
  ·
    have hce : (callS fails once calls ((rightB path && rightB to) && ((dirB path).toList == (dirB to).toList))).1 ≠ 0 := by simpa using hc1
    -- L err
    refine G_seq ?_
    refine G_pure (E' := [⟨6, [], .int .i64 ((callS fails once calls (((rightB path) && (rightB to)) && ((dirB path).toList == (dirB to).toList))).1)⟩]) [0, 0] [6] rfl (by kernel_rfl) ?_
    refine N_then ?_
    refine G_ret ?_
    refine N_then_ret ?_
    refine N_ret [.tmp 6] [.int .i64 ((callS fails once calls (((rightB path) && (rightB to)) && ((dirB path).toList == (dirB to).toList))).1)] rfl (by kernel_rfl) rfl ?_
    exact .inl ⟨hce, rfl, rfl⟩
  ·
    have hce : (callS fails once calls ((rightB path && rightB to) && ((dirB path).toList == (dirB to).toList))).1 = 0 := by simpa using hc1
    refine G_skip ?_
    refine N_then ?_
    refine G_seq ?_
    refine G_region ?_
    refine GL_pure (E' := [⟨29, [], .pointer (some ⟨d, 2, none⟩)⟩, ⟨28, [], .pointer (some ⟨d, 0, none⟩)⟩, ⟨27, [], .pointer (some ⟨d, 0, none⟩)⟩, ⟨0, [], .pointer (some ⟨d, 0, none⟩)⟩, ⟨1, [], .string path⟩, ⟨2, [], .string to⟩, ⟨7, [], .int .i64 ((callS fails once calls (((rightB path) && (rightB to)) && ((dirB path).toList == (dirB to).toList))).1)⟩, ⟨25, [], .bool (((callS fails once calls (((rightB path) && (rightB to)) && ((dirB path).toList == (dirB to).toList))).1) != 0)⟩]) [0, 0, 0] (by kernel_rfl) (j := 3) rfl ?_
    refine GL_load (i := 3) (ch := []) (b := d) (off := 2) (v := .map (some nb)) rfl rfl (by kernel_rfl) (by kernel_rfl) (by kernel_rfl) (by kernel_rfl) (by kernel_rfl) (At.grp 0 0 rfl rfl) rfl ?_
    refine GL_pure (E' := [⟨31, [], .string path⟩, ⟨30, [], .map (some nb)⟩, ⟨29, [], .pointer (some ⟨d, 2, none⟩)⟩, ⟨28, [], .pointer (some ⟨d, 0, none⟩)⟩, ⟨27, [], .pointer (some ⟨d, 0, none⟩)⟩, ⟨0, [], .pointer (some ⟨d, 0, none⟩)⟩, ⟨1, [], .string path⟩, ⟨2, [], .string to⟩, ⟨7, [], .int .i64 ((callS fails once calls (((rightB path) && (rightB to)) && ((dirB path).toList == (dirB to).toList))).1)⟩, ⟨25, [], .bool (((callS fails once calls (((rightB path) && (rightB to)) && ((dirB path).toList == (dirB to).toList))).1) != 0)⟩]) [0] (by kernel_rfl) (j := 5) rfl ?_
    refine GL_lookup (i := 5) (ch := []) (kt := 9) (et := 66) (r := nb) (c := nc) (m := nm) (k := path) (z := .pointer none) (ov := none) rfl rfl (by kernel_rfl) (by kernel_rfl) (by kernel_rfl) (by kernel_rfl) (by kernel_rfl) (by kernel_rfl) (by kernel_rfl) (by kernel_rfl) (At.grp 1 0 rfl rfl) (fun _ => hg) ?_
    refine GL_fin (E' := [⟨0, [], .pointer (some ⟨d, 0, none⟩)⟩, ⟨1, [], .string path⟩, ⟨2, [], .string to⟩, ⟨8, [], .pointer none⟩]) [0] [0, 1, 2, 8] rfl (by kernel_rfl) ?_
    refine N_then ?_
    refine G_seq ?_
    refine G_seq ?_
    refine G_pure (E' := [⟨0, [], .pointer (some ⟨d, 0, none⟩)⟩, ⟨1, [], .string path⟩, ⟨2, [], .string to⟩, ⟨8, [], .pointer none⟩, ⟨34, [], .bool true⟩]) [0, 0] [0, 1, 2, 8, 34] rfl (by kernel_rfl) ?_
    refine N_then ?_
    refine G_condt (by kernel_rfl) ?_
    refine G_seq ?_
    refine G_pure (E' := [⟨6, [], .int .i64 60⟩]) [0] [6] rfl (by kernel_rfl) ?_
    refine N_then ?_
    refine G_ret ?_
    refine N_then_ret ?_
    refine N_ret [.tmp 6] [.int .i64 60] rfl (by kernel_rfl) rfl ?_
    exact .inr ⟨hce, rfl, rfl⟩

theorem vRename (d nb kb cb nc cc : Nat) (room calls : Int) (bv : Value) (fails once : Bool) (nm cm : SM) (path to : ByteArray) (hpath : path.size ≤ 9223372036854775807) (hto : to.size ≤ 9223372036854775807) (hca : -9223372036854775808 ≤ calls ∧ calls ≤ 9223372036854775807) (hn : MapOk nm nc) (rows : List RW) (hR : RowsOk cm rows) (hl : ∀ r ∈ rows, r.qs.length ≤ 1000000) (p : Nat) (hg : mget nm path = some (.pointer (some ⟨p, 0, none⟩))) (W0 : World) (H : List Grp) : Tri Try.prog 17 #[.pointer (some ⟨d, 0, none⟩), .string path, .string to] W0 ([(d, .cells #[.int .i64 room, bv, .map (some nb), .map (some kb), .map (some cb), .bool fails, .bool once, .int .i64 calls] 64 (0, 0))] :: [(nb, .map (encM nm) nc)] :: [(cb, .map (encM cm) cc)] :: (rowsG rows ++ H)) (fun v H' => ((callS fails once calls ((rightB path && rightB to) && ((dirB path).toList == (dirB to).toList))).1 ≠ 0 ∧ v = .int .i64 (callS fails once calls ((rightB path && rightB to) && ((dirB path).toList == (dirB to).toList))).1 ∧ H' = ([(d, .cells #[.int .i64 room, bv, .map (some nb), .map (some kb), .map (some cb), .bool ((callS fails once calls ((rightB path && rightB to) && ((dirB path).toList == (dirB to).toList))).2.1), .bool once, .int .i64 ((callS fails once calls ((rightB path && rightB to) && ((dirB path).toList == (dirB to).toList))).2.2)] 64 (0, 0))] :: [(nb, .map (encM nm) nc)] :: [(cb, .map (encM cm) cc)] :: (rowsG rows ++ H))) ∨ ((callS fails once calls ((rightB path && rightB to) && ((dirB path).toList == (dirB to).toList))).1 = 0 ∧ (((!(path.toList == to.toList)) = false ∧ v = .int .i64 0 ∧ H' = ([(d, .cells #[.int .i64 room, bv, .map (some nb), .map (some kb), .map (some cb), .bool ((callS fails once calls ((rightB path && rightB to) && ((dirB path).toList == (dirB to).toList))).2.1), .bool once, .int .i64 ((callS fails once calls ((rightB path && rightB to) && ((dirB path).toList == (dirB to).toList))).2.2)] 64 (0, 0))] :: [(nb, .map (encM nm) nc)] :: [(cb, .map (encM cm) cc)] :: (rowsG rows ++ H))) ∨ ((!(path.toList == to.toList)) = true ∧ v = .int .i64 0 ∧ ∃ dn xm xc q x rows1, RenC path to p xm xc ∧ dn.Perm xm ∧ RowsOk (mput cm cc (dirB to) x) rows1 ∧ RowsAdd rows (dirB to) q rows1 ∧ H' = ([(d, .cells #[.int .i64 room, bv, .map (some nb), .map (some kb), .map (some cb), .bool ((callS fails once calls ((rightB path && rightB to) && ((dirB path).toList == (dirB to).toList))).2.1), .bool once, .int .i64 ((callS fails once calls ((rightB path && rightB to) && ((dirB path).toList == (dirB to).toList))).2.2)] 64 (0, 0))]  :: [(nb, .map (encM (foldS (nm, nc) dn).1) (foldS (nm, nc) dn).2)] :: [(cb, .map (encM (mput cm cc (dirB to) x)) (if mhas cm (dirB to) then cc else cc + 1))] :: [(q, .map (encM xm) xc)] :: (rowsG rows1 ++ H)))))) := by
  refine Tri_of (args := [.pointer (some ⟨d, 0, none⟩), .string path, .string to]) (n := 47) Try.func17 rfl rfl (Nat.le_of_ble_eq_true rfl) ?_
  refine G_seq ?_
  refine G_pure (E' := [⟨0, [], .pointer (some ⟨d, 0, none⟩)⟩, ⟨1, [], .string path⟩, ⟨2, [], .string to⟩]) [0] [0, 1, 2] rfl (by kernel_rfl) ?_
  refine N_then ?_
  refine G_seq ?_
  refine G_seq ?_
  refine G_region ?_
  refine GL_pure (E' := [⟨10, [], .string path⟩, ⟨9, [], .pointer (some ⟨d, 0, none⟩)⟩, ⟨0, [], .pointer (some ⟨d, 0, none⟩)⟩, ⟨1, [], .string path⟩, ⟨2, [], .string to⟩]) [0, 0] (by kernel_rfl) (j := 2) rfl ?_
  refine GL_callQ (i := 2) (ch := []) (f := 10) (fst := #[]) (caps := #[]) (vs := [.string path]) (v := .bool (rightB path)) rfl rfl rfl (by kernel_rfl) (by kernel_rfl) Try.func10 rfl rfl (by kernel_rfl) (by kernel_rfl) (by kernel_rfl) (fun _ => vfsRight _ hpath _ _) ?_
  refine GL_pure (E' := [⟨13, [(12, true)], .string to⟩, ⟨12, [], .bool (rightB path)⟩, ⟨11, [], .bool (rightB path)⟩, ⟨10, [], .string path⟩, ⟨9, [], .pointer (some ⟨d, 0, none⟩)⟩, ⟨0, [], .pointer (some ⟨d, 0, none⟩)⟩, ⟨1, [], .string path⟩, ⟨2, [], .string to⟩]) [0, 0] (by kernel_rfl) (j := 5) rfl ?_
  refine GL_callQ (i := 5) (ch := [(12, true)]) (f := 10) (fst := #[]) (caps := #[]) (vs := [.string to]) (v := .bool (rightB to)) rfl rfl rfl (by kernel_rfl) (by kernel_rfl) Try.func10 rfl rfl (by kernel_rfl) (by kernel_rfl) (by kernel_rfl) (fun hc => vfsRight _ hto _ _) ?_
  refine GL_pure (E' := [⟨17, [(16, true)], .string path⟩, ⟨16, [], .bool ((rightB path) && (rightB to))⟩, ⟨15, [], .bool ((rightB path) && (rightB to))⟩, ⟨14, [(12, true)], .bool (rightB to)⟩, ⟨13, [(12, true)], .string to⟩, ⟨12, [], .bool (rightB path)⟩, ⟨11, [], .bool (rightB path)⟩, ⟨10, [], .string path⟩, ⟨9, [], .pointer (some ⟨d, 0, none⟩)⟩, ⟨0, [], .pointer (some ⟨d, 0, none⟩)⟩, ⟨1, [], .string path⟩, ⟨2, [], .string to⟩]) [6, 0, 0] (by kernel_rfl) (j := 9) rfl ?_
  refine GL_callQ (i := 9) (ch := [(16, true)]) (f := 37) (fst := #[]) (caps := #[]) (vs := [.string path]) (v := .string (dirB path)) rfl rfl rfl (by kernel_rfl) (by kernel_rfl) Try.func37 rfl rfl (by kernel_rfl) (by kernel_rfl) (by kernel_rfl) (fun hc => vfsDirOf _ hpath _ _) ?_
  refine GL_pure (E' := [⟨19, [(16, true)], .string to⟩, ⟨18, [(16, true)], .string (dirB path)⟩, ⟨17, [(16, true)], .string path⟩, ⟨16, [], .bool ((rightB path) && (rightB to))⟩, ⟨15, [], .bool ((rightB path) && (rightB to))⟩, ⟨14, [(12, true)], .bool (rightB to)⟩, ⟨13, [(12, true)], .string to⟩, ⟨12, [], .bool (rightB path)⟩, ⟨11, [], .bool (rightB path)⟩, ⟨10, [], .string path⟩, ⟨9, [], .pointer (some ⟨d, 0, none⟩)⟩, ⟨0, [], .pointer (some ⟨d, 0, none⟩)⟩, ⟨1, [], .string path⟩, ⟨2, [], .string to⟩]) [0] (by kernel_rfl) (j := 11) rfl ?_
  refine GL_callQ (i := 11) (ch := [(16, true)]) (f := 37) (fst := #[]) (caps := #[]) (vs := [.string to]) (v := .string (dirB to)) rfl rfl rfl (by kernel_rfl) (by kernel_rfl) Try.func37 rfl rfl (by kernel_rfl) (by kernel_rfl) (by kernel_rfl) (fun hc => vfsDirOf _ hto _ _) ?_
  refine GL_pure (E' := [⟨22, [], .bool (((rightB path) && (rightB to)) && ((dirB path).toList == (dirB to).toList))⟩, ⟨21, [(16, true)], .bool ((dirB path).toList == (dirB to).toList)⟩, ⟨20, [(16, true)], .string (dirB to)⟩, ⟨19, [(16, true)], .string to⟩, ⟨18, [(16, true)], .string (dirB path)⟩, ⟨17, [(16, true)], .string path⟩, ⟨16, [], .bool ((rightB path) && (rightB to))⟩, ⟨15, [], .bool ((rightB path) && (rightB to))⟩, ⟨14, [(12, true)], .bool (rightB to)⟩, ⟨13, [(12, true)], .string to⟩, ⟨12, [], .bool (rightB path)⟩, ⟨11, [], .bool (rightB path)⟩, ⟨10, [], .string path⟩, ⟨9, [], .pointer (some ⟨d, 0, none⟩)⟩, ⟨0, [], .pointer (some ⟨d, 0, none⟩)⟩, ⟨1, [], .string path⟩, ⟨2, [], .string to⟩]) [0, 6] (by kernel_rfl) (j := 14) rfl ?_
  refine GL_call (i := 14) (ch := []) (f := 34) (fst := #[]) (caps := #[]) (vs := [.pointer (some ⟨d, 0, none⟩), .bool (((rightB path) && (rightB to)) && ((dirB path).toList == (dirB to).toList))]) rfl rfl rfl (by kernel_rfl) (by kernel_rfl) Try.func34 rfl rfl (by kernel_rfl) (by kernel_rfl) (chSure_of (by kernel_rfl)) (vCall d nb kb cb room calls bv fails once (((rightB path) && (rightB to)) && ((dirB path).toList == (dirB to).toList)) hca _ _) ?_
  rintro v H' ⟨rfl, rfl⟩
  refine GL_fin (E' := [⟨0, [], .pointer (some ⟨d, 0, none⟩)⟩, ⟨1, [], .string path⟩, ⟨2, [], .string to⟩, ⟨7, [], .int .i64 ((callS fails once calls (((rightB path) && (rightB to)) && ((dirB path).toList == (dirB to).toList))).1)⟩]) [0] [0, 1, 2, 7] rfl (by kernel_rfl) ?_
  refine N_then ?_
  refine G_seq ?_
  refine G_pure (E' := [⟨0, [], .pointer (some ⟨d, 0, none⟩)⟩, ⟨1, [], .string path⟩, ⟨2, [], .string to⟩, ⟨7, [], .int .i64 ((callS fails once calls (((rightB path) && (rightB to)) && ((dirB path).toList == (dirB to).toList))).1)⟩, ⟨25, [], .bool (((callS fails once calls (((rightB path) && (rightB to)) && ((dirB path).toList == (dirB to).toList))).1) != 0)⟩]) [0, 0] [0, 1, 2, 7, 25] rfl (by kernel_rfl) ?_
  refine N_then ?_
  refine G_cond (b := ((callS fails once calls (((rightB path) && (rightB to)) && ((dirB path).toList == (dirB to).toList))).1) != 0) (by kernel_rfl) (fun hc1 => ?_) (fun hc1 => ?_)
  ·
    have hce : (callS fails once calls ((rightB path && rightB to) && ((dirB path).toList == (dirB to).toList))).1 ≠ 0 := by simpa using hc1
    -- L err
    refine G_seq ?_
    refine G_pure (E' := [⟨6, [], .int .i64 ((callS fails once calls (((rightB path) && (rightB to)) && ((dirB path).toList == (dirB to).toList))).1)⟩]) [0, 0] [6] rfl (by kernel_rfl) ?_
    refine N_then ?_
    refine G_ret ?_
    refine N_then_ret ?_
    refine N_ret [.tmp 6] [.int .i64 ((callS fails once calls (((rightB path) && (rightB to)) && ((dirB path).toList == (dirB to).toList))).1)] rfl (by kernel_rfl) rfl ?_
    exact .inl ⟨hce, rfl, rfl⟩
  ·
    have hce : (callS fails once calls ((rightB path && rightB to) && ((dirB path).toList == (dirB to).toList))).1 = 0 := by simpa using hc1
    refine G_skip ?_
    refine N_then ?_
    refine G_seq ?_
    refine G_region ?_
    refine GL_pure (E' := [⟨29, [], .pointer (some ⟨d, 2, none⟩)⟩, ⟨28, [], .pointer (some ⟨d, 0, none⟩)⟩, ⟨27, [], .pointer (some ⟨d, 0, none⟩)⟩, ⟨0, [], .pointer (some ⟨d, 0, none⟩)⟩, ⟨1, [], .string path⟩, ⟨2, [], .string to⟩, ⟨7, [], .int .i64 ((callS fails once calls (((rightB path) && (rightB to)) && ((dirB path).toList == (dirB to).toList))).1)⟩, ⟨25, [], .bool (((callS fails once calls (((rightB path) && (rightB to)) && ((dirB path).toList == (dirB to).toList))).1) != 0)⟩]) [0, 0, 0] (by kernel_rfl) (j := 3) rfl ?_
    refine GL_load (i := 3) (ch := []) (b := d) (off := 2) (v := .map (some nb)) rfl rfl (by kernel_rfl) (by kernel_rfl) (by kernel_rfl) (by kernel_rfl) (by kernel_rfl) (At.grp 0 0 rfl rfl) rfl ?_
    refine GL_pure (E' := [⟨31, [], .string path⟩, ⟨30, [], .map (some nb)⟩, ⟨29, [], .pointer (some ⟨d, 2, none⟩)⟩, ⟨28, [], .pointer (some ⟨d, 0, none⟩)⟩, ⟨27, [], .pointer (some ⟨d, 0, none⟩)⟩, ⟨0, [], .pointer (some ⟨d, 0, none⟩)⟩, ⟨1, [], .string path⟩, ⟨2, [], .string to⟩, ⟨7, [], .int .i64 ((callS fails once calls (((rightB path) && (rightB to)) && ((dirB path).toList == (dirB to).toList))).1)⟩, ⟨25, [], .bool (((callS fails once calls (((rightB path) && (rightB to)) && ((dirB path).toList == (dirB to).toList))).1) != 0)⟩]) [0] (by kernel_rfl) (j := 5) rfl ?_
    refine GL_lookup (i := 5) (ch := []) (kt := 9) (et := 66) (r := nb) (c := nc) (m := nm) (k := path) (z := .pointer none) (ov := (some (.pointer (some ⟨p, 0, none⟩)))) rfl rfl (by kernel_rfl) (by kernel_rfl) (by kernel_rfl) (by kernel_rfl) (by kernel_rfl) (by kernel_rfl) (by kernel_rfl) (by kernel_rfl) (At.grp 1 0 rfl rfl) (fun _ => hg) ?_
    refine GL_fin (E' := [⟨0, [], .pointer (some ⟨d, 0, none⟩)⟩, ⟨1, [], .string path⟩, ⟨2, [], .string to⟩, ⟨8, [], .pointer (some ⟨p, 0, none⟩)⟩]) [0] [0, 1, 2, 8] rfl (by kernel_rfl) ?_
    refine N_then ?_
    refine G_seq ?_
    refine G_seq ?_
    refine G_pure (E' := [⟨0, [], .pointer (some ⟨d, 0, none⟩)⟩, ⟨1, [], .string path⟩, ⟨2, [], .string to⟩, ⟨8, [], .pointer (some ⟨p, 0, none⟩)⟩, ⟨34, [], .bool false⟩]) [0, 0] [0, 1, 2, 8, 34] rfl (by kernel_rfl) ?_
    refine N_then ?_
    refine G_condf (by kernel_rfl) ?_
    refine G_skip ?_
    refine N_then ?_
    refine G_seq ?_
    refine G_seq ?_
    refine G_pure (E' := [⟨0, [], .pointer (some ⟨d, 0, none⟩)⟩, ⟨1, [], .string path⟩, ⟨2, [], .string to⟩, ⟨8, [], .pointer (some ⟨p, 0, none⟩)⟩, ⟨37, [], .bool (!(path.toList == to.toList))⟩]) [0, 0, 0] [0, 1, 2, 8, 37] rfl (by kernel_rfl) ?_
    refine N_then ?_
    refine G_cond (b := !(path.toList == to.toList)) (by kernel_rfl) (fun hc2 => ?_) (fun hc2 => ?_)
    ·
      have hsm := hc2
      refine G_regionH H (by kernel_rfl) ?_
      refine GH_take (E' := [⟨38, [], .pointer (some ⟨d, 0, none⟩)⟩, ⟨0, [], .pointer (some ⟨d, 0, none⟩)⟩, ⟨1, [], .string path⟩, ⟨2, [], .string to⟩, ⟨8, [], .pointer (some ⟨p, 0, none⟩)⟩, ⟨37, [], .bool (!(path.toList == to.toList))⟩]) 0 (by kernel_rfl) (by kernel_rfl) (by kernel_rfl) (by kernel_rfl) (by kernel_rfl) (fun w h => (Sat.dropApp (((h.erase 2).erase 1).erase 0))) ?_ ?_
      ·
        refine GL_pure (E' := [⟨38, [], .pointer (some ⟨d, 0, none⟩)⟩, ⟨0, [], .pointer (some ⟨d, 0, none⟩)⟩, ⟨1, [], .string path⟩, ⟨2, [], .string to⟩, ⟨8, [], .pointer (some ⟨p, 0, none⟩)⟩, ⟨37, [], .bool (!(path.toList == to.toList))⟩]) [0] (by kernel_rfl) (j := 1) rfl ?_
        exact GL_yend (by kernel_rfl) (by kernel_rfl)
      refine GH_take (E' := [⟨39, [], .string to⟩, ⟨38, [], .pointer (some ⟨d, 0, none⟩)⟩, ⟨0, [], .pointer (some ⟨d, 0, none⟩)⟩, ⟨1, [], .string path⟩, ⟨2, [], .string to⟩, ⟨8, [], .pointer (some ⟨p, 0, none⟩)⟩, ⟨37, [], .bool (!(path.toList == to.toList))⟩]) 1 (by kernel_rfl) (by kernel_rfl) (by kernel_rfl) (by kernel_rfl) (by kernel_rfl) (fun w h => (Sat.dropApp (((h.erase 2).erase 1).erase 0))) ?_ ?_
      ·
        refine GL_pure (E' := [⟨39, [], .string to⟩, ⟨38, [], .pointer (some ⟨d, 0, none⟩)⟩, ⟨0, [], .pointer (some ⟨d, 0, none⟩)⟩, ⟨1, [], .string path⟩, ⟨2, [], .string to⟩, ⟨8, [], .pointer (some ⟨p, 0, none⟩)⟩, ⟨37, [], .bool (!(path.toList == to.toList))⟩]) [0] (by kernel_rfl) (j := 2) rfl ?_
        exact GL_yend (by kernel_rfl) (by kernel_rfl)
      refine GH_take (E' := [⟨42, [], .string to⟩, ⟨39, [], .string to⟩, ⟨38, [], .pointer (some ⟨d, 0, none⟩)⟩, ⟨0, [], .pointer (some ⟨d, 0, none⟩)⟩, ⟨1, [], .string path⟩, ⟨2, [], .string to⟩, ⟨8, [], .pointer (some ⟨p, 0, none⟩)⟩, ⟨37, [], .bool (!(path.toList == to.toList))⟩]) 4 (by kernel_rfl) (by kernel_rfl) (by kernel_rfl) (by kernel_rfl) (by kernel_rfl) (fun w h => (Sat.dropApp (((h.erase 2).erase 1).erase 0))) ?_ ?_
      ·
        refine GL_pure (E' := [⟨42, [], .string to⟩, ⟨39, [], .string to⟩, ⟨38, [], .pointer (some ⟨d, 0, none⟩)⟩, ⟨0, [], .pointer (some ⟨d, 0, none⟩)⟩, ⟨1, [], .string path⟩, ⟨2, [], .string to⟩, ⟨8, [], .pointer (some ⟨p, 0, none⟩)⟩, ⟨37, [], .bool (!(path.toList == to.toList))⟩]) [0] (by kernel_rfl) (j := 5) rfl ?_
        exact GL_yend (by kernel_rfl) (by kernel_rfl)
      refine GH_take (E' := [⟨43, [], .pointer (some ⟨p, 0, none⟩)⟩, ⟨42, [], .string to⟩, ⟨39, [], .string to⟩, ⟨38, [], .pointer (some ⟨d, 0, none⟩)⟩, ⟨0, [], .pointer (some ⟨d, 0, none⟩)⟩, ⟨1, [], .string path⟩, ⟨2, [], .string to⟩, ⟨8, [], .pointer (some ⟨p, 0, none⟩)⟩, ⟨37, [], .bool (!(path.toList == to.toList))⟩]) 5 (by kernel_rfl) (by kernel_rfl) (by kernel_rfl) (by kernel_rfl) (by kernel_rfl) (fun w h => (Sat.dropApp (((h.erase 2).erase 1).erase 0))) ?_ ?_
      ·
        refine GL_pure (E' := [⟨43, [], .pointer (some ⟨p, 0, none⟩)⟩, ⟨42, [], .string to⟩, ⟨39, [], .string to⟩, ⟨38, [], .pointer (some ⟨d, 0, none⟩)⟩, ⟨0, [], .pointer (some ⟨d, 0, none⟩)⟩, ⟨1, [], .string path⟩, ⟨2, [], .string to⟩, ⟨8, [], .pointer (some ⟨p, 0, none⟩)⟩, ⟨37, [], .bool (!(path.toList == to.toList))⟩]) [0] (by kernel_rfl) (j := 6) rfl ?_
        exact GL_yend (by kernel_rfl) (by kernel_rfl)
      refine GH_take (E' := [⟨44, [], .string path⟩, ⟨43, [], .pointer (some ⟨p, 0, none⟩)⟩, ⟨42, [], .string to⟩, ⟨39, [], .string to⟩, ⟨38, [], .pointer (some ⟨d, 0, none⟩)⟩, ⟨0, [], .pointer (some ⟨d, 0, none⟩)⟩, ⟨1, [], .string path⟩, ⟨2, [], .string to⟩, ⟨8, [], .pointer (some ⟨p, 0, none⟩)⟩, ⟨37, [], .bool (!(path.toList == to.toList))⟩]) 7 (by kernel_rfl) (by kernel_rfl) (by kernel_rfl) (by kernel_rfl) (by kernel_rfl) (fun w h => (Sat.dropApp (((h.erase 2).erase 1).erase 0))) ?_ ?_
      ·
        refine GL_pure (E' := [⟨44, [], .string path⟩, ⟨43, [], .pointer (some ⟨p, 0, none⟩)⟩, ⟨42, [], .string to⟩, ⟨39, [], .string to⟩, ⟨38, [], .pointer (some ⟨d, 0, none⟩)⟩, ⟨0, [], .pointer (some ⟨d, 0, none⟩)⟩, ⟨1, [], .string path⟩, ⟨2, [], .string to⟩, ⟨8, [], .pointer (some ⟨p, 0, none⟩)⟩, ⟨37, [], .bool (!(path.toList == to.toList))⟩]) [0] (by kernel_rfl) (j := 8) rfl ?_
        exact GL_yend (by kernel_rfl) (by kernel_rfl)
      refine GH_eff2 2 3 (by kernel_rfl) (by kernel_rfl) (by kernel_rfl) (by kernel_rfl) (by kernel_rfl) ?_ ?_
      ·
        refine GL_callQ (i := 2) (ch := []) (f := 37) (fst := #[]) (caps := #[]) (vs := [.string to]) (v := .string (dirB to)) rfl rfl rfl (by kernel_rfl) (by kernel_rfl) Try.func37 rfl rfl (by kernel_rfl) (by kernel_rfl) (by kernel_rfl) (fun _ => vfsDirOf _ hto _ _) ?_
        refine GH_back (by kernel_rfl) (fun w h => (Sat.dropApp (((h.erase 2).erase 1).erase 0))) ?_
        refine GH_eff 3 (by kernel_rfl) (by kernel_rfl) (by kernel_rfl) ?_
        refine GL_makeMap (i := 3) (ch := []) rfl rfl (by kernel_rfl) (by kernel_rfl) (by kernel_rfl) (fun b3 => ?_)
        refine GH_back (by kernel_rfl) (fun w h => (Sat.dropApp ((((h.erase 3).erase 2).erase 1).erase 0))) ?_
        refine GH_eff2 6 8 (by kernel_rfl) (by kernel_rfl) (by kernel_rfl) (by kernel_rfl) (by kernel_rfl) ?_ ?_
        ·
          refine GL_mapPut (i := 6) (ch := []) (kt := 9) (et := 66) (r := b3) (c := 0) (j := 0) (q := 0) (m := []) (k := to) (v := .pointer (some ⟨p, 0, none⟩)) (H' := ([(b3, .map (encM ([(to, .pointer (some ⟨p, 0, none⟩), 0)])) 1)] :: [(d, .cells #[.int .i64 room, bv, .map (some nb), .map (some kb), .map (some cb), .bool ((callS fails once calls (((rightB path) && (rightB to)) && ((dirB path).toList == (dirB to).toList))).2.1), .bool once, .int .i64 ((callS fails once calls (((rightB path) && (rightB to)) && ((dirB path).toList == (dirB to).toList))).2.2)] 64 (0, 0))] :: [(nb, .map (encM nm) nc)] :: [(cb, .map (encM cm) cc)] :: (rowsG rows ++ H))) rfl (.inr rfl) (by kernel_rfl) (by kernel_rfl) (by kernel_rfl) (by kernel_rfl) (by kernel_rfl) (by kernel_rfl) (by kernel_rfl) (by kernel_rfl) rfl rfl rfl ?_
          refine GH_back (by kernel_rfl) (fun w h => (Sat.dropApp ((((h.erase 3).erase 2).erase 1).erase 0))) ?_
          refine GH_eff 8 (by kernel_rfl) (by kernel_rfl) (by kernel_rfl) ?_
          refine GL_mapPut (i := 8) (ch := []) (kt := 9) (et := 66) (r := b3) (c := 1) (j := 0) (q := 0) (m := [(to, .pointer (some ⟨p, 0, none⟩), 0)]) (k := path) (v := .pointer none) (H' := ([(b3, .map (encM (mput ([(to, .pointer (some ⟨p, 0, none⟩), 0)]) 1 path (.pointer none))) (if mhas ([(to, .pointer (some ⟨p, 0, none⟩), 0)]) path then 1 else 1 + 1))] :: [(d, .cells #[.int .i64 room, bv, .map (some nb), .map (some kb), .map (some cb), .bool ((callS fails once calls (((rightB path) && (rightB to)) && ((dirB path).toList == (dirB to).toList))).2.1), .bool once, .int .i64 ((callS fails once calls (((rightB path) && (rightB to)) && ((dirB path).toList == (dirB to).toList))).2.2)] 64 (0, 0))] :: [(nb, .map (encM nm) nc)] :: [(cb, .map (encM cm) cc)] :: (rowsG rows ++ H))) rfl (.inr rfl) (by kernel_rfl) (by kernel_rfl) (by kernel_rfl) (by kernel_rfl) (by kernel_rfl) (by kernel_rfl) (by kernel_rfl) (by kernel_rfl) rfl rfl rfl ?_
          refine GH_back (by kernel_rfl) (fun w h => (Sat.dropApp ((((h.erase 3).erase 2).erase 1).erase 0))) ?_
          refine GH_take (E' := [⟨45, [], .map (some b3)⟩, ⟨41, [], .map (some b3)⟩, ⟨40, [], .string (dirB to)⟩, ⟨44, [], .string path⟩, ⟨43, [], .pointer (some ⟨p, 0, none⟩)⟩, ⟨42, [], .string to⟩, ⟨39, [], .string to⟩, ⟨38, [], .pointer (some ⟨d, 0, none⟩)⟩, ⟨0, [], .pointer (some ⟨d, 0, none⟩)⟩, ⟨1, [], .string path⟩, ⟨2, [], .string to⟩, ⟨8, [], .pointer (some ⟨p, 0, none⟩)⟩, ⟨37, [], .bool (!(path.toList == to.toList))⟩]) 9 (by kernel_rfl) (by kernel_rfl) (by kernel_rfl) (by kernel_rfl) (by kernel_rfl) (fun w h => (Sat.dropApp ((((h.erase 3).erase 2).erase 1).erase 0))) ?_ ?_
          ·
            refine GL_pure (E' := [⟨45, [], .map (some b3)⟩, ⟨41, [], .map (some b3)⟩, ⟨40, [], .string (dirB to)⟩, ⟨44, [], .string path⟩, ⟨43, [], .pointer (some ⟨p, 0, none⟩)⟩, ⟨42, [], .string to⟩, ⟨39, [], .string to⟩, ⟨38, [], .pointer (some ⟨d, 0, none⟩)⟩, ⟨0, [], .pointer (some ⟨d, 0, none⟩)⟩, ⟨1, [], .string path⟩, ⟨2, [], .string to⟩, ⟨8, [], .pointer (some ⟨p, 0, none⟩)⟩, ⟨37, [], .bool (!(path.toList == to.toList))⟩]) [0] (by kernel_rfl) (j := 10) rfl ?_
            exact GL_yend (by kernel_rfl) (by kernel_rfl)
          refine GH_eff 10 (by kernel_rfl) (by kernel_rfl) (by kernel_rfl) ?_
          refine GL_heap rfl (H' := ([(d, .cells #[.int .i64 room, bv, .map (some nb), .map (some kb), .map (some cb), .bool ((callS fails once calls (((rightB path) && (rightB to)) && ((dirB path).toList == (dirB to).toList))).2.1), .bool once, .int .i64 ((callS fails once calls (((rightB path) && (rightB to)) && ((dirB path).toList == (dirB to).toList))).2.2)] 64 (0, 0))] :: [(nb, .map (encM nm) nc)] :: [(cb, .map (encM cm) cc)] :: [(b3, .map (encM (mput ([(to, .pointer (some ⟨p, 0, none⟩), 0)]) 1 path (.pointer none))) (if mhas ([(to, .pointer (some ⟨p, 0, none⟩), 0)]) path then 1 else 1 + 1))] :: (rowsG rows ++ H))) (fun w h => (((h.front (j := 3) rfl).front (j := 3) rfl).front (j := 3) rfl)) ?_
          refine GL_call (i := 10) (ch := []) (f := 36) (fst := #[]) (caps := #[]) (vs := [.pointer (some ⟨d, 0, none⟩), .string (dirB to), .map (some b3)]) rfl rfl rfl (by kernel_rfl) (by kernel_rfl) Try.func36 rfl rfl (by kernel_rfl) (by kernel_rfl) (chSure_of (by kernel_rfl)) (vName d nb kb cb b3 nc cc (if mhas ([(to, .pointer (some ⟨p, 0, none⟩), 0)]) path then 1 else 1 + 1) room ((callS fails once calls (((rightB path) && (rightB to)) && ((dirB path).toList == (dirB to).toList))).2.2) bv ((callS fails once calls (((rightB path) && (rightB to)) && ((dirB path).toList == (dirB to).toList))).2.1) once nm cm (mput ([(to, .pointer (some ⟨p, 0, none⟩), 0)]) 1 path (.pointer none)) (dirB to) hn (MapOk.put (mapok1 _ _) _ _) (hvput (Q := fun v => v = .pointer none ∨ ∃ p, v = .pointer (some ⟨p, 0, none⟩)) (hv1 _ _) (.inl rfl)) rows hR hl [[(b3, .map (encM (mput ([(to, .pointer (some ⟨p, 0, none⟩), 0)]) 1 path (.pointer none))) (if mhas ([(to, .pointer (some ⟨p, 0, none⟩), 0)]) path then 1 else 1 + 1))]] _ H (At.grp 0 0 rfl rfl)) ?_
          rintro v H' ⟨dn4, x5, rows6, hdn7, rfl, hR8, hA9, rfl⟩
          refine GH_back (by kernel_rfl) (fun w h => (Sat.dropApp ((((h.erase 3).erase 2).erase 1).erase 0))) ?_
          refine GH_done (E' := []) [] (by kernel_rfl) (by kernel_rfl) ?_
          refine N_then ?_
          refine G_seq ?_
          refine G_pure (E' := [⟨6, [], .int .i64 0⟩]) [0] [6] rfl (by kernel_rfl) ?_
          refine N_then ?_
          refine G_ret ?_
          refine N_ret [.tmp 6] [.int .i64 0] rfl (by kernel_rfl) rfl ?_
          exact .inr ⟨hce, .inr ⟨hsm, rfl, _, _, _, _, x5, rows6, .inl ⟨rfl, rfl⟩, hdn7, hR8, hA9, rfl⟩⟩
        ·
          refine GL_mapPut (i := 8) (ch := []) (kt := 9) (et := 66) (r := b3) (c := 0) (j := 0) (q := 0) (m := []) (k := path) (v := .pointer none) (H' := ([(b3, .map (encM ([(path, .pointer none, 0)])) 1)] :: [(d, .cells #[.int .i64 room, bv, .map (some nb), .map (some kb), .map (some cb), .bool ((callS fails once calls (((rightB path) && (rightB to)) && ((dirB path).toList == (dirB to).toList))).2.1), .bool once, .int .i64 ((callS fails once calls (((rightB path) && (rightB to)) && ((dirB path).toList == (dirB to).toList))).2.2)] 64 (0, 0))] :: [(nb, .map (encM nm) nc)] :: [(cb, .map (encM cm) cc)] :: (rowsG rows ++ H))) rfl (.inr rfl) (by kernel_rfl) (by kernel_rfl) (by kernel_rfl) (by kernel_rfl) (by kernel_rfl) (by kernel_rfl) (by kernel_rfl) (by kernel_rfl) rfl rfl rfl ?_
          refine GH_back (by kernel_rfl) (fun w h => (Sat.dropApp ((((h.erase 3).erase 2).erase 1).erase 0))) ?_
          refine GH_eff 6 (by kernel_rfl) (by kernel_rfl) (by kernel_rfl) ?_
          refine GL_mapPut (i := 6) (ch := []) (kt := 9) (et := 66) (r := b3) (c := 1) (j := 0) (q := 0) (m := [(path, .pointer none, 0)]) (k := to) (v := .pointer (some ⟨p, 0, none⟩)) (H' := ([(b3, .map (encM (mput ([(path, .pointer none, 0)]) 1 to (.pointer (some ⟨p, 0, none⟩)))) (if mhas ([(path, .pointer none, 0)]) to then 1 else 1 + 1))] :: [(d, .cells #[.int .i64 room, bv, .map (some nb), .map (some kb), .map (some cb), .bool ((callS fails once calls (((rightB path) && (rightB to)) && ((dirB path).toList == (dirB to).toList))).2.1), .bool once, .int .i64 ((callS fails once calls (((rightB path) && (rightB to)) && ((dirB path).toList == (dirB to).toList))).2.2)] 64 (0, 0))] :: [(nb, .map (encM nm) nc)] :: [(cb, .map (encM cm) cc)] :: (rowsG rows ++ H))) rfl (.inr rfl) (by kernel_rfl) (by kernel_rfl) (by kernel_rfl) (by kernel_rfl) (by kernel_rfl) (by kernel_rfl) (by kernel_rfl) (by kernel_rfl) rfl rfl rfl ?_
          refine GH_back (by kernel_rfl) (fun w h => (Sat.dropApp ((((h.erase 3).erase 2).erase 1).erase 0))) ?_
          refine GH_take (E' := [⟨45, [], .map (some b3)⟩, ⟨41, [], .map (some b3)⟩, ⟨40, [], .string (dirB to)⟩, ⟨44, [], .string path⟩, ⟨43, [], .pointer (some ⟨p, 0, none⟩)⟩, ⟨42, [], .string to⟩, ⟨39, [], .string to⟩, ⟨38, [], .pointer (some ⟨d, 0, none⟩)⟩, ⟨0, [], .pointer (some ⟨d, 0, none⟩)⟩, ⟨1, [], .string path⟩, ⟨2, [], .string to⟩, ⟨8, [], .pointer (some ⟨p, 0, none⟩)⟩, ⟨37, [], .bool (!(path.toList == to.toList))⟩]) 9 (by kernel_rfl) (by kernel_rfl) (by kernel_rfl) (by kernel_rfl) (by kernel_rfl) (fun w h => (Sat.dropApp ((((h.erase 3).erase 2).erase 1).erase 0))) ?_ ?_
          ·
            refine GL_pure (E' := [⟨45, [], .map (some b3)⟩, ⟨41, [], .map (some b3)⟩, ⟨40, [], .string (dirB to)⟩, ⟨44, [], .string path⟩, ⟨43, [], .pointer (some ⟨p, 0, none⟩)⟩, ⟨42, [], .string to⟩, ⟨39, [], .string to⟩, ⟨38, [], .pointer (some ⟨d, 0, none⟩)⟩, ⟨0, [], .pointer (some ⟨d, 0, none⟩)⟩, ⟨1, [], .string path⟩, ⟨2, [], .string to⟩, ⟨8, [], .pointer (some ⟨p, 0, none⟩)⟩, ⟨37, [], .bool (!(path.toList == to.toList))⟩]) [0] (by kernel_rfl) (j := 10) rfl ?_
            exact GL_yend (by kernel_rfl) (by kernel_rfl)
          refine GH_eff 10 (by kernel_rfl) (by kernel_rfl) (by kernel_rfl) ?_
          refine GL_heap rfl (H' := ([(d, .cells #[.int .i64 room, bv, .map (some nb), .map (some kb), .map (some cb), .bool ((callS fails once calls (((rightB path) && (rightB to)) && ((dirB path).toList == (dirB to).toList))).2.1), .bool once, .int .i64 ((callS fails once calls (((rightB path) && (rightB to)) && ((dirB path).toList == (dirB to).toList))).2.2)] 64 (0, 0))] :: [(nb, .map (encM nm) nc)] :: [(cb, .map (encM cm) cc)] :: [(b3, .map (encM (mput ([(path, .pointer none, 0)]) 1 to (.pointer (some ⟨p, 0, none⟩)))) (if mhas ([(path, .pointer none, 0)]) to then 1 else 1 + 1))] :: (rowsG rows ++ H))) (fun w h => (((h.front (j := 3) rfl).front (j := 3) rfl).front (j := 3) rfl)) ?_
          refine GL_call (i := 10) (ch := []) (f := 36) (fst := #[]) (caps := #[]) (vs := [.pointer (some ⟨d, 0, none⟩), .string (dirB to), .map (some b3)]) rfl rfl rfl (by kernel_rfl) (by kernel_rfl) Try.func36 rfl rfl (by kernel_rfl) (by kernel_rfl) (chSure_of (by kernel_rfl)) (vName d nb kb cb b3 nc cc (if mhas ([(path, .pointer none, 0)]) to then 1 else 1 + 1) room ((callS fails once calls (((rightB path) && (rightB to)) && ((dirB path).toList == (dirB to).toList))).2.2) bv ((callS fails once calls (((rightB path) && (rightB to)) && ((dirB path).toList == (dirB to).toList))).2.1) once nm cm (mput ([(path, .pointer none, 0)]) 1 to (.pointer (some ⟨p, 0, none⟩))) (dirB to) hn (MapOk.put (mapok1 _ _) _ _) (hvput (Q := fun v => v = .pointer none ∨ ∃ p, v = .pointer (some ⟨p, 0, none⟩)) (hv0 _) (.inr ⟨_, rfl⟩)) rows hR hl [[(b3, .map (encM (mput ([(path, .pointer none, 0)]) 1 to (.pointer (some ⟨p, 0, none⟩)))) (if mhas ([(path, .pointer none, 0)]) to then 1 else 1 + 1))]] _ H (At.grp 0 0 rfl rfl)) ?_
          rintro v H' ⟨dn10, x11, rows12, hdn13, rfl, hR14, hA15, rfl⟩
          refine GH_back (by kernel_rfl) (fun w h => (Sat.dropApp ((((h.erase 3).erase 2).erase 1).erase 0))) ?_
          refine GH_done (E' := []) [] (by kernel_rfl) (by kernel_rfl) ?_
          refine N_then ?_
          refine G_seq ?_
          refine G_pure (E' := [⟨6, [], .int .i64 0⟩]) [0] [6] rfl (by kernel_rfl) ?_
          refine N_then ?_
          refine G_ret ?_
          refine N_ret [.tmp 6] [.int .i64 0] rfl (by kernel_rfl) rfl ?_
          exact .inr ⟨hce, .inr ⟨hsm, rfl, _, _, _, _, x11, rows12, .inr ⟨rfl, rfl⟩, hdn13, hR14, hA15, rfl⟩⟩
      ·
        refine GL_makeMap (i := 3) (ch := []) rfl rfl (by kernel_rfl) (by kernel_rfl) (by kernel_rfl) (fun b16 => ?_)
        refine GH_back (by kernel_rfl) (fun w h => (Sat.dropApp ((((h.erase 3).erase 2).erase 1).erase 0))) ?_
        refine GH_eff3 2 6 8 (by kernel_rfl) (by kernel_rfl) (by kernel_rfl) (by kernel_rfl) (by kernel_rfl) (by kernel_rfl) (by kernel_rfl) ?_ ?_ ?_
        ·
          refine GL_callQ (i := 2) (ch := []) (f := 37) (fst := #[]) (caps := #[]) (vs := [.string to]) (v := .string (dirB to)) rfl rfl rfl (by kernel_rfl) (by kernel_rfl) Try.func37 rfl rfl (by kernel_rfl) (by kernel_rfl) (by kernel_rfl) (fun _ => vfsDirOf _ hto _ _) ?_
          refine GH_back (by kernel_rfl) (fun w h => (Sat.dropApp ((((h.erase 3).erase 2).erase 1).erase 0))) ?_
          refine GH_eff2 6 8 (by kernel_rfl) (by kernel_rfl) (by kernel_rfl) (by kernel_rfl) (by kernel_rfl) ?_ ?_
          ·
            refine GL_mapPut (i := 6) (ch := []) (kt := 9) (et := 66) (r := b16) (c := 0) (j := 0) (q := 0) (m := []) (k := to) (v := .pointer (some ⟨p, 0, none⟩)) (H' := ([(b16, .map (encM ([(to, .pointer (some ⟨p, 0, none⟩), 0)])) 1)] :: [(d, .cells #[.int .i64 room, bv, .map (some nb), .map (some kb), .map (some cb), .bool ((callS fails once calls (((rightB path) && (rightB to)) && ((dirB path).toList == (dirB to).toList))).2.1), .bool once, .int .i64 ((callS fails once calls (((rightB path) && (rightB to)) && ((dirB path).toList == (dirB to).toList))).2.2)] 64 (0, 0))] :: [(nb, .map (encM nm) nc)] :: [(cb, .map (encM cm) cc)] :: (rowsG rows ++ H))) rfl (.inr rfl) (by kernel_rfl) (by kernel_rfl) (by kernel_rfl) (by kernel_rfl) (by kernel_rfl) (by kernel_rfl) (by kernel_rfl) (by kernel_rfl) rfl rfl rfl ?_
            refine GH_back (by kernel_rfl) (fun w h => (Sat.dropApp ((((h.erase 3).erase 2).erase 1).erase 0))) ?_
            refine GH_eff 8 (by kernel_rfl) (by kernel_rfl) (by kernel_rfl) ?_
            refine GL_mapPut (i := 8) (ch := []) (kt := 9) (et := 66) (r := b16) (c := 1) (j := 0) (q := 0) (m := [(to, .pointer (some ⟨p, 0, none⟩), 0)]) (k := path) (v := .pointer none) (H' := ([(b16, .map (encM (mput ([(to, .pointer (some ⟨p, 0, none⟩), 0)]) 1 path (.pointer none))) (if mhas ([(to, .pointer (some ⟨p, 0, none⟩), 0)]) path then 1 else 1 + 1))] :: [(d, .cells #[.int .i64 room, bv, .map (some nb), .map (some kb), .map (some cb), .bool ((callS fails once calls (((rightB path) && (rightB to)) && ((dirB path).toList == (dirB to).toList))).2.1), .bool once, .int .i64 ((callS fails once calls (((rightB path) && (rightB to)) && ((dirB path).toList == (dirB to).toList))).2.2)] 64 (0, 0))] :: [(nb, .map (encM nm) nc)] :: [(cb, .map (encM cm) cc)] :: (rowsG rows ++ H))) rfl (.inr rfl) (by kernel_rfl) (by kernel_rfl) (by kernel_rfl) (by kernel_rfl) (by kernel_rfl) (by kernel_rfl) (by kernel_rfl) (by kernel_rfl) rfl rfl rfl ?_
            refine GH_back (by kernel_rfl) (fun w h => (Sat.dropApp ((((h.erase 3).erase 2).erase 1).erase 0))) ?_
            refine GH_take (E' := [⟨45, [], .map (some b16)⟩, ⟨40, [], .string (dirB to)⟩, ⟨41, [], .map (some b16)⟩, ⟨44, [], .string path⟩, ⟨43, [], .pointer (some ⟨p, 0, none⟩)⟩, ⟨42, [], .string to⟩, ⟨39, [], .string to⟩, ⟨38, [], .pointer (some ⟨d, 0, none⟩)⟩, ⟨0, [], .pointer (some ⟨d, 0, none⟩)⟩, ⟨1, [], .string path⟩, ⟨2, [], .string to⟩, ⟨8, [], .pointer (some ⟨p, 0, none⟩)⟩, ⟨37, [], .bool (!(path.toList == to.toList))⟩]) 9 (by kernel_rfl) (by kernel_rfl) (by kernel_rfl) (by kernel_rfl) (by kernel_rfl) (fun w h => (Sat.dropApp ((((h.erase 3).erase 2).erase 1).erase 0))) ?_ ?_
            ·
              refine GL_pure (E' := [⟨45, [], .map (some b16)⟩, ⟨40, [], .string (dirB to)⟩, ⟨41, [], .map (some b16)⟩, ⟨44, [], .string path⟩, ⟨43, [], .pointer (some ⟨p, 0, none⟩)⟩, ⟨42, [], .string to⟩, ⟨39, [], .string to⟩, ⟨38, [], .pointer (some ⟨d, 0, none⟩)⟩, ⟨0, [], .pointer (some ⟨d, 0, none⟩)⟩, ⟨1, [], .string path⟩, ⟨2, [], .string to⟩, ⟨8, [], .pointer (some ⟨p, 0, none⟩)⟩, ⟨37, [], .bool (!(path.toList == to.toList))⟩]) [0] (by kernel_rfl) (j := 10) rfl ?_
              exact GL_yend (by kernel_rfl) (by kernel_rfl)
            refine GH_eff 10 (by kernel_rfl) (by kernel_rfl) (by kernel_rfl) ?_
            refine GL_heap rfl (H' := ([(d, .cells #[.int .i64 room, bv, .map (some nb), .map (some kb), .map (some cb), .bool ((callS fails once calls (((rightB path) && (rightB to)) && ((dirB path).toList == (dirB to).toList))).2.1), .bool once, .int .i64 ((callS fails once calls (((rightB path) && (rightB to)) && ((dirB path).toList == (dirB to).toList))).2.2)] 64 (0, 0))] :: [(nb, .map (encM nm) nc)] :: [(cb, .map (encM cm) cc)] :: [(b16, .map (encM (mput ([(to, .pointer (some ⟨p, 0, none⟩), 0)]) 1 path (.pointer none))) (if mhas ([(to, .pointer (some ⟨p, 0, none⟩), 0)]) path then 1 else 1 + 1))] :: (rowsG rows ++ H))) (fun w h => (((h.front (j := 3) rfl).front (j := 3) rfl).front (j := 3) rfl)) ?_
            refine GL_call (i := 10) (ch := []) (f := 36) (fst := #[]) (caps := #[]) (vs := [.pointer (some ⟨d, 0, none⟩), .string (dirB to), .map (some b16)]) rfl rfl rfl (by kernel_rfl) (by kernel_rfl) Try.func36 rfl rfl (by kernel_rfl) (by kernel_rfl) (chSure_of (by kernel_rfl)) (vName d nb kb cb b16 nc cc (if mhas ([(to, .pointer (some ⟨p, 0, none⟩), 0)]) path then 1 else 1 + 1) room ((callS fails once calls (((rightB path) && (rightB to)) && ((dirB path).toList == (dirB to).toList))).2.2) bv ((callS fails once calls (((rightB path) && (rightB to)) && ((dirB path).toList == (dirB to).toList))).2.1) once nm cm (mput ([(to, .pointer (some ⟨p, 0, none⟩), 0)]) 1 path (.pointer none)) (dirB to) hn (MapOk.put (mapok1 _ _) _ _) (hvput (Q := fun v => v = .pointer none ∨ ∃ p, v = .pointer (some ⟨p, 0, none⟩)) (hv1 _ _) (.inl rfl)) rows hR hl [[(b16, .map (encM (mput ([(to, .pointer (some ⟨p, 0, none⟩), 0)]) 1 path (.pointer none))) (if mhas ([(to, .pointer (some ⟨p, 0, none⟩), 0)]) path then 1 else 1 + 1))]] _ H (At.grp 0 0 rfl rfl)) ?_
            rintro v H' ⟨dn17, x18, rows19, hdn20, rfl, hR21, hA22, rfl⟩
            refine GH_back (by kernel_rfl) (fun w h => (Sat.dropApp ((((h.erase 3).erase 2).erase 1).erase 0))) ?_
            refine GH_done (E' := []) [] (by kernel_rfl) (by kernel_rfl) ?_
            refine N_then ?_
            refine G_seq ?_
            refine G_pure (E' := [⟨6, [], .int .i64 0⟩]) [0] [6] rfl (by kernel_rfl) ?_
            refine N_then ?_
            refine G_ret ?_
            refine N_ret [.tmp 6] [.int .i64 0] rfl (by kernel_rfl) rfl ?_
            exact .inr ⟨hce, .inr ⟨hsm, rfl, _, _, _, _, x18, rows19, .inl ⟨rfl, rfl⟩, hdn20, hR21, hA22, rfl⟩⟩
          ·
            refine GL_mapPut (i := 8) (ch := []) (kt := 9) (et := 66) (r := b16) (c := 0) (j := 0) (q := 0) (m := []) (k := path) (v := .pointer none) (H' := ([(b16, .map (encM ([(path, .pointer none, 0)])) 1)] :: [(d, .cells #[.int .i64 room, bv, .map (some nb), .map (some kb), .map (some cb), .bool ((callS fails once calls (((rightB path) && (rightB to)) && ((dirB path).toList == (dirB to).toList))).2.1), .bool once, .int .i64 ((callS fails once calls (((rightB path) && (rightB to)) && ((dirB path).toList == (dirB to).toList))).2.2)] 64 (0, 0))] :: [(nb, .map (encM nm) nc)] :: [(cb, .map (encM cm) cc)] :: (rowsG rows ++ H))) rfl (.inr rfl) (by kernel_rfl) (by kernel_rfl) (by kernel_rfl) (by kernel_rfl) (by kernel_rfl) (by kernel_rfl) (by kernel_rfl) (by kernel_rfl) rfl rfl rfl ?_
            refine GH_back (by kernel_rfl) (fun w h => (Sat.dropApp ((((h.erase 3).erase 2).erase 1).erase 0))) ?_
            refine GH_eff 6 (by kernel_rfl) (by kernel_rfl) (by kernel_rfl) ?_
            refine GL_mapPut (i := 6) (ch := []) (kt := 9) (et := 66) (r := b16) (c := 1) (j := 0) (q := 0) (m := [(path, .pointer none, 0)]) (k := to) (v := .pointer (some ⟨p, 0, none⟩)) (H' := ([(b16, .map (encM (mput ([(path, .pointer none, 0)]) 1 to (.pointer (some ⟨p, 0, none⟩)))) (if mhas ([(path, .pointer none, 0)]) to then 1 else 1 + 1))] :: [(d, .cells #[.int .i64 room, bv, .map (some nb), .map (some kb), .map (some cb), .bool ((callS fails once calls (((rightB path) && (rightB to)) && ((dirB path).toList == (dirB to).toList))).2.1), .bool once, .int .i64 ((callS fails once calls (((rightB path) && (rightB to)) && ((dirB path).toList == (dirB to).toList))).2.2)] 64 (0, 0))] :: [(nb, .map (encM nm) nc)] :: [(cb, .map (encM cm) cc)] :: (rowsG rows ++ H))) rfl (.inr rfl) (by kernel_rfl) (by kernel_rfl) (by kernel_rfl) (by kernel_rfl) (by kernel_rfl) (by kernel_rfl) (by kernel_rfl) (by kernel_rfl) rfl rfl rfl ?_
            refine GH_back (by kernel_rfl) (fun w h => (Sat.dropApp ((((h.erase 3).erase 2).erase 1).erase 0))) ?_
            refine GH_take (E' := [⟨45, [], .map (some b16)⟩, ⟨40, [], .string (dirB to)⟩, ⟨41, [], .map (some b16)⟩, ⟨44, [], .string path⟩, ⟨43, [], .pointer (some ⟨p, 0, none⟩)⟩, ⟨42, [], .string to⟩, ⟨39, [], .string to⟩, ⟨38, [], .pointer (some ⟨d, 0, none⟩)⟩, ⟨0, [], .pointer (some ⟨d, 0, none⟩)⟩, ⟨1, [], .string path⟩, ⟨2, [], .string to⟩, ⟨8, [], .pointer (some ⟨p, 0, none⟩)⟩, ⟨37, [], .bool (!(path.toList == to.toList))⟩]) 9 (by kernel_rfl) (by kernel_rfl) (by kernel_rfl) (by kernel_rfl) (by kernel_rfl) (fun w h => (Sat.dropApp ((((h.erase 3).erase 2).erase 1).erase 0))) ?_ ?_
            ·
              refine GL_pure (E' := [⟨45, [], .map (some b16)⟩, ⟨40, [], .string (dirB to)⟩, ⟨41, [], .map (some b16)⟩, ⟨44, [], .string path⟩, ⟨43, [], .pointer (some ⟨p, 0, none⟩)⟩, ⟨42, [], .string to⟩, ⟨39, [], .string to⟩, ⟨38, [], .pointer (some ⟨d, 0, none⟩)⟩, ⟨0, [], .pointer (some ⟨d, 0, none⟩)⟩, ⟨1, [], .string path⟩, ⟨2, [], .string to⟩, ⟨8, [], .pointer (some ⟨p, 0, none⟩)⟩, ⟨37, [], .bool (!(path.toList == to.toList))⟩]) [0] (by kernel_rfl) (j := 10) rfl ?_
              exact GL_yend (by kernel_rfl) (by kernel_rfl)
            refine GH_eff 10 (by kernel_rfl) (by kernel_rfl) (by kernel_rfl) ?_
            refine GL_heap rfl (H' := ([(d, .cells #[.int .i64 room, bv, .map (some nb), .map (some kb), .map (some cb), .bool ((callS fails once calls (((rightB path) && (rightB to)) && ((dirB path).toList == (dirB to).toList))).2.1), .bool once, .int .i64 ((callS fails once calls (((rightB path) && (rightB to)) && ((dirB path).toList == (dirB to).toList))).2.2)] 64 (0, 0))] :: [(nb, .map (encM nm) nc)] :: [(cb, .map (encM cm) cc)] :: [(b16, .map (encM (mput ([(path, .pointer none, 0)]) 1 to (.pointer (some ⟨p, 0, none⟩)))) (if mhas ([(path, .pointer none, 0)]) to then 1 else 1 + 1))] :: (rowsG rows ++ H))) (fun w h => (((h.front (j := 3) rfl).front (j := 3) rfl).front (j := 3) rfl)) ?_
            refine GL_call (i := 10) (ch := []) (f := 36) (fst := #[]) (caps := #[]) (vs := [.pointer (some ⟨d, 0, none⟩), .string (dirB to), .map (some b16)]) rfl rfl rfl (by kernel_rfl) (by kernel_rfl) Try.func36 rfl rfl (by kernel_rfl) (by kernel_rfl) (chSure_of (by kernel_rfl)) (vName d nb kb cb b16 nc cc (if mhas ([(path, .pointer none, 0)]) to then 1 else 1 + 1) room ((callS fails once calls (((rightB path) && (rightB to)) && ((dirB path).toList == (dirB to).toList))).2.2) bv ((callS fails once calls (((rightB path) && (rightB to)) && ((dirB path).toList == (dirB to).toList))).2.1) once nm cm (mput ([(path, .pointer none, 0)]) 1 to (.pointer (some ⟨p, 0, none⟩))) (dirB to) hn (MapOk.put (mapok1 _ _) _ _) (hvput (Q := fun v => v = .pointer none ∨ ∃ p, v = .pointer (some ⟨p, 0, none⟩)) (hv0 _) (.inr ⟨_, rfl⟩)) rows hR hl [[(b16, .map (encM (mput ([(path, .pointer none, 0)]) 1 to (.pointer (some ⟨p, 0, none⟩)))) (if mhas ([(path, .pointer none, 0)]) to then 1 else 1 + 1))]] _ H (At.grp 0 0 rfl rfl)) ?_
            rintro v H' ⟨dn23, x24, rows25, hdn26, rfl, hR27, hA28, rfl⟩
            refine GH_back (by kernel_rfl) (fun w h => (Sat.dropApp ((((h.erase 3).erase 2).erase 1).erase 0))) ?_
            refine GH_done (E' := []) [] (by kernel_rfl) (by kernel_rfl) ?_
            refine N_then ?_
            refine G_seq ?_
            refine G_pure (E' := [⟨6, [], .int .i64 0⟩]) [0] [6] rfl (by kernel_rfl) ?_
            refine N_then ?_
            refine G_ret ?_
            refine N_ret [.tmp 6] [.int .i64 0] rfl (by kernel_rfl) rfl ?_
            exact .inr ⟨hce, .inr ⟨hsm, rfl, _, _, _, _, x24, rows25, .inr ⟨rfl, rfl⟩, hdn26, hR27, hA28, rfl⟩⟩
        ·
          refine GL_mapPut (i := 6) (ch := []) (kt := 9) (et := 66) (r := b16) (c := 0) (j := 0) (q := 0) (m := []) (k := to) (v := .pointer (some ⟨p, 0, none⟩)) (H' := ([(b16, .map (encM ([(to, .pointer (some ⟨p, 0, none⟩), 0)])) 1)] :: [(d, .cells #[.int .i64 room, bv, .map (some nb), .map (some kb), .map (some cb), .bool ((callS fails once calls (((rightB path) && (rightB to)) && ((dirB path).toList == (dirB to).toList))).2.1), .bool once, .int .i64 ((callS fails once calls (((rightB path) && (rightB to)) && ((dirB path).toList == (dirB to).toList))).2.2)] 64 (0, 0))] :: [(nb, .map (encM nm) nc)] :: [(cb, .map (encM cm) cc)] :: (rowsG rows ++ H))) rfl (.inr rfl) (by kernel_rfl) (by kernel_rfl) (by kernel_rfl) (by kernel_rfl) (by kernel_rfl) (by kernel_rfl) (by kernel_rfl) (by kernel_rfl) rfl rfl rfl ?_
          refine GH_back (by kernel_rfl) (fun w h => (Sat.dropApp ((((h.erase 3).erase 2).erase 1).erase 0))) ?_
          refine GH_eff2 2 8 (by kernel_rfl) (by kernel_rfl) (by kernel_rfl) (by kernel_rfl) (by kernel_rfl) ?_ ?_
          ·
            refine GL_callQ (i := 2) (ch := []) (f := 37) (fst := #[]) (caps := #[]) (vs := [.string to]) (v := .string (dirB to)) rfl rfl rfl (by kernel_rfl) (by kernel_rfl) Try.func37 rfl rfl (by kernel_rfl) (by kernel_rfl) (by kernel_rfl) (fun _ => vfsDirOf _ hto _ _) ?_
            refine GH_back (by kernel_rfl) (fun w h => (Sat.dropApp ((((h.erase 3).erase 2).erase 1).erase 0))) ?_
            refine GH_eff 8 (by kernel_rfl) (by kernel_rfl) (by kernel_rfl) ?_
            refine GL_mapPut (i := 8) (ch := []) (kt := 9) (et := 66) (r := b16) (c := 1) (j := 0) (q := 0) (m := [(to, .pointer (some ⟨p, 0, none⟩), 0)]) (k := path) (v := .pointer none) (H' := ([(b16, .map (encM (mput ([(to, .pointer (some ⟨p, 0, none⟩), 0)]) 1 path (.pointer none))) (if mhas ([(to, .pointer (some ⟨p, 0, none⟩), 0)]) path then 1 else 1 + 1))] :: [(d, .cells #[.int .i64 room, bv, .map (some nb), .map (some kb), .map (some cb), .bool ((callS fails once calls (((rightB path) && (rightB to)) && ((dirB path).toList == (dirB to).toList))).2.1), .bool once, .int .i64 ((callS fails once calls (((rightB path) && (rightB to)) && ((dirB path).toList == (dirB to).toList))).2.2)] 64 (0, 0))] :: [(nb, .map (encM nm) nc)] :: [(cb, .map (encM cm) cc)] :: (rowsG rows ++ H))) rfl (.inr rfl) (by kernel_rfl) (by kernel_rfl) (by kernel_rfl) (by kernel_rfl) (by kernel_rfl) (by kernel_rfl) (by kernel_rfl) (by kernel_rfl) rfl rfl rfl ?_
            refine GH_back (by kernel_rfl) (fun w h => (Sat.dropApp ((((h.erase 3).erase 2).erase 1).erase 0))) ?_
            refine GH_take (E' := [⟨45, [], .map (some b16)⟩, ⟨40, [], .string (dirB to)⟩, ⟨41, [], .map (some b16)⟩, ⟨44, [], .string path⟩, ⟨43, [], .pointer (some ⟨p, 0, none⟩)⟩, ⟨42, [], .string to⟩, ⟨39, [], .string to⟩, ⟨38, [], .pointer (some ⟨d, 0, none⟩)⟩, ⟨0, [], .pointer (some ⟨d, 0, none⟩)⟩, ⟨1, [], .string path⟩, ⟨2, [], .string to⟩, ⟨8, [], .pointer (some ⟨p, 0, none⟩)⟩, ⟨37, [], .bool (!(path.toList == to.toList))⟩]) 9 (by kernel_rfl) (by kernel_rfl) (by kernel_rfl) (by kernel_rfl) (by kernel_rfl) (fun w h => (Sat.dropApp ((((h.erase 3).erase 2).erase 1).erase 0))) ?_ ?_
            ·
              refine GL_pure (E' := [⟨45, [], .map (some b16)⟩, ⟨40, [], .string (dirB to)⟩, ⟨41, [], .map (some b16)⟩, ⟨44, [], .string path⟩, ⟨43, [], .pointer (some ⟨p, 0, none⟩)⟩, ⟨42, [], .string to⟩, ⟨39, [], .string to⟩, ⟨38, [], .pointer (some ⟨d, 0, none⟩)⟩, ⟨0, [], .pointer (some ⟨d, 0, none⟩)⟩, ⟨1, [], .string path⟩, ⟨2, [], .string to⟩, ⟨8, [], .pointer (some ⟨p, 0, none⟩)⟩, ⟨37, [], .bool (!(path.toList == to.toList))⟩]) [0] (by kernel_rfl) (j := 10) rfl ?_
              exact GL_yend (by kernel_rfl) (by kernel_rfl)
            refine GH_eff 10 (by kernel_rfl) (by kernel_rfl) (by kernel_rfl) ?_
            refine GL_heap rfl (H' := ([(d, .cells #[.int .i64 room, bv, .map (some nb), .map (some kb), .map (some cb), .bool ((callS fails once calls (((rightB path) && (rightB to)) && ((dirB path).toList == (dirB to).toList))).2.1), .bool once, .int .i64 ((callS fails once calls (((rightB path) && (rightB to)) && ((dirB path).toList == (dirB to).toList))).2.2)] 64 (0, 0))] :: [(nb, .map (encM nm) nc)] :: [(cb, .map (encM cm) cc)] :: [(b16, .map (encM (mput ([(to, .pointer (some ⟨p, 0, none⟩), 0)]) 1 path (.pointer none))) (if mhas ([(to, .pointer (some ⟨p, 0, none⟩), 0)]) path then 1 else 1 + 1))] :: (rowsG rows ++ H))) (fun w h => (((h.front (j := 3) rfl).front (j := 3) rfl).front (j := 3) rfl)) ?_
            refine GL_call (i := 10) (ch := []) (f := 36) (fst := #[]) (caps := #[]) (vs := [.pointer (some ⟨d, 0, none⟩), .string (dirB to), .map (some b16)]) rfl rfl rfl (by kernel_rfl) (by kernel_rfl) Try.func36 rfl rfl (by kernel_rfl) (by kernel_rfl) (chSure_of (by kernel_rfl)) (vName d nb kb cb b16 nc cc (if mhas ([(to, .pointer (some ⟨p, 0, none⟩), 0)]) path then 1 else 1 + 1) room ((callS fails once calls (((rightB path) && (rightB to)) && ((dirB path).toList == (dirB to).toList))).2.2) bv ((callS fails once calls (((rightB path) && (rightB to)) && ((dirB path).toList == (dirB to).toList))).2.1) once nm cm (mput ([(to, .pointer (some ⟨p, 0, none⟩), 0)]) 1 path (.pointer none)) (dirB to) hn (MapOk.put (mapok1 _ _) _ _) (hvput (Q := fun v => v = .pointer none ∨ ∃ p, v = .pointer (some ⟨p, 0, none⟩)) (hv1 _ _) (.inl rfl)) rows hR hl [[(b16, .map (encM (mput ([(to, .pointer (some ⟨p, 0, none⟩), 0)]) 1 path (.pointer none))) (if mhas ([(to, .pointer (some ⟨p, 0, none⟩), 0)]) path then 1 else 1 + 1))]] _ H (At.grp 0 0 rfl rfl)) ?_
            rintro v H' ⟨dn29, x30, rows31, hdn32, rfl, hR33, hA34, rfl⟩
            refine GH_back (by kernel_rfl) (fun w h => (Sat.dropApp ((((h.erase 3).erase 2).erase 1).erase 0))) ?_
            refine GH_done (E' := []) [] (by kernel_rfl) (by kernel_rfl) ?_
            refine N_then ?_
            refine G_seq ?_
            refine G_pure (E' := [⟨6, [], .int .i64 0⟩]) [0] [6] rfl (by kernel_rfl) ?_
            refine N_then ?_
            refine G_ret ?_
            refine N_ret [.tmp 6] [.int .i64 0] rfl (by kernel_rfl) rfl ?_
            exact .inr ⟨hce, .inr ⟨hsm, rfl, _, _, _, _, x30, rows31, .inl ⟨rfl, rfl⟩, hdn32, hR33, hA34, rfl⟩⟩
          ·
            refine GL_mapPut (i := 8) (ch := []) (kt := 9) (et := 66) (r := b16) (c := 1) (j := 0) (q := 0) (m := [(to, .pointer (some ⟨p, 0, none⟩), 0)]) (k := path) (v := .pointer none) (H' := ([(b16, .map (encM (mput ([(to, .pointer (some ⟨p, 0, none⟩), 0)]) 1 path (.pointer none))) (if mhas ([(to, .pointer (some ⟨p, 0, none⟩), 0)]) path then 1 else 1 + 1))] :: [(d, .cells #[.int .i64 room, bv, .map (some nb), .map (some kb), .map (some cb), .bool ((callS fails once calls (((rightB path) && (rightB to)) && ((dirB path).toList == (dirB to).toList))).2.1), .bool once, .int .i64 ((callS fails once calls (((rightB path) && (rightB to)) && ((dirB path).toList == (dirB to).toList))).2.2)] 64 (0, 0))] :: [(nb, .map (encM nm) nc)] :: [(cb, .map (encM cm) cc)] :: (rowsG rows ++ H))) rfl (.inr rfl) (by kernel_rfl) (by kernel_rfl) (by kernel_rfl) (by kernel_rfl) (by kernel_rfl) (by kernel_rfl) (by kernel_rfl) (by kernel_rfl) rfl rfl rfl ?_
            refine GH_back (by kernel_rfl) (fun w h => (Sat.dropApp ((((h.erase 3).erase 2).erase 1).erase 0))) ?_
            refine GH_take (E' := [⟨45, [], .map (some b16)⟩, ⟨41, [], .map (some b16)⟩, ⟨44, [], .string path⟩, ⟨43, [], .pointer (some ⟨p, 0, none⟩)⟩, ⟨42, [], .string to⟩, ⟨39, [], .string to⟩, ⟨38, [], .pointer (some ⟨d, 0, none⟩)⟩, ⟨0, [], .pointer (some ⟨d, 0, none⟩)⟩, ⟨1, [], .string path⟩, ⟨2, [], .string to⟩, ⟨8, [], .pointer (some ⟨p, 0, none⟩)⟩, ⟨37, [], .bool (!(path.toList == to.toList))⟩]) 9 (by kernel_rfl) (by kernel_rfl) (by kernel_rfl) (by kernel_rfl) (by kernel_rfl) (fun w h => (Sat.dropApp ((((h.erase 3).erase 2).erase 1).erase 0))) ?_ ?_
            ·
              refine GL_pure (E' := [⟨45, [], .map (some b16)⟩, ⟨41, [], .map (some b16)⟩, ⟨44, [], .string path⟩, ⟨43, [], .pointer (some ⟨p, 0, none⟩)⟩, ⟨42, [], .string to⟩, ⟨39, [], .string to⟩, ⟨38, [], .pointer (some ⟨d, 0, none⟩)⟩, ⟨0, [], .pointer (some ⟨d, 0, none⟩)⟩, ⟨1, [], .string path⟩, ⟨2, [], .string to⟩, ⟨8, [], .pointer (some ⟨p, 0, none⟩)⟩, ⟨37, [], .bool (!(path.toList == to.toList))⟩]) [0] (by kernel_rfl) (j := 10) rfl ?_
              exact GL_yend (by kernel_rfl) (by kernel_rfl)
            refine GH_eff 2 (by kernel_rfl) (by kernel_rfl) (by kernel_rfl) ?_
            refine GL_callQ (i := 2) (ch := []) (f := 37) (fst := #[]) (caps := #[]) (vs := [.string to]) (v := .string (dirB to)) rfl rfl rfl (by kernel_rfl) (by kernel_rfl) Try.func37 rfl rfl (by kernel_rfl) (by kernel_rfl) (by kernel_rfl) (fun _ => vfsDirOf _ hto _ _) ?_
            refine GH_back (by kernel_rfl) (fun w h => (Sat.dropApp ((((h.erase 3).erase 2).erase 1).erase 0))) ?_
            refine GH_eff 10 (by kernel_rfl) (by kernel_rfl) (by kernel_rfl) ?_
            refine GL_heap rfl (H' := ([(d, .cells #[.int .i64 room, bv, .map (some nb), .map (some kb), .map (some cb), .bool ((callS fails once calls (((rightB path) && (rightB to)) && ((dirB path).toList == (dirB to).toList))).2.1), .bool once, .int .i64 ((callS fails once calls (((rightB path) && (rightB to)) && ((dirB path).toList == (dirB to).toList))).2.2)] 64 (0, 0))] :: [(nb, .map (encM nm) nc)] :: [(cb, .map (encM cm) cc)] :: [(b16, .map (encM (mput ([(to, .pointer (some ⟨p, 0, none⟩), 0)]) 1 path (.pointer none))) (if mhas ([(to, .pointer (some ⟨p, 0, none⟩), 0)]) path then 1 else 1 + 1))] :: (rowsG rows ++ H))) (fun w h => (((h.front (j := 3) rfl).front (j := 3) rfl).front (j := 3) rfl)) ?_
            refine GL_call (i := 10) (ch := []) (f := 36) (fst := #[]) (caps := #[]) (vs := [.pointer (some ⟨d, 0, none⟩), .string (dirB to), .map (some b16)]) rfl rfl rfl (by kernel_rfl) (by kernel_rfl) Try.func36 rfl rfl (by kernel_rfl) (by kernel_rfl) (chSure_of (by kernel_rfl)) (vName d nb kb cb b16 nc cc (if mhas ([(to, .pointer (some ⟨p, 0, none⟩), 0)]) path then 1 else 1 + 1) room ((callS fails once calls (((rightB path) && (rightB to)) && ((dirB path).toList == (dirB to).toList))).2.2) bv ((callS fails once calls (((rightB path) && (rightB to)) && ((dirB path).toList == (dirB to).toList))).2.1) once nm cm (mput ([(to, .pointer (some ⟨p, 0, none⟩), 0)]) 1 path (.pointer none)) (dirB to) hn (MapOk.put (mapok1 _ _) _ _) (hvput (Q := fun v => v = .pointer none ∨ ∃ p, v = .pointer (some ⟨p, 0, none⟩)) (hv1 _ _) (.inl rfl)) rows hR hl [[(b16, .map (encM (mput ([(to, .pointer (some ⟨p, 0, none⟩), 0)]) 1 path (.pointer none))) (if mhas ([(to, .pointer (some ⟨p, 0, none⟩), 0)]) path then 1 else 1 + 1))]] _ H (At.grp 0 0 rfl rfl)) ?_
            rintro v H' ⟨dn35, x36, rows37, hdn38, rfl, hR39, hA40, rfl⟩
            refine GH_back (by kernel_rfl) (fun w h => (Sat.dropApp ((((h.erase 3).erase 2).erase 1).erase 0))) ?_
            refine GH_done (E' := []) [] (by kernel_rfl) (by kernel_rfl) ?_
            refine N_then ?_
            refine G_seq ?_
            refine G_pure (E' := [⟨6, [], .int .i64 0⟩]) [0] [6] rfl (by kernel_rfl) ?_
            refine N_then ?_
            refine G_ret ?_
            refine N_ret [.tmp 6] [.int .i64 0] rfl (by kernel_rfl) rfl ?_
            exact .inr ⟨hce, .inr ⟨hsm, rfl, _, _, _, _, x36, rows37, .inl ⟨rfl, rfl⟩, hdn38, hR39, hA40, rfl⟩⟩
        ·
          refine GL_mapPut (i := 8) (ch := []) (kt := 9) (et := 66) (r := b16) (c := 0) (j := 0) (q := 0) (m := []) (k := path) (v := .pointer none) (H' := ([(b16, .map (encM ([(path, .pointer none, 0)])) 1)] :: [(d, .cells #[.int .i64 room, bv, .map (some nb), .map (some kb), .map (some cb), .bool ((callS fails once calls (((rightB path) && (rightB to)) && ((dirB path).toList == (dirB to).toList))).2.1), .bool once, .int .i64 ((callS fails once calls (((rightB path) && (rightB to)) && ((dirB path).toList == (dirB to).toList))).2.2)] 64 (0, 0))] :: [(nb, .map (encM nm) nc)] :: [(cb, .map (encM cm) cc)] :: (rowsG rows ++ H))) rfl (.inr rfl) (by kernel_rfl) (by kernel_rfl) (by kernel_rfl) (by kernel_rfl) (by kernel_rfl) (by kernel_rfl) (by kernel_rfl) (by kernel_rfl) rfl rfl rfl ?_
          refine GH_back (by kernel_rfl) (fun w h => (Sat.dropApp ((((h.erase 3).erase 2).erase 1).erase 0))) ?_
          refine GH_eff2 2 6 (by kernel_rfl) (by kernel_rfl) (by kernel_rfl) (by kernel_rfl) (by kernel_rfl) ?_ ?_
          ·
            refine GL_callQ (i := 2) (ch := []) (f := 37) (fst := #[]) (caps := #[]) (vs := [.string to]) (v := .string (dirB to)) rfl rfl rfl (by kernel_rfl) (by kernel_rfl) Try.func37 rfl rfl (by kernel_rfl) (by kernel_rfl) (by kernel_rfl) (fun _ => vfsDirOf _ hto _ _) ?_
            refine GH_back (by kernel_rfl) (fun w h => (Sat.dropApp ((((h.erase 3).erase 2).erase 1).erase 0))) ?_
            refine GH_eff 6 (by kernel_rfl) (by kernel_rfl) (by kernel_rfl) ?_
            refine GL_mapPut (i := 6) (ch := []) (kt := 9) (et := 66) (r := b16) (c := 1) (j := 0) (q := 0) (m := [(path, .pointer none, 0)]) (k := to) (v := .pointer (some ⟨p, 0, none⟩)) (H' := ([(b16, .map (encM (mput ([(path, .pointer none, 0)]) 1 to (.pointer (some ⟨p, 0, none⟩)))) (if mhas ([(path, .pointer none, 0)]) to then 1 else 1 + 1))] :: [(d, .cells #[.int .i64 room, bv, .map (some nb), .map (some kb), .map (some cb), .bool ((callS fails once calls (((rightB path) && (rightB to)) && ((dirB path).toList == (dirB to).toList))).2.1), .bool once, .int .i64 ((callS fails once calls (((rightB path) && (rightB to)) && ((dirB path).toList == (dirB to).toList))).2.2)] 64 (0, 0))] :: [(nb, .map (encM nm) nc)] :: [(cb, .map (encM cm) cc)] :: (rowsG rows ++ H))) rfl (.inr rfl) (by kernel_rfl) (by kernel_rfl) (by kernel_rfl) (by kernel_rfl) (by kernel_rfl) (by kernel_rfl) (by kernel_rfl) (by kernel_rfl) rfl rfl rfl ?_
            refine GH_back (by kernel_rfl) (fun w h => (Sat.dropApp ((((h.erase 3).erase 2).erase 1).erase 0))) ?_
            refine GH_take (E' := [⟨45, [], .map (some b16)⟩, ⟨40, [], .string (dirB to)⟩, ⟨41, [], .map (some b16)⟩, ⟨44, [], .string path⟩, ⟨43, [], .pointer (some ⟨p, 0, none⟩)⟩, ⟨42, [], .string to⟩, ⟨39, [], .string to⟩, ⟨38, [], .pointer (some ⟨d, 0, none⟩)⟩, ⟨0, [], .pointer (some ⟨d, 0, none⟩)⟩, ⟨1, [], .string path⟩, ⟨2, [], .string to⟩, ⟨8, [], .pointer (some ⟨p, 0, none⟩)⟩, ⟨37, [], .bool (!(path.toList == to.toList))⟩]) 9 (by kernel_rfl) (by kernel_rfl) (by kernel_rfl) (by kernel_rfl) (by kernel_rfl) (fun w h => (Sat.dropApp ((((h.erase 3).erase 2).erase 1).erase 0))) ?_ ?_
            ·
              refine GL_pure (E' := [⟨45, [], .map (some b16)⟩, ⟨40, [], .string (dirB to)⟩, ⟨41, [], .map (some b16)⟩, ⟨44, [], .string path⟩, ⟨43, [], .pointer (some ⟨p, 0, none⟩)⟩, ⟨42, [], .string to⟩, ⟨39, [], .string to⟩, ⟨38, [], .pointer (some ⟨d, 0, none⟩)⟩, ⟨0, [], .pointer (some ⟨d, 0, none⟩)⟩, ⟨1, [], .string path⟩, ⟨2, [], .string to⟩, ⟨8, [], .pointer (some ⟨p, 0, none⟩)⟩, ⟨37, [], .bool (!(path.toList == to.toList))⟩]) [0] (by kernel_rfl) (j := 10) rfl ?_
              exact GL_yend (by kernel_rfl) (by kernel_rfl)
            refine GH_eff 10 (by kernel_rfl) (by kernel_rfl) (by kernel_rfl) ?_
            refine GL_heap rfl (H' := ([(d, .cells #[.int .i64 room, bv, .map (some nb), .map (some kb), .map (some cb), .bool ((callS fails once calls (((rightB path) && (rightB to)) && ((dirB path).toList == (dirB to).toList))).2.1), .bool once, .int .i64 ((callS fails once calls (((rightB path) && (rightB to)) && ((dirB path).toList == (dirB to).toList))).2.2)] 64 (0, 0))] :: [(nb, .map (encM nm) nc)] :: [(cb, .map (encM cm) cc)] :: [(b16, .map (encM (mput ([(path, .pointer none, 0)]) 1 to (.pointer (some ⟨p, 0, none⟩)))) (if mhas ([(path, .pointer none, 0)]) to then 1 else 1 + 1))] :: (rowsG rows ++ H))) (fun w h => (((h.front (j := 3) rfl).front (j := 3) rfl).front (j := 3) rfl)) ?_
            refine GL_call (i := 10) (ch := []) (f := 36) (fst := #[]) (caps := #[]) (vs := [.pointer (some ⟨d, 0, none⟩), .string (dirB to), .map (some b16)]) rfl rfl rfl (by kernel_rfl) (by kernel_rfl) Try.func36 rfl rfl (by kernel_rfl) (by kernel_rfl) (chSure_of (by kernel_rfl)) (vName d nb kb cb b16 nc cc (if mhas ([(path, .pointer none, 0)]) to then 1 else 1 + 1) room ((callS fails once calls (((rightB path) && (rightB to)) && ((dirB path).toList == (dirB to).toList))).2.2) bv ((callS fails once calls (((rightB path) && (rightB to)) && ((dirB path).toList == (dirB to).toList))).2.1) once nm cm (mput ([(path, .pointer none, 0)]) 1 to (.pointer (some ⟨p, 0, none⟩))) (dirB to) hn (MapOk.put (mapok1 _ _) _ _) (hvput (Q := fun v => v = .pointer none ∨ ∃ p, v = .pointer (some ⟨p, 0, none⟩)) (hv0 _) (.inr ⟨_, rfl⟩)) rows hR hl [[(b16, .map (encM (mput ([(path, .pointer none, 0)]) 1 to (.pointer (some ⟨p, 0, none⟩)))) (if mhas ([(path, .pointer none, 0)]) to then 1 else 1 + 1))]] _ H (At.grp 0 0 rfl rfl)) ?_
            rintro v H' ⟨dn41, x42, rows43, hdn44, rfl, hR45, hA46, rfl⟩
            refine GH_back (by kernel_rfl) (fun w h => (Sat.dropApp ((((h.erase 3).erase 2).erase 1).erase 0))) ?_
            refine GH_done (E' := []) [] (by kernel_rfl) (by kernel_rfl) ?_
            refine N_then ?_
            refine G_seq ?_
            refine G_pure (E' := [⟨6, [], .int .i64 0⟩]) [0] [6] rfl (by kernel_rfl) ?_
            refine N_then ?_
            refine G_ret ?_
            refine N_ret [.tmp 6] [.int .i64 0] rfl (by kernel_rfl) rfl ?_
            exact .inr ⟨hce, .inr ⟨hsm, rfl, _, _, _, _, x42, rows43, .inr ⟨rfl, rfl⟩, hdn44, hR45, hA46, rfl⟩⟩
          ·
            refine GL_mapPut (i := 6) (ch := []) (kt := 9) (et := 66) (r := b16) (c := 1) (j := 0) (q := 0) (m := [(path, .pointer none, 0)]) (k := to) (v := .pointer (some ⟨p, 0, none⟩)) (H' := ([(b16, .map (encM (mput ([(path, .pointer none, 0)]) 1 to (.pointer (some ⟨p, 0, none⟩)))) (if mhas ([(path, .pointer none, 0)]) to then 1 else 1 + 1))] :: [(d, .cells #[.int .i64 room, bv, .map (some nb), .map (some kb), .map (some cb), .bool ((callS fails once calls (((rightB path) && (rightB to)) && ((dirB path).toList == (dirB to).toList))).2.1), .bool once, .int .i64 ((callS fails once calls (((rightB path) && (rightB to)) && ((dirB path).toList == (dirB to).toList))).2.2)] 64 (0, 0))] :: [(nb, .map (encM nm) nc)] :: [(cb, .map (encM cm) cc)] :: (rowsG rows ++ H))) rfl (.inr rfl) (by kernel_rfl) (by kernel_rfl) (by kernel_rfl) (by kernel_rfl) (by kernel_rfl) (by kernel_rfl) (by kernel_rfl) (by kernel_rfl) rfl rfl rfl ?_
            refine GH_back (by kernel_rfl) (fun w h => (Sat.dropApp ((((h.erase 3).erase 2).erase 1).erase 0))) ?_
            refine GH_take (E' := [⟨45, [], .map (some b16)⟩, ⟨41, [], .map (some b16)⟩, ⟨44, [], .string path⟩, ⟨43, [], .pointer (some ⟨p, 0, none⟩)⟩, ⟨42, [], .string to⟩, ⟨39, [], .string to⟩, ⟨38, [], .pointer (some ⟨d, 0, none⟩)⟩, ⟨0, [], .pointer (some ⟨d, 0, none⟩)⟩, ⟨1, [], .string path⟩, ⟨2, [], .string to⟩, ⟨8, [], .pointer (some ⟨p, 0, none⟩)⟩, ⟨37, [], .bool (!(path.toList == to.toList))⟩]) 9 (by kernel_rfl) (by kernel_rfl) (by kernel_rfl) (by kernel_rfl) (by kernel_rfl) (fun w h => (Sat.dropApp ((((h.erase 3).erase 2).erase 1).erase 0))) ?_ ?_
            ·
              refine GL_pure (E' := [⟨45, [], .map (some b16)⟩, ⟨41, [], .map (some b16)⟩, ⟨44, [], .string path⟩, ⟨43, [], .pointer (some ⟨p, 0, none⟩)⟩, ⟨42, [], .string to⟩, ⟨39, [], .string to⟩, ⟨38, [], .pointer (some ⟨d, 0, none⟩)⟩, ⟨0, [], .pointer (some ⟨d, 0, none⟩)⟩, ⟨1, [], .string path⟩, ⟨2, [], .string to⟩, ⟨8, [], .pointer (some ⟨p, 0, none⟩)⟩, ⟨37, [], .bool (!(path.toList == to.toList))⟩]) [0] (by kernel_rfl) (j := 10) rfl ?_
              exact GL_yend (by kernel_rfl) (by kernel_rfl)
            refine GH_eff 2 (by kernel_rfl) (by kernel_rfl) (by kernel_rfl) ?_
            refine GL_callQ (i := 2) (ch := []) (f := 37) (fst := #[]) (caps := #[]) (vs := [.string to]) (v := .string (dirB to)) rfl rfl rfl (by kernel_rfl) (by kernel_rfl) Try.func37 rfl rfl (by kernel_rfl) (by kernel_rfl) (by kernel_rfl) (fun _ => vfsDirOf _ hto _ _) ?_
            refine GH_back (by kernel_rfl) (fun w h => (Sat.dropApp ((((h.erase 3).erase 2).erase 1).erase 0))) ?_
            refine GH_eff 10 (by kernel_rfl) (by kernel_rfl) (by kernel_rfl) ?_
            refine GL_heap rfl (H' := ([(d, .cells #[.int .i64 room, bv, .map (some nb), .map (some kb), .map (some cb), .bool ((callS fails once calls (((rightB path) && (rightB to)) && ((dirB path).toList == (dirB to).toList))).2.1), .bool once, .int .i64 ((callS fails once calls (((rightB path) && (rightB to)) && ((dirB path).toList == (dirB to).toList))).2.2)] 64 (0, 0))] :: [(nb, .map (encM nm) nc)] :: [(cb, .map (encM cm) cc)] :: [(b16, .map (encM (mput ([(path, .pointer none, 0)]) 1 to (.pointer (some ⟨p, 0, none⟩)))) (if mhas ([(path, .pointer none, 0)]) to then 1 else 1 + 1))] :: (rowsG rows ++ H))) (fun w h => (((h.front (j := 3) rfl).front (j := 3) rfl).front (j := 3) rfl)) ?_
            refine GL_call (i := 10) (ch := []) (f := 36) (fst := #[]) (caps := #[]) (vs := [.pointer (some ⟨d, 0, none⟩), .string (dirB to), .map (some b16)]) rfl rfl rfl (by kernel_rfl) (by kernel_rfl) Try.func36 rfl rfl (by kernel_rfl) (by kernel_rfl) (chSure_of (by kernel_rfl)) (vName d nb kb cb b16 nc cc (if mhas ([(path, .pointer none, 0)]) to then 1 else 1 + 1) room ((callS fails once calls (((rightB path) && (rightB to)) && ((dirB path).toList == (dirB to).toList))).2.2) bv ((callS fails once calls (((rightB path) && (rightB to)) && ((dirB path).toList == (dirB to).toList))).2.1) once nm cm (mput ([(path, .pointer none, 0)]) 1 to (.pointer (some ⟨p, 0, none⟩))) (dirB to) hn (MapOk.put (mapok1 _ _) _ _) (hvput (Q := fun v => v = .pointer none ∨ ∃ p, v = .pointer (some ⟨p, 0, none⟩)) (hv0 _) (.inr ⟨_, rfl⟩)) rows hR hl [[(b16, .map (encM (mput ([(path, .pointer none, 0)]) 1 to (.pointer (some ⟨p, 0, none⟩)))) (if mhas ([(path, .pointer none, 0)]) to then 1 else 1 + 1))]] _ H (At.grp 0 0 rfl rfl)) ?_
            rintro v H' ⟨dn47, x48, rows49, hdn50, rfl, hR51, hA52, rfl⟩
            refine GH_back (by kernel_rfl) (fun w h => (Sat.dropApp ((((h.erase 3).erase 2).erase 1).erase 0))) ?_
            refine GH_done (E' := []) [] (by kernel_rfl) (by kernel_rfl) ?_
            refine N_then ?_
            refine G_seq ?_
            refine G_pure (E' := [⟨6, [], .int .i64 0⟩]) [0] [6] rfl (by kernel_rfl) ?_
            refine N_then ?_
            refine G_ret ?_
            refine N_ret [.tmp 6] [.int .i64 0] rfl (by kernel_rfl) rfl ?_
            exact .inr ⟨hce, .inr ⟨hsm, rfl, _, _, _, _, x48, rows49, .inr ⟨rfl, rfl⟩, hdn50, hR51, hA52, rfl⟩⟩
    ·
      have hsm := hc2
      -- L same
      refine G_skip ?_
      refine N_then ?_
      refine G_seq ?_
      refine G_pure (E' := [⟨6, [], .int .i64 0⟩]) [0] [6] rfl (by kernel_rfl) ?_
      refine N_then ?_
      refine G_ret ?_
      refine N_ret [.tmp 6] [.int .i64 0] rfl (by kernel_rfl) rfl ?_
      exact .inr ⟨hce, .inl ⟨hsm, rfl, rfl⟩⟩

end Go.Proofs.Ytbmieiffboenbaa
