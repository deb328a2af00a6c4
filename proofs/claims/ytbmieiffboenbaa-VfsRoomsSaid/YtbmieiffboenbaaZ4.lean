/- A rename upon a disk in plain words: what each act answers, and what a crash leaves. No program is in sight. (and what it stands on) -/
import Derived.Test.YtbmieiffboenbaaZ3
import Derived.ChangeSlices
import Derived.Carry
import Derived.ChangeArms
namespace Go.Proofs.Ytbmieiffboenbaa
open Go.Sw Go.Lib Go.Vf Go.RowKit
def RenC (path to : ByteArray) (p : Nat) (m : SM) (c : Nat) : Prop :=
  (m = mput [(to, .pointer (some ⟨p, 0, none⟩), 0)] 1 path (.pointer none) ∧ c = if mhas [(to, .pointer (some ⟨p, 0, none⟩), 0)] path then 1 else 1 + 1) ∨
  (m = mput [(path, .pointer none, 0)] 1 to (.pointer (some ⟨p, 0, none⟩)) ∧ c = if mhas [(path, .pointer none, 0)] to then 1 else 1 + 1)
theorem hvput {m : SM} {c : Nat} {k : ByteArray} {v : Value} {Q : Value → Prop} (h : ∀ e ∈ m, Q e.2.1) (hv : Q v) : ∀ e ∈ mput m c k v, Q e.2.1 := by
  induction m with
  | nil => intro e he; rw [mput, List.mem_singleton] at he; subst he; exact hv
  | cons x m ih =>
    intro e he
    rw [mput] at he
    split at he
    · rcases List.mem_cons.1 he with rfl | he
      · exact hv
      · exact h e (List.mem_cons_of_mem _ he)
    · rcases List.mem_cons.1 he with rfl | he
      · exact h _ List.mem_cons_self
      · exact ih (fun y hy => h y (List.mem_cons_of_mem _ hy)) e he
theorem vRemove (d nb kb cb nc cc : Nat) (room calls : Int) (bv : Value) (fails once : Bool) (nm cm : SM) (path : ByteArray) (hpath : path.size ≤ 9223372036854775807) (hca : -9223372036854775808 ≤ calls ∧ calls ≤ 9223372036854775807) (hn : MapOk nm nc) (rows : List RW) (hR : RowsOk cm rows) (hl : ∀ r ∈ rows, r.qs.length ≤ 1000000) (p : Nat) (hg : mget nm path = some (.pointer (some ⟨p, 0, none⟩))) (W0 : World) (H : List Grp) : Tri Try.prog 43 #[pt d, .string path] W0 ([(d, .cells #[.int .i64 room, bv, .map (some nb), .map (some kb), .map (some cb), .bool fails, .bool once, .int .i64 calls] 64 (0, 0))] :: [(nb, .map (encM nm) nc)] :: [(cb, .map (encM cm) cc)] :: (rowsG rows ++ H)) (fun v H' => ((callS fails once calls (rightB path)).1 ≠ 0 ∧ v = .int .i64 (callS fails once calls (rightB path)).1 ∧ H' = ([(d, .cells #[.int .i64 room, bv, .map (some nb), .map (some kb), .map (some cb), .bool ((callS fails once calls (rightB path)).2.1), .bool once, .int .i64 ((callS fails once calls (rightB path)).2.2)] 64 (0, 0))] :: [(nb, .map (encM nm) nc)] :: [(cb, .map (encM cm) cc)] :: (rowsG rows ++ H))) ∨ ((callS fails once calls (rightB path)).1 = 0 ∧ v = .int .i64 0 ∧ ∃ q x rows1, RowsOk (mput cm cc (dirB path) x) rows1 ∧ RowsAdd rows (dirB path) q rows1 ∧ H' = ([(d, .cells #[.int .i64 room, bv, .map (some nb), .map (some kb), .map (some cb), .bool ((callS fails once calls (rightB path)).2.1), .bool once, .int .i64 ((callS fails once calls (rightB path)).2.2)] 64 (0, 0))]  :: [(nb, .map (encM (foldS (nm, nc) [(path, .pointer none, 0)]).1) (foldS (nm, nc) [(path, .pointer none, 0)]).2)] :: [(cb, .map (encM (mput cm cc (dirB path) x)) (if mhas cm (dirB path) then cc else cc + 1))] :: [(q, .map (encM [(path, .pointer none, 0)]) 1)] :: (rowsG rows1 ++ H)))) := by
  refine Tri_of (args := [pt d, .string path]) (n := 27) Try.func43 rfl rfl (Nat.le_of_ble_eq_true rfl) ?_
  refine G_seq ?_
  refine G_pure (E' := [⟨0, [], pt d⟩, ⟨1, [], .string path⟩]) [0] [0, 1] rfl (by kernel_rfl) ?_
  refine N_then ?_
  refine G_seq ?_
  refine G_seq ?_
  refine G_region ?_
  refine GL_pure (E' := [⟨7, [], .string path⟩, ⟨6, [], pt d⟩, ⟨0, [], pt d⟩, ⟨1, [], .string path⟩]) [0, 0] (by kernel_rfl) (j := 2) rfl ?_
  refine GL_callQ (i := 2) (ch := []) (f := 10) (fst := #[]) (caps := #[]) (vs := [.string path]) (v := .bool (rightB path)) rfl rfl rfl (by kernel_rfl) (by kernel_rfl) Try.func10 rfl rfl (by kernel_rfl) (by kernel_rfl) (by kernel_rfl) (fun _ => vfsRight _ hpath _ _) ?_
  refine GL_call (i := 3) (ch := []) (f := 34) (fst := #[]) (caps := #[]) (vs := [pt d, .bool (rightB path)]) rfl rfl rfl (by kernel_rfl) (by kernel_rfl) Try.func34 rfl rfl (by kernel_rfl) (by kernel_rfl) (chSure_of (by kernel_rfl)) (vCall d nb kb cb room calls bv fails once (rightB path) hca _ _) ?_
  rintro v H' ⟨rfl, rfl⟩
  refine GL_fin (E' := [⟨0, [], pt d⟩, ⟨1, [], .string path⟩, ⟨5, [], .int .i64 ((callS fails once calls (rightB path)).1)⟩]) [0] [0, 1, 5] rfl (by kernel_rfl) ?_
  refine N_then ?_
  refine G_seq ?_
  refine G_pure (E' := [⟨0, [], pt d⟩, ⟨1, [], .string path⟩, ⟨5, [], .int .i64 ((callS fails once calls (rightB path)).1)⟩, ⟨11, [], .bool (((callS fails once calls (rightB path)).1) != 0)⟩]) [0, 0] [0, 1, 5, 11] rfl (by kernel_rfl) ?_
  refine N_then ?_
  refine G_cond (b := ((callS fails once calls (rightB path)).1) != 0) (by kernel_rfl) (fun hc1 => ?_) (fun hc1 => ?_)
  ·
    have hce : (callS fails once calls (rightB path)).1 ≠ 0 := by simpa using hc1
    -- L err
    refine G_seq ?_
    refine G_pure (E' := [⟨4, [], .int .i64 ((callS fails once calls (rightB path)).1)⟩]) [0, 0] [4] rfl (by kernel_rfl) ?_
    refine N_then ?_
    refine G_ret ?_
    refine N_then_ret ?_
    refine N_ret [.tmp 4] [.int .i64 ((callS fails once calls (rightB path)).1)] rfl (by kernel_rfl) rfl ?_
    exact .inl ⟨hce, rfl, rfl⟩
  ·
    have hce : (callS fails once calls (rightB path)).1 = 0 := by simpa using hc1
    refine G_skip ?_
    refine N_then ?_
    refine G_seq ?_
    refine G_seq ?_
    refine G_region ?_
    refine GL_pure (E' := [⟨15, [], .pointer (some ⟨d, 2, none⟩)⟩, ⟨0, [], pt d⟩, ⟨1, [], .string path⟩]) [0, 0, 0] (by kernel_rfl) (j := 3) rfl ?_
    refine GL_load (i := 3) (ch := []) (b := d) (off := 2) (v := .map (some nb)) rfl rfl (by kernel_rfl) (by kernel_rfl) (by kernel_rfl) (by kernel_rfl) (by kernel_rfl) (At.grp 0 0 rfl rfl) rfl ?_
    refine GL_pure (E' := [⟨17, [], .string path⟩, ⟨16, [], .map (some nb)⟩, ⟨0, [], pt d⟩, ⟨1, [], .string path⟩]) [0] (by kernel_rfl) (j := 5) rfl ?_
    refine GL_lookup (i := 5) (ch := []) (kt := 9) (et := 66) (r := nb) (c := nc) (m := nm) (k := path) (z := .pointer none) (ov := (some (pt p))) rfl rfl (by kernel_rfl) (by kernel_rfl) (by kernel_rfl) (by kernel_rfl) (by kernel_rfl) (by kernel_rfl) (by kernel_rfl) (by kernel_rfl) (At.grp 1 0 rfl rfl) (fun _ => hg) ?_
    refine GL_fin (E' := [⟨0, [], pt d⟩, ⟨1, [], .string path⟩, ⟨19, [], .bool false⟩]) [0] [0, 1, 19] rfl (by kernel_rfl) ?_
    refine N_then ?_
    refine G_condf (by kernel_rfl) ?_
    refine G_skip ?_
    refine N_then ?_
    refine G_seq ?_
    refine G_region ?_
    refine GL_pure (E' := [⟨21, [], .string path⟩, ⟨20, [], pt d⟩, ⟨1, [], .string path⟩]) [0, 0] (by kernel_rfl) (j := 2) rfl ?_
    refine GL_callQ (i := 2) (ch := []) (f := 37) (fst := #[]) (caps := #[]) (vs := [.string path]) (v := .string (dirB path)) rfl rfl rfl (by kernel_rfl) (by kernel_rfl) Try.func37 rfl rfl (by kernel_rfl) (by kernel_rfl) (by kernel_rfl) (fun _ => vfsDirOf _ hpath _ _) ?_
    refine GL_makeMap (i := 3) (ch := []) rfl rfl (by kernel_rfl) (by kernel_rfl) (by kernel_rfl) (fun b2 => ?_)
    refine GL_pure (E' := [⟨24, [], .string path⟩, ⟨23, [], .map (some b2)⟩, ⟨22, [], .string (dirB path)⟩, ⟨20, [], pt d⟩]) [0] (by kernel_rfl) (j := 5) rfl ?_
    refine GL_mapPut (i := 5) (ch := []) (kt := 9) (et := 66) (r := b2) (c := 0) (j := 0) (q := 0) (m := []) (k := path) (v := .pointer none) (H' := ([(b2, .map (encM ([(path, .pointer none, 0)])) 1)] :: [(d, .cells #[.int .i64 room, bv, .map (some nb), .map (some kb), .map (some cb), .bool ((callS fails once calls (rightB path)).2.1), .bool once, .int .i64 ((callS fails once calls (rightB path)).2.2)] 64 (0, 0))] :: [(nb, .map (encM nm) nc)] :: [(cb, .map (encM cm) cc)] :: (rowsG rows ++ H))) rfl (.inr rfl) (by kernel_rfl) (by kernel_rfl) (by kernel_rfl) (by kernel_rfl) (by kernel_rfl) (by kernel_rfl) (by kernel_rfl) (by kernel_rfl) rfl rfl rfl ?_
    refine GL_pure (E' := [⟨25, [], .map (some b2)⟩, ⟨22, [], .string (dirB path)⟩, ⟨20, [], pt d⟩]) [0] (by kernel_rfl) (j := 7) rfl ?_
    refine GL_heap rfl (H' := ([(d, .cells #[.int .i64 room, bv, .map (some nb), .map (some kb), .map (some cb), .bool ((callS fails once calls (rightB path)).2.1), .bool once, .int .i64 ((callS fails once calls (rightB path)).2.2)] 64 (0, 0))] :: [(nb, .map (encM nm) nc)] :: [(cb, .map (encM cm) cc)] :: [(b2, .map (encM ([(path, .pointer none, 0)])) 1)] :: (rowsG rows ++ H))) (fun w h => (((h.front (j := 3) rfl).front (j := 3) rfl).front (j := 3) rfl)) ?_
    refine GL_call (i := 7) (ch := []) (f := 36) (fst := #[]) (caps := #[]) (vs := [pt d, .string (dirB path), .map (some b2)]) rfl rfl rfl (by kernel_rfl) (by kernel_rfl) Try.func36 rfl rfl (by kernel_rfl) (by kernel_rfl) (chSure_of (by kernel_rfl)) (vName d nb kb cb b2 nc cc 1 room ((callS fails once calls (rightB path)).2.2) bv ((callS fails once calls (rightB path)).2.1) once nm cm ([(path, .pointer none, 0)]) (dirB path) hn (mapok1 _ _) (hv0 _) rows hR hl [[(b2, .map (encM ([(path, .pointer none, 0)])) 1)]] _ H (At.grp 0 0 rfl rfl)) ?_
    rintro v H' ⟨dn3, x4, rows5, hdn6, rfl, hR7, hA8, rfl⟩
    refine GL_fin (E' := []) [] [] rfl (by kernel_rfl) ?_
    refine N_then ?_
    refine G_seq ?_
    refine G_pure (E' := [⟨4, [], .int .i64 0⟩]) [0] [4] rfl (by kernel_rfl) ?_
    refine N_then ?_
    refine G_ret ?_
    refine N_ret [.tmp 4] [.int .i64 0] rfl (by kernel_rfl) rfl ?_
    have hdn1 := List.perm_singleton.1 hdn6
    subst hdn1
    exact .inr ⟨hce, rfl, _, x4, rows5, hR7, hA8, rfl⟩
theorem vRenameNo (d nb kb cb nc cc : Nat) (room calls : Int) (bv : Value) (fails once : Bool) (nm cm : SM) (path to : ByteArray) (hpath : path.size ≤ 9223372036854775807) (hto : to.size ≤ 9223372036854775807) (hca : -9223372036854775808 ≤ calls ∧ calls ≤ 9223372036854775807) (hn : MapOk nm nc) (rows : List RW) (hR : RowsOk cm rows) (hl : ∀ r ∈ rows, r.qs.length ≤ 1000000) (hg : mget nm path = none) (W0 : World) (H : List Grp) : Tri Try.prog 17 #[pt d, .string path, .string to] W0 ([(d, .cells #[.int .i64 room, bv, .map (some nb), .map (some kb), .map (some cb), .bool fails, .bool once, .int .i64 calls] 64 (0, 0))] :: [(nb, .map (encM nm) nc)] :: [(cb, .map (encM cm) cc)] :: (rowsG rows ++ H)) (fun v H' => ((callS fails once calls ((rightB path && rightB to) && ((dirB path).toList == (dirB to).toList))).1 ≠ 0 ∧ v = .int .i64 (callS fails once calls ((rightB path && rightB to) && ((dirB path).toList == (dirB to).toList))).1 ∧ H' = ([(d, .cells #[.int .i64 room, bv, .map (some nb), .map (some kb), .map (some cb), .bool ((callS fails once calls ((rightB path && rightB to) && ((dirB path).toList == (dirB to).toList))).2.1), .bool once, .int .i64 ((callS fails once calls ((rightB path && rightB to) && ((dirB path).toList == (dirB to).toList))).2.2)] 64 (0, 0))] :: [(nb, .map (encM nm) nc)] :: [(cb, .map (encM cm) cc)] :: (rowsG rows ++ H))) ∨ ((callS fails once calls ((rightB path && rightB to) && ((dirB path).toList == (dirB to).toList))).1 = 0 ∧ v = .int .i64 60 ∧ H' = ([(d, .cells #[.int .i64 room, bv, .map (some nb), .map (some kb), .map (some cb), .bool ((callS fails once calls ((rightB path && rightB to) && ((dirB path).toList == (dirB to).toList))).2.1), .bool once, .int .i64 ((callS fails once calls ((rightB path && rightB to) && ((dirB path).toList == (dirB to).toList))).2.2)] 64 (0, 0))] :: [(nb, .map (encM nm) nc)] :: [(cb, .map (encM cm) cc)] :: (rowsG rows ++ H)))) := by
  refine Tri_of (args := [pt d, .string path, .string to]) (n := 47) Try.func17 rfl rfl (Nat.le_of_ble_eq_true rfl) ?_
  refine G_seq ?_
  refine G_pure (E' := [⟨0, [], pt d⟩, ⟨1, [], .string path⟩, ⟨2, [], .string to⟩]) [0] [0, 1, 2] rfl (by kernel_rfl) ?_
  refine N_then ?_
  refine G_seq ?_
  refine G_seq ?_
  refine G_region ?_
  refine GL_pure (E' := [⟨10, [], .string path⟩, ⟨9, [], pt d⟩, ⟨0, [], pt d⟩, ⟨1, [], .string path⟩, ⟨2, [], .string to⟩]) [0, 0] (by kernel_rfl) (j := 2) rfl ?_
  refine GL_callQ (i := 2) (ch := []) (f := 10) (fst := #[]) (caps := #[]) (vs := [.string path]) (v := .bool (rightB path)) rfl rfl rfl (by kernel_rfl) (by kernel_rfl) Try.func10 rfl rfl (by kernel_rfl) (by kernel_rfl) (by kernel_rfl) (fun _ => vfsRight _ hpath _ _) ?_
  refine GL_pure (E' := [⟨13, [(12, true)], .string to⟩, ⟨12, [], .bool (rightB path)⟩, ⟨9, [], pt d⟩, ⟨0, [], pt d⟩, ⟨1, [], .string path⟩, ⟨2, [], .string to⟩]) [0, 0] (by kernel_rfl) (j := 5) rfl ?_
  refine GL_callQ (i := 5) (ch := [(12, true)]) (f := 10) (fst := #[]) (caps := #[]) (vs := [.string to]) (v := .bool (rightB to)) rfl rfl rfl (by kernel_rfl) (by kernel_rfl) Try.func10 rfl rfl (by kernel_rfl) (by kernel_rfl) (by kernel_rfl) (fun hc => vfsRight _ hto _ _) ?_
  refine GL_pure (E' := [⟨17, [(16, true)], .string path⟩, ⟨16, [], .bool ((rightB path) && (rightB to))⟩, ⟨9, [], pt d⟩, ⟨0, [], pt d⟩, ⟨1, [], .string path⟩, ⟨2, [], .string to⟩]) [6, 0, 0] (by kernel_rfl) (j := 9) rfl ?_
  refine GL_callQ (i := 9) (ch := [(16, true)]) (f := 37) (fst := #[]) (caps := #[]) (vs := [.string path]) (v := .string (dirB path)) rfl rfl rfl (by kernel_rfl) (by kernel_rfl) Try.func37 rfl rfl (by kernel_rfl) (by kernel_rfl) (by kernel_rfl) (fun hc => vfsDirOf _ hpath _ _) ?_
  refine GL_pure (E' := [⟨19, [(16, true)], .string to⟩, ⟨18, [(16, true)], .string (dirB path)⟩, ⟨16, [], .bool ((rightB path) && (rightB to))⟩, ⟨9, [], pt d⟩, ⟨0, [], pt d⟩, ⟨1, [], .string path⟩, ⟨2, [], .string to⟩]) [0] (by kernel_rfl) (j := 11) rfl ?_
  refine GL_callQ (i := 11) (ch := [(16, true)]) (f := 37) (fst := #[]) (caps := #[]) (vs := [.string to]) (v := .string (dirB to)) rfl rfl rfl (by kernel_rfl) (by kernel_rfl) Try.func37 rfl rfl (by kernel_rfl) (by kernel_rfl) (by kernel_rfl) (fun hc => vfsDirOf _ hto _ _) ?_
  refine GL_pure (E' := [⟨22, [], .bool (((rightB path) && (rightB to)) && ((dirB path).toList == (dirB to).toList))⟩, ⟨9, [], pt d⟩, ⟨0, [], pt d⟩, ⟨1, [], .string path⟩, ⟨2, [], .string to⟩]) [0, 6] (by kernel_rfl) (j := 14) rfl ?_
  refine GL_call (i := 14) (ch := []) (f := 34) (fst := #[]) (caps := #[]) (vs := [pt d, .bool (((rightB path) && (rightB to)) && ((dirB path).toList == (dirB to).toList))]) rfl rfl rfl (by kernel_rfl) (by kernel_rfl) Try.func34 rfl rfl (by kernel_rfl) (by kernel_rfl) (chSure_of (by kernel_rfl)) (vCall d nb kb cb room calls bv fails once (((rightB path) && (rightB to)) && ((dirB path).toList == (dirB to).toList)) hca _ _) ?_
  rintro v H' ⟨rfl, rfl⟩
  refine GL_fin (E' := [⟨0, [], pt d⟩, ⟨1, [], .string path⟩, ⟨2, [], .string to⟩, ⟨7, [], .int .i64 ((callS fails once calls (((rightB path) && (rightB to)) && ((dirB path).toList == (dirB to).toList))).1)⟩]) [0] [0, 1, 2, 7] rfl (by kernel_rfl) ?_
  refine N_then ?_
  refine G_seq ?_
  refine G_pure (E' := [⟨0, [], pt d⟩, ⟨1, [], .string path⟩, ⟨2, [], .string to⟩, ⟨7, [], .int .i64 ((callS fails once calls (((rightB path) && (rightB to)) && ((dirB path).toList == (dirB to).toList))).1)⟩, ⟨25, [], .bool (((callS fails once calls (((rightB path) && (rightB to)) && ((dirB path).toList == (dirB to).toList))).1) != 0)⟩]) [0, 0] [0, 1, 2, 7, 25] rfl (by kernel_rfl) ?_
  refine N_then ?_
  refine G_cond (b := ((callS fails once calls (((rightB path) && (rightB to)) && ((dirB path).toList == (dirB to).toList))).1) != 0) (by kernel_rfl) (fun hc1 => ?_) (fun hc1 => ?_)
  ·
    have hce : (callS fails once calls ((rightB path && rightB to) && ((dirB path).toList == (dirB to).toList))).1 ≠ 0 := by simpa using hc1
    -- L err
    refine G_seq ?_
    refine G_pure (E' := [⟨6, [], .int .i64 ((callS fails once calls (((rightB path) && (rightB to)) && ((dirB path).toList == (dirB to).toList))).1)⟩]) [0, 0] [6] rfl (by kernel_rfl) ?_
    refine N_then ?_
    refine G_ret ?_
    refine N_then_ret ?_
    refine N_ret [.tmp 6] [.int .i64 ((callS fails once calls (((rightB path) && (rightB to)) && ((dirB path).toList == (dirB to).toList))).1)] rfl (by kernel_rfl) rfl ?_
    exact .inl ⟨hce, rfl, rfl⟩
  ·
    have hce : (callS fails once calls ((rightB path && rightB to) && ((dirB path).toList == (dirB to).toList))).1 = 0 := by simpa using hc1
    refine G_skip ?_
    refine N_then ?_
    refine G_seq ?_
    refine G_region ?_
    refine GL_pure (E' := [⟨29, [], .pointer (some ⟨d, 2, none⟩)⟩, ⟨0, [], pt d⟩, ⟨1, [], .string path⟩, ⟨2, [], .string to⟩]) [0, 0, 0] (by kernel_rfl) (j := 3) rfl ?_
    refine GL_load (i := 3) (ch := []) (b := d) (off := 2) (v := .map (some nb)) rfl rfl (by kernel_rfl) (by kernel_rfl) (by kernel_rfl) (by kernel_rfl) (by kernel_rfl) (At.grp 0 0 rfl rfl) rfl ?_
    refine GL_pure (E' := [⟨31, [], .string path⟩, ⟨30, [], .map (some nb)⟩, ⟨0, [], pt d⟩, ⟨1, [], .string path⟩, ⟨2, [], .string to⟩]) [0] (by kernel_rfl) (j := 5) rfl ?_
    refine GL_lookup (i := 5) (ch := []) (kt := 9) (et := 66) (r := nb) (c := nc) (m := nm) (k := path) (z := .pointer none) (ov := none) rfl rfl (by kernel_rfl) (by kernel_rfl) (by kernel_rfl) (by kernel_rfl) (by kernel_rfl) (by kernel_rfl) (by kernel_rfl) (by kernel_rfl) (At.grp 1 0 rfl rfl) (fun _ => hg) ?_
    refine GL_fin (E' := [⟨0, [], pt d⟩, ⟨1, [], .string path⟩, ⟨2, [], .string to⟩, ⟨8, [], .pointer none⟩]) [0] [0, 1, 2, 8] rfl (by kernel_rfl) ?_
    refine N_then ?_
    refine G_seq ?_
    refine G_seq ?_
    refine G_pure (E' := [⟨0, [], pt d⟩, ⟨1, [], .string path⟩, ⟨2, [], .string to⟩, ⟨8, [], .pointer none⟩, ⟨34, [], .bool true⟩]) [0, 0] [0, 1, 2, 8, 34] rfl (by kernel_rfl) ?_
    refine N_then ?_
    refine G_condt (by kernel_rfl) ?_
    refine G_seq ?_
    refine G_pure (E' := [⟨6, [], .int .i64 60⟩]) [0] [6] rfl (by kernel_rfl) ?_
    refine N_then ?_
    refine G_ret ?_
    refine N_then_ret ?_
    refine N_ret [.tmp 6] [.int .i64 60] rfl (by kernel_rfl) rfl ?_
    exact .inr ⟨hce, rfl, rfl⟩
theorem vRename (d nb kb cb nc cc : Nat) (room calls : Int) (bv : Value) (fails once : Bool) (nm cm : SM) (path to : ByteArray) (hpath : path.size ≤ 9223372036854775807) (hto : to.size ≤ 9223372036854775807) (hca : -9223372036854775808 ≤ calls ∧ calls ≤ 9223372036854775807) (hn : MapOk nm nc) (rows : List RW) (hR : RowsOk cm rows) (hl : ∀ r ∈ rows, r.qs.length ≤ 1000000) (p : Nat) (hg : mget nm path = some (.pointer (some ⟨p, 0, none⟩))) (W0 : World) (H : List Grp) : Tri Try.prog 17 #[pt d, .string path, .string to] W0 ([(d, .cells #[.int .i64 room, bv, .map (some nb), .map (some kb), .map (some cb), .bool fails, .bool once, .int .i64 calls] 64 (0, 0))] :: [(nb, .map (encM nm) nc)] :: [(cb, .map (encM cm) cc)] :: (rowsG rows ++ H)) (fun v H' => ((callS fails once calls ((rightB path && rightB to) && ((dirB path).toList == (dirB to).toList))).1 ≠ 0 ∧ v = .int .i64 (callS fails once calls ((rightB path && rightB to) && ((dirB path).toList == (dirB to).toList))).1 ∧ H' = ([(d, .cells #[.int .i64 room, bv, .map (some nb), .map (some kb), .map (some cb), .bool ((callS fails once calls ((rightB path && rightB to) && ((dirB path).toList == (dirB to).toList))).2.1), .bool once, .int .i64 ((callS fails once calls ((rightB path && rightB to) && ((dirB path).toList == (dirB to).toList))).2.2)] 64 (0, 0))] :: [(nb, .map (encM nm) nc)] :: [(cb, .map (encM cm) cc)] :: (rowsG rows ++ H))) ∨ ((callS fails once calls ((rightB path && rightB to) && ((dirB path).toList == (dirB to).toList))).1 = 0 ∧ (((!(path.toList == to.toList)) = false ∧ v = .int .i64 0 ∧ H' = ([(d, .cells #[.int .i64 room, bv, .map (some nb), .map (some kb), .map (some cb), .bool ((callS fails once calls ((rightB path && rightB to) && ((dirB path).toList == (dirB to).toList))).2.1), .bool once, .int .i64 ((callS fails once calls ((rightB path && rightB to) && ((dirB path).toList == (dirB to).toList))).2.2)] 64 (0, 0))] :: [(nb, .map (encM nm) nc)] :: [(cb, .map (encM cm) cc)] :: (rowsG rows ++ H))) ∨ ((!(path.toList == to.toList)) = true ∧ v = .int .i64 0 ∧ ∃ dn xm xc q x rows1, RenC path to p xm xc ∧ dn.Perm xm ∧ RowsOk (mput cm cc (dirB to) x) rows1 ∧ RowsAdd rows (dirB to) q rows1 ∧ H' = ([(d, .cells #[.int .i64 room, bv, .map (some nb), .map (some kb), .map (some cb), .bool ((callS fails once calls ((rightB path && rightB to) && ((dirB path).toList == (dirB to).toList))).2.1), .bool once, .int .i64 ((callS fails once calls ((rightB path && rightB to) && ((dirB path).toList == (dirB to).toList))).2.2)] 64 (0, 0))]  :: [(nb, .map (encM (foldS (nm, nc) dn).1) (foldS (nm, nc) dn).2)] :: [(cb, .map (encM (mput cm cc (dirB to) x)) (if mhas cm (dirB to) then cc else cc + 1))] :: [(q, .map (encM xm) xc)] :: (rowsG rows1 ++ H)))))) := by
  refine Tri_of (args := [pt d, .string path, .string to]) (n := 47) Try.func17 rfl rfl (Nat.le_of_ble_eq_true rfl) ?_
  refine G_seq ?_
  refine G_pure (E' := [⟨0, [], pt d⟩, ⟨1, [], .string path⟩, ⟨2, [], .string to⟩]) [0] [0, 1, 2] rfl (by kernel_rfl) ?_
  refine N_then ?_
  refine G_seq ?_
  refine G_seq ?_
  refine G_region ?_
  refine GL_pure (E' := [⟨10, [], .string path⟩, ⟨9, [], pt d⟩, ⟨0, [], pt d⟩, ⟨1, [], .string path⟩, ⟨2, [], .string to⟩]) [0, 0] (by kernel_rfl) (j := 2) rfl ?_
  refine GL_callQ (i := 2) (ch := []) (f := 10) (fst := #[]) (caps := #[]) (vs := [.string path]) (v := .bool (rightB path)) rfl rfl rfl (by kernel_rfl) (by kernel_rfl) Try.func10 rfl rfl (by kernel_rfl) (by kernel_rfl) (by kernel_rfl) (fun _ => vfsRight _ hpath _ _) ?_
  refine GL_pure (E' := [⟨13, [(12, true)], .string to⟩, ⟨12, [], .bool (rightB path)⟩, ⟨9, [], pt d⟩, ⟨0, [], pt d⟩, ⟨1, [], .string path⟩, ⟨2, [], .string to⟩]) [0, 0] (by kernel_rfl) (j := 5) rfl ?_
  refine GL_callQ (i := 5) (ch := [(12, true)]) (f := 10) (fst := #[]) (caps := #[]) (vs := [.string to]) (v := .bool (rightB to)) rfl rfl rfl (by kernel_rfl) (by kernel_rfl) Try.func10 rfl rfl (by kernel_rfl) (by kernel_rfl) (by kernel_rfl) (fun hc => vfsRight _ hto _ _) ?_
  refine GL_pure (E' := [⟨17, [(16, true)], .string path⟩, ⟨16, [], .bool ((rightB path) && (rightB to))⟩, ⟨9, [], pt d⟩, ⟨0, [], pt d⟩, ⟨1, [], .string path⟩, ⟨2, [], .string to⟩]) [6, 0, 0] (by kernel_rfl) (j := 9) rfl ?_
  refine GL_callQ (i := 9) (ch := [(16, true)]) (f := 37) (fst := #[]) (caps := #[]) (vs := [.string path]) (v := .string (dirB path)) rfl rfl rfl (by kernel_rfl) (by kernel_rfl) Try.func37 rfl rfl (by kernel_rfl) (by kernel_rfl) (by kernel_rfl) (fun hc => vfsDirOf _ hpath _ _) ?_
  refine GL_pure (E' := [⟨19, [(16, true)], .string to⟩, ⟨18, [(16, true)], .string (dirB path)⟩, ⟨16, [], .bool ((rightB path) && (rightB to))⟩, ⟨9, [], pt d⟩, ⟨0, [], pt d⟩, ⟨1, [], .string path⟩, ⟨2, [], .string to⟩]) [0] (by kernel_rfl) (j := 11) rfl ?_
  refine GL_callQ (i := 11) (ch := [(16, true)]) (f := 37) (fst := #[]) (caps := #[]) (vs := [.string to]) (v := .string (dirB to)) rfl rfl rfl (by kernel_rfl) (by kernel_rfl) Try.func37 rfl rfl (by kernel_rfl) (by kernel_rfl) (by kernel_rfl) (fun hc => vfsDirOf _ hto _ _) ?_
  refine GL_pure (E' := [⟨22, [], .bool (((rightB path) && (rightB to)) && ((dirB path).toList == (dirB to).toList))⟩, ⟨9, [], pt d⟩, ⟨0, [], pt d⟩, ⟨1, [], .string path⟩, ⟨2, [], .string to⟩]) [0, 6] (by kernel_rfl) (j := 14) rfl ?_
  refine GL_call (i := 14) (ch := []) (f := 34) (fst := #[]) (caps := #[]) (vs := [pt d, .bool (((rightB path) && (rightB to)) && ((dirB path).toList == (dirB to).toList))]) rfl rfl rfl (by kernel_rfl) (by kernel_rfl) Try.func34 rfl rfl (by kernel_rfl) (by kernel_rfl) (chSure_of (by kernel_rfl)) (vCall d nb kb cb room calls bv fails once (((rightB path) && (rightB to)) && ((dirB path).toList == (dirB to).toList)) hca _ _) ?_
  rintro v H' ⟨rfl, rfl⟩
  refine GL_fin (E' := [⟨0, [], pt d⟩, ⟨1, [], .string path⟩, ⟨2, [], .string to⟩, ⟨7, [], .int .i64 ((callS fails once calls (((rightB path) && (rightB to)) && ((dirB path).toList == (dirB to).toList))).1)⟩]) [0] [0, 1, 2, 7] rfl (by kernel_rfl) ?_
  refine N_then ?_
  refine G_seq ?_
  refine G_pure (E' := [⟨0, [], pt d⟩, ⟨1, [], .string path⟩, ⟨2, [], .string to⟩, ⟨7, [], .int .i64 ((callS fails once calls (((rightB path) && (rightB to)) && ((dirB path).toList == (dirB to).toList))).1)⟩, ⟨25, [], .bool (((callS fails once calls (((rightB path) && (rightB to)) && ((dirB path).toList == (dirB to).toList))).1) != 0)⟩]) [0, 0] [0, 1, 2, 7, 25] rfl (by kernel_rfl) ?_
  refine N_then ?_
  refine G_cond (b := ((callS fails once calls (((rightB path) && (rightB to)) && ((dirB path).toList == (dirB to).toList))).1) != 0) (by kernel_rfl) (fun hc1 => ?_) (fun hc1 => ?_)
  ·
    have hce : (callS fails once calls ((rightB path && rightB to) && ((dirB path).toList == (dirB to).toList))).1 ≠ 0 := by simpa using hc1
    -- L err
    refine G_seq ?_
    refine G_pure (E' := [⟨6, [], .int .i64 ((callS fails once calls (((rightB path) && (rightB to)) && ((dirB path).toList == (dirB to).toList))).1)⟩]) [0, 0] [6] rfl (by kernel_rfl) ?_
    refine N_then ?_
    refine G_ret ?_
    refine N_then_ret ?_
    refine N_ret [.tmp 6] [.int .i64 ((callS fails once calls (((rightB path) && (rightB to)) && ((dirB path).toList == (dirB to).toList))).1)] rfl (by kernel_rfl) rfl ?_
    exact .inl ⟨hce, rfl, rfl⟩
  ·
    have hce : (callS fails once calls ((rightB path && rightB to) && ((dirB path).toList == (dirB to).toList))).1 = 0 := by simpa using hc1
    refine G_skip ?_
    refine N_then ?_
    refine G_seq ?_
    refine G_region ?_
    refine GL_pure (E' := [⟨29, [], .pointer (some ⟨d, 2, none⟩)⟩, ⟨0, [], pt d⟩, ⟨1, [], .string path⟩, ⟨2, [], .string to⟩]) [0, 0, 0] (by kernel_rfl) (j := 3) rfl ?_
    refine GL_load (i := 3) (ch := []) (b := d) (off := 2) (v := .map (some nb)) rfl rfl (by kernel_rfl) (by kernel_rfl) (by kernel_rfl) (by kernel_rfl) (by kernel_rfl) (At.grp 0 0 rfl rfl) rfl ?_
    refine GL_pure (E' := [⟨31, [], .string path⟩, ⟨30, [], .map (some nb)⟩, ⟨0, [], pt d⟩, ⟨1, [], .string path⟩, ⟨2, [], .string to⟩]) [0] (by kernel_rfl) (j := 5) rfl ?_
    refine GL_lookup (i := 5) (ch := []) (kt := 9) (et := 66) (r := nb) (c := nc) (m := nm) (k := path) (z := .pointer none) (ov := (some (pt p))) rfl rfl (by kernel_rfl) (by kernel_rfl) (by kernel_rfl) (by kernel_rfl) (by kernel_rfl) (by kernel_rfl) (by kernel_rfl) (by kernel_rfl) (At.grp 1 0 rfl rfl) (fun _ => hg) ?_
    refine GL_fin (E' := [⟨0, [], pt d⟩, ⟨1, [], .string path⟩, ⟨2, [], .string to⟩, ⟨8, [], pt p⟩]) [0] [0, 1, 2, 8] rfl (by kernel_rfl) ?_
    refine N_then ?_
    refine G_seq ?_
    refine G_seq ?_
    refine G_pure (E' := [⟨0, [], pt d⟩, ⟨1, [], .string path⟩, ⟨2, [], .string to⟩, ⟨8, [], pt p⟩, ⟨34, [], .bool false⟩]) [0, 0] [0, 1, 2, 8, 34] rfl (by kernel_rfl) ?_
    refine N_then ?_
    refine G_condf (by kernel_rfl) ?_
    refine G_skip ?_
    refine N_then ?_
    refine G_seq ?_
    refine G_seq ?_
    refine G_pure (E' := [⟨0, [], pt d⟩, ⟨1, [], .string path⟩, ⟨2, [], .string to⟩, ⟨8, [], pt p⟩, ⟨37, [], .bool (!(path.toList == to.toList))⟩]) [0, 0, 0] [0, 1, 2, 8, 37] rfl (by kernel_rfl) ?_
    refine N_then ?_
    refine G_cond (b := !(path.toList == to.toList)) (by kernel_rfl) (fun hc2 => ?_) (fun hc2 => ?_)
    ·
      have hsm := hc2
      refine G_regionH H (by kernel_rfl) ?_
      refine GH_pure (E' := [⟨38, [], pt d⟩, ⟨1, [], .string path⟩, ⟨2, [], .string to⟩, ⟨8, [], pt p⟩]) 0 0 (by kernel_rfl) (fun w h => (Sat.dropApp (((h.erase 2).erase 1).erase 0))) (by kernel_rfl) ?_
      refine GH_pure (E' := [⟨39, [], .string to⟩, ⟨38, [], pt d⟩, ⟨1, [], .string path⟩, ⟨2, [], .string to⟩, ⟨8, [], pt p⟩]) 1 0 (by kernel_rfl) (fun w h => (Sat.dropApp (((h.erase 2).erase 1).erase 0))) (by kernel_rfl) ?_
      refine GH_pure (E' := [⟨42, [], .string to⟩, ⟨39, [], .string to⟩, ⟨38, [], pt d⟩, ⟨1, [], .string path⟩, ⟨8, [], pt p⟩]) 4 0 (by kernel_rfl) (fun w h => (Sat.dropApp (((h.erase 2).erase 1).erase 0))) (by kernel_rfl) ?_
      refine GH_pure (E' := [⟨43, [], pt p⟩, ⟨42, [], .string to⟩, ⟨39, [], .string to⟩, ⟨38, [], pt d⟩, ⟨1, [], .string path⟩]) 5 0 (by kernel_rfl) (fun w h => (Sat.dropApp (((h.erase 2).erase 1).erase 0))) (by kernel_rfl) ?_
      refine GH_pure (E' := [⟨44, [], .string path⟩, ⟨43, [], pt p⟩, ⟨42, [], .string to⟩, ⟨39, [], .string to⟩, ⟨38, [], pt d⟩]) 7 0 (by kernel_rfl) (fun w h => (Sat.dropApp (((h.erase 2).erase 1).erase 0))) (by kernel_rfl) ?_
      refine GH_eff2 2 3 (by kernel_rfl) (by kernel_rfl) (by kernel_rfl) (by kernel_rfl) (by kernel_rfl) ?_ ?_
      ·
        refine GL_callQ (i := 2) (ch := []) (f := 37) (fst := #[]) (caps := #[]) (vs := [.string to]) (v := .string (dirB to)) rfl rfl rfl (by kernel_rfl) (by kernel_rfl) Try.func37 rfl rfl (by kernel_rfl) (by kernel_rfl) (by kernel_rfl) (fun _ => vfsDirOf _ hto _ _) ?_
        refine GH_back (by kernel_rfl) (fun w h => (Sat.dropApp (((h.erase 2).erase 1).erase 0))) ?_
        refine GH_eff 3 (by kernel_rfl) (by kernel_rfl) (by kernel_rfl) ?_
        refine GL_makeMap (i := 3) (ch := []) rfl rfl (by kernel_rfl) (by kernel_rfl) (by kernel_rfl) (fun b3 => ?_)
        refine GH_back (by kernel_rfl) (fun w h => (Sat.dropApp ((((h.erase 3).erase 2).erase 1).erase 0))) ?_
        refine GH_eff2 6 8 (by kernel_rfl) (by kernel_rfl) (by kernel_rfl) (by kernel_rfl) (by kernel_rfl) ?_ ?_
        ·
          refine GL_mapPut (i := 6) (ch := []) (kt := 9) (et := 66) (r := b3) (c := 0) (j := 0) (q := 0) (m := []) (k := to) (v := pt p) (H' := ([(b3, .map (encM ([(to, pt p, 0)])) 1)] :: [(d, .cells #[.int .i64 room, bv, .map (some nb), .map (some kb), .map (some cb), .bool ((callS fails once calls (((rightB path) && (rightB to)) && ((dirB path).toList == (dirB to).toList))).2.1), .bool once, .int .i64 ((callS fails once calls (((rightB path) && (rightB to)) && ((dirB path).toList == (dirB to).toList))).2.2)] 64 (0, 0))] :: [(nb, .map (encM nm) nc)] :: [(cb, .map (encM cm) cc)] :: (rowsG rows ++ H))) rfl (.inr rfl) (by kernel_rfl) (by kernel_rfl) (by kernel_rfl) (by kernel_rfl) (by kernel_rfl) (by kernel_rfl) (by kernel_rfl) (by kernel_rfl) rfl rfl rfl ?_
          refine GH_back (by kernel_rfl) (fun w h => (Sat.dropApp ((((h.erase 3).erase 2).erase 1).erase 0))) ?_
          refine GH_eff 8 (by kernel_rfl) (by kernel_rfl) (by kernel_rfl) ?_
          refine GL_mapPut (i := 8) (ch := []) (kt := 9) (et := 66) (r := b3) (c := 1) (j := 0) (q := 0) (m := [(to, pt p, 0)]) (k := path) (v := .pointer none) (H' := ([(b3, .map (encM (mput ([(to, pt p, 0)]) 1 path (.pointer none))) (if mhas ([(to, pt p, 0)]) path then 1 else 1 + 1))] :: [(d, .cells #[.int .i64 room, bv, .map (some nb), .map (some kb), .map (some cb), .bool ((callS fails once calls (((rightB path) && (rightB to)) && ((dirB path).toList == (dirB to).toList))).2.1), .bool once, .int .i64 ((callS fails once calls (((rightB path) && (rightB to)) && ((dirB path).toList == (dirB to).toList))).2.2)] 64 (0, 0))] :: [(nb, .map (encM nm) nc)] :: [(cb, .map (encM cm) cc)] :: (rowsG rows ++ H))) rfl (.inr rfl) (by kernel_rfl) (by kernel_rfl) (by kernel_rfl) (by kernel_rfl) (by kernel_rfl) (by kernel_rfl) (by kernel_rfl) (by kernel_rfl) rfl rfl rfl ?_
          refine GH_back (by kernel_rfl) (fun w h => (Sat.dropApp ((((h.erase 3).erase 2).erase 1).erase 0))) ?_
          refine GH_pure (E' := [⟨45, [], .map (some b3)⟩, ⟨40, [], .string (dirB to)⟩, ⟨38, [], pt d⟩]) 9 0 (by kernel_rfl) (fun w h => (Sat.dropApp ((((h.erase 3).erase 2).erase 1).erase 0))) (by kernel_rfl) ?_
          refine GH_eff 10 (by kernel_rfl) (by kernel_rfl) (by kernel_rfl) ?_
          refine GL_heap rfl (H' := ([(d, .cells #[.int .i64 room, bv, .map (some nb), .map (some kb), .map (some cb), .bool ((callS fails once calls (((rightB path) && (rightB to)) && ((dirB path).toList == (dirB to).toList))).2.1), .bool once, .int .i64 ((callS fails once calls (((rightB path) && (rightB to)) && ((dirB path).toList == (dirB to).toList))).2.2)] 64 (0, 0))] :: [(nb, .map (encM nm) nc)] :: [(cb, .map (encM cm) cc)] :: [(b3, .map (encM (mput ([(to, pt p, 0)]) 1 path (.pointer none))) (if mhas ([(to, pt p, 0)]) path then 1 else 1 + 1))] :: (rowsG rows ++ H))) (fun w h => (((h.front (j := 3) rfl).front (j := 3) rfl).front (j := 3) rfl)) ?_
          refine GL_call (i := 10) (ch := []) (f := 36) (fst := #[]) (caps := #[]) (vs := [pt d, .string (dirB to), .map (some b3)]) rfl rfl rfl (by kernel_rfl) (by kernel_rfl) Try.func36 rfl rfl (by kernel_rfl) (by kernel_rfl) (chSure_of (by kernel_rfl)) (vName d nb kb cb b3 nc cc (if mhas ([(to, pt p, 0)]) path then 1 else 1 + 1) room ((callS fails once calls (((rightB path) && (rightB to)) && ((dirB path).toList == (dirB to).toList))).2.2) bv ((callS fails once calls (((rightB path) && (rightB to)) && ((dirB path).toList == (dirB to).toList))).2.1) once nm cm (mput ([(to, pt p, 0)]) 1 path (.pointer none)) (dirB to) hn (MapOk.put (mapok1 _ _) _ _) (hvput (Q := fun v => v = .pointer none ∨ ∃ p, v = .pointer (some ⟨p, 0, none⟩)) (hv1 _ _) (.inl rfl)) rows hR hl [[(b3, .map (encM (mput ([(to, pt p, 0)]) 1 path (.pointer none))) (if mhas ([(to, pt p, 0)]) path then 1 else 1 + 1))]] _ H (At.grp 0 0 rfl rfl)) ?_
          rintro v H' ⟨dn4, x5, rows6, hdn7, rfl, hR8, hA9, rfl⟩
          refine GH_back (by kernel_rfl) (fun w h => (Sat.dropApp ((((h.erase 3).erase 2).erase 1).erase 0))) ?_
          refine GH_done (E' := []) [] (by kernel_rfl) (by kernel_rfl) ?_
          refine N_then ?_
          refine G_seq ?_
          refine G_pure (E' := [⟨6, [], .int .i64 0⟩]) [0] [6] rfl (by kernel_rfl) ?_
          refine N_then ?_
          refine G_ret ?_
          refine N_ret [.tmp 6] [.int .i64 0] rfl (by kernel_rfl) rfl ?_
          exact .inr ⟨hce, .inr ⟨hsm, rfl, _, _, _, _, x5, rows6, .inl ⟨rfl, rfl⟩, hdn7, hR8, hA9, rfl⟩⟩
        ·
          refine GL_mapPut (i := 8) (ch := []) (kt := 9) (et := 66) (r := b3) (c := 0) (j := 0) (q := 0) (m := []) (k := path) (v := .pointer none) (H' := ([(b3, .map (encM ([(path, .pointer none, 0)])) 1)] :: [(d, .cells #[.int .i64 room, bv, .map (some nb), .map (some kb), .map (some cb), .bool ((callS fails once calls (((rightB path) && (rightB to)) && ((dirB path).toList == (dirB to).toList))).2.1), .bool once, .int .i64 ((callS fails once calls (((rightB path) && (rightB to)) && ((dirB path).toList == (dirB to).toList))).2.2)] 64 (0, 0))] :: [(nb, .map (encM nm) nc)] :: [(cb, .map (encM cm) cc)] :: (rowsG rows ++ H))) rfl (.inr rfl) (by kernel_rfl) (by kernel_rfl) (by kernel_rfl) (by kernel_rfl) (by kernel_rfl) (by kernel_rfl) (by kernel_rfl) (by kernel_rfl) rfl rfl rfl ?_
          refine GH_back (by kernel_rfl) (fun w h => (Sat.dropApp ((((h.erase 3).erase 2).erase 1).erase 0))) ?_
          refine GH_eff 6 (by kernel_rfl) (by kernel_rfl) (by kernel_rfl) ?_
          refine GL_mapPut (i := 6) (ch := []) (kt := 9) (et := 66) (r := b3) (c := 1) (j := 0) (q := 0) (m := [(path, .pointer none, 0)]) (k := to) (v := pt p) (H' := ([(b3, .map (encM (mput ([(path, .pointer none, 0)]) 1 to (pt p))) (if mhas ([(path, .pointer none, 0)]) to then 1 else 1 + 1))] :: [(d, .cells #[.int .i64 room, bv, .map (some nb), .map (some kb), .map (some cb), .bool ((callS fails once calls (((rightB path) && (rightB to)) && ((dirB path).toList == (dirB to).toList))).2.1), .bool once, .int .i64 ((callS fails once calls (((rightB path) && (rightB to)) && ((dirB path).toList == (dirB to).toList))).2.2)] 64 (0, 0))] :: [(nb, .map (encM nm) nc)] :: [(cb, .map (encM cm) cc)] :: (rowsG rows ++ H))) rfl (.inr rfl) (by kernel_rfl) (by kernel_rfl) (by kernel_rfl) (by kernel_rfl) (by kernel_rfl) (by kernel_rfl) (by kernel_rfl) (by kernel_rfl) rfl rfl rfl ?_
          refine GH_back (by kernel_rfl) (fun w h => (Sat.dropApp ((((h.erase 3).erase 2).erase 1).erase 0))) ?_
          refine GH_pure (E' := [⟨45, [], .map (some b3)⟩, ⟨40, [], .string (dirB to)⟩, ⟨38, [], pt d⟩]) 9 0 (by kernel_rfl) (fun w h => (Sat.dropApp ((((h.erase 3).erase 2).erase 1).erase 0))) (by kernel_rfl) ?_
          refine GH_eff 10 (by kernel_rfl) (by kernel_rfl) (by kernel_rfl) ?_
          refine GL_heap rfl (H' := ([(d, .cells #[.int .i64 room, bv, .map (some nb), .map (some kb), .map (some cb), .bool ((callS fails once calls (((rightB path) && (rightB to)) && ((dirB path).toList == (dirB to).toList))).2.1), .bool once, .int .i64 ((callS fails once calls (((rightB path) && (rightB to)) && ((dirB path).toList == (dirB to).toList))).2.2)] 64 (0, 0))] :: [(nb, .map (encM nm) nc)] :: [(cb, .map (encM cm) cc)] :: [(b3, .map (encM (mput ([(path, .pointer none, 0)]) 1 to (pt p))) (if mhas ([(path, .pointer none, 0)]) to then 1 else 1 + 1))] :: (rowsG rows ++ H))) (fun w h => (((h.front (j := 3) rfl).front (j := 3) rfl).front (j := 3) rfl)) ?_
          refine GL_call (i := 10) (ch := []) (f := 36) (fst := #[]) (caps := #[]) (vs := [pt d, .string (dirB to), .map (some b3)]) rfl rfl rfl (by kernel_rfl) (by kernel_rfl) Try.func36 rfl rfl (by kernel_rfl) (by kernel_rfl) (chSure_of (by kernel_rfl)) (vName d nb kb cb b3 nc cc (if mhas ([(path, .pointer none, 0)]) to then 1 else 1 + 1) room ((callS fails once calls (((rightB path) && (rightB to)) && ((dirB path).toList == (dirB to).toList))).2.2) bv ((callS fails once calls (((rightB path) && (rightB to)) && ((dirB path).toList == (dirB to).toList))).2.1) once nm cm (mput ([(path, .pointer none, 0)]) 1 to (pt p)) (dirB to) hn (MapOk.put (mapok1 _ _) _ _) (hvput (Q := fun v => v = .pointer none ∨ ∃ p, v = .pointer (some ⟨p, 0, none⟩)) (hv0 _) (.inr ⟨_, rfl⟩)) rows hR hl [[(b3, .map (encM (mput ([(path, .pointer none, 0)]) 1 to (pt p))) (if mhas ([(path, .pointer none, 0)]) to then 1 else 1 + 1))]] _ H (At.grp 0 0 rfl rfl)) ?_
          rintro v H' ⟨dn10, x11, rows12, hdn13, rfl, hR14, hA15, rfl⟩
          refine GH_back (by kernel_rfl) (fun w h => (Sat.dropApp ((((h.erase 3).erase 2).erase 1).erase 0))) ?_
          refine GH_done (E' := []) [] (by kernel_rfl) (by kernel_rfl) ?_
          refine N_then ?_
          refine G_seq ?_
          refine G_pure (E' := [⟨6, [], .int .i64 0⟩]) [0] [6] rfl (by kernel_rfl) ?_
          refine N_then ?_
          refine G_ret ?_
          refine N_ret [.tmp 6] [.int .i64 0] rfl (by kernel_rfl) rfl ?_
          exact .inr ⟨hce, .inr ⟨hsm, rfl, _, _, _, _, x11, rows12, .inr ⟨rfl, rfl⟩, hdn13, hR14, hA15, rfl⟩⟩
      ·
        refine GL_makeMap (i := 3) (ch := []) rfl rfl (by kernel_rfl) (by kernel_rfl) (by kernel_rfl) (fun b16 => ?_)
        refine GH_back (by kernel_rfl) (fun w h => (Sat.dropApp ((((h.erase 3).erase 2).erase 1).erase 0))) ?_
        refine GH_eff3 2 6 8 (by kernel_rfl) (by kernel_rfl) (by kernel_rfl) (by kernel_rfl) (by kernel_rfl) (by kernel_rfl) (by kernel_rfl) ?_ ?_ ?_
        ·
          refine GL_callQ (i := 2) (ch := []) (f := 37) (fst := #[]) (caps := #[]) (vs := [.string to]) (v := .string (dirB to)) rfl rfl rfl (by kernel_rfl) (by kernel_rfl) Try.func37 rfl rfl (by kernel_rfl) (by kernel_rfl) (by kernel_rfl) (fun _ => vfsDirOf _ hto _ _) ?_
          refine GH_back (by kernel_rfl) (fun w h => (Sat.dropApp ((((h.erase 3).erase 2).erase 1).erase 0))) ?_
          refine GH_eff2 6 8 (by kernel_rfl) (by kernel_rfl) (by kernel_rfl) (by kernel_rfl) (by kernel_rfl) ?_ ?_
          ·
            refine GL_mapPut (i := 6) (ch := []) (kt := 9) (et := 66) (r := b16) (c := 0) (j := 0) (q := 0) (m := []) (k := to) (v := pt p) (H' := ([(b16, .map (encM ([(to, pt p, 0)])) 1)] :: [(d, .cells #[.int .i64 room, bv, .map (some nb), .map (some kb), .map (some cb), .bool ((callS fails once calls (((rightB path) && (rightB to)) && ((dirB path).toList == (dirB to).toList))).2.1), .bool once, .int .i64 ((callS fails once calls (((rightB path) && (rightB to)) && ((dirB path).toList == (dirB to).toList))).2.2)] 64 (0, 0))] :: [(nb, .map (encM nm) nc)] :: [(cb, .map (encM cm) cc)] :: (rowsG rows ++ H))) rfl (.inr rfl) (by kernel_rfl) (by kernel_rfl) (by kernel_rfl) (by kernel_rfl) (by kernel_rfl) (by kernel_rfl) (by kernel_rfl) (by kernel_rfl) rfl rfl rfl ?_
            refine GH_back (by kernel_rfl) (fun w h => (Sat.dropApp ((((h.erase 3).erase 2).erase 1).erase 0))) ?_
            refine GH_eff 8 (by kernel_rfl) (by kernel_rfl) (by kernel_rfl) ?_
            refine GL_mapPut (i := 8) (ch := []) (kt := 9) (et := 66) (r := b16) (c := 1) (j := 0) (q := 0) (m := [(to, pt p, 0)]) (k := path) (v := .pointer none) (H' := ([(b16, .map (encM (mput ([(to, pt p, 0)]) 1 path (.pointer none))) (if mhas ([(to, pt p, 0)]) path then 1 else 1 + 1))] :: [(d, .cells #[.int .i64 room, bv, .map (some nb), .map (some kb), .map (some cb), .bool ((callS fails once calls (((rightB path) && (rightB to)) && ((dirB path).toList == (dirB to).toList))).2.1), .bool once, .int .i64 ((callS fails once calls (((rightB path) && (rightB to)) && ((dirB path).toList == (dirB to).toList))).2.2)] 64 (0, 0))] :: [(nb, .map (encM nm) nc)] :: [(cb, .map (encM cm) cc)] :: (rowsG rows ++ H))) rfl (.inr rfl) (by kernel_rfl) (by kernel_rfl) (by kernel_rfl) (by kernel_rfl) (by kernel_rfl) (by kernel_rfl) (by kernel_rfl) (by kernel_rfl) rfl rfl rfl ?_
            refine GH_back (by kernel_rfl) (fun w h => (Sat.dropApp ((((h.erase 3).erase 2).erase 1).erase 0))) ?_
            refine GH_pure (E' := [⟨45, [], .map (some b16)⟩, ⟨40, [], .string (dirB to)⟩, ⟨38, [], pt d⟩]) 9 0 (by kernel_rfl) (fun w h => (Sat.dropApp ((((h.erase 3).erase 2).erase 1).erase 0))) (by kernel_rfl) ?_
            refine GH_eff 10 (by kernel_rfl) (by kernel_rfl) (by kernel_rfl) ?_
            refine GL_heap rfl (H' := ([(d, .cells #[.int .i64 room, bv, .map (some nb), .map (some kb), .map (some cb), .bool ((callS fails once calls (((rightB path) && (rightB to)) && ((dirB path).toList == (dirB to).toList))).2.1), .bool once, .int .i64 ((callS fails once calls (((rightB path) && (rightB to)) && ((dirB path).toList == (dirB to).toList))).2.2)] 64 (0, 0))] :: [(nb, .map (encM nm) nc)] :: [(cb, .map (encM cm) cc)] :: [(b16, .map (encM (mput ([(to, pt p, 0)]) 1 path (.pointer none))) (if mhas ([(to, pt p, 0)]) path then 1 else 1 + 1))] :: (rowsG rows ++ H))) (fun w h => (((h.front (j := 3) rfl).front (j := 3) rfl).front (j := 3) rfl)) ?_
            refine GL_call (i := 10) (ch := []) (f := 36) (fst := #[]) (caps := #[]) (vs := [pt d, .string (dirB to), .map (some b16)]) rfl rfl rfl (by kernel_rfl) (by kernel_rfl) Try.func36 rfl rfl (by kernel_rfl) (by kernel_rfl) (chSure_of (by kernel_rfl)) (vName d nb kb cb b16 nc cc (if mhas ([(to, pt p, 0)]) path then 1 else 1 + 1) room ((callS fails once calls (((rightB path) && (rightB to)) && ((dirB path).toList == (dirB to).toList))).2.2) bv ((callS fails once calls (((rightB path) && (rightB to)) && ((dirB path).toList == (dirB to).toList))).2.1) once nm cm (mput ([(to, pt p, 0)]) 1 path (.pointer none)) (dirB to) hn (MapOk.put (mapok1 _ _) _ _) (hvput (Q := fun v => v = .pointer none ∨ ∃ p, v = .pointer (some ⟨p, 0, none⟩)) (hv1 _ _) (.inl rfl)) rows hR hl [[(b16, .map (encM (mput ([(to, pt p, 0)]) 1 path (.pointer none))) (if mhas ([(to, pt p, 0)]) path then 1 else 1 + 1))]] _ H (At.grp 0 0 rfl rfl)) ?_
            rintro v H' ⟨dn17, x18, rows19, hdn20, rfl, hR21, hA22, rfl⟩
            refine GH_back (by kernel_rfl) (fun w h => (Sat.dropApp ((((h.erase 3).erase 2).erase 1).erase 0))) ?_
            refine GH_done (E' := []) [] (by kernel_rfl) (by kernel_rfl) ?_
            refine N_then ?_
            refine G_seq ?_
            refine G_pure (E' := [⟨6, [], .int .i64 0⟩]) [0] [6] rfl (by kernel_rfl) ?_
            refine N_then ?_
            refine G_ret ?_
            refine N_ret [.tmp 6] [.int .i64 0] rfl (by kernel_rfl) rfl ?_
            exact .inr ⟨hce, .inr ⟨hsm, rfl, _, _, _, _, x18, rows19, .inl ⟨rfl, rfl⟩, hdn20, hR21, hA22, rfl⟩⟩
          ·
            refine GL_mapPut (i := 8) (ch := []) (kt := 9) (et := 66) (r := b16) (c := 0) (j := 0) (q := 0) (m := []) (k := path) (v := .pointer none) (H' := ([(b16, .map (encM ([(path, .pointer none, 0)])) 1)] :: [(d, .cells #[.int .i64 room, bv, .map (some nb), .map (some kb), .map (some cb), .bool ((callS fails once calls (((rightB path) && (rightB to)) && ((dirB path).toList == (dirB to).toList))).2.1), .bool once, .int .i64 ((callS fails once calls (((rightB path) && (rightB to)) && ((dirB path).toList == (dirB to).toList))).2.2)] 64 (0, 0))] :: [(nb, .map (encM nm) nc)] :: [(cb, .map (encM cm) cc)] :: (rowsG rows ++ H))) rfl (.inr rfl) (by kernel_rfl) (by kernel_rfl) (by kernel_rfl) (by kernel_rfl) (by kernel_rfl) (by kernel_rfl) (by kernel_rfl) (by kernel_rfl) rfl rfl rfl ?_
            refine GH_back (by kernel_rfl) (fun w h => (Sat.dropApp ((((h.erase 3).erase 2).erase 1).erase 0))) ?_
            refine GH_eff 6 (by kernel_rfl) (by kernel_rfl) (by kernel_rfl) ?_
            refine GL_mapPut (i := 6) (ch := []) (kt := 9) (et := 66) (r := b16) (c := 1) (j := 0) (q := 0) (m := [(path, .pointer none, 0)]) (k := to) (v := pt p) (H' := ([(b16, .map (encM (mput ([(path, .pointer none, 0)]) 1 to (pt p))) (if mhas ([(path, .pointer none, 0)]) to then 1 else 1 + 1))] :: [(d, .cells #[.int .i64 room, bv, .map (some nb), .map (some kb), .map (some cb), .bool ((callS fails once calls (((rightB path) && (rightB to)) && ((dirB path).toList == (dirB to).toList))).2.1), .bool once, .int .i64 ((callS fails once calls (((rightB path) && (rightB to)) && ((dirB path).toList == (dirB to).toList))).2.2)] 64 (0, 0))] :: [(nb, .map (encM nm) nc)] :: [(cb, .map (encM cm) cc)] :: (rowsG rows ++ H))) rfl (.inr rfl) (by kernel_rfl) (by kernel_rfl) (by kernel_rfl) (by kernel_rfl) (by kernel_rfl) (by kernel_rfl) (by kernel_rfl) (by kernel_rfl) rfl rfl rfl ?_
            refine GH_back (by kernel_rfl) (fun w h => (Sat.dropApp ((((h.erase 3).erase 2).erase 1).erase 0))) ?_
            refine GH_pure (E' := [⟨45, [], .map (some b16)⟩, ⟨40, [], .string (dirB to)⟩, ⟨38, [], pt d⟩]) 9 0 (by kernel_rfl) (fun w h => (Sat.dropApp ((((h.erase 3).erase 2).erase 1).erase 0))) (by kernel_rfl) ?_
            refine GH_eff 10 (by kernel_rfl) (by kernel_rfl) (by kernel_rfl) ?_
            refine GL_heap rfl (H' := ([(d, .cells #[.int .i64 room, bv, .map (some nb), .map (some kb), .map (some cb), .bool ((callS fails once calls (((rightB path) && (rightB to)) && ((dirB path).toList == (dirB to).toList))).2.1), .bool once, .int .i64 ((callS fails once calls (((rightB path) && (rightB to)) && ((dirB path).toList == (dirB to).toList))).2.2)] 64 (0, 0))] :: [(nb, .map (encM nm) nc)] :: [(cb, .map (encM cm) cc)] :: [(b16, .map (encM (mput ([(path, .pointer none, 0)]) 1 to (pt p))) (if mhas ([(path, .pointer none, 0)]) to then 1 else 1 + 1))] :: (rowsG rows ++ H))) (fun w h => (((h.front (j := 3) rfl).front (j := 3) rfl).front (j := 3) rfl)) ?_
            refine GL_call (i := 10) (ch := []) (f := 36) (fst := #[]) (caps := #[]) (vs := [pt d, .string (dirB to), .map (some b16)]) rfl rfl rfl (by kernel_rfl) (by kernel_rfl) Try.func36 rfl rfl (by kernel_rfl) (by kernel_rfl) (chSure_of (by kernel_rfl)) (vName d nb kb cb b16 nc cc (if mhas ([(path, .pointer none, 0)]) to then 1 else 1 + 1) room ((callS fails once calls (((rightB path) && (rightB to)) && ((dirB path).toList == (dirB to).toList))).2.2) bv ((callS fails once calls (((rightB path) && (rightB to)) && ((dirB path).toList == (dirB to).toList))).2.1) once nm cm (mput ([(path, .pointer none, 0)]) 1 to (pt p)) (dirB to) hn (MapOk.put (mapok1 _ _) _ _) (hvput (Q := fun v => v = .pointer none ∨ ∃ p, v = .pointer (some ⟨p, 0, none⟩)) (hv0 _) (.inr ⟨_, rfl⟩)) rows hR hl [[(b16, .map (encM (mput ([(path, .pointer none, 0)]) 1 to (pt p))) (if mhas ([(path, .pointer none, 0)]) to then 1 else 1 + 1))]] _ H (At.grp 0 0 rfl rfl)) ?_
            rintro v H' ⟨dn23, x24, rows25, hdn26, rfl, hR27, hA28, rfl⟩
            refine GH_back (by kernel_rfl) (fun w h => (Sat.dropApp ((((h.erase 3).erase 2).erase 1).erase 0))) ?_
            refine GH_done (E' := []) [] (by kernel_rfl) (by kernel_rfl) ?_
            refine N_then ?_
            refine G_seq ?_
            refine G_pure (E' := [⟨6, [], .int .i64 0⟩]) [0] [6] rfl (by kernel_rfl) ?_
            refine N_then ?_
            refine G_ret ?_
            refine N_ret [.tmp 6] [.int .i64 0] rfl (by kernel_rfl) rfl ?_
            exact .inr ⟨hce, .inr ⟨hsm, rfl, _, _, _, _, x24, rows25, .inr ⟨rfl, rfl⟩, hdn26, hR27, hA28, rfl⟩⟩
        ·
          refine GL_mapPut (i := 6) (ch := []) (kt := 9) (et := 66) (r := b16) (c := 0) (j := 0) (q := 0) (m := []) (k := to) (v := pt p) (H' := ([(b16, .map (encM ([(to, pt p, 0)])) 1)] :: [(d, .cells #[.int .i64 room, bv, .map (some nb), .map (some kb), .map (some cb), .bool ((callS fails once calls (((rightB path) && (rightB to)) && ((dirB path).toList == (dirB to).toList))).2.1), .bool once, .int .i64 ((callS fails once calls (((rightB path) && (rightB to)) && ((dirB path).toList == (dirB to).toList))).2.2)] 64 (0, 0))] :: [(nb, .map (encM nm) nc)] :: [(cb, .map (encM cm) cc)] :: (rowsG rows ++ H))) rfl (.inr rfl) (by kernel_rfl) (by kernel_rfl) (by kernel_rfl) (by kernel_rfl) (by kernel_rfl) (by kernel_rfl) (by kernel_rfl) (by kernel_rfl) rfl rfl rfl ?_
          refine GH_back (by kernel_rfl) (fun w h => (Sat.dropApp ((((h.erase 3).erase 2).erase 1).erase 0))) ?_
          refine GH_eff2 2 8 (by kernel_rfl) (by kernel_rfl) (by kernel_rfl) (by kernel_rfl) (by kernel_rfl) ?_ ?_
          ·
            refine GL_callQ (i := 2) (ch := []) (f := 37) (fst := #[]) (caps := #[]) (vs := [.string to]) (v := .string (dirB to)) rfl rfl rfl (by kernel_rfl) (by kernel_rfl) Try.func37 rfl rfl (by kernel_rfl) (by kernel_rfl) (by kernel_rfl) (fun _ => vfsDirOf _ hto _ _) ?_
            refine GH_back (by kernel_rfl) (fun w h => (Sat.dropApp ((((h.erase 3).erase 2).erase 1).erase 0))) ?_
            refine GH_eff 8 (by kernel_rfl) (by kernel_rfl) (by kernel_rfl) ?_
            refine GL_mapPut (i := 8) (ch := []) (kt := 9) (et := 66) (r := b16) (c := 1) (j := 0) (q := 0) (m := [(to, pt p, 0)]) (k := path) (v := .pointer none) (H' := ([(b16, .map (encM (mput ([(to, pt p, 0)]) 1 path (.pointer none))) (if mhas ([(to, pt p, 0)]) path then 1 else 1 + 1))] :: [(d, .cells #[.int .i64 room, bv, .map (some nb), .map (some kb), .map (some cb), .bool ((callS fails once calls (((rightB path) && (rightB to)) && ((dirB path).toList == (dirB to).toList))).2.1), .bool once, .int .i64 ((callS fails once calls (((rightB path) && (rightB to)) && ((dirB path).toList == (dirB to).toList))).2.2)] 64 (0, 0))] :: [(nb, .map (encM nm) nc)] :: [(cb, .map (encM cm) cc)] :: (rowsG rows ++ H))) rfl (.inr rfl) (by kernel_rfl) (by kernel_rfl) (by kernel_rfl) (by kernel_rfl) (by kernel_rfl) (by kernel_rfl) (by kernel_rfl) (by kernel_rfl) rfl rfl rfl ?_
            refine GH_back (by kernel_rfl) (fun w h => (Sat.dropApp ((((h.erase 3).erase 2).erase 1).erase 0))) ?_
            refine GH_pure (E' := [⟨45, [], .map (some b16)⟩, ⟨40, [], .string (dirB to)⟩, ⟨38, [], pt d⟩]) 9 0 (by kernel_rfl) (fun w h => (Sat.dropApp ((((h.erase 3).erase 2).erase 1).erase 0))) (by kernel_rfl) ?_
            refine GH_eff 10 (by kernel_rfl) (by kernel_rfl) (by kernel_rfl) ?_
            refine GL_heap rfl (H' := ([(d, .cells #[.int .i64 room, bv, .map (some nb), .map (some kb), .map (some cb), .bool ((callS fails once calls (((rightB path) && (rightB to)) && ((dirB path).toList == (dirB to).toList))).2.1), .bool once, .int .i64 ((callS fails once calls (((rightB path) && (rightB to)) && ((dirB path).toList == (dirB to).toList))).2.2)] 64 (0, 0))] :: [(nb, .map (encM nm) nc)] :: [(cb, .map (encM cm) cc)] :: [(b16, .map (encM (mput ([(to, pt p, 0)]) 1 path (.pointer none))) (if mhas ([(to, pt p, 0)]) path then 1 else 1 + 1))] :: (rowsG rows ++ H))) (fun w h => (((h.front (j := 3) rfl).front (j := 3) rfl).front (j := 3) rfl)) ?_
            refine GL_call (i := 10) (ch := []) (f := 36) (fst := #[]) (caps := #[]) (vs := [pt d, .string (dirB to), .map (some b16)]) rfl rfl rfl (by kernel_rfl) (by kernel_rfl) Try.func36 rfl rfl (by kernel_rfl) (by kernel_rfl) (chSure_of (by kernel_rfl)) (vName d nb kb cb b16 nc cc (if mhas ([(to, pt p, 0)]) path then 1 else 1 + 1) room ((callS fails once calls (((rightB path) && (rightB to)) && ((dirB path).toList == (dirB to).toList))).2.2) bv ((callS fails once calls (((rightB path) && (rightB to)) && ((dirB path).toList == (dirB to).toList))).2.1) once nm cm (mput ([(to, pt p, 0)]) 1 path (.pointer none)) (dirB to) hn (MapOk.put (mapok1 _ _) _ _) (hvput (Q := fun v => v = .pointer none ∨ ∃ p, v = .pointer (some ⟨p, 0, none⟩)) (hv1 _ _) (.inl rfl)) rows hR hl [[(b16, .map (encM (mput ([(to, pt p, 0)]) 1 path (.pointer none))) (if mhas ([(to, pt p, 0)]) path then 1 else 1 + 1))]] _ H (At.grp 0 0 rfl rfl)) ?_
            rintro v H' ⟨dn29, x30, rows31, hdn32, rfl, hR33, hA34, rfl⟩
            refine GH_back (by kernel_rfl) (fun w h => (Sat.dropApp ((((h.erase 3).erase 2).erase 1).erase 0))) ?_
            refine GH_done (E' := []) [] (by kernel_rfl) (by kernel_rfl) ?_
            refine N_then ?_
            refine G_seq ?_
            refine G_pure (E' := [⟨6, [], .int .i64 0⟩]) [0] [6] rfl (by kernel_rfl) ?_
            refine N_then ?_
            refine G_ret ?_
            refine N_ret [.tmp 6] [.int .i64 0] rfl (by kernel_rfl) rfl ?_
            exact .inr ⟨hce, .inr ⟨hsm, rfl, _, _, _, _, x30, rows31, .inl ⟨rfl, rfl⟩, hdn32, hR33, hA34, rfl⟩⟩
          ·
            refine GL_mapPut (i := 8) (ch := []) (kt := 9) (et := 66) (r := b16) (c := 1) (j := 0) (q := 0) (m := [(to, pt p, 0)]) (k := path) (v := .pointer none) (H' := ([(b16, .map (encM (mput ([(to, pt p, 0)]) 1 path (.pointer none))) (if mhas ([(to, pt p, 0)]) path then 1 else 1 + 1))] :: [(d, .cells #[.int .i64 room, bv, .map (some nb), .map (some kb), .map (some cb), .bool ((callS fails once calls (((rightB path) && (rightB to)) && ((dirB path).toList == (dirB to).toList))).2.1), .bool once, .int .i64 ((callS fails once calls (((rightB path) && (rightB to)) && ((dirB path).toList == (dirB to).toList))).2.2)] 64 (0, 0))] :: [(nb, .map (encM nm) nc)] :: [(cb, .map (encM cm) cc)] :: (rowsG rows ++ H))) rfl (.inr rfl) (by kernel_rfl) (by kernel_rfl) (by kernel_rfl) (by kernel_rfl) (by kernel_rfl) (by kernel_rfl) (by kernel_rfl) (by kernel_rfl) rfl rfl rfl ?_
            refine GH_back (by kernel_rfl) (fun w h => (Sat.dropApp ((((h.erase 3).erase 2).erase 1).erase 0))) ?_
            refine GH_pure (E' := [⟨45, [], .map (some b16)⟩, ⟨39, [], .string to⟩, ⟨38, [], pt d⟩]) 9 0 (by kernel_rfl) (fun w h => (Sat.dropApp ((((h.erase 3).erase 2).erase 1).erase 0))) (by kernel_rfl) ?_
            refine GH_eff 2 (by kernel_rfl) (by kernel_rfl) (by kernel_rfl) ?_
            refine GL_callQ (i := 2) (ch := []) (f := 37) (fst := #[]) (caps := #[]) (vs := [.string to]) (v := .string (dirB to)) rfl rfl rfl (by kernel_rfl) (by kernel_rfl) Try.func37 rfl rfl (by kernel_rfl) (by kernel_rfl) (by kernel_rfl) (fun _ => vfsDirOf _ hto _ _) ?_
            refine GH_back (by kernel_rfl) (fun w h => (Sat.dropApp ((((h.erase 3).erase 2).erase 1).erase 0))) ?_
            refine GH_eff 10 (by kernel_rfl) (by kernel_rfl) (by kernel_rfl) ?_
            refine GL_heap rfl (H' := ([(d, .cells #[.int .i64 room, bv, .map (some nb), .map (some kb), .map (some cb), .bool ((callS fails once calls (((rightB path) && (rightB to)) && ((dirB path).toList == (dirB to).toList))).2.1), .bool once, .int .i64 ((callS fails once calls (((rightB path) && (rightB to)) && ((dirB path).toList == (dirB to).toList))).2.2)] 64 (0, 0))] :: [(nb, .map (encM nm) nc)] :: [(cb, .map (encM cm) cc)] :: [(b16, .map (encM (mput ([(to, pt p, 0)]) 1 path (.pointer none))) (if mhas ([(to, pt p, 0)]) path then 1 else 1 + 1))] :: (rowsG rows ++ H))) (fun w h => (((h.front (j := 3) rfl).front (j := 3) rfl).front (j := 3) rfl)) ?_
            refine GL_call (i := 10) (ch := []) (f := 36) (fst := #[]) (caps := #[]) (vs := [pt d, .string (dirB to), .map (some b16)]) rfl rfl rfl (by kernel_rfl) (by kernel_rfl) Try.func36 rfl rfl (by kernel_rfl) (by kernel_rfl) (chSure_of (by kernel_rfl)) (vName d nb kb cb b16 nc cc (if mhas ([(to, pt p, 0)]) path then 1 else 1 + 1) room ((callS fails once calls (((rightB path) && (rightB to)) && ((dirB path).toList == (dirB to).toList))).2.2) bv ((callS fails once calls (((rightB path) && (rightB to)) && ((dirB path).toList == (dirB to).toList))).2.1) once nm cm (mput ([(to, pt p, 0)]) 1 path (.pointer none)) (dirB to) hn (MapOk.put (mapok1 _ _) _ _) (hvput (Q := fun v => v = .pointer none ∨ ∃ p, v = .pointer (some ⟨p, 0, none⟩)) (hv1 _ _) (.inl rfl)) rows hR hl [[(b16, .map (encM (mput ([(to, pt p, 0)]) 1 path (.pointer none))) (if mhas ([(to, pt p, 0)]) path then 1 else 1 + 1))]] _ H (At.grp 0 0 rfl rfl)) ?_
            rintro v H' ⟨dn35, x36, rows37, hdn38, rfl, hR39, hA40, rfl⟩
            refine GH_back (by kernel_rfl) (fun w h => (Sat.dropApp ((((h.erase 3).erase 2).erase 1).erase 0))) ?_
            refine GH_done (E' := []) [] (by kernel_rfl) (by kernel_rfl) ?_
            refine N_then ?_
            refine G_seq ?_
            refine G_pure (E' := [⟨6, [], .int .i64 0⟩]) [0] [6] rfl (by kernel_rfl) ?_
            refine N_then ?_
            refine G_ret ?_
            refine N_ret [.tmp 6] [.int .i64 0] rfl (by kernel_rfl) rfl ?_
            exact .inr ⟨hce, .inr ⟨hsm, rfl, _, _, _, _, x36, rows37, .inl ⟨rfl, rfl⟩, hdn38, hR39, hA40, rfl⟩⟩
        ·
          refine GL_mapPut (i := 8) (ch := []) (kt := 9) (et := 66) (r := b16) (c := 0) (j := 0) (q := 0) (m := []) (k := path) (v := .pointer none) (H' := ([(b16, .map (encM ([(path, .pointer none, 0)])) 1)] :: [(d, .cells #[.int .i64 room, bv, .map (some nb), .map (some kb), .map (some cb), .bool ((callS fails once calls (((rightB path) && (rightB to)) && ((dirB path).toList == (dirB to).toList))).2.1), .bool once, .int .i64 ((callS fails once calls (((rightB path) && (rightB to)) && ((dirB path).toList == (dirB to).toList))).2.2)] 64 (0, 0))] :: [(nb, .map (encM nm) nc)] :: [(cb, .map (encM cm) cc)] :: (rowsG rows ++ H))) rfl (.inr rfl) (by kernel_rfl) (by kernel_rfl) (by kernel_rfl) (by kernel_rfl) (by kernel_rfl) (by kernel_rfl) (by kernel_rfl) (by kernel_rfl) rfl rfl rfl ?_
          refine GH_back (by kernel_rfl) (fun w h => (Sat.dropApp ((((h.erase 3).erase 2).erase 1).erase 0))) ?_
          refine GH_eff2 2 6 (by kernel_rfl) (by kernel_rfl) (by kernel_rfl) (by kernel_rfl) (by kernel_rfl) ?_ ?_
          ·
            refine GL_callQ (i := 2) (ch := []) (f := 37) (fst := #[]) (caps := #[]) (vs := [.string to]) (v := .string (dirB to)) rfl rfl rfl (by kernel_rfl) (by kernel_rfl) Try.func37 rfl rfl (by kernel_rfl) (by kernel_rfl) (by kernel_rfl) (fun _ => vfsDirOf _ hto _ _) ?_
            refine GH_back (by kernel_rfl) (fun w h => (Sat.dropApp ((((h.erase 3).erase 2).erase 1).erase 0))) ?_
            refine GH_eff 6 (by kernel_rfl) (by kernel_rfl) (by kernel_rfl) ?_
            refine GL_mapPut (i := 6) (ch := []) (kt := 9) (et := 66) (r := b16) (c := 1) (j := 0) (q := 0) (m := [(path, .pointer none, 0)]) (k := to) (v := pt p) (H' := ([(b16, .map (encM (mput ([(path, .pointer none, 0)]) 1 to (pt p))) (if mhas ([(path, .pointer none, 0)]) to then 1 else 1 + 1))] :: [(d, .cells #[.int .i64 room, bv, .map (some nb), .map (some kb), .map (some cb), .bool ((callS fails once calls (((rightB path) && (rightB to)) && ((dirB path).toList == (dirB to).toList))).2.1), .bool once, .int .i64 ((callS fails once calls (((rightB path) && (rightB to)) && ((dirB path).toList == (dirB to).toList))).2.2)] 64 (0, 0))] :: [(nb, .map (encM nm) nc)] :: [(cb, .map (encM cm) cc)] :: (rowsG rows ++ H))) rfl (.inr rfl) (by kernel_rfl) (by kernel_rfl) (by kernel_rfl) (by kernel_rfl) (by kernel_rfl) (by kernel_rfl) (by kernel_rfl) (by kernel_rfl) rfl rfl rfl ?_
            refine GH_back (by kernel_rfl) (fun w h => (Sat.dropApp ((((h.erase 3).erase 2).erase 1).erase 0))) ?_
            refine GH_pure (E' := [⟨45, [], .map (some b16)⟩, ⟨40, [], .string (dirB to)⟩, ⟨38, [], pt d⟩]) 9 0 (by kernel_rfl) (fun w h => (Sat.dropApp ((((h.erase 3).erase 2).erase 1).erase 0))) (by kernel_rfl) ?_
            refine GH_eff 10 (by kernel_rfl) (by kernel_rfl) (by kernel_rfl) ?_
            refine GL_heap rfl (H' := ([(d, .cells #[.int .i64 room, bv, .map (some nb), .map (some kb), .map (some cb), .bool ((callS fails once calls (((rightB path) && (rightB to)) && ((dirB path).toList == (dirB to).toList))).2.1), .bool once, .int .i64 ((callS fails once calls (((rightB path) && (rightB to)) && ((dirB path).toList == (dirB to).toList))).2.2)] 64 (0, 0))] :: [(nb, .map (encM nm) nc)] :: [(cb, .map (encM cm) cc)] :: [(b16, .map (encM (mput ([(path, .pointer none, 0)]) 1 to (pt p))) (if mhas ([(path, .pointer none, 0)]) to then 1 else 1 + 1))] :: (rowsG rows ++ H))) (fun w h => (((h.front (j := 3) rfl).front (j := 3) rfl).front (j := 3) rfl)) ?_
            refine GL_call (i := 10) (ch := []) (f := 36) (fst := #[]) (caps := #[]) (vs := [pt d, .string (dirB to), .map (some b16)]) rfl rfl rfl (by kernel_rfl) (by kernel_rfl) Try.func36 rfl rfl (by kernel_rfl) (by kernel_rfl) (chSure_of (by kernel_rfl)) (vName d nb kb cb b16 nc cc (if mhas ([(path, .pointer none, 0)]) to then 1 else 1 + 1) room ((callS fails once calls (((rightB path) && (rightB to)) && ((dirB path).toList == (dirB to).toList))).2.2) bv ((callS fails once calls (((rightB path) && (rightB to)) && ((dirB path).toList == (dirB to).toList))).2.1) once nm cm (mput ([(path, .pointer none, 0)]) 1 to (pt p)) (dirB to) hn (MapOk.put (mapok1 _ _) _ _) (hvput (Q := fun v => v = .pointer none ∨ ∃ p, v = .pointer (some ⟨p, 0, none⟩)) (hv0 _) (.inr ⟨_, rfl⟩)) rows hR hl [[(b16, .map (encM (mput ([(path, .pointer none, 0)]) 1 to (pt p))) (if mhas ([(path, .pointer none, 0)]) to then 1 else 1 + 1))]] _ H (At.grp 0 0 rfl rfl)) ?_
            rintro v H' ⟨dn41, x42, rows43, hdn44, rfl, hR45, hA46, rfl⟩
            refine GH_back (by kernel_rfl) (fun w h => (Sat.dropApp ((((h.erase 3).erase 2).erase 1).erase 0))) ?_
            refine GH_done (E' := []) [] (by kernel_rfl) (by kernel_rfl) ?_
            refine N_then ?_
            refine G_seq ?_
            refine G_pure (E' := [⟨6, [], .int .i64 0⟩]) [0] [6] rfl (by kernel_rfl) ?_
            refine N_then ?_
            refine G_ret ?_
            refine N_ret [.tmp 6] [.int .i64 0] rfl (by kernel_rfl) rfl ?_
            exact .inr ⟨hce, .inr ⟨hsm, rfl, _, _, _, _, x42, rows43, .inr ⟨rfl, rfl⟩, hdn44, hR45, hA46, rfl⟩⟩
          ·
            refine GL_mapPut (i := 6) (ch := []) (kt := 9) (et := 66) (r := b16) (c := 1) (j := 0) (q := 0) (m := [(path, .pointer none, 0)]) (k := to) (v := pt p) (H' := ([(b16, .map (encM (mput ([(path, .pointer none, 0)]) 1 to (pt p))) (if mhas ([(path, .pointer none, 0)]) to then 1 else 1 + 1))] :: [(d, .cells #[.int .i64 room, bv, .map (some nb), .map (some kb), .map (some cb), .bool ((callS fails once calls (((rightB path) && (rightB to)) && ((dirB path).toList == (dirB to).toList))).2.1), .bool once, .int .i64 ((callS fails once calls (((rightB path) && (rightB to)) && ((dirB path).toList == (dirB to).toList))).2.2)] 64 (0, 0))] :: [(nb, .map (encM nm) nc)] :: [(cb, .map (encM cm) cc)] :: (rowsG rows ++ H))) rfl (.inr rfl) (by kernel_rfl) (by kernel_rfl) (by kernel_rfl) (by kernel_rfl) (by kernel_rfl) (by kernel_rfl) (by kernel_rfl) (by kernel_rfl) rfl rfl rfl ?_
            refine GH_back (by kernel_rfl) (fun w h => (Sat.dropApp ((((h.erase 3).erase 2).erase 1).erase 0))) ?_
            refine GH_pure (E' := [⟨45, [], .map (some b16)⟩, ⟨39, [], .string to⟩, ⟨38, [], pt d⟩]) 9 0 (by kernel_rfl) (fun w h => (Sat.dropApp ((((h.erase 3).erase 2).erase 1).erase 0))) (by kernel_rfl) ?_
            refine GH_eff 2 (by kernel_rfl) (by kernel_rfl) (by kernel_rfl) ?_
            refine GL_callQ (i := 2) (ch := []) (f := 37) (fst := #[]) (caps := #[]) (vs := [.string to]) (v := .string (dirB to)) rfl rfl rfl (by kernel_rfl) (by kernel_rfl) Try.func37 rfl rfl (by kernel_rfl) (by kernel_rfl) (by kernel_rfl) (fun _ => vfsDirOf _ hto _ _) ?_
            refine GH_back (by kernel_rfl) (fun w h => (Sat.dropApp ((((h.erase 3).erase 2).erase 1).erase 0))) ?_
            refine GH_eff 10 (by kernel_rfl) (by kernel_rfl) (by kernel_rfl) ?_
            refine GL_heap rfl (H' := ([(d, .cells #[.int .i64 room, bv, .map (some nb), .map (some kb), .map (some cb), .bool ((callS fails once calls (((rightB path) && (rightB to)) && ((dirB path).toList == (dirB to).toList))).2.1), .bool once, .int .i64 ((callS fails once calls (((rightB path) && (rightB to)) && ((dirB path).toList == (dirB to).toList))).2.2)] 64 (0, 0))] :: [(nb, .map (encM nm) nc)] :: [(cb, .map (encM cm) cc)] :: [(b16, .map (encM (mput ([(path, .pointer none, 0)]) 1 to (pt p))) (if mhas ([(path, .pointer none, 0)]) to then 1 else 1 + 1))] :: (rowsG rows ++ H))) (fun w h => (((h.front (j := 3) rfl).front (j := 3) rfl).front (j := 3) rfl)) ?_
            refine GL_call (i := 10) (ch := []) (f := 36) (fst := #[]) (caps := #[]) (vs := [pt d, .string (dirB to), .map (some b16)]) rfl rfl rfl (by kernel_rfl) (by kernel_rfl) Try.func36 rfl rfl (by kernel_rfl) (by kernel_rfl) (chSure_of (by kernel_rfl)) (vName d nb kb cb b16 nc cc (if mhas ([(path, .pointer none, 0)]) to then 1 else 1 + 1) room ((callS fails once calls (((rightB path) && (rightB to)) && ((dirB path).toList == (dirB to).toList))).2.2) bv ((callS fails once calls (((rightB path) && (rightB to)) && ((dirB path).toList == (dirB to).toList))).2.1) once nm cm (mput ([(path, .pointer none, 0)]) 1 to (pt p)) (dirB to) hn (MapOk.put (mapok1 _ _) _ _) (hvput (Q := fun v => v = .pointer none ∨ ∃ p, v = .pointer (some ⟨p, 0, none⟩)) (hv0 _) (.inr ⟨_, rfl⟩)) rows hR hl [[(b16, .map (encM (mput ([(path, .pointer none, 0)]) 1 to (pt p))) (if mhas ([(path, .pointer none, 0)]) to then 1 else 1 + 1))]] _ H (At.grp 0 0 rfl rfl)) ?_
            rintro v H' ⟨dn47, x48, rows49, hdn50, rfl, hR51, hA52, rfl⟩
            refine GH_back (by kernel_rfl) (fun w h => (Sat.dropApp ((((h.erase 3).erase 2).erase 1).erase 0))) ?_
            refine GH_done (E' := []) [] (by kernel_rfl) (by kernel_rfl) ?_
            refine N_then ?_
            refine G_seq ?_
            refine G_pure (E' := [⟨6, [], .int .i64 0⟩]) [0] [6] rfl (by kernel_rfl) ?_
            refine N_then ?_
            refine G_ret ?_
            refine N_ret [.tmp 6] [.int .i64 0] rfl (by kernel_rfl) rfl ?_
            exact .inr ⟨hce, .inr ⟨hsm, rfl, _, _, _, _, x48, rows49, .inr ⟨rfl, rfl⟩, hdn50, hR51, hA52, rfl⟩⟩
    ·
      have hsm := hc2
      -- L same
      refine G_skip ?_
      refine N_then ?_
      refine G_seq ?_
      refine G_pure (E' := [⟨6, [], .int .i64 0⟩]) [0] [6] rfl (by kernel_rfl) ?_
      refine N_then ?_
      refine G_ret ?_
      refine N_ret [.tmp 6] [.int .i64 0] rfl (by kernel_rfl) rfl ?_
      exact .inr ⟨hce, .inl ⟨hsm, rfl, rfl⟩⟩
end Go.Proofs.Ytbmieiffboenbaa
namespace Go.Sw
open Go.RowKit
theorem run_bounds3 {P : Program} {n cap : Nat} {kd kd' : IntKind} (h : n ≤ cap) (w : World) :
    (Instr.sliceBounds true n cap none (some (.int kd (n : Int))) (some (.int kd' (n : Int)))).run P w = .ok (0, n, n) w := by
  have h1 : (Instr.sliceBound (.int kd' (n : Int)) cap .slice3Acap).run P w = .ok n w := run_sliceBound rfl (by omega) (by omega) w
  have h2 : (Instr.sliceBound (.int kd (n : Int)) n .slice3B).run P w = .ok n w := run_sliceBound rfl (by omega) (by omega) w
  simp only [Instr.sliceBounds, Sem.run_bind, if_true, h1, Result.andThen_ok, h2, Sem.run_pure]
theorem GL_clip {d : Bool} {P : Program} {ops : Array Oper} {i : Nat} {Q : Post} {n : Nat} {E : Env} {W0 : World} {H : List Grp} {o : Oper} {ch : List (Nat × Bool)} {t e : TypeId} {x hi mx : Operand} {a : Option Addr} {len cap sz : Nat} {kd kd' : IntKind}
    (ho : ops[i]? = some o) (hop : o.op = .slice t x none (some hi) (some mx)) (hx : evO E ch x = some (.slice a len cap)) (hhi : evO E ch hi = some (.int kd (len : Int))) (hmx : evO E ch mx = some (.int kd' (len : Int))) (hu : P.underlying t = some (.slice e)) (hsz : sizeV P e = some sz)
    (hch : chainOf ops E o.guard = some ch) (hd : dstOk n ch o.dst = true) (hk : chKnown E ch = true)
    (hb : chB E ch → len ≤ cap) (ha : len = 0 ∨ ∃ b off, a = some ⟨b, off, none⟩)
    (k : GL d P ops (i + 1) Q n (Env.put E o.dst ch (.slice a len len)) W0 H) : GL d P ops i Q n E W0 H := by
  refine GL_quiet ho hch hd hk (fun r hr hcb w _ => ?_) k
  have h0 := hb hcb
  unfold execOp
  simp only [hop]
  rw [hr _ _ hx]
  simp only [Option.map_some, hr _ _ hhi, hr _ _ hmx, Option.map_none, Instr.sliceAt, Instr.slice, Sem.run_bind, run_underlying hu, Result.andThen_ok, run_bounds3 (P := P) (kd := kd) (kd' := kd') h0, sizeV_sound hsz, Sem.run_pure, Nat.zero_mul]
  refine ⟨rfl, ?_⟩
  have e1 : (if len = 0 then a else a.map (·.add 0)) = a := by
    rcases ha with h | ⟨b, off, rfl⟩
    · rw [if_pos h]
    · split
      · rfl
      · simp [addr_add]
  rw [e1]; rfl
theorem GL_appendFull {P : Program} {ops : Array Oper} {i : Nat} {Q : Post} {q : Nat} {E : Env} {W0 : World} {H : List Grp} {o : Oper} {ch : List (Nat × Bool)} {c : Call} {t tx e : TypeId} {inf : TypeInfo} {z x : Value} {a : Option Addr} {n m : Nat} {cs news : List Value} {S S2 : Nat → Obj → Prop}
    (ho : ops[i]? = some o) (hop : o.op = .call c) (hce : c.callee = .builtin .append) (hat : c.argTypes = #[t, tx]) (hargs : evL (evO E ch) c.args.toList = some [.slice a n n, x])
    (ht : P.underlying t = some (.slice e)) (hi : P.info? e = some inf) (hz : inf.zero = some z) (hi1 : inf.size = 1)
    (hkind : (∃ e', P.underlying tx = some (.slice e')) ∨ (P.underlying tx = some .string ∧ inf.size = 1))
    (hks : (∃ s, x = .string s) → inf.size = 1 ∧ P.underlying tx = some .string) (hkl : (∃ a n c, x = .slice a n c) → ∃ e', P.underlying tx = some (.slice e'))
    (hch : chainOf ops E o.guard = some ch) (hd : dstOk q ch o.dst = true) (hsure : chSure E ch = true)
    (hrd : Rd S a cs) (hcs : cs.length = n) (hna : (a = none ∧ n = 0) ∨ ∃ b off, a = some ⟨b, off, none⟩) (hsrc : SrcOf S2 x m news) (hS : ∀ b o, S b o → At W0 H b o) (hS2 : ∀ b o, S2 b o → At W0 H b o) (hl : news.length = m) (h1 : ∀ u ∈ news, u.oneCell' = true)
    (hmax : n + m ≤ 9223372036854775807) (hbytes : (n + m) * inf.bytes ≤ 140737488355328)
    (k : ∀ a' cap' g, n + m ≤ cap' → ((a' = none ∧ n + m = 0 ∧ cap' = 0) ∨ ∃ b off, a' = some ⟨b, off, none⟩) → Rd (fun b o => S b o ∨ inG g b o) a' (cs ++ news) → GL false P ops (i + 1) Q q (Env.put E o.dst ch (.slice a' (n + m) cap')) W0 (g :: H)) : GL false P ops i Q q E W0 H := by
  refine GL_eff (R := fun v H1 => ∃ a' cap' g, v = .slice a' (n + m) cap' ∧ n + m ≤ cap' ∧ ((a' = none ∧ n + m = 0 ∧ cap' = 0) ∨ ∃ b off, a' = some ⟨b, off, none⟩) ∧ Rd (fun b o => S b o ∨ inG g b o) a' (cs ++ news) ∧ H1 = g :: H) ho hch hd hsure (fun r hr w hs => ?_) (by rintro v H1 ⟨a', cap', g, rfl, h2, h3, h4, rfl⟩; exact k a' cap' g h2 h3 h4)
  have hS' : ∀ b o, S b o → w.heap[b]? = some o := fun b o h => hs.at (hS b o h)
  have hsrc' : Src P inf.size tx x m news w := srcOf_run hsrc hkind hks hkl (by rw [hi1, Nat.mul_one]; exact hl) h1 (fun b o h => hs.at (hS2 b o h))
  have hexec : ∀ {v : Value} {w' : World}, (Builtin.append_ #[t, tx] o.type #[.slice a n n, x]).run P w = .ok v w' → (execOp r o).run P w = .ok (.value v) w' := by
    intro v w' h
    unfold execOp
    simp only [hop, resolve, hce, hat, arr_map hr hargs, Sem.run_bind, Sem.run_pure, Result.andThen_ok, invoke, Go.builtin, h]
  by_cases hm : m = 0
  · subst hm
    have hn : news = [] := by cases news with | nil => rfl | cons _ _ => simp at hl
    subst hn
    refine ⟨.slice a n n, w, [] :: H, ⟨a, n, [], rfl, Nat.le_refl _, hna.imp (fun h => ⟨h.1, h.2, h.2⟩) id, ?_, rfl⟩, hs.flat (by simp), .inl (hexec ?_)⟩
    · rw [List.append_nil]; exact hrd.mono fun _ _ => .inl
    · cases a with
      | none => rcases hsrc'.kind with ⟨e', hk⟩ | hk <;> simp [Builtin.append_, run_underlying ht, run_underlying hk, sizeOf, typeInfo, hi, hsrc'.len, hsrc'.cells]
      | some ad => rcases hsrc'.kind with ⟨e', hk⟩ | hk <;> simp [Builtin.append_, run_underlying ht, run_underlying hk, sizeOf, typeInfo, hi, hsrc'.len, hsrc'.cells, storeCells]
  · have hold : (Builtin.firstCells inf.size n (.slice a n n)).run P w.drew = .ok cs.toArray w.drew := by
      rcases hrd with h | ⟨b, off, c2, e2, fz, h2, h3, h4⟩
      · have h0 : n = 0 := by rw [h] at hcs; simpa using hcs.symm
        subst h0; rw [h]
        cases a with
        | none => exact run_firstCells_none w.drew _ 0 0 0
        | some ad => exact run_firstCells_some (P := P) w.drew inf.size 0 ad 0 0 [] (by simp) (fun j v hv => by simp at hv)
      · subst h2
        refine run_firstCells_some (P := P) w.drew inf.size n ⟨b, off, none⟩ n n cs (by rw [hi1, Nat.mul_one]; exact hcs) (fun j v hv => ?_)
        rw [addr_add]
        exact cell_of (w := w.drew) (hS' _ _ h3) (h4 j v hv)
    have hg := run_append_grow_src (P := P) w t tx o.type e inf z ht hi hz a n n cs hold x m news hsrc' (by omega) (by omega) (growslice_fits (by omega) hbytes)
    have hge := grownCap_ge w (n + m) n e
    refine ⟨_, _, [(w.heap.size, .cells ((cs ++ news) ++ (Builtin.zeroCells z.cells (grownCap w (n + m) n e - (n + m))).toList).toArray e (0, 0))] :: H, ⟨some ⟨w.heap.size, 0, none⟩, grownCap w (n + m) n e, _, rfl, hge, .inr ⟨_, _, rfl⟩, ?_, rfl⟩, ?_, .inl (hexec hg)⟩
    · refine .inr ⟨_, 0, _, _, _, rfl, .inr (List.mem_singleton.2 rfl), fun j u hu => ?_⟩
      have hlt : j < (cs ++ news).length := by
        rcases Nat.lt_or_ge j (cs ++ news).length with h | h
        · exact h
        · rw [List.getElem?_eq_none h] at hu; cases hu
      rw [List.getElem?_toArray, Nat.zero_add, List.getElem?_append_left hlt]
      exact hu
    · have h2 := (hs.drew).new (w' := w.drew.alloc (.cells ((cs ++ news).toArray ++ Builtin.zeroCells z.cells (grownCap w (n + m) n e - (n + m))) e)) (o := .cells ((cs ++ news).toArray ++ Builtin.zeroCells z.cells (grownCap w (n + m) n e - (n + m))) e) rfl rfl rfl rfl
      have e1 : ((cs ++ news) ++ (Builtin.zeroCells z.cells (grownCap w (n + m) n e - (n + m))).toList).toArray = (cs ++ news).toArray ++ Builtin.zeroCells z.cells (grownCap w (n + m) n e - (n + m)) := by apply Array.ext'; simp
      rw [e1]; exact h2
end Go.Sw
namespace Go.Proofs.Ytbmieiffboenbaa
open Go.Sw Go.Lib Go.Vf Go.RowKit
theorem vClip (an : Option Addr) (n cn : Nat) (hnc : n ≤ cn) (hna : n = 0 ∨ ∃ b off, an = some ⟨b, off, none⟩) (W0 : World) (H : List Grp) : Tri Try.prog 45 #[.slice an n cn] W0 H (fun v H' => v = .slice an n n ∧ H' = H) := by
  refine Tri_of (args := [.slice an n cn]) (n := 9) Try.func45 rfl rfl (Nat.le_of_ble_eq_true rfl) ?_
  refine G_seq ?_
  refine G_pure (E' := [⟨0, [], .slice an n cn⟩]) [0] [0] rfl (by kernel_rfl) ?_
  refine N_then ?_
  refine G_seq ?_
  refine G_region ?_
  refine GL_pure (E' := [⟨7, [], .int .i64 ((n : Nat) : Int)⟩, ⟨5, [], .int .i64 ((n : Nat) : Int)⟩, ⟨3, [], .slice an n cn⟩]) [0, 0, 0, 0, 0] (by kernel_rfl) (j := 5) rfl ?_
  refine GL_clip (i := 5) (ch := []) (a := an) (len := n) (cap := cn) (sz := 1) (e := 5) (kd := .i64) (kd' := .i64) rfl rfl (by kernel_rfl) (by kernel_rfl) (by kernel_rfl) (by kernel_rfl) (by kernel_rfl) (by kernel_rfl) (by kernel_rfl) (by kernel_rfl) (fun _ => hnc) hna ?_
  refine GL_fin (E' := [⟨2, [], .slice an n n⟩]) [0] [2] rfl (by kernel_rfl) ?_
  refine N_then ?_
  refine G_ret ?_
  refine N_ret [.tmp 2] [.slice an n n] rfl (by kernel_rfl) rfl ?_
  exact ⟨rfl, rfl⟩
theorem vAppendNoAny (d nb kb cb nc : Nat) (room calls : Int) (bv : Value) (fails once : Bool) (nm : SM) (path : ByteArray) (hpath : path.size ≤ 9223372036854775807) (hca : -9223372036854775808 ≤ calls ∧ calls ≤ 9223372036854775807) (ao : Option Addr) (k cap : Nat) (hg : mget nm path = none) (W0 : World) (H : List Grp) : Tri Try.prog 22 #[pt d, .string path, .slice ao k cap] W0 ([(d, .cells #[.int .i64 room, bv, .map (some nb), .map (some kb), .map (some cb), .bool fails, .bool once, .int .i64 calls] 64 (0, 0))] :: [(nb, .map (encM nm) nc)] :: H) (fun v H' => ((callS fails once calls (rightB path)).1 ≠ 0 ∧ v = .int .i64 (callS fails once calls (rightB path)).1 ∧ H' = ([(d, .cells #[.int .i64 room, bv, .map (some nb), .map (some kb), .map (some cb), .bool ((callS fails once calls (rightB path)).2.1), .bool once, .int .i64 ((callS fails once calls (rightB path)).2.2)] 64 (0, 0))] :: [(nb, .map (encM nm) nc)] :: H)) ∨ ((callS fails once calls (rightB path)).1 = 0 ∧ v = .int .i64 60 ∧ H' = ([(d, .cells #[.int .i64 room, bv, .map (some nb), .map (some kb), .map (some cb), .bool ((callS fails once calls (rightB path)).2.1), .bool once, .int .i64 ((callS fails once calls (rightB path)).2.2)] 64 (0, 0))] :: [(nb, .map (encM nm) nc)] :: H))) := by
  refine Tri_of (args := [pt d, .string path, .slice ao k cap]) (n := 46) Try.func22 rfl rfl (Nat.le_of_ble_eq_true rfl) ?_
  refine G_seq ?_
  refine G_pure (E' := [⟨0, [], pt d⟩, ⟨1, [], .string path⟩, ⟨2, [], .slice ao k cap⟩]) [0] [0, 1, 2] rfl (by kernel_rfl) ?_
  refine N_then ?_
  refine G_seq ?_
  refine G_seq ?_
  refine G_region ?_
  refine GL_pure (E' := [⟨10, [], .string path⟩, ⟨9, [], pt d⟩, ⟨0, [], pt d⟩, ⟨1, [], .string path⟩, ⟨2, [], .slice ao k cap⟩]) [0, 0] (by kernel_rfl) (j := 2) rfl ?_
  refine GL_callQ (i := 2) (ch := []) (f := 10) (fst := #[]) (caps := #[]) (vs := [.string path]) (v := .bool (rightB path)) rfl rfl rfl (by kernel_rfl) (by kernel_rfl) Try.func10 rfl rfl (by kernel_rfl) (by kernel_rfl) (by kernel_rfl) (fun _ => vfsRight _ hpath _ _) ?_
  refine GL_call (i := 3) (ch := []) (f := 34) (fst := #[]) (caps := #[]) (vs := [pt d, .bool (rightB path)]) rfl rfl rfl (by kernel_rfl) (by kernel_rfl) Try.func34 rfl rfl (by kernel_rfl) (by kernel_rfl) (chSure_of (by kernel_rfl)) (vCall d nb kb cb room calls bv fails once (rightB path) hca _ _) ?_
  rintro v H' ⟨rfl, rfl⟩
  refine GL_fin (E' := [⟨0, [], pt d⟩, ⟨1, [], .string path⟩, ⟨2, [], .slice ao k cap⟩, ⟨7, [], .int .i64 ((callS fails once calls (rightB path)).1)⟩]) [0] [0, 1, 2, 7] rfl (by kernel_rfl) ?_
  refine N_then ?_
  refine G_seq ?_
  refine G_pure (E' := [⟨0, [], pt d⟩, ⟨1, [], .string path⟩, ⟨2, [], .slice ao k cap⟩, ⟨7, [], .int .i64 ((callS fails once calls (rightB path)).1)⟩, ⟨14, [], .bool (((callS fails once calls (rightB path)).1) != 0)⟩]) [0, 0] [0, 1, 2, 7, 14] rfl (by kernel_rfl) ?_
  refine N_then ?_
  refine G_cond (b := ((callS fails once calls (rightB path)).1) != 0) (by kernel_rfl) (fun hc1 => ?_) (fun hc1 => ?_)
  ·
    have hce : (callS fails once calls (rightB path)).1 ≠ 0 := by simpa using hc1
    -- L err
    refine G_seq ?_
    refine G_pure (E' := [⟨6, [], .int .i64 ((callS fails once calls (rightB path)).1)⟩]) [0, 0] [6] rfl (by kernel_rfl) ?_
    refine N_then ?_
    refine G_ret ?_
    refine N_then_ret ?_
    refine N_ret [.tmp 6] [.int .i64 ((callS fails once calls (rightB path)).1)] rfl (by kernel_rfl) rfl ?_
    exact .inl ⟨hce, rfl, rfl⟩
  ·
    have hce : (callS fails once calls (rightB path)).1 = 0 := by simpa using hc1
    refine G_skip ?_
    refine N_then ?_
    refine G_seq ?_
    refine G_region ?_
    refine GL_pure (E' := [⟨18, [], .pointer (some ⟨d, 2, none⟩)⟩, ⟨0, [], pt d⟩, ⟨1, [], .string path⟩, ⟨2, [], .slice ao k cap⟩]) [0, 0, 0] (by kernel_rfl) (j := 3) rfl ?_
    refine GL_load (i := 3) (ch := []) (b := d) (off := 2) (v := .map (some nb)) rfl rfl (by kernel_rfl) (by kernel_rfl) (by kernel_rfl) (by kernel_rfl) (by kernel_rfl) (At.grp 0 0 rfl rfl) rfl ?_
    refine GL_pure (E' := [⟨20, [], .string path⟩, ⟨19, [], .map (some nb)⟩, ⟨0, [], pt d⟩, ⟨2, [], .slice ao k cap⟩]) [0] (by kernel_rfl) (j := 5) rfl ?_
    refine GL_lookup (i := 5) (ch := []) (kt := 9) (et := 66) (r := nb) (c := nc) (m := nm) (k := path) (z := .pointer none) (ov := none) rfl rfl (by kernel_rfl) (by kernel_rfl) (by kernel_rfl) (by kernel_rfl) (by kernel_rfl) (by kernel_rfl) (by kernel_rfl) (by kernel_rfl) (At.grp 1 0 rfl rfl) (fun _ => hg) ?_
    refine GL_fin (E' := [⟨0, [], pt d⟩, ⟨2, [], .slice ao k cap⟩, ⟨8, [], .pointer none⟩]) [0] [0, 2, 8] rfl (by kernel_rfl) ?_
    refine N_then ?_
    refine G_seq ?_
    refine G_block ?_
    refine G_seq ?_
    refine G_pure (E' := [⟨0, [], pt d⟩, ⟨2, [], .slice ao k cap⟩, ⟨8, [], .pointer none⟩, ⟨22, [], .bool true⟩]) [0, 0, 0] [0, 2, 8, 22] rfl (by kernel_rfl) ?_
    refine N_then ?_
    refine G_condt (by kernel_rfl) ?_
    refine G_seq ?_
    refine G_pure (E' := [⟨6, [], .int .i64 60⟩]) [0] [6] rfl (by kernel_rfl) ?_
    refine N_then ?_
    refine G_ret ?_
    refine N_block_ret ?_
    refine N_then_ret ?_
    refine N_ret [.tmp 6] [.int .i64 60] rfl (by kernel_rfl) rfl ?_
    exact .inr ⟨hce, rfl, rfl⟩
theorem vAppendAny (d nb kb cb nc : Nat) (room calls : Int) (bv : Value) (fails once : Bool) (nm : SM) (path : ByteArray) (hpath : path.size ≤ 9223372036854775807) (hca : -9223372036854775808 ≤ calls ∧ calls ≤ 9223372036854775807) (ao : Option Addr) (k cap : Nat) (szf : Value → Nat) (hn : MapOk nm nc) (hs : sumN szf nm ≤ 1000000000000) (p n cn m ck : Nat) (an ak : Option Addr) (hg : mget nm path = some (.pointer (some ⟨p, 0, none⟩))) (S : Nat → Obj → Prop) (l0 : List UInt8) (hrd0 : Rd S an (u8s l0)) (hl0 : l0.length = n) (hnn : n ≤ 1000000000) (hnc : n ≤ cn) (hna : (an = none ∧ n = 0 ∧ cn = 0) ∨ ∃ b off, an = some ⟨b, off, none⟩) (S2 : Nat → Obj → Prop) (l : List UInt8) (hao : ao = none → k = 0) (hrd : Rd S2 ao (u8s l)) (hl : l.length = k) (hkn : k ≤ 1000000000) (W0 : World) (H : List Grp) (hS : ∀ y o, S y o → At W0 H y o) (hS2 : ∀ y o, S2 y o → At W0 H y o) (hB : ∀ e ∈ nm, ∃ p1 a c kv, e.2.1 = .pointer (some ⟨p1, 0, none⟩) ∧ At W0 ([(p, .cells #[.slice an n cn, .slice ak m ck] 68 (0, 0))] :: H) p1 (.cells #[.slice a (szf e.2.1) c, kv] 68 (0, 0))) : Tri Try.prog 22 #[pt d, .string path, .slice ao k cap] W0 ([(d, .cells #[.int .i64 room, bv, .map (some nb), .map (some kb), .map (some cb), .bool fails, .bool once, .int .i64 calls] 64 (0, 0))] :: [(nb, .map (encM nm) nc)] :: [(p, .cells #[.slice an n cn, .slice ak m ck] 68 (0, 0))] :: H) (fun v H' => ((callS fails once calls (rightB path)).1 ≠ 0 ∧ v = .int .i64 (callS fails once calls (rightB path)).1 ∧ H' = ([(d, .cells #[.int .i64 room, bv, .map (some nb), .map (some kb), .map (some cb), .bool ((callS fails once calls (rightB path)).2.1), .bool once, .int .i64 ((callS fails once calls (rightB path)).2.2)] 64 (0, 0))] :: [(nb, .map (encM nm) nc)] :: [(p, .cells #[.slice an n cn, .slice ak m ck] 68 (0, 0))] :: H)) ∨ ((callS fails once calls (rightB path)).1 = 0 ∧ ((sumN szf nm : Nat) : Int) + (k : Int) > room ∧ v = .int .i64 61 ∧ H' = ([(d, .cells #[.int .i64 room, bv, .map (some nb), .map (some kb), .map (some cb), .bool ((callS fails once calls (rightB path)).2.1), .bool once, .int .i64 ((callS fails once calls (rightB path)).2.2)] 64 (0, 0))] :: [(nb, .map (encM nm) nc)] :: [(p, .cells #[.slice an n cn, .slice ak m ck] 68 (0, 0))] :: H)) ∨ ((callS fails once calls (rightB path)).1 = 0 ∧ ¬ ((sumN szf nm : Nat) : Int) + (k : Int) > room ∧ v = .int .i64 0 ∧ ∃ a' cap' g, n + k ≤ cap' ∧ ((a' = none ∧ n + k = 0 ∧ cap' = 0) ∨ ∃ b off, a' = some ⟨b, off, none⟩) ∧ Rd (fun b o => S b o ∨ inG g b o) a' (u8s l0 ++ u8s l) ∧ H' = ([(d, .cells #[.int .i64 room, bv, .map (some nb), .map (some kb), .map (some cb), .bool ((callS fails once calls (rightB path)).2.1), .bool once, .int .i64 ((callS fails once calls (rightB path)).2.2)] 64 (0, 0))] :: [(nb, .map (encM nm) nc)] :: [(p, .cells #[.slice a' (n + k) cap', .slice ak m ck] 68 (0, 0))] :: g :: H))) := by
  refine Tri_of (args := [pt d, .string path, .slice ao k cap]) (n := 46) Try.func22 rfl rfl (Nat.le_of_ble_eq_true rfl) ?_
  refine G_seq ?_
  refine G_pure (E' := [⟨0, [], pt d⟩, ⟨1, [], .string path⟩, ⟨2, [], .slice ao k cap⟩]) [0] [0, 1, 2] rfl (by kernel_rfl) ?_
  refine N_then ?_
  refine G_seq ?_
  refine G_seq ?_
  refine G_region ?_
  refine GL_pure (E' := [⟨10, [], .string path⟩, ⟨9, [], pt d⟩, ⟨0, [], pt d⟩, ⟨1, [], .string path⟩, ⟨2, [], .slice ao k cap⟩]) [0, 0] (by kernel_rfl) (j := 2) rfl ?_
  refine GL_callQ (i := 2) (ch := []) (f := 10) (fst := #[]) (caps := #[]) (vs := [.string path]) (v := .bool (rightB path)) rfl rfl rfl (by kernel_rfl) (by kernel_rfl) Try.func10 rfl rfl (by kernel_rfl) (by kernel_rfl) (by kernel_rfl) (fun _ => vfsRight _ hpath _ _) ?_
  refine GL_call (i := 3) (ch := []) (f := 34) (fst := #[]) (caps := #[]) (vs := [pt d, .bool (rightB path)]) rfl rfl rfl (by kernel_rfl) (by kernel_rfl) Try.func34 rfl rfl (by kernel_rfl) (by kernel_rfl) (chSure_of (by kernel_rfl)) (vCall d nb kb cb room calls bv fails once (rightB path) hca _ _) ?_
  rintro v H' ⟨rfl, rfl⟩
  refine GL_fin (E' := [⟨0, [], pt d⟩, ⟨1, [], .string path⟩, ⟨2, [], .slice ao k cap⟩, ⟨7, [], .int .i64 ((callS fails once calls (rightB path)).1)⟩]) [0] [0, 1, 2, 7] rfl (by kernel_rfl) ?_
  refine N_then ?_
  refine G_seq ?_
  refine G_pure (E' := [⟨0, [], pt d⟩, ⟨1, [], .string path⟩, ⟨2, [], .slice ao k cap⟩, ⟨7, [], .int .i64 ((callS fails once calls (rightB path)).1)⟩, ⟨14, [], .bool (((callS fails once calls (rightB path)).1) != 0)⟩]) [0, 0] [0, 1, 2, 7, 14] rfl (by kernel_rfl) ?_
  refine N_then ?_
  refine G_cond (b := ((callS fails once calls (rightB path)).1) != 0) (by kernel_rfl) (fun hc1 => ?_) (fun hc1 => ?_)
  ·
    have hce : (callS fails once calls (rightB path)).1 ≠ 0 := by simpa using hc1
    -- L err
    refine G_seq ?_
    refine G_pure (E' := [⟨6, [], .int .i64 ((callS fails once calls (rightB path)).1)⟩]) [0, 0] [6] rfl (by kernel_rfl) ?_
    refine N_then ?_
    refine G_ret ?_
    refine N_then_ret ?_
    refine N_heap (H' := ([(d, .cells #[.int .i64 room, bv, .map (some nb), .map (some kb), .map (some cb), .bool ((callS fails once calls (rightB path)).2.1), .bool once, .int .i64 ((callS fails once calls (rightB path)).2.2)] 64 (0, 0))] :: [(nb, .map (encM nm) nc)] :: [(p, .cells #[.slice an n cn, .slice ak m ck] 68 (0, 0))] :: H)) (fun w h => (((h.front (j := 2) rfl).front (j := 2) rfl).front (j := 2) rfl)) ?_
    refine N_ret [.tmp 6] [.int .i64 ((callS fails once calls (rightB path)).1)] rfl (by kernel_rfl) rfl ?_
    exact .inl ⟨hce, rfl, rfl⟩
  ·
    have hce : (callS fails once calls (rightB path)).1 = 0 := by simpa using hc1
    refine G_skip ?_
    refine N_then ?_
    refine G_seq ?_
    refine G_region ?_
    refine GL_pure (E' := [⟨18, [], .pointer (some ⟨d, 2, none⟩)⟩, ⟨0, [], pt d⟩, ⟨1, [], .string path⟩, ⟨2, [], .slice ao k cap⟩]) [0, 0, 0] (by kernel_rfl) (j := 3) rfl ?_
    refine GL_load (i := 3) (ch := []) (b := d) (off := 2) (v := .map (some nb)) rfl rfl (by kernel_rfl) (by kernel_rfl) (by kernel_rfl) (by kernel_rfl) (by kernel_rfl) (At.grp 0 0 rfl rfl) rfl ?_
    refine GL_pure (E' := [⟨20, [], .string path⟩, ⟨19, [], .map (some nb)⟩, ⟨0, [], pt d⟩, ⟨2, [], .slice ao k cap⟩]) [0] (by kernel_rfl) (j := 5) rfl ?_
    refine GL_lookup (i := 5) (ch := []) (kt := 9) (et := 66) (r := nb) (c := nc) (m := nm) (k := path) (z := .pointer none) (ov := (some (pt p))) rfl rfl (by kernel_rfl) (by kernel_rfl) (by kernel_rfl) (by kernel_rfl) (by kernel_rfl) (by kernel_rfl) (by kernel_rfl) (by kernel_rfl) (At.grp 1 0 rfl rfl) (fun _ => hg) ?_
    refine GL_fin (E' := [⟨0, [], pt d⟩, ⟨2, [], .slice ao k cap⟩, ⟨8, [], pt p⟩]) [0] [0, 2, 8] rfl (by kernel_rfl) ?_
    refine N_then ?_
    refine G_seq ?_
    refine G_block ?_
    refine G_seq ?_
    refine G_pure (E' := [⟨0, [], pt d⟩, ⟨2, [], .slice ao k cap⟩, ⟨8, [], pt p⟩, ⟨22, [], .bool false⟩]) [0, 0, 0] [0, 2, 8, 22] rfl (by kernel_rfl) ?_
    refine N_then ?_
    refine G_condf (by kernel_rfl) ?_
    refine G_seq ?_
    refine G_regionH ([(d, .cells #[.int .i64 room, bv, .map (some nb), .map (some kb), .map (some cb), .bool ((callS fails once calls (rightB path)).2.1), .bool once, .int .i64 ((callS fails once calls (rightB path)).2.2)] 64 (0, 0))] :: [(nb, .map (encM nm) nc)] :: [(p, .cells #[.slice an n cn, .slice ak m ck] 68 (0, 0))] :: H) (by kernel_rfl) ?_
    refine GH_pure (E' := [⟨26, [], pt d⟩, ⟨0, [], pt d⟩, ⟨2, [], .slice ao k cap⟩, ⟨8, [], pt p⟩]) 0 0 (by kernel_rfl) (fun w h => (((h.front (j := 2) rfl).front (j := 2) rfl).front (j := 2) rfl)) (by kernel_rfl) ?_
    refine GH_pure (E' := [⟨28, [], .slice ao k cap⟩, ⟨26, [], pt d⟩, ⟨0, [], pt d⟩, ⟨2, [], .slice ao k cap⟩, ⟨8, [], pt p⟩]) 2 0 (by kernel_rfl) (fun w h => (((h.front (j := 2) rfl).front (j := 2) rfl).front (j := 2) rfl)) (by kernel_rfl) ?_
    refine GH_pev (v := .int .i64 ((k : Nat) : Int)) 3 rfl rfl (by kernel_rfl) (by kernel_rfl) (by kernel_rfl) (by kernel_rfl) (by kernel_rfl) (fun w h => (((h.front (j := 2) rfl).front (j := 2) rfl).front (j := 2) rfl)) ?_
    refine GH_pure (E' := [⟨31, [], pt d⟩, ⟨29, [], .int .i64 ((k : Nat) : Int)⟩, ⟨26, [], pt d⟩, ⟨2, [], .slice ao k cap⟩, ⟨8, [], pt p⟩]) 5 0 (by kernel_rfl) (fun w h => (((h.front (j := 2) rfl).front (j := 2) rfl).front (j := 2) rfl)) (by kernel_rfl) ?_
    refine GH_nil (ad := ⟨d, 0, none⟩) 6 rfl rfl rfl (by kernel_rfl) (by kernel_rfl) (by kernel_rfl) (by kernel_rfl) (by kernel_rfl) (fun w h => (((h.front (j := 2) rfl).front (j := 2) rfl).front (j := 2) rfl)) ?_
    refine GH_pure (E' := [⟨33, [], pt d⟩, ⟨29, [], .int .i64 ((k : Nat) : Int)⟩, ⟨26, [], pt d⟩, ⟨2, [], .slice ao k cap⟩, ⟨8, [], pt p⟩]) 7 0 (by kernel_rfl) (fun w h => (((h.front (j := 2) rfl).front (j := 2) rfl).front (j := 2) rfl)) (by kernel_rfl) ?_
    refine GH_take' (E' := [⟨34, [], .int .i64 room⟩, ⟨33, [], pt d⟩, ⟨29, [], .int .i64 ((k : Nat) : Int)⟩, ⟨26, [], pt d⟩, ⟨2, [], .slice ao k cap⟩, ⟨8, [], pt p⟩]) 8 (by kernel_rfl) (fun w h => (((h.front (j := 2) rfl).front (j := 2) rfl).front (j := 2) rfl)) ?_ ?_
    ·
      refine GL_load (i := 8) (ch := []) (b := d) (off := 0) (v := .int .i64 room) rfl rfl (by kernel_rfl) (by kernel_rfl) (by kernel_rfl) (by kernel_rfl) (by kernel_rfl) (At.grp 0 0 rfl rfl) rfl ?_
      exact GL_yend (by kernel_rfl) (by kernel_rfl)
    refine GH_eff 1 (by kernel_rfl) (by kernel_rfl) (by kernel_rfl) ?_
    refine GL_heap rfl (H' := ([(d, .cells #[.int .i64 room, bv, .map (some nb), .map (some kb), .map (some cb), .bool ((callS fails once calls (rightB path)).2.1), .bool once, .int .i64 ((callS fails once calls (rightB path)).2.2)] 64 (0, 0))] :: [(nb, .map (encM nm) nc)] :: [(p, .cells #[.slice an n cn, .slice ak m ck] 68 (0, 0))] :: H)) (fun w h => ((h.front (j := 1) rfl).front (j := 1) rfl)) ?_
    refine GL_call (i := 1) (ch := []) (f := 26) (fst := #[]) (caps := #[]) (vs := [pt d]) rfl rfl rfl (by kernel_rfl) (by kernel_rfl) Try.func26 rfl rfl (by kernel_rfl) (by kernel_rfl) (chSure_of (by kernel_rfl)) (vUsed d nb kb cb nc room ((callS fails once calls (rightB path)).2.2) bv ((callS fails once calls (rightB path)).2.1) once nm szf hn hs _ _ hB) ?_
    rintro v H' ⟨rfl, rfl⟩
    refine GH_back (by kernel_rfl) (fun w h => (((h.front (j := 2) rfl).front (j := 2) rfl).front (j := 2) rfl)) ?_
    have hw2 : IntKind.wrap .i64 (((sumN szf nm : Nat) : Int) + ((k : Nat) : Int)) = ((sumN szf nm : Nat) : Int) + ((k : Nat) : Int) := w64 (by omega) (by omega)
    refine GH_pure (E' := [⟨30, [], .int .i64 (((sumN szf nm : Nat) : Int) + ((k : Nat) : Int))⟩, ⟨34, [], .int .i64 room⟩, ⟨2, [], .slice ao k cap⟩, ⟨8, [], pt p⟩]) 4 0 (by kernel_rfl) (fun w h => (((h.front (j := 2) rfl).front (j := 2) rfl).front (j := 2) rfl)) (Eq.trans (b := some [⟨30, [], .int .i64 (IntKind.wrap .i64 (((sumN szf nm : Nat) : Int) + ((k : Nat) : Int)))⟩, ⟨34, [], .int .i64 room⟩, ⟨2, [], .slice ao k cap⟩, ⟨8, [], pt p⟩]) (by kernel_rfl) (by simp only [hw2])) ?_
    refine GH_pure (E' := [⟨35, [], .bool (decide ((((sumN szf nm : Nat) : Int) + ((k : Nat) : Int)) > room))⟩, ⟨2, [], .slice ao k cap⟩, ⟨8, [], pt p⟩]) 9 0 (by kernel_rfl) (fun w h => (((h.front (j := 2) rfl).front (j := 2) rfl).front (j := 2) rfl)) (by kernel_rfl) ?_
    refine GH_pure (E' := [⟨25, [], .bool (decide ((((sumN szf nm : Nat) : Int) + ((k : Nat) : Int)) > room))⟩, ⟨2, [], .slice ao k cap⟩, ⟨8, [], pt p⟩]) 10 0 (by kernel_rfl) (fun w h => (((h.front (j := 2) rfl).front (j := 2) rfl).front (j := 2) rfl)) (by kernel_rfl) ?_
    refine GH_done (E' := [⟨2, [], .slice ao k cap⟩, ⟨8, [], pt p⟩, ⟨25, [], .bool (decide ((((sumN szf nm : Nat) : Int) + ((k : Nat) : Int)) > room))⟩]) [2, 8, 25] (by kernel_rfl) (by kernel_rfl) ?_
    refine N_then ?_
    refine G_cond (b := decide ((((sumN szf nm : Nat) : Int) + ((k : Nat) : Int)) > room)) (by kernel_rfl) (fun hc3 => ?_) (fun hc3 => ?_)
    ·
      have hro := of_decide_eq_true hc3
      -- L full
      refine G_seq ?_
      refine G_pure (E' := [⟨6, [], .int .i64 61⟩]) [0] [6] rfl (by kernel_rfl) ?_
      refine N_then ?_
      refine G_ret ?_
      refine N_block_ret ?_
      refine N_then_ret ?_
      refine N_heap (H' := ([(d, .cells #[.int .i64 room, bv, .map (some nb), .map (some kb), .map (some cb), .bool ((callS fails once calls (rightB path)).2.1), .bool once, .int .i64 ((callS fails once calls (rightB path)).2.2)] 64 (0, 0))] :: [(nb, .map (encM nm) nc)] :: [(p, .cells #[.slice an n cn, .slice ak m ck] 68 (0, 0))] :: H)) (fun w h => (((h.front (j := 2) rfl).front (j := 2) rfl).front (j := 2) rfl)) ?_
      refine N_ret [.tmp 6] [.int .i64 61] rfl (by kernel_rfl) rfl ?_
      exact .inr (.inl ⟨hce, hro, rfl, rfl⟩)
    ·
      have hro := of_decide_eq_false hc3
      refine G_skip ?_
      refine N_block ?_
      refine N_then ?_
      refine G_seq ?_
      refine G_region ?_
      refine GL_pure (E' := [⟨39, [], pt p⟩, ⟨36, [], pt p⟩, ⟨2, [], .slice ao k cap⟩]) [0, 0, 0, 0] (by kernel_rfl) (j := 4) rfl ?_
      refine GL_load (i := 4) (ch := []) (b := p) (off := 0) (v := .slice an n cn) rfl rfl (by kernel_rfl) (by kernel_rfl) (by kernel_rfl) (by kernel_rfl) (by kernel_rfl) (At.grp 2 0 rfl rfl) rfl ?_
      refine GL_callQ (i := 5) (ch := []) (f := 45) (fst := #[]) (caps := #[]) (vs := [.slice an n cn]) (v := .slice an n n) rfl rfl rfl (by kernel_rfl) (by kernel_rfl) Try.func45 rfl rfl (by kernel_rfl) (by kernel_rfl) (by kernel_rfl) (fun _ => vClip an n cn hnc (hna.imp (fun h => h.2.1) id) _ _) ?_
      refine GL_pure (E' := [⟨42, [], .slice ao k cap⟩, ⟨41, [], .slice an n n⟩, ⟨36, [], pt p⟩]) [0] (by kernel_rfl) (j := 7) rfl ?_
      refine GL_appendFull (i := 7) (ch := []) (t := 24) (tx := 24) (e := 5) (inf := Try.t5) (x := .slice ao k cap) (a := an) (n := n) (m := k) (cs := (u8s l0)) (news := (u8s l)) (S := S) (S2 := S2) rfl rfl rfl rfl (by kernel_rfl) (by kernel_rfl) (by kernel_rfl) rfl rfl (.inl ⟨5, (by kernel_rfl)⟩) (fun ⟨_, h⟩ => by cases h) (fun _ => ⟨5, (by kernel_rfl)⟩) (by kernel_rfl) (by kernel_rfl) (by kernel_rfl) hrd0 (by rw [u8s_len]; exact hl0) (hna.imp (fun h => ⟨h.1, h.2.1⟩) id) (SrcOf.slice _ _ _ _ hrd hao) (fun y o h => (At.cons (At.cons (At.cons (hS y o h))))) (fun y o h => (At.cons (At.cons (At.cons (hS2 y o h))))) (by rw [u8s_len]; exact hl) u8s_one (by omega) (by show (n + k) * 1 ≤ _; omega) (fun a4 cap5 g6 hcap7 haa8 hrd9 => ?_)
      refine GL_pure (E' := [⟨45, [], pt p⟩, ⟨43, [], .slice a4 (n + k) cap5⟩]) [0, 0] (by kernel_rfl) (j := 10) rfl ?_
      refine GL_store (i := 10) (ch := []) (b := p) (off := 0) (v := .slice a4 (n + k) cap5) (c := #[.slice an n cn, .slice ak m ck]) (c' := #[.slice a4 (n + k) cap5, .slice ak m ck]) (j := 3) (m := 0) (H' := (g6 :: [(d, .cells #[.int .i64 room, bv, .map (some nb), .map (some kb), .map (some cb), .bool ((callS fails once calls (rightB path)).2.1), .bool once, .int .i64 ((callS fails once calls (rightB path)).2.2)] 64 (0, 0))] :: [(nb, .map (encM nm) nc)] :: [(p, .cells #[.slice a4 (n + k) cap5, .slice ak m ck] 68 (0, 0))] :: H)) rfl rfl (by kernel_rfl) (by kernel_rfl) (by kernel_rfl) (by kernel_rfl) (by kernel_rfl) (by kernel_rfl) (by kernel_rfl) rfl rfl (Nat.le_of_ble_eq_true rfl) (fun _ _ => thaw0) (by kernel_rfl) (by kernel_rfl) ?_
      refine GL_fin (E' := []) [] [] rfl (by kernel_rfl) ?_
      refine N_then ?_
      refine G_seq ?_
      refine G_pure (E' := [⟨6, [], .int .i64 0⟩]) [0] [6] rfl (by kernel_rfl) ?_
      refine N_then ?_
      refine G_ret ?_
      refine N_heap (H' := ([(d, .cells #[.int .i64 room, bv, .map (some nb), .map (some kb), .map (some cb), .bool ((callS fails once calls (rightB path)).2.1), .bool once, .int .i64 ((callS fails once calls (rightB path)).2.2)] 64 (0, 0))] :: [(nb, .map (encM nm) nc)] :: [(p, .cells #[.slice a4 (n + k) cap5, .slice ak m ck] 68 (0, 0))] :: g6 :: H)) (fun w h => (((h.front (j := 3) rfl).front (j := 3) rfl).front (j := 3) rfl)) ?_
      refine N_ret [.tmp 6] [.int .i64 0] rfl (by kernel_rfl) rfl ?_
      exact .inr (.inr ⟨hce, hro, rfl, a4, cap5, g6, hcap7, haa8, hrd9, rfl⟩)
end Go.Proofs.Ytbmieiffboenbaa
namespace Go.Vf
open Go.Sw Go.RowKit
structure DS where
  nb : Nat
  kb : Nat
  cb : Nat
  nm : SM
  km : SM
  cm : SM
  nc : Nat
  kc : Nat
  cc : Nat
  ba : Option Addr
  bc : Nat
  bg : Grp
  bs : List BE
  rows : List RW
  Z : List Grp
def dkO (M : DM) (s : DS) : Obj := .cells #[.int .i64 M.room, .slice s.ba s.bs.length s.bc, .map (some s.nb), .map (some s.kb), .map (some s.cb), .bool M.fails, .bool M.once, .int .i64 M.calls] 64 (0, 0)
def DS.G (s : DS) (d : Nat) (M : DM) : List Grp :=
  [(d, dkO M s)] :: [(s.nb, .map (encM s.nm) s.nc)] :: [(s.kb, .map (encM s.km) s.kc)] :: [(s.cb, .map (encM s.cm) s.cc)] :: s.bg :: bodyG s.bs :: (rowsG s.rows ++ s.Z)
def inZ (Z : List Grp) (y : Nat) (o : Obj) : Prop := (y, o) ∈ Z.flatten
theorem inZ_app {K Z : List Grp} {y : Nat} {o : Obj} (h : inZ Z y o) : inZ (K ++ Z) y o := by
  unfold inZ at h ⊢
  rw [List.flatten_append]; exact List.mem_append_right _ h
def psOf (bs : List BE) : List Nat := bs.map (·.p)
structure BodyR (S : Nat → Obj → Prop) (b : BE) (B : Body) : Prop where
  n : b.n = B.now.size
  cn : b.n ≤ b.cn
  an : (b.an = none ∧ b.n = 0 ∧ b.cn = 0) ∨ ∃ k off, b.an = some ⟨k, off, none⟩
  now : Rd S b.an (u8s B.now.data.toList)
  m : b.m = B.kept.size
  cm : b.m ≤ b.ck
  am : (b.ak = none ∧ b.m = 0 ∧ b.ck = 0) ∨ ∃ k off, b.ak = some ⟨k, off, none⟩
  kept : Rd S b.ak (u8s B.kept.data.toList)
theorem BodyR.mono {S S' : Nat → Obj → Prop} {b : BE} {B : Body} (h : BodyR S b B) (hs : ∀ y o, S y o → S' y o) : BodyR S' b B :=
  ⟨h.n, h.cn, h.an, h.now.mono hs, h.m, h.cm, h.am, h.kept.mono hs⟩
def QR (Z : List Grp) (ps : List Nat) (q : Nat) (l : List Nm) : Prop := ∃ x c, inZ Z q (.map (encM x) c) ∧ MapOk x c ∧ ChangeR ps x l
structure DS.ok (s : DS) (M : DM) : Prop where
  own : Own 66 1 (.slice s.ba s.bs.length s.bc) s.bg s.bs.length (s.bs.map fun b => Value.pointer (some ⟨b.p, 0, none⟩))
  nok : MapOk s.nm s.nc
  kok : MapOk s.km s.kc
  cok : MapOk s.cm s.cc
  names : NamesR (psOf s.bs) s.nm M.names
  kept : NamesR (psOf s.bs) s.km M.kept
  rows : RowsOk s.cm s.rows
  chs : ∀ d, All2 (QR s.Z (psOf s.bs)) (rowOf s.rows d) (chOf M.changes d)
  bods : All2 (BodyR (inZ s.Z)) s.bs M.bodies
structure Small (M : DM) : Prop where
  bodies : M.bodies.length ≤ 100000
  size : ∀ B ∈ M.bodies, B.now.size ≤ 10000000 ∧ B.kept.size ≤ B.now.size
  names : M.names.length ≤ 10000
  changes : M.changes.length ≤ 100000
  calls : -9223372036854775808 ≤ M.calls ∧ M.calls ≤ 9223372036854775807
  paths : ∀ x ∈ M.names, x.1.size ≤ 1000000
  dirs : ∀ c ∈ M.changes, c.dir.size ≤ 1000000
theorem ok_call {s : DS} {M : DM} (h : s.ok M) (r : Bool) : s.ok (callM M r) := ⟨h.own, h.nok, h.kok, h.cok, h.names, h.kept, h.rows, h.chs, h.bods⟩
def szV (bs : List BE) : Value → Nat
  | .pointer (some a) => match bs.find? (fun b => b.p == a.block) with | some b => b.n | none => 0
  | _ => 0
theorem szV_of {bs : List BE} (hn : (psOf bs).Nodup) : ∀ i : Nat, i < bs.length → szV bs (ptrV (bs.getD i default).p) = (bs.getD i default).n := by
  unfold szV ptrV
  simp only
  induction bs with
  | nil => intro i h; simp at h
  | cons b bs ih =>
    intro i hi
    unfold psOf at hn
    rw [List.map_cons, List.nodup_cons] at hn
    cases i with
    | zero => simp
    | succ i =>
      have hi' : i < bs.length := by simpa using hi
      have hne : (b.p == (bs.getD i default).p) = false := by
        rw [beq_eq_false_iff_ne]; intro h
        refine hn.1 (List.mem_map.2 ⟨bs.getD i default, getD_mem hi', h.symm⟩)
      rw [List.getD_cons_succ, List.find?_cons, hne]
      exact ih hn.2 i hi'
theorem ps_getD {bs : List BE} {i : Nat} (h : i < bs.length) : (psOf bs).getD i 0 = (bs.getD i default).p := by
  unfold psOf
  rw [List.getD_eq_getElem?_getD, List.getD_eq_getElem?_getD, List.getElem?_map, List.getElem?_eq_getElem h]; rfl
theorem psOf_len (bs : List BE) : (psOf bs).length = bs.length := by unfold psOf; rw [List.length_map]
theorem sz_at {s : DS} {M : DM} (h : s.ok M) (hn : (psOf s.bs).Nodup) {k : Int} (hk : k.toNat < s.bs.length) : szV s.bs (ptrOf (psOf s.bs) k) = sizeAt M k := by
  unfold ptrOf
  rw [ps_getD hk, szV_of hn _ hk]
  exact (h.bods.get default default _ hk).n
theorem sum_used {s : DS} {M : DM} (h : s.ok M) (hn : (psOf s.bs).Nodup) : sumN (szV s.bs) s.nm = usedM M := by
  have hp := (names_perm h.names h.nok).map fun y => szV s.bs y.2
  rw [List.map_map, List.map_map] at hp
  have e := hp.sum_nat
  unfold sumN usedM
  rw [show (s.nm.map fun e => szV s.bs e.2.1) = s.nm.map ((fun y => szV s.bs y.2) ∘ fun e => (e.1, e.2.1)) from rfl, e]
  congr 1
  refine List.map_congr_left fun x hx => ?_
  exact sz_at h hn (by have := (h.names.lt x hx).2; rwa [psOf_len] at this)
theorem used_le {M : DM} (hs : Small M) (hl : ∀ x ∈ M.names, x.2.toNat < M.bodies.length) : usedM M ≤ 100000000000 := by
  have h : ∀ l : List Nm, (∀ x ∈ l, x.2.toNat < M.bodies.length) → (l.map fun x => sizeAt M x.2).sum ≤ l.length * 10000000 := by
    intro l
    induction l with
    | nil => intro _; simp
    | cons x l ih =>
      intro hx
      have h1 := ih fun y hy => hx y (List.mem_cons_of_mem _ hy)
      have h2 : sizeAt M x.2 ≤ 10000000 := by
        have hlt := hx x List.mem_cons_self
        unfold sizeAt bodyAt
        rw [List.getD_eq_getElem?_getD, List.getElem?_eq_getElem hlt]
        exact (hs.size _ (List.getElem_mem hlt)).1
      rw [List.map_cons, List.sum_cons, List.length_cons]
      omega
  have := h M.names hl
  have h2 := hs.names
  unfold usedM
  omega
theorem names_ptr {s : DS} {M : DM} (h : s.ok M) {e : ByteArray × Value × Nat} (he : e ∈ s.nm) : ∃ k : Int, lookN M.names e.1 = some k ∧ k.toNat < s.bs.length ∧ e.2.1 = ptrOf (psOf s.bs) k := by
  obtain ⟨p, v, c⟩ := e
  have h1 := mget_of h.nok.nodup he
  rw [h.names.look] at h1
  cases hl : lookN M.names p with
  | none => rw [hl] at h1; cases h1
  | some k =>
    rw [hl] at h1
    injection h1 with h1
    exact ⟨k, rfl, by have := (h.names.lt _ (lookN_mem hl)).2; rwa [psOf_len] at this, h1.symm⟩
theorem names_at {s : DS} {M : DM} (h : s.ok M) (hn : (psOf s.bs).Nodup) {W0 : World} {H : List Grp} (hH : ∀ x ∈ bodyG s.bs, x ∈ H.flatten) :
    ∀ e ∈ s.nm, ∃ p a c kv, e.2.1 = .pointer (some ⟨p, 0, none⟩) ∧ At W0 H p (.cells #[.slice a (szV s.bs e.2.1) c, kv] 68 (0, 0)) := by
  intro e he
  obtain ⟨k, _, hk, h2⟩ := names_ptr h he
  refine ⟨(s.bs.getD k.toNat default).p, (s.bs.getD k.toNat default).an, (s.bs.getD k.toNat default).cn, .slice (s.bs.getD k.toNat default).ak (s.bs.getD k.toNat default).m (s.bs.getD k.toNat default).ck, ?_, .inr (hH _ ?_)⟩
  · rw [h2, ptrOf, ps_getD hk]; rfl
  · rw [h2, ptrOf, ps_getD hk, szV_of hn _ hk]
    exact List.mem_of_getElem? (bodyG_at hk)
theorem ps_nodup {s : DS} {d : Nat} {M : DM} {W0 : World} {H : List Grp} {w : World} (h : Sat W0 (s.G d M ++ H) w) : (psOf s.bs).Nodup := by
  have hn := h.nodup
  have : (bodyG s.bs).Sublist (s.G d M ++ H).flatten := List.sublist_flatten_of_mem (List.mem_append_left _ (by simp [DS.G]))
  have h2 := hn.sublist (this.map Prod.fst)
  unfold bodyG at h2
  rw [List.map_map] at h2
  exact h2
theorem tri_sat {P : Program} {f : FuncId} {args : Array Value} {W0 : World} {H : List Grp} {R : Value → List Grp → Prop} (h : (∃ w, Sat W0 H w) → Tri P f args W0 H R) : Tri P f args W0 H R := fun w hs => h ⟨w, hs⟩ w hs
theorem qr_mono {K Z : List Grp} {ps : List Nat} {q : Nat} {l : List Nm} (h : QR Z ps q l) : QR (K ++ Z) ps q l := by
  obtain ⟨x, c, h1, h2, h3⟩ := h
  exact ⟨x, c, inZ_app h1, h2, h3⟩
theorem ok_body {s : DS} {M : DM} (h : s.ok M) {p : Nat} {a1 a2 : Option Addr} {n c1 c2 : Nat} {g1 bg2 : Grp} {b : ByteArray} (hb : b.size = n) (h1 : Own 5 1 (.slice a1 n c1) g1 n (u8s b.data.toList)) (h2 : Own 66 1 (.slice a2 (s.bs.length + 1) c2) bg2 (s.bs.length + 1) (s.bs.map (fun b => Value.pointer (some ⟨b.p, 0, none⟩)) ++ [.pointer (some ⟨p, 0, none⟩)])) :
    DS.ok { s with ba := a2, bc := c2, bg := bg2, bs := s.bs ++ [⟨p, a1, n, c1, none, 0, 0⟩], Z := g1 :: s.Z } { M with bodies := M.bodies ++ [⟨b, ByteArray.mk #[]⟩] } := by
  have hps : psOf (s.bs ++ [⟨p, a1, n, c1, none, 0, 0⟩]) = psOf s.bs ++ [p] := by unfold psOf; rw [List.map_append]; rfl
  obtain ⟨a, c, he, hc, hr⟩ := h1.shape
  injection he with e1 e2 e3
  subst e1 e3
  have ha : (a1 = none ∧ n = 0 ∧ c1 = 0) ∨ ∃ k off, a1 = some ⟨k, off, none⟩ := by
    obtain ⟨_, ⟨he, _, hn⟩ | ⟨k, cap, junk, he, _⟩⟩ := h1
    · injection he with e1 e2 e3; exact .inl ⟨e1, e2, e3⟩
    · injection he with e1 e2 e3; exact .inr ⟨k, 0, e1⟩
  refine ⟨?_, h.nok, h.kok, h.cok, ?_, ?_, h.rows, fun d => ?_, ?_⟩
  · simp only [List.length_append, List.length_cons, List.length_nil, List.map_append, List.map_cons, List.map_nil]; exact h2
  · rw [hps]; exact h.names.mono p
  · rw [hps]; exact h.kept.mono p
  · rw [hps]
    refine (h.chs d).imp fun q l ⟨x, c, h1, h2, h3⟩ => ⟨x, c, inZ_app (K := [g1]) h1, h2, h3.mono p⟩
  · refine (h.bods.imp fun b B hb => hb.mono fun y o h => inZ_app (K := [g1]) h).app (.cons ⟨hb.symm, hc, ha, hr.mono fun y o h => ?_, rfl, Nat.le_refl _, .inl ⟨rfl, rfl, rfl⟩, .inl rfl⟩ .nil)
    show (y, o) ∈ (g1 :: s.Z).flatten
    rw [List.flatten_cons]; exact List.mem_append_left _ h
theorem chOf_snoc (l : List Ch) (c : Ch) (d : ByteArray) : chOf (l ++ [c]) d = if d == c.dir then chOf l d ++ [c.l] else chOf l d := by
  unfold chOf
  rw [List.filter_append, List.map_append, List.filter_cons]
  cases d == c.dir <;> simp
theorem ok_change {s : DS} {M : DM} (h : s.ok M) {dir : ByteArray} {l : List Nm} {q xc : Nat} {x dn : SM} {cx : Value} {rows1 : List RW} (hx : MapOk x xc) (hc : ChangeR (psOf s.bs) x l) (hd : dn.Perm x) (hR : RowsOk (mput s.cm s.cc dir cx) rows1) (hA : RowsAdd s.rows dir q rows1) :
    DS.ok { s with nm := (foldS (s.nm, s.nc) dn).1, nc := (foldS (s.nm, s.nc) dn).2, cm := mput s.cm s.cc dir cx, cc := if mhas s.cm dir then s.cc else s.cc + 1, rows := rows1, Z := [(q, .map (encM x) xc)] :: s.Z } (changeM M dir l) := by
  refine ⟨h.own, MapOk.fold (s := (s.nm, s.nc)) h.nok dn, h.kok, h.cok.put _ _, names_apply h.names h.nok hx hc hd, h.kept, hR, fun d => ?_, h.bods.imp fun b B hb => hb.mono fun y o h => inZ_app (K := [[(q, .map (encM x) xc)]]) h⟩
  show All2 _ (rowOf rows1 d) (chOf (M.changes ++ [⟨dir, l⟩]) d)
  rw [rowsAdd_of hA, chOf_snoc]
  have h0 := (h.chs d).imp fun q' l' hq => qr_mono (K := [[(q, .map (encM x) xc)]]) hq
  have key : All2 (QR ([[(q, .map (encM x) xc)]] ++ s.Z) (psOf s.bs)) (if (d == dir) = true then rowOf s.rows d ++ [q] else rowOf s.rows d) (if (d == dir) = true then chOf M.changes d ++ [l] else chOf M.changes d) := by
    split
    · refine h0.app (.cons ⟨x, xc, ?_, hx, hc⟩ .nil)
      show (q, _) ∈ List.flatten ([(q, _)] :: s.Z)
      rw [List.flatten_cons]; exact List.mem_append_left _ (List.mem_singleton.2 rfl)
    · exact h0
  exact key
theorem rows_le {s : DS} {M : DM} (h : s.ok M) (hs : Small M) : ∀ r ∈ s.rows, r.qs.length ≤ 1000000 := by
  intro r hr
  have hk : (s.rows.map (·.dir)).Nodup := by
    have h1 : (s.cm.map (fun e => (e.1, e.2.1))).map Prod.fst = (s.rows.map (fun r => (r.dir, r.v))).map Prod.fst := by rw [h.rows.1]
    rw [List.map_map, List.map_map] at h1
    have h2 := h.cok.nodup
    rw [show (s.cm.map Prod.fst) = s.cm.map (Prod.fst ∘ fun e => (e.1, e.2.1)) from rfl, h1] at h2
    exact h2
  have hrow : rowOf s.rows r.dir = r.qs := by
    have : ∀ rows : List RW, (rows.map (·.dir)).Nodup → r ∈ rows → rowOf rows r.dir = r.qs := by
      intro rows
      induction rows with
      | nil => intro _ h; cases h
      | cons y rows ih =>
        intro hn hm
        rw [List.map_cons, List.nodup_cons] at hn
        rw [rowOf]
        rcases List.mem_cons.1 hm with rfl | hm
        · rw [if_pos (baEq.2 rfl)]
        · rw [if_neg, ih hn.2 hm]
          intro he
          rw [baEq] at he
          exact hn.1 (List.mem_map.2 ⟨r, hm, he⟩)
    exact this s.rows hk hr
  have h1 := (h.chs r.dir).len
  rw [hrow] at h1
  have h2 : (chOf M.changes r.dir).length ≤ M.changes.length := by
    unfold chOf
    rw [List.length_map]; exact List.length_filter_le _ _
  have := hs.changes
  omega
end Go.Vf
namespace Go.Vf
open Go.Sw Go.RowKit Go.Proofs Go.Proofs.Ytbmieiffboenbaa
def Is (d : Nat) (M : DM) (v0 : Value) (H : List Grp) : Value → List Grp → Prop := fun v H' => v = v0 ∧ ∃ s : DS, s.ok M ∧ H' = s.G d M ++ H
def BytesV (W0 : World) (H : List Grp) (v : Value) (b : ByteArray) : Prop :=
  ∃ a cap S, v = .slice a b.size cap ∧ Sh a b.size cap ∧ Rd S a (u8s b.data.toList) ∧ ∀ y o, S y o → At W0 H y o
theorem lookN_lt {s : DS} {M : DM} (h : s.ok M) {p : ByteArray} {k : Int} (hl : lookN M.names p = some k) : 0 ≤ k ∧ k.toNat < s.bs.length := by
  have := h.names.lt _ (lookN_mem hl)
  rw [psOf_len] at this; exact this
theorem small_at {M : DM} (hm : Small M) (k : Int) : sizeAt M k ≤ 10000000 := by
  unfold sizeAt bodyAt
  rw [List.getD_eq_getElem?_getD]
  by_cases h : k.toNat < M.bodies.length
  · rw [List.getElem?_eq_getElem h]; exact (hm.size _ (List.getElem_mem h)).1
  · rw [List.getElem?_eq_none (by omega)]; exact Nat.zero_le _
theorem used_small {s : DS} {M : DM} (h : s.ok M) (hm : Small M) : usedM M ≤ 100000000000 :=
  used_le hm fun x hx => by have := (h.names.lt x hx).2; rw [psOf_len] at this; rw [← h.bods.len]; exact this
theorem mget_lk {s : DS} {M : DM} (h : s.ok M) {p : ByteArray} {k : Int} (hl : lookN M.names p = some k) : mget s.nm p = some (.pointer (some ⟨(s.bs.getD k.toNat default).p, 0, none⟩)) := by
  rw [h.names.look, hl, Option.map_some, ptrOf, ps_getD (lookN_lt h hl).2]; rfl
theorem mget_no {s : DS} {M : DM} (h : s.ok M) {p : ByteArray} (hl : lookN M.names p = none) : mget s.nm p = none := by rw [h.names.look, hl]; rfl
theorem was_no {M : DM} {p : ByteArray} (hl : lookN M.names p = none) : wasM M p = 0 := by unfold wasM; rw [hl]
theorem was_yes {s : DS} {M : DM} (h : s.ok M) (hn : (psOf s.bs).Nodup) {p : ByteArray} {k : Int} (hl : lookN M.names p = some k) : wasM M p = szV s.bs (.pointer (some ⟨(s.bs.getD k.toNat default).p, 0, none⟩)) := by
  unfold wasM
  rw [hl]
  have := sz_at h hn (lookN_lt h hl).2
  rw [ptrOf, ps_getD (lookN_lt h hl).2] at this
  exact this.symm
theorem get_at {s : DS} {M : DM} (h : s.ok M) (hn : (psOf s.bs).Nodup) {W0 : World} {H : List Grp} (hH : ∀ x ∈ bodyG s.bs, x ∈ H.flatten) (p : ByteArray) :
    mget s.nm p = none ∨ ∃ q a c kv, mget s.nm p = some (.pointer (some ⟨q, 0, none⟩)) ∧ At W0 H q (.cells #[.slice a (szV s.bs (.pointer (some ⟨q, 0, none⟩))) c, kv] 68 (0, 0)) := by
  cases hl : lookN M.names p with
  | none => exact .inl (mget_no h hl)
  | some k =>
    have hg := mget_lk h hl
    obtain ⟨c, he⟩ := mget_mem hg
    obtain ⟨q, a, c, kv, h1, h2⟩ := names_at h hn hH (W0 := W0) _ he
    injection h1 with h1; injection h1 with h1; injection h1 with h1
    refine .inr ⟨_, a, c, kv, hg, ?_⟩
    rw [← h1] at h2
    exact h2
theorem change1 {ps : List Nat} {q p : Nat} {path : ByteArray} {k : Nat} (hk : k = ps.length) (hq : q = p) : ChangeR (ps ++ [p]) [(path, .pointer (some ⟨q, 0, none⟩), 0)] [(path, (k : Int))] := by
  subst hk hq
  refine ⟨fun x => ?_, by simp, fun y hy _ => by rw [List.mem_singleton.1 hy]; simp⟩
  rw [mget_cons, lookN]
  cases x == path
  · rfl
  · simp [chV, ptrOf, ptrV]
theorem change0 {ps : List Nat} {path : ByteArray} : ChangeR ps [(path, .pointer none, 0)] [(path, -1)] := by
  refine ⟨fun x => ?_, by simp, fun y hy h0 => by rw [List.mem_singleton.1 hy] at h0; exact absurd (show (0 : Int) ≤ -1 from h0) (by decide)⟩
  rw [mget_cons, lookN]
  cases x == path
  · rfl
  · simp [chV]
theorem body_sub {bs : List BE} {H : List Grp} (h : bodyG bs ∈ H) : ∀ x ∈ bodyG bs, x ∈ H.flatten := fun _ hx => List.mem_flatten.2 ⟨_, h, hx⟩
def lowW (s : DS) (M : DM) (d : Nat) (H : List Grp) : List Grp :=
  [(d, dkO M s)] :: [(s.nb, .map (encM s.nm) s.nc)] :: [(s.cb, .map (encM s.cm) s.cc)] :: s.bg :: (rowsG s.rows ++ ([(s.kb, .map (encM s.km) s.kc)] :: bodyG s.bs :: (s.Z ++ H)))
theorem lowW_from {s : DS} {M : DM} {d : Nat} {H : List Grp} {W0 : World} {w : World} (hw : Sat W0 (lowW s M d H) w) : Sat W0 (s.G d M ++ H) w := sat_cnt hw fun _ x => by
  simp only [DS.G, lowW, List.cons_append, List.append_assoc]
  simp only [List.flatten_cons, List.flatten_append, List.count_append]
  omega
theorem lowW_to {s : DS} {M : DM} {d : Nat} {H : List Grp} {W0 : World} {w : World} (hw : Sat W0 (s.G d M ++ H) w) : Sat W0 (lowW s M d H) w := sat_cnt hw fun _ x => by
  simp only [DS.G, lowW, List.cons_append, List.append_assoc]
  simp only [List.flatten_cons, List.flatten_append, List.count_append]
  omega
theorem writeM_err {M : DM} {p b : ByteArray} (h : errM M (rightB p) ≠ 0) : writeM M p b = (errM M (rightB p), callM M (rightB p)) := by unfold writeM; rw [if_pos h]
theorem writeM_full {M : DM} {p b : ByteArray} (h : errM M (rightB p) = 0) (h1 : (usedM M : Int) - (wasM M p : Int) + (b.size : Int) > M.room) : writeM M p b = (61, callM M (rightB p)) := by
  unfold writeM; rw [if_neg (by simpa using h), if_pos h1]
theorem writeM_ok {M : DM} {p b : ByteArray} (h : errM M (rightB p) = 0) (h1 : ¬ (usedM M : Int) - (wasM M p : Int) + (b.size : Int) > M.room) : writeM M p b = (0, changeM { callM M (rightB p) with bodies := M.bodies ++ [⟨b, ByteArray.mk #[]⟩] } (dirB p) [(p, (M.bodies.length : Int))]) := by
  unfold writeM; rw [if_neg (by simpa using h), if_neg h1]
theorem cWrite {s : DS} {M : DM} (h : s.ok M) (hm : Small M) (d : Nat) (path b : ByteArray) (hpath : path.size ≤ 9223372036854775807) (hb : b.size ≤ 1000000000) (W0 : World) (H : List Grp) {bv : Value} (hbv : BytesV W0 H bv b) :
    Tri Try.prog 13 #[.pointer (some ⟨d, 0, none⟩), .string path, bv] W0 (s.G d M ++ H) (Is d (writeM M path b).2 (.int .i64 (writeM M path b).1) H) := by
  refine tri_sat fun ⟨w0, hw0⟩ => ?_
  have hn := ps_nodup hw0
  have hsum := sum_used h hn
  have hus := used_small h hm
  have hsub : ∀ x ∈ bodyG s.bs, x ∈ (rowsG s.rows ++ ([(s.kb, .map (encM s.km) s.kc)] :: bodyG s.bs :: (s.Z ++ H))).flatten := body_sub (by simp)
  have hw : ∀ v, mget s.nm path = some v → szV s.bs v ≤ 1000000000000 := fun v hv => by
    obtain ⟨c, he⟩ := mget_mem hv
    obtain ⟨k, _, hk, h2⟩ := names_ptr h he
    rw [show v = _ from h2, sz_at h hn hk]
    have := small_at hm k
    omega
  have hlen := h.bods.len
  have hmb := hm.bodies
  have hfail : ∀ (e : Int), (writeM M path b).1 = e → (writeM M path b).2 = callM M (rightB path) → ∀ (v : Value) (H1 : List Grp), v = .int .i64 e → H1 = lowW s (callM M (rightB path)) d H → ∃ H2, Is d (writeM M path b).2 (.int .i64 (writeM M path b).1) H v H2 ∧ ∀ w, Sat W0 H1 w → Sat W0 H2 w := by
    intro e e1 e2 v H1 hv hH
    refine ⟨_, ⟨by rw [e1]; exact hv, s, by rw [e2]; exact ok_call h _, rfl⟩, fun w hw => ?_⟩
    rw [hH] at hw
    rw [e2]
    exact lowW_from hw
  have hdone : ∀ (a1 a2 : Option Addr) (n c1 c2 p q : Nat) (g1 bg2 : Grp) (cx : Value) (rows1 : List RW), (writeM M path b).1 = 0 → (writeM M path b).2 = changeM { callM M (rightB path) with bodies := M.bodies ++ [⟨b, ByteArray.mk #[]⟩] } (dirB path) [(path, (M.bodies.length : Int))] →
      b.size = n → Own 5 1 (.slice a1 n c1) g1 n (u8s b.data.toList) → Own 66 1 (.slice a2 (s.bs.length + 1) c2) bg2 (s.bs.length + 1) (s.bs.map (fun b => Value.pointer (some ⟨b.p, 0, none⟩)) ++ [.pointer (some ⟨p, 0, none⟩)]) → RowsOk (mput s.cm s.cc (dirB path) cx) rows1 → RowsAdd s.rows (dirB path) q rows1 →
      ∀ (v : Value) (H1 : List Grp), v = .int .i64 0 → (∀ w, Sat W0 H1 w → Sat W0 ([(d, .cells #[.int .i64 M.room, .slice a2 (s.bs.length + 1) c2, .map (some s.nb), .map (some s.kb), .map (some s.cb), .bool (callS M.fails M.once M.calls (rightB path)).2.1, .bool M.once, .int .i64 (callS M.fails M.once M.calls (rightB path)).2.2] 64 (0, 0))] :: [(s.nb, .map (encM (foldS (s.nm, s.nc) [(path, .pointer (some ⟨p, 0, none⟩), 0)]).1) (foldS (s.nm, s.nc) [(path, .pointer (some ⟨p, 0, none⟩), 0)]).2)] :: [(s.cb, .map (encM (mput s.cm s.cc (dirB path) cx)) (if mhas s.cm (dirB path) then s.cc else s.cc + 1))] :: [(q, .map (encM [(path, .pointer (some ⟨p, 0, none⟩), 0)]) 1)] :: bg2 :: [(p, .cells #[.slice a1 n c1, .slice none 0 0] 68 (0, 0))] :: g1 :: (rowsG rows1 ++ ([(s.kb, .map (encM s.km) s.kc)] :: bodyG s.bs :: (s.Z ++ H)))) w) →
      ∃ H2, Is d (writeM M path b).2 (.int .i64 (writeM M path b).1) H v H2 ∧ ∀ w, Sat W0 H1 w → Sat W0 H2 w := by
    intro a1 a2 n c1 c2 p q g1 bg2 cx rows1 e1 e2 hbn ho1 ho2 hR hA v H1 hv hH
    have k1 := ok_body (ok_call h (rightB path)) hbn ho1 ho2
    have hc : ChangeR (psOf (s.bs ++ [⟨p, a1, n, c1, none, 0, 0⟩])) [(path, .pointer (some ⟨p, 0, none⟩), 0)] [(path, (M.bodies.length : Int))] := by
      rw [show psOf (s.bs ++ [⟨p, a1, n, c1, none, 0, 0⟩]) = psOf s.bs ++ [p] by unfold psOf; rw [List.map_append]; rfl]
      exact change1 (by rw [psOf_len, hlen]) rfl
    have k2 := ok_change (dir := dirB path) k1 (mapok1 _ _) hc (List.Perm.refl _) hR hA
    refine ⟨_, ⟨by rw [e1]; exact hv, _, by rw [e2]; exact k2, rfl⟩, fun w hw => ?_⟩
    rw [e2]
    refine sat_cnt (hH w hw) fun _ x => ?_
    simp only [DS.G, dkO, changeM, callM, bodyG, beO, List.map_append, List.map_cons, List.map_nil, List.length_append, List.length_cons, List.length_nil, Nat.zero_add, List.cons_append, List.append_assoc]
    simp only [List.flatten_cons, List.flatten_append, List.count_append]
    omega
  obtain ⟨a, cap, S, rfl, hsh, hrd, hS⟩ := hbv
  · refine Tri.heap (fun w hw => lowW_to hw) (Tri.post (vWriteAny d s.nb s.kb s.cb s.nc s.cc M.room M.calls _ s.bg _ s.bs.length M.fails M.once s.nm s.cm path (szV s.bs) hpath hm.calls h.nok (by rw [hsum]; omega) hw h.own (by omega) s.rows h.rows (rows_le h hm) a b.size cap S b.data.toList hsh hrd (Array.length_toList) hb W0 ([(s.kb, .map (encM s.km) s.kc)] :: bodyG s.bs :: (s.Z ++ H)) (get_at h hn hsub path) (fun y o hy => at_app2 (.cons (.cons (at_app2 (hS y o hy))))) (names_at h hn hsub)) fun v H1 hr => ?_)
    · rw [hsum] at hr
      rcases hr with ⟨hce, hv, hH⟩ | ⟨hce, hro, hv, hH⟩ | ⟨hce, hro, hv, p, q, a1, c1, a2, c2, cx, rows1, g1, bg2, ho1, ho2, hR, hA, hH⟩
      · exact hfail _ (by rw [writeM_err hce]; rfl) (by rw [writeM_err hce]) v H1 hv hH
      · have hro' : (usedM M : Int) - (wasM M path : Int) + (b.size : Int) > M.room := by
          cases hl : lookN M.names path with
          | none => rw [mget_no h hl] at hro; rw [was_no hl]; exact hro
          | some k => rw [mget_lk h hl] at hro; rw [was_yes h hn hl]; exact hro
        exact hfail 61 (by rw [writeM_full hce hro']) (by rw [writeM_full hce hro']) v H1 hv hH
      · have hro' : ¬ (usedM M : Int) - (wasM M path : Int) + (b.size : Int) > M.room := by
          cases hl : lookN M.names path with
          | none => rw [mget_no h hl] at hro; rw [was_no hl]; exact hro
          | some k => rw [mget_lk h hl] at hro; rw [was_yes h hn hl]; exact hro
        refine hdone a1 a2 b.size c1 c2 p q g1 bg2 cx rows1 (by rw [writeM_ok hce hro']) (by rw [writeM_ok hce hro']) rfl ho1 ho2 hR hA v H1 hv fun w hw => ?_
        rw [hH] at hw
        exact hw
end Go.Vf
namespace Go.Vf
open Go.Sw Go.RowKit Go.Proofs Go.Proofs.Ytbmieiffboenbaa
theorem tlEq {a b : ByteArray} : (a.toList == b.toList) = (a == b) := by
  cases h : a == b
  · rw [beq_eq_false_iff_ne]
    intro he
    rw [baNe] at h
    rw [Lib.toList_data, Lib.toList_data] at he
    refine h ?_
    cases a with | mk a => cases b with | mk b => cases a with | mk a => cases b with | mk b => simpa using he
  · rw [baEq] at h; subst h; exact beq_self_eq_true _
theorem post_call {s : DS} {M M' : DM} {d : Nat} {W0 : World} {H H1 : List Grp} {v v0 : Value} (h : s.ok M) (r : Bool) (hM : M' = callM M r) (hv : v = v0) (hH : ∀ w, Sat W0 H1 w → Sat W0 (s.G d (callM M r) ++ H) w) :
    ∃ H2, Is d M' v0 H v H2 ∧ ∀ w, Sat W0 H1 w → Sat W0 H2 w := ⟨_, ⟨hv, s, by rw [hM]; exact ok_call h r, rfl⟩, fun w hw => by rw [hM]; exact hH w hw⟩
def low3 (s : DS) (M : DM) (d : Nat) (H : List Grp) : List Grp :=
  [(d, dkO M s)] :: [(s.nb, .map (encM s.nm) s.nc)] :: [(s.cb, .map (encM s.cm) s.cc)] :: (rowsG s.rows ++ (s.bg :: [(s.kb, .map (encM s.km) s.kc)] :: bodyG s.bs :: (s.Z ++ H)))
theorem low3_from {s : DS} {M : DM} {d : Nat} {H : List Grp} {W0 : World} {w : World} (hw : Sat W0 (low3 s M d H) w) : Sat W0 (s.G d M ++ H) w := sat_cnt hw fun _ x => by
  simp only [DS.G, low3, List.cons_append, List.append_assoc]
  simp only [List.flatten_cons, List.flatten_append, List.count_append]
  omega
theorem low3_to {s : DS} {M : DM} {d : Nat} {H : List Grp} {W0 : World} {w : World} (hw : Sat W0 (s.G d M ++ H) w) : Sat W0 (low3 s M d H) w := sat_cnt hw fun _ x => by
  simp only [DS.G, low3, List.cons_append, List.append_assoc]
  simp only [List.flatten_cons, List.flatten_append, List.count_append]
  omega
theorem removeM_err {M : DM} {p : ByteArray} (h : errM M (rightB p) ≠ 0) : removeM M p = (errM M (rightB p), callM M (rightB p)) := by unfold removeM; rw [if_pos h]
theorem removeM_no {M : DM} {p : ByteArray} (h : errM M (rightB p) = 0) (hl : lookN M.names p = none) : removeM M p = (60, callM M (rightB p)) := by unfold removeM; rw [if_neg (by simpa using h), hl]
theorem removeM_ok {M : DM} {p : ByteArray} {k : Int} (h : errM M (rightB p) = 0) (hl : lookN M.names p = some k) : removeM M p = (0, changeM (callM M (rightB p)) (dirB p) [(p, -1)]) := by unfold removeM; rw [if_neg (by simpa using h), hl]
theorem cRemove {s : DS} {M : DM} (h : s.ok M) (hm : Small M) (d : Nat) (path : ByteArray) (hpath : path.size ≤ 9223372036854775807) (W0 : World) (H : List Grp) :
    Tri Try.prog 43 #[.pointer (some ⟨d, 0, none⟩), .string path] W0 (s.G d M ++ H) (Is d (removeM M path).2 (.int .i64 (removeM M path).1) H) := by
  cases hl : lookN M.names path with
  | none =>
    refine Tri.heap (fun w hw => low3_to hw) (Tri.post (vRemoveNo d s.nb s.kb s.cb s.nc M.room M.calls _ M.fails M.once s.nm s.cm s.cc h.nok path hpath hm.calls (mget_no h hl) W0 _) fun v H1 hr => ?_)
    rcases hr with ⟨hce, hv, hH⟩ | ⟨hce, hv, hH⟩
    · exact post_call h (rightB path) (by rw [removeM_err hce]) (by rw [removeM_err hce]; exact hv) fun w hw => by rw [hH] at hw; exact low3_from hw
    · exact post_call h (rightB path) (by rw [removeM_no hce hl]) (by rw [removeM_no hce hl]; exact hv) fun w hw => by rw [hH] at hw; exact low3_from hw
  | some k =>
    refine Tri.heap (fun w hw => low3_to hw) (Tri.post (vRemove d s.nb s.kb s.cb s.nc s.cc M.room M.calls _ M.fails M.once s.nm s.cm path hpath hm.calls h.nok s.rows h.rows (rows_le h hm) _ (mget_lk h hl) W0 _) fun v H1 hr => ?_)
    rcases hr with ⟨hce, hv, hH⟩ | ⟨hce, hv, q, cx, rows1, hR, hA, hH⟩
    · exact post_call h (rightB path) (by rw [removeM_err hce]) (by rw [removeM_err hce]; exact hv) fun w hw => by rw [hH] at hw; exact low3_from hw
    · have k2 := ok_change (dir := dirB path) (ok_call h (rightB path)) (mapok1 path _) (change0 (path := path)) (List.Perm.refl _) hR hA
      refine ⟨_, ⟨by rw [removeM_ok hce hl]; exact hv, _, by rw [removeM_ok hce hl]; exact k2, rfl⟩, fun w hw => ?_⟩
      rw [hH] at hw
      rw [removeM_ok hce hl]
      refine sat_cnt hw fun _ x => ?_
      simp only [DS.G, dkO, changeM, callM, List.cons_append, List.append_assoc]
      simp only [List.flatten_cons, List.flatten_append, List.count_append]
      omega
theorem renameM_err {M : DM} {p q : ByteArray} (h : errM M (renR p q) ≠ 0) : renameM M p q = (errM M (renR p q), callM M (renR p q)) := by unfold renameM; rw [if_pos h]
theorem renameM_no {M : DM} {p q : ByteArray} (h : errM M (renR p q) = 0) (hl : lookN M.names p = none) : renameM M p q = (60, callM M (renR p q)) := by unfold renameM; rw [if_neg (by simpa using h), hl]
theorem renameM_same {M : DM} {p q : ByteArray} {k : Int} (h : errM M (renR p q) = 0) (hl : lookN M.names p = some k) (he : (p == q) = true) : renameM M p q = (0, callM M (renR p q)) := by unfold renameM; rw [if_neg (by simpa using h), hl]; simp only; rw [if_pos he]
theorem renameM_ok {M : DM} {p q : ByteArray} {k : Int} (h : errM M (renR p q) = 0) (hl : lookN M.names p = some k) (he : (p == q) = false) : renameM M p q = (0, changeM (callM M (renR p q)) (dirB q) [(p, -1), (q, k)]) := by unfold renameM; rw [if_neg (by simpa using h), hl]; simp only; rw [if_neg (by rw [he]; decide)]
theorem ren_change {ps : List Nat} {path to : ByteArray} {p : Nat} {k : Int} (hne : (path == to) = false) {xm : SM} {xc : Nat} (hc : RenC path to p xm xc) (hk : 0 ≤ k) (hk2 : k.toNat < ps.length) (hp : ptrOf ps k = .pointer (some ⟨p, 0, none⟩)) :
    MapOk xm xc ∧ ChangeR ps xm [(path, -1), (to, k)] := by
  have hne' : (to == path) = false := by rw [baNe] at hne ⊢; exact fun e => hne e.symm
  have hkeys : (([(path, -1), (to, k)] : List Nm).map Prod.fst).Nodup := by
    simp only [List.map_cons, List.map_nil, List.nodup_cons, List.mem_singleton, List.not_mem_nil, not_false_eq_true, List.nodup_nil, and_true]
    rw [baNe] at hne; exact hne
  have hlt : ∀ y ∈ ([(path, -1), (to, k)] : List Nm), 0 ≤ y.2 → y.2.toNat < ps.length := by
    intro y hy h0
    rcases List.mem_cons.1 hy with rfl | hy
    · exact absurd (show (0 : Int) ≤ -1 from h0) (by decide)
    · rw [List.mem_singleton.1 hy]; exact hk2
  have hchk : chV ps k = .pointer (some ⟨p, 0, none⟩) := by unfold chV; rw [if_pos hk]; exact hp
  rcases hc with ⟨rfl, rfl⟩ | ⟨rfl, rfl⟩
  · refine ⟨(mapok1 _ _).put _ _, fun x => ?_, hkeys, hlt⟩
    rw [mget_put, mget_cons, lookN, lookN]
    cases h1 : x == path
    · cases h2 : x == to
      · rfl
      · simp [hchk]
    · simp [chV]
  · refine ⟨(mapok1 _ _).put _ _, fun x => ?_, hkeys, hlt⟩
    rw [mget_put, mget_cons, lookN, lookN]
    cases h1 : x == path
    · cases h2 : x == to
      · rfl
      · simp [hchk]
    · rw [baEq] at h1; subst h1
      simp [hne, chV]
theorem cRename {s : DS} {M : DM} (h : s.ok M) (hm : Small M) (d : Nat) (path to : ByteArray) (hpath : path.size ≤ 9223372036854775807) (hto : to.size ≤ 9223372036854775807) (W0 : World) (H : List Grp) :
    Tri Try.prog 17 #[.pointer (some ⟨d, 0, none⟩), .string path, .string to] W0 (s.G d M ++ H) (Is d (renameM M path to).2 (.int .i64 (renameM M path to).1) H) := by
  cases hl : lookN M.names path with
  | none =>
    refine Tri.heap (fun w hw => low3_to hw) (Tri.post (vRenameNo d s.nb s.kb s.cb s.nc s.cc M.room M.calls _ M.fails M.once s.nm s.cm path to hpath hto hm.calls h.nok s.rows h.rows (rows_le h hm) (mget_no h hl) W0 _) fun v H1 hr => ?_)
    rcases hr with ⟨hce, hv, hH⟩ | ⟨hce, hv, hH⟩
    · exact post_call h (renR path to) (by rw [renameM_err hce]) (by rw [renameM_err hce]; exact hv) fun w hw => by rw [hH] at hw; exact low3_from hw
    · exact post_call h (renR path to) (by rw [renameM_no hce hl]) (by rw [renameM_no hce hl]; exact hv) fun w hw => by rw [hH] at hw; exact low3_from hw
  | some k =>
    refine Tri.heap (fun w hw => low3_to hw) (Tri.post (vRename d s.nb s.kb s.cb s.nc s.cc M.room M.calls _ M.fails M.once s.nm s.cm path to hpath hto hm.calls h.nok s.rows h.rows (rows_le h hm) _ (mget_lk h hl) W0 _) fun v H1 hr => ?_)
    rcases hr with ⟨hce, hv, hH⟩ | ⟨hce, ⟨he, hv, hH⟩ | ⟨he, hv, dn, xm, xc, q, cx, rows1, hC, hd, hR, hA, hH⟩⟩
    · exact post_call h (renR path to) (by rw [renameM_err hce]) (by rw [renameM_err hce]; exact hv) fun w hw => by rw [hH] at hw; exact low3_from hw
    · have he' : (path == to) = true := by rw [tlEq] at he; simpa using he
      exact post_call h (renR path to) (by rw [renameM_same hce hl he']) (by rw [renameM_same hce hl he']; exact hv) fun w hw => by rw [hH] at hw; exact low3_from hw
    · have he' : (path == to) = false := by rw [tlEq] at he; simpa using he
      have hlt := h.names.lt _ (lookN_mem hl)
      obtain ⟨hx, hc⟩ := ren_change (ps := psOf s.bs) he' hC hlt.1 hlt.2 (by rw [ptrOf, ps_getD (lookN_lt h hl).2]; rfl)
      have k2 := ok_change (dir := dirB to) (ok_call h (renR path to)) hx hc hd hR hA
      refine ⟨_, ⟨by rw [renameM_ok hce hl he']; exact hv, _, by rw [renameM_ok hce hl he']; exact k2, rfl⟩, fun w hw => ?_⟩
      rw [hH] at hw
      rw [renameM_ok hce hl he']
      refine sat_cnt hw fun _ x => ?_
      simp only [DS.G, dkO, changeM, callM, renR, List.cons_append, List.append_assoc]
      simp only [List.flatten_cons, List.flatten_append, List.count_append]
      omega
theorem cUsed {s : DS} {M : DM} (h : s.ok M) (hm : Small M) (d : Nat) (W0 : World) (H : List Grp) :
    Tri Try.prog 26 #[.pointer (some ⟨d, 0, none⟩)] W0 (s.G d M ++ H) (fun v H' => v = .int .i64 (usedM M : Int) ∧ H' = s.G d M ++ H) := by
  refine tri_sat fun ⟨w0, hw0⟩ => ?_
  have hn := ps_nodup hw0
  have hus := used_small h hm
  have := vUsed d s.nb s.kb s.cb s.nc M.room M.calls (.slice s.ba s.bs.length s.bc) M.fails M.once s.nm (szV s.bs) h.nok (by rw [sum_used h hn]; omega) W0 ([(s.kb, .map (encM s.km) s.kc)] :: [(s.cb, .map (encM s.cm) s.cc)] :: s.bg :: bodyG s.bs :: ((rowsG s.rows ++ s.Z) ++ H)) (names_at h hn (body_sub (by simp)))
  rw [sum_used h hn] at this
  exact this
theorem cFail {s : DS} {M : DM} (h : s.ok M) (d : Nat) (n : Int) (o : Bool) (W0 : World) (H : List Grp) :
    Tri Try.prog 16 #[.pointer (some ⟨d, 0, none⟩), .int .i64 n, .bool o] W0 (s.G d M ++ H) (Is d (failM M n o) (.tuple #[]) H) := by
  refine (vFail d s.nb s.kb s.cb M.room M.calls (.slice s.ba s.bs.length s.bc) M.fails M.once n o W0 _).mono fun v H' ⟨hv, hH⟩ => ⟨hv, s, ⟨h.own, h.nok, h.kok, h.cok, h.names, h.kept, h.rows, h.chs, h.bods⟩, hH⟩
theorem cNew (room : Int) (W0 : World) (H : List Grp) : Tri Try.prog 12 #[.int .i64 room] W0 H (fun v H' => ∃ d, v = .pointer (some ⟨d, 0, none⟩) ∧ ∃ s : DS, s.ok (newM room) ∧ H' = s.G d (newM room) ++ H) := by
  refine Tri.post (vNew room W0 H) fun v H1 ⟨d, nb, kb, cb, hv, hH⟩ => ?_
  have h0 : MapOk [] 0 := ⟨List.Pairwise.nil, List.nodup_nil, fun _ h => absurd h List.not_mem_nil⟩
  have hN : NamesR [] [] [] := ⟨fun _ => rfl, List.nodup_nil, fun _ h => absurd h List.not_mem_nil⟩
  refine ⟨_, ⟨d, hv, ⟨nb, kb, cb, [], [], [], 0, 0, 0, none, 0, [], [], [], []⟩, ⟨Own.nil, h0, h0, h0, hN, hN, ⟨rfl, fun _ h => absurd h List.not_mem_nil⟩, fun _ => .nil, .nil⟩, rfl⟩, fun w hw => ?_⟩
  rw [hH] at hw
  refine sat_cnt hw fun _ x => ?_
  simp only [DS.G, dkO, newM, bodyG, rowsG, List.map_nil, List.length_nil, List.nil_append, List.cons_append]
  simp only [List.flatten_cons, List.count_append, List.count_nil]
  omega
end Go.Vf
namespace Go.Vf
open Go.Sw Go.RowKit Go.Proofs Go.Proofs.Ytbmieiffboenbaa
theorem sortL_pw (l : List (List UInt8)) : (l.mergeSort fun x y => decide (x ≤ y)).Pairwise fun a b => a ≤ b := by
  have := List.pairwise_mergeSort (le := fun x y : List UInt8 => decide (x ≤ y)) (fun a b c h1 h2 => by
    rw [decide_eq_true_eq] at h1 h2 ⊢; exact List.le_trans h1 h2) (fun a b => by
    rw [Bool.or_eq_true, decide_eq_true_eq, decide_eq_true_eq]; exact List.le_total a b) l
  exact this.imp fun h => by rwa [decide_eq_true_eq] at h
theorem sortB_congr {a b : List ByteArray} (h : a.Perm b) : sortB a = sortB b := by
  unfold sortB
  have hp : ((a.map fun s => s.data.toList).mergeSort fun x y => decide (x ≤ y)).Perm ((b.map fun s => s.data.toList).mergeSort fun x y => decide (x ≤ y)) :=
    (List.mergeSort_perm _ _).trans ((h.map _).trans (List.mergeSort_perm _ _).symm)
  rw [hp.eq_of_pairwise (le := fun a b => a ≤ b) (fun a b _ _ h1 h2 => List.le_antisymm h1 h2) (sortL_pw _) (sortL_pw _)]
theorem split_at {l : List BE} : ∀ {k : Nat}, k < l.length → ∃ A C, l = A ++ l.getD k default :: C ∧ ∀ b, l.set k b = A ++ b :: C := by
  induction l with
  | nil => intro k h; simp at h
  | cons x l ih =>
    intro k h
    cases k with
    | zero => exact ⟨[], l, rfl, fun _ => rfl⟩
    | succ k =>
      obtain ⟨A, C, h1, h2⟩ := ih (k := k) (by simpa using h)
      refine ⟨x :: A, C, ?_, fun b => ?_⟩
      · rw [List.getD_cons_succ, List.cons_append, ← h1]
      · rw [List.set_cons_succ, h2]; rfl
theorem bodyG_app (A C : List BE) (b : BE) : bodyG (A ++ b :: C) = bodyG A ++ ([beO b] ++ bodyG C) := by unfold bodyG; simp
theorem psOf_set {bs : List BE} {k : Nat} {b : BE} (hk : k < bs.length) (hb : b.p = (bs.getD k default).p) : psOf (bs.set k b) = psOf bs := by
  obtain ⟨A, C, h1, h2⟩ := split_at hk
  rw [h2]
  have h3 := congrArg psOf h1
  rw [h3]
  unfold psOf
  rw [List.map_append, List.map_append, List.map_cons, List.map_cons, hb]
theorem ok_set {s : DS} {M : DM} (h : s.ok M) {k : Int} {b : BE} {B : Body} (K : List Grp) (hk : k.toNat < s.bs.length) (hb : BodyR (inZ (K ++ s.Z)) b B) (hp : b.p = (s.bs.getD k.toNat default).p) :
    DS.ok { s with bs := s.bs.set k.toNat b, Z := K ++ s.Z } (setBody M k B) := by
  have hps := psOf_set hk hp
  refine ⟨?_, h.nok, h.kok, h.cok, ?_, ?_, h.rows, fun d => ?_, (h.bods.imp fun b B hb => hb.mono fun y o h => inZ_app h).set hb _⟩
  · have e : (s.bs.set k.toNat b).map (fun b => Value.pointer (some ⟨b.p, 0, none⟩)) = s.bs.map fun b => Value.pointer (some ⟨b.p, 0, none⟩) := by
      have e1 : ∀ l : List BE, l.map (fun b => Value.pointer (some ⟨b.p, 0, none⟩)) = (psOf l).map fun p => Value.pointer (some ⟨p, 0, none⟩) := fun l => by unfold psOf; rw [List.map_map]; rfl
      rw [e1, e1, hps]
    simp only [List.length_set]
    rw [e]; exact h.own
  · rw [hps]; exact h.names
  · rw [hps]; exact h.kept
  · rw [hps]; exact (h.chs d).imp fun q l hq => qr_mono hq
def lowP (s : DS) (M : DM) (d : Nat) (H : List Grp) (A C : List BE) (b : BE) : List Grp :=
  [(d, dkO M s)] :: [(s.nb, .map (encM s.nm) s.nc)] :: [beO b] :: (bodyG A :: bodyG C :: [(s.kb, .map (encM s.km) s.kc)] :: [(s.cb, .map (encM s.cm) s.cc)] :: s.bg :: (rowsG s.rows ++ (s.Z ++ H)))
theorem lowP_to {s : DS} {M : DM} {d : Nat} {H : List Grp} {A C : List BE} {b : BE} (hb : s.bs = A ++ b :: C) {W0 : World} {w : World} (hw : Sat W0 (s.G d M ++ H) w) : Sat W0 (lowP s M d H A C b) w := sat_cnt hw fun _ x => by
  simp only [DS.G, lowP, List.cons_append, List.append_assoc]
  simp only [List.flatten_cons, List.flatten_append, List.count_append, hb, bodyG_app]
  omega
theorem lowP_from {s : DS} {M : DM} {d : Nat} {H : List Grp} {A C : List BE} {b : BE} (hb : s.bs = A ++ b :: C) {W0 : World} {w : World} (hw : Sat W0 (lowP s M d H A C b) w) : Sat W0 (s.G d M ++ H) w := sat_cnt hw fun _ x => by
  simp only [DS.G, lowP, List.cons_append, List.append_assoc]
  simp only [List.flatten_cons, List.flatten_append, List.count_append, hb, bodyG_app]
  omega
theorem syncM_err {M : DM} {p : ByteArray} (h : errM M (rightB p) ≠ 0) : syncM M p = (errM M (rightB p), callM M (rightB p)) := by unfold syncM; rw [if_pos h]
theorem syncM_no {M : DM} {p : ByteArray} (h : errM M (rightB p) = 0) (hl : lookN M.names p = none) : syncM M p = (60, callM M (rightB p)) := by unfold syncM; rw [if_neg (by simpa using h), hl]
theorem syncM_ok {M : DM} {p : ByteArray} {k : Int} (h : errM M (rightB p) = 0) (hl : lookN M.names p = some k) : syncM M p = (0, setBody (callM M (rightB p)) k ⟨(bodyAt M k).now, (bodyAt M k).now⟩) := by unfold syncM; rw [if_neg (by simpa using h), hl]
theorem cSync {s : DS} {M : DM} (h : s.ok M) (hm : Small M) (d : Nat) (path : ByteArray) (hpath : path.size ≤ 9223372036854775807) (W0 : World) (H : List Grp) :
    Tri Try.prog 14 #[.pointer (some ⟨d, 0, none⟩), .string path] W0 (s.G d M ++ H) (Is d (syncM M path).2 (.int .i64 (syncM M path).1) H) := by
  cases hl : lookN M.names path with
  | none =>
    refine Tri.post (vSyncNo d s.nb s.kb s.cb s.nc M.room M.calls (.slice s.ba s.bs.length s.bc) M.fails M.once s.nm path hpath hm.calls (mget_no h hl) W0 _) fun v H1 hr => ?_
    rcases hr with ⟨hce, hv, hH⟩ | ⟨hce, hv, hH⟩
    · exact post_call h (rightB path) (by rw [syncM_err hce]) (by rw [syncM_err hce]; exact hv) fun w hw => by rw [hH] at hw; exact hw
    · exact post_call h (rightB path) (by rw [syncM_no hce hl]) (by rw [syncM_no hce hl]; exact hv) fun w hw => by rw [hH] at hw; exact hw
  | some k =>
    have hk := (lookN_lt h hl).2
    obtain ⟨A, C, hs, hset⟩ := split_at hk
    have hB := h.bods.get default default _ hk
    refine Tri.heap (fun w hw => lowP_to hs hw) (Tri.post (vSyncYes d s.nb s.kb s.cb s.nc M.room M.calls (.slice s.ba s.bs.length s.bc) M.fails M.once s.nm path hpath hm.calls (s.bs.getD k.toNat default).p _ _ _ _ _ _ (mget_lk h hl) W0 _) fun v H1 hr => ?_)
    rcases hr with ⟨hce, hv, hH⟩ | ⟨hce, hv, hH⟩
    · exact post_call h (rightB path) (by rw [syncM_err hce]) (by rw [syncM_err hce]; exact hv) fun w hw => by rw [hH] at hw; exact lowP_from hs hw
    · have k2 := ok_set (k := k) (b := ⟨(s.bs.getD k.toNat default).p, (s.bs.getD k.toNat default).an, (s.bs.getD k.toNat default).n, (s.bs.getD k.toNat default).cn, (s.bs.getD k.toNat default).an, (s.bs.getD k.toNat default).n, (s.bs.getD k.toNat default).cn⟩) (B := ⟨(bodyAt M k).now, (bodyAt M k).now⟩) (ok_call h (rightB path)) [] hk ⟨hB.n, hB.cn, hB.an, hB.now, hB.n, hB.cn, hB.an, hB.now⟩ rfl
      refine ⟨_, ⟨by rw [syncM_ok hce hl]; exact hv, _, by rw [syncM_ok hce hl]; exact k2, rfl⟩, fun w hw => ?_⟩
      rw [hH] at hw
      rw [syncM_ok hce hl]
      refine sat_cnt hw fun _ x => ?_
      simp only [DS.G, dkO, setBody, callM, List.cons_append, List.append_assoc, List.length_set]
      simp only [List.flatten_cons, List.flatten_append, List.count_append, List.nil_append, hset, bodyG_app]
      simp only [beO]
      omega
theorem appendM_err {M : DM} {p b : ByteArray} (h : errM M (rightB p) ≠ 0) : appendM M p b = (errM M (rightB p), callM M (rightB p)) := by unfold appendM; rw [if_pos h]
theorem appendM_no {M : DM} {p b : ByteArray} (h : errM M (rightB p) = 0) (hl : lookN M.names p = none) : appendM M p b = (60, callM M (rightB p)) := by unfold appendM; rw [if_neg (by simpa using h), hl]
theorem appendM_full {M : DM} {p b : ByteArray} {k : Int} (h : errM M (rightB p) = 0) (hl : lookN M.names p = some k) (hr : (usedM M : Int) + (b.size : Int) > M.room) : appendM M p b = (61, callM M (rightB p)) := by unfold appendM; rw [if_neg (by simpa using h), hl]; simp only; rw [if_pos hr]
theorem appendM_ok {M : DM} {p b : ByteArray} {k : Int} (h : errM M (rightB p) = 0) (hl : lookN M.names p = some k) (hr : ¬ (usedM M : Int) + (b.size : Int) > M.room) : appendM M p b = (0, setBody (callM M (rightB p)) k ⟨(bodyAt M k).now ++ b, (bodyAt M k).kept⟩) := by unfold appendM; rw [if_neg (by simpa using h), hl]; simp only; rw [if_neg hr]
theorem u8s_app (a b : ByteArray) : u8s (a ++ b).data.toList = u8s a.data.toList ++ u8s b.data.toList := by
  unfold u8s
  rw [ByteArray.data_append, Array.toList_append, List.map_append]
theorem cAppend {s : DS} {M : DM} (h : s.ok M) (hm : Small M) (d : Nat) (path b : ByteArray) (hpath : path.size ≤ 9223372036854775807) (hb : b.size ≤ 1000000000) (W0 : World) (H : List Grp) {bv : Value} (hbv : BytesV W0 H bv b) :
    Tri Try.prog 22 #[.pointer (some ⟨d, 0, none⟩), .string path, bv] W0 (s.G d M ++ H) (Is d (appendM M path b).2 (.int .i64 (appendM M path b).1) H) := by
  refine tri_sat fun ⟨w0, hw0⟩ => ?_
  have hn := ps_nodup hw0
  have hsum := sum_used h hn
  have hus := used_small h hm
  cases hl : lookN M.names path with
  | none =>
    obtain ⟨a, cap, S, rfl, hsh, hrd, hS⟩ := hbv
    · refine Tri.post (vAppendNoAny d s.nb s.kb s.cb s.nc M.room M.calls (.slice s.ba s.bs.length s.bc) M.fails M.once s.nm path hpath hm.calls a b.size cap (mget_no h hl) W0 _) fun v H1 hr => ?_
      rcases hr with ⟨hce, hv, hH⟩ | ⟨hce, hv, hH⟩
      · exact post_call h (rightB path) (by rw [appendM_err hce]) (by rw [appendM_err hce]; exact hv) fun w hw => by rw [hH] at hw; exact hw
      · exact post_call h (rightB path) (by rw [appendM_no hce hl]) (by rw [appendM_no hce hl]; exact hv) fun w hw => by rw [hH] at hw; exact hw
  | some k =>
    have hk := (lookN_lt h hl).2
    obtain ⟨A, C, hs, hset⟩ := split_at hk
    have hB := h.bods.get default default _ hk
    have hsz : (s.bs.getD k.toNat default).n ≤ 1000000000 := by rw [hB.n]; have := small_at hm k; unfold sizeAt bodyAt at this; omega
    have hat := names_at h hn (W0 := W0) (H := [beO (s.bs.getD k.toNat default)] :: (bodyG A :: bodyG C :: [(s.kb, .map (encM s.km) s.kc)] :: [(s.cb, .map (encM s.cm) s.cc)] :: s.bg :: (rowsG s.rows ++ (s.Z ++ H)))) (fun x hx => by
      rw [hs, bodyG_app] at hx
      simp only [List.flatten_cons, List.mem_append] at hx ⊢
      rcases hx with hx | hx | hx
      · exact .inr (.inl hx)
      · exact .inl hx
      · exact .inr (.inr (.inl hx)))
    have hz : ∀ y o, inZ s.Z y o → At W0 (bodyG A :: bodyG C :: [(s.kb, .map (encM s.km) s.kc)] :: [(s.cb, .map (encM s.cm) s.cc)] :: s.bg :: (rowsG s.rows ++ (s.Z ++ H))) y o := fun y o hy => .cons (.cons (.cons (.cons (.cons (at_app2 (.inr (by rw [List.flatten_append]; exact List.mem_append_left _ hy)))))))
    have hdone : ∀ (n' : Nat) (a' : Option Addr) (cap' : Nat) (g : Grp), n' = ((bodyAt M k).now ++ b).size → n' ≤ cap' → ((a' = none ∧ n' = 0 ∧ cap' = 0) ∨ ∃ b off, a' = some ⟨b, off, none⟩) → Rd (inZ ([g] ++ s.Z)) a' (u8s ((bodyAt M k).now ++ b).data.toList) → appendM M path b = (0, setBody (callM M (rightB path)) k ⟨(bodyAt M k).now ++ b, (bodyAt M k).kept⟩) →
        ∀ (v : Value) (H1 : List Grp), v = .int .i64 0 → (∀ w, Sat W0 H1 w → Sat W0 ([(d, .cells #[.int .i64 M.room, .slice s.ba s.bs.length s.bc, .map (some s.nb), .map (some s.kb), .map (some s.cb), .bool (callS M.fails M.once M.calls (rightB path)).2.1, .bool M.once, .int .i64 (callS M.fails M.once M.calls (rightB path)).2.2] 64 (0, 0))] :: [(s.nb, .map (encM s.nm) s.nc)] :: [((s.bs.getD k.toNat default).p, .cells #[.slice a' n' cap', .slice (s.bs.getD k.toNat default).ak (s.bs.getD k.toNat default).m (s.bs.getD k.toNat default).ck] 68 (0, 0))] :: g :: (bodyG A :: bodyG C :: [(s.kb, .map (encM s.km) s.kc)] :: [(s.cb, .map (encM s.cm) s.cc)] :: s.bg :: (rowsG s.rows ++ (s.Z ++ H)))) w) →
        ∃ H2, Is d (appendM M path b).2 (.int .i64 (appendM M path b).1) H v H2 ∧ ∀ w, Sat W0 H1 w → Sat W0 H2 w := by
      intro n' a' cap' g hn' hc' ha' hrd' he v H1 hv hH
      have k2 := ok_set (k := k) (b := ⟨(s.bs.getD k.toNat default).p, a', n', cap', (s.bs.getD k.toNat default).ak, (s.bs.getD k.toNat default).m, (s.bs.getD k.toNat default).ck⟩) (B := ⟨(bodyAt M k).now ++ b, (bodyAt M k).kept⟩) (ok_call h (rightB path)) [g] hk ⟨hn', hc', ha', hrd', hB.m, hB.cm, hB.am, hB.kept.mono fun y o h => inZ_app h⟩ rfl
      refine ⟨_, ⟨by rw [he]; exact hv, _, by rw [he]; exact k2, rfl⟩, fun w hw => ?_⟩
      rw [he]
      refine sat_cnt (hH w hw) fun _ x => ?_
      simp only [DS.G, dkO, setBody, callM, List.cons_append, List.append_assoc, List.length_set]
      simp only [List.flatten_cons, List.flatten_append, List.count_append, List.nil_append, hset, bodyG_app]
      simp only [beO]
      omega
    have hZg : ∀ (g : Grp) (S : Nat → Obj → Prop) (a' : Option Addr) (cs : List Value), (∀ y o, S y o → inZ s.Z y o) → Rd (fun y o => S y o ∨ inG g y o) a' cs → Rd (inZ ([g] ++ s.Z)) a' cs := fun g S a' cs hS hr => hr.mono fun y o h => by
      rcases h with h | h
      · exact inZ_app (hS y o h)
      · show (y, o) ∈ List.flatten (g :: s.Z)
        rw [List.flatten_cons]; exact List.mem_append_left _ h
    obtain ⟨aa, cap, S, rfl, hsh, hrd, hS⟩ := hbv
    have hao : aa = none → b.size = 0 := fun he => by
      rcases hsh with h | ⟨ad, h, _⟩ | ⟨q, off, h⟩
      · exact h.2.1
      · rw [he] at h; cases h
      · rw [he] at h; cases h
    · refine Tri.heap (fun w hw => lowP_to hs hw) (Tri.post (vAppendAny d s.nb s.kb s.cb s.nc M.room M.calls (.slice s.ba s.bs.length s.bc) M.fails M.once s.nm path hpath hm.calls aa b.size cap (szV s.bs) h.nok (by rw [hsum]; omega) (s.bs.getD k.toNat default).p _ _ _ _ _ _ (mget_lk h hl) (inZ s.Z) _ hB.now (by rw [hB.n]; exact Array.length_toList) hsz hB.cn hB.an S b.data.toList hao hrd Array.length_toList hb W0 _ hz (fun y o hy => .cons (.cons (.cons (.cons (.cons (at_app2 (at_app2 (hS y o hy)))))))) hat) fun v H1 hr => ?_)
      rw [hsum] at hr
      rcases hr with ⟨hce, hv, hH⟩ | ⟨hce, hro, hv, hH⟩ | ⟨hce, hro, hv, a', cap', g, hc', ha', hrd', hH⟩
      · exact post_call h (rightB path) (by rw [appendM_err hce]) (by rw [appendM_err hce]; exact hv) fun w hw => by rw [hH] at hw; exact lowP_from hs hw
      · exact post_call h (rightB path) (by rw [appendM_full hce hl hro]) (by rw [appendM_full hce hl hro]; exact hv) fun w hw => by rw [hH] at hw; exact lowP_from hs hw
      · refine hdone _ a' cap' g ?_ hc' ha' ?_ (appendM_ok hce hl hro) v H1 hv fun w hw => by rw [hH] at hw; exact hw
        · rw [ByteArray.size_append, hB.n]; rfl
        · rw [u8s_app]; exact hZg g _ _ _ (fun _ _ h => h) hrd'
end Go.Vf
namespace Go.Vf
open Go.Sw Go.RowKit Go.Proofs Go.Proofs.Ytbmieiffboenbaa
theorem readM_no {M : DM} {p : ByteArray} (hl : lookN M.names p = none) : readM M p = (ByteArray.mk #[], 60) := by unfold readM; rw [hl]
theorem readM_ok {M : DM} {p : ByteArray} {k : Int} (hl : lookN M.names p = some k) : readM M p = ((bodyAt M k).now, 0) := by unfold readM; rw [hl]
theorem cRead {s : DS} {M : DM} (h : s.ok M) (hm : ∀ B ∈ M.bodies, B.now.size ≤ 10000000) (d : Nat) (path : ByteArray) (W0 : World) (H : List Grp) :
    Tri Try.prog 19 #[.pointer (some ⟨d, 0, none⟩), .string path] W0 (s.G d M ++ H) (fun v H' => ∃ x g, v = .tuple #[x, .int .i64 (readM M path).2] ∧ Own 5 1 x g (readM M path).1.size (u8s (readM M path).1.data.toList) ∧ H' = g :: (s.G d M ++ H)) := by
  cases hl : lookN M.names path with
  | none =>
    rw [readM_no hl]
    refine Tri.post (vReadNo d s.nb s.kb s.cb s.nc M.room M.calls (.slice s.ba s.bs.length s.bc) M.fails M.once s.nm path (mget_no h hl) W0 _) fun v H1 ⟨hv, hH⟩ => ⟨_, ⟨_, [], hv, Own.nil, rfl⟩, fun w hw => ?_⟩
    rw [hH] at hw
    exact flat_nil' (A := []) hw
  | some k =>
    rw [readM_ok hl]
    have hk := (lookN_lt h hl).2
    have hB := h.bods.get default default _ hk
    have hsz : (s.bs.getD k.toNat default).n ≤ 1000000000 := by
      rw [hB.n, List.getD_eq_getElem?_getD, List.getElem?_eq_getElem (by rw [← h.bods.len]; exact hk)]
      have := hm _ (List.getElem_mem (by rw [← h.bods.len]; exact hk))
      simp only [Option.getD_some]
      omega
    have hp : At W0 ([(s.kb, .map (encM s.km) s.kc)] :: [(s.cb, .map (encM s.cm) s.cc)] :: s.bg :: bodyG s.bs :: ((rowsG s.rows ++ s.Z) ++ H)) (s.bs.getD k.toNat default).p (.cells #[.slice (s.bs.getD k.toNat default).an (s.bs.getD k.toNat default).n (s.bs.getD k.toNat default).cn, .slice (s.bs.getD k.toNat default).ak (s.bs.getD k.toNat default).m (s.bs.getD k.toNat default).ck] 68 (0, 0)) :=
      .cons (.cons (.cons (At.mem List.mem_cons_self (List.mem_of_getElem? (bodyG_at hk)))))
    have hz : ∀ y o, inZ s.Z y o → At W0 ([(s.kb, .map (encM s.km) s.kc)] :: [(s.cb, .map (encM s.cm) s.cc)] :: s.bg :: bodyG s.bs :: ((rowsG s.rows ++ s.Z) ++ H)) y o := fun y o hy => .cons (.cons (.cons (.cons (.inr (by rw [List.flatten_append, List.flatten_append]; exact List.mem_append_left _ (List.mem_append_right _ hy))))))
    have hlen : (bodyAt M k).now.data.toList.length = (s.bs.getD k.toNat default).n := by rw [hB.n]; exact Array.length_toList
    have hnow := hB.now
    have hn0 := hB.n
    rcases hB.an with ⟨h1, h2, h3⟩ | ⟨b, off, h1⟩
    · rw [h1, h2, h3] at hp
      have he : (bodyAt M k).now = ByteArray.mk #[] := by
        have h0 : (bodyAt M k).now.size = 0 := by rw [← h2]; exact hn0.symm
        generalize (bodyAt M k).now = x at h0
        cases x with | mk d =>
        have : d = #[] := Array.eq_empty_of_size_eq_zero h0
        rw [this]
      rw [he]
      refine Tri.post (vReadNil d s.nb s.kb s.cb s.nc M.room M.calls (.slice s.ba s.bs.length s.bc) M.fails M.once s.nm path _ _ (mget_lk h hl) W0 _ hp) fun v H1 ⟨hv, hH⟩ => ⟨_, ⟨_, [], hv, Own.nil, rfl⟩, fun w hw => ?_⟩
      rw [hH] at hw
      exact flat_nil' (A := []) hw
    · rw [h1] at hp hnow
      refine (vReadYes d s.nb s.kb s.cb s.nc M.room M.calls (.slice s.ba s.bs.length s.bc) M.fails M.once s.nm path b off (s.bs.getD k.toNat default).n (s.bs.getD k.toNat default).cn (inZ s.Z) _ hnow hlen hsz _ _ (mget_lk h hl) W0 _ hz hp).mono fun v H' ⟨x, g, hv, ho, hH⟩ => ⟨x, g, hv, ?_, hH⟩
      rw [hn0] at ho
      exact ho
theorem listK_perm {d : ByteArray} {dn : SM} {names : List Nm} {ps : List Nat} {nm : SM} {nc : Nat} (hn : NamesR ps nm names) (ho : MapOk nm nc) (hd : dn.Perm nm) : (listK d dn).Perm ((names.filter fun n => (dirB n.1).toList == d.toList).map Prod.fst) := by
  have h1 : (nm.map Prod.fst).Perm (names.map Prod.fst) := by
    have := (names_perm hn ho).map Prod.fst
    rw [List.map_map, List.map_map] at this
    exact this
  have h2 : (dn.map Prod.fst).Perm (names.map Prod.fst) := (hd.map _).trans h1
  have h3 := h2.filter fun p => (dirB p).toList == d.toList
  rw [List.filter_map, List.filter_map] at h3
  exact h3
theorem cList {s : DS} {M : DM} (h : s.ok M) (hm : Small M) (d : Nat) (dir : ByteArray) (W0 : World) (H : List Grp) :
    Tri Try.prog 21 #[.pointer (some ⟨d, 0, none⟩), .string dir] W0 (s.G d M ++ H) (fun v H' => ∃ g, Own 9 1 v g (listM M dir).length (strs (listM M dir)) ∧ H' = g :: (s.G d M ++ H)) := by
  have hp := names_perm h.names h.nok
  have hlen : s.nm.length ≤ 1000000 := by
    have := hp.length_eq
    rw [List.length_map, List.length_map] at this
    have := hm.names
    omega
  have hks : ∀ e ∈ s.nm, e.1.size ≤ 9223372036854775807 := fun e he => by
    obtain ⟨k, hk, _⟩ := names_ptr h he
    have := hm.paths _ (lookN_mem hk)
    simp only at this
    omega
  refine Tri.post (vList d s.nb s.kb s.cb s.nc M.room M.calls (.slice s.ba s.bs.length s.bc) M.fails M.once s.nm dir h.nok hks hlen W0 ([(s.kb, .map (encM s.km) s.kc)] :: [(s.cb, .map (encM s.cm) s.cc)] :: s.bg :: bodyG s.bs :: ((rowsG s.rows ++ s.Z) ++ H))) fun v H1 ⟨dn, g, hd, ho, hH⟩ => ?_
  have hq := listK_perm (d := dir) h.names h.nok hd
  have e1 : sortB (listK dir dn) = listM M dir := sortB_congr hq
  have e2 : (listK dir dn).length = (listM M dir).length := by rw [← e1, sortB_len]
  rw [e1, e2] at ho
  refine ⟨_, ⟨g, ho, rfl⟩, fun w hw => ?_⟩
  rw [hH] at hw
  refine sat_cnt hw fun _ x => ?_
  simp only [DS.G, dkO, List.cons_append, List.append_assoc]
  simp only [List.flatten_cons, List.flatten_append, List.count_append]
  omega
theorem chOf_filter {l : List Ch} {d d' : ByteArray} : chOf (l.filter fun c => !(d == c.dir)) d' = if d' == d then [] else chOf l d' := by
  unfold chOf
  induction l with
  | nil => simp
  | cons c l ih =>
    rw [List.filter_cons]
    cases h1 : d == c.dir
    · simp only [Bool.not_false, if_true]
      rw [List.filter_cons, List.filter_cons]
      cases h2 : d' == c.dir
      · simp only [Bool.false_eq_true, if_false]; exact ih
      · simp only [if_true, List.map_cons, ih]
        rw [baEq] at h2; subst h2
        rw [if_neg, if_neg]
        · intro h; rw [baEq] at h; rw [baNe] at h1; exact h1 h.symm
        · intro h; rw [baEq] at h; rw [baNe] at h1; exact h1 h.symm
    · simp only [Bool.not_true, Bool.false_eq_true, if_false, ih]
      rw [baEq] at h1; subst h1
      rw [List.filter_cons]
      cases h2 : d' == c.dir <;> simp only [Bool.false_eq_true, if_false, if_true]
theorem mdel_none {m : SM} {k : ByteArray} (h : mget m k = none) : mdel m k = m := by
  induction m with
  | nil => rfl
  | cons e m ih =>
    have h := mget_none.1 h
    rw [mdel, if_neg (by rw [h e List.mem_cons_self]; decide), ih (mget_none.2 fun x hx => h x (List.mem_cons_of_mem _ hx))]
theorem syncDirM_err {M : DM} {p : ByteArray} (h : errM M (dirR p) ≠ 0) : syncDirM M p = (errM M (dirR p), callM M (dirR p)) := by unfold syncDirM; rw [if_pos h]
theorem syncDirM_ok {M : DM} {p : ByteArray} (h : errM M (dirR p) = 0) : syncDirM M p = (0, { callM M (dirR p) with kept := (chOf M.changes p).foldl applyN M.kept, changes := M.changes.filter fun c => !(p == c.dir) }) := by unfold syncDirM; rw [if_neg (by simpa using h)]
theorem all2_none {α β : Type} {R : α → β → Prop} {l : List β} (h : All2 R [] l) : l = [] := by cases h; rfl
theorem filter_none {l : List Ch} {d : ByteArray} (h : chOf l d = []) : l.filter (fun c => !(d == c.dir)) = l := by
  unfold chOf at h
  rw [List.map_eq_nil_iff, List.filter_eq_nil_iff] at h
  exact List.filter_eq_self.2 fun c hc => by have := h c hc; simpa using this
theorem row_read {Z : List Grp} {ps : List Nat} {qs : List Nat} {ls : List (List Nm)} (h : All2 (QR Z ps) qs ls) : ∃ (xs : List SM) (xcs : List Nat), xs.length = qs.length ∧ All2 (fun x l => (∃ c, MapOk x c) ∧ ChangeR ps x l) xs ls ∧
    ∀ i, i < qs.length → inZ Z (qs.getD i 0) (.map (encM (xs.getD i [])) (xcs.getD i 0)) ∧ MapOk (xs.getD i []) (xcs.getD i 0) ∧ ∀ e ∈ xs.getD i [], e.2.1 = .pointer none ∨ ∃ p, e.2.1 = .pointer (some ⟨p, 0, none⟩) := by
  induction h with
  | nil => exact ⟨[], [], rfl, .nil, fun i h => by simp at h⟩
  | cons hq _ ih =>
    obtain ⟨x, c, h1, h2, h3⟩ := hq
    obtain ⟨xs, xcs, e1, e2, e3⟩ := ih
    refine ⟨x :: xs, c :: xcs, by simp [e1], .cons ⟨⟨c, h2⟩, h3⟩ e2, fun i hi => ?_⟩
    cases i with
    | zero =>
      refine ⟨h1, h2, fun e he => ?_⟩
      obtain ⟨p, v, n⟩ := e
      have := mget_of h2.nodup he
      rw [h3.look] at this
      obtain ⟨k, _, hk⟩ := Option.map_eq_some_iff.1 this
      simp only
      rw [← hk]
      unfold chV
      split
      · exact .inr ⟨_, rfl⟩
      · exact .inl rfl
    | succ i => exact e3 i (by simpa using hi)
theorem cSyncDir {s : DS} {M : DM} (h : s.ok M) (hm : Small M) (d : Nat) (dir : ByteArray) (hdir : dir.size ≤ 9223372036854775807) (W0 : World) (H : List Grp) :
    Tri Try.prog 15 #[.pointer (some ⟨d, 0, none⟩), .string dir] W0 (s.G d M ++ H) (Is d (syncDirM M dir).2 (.int .i64 (syncDirM M dir).1) H) := by
  have hto : ∀ {s : DS} {M : DM} {w : World}, Sat W0 (s.G d M ++ H) w → Sat W0 ([(d, dkO M s)] :: [(s.kb, .map (encM s.km) s.kc)] :: [(s.cb, .map (encM s.cm) s.cc)] :: ([(s.nb, .map (encM s.nm) s.nc)] :: s.bg :: bodyG s.bs :: (rowsG s.rows ++ (s.Z ++ H)))) w := fun hw => sat_cnt hw fun _ x => by
    simp only [DS.G, List.cons_append, List.append_assoc]
    simp only [List.flatten_cons, List.flatten_append, List.count_append]
    omega
  have hfrom : ∀ {s : DS} {M : DM} {w : World}, Sat W0 ([(d, dkO M s)] :: [(s.kb, .map (encM s.km) s.kc)] :: [(s.cb, .map (encM s.cm) s.cc)] :: ([(s.nb, .map (encM s.nm) s.nc)] :: s.bg :: bodyG s.bs :: (rowsG s.rows ++ (s.Z ++ H)))) w → Sat W0 (s.G d M ++ H) w := fun hw => sat_cnt hw fun _ x => by
    simp only [DS.G, List.cons_append, List.append_assoc]
    simp only [List.flatten_cons, List.flatten_append, List.count_append]
    omega
  cases hg : mget s.cm dir with
  | none =>
    have hrow := rowOf_none (rows_none h.rows hg)
    have hch := h.chs dir
    rw [hrow] at hch
    have hch := all2_none hch
    refine Tri.heap (fun w hw => hto hw) (Tri.post (vSyncDirNo d s.nb s.kb s.cb s.kc s.cc M.room M.calls (.slice s.ba s.bs.length s.bc) M.fails M.once s.km s.cm dir hdir hm.calls h.kok hg W0 _) fun v H1 hr => ?_)
    rcases hr with ⟨hce, hv, hH⟩ | ⟨hce, hv, hH⟩
    · exact post_call h (dirR dir) (by rw [syncDirM_err hce]) (by rw [syncDirM_err hce]; exact hv) fun w hw => by rw [hH] at hw; exact hfrom hw
    · refine post_call h (dirR dir) ?_ (by rw [syncDirM_ok hce]; exact hv) fun w hw => ?_
      · rw [syncDirM_ok hce, hch, filter_none hch]; rfl
      · rw [hH, mdel_none hg] at hw; exact hfrom hw
  | some rv =>
    obtain ⟨pre, r, post, c, p1, p2, hrows, hcm, hp1, hpre, hd, hrv, e1, e2⟩ := rows_some h.rows hg
    obtain ⟨ho, hpos⟩ := h.rows.2 r (by rw [hrows]; exact List.mem_append_right _ List.mem_cons_self)
    have hq := rows_le h hm r (by rw [hrows]; exact List.mem_append_right _ List.mem_cons_self)
    rw [hrv] at ho
    obtain ⟨ra, rc, hra, hrc, hrd⟩ := ho.shape
    have hrow : rowOf s.rows dir = r.qs := by rw [hrows, rowOf_app hpre, rowOf, hd, if_pos (baEq.2 rfl)]
    have hch := h.chs dir
    rw [hrow] at hch
    obtain ⟨xs, xcs, x1, x2, x3⟩ := row_read hch
    have hin : ∀ y o, inZ s.Z y o → At W0 ([(s.nb, .map (encM s.nm) s.nc)] :: s.bg :: bodyG s.bs :: (rowsG s.rows ++ (s.Z ++ H))) y o := fun y o hy => .cons (.cons (.cons (at_app2 (.inr (by rw [List.flatten_append]; exact List.mem_append_left _ hy)))))
    refine Tri.heap (fun w hw => hto hw) (Tri.post (vSyncDir d s.nb s.kb s.cb s.kc s.cc M.room M.calls (.slice s.ba s.bs.length s.bc) M.fails M.once s.km s.cm dir hdir hm.calls h.kok ra rc (inG r.g) r.qs xs xcs x1 hq hrd (by rw [hg, hra]) W0 _ (fun y o hy => .cons (.cons (.cons (at_app (At.mem (g := r.g) (by rw [hrows]; simp [rowsG]) hy))))) (fun i hi => ⟨hin _ _ (x3 i hi).1, (x3 i hi).2⟩)) fun v H1 hr => ?_)
    rcases hr with ⟨hce, hv, hH⟩ | ⟨hce, hv, km1, kc1, hmade, hH⟩
    · exact post_call h (dirR dir) (by rw [syncDirM_err hce]) (by rw [syncDirM_err hce]; exact hv) fun w hw => by rw [hH] at hw; exact hfrom hw
    · have hdel : mdel s.cm dir = p1 ++ p2 := by
        rw [hcm]
        clear hcm e1
        induction p1 with
        | nil => rw [List.nil_append, mdel, if_pos (baEq.2 rfl)]; rfl
        | cons e p1 ih =>
          rw [List.cons_append, mdel, if_neg (by rw [hp1 e List.mem_cons_self]; decide), ih fun x hx => hp1 x (List.mem_cons_of_mem _ hx)]; rfl
      have hpost : ∀ x ∈ post, (dir == x.dir) = false := by
        have hn := h.cok.nodup
        rw [hcm, List.map_append, List.map_cons, List.nodup_append, List.nodup_cons] at hn
        intro x hx
        rw [baNe]
        intro he
        refine hn.2.1.1 ?_
        have : (x.dir, x.v) ∈ p2.map (fun e => (e.1, e.2.1)) := by rw [e2]; exact List.mem_map.2 ⟨x, hx, rfl⟩
        obtain ⟨e, he1, he2⟩ := List.mem_map.1 this
        injection he2 with he2 _
        exact List.mem_map.2 ⟨e, he1, by rw [he2, ← he]⟩
      refine ⟨_, ⟨by rw [syncDirM_ok hce]; exact hv, { s with km := km1, kc := kc1, cm := mdel s.cm dir, rows := pre ++ post, Z := r.g :: s.Z }, ?_, rfl⟩, fun w hw => ?_⟩
      · rw [syncDirM_ok hce]
        refine ⟨h.own, h.nok, made_ok (s := (s.km, s.kc)) (s' := (km1, kc1)) hmade h.kok, h.cok.del _, h.names, names_made h.kept h.kok x2 hmade, ⟨?_, fun x hx => ?_⟩, fun d' => ?_, h.bods.imp fun b B hb => hb.mono fun y o h => inZ_app (K := [r.g]) h⟩
        · show (mdel s.cm dir).map _ = _
          rw [hdel, List.map_append, List.map_append, e1, e2]
        · refine h.rows.2 x ?_
          rw [hrows]
          rcases List.mem_append.1 hx with hx | hx
          · exact List.mem_append_left _ hx
          · exact List.mem_append_right _ (List.mem_cons_of_mem _ hx)
        · have hold := (h.chs d').imp fun q l hq => qr_mono (K := [r.g]) hq
          show All2 (QR ([r.g] ++ s.Z) (psOf s.bs)) (rowOf (pre ++ post) d') (chOf (M.changes.filter fun c => !(dir == c.dir)) d')
          rw [chOf_filter]
          cases hk : d' == dir
          · simp only [Bool.false_eq_true, if_false]
            rw [hrows] at hold
            have : rowOf (pre ++ post) d' = rowOf (pre ++ r :: post) d' := rowOf_app' (by rw [rowOf, hd, hk]; rfl)
            rw [this]; exact hold
          · simp only [if_true]
            rw [baEq] at hk; subst hk
            rw [rowOf_none fun x hx => by rcases List.mem_append.1 hx with hx | hx; exact hpre x hx; exact hpost x hx]
            exact .nil
      · rw [hH] at hw
        rw [syncDirM_ok hce]
        refine sat_cnt hw fun _ x => ?_
        simp only [DS.G, dkO, callM, dirR, hrows, rowsG, List.map_append, List.map_cons, List.cons_append, List.append_assoc]
        simp only [List.flatten_cons, List.flatten_append, List.count_append]
        omega
end Go.Vf
namespace Go.Vf
open Go.Sw Go.RowKit Go.Proofs Go.Proofs.Ytbmieiffboenbaa
def crashL : List BE → KS → List BE × KS
  | [], k => ([], k)
  | b :: r, k => ((crash1 b k).1 :: (crashL r (crash1 b k).2).1, (crashL r (crash1 b k).2).2)
theorem crashL_len : ∀ (l : List BE) (k : KS), (crashL l k).1.length = l.length
  | [], _ => rfl
  | b :: r, k => by rw [crashL, List.length_cons, crashL_len r, List.length_cons]
theorem crashL_snoc (b : BE) : ∀ (l : List BE) (k : KS), crashL (l ++ [b]) k = ((crashL l k).1 ++ [(crash1 b (crashL l k).2).1], (crash1 b (crashL l k).2).2)
  | [], _ => rfl
  | x :: r, k => by rw [List.cons_append, crashL, crashL_snoc b r]; rfl
theorem stB_L (bs : List BE) (k : KS) : ∀ j : Nat, j ≤ bs.length → stB bs k j = ((crashL (bs.take j) k).1 ++ bs.drop j, (crashL (bs.take j) k).2)
  | 0, _ => rfl
  | j + 1, h => by
    have hj : j < bs.length := h
    rw [stB, stB_at bs k j j (Nat.le_refl _), stB_L bs k j (by omega), take_snoc (d := default) hj, crashL_snoc]
    have hd : bs.drop j = bs.getD j default :: bs.drop (j + 1) := by
      rw [List.getD_eq_getElem?_getD, List.getElem?_eq_getElem hj, List.drop_eq_getElem_cons hj]; rfl
    have hl : (crashL (bs.take j) k).1.length = j := by rw [crashL_len, List.length_take]; omega
    rw [hd, List.set_append_right _ _ (by omega), hl, Nat.sub_self]
    simp
theorem crashL_p : ∀ (l : List BE) (k : KS), psOf (crashL l k).1 = psOf l
  | [], _ => rfl
  | b :: r, k => by
    have := crashL_p r (crash1 b k).2
    unfold psOf at this ⊢
    rw [crashL, List.map_cons, List.map_cons, this]
    congr 1
    unfold crash1
    split <;> rfl
theorem extract_u8s (x : ByteArray) (m : Nat) : u8s (x.extract 0 m).data.toList = (u8s x.data.toList).take m := by
  unfold u8s
  rw [← List.map_take]
  congr 1
  rw [ByteArray.data_extract, Array.toList_extract]
  simp [List.extract]
theorem crash1_r {S : Nat → Obj → Prop} {b : BE} {B : Body} (h : BodyR S b B) (k : KS) (hkm : B.kept.size ≤ B.now.size) :
    BodyR S (crash1 b k).1 (if (B.now.size : Int) - (B.kept.size : Int) > 0 then ⟨B.now.extract 0 (B.kept.size + (nextK (k.l.headD 0) ((B.now.size : Int) - (B.kept.size : Int) + 1)).toNat), B.now.extract 0 (B.kept.size + (nextK (k.l.headD 0) ((B.now.size : Int) - (B.kept.size : Int) + 1)).toNat)⟩ else ⟨B.kept, B.kept⟩) ∧
    (crash1 b k).2.l = if (B.now.size : Int) - (B.kept.size : Int) > 0 then k.l.drop 1 else k.l := by
  have hn := h.n
  have hm := h.m
  unfold crash1
  by_cases hc : (b.n : Int) - (b.m : Int) > 0
  · have hc' : (B.now.size : Int) - (B.kept.size : Int) > 0 := by omega
    rw [if_pos hc, if_pos hc', if_pos hc']
    obtain ⟨q0, q1⟩ := nextK_bd (k := k.l.headD 0) (n := (b.n : Int) - (b.m : Int) + 1) (by omega)
    have e1 : (B.now.size : Int) - (B.kept.size : Int) + 1 = (b.n : Int) - (b.m : Int) + 1 := by omega
    rw [e1]
    have e2 : B.kept.size + (nextK (k.l.headD 0) ((b.n : Int) - (b.m : Int) + 1)).toNat = Int.toNat ((b.m : Int) + nextK (k.l.headD 0) ((b.n : Int) - (b.m : Int) + 1)) - Int.toNat 0 := by
      have : Int.toNat 0 = 0 := rfl
      omega
    rw [e2]
    have e3 : Int.toNat ((b.m : Int) + nextK (k.l.headD 0) ((b.n : Int) - (b.m : Int) + 1)) - Int.toNat 0 ≤ b.n := by
      have : Int.toNat 0 = 0 := rfl
      omega
    have hcn := h.cn
    have hlen : (u8s B.now.data.toList).length = b.n := by rw [u8s_len, hn]; exact Array.length_toList
    have hrd := rd_cut0 h.now (m := Int.toNat ((b.m : Int) + nextK (k.l.headD 0) ((b.n : Int) - (b.m : Int) + 1)) - Int.toNat 0) (c := b.cn) (by rw [hlen]; exact e3) (by rw [hlen]; exact hcn)
    rw [← extract_u8s] at hrd
    have hsz : (B.now.extract 0 (Int.toNat ((b.m : Int) + nextK (k.l.headD 0) ((b.n : Int) - (b.m : Int) + 1)) - Int.toNat 0)).size = Int.toNat ((b.m : Int) + nextK (k.l.headD 0) ((b.n : Int) - (b.m : Int) + 1)) - Int.toNat 0 := by
      rw [ByteArray.size_extract]; omega
    have han : (cutA b.an b.cn (Int.toNat 0) 1 = none ∧ Int.toNat ((b.m : Int) + nextK (k.l.headD 0) ((b.n : Int) - (b.m : Int) + 1)) - Int.toNat 0 = 0 ∧ b.cn - Int.toNat 0 = 0) ∨ ∃ q off, cutA b.an b.cn (Int.toNat 0) 1 = some ⟨q, off, none⟩ := by
      rcases h.an with ⟨h1, h2, _⟩ | ⟨q, off, h1⟩
      · omega
      · refine .inr ⟨q, off, ?_⟩
        rw [h1]
        unfold cutA
        split
        · rfl
        · simp [addr_add]
    have hcm : Int.toNat ((b.m : Int) + nextK (k.l.headD 0) ((b.n : Int) - (b.m : Int) + 1)) - Int.toNat 0 ≤ b.cn - Int.toNat 0 := by
      have : Int.toNat 0 = 0 := rfl
      omega
    exact ⟨⟨hsz.symm, hcm, han, hrd, hsz.symm, hcm, han, hrd⟩, rfl⟩
  · have hc' : ¬ (B.now.size : Int) - (B.kept.size : Int) > 0 := by omega
    rw [if_neg hc, if_neg hc', if_neg hc']
    exact ⟨⟨h.m, h.cm, h.am, h.kept, h.m, h.cm, h.am, h.kept⟩, rfl⟩
theorem crashL_r {S : Nat → Obj → Prop} {bs : List BE} {Bs : List Body} (h : All2 (BodyR S) bs Bs) (hk : ∀ B ∈ Bs, B.kept.size ≤ B.now.size) : ∀ k : KS, All2 (BodyR S) (crashL bs k).1 (crashB Bs k.l).1 ∧ (crashL bs k).2.l = (crashB Bs k.l).2 := by
  induction h with
  | nil => intro k; exact ⟨.nil, rfl⟩
  | @cons b B bs Bs hb _ ih =>
    intro k
    obtain ⟨h1, h2⟩ := crash1_r hb k (hk _ List.mem_cons_self)
    obtain ⟨h3, h4⟩ := ih (fun B hB => hk B (List.mem_cons_of_mem _ hB)) (crash1 b k).2
    rw [crashL, crashB]
    split
    · rename_i hc
      rw [if_pos hc] at h1 h2
      rw [h2] at h3 h4
      exact ⟨.cons h1 h3, h4⟩
    · rename_i hc
      rw [if_neg hc] at h1 h2
      rw [h2] at h3 h4
      exact ⟨.cons h1 h3, h4⟩
theorem crashB_size {n : Nat} : ∀ {Bs : List Body} {ks : List Int}, (∀ B ∈ Bs, B.now.size ≤ n ∧ B.kept.size ≤ B.now.size) → ∀ B ∈ (crashB Bs ks).1, B.now.size ≤ n ∧ B.kept.size = B.now.size
  | [], _, _, B, hB => by cases hB
  | x :: r, ks, h, B, hB => by
    obtain ⟨h1, h2⟩ := h x List.mem_cons_self
    have ih := fun ks => crashB_size (n := n) (Bs := r) (ks := ks) fun B hB => h B (List.mem_cons_of_mem _ hB)
    rw [crashB] at hB
    split at hB
    · rcases List.mem_cons.1 hB with rfl | hB
      · exact ⟨by simp only [ByteArray.size_extract]; omega, rfl⟩
      · exact ih _ B hB
    · rcases List.mem_cons.1 hB with rfl | hB
      · exact ⟨by show x.kept.size ≤ n; omega, rfl⟩
      · exact ih _ B hB
theorem crashB_len : ∀ {Bs : List Body} {ks : List Int}, (crashB Bs ks).1.length = Bs.length
  | [], _ => rfl
  | x :: r, ks => by
    rw [crashB]
    split <;> rw [List.length_cons, crashB_len, List.length_cons]
theorem All2.mem {α β : Type} {R : α → β → Prop} {l : List α} {m : List β} (h : All2 R l m) {a : α} (ha : a ∈ l) : ∃ b ∈ m, R a b := by
  induction h with
  | nil => cases ha
  | cons hab _ ih =>
    rcases List.mem_cons.1 ha with rfl | ha
    · exact ⟨_, List.mem_cons_self, hab⟩
    · obtain ⟨b, hb, hr⟩ := ih ha
      exact ⟨b, List.mem_cons_of_mem _ hb, hr⟩
theorem once_mem {x : ByteArray} : ∀ {l : List ByteArray}, x ∈ onceL l ↔ x ∈ l
  | [] => Iff.rfl
  | y :: r => by
    rw [onceL]
    split
    · rename_i h
      rw [once_mem, List.mem_cons]
      constructor
      · exact .inr
      · rintro (rfl | h2)
        · exact once_mem.1 h
        · exact h2
    · rw [List.mem_cons, List.mem_cons, once_mem]
theorem once_nodup : ∀ (l : List ByteArray), (onceL l).Nodup
  | [] => List.nodup_nil
  | y :: r => by
    rw [onceL]
    split
    · exact once_nodup r
    · rename_i h; exact List.nodup_cons.2 ⟨h, once_nodup r⟩
theorem once_le : ∀ (l : List ByteArray), (onceL l).length ≤ l.length
  | [] => Nat.le_refl _
  | y :: r => by
    have := once_le r
    rw [onceL]
    split <;> simp <;> omega
theorem chOf_ne {l : List Ch} {d : ByteArray} : chOf l d ≠ [] ↔ d ∈ l.map (·.dir) := by
  unfold chOf
  constructor
  · intro h
    obtain ⟨x, hx⟩ := List.exists_mem_of_ne_nil _ h
    obtain ⟨c, hc, _⟩ := List.mem_map.1 hx
    obtain ⟨h1, h2⟩ := List.mem_filter.1 hc
    rw [baEq] at h2
    exact List.mem_map.2 ⟨c, h1, h2.symm⟩
  · intro h
    obtain ⟨c, hc, rfl⟩ := List.mem_map.1 h
    intro he
    rw [List.map_eq_nil_iff, List.filter_eq_nil_iff] at he
    exact he c hc (by simp)
theorem rowOf_ne {rows : List RW} (h : ∀ r ∈ rows, 0 < r.qs.length) {d : ByteArray} : rowOf rows d ≠ [] ↔ d ∈ rows.map (·.dir) := by
  induction rows with
  | nil => simp [rowOf]
  | cons r rows ih =>
    rw [rowOf, List.map_cons, List.mem_cons]
    split
    · rename_i hk
      rw [baEq] at hk
      have := h r List.mem_cons_self
      constructor
      · intro _; exact .inl hk
      · intro _ he; rw [he] at this; simp at this
    · rename_i hk
      rw [ih fun x hx => h x (List.mem_cons_of_mem _ hx)]
      constructor
      · exact .inr
      · rintro (rfl | h2)
        · exact absurd (baEq.2 rfl) hk
        · exact h2
theorem rows_keys {s : DS} {M : DM} (h : s.ok M) : s.cm.map Prod.fst = s.rows.map (·.dir) := by
  have h1 : (s.cm.map (fun e => (e.1, e.2.1))).map Prod.fst = (s.rows.map (fun r => (r.dir, r.v))).map Prod.fst := by rw [h.rows.1]
  rw [List.map_map, List.map_map] at h1
  exact h1
theorem keys_perm {s : DS} {M : DM} (h : s.ok M) : (s.cm.map Prod.fst).Perm (onceL (M.changes.map (·.dir))) := by
  refine (List.perm_ext_iff_of_nodup h.cok.nodup (once_nodup _)).2 fun d => ?_
  rw [once_mem, ← chOf_ne, rows_keys h, ← rowOf_ne fun r hr => (h.rows.2 r hr).2]
  have := (h.chs d).len
  constructor
  · intro h1 h2
    rw [h2] at this
    exact h1 (List.eq_nil_of_length_eq_zero this)
  · intro h1 h2
    rw [h2] at this
    exact h1 (List.eq_nil_of_length_eq_zero this.symm)
theorem crash_names {ps : List Nat} {rows : ByteArray → RowC} {l : List Ch} : ∀ {ds : List ByteArray} {km km1 : SM} {kc kc1 : Nat} {ks ks1 : KS} {names : List Nm},
    (∀ d ∈ ds, All2 (fun x l => (∃ c, MapOk x c) ∧ ChangeR ps x l) (rows d).xs (chOf l d) ∧ (rows d).qs.length = (chOf l d).length) → NamesR ps km names → MapOk km kc →
    CrashK rows ds ((km, kc), ks) ((km1, kc1), ks1) → NamesR ps km1 (crashD l ds ks.l names) ∧ MapOk km1 kc1
  | [], _, _, _, _, _, _, _, _, hn, ho, hc => by
    injection (show (_, _) = (_, _) from hc) with e1 e2
    injection e1 with e3 e4
    subst e3 e4
    exact ⟨hn, ho⟩
  | d :: ds, km, km1, kc, kc1, ks, ks1, names, hr, hn, ho, ⟨s1, hm, hc⟩ => by
    obtain ⟨h1, h2⟩ := hr d List.mem_cons_self
    obtain ⟨m1, c1⟩ := s1
    have e : keptN (rows d) ks = (nextK (ks.l.headD 0) (((chOf l d).length : Int) + 1)).toNat := by unfold keptN; rw [h2]
    have h3 := names_made hn ho (h1.take (keptN (rows d) ks)) hm
    rw [e] at h3
    exact crash_names (ds := ds) (fun d' hd' => hr d' (List.mem_cons_of_mem _ hd')) h3 (made_ok (s := (km, kc)) (s' := (m1, c1)) hm ho) hc
theorem cCrash {s : DS} {M : DM} (h : s.ok M) (hm : Small M) (d : Nat) (ks : KS) (S0 : Nat → Obj → Prop) (hks : KsOk S0 ks) (W0 : World) (H : List Grp) (hS0 : ∀ y o, S0 y o → At W0 H y o) :
    Tri Try.prog 18 #[.pointer (some ⟨d, 0, none⟩), .slice ks.a ks.l.length ks.c] W0 (s.G d M ++ H) (Is d (crashM M ks.l) (.tuple #[]) H) := by
  have hlen := h.bods.len
  have hmb := hm.bodies
  have hkp := keys_perm h
  have hrd : ∀ d', ∃ r : RowC, d' ∈ s.cm.map Prod.fst → RowOk (fun y o => S0 y o ∨ inG s.bg y o ∨ (y, o) ∈ (rowsG s.rows).flatten) W0 ([(s.nb, .map (encM s.nm) s.nc)] :: s.bg :: (rowsG s.rows ++ (s.Z ++ H))) s.cm d' r ∧ All2 (fun x l => (∃ c, MapOk x c) ∧ ChangeR (psOf s.bs) x l) r.xs (chOf M.changes d') ∧ r.qs.length = (chOf M.changes d').length := by
    intro d'
    by_cases hd : d' ∈ s.cm.map Prod.fst
    · obtain ⟨⟨k, rv, c⟩, he, rfl⟩ := List.mem_map.1 hd
      have hg := mget_of h.cok.nodup he
      obtain ⟨pre, r, post, c, p1, p2, hrows, hcm, hp1, hpre, hdd, hrv, e1, e2⟩ := rows_some h.rows hg
      have hmem : r ∈ s.rows := by rw [hrows]; exact List.mem_append_right _ List.mem_cons_self
      obtain ⟨ho, hpos⟩ := h.rows.2 r hmem
      have hq := rows_le h hm r hmem
      rw [hrv] at ho
      obtain ⟨ra, rc, hra, hrc, hrd⟩ := ho.shape
      have hrow : rowOf s.rows k = r.qs := by rw [hrows, rowOf_app hpre, rowOf, hdd, if_pos (baEq.2 rfl)]
      have hch := h.chs k
      rw [hrow] at hch
      obtain ⟨xs, xcs, x1, x2, x3⟩ := row_read hch
      refine ⟨⟨ra, rc, r.qs, xs, xcs⟩, fun _ => ⟨⟨?_, hrd.mono fun y o hy => .inr (.inr (List.mem_flatten.2 ⟨r.g, List.mem_map.2 ⟨r, hmem, rfl⟩, hy⟩)), x1, hq, hrc, fun i hi => ⟨?_, (x3 i hi).2⟩⟩, x2, hch.len⟩⟩
      · rw [show mget s.cm k = some rv from hg, hra]
      · exact .cons (.cons (at_app2 (.inr (by rw [List.flatten_append]; exact List.mem_append_left _ (x3 i hi).1))))
    · exact ⟨⟨none, 0, [], [], []⟩, fun h => absurd h hd⟩
  have hbn : ∀ b ∈ s.bs, b.n ≤ b.cn ∧ b.n ≤ 1000000000 ∧ b.m ≤ b.n := fun b hb => by
    obtain ⟨B, hB, hr⟩ := h.bods.mem hb
    have := hm.size B hB
    have h1 := hr.n
    have h2 := hr.m
    exact ⟨hr.cn, by omega, by omega⟩
  obtain ⟨ra, rc, hra, _, hrb⟩ := h.own.shape
  injection hra with e1 e2 e3
  subst e1
  have hcs : ∀ e ∈ s.cm, e.1.size ≤ 9223372036854775807 := fun e he => by
    have h1 : e.1 ∈ M.changes.map (·.dir) := once_mem.1 (hkp.mem_iff.1 (List.mem_map.2 ⟨e, he, rfl⟩))
    obtain ⟨c, hc, h2⟩ := List.mem_map.1 h1
    have := hm.dirs c hc
    rw [← h2]; omega
  have hcl : s.cm.length ≤ 1000000000 := by
    have h1 := hkp.length_eq
    rw [List.length_map] at h1
    have h2 := once_le (M.changes.map (·.dir))
    rw [List.length_map] at h2
    have := hm.changes
    omega
  have hto : ∀ {w : World}, Sat W0 (s.G d M ++ H) w → Sat W0 ([(d, dkO M s)] :: bodyG s.bs :: [(s.kb, .map (encM s.km) s.kc)] :: [(s.cb, .map (encM s.cm) s.cc)] :: ([(s.nb, .map (encM s.nm) s.nc)] :: s.bg :: (rowsG s.rows ++ (s.Z ++ H)))) w := fun hw => sat_cnt hw fun _ x => by
    simp only [DS.G, List.cons_append, List.append_assoc]
    simp only [List.flatten_cons, List.flatten_append, List.count_append]
    omega
  refine Tri.heap (fun w hw => hto hw) (Tri.post (vCrash d s.nb s.kb s.cb s.kc s.cc M.room M.calls M.fails M.once s.km s.cm s.bs s.ba s.bc ks (fun d' => Classical.choose (hrd d')) (fun y o => S0 y o ∨ inG s.bg y o ∨ (y, o) ∈ (rowsG s.rows).flatten) ⟨hks.1.mono fun _ _ => .inl, hks.2⟩ (by omega) hbn (hrb.mono fun _ _ hy => .inr (.inl hy)) h.kok h.cok hcs hcl W0 ([(s.nb, .map (encM s.nm) s.nc)] :: s.bg :: (rowsG s.rows ++ (s.Z ++ H))) (fun y o hy => ?_) (fun d' hd' => (Classical.choose_spec (hrd d') hd').1)) fun v H1 hr => ?_)
  · rcases hy with hy | hy | hy
    · exact .cons (.cons (at_app2 (at_app2 (hS0 y o hy))))
    · exact .cons (At.mem List.mem_cons_self hy)
    · exact .cons (.cons (at_app (.inr hy)))
  · obtain ⟨hv, b, b2, km1, kc1, ks1, hk, hH⟩ := hr
    rw [stB_L s.bs ks s.bs.length (Nat.le_refl _), List.take_length, List.drop_length, List.append_nil] at hk hH
    obtain ⟨hb1, hb2⟩ := crashL_r h.bods (fun B hB => (hm.size B hB).2) ks
    have hds : sortB (s.cm.map Prod.fst) = dirsOf M.changes := sortB_congr hkp
    obtain ⟨hN, hO⟩ := crash_names (l := M.changes) (fun d' hd' => (Classical.choose_spec (hrd d') ((sortB_perm _).mem_iff.1 hd')).2) h.kept h.kok hk
    simp only at hN
    rw [hds, hb2] at hN
    have hps := crashL_p s.bs ks
    have h0 : MapOk [] 0 := ⟨List.Pairwise.nil, List.nodup_nil, fun _ h => absurd h List.not_mem_nil⟩
    refine ⟨_, ⟨hv, ⟨b, s.kb, b2, km1, km1, [], kc1, kc1, 0, s.ba, s.bc, s.bg, (crashL s.bs ks).1, [], [(s.nb, .map (encM s.nm) s.nc)] :: (rowsG s.rows ++ s.Z)⟩, ⟨?_, hO, hO, h0, ?_, ?_, ⟨rfl, fun _ h => absurd h List.not_mem_nil⟩, fun _ => .nil, ?_⟩, rfl⟩, fun w hw => ?_⟩
    · have e1 : ∀ l : List BE, l.map (fun b => Value.pointer (some ⟨b.p, 0, none⟩)) = (psOf l).map fun p => Value.pointer (some ⟨p, 0, none⟩) := fun l => by unfold psOf; rw [List.map_map]; rfl
      simp only [crashL_len]
      rw [e1, hps, ← e1]; exact h.own
    · rw [hps]; exact hN
    · rw [hps]; exact hN
    · exact hb1.imp fun b B hb => hb.mono fun y o hy => by
        show (y, o) ∈ List.flatten ([(s.nb, .map (encM s.nm) s.nc)] :: (rowsG s.rows ++ s.Z))
        rw [List.flatten_cons, List.flatten_append]
        exact List.mem_append_right _ (List.mem_append_right _ hy)
    · rw [hH] at hw
      refine sat_cnt hw fun _ x => ?_
      simp only [DS.G, dkO, crashM, crashL_len, rowsG, List.map_nil, List.cons_append, List.append_assoc, List.nil_append]
      simp only [List.flatten_cons, List.flatten_append, List.count_append]
      omega
end Go.Vf
namespace Go.Sw
open Go.RowKit
theorem GL_bytesB {d : Bool} {P : Program} {ops : Array Oper} {i : Nat} {Q : Post} {n : Nat} {E : Env} {W0 : World} {H : List Grp} {o : Oper} {ch : List (Nat × Bool)} {src dst e : TypeId} {x : Operand} {a : Option Addr} {cap : Nat} {S : Nat → Obj → Prop} (b : ByteArray)
    (ho : ops[i]? = some o) (hop : o.op = .convert src dst x) (hx : evO E ch x = some (.slice a b.size cap)) (hs : P.underlying src = some (.slice e)) (he : P.underlying e = some (.int .u8)) (hds : P.underlying dst = some .string)
    (hch : chainOf ops E o.guard = some ch) (hd : dstOk n ch o.dst = true) (hk : chKnown E ch = true)
    (hrd : Rd S a (u8s b.data.toList)) (hS : ∀ b o, S b o → At W0 H b o)
    (k : GL d P ops (i + 1) Q n (Env.put E o.dst ch (.string b)) W0 H) : GL d P ops i Q n E W0 H := by
  cases a with
  | some a =>
    refine GL_bytesStr (cap := cap) b.data.toList ho hop ?_ hs he hds hch hd hk hrd hS ?_
    · rw [hx, show b.data.toList.length = b.size from Array.length_toList]
    · have : (⟨b.data.toList.toArray⟩ : ByteArray) = b := by cases b; simp
      rw [this]; exact k
  | none =>
    have h0 : b = ByteArray.empty := by
      rcases hrd with h | ⟨_, _, _, _, _, h, _⟩
      · have h1 := congrArg List.length h
        unfold u8s at h1
        rw [List.length_map] at h1
        cases b with | mk d =>
        have : d = #[] := Array.eq_empty_of_size_eq_zero (by simpa using h1)
        rw [this]; rfl
      · cases h
    refine GL_quiet ho hch hd hk (fun r hr _ w _ => ?_) k
    unfold execOp
    simp only [hop]
    rw [hr _ _ hx, h0]
    have := run_convert_bytes_string (P := P) w src dst e none ByteArray.empty.size cap hs he hds
    simp only [Sem.run_bind, this]
    exact ⟨rfl, rfl⟩
end Go.Sw
namespace Go.Sw
theorem frozen_end {w : World} {b : Nat} {c : Array Value} {e : TypeId} (h : w.heap[b]? = some (.cells c e (0, 0))) : Wr b (.cells c e (c.size, c.size + 1)) w (w.freeze ⟨b, c.size, none⟩ 1) := by
  have hlt : b < w.heap.size := by
    rcases Nat.lt_or_ge b w.heap.size with h' | h'
    · exact h'
    · rw [Array.getElem?_eq_none h'] at h; cases h
  have hb : w.heap[b] = .cells c e (0, 0) := by rw [Array.getElem?_eq_getElem hlt] at h; exact Option.some.inj h
  unfold World.freeze
  rw [if_neg (by decide)]
  refine ⟨rfl, rfl, rfl, Array.size_modify, ?_, fun k hk => ?_⟩
  · show (w.heap.modify b _)[b]? = _
    rw [Array.getElem?_modify, if_pos rfl, h]
    rfl
  · show (w.heap.modify b _)[k]? = _
    rw [Array.getElem?_modify, if_neg (by omega)]
theorem GL_sameBytes {P : Program} {ops : Array Oper} {i : Nat} {Q : Post} {n : Nat} {E : Env} {W0 : World} {H H' : List Grp} {o : Oper} {ch : List (Nat × Bool)} {t e : TypeId} {x : Operand} {b off l cap : Nat} {c : Array Value} {e' : TypeId} {g : Grp} {j m : Nat}
    (ho : ops[i]? = some o) (hop : o.op = .convert t t x) (hx : evO E ch x = some (.slice (some ⟨b, off, none⟩) l cap)) (ht : P.underlying t = some (.slice e)) (he : P.underlying e = some (.int .u8))
    (hch : chainOf ops E o.guard = some ch) (hd : dstOk n ch o.dst = true) (hsure : chSure E ch = true)
    (hj : H[j]? = some g) (hi : g[m]? = some (b, .cells c e' (0, 0))) (hH' : H.set j (g.set m (b, .cells c e' (c.size, c.size + 1))) = H')
    (k : GL false P ops (i + 1) Q n (Env.put E o.dst ch (.slice (some ⟨b, off, none⟩) l cap)) W0 H') : GL false P ops i Q n E W0 H := by
  refine GL_eff (R := fun v H1 => v = .slice (some ⟨b, off, none⟩) l cap ∧ H1 = H') ho hch hd hsure (fun r hr w hs => ?_) (by rintro v H1 ⟨rfl, rfl⟩; exact k)
  have hblk := hs.has _ (List.mem_flatten.2 ⟨g, List.mem_of_getElem? hj, List.mem_of_getElem? hi⟩)
  have hw := frozen_end hblk
  have hsh : w.shape? b = some (e', c.size) := by unfold World.shape?; rw [hblk]
  refine ⟨_, w.freeze ⟨b, c.size, none⟩ 1, H', ⟨rfl, rfl⟩, ?_, .inl ?_⟩
  · have := hs.wr hj hi hw
    rw [hH'] at this; exact this
  · unfold execOp
    simp only [hop]
    rw [hr _ _ hx]
    simp [convert, run_underlying ht, run_underlying he, markStringish, hsh]
end Go.Sw
namespace Go.Vf
open Go.Sw Go.RowKit Go.Proofs Go.Proofs.Ytbmieiffboenbaa
def IsK (K : List Grp) (d : Nat) (M : DM) (v0 : Value) (H : List Grp) : Value → List Grp → Prop := fun v H' => v = v0 ∧ ∃ s : DS, s.ok M ∧ H' = K ++ (s.G d M ++ H)
theorem front_to {K X H : List Grp} {W0 : World} {w : World} (hw : Sat W0 (K ++ (X ++ H)) w) : Sat W0 (X ++ (K ++ H)) w := sat_cnt hw fun _ x => by
  simp only [List.flatten_append, List.count_append]; omega
theorem is_front {f : FuncId} {args : Array Value} {W0 : World} {s : DS} {d : Nat} {M M' : DM} {v0 : Value} {K H : List Grp} (h : Tri Try.prog f args W0 (s.G d M ++ (K ++ H)) (Is d M' v0 (K ++ H))) : Tri Try.prog f args W0 (K ++ (s.G d M ++ H)) (IsK K d M' v0 H) :=
  Tri.heap (fun _ hw => front_to hw) (Tri.post h fun v H1 ⟨hv, s', hs, hH⟩ => ⟨_, ⟨hv, s', hs, rfl⟩, fun w hw => by rw [hH] at hw; exact front_to hw⟩)
theorem BytesV.up {W0 : World} {H : List Grp} {v : Value} {b : ByteArray} (h : BytesV W0 [] v b) : BytesV W0 H v b := by
  obtain ⟨a, cap, S, h1, h2, h3, h4⟩ := h
  refine ⟨a, cap, S, h1, h2, h3, fun y o hy => ?_⟩
  rcases h4 y o hy with h | h
  · exact .inl h
  · cases h
theorem at_up {W0 : World} {H : List Grp} {y : Nat} {o : Obj} (h : At W0 [] y o) : At W0 H y o := by
  rcases h with h | h
  · exact .inl h
  · cases h
structure BytesA (W0 : World) (H : List Grp) (a : Option Addr) (c : Nat) (S : Nat → Obj → Prop) (b : ByteArray) : Prop where
  sh : Sh a b.size c
  rd : Rd S a (u8s b.data.toList)
  at_ : ∀ y o, S y o → At W0 H y o
theorem BytesA.v {W0 : World} {H : List Grp} {a : Option Addr} {c : Nat} {S : Nat → Obj → Prop} {b : ByteArray} (h : BytesA W0 H a c S b) : BytesV W0 H (.slice a b.size c) b := ⟨a, c, S, rfl, h.sh, h.rd, h.at_⟩
theorem dWrite {s : DS} {M M' : DM} {e : Int} (h : s.ok M) (hm : Small M) (d : Nat) (path b : ByteArray) (hpath : path.size ≤ 9223372036854775807) (hb : b.size ≤ 1000000000) (K : List Grp) (W0 : World) (H : List Grp) {bv : Value} (hbv : BytesV W0 (K ++ H) bv b) (he : writeM M path b = (e, M')) :
    Tri Try.prog 13 #[.pointer (some ⟨d, 0, none⟩), .string path, bv] W0 (K ++ (s.G d M ++ H)) (IsK K d M' (.int .i64 e) H) := by
  have := cWrite h hm d path b hpath hb W0 (K ++ H) hbv
  rw [he] at this
  exact is_front this
theorem dAppend {s : DS} {M M' : DM} {e : Int} (h : s.ok M) (hm : Small M) (d : Nat) (path b : ByteArray) (hpath : path.size ≤ 9223372036854775807) (hb : b.size ≤ 1000000000) (K : List Grp) (W0 : World) (H : List Grp) {bv : Value} (hbv : BytesV W0 (K ++ H) bv b) (he : appendM M path b = (e, M')) :
    Tri Try.prog 22 #[.pointer (some ⟨d, 0, none⟩), .string path, bv] W0 (K ++ (s.G d M ++ H)) (IsK K d M' (.int .i64 e) H) := by
  have := cAppend h hm d path b hpath hb W0 (K ++ H) hbv
  rw [he] at this
  exact is_front this
theorem dSync {s : DS} {M M' : DM} {e : Int} (h : s.ok M) (hm : Small M) (d : Nat) (path : ByteArray) (hpath : path.size ≤ 9223372036854775807) (K : List Grp) (W0 : World) (H : List Grp) (he : syncM M path = (e, M')) :
    Tri Try.prog 14 #[.pointer (some ⟨d, 0, none⟩), .string path] W0 (K ++ (s.G d M ++ H)) (IsK K d M' (.int .i64 e) H) := by
  have := cSync h hm d path hpath W0 (K ++ H)
  rw [he] at this
  exact is_front this
theorem dRemove {s : DS} {M M' : DM} {e : Int} (h : s.ok M) (hm : Small M) (d : Nat) (path : ByteArray) (hpath : path.size ≤ 9223372036854775807) (K : List Grp) (W0 : World) (H : List Grp) (he : removeM M path = (e, M')) :
    Tri Try.prog 43 #[.pointer (some ⟨d, 0, none⟩), .string path] W0 (K ++ (s.G d M ++ H)) (IsK K d M' (.int .i64 e) H) := by
  have := cRemove h hm d path hpath W0 (K ++ H)
  rw [he] at this
  exact is_front this
theorem dSyncDir {s : DS} {M M' : DM} {e : Int} (h : s.ok M) (hm : Small M) (d : Nat) (path : ByteArray) (hpath : path.size ≤ 9223372036854775807) (K : List Grp) (W0 : World) (H : List Grp) (he : syncDirM M path = (e, M')) :
    Tri Try.prog 15 #[.pointer (some ⟨d, 0, none⟩), .string path] W0 (K ++ (s.G d M ++ H)) (IsK K d M' (.int .i64 e) H) := by
  have := cSyncDir h hm d path hpath W0 (K ++ H)
  rw [he] at this
  exact is_front this
theorem dRename {s : DS} {M M' : DM} {e : Int} (h : s.ok M) (hm : Small M) (d : Nat) (path to : ByteArray) (hpath : path.size ≤ 9223372036854775807) (hto : to.size ≤ 9223372036854775807) (K : List Grp) (W0 : World) (H : List Grp) (he : renameM M path to = (e, M')) :
    Tri Try.prog 17 #[.pointer (some ⟨d, 0, none⟩), .string path, .string to] W0 (K ++ (s.G d M ++ H)) (IsK K d M' (.int .i64 e) H) := by
  have := cRename h hm d path to hpath hto W0 (K ++ H)
  rw [he] at this
  exact is_front this
theorem dFail {s : DS} {M M' : DM} (h : s.ok M) (d : Nat) (n : Int) (o : Bool) (K : List Grp) (W0 : World) (H : List Grp) (he : failM M n o = M') :
    Tri Try.prog 16 #[.pointer (some ⟨d, 0, none⟩), .int .i64 n, .bool o] W0 (K ++ (s.G d M ++ H)) (IsK K d M' (.tuple #[]) H) := by
  have := cFail h d n o W0 (K ++ H)
  rw [he] at this
  exact is_front this
theorem dCrash {s : DS} {M M' : DM} (h : s.ok M) (hm : Small M) (d : Nat) (l : List Int) (a : Option Addr) (c : Nat) (S0 : Nat → Obj → Prop) (hks : KsOk S0 ⟨l, a, c⟩) (K : List Grp) (W0 : World) (H : List Grp) (hS0 : ∀ y o, S0 y o → At W0 (K ++ H) y o) (he : crashM M l = M') :
    Tri Try.prog 18 #[.pointer (some ⟨d, 0, none⟩), .slice a l.length c] W0 (K ++ (s.G d M ++ H)) (IsK K d M' (.tuple #[]) H) := by
  subst he
  exact is_front (cCrash h hm d ⟨l, a, c⟩ S0 hks W0 (K ++ H) hS0)
theorem dNew (room : Int) {M : DM} (W0 : World) (H : List Grp) (he : newM room = M) : Tri Try.prog 12 #[.int .i64 room] W0 H (fun v H' => ∃ d, v = .pointer (some ⟨d, 0, none⟩) ∧ ∃ s : DS, s.ok M ∧ H' = s.G d M ++ H) := by
  subst he; exact cNew room W0 H
theorem dRead {s : DS} {M : DM} {b : ByteArray} {e : Int} (h : s.ok M) (hm : ∀ B ∈ M.bodies, B.now.size ≤ 10000000) (d : Nat) (path : ByteArray) (K : List Grp) (W0 : World) (H : List Grp) (he : readM M path = (b, e)) :
    Tri Try.prog 19 #[.pointer (some ⟨d, 0, none⟩), .string path] W0 (K ++ (s.G d M ++ H)) (fun v H' => ∃ a c g, v = .tuple #[.slice a b.size c, .int .i64 e] ∧ b.size ≤ c ∧ Rd (inG g) a (u8s b.data.toList) ∧ H' = g :: (K ++ (s.G d M ++ H))) := by
  have := cRead h hm d path W0 (K ++ H)
  rw [he] at this
  refine Tri.heap (fun _ hw => front_to hw) (Tri.post this fun v H1 ⟨x, g, hv, ho, hH⟩ => ?_)
  obtain ⟨a, c, rfl, hc, hr⟩ := ho.shape
  refine ⟨_, ⟨a, c, g, hv, hc, hr, rfl⟩, fun w hw => ?_⟩
  rw [hH] at hw
  refine sat_cnt hw fun _ x => ?_
  simp only [List.flatten_cons, List.flatten_append, List.count_append]
  omega
theorem dUsed {s : DS} {M : DM} {n : Nat} (h : s.ok M) (hm : Small M) (d : Nat) (K : List Grp) (W0 : World) (H : List Grp) (he : usedM M = n) :
    Tri Try.prog 26 #[.pointer (some ⟨d, 0, none⟩)] W0 (K ++ (s.G d M ++ H)) (fun v H' => v = .int .i64 (n : Int) ∧ H' = K ++ (s.G d M ++ H)) := by
  subst he
  exact Tri.heap (fun _ hw => front_to hw) (Tri.post (cUsed h hm d W0 (K ++ H)) fun _ _ ⟨hv, hH⟩ => ⟨_, ⟨hv, rfl⟩, fun w hw => by rw [hH] at hw; exact front_to hw⟩)
theorem dList {s : DS} {M : DM} {L : List ByteArray} (h : s.ok M) (hm : Small M) (d : Nat) (dir : ByteArray) (K : List Grp) (W0 : World) (H : List Grp) (he : listM M dir = L) :
    Tri Try.prog 21 #[.pointer (some ⟨d, 0, none⟩), .string dir] W0 (K ++ (s.G d M ++ H)) (fun v H' => ∃ a c g, v = .slice a L.length c ∧ L.length ≤ c ∧ Rd (inG g) a (strs L) ∧ H' = g :: (K ++ (s.G d M ++ H))) := by
  subst he
  refine Tri.heap (fun _ hw => front_to hw) (Tri.post (cList h hm d dir W0 (K ++ H)) fun v H1 ⟨g, ho, hH⟩ => ?_)
  obtain ⟨a, c, hv, hc, hr⟩ := ho.shape
  refine ⟨_, ⟨a, c, g, hv, hc, hr, rfl⟩, fun w hw => ?_⟩
  rw [hH] at hw
  refine sat_cnt hw fun _ x => ?_
  simp only [List.flatten_cons, List.flatten_append, List.count_append]
  omega
end Go.Vf
namespace Go.Proofs.Ytbmieiffboenbaa
open Go Go.ChangeShapes Go.WideShapes Go.ChangeAt Go.RowKit Go.Sw Go.Vf
theorem laidOut_ : laidOutB Try.prog = true := by kernel_rfl
def SW (W : World) (y : Nat) (o : Obj) : Prop := y < W.heap.size ∧ W.heap[y]? = some o
theorem sw_at {W : World} {y : Nat} {o : Obj} (h : SW W y o) : At W [] y o := .inl h
theorem rd_cells {W : World} {a : Addr} {cs : List Value} (hn : cs ≠ []) (h : ∀ j u, cs[j]? = some u → W.cell? (a.add j) = some u) : (∃ b off, a = ⟨b, off, none⟩) ∧ Rd (SW W) (some a) cs := by
  obtain ⟨b, off, sp⟩ := a
  cases cs with
  | nil => exact absurd rfl hn
  | cons v r =>
    have h0 := h 0 v rfl
    unfold World.cell? at h0
    rw [show (Addr.add ⟨b, off, sp⟩ 0) = ⟨b, off, sp⟩ from rfl] at h0
    cases hb : W.heap[b]? with
    | none => rw [show (⟨b, off, sp⟩ : Addr).block = b from rfl, hb] at h0; cases h0
    | some o =>
      rw [show (⟨b, off, sp⟩ : Addr).block = b from rfl, hb] at h0
      cases o with
      | cells c e fz =>
        cases sp with
        | some s => simp at h0
        | none =>
          refine ⟨⟨b, off, rfl⟩, .inr ⟨b, off, c, e, fz, rfl, ⟨?_, hb⟩, fun j u hu => ?_⟩⟩
          · rcases Nat.lt_or_ge b W.heap.size with h | h
            · exact h
            · rw [Array.getElem?_eq_none h] at hb; cases hb
          · have hj := h j u hu
            rw [addr_add] at hj
            unfold World.cell? at hj
            rw [show (⟨b, off + j, none⟩ : Addr).block = b from rfl, hb] at hj
            simpa using hj
      | _ => cases h0
theorem wf_u8 {n : Int} (h : (Lit.int .u8 n).wf = true) : 0 ≤ n ∧ n < 256 := by
  simp [Lit.wf, IntKind.min, IntKind.max, IntKind.bits, IntKind.signed] at h
  omega
theorem wf_i64 {n : Int} (h : (Lit.int .i64 n).wf = true) : -9223372036854775808 ≤ n ∧ n ≤ 9223372036854775807 := by
  simp [Lit.wf, IntKind.min, IntKind.max, IntKind.bits, IntKind.signed] at h
  omega
def bytesZ (zs : List Int) : ByteArray := ⟨(zs.map fun z => UInt8.ofNat z.toNat).toArray⟩
theorem u8s_bytesZ {zs : List Int} (h : ∀ n ∈ zs, 0 ≤ n ∧ n < 256) : u8s (bytesZ zs).data.toList = zs.map (Value.int .u8) := by
  unfold u8s bytesZ
  simp only [List.map_map]
  refine List.map_congr_left fun z hz => ?_
  obtain ⟨h0, h1⟩ := h z hz
  simp only [Function.comp]
  congr 1
  rw [UInt8.toNat_ofNat']
  omega
theorem bytesZ_size (zs : List Int) : (bytesZ zs).size = zs.length := by
  show (zs.map fun z => UInt8.ofNat z.toNat).toArray.size = _
  simp
theorem cells_str : Try.prog.cellsOf 9 = 1 := by kernel_rfl
theorem cells_bs : Try.prog.cellsOf 24 = 1 := by kernel_rfl
theorem cells_is : Try.prog.cellsOf 25 = 1 := by kernel_rfl
theorem cells_op : Try.prog.cellsOf 41 = 6 := by kernel_rfl
theorem cells_u8 : Try.prog.cellsOf 5 = 1 := by kernel_rfl
theorem cells_int : Try.prog.cellsOf 3 = 1 := by kernel_rfl
set_option maxRecDepth 100000 in
theorem bytes_core {H : Type} {enc : TypeId × Value → H} {W : World} {cs : List Value} {x : DataW H × List MemPlace} {fuel : Nat} (hf : DataW.trod enc Try.prog W 0 (fun _ => true) true fuel 24 cs = some x) :
    ∃ (a : Option Addr) (c : Nat) (b : ByteArray), cs = [.slice a b.size c] ∧ BytesA W [] a c (SW W) b ∧ b.size ≤ 9223372036854775807 := by
  rcases open_ints Try.underlying24 Try.underlying5 cells_u8 hf with ⟨hcs, hx⟩ | ⟨a, len, cap, zs, hcs, _, hl, hm, hz, hx, hcell, hwz⟩
  · subst hcs
    exact ⟨none, 0, ByteArray.mk #[], rfl, ⟨.inl ⟨rfl, rfl, rfl⟩, .inl rfl, fun y o h => sw_at h⟩, by decide⟩
  · subst hcs
    simp only [if_true] at hz
    have hlen : (zs.take len).length = len := by rw [List.length_take]; omega
    have hu : u8s (bytesZ (zs.take len)).data.toList = (zs.take len).map (Value.int .u8) := u8s_bytesZ fun n hn => wf_u8 (hwz n (List.mem_of_mem_take hn))
    have hml : maxLen ≤ 9223372036854775807 := by decide
    refine ⟨some a, cap, bytesZ (zs.take len), by rw [bytesZ_size, hlen], ?_, by rw [bytesZ_size, hlen]; omega⟩
    by_cases h0 : len = 0
    · subst h0
      exact ⟨.inr (.inl ⟨a, rfl, by rw [bytesZ_size]; simp⟩), .inl (by rw [hu]; simp), fun y o h => sw_at h⟩
    · obtain ⟨⟨b, off, rfl⟩, hrd⟩ := rd_cells (W := W) (a := a) (cs := (zs.take len).map (Value.int .u8)) (by intro he; rw [List.map_eq_nil_iff] at he; rw [he] at hlen; simp at hlen; omega) (fun j u hu => by
        rw [List.getElem?_map] at hu
        obtain ⟨z, hz1, rfl⟩ := Option.map_eq_some_iff.1 hu
        have hj : j < len := by
          rcases Nat.lt_or_ge j (zs.take len).length with h | h
          · omega
          · rw [List.getElem?_eq_none h] at hz1; cases hz1
        rw [List.getElem?_take_of_lt hj] at hz1
        rw [hcell j (by omega), List.getD_eq_getElem?_getD, hz1]; rfl)
      exact ⟨.inr (.inr ⟨b, off, rfl⟩), by rw [hu]; exact hrd, fun y o h => sw_at h⟩
set_option maxRecDepth 100000 in
theorem ints_core {H : Type} {enc : TypeId × Value → H} {W : World} {cs : List Value} {x : DataW H × List MemPlace} {fuel : Nat} (hf : DataW.trod enc Try.prog W 0 (fun _ => true) true fuel 25 cs = some x) :
    ∃ (a : Option Addr) (c : Nat) (l : List Int), cs = [.slice a l.length c] ∧ Rd (SW W) a (l.map (Value.int .i64)) ∧ l.length ≤ c ∧ (∀ x ∈ l, -9223372036854775808 ≤ x ∧ x ≤ 9223372036854775807) ∧ l.length ≤ 9223372036854775807 := by
  rcases open_ints Try.underlying25 Try.underlying3 cells_int hf with ⟨hcs, hx⟩ | ⟨a, len, cap, zs, hcs, _, hl, hm, hz, hx, hcell, hwz⟩
  · subst hcs
    exact ⟨none, 0, [], rfl, .inl rfl, Nat.le_refl _, fun _ h => absurd h List.not_mem_nil, by decide⟩
  · subst hcs
    simp only [if_true] at hz
    have hlen : (zs.take len).length = len := by rw [List.length_take]; omega
    have hml : maxLen ≤ 9223372036854775807 := by decide
    refine ⟨some a, cap, zs.take len, by rw [hlen], ?_, by rw [hlen]; exact hl, fun x hx => wf_i64 (hwz x (List.mem_of_mem_take hx)), by rw [hlen]; omega⟩
    by_cases h0 : len = 0
    · subst h0; exact .inl (by simp)
    · exact (rd_cells (W := W) (a := a) (cs := (zs.take len).map (Value.int .i64)) (by intro he; rw [List.map_eq_nil_iff] at he; rw [he] at hlen; simp at hlen; omega) (fun j u hu => by
        rw [List.getElem?_map] at hu
        obtain ⟨z, hz1, rfl⟩ := Option.map_eq_some_iff.1 hu
        have hj : j < len := by
          rcases Nat.lt_or_ge j (zs.take len).length with h | h
          · omega
          · rw [List.getElem?_eq_none h] at hz1; cases hz1
        rw [List.getElem?_take_of_lt hj] at hz1
        rw [hcell j (by omega), List.getD_eq_getElem?_getD, hz1]; rfl)).2
end Go.Proofs.Ytbmieiffboenbaa
namespace Go.Vf
open Go.Sw Go.RowKit Go.Proofs Go.Proofs.Ytbmieiffboenbaa
structure OpV where
  kind : Int
  path : ByteArray
  to : ByteArray
  ba : Option Addr
  bc : Nat
  b : ByteArray
  n : Int
  ka : Option Addr
  kc : Nat
  k : List Int
instance : Inhabited OpV := ⟨⟨0, ByteArray.mk #[], ByteArray.mk #[], none, 0, ByteArray.mk #[], 0, none, 0, []⟩⟩
def opCells (o : OpV) : List Value := [.int .i64 o.kind, .string o.path, .string o.to, .slice o.ba o.b.size o.bc, .int .i64 o.n, .slice o.ka o.k.length o.kc]
structure OpOk (S : Nat → Obj → Prop) (W0 : World) (H : List Grp) (o : OpV) : Prop where
  kind : -9223372036854775808 ≤ o.kind ∧ o.kind ≤ 9223372036854775807
  path : o.path.size ≤ 9223372036854775807
  to : o.to.size ≤ 9223372036854775807
  b : BytesA W0 H o.ba o.bc S o.b
  bs : o.b.size ≤ 9223372036854775807
  n : -9223372036854775808 ≤ o.n ∧ o.n ≤ 9223372036854775807
  k : Rd S o.ka (o.k.map (Value.int .i64))
  kc : o.k.length ≤ o.kc
  ki : ∀ x ∈ o.k, -9223372036854775808 ≤ x ∧ x ≤ 9223372036854775807
  kl : o.k.length ≤ 9223372036854775807
  at_ : ∀ y o, S y o → At W0 H y o
theorem ops_len (l : List OpV) : (l.flatMap opCells).length = l.length * 6 := by
  induction l with
  | nil => rfl
  | cons o l ih => rw [List.flatMap_cons, List.length_append, ih, List.length_cons]; show 6 + _ = _; omega
theorem op_at {l : List OpV} {i : Nat} (h : i < l.length) : ∀ m, m < 6 → (l.flatMap opCells)[i * 6 + m]? = (opCells (l.getD i default))[m]? := by
  induction l generalizing i with
  | nil => simp at h
  | cons o l ih =>
    intro m hm
    rw [List.flatMap_cons]
    cases i with
    | zero =>
      rw [Nat.zero_mul, Nat.zero_add, List.getElem?_append_left (by show m < 6; exact hm)]; rfl
    | succ i =>
      have e : (i + 1) * 6 + m = 6 + (i * 6 + m) := by omega
      rw [e, List.getElem?_append_right (by show 6 ≤ _; omega), show (opCells o).length = 6 from rfl, Nat.add_sub_cancel_left, ih (by simpa using h) m hm, List.getD_cons_succ]
def kindU (o : OpV) : Int := Int.tmod (IntKind.wrap .u64 o.kind) 8
def tryM (M : DM) (o : OpV) : Int × DM :=
  if kindU o = 0 then writeM M o.path o.b else if kindU o = 1 then appendM M o.path o.b else if kindU o = 2 then renameM M o.path o.to
  else if kindU o = 3 then removeM M o.path else if kindU o = 4 then syncM M o.path else syncDirM M o.path
end Go.Vf
namespace Go.Proofs.Ytbmieiffboenbaa
open Go Go.ChangeShapes Go.WideShapes Go.ChangeAt Go.RowKit Go.Sw Go.Vf
set_option maxRecDepth 100000 in
theorem op_core {H : Type} {enc : TypeId × Value → H} {W : World} {cs : List Value} {x : DataW H × List MemPlace} {fuel : Nat} (hf : DataW.trod enc Try.prog W 0 (fun _ => true) true fuel 41 cs = some x) :
    ∃ o : OpV, cs = opCells o ∧ OpOk (SW W) W [] o := by
  obtain ⟨xs, n, rfl, rfl, hl, hx, hs⟩ := DataW.trod_struct Try.underlying41 hf
  have hl6 : cs.length = 6 := by rw [hl]; kernel_rfl
  obtain ⟨c0, c1, c2, c3, c4, c5, rfl⟩ : ∃ c0 c1 c2 c3 c4 c5, cs = [c0, c1, c2, c3, c4, c5] := by
    match cs, hl6 with
    | [c0, c1, c2, c3, c4, c5], _ => exact ⟨c0, c1, c2, c3, c4, c5, rfl⟩
  have h0 : DataW.trod enc Try.prog W 0 (fun _ => true) true n 3 ((List.drop 0 [c0, c1, c2, c3, c4, c5]).take (Try.prog.cellsOf 3)) = xs[0]? := hs 0 _ rfl
  rw [cells_int] at h0
  have h1 : DataW.trod enc Try.prog W 0 (fun _ => true) true n 9 ((List.drop 1 [c0, c1, c2, c3, c4, c5]).take (Try.prog.cellsOf 9)) = xs[1]? := hs 1 _ rfl
  rw [cells_str] at h1
  have h2 : DataW.trod enc Try.prog W 0 (fun _ => true) true n 9 ((List.drop 2 [c0, c1, c2, c3, c4, c5]).take (Try.prog.cellsOf 9)) = xs[2]? := hs 2 _ rfl
  rw [cells_str] at h2
  have h3 : DataW.trod enc Try.prog W 0 (fun _ => true) true n 24 ((List.drop 3 [c0, c1, c2, c3, c4, c5]).take (Try.prog.cellsOf 24)) = xs[3]? := hs 3 _ rfl
  rw [cells_bs] at h3
  have h4 : DataW.trod enc Try.prog W 0 (fun _ => true) true n 3 ((List.drop 4 [c0, c1, c2, c3, c4, c5]).take (Try.prog.cellsOf 3)) = xs[4]? := hs 4 _ rfl
  rw [cells_int] at h4
  have h5 : DataW.trod enc Try.prog W 0 (fun _ => true) true n 25 ((List.drop 5 [c0, c1, c2, c3, c4, c5]).take (Try.prog.cellsOf 25)) = xs[5]? := hs 5 _ rfl
  rw [cells_is] at h5
  have hx6 : xs.length = 6 := by rw [hx]; rfl
  rw [List.getElem?_eq_getElem (by omega)] at h0 h1 h2 h3 h4 h5
  simp only [List.drop_succ_cons, List.drop_zero, List.take_succ_cons, List.take_zero] at h0 h1 h2 h3 h4 h5
  obtain ⟨kd, e0, _, w0⟩ := DataW.trod_int Try.underlying3 h0
  obtain ⟨path, e1, _, w1⟩ := DataW.trod_string Try.underlying9 h1
  obtain ⟨to, e2, _, w2⟩ := DataW.trod_string Try.underlying9 h2
  obtain ⟨ba, bc, b, e3, w3, w31⟩ := bytes_core h3
  obtain ⟨m, e4, _, w4⟩ := DataW.trod_int Try.underlying3 h4
  obtain ⟨ka, kc, k, e5, w5, w51, w52, w53⟩ := ints_core h5
  injection e0 with e0 _
  injection e1 with e1 _
  injection e2 with e2 _
  injection e3 with e3 _
  injection e4 with e4 _
  injection e5 with e5 _
  subst e0 e1 e2 e3 e4 e5
  have hml : maxLen ≤ 9223372036854775807 := by decide
  exact ⟨⟨kd, path, to, ba, bc, b, m, ka, kc, k⟩, rfl, ⟨wf_i64 w0, by show path.size ≤ _; omega, by show to.size ≤ _; omega, w3, w31, wf_i64 w4, w5, w51, w52, w53, fun y o h => sw_at h⟩⟩
theorem add_add6 (a : Addr) (i j : Nat) (h : i ≤ j) : (a.add i).add (j - i) = a.add j := by
  unfold Addr.add
  by_cases hm0 : i = 0
  · simp [hm0]
  · by_cases hj0 : j - i = 0
    · have : j = i := by omega
      simp [this]
    · have : j ≠ 0 := by omega
      simp [hm0, hj0, this]
      omega
set_option maxRecDepth 100000 in
theorem open_script {H : Type} {enc : TypeId × Value → H} {W : World} {v : Value} {d : DataW H} {p : List MemPlace} {r : Reach} {b0 : Nat} (hval : Value.okWide Try.prog W r b0 38 v) (h0 : DataW.Trod enc Try.prog W 0 (fun _ => true) true 38 v d p) :
    ∃ (a : Option Addr) (c : Nat) (l : List OpV), v = .slice a l.length c ∧ Rd (SW W) a (l.flatMap opCells) ∧ l.length ≤ c ∧ (∀ o ∈ l, OpOk (SW W) W [] o) ∧ l.length ≤ 9223372036854775807 := by
  obtain ⟨a0, len, cap, rfl⟩ := okWide_slice Try.underlying38 hval
  obtain ⟨fuel, hf⟩ := h0
  have hml : maxLen ≤ 9223372036854775807 := by decide
  rcases DataW.trod_slice Try.underlying38 hf with ⟨hcs, _⟩ | ⟨a, len', cap', elems, rest, n, rfl, hcs, _, _, hl, hm, hlen, hel, _, _⟩
  · simp [Value.cells] at hcs
    obtain ⟨rfl, rfl, rfl⟩ := hcs
    exact ⟨none, 0, [], rfl, .inl rfl, Nat.le_refl _, fun _ h => absurd h List.not_mem_nil, by decide⟩
  · simp [Value.cells] at hcs
    obtain ⟨rfl, rfl, rfl⟩ := hcs
    rw [cells_op] at hel
    have each : ∀ i, i < len → ∃ o : OpV, OpOk (SW W) W [] o ∧ ∀ j, j < 6 → W.cell? ((a.add (i * 6)).add j) = (opCells o)[j]? := by
      intro i hi
      have h := hel i hi
      rw [List.getElem?_eq_getElem (by omega)] at h
      obtain ⟨cs, hc, ht⟩ := Option.bind_eq_some_iff.1 h
      obtain ⟨o, rfl, ho⟩ := op_core ht
      exact ⟨o, ho, (World.cells?_some hc).2.2⟩
    have build : ∀ m, m ≤ len → ∃ l : List OpV, l.length = m ∧ (∀ o ∈ l, OpOk (SW W) W [] o) ∧ ∀ j u, (l.flatMap opCells)[j]? = some u → W.cell? (a.add j) = some u := by
      intro m
      induction m with
      | zero => intro _; exact ⟨[], rfl, fun _ h => absurd h List.not_mem_nil, fun j u h => by simp at h⟩
      | succ m ih =>
        intro hm1
        obtain ⟨l, h1, h2, h3⟩ := ih (by omega)
        obtain ⟨o, ho, hc⟩ := each m (by omega)
        have hll : (l.flatMap opCells).length = m * 6 := by rw [ops_len, h1]
        refine ⟨l ++ [o], by simp [h1], fun x hx => ?_, fun j u hu => ?_⟩
        · rcases List.mem_append.1 hx with hx | hx
          · exact h2 x hx
          · rw [List.mem_singleton.1 hx]; exact ho
        · rw [List.flatMap_append] at hu
          rcases Nat.lt_or_ge j (m * 6) with hlt | hge
          · rw [List.getElem?_append_left (by omega)] at hu
            exact h3 j u hu
          · rw [List.getElem?_append_right (by omega), hll] at hu
            simp only [List.flatMap_cons, List.flatMap_nil, List.append_nil] at hu
            have hj : j - m * 6 < 6 := by
              rcases Nat.lt_or_ge (j - m * 6) 6 with h | h
              · exact h
              · rw [List.getElem?_eq_none (by exact h)] at hu; cases hu
            have h4 := hc (j - m * 6) hj
            rw [hu, add_add6 a (m * 6) j hge] at h4
            exact h4
    obtain ⟨l, h1, h2, h3⟩ := build len (Nat.le_refl _)
    refine ⟨some a, cap, l, by rw [h1], ?_, by omega, h2, by omega⟩
    by_cases h0 : l.flatMap opCells = []
    · rw [h0]; exact .inl rfl
    · exact (rd_cells h0 h3).2
end Go.Proofs.Ytbmieiffboenbaa
namespace Go.Vf
open Go.Sw Go.RowKit
def cells2 {α : Type} (f : α → Value × Value) (l : List α) : List Value := l.flatMap fun x => [(f x).1, (f x).2]
theorem cells2_len {α : Type} (f : α → Value × Value) (l : List α) : (cells2 f l).length = l.length * 2 := by
  unfold cells2
  induction l with
  | nil => rfl
  | cons x l ih => rw [List.flatMap_cons, List.length_append, ih]; simp only [List.length_cons, List.length_nil]; omega
theorem cells2_app {α : Type} (f : α → Value × Value) (l r : List α) : cells2 f (l ++ r) = cells2 f l ++ cells2 f r := by unfold cells2; rw [List.flatMap_append]
theorem cells2_at {α : Type} [Inhabited α] {f : α → Value × Value} {l : List α} {i : Nat} (h : i < l.length) : ∀ m, m < 2 → (cells2 f l)[i * 2 + m]? = [(f (l.getD i default)).1, (f (l.getD i default)).2][m]? := by
  unfold cells2
  induction l generalizing i with
  | nil => simp at h
  | cons x l ih =>
    intro m hm
    rw [List.flatMap_cons]
    cases i with
    | zero => rw [Nat.zero_mul, Nat.zero_add, List.getElem?_append_left (by show m < 2; exact hm)]; rfl
    | succ i =>
      have e : (i + 1) * 2 + m = 2 + (i * 2 + m) := by omega
      rw [e, List.getElem?_append_right (by show 2 ≤ _; omega), show [(f x).1, (f x).2].length = 2 from rfl, Nat.add_sub_cancel_left, ih (by simpa using h) m hm, List.getD_cons_succ]
theorem cells2_at0 {α : Type} [Inhabited α] {f : α → Value × Value} {l : List α} {i : Nat} (h : i < l.length) : (cells2 f l)[i * 2]? = some (f (l.getD i default)).1 := by
  have := cells2_at (f := f) h 0 (by omega)
  rwa [Nat.add_zero] at this
theorem cells2_at1 {α : Type} [Inhabited α] {f : α → Value × Value} {l : List α} {i : Nat} (h : i < l.length) : (cells2 f l)[i * 2 + 1]? = some (f (l.getD i default)).2 := cells2_at (f := f) h 1 (by omega)
theorem cells2_ne {α : Type} {f : α → Value × Value} {l : List α} {i : Nat} (h : i < l.length) : cells2 f l ≠ [] := by
  intro e
  have := congrArg List.length e
  rw [cells2_len] at this
  simp only [List.length_nil] at this
  omega
def nmC (l : List Nm) : List Value := cells2 (fun x => (.string x.1, .int .i64 x.2)) l
def bdC (l : List Body) : List Value := cells2 (fun x => (.string x.now, .string x.kept)) l
structure CR where
  dir : ByteArray
  l : List Nm
  a : Option Addr
  c : Nat
instance : Inhabited CR := ⟨⟨ByteArray.mk #[], [], none, 0⟩⟩
def chC (l : List CR) : List Value := cells2 (fun x => (.string x.dir, .slice x.a x.l.length x.c)) l
theorem nmC_app (l r : List Nm) : nmC (l ++ r) = nmC l ++ nmC r := cells2_app _ _ _
def atR (l : List Nm) (p : ByteArray) : Int := (lookN l p).getD (-1)
theorem at_hit {l : List Nm} {p : ByteArray} {k : Nat} (hk : k < l.length) (hno : lookN (l.take k) p = none) (he : ((l.getD k default).1.toList == p.toList) = true) : atR l p = (l.getD k default).2 := by
  unfold atR
  have h1 : l = l.take k ++ (l.getD k default :: l.drop (k + 1)) := by
    rw [List.getD_eq_getElem?_getD, List.getElem?_eq_getElem hk]
    simp
  rw [h1, lookN_app, hno, lookN, ← h1]
  rw [tlEq, baEq] at he
  rw [he, if_pos (baEq.2 rfl)]
  simp
theorem at_miss {l : List Nm} {p : ByteArray} {k : Nat} (hk : k < l.length) (hno : lookN (l.take k) p = none) (he : ((l.getD k default).1.toList == p.toList) = false) : lookN (l.take (k + 1)) p = none := by
  rw [take_snoc (d := default) hk, lookN_app, hno, lookN]
  rw [if_neg]
  · rfl
  · intro h
    rw [baEq] at h
    rw [h, beq_self_eq_true] at he
    cases he
theorem at_none {l : List Nm} {p : ByteArray} (h : lookN l p = none) : atR l p = -1 := by unfold atR; rw [h]; rfl
def outN (l : List Nm) (x : Nm) (k : Nat) : List Nm := (l.take k).filter fun n => !(x.1 == n.1)
theorem outN_len (l : List Nm) (x : Nm) (k : Nat) : (outN l x k).length ≤ l.length := by
  unfold outN
  exact Nat.le_trans (List.length_filter_le _ _) (by rw [List.length_take]; omega)
theorem outN_put {l : List Nm} {x : Nm} {k : Nat} (hk : k < l.length) (he : (!((l.getD k default).1.toList == x.1.toList)) = true) : outN l x (k + 1) = outN l x k ++ [l.getD k default] := by
  unfold outN
  rw [take_snoc (d := default) hk, List.filter_append, List.filter_cons]
  rw [tlEq] at he
  have : (x.1 == (l.getD k default).1) = false := by
    rw [Bool.not_eq_true'] at he
    rw [baNe] at he ⊢; exact fun e => he e.symm
  rw [this]; rfl
theorem outN_skip {l : List Nm} {x : Nm} {k : Nat} (hk : k < l.length) (he : (!((l.getD k default).1.toList == x.1.toList)) = false) : outN l x (k + 1) = outN l x k := by
  unfold outN
  rw [take_snoc (d := default) hk, List.filter_append, List.filter_cons]
  rw [tlEq] at he
  have : (x.1 == (l.getD k default).1) = true := by
    rw [Bool.not_eq_false', baEq] at he
    rw [baEq]; exact he.symm
  rw [this]; simp
theorem own_put {l : List Nm} {x : Nm} {k : Nat} {v : Value} {g : Grp} (hk : k < l.length) (he : (!((l.getD k default).1.toList == x.1.toList)) = true) (h : Own 94 2 v g ((outN l x k).length + 1) (nmC (outN l x k) ++ [.string (l.getD k default).1, .int .i64 (l.getD k default).2])) : Own 94 2 v g (outN l x (k + 1)).length (nmC (outN l x (k + 1))) := by
  rw [outN_put hk he, nmC_app, List.length_append]; exact h
theorem own_skip {l : List Nm} {x : Nm} {k : Nat} {v : Value} {g : Grp} (hk : k < l.length) (he : (!((l.getD k default).1.toList == x.1.toList)) = false) (h : Own 94 2 v g (outN l x k).length (nmC (outN l x k))) : Own 94 2 v g (outN l x (k + 1)).length (nmC (outN l x (k + 1))) := by
  rw [outN_skip hk he]; exact h
theorem with_out1 {l : List Nm} {x : Nm} {k : Nat} (hk : l.length ≤ k) (hx : x.2 ≥ 0) : withN l x = outN l x k ++ [x] := by
  unfold withN outN
  rw [List.take_of_length_le hk, if_pos hx]
theorem with_out0 {l : List Nm} {x : Nm} {k : Nat} (hk : l.length ≤ k) (hx : ¬ x.2 ≥ 0) : withN l x = outN l x k := by
  unfold withN outN
  rw [List.take_of_length_le hk, if_neg hx, List.append_nil]
theorem own_with1 {l : List Nm} {x : Nm} {k : Nat} {v : Value} {g : Grp} (hk : l.length ≤ k) (hx : x.2 ≥ 0) (h : Own 94 2 v g ((outN l x k).length + 1) (nmC (outN l x k) ++ [.string x.1, .int .i64 x.2])) : Own 94 2 v g (withN l x).length (nmC (withN l x)) := by
  rw [with_out1 hk hx, nmC_app, List.length_append]; exact h
theorem own_with0 {l : List Nm} {x : Nm} {k : Nat} {v : Value} {g : Grp} (hk : l.length ≤ k) (hx : ¬ x.2 ≥ 0) (h : Own 94 2 v g (outN l x k).length (nmC (outN l x k))) : Own 94 2 v g (withN l x).length (nmC (withN l x)) := by
  rw [with_out0 hk hx]; exact h
end Go.Vf
namespace Go.Proofs.Ytbmieiffboenbaa
open Go.Sw Go.Lib Go.Vf Go.RowKit
theorem rAt (na : Option Addr) (nc : Nat) (S : Nat → Obj → Prop) (l : List Nm) (p : ByteArray) (hrd : Rd S na (nmC l)) (hl : l.length ≤ 1000000) (W0 : World) (H : List Grp) (hS : ∀ y o, S y o → At W0 H y o) : Tri Try.prog 54 #[.slice na l.length nc, .string p] W0 H (fun v H' => v = .int .i64 (atR l p) ∧ H' = H) := by
  refine Tri_of (args := [.slice na l.length nc, .string p]) (n := 20) Try.func54 rfl rfl (Nat.le_of_ble_eq_true rfl) ?_
  refine G_seq ?_
  refine G_pure (E' := [⟨0, [], .slice na l.length nc⟩, ⟨1, [], .string p⟩]) [0] [0, 1] rfl (by kernel_rfl) ?_
  refine N_then ?_
  refine G_seq ?_
  refine G_seq ?_
  refine G_pure (E' := [⟨1, [], .string p⟩, ⟨7, [], .slice na l.length nc⟩, ⟨8, [], .int .i64 ((l.length : Nat) : Int)⟩, ⟨9, [], .int .i64 0⟩]) [0, 0, 0] [1, 7, 8, 9] rfl (by kernel_rfl) ?_
  refine N_then ?_
  refine G_block ?_
  refine G_loop (EI := (fun ξ : Nat => [⟨1, [], .string p⟩, ⟨7, [], .slice na l.length nc⟩, ⟨8, [], .int .i64 ((l.length : Nat) : Int)⟩, ⟨9, [], .int .i64 ((ξ : Nat) : Int)⟩])) (HI := (fun ξ : Nat => H)) (Φ := (fun ξ : Nat => (ξ ≤ l.length) ∧ (lookN (l.take ξ) p = none))) (μ := (fun ξ : Nat => l.length - ξ)) (s0 := (0)) [1, 7, 8, 9] (by kernel_rfl) rfl ⟨(by omega), rfl⟩ ?_
  rintro k ⟨hk, hno⟩
  replace hk : k ≤ l.length := hk
  replace hno : lookN (l.take k) p = none := hno
  refine G_seq ?_
  refine G_pure (E' := [⟨1, [], .string p⟩, ⟨7, [], .slice na l.length nc⟩, ⟨8, [], .int .i64 ((l.length : Nat) : Int)⟩, ⟨9, [], .int .i64 ((k : Nat) : Int)⟩, ⟨10, [], .bool (decide (((k : Nat) : Int) < ((l.length : Nat) : Int)))⟩]) [0] [1, 7, 8, 9, 10] rfl (by kernel_rfl) ?_
  refine N_then ?_
  refine G_seq ?_
  refine G_cond (b := decide (((k : Nat) : Int) < ((l.length : Nat) : Int))) (by kernel_rfl) (fun hc1 => ?_) (fun hc1 => ?_)
  ·
    replace hc1 := of_decide_eq_true hc1
    refine G_skip ?_
    refine N_then ?_
    refine G_seq ?_
    refine G_block ?_
    refine G_seq ?_
    refine G_region ?_
    refine GL_indexAddr (i := 0) (ch := []) (a := na) (len := l.length) (cap := nc) (kd := .i64) (j := ((k : Nat) : Int)) (e := 94) (sz := 2) (S := S) (cs := (nmC l)) rfl rfl (by kernel_rfl) (by kernel_rfl) (by kernel_rfl) (by kernel_rfl) (by kernel_rfl) (by kernel_rfl) (by kernel_rfl) hrd (fun _ => by exact ⟨by omega, by omega, cells2_ne (i := 0) (by omega)⟩) ?_
    refine GL_loadSA (i := 1) (ch := []) (a := na) (q := k * 2) (S := S) (cs := (nmC l)) (l := [.string ((l.getD k default).1), .int .i64 ((l.getD k default).2)]) rfl rfl (by kernel_rfl) (by kernel_rfl) (by kernel_rfl) (by kernel_rfl) (by kernel_rfl) (by kernel_rfl) hrd (fun y o h => (hS y o h)) (List.cons_ne_nil _ _) (fun _ => (fun m hm => (cells2_at (by omega) m hm).trans (List.getElem?_eq_getElem hm))) ?_
    refine GL_alloc (i := 2) (ch := []) (z := .agg #[.string (ByteArray.mk #[]), .int .i64 0]) rfl rfl (by kernel_rfl) (by kernel_rfl) (by kernel_rfl) (by kernel_rfl) (fun b2 => ?_)
    refine GL_store (i := 3) (ch := []) (b := b2) (off := 0) (v := .agg #[.string ((l.getD k default).1), .int .i64 ((l.getD k default).2)]) (c := #[.string (ByteArray.mk #[]), .int .i64 0]) (c' := #[.string ((l.getD k default).1), .int .i64 ((l.getD k default).2)]) (j := 0) (m := 0) (H' := ([(b2, .cells #[.string ((l.getD k default).1), .int .i64 ((l.getD k default).2)] 94 (0, 0))] :: H)) rfl rfl (by kernel_rfl) (by kernel_rfl) (by kernel_rfl) (by kernel_rfl) (by kernel_rfl) (by kernel_rfl) (by kernel_rfl) rfl rfl (Nat.le_of_ble_eq_true rfl) (fun _ _ => thaw0) (by kernel_rfl) (by kernel_rfl) ?_
    refine GL_fin (E' := [⟨1, [], .string p⟩, ⟨6, [], pt b2⟩, ⟨7, [], .slice na l.length nc⟩, ⟨8, [], .int .i64 ((l.length : Nat) : Int)⟩, ⟨9, [], .int .i64 ((k : Nat) : Int)⟩]) [] [1, 6, 7, 8, 9] rfl (by kernel_rfl) ?_
    refine N_then ?_
    refine G_seq ?_
    refine G_region ?_
    refine GL_pure (E' := [⟨13, [], pt b2⟩, ⟨1, [], .string p⟩, ⟨6, [], pt b2⟩, ⟨7, [], .slice na l.length nc⟩, ⟨8, [], .int .i64 ((l.length : Nat) : Int)⟩, ⟨9, [], .int .i64 ((k : Nat) : Int)⟩]) [0] (by kernel_rfl) (j := 1) rfl ?_
    refine GL_load (i := 1) (ch := []) (b := b2) (off := 0) (v := .string ((l.getD k default).1)) rfl rfl (by kernel_rfl) (by kernel_rfl) (by kernel_rfl) (by kernel_rfl) (by kernel_rfl) (At.grp 0 0 rfl rfl) rfl ?_
    refine GL_fin (E' := [⟨1, [], .string p⟩, ⟨6, [], pt b2⟩, ⟨7, [], .slice na l.length nc⟩, ⟨8, [], .int .i64 ((l.length : Nat) : Int)⟩, ⟨9, [], .int .i64 ((k : Nat) : Int)⟩, ⟨16, [], .bool (((l.getD k default).1).toList == p.toList)⟩]) [0, 0] [1, 6, 7, 8, 9, 16] rfl (by kernel_rfl) ?_
    refine N_then ?_
    refine G_cond (b := ((l.getD k default).1).toList == p.toList) (by kernel_rfl) (fun hc3 => ?_) (fun hc3 => ?_)
    ·
      have he := hc3
      -- L hit
      refine G_seq ?_
      refine G_region ?_
      refine GL_pure (E' := [⟨17, [], .pointer (some ⟨b2, 1, none⟩)⟩]) [0] (by kernel_rfl) (j := 1) rfl ?_
      refine GL_load (i := 1) (ch := []) (b := b2) (off := 1) (v := .int .i64 ((l.getD k default).2)) rfl rfl (by kernel_rfl) (by kernel_rfl) (by kernel_rfl) (by kernel_rfl) (by kernel_rfl) (At.grp 0 0 rfl rfl) rfl ?_
      refine GL_fin (E' := [⟨4, [], .int .i64 ((l.getD k default).2)⟩]) [0] [4] rfl (by kernel_rfl) ?_
      refine N_then ?_
      refine G_ret ?_
      refine N_block_ret ?_
      refine N_then_ret ?_
      refine N_then_ret ?_
      refine N_block_ret ?_
      refine N_then_ret ?_
      refine N_heap (H' := H) (fun w h => h.erase 0) ?_
      refine N_ret [.tmp 4] [.int .i64 ((l.getD k default).2)] rfl (by kernel_rfl) rfl ?_
      exact ⟨by rw [at_hit (by omega) hno he]; rfl, rfl⟩
    ·
      have he := hc3
      refine G_skip ?_
      refine N_block ?_
      refine N_then ?_
      have hw4 : IntKind.wrap .i64 (((k : Nat) : Int) + 1) = ((k : Nat) : Int) + 1 := w64 (by omega) (by omega)
      refine G_pure (E' := [⟨1, [], .string p⟩, ⟨7, [], .slice na l.length nc⟩, ⟨8, [], .int .i64 ((l.length : Nat) : Int)⟩, ⟨9, [], .int .i64 (((k : Nat) : Int) + 1)⟩]) [0, 0] [1, 7, 8, 9] rfl (Eq.trans (b := some [⟨1, [], .string p⟩, ⟨7, [], .slice na l.length nc⟩, ⟨8, [], .int .i64 ((l.length : Nat) : Int)⟩, ⟨9, [], .int .i64 (IntKind.wrap .i64 (((k : Nat) : Int) + 1))⟩]) (by kernel_rfl) (by simp only [hw4])) ?_
      refine N_heap (H' := H) (fun w h => (h.erase 0)) ?_
      refine N_round (s' := (k + 1)) [1, 7, 8, 9] (by kernel_rfl) rfl ⟨(by omega), (at_miss (by omega) hno he)⟩ (by omega)
  ·
    replace hc1 := of_decide_eq_false hc1
    refine G_exit ?_
    refine N_then_exit ?_
    refine N_then_exit ?_
    refine N_block_exit ?_
    refine N_then ?_
    refine G_seq ?_
    refine G_pure (E' := [⟨4, [], .int .i64 (-1)⟩]) [0] [4] rfl (by kernel_rfl) ?_
    refine N_then ?_
    refine G_ret ?_
    refine N_ret [.tmp 4] [.int .i64 (-1)] rfl (by kernel_rfl) rfl ?_
    exact ⟨by rw [at_none (by rw [List.take_of_length_le (by omega)] at hno; exact hno)]; rfl, rfl⟩
theorem rAtN (na : Option Addr) (nc : Nat) (S : Nat → Obj → Prop) (l : List Nm) (p : ByteArray) (hrd : Rd S na (nmC l)) (hl : l.length ≤ 1000000) (W0 : World) (H : List Grp) (hS : ∀ y o, S y o → At W0 H y o) (n : Nat) (hn : n = l.length) : Tri Try.prog 54 #[.slice na n nc, .string p] W0 H (fun v H' => v = .int .i64 (atR l p) ∧ H' = H) := by
  subst hn; exact rAt na nc S l p hrd hl W0 H hS
theorem rWith (na : Option Addr) (nc : Nat) (S : Nat → Obj → Prop) (l : List Nm) (x : Nm) (hrd : Rd S na (nmC l)) (hl : l.length ≤ 1000000) (W0 : World) (H : List Grp) (hS : ∀ y o, S y o → At W0 H y o) : Tri Try.prog 80 #[.slice na l.length nc, .agg #[.string x.1, .int .i64 x.2]] W0 H (fun v H' => ∃ g, Own 94 2 v g (withN l x).length (nmC (withN l x)) ∧ H' = g :: H) := by
  refine Tri_of (args := [.slice na l.length nc, .agg #[.string x.1, .int .i64 x.2]]) (n := 32) Try.func80 rfl rfl (Nat.le_of_ble_eq_true rfl) ?_
  refine G_seq ?_
  refine G_region ?_
  refine GL_box (i := 0) (ch := []) (v := .agg #[.string x.1, .int .i64 x.2]) rfl rfl (by kernel_rfl) (by kernel_rfl) (by kernel_rfl) (by kernel_rfl) (fun b1 => ?_)
  refine GL_fin (E' := [⟨0, [], .slice na l.length nc⟩, ⟨3, [], pt b1⟩]) [0] [0, 3] rfl (by kernel_rfl) ?_
  refine N_then ?_
  refine G_seq ?_
  refine G_pure (E' := [⟨0, [], .slice na l.length nc⟩, ⟨3, [], pt b1⟩, ⟨5, [], .slice none 0 0⟩]) [0] [0, 3, 5] rfl (by kernel_rfl) ?_
  refine N_then ?_
  refine G_seq ?_
  refine G_seq ?_
  refine G_pure (E' := [⟨3, [], pt b1⟩, ⟨5, [], .slice none 0 0⟩, ⟨8, [], .slice na l.length nc⟩, ⟨9, [], .int .i64 ((l.length : Nat) : Int)⟩, ⟨10, [], .int .i64 0⟩]) [0, 0, 0] [3, 5, 8, 9, 10] rfl (by kernel_rfl) ?_
  refine N_then ?_
  refine G_block ?_
  refine G_heap (H' := ([] :: [(b1, .cells #[.string x.1, .int .i64 x.2] 94 (0, 0))] :: H)) (fun w h => flat_nil' (A := []) h) ?_
  refine G_loop (EI := (fun ξ : Nat × Value × Grp => [⟨3, [], pt b1⟩, ⟨5, [], ξ.2.1⟩, ⟨8, [], .slice na l.length nc⟩, ⟨9, [], .int .i64 ((l.length : Nat) : Int)⟩, ⟨10, [], .int .i64 ((ξ.1 : Nat) : Int)⟩])) (HI := (fun ξ : Nat × Value × Grp => (ξ.2.2 :: [(b1, .cells #[.string x.1, .int .i64 x.2] 94 (0, 0))] :: H))) (Φ := (fun ξ : Nat × Value × Grp => (ξ.1 ≤ l.length) ∧ (Own 94 2 ξ.2.1 ξ.2.2 (outN l x ξ.1).length (nmC (outN l x ξ.1))))) (μ := (fun ξ : Nat × Value × Grp => l.length - ξ.1)) (s0 := (0, .slice none 0 0, [])) [3, 5, 8, 9, 10] (by kernel_rfl) rfl ⟨(by omega), Own.nil⟩ ?_
  rintro ⟨k, vn, gn⟩ ⟨hk, hO⟩
  replace hk : k ≤ l.length := hk
  replace hO : Own 94 2 vn gn (outN l x k).length (nmC (outN l x k)) := hO
  have hol := outN_len l x k
  refine G_seq ?_
  refine G_pure (E' := [⟨3, [], pt b1⟩, ⟨5, [], vn⟩, ⟨8, [], .slice na l.length nc⟩, ⟨9, [], .int .i64 ((l.length : Nat) : Int)⟩, ⟨10, [], .int .i64 ((k : Nat) : Int)⟩, ⟨11, [], .bool (decide (((k : Nat) : Int) < ((l.length : Nat) : Int)))⟩]) [0] [3, 5, 8, 9, 10, 11] rfl (by kernel_rfl) ?_
  refine N_then ?_
  refine G_seq ?_
  refine G_cond (b := decide (((k : Nat) : Int) < ((l.length : Nat) : Int))) (by kernel_rfl) (fun hc2 => ?_) (fun hc2 => ?_)
  ·
    replace hc2 := of_decide_eq_true hc2
    refine G_skip ?_
    refine N_then ?_
    refine G_seq ?_
    refine G_block ?_
    refine G_seq ?_
    refine G_region ?_
    refine GL_indexAddr (i := 0) (ch := []) (a := na) (len := l.length) (cap := nc) (kd := .i64) (j := ((k : Nat) : Int)) (e := 94) (sz := 2) (S := S) (cs := (nmC l)) rfl rfl (by kernel_rfl) (by kernel_rfl) (by kernel_rfl) (by kernel_rfl) (by kernel_rfl) (by kernel_rfl) (by kernel_rfl) hrd (fun _ => by exact ⟨by omega, by omega, cells2_ne (i := 0) (by omega)⟩) ?_
    refine GL_loadSA (i := 1) (ch := []) (a := na) (q := k * 2) (S := S) (cs := (nmC l)) (l := [.string ((l.getD k default).1), .int .i64 ((l.getD k default).2)]) rfl rfl (by kernel_rfl) (by kernel_rfl) (by kernel_rfl) (by kernel_rfl) (by kernel_rfl) (by kernel_rfl) hrd (fun y o h => (At.cons (At.cons (hS y o h)))) (List.cons_ne_nil _ _) (fun _ => (fun m hm => (cells2_at (by omega) m hm).trans (List.getElem?_eq_getElem hm))) ?_
    refine GL_alloc (i := 2) (ch := []) (z := .agg #[.string (ByteArray.mk #[]), .int .i64 0]) rfl rfl (by kernel_rfl) (by kernel_rfl) (by kernel_rfl) (by kernel_rfl) (fun b3 => ?_)
    refine GL_store (i := 3) (ch := []) (b := b3) (off := 0) (v := .agg #[.string ((l.getD k default).1), .int .i64 ((l.getD k default).2)]) (c := #[.string (ByteArray.mk #[]), .int .i64 0]) (c' := #[.string ((l.getD k default).1), .int .i64 ((l.getD k default).2)]) (j := 0) (m := 0) (H' := ([(b3, .cells #[.string ((l.getD k default).1), .int .i64 ((l.getD k default).2)] 94 (0, 0))] :: gn :: [(b1, .cells #[.string x.1, .int .i64 x.2] 94 (0, 0))] :: H)) rfl rfl (by kernel_rfl) (by kernel_rfl) (by kernel_rfl) (by kernel_rfl) (by kernel_rfl) (by kernel_rfl) (by kernel_rfl) rfl rfl (Nat.le_of_ble_eq_true rfl) (fun _ _ => thaw0) (by kernel_rfl) (by kernel_rfl) ?_
    refine GL_fin (E' := [⟨3, [], pt b1⟩, ⟨5, [], vn⟩, ⟨7, [], pt b3⟩, ⟨8, [], .slice na l.length nc⟩, ⟨9, [], .int .i64 ((l.length : Nat) : Int)⟩, ⟨10, [], .int .i64 ((k : Nat) : Int)⟩]) [] [3, 5, 7, 8, 9, 10] rfl (by kernel_rfl) ?_
    refine N_then ?_
    refine G_seq ?_
    refine G_region ?_
    refine GL_pure (E' := [⟨14, [], pt b3⟩, ⟨3, [], pt b1⟩, ⟨5, [], vn⟩, ⟨7, [], pt b3⟩, ⟨8, [], .slice na l.length nc⟩, ⟨9, [], .int .i64 ((l.length : Nat) : Int)⟩, ⟨10, [], .int .i64 ((k : Nat) : Int)⟩]) [0] (by kernel_rfl) (j := 1) rfl ?_
    refine GL_load (i := 1) (ch := []) (b := b3) (off := 0) (v := .string ((l.getD k default).1)) rfl rfl (by kernel_rfl) (by kernel_rfl) (by kernel_rfl) (by kernel_rfl) (by kernel_rfl) (At.grp 0 0 rfl rfl) rfl ?_
    refine GL_pure (E' := [⟨16, [], pt b1⟩, ⟨15, [], .string ((l.getD k default).1)⟩, ⟨3, [], pt b1⟩, ⟨5, [], vn⟩, ⟨7, [], pt b3⟩, ⟨8, [], .slice na l.length nc⟩, ⟨9, [], .int .i64 ((l.length : Nat) : Int)⟩, ⟨10, [], .int .i64 ((k : Nat) : Int)⟩]) [0] (by kernel_rfl) (j := 3) rfl ?_
    refine GL_load (i := 3) (ch := []) (b := b1) (off := 0) (v := .string x.1) rfl rfl (by kernel_rfl) (by kernel_rfl) (by kernel_rfl) (by kernel_rfl) (by kernel_rfl) (At.grp 2 0 rfl rfl) rfl ?_
    refine GL_fin (E' := [⟨3, [], pt b1⟩, ⟨5, [], vn⟩, ⟨7, [], pt b3⟩, ⟨8, [], .slice na l.length nc⟩, ⟨9, [], .int .i64 ((l.length : Nat) : Int)⟩, ⟨10, [], .int .i64 ((k : Nat) : Int)⟩, ⟨18, [], .bool (!(((l.getD k default).1).toList == x.1.toList))⟩]) [0] [3, 5, 7, 8, 9, 10, 18] rfl (by kernel_rfl) ?_
    refine N_then ?_
    refine G_cond (b := !(((l.getD k default).1).toList == x.1.toList)) (by kernel_rfl) (fun hc4 => ?_) (fun hc4 => ?_)
    ·
      have he := hc4
      -- L put
      refine G_region ?_
      refine GL_pure (E' := [⟨19, [], vn⟩, ⟨3, [], pt b1⟩, ⟨5, [], vn⟩, ⟨7, [], pt b3⟩, ⟨8, [], .slice na l.length nc⟩, ⟨9, [], .int .i64 ((l.length : Nat) : Int)⟩, ⟨10, [], .int .i64 ((k : Nat) : Int)⟩]) [0] (by kernel_rfl) (j := 1) rfl ?_
      refine GL_loadA (i := 1) (ch := []) (b := b3) (off := 0) (l := [.string ((l.getD k default).1), .int .i64 ((l.getD k default).2)]) rfl rfl (by kernel_rfl) (by kernel_rfl) (by kernel_rfl) (by kernel_rfl) (by kernel_rfl) (by kernel_rfl) (At.grp 0 0 rfl rfl) (by kernel_rfl) ?_
      refine GL_buildSlice (i := 2) (ch := []) (e := 94) (l := [(0, .agg #[.string ((l.getD k default).1), .int .i64 ((l.getD k default).2)])]) (c := [.string ((l.getD k default).1), .int .i64 ((l.getD k default).2)]) rfl rfl (by kernel_rfl) (by kernel_rfl) (by kernel_rfl) (by kernel_rfl) (by kernel_rfl) (fun b5 => ?_)
      refine GL_append (i := 3) (ch := []) (t := 83) (tx := 83) (e := 94) (inf := Try.t94) (s := vn) (x := .slice (some ⟨b5, 0, none⟩) 1 1) (n := (outN l x k).length) (m := 1) (j := 2) (cs := (nmC (outN l x k))) (news := [.string ((l.getD k default).1), .int .i64 ((l.getD k default).2)]) (g := gn) (S := (inG [(b5, .cells #[.string ((l.getD k default).1), .int .i64 ((l.getD k default).2)] 94 (0, 0))])) rfl rfl rfl rfl (by kernel_rfl) (by kernel_rfl) (by kernel_rfl) rfl rfl (.inl ⟨94, (by kernel_rfl)⟩) (fun ⟨_, h⟩ => by cases h) (fun _ => ⟨94, (by kernel_rfl)⟩) (by kernel_rfl) (by kernel_rfl) (by kernel_rfl) rfl hO (SrcOf.slice _ _ _ _ Rd.lit (fun h => by cases h)) (at_inG 0 rfl) (by kernel_rfl) (by intro u hu; simp only [List.mem_cons, List.not_mem_nil, or_false] at hu; rcases hu with rfl | rfl <;> rfl) (by omega) (by show ((outN l x k).length + 1) * 24 ≤ 140737488355328; omega) (fun v6 g7 hO8 => ?_)
      refine GL_fin (E' := [⟨3, [], pt b1⟩, ⟨5, [], v6⟩, ⟨8, [], .slice na l.length nc⟩, ⟨9, [], .int .i64 ((l.length : Nat) : Int)⟩, ⟨10, [], .int .i64 ((k : Nat) : Int)⟩]) [0] [3, 5, 8, 9, 10] rfl (by kernel_rfl) ?_
      refine N_block ?_
      refine N_then ?_
      have hw9 : IntKind.wrap .i64 (((k : Nat) : Int) + 1) = ((k : Nat) : Int) + 1 := w64 (by omega) (by omega)
      refine G_pure (E' := [⟨3, [], pt b1⟩, ⟨5, [], v6⟩, ⟨8, [], .slice na l.length nc⟩, ⟨9, [], .int .i64 ((l.length : Nat) : Int)⟩, ⟨10, [], .int .i64 (((k : Nat) : Int) + 1)⟩]) [0, 0] [3, 5, 8, 9, 10] rfl (Eq.trans (b := some [⟨3, [], pt b1⟩, ⟨5, [], v6⟩, ⟨8, [], .slice na l.length nc⟩, ⟨9, [], .int .i64 ((l.length : Nat) : Int)⟩, ⟨10, [], .int .i64 (IntKind.wrap .i64 (((k : Nat) : Int) + 1))⟩]) (by kernel_rfl) (by simp only [hw9])) ?_
      refine N_heap (H' := (g7 :: [(b1, .cells #[.string x.1, .int .i64 x.2] 94 (0, 0))] :: H)) (fun w h => ((((h.front (j := 3) rfl).front (j := 3) rfl).erase 3).erase 2)) ?_
      refine N_round (s' := (k + 1, v6, g7)) [3, 5, 8, 9, 10] (by kernel_rfl) rfl ⟨(by omega), (own_put (by omega) he hO8)⟩ (by omega)
    ·
      have he := hc4
      refine G_skip ?_
      refine N_block ?_
      refine N_then ?_
      have hw10 : IntKind.wrap .i64 (((k : Nat) : Int) + 1) = ((k : Nat) : Int) + 1 := w64 (by omega) (by omega)
      refine G_pure (E' := [⟨3, [], pt b1⟩, ⟨5, [], vn⟩, ⟨8, [], .slice na l.length nc⟩, ⟨9, [], .int .i64 ((l.length : Nat) : Int)⟩, ⟨10, [], .int .i64 (((k : Nat) : Int) + 1)⟩]) [0, 0] [3, 5, 8, 9, 10] rfl (Eq.trans (b := some [⟨3, [], pt b1⟩, ⟨5, [], vn⟩, ⟨8, [], .slice na l.length nc⟩, ⟨9, [], .int .i64 ((l.length : Nat) : Int)⟩, ⟨10, [], .int .i64 (IntKind.wrap .i64 (((k : Nat) : Int) + 1))⟩]) (by kernel_rfl) (by simp only [hw10])) ?_
      refine N_heap (H' := (gn :: [(b1, .cells #[.string x.1, .int .i64 x.2] 94 (0, 0))] :: H)) (fun w h => (((h.front (j := 2) rfl).front (j := 2) rfl).erase 2)) ?_
      refine N_round (s' := (k + 1, vn, gn)) [3, 5, 8, 9, 10] (by kernel_rfl) rfl ⟨(by omega), (own_skip (by omega) he hO)⟩ (by omega)
  ·
    replace hc2 := of_decide_eq_false hc2
    refine G_exit ?_
    refine N_then_exit ?_
    refine N_then_exit ?_
    refine N_block_exit ?_
    refine N_then ?_
    refine G_seq ?_
    refine G_seq ?_
    refine G_region ?_
    refine GL_pure (E' := [⟨24, [], .pointer (some ⟨b1, 1, none⟩)⟩, ⟨3, [], pt b1⟩, ⟨5, [], vn⟩]) [0] (by kernel_rfl) (j := 1) rfl ?_
    refine GL_load (i := 1) (ch := []) (b := b1) (off := 1) (v := .int .i64 x.2) rfl rfl (by kernel_rfl) (by kernel_rfl) (by kernel_rfl) (by kernel_rfl) (by kernel_rfl) (At.grp 1 0 rfl rfl) rfl ?_
    refine GL_fin (E' := [⟨3, [], pt b1⟩, ⟨5, [], vn⟩, ⟨26, [], .bool (decide (x.2 ≥ 0))⟩]) [0] [3, 5, 26] rfl (by kernel_rfl) ?_
    refine N_then ?_
    refine G_cond (b := decide (x.2 ≥ 0)) (by kernel_rfl) (fun hc11 => ?_) (fun hc11 => ?_)
    ·
      have hx := of_decide_eq_true hc11
      -- L last
      refine G_region ?_
      refine GL_pure (E' := [⟨27, [], vn⟩, ⟨3, [], pt b1⟩, ⟨5, [], vn⟩]) [0] (by kernel_rfl) (j := 1) rfl ?_
      refine GL_loadA (i := 1) (ch := []) (b := b1) (off := 0) (l := [.string x.1, .int .i64 x.2]) rfl rfl (by kernel_rfl) (by kernel_rfl) (by kernel_rfl) (by kernel_rfl) (by kernel_rfl) (by kernel_rfl) (At.grp 1 0 rfl rfl) (by kernel_rfl) ?_
      refine GL_buildSlice (i := 2) (ch := []) (e := 94) (l := [(0, .agg #[.string x.1, .int .i64 x.2])]) (c := [.string x.1, .int .i64 x.2]) rfl rfl (by kernel_rfl) (by kernel_rfl) (by kernel_rfl) (by kernel_rfl) (by kernel_rfl) (fun b12 => ?_)
      refine GL_append (i := 3) (ch := []) (t := 83) (tx := 83) (e := 94) (inf := Try.t94) (s := vn) (x := .slice (some ⟨b12, 0, none⟩) 1 1) (n := (outN l x k).length) (m := 1) (j := 1) (cs := (nmC (outN l x k))) (news := [.string x.1, .int .i64 x.2]) (g := gn) (S := (inG [(b12, .cells #[.string x.1, .int .i64 x.2] 94 (0, 0))])) rfl rfl rfl rfl (by kernel_rfl) (by kernel_rfl) (by kernel_rfl) rfl rfl (.inl ⟨94, (by kernel_rfl)⟩) (fun ⟨_, h⟩ => by cases h) (fun _ => ⟨94, (by kernel_rfl)⟩) (by kernel_rfl) (by kernel_rfl) (by kernel_rfl) rfl hO (SrcOf.slice _ _ _ _ Rd.lit (fun h => by cases h)) (at_inG 0 rfl) (by kernel_rfl) (by intro u hu; simp only [List.mem_cons, List.not_mem_nil, or_false] at hu; rcases hu with rfl | rfl <;> rfl) (by omega) (by show ((outN l x k).length + 1) * 24 ≤ 140737488355328; omega) (fun v13 g14 hO15 => ?_)
      refine GL_fin (E' := [⟨5, [], v13⟩]) [0] [5] rfl (by kernel_rfl) ?_
      refine N_then ?_
      refine G_seq ?_
      refine G_pure (E' := [⟨4, [], v13⟩]) [0, 0] [4] rfl (by kernel_rfl) ?_
      refine N_then ?_
      refine G_ret ?_
      refine N_heap (H' := (g14 :: H)) (fun w h => (((h.front (j := 1) rfl).erase 2).erase 1)) ?_
      refine N_ret [.tmp 4] [v13] rfl (by kernel_rfl) rfl ?_
      exact ⟨_, own_with1 (by omega) hx hO15, rfl⟩
    ·
      have hx := of_decide_eq_false hc11
      refine G_skip ?_
      refine N_then ?_
      refine G_seq ?_
      refine G_pure (E' := [⟨4, [], vn⟩]) [0, 0] [4] rfl (by kernel_rfl) ?_
      refine N_then ?_
      refine G_ret ?_
      refine N_heap (H' := (gn :: H)) (fun w h => (h.erase 1)) ?_
      refine N_ret [.tmp 4] [vn] rfl (by kernel_rfl) rfl ?_
      exact ⟨_, own_with0 (by omega) hx hO, rfl⟩
end Go.Proofs.Ytbmieiffboenbaa
namespace Go.Vf
open Go.Sw Go.Proofs.Ytbmieiffboenbaa
def p0 : ByteArray := ByteArray.mk #[]
theorem dirR_0 : dirR p0 = true := by unfold dirR; rw [show (p0.toList == (ByteArray.mk #[]).toList) = true from beq_self_eq_true _]; rfl
theorem err_ok {M : DM} {r : Bool} (hr : r = true) (hf : M.fails = false) : errM M r = 0 ∧ callM M r = M := by
  subst hr
  unfold errM callM callS
  rw [hf]
  refine ⟨rfl, ?_⟩
  cases M; simp only at hf; subst hf; rfl
theorem small1 {M : DM} {x : Body} (hb : M.bodies = [x]) (h1 : x.now.size ≤ 10000000 ∧ x.kept.size ≤ x.now.size) (hn : M.names.length ≤ 10000) (hc : M.changes.length ≤ 100000) (hk : -9223372036854775808 ≤ M.calls ∧ M.calls ≤ 9223372036854775807) (hp : ∀ x ∈ M.names, x.1.size ≤ 1000000) (hd : ∀ c ∈ M.changes, c.dir.size ≤ 1000000) : Small M :=
  ⟨by rw [hb]; show 1 ≤ 100000; omega, fun B hB => by rw [hb] at hB; rw [List.mem_singleton.1 hB]; exact h1, hn, hc, hk, hp, hd⟩
theorem small2 {M : DM} {x y : Body} (hb : M.bodies = [x, y]) (h1 : x.now.size ≤ 10000000 ∧ x.kept.size ≤ x.now.size) (h2 : y.now.size ≤ 10000000 ∧ y.kept.size ≤ y.now.size) (hn : M.names.length ≤ 10000) (hc : M.changes.length ≤ 100000) (hk : -9223372036854775808 ≤ M.calls ∧ M.calls ≤ 9223372036854775807) (hp : ∀ x ∈ M.names, x.1.size ≤ 1000000) (hd : ∀ c ∈ M.changes, c.dir.size ≤ 1000000) : Small M :=
  ⟨by rw [hb]; show 2 ≤ 100000; omega, fun B hB => by
    rw [hb] at hB
    rcases List.mem_cons.1 hB with rfl | hB
    · exact h1
    · rw [List.mem_singleton.1 hB]; exact h2, hn, hc, hk, hp, hd⟩
theorem sz {a : ByteArray} (ha : a.size ≤ 1000) : a.size ≤ 10000000 ∧ a.size ≤ a.size := by omega
theorem crashB_same {a : ByteArray} {r : List Body} {ks : List Int} : crashB (⟨a, a⟩ :: r) ks = (⟨a, a⟩ :: (crashB r ks).1, (crashB r ks).2) := by
  rw [crashB, if_neg (by simp only; omega)]
theorem dirs_nil : dirsOf [] = [] := (sortB_perm _).eq_nil
theorem dirs_one {l : List Ch} (h : onceL (l.map (·.dir)) = [p0]) : dirsOf l = [p0] := by
  unfold dirsOf
  rw [h]; exact List.perm_singleton.1 (sortB_perm _)
end Go.Vf
