/- Append, and slices.Clip. Conditions: the numbers are ints; what the blocks hold is told. -/
import Derived.Test.YtbmieiffboenbaaRow
import Derived.Test.YtbmieiffboenbaaClip
namespace Go.Proofs.Ytbmieiffboenbaa
open Go.Sw Go.Lib Go.Vf Go.RowKit


theorem vClip (an : Option Addr) (n cn : Nat) (hnc : n ≤ cn) (hna : n = 0 ∨ ∃ b off, an = some ⟨b, off, none⟩) (W0 : World) (H : List Grp) : Tri Try.prog 45 #[.slice an n cn] W0 H (fun v H' => v = .slice an n n ∧ H' = H) := by
  refine Tri_of (args := [.slice an n cn]) (n := 9) Try.func45 rfl rfl (Nat.le_of_ble_eq_true rfl) ?_
  refine G_seq ?_
  refine G_pure (E' := [⟨0, [], .slice an n cn⟩]) [0] [0] rfl (by kernel_rfl) ?_
  refine N_then ?_
  refine G_seq ?_
  refine G_region ?_
  refine GL_pure (E' := [⟨7, [], .int .i64 ((n : Nat) : Int)⟩, ⟨6, [], .slice an n cn⟩, ⟨5, [], .int .i64 ((n : Nat) : Int)⟩, ⟨4, [], .slice an n cn⟩, ⟨3, [], .slice an n cn⟩, ⟨0, [], .slice an n cn⟩]) [0, 0, 0, 0, 0] (by kernel_rfl) (j := 5) rfl ?_
  refine GL_clip (i := 5) (ch := []) (a := an) (len := n) (cap := cn) (sz := 1) (e := 5) (kd := .i64) (kd' := .i64) rfl rfl (by kernel_rfl) (by kernel_rfl) (by kernel_rfl) (by kernel_rfl) (by kernel_rfl) (by kernel_rfl) (by kernel_rfl) (by kernel_rfl) (fun _ => hnc) hna ?_
  refine GL_fin (E' := [⟨2, [], .slice an n n⟩]) [0] [2] rfl (by kernel_rfl) ?_
  refine N_then ?_
  refine G_ret ?_
  refine N_ret [.tmp 2] [.slice an n n] rfl (by kernel_rfl) rfl ?_
  exact ⟨rfl, rfl⟩

theorem vAppendNoBytes (d nb kb cb nc : Nat) (room calls : Int) (bv : Value) (fails once : Bool) (nm : SM) (path : ByteArray) (hpath : path.size ≤ 9223372036854775807) (hca : -9223372036854775808 ≤ calls ∧ calls ≤ 9223372036854775807) (b off k cap : Nat) (hg : mget nm path = none) (W0 : World) (H : List Grp) : Tri Try.prog 22 #[.pointer (some ⟨d, 0, none⟩), .string path, .slice (some ⟨b, off, none⟩) k cap] W0 ([(d, .cells #[.int .i64 room, bv, .map (some nb), .map (some kb), .map (some cb), .bool fails, .bool once, .int .i64 calls] 64 (0, 0))] :: [(nb, .map (encM nm) nc)] :: H) (fun v H' => ((callS fails once calls (rightB path)).1 ≠ 0 ∧ v = .int .i64 (callS fails once calls (rightB path)).1 ∧ H' = ([(d, .cells #[.int .i64 room, bv, .map (some nb), .map (some kb), .map (some cb), .bool ((callS fails once calls (rightB path)).2.1), .bool once, .int .i64 ((callS fails once calls (rightB path)).2.2)] 64 (0, 0))] :: [(nb, .map (encM nm) nc)] :: H)) ∨ ((callS fails once calls (rightB path)).1 = 0 ∧ v = .int .i64 60 ∧ H' = ([(d, .cells #[.int .i64 room, bv, .map (some nb), .map (some kb), .map (some cb), .bool ((callS fails once calls (rightB path)).2.1), .bool once, .int .i64 ((callS fails once calls (rightB path)).2.2)] 64 (0, 0))] :: [(nb, .map (encM nm) nc)] :: H))) := by
  refine Tri_of (args := [.pointer (some ⟨d, 0, none⟩), .string path, .slice (some ⟨b, off, none⟩) k cap]) (n := 46) Try.func22 rfl rfl (Nat.le_of_ble_eq_true rfl) ?_
  refine G_seq ?_
  refine G_pure (E' := [⟨0, [], .pointer (some ⟨d, 0, none⟩)⟩, ⟨1, [], .string path⟩, ⟨2, [], .slice (some ⟨b, off, none⟩) k cap⟩]) [0] [0, 1, 2] rfl (by kernel_rfl) ?_
  refine N_then ?_
  refine G_seq ?_
  refine G_seq ?_
  refine G_region ?_
  refine GL_pure (E' := [⟨10, [], .string path⟩, ⟨9, [], .pointer (some ⟨d, 0, none⟩)⟩, ⟨0, [], .pointer (some ⟨d, 0, none⟩)⟩, ⟨1, [], .string path⟩, ⟨2, [], .slice (some ⟨b, off, none⟩) k cap⟩]) [0, 0] (by kernel_rfl) (j := 2) rfl ?_
  refine GL_callQ (i := 2) (ch := []) (f := 10) (fst := #[]) (caps := #[]) (vs := [.string path]) (v := .bool (rightB path)) rfl rfl rfl (by kernel_rfl) (by kernel_rfl) Try.func10 rfl rfl (by kernel_rfl) (by kernel_rfl) (by kernel_rfl) (fun _ => vfsRight _ hpath _ _) ?_
  refine GL_call (i := 3) (ch := []) (f := 34) (fst := #[]) (caps := #[]) (vs := [.pointer (some ⟨d, 0, none⟩), .bool (rightB path)]) rfl rfl rfl (by kernel_rfl) (by kernel_rfl) Try.func34 rfl rfl (by kernel_rfl) (by kernel_rfl) (chSure_of (by kernel_rfl)) (vCall d nb kb cb room calls bv fails once (rightB path) hca _ _) ?_
  rintro v H' ⟨rfl, rfl⟩
  refine GL_fin (E' := [⟨0, [], .pointer (some ⟨d, 0, none⟩)⟩, ⟨1, [], .string path⟩, ⟨2, [], .slice (some ⟨b, off, none⟩) k cap⟩, ⟨7, [], .int .i64 ((callS fails once calls (rightB path)).1)⟩]) [0] [0, 1, 2, 7] rfl (by kernel_rfl) ?_
  refine N_then ?_
  refine G_seq ?_
  refine G_pure (E' := [⟨0, [], .pointer (some ⟨d, 0, none⟩)⟩, ⟨1, [], .string path⟩, ⟨2, [], .slice (some ⟨b, off, none⟩) k cap⟩, ⟨7, [], .int .i64 ((callS fails once calls (rightB path)).1)⟩, ⟨14, [], .bool (((callS fails once calls (rightB path)).1) != 0)⟩]) [0, 0] [0, 1, 2, 7, 14] rfl (by kernel_rfl) ?_
  refine N_then ?_
  refine G_cond (b := ((callS fails once calls (rightB path)).1) != 0) (by kernel_rfl) (fun hc1 => ?_) (fun hc1 => ?_)
  ·
    have hce : (callS fails once calls (rightB path)).1 ≠ 0 := by simpa using hc1
    -- L err
    refine G_seq ?_
    refine G_pure (E' := [⟨6, [], .int .i64 ((callS fails once calls (rightB path)).1)⟩]) [0, 0] [6] rfl (by kernel_rfl) ?_
    refine N_then ?_
    refine G_ret ?_
    refine N_then_ret ?_
    refine N_ret [.tmp 6] [.int .i64 ((callS fails once calls (rightB path)).1)] rfl (by kernel_rfl) rfl ?_
    exact .inl ⟨hce, rfl, rfl⟩
  ·
    have hce : (callS fails once calls (rightB path)).1 = 0 := by simpa using hc1
    refine G_skip ?_
    refine N_then ?_
    refine G_seq ?_
    refine G_region ?_
    refine GL_pure (E' := [⟨18, [], .pointer (some ⟨d, 2, none⟩)⟩, ⟨17, [], .pointer (some ⟨d, 0, none⟩)⟩, ⟨16, [], .pointer (some ⟨d, 0, none⟩)⟩, ⟨0, [], .pointer (some ⟨d, 0, none⟩)⟩, ⟨1, [], .string path⟩, ⟨2, [], .slice (some ⟨b, off, none⟩) k cap⟩, ⟨7, [], .int .i64 ((callS fails once calls (rightB path)).1)⟩, ⟨14, [], .bool (((callS fails once calls (rightB path)).1) != 0)⟩]) [0, 0, 0] (by kernel_rfl) (j := 3) rfl ?_
    refine GL_load (i := 3) (ch := []) (b := d) (off := 2) (v := .map (some nb)) rfl rfl (by kernel_rfl) (by kernel_rfl) (by kernel_rfl) (by kernel_rfl) (by kernel_rfl) (At.grp 0 0 rfl rfl) rfl ?_
    refine GL_pure (E' := [⟨20, [], .string path⟩, ⟨19, [], .map (some nb)⟩, ⟨18, [], .pointer (some ⟨d, 2, none⟩)⟩, ⟨17, [], .pointer (some ⟨d, 0, none⟩)⟩, ⟨16, [], .pointer (some ⟨d, 0, none⟩)⟩, ⟨0, [], .pointer (some ⟨d, 0, none⟩)⟩, ⟨1, [], .string path⟩, ⟨2, [], .slice (some ⟨b, off, none⟩) k cap⟩, ⟨7, [], .int .i64 ((callS fails once calls (rightB path)).1)⟩, ⟨14, [], .bool (((callS fails once calls (rightB path)).1) != 0)⟩]) [0] (by kernel_rfl) (j := 5) rfl ?_
    refine GL_lookup (i := 5) (ch := []) (kt := 9) (et := 66) (r := nb) (c := nc) (m := nm) (k := path) (z := .pointer none) (ov := none) rfl rfl (by kernel_rfl) (by kernel_rfl) (by kernel_rfl) (by kernel_rfl) (by kernel_rfl) (by kernel_rfl) (by kernel_rfl) (by kernel_rfl) (At.grp 1 0 rfl rfl) (fun _ => hg) ?_
    refine GL_fin (E' := [⟨0, [], .pointer (some ⟨d, 0, none⟩)⟩, ⟨2, [], .slice (some ⟨b, off, none⟩) k cap⟩, ⟨8, [], .pointer none⟩]) [0] [0, 2, 8] rfl (by kernel_rfl) ?_
    refine N_then ?_
    refine G_seq ?_
    refine G_block ?_
    refine G_seq ?_
    refine G_pure (E' := [⟨0, [], .pointer (some ⟨d, 0, none⟩)⟩, ⟨2, [], .slice (some ⟨b, off, none⟩) k cap⟩, ⟨8, [], .pointer none⟩, ⟨22, [], .bool true⟩]) [0, 0, 0] [0, 2, 8, 22] rfl (by kernel_rfl) ?_
    refine N_then ?_
    refine G_condt (by kernel_rfl) ?_
    refine G_seq ?_
    refine G_pure (E' := [⟨6, [], .int .i64 60⟩]) [0] [6] rfl (by kernel_rfl) ?_
    refine N_then ?_
    refine G_ret ?_
    refine N_block_ret ?_
    refine N_then_ret ?_
    refine N_ret [.tmp 6] [.int .i64 60] rfl (by kernel_rfl) rfl ?_
    exact .inr ⟨hce, rfl, rfl⟩

theorem vAppendBytes (d nb kb cb nc : Nat) (room calls : Int) (bv : Value) (fails once : Bool) (nm : SM) (path : ByteArray) (hpath : path.size ≤ 9223372036854775807) (hca : -9223372036854775808 ≤ calls ∧ calls ≤ 9223372036854775807) (b off k cap : Nat) (szf : Value → Nat) (hn : MapOk nm nc) (hs : sumN szf nm ≤ 1000000000000) (p n cn m ck : Nat) (an ak : Option Addr) (hg : mget nm path = some (.pointer (some ⟨p, 0, none⟩))) (S : Nat → Obj → Prop) (l0 : List UInt8) (hrd0 : Rd S an (u8s l0)) (hl0 : l0.length = n) (hnn : n ≤ 1000000000) (hnc : n ≤ cn) (hna : (an = none ∧ n = 0 ∧ cn = 0) ∨ ∃ b off, an = some ⟨b, off, none⟩) (S2 : Nat → Obj → Prop) (l : List UInt8) (hrd : Rd S2 (some ⟨b, off, none⟩) (u8s l)) (hl : l.length = k) (hkn : k ≤ 1000000000) (W0 : World) (H : List Grp) (hS : ∀ y o, S y o → At W0 H y o) (hS2 : ∀ y o, S2 y o → At W0 H y o) (hB : ∀ e ∈ nm, ∃ p1 a c kv, e.2.1 = .pointer (some ⟨p1, 0, none⟩) ∧ At W0 ([(p, .cells #[.slice an n cn, .slice ak m ck] 68 (0, 0))] :: H) p1 (.cells #[.slice a (szf e.2.1) c, kv] 68 (0, 0))) : Tri Try.prog 22 #[.pointer (some ⟨d, 0, none⟩), .string path, .slice (some ⟨b, off, none⟩) k cap] W0 ([(d, .cells #[.int .i64 room, bv, .map (some nb), .map (some kb), .map (some cb), .bool fails, .bool once, .int .i64 calls] 64 (0, 0))] :: [(nb, .map (encM nm) nc)] :: [(p, .cells #[.slice an n cn, .slice ak m ck] 68 (0, 0))] :: H) (fun v H' => ((callS fails once calls (rightB path)).1 ≠ 0 ∧ v = .int .i64 (callS fails once calls (rightB path)).1 ∧ H' = ([(d, .cells #[.int .i64 room, bv, .map (some nb), .map (some kb), .map (some cb), .bool ((callS fails once calls (rightB path)).2.1), .bool once, .int .i64 ((callS fails once calls (rightB path)).2.2)] 64 (0, 0))] :: [(nb, .map (encM nm) nc)] :: [(p, .cells #[.slice an n cn, .slice ak m ck] 68 (0, 0))] :: H)) ∨ ((callS fails once calls (rightB path)).1 = 0 ∧ ((sumN szf nm : Nat) : Int) + (k : Int) > room ∧ v = .int .i64 61 ∧ H' = ([(d, .cells #[.int .i64 room, bv, .map (some nb), .map (some kb), .map (some cb), .bool ((callS fails once calls (rightB path)).2.1), .bool once, .int .i64 ((callS fails once calls (rightB path)).2.2)] 64 (0, 0))] :: [(nb, .map (encM nm) nc)] :: [(p, .cells #[.slice an n cn, .slice ak m ck] 68 (0, 0))] :: H)) ∨ ((callS fails once calls (rightB path)).1 = 0 ∧ ¬ ((sumN szf nm : Nat) : Int) + (k : Int) > room ∧ v = .int .i64 0 ∧ ∃ a' cap' g, n + k ≤ cap' ∧ ((a' = none ∧ n + k = 0 ∧ cap' = 0) ∨ ∃ b off, a' = some ⟨b, off, none⟩) ∧ Rd (fun b o => S b o ∨ inG g b o) a' (u8s l0 ++ u8s l) ∧ H' = ([(d, .cells #[.int .i64 room, bv, .map (some nb), .map (some kb), .map (some cb), .bool ((callS fails once calls (rightB path)).2.1), .bool once, .int .i64 ((callS fails once calls (rightB path)).2.2)] 64 (0, 0))] :: [(nb, .map (encM nm) nc)] :: [(p, .cells #[.slice a' (n + k) cap', .slice ak m ck] 68 (0, 0))] :: g :: H))) := by
  refine Tri_of (args := [.pointer (some ⟨d, 0, none⟩), .string path, .slice (some ⟨b, off, none⟩) k cap]) (n := 46) Try.func22 rfl rfl (Nat.le_of_ble_eq_true rfl) ?_
  refine G_seq ?_
  refine G_pure (E' := [⟨0, [], .pointer (some ⟨d, 0, none⟩)⟩, ⟨1, [], .string path⟩, ⟨2, [], .slice (some ⟨b, off, none⟩) k cap⟩]) [0] [0, 1, 2] rfl (by kernel_rfl) ?_
  refine N_then ?_
  refine G_seq ?_
  refine G_seq ?_
  refine G_region ?_
  refine GL_pure (E' := [⟨10, [], .string path⟩, ⟨9, [], .pointer (some ⟨d, 0, none⟩)⟩, ⟨0, [], .pointer (some ⟨d, 0, none⟩)⟩, ⟨1, [], .string path⟩, ⟨2, [], .slice (some ⟨b, off, none⟩) k cap⟩]) [0, 0] (by kernel_rfl) (j := 2) rfl ?_
  refine GL_callQ (i := 2) (ch := []) (f := 10) (fst := #[]) (caps := #[]) (vs := [.string path]) (v := .bool (rightB path)) rfl rfl rfl (by kernel_rfl) (by kernel_rfl) Try.func10 rfl rfl (by kernel_rfl) (by kernel_rfl) (by kernel_rfl) (fun _ => vfsRight _ hpath _ _) ?_
  refine GL_call (i := 3) (ch := []) (f := 34) (fst := #[]) (caps := #[]) (vs := [.pointer (some ⟨d, 0, none⟩), .bool (rightB path)]) rfl rfl rfl (by kernel_rfl) (by kernel_rfl) Try.func34 rfl rfl (by kernel_rfl) (by kernel_rfl) (chSure_of (by kernel_rfl)) (vCall d nb kb cb room calls bv fails once (rightB path) hca _ _) ?_
  rintro v H' ⟨rfl, rfl⟩
  refine GL_fin (E' := [⟨0, [], .pointer (some ⟨d, 0, none⟩)⟩, ⟨1, [], .string path⟩, ⟨2, [], .slice (some ⟨b, off, none⟩) k cap⟩, ⟨7, [], .int .i64 ((callS fails once calls (rightB path)).1)⟩]) [0] [0, 1, 2, 7] rfl (by kernel_rfl) ?_
  refine N_then ?_
  refine G_seq ?_
  refine G_pure (E' := [⟨0, [], .pointer (some ⟨d, 0, none⟩)⟩, ⟨1, [], .string path⟩, ⟨2, [], .slice (some ⟨b, off, none⟩) k cap⟩, ⟨7, [], .int .i64 ((callS fails once calls (rightB path)).1)⟩, ⟨14, [], .bool (((callS fails once calls (rightB path)).1) != 0)⟩]) [0, 0] [0, 1, 2, 7, 14] rfl (by kernel_rfl) ?_
  refine N_then ?_
  refine G_cond (b := ((callS fails once calls (rightB path)).1) != 0) (by kernel_rfl) (fun hc1 => ?_) (fun hc1 => ?_)
  ·
    have hce : (callS fails once calls (rightB path)).1 ≠ 0 := by simpa using hc1
    -- L err
    refine G_seq ?_
    refine G_pure (E' := [⟨6, [], .int .i64 ((callS fails once calls (rightB path)).1)⟩]) [0, 0] [6] rfl (by kernel_rfl) ?_
    refine N_then ?_
    refine G_ret ?_
    refine N_then_ret ?_
    refine N_heap (H' := ([(d, .cells #[.int .i64 room, bv, .map (some nb), .map (some kb), .map (some cb), .bool ((callS fails once calls (rightB path)).2.1), .bool once, .int .i64 ((callS fails once calls (rightB path)).2.2)] 64 (0, 0))] :: [(nb, .map (encM nm) nc)] :: [(p, .cells #[.slice an n cn, .slice ak m ck] 68 (0, 0))] :: H)) (fun w h => (((h.front (j := 2) rfl).front (j := 2) rfl).front (j := 2) rfl)) ?_
    refine N_ret [.tmp 6] [.int .i64 ((callS fails once calls (rightB path)).1)] rfl (by kernel_rfl) rfl ?_
    exact .inl ⟨hce, rfl, rfl⟩
  ·
    have hce : (callS fails once calls (rightB path)).1 = 0 := by simpa using hc1
    refine G_skip ?_
    refine N_then ?_
    refine G_seq ?_
    refine G_region ?_
    refine GL_pure (E' := [⟨18, [], .pointer (some ⟨d, 2, none⟩)⟩, ⟨17, [], .pointer (some ⟨d, 0, none⟩)⟩, ⟨16, [], .pointer (some ⟨d, 0, none⟩)⟩, ⟨0, [], .pointer (some ⟨d, 0, none⟩)⟩, ⟨1, [], .string path⟩, ⟨2, [], .slice (some ⟨b, off, none⟩) k cap⟩, ⟨7, [], .int .i64 ((callS fails once calls (rightB path)).1)⟩, ⟨14, [], .bool (((callS fails once calls (rightB path)).1) != 0)⟩]) [0, 0, 0] (by kernel_rfl) (j := 3) rfl ?_
    refine GL_load (i := 3) (ch := []) (b := d) (off := 2) (v := .map (some nb)) rfl rfl (by kernel_rfl) (by kernel_rfl) (by kernel_rfl) (by kernel_rfl) (by kernel_rfl) (At.grp 0 0 rfl rfl) rfl ?_
    refine GL_pure (E' := [⟨20, [], .string path⟩, ⟨19, [], .map (some nb)⟩, ⟨18, [], .pointer (some ⟨d, 2, none⟩)⟩, ⟨17, [], .pointer (some ⟨d, 0, none⟩)⟩, ⟨16, [], .pointer (some ⟨d, 0, none⟩)⟩, ⟨0, [], .pointer (some ⟨d, 0, none⟩)⟩, ⟨1, [], .string path⟩, ⟨2, [], .slice (some ⟨b, off, none⟩) k cap⟩, ⟨7, [], .int .i64 ((callS fails once calls (rightB path)).1)⟩, ⟨14, [], .bool (((callS fails once calls (rightB path)).1) != 0)⟩]) [0] (by kernel_rfl) (j := 5) rfl ?_
    refine GL_lookup (i := 5) (ch := []) (kt := 9) (et := 66) (r := nb) (c := nc) (m := nm) (k := path) (z := .pointer none) (ov := (some (.pointer (some ⟨p, 0, none⟩)))) rfl rfl (by kernel_rfl) (by kernel_rfl) (by kernel_rfl) (by kernel_rfl) (by kernel_rfl) (by kernel_rfl) (by kernel_rfl) (by kernel_rfl) (At.grp 1 0 rfl rfl) (fun _ => hg) ?_
    refine GL_fin (E' := [⟨0, [], .pointer (some ⟨d, 0, none⟩)⟩, ⟨2, [], .slice (some ⟨b, off, none⟩) k cap⟩, ⟨8, [], .pointer (some ⟨p, 0, none⟩)⟩]) [0] [0, 2, 8] rfl (by kernel_rfl) ?_
    refine N_then ?_
    refine G_seq ?_
    refine G_block ?_
    refine G_seq ?_
    refine G_pure (E' := [⟨0, [], .pointer (some ⟨d, 0, none⟩)⟩, ⟨2, [], .slice (some ⟨b, off, none⟩) k cap⟩, ⟨8, [], .pointer (some ⟨p, 0, none⟩)⟩, ⟨22, [], .bool false⟩]) [0, 0, 0] [0, 2, 8, 22] rfl (by kernel_rfl) ?_
    refine N_then ?_
    refine G_condf (by kernel_rfl) ?_
    refine G_seq ?_
    refine G_regionH ([(d, .cells #[.int .i64 room, bv, .map (some nb), .map (some kb), .map (some cb), .bool ((callS fails once calls (rightB path)).2.1), .bool once, .int .i64 ((callS fails once calls (rightB path)).2.2)] 64 (0, 0))] :: [(nb, .map (encM nm) nc)] :: [(p, .cells #[.slice an n cn, .slice ak m ck] 68 (0, 0))] :: H) (by kernel_rfl) ?_
    refine GH_take (E' := [⟨26, [], .pointer (some ⟨d, 0, none⟩)⟩, ⟨0, [], .pointer (some ⟨d, 0, none⟩)⟩, ⟨2, [], .slice (some ⟨b, off, none⟩) k cap⟩, ⟨8, [], .pointer (some ⟨p, 0, none⟩)⟩, ⟨22, [], .bool false⟩]) 0 (by kernel_rfl) (by kernel_rfl) (by kernel_rfl) (by kernel_rfl) (by kernel_rfl) (fun w h => (((h.front (j := 2) rfl).front (j := 2) rfl).front (j := 2) rfl)) ?_ ?_
    ·
      refine GL_pure (E' := [⟨26, [], .pointer (some ⟨d, 0, none⟩)⟩, ⟨0, [], .pointer (some ⟨d, 0, none⟩)⟩, ⟨2, [], .slice (some ⟨b, off, none⟩) k cap⟩, ⟨8, [], .pointer (some ⟨p, 0, none⟩)⟩, ⟨22, [], .bool false⟩]) [0] (by kernel_rfl) (j := 1) rfl ?_
      exact GL_yend (by kernel_rfl) (by kernel_rfl)
    refine GH_take (E' := [⟨28, [], .slice (some ⟨b, off, none⟩) k cap⟩, ⟨26, [], .pointer (some ⟨d, 0, none⟩)⟩, ⟨0, [], .pointer (some ⟨d, 0, none⟩)⟩, ⟨2, [], .slice (some ⟨b, off, none⟩) k cap⟩, ⟨8, [], .pointer (some ⟨p, 0, none⟩)⟩, ⟨22, [], .bool false⟩]) 2 (by kernel_rfl) (by kernel_rfl) (by kernel_rfl) (by kernel_rfl) (by kernel_rfl) (fun w h => (((h.front (j := 2) rfl).front (j := 2) rfl).front (j := 2) rfl)) ?_ ?_
    ·
      refine GL_pure (E' := [⟨28, [], .slice (some ⟨b, off, none⟩) k cap⟩, ⟨26, [], .pointer (some ⟨d, 0, none⟩)⟩, ⟨0, [], .pointer (some ⟨d, 0, none⟩)⟩, ⟨2, [], .slice (some ⟨b, off, none⟩) k cap⟩, ⟨8, [], .pointer (some ⟨p, 0, none⟩)⟩, ⟨22, [], .bool false⟩]) [0] (by kernel_rfl) (j := 3) rfl ?_
      exact GL_yend (by kernel_rfl) (by kernel_rfl)
    refine GH_pev (v := .int .i64 ((k : Nat) : Int)) 3 rfl rfl (by kernel_rfl) (by kernel_rfl) (by kernel_rfl) (by kernel_rfl) (by kernel_rfl) (fun w h => (((h.front (j := 2) rfl).front (j := 2) rfl).front (j := 2) rfl)) ?_
    refine GH_take (E' := [⟨31, [], .pointer (some ⟨d, 0, none⟩)⟩, ⟨29, [], .int .i64 ((k : Nat) : Int)⟩, ⟨28, [], .slice (some ⟨b, off, none⟩) k cap⟩, ⟨26, [], .pointer (some ⟨d, 0, none⟩)⟩, ⟨0, [], .pointer (some ⟨d, 0, none⟩)⟩, ⟨2, [], .slice (some ⟨b, off, none⟩) k cap⟩, ⟨8, [], .pointer (some ⟨p, 0, none⟩)⟩, ⟨22, [], .bool false⟩]) 5 (by kernel_rfl) (by kernel_rfl) (by kernel_rfl) (by kernel_rfl) (by kernel_rfl) (fun w h => (((h.front (j := 2) rfl).front (j := 2) rfl).front (j := 2) rfl)) ?_ ?_
    ·
      refine GL_pure (E' := [⟨31, [], .pointer (some ⟨d, 0, none⟩)⟩, ⟨29, [], .int .i64 ((k : Nat) : Int)⟩, ⟨28, [], .slice (some ⟨b, off, none⟩) k cap⟩, ⟨26, [], .pointer (some ⟨d, 0, none⟩)⟩, ⟨0, [], .pointer (some ⟨d, 0, none⟩)⟩, ⟨2, [], .slice (some ⟨b, off, none⟩) k cap⟩, ⟨8, [], .pointer (some ⟨p, 0, none⟩)⟩, ⟨22, [], .bool false⟩]) [0] (by kernel_rfl) (j := 6) rfl ?_
      exact GL_yend (by kernel_rfl) (by kernel_rfl)
    refine GH_nil (ad := ⟨d, 0, none⟩) 6 rfl rfl rfl (by kernel_rfl) (by kernel_rfl) (by kernel_rfl) (by kernel_rfl) (by kernel_rfl) (fun w h => (((h.front (j := 2) rfl).front (j := 2) rfl).front (j := 2) rfl)) ?_
    refine GH_take (E' := [⟨33, [], .pointer (some ⟨d, 0, none⟩)⟩, ⟨32, [], .pointer (some ⟨d, 0, none⟩)⟩, ⟨31, [], .pointer (some ⟨d, 0, none⟩)⟩, ⟨29, [], .int .i64 ((k : Nat) : Int)⟩, ⟨28, [], .slice (some ⟨b, off, none⟩) k cap⟩, ⟨26, [], .pointer (some ⟨d, 0, none⟩)⟩, ⟨0, [], .pointer (some ⟨d, 0, none⟩)⟩, ⟨2, [], .slice (some ⟨b, off, none⟩) k cap⟩, ⟨8, [], .pointer (some ⟨p, 0, none⟩)⟩, ⟨22, [], .bool false⟩]) 7 (by kernel_rfl) (by kernel_rfl) (by kernel_rfl) (by kernel_rfl) (by kernel_rfl) (fun w h => (((h.front (j := 2) rfl).front (j := 2) rfl).front (j := 2) rfl)) ?_ ?_
    ·
      refine GL_pure (E' := [⟨33, [], .pointer (some ⟨d, 0, none⟩)⟩, ⟨32, [], .pointer (some ⟨d, 0, none⟩)⟩, ⟨31, [], .pointer (some ⟨d, 0, none⟩)⟩, ⟨29, [], .int .i64 ((k : Nat) : Int)⟩, ⟨28, [], .slice (some ⟨b, off, none⟩) k cap⟩, ⟨26, [], .pointer (some ⟨d, 0, none⟩)⟩, ⟨0, [], .pointer (some ⟨d, 0, none⟩)⟩, ⟨2, [], .slice (some ⟨b, off, none⟩) k cap⟩, ⟨8, [], .pointer (some ⟨p, 0, none⟩)⟩, ⟨22, [], .bool false⟩]) [0] (by kernel_rfl) (j := 8) rfl ?_
      exact GL_yend (by kernel_rfl) (by kernel_rfl)
    refine GH_take (E' := [⟨34, [], .int .i64 room⟩, ⟨33, [], .pointer (some ⟨d, 0, none⟩)⟩, ⟨32, [], .pointer (some ⟨d, 0, none⟩)⟩, ⟨31, [], .pointer (some ⟨d, 0, none⟩)⟩, ⟨29, [], .int .i64 ((k : Nat) : Int)⟩, ⟨28, [], .slice (some ⟨b, off, none⟩) k cap⟩, ⟨26, [], .pointer (some ⟨d, 0, none⟩)⟩, ⟨0, [], .pointer (some ⟨d, 0, none⟩)⟩, ⟨2, [], .slice (some ⟨b, off, none⟩) k cap⟩, ⟨8, [], .pointer (some ⟨p, 0, none⟩)⟩, ⟨22, [], .bool false⟩]) 8 (by kernel_rfl) (by kernel_rfl) (by kernel_rfl) (by kernel_rfl) (by kernel_rfl) (fun w h => (((h.front (j := 2) rfl).front (j := 2) rfl).front (j := 2) rfl)) ?_ ?_
    ·
      refine GL_load (i := 8) (ch := []) (b := d) (off := 0) (v := .int .i64 room) rfl rfl (by kernel_rfl) (by kernel_rfl) (by kernel_rfl) (by kernel_rfl) (by kernel_rfl) (At.grp 0 0 rfl rfl) rfl ?_
      exact GL_yend (by kernel_rfl) (by kernel_rfl)
    refine GH_eff 1 (by kernel_rfl) (by kernel_rfl) (by kernel_rfl) ?_
    refine GL_heap rfl (H' := ([(d, .cells #[.int .i64 room, bv, .map (some nb), .map (some kb), .map (some cb), .bool ((callS fails once calls (rightB path)).2.1), .bool once, .int .i64 ((callS fails once calls (rightB path)).2.2)] 64 (0, 0))] :: [(nb, .map (encM nm) nc)] :: [(p, .cells #[.slice an n cn, .slice ak m ck] 68 (0, 0))] :: H)) (fun w h => ((h.front (j := 1) rfl).front (j := 1) rfl)) ?_
    refine GL_call (i := 1) (ch := []) (f := 26) (fst := #[]) (caps := #[]) (vs := [.pointer (some ⟨d, 0, none⟩)]) rfl rfl rfl (by kernel_rfl) (by kernel_rfl) Try.func26 rfl rfl (by kernel_rfl) (by kernel_rfl) (chSure_of (by kernel_rfl)) (vUsed d nb kb cb nc room ((callS fails once calls (rightB path)).2.2) bv ((callS fails once calls (rightB path)).2.1) once nm szf hn hs _ _ hB) ?_
    rintro v H' ⟨rfl, rfl⟩
    refine GH_back (by kernel_rfl) (fun w h => (((h.front (j := 2) rfl).front (j := 2) rfl).front (j := 2) rfl)) ?_
    refine GH_take (E' := [⟨30, [], .int .i64 (((sumN szf nm : Nat) : Int) + ((k : Nat) : Int))⟩, ⟨27, [], .int .i64 ((sumN szf nm : Nat) : Int)⟩, ⟨34, [], .int .i64 room⟩, ⟨33, [], .pointer (some ⟨d, 0, none⟩)⟩, ⟨32, [], .pointer (some ⟨d, 0, none⟩)⟩, ⟨31, [], .pointer (some ⟨d, 0, none⟩)⟩, ⟨29, [], .int .i64 ((k : Nat) : Int)⟩, ⟨28, [], .slice (some ⟨b, off, none⟩) k cap⟩, ⟨26, [], .pointer (some ⟨d, 0, none⟩)⟩, ⟨0, [], .pointer (some ⟨d, 0, none⟩)⟩, ⟨2, [], .slice (some ⟨b, off, none⟩) k cap⟩, ⟨8, [], .pointer (some ⟨p, 0, none⟩)⟩, ⟨22, [], .bool false⟩]) 4 (by kernel_rfl) (by kernel_rfl) (by kernel_rfl) (by kernel_rfl) (by kernel_rfl) (fun w h => (((h.front (j := 2) rfl).front (j := 2) rfl).front (j := 2) rfl)) ?_ ?_
    ·
      have hw2 : IntKind.wrap .i64 (((sumN szf nm : Nat) : Int) + ((k : Nat) : Int)) = ((sumN szf nm : Nat) : Int) + ((k : Nat) : Int) := w64 (by omega) (by omega)
      refine GL_pure (E' := [⟨30, [], .int .i64 (((sumN szf nm : Nat) : Int) + ((k : Nat) : Int))⟩, ⟨27, [], .int .i64 ((sumN szf nm : Nat) : Int)⟩, ⟨34, [], .int .i64 room⟩, ⟨33, [], .pointer (some ⟨d, 0, none⟩)⟩, ⟨32, [], .pointer (some ⟨d, 0, none⟩)⟩, ⟨31, [], .pointer (some ⟨d, 0, none⟩)⟩, ⟨29, [], .int .i64 ((k : Nat) : Int)⟩, ⟨28, [], .slice (some ⟨b, off, none⟩) k cap⟩, ⟨26, [], .pointer (some ⟨d, 0, none⟩)⟩, ⟨0, [], .pointer (some ⟨d, 0, none⟩)⟩, ⟨2, [], .slice (some ⟨b, off, none⟩) k cap⟩, ⟨8, [], .pointer (some ⟨p, 0, none⟩)⟩, ⟨22, [], .bool false⟩]) [0] (Eq.trans (b := some [⟨30, [], .int .i64 (IntKind.wrap .i64 (((sumN szf nm : Nat) : Int) + ((k : Nat) : Int)))⟩, ⟨27, [], .int .i64 ((sumN szf nm : Nat) : Int)⟩, ⟨34, [], .int .i64 room⟩, ⟨33, [], .pointer (some ⟨d, 0, none⟩)⟩, ⟨32, [], .pointer (some ⟨d, 0, none⟩)⟩, ⟨31, [], .pointer (some ⟨d, 0, none⟩)⟩, ⟨29, [], .int .i64 ((k : Nat) : Int)⟩, ⟨28, [], .slice (some ⟨b, off, none⟩) k cap⟩, ⟨26, [], .pointer (some ⟨d, 0, none⟩)⟩, ⟨0, [], .pointer (some ⟨d, 0, none⟩)⟩, ⟨2, [], .slice (some ⟨b, off, none⟩) k cap⟩, ⟨8, [], .pointer (some ⟨p, 0, none⟩)⟩, ⟨22, [], .bool false⟩]) (by kernel_rfl) (by simp only [hw2])) (j := 5) rfl ?_
      exact GL_yend (by kernel_rfl) (by kernel_rfl)
    refine GH_take (E' := [⟨35, [], .bool (decide ((((sumN szf nm : Nat) : Int) + ((k : Nat) : Int)) > room))⟩, ⟨30, [], .int .i64 (((sumN szf nm : Nat) : Int) + ((k : Nat) : Int))⟩, ⟨27, [], .int .i64 ((sumN szf nm : Nat) : Int)⟩, ⟨34, [], .int .i64 room⟩, ⟨33, [], .pointer (some ⟨d, 0, none⟩)⟩, ⟨32, [], .pointer (some ⟨d, 0, none⟩)⟩, ⟨31, [], .pointer (some ⟨d, 0, none⟩)⟩, ⟨29, [], .int .i64 ((k : Nat) : Int)⟩, ⟨28, [], .slice (some ⟨b, off, none⟩) k cap⟩, ⟨26, [], .pointer (some ⟨d, 0, none⟩)⟩, ⟨0, [], .pointer (some ⟨d, 0, none⟩)⟩, ⟨2, [], .slice (some ⟨b, off, none⟩) k cap⟩, ⟨8, [], .pointer (some ⟨p, 0, none⟩)⟩, ⟨22, [], .bool false⟩]) 9 (by kernel_rfl) (by kernel_rfl) (by kernel_rfl) (by kernel_rfl) (by kernel_rfl) (fun w h => (((h.front (j := 2) rfl).front (j := 2) rfl).front (j := 2) rfl)) ?_ ?_
    ·
      refine GL_pure (E' := [⟨35, [], .bool (decide ((((sumN szf nm : Nat) : Int) + ((k : Nat) : Int)) > room))⟩, ⟨30, [], .int .i64 (((sumN szf nm : Nat) : Int) + ((k : Nat) : Int))⟩, ⟨27, [], .int .i64 ((sumN szf nm : Nat) : Int)⟩, ⟨34, [], .int .i64 room⟩, ⟨33, [], .pointer (some ⟨d, 0, none⟩)⟩, ⟨32, [], .pointer (some ⟨d, 0, none⟩)⟩, ⟨31, [], .pointer (some ⟨d, 0, none⟩)⟩, ⟨29, [], .int .i64 ((k : Nat) : Int)⟩, ⟨28, [], .slice (some ⟨b, off, none⟩) k cap⟩, ⟨26, [], .pointer (some ⟨d, 0, none⟩)⟩, ⟨0, [], .pointer (some ⟨d, 0, none⟩)⟩, ⟨2, [], .slice (some ⟨b, off, none⟩) k cap⟩, ⟨8, [], .pointer (some ⟨p, 0, none⟩)⟩, ⟨22, [], .bool false⟩]) [0] (by kernel_rfl) (j := 10) rfl ?_
      exact GL_yend (by kernel_rfl) (by kernel_rfl)
    refine GH_take (E' := [⟨25, [], .bool (decide ((((sumN szf nm : Nat) : Int) + ((k : Nat) : Int)) > room))⟩, ⟨35, [], .bool (decide ((((sumN szf nm : Nat) : Int) + ((k : Nat) : Int)) > room))⟩, ⟨30, [], .int .i64 (((sumN szf nm : Nat) : Int) + ((k : Nat) : Int))⟩, ⟨27, [], .int .i64 ((sumN szf nm : Nat) : Int)⟩, ⟨34, [], .int .i64 room⟩, ⟨33, [], .pointer (some ⟨d, 0, none⟩)⟩, ⟨32, [], .pointer (some ⟨d, 0, none⟩)⟩, ⟨31, [], .pointer (some ⟨d, 0, none⟩)⟩, ⟨29, [], .int .i64 ((k : Nat) : Int)⟩, ⟨28, [], .slice (some ⟨b, off, none⟩) k cap⟩, ⟨26, [], .pointer (some ⟨d, 0, none⟩)⟩, ⟨0, [], .pointer (some ⟨d, 0, none⟩)⟩, ⟨2, [], .slice (some ⟨b, off, none⟩) k cap⟩, ⟨8, [], .pointer (some ⟨p, 0, none⟩)⟩, ⟨22, [], .bool false⟩]) 10 (by kernel_rfl) (by kernel_rfl) (by kernel_rfl) (by kernel_rfl) (by kernel_rfl) (fun w h => (((h.front (j := 2) rfl).front (j := 2) rfl).front (j := 2) rfl)) ?_ ?_
    ·
      refine GL_pure (E' := [⟨25, [], .bool (decide ((((sumN szf nm : Nat) : Int) + ((k : Nat) : Int)) > room))⟩, ⟨35, [], .bool (decide ((((sumN szf nm : Nat) : Int) + ((k : Nat) : Int)) > room))⟩, ⟨30, [], .int .i64 (((sumN szf nm : Nat) : Int) + ((k : Nat) : Int))⟩, ⟨27, [], .int .i64 ((sumN szf nm : Nat) : Int)⟩, ⟨34, [], .int .i64 room⟩, ⟨33, [], .pointer (some ⟨d, 0, none⟩)⟩, ⟨32, [], .pointer (some ⟨d, 0, none⟩)⟩, ⟨31, [], .pointer (some ⟨d, 0, none⟩)⟩, ⟨29, [], .int .i64 ((k : Nat) : Int)⟩, ⟨28, [], .slice (some ⟨b, off, none⟩) k cap⟩, ⟨26, [], .pointer (some ⟨d, 0, none⟩)⟩, ⟨0, [], .pointer (some ⟨d, 0, none⟩)⟩, ⟨2, [], .slice (some ⟨b, off, none⟩) k cap⟩, ⟨8, [], .pointer (some ⟨p, 0, none⟩)⟩, ⟨22, [], .bool false⟩]) [0] (by kernel_rfl) (j := 11) rfl ?_
      exact GL_yend (by kernel_rfl) (by kernel_rfl)
    refine GH_done (E' := [⟨2, [], .slice (some ⟨b, off, none⟩) k cap⟩, ⟨8, [], .pointer (some ⟨p, 0, none⟩)⟩, ⟨25, [], .bool (decide ((((sumN szf nm : Nat) : Int) + ((k : Nat) : Int)) > room))⟩]) [2, 8, 25] (by kernel_rfl) (by kernel_rfl) ?_
    refine N_then ?_
    refine G_cond (b := decide ((((sumN szf nm : Nat) : Int) + ((k : Nat) : Int)) > room)) (by kernel_rfl) (fun hc3 => ?_) (fun hc3 => ?_)
    ·
      have hro := of_decide_eq_true hc3
      -- L full
      refine G_seq ?_
      refine G_pure (E' := [⟨6, [], .int .i64 61⟩]) [0] [6] rfl (by kernel_rfl) ?_
      refine N_then ?_
      refine G_ret ?_
      refine N_block_ret ?_
      refine N_then_ret ?_
      refine N_heap (H' := ([(d, .cells #[.int .i64 room, bv, .map (some nb), .map (some kb), .map (some cb), .bool ((callS fails once calls (rightB path)).2.1), .bool once, .int .i64 ((callS fails once calls (rightB path)).2.2)] 64 (0, 0))] :: [(nb, .map (encM nm) nc)] :: [(p, .cells #[.slice an n cn, .slice ak m ck] 68 (0, 0))] :: H)) (fun w h => (((h.front (j := 2) rfl).front (j := 2) rfl).front (j := 2) rfl)) ?_
      refine N_ret [.tmp 6] [.int .i64 61] rfl (by kernel_rfl) rfl ?_
      exact .inr (.inl ⟨hce, hro, rfl, rfl⟩)
    ·
      have hro := of_decide_eq_false hc3
      refine G_skip ?_
      refine N_block ?_
      refine N_then ?_
      refine G_seq ?_
      refine G_region ?_
      refine GL_pure (E' := [⟨39, [], .pointer (some ⟨p, 0, none⟩)⟩, ⟨38, [], .pointer (some ⟨p, 0, none⟩)⟩, ⟨37, [], .pointer (some ⟨p, 0, none⟩)⟩, ⟨36, [], .pointer (some ⟨p, 0, none⟩)⟩, ⟨2, [], .slice (some ⟨b, off, none⟩) k cap⟩, ⟨8, [], .pointer (some ⟨p, 0, none⟩)⟩, ⟨25, [], .bool (decide ((((sumN szf nm : Nat) : Int) + ((k : Nat) : Int)) > room))⟩]) [0, 0, 0, 0] (by kernel_rfl) (j := 4) rfl ?_
      refine GL_load (i := 4) (ch := []) (b := p) (off := 0) (v := .slice an n cn) rfl rfl (by kernel_rfl) (by kernel_rfl) (by kernel_rfl) (by kernel_rfl) (by kernel_rfl) (At.grp 2 0 rfl rfl) rfl ?_
      refine GL_callQ (i := 5) (ch := []) (f := 45) (fst := #[]) (caps := #[]) (vs := [.slice an n cn]) (v := .slice an n n) rfl rfl rfl (by kernel_rfl) (by kernel_rfl) Try.func45 rfl rfl (by kernel_rfl) (by kernel_rfl) (by kernel_rfl) (fun _ => vClip an n cn hnc (hna.imp (fun h => h.2.1) id) _ _) ?_
      refine GL_pure (E' := [⟨42, [], .slice (some ⟨b, off, none⟩) k cap⟩, ⟨41, [], .slice an n n⟩, ⟨40, [], .slice an n cn⟩, ⟨39, [], .pointer (some ⟨p, 0, none⟩)⟩, ⟨38, [], .pointer (some ⟨p, 0, none⟩)⟩, ⟨37, [], .pointer (some ⟨p, 0, none⟩)⟩, ⟨36, [], .pointer (some ⟨p, 0, none⟩)⟩, ⟨2, [], .slice (some ⟨b, off, none⟩) k cap⟩, ⟨8, [], .pointer (some ⟨p, 0, none⟩)⟩, ⟨25, [], .bool (decide ((((sumN szf nm : Nat) : Int) + ((k : Nat) : Int)) > room))⟩]) [0] (by kernel_rfl) (j := 7) rfl ?_
      refine GL_appendFull (i := 7) (ch := []) (t := 24) (tx := 24) (e := 5) (inf := Try.t5) (x := .slice (some ⟨b, off, none⟩) k cap) (a := an) (n := n) (m := k) (cs := (u8s l0)) (news := (u8s l)) (S := S) (S2 := S2) rfl rfl rfl rfl (by kernel_rfl) (by kernel_rfl) (by kernel_rfl) rfl rfl (.inl ⟨5, (by kernel_rfl)⟩) (fun ⟨_, h⟩ => by cases h) (fun _ => ⟨5, (by kernel_rfl)⟩) (by kernel_rfl) (by kernel_rfl) (by kernel_rfl) hrd0 (by rw [u8s_len]; exact hl0) (hna.imp (fun h => ⟨h.1, h.2.1⟩) id) (SrcOf.slice _ _ _ _ hrd (fun h => by cases h)) (fun y o h => (At.cons (At.cons (At.cons (hS y o h))))) (fun y o h => (At.cons (At.cons (At.cons (hS2 y o h))))) (by rw [u8s_len]; exact hl) u8s_one (by omega) (by show (n + k) * 1 ≤ _; omega) (fun a4 cap5 g6 hcap7 haa8 hrd9 => ?_)
      refine GL_pure (E' := [⟨45, [], .pointer (some ⟨p, 0, none⟩)⟩, ⟨44, [], .pointer (some ⟨p, 0, none⟩)⟩, ⟨43, [], .slice a4 (n + k) cap5⟩, ⟨42, [], .slice (some ⟨b, off, none⟩) k cap⟩, ⟨41, [], .slice an n n⟩, ⟨40, [], .slice an n cn⟩, ⟨39, [], .pointer (some ⟨p, 0, none⟩)⟩, ⟨38, [], .pointer (some ⟨p, 0, none⟩)⟩, ⟨37, [], .pointer (some ⟨p, 0, none⟩)⟩, ⟨36, [], .pointer (some ⟨p, 0, none⟩)⟩, ⟨2, [], .slice (some ⟨b, off, none⟩) k cap⟩, ⟨8, [], .pointer (some ⟨p, 0, none⟩)⟩, ⟨25, [], .bool (decide ((((sumN szf nm : Nat) : Int) + ((k : Nat) : Int)) > room))⟩]) [0, 0] (by kernel_rfl) (j := 10) rfl ?_
      refine GL_store (i := 10) (ch := []) (b := p) (off := 0) (v := .slice a4 (n + k) cap5) (c := #[.slice an n cn, .slice ak m ck]) (c' := #[.slice a4 (n + k) cap5, .slice ak m ck]) (j := 3) (m := 0) (H' := (g6 :: [(d, .cells #[.int .i64 room, bv, .map (some nb), .map (some kb), .map (some cb), .bool ((callS fails once calls (rightB path)).2.1), .bool once, .int .i64 ((callS fails once calls (rightB path)).2.2)] 64 (0, 0))] :: [(nb, .map (encM nm) nc)] :: [(p, .cells #[.slice a4 (n + k) cap5, .slice ak m ck] 68 (0, 0))] :: H)) rfl rfl (by kernel_rfl) (by kernel_rfl) (by kernel_rfl) (by kernel_rfl) (by kernel_rfl) (by kernel_rfl) (by kernel_rfl) rfl rfl (Nat.le_of_ble_eq_true rfl) (fun _ _ => thaw0) (by kernel_rfl) (by kernel_rfl) ?_
      refine GL_fin (E' := []) [] [] rfl (by kernel_rfl) ?_
      refine N_then ?_
      refine G_seq ?_
      refine G_pure (E' := [⟨6, [], .int .i64 0⟩]) [0] [6] rfl (by kernel_rfl) ?_
      refine N_then ?_
      refine G_ret ?_
      refine N_heap (H' := ([(d, .cells #[.int .i64 room, bv, .map (some nb), .map (some kb), .map (some cb), .bool ((callS fails once calls (rightB path)).2.1), .bool once, .int .i64 ((callS fails once calls (rightB path)).2.2)] 64 (0, 0))] :: [(nb, .map (encM nm) nc)] :: [(p, .cells #[.slice a4 (n + k) cap5, .slice ak m ck] 68 (0, 0))] :: g6 :: H)) (fun w h => (((h.front (j := 3) rfl).front (j := 3) rfl).front (j := 3) rfl)) ?_
      refine N_ret [.tmp 6] [.int .i64 0] rfl (by kernel_rfl) rfl ?_
      exact .inr (.inr ⟨hce, hro, rfl, a4, cap5, g6, hcap7, haa8, hrd9, rfl⟩)

theorem vAppendNoNil (d nb kb cb nc : Nat) (room calls : Int) (bv : Value) (fails once : Bool) (nm : SM) (path : ByteArray) (hpath : path.size ≤ 9223372036854775807) (hca : -9223372036854775808 ≤ calls ∧ calls ≤ 9223372036854775807) (hg : mget nm path = none) (W0 : World) (H : List Grp) : Tri Try.prog 22 #[.pointer (some ⟨d, 0, none⟩), .string path, .slice none 0 0] W0 ([(d, .cells #[.int .i64 room, bv, .map (some nb), .map (some kb), .map (some cb), .bool fails, .bool once, .int .i64 calls] 64 (0, 0))] :: [(nb, .map (encM nm) nc)] :: H) (fun v H' => ((callS fails once calls (rightB path)).1 ≠ 0 ∧ v = .int .i64 (callS fails once calls (rightB path)).1 ∧ H' = ([(d, .cells #[.int .i64 room, bv, .map (some nb), .map (some kb), .map (some cb), .bool ((callS fails once calls (rightB path)).2.1), .bool once, .int .i64 ((callS fails once calls (rightB path)).2.2)] 64 (0, 0))] :: [(nb, .map (encM nm) nc)] :: H)) ∨ ((callS fails once calls (rightB path)).1 = 0 ∧ v = .int .i64 60 ∧ H' = ([(d, .cells #[.int .i64 room, bv, .map (some nb), .map (some kb), .map (some cb), .bool ((callS fails once calls (rightB path)).2.1), .bool once, .int .i64 ((callS fails once calls (rightB path)).2.2)] 64 (0, 0))] :: [(nb, .map (encM nm) nc)] :: H))) := by
  refine Tri_of (args := [.pointer (some ⟨d, 0, none⟩), .string path, .slice none 0 0]) (n := 46) Try.func22 rfl rfl (Nat.le_of_ble_eq_true rfl) ?_
  refine G_seq ?_
  refine G_pure (E' := [⟨0, [], .pointer (some ⟨d, 0, none⟩)⟩, ⟨1, [], .string path⟩, ⟨2, [], .slice none 0 0⟩]) [0] [0, 1, 2] rfl (by kernel_rfl) ?_
  refine N_then ?_
  refine G_seq ?_
  refine G_seq ?_
  refine G_region ?_
  refine GL_pure (E' := [⟨10, [], .string path⟩, ⟨9, [], .pointer (some ⟨d, 0, none⟩)⟩, ⟨0, [], .pointer (some ⟨d, 0, none⟩)⟩, ⟨1, [], .string path⟩, ⟨2, [], .slice none 0 0⟩]) [0, 0] (by kernel_rfl) (j := 2) rfl ?_
  refine GL_callQ (i := 2) (ch := []) (f := 10) (fst := #[]) (caps := #[]) (vs := [.string path]) (v := .bool (rightB path)) rfl rfl rfl (by kernel_rfl) (by kernel_rfl) Try.func10 rfl rfl (by kernel_rfl) (by kernel_rfl) (by kernel_rfl) (fun _ => vfsRight _ hpath _ _) ?_
  refine GL_call (i := 3) (ch := []) (f := 34) (fst := #[]) (caps := #[]) (vs := [.pointer (some ⟨d, 0, none⟩), .bool (rightB path)]) rfl rfl rfl (by kernel_rfl) (by kernel_rfl) Try.func34 rfl rfl (by kernel_rfl) (by kernel_rfl) (chSure_of (by kernel_rfl)) (vCall d nb kb cb room calls bv fails once (rightB path) hca _ _) ?_
  rintro v H' ⟨rfl, rfl⟩
  refine GL_fin (E' := [⟨0, [], .pointer (some ⟨d, 0, none⟩)⟩, ⟨1, [], .string path⟩, ⟨2, [], .slice none 0 0⟩, ⟨7, [], .int .i64 ((callS fails once calls (rightB path)).1)⟩]) [0] [0, 1, 2, 7] rfl (by kernel_rfl) ?_
  refine N_then ?_
  refine G_seq ?_
  refine G_pure (E' := [⟨0, [], .pointer (some ⟨d, 0, none⟩)⟩, ⟨1, [], .string path⟩, ⟨2, [], .slice none 0 0⟩, ⟨7, [], .int .i64 ((callS fails once calls (rightB path)).1)⟩, ⟨14, [], .bool (((callS fails once calls (rightB path)).1) != 0)⟩]) [0, 0] [0, 1, 2, 7, 14] rfl (by kernel_rfl) ?_
  refine N_then ?_
  refine G_cond (b := ((callS fails once calls (rightB path)).1) != 0) (by kernel_rfl) (fun hc1 => ?_) (fun hc1 => ?_)
  ·
    have hce : (callS fails once calls (rightB path)).1 ≠ 0 := by simpa using hc1
    -- L err
    refine G_seq ?_
    refine G_pure (E' := [⟨6, [], .int .i64 ((callS fails once calls (rightB path)).1)⟩]) [0, 0] [6] rfl (by kernel_rfl) ?_
    refine N_then ?_
    refine G_ret ?_
    refine N_then_ret ?_
    refine N_ret [.tmp 6] [.int .i64 ((callS fails once calls (rightB path)).1)] rfl (by kernel_rfl) rfl ?_
    exact .inl ⟨hce, rfl, rfl⟩
  ·
    have hce : (callS fails once calls (rightB path)).1 = 0 := by simpa using hc1
    refine G_skip ?_
    refine N_then ?_
    refine G_seq ?_
    refine G_region ?_
    refine GL_pure (E' := [⟨18, [], .pointer (some ⟨d, 2, none⟩)⟩, ⟨17, [], .pointer (some ⟨d, 0, none⟩)⟩, ⟨16, [], .pointer (some ⟨d, 0, none⟩)⟩, ⟨0, [], .pointer (some ⟨d, 0, none⟩)⟩, ⟨1, [], .string path⟩, ⟨2, [], .slice none 0 0⟩, ⟨7, [], .int .i64 ((callS fails once calls (rightB path)).1)⟩, ⟨14, [], .bool (((callS fails once calls (rightB path)).1) != 0)⟩]) [0, 0, 0] (by kernel_rfl) (j := 3) rfl ?_
    refine GL_load (i := 3) (ch := []) (b := d) (off := 2) (v := .map (some nb)) rfl rfl (by kernel_rfl) (by kernel_rfl) (by kernel_rfl) (by kernel_rfl) (by kernel_rfl) (At.grp 0 0 rfl rfl) rfl ?_
    refine GL_pure (E' := [⟨20, [], .string path⟩, ⟨19, [], .map (some nb)⟩, ⟨18, [], .pointer (some ⟨d, 2, none⟩)⟩, ⟨17, [], .pointer (some ⟨d, 0, none⟩)⟩, ⟨16, [], .pointer (some ⟨d, 0, none⟩)⟩, ⟨0, [], .pointer (some ⟨d, 0, none⟩)⟩, ⟨1, [], .string path⟩, ⟨2, [], .slice none 0 0⟩, ⟨7, [], .int .i64 ((callS fails once calls (rightB path)).1)⟩, ⟨14, [], .bool (((callS fails once calls (rightB path)).1) != 0)⟩]) [0] (by kernel_rfl) (j := 5) rfl ?_
    refine GL_lookup (i := 5) (ch := []) (kt := 9) (et := 66) (r := nb) (c := nc) (m := nm) (k := path) (z := .pointer none) (ov := none) rfl rfl (by kernel_rfl) (by kernel_rfl) (by kernel_rfl) (by kernel_rfl) (by kernel_rfl) (by kernel_rfl) (by kernel_rfl) (by kernel_rfl) (At.grp 1 0 rfl rfl) (fun _ => hg) ?_
    refine GL_fin (E' := [⟨0, [], .pointer (some ⟨d, 0, none⟩)⟩, ⟨2, [], .slice none 0 0⟩, ⟨8, [], .pointer none⟩]) [0] [0, 2, 8] rfl (by kernel_rfl) ?_
    refine N_then ?_
    refine G_seq ?_
    refine G_block ?_
    refine G_seq ?_
    refine G_pure (E' := [⟨0, [], .pointer (some ⟨d, 0, none⟩)⟩, ⟨2, [], .slice none 0 0⟩, ⟨8, [], .pointer none⟩, ⟨22, [], .bool true⟩]) [0, 0, 0] [0, 2, 8, 22] rfl (by kernel_rfl) ?_
    refine N_then ?_
    refine G_condt (by kernel_rfl) ?_
    refine G_seq ?_
    refine G_pure (E' := [⟨6, [], .int .i64 60⟩]) [0] [6] rfl (by kernel_rfl) ?_
    refine N_then ?_
    refine G_ret ?_
    refine N_block_ret ?_
    refine N_then_ret ?_
    refine N_ret [.tmp 6] [.int .i64 60] rfl (by kernel_rfl) rfl ?_
    exact .inr ⟨hce, rfl, rfl⟩

theorem vAppendNil (d nb kb cb nc : Nat) (room calls : Int) (bv : Value) (fails once : Bool) (nm : SM) (path : ByteArray) (hpath : path.size ≤ 9223372036854775807) (hca : -9223372036854775808 ≤ calls ∧ calls ≤ 9223372036854775807) (szf : Value → Nat) (hn : MapOk nm nc) (hs : sumN szf nm ≤ 1000000000000) (p n cn m ck : Nat) (an ak : Option Addr) (hg : mget nm path = some (.pointer (some ⟨p, 0, none⟩))) (S : Nat → Obj → Prop) (l0 : List UInt8) (hrd0 : Rd S an (u8s l0)) (hl0 : l0.length = n) (hnn : n ≤ 1000000000) (hnc : n ≤ cn) (hna : (an = none ∧ n = 0 ∧ cn = 0) ∨ ∃ b off, an = some ⟨b, off, none⟩) (W0 : World) (H : List Grp) (hS : ∀ y o, S y o → At W0 H y o) (hB : ∀ e ∈ nm, ∃ p1 a c kv, e.2.1 = .pointer (some ⟨p1, 0, none⟩) ∧ At W0 ([(p, .cells #[.slice an n cn, .slice ak m ck] 68 (0, 0))] :: H) p1 (.cells #[.slice a (szf e.2.1) c, kv] 68 (0, 0))) : Tri Try.prog 22 #[.pointer (some ⟨d, 0, none⟩), .string path, .slice none 0 0] W0 ([(d, .cells #[.int .i64 room, bv, .map (some nb), .map (some kb), .map (some cb), .bool fails, .bool once, .int .i64 calls] 64 (0, 0))] :: [(nb, .map (encM nm) nc)] :: [(p, .cells #[.slice an n cn, .slice ak m ck] 68 (0, 0))] :: H) (fun v H' => ((callS fails once calls (rightB path)).1 ≠ 0 ∧ v = .int .i64 (callS fails once calls (rightB path)).1 ∧ H' = ([(d, .cells #[.int .i64 room, bv, .map (some nb), .map (some kb), .map (some cb), .bool ((callS fails once calls (rightB path)).2.1), .bool once, .int .i64 ((callS fails once calls (rightB path)).2.2)] 64 (0, 0))] :: [(nb, .map (encM nm) nc)] :: [(p, .cells #[.slice an n cn, .slice ak m ck] 68 (0, 0))] :: H)) ∨ ((callS fails once calls (rightB path)).1 = 0 ∧ ((sumN szf nm : Nat) : Int) + (0 : Int) > room ∧ v = .int .i64 61 ∧ H' = ([(d, .cells #[.int .i64 room, bv, .map (some nb), .map (some kb), .map (some cb), .bool ((callS fails once calls (rightB path)).2.1), .bool once, .int .i64 ((callS fails once calls (rightB path)).2.2)] 64 (0, 0))] :: [(nb, .map (encM nm) nc)] :: [(p, .cells #[.slice an n cn, .slice ak m ck] 68 (0, 0))] :: H)) ∨ ((callS fails once calls (rightB path)).1 = 0 ∧ ¬ ((sumN szf nm : Nat) : Int) + (0 : Int) > room ∧ v = .int .i64 0 ∧ ∃ a' cap' g, n + 0 ≤ cap' ∧ ((a' = none ∧ n + 0 = 0 ∧ cap' = 0) ∨ ∃ b off, a' = some ⟨b, off, none⟩) ∧ Rd (fun b o => S b o ∨ inG g b o) a' (u8s l0 ++ []) ∧ H' = ([(d, .cells #[.int .i64 room, bv, .map (some nb), .map (some kb), .map (some cb), .bool ((callS fails once calls (rightB path)).2.1), .bool once, .int .i64 ((callS fails once calls (rightB path)).2.2)] 64 (0, 0))] :: [(nb, .map (encM nm) nc)] :: [(p, .cells #[.slice a' (n + 0) cap', .slice ak m ck] 68 (0, 0))] :: g :: H))) := by
  refine Tri_of (args := [.pointer (some ⟨d, 0, none⟩), .string path, .slice none 0 0]) (n := 46) Try.func22 rfl rfl (Nat.le_of_ble_eq_true rfl) ?_
  refine G_seq ?_
  refine G_pure (E' := [⟨0, [], .pointer (some ⟨d, 0, none⟩)⟩, ⟨1, [], .string path⟩, ⟨2, [], .slice none 0 0⟩]) [0] [0, 1, 2] rfl (by kernel_rfl) ?_
  refine N_then ?_
  refine G_seq ?_
  refine G_seq ?_
  refine G_region ?_
  refine GL_pure (E' := [⟨10, [], .string path⟩, ⟨9, [], .pointer (some ⟨d, 0, none⟩)⟩, ⟨0, [], .pointer (some ⟨d, 0, none⟩)⟩, ⟨1, [], .string path⟩, ⟨2, [], .slice none 0 0⟩]) [0, 0] (by kernel_rfl) (j := 2) rfl ?_
  refine GL_callQ (i := 2) (ch := []) (f := 10) (fst := #[]) (caps := #[]) (vs := [.string path]) (v := .bool (rightB path)) rfl rfl rfl (by kernel_rfl) (by kernel_rfl) Try.func10 rfl rfl (by kernel_rfl) (by kernel_rfl) (by kernel_rfl) (fun _ => vfsRight _ hpath _ _) ?_
  refine GL_call (i := 3) (ch := []) (f := 34) (fst := #[]) (caps := #[]) (vs := [.pointer (some ⟨d, 0, none⟩), .bool (rightB path)]) rfl rfl rfl (by kernel_rfl) (by kernel_rfl) Try.func34 rfl rfl (by kernel_rfl) (by kernel_rfl) (chSure_of (by kernel_rfl)) (vCall d nb kb cb room calls bv fails once (rightB path) hca _ _) ?_
  rintro v H' ⟨rfl, rfl⟩
  refine GL_fin (E' := [⟨0, [], .pointer (some ⟨d, 0, none⟩)⟩, ⟨1, [], .string path⟩, ⟨2, [], .slice none 0 0⟩, ⟨7, [], .int .i64 ((callS fails once calls (rightB path)).1)⟩]) [0] [0, 1, 2, 7] rfl (by kernel_rfl) ?_
  refine N_then ?_
  refine G_seq ?_
  refine G_pure (E' := [⟨0, [], .pointer (some ⟨d, 0, none⟩)⟩, ⟨1, [], .string path⟩, ⟨2, [], .slice none 0 0⟩, ⟨7, [], .int .i64 ((callS fails once calls (rightB path)).1)⟩, ⟨14, [], .bool (((callS fails once calls (rightB path)).1) != 0)⟩]) [0, 0] [0, 1, 2, 7, 14] rfl (by kernel_rfl) ?_
  refine N_then ?_
  refine G_cond (b := ((callS fails once calls (rightB path)).1) != 0) (by kernel_rfl) (fun hc1 => ?_) (fun hc1 => ?_)
  ·
    have hce : (callS fails once calls (rightB path)).1 ≠ 0 := by simpa using hc1
    -- L err
    refine G_seq ?_
    refine G_pure (E' := [⟨6, [], .int .i64 ((callS fails once calls (rightB path)).1)⟩]) [0, 0] [6] rfl (by kernel_rfl) ?_
    refine N_then ?_
    refine G_ret ?_
    refine N_then_ret ?_
    refine N_heap (H' := ([(d, .cells #[.int .i64 room, bv, .map (some nb), .map (some kb), .map (some cb), .bool ((callS fails once calls (rightB path)).2.1), .bool once, .int .i64 ((callS fails once calls (rightB path)).2.2)] 64 (0, 0))] :: [(nb, .map (encM nm) nc)] :: [(p, .cells #[.slice an n cn, .slice ak m ck] 68 (0, 0))] :: H)) (fun w h => (((h.front (j := 2) rfl).front (j := 2) rfl).front (j := 2) rfl)) ?_
    refine N_ret [.tmp 6] [.int .i64 ((callS fails once calls (rightB path)).1)] rfl (by kernel_rfl) rfl ?_
    exact .inl ⟨hce, rfl, rfl⟩
  ·
    have hce : (callS fails once calls (rightB path)).1 = 0 := by simpa using hc1
    refine G_skip ?_
    refine N_then ?_
    refine G_seq ?_
    refine G_region ?_
    refine GL_pure (E' := [⟨18, [], .pointer (some ⟨d, 2, none⟩)⟩, ⟨17, [], .pointer (some ⟨d, 0, none⟩)⟩, ⟨16, [], .pointer (some ⟨d, 0, none⟩)⟩, ⟨0, [], .pointer (some ⟨d, 0, none⟩)⟩, ⟨1, [], .string path⟩, ⟨2, [], .slice none 0 0⟩, ⟨7, [], .int .i64 ((callS fails once calls (rightB path)).1)⟩, ⟨14, [], .bool (((callS fails once calls (rightB path)).1) != 0)⟩]) [0, 0, 0] (by kernel_rfl) (j := 3) rfl ?_
    refine GL_load (i := 3) (ch := []) (b := d) (off := 2) (v := .map (some nb)) rfl rfl (by kernel_rfl) (by kernel_rfl) (by kernel_rfl) (by kernel_rfl) (by kernel_rfl) (At.grp 0 0 rfl rfl) rfl ?_
    refine GL_pure (E' := [⟨20, [], .string path⟩, ⟨19, [], .map (some nb)⟩, ⟨18, [], .pointer (some ⟨d, 2, none⟩)⟩, ⟨17, [], .pointer (some ⟨d, 0, none⟩)⟩, ⟨16, [], .pointer (some ⟨d, 0, none⟩)⟩, ⟨0, [], .pointer (some ⟨d, 0, none⟩)⟩, ⟨1, [], .string path⟩, ⟨2, [], .slice none 0 0⟩, ⟨7, [], .int .i64 ((callS fails once calls (rightB path)).1)⟩, ⟨14, [], .bool (((callS fails once calls (rightB path)).1) != 0)⟩]) [0] (by kernel_rfl) (j := 5) rfl ?_
    refine GL_lookup (i := 5) (ch := []) (kt := 9) (et := 66) (r := nb) (c := nc) (m := nm) (k := path) (z := .pointer none) (ov := (some (.pointer (some ⟨p, 0, none⟩)))) rfl rfl (by kernel_rfl) (by kernel_rfl) (by kernel_rfl) (by kernel_rfl) (by kernel_rfl) (by kernel_rfl) (by kernel_rfl) (by kernel_rfl) (At.grp 1 0 rfl rfl) (fun _ => hg) ?_
    refine GL_fin (E' := [⟨0, [], .pointer (some ⟨d, 0, none⟩)⟩, ⟨2, [], .slice none 0 0⟩, ⟨8, [], .pointer (some ⟨p, 0, none⟩)⟩]) [0] [0, 2, 8] rfl (by kernel_rfl) ?_
    refine N_then ?_
    refine G_seq ?_
    refine G_block ?_
    refine G_seq ?_
    refine G_pure (E' := [⟨0, [], .pointer (some ⟨d, 0, none⟩)⟩, ⟨2, [], .slice none 0 0⟩, ⟨8, [], .pointer (some ⟨p, 0, none⟩)⟩, ⟨22, [], .bool false⟩]) [0, 0, 0] [0, 2, 8, 22] rfl (by kernel_rfl) ?_
    refine N_then ?_
    refine G_condf (by kernel_rfl) ?_
    refine G_seq ?_
    refine G_regionH ([(d, .cells #[.int .i64 room, bv, .map (some nb), .map (some kb), .map (some cb), .bool ((callS fails once calls (rightB path)).2.1), .bool once, .int .i64 ((callS fails once calls (rightB path)).2.2)] 64 (0, 0))] :: [(nb, .map (encM nm) nc)] :: [(p, .cells #[.slice an n cn, .slice ak m ck] 68 (0, 0))] :: H) (by kernel_rfl) ?_
    refine GH_take (E' := [⟨26, [], .pointer (some ⟨d, 0, none⟩)⟩, ⟨0, [], .pointer (some ⟨d, 0, none⟩)⟩, ⟨2, [], .slice none 0 0⟩, ⟨8, [], .pointer (some ⟨p, 0, none⟩)⟩, ⟨22, [], .bool false⟩]) 0 (by kernel_rfl) (by kernel_rfl) (by kernel_rfl) (by kernel_rfl) (by kernel_rfl) (fun w h => (((h.front (j := 2) rfl).front (j := 2) rfl).front (j := 2) rfl)) ?_ ?_
    ·
      refine GL_pure (E' := [⟨26, [], .pointer (some ⟨d, 0, none⟩)⟩, ⟨0, [], .pointer (some ⟨d, 0, none⟩)⟩, ⟨2, [], .slice none 0 0⟩, ⟨8, [], .pointer (some ⟨p, 0, none⟩)⟩, ⟨22, [], .bool false⟩]) [0] (by kernel_rfl) (j := 1) rfl ?_
      exact GL_yend (by kernel_rfl) (by kernel_rfl)
    refine GH_take (E' := [⟨28, [], .slice none 0 0⟩, ⟨26, [], .pointer (some ⟨d, 0, none⟩)⟩, ⟨0, [], .pointer (some ⟨d, 0, none⟩)⟩, ⟨2, [], .slice none 0 0⟩, ⟨8, [], .pointer (some ⟨p, 0, none⟩)⟩, ⟨22, [], .bool false⟩]) 2 (by kernel_rfl) (by kernel_rfl) (by kernel_rfl) (by kernel_rfl) (by kernel_rfl) (fun w h => (((h.front (j := 2) rfl).front (j := 2) rfl).front (j := 2) rfl)) ?_ ?_
    ·
      refine GL_pure (E' := [⟨28, [], .slice none 0 0⟩, ⟨26, [], .pointer (some ⟨d, 0, none⟩)⟩, ⟨0, [], .pointer (some ⟨d, 0, none⟩)⟩, ⟨2, [], .slice none 0 0⟩, ⟨8, [], .pointer (some ⟨p, 0, none⟩)⟩, ⟨22, [], .bool false⟩]) [0] (by kernel_rfl) (j := 3) rfl ?_
      exact GL_yend (by kernel_rfl) (by kernel_rfl)
    refine GH_pev (v := .int .i64 0) 3 rfl rfl (by kernel_rfl) (by kernel_rfl) (by kernel_rfl) (by kernel_rfl) (by kernel_rfl) (fun w h => (((h.front (j := 2) rfl).front (j := 2) rfl).front (j := 2) rfl)) ?_
    refine GH_take (E' := [⟨31, [], .pointer (some ⟨d, 0, none⟩)⟩, ⟨29, [], .int .i64 0⟩, ⟨28, [], .slice none 0 0⟩, ⟨26, [], .pointer (some ⟨d, 0, none⟩)⟩, ⟨0, [], .pointer (some ⟨d, 0, none⟩)⟩, ⟨2, [], .slice none 0 0⟩, ⟨8, [], .pointer (some ⟨p, 0, none⟩)⟩, ⟨22, [], .bool false⟩]) 5 (by kernel_rfl) (by kernel_rfl) (by kernel_rfl) (by kernel_rfl) (by kernel_rfl) (fun w h => (((h.front (j := 2) rfl).front (j := 2) rfl).front (j := 2) rfl)) ?_ ?_
    ·
      refine GL_pure (E' := [⟨31, [], .pointer (some ⟨d, 0, none⟩)⟩, ⟨29, [], .int .i64 0⟩, ⟨28, [], .slice none 0 0⟩, ⟨26, [], .pointer (some ⟨d, 0, none⟩)⟩, ⟨0, [], .pointer (some ⟨d, 0, none⟩)⟩, ⟨2, [], .slice none 0 0⟩, ⟨8, [], .pointer (some ⟨p, 0, none⟩)⟩, ⟨22, [], .bool false⟩]) [0] (by kernel_rfl) (j := 6) rfl ?_
      exact GL_yend (by kernel_rfl) (by kernel_rfl)
    refine GH_nil (ad := ⟨d, 0, none⟩) 6 rfl rfl rfl (by kernel_rfl) (by kernel_rfl) (by kernel_rfl) (by kernel_rfl) (by kernel_rfl) (fun w h => (((h.front (j := 2) rfl).front (j := 2) rfl).front (j := 2) rfl)) ?_
    refine GH_take (E' := [⟨33, [], .pointer (some ⟨d, 0, none⟩)⟩, ⟨32, [], .pointer (some ⟨d, 0, none⟩)⟩, ⟨31, [], .pointer (some ⟨d, 0, none⟩)⟩, ⟨29, [], .int .i64 0⟩, ⟨28, [], .slice none 0 0⟩, ⟨26, [], .pointer (some ⟨d, 0, none⟩)⟩, ⟨0, [], .pointer (some ⟨d, 0, none⟩)⟩, ⟨2, [], .slice none 0 0⟩, ⟨8, [], .pointer (some ⟨p, 0, none⟩)⟩, ⟨22, [], .bool false⟩]) 7 (by kernel_rfl) (by kernel_rfl) (by kernel_rfl) (by kernel_rfl) (by kernel_rfl) (fun w h => (((h.front (j := 2) rfl).front (j := 2) rfl).front (j := 2) rfl)) ?_ ?_
    ·
      refine GL_pure (E' := [⟨33, [], .pointer (some ⟨d, 0, none⟩)⟩, ⟨32, [], .pointer (some ⟨d, 0, none⟩)⟩, ⟨31, [], .pointer (some ⟨d, 0, none⟩)⟩, ⟨29, [], .int .i64 0⟩, ⟨28, [], .slice none 0 0⟩, ⟨26, [], .pointer (some ⟨d, 0, none⟩)⟩, ⟨0, [], .pointer (some ⟨d, 0, none⟩)⟩, ⟨2, [], .slice none 0 0⟩, ⟨8, [], .pointer (some ⟨p, 0, none⟩)⟩, ⟨22, [], .bool false⟩]) [0] (by kernel_rfl) (j := 8) rfl ?_
      exact GL_yend (by kernel_rfl) (by kernel_rfl)
    refine GH_take (E' := [⟨34, [], .int .i64 room⟩, ⟨33, [], .pointer (some ⟨d, 0, none⟩)⟩, ⟨32, [], .pointer (some ⟨d, 0, none⟩)⟩, ⟨31, [], .pointer (some ⟨d, 0, none⟩)⟩, ⟨29, [], .int .i64 0⟩, ⟨28, [], .slice none 0 0⟩, ⟨26, [], .pointer (some ⟨d, 0, none⟩)⟩, ⟨0, [], .pointer (some ⟨d, 0, none⟩)⟩, ⟨2, [], .slice none 0 0⟩, ⟨8, [], .pointer (some ⟨p, 0, none⟩)⟩, ⟨22, [], .bool false⟩]) 8 (by kernel_rfl) (by kernel_rfl) (by kernel_rfl) (by kernel_rfl) (by kernel_rfl) (fun w h => (((h.front (j := 2) rfl).front (j := 2) rfl).front (j := 2) rfl)) ?_ ?_
    ·
      refine GL_load (i := 8) (ch := []) (b := d) (off := 0) (v := .int .i64 room) rfl rfl (by kernel_rfl) (by kernel_rfl) (by kernel_rfl) (by kernel_rfl) (by kernel_rfl) (At.grp 0 0 rfl rfl) rfl ?_
      exact GL_yend (by kernel_rfl) (by kernel_rfl)
    refine GH_eff 1 (by kernel_rfl) (by kernel_rfl) (by kernel_rfl) ?_
    refine GL_heap rfl (H' := ([(d, .cells #[.int .i64 room, bv, .map (some nb), .map (some kb), .map (some cb), .bool ((callS fails once calls (rightB path)).2.1), .bool once, .int .i64 ((callS fails once calls (rightB path)).2.2)] 64 (0, 0))] :: [(nb, .map (encM nm) nc)] :: [(p, .cells #[.slice an n cn, .slice ak m ck] 68 (0, 0))] :: H)) (fun w h => ((h.front (j := 1) rfl).front (j := 1) rfl)) ?_
    refine GL_call (i := 1) (ch := []) (f := 26) (fst := #[]) (caps := #[]) (vs := [.pointer (some ⟨d, 0, none⟩)]) rfl rfl rfl (by kernel_rfl) (by kernel_rfl) Try.func26 rfl rfl (by kernel_rfl) (by kernel_rfl) (chSure_of (by kernel_rfl)) (vUsed d nb kb cb nc room ((callS fails once calls (rightB path)).2.2) bv ((callS fails once calls (rightB path)).2.1) once nm szf hn hs _ _ hB) ?_
    rintro v H' ⟨rfl, rfl⟩
    refine GH_back (by kernel_rfl) (fun w h => (((h.front (j := 2) rfl).front (j := 2) rfl).front (j := 2) rfl)) ?_
    refine GH_take (E' := [⟨30, [], .int .i64 (((sumN szf nm : Nat) : Int) + 0)⟩, ⟨27, [], .int .i64 ((sumN szf nm : Nat) : Int)⟩, ⟨34, [], .int .i64 room⟩, ⟨33, [], .pointer (some ⟨d, 0, none⟩)⟩, ⟨32, [], .pointer (some ⟨d, 0, none⟩)⟩, ⟨31, [], .pointer (some ⟨d, 0, none⟩)⟩, ⟨29, [], .int .i64 0⟩, ⟨28, [], .slice none 0 0⟩, ⟨26, [], .pointer (some ⟨d, 0, none⟩)⟩, ⟨0, [], .pointer (some ⟨d, 0, none⟩)⟩, ⟨2, [], .slice none 0 0⟩, ⟨8, [], .pointer (some ⟨p, 0, none⟩)⟩, ⟨22, [], .bool false⟩]) 4 (by kernel_rfl) (by kernel_rfl) (by kernel_rfl) (by kernel_rfl) (by kernel_rfl) (fun w h => (((h.front (j := 2) rfl).front (j := 2) rfl).front (j := 2) rfl)) ?_ ?_
    ·
      have hw2 : IntKind.wrap .i64 (((sumN szf nm : Nat) : Int) + 0) = ((sumN szf nm : Nat) : Int) + 0 := w64 (by omega) (by omega)
      refine GL_pure (E' := [⟨30, [], .int .i64 (((sumN szf nm : Nat) : Int) + 0)⟩, ⟨27, [], .int .i64 ((sumN szf nm : Nat) : Int)⟩, ⟨34, [], .int .i64 room⟩, ⟨33, [], .pointer (some ⟨d, 0, none⟩)⟩, ⟨32, [], .pointer (some ⟨d, 0, none⟩)⟩, ⟨31, [], .pointer (some ⟨d, 0, none⟩)⟩, ⟨29, [], .int .i64 0⟩, ⟨28, [], .slice none 0 0⟩, ⟨26, [], .pointer (some ⟨d, 0, none⟩)⟩, ⟨0, [], .pointer (some ⟨d, 0, none⟩)⟩, ⟨2, [], .slice none 0 0⟩, ⟨8, [], .pointer (some ⟨p, 0, none⟩)⟩, ⟨22, [], .bool false⟩]) [0] (Eq.trans (b := some [⟨30, [], .int .i64 (IntKind.wrap .i64 (((sumN szf nm : Nat) : Int) + 0))⟩, ⟨27, [], .int .i64 ((sumN szf nm : Nat) : Int)⟩, ⟨34, [], .int .i64 room⟩, ⟨33, [], .pointer (some ⟨d, 0, none⟩)⟩, ⟨32, [], .pointer (some ⟨d, 0, none⟩)⟩, ⟨31, [], .pointer (some ⟨d, 0, none⟩)⟩, ⟨29, [], .int .i64 0⟩, ⟨28, [], .slice none 0 0⟩, ⟨26, [], .pointer (some ⟨d, 0, none⟩)⟩, ⟨0, [], .pointer (some ⟨d, 0, none⟩)⟩, ⟨2, [], .slice none 0 0⟩, ⟨8, [], .pointer (some ⟨p, 0, none⟩)⟩, ⟨22, [], .bool false⟩]) (by kernel_rfl) (by simp only [hw2])) (j := 5) rfl ?_
      exact GL_yend (by kernel_rfl) (by kernel_rfl)
    refine GH_take (E' := [⟨35, [], .bool (decide ((((sumN szf nm : Nat) : Int) + 0) > room))⟩, ⟨30, [], .int .i64 (((sumN szf nm : Nat) : Int) + 0)⟩, ⟨27, [], .int .i64 ((sumN szf nm : Nat) : Int)⟩, ⟨34, [], .int .i64 room⟩, ⟨33, [], .pointer (some ⟨d, 0, none⟩)⟩, ⟨32, [], .pointer (some ⟨d, 0, none⟩)⟩, ⟨31, [], .pointer (some ⟨d, 0, none⟩)⟩, ⟨29, [], .int .i64 0⟩, ⟨28, [], .slice none 0 0⟩, ⟨26, [], .pointer (some ⟨d, 0, none⟩)⟩, ⟨0, [], .pointer (some ⟨d, 0, none⟩)⟩, ⟨2, [], .slice none 0 0⟩, ⟨8, [], .pointer (some ⟨p, 0, none⟩)⟩, ⟨22, [], .bool false⟩]) 9 (by kernel_rfl) (by kernel_rfl) (by kernel_rfl) (by kernel_rfl) (by kernel_rfl) (fun w h => (((h.front (j := 2) rfl).front (j := 2) rfl).front (j := 2) rfl)) ?_ ?_
    ·
      refine GL_pure (E' := [⟨35, [], .bool (decide ((((sumN szf nm : Nat) : Int) + 0) > room))⟩, ⟨30, [], .int .i64 (((sumN szf nm : Nat) : Int) + 0)⟩, ⟨27, [], .int .i64 ((sumN szf nm : Nat) : Int)⟩, ⟨34, [], .int .i64 room⟩, ⟨33, [], .pointer (some ⟨d, 0, none⟩)⟩, ⟨32, [], .pointer (some ⟨d, 0, none⟩)⟩, ⟨31, [], .pointer (some ⟨d, 0, none⟩)⟩, ⟨29, [], .int .i64 0⟩, ⟨28, [], .slice none 0 0⟩, ⟨26, [], .pointer (some ⟨d, 0, none⟩)⟩, ⟨0, [], .pointer (some ⟨d, 0, none⟩)⟩, ⟨2, [], .slice none 0 0⟩, ⟨8, [], .pointer (some ⟨p, 0, none⟩)⟩, ⟨22, [], .bool false⟩]) [0] (by kernel_rfl) (j := 10) rfl ?_
      exact GL_yend (by kernel_rfl) (by kernel_rfl)
    refine GH_take (E' := [⟨25, [], .bool (decide ((((sumN szf nm : Nat) : Int) + 0) > room))⟩, ⟨35, [], .bool (decide ((((sumN szf nm : Nat) : Int) + 0) > room))⟩, ⟨30, [], .int .i64 (((sumN szf nm : Nat) : Int) + 0)⟩, ⟨27, [], .int .i64 ((sumN szf nm : Nat) : Int)⟩, ⟨34, [], .int .i64 room⟩, ⟨33, [], .pointer (some ⟨d, 0, none⟩)⟩, ⟨32, [], .pointer (some ⟨d, 0, none⟩)⟩, ⟨31, [], .pointer (some ⟨d, 0, none⟩)⟩, ⟨29, [], .int .i64 0⟩, ⟨28, [], .slice none 0 0⟩, ⟨26, [], .pointer (some ⟨d, 0, none⟩)⟩, ⟨0, [], .pointer (some ⟨d, 0, none⟩)⟩, ⟨2, [], .slice none 0 0⟩, ⟨8, [], .pointer (some ⟨p, 0, none⟩)⟩, ⟨22, [], .bool false⟩]) 10 (by kernel_rfl) (by kernel_rfl) (by kernel_rfl) (by kernel_rfl) (by kernel_rfl) (fun w h => (((h.front (j := 2) rfl).front (j := 2) rfl).front (j := 2) rfl)) ?_ ?_
    ·
      refine GL_pure (E' := [⟨25, [], .bool (decide ((((sumN szf nm : Nat) : Int) + 0) > room))⟩, ⟨35, [], .bool (decide ((((sumN szf nm : Nat) : Int) + 0) > room))⟩, ⟨30, [], .int .i64 (((sumN szf nm : Nat) : Int) + 0)⟩, ⟨27, [], .int .i64 ((sumN szf nm : Nat) : Int)⟩, ⟨34, [], .int .i64 room⟩, ⟨33, [], .pointer (some ⟨d, 0, none⟩)⟩, ⟨32, [], .pointer (some ⟨d, 0, none⟩)⟩, ⟨31, [], .pointer (some ⟨d, 0, none⟩)⟩, ⟨29, [], .int .i64 0⟩, ⟨28, [], .slice none 0 0⟩, ⟨26, [], .pointer (some ⟨d, 0, none⟩)⟩, ⟨0, [], .pointer (some ⟨d, 0, none⟩)⟩, ⟨2, [], .slice none 0 0⟩, ⟨8, [], .pointer (some ⟨p, 0, none⟩)⟩, ⟨22, [], .bool false⟩]) [0] (by kernel_rfl) (j := 11) rfl ?_
      exact GL_yend (by kernel_rfl) (by kernel_rfl)
    refine GH_done (E' := [⟨2, [], .slice none 0 0⟩, ⟨8, [], .pointer (some ⟨p, 0, none⟩)⟩, ⟨25, [], .bool (decide ((((sumN szf nm : Nat) : Int) + 0) > room))⟩]) [2, 8, 25] (by kernel_rfl) (by kernel_rfl) ?_
    refine N_then ?_
    refine G_cond (b := decide ((((sumN szf nm : Nat) : Int) + 0) > room)) (by kernel_rfl) (fun hc3 => ?_) (fun hc3 => ?_)
    ·
      have hro := of_decide_eq_true hc3
      -- L full
      refine G_seq ?_
      refine G_pure (E' := [⟨6, [], .int .i64 61⟩]) [0] [6] rfl (by kernel_rfl) ?_
      refine N_then ?_
      refine G_ret ?_
      refine N_block_ret ?_
      refine N_then_ret ?_
      refine N_heap (H' := ([(d, .cells #[.int .i64 room, bv, .map (some nb), .map (some kb), .map (some cb), .bool ((callS fails once calls (rightB path)).2.1), .bool once, .int .i64 ((callS fails once calls (rightB path)).2.2)] 64 (0, 0))] :: [(nb, .map (encM nm) nc)] :: [(p, .cells #[.slice an n cn, .slice ak m ck] 68 (0, 0))] :: H)) (fun w h => (((h.front (j := 2) rfl).front (j := 2) rfl).front (j := 2) rfl)) ?_
      refine N_ret [.tmp 6] [.int .i64 61] rfl (by kernel_rfl) rfl ?_
      exact .inr (.inl ⟨hce, hro, rfl, rfl⟩)
    ·
      have hro := of_decide_eq_false hc3
      refine G_skip ?_
      refine N_block ?_
      refine N_then ?_
      refine G_seq ?_
      refine G_region ?_
      refine GL_pure (E' := [⟨39, [], .pointer (some ⟨p, 0, none⟩)⟩, ⟨38, [], .pointer (some ⟨p, 0, none⟩)⟩, ⟨37, [], .pointer (some ⟨p, 0, none⟩)⟩, ⟨36, [], .pointer (some ⟨p, 0, none⟩)⟩, ⟨2, [], .slice none 0 0⟩, ⟨8, [], .pointer (some ⟨p, 0, none⟩)⟩, ⟨25, [], .bool (decide ((((sumN szf nm : Nat) : Int) + 0) > room))⟩]) [0, 0, 0, 0] (by kernel_rfl) (j := 4) rfl ?_
      refine GL_load (i := 4) (ch := []) (b := p) (off := 0) (v := .slice an n cn) rfl rfl (by kernel_rfl) (by kernel_rfl) (by kernel_rfl) (by kernel_rfl) (by kernel_rfl) (At.grp 2 0 rfl rfl) rfl ?_
      refine GL_callQ (i := 5) (ch := []) (f := 45) (fst := #[]) (caps := #[]) (vs := [.slice an n cn]) (v := .slice an n n) rfl rfl rfl (by kernel_rfl) (by kernel_rfl) Try.func45 rfl rfl (by kernel_rfl) (by kernel_rfl) (by kernel_rfl) (fun _ => vClip an n cn hnc (hna.imp (fun h => h.2.1) id) _ _) ?_
      refine GL_pure (E' := [⟨42, [], .slice none 0 0⟩, ⟨41, [], .slice an n n⟩, ⟨40, [], .slice an n cn⟩, ⟨39, [], .pointer (some ⟨p, 0, none⟩)⟩, ⟨38, [], .pointer (some ⟨p, 0, none⟩)⟩, ⟨37, [], .pointer (some ⟨p, 0, none⟩)⟩, ⟨36, [], .pointer (some ⟨p, 0, none⟩)⟩, ⟨2, [], .slice none 0 0⟩, ⟨8, [], .pointer (some ⟨p, 0, none⟩)⟩, ⟨25, [], .bool (decide ((((sumN szf nm : Nat) : Int) + 0) > room))⟩]) [0] (by kernel_rfl) (j := 7) rfl ?_
      refine GL_appendFull (i := 7) (ch := []) (t := 24) (tx := 24) (e := 5) (inf := Try.t5) (x := .slice none 0 0) (a := an) (n := n) (m := 0) (cs := (u8s l0)) (news := ([])) (S := S) (S2 := (fun _ _ => False)) rfl rfl rfl rfl (by kernel_rfl) (by kernel_rfl) (by kernel_rfl) rfl rfl (.inl ⟨5, (by kernel_rfl)⟩) (fun ⟨_, h⟩ => by cases h) (fun _ => ⟨5, (by kernel_rfl)⟩) (by kernel_rfl) (by kernel_rfl) (by kernel_rfl) hrd0 (by rw [u8s_len]; exact hl0) (hna.imp (fun h => ⟨h.1, h.2.1⟩) id) (SrcOf.slice _ _ _ _ (.inl rfl) (fun _ => rfl)) (fun y o h => (At.cons (At.cons (At.cons (hS y o h))))) (fun _ _ h => h.elim) rfl (fun u h => absurd h List.not_mem_nil) (by omega) (by show (n + 0) * 1 ≤ _; omega) (fun a4 cap5 g6 hcap7 haa8 hrd9 => ?_)
      refine GL_pure (E' := [⟨45, [], .pointer (some ⟨p, 0, none⟩)⟩, ⟨44, [], .pointer (some ⟨p, 0, none⟩)⟩, ⟨43, [], .slice a4 (n + 0) cap5⟩, ⟨42, [], .slice none 0 0⟩, ⟨41, [], .slice an n n⟩, ⟨40, [], .slice an n cn⟩, ⟨39, [], .pointer (some ⟨p, 0, none⟩)⟩, ⟨38, [], .pointer (some ⟨p, 0, none⟩)⟩, ⟨37, [], .pointer (some ⟨p, 0, none⟩)⟩, ⟨36, [], .pointer (some ⟨p, 0, none⟩)⟩, ⟨2, [], .slice none 0 0⟩, ⟨8, [], .pointer (some ⟨p, 0, none⟩)⟩, ⟨25, [], .bool (decide ((((sumN szf nm : Nat) : Int) + 0) > room))⟩]) [0, 0] (by kernel_rfl) (j := 10) rfl ?_
      refine GL_store (i := 10) (ch := []) (b := p) (off := 0) (v := .slice a4 (n + 0) cap5) (c := #[.slice an n cn, .slice ak m ck]) (c' := #[.slice a4 (n + 0) cap5, .slice ak m ck]) (j := 3) (m := 0) (H' := (g6 :: [(d, .cells #[.int .i64 room, bv, .map (some nb), .map (some kb), .map (some cb), .bool ((callS fails once calls (rightB path)).2.1), .bool once, .int .i64 ((callS fails once calls (rightB path)).2.2)] 64 (0, 0))] :: [(nb, .map (encM nm) nc)] :: [(p, .cells #[.slice a4 (n + 0) cap5, .slice ak m ck] 68 (0, 0))] :: H)) rfl rfl (by kernel_rfl) (by kernel_rfl) (by kernel_rfl) (by kernel_rfl) (by kernel_rfl) (by kernel_rfl) (by kernel_rfl) rfl rfl (Nat.le_of_ble_eq_true rfl) (fun _ _ => thaw0) (by kernel_rfl) (by kernel_rfl) ?_
      refine GL_fin (E' := []) [] [] rfl (by kernel_rfl) ?_
      refine N_then ?_
      refine G_seq ?_
      refine G_pure (E' := [⟨6, [], .int .i64 0⟩]) [0] [6] rfl (by kernel_rfl) ?_
      refine N_then ?_
      refine G_ret ?_
      refine N_heap (H' := ([(d, .cells #[.int .i64 room, bv, .map (some nb), .map (some kb), .map (some cb), .bool ((callS fails once calls (rightB path)).2.1), .bool once, .int .i64 ((callS fails once calls (rightB path)).2.2)] 64 (0, 0))] :: [(nb, .map (encM nm) nc)] :: [(p, .cells #[.slice a4 (n + 0) cap5, .slice ak m ck] 68 (0, 0))] :: g6 :: H)) (fun w h => (((h.front (j := 3) rfl).front (j := 3) rfl).front (j := 3) rfl)) ?_
      refine N_ret [.tmp 6] [.int .i64 0] rfl (by kernel_rfl) rfl ?_
      exact .inr (.inr ⟨hce, hro, rfl, a4, cap5, g6, hcap7, haa8, hrd9, rfl⟩)

theorem vAppendNoEmpty (d nb kb cb nc : Nat) (room calls : Int) (bv : Value) (fails once : Bool) (nm : SM) (path : ByteArray) (hpath : path.size ≤ 9223372036854775807) (hca : -9223372036854775808 ≤ calls ∧ calls ≤ 9223372036854775807) (ad : Addr) (cap : Nat) (hg : mget nm path = none) (W0 : World) (H : List Grp) : Tri Try.prog 22 #[.pointer (some ⟨d, 0, none⟩), .string path, .slice (some ad) 0 cap] W0 ([(d, .cells #[.int .i64 room, bv, .map (some nb), .map (some kb), .map (some cb), .bool fails, .bool once, .int .i64 calls] 64 (0, 0))] :: [(nb, .map (encM nm) nc)] :: H) (fun v H' => ((callS fails once calls (rightB path)).1 ≠ 0 ∧ v = .int .i64 (callS fails once calls (rightB path)).1 ∧ H' = ([(d, .cells #[.int .i64 room, bv, .map (some nb), .map (some kb), .map (some cb), .bool ((callS fails once calls (rightB path)).2.1), .bool once, .int .i64 ((callS fails once calls (rightB path)).2.2)] 64 (0, 0))] :: [(nb, .map (encM nm) nc)] :: H)) ∨ ((callS fails once calls (rightB path)).1 = 0 ∧ v = .int .i64 60 ∧ H' = ([(d, .cells #[.int .i64 room, bv, .map (some nb), .map (some kb), .map (some cb), .bool ((callS fails once calls (rightB path)).2.1), .bool once, .int .i64 ((callS fails once calls (rightB path)).2.2)] 64 (0, 0))] :: [(nb, .map (encM nm) nc)] :: H))) := by
  refine Tri_of (args := [.pointer (some ⟨d, 0, none⟩), .string path, .slice (some ad) 0 cap]) (n := 46) Try.func22 rfl rfl (Nat.le_of_ble_eq_true rfl) ?_
  refine G_seq ?_
  refine G_pure (E' := [⟨0, [], .pointer (some ⟨d, 0, none⟩)⟩, ⟨1, [], .string path⟩, ⟨2, [], .slice (some ad) 0 cap⟩]) [0] [0, 1, 2] rfl (by kernel_rfl) ?_
  refine N_then ?_
  refine G_seq ?_
  refine G_seq ?_
  refine G_region ?_
  refine GL_pure (E' := [⟨10, [], .string path⟩, ⟨9, [], .pointer (some ⟨d, 0, none⟩)⟩, ⟨0, [], .pointer (some ⟨d, 0, none⟩)⟩, ⟨1, [], .string path⟩, ⟨2, [], .slice (some ad) 0 cap⟩]) [0, 0] (by kernel_rfl) (j := 2) rfl ?_
  refine GL_callQ (i := 2) (ch := []) (f := 10) (fst := #[]) (caps := #[]) (vs := [.string path]) (v := .bool (rightB path)) rfl rfl rfl (by kernel_rfl) (by kernel_rfl) Try.func10 rfl rfl (by kernel_rfl) (by kernel_rfl) (by kernel_rfl) (fun _ => vfsRight _ hpath _ _) ?_
  refine GL_call (i := 3) (ch := []) (f := 34) (fst := #[]) (caps := #[]) (vs := [.pointer (some ⟨d, 0, none⟩), .bool (rightB path)]) rfl rfl rfl (by kernel_rfl) (by kernel_rfl) Try.func34 rfl rfl (by kernel_rfl) (by kernel_rfl) (chSure_of (by kernel_rfl)) (vCall d nb kb cb room calls bv fails once (rightB path) hca _ _) ?_
  rintro v H' ⟨rfl, rfl⟩
  refine GL_fin (E' := [⟨0, [], .pointer (some ⟨d, 0, none⟩)⟩, ⟨1, [], .string path⟩, ⟨2, [], .slice (some ad) 0 cap⟩, ⟨7, [], .int .i64 ((callS fails once calls (rightB path)).1)⟩]) [0] [0, 1, 2, 7] rfl (by kernel_rfl) ?_
  refine N_then ?_
  refine G_seq ?_
  refine G_pure (E' := [⟨0, [], .pointer (some ⟨d, 0, none⟩)⟩, ⟨1, [], .string path⟩, ⟨2, [], .slice (some ad) 0 cap⟩, ⟨7, [], .int .i64 ((callS fails once calls (rightB path)).1)⟩, ⟨14, [], .bool (((callS fails once calls (rightB path)).1) != 0)⟩]) [0, 0] [0, 1, 2, 7, 14] rfl (by kernel_rfl) ?_
  refine N_then ?_
  refine G_cond (b := ((callS fails once calls (rightB path)).1) != 0) (by kernel_rfl) (fun hc1 => ?_) (fun hc1 => ?_)
  ·
    have hce : (callS fails once calls (rightB path)).1 ≠ 0 := by simpa using hc1
    -- L err
    refine G_seq ?_
    refine G_pure (E' := [⟨6, [], .int .i64 ((callS fails once calls (rightB path)).1)⟩]) [0, 0] [6] rfl (by kernel_rfl) ?_
    refine N_then ?_
    refine G_ret ?_
    refine N_then_ret ?_
    refine N_ret [.tmp 6] [.int .i64 ((callS fails once calls (rightB path)).1)] rfl (by kernel_rfl) rfl ?_
    exact .inl ⟨hce, rfl, rfl⟩
  ·
    have hce : (callS fails once calls (rightB path)).1 = 0 := by simpa using hc1
    refine G_skip ?_
    refine N_then ?_
    refine G_seq ?_
    refine G_region ?_
    refine GL_pure (E' := [⟨18, [], .pointer (some ⟨d, 2, none⟩)⟩, ⟨17, [], .pointer (some ⟨d, 0, none⟩)⟩, ⟨16, [], .pointer (some ⟨d, 0, none⟩)⟩, ⟨0, [], .pointer (some ⟨d, 0, none⟩)⟩, ⟨1, [], .string path⟩, ⟨2, [], .slice (some ad) 0 cap⟩, ⟨7, [], .int .i64 ((callS fails once calls (rightB path)).1)⟩, ⟨14, [], .bool (((callS fails once calls (rightB path)).1) != 0)⟩]) [0, 0, 0] (by kernel_rfl) (j := 3) rfl ?_
    refine GL_load (i := 3) (ch := []) (b := d) (off := 2) (v := .map (some nb)) rfl rfl (by kernel_rfl) (by kernel_rfl) (by kernel_rfl) (by kernel_rfl) (by kernel_rfl) (At.grp 0 0 rfl rfl) rfl ?_
    refine GL_pure (E' := [⟨20, [], .string path⟩, ⟨19, [], .map (some nb)⟩, ⟨18, [], .pointer (some ⟨d, 2, none⟩)⟩, ⟨17, [], .pointer (some ⟨d, 0, none⟩)⟩, ⟨16, [], .pointer (some ⟨d, 0, none⟩)⟩, ⟨0, [], .pointer (some ⟨d, 0, none⟩)⟩, ⟨1, [], .string path⟩, ⟨2, [], .slice (some ad) 0 cap⟩, ⟨7, [], .int .i64 ((callS fails once calls (rightB path)).1)⟩, ⟨14, [], .bool (((callS fails once calls (rightB path)).1) != 0)⟩]) [0] (by kernel_rfl) (j := 5) rfl ?_
    refine GL_lookup (i := 5) (ch := []) (kt := 9) (et := 66) (r := nb) (c := nc) (m := nm) (k := path) (z := .pointer none) (ov := none) rfl rfl (by kernel_rfl) (by kernel_rfl) (by kernel_rfl) (by kernel_rfl) (by kernel_rfl) (by kernel_rfl) (by kernel_rfl) (by kernel_rfl) (At.grp 1 0 rfl rfl) (fun _ => hg) ?_
    refine GL_fin (E' := [⟨0, [], .pointer (some ⟨d, 0, none⟩)⟩, ⟨2, [], .slice (some ad) 0 cap⟩, ⟨8, [], .pointer none⟩]) [0] [0, 2, 8] rfl (by kernel_rfl) ?_
    refine N_then ?_
    refine G_seq ?_
    refine G_block ?_
    refine G_seq ?_
    refine G_pure (E' := [⟨0, [], .pointer (some ⟨d, 0, none⟩)⟩, ⟨2, [], .slice (some ad) 0 cap⟩, ⟨8, [], .pointer none⟩, ⟨22, [], .bool true⟩]) [0, 0, 0] [0, 2, 8, 22] rfl (by kernel_rfl) ?_
    refine N_then ?_
    refine G_condt (by kernel_rfl) ?_
    refine G_seq ?_
    refine G_pure (E' := [⟨6, [], .int .i64 60⟩]) [0] [6] rfl (by kernel_rfl) ?_
    refine N_then ?_
    refine G_ret ?_
    refine N_block_ret ?_
    refine N_then_ret ?_
    refine N_ret [.tmp 6] [.int .i64 60] rfl (by kernel_rfl) rfl ?_
    exact .inr ⟨hce, rfl, rfl⟩

theorem vAppendEmpty (d nb kb cb nc : Nat) (room calls : Int) (bv : Value) (fails once : Bool) (nm : SM) (path : ByteArray) (hpath : path.size ≤ 9223372036854775807) (hca : -9223372036854775808 ≤ calls ∧ calls ≤ 9223372036854775807) (ad : Addr) (cap : Nat) (szf : Value → Nat) (hn : MapOk nm nc) (hs : sumN szf nm ≤ 1000000000000) (p n cn m ck : Nat) (an ak : Option Addr) (hg : mget nm path = some (.pointer (some ⟨p, 0, none⟩))) (S : Nat → Obj → Prop) (l0 : List UInt8) (hrd0 : Rd S an (u8s l0)) (hl0 : l0.length = n) (hnn : n ≤ 1000000000) (hnc : n ≤ cn) (hna : (an = none ∧ n = 0 ∧ cn = 0) ∨ ∃ b off, an = some ⟨b, off, none⟩) (W0 : World) (H : List Grp) (hS : ∀ y o, S y o → At W0 H y o) (hB : ∀ e ∈ nm, ∃ p1 a c kv, e.2.1 = .pointer (some ⟨p1, 0, none⟩) ∧ At W0 ([(p, .cells #[.slice an n cn, .slice ak m ck] 68 (0, 0))] :: H) p1 (.cells #[.slice a (szf e.2.1) c, kv] 68 (0, 0))) : Tri Try.prog 22 #[.pointer (some ⟨d, 0, none⟩), .string path, .slice (some ad) 0 cap] W0 ([(d, .cells #[.int .i64 room, bv, .map (some nb), .map (some kb), .map (some cb), .bool fails, .bool once, .int .i64 calls] 64 (0, 0))] :: [(nb, .map (encM nm) nc)] :: [(p, .cells #[.slice an n cn, .slice ak m ck] 68 (0, 0))] :: H) (fun v H' => ((callS fails once calls (rightB path)).1 ≠ 0 ∧ v = .int .i64 (callS fails once calls (rightB path)).1 ∧ H' = ([(d, .cells #[.int .i64 room, bv, .map (some nb), .map (some kb), .map (some cb), .bool ((callS fails once calls (rightB path)).2.1), .bool once, .int .i64 ((callS fails once calls (rightB path)).2.2)] 64 (0, 0))] :: [(nb, .map (encM nm) nc)] :: [(p, .cells #[.slice an n cn, .slice ak m ck] 68 (0, 0))] :: H)) ∨ ((callS fails once calls (rightB path)).1 = 0 ∧ ((sumN szf nm : Nat) : Int) + (0 : Int) > room ∧ v = .int .i64 61 ∧ H' = ([(d, .cells #[.int .i64 room, bv, .map (some nb), .map (some kb), .map (some cb), .bool ((callS fails once calls (rightB path)).2.1), .bool once, .int .i64 ((callS fails once calls (rightB path)).2.2)] 64 (0, 0))] :: [(nb, .map (encM nm) nc)] :: [(p, .cells #[.slice an n cn, .slice ak m ck] 68 (0, 0))] :: H)) ∨ ((callS fails once calls (rightB path)).1 = 0 ∧ ¬ ((sumN szf nm : Nat) : Int) + (0 : Int) > room ∧ v = .int .i64 0 ∧ ∃ a' cap' g, n + 0 ≤ cap' ∧ ((a' = none ∧ n + 0 = 0 ∧ cap' = 0) ∨ ∃ b off, a' = some ⟨b, off, none⟩) ∧ Rd (fun b o => S b o ∨ inG g b o) a' (u8s l0 ++ []) ∧ H' = ([(d, .cells #[.int .i64 room, bv, .map (some nb), .map (some kb), .map (some cb), .bool ((callS fails once calls (rightB path)).2.1), .bool once, .int .i64 ((callS fails once calls (rightB path)).2.2)] 64 (0, 0))] :: [(nb, .map (encM nm) nc)] :: [(p, .cells #[.slice a' (n + 0) cap', .slice ak m ck] 68 (0, 0))] :: g :: H))) := by
  refine Tri_of (args := [.pointer (some ⟨d, 0, none⟩), .string path, .slice (some ad) 0 cap]) (n := 46) Try.func22 rfl rfl (Nat.le_of_ble_eq_true rfl) ?_
  refine G_seq ?_
  refine G_pure (E' := [⟨0, [], .pointer (some ⟨d, 0, none⟩)⟩, ⟨1, [], .string path⟩, ⟨2, [], .slice (some ad) 0 cap⟩]) [0] [0, 1, 2] rfl (by kernel_rfl) ?_
  refine N_then ?_
  refine G_seq ?_
  refine G_seq ?_
  refine G_region ?_
  refine GL_pure (E' := [⟨10, [], .string path⟩, ⟨9, [], .pointer (some ⟨d, 0, none⟩)⟩, ⟨0, [], .pointer (some ⟨d, 0, none⟩)⟩, ⟨1, [], .string path⟩, ⟨2, [], .slice (some ad) 0 cap⟩]) [0, 0] (by kernel_rfl) (j := 2) rfl ?_
  refine GL_callQ (i := 2) (ch := []) (f := 10) (fst := #[]) (caps := #[]) (vs := [.string path]) (v := .bool (rightB path)) rfl rfl rfl (by kernel_rfl) (by kernel_rfl) Try.func10 rfl rfl (by kernel_rfl) (by kernel_rfl) (by kernel_rfl) (fun _ => vfsRight _ hpath _ _) ?_
  refine GL_call (i := 3) (ch := []) (f := 34) (fst := #[]) (caps := #[]) (vs := [.pointer (some ⟨d, 0, none⟩), .bool (rightB path)]) rfl rfl rfl (by kernel_rfl) (by kernel_rfl) Try.func34 rfl rfl (by kernel_rfl) (by kernel_rfl) (chSure_of (by kernel_rfl)) (vCall d nb kb cb room calls bv fails once (rightB path) hca _ _) ?_
  rintro v H' ⟨rfl, rfl⟩
  refine GL_fin (E' := [⟨0, [], .pointer (some ⟨d, 0, none⟩)⟩, ⟨1, [], .string path⟩, ⟨2, [], .slice (some ad) 0 cap⟩, ⟨7, [], .int .i64 ((callS fails once calls (rightB path)).1)⟩]) [0] [0, 1, 2, 7] rfl (by kernel_rfl) ?_
  refine N_then ?_
  refine G_seq ?_
  refine G_pure (E' := [⟨0, [], .pointer (some ⟨d, 0, none⟩)⟩, ⟨1, [], .string path⟩, ⟨2, [], .slice (some ad) 0 cap⟩, ⟨7, [], .int .i64 ((callS fails once calls (rightB path)).1)⟩, ⟨14, [], .bool (((callS fails once calls (rightB path)).1) != 0)⟩]) [0, 0] [0, 1, 2, 7, 14] rfl (by kernel_rfl) ?_
  refine N_then ?_
  refine G_cond (b := ((callS fails once calls (rightB path)).1) != 0) (by kernel_rfl) (fun hc1 => ?_) (fun hc1 => ?_)
  ·
    have hce : (callS fails once calls (rightB path)).1 ≠ 0 := by simpa using hc1
    -- L err
    refine G_seq ?_
    refine G_pure (E' := [⟨6, [], .int .i64 ((callS fails once calls (rightB path)).1)⟩]) [0, 0] [6] rfl (by kernel_rfl) ?_
    refine N_then ?_
    refine G_ret ?_
    refine N_then_ret ?_
    refine N_heap (H' := ([(d, .cells #[.int .i64 room, bv, .map (some nb), .map (some kb), .map (some cb), .bool ((callS fails once calls (rightB path)).2.1), .bool once, .int .i64 ((callS fails once calls (rightB path)).2.2)] 64 (0, 0))] :: [(nb, .map (encM nm) nc)] :: [(p, .cells #[.slice an n cn, .slice ak m ck] 68 (0, 0))] :: H)) (fun w h => (((h.front (j := 2) rfl).front (j := 2) rfl).front (j := 2) rfl)) ?_
    refine N_ret [.tmp 6] [.int .i64 ((callS fails once calls (rightB path)).1)] rfl (by kernel_rfl) rfl ?_
    exact .inl ⟨hce, rfl, rfl⟩
  ·
    have hce : (callS fails once calls (rightB path)).1 = 0 := by simpa using hc1
    refine G_skip ?_
    refine N_then ?_
    refine G_seq ?_
    refine G_region ?_
    refine GL_pure (E' := [⟨18, [], .pointer (some ⟨d, 2, none⟩)⟩, ⟨17, [], .pointer (some ⟨d, 0, none⟩)⟩, ⟨16, [], .pointer (some ⟨d, 0, none⟩)⟩, ⟨0, [], .pointer (some ⟨d, 0, none⟩)⟩, ⟨1, [], .string path⟩, ⟨2, [], .slice (some ad) 0 cap⟩, ⟨7, [], .int .i64 ((callS fails once calls (rightB path)).1)⟩, ⟨14, [], .bool (((callS fails once calls (rightB path)).1) != 0)⟩]) [0, 0, 0] (by kernel_rfl) (j := 3) rfl ?_
    refine GL_load (i := 3) (ch := []) (b := d) (off := 2) (v := .map (some nb)) rfl rfl (by kernel_rfl) (by kernel_rfl) (by kernel_rfl) (by kernel_rfl) (by kernel_rfl) (At.grp 0 0 rfl rfl) rfl ?_
    refine GL_pure (E' := [⟨20, [], .string path⟩, ⟨19, [], .map (some nb)⟩, ⟨18, [], .pointer (some ⟨d, 2, none⟩)⟩, ⟨17, [], .pointer (some ⟨d, 0, none⟩)⟩, ⟨16, [], .pointer (some ⟨d, 0, none⟩)⟩, ⟨0, [], .pointer (some ⟨d, 0, none⟩)⟩, ⟨1, [], .string path⟩, ⟨2, [], .slice (some ad) 0 cap⟩, ⟨7, [], .int .i64 ((callS fails once calls (rightB path)).1)⟩, ⟨14, [], .bool (((callS fails once calls (rightB path)).1) != 0)⟩]) [0] (by kernel_rfl) (j := 5) rfl ?_
    refine GL_lookup (i := 5) (ch := []) (kt := 9) (et := 66) (r := nb) (c := nc) (m := nm) (k := path) (z := .pointer none) (ov := (some (.pointer (some ⟨p, 0, none⟩)))) rfl rfl (by kernel_rfl) (by kernel_rfl) (by kernel_rfl) (by kernel_rfl) (by kernel_rfl) (by kernel_rfl) (by kernel_rfl) (by kernel_rfl) (At.grp 1 0 rfl rfl) (fun _ => hg) ?_
    refine GL_fin (E' := [⟨0, [], .pointer (some ⟨d, 0, none⟩)⟩, ⟨2, [], .slice (some ad) 0 cap⟩, ⟨8, [], .pointer (some ⟨p, 0, none⟩)⟩]) [0] [0, 2, 8] rfl (by kernel_rfl) ?_
    refine N_then ?_
    refine G_seq ?_
    refine G_block ?_
    refine G_seq ?_
    refine G_pure (E' := [⟨0, [], .pointer (some ⟨d, 0, none⟩)⟩, ⟨2, [], .slice (some ad) 0 cap⟩, ⟨8, [], .pointer (some ⟨p, 0, none⟩)⟩, ⟨22, [], .bool false⟩]) [0, 0, 0] [0, 2, 8, 22] rfl (by kernel_rfl) ?_
    refine N_then ?_
    refine G_condf (by kernel_rfl) ?_
    refine G_seq ?_
    refine G_regionH ([(d, .cells #[.int .i64 room, bv, .map (some nb), .map (some kb), .map (some cb), .bool ((callS fails once calls (rightB path)).2.1), .bool once, .int .i64 ((callS fails once calls (rightB path)).2.2)] 64 (0, 0))] :: [(nb, .map (encM nm) nc)] :: [(p, .cells #[.slice an n cn, .slice ak m ck] 68 (0, 0))] :: H) (by kernel_rfl) ?_
    refine GH_take (E' := [⟨26, [], .pointer (some ⟨d, 0, none⟩)⟩, ⟨0, [], .pointer (some ⟨d, 0, none⟩)⟩, ⟨2, [], .slice (some ad) 0 cap⟩, ⟨8, [], .pointer (some ⟨p, 0, none⟩)⟩, ⟨22, [], .bool false⟩]) 0 (by kernel_rfl) (by kernel_rfl) (by kernel_rfl) (by kernel_rfl) (by kernel_rfl) (fun w h => (((h.front (j := 2) rfl).front (j := 2) rfl).front (j := 2) rfl)) ?_ ?_
    ·
      refine GL_pure (E' := [⟨26, [], .pointer (some ⟨d, 0, none⟩)⟩, ⟨0, [], .pointer (some ⟨d, 0, none⟩)⟩, ⟨2, [], .slice (some ad) 0 cap⟩, ⟨8, [], .pointer (some ⟨p, 0, none⟩)⟩, ⟨22, [], .bool false⟩]) [0] (by kernel_rfl) (j := 1) rfl ?_
      exact GL_yend (by kernel_rfl) (by kernel_rfl)
    refine GH_take (E' := [⟨28, [], .slice (some ad) 0 cap⟩, ⟨26, [], .pointer (some ⟨d, 0, none⟩)⟩, ⟨0, [], .pointer (some ⟨d, 0, none⟩)⟩, ⟨2, [], .slice (some ad) 0 cap⟩, ⟨8, [], .pointer (some ⟨p, 0, none⟩)⟩, ⟨22, [], .bool false⟩]) 2 (by kernel_rfl) (by kernel_rfl) (by kernel_rfl) (by kernel_rfl) (by kernel_rfl) (fun w h => (((h.front (j := 2) rfl).front (j := 2) rfl).front (j := 2) rfl)) ?_ ?_
    ·
      refine GL_pure (E' := [⟨28, [], .slice (some ad) 0 cap⟩, ⟨26, [], .pointer (some ⟨d, 0, none⟩)⟩, ⟨0, [], .pointer (some ⟨d, 0, none⟩)⟩, ⟨2, [], .slice (some ad) 0 cap⟩, ⟨8, [], .pointer (some ⟨p, 0, none⟩)⟩, ⟨22, [], .bool false⟩]) [0] (by kernel_rfl) (j := 3) rfl ?_
      exact GL_yend (by kernel_rfl) (by kernel_rfl)
    refine GH_pev (v := .int .i64 0) 3 rfl rfl (by kernel_rfl) (by kernel_rfl) (by kernel_rfl) (by kernel_rfl) (by kernel_rfl) (fun w h => (((h.front (j := 2) rfl).front (j := 2) rfl).front (j := 2) rfl)) ?_
    refine GH_take (E' := [⟨31, [], .pointer (some ⟨d, 0, none⟩)⟩, ⟨29, [], .int .i64 0⟩, ⟨28, [], .slice (some ad) 0 cap⟩, ⟨26, [], .pointer (some ⟨d, 0, none⟩)⟩, ⟨0, [], .pointer (some ⟨d, 0, none⟩)⟩, ⟨2, [], .slice (some ad) 0 cap⟩, ⟨8, [], .pointer (some ⟨p, 0, none⟩)⟩, ⟨22, [], .bool false⟩]) 5 (by kernel_rfl) (by kernel_rfl) (by kernel_rfl) (by kernel_rfl) (by kernel_rfl) (fun w h => (((h.front (j := 2) rfl).front (j := 2) rfl).front (j := 2) rfl)) ?_ ?_
    ·
      refine GL_pure (E' := [⟨31, [], .pointer (some ⟨d, 0, none⟩)⟩, ⟨29, [], .int .i64 0⟩, ⟨28, [], .slice (some ad) 0 cap⟩, ⟨26, [], .pointer (some ⟨d, 0, none⟩)⟩, ⟨0, [], .pointer (some ⟨d, 0, none⟩)⟩, ⟨2, [], .slice (some ad) 0 cap⟩, ⟨8, [], .pointer (some ⟨p, 0, none⟩)⟩, ⟨22, [], .bool false⟩]) [0] (by kernel_rfl) (j := 6) rfl ?_
      exact GL_yend (by kernel_rfl) (by kernel_rfl)
    refine GH_nil (ad := ⟨d, 0, none⟩) 6 rfl rfl rfl (by kernel_rfl) (by kernel_rfl) (by kernel_rfl) (by kernel_rfl) (by kernel_rfl) (fun w h => (((h.front (j := 2) rfl).front (j := 2) rfl).front (j := 2) rfl)) ?_
    refine GH_take (E' := [⟨33, [], .pointer (some ⟨d, 0, none⟩)⟩, ⟨32, [], .pointer (some ⟨d, 0, none⟩)⟩, ⟨31, [], .pointer (some ⟨d, 0, none⟩)⟩, ⟨29, [], .int .i64 0⟩, ⟨28, [], .slice (some ad) 0 cap⟩, ⟨26, [], .pointer (some ⟨d, 0, none⟩)⟩, ⟨0, [], .pointer (some ⟨d, 0, none⟩)⟩, ⟨2, [], .slice (some ad) 0 cap⟩, ⟨8, [], .pointer (some ⟨p, 0, none⟩)⟩, ⟨22, [], .bool false⟩]) 7 (by kernel_rfl) (by kernel_rfl) (by kernel_rfl) (by kernel_rfl) (by kernel_rfl) (fun w h => (((h.front (j := 2) rfl).front (j := 2) rfl).front (j := 2) rfl)) ?_ ?_
    ·
      refine GL_pure (E' := [⟨33, [], .pointer (some ⟨d, 0, none⟩)⟩, ⟨32, [], .pointer (some ⟨d, 0, none⟩)⟩, ⟨31, [], .pointer (some ⟨d, 0, none⟩)⟩, ⟨29, [], .int .i64 0⟩, ⟨28, [], .slice (some ad) 0 cap⟩, ⟨26, [], .pointer (some ⟨d, 0, none⟩)⟩, ⟨0, [], .pointer (some ⟨d, 0, none⟩)⟩, ⟨2, [], .slice (some ad) 0 cap⟩, ⟨8, [], .pointer (some ⟨p, 0, none⟩)⟩, ⟨22, [], .bool false⟩]) [0] (by kernel_rfl) (j := 8) rfl ?_
      exact GL_yend (by kernel_rfl) (by kernel_rfl)
    refine GH_take (E' := [⟨34, [], .int .i64 room⟩, ⟨33, [], .pointer (some ⟨d, 0, none⟩)⟩, ⟨32, [], .pointer (some ⟨d, 0, none⟩)⟩, ⟨31, [], .pointer (some ⟨d, 0, none⟩)⟩, ⟨29, [], .int .i64 0⟩, ⟨28, [], .slice (some ad) 0 cap⟩, ⟨26, [], .pointer (some ⟨d, 0, none⟩)⟩, ⟨0, [], .pointer (some ⟨d, 0, none⟩)⟩, ⟨2, [], .slice (some ad) 0 cap⟩, ⟨8, [], .pointer (some ⟨p, 0, none⟩)⟩, ⟨22, [], .bool false⟩]) 8 (by kernel_rfl) (by kernel_rfl) (by kernel_rfl) (by kernel_rfl) (by kernel_rfl) (fun w h => (((h.front (j := 2) rfl).front (j := 2) rfl).front (j := 2) rfl)) ?_ ?_
    ·
      refine GL_load (i := 8) (ch := []) (b := d) (off := 0) (v := .int .i64 room) rfl rfl (by kernel_rfl) (by kernel_rfl) (by kernel_rfl) (by kernel_rfl) (by kernel_rfl) (At.grp 0 0 rfl rfl) rfl ?_
      exact GL_yend (by kernel_rfl) (by kernel_rfl)
    refine GH_eff 1 (by kernel_rfl) (by kernel_rfl) (by kernel_rfl) ?_
    refine GL_heap rfl (H' := ([(d, .cells #[.int .i64 room, bv, .map (some nb), .map (some kb), .map (some cb), .bool ((callS fails once calls (rightB path)).2.1), .bool once, .int .i64 ((callS fails once calls (rightB path)).2.2)] 64 (0, 0))] :: [(nb, .map (encM nm) nc)] :: [(p, .cells #[.slice an n cn, .slice ak m ck] 68 (0, 0))] :: H)) (fun w h => ((h.front (j := 1) rfl).front (j := 1) rfl)) ?_
    refine GL_call (i := 1) (ch := []) (f := 26) (fst := #[]) (caps := #[]) (vs := [.pointer (some ⟨d, 0, none⟩)]) rfl rfl rfl (by kernel_rfl) (by kernel_rfl) Try.func26 rfl rfl (by kernel_rfl) (by kernel_rfl) (chSure_of (by kernel_rfl)) (vUsed d nb kb cb nc room ((callS fails once calls (rightB path)).2.2) bv ((callS fails once calls (rightB path)).2.1) once nm szf hn hs _ _ hB) ?_
    rintro v H' ⟨rfl, rfl⟩
    refine GH_back (by kernel_rfl) (fun w h => (((h.front (j := 2) rfl).front (j := 2) rfl).front (j := 2) rfl)) ?_
    refine GH_take (E' := [⟨30, [], .int .i64 (((sumN szf nm : Nat) : Int) + 0)⟩, ⟨27, [], .int .i64 ((sumN szf nm : Nat) : Int)⟩, ⟨34, [], .int .i64 room⟩, ⟨33, [], .pointer (some ⟨d, 0, none⟩)⟩, ⟨32, [], .pointer (some ⟨d, 0, none⟩)⟩, ⟨31, [], .pointer (some ⟨d, 0, none⟩)⟩, ⟨29, [], .int .i64 0⟩, ⟨28, [], .slice (some ad) 0 cap⟩, ⟨26, [], .pointer (some ⟨d, 0, none⟩)⟩, ⟨0, [], .pointer (some ⟨d, 0, none⟩)⟩, ⟨2, [], .slice (some ad) 0 cap⟩, ⟨8, [], .pointer (some ⟨p, 0, none⟩)⟩, ⟨22, [], .bool false⟩]) 4 (by kernel_rfl) (by kernel_rfl) (by kernel_rfl) (by kernel_rfl) (by kernel_rfl) (fun w h => (((h.front (j := 2) rfl).front (j := 2) rfl).front (j := 2) rfl)) ?_ ?_
    ·
      have hw2 : IntKind.wrap .i64 (((sumN szf nm : Nat) : Int) + 0) = ((sumN szf nm : Nat) : Int) + 0 := w64 (by omega) (by omega)
      refine GL_pure (E' := [⟨30, [], .int .i64 (((sumN szf nm : Nat) : Int) + 0)⟩, ⟨27, [], .int .i64 ((sumN szf nm : Nat) : Int)⟩, ⟨34, [], .int .i64 room⟩, ⟨33, [], .pointer (some ⟨d, 0, none⟩)⟩, ⟨32, [], .pointer (some ⟨d, 0, none⟩)⟩, ⟨31, [], .pointer (some ⟨d, 0, none⟩)⟩, ⟨29, [], .int .i64 0⟩, ⟨28, [], .slice (some ad) 0 cap⟩, ⟨26, [], .pointer (some ⟨d, 0, none⟩)⟩, ⟨0, [], .pointer (some ⟨d, 0, none⟩)⟩, ⟨2, [], .slice (some ad) 0 cap⟩, ⟨8, [], .pointer (some ⟨p, 0, none⟩)⟩, ⟨22, [], .bool false⟩]) [0] (Eq.trans (b := some [⟨30, [], .int .i64 (IntKind.wrap .i64 (((sumN szf nm : Nat) : Int) + 0))⟩, ⟨27, [], .int .i64 ((sumN szf nm : Nat) : Int)⟩, ⟨34, [], .int .i64 room⟩, ⟨33, [], .pointer (some ⟨d, 0, none⟩)⟩, ⟨32, [], .pointer (some ⟨d, 0, none⟩)⟩, ⟨31, [], .pointer (some ⟨d, 0, none⟩)⟩, ⟨29, [], .int .i64 0⟩, ⟨28, [], .slice (some ad) 0 cap⟩, ⟨26, [], .pointer (some ⟨d, 0, none⟩)⟩, ⟨0, [], .pointer (some ⟨d, 0, none⟩)⟩, ⟨2, [], .slice (some ad) 0 cap⟩, ⟨8, [], .pointer (some ⟨p, 0, none⟩)⟩, ⟨22, [], .bool false⟩]) (by kernel_rfl) (by simp only [hw2])) (j := 5) rfl ?_
      exact GL_yend (by kernel_rfl) (by kernel_rfl)
    refine GH_take (E' := [⟨35, [], .bool (decide ((((sumN szf nm : Nat) : Int) + 0) > room))⟩, ⟨30, [], .int .i64 (((sumN szf nm : Nat) : Int) + 0)⟩, ⟨27, [], .int .i64 ((sumN szf nm : Nat) : Int)⟩, ⟨34, [], .int .i64 room⟩, ⟨33, [], .pointer (some ⟨d, 0, none⟩)⟩, ⟨32, [], .pointer (some ⟨d, 0, none⟩)⟩, ⟨31, [], .pointer (some ⟨d, 0, none⟩)⟩, ⟨29, [], .int .i64 0⟩, ⟨28, [], .slice (some ad) 0 cap⟩, ⟨26, [], .pointer (some ⟨d, 0, none⟩)⟩, ⟨0, [], .pointer (some ⟨d, 0, none⟩)⟩, ⟨2, [], .slice (some ad) 0 cap⟩, ⟨8, [], .pointer (some ⟨p, 0, none⟩)⟩, ⟨22, [], .bool false⟩]) 9 (by kernel_rfl) (by kernel_rfl) (by kernel_rfl) (by kernel_rfl) (by kernel_rfl) (fun w h => (((h.front (j := 2) rfl).front (j := 2) rfl).front (j := 2) rfl)) ?_ ?_
    ·
      refine GL_pure (E' := [⟨35, [], .bool (decide ((((sumN szf nm : Nat) : Int) + 0) > room))⟩, ⟨30, [], .int .i64 (((sumN szf nm : Nat) : Int) + 0)⟩, ⟨27, [], .int .i64 ((sumN szf nm : Nat) : Int)⟩, ⟨34, [], .int .i64 room⟩, ⟨33, [], .pointer (some ⟨d, 0, none⟩)⟩, ⟨32, [], .pointer (some ⟨d, 0, none⟩)⟩, ⟨31, [], .pointer (some ⟨d, 0, none⟩)⟩, ⟨29, [], .int .i64 0⟩, ⟨28, [], .slice (some ad) 0 cap⟩, ⟨26, [], .pointer (some ⟨d, 0, none⟩)⟩, ⟨0, [], .pointer (some ⟨d, 0, none⟩)⟩, ⟨2, [], .slice (some ad) 0 cap⟩, ⟨8, [], .pointer (some ⟨p, 0, none⟩)⟩, ⟨22, [], .bool false⟩]) [0] (by kernel_rfl) (j := 10) rfl ?_
      exact GL_yend (by kernel_rfl) (by kernel_rfl)
    refine GH_take (E' := [⟨25, [], .bool (decide ((((sumN szf nm : Nat) : Int) + 0) > room))⟩, ⟨35, [], .bool (decide ((((sumN szf nm : Nat) : Int) + 0) > room))⟩, ⟨30, [], .int .i64 (((sumN szf nm : Nat) : Int) + 0)⟩, ⟨27, [], .int .i64 ((sumN szf nm : Nat) : Int)⟩, ⟨34, [], .int .i64 room⟩, ⟨33, [], .pointer (some ⟨d, 0, none⟩)⟩, ⟨32, [], .pointer (some ⟨d, 0, none⟩)⟩, ⟨31, [], .pointer (some ⟨d, 0, none⟩)⟩, ⟨29, [], .int .i64 0⟩, ⟨28, [], .slice (some ad) 0 cap⟩, ⟨26, [], .pointer (some ⟨d, 0, none⟩)⟩, ⟨0, [], .pointer (some ⟨d, 0, none⟩)⟩, ⟨2, [], .slice (some ad) 0 cap⟩, ⟨8, [], .pointer (some ⟨p, 0, none⟩)⟩, ⟨22, [], .bool false⟩]) 10 (by kernel_rfl) (by kernel_rfl) (by kernel_rfl) (by kernel_rfl) (by kernel_rfl) (fun w h => (((h.front (j := 2) rfl).front (j := 2) rfl).front (j := 2) rfl)) ?_ ?_
    ·
      refine GL_pure (E' := [⟨25, [], .bool (decide ((((sumN szf nm : Nat) : Int) + 0) > room))⟩, ⟨35, [], .bool (decide ((((sumN szf nm : Nat) : Int) + 0) > room))⟩, ⟨30, [], .int .i64 (((sumN szf nm : Nat) : Int) + 0)⟩, ⟨27, [], .int .i64 ((sumN szf nm : Nat) : Int)⟩, ⟨34, [], .int .i64 room⟩, ⟨33, [], .pointer (some ⟨d, 0, none⟩)⟩, ⟨32, [], .pointer (some ⟨d, 0, none⟩)⟩, ⟨31, [], .pointer (some ⟨d, 0, none⟩)⟩, ⟨29, [], .int .i64 0⟩, ⟨28, [], .slice (some ad) 0 cap⟩, ⟨26, [], .pointer (some ⟨d, 0, none⟩)⟩, ⟨0, [], .pointer (some ⟨d, 0, none⟩)⟩, ⟨2, [], .slice (some ad) 0 cap⟩, ⟨8, [], .pointer (some ⟨p, 0, none⟩)⟩, ⟨22, [], .bool false⟩]) [0] (by kernel_rfl) (j := 11) rfl ?_
      exact GL_yend (by kernel_rfl) (by kernel_rfl)
    refine GH_done (E' := [⟨2, [], .slice (some ad) 0 cap⟩, ⟨8, [], .pointer (some ⟨p, 0, none⟩)⟩, ⟨25, [], .bool (decide ((((sumN szf nm : Nat) : Int) + 0) > room))⟩]) [2, 8, 25] (by kernel_rfl) (by kernel_rfl) ?_
    refine N_then ?_
    refine G_cond (b := decide ((((sumN szf nm : Nat) : Int) + 0) > room)) (by kernel_rfl) (fun hc3 => ?_) (fun hc3 => ?_)
    ·
      have hro := of_decide_eq_true hc3
      -- L full
      refine G_seq ?_
      refine G_pure (E' := [⟨6, [], .int .i64 61⟩]) [0] [6] rfl (by kernel_rfl) ?_
      refine N_then ?_
      refine G_ret ?_
      refine N_block_ret ?_
      refine N_then_ret ?_
      refine N_heap (H' := ([(d, .cells #[.int .i64 room, bv, .map (some nb), .map (some kb), .map (some cb), .bool ((callS fails once calls (rightB path)).2.1), .bool once, .int .i64 ((callS fails once calls (rightB path)).2.2)] 64 (0, 0))] :: [(nb, .map (encM nm) nc)] :: [(p, .cells #[.slice an n cn, .slice ak m ck] 68 (0, 0))] :: H)) (fun w h => (((h.front (j := 2) rfl).front (j := 2) rfl).front (j := 2) rfl)) ?_
      refine N_ret [.tmp 6] [.int .i64 61] rfl (by kernel_rfl) rfl ?_
      exact .inr (.inl ⟨hce, hro, rfl, rfl⟩)
    ·
      have hro := of_decide_eq_false hc3
      refine G_skip ?_
      refine N_block ?_
      refine N_then ?_
      refine G_seq ?_
      refine G_region ?_
      refine GL_pure (E' := [⟨39, [], .pointer (some ⟨p, 0, none⟩)⟩, ⟨38, [], .pointer (some ⟨p, 0, none⟩)⟩, ⟨37, [], .pointer (some ⟨p, 0, none⟩)⟩, ⟨36, [], .pointer (some ⟨p, 0, none⟩)⟩, ⟨2, [], .slice (some ad) 0 cap⟩, ⟨8, [], .pointer (some ⟨p, 0, none⟩)⟩, ⟨25, [], .bool (decide ((((sumN szf nm : Nat) : Int) + 0) > room))⟩]) [0, 0, 0, 0] (by kernel_rfl) (j := 4) rfl ?_
      refine GL_load (i := 4) (ch := []) (b := p) (off := 0) (v := .slice an n cn) rfl rfl (by kernel_rfl) (by kernel_rfl) (by kernel_rfl) (by kernel_rfl) (by kernel_rfl) (At.grp 2 0 rfl rfl) rfl ?_
      refine GL_callQ (i := 5) (ch := []) (f := 45) (fst := #[]) (caps := #[]) (vs := [.slice an n cn]) (v := .slice an n n) rfl rfl rfl (by kernel_rfl) (by kernel_rfl) Try.func45 rfl rfl (by kernel_rfl) (by kernel_rfl) (by kernel_rfl) (fun _ => vClip an n cn hnc (hna.imp (fun h => h.2.1) id) _ _) ?_
      refine GL_pure (E' := [⟨42, [], .slice (some ad) 0 cap⟩, ⟨41, [], .slice an n n⟩, ⟨40, [], .slice an n cn⟩, ⟨39, [], .pointer (some ⟨p, 0, none⟩)⟩, ⟨38, [], .pointer (some ⟨p, 0, none⟩)⟩, ⟨37, [], .pointer (some ⟨p, 0, none⟩)⟩, ⟨36, [], .pointer (some ⟨p, 0, none⟩)⟩, ⟨2, [], .slice (some ad) 0 cap⟩, ⟨8, [], .pointer (some ⟨p, 0, none⟩)⟩, ⟨25, [], .bool (decide ((((sumN szf nm : Nat) : Int) + 0) > room))⟩]) [0] (by kernel_rfl) (j := 7) rfl ?_
      refine GL_appendFull (i := 7) (ch := []) (t := 24) (tx := 24) (e := 5) (inf := Try.t5) (x := .slice (some ad) 0 cap) (a := an) (n := n) (m := 0) (cs := (u8s l0)) (news := ([])) (S := S) (S2 := (fun _ _ => False)) rfl rfl rfl rfl (by kernel_rfl) (by kernel_rfl) (by kernel_rfl) rfl rfl (.inl ⟨5, (by kernel_rfl)⟩) (fun ⟨_, h⟩ => by cases h) (fun _ => ⟨5, (by kernel_rfl)⟩) (by kernel_rfl) (by kernel_rfl) (by kernel_rfl) hrd0 (by rw [u8s_len]; exact hl0) (hna.imp (fun h => ⟨h.1, h.2.1⟩) id) (SrcOf.slice _ _ _ _ (.inl rfl) (fun _ => rfl)) (fun y o h => (At.cons (At.cons (At.cons (hS y o h))))) (fun _ _ h => h.elim) rfl (fun u h => absurd h List.not_mem_nil) (by omega) (by show (n + 0) * 1 ≤ _; omega) (fun a4 cap5 g6 hcap7 haa8 hrd9 => ?_)
      refine GL_pure (E' := [⟨45, [], .pointer (some ⟨p, 0, none⟩)⟩, ⟨44, [], .pointer (some ⟨p, 0, none⟩)⟩, ⟨43, [], .slice a4 (n + 0) cap5⟩, ⟨42, [], .slice (some ad) 0 cap⟩, ⟨41, [], .slice an n n⟩, ⟨40, [], .slice an n cn⟩, ⟨39, [], .pointer (some ⟨p, 0, none⟩)⟩, ⟨38, [], .pointer (some ⟨p, 0, none⟩)⟩, ⟨37, [], .pointer (some ⟨p, 0, none⟩)⟩, ⟨36, [], .pointer (some ⟨p, 0, none⟩)⟩, ⟨2, [], .slice (some ad) 0 cap⟩, ⟨8, [], .pointer (some ⟨p, 0, none⟩)⟩, ⟨25, [], .bool (decide ((((sumN szf nm : Nat) : Int) + 0) > room))⟩]) [0, 0] (by kernel_rfl) (j := 10) rfl ?_
      refine GL_store (i := 10) (ch := []) (b := p) (off := 0) (v := .slice a4 (n + 0) cap5) (c := #[.slice an n cn, .slice ak m ck]) (c' := #[.slice a4 (n + 0) cap5, .slice ak m ck]) (j := 3) (m := 0) (H' := (g6 :: [(d, .cells #[.int .i64 room, bv, .map (some nb), .map (some kb), .map (some cb), .bool ((callS fails once calls (rightB path)).2.1), .bool once, .int .i64 ((callS fails once calls (rightB path)).2.2)] 64 (0, 0))] :: [(nb, .map (encM nm) nc)] :: [(p, .cells #[.slice a4 (n + 0) cap5, .slice ak m ck] 68 (0, 0))] :: H)) rfl rfl (by kernel_rfl) (by kernel_rfl) (by kernel_rfl) (by kernel_rfl) (by kernel_rfl) (by kernel_rfl) (by kernel_rfl) rfl rfl (Nat.le_of_ble_eq_true rfl) (fun _ _ => thaw0) (by kernel_rfl) (by kernel_rfl) ?_
      refine GL_fin (E' := []) [] [] rfl (by kernel_rfl) ?_
      refine N_then ?_
      refine G_seq ?_
      refine G_pure (E' := [⟨6, [], .int .i64 0⟩]) [0] [6] rfl (by kernel_rfl) ?_
      refine N_then ?_
      refine G_ret ?_
      refine N_heap (H' := ([(d, .cells #[.int .i64 room, bv, .map (some nb), .map (some kb), .map (some cb), .bool ((callS fails once calls (rightB path)).2.1), .bool once, .int .i64 ((callS fails once calls (rightB path)).2.2)] 64 (0, 0))] :: [(nb, .map (encM nm) nc)] :: [(p, .cells #[.slice a4 (n + 0) cap5, .slice ak m ck] 68 (0, 0))] :: g6 :: H)) (fun w h => (((h.front (j := 3) rfl).front (j := 3) rfl).front (j := 3) rfl)) ?_
      refine N_ret [.tmp 6] [.int .i64 0] rfl (by kernel_rfl) rfl ?_
      exact .inr (.inr ⟨hce, hro, rfl, a4, cap5, g6, hcap7, haa8, hrd9, rfl⟩)

end Go.Proofs.Ytbmieiffboenbaa
