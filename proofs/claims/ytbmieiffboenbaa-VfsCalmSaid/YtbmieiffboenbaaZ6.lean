/- The rounds of VfsCalm upon a disk in plain words. No program is in sight. (and what it stands on) -/
import Derived.Test.YtbmieiffboenbaaZ5
import Derived.ChangeSlices
import Derived.Carry
import Derived.ChangeArms
namespace Go.Proofs.Ytbmieiffboenbaa
open Go.Sw Go.Lib Go.Vf Go.RowKit


theorem vClip (an : Option Addr) (n cn : Nat) (hnc : n ≤ cn) (hna : n = 0 ∨ ∃ b off, an = some ⟨b, off, none⟩) (W0 : World) (H : List Grp) : Tri Try.prog 45 #[.slice an n cn] W0 H (fun v H' => v = .slice an n n ∧ H' = H) := by
  refine Tri_of (args := [.slice an n cn]) (n := 9) Try.func45 rfl rfl (Nat.le_of_ble_eq_true rfl) ?_
  refine G_seq ?_
  refine G_pure (E' := [⟨0, [], .slice an n cn⟩]) [0] [0] rfl (by kernel_rfl) ?_
  refine N_then ?_
  refine G_seq ?_
  refine G_region ?_
  refine GL_pure (E' := [⟨7, [], .int .i64 ((n : Nat) : Int)⟩, ⟨6, [], .slice an n cn⟩, ⟨5, [], .int .i64 ((n : Nat) : Int)⟩, ⟨4, [], .slice an n cn⟩, ⟨3, [], .slice an n cn⟩, ⟨0, [], .slice an n cn⟩]) [0, 0, 0, 0, 0] (by kernel_rfl) (j := 5) rfl ?_
  refine GL_clip (i := 5) (ch := []) (a := an) (len := n) (cap := cn) (sz := 1) (e := 5) (kd := .i64) (kd' := .i64) rfl rfl (by kernel_rfl) (by kernel_rfl) (by kernel_rfl) (by kernel_rfl) (by kernel_rfl) (by kernel_rfl) (by kernel_rfl) (by kernel_rfl) (fun _ => hnc) hna ?_
  refine GL_fin (E' := [⟨2, [], .slice an n n⟩]) [0] [2] rfl (by kernel_rfl) ?_
  refine N_then ?_
  refine G_ret ?_
  refine N_ret [.tmp 2] [.slice an n n] rfl (by kernel_rfl) rfl ?_
  exact ⟨rfl, rfl⟩

theorem vAppendNoAny (d nb kb cb nc : Nat) (room calls : Int) (bv : Value) (fails once : Bool) (nm : SM) (path : ByteArray) (hpath : path.size ≤ 9223372036854775807) (hca : -9223372036854775808 ≤ calls ∧ calls ≤ 9223372036854775807) (ao : Option Addr) (k cap : Nat) (hg : mget nm path = none) (W0 : World) (H : List Grp) : Tri Try.prog 22 #[.pointer (some ⟨d, 0, none⟩), .string path, .slice ao k cap] W0 ([(d, .cells #[.int .i64 room, bv, .map (some nb), .map (some kb), .map (some cb), .bool fails, .bool once, .int .i64 calls] 64 (0, 0))] :: [(nb, .map (encM nm) nc)] :: H) (fun v H' => ((callS fails once calls (rightB path)).1 ≠ 0 ∧ v = .int .i64 (callS fails once calls (rightB path)).1 ∧ H' = ([(d, .cells #[.int .i64 room, bv, .map (some nb), .map (some kb), .map (some cb), .bool ((callS fails once calls (rightB path)).2.1), .bool once, .int .i64 ((callS fails once calls (rightB path)).2.2)] 64 (0, 0))] :: [(nb, .map (encM nm) nc)] :: H)) ∨ ((callS fails once calls (rightB path)).1 = 0 ∧ v = .int .i64 60 ∧ H' = ([(d, .cells #[.int .i64 room, bv, .map (some nb), .map (some kb), .map (some cb), .bool ((callS fails once calls (rightB path)).2.1), .bool once, .int .i64 ((callS fails once calls (rightB path)).2.2)] 64 (0, 0))] :: [(nb, .map (encM nm) nc)] :: H))) := by
  refine Tri_of (args := [.pointer (some ⟨d, 0, none⟩), .string path, .slice ao k cap]) (n := 46) Try.func22 rfl rfl (Nat.le_of_ble_eq_true rfl) ?_
  refine G_seq ?_
  refine G_pure (E' := [⟨0, [], .pointer (some ⟨d, 0, none⟩)⟩, ⟨1, [], .string path⟩, ⟨2, [], .slice ao k cap⟩]) [0] [0, 1, 2] rfl (by kernel_rfl) ?_
  refine N_then ?_
  refine G_seq ?_
  refine G_seq ?_
  refine G_region ?_
  refine GL_pure (E' := [⟨10, [], .string path⟩, ⟨9, [], .pointer (some ⟨d, 0, none⟩)⟩, ⟨0, [], .pointer (some ⟨d, 0, none⟩)⟩, ⟨1, [], .string path⟩, ⟨2, [], .slice ao k cap⟩]) [0, 0] (by kernel_rfl) (j := 2) rfl ?_
  refine GL_callQ (i := 2) (ch := []) (f := 10) (fst := #[]) (caps := #[]) (vs := [.string path]) (v := .bool (rightB path)) rfl rfl rfl (by kernel_rfl) (by kernel_rfl) Try.func10 rfl rfl (by kernel_rfl) (by kernel_rfl) (by kernel_rfl) (fun _ => vfsRight _ hpath _ _) ?_
  refine GL_call (i := 3) (ch := []) (f := 34) (fst := #[]) (caps := #[]) (vs := [.pointer (some ⟨d, 0, none⟩), .bool (rightB path)]) rfl rfl rfl (by kernel_rfl) (by kernel_rfl) Try.func34 rfl rfl (by kernel_rfl) (by kernel_rfl) (chSure_of (by kernel_rfl)) (vCall d nb kb cb room calls bv fails once (rightB path) hca _ _) ?_
  rintro v H' ⟨rfl, rfl⟩
  refine GL_fin (E' := [⟨0, [], .pointer (some ⟨d, 0, none⟩)⟩, ⟨1, [], .string path⟩, ⟨2, [], .slice ao k cap⟩, ⟨7, [], .int .i64 ((callS fails once calls (rightB path)).1)⟩]) [0] [0, 1, 2, 7] rfl (by kernel_rfl) ?_
  refine N_then ?_
  refine G_seq ?_
  refine G_pure (E' := [⟨0, [], .pointer (some ⟨d, 0, none⟩)⟩, ⟨1, [], .string path⟩, ⟨2, [], .slice ao k cap⟩, ⟨7, [], .int .i64 ((callS fails once calls (rightB path)).1)⟩, ⟨14, [], .bool (((callS fails once calls (rightB path)).1) != 0)⟩]) [0, 0] [0, 1, 2, 7, 14] rfl (by kernel_rfl) ?_
  refine N_then ?_
  refine G_cond (b := ((callS fails once calls (rightB path)).1) != 0) (by kernel_rfl) (fun hc1 => ?_) (fun hc1 => ?_)
  ·
    have hce : (callS fails once calls (rightB path)).1 ≠ 0 := by simpa using hc1
    -- L err
    refine G_seq ?_
    refine G_pure (E' := [⟨6, [], .int .i64 ((callS fails once calls (rightB path)).1)⟩]) [0, 0] [6] rfl (by kernel_rfl) ?_
    refine N_then ?_
    refine G_ret ?_
    refine N_then_ret ?_
    refine N_ret [.tmp 6] [.int .i64 ((callS fails once calls (rightB path)).1)] rfl (by kernel_rfl) rfl ?_
    exact .inl ⟨hce, rfl, rfl⟩
  ·
    have hce : (callS fails once calls (rightB path)).1 = 0 := by simpa using hc1
    refine G_skip ?_
    refine N_then ?_
    refine G_seq ?_
    refine G_region ?_
    refine GL_pure (E' := [⟨18, [], .pointer (some ⟨d, 2, none⟩)⟩, ⟨17, [], .pointer (some ⟨d, 0, none⟩)⟩, ⟨16, [], .pointer (some ⟨d, 0, none⟩)⟩, ⟨0, [], .pointer (some ⟨d, 0, none⟩)⟩, ⟨1, [], .string path⟩, ⟨2, [], .slice ao k cap⟩, ⟨7, [], .int .i64 ((callS fails once calls (rightB path)).1)⟩, ⟨14, [], .bool (((callS fails once calls (rightB path)).1) != 0)⟩]) [0, 0, 0] (by kernel_rfl) (j := 3) rfl ?_
    refine GL_load (i := 3) (ch := []) (b := d) (off := 2) (v := .map (some nb)) rfl rfl (by kernel_rfl) (by kernel_rfl) (by kernel_rfl) (by kernel_rfl) (by kernel_rfl) (At.grp 0 0 rfl rfl) rfl ?_
    refine GL_pure (E' := [⟨20, [], .string path⟩, ⟨19, [], .map (some nb)⟩, ⟨18, [], .pointer (some ⟨d, 2, none⟩)⟩, ⟨17, [], .pointer (some ⟨d, 0, none⟩)⟩, ⟨16, [], .pointer (some ⟨d, 0, none⟩)⟩, ⟨0, [], .pointer (some ⟨d, 0, none⟩)⟩, ⟨1, [], .string path⟩, ⟨2, [], .slice ao k cap⟩, ⟨7, [], .int .i64 ((callS fails once calls (rightB path)).1)⟩, ⟨14, [], .bool (((callS fails once calls (rightB path)).1) != 0)⟩]) [0] (by kernel_rfl) (j := 5) rfl ?_
    refine GL_lookup (i := 5) (ch := []) (kt := 9) (et := 66) (r := nb) (c := nc) (m := nm) (k := path) (z := .pointer none) (ov := none) rfl rfl (by kernel_rfl) (by kernel_rfl) (by kernel_rfl) (by kernel_rfl) (by kernel_rfl) (by kernel_rfl) (by kernel_rfl) (by kernel_rfl) (At.grp 1 0 rfl rfl) (fun _ => hg) ?_
    refine GL_fin (E' := [⟨0, [], .pointer (some ⟨d, 0, none⟩)⟩, ⟨2, [], .slice ao k cap⟩, ⟨8, [], .pointer none⟩]) [0] [0, 2, 8] rfl (by kernel_rfl) ?_
    refine N_then ?_
    refine G_seq ?_
    refine G_block ?_
    refine G_seq ?_
    refine G_pure (E' := [⟨0, [], .pointer (some ⟨d, 0, none⟩)⟩, ⟨2, [], .slice ao k cap⟩, ⟨8, [], .pointer none⟩, ⟨22, [], .bool true⟩]) [0, 0, 0] [0, 2, 8, 22] rfl (by kernel_rfl) ?_
    refine N_then ?_
    refine G_condt (by kernel_rfl) ?_
    refine G_seq ?_
    refine G_pure (E' := [⟨6, [], .int .i64 60⟩]) [0] [6] rfl (by kernel_rfl) ?_
    refine N_then ?_
    refine G_ret ?_
    refine N_block_ret ?_
    refine N_then_ret ?_
    refine N_ret [.tmp 6] [.int .i64 60] rfl (by kernel_rfl) rfl ?_
    exact .inr ⟨hce, rfl, rfl⟩

theorem vAppendAny (d nb kb cb nc : Nat) (room calls : Int) (bv : Value) (fails once : Bool) (nm : SM) (path : ByteArray) (hpath : path.size ≤ 9223372036854775807) (hca : -9223372036854775808 ≤ calls ∧ calls ≤ 9223372036854775807) (ao : Option Addr) (k cap : Nat) (szf : Value → Nat) (hn : MapOk nm nc) (hs : sumN szf nm ≤ 1000000000000) (p n cn m ck : Nat) (an ak : Option Addr) (hg : mget nm path = some (.pointer (some ⟨p, 0, none⟩))) (S : Nat → Obj → Prop) (l0 : List UInt8) (hrd0 : Rd S an (u8s l0)) (hl0 : l0.length = n) (hnn : n ≤ 1000000000) (hnc : n ≤ cn) (hna : (an = none ∧ n = 0 ∧ cn = 0) ∨ ∃ b off, an = some ⟨b, off, none⟩) (S2 : Nat → Obj → Prop) (l : List UInt8) (hao : ao = none → k = 0) (hrd : Rd S2 ao (u8s l)) (hl : l.length = k) (hkn : k ≤ 1000000000) (W0 : World) (H : List Grp) (hS : ∀ y o, S y o → At W0 H y o) (hS2 : ∀ y o, S2 y o → At W0 H y o) (hB : ∀ e ∈ nm, ∃ p1 a c kv, e.2.1 = .pointer (some ⟨p1, 0, none⟩) ∧ At W0 ([(p, .cells #[.slice an n cn, .slice ak m ck] 68 (0, 0))] :: H) p1 (.cells #[.slice a (szf e.2.1) c, kv] 68 (0, 0))) : Tri Try.prog 22 #[.pointer (some ⟨d, 0, none⟩), .string path, .slice ao k cap] W0 ([(d, .cells #[.int .i64 room, bv, .map (some nb), .map (some kb), .map (some cb), .bool fails, .bool once, .int .i64 calls] 64 (0, 0))] :: [(nb, .map (encM nm) nc)] :: [(p, .cells #[.slice an n cn, .slice ak m ck] 68 (0, 0))] :: H) (fun v H' => ((callS fails once calls (rightB path)).1 ≠ 0 ∧ v = .int .i64 (callS fails once calls (rightB path)).1 ∧ H' = ([(d, .cells #[.int .i64 room, bv, .map (some nb), .map (some kb), .map (some cb), .bool ((callS fails once calls (rightB path)).2.1), .bool once, .int .i64 ((callS fails once calls (rightB path)).2.2)] 64 (0, 0))] :: [(nb, .map (encM nm) nc)] :: [(p, .cells #[.slice an n cn, .slice ak m ck] 68 (0, 0))] :: H)) ∨ ((callS fails once calls (rightB path)).1 = 0 ∧ ((sumN szf nm : Nat) : Int) + (k : Int) > room ∧ v = .int .i64 61 ∧ H' = ([(d, .cells #[.int .i64 room, bv, .map (some nb), .map (some kb), .map (some cb), .bool ((callS fails once calls (rightB path)).2.1), .bool once, .int .i64 ((callS fails once calls (rightB path)).2.2)] 64 (0, 0))] :: [(nb, .map (encM nm) nc)] :: [(p, .cells #[.slice an n cn, .slice ak m ck] 68 (0, 0))] :: H)) ∨ ((callS fails once calls (rightB path)).1 = 0 ∧ ¬ ((sumN szf nm : Nat) : Int) + (k : Int) > room ∧ v = .int .i64 0 ∧ ∃ a' cap' g, n + k ≤ cap' ∧ ((a' = none ∧ n + k = 0 ∧ cap' = 0) ∨ ∃ b off, a' = some ⟨b, off, none⟩) ∧ Rd (fun b o => S b o ∨ inG g b o) a' (u8s l0 ++ u8s l) ∧ H' = ([(d, .cells #[.int .i64 room, bv, .map (some nb), .map (some kb), .map (some cb), .bool ((callS fails once calls (rightB path)).2.1), .bool once, .int .i64 ((callS fails once calls (rightB path)).2.2)] 64 (0, 0))] :: [(nb, .map (encM nm) nc)] :: [(p, .cells #[.slice a' (n + k) cap', .slice ak m ck] 68 (0, 0))] :: g :: H))) := by
  refine Tri_of (args := [.pointer (some ⟨d, 0, none⟩), .string path, .slice ao k cap]) (n := 46) Try.func22 rfl rfl (Nat.le_of_ble_eq_true rfl) ?_
  refine G_seq ?_
  refine G_pure (E' := [⟨0, [], .pointer (some ⟨d, 0, none⟩)⟩, ⟨1, [], .string path⟩, ⟨2, [], .slice ao k cap⟩]) [0] [0, 1, 2] rfl (by kernel_rfl) ?_
  refine N_then ?_
  refine G_seq ?_
  refine G_seq ?_
  refine G_region ?_
  refine GL_pure (E' := [⟨10, [], .string path⟩, ⟨9, [], .pointer (some ⟨d, 0, none⟩)⟩, ⟨0, [], .pointer (some ⟨d, 0, none⟩)⟩, ⟨1, [], .string path⟩, ⟨2, [], .slice ao k cap⟩]) [0, 0] (by kernel_rfl) (j := 2) rfl ?_
  refine GL_callQ (i := 2) (ch := []) (f := 10) (fst := #[]) (caps := #[]) (vs := [.string path]) (v := .bool (rightB path)) rfl rfl rfl (by kernel_rfl) (by kernel_rfl) Try.func10 rfl rfl (by kernel_rfl) (by kernel_rfl) (by kernel_rfl) (fun _ => vfsRight _ hpath _ _) ?_
  refine GL_call (i := 3) (ch := []) (f := 34) (fst := #[]) (caps := #[]) (vs := [.pointer (some ⟨d, 0, none⟩), .bool (rightB path)]) rfl rfl rfl (by kernel_rfl) (by kernel_rfl) Try.func34 rfl rfl (by kernel_rfl) (by kernel_rfl) (chSure_of (by kernel_rfl)) (vCall d nb kb cb room calls bv fails once (rightB path) hca _ _) ?_
  rintro v H' ⟨rfl, rfl⟩
  refine GL_fin (E' := [⟨0, [], .pointer (some ⟨d, 0, none⟩)⟩, ⟨1, [], .string path⟩, ⟨2, [], .slice ao k cap⟩, ⟨7, [], .int .i64 ((callS fails once calls (rightB path)).1)⟩]) [0] [0, 1, 2, 7] rfl (by kernel_rfl) ?_
  refine N_then ?_
  refine G_seq ?_
  refine G_pure (E' := [⟨0, [], .pointer (some ⟨d, 0, none⟩)⟩, ⟨1, [], .string path⟩, ⟨2, [], .slice ao k cap⟩, ⟨7, [], .int .i64 ((callS fails once calls (rightB path)).1)⟩, ⟨14, [], .bool (((callS fails once calls (rightB path)).1) != 0)⟩]) [0, 0] [0, 1, 2, 7, 14] rfl (by kernel_rfl) ?_
  refine N_then ?_
  refine G_cond (b := ((callS fails once calls (rightB path)).1) != 0) (by kernel_rfl) (fun hc1 => ?_) (fun hc1 => ?_)
  ·
    have hce : (callS fails once calls (rightB path)).1 ≠ 0 := by simpa using hc1
    -- L err
    refine G_seq ?_
    refine G_pure (E' := [⟨6, [], .int .i64 ((callS fails once calls (rightB path)).1)⟩]) [0, 0] [6] rfl (by kernel_rfl) ?_
    refine N_then ?_
    refine G_ret ?_
    refine N_then_ret ?_
    refine N_heap (H' := ([(d, .cells #[.int .i64 room, bv, .map (some nb), .map (some kb), .map (some cb), .bool ((callS fails once calls (rightB path)).2.1), .bool once, .int .i64 ((callS fails once calls (rightB path)).2.2)] 64 (0, 0))] :: [(nb, .map (encM nm) nc)] :: [(p, .cells #[.slice an n cn, .slice ak m ck] 68 (0, 0))] :: H)) (fun w h => (((h.front (j := 2) rfl).front (j := 2) rfl).front (j := 2) rfl)) ?_
    refine N_ret [.tmp 6] [.int .i64 ((callS fails once calls (rightB path)).1)] rfl (by kernel_rfl) rfl ?_
    exact .inl ⟨hce, rfl, rfl⟩
  ·
    have hce : (callS fails once calls (rightB path)).1 = 0 := by simpa using hc1
    refine G_skip ?_
    refine N_then ?_
    refine G_seq ?_
    refine G_region ?_
    refine GL_pure (E' := [⟨18, [], .pointer (some ⟨d, 2, none⟩)⟩, ⟨17, [], .pointer (some ⟨d, 0, none⟩)⟩, ⟨16, [], .pointer (some ⟨d, 0, none⟩)⟩, ⟨0, [], .pointer (some ⟨d, 0, none⟩)⟩, ⟨1, [], .string path⟩, ⟨2, [], .slice ao k cap⟩, ⟨7, [], .int .i64 ((callS fails once calls (rightB path)).1)⟩, ⟨14, [], .bool (((callS fails once calls (rightB path)).1) != 0)⟩]) [0, 0, 0] (by kernel_rfl) (j := 3) rfl ?_
    refine GL_load (i := 3) (ch := []) (b := d) (off := 2) (v := .map (some nb)) rfl rfl (by kernel_rfl) (by kernel_rfl) (by kernel_rfl) (by kernel_rfl) (by kernel_rfl) (At.grp 0 0 rfl rfl) rfl ?_
    refine GL_pure (E' := [⟨20, [], .string path⟩, ⟨19, [], .map (some nb)⟩, ⟨18, [], .pointer (some ⟨d, 2, none⟩)⟩, ⟨17, [], .pointer (some ⟨d, 0, none⟩)⟩, ⟨16, [], .pointer (some ⟨d, 0, none⟩)⟩, ⟨0, [], .pointer (some ⟨d, 0, none⟩)⟩, ⟨1, [], .string path⟩, ⟨2, [], .slice ao k cap⟩, ⟨7, [], .int .i64 ((callS fails once calls (rightB path)).1)⟩, ⟨14, [], .bool (((callS fails once calls (rightB path)).1) != 0)⟩]) [0] (by kernel_rfl) (j := 5) rfl ?_
    refine GL_lookup (i := 5) (ch := []) (kt := 9) (et := 66) (r := nb) (c := nc) (m := nm) (k := path) (z := .pointer none) (ov := (some (.pointer (some ⟨p, 0, none⟩)))) rfl rfl (by kernel_rfl) (by kernel_rfl) (by kernel_rfl) (by kernel_rfl) (by kernel_rfl) (by kernel_rfl) (by kernel_rfl) (by kernel_rfl) (At.grp 1 0 rfl rfl) (fun _ => hg) ?_
    refine GL_fin (E' := [⟨0, [], .pointer (some ⟨d, 0, none⟩)⟩, ⟨2, [], .slice ao k cap⟩, ⟨8, [], .pointer (some ⟨p, 0, none⟩)⟩]) [0] [0, 2, 8] rfl (by kernel_rfl) ?_
    refine N_then ?_
    refine G_seq ?_
    refine G_block ?_
    refine G_seq ?_
    refine G_pure (E' := [⟨0, [], .pointer (some ⟨d, 0, none⟩)⟩, ⟨2, [], .slice ao k cap⟩, ⟨8, [], .pointer (some ⟨p, 0, none⟩)⟩, ⟨22, [], .bool false⟩]) [0, 0, 0] [0, 2, 8, 22] rfl (by kernel_rfl) ?_
    refine N_then ?_
    refine G_condf (by kernel_rfl) ?_
    refine G_seq ?_
    refine G_regionH ([(d, .cells #[.int .i64 room, bv, .map (some nb), .map (some kb), .map (some cb), .bool ((callS fails once calls (rightB path)).2.1), .bool once, .int .i64 ((callS fails once calls (rightB path)).2.2)] 64 (0, 0))] :: [(nb, .map (encM nm) nc)] :: [(p, .cells #[.slice an n cn, .slice ak m ck] 68 (0, 0))] :: H) (by kernel_rfl) ?_
    refine GH_take (E' := [⟨26, [], .pointer (some ⟨d, 0, none⟩)⟩, ⟨0, [], .pointer (some ⟨d, 0, none⟩)⟩, ⟨2, [], .slice ao k cap⟩, ⟨8, [], .pointer (some ⟨p, 0, none⟩)⟩, ⟨22, [], .bool false⟩]) 0 (by kernel_rfl) (by kernel_rfl) (by kernel_rfl) (by kernel_rfl) (by kernel_rfl) (fun w h => (((h.front (j := 2) rfl).front (j := 2) rfl).front (j := 2) rfl)) ?_ ?_
    ·
      refine GL_pure (E' := [⟨26, [], .pointer (some ⟨d, 0, none⟩)⟩, ⟨0, [], .pointer (some ⟨d, 0, none⟩)⟩, ⟨2, [], .slice ao k cap⟩, ⟨8, [], .pointer (some ⟨p, 0, none⟩)⟩, ⟨22, [], .bool false⟩]) [0] (by kernel_rfl) (j := 1) rfl ?_
      exact GL_yend (by kernel_rfl) (by kernel_rfl)
    refine GH_take (E' := [⟨28, [], .slice ao k cap⟩, ⟨26, [], .pointer (some ⟨d, 0, none⟩)⟩, ⟨0, [], .pointer (some ⟨d, 0, none⟩)⟩, ⟨2, [], .slice ao k cap⟩, ⟨8, [], .pointer (some ⟨p, 0, none⟩)⟩, ⟨22, [], .bool false⟩]) 2 (by kernel_rfl) (by kernel_rfl) (by kernel_rfl) (by kernel_rfl) (by kernel_rfl) (fun w h => (((h.front (j := 2) rfl).front (j := 2) rfl).front (j := 2) rfl)) ?_ ?_
    ·
      refine GL_pure (E' := [⟨28, [], .slice ao k cap⟩, ⟨26, [], .pointer (some ⟨d, 0, none⟩)⟩, ⟨0, [], .pointer (some ⟨d, 0, none⟩)⟩, ⟨2, [], .slice ao k cap⟩, ⟨8, [], .pointer (some ⟨p, 0, none⟩)⟩, ⟨22, [], .bool false⟩]) [0] (by kernel_rfl) (j := 3) rfl ?_
      exact GL_yend (by kernel_rfl) (by kernel_rfl)
    refine GH_pev (v := .int .i64 ((k : Nat) : Int)) 3 rfl rfl (by kernel_rfl) (by kernel_rfl) (by kernel_rfl) (by kernel_rfl) (by kernel_rfl) (fun w h => (((h.front (j := 2) rfl).front (j := 2) rfl).front (j := 2) rfl)) ?_
    refine GH_take (E' := [⟨31, [], .pointer (some ⟨d, 0, none⟩)⟩, ⟨29, [], .int .i64 ((k : Nat) : Int)⟩, ⟨28, [], .slice ao k cap⟩, ⟨26, [], .pointer (some ⟨d, 0, none⟩)⟩, ⟨0, [], .pointer (some ⟨d, 0, none⟩)⟩, ⟨2, [], .slice ao k cap⟩, ⟨8, [], .pointer (some ⟨p, 0, none⟩)⟩, ⟨22, [], .bool false⟩]) 5 (by kernel_rfl) (by kernel_rfl) (by kernel_rfl) (by kernel_rfl) (by kernel_rfl) (fun w h => (((h.front (j := 2) rfl).front (j := 2) rfl).front (j := 2) rfl)) ?_ ?_
    ·
      refine GL_pure (E' := [⟨31, [], .pointer (some ⟨d, 0, none⟩)⟩, ⟨29, [], .int .i64 ((k : Nat) : Int)⟩, ⟨28, [], .slice ao k cap⟩, ⟨26, [], .pointer (some ⟨d, 0, none⟩)⟩, ⟨0, [], .pointer (some ⟨d, 0, none⟩)⟩, ⟨2, [], .slice ao k cap⟩, ⟨8, [], .pointer (some ⟨p, 0, none⟩)⟩, ⟨22, [], .bool false⟩]) [0] (by kernel_rfl) (j := 6) rfl ?_
      exact GL_yend (by kernel_rfl) (by kernel_rfl)
    refine GH_nil (ad := ⟨d, 0, none⟩) 6 rfl rfl rfl (by kernel_rfl) (by kernel_rfl) (by kernel_rfl) (by kernel_rfl) (by kernel_rfl) (fun w h => (((h.front (j := 2) rfl).front (j := 2) rfl).front (j := 2) rfl)) ?_
    refine GH_take (E' := [⟨33, [], .pointer (some ⟨d, 0, none⟩)⟩, ⟨32, [], .pointer (some ⟨d, 0, none⟩)⟩, ⟨31, [], .pointer (some ⟨d, 0, none⟩)⟩, ⟨29, [], .int .i64 ((k : Nat) : Int)⟩, ⟨28, [], .slice ao k cap⟩, ⟨26, [], .pointer (some ⟨d, 0, none⟩)⟩, ⟨0, [], .pointer (some ⟨d, 0, none⟩)⟩, ⟨2, [], .slice ao k cap⟩, ⟨8, [], .pointer (some ⟨p, 0, none⟩)⟩, ⟨22, [], .bool false⟩]) 7 (by kernel_rfl) (by kernel_rfl) (by kernel_rfl) (by kernel_rfl) (by kernel_rfl) (fun w h => (((h.front (j := 2) rfl).front (j := 2) rfl).front (j := 2) rfl)) ?_ ?_
    ·
      refine GL_pure (E' := [⟨33, [], .pointer (some ⟨d, 0, none⟩)⟩, ⟨32, [], .pointer (some ⟨d, 0, none⟩)⟩, ⟨31, [], .pointer (some ⟨d, 0, none⟩)⟩, ⟨29, [], .int .i64 ((k : Nat) : Int)⟩, ⟨28, [], .slice ao k cap⟩, ⟨26, [], .pointer (some ⟨d, 0, none⟩)⟩, ⟨0, [], .pointer (some ⟨d, 0, none⟩)⟩, ⟨2, [], .slice ao k cap⟩, ⟨8, [], .pointer (some ⟨p, 0, none⟩)⟩, ⟨22, [], .bool false⟩]) [0] (by kernel_rfl) (j := 8) rfl ?_
      exact GL_yend (by kernel_rfl) (by kernel_rfl)
    refine GH_take (E' := [⟨34, [], .int .i64 room⟩, ⟨33, [], .pointer (some ⟨d, 0, none⟩)⟩, ⟨32, [], .pointer (some ⟨d, 0, none⟩)⟩, ⟨31, [], .pointer (some ⟨d, 0, none⟩)⟩, ⟨29, [], .int .i64 ((k : Nat) : Int)⟩, ⟨28, [], .slice ao k cap⟩, ⟨26, [], .pointer (some ⟨d, 0, none⟩)⟩, ⟨0, [], .pointer (some ⟨d, 0, none⟩)⟩, ⟨2, [], .slice ao k cap⟩, ⟨8, [], .pointer (some ⟨p, 0, none⟩)⟩, ⟨22, [], .bool false⟩]) 8 (by kernel_rfl) (by kernel_rfl) (by kernel_rfl) (by kernel_rfl) (by kernel_rfl) (fun w h => (((h.front (j := 2) rfl).front (j := 2) rfl).front (j := 2) rfl)) ?_ ?_
    ·
      refine GL_load (i := 8) (ch := []) (b := d) (off := 0) (v := .int .i64 room) rfl rfl (by kernel_rfl) (by kernel_rfl) (by kernel_rfl) (by kernel_rfl) (by kernel_rfl) (At.grp 0 0 rfl rfl) rfl ?_
      exact GL_yend (by kernel_rfl) (by kernel_rfl)
    refine GH_eff 1 (by kernel_rfl) (by kernel_rfl) (by kernel_rfl) ?_
    refine GL_heap rfl (H' := ([(d, .cells #[.int .i64 room, bv, .map (some nb), .map (some kb), .map (some cb), .bool ((callS fails once calls (rightB path)).2.1), .bool once, .int .i64 ((callS fails once calls (rightB path)).2.2)] 64 (0, 0))] :: [(nb, .map (encM nm) nc)] :: [(p, .cells #[.slice an n cn, .slice ak m ck] 68 (0, 0))] :: H)) (fun w h => ((h.front (j := 1) rfl).front (j := 1) rfl)) ?_
    refine GL_call (i := 1) (ch := []) (f := 26) (fst := #[]) (caps := #[]) (vs := [.pointer (some ⟨d, 0, none⟩)]) rfl rfl rfl (by kernel_rfl) (by kernel_rfl) Try.func26 rfl rfl (by kernel_rfl) (by kernel_rfl) (chSure_of (by kernel_rfl)) (vUsed d nb kb cb nc room ((callS fails once calls (rightB path)).2.2) bv ((callS fails once calls (rightB path)).2.1) once nm szf hn hs _ _ hB) ?_
    rintro v H' ⟨rfl, rfl⟩
    refine GH_back (by kernel_rfl) (fun w h => (((h.front (j := 2) rfl).front (j := 2) rfl).front (j := 2) rfl)) ?_
    refine GH_take (E' := [⟨30, [], .int .i64 (((sumN szf nm : Nat) : Int) + ((k : Nat) : Int))⟩, ⟨27, [], .int .i64 ((sumN szf nm : Nat) : Int)⟩, ⟨34, [], .int .i64 room⟩, ⟨33, [], .pointer (some ⟨d, 0, none⟩)⟩, ⟨32, [], .pointer (some ⟨d, 0, none⟩)⟩, ⟨31, [], .pointer (some ⟨d, 0, none⟩)⟩, ⟨29, [], .int .i64 ((k : Nat) : Int)⟩, ⟨28, [], .slice ao k cap⟩, ⟨26, [], .pointer (some ⟨d, 0, none⟩)⟩, ⟨0, [], .pointer (some ⟨d, 0, none⟩)⟩, ⟨2, [], .slice ao k cap⟩, ⟨8, [], .pointer (some ⟨p, 0, none⟩)⟩, ⟨22, [], .bool false⟩]) 4 (by kernel_rfl) (by kernel_rfl) (by kernel_rfl) (by kernel_rfl) (by kernel_rfl) (fun w h => (((h.front (j := 2) rfl).front (j := 2) rfl).front (j := 2) rfl)) ?_ ?_
    ·
      have hw2 : IntKind.wrap .i64 (((sumN szf nm : Nat) : Int) + ((k : Nat) : Int)) = ((sumN szf nm : Nat) : Int) + ((k : Nat) : Int) := w64 (by omega) (by omega)
      refine GL_pure (E' := [⟨30, [], .int .i64 (((sumN szf nm : Nat) : Int) + ((k : Nat) : Int))⟩, ⟨27, [], .int .i64 ((sumN szf nm : Nat) : Int)⟩, ⟨34, [], .int .i64 room⟩, ⟨33, [], .pointer (some ⟨d, 0, none⟩)⟩, ⟨32, [], .pointer (some ⟨d, 0, none⟩)⟩, ⟨31, [], .pointer (some ⟨d, 0, none⟩)⟩, ⟨29, [], .int .i64 ((k : Nat) : Int)⟩, ⟨28, [], .slice ao k cap⟩, ⟨26, [], .pointer (some ⟨d, 0, none⟩)⟩, ⟨0, [], .pointer (some ⟨d, 0, none⟩)⟩, ⟨2, [], .slice ao k cap⟩, ⟨8, [], .pointer (some ⟨p, 0, none⟩)⟩, ⟨22, [], .bool false⟩]) [0] (Eq.trans (b := some [⟨30, [], .int .i64 (IntKind.wrap .i64 (((sumN szf nm : Nat) : Int) + ((k : Nat) : Int)))⟩, ⟨27, [], .int .i64 ((sumN szf nm : Nat) : Int)⟩, ⟨34, [], .int .i64 room⟩, ⟨33, [], .pointer (some ⟨d, 0, none⟩)⟩, ⟨32, [], .pointer (some ⟨d, 0, none⟩)⟩, ⟨31, [], .pointer (some ⟨d, 0, none⟩)⟩, ⟨29, [], .int .i64 ((k : Nat) : Int)⟩, ⟨28, [], .slice ao k cap⟩, ⟨26, [], .pointer (some ⟨d, 0, none⟩)⟩, ⟨0, [], .pointer (some ⟨d, 0, none⟩)⟩, ⟨2, [], .slice ao k cap⟩, ⟨8, [], .pointer (some ⟨p, 0, none⟩)⟩, ⟨22, [], .bool false⟩]) (by kernel_rfl) (by simp only [hw2])) (j := 5) rfl ?_
      exact GL_yend (by kernel_rfl) (by kernel_rfl)
    refine GH_take (E' := [⟨35, [], .bool (decide ((((sumN szf nm : Nat) : Int) + ((k : Nat) : Int)) > room))⟩, ⟨30, [], .int .i64 (((sumN szf nm : Nat) : Int) + ((k : Nat) : Int))⟩, ⟨27, [], .int .i64 ((sumN szf nm : Nat) : Int)⟩, ⟨34, [], .int .i64 room⟩, ⟨33, [], .pointer (some ⟨d, 0, none⟩)⟩, ⟨32, [], .pointer (some ⟨d, 0, none⟩)⟩, ⟨31, [], .pointer (some ⟨d, 0, none⟩)⟩, ⟨29, [], .int .i64 ((k : Nat) : Int)⟩, ⟨28, [], .slice ao k cap⟩, ⟨26, [], .pointer (some ⟨d, 0, none⟩)⟩, ⟨0, [], .pointer (some ⟨d, 0, none⟩)⟩, ⟨2, [], .slice ao k cap⟩, ⟨8, [], .pointer (some ⟨p, 0, none⟩)⟩, ⟨22, [], .bool false⟩]) 9 (by kernel_rfl) (by kernel_rfl) (by kernel_rfl) (by kernel_rfl) (by kernel_rfl) (fun w h => (((h.front (j := 2) rfl).front (j := 2) rfl).front (j := 2) rfl)) ?_ ?_
    ·
      refine GL_pure (E' := [⟨35, [], .bool (decide ((((sumN szf nm : Nat) : Int) + ((k : Nat) : Int)) > room))⟩, ⟨30, [], .int .i64 (((sumN szf nm : Nat) : Int) + ((k : Nat) : Int))⟩, ⟨27, [], .int .i64 ((sumN szf nm : Nat) : Int)⟩, ⟨34, [], .int .i64 room⟩, ⟨33, [], .pointer (some ⟨d, 0, none⟩)⟩, ⟨32, [], .pointer (some ⟨d, 0, none⟩)⟩, ⟨31, [], .pointer (some ⟨d, 0, none⟩)⟩, ⟨29, [], .int .i64 ((k : Nat) : Int)⟩, ⟨28, [], .slice ao k cap⟩, ⟨26, [], .pointer (some ⟨d, 0, none⟩)⟩, ⟨0, [], .pointer (some ⟨d, 0, none⟩)⟩, ⟨2, [], .slice ao k cap⟩, ⟨8, [], .pointer (some ⟨p, 0, none⟩)⟩, ⟨22, [], .bool false⟩]) [0] (by kernel_rfl) (j := 10) rfl ?_
      exact GL_yend (by kernel_rfl) (by kernel_rfl)
    refine GH_take (E' := [⟨25, [], .bool (decide ((((sumN szf nm : Nat) : Int) + ((k : Nat) : Int)) > room))⟩, ⟨35, [], .bool (decide ((((sumN szf nm : Nat) : Int) + ((k : Nat) : Int)) > room))⟩, ⟨30, [], .int .i64 (((sumN szf nm : Nat) : Int) + ((k : Nat) : Int))⟩, ⟨27, [], .int .i64 ((sumN szf nm : Nat) : Int)⟩, ⟨34, [], .int .i64 room⟩, ⟨33, [], .pointer (some ⟨d, 0, none⟩)⟩, ⟨32, [], .pointer (some ⟨d, 0, none⟩)⟩, ⟨31, [], .pointer (some ⟨d, 0, none⟩)⟩, ⟨29, [], .int .i64 ((k : Nat) : Int)⟩, ⟨28, [], .slice ao k cap⟩, ⟨26, [], .pointer (some ⟨d, 0, none⟩)⟩, ⟨0, [], .pointer (some ⟨d, 0, none⟩)⟩, ⟨2, [], .slice ao k cap⟩, ⟨8, [], .pointer (some ⟨p, 0, none⟩)⟩, ⟨22, [], .bool false⟩]) 10 (by kernel_rfl) (by kernel_rfl) (by kernel_rfl) (by kernel_rfl) (by kernel_rfl) (fun w h => (((h.front (j := 2) rfl).front (j := 2) rfl).front (j := 2) rfl)) ?_ ?_
    ·
      refine GL_pure (E' := [⟨25, [], .bool (decide ((((sumN szf nm : Nat) : Int) + ((k : Nat) : Int)) > room))⟩, ⟨35, [], .bool (decide ((((sumN szf nm : Nat) : Int) + ((k : Nat) : Int)) > room))⟩, ⟨30, [], .int .i64 (((sumN szf nm : Nat) : Int) + ((k : Nat) : Int))⟩, ⟨27, [], .int .i64 ((sumN szf nm : Nat) : Int)⟩, ⟨34, [], .int .i64 room⟩, ⟨33, [], .pointer (some ⟨d, 0, none⟩)⟩, ⟨32, [], .pointer (some ⟨d, 0, none⟩)⟩, ⟨31, [], .pointer (some ⟨d, 0, none⟩)⟩, ⟨29, [], .int .i64 ((k : Nat) : Int)⟩, ⟨28, [], .slice ao k cap⟩, ⟨26, [], .pointer (some ⟨d, 0, none⟩)⟩, ⟨0, [], .pointer (some ⟨d, 0, none⟩)⟩, ⟨2, [], .slice ao k cap⟩, ⟨8, [], .pointer (some ⟨p, 0, none⟩)⟩, ⟨22, [], .bool false⟩]) [0] (by kernel_rfl) (j := 11) rfl ?_
      exact GL_yend (by kernel_rfl) (by kernel_rfl)
    refine GH_done (E' := [⟨2, [], .slice ao k cap⟩, ⟨8, [], .pointer (some ⟨p, 0, none⟩)⟩, ⟨25, [], .bool (decide ((((sumN szf nm : Nat) : Int) + ((k : Nat) : Int)) > room))⟩]) [2, 8, 25] (by kernel_rfl) (by kernel_rfl) ?_
    refine N_then ?_
    refine G_cond (b := decide ((((sumN szf nm : Nat) : Int) + ((k : Nat) : Int)) > room)) (by kernel_rfl) (fun hc3 => ?_) (fun hc3 => ?_)
    ·
      have hro := of_decide_eq_true hc3
      -- L full
      refine G_seq ?_
      refine G_pure (E' := [⟨6, [], .int .i64 61⟩]) [0] [6] rfl (by kernel_rfl) ?_
      refine N_then ?_
      refine G_ret ?_
      refine N_block_ret ?_
      refine N_then_ret ?_
      refine N_heap (H' := ([(d, .cells #[.int .i64 room, bv, .map (some nb), .map (some kb), .map (some cb), .bool ((callS fails once calls (rightB path)).2.1), .bool once, .int .i64 ((callS fails once calls (rightB path)).2.2)] 64 (0, 0))] :: [(nb, .map (encM nm) nc)] :: [(p, .cells #[.slice an n cn, .slice ak m ck] 68 (0, 0))] :: H)) (fun w h => (((h.front (j := 2) rfl).front (j := 2) rfl).front (j := 2) rfl)) ?_
      refine N_ret [.tmp 6] [.int .i64 61] rfl (by kernel_rfl) rfl ?_
      exact .inr (.inl ⟨hce, hro, rfl, rfl⟩)
    ·
      have hro := of_decide_eq_false hc3
      refine G_skip ?_
      refine N_block ?_
      refine N_then ?_
      refine G_seq ?_
      refine G_region ?_
      refine GL_pure (E' := [⟨39, [], .pointer (some ⟨p, 0, none⟩)⟩, ⟨38, [], .pointer (some ⟨p, 0, none⟩)⟩, ⟨37, [], .pointer (some ⟨p, 0, none⟩)⟩, ⟨36, [], .pointer (some ⟨p, 0, none⟩)⟩, ⟨2, [], .slice ao k cap⟩, ⟨8, [], .pointer (some ⟨p, 0, none⟩)⟩, ⟨25, [], .bool (decide ((((sumN szf nm : Nat) : Int) + ((k : Nat) : Int)) > room))⟩]) [0, 0, 0, 0] (by kernel_rfl) (j := 4) rfl ?_
      refine GL_load (i := 4) (ch := []) (b := p) (off := 0) (v := .slice an n cn) rfl rfl (by kernel_rfl) (by kernel_rfl) (by kernel_rfl) (by kernel_rfl) (by kernel_rfl) (At.grp 2 0 rfl rfl) rfl ?_
      refine GL_callQ (i := 5) (ch := []) (f := 45) (fst := #[]) (caps := #[]) (vs := [.slice an n cn]) (v := .slice an n n) rfl rfl rfl (by kernel_rfl) (by kernel_rfl) Try.func45 rfl rfl (by kernel_rfl) (by kernel_rfl) (by kernel_rfl) (fun _ => vClip an n cn hnc (hna.imp (fun h => h.2.1) id) _ _) ?_
      refine GL_pure (E' := [⟨42, [], .slice ao k cap⟩, ⟨41, [], .slice an n n⟩, ⟨40, [], .slice an n cn⟩, ⟨39, [], .pointer (some ⟨p, 0, none⟩)⟩, ⟨38, [], .pointer (some ⟨p, 0, none⟩)⟩, ⟨37, [], .pointer (some ⟨p, 0, none⟩)⟩, ⟨36, [], .pointer (some ⟨p, 0, none⟩)⟩, ⟨2, [], .slice ao k cap⟩, ⟨8, [], .pointer (some ⟨p, 0, none⟩)⟩, ⟨25, [], .bool (decide ((((sumN szf nm : Nat) : Int) + ((k : Nat) : Int)) > room))⟩]) [0] (by kernel_rfl) (j := 7) rfl ?_
      refine GL_appendFull (i := 7) (ch := []) (t := 24) (tx := 24) (e := 5) (inf := Try.t5) (x := .slice ao k cap) (a := an) (n := n) (m := k) (cs := (u8s l0)) (news := (u8s l)) (S := S) (S2 := S2) rfl rfl rfl rfl (by kernel_rfl) (by kernel_rfl) (by kernel_rfl) rfl rfl (.inl ⟨5, (by kernel_rfl)⟩) (fun ⟨_, h⟩ => by cases h) (fun _ => ⟨5, (by kernel_rfl)⟩) (by kernel_rfl) (by kernel_rfl) (by kernel_rfl) hrd0 (by rw [u8s_len]; exact hl0) (hna.imp (fun h => ⟨h.1, h.2.1⟩) id) (SrcOf.slice _ _ _ _ hrd hao) (fun y o h => (At.cons (At.cons (At.cons (hS y o h))))) (fun y o h => (At.cons (At.cons (At.cons (hS2 y o h))))) (by rw [u8s_len]; exact hl) u8s_one (by omega) (by show (n + k) * 1 ≤ _; omega) (fun a4 cap5 g6 hcap7 haa8 hrd9 => ?_)
      refine GL_pure (E' := [⟨45, [], .pointer (some ⟨p, 0, none⟩)⟩, ⟨44, [], .pointer (some ⟨p, 0, none⟩)⟩, ⟨43, [], .slice a4 (n + k) cap5⟩, ⟨42, [], .slice ao k cap⟩, ⟨41, [], .slice an n n⟩, ⟨40, [], .slice an n cn⟩, ⟨39, [], .pointer (some ⟨p, 0, none⟩)⟩, ⟨38, [], .pointer (some ⟨p, 0, none⟩)⟩, ⟨37, [], .pointer (some ⟨p, 0, none⟩)⟩, ⟨36, [], .pointer (some ⟨p, 0, none⟩)⟩, ⟨2, [], .slice ao k cap⟩, ⟨8, [], .pointer (some ⟨p, 0, none⟩)⟩, ⟨25, [], .bool (decide ((((sumN szf nm : Nat) : Int) + ((k : Nat) : Int)) > room))⟩]) [0, 0] (by kernel_rfl) (j := 10) rfl ?_
      refine GL_store (i := 10) (ch := []) (b := p) (off := 0) (v := .slice a4 (n + k) cap5) (c := #[.slice an n cn, .slice ak m ck]) (c' := #[.slice a4 (n + k) cap5, .slice ak m ck]) (j := 3) (m := 0) (H' := (g6 :: [(d, .cells #[.int .i64 room, bv, .map (some nb), .map (some kb), .map (some cb), .bool ((callS fails once calls (rightB path)).2.1), .bool once, .int .i64 ((callS fails once calls (rightB path)).2.2)] 64 (0, 0))] :: [(nb, .map (encM nm) nc)] :: [(p, .cells #[.slice a4 (n + k) cap5, .slice ak m ck] 68 (0, 0))] :: H)) rfl rfl (by kernel_rfl) (by kernel_rfl) (by kernel_rfl) (by kernel_rfl) (by kernel_rfl) (by kernel_rfl) (by kernel_rfl) rfl rfl (Nat.le_of_ble_eq_true rfl) (fun _ _ => thaw0) (by kernel_rfl) (by kernel_rfl) ?_
      refine GL_fin (E' := []) [] [] rfl (by kernel_rfl) ?_
      refine N_then ?_
      refine G_seq ?_
      refine G_pure (E' := [⟨6, [], .int .i64 0⟩]) [0] [6] rfl (by kernel_rfl) ?_
      refine N_then ?_
      refine G_ret ?_
      refine N_heap (H' := ([(d, .cells #[.int .i64 room, bv, .map (some nb), .map (some kb), .map (some cb), .bool ((callS fails once calls (rightB path)).2.1), .bool once, .int .i64 ((callS fails once calls (rightB path)).2.2)] 64 (0, 0))] :: [(nb, .map (encM nm) nc)] :: [(p, .cells #[.slice a4 (n + k) cap5, .slice ak m ck] 68 (0, 0))] :: g6 :: H)) (fun w h => (((h.front (j := 3) rfl).front (j := 3) rfl).front (j := 3) rfl)) ?_
      refine N_ret [.tmp 6] [.int .i64 0] rfl (by kernel_rfl) rfl ?_
      exact .inr (.inr ⟨hce, hro, rfl, a4, cap5, g6, hcap7, haa8, hrd9, rfl⟩)

end Go.Proofs.Ytbmieiffboenbaa

namespace Go.Vf
open Go.Sw Go.RowKit

structure DS where
  nb : Nat
  kb : Nat
  cb : Nat
  nm : SM
  km : SM
  cm : SM
  nc : Nat
  kc : Nat
  cc : Nat
  ba : Option Addr
  bc : Nat
  bg : Grp
  bs : List BE
  rows : List RW
  Z : List Grp
def dkO (M : DM) (s : DS) : Obj := .cells #[.int .i64 M.room, .slice s.ba s.bs.length s.bc, .map (some s.nb), .map (some s.kb), .map (some s.cb), .bool M.fails, .bool M.once, .int .i64 M.calls] 64 (0, 0)
def DS.G (s : DS) (d : Nat) (M : DM) : List Grp :=
  [(d, dkO M s)] :: [(s.nb, .map (encM s.nm) s.nc)] :: [(s.kb, .map (encM s.km) s.kc)] :: [(s.cb, .map (encM s.cm) s.cc)] :: s.bg :: bodyG s.bs :: (rowsG s.rows ++ s.Z)
def inZ (Z : List Grp) (y : Nat) (o : Obj) : Prop := (y, o) ∈ Z.flatten
theorem inZ_app {K Z : List Grp} {y : Nat} {o : Obj} (h : inZ Z y o) : inZ (K ++ Z) y o := by
  unfold inZ at h ⊢
  rw [List.flatten_append]; exact List.mem_append_right _ h
theorem inZ_at {W0 : World} {Z H : List Grp} (hz : Z.flatten.Sublist H.flatten) {y : Nat} {o : Obj} (h : inZ Z y o) : At W0 H y o := .inr (hz.subset h)
def psOf (bs : List BE) : List Nat := bs.map (·.p)
structure BodyR (S : Nat → Obj → Prop) (b : BE) (B : Body) : Prop where
  n : b.n = B.now.size
  cn : b.n ≤ b.cn
  an : (b.an = none ∧ b.n = 0 ∧ b.cn = 0) ∨ ∃ k off, b.an = some ⟨k, off, none⟩
  now : Rd S b.an (u8s B.now.data.toList)
  m : b.m = B.kept.size
  cm : b.m ≤ b.ck
  am : (b.ak = none ∧ b.m = 0 ∧ b.ck = 0) ∨ ∃ k off, b.ak = some ⟨k, off, none⟩
  kept : Rd S b.ak (u8s B.kept.data.toList)
theorem BodyR.mono {S S' : Nat → Obj → Prop} {b : BE} {B : Body} (h : BodyR S b B) (hs : ∀ y o, S y o → S' y o) : BodyR S' b B :=
  ⟨h.n, h.cn, h.an, h.now.mono hs, h.m, h.cm, h.am, h.kept.mono hs⟩
def QR (Z : List Grp) (ps : List Nat) (q : Nat) (l : List Nm) : Prop := ∃ x c, inZ Z q (.map (encM x) c) ∧ MapOk x c ∧ ChangeR ps x l
structure DS.ok (s : DS) (M : DM) : Prop where
  own : Own 66 1 (.slice s.ba s.bs.length s.bc) s.bg s.bs.length (s.bs.map fun b => Value.pointer (some ⟨b.p, 0, none⟩))
  nok : MapOk s.nm s.nc
  kok : MapOk s.km s.kc
  cok : MapOk s.cm s.cc
  names : NamesR (psOf s.bs) s.nm M.names
  kept : NamesR (psOf s.bs) s.km M.kept
  rows : RowsOk s.cm s.rows
  chs : ∀ d, All2 (QR s.Z (psOf s.bs)) (rowOf s.rows d) (chOf M.changes d)
  bods : All2 (BodyR (inZ s.Z)) s.bs M.bodies
/-- numbers that keep all sums ints -/
structure Small (M : DM) : Prop where
  bodies : M.bodies.length ≤ 100000
  size : ∀ B ∈ M.bodies, B.now.size ≤ 10000000 ∧ B.kept.size ≤ B.now.size
  names : M.names.length ≤ 10000
  changes : M.changes.length ≤ 100000
  calls : -9223372036854775808 ≤ M.calls ∧ M.calls ≤ 9223372036854775807
  paths : ∀ x ∈ M.names, x.1.size ≤ 1000000
  dirs : ∀ c ∈ M.changes, c.dir.size ≤ 1000000
theorem ok_call {s : DS} {M : DM} (h : s.ok M) (r : Bool) : s.ok (callM M r) := ⟨h.own, h.nok, h.kok, h.cok, h.names, h.kept, h.rows, h.chs, h.bods⟩

/-! ## the bodies' sizes -/
def szV (bs : List BE) : Value → Nat
  | .pointer (some a) => match bs.find? (fun b => b.p == a.block) with | some b => b.n | none => 0
  | _ => 0
theorem szV_of {bs : List BE} (hn : (psOf bs).Nodup) : ∀ i : Nat, i < bs.length → szV bs (ptrV (bs.getD i default).p) = (bs.getD i default).n := by
  unfold szV ptrV
  simp only
  induction bs with
  | nil => intro i h; simp at h
  | cons b bs ih =>
    intro i hi
    unfold psOf at hn
    rw [List.map_cons, List.nodup_cons] at hn
    cases i with
    | zero => simp
    | succ i =>
      have hi' : i < bs.length := by simpa using hi
      have hne : (b.p == (bs.getD i default).p) = false := by
        rw [beq_eq_false_iff_ne]; intro h
        refine hn.1 (List.mem_map.2 ⟨bs.getD i default, getD_mem hi', h.symm⟩)
      rw [List.getD_cons_succ, List.find?_cons, hne]
      exact ih hn.2 i hi'
theorem ps_getD {bs : List BE} {i : Nat} (h : i < bs.length) : (psOf bs).getD i 0 = (bs.getD i default).p := by
  unfold psOf
  rw [List.getD_eq_getElem?_getD, List.getD_eq_getElem?_getD, List.getElem?_map, List.getElem?_eq_getElem h]; rfl
theorem psOf_len (bs : List BE) : (psOf bs).length = bs.length := by unfold psOf; rw [List.length_map]
theorem sz_at {s : DS} {M : DM} (h : s.ok M) (hn : (psOf s.bs).Nodup) {k : Int} (hk : k.toNat < s.bs.length) : szV s.bs (ptrOf (psOf s.bs) k) = sizeAt M k := by
  unfold ptrOf
  rw [ps_getD hk, szV_of hn _ hk]
  exact (h.bods.get default default _ hk).n
theorem sum_used {s : DS} {M : DM} (h : s.ok M) (hn : (psOf s.bs).Nodup) : sumN (szV s.bs) s.nm = usedM M := by
  have hp := (names_perm h.names h.nok).map fun y => szV s.bs y.2
  rw [List.map_map, List.map_map] at hp
  have e := hp.sum_nat
  unfold sumN usedM
  rw [show (s.nm.map fun e => szV s.bs e.2.1) = s.nm.map ((fun y => szV s.bs y.2) ∘ fun e => (e.1, e.2.1)) from rfl, e]
  congr 1
  refine List.map_congr_left fun x hx => ?_
  exact sz_at h hn (by have := (h.names.lt x hx).2; rwa [psOf_len] at this)
theorem used_le {M : DM} (hs : Small M) (hl : ∀ x ∈ M.names, x.2.toNat < M.bodies.length) : usedM M ≤ 100000000000 := by
  have h : ∀ l : List Nm, (∀ x ∈ l, x.2.toNat < M.bodies.length) → (l.map fun x => sizeAt M x.2).sum ≤ l.length * 10000000 := by
    intro l
    induction l with
    | nil => intro _; simp
    | cons x l ih =>
      intro hx
      have h1 := ih fun y hy => hx y (List.mem_cons_of_mem _ hy)
      have h2 : sizeAt M x.2 ≤ 10000000 := by
        have hlt := hx x List.mem_cons_self
        unfold sizeAt bodyAt
        rw [List.getD_eq_getElem?_getD, List.getElem?_eq_getElem hlt]
        exact (hs.size _ (List.getElem_mem hlt)).1
      rw [List.map_cons, List.sum_cons, List.length_cons]
      omega
  have := h M.names hl
  have h2 := hs.names
  unfold usedM
  omega
theorem names_ptr {s : DS} {M : DM} (h : s.ok M) {e : ByteArray × Value × Nat} (he : e ∈ s.nm) : ∃ k : Int, lookN M.names e.1 = some k ∧ k.toNat < s.bs.length ∧ e.2.1 = ptrOf (psOf s.bs) k := by
  obtain ⟨p, v, c⟩ := e
  have h1 := mget_of h.nok.nodup he
  rw [h.names.look] at h1
  cases hl : lookN M.names p with
  | none => rw [hl] at h1; cases h1
  | some k =>
    rw [hl] at h1
    injection h1 with h1
    exact ⟨k, rfl, by have := (h.names.lt _ (lookN_mem hl)).2; rwa [psOf_len] at this, h1.symm⟩
/-- each name's body lies where the bodies lie -/
theorem names_at {s : DS} {M : DM} (h : s.ok M) (hn : (psOf s.bs).Nodup) {W0 : World} {H : List Grp} (hH : ∀ x ∈ bodyG s.bs, x ∈ H.flatten) :
    ∀ e ∈ s.nm, ∃ p a c kv, e.2.1 = .pointer (some ⟨p, 0, none⟩) ∧ At W0 H p (.cells #[.slice a (szV s.bs e.2.1) c, kv] 68 (0, 0)) := by
  intro e he
  obtain ⟨k, _, hk, h2⟩ := names_ptr h he
  refine ⟨(s.bs.getD k.toNat default).p, (s.bs.getD k.toNat default).an, (s.bs.getD k.toNat default).cn, .slice (s.bs.getD k.toNat default).ak (s.bs.getD k.toNat default).m (s.bs.getD k.toNat default).ck, ?_, .inr (hH _ ?_)⟩
  · rw [h2, ptrOf, ps_getD hk]; rfl
  · rw [h2, ptrOf, ps_getD hk, szV_of hn _ hk]
    exact List.mem_of_getElem? (bodyG_at hk)
/-- the blocks of the bodies are unlike -/
theorem ps_nodup {s : DS} {d : Nat} {M : DM} {W0 : World} {H : List Grp} {w : World} (h : Sat W0 (s.G d M ++ H) w) : (psOf s.bs).Nodup := by
  have hn := h.nodup
  have : (bodyG s.bs).Sublist (s.G d M ++ H).flatten := List.sublist_flatten_of_mem (List.mem_append_left _ (by simp [DS.G]))
  have h2 := hn.sublist (this.map Prod.fst)
  unfold bodyG at h2
  rw [List.map_map] at h2
  exact h2
/-- with what a start's world tells -/
theorem tri_sat {P : Program} {f : FuncId} {args : Array Value} {W0 : World} {H : List Grp} {R : Value → List Grp → Prop} (h : (∃ w, Sat W0 H w) → Tri P f args W0 H R) : Tri P f args W0 H R := fun w hs => h ⟨w, hs⟩ w hs

/-! ## what the calls' changes keep -/
theorem qr_mono {K Z : List Grp} {ps : List Nat} {q : Nat} {l : List Nm} (h : QR Z ps q l) : QR (K ++ Z) ps q l := by
  obtain ⟨x, c, h1, h2, h3⟩ := h
  exact ⟨x, c, inZ_app h1, h2, h3⟩
theorem ok_body {s : DS} {M : DM} (h : s.ok M) {p : Nat} {a1 a2 : Option Addr} {n c1 c2 : Nat} {g1 bg2 : Grp} {b : ByteArray} (hb : b.size = n) (h1 : Own 5 1 (.slice a1 n c1) g1 n (u8s b.data.toList)) (h2 : Own 66 1 (.slice a2 (s.bs.length + 1) c2) bg2 (s.bs.length + 1) (s.bs.map (fun b => Value.pointer (some ⟨b.p, 0, none⟩)) ++ [.pointer (some ⟨p, 0, none⟩)])) :
    DS.ok { s with ba := a2, bc := c2, bg := bg2, bs := s.bs ++ [⟨p, a1, n, c1, none, 0, 0⟩], Z := g1 :: s.Z } { M with bodies := M.bodies ++ [⟨b, ByteArray.mk #[]⟩] } := by
  have hps : psOf (s.bs ++ [⟨p, a1, n, c1, none, 0, 0⟩]) = psOf s.bs ++ [p] := by unfold psOf; rw [List.map_append]; rfl
  obtain ⟨a, c, he, hc, hr⟩ := h1.shape
  injection he with e1 e2 e3
  subst e1 e3
  have ha : (a1 = none ∧ n = 0 ∧ c1 = 0) ∨ ∃ k off, a1 = some ⟨k, off, none⟩ := by
    obtain ⟨_, ⟨he, _, hn⟩ | ⟨k, cap, junk, he, _⟩⟩ := h1
    · injection he with e1 e2 e3; exact .inl ⟨e1, e2, e3⟩
    · injection he with e1 e2 e3; exact .inr ⟨k, 0, e1⟩
  refine ⟨?_, h.nok, h.kok, h.cok, ?_, ?_, h.rows, fun d => ?_, ?_⟩
  · simp only [List.length_append, List.length_cons, List.length_nil, List.map_append, List.map_cons, List.map_nil]; exact h2
  · rw [hps]; exact h.names.mono p
  · rw [hps]; exact h.kept.mono p
  · rw [hps]
    refine (h.chs d).imp fun q l ⟨x, c, h1, h2, h3⟩ => ⟨x, c, inZ_app (K := [g1]) h1, h2, h3.mono p⟩
  · refine (h.bods.imp fun b B hb => hb.mono fun y o h => inZ_app (K := [g1]) h).app (.cons ⟨hb.symm, hc, ha, hr.mono fun y o h => ?_, rfl, Nat.le_refl _, .inl ⟨rfl, rfl, rfl⟩, .inl rfl⟩ .nil)
    show (y, o) ∈ (g1 :: s.Z).flatten
    rw [List.flatten_cons]; exact List.mem_append_left _ h
theorem chOf_snoc (l : List Ch) (c : Ch) (d : ByteArray) : chOf (l ++ [c]) d = if d == c.dir then chOf l d ++ [c.l] else chOf l d := by
  unfold chOf
  rw [List.filter_append, List.map_append, List.filter_cons]
  cases d == c.dir <;> simp
theorem ok_change {s : DS} {M : DM} (h : s.ok M) {dir : ByteArray} {l : List Nm} {q xc : Nat} {x dn : SM} {cx : Value} {rows1 : List RW} (hx : MapOk x xc) (hc : ChangeR (psOf s.bs) x l) (hd : dn.Perm x) (hR : RowsOk (mput s.cm s.cc dir cx) rows1) (hA : RowsAdd s.rows dir q rows1) :
    DS.ok { s with nm := (foldS (s.nm, s.nc) dn).1, nc := (foldS (s.nm, s.nc) dn).2, cm := mput s.cm s.cc dir cx, cc := if mhas s.cm dir then s.cc else s.cc + 1, rows := rows1, Z := [(q, .map (encM x) xc)] :: s.Z } (changeM M dir l) := by
  refine ⟨h.own, MapOk.fold (s := (s.nm, s.nc)) h.nok dn, h.kok, h.cok.put _ _, names_apply h.names h.nok hx hc hd, h.kept, hR, fun d => ?_, h.bods.imp fun b B hb => hb.mono fun y o h => inZ_app (K := [[(q, .map (encM x) xc)]]) h⟩
  show All2 _ (rowOf rows1 d) (chOf (M.changes ++ [⟨dir, l⟩]) d)
  rw [rowsAdd_of hA, chOf_snoc]
  have h0 := (h.chs d).imp fun q' l' hq => qr_mono (K := [[(q, .map (encM x) xc)]]) hq
  have key : All2 (QR ([[(q, .map (encM x) xc)]] ++ s.Z) (psOf s.bs)) (if (d == dir) = true then rowOf s.rows d ++ [q] else rowOf s.rows d) (if (d == dir) = true then chOf M.changes d ++ [l] else chOf M.changes d) := by
    split
    · refine h0.app (.cons ⟨x, xc, ?_, hx, hc⟩ .nil)
      show (q, _) ∈ List.flatten ([(q, _)] :: s.Z)
      rw [List.flatten_cons]; exact List.mem_append_left _ (List.mem_singleton.2 rfl)
    · exact h0
  exact key
theorem rows_le {s : DS} {M : DM} (h : s.ok M) (hs : Small M) : ∀ r ∈ s.rows, r.qs.length ≤ 1000000 := by
  intro r hr
  have hk : (s.rows.map (·.dir)).Nodup := by
    have h1 : (s.cm.map (fun e => (e.1, e.2.1))).map Prod.fst = (s.rows.map (fun r => (r.dir, r.v))).map Prod.fst := by rw [h.rows.1]
    rw [List.map_map, List.map_map] at h1
    have h2 := h.cok.nodup
    rw [show (s.cm.map Prod.fst) = s.cm.map (Prod.fst ∘ fun e => (e.1, e.2.1)) from rfl, h1] at h2
    exact h2
  have hrow : rowOf s.rows r.dir = r.qs := by
    have : ∀ rows : List RW, (rows.map (·.dir)).Nodup → r ∈ rows → rowOf rows r.dir = r.qs := by
      intro rows
      induction rows with
      | nil => intro _ h; cases h
      | cons y rows ih =>
        intro hn hm
        rw [List.map_cons, List.nodup_cons] at hn
        rw [rowOf]
        rcases List.mem_cons.1 hm with rfl | hm
        · rw [if_pos (baEq.2 rfl)]
        · rw [if_neg, ih hn.2 hm]
          intro he
          rw [baEq] at he
          exact hn.1 (List.mem_map.2 ⟨r, hm, he⟩)
    exact this s.rows hk hr
  have h1 := (h.chs r.dir).len
  rw [hrow] at h1
  have h2 : (chOf M.changes r.dir).length ≤ M.changes.length := by
    unfold chOf
    rw [List.length_map]; exact List.length_filter_le _ _
  have := hs.changes
  omega
end Go.Vf

namespace Go.Vf
open Go.Sw Go.RowKit Go.Proofs Go.Proofs.Ytbmieiffboenbaa

/-- behind a call: a value, and a disk -/
def Is (d : Nat) (M : DM) (v0 : Value) (H : List Grp) : Value → List Grp → Prop := fun v H' => v = v0 ∧ ∃ s : DS, s.ok M ∧ H' = s.G d M ++ H
/-- bytes that lie in memory; none may be nil -/
def BytesV (W0 : World) (H : List Grp) (v : Value) (b : ByteArray) : Prop :=
  ∃ a cap S, v = .slice a b.size cap ∧ Sh a b.size cap ∧ Rd S a (u8s b.data.toList) ∧ ∀ y o, S y o → At W0 H y o
theorem lookN_lt {s : DS} {M : DM} (h : s.ok M) {p : ByteArray} {k : Int} (hl : lookN M.names p = some k) : 0 ≤ k ∧ k.toNat < s.bs.length := by
  have := h.names.lt _ (lookN_mem hl)
  rw [psOf_len] at this; exact this
theorem small_at {M : DM} (hm : Small M) (k : Int) : sizeAt M k ≤ 10000000 := by
  unfold sizeAt bodyAt
  rw [List.getD_eq_getElem?_getD]
  by_cases h : k.toNat < M.bodies.length
  · rw [List.getElem?_eq_getElem h]; exact (hm.size _ (List.getElem_mem h)).1
  · rw [List.getElem?_eq_none (by omega)]; exact Nat.zero_le _
theorem used_small {s : DS} {M : DM} (h : s.ok M) (hm : Small M) : usedM M ≤ 100000000000 :=
  used_le hm fun x hx => by have := (h.names.lt x hx).2; rw [psOf_len] at this; rw [← h.bods.len]; exact this
theorem mget_lk {s : DS} {M : DM} (h : s.ok M) {p : ByteArray} {k : Int} (hl : lookN M.names p = some k) : mget s.nm p = some (.pointer (some ⟨(s.bs.getD k.toNat default).p, 0, none⟩)) := by
  rw [h.names.look, hl, Option.map_some, ptrOf, ps_getD (lookN_lt h hl).2]; rfl
theorem mget_no {s : DS} {M : DM} (h : s.ok M) {p : ByteArray} (hl : lookN M.names p = none) : mget s.nm p = none := by rw [h.names.look, hl]; rfl
theorem was_no {M : DM} {p : ByteArray} (hl : lookN M.names p = none) : wasM M p = 0 := by unfold wasM; rw [hl]
theorem was_yes {s : DS} {M : DM} (h : s.ok M) (hn : (psOf s.bs).Nodup) {p : ByteArray} {k : Int} (hl : lookN M.names p = some k) : wasM M p = szV s.bs (.pointer (some ⟨(s.bs.getD k.toNat default).p, 0, none⟩)) := by
  unfold wasM
  rw [hl]
  have := sz_at h hn (lookN_lt h hl).2
  rw [ptrOf, ps_getD (lookN_lt h hl).2] at this
  exact this.symm
theorem get_at {s : DS} {M : DM} (h : s.ok M) (hn : (psOf s.bs).Nodup) {W0 : World} {H : List Grp} (hH : ∀ x ∈ bodyG s.bs, x ∈ H.flatten) (p : ByteArray) :
    mget s.nm p = none ∨ ∃ q a c kv, mget s.nm p = some (.pointer (some ⟨q, 0, none⟩)) ∧ At W0 H q (.cells #[.slice a (szV s.bs (.pointer (some ⟨q, 0, none⟩))) c, kv] 68 (0, 0)) := by
  cases hl : lookN M.names p with
  | none => exact .inl (mget_no h hl)
  | some k =>
    have hg := mget_lk h hl
    obtain ⟨c, he⟩ := mget_mem hg
    obtain ⟨q, a, c, kv, h1, h2⟩ := names_at h hn hH (W0 := W0) _ he
    injection h1 with h1; injection h1 with h1; injection h1 with h1
    refine .inr ⟨_, a, c, kv, hg, ?_⟩
    rw [← h1] at h2
    exact h2
theorem change1 {ps : List Nat} {q p : Nat} {path : ByteArray} {k : Nat} (hk : k = ps.length) (hq : q = p) : ChangeR (ps ++ [p]) [(path, .pointer (some ⟨q, 0, none⟩), 0)] [(path, (k : Int))] := by
  subst hk hq
  refine ⟨fun x => ?_, by simp, fun y hy _ => by rw [List.mem_singleton.1 hy]; simp⟩
  rw [mget_cons, lookN]
  cases x == path
  · rfl
  · simp [chV, ptrOf, ptrV]
theorem change0 {ps : List Nat} {path : ByteArray} : ChangeR ps [(path, .pointer none, 0)] [(path, -1)] := by
  refine ⟨fun x => ?_, by simp, fun y hy h0 => by rw [List.mem_singleton.1 hy] at h0; exact absurd (show (0 : Int) ≤ -1 from h0) (by decide)⟩
  rw [mget_cons, lookN]
  cases x == path
  · rfl
  · simp [chV]
theorem body_sub {bs : List BE} {H : List Grp} (h : bodyG bs ∈ H) : ∀ x ∈ bodyG bs, x ∈ H.flatten := fun _ hx => List.mem_flatten.2 ⟨_, h, hx⟩

/-- the order of the walk of Write -/
def lowW (s : DS) (M : DM) (d : Nat) (H : List Grp) : List Grp :=
  [(d, dkO M s)] :: [(s.nb, .map (encM s.nm) s.nc)] :: [(s.cb, .map (encM s.cm) s.cc)] :: s.bg :: (rowsG s.rows ++ ([(s.kb, .map (encM s.km) s.kc)] :: bodyG s.bs :: (s.Z ++ H)))
theorem lowW_from {s : DS} {M : DM} {d : Nat} {H : List Grp} {W0 : World} {w : World} (hw : Sat W0 (lowW s M d H) w) : Sat W0 (s.G d M ++ H) w := sat_cnt hw fun _ x => by
  simp only [DS.G, lowW, List.cons_append, List.append_assoc]
  simp only [List.flatten_cons, List.flatten_append, List.count_append]
  omega
theorem lowW_to {s : DS} {M : DM} {d : Nat} {H : List Grp} {W0 : World} {w : World} (hw : Sat W0 (s.G d M ++ H) w) : Sat W0 (lowW s M d H) w := sat_cnt hw fun _ x => by
  simp only [DS.G, lowW, List.cons_append, List.append_assoc]
  simp only [List.flatten_cons, List.flatten_append, List.count_append]
  omega
theorem writeM_err {M : DM} {p b : ByteArray} (h : errM M (rightB p) ≠ 0) : writeM M p b = (errM M (rightB p), callM M (rightB p)) := by unfold writeM; rw [if_pos h]
theorem writeM_full {M : DM} {p b : ByteArray} (h : errM M (rightB p) = 0) (h1 : (usedM M : Int) - (wasM M p : Int) + (b.size : Int) > M.room) : writeM M p b = (61, callM M (rightB p)) := by
  unfold writeM; rw [if_neg (by simpa using h), if_pos h1]
theorem writeM_ok {M : DM} {p b : ByteArray} (h : errM M (rightB p) = 0) (h1 : ¬ (usedM M : Int) - (wasM M p : Int) + (b.size : Int) > M.room) : writeM M p b = (0, changeM { callM M (rightB p) with bodies := M.bodies ++ [⟨b, ByteArray.mk #[]⟩] } (dirB p) [(p, (M.bodies.length : Int))]) := by
  unfold writeM; rw [if_neg (by simpa using h), if_neg h1]
theorem cWrite {s : DS} {M : DM} (h : s.ok M) (hm : Small M) (d : Nat) (path b : ByteArray) (hpath : path.size ≤ 9223372036854775807) (hb : b.size ≤ 1000000000) (W0 : World) (H : List Grp) {bv : Value} (hbv : BytesV W0 H bv b) :
    Tri Try.prog 13 #[.pointer (some ⟨d, 0, none⟩), .string path, bv] W0 (s.G d M ++ H) (Is d (writeM M path b).2 (.int .i64 (writeM M path b).1) H) := by
  refine tri_sat fun ⟨w0, hw0⟩ => ?_
  have hn := ps_nodup hw0
  have hsum := sum_used h hn
  have hus := used_small h hm
  have hsub : ∀ x ∈ bodyG s.bs, x ∈ (rowsG s.rows ++ ([(s.kb, .map (encM s.km) s.kc)] :: bodyG s.bs :: (s.Z ++ H))).flatten := body_sub (by simp)
  have hw : ∀ v, mget s.nm path = some v → szV s.bs v ≤ 1000000000000 := fun v hv => by
    obtain ⟨c, he⟩ := mget_mem hv
    obtain ⟨k, _, hk, h2⟩ := names_ptr h he
    rw [show v = _ from h2, sz_at h hn hk]
    have := small_at hm k
    omega
  have hlen := h.bods.len
  have hmb := hm.bodies
  have hfail : ∀ (e : Int), (writeM M path b).1 = e → (writeM M path b).2 = callM M (rightB path) → ∀ (v : Value) (H1 : List Grp), v = .int .i64 e → H1 = lowW s (callM M (rightB path)) d H → ∃ H2, Is d (writeM M path b).2 (.int .i64 (writeM M path b).1) H v H2 ∧ ∀ w, Sat W0 H1 w → Sat W0 H2 w := by
    intro e e1 e2 v H1 hv hH
    refine ⟨_, ⟨by rw [e1]; exact hv, s, by rw [e2]; exact ok_call h _, rfl⟩, fun w hw => ?_⟩
    rw [hH] at hw
    rw [e2]
    exact lowW_from hw
  have hdone : ∀ (a1 a2 : Option Addr) (n c1 c2 p q : Nat) (g1 bg2 : Grp) (cx : Value) (rows1 : List RW), (writeM M path b).1 = 0 → (writeM M path b).2 = changeM { callM M (rightB path) with bodies := M.bodies ++ [⟨b, ByteArray.mk #[]⟩] } (dirB path) [(path, (M.bodies.length : Int))] →
      b.size = n → Own 5 1 (.slice a1 n c1) g1 n (u8s b.data.toList) → Own 66 1 (.slice a2 (s.bs.length + 1) c2) bg2 (s.bs.length + 1) (s.bs.map (fun b => Value.pointer (some ⟨b.p, 0, none⟩)) ++ [.pointer (some ⟨p, 0, none⟩)]) → RowsOk (mput s.cm s.cc (dirB path) cx) rows1 → RowsAdd s.rows (dirB path) q rows1 →
      ∀ (v : Value) (H1 : List Grp), v = .int .i64 0 → (∀ w, Sat W0 H1 w → Sat W0 ([(d, .cells #[.int .i64 M.room, .slice a2 (s.bs.length + 1) c2, .map (some s.nb), .map (some s.kb), .map (some s.cb), .bool (callS M.fails M.once M.calls (rightB path)).2.1, .bool M.once, .int .i64 (callS M.fails M.once M.calls (rightB path)).2.2] 64 (0, 0))] :: [(s.nb, .map (encM (foldS (s.nm, s.nc) [(path, .pointer (some ⟨p, 0, none⟩), 0)]).1) (foldS (s.nm, s.nc) [(path, .pointer (some ⟨p, 0, none⟩), 0)]).2)] :: [(s.cb, .map (encM (mput s.cm s.cc (dirB path) cx)) (if mhas s.cm (dirB path) then s.cc else s.cc + 1))] :: [(q, .map (encM [(path, .pointer (some ⟨p, 0, none⟩), 0)]) 1)] :: bg2 :: [(p, .cells #[.slice a1 n c1, .slice none 0 0] 68 (0, 0))] :: g1 :: (rowsG rows1 ++ ([(s.kb, .map (encM s.km) s.kc)] :: bodyG s.bs :: (s.Z ++ H)))) w) →
      ∃ H2, Is d (writeM M path b).2 (.int .i64 (writeM M path b).1) H v H2 ∧ ∀ w, Sat W0 H1 w → Sat W0 H2 w := by
    intro a1 a2 n c1 c2 p q g1 bg2 cx rows1 e1 e2 hbn ho1 ho2 hR hA v H1 hv hH
    have k1 := ok_body (ok_call h (rightB path)) hbn ho1 ho2
    have hc : ChangeR (psOf (s.bs ++ [⟨p, a1, n, c1, none, 0, 0⟩])) [(path, .pointer (some ⟨p, 0, none⟩), 0)] [(path, (M.bodies.length : Int))] := by
      rw [show psOf (s.bs ++ [⟨p, a1, n, c1, none, 0, 0⟩]) = psOf s.bs ++ [p] by unfold psOf; rw [List.map_append]; rfl]
      exact change1 (by rw [psOf_len, hlen]) rfl
    have k2 := ok_change (dir := dirB path) k1 (mapok1 _ _) hc (List.Perm.refl _) hR hA
    refine ⟨_, ⟨by rw [e1]; exact hv, _, by rw [e2]; exact k2, rfl⟩, fun w hw => ?_⟩
    rw [e2]
    refine sat_cnt (hH w hw) fun _ x => ?_
    simp only [DS.G, dkO, changeM, callM, bodyG, beO, List.map_append, List.map_cons, List.map_nil, List.length_append, List.length_cons, List.length_nil, Nat.zero_add, List.cons_append, List.append_assoc]
    simp only [List.flatten_cons, List.flatten_append, List.count_append]
    omega
  obtain ⟨a, cap, S, rfl, hsh, hrd, hS⟩ := hbv
  · refine Tri.heap (fun w hw => lowW_to hw) (Tri.post (vWriteAny d s.nb s.kb s.cb s.nc s.cc M.room M.calls _ s.bg _ s.bs.length M.fails M.once s.nm s.cm path (szV s.bs) hpath hm.calls h.nok (by rw [hsum]; omega) hw h.own (by omega) s.rows h.rows (rows_le h hm) a b.size cap S b.data.toList hsh hrd (Array.length_toList) hb W0 ([(s.kb, .map (encM s.km) s.kc)] :: bodyG s.bs :: (s.Z ++ H)) (get_at h hn hsub path) (fun y o hy => at_app2 (.cons (.cons (at_app2 (hS y o hy))))) (names_at h hn hsub)) fun v H1 hr => ?_)
    · rw [hsum] at hr
      rcases hr with ⟨hce, hv, hH⟩ | ⟨hce, hro, hv, hH⟩ | ⟨hce, hro, hv, p, q, a1, c1, a2, c2, cx, rows1, g1, bg2, ho1, ho2, hR, hA, hH⟩
      · exact hfail _ (by rw [writeM_err hce]; rfl) (by rw [writeM_err hce]) v H1 hv hH
      · have hro' : (usedM M : Int) - (wasM M path : Int) + (b.size : Int) > M.room := by
          cases hl : lookN M.names path with
          | none => rw [mget_no h hl] at hro; rw [was_no hl]; exact hro
          | some k => rw [mget_lk h hl] at hro; rw [was_yes h hn hl]; exact hro
        exact hfail 61 (by rw [writeM_full hce hro']) (by rw [writeM_full hce hro']) v H1 hv hH
      · have hro' : ¬ (usedM M : Int) - (wasM M path : Int) + (b.size : Int) > M.room := by
          cases hl : lookN M.names path with
          | none => rw [mget_no h hl] at hro; rw [was_no hl]; exact hro
          | some k => rw [mget_lk h hl] at hro; rw [was_yes h hn hl]; exact hro
        refine hdone a1 a2 b.size c1 c2 p q g1 bg2 cx rows1 (by rw [writeM_ok hce hro']) (by rw [writeM_ok hce hro']) rfl ho1 ho2 hR hA v H1 hv fun w hw => ?_
        rw [hH] at hw
        exact hw
end Go.Vf

namespace Go.Vf
open Go.Sw Go.RowKit Go.Proofs Go.Proofs.Ytbmieiffboenbaa

theorem tlEq {a b : ByteArray} : (a.toList == b.toList) = (a == b) := by
  cases h : a == b
  · rw [beq_eq_false_iff_ne]
    intro he
    rw [baNe] at h
    rw [Lib.toList_data, Lib.toList_data] at he
    refine h ?_
    cases a with | mk a => cases b with | mk b => cases a with | mk a => cases b with | mk b => simpa using he
  · rw [baEq] at h; subst h; exact beq_self_eq_true _
theorem post_call {s : DS} {M M' : DM} {d : Nat} {W0 : World} {H H1 : List Grp} {v v0 : Value} (h : s.ok M) (r : Bool) (hM : M' = callM M r) (hv : v = v0) (hH : ∀ w, Sat W0 H1 w → Sat W0 (s.G d (callM M r) ++ H) w) :
    ∃ H2, Is d M' v0 H v H2 ∧ ∀ w, Sat W0 H1 w → Sat W0 H2 w := ⟨_, ⟨hv, s, by rw [hM]; exact ok_call h r, rfl⟩, fun w hw => by rw [hM]; exact hH w hw⟩
def low3 (s : DS) (M : DM) (d : Nat) (H : List Grp) : List Grp :=
  [(d, dkO M s)] :: [(s.nb, .map (encM s.nm) s.nc)] :: [(s.cb, .map (encM s.cm) s.cc)] :: (rowsG s.rows ++ (s.bg :: [(s.kb, .map (encM s.km) s.kc)] :: bodyG s.bs :: (s.Z ++ H)))
theorem low3_from {s : DS} {M : DM} {d : Nat} {H : List Grp} {W0 : World} {w : World} (hw : Sat W0 (low3 s M d H) w) : Sat W0 (s.G d M ++ H) w := sat_cnt hw fun _ x => by
  simp only [DS.G, low3, List.cons_append, List.append_assoc]
  simp only [List.flatten_cons, List.flatten_append, List.count_append]
  omega
theorem low3_to {s : DS} {M : DM} {d : Nat} {H : List Grp} {W0 : World} {w : World} (hw : Sat W0 (s.G d M ++ H) w) : Sat W0 (low3 s M d H) w := sat_cnt hw fun _ x => by
  simp only [DS.G, low3, List.cons_append, List.append_assoc]
  simp only [List.flatten_cons, List.flatten_append, List.count_append]
  omega
theorem removeM_err {M : DM} {p : ByteArray} (h : errM M (rightB p) ≠ 0) : removeM M p = (errM M (rightB p), callM M (rightB p)) := by unfold removeM; rw [if_pos h]
theorem removeM_no {M : DM} {p : ByteArray} (h : errM M (rightB p) = 0) (hl : lookN M.names p = none) : removeM M p = (60, callM M (rightB p)) := by unfold removeM; rw [if_neg (by simpa using h), hl]
theorem removeM_ok {M : DM} {p : ByteArray} {k : Int} (h : errM M (rightB p) = 0) (hl : lookN M.names p = some k) : removeM M p = (0, changeM (callM M (rightB p)) (dirB p) [(p, -1)]) := by unfold removeM; rw [if_neg (by simpa using h), hl]
theorem cRemove {s : DS} {M : DM} (h : s.ok M) (hm : Small M) (d : Nat) (path : ByteArray) (hpath : path.size ≤ 9223372036854775807) (W0 : World) (H : List Grp) :
    Tri Try.prog 43 #[.pointer (some ⟨d, 0, none⟩), .string path] W0 (s.G d M ++ H) (Is d (removeM M path).2 (.int .i64 (removeM M path).1) H) := by
  cases hl : lookN M.names path with
  | none =>
    refine Tri.heap (fun w hw => low3_to hw) (Tri.post (vRemoveNo d s.nb s.kb s.cb s.nc M.room M.calls _ M.fails M.once s.nm s.cm s.cc h.nok path hpath hm.calls (mget_no h hl) W0 _) fun v H1 hr => ?_)
    rcases hr with ⟨hce, hv, hH⟩ | ⟨hce, hv, hH⟩
    · exact post_call h (rightB path) (by rw [removeM_err hce]) (by rw [removeM_err hce]; exact hv) fun w hw => by rw [hH] at hw; exact low3_from hw
    · exact post_call h (rightB path) (by rw [removeM_no hce hl]) (by rw [removeM_no hce hl]; exact hv) fun w hw => by rw [hH] at hw; exact low3_from hw
  | some k =>
    refine Tri.heap (fun w hw => low3_to hw) (Tri.post (vRemove d s.nb s.kb s.cb s.nc s.cc M.room M.calls _ M.fails M.once s.nm s.cm path hpath hm.calls h.nok s.rows h.rows (rows_le h hm) _ (mget_lk h hl) W0 _) fun v H1 hr => ?_)
    rcases hr with ⟨hce, hv, hH⟩ | ⟨hce, hv, q, cx, rows1, hR, hA, hH⟩
    · exact post_call h (rightB path) (by rw [removeM_err hce]) (by rw [removeM_err hce]; exact hv) fun w hw => by rw [hH] at hw; exact low3_from hw
    · have k2 := ok_change (dir := dirB path) (ok_call h (rightB path)) (mapok1 path _) (change0 (path := path)) (List.Perm.refl _) hR hA
      refine ⟨_, ⟨by rw [removeM_ok hce hl]; exact hv, _, by rw [removeM_ok hce hl]; exact k2, rfl⟩, fun w hw => ?_⟩
      rw [hH] at hw
      rw [removeM_ok hce hl]
      refine sat_cnt hw fun _ x => ?_
      simp only [DS.G, dkO, changeM, callM, List.cons_append, List.append_assoc]
      simp only [List.flatten_cons, List.flatten_append, List.count_append]
      omega
theorem renameM_err {M : DM} {p q : ByteArray} (h : errM M (renR p q) ≠ 0) : renameM M p q = (errM M (renR p q), callM M (renR p q)) := by unfold renameM; rw [if_pos h]
theorem renameM_no {M : DM} {p q : ByteArray} (h : errM M (renR p q) = 0) (hl : lookN M.names p = none) : renameM M p q = (60, callM M (renR p q)) := by unfold renameM; rw [if_neg (by simpa using h), hl]
theorem renameM_same {M : DM} {p q : ByteArray} {k : Int} (h : errM M (renR p q) = 0) (hl : lookN M.names p = some k) (he : (p == q) = true) : renameM M p q = (0, callM M (renR p q)) := by unfold renameM; rw [if_neg (by simpa using h), hl]; simp only; rw [if_pos he]
theorem renameM_ok {M : DM} {p q : ByteArray} {k : Int} (h : errM M (renR p q) = 0) (hl : lookN M.names p = some k) (he : (p == q) = false) : renameM M p q = (0, changeM (callM M (renR p q)) (dirB q) [(p, -1), (q, k)]) := by unfold renameM; rw [if_neg (by simpa using h), hl]; simp only; rw [if_neg (by rw [he]; decide)]
theorem ren_change {ps : List Nat} {path to : ByteArray} {p : Nat} {k : Int} (hne : (path == to) = false) {xm : SM} {xc : Nat} (hc : RenC path to p xm xc) (hk : 0 ≤ k) (hk2 : k.toNat < ps.length) (hp : ptrOf ps k = .pointer (some ⟨p, 0, none⟩)) :
    MapOk xm xc ∧ ChangeR ps xm [(path, -1), (to, k)] := by
  have hne' : (to == path) = false := by rw [baNe] at hne ⊢; exact fun e => hne e.symm
  have hkeys : (([(path, -1), (to, k)] : List Nm).map Prod.fst).Nodup := by
    simp only [List.map_cons, List.map_nil, List.nodup_cons, List.mem_singleton, List.not_mem_nil, not_false_eq_true, List.nodup_nil, and_true]
    rw [baNe] at hne; exact hne
  have hlt : ∀ y ∈ ([(path, -1), (to, k)] : List Nm), 0 ≤ y.2 → y.2.toNat < ps.length := by
    intro y hy h0
    rcases List.mem_cons.1 hy with rfl | hy
    · exact absurd (show (0 : Int) ≤ -1 from h0) (by decide)
    · rw [List.mem_singleton.1 hy]; exact hk2
  have hchk : chV ps k = .pointer (some ⟨p, 0, none⟩) := by unfold chV; rw [if_pos hk]; exact hp
  rcases hc with ⟨rfl, rfl⟩ | ⟨rfl, rfl⟩
  · refine ⟨(mapok1 _ _).put _ _, fun x => ?_, hkeys, hlt⟩
    rw [mget_put, mget_cons, lookN, lookN]
    cases h1 : x == path
    · cases h2 : x == to
      · rfl
      · simp [hchk]
    · simp [chV]
  · refine ⟨(mapok1 _ _).put _ _, fun x => ?_, hkeys, hlt⟩
    rw [mget_put, mget_cons, lookN, lookN]
    cases h1 : x == path
    · cases h2 : x == to
      · rfl
      · simp [hchk]
    · rw [baEq] at h1; subst h1
      simp [hne, chV]
theorem cRename {s : DS} {M : DM} (h : s.ok M) (hm : Small M) (d : Nat) (path to : ByteArray) (hpath : path.size ≤ 9223372036854775807) (hto : to.size ≤ 9223372036854775807) (W0 : World) (H : List Grp) :
    Tri Try.prog 17 #[.pointer (some ⟨d, 0, none⟩), .string path, .string to] W0 (s.G d M ++ H) (Is d (renameM M path to).2 (.int .i64 (renameM M path to).1) H) := by
  cases hl : lookN M.names path with
  | none =>
    refine Tri.heap (fun w hw => low3_to hw) (Tri.post (vRenameNo d s.nb s.kb s.cb s.nc s.cc M.room M.calls _ M.fails M.once s.nm s.cm path to hpath hto hm.calls h.nok s.rows h.rows (rows_le h hm) (mget_no h hl) W0 _) fun v H1 hr => ?_)
    rcases hr with ⟨hce, hv, hH⟩ | ⟨hce, hv, hH⟩
    · exact post_call h (renR path to) (by rw [renameM_err hce]) (by rw [renameM_err hce]; exact hv) fun w hw => by rw [hH] at hw; exact low3_from hw
    · exact post_call h (renR path to) (by rw [renameM_no hce hl]) (by rw [renameM_no hce hl]; exact hv) fun w hw => by rw [hH] at hw; exact low3_from hw
  | some k =>
    refine Tri.heap (fun w hw => low3_to hw) (Tri.post (vRename d s.nb s.kb s.cb s.nc s.cc M.room M.calls _ M.fails M.once s.nm s.cm path to hpath hto hm.calls h.nok s.rows h.rows (rows_le h hm) _ (mget_lk h hl) W0 _) fun v H1 hr => ?_)
    rcases hr with ⟨hce, hv, hH⟩ | ⟨hce, ⟨he, hv, hH⟩ | ⟨he, hv, dn, xm, xc, q, cx, rows1, hC, hd, hR, hA, hH⟩⟩
    · exact post_call h (renR path to) (by rw [renameM_err hce]) (by rw [renameM_err hce]; exact hv) fun w hw => by rw [hH] at hw; exact low3_from hw
    · have he' : (path == to) = true := by rw [tlEq] at he; simpa using he
      exact post_call h (renR path to) (by rw [renameM_same hce hl he']) (by rw [renameM_same hce hl he']; exact hv) fun w hw => by rw [hH] at hw; exact low3_from hw
    · have he' : (path == to) = false := by rw [tlEq] at he; simpa using he
      have hlt := h.names.lt _ (lookN_mem hl)
      obtain ⟨hx, hc⟩ := ren_change (ps := psOf s.bs) he' hC hlt.1 hlt.2 (by rw [ptrOf, ps_getD (lookN_lt h hl).2]; rfl)
      have k2 := ok_change (dir := dirB to) (ok_call h (renR path to)) hx hc hd hR hA
      refine ⟨_, ⟨by rw [renameM_ok hce hl he']; exact hv, _, by rw [renameM_ok hce hl he']; exact k2, rfl⟩, fun w hw => ?_⟩
      rw [hH] at hw
      rw [renameM_ok hce hl he']
      refine sat_cnt hw fun _ x => ?_
      simp only [DS.G, dkO, changeM, callM, renR, List.cons_append, List.append_assoc]
      simp only [List.flatten_cons, List.flatten_append, List.count_append]
      omega
/-! ## calls that change no name -/
theorem cUsed {s : DS} {M : DM} (h : s.ok M) (hm : Small M) (d : Nat) (W0 : World) (H : List Grp) :
    Tri Try.prog 26 #[.pointer (some ⟨d, 0, none⟩)] W0 (s.G d M ++ H) (fun v H' => v = .int .i64 (usedM M : Int) ∧ H' = s.G d M ++ H) := by
  refine tri_sat fun ⟨w0, hw0⟩ => ?_
  have hn := ps_nodup hw0
  have hus := used_small h hm
  have := vUsed d s.nb s.kb s.cb s.nc M.room M.calls (.slice s.ba s.bs.length s.bc) M.fails M.once s.nm (szV s.bs) h.nok (by rw [sum_used h hn]; omega) W0 ([(s.kb, .map (encM s.km) s.kc)] :: [(s.cb, .map (encM s.cm) s.cc)] :: s.bg :: bodyG s.bs :: ((rowsG s.rows ++ s.Z) ++ H)) (names_at h hn (body_sub (by simp)))
  rw [sum_used h hn] at this
  exact this
theorem cFail {s : DS} {M : DM} (h : s.ok M) (d : Nat) (n : Int) (o : Bool) (W0 : World) (H : List Grp) :
    Tri Try.prog 16 #[.pointer (some ⟨d, 0, none⟩), .int .i64 n, .bool o] W0 (s.G d M ++ H) (Is d (failM M n o) (.tuple #[]) H) := by
  refine (vFail d s.nb s.kb s.cb M.room M.calls (.slice s.ba s.bs.length s.bc) M.fails M.once n o W0 _).mono fun v H' ⟨hv, hH⟩ => ⟨hv, s, ⟨h.own, h.nok, h.kok, h.cok, h.names, h.kept, h.rows, h.chs, h.bods⟩, hH⟩
theorem cNew (room : Int) (W0 : World) (H : List Grp) : Tri Try.prog 12 #[.int .i64 room] W0 H (fun v H' => ∃ d, v = .pointer (some ⟨d, 0, none⟩) ∧ ∃ s : DS, s.ok (newM room) ∧ H' = s.G d (newM room) ++ H) := by
  refine Tri.post (vNew room W0 H) fun v H1 ⟨d, nb, kb, cb, hv, hH⟩ => ?_
  have h0 : MapOk [] 0 := ⟨List.Pairwise.nil, List.nodup_nil, fun _ h => absurd h List.not_mem_nil⟩
  have hN : NamesR [] [] [] := ⟨fun _ => rfl, List.nodup_nil, fun _ h => absurd h List.not_mem_nil⟩
  refine ⟨_, ⟨d, hv, ⟨nb, kb, cb, [], [], [], 0, 0, 0, none, 0, [], [], [], []⟩, ⟨Own.nil, h0, h0, h0, hN, hN, ⟨rfl, fun _ h => absurd h List.not_mem_nil⟩, fun _ => .nil, .nil⟩, rfl⟩, fun w hw => ?_⟩
  rw [hH] at hw
  refine sat_cnt hw fun _ x => ?_
  simp only [DS.G, dkO, newM, bodyG, rowsG, List.map_nil, List.length_nil, List.nil_append, List.cons_append]
  simp only [List.flatten_cons, List.count_append, List.count_nil]
  omega
end Go.Vf

namespace Go.Vf
open Go.Sw Go.RowKit Go.Proofs Go.Proofs.Ytbmieiffboenbaa

theorem sortL_pw (l : List (List UInt8)) : (l.mergeSort fun x y => decide (x ≤ y)).Pairwise fun a b => a ≤ b := by
  have := List.pairwise_mergeSort (le := fun x y : List UInt8 => decide (x ≤ y)) (fun a b c h1 h2 => by
    rw [decide_eq_true_eq] at h1 h2 ⊢; exact List.le_trans h1 h2) (fun a b => by
    rw [Bool.or_eq_true, decide_eq_true_eq, decide_eq_true_eq]; exact List.le_total a b) l
  exact this.imp fun h => by rwa [decide_eq_true_eq] at h
theorem sortB_congr {a b : List ByteArray} (h : a.Perm b) : sortB a = sortB b := by
  unfold sortB
  have hp : ((a.map fun s => s.data.toList).mergeSort fun x y => decide (x ≤ y)).Perm ((b.map fun s => s.data.toList).mergeSort fun x y => decide (x ≤ y)) :=
    (List.mergeSort_perm _ _).trans ((h.map _).trans (List.mergeSort_perm _ _).symm)
  rw [hp.eq_of_pairwise (le := fun a b => a ≤ b) (fun a b _ _ h1 h2 => List.le_antisymm h1 h2) (sortL_pw _) (sortL_pw _)]
theorem split_at {l : List BE} : ∀ {k : Nat}, k < l.length → ∃ A C, l = A ++ l.getD k default :: C ∧ ∀ b, l.set k b = A ++ b :: C := by
  induction l with
  | nil => intro k h; simp at h
  | cons x l ih =>
    intro k h
    cases k with
    | zero => exact ⟨[], l, rfl, fun _ => rfl⟩
    | succ k =>
      obtain ⟨A, C, h1, h2⟩ := ih (k := k) (by simpa using h)
      refine ⟨x :: A, C, ?_, fun b => ?_⟩
      · rw [List.getD_cons_succ, List.cons_append, ← h1]
      · rw [List.set_cons_succ, h2]; rfl
theorem bodyG_app (A C : List BE) (b : BE) : bodyG (A ++ b :: C) = bodyG A ++ ([beO b] ++ bodyG C) := by unfold bodyG; simp
theorem psOf_set {bs : List BE} {k : Nat} {b : BE} (hk : k < bs.length) (hb : b.p = (bs.getD k default).p) : psOf (bs.set k b) = psOf bs := by
  obtain ⟨A, C, h1, h2⟩ := split_at hk
  rw [h2]
  have h3 := congrArg psOf h1
  rw [h3]
  unfold psOf
  rw [List.map_append, List.map_append, List.map_cons, List.map_cons, hb]
theorem ok_set {s : DS} {M : DM} (h : s.ok M) {k : Int} {b : BE} {B : Body} (K : List Grp) (hk : k.toNat < s.bs.length) (hb : BodyR (inZ (K ++ s.Z)) b B) (hp : b.p = (s.bs.getD k.toNat default).p) :
    DS.ok { s with bs := s.bs.set k.toNat b, Z := K ++ s.Z } (setBody M k B) := by
  have hps := psOf_set hk hp
  refine ⟨?_, h.nok, h.kok, h.cok, ?_, ?_, h.rows, fun d => ?_, (h.bods.imp fun b B hb => hb.mono fun y o h => inZ_app h).set hb _⟩
  · have e : (s.bs.set k.toNat b).map (fun b => Value.pointer (some ⟨b.p, 0, none⟩)) = s.bs.map fun b => Value.pointer (some ⟨b.p, 0, none⟩) := by
      have e1 : ∀ l : List BE, l.map (fun b => Value.pointer (some ⟨b.p, 0, none⟩)) = (psOf l).map fun p => Value.pointer (some ⟨p, 0, none⟩) := fun l => by unfold psOf; rw [List.map_map]; rfl
      rw [e1, e1, hps]
    simp only [List.length_set]
    rw [e]; exact h.own
  · rw [hps]; exact h.names
  · rw [hps]; exact h.kept
  · rw [hps]; exact (h.chs d).imp fun q l hq => qr_mono hq
def lowP (s : DS) (M : DM) (d : Nat) (H : List Grp) (A C : List BE) (b : BE) : List Grp :=
  [(d, dkO M s)] :: [(s.nb, .map (encM s.nm) s.nc)] :: [beO b] :: (bodyG A :: bodyG C :: [(s.kb, .map (encM s.km) s.kc)] :: [(s.cb, .map (encM s.cm) s.cc)] :: s.bg :: (rowsG s.rows ++ (s.Z ++ H)))
theorem lowP_to {s : DS} {M : DM} {d : Nat} {H : List Grp} {A C : List BE} {b : BE} (hb : s.bs = A ++ b :: C) {W0 : World} {w : World} (hw : Sat W0 (s.G d M ++ H) w) : Sat W0 (lowP s M d H A C b) w := sat_cnt hw fun _ x => by
  simp only [DS.G, lowP, List.cons_append, List.append_assoc]
  simp only [List.flatten_cons, List.flatten_append, List.count_append, hb, bodyG_app]
  omega
theorem lowP_from {s : DS} {M : DM} {d : Nat} {H : List Grp} {A C : List BE} {b : BE} (hb : s.bs = A ++ b :: C) {W0 : World} {w : World} (hw : Sat W0 (lowP s M d H A C b) w) : Sat W0 (s.G d M ++ H) w := sat_cnt hw fun _ x => by
  simp only [DS.G, lowP, List.cons_append, List.append_assoc]
  simp only [List.flatten_cons, List.flatten_append, List.count_append, hb, bodyG_app]
  omega
theorem syncM_err {M : DM} {p : ByteArray} (h : errM M (rightB p) ≠ 0) : syncM M p = (errM M (rightB p), callM M (rightB p)) := by unfold syncM; rw [if_pos h]
theorem syncM_no {M : DM} {p : ByteArray} (h : errM M (rightB p) = 0) (hl : lookN M.names p = none) : syncM M p = (60, callM M (rightB p)) := by unfold syncM; rw [if_neg (by simpa using h), hl]
theorem syncM_ok {M : DM} {p : ByteArray} {k : Int} (h : errM M (rightB p) = 0) (hl : lookN M.names p = some k) : syncM M p = (0, setBody (callM M (rightB p)) k ⟨(bodyAt M k).now, (bodyAt M k).now⟩) := by unfold syncM; rw [if_neg (by simpa using h), hl]
theorem low2_from {s : DS} {M : DM} {d : Nat} {H : List Grp} {W0 : World} {w : World} (hw : Sat W0 (s.G d M ++ H) w) : Sat W0 ([(d, dkO M s)] :: [(s.nb, .map (encM s.nm) s.nc)] :: ([(s.kb, .map (encM s.km) s.kc)] :: [(s.cb, .map (encM s.cm) s.cc)] :: s.bg :: bodyG s.bs :: ((rowsG s.rows ++ s.Z) ++ H))) w := hw
theorem cSync {s : DS} {M : DM} (h : s.ok M) (hm : Small M) (d : Nat) (path : ByteArray) (hpath : path.size ≤ 9223372036854775807) (W0 : World) (H : List Grp) :
    Tri Try.prog 14 #[.pointer (some ⟨d, 0, none⟩), .string path] W0 (s.G d M ++ H) (Is d (syncM M path).2 (.int .i64 (syncM M path).1) H) := by
  cases hl : lookN M.names path with
  | none =>
    refine Tri.post (vSyncNo d s.nb s.kb s.cb s.nc M.room M.calls (.slice s.ba s.bs.length s.bc) M.fails M.once s.nm path hpath hm.calls (mget_no h hl) W0 _) fun v H1 hr => ?_
    rcases hr with ⟨hce, hv, hH⟩ | ⟨hce, hv, hH⟩
    · exact post_call h (rightB path) (by rw [syncM_err hce]) (by rw [syncM_err hce]; exact hv) fun w hw => by rw [hH] at hw; exact hw
    · exact post_call h (rightB path) (by rw [syncM_no hce hl]) (by rw [syncM_no hce hl]; exact hv) fun w hw => by rw [hH] at hw; exact hw
  | some k =>
    have hk := (lookN_lt h hl).2
    obtain ⟨A, C, hs, hset⟩ := split_at hk
    have hB := h.bods.get default default _ hk
    refine Tri.heap (fun w hw => lowP_to hs hw) (Tri.post (vSyncYes d s.nb s.kb s.cb s.nc M.room M.calls (.slice s.ba s.bs.length s.bc) M.fails M.once s.nm path hpath hm.calls (s.bs.getD k.toNat default).p _ _ _ _ _ _ (mget_lk h hl) W0 _) fun v H1 hr => ?_)
    rcases hr with ⟨hce, hv, hH⟩ | ⟨hce, hv, hH⟩
    · exact post_call h (rightB path) (by rw [syncM_err hce]) (by rw [syncM_err hce]; exact hv) fun w hw => by rw [hH] at hw; exact lowP_from hs hw
    · have k2 := ok_set (k := k) (b := ⟨(s.bs.getD k.toNat default).p, (s.bs.getD k.toNat default).an, (s.bs.getD k.toNat default).n, (s.bs.getD k.toNat default).cn, (s.bs.getD k.toNat default).an, (s.bs.getD k.toNat default).n, (s.bs.getD k.toNat default).cn⟩) (B := ⟨(bodyAt M k).now, (bodyAt M k).now⟩) (ok_call h (rightB path)) [] hk ⟨hB.n, hB.cn, hB.an, hB.now, hB.n, hB.cn, hB.an, hB.now⟩ rfl
      refine ⟨_, ⟨by rw [syncM_ok hce hl]; exact hv, _, by rw [syncM_ok hce hl]; exact k2, rfl⟩, fun w hw => ?_⟩
      rw [hH] at hw
      rw [syncM_ok hce hl]
      refine sat_cnt hw fun _ x => ?_
      simp only [DS.G, dkO, setBody, callM, List.cons_append, List.append_assoc, List.length_set]
      simp only [List.flatten_cons, List.flatten_append, List.count_append, List.nil_append, hset, bodyG_app]
      simp only [beO]
      omega
theorem appendM_err {M : DM} {p b : ByteArray} (h : errM M (rightB p) ≠ 0) : appendM M p b = (errM M (rightB p), callM M (rightB p)) := by unfold appendM; rw [if_pos h]
theorem appendM_no {M : DM} {p b : ByteArray} (h : errM M (rightB p) = 0) (hl : lookN M.names p = none) : appendM M p b = (60, callM M (rightB p)) := by unfold appendM; rw [if_neg (by simpa using h), hl]
theorem appendM_full {M : DM} {p b : ByteArray} {k : Int} (h : errM M (rightB p) = 0) (hl : lookN M.names p = some k) (hr : (usedM M : Int) + (b.size : Int) > M.room) : appendM M p b = (61, callM M (rightB p)) := by unfold appendM; rw [if_neg (by simpa using h), hl]; simp only; rw [if_pos hr]
theorem appendM_ok {M : DM} {p b : ByteArray} {k : Int} (h : errM M (rightB p) = 0) (hl : lookN M.names p = some k) (hr : ¬ (usedM M : Int) + (b.size : Int) > M.room) : appendM M p b = (0, setBody (callM M (rightB p)) k ⟨(bodyAt M k).now ++ b, (bodyAt M k).kept⟩) := by unfold appendM; rw [if_neg (by simpa using h), hl]; simp only; rw [if_neg hr]
theorem u8s_app (a b : ByteArray) : u8s (a ++ b).data.toList = u8s a.data.toList ++ u8s b.data.toList := by
  unfold u8s
  rw [ByteArray.data_append, Array.toList_append, List.map_append]
theorem cAppend {s : DS} {M : DM} (h : s.ok M) (hm : Small M) (d : Nat) (path b : ByteArray) (hpath : path.size ≤ 9223372036854775807) (hb : b.size ≤ 1000000000) (W0 : World) (H : List Grp) {bv : Value} (hbv : BytesV W0 H bv b) :
    Tri Try.prog 22 #[.pointer (some ⟨d, 0, none⟩), .string path, bv] W0 (s.G d M ++ H) (Is d (appendM M path b).2 (.int .i64 (appendM M path b).1) H) := by
  refine tri_sat fun ⟨w0, hw0⟩ => ?_
  have hn := ps_nodup hw0
  have hsum := sum_used h hn
  have hus := used_small h hm
  cases hl : lookN M.names path with
  | none =>
    obtain ⟨a, cap, S, rfl, hsh, hrd, hS⟩ := hbv
    · refine Tri.post (vAppendNoAny d s.nb s.kb s.cb s.nc M.room M.calls (.slice s.ba s.bs.length s.bc) M.fails M.once s.nm path hpath hm.calls a b.size cap (mget_no h hl) W0 _) fun v H1 hr => ?_
      rcases hr with ⟨hce, hv, hH⟩ | ⟨hce, hv, hH⟩
      · exact post_call h (rightB path) (by rw [appendM_err hce]) (by rw [appendM_err hce]; exact hv) fun w hw => by rw [hH] at hw; exact hw
      · exact post_call h (rightB path) (by rw [appendM_no hce hl]) (by rw [appendM_no hce hl]; exact hv) fun w hw => by rw [hH] at hw; exact hw
  | some k =>
    have hk := (lookN_lt h hl).2
    obtain ⟨A, C, hs, hset⟩ := split_at hk
    have hB := h.bods.get default default _ hk
    have hsz : (s.bs.getD k.toNat default).n ≤ 1000000000 := by rw [hB.n]; have := small_at hm k; unfold sizeAt bodyAt at this; omega
    have hat := names_at h hn (W0 := W0) (H := [beO (s.bs.getD k.toNat default)] :: (bodyG A :: bodyG C :: [(s.kb, .map (encM s.km) s.kc)] :: [(s.cb, .map (encM s.cm) s.cc)] :: s.bg :: (rowsG s.rows ++ (s.Z ++ H)))) (fun x hx => by
      rw [hs, bodyG_app] at hx
      simp only [List.flatten_cons, List.mem_append] at hx ⊢
      rcases hx with hx | hx | hx
      · exact .inr (.inl hx)
      · exact .inl hx
      · exact .inr (.inr (.inl hx)))
    have hz : ∀ y o, inZ s.Z y o → At W0 (bodyG A :: bodyG C :: [(s.kb, .map (encM s.km) s.kc)] :: [(s.cb, .map (encM s.cm) s.cc)] :: s.bg :: (rowsG s.rows ++ (s.Z ++ H))) y o := fun y o hy => .cons (.cons (.cons (.cons (.cons (at_app2 (.inr (by rw [List.flatten_append]; exact List.mem_append_left _ hy)))))))
    have hdone : ∀ (n' : Nat) (a' : Option Addr) (cap' : Nat) (g : Grp), n' = ((bodyAt M k).now ++ b).size → n' ≤ cap' → ((a' = none ∧ n' = 0 ∧ cap' = 0) ∨ ∃ b off, a' = some ⟨b, off, none⟩) → Rd (inZ ([g] ++ s.Z)) a' (u8s ((bodyAt M k).now ++ b).data.toList) → appendM M path b = (0, setBody (callM M (rightB path)) k ⟨(bodyAt M k).now ++ b, (bodyAt M k).kept⟩) →
        ∀ (v : Value) (H1 : List Grp), v = .int .i64 0 → (∀ w, Sat W0 H1 w → Sat W0 ([(d, .cells #[.int .i64 M.room, .slice s.ba s.bs.length s.bc, .map (some s.nb), .map (some s.kb), .map (some s.cb), .bool (callS M.fails M.once M.calls (rightB path)).2.1, .bool M.once, .int .i64 (callS M.fails M.once M.calls (rightB path)).2.2] 64 (0, 0))] :: [(s.nb, .map (encM s.nm) s.nc)] :: [((s.bs.getD k.toNat default).p, .cells #[.slice a' n' cap', .slice (s.bs.getD k.toNat default).ak (s.bs.getD k.toNat default).m (s.bs.getD k.toNat default).ck] 68 (0, 0))] :: g :: (bodyG A :: bodyG C :: [(s.kb, .map (encM s.km) s.kc)] :: [(s.cb, .map (encM s.cm) s.cc)] :: s.bg :: (rowsG s.rows ++ (s.Z ++ H)))) w) →
        ∃ H2, Is d (appendM M path b).2 (.int .i64 (appendM M path b).1) H v H2 ∧ ∀ w, Sat W0 H1 w → Sat W0 H2 w := by
      intro n' a' cap' g hn' hc' ha' hrd' he v H1 hv hH
      have k2 := ok_set (k := k) (b := ⟨(s.bs.getD k.toNat default).p, a', n', cap', (s.bs.getD k.toNat default).ak, (s.bs.getD k.toNat default).m, (s.bs.getD k.toNat default).ck⟩) (B := ⟨(bodyAt M k).now ++ b, (bodyAt M k).kept⟩) (ok_call h (rightB path)) [g] hk ⟨hn', hc', ha', hrd', hB.m, hB.cm, hB.am, hB.kept.mono fun y o h => inZ_app h⟩ rfl
      refine ⟨_, ⟨by rw [he]; exact hv, _, by rw [he]; exact k2, rfl⟩, fun w hw => ?_⟩
      rw [he]
      refine sat_cnt (hH w hw) fun _ x => ?_
      simp only [DS.G, dkO, setBody, callM, List.cons_append, List.append_assoc, List.length_set]
      simp only [List.flatten_cons, List.flatten_append, List.count_append, List.nil_append, hset, bodyG_app]
      simp only [beO]
      omega
    have hZg : ∀ (g : Grp) (S : Nat → Obj → Prop) (a' : Option Addr) (cs : List Value), (∀ y o, S y o → inZ s.Z y o) → Rd (fun y o => S y o ∨ inG g y o) a' cs → Rd (inZ ([g] ++ s.Z)) a' cs := fun g S a' cs hS hr => hr.mono fun y o h => by
      rcases h with h | h
      · exact inZ_app (hS y o h)
      · show (y, o) ∈ List.flatten (g :: s.Z)
        rw [List.flatten_cons]; exact List.mem_append_left _ h
    obtain ⟨aa, cap, S, rfl, hsh, hrd, hS⟩ := hbv
    have hao : aa = none → b.size = 0 := fun he => by
      rcases hsh with h | ⟨ad, h, _⟩ | ⟨q, off, h⟩
      · exact h.2.1
      · rw [he] at h; cases h
      · rw [he] at h; cases h
    · refine Tri.heap (fun w hw => lowP_to hs hw) (Tri.post (vAppendAny d s.nb s.kb s.cb s.nc M.room M.calls (.slice s.ba s.bs.length s.bc) M.fails M.once s.nm path hpath hm.calls aa b.size cap (szV s.bs) h.nok (by rw [hsum]; omega) (s.bs.getD k.toNat default).p _ _ _ _ _ _ (mget_lk h hl) (inZ s.Z) _ hB.now (by rw [hB.n]; exact Array.length_toList) hsz hB.cn hB.an S b.data.toList hao hrd Array.length_toList hb W0 _ hz (fun y o hy => .cons (.cons (.cons (.cons (.cons (at_app2 (at_app2 (hS y o hy)))))))) hat) fun v H1 hr => ?_)
      rw [hsum] at hr
      rcases hr with ⟨hce, hv, hH⟩ | ⟨hce, hro, hv, hH⟩ | ⟨hce, hro, hv, a', cap', g, hc', ha', hrd', hH⟩
      · exact post_call h (rightB path) (by rw [appendM_err hce]) (by rw [appendM_err hce]; exact hv) fun w hw => by rw [hH] at hw; exact lowP_from hs hw
      · exact post_call h (rightB path) (by rw [appendM_full hce hl hro]) (by rw [appendM_full hce hl hro]; exact hv) fun w hw => by rw [hH] at hw; exact lowP_from hs hw
      · refine hdone _ a' cap' g ?_ hc' ha' ?_ (appendM_ok hce hl hro) v H1 hv fun w hw => by rw [hH] at hw; exact hw
        · rw [ByteArray.size_append, hB.n]; rfl
        · rw [u8s_app]; exact hZg g _ _ _ (fun _ _ h => h) hrd'
end Go.Vf

namespace Go.Vf
open Go.Sw Go.RowKit Go.Proofs Go.Proofs.Ytbmieiffboenbaa

theorem readM_no {M : DM} {p : ByteArray} (hl : lookN M.names p = none) : readM M p = (ByteArray.mk #[], 60) := by unfold readM; rw [hl]
theorem readM_ok {M : DM} {p : ByteArray} {k : Int} (hl : lookN M.names p = some k) : readM M p = ((bodyAt M k).now, 0) := by unfold readM; rw [hl]
theorem cRead {s : DS} {M : DM} (h : s.ok M) (hm : ∀ B ∈ M.bodies, B.now.size ≤ 10000000) (d : Nat) (path : ByteArray) (W0 : World) (H : List Grp) :
    Tri Try.prog 19 #[.pointer (some ⟨d, 0, none⟩), .string path] W0 (s.G d M ++ H) (fun v H' => ∃ x g, v = .tuple #[x, .int .i64 (readM M path).2] ∧ Own 5 1 x g (readM M path).1.size (u8s (readM M path).1.data.toList) ∧ H' = g :: (s.G d M ++ H)) := by
  cases hl : lookN M.names path with
  | none =>
    rw [readM_no hl]
    refine Tri.post (vReadNo d s.nb s.kb s.cb s.nc M.room M.calls (.slice s.ba s.bs.length s.bc) M.fails M.once s.nm path (mget_no h hl) W0 _) fun v H1 ⟨hv, hH⟩ => ⟨_, ⟨_, [], hv, Own.nil, rfl⟩, fun w hw => ?_⟩
    rw [hH] at hw
    exact flat_nil' (A := []) hw
  | some k =>
    rw [readM_ok hl]
    have hk := (lookN_lt h hl).2
    have hB := h.bods.get default default _ hk
    have hsz : (s.bs.getD k.toNat default).n ≤ 1000000000 := by
      rw [hB.n, List.getD_eq_getElem?_getD, List.getElem?_eq_getElem (by rw [← h.bods.len]; exact hk)]
      have := hm _ (List.getElem_mem (by rw [← h.bods.len]; exact hk))
      simp only [Option.getD_some]
      omega
    have hp : At W0 ([(s.kb, .map (encM s.km) s.kc)] :: [(s.cb, .map (encM s.cm) s.cc)] :: s.bg :: bodyG s.bs :: ((rowsG s.rows ++ s.Z) ++ H)) (s.bs.getD k.toNat default).p (.cells #[.slice (s.bs.getD k.toNat default).an (s.bs.getD k.toNat default).n (s.bs.getD k.toNat default).cn, .slice (s.bs.getD k.toNat default).ak (s.bs.getD k.toNat default).m (s.bs.getD k.toNat default).ck] 68 (0, 0)) :=
      .cons (.cons (.cons (At.mem List.mem_cons_self (List.mem_of_getElem? (bodyG_at hk)))))
    have hz : ∀ y o, inZ s.Z y o → At W0 ([(s.kb, .map (encM s.km) s.kc)] :: [(s.cb, .map (encM s.cm) s.cc)] :: s.bg :: bodyG s.bs :: ((rowsG s.rows ++ s.Z) ++ H)) y o := fun y o hy => .cons (.cons (.cons (.cons (.inr (by rw [List.flatten_append, List.flatten_append]; exact List.mem_append_left _ (List.mem_append_right _ hy))))))
    have hlen : (bodyAt M k).now.data.toList.length = (s.bs.getD k.toNat default).n := by rw [hB.n]; exact Array.length_toList
    have hnow := hB.now
    have hn0 := hB.n
    rcases hB.an with ⟨h1, h2, h3⟩ | ⟨b, off, h1⟩
    · rw [h1, h2, h3] at hp
      have he : (bodyAt M k).now = ByteArray.mk #[] := by
        have h0 : (bodyAt M k).now.size = 0 := by rw [← h2]; exact hn0.symm
        generalize (bodyAt M k).now = x at h0
        cases x with | mk d =>
        have : d = #[] := Array.eq_empty_of_size_eq_zero h0
        rw [this]
      rw [he]
      refine Tri.post (vReadNil d s.nb s.kb s.cb s.nc M.room M.calls (.slice s.ba s.bs.length s.bc) M.fails M.once s.nm path _ _ (mget_lk h hl) W0 _ hp) fun v H1 ⟨hv, hH⟩ => ⟨_, ⟨_, [], hv, Own.nil, rfl⟩, fun w hw => ?_⟩
      rw [hH] at hw
      exact flat_nil' (A := []) hw
    · rw [h1] at hp hnow
      refine (vReadYes d s.nb s.kb s.cb s.nc M.room M.calls (.slice s.ba s.bs.length s.bc) M.fails M.once s.nm path b off (s.bs.getD k.toNat default).n (s.bs.getD k.toNat default).cn (inZ s.Z) _ hnow hlen hsz _ _ (mget_lk h hl) W0 _ hz hp).mono fun v H' ⟨x, g, hv, ho, hH⟩ => ⟨x, g, hv, ?_, hH⟩
      rw [hn0] at ho
      exact ho
theorem listK_perm {d : ByteArray} {dn : SM} {names : List Nm} {ps : List Nat} {nm : SM} {nc : Nat} (hn : NamesR ps nm names) (ho : MapOk nm nc) (hd : dn.Perm nm) : (listK d dn).Perm ((names.filter fun n => (dirB n.1).toList == d.toList).map Prod.fst) := by
  have h1 : (nm.map Prod.fst).Perm (names.map Prod.fst) := by
    have := (names_perm hn ho).map Prod.fst
    rw [List.map_map, List.map_map] at this
    exact this
  have h2 : (dn.map Prod.fst).Perm (names.map Prod.fst) := (hd.map _).trans h1
  have h3 := h2.filter fun p => (dirB p).toList == d.toList
  rw [List.filter_map, List.filter_map] at h3
  exact h3
theorem cList {s : DS} {M : DM} (h : s.ok M) (hm : Small M) (d : Nat) (dir : ByteArray) (W0 : World) (H : List Grp) :
    Tri Try.prog 21 #[.pointer (some ⟨d, 0, none⟩), .string dir] W0 (s.G d M ++ H) (fun v H' => ∃ g, Own 9 1 v g (listM M dir).length (strs (listM M dir)) ∧ H' = g :: (s.G d M ++ H)) := by
  have hp := names_perm h.names h.nok
  have hlen : s.nm.length ≤ 1000000 := by
    have := hp.length_eq
    rw [List.length_map, List.length_map] at this
    have := hm.names
    omega
  have hks : ∀ e ∈ s.nm, e.1.size ≤ 9223372036854775807 := fun e he => by
    obtain ⟨k, hk, _⟩ := names_ptr h he
    have := hm.paths _ (lookN_mem hk)
    simp only at this
    omega
  refine Tri.post (vList d s.nb s.kb s.cb s.nc M.room M.calls (.slice s.ba s.bs.length s.bc) M.fails M.once s.nm dir h.nok hks hlen W0 ([(s.kb, .map (encM s.km) s.kc)] :: [(s.cb, .map (encM s.cm) s.cc)] :: s.bg :: bodyG s.bs :: ((rowsG s.rows ++ s.Z) ++ H))) fun v H1 ⟨dn, g, hd, ho, hH⟩ => ?_
  have hq := listK_perm (d := dir) h.names h.nok hd
  have e1 : sortB (listK dir dn) = listM M dir := sortB_congr hq
  have e2 : (listK dir dn).length = (listM M dir).length := by rw [← e1, sortB_len]
  rw [e1, e2] at ho
  refine ⟨_, ⟨g, ho, rfl⟩, fun w hw => ?_⟩
  rw [hH] at hw
  refine sat_cnt hw fun _ x => ?_
  simp only [DS.G, dkO, List.cons_append, List.append_assoc]
  simp only [List.flatten_cons, List.flatten_append, List.count_append]
  omega
/-! ## SyncDir -/
theorem chOf_filter {l : List Ch} {d d' : ByteArray} : chOf (l.filter fun c => !(d == c.dir)) d' = if d' == d then [] else chOf l d' := by
  unfold chOf
  induction l with
  | nil => simp
  | cons c l ih =>
    rw [List.filter_cons]
    cases h1 : d == c.dir
    · simp only [Bool.not_false, if_true]
      rw [List.filter_cons, List.filter_cons]
      cases h2 : d' == c.dir
      · simp only [Bool.false_eq_true, if_false]; exact ih
      · simp only [if_true, List.map_cons, ih]
        rw [baEq] at h2; subst h2
        rw [if_neg, if_neg]
        · intro h; rw [baEq] at h; rw [baNe] at h1; exact h1 h.symm
        · intro h; rw [baEq] at h; rw [baNe] at h1; exact h1 h.symm
    · simp only [Bool.not_true, Bool.false_eq_true, if_false, ih]
      rw [baEq] at h1; subst h1
      rw [List.filter_cons]
      cases h2 : d' == c.dir <;> simp only [Bool.false_eq_true, if_false, if_true]
theorem mdel_none {m : SM} {k : ByteArray} (h : mget m k = none) : mdel m k = m := by
  induction m with
  | nil => rfl
  | cons e m ih =>
    have h := mget_none.1 h
    rw [mdel, if_neg (by rw [h e List.mem_cons_self]; decide), ih (mget_none.2 fun x hx => h x (List.mem_cons_of_mem _ hx))]
theorem syncDirM_err {M : DM} {p : ByteArray} (h : errM M (dirR p) ≠ 0) : syncDirM M p = (errM M (dirR p), callM M (dirR p)) := by unfold syncDirM; rw [if_pos h]
theorem syncDirM_ok {M : DM} {p : ByteArray} (h : errM M (dirR p) = 0) : syncDirM M p = (0, { callM M (dirR p) with kept := (chOf M.changes p).foldl applyN M.kept, changes := M.changes.filter fun c => !(p == c.dir) }) := by unfold syncDirM; rw [if_neg (by simpa using h)]
theorem all2_none {α β : Type} {R : α → β → Prop} {l : List β} (h : All2 R [] l) : l = [] := by cases h; rfl
theorem filter_none {l : List Ch} {d : ByteArray} (h : chOf l d = []) : l.filter (fun c => !(d == c.dir)) = l := by
  unfold chOf at h
  rw [List.map_eq_nil_iff, List.filter_eq_nil_iff] at h
  exact List.filter_eq_self.2 fun c hc => by have := h c hc; simpa using this
/-- what the blocks of a row hold -/
theorem row_read {Z : List Grp} {ps : List Nat} {qs : List Nat} {ls : List (List Nm)} (h : All2 (QR Z ps) qs ls) : ∃ (xs : List SM) (xcs : List Nat), xs.length = qs.length ∧ All2 (fun x l => (∃ c, MapOk x c) ∧ ChangeR ps x l) xs ls ∧
    ∀ i, i < qs.length → inZ Z (qs.getD i 0) (.map (encM (xs.getD i [])) (xcs.getD i 0)) ∧ MapOk (xs.getD i []) (xcs.getD i 0) ∧ ∀ e ∈ xs.getD i [], e.2.1 = .pointer none ∨ ∃ p, e.2.1 = .pointer (some ⟨p, 0, none⟩) := by
  induction h with
  | nil => exact ⟨[], [], rfl, .nil, fun i h => by simp at h⟩
  | cons hq _ ih =>
    obtain ⟨x, c, h1, h2, h3⟩ := hq
    obtain ⟨xs, xcs, e1, e2, e3⟩ := ih
    refine ⟨x :: xs, c :: xcs, by simp [e1], .cons ⟨⟨c, h2⟩, h3⟩ e2, fun i hi => ?_⟩
    cases i with
    | zero =>
      refine ⟨h1, h2, fun e he => ?_⟩
      obtain ⟨p, v, n⟩ := e
      have := mget_of h2.nodup he
      rw [h3.look] at this
      obtain ⟨k, _, hk⟩ := Option.map_eq_some_iff.1 this
      simp only
      rw [← hk]
      unfold chV
      split
      · exact .inr ⟨_, rfl⟩
      · exact .inl rfl
    | succ i => exact e3 i (by simpa using hi)
theorem cSyncDir {s : DS} {M : DM} (h : s.ok M) (hm : Small M) (d : Nat) (dir : ByteArray) (hdir : dir.size ≤ 9223372036854775807) (W0 : World) (H : List Grp) :
    Tri Try.prog 15 #[.pointer (some ⟨d, 0, none⟩), .string dir] W0 (s.G d M ++ H) (Is d (syncDirM M dir).2 (.int .i64 (syncDirM M dir).1) H) := by
  have hto : ∀ {s : DS} {M : DM} {w : World}, Sat W0 (s.G d M ++ H) w → Sat W0 ([(d, dkO M s)] :: [(s.kb, .map (encM s.km) s.kc)] :: [(s.cb, .map (encM s.cm) s.cc)] :: ([(s.nb, .map (encM s.nm) s.nc)] :: s.bg :: bodyG s.bs :: (rowsG s.rows ++ (s.Z ++ H)))) w := fun hw => sat_cnt hw fun _ x => by
    simp only [DS.G, List.cons_append, List.append_assoc]
    simp only [List.flatten_cons, List.flatten_append, List.count_append]
    omega
  have hfrom : ∀ {s : DS} {M : DM} {w : World}, Sat W0 ([(d, dkO M s)] :: [(s.kb, .map (encM s.km) s.kc)] :: [(s.cb, .map (encM s.cm) s.cc)] :: ([(s.nb, .map (encM s.nm) s.nc)] :: s.bg :: bodyG s.bs :: (rowsG s.rows ++ (s.Z ++ H)))) w → Sat W0 (s.G d M ++ H) w := fun hw => sat_cnt hw fun _ x => by
    simp only [DS.G, List.cons_append, List.append_assoc]
    simp only [List.flatten_cons, List.flatten_append, List.count_append]
    omega
  cases hg : mget s.cm dir with
  | none =>
    have hrow := rowOf_none (rows_none h.rows hg)
    have hch := h.chs dir
    rw [hrow] at hch
    have hch := all2_none hch
    refine Tri.heap (fun w hw => hto hw) (Tri.post (vSyncDirNo d s.nb s.kb s.cb s.kc s.cc M.room M.calls (.slice s.ba s.bs.length s.bc) M.fails M.once s.km s.cm dir hdir hm.calls h.kok hg W0 _) fun v H1 hr => ?_)
    rcases hr with ⟨hce, hv, hH⟩ | ⟨hce, hv, hH⟩
    · exact post_call h (dirR dir) (by rw [syncDirM_err hce]) (by rw [syncDirM_err hce]; exact hv) fun w hw => by rw [hH] at hw; exact hfrom hw
    · refine post_call h (dirR dir) ?_ (by rw [syncDirM_ok hce]; exact hv) fun w hw => ?_
      · rw [syncDirM_ok hce, hch, filter_none hch]; rfl
      · rw [hH, mdel_none hg] at hw; exact hfrom hw
  | some rv =>
    obtain ⟨pre, r, post, c, p1, p2, hrows, hcm, hp1, hpre, hd, hrv, e1, e2⟩ := rows_some h.rows hg
    obtain ⟨ho, hpos⟩ := h.rows.2 r (by rw [hrows]; exact List.mem_append_right _ List.mem_cons_self)
    have hq := rows_le h hm r (by rw [hrows]; exact List.mem_append_right _ List.mem_cons_self)
    rw [hrv] at ho
    obtain ⟨ra, rc, hra, hrc, hrd⟩ := ho.shape
    have hrow : rowOf s.rows dir = r.qs := by rw [hrows, rowOf_app hpre, rowOf, hd, if_pos (baEq.2 rfl)]
    have hch := h.chs dir
    rw [hrow] at hch
    obtain ⟨xs, xcs, x1, x2, x3⟩ := row_read hch
    have hin : ∀ y o, inZ s.Z y o → At W0 ([(s.nb, .map (encM s.nm) s.nc)] :: s.bg :: bodyG s.bs :: (rowsG s.rows ++ (s.Z ++ H))) y o := fun y o hy => .cons (.cons (.cons (at_app2 (.inr (by rw [List.flatten_append]; exact List.mem_append_left _ hy)))))
    refine Tri.heap (fun w hw => hto hw) (Tri.post (vSyncDir d s.nb s.kb s.cb s.kc s.cc M.room M.calls (.slice s.ba s.bs.length s.bc) M.fails M.once s.km s.cm dir hdir hm.calls h.kok ra rc (inG r.g) r.qs xs xcs x1 hq hrd (by rw [hg, hra]) W0 _ (fun y o hy => .cons (.cons (.cons (at_app (At.mem (g := r.g) (by rw [hrows]; simp [rowsG]) hy))))) (fun i hi => ⟨hin _ _ (x3 i hi).1, (x3 i hi).2⟩)) fun v H1 hr => ?_)
    rcases hr with ⟨hce, hv, hH⟩ | ⟨hce, hv, km1, kc1, hmade, hH⟩
    · exact post_call h (dirR dir) (by rw [syncDirM_err hce]) (by rw [syncDirM_err hce]; exact hv) fun w hw => by rw [hH] at hw; exact hfrom hw
    · have hdel : mdel s.cm dir = p1 ++ p2 := by
        rw [hcm]
        clear hcm e1
        induction p1 with
        | nil => rw [List.nil_append, mdel, if_pos (baEq.2 rfl)]; rfl
        | cons e p1 ih =>
          rw [List.cons_append, mdel, if_neg (by rw [hp1 e List.mem_cons_self]; decide), ih fun x hx => hp1 x (List.mem_cons_of_mem _ hx)]; rfl
      have hpost : ∀ x ∈ post, (dir == x.dir) = false := by
        have hn := h.cok.nodup
        rw [hcm, List.map_append, List.map_cons, List.nodup_append, List.nodup_cons] at hn
        intro x hx
        rw [baNe]
        intro he
        refine hn.2.1.1 ?_
        have : (x.dir, x.v) ∈ p2.map (fun e => (e.1, e.2.1)) := by rw [e2]; exact List.mem_map.2 ⟨x, hx, rfl⟩
        obtain ⟨e, he1, he2⟩ := List.mem_map.1 this
        injection he2 with he2 _
        exact List.mem_map.2 ⟨e, he1, by rw [he2, ← he]⟩
      refine ⟨_, ⟨by rw [syncDirM_ok hce]; exact hv, { s with km := km1, kc := kc1, cm := mdel s.cm dir, rows := pre ++ post, Z := r.g :: s.Z }, ?_, rfl⟩, fun w hw => ?_⟩
      · rw [syncDirM_ok hce]
        refine ⟨h.own, h.nok, made_ok (s := (s.km, s.kc)) (s' := (km1, kc1)) hmade h.kok, h.cok.del _, h.names, names_made h.kept h.kok x2 hmade, ⟨?_, fun x hx => ?_⟩, fun d' => ?_, h.bods.imp fun b B hb => hb.mono fun y o h => inZ_app (K := [r.g]) h⟩
        · show (mdel s.cm dir).map _ = _
          rw [hdel, List.map_append, List.map_append, e1, e2]
        · refine h.rows.2 x ?_
          rw [hrows]
          rcases List.mem_append.1 hx with hx | hx
          · exact List.mem_append_left _ hx
          · exact List.mem_append_right _ (List.mem_cons_of_mem _ hx)
        · have hold := (h.chs d').imp fun q l hq => qr_mono (K := [r.g]) hq
          show All2 (QR ([r.g] ++ s.Z) (psOf s.bs)) (rowOf (pre ++ post) d') (chOf (M.changes.filter fun c => !(dir == c.dir)) d')
          rw [chOf_filter]
          cases hk : d' == dir
          · simp only [Bool.false_eq_true, if_false]
            rw [hrows] at hold
            have : rowOf (pre ++ post) d' = rowOf (pre ++ r :: post) d' := rowOf_app' (by rw [rowOf, hd, hk]; rfl)
            rw [this]; exact hold
          · simp only [if_true]
            rw [baEq] at hk; subst hk
            rw [rowOf_none fun x hx => by rcases List.mem_append.1 hx with hx | hx; exact hpre x hx; exact hpost x hx]
            exact .nil
      · rw [hH] at hw
        rw [syncDirM_ok hce]
        refine sat_cnt hw fun _ x => ?_
        simp only [DS.G, dkO, callM, dirR, hrows, rowsG, List.map_append, List.map_cons, List.cons_append, List.append_assoc]
        simp only [List.flatten_cons, List.flatten_append, List.count_append]
        omega
end Go.Vf

namespace Go.Vf
open Go.Sw Go.RowKit Go.Proofs Go.Proofs.Ytbmieiffboenbaa

/-! ## bodies -/
def crashL : List BE → KS → List BE × KS
  | [], k => ([], k)
  | b :: r, k => ((crash1 b k).1 :: (crashL r (crash1 b k).2).1, (crashL r (crash1 b k).2).2)
theorem crashL_len : ∀ (l : List BE) (k : KS), (crashL l k).1.length = l.length
  | [], _ => rfl
  | b :: r, k => by rw [crashL, List.length_cons, crashL_len r, List.length_cons]
theorem crashL_snoc (b : BE) : ∀ (l : List BE) (k : KS), crashL (l ++ [b]) k = ((crashL l k).1 ++ [(crash1 b (crashL l k).2).1], (crash1 b (crashL l k).2).2)
  | [], _ => rfl
  | x :: r, k => by rw [List.cons_append, crashL, crashL_snoc b r]; rfl
theorem stB_L (bs : List BE) (k : KS) : ∀ j : Nat, j ≤ bs.length → stB bs k j = ((crashL (bs.take j) k).1 ++ bs.drop j, (crashL (bs.take j) k).2)
  | 0, _ => rfl
  | j + 1, h => by
    have hj : j < bs.length := h
    rw [stB, stB_at bs k j j (Nat.le_refl _), stB_L bs k j (by omega), take_snoc (d := default) hj, crashL_snoc]
    have hd : bs.drop j = bs.getD j default :: bs.drop (j + 1) := by
      rw [List.getD_eq_getElem?_getD, List.getElem?_eq_getElem hj, List.drop_eq_getElem_cons hj]; rfl
    have hl : (crashL (bs.take j) k).1.length = j := by rw [crashL_len, List.length_take]; omega
    rw [hd, List.set_append_right _ _ (by omega), hl, Nat.sub_self]
    simp
theorem crashL_p : ∀ (l : List BE) (k : KS), psOf (crashL l k).1 = psOf l
  | [], _ => rfl
  | b :: r, k => by
    have := crashL_p r (crash1 b k).2
    unfold psOf at this ⊢
    rw [crashL, List.map_cons, List.map_cons, this]
    congr 1
    unfold crash1
    split <;> rfl
theorem extract_u8s (x : ByteArray) (m : Nat) : u8s (x.extract 0 m).data.toList = (u8s x.data.toList).take m := by
  unfold u8s
  rw [← List.map_take]
  congr 1
  rw [ByteArray.data_extract, Array.toList_extract]
  simp [List.extract]
theorem crash1_r {S : Nat → Obj → Prop} {b : BE} {B : Body} (h : BodyR S b B) (k : KS) (hkm : B.kept.size ≤ B.now.size) :
    BodyR S (crash1 b k).1 (if (B.now.size : Int) - (B.kept.size : Int) > 0 then ⟨B.now.extract 0 (B.kept.size + (nextK (k.l.headD 0) ((B.now.size : Int) - (B.kept.size : Int) + 1)).toNat), B.now.extract 0 (B.kept.size + (nextK (k.l.headD 0) ((B.now.size : Int) - (B.kept.size : Int) + 1)).toNat)⟩ else ⟨B.kept, B.kept⟩) ∧
    (crash1 b k).2.l = if (B.now.size : Int) - (B.kept.size : Int) > 0 then k.l.drop 1 else k.l := by
  have hn := h.n
  have hm := h.m
  unfold crash1
  by_cases hc : (b.n : Int) - (b.m : Int) > 0
  · have hc' : (B.now.size : Int) - (B.kept.size : Int) > 0 := by omega
    rw [if_pos hc, if_pos hc', if_pos hc']
    obtain ⟨q0, q1⟩ := nextK_bd (k := k.l.headD 0) (n := (b.n : Int) - (b.m : Int) + 1) (by omega)
    have e1 : (B.now.size : Int) - (B.kept.size : Int) + 1 = (b.n : Int) - (b.m : Int) + 1 := by omega
    rw [e1]
    have e2 : B.kept.size + (nextK (k.l.headD 0) ((b.n : Int) - (b.m : Int) + 1)).toNat = Int.toNat ((b.m : Int) + nextK (k.l.headD 0) ((b.n : Int) - (b.m : Int) + 1)) - Int.toNat 0 := by
      have : Int.toNat 0 = 0 := rfl
      omega
    rw [e2]
    have e3 : Int.toNat ((b.m : Int) + nextK (k.l.headD 0) ((b.n : Int) - (b.m : Int) + 1)) - Int.toNat 0 ≤ b.n := by
      have : Int.toNat 0 = 0 := rfl
      omega
    have hcn := h.cn
    have hlen : (u8s B.now.data.toList).length = b.n := by rw [u8s_len, hn]; exact Array.length_toList
    have hrd := rd_cut0 h.now (m := Int.toNat ((b.m : Int) + nextK (k.l.headD 0) ((b.n : Int) - (b.m : Int) + 1)) - Int.toNat 0) (c := b.cn) (by rw [hlen]; exact e3) (by rw [hlen]; exact hcn)
    rw [← extract_u8s] at hrd
    have hsz : (B.now.extract 0 (Int.toNat ((b.m : Int) + nextK (k.l.headD 0) ((b.n : Int) - (b.m : Int) + 1)) - Int.toNat 0)).size = Int.toNat ((b.m : Int) + nextK (k.l.headD 0) ((b.n : Int) - (b.m : Int) + 1)) - Int.toNat 0 := by
      rw [ByteArray.size_extract]; omega
    have han : (cutA b.an b.cn (Int.toNat 0) 1 = none ∧ Int.toNat ((b.m : Int) + nextK (k.l.headD 0) ((b.n : Int) - (b.m : Int) + 1)) - Int.toNat 0 = 0 ∧ b.cn - Int.toNat 0 = 0) ∨ ∃ q off, cutA b.an b.cn (Int.toNat 0) 1 = some ⟨q, off, none⟩ := by
      rcases h.an with ⟨h1, h2, _⟩ | ⟨q, off, h1⟩
      · omega
      · refine .inr ⟨q, off, ?_⟩
        rw [h1]
        unfold cutA
        split
        · rfl
        · simp [addr_add]
    have hcm : Int.toNat ((b.m : Int) + nextK (k.l.headD 0) ((b.n : Int) - (b.m : Int) + 1)) - Int.toNat 0 ≤ b.cn - Int.toNat 0 := by
      have : Int.toNat 0 = 0 := rfl
      omega
    exact ⟨⟨hsz.symm, hcm, han, hrd, hsz.symm, hcm, han, hrd⟩, rfl⟩
  · have hc' : ¬ (B.now.size : Int) - (B.kept.size : Int) > 0 := by omega
    rw [if_neg hc, if_neg hc', if_neg hc']
    exact ⟨⟨h.m, h.cm, h.am, h.kept, h.m, h.cm, h.am, h.kept⟩, rfl⟩
theorem crashL_r {S : Nat → Obj → Prop} {bs : List BE} {Bs : List Body} (h : All2 (BodyR S) bs Bs) (hk : ∀ B ∈ Bs, B.kept.size ≤ B.now.size) : ∀ k : KS, All2 (BodyR S) (crashL bs k).1 (crashB Bs k.l).1 ∧ (crashL bs k).2.l = (crashB Bs k.l).2 := by
  induction h with
  | nil => intro k; exact ⟨.nil, rfl⟩
  | @cons b B bs Bs hb _ ih =>
    intro k
    obtain ⟨h1, h2⟩ := crash1_r hb k (hk _ List.mem_cons_self)
    obtain ⟨h3, h4⟩ := ih (fun B hB => hk B (List.mem_cons_of_mem _ hB)) (crash1 b k).2
    rw [crashL, crashB]
    split
    · rename_i hc
      rw [if_pos hc] at h1 h2
      rw [h2] at h3 h4
      exact ⟨.cons h1 h3, h4⟩
    · rename_i hc
      rw [if_neg hc] at h1 h2
      rw [h2] at h3 h4
      exact ⟨.cons h1 h3, h4⟩
theorem crashB_size {n : Nat} : ∀ {Bs : List Body} {ks : List Int}, (∀ B ∈ Bs, B.now.size ≤ n ∧ B.kept.size ≤ B.now.size) → ∀ B ∈ (crashB Bs ks).1, B.now.size ≤ n ∧ B.kept.size = B.now.size
  | [], _, _, B, hB => by cases hB
  | x :: r, ks, h, B, hB => by
    obtain ⟨h1, h2⟩ := h x List.mem_cons_self
    have ih := fun ks => crashB_size (n := n) (Bs := r) (ks := ks) fun B hB => h B (List.mem_cons_of_mem _ hB)
    rw [crashB] at hB
    split at hB
    · rcases List.mem_cons.1 hB with rfl | hB
      · exact ⟨by simp only [ByteArray.size_extract]; omega, rfl⟩
      · exact ih _ B hB
    · rcases List.mem_cons.1 hB with rfl | hB
      · exact ⟨by show x.kept.size ≤ n; omega, rfl⟩
      · exact ih _ B hB
theorem crashB_len : ∀ {Bs : List Body} {ks : List Int}, (crashB Bs ks).1.length = Bs.length
  | [], _ => rfl
  | x :: r, ks => by
    rw [crashB]
    split <;> rw [List.length_cons, crashB_len, List.length_cons]
theorem All2.mem {α β : Type} {R : α → β → Prop} {l : List α} {m : List β} (h : All2 R l m) {a : α} (ha : a ∈ l) : ∃ b ∈ m, R a b := by
  induction h with
  | nil => cases ha
  | cons hab _ ih =>
    rcases List.mem_cons.1 ha with rfl | ha
    · exact ⟨_, List.mem_cons_self, hab⟩
    · obtain ⟨b, hb, hr⟩ := ih ha
      exact ⟨b, List.mem_cons_of_mem _ hb, hr⟩

/-! ## directories -/
theorem once_mem {x : ByteArray} : ∀ {l : List ByteArray}, x ∈ onceL l ↔ x ∈ l
  | [] => Iff.rfl
  | y :: r => by
    rw [onceL]
    split
    · rename_i h
      rw [once_mem, List.mem_cons]
      constructor
      · exact .inr
      · rintro (rfl | h2)
        · exact once_mem.1 h
        · exact h2
    · rw [List.mem_cons, List.mem_cons, once_mem]
theorem once_nodup : ∀ (l : List ByteArray), (onceL l).Nodup
  | [] => List.nodup_nil
  | y :: r => by
    rw [onceL]
    split
    · exact once_nodup r
    · rename_i h; exact List.nodup_cons.2 ⟨h, once_nodup r⟩
theorem once_le : ∀ (l : List ByteArray), (onceL l).length ≤ l.length
  | [] => Nat.le_refl _
  | y :: r => by
    have := once_le r
    rw [onceL]
    split <;> simp <;> omega
theorem chOf_ne {l : List Ch} {d : ByteArray} : chOf l d ≠ [] ↔ d ∈ l.map (·.dir) := by
  unfold chOf
  constructor
  · intro h
    obtain ⟨x, hx⟩ := List.exists_mem_of_ne_nil _ h
    obtain ⟨c, hc, _⟩ := List.mem_map.1 hx
    obtain ⟨h1, h2⟩ := List.mem_filter.1 hc
    rw [baEq] at h2
    exact List.mem_map.2 ⟨c, h1, h2.symm⟩
  · intro h
    obtain ⟨c, hc, rfl⟩ := List.mem_map.1 h
    intro he
    rw [List.map_eq_nil_iff, List.filter_eq_nil_iff] at he
    exact he c hc (by simp)
theorem rowOf_ne {rows : List RW} (h : ∀ r ∈ rows, 0 < r.qs.length) {d : ByteArray} : rowOf rows d ≠ [] ↔ d ∈ rows.map (·.dir) := by
  induction rows with
  | nil => simp [rowOf]
  | cons r rows ih =>
    rw [rowOf, List.map_cons, List.mem_cons]
    split
    · rename_i hk
      rw [baEq] at hk
      have := h r List.mem_cons_self
      constructor
      · intro _; exact .inl hk
      · intro _ he; rw [he] at this; simp at this
    · rename_i hk
      rw [ih fun x hx => h x (List.mem_cons_of_mem _ hx)]
      constructor
      · exact .inr
      · rintro (rfl | h2)
        · exact absurd (baEq.2 rfl) hk
        · exact h2
theorem rows_keys {s : DS} {M : DM} (h : s.ok M) : s.cm.map Prod.fst = s.rows.map (·.dir) := by
  have h1 : (s.cm.map (fun e => (e.1, e.2.1))).map Prod.fst = (s.rows.map (fun r => (r.dir, r.v))).map Prod.fst := by rw [h.rows.1]
  rw [List.map_map, List.map_map] at h1
  exact h1
theorem keys_perm {s : DS} {M : DM} (h : s.ok M) : (s.cm.map Prod.fst).Perm (onceL (M.changes.map (·.dir))) := by
  refine (List.perm_ext_iff_of_nodup h.cok.nodup (once_nodup _)).2 fun d => ?_
  rw [once_mem, ← chOf_ne, rows_keys h, ← rowOf_ne fun r hr => (h.rows.2 r hr).2]
  have := (h.chs d).len
  constructor
  · intro h1 h2
    rw [h2] at this
    exact h1 (List.eq_nil_of_length_eq_zero this)
  · intro h1 h2
    rw [h2] at this
    exact h1 (List.eq_nil_of_length_eq_zero this.symm)
theorem crash_names {ps : List Nat} {rows : ByteArray → RowC} {l : List Ch} : ∀ {ds : List ByteArray} {km km1 : SM} {kc kc1 : Nat} {ks ks1 : KS} {names : List Nm},
    (∀ d ∈ ds, All2 (fun x l => (∃ c, MapOk x c) ∧ ChangeR ps x l) (rows d).xs (chOf l d) ∧ (rows d).qs.length = (chOf l d).length) → NamesR ps km names → MapOk km kc →
    CrashK rows ds ((km, kc), ks) ((km1, kc1), ks1) → NamesR ps km1 (crashD l ds ks.l names) ∧ MapOk km1 kc1
  | [], _, _, _, _, _, _, _, _, hn, ho, hc => by
    injection (show (_, _) = (_, _) from hc) with e1 e2
    injection e1 with e3 e4
    subst e3 e4
    exact ⟨hn, ho⟩
  | d :: ds, km, km1, kc, kc1, ks, ks1, names, hr, hn, ho, ⟨s1, hm, hc⟩ => by
    obtain ⟨h1, h2⟩ := hr d List.mem_cons_self
    obtain ⟨m1, c1⟩ := s1
    have e : keptN (rows d) ks = (nextK (ks.l.headD 0) (((chOf l d).length : Int) + 1)).toNat := by unfold keptN; rw [h2]
    have h3 := names_made hn ho (h1.take (keptN (rows d) ks)) hm
    rw [e] at h3
    exact crash_names (ds := ds) (fun d' hd' => hr d' (List.mem_cons_of_mem _ hd')) h3 (made_ok (s := (km, kc)) (s' := (m1, c1)) hm ho) hc
theorem cCrash {s : DS} {M : DM} (h : s.ok M) (hm : Small M) (d : Nat) (ks : KS) (S0 : Nat → Obj → Prop) (hks : KsOk S0 ks) (W0 : World) (H : List Grp) (hS0 : ∀ y o, S0 y o → At W0 H y o) :
    Tri Try.prog 18 #[.pointer (some ⟨d, 0, none⟩), .slice ks.a ks.l.length ks.c] W0 (s.G d M ++ H) (Is d (crashM M ks.l) (.tuple #[]) H) := by
  have hlen := h.bods.len
  have hmb := hm.bodies
  have hkp := keys_perm h
  have hrd : ∀ d', ∃ r : RowC, d' ∈ s.cm.map Prod.fst → RowOk (fun y o => S0 y o ∨ inG s.bg y o ∨ (y, o) ∈ (rowsG s.rows).flatten) W0 ([(s.nb, .map (encM s.nm) s.nc)] :: s.bg :: (rowsG s.rows ++ (s.Z ++ H))) s.cm d' r ∧ All2 (fun x l => (∃ c, MapOk x c) ∧ ChangeR (psOf s.bs) x l) r.xs (chOf M.changes d') ∧ r.qs.length = (chOf M.changes d').length := by
    intro d'
    by_cases hd : d' ∈ s.cm.map Prod.fst
    · obtain ⟨⟨k, rv, c⟩, he, rfl⟩ := List.mem_map.1 hd
      have hg := mget_of h.cok.nodup he
      obtain ⟨pre, r, post, c, p1, p2, hrows, hcm, hp1, hpre, hdd, hrv, e1, e2⟩ := rows_some h.rows hg
      have hmem : r ∈ s.rows := by rw [hrows]; exact List.mem_append_right _ List.mem_cons_self
      obtain ⟨ho, hpos⟩ := h.rows.2 r hmem
      have hq := rows_le h hm r hmem
      rw [hrv] at ho
      obtain ⟨ra, rc, hra, hrc, hrd⟩ := ho.shape
      have hrow : rowOf s.rows k = r.qs := by rw [hrows, rowOf_app hpre, rowOf, hdd, if_pos (baEq.2 rfl)]
      have hch := h.chs k
      rw [hrow] at hch
      obtain ⟨xs, xcs, x1, x2, x3⟩ := row_read hch
      refine ⟨⟨ra, rc, r.qs, xs, xcs⟩, fun _ => ⟨⟨?_, hrd.mono fun y o hy => .inr (.inr (List.mem_flatten.2 ⟨r.g, List.mem_map.2 ⟨r, hmem, rfl⟩, hy⟩)), x1, hq, hrc, fun i hi => ⟨?_, (x3 i hi).2⟩⟩, x2, hch.len⟩⟩
      · rw [show mget s.cm k = some rv from hg, hra]
      · exact .cons (.cons (at_app2 (.inr (by rw [List.flatten_append]; exact List.mem_append_left _ (x3 i hi).1))))
    · exact ⟨⟨none, 0, [], [], []⟩, fun h => absurd h hd⟩
  have hbn : ∀ b ∈ s.bs, b.n ≤ b.cn ∧ b.n ≤ 1000000000 ∧ b.m ≤ b.n := fun b hb => by
    obtain ⟨B, hB, hr⟩ := h.bods.mem hb
    have := hm.size B hB
    have h1 := hr.n
    have h2 := hr.m
    exact ⟨hr.cn, by omega, by omega⟩
  obtain ⟨ra, rc, hra, _, hrb⟩ := h.own.shape
  injection hra with e1 e2 e3
  subst e1
  have hcs : ∀ e ∈ s.cm, e.1.size ≤ 9223372036854775807 := fun e he => by
    have h1 : e.1 ∈ M.changes.map (·.dir) := once_mem.1 (hkp.mem_iff.1 (List.mem_map.2 ⟨e, he, rfl⟩))
    obtain ⟨c, hc, h2⟩ := List.mem_map.1 h1
    have := hm.dirs c hc
    rw [← h2]; omega
  have hcl : s.cm.length ≤ 1000000000 := by
    have h1 := hkp.length_eq
    rw [List.length_map] at h1
    have h2 := once_le (M.changes.map (·.dir))
    rw [List.length_map] at h2
    have := hm.changes
    omega
  have hto : ∀ {w : World}, Sat W0 (s.G d M ++ H) w → Sat W0 ([(d, dkO M s)] :: bodyG s.bs :: [(s.kb, .map (encM s.km) s.kc)] :: [(s.cb, .map (encM s.cm) s.cc)] :: ([(s.nb, .map (encM s.nm) s.nc)] :: s.bg :: (rowsG s.rows ++ (s.Z ++ H)))) w := fun hw => sat_cnt hw fun _ x => by
    simp only [DS.G, List.cons_append, List.append_assoc]
    simp only [List.flatten_cons, List.flatten_append, List.count_append]
    omega
  refine Tri.heap (fun w hw => hto hw) (Tri.post (vCrash d s.nb s.kb s.cb s.kc s.cc M.room M.calls M.fails M.once s.km s.cm s.bs s.ba s.bc ks (fun d' => Classical.choose (hrd d')) (fun y o => S0 y o ∨ inG s.bg y o ∨ (y, o) ∈ (rowsG s.rows).flatten) ⟨hks.1.mono fun _ _ => .inl, hks.2⟩ (by omega) hbn (hrb.mono fun _ _ hy => .inr (.inl hy)) h.kok h.cok hcs hcl W0 ([(s.nb, .map (encM s.nm) s.nc)] :: s.bg :: (rowsG s.rows ++ (s.Z ++ H))) (fun y o hy => ?_) (fun d' hd' => (Classical.choose_spec (hrd d') hd').1)) fun v H1 hr => ?_)
  · rcases hy with hy | hy | hy
    · exact .cons (.cons (at_app2 (at_app2 (hS0 y o hy))))
    · exact .cons (At.mem List.mem_cons_self hy)
    · exact .cons (.cons (at_app (.inr hy)))
  · obtain ⟨hv, b, b2, km1, kc1, ks1, hk, hH⟩ := hr
    rw [stB_L s.bs ks s.bs.length (Nat.le_refl _), List.take_length, List.drop_length, List.append_nil] at hk hH
    obtain ⟨hb1, hb2⟩ := crashL_r h.bods (fun B hB => (hm.size B hB).2) ks
    have hds : sortB (s.cm.map Prod.fst) = dirsOf M.changes := sortB_congr hkp
    obtain ⟨hN, hO⟩ := crash_names (l := M.changes) (fun d' hd' => (Classical.choose_spec (hrd d') ((sortB_perm _).mem_iff.1 hd')).2) h.kept h.kok hk
    simp only at hN
    rw [hds, hb2] at hN
    have hps := crashL_p s.bs ks
    have h0 : MapOk [] 0 := ⟨List.Pairwise.nil, List.nodup_nil, fun _ h => absurd h List.not_mem_nil⟩
    refine ⟨_, ⟨hv, ⟨b, s.kb, b2, km1, km1, [], kc1, kc1, 0, s.ba, s.bc, s.bg, (crashL s.bs ks).1, [], [(s.nb, .map (encM s.nm) s.nc)] :: (rowsG s.rows ++ s.Z)⟩, ⟨?_, hO, hO, h0, ?_, ?_, ⟨rfl, fun _ h => absurd h List.not_mem_nil⟩, fun _ => .nil, ?_⟩, rfl⟩, fun w hw => ?_⟩
    · have e1 : ∀ l : List BE, l.map (fun b => Value.pointer (some ⟨b.p, 0, none⟩)) = (psOf l).map fun p => Value.pointer (some ⟨p, 0, none⟩) := fun l => by unfold psOf; rw [List.map_map]; rfl
      simp only [crashL_len]
      rw [e1, hps, ← e1]; exact h.own
    · rw [hps]; exact hN
    · rw [hps]; exact hN
    · exact hb1.imp fun b B hb => hb.mono fun y o hy => by
        show (y, o) ∈ List.flatten ([(s.nb, .map (encM s.nm) s.nc)] :: (rowsG s.rows ++ s.Z))
        rw [List.flatten_cons, List.flatten_append]
        exact List.mem_append_right _ (List.mem_append_right _ hy)
    · rw [hH] at hw
      refine sat_cnt hw fun _ x => ?_
      simp only [DS.G, dkO, crashM, crashL_len, rowsG, List.map_nil, List.cons_append, List.append_assoc, List.nil_append]
      simp only [List.flatten_cons, List.flatten_append, List.count_append]
      omega
end Go.Vf

namespace Go.Sw
open Go.RowKit

theorem GL_bytesB {d : Bool} {P : Program} {ops : Array Oper} {i : Nat} {Q : Post} {n : Nat} {E : Env} {W0 : World} {H : List Grp} {o : Oper} {ch : List (Nat × Bool)} {src dst e : TypeId} {x : Operand} {a : Option Addr} {cap : Nat} {S : Nat → Obj → Prop} (b : ByteArray)
    (ho : ops[i]? = some o) (hop : o.op = .convert src dst x) (hx : evO E ch x = some (.slice a b.size cap)) (hs : P.underlying src = some (.slice e)) (he : P.underlying e = some (.int .u8)) (hds : P.underlying dst = some .string)
    (hch : chainOf ops E o.guard = some ch) (hd : dstOk n ch o.dst = true) (hk : chKnown E ch = true)
    (hrd : Rd S a (u8s b.data.toList)) (hS : ∀ b o, S b o → At W0 H b o)
    (k : GL d P ops (i + 1) Q n (Env.put E o.dst ch (.string b)) W0 H) : GL d P ops i Q n E W0 H := by
  cases a with
  | some a =>
    refine GL_bytesStr (cap := cap) b.data.toList ho hop ?_ hs he hds hch hd hk hrd hS ?_
    · rw [hx, show b.data.toList.length = b.size from Array.length_toList]
    · have : (⟨b.data.toList.toArray⟩ : ByteArray) = b := by cases b; simp
      rw [this]; exact k
  | none =>
    have h0 : b = ByteArray.empty := by
      rcases hrd with h | ⟨_, _, _, _, _, h, _⟩
      · have h1 := congrArg List.length h
        unfold u8s at h1
        rw [List.length_map] at h1
        cases b with | mk d =>
        have : d = #[] := Array.eq_empty_of_size_eq_zero (by simpa using h1)
        rw [this]; rfl
      · cases h
    refine GL_quiet ho hch hd hk (fun r hr _ w _ => ?_) k
    unfold execOp
    simp only [hop]
    rw [hr _ _ hx, h0]
    have := run_convert_bytes_string (P := P) w src dst e none ByteArray.empty.size cap hs he hds
    simp only [Sem.run_bind, this]
    exact ⟨rfl, rfl⟩
theorem i64_in (x : Int) : -9223372036854775808 ≤ IntKind.wrap .i64 x ∧ IntKind.wrap .i64 x ≤ 9223372036854775807 := by
  simp only [IntKind.wrap, IntKind.bits, IntKind.signed]
  simp only [show (2 : Int) ^ 64 = 18446744073709551616 from by decide, show (2 : Int) ^ (64 - 1) = 9223372036854775808 from by decide]
  split <;> rename_i h <;> simp at h <;> omega
end Go.Sw

namespace Go.Sw

theorem frozen_end {w : World} {b : Nat} {c : Array Value} {e : TypeId} (h : w.heap[b]? = some (.cells c e (0, 0))) : Wr b (.cells c e (c.size, c.size + 1)) w (w.freeze ⟨b, c.size, none⟩ 1) := by
  have hlt : b < w.heap.size := by
    rcases Nat.lt_or_ge b w.heap.size with h' | h'
    · exact h'
    · rw [Array.getElem?_eq_none h'] at h; cases h
  have hb : w.heap[b] = .cells c e (0, 0) := by rw [Array.getElem?_eq_getElem hlt] at h; exact Option.some.inj h
  unfold World.freeze
  rw [if_neg (by decide)]
  refine ⟨rfl, rfl, rfl, Array.size_modify, ?_, fun k hk => ?_⟩
  · show (w.heap.modify b _)[b]? = _
    rw [Array.getElem?_modify, if_pos rfl, h]
    rfl
  · show (w.heap.modify b _)[k]? = _
    rw [Array.getElem?_modify, if_neg (by omega)]
theorem GL_sameBytes {P : Program} {ops : Array Oper} {i : Nat} {Q : Post} {n : Nat} {E : Env} {W0 : World} {H H' : List Grp} {o : Oper} {ch : List (Nat × Bool)} {t e : TypeId} {x : Operand} {b off l cap : Nat} {c : Array Value} {e' : TypeId} {g : Grp} {j m : Nat}
    (ho : ops[i]? = some o) (hop : o.op = .convert t t x) (hx : evO E ch x = some (.slice (some ⟨b, off, none⟩) l cap)) (ht : P.underlying t = some (.slice e)) (he : P.underlying e = some (.int .u8))
    (hch : chainOf ops E o.guard = some ch) (hd : dstOk n ch o.dst = true) (hsure : chSure E ch = true)
    (hj : H[j]? = some g) (hi : g[m]? = some (b, .cells c e' (0, 0))) (hH' : H.set j (g.set m (b, .cells c e' (c.size, c.size + 1))) = H')
    (k : GL false P ops (i + 1) Q n (Env.put E o.dst ch (.slice (some ⟨b, off, none⟩) l cap)) W0 H') : GL false P ops i Q n E W0 H := by
  refine GL_eff (R := fun v H1 => v = .slice (some ⟨b, off, none⟩) l cap ∧ H1 = H') ho hch hd hsure (fun r hr w hs => ?_) (by rintro v H1 ⟨rfl, rfl⟩; exact k)
  have hblk := hs.has _ (List.mem_flatten.2 ⟨g, List.mem_of_getElem? hj, List.mem_of_getElem? hi⟩)
  have hw := frozen_end hblk
  have hsh : w.shape? b = some (e', c.size) := by unfold World.shape?; rw [hblk]
  refine ⟨_, w.freeze ⟨b, c.size, none⟩ 1, H', ⟨rfl, rfl⟩, ?_, .inl ?_⟩
  · have := hs.wr hj hi hw
    rw [hH'] at this; exact this
  · unfold execOp
    simp only [hop]
    rw [hr _ _ hx]
    simp [convert, run_underlying ht, run_underlying he, markStringish, hsh]
end Go.Sw

namespace Go.Vf
open Go.Sw Go.RowKit Go.Proofs Go.Proofs.Ytbmieiffboenbaa

def IsK (K : List Grp) (d : Nat) (M : DM) (v0 : Value) (H : List Grp) : Value → List Grp → Prop := fun v H' => v = v0 ∧ ∃ s : DS, s.ok M ∧ H' = K ++ (s.G d M ++ H)
theorem front_to {K X H : List Grp} {W0 : World} {w : World} (hw : Sat W0 (K ++ (X ++ H)) w) : Sat W0 (X ++ (K ++ H)) w := sat_cnt hw fun _ x => by
  simp only [List.flatten_append, List.count_append]; omega
theorem is_front {f : FuncId} {args : Array Value} {W0 : World} {s : DS} {d : Nat} {M M' : DM} {v0 : Value} {K H : List Grp} (h : Tri Try.prog f args W0 (s.G d M ++ (K ++ H)) (Is d M' v0 (K ++ H))) : Tri Try.prog f args W0 (K ++ (s.G d M ++ H)) (IsK K d M' v0 H) :=
  Tri.heap (fun _ hw => front_to hw) (Tri.post h fun v H1 ⟨hv, s', hs, hH⟩ => ⟨_, ⟨hv, s', hs, rfl⟩, fun w hw => by rw [hH] at hw; exact front_to hw⟩)
theorem BytesV.up {W0 : World} {H : List Grp} {v : Value} {b : ByteArray} (h : BytesV W0 [] v b) : BytesV W0 H v b := by
  obtain ⟨a, cap, S, h1, h2, h3, h4⟩ := h
  refine ⟨a, cap, S, h1, h2, h3, fun y o hy => ?_⟩
  rcases h4 y o hy with h | h
  · exact .inl h
  · cases h
theorem at_up {W0 : World} {H : List Grp} {y : Nat} {o : Obj} (h : At W0 [] y o) : At W0 H y o := by
  rcases h with h | h
  · exact .inl h
  · cases h
theorem ksNext_ok1 {S : Nat → Obj → Prop} {l : List Int} {a : Option Addr} {c : Nat} (h : KsOk S ⟨l, a, c⟩) (hl : l ≠ []) : KsOk S ⟨l.drop 1, cutA a c 1 1, c - 1⟩ := by
  have := ksNext_ok h
  unfold ksNext at this
  simp only [if_neg hl] at this
  exact this
/-- bytes: how they lie -/
structure BytesA (W0 : World) (H : List Grp) (a : Option Addr) (c : Nat) (S : Nat → Obj → Prop) (b : ByteArray) : Prop where
  sh : Sh a b.size c
  rd : Rd S a (u8s b.data.toList)
  at_ : ∀ y o, S y o → At W0 H y o
theorem BytesA.v {W0 : World} {H : List Grp} {a : Option Addr} {c : Nat} {S : Nat → Obj → Prop} {b : ByteArray} (h : BytesA W0 H a c S b) : BytesV W0 H (.slice a b.size c) b := ⟨a, c, S, rfl, h.sh, h.rd, h.at_⟩
theorem dWrite {s : DS} {M M' : DM} {e : Int} (h : s.ok M) (hm : Small M) (d : Nat) (path b : ByteArray) (hpath : path.size ≤ 9223372036854775807) (hb : b.size ≤ 1000000000) (K : List Grp) (W0 : World) (H : List Grp) {bv : Value} (hbv : BytesV W0 (K ++ H) bv b) (he : writeM M path b = (e, M')) :
    Tri Try.prog 13 #[.pointer (some ⟨d, 0, none⟩), .string path, bv] W0 (K ++ (s.G d M ++ H)) (IsK K d M' (.int .i64 e) H) := by
  have := cWrite h hm d path b hpath hb W0 (K ++ H) hbv
  rw [he] at this
  exact is_front this
theorem dAppend {s : DS} {M M' : DM} {e : Int} (h : s.ok M) (hm : Small M) (d : Nat) (path b : ByteArray) (hpath : path.size ≤ 9223372036854775807) (hb : b.size ≤ 1000000000) (K : List Grp) (W0 : World) (H : List Grp) {bv : Value} (hbv : BytesV W0 (K ++ H) bv b) (he : appendM M path b = (e, M')) :
    Tri Try.prog 22 #[.pointer (some ⟨d, 0, none⟩), .string path, bv] W0 (K ++ (s.G d M ++ H)) (IsK K d M' (.int .i64 e) H) := by
  have := cAppend h hm d path b hpath hb W0 (K ++ H) hbv
  rw [he] at this
  exact is_front this
theorem dSync {s : DS} {M M' : DM} {e : Int} (h : s.ok M) (hm : Small M) (d : Nat) (path : ByteArray) (hpath : path.size ≤ 9223372036854775807) (K : List Grp) (W0 : World) (H : List Grp) (he : syncM M path = (e, M')) :
    Tri Try.prog 14 #[.pointer (some ⟨d, 0, none⟩), .string path] W0 (K ++ (s.G d M ++ H)) (IsK K d M' (.int .i64 e) H) := by
  have := cSync h hm d path hpath W0 (K ++ H)
  rw [he] at this
  exact is_front this
theorem dRemove {s : DS} {M M' : DM} {e : Int} (h : s.ok M) (hm : Small M) (d : Nat) (path : ByteArray) (hpath : path.size ≤ 9223372036854775807) (K : List Grp) (W0 : World) (H : List Grp) (he : removeM M path = (e, M')) :
    Tri Try.prog 43 #[.pointer (some ⟨d, 0, none⟩), .string path] W0 (K ++ (s.G d M ++ H)) (IsK K d M' (.int .i64 e) H) := by
  have := cRemove h hm d path hpath W0 (K ++ H)
  rw [he] at this
  exact is_front this
theorem dSyncDir {s : DS} {M M' : DM} {e : Int} (h : s.ok M) (hm : Small M) (d : Nat) (path : ByteArray) (hpath : path.size ≤ 9223372036854775807) (K : List Grp) (W0 : World) (H : List Grp) (he : syncDirM M path = (e, M')) :
    Tri Try.prog 15 #[.pointer (some ⟨d, 0, none⟩), .string path] W0 (K ++ (s.G d M ++ H)) (IsK K d M' (.int .i64 e) H) := by
  have := cSyncDir h hm d path hpath W0 (K ++ H)
  rw [he] at this
  exact is_front this
theorem dRename {s : DS} {M M' : DM} {e : Int} (h : s.ok M) (hm : Small M) (d : Nat) (path to : ByteArray) (hpath : path.size ≤ 9223372036854775807) (hto : to.size ≤ 9223372036854775807) (K : List Grp) (W0 : World) (H : List Grp) (he : renameM M path to = (e, M')) :
    Tri Try.prog 17 #[.pointer (some ⟨d, 0, none⟩), .string path, .string to] W0 (K ++ (s.G d M ++ H)) (IsK K d M' (.int .i64 e) H) := by
  have := cRename h hm d path to hpath hto W0 (K ++ H)
  rw [he] at this
  exact is_front this
theorem dFail {s : DS} {M M' : DM} (h : s.ok M) (d : Nat) (n : Int) (o : Bool) (K : List Grp) (W0 : World) (H : List Grp) (he : failM M n o = M') :
    Tri Try.prog 16 #[.pointer (some ⟨d, 0, none⟩), .int .i64 n, .bool o] W0 (K ++ (s.G d M ++ H)) (IsK K d M' (.tuple #[]) H) := by
  have := cFail h d n o W0 (K ++ H)
  rw [he] at this
  exact is_front this
theorem dCrash {s : DS} {M M' : DM} (h : s.ok M) (hm : Small M) (d : Nat) (l : List Int) (a : Option Addr) (c : Nat) (S0 : Nat → Obj → Prop) (hks : KsOk S0 ⟨l, a, c⟩) (K : List Grp) (W0 : World) (H : List Grp) (hS0 : ∀ y o, S0 y o → At W0 (K ++ H) y o) (he : crashM M l = M') :
    Tri Try.prog 18 #[.pointer (some ⟨d, 0, none⟩), .slice a l.length c] W0 (K ++ (s.G d M ++ H)) (IsK K d M' (.tuple #[]) H) := by
  subst he
  exact is_front (cCrash h hm d ⟨l, a, c⟩ S0 hks W0 (K ++ H) hS0)
theorem dNew (room : Int) {M : DM} (W0 : World) (H : List Grp) (he : newM room = M) : Tri Try.prog 12 #[.int .i64 room] W0 H (fun v H' => ∃ d, v = .pointer (some ⟨d, 0, none⟩) ∧ ∃ s : DS, s.ok M ∧ H' = s.G d M ++ H) := by
  subst he; exact cNew room W0 H
/-- what is read: its slice, its row -/
theorem dRead {s : DS} {M : DM} {b : ByteArray} {e : Int} (h : s.ok M) (hm : ∀ B ∈ M.bodies, B.now.size ≤ 10000000) (d : Nat) (path : ByteArray) (K : List Grp) (W0 : World) (H : List Grp) (he : readM M path = (b, e)) :
    Tri Try.prog 19 #[.pointer (some ⟨d, 0, none⟩), .string path] W0 (K ++ (s.G d M ++ H)) (fun v H' => ∃ a c g, v = .tuple #[.slice a b.size c, .int .i64 e] ∧ b.size ≤ c ∧ Rd (inG g) a (u8s b.data.toList) ∧ H' = g :: (K ++ (s.G d M ++ H))) := by
  have := cRead h hm d path W0 (K ++ H)
  rw [he] at this
  refine Tri.heap (fun _ hw => front_to hw) (Tri.post this fun v H1 ⟨x, g, hv, ho, hH⟩ => ?_)
  obtain ⟨a, c, rfl, hc, hr⟩ := ho.shape
  refine ⟨_, ⟨a, c, g, hv, hc, hr, rfl⟩, fun w hw => ?_⟩
  rw [hH] at hw
  refine sat_cnt hw fun _ x => ?_
  simp only [List.flatten_cons, List.flatten_append, List.count_append]
  omega
theorem dUsed {s : DS} {M : DM} {n : Nat} (h : s.ok M) (hm : Small M) (d : Nat) (K : List Grp) (W0 : World) (H : List Grp) (he : usedM M = n) :
    Tri Try.prog 26 #[.pointer (some ⟨d, 0, none⟩)] W0 (K ++ (s.G d M ++ H)) (fun v H' => v = .int .i64 (n : Int) ∧ H' = K ++ (s.G d M ++ H)) := by
  subst he
  exact Tri.heap (fun _ hw => front_to hw) (Tri.post (cUsed h hm d W0 (K ++ H)) fun _ _ ⟨hv, hH⟩ => ⟨_, ⟨hv, rfl⟩, fun w hw => by rw [hH] at hw; exact front_to hw⟩)
theorem dList {s : DS} {M : DM} {L : List ByteArray} (h : s.ok M) (hm : Small M) (d : Nat) (dir : ByteArray) (K : List Grp) (W0 : World) (H : List Grp) (he : listM M dir = L) :
    Tri Try.prog 21 #[.pointer (some ⟨d, 0, none⟩), .string dir] W0 (K ++ (s.G d M ++ H)) (fun v H' => ∃ a c g, v = .slice a L.length c ∧ L.length ≤ c ∧ Rd (inG g) a (strs L) ∧ H' = g :: (K ++ (s.G d M ++ H))) := by
  subst he
  refine Tri.heap (fun _ hw => front_to hw) (Tri.post (cList h hm d dir W0 (K ++ H)) fun v H1 ⟨g, ho, hH⟩ => ?_)
  obtain ⟨a, c, hv, hc, hr⟩ := ho.shape
  refine ⟨_, ⟨a, c, g, hv, hc, hr, rfl⟩, fun w hw => ?_⟩
  rw [hH] at hw
  refine sat_cnt hw fun _ x => ?_
  simp only [List.flatten_cons, List.flatten_append, List.count_append]
  omega
end Go.Vf

namespace Go.Proofs.Ytbmieiffboenbaa
open Go Go.ChangeShapes Go.WideShapes Go.ChangeAt Go.RowKit Go.Sw Go.Vf

theorem laidOut_ : laidOutB Try.prog = true := by kernel_rfl
/-- what lies in a start's world -/
def SW (W : World) (y : Nat) (o : Obj) : Prop := y < W.heap.size ∧ W.heap[y]? = some o
theorem sw_at {W : World} {y : Nat} {o : Obj} (h : SW W y o) : At W [] y o := .inl h
theorem rd_cells {W : World} {a : Addr} {cs : List Value} (hn : cs ≠ []) (h : ∀ j u, cs[j]? = some u → W.cell? (a.add j) = some u) : (∃ b off, a = ⟨b, off, none⟩) ∧ Rd (SW W) (some a) cs := by
  obtain ⟨b, off, sp⟩ := a
  cases cs with
  | nil => exact absurd rfl hn
  | cons v r =>
    have h0 := h 0 v rfl
    unfold World.cell? at h0
    rw [show (Addr.add ⟨b, off, sp⟩ 0) = ⟨b, off, sp⟩ from rfl] at h0
    cases hb : W.heap[b]? with
    | none => rw [show (⟨b, off, sp⟩ : Addr).block = b from rfl, hb] at h0; cases h0
    | some o =>
      rw [show (⟨b, off, sp⟩ : Addr).block = b from rfl, hb] at h0
      cases o with
      | cells c e fz =>
        cases sp with
        | some s => simp at h0
        | none =>
          refine ⟨⟨b, off, rfl⟩, .inr ⟨b, off, c, e, fz, rfl, ⟨?_, hb⟩, fun j u hu => ?_⟩⟩
          · rcases Nat.lt_or_ge b W.heap.size with h | h
            · exact h
            · rw [Array.getElem?_eq_none h] at hb; cases hb
          · have hj := h j u hu
            rw [addr_add] at hj
            unfold World.cell? at hj
            rw [show (⟨b, off + j, none⟩ : Addr).block = b from rfl, hb] at hj
            simpa using hj
      | _ => cases h0
theorem wf_u8 {n : Int} (h : (Lit.int .u8 n).wf = true) : 0 ≤ n ∧ n < 256 := by
  simp [Lit.wf, IntKind.min, IntKind.max, IntKind.bits, IntKind.signed] at h
  omega
theorem wf_i64 {n : Int} (h : (Lit.int .i64 n).wf = true) : -9223372036854775808 ≤ n ∧ n ≤ 9223372036854775807 := by
  simp [Lit.wf, IntKind.min, IntKind.max, IntKind.bits, IntKind.signed] at h
  omega
def bytesZ (zs : List Int) : ByteArray := ⟨(zs.map fun z => UInt8.ofNat z.toNat).toArray⟩
theorem u8s_bytesZ {zs : List Int} (h : ∀ n ∈ zs, 0 ≤ n ∧ n < 256) : u8s (bytesZ zs).data.toList = zs.map (Value.int .u8) := by
  unfold u8s bytesZ
  simp only [List.map_map]
  refine List.map_congr_left fun z hz => ?_
  obtain ⟨h0, h1⟩ := h z hz
  simp only [Function.comp]
  congr 1
  rw [UInt8.toNat_ofNat']
  omega
theorem bytesZ_size (zs : List Int) : (bytesZ zs).size = zs.length := by
  show (zs.map fun z => UInt8.ofNat z.toNat).toArray.size = _
  simp
theorem cells_str : Try.prog.cellsOf 9 = 1 := by kernel_rfl
theorem cells_bs : Try.prog.cellsOf 24 = 1 := by kernel_rfl
theorem cells_is : Try.prog.cellsOf 25 = 1 := by kernel_rfl
theorem cells_op : Try.prog.cellsOf 41 = 6 := by kernel_rfl
theorem cells_u8 : Try.prog.cellsOf 5 = 1 := by kernel_rfl
theorem cells_int : Try.prog.cellsOf 3 = 1 := by kernel_rfl
set_option maxRecDepth 100000 in
theorem bytes_core {H : Type} {enc : TypeId × Value → H} {W : World} {cs : List Value} {x : DataW H × List MemPlace} {fuel : Nat} (hf : DataW.trod enc Try.prog W 0 (fun _ => true) true fuel 24 cs = some x) :
    ∃ (a : Option Addr) (c : Nat) (b : ByteArray), cs = [.slice a b.size c] ∧ BytesA W [] a c (SW W) b ∧ b.size ≤ 9223372036854775807 := by
  rcases open_ints Try.underlying24 Try.underlying5 cells_u8 hf with ⟨hcs, hx⟩ | ⟨a, len, cap, zs, hcs, _, hl, hm, hz, hx, hcell, hwz⟩
  · subst hcs
    exact ⟨none, 0, ByteArray.mk #[], rfl, ⟨.inl ⟨rfl, rfl, rfl⟩, .inl rfl, fun y o h => sw_at h⟩, by decide⟩
  · subst hcs
    simp only [if_true] at hz
    have hlen : (zs.take len).length = len := by rw [List.length_take]; omega
    have hu : u8s (bytesZ (zs.take len)).data.toList = (zs.take len).map (Value.int .u8) := u8s_bytesZ fun n hn => wf_u8 (hwz n (List.mem_of_mem_take hn))
    have hml : maxLen ≤ 9223372036854775807 := by decide
    refine ⟨some a, cap, bytesZ (zs.take len), by rw [bytesZ_size, hlen], ?_, by rw [bytesZ_size, hlen]; omega⟩
    by_cases h0 : len = 0
    · subst h0
      exact ⟨.inr (.inl ⟨a, rfl, by rw [bytesZ_size]; simp⟩), .inl (by rw [hu]; simp), fun y o h => sw_at h⟩
    · obtain ⟨⟨b, off, rfl⟩, hrd⟩ := rd_cells (W := W) (a := a) (cs := (zs.take len).map (Value.int .u8)) (by intro he; rw [List.map_eq_nil_iff] at he; rw [he] at hlen; simp at hlen; omega) (fun j u hu => by
        rw [List.getElem?_map] at hu
        obtain ⟨z, hz1, rfl⟩ := Option.map_eq_some_iff.1 hu
        have hj : j < len := by
          rcases Nat.lt_or_ge j (zs.take len).length with h | h
          · omega
          · rw [List.getElem?_eq_none h] at hz1; cases hz1
        rw [List.getElem?_take_of_lt hj] at hz1
        rw [hcell j (by omega), List.getD_eq_getElem?_getD, hz1]; rfl)
      exact ⟨.inr (.inr ⟨b, off, rfl⟩), by rw [hu]; exact hrd, fun y o h => sw_at h⟩
set_option maxRecDepth 100000 in
theorem open_bytesA {H : Type} {enc : TypeId × Value → H} {W : World} {v : Value} {d : DataW H} {p : List MemPlace} {r : Reach} {b0 : Nat} (hval : Value.okWide Try.prog W r b0 24 v) (h0 : DataW.Trod enc Try.prog W 0 (fun _ => true) true 24 v d p) :
    ∃ (a : Option Addr) (c : Nat) (b : ByteArray), v = .slice a b.size c ∧ BytesA W [] a c (SW W) b ∧ b.size ≤ 9223372036854775807 := by
  obtain ⟨a0, len, cap, rfl⟩ := okWide_slice Try.underlying24 hval
  obtain ⟨fuel, hf⟩ := h0
  obtain ⟨a, c, b, h1, h2⟩ := bytes_core hf
  exact ⟨a, c, b, by simpa [Value.cells] using h1, h2⟩
set_option maxRecDepth 100000 in
theorem ints_core {H : Type} {enc : TypeId × Value → H} {W : World} {cs : List Value} {x : DataW H × List MemPlace} {fuel : Nat} (hf : DataW.trod enc Try.prog W 0 (fun _ => true) true fuel 25 cs = some x) :
    ∃ (a : Option Addr) (c : Nat) (l : List Int), cs = [.slice a l.length c] ∧ Rd (SW W) a (l.map (Value.int .i64)) ∧ l.length ≤ c ∧ (∀ x ∈ l, -9223372036854775808 ≤ x ∧ x ≤ 9223372036854775807) ∧ l.length ≤ 9223372036854775807 := by
  rcases open_ints Try.underlying25 Try.underlying3 cells_int hf with ⟨hcs, hx⟩ | ⟨a, len, cap, zs, hcs, _, hl, hm, hz, hx, hcell, hwz⟩
  · subst hcs
    exact ⟨none, 0, [], rfl, .inl rfl, Nat.le_refl _, fun _ h => absurd h List.not_mem_nil, by decide⟩
  · subst hcs
    simp only [if_true] at hz
    have hlen : (zs.take len).length = len := by rw [List.length_take]; omega
    have hml : maxLen ≤ 9223372036854775807 := by decide
    refine ⟨some a, cap, zs.take len, by rw [hlen], ?_, by rw [hlen]; exact hl, fun x hx => wf_i64 (hwz x (List.mem_of_mem_take hx)), by rw [hlen]; omega⟩
    by_cases h0 : len = 0
    · subst h0; exact .inl (by simp)
    · exact (rd_cells (W := W) (a := a) (cs := (zs.take len).map (Value.int .i64)) (by intro he; rw [List.map_eq_nil_iff] at he; rw [he] at hlen; simp at hlen; omega) (fun j u hu => by
        rw [List.getElem?_map] at hu
        obtain ⟨z, hz1, rfl⟩ := Option.map_eq_some_iff.1 hu
        have hj : j < len := by
          rcases Nat.lt_or_ge j (zs.take len).length with h | h
          · omega
          · rw [List.getElem?_eq_none h] at hz1; cases hz1
        rw [List.getElem?_take_of_lt hj] at hz1
        rw [hcell j (by omega), List.getD_eq_getElem?_getD, hz1]; rfl)).2
set_option maxRecDepth 100000 in
theorem open_intsA {H : Type} {enc : TypeId × Value → H} {W : World} {v : Value} {d : DataW H} {p : List MemPlace} {r : Reach} {b0 : Nat} (hval : Value.okWide Try.prog W r b0 25 v) (h0 : DataW.Trod enc Try.prog W 0 (fun _ => true) true 25 v d p) :
    ∃ (a : Option Addr) (c : Nat) (l : List Int), v = .slice a l.length c ∧ Rd (SW W) a (l.map (Value.int .i64)) ∧ l.length ≤ c ∧ (∀ x ∈ l, -9223372036854775808 ≤ x ∧ x ≤ 9223372036854775807) ∧ l.length ≤ 9223372036854775807 := by
  obtain ⟨a0, len, cap, rfl⟩ := okWide_slice Try.underlying25 hval
  obtain ⟨fuel, hf⟩ := h0
  obtain ⟨a, c, l, h1, h2⟩ := ints_core hf
  exact ⟨a, c, l, by simpa [Value.cells] using h1, h2⟩
end Go.Proofs.Ytbmieiffboenbaa

namespace Go.Vf
open Go.Sw Go.RowKit Go.Proofs Go.Proofs.Ytbmieiffboenbaa

structure OpV where
  kind : Int
  path : ByteArray
  to : ByteArray
  ba : Option Addr
  bc : Nat
  b : ByteArray
  n : Int
  ka : Option Addr
  kc : Nat
  k : List Int
instance : Inhabited OpV := ⟨⟨0, ByteArray.mk #[], ByteArray.mk #[], none, 0, ByteArray.mk #[], 0, none, 0, []⟩⟩
def opCells (o : OpV) : List Value := [.int .i64 o.kind, .string o.path, .string o.to, .slice o.ba o.b.size o.bc, .int .i64 o.n, .slice o.ka o.k.length o.kc]
structure OpOk (S : Nat → Obj → Prop) (W0 : World) (H : List Grp) (o : OpV) : Prop where
  kind : -9223372036854775808 ≤ o.kind ∧ o.kind ≤ 9223372036854775807
  path : o.path.size ≤ 9223372036854775807
  to : o.to.size ≤ 9223372036854775807
  b : BytesA W0 H o.ba o.bc S o.b
  bs : o.b.size ≤ 9223372036854775807
  n : -9223372036854775808 ≤ o.n ∧ o.n ≤ 9223372036854775807
  k : Rd S o.ka (o.k.map (Value.int .i64))
  kc : o.k.length ≤ o.kc
  ki : ∀ x ∈ o.k, -9223372036854775808 ≤ x ∧ x ≤ 9223372036854775807
  kl : o.k.length ≤ 9223372036854775807
  at_ : ∀ y o, S y o → At W0 H y o
theorem ops_len (l : List OpV) : (l.flatMap opCells).length = l.length * 6 := by
  induction l with
  | nil => rfl
  | cons o l ih => rw [List.flatMap_cons, List.length_append, ih, List.length_cons]; show 6 + _ = _; omega
theorem op_at {l : List OpV} {i : Nat} (h : i < l.length) : ∀ m, m < 6 → (l.flatMap opCells)[i * 6 + m]? = (opCells (l.getD i default))[m]? := by
  induction l generalizing i with
  | nil => simp at h
  | cons o l ih =>
    intro m hm
    rw [List.flatMap_cons]
    cases i with
    | zero =>
      rw [Nat.zero_mul, Nat.zero_add, List.getElem?_append_left (by show m < 6; exact hm)]; rfl
    | succ i =>
      have e : (i + 1) * 6 + m = 6 + (i * 6 + m) := by omega
      rw [e, List.getElem?_append_right (by show 6 ≤ _; omega), show (opCells o).length = 6 from rfl, Nat.add_sub_cancel_left, ih (by simpa using h) m hm, List.getD_cons_succ]
/-- which act: the number's rest by 8 -/
def kindU (o : OpV) : Int := Int.tmod (IntKind.wrap .u64 o.kind) 8
/-- an act of the first six sorts (any other: SyncDir) -/
def tryM (M : DM) (o : OpV) : Int × DM :=
  if kindU o = 0 then writeM M o.path o.b else if kindU o = 1 then appendM M o.path o.b else if kindU o = 2 then renameM M o.path o.to
  else if kindU o = 3 then removeM M o.path else if kindU o = 4 then syncM M o.path else syncDirM M o.path
end Go.Vf

namespace Go.Proofs.Ytbmieiffboenbaa
open Go Go.ChangeShapes Go.WideShapes Go.ChangeAt Go.RowKit Go.Sw Go.Vf

set_option maxRecDepth 100000 in
theorem op_core {H : Type} {enc : TypeId × Value → H} {W : World} {cs : List Value} {x : DataW H × List MemPlace} {fuel : Nat} (hf : DataW.trod enc Try.prog W 0 (fun _ => true) true fuel 41 cs = some x) :
    ∃ o : OpV, cs = opCells o ∧ OpOk (SW W) W [] o := by
  obtain ⟨xs, n, rfl, rfl, hl, hx, hs⟩ := DataW.trod_struct Try.underlying41 hf
  have hl6 : cs.length = 6 := by rw [hl]; kernel_rfl
  obtain ⟨c0, c1, c2, c3, c4, c5, rfl⟩ : ∃ c0 c1 c2 c3 c4 c5, cs = [c0, c1, c2, c3, c4, c5] := by
    match cs, hl6 with
    | [c0, c1, c2, c3, c4, c5], _ => exact ⟨c0, c1, c2, c3, c4, c5, rfl⟩
  have h0 : DataW.trod enc Try.prog W 0 (fun _ => true) true n 3 ((List.drop 0 [c0, c1, c2, c3, c4, c5]).take (Try.prog.cellsOf 3)) = xs[0]? := hs 0 _ rfl
  rw [cells_int] at h0
  have h1 : DataW.trod enc Try.prog W 0 (fun _ => true) true n 9 ((List.drop 1 [c0, c1, c2, c3, c4, c5]).take (Try.prog.cellsOf 9)) = xs[1]? := hs 1 _ rfl
  rw [cells_str] at h1
  have h2 : DataW.trod enc Try.prog W 0 (fun _ => true) true n 9 ((List.drop 2 [c0, c1, c2, c3, c4, c5]).take (Try.prog.cellsOf 9)) = xs[2]? := hs 2 _ rfl
  rw [cells_str] at h2
  have h3 : DataW.trod enc Try.prog W 0 (fun _ => true) true n 24 ((List.drop 3 [c0, c1, c2, c3, c4, c5]).take (Try.prog.cellsOf 24)) = xs[3]? := hs 3 _ rfl
  rw [cells_bs] at h3
  have h4 : DataW.trod enc Try.prog W 0 (fun _ => true) true n 3 ((List.drop 4 [c0, c1, c2, c3, c4, c5]).take (Try.prog.cellsOf 3)) = xs[4]? := hs 4 _ rfl
  rw [cells_int] at h4
  have h5 : DataW.trod enc Try.prog W 0 (fun _ => true) true n 25 ((List.drop 5 [c0, c1, c2, c3, c4, c5]).take (Try.prog.cellsOf 25)) = xs[5]? := hs 5 _ rfl
  rw [cells_is] at h5
  have hx6 : xs.length = 6 := by rw [hx]; rfl
  rw [List.getElem?_eq_getElem (by omega)] at h0 h1 h2 h3 h4 h5
  simp only [List.drop_succ_cons, List.drop_zero, List.take_succ_cons, List.take_zero] at h0 h1 h2 h3 h4 h5
  obtain ⟨kd, e0, _, w0⟩ := DataW.trod_int Try.underlying3 h0
  obtain ⟨path, e1, _, w1⟩ := DataW.trod_string Try.underlying9 h1
  obtain ⟨to, e2, _, w2⟩ := DataW.trod_string Try.underlying9 h2
  obtain ⟨ba, bc, b, e3, w3, w31⟩ := bytes_core h3
  obtain ⟨m, e4, _, w4⟩ := DataW.trod_int Try.underlying3 h4
  obtain ⟨ka, kc, k, e5, w5, w51, w52, w53⟩ := ints_core h5
  injection e0 with e0 _
  injection e1 with e1 _
  injection e2 with e2 _
  injection e3 with e3 _
  injection e4 with e4 _
  injection e5 with e5 _
  subst e0 e1 e2 e3 e4 e5
  have hml : maxLen ≤ 9223372036854775807 := by decide
  exact ⟨⟨kd, path, to, ba, bc, b, m, ka, kc, k⟩, rfl, ⟨wf_i64 w0, by show path.size ≤ _; omega, by show to.size ≤ _; omega, w3, w31, wf_i64 w4, w5, w51, w52, w53, fun y o h => sw_at h⟩⟩
theorem add_add6 (a : Addr) (i j : Nat) (h : i ≤ j) : (a.add i).add (j - i) = a.add j := by
  unfold Addr.add
  by_cases hm0 : i = 0
  · simp [hm0]
  · by_cases hj0 : j - i = 0
    · have : j = i := by omega
      simp [this]
    · have : j ≠ 0 := by omega
      simp [hm0, hj0, this]
      omega
set_option maxRecDepth 100000 in
theorem open_script {H : Type} {enc : TypeId × Value → H} {W : World} {v : Value} {d : DataW H} {p : List MemPlace} {r : Reach} {b0 : Nat} (hval : Value.okWide Try.prog W r b0 38 v) (h0 : DataW.Trod enc Try.prog W 0 (fun _ => true) true 38 v d p) :
    ∃ (a : Option Addr) (c : Nat) (l : List OpV), v = .slice a l.length c ∧ Rd (SW W) a (l.flatMap opCells) ∧ l.length ≤ c ∧ (∀ o ∈ l, OpOk (SW W) W [] o) ∧ l.length ≤ 9223372036854775807 := by
  obtain ⟨a0, len, cap, rfl⟩ := okWide_slice Try.underlying38 hval
  obtain ⟨fuel, hf⟩ := h0
  have hml : maxLen ≤ 9223372036854775807 := by decide
  rcases DataW.trod_slice Try.underlying38 hf with ⟨hcs, _⟩ | ⟨a, len', cap', elems, rest, n, rfl, hcs, _, _, hl, hm, hlen, hel, _, _⟩
  · simp [Value.cells] at hcs
    obtain ⟨rfl, rfl, rfl⟩ := hcs
    exact ⟨none, 0, [], rfl, .inl rfl, Nat.le_refl _, fun _ h => absurd h List.not_mem_nil, by decide⟩
  · simp [Value.cells] at hcs
    obtain ⟨rfl, rfl, rfl⟩ := hcs
    rw [cells_op] at hel
    have each : ∀ i, i < len → ∃ o : OpV, OpOk (SW W) W [] o ∧ ∀ j, j < 6 → W.cell? ((a.add (i * 6)).add j) = (opCells o)[j]? := by
      intro i hi
      have h := hel i hi
      rw [List.getElem?_eq_getElem (by omega)] at h
      obtain ⟨cs, hc, ht⟩ := Option.bind_eq_some_iff.1 h
      obtain ⟨o, rfl, ho⟩ := op_core ht
      exact ⟨o, ho, (World.cells?_some hc).2.2⟩
    have build : ∀ m, m ≤ len → ∃ l : List OpV, l.length = m ∧ (∀ o ∈ l, OpOk (SW W) W [] o) ∧ ∀ j u, (l.flatMap opCells)[j]? = some u → W.cell? (a.add j) = some u := by
      intro m
      induction m with
      | zero => intro _; exact ⟨[], rfl, fun _ h => absurd h List.not_mem_nil, fun j u h => by simp at h⟩
      | succ m ih =>
        intro hm1
        obtain ⟨l, h1, h2, h3⟩ := ih (by omega)
        obtain ⟨o, ho, hc⟩ := each m (by omega)
        have hll : (l.flatMap opCells).length = m * 6 := by rw [ops_len, h1]
        refine ⟨l ++ [o], by simp [h1], fun x hx => ?_, fun j u hu => ?_⟩
        · rcases List.mem_append.1 hx with hx | hx
          · exact h2 x hx
          · rw [List.mem_singleton.1 hx]; exact ho
        · rw [List.flatMap_append] at hu
          rcases Nat.lt_or_ge j (m * 6) with hlt | hge
          · rw [List.getElem?_append_left (by omega)] at hu
            exact h3 j u hu
          · rw [List.getElem?_append_right (by omega), hll] at hu
            simp only [List.flatMap_cons, List.flatMap_nil, List.append_nil] at hu
            have hj : j - m * 6 < 6 := by
              rcases Nat.lt_or_ge (j - m * 6) 6 with h | h
              · exact h
              · rw [List.getElem?_eq_none (by exact h)] at hu; cases hu
            have h4 := hc (j - m * 6) hj
            rw [hu, add_add6 a (m * 6) j hge] at h4
            exact h4
    obtain ⟨l, h1, h2, h3⟩ := build len (Nat.le_refl _)
    refine ⟨some a, cap, l, by rw [h1], ?_, by omega, h2, by omega⟩
    by_cases h0 : l.flatMap opCells = []
    · rw [h0]; exact .inl rfl
    · exact (rd_cells h0 h3).2
end Go.Proofs.Ytbmieiffboenbaa

namespace Go.Vf
open Go.Sw Go.Proofs.Ytbmieiffboenbaa

def pP : ByteArray := ByteArray.mk #[112]
def pQ : ByteArray := ByteArray.mk #[113]
def p0 : ByteArray := ByteArray.mk #[]
theorem right_p : rightB pP = true := by decide +kernel
theorem right_q : rightB pQ = true := by decide +kernel
theorem dir_p : dirB pP = p0 := by decide +kernel
theorem dir_q : dirB pQ = p0 := by decide +kernel
theorem dirR_0 : dirR p0 = true := by unfold dirR; rw [show (p0.toList == (ByteArray.mk #[]).toList) = true from beq_self_eq_true _]; rfl
theorem renR_qp : renR pQ pP = true := by unfold renR; rw [right_p, right_q, dir_p, dir_q, beq_self_eq_true]; rfl
theorem pq_ne : (pQ == pP) = false := by decide
theorem qp_ne : (pP == pQ) = false := by decide
def sw1 (a : ByteArray) : DM := ⟨1048576, [⟨a, p0⟩], [(pP, 0)], [], [⟨p0, [(pP, 0)]⟩], false, false, 0⟩
def sw2 (a : ByteArray) : DM := ⟨1048576, [⟨a, a⟩], [(pP, 0)], [], [⟨p0, [(pP, 0)]⟩], false, false, 0⟩
def sw3 (a : ByteArray) : DM := ⟨1048576, [⟨a, a⟩], [(pP, 0)], [(pP, 0)], [], false, false, 0⟩
def sw4 (a : ByteArray) (n : Int) : DM := ⟨1048576, [⟨a, a⟩], [(pP, 0)], [(pP, 0)], [], true, false, n⟩
def sw5 (a b : ByteArray) (n : Int) : DM := ⟨1048576, [⟨a, a⟩, ⟨b, p0⟩], [(pP, 0), (pQ, 1)], [(pP, 0)], [⟨p0, [(pQ, 1)]⟩], true, false, n⟩
def sw6 (a b : ByteArray) (n : Int) : DM := ⟨1048576, [⟨a, a⟩, ⟨b, b⟩], [(pP, 0), (pQ, 1)], [(pP, 0)], [⟨p0, [(pQ, 1)]⟩], true, false, n⟩
def sw7 (a b : ByteArray) (n : Int) : DM := ⟨1048576, [⟨a, a⟩, ⟨b, b⟩], [(pP, 1)], [(pP, 0)], [⟨p0, [(pQ, 1)]⟩, ⟨p0, [(pQ, -1), (pP, 1)]⟩], true, false, n⟩
def sw8 (a b : ByteArray) (n : Int) : DM := ⟨1048576, [⟨a, a⟩, ⟨b, b⟩], [(pP, 1)], [(pP, 1)], [], true, false, n⟩
theorem err_ok {M : DM} {r : Bool} (hr : r = true) (hf : M.fails = false) : errM M r = 0 ∧ callM M r = M := by
  subst hr
  unfold errM callM callS
  rw [hf]
  refine ⟨rfl, ?_⟩
  cases M; simp only at hf; subst hf; rfl
theorem err_go {M : DM} {r : Bool} (hr : r = true) (hf : M.fails = true) (hc : M.calls > 0) : errM M r = 0 ∧ callM M r = { M with calls := M.calls - 1 } := by
  subst hr
  unfold errM callM callS
  rw [hf, if_neg (by decide), if_neg (by decide), if_pos hc]
  refine ⟨rfl, ?_⟩
  cases M; simp only at hf; subst hf; rfl
theorem err_no {M : DM} {r : Bool} (hr : r = true) (hf : M.fails = true) (ho : M.once = false) (hc : ¬ M.calls > 0) : errM M r = 62 ∧ callM M r = M := by
  subst hr
  unfold errM callM callS
  rw [hf, if_neg (by decide), if_neg (by decide), if_neg hc]
  refine ⟨rfl, ?_⟩
  cases M; simp only at hf ho; subst hf ho; rfl
theorem write_p {a : ByteArray} (ha : a.size ≤ 1000) : writeM (newM 1048576) pP a = (0, sw1 a) := by
  obtain ⟨e1, e2⟩ := err_ok (M := newM 1048576) right_p rfl
  have hr : ¬ (usedM (newM 1048576) : Int) - (wasM (newM 1048576) pP : Int) + (a.size : Int) > (newM 1048576).room := by
    show ¬ ((0 : Nat) : Int) - ((0 : Nat) : Int) + (a.size : Int) > 1048576
    omega
  rw [writeM_ok e1 hr, e2, dir_p]; rfl
theorem sync_p {a : ByteArray} : syncM (sw1 a) pP = (0, sw2 a) := by
  obtain ⟨e1, e2⟩ := err_ok (M := sw1 a) right_p rfl
  rw [syncM_ok (k := 0) e1 rfl, e2]; rfl
theorem sdir_p {a : ByteArray} : syncDirM (sw2 a) p0 = (0, sw3 a) := by
  obtain ⟨e1, e2⟩ := err_ok (M := sw2 a) dirR_0 rfl
  rw [syncDirM_ok e1, e2]; rfl
theorem fail_p {a : ByteArray} {n : Int} : failM (sw3 a) n false = sw4 a (if 0 > n then 0 else n) := rfl
theorem fail_pn {a : ByteArray} {n t : Int} (h : n = if 0 > t then 0 else t) : failM (sw3 a) t false = sw4 a n := by rw [h]; rfl
theorem write_q {a b : ByteArray} {n : Int} (ha : a.size ≤ 1000) (hb : b.size ≤ 1000) (hn : n > 0) : writeM (sw4 a n) pQ b = (0, sw5 a b (n - 1)) := by
  obtain ⟨e1, e2⟩ := err_go (M := sw4 a n) right_q rfl hn
  have hr : ¬ (usedM (sw4 a n) : Int) - (wasM (sw4 a n) pQ : Int) + (b.size : Int) > (sw4 a n).room := by
    show ¬ ((a.size + 0 : Nat) : Int) - ((0 : Nat) : Int) + (b.size : Int) > 1048576
    omega
  rw [writeM_ok e1 hr, e2, dir_q]; rfl
theorem write_q0 {a b : ByteArray} {n : Int} (hn : ¬ n > 0) : writeM (sw4 a n) pQ b = (62, sw4 a n) := by
  obtain ⟨e1, e2⟩ := err_no (M := sw4 a n) right_q rfl rfl hn
  rw [writeM_err (by rw [e1]; decide), e1, e2]
theorem sync_q {a b : ByteArray} {n : Int} (hn : n > 0) : syncM (sw5 a b n) pQ = (0, sw6 a b (n - 1)) := by
  obtain ⟨e1, e2⟩ := err_go (M := sw5 a b n) right_q rfl hn
  rw [syncM_ok (k := 1) e1 rfl, e2]; rfl
theorem sync_q0 {a b : ByteArray} {n : Int} (hn : ¬ n > 0) : syncM (sw5 a b n) pQ = (62, sw5 a b n) := by
  obtain ⟨e1, e2⟩ := err_no (M := sw5 a b n) right_q rfl rfl hn
  rw [syncM_err (by rw [e1]; decide), e1, e2]
theorem ren_q {a b : ByteArray} {n : Int} (hn : n > 0) : renameM (sw6 a b n) pQ pP = (0, sw7 a b (n - 1)) := by
  obtain ⟨e1, e2⟩ := err_go (M := sw6 a b n) renR_qp rfl hn
  rw [renameM_ok (k := 1) e1 rfl pq_ne, e2, dir_p]; rfl
theorem ren_q0 {a b : ByteArray} {n : Int} (hn : ¬ n > 0) : renameM (sw6 a b n) pQ pP = (62, sw6 a b n) := by
  obtain ⟨e1, e2⟩ := err_no (M := sw6 a b n) renR_qp rfl rfl hn
  rw [renameM_err (by rw [e1]; decide), e1, e2]
theorem sdir_q {a b : ByteArray} {n : Int} (hn : n > 0) : syncDirM (sw7 a b n) p0 = (0, sw8 a b (n - 1)) := by
  obtain ⟨e1, e2⟩ := err_go (M := sw7 a b n) dirR_0 rfl hn
  rw [syncDirM_ok e1, e2]; rfl
theorem sdir_q0 {a b : ByteArray} {n : Int} (hn : ¬ n > 0) : syncDirM (sw7 a b n) p0 = (62, sw7 a b n) := by
  obtain ⟨e1, e2⟩ := err_no (M := sw7 a b n) dirR_0 rfl rfl hn
  rw [syncDirM_err (by rw [e1]; decide), e1, e2]
theorem swc (n : Int) : ¬ n > 0 ∨ (n > 0 ∧ ¬ n - 1 > 0) ∨ (n > 0 ∧ n - 1 > 0 ∧ ¬ n - 1 - 1 > 0) ∨ (n > 0 ∧ n - 1 > 0 ∧ n - 1 - 1 > 0 ∧ ¬ n - 1 - 1 - 1 > 0) ∨ (n > 0 ∧ n - 1 > 0 ∧ n - 1 - 1 > 0 ∧ n - 1 - 1 - 1 > 0) := by omega
/-! ## small numbers -/
theorem small1 {M : DM} {x : Body} (hb : M.bodies = [x]) (h1 : x.now.size ≤ 10000000 ∧ x.kept.size ≤ x.now.size) (hn : M.names.length ≤ 10000) (hc : M.changes.length ≤ 100000) (hk : -9223372036854775808 ≤ M.calls ∧ M.calls ≤ 9223372036854775807) (hp : ∀ x ∈ M.names, x.1.size ≤ 1000000) (hd : ∀ c ∈ M.changes, c.dir.size ≤ 1000000) : Small M :=
  ⟨by rw [hb]; show 1 ≤ 100000; omega, fun B hB => by rw [hb] at hB; rw [List.mem_singleton.1 hB]; exact h1, hn, hc, hk, hp, hd⟩
theorem small2 {M : DM} {x y : Body} (hb : M.bodies = [x, y]) (h1 : x.now.size ≤ 10000000 ∧ x.kept.size ≤ x.now.size) (h2 : y.now.size ≤ 10000000 ∧ y.kept.size ≤ y.now.size) (hn : M.names.length ≤ 10000) (hc : M.changes.length ≤ 100000) (hk : -9223372036854775808 ≤ M.calls ∧ M.calls ≤ 9223372036854775807) (hp : ∀ x ∈ M.names, x.1.size ≤ 1000000) (hd : ∀ c ∈ M.changes, c.dir.size ≤ 1000000) : Small M :=
  ⟨by rw [hb]; show 2 ≤ 100000; omega, fun B hB => by
    rw [hb] at hB
    rcases List.mem_cons.1 hB with rfl | hB
    · exact h1
    · rw [List.mem_singleton.1 hB]; exact h2, hn, hc, hk, hp, hd⟩
theorem le_in {n : Int} (h : -9223372036854775808 ≤ n ∧ n ≤ 9223372036854775807) (hn : n > 0) : -9223372036854775808 ≤ n - 1 ∧ n - 1 ≤ 9223372036854775807 := by omega
theorem sm0 : Small (newM 1048576) := ⟨by decide, fun _ h => absurd h List.not_mem_nil, by decide, by decide, by decide, fun _ h => absurd h List.not_mem_nil, fun _ h => absurd h List.not_mem_nil⟩
theorem sz {a : ByteArray} (ha : a.size ≤ 1000) : a.size ≤ 10000000 ∧ a.size ≤ a.size := by omega
theorem sz0 {a : ByteArray} (ha : a.size ≤ 1000) : a.size ≤ 10000000 ∧ p0.size ≤ a.size := ⟨by omega, Nat.zero_le _⟩
theorem sm1 {a : ByteArray} (ha : a.size ≤ 1000) : Small (sw1 a) := small1 (x := ⟨a, p0⟩) rfl (sz0 ha) (by show 1 ≤ 10000; omega) (by show 1 ≤ 100000; omega) (by show (-9223372036854775808 : Int) ≤ 0 ∧ (0 : Int) ≤ 9223372036854775807; omega) (by show ∀ x ∈ [(pP, (0 : Int))], x.1.size ≤ 1000000; decide) (by intro c hc; rw [show c = _ from List.mem_singleton.1 hc]; decide)
theorem sm2 {a : ByteArray} (ha : a.size ≤ 1000) : Small (sw2 a) := small1 (x := ⟨a, a⟩) rfl (sz ha) (by show 1 ≤ 10000; omega) (by show 1 ≤ 100000; omega) (by show (-9223372036854775808 : Int) ≤ 0 ∧ (0 : Int) ≤ 9223372036854775807; omega) (by show ∀ x ∈ [(pP, (0 : Int))], x.1.size ≤ 1000000; decide) (by intro c hc; rw [show c = _ from List.mem_singleton.1 hc]; decide)
theorem sm3 {a : ByteArray} (ha : a.size ≤ 1000) : Small (sw3 a) := small1 (x := ⟨a, a⟩) rfl (sz ha) (by show 1 ≤ 10000; omega) (by show 0 ≤ 100000; omega) (by show (-9223372036854775808 : Int) ≤ 0 ∧ (0 : Int) ≤ 9223372036854775807; omega) (by show ∀ x ∈ [(pP, (0 : Int))], x.1.size ≤ 1000000; decide) (fun _ h => absurd h List.not_mem_nil)
theorem sm4 {a : ByteArray} {n : Int} (ha : a.size ≤ 1000) (hn : -9223372036854775808 ≤ n ∧ n ≤ 9223372036854775807) : Small (sw4 a n) := small1 (x := ⟨a, a⟩) rfl (sz ha) (by show 1 ≤ 10000; omega) (by show 0 ≤ 100000; omega) hn (by show ∀ x ∈ [(pP, (0 : Int))], x.1.size ≤ 1000000; decide) (fun _ h => absurd h List.not_mem_nil)
theorem sm5 {a b : ByteArray} {n : Int} (ha : a.size ≤ 1000) (hb : b.size ≤ 1000) (hn : -9223372036854775808 ≤ n ∧ n ≤ 9223372036854775807) : Small (sw5 a b n) := small2 (x := ⟨a, a⟩) (y := ⟨b, p0⟩) rfl (sz ha) (sz0 hb) (by show 2 ≤ 10000; omega) (by show 1 ≤ 100000; omega) hn (by show ∀ x ∈ [(pP, (0 : Int)), (pQ, 1)], x.1.size ≤ 1000000; decide) (by intro c hc; rw [show c = _ from List.mem_singleton.1 hc]; decide)
theorem sm6 {a b : ByteArray} {n : Int} (ha : a.size ≤ 1000) (hb : b.size ≤ 1000) (hn : -9223372036854775808 ≤ n ∧ n ≤ 9223372036854775807) : Small (sw6 a b n) := small2 (x := ⟨a, a⟩) (y := ⟨b, b⟩) rfl (sz ha) (sz hb) (by show 2 ≤ 10000; omega) (by show 1 ≤ 100000; omega) hn (by show ∀ x ∈ [(pP, (0 : Int)), (pQ, 1)], x.1.size ≤ 1000000; decide) (by intro c hc; rw [show c = _ from List.mem_singleton.1 hc]; decide)
theorem sm7 {a b : ByteArray} {n : Int} (ha : a.size ≤ 1000) (hb : b.size ≤ 1000) (hn : -9223372036854775808 ≤ n ∧ n ≤ 9223372036854775807) : Small (sw7 a b n) := small2 (x := ⟨a, a⟩) (y := ⟨b, b⟩) rfl (sz ha) (sz hb) (by show 1 ≤ 10000; omega) (by show 2 ≤ 100000; omega) hn (by show ∀ x ∈ [(pP, (1 : Int))], x.1.size ≤ 1000000; decide) (by
  intro c hc
  rcases List.mem_cons.1 (show c ∈ [_, _] from hc) with rfl | hc
  · decide
  · rw [List.mem_singleton.1 hc]; decide)
theorem sm8 {a b : ByteArray} {n : Int} (ha : a.size ≤ 1000) (hb : b.size ≤ 1000) (hn : -9223372036854775808 ≤ n ∧ n ≤ 9223372036854775807) : Small (sw8 a b n) := small2 (x := ⟨a, a⟩) (y := ⟨b, b⟩) rfl (sz ha) (sz hb) (by show 1 ≤ 10000; omega) (by show 0 ≤ 100000; omega) hn (by show ∀ x ∈ [(pP, (1 : Int))], x.1.size ≤ 1000000; decide) (fun _ h => absurd h List.not_mem_nil)
theorem crash_size {M : DM} (hm : Small M) (ks : List Int) : ∀ B ∈ (crashM M ks).bodies, B.now.size ≤ 10000000 := fun B hB => (crashB_size (n := 10000000) hm.size B hB).1
/-! ## what a crash leaves -/
theorem crashB_same {a : ByteArray} {r : List Body} {ks : List Int} : crashB (⟨a, a⟩ :: r) ks = (⟨a, a⟩ :: (crashB r ks).1, (crashB r ks).2) := by
  rw [crashB, if_neg (by simp only; omega)]
theorem dirs_nil : dirsOf [] = [] := (sortB_perm _).eq_nil
theorem dirs_one {l : List Ch} (h : onceL (l.map (·.dir)) = [p0]) : dirsOf l = [p0] := by
  unfold dirsOf
  rw [h]; exact List.perm_singleton.1 (sortB_perm _)
theorem take_le1 {α : Type} (x : α) (k : Nat) : ([x].take k) = [] ∨ [x].take k = [x] := by
  cases k with
  | zero => exact .inl rfl
  | succ k => exact .inr (by simp)
theorem take_le2 {α : Type} (x y : α) (k : Nat) : ([x, y].take k) = [] ∨ [x, y].take k = [x] ∨ [x, y].take k = [x, y] := by
  cases k with
  | zero => exact .inl rfl
  | succ k =>
    cases k with
    | zero => exact .inr (.inl rfl)
    | succ k => exact .inr (.inr (by simp))
theorem crashD_one (l : List Ch) (d : ByteArray) (ks : List Int) (K : List Nm) : ∃ t, crashD l [d] ks K = ((chOf l d).take t).foldl applyN K := ⟨_, rfl⟩
theorem end4 {a : ByteArray} {n : Int} {ks : List Int} : readM (crashM (sw4 a n) ks) pP = (a, 0) := by
  have h : (crashM (sw4 a n) ks).names = [(pP, 0)] := by
    show crashD [] (dirsOf []) _ [(pP, 0)] = _
    rw [dirs_nil]; rfl
  have hb : (crashM (sw4 a n) ks).bodies = [⟨a, a⟩] := by show (crashB [⟨a, a⟩] ks).1 = _; rw [crashB_same]; rfl
  rw [readM_ok (k := 0) (by rw [h]; rfl)]
  unfold bodyAt
  rw [hb]; rfl
theorem end56 {a : ByteArray} {M : DM} {B : Body} {ks : List Int} (h1 : M.bodies = [⟨a, a⟩, B]) (h2 : M.kept = [(pP, 0)]) (h3 : M.changes = [⟨p0, [(pQ, 1)]⟩]) : readM (crashM M ks) pP = (a, 0) := by
  have hb : ∃ r, (crashM M ks).bodies = ⟨a, a⟩ :: r := by show ∃ r, (crashB M.bodies ks).1 = _; rw [h1, crashB_same]; exact ⟨_, rfl⟩
  obtain ⟨r, hb⟩ := hb
  have h : lookN (crashM M ks).names pP = some 0 := by
    show lookN (crashD M.changes (dirsOf M.changes) (crashB M.bodies ks).2 M.kept) pP = _
    rw [h3, h2, dirs_one rfl]
    obtain ⟨t, ht⟩ := crashD_one [⟨p0, [(pQ, 1)]⟩] p0 (crashB M.bodies ks).2 [(pP, 0)]
    rw [ht, show chOf [⟨p0, [(pQ, 1)]⟩] p0 = [[(pQ, (1 : Int))]] from rfl]
    rcases take_le1 [(pQ, (1 : Int))] t with e | e <;> rw [e] <;> rfl
  rw [readM_ok h]
  unfold bodyAt
  rw [hb]; rfl
theorem end7 {a b : ByteArray} {n : Int} {ks : List Int} : readM (crashM (sw7 a b n) ks) pP = (a, 0) ∨ readM (crashM (sw7 a b n) ks) pP = (b, 0) := by
  have hb : (crashM (sw7 a b n) ks).bodies = [⟨a, a⟩, ⟨b, b⟩] := by show (crashB [⟨a, a⟩, ⟨b, b⟩] ks).1 = _; rw [crashB_same, crashB_same]; rfl
  have h : lookN (crashM (sw7 a b n) ks).names pP = some 0 ∨ lookN (crashM (sw7 a b n) ks).names pP = some 1 := by
    show lookN (crashD (sw7 a b n).changes (dirsOf (sw7 a b n).changes) (crashB (sw7 a b n).bodies ks).2 [(pP, 0)]) pP = _ ∨ lookN (crashD (sw7 a b n).changes (dirsOf (sw7 a b n).changes) (crashB (sw7 a b n).bodies ks).2 [(pP, 0)]) pP = _
    rw [dirs_one (l := (sw7 a b n).changes) rfl]
    obtain ⟨t, ht⟩ := crashD_one (sw7 a b n).changes p0 (crashB (sw7 a b n).bodies ks).2 [(pP, 0)]
    rw [ht, show chOf (sw7 a b n).changes p0 = [[(pQ, (1 : Int))], [(pQ, (-1 : Int)), (pP, 1)]] from rfl]
    rcases take_le2 [(pQ, (1 : Int))] [(pQ, (-1 : Int)), (pP, 1)] t with e | e | e <;> rw [e]
    · exact .inl rfl
    · exact .inl rfl
    · exact .inr rfl
  rcases h with h | h
  · left
    rw [readM_ok h]
    unfold bodyAt
    rw [hb]; rfl
  · right
    rw [readM_ok h]
    unfold bodyAt
    rw [hb]; rfl
theorem end8 {a b : ByteArray} {n : Int} {ks : List Int} : readM (crashM (sw8 a b n) ks) pP = (b, 0) := by
  have h : (crashM (sw8 a b n) ks).names = [(pP, 1)] := by
    show crashD [] (dirsOf []) _ [(pP, 1)] = _
    rw [dirs_nil]; rfl
  have hb : (crashM (sw8 a b n) ks).bodies = [⟨a, a⟩, ⟨b, b⟩] := by show (crashB [⟨a, a⟩, ⟨b, b⟩] ks).1 = _; rw [crashB_same, crashB_same]; rfl
  rw [readM_ok (k := 1) (by rw [h]; rfl)]
  unfold bodyAt
  rw [hb]; rfl
end Go.Vf

namespace Go.Vf
open Go.Sw Go.Proofs.Ytbmieiffboenbaa

def fa : ByteArray := ByteArray.mk #[97]
def fb : ByteArray := ByteArray.mk #[98]
def fbad : ByteArray := ByteArray.mk #[98, 47, 46, 46]
def fxy : ByteArray := ByteArray.mk #[120, 121]
def fx : ByteArray := ByteArray.mk #[120]
def f100 : ByteArray := ⟨(List.replicate 100 (0 : UInt8)).toArray⟩
theorem right_fa : rightB fa = true := by decide +kernel
theorem right_fb : rightB fb = true := by decide +kernel
theorem right_fbad : rightB fbad = false := by decide +kernel
theorem dir_fa : dirB fa = p0 := by decide +kernel
def fm1 : DM := ⟨100, [⟨fxy, p0⟩], [(fa, 0)], [], [⟨p0, [(fa, 0)]⟩], false, false, 0⟩
def fm2 : DM := ⟨100, [⟨fxy, fxy⟩], [(fa, 0)], [], [⟨p0, [(fa, 0)]⟩], false, false, 0⟩
def fm3 : DM := ⟨100, [⟨fxy, fxy⟩], [], [], [], false, false, 0⟩
def fm4 : DM := ⟨100, [⟨fxy, fxy⟩, ⟨fxy, p0⟩], [(fa, 1)], [], [⟨p0, [(fa, 1)]⟩], false, false, 0⟩
def fm5 : DM := ⟨100, [⟨fxy, fxy⟩, ⟨fxy, p0⟩], [(fa, 1)], [(fa, 1)], [], false, false, 0⟩
def fm6 : DM := ⟨100, [⟨fxy, fxy⟩, ⟨fx, fx⟩], [(fa, 1)], [(fa, 1)], [], false, false, 0⟩
theorem f_write1 : writeM (newM 100) fa fxy = (0, fm1) := by
  obtain ⟨e1, e2⟩ := err_ok (M := newM 100) right_fa rfl
  rw [writeM_ok e1 (by show ¬ ((0 : Nat) : Int) - ((0 : Nat) : Int) + ((2 : Nat) : Int) > 100; omega), e2, dir_fa]; rfl
theorem f_sync : syncM fm1 fa = (0, fm2) := by
  obtain ⟨e1, e2⟩ := err_ok (M := fm1) right_fa rfl
  rw [syncM_ok (k := 0) e1 rfl, e2]; rfl
theorem f_crash1 : crashM fm2 [] = fm3 := by
  unfold crashM
  rw [show crashB fm2.bodies [] = ([⟨fxy, fxy⟩], []) from crashB_same, dirs_one (l := fm2.changes) rfl]; rfl
theorem f_list : listM fm3 p0 = [] := (sortB_perm _).eq_nil
theorem f_write2 : writeM fm3 fa fxy = (0, fm4) := by
  obtain ⟨e1, e2⟩ := err_ok (M := fm3) right_fa rfl
  rw [writeM_ok e1 (by show ¬ ((0 : Nat) : Int) - ((0 : Nat) : Int) + ((2 : Nat) : Int) > 100; omega), e2, dir_fa]; rfl
theorem f_sdir : syncDirM fm4 p0 = (0, fm5) := by
  obtain ⟨e1, e2⟩ := err_ok (M := fm4) dirR_0 rfl
  rw [syncDirM_ok e1, e2]; rfl
theorem f_crash2 : crashM fm5 [1] = fm6 := by
  have hb : crashB fm5.bodies [1] = ([⟨fxy, fxy⟩, ⟨fx, fx⟩], []) := by
    show crashB (⟨fxy, fxy⟩ :: [⟨fxy, p0⟩]) [1] = _
    rw [crashB_same]
    rfl
  unfold crashM
  rw [hb, show dirsOf fm5.changes = [] from dirs_nil]; rfl
theorem f_read : readM fm6 fa = (fx, 0) := rfl
theorem f_used : usedM fm6 = 1 := rfl
theorem f_bad : writeM fm6 fbad p0 = (2, fm6) := by
  have e1 : errM fm6 (rightB fbad) = 2 := by rw [right_fbad]; rfl
  rw [writeM_err (by rw [e1]; decide), e1, right_fbad]; rfl
theorem f_full : writeM fm6 fb f100 = (61, fm6) := by
  obtain ⟨e1, e2⟩ := err_ok (M := fm6) right_fb rfl
  rw [writeM_full e1 (by show ((1 : Nat) : Int) - ((0 : Nat) : Int) + ((100 : Nat) : Int) > 100; omega), e2]
theorem fsz : fxy.size ≤ 10000000 ∧ fxy.size ≤ fxy.size := by decide
theorem fsz0 : fxy.size ≤ 10000000 ∧ p0.size ≤ fxy.size := by decide
theorem fszx : fx.size ≤ 10000000 ∧ fx.size ≤ fx.size := by decide
theorem fd0 (l : List Nm) : ∀ c ∈ ([⟨p0, l⟩] : List Ch), c.dir.size ≤ 1000000 := by intro c hc; rw [List.mem_singleton.1 hc]; show 0 ≤ 1000000; omega
theorem fc : -9223372036854775808 ≤ (0 : Int) ∧ (0 : Int) ≤ 9223372036854775807 := by omega
theorem fp (k : Int) : ∀ x ∈ ([(fa, k)] : List Nm), x.1.size ≤ 1000000 := by intro c hc; rw [List.mem_singleton.1 hc]; show 1 ≤ 1000000; omega
theorem fs0 : Small (newM 100) := ⟨by decide, fun _ h => absurd h List.not_mem_nil, by decide, by decide, by decide, fun _ h => absurd h List.not_mem_nil, fun _ h => absurd h List.not_mem_nil⟩
theorem fs1 : Small fm1 := small1 (x := ⟨fxy, p0⟩) rfl fsz0 (by decide) (by decide) fc (fp 0) (fd0 _)
theorem fs2 : Small fm2 := small1 (x := ⟨fxy, fxy⟩) rfl fsz (by decide) (by decide) fc (fp 0) (fd0 _)
theorem fs3 : Small fm3 := small1 (x := ⟨fxy, fxy⟩) rfl fsz (by decide) (by decide) fc (fun _ h => absurd h List.not_mem_nil) (fun _ h => absurd h List.not_mem_nil)
theorem fs4 : Small fm4 := small2 (x := ⟨fxy, fxy⟩) (y := ⟨fxy, p0⟩) rfl fsz fsz0 (by decide) (by decide) fc (fp 1) (fd0 _)
theorem fs5 : Small fm5 := small2 (x := ⟨fxy, fxy⟩) (y := ⟨fxy, p0⟩) rfl fsz fsz0 (by decide) (by decide) fc (fp 1) (fun _ h => absurd h List.not_mem_nil)
theorem fs6 : Small fm6 := small2 (x := ⟨fxy, fxy⟩) (y := ⟨fx, fx⟩) rfl fsz fszx (by decide) (by decide) fc (fp 1) (fun _ h => absurd h List.not_mem_nil)
theorem u8s_f100 : u8s f100.data.toList = List.replicate 100 (Value.int .u8 0) := by rfl
end Go.Vf

namespace Go.Proofs.Ytbmieiffboenbaa
open Go.Sw Go.Lib Go.Vf Go.RowKit


set_option maxRecDepth 4000 in
set_option maxHeartbeats 1000000 in
theorem vFirst  (W0 : World) (H : List Grp) : Tri Try.prog 9 #[] W0 H (fun v H' => v = .bool true ∧ ∃ G, H' = G ++ H) := by
  refine Tri_of (args := []) (n := 68) Try.func9 rfl rfl (Nat.le_of_ble_eq_true rfl) ?_
  refine G_seq ?_
  refine G_pure (E' := []) [0] [] rfl (by kernel_rfl) ?_
  refine N_then ?_
  refine G_seq ?_
  refine G_region ?_
  refine GL_call (i := 0) (ch := []) (f := 12) (fst := #[]) (caps := #[]) (vs := [.int .i64 100]) rfl rfl rfl (by kernel_rfl) (by kernel_rfl) Try.func12 rfl rfl (by kernel_rfl) (by kernel_rfl) (chSure_of (by kernel_rfl)) (dNew 100 (M := (newM 100)) _ _ rfl) ?_
  rintro v H' ⟨d1, rfl, s1, hs1, rfl⟩
  refine GL_fin (E' := [⟨1, [], .pointer (some ⟨d1, 0, none⟩)⟩]) [0] [1] rfl (by kernel_rfl) ?_
  refine N_then ?_
  refine G_seq ?_
  refine G_seq ?_
  refine G_region ?_
  refine GL_pure (E' := [⟨8, [(7, false)], .pointer (some ⟨d1, 0, none⟩)⟩, ⟨7, [], .bool false⟩, ⟨6, [], .bool false⟩, ⟨5, [], .pointer (some ⟨d1, 0, none⟩)⟩, ⟨1, [], .pointer (some ⟨d1, 0, none⟩)⟩]) [0, 0, 0, 0] (by kernel_rfl) (j := 4) rfl ?_
  refine GL_buildSlice (i := 4) (ch := [(7, false)]) (e := 5) (l := [(0, .int .u8 120), (1, .int .u8 121)]) (c := [.int .u8 120, .int .u8 121]) rfl rfl (by kernel_rfl) (by kernel_rfl) (by kernel_rfl) (by kernel_rfl) (by kernel_rfl) (fun b2 => ?_)
  refine GL_sameBytes (i := 5) (ch := [(7, false)]) (t := 24) (e := 5) (b := b2) (off := 0) (l := 2) (cap := 2) (j := 0) (m := 0) rfl rfl (by kernel_rfl) (by kernel_rfl) (by kernel_rfl) (by kernel_rfl) (by kernel_rfl) (by kernel_rfl) rfl rfl (by rfl) ?_
  refine GL_call (i := 6) (ch := [(7, false)]) (f := 13) (fst := #[]) (caps := #[]) (vs := [.pointer (some ⟨d1, 0, none⟩), .string (ByteArray.mk #[97]), .slice (some ⟨b2, 0, none⟩) 2 2]) rfl rfl rfl (by kernel_rfl) (by kernel_rfl) Try.func13 rfl rfl (by kernel_rfl) (by kernel_rfl) (chSure_of (by kernel_rfl)) (dWrite hs1 fs0 d1 (ByteArray.mk #[97]) fxy (by decide) (by decide) [[(b2, .cells #[.int .u8 120, .int .u8 121] 5 (2, 2 + 1))]] _ H ⟨some ⟨b2, 0, none⟩, 2, inG [(b2, .cells #[.int .u8 120, .int .u8 121] 5 (2, 2 + 1))], rfl, .inr (.inr ⟨b2, 0, rfl⟩), (Rd.lit (c := [.int .u8 120, .int .u8 121])), (at_inG 0 rfl)⟩ f_write1) ?_
  rintro v H' ⟨rfl, s2, hs2, rfl⟩
  refine GL_pure (E' := [⟨15, [(14, false)], .pointer (some ⟨d1, 0, none⟩)⟩, ⟨14, [], .bool false⟩, ⟨13, [], .bool false⟩, ⟨12, [(7, false)], .bool false⟩, ⟨11, [(7, false)], .int .i64 0⟩, ⟨10, [(7, false)], .slice (some ⟨b2, 0, none⟩) 2 2⟩, ⟨9, [(7, false)], .slice (some ⟨b2, 0, none⟩) 2 2⟩, ⟨8, [(7, false)], .pointer (some ⟨d1, 0, none⟩)⟩, ⟨7, [], .bool false⟩, ⟨6, [], .bool false⟩, ⟨5, [], .pointer (some ⟨d1, 0, none⟩)⟩, ⟨1, [], .pointer (some ⟨d1, 0, none⟩)⟩]) [0, 3, 0, 0] (by kernel_rfl) (j := 11) rfl ?_
  refine GL_call (i := 11) (ch := [(14, false)]) (f := 14) (fst := #[]) (caps := #[]) (vs := [.pointer (some ⟨d1, 0, none⟩), .string (ByteArray.mk #[97])]) rfl rfl rfl (by kernel_rfl) (by kernel_rfl) Try.func14 rfl rfl (by kernel_rfl) (by kernel_rfl) (chSure_of (by kernel_rfl)) (dSync hs2 fs1 d1 (ByteArray.mk #[97]) (by decide) [[(b2, .cells #[.int .u8 120, .int .u8 121] 5 (2, 2 + 1))]] _ H f_sync) ?_
  rintro v H' ⟨rfl, s3, hs3, rfl⟩
  refine GL_fin (E' := [⟨1, [], .pointer (some ⟨d1, 0, none⟩)⟩, ⟨18, [], .bool false⟩]) [0, 3] [1, 18] rfl (by kernel_rfl) ?_
  refine N_then ?_
  refine G_condf (by kernel_rfl) ?_
  refine G_skip ?_
  refine N_then ?_
  refine G_seq ?_
  refine G_region ?_
  refine GL_pure (E' := [⟨19, [], .pointer (some ⟨d1, 0, none⟩)⟩, ⟨1, [], .pointer (some ⟨d1, 0, none⟩)⟩, ⟨18, [], .bool false⟩]) [0] (by kernel_rfl) (j := 1) rfl ?_
  refine GL_call (i := 1) (ch := []) (f := 18) (fst := #[]) (caps := #[]) (vs := [.pointer (some ⟨d1, 0, none⟩), .slice none 0 0]) rfl rfl rfl (by kernel_rfl) (by kernel_rfl) Try.func18 rfl rfl (by kernel_rfl) (by kernel_rfl) (chSure_of (by kernel_rfl)) (dCrash (M' := fm3) hs3 fs2 d1 ([]) none 0 (fun _ _ => False) ⟨.inl rfl, by decide, by decide, fun _ h => absurd h List.not_mem_nil⟩ [[(b2, .cells #[.int .u8 120, .int .u8 121] 5 (2, 2 + 1))]] _ H (fun _ _ h => h.elim) f_crash1) ?_
  rintro v H' ⟨rfl, s4, hs4, rfl⟩
  refine GL_fin (E' := [⟨1, [], .pointer (some ⟨d1, 0, none⟩)⟩]) [] [1] rfl (by kernel_rfl) ?_
  refine N_then ?_
  refine G_seq ?_
  refine G_seq ?_
  refine G_region ?_
  refine GL_pure (E' := [⟨21, [], .pointer (some ⟨d1, 0, none⟩)⟩, ⟨1, [], .pointer (some ⟨d1, 0, none⟩)⟩]) [0] (by kernel_rfl) (j := 1) rfl ?_
  refine GL_call (i := 1) (ch := []) (f := 21) (fst := #[]) (caps := #[]) (vs := [.pointer (some ⟨d1, 0, none⟩), .string (ByteArray.mk #[])]) rfl rfl rfl (by kernel_rfl) (by kernel_rfl) Try.func21 rfl rfl (by kernel_rfl) (by kernel_rfl) (chSure_of (by kernel_rfl)) (dList hs4 fs3 d1 (ByteArray.mk #[]) [[(b2, .cells #[.int .u8 120, .int .u8 121] 5 (2, 2 + 1))]] _ H f_list) ?_
  rintro v H' ⟨la3, lc4, g5, rfl, hlc6, hrd7, rfl⟩
  refine GL_pure (E' := [⟨26, [(25, false)], .pointer (some ⟨d1, 0, none⟩)⟩, ⟨25, [], .bool false⟩, ⟨24, [], .bool false⟩, ⟨23, [], .int .i64 0⟩, ⟨22, [], .slice la3 0 lc4⟩, ⟨21, [], .pointer (some ⟨d1, 0, none⟩)⟩, ⟨1, [], .pointer (some ⟨d1, 0, none⟩)⟩]) [0, 0, 0, 0] (by kernel_rfl) (j := 6) rfl ?_
  refine GL_buildSlice (i := 6) (ch := [(25, false)]) (e := 5) (l := [(0, .int .u8 120), (1, .int .u8 121)]) (c := [.int .u8 120, .int .u8 121]) rfl rfl (by kernel_rfl) (by kernel_rfl) (by kernel_rfl) (by kernel_rfl) (by kernel_rfl) (fun b8 => ?_)
  refine GL_sameBytes (i := 7) (ch := [(25, false)]) (t := 24) (e := 5) (b := b8) (off := 0) (l := 2) (cap := 2) (j := 0) (m := 0) rfl rfl (by kernel_rfl) (by kernel_rfl) (by kernel_rfl) (by kernel_rfl) (by kernel_rfl) (by kernel_rfl) rfl rfl (by rfl) ?_
  refine GL_call (i := 8) (ch := [(25, false)]) (f := 13) (fst := #[]) (caps := #[]) (vs := [.pointer (some ⟨d1, 0, none⟩), .string (ByteArray.mk #[97]), .slice (some ⟨b8, 0, none⟩) 2 2]) rfl rfl rfl (by kernel_rfl) (by kernel_rfl) Try.func13 rfl rfl (by kernel_rfl) (by kernel_rfl) (chSure_of (by kernel_rfl)) (dWrite hs4 fs3 d1 (ByteArray.mk #[97]) fxy (by decide) (by decide) [[(b8, .cells #[.int .u8 120, .int .u8 121] 5 (2, 2 + 1))], g5, [(b2, .cells #[.int .u8 120, .int .u8 121] 5 (2, 2 + 1))]] _ H ⟨some ⟨b8, 0, none⟩, 2, inG [(b8, .cells #[.int .u8 120, .int .u8 121] 5 (2, 2 + 1))], rfl, .inr (.inr ⟨b8, 0, rfl⟩), (Rd.lit (c := [.int .u8 120, .int .u8 121])), (at_inG 0 rfl)⟩ f_write2) ?_
  rintro v H' ⟨rfl, s6, hs6, rfl⟩
  refine GL_pure (E' := [⟨33, [(32, false)], .pointer (some ⟨d1, 0, none⟩)⟩, ⟨32, [], .bool false⟩, ⟨31, [], .bool false⟩, ⟨30, [(25, false)], .bool false⟩, ⟨29, [(25, false)], .int .i64 0⟩, ⟨28, [(25, false)], .slice (some ⟨b8, 0, none⟩) 2 2⟩, ⟨27, [(25, false)], .slice (some ⟨b8, 0, none⟩) 2 2⟩, ⟨26, [(25, false)], .pointer (some ⟨d1, 0, none⟩)⟩, ⟨25, [], .bool false⟩, ⟨24, [], .bool false⟩, ⟨23, [], .int .i64 0⟩, ⟨22, [], .slice la3 0 lc4⟩, ⟨21, [], .pointer (some ⟨d1, 0, none⟩)⟩, ⟨1, [], .pointer (some ⟨d1, 0, none⟩)⟩]) [0, 3, 0, 0] (by kernel_rfl) (j := 13) rfl ?_
  refine GL_call (i := 13) (ch := [(32, false)]) (f := 15) (fst := #[]) (caps := #[]) (vs := [.pointer (some ⟨d1, 0, none⟩), .string (ByteArray.mk #[])]) rfl rfl rfl (by kernel_rfl) (by kernel_rfl) Try.func15 rfl rfl (by kernel_rfl) (by kernel_rfl) (chSure_of (by kernel_rfl)) (dSyncDir hs6 fs4 d1 (ByteArray.mk #[]) (by decide) [[(b8, .cells #[.int .u8 120, .int .u8 121] 5 (2, 2 + 1))], g5, [(b2, .cells #[.int .u8 120, .int .u8 121] 5 (2, 2 + 1))]] _ H f_sdir) ?_
  rintro v H' ⟨rfl, s7, hs7, rfl⟩
  refine GL_fin (E' := [⟨1, [], .pointer (some ⟨d1, 0, none⟩)⟩, ⟨36, [], .bool false⟩]) [0, 3] [1, 36] rfl (by kernel_rfl) ?_
  refine N_then ?_
  refine G_condf (by kernel_rfl) ?_
  refine G_skip ?_
  refine N_then ?_
  refine G_seq ?_
  refine G_region ?_
  refine GL_pure (E' := [⟨37, [], .pointer (some ⟨d1, 0, none⟩)⟩, ⟨1, [], .pointer (some ⟨d1, 0, none⟩)⟩, ⟨36, [], .bool false⟩]) [0] (by kernel_rfl) (j := 1) rfl ?_
  refine GL_buildSlice (i := 1) (ch := []) (e := 3) (l := [(0, .int .i64 1)]) (c := [.int .i64 1]) rfl rfl (by kernel_rfl) (by kernel_rfl) (by kernel_rfl) (by kernel_rfl) (by kernel_rfl) (fun b9 => ?_)
  refine GL_call (i := 2) (ch := []) (f := 18) (fst := #[]) (caps := #[]) (vs := [.pointer (some ⟨d1, 0, none⟩), .slice (some ⟨b9, 0, none⟩) 1 1]) rfl rfl rfl (by kernel_rfl) (by kernel_rfl) Try.func18 rfl rfl (by kernel_rfl) (by kernel_rfl) (chSure_of (by kernel_rfl)) (dCrash (M' := fm6) hs7 fs5 d1 ([1]) (some ⟨b9, 0, none⟩) 1 (inG [(b9, .cells #[.int .i64 1] 3 (0, 0))]) ⟨Rd.lit (c := [.int .i64 1]), by show 1 ≤ 1; omega, by show 1 ≤ 1000000000; omega, fun y h => by rw [List.mem_singleton.1 h]; decide⟩ [[(b9, .cells #[.int .i64 1] 3 (0, 0))], [(b8, .cells #[.int .u8 120, .int .u8 121] 5 (2, 2 + 1))], g5, [(b2, .cells #[.int .u8 120, .int .u8 121] 5 (2, 2 + 1))]] _ H (at_inG 0 rfl) f_crash2) ?_
  rintro v H' ⟨rfl, s8, hs8, rfl⟩
  refine GL_fin (E' := [⟨1, [], .pointer (some ⟨d1, 0, none⟩)⟩]) [] [1] rfl (by kernel_rfl) ?_
  refine N_then ?_
  refine G_seq ?_
  refine G_region ?_
  refine GL_pure (E' := [⟨41, [], .pointer (some ⟨d1, 0, none⟩)⟩, ⟨1, [], .pointer (some ⟨d1, 0, none⟩)⟩]) [0] (by kernel_rfl) (j := 1) rfl ?_
  refine GL_call (i := 1) (ch := []) (f := 19) (fst := #[]) (caps := #[]) (vs := [.pointer (some ⟨d1, 0, none⟩), .string (ByteArray.mk #[97])]) rfl rfl rfl (by kernel_rfl) (by kernel_rfl) Try.func19 rfl rfl (by kernel_rfl) (by kernel_rfl) (chSure_of (by kernel_rfl)) (dRead hs8 (fun B hB => (fs6.size B hB).1) d1 (ByteArray.mk #[97]) [[(b9, .cells #[.int .i64 1] 3 (0, 0))], [(b8, .cells #[.int .u8 120, .int .u8 121] 5 (2, 2 + 1))], g5, [(b2, .cells #[.int .u8 120, .int .u8 121] 5 (2, 2 + 1))]] _ H f_read) ?_
  rintro v H' ⟨ra10, rc11, g12, rfl, hrc13, hrd14, rfl⟩
  refine GL_fin (E' := [⟨1, [], .pointer (some ⟨d1, 0, none⟩)⟩, ⟨2, [], .slice ra10 fx.size rc11⟩, ⟨3, [], .int .i64 0⟩]) [0, 0, 0, 0, 0] [1, 2, 3] rfl (by kernel_rfl) ?_
  refine N_then ?_
  refine G_seq ?_
  refine G_region ?_
  refine GL_pure (E' := [⟨48, [(47, true)], .slice ra10 fx.size rc11⟩, ⟨47, [], .bool true⟩, ⟨46, [], .bool true⟩, ⟨45, [], .int .i64 0⟩, ⟨1, [], .pointer (some ⟨d1, 0, none⟩)⟩, ⟨2, [], .slice ra10 fx.size rc11⟩, ⟨3, [], .int .i64 0⟩]) [0, 0, 0, 0] (by kernel_rfl) (j := 4) rfl ?_
  refine GL_bytesB (i := 4) (ch := [(47, true)]) (a := ra10) (cap := rc11) (e := 5) (S := (inG g12)) fx rfl rfl (by kernel_rfl) (by kernel_rfl) (by kernel_rfl) (by kernel_rfl) (by kernel_rfl) (by kernel_rfl) (by kernel_rfl) hrd14 (at_inG 0 rfl) ?_
  refine GL_pure (E' := [⟨50, [(47, true)], .bool (fx.toList == (ByteArray.mk #[120]).toList)⟩, ⟨49, [(47, true)], .string fx⟩, ⟨48, [(47, true)], .slice ra10 fx.size rc11⟩, ⟨47, [], .bool true⟩, ⟨46, [], .bool true⟩, ⟨45, [], .int .i64 0⟩, ⟨1, [], .pointer (some ⟨d1, 0, none⟩)⟩, ⟨2, [], .slice ra10 fx.size rc11⟩, ⟨3, [], .int .i64 0⟩]) [0] (by kernel_rfl) (j := 6) rfl ?_
  refine GL_env (E' := [⟨50, [(47, true)], .bool true⟩, ⟨49, [(47, true)], .string fx⟩, ⟨48, [(47, true)], .slice ra10 fx.size rc11⟩, ⟨47, [], .bool true⟩, ⟨46, [], .bool true⟩, ⟨45, [], .int .i64 0⟩, ⟨1, [], .pointer (some ⟨d1, 0, none⟩)⟩, ⟨2, [], .slice ra10 fx.size rc11⟩, ⟨3, [], .int .i64 0⟩]) (by rw [show (fx.toList == (ByteArray.mk #[120]).toList) = true from beq_self_eq_true _]) ?_
  refine GL_pure (E' := [⟨53, [(52, true)], .pointer (some ⟨d1, 0, none⟩)⟩, ⟨52, [], .bool true⟩, ⟨51, [], .bool true⟩, ⟨50, [(47, true)], .bool true⟩, ⟨49, [(47, true)], .string fx⟩, ⟨48, [(47, true)], .slice ra10 fx.size rc11⟩, ⟨47, [], .bool true⟩, ⟨46, [], .bool true⟩, ⟨45, [], .int .i64 0⟩, ⟨1, [], .pointer (some ⟨d1, 0, none⟩)⟩, ⟨2, [], .slice ra10 fx.size rc11⟩, ⟨3, [], .int .i64 0⟩]) [2, 0, 0] (by kernel_rfl) (j := 9) rfl ?_
  refine GL_call (i := 9) (ch := [(52, true)]) (f := 26) (fst := #[]) (caps := #[]) (vs := [.pointer (some ⟨d1, 0, none⟩)]) rfl rfl rfl (by kernel_rfl) (by kernel_rfl) Try.func26 rfl rfl (by kernel_rfl) (by kernel_rfl) (chSure_of (by kernel_rfl)) (dUsed hs8 fs6 d1 [g12, [(b9, .cells #[.int .i64 1] 3 (0, 0))], [(b8, .cells #[.int .u8 120, .int .u8 121] 5 (2, 2 + 1))], g5, [(b2, .cells #[.int .u8 120, .int .u8 121] 5 (2, 2 + 1))]] _ H f_used) ?_
  rintro v H' ⟨rfl, rfl⟩
  refine GL_pure (E' := [⟨58, [(57, true)], .pointer (some ⟨d1, 0, none⟩)⟩, ⟨57, [], .bool true⟩, ⟨56, [], .bool true⟩, ⟨55, [(52, true)], .bool true⟩, ⟨54, [(52, true)], .int .i64 1⟩, ⟨53, [(52, true)], .pointer (some ⟨d1, 0, none⟩)⟩, ⟨52, [], .bool true⟩, ⟨51, [], .bool true⟩, ⟨50, [(47, true)], .bool true⟩, ⟨49, [(47, true)], .string fx⟩, ⟨48, [(47, true)], .slice ra10 fx.size rc11⟩, ⟨47, [], .bool true⟩, ⟨46, [], .bool true⟩, ⟨45, [], .int .i64 0⟩, ⟨1, [], .pointer (some ⟨d1, 0, none⟩)⟩, ⟨2, [], .slice ra10 fx.size rc11⟩, ⟨3, [], .int .i64 0⟩]) [0, 2, 0, 0] (by kernel_rfl) (j := 14) rfl ?_
  refine GL_call (i := 14) (ch := [(57, true)]) (f := 13) (fst := #[]) (caps := #[]) (vs := [.pointer (some ⟨d1, 0, none⟩), .string (ByteArray.mk #[98, 47, 46, 46]), .slice none 0 0]) rfl rfl rfl (by kernel_rfl) (by kernel_rfl) Try.func13 rfl rfl (by kernel_rfl) (by kernel_rfl) (chSure_of (by kernel_rfl)) (dWrite hs8 fs6 d1 (ByteArray.mk #[98, 47, 46, 46]) p0 (by decide) (by decide) [g12, [(b9, .cells #[.int .i64 1] 3 (0, 0))], [(b8, .cells #[.int .u8 120, .int .u8 121] 5 (2, 2 + 1))], g5, [(b2, .cells #[.int .u8 120, .int .u8 121] 5 (2, 2 + 1))]] _ H ⟨none, 0, (fun _ _ => False), rfl, .inl ⟨rfl, rfl, rfl⟩, .inl rfl, fun _ _ h => h.elim⟩ f_bad) ?_
  rintro v H' ⟨rfl, s11, hs11, rfl⟩
  refine GL_pure (E' := [⟨63, [(62, true)], .pointer (some ⟨d1, 0, none⟩)⟩, ⟨62, [], .bool true⟩, ⟨61, [], .bool true⟩, ⟨60, [(57, true)], .bool true⟩, ⟨59, [(57, true)], .int .i64 2⟩, ⟨58, [(57, true)], .pointer (some ⟨d1, 0, none⟩)⟩, ⟨57, [], .bool true⟩, ⟨56, [], .bool true⟩, ⟨55, [(52, true)], .bool true⟩, ⟨54, [(52, true)], .int .i64 1⟩, ⟨53, [(52, true)], .pointer (some ⟨d1, 0, none⟩)⟩, ⟨52, [], .bool true⟩, ⟨51, [], .bool true⟩, ⟨50, [(47, true)], .bool true⟩, ⟨49, [(47, true)], .string fx⟩, ⟨48, [(47, true)], .slice ra10 fx.size rc11⟩, ⟨47, [], .bool true⟩, ⟨46, [], .bool true⟩, ⟨45, [], .int .i64 0⟩, ⟨1, [], .pointer (some ⟨d1, 0, none⟩)⟩, ⟨2, [], .slice ra10 fx.size rc11⟩, ⟨3, [], .int .i64 0⟩]) [0, 2, 0, 0] (by kernel_rfl) (j := 19) rfl ?_
  refine GL_makeS (i := 19) (ch := [(62, true)]) (t := 24) (e := 5) (inf := Try.t5) (l := 100) (c := [.int .u8 0, .int .u8 0, .int .u8 0, .int .u8 0, .int .u8 0, .int .u8 0, .int .u8 0, .int .u8 0, .int .u8 0, .int .u8 0, .int .u8 0, .int .u8 0, .int .u8 0, .int .u8 0, .int .u8 0, .int .u8 0, .int .u8 0, .int .u8 0, .int .u8 0, .int .u8 0, .int .u8 0, .int .u8 0, .int .u8 0, .int .u8 0, .int .u8 0, .int .u8 0, .int .u8 0, .int .u8 0, .int .u8 0, .int .u8 0, .int .u8 0, .int .u8 0, .int .u8 0, .int .u8 0, .int .u8 0, .int .u8 0, .int .u8 0, .int .u8 0, .int .u8 0, .int .u8 0, .int .u8 0, .int .u8 0, .int .u8 0, .int .u8 0, .int .u8 0, .int .u8 0, .int .u8 0, .int .u8 0, .int .u8 0, .int .u8 0, .int .u8 0, .int .u8 0, .int .u8 0, .int .u8 0, .int .u8 0, .int .u8 0, .int .u8 0, .int .u8 0, .int .u8 0, .int .u8 0, .int .u8 0, .int .u8 0, .int .u8 0, .int .u8 0, .int .u8 0, .int .u8 0, .int .u8 0, .int .u8 0, .int .u8 0, .int .u8 0, .int .u8 0, .int .u8 0, .int .u8 0, .int .u8 0, .int .u8 0, .int .u8 0, .int .u8 0, .int .u8 0, .int .u8 0, .int .u8 0, .int .u8 0, .int .u8 0, .int .u8 0, .int .u8 0, .int .u8 0, .int .u8 0, .int .u8 0, .int .u8 0, .int .u8 0, .int .u8 0, .int .u8 0, .int .u8 0, .int .u8 0, .int .u8 0, .int .u8 0, .int .u8 0, .int .u8 0, .int .u8 0, .int .u8 0, .int .u8 0]) rfl rfl (by kernel_rfl) (by kernel_rfl) (by kernel_rfl) rfl rfl (by decide) (by decide) (by decide) (by kernel_rfl) (by kernel_rfl) (by kernel_rfl) (by kernel_rfl) (fun b15 => ?_)
  refine GL_call (i := 20) (ch := [(62, true)]) (f := 13) (fst := #[]) (caps := #[]) (vs := [.pointer (some ⟨d1, 0, none⟩), .string (ByteArray.mk #[98]), .slice (some ⟨b15, 0, none⟩) 100 100]) rfl rfl rfl (by kernel_rfl) (by kernel_rfl) Try.func13 rfl rfl (by kernel_rfl) (by kernel_rfl) (chSure_of (by kernel_rfl)) (dWrite hs11 fs6 d1 (ByteArray.mk #[98]) f100 (by decide) (by decide) [[(b15, .cells #[.int .u8 0, .int .u8 0, .int .u8 0, .int .u8 0, .int .u8 0, .int .u8 0, .int .u8 0, .int .u8 0, .int .u8 0, .int .u8 0, .int .u8 0, .int .u8 0, .int .u8 0, .int .u8 0, .int .u8 0, .int .u8 0, .int .u8 0, .int .u8 0, .int .u8 0, .int .u8 0, .int .u8 0, .int .u8 0, .int .u8 0, .int .u8 0, .int .u8 0, .int .u8 0, .int .u8 0, .int .u8 0, .int .u8 0, .int .u8 0, .int .u8 0, .int .u8 0, .int .u8 0, .int .u8 0, .int .u8 0, .int .u8 0, .int .u8 0, .int .u8 0, .int .u8 0, .int .u8 0, .int .u8 0, .int .u8 0, .int .u8 0, .int .u8 0, .int .u8 0, .int .u8 0, .int .u8 0, .int .u8 0, .int .u8 0, .int .u8 0, .int .u8 0, .int .u8 0, .int .u8 0, .int .u8 0, .int .u8 0, .int .u8 0, .int .u8 0, .int .u8 0, .int .u8 0, .int .u8 0, .int .u8 0, .int .u8 0, .int .u8 0, .int .u8 0, .int .u8 0, .int .u8 0, .int .u8 0, .int .u8 0, .int .u8 0, .int .u8 0, .int .u8 0, .int .u8 0, .int .u8 0, .int .u8 0, .int .u8 0, .int .u8 0, .int .u8 0, .int .u8 0, .int .u8 0, .int .u8 0, .int .u8 0, .int .u8 0, .int .u8 0, .int .u8 0, .int .u8 0, .int .u8 0, .int .u8 0, .int .u8 0, .int .u8 0, .int .u8 0, .int .u8 0, .int .u8 0, .int .u8 0, .int .u8 0, .int .u8 0, .int .u8 0, .int .u8 0, .int .u8 0, .int .u8 0, .int .u8 0] 5 (0, 0))], g12, [(b9, .cells #[.int .i64 1] 3 (0, 0))], [(b8, .cells #[.int .u8 120, .int .u8 121] 5 (2, 2 + 1))], g5, [(b2, .cells #[.int .u8 120, .int .u8 121] 5 (2, 2 + 1))]] _ H ⟨some ⟨b15, 0, none⟩, 100, inG [(b15, .cells #[.int .u8 0, .int .u8 0, .int .u8 0, .int .u8 0, .int .u8 0, .int .u8 0, .int .u8 0, .int .u8 0, .int .u8 0, .int .u8 0, .int .u8 0, .int .u8 0, .int .u8 0, .int .u8 0, .int .u8 0, .int .u8 0, .int .u8 0, .int .u8 0, .int .u8 0, .int .u8 0, .int .u8 0, .int .u8 0, .int .u8 0, .int .u8 0, .int .u8 0, .int .u8 0, .int .u8 0, .int .u8 0, .int .u8 0, .int .u8 0, .int .u8 0, .int .u8 0, .int .u8 0, .int .u8 0, .int .u8 0, .int .u8 0, .int .u8 0, .int .u8 0, .int .u8 0, .int .u8 0, .int .u8 0, .int .u8 0, .int .u8 0, .int .u8 0, .int .u8 0, .int .u8 0, .int .u8 0, .int .u8 0, .int .u8 0, .int .u8 0, .int .u8 0, .int .u8 0, .int .u8 0, .int .u8 0, .int .u8 0, .int .u8 0, .int .u8 0, .int .u8 0, .int .u8 0, .int .u8 0, .int .u8 0, .int .u8 0, .int .u8 0, .int .u8 0, .int .u8 0, .int .u8 0, .int .u8 0, .int .u8 0, .int .u8 0, .int .u8 0, .int .u8 0, .int .u8 0, .int .u8 0, .int .u8 0, .int .u8 0, .int .u8 0, .int .u8 0, .int .u8 0, .int .u8 0, .int .u8 0, .int .u8 0, .int .u8 0, .int .u8 0, .int .u8 0, .int .u8 0, .int .u8 0, .int .u8 0, .int .u8 0, .int .u8 0, .int .u8 0, .int .u8 0, .int .u8 0, .int .u8 0, .int .u8 0, .int .u8 0, .int .u8 0, .int .u8 0, .int .u8 0, .int .u8 0, .int .u8 0] 5 (0, 0))], rfl, .inr (.inr ⟨b15, 0, rfl⟩), (by rw [u8s_f100]; exact Rd.lit (c := List.replicate 100 (.int .u8 0))), (at_inG 0 rfl)⟩ f_full) ?_
  rintro v H' ⟨rfl, s12, hs12, rfl⟩
  refine GL_fin (E' := [⟨0, [], .bool true⟩]) [0, 2, 0] [0] rfl (by kernel_rfl) ?_
  refine N_then ?_
  refine G_ret ?_
  refine N_ret [.tmp 0] [.bool true] rfl (by kernel_rfl) rfl ?_
  exact ⟨rfl, [[(b15, .cells #[.int .u8 0, .int .u8 0, .int .u8 0, .int .u8 0, .int .u8 0, .int .u8 0, .int .u8 0, .int .u8 0, .int .u8 0, .int .u8 0, .int .u8 0, .int .u8 0, .int .u8 0, .int .u8 0, .int .u8 0, .int .u8 0, .int .u8 0, .int .u8 0, .int .u8 0, .int .u8 0, .int .u8 0, .int .u8 0, .int .u8 0, .int .u8 0, .int .u8 0, .int .u8 0, .int .u8 0, .int .u8 0, .int .u8 0, .int .u8 0, .int .u8 0, .int .u8 0, .int .u8 0, .int .u8 0, .int .u8 0, .int .u8 0, .int .u8 0, .int .u8 0, .int .u8 0, .int .u8 0, .int .u8 0, .int .u8 0, .int .u8 0, .int .u8 0, .int .u8 0, .int .u8 0, .int .u8 0, .int .u8 0, .int .u8 0, .int .u8 0, .int .u8 0, .int .u8 0, .int .u8 0, .int .u8 0, .int .u8 0, .int .u8 0, .int .u8 0, .int .u8 0, .int .u8 0, .int .u8 0, .int .u8 0, .int .u8 0, .int .u8 0, .int .u8 0, .int .u8 0, .int .u8 0, .int .u8 0, .int .u8 0, .int .u8 0, .int .u8 0, .int .u8 0, .int .u8 0, .int .u8 0, .int .u8 0, .int .u8 0, .int .u8 0, .int .u8 0, .int .u8 0, .int .u8 0, .int .u8 0, .int .u8 0, .int .u8 0, .int .u8 0, .int .u8 0, .int .u8 0, .int .u8 0, .int .u8 0, .int .u8 0, .int .u8 0, .int .u8 0, .int .u8 0, .int .u8 0, .int .u8 0, .int .u8 0, .int .u8 0, .int .u8 0, .int .u8 0, .int .u8 0, .int .u8 0, .int .u8 0] 5 (0, 0))], g12, [(b9, .cells #[.int .i64 1] 3 (0, 0))], [(b8, .cells #[.int .u8 120, .int .u8 121] 5 (2, 2 + 1))], g5, [(b2, .cells #[.int .u8 120, .int .u8 121] 5 (2, 2 + 1))]] ++ s12.G d1 fm6, by simp⟩

end Go.Proofs.Ytbmieiffboenbaa

namespace Go.Proofs.Ytbmieiffboenbaa
open Go.Sw Go.Lib Go.Vf Go.RowKit


theorem vTry (d : Nat) (s0 : DS) (M : DM) (hs0 : s0.ok M) (hM : Small M) (S : Nat → Obj → Prop) (o : OpV) (hb : o.b.size ≤ 1000000000) (W0 : World) (H : List Grp) (hO : OpOk S W0 [] o) : Tri Try.prog 20 #[.pointer (some ⟨d, 0, none⟩), .agg #[.int .i64 o.kind, .string o.path, .string o.to, .slice o.ba o.b.size o.bc, .int .i64 o.n, .slice o.ka o.k.length o.kc]] W0 (s0.G d M ++ H) (fun v H' => v = .int .i64 (tryM M o).1 ∧ ∃ (s1 : DS) (g : Grp), s1.ok (tryM M o).2 ∧ H' = g :: (s1.G d (tryM M o).2 ++ H)) := by
  refine Tri_of (args := [.pointer (some ⟨d, 0, none⟩), .agg #[.int .i64 o.kind, .string o.path, .string o.to, .slice o.ba o.b.size o.bc, .int .i64 o.n, .slice o.ka o.k.length o.kc]]) (n := 49) Try.func20 rfl rfl (Nat.le_of_ble_eq_true rfl) ?_
  refine G_seq ?_
  refine G_region ?_
  refine GL_box (i := 0) (ch := []) (v := .agg #[.int .i64 o.kind, .string o.path, .string o.to, .slice o.ba o.b.size o.bc, .int .i64 o.n, .slice o.ka o.k.length o.kc]) rfl rfl (by kernel_rfl) (by kernel_rfl) (by kernel_rfl) (by kernel_rfl) (fun b1 => ?_)
  refine GL_fin (E' := [⟨0, [], .pointer (some ⟨d, 0, none⟩)⟩, ⟨3, [], .pointer (some ⟨b1, 0, none⟩)⟩]) [0] [0, 3] rfl (by kernel_rfl) ?_
  refine N_then ?_
  refine G_seq ?_
  refine G_seq ?_
  refine G_region ?_
  refine GL_pure (E' := [⟨5, [], .pointer (some ⟨b1, 0, none⟩)⟩, ⟨0, [], .pointer (some ⟨d, 0, none⟩)⟩, ⟨3, [], .pointer (some ⟨b1, 0, none⟩)⟩]) [0] (by kernel_rfl) (j := 1) rfl ?_
  refine GL_load (i := 1) (ch := []) (b := b1) (off := 0) (v := .int .i64 o.kind) rfl rfl (by kernel_rfl) (by kernel_rfl) (by kernel_rfl) (by kernel_rfl) (by kernel_rfl) (At.grp 0 0 rfl rfl) rfl ?_
  refine GL_fin (E' := [⟨0, [], .pointer (some ⟨d, 0, none⟩)⟩, ⟨3, [], .pointer (some ⟨b1, 0, none⟩)⟩, ⟨8, [], .int .u64 (Int.tmod (IntKind.wrap .u64 o.kind) 8)⟩]) [0, 0] [0, 3, 8] rfl (by kernel_rfl) ?_
  refine N_then ?_
  refine G_block ?_
  refine G_seq ?_
  refine G_pure (E' := [⟨0, [], .pointer (some ⟨d, 0, none⟩)⟩, ⟨3, [], .pointer (some ⟨b1, 0, none⟩)⟩, ⟨8, [], .int .u64 (Int.tmod (IntKind.wrap .u64 o.kind) 8)⟩, ⟨9, [], .bool ((Int.tmod (IntKind.wrap .u64 o.kind) 8) == 0)⟩]) [0, 0] [0, 3, 8, 9] rfl (by kernel_rfl) ?_
  refine N_then ?_
  refine G_cond (b := (Int.tmod (IntKind.wrap .u64 o.kind) 8) == 0) (by kernel_rfl) (fun hc2 => ?_) (fun hc2 => ?_)
  ·
    have hk0 : kindU o = 0 := by simpa [kindU] using hc2
    -- L k0
    refine G_seq ?_
    refine G_region ?_
    refine GL_pure (E' := [⟨12, [], .pointer (some ⟨b1, 1, none⟩)⟩, ⟨11, [], .pointer (some ⟨d, 0, none⟩)⟩, ⟨0, [], .pointer (some ⟨d, 0, none⟩)⟩, ⟨3, [], .pointer (some ⟨b1, 0, none⟩)⟩, ⟨8, [], .int .u64 (Int.tmod (IntKind.wrap .u64 o.kind) 8)⟩, ⟨9, [], .bool ((Int.tmod (IntKind.wrap .u64 o.kind) 8) == 0)⟩]) [0, 0] (by kernel_rfl) (j := 2) rfl ?_
    refine GL_load (i := 2) (ch := []) (b := b1) (off := 1) (v := .string o.path) rfl rfl (by kernel_rfl) (by kernel_rfl) (by kernel_rfl) (by kernel_rfl) (by kernel_rfl) (At.grp 0 0 rfl rfl) rfl ?_
    refine GL_pure (E' := [⟨14, [], .pointer (some ⟨b1, 3, none⟩)⟩, ⟨13, [], .string o.path⟩, ⟨12, [], .pointer (some ⟨b1, 1, none⟩)⟩, ⟨11, [], .pointer (some ⟨d, 0, none⟩)⟩, ⟨0, [], .pointer (some ⟨d, 0, none⟩)⟩, ⟨3, [], .pointer (some ⟨b1, 0, none⟩)⟩, ⟨8, [], .int .u64 (Int.tmod (IntKind.wrap .u64 o.kind) 8)⟩, ⟨9, [], .bool ((Int.tmod (IntKind.wrap .u64 o.kind) 8) == 0)⟩]) [0] (by kernel_rfl) (j := 4) rfl ?_
    refine GL_load (i := 4) (ch := []) (b := b1) (off := 3) (v := .slice o.ba o.b.size o.bc) rfl rfl (by kernel_rfl) (by kernel_rfl) (by kernel_rfl) (by kernel_rfl) (by kernel_rfl) (At.grp 0 0 rfl rfl) rfl ?_
    refine GL_call (i := 5) (ch := []) (f := 13) (fst := #[]) (caps := #[]) (vs := [.pointer (some ⟨d, 0, none⟩), .string o.path, .slice o.ba o.b.size o.bc]) rfl rfl rfl (by kernel_rfl) (by kernel_rfl) Try.func13 rfl rfl (by kernel_rfl) (by kernel_rfl) (chSure_of (by kernel_rfl)) (dWrite hs0 hM d o.path o.b hO.path hb [[(b1, .cells #[.int .i64 o.kind, .string o.path, .string o.to, .slice o.ba o.b.size o.bc, .int .i64 o.n, .slice o.ka o.k.length o.kc] 41 (0, 0))]] _ H (BytesA.v hO.b).up rfl) ?_
    rintro v H' ⟨rfl, s1, hs1, rfl⟩
    refine GL_fin (E' := [⟨4, [], .int .i64 ((writeM M o.path o.b).1)⟩]) [0] [4] rfl (by kernel_rfl) ?_
    refine N_then ?_
    refine G_ret ?_
    refine N_block_ret ?_
    refine N_then_ret ?_
    refine N_ret [.tmp 4] [.int .i64 ((writeM M o.path o.b).1)] rfl (by kernel_rfl) rfl ?_
    have ht : tryM M o = writeM M o.path o.b := by (unfold tryM; rw [if_pos hk0])
    rw [ht]
    exact ⟨rfl, s1, _, hs1, rfl⟩
  ·
    have hk0 : ¬ kindU o = 0 := by simpa [kindU] using hc2
    refine G_seq ?_
    refine G_pure (E' := [⟨0, [], .pointer (some ⟨d, 0, none⟩)⟩, ⟨3, [], .pointer (some ⟨b1, 0, none⟩)⟩, ⟨8, [], .int .u64 (Int.tmod (IntKind.wrap .u64 o.kind) 8)⟩, ⟨17, [], .bool ((Int.tmod (IntKind.wrap .u64 o.kind) 8) == 1)⟩]) [0, 0] [0, 3, 8, 17] rfl (by kernel_rfl) ?_
    refine N_then ?_
    refine G_cond (b := (Int.tmod (IntKind.wrap .u64 o.kind) 8) == 1) (by kernel_rfl) (fun hc3 => ?_) (fun hc3 => ?_)
    ·
      have hk1 : kindU o = 1 := by simpa [kindU] using hc3
      -- L k1
      refine G_seq ?_
      refine G_region ?_
      refine GL_pure (E' := [⟨20, [], .pointer (some ⟨b1, 1, none⟩)⟩, ⟨19, [], .pointer (some ⟨d, 0, none⟩)⟩, ⟨0, [], .pointer (some ⟨d, 0, none⟩)⟩, ⟨3, [], .pointer (some ⟨b1, 0, none⟩)⟩, ⟨8, [], .int .u64 (Int.tmod (IntKind.wrap .u64 o.kind) 8)⟩, ⟨17, [], .bool ((Int.tmod (IntKind.wrap .u64 o.kind) 8) == 1)⟩]) [0, 0] (by kernel_rfl) (j := 2) rfl ?_
      refine GL_load (i := 2) (ch := []) (b := b1) (off := 1) (v := .string o.path) rfl rfl (by kernel_rfl) (by kernel_rfl) (by kernel_rfl) (by kernel_rfl) (by kernel_rfl) (At.grp 0 0 rfl rfl) rfl ?_
      refine GL_pure (E' := [⟨22, [], .pointer (some ⟨b1, 3, none⟩)⟩, ⟨21, [], .string o.path⟩, ⟨20, [], .pointer (some ⟨b1, 1, none⟩)⟩, ⟨19, [], .pointer (some ⟨d, 0, none⟩)⟩, ⟨0, [], .pointer (some ⟨d, 0, none⟩)⟩, ⟨3, [], .pointer (some ⟨b1, 0, none⟩)⟩, ⟨8, [], .int .u64 (Int.tmod (IntKind.wrap .u64 o.kind) 8)⟩, ⟨17, [], .bool ((Int.tmod (IntKind.wrap .u64 o.kind) 8) == 1)⟩]) [0] (by kernel_rfl) (j := 4) rfl ?_
      refine GL_load (i := 4) (ch := []) (b := b1) (off := 3) (v := .slice o.ba o.b.size o.bc) rfl rfl (by kernel_rfl) (by kernel_rfl) (by kernel_rfl) (by kernel_rfl) (by kernel_rfl) (At.grp 0 0 rfl rfl) rfl ?_
      refine GL_call (i := 5) (ch := []) (f := 22) (fst := #[]) (caps := #[]) (vs := [.pointer (some ⟨d, 0, none⟩), .string o.path, .slice o.ba o.b.size o.bc]) rfl rfl rfl (by kernel_rfl) (by kernel_rfl) Try.func22 rfl rfl (by kernel_rfl) (by kernel_rfl) (chSure_of (by kernel_rfl)) (dAppend hs0 hM d o.path o.b hO.path hb [[(b1, .cells #[.int .i64 o.kind, .string o.path, .string o.to, .slice o.ba o.b.size o.bc, .int .i64 o.n, .slice o.ka o.k.length o.kc] 41 (0, 0))]] _ H (BytesA.v hO.b).up rfl) ?_
      rintro v H' ⟨rfl, s2, hs2, rfl⟩
      refine GL_fin (E' := [⟨4, [], .int .i64 ((appendM M o.path o.b).1)⟩]) [0] [4] rfl (by kernel_rfl) ?_
      refine N_then ?_
      refine G_ret ?_
      refine N_block_ret ?_
      refine N_then_ret ?_
      refine N_ret [.tmp 4] [.int .i64 ((appendM M o.path o.b).1)] rfl (by kernel_rfl) rfl ?_
      have ht : tryM M o = appendM M o.path o.b := by (unfold tryM; rw [if_neg hk0, if_pos hk1])
      rw [ht]
      exact ⟨rfl, s2, _, hs2, rfl⟩
    ·
      have hk1 : ¬ kindU o = 1 := by simpa [kindU] using hc3
      refine G_seq ?_
      refine G_pure (E' := [⟨0, [], .pointer (some ⟨d, 0, none⟩)⟩, ⟨3, [], .pointer (some ⟨b1, 0, none⟩)⟩, ⟨8, [], .int .u64 (Int.tmod (IntKind.wrap .u64 o.kind) 8)⟩, ⟨25, [], .bool ((Int.tmod (IntKind.wrap .u64 o.kind) 8) == 2)⟩]) [0, 0] [0, 3, 8, 25] rfl (by kernel_rfl) ?_
      refine N_then ?_
      refine G_cond (b := (Int.tmod (IntKind.wrap .u64 o.kind) 8) == 2) (by kernel_rfl) (fun hc4 => ?_) (fun hc4 => ?_)
      ·
        have hk2 : kindU o = 2 := by simpa [kindU] using hc4
        -- L k2
        refine G_seq ?_
        refine G_region ?_
        refine GL_pure (E' := [⟨28, [], .pointer (some ⟨b1, 1, none⟩)⟩, ⟨27, [], .pointer (some ⟨d, 0, none⟩)⟩, ⟨0, [], .pointer (some ⟨d, 0, none⟩)⟩, ⟨3, [], .pointer (some ⟨b1, 0, none⟩)⟩, ⟨8, [], .int .u64 (Int.tmod (IntKind.wrap .u64 o.kind) 8)⟩, ⟨25, [], .bool ((Int.tmod (IntKind.wrap .u64 o.kind) 8) == 2)⟩]) [0, 0] (by kernel_rfl) (j := 2) rfl ?_
        refine GL_load (i := 2) (ch := []) (b := b1) (off := 1) (v := .string o.path) rfl rfl (by kernel_rfl) (by kernel_rfl) (by kernel_rfl) (by kernel_rfl) (by kernel_rfl) (At.grp 0 0 rfl rfl) rfl ?_
        refine GL_pure (E' := [⟨30, [], .pointer (some ⟨b1, 2, none⟩)⟩, ⟨29, [], .string o.path⟩, ⟨28, [], .pointer (some ⟨b1, 1, none⟩)⟩, ⟨27, [], .pointer (some ⟨d, 0, none⟩)⟩, ⟨0, [], .pointer (some ⟨d, 0, none⟩)⟩, ⟨3, [], .pointer (some ⟨b1, 0, none⟩)⟩, ⟨8, [], .int .u64 (Int.tmod (IntKind.wrap .u64 o.kind) 8)⟩, ⟨25, [], .bool ((Int.tmod (IntKind.wrap .u64 o.kind) 8) == 2)⟩]) [0] (by kernel_rfl) (j := 4) rfl ?_
        refine GL_load (i := 4) (ch := []) (b := b1) (off := 2) (v := .string o.to) rfl rfl (by kernel_rfl) (by kernel_rfl) (by kernel_rfl) (by kernel_rfl) (by kernel_rfl) (At.grp 0 0 rfl rfl) rfl ?_
        refine GL_call (i := 5) (ch := []) (f := 17) (fst := #[]) (caps := #[]) (vs := [.pointer (some ⟨d, 0, none⟩), .string o.path, .string o.to]) rfl rfl rfl (by kernel_rfl) (by kernel_rfl) Try.func17 rfl rfl (by kernel_rfl) (by kernel_rfl) (chSure_of (by kernel_rfl)) (dRename hs0 hM d o.path o.to hO.path hO.to [[(b1, .cells #[.int .i64 o.kind, .string o.path, .string o.to, .slice o.ba o.b.size o.bc, .int .i64 o.n, .slice o.ka o.k.length o.kc] 41 (0, 0))]] _ H rfl) ?_
        rintro v H' ⟨rfl, s3, hs3, rfl⟩
        refine GL_fin (E' := [⟨4, [], .int .i64 ((renameM M o.path o.to).1)⟩]) [0] [4] rfl (by kernel_rfl) ?_
        refine N_then ?_
        refine G_ret ?_
        refine N_block_ret ?_
        refine N_then_ret ?_
        refine N_ret [.tmp 4] [.int .i64 ((renameM M o.path o.to).1)] rfl (by kernel_rfl) rfl ?_
        have ht : tryM M o = renameM M o.path o.to := by (unfold tryM; rw [if_neg hk0, if_neg hk1, if_pos hk2])
        rw [ht]
        exact ⟨rfl, s3, _, hs3, rfl⟩
      ·
        have hk2 : ¬ kindU o = 2 := by simpa [kindU] using hc4
        refine G_seq ?_
        refine G_pure (E' := [⟨0, [], .pointer (some ⟨d, 0, none⟩)⟩, ⟨3, [], .pointer (some ⟨b1, 0, none⟩)⟩, ⟨8, [], .int .u64 (Int.tmod (IntKind.wrap .u64 o.kind) 8)⟩, ⟨33, [], .bool ((Int.tmod (IntKind.wrap .u64 o.kind) 8) == 3)⟩]) [0, 0] [0, 3, 8, 33] rfl (by kernel_rfl) ?_
        refine N_then ?_
        refine G_cond (b := (Int.tmod (IntKind.wrap .u64 o.kind) 8) == 3) (by kernel_rfl) (fun hc5 => ?_) (fun hc5 => ?_)
        ·
          have hk3 : kindU o = 3 := by simpa [kindU] using hc5
          -- L k3
          refine G_seq ?_
          refine G_region ?_
          refine GL_pure (E' := [⟨36, [], .pointer (some ⟨b1, 1, none⟩)⟩, ⟨35, [], .pointer (some ⟨d, 0, none⟩)⟩, ⟨0, [], .pointer (some ⟨d, 0, none⟩)⟩, ⟨3, [], .pointer (some ⟨b1, 0, none⟩)⟩, ⟨8, [], .int .u64 (Int.tmod (IntKind.wrap .u64 o.kind) 8)⟩, ⟨33, [], .bool ((Int.tmod (IntKind.wrap .u64 o.kind) 8) == 3)⟩]) [0, 0] (by kernel_rfl) (j := 2) rfl ?_
          refine GL_load (i := 2) (ch := []) (b := b1) (off := 1) (v := .string o.path) rfl rfl (by kernel_rfl) (by kernel_rfl) (by kernel_rfl) (by kernel_rfl) (by kernel_rfl) (At.grp 0 0 rfl rfl) rfl ?_
          refine GL_call (i := 3) (ch := []) (f := 43) (fst := #[]) (caps := #[]) (vs := [.pointer (some ⟨d, 0, none⟩), .string o.path]) rfl rfl rfl (by kernel_rfl) (by kernel_rfl) Try.func43 rfl rfl (by kernel_rfl) (by kernel_rfl) (chSure_of (by kernel_rfl)) (dRemove hs0 hM d o.path hO.path [[(b1, .cells #[.int .i64 o.kind, .string o.path, .string o.to, .slice o.ba o.b.size o.bc, .int .i64 o.n, .slice o.ka o.k.length o.kc] 41 (0, 0))]] _ H rfl) ?_
          rintro v H' ⟨rfl, s4, hs4, rfl⟩
          refine GL_fin (E' := [⟨4, [], .int .i64 ((removeM M o.path).1)⟩]) [0] [4] rfl (by kernel_rfl) ?_
          refine N_then ?_
          refine G_ret ?_
          refine N_block_ret ?_
          refine N_then_ret ?_
          refine N_ret [.tmp 4] [.int .i64 ((removeM M o.path).1)] rfl (by kernel_rfl) rfl ?_
          have ht : tryM M o = removeM M o.path := by (unfold tryM; rw [if_neg hk0, if_neg hk1, if_neg hk2, if_pos hk3])
          rw [ht]
          exact ⟨rfl, s4, _, hs4, rfl⟩
        ·
          have hk3 : ¬ kindU o = 3 := by simpa [kindU] using hc5
          refine G_seq ?_
          refine G_pure (E' := [⟨0, [], .pointer (some ⟨d, 0, none⟩)⟩, ⟨3, [], .pointer (some ⟨b1, 0, none⟩)⟩, ⟨39, [], .bool ((Int.tmod (IntKind.wrap .u64 o.kind) 8) == 4)⟩]) [0, 0] [0, 3, 39] rfl (by kernel_rfl) ?_
          refine N_then ?_
          refine G_cond (b := (Int.tmod (IntKind.wrap .u64 o.kind) 8) == 4) (by kernel_rfl) (fun hc6 => ?_) (fun hc6 => ?_)
          ·
            have hk4 : kindU o = 4 := by simpa [kindU] using hc6
            -- L k4
            refine G_seq ?_
            refine G_region ?_
            refine GL_pure (E' := [⟨42, [], .pointer (some ⟨b1, 1, none⟩)⟩, ⟨41, [], .pointer (some ⟨d, 0, none⟩)⟩, ⟨0, [], .pointer (some ⟨d, 0, none⟩)⟩, ⟨3, [], .pointer (some ⟨b1, 0, none⟩)⟩, ⟨39, [], .bool ((Int.tmod (IntKind.wrap .u64 o.kind) 8) == 4)⟩]) [0, 0] (by kernel_rfl) (j := 2) rfl ?_
            refine GL_load (i := 2) (ch := []) (b := b1) (off := 1) (v := .string o.path) rfl rfl (by kernel_rfl) (by kernel_rfl) (by kernel_rfl) (by kernel_rfl) (by kernel_rfl) (At.grp 0 0 rfl rfl) rfl ?_
            refine GL_call (i := 3) (ch := []) (f := 14) (fst := #[]) (caps := #[]) (vs := [.pointer (some ⟨d, 0, none⟩), .string o.path]) rfl rfl rfl (by kernel_rfl) (by kernel_rfl) Try.func14 rfl rfl (by kernel_rfl) (by kernel_rfl) (chSure_of (by kernel_rfl)) (dSync hs0 hM d o.path hO.path [[(b1, .cells #[.int .i64 o.kind, .string o.path, .string o.to, .slice o.ba o.b.size o.bc, .int .i64 o.n, .slice o.ka o.k.length o.kc] 41 (0, 0))]] _ H rfl) ?_
            rintro v H' ⟨rfl, s5, hs5, rfl⟩
            refine GL_fin (E' := [⟨4, [], .int .i64 ((syncM M o.path).1)⟩]) [0] [4] rfl (by kernel_rfl) ?_
            refine N_then ?_
            refine G_ret ?_
            refine N_block_ret ?_
            refine N_then_ret ?_
            refine N_ret [.tmp 4] [.int .i64 ((syncM M o.path).1)] rfl (by kernel_rfl) rfl ?_
            have ht : tryM M o = syncM M o.path := by (unfold tryM; rw [if_neg hk0, if_neg hk1, if_neg hk2, if_neg hk3, if_pos hk4])
            rw [ht]
            exact ⟨rfl, s5, _, hs5, rfl⟩
          ·
            have hk4 : ¬ kindU o = 4 := by simpa [kindU] using hc6
            refine G_skip ?_
            refine N_block ?_
            refine N_then ?_
            refine G_seq ?_
            refine G_region ?_
            refine GL_pure (E' := [⟨46, [], .pointer (some ⟨b1, 1, none⟩)⟩, ⟨45, [], .pointer (some ⟨d, 0, none⟩)⟩, ⟨0, [], .pointer (some ⟨d, 0, none⟩)⟩, ⟨3, [], .pointer (some ⟨b1, 0, none⟩)⟩, ⟨39, [], .bool ((Int.tmod (IntKind.wrap .u64 o.kind) 8) == 4)⟩]) [0, 0] (by kernel_rfl) (j := 2) rfl ?_
            refine GL_load (i := 2) (ch := []) (b := b1) (off := 1) (v := .string o.path) rfl rfl (by kernel_rfl) (by kernel_rfl) (by kernel_rfl) (by kernel_rfl) (by kernel_rfl) (At.grp 0 0 rfl rfl) rfl ?_
            refine GL_call (i := 3) (ch := []) (f := 15) (fst := #[]) (caps := #[]) (vs := [.pointer (some ⟨d, 0, none⟩), .string o.path]) rfl rfl rfl (by kernel_rfl) (by kernel_rfl) Try.func15 rfl rfl (by kernel_rfl) (by kernel_rfl) (chSure_of (by kernel_rfl)) (dSyncDir hs0 hM d o.path hO.path [[(b1, .cells #[.int .i64 o.kind, .string o.path, .string o.to, .slice o.ba o.b.size o.bc, .int .i64 o.n, .slice o.ka o.k.length o.kc] 41 (0, 0))]] _ H rfl) ?_
            rintro v H' ⟨rfl, s6, hs6, rfl⟩
            refine GL_fin (E' := [⟨4, [], .int .i64 ((syncDirM M o.path).1)⟩]) [0] [4] rfl (by kernel_rfl) ?_
            refine N_then ?_
            refine G_ret ?_
            refine N_ret [.tmp 4] [.int .i64 ((syncDirM M o.path).1)] rfl (by kernel_rfl) rfl ?_
            have ht : tryM M o = syncDirM M o.path := by (unfold tryM; rw [if_neg hk0, if_neg hk1, if_neg hk2, if_neg hk3, if_neg hk4])
            rw [ht]
            exact ⟨rfl, s6, _, hs6, rfl⟩

end Go.Proofs.Ytbmieiffboenbaa

namespace Go.Vf
open Go.Sw Go.RowKit Go.Proofs Go.Proofs.Ytbmieiffboenbaa
theorem dTry {s : DS} {M : DM} (h : s.ok M) (hm : Small M) (d : Nat) (S : Nat → Obj → Prop) (o : OpV) (hb : o.b.size ≤ 1000000000) (K : List Grp) (W0 : World) (H : List Grp) (hO : OpOk S W0 [] o) :
    Tri Try.prog 20 #[.pointer (some ⟨d, 0, none⟩), .agg #[.int .i64 o.kind, .string o.path, .string o.to, .slice o.ba o.b.size o.bc, .int .i64 o.n, .slice o.ka o.k.length o.kc]] W0 (K ++ (s.G d M ++ H))
      (fun v H' => v = .int .i64 (tryM M o).1 ∧ ∃ (s1 : DS) (g : Grp), s1.ok (tryM M o).2 ∧ H' = g :: (K ++ (s1.G d (tryM M o).2 ++ H))) := by
  refine Tri.heap (fun _ hw => front_to hw) (Tri.post (vTry d s M h hm S o hb W0 (K ++ H) hO) fun v H1 ⟨hv, s1, g, hs1, hH⟩ => ⟨_, ⟨hv, s1, g, hs1, rfl⟩, fun w hw => ?_⟩)
  rw [hH] at hw
  refine sat_cnt hw fun _ x => ?_
  simp only [List.flatten_cons, List.flatten_append, List.count_append]
  omega
theorem len_snoc {A L : List ByteArray} {j : Nat} (hj : j < L.length) : (A ++ L.take (j + 1)).length = (A ++ L.take j).length + 1 := by
  simp only [List.length_append, List.length_take]; omega
theorem strs_app (A B : List ByteArray) : strs (A ++ B) = strs A ++ strs B := by unfold strs; rw [List.map_append]
theorem own_snoc {v : Value} {g : Grp} {A L : List ByteArray} {j : Nat} (hj : j < L.length) (h : Own 9 1 v g ((A ++ L.take j).length + 1) (strs (A ++ L.take j) ++ [.string (L.getD j default)])) : Own 9 1 v g (A ++ L.take (j + 1)).length (strs (A ++ L.take (j + 1))) := by
  rw [len_snoc hj]
  have e : strs (A ++ L.take (j + 1)) = strs (A ++ L.take j) ++ [.string (L.getD j default)] := by
    rw [take_snoc (d := default) hj, ← List.append_assoc, strs_app]; rfl
  rw [e]; exact h
theorem own_snocM {v : Value} {g : Grp} {A L : List ByteArray} {f : ByteArray → ByteArray} {j : Nat} (hj : j < L.length) (h : Own 9 1 v g ((A ++ L.take j).length + 1) (strs ((A ++ L.take j).map f) ++ [.string (f (L.getD j default))])) : Own 9 1 v g (A ++ L.take (j + 1)).length (strs ((A ++ L.take (j + 1)).map f)) := by
  rw [len_snoc hj]
  have e : strs ((A ++ L.take (j + 1)).map f) = strs ((A ++ L.take j).map f) ++ [.string (f (L.getD j default))] := by
    rw [take_snoc (d := default) hj, ← List.append_assoc, List.map_append, strs_app]; rfl
  rw [e]; exact h
theorem getD_memB {l : List ByteArray} {i : Nat} (h : i < l.length) : l.getD i default ∈ l := by
  rw [List.getD_eq_getElem?_getD, List.getElem?_eq_getElem h]
  exact List.getElem_mem h
theorem getD_mapB {l : List ByteArray} {f : ByteArray → ByteArray} {i : Nat} (h : i < l.length) : (l.map f).getD i default = f (l.getD i default) := by
  rw [List.getD_eq_getElem?_getD, List.getD_eq_getElem?_getD, List.getElem?_map, List.getElem?_eq_getElem h]; rfl
theorem strs_neB {l : List ByteArray} {i : Nat} (h : i < l.length) : strs l ≠ [] := by
  intro he
  have h2 := congrArg List.length he
  unfold strs at h2
  rw [List.length_map] at h2
  simp at h2
  rw [h2] at h
  simp at h
theorem op_mem {l : List OpV} {i : Nat} (h : i < l.length) : l.getD i default ∈ l := by
  rw [List.getD_eq_getElem?_getD, List.getElem?_eq_getElem h]
  exact List.getElem_mem h
end Go.Vf

namespace Go.Vf
open Go.Sw Go.Proofs.Ytbmieiffboenbaa

def adds (l : List Nm) : Nat := (l.filter fun x => decide (0 ≤ x.2)).length
def addsC (cs : List Ch) : Nat := (cs.map fun c => adds c.l).sum
def addsL (ls : List (List Nm)) : Nat := (ls.map adds).sum
theorem with_len (l : List Nm) (x : Nm) : (withN l x).length ≤ l.length + (if 0 ≤ x.2 then 1 else 0) := by
  unfold withN
  rw [List.length_append]
  have := List.length_filter_le (fun n : Nm => !(x.1 == n.1)) l
  split <;> simp <;> omega
theorem apply_len : ∀ (c l : List Nm), (applyN l c).length ≤ l.length + adds c
  | [], l => Nat.le_refl _
  | x :: c, l => by
    have h1 := apply_len c (withN l x)
    have h2 := with_len l x
    unfold adds at h1 ⊢
    rw [List.filter_cons]
    show (applyN (withN l x) c).length ≤ _
    split
    · rename_i h
      rw [decide_eq_true_eq] at h
      rw [if_pos h] at h2
      rw [List.length_cons]; omega
    · rename_i h
      rw [decide_eq_true_eq] at h
      rw [if_neg h] at h2
      omega
theorem fold_len : ∀ (ls : List (List Nm)) (l : List Nm), (ls.foldl applyN l).length ≤ l.length + addsL ls
  | [], l => Nat.le_refl _
  | c :: ls, l => by
    have h1 := fold_len ls (applyN l c)
    have h2 := apply_len c l
    unfold addsL at h1 ⊢
    rw [List.map_cons, List.sum_cons]
    show (ls.foldl applyN (applyN l c)).length ≤ _
    omega
theorem addsC_app (a b : List Ch) : addsC (a ++ b) = addsC a + addsC b := by unfold addsC; rw [List.map_append, List.sum_append]
theorem addsC_split (l : List Ch) (d : ByteArray) : addsC l = addsL (chOf l d) + addsC (l.filter fun c => !(d == c.dir)) := by
  unfold addsC addsL chOf
  induction l with
  | nil => rfl
  | cons c l ih =>
    rw [List.filter_cons, List.filter_cons]
    cases d == c.dir
    · simp only [Bool.not_false, if_true, Bool.false_eq_true, if_false, List.map_cons, List.sum_cons]; omega
    · simp only [Bool.not_true, Bool.false_eq_true, if_false, if_true, List.map_cons, List.sum_cons]; omega
theorem addsL_take (ls : List (List Nm)) (n : Nat) : addsL (ls.take n) ≤ addsL ls := by
  unfold addsL
  induction ls generalizing n with
  | nil => simp
  | cons c ls ih =>
    cases n with
    | zero => simp
    | succ n => rw [List.take_succ_cons, List.map_cons, List.map_cons, List.sum_cons, List.sum_cons]; have := ih n; omega
theorem crashD_len : ∀ (ds : List ByteArray) (l : List Ch) (ks : List Int) (K : List Nm), ds.Nodup → (crashD l ds ks K).length ≤ K.length + addsC l
  | [], l, _, K, _ => Nat.le_add_right _ _
  | d :: ds, l, ks, K, hn => by
    rw [List.nodup_cons] at hn
    rw [crashD]
    have e : ∀ (ds : List ByteArray) (ks : List Int) (K : List Nm), d ∉ ds → crashD l ds ks K = crashD (l.filter fun c => !(d == c.dir)) ds ks K := by
      intro ds
      induction ds with
      | nil => intro _ _ _; rfl
      | cons x ds ih =>
        intro ks K hx
        rw [crashD, crashD]
        have hne : (x == d) = false := by rw [baNe]; intro he; exact hx (by rw [he]; exact List.mem_cons_self)
        rw [chOf_filter, hne]
        simp only [Bool.false_eq_true, if_false]
        exact ih _ _ fun h => hx (List.mem_cons_of_mem _ h)
    rw [e ds _ _ hn.1]
    have h1 := crashD_len ds (l.filter fun c => !(d == c.dir)) (ks.drop 1) (((chOf l d).take (nextK (ks.headD 0) (((chOf l d).length : Int) + 1)).toNat).foldl applyN K) hn.2
    have h2 := fold_len ((chOf l d).take (nextK (ks.headD 0) (((chOf l d).length : Int) + 1)).toNat) K
    have h3 := addsL_take (chOf l d) (nextK (ks.headD 0) (((chOf l d).length : Int) + 1)).toNat
    have h4 := addsC_split l d
    omega
theorem dirs_nodup (l : List Ch) : (dirsOf l).Nodup := (sortB_perm _).nodup_iff.2 (once_nodup _)
/-- all names are paths -/
def RightL (l : List Nm) : Prop := ∀ x ∈ l, rightB x.1 = true
theorem right_apply {c l : List Nm} (h : RightL l) (hc : RightL c) : RightL (applyN l c) := fun y hy => by
  rcases mem_apply hy with h1 | h1
  · exact h y h1
  · exact hc y h1.1
theorem right_fold : ∀ {ls : List (List Nm)} {l : List Nm}, RightL l → (∀ c ∈ ls, RightL c) → RightL (ls.foldl applyN l)
  | [], _, h, _ => h
  | c :: ls, l, h, hc => right_fold (ls := ls) (right_apply h (hc c List.mem_cons_self)) fun x hx => hc x (List.mem_cons_of_mem _ hx)
theorem chOf_mem {l : List Ch} {d : ByteArray} {x : List Nm} (h : x ∈ chOf l d) : ∃ c ∈ l, c.l = x := by
  unfold chOf at h
  obtain ⟨c, hc, rfl⟩ := List.mem_map.1 h
  exact ⟨c, (List.mem_filter.1 hc).1, rfl⟩
theorem right_crash : ∀ {ds : List ByteArray} {l : List Ch} {ks : List Int} {K : List Nm}, RightL K → (∀ c ∈ l, RightL c.l) → RightL (crashD l ds ks K)
  | [], _, _, _, h, _ => h
  | d :: ds, l, ks, K, h, hc => by
    rw [crashD]
    exact right_crash (ds := ds) (right_fold h fun x hx => by obtain ⟨c, hc1, rfl⟩ := chOf_mem (List.mem_of_mem_take hx); exact hc c hc1) hc
theorem part_size {s : ByteArray} (h : partB s = true) : s.size ≤ 80 := by
  unfold partB at h
  simp only [Bool.and_eq_true, decide_eq_true_eq] at h
  omega
theorem right_size {s : ByteArray} (h : rightB s = true) : s.size ≤ 161 := by
  unfold rightB at h
  split at h
  · have := part_size h; omega
  · rename_i hs
    rw [Bool.and_eq_true] at h
    obtain ⟨h1, h2, h3⟩ := slash_facts hs
    have a1 := part_size h.1
    have a2 := part_size h.2
    omega
theorem dir_size (s : ByteArray) : (dirB s).size ≤ s.size := by
  unfold dirB
  split
  · exact Nat.zero_le _
  · rw [ByteArray.size_extract]; omega
/-- at most w names, w + a acts; nothing fails -/
structure CalI (w a r i j : Nat) (M : DM) : Prop where
  room : M.room = 1048576
  fails : M.fails = false
  calls : M.calls = 0
  bodies : M.bodies.length ≤ j
  size : ∀ B ∈ M.bodies, B.now.size ≤ 999 * (a + 1) + r ∧ B.kept.size ≤ B.now.size
  names : M.names.length ≤ w
  kept : M.kept.length + addsC M.changes ≤ w
  changes : M.changes.length ≤ i
  rn : RightL M.names
  rk : RightL M.kept
  rc : ∀ c ∈ M.changes, RightL c.l ∧ c.dir.size ≤ 161
theorem CalI.small {w a r i j : Nat} {M : DM} (h : CalI w a r i j M) (hw : w + a ≤ 60) (hr : r ≤ 8 * w) (hi : i ≤ 60) (hj : j ≤ 60) : Small M := by
  refine ⟨by have := h.bodies; omega, fun B hB => ?_, by have := h.names; omega, by have := h.changes; omega, by rw [h.calls]; omega, fun x hx => by have := right_size (h.rn x hx); omega, fun c hc => by have := (h.rc c hc).2; omega⟩
  obtain ⟨h1, h2⟩ := h.size B hB
  exact ⟨by have : 999 * (a + 1) + r ≤ 10000000 := by omega
            omega, h2⟩
theorem call_calm {M : DM} (hf : M.fails = false) (r : Bool) : callM M r = M := by
  cases r
  · cases M; rfl
  · exact (err_ok rfl hf).2
theorem err_right {M : DM} {r : Bool} (h : errM M r = 0) : r = true := by
  cases r
  · exact absurd (show (2 : Int) = 0 from h) (by decide)
  · rfl
theorem body_size {w a r i j : Nat} {M : DM} (h : CalI w a r i j M) (k : Int) : (bodyAt M k).now.size ≤ 999 * (a + 1) + r ∧ (bodyAt M k).kept.size ≤ (bodyAt M k).now.size := by
  unfold bodyAt
  rw [List.getD_eq_getElem?_getD]
  by_cases hk : k.toNat < M.bodies.length
  · rw [List.getElem?_eq_getElem hk]; exact h.size _ (List.getElem_mem hk)
  · rw [List.getElem?_eq_none (by omega)]; exact ⟨Nat.zero_le _, Nat.zero_le _⟩
theorem cal_set {w a a' r r' i i' j : Nat} {M : DM} (h : CalI w a r i j M) (k : Int) {B : Body} (hB : B.now.size ≤ 999 * (a' + 1) + r' ∧ B.kept.size ≤ B.now.size) (ha : 999 * (a + 1) + r ≤ 999 * (a' + 1) + r') (hi : i ≤ i') : CalI w a' r' i' j (setBody M k B) :=
  ⟨h.room, h.fails, h.calls, by show (M.bodies.set _ _).length ≤ _; rw [List.length_set]; exact h.bodies, fun x hx => by
    rcases List.mem_or_eq_of_mem_set (show x ∈ M.bodies.set k.toNat B from hx) with hx | rfl
    · obtain ⟨h1, h2⟩ := h.size x hx; exact ⟨by omega, h2⟩
    · exact hB, h.names, h.kept, Nat.le_trans h.changes hi, h.rn, h.rk, h.rc⟩
theorem cal_change {w a r i j n : Nat} {M : DM} (h : CalI w a r i j M) {d : ByteArray} {l : List Nm} (hl : adds l ≤ n) (hr : RightL l) (hd : d.size ≤ 161) : CalI (w + n) a r (i + 1) j (changeM M d l) := by
  refine ⟨h.room, h.fails, h.calls, h.bodies, h.size, ?_, ?_, ?_, right_apply h.rn hr, h.rk, fun c hc => ?_⟩
  · have h1 := apply_len l M.names
    have h2 := h.names
    show (applyN M.names l).length ≤ _
    omega
  · have h2 := h.kept
    show M.kept.length + addsC (M.changes ++ [⟨d, l⟩]) ≤ _
    rw [addsC_app]
    have : addsC [⟨d, l⟩] = adds l := by simp [addsC]
    omega
  · have h2 := h.changes
    show (M.changes ++ [_]).length ≤ _
    rw [List.length_append]; simp; omega
  · rcases List.mem_append.1 (show c ∈ M.changes ++ [⟨d, l⟩] from hc) with hc | hc
    · exact h.rc c hc
    · rw [List.mem_singleton.1 hc]; exact ⟨hr, hd⟩
theorem cal_up {w w' a a' r i i' j j' : Nat} {M : DM} (h : CalI w a r i j M) (hw : w ≤ w') (ha : a ≤ a') (hi : i ≤ i') (hj : j ≤ j') : CalI w' a' r i' j' M :=
  ⟨h.room, h.fails, h.calls, Nat.le_trans h.bodies hj, fun B hB => by obtain ⟨h1, h2⟩ := h.size B hB; exact ⟨by omega, h2⟩, Nat.le_trans h.names hw, Nat.le_trans h.kept hw, Nat.le_trans h.changes hi, h.rn, h.rk, h.rc⟩
def Cal (i : Nat) (M : DM) : Prop := ∃ w a, w + a ≤ i ∧ CalI w a 0 i i M
theorem Cal.small {i : Nat} {M : DM} (h : Cal i M) (hi : i ≤ 60) : Small M := by
  obtain ⟨w, a, h1, h2⟩ := h
  exact h2.small (by omega) (Nat.zero_le _) hi hi
theorem Cal.stay {i : Nat} {M : DM} (h : Cal i M) : Cal (i + 1) M := by
  obtain ⟨w, a, h1, h2⟩ := h
  exact ⟨w, a, by omega, cal_up h2 (Nat.le_refl _) (Nat.le_refl _) (by omega) (by omega)⟩
theorem cal_body {w a r i j : Nat} {M : DM} (h : CalI w a r i j M) {b : ByteArray} (hb : b.size ≤ 999 * (a + 1) + r) : CalI w a r i (j + 1) { M with bodies := M.bodies ++ [⟨b, ByteArray.mk #[]⟩] } :=
  ⟨h.room, h.fails, h.calls, by have := h.bodies; show (M.bodies ++ [_]).length ≤ _; rw [List.length_append]; simp; omega, fun B hB => by
    rcases List.mem_append.1 (show B ∈ M.bodies ++ [⟨b, ByteArray.mk #[]⟩] from hB) with hB | hB
    · exact h.size B hB
    · rw [List.mem_singleton.1 hB]; exact ⟨hb, Nat.zero_le _⟩, h.names, h.kept, h.changes, h.rn, h.rk, h.rc⟩
theorem cal_write {i : Nat} {M : DM} (h : Cal i M) (p : ByteArray) {b : ByteArray} (hb : b.size < 1000) : Cal (i + 1) (writeM M p b).2 := by
  have hst := h.stay
  obtain ⟨w, a, h1, h2⟩ := h
  have hc := call_calm h2.fails (rightB p)
  by_cases he : errM M (rightB p) = 0
  · have hr := err_right he
    by_cases hroom : (usedM M : Int) - (wasM M p : Int) + (b.size : Int) > M.room
    · rw [writeM_full he hroom, hc]; exact hst
    · rw [writeM_ok he hroom, hc]
      have h3 := cal_change (n := 1) (l := [(p, (M.bodies.length : Int))]) (d := dirB p) (cal_body h2 (b := b) (by omega)) (by unfold adds; exact Nat.le_trans (List.length_filter_le _ _) (Nat.le_refl 1)) (fun x hx => by rw [List.mem_singleton.1 hx]; exact hr) (by have := dir_size p; have := right_size hr; omega)
      exact ⟨w + 1, a, by omega, h3⟩
  · rw [writeM_err he, hc]; exact hst
theorem cal_append {i : Nat} {M : DM} (h : Cal i M) (p : ByteArray) {b : ByteArray} (hb : b.size < 1000) : Cal (i + 1) (appendM M p b).2 := by
  have hst := h.stay
  obtain ⟨w, a, h1, h2⟩ := h
  have hc := call_calm h2.fails (rightB p)
  by_cases he : errM M (rightB p) = 0
  · cases hl : lookN M.names p with
    | none => rw [appendM_no he hl, hc]; exact hst
    | some k =>
      by_cases hroom : (usedM M : Int) + (b.size : Int) > M.room
      · rw [appendM_full he hl hroom, hc]; exact hst
      · rw [appendM_ok he hl hroom, hc]
        obtain ⟨s1, s2⟩ := body_size h2 k
        exact ⟨w, a + 1, by omega, cal_up (cal_set (a' := a + 1) (r' := 0) (i' := i + 1) h2 k (by simp only [ByteArray.size_append]; omega) (by omega) (by omega)) (Nat.le_refl _) (Nat.le_refl _) (Nat.le_refl _) (by omega)⟩
  · rw [appendM_err he, hc]; exact hst
theorem cal_rename {i : Nat} {M : DM} (h : Cal i M) (p q : ByteArray) : Cal (i + 1) (renameM M p q).2 := by
  have hst := h.stay
  obtain ⟨w, a, h1, h2⟩ := h
  have hc := call_calm h2.fails (renR p q)
  by_cases he : errM M (renR p q) = 0
  · have hr := err_right he
    have hpq : rightB p = true ∧ rightB q = true := by
      unfold renR at hr
      simp only [Bool.and_eq_true] at hr
      exact hr.1
    cases hl : lookN M.names p with
    | none => rw [renameM_no he hl, hc]; exact hst
    | some k =>
      cases hs : p == q with
      | true => rw [renameM_same he hl hs, hc]; exact hst
      | false =>
        rw [renameM_ok he hl hs, hc]
        have h3 := cal_change (n := 1) (l := [(p, -1), (q, k)]) (d := dirB q) h2 (by
          unfold adds
          rw [List.filter_cons, if_neg (by show ¬ decide ((0 : Int) ≤ -1) = true; decide)]
          exact Nat.le_trans (List.length_filter_le _ _) (Nat.le_refl 1)) (fun x hx => by
          rcases List.mem_cons.1 hx with rfl | hx
          · exact hpq.1
          · rw [List.mem_singleton.1 hx]; exact hpq.2) (by have := dir_size q; have := right_size hpq.2; omega)
        exact ⟨w + 1, a, by omega, cal_up h3 (Nat.le_refl _) (Nat.le_refl _) (Nat.le_refl _) (by omega)⟩
  · rw [renameM_err he, hc]; exact hst
theorem cal_remove {i : Nat} {M : DM} (h : Cal i M) (p : ByteArray) : Cal (i + 1) (removeM M p).2 := by
  have hst := h.stay
  obtain ⟨w, a, h1, h2⟩ := h
  have hc := call_calm h2.fails (rightB p)
  by_cases he : errM M (rightB p) = 0
  · have hr := err_right he
    cases hl : lookN M.names p with
    | none => rw [removeM_no he hl, hc]; exact hst
    | some k =>
      rw [removeM_ok he hl, hc]
      have h3 := cal_change (n := 0) (l := [(p, -1)]) (d := dirB p) h2 (by
        unfold adds
        rw [List.filter_cons, if_neg (by show ¬ decide ((0 : Int) ≤ -1) = true; decide)]
        exact Nat.le_refl 0) (fun x hx => by rw [List.mem_singleton.1 hx]; exact hr) (by have := dir_size p; have := right_size hr; omega)
      exact ⟨w, a, by omega, cal_up h3 (Nat.le_refl _) (Nat.le_refl _) (Nat.le_refl _) (by omega)⟩
  · rw [removeM_err he, hc]; exact hst
theorem cal_sync {i : Nat} {M : DM} (h : Cal i M) (p : ByteArray) : Cal (i + 1) (syncM M p).2 := by
  have hst := h.stay
  obtain ⟨w, a, h1, h2⟩ := h
  have hc := call_calm h2.fails (rightB p)
  by_cases he : errM M (rightB p) = 0
  · cases hl : lookN M.names p with
    | none => rw [syncM_no he hl, hc]; exact hst
    | some k =>
      rw [syncM_ok he hl, hc]
      obtain ⟨s1, s2⟩ := body_size h2 k
      exact ⟨w, a, by omega, cal_up (cal_set (a' := a) (r' := 0) (i' := i + 1) h2 k ⟨s1, Nat.le_refl _⟩ (Nat.le_refl _) (by omega)) (Nat.le_refl _) (Nat.le_refl _) (Nat.le_refl _) (by omega)⟩
  · rw [syncM_err he, hc]; exact hst
theorem cal_sdir {i : Nat} {M : DM} (h : Cal i M) (d : ByteArray) : Cal (i + 1) (syncDirM M d).2 := by
  have hst := h.stay
  obtain ⟨w, a, h1, h2⟩ := h
  have hc := call_calm h2.fails (dirR d)
  by_cases he : errM M (dirR d) = 0
  · rw [syncDirM_ok he, hc]
    have e1 := fold_len (chOf M.changes d) M.kept
    have e2 := addsC_split M.changes d
    have e3 := h2.kept
    have e4 := h2.changes
    have e5 := List.length_filter_le (fun c : Ch => !(d == c.dir)) M.changes
    refine ⟨w, a, by omega, h2.room, h2.fails, h2.calls, Nat.le_trans h2.bodies (by omega), h2.size, h2.names, ?_, ?_, h2.rn, right_fold h2.rk fun x hx => ?_, fun c hc => h2.rc c (List.mem_filter.1 hc).1⟩
    · show ((chOf M.changes d).foldl applyN M.kept).length + addsC (M.changes.filter _) ≤ w
      omega
    · show (M.changes.filter _).length ≤ i + 1
      omega
    · obtain ⟨c, hc, rfl⟩ := chOf_mem hx
      exact (h2.rc c hc).1
  · rw [syncDirM_err he, hc]; exact hst
theorem cal_try {i : Nat} {M : DM} (h : Cal i M) {o : OpV} (hb : o.b.size < 1000) : Cal (i + 1) (tryM M o).2 := by
  unfold tryM
  split
  · exact cal_write h _ hb
  split
  · exact cal_append h _ hb
  split
  · exact cal_rename h _ _
  split
  · exact cal_remove h _
  split
  · exact cal_sync h _
  · exact cal_sdir h _
/-- all that is there is kept -/
structure Quiet (M : DM) : Prop where
  bodies : ∀ B ∈ M.bodies, B.now = B.kept
  names : M.names = M.kept
  changes : M.changes = []
  fails : M.fails = false
theorem crashB_quiet {n : Nat} : ∀ {Bs : List Body} {ks : List Int}, (∀ B ∈ Bs, B.now.size ≤ n ∧ B.kept.size ≤ B.now.size) → ∀ B ∈ (crashB Bs ks).1, B.now = B.kept
  | [], _, _, B, hB => by cases hB
  | x :: r, ks, h, B, hB => by
    have ih := fun ks => crashB_quiet (n := n) (Bs := r) (ks := ks) fun B hB => h B (List.mem_cons_of_mem _ hB)
    rw [crashB] at hB
    split at hB
    · rcases List.mem_cons.1 hB with rfl | hB
      · rfl
      · exact ih _ B hB
    · rcases List.mem_cons.1 hB with rfl | hB
      · rfl
      · exact ih _ B hB
theorem crash_quiet {w a r i j : Nat} {M : DM} (h : CalI w a r i j M) (ks : List Int) : Quiet (crashM M ks) ∧ CalI w a r i j (crashM M ks) := by
  have hk := crashD_len (dirsOf M.changes) M.changes (crashB M.bodies ks).2 M.kept (dirs_nodup _)
  have h1 := h.kept
  have hr : RightL (crashD M.changes (dirsOf M.changes) (crashB M.bodies ks).2 M.kept) := right_crash h.rk fun c hc => (h.rc c hc).1
  have hs := crashB_size (n := 999 * (a + 1) + r) (ks := ks) h.size
  refine ⟨⟨crashB_quiet h.size, rfl, rfl, rfl⟩, h.room, rfl, h.calls, ?_, fun B hB => ⟨(hs B hB).1, Nat.le_of_eq (hs B hB).2⟩, ?_, ?_, Nat.zero_le _, hr, hr, fun c hc => absurd hc List.not_mem_nil⟩
  · show (crashB M.bodies ks).1.length ≤ j
    rw [crashB_len]; exact h.bodies
  · show (crashD _ _ _ _).length ≤ w
    omega
  · show (crashD M.changes (dirsOf M.changes) (crashB M.bodies ks).2 M.kept).length + 0 ≤ w
    omega
theorem crashB_id : ∀ {Bs : List Body} {ks : List Int}, (∀ B ∈ Bs, B.now = B.kept) → crashB Bs ks = (Bs, ks)
  | [], _, _ => rfl
  | ⟨n, k⟩ :: r, ks, h => by
    have e : n = k := h _ List.mem_cons_self
    subst e
    rw [crashB_same, crashB_id fun B hB => h B (List.mem_cons_of_mem _ hB)]
theorem crash_id {M : DM} (h : Quiet M) (ks : List Int) : crashM M ks = M := by
  unfold crashM
  rw [crashB_id h.bodies, h.changes, dirs_nil]
  obtain ⟨_, hn, hc, hf⟩ := h
  cases M
  simp only at hn hc hf
  subst hn hc hf
  rfl
end Go.Vf

namespace Go.Vf
open Go.Sw Go.Proofs.Ytbmieiffboenbaa

def dirsL : List ByteArray := [p0, ByteArray.mk #[100], ByteArray.mk #[101], ByteArray.mk #[122]]
theorem dirs_right {k : Nat} (h : k < 4) : dirR (dirsL.getD k default) = true := by
  have : k = 0 ∨ k = 1 ∨ k = 2 ∨ k = 3 := by omega
  rcases this with rfl | rfl | rfl | rfl
  · exact dirR_0
  · unfold dirR; rw [show partB (dirsL.getD 1 default) = true from by decide +kernel, Bool.or_true]
  · unfold dirR; rw [show partB (dirsL.getD 2 default) = true from by decide +kernel, Bool.or_true]
  · unfold dirR; rw [show partB (dirsL.getD 3 default) = true from by decide +kernel, Bool.or_true]
theorem dirs_size {k : Nat} (h : k < 4) : (dirsL.getD k default).size ≤ 9223372036854775807 := by
  have : k = 0 ∨ k = 1 ∨ k = 2 ∨ k = 3 := by omega
  rcases this with rfl | rfl | rfl | rfl <;> decide
def readT (M : DM) (p : ByteArray) : ByteArray := (readM M p).1
/-- what is told of the first k directories -/
def namesU (M : DM) (k : Nat) : List ByteArray := (dirsL.take k).flatMap (listM M)
theorem namesU_succ (M : DM) {k : Nat} (h : k < 4) : namesU M (k + 1) = namesU M k ++ listM M (dirsL.getD k default) := by
  unfold namesU
  rw [take_snoc (d := default) (by exact h), List.flatMap_append]
  simp
theorem namesU_all (M : DM) (k : Nat) : ∃ r, namesU M 4 = namesU M k ++ r := by
  unfold namesU
  refine ⟨(dirsL.drop k).flatMap (listM M), ?_⟩
  rw [← List.flatMap_append, List.take_append_drop]; rfl
/-- the entry that stands where the second round is -/
theorem names_idx (M : DM) {k j : Nat} (h : k < 4) (hj : j < (listM M (dirsL.getD k default)).length) : (namesU M k).length + j < (namesU M 4).length ∧ (namesU M 4).getD ((namesU M k).length + j) default = (listM M (dirsL.getD k default)).getD j default := by
  obtain ⟨r, hr⟩ := namesU_all M (k + 1)
  rw [namesU_succ M h] at hr
  rw [hr]
  generalize listM M (dirsL.getD k default) = L at hj
  refine ⟨by simp only [List.length_append]; omega, ?_⟩
  rw [List.getD_eq_getElem?_getD, List.getD_eq_getElem?_getD, List.append_assoc, List.getElem?_append_right (by omega), Nat.add_sub_cancel_left, List.getElem?_append_left hj]
theorem list_mem {M : DM} {d p : ByteArray} (h : p ∈ listM M d) : ∃ x ∈ M.names, x.1 = p := by
  have := (sortB_perm _).mem_iff.1 h
  obtain ⟨x, hx, rfl⟩ := List.mem_map.1 this
  exact ⟨x, (List.mem_filter.1 hx).1, rfl⟩
theorem list_len (M : DM) (d : ByteArray) : (listM M d).length ≤ M.names.length := by
  unfold listM
  rw [sortB_len, List.length_map]
  exact List.length_filter_le _ _
theorem namesU_len (M : DM) : ∀ k : Nat, k ≤ 4 → (namesU M k).length ≤ k * M.names.length
  | 0, _ => by simp [namesU]
  | k + 1, h => by
    rw [namesU_succ M (by omega), List.length_append]
    have h1 := namesU_len M k (by omega)
    have h2 := list_len M (dirsL.getD k default)
    rw [Nat.add_mul]; omega
theorem names_in {M : DM} {p : ByteArray} (h : p ∈ namesU M 4) : ∃ x ∈ M.names, x.1 = p := by
  unfold namesU at h
  obtain ⟨d, _, hd⟩ := List.mem_flatMap.1 h
  exact list_mem hd
theorem lookN_ex {l : List Nm} {p : ByteArray} (h : ∃ x ∈ l, x.1 = p) : ∃ k, lookN l p = some k := by
  cases hl : lookN l p with
  | some k => exact ⟨k, rfl⟩
  | none =>
    obtain ⟨x, hx, rfl⟩ := h
    have := lookN_none.1 hl x hx
    simp at this
theorem used_bound {w a r i j : Nat} {M : DM} (h : CalI w a r i j M) (hw : w + a ≤ 60) (hr : r ≤ 8 * w) : usedM M + 1 ≤ 1048576 := by
  have h1 : usedM M ≤ M.names.length * (999 * (a + 1) + r) := by
    unfold usedM
    generalize M.names = l
    induction l with
    | nil => simp
    | cons x l ih =>
      rw [List.map_cons, List.sum_cons, List.length_cons, Nat.add_mul, Nat.one_mul]
      have : sizeAt M x.2 ≤ 999 * (a + 1) + r := (body_size h x.2).1
      omega
  have h2 : M.names.length * (999 * (a + 1) + r) ≤ w * (999 * (a + 1) + r) := Nat.mul_le_mul_right _ h.names
  have h3 : w * (a + 1) ≤ 930 := by
    have e : ∀ w : Nat, w < 61 → w * (61 - w) ≤ 930 := by decide
    exact Nat.le_trans (Nat.mul_le_mul_left w (by omega : a + 1 ≤ 61 - w)) (e w (by omega))
  have h4 : w * r ≤ 28800 := by
    have e : ∀ w : Nat, w < 61 → w * (8 * w) ≤ 28800 := by decide
    exact Nat.le_trans (Nat.mul_le_mul_left w hr) (e w (by omega))
  have h5 : w * (999 * (a + 1) + r) = 999 * (w * (a + 1)) + w * r := by rw [Nat.mul_add, Nat.mul_left_comm]
  omega
def stepA (M : DM) (k : Int) : DM := setBody M k ⟨(bodyAt M k).now ++ fx, (bodyAt M k).kept⟩
def stepM (M : DM) (k : Int) : DM := setBody (stepA M k) k ⟨(bodyAt (stepA M k) k).now, (bodyAt (stepA M k) k).now⟩
theorem step_append {w a r i j : Nat} {M : DM} {p : ByteArray} {k : Int} (hq : Quiet M) (h : CalI w a r i j M) (hw : w + a ≤ 60) (hr : r ≤ 8 * w) (hl : lookN M.names p = some k) : appendM M p fx = (0, stepA M k) := by
  have hp : rightB p = true := h.rn (p, k) (lookN_mem hl)
  obtain ⟨e1, e2⟩ := err_ok (M := M) hp hq.fails
  have hb := used_bound h hw hr
  have hroom : ¬ (usedM M : Int) + (fx.size : Int) > M.room := by
    rw [h.room]
    have e : (fx.size : Int) = 1 := rfl
    omega
  have h1 := appendM_ok (b := fx) e1 hl hroom
  rw [e2] at h1
  exact h1
theorem step_sync {M : DM} {p : ByteArray} {k : Int} (hq : Quiet M) (hp : rightB p = true) (hl : lookN M.names p = some k) : syncM (stepA M k) p = (0, stepM M k) := by
  obtain ⟨e1, e2⟩ := err_ok (M := stepA M k) hp hq.fails
  rw [syncM_ok (k := k) e1 hl, e2]; rfl
theorem stepA_cal {w a r i j : Nat} {M : DM} {k : Int} (h : CalI w a r i j M) : CalI w a (r + 1) i j (stepA M k) := by
  obtain ⟨s1, s2⟩ := body_size h k
  exact cal_set h k (by simp only [ByteArray.size_append]; show (bodyAt M k).now.size + 1 ≤ _ ∧ _; omega) (by omega) (Nat.le_refl _)
theorem stepM_cal {w a r i j : Nat} {M : DM} {k : Int} (h : CalI w a r i j M) : CalI w a (r + 1) i j (stepM M k) := by
  have h1 := stepA_cal (k := k) h
  obtain ⟨s1, s2⟩ := body_size h1 k
  exact cal_set h1 k ⟨s1, Nat.le_refl _⟩ (Nat.le_refl _) (Nat.le_refl _)
theorem stepM_quiet {M : DM} {k : Int} (h : Quiet M) : Quiet (stepM M k) := by
  have h3 : (stepM M k).bodies = M.bodies.set k.toNat ⟨(bodyAt (stepA M k) k).now, (bodyAt (stepA M k) k).now⟩ := by
    show (M.bodies.set _ _).set _ _ = _
    rw [List.set_set]
  refine ⟨fun B hB => ?_, h.names, h.changes, h.fails⟩
  rw [h3] at hB
  rcases List.mem_or_eq_of_mem_set hB with hB | rfl
  · exact h.bodies B hB
  · rfl
theorem sdir_quiet {M : DM} {d : ByteArray} (h : Quiet M) (hd : dirR d = true) : syncDirM M d = (0, M) := by
  obtain ⟨e1, e2⟩ := err_ok (M := M) hd h.fails
  rw [syncDirM_ok e1, e2, h.changes]
  obtain ⟨_, hn, hc, hf⟩ := h
  cases M
  simp only at hc
  subst hc
  rfl
theorem cal_r {w a r r' i j : Nat} {M : DM} (h : CalI w a r i j M) (hr : r ≤ r') : CalI w a r' i j M :=
  ⟨h.room, h.fails, h.calls, h.bodies, fun B hB => by obtain ⟨h1, h2⟩ := h.size B hB; exact ⟨by omega, h2⟩, h.names, h.kept, h.changes, h.rn, h.rk, h.rc⟩
theorem Cal.mono {i i' : Nat} {M : DM} (h : Cal i M) (hi : i ≤ i') : Cal i' M := by
  obtain ⟨w, a, h1, h2⟩ := h
  exact ⟨w, a, by omega, cal_up h2 (Nat.le_refl _) (Nat.le_refl _) hi hi⟩
theorem cal_new : Cal 0 (newM 1048576) :=
  ⟨0, 0, Nat.le_refl _, rfl, rfl, rfl, Nat.le_refl _, fun _ h => absurd h List.not_mem_nil, Nat.le_refl _, Nat.le_refl _, Nat.le_refl _, fun _ h => absurd h List.not_mem_nil, fun _ h => absurd h List.not_mem_nil, fun _ h => absurd h List.not_mem_nil⟩
end Go.Vf
