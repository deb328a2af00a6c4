/- The walks of SyncDir and of the numbers of a crash. Conditions: the numbers are ints; what the blocks hold is told. -/
import Derived.Test.YtbmieiffboenbaaVf
namespace Go.Proofs.Ytbmieiffboenbaa
open Go.Sw Go.Lib Go.Vf Go.RowKit


theorem vSyncDir (d nb kb cb kc cc : Nat) (room calls : Int) (bv : Value) (fails once : Bool) (km cm : SM) (dir : ByteArray) (hdir : dir.size ≤ 9223372036854775807) (hca : -9223372036854775808 ≤ calls ∧ calls ≤ 9223372036854775807) (hk : MapOk km kc) (ra : Option Addr) (rc : Nat) (S : Nat → Obj → Prop) (qs : List Nat) (xs : List SM) (xcs : List Nat) (hl : xs.length = qs.length) (hq : qs.length ≤ 1000000) (hrd : Rd S ra (qs.map fun q => Value.map (some q))) (hg : mget cm dir = some (.slice ra qs.length rc)) (W0 : World) (H : List Grp) (hS : ∀ y o, S y o → At W0 H y o) (hAll : ∀ i, i < qs.length → At W0 H (qs.getD i 0) (.map (encM (xs.getD i [])) (xcs.getD i 0)) ∧ MapOk (xs.getD i []) (xcs.getD i 0) ∧ ∀ e ∈ xs.getD i [], e.2.1 = .pointer none ∨ ∃ p, e.2.1 = .pointer (some ⟨p, 0, none⟩)) : Tri Try.prog 15 #[.pointer (some ⟨d, 0, none⟩), .string dir] W0 ([(d, .cells #[.int .i64 room, bv, .map (some nb), .map (some kb), .map (some cb), .bool fails, .bool once, .int .i64 calls] 64 (0, 0))] :: [(kb, .map (encM km) kc)] :: [(cb, .map (encM cm) cc)] :: H) (fun v H' => ((callS fails once calls ((dir.toList == (ByteArray.mk #[]).toList) || partB dir)).1 ≠ 0 ∧ v = .int .i64 (callS fails once calls ((dir.toList == (ByteArray.mk #[]).toList) || partB dir)).1 ∧ H' = ([(d, .cells #[.int .i64 room, bv, .map (some nb), .map (some kb), .map (some cb), .bool ((callS fails once calls ((dir.toList == (ByteArray.mk #[]).toList) || partB dir)).2.1), .bool once, .int .i64 ((callS fails once calls ((dir.toList == (ByteArray.mk #[]).toList) || partB dir)).2.2)] 64 (0, 0))] :: [(kb, .map (encM km) kc)] :: [(cb, .map (encM cm) cc)] :: H)) ∨ ((callS fails once calls ((dir.toList == (ByteArray.mk #[]).toList) || partB dir)).1 = 0 ∧ v = .int .i64 0 ∧ ∃ km1 kc1, MadeOf xs (km, kc) (km1, kc1) ∧ H' = ([(d, .cells #[.int .i64 room, bv, .map (some nb), .map (some kb), .map (some cb), .bool ((callS fails once calls ((dir.toList == (ByteArray.mk #[]).toList) || partB dir)).2.1), .bool once, .int .i64 ((callS fails once calls ((dir.toList == (ByteArray.mk #[]).toList) || partB dir)).2.2)] 64 (0, 0))] :: [(kb, .map (encM km1) kc1)] :: [(cb, .map (encM (mdel cm dir)) cc)] :: H))) := by
  refine Tri_of (args := [.pointer (some ⟨d, 0, none⟩), .string dir]) (n := 42) Try.func15 rfl rfl (Nat.le_of_ble_eq_true rfl) ?_
  refine G_seq ?_
  refine G_pure (E' := [⟨0, [], .pointer (some ⟨d, 0, none⟩)⟩, ⟨1, [], .string dir⟩]) [0] [0, 1] rfl (by kernel_rfl) ?_
  refine N_then ?_
  refine G_seq ?_
  refine G_seq ?_
  refine G_region ?_
  refine GL_pure (E' := [⟨12, [(11, false)], .string dir⟩, ⟨11, [], .bool (dir.toList == (ByteArray.mk #[]).toList)⟩, ⟨10, [], .bool (dir.toList == (ByteArray.mk #[]).toList)⟩, ⟨9, [], .string dir⟩, ⟨8, [], .pointer (some ⟨d, 0, none⟩)⟩, ⟨0, [], .pointer (some ⟨d, 0, none⟩)⟩, ⟨1, [], .string dir⟩]) [0, 0, 0, 0, 0] (by kernel_rfl) (j := 5) rfl ?_
  refine GL_callQ (i := 5) (ch := [(11, false)]) (f := 32) (fst := #[]) (caps := #[]) (vs := [.string dir]) (v := .bool (partB dir)) rfl rfl rfl (by kernel_rfl) (by kernel_rfl) Try.func32 rfl rfl (by kernel_rfl) (by kernel_rfl) (by kernel_rfl) (fun hc => vfsPart _ hdir _ _) ?_
  refine GL_pure (E' := [⟨14, [], .bool ((dir.toList == (ByteArray.mk #[]).toList) || (partB dir))⟩, ⟨13, [(11, false)], .bool (partB dir)⟩, ⟨12, [(11, false)], .string dir⟩, ⟨11, [], .bool (dir.toList == (ByteArray.mk #[]).toList)⟩, ⟨10, [], .bool (dir.toList == (ByteArray.mk #[]).toList)⟩, ⟨9, [], .string dir⟩, ⟨8, [], .pointer (some ⟨d, 0, none⟩)⟩, ⟨0, [], .pointer (some ⟨d, 0, none⟩)⟩, ⟨1, [], .string dir⟩]) [5] (by kernel_rfl) (j := 7) rfl ?_
  refine GL_call (i := 7) (ch := []) (f := 34) (fst := #[]) (caps := #[]) (vs := [.pointer (some ⟨d, 0, none⟩), .bool ((dir.toList == (ByteArray.mk #[]).toList) || (partB dir))]) rfl rfl rfl (by kernel_rfl) (by kernel_rfl) Try.func34 rfl rfl (by kernel_rfl) (by kernel_rfl) (chSure_of (by kernel_rfl)) (vCall d nb kb cb room calls bv fails once ((dir.toList == (ByteArray.mk #[]).toList) || (partB dir)) hca _ _) ?_
  rintro v H' ⟨rfl, rfl⟩
  refine GL_fin (E' := [⟨0, [], .pointer (some ⟨d, 0, none⟩)⟩, ⟨1, [], .string dir⟩, ⟨5, [], .int .i64 ((callS fails once calls ((dir.toList == (ByteArray.mk #[]).toList) || (partB dir))).1)⟩]) [0] [0, 1, 5] rfl (by kernel_rfl) ?_
  refine N_then ?_
  refine G_seq ?_
  refine G_pure (E' := [⟨0, [], .pointer (some ⟨d, 0, none⟩)⟩, ⟨1, [], .string dir⟩, ⟨5, [], .int .i64 ((callS fails once calls ((dir.toList == (ByteArray.mk #[]).toList) || (partB dir))).1)⟩, ⟨17, [], .bool (((callS fails once calls ((dir.toList == (ByteArray.mk #[]).toList) || (partB dir))).1) != 0)⟩]) [0, 0] [0, 1, 5, 17] rfl (by kernel_rfl) ?_
  refine N_then ?_
  refine G_cond (b := ((callS fails once calls ((dir.toList == (ByteArray.mk #[]).toList) || (partB dir))).1) != 0) (by kernel_rfl) (fun hc1 => ?_) (fun hc1 => ?_)
  ·
    have hce : (callS fails once calls ((dir.toList == (ByteArray.mk #[]).toList) || partB dir)).1 ≠ 0 := by simpa using hc1
    -- L err
    refine G_seq ?_
    refine G_pure (E' := [⟨4, [], .int .i64 ((callS fails once calls ((dir.toList == (ByteArray.mk #[]).toList) || (partB dir))).1)⟩]) [0, 0] [4] rfl (by kernel_rfl) ?_
    refine N_then ?_
    refine G_ret ?_
    refine N_then_ret ?_
    refine N_ret [.tmp 4] [.int .i64 ((callS fails once calls ((dir.toList == (ByteArray.mk #[]).toList) || (partB dir))).1)] rfl (by kernel_rfl) rfl ?_
    exact .inl ⟨hce, rfl, rfl⟩
  ·
    have hce : (callS fails once calls ((dir.toList == (ByteArray.mk #[]).toList) || partB dir)).1 = 0 := by simpa using hc1
    refine G_skip ?_
    refine N_then ?_
    refine G_seq ?_
    refine G_seq ?_
    refine G_region ?_
    refine GL_pure (E' := [⟨21, [], .pointer (some ⟨d, 4, none⟩)⟩, ⟨20, [], .pointer (some ⟨d, 0, none⟩)⟩, ⟨19, [], .pointer (some ⟨d, 0, none⟩)⟩, ⟨0, [], .pointer (some ⟨d, 0, none⟩)⟩, ⟨1, [], .string dir⟩, ⟨5, [], .int .i64 ((callS fails once calls ((dir.toList == (ByteArray.mk #[]).toList) || (partB dir))).1)⟩, ⟨17, [], .bool (((callS fails once calls ((dir.toList == (ByteArray.mk #[]).toList) || (partB dir))).1) != 0)⟩]) [0, 0, 0] (by kernel_rfl) (j := 3) rfl ?_
    refine GL_load (i := 3) (ch := []) (b := d) (off := 4) (v := .map (some cb)) rfl rfl (by kernel_rfl) (by kernel_rfl) (by kernel_rfl) (by kernel_rfl) (by kernel_rfl) (At.grp 0 0 rfl rfl) rfl ?_
    refine GL_pure (E' := [⟨23, [], .string dir⟩, ⟨22, [], .map (some cb)⟩, ⟨21, [], .pointer (some ⟨d, 4, none⟩)⟩, ⟨20, [], .pointer (some ⟨d, 0, none⟩)⟩, ⟨19, [], .pointer (some ⟨d, 0, none⟩)⟩, ⟨0, [], .pointer (some ⟨d, 0, none⟩)⟩, ⟨1, [], .string dir⟩, ⟨5, [], .int .i64 ((callS fails once calls ((dir.toList == (ByteArray.mk #[]).toList) || (partB dir))).1)⟩, ⟨17, [], .bool (((callS fails once calls ((dir.toList == (ByteArray.mk #[]).toList) || (partB dir))).1) != 0)⟩]) [0] (by kernel_rfl) (j := 5) rfl ?_
    refine GL_lookup (i := 5) (ch := []) (kt := 9) (et := 73) (r := cb) (c := cc) (m := cm) (k := dir) (z := .slice none 0 0) (ov := (some (.slice ra qs.length rc))) rfl rfl (by kernel_rfl) (by kernel_rfl) (by kernel_rfl) (by kernel_rfl) (by kernel_rfl) (by kernel_rfl) (by kernel_rfl) (by kernel_rfl) (At.grp 2 0 rfl rfl) (fun _ => hg) ?_
    refine GL_fin (E' := [⟨0, [], .pointer (some ⟨d, 0, none⟩)⟩, ⟨1, [], .string dir⟩, ⟨24, [], .slice ra qs.length rc⟩, ⟨25, [], .int .i64 ((qs.length : Nat) : Int)⟩, ⟨26, [], .int .i64 0⟩]) [0, 0] [0, 1, 24, 25, 26] rfl (by kernel_rfl) ?_
    refine N_then ?_
    refine G_block ?_
    refine G_loop (EI := (fun ξ : Nat × SM × Nat => [⟨0, [], .pointer (some ⟨d, 0, none⟩)⟩, ⟨1, [], .string dir⟩, ⟨24, [], .slice ra qs.length rc⟩, ⟨25, [], .int .i64 ((qs.length : Nat) : Int)⟩, ⟨26, [], .int .i64 ((ξ.1 : Nat) : Int)⟩])) (HI := (fun ξ : Nat × SM × Nat => ([(d, .cells #[.int .i64 room, bv, .map (some nb), .map (some kb), .map (some cb), .bool ((callS fails once calls ((dir.toList == (ByteArray.mk #[]).toList) || partB dir)).2.1), .bool once, .int .i64 ((callS fails once calls ((dir.toList == (ByteArray.mk #[]).toList) || partB dir)).2.2)] 64 (0, 0))] :: [(kb, .map (encM ξ.2.1) ξ.2.2)] :: [(cb, .map (encM cm) cc)] :: H))) (Φ := (fun ξ : Nat × SM × Nat => (ξ.1 ≤ qs.length) ∧ (MadeOf (xs.take ξ.1) (km, kc) (ξ.2.1, ξ.2.2)))) (μ := (fun ξ : Nat × SM × Nat => qs.length - ξ.1)) (s0 := (0, km, kc)) [0, 1, 24, 25, 26] (by kernel_rfl) (by rfl) ⟨(by omega), (by rfl)⟩ ?_
    rintro ⟨k, km1, kc1⟩ ⟨hkk, hR⟩
    refine G_seq ?_
    refine G_pure (E' := [⟨0, [], .pointer (some ⟨d, 0, none⟩)⟩, ⟨1, [], .string dir⟩, ⟨24, [], .slice ra qs.length rc⟩, ⟨25, [], .int .i64 ((qs.length : Nat) : Int)⟩, ⟨26, [], .int .i64 ((k : Nat) : Int)⟩, ⟨27, [], .bool (decide (((k : Nat) : Int) < ((qs.length : Nat) : Int)))⟩]) [0] [0, 1, 24, 25, 26, 27] rfl (by kernel_rfl) ?_
    refine N_then ?_
    refine G_seq ?_
    refine G_cond (b := decide (((k : Nat) : Int) < ((qs.length : Nat) : Int))) (by kernel_rfl) (fun hc2 => ?_) (fun hc2 => ?_)
    ·
      simp at hc2
      refine G_skip ?_
      refine N_then ?_
      refine G_seq ?_
      refine G_block ?_
      refine G_seq ?_
      refine G_region ?_
      refine GL_indexAddr (i := 0) (ch := []) (a := ra) (len := qs.length) (cap := rc) (kd := .i64) (j := ((k : Nat) : Int)) (e := 72) (sz := 1) (S := S) (cs := (qs.map fun q => Value.map (some q))) rfl rfl (by kernel_rfl) (by kernel_rfl) (by kernel_rfl) (by kernel_rfl) (by kernel_rfl) (by kernel_rfl) (by kernel_rfl) hrd (fun _ => by exact ⟨by omega, by omega, maps_ne (k := k) (by omega)⟩) ?_
      refine GL_loadS (i := 1) (ch := []) (a := ra) (q := k * 1) (S := S) (cs := (qs.map fun q => Value.map (some q))) (v := .map (some (qs.getD k 0))) rfl rfl (by kernel_rfl) (by kernel_rfl) (by kernel_rfl) (by kernel_rfl) (by kernel_rfl) hrd (fun y o h => (At.cons (At.cons (At.cons (hS y o h))))) (fun _ => (by rw [Nat.mul_one]; exact map_at (by omega))) ?_
      refine GL_fin (E' := [⟨0, [], .pointer (some ⟨d, 0, none⟩)⟩, ⟨1, [], .string dir⟩, ⟨7, [], .map (some (qs.getD k 0))⟩, ⟨24, [], .slice ra qs.length rc⟩, ⟨25, [], .int .i64 ((qs.length : Nat) : Int)⟩, ⟨26, [], .int .i64 ((k : Nat) : Int)⟩]) [0] [0, 1, 7, 24, 25, 26] rfl (by kernel_rfl) ?_
      refine N_then ?_
      refine G_region ?_
      refine GL_pure (E' := [⟨32, [], .pointer (some ⟨d, 3, none⟩)⟩, ⟨31, [], .pointer (some ⟨d, 0, none⟩)⟩, ⟨30, [], .pointer (some ⟨d, 0, none⟩)⟩, ⟨0, [], .pointer (some ⟨d, 0, none⟩)⟩, ⟨1, [], .string dir⟩, ⟨7, [], .map (some (qs.getD k 0))⟩, ⟨24, [], .slice ra qs.length rc⟩, ⟨25, [], .int .i64 ((qs.length : Nat) : Int)⟩, ⟨26, [], .int .i64 ((k : Nat) : Int)⟩]) [0, 0, 0] (by kernel_rfl) (j := 3) rfl ?_
      refine GL_load (i := 3) (ch := []) (b := d) (off := 3) (v := .map (some kb)) rfl rfl (by kernel_rfl) (by kernel_rfl) (by kernel_rfl) (by kernel_rfl) (by kernel_rfl) (At.grp 0 0 rfl rfl) rfl ?_
      refine GL_pure (E' := [⟨34, [], .map (some (qs.getD k 0))⟩, ⟨33, [], .map (some kb)⟩, ⟨32, [], .pointer (some ⟨d, 3, none⟩)⟩, ⟨31, [], .pointer (some ⟨d, 0, none⟩)⟩, ⟨30, [], .pointer (some ⟨d, 0, none⟩)⟩, ⟨0, [], .pointer (some ⟨d, 0, none⟩)⟩, ⟨1, [], .string dir⟩, ⟨7, [], .map (some (qs.getD k 0))⟩, ⟨24, [], .slice ra qs.length rc⟩, ⟨25, [], .int .i64 ((qs.length : Nat) : Int)⟩, ⟨26, [], .int .i64 ((k : Nat) : Int)⟩]) [0] (by kernel_rfl) (j := 5) rfl ?_
      refine GL_heap rfl (H' := ([(kb, .map (encM km1) kc1)] :: [(d, .cells #[.int .i64 room, bv, .map (some nb), .map (some kb), .map (some cb), .bool ((callS fails once calls ((dir.toList == (ByteArray.mk #[]).toList) || partB dir)).2.1), .bool once, .int .i64 ((callS fails once calls ((dir.toList == (ByteArray.mk #[]).toList) || partB dir)).2.2)] 64 (0, 0))] :: [(cb, .map (encM cm) cc)] :: H)) (fun w h => (h.front (j := 1) rfl)) ?_
      refine GL_call (i := 5) (ch := []) (f := 38) (fst := #[]) (caps := #[]) (vs := [.map (some kb), .map (some (qs.getD k 0))]) rfl rfl rfl (by kernel_rfl) (by kernel_rfl) Try.func38 rfl rfl (by kernel_rfl) (by kernel_rfl) (chSure_of (by kernel_rfl)) (vApply kb (qs.getD k 0) kc1 (xcs.getD k 0) km1 (xs.getD k []) (made_ok hR hk) (hAll k (by omega)).2.1 (hAll k (by omega)).2.2 _ _ (At.cons (At.cons (hAll k (by omega)).1))) ?_
      rintro v H' ⟨dn3, hdn4, rfl, rfl⟩
      refine GL_fin (E' := [⟨0, [], .pointer (some ⟨d, 0, none⟩)⟩, ⟨1, [], .string dir⟩, ⟨24, [], .slice ra qs.length rc⟩, ⟨25, [], .int .i64 ((qs.length : Nat) : Int)⟩, ⟨26, [], .int .i64 ((k : Nat) : Int)⟩]) [] [0, 1, 24, 25, 26] rfl (by kernel_rfl) ?_
      refine N_block ?_
      refine N_then ?_
      have hw5 : IntKind.wrap .i64 (((k : Nat) : Int) + 1) = ((k : Nat) : Int) + 1 := w64 (by omega) (by omega)
      refine G_pure (E' := [⟨0, [], .pointer (some ⟨d, 0, none⟩)⟩, ⟨1, [], .string dir⟩, ⟨24, [], .slice ra qs.length rc⟩, ⟨25, [], .int .i64 ((qs.length : Nat) : Int)⟩, ⟨26, [], .int .i64 (((k : Nat) : Int) + 1)⟩]) [0, 0] [0, 1, 24, 25, 26] rfl (Eq.trans (b := some [⟨0, [], .pointer (some ⟨d, 0, none⟩)⟩, ⟨1, [], .string dir⟩, ⟨24, [], .slice ra qs.length rc⟩, ⟨25, [], .int .i64 ((qs.length : Nat) : Int)⟩, ⟨26, [], .int .i64 (IntKind.wrap .i64 (((k : Nat) : Int) + 1))⟩]) (by kernel_rfl) (by simp only [hw5])) ?_
      refine N_heap (H' := ([(d, .cells #[.int .i64 room, bv, .map (some nb), .map (some kb), .map (some cb), .bool ((callS fails once calls ((dir.toList == (ByteArray.mk #[]).toList) || partB dir)).2.1), .bool once, .int .i64 ((callS fails once calls ((dir.toList == (ByteArray.mk #[]).toList) || partB dir)).2.2)] 64 (0, 0))] :: [(kb, .map (encM ((foldS (km1, kc1) dn3).1)) ((foldS (km1, kc1) dn3).2))] :: [(cb, .map (encM cm) cc)] :: H)) (fun w h => (((h.front (j := 2) rfl).front (j := 1) rfl).front (j := 2) rfl)) ?_
      refine N_round (s' := (k + 1, (foldS (km1, kc1) dn3).1, (foldS (km1, kc1) dn3).2)) [0, 1, 24, 25, 26] (by kernel_rfl) rfl ⟨(by omega), (by rw [take_snoc (d := []) (by omega)]; exact made_snoc hdn4 hR)⟩ (by omega)
    ·
      simp at hc2
      refine G_exit ?_
      refine N_then_exit ?_
      refine N_then_exit ?_
      refine N_block_exit ?_
      refine N_then ?_
      refine G_seq ?_
      refine G_region ?_
      refine GL_pure (E' := [⟨39, [], .pointer (some ⟨d, 4, none⟩)⟩, ⟨38, [], .pointer (some ⟨d, 0, none⟩)⟩, ⟨37, [], .pointer (some ⟨d, 0, none⟩)⟩, ⟨0, [], .pointer (some ⟨d, 0, none⟩)⟩, ⟨1, [], .string dir⟩, ⟨24, [], .slice ra qs.length rc⟩, ⟨25, [], .int .i64 ((qs.length : Nat) : Int)⟩, ⟨26, [], .int .i64 ((k : Nat) : Int)⟩, ⟨27, [], .bool (decide (((k : Nat) : Int) < ((qs.length : Nat) : Int)))⟩]) [0, 0, 0] (by kernel_rfl) (j := 3) rfl ?_
      refine GL_load (i := 3) (ch := []) (b := d) (off := 4) (v := .map (some cb)) rfl rfl (by kernel_rfl) (by kernel_rfl) (by kernel_rfl) (by kernel_rfl) (by kernel_rfl) (At.grp 0 0 rfl rfl) rfl ?_
      refine GL_pure (E' := [⟨41, [], .string dir⟩, ⟨40, [], .map (some cb)⟩, ⟨39, [], .pointer (some ⟨d, 4, none⟩)⟩, ⟨38, [], .pointer (some ⟨d, 0, none⟩)⟩, ⟨37, [], .pointer (some ⟨d, 0, none⟩)⟩, ⟨0, [], .pointer (some ⟨d, 0, none⟩)⟩, ⟨1, [], .string dir⟩, ⟨24, [], .slice ra qs.length rc⟩, ⟨25, [], .int .i64 ((qs.length : Nat) : Int)⟩, ⟨26, [], .int .i64 ((k : Nat) : Int)⟩, ⟨27, [], .bool (decide (((k : Nat) : Int) < ((qs.length : Nat) : Int)))⟩]) [0] (by kernel_rfl) (j := 5) rfl ?_
      refine GL_delete (i := 5) (ch := []) (ts := #[61, 9]) (t := 61) (kt := 9) (et := 73) (r := cb) (c := cc) (j := 2) (q := 0) (m := cm) (k := dir) (H' := ([(d, .cells #[.int .i64 room, bv, .map (some nb), .map (some kb), .map (some cb), .bool ((callS fails once calls ((dir.toList == (ByteArray.mk #[]).toList) || partB dir)).2.1), .bool once, .int .i64 ((callS fails once calls ((dir.toList == (ByteArray.mk #[]).toList) || partB dir)).2.2)] 64 (0, 0))] :: [(kb, .map (encM km1) kc1)] :: [(cb, .map (encM (mdel cm dir)) cc)] :: H)) rfl rfl rfl rfl rfl (by kernel_rfl) (by kernel_rfl) (by kernel_rfl) (by kernel_rfl) (by kernel_rfl) (by kernel_rfl) rfl rfl rfl ?_
      refine GL_fin (E' := []) [] [] rfl (by kernel_rfl) ?_
      refine N_then ?_
      refine G_seq ?_
      refine G_pure (E' := [⟨4, [], .int .i64 0⟩]) [0] [4] rfl (by kernel_rfl) ?_
      refine N_then ?_
      refine G_ret ?_
      refine N_ret [.tmp 4] [.int .i64 0] rfl (by kernel_rfl) rfl ?_
      have hkl : k = xs.length := by omega
      rw [hkl, List.take_length] at hR
      exact .inr ⟨hce, rfl, km1, kc1, hR, rfl⟩

theorem vNext0 (kp cap : Nat) (a : Option Addr) (n : Int) (hn : 0 < n ∧ n ≤ 1000000000000) (W0 : World) (H : List Grp) : Tri Try.prog 39 #[.int .i64 n, .pointer (some ⟨kp, 0, none⟩)] W0 ([(kp, .cells #[.slice a 0 cap] 25 (0, 0))] :: H) (fun v H' => v = .int .i64 (nextK 0 n) ∧ H' = ([(kp, .cells #[.slice a 0 cap] 25 (0, 0))] :: H)) := by
  refine Tri_of (args := [.int .i64 n, .pointer (some ⟨kp, 0, none⟩)]) (n := 20) Try.func39 rfl rfl (Nat.le_of_ble_eq_true rfl) ?_
  refine G_seq ?_
  refine G_pure (E' := [⟨0, [], .int .i64 n⟩, ⟨1, [], .pointer (some ⟨kp, 0, none⟩)⟩]) [0] [0, 1] rfl (by kernel_rfl) ?_
  refine N_then ?_
  refine G_seq ?_
  refine G_pure (E' := [⟨0, [], .int .i64 n⟩, ⟨1, [], .pointer (some ⟨kp, 0, none⟩)⟩, ⟨4, [], .int .i64 0⟩]) [0] [0, 1, 4] rfl (by kernel_rfl) ?_
  refine N_then ?_
  refine G_seq ?_
  refine G_seq ?_
  refine G_region ?_
  refine GL_load (i := 0) (ch := []) (b := kp) (off := 0) (v := .slice a 0 cap) rfl rfl (by kernel_rfl) (by kernel_rfl) (by kernel_rfl) (by kernel_rfl) (by kernel_rfl) (At.grp 0 0 rfl rfl) rfl ?_
  refine GL_fin (E' := [⟨0, [], .int .i64 n⟩, ⟨1, [], .pointer (some ⟨kp, 0, none⟩)⟩, ⟨4, [], .int .i64 0⟩, ⟨7, [], .bool false⟩]) [0, 0] [0, 1, 4, 7] rfl (by kernel_rfl) ?_
  refine N_then ?_
  refine G_condf (by kernel_rfl) ?_
  refine G_skip ?_
  refine N_then ?_
  refine G_seq ?_
  refine G_region ?_
  refine GL_pure (E' := [⟨14, [], .int .i64 n⟩, ⟨13, [], .int .i64 0⟩, ⟨0, [], .int .i64 n⟩, ⟨1, [], .pointer (some ⟨kp, 0, none⟩)⟩, ⟨4, [], .int .i64 0⟩, ⟨7, [], .bool false⟩]) [0, 0] (by kernel_rfl) (j := 2) rfl ?_
  refine GL_rem (i := 2) (ch := []) (kd := .i64) (a := 0) (b := n) rfl rfl (by kernel_rfl) (by kernel_rfl) (by kernel_rfl) (by kernel_rfl) (by kernel_rfl) (fun _ => by omega) ?_
  refine GL_pure (E' := [⟨18, [], .int .i64 n⟩, ⟨17, [], .int .i64 (IntKind.wrap .i64 ((Int.tmod 0 n) + n))⟩, ⟨16, [], .int .i64 n⟩, ⟨15, [], .int .i64 (Int.tmod 0 n)⟩, ⟨14, [], .int .i64 n⟩, ⟨13, [], .int .i64 0⟩, ⟨0, [], .int .i64 n⟩, ⟨1, [], .pointer (some ⟨kp, 0, none⟩)⟩, ⟨4, [], .int .i64 0⟩, ⟨7, [], .bool false⟩]) [0, 0, 0] (by kernel_rfl) (j := 6) rfl ?_
  refine GL_rem (i := 6) (ch := []) (kd := .i64) (a := IntKind.wrap .i64 ((Int.tmod 0 n) + n)) (b := n) rfl rfl (by kernel_rfl) (by kernel_rfl) (by kernel_rfl) (by kernel_rfl) (by kernel_rfl) (fun _ => by omega) ?_
  refine GL_fin (E' := [⟨3, [], .int .i64 (Int.tmod (IntKind.wrap .i64 ((Int.tmod 0 n) + n)) n)⟩]) [0] [3] rfl (by kernel_rfl) ?_
  refine N_then ?_
  refine G_ret ?_
  refine N_ret [.tmp 3] [.int .i64 (Int.tmod (IntKind.wrap .i64 ((Int.tmod 0 n) + n)) n)] rfl (by kernel_rfl) rfl ?_
  exact ⟨by rw [next_is hn.1 hn.2 (by omega) (by omega)]; rfl, rfl⟩

theorem vNext (kp : Nat) (n : Int) (hn : 0 < n ∧ n ≤ 1000000000000) (a : Option Addr) (m cap : Nat) (S : Nat → Obj → Prop) (k : Int) (hk : -9223372036854775808 ≤ k ∧ k ≤ 9223372036854775807) (r : List Int) (hm : m = r.length + 1) (hc : m ≤ cap) (hm2 : m ≤ 1000000000) (hrd : Rd S a ((k :: r).map (Value.int .i64))) (W0 : World) (H : List Grp) (hS : ∀ y o, S y o → At W0 H y o) : Tri Try.prog 39 #[.int .i64 n, .pointer (some ⟨kp, 0, none⟩)] W0 ([(kp, .cells #[.slice a m cap] 25 (0, 0))] :: H) (fun v H' => v = .int .i64 (nextK k n) ∧ H' = ([(kp, .cells #[.slice (cutA a cap 1 1) (m - 1) (cap - 1)] 25 (0, 0))] :: H)) := by
  refine Tri_of (args := [.int .i64 n, .pointer (some ⟨kp, 0, none⟩)]) (n := 20) Try.func39 rfl rfl (Nat.le_of_ble_eq_true rfl) ?_
  refine G_seq ?_
  refine G_pure (E' := [⟨0, [], .int .i64 n⟩, ⟨1, [], .pointer (some ⟨kp, 0, none⟩)⟩]) [0] [0, 1] rfl (by kernel_rfl) ?_
  refine N_then ?_
  refine G_seq ?_
  refine G_pure (E' := [⟨0, [], .int .i64 n⟩, ⟨1, [], .pointer (some ⟨kp, 0, none⟩)⟩, ⟨4, [], .int .i64 0⟩]) [0] [0, 1, 4] rfl (by kernel_rfl) ?_
  refine N_then ?_
  refine G_seq ?_
  refine G_seq ?_
  refine G_region ?_
  refine GL_load (i := 0) (ch := []) (b := kp) (off := 0) (v := .slice a m cap) rfl rfl (by kernel_rfl) (by kernel_rfl) (by kernel_rfl) (by kernel_rfl) (by kernel_rfl) (At.grp 0 0 rfl rfl) rfl ?_
  refine GL_fin (E' := [⟨0, [], .int .i64 n⟩, ⟨1, [], .pointer (some ⟨kp, 0, none⟩)⟩, ⟨4, [], .int .i64 0⟩, ⟨7, [], .bool (decide (((m : Nat) : Int) > 0))⟩]) [0, 0] [0, 1, 4, 7] rfl (by kernel_rfl) ?_
  refine N_then ?_
  refine G_cond (b := decide (((m : Nat) : Int) > 0)) (by kernel_rfl) (fun hc1 => ?_) (fun hc1 => ?_)
  ·
    skip
    refine G_regionH H (by kernel_rfl) ?_
    refine GH_eff2 0 3 (by kernel_rfl) (by kernel_rfl) (by kernel_rfl) (by kernel_rfl) (by kernel_rfl) ?_ ?_
    ·
      refine GL_load (i := 0) (ch := []) (b := kp) (off := 0) (v := .slice a m cap) rfl rfl (by kernel_rfl) (by kernel_rfl) (by kernel_rfl) (by kernel_rfl) (by kernel_rfl) (At.grp 0 0 rfl rfl) rfl ?_
      refine GH_back (by kernel_rfl) (fun w h => (h.erase 0)) ?_
      refine GH_take (E' := [⟨9, [], .pointer (some (eltA a (0 * 1)))⟩, ⟨8, [], .slice a m cap⟩, ⟨0, [], .int .i64 n⟩, ⟨1, [], .pointer (some ⟨kp, 0, none⟩)⟩, ⟨4, [], .int .i64 0⟩, ⟨7, [], .bool (decide (((m : Nat) : Int) > 0))⟩]) 1 (by kernel_rfl) (by kernel_rfl) (by kernel_rfl) (by kernel_rfl) (by kernel_rfl) (fun w h => (h.erase 0)) ?_ ?_
      ·
        refine GL_indexAddr (i := 1) (ch := []) (a := a) (len := m) (cap := cap) (kd := .i64) (j := 0) (e := 3) (sz := 1) (S := S) (cs := ((k :: r).map (Value.int .i64))) rfl rfl (by kernel_rfl) (by kernel_rfl) (by kernel_rfl) (by kernel_rfl) (by kernel_rfl) (by kernel_rfl) (by kernel_rfl) hrd (fun _ => by exact ⟨by omega, by omega, by simp⟩) ?_
        exact GL_yend (by kernel_rfl) (by kernel_rfl)
      refine GH_take (E' := [⟨10, [], .int .i64 k⟩, ⟨9, [], .pointer (some (eltA a (0 * 1)))⟩, ⟨8, [], .slice a m cap⟩, ⟨0, [], .int .i64 n⟩, ⟨1, [], .pointer (some ⟨kp, 0, none⟩)⟩, ⟨4, [], .int .i64 0⟩, ⟨7, [], .bool (decide (((m : Nat) : Int) > 0))⟩]) 2 (by kernel_rfl) (by kernel_rfl) (by kernel_rfl) (by kernel_rfl) (by kernel_rfl) (fun w h => (h.erase 0)) ?_ ?_
      ·
        refine GL_loadS (i := 2) (ch := []) (a := a) (q := 0 * 1) (S := S) (cs := ((k :: r).map (Value.int .i64))) (v := .int .i64 k) rfl rfl (by kernel_rfl) (by kernel_rfl) (by kernel_rfl) (by kernel_rfl) (by kernel_rfl) hrd (fun y o h => (hS y o h)) (fun _ => rfl) ?_
        exact GL_yend (by kernel_rfl) (by kernel_rfl)
      refine GH_take (E' := [⟨4, [], .int .i64 k⟩, ⟨10, [], .int .i64 k⟩, ⟨9, [], .pointer (some (eltA a (0 * 1)))⟩, ⟨8, [], .slice a m cap⟩, ⟨0, [], .int .i64 n⟩, ⟨1, [], .pointer (some ⟨kp, 0, none⟩)⟩, ⟨7, [], .bool (decide (((m : Nat) : Int) > 0))⟩]) 5 (by kernel_rfl) (by kernel_rfl) (by kernel_rfl) (by kernel_rfl) (by kernel_rfl) (fun w h => (h.erase 0)) ?_ ?_
      ·
        refine GL_pure (E' := [⟨4, [], .int .i64 k⟩, ⟨10, [], .int .i64 k⟩, ⟨9, [], .pointer (some (eltA a (0 * 1)))⟩, ⟨8, [], .slice a m cap⟩, ⟨0, [], .int .i64 n⟩, ⟨1, [], .pointer (some ⟨kp, 0, none⟩)⟩, ⟨7, [], .bool (decide (((m : Nat) : Int) > 0))⟩]) [0] (by kernel_rfl) (j := 6) rfl ?_
        exact GL_yend (by kernel_rfl) (by kernel_rfl)
      refine GH_eff 3 (by kernel_rfl) (by kernel_rfl) (by kernel_rfl) ?_
      refine GL_load (i := 3) (ch := []) (b := kp) (off := 0) (v := .slice a m cap) rfl rfl (by kernel_rfl) (by kernel_rfl) (by kernel_rfl) (by kernel_rfl) (by kernel_rfl) (At.grp 0 0 rfl rfl) rfl ?_
      refine GH_back (by kernel_rfl) (fun w h => (h.erase 0)) ?_
      refine GH_take (E' := [⟨12, [], .slice (cutA a cap 1 1) (m - 1) (cap - 1)⟩, ⟨11, [], .slice a m cap⟩, ⟨4, [], .int .i64 k⟩, ⟨10, [], .int .i64 k⟩, ⟨9, [], .pointer (some (eltA a (0 * 1)))⟩, ⟨8, [], .slice a m cap⟩, ⟨0, [], .int .i64 n⟩, ⟨1, [], .pointer (some ⟨kp, 0, none⟩)⟩, ⟨7, [], .bool (decide (((m : Nat) : Int) > 0))⟩]) 4 (by kernel_rfl) (by kernel_rfl) (by kernel_rfl) (by kernel_rfl) (by kernel_rfl) (fun w h => (h.erase 0)) ?_ ?_
      ·
        refine GL_sliceL (i := 4) (ch := []) (a := a) (len := m) (cap := cap) (e := 3) (sz := 1) (vl := (some (.int .i64 1))) (vh := none) (l := 1) (h := ((m : Nat) : Int)) rfl rfl (by kernel_rfl) (by kernel_rfl) (by kernel_rfl) (by kernel_rfl) (by kernel_rfl) (by kernel_rfl) (by kernel_rfl) (by kernel_rfl) (by kernel_rfl) (by kernel_rfl) (by intro _; omega) ?_
        exact GL_yend (by kernel_rfl) (by kernel_rfl)
      refine GH_eff 6 (by kernel_rfl) (by kernel_rfl) (by kernel_rfl) ?_
      refine GL_store (i := 6) (ch := []) (b := kp) (off := 0) (v := .slice (cutA a cap 1 1) (m - 1) (cap - 1)) (c := #[.slice a m cap]) (c' := #[.slice (cutA a cap 1 1) (m - 1) (cap - 1)]) (j := 0) (m := 0) (H' := ([(kp, .cells #[.slice (cutA a cap 1 1) (m - 1) (cap - 1)] 25 (0, 0))] :: H)) rfl rfl (by kernel_rfl) (by kernel_rfl) (by kernel_rfl) (by kernel_rfl) (by kernel_rfl) (by kernel_rfl) (by kernel_rfl) rfl rfl (Nat.le_of_ble_eq_true rfl) (fun _ _ => thaw0) (by kernel_rfl) (by kernel_rfl) ?_
      refine GH_back (by kernel_rfl) (fun w h => (h.erase 0)) ?_
      refine GH_done (E' := [⟨0, [], .int .i64 n⟩, ⟨4, [], .int .i64 k⟩]) [0, 4] (by kernel_rfl) (by kernel_rfl) ?_
      refine N_then ?_
      refine G_seq ?_
      refine G_region ?_
      refine GL_pure (E' := [⟨14, [], .int .i64 n⟩, ⟨13, [], .int .i64 k⟩, ⟨0, [], .int .i64 n⟩, ⟨4, [], .int .i64 k⟩]) [0, 0] (by kernel_rfl) (j := 2) rfl ?_
      refine GL_rem (i := 2) (ch := []) (kd := .i64) (a := k) (b := n) rfl rfl (by kernel_rfl) (by kernel_rfl) (by kernel_rfl) (by kernel_rfl) (by kernel_rfl) (fun _ => by omega) ?_
      refine GL_pure (E' := [⟨18, [], .int .i64 n⟩, ⟨17, [], .int .i64 (IntKind.wrap .i64 ((Int.tmod k n) + n))⟩, ⟨16, [], .int .i64 n⟩, ⟨15, [], .int .i64 (Int.tmod k n)⟩, ⟨14, [], .int .i64 n⟩, ⟨13, [], .int .i64 k⟩, ⟨0, [], .int .i64 n⟩, ⟨4, [], .int .i64 k⟩]) [0, 0, 0] (by kernel_rfl) (j := 6) rfl ?_
      refine GL_rem (i := 6) (ch := []) (kd := .i64) (a := IntKind.wrap .i64 ((Int.tmod k n) + n)) (b := n) rfl rfl (by kernel_rfl) (by kernel_rfl) (by kernel_rfl) (by kernel_rfl) (by kernel_rfl) (fun _ => by omega) ?_
      refine GL_fin (E' := [⟨3, [], .int .i64 (Int.tmod (IntKind.wrap .i64 ((Int.tmod k n) + n)) n)⟩]) [0] [3] rfl (by kernel_rfl) ?_
      refine N_then ?_
      refine G_ret ?_
      refine N_ret [.tmp 3] [.int .i64 (Int.tmod (IntKind.wrap .i64 ((Int.tmod k n) + n)) n)] rfl (by kernel_rfl) rfl ?_
      exact ⟨by rw [next_is hn.1 hn.2 hk.1 hk.2]; rfl, rfl⟩
    ·
      refine GL_load (i := 3) (ch := []) (b := kp) (off := 0) (v := .slice a m cap) rfl rfl (by kernel_rfl) (by kernel_rfl) (by kernel_rfl) (by kernel_rfl) (by kernel_rfl) (At.grp 0 0 rfl rfl) rfl ?_
      refine GH_back (by kernel_rfl) (fun w h => (h.erase 0)) ?_
      refine GH_take (E' := [⟨12, [], .slice (cutA a cap 1 1) (m - 1) (cap - 1)⟩, ⟨11, [], .slice a m cap⟩, ⟨0, [], .int .i64 n⟩, ⟨1, [], .pointer (some ⟨kp, 0, none⟩)⟩, ⟨4, [], .int .i64 0⟩, ⟨7, [], .bool (decide (((m : Nat) : Int) > 0))⟩]) 4 (by kernel_rfl) (by kernel_rfl) (by kernel_rfl) (by kernel_rfl) (by kernel_rfl) (fun w h => (h.erase 0)) ?_ ?_
      ·
        refine GL_sliceL (i := 4) (ch := []) (a := a) (len := m) (cap := cap) (e := 3) (sz := 1) (vl := (some (.int .i64 1))) (vh := none) (l := 1) (h := ((m : Nat) : Int)) rfl rfl (by kernel_rfl) (by kernel_rfl) (by kernel_rfl) (by kernel_rfl) (by kernel_rfl) (by kernel_rfl) (by kernel_rfl) (by kernel_rfl) (by kernel_rfl) (by kernel_rfl) (by intro _; omega) ?_
        exact GL_yend (by kernel_rfl) (by kernel_rfl)
      refine GH_eff 0 (by kernel_rfl) (by kernel_rfl) (by kernel_rfl) ?_
      refine GL_load (i := 0) (ch := []) (b := kp) (off := 0) (v := .slice a m cap) rfl rfl (by kernel_rfl) (by kernel_rfl) (by kernel_rfl) (by kernel_rfl) (by kernel_rfl) (At.grp 0 0 rfl rfl) rfl ?_
      refine GH_back (by kernel_rfl) (fun w h => (h.erase 0)) ?_
      refine GH_take (E' := [⟨9, [], .pointer (some (eltA a (0 * 1)))⟩, ⟨8, [], .slice a m cap⟩, ⟨12, [], .slice (cutA a cap 1 1) (m - 1) (cap - 1)⟩, ⟨11, [], .slice a m cap⟩, ⟨0, [], .int .i64 n⟩, ⟨1, [], .pointer (some ⟨kp, 0, none⟩)⟩, ⟨4, [], .int .i64 0⟩, ⟨7, [], .bool (decide (((m : Nat) : Int) > 0))⟩]) 1 (by kernel_rfl) (by kernel_rfl) (by kernel_rfl) (by kernel_rfl) (by kernel_rfl) (fun w h => (h.erase 0)) ?_ ?_
      ·
        refine GL_indexAddr (i := 1) (ch := []) (a := a) (len := m) (cap := cap) (kd := .i64) (j := 0) (e := 3) (sz := 1) (S := S) (cs := ((k :: r).map (Value.int .i64))) rfl rfl (by kernel_rfl) (by kernel_rfl) (by kernel_rfl) (by kernel_rfl) (by kernel_rfl) (by kernel_rfl) (by kernel_rfl) hrd (fun _ => by exact ⟨by omega, by omega, by simp⟩) ?_
        exact GL_yend (by kernel_rfl) (by kernel_rfl)
      refine GH_take (E' := [⟨10, [], .int .i64 k⟩, ⟨9, [], .pointer (some (eltA a (0 * 1)))⟩, ⟨8, [], .slice a m cap⟩, ⟨12, [], .slice (cutA a cap 1 1) (m - 1) (cap - 1)⟩, ⟨11, [], .slice a m cap⟩, ⟨0, [], .int .i64 n⟩, ⟨1, [], .pointer (some ⟨kp, 0, none⟩)⟩, ⟨4, [], .int .i64 0⟩, ⟨7, [], .bool (decide (((m : Nat) : Int) > 0))⟩]) 2 (by kernel_rfl) (by kernel_rfl) (by kernel_rfl) (by kernel_rfl) (by kernel_rfl) (fun w h => (h.erase 0)) ?_ ?_
      ·
        refine GL_loadS (i := 2) (ch := []) (a := a) (q := 0 * 1) (S := S) (cs := ((k :: r).map (Value.int .i64))) (v := .int .i64 k) rfl rfl (by kernel_rfl) (by kernel_rfl) (by kernel_rfl) (by kernel_rfl) (by kernel_rfl) hrd (fun y o h => (hS y o h)) (fun _ => rfl) ?_
        exact GL_yend (by kernel_rfl) (by kernel_rfl)
      refine GH_take (E' := [⟨4, [], .int .i64 k⟩, ⟨10, [], .int .i64 k⟩, ⟨9, [], .pointer (some (eltA a (0 * 1)))⟩, ⟨8, [], .slice a m cap⟩, ⟨12, [], .slice (cutA a cap 1 1) (m - 1) (cap - 1)⟩, ⟨11, [], .slice a m cap⟩, ⟨0, [], .int .i64 n⟩, ⟨1, [], .pointer (some ⟨kp, 0, none⟩)⟩, ⟨7, [], .bool (decide (((m : Nat) : Int) > 0))⟩]) 5 (by kernel_rfl) (by kernel_rfl) (by kernel_rfl) (by kernel_rfl) (by kernel_rfl) (fun w h => (h.erase 0)) ?_ ?_
      ·
        refine GL_pure (E' := [⟨4, [], .int .i64 k⟩, ⟨10, [], .int .i64 k⟩, ⟨9, [], .pointer (some (eltA a (0 * 1)))⟩, ⟨8, [], .slice a m cap⟩, ⟨12, [], .slice (cutA a cap 1 1) (m - 1) (cap - 1)⟩, ⟨11, [], .slice a m cap⟩, ⟨0, [], .int .i64 n⟩, ⟨1, [], .pointer (some ⟨kp, 0, none⟩)⟩, ⟨7, [], .bool (decide (((m : Nat) : Int) > 0))⟩]) [0] (by kernel_rfl) (j := 6) rfl ?_
        exact GL_yend (by kernel_rfl) (by kernel_rfl)
      refine GH_eff 6 (by kernel_rfl) (by kernel_rfl) (by kernel_rfl) ?_
      refine GL_store (i := 6) (ch := []) (b := kp) (off := 0) (v := .slice (cutA a cap 1 1) (m - 1) (cap - 1)) (c := #[.slice a m cap]) (c' := #[.slice (cutA a cap 1 1) (m - 1) (cap - 1)]) (j := 0) (m := 0) (H' := ([(kp, .cells #[.slice (cutA a cap 1 1) (m - 1) (cap - 1)] 25 (0, 0))] :: H)) rfl rfl (by kernel_rfl) (by kernel_rfl) (by kernel_rfl) (by kernel_rfl) (by kernel_rfl) (by kernel_rfl) (by kernel_rfl) rfl rfl (Nat.le_of_ble_eq_true rfl) (fun _ _ => thaw0) (by kernel_rfl) (by kernel_rfl) ?_
      refine GH_back (by kernel_rfl) (fun w h => (h.erase 0)) ?_
      refine GH_done (E' := [⟨0, [], .int .i64 n⟩, ⟨4, [], .int .i64 k⟩]) [0, 4] (by kernel_rfl) (by kernel_rfl) ?_
      refine N_then ?_
      refine G_seq ?_
      refine G_region ?_
      refine GL_pure (E' := [⟨14, [], .int .i64 n⟩, ⟨13, [], .int .i64 k⟩, ⟨0, [], .int .i64 n⟩, ⟨4, [], .int .i64 k⟩]) [0, 0] (by kernel_rfl) (j := 2) rfl ?_
      refine GL_rem (i := 2) (ch := []) (kd := .i64) (a := k) (b := n) rfl rfl (by kernel_rfl) (by kernel_rfl) (by kernel_rfl) (by kernel_rfl) (by kernel_rfl) (fun _ => by omega) ?_
      refine GL_pure (E' := [⟨18, [], .int .i64 n⟩, ⟨17, [], .int .i64 (IntKind.wrap .i64 ((Int.tmod k n) + n))⟩, ⟨16, [], .int .i64 n⟩, ⟨15, [], .int .i64 (Int.tmod k n)⟩, ⟨14, [], .int .i64 n⟩, ⟨13, [], .int .i64 k⟩, ⟨0, [], .int .i64 n⟩, ⟨4, [], .int .i64 k⟩]) [0, 0, 0] (by kernel_rfl) (j := 6) rfl ?_
      refine GL_rem (i := 6) (ch := []) (kd := .i64) (a := IntKind.wrap .i64 ((Int.tmod k n) + n)) (b := n) rfl rfl (by kernel_rfl) (by kernel_rfl) (by kernel_rfl) (by kernel_rfl) (by kernel_rfl) (fun _ => by omega) ?_
      refine GL_fin (E' := [⟨3, [], .int .i64 (Int.tmod (IntKind.wrap .i64 ((Int.tmod k n) + n)) n)⟩]) [0] [3] rfl (by kernel_rfl) ?_
      refine N_then ?_
      refine G_ret ?_
      refine N_ret [.tmp 3] [.int .i64 (Int.tmod (IntKind.wrap .i64 ((Int.tmod k n) + n)) n)] rfl (by kernel_rfl) rfl ?_
      exact ⟨by rw [next_is hn.1 hn.2 hk.1 hk.2]; rfl, rfl⟩
  ·
    simp at hc1; omega

end Go.Proofs.Ytbmieiffboenbaa
