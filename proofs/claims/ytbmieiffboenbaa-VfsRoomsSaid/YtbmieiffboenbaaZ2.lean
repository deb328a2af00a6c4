/- What a crash makes of the bodies in memory. No program is in sight. (and what it stands on) -/
import Derived.Test.YtbmieiffboenbaaZ1
import Derived.Shelf.Sort.Plain
import Derived.Shelf.Slices.In.SortNone
import Derived.Test.YtbmieiffboenbaaProg
import Derived.Sort.OwnSorted
import Derived.Shelf.SlIter.Nil
namespace Go.Proofs.Ytbmieiffboenbaa
open Go.Sw Go.Lib Go.Vf Go.RowKit
theorem vCall (d nb kb cb : Nat) (room calls : Int) (bv : Value) (fails once : Bool) (right : Bool) (hc : -9223372036854775808 ≤ calls ∧ calls ≤ 9223372036854775807) (W0 : World) (H : List Grp) : Tri Try.prog 34 #[pt d, .bool right] W0 ([(d, .cells #[.int .i64 room, bv, .map (some nb), .map (some kb), .map (some cb), .bool fails, .bool once, .int .i64 calls] 64 (0, 0))] :: H) (fun v H' => v = .int .i64 (callS fails once calls right).1 ∧ H' = ([(d, .cells #[.int .i64 room, bv, .map (some nb), .map (some kb), .map (some cb), .bool ((callS fails once calls right).2.1), .bool once, .int .i64 ((callS fails once calls right).2.2)] 64 (0, 0))] :: H)) := by
  refine Tri_of (args := [pt d, .bool right]) (n := 38) Try.func34 rfl rfl (Nat.le_of_ble_eq_true rfl) ?_
  refine G_seq ?_
  refine G_pure (E' := [⟨0, [], pt d⟩, ⟨1, [], .bool right⟩]) [0] [0, 1] rfl (by kernel_rfl) ?_
  refine N_then ?_
  refine G_seq ?_
  refine G_block ?_
  refine G_seq ?_
  refine G_pure (E' := [⟨0, [], pt d⟩, ⟨1, [], .bool right⟩, ⟨5, [], .bool false⟩]) [0, 0, 0] [0, 1, 5] rfl (by kernel_rfl) ?_
  refine N_then ?_
  refine G_condf (by kernel_rfl) ?_
  refine G_seq ?_
  refine G_pure (E' := [⟨0, [], pt d⟩, ⟨8, [], .bool (!right)⟩]) [0, 0, 0] [0, 8] rfl (by kernel_rfl) ?_
  refine N_then ?_
  refine G_cond (b := !right) (by kernel_rfl) (fun hc1 => ?_) (fun hc1 => ?_)
  ·
    have hr := hc1
    refine G_seq ?_
    refine G_pure (E' := [⟨4, [], .int .i64 2⟩]) [0] [4] rfl (by kernel_rfl) ?_
    refine N_then ?_
    refine G_ret ?_
    refine N_block_ret ?_
    refine N_then_ret ?_
    refine N_ret [.tmp 4] [.int .i64 2] rfl (by kernel_rfl) rfl ?_
    rw [callS_arg hr]
    exact ⟨rfl, rfl⟩
  ·
    have hr := hc1
    refine G_seq ?_
    refine G_region ?_
    refine GL_pure (E' := [⟨14, [], .pointer (some ⟨d, 5, none⟩)⟩, ⟨0, [], pt d⟩]) [0, 0, 0] (by kernel_rfl) (j := 3) rfl ?_
    refine GL_load (i := 3) (ch := []) (b := d) (off := 5) (v := .bool fails) rfl rfl (by kernel_rfl) (by kernel_rfl) (by kernel_rfl) (by kernel_rfl) (by kernel_rfl) (At.grp 0 0 rfl rfl) rfl ?_
    refine GL_fin (E' := [⟨0, [], pt d⟩, ⟨11, [], .bool (!fails)⟩]) [0, 0] [0, 11] rfl (by kernel_rfl) ?_
    refine N_then ?_
    refine G_cond (b := !fails) (by kernel_rfl) (fun hc2 => ?_) (fun hc2 => ?_)
    ·
      have hf := hc2
      refine G_seq ?_
      refine G_pure (E' := [⟨4, [], .int .i64 0⟩]) [0] [4] rfl (by kernel_rfl) ?_
      refine N_then ?_
      refine G_ret ?_
      refine N_block_ret ?_
      refine N_then_ret ?_
      refine N_ret [.tmp 4] [.int .i64 0] rfl (by kernel_rfl) rfl ?_
      rw [callS_ok hr hf]
      exact ⟨rfl, rfl⟩
    ·
      have hf := hc2
      refine G_seq ?_
      refine G_region ?_
      refine GL_pure (E' := [⟨20, [], .pointer (some ⟨d, 7, none⟩)⟩, ⟨0, [], pt d⟩]) [0, 0, 0] (by kernel_rfl) (j := 3) rfl ?_
      refine GL_load (i := 3) (ch := []) (b := d) (off := 7) (v := .int .i64 calls) rfl rfl (by kernel_rfl) (by kernel_rfl) (by kernel_rfl) (by kernel_rfl) (by kernel_rfl) (At.grp 0 0 rfl rfl) rfl ?_
      refine GL_fin (E' := [⟨0, [], pt d⟩, ⟨17, [], .bool (decide (calls > 0))⟩]) [0, 0] [0, 17] rfl (by kernel_rfl) ?_
      refine N_then ?_
      refine G_cond (b := decide (calls > 0)) (by kernel_rfl) (fun hc3 => ?_) (fun hc3 => ?_)
      ·
        have hp := hc3
        simp at hc3
        refine G_seq ?_
        refine G_region ?_
        refine GL_pure (E' := [⟨25, [], .pointer (some ⟨d, 7, none⟩)⟩, ⟨23, [], pt d⟩]) [0, 0, 0] (by kernel_rfl) (j := 3) rfl ?_
        refine GL_load (i := 3) (ch := []) (b := d) (off := 7) (v := .int .i64 calls) rfl rfl (by kernel_rfl) (by kernel_rfl) (by kernel_rfl) (by kernel_rfl) (by kernel_rfl) (At.grp 0 0 rfl rfl) rfl ?_
        have hw4 : IntKind.wrap .i64 (calls - 1) = calls - 1 := w64 (by omega) (by omega)
        refine GL_pure (E' := [⟨29, [], .pointer (some ⟨d, 7, none⟩)⟩, ⟨27, [], .int .i64 (calls - 1)⟩]) [0, 0, 0] (Eq.trans (b := some [⟨29, [], .pointer (some ⟨d, 7, none⟩)⟩, ⟨27, [], .int .i64 (IntKind.wrap .i64 (calls - 1))⟩]) (by kernel_rfl) (by simp only [hw4])) (j := 7) rfl ?_
        refine GL_store (i := 7) (ch := []) (b := d) (off := 7) (v := .int .i64 (calls - 1)) (c := #[.int .i64 room, bv, .map (some nb), .map (some kb), .map (some cb), .bool fails, .bool once, .int .i64 calls]) (c' := #[.int .i64 room, bv, .map (some nb), .map (some kb), .map (some cb), .bool fails, .bool once, .int .i64 (calls - 1)]) (j := 0) (m := 0) (H' := ([(d, .cells #[.int .i64 room, bv, .map (some nb), .map (some kb), .map (some cb), .bool fails, .bool once, .int .i64 (calls - 1)] 64 (0, 0))] :: H)) rfl rfl (by kernel_rfl) (by kernel_rfl) (by kernel_rfl) (by kernel_rfl) (by kernel_rfl) (by kernel_rfl) (by kernel_rfl) rfl rfl (Nat.le_of_ble_eq_true rfl) (fun _ _ => thaw0) (by kernel_rfl) (by kernel_rfl) ?_
        refine GL_fin (E' := []) [] [] rfl (by kernel_rfl) ?_
        refine N_then ?_
        refine G_seq ?_
        refine G_pure (E' := [⟨4, [], .int .i64 0⟩]) [0] [4] rfl (by kernel_rfl) ?_
        refine N_then ?_
        refine G_ret ?_
        refine N_block_ret ?_
        refine N_then_ret ?_
        refine N_ret [.tmp 4] [.int .i64 0] rfl (by kernel_rfl) rfl ?_
        rw [callS_dec hr hf hp]
        exact ⟨rfl, rfl⟩
      ·
        have hp := hc3
        simp at hc3
        refine G_skip ?_
        refine N_block ?_
        refine N_then ?_
        refine G_seq ?_
        refine G_region ?_
        refine GL_pure (E' := [⟨33, [], .pointer (some ⟨d, 6, none⟩)⟩, ⟨30, [], pt d⟩]) [0, 0, 0, 0] (by kernel_rfl) (j := 4) rfl ?_
        refine GL_load (i := 4) (ch := []) (b := d) (off := 6) (v := .bool once) rfl rfl (by kernel_rfl) (by kernel_rfl) (by kernel_rfl) (by kernel_rfl) (by kernel_rfl) (At.grp 0 0 rfl rfl) rfl ?_
        refine GL_pure (E' := [⟨37, [], .pointer (some ⟨d, 5, none⟩)⟩, ⟨35, [], .bool (!once)⟩]) [0, 0, 0] (by kernel_rfl) (j := 8) rfl ?_
        refine GL_store (i := 8) (ch := []) (b := d) (off := 5) (v := .bool (!once)) (c := #[.int .i64 room, bv, .map (some nb), .map (some kb), .map (some cb), .bool fails, .bool once, .int .i64 calls]) (c' := #[.int .i64 room, bv, .map (some nb), .map (some kb), .map (some cb), .bool (!once), .bool once, .int .i64 calls]) (j := 0) (m := 0) (H' := ([(d, .cells #[.int .i64 room, bv, .map (some nb), .map (some kb), .map (some cb), .bool (!once), .bool once, .int .i64 calls] 64 (0, 0))] :: H)) rfl rfl (by kernel_rfl) (by kernel_rfl) (by kernel_rfl) (by kernel_rfl) (by kernel_rfl) (by kernel_rfl) (by kernel_rfl) rfl rfl (Nat.le_of_ble_eq_true rfl) (fun _ _ => thaw0) (by kernel_rfl) (by kernel_rfl) ?_
        refine GL_fin (E' := []) [] [] rfl (by kernel_rfl) ?_
        refine N_then ?_
        refine G_seq ?_
        refine G_pure (E' := [⟨4, [], .int .i64 62⟩]) [0] [4] rfl (by kernel_rfl) ?_
        refine N_then ?_
        refine G_ret ?_
        refine N_ret [.tmp 4] [.int .i64 62] rfl (by kernel_rfl) rfl ?_
        rw [callS_no hr hf hp]
        exact ⟨rfl, rfl⟩
theorem vCallNil (right : Bool) (W0 : World) (H : List Grp) : Tri Try.prog 34 #[.pointer none, .bool right] W0 H (fun v H' => v = .int .i64 1 ∧ H' = H) := by
  refine Tri_of (args := [.pointer none, .bool right]) (n := 38) Try.func34 rfl rfl (Nat.le_of_ble_eq_true rfl) ?_
  refine G_seq ?_
  refine G_pure (E' := [⟨0, [], .pointer none⟩, ⟨1, [], .bool right⟩]) [0] [0, 1] rfl (by kernel_rfl) ?_
  refine N_then ?_
  refine G_seq ?_
  refine G_block ?_
  refine G_seq ?_
  refine G_pure (E' := [⟨0, [], .pointer none⟩, ⟨1, [], .bool right⟩, ⟨5, [], .bool true⟩]) [0, 0, 0] [0, 1, 5] rfl (by kernel_rfl) ?_
  refine N_then ?_
  refine G_condt (by kernel_rfl) ?_
  refine G_seq ?_
  refine G_pure (E' := [⟨4, [], .int .i64 1⟩]) [0] [4] rfl (by kernel_rfl) ?_
  refine N_then ?_
  refine G_ret ?_
  refine N_block_ret ?_
  refine N_then_ret ?_
  refine N_ret [.tmp 4] [.int .i64 1] rfl (by kernel_rfl) rfl ?_
  exact ⟨rfl, rfl⟩
theorem vFail (d nb kb cb : Nat) (room calls : Int) (bv : Value) (fails once : Bool) (n : Int) (o : Bool) (W0 : World) (H : List Grp) : Tri Try.prog 16 #[pt d, .int .i64 n, .bool o] W0 ([(d, .cells #[.int .i64 room, bv, .map (some nb), .map (some kb), .map (some cb), .bool fails, .bool once, .int .i64 calls] 64 (0, 0))] :: H) (fun v H' => v = .tuple #[] ∧ H' = ([(d, .cells #[.int .i64 room, bv, .map (some nb), .map (some kb), .map (some cb), .bool true, .bool o, .int .i64 (if 0 > n then 0 else n)] 64 (0, 0))] :: H)) := by
  refine Tri_of (args := [pt d, .int .i64 n, .bool o]) (n := 20) Try.func16 rfl rfl (Nat.le_of_ble_eq_true rfl) ?_
  refine G_seq ?_
  refine G_pure (E' := [⟨0, [], pt d⟩, ⟨1, [], .int .i64 n⟩, ⟨2, [], .bool o⟩, ⟨7, [], .bool true⟩]) [0, 0] [0, 1, 2, 7] rfl (by kernel_rfl) ?_
  refine N_then ?_
  refine G_condt (by kernel_rfl) ?_
  refine G_region ?_
  refine GL_pure (E' := [⟨15, [], .pointer (some ⟨d, 5, none⟩)⟩, ⟨13, [], .int .i64 (if 0 > n then 0 else n)⟩, ⟨11, [], .bool o⟩, ⟨10, [], pt d⟩, ⟨9, [], pt d⟩]) [0, 0, 0, 0, 0, 0, 0, 0] (by kernel_rfl) (j := 8) rfl ?_
  refine GL_store (i := 8) (ch := []) (b := d) (off := 5) (v := .bool true) (c := #[.int .i64 room, bv, .map (some nb), .map (some kb), .map (some cb), .bool fails, .bool once, .int .i64 calls]) (c' := #[.int .i64 room, bv, .map (some nb), .map (some kb), .map (some cb), .bool true, .bool once, .int .i64 calls]) (j := 0) (m := 0) (H' := ([(d, .cells #[.int .i64 room, bv, .map (some nb), .map (some kb), .map (some cb), .bool true, .bool once, .int .i64 calls] 64 (0, 0))] :: H)) rfl rfl (by kernel_rfl) (by kernel_rfl) (by kernel_rfl) (by kernel_rfl) (by kernel_rfl) (by kernel_rfl) (by kernel_rfl) rfl rfl (Nat.le_of_ble_eq_true rfl) (fun _ _ => thaw0) (by kernel_rfl) (by kernel_rfl) ?_
  refine GL_pure (E' := [⟨17, [], .pointer (some ⟨d, 6, none⟩)⟩, ⟨13, [], .int .i64 (if 0 > n then 0 else n)⟩, ⟨11, [], .bool o⟩, ⟨10, [], pt d⟩]) [0, 0] (by kernel_rfl) (j := 11) rfl ?_
  refine GL_store (i := 11) (ch := []) (b := d) (off := 6) (v := .bool o) (c := #[.int .i64 room, bv, .map (some nb), .map (some kb), .map (some cb), .bool true, .bool once, .int .i64 calls]) (c' := #[.int .i64 room, bv, .map (some nb), .map (some kb), .map (some cb), .bool true, .bool o, .int .i64 calls]) (j := 0) (m := 0) (H' := ([(d, .cells #[.int .i64 room, bv, .map (some nb), .map (some kb), .map (some cb), .bool true, .bool o, .int .i64 calls] 64 (0, 0))] :: H)) rfl rfl (by kernel_rfl) (by kernel_rfl) (by kernel_rfl) (by kernel_rfl) (by kernel_rfl) (by kernel_rfl) (by kernel_rfl) rfl rfl (Nat.le_of_ble_eq_true rfl) (fun _ _ => thaw0) (by kernel_rfl) (by kernel_rfl) ?_
  refine GL_pure (E' := [⟨19, [], .pointer (some ⟨d, 7, none⟩)⟩, ⟨13, [], .int .i64 (if 0 > n then 0 else n)⟩]) [0, 0] (by kernel_rfl) (j := 14) rfl ?_
  refine GL_store (i := 14) (ch := []) (b := d) (off := 7) (v := .int .i64 (if 0 > n then 0 else n)) (c := #[.int .i64 room, bv, .map (some nb), .map (some kb), .map (some cb), .bool true, .bool o, .int .i64 calls]) (c' := #[.int .i64 room, bv, .map (some nb), .map (some kb), .map (some cb), .bool true, .bool o, .int .i64 (if 0 > n then 0 else n)]) (j := 0) (m := 0) (H' := ([(d, .cells #[.int .i64 room, bv, .map (some nb), .map (some kb), .map (some cb), .bool true, .bool o, .int .i64 (if 0 > n then 0 else n)] 64 (0, 0))] :: H)) rfl rfl (by kernel_rfl) (by kernel_rfl) (by kernel_rfl) (by kernel_rfl) (by kernel_rfl) (by kernel_rfl) (by kernel_rfl) rfl rfl (Nat.le_of_ble_eq_true rfl) (fun _ _ => thaw0) (by kernel_rfl) (by kernel_rfl) ?_
  refine GL_fin (E' := []) [] [] rfl (by kernel_rfl) ?_
  refine N_ret [] [] rfl (by kernel_rfl) rfl ?_
  exact ⟨rfl, rfl⟩
theorem vNew (room : Int) (W0 : World) (H : List Grp) : Tri Try.prog 12 #[.int .i64 room] W0 H (fun v H' => ∃ d nb kb cb, v = .pointer (some ⟨d, 0, none⟩) ∧ H' = [(d, .cells #[.int .i64 (if 0 > room then 0 else room), .slice none 0 0, .map (some nb), .map (some kb), .map (some cb), .bool false, .bool false, .int .i64 0] 64 (0, 0))] :: [(cb, .map (encM []) 0)] :: [(kb, .map (encM []) 0)] :: [(nb, .map (encM []) 0)] :: H) := by
  refine Tri_of (args := [.int .i64 room]) (n := 10) Try.func12 rfl rfl (Nat.le_of_ble_eq_true rfl) ?_
  refine G_seq ?_
  refine G_pure (E' := [⟨0, [], .int .i64 room⟩]) [0] [0] rfl (by kernel_rfl) ?_
  refine N_then ?_
  refine G_seq ?_
  refine G_region ?_
  refine GL_pure (E' := [⟨4, [], .int .i64 (if 0 > room then 0 else room)⟩]) [0, 0] (by kernel_rfl) (j := 2) rfl ?_
  refine GL_makeMap (i := 2) (ch := []) rfl rfl (by kernel_rfl) (by kernel_rfl) (by kernel_rfl) (fun b1 => ?_)
  refine GL_makeMap (i := 3) (ch := []) rfl rfl (by kernel_rfl) (by kernel_rfl) (by kernel_rfl) (fun b2 => ?_)
  refine GL_makeMap (i := 4) (ch := []) rfl rfl (by kernel_rfl) (by kernel_rfl) (by kernel_rfl) (fun b3 => ?_)
  refine GL_pure (E' := [⟨8, [], .agg #[.int .i64 (if 0 > room then 0 else room), .slice none 0 0, .map (some b1), .map (some b2), .map (some b3), .bool false, .bool false, .int .i64 0]⟩]) [0] (by kernel_rfl) (j := 6) rfl ?_
  refine GL_box (i := 6) (ch := []) (v := .agg #[.int .i64 (if 0 > room then 0 else room), .slice none 0 0, .map (some b1), .map (some b2), .map (some b3), .bool false, .bool false, .int .i64 0]) rfl rfl (by kernel_rfl) (by kernel_rfl) (by kernel_rfl) (by kernel_rfl) (fun b4 => ?_)
  refine GL_fin (E' := [⟨2, [], pt b4⟩]) [0] [2] rfl (by kernel_rfl) ?_
  refine N_then ?_
  refine G_ret ?_
  refine N_ret [.tmp 2] [pt b4] rfl (by kernel_rfl) rfl ?_
  exact ⟨_, _, _, _, rfl, rfl⟩
theorem vApply (nb q nc cc : Nat) (nm cm : SM) (hn : MapOk nm nc) (hcm : MapOk cm cc) (hv : ∀ e ∈ cm, e.2.1 = .pointer none ∨ ∃ p, e.2.1 = .pointer (some ⟨p, 0, none⟩)) (W0 : World) (H : List Grp) (hA : At W0 H q (.map (encM cm) cc)) : Tri Try.prog 38 #[.map (some nb), .map (some q)] W0 ([(nb, .map (encM nm) nc)] :: H) (fun v H' => ∃ dn, dn.Perm cm ∧ v = .tuple #[] ∧ H' = [(nb, .map (encM (foldS (nm, nc) dn).1) (foldS (nm, nc) dn).2)] :: H) := by
  refine Tri_of (args := [.map (some nb), .map (some q)]) (n := 20) Try.func38 rfl rfl (Nat.le_of_ble_eq_true rfl) ?_
  refine G_seq ?_
  refine G_region ?_
  refine GL_pure (E' := [⟨6, [], .map (some q)⟩, ⟨0, [], .map (some nb)⟩]) [0] (by kernel_rfl) (j := 1) rfl ?_
  refine GL_range (i := 1) (ch := []) (kt := 9) (et := 66) (r := q) (c := cc) (m := cm) rfl rfl (by kernel_rfl) (by kernel_rfl) (by kernel_rfl) (by kernel_rfl) (by kernel_rfl) (At.cons hA) (fun it1 => ?_)
  refine GL_fin (E' := [⟨0, [], .map (some nb)⟩, ⟨7, [], pt it1⟩]) [] [0, 7] rfl (by kernel_rfl) ?_
  refine N_then ?_
  refine G_block ?_
  refine G_loop (EI := (fun ξ : SM × SM => [⟨0, [], .map (some nb)⟩, ⟨7, [], pt it1⟩])) (HI := (fun ξ : SM × SM => ([(it1, .mapIter (some q) cc (seenOf ξ.1) cc)] :: [(nb, .map (encM ((foldS (nm, nc) ξ.1).1)) ((foldS (nm, nc) ξ.1).2))] :: H))) (Φ := (fun ξ : SM × SM => ((ξ.1 ++ ξ.2).Perm cm))) (μ := (fun ξ : SM × SM => ξ.2.length)) (s0 := ([], cm)) [0, 7] (by kernel_rfl) (by rfl) (List.Perm.refl _) ?_
  rintro ⟨dn, rest⟩ hpm
  refine G_seq ?_
  refine G_region ?_
  refine GL_next (i := 0) (ch := []) (it := it1) (r := q) (c := cc) (j := 0) (q := 0) (m := cm) (dn := dn) (rest := rest) rfl rfl (by kernel_rfl) (by kernel_rfl) (by kernel_rfl) (by kernel_rfl) rfl rfl (At.cons (At.cons hA)) hcm hpm (fun hend6 => ?_) (fun e2 rest3 hp4 hq5 => ?_)
  ·
    refine GL_fin (E' := [⟨0, [], .map (some nb)⟩, ⟨7, [], pt it1⟩, ⟨9, [], .bool false⟩]) [0] [0, 7, 9] rfl (by kernel_rfl) ?_
    refine N_then ?_
    refine G_seq ?_
    refine G_condf (by kernel_rfl) ?_
    refine G_exit ?_
    refine N_then_exit ?_
    refine N_then_exit ?_
    refine N_block_exit ?_
    refine N_heap (H' := ([(nb, .map (encM ((foldS (nm, nc) dn).1)) ((foldS (nm, nc) dn).2))] :: H)) (fun w h => h.erase 0) ?_
    refine N_ret [] [] rfl (by kernel_rfl) rfl ?_
    exact ⟨dn, by simpa [hend6] using hpm, rfl, rfl⟩
  ·
    have hve := hv e2 (hq5.mem_iff.1 (by simp))
    obtain ⟨k7, v8, st9⟩ := e2
    simp only at hve
    rcases hve with rfl | ⟨p10, rfl⟩
    ·
      refine GL_fin (E' := [⟨0, [], .map (some nb)⟩, ⟨7, [], pt it1⟩, ⟨9, [], .bool true⟩]) [0] [0, 7, 9] rfl (by kernel_rfl) ?_
      refine N_then ?_
      refine G_seq ?_
      refine G_condt (by kernel_rfl) ?_
      refine G_skip ?_
      refine N_then ?_
      refine G_block ?_
      refine G_seq ?_
      refine G_region ?_
      refine GL_entry (i := 0) (ch := []) (it := it1) (r := q) (c := cc) (m := cm) (dn := dn) (e := (k7, .pointer none, st9)) rfl rfl (by kernel_rfl) (by kernel_rfl) (by kernel_rfl) (by kernel_rfl) (At.grp 0 0 rfl rfl) (At.cons (At.cons hA)) hcm (hq5.mem_iff.1 (by simp)) ?_
      refine GL_fin (E' := [⟨0, [], .map (some nb)⟩, ⟨4, [], .string k7⟩, ⟨5, [], .pointer none⟩, ⟨7, [], pt it1⟩]) [0, 0, 0, 0] [0, 4, 5, 7] rfl (by kernel_rfl) ?_
      refine N_then ?_
      refine G_seq ?_
      refine G_pure (E' := [⟨0, [], .map (some nb)⟩, ⟨4, [], .string k7⟩, ⟨5, [], .pointer none⟩, ⟨7, [], pt it1⟩, ⟨14, [], .bool true⟩]) [0, 0] [0, 4, 5, 7, 14] rfl (by kernel_rfl) ?_
      refine N_then ?_
      refine G_condt (by kernel_rfl) ?_
      refine G_region ?_
      refine GL_pure (E' := [⟨16, [], .string k7⟩, ⟨15, [], .map (some nb)⟩, ⟨0, [], .map (some nb)⟩, ⟨7, [], pt it1⟩]) [0, 0] (by kernel_rfl) (j := 2) rfl ?_
      refine GL_delete (i := 2) (ch := []) (ts := #[60, 9]) (t := 60) (kt := 9) (et := 66) (r := nb) (c := (foldS (nm, nc) dn).2) (j := 1) (q := 0) (m := (foldS (nm, nc) dn).1) (k := k7) (H' := ([(it1, .mapIter (some q) cc (seenOf (dn ++ [(k7, .pointer none, st9)])) cc)] :: [(nb, .map (encM (mdel ((foldS (nm, nc) dn).1) k7)) ((foldS (nm, nc) dn).2))] :: H)) rfl rfl rfl rfl rfl (by kernel_rfl) (by kernel_rfl) (by kernel_rfl) (by kernel_rfl) (by kernel_rfl) (by kernel_rfl) rfl rfl rfl ?_
      refine GL_fin (E' := [⟨0, [], .map (some nb)⟩, ⟨7, [], pt it1⟩]) [] [0, 7] rfl (by kernel_rfl) ?_
      refine N_block ?_
      refine N_heap (H' := ([(it1, .mapIter (some q) cc (seenOf (dn ++ [(k7, .pointer none, st9)])) cc)] :: [(nb, .map (encM (mdel ((foldS (nm, nc) dn).1) k7)) ((foldS (nm, nc) dn).2))] :: H)) (fun w h => ((h.front (j := 1) rfl).front (j := 1) rfl)) ?_
      refine N_round (s' := (dn ++ [(k7, .pointer none, st9)], rest3)) [0, 7] (by kernel_rfl) (by rw [foldS_snoc]; rfl) hq5 (by have := hp4.length_eq; simp only [List.length_cons] at this; show rest3.length < rest.length; omega)
    ·
      refine GL_fin (E' := [⟨0, [], .map (some nb)⟩, ⟨7, [], pt it1⟩, ⟨9, [], .bool true⟩]) [0] [0, 7, 9] rfl (by kernel_rfl) ?_
      refine N_then ?_
      refine G_seq ?_
      refine G_condt (by kernel_rfl) ?_
      refine G_skip ?_
      refine N_then ?_
      refine G_block ?_
      refine G_seq ?_
      refine G_region ?_
      refine GL_entry (i := 0) (ch := []) (it := it1) (r := q) (c := cc) (m := cm) (dn := dn) (e := (k7, .pointer (some ⟨p10, 0, none⟩), st9)) rfl rfl (by kernel_rfl) (by kernel_rfl) (by kernel_rfl) (by kernel_rfl) (At.grp 0 0 rfl rfl) (At.cons (At.cons hA)) hcm (hq5.mem_iff.1 (by simp)) ?_
      refine GL_fin (E' := [⟨0, [], .map (some nb)⟩, ⟨4, [], .string k7⟩, ⟨5, [], pt p10⟩, ⟨7, [], pt it1⟩]) [0, 0, 0, 0] [0, 4, 5, 7] rfl (by kernel_rfl) ?_
      refine N_then ?_
      refine G_seq ?_
      refine G_pure (E' := [⟨0, [], .map (some nb)⟩, ⟨4, [], .string k7⟩, ⟨5, [], pt p10⟩, ⟨7, [], pt it1⟩, ⟨14, [], .bool false⟩]) [0, 0] [0, 4, 5, 7, 14] rfl (by kernel_rfl) ?_
      refine N_then ?_
      refine G_condf (by kernel_rfl) ?_
      refine G_region ?_
      refine GL_pure (E' := [⟨19, [], pt p10⟩, ⟨18, [], .string k7⟩, ⟨17, [], .map (some nb)⟩, ⟨0, [], .map (some nb)⟩, ⟨7, [], pt it1⟩]) [0, 0, 0] (by kernel_rfl) (j := 3) rfl ?_
      refine GL_mapPut (i := 3) (ch := []) (kt := 9) (et := 66) (r := nb) (c := (foldS (nm, nc) dn).2) (j := 1) (q := 0) (m := (foldS (nm, nc) dn).1) (k := k7) (v := pt p10) (H' := ([(it1, .mapIter (some q) cc (seenOf (dn ++ [(k7, .pointer (some ⟨p10, 0, none⟩), st9)])) cc)] :: [(nb, .map (encM (mput ((foldS (nm, nc) dn).1) ((foldS (nm, nc) dn).2) k7 (pt p10))) (if mhas ((foldS (nm, nc) dn).1) k7 then (foldS (nm, nc) dn).2 else (foldS (nm, nc) dn).2 + 1))] :: H)) rfl (.inl rfl) (by kernel_rfl) (by kernel_rfl) (by kernel_rfl) (by kernel_rfl) (by kernel_rfl) (by kernel_rfl) (by kernel_rfl) (by kernel_rfl) rfl rfl rfl ?_
      refine GL_fin (E' := [⟨0, [], .map (some nb)⟩, ⟨7, [], pt it1⟩]) [] [0, 7] rfl (by kernel_rfl) ?_
      refine N_block ?_
      refine N_heap (H' := ([(it1, .mapIter (some q) cc (seenOf (dn ++ [(k7, .pointer (some ⟨p10, 0, none⟩), st9)])) cc)] :: [(nb, .map (encM (mput ((foldS (nm, nc) dn).1) ((foldS (nm, nc) dn).2) k7 (pt p10))) (if mhas ((foldS (nm, nc) dn).1) k7 then (foldS (nm, nc) dn).2 else (foldS (nm, nc) dn).2 + 1))] :: H)) (fun w h => ((h.front (j := 1) rfl).front (j := 1) rfl)) ?_
      refine N_round (s' := (dn ++ [(k7, .pointer (some ⟨p10, 0, none⟩), st9)], rest3)) [0, 7] (by kernel_rfl) (by rw [foldS_snoc]; rfl) hq5 (by have := hp4.length_eq; simp only [List.length_cons] at this; show rest3.length < rest.length; omega)
end Go.Proofs.Ytbmieiffboenbaa
namespace Go.Proofs.Ytbmieiffboenbaa
open Go.Sw Go.Lib Go.Vf Go.RowKit
theorem vCloneNil  (W0 : World) (H : List Grp) : Tri Try.prog 35 #[.slice none 0 0] W0 H (fun v H' => v = .slice none 0 0 ∧ H' = H) := by
  refine Tri_of (args := [.slice none 0 0]) (n := 8) Try.func35 rfl rfl (Nat.le_of_ble_eq_true rfl) ?_
  refine G_seq ?_
  refine G_pure (E' := [⟨0, [], .slice none 0 0⟩]) [0] [0] rfl (by kernel_rfl) ?_
  refine N_then ?_
  refine G_seq ?_
  refine G_seq ?_
  refine G_pure (E' := [⟨0, [], .slice none 0 0⟩, ⟨4, [], .bool true⟩]) [0, 0] [0, 4] rfl (by kernel_rfl) ?_
  refine N_then ?_
  refine G_condt (by kernel_rfl) ?_
  refine G_seq ?_
  refine G_pure (E' := [⟨2, [], .slice none 0 0⟩]) [0] [2] rfl (by kernel_rfl) ?_
  refine N_then ?_
  refine G_ret ?_
  refine N_then_ret ?_
  refine N_ret [.tmp 2] [.slice none 0 0] rfl (by kernel_rfl) rfl ?_
  exact ⟨rfl, rfl⟩
theorem vClone (b off n cap : Nat) (S : Nat → Obj → Prop) (l : List UInt8) (hrd : Rd S (some ⟨b, off, none⟩) (u8s l)) (hl : l.length = n) (hn : n ≤ 1000000000) (W0 : World) (H : List Grp) (hS : ∀ y o, S y o → At W0 H y o) : Tri Try.prog 35 #[.slice (some ⟨b, off, none⟩) n cap] W0 H (fun v H' => ∃ g, Own 5 1 v g n (u8s l) ∧ H' = g :: H) := by
  refine Tri_of (args := [.slice (some ⟨b, off, none⟩) n cap]) (n := 8) Try.func35 rfl rfl (Nat.le_of_ble_eq_true rfl) ?_
  refine G_seq ?_
  refine G_pure (E' := [⟨0, [], .slice (some ⟨b, off, none⟩) n cap⟩]) [0] [0] rfl (by kernel_rfl) ?_
  refine N_then ?_
  refine G_seq ?_
  refine G_seq ?_
  refine G_pure (E' := [⟨0, [], .slice (some ⟨b, off, none⟩) n cap⟩, ⟨4, [], .bool false⟩]) [0, 0] [0, 4] rfl (by kernel_rfl) ?_
  refine N_then ?_
  refine G_condf (by kernel_rfl) ?_
  refine G_skip ?_
  refine N_then ?_
  refine G_seq ?_
  refine G_region ?_
  refine GL_buildSlice (i := 0) (ch := []) (e := 5) (l := []) (c := []) rfl rfl (by kernel_rfl) (by kernel_rfl) (by kernel_rfl) (by kernel_rfl) (by kernel_rfl) (fun b1 => ?_)
  refine GL_pure (E' := [⟨6, [], .slice (some ⟨b, off, none⟩) n cap⟩, ⟨5, [], .slice (some ⟨b1, 0, none⟩) 0 0⟩]) [0] (by kernel_rfl) (j := 2) rfl ?_
  refine GL_append (i := 2) (ch := []) (t := 24) (tx := 24) (e := 5) (inf := Try.t5) (s := .slice (some ⟨b1, 0, none⟩) 0 0) (x := .slice (some ⟨b, off, none⟩) n cap) (n := 0) (m := n) (j := 0) (cs := []) (news := (u8s l)) (g := [(b1, .cells #[] 5 (0, 0))]) (S := S) rfl rfl rfl rfl (by kernel_rfl) (by kernel_rfl) (by kernel_rfl) rfl rfl (.inl ⟨5, (by kernel_rfl)⟩) (fun ⟨_, h⟩ => by cases h) (fun _ => ⟨5, (by kernel_rfl)⟩) (by kernel_rfl) (by kernel_rfl) (by kernel_rfl) rfl (Own.lit rfl) (SrcOf.slice _ _ _ _ hrd (fun h => by cases h)) (fun y o h => (At.cons (hS y o h))) (by show (u8s l).length = n * 1; rw [u8s_len, hl, Nat.mul_one]) u8s_one (by omega) (by show (0 + n) * 1 ≤ 140737488355328; omega) (fun v2 g3 hO4 => ?_)
  refine GL_fin (E' := [⟨2, [], v2⟩]) [0] [2] rfl (by kernel_rfl) ?_
  refine N_then ?_
  refine G_ret ?_
  refine N_ret [.tmp 2] [v2] rfl (by kernel_rfl) rfl ?_
  exact ⟨g3, own_nil hO4, rfl⟩
theorem vCloneE (ad : Addr) (cap : Nat) (W0 : World) (H : List Grp) : Tri Try.prog 35 #[.slice (some ad) 0 cap] W0 H (fun v H' => ∃ g, Own 5 1 v g 0 [] ∧ H' = g :: H) := by
  refine Tri_of (args := [.slice (some ad) 0 cap]) (n := 8) Try.func35 rfl rfl (Nat.le_of_ble_eq_true rfl) ?_
  refine G_seq ?_
  refine G_pure (E' := [⟨0, [], .slice (some ad) 0 cap⟩]) [0] [0] rfl (by kernel_rfl) ?_
  refine N_then ?_
  refine G_seq ?_
  refine G_seq ?_
  refine G_pure (E' := [⟨0, [], .slice (some ad) 0 cap⟩, ⟨4, [], .bool false⟩]) [0, 0] [0, 4] rfl (by kernel_rfl) ?_
  refine N_then ?_
  refine G_condf (by kernel_rfl) ?_
  refine G_skip ?_
  refine N_then ?_
  refine G_seq ?_
  refine G_region ?_
  refine GL_buildSlice (i := 0) (ch := []) (e := 5) (l := []) (c := []) rfl rfl (by kernel_rfl) (by kernel_rfl) (by kernel_rfl) (by kernel_rfl) (by kernel_rfl) (fun b1 => ?_)
  refine GL_pure (E' := [⟨6, [], .slice (some ad) 0 cap⟩, ⟨5, [], .slice (some ⟨b1, 0, none⟩) 0 0⟩]) [0] (by kernel_rfl) (j := 2) rfl ?_
  refine GL_append (i := 2) (ch := []) (t := 24) (tx := 24) (e := 5) (inf := Try.t5) (s := .slice (some ⟨b1, 0, none⟩) 0 0) (x := .slice (some ad) 0 cap) (n := 0) (m := 0) (j := 0) (cs := []) (news := ([])) (g := [(b1, .cells #[] 5 (0, 0))]) (S := (fun _ _ => False)) rfl rfl rfl rfl (by kernel_rfl) (by kernel_rfl) (by kernel_rfl) rfl rfl (.inl ⟨5, (by kernel_rfl)⟩) (fun ⟨_, h⟩ => by cases h) (fun _ => ⟨5, (by kernel_rfl)⟩) (by kernel_rfl) (by kernel_rfl) (by kernel_rfl) rfl (Own.lit rfl) (SrcOf.slice _ _ _ _ (.inl rfl) (fun h => by cases h)) (fun _ _ h => h.elim) rfl (fun u h => absurd h List.not_mem_nil) (by omega) (by show (0 + 0) * 1 ≤ 140737488355328; omega) (fun v2 g3 hO4 => ?_)
  refine GL_fin (E' := [⟨2, [], v2⟩]) [0] [2] rfl (by kernel_rfl) ?_
  refine N_then ?_
  refine G_ret ?_
  refine N_ret [.tmp 2] [v2] rfl (by kernel_rfl) rfl ?_
  exact ⟨g3, own_nil hO4, rfl⟩
theorem vUsed (d nb kb cb nc : Nat) (room calls : Int) (bv : Value) (fails once : Bool) (nm : SM) (szf : Value → Nat) (hn : MapOk nm nc) (hs : sumN szf nm ≤ 1000000000000) (W0 : World) (H : List Grp) (hB : ∀ e ∈ nm, ∃ p a c kv, e.2.1 = .pointer (some ⟨p, 0, none⟩) ∧ At W0 H p (.cells #[.slice a (szf e.2.1) c, kv] 68 (0, 0))) : Tri Try.prog 26 #[pt d] W0 ([(d, .cells #[.int .i64 room, bv, .map (some nb), .map (some kb), .map (some cb), .bool fails, .bool once, .int .i64 calls] 64 (0, 0))] :: [(nb, .map (encM nm) nc)] :: H) (fun v H' => v = .int .i64 ((sumN szf nm : Nat) : Int) ∧ H' = ([(d, .cells #[.int .i64 room, bv, .map (some nb), .map (some kb), .map (some cb), .bool fails, .bool once, .int .i64 calls] 64 (0, 0))] :: [(nb, .map (encM nm) nc)] :: H)) := by
  refine Tri_of (args := [pt d]) (n := 25) Try.func26 rfl rfl (Nat.le_of_ble_eq_true rfl) ?_
  refine G_seq ?_
  refine G_pure (E' := [⟨0, [], pt d⟩]) [0] [0] rfl (by kernel_rfl) ?_
  refine N_then ?_
  refine G_seq ?_
  refine G_pure (E' := [⟨0, [], pt d⟩, ⟨3, [], .int .i64 0⟩]) [0] [0, 3] rfl (by kernel_rfl) ?_
  refine N_then ?_
  refine G_seq ?_
  refine G_seq ?_
  refine G_pure (E' := [⟨0, [], pt d⟩, ⟨3, [], .int .i64 0⟩, ⟨7, [], .bool true⟩]) [0, 0] [0, 3, 7] rfl (by kernel_rfl) ?_
  refine N_then ?_
  refine G_condt (by kernel_rfl) ?_
  refine G_seq ?_
  refine G_region ?_
  refine GL_pure (E' := [⟨10, [], .pointer (some ⟨d, 2, none⟩)⟩, ⟨3, [], .int .i64 0⟩]) [0, 0, 0] (by kernel_rfl) (j := 3) rfl ?_
  refine GL_load (i := 3) (ch := []) (b := d) (off := 2) (v := .map (some nb)) rfl rfl (by kernel_rfl) (by kernel_rfl) (by kernel_rfl) (by kernel_rfl) (by kernel_rfl) (At.grp 0 0 rfl rfl) rfl ?_
  refine GL_range (i := 4) (ch := []) (kt := 9) (et := 66) (r := nb) (c := nc) (m := nm) rfl rfl (by kernel_rfl) (by kernel_rfl) (by kernel_rfl) (by kernel_rfl) (by kernel_rfl) (At.grp 1 0 rfl rfl) (fun it1 => ?_)
  refine GL_fin (E' := [⟨3, [], .int .i64 0⟩, ⟨12, [], pt it1⟩]) [] [3, 12] rfl (by kernel_rfl) ?_
  refine N_then ?_
  refine G_block ?_
  refine G_loop (EI := (fun ξ : SM × SM => [⟨3, [], .int .i64 ((sumN szf ξ.1 : Nat) : Int)⟩, ⟨12, [], pt it1⟩])) (HI := (fun ξ : SM × SM => ([(it1, .mapIter (some nb) nc (seenOf ξ.1) nc)] :: [(d, .cells #[.int .i64 room, bv, .map (some nb), .map (some kb), .map (some cb), .bool fails, .bool once, .int .i64 calls] 64 (0, 0))] :: [(nb, .map (encM nm) nc)] :: H))) (Φ := (fun ξ : SM × SM => ((ξ.1 ++ ξ.2).Perm nm))) (μ := (fun ξ : SM × SM => ξ.2.length)) (s0 := ([], nm)) [3, 12] (by kernel_rfl) (by rfl) (List.Perm.refl _) ?_
  rintro ⟨dn, rest⟩ hpm
  have hsp := sumN_part (f := szf) hpm
  refine G_seq ?_
  refine G_region ?_
  refine GL_next (i := 0) (ch := []) (it := it1) (r := nb) (c := nc) (j := 0) (q := 0) (m := nm) (dn := dn) (rest := rest) rfl rfl (by kernel_rfl) (by kernel_rfl) (by kernel_rfl) (by kernel_rfl) rfl rfl (At.grp 2 0 rfl rfl) hn hpm (fun hend6 => ?_) (fun e2 rest3 hp4 hq5 => ?_)
  ·
    refine GL_fin (E' := [⟨3, [], .int .i64 ((sumN szf dn : Nat) : Int)⟩, ⟨12, [], pt it1⟩, ⟨14, [], .bool false⟩]) [0] [3, 12, 14] rfl (by kernel_rfl) ?_
    refine N_then ?_
    refine G_seq ?_
    refine G_condf (by kernel_rfl) ?_
    refine G_exit ?_
    refine N_then_exit ?_
    refine N_then_exit ?_
    refine N_block_exit ?_
    refine N_then ?_
    refine G_seq ?_
    refine G_pure (E' := [⟨2, [], .int .i64 ((sumN szf dn : Nat) : Int)⟩]) [0, 0] [2] rfl (by kernel_rfl) ?_
    refine N_then ?_
    refine G_ret ?_
    refine N_heap (H' := ([(d, .cells #[.int .i64 room, bv, .map (some nb), .map (some kb), .map (some cb), .bool fails, .bool once, .int .i64 calls] 64 (0, 0))] :: [(nb, .map (encM nm) nc)] :: H)) (fun w h => h.erase 0) ?_
    refine N_ret [.tmp 2] [.int .i64 ((sumN szf dn : Nat) : Int)] rfl (by kernel_rfl) rfl ?_
    exact ⟨by rw [sumN_perm (show dn.Perm nm by simpa [hend6] using hpm)]; rfl, rfl⟩
  ·
    obtain ⟨p10, a11, c12, kv13, hve, hat14⟩ := hB e2 (hq5.mem_iff.1 (by simp))
    obtain ⟨k7, v8, st9⟩ := e2
    simp only at hve
    subst hve
    have hsq := sumN_part (f := szf) hq5
    rw [sumN_snoc] at hsq
    simp only at hsq
    refine GL_fin (E' := [⟨3, [], .int .i64 ((sumN szf dn : Nat) : Int)⟩, ⟨12, [], pt it1⟩, ⟨14, [], .bool true⟩]) [0] [3, 12, 14] rfl (by kernel_rfl) ?_
    refine N_then ?_
    refine G_seq ?_
    refine G_condt (by kernel_rfl) ?_
    refine G_skip ?_
    refine N_then ?_
    refine G_block ?_
    refine G_seq ?_
    refine G_region ?_
    refine GL_entry (i := 0) (ch := []) (it := it1) (r := nb) (c := nc) (m := nm) (dn := dn) (e := (k7, .pointer (some ⟨p10, 0, none⟩), st9)) rfl rfl (by kernel_rfl) (by kernel_rfl) (by kernel_rfl) (by kernel_rfl) (At.grp 0 0 rfl rfl) (At.grp 2 0 rfl rfl) hn (hq5.mem_iff.1 (by simp)) ?_
    refine GL_fin (E' := [⟨3, [], .int .i64 ((sumN szf dn : Nat) : Int)⟩, ⟨5, [], pt p10⟩, ⟨12, [], pt it1⟩]) [0, 0] [3, 5, 12] rfl (by kernel_rfl) ?_
    refine N_then ?_
    refine G_region ?_
    refine GL_pure (E' := [⟨20, [], pt p10⟩, ⟨17, [], .int .i64 ((sumN szf dn : Nat) : Int)⟩, ⟨3, [], .int .i64 ((sumN szf dn : Nat) : Int)⟩, ⟨12, [], pt it1⟩]) [0, 0, 0, 0] (by kernel_rfl) (j := 4) rfl ?_
    refine GL_load (i := 4) (ch := []) (b := p10) (off := 0) (v := .slice a11 (szf (.pointer (some ⟨p10, 0, none⟩))) c12) rfl rfl (by kernel_rfl) (by kernel_rfl) (by kernel_rfl) (by kernel_rfl) (by kernel_rfl) (At.cons (At.cons (At.cons hat14))) rfl ?_
    have hw15 : IntKind.wrap .i64 (((sumN szf dn : Nat) : Int) + (((szf (.pointer (some ⟨p10, 0, none⟩))) : Nat) : Int)) = ((sumN szf dn : Nat) : Int) + (((szf (.pointer (some ⟨p10, 0, none⟩))) : Nat) : Int) := w64 (by omega) (by omega)
    refine GL_fin (E' := [⟨3, [], .int .i64 (((sumN szf dn : Nat) : Int) + (((szf (.pointer (some ⟨p10, 0, none⟩))) : Nat) : Int))⟩, ⟨12, [], pt it1⟩]) [0, 0, 0] [3, 12] rfl (Eq.trans (b := some [⟨3, [], .int .i64 (IntKind.wrap .i64 (((sumN szf dn : Nat) : Int) + (((szf (.pointer (some ⟨p10, 0, none⟩))) : Nat) : Int)))⟩, ⟨12, [], pt it1⟩]) (by kernel_rfl) (by simp only [hw15])) ?_
    refine N_block ?_
    refine N_env (E' := [⟨3, [], .int .i64 ((sumN szf (dn ++ [(k7, .pointer (some ⟨p10, 0, none⟩), st9)]) : Nat) : Int)⟩, ⟨12, [], pt it1⟩]) (by rw [sumN_snoc]; rfl) ?_
    refine N_heap (H' := ([(it1, .mapIter (some nb) nc (seenOf (dn ++ [(k7, .pointer (some ⟨p10, 0, none⟩), st9)])) nc)] :: [(d, .cells #[.int .i64 room, bv, .map (some nb), .map (some kb), .map (some cb), .bool fails, .bool once, .int .i64 calls] 64 (0, 0))] :: [(nb, .map (encM nm) nc)] :: H)) (fun w h => (((h.front (j := 2) rfl).front (j := 2) rfl).front (j := 2) rfl)) ?_
    refine N_round (s' := (dn ++ [(k7, .pointer (some ⟨p10, 0, none⟩), st9)], rest3)) [3, 12] (by kernel_rfl) (by rfl) hq5 (by have := hp4.length_eq; simp only [List.length_cons] at this; show rest3.length < rest.length; omega)
theorem vReadNo (d nb kb cb nc : Nat) (room calls : Int) (bv : Value) (fails once : Bool) (nm : SM) (path : ByteArray) (hg : mget nm path = none) (W0 : World) (H : List Grp) : Tri Try.prog 19 #[pt d, .string path] W0 ([(d, .cells #[.int .i64 room, bv, .map (some nb), .map (some kb), .map (some cb), .bool fails, .bool once, .int .i64 calls] 64 (0, 0))] :: [(nb, .map (encM nm) nc)] :: H) (fun v H' => v = .tuple #[.slice none 0 0, .int .i64 60] ∧ H' = ([(d, .cells #[.int .i64 room, bv, .map (some nb), .map (some kb), .map (some cb), .bool fails, .bool once, .int .i64 calls] 64 (0, 0))] :: [(nb, .map (encM nm) nc)] :: H)) := by
  refine Tri_of (args := [pt d, .string path]) (n := 22) Try.func19 rfl rfl (Nat.le_of_ble_eq_true rfl) ?_
  refine G_seq ?_
  refine G_pure (E' := [⟨0, [], pt d⟩, ⟨1, [], .string path⟩]) [0, 0] [0, 1] rfl (by kernel_rfl) ?_
  refine N_then ?_
  refine G_seq ?_
  refine G_seq ?_
  refine G_pure (E' := [⟨0, [], pt d⟩, ⟨1, [], .string path⟩, ⟨8, [], .bool false⟩]) [0, 0] [0, 1, 8] rfl (by kernel_rfl) ?_
  refine N_then ?_
  refine G_condf (by kernel_rfl) ?_
  refine G_skip ?_
  refine N_then ?_
  refine G_seq ?_
  refine G_region ?_
  refine GL_pure (E' := [⟨11, [], .pointer (some ⟨d, 2, none⟩)⟩, ⟨1, [], .string path⟩]) [0, 0, 0] (by kernel_rfl) (j := 3) rfl ?_
  refine GL_load (i := 3) (ch := []) (b := d) (off := 2) (v := .map (some nb)) rfl rfl (by kernel_rfl) (by kernel_rfl) (by kernel_rfl) (by kernel_rfl) (by kernel_rfl) (At.grp 0 0 rfl rfl) rfl ?_
  refine GL_pure (E' := [⟨13, [], .string path⟩, ⟨12, [], .map (some nb)⟩]) [0] (by kernel_rfl) (j := 5) rfl ?_
  refine GL_lookup (i := 5) (ch := []) (kt := 9) (et := 66) (r := nb) (c := nc) (m := nm) (k := path) (z := .pointer none) (ov := none) rfl rfl (by kernel_rfl) (by kernel_rfl) (by kernel_rfl) (by kernel_rfl) (by kernel_rfl) (by kernel_rfl) (by kernel_rfl) (by kernel_rfl) (At.grp 1 0 rfl rfl) (fun _ => hg) ?_
  refine GL_fin (E' := [⟨6, [], .pointer none⟩]) [0] [6] rfl (by kernel_rfl) ?_
  refine N_then ?_
  refine G_seq ?_
  refine G_seq ?_
  refine G_pure (E' := [⟨6, [], .pointer none⟩, ⟨16, [], .bool true⟩]) [0, 0] [6, 16] rfl (by kernel_rfl) ?_
  refine N_then ?_
  refine G_condt (by kernel_rfl) ?_
  refine G_seq ?_
  refine G_pure (E' := [⟨4, [], .slice none 0 0⟩, ⟨5, [], .int .i64 60⟩]) [0, 0] [4, 5] rfl (by kernel_rfl) ?_
  refine N_then ?_
  refine G_ret ?_
  refine N_then_ret ?_
  refine N_ret [.tmp 4, .tmp 5] [.slice none 0 0, .int .i64 60] rfl (by kernel_rfl) rfl ?_
  exact ⟨rfl, rfl⟩
theorem vReadNil (d nb kb cb nc : Nat) (room calls : Int) (bv : Value) (fails once : Bool) (nm : SM) (path : ByteArray) (p : Nat) (kv : Value) (hg : mget nm path = some (.pointer (some ⟨p, 0, none⟩))) (W0 : World) (H : List Grp) (hp : At W0 H p (.cells #[.slice none 0 0, kv] 68 (0, 0))) : Tri Try.prog 19 #[pt d, .string path] W0 ([(d, .cells #[.int .i64 room, bv, .map (some nb), .map (some kb), .map (some cb), .bool fails, .bool once, .int .i64 calls] 64 (0, 0))] :: [(nb, .map (encM nm) nc)] :: H) (fun v H' => v = .tuple #[.slice none 0 0, .int .i64 0] ∧ H' = ([(d, .cells #[.int .i64 room, bv, .map (some nb), .map (some kb), .map (some cb), .bool fails, .bool once, .int .i64 calls] 64 (0, 0))] :: [(nb, .map (encM nm) nc)] :: H)) := by
  refine Tri_of (args := [pt d, .string path]) (n := 22) Try.func19 rfl rfl (Nat.le_of_ble_eq_true rfl) ?_
  refine G_seq ?_
  refine G_pure (E' := [⟨0, [], pt d⟩, ⟨1, [], .string path⟩]) [0, 0] [0, 1] rfl (by kernel_rfl) ?_
  refine N_then ?_
  refine G_seq ?_
  refine G_seq ?_
  refine G_pure (E' := [⟨0, [], pt d⟩, ⟨1, [], .string path⟩, ⟨8, [], .bool false⟩]) [0, 0] [0, 1, 8] rfl (by kernel_rfl) ?_
  refine N_then ?_
  refine G_condf (by kernel_rfl) ?_
  refine G_skip ?_
  refine N_then ?_
  refine G_seq ?_
  refine G_region ?_
  refine GL_pure (E' := [⟨11, [], .pointer (some ⟨d, 2, none⟩)⟩, ⟨1, [], .string path⟩]) [0, 0, 0] (by kernel_rfl) (j := 3) rfl ?_
  refine GL_load (i := 3) (ch := []) (b := d) (off := 2) (v := .map (some nb)) rfl rfl (by kernel_rfl) (by kernel_rfl) (by kernel_rfl) (by kernel_rfl) (by kernel_rfl) (At.grp 0 0 rfl rfl) rfl ?_
  refine GL_pure (E' := [⟨13, [], .string path⟩, ⟨12, [], .map (some nb)⟩]) [0] (by kernel_rfl) (j := 5) rfl ?_
  refine GL_lookup (i := 5) (ch := []) (kt := 9) (et := 66) (r := nb) (c := nc) (m := nm) (k := path) (z := .pointer none) (ov := (some (pt p))) rfl rfl (by kernel_rfl) (by kernel_rfl) (by kernel_rfl) (by kernel_rfl) (by kernel_rfl) (by kernel_rfl) (by kernel_rfl) (by kernel_rfl) (At.grp 1 0 rfl rfl) (fun _ => hg) ?_
  refine GL_fin (E' := [⟨6, [], pt p⟩]) [0] [6] rfl (by kernel_rfl) ?_
  refine N_then ?_
  refine G_seq ?_
  refine G_seq ?_
  refine G_pure (E' := [⟨6, [], pt p⟩, ⟨16, [], .bool false⟩]) [0, 0] [6, 16] rfl (by kernel_rfl) ?_
  refine N_then ?_
  refine G_condf (by kernel_rfl) ?_
  refine G_skip ?_
  refine N_then ?_
  refine G_seq ?_
  refine G_region ?_
  refine GL_pure (E' := [⟨19, [], pt p⟩]) [0, 0, 0] (by kernel_rfl) (j := 3) rfl ?_
  refine GL_load (i := 3) (ch := []) (b := p) (off := 0) (v := .slice none 0 0) rfl rfl (by kernel_rfl) (by kernel_rfl) (by kernel_rfl) (by kernel_rfl) (by kernel_rfl) (At.cons (At.cons hp)) rfl ?_
  refine GL_callQ (i := 4) (ch := []) (f := 35) (fst := #[]) (caps := #[]) (vs := [.slice none 0 0]) (v := .slice none 0 0) rfl rfl rfl (by kernel_rfl) (by kernel_rfl) Try.func35 rfl rfl (by kernel_rfl) (by kernel_rfl) (by kernel_rfl) (fun _ => vCloneNil _ _) ?_
  refine GL_fin (E' := [⟨4, [], .slice none 0 0⟩, ⟨5, [], .int .i64 0⟩]) [0, 0] [4, 5] rfl (by kernel_rfl) ?_
  refine N_then ?_
  refine G_ret ?_
  refine N_ret [.tmp 4, .tmp 5] [.slice none 0 0, .int .i64 0] rfl (by kernel_rfl) rfl ?_
  exact ⟨rfl, rfl⟩
theorem vReadYes (d nb kb cb nc : Nat) (room calls : Int) (bv : Value) (fails once : Bool) (nm : SM) (path : ByteArray) (b off n cap : Nat) (S : Nat → Obj → Prop) (l : List UInt8) (hrd : Rd S (some ⟨b, off, none⟩) (u8s l)) (hl : l.length = n) (hn : n ≤ 1000000000) (p : Nat) (kv : Value) (hg : mget nm path = some (.pointer (some ⟨p, 0, none⟩))) (W0 : World) (H : List Grp) (hS : ∀ y o, S y o → At W0 H y o) (hp : At W0 H p (.cells #[.slice (some ⟨b, off, none⟩) n cap, kv] 68 (0, 0))) : Tri Try.prog 19 #[pt d, .string path] W0 ([(d, .cells #[.int .i64 room, bv, .map (some nb), .map (some kb), .map (some cb), .bool fails, .bool once, .int .i64 calls] 64 (0, 0))] :: [(nb, .map (encM nm) nc)] :: H) (fun v H' => ∃ x g, v = .tuple #[x, .int .i64 0] ∧ Own 5 1 x g n (u8s l) ∧ H' = g :: ([(d, .cells #[.int .i64 room, bv, .map (some nb), .map (some kb), .map (some cb), .bool fails, .bool once, .int .i64 calls] 64 (0, 0))] :: [(nb, .map (encM nm) nc)] :: H)) := by
  refine Tri_of (args := [pt d, .string path]) (n := 22) Try.func19 rfl rfl (Nat.le_of_ble_eq_true rfl) ?_
  refine G_seq ?_
  refine G_pure (E' := [⟨0, [], pt d⟩, ⟨1, [], .string path⟩]) [0, 0] [0, 1] rfl (by kernel_rfl) ?_
  refine N_then ?_
  refine G_seq ?_
  refine G_seq ?_
  refine G_pure (E' := [⟨0, [], pt d⟩, ⟨1, [], .string path⟩, ⟨8, [], .bool false⟩]) [0, 0] [0, 1, 8] rfl (by kernel_rfl) ?_
  refine N_then ?_
  refine G_condf (by kernel_rfl) ?_
  refine G_skip ?_
  refine N_then ?_
  refine G_seq ?_
  refine G_region ?_
  refine GL_pure (E' := [⟨11, [], .pointer (some ⟨d, 2, none⟩)⟩, ⟨1, [], .string path⟩]) [0, 0, 0] (by kernel_rfl) (j := 3) rfl ?_
  refine GL_load (i := 3) (ch := []) (b := d) (off := 2) (v := .map (some nb)) rfl rfl (by kernel_rfl) (by kernel_rfl) (by kernel_rfl) (by kernel_rfl) (by kernel_rfl) (At.grp 0 0 rfl rfl) rfl ?_
  refine GL_pure (E' := [⟨13, [], .string path⟩, ⟨12, [], .map (some nb)⟩]) [0] (by kernel_rfl) (j := 5) rfl ?_
  refine GL_lookup (i := 5) (ch := []) (kt := 9) (et := 66) (r := nb) (c := nc) (m := nm) (k := path) (z := .pointer none) (ov := (some (pt p))) rfl rfl (by kernel_rfl) (by kernel_rfl) (by kernel_rfl) (by kernel_rfl) (by kernel_rfl) (by kernel_rfl) (by kernel_rfl) (by kernel_rfl) (At.grp 1 0 rfl rfl) (fun _ => hg) ?_
  refine GL_fin (E' := [⟨6, [], pt p⟩]) [0] [6] rfl (by kernel_rfl) ?_
  refine N_then ?_
  refine G_seq ?_
  refine G_seq ?_
  refine G_pure (E' := [⟨6, [], pt p⟩, ⟨16, [], .bool false⟩]) [0, 0] [6, 16] rfl (by kernel_rfl) ?_
  refine N_then ?_
  refine G_condf (by kernel_rfl) ?_
  refine G_skip ?_
  refine N_then ?_
  refine G_seq ?_
  refine G_region ?_
  refine GL_pure (E' := [⟨19, [], pt p⟩]) [0, 0, 0] (by kernel_rfl) (j := 3) rfl ?_
  refine GL_load (i := 3) (ch := []) (b := p) (off := 0) (v := .slice (some ⟨b, off, none⟩) n cap) rfl rfl (by kernel_rfl) (by kernel_rfl) (by kernel_rfl) (by kernel_rfl) (by kernel_rfl) (At.cons (At.cons hp)) rfl ?_
  refine GL_call (i := 4) (ch := []) (f := 35) (fst := #[]) (caps := #[]) (vs := [.slice (some ⟨b, off, none⟩) n cap]) rfl rfl rfl (by kernel_rfl) (by kernel_rfl) Try.func35 rfl rfl (by kernel_rfl) (by kernel_rfl) (chSure_of (by kernel_rfl)) (vClone b off n cap S l hrd hl hn _ _ (fun y o h => (At.cons (At.cons (hS y o h))))) ?_
  rintro v3 _ ⟨g1, hO2, rfl⟩
  refine GL_fin (E' := [⟨4, [], v3⟩, ⟨5, [], .int .i64 0⟩]) [0, 0] [4, 5] rfl (by kernel_rfl) ?_
  refine N_then ?_
  refine G_ret ?_
  refine N_ret [.tmp 4, .tmp 5] [v3, .int .i64 0] rfl (by kernel_rfl) rfl ?_
  exact ⟨_, g1, rfl, hO2, rfl⟩
end Go.Proofs.Ytbmieiffboenbaa
namespace Go.Proofs.Ytbmieiffboenbaa
open Go.Sw Go.Lib Go.Vf Go.RowKit
theorem vNameNew (d nb kb cb q nc cc xc : Nat) (room calls : Int) (bv : Value) (fails once : Bool) (nm cm xm : SM) (dir : ByteArray) (hn : MapOk nm nc) (hx : MapOk xm xc) (hv : ∀ e ∈ xm, e.2.1 = .pointer none ∨ ∃ p, e.2.1 = .pointer (some ⟨p, 0, none⟩)) (hg : mget cm dir = none) (W0 : World) (H : List Grp) (hA : At W0 H q (.map (encM xm) xc)) : Tri Try.prog 36 #[pt d, .string dir, .map (some q)] W0 ([(d, .cells #[.int .i64 room, bv, .map (some nb), .map (some kb), .map (some cb), .bool fails, .bool once, .int .i64 calls] 64 (0, 0))] :: [(nb, .map (encM nm) nc)] :: [(cb, .map (encM cm) cc)] :: H) (fun v H' => ∃ dn x g, dn.Perm xm ∧ Own 72 1 x g 1 [.map (some q)] ∧ v = .tuple #[] ∧ H' = ([(d, .cells #[.int .i64 room, bv, .map (some nb), .map (some kb), .map (some cb), .bool fails, .bool once, .int .i64 calls] 64 (0, 0))] :: [(nb, .map (encM ((foldS (nm, nc) dn).1)) ((foldS (nm, nc) dn).2))] :: [(cb, .map (encM (mput cm cc dir x)) (if mhas cm dir then cc else cc + 1))] :: g :: H)) := by
  refine Tri_of (args := [pt d, .string dir, .map (some q)]) (n := 26) Try.func36 rfl rfl (Nat.le_of_ble_eq_true rfl) ?_
  refine G_seq ?_
  refine G_region ?_
  refine GL_pure (E' := [⟨8, [], .pointer (some ⟨d, 2, none⟩)⟩, ⟨0, [], pt d⟩, ⟨1, [], .string dir⟩, ⟨2, [], .map (some q)⟩]) [0, 0, 0] (by kernel_rfl) (j := 3) rfl ?_
  refine GL_load (i := 3) (ch := []) (b := d) (off := 2) (v := .map (some nb)) rfl rfl (by kernel_rfl) (by kernel_rfl) (by kernel_rfl) (by kernel_rfl) (by kernel_rfl) (At.grp 0 0 rfl rfl) rfl ?_
  refine GL_pure (E' := [⟨10, [], .map (some q)⟩, ⟨9, [], .map (some nb)⟩, ⟨0, [], pt d⟩, ⟨1, [], .string dir⟩, ⟨2, [], .map (some q)⟩]) [0] (by kernel_rfl) (j := 5) rfl ?_
  refine GL_heap rfl (H' := ([(nb, .map (encM nm) nc)] :: [(d, .cells #[.int .i64 room, bv, .map (some nb), .map (some kb), .map (some cb), .bool fails, .bool once, .int .i64 calls] 64 (0, 0))] :: [(cb, .map (encM cm) cc)] :: H)) (fun w h => (h.front (j := 1) rfl)) ?_
  refine GL_call (i := 5) (ch := []) (f := 38) (fst := #[]) (caps := #[]) (vs := [.map (some nb), .map (some q)]) rfl rfl rfl (by kernel_rfl) (by kernel_rfl) Try.func38 rfl rfl (by kernel_rfl) (by kernel_rfl) (chSure_of (by kernel_rfl)) (vApply nb q nc xc nm xm hn hx hv _ _ (At.cons (At.cons hA))) ?_
  rintro v H' ⟨dn1, hdn2, rfl, rfl⟩
  refine GL_fin (E' := [⟨0, [], pt d⟩, ⟨1, [], .string dir⟩, ⟨2, [], .map (some q)⟩]) [] [0, 1, 2] rfl (by kernel_rfl) ?_
  refine N_then ?_
  refine G_regionH ([(nb, .map (encM ((foldS (nm, nc) dn1).1)) ((foldS (nm, nc) dn1).2))] :: [(d, .cells #[.int .i64 room, bv, .map (some nb), .map (some kb), .map (some cb), .bool fails, .bool once, .int .i64 calls] 64 (0, 0))] :: H) (by kernel_rfl) ?_
  refine GH_pure (E' := [⟨12, [], pt d⟩, ⟨0, [], pt d⟩, ⟨1, [], .string dir⟩, ⟨2, [], .map (some q)⟩]) 0 0 (by kernel_rfl) (fun w h => (((h.front (j := 1) rfl).front (j := 1) rfl).erase 2)) (by kernel_rfl) ?_
  refine GH_nil (ad := ⟨d, 0, none⟩) 1 rfl rfl rfl (by kernel_rfl) (by kernel_rfl) (by kernel_rfl) (by kernel_rfl) (by kernel_rfl) (fun w h => (((h.front (j := 1) rfl).front (j := 1) rfl).erase 2)) ?_
  refine GH_pure (E' := [⟨14, [], .pointer (some ⟨d, 4, none⟩)⟩, ⟨0, [], pt d⟩, ⟨1, [], .string dir⟩, ⟨2, [], .map (some q)⟩]) 2 0 (by kernel_rfl) (fun w h => (((h.front (j := 1) rfl).front (j := 1) rfl).erase 2)) (by kernel_rfl) ?_
  refine GH_take' (E' := [⟨15, [], .map (some cb)⟩, ⟨14, [], .pointer (some ⟨d, 4, none⟩)⟩, ⟨0, [], pt d⟩, ⟨1, [], .string dir⟩, ⟨2, [], .map (some q)⟩]) 3 (by kernel_rfl) (fun w h => (((h.front (j := 1) rfl).front (j := 1) rfl).erase 2)) ?_ ?_
  ·
    refine GL_load (i := 3) (ch := []) (b := d) (off := 4) (v := .map (some cb)) rfl rfl (by kernel_rfl) (by kernel_rfl) (by kernel_rfl) (by kernel_rfl) (by kernel_rfl) (At.grp 1 0 rfl rfl) rfl ?_
    exact GL_yend (by kernel_rfl) (by kernel_rfl)
  refine GH_pure (E' := [⟨16, [], .string dir⟩, ⟨15, [], .map (some cb)⟩, ⟨0, [], pt d⟩, ⟨1, [], .string dir⟩, ⟨2, [], .map (some q)⟩]) 4 0 (by kernel_rfl) (fun w h => (((h.front (j := 1) rfl).front (j := 1) rfl).erase 2)) (by kernel_rfl) ?_
  refine GH_pure (E' := [⟨17, [], pt d⟩, ⟨16, [], .string dir⟩, ⟨15, [], .map (some cb)⟩, ⟨1, [], .string dir⟩, ⟨2, [], .map (some q)⟩]) 5 0 (by kernel_rfl) (fun w h => (((h.front (j := 1) rfl).front (j := 1) rfl).erase 2)) (by kernel_rfl) ?_
  refine GH_nil (ad := ⟨d, 0, none⟩) 6 rfl rfl rfl (by kernel_rfl) (by kernel_rfl) (by kernel_rfl) (by kernel_rfl) (by kernel_rfl) (fun w h => (((h.front (j := 1) rfl).front (j := 1) rfl).erase 2)) ?_
  refine GH_pure (E' := [⟨19, [], .pointer (some ⟨d, 4, none⟩)⟩, ⟨16, [], .string dir⟩, ⟨15, [], .map (some cb)⟩, ⟨1, [], .string dir⟩, ⟨2, [], .map (some q)⟩]) 7 0 (by kernel_rfl) (fun w h => (((h.front (j := 1) rfl).front (j := 1) rfl).erase 2)) (by kernel_rfl) ?_
  refine GH_take' (E' := [⟨20, [], .map (some cb)⟩, ⟨19, [], .pointer (some ⟨d, 4, none⟩)⟩, ⟨16, [], .string dir⟩, ⟨15, [], .map (some cb)⟩, ⟨1, [], .string dir⟩, ⟨2, [], .map (some q)⟩]) 8 (by kernel_rfl) (fun w h => (((h.front (j := 1) rfl).front (j := 1) rfl).erase 2)) ?_ ?_
  ·
    refine GL_load (i := 8) (ch := []) (b := d) (off := 4) (v := .map (some cb)) rfl rfl (by kernel_rfl) (by kernel_rfl) (by kernel_rfl) (by kernel_rfl) (by kernel_rfl) (At.grp 1 0 rfl rfl) rfl ?_
    exact GL_yend (by kernel_rfl) (by kernel_rfl)
  refine GH_pure (E' := [⟨21, [], .string dir⟩, ⟨20, [], .map (some cb)⟩, ⟨16, [], .string dir⟩, ⟨15, [], .map (some cb)⟩, ⟨2, [], .map (some q)⟩]) 9 0 (by kernel_rfl) (fun w h => (((h.front (j := 1) rfl).front (j := 1) rfl).erase 2)) (by kernel_rfl) ?_
  refine GH_pure (E' := [⟨23, [], .map (some q)⟩, ⟨21, [], .string dir⟩, ⟨20, [], .map (some cb)⟩, ⟨16, [], .string dir⟩, ⟨15, [], .map (some cb)⟩]) 11 0 (by kernel_rfl) (fun w h => (((h.front (j := 1) rfl).front (j := 1) rfl).erase 2)) (by kernel_rfl) ?_
  refine GH_eff2 10 12 (by kernel_rfl) (by kernel_rfl) (by kernel_rfl) (by kernel_rfl) (by kernel_rfl) ?_ ?_
  ·
    refine GL_lookup (i := 10) (ch := []) (kt := 9) (et := 73) (r := cb) (c := cc) (m := cm) (k := dir) (z := .slice none 0 0) (ov := none) rfl rfl (by kernel_rfl) (by kernel_rfl) (by kernel_rfl) (by kernel_rfl) (by kernel_rfl) (by kernel_rfl) (by kernel_rfl) (by kernel_rfl) (At.grp 2 0 rfl rfl) (fun _ => hg) ?_
    refine GH_back (by kernel_rfl) (fun w h => (((h.front (j := 1) rfl).front (j := 1) rfl).erase 2)) ?_
    refine GH_eff 12 (by kernel_rfl) (by kernel_rfl) (by kernel_rfl) ?_
    refine GL_buildSlice (i := 12) (ch := []) (e := 72) (l := [(0, .map (some q))]) (c := [.map (some q)]) rfl rfl (by kernel_rfl) (by kernel_rfl) (by kernel_rfl) (by kernel_rfl) (by kernel_rfl) (fun b3 => ?_)
    refine GH_back (by kernel_rfl) (fun w h => ((((h.front (j := 2) rfl).front (j := 2) rfl).erase 3).erase 2)) ?_
    refine GH_more ([(b3, .cells #[.map (some q)] 72 (0, 0))] :: [(nb, .map (encM ((foldS (nm, nc) dn1).1)) ((foldS (nm, nc) dn1).2))] :: [(d, .cells #[.int .i64 room, bv, .map (some nb), .map (some kb), .map (some cb), .bool fails, .bool once, .int .i64 calls] 64 (0, 0))] :: H) (fun w h => (((h.front (j := 2) rfl).front (j := 2) rfl).erase 2)) ?_
    refine GH_eff 13 (by kernel_rfl) (by kernel_rfl) (by kernel_rfl) ?_
    refine GL_heap rfl (H' := ([] :: [(b3, .cells #[.map (some q)] 72 (0, 0))] :: [(nb, .map (encM ((foldS (nm, nc) dn1).1)) ((foldS (nm, nc) dn1).2))] :: [(d, .cells #[.int .i64 room, bv, .map (some nb), .map (some kb), .map (some cb), .bool fails, .bool once, .int .i64 calls] 64 (0, 0))] :: [(cb, .map (encM cm) cc)] :: H)) (fun w h => h.flat (List.Perm.refl _)) ?_
    refine GL_append (i := 13) (ch := []) (t := 73) (tx := 73) (e := 72) (inf := Try.t72) (s := .slice none 0 0) (x := .slice (some ⟨b3, 0, none⟩) 1 1) (n := 0) (m := 1) (j := 0) (cs := []) (news := [.map (some q)]) (g := []) (S := (inG [(b3, .cells #[.map (some q)] 72 (0, 0))])) rfl rfl rfl rfl (by kernel_rfl) (by kernel_rfl) (by kernel_rfl) rfl rfl (.inl ⟨72, (by kernel_rfl)⟩) (fun ⟨_, h⟩ => by cases h) (fun _ => ⟨72, (by kernel_rfl)⟩) (by kernel_rfl) (by kernel_rfl) (by kernel_rfl) rfl Own.nil (SrcOf.slice _ _ _ _ Rd.lit (fun h => by cases h)) (at_inG 1 rfl) (by kernel_rfl) (by intro u hu; rcases List.mem_singleton.1 hu with rfl; rfl) (by omega) (by show (0 + 1) * 8 ≤ 140737488355328; omega) (fun v4 g5 hO6 => ?_)
    refine GH_back (by kernel_rfl) (fun w h => (((((h.front (j := 3) rfl).front (j := 3) rfl).front (j := 3) rfl).erase 4).erase 3)) ?_
    refine GH_more (g5 :: [(b3, .cells #[.map (some q)] 72 (0, 0))] :: [(nb, .map (encM ((foldS (nm, nc) dn1).1)) ((foldS (nm, nc) dn1).2))] :: [(d, .cells #[.int .i64 room, bv, .map (some nb), .map (some kb), .map (some cb), .bool fails, .bool once, .int .i64 calls] 64 (0, 0))] :: H) (fun w h => ((((h.front (j := 3) rfl).front (j := 3) rfl).front (j := 3) rfl).erase 3)) ?_
    refine GH_eff 14 (by kernel_rfl) (by kernel_rfl) (by kernel_rfl) ?_
    refine GL_mapPut (i := 14) (ch := []) (kt := 9) (et := 73) (r := cb) (c := cc) (j := 4) (q := 0) (m := cm) (k := dir) (v := v4) (H' := (g5 :: [(b3, .cells #[.map (some q)] 72 (0, 0))] :: [(nb, .map (encM ((foldS (nm, nc) dn1).1)) ((foldS (nm, nc) dn1).2))] :: [(d, .cells #[.int .i64 room, bv, .map (some nb), .map (some kb), .map (some cb), .bool fails, .bool once, .int .i64 calls] 64 (0, 0))] :: [(cb, .map (encM (mput cm cc dir (v4))) (if mhas cm dir then cc else cc + 1))] :: H)) rfl (.inl rfl) (by kernel_rfl) (by kernel_rfl) (by kernel_rfl) (by kernel_rfl) (by kernel_rfl) (by kernel_rfl) (by kernel_rfl) (by kernel_rfl) rfl rfl rfl ?_
    refine GH_back (by kernel_rfl) (fun w h => (((((h.front (j := 3) rfl).front (j := 3) rfl).front (j := 3) rfl).front (j := 3) rfl).erase 4)) ?_
    refine GH_done (E' := []) [] (by kernel_rfl) (by kernel_rfl) ?_
    refine N_heap (H' := ([(d, .cells #[.int .i64 room, bv, .map (some nb), .map (some kb), .map (some cb), .bool fails, .bool once, .int .i64 calls] 64 (0, 0))] :: [(nb, .map (encM ((foldS (nm, nc) dn1).1)) ((foldS (nm, nc) dn1).2))] :: [(cb, .map (encM (mput cm cc dir (v4))) (if mhas cm dir then cc else cc + 1))] :: g5 :: H)) (fun w h => ((((h.front (j := 4) rfl).front (j := 3) rfl).front (j := 4) rfl).erase 4)) ?_
    refine N_ret [] [] rfl (by kernel_rfl) rfl ?_
    exact ⟨_, _, g5, hdn2, hO6, rfl, rfl⟩
  ·
    refine GL_buildSlice (i := 12) (ch := []) (e := 72) (l := [(0, .map (some q))]) (c := [.map (some q)]) rfl rfl (by kernel_rfl) (by kernel_rfl) (by kernel_rfl) (by kernel_rfl) (by kernel_rfl) (fun b7 => ?_)
    refine GH_back (by kernel_rfl) (fun w h => ((((h.front (j := 2) rfl).front (j := 2) rfl).erase 3).erase 2)) ?_
    refine GH_more ([(b7, .cells #[.map (some q)] 72 (0, 0))] :: [(nb, .map (encM ((foldS (nm, nc) dn1).1)) ((foldS (nm, nc) dn1).2))] :: [(d, .cells #[.int .i64 room, bv, .map (some nb), .map (some kb), .map (some cb), .bool fails, .bool once, .int .i64 calls] 64 (0, 0))] :: H) (fun w h => (((h.front (j := 2) rfl).front (j := 2) rfl).erase 2)) ?_
    refine GH_eff 10 (by kernel_rfl) (by kernel_rfl) (by kernel_rfl) ?_
    refine GL_lookup (i := 10) (ch := []) (kt := 9) (et := 73) (r := cb) (c := cc) (m := cm) (k := dir) (z := .slice none 0 0) (ov := none) rfl rfl (by kernel_rfl) (by kernel_rfl) (by kernel_rfl) (by kernel_rfl) (by kernel_rfl) (by kernel_rfl) (by kernel_rfl) (by kernel_rfl) (At.grp 3 0 rfl rfl) (fun _ => hg) ?_
    refine GH_back (by kernel_rfl) (fun w h => ((((h.front (j := 2) rfl).front (j := 2) rfl).front (j := 2) rfl).erase 3)) ?_
    refine GH_eff 13 (by kernel_rfl) (by kernel_rfl) (by kernel_rfl) ?_
    refine GL_heap rfl (H' := ([] :: [(b7, .cells #[.map (some q)] 72 (0, 0))] :: [(nb, .map (encM ((foldS (nm, nc) dn1).1)) ((foldS (nm, nc) dn1).2))] :: [(d, .cells #[.int .i64 room, bv, .map (some nb), .map (some kb), .map (some cb), .bool fails, .bool once, .int .i64 calls] 64 (0, 0))] :: [(cb, .map (encM cm) cc)] :: H)) (fun w h => h.flat (List.Perm.refl _)) ?_
    refine GL_append (i := 13) (ch := []) (t := 73) (tx := 73) (e := 72) (inf := Try.t72) (s := .slice none 0 0) (x := .slice (some ⟨b7, 0, none⟩) 1 1) (n := 0) (m := 1) (j := 0) (cs := []) (news := [.map (some q)]) (g := []) (S := (inG [(b7, .cells #[.map (some q)] 72 (0, 0))])) rfl rfl rfl rfl (by kernel_rfl) (by kernel_rfl) (by kernel_rfl) rfl rfl (.inl ⟨72, (by kernel_rfl)⟩) (fun ⟨_, h⟩ => by cases h) (fun _ => ⟨72, (by kernel_rfl)⟩) (by kernel_rfl) (by kernel_rfl) (by kernel_rfl) rfl Own.nil (SrcOf.slice _ _ _ _ Rd.lit (fun h => by cases h)) (at_inG 1 rfl) (by kernel_rfl) (by intro u hu; rcases List.mem_singleton.1 hu with rfl; rfl) (by omega) (by show (0 + 1) * 8 ≤ 140737488355328; omega) (fun v8 g9 hO10 => ?_)
    refine GH_back (by kernel_rfl) (fun w h => (((((h.front (j := 3) rfl).front (j := 3) rfl).front (j := 3) rfl).erase 4).erase 3)) ?_
    refine GH_more (g9 :: [(b7, .cells #[.map (some q)] 72 (0, 0))] :: [(nb, .map (encM ((foldS (nm, nc) dn1).1)) ((foldS (nm, nc) dn1).2))] :: [(d, .cells #[.int .i64 room, bv, .map (some nb), .map (some kb), .map (some cb), .bool fails, .bool once, .int .i64 calls] 64 (0, 0))] :: H) (fun w h => ((((h.front (j := 3) rfl).front (j := 3) rfl).front (j := 3) rfl).erase 3)) ?_
    refine GH_eff 14 (by kernel_rfl) (by kernel_rfl) (by kernel_rfl) ?_
    refine GL_mapPut (i := 14) (ch := []) (kt := 9) (et := 73) (r := cb) (c := cc) (j := 4) (q := 0) (m := cm) (k := dir) (v := v8) (H' := (g9 :: [(b7, .cells #[.map (some q)] 72 (0, 0))] :: [(nb, .map (encM ((foldS (nm, nc) dn1).1)) ((foldS (nm, nc) dn1).2))] :: [(d, .cells #[.int .i64 room, bv, .map (some nb), .map (some kb), .map (some cb), .bool fails, .bool once, .int .i64 calls] 64 (0, 0))] :: [(cb, .map (encM (mput cm cc dir (v8))) (if mhas cm dir then cc else cc + 1))] :: H)) rfl (.inl rfl) (by kernel_rfl) (by kernel_rfl) (by kernel_rfl) (by kernel_rfl) (by kernel_rfl) (by kernel_rfl) (by kernel_rfl) (by kernel_rfl) rfl rfl rfl ?_
    refine GH_back (by kernel_rfl) (fun w h => (((((h.front (j := 3) rfl).front (j := 3) rfl).front (j := 3) rfl).front (j := 3) rfl).erase 4)) ?_
    refine GH_done (E' := []) [] (by kernel_rfl) (by kernel_rfl) ?_
    refine N_heap (H' := ([(d, .cells #[.int .i64 room, bv, .map (some nb), .map (some kb), .map (some cb), .bool fails, .bool once, .int .i64 calls] 64 (0, 0))] :: [(nb, .map (encM ((foldS (nm, nc) dn1).1)) ((foldS (nm, nc) dn1).2))] :: [(cb, .map (encM (mput cm cc dir (v8))) (if mhas cm dir then cc else cc + 1))] :: g9 :: H)) (fun w h => ((((h.front (j := 4) rfl).front (j := 3) rfl).front (j := 4) rfl).erase 4)) ?_
    refine N_ret [] [] rfl (by kernel_rfl) rfl ?_
    exact ⟨_, _, g9, hdn2, hO10, rfl, rfl⟩
end Go.Proofs.Ytbmieiffboenbaa
namespace Go.Proofs.Ytbmieiffboenbaa
open Go.Sw Go.Lib Go.Vf Go.RowKit
theorem vSyncNo (d nb kb cb nc : Nat) (room calls : Int) (bv : Value) (fails once : Bool) (nm : SM) (path : ByteArray) (hpath : path.size ≤ 9223372036854775807) (hca : -9223372036854775808 ≤ calls ∧ calls ≤ 9223372036854775807) (hg : mget nm path = none) (W0 : World) (H : List Grp) : Tri Try.prog 14 #[pt d, .string path] W0 ([(d, .cells #[.int .i64 room, bv, .map (some nb), .map (some kb), .map (some cb), .bool fails, .bool once, .int .i64 calls] 64 (0, 0))] :: [(nb, .map (encM nm) nc)] :: H) (fun v H' => ((callS fails once calls (rightB path)).1 ≠ 0 ∧ v = .int .i64 (callS fails once calls (rightB path)).1 ∧ H' = ([(d, .cells #[.int .i64 room, bv, .map (some nb), .map (some kb), .map (some cb), .bool ((callS fails once calls (rightB path)).2.1), .bool once, .int .i64 ((callS fails once calls (rightB path)).2.2)] 64 (0, 0))] :: [(nb, .map (encM nm) nc)] :: H)) ∨ ((callS fails once calls (rightB path)).1 = 0 ∧ v = .int .i64 60 ∧ H' = ([(d, .cells #[.int .i64 room, bv, .map (some nb), .map (some kb), .map (some cb), .bool ((callS fails once calls (rightB path)).2.1), .bool once, .int .i64 ((callS fails once calls (rightB path)).2.2)] 64 (0, 0))] :: [(nb, .map (encM nm) nc)] :: H))) := by
  refine Tri_of (args := [pt d, .string path]) (n := 29) Try.func14 rfl rfl (Nat.le_of_ble_eq_true rfl) ?_
  refine G_seq ?_
  refine G_pure (E' := [⟨0, [], pt d⟩, ⟨1, [], .string path⟩]) [0] [0, 1] rfl (by kernel_rfl) ?_
  refine N_then ?_
  refine G_seq ?_
  refine G_seq ?_
  refine G_region ?_
  refine GL_pure (E' := [⟨8, [], .string path⟩, ⟨7, [], pt d⟩, ⟨0, [], pt d⟩, ⟨1, [], .string path⟩]) [0, 0] (by kernel_rfl) (j := 2) rfl ?_
  refine GL_callQ (i := 2) (ch := []) (f := 10) (fst := #[]) (caps := #[]) (vs := [.string path]) (v := .bool (rightB path)) rfl rfl rfl (by kernel_rfl) (by kernel_rfl) Try.func10 rfl rfl (by kernel_rfl) (by kernel_rfl) (by kernel_rfl) (fun _ => vfsRight _ hpath _ _) ?_
  refine GL_call (i := 3) (ch := []) (f := 34) (fst := #[]) (caps := #[]) (vs := [pt d, .bool (rightB path)]) rfl rfl rfl (by kernel_rfl) (by kernel_rfl) Try.func34 rfl rfl (by kernel_rfl) (by kernel_rfl) (chSure_of (by kernel_rfl)) (vCall d nb kb cb room calls bv fails once (rightB path) hca _ _) ?_
  rintro v H' ⟨rfl, rfl⟩
  refine GL_fin (E' := [⟨0, [], pt d⟩, ⟨1, [], .string path⟩, ⟨5, [], .int .i64 ((callS fails once calls (rightB path)).1)⟩]) [0] [0, 1, 5] rfl (by kernel_rfl) ?_
  refine N_then ?_
  refine G_seq ?_
  refine G_pure (E' := [⟨0, [], pt d⟩, ⟨1, [], .string path⟩, ⟨5, [], .int .i64 ((callS fails once calls (rightB path)).1)⟩, ⟨12, [], .bool (((callS fails once calls (rightB path)).1) != 0)⟩]) [0, 0] [0, 1, 5, 12] rfl (by kernel_rfl) ?_
  refine N_then ?_
  refine G_cond (b := ((callS fails once calls (rightB path)).1) != 0) (by kernel_rfl) (fun hc1 => ?_) (fun hc1 => ?_)
  ·
    have hce : (callS fails once calls (rightB path)).1 ≠ 0 := by simpa using hc1
    -- L err
    refine G_seq ?_
    refine G_pure (E' := [⟨4, [], .int .i64 ((callS fails once calls (rightB path)).1)⟩]) [0, 0] [4] rfl (by kernel_rfl) ?_
    refine N_then ?_
    refine G_ret ?_
    refine N_then_ret ?_
    refine N_ret [.tmp 4] [.int .i64 ((callS fails once calls (rightB path)).1)] rfl (by kernel_rfl) rfl ?_
    exact .inl ⟨hce, rfl, rfl⟩
  ·
    have hce : (callS fails once calls (rightB path)).1 = 0 := by simpa using hc1
    refine G_skip ?_
    refine N_then ?_
    refine G_seq ?_
    refine G_region ?_
    refine GL_pure (E' := [⟨16, [], .pointer (some ⟨d, 2, none⟩)⟩, ⟨1, [], .string path⟩]) [0, 0, 0] (by kernel_rfl) (j := 3) rfl ?_
    refine GL_load (i := 3) (ch := []) (b := d) (off := 2) (v := .map (some nb)) rfl rfl (by kernel_rfl) (by kernel_rfl) (by kernel_rfl) (by kernel_rfl) (by kernel_rfl) (At.grp 0 0 rfl rfl) rfl ?_
    refine GL_pure (E' := [⟨18, [], .string path⟩, ⟨17, [], .map (some nb)⟩]) [0] (by kernel_rfl) (j := 5) rfl ?_
    refine GL_lookup (i := 5) (ch := []) (kt := 9) (et := 66) (r := nb) (c := nc) (m := nm) (k := path) (z := .pointer none) (ov := none) rfl rfl (by kernel_rfl) (by kernel_rfl) (by kernel_rfl) (by kernel_rfl) (by kernel_rfl) (by kernel_rfl) (by kernel_rfl) (by kernel_rfl) (At.grp 1 0 rfl rfl) (fun _ => hg) ?_
    refine GL_fin (E' := [⟨6, [], .pointer none⟩]) [0] [6] rfl (by kernel_rfl) ?_
    refine N_then ?_
    refine G_seq ?_
    refine G_seq ?_
    refine G_pure (E' := [⟨6, [], .pointer none⟩, ⟨21, [], .bool true⟩]) [0, 0] [6, 21] rfl (by kernel_rfl) ?_
    refine N_then ?_
    refine G_condt (by kernel_rfl) ?_
    refine G_seq ?_
    refine G_pure (E' := [⟨4, [], .int .i64 60⟩]) [0] [4] rfl (by kernel_rfl) ?_
    refine N_then ?_
    refine G_ret ?_
    refine N_then_ret ?_
    refine N_ret [.tmp 4] [.int .i64 60] rfl (by kernel_rfl) rfl ?_
    exact .inr ⟨hce, rfl, rfl⟩
theorem vSyncYes (d nb kb cb nc : Nat) (room calls : Int) (bv : Value) (fails once : Bool) (nm : SM) (path : ByteArray) (hpath : path.size ≤ 9223372036854775807) (hca : -9223372036854775808 ≤ calls ∧ calls ≤ 9223372036854775807) (p n cn m ck : Nat) (an ak : Option Addr) (hg : mget nm path = some (.pointer (some ⟨p, 0, none⟩))) (W0 : World) (H : List Grp) : Tri Try.prog 14 #[pt d, .string path] W0 ([(d, .cells #[.int .i64 room, bv, .map (some nb), .map (some kb), .map (some cb), .bool fails, .bool once, .int .i64 calls] 64 (0, 0))] :: [(nb, .map (encM nm) nc)] :: [(p, .cells #[.slice an n cn, .slice ak m ck] 68 (0, 0))] :: H) (fun v H' => ((callS fails once calls (rightB path)).1 ≠ 0 ∧ v = .int .i64 (callS fails once calls (rightB path)).1 ∧ H' = ([(d, .cells #[.int .i64 room, bv, .map (some nb), .map (some kb), .map (some cb), .bool ((callS fails once calls (rightB path)).2.1), .bool once, .int .i64 ((callS fails once calls (rightB path)).2.2)] 64 (0, 0))] :: [(nb, .map (encM nm) nc)] :: [(p, .cells #[.slice an n cn, .slice ak m ck] 68 (0, 0))] :: H)) ∨ ((callS fails once calls (rightB path)).1 = 0 ∧ v = .int .i64 0 ∧ H' = ([(d, .cells #[.int .i64 room, bv, .map (some nb), .map (some kb), .map (some cb), .bool ((callS fails once calls (rightB path)).2.1), .bool once, .int .i64 ((callS fails once calls (rightB path)).2.2)] 64 (0, 0))] :: [(nb, .map (encM nm) nc)] :: [(p, .cells #[.slice an n cn, .slice an n cn] 68 (0, 0))] :: H))) := by
  refine Tri_of (args := [pt d, .string path]) (n := 29) Try.func14 rfl rfl (Nat.le_of_ble_eq_true rfl) ?_
  refine G_seq ?_
  refine G_pure (E' := [⟨0, [], pt d⟩, ⟨1, [], .string path⟩]) [0] [0, 1] rfl (by kernel_rfl) ?_
  refine N_then ?_
  refine G_seq ?_
  refine G_seq ?_
  refine G_region ?_
  refine GL_pure (E' := [⟨8, [], .string path⟩, ⟨7, [], pt d⟩, ⟨0, [], pt d⟩, ⟨1, [], .string path⟩]) [0, 0] (by kernel_rfl) (j := 2) rfl ?_
  refine GL_callQ (i := 2) (ch := []) (f := 10) (fst := #[]) (caps := #[]) (vs := [.string path]) (v := .bool (rightB path)) rfl rfl rfl (by kernel_rfl) (by kernel_rfl) Try.func10 rfl rfl (by kernel_rfl) (by kernel_rfl) (by kernel_rfl) (fun _ => vfsRight _ hpath _ _) ?_
  refine GL_call (i := 3) (ch := []) (f := 34) (fst := #[]) (caps := #[]) (vs := [pt d, .bool (rightB path)]) rfl rfl rfl (by kernel_rfl) (by kernel_rfl) Try.func34 rfl rfl (by kernel_rfl) (by kernel_rfl) (chSure_of (by kernel_rfl)) (vCall d nb kb cb room calls bv fails once (rightB path) hca _ _) ?_
  rintro v H' ⟨rfl, rfl⟩
  refine GL_fin (E' := [⟨0, [], pt d⟩, ⟨1, [], .string path⟩, ⟨5, [], .int .i64 ((callS fails once calls (rightB path)).1)⟩]) [0] [0, 1, 5] rfl (by kernel_rfl) ?_
  refine N_then ?_
  refine G_seq ?_
  refine G_pure (E' := [⟨0, [], pt d⟩, ⟨1, [], .string path⟩, ⟨5, [], .int .i64 ((callS fails once calls (rightB path)).1)⟩, ⟨12, [], .bool (((callS fails once calls (rightB path)).1) != 0)⟩]) [0, 0] [0, 1, 5, 12] rfl (by kernel_rfl) ?_
  refine N_then ?_
  refine G_cond (b := ((callS fails once calls (rightB path)).1) != 0) (by kernel_rfl) (fun hc1 => ?_) (fun hc1 => ?_)
  ·
    have hce : (callS fails once calls (rightB path)).1 ≠ 0 := by simpa using hc1
    -- L err
    refine G_seq ?_
    refine G_pure (E' := [⟨4, [], .int .i64 ((callS fails once calls (rightB path)).1)⟩]) [0, 0] [4] rfl (by kernel_rfl) ?_
    refine N_then ?_
    refine G_ret ?_
    refine N_then_ret ?_
    refine N_ret [.tmp 4] [.int .i64 ((callS fails once calls (rightB path)).1)] rfl (by kernel_rfl) rfl ?_
    exact .inl ⟨hce, rfl, rfl⟩
  ·
    have hce : (callS fails once calls (rightB path)).1 = 0 := by simpa using hc1
    refine G_skip ?_
    refine N_then ?_
    refine G_seq ?_
    refine G_region ?_
    refine GL_pure (E' := [⟨16, [], .pointer (some ⟨d, 2, none⟩)⟩, ⟨1, [], .string path⟩]) [0, 0, 0] (by kernel_rfl) (j := 3) rfl ?_
    refine GL_load (i := 3) (ch := []) (b := d) (off := 2) (v := .map (some nb)) rfl rfl (by kernel_rfl) (by kernel_rfl) (by kernel_rfl) (by kernel_rfl) (by kernel_rfl) (At.grp 0 0 rfl rfl) rfl ?_
    refine GL_pure (E' := [⟨18, [], .string path⟩, ⟨17, [], .map (some nb)⟩]) [0] (by kernel_rfl) (j := 5) rfl ?_
    refine GL_lookup (i := 5) (ch := []) (kt := 9) (et := 66) (r := nb) (c := nc) (m := nm) (k := path) (z := .pointer none) (ov := (some (pt p))) rfl rfl (by kernel_rfl) (by kernel_rfl) (by kernel_rfl) (by kernel_rfl) (by kernel_rfl) (by kernel_rfl) (by kernel_rfl) (by kernel_rfl) (At.grp 1 0 rfl rfl) (fun _ => hg) ?_
    refine GL_fin (E' := [⟨6, [], pt p⟩]) [0] [6] rfl (by kernel_rfl) ?_
    refine N_then ?_
    refine G_seq ?_
    refine G_seq ?_
    refine G_pure (E' := [⟨6, [], pt p⟩, ⟨21, [], .bool false⟩]) [0, 0] [6, 21] rfl (by kernel_rfl) ?_
    refine N_then ?_
    refine G_condf (by kernel_rfl) ?_
    refine G_skip ?_
    refine N_then ?_
    refine G_seq ?_
    refine G_region ?_
    refine GL_pure (E' := [⟨25, [], pt p⟩, ⟨22, [], pt p⟩]) [0, 0, 0, 0] (by kernel_rfl) (j := 4) rfl ?_
    refine GL_load (i := 4) (ch := []) (b := p) (off := 0) (v := .slice an n cn) rfl rfl (by kernel_rfl) (by kernel_rfl) (by kernel_rfl) (by kernel_rfl) (by kernel_rfl) (At.grp 2 0 rfl rfl) rfl ?_
    refine GL_pure (E' := [⟨28, [], .pointer (some ⟨p, 1, none⟩)⟩, ⟨26, [], .slice an n cn⟩]) [0, 0] (by kernel_rfl) (j := 7) rfl ?_
    refine GL_store (i := 7) (ch := []) (b := p) (off := 1) (v := .slice an n cn) (c := #[.slice an n cn, .slice ak m ck]) (c' := #[.slice an n cn, .slice an n cn]) (j := 2) (m := 0) (H' := ([(d, .cells #[.int .i64 room, bv, .map (some nb), .map (some kb), .map (some cb), .bool ((callS fails once calls (rightB path)).2.1), .bool once, .int .i64 ((callS fails once calls (rightB path)).2.2)] 64 (0, 0))] :: [(nb, .map (encM nm) nc)] :: [(p, .cells #[.slice an n cn, .slice an n cn] 68 (0, 0))] :: H)) rfl rfl (by kernel_rfl) (by kernel_rfl) (by kernel_rfl) (by kernel_rfl) (by kernel_rfl) (by kernel_rfl) (by kernel_rfl) rfl rfl (Nat.le_of_ble_eq_true rfl) (fun _ _ => thaw0) (by kernel_rfl) (by kernel_rfl) ?_
    refine GL_fin (E' := []) [] [] rfl (by kernel_rfl) ?_
    refine N_then ?_
    refine G_seq ?_
    refine G_pure (E' := [⟨4, [], .int .i64 0⟩]) [0] [4] rfl (by kernel_rfl) ?_
    refine N_then ?_
    refine G_ret ?_
    refine N_ret [.tmp 4] [.int .i64 0] rfl (by kernel_rfl) rfl ?_
    exact .inr ⟨hce, rfl, rfl⟩
theorem vRemoveNo (d nb kb cb nc : Nat) (room calls : Int) (bv : Value) (fails once : Bool) (nm cm : SM) (cc : Nat) (hn : MapOk nm nc) (path : ByteArray) (hpath : path.size ≤ 9223372036854775807) (hca : -9223372036854775808 ≤ calls ∧ calls ≤ 9223372036854775807) (hg : mget nm path = none) (W0 : World) (H : List Grp) : Tri Try.prog 43 #[pt d, .string path] W0 ([(d, .cells #[.int .i64 room, bv, .map (some nb), .map (some kb), .map (some cb), .bool fails, .bool once, .int .i64 calls] 64 (0, 0))] :: [(nb, .map (encM nm) nc)] :: [(cb, .map (encM cm) cc)] :: H) (fun v H' => ((callS fails once calls (rightB path)).1 ≠ 0 ∧ v = .int .i64 (callS fails once calls (rightB path)).1 ∧ H' = ([(d, .cells #[.int .i64 room, bv, .map (some nb), .map (some kb), .map (some cb), .bool ((callS fails once calls (rightB path)).2.1), .bool once, .int .i64 ((callS fails once calls (rightB path)).2.2)] 64 (0, 0))] :: [(nb, .map (encM nm) nc)] :: [(cb, .map (encM cm) cc)] :: H)) ∨ ((callS fails once calls (rightB path)).1 = 0 ∧ v = .int .i64 60 ∧ H' = ([(d, .cells #[.int .i64 room, bv, .map (some nb), .map (some kb), .map (some cb), .bool ((callS fails once calls (rightB path)).2.1), .bool once, .int .i64 ((callS fails once calls (rightB path)).2.2)] 64 (0, 0))] :: [(nb, .map (encM nm) nc)] :: [(cb, .map (encM cm) cc)] :: H))) := by
  refine Tri_of (args := [pt d, .string path]) (n := 27) Try.func43 rfl rfl (Nat.le_of_ble_eq_true rfl) ?_
  refine G_seq ?_
  refine G_pure (E' := [⟨0, [], pt d⟩, ⟨1, [], .string path⟩]) [0] [0, 1] rfl (by kernel_rfl) ?_
  refine N_then ?_
  refine G_seq ?_
  refine G_seq ?_
  refine G_region ?_
  refine GL_pure (E' := [⟨7, [], .string path⟩, ⟨6, [], pt d⟩, ⟨0, [], pt d⟩, ⟨1, [], .string path⟩]) [0, 0] (by kernel_rfl) (j := 2) rfl ?_
  refine GL_callQ (i := 2) (ch := []) (f := 10) (fst := #[]) (caps := #[]) (vs := [.string path]) (v := .bool (rightB path)) rfl rfl rfl (by kernel_rfl) (by kernel_rfl) Try.func10 rfl rfl (by kernel_rfl) (by kernel_rfl) (by kernel_rfl) (fun _ => vfsRight _ hpath _ _) ?_
  refine GL_call (i := 3) (ch := []) (f := 34) (fst := #[]) (caps := #[]) (vs := [pt d, .bool (rightB path)]) rfl rfl rfl (by kernel_rfl) (by kernel_rfl) Try.func34 rfl rfl (by kernel_rfl) (by kernel_rfl) (chSure_of (by kernel_rfl)) (vCall d nb kb cb room calls bv fails once (rightB path) hca _ _) ?_
  rintro v H' ⟨rfl, rfl⟩
  refine GL_fin (E' := [⟨0, [], pt d⟩, ⟨1, [], .string path⟩, ⟨5, [], .int .i64 ((callS fails once calls (rightB path)).1)⟩]) [0] [0, 1, 5] rfl (by kernel_rfl) ?_
  refine N_then ?_
  refine G_seq ?_
  refine G_pure (E' := [⟨0, [], pt d⟩, ⟨1, [], .string path⟩, ⟨5, [], .int .i64 ((callS fails once calls (rightB path)).1)⟩, ⟨11, [], .bool (((callS fails once calls (rightB path)).1) != 0)⟩]) [0, 0] [0, 1, 5, 11] rfl (by kernel_rfl) ?_
  refine N_then ?_
  refine G_cond (b := ((callS fails once calls (rightB path)).1) != 0) (by kernel_rfl) (fun hc1 => ?_) (fun hc1 => ?_)
  ·
    have hce : (callS fails once calls (rightB path)).1 ≠ 0 := by simpa using hc1
    -- L err
    refine G_seq ?_
    refine G_pure (E' := [⟨4, [], .int .i64 ((callS fails once calls (rightB path)).1)⟩]) [0, 0] [4] rfl (by kernel_rfl) ?_
    refine N_then ?_
    refine G_ret ?_
    refine N_then_ret ?_
    refine N_ret [.tmp 4] [.int .i64 ((callS fails once calls (rightB path)).1)] rfl (by kernel_rfl) rfl ?_
    exact .inl ⟨hce, rfl, rfl⟩
  ·
    have hce : (callS fails once calls (rightB path)).1 = 0 := by simpa using hc1
    refine G_skip ?_
    refine N_then ?_
    refine G_seq ?_
    refine G_seq ?_
    refine G_region ?_
    refine GL_pure (E' := [⟨15, [], .pointer (some ⟨d, 2, none⟩)⟩, ⟨0, [], pt d⟩, ⟨1, [], .string path⟩]) [0, 0, 0] (by kernel_rfl) (j := 3) rfl ?_
    refine GL_load (i := 3) (ch := []) (b := d) (off := 2) (v := .map (some nb)) rfl rfl (by kernel_rfl) (by kernel_rfl) (by kernel_rfl) (by kernel_rfl) (by kernel_rfl) (At.grp 0 0 rfl rfl) rfl ?_
    refine GL_pure (E' := [⟨17, [], .string path⟩, ⟨16, [], .map (some nb)⟩, ⟨0, [], pt d⟩, ⟨1, [], .string path⟩]) [0] (by kernel_rfl) (j := 5) rfl ?_
    refine GL_lookup (i := 5) (ch := []) (kt := 9) (et := 66) (r := nb) (c := nc) (m := nm) (k := path) (z := .pointer none) (ov := none) rfl rfl (by kernel_rfl) (by kernel_rfl) (by kernel_rfl) (by kernel_rfl) (by kernel_rfl) (by kernel_rfl) (by kernel_rfl) (by kernel_rfl) (At.grp 1 0 rfl rfl) (fun _ => hg) ?_
    refine GL_fin (E' := [⟨0, [], pt d⟩, ⟨1, [], .string path⟩, ⟨19, [], .bool true⟩]) [0] [0, 1, 19] rfl (by kernel_rfl) ?_
    refine N_then ?_
    refine G_condt (by kernel_rfl) ?_
    refine G_seq ?_
    refine G_pure (E' := [⟨4, [], .int .i64 60⟩]) [0] [4] rfl (by kernel_rfl) ?_
    refine N_then ?_
    refine G_ret ?_
    refine N_then_ret ?_
    refine N_ret [.tmp 4] [.int .i64 60] rfl (by kernel_rfl) rfl ?_
    exact .inr ⟨hce, rfl, rfl⟩
theorem vSyncDirNo (d nb kb cb kc cc : Nat) (room calls : Int) (bv : Value) (fails once : Bool) (km cm : SM) (dir : ByteArray) (hdir : dir.size ≤ 9223372036854775807) (hca : -9223372036854775808 ≤ calls ∧ calls ≤ 9223372036854775807) (hk : MapOk km kc) (hg : mget cm dir = none) (W0 : World) (H : List Grp) : Tri Try.prog 15 #[pt d, .string dir] W0 ([(d, .cells #[.int .i64 room, bv, .map (some nb), .map (some kb), .map (some cb), .bool fails, .bool once, .int .i64 calls] 64 (0, 0))] :: [(kb, .map (encM km) kc)] :: [(cb, .map (encM cm) cc)] :: H) (fun v H' => ((callS fails once calls ((dir.toList == (ByteArray.mk #[]).toList) || partB dir)).1 ≠ 0 ∧ v = .int .i64 (callS fails once calls ((dir.toList == (ByteArray.mk #[]).toList) || partB dir)).1 ∧ H' = ([(d, .cells #[.int .i64 room, bv, .map (some nb), .map (some kb), .map (some cb), .bool ((callS fails once calls ((dir.toList == (ByteArray.mk #[]).toList) || partB dir)).2.1), .bool once, .int .i64 ((callS fails once calls ((dir.toList == (ByteArray.mk #[]).toList) || partB dir)).2.2)] 64 (0, 0))] :: [(kb, .map (encM km) kc)] :: [(cb, .map (encM cm) cc)] :: H)) ∨ ((callS fails once calls ((dir.toList == (ByteArray.mk #[]).toList) || partB dir)).1 = 0 ∧ v = .int .i64 0 ∧ H' = ([(d, .cells #[.int .i64 room, bv, .map (some nb), .map (some kb), .map (some cb), .bool ((callS fails once calls ((dir.toList == (ByteArray.mk #[]).toList) || partB dir)).2.1), .bool once, .int .i64 ((callS fails once calls ((dir.toList == (ByteArray.mk #[]).toList) || partB dir)).2.2)] 64 (0, 0))] :: [(kb, .map (encM km) kc)] :: [(cb, .map (encM (mdel cm dir)) cc)] :: H))) := by
  refine Tri_of (args := [pt d, .string dir]) (n := 42) Try.func15 rfl rfl (Nat.le_of_ble_eq_true rfl) ?_
  refine G_seq ?_
  refine G_pure (E' := [⟨0, [], pt d⟩, ⟨1, [], .string dir⟩]) [0] [0, 1] rfl (by kernel_rfl) ?_
  refine N_then ?_
  refine G_seq ?_
  refine G_seq ?_
  refine G_region ?_
  refine GL_pure (E' := [⟨12, [(11, false)], .string dir⟩, ⟨11, [], .bool (dir.toList == (ByteArray.mk #[]).toList)⟩, ⟨8, [], pt d⟩, ⟨0, [], pt d⟩, ⟨1, [], .string dir⟩]) [0, 0, 0, 0, 0] (by kernel_rfl) (j := 5) rfl ?_
  refine GL_callQ (i := 5) (ch := [(11, false)]) (f := 32) (fst := #[]) (caps := #[]) (vs := [.string dir]) (v := .bool (partB dir)) rfl rfl rfl (by kernel_rfl) (by kernel_rfl) Try.func32 rfl rfl (by kernel_rfl) (by kernel_rfl) (by kernel_rfl) (fun hc => vfsPart _ hdir _ _) ?_
  refine GL_pure (E' := [⟨14, [], .bool ((dir.toList == (ByteArray.mk #[]).toList) || (partB dir))⟩, ⟨8, [], pt d⟩, ⟨0, [], pt d⟩, ⟨1, [], .string dir⟩]) [5] (by kernel_rfl) (j := 7) rfl ?_
  refine GL_call (i := 7) (ch := []) (f := 34) (fst := #[]) (caps := #[]) (vs := [pt d, .bool ((dir.toList == (ByteArray.mk #[]).toList) || (partB dir))]) rfl rfl rfl (by kernel_rfl) (by kernel_rfl) Try.func34 rfl rfl (by kernel_rfl) (by kernel_rfl) (chSure_of (by kernel_rfl)) (vCall d nb kb cb room calls bv fails once ((dir.toList == (ByteArray.mk #[]).toList) || (partB dir)) hca _ _) ?_
  rintro v H' ⟨rfl, rfl⟩
  refine GL_fin (E' := [⟨0, [], pt d⟩, ⟨1, [], .string dir⟩, ⟨5, [], .int .i64 ((callS fails once calls ((dir.toList == (ByteArray.mk #[]).toList) || (partB dir))).1)⟩]) [0] [0, 1, 5] rfl (by kernel_rfl) ?_
  refine N_then ?_
  refine G_seq ?_
  refine G_pure (E' := [⟨0, [], pt d⟩, ⟨1, [], .string dir⟩, ⟨5, [], .int .i64 ((callS fails once calls ((dir.toList == (ByteArray.mk #[]).toList) || (partB dir))).1)⟩, ⟨17, [], .bool (((callS fails once calls ((dir.toList == (ByteArray.mk #[]).toList) || (partB dir))).1) != 0)⟩]) [0, 0] [0, 1, 5, 17] rfl (by kernel_rfl) ?_
  refine N_then ?_
  refine G_cond (b := ((callS fails once calls ((dir.toList == (ByteArray.mk #[]).toList) || (partB dir))).1) != 0) (by kernel_rfl) (fun hc1 => ?_) (fun hc1 => ?_)
  ·
    have hce : (callS fails once calls ((dir.toList == (ByteArray.mk #[]).toList) || partB dir)).1 ≠ 0 := by simpa using hc1
    -- L err
    refine G_seq ?_
    refine G_pure (E' := [⟨4, [], .int .i64 ((callS fails once calls ((dir.toList == (ByteArray.mk #[]).toList) || (partB dir))).1)⟩]) [0, 0] [4] rfl (by kernel_rfl) ?_
    refine N_then ?_
    refine G_ret ?_
    refine N_then_ret ?_
    refine N_ret [.tmp 4] [.int .i64 ((callS fails once calls ((dir.toList == (ByteArray.mk #[]).toList) || (partB dir))).1)] rfl (by kernel_rfl) rfl ?_
    exact .inl ⟨hce, rfl, rfl⟩
  ·
    have hce : (callS fails once calls ((dir.toList == (ByteArray.mk #[]).toList) || partB dir)).1 = 0 := by simpa using hc1
    refine G_skip ?_
    refine N_then ?_
    refine G_seq ?_
    refine G_seq ?_
    refine G_region ?_
    refine GL_pure (E' := [⟨21, [], .pointer (some ⟨d, 4, none⟩)⟩, ⟨0, [], pt d⟩, ⟨1, [], .string dir⟩]) [0, 0, 0] (by kernel_rfl) (j := 3) rfl ?_
    refine GL_load (i := 3) (ch := []) (b := d) (off := 4) (v := .map (some cb)) rfl rfl (by kernel_rfl) (by kernel_rfl) (by kernel_rfl) (by kernel_rfl) (by kernel_rfl) (At.grp 0 0 rfl rfl) rfl ?_
    refine GL_pure (E' := [⟨23, [], .string dir⟩, ⟨22, [], .map (some cb)⟩, ⟨0, [], pt d⟩, ⟨1, [], .string dir⟩]) [0] (by kernel_rfl) (j := 5) rfl ?_
    refine GL_lookup (i := 5) (ch := []) (kt := 9) (et := 73) (r := cb) (c := cc) (m := cm) (k := dir) (z := .slice none 0 0) (ov := none) rfl rfl (by kernel_rfl) (by kernel_rfl) (by kernel_rfl) (by kernel_rfl) (by kernel_rfl) (by kernel_rfl) (by kernel_rfl) (by kernel_rfl) (At.grp 2 0 rfl rfl) (fun _ => hg) ?_
    refine GL_fin (E' := [⟨0, [], pt d⟩, ⟨1, [], .string dir⟩, ⟨24, [], .slice none 0 0⟩, ⟨25, [], .int .i64 0⟩, ⟨26, [], .int .i64 0⟩]) [0, 0] [0, 1, 24, 25, 26] rfl (by kernel_rfl) ?_
    refine N_then ?_
    refine G_block ?_
    refine G_loop (EI := (fun ξ : Unit => [⟨0, [], pt d⟩, ⟨1, [], .string dir⟩, ⟨24, [], .slice none 0 0⟩, ⟨25, [], .int .i64 0⟩, ⟨26, [], .int .i64 0⟩])) (HI := (fun ξ : Unit => ([(d, .cells #[.int .i64 room, bv, .map (some nb), .map (some kb), .map (some cb), .bool ((callS fails once calls ((dir.toList == (ByteArray.mk #[]).toList) || (partB dir))).2.1), .bool once, .int .i64 ((callS fails once calls ((dir.toList == (ByteArray.mk #[]).toList) || (partB dir))).2.2)] 64 (0, 0))] :: [(kb, .map (encM km) kc)] :: [(cb, .map (encM cm) cc)] :: H))) (Φ := (fun ξ : Unit => True)) (μ := (fun ξ : Unit => 0)) (s0 := (())) [0, 1, 24, 25, 26] (by kernel_rfl) rfl trivial ?_
    rintro u _
    refine G_seq ?_
    refine G_pure (E' := [⟨0, [], pt d⟩, ⟨1, [], .string dir⟩, ⟨24, [], .slice none 0 0⟩, ⟨25, [], .int .i64 0⟩, ⟨26, [], .int .i64 0⟩, ⟨27, [], .bool false⟩]) [0] [0, 1, 24, 25, 26, 27] rfl (by kernel_rfl) ?_
    refine N_then ?_
    refine G_seq ?_
    refine G_condf (by kernel_rfl) ?_
    refine G_exit ?_
    refine N_then_exit ?_
    refine N_then_exit ?_
    refine N_block_exit ?_
    refine N_then ?_
    refine G_seq ?_
    refine G_region ?_
    refine GL_pure (E' := [⟨39, [], .pointer (some ⟨d, 4, none⟩)⟩, ⟨1, [], .string dir⟩]) [0, 0, 0] (by kernel_rfl) (j := 3) rfl ?_
    refine GL_load (i := 3) (ch := []) (b := d) (off := 4) (v := .map (some cb)) rfl rfl (by kernel_rfl) (by kernel_rfl) (by kernel_rfl) (by kernel_rfl) (by kernel_rfl) (At.grp 0 0 rfl rfl) rfl ?_
    refine GL_pure (E' := [⟨41, [], .string dir⟩, ⟨40, [], .map (some cb)⟩]) [0] (by kernel_rfl) (j := 5) rfl ?_
    refine GL_delete (i := 5) (ch := []) (ts := #[61, 9]) (t := 61) (kt := 9) (et := 73) (r := cb) (c := cc) (j := 2) (q := 0) (m := cm) (k := dir) (H' := ([(d, .cells #[.int .i64 room, bv, .map (some nb), .map (some kb), .map (some cb), .bool ((callS fails once calls ((dir.toList == (ByteArray.mk #[]).toList) || (partB dir))).2.1), .bool once, .int .i64 ((callS fails once calls ((dir.toList == (ByteArray.mk #[]).toList) || (partB dir))).2.2)] 64 (0, 0))] :: [(kb, .map (encM km) kc)] :: [(cb, .map (encM (mdel cm dir)) cc)] :: H)) rfl rfl rfl rfl rfl (by kernel_rfl) (by kernel_rfl) (by kernel_rfl) (by kernel_rfl) (by kernel_rfl) (by kernel_rfl) rfl rfl rfl ?_
    refine GL_fin (E' := []) [] [] rfl (by kernel_rfl) ?_
    refine N_then ?_
    refine G_seq ?_
    refine G_pure (E' := [⟨4, [], .int .i64 0⟩]) [0] [4] rfl (by kernel_rfl) ?_
    refine N_then ?_
    refine G_ret ?_
    refine N_ret [.tmp 4] [.int .i64 0] rfl (by kernel_rfl) rfl ?_
    exact .inr ⟨hce, rfl, rfl⟩
end Go.Proofs.Ytbmieiffboenbaa
namespace Go.Proofs.Ytbmieiffboenbaa
open Go.Sw Go.Lib Go.Vf Go.RowKit
theorem vSyncDir (d nb kb cb kc cc : Nat) (room calls : Int) (bv : Value) (fails once : Bool) (km cm : SM) (dir : ByteArray) (hdir : dir.size ≤ 9223372036854775807) (hca : -9223372036854775808 ≤ calls ∧ calls ≤ 9223372036854775807) (hk : MapOk km kc) (ra : Option Addr) (rc : Nat) (S : Nat → Obj → Prop) (qs : List Nat) (xs : List SM) (xcs : List Nat) (hl : xs.length = qs.length) (hq : qs.length ≤ 1000000) (hrd : Rd S ra (qs.map fun q => Value.map (some q))) (hg : mget cm dir = some (.slice ra qs.length rc)) (W0 : World) (H : List Grp) (hS : ∀ y o, S y o → At W0 H y o) (hAll : ∀ i, i < qs.length → At W0 H (qs.getD i 0) (.map (encM (xs.getD i [])) (xcs.getD i 0)) ∧ MapOk (xs.getD i []) (xcs.getD i 0) ∧ ∀ e ∈ xs.getD i [], e.2.1 = .pointer none ∨ ∃ p, e.2.1 = .pointer (some ⟨p, 0, none⟩)) : Tri Try.prog 15 #[pt d, .string dir] W0 ([(d, .cells #[.int .i64 room, bv, .map (some nb), .map (some kb), .map (some cb), .bool fails, .bool once, .int .i64 calls] 64 (0, 0))] :: [(kb, .map (encM km) kc)] :: [(cb, .map (encM cm) cc)] :: H) (fun v H' => ((callS fails once calls ((dir.toList == (ByteArray.mk #[]).toList) || partB dir)).1 ≠ 0 ∧ v = .int .i64 (callS fails once calls ((dir.toList == (ByteArray.mk #[]).toList) || partB dir)).1 ∧ H' = ([(d, .cells #[.int .i64 room, bv, .map (some nb), .map (some kb), .map (some cb), .bool ((callS fails once calls ((dir.toList == (ByteArray.mk #[]).toList) || partB dir)).2.1), .bool once, .int .i64 ((callS fails once calls ((dir.toList == (ByteArray.mk #[]).toList) || partB dir)).2.2)] 64 (0, 0))] :: [(kb, .map (encM km) kc)] :: [(cb, .map (encM cm) cc)] :: H)) ∨ ((callS fails once calls ((dir.toList == (ByteArray.mk #[]).toList) || partB dir)).1 = 0 ∧ v = .int .i64 0 ∧ ∃ km1 kc1, MadeOf xs (km, kc) (km1, kc1) ∧ H' = ([(d, .cells #[.int .i64 room, bv, .map (some nb), .map (some kb), .map (some cb), .bool ((callS fails once calls ((dir.toList == (ByteArray.mk #[]).toList) || partB dir)).2.1), .bool once, .int .i64 ((callS fails once calls ((dir.toList == (ByteArray.mk #[]).toList) || partB dir)).2.2)] 64 (0, 0))] :: [(kb, .map (encM km1) kc1)] :: [(cb, .map (encM (mdel cm dir)) cc)] :: H))) := by
  refine Tri_of (args := [pt d, .string dir]) (n := 42) Try.func15 rfl rfl (Nat.le_of_ble_eq_true rfl) ?_
  refine G_seq ?_
  refine G_pure (E' := [⟨0, [], pt d⟩, ⟨1, [], .string dir⟩]) [0] [0, 1] rfl (by kernel_rfl) ?_
  refine N_then ?_
  refine G_seq ?_
  refine G_seq ?_
  refine G_region ?_
  refine GL_pure (E' := [⟨12, [(11, false)], .string dir⟩, ⟨11, [], .bool (dir.toList == (ByteArray.mk #[]).toList)⟩, ⟨8, [], pt d⟩, ⟨0, [], pt d⟩, ⟨1, [], .string dir⟩]) [0, 0, 0, 0, 0] (by kernel_rfl) (j := 5) rfl ?_
  refine GL_callQ (i := 5) (ch := [(11, false)]) (f := 32) (fst := #[]) (caps := #[]) (vs := [.string dir]) (v := .bool (partB dir)) rfl rfl rfl (by kernel_rfl) (by kernel_rfl) Try.func32 rfl rfl (by kernel_rfl) (by kernel_rfl) (by kernel_rfl) (fun hc => vfsPart _ hdir _ _) ?_
  refine GL_pure (E' := [⟨14, [], .bool ((dir.toList == (ByteArray.mk #[]).toList) || (partB dir))⟩, ⟨8, [], pt d⟩, ⟨0, [], pt d⟩, ⟨1, [], .string dir⟩]) [5] (by kernel_rfl) (j := 7) rfl ?_
  refine GL_call (i := 7) (ch := []) (f := 34) (fst := #[]) (caps := #[]) (vs := [pt d, .bool ((dir.toList == (ByteArray.mk #[]).toList) || (partB dir))]) rfl rfl rfl (by kernel_rfl) (by kernel_rfl) Try.func34 rfl rfl (by kernel_rfl) (by kernel_rfl) (chSure_of (by kernel_rfl)) (vCall d nb kb cb room calls bv fails once ((dir.toList == (ByteArray.mk #[]).toList) || (partB dir)) hca _ _) ?_
  rintro v H' ⟨rfl, rfl⟩
  refine GL_fin (E' := [⟨0, [], pt d⟩, ⟨1, [], .string dir⟩, ⟨5, [], .int .i64 ((callS fails once calls ((dir.toList == (ByteArray.mk #[]).toList) || (partB dir))).1)⟩]) [0] [0, 1, 5] rfl (by kernel_rfl) ?_
  refine N_then ?_
  refine G_seq ?_
  refine G_pure (E' := [⟨0, [], pt d⟩, ⟨1, [], .string dir⟩, ⟨5, [], .int .i64 ((callS fails once calls ((dir.toList == (ByteArray.mk #[]).toList) || (partB dir))).1)⟩, ⟨17, [], .bool (((callS fails once calls ((dir.toList == (ByteArray.mk #[]).toList) || (partB dir))).1) != 0)⟩]) [0, 0] [0, 1, 5, 17] rfl (by kernel_rfl) ?_
  refine N_then ?_
  refine G_cond (b := ((callS fails once calls ((dir.toList == (ByteArray.mk #[]).toList) || (partB dir))).1) != 0) (by kernel_rfl) (fun hc1 => ?_) (fun hc1 => ?_)
  ·
    have hce : (callS fails once calls ((dir.toList == (ByteArray.mk #[]).toList) || partB dir)).1 ≠ 0 := by simpa using hc1
    -- L err
    refine G_seq ?_
    refine G_pure (E' := [⟨4, [], .int .i64 ((callS fails once calls ((dir.toList == (ByteArray.mk #[]).toList) || (partB dir))).1)⟩]) [0, 0] [4] rfl (by kernel_rfl) ?_
    refine N_then ?_
    refine G_ret ?_
    refine N_then_ret ?_
    refine N_ret [.tmp 4] [.int .i64 ((callS fails once calls ((dir.toList == (ByteArray.mk #[]).toList) || (partB dir))).1)] rfl (by kernel_rfl) rfl ?_
    exact .inl ⟨hce, rfl, rfl⟩
  ·
    have hce : (callS fails once calls ((dir.toList == (ByteArray.mk #[]).toList) || partB dir)).1 = 0 := by simpa using hc1
    refine G_skip ?_
    refine N_then ?_
    refine G_seq ?_
    refine G_seq ?_
    refine G_region ?_
    refine GL_pure (E' := [⟨21, [], .pointer (some ⟨d, 4, none⟩)⟩, ⟨0, [], pt d⟩, ⟨1, [], .string dir⟩]) [0, 0, 0] (by kernel_rfl) (j := 3) rfl ?_
    refine GL_load (i := 3) (ch := []) (b := d) (off := 4) (v := .map (some cb)) rfl rfl (by kernel_rfl) (by kernel_rfl) (by kernel_rfl) (by kernel_rfl) (by kernel_rfl) (At.grp 0 0 rfl rfl) rfl ?_
    refine GL_pure (E' := [⟨23, [], .string dir⟩, ⟨22, [], .map (some cb)⟩, ⟨0, [], pt d⟩, ⟨1, [], .string dir⟩]) [0] (by kernel_rfl) (j := 5) rfl ?_
    refine GL_lookup (i := 5) (ch := []) (kt := 9) (et := 73) (r := cb) (c := cc) (m := cm) (k := dir) (z := .slice none 0 0) (ov := (some (.slice ra qs.length rc))) rfl rfl (by kernel_rfl) (by kernel_rfl) (by kernel_rfl) (by kernel_rfl) (by kernel_rfl) (by kernel_rfl) (by kernel_rfl) (by kernel_rfl) (At.grp 2 0 rfl rfl) (fun _ => hg) ?_
    refine GL_fin (E' := [⟨0, [], pt d⟩, ⟨1, [], .string dir⟩, ⟨24, [], .slice ra qs.length rc⟩, ⟨25, [], .int .i64 ((qs.length : Nat) : Int)⟩, ⟨26, [], .int .i64 0⟩]) [0, 0] [0, 1, 24, 25, 26] rfl (by kernel_rfl) ?_
    refine N_then ?_
    refine G_block ?_
    refine G_loop (EI := (fun ξ : Nat × SM × Nat => [⟨0, [], pt d⟩, ⟨1, [], .string dir⟩, ⟨24, [], .slice ra qs.length rc⟩, ⟨25, [], .int .i64 ((qs.length : Nat) : Int)⟩, ⟨26, [], .int .i64 ((ξ.1 : Nat) : Int)⟩])) (HI := (fun ξ : Nat × SM × Nat => ([(d, .cells #[.int .i64 room, bv, .map (some nb), .map (some kb), .map (some cb), .bool ((callS fails once calls ((dir.toList == (ByteArray.mk #[]).toList) || partB dir)).2.1), .bool once, .int .i64 ((callS fails once calls ((dir.toList == (ByteArray.mk #[]).toList) || partB dir)).2.2)] 64 (0, 0))] :: [(kb, .map (encM ξ.2.1) ξ.2.2)] :: [(cb, .map (encM cm) cc)] :: H))) (Φ := (fun ξ : Nat × SM × Nat => (ξ.1 ≤ qs.length) ∧ (MadeOf (xs.take ξ.1) (km, kc) (ξ.2.1, ξ.2.2)))) (μ := (fun ξ : Nat × SM × Nat => qs.length - ξ.1)) (s0 := (0, km, kc)) [0, 1, 24, 25, 26] (by kernel_rfl) (by rfl) ⟨(by omega), (by rfl)⟩ ?_
    rintro ⟨k, km1, kc1⟩ ⟨hkk, hR⟩
    refine G_seq ?_
    refine G_pure (E' := [⟨0, [], pt d⟩, ⟨1, [], .string dir⟩, ⟨24, [], .slice ra qs.length rc⟩, ⟨25, [], .int .i64 ((qs.length : Nat) : Int)⟩, ⟨26, [], .int .i64 ((k : Nat) : Int)⟩, ⟨27, [], .bool (decide (((k : Nat) : Int) < ((qs.length : Nat) : Int)))⟩]) [0] [0, 1, 24, 25, 26, 27] rfl (by kernel_rfl) ?_
    refine N_then ?_
    refine G_seq ?_
    refine G_cond (b := decide (((k : Nat) : Int) < ((qs.length : Nat) : Int))) (by kernel_rfl) (fun hc2 => ?_) (fun hc2 => ?_)
    ·
      simp at hc2
      refine G_skip ?_
      refine N_then ?_
      refine G_seq ?_
      refine G_block ?_
      refine G_seq ?_
      refine G_region ?_
      refine GL_indexAddr (i := 0) (ch := []) (a := ra) (len := qs.length) (cap := rc) (kd := .i64) (j := ((k : Nat) : Int)) (e := 72) (sz := 1) (S := S) (cs := (qs.map fun q => Value.map (some q))) rfl rfl (by kernel_rfl) (by kernel_rfl) (by kernel_rfl) (by kernel_rfl) (by kernel_rfl) (by kernel_rfl) (by kernel_rfl) hrd (fun _ => by exact ⟨by omega, by omega, maps_ne (k := k) (by omega)⟩) ?_
      refine GL_loadS (i := 1) (ch := []) (a := ra) (q := k * 1) (S := S) (cs := (qs.map fun q => Value.map (some q))) (v := .map (some (qs.getD k 0))) rfl rfl (by kernel_rfl) (by kernel_rfl) (by kernel_rfl) (by kernel_rfl) (by kernel_rfl) hrd (fun y o h => (At.cons (At.cons (At.cons (hS y o h))))) (fun _ => (by rw [Nat.mul_one]; exact map_at (by omega))) ?_
      refine GL_fin (E' := [⟨0, [], pt d⟩, ⟨1, [], .string dir⟩, ⟨7, [], .map (some (qs.getD k 0))⟩, ⟨24, [], .slice ra qs.length rc⟩, ⟨25, [], .int .i64 ((qs.length : Nat) : Int)⟩, ⟨26, [], .int .i64 ((k : Nat) : Int)⟩]) [0] [0, 1, 7, 24, 25, 26] rfl (by kernel_rfl) ?_
      refine N_then ?_
      refine G_region ?_
      refine GL_pure (E' := [⟨32, [], .pointer (some ⟨d, 3, none⟩)⟩, ⟨0, [], pt d⟩, ⟨1, [], .string dir⟩, ⟨7, [], .map (some (qs.getD k 0))⟩, ⟨24, [], .slice ra qs.length rc⟩, ⟨25, [], .int .i64 ((qs.length : Nat) : Int)⟩, ⟨26, [], .int .i64 ((k : Nat) : Int)⟩]) [0, 0, 0] (by kernel_rfl) (j := 3) rfl ?_
      refine GL_load (i := 3) (ch := []) (b := d) (off := 3) (v := .map (some kb)) rfl rfl (by kernel_rfl) (by kernel_rfl) (by kernel_rfl) (by kernel_rfl) (by kernel_rfl) (At.grp 0 0 rfl rfl) rfl ?_
      refine GL_pure (E' := [⟨34, [], .map (some (qs.getD k 0))⟩, ⟨33, [], .map (some kb)⟩, ⟨0, [], pt d⟩, ⟨1, [], .string dir⟩, ⟨24, [], .slice ra qs.length rc⟩, ⟨25, [], .int .i64 ((qs.length : Nat) : Int)⟩, ⟨26, [], .int .i64 ((k : Nat) : Int)⟩]) [0] (by kernel_rfl) (j := 5) rfl ?_
      refine GL_heap rfl (H' := ([(kb, .map (encM km1) kc1)] :: [(d, .cells #[.int .i64 room, bv, .map (some nb), .map (some kb), .map (some cb), .bool ((callS fails once calls ((dir.toList == (ByteArray.mk #[]).toList) || partB dir)).2.1), .bool once, .int .i64 ((callS fails once calls ((dir.toList == (ByteArray.mk #[]).toList) || partB dir)).2.2)] 64 (0, 0))] :: [(cb, .map (encM cm) cc)] :: H)) (fun w h => (h.front (j := 1) rfl)) ?_
      refine GL_call (i := 5) (ch := []) (f := 38) (fst := #[]) (caps := #[]) (vs := [.map (some kb), .map (some (qs.getD k 0))]) rfl rfl rfl (by kernel_rfl) (by kernel_rfl) Try.func38 rfl rfl (by kernel_rfl) (by kernel_rfl) (chSure_of (by kernel_rfl)) (vApply kb (qs.getD k 0) kc1 (xcs.getD k 0) km1 (xs.getD k []) (made_ok hR hk) (hAll k (by omega)).2.1 (hAll k (by omega)).2.2 _ _ (At.cons (At.cons (hAll k (by omega)).1))) ?_
      rintro v H' ⟨dn3, hdn4, rfl, rfl⟩
      refine GL_fin (E' := [⟨0, [], pt d⟩, ⟨1, [], .string dir⟩, ⟨24, [], .slice ra qs.length rc⟩, ⟨25, [], .int .i64 ((qs.length : Nat) : Int)⟩, ⟨26, [], .int .i64 ((k : Nat) : Int)⟩]) [] [0, 1, 24, 25, 26] rfl (by kernel_rfl) ?_
      refine N_block ?_
      refine N_then ?_
      have hw5 : IntKind.wrap .i64 (((k : Nat) : Int) + 1) = ((k : Nat) : Int) + 1 := w64 (by omega) (by omega)
      refine G_pure (E' := [⟨0, [], pt d⟩, ⟨1, [], .string dir⟩, ⟨24, [], .slice ra qs.length rc⟩, ⟨25, [], .int .i64 ((qs.length : Nat) : Int)⟩, ⟨26, [], .int .i64 (((k : Nat) : Int) + 1)⟩]) [0, 0] [0, 1, 24, 25, 26] rfl (Eq.trans (b := some [⟨0, [], pt d⟩, ⟨1, [], .string dir⟩, ⟨24, [], .slice ra qs.length rc⟩, ⟨25, [], .int .i64 ((qs.length : Nat) : Int)⟩, ⟨26, [], .int .i64 (IntKind.wrap .i64 (((k : Nat) : Int) + 1))⟩]) (by kernel_rfl) (by simp only [hw5])) ?_
      refine N_heap (H' := ([(d, .cells #[.int .i64 room, bv, .map (some nb), .map (some kb), .map (some cb), .bool ((callS fails once calls ((dir.toList == (ByteArray.mk #[]).toList) || partB dir)).2.1), .bool once, .int .i64 ((callS fails once calls ((dir.toList == (ByteArray.mk #[]).toList) || partB dir)).2.2)] 64 (0, 0))] :: [(kb, .map (encM ((foldS (km1, kc1) dn3).1)) ((foldS (km1, kc1) dn3).2))] :: [(cb, .map (encM cm) cc)] :: H)) (fun w h => (((h.front (j := 2) rfl).front (j := 1) rfl).front (j := 2) rfl)) ?_
      refine N_round (s' := (k + 1, (foldS (km1, kc1) dn3).1, (foldS (km1, kc1) dn3).2)) [0, 1, 24, 25, 26] (by kernel_rfl) rfl ⟨(by omega), (by rw [take_snoc (d := []) (by omega)]; exact made_snoc hdn4 hR)⟩ (by omega)
    ·
      simp at hc2
      refine G_exit ?_
      refine N_then_exit ?_
      refine N_then_exit ?_
      refine N_block_exit ?_
      refine N_then ?_
      refine G_seq ?_
      refine G_region ?_
      refine GL_pure (E' := [⟨39, [], .pointer (some ⟨d, 4, none⟩)⟩, ⟨1, [], .string dir⟩]) [0, 0, 0] (by kernel_rfl) (j := 3) rfl ?_
      refine GL_load (i := 3) (ch := []) (b := d) (off := 4) (v := .map (some cb)) rfl rfl (by kernel_rfl) (by kernel_rfl) (by kernel_rfl) (by kernel_rfl) (by kernel_rfl) (At.grp 0 0 rfl rfl) rfl ?_
      refine GL_pure (E' := [⟨41, [], .string dir⟩, ⟨40, [], .map (some cb)⟩]) [0] (by kernel_rfl) (j := 5) rfl ?_
      refine GL_delete (i := 5) (ch := []) (ts := #[61, 9]) (t := 61) (kt := 9) (et := 73) (r := cb) (c := cc) (j := 2) (q := 0) (m := cm) (k := dir) (H' := ([(d, .cells #[.int .i64 room, bv, .map (some nb), .map (some kb), .map (some cb), .bool ((callS fails once calls ((dir.toList == (ByteArray.mk #[]).toList) || partB dir)).2.1), .bool once, .int .i64 ((callS fails once calls ((dir.toList == (ByteArray.mk #[]).toList) || partB dir)).2.2)] 64 (0, 0))] :: [(kb, .map (encM km1) kc1)] :: [(cb, .map (encM (mdel cm dir)) cc)] :: H)) rfl rfl rfl rfl rfl (by kernel_rfl) (by kernel_rfl) (by kernel_rfl) (by kernel_rfl) (by kernel_rfl) (by kernel_rfl) rfl rfl rfl ?_
      refine GL_fin (E' := []) [] [] rfl (by kernel_rfl) ?_
      refine N_then ?_
      refine G_seq ?_
      refine G_pure (E' := [⟨4, [], .int .i64 0⟩]) [0] [4] rfl (by kernel_rfl) ?_
      refine N_then ?_
      refine G_ret ?_
      refine N_ret [.tmp 4] [.int .i64 0] rfl (by kernel_rfl) rfl ?_
      have hkl : k = xs.length := by omega
      rw [hkl, List.take_length] at hR
      exact .inr ⟨hce, rfl, km1, kc1, hR, rfl⟩
theorem vNext0 (kp cap : Nat) (a : Option Addr) (n : Int) (hn : 0 < n ∧ n ≤ 1000000000000) (W0 : World) (H : List Grp) : Tri Try.prog 39 #[.int .i64 n, pt kp] W0 ([(kp, .cells #[.slice a 0 cap] 25 (0, 0))] :: H) (fun v H' => v = .int .i64 (nextK 0 n) ∧ H' = ([(kp, .cells #[.slice a 0 cap] 25 (0, 0))] :: H)) := by
  refine Tri_of (args := [.int .i64 n, pt kp]) (n := 20) Try.func39 rfl rfl (Nat.le_of_ble_eq_true rfl) ?_
  refine G_seq ?_
  refine G_pure (E' := [⟨0, [], .int .i64 n⟩, ⟨1, [], pt kp⟩]) [0] [0, 1] rfl (by kernel_rfl) ?_
  refine N_then ?_
  refine G_seq ?_
  refine G_pure (E' := [⟨0, [], .int .i64 n⟩, ⟨1, [], pt kp⟩, ⟨4, [], .int .i64 0⟩]) [0] [0, 1, 4] rfl (by kernel_rfl) ?_
  refine N_then ?_
  refine G_seq ?_
  refine G_seq ?_
  refine G_region ?_
  refine GL_load (i := 0) (ch := []) (b := kp) (off := 0) (v := .slice a 0 cap) rfl rfl (by kernel_rfl) (by kernel_rfl) (by kernel_rfl) (by kernel_rfl) (by kernel_rfl) (At.grp 0 0 rfl rfl) rfl ?_
  refine GL_fin (E' := [⟨0, [], .int .i64 n⟩, ⟨1, [], pt kp⟩, ⟨4, [], .int .i64 0⟩, ⟨7, [], .bool false⟩]) [0, 0] [0, 1, 4, 7] rfl (by kernel_rfl) ?_
  refine N_then ?_
  refine G_condf (by kernel_rfl) ?_
  refine G_skip ?_
  refine N_then ?_
  refine G_seq ?_
  refine G_region ?_
  refine GL_pure (E' := [⟨14, [], .int .i64 n⟩, ⟨13, [], .int .i64 0⟩, ⟨0, [], .int .i64 n⟩]) [0, 0] (by kernel_rfl) (j := 2) rfl ?_
  refine GL_rem (i := 2) (ch := []) (kd := .i64) (a := 0) (b := n) rfl rfl (by kernel_rfl) (by kernel_rfl) (by kernel_rfl) (by kernel_rfl) (by kernel_rfl) (fun _ => by omega) ?_
  refine GL_pure (E' := [⟨18, [], .int .i64 n⟩, ⟨17, [], .int .i64 (IntKind.wrap .i64 ((Int.tmod 0 n) + n))⟩]) [0, 0, 0] (by kernel_rfl) (j := 6) rfl ?_
  refine GL_rem (i := 6) (ch := []) (kd := .i64) (a := IntKind.wrap .i64 ((Int.tmod 0 n) + n)) (b := n) rfl rfl (by kernel_rfl) (by kernel_rfl) (by kernel_rfl) (by kernel_rfl) (by kernel_rfl) (fun _ => by omega) ?_
  refine GL_fin (E' := [⟨3, [], .int .i64 (Int.tmod (IntKind.wrap .i64 ((Int.tmod 0 n) + n)) n)⟩]) [0] [3] rfl (by kernel_rfl) ?_
  refine N_then ?_
  refine G_ret ?_
  refine N_ret [.tmp 3] [.int .i64 (Int.tmod (IntKind.wrap .i64 ((Int.tmod 0 n) + n)) n)] rfl (by kernel_rfl) rfl ?_
  exact ⟨by rw [next_is hn.1 hn.2 (by omega) (by omega)]; rfl, rfl⟩
theorem vNext (kp : Nat) (n : Int) (hn : 0 < n ∧ n ≤ 1000000000000) (a : Option Addr) (m cap : Nat) (S : Nat → Obj → Prop) (k : Int) (hk : -9223372036854775808 ≤ k ∧ k ≤ 9223372036854775807) (r : List Int) (hm : m = r.length + 1) (hc : m ≤ cap) (hm2 : m ≤ 1000000000) (hrd : Rd S a ((k :: r).map (Value.int .i64))) (W0 : World) (H : List Grp) (hS : ∀ y o, S y o → At W0 H y o) : Tri Try.prog 39 #[.int .i64 n, pt kp] W0 ([(kp, .cells #[.slice a m cap] 25 (0, 0))] :: H) (fun v H' => v = .int .i64 (nextK k n) ∧ H' = ([(kp, .cells #[.slice (cutA a cap 1 1) (m - 1) (cap - 1)] 25 (0, 0))] :: H)) := by
  refine Tri_of (args := [.int .i64 n, pt kp]) (n := 20) Try.func39 rfl rfl (Nat.le_of_ble_eq_true rfl) ?_
  refine G_seq ?_
  refine G_pure (E' := [⟨0, [], .int .i64 n⟩, ⟨1, [], pt kp⟩]) [0] [0, 1] rfl (by kernel_rfl) ?_
  refine N_then ?_
  refine G_seq ?_
  refine G_pure (E' := [⟨0, [], .int .i64 n⟩, ⟨1, [], pt kp⟩, ⟨4, [], .int .i64 0⟩]) [0] [0, 1, 4] rfl (by kernel_rfl) ?_
  refine N_then ?_
  refine G_seq ?_
  refine G_seq ?_
  refine G_region ?_
  refine GL_load (i := 0) (ch := []) (b := kp) (off := 0) (v := .slice a m cap) rfl rfl (by kernel_rfl) (by kernel_rfl) (by kernel_rfl) (by kernel_rfl) (by kernel_rfl) (At.grp 0 0 rfl rfl) rfl ?_
  refine GL_fin (E' := [⟨0, [], .int .i64 n⟩, ⟨1, [], pt kp⟩, ⟨4, [], .int .i64 0⟩, ⟨7, [], .bool (decide (((m : Nat) : Int) > 0))⟩]) [0, 0] [0, 1, 4, 7] rfl (by kernel_rfl) ?_
  refine N_then ?_
  refine G_cond (b := decide (((m : Nat) : Int) > 0)) (by kernel_rfl) (fun hc1 => ?_) (fun hc1 => ?_)
  ·
    skip
    refine G_regionH H (by kernel_rfl) ?_
    refine GH_eff2 0 3 (by kernel_rfl) (by kernel_rfl) (by kernel_rfl) (by kernel_rfl) (by kernel_rfl) ?_ ?_
    ·
      refine GL_load (i := 0) (ch := []) (b := kp) (off := 0) (v := .slice a m cap) rfl rfl (by kernel_rfl) (by kernel_rfl) (by kernel_rfl) (by kernel_rfl) (by kernel_rfl) (At.grp 0 0 rfl rfl) rfl ?_
      refine GH_back (by kernel_rfl) (fun w h => (h.erase 0)) ?_
      refine GH_take' (E' := [⟨9, [], .pointer (some (eltA a (0 * 1)))⟩, ⟨8, [], .slice a m cap⟩, ⟨0, [], .int .i64 n⟩, ⟨1, [], pt kp⟩, ⟨4, [], .int .i64 0⟩, ⟨7, [], .bool (decide (((m : Nat) : Int) > 0))⟩]) 1 (by kernel_rfl) (fun w h => (h.erase 0)) ?_ ?_
      ·
        refine GL_indexAddr (i := 1) (ch := []) (a := a) (len := m) (cap := cap) (kd := .i64) (j := 0) (e := 3) (sz := 1) (S := S) (cs := ((k :: r).map (Value.int .i64))) rfl rfl (by kernel_rfl) (by kernel_rfl) (by kernel_rfl) (by kernel_rfl) (by kernel_rfl) (by kernel_rfl) (by kernel_rfl) hrd (fun _ => by exact ⟨by omega, by omega, by simp⟩) ?_
        exact GL_yend (by kernel_rfl) (by kernel_rfl)
      refine GH_take' (E' := [⟨10, [], .int .i64 k⟩, ⟨9, [], .pointer (some (eltA a (0 * 1)))⟩, ⟨8, [], .slice a m cap⟩, ⟨0, [], .int .i64 n⟩, ⟨1, [], pt kp⟩, ⟨4, [], .int .i64 0⟩, ⟨7, [], .bool (decide (((m : Nat) : Int) > 0))⟩]) 2 (by kernel_rfl) (fun w h => (h.erase 0)) ?_ ?_
      ·
        refine GL_loadS (i := 2) (ch := []) (a := a) (q := 0 * 1) (S := S) (cs := ((k :: r).map (Value.int .i64))) (v := .int .i64 k) rfl rfl (by kernel_rfl) (by kernel_rfl) (by kernel_rfl) (by kernel_rfl) (by kernel_rfl) hrd (fun y o h => (hS y o h)) (fun _ => rfl) ?_
        exact GL_yend (by kernel_rfl) (by kernel_rfl)
      refine GH_pure (E' := [⟨4, [], .int .i64 k⟩, ⟨0, [], .int .i64 n⟩, ⟨1, [], pt kp⟩]) 5 0 (by kernel_rfl) (fun w h => (h.erase 0)) (by kernel_rfl) ?_
      refine GH_eff 3 (by kernel_rfl) (by kernel_rfl) (by kernel_rfl) ?_
      refine GL_load (i := 3) (ch := []) (b := kp) (off := 0) (v := .slice a m cap) rfl rfl (by kernel_rfl) (by kernel_rfl) (by kernel_rfl) (by kernel_rfl) (by kernel_rfl) (At.grp 0 0 rfl rfl) rfl ?_
      refine GH_back (by kernel_rfl) (fun w h => (h.erase 0)) ?_
      refine GH_take' (E' := [⟨12, [], .slice (cutA a cap 1 1) (m - 1) (cap - 1)⟩, ⟨11, [], .slice a m cap⟩, ⟨4, [], .int .i64 k⟩, ⟨0, [], .int .i64 n⟩, ⟨1, [], pt kp⟩]) 4 (by kernel_rfl) (fun w h => (h.erase 0)) ?_ ?_
      ·
        refine GL_sliceL (i := 4) (ch := []) (a := a) (len := m) (cap := cap) (e := 3) (sz := 1) (vl := (some (.int .i64 1))) (vh := none) (l := 1) (h := ((m : Nat) : Int)) rfl rfl (by kernel_rfl) (by kernel_rfl) (by kernel_rfl) (by kernel_rfl) (by kernel_rfl) (by kernel_rfl) (by kernel_rfl) (by kernel_rfl) (by kernel_rfl) (by kernel_rfl) (by intro _; omega) ?_
        exact GL_yend (by kernel_rfl) (by kernel_rfl)
      refine GH_eff 6 (by kernel_rfl) (by kernel_rfl) (by kernel_rfl) ?_
      refine GL_store (i := 6) (ch := []) (b := kp) (off := 0) (v := .slice (cutA a cap 1 1) (m - 1) (cap - 1)) (c := #[.slice a m cap]) (c' := #[.slice (cutA a cap 1 1) (m - 1) (cap - 1)]) (j := 0) (m := 0) (H' := ([(kp, .cells #[.slice (cutA a cap 1 1) (m - 1) (cap - 1)] 25 (0, 0))] :: H)) rfl rfl (by kernel_rfl) (by kernel_rfl) (by kernel_rfl) (by kernel_rfl) (by kernel_rfl) (by kernel_rfl) (by kernel_rfl) rfl rfl (Nat.le_of_ble_eq_true rfl) (fun _ _ => thaw0) (by kernel_rfl) (by kernel_rfl) ?_
      refine GH_back (by kernel_rfl) (fun w h => (h.erase 0)) ?_
      refine GH_done (E' := [⟨0, [], .int .i64 n⟩, ⟨4, [], .int .i64 k⟩]) [0, 4] (by kernel_rfl) (by kernel_rfl) ?_
      refine N_then ?_
      refine G_seq ?_
      refine G_region ?_
      refine GL_pure (E' := [⟨14, [], .int .i64 n⟩, ⟨13, [], .int .i64 k⟩, ⟨0, [], .int .i64 n⟩]) [0, 0] (by kernel_rfl) (j := 2) rfl ?_
      refine GL_rem (i := 2) (ch := []) (kd := .i64) (a := k) (b := n) rfl rfl (by kernel_rfl) (by kernel_rfl) (by kernel_rfl) (by kernel_rfl) (by kernel_rfl) (fun _ => by omega) ?_
      refine GL_pure (E' := [⟨18, [], .int .i64 n⟩, ⟨17, [], .int .i64 (IntKind.wrap .i64 ((Int.tmod k n) + n))⟩]) [0, 0, 0] (by kernel_rfl) (j := 6) rfl ?_
      refine GL_rem (i := 6) (ch := []) (kd := .i64) (a := IntKind.wrap .i64 ((Int.tmod k n) + n)) (b := n) rfl rfl (by kernel_rfl) (by kernel_rfl) (by kernel_rfl) (by kernel_rfl) (by kernel_rfl) (fun _ => by omega) ?_
      refine GL_fin (E' := [⟨3, [], .int .i64 (Int.tmod (IntKind.wrap .i64 ((Int.tmod k n) + n)) n)⟩]) [0] [3] rfl (by kernel_rfl) ?_
      refine N_then ?_
      refine G_ret ?_
      refine N_ret [.tmp 3] [.int .i64 (Int.tmod (IntKind.wrap .i64 ((Int.tmod k n) + n)) n)] rfl (by kernel_rfl) rfl ?_
      exact ⟨by rw [next_is hn.1 hn.2 hk.1 hk.2]; rfl, rfl⟩
    ·
      refine GL_load (i := 3) (ch := []) (b := kp) (off := 0) (v := .slice a m cap) rfl rfl (by kernel_rfl) (by kernel_rfl) (by kernel_rfl) (by kernel_rfl) (by kernel_rfl) (At.grp 0 0 rfl rfl) rfl ?_
      refine GH_back (by kernel_rfl) (fun w h => (h.erase 0)) ?_
      refine GH_take' (E' := [⟨12, [], .slice (cutA a cap 1 1) (m - 1) (cap - 1)⟩, ⟨11, [], .slice a m cap⟩, ⟨0, [], .int .i64 n⟩, ⟨1, [], pt kp⟩, ⟨4, [], .int .i64 0⟩, ⟨7, [], .bool (decide (((m : Nat) : Int) > 0))⟩]) 4 (by kernel_rfl) (fun w h => (h.erase 0)) ?_ ?_
      ·
        refine GL_sliceL (i := 4) (ch := []) (a := a) (len := m) (cap := cap) (e := 3) (sz := 1) (vl := (some (.int .i64 1))) (vh := none) (l := 1) (h := ((m : Nat) : Int)) rfl rfl (by kernel_rfl) (by kernel_rfl) (by kernel_rfl) (by kernel_rfl) (by kernel_rfl) (by kernel_rfl) (by kernel_rfl) (by kernel_rfl) (by kernel_rfl) (by kernel_rfl) (by intro _; omega) ?_
        exact GL_yend (by kernel_rfl) (by kernel_rfl)
      refine GH_eff 0 (by kernel_rfl) (by kernel_rfl) (by kernel_rfl) ?_
      refine GL_load (i := 0) (ch := []) (b := kp) (off := 0) (v := .slice a m cap) rfl rfl (by kernel_rfl) (by kernel_rfl) (by kernel_rfl) (by kernel_rfl) (by kernel_rfl) (At.grp 0 0 rfl rfl) rfl ?_
      refine GH_back (by kernel_rfl) (fun w h => (h.erase 0)) ?_
      refine GH_take' (E' := [⟨9, [], .pointer (some (eltA a (0 * 1)))⟩, ⟨8, [], .slice a m cap⟩, ⟨12, [], .slice (cutA a cap 1 1) (m - 1) (cap - 1)⟩, ⟨11, [], .slice a m cap⟩, ⟨0, [], .int .i64 n⟩, ⟨1, [], pt kp⟩, ⟨4, [], .int .i64 0⟩, ⟨7, [], .bool (decide (((m : Nat) : Int) > 0))⟩]) 1 (by kernel_rfl) (fun w h => (h.erase 0)) ?_ ?_
      ·
        refine GL_indexAddr (i := 1) (ch := []) (a := a) (len := m) (cap := cap) (kd := .i64) (j := 0) (e := 3) (sz := 1) (S := S) (cs := ((k :: r).map (Value.int .i64))) rfl rfl (by kernel_rfl) (by kernel_rfl) (by kernel_rfl) (by kernel_rfl) (by kernel_rfl) (by kernel_rfl) (by kernel_rfl) hrd (fun _ => by exact ⟨by omega, by omega, by simp⟩) ?_
        exact GL_yend (by kernel_rfl) (by kernel_rfl)
      refine GH_take' (E' := [⟨10, [], .int .i64 k⟩, ⟨9, [], .pointer (some (eltA a (0 * 1)))⟩, ⟨8, [], .slice a m cap⟩, ⟨12, [], .slice (cutA a cap 1 1) (m - 1) (cap - 1)⟩, ⟨11, [], .slice a m cap⟩, ⟨0, [], .int .i64 n⟩, ⟨1, [], pt kp⟩, ⟨4, [], .int .i64 0⟩, ⟨7, [], .bool (decide (((m : Nat) : Int) > 0))⟩]) 2 (by kernel_rfl) (fun w h => (h.erase 0)) ?_ ?_
      ·
        refine GL_loadS (i := 2) (ch := []) (a := a) (q := 0 * 1) (S := S) (cs := ((k :: r).map (Value.int .i64))) (v := .int .i64 k) rfl rfl (by kernel_rfl) (by kernel_rfl) (by kernel_rfl) (by kernel_rfl) (by kernel_rfl) hrd (fun y o h => (hS y o h)) (fun _ => rfl) ?_
        exact GL_yend (by kernel_rfl) (by kernel_rfl)
      refine GH_pure (E' := [⟨4, [], .int .i64 k⟩, ⟨12, [], .slice (cutA a cap 1 1) (m - 1) (cap - 1)⟩, ⟨0, [], .int .i64 n⟩, ⟨1, [], pt kp⟩]) 5 0 (by kernel_rfl) (fun w h => (h.erase 0)) (by kernel_rfl) ?_
      refine GH_eff 6 (by kernel_rfl) (by kernel_rfl) (by kernel_rfl) ?_
      refine GL_store (i := 6) (ch := []) (b := kp) (off := 0) (v := .slice (cutA a cap 1 1) (m - 1) (cap - 1)) (c := #[.slice a m cap]) (c' := #[.slice (cutA a cap 1 1) (m - 1) (cap - 1)]) (j := 0) (m := 0) (H' := ([(kp, .cells #[.slice (cutA a cap 1 1) (m - 1) (cap - 1)] 25 (0, 0))] :: H)) rfl rfl (by kernel_rfl) (by kernel_rfl) (by kernel_rfl) (by kernel_rfl) (by kernel_rfl) (by kernel_rfl) (by kernel_rfl) rfl rfl (Nat.le_of_ble_eq_true rfl) (fun _ _ => thaw0) (by kernel_rfl) (by kernel_rfl) ?_
      refine GH_back (by kernel_rfl) (fun w h => (h.erase 0)) ?_
      refine GH_done (E' := [⟨0, [], .int .i64 n⟩, ⟨4, [], .int .i64 k⟩]) [0, 4] (by kernel_rfl) (by kernel_rfl) ?_
      refine N_then ?_
      refine G_seq ?_
      refine G_region ?_
      refine GL_pure (E' := [⟨14, [], .int .i64 n⟩, ⟨13, [], .int .i64 k⟩, ⟨0, [], .int .i64 n⟩]) [0, 0] (by kernel_rfl) (j := 2) rfl ?_
      refine GL_rem (i := 2) (ch := []) (kd := .i64) (a := k) (b := n) rfl rfl (by kernel_rfl) (by kernel_rfl) (by kernel_rfl) (by kernel_rfl) (by kernel_rfl) (fun _ => by omega) ?_
      refine GL_pure (E' := [⟨18, [], .int .i64 n⟩, ⟨17, [], .int .i64 (IntKind.wrap .i64 ((Int.tmod k n) + n))⟩]) [0, 0, 0] (by kernel_rfl) (j := 6) rfl ?_
      refine GL_rem (i := 6) (ch := []) (kd := .i64) (a := IntKind.wrap .i64 ((Int.tmod k n) + n)) (b := n) rfl rfl (by kernel_rfl) (by kernel_rfl) (by kernel_rfl) (by kernel_rfl) (by kernel_rfl) (fun _ => by omega) ?_
      refine GL_fin (E' := [⟨3, [], .int .i64 (Int.tmod (IntKind.wrap .i64 ((Int.tmod k n) + n)) n)⟩]) [0] [3] rfl (by kernel_rfl) ?_
      refine N_then ?_
      refine G_ret ?_
      refine N_ret [.tmp 3] [.int .i64 (Int.tmod (IntKind.wrap .i64 ((Int.tmod k n) + n)) n)] rfl (by kernel_rfl) rfl ?_
      exact ⟨by rw [next_is hn.1 hn.2 hk.1 hk.2]; rfl, rfl⟩
  ·
    simp at hc1; omega
end Go.Proofs.Ytbmieiffboenbaa
namespace Go.Proofs
open Go.Shelf
def Try.lays190_ren : Go.Shelf.Ren := ⟨fun | 190 => 44 | 125 => 62 | 258 => 61 | 128 => 78 | 129 => 79 | 302 => 69 | 303 => 70 | 304 => 71 | 305 => 72 | 306 => 73 | 307 => 74 | 308 => 75 | 309 => 76 | 310 => 77 | 333 => 85 | 329 => 86 | 330 => 87 | 334 => 88 | 335 => 89 | 336 => 90 | 344 => 92 | n => n, fun | 31 => 39 | 9 => 9 | 3 => 3 | 46 => 32 | 0 => 0 | 51 => 116 | 53 => 118 | 4 => 4 | 183 => 108 | 182 => 107 | 131 => 113 | 5 => 5 | 218 => 120 | 222 => 124 | 228 => 128 | 229 => 129 | n => n, fun | n => n⟩
theorem Try.lays190 : Go.Proofs.Lays.n190 Try.prog Try.lays190_ren := {
  mixed := by kernel_rfl
  f125 := Try.func62.trans (congrArg some (by kernel_rfl))
  f128 := Try.func78.trans (congrArg some (by kernel_rfl))
  f129 := Try.func79.trans (congrArg some (by kernel_rfl))
  f190 := Try.func44.trans (congrArg some (by kernel_rfl))
  f258 := Try.func61.trans (congrArg some (by kernel_rfl))
  f302 := Try.func69.trans (congrArg some (by kernel_rfl))
  f303 := Try.func70.trans (congrArg some (by kernel_rfl))
  f304 := Try.func71.trans (congrArg some (by kernel_rfl))
  f305 := Try.func72.trans (congrArg some (by kernel_rfl))
  f306 := Try.func73.trans (congrArg some (by kernel_rfl))
  f307 := Try.func74.trans (congrArg some (by kernel_rfl))
  f308 := Try.func75.trans (congrArg some (by kernel_rfl))
  f309 := Try.func76.trans (congrArg some (by kernel_rfl))
  f310 := Try.func77.trans (congrArg some (by kernel_rfl))
  f329 := Try.func86.trans (congrArg some (by kernel_rfl))
  f330 := Try.func87.trans (congrArg some (by kernel_rfl))
  f333 := Try.func85.trans (congrArg some (by kernel_rfl))
  f334 := Try.func88.trans (congrArg some (by kernel_rfl))
  f335 := Try.func89.trans (congrArg some (by kernel_rfl))
  f336 := Try.func90.trans (congrArg some (by kernel_rfl))
  f344 := Try.func92.trans (congrArg some (by kernel_rfl))
  t0 := Try.underlying0
  a0 := Try.isAgg0
  z0 := Try.sizeOf0
  v0 := Try.zeroValue0
  t3 := Try.underlying3
  a3 := Try.isAgg3
  z3 := Try.sizeOf3
  v3 := Try.zeroValue3
  t4 := Try.underlying4
  a4 := Try.isAgg4
  z4 := Try.sizeOf4
  v4 := Try.zeroValue4
  t5 := Try.underlying5
  a5 := Try.isAgg5
  z5 := Try.sizeOf5
  v5 := Try.zeroValue5
  t9 := Try.underlying9
  a9 := Try.isAgg9
  z9 := Try.sizeOf9
  v9 := Try.zeroValue9
  t31 := Try.underlying39
  a31 := Try.isAgg39
  z31 := Try.sizeOf39
  v31 := Try.zeroValue39
  t46 := Try.underlying32
  a46 := Try.isAgg32
  z46 := Try.sizeOf32
  v46 := Try.zeroValue32
  t51 := Try.underlying116
  a51 := Try.isAgg116
  z51 := Try.sizeOf116
  v51 := Try.zeroValue116
  t53 := Try.underlying118
  a53 := Try.isAgg118
  z53 := Try.sizeOf118
  v53 := Try.zeroValue118
  t131 := Try.underlying113
  a131 := Try.isAgg113
  z131 := Try.sizeOf113
  v131 := Try.zeroValue113
  t182 := Try.underlying107
  a182 := Try.isAgg107
  z182 := Try.sizeOf107
  v182 := Try.zeroValue107
  t183 := Try.underlying108
  a183 := Try.isAgg108
  z183 := Try.sizeOf108
  v183 := Try.zeroValue108
  t218 := Try.underlying120
  a218 := Try.isAgg120
  z218 := Try.sizeOf120
  v218 := Try.zeroValue120
  t222 := Try.underlying124
  a222 := Try.isAgg124
  z222 := Try.sizeOf124
  v222 := Try.zeroValue124
  t228 := Try.underlying128
  a228 := Try.isAgg128
  z228 := Try.sizeOf128
  v228 := Try.zeroValue128
  t229 := Try.underlying129
  a229 := Try.isAgg129
  z229 := Try.sizeOf129
  v229 := Try.zeroValue129 }
open Go.Sort Go.RowKit in
theorem Try.slices_Sort_string (blk off cap : Nat) (ss : List (List UInt8)) (w : World) (hH : Holds encStr w blk off ss.toArray) (hblk : blk < w.heap.size) (hsz : ss.length < 4611686018427387904) :
    Calls Try.prog 44 #[.slice (some ⟨blk, off, none⟩) ss.length cap] w fun e w' =>
      e = .returned (.tuple #[]) ∧ ∃ n os, w' = grow (putRow encStr (Sort.ahead w n) blk off (ss.mergeSort fun x y => decide (x ≤ y)).toArray) os := Any.slices_Sort_string Try.lays190 blk off cap ss w hH hblk hsz
end Go.Proofs
namespace Go.Sw
open Go.RowKit
theorem run_clone {P : Program} {w : World} {r : Nat} {es : Array MapEntry} {clock : Nat} (t : TypeId) (hb : w.heap[r]? = some (.map es clock)) :
    (Extern.MapsClone.clone #[.iface t (.map (some r))]).run P w = .ok (.iface t (.map (some w.heap.size))) (w.alloc (.map es clock)) := by
  have e : Extern.MapsClone.clone #[.iface t (.map (some r))] = (getObj r >>= fun o => match o with
      | .map entries clock => (newObj (.map entries clock) >>= fun n => pure (.iface t (.map (some n))))
      | _ => stuck "maps.clone: a map expected") := rfl
  rw [e]
  simp only [Sem.run_bind, run_getObj_map hb, Result.andThen_ok, run_newObj, Sem.run_pure]
  rfl
theorem GL_cloneX {P : Program} {ops : Array Oper} {i : Nat} {Q : Post} {n : Nat} {E : Env} {W0 : World} {H : List Grp} {o : Oper} {ch : List (Nat × Bool)} {c : Call} {fo : Operand} {f : FuncId} {t : TypeId} {r clock : Nat} {es : Array MapEntry} {fn : Func}
    (ho : ops[i]? = some o) (hop : o.op = .call c) (hce : c.callee = .value fo) (hfo : evO E ch fo = some (.func (.func f) #[] #[])) (hargs : evL (evO E ch) c.args.toList = some [.iface t (.map (some r))])
    (hf : P.funcs[f]? = some fn) (hrt : (fn.name == "runtime.NumGoroutine") = false) (hbody : fn.body.isNone = true) (hn : Extern.findNext fn = none) (he : Extern.find fn = some Extern.MapsClone.clone)
    (hch : chainOf ops E o.guard = some ch) (hd : dstOk n ch o.dst = true) (hsure : chSure E ch = true) (hA : At W0 H r (.map es clock))
    (k : ∀ b, GL false P ops (i + 1) Q n (Env.put E o.dst ch (.iface t (.map (some b)))) W0 ([(b, .map es clock)] :: H)) : GL false P ops i Q n E W0 H := by
  refine GL_eff (R := fun v H1 => ∃ b, v = .iface t (.map (some b)) ∧ H1 = [(b, .map es clock)] :: H) ho hch hd hsure (fun rr hr w hs => ?_) (by rintro v H1 ⟨b, rfl, rfl⟩; exact k b)
  refine ⟨_, w.alloc (.map es clock), _, ⟨w.heap.size, rfl, rfl⟩, hs.new rfl rfl rfl rfl, .inl ?_⟩
  unfold execOp
  simp only [hop]
  simp only [resolve, hce]
  rw [hr _ _ hfo, arr_map hr hargs]
  simp only [Deferred.ofValue, Sem.run_bind, Sem.run_pure, Result.andThen_ok, invoke]
  have := run_callFunc_extern hf hrt hbody hn he #[.iface t (.map (some r))] w
  simp only [Array.empty_append, Array.append_empty, this, run_clone t (hs.at hA), Result.andThen_ok]
theorem GL_assert {d : Bool} {P : Program} {ops : Array Oper} {i : Nat} {Q : Post} {n : Nat} {E : Env} {W0 : World} {H : List Grp} {o : Oper} {ch : List (Nat × Bool)} {x : Operand} {xt t k e : TypeId} {v : Value}
    (ho : ops[i]? = some o) (hop : o.op = .typeAssert x xt t false) (hx : evO E ch x = some (.iface t v)) (hu : P.underlying t = some (.map k e))
    (hch : chainOf ops E o.guard = some ch) (hd : dstOk n ch o.dst = true) (hk : chKnown E ch = true)
    (kk : GL d P ops (i + 1) Q n (Env.put E o.dst ch v) W0 H) : GL d P ops i Q n E W0 H := by
  refine GL_quiet ho hch hd hk (fun r hr _ w _ => ?_) kk
  unfold execOp
  simp only [hop]
  rw [hr _ _ hx]
  simp [Instr.typeAssert, run_underlying hu, Result.andThen]
  exact ⟨rfl, rfl⟩
theorem GL_makeS {P : Program} {ops : Array Oper} {i : Nat} {Q : Post} {n : Nat} {E : Env} {W0 : World} {H : List Grp} {o : Oper} {ch : List (Nat × Bool)} {t e : TypeId} {x y : Operand} {inf : TypeInfo} {z : Value} {l : Nat} {c : List Value}
    (ho : ops[i]? = some o) (hop : o.op = .makeSlice t x y) (hx : evO E ch x = some (.int .i64 (l : Int))) (hy : evO E ch y = some (.int .i64 (l : Int))) (ht : P.underlying t = some (.slice e)) (hi : P.info? e = some inf) (hz : inf.zero = some z)
    (hb : (inf.bytes : Int) * (l : Int) ≤ 281474976710656) (hl : l ≤ 9223372036854775807) (hm : l * inf.size ≤ 16777216) (hc : madeCells z.cells (l * inf.size) = c.toArray)
    (hch : chainOf ops E o.guard = some ch) (hd : dstOk n ch o.dst = true) (hsure : chSure E ch = true)
    (k : ∀ b, GL false P ops (i + 1) Q n (Env.put E o.dst ch (.slice (some ⟨b, 0, none⟩) l l)) W0 ([(b, .cells c.toArray e)] :: H)) : GL false P ops i Q n E W0 H :=
  GL_new (f := fun b => .slice (some ⟨b, 0, none⟩) l l) ho hch hd hsure (fun r hr w => by
    unfold execOp; simp only [hop]
    rw [hr _ _ hx, hr _ _ hy]
    have := run_makeSlice (P := P) w t e inf z ht hi hz .i64 .i64 (l : Int) (l : Int) (by omega) (Int.le_refl _) (by simpa using hm) hb (by omega)
    simp only [Int.toNat_natCast, hc] at this
    simp only [Sem.run_bind, this, Result.andThen_ok]
    rfl) k
end Go.Sw
namespace Go.Vf
open Go.Sw Go.RowKit Go.Sort Go.Proofs
def sortB (ws : List ByteArray) : List ByteArray := ((ws.map fun s => s.data.toList).mergeSort fun x y => decide (x ≤ y)).map fun l => ⟨l.toArray⟩
theorem strs_enc (ws : List ByteArray) : strs ws = (ws.map fun s => s.data.toList).map encStr := by
  unfold strs
  rw [List.map_map]
  rfl
theorem strs_sort (ws : List ByteArray) : strs (sortB ws) = ((ws.map fun s => s.data.toList).mergeSort fun x y => decide (x ≤ y)).map encStr := by
  unfold strs sortB
  rw [List.map_map]
  rfl
theorem sortB_len (ws : List ByteArray) : (sortB ws).length = ws.length := by unfold sortB; rw [List.length_map, List.length_mergeSort, List.length_map]
theorem sortB_perm (ws : List ByteArray) : (sortB ws).Perm ws := by
  unfold sortB
  have h : ((ws.map fun s => s.data.toList).mergeSort fun x y => decide (x ≤ y)).Perm (ws.map fun s => s.data.toList) := List.mergeSort_perm _ _
  have h2 := h.map fun l => (⟨l.toArray⟩ : ByteArray)
  rw [List.map_map] at h2
  have e : ws.map ((fun l => (⟨l.toArray⟩ : ByteArray)) ∘ fun s => s.data.toList) = ws := by
    rw [show ((fun l : List UInt8 => (⟨l.toArray⟩ : ByteArray)) ∘ fun s : ByteArray => s.data.toList) = id from rfl, List.map_id]
  rwa [e] at h2
theorem sortC {v : Value} {ws : List ByteArray} {g : Grp} (hO : Own 9 1 v g ws.length (strs ws)) (hw : ws.length ≤ 1000000000) (W0 : World) (H : List Grp) :
    Tri Try.prog 44 #[v] W0 (g :: H) (fun u H' => u = .tuple #[] ∧ ∃ g', Own 9 1 v g' ws.length (strs (sortB ws)) ∧ H' = g' :: H) := by
  obtain ⟨hl, ⟨rfl, rfl, hn⟩ | ⟨b, cap, junk, rfl, rfl, hc, hj⟩⟩ := hO
  · intro w hs
    have hws : ws = [] := List.eq_nil_of_length_eq_zero hn
    subst hws
    have e0 : sortB [] = [] := by unfold sortB; simp
    rw [e0]
    exact (Any.slices_Sort_string_none Try.lays190 none 0 w).mono fun e w' ⟨h1, h2⟩ => ⟨_, _, h1, ⟨rfl, [], Own.nil, rfl⟩, by subst h2; exact hs⟩
  · intro w hs
    have hb : w.heap[b]? = some (.cells (strs ws ++ junk).toArray 9 (0, 0)) := hs.has (b, _) (by simp)
    have hlt : b < w.heap.size := (Array.getElem?_eq_some_iff.1 hb).1
    have hlen : (strs ws).length = ws.length := by unfold strs; rw [List.length_map]
    have hH : Holds encStr w b 0 (ws.map fun s => s.data.toList).toArray := holds_of_block hb (by
      rw [List.length_map, List.toList_toArray, ← strs_enc, ← hlen, List.take_left])
    have hc0 := Try.slices_Sort_string b 0 cap (ws.map fun s => s.data.toList) w hH hlt (by rw [List.length_map]; omega)
    rw [List.length_map] at hc0
    refine hc0.mono fun e w' ⟨h1, n, os, h2⟩ => ?_
    have hts : ((ws.map fun s => s.data.toList).mergeSort fun x y => decide (x ≤ y)).length = ws.length := by rw [List.length_mergeSort, List.length_map]
    have hcs := heap_sorted (n := n) (os := os) ((ws.map fun s => s.data.toList).mergeSort fun x y => decide (x ≤ y)).toArray hb
    have hgr := grownBy_sorted (w := w) (g := b) (n := n) (os := os) ((ws.map fun s => s.data.toList).mergeSort fun x y => decide (x ≤ y)).toArray
    rw [← h2] at hcs hgr
    have htk := take_putCells (strs ws ++ junk).toArray ((ws.map fun s => s.data.toList).mergeSort fun x y => decide (x ≤ y)) (by rw [hts, List.size_toArray, List.length_append, hlen]; omega)
    rw [hts, ← strs_sort] at htk
    have hcell : putCells encStr 0 ((ws.map fun s => s.data.toList).mergeSort fun x y => decide (x ≤ y)).toArray (strs ws ++ junk).toArray = (strs (sortB ws) ++ (putCells encStr 0 ((ws.map fun s => s.data.toList).mergeSort fun x y => decide (x ≤ y)).toArray (strs ws ++ junk).toArray).toList.drop ws.length).toArray := by
      apply Array.ext'
      rw [List.toList_toArray]
      have h3 := List.take_append_drop ws.length (putCells encStr 0 ((ws.map fun s => s.data.toList).mergeSort fun x y => decide (x ≤ y)).toArray (strs ws ++ junk).toArray).toList
      rw [htk] at h3
      exact h3.symm
    rw [hcell] at hcs
    have hsz : (putCells encStr 0 ((ws.map fun s => s.data.toList).mergeSort fun x y => decide (x ≤ y)).toArray (strs ws ++ junk).toArray).size = (strs ws ++ junk).length := by simp [putCells]
    obtain ⟨g1, g2, g3, g4, g5⟩ := hgr
    have hhigh : W0.heap.size ≤ b := hs.high (b, .cells (strs ws ++ junk).toArray 9 (0, 0)) (by simp)
    have hnd := hs.nodup
    refine ⟨_, _, h1, ⟨rfl, [(b, .cells (strs (sortB ws) ++ (putCells encStr 0 ((ws.map fun s => s.data.toList).mergeSort fun x y => decide (x ≤ y)).toArray (strs ws ++ junk).toArray).toList.drop ws.length).toArray 9 (0, 0))], ⟨by unfold strs; rw [List.length_map, sortB_len, Nat.mul_one], .inr ⟨b, cap, _, rfl, rfl, hc, ?_⟩⟩, rfl⟩, ?_, ?_, ?_, ?_⟩
    · have : (strs (sortB ws) ++ (putCells encStr 0 ((ws.map fun s => s.data.toList).mergeSort fun x y => decide (x ≤ y)).toArray (strs ws ++ junk).toArray).toList.drop ws.length).length = (putCells encStr 0 ((ws.map fun s => s.data.toList).mergeSort fun x y => decide (x ≤ y)).toArray (strs ws ++ junk).toArray).toList.length := by
        have h3 := List.take_append_drop ws.length (putCells encStr 0 ((ws.map fun s => s.data.toList).mergeSort fun x y => decide (x ≤ y)).toArray (strs ws ++ junk).toArray).toList
        rw [htk] at h3
        exact congrArg List.length h3
      rw [this, Array.length_toList, hsz, hj]
    · refine ⟨g1.trans hs.below.os, g2.trans hs.below.tape, g3.trans hs.below.output, Nat.le_trans hs.below.size g4, fun k hk => ?_⟩
      have hk' : k < w.heap.size := Nat.lt_of_lt_of_le hk hs.below.size
      rw [g5 k hk' (by intro e; injection e with e; omega), hs.below.block k hk]
    · simpa using hnd
    · intro p hp
      simp only [List.flatten_cons, List.cons_append, List.nil_append, List.mem_cons] at hp
      rcases hp with rfl | hp
      · exact hcs
      · have h0 := hs.has p (by simp [hp])
        have hk' : p.1 < w.heap.size := (Array.getElem?_eq_some_iff.1 h0).1
        rw [g5 p.1 hk' ?_]
        · exact h0
        · intro e
          injection e with e
          simp only [List.flatten_cons, List.cons_append, List.nil_append, List.map_cons, List.nodup_cons] at hnd
          exact hnd.1 (List.mem_map.2 ⟨p, hp, e⟩)
    · intro p hp
      simp only [List.flatten_cons, List.cons_append, List.nil_append, List.mem_cons] at hp
      rcases hp with rfl | hp
      · exact hhigh
      · exact hs.high p (by simp [hp])
def listK (dir : ByteArray) (m : SM) : List ByteArray := (m.filter fun e => (Go.Proofs.Ytbmieiffboenbaa.dirB e.1).toList == dir.toList).map Prod.fst
theorem listK_yes {dir : ByteArray} {m : SM} {e : ByteArray × Value × Nat} (h : ((Go.Proofs.Ytbmieiffboenbaa.dirB e.1).toList == dir.toList) = true) : listK dir (m ++ [e]) = listK dir m ++ [e.1] := by
  unfold listK; rw [List.filter_append, List.filter_cons, h]; simp
theorem listK_no {dir : ByteArray} {m : SM} {e : ByteArray × Value × Nat} (h : ((Go.Proofs.Ytbmieiffboenbaa.dirB e.1).toList == dir.toList) = false) : listK dir (m ++ [e]) = listK dir m := by
  unfold listK; rw [List.filter_append, List.filter_cons, h]; simp
theorem listK_len (dir : ByteArray) (m : SM) : (listK dir m).length ≤ m.length := by unfold listK; rw [List.length_map]; exact List.length_filter_le _ _
theorem own_yes {dir : ByteArray} {m : SM} {e : ByteArray × Value × Nat} {v : Value} {g : Grp} (h : ((Go.Proofs.Ytbmieiffboenbaa.dirB e.1).toList == dir.toList) = true) (hO : Own 9 1 v g ((listK dir m).length + 1) (strs (listK dir m) ++ [.string e.1])) :
    Own 9 1 v g (listK dir (m ++ [e])).length (strs (listK dir (m ++ [e]))) := by
  rw [listK_yes h]; simpa [strs] using hO
end Go.Vf
namespace Go.Proofs.Ytbmieiffboenbaa
open Go.Sw Go.Lib Go.Vf Go.RowKit
theorem vMapClone (kb kc : Nat) (km : SM) (W0 : World) (H : List Grp) : Tri Try.prog 42 #[.map (some kb)] W0 ([(kb, .map (encM km) kc)] :: H) (fun v H' => ∃ b, v = .map (some b) ∧ H' = [(b, .map (encM km) kc)] :: [(kb, .map (encM km) kc)] :: H) := by
  refine Tri_of (args := [.map (some kb)]) (n := 9) Try.func42 rfl rfl (Nat.le_of_ble_eq_true rfl) ?_
  refine G_seq ?_
  refine G_pure (E' := [⟨0, [], .map (some kb)⟩]) [0] [0] rfl (by kernel_rfl) ?_
  refine N_then ?_
  refine G_seq ?_
  refine G_seq ?_
  refine G_pure (E' := [⟨0, [], .map (some kb)⟩, ⟨4, [], .bool false⟩]) [0, 0] [0, 4] rfl (by kernel_rfl) ?_
  refine N_then ?_
  refine G_condf (by kernel_rfl) ?_
  refine G_skip ?_
  refine N_then ?_
  refine G_seq ?_
  refine G_region ?_
  refine GL_pure (E' := [⟨6, [], .iface 60 (.map (some kb))⟩]) [0, 0] (by kernel_rfl) (j := 2) rfl ?_
  refine GL_cloneX (i := 2) (ch := []) (f := 60) (t := 60) (r := kb) (clock := kc) (es := encM km) rfl rfl rfl (by kernel_rfl) (by kernel_rfl) Try.func60 (by kernel_rfl) rfl (by kernel_rfl) (by kernel_rfl) (by kernel_rfl) (by kernel_rfl) (by kernel_rfl) (At.grp 0 0 rfl rfl) (fun b1 => ?_)
  refine GL_assert (i := 3) (ch := []) (xt := 20) (t := 60) (k := 9) (e := 66) (v := .map (some b1)) rfl rfl (by kernel_rfl) (by kernel_rfl) (by kernel_rfl) (by kernel_rfl) (by kernel_rfl) ?_
  refine GL_fin (E' := [⟨2, [], .map (some b1)⟩]) [0] [2] rfl (by kernel_rfl) ?_
  refine N_then ?_
  refine G_ret ?_
  refine N_ret [.tmp 2] [.map (some b1)] rfl (by kernel_rfl) rfl ?_
  exact ⟨_, rfl, rfl⟩
theorem vList (d nb kb cb nc : Nat) (room calls : Int) (bv : Value) (fails once : Bool) (nm : SM) (dir : ByteArray) (hn : MapOk nm nc) (hks : ∀ e ∈ nm, e.1.size ≤ 9223372036854775807) (hnl : nm.length ≤ 1000000) (W0 : World) (H : List Grp) : Tri Try.prog 21 #[pt d, .string dir] W0 ([(d, .cells #[.int .i64 room, bv, .map (some nb), .map (some kb), .map (some cb), .bool fails, .bool once, .int .i64 calls] 64 (0, 0))] :: [(nb, .map (encM nm) nc)] :: H) (fun v H' => ∃ dn g, dn.Perm nm ∧ Own 9 1 v g (listK dir dn).length (strs (sortB (listK dir dn))) ∧ H' = ([(d, .cells #[.int .i64 room, bv, .map (some nb), .map (some kb), .map (some cb), .bool fails, .bool once, .int .i64 calls] 64 (0, 0))] :: [(nb, .map (encM nm) nc)] :: g :: H)) := by
  refine Tri_of (args := [pt d, .string dir]) (n := 29) Try.func21 rfl rfl (Nat.le_of_ble_eq_true rfl) ?_
  refine G_seq ?_
  refine G_pure (E' := [⟨0, [], pt d⟩, ⟨1, [], .string dir⟩]) [0] [0, 1] rfl (by kernel_rfl) ?_
  refine N_then ?_
  refine G_seq ?_
  refine G_seq ?_
  refine G_pure (E' := [⟨0, [], pt d⟩, ⟨1, [], .string dir⟩, ⟨8, [], .bool false⟩]) [0, 0] [0, 1, 8] rfl (by kernel_rfl) ?_
  refine N_then ?_
  refine G_condf (by kernel_rfl) ?_
  refine G_skip ?_
  refine N_then ?_
  refine G_seq ?_
  refine G_pure (E' := [⟨0, [], pt d⟩, ⟨1, [], .string dir⟩, ⟨5, [], .slice none 0 0⟩]) [0] [0, 1, 5] rfl (by kernel_rfl) ?_
  refine N_then ?_
  refine G_seq ?_
  refine G_seq ?_
  refine G_region ?_
  refine GL_pure (E' := [⟨11, [], .pointer (some ⟨d, 2, none⟩)⟩, ⟨1, [], .string dir⟩, ⟨5, [], .slice none 0 0⟩]) [0, 0, 0] (by kernel_rfl) (j := 3) rfl ?_
  refine GL_load (i := 3) (ch := []) (b := d) (off := 2) (v := .map (some nb)) rfl rfl (by kernel_rfl) (by kernel_rfl) (by kernel_rfl) (by kernel_rfl) (by kernel_rfl) (At.grp 0 0 rfl rfl) rfl ?_
  refine GL_range (i := 4) (ch := []) (kt := 9) (et := 66) (r := nb) (c := nc) (m := nm) rfl rfl (by kernel_rfl) (by kernel_rfl) (by kernel_rfl) (by kernel_rfl) (by kernel_rfl) (At.grp 1 0 rfl rfl) (fun it1 => ?_)
  refine GL_fin (E' := [⟨1, [], .string dir⟩, ⟨5, [], .slice none 0 0⟩, ⟨13, [], pt it1⟩]) [] [1, 5, 13] rfl (by kernel_rfl) ?_
  refine N_then ?_
  refine G_block ?_
  refine G_heap (H' := ([(it1, .mapIter (some nb) nc (seenOf ([])) nc)] :: [(d, .cells #[.int .i64 room, bv, .map (some nb), .map (some kb), .map (some cb), .bool fails, .bool once, .int .i64 calls] 64 (0, 0))] :: [(nb, .map (encM nm) nc)] :: [] :: H)) (fun w h => h.flat (List.Perm.refl _)) ?_
  refine G_loop (EI := (fun ξ : SM × SM × Value × Grp => [⟨1, [], .string dir⟩, ⟨5, [], ξ.2.2.1⟩, ⟨13, [], pt it1⟩])) (HI := (fun ξ : SM × SM × Value × Grp => ([(it1, .mapIter (some nb) nc (seenOf ξ.1) nc)] :: [(d, .cells #[.int .i64 room, bv, .map (some nb), .map (some kb), .map (some cb), .bool fails, .bool once, .int .i64 calls] 64 (0, 0))] :: [(nb, .map (encM nm) nc)] :: ξ.2.2.2 :: H))) (Φ := (fun ξ : SM × SM × Value × Grp => ((ξ.1 ++ ξ.2.1).Perm nm) ∧ (Own 9 1 ξ.2.2.1 ξ.2.2.2 (listK dir ξ.1).length (strs (listK dir ξ.1))))) (μ := (fun ξ : SM × SM × Value × Grp => ξ.2.1.length)) (s0 := ([], nm, .slice none 0 0, [])) [1, 5, 13] (by kernel_rfl) (by rfl) ⟨(List.Perm.refl _), Own.nil⟩ ?_
  rintro ⟨dn, rest, v, g⟩ ⟨hpm, hO⟩
  replace hpm : (dn ++ rest).Perm nm := hpm
  replace hO : Own 9 1 v g (listK dir dn).length (strs (listK dir dn)) := hO
  have hll := listK_len dir dn
  have hdl : dn.length ≤ nm.length := by (have := hpm.length_eq; rw [List.length_append] at this; omega)
  refine G_seq ?_
  refine G_region ?_
  refine GL_next (i := 0) (ch := []) (it := it1) (r := nb) (c := nc) (j := 0) (q := 0) (m := nm) (dn := dn) (rest := rest) rfl rfl (by kernel_rfl) (by kernel_rfl) (by kernel_rfl) (by kernel_rfl) rfl rfl (At.grp 2 0 rfl rfl) hn hpm (fun hend6 => ?_) (fun e2 rest3 hp4 hq5 => ?_)
  ·
    refine GL_fin (E' := [⟨1, [], .string dir⟩, ⟨5, [], v⟩, ⟨13, [], pt it1⟩, ⟨15, [], .bool false⟩]) [0] [1, 5, 13, 15] rfl (by kernel_rfl) ?_
    refine N_then ?_
    refine G_seq ?_
    refine G_condf (by kernel_rfl) ?_
    refine G_exit ?_
    refine N_then_exit ?_
    refine N_then_exit ?_
    refine N_block_exit ?_
    refine N_then ?_
    refine G_seq ?_
    refine G_region ?_
    refine GL_pure (E' := [⟨26, [], v⟩, ⟨5, [], v⟩]) [0] (by kernel_rfl) (j := 1) rfl ?_
    refine GL_heap rfl (H' := (g :: [(it1, .mapIter (some nb) nc (seenOf dn) nc)] :: [(d, .cells #[.int .i64 room, bv, .map (some nb), .map (some kb), .map (some cb), .bool fails, .bool once, .int .i64 calls] 64 (0, 0))] :: [(nb, .map (encM nm) nc)] :: H)) (fun w h => (h.front (j := 3) rfl)) ?_
    refine GL_call (i := 1) (ch := []) (f := 44) (fst := #[]) (caps := #[]) (vs := [v]) rfl rfl rfl (by kernel_rfl) (by kernel_rfl) Try.func44 rfl rfl (by kernel_rfl) (by kernel_rfl) (chSure_of (by kernel_rfl)) (sortC hO (by omega) _ _) ?_
    rintro u H' ⟨rfl, g11, hO12, rfl⟩
    refine GL_fin (E' := [⟨5, [], v⟩]) [] [5] rfl (by kernel_rfl) ?_
    refine N_then ?_
    refine G_seq ?_
    refine G_pure (E' := [⟨4, [], v⟩]) [0, 0] [4] rfl (by kernel_rfl) ?_
    refine N_then ?_
    refine G_ret ?_
    refine N_heap (H' := ([(d, .cells #[.int .i64 room, bv, .map (some nb), .map (some kb), .map (some cb), .bool fails, .bool once, .int .i64 calls] 64 (0, 0))] :: [(nb, .map (encM nm) nc)] :: g11 :: H)) (fun w h => (((h.front (j := 3) rfl).front (j := 3) rfl).erase 3)) ?_
    refine N_ret [.tmp 4] [v] rfl (by kernel_rfl) rfl ?_
    exact ⟨dn, _, by simpa [hend6] using hpm, hO12, rfl⟩
  ·
    have hz10 := hks e2 (hq5.mem_iff.1 (by simp))
    obtain ⟨k7, u8, st9⟩ := e2
    simp only at hz10
    refine GL_fin (E' := [⟨1, [], .string dir⟩, ⟨5, [], v⟩, ⟨13, [], pt it1⟩, ⟨15, [], .bool true⟩]) [0] [1, 5, 13, 15] rfl (by kernel_rfl) ?_
    refine N_then ?_
    refine G_seq ?_
    refine G_condt (by kernel_rfl) ?_
    refine G_skip ?_
    refine N_then ?_
    refine G_block ?_
    refine G_seq ?_
    refine G_region ?_
    refine GL_entry (i := 0) (ch := []) (it := it1) (r := nb) (c := nc) (m := nm) (dn := dn) (e := (k7, u8, st9)) rfl rfl (by kernel_rfl) (by kernel_rfl) (by kernel_rfl) (by kernel_rfl) (At.grp 0 0 rfl rfl) (At.grp 2 0 rfl rfl) hn (hq5.mem_iff.1 (by simp)) ?_
    refine GL_fin (E' := [⟨1, [], .string dir⟩, ⟨5, [], v⟩, ⟨6, [], .string k7⟩, ⟨13, [], pt it1⟩]) [0, 0] [1, 5, 6, 13] rfl (by kernel_rfl) ?_
    refine N_then ?_
    refine G_seq ?_
    refine G_region ?_
    refine GL_pure (E' := [⟨18, [], .string k7⟩, ⟨1, [], .string dir⟩, ⟨5, [], v⟩, ⟨6, [], .string k7⟩, ⟨13, [], pt it1⟩]) [0] (by kernel_rfl) (j := 1) rfl ?_
    refine GL_callQ (i := 1) (ch := []) (f := 37) (fst := #[]) (caps := #[]) (vs := [.string k7]) (v := .string (dirB k7)) rfl rfl rfl (by kernel_rfl) (by kernel_rfl) Try.func37 rfl rfl (by kernel_rfl) (by kernel_rfl) (by kernel_rfl) (fun _ => vfsDirOf _ hz10 _ _) ?_
    refine GL_fin (E' := [⟨1, [], .string dir⟩, ⟨5, [], v⟩, ⟨6, [], .string k7⟩, ⟨13, [], pt it1⟩, ⟨21, [], .bool ((dirB k7).toList == dir.toList)⟩]) [0, 0] [1, 5, 6, 13, 21] rfl (by kernel_rfl) ?_
    refine N_then ?_
    refine G_cond (b := (dirB k7).toList == dir.toList) (by kernel_rfl) (fun hc13 => ?_) (fun hc13 => ?_)
    ·
      have hyn := hc13
      -- L yes
      refine G_region ?_
      refine GL_pure (E' := [⟨23, [], .string k7⟩, ⟨22, [], v⟩, ⟨1, [], .string dir⟩, ⟨5, [], v⟩, ⟨13, [], pt it1⟩]) [0, 0] (by kernel_rfl) (j := 2) rfl ?_
      refine GL_buildSlice (i := 2) (ch := []) (e := 9) (l := [(0, .string k7)]) (c := [.string k7]) rfl rfl (by kernel_rfl) (by kernel_rfl) (by kernel_rfl) (by kernel_rfl) (by kernel_rfl) (fun b14 => ?_)
      refine GL_append (i := 3) (ch := []) (t := 39) (tx := 39) (e := 9) (inf := Try.t9) (s := v) (x := .slice (some ⟨b14, 0, none⟩) 1 1) (n := (listK dir dn).length) (m := 1) (j := 4) (cs := (strs (listK dir dn))) (news := [.string k7]) (g := g) (S := (inG [(b14, .cells #[.string k7] 9 (0, 0))])) rfl rfl rfl rfl (by kernel_rfl) (by kernel_rfl) (by kernel_rfl) rfl rfl (.inl ⟨9, (by kernel_rfl)⟩) (fun ⟨_, h⟩ => by cases h) (fun _ => ⟨9, (by kernel_rfl)⟩) (by kernel_rfl) (by kernel_rfl) (by kernel_rfl) rfl hO (SrcOf.slice _ _ _ _ Rd.lit (fun h => by cases h)) (at_inG 0 rfl) (by kernel_rfl) (by intro u hu; rcases List.mem_singleton.1 hu with rfl; rfl) (by omega) (by show ((listK dir dn).length + 1) * 16 ≤ 140737488355328; omega) (fun v15 g16 hO17 => ?_)
      refine GL_fin (E' := [⟨1, [], .string dir⟩, ⟨5, [], v15⟩, ⟨13, [], pt it1⟩]) [0] [1, 5, 13] rfl (by kernel_rfl) ?_
      refine N_block ?_
      refine N_heap (H' := ([(it1, .mapIter (some nb) nc (seenOf (dn ++ [(k7, u8, st9)])) nc)] :: [(d, .cells #[.int .i64 room, bv, .map (some nb), .map (some kb), .map (some cb), .bool fails, .bool once, .int .i64 calls] 64 (0, 0))] :: [(nb, .map (encM nm) nc)] :: g16 :: H)) (fun w h => (((((h.front (j := 4) rfl).front (j := 4) rfl).front (j := 4) rfl).front (j := 4) rfl).erase 4)) ?_
      refine N_round (s' := (dn ++ [(k7, u8, st9)], rest3, v15, g16)) [1, 5, 13] (by kernel_rfl) (by rfl) ⟨hq5, (own_yes (e := (k7, u8, st9)) hyn hO17)⟩ (by have := hp4.length_eq; simp only [List.length_cons] at this; show rest3.length < rest.length; omega)
    ·
      have hyn := hc13
      refine G_skip ?_
      refine N_block ?_
      refine N_heap (H' := ([(it1, .mapIter (some nb) nc (seenOf (dn ++ [(k7, u8, st9)])) nc)] :: [(d, .cells #[.int .i64 room, bv, .map (some nb), .map (some kb), .map (some cb), .bool fails, .bool once, .int .i64 calls] 64 (0, 0))] :: [(nb, .map (encM nm) nc)] :: g :: H)) (fun w h => ((((h.front (j := 3) rfl).front (j := 3) rfl).front (j := 3) rfl).front (j := 3) rfl)) ?_
      refine N_round (s' := (dn ++ [(k7, u8, st9)], rest3, v, g)) [1, 5, 13] (by kernel_rfl) (by rfl) ⟨hq5, (by rw [listK_no (e := (k7, u8, st9)) hyn]; exact hO)⟩ (by have := hp4.length_eq; simp only [List.length_cons] at this; show rest3.length < rest.length; omega)
end Go.Proofs.Ytbmieiffboenbaa
namespace Go.Proofs
open Go.Shelf
def Try.keys41_ren : Go.Shelf.Ren := ⟨fun | 7 => 41 | 10 => 59 | n => n, fun | 23 => 61 | 26 => 9 | 3 => 73 | 28 => 78 | 0 => 0 | 27 => 77 | 33 => 23 | 4 => 4 | n => n, fun | n => n⟩
theorem Try.keys41 : Go.Proofs.SlLaysZ.n7 Try.prog Try.keys41_ren := {
  mixed := by kernel_rfl
  f7 := ⟨Try.f41.name, by decide, Try.func41.trans (congrArg some (by kernel_rfl))⟩
  f10 := ⟨Try.f59.name, by decide, Try.func59.trans (congrArg some (by kernel_rfl))⟩
  t0 := Try.underlying0
  a0 := Try.isAgg0
  z0 := Try.sizeOf0
  v0 := Try.zeroValue0
  t4 := Try.underlying4
  a4 := Try.isAgg4
  z4 := Try.sizeOf4
  v4 := Try.zeroValue4
  t23 := Try.underlying61
  a23 := Try.isAgg61
  z23 := Try.sizeOf61
  v23 := Try.zeroValue61
  t26 := Try.underlying9
  a26 := Try.isAgg9
  z26 := Try.sizeOf9
  v26 := Try.zeroValue9
  t27 := Try.underlying77
  a27 := Try.isAgg77
  z27 := Try.sizeOf77
  v27 := Try.zeroValue77
  t28 := Try.underlying78
  a28 := Try.isAgg78
  z28 := Try.sizeOf78
  v28 := Try.zeroValue78
  t33 := Try.underlying23
  a33 := Try.isAgg23
  z33 := Try.sizeOf23
  v33 := Try.zeroValue23 }
def Try.sorted40_ren : Go.Shelf.Ren := ⟨fun | 6 => 40 | 8 => 58 | 9 => 44 | 11 => 68 | 13 => 62 | 12 => 61 | 23 => 78 | 24 => 79 | 14 => 69 | 15 => 70 | 16 => 71 | 17 => 72 | 18 => 73 | 19 => 74 | 20 => 75 | 21 => 76 | 22 => 77 | 25 => 85 | 26 => 86 | 27 => 87 | 28 => 88 | 29 => 89 | 30 => 90 | 31 => 92 | n => n, fun | 26 => 9 | 28 => 78 | 24 => 39 | 0 => 0 | 3 => 3 | 37 => 32 | 48 => 116 | 50 => 118 | 4 => 4 | 40 => 108 | 39 => 107 | 45 => 113 | 5 => 5 | 9 => 9 | 51 => 120 | 55 => 124 | 57 => 128 | 58 => 129 | 33 => 23 | n => n, fun | n => n⟩
theorem Try.sorted40 : Go.Proofs.SlLaysZ.n6 Try.prog Try.sorted40_ren := {
  mixed := by kernel_rfl
  f6 := ⟨Try.f40.name, by decide, Try.func40.trans (congrArg some (by kernel_rfl))⟩
  f8 := ⟨Try.f58.name, by decide, Try.func58.trans (congrArg some (by kernel_rfl))⟩
  f11 := ⟨Try.f68.name, by decide, Try.func68.trans (congrArg some (by kernel_rfl))⟩
  t0 := Try.underlying0
  a0 := Try.isAgg0
  z0 := Try.sizeOf0
  v0 := Try.zeroValue0
  t24 := Try.underlying39
  a24 := Try.isAgg39
  z24 := Try.sizeOf39
  v24 := Try.zeroValue39
  t26 := Try.underlying9
  a26 := Try.isAgg9
  z26 := Try.sizeOf9
  v26 := Try.zeroValue9
  t28 := Try.underlying78
  a28 := Try.isAgg78
  z28 := Try.sizeOf78
  v28 := Try.zeroValue78
  i26 := by kernel_rfl }
end Go.Proofs
namespace Go.Vf
open Go.Sw Go.RowKit Go.Sort Go.Proofs Go.Shelf
open Go.WideElems (Fit rg)
def anyR : Value → Option (DataW Nat × List MemPlace) := fun _ => some (.lit (.bool false), [])
def datM (P : Program) (cm : SM) : DataW Nat := .map (((encM cm).toList.map (rg P 9 anyR)).foldr DataW.insert [])
theorem rd_ent {e : ByteArray × Value × Nat} (h : e.1.size ≤ 9223372036854775807) : WideElems.rd Try.prog 9 anyR (entM e) = some (.string e.1.data.toList, .lit (.bool false)) := by
  unfold WideElems.rd
  rw [show keyOf Try.prog 9 (entM e).key = some (.string e.1.data.toList) from WideMaps.keyOf_string_mk Try.underlying9 (by unfold maxLen; omega)]
  rfl
theorem rg_ent {e : ByteArray × Value × Nat} (h : e.1.size ≤ 9223372036854775807) : rg Try.prog 9 anyR (entM e) = (.string e.1.data.toList, .lit (.bool false)) := by
  unfold rg
  rw [rd_ent h]
  rfl
theorem encM_list (cm : SM) : (encM cm).toList = cm.map entM := by unfold encM; rfl
theorem ent_apart {cm : SM} (h : cm.Pairwise fun x y => (x.1 == y.1) = false) : (cm.map entM).Pairwise fun x y => x.key ≠ y.key :=
  List.pairwise_map.2 (h.imp fun {x y} hxy e => by
    have : x.1 = y.1 := by
      have e' : Value.string x.1 = Value.string y.1 := e
      injection e'
    exact (baNe.1 hxy) this)
theorem own_map {cm : SM} {cc cb : Nat} {w : World} (hm : MapOk cm cc) (hks : ∀ e ∈ cm, e.1.size ≤ 9223372036854775807) (hl : cm.length ≤ 1000000000) (hb : w.heap[cb]? = some (.map (encM cm) cc)) :
    w.ownsMap Try.prog 9 anyR cb cm.length (datM Try.prog cm) := by
  refine ⟨encM cm, cc, hb, ⟨?_, ?_, ?_⟩, ?_, rfl⟩
  · rw [← Array.length_toList, encM_list, List.length_map]; unfold maxLen; omega
  · rw [MapKept.stamped_iff, encM_list]
    refine ⟨?_, ?_, ent_apart hm.keys⟩
    · intro x hx
      obtain ⟨e, he, rfl⟩ := List.mem_map.1 hx
      exact hm.lt e he
    · rw [List.map_map]; exact hm.born
  · intro x hx
    rw [encM_list] at hx
    obtain ⟨e, he, rfl⟩ := List.mem_map.1 hx
    exact ⟨_, rd_ent (hks e he)⟩
  · rw [← Array.length_toList, encM_list, List.length_map]; exact Nat.le_refl _
theorem keys_dat {cm : SM} (hks : ∀ e ∈ cm, e.1.size ≤ 9223372036854775807) : (strKeys (datM Try.prog cm)).Perm ((cm.map Prod.fst).map fun s => s.data.toList) := by
  have h1 : (strKeys (datM Try.prog cm)).Perm ((((encM cm).toList.map (rg Try.prog 9 anyR))).map fun p => strOf p.1) := (WideShapes.sorted_perm _).map _
  have h2 : (((encM cm).toList.map (rg Try.prog 9 anyR))).map (fun p => strOf p.1) = (cm.map Prod.fst).map fun s => s.data.toList := by
    rw [encM_list, List.map_map, List.map_map, List.map_map]
    refine List.map_congr_left fun e he => ?_
    simp only [Function.comp_apply]
    rw [rg_ent (hks e he)]
    unfold strOf
    rfl
  rwa [h2] at h1
theorem dat_size (P : Program) (cm : SM) : Maps.size (datM P cm) = cm.length := by
  have e : Maps.size (datM P cm) = (((encM cm).toList.map (rg P 9 anyR)).foldr DataW.insert []).length := rfl
  rw [e, (WideShapes.sorted_perm _).length_eq, List.length_map, encM_list, List.length_map]
theorem sorts40 (m : Nat) : AnyZ.SortsIn Try.prog Try.sorted40_ren Fence.wide m :=
  ⟨fun blk off cap ss W hH hblk hsz => callsIn_wide.2 (Try.slices_Sort_string blk off cap ss W hH hblk hsz),
   fun p cap W => callsIn_wide.2 (Any.slices_Sort_string_none Try.lays190 p cap W)⟩
set_option maxHeartbeats 1000000 in
theorem sortedC (cm : SM) (cc cb kb : Nat) (hm : MapOk cm cc) (hks : ∀ e ∈ cm, e.1.size ≤ 9223372036854775807) (hl : cm.length ≤ 1000000000) (W0 : World) (H : List Grp) :
    Tri Try.prog 40 #[.func (.func 59) #[] #[.pointer (some ⟨kb, 0, none⟩)]] W0
      ([(kb, .cells #[.map (some cb)] 61 (0, 0))] :: [(cb, .map (encM cm) cc)] :: H)
      (fun v H' => ∃ g, Own 9 1 v g cm.length (strs (sortB (cm.map Prod.fst))) ∧ H' = g :: [(kb, .cells #[.map (some cb)] 61 (0, 0))] :: [(cb, .map (encM cm) cc)] :: H) := by
  intro w hs
  have hk : w.heap[kb]? = some (.cells #[.map (some cb)] 61 (0, 0)) := hs.has (kb, _) (by simp)
  have hb : w.heap[cb]? = some (.map (encM cm) cc) := hs.has (cb, _) (by simp)
  have hown := own_map hm hks hl hb
  have hcell : w.cell? ⟨kb, 0, none⟩ = some (.map (some cb)) := by
    unfold World.cell?
    rw [hk]
    rfl
  have hseq : SeqGives Fence.wide 2 Try.prog 59 #[.pointer (some ⟨kb, 0, none⟩)] encStr (fun ss => ss.Perm (strKeys (datM Try.prog cm))) (Maps.size (datM Try.prog cm)) w :=
    AnyZ.keys_gives (ρ := Try.keys41_ren) { Try.keys41 with } Fence.wide 2 trivial rfl (by omega) kb cb cm.length (datM Try.prog cm) w (Array.getElem?_eq_some_iff.1 hk).1 hcell hown
  have hc := AnyZ.sorted_in Try.sorted40 Fence.wide 5 trivial trivial trivial trivial rfl (by omega) (sorts40 _) (enters_of Try.func44 (by kernel_rfl) rfl) 59 #[.pointer (some ⟨kb, 0, none⟩)] trivial (enters_of Try.func59 (by kernel_rfl) rfl) _ (Maps.size (datM Try.prog cm)) (by rw [dat_size]; unfold maxLen; omega) (by rw [dat_size]; omega) w hseq
  refine (callsIn_wide.1 hc).mono fun e w' ⟨v, ss, h1, h2, h3, _, h5⟩ => ?_
  have hp : ss.Perm ((cm.map Prod.fst).map fun s => s.data.toList) := h2.trans (keys_dat hks)
  have hlen : ss.length = cm.length := by rw [hp.length_eq, List.length_map, List.length_map]
  have hss : (ss.mergeSort fun x y => decide (x ≤ y)).map encStr = strs (sortB (cm.map Prod.fst)) := by
    rw [strs_sort]
    exact congrArg (List.map encStr) (mergeSort_of_perm hp)
  rw [hss, hlen] at h3
  have hbel : Below W0.heap.size W0 w' := ⟨h5.os.trans hs.below.os, h5.tape.trans hs.below.tape, h5.output.trans hs.below.output, Nat.le_trans hs.below.size h5.size, fun k hk => by
    rw [h5.block k (Nat.lt_of_lt_of_le hk hs.below.size), hs.below.block k hk]⟩
  have hhas : ∀ p, p ∈ ([(kb, .cells #[.map (some cb)] 61 (0, 0))] :: [(cb, .map (encM cm) cc)] :: H : List Grp).flatten → w'.heap[p.1]? = some p.2 := fun p hp => by
    have h0 := hs.has p hp
    rw [h5.block p.1 (Array.getElem?_eq_some_iff.1 h0).1, h0]
  obtain ⟨l1, ⟨rfl, l2⟩ | ⟨g, cap, cur, rfl, g1, g2, g3, g4, g5, g6⟩⟩ := h3
  · exact ⟨_, _, h1, ⟨[], ⟨l1, .inl ⟨rfl, rfl, l2⟩⟩, rfl⟩, ⟨hbel, by simpa using hs.nodup, fun p hp => hhas p (by simpa using hp), fun p hp => hs.high p (by simpa using hp)⟩⟩
  · have hcur : cur.toList = strs (sortB (cm.map Prod.fst)) ++ cur.toList.drop (cm.length * 1) := by
      rw [← g6, List.take_append_drop]
    have hcur2 : cur = (strs (sortB (cm.map Prod.fst)) ++ cur.toList.drop (cm.length * 1)).toArray := by
      rw [← hcur]
    refine ⟨_, _, h1, ⟨[(g, .cells (strs (sortB (cm.map Prod.fst)) ++ cur.toList.drop (cm.length * 1)).toArray 9 (0, 0))], ⟨l1, .inr ⟨g, cap, cur.toList.drop (cm.length * 1), rfl, rfl, g3, ?_⟩⟩, rfl⟩, ⟨hbel, ?_, ?_, ?_⟩⟩
    · rw [← hcur, Array.length_toList, g5]
    · rw [List.flatten_cons, List.singleton_append, List.map_cons, List.nodup_cons]
      refine ⟨fun hin => ?_, hs.nodup⟩
      obtain ⟨p, hp, he⟩ := List.mem_map.1 hin
      have h0 := (Array.getElem?_eq_some_iff.1 (hs.has p hp)).1
      have he' : p.1 = g := he
      omega
    · intro p hp
      rw [List.flatten_cons, List.singleton_append, List.mem_cons] at hp
      rcases hp with rfl | hp
      · show w'.heap[g]? = _
        rw [← hcur2]
        exact g2
      · exact hhas p hp
    · intro p hp
      rw [List.flatten_cons, List.singleton_append, List.mem_cons] at hp
      rcases hp with rfl | hp
      · exact Nat.le_trans hs.below.size g1
      · exact hs.high p hp
end Go.Vf
namespace Go.Vf
open Go.Sw Go.RowKit
structure BE where
  p : Nat
  an : Option Addr
  n : Nat
  cn : Nat
  ak : Option Addr
  m : Nat
  ck : Nat
instance : Inhabited BE := ⟨⟨0, none, 0, 0, none, 0, 0⟩⟩
def beO (b : BE) : Nat × Obj := (b.p, .cells #[.slice b.an b.n b.cn, .slice b.ak b.m b.ck] 68 (0, 0))
def bodyG (bs : List BE) : Grp := bs.map beO
theorem bodyG_at {bs : List BE} {k : Nat} (h : k < bs.length) : (bodyG bs)[k]? = some (beO (bs.getD k default)) := by
  unfold bodyG
  rw [List.getElem?_map, List.getElem?_eq_getElem h, List.getD_eq_getElem?_getD, List.getElem?_eq_getElem h]; rfl
theorem bodyG_set (bs : List BE) (k : Nat) (b : BE) : (bodyG bs).set k (beO b) = bodyG (bs.set k b) := by
  unfold bodyG; rw [List.map_set]
structure KS where
  l : List Int
  a : Option Addr
  c : Nat
def ksNext (k : KS) : KS := ⟨k.l.drop 1, if k.l = [] then k.a else cutA k.a k.c 1 1, if k.l = [] then k.c else k.c - 1⟩
def KsOk (S : Nat → Obj → Prop) (k : KS) : Prop := Rd S k.a (k.l.map (Value.int .i64)) ∧ k.l.length ≤ k.c ∧ k.l.length ≤ 1000000000 ∧ ∀ x ∈ k.l, -9223372036854775808 ≤ x ∧ x ≤ 9223372036854775807
theorem ksNext_ok {S : Nat → Obj → Prop} {k : KS} (h : KsOk S k) : KsOk S (ksNext k) := by
  obtain ⟨h1, h2, h3, h4⟩ := h
  obtain ⟨l, a, c⟩ := k
  cases l with
  | nil => exact ⟨h1, h2, h3, h4⟩
  | cons x l =>
    simp only [List.length_cons] at h2 h3
    refine ⟨?_, ?_, ?_, fun y hy => h4 y (List.mem_cons_of_mem _ hy)⟩
    · have := h1.cut (cap := c) (l := 1) (sz := 1) (m := l.length) (by omega)
      have e : (((x :: l).map (Value.int .i64)).drop (1 * 1)).take l.length = l.map (Value.int .i64) := by
        rw [Nat.mul_one, List.map_cons, List.drop_succ_cons, List.drop_zero, List.take_of_length_le (by simp)]
      rw [e] at this
      simpa [ksNext] using this
    · show l.length ≤ (if (x :: l) = [] then c else c - 1)
      simp; omega
    · show l.length ≤ 1000000000
      omega
def crash1 (b : BE) (k : KS) : BE × KS :=
  if (b.n : Int) - (b.m : Int) > 0 then
    (⟨b.p, cutA b.an b.cn (Int.toNat 0) 1, Int.toNat ((b.m : Int) + nextK (k.l.headD 0) ((b.n : Int) - (b.m : Int) + 1)) - Int.toNat 0, b.cn - Int.toNat 0,
      cutA b.an b.cn (Int.toNat 0) 1, Int.toNat ((b.m : Int) + nextK (k.l.headD 0) ((b.n : Int) - (b.m : Int) + 1)) - Int.toNat 0, b.cn - Int.toNat 0⟩, ksNext k)
  else (⟨b.p, b.ak, b.m, b.ck, b.ak, b.m, b.ck⟩, k)
def stB (bs : List BE) (k : KS) : Nat → List BE × KS
  | 0 => (bs, k)
  | j + 1 => ((stB bs k j).1.set j (crash1 ((stB bs k j).1.getD j default) (stB bs k j).2).1, (crash1 ((stB bs k j).1.getD j default) (stB bs k j).2).2)
theorem stB_len (bs : List BE) (k : KS) : ∀ j, (stB bs k j).1.length = bs.length
  | 0 => rfl
  | j + 1 => by rw [stB, List.length_set, stB_len bs k j]
theorem stB_ok {S : Nat → Obj → Prop} {bs : List BE} {k : KS} (h : KsOk S k) : ∀ j, KsOk S (stB bs k j).2
  | 0 => h
  | j + 1 => by
    have := stB_ok (bs := bs) h j
    rw [stB]
    unfold crash1
    split
    · exact ksNext_ok this
    · exact this
theorem stB_at (bs : List BE) (k : KS) : ∀ (j i : Nat), j ≤ i → (stB bs k j).1.getD i default = bs.getD i default
  | 0, _, _ => rfl
  | j + 1, i, h => by
    rw [stB, List.getD_eq_getElem?_getD, List.getElem?_set_ne (by omega), ← List.getD_eq_getElem?_getD]
    exact stB_at bs k j i (by omega)
structure RowC where
  a : Option Addr
  c : Nat
  qs : List Nat
  xs : List SM
  xcs : List Nat
structure RowOk (S : Nat → Obj → Prop) (W0 : World) (H : List Grp) (cm : SM) (d : ByteArray) (r : RowC) : Prop where
  get : mget cm d = some (.slice r.a r.qs.length r.c)
  rd : Rd S r.a (r.qs.map fun q => Value.map (some q))
  len : r.xs.length = r.qs.length
  le : r.qs.length ≤ 1000000
  lec : r.qs.length ≤ r.c
  lay : ∀ i, i < r.qs.length → At W0 H (r.qs.getD i 0) (.map (encM (r.xs.getD i [])) (r.xcs.getD i 0)) ∧ MapOk (r.xs.getD i []) (r.xcs.getD i 0) ∧ ∀ e ∈ r.xs.getD i [], e.2.1 = .pointer none ∨ ∃ p, e.2.1 = .pointer (some ⟨p, 0, none⟩)
def keptN (r : RowC) (k : KS) : Nat := Int.toNat (nextK (k.l.headD 0) (((r.qs.length : Nat) : Int) + 1))
def CrashK (rows : ByteArray → RowC) : List ByteArray → (SM × Nat) × KS → (SM × Nat) × KS → Prop
  | [], s, t => t = s
  | d :: r, s, t => ∃ s1, MadeOf ((rows d).xs.take (keptN (rows d) s.2)) s.1 s1 ∧ CrashK rows r (s1, ksNext s.2) t
theorem crashK_snoc {rows : ByteArray → RowC} {d : ByteArray} {s1 : SM × Nat} : ∀ {l : List ByteArray} {s t : (SM × Nat) × KS}, CrashK rows l s t → MadeOf ((rows d).xs.take (keptN (rows d) t.2)) t.1 s1 → CrashK rows (l ++ [d]) s (s1, ksNext t.2)
  | [], s, t, h, hm => by subst h; exact ⟨s1, hm, rfl⟩
  | _ :: _, _, _, ⟨s2, h1, h2⟩, hm => ⟨s2, h1, crashK_snoc h2 hm⟩
theorem rd_cut0 {S : Nat → Obj → Prop} {a : Option Addr} {cs : List Value} {c m : Nat} (h : Rd S a cs) (hm : m ≤ cs.length) (hc : cs.length ≤ c) : Rd S (cutA a c (Int.toNat 0) 1) (cs.take m) := by
  have := h.cut (cap := c) (l := 0) (sz := 1) (m := m) (by omega)
  simpa using this
theorem map_take_at {qs : List Nat} {k m : Nat} (h : k < m) (hq : k < qs.length) : ((qs.map fun q => Value.map (some q)).take m)[k]? = some (.map (some (qs.getD k 0))) := by
  rw [List.getElem?_take_of_lt h]; exact map_at hq
theorem ptr_at {bs : List BE} {k : Nat} (h : k < bs.length) : (bs.map fun b => Value.pointer (some ⟨b.p, 0, none⟩))[k]? = some (.pointer (some ⟨(bs.getD k default).p, 0, none⟩)) := by
  rw [List.getElem?_map, List.getElem?_eq_getElem h, List.getD_eq_getElem?_getD, List.getElem?_eq_getElem h]; rfl
theorem sort_mem {ws : List ByteArray} {i : Nat} (h : i < (sortB ws).length) : (sortB ws).getD i default ∈ ws := by
  rw [List.getD_eq_getElem?_getD, List.getElem?_eq_getElem h]
  exact (sortB_perm ws).mem_iff.1 (List.getElem_mem h)
theorem stB_p (bs : List BE) (k : KS) (i : Nat) : ∀ j, ((stB bs k j).1.getD i default).p = (bs.getD i default).p
  | 0 => rfl
  | j + 1 => by
    rw [stB]
    by_cases h : i < (stB bs k j).1.length
    · by_cases hj : j = i
      · subst hj
        rw [List.getD_eq_getElem?_getD, List.getElem?_set_self h]
        unfold crash1
        split <;> exact stB_p bs k j j
      · rw [List.getD_eq_getElem?_getD, List.getElem?_set_ne hj, ← List.getD_eq_getElem?_getD]
        exact stB_p bs k i j
    · have h2 : ∀ l : List BE, l.length ≤ i → l.getD i default = default := fun l hl => by
        rw [List.getD_eq_getElem?_getD, List.getElem?_eq_none hl]; rfl
      have h3 := stB_p bs k i j
      rw [h2 _ (Nat.not_lt.1 h)] at h3
      rw [h2 _ (by rw [List.length_set]; omega)]
      exact h3
theorem stB_hb {bs : List BE} {ks : KS} {j : Nat} (h : j < bs.length) : (bodyG (stB bs ks j).1)[j]? = some ((bs.getD j default).p, .cells #[.slice ((stB bs ks j).1.getD j default).an ((stB bs ks j).1.getD j default).n ((stB bs ks j).1.getD j default).cn, .slice ((stB bs ks j).1.getD j default).ak ((stB bs ks j).1.getD j default).m ((stB bs ks j).1.getD j default).ck] 68 (0, 0)) := by
  rw [bodyG_at (by rw [stB_len]; exact h), beO, stB_p]
theorem getD_mem {bs : List BE} {j : Nat} (h : j < bs.length) : bs.getD j default ∈ bs := by
  rw [List.getD_eq_getElem?_getD, List.getElem?_eq_getElem h]
  exact List.getElem_mem h
theorem bodyG_at_set (l : List BE) (j : Nat) (e : BE) (h : j < l.length) : (bodyG (l.set j e))[j]? = some (e.p, .cells #[.slice e.an e.n e.cn, .slice e.ak e.m e.ck] 68 (0, 0)) := by
  rw [bodyG_at (by rw [List.length_set]; exact h), List.getD_eq_getElem?_getD, List.getElem?_set_self h]; rfl
theorem stB_yes {bs : List BE} {ks : KS} {j : Nat} (h : (((stB bs ks j).1.getD j default).n : Int) - (((stB bs ks j).1.getD j default).m : Int) > 0) :
    stB bs ks (j + 1) = ((stB bs ks j).1.set j ⟨(bs.getD j default).p, cutA ((stB bs ks j).1.getD j default).an ((stB bs ks j).1.getD j default).cn 0 1, Int.toNat ((((stB bs ks j).1.getD j default).m : Int) + nextK ((stB bs ks j).2.l.headD 0) ((((stB bs ks j).1.getD j default).n : Int) - (((stB bs ks j).1.getD j default).m : Int) + 1)) - 0, ((stB bs ks j).1.getD j default).cn - 0,
      cutA ((stB bs ks j).1.getD j default).an ((stB bs ks j).1.getD j default).cn 0 1, Int.toNat ((((stB bs ks j).1.getD j default).m : Int) + nextK ((stB bs ks j).2.l.headD 0) ((((stB bs ks j).1.getD j default).n : Int) - (((stB bs ks j).1.getD j default).m : Int) + 1)) - 0, ((stB bs ks j).1.getD j default).cn - 0⟩, ksNext (stB bs ks j).2) := by
  rw [stB]
  unfold crash1
  rw [if_pos h, stB_p]
  rfl
theorem stB_no {bs : List BE} {ks : KS} {j : Nat} (h : ¬ (((stB bs ks j).1.getD j default).n : Int) - (((stB bs ks j).1.getD j default).m : Int) > 0) :
    stB bs ks (j + 1) = ((stB bs ks j).1.set j ⟨(bs.getD j default).p, ((stB bs ks j).1.getD j default).ak, ((stB bs ks j).1.getD j default).m, ((stB bs ks j).1.getD j default).ck, ((stB bs ks j).1.getD j default).ak, ((stB bs ks j).1.getD j default).m, ((stB bs ks j).1.getD j default).ck⟩, (stB bs ks j).2) := by
  rw [stB]
  unfold crash1
  rw [if_neg h, stB_p]
theorem N_heq {Q : Post} {x : Exit} {n : Nat} {E : Env} {W0 : World} {H H' : List Grp} (h : H = H') (k : N Q x n E W0 H') : N Q x n E W0 H := by subst h; exact k
theorem take_ne {α : Type} {l : List α} {m : Nat} (h : 0 < m) (h2 : 0 < l.length) : l.take m ≠ [] := by
  intro e
  have := congrArg List.length e
  rw [List.length_take] at this
  simp only [List.length_nil] at this
  omega
end Go.Vf
