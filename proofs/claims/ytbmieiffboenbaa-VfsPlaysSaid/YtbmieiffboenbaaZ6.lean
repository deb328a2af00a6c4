/- The statements' first test holds. No condition. (and what it stands on) -/
import Derived.Test.YtbmieiffboenbaaZ5
namespace Go.Proofs.Ytbmieiffboenbaa
open Go.Sw Go.Lib Go.Vf Go.RowKit
theorem rList (x : Nat) (s : RS) (M : DM) (h : s.ok M) (hm : SmallR M) (d : ByteArray) (W0 : World) (H : List Grp) : Tri Try.prog 30 #[pt x, .string d] W0 ([(x, .cells #[.int .i64 M.room, .slice s.ba s.bn s.bc, .slice s.na s.nn s.nc, .slice s.ka s.kn s.kc, .slice s.ca s.cn s.cc, .bool M.fails, .bool M.once, .int .i64 M.calls] 86 (0, 0))] :: s.bg :: s.cg :: (s.Z ++ H)) (fun v H' => ∃ g, Own 9 1 v g (listM M d).length (strs (listM M d)) ∧ H' = g :: (s.G x M ++ H)) := by
  have hnn := h.nn
  have hbn := h.bn
  have hkn := h.kn
  have hcn := h.cn
  have hch := h.chs.len
  have hus := used_le hm.small fun x hx => (h.well.names x hx).2
  have hsn := hm.small.names
  have hsb := hm.small.bodies
  have hsc := hm.small.changes
  have hskn : M.kept.length ≤ 10000 := Nat.le_trans (Nat.le_add_right _ _) hm.kept
  have hsca := hm.small.calls
  refine Tri_of (args := [pt x, .string d]) (n := 65) Try.func30 rfl rfl (Nat.le_of_ble_eq_true rfl) ?_
  refine G_seq ?_
  refine G_pure (E' := [⟨0, [], pt x⟩, ⟨1, [], .string d⟩]) [0] [0, 1] rfl (by kernel_rfl) ?_
  refine N_then ?_
  refine G_seq ?_
  refine G_pure (E' := [⟨0, [], pt x⟩, ⟨1, [], .string d⟩, ⟨5, [], .slice none 0 0⟩]) [0] [0, 1, 5] rfl (by kernel_rfl) ?_
  refine N_then ?_
  refine G_seq ?_
  refine G_seq ?_
  refine G_region ?_
  refine GL_pure (E' := [⟨12, [], .pointer (some ⟨x, 2, none⟩)⟩, ⟨1, [], .string d⟩, ⟨5, [], .slice none 0 0⟩]) [0, 0, 0] (by kernel_rfl) (j := 3) rfl ?_
  refine GL_load (i := 3) (ch := []) (b := x) (off := 2) (v := .slice s.na s.nn s.nc) rfl rfl (by kernel_rfl) (by kernel_rfl) (by kernel_rfl) (by kernel_rfl) (by kernel_rfl) (At.grp 0 0 rfl rfl) rfl ?_
  refine GL_fin (E' := [⟨1, [], .string d⟩, ⟨5, [], .slice none 0 0⟩, ⟨13, [], .slice s.na s.nn s.nc⟩, ⟨14, [], .int .i64 ((s.nn : Nat) : Int)⟩, ⟨15, [], .int .i64 0⟩]) [0, 0] [1, 5, 13, 14, 15] rfl (by kernel_rfl) ?_
  refine N_then ?_
  refine G_block ?_
  refine G_heap (H' := ([(x, .cells #[.int .i64 M.room, .slice s.ba s.bn s.bc, .slice s.na s.nn s.nc, .slice s.ka s.kn s.kc, .slice s.ca s.cn s.cc, .bool M.fails, .bool M.once, .int .i64 M.calls] 86 (0, 0))] :: s.bg :: s.cg :: [] :: (s.Z ++ H))) (fun w h => flat_nil' (A := [_, _, _]) h) ?_
  refine G_loop (EI := (fun ξ : Nat × List ByteArray × Option Addr × Nat × Grp => [⟨1, [], .string d⟩, ⟨5, [], .slice ξ.2.2.1 ξ.2.1.length ξ.2.2.2.1⟩, ⟨13, [], .slice s.na s.nn s.nc⟩, ⟨14, [], .int .i64 ((s.nn : Nat) : Int)⟩, ⟨15, [], .int .i64 ((ξ.1 : Nat) : Int)⟩])) (HI := (fun ξ : Nat × List ByteArray × Option Addr × Nat × Grp => ([(x, .cells #[.int .i64 M.room, .slice s.ba s.bn s.bc, .slice s.na s.nn s.nc, .slice s.ka s.kn s.kc, .slice s.ca s.cn s.cc, .bool M.fails, .bool M.once, .int .i64 M.calls] 86 (0, 0))] :: s.bg :: s.cg :: ξ.2.2.2.2 :: (s.Z ++ H)))) (Φ := (fun ξ : Nat × List ByteArray × Option Addr × Nat × Grp => (ξ.1 ≤ M.names.length) ∧ (ξ.2.1.Perm (listP M d ξ.1)) ∧ (SortedB ξ.2.1) ∧ (Own 9 1 (.slice ξ.2.2.1 ξ.2.1.length ξ.2.2.2.1) ξ.2.2.2.2 ξ.2.1.length (strs ξ.2.1)))) (μ := (fun ξ : Nat × List ByteArray × Option Addr × Nat × Grp => M.names.length - ξ.1)) (s0 := (0, [], none, 0, [])) [1, 5, 13, 14, 15] (by kernel_rfl) rfl ⟨(by omega), (List.Perm.refl _), List.Pairwise.nil, Own.nil⟩ ?_
  rintro ⟨k, lo, la, lc, gl⟩ ⟨hk, hpm, hso, hO⟩
  replace hk : k ≤ M.names.length := hk
  replace hpm : lo.Perm (listP M d k) := hpm
  replace hso : SortedB lo := hso
  replace hO : Own 9 1 (.slice la lo.length lc) gl lo.length (strs lo) := hO
  refine G_seq ?_
  refine G_pure (E' := [⟨1, [], .string d⟩, ⟨5, [], .slice la lo.length lc⟩, ⟨13, [], .slice s.na s.nn s.nc⟩, ⟨14, [], .int .i64 ((s.nn : Nat) : Int)⟩, ⟨15, [], .int .i64 ((k : Nat) : Int)⟩, ⟨16, [], .bool (decide (((k : Nat) : Int) < ((s.nn : Nat) : Int)))⟩]) [0] [1, 5, 13, 14, 15, 16] rfl (by kernel_rfl) ?_
  refine N_then ?_
  refine G_seq ?_
  refine G_cond (b := decide (((k : Nat) : Int) < ((s.nn : Nat) : Int))) (by kernel_rfl) (fun hc1 => ?_) (fun hc1 => ?_)
  ·
    replace hc1 := of_decide_eq_true hc1
    have hps := hm.small.paths _ (getD_memG (l := M.names) (i := k) (by omega))
    have hll : lo.length ≤ M.names.length := by (rw [hpm.length_eq]; exact listP_len M d k)
    refine G_skip ?_
    refine N_then ?_
    refine G_seq ?_
    refine G_block ?_
    refine G_seq ?_
    refine G_region ?_
    refine GL_indexAddr (i := 0) (ch := []) (a := s.na) (len := s.nn) (cap := s.nc) (kd := .i64) (j := ((k : Nat) : Int)) (e := 94) (sz := 2) (S := (inZ s.Z)) (cs := (nmC M.names)) rfl rfl (by kernel_rfl) (by kernel_rfl) (by kernel_rfl) (by kernel_rfl) (by kernel_rfl) (by kernel_rfl) (by kernel_rfl) h.names (fun _ => by exact ⟨by omega, by omega, nmC_ne (i := k) (by omega)⟩) ?_
    refine GL_loadSA (i := 1) (ch := []) (a := s.na) (q := k * 2) (S := (inZ s.Z)) (cs := (nmC M.names)) (l := [.string ((M.names.getD k default).1), .int .i64 ((M.names.getD k default).2)]) rfl rfl (by kernel_rfl) (by kernel_rfl) (by kernel_rfl) (by kernel_rfl) (by kernel_rfl) (by kernel_rfl) h.names (fun y o h => (At.cons (At.cons (At.cons (At.cons (at_inZ h)))))) (List.cons_ne_nil _ _) (fun _ => (fun m hm => (cells2_at (by omega) m hm).trans (List.getElem?_eq_getElem hm))) ?_
    refine GL_alloc (i := 2) (ch := []) (z := .agg #[.string (ByteArray.mk #[]), .int .i64 0]) rfl rfl (by kernel_rfl) (by kernel_rfl) (by kernel_rfl) (by kernel_rfl) (fun b2 => ?_)
    refine GL_store (i := 3) (ch := []) (b := b2) (off := 0) (v := .agg #[.string ((M.names.getD k default).1), .int .i64 ((M.names.getD k default).2)]) (c := #[.string (ByteArray.mk #[]), .int .i64 0]) (c' := #[.string ((M.names.getD k default).1), .int .i64 ((M.names.getD k default).2)]) (j := 0) (m := 0) (H' := ([(b2, .cells #[.string ((M.names.getD k default).1), .int .i64 ((M.names.getD k default).2)] 94 (0, 0))] :: [(x, .cells #[.int .i64 M.room, .slice s.ba s.bn s.bc, .slice s.na s.nn s.nc, .slice s.ka s.kn s.kc, .slice s.ca s.cn s.cc, .bool M.fails, .bool M.once, .int .i64 M.calls] 86 (0, 0))] :: s.bg :: s.cg :: gl :: (s.Z ++ H))) rfl rfl (by kernel_rfl) (by kernel_rfl) (by kernel_rfl) (by kernel_rfl) (by kernel_rfl) (by kernel_rfl) (by kernel_rfl) rfl rfl (Nat.le_of_ble_eq_true rfl) (fun _ _ => thaw0) (by kernel_rfl) (by kernel_rfl) ?_
    refine GL_fin (E' := [⟨1, [], .string d⟩, ⟨5, [], .slice la lo.length lc⟩, ⟨7, [], pt b2⟩, ⟨13, [], .slice s.na s.nn s.nc⟩, ⟨14, [], .int .i64 ((s.nn : Nat) : Int)⟩, ⟨15, [], .int .i64 ((k : Nat) : Int)⟩]) [] [1, 5, 7, 13, 14, 15] rfl (by kernel_rfl) ?_
    refine N_then ?_
    refine G_seq ?_
    refine G_seq ?_
    refine G_region ?_
    refine GL_pure (E' := [⟨19, [], pt b2⟩, ⟨1, [], .string d⟩, ⟨5, [], .slice la lo.length lc⟩, ⟨7, [], pt b2⟩, ⟨13, [], .slice s.na s.nn s.nc⟩, ⟨14, [], .int .i64 ((s.nn : Nat) : Int)⟩, ⟨15, [], .int .i64 ((k : Nat) : Int)⟩]) [0] (by kernel_rfl) (j := 1) rfl ?_
    refine GL_load (i := 1) (ch := []) (b := b2) (off := 0) (v := .string ((M.names.getD k default).1)) rfl rfl (by kernel_rfl) (by kernel_rfl) (by kernel_rfl) (by kernel_rfl) (by kernel_rfl) (At.grp 0 0 rfl rfl) rfl ?_
    refine GL_callQ (i := 2) (ch := []) (f := 55) (fst := #[]) (caps := #[]) (vs := [.string ((M.names.getD k default).1)]) (v := .string (dirB ((M.names.getD k default).1))) rfl rfl rfl (by kernel_rfl) (by kernel_rfl) Try.func55 rfl rfl (by kernel_rfl) (by kernel_rfl) (by kernel_rfl) (fun _ => refDir _ (by omega) _ _) ?_
    refine GL_fin (E' := [⟨1, [], .string d⟩, ⟨5, [], .slice la lo.length lc⟩, ⟨7, [], pt b2⟩, ⟨13, [], .slice s.na s.nn s.nc⟩, ⟨14, [], .int .i64 ((s.nn : Nat) : Int)⟩, ⟨15, [], .int .i64 ((k : Nat) : Int)⟩, ⟨23, [], .bool (!((dirB ((M.names.getD k default).1)).toList == d.toList))⟩]) [0, 0] [1, 5, 7, 13, 14, 15, 23] rfl (by kernel_rfl) ?_
    refine N_then ?_
    refine G_cond (b := !((dirB ((M.names.getD k default).1)).toList == d.toList)) (by kernel_rfl) (fun hc3 => ?_) (fun hc3 => ?_)
    ·
      have hdn := hc3
      -- L skip
      refine G_exit ?_
      refine N_then_exit ?_
      refine N_block_exit ?_
      refine N_then ?_
      have hw4 : IntKind.wrap .i64 (((k : Nat) : Int) + 1) = ((k : Nat) : Int) + 1 := w64 (by omega) (by omega)
      refine G_pure (E' := [⟨1, [], .string d⟩, ⟨5, [], .slice la lo.length lc⟩, ⟨13, [], .slice s.na s.nn s.nc⟩, ⟨14, [], .int .i64 ((s.nn : Nat) : Int)⟩, ⟨15, [], .int .i64 (((k : Nat) : Int) + 1)⟩]) [0, 0] [1, 5, 13, 14, 15] rfl (Eq.trans (b := some [⟨1, [], .string d⟩, ⟨5, [], .slice la lo.length lc⟩, ⟨13, [], .slice s.na s.nn s.nc⟩, ⟨14, [], .int .i64 ((s.nn : Nat) : Int)⟩, ⟨15, [], .int .i64 (IntKind.wrap .i64 (((k : Nat) : Int) + 1))⟩]) (by kernel_rfl) (by simp only [hw4])) ?_
      refine N_heap (H' := ([(x, .cells #[.int .i64 M.room, .slice s.ba s.bn s.bc, .slice s.na s.nn s.nc, .slice s.ka s.kn s.kc, .slice s.ca s.cn s.cc, .bool M.fails, .bool M.once, .int .i64 M.calls] 86 (0, 0))] :: s.bg :: s.cg :: gl :: (s.Z ++ H))) (fun w h => (((((h.front (j := 4) rfl).front (j := 4) rfl).front (j := 4) rfl).front (j := 4) rfl).erase 4)) ?_
      refine N_heq (H' := ([(x, .cells #[.int .i64 M.room, .slice s.ba s.bn s.bc, .slice s.na s.nn s.nc, .slice s.ka s.kn s.kc, .slice s.ca s.cn s.cc, .bool M.fails, .bool M.once, .int .i64 M.calls] 86 (0, 0))] :: s.bg :: s.cg :: gl :: (s.Z ++ H))) rfl ?_
      refine N_round (s' := (k + 1, lo, la, lc, gl)) [1, 5, 13, 14, 15] (by kernel_rfl) rfl ⟨(by omega), (by rw [listP_no (by omega) hdn]; exact hpm), hso, hO⟩ (by omega)
    ·
      have hdn := hc3
      refine G_skip ?_
      refine N_then ?_
      refine G_seq ?_
      refine G_pure (E' := [⟨1, [], .string d⟩, ⟨5, [], .slice la lo.length lc⟩, ⟨7, [], pt b2⟩, ⟨8, [], .int .i64 0⟩, ⟨13, [], .slice s.na s.nn s.nc⟩, ⟨14, [], .int .i64 ((s.nn : Nat) : Int)⟩, ⟨15, [], .int .i64 ((k : Nat) : Int)⟩]) [0] [1, 5, 7, 8, 13, 14, 15] rfl (by kernel_rfl) ?_
      refine N_then ?_
      refine G_seq ?_
      refine G_block ?_
      refine G_loop (EI := (fun ξ : Nat => [⟨1, [], .string d⟩, ⟨5, [], .slice la lo.length lc⟩, ⟨7, [], pt b2⟩, ⟨8, [], .int .i64 ((ξ : Nat) : Int)⟩, ⟨13, [], .slice s.na s.nn s.nc⟩, ⟨14, [], .int .i64 ((s.nn : Nat) : Int)⟩, ⟨15, [], .int .i64 ((k : Nat) : Int)⟩])) (HI := (fun ξ : Nat => ([(b2, .cells #[.string ((M.names.getD k default).1), .int .i64 ((M.names.getD k default).2)] 94 (0, 0))] :: [(x, .cells #[.int .i64 M.room, .slice s.ba s.bn s.bc, .slice s.na s.nn s.nc, .slice s.ka s.kn s.kc, .slice s.ca s.cn s.cc, .bool M.fails, .bool M.once, .int .i64 M.calls] 86 (0, 0))] :: s.bg :: s.cg :: gl :: (s.Z ++ H)))) (Φ := (fun ξ : Nat => (ξ ≤ lo.length) ∧ (∀ x ∈ lo.take ξ, Op.bytesLess x.toList ((M.names.getD k default).1).toList = true))) (μ := (fun ξ : Nat => lo.length - ξ)) (s0 := (0)) [1, 5, 7, 8, 13, 14, 15] (by kernel_rfl) rfl ⟨(by omega), (by intro x hx; rw [List.take_zero] at hx; cases hx)⟩ ?_
      rintro i ⟨hi, hlt⟩
      replace hi : i ≤ lo.length := hi
      replace hlt : ∀ x ∈ lo.take i, Op.bytesLess x.toList ((M.names.getD k default).1).toList = true := hlt
      refine G_seq ?_
      refine G_seq ?_
      rcases Nat.lt_or_ge i lo.length with hil | hil
      ·
        refine G_regionD (by kernel_rfl) (by kernel_rfl) ?_
        refine GL_pure (E' := [⟨27, [], .bool (decide (((i : Nat) : Int) < ((lo.length : Nat) : Int)))⟩, ⟨1, [], .string d⟩, ⟨5, [], .slice la lo.length lc⟩, ⟨7, [], pt b2⟩, ⟨8, [], .int .i64 ((i : Nat) : Int)⟩, ⟨13, [], .slice s.na s.nn s.nc⟩, ⟨14, [], .int .i64 ((s.nn : Nat) : Int)⟩, ⟨15, [], .int .i64 ((k : Nat) : Int)⟩]) [0, 0, 0, 0] (by kernel_rfl) (j := 4) rfl ?_
        refine GL_env (E' := [⟨27, [], .bool true⟩, ⟨1, [], .string d⟩, ⟨5, [], .slice la lo.length lc⟩, ⟨7, [], pt b2⟩, ⟨8, [], .int .i64 ((i : Nat) : Int)⟩, ⟨13, [], .slice s.na s.nn s.nc⟩, ⟨14, [], .int .i64 ((s.nn : Nat) : Int)⟩, ⟨15, [], .int .i64 ((k : Nat) : Int)⟩]) (by rw [decide_eq_true (show ((i : Nat) : Int) < ((lo.length : Nat) : Int) by omega)]) ?_
        refine GL_pure (E' := [⟨30, [(28, true)], .int .i64 ((i : Nat) : Int)⟩, ⟨29, [(28, true)], .slice la lo.length lc⟩, ⟨28, [], .bool true⟩, ⟨1, [], .string d⟩, ⟨5, [], .slice la lo.length lc⟩, ⟨7, [], pt b2⟩, ⟨8, [], .int .i64 ((i : Nat) : Int)⟩, ⟨13, [], .slice s.na s.nn s.nc⟩, ⟨14, [], .int .i64 ((s.nn : Nat) : Int)⟩, ⟨15, [], .int .i64 ((k : Nat) : Int)⟩]) [0, 0, 0] (by kernel_rfl) (j := 7) rfl ?_
        refine GL_indexAddr (i := 7) (ch := [(28, true)]) (a := la) (len := lo.length) (cap := lc) (kd := .i64) (j := ((i : Nat) : Int)) (e := 9) (sz := 1) (S := (inG gl)) (cs := (strs lo)) rfl rfl (by kernel_rfl) (by kernel_rfl) (by kernel_rfl) (by kernel_rfl) (by kernel_rfl) (by kernel_rfl) (by kernel_rfl) (own_rd hO) (fun hc => by exact ⟨by omega, by omega, strs_ne0 hil⟩) ?_
        refine GL_loadS (i := 8) (ch := [(28, true)]) (a := la) (q := i * 1) (S := (inG gl)) (cs := (strs lo)) (v := .string (lo.getD i default)) rfl rfl (by kernel_rfl) (by kernel_rfl) (by kernel_rfl) (by kernel_rfl) (by kernel_rfl) (own_rd hO) (at_inG 4 rfl) (fun hc => (by rw [Nat.mul_one]; exact strs_at (by omega))) ?_
        refine GL_pure (E' := [⟨33, [(28, true)], pt b2⟩, ⟨32, [(28, true)], .string (lo.getD i default)⟩, ⟨28, [], .bool true⟩, ⟨1, [], .string d⟩, ⟨5, [], .slice la lo.length lc⟩, ⟨7, [], pt b2⟩, ⟨8, [], .int .i64 ((i : Nat) : Int)⟩, ⟨13, [], .slice s.na s.nn s.nc⟩, ⟨14, [], .int .i64 ((s.nn : Nat) : Int)⟩, ⟨15, [], .int .i64 ((k : Nat) : Int)⟩]) [0] (by kernel_rfl) (j := 10) rfl ?_
        refine GL_load (i := 10) (ch := [(28, true)]) (b := b2) (off := 0) (v := .string ((M.names.getD k default).1)) rfl rfl (by kernel_rfl) (by kernel_rfl) (by kernel_rfl) (by kernel_rfl) (by kernel_rfl) (At.grp 0 0 rfl rfl) rfl ?_
        refine GL_fin (E' := [⟨1, [], .string d⟩, ⟨5, [], .slice la lo.length lc⟩, ⟨7, [], pt b2⟩, ⟨8, [], .int .i64 ((i : Nat) : Int)⟩, ⟨13, [], .slice s.na s.nn s.nc⟩, ⟨14, [], .int .i64 ((s.nn : Nat) : Int)⟩, ⟨15, [], .int .i64 ((k : Nat) : Int)⟩, ⟨36, [], .bool (Op.bytesLess (lo.getD i default).toList ((M.names.getD k default).1).toList)⟩]) [0, 2] [1, 5, 7, 8, 13, 14, 15, 36] rfl (by kernel_rfl) ?_
        refine N_then ?_
        refine G_cond (b := Op.bytesLess (lo.getD i default).toList ((M.names.getD k default).1).toList) (by kernel_rfl) (fun hc5 => ?_) (fun hc5 => ?_)
        ·
          have hbl := hc5
          refine G_skip ?_
          refine N_then ?_
          refine G_block ?_
          have hw6 : IntKind.wrap .i64 (((i : Nat) : Int) + 1) = ((i : Nat) : Int) + 1 := w64 (by omega) (by omega)
          refine G_pure (E' := [⟨1, [], .string d⟩, ⟨5, [], .slice la lo.length lc⟩, ⟨7, [], pt b2⟩, ⟨8, [], .int .i64 (((i : Nat) : Int) + 1)⟩, ⟨13, [], .slice s.na s.nn s.nc⟩, ⟨14, [], .int .i64 ((s.nn : Nat) : Int)⟩, ⟨15, [], .int .i64 ((k : Nat) : Int)⟩]) [0, 0, 0] [1, 5, 7, 8, 13, 14, 15] rfl (Eq.trans (b := some [⟨1, [], .string d⟩, ⟨5, [], .slice la lo.length lc⟩, ⟨7, [], pt b2⟩, ⟨8, [], .int .i64 (IntKind.wrap .i64 (((i : Nat) : Int) + 1))⟩, ⟨13, [], .slice s.na s.nn s.nc⟩, ⟨14, [], .int .i64 ((s.nn : Nat) : Int)⟩, ⟨15, [], .int .i64 ((k : Nat) : Int)⟩]) (by kernel_rfl) (by simp only [hw6])) ?_
          refine N_block ?_
          refine N_round (s' := (i + 1)) [1, 5, 7, 8, 13, 14, 15] (by kernel_rfl) rfl ⟨(by omega), (take_bl (by omega) hlt hbl)⟩ (by omega)
        ·
          have hbl := hc5
          -- L bl
          refine G_exit ?_
          refine N_then_exit ?_
          refine N_then_exit ?_
          refine N_block_exit ?_
          refine N_then ?_
          refine G_seq ?_
          refine G_region ?_
          refine GL_pure (E' := [⟨39, [], .slice la lo.length lc⟩, ⟨1, [], .string d⟩, ⟨5, [], .slice la lo.length lc⟩, ⟨7, [], pt b2⟩, ⟨8, [], .int .i64 ((i : Nat) : Int)⟩, ⟨13, [], .slice s.na s.nn s.nc⟩, ⟨14, [], .int .i64 ((s.nn : Nat) : Int)⟩, ⟨15, [], .int .i64 ((k : Nat) : Int)⟩]) [0] (by kernel_rfl) (j := 1) rfl ?_
          refine GL_buildSlice (i := 1) (ch := []) (e := 9) (l := [(0, .string (ByteArray.mk #[]))]) (c := [.string (ByteArray.mk #[])]) rfl rfl (by kernel_rfl) (by kernel_rfl) (by kernel_rfl) (by kernel_rfl) (by kernel_rfl) (fun b7 => ?_)
          refine GL_append (i := 2) (ch := []) (t := 39) (tx := 39) (e := 9) (inf := Try.t9) (s := .slice la lo.length lc) (x := .slice (some ⟨b7, 0, none⟩) 1 1) (n := lo.length) (m := 1) (j := 5) (cs := (strs lo)) (news := [.string (ByteArray.mk #[])]) (g := gl) (S := (inG [(b7, .cells #[.string (ByteArray.mk #[])] 9 (0, 0))])) rfl rfl rfl rfl (by kernel_rfl) (by kernel_rfl) (by kernel_rfl) rfl rfl (.inl ⟨9, (by kernel_rfl)⟩) (fun ⟨_, h⟩ => by cases h) (fun _ => ⟨9, (by kernel_rfl)⟩) (by kernel_rfl) (by kernel_rfl) (by kernel_rfl) rfl hO (SrcOf.slice _ _ _ _ Rd.lit (fun h => by cases h)) (at_inG 0 rfl) (by kernel_rfl) (by intro u hu; rcases List.mem_singleton.1 hu with rfl; rfl) (by omega) (by show (lo.length + 1) * 16 ≤ 140737488355328; omega) (fun v8 g9 hO10 => ?_)
          obtain ⟨a11, cap12, rfl, hcap13, hrd14⟩ := hO10.shape
          refine GL_fin (E' := [⟨1, [], .string d⟩, ⟨5, [], .slice a11 (lo.length + 1) cap12⟩, ⟨7, [], pt b2⟩, ⟨8, [], .int .i64 ((i : Nat) : Int)⟩, ⟨13, [], .slice s.na s.nn s.nc⟩, ⟨14, [], .int .i64 ((s.nn : Nat) : Int)⟩, ⟨15, [], .int .i64 ((k : Nat) : Int)⟩]) [0] [1, 5, 7, 8, 13, 14, 15] rfl (by kernel_rfl) ?_
          refine N_then ?_
          refine G_seq ?_
          refine G_seq ?_
          have hw15 : IntKind.wrap .i64 ((((lo.length + 1) : Nat) : Int) - 1) = (((lo.length + 1) : Nat) : Int) - 1 := w64 (by omega) (by omega)
          refine G_region ?_
          refine GL_pure (E' := [⟨44, [], .int .i64 ((((lo.length + 1) : Nat) : Int) - 1)⟩, ⟨1, [], .string d⟩, ⟨5, [], .slice a11 (lo.length + 1) cap12⟩, ⟨7, [], pt b2⟩, ⟨8, [], .int .i64 ((i : Nat) : Int)⟩, ⟨13, [], .slice s.na s.nn s.nc⟩, ⟨14, [], .int .i64 ((s.nn : Nat) : Int)⟩, ⟨15, [], .int .i64 ((k : Nat) : Int)⟩]) [0, 0, 0] (Eq.trans (b := some [⟨44, [], .int .i64 (IntKind.wrap .i64 ((((lo.length + 1) : Nat) : Int) - 1))⟩, ⟨1, [], .string d⟩, ⟨5, [], .slice a11 (lo.length + 1) cap12⟩, ⟨7, [], pt b2⟩, ⟨8, [], .int .i64 ((i : Nat) : Int)⟩, ⟨13, [], .slice s.na s.nn s.nc⟩, ⟨14, [], .int .i64 ((s.nn : Nat) : Int)⟩, ⟨15, [], .int .i64 ((k : Nat) : Int)⟩]) (by kernel_rfl) (by simp only [hw15])) (j := 3) rfl ?_
          refine GL_env (E' := [⟨44, [], .int .i64 ((lo.length : Nat) : Int)⟩, ⟨1, [], .string d⟩, ⟨5, [], .slice a11 (lo.length + 1) cap12⟩, ⟨7, [], pt b2⟩, ⟨8, [], .int .i64 ((i : Nat) : Int)⟩, ⟨13, [], .slice s.na s.nn s.nc⟩, ⟨14, [], .int .i64 ((s.nn : Nat) : Int)⟩, ⟨15, [], .int .i64 ((k : Nat) : Int)⟩]) (by rw [show ((((lo.length + 1) : Nat) : Int) - 1) = ((lo.length : Nat) : Int) by omega]) ?_
          refine GL_fin (E' := [⟨1, [], .string d⟩, ⟨5, [], .slice a11 (lo.length + 1) cap12⟩, ⟨7, [], pt b2⟩, ⟨8, [], .int .i64 ((i : Nat) : Int)⟩, ⟨9, [], .int .i64 ((lo.length : Nat) : Int)⟩, ⟨13, [], .slice s.na s.nn s.nc⟩, ⟨14, [], .int .i64 ((s.nn : Nat) : Int)⟩, ⟨15, [], .int .i64 ((k : Nat) : Int)⟩]) [0] [1, 5, 7, 8, 9, 13, 14, 15] rfl (by kernel_rfl) ?_
          refine N_then ?_
          refine G_block ?_
          refine G_heap (H' := ([(b7, .cells #[.string (ByteArray.mk #[])] 9 (0, 0))] :: [(b2, .cells #[.string ((M.names.getD k default).1), .int .i64 ((M.names.getD k default).2)] 94 (0, 0))] :: [(x, .cells #[.int .i64 M.room, .slice s.ba s.bn s.bc, .slice s.na s.nn s.nc, .slice s.ka s.kn s.kc, .slice s.ca s.cn s.cc, .bool M.fails, .bool M.once, .int .i64 M.calls] 86 (0, 0))] :: s.bg :: s.cg :: g9 :: (s.Z ++ H))) (fun w h => ((((((h.front (j := 5) rfl).front (j := 5) rfl).front (j := 5) rfl).front (j := 5) rfl).front (j := 5) rfl).front (j := 5) rfl)) ?_
          refine G_loop (EI := (fun ξ : Nat × Grp => [⟨1, [], .string d⟩, ⟨5, [], .slice a11 (lo.length + 1) cap12⟩, ⟨7, [], pt b2⟩, ⟨8, [], .int .i64 ((i : Nat) : Int)⟩, ⟨9, [], .int .i64 ((ξ.1 : Nat) : Int)⟩, ⟨13, [], .slice s.na s.nn s.nc⟩, ⟨14, [], .int .i64 ((s.nn : Nat) : Int)⟩, ⟨15, [], .int .i64 ((k : Nat) : Int)⟩])) (HI := (fun ξ : Nat × Grp => ([(b7, .cells #[.string (ByteArray.mk #[])] 9 (0, 0))] :: [(b2, .cells #[.string ((M.names.getD k default).1), .int .i64 ((M.names.getD k default).2)] 94 (0, 0))] :: [(x, .cells #[.int .i64 M.room, .slice s.ba s.bn s.bc, .slice s.na s.nn s.nc, .slice s.ka s.kn s.kc, .slice s.ca s.cn s.cc, .bool M.fails, .bool M.once, .int .i64 M.calls] 86 (0, 0))] :: s.bg :: s.cg :: ξ.2 :: (s.Z ++ H)))) (Φ := (fun ξ : Nat × Grp => (i ≤ ξ.1) ∧ (ξ.1 ≤ lo.length) ∧ (Own 9 1 (.slice a11 (lo.length + 1) cap12) ξ.2 (lo.length + 1) (strs (shiftL lo ξ.1))))) (μ := (fun ξ : Nat × Grp => ξ.1)) (s0 := (lo.length, g9)) [1, 5, 7, 8, 9, 13, 14, 15] (by kernel_rfl) rfl ⟨(by omega), (by omega), (own_sh0 hO10)⟩ ?_
          rintro ⟨kk, gg⟩ ⟨hik, hkk, hS⟩
          replace hik : i ≤ kk := hik
          replace hkk : kk ≤ lo.length := hkk
          replace hS : Own 9 1 (.slice a11 (lo.length + 1) cap12) gg (lo.length + 1) (strs (shiftL lo kk)) := hS
          have hsl := shiftL_len hkk
          refine G_seq ?_
          refine G_seq ?_
          refine G_pure (E' := [⟨1, [], .string d⟩, ⟨5, [], .slice a11 (lo.length + 1) cap12⟩, ⟨7, [], pt b2⟩, ⟨8, [], .int .i64 ((i : Nat) : Int)⟩, ⟨9, [], .int .i64 ((kk : Nat) : Int)⟩, ⟨13, [], .slice s.na s.nn s.nc⟩, ⟨14, [], .int .i64 ((s.nn : Nat) : Int)⟩, ⟨15, [], .int .i64 ((k : Nat) : Int)⟩, ⟨47, [], .bool (decide (((kk : Nat) : Int) > ((i : Nat) : Int)))⟩]) [0, 0, 0] [1, 5, 7, 8, 9, 13, 14, 15, 47] rfl (by kernel_rfl) ?_
          refine N_then ?_
          refine G_cond (b := decide (((kk : Nat) : Int) > ((i : Nat) : Int))) (by kernel_rfl) (fun hc16 => ?_) (fun hc16 => ?_)
          ·
            replace hc16 := of_decide_eq_true hc16
            refine G_skip ?_
            refine N_then ?_
            refine G_seq ?_
            refine G_block ?_
            have hw17 : IntKind.wrap .i64 (((kk : Nat) : Int) - 1) = ((kk : Nat) : Int) - 1 := w64 (by omega) (by omega)
            refine G_region ?_
            refine GL_pure (E' := [⟨54, [], .int .i64 (((kk : Nat) : Int) - 1)⟩, ⟨52, [], .slice a11 (lo.length + 1) cap12⟩, ⟨51, [], .int .i64 ((kk : Nat) : Int)⟩, ⟨50, [], .slice a11 (lo.length + 1) cap12⟩, ⟨1, [], .string d⟩, ⟨5, [], .slice a11 (lo.length + 1) cap12⟩, ⟨7, [], pt b2⟩, ⟨8, [], .int .i64 ((i : Nat) : Int)⟩, ⟨9, [], .int .i64 ((kk : Nat) : Int)⟩, ⟨13, [], .slice s.na s.nn s.nc⟩, ⟨14, [], .int .i64 ((s.nn : Nat) : Int)⟩, ⟨15, [], .int .i64 ((k : Nat) : Int)⟩]) [0, 0, 0, 0, 0] (Eq.trans (b := some [⟨54, [], .int .i64 (IntKind.wrap .i64 (((kk : Nat) : Int) - 1))⟩, ⟨52, [], .slice a11 (lo.length + 1) cap12⟩, ⟨51, [], .int .i64 ((kk : Nat) : Int)⟩, ⟨50, [], .slice a11 (lo.length + 1) cap12⟩, ⟨1, [], .string d⟩, ⟨5, [], .slice a11 (lo.length + 1) cap12⟩, ⟨7, [], pt b2⟩, ⟨8, [], .int .i64 ((i : Nat) : Int)⟩, ⟨9, [], .int .i64 ((kk : Nat) : Int)⟩, ⟨13, [], .slice s.na s.nn s.nc⟩, ⟨14, [], .int .i64 ((s.nn : Nat) : Int)⟩, ⟨15, [], .int .i64 ((k : Nat) : Int)⟩]) (by kernel_rfl) (by simp only [hw17])) (j := 5) rfl ?_
            refine GL_indexAddr (i := 5) (ch := []) (a := a11) (len := (lo.length + 1)) (cap := cap12) (kd := .i64) (j := ((kk : Nat) : Int) - 1) (e := 9) (sz := 1) (S := (inG gg)) (cs := (strs (shiftL lo kk))) rfl rfl (by kernel_rfl) (by kernel_rfl) (by kernel_rfl) (by kernel_rfl) (by kernel_rfl) (by kernel_rfl) (by kernel_rfl) (own_rd hS) (fun _ => by exact ⟨by omega, by omega, strs_ne0 (i := 0) (by omega)⟩) ?_
            refine GL_loadS (i := 6) (ch := []) (a := a11) (q := (Int.toNat (((kk : Nat) : Int) - 1)) * 1) (S := (inG gg)) (cs := (strs (shiftL lo kk))) (v := .string ((shiftL lo kk).getD (Int.toNat (((kk : Nat) : Int) - 1)) default)) rfl rfl (by kernel_rfl) (by kernel_rfl) (by kernel_rfl) (by kernel_rfl) (by kernel_rfl) (own_rd hS) (at_inG 5 rfl) (fun _ => (by rw [Nat.mul_one]; exact strs_at (by omega))) ?_
            refine GL_indexAddr (i := 7) (ch := []) (a := a11) (len := (lo.length + 1)) (cap := cap12) (kd := .i64) (j := ((kk : Nat) : Int)) (e := 9) (sz := 1) (S := (inG gg)) (cs := (strs (shiftL lo kk))) rfl rfl (by kernel_rfl) (by kernel_rfl) (by kernel_rfl) (by kernel_rfl) (by kernel_rfl) (by kernel_rfl) (by kernel_rfl) (own_rd hS) (fun _ => by exact ⟨by omega, by omega, strs_ne0 (i := 0) (by omega)⟩) ?_
            refine GL_storeO (i := 8) (ch := []) (a := a11) (q := kk * 1) (len := (lo.length + 1)) (cap := cap12) (v := .string ((shiftL lo kk).getD (Int.toNat (((kk : Nat) : Int) - 1)) default)) (g := gg) (j := 5) (cs := (strs (shiftL lo kk))) (cs' := (strs ((shiftL lo kk).set kk ((shiftL lo kk).getD (Int.toNat (((kk : Nat) : Int) - 1)) default)))) rfl rfl (by kernel_rfl) (by kernel_rfl) (by kernel_rfl) (by kernel_rfl) rfl (by kernel_rfl) (by kernel_rfl) (by kernel_rfl) rfl hS (by rw [strs_len]; omega) (by rw [Nat.mul_one]; exact strs_set) (fun g18 hO19 => ?_)
            refine GL_fin (E' := [⟨1, [], .string d⟩, ⟨5, [], .slice a11 (lo.length + 1) cap12⟩, ⟨7, [], pt b2⟩, ⟨8, [], .int .i64 ((i : Nat) : Int)⟩, ⟨9, [], .int .i64 ((kk : Nat) : Int)⟩, ⟨13, [], .slice s.na s.nn s.nc⟩, ⟨14, [], .int .i64 ((s.nn : Nat) : Int)⟩, ⟨15, [], .int .i64 ((k : Nat) : Int)⟩]) [] [1, 5, 7, 8, 9, 13, 14, 15] rfl (by kernel_rfl) ?_
            refine N_block ?_
            refine N_then ?_
            have hw20 : IntKind.wrap .i64 (((kk : Nat) : Int) - 1) = ((kk : Nat) : Int) - 1 := w64 (by omega) (by omega)
            refine G_pure (E' := [⟨1, [], .string d⟩, ⟨5, [], .slice a11 (lo.length + 1) cap12⟩, ⟨7, [], pt b2⟩, ⟨8, [], .int .i64 ((i : Nat) : Int)⟩, ⟨9, [], .int .i64 (((kk : Nat) : Int) - 1)⟩, ⟨13, [], .slice s.na s.nn s.nc⟩, ⟨14, [], .int .i64 ((s.nn : Nat) : Int)⟩, ⟨15, [], .int .i64 ((k : Nat) : Int)⟩]) [0, 0, 0] [1, 5, 7, 8, 9, 13, 14, 15] rfl (Eq.trans (b := some [⟨1, [], .string d⟩, ⟨5, [], .slice a11 (lo.length + 1) cap12⟩, ⟨7, [], pt b2⟩, ⟨8, [], .int .i64 ((i : Nat) : Int)⟩, ⟨9, [], .int .i64 (IntKind.wrap .i64 (((kk : Nat) : Int) - 1))⟩, ⟨13, [], .slice s.na s.nn s.nc⟩, ⟨14, [], .int .i64 ((s.nn : Nat) : Int)⟩, ⟨15, [], .int .i64 ((k : Nat) : Int)⟩]) (by kernel_rfl) (by simp only [hw20])) ?_
            refine N_env (E' := [⟨1, [], .string d⟩, ⟨5, [], .slice a11 (lo.length + 1) cap12⟩, ⟨7, [], pt b2⟩, ⟨8, [], .int .i64 ((i : Nat) : Int)⟩, ⟨9, [], .int .i64 ((kk - 1 : Nat) : Int)⟩, ⟨13, [], .slice s.na s.nn s.nc⟩, ⟨14, [], .int .i64 ((s.nn : Nat) : Int)⟩, ⟨15, [], .int .i64 ((k : Nat) : Int)⟩]) (by rw [show ((kk - 1 : Nat) : Int) = ((kk : Nat) : Int) - 1 by omega]) ?_
            refine N_heap (H' := ([(b7, .cells #[.string (ByteArray.mk #[])] 9 (0, 0))] :: [(b2, .cells #[.string ((M.names.getD k default).1), .int .i64 ((M.names.getD k default).2)] 94 (0, 0))] :: [(x, .cells #[.int .i64 M.room, .slice s.ba s.bn s.bc, .slice s.na s.nn s.nc, .slice s.ka s.kn s.kc, .slice s.ca s.cn s.cc, .bool M.fails, .bool M.once, .int .i64 M.calls] 86 (0, 0))] :: s.bg :: s.cg :: g18 :: (s.Z ++ H))) (fun w h => ((((((h.front (j := 5) rfl).front (j := 5) rfl).front (j := 5) rfl).front (j := 5) rfl).front (j := 5) rfl).front (j := 5) rfl)) ?_
            refine N_heq (H' := ([(b7, .cells #[.string (ByteArray.mk #[])] 9 (0, 0))] :: [(b2, .cells #[.string ((M.names.getD k default).1), .int .i64 ((M.names.getD k default).2)] 94 (0, 0))] :: [(x, .cells #[.int .i64 M.room, .slice s.ba s.bn s.bc, .slice s.na s.nn s.nc, .slice s.ka s.kn s.kc, .slice s.ca s.cn s.cc, .bool M.fails, .bool M.once, .int .i64 M.calls] 86 (0, 0))] :: s.bg :: s.cg :: g18 :: (s.Z ++ H))) rfl ?_
            refine N_round (s' := (kk - 1, g18)) [1, 5, 7, 8, 9, 13, 14, 15] (by kernel_rfl) rfl ⟨(by omega), (by omega), (shift_own (i := i) (by omega) (by omega) hO19)⟩ (by omega)
          ·
            replace hc16 := of_decide_eq_false hc16
            have hki : kk = i := by omega
            refine G_exit ?_
            refine N_then_exit ?_
            refine N_then_exit ?_
            refine N_block_exit ?_
            refine N_then ?_
            refine G_region ?_
            refine GL_pure (E' := [⟨60, [], pt b2⟩, ⟨59, [], .int .i64 ((i : Nat) : Int)⟩, ⟨58, [], .slice a11 (lo.length + 1) cap12⟩, ⟨1, [], .string d⟩, ⟨5, [], .slice a11 (lo.length + 1) cap12⟩, ⟨13, [], .slice s.na s.nn s.nc⟩, ⟨14, [], .int .i64 ((s.nn : Nat) : Int)⟩, ⟨15, [], .int .i64 ((k : Nat) : Int)⟩]) [0, 0, 0] (by kernel_rfl) (j := 3) rfl ?_
            refine GL_load (i := 3) (ch := []) (b := b2) (off := 0) (v := .string ((M.names.getD k default).1)) rfl rfl (by kernel_rfl) (by kernel_rfl) (by kernel_rfl) (by kernel_rfl) (by kernel_rfl) (At.grp 1 0 rfl rfl) rfl ?_
            refine GL_indexAddr (i := 4) (ch := []) (a := a11) (len := (lo.length + 1)) (cap := cap12) (kd := .i64) (j := ((i : Nat) : Int)) (e := 9) (sz := 1) (S := (inG gg)) (cs := (strs (shiftL lo kk))) rfl rfl (by kernel_rfl) (by kernel_rfl) (by kernel_rfl) (by kernel_rfl) (by kernel_rfl) (by kernel_rfl) (by kernel_rfl) (own_rd hS) (fun _ => by exact ⟨by omega, by omega, strs_ne0 (i := 0) (by omega)⟩) ?_
            refine GL_storeO (i := 5) (ch := []) (a := a11) (q := i * 1) (len := (lo.length + 1)) (cap := cap12) (v := .string ((M.names.getD k default).1)) (g := gg) (j := 5) (cs := (strs (shiftL lo kk))) (cs' := (strs ((shiftL lo kk).set i ((M.names.getD k default).1)))) rfl rfl (by kernel_rfl) (by kernel_rfl) (by kernel_rfl) (by kernel_rfl) rfl (by kernel_rfl) (by kernel_rfl) (by kernel_rfl) rfl hS (by rw [strs_len]; omega) (by rw [Nat.mul_one]; exact strs_set) (fun g21 hO22 => ?_)
            refine GL_fin (E' := [⟨1, [], .string d⟩, ⟨5, [], .slice a11 (lo.length + 1) cap12⟩, ⟨13, [], .slice s.na s.nn s.nc⟩, ⟨14, [], .int .i64 ((s.nn : Nat) : Int)⟩, ⟨15, [], .int .i64 ((k : Nat) : Int)⟩]) [] [1, 5, 13, 14, 15] rfl (by kernel_rfl) ?_
            refine N_block ?_
            refine N_then ?_
            have hw23 : IntKind.wrap .i64 (((k : Nat) : Int) + 1) = ((k : Nat) : Int) + 1 := w64 (by omega) (by omega)
            refine G_pure (E' := [⟨1, [], .string d⟩, ⟨5, [], .slice a11 (lo.length + 1) cap12⟩, ⟨13, [], .slice s.na s.nn s.nc⟩, ⟨14, [], .int .i64 ((s.nn : Nat) : Int)⟩, ⟨15, [], .int .i64 (((k : Nat) : Int) + 1)⟩]) [0, 0] [1, 5, 13, 14, 15] rfl (Eq.trans (b := some [⟨1, [], .string d⟩, ⟨5, [], .slice a11 (lo.length + 1) cap12⟩, ⟨13, [], .slice s.na s.nn s.nc⟩, ⟨14, [], .int .i64 ((s.nn : Nat) : Int)⟩, ⟨15, [], .int .i64 (IntKind.wrap .i64 (((k : Nat) : Int) + 1))⟩]) (by kernel_rfl) (by simp only [hw23])) ?_
            refine N_env (E' := [⟨1, [], .string d⟩, ⟨5, [], .slice a11 ((insAt lo i (M.names.getD k default).1).length) cap12⟩, ⟨13, [], .slice s.na s.nn s.nc⟩, ⟨14, [], .int .i64 ((s.nn : Nat) : Int)⟩, ⟨15, [], .int .i64 (((k : Nat) : Int) + 1)⟩]) (by rw [insAt_len]) ?_
            refine N_heap (H' := ([(x, .cells #[.int .i64 M.room, .slice s.ba s.bn s.bc, .slice s.na s.nn s.nc, .slice s.ka s.kn s.kc, .slice s.ca s.cn s.cc, .bool M.fails, .bool M.once, .int .i64 M.calls] 86 (0, 0))] :: s.bg :: s.cg :: g21 :: (s.Z ++ H))) (fun w h => ((((((h.front (j := 5) rfl).front (j := 5) rfl).front (j := 5) rfl).front (j := 5) rfl).erase 5).erase 4)) ?_
            refine N_heq (H' := ([(x, .cells #[.int .i64 M.room, .slice s.ba s.bn s.bc, .slice s.na s.nn s.nc, .slice s.ka s.kn s.kc, .slice s.ca s.cn s.cc, .bool M.fails, .bool M.once, .int .i64 M.calls] 86 (0, 0))] :: s.bg :: s.cg :: g21 :: (s.Z ++ H))) rfl ?_
            refine N_round (s' := (k + 1, insAt lo i (M.names.getD k default).1, a11, cap12, g21)) [1, 5, 13, 14, 15] (by kernel_rfl) rfl ⟨(by omega), (by rw [listP_yes (by omega) hdn]; exact ins_perm hpm), (sorted_ins hso hlt (.inr hbl)), (own_ins (by omega) (by have h9 := hO22; rw [hki] at h9; exact h9))⟩ (by omega)
      ·
        -- L end
        refine G_regionD (by kernel_rfl) (by kernel_rfl) ?_
        refine GL_pure (E' := [⟨27, [], .bool (decide (((i : Nat) : Int) < ((lo.length : Nat) : Int)))⟩, ⟨1, [], .string d⟩, ⟨5, [], .slice la lo.length lc⟩, ⟨7, [], pt b2⟩, ⟨8, [], .int .i64 ((i : Nat) : Int)⟩, ⟨13, [], .slice s.na s.nn s.nc⟩, ⟨14, [], .int .i64 ((s.nn : Nat) : Int)⟩, ⟨15, [], .int .i64 ((k : Nat) : Int)⟩]) [0, 0, 0, 0] (by kernel_rfl) (j := 4) rfl ?_
        refine GL_env (E' := [⟨27, [], .bool false⟩, ⟨1, [], .string d⟩, ⟨5, [], .slice la lo.length lc⟩, ⟨7, [], pt b2⟩, ⟨8, [], .int .i64 ((i : Nat) : Int)⟩, ⟨13, [], .slice s.na s.nn s.nc⟩, ⟨14, [], .int .i64 ((s.nn : Nat) : Int)⟩, ⟨15, [], .int .i64 ((k : Nat) : Int)⟩]) (by rw [decide_eq_false (show ¬ ((i : Nat) : Int) < ((lo.length : Nat) : Int) by omega)]) ?_
        refine GL_fin (E' := [⟨1, [], .string d⟩, ⟨5, [], .slice la lo.length lc⟩, ⟨7, [], pt b2⟩, ⟨8, [], .int .i64 ((i : Nat) : Int)⟩, ⟨13, [], .slice s.na s.nn s.nc⟩, ⟨14, [], .int .i64 ((s.nn : Nat) : Int)⟩, ⟨15, [], .int .i64 ((k : Nat) : Int)⟩, ⟨36, [], .bool false⟩]) [0, 1, 1, 1, 1, 1, 1, 1, 3] [1, 5, 7, 8, 13, 14, 15, 36] rfl (by kernel_rfl) ?_
        refine N_then ?_
        refine G_condf (by kernel_rfl) ?_
        refine G_exit ?_
        refine N_then_exit ?_
        refine N_then_exit ?_
        refine N_block_exit ?_
        refine N_then ?_
        refine G_seq ?_
        refine G_region ?_
        refine GL_pure (E' := [⟨39, [], .slice la lo.length lc⟩, ⟨1, [], .string d⟩, ⟨5, [], .slice la lo.length lc⟩, ⟨7, [], pt b2⟩, ⟨8, [], .int .i64 ((i : Nat) : Int)⟩, ⟨13, [], .slice s.na s.nn s.nc⟩, ⟨14, [], .int .i64 ((s.nn : Nat) : Int)⟩, ⟨15, [], .int .i64 ((k : Nat) : Int)⟩]) [0] (by kernel_rfl) (j := 1) rfl ?_
        refine GL_buildSlice (i := 1) (ch := []) (e := 9) (l := [(0, .string (ByteArray.mk #[]))]) (c := [.string (ByteArray.mk #[])]) rfl rfl (by kernel_rfl) (by kernel_rfl) (by kernel_rfl) (by kernel_rfl) (by kernel_rfl) (fun b24 => ?_)
        refine GL_append (i := 2) (ch := []) (t := 39) (tx := 39) (e := 9) (inf := Try.t9) (s := .slice la lo.length lc) (x := .slice (some ⟨b24, 0, none⟩) 1 1) (n := lo.length) (m := 1) (j := 5) (cs := (strs lo)) (news := [.string (ByteArray.mk #[])]) (g := gl) (S := (inG [(b24, .cells #[.string (ByteArray.mk #[])] 9 (0, 0))])) rfl rfl rfl rfl (by kernel_rfl) (by kernel_rfl) (by kernel_rfl) rfl rfl (.inl ⟨9, (by kernel_rfl)⟩) (fun ⟨_, h⟩ => by cases h) (fun _ => ⟨9, (by kernel_rfl)⟩) (by kernel_rfl) (by kernel_rfl) (by kernel_rfl) rfl hO (SrcOf.slice _ _ _ _ Rd.lit (fun h => by cases h)) (at_inG 0 rfl) (by kernel_rfl) (by intro u hu; rcases List.mem_singleton.1 hu with rfl; rfl) (by omega) (by show (lo.length + 1) * 16 ≤ 140737488355328; omega) (fun v25 g26 hO27 => ?_)
        obtain ⟨a28, cap29, rfl, hcap30, hrd31⟩ := hO27.shape
        refine GL_fin (E' := [⟨1, [], .string d⟩, ⟨5, [], .slice a28 (lo.length + 1) cap29⟩, ⟨7, [], pt b2⟩, ⟨8, [], .int .i64 ((i : Nat) : Int)⟩, ⟨13, [], .slice s.na s.nn s.nc⟩, ⟨14, [], .int .i64 ((s.nn : Nat) : Int)⟩, ⟨15, [], .int .i64 ((k : Nat) : Int)⟩]) [0] [1, 5, 7, 8, 13, 14, 15] rfl (by kernel_rfl) ?_
        refine N_then ?_
        refine G_seq ?_
        refine G_seq ?_
        have hw32 : IntKind.wrap .i64 ((((lo.length + 1) : Nat) : Int) - 1) = (((lo.length + 1) : Nat) : Int) - 1 := w64 (by omega) (by omega)
        refine G_region ?_
        refine GL_pure (E' := [⟨44, [], .int .i64 ((((lo.length + 1) : Nat) : Int) - 1)⟩, ⟨1, [], .string d⟩, ⟨5, [], .slice a28 (lo.length + 1) cap29⟩, ⟨7, [], pt b2⟩, ⟨8, [], .int .i64 ((i : Nat) : Int)⟩, ⟨13, [], .slice s.na s.nn s.nc⟩, ⟨14, [], .int .i64 ((s.nn : Nat) : Int)⟩, ⟨15, [], .int .i64 ((k : Nat) : Int)⟩]) [0, 0, 0] (Eq.trans (b := some [⟨44, [], .int .i64 (IntKind.wrap .i64 ((((lo.length + 1) : Nat) : Int) - 1))⟩, ⟨1, [], .string d⟩, ⟨5, [], .slice a28 (lo.length + 1) cap29⟩, ⟨7, [], pt b2⟩, ⟨8, [], .int .i64 ((i : Nat) : Int)⟩, ⟨13, [], .slice s.na s.nn s.nc⟩, ⟨14, [], .int .i64 ((s.nn : Nat) : Int)⟩, ⟨15, [], .int .i64 ((k : Nat) : Int)⟩]) (by kernel_rfl) (by simp only [hw32])) (j := 3) rfl ?_
        refine GL_env (E' := [⟨44, [], .int .i64 ((lo.length : Nat) : Int)⟩, ⟨1, [], .string d⟩, ⟨5, [], .slice a28 (lo.length + 1) cap29⟩, ⟨7, [], pt b2⟩, ⟨8, [], .int .i64 ((i : Nat) : Int)⟩, ⟨13, [], .slice s.na s.nn s.nc⟩, ⟨14, [], .int .i64 ((s.nn : Nat) : Int)⟩, ⟨15, [], .int .i64 ((k : Nat) : Int)⟩]) (by rw [show ((((lo.length + 1) : Nat) : Int) - 1) = ((lo.length : Nat) : Int) by omega]) ?_
        refine GL_fin (E' := [⟨1, [], .string d⟩, ⟨5, [], .slice a28 (lo.length + 1) cap29⟩, ⟨7, [], pt b2⟩, ⟨8, [], .int .i64 ((i : Nat) : Int)⟩, ⟨9, [], .int .i64 ((lo.length : Nat) : Int)⟩, ⟨13, [], .slice s.na s.nn s.nc⟩, ⟨14, [], .int .i64 ((s.nn : Nat) : Int)⟩, ⟨15, [], .int .i64 ((k : Nat) : Int)⟩]) [0] [1, 5, 7, 8, 9, 13, 14, 15] rfl (by kernel_rfl) ?_
        refine N_then ?_
        refine G_block ?_
        refine G_heap (H' := ([(b24, .cells #[.string (ByteArray.mk #[])] 9 (0, 0))] :: [(b2, .cells #[.string ((M.names.getD k default).1), .int .i64 ((M.names.getD k default).2)] 94 (0, 0))] :: [(x, .cells #[.int .i64 M.room, .slice s.ba s.bn s.bc, .slice s.na s.nn s.nc, .slice s.ka s.kn s.kc, .slice s.ca s.cn s.cc, .bool M.fails, .bool M.once, .int .i64 M.calls] 86 (0, 0))] :: s.bg :: s.cg :: g26 :: (s.Z ++ H))) (fun w h => ((((((h.front (j := 5) rfl).front (j := 5) rfl).front (j := 5) rfl).front (j := 5) rfl).front (j := 5) rfl).front (j := 5) rfl)) ?_
        refine G_loop (EI := (fun ξ : Nat × Grp => [⟨1, [], .string d⟩, ⟨5, [], .slice a28 (lo.length + 1) cap29⟩, ⟨7, [], pt b2⟩, ⟨8, [], .int .i64 ((i : Nat) : Int)⟩, ⟨9, [], .int .i64 ((ξ.1 : Nat) : Int)⟩, ⟨13, [], .slice s.na s.nn s.nc⟩, ⟨14, [], .int .i64 ((s.nn : Nat) : Int)⟩, ⟨15, [], .int .i64 ((k : Nat) : Int)⟩])) (HI := (fun ξ : Nat × Grp => ([(b24, .cells #[.string (ByteArray.mk #[])] 9 (0, 0))] :: [(b2, .cells #[.string ((M.names.getD k default).1), .int .i64 ((M.names.getD k default).2)] 94 (0, 0))] :: [(x, .cells #[.int .i64 M.room, .slice s.ba s.bn s.bc, .slice s.na s.nn s.nc, .slice s.ka s.kn s.kc, .slice s.ca s.cn s.cc, .bool M.fails, .bool M.once, .int .i64 M.calls] 86 (0, 0))] :: s.bg :: s.cg :: ξ.2 :: (s.Z ++ H)))) (Φ := (fun ξ : Nat × Grp => (i ≤ ξ.1) ∧ (ξ.1 ≤ lo.length) ∧ (Own 9 1 (.slice a28 (lo.length + 1) cap29) ξ.2 (lo.length + 1) (strs (shiftL lo ξ.1))))) (μ := (fun ξ : Nat × Grp => ξ.1)) (s0 := (lo.length, g26)) [1, 5, 7, 8, 9, 13, 14, 15] (by kernel_rfl) rfl ⟨(by omega), (by omega), (own_sh0 hO27)⟩ ?_
        rintro ⟨kk, gg⟩ ⟨hik, hkk, hS⟩
        replace hik : i ≤ kk := hik
        replace hkk : kk ≤ lo.length := hkk
        replace hS : Own 9 1 (.slice a28 (lo.length + 1) cap29) gg (lo.length + 1) (strs (shiftL lo kk)) := hS
        have hsl := shiftL_len hkk
        refine G_seq ?_
        refine G_seq ?_
        refine G_pure (E' := [⟨1, [], .string d⟩, ⟨5, [], .slice a28 (lo.length + 1) cap29⟩, ⟨7, [], pt b2⟩, ⟨8, [], .int .i64 ((i : Nat) : Int)⟩, ⟨9, [], .int .i64 ((kk : Nat) : Int)⟩, ⟨13, [], .slice s.na s.nn s.nc⟩, ⟨14, [], .int .i64 ((s.nn : Nat) : Int)⟩, ⟨15, [], .int .i64 ((k : Nat) : Int)⟩, ⟨47, [], .bool (decide (((kk : Nat) : Int) > ((i : Nat) : Int)))⟩]) [0, 0, 0] [1, 5, 7, 8, 9, 13, 14, 15, 47] rfl (by kernel_rfl) ?_
        refine N_then ?_
        refine G_cond (b := decide (((kk : Nat) : Int) > ((i : Nat) : Int))) (by kernel_rfl) (fun hc33 => ?_) (fun hc33 => ?_)
        ·
          replace hc33 := of_decide_eq_true hc33
          refine G_skip ?_
          refine N_then ?_
          refine G_seq ?_
          refine G_block ?_
          have hw34 : IntKind.wrap .i64 (((kk : Nat) : Int) - 1) = ((kk : Nat) : Int) - 1 := w64 (by omega) (by omega)
          refine G_region ?_
          refine GL_pure (E' := [⟨54, [], .int .i64 (((kk : Nat) : Int) - 1)⟩, ⟨52, [], .slice a28 (lo.length + 1) cap29⟩, ⟨51, [], .int .i64 ((kk : Nat) : Int)⟩, ⟨50, [], .slice a28 (lo.length + 1) cap29⟩, ⟨1, [], .string d⟩, ⟨5, [], .slice a28 (lo.length + 1) cap29⟩, ⟨7, [], pt b2⟩, ⟨8, [], .int .i64 ((i : Nat) : Int)⟩, ⟨9, [], .int .i64 ((kk : Nat) : Int)⟩, ⟨13, [], .slice s.na s.nn s.nc⟩, ⟨14, [], .int .i64 ((s.nn : Nat) : Int)⟩, ⟨15, [], .int .i64 ((k : Nat) : Int)⟩]) [0, 0, 0, 0, 0] (Eq.trans (b := some [⟨54, [], .int .i64 (IntKind.wrap .i64 (((kk : Nat) : Int) - 1))⟩, ⟨52, [], .slice a28 (lo.length + 1) cap29⟩, ⟨51, [], .int .i64 ((kk : Nat) : Int)⟩, ⟨50, [], .slice a28 (lo.length + 1) cap29⟩, ⟨1, [], .string d⟩, ⟨5, [], .slice a28 (lo.length + 1) cap29⟩, ⟨7, [], pt b2⟩, ⟨8, [], .int .i64 ((i : Nat) : Int)⟩, ⟨9, [], .int .i64 ((kk : Nat) : Int)⟩, ⟨13, [], .slice s.na s.nn s.nc⟩, ⟨14, [], .int .i64 ((s.nn : Nat) : Int)⟩, ⟨15, [], .int .i64 ((k : Nat) : Int)⟩]) (by kernel_rfl) (by simp only [hw34])) (j := 5) rfl ?_
          refine GL_indexAddr (i := 5) (ch := []) (a := a28) (len := (lo.length + 1)) (cap := cap29) (kd := .i64) (j := ((kk : Nat) : Int) - 1) (e := 9) (sz := 1) (S := (inG gg)) (cs := (strs (shiftL lo kk))) rfl rfl (by kernel_rfl) (by kernel_rfl) (by kernel_rfl) (by kernel_rfl) (by kernel_rfl) (by kernel_rfl) (by kernel_rfl) (own_rd hS) (fun _ => by exact ⟨by omega, by omega, strs_ne0 (i := 0) (by omega)⟩) ?_
          refine GL_loadS (i := 6) (ch := []) (a := a28) (q := (Int.toNat (((kk : Nat) : Int) - 1)) * 1) (S := (inG gg)) (cs := (strs (shiftL lo kk))) (v := .string ((shiftL lo kk).getD (Int.toNat (((kk : Nat) : Int) - 1)) default)) rfl rfl (by kernel_rfl) (by kernel_rfl) (by kernel_rfl) (by kernel_rfl) (by kernel_rfl) (own_rd hS) (at_inG 5 rfl) (fun _ => (by rw [Nat.mul_one]; exact strs_at (by omega))) ?_
          refine GL_indexAddr (i := 7) (ch := []) (a := a28) (len := (lo.length + 1)) (cap := cap29) (kd := .i64) (j := ((kk : Nat) : Int)) (e := 9) (sz := 1) (S := (inG gg)) (cs := (strs (shiftL lo kk))) rfl rfl (by kernel_rfl) (by kernel_rfl) (by kernel_rfl) (by kernel_rfl) (by kernel_rfl) (by kernel_rfl) (by kernel_rfl) (own_rd hS) (fun _ => by exact ⟨by omega, by omega, strs_ne0 (i := 0) (by omega)⟩) ?_
          refine GL_storeO (i := 8) (ch := []) (a := a28) (q := kk * 1) (len := (lo.length + 1)) (cap := cap29) (v := .string ((shiftL lo kk).getD (Int.toNat (((kk : Nat) : Int) - 1)) default)) (g := gg) (j := 5) (cs := (strs (shiftL lo kk))) (cs' := (strs ((shiftL lo kk).set kk ((shiftL lo kk).getD (Int.toNat (((kk : Nat) : Int) - 1)) default)))) rfl rfl (by kernel_rfl) (by kernel_rfl) (by kernel_rfl) (by kernel_rfl) rfl (by kernel_rfl) (by kernel_rfl) (by kernel_rfl) rfl hS (by rw [strs_len]; omega) (by rw [Nat.mul_one]; exact strs_set) (fun g35 hO36 => ?_)
          refine GL_fin (E' := [⟨1, [], .string d⟩, ⟨5, [], .slice a28 (lo.length + 1) cap29⟩, ⟨7, [], pt b2⟩, ⟨8, [], .int .i64 ((i : Nat) : Int)⟩, ⟨9, [], .int .i64 ((kk : Nat) : Int)⟩, ⟨13, [], .slice s.na s.nn s.nc⟩, ⟨14, [], .int .i64 ((s.nn : Nat) : Int)⟩, ⟨15, [], .int .i64 ((k : Nat) : Int)⟩]) [] [1, 5, 7, 8, 9, 13, 14, 15] rfl (by kernel_rfl) ?_
          refine N_block ?_
          refine N_then ?_
          have hw37 : IntKind.wrap .i64 (((kk : Nat) : Int) - 1) = ((kk : Nat) : Int) - 1 := w64 (by omega) (by omega)
          refine G_pure (E' := [⟨1, [], .string d⟩, ⟨5, [], .slice a28 (lo.length + 1) cap29⟩, ⟨7, [], pt b2⟩, ⟨8, [], .int .i64 ((i : Nat) : Int)⟩, ⟨9, [], .int .i64 (((kk : Nat) : Int) - 1)⟩, ⟨13, [], .slice s.na s.nn s.nc⟩, ⟨14, [], .int .i64 ((s.nn : Nat) : Int)⟩, ⟨15, [], .int .i64 ((k : Nat) : Int)⟩]) [0, 0, 0] [1, 5, 7, 8, 9, 13, 14, 15] rfl (Eq.trans (b := some [⟨1, [], .string d⟩, ⟨5, [], .slice a28 (lo.length + 1) cap29⟩, ⟨7, [], pt b2⟩, ⟨8, [], .int .i64 ((i : Nat) : Int)⟩, ⟨9, [], .int .i64 (IntKind.wrap .i64 (((kk : Nat) : Int) - 1))⟩, ⟨13, [], .slice s.na s.nn s.nc⟩, ⟨14, [], .int .i64 ((s.nn : Nat) : Int)⟩, ⟨15, [], .int .i64 ((k : Nat) : Int)⟩]) (by kernel_rfl) (by simp only [hw37])) ?_
          refine N_env (E' := [⟨1, [], .string d⟩, ⟨5, [], .slice a28 (lo.length + 1) cap29⟩, ⟨7, [], pt b2⟩, ⟨8, [], .int .i64 ((i : Nat) : Int)⟩, ⟨9, [], .int .i64 ((kk - 1 : Nat) : Int)⟩, ⟨13, [], .slice s.na s.nn s.nc⟩, ⟨14, [], .int .i64 ((s.nn : Nat) : Int)⟩, ⟨15, [], .int .i64 ((k : Nat) : Int)⟩]) (by rw [show ((kk - 1 : Nat) : Int) = ((kk : Nat) : Int) - 1 by omega]) ?_
          refine N_heap (H' := ([(b24, .cells #[.string (ByteArray.mk #[])] 9 (0, 0))] :: [(b2, .cells #[.string ((M.names.getD k default).1), .int .i64 ((M.names.getD k default).2)] 94 (0, 0))] :: [(x, .cells #[.int .i64 M.room, .slice s.ba s.bn s.bc, .slice s.na s.nn s.nc, .slice s.ka s.kn s.kc, .slice s.ca s.cn s.cc, .bool M.fails, .bool M.once, .int .i64 M.calls] 86 (0, 0))] :: s.bg :: s.cg :: g35 :: (s.Z ++ H))) (fun w h => ((((((h.front (j := 5) rfl).front (j := 5) rfl).front (j := 5) rfl).front (j := 5) rfl).front (j := 5) rfl).front (j := 5) rfl)) ?_
          refine N_heq (H' := ([(b24, .cells #[.string (ByteArray.mk #[])] 9 (0, 0))] :: [(b2, .cells #[.string ((M.names.getD k default).1), .int .i64 ((M.names.getD k default).2)] 94 (0, 0))] :: [(x, .cells #[.int .i64 M.room, .slice s.ba s.bn s.bc, .slice s.na s.nn s.nc, .slice s.ka s.kn s.kc, .slice s.ca s.cn s.cc, .bool M.fails, .bool M.once, .int .i64 M.calls] 86 (0, 0))] :: s.bg :: s.cg :: g35 :: (s.Z ++ H))) rfl ?_
          refine N_round (s' := (kk - 1, g35)) [1, 5, 7, 8, 9, 13, 14, 15] (by kernel_rfl) rfl ⟨(by omega), (by omega), (shift_own (i := i) (by omega) (by omega) hO36)⟩ (by omega)
        ·
          replace hc33 := of_decide_eq_false hc33
          have hki : kk = i := by omega
          refine G_exit ?_
          refine N_then_exit ?_
          refine N_then_exit ?_
          refine N_block_exit ?_
          refine N_then ?_
          refine G_region ?_
          refine GL_pure (E' := [⟨60, [], pt b2⟩, ⟨59, [], .int .i64 ((i : Nat) : Int)⟩, ⟨58, [], .slice a28 (lo.length + 1) cap29⟩, ⟨1, [], .string d⟩, ⟨5, [], .slice a28 (lo.length + 1) cap29⟩, ⟨13, [], .slice s.na s.nn s.nc⟩, ⟨14, [], .int .i64 ((s.nn : Nat) : Int)⟩, ⟨15, [], .int .i64 ((k : Nat) : Int)⟩]) [0, 0, 0] (by kernel_rfl) (j := 3) rfl ?_
          refine GL_load (i := 3) (ch := []) (b := b2) (off := 0) (v := .string ((M.names.getD k default).1)) rfl rfl (by kernel_rfl) (by kernel_rfl) (by kernel_rfl) (by kernel_rfl) (by kernel_rfl) (At.grp 1 0 rfl rfl) rfl ?_
          refine GL_indexAddr (i := 4) (ch := []) (a := a28) (len := (lo.length + 1)) (cap := cap29) (kd := .i64) (j := ((i : Nat) : Int)) (e := 9) (sz := 1) (S := (inG gg)) (cs := (strs (shiftL lo kk))) rfl rfl (by kernel_rfl) (by kernel_rfl) (by kernel_rfl) (by kernel_rfl) (by kernel_rfl) (by kernel_rfl) (by kernel_rfl) (own_rd hS) (fun _ => by exact ⟨by omega, by omega, strs_ne0 (i := 0) (by omega)⟩) ?_
          refine GL_storeO (i := 5) (ch := []) (a := a28) (q := i * 1) (len := (lo.length + 1)) (cap := cap29) (v := .string ((M.names.getD k default).1)) (g := gg) (j := 5) (cs := (strs (shiftL lo kk))) (cs' := (strs ((shiftL lo kk).set i ((M.names.getD k default).1)))) rfl rfl (by kernel_rfl) (by kernel_rfl) (by kernel_rfl) (by kernel_rfl) rfl (by kernel_rfl) (by kernel_rfl) (by kernel_rfl) rfl hS (by rw [strs_len]; omega) (by rw [Nat.mul_one]; exact strs_set) (fun g38 hO39 => ?_)
          refine GL_fin (E' := [⟨1, [], .string d⟩, ⟨5, [], .slice a28 (lo.length + 1) cap29⟩, ⟨13, [], .slice s.na s.nn s.nc⟩, ⟨14, [], .int .i64 ((s.nn : Nat) : Int)⟩, ⟨15, [], .int .i64 ((k : Nat) : Int)⟩]) [] [1, 5, 13, 14, 15] rfl (by kernel_rfl) ?_
          refine N_block ?_
          refine N_then ?_
          have hw40 : IntKind.wrap .i64 (((k : Nat) : Int) + 1) = ((k : Nat) : Int) + 1 := w64 (by omega) (by omega)
          refine G_pure (E' := [⟨1, [], .string d⟩, ⟨5, [], .slice a28 (lo.length + 1) cap29⟩, ⟨13, [], .slice s.na s.nn s.nc⟩, ⟨14, [], .int .i64 ((s.nn : Nat) : Int)⟩, ⟨15, [], .int .i64 (((k : Nat) : Int) + 1)⟩]) [0, 0] [1, 5, 13, 14, 15] rfl (Eq.trans (b := some [⟨1, [], .string d⟩, ⟨5, [], .slice a28 (lo.length + 1) cap29⟩, ⟨13, [], .slice s.na s.nn s.nc⟩, ⟨14, [], .int .i64 ((s.nn : Nat) : Int)⟩, ⟨15, [], .int .i64 (IntKind.wrap .i64 (((k : Nat) : Int) + 1))⟩]) (by kernel_rfl) (by simp only [hw40])) ?_
          refine N_env (E' := [⟨1, [], .string d⟩, ⟨5, [], .slice a28 ((insAt lo i (M.names.getD k default).1).length) cap29⟩, ⟨13, [], .slice s.na s.nn s.nc⟩, ⟨14, [], .int .i64 ((s.nn : Nat) : Int)⟩, ⟨15, [], .int .i64 (((k : Nat) : Int) + 1)⟩]) (by rw [insAt_len]) ?_
          refine N_heap (H' := ([(x, .cells #[.int .i64 M.room, .slice s.ba s.bn s.bc, .slice s.na s.nn s.nc, .slice s.ka s.kn s.kc, .slice s.ca s.cn s.cc, .bool M.fails, .bool M.once, .int .i64 M.calls] 86 (0, 0))] :: s.bg :: s.cg :: g38 :: (s.Z ++ H))) (fun w h => ((((((h.front (j := 5) rfl).front (j := 5) rfl).front (j := 5) rfl).front (j := 5) rfl).erase 5).erase 4)) ?_
          refine N_heq (H' := ([(x, .cells #[.int .i64 M.room, .slice s.ba s.bn s.bc, .slice s.na s.nn s.nc, .slice s.ka s.kn s.kc, .slice s.ca s.cn s.cc, .bool M.fails, .bool M.once, .int .i64 M.calls] 86 (0, 0))] :: s.bg :: s.cg :: g38 :: (s.Z ++ H))) rfl ?_
          refine N_round (s' := (k + 1, insAt lo i (M.names.getD k default).1, a28, cap29, g38)) [1, 5, 13, 14, 15] (by kernel_rfl) rfl ⟨(by omega), (by rw [listP_yes (by omega) hdn]; exact ins_perm hpm), (sorted_ins hso hlt (.inl (by omega))), (own_ins (by omega) (by have h9 := hO39; rw [hki] at h9; exact h9))⟩ (by omega)
  ·
    replace hc1 := of_decide_eq_false hc1
    refine G_exit ?_
    refine N_then_exit ?_
    refine N_then_exit ?_
    refine N_block_exit ?_
    refine N_then ?_
    refine G_seq ?_
    refine G_pure (E' := [⟨4, [], .slice la lo.length lc⟩]) [0, 0] [4] rfl (by kernel_rfl) ?_
    refine N_then ?_
    refine G_ret ?_
    refine N_heap (H' := (gl :: [(x, .cells #[.int .i64 M.room, .slice s.ba s.bn s.bc, .slice s.na s.nn s.nc, .slice s.ka s.kn s.kc, .slice s.ca s.cn s.cc, .bool M.fails, .bool M.once, .int .i64 M.calls] 86 (0, 0))] :: s.bg :: s.cg :: (s.Z ++ H))) (fun w h => ((((h.front (j := 2) rfl).front (j := 2) rfl).front (j := 2) rfl).front (j := 3) rfl)) ?_
    refine N_ret [.tmp 4] [.slice la lo.length lc] rfl (by kernel_rfl) rfl ?_
    have e := listP_all (by omega) hso hpm
    subst e
    exact ⟨_, hO, rfl⟩
end Go.Proofs.Ytbmieiffboenbaa
namespace Go.Vf
open Go.Sw Go.RowKit
theorem headD_drop {l : List Int} {u : Nat} : (l.drop u).headD 0 = l.getD u 0 := by
  rw [List.headD_eq_head?_getD, List.head?_drop, List.getD_eq_getElem?_getD]
theorem getD_over {l : List Int} {u : Nat} (h : l.length ≤ u) : l.getD u 0 = 0 := by
  rw [List.getD_eq_getElem?_getD, List.getElem?_eq_none h]; rfl
theorem nextK0 {m : Int} (hm : 0 < m) : nextK 0 m = 0 := by
  unfold nextK
  rw [Int.zero_tmod, Int.zero_add, Int.tmod_self]
theorem crashB_app : ∀ (A B : List Body) (ks : List Int), crashB (A ++ B) ks = ((crashB A ks).1 ++ (crashB B (crashB A ks).2).1, (crashB B (crashB A ks).2).2)
  | [], B, ks => rfl
  | b :: A, B, ks => by
    rw [List.cons_append, crashB, crashB]
    split
    · simp only; rw [crashB_app A B]; rfl
    · simp only; rw [crashB_app A B]; rfl
def CrB (Bs : List Body) (l : List Int) (j u : Nat) (X : List Body) : Prop := ∃ P, crashB (Bs.take j) l = (P, l.drop u) ∧ X = P ++ Bs.drop j
theorem crb0 (Bs : List Body) (l : List Int) : CrB Bs l 0 0 Bs := ⟨[], by simp [crashB], by simp⟩
theorem crb_at {Bs X : List Body} {l : List Int} {j u : Nat} (h : CrB Bs l j u X) (hj : j ≤ Bs.length) : X.length = Bs.length ∧ X.getD j default = Bs.getD j default := by
  obtain ⟨P, h1, rfl⟩ := h
  have hP : P.length = j := by
    have := crashB_len (Bs := Bs.take j) (ks := l)
    rw [h1, List.length_take] at this
    show P.length = j
    have h2 : P.length = min j Bs.length := this
    omega
  refine ⟨by rw [List.length_append, List.length_drop]; omega, ?_⟩
  rw [List.getD_eq_getElem?_getD, List.getD_eq_getElem?_getD, List.getElem?_append_right (by omega), List.getElem?_drop, hP, Nat.sub_self, Nat.add_zero]
theorem crb_set {Bs X : List Body} {l : List Int} {j u u' : Nat} {Y : Body} (h : CrB Bs l j u X) (hj : j < Bs.length) (h1 : crashB [Bs.getD j default] (l.drop u) = ([Y], l.drop u')) : CrB Bs l (j + 1) u' (X.set j Y) := by
  obtain ⟨P, h2, rfl⟩ := h
  have hP : P.length = j := by
    have := crashB_len (Bs := Bs.take j) (ks := l)
    rw [h2, List.length_take] at this
    have h2 : P.length = min j Bs.length := this
    omega
  refine ⟨P ++ [Y], ?_, ?_⟩
  · rw [take_snoc (d := default) hj, crashB_app, h2]
    show (P ++ (crashB [Bs.getD j default] (l.drop u)).1, (crashB [Bs.getD j default] (l.drop u)).2) = _
    rw [h1]
  · rw [List.set_append_right _ _ (by omega), hP, Nat.sub_self, List.drop_eq_getElem_cons hj, List.set_cons_zero, List.append_assoc]; rfl
theorem now_ne {b : Body} (hp : b.kept.size ≤ b.now.size ∧ b.kept = b.now.extract 0 b.kept.size) (h : (!(b.now.toList == b.kept.toList)) = true) : b.kept.size < b.now.size := by
  rcases Nat.lt_or_ge b.kept.size b.now.size with h1 | h1
  · exact h1
  · exfalso
    have e : b.kept.size = b.now.size := by omega
    have e2 : b.kept = b.now := by
      have h3 := hp.2
      rw [e] at h3
      exact h3.trans (pre_same b.now).2.symm
    rw [e2, beq_self_eq_true] at h
    cases h
theorem now_eq {b : Body} (h : (!(b.now.toList == b.kept.toList)) = false) : b.now = b.kept := by
  rw [tlEq] at h
  simpa using h
theorem set_twice {X : List Body} {j : Nat} (hj : j < X.length) {n k : ByteArray} : ((X.set j ⟨n, k⟩).set j ⟨((X.set j ⟨n, k⟩).getD j default).kept, ((X.set j ⟨n, k⟩).getD j default).kept⟩) = X.set j ⟨k, k⟩ := by
  have e : (X.set j ⟨n, k⟩).getD j default = ⟨n, k⟩ := by
    rw [List.getD_eq_getElem?_getD, List.getElem?_set_self hj]; rfl
  rw [e, List.set_set]
theorem crb_yes {Bs X : List Body} {l : List Int} {j u : Nat} (h : CrB Bs l j u X) (hj : j < Bs.length) (hp : ∀ B ∈ Bs, B.kept.size ≤ B.now.size ∧ B.kept = B.now.extract 0 B.kept.size) (hne : (!((X.getD j default).now.toList == (X.getD j default).kept.toList)) = true) {n : Int}
    (hn : n = nextK (l.getD u 0) (((X.getD j default).now.size : Int) - ((X.getD j default).kept.size : Int) + 1)) :
    CrB Bs l (j + 1) (u + 1) ((X.set j ⟨(X.getD j default).now, (X.getD j default).now.extract 0 (Int.toNat (((X.getD j default).kept.size : Int) + n))⟩).set j ⟨((X.set j ⟨(X.getD j default).now, (X.getD j default).now.extract 0 (Int.toNat (((X.getD j default).kept.size : Int) + n))⟩).getD j default).kept, ((X.set j ⟨(X.getD j default).now, (X.getD j default).now.extract 0 (Int.toNat (((X.getD j default).kept.size : Int) + n))⟩).getD j default).kept⟩) := by
  obtain ⟨hl, he⟩ := crb_at h (Nat.le_of_lt hj)
  rw [set_twice (by omega)]
  refine crb_set h hj ?_
  rw [he] at hne hn ⊢
  have hlt := now_ne (hp _ (getD_memG hj)) hne
  have hb := nextK_bd (k := l.getD u 0) (n := ((Bs.getD j default).now.size : Int) - ((Bs.getD j default).kept.size : Int) + 1) (by omega)
  rw [crashB, if_pos (by omega), headD_drop, List.drop_drop]
  subst hn
  have e : Int.toNat (((Bs.getD j default).kept.size : Int) + nextK (l.getD u 0) (((Bs.getD j default).now.size : Int) - ((Bs.getD j default).kept.size : Int) + 1)) = (Bs.getD j default).kept.size + (nextK (l.getD u 0) (((Bs.getD j default).now.size : Int) - ((Bs.getD j default).kept.size : Int) + 1)).toNat := by omega
  rw [e]
  rfl
theorem crb_no {Bs X : List Body} {l : List Int} {j u : Nat} (h : CrB Bs l j u X) (hj : j < Bs.length) (hne : (!((X.getD j default).now.toList == (X.getD j default).kept.toList)) = false) : CrB Bs l (j + 1) u (X.set j ⟨(X.getD j default).kept, (X.getD j default).kept⟩) := by
  obtain ⟨hl, he⟩ := crb_at h (Nat.le_of_lt hj)
  refine crb_set h hj ?_
  rw [he] at hne ⊢
  have e := now_eq hne
  rw [crashB, if_neg (by rw [e]; omega)]; rfl
theorem crb_end {Bs X : List Body} {l : List Int} {j u : Nat} (h : CrB Bs l j u X) (hj : Bs.length ≤ j) : X = (crashB Bs l).1 ∧ (crashB Bs l).2 = l.drop u := by
  obtain ⟨P, h1, rfl⟩ := h
  rw [List.take_of_length_le hj] at h1
  rw [List.drop_eq_nil_of_le hj, List.append_nil, h1]; exact ⟨rfl, rfl⟩
theorem crb_pre {Bs X : List Body} {l : List Int} {u : Nat} (h : X = (crashB Bs l).1) (hs : ∀ B ∈ Bs, B.now.size ≤ 10000000 ∧ B.kept.size ≤ B.now.size) : ∀ B ∈ X, B.kept.size ≤ B.now.size ∧ B.kept = B.now.extract 0 B.kept.size := by
  subst h
  intro B hB
  have h1 := crashB_quiet hs B hB
  cases B
  simp only at h1
  subst h1
  exact pre_same _
theorem crashD_filter {l : List Ch} {d : ByteArray} : ∀ {ds : List ByteArray} {ks : List Int} {K : List Nm}, d ∉ ds → crashD l ds ks K = crashD (l.filter fun c => !(d == c.dir)) ds ks K
  | [], _, _, _ => rfl
  | x :: ds, ks, K, hx => by
    rw [crashD, crashD]
    have hne : (x == d) = false := by rw [baNe]; intro he; exact hx (by rw [he]; exact List.mem_cons_self)
    rw [chOf_filter, hne]
    simp only [Bool.false_eq_true, if_false]
    exact crashD_filter fun h => hx (List.mem_cons_of_mem _ h)
theorem filt_mem {C : List Ch} {d x : ByteArray} : x ∈ (C.filter fun c => !(d == c.dir)).map (·.dir) ↔ x ∈ C.map (·.dir) ∧ x ≠ d := by
  constructor
  · intro h
    obtain ⟨c, hc, rfl⟩ := List.mem_map.1 h
    obtain ⟨h1, h2⟩ := List.mem_filter.1 hc
    refine ⟨List.mem_map.2 ⟨c, h1, rfl⟩, fun e => ?_⟩
    rw [e, show (d == d) = true from baEq.2 rfl] at h2
    cases h2
  · rintro ⟨h, hne⟩
    obtain ⟨c, hc, rfl⟩ := List.mem_map.1 h
    have h2 : (d == c.dir) = false := by rw [baNe]; exact fun e => hne e.symm
    exact List.mem_map.2 ⟨c, List.mem_filter.2 ⟨hc, by rw [h2]; rfl⟩, rfl⟩
theorem dirs_cons {C : List Ch} {d : ByteArray} (hm : d ∈ C.map (·.dir)) (hl : ∀ c ∈ C, Op.bytesLess c.dir.toList d.toList = false) : dirsOf C = d :: dirsOf (C.filter fun c => !(d == c.dir)) := by
  have hin : ∀ x, x ∈ dirsOf (C.filter fun c => !(d == c.dir)) ↔ x ∈ C.map (·.dir) ∧ x ≠ d := fun x => by
    unfold dirsOf
    rw [(sortB_perm _).mem_iff, once_mem, filt_mem]
  refine (sorted_uniq (ws := onceL (C.map (·.dir))) (List.pairwise_cons.2 ⟨fun x hx => ?_, sortB_sorted _⟩) ?_).symm
  · obtain ⟨h1, _⟩ := (hin x).1 hx
    obtain ⟨c, hc, rfl⟩ := List.mem_map.1 h1
    have := hl c hc
    rwa [bl_lt, decide_eq_false_iff_not, List.not_lt] at this
  · refine (List.perm_ext_iff_of_nodup (List.nodup_cons.2 ⟨fun h => ((hin d).1 h).2 rfl, dirs_nodup _⟩) (once_nodup _)).2 fun x => ?_
    rw [List.mem_cons, hin, once_mem]
    constructor
    · rintro (rfl | h)
      · exact hm
      · exact h.1
    · intro h
      by_cases e : x = d
      · exact .inl e
      · exact .inr ⟨h, e⟩
structure CrD (M : DM) (l : List Int) (Mr : DM) (u : Nat) : Prop where
  room : Mr.room = M.room
  bodies : Mr.bodies = (crashB M.bodies l).1
  once : Mr.once = M.once
  calls : Mr.calls = M.calls
  goal : crashD Mr.changes (dirsOf Mr.changes) (l.drop u) Mr.kept = crashD M.changes (dirsOf M.changes) (crashB M.bodies l).2 M.kept
  kept : Mr.kept.length + addsC Mr.changes ≤ 10000
  chs : ∀ c ∈ Mr.changes, c.l.length ≤ 2
  len : u + Mr.changes.length ≤ M.bodies.length + M.changes.length
theorem dirsOf_nil : dirsOf [] = [] := (sortB_perm _).eq_nil
theorem crd_end {M Mr : DM} {l : List Int} {u : Nat} (h : CrD M l Mr u) (h0 : Mr.changes = []) : { Mr with names := Mr.kept, fails := false } = crashM M l := by
  have hg := h.goal
  rw [h0, dirsOf_nil] at hg
  have hk : Mr.kept = crashD M.changes (dirsOf M.changes) (crashB M.bodies l).2 M.kept := hg
  unfold crashM
  rw [← hk, ← h.bodies, ← h.room, ← h.once, ← h.calls]
  cases Mr
  simp only at h0
  subst h0; rfl
def dropM (M : DM) (d : ByteArray) : DM := { M with changes := M.changes.filter fun c => !(d == c.dir) }
theorem keep_drop {M : DM} {d : ByteArray} {n : Nat} : (dropM (keepM M d n) d).changes = M.changes.filter fun c => !(d == c.dir) := by
  show ((keepL d n M.kept M.changes).2.1).filter _ = _
  unfold keepL
  rw [kstep_rest]; rfl
theorem keep_kept {M : DM} {d : ByteArray} {n : Nat} : (keepM M d n).kept = ((chOf M.changes d).take n).foldl applyN M.kept := by
  show (keepL d n M.kept M.changes).2.2 = _
  unfold keepL
  rw [kstep_kept]
theorem drop_less {C : List Ch} {d : ByteArray} (hm : d ∈ C.map (·.dir)) : (C.filter fun c => !(d == c.dir)).length < C.length := by
  obtain ⟨c, hc, rfl⟩ := List.mem_map.1 hm
  refine Nat.lt_of_le_of_ne (List.length_filter_le _ _) fun h => ?_
  have := List.length_filter_eq_length_iff.1 h c hc
  rw [show (c.dir == c.dir) = true from baEq.2 rfl] at this
  cases this
theorem crd_step {M Mr : DM} {l : List Int} {u nn : Nat} {d : ByteArray} (h : CrD M l Mr u) (hm : d ∈ Mr.changes.map (·.dir)) (hl : ∀ c ∈ Mr.changes, Op.bytesLess c.dir.toList d.toList = false)
    (hn : nn = (nextK (l.getD u 0) (((chOf Mr.changes d).length : Int) + 1)).toNat) : CrD M l (dropM (keepM Mr d nn) d) (u + 1) := by
  have hk : (dropM (keepM Mr d nn) d).kept = ((chOf Mr.changes d).take nn).foldl applyN Mr.kept := keep_kept
  refine ⟨h.room, h.bodies, h.once, h.calls, ?_, ?_, fun c hc => ?_, ?_⟩
  · rw [keep_drop, hk, ← h.goal, dirs_cons hm hl, crashD, headD_drop, ← hn, List.drop_drop]
    refine (crashD_filter fun hx => ?_).symm
    unfold dirsOf at hx
    rw [(sortB_perm _).mem_iff, once_mem, filt_mem] at hx
    exact hx.2 rfl
  · rw [keep_drop, hk]
    have h1 := fold_len ((chOf Mr.changes d).take nn) Mr.kept
    have h2 := addsL_take (chOf Mr.changes d) nn
    have h3 := addsC_split Mr.changes d
    have h4 := h.kept
    omega
  · rw [keep_drop] at hc
    exact h.chs c (List.mem_filter.1 hc).1
  · rw [keep_drop]
    have h1 := drop_less hm
    have h2 := h.len
    omega
theorem All2.filter {α β : Type} {R : α → β → Prop} {p : α → Bool} {q : β → Bool} (hpq : ∀ a b, R a b → p a = q b) : ∀ {l : List α} {m : List β}, All2 R l m → All2 R (l.filter p) (m.filter q)
  | [], [], .nil => .nil
  | a :: l, b :: m, .cons h t => by
    rw [List.filter_cons, List.filter_cons, hpq a b h]
    split
    · exact .cons h (All2.filter hpq t)
    · exact All2.filter hpq t
theorem dir_beq {a b : ByteArray} : (a == b) = (b.toList == a.toList) := by rw [tlEq, Bool.eq_iff_iff, baEq, baEq]; exact eq_comm
theorem ok_rdrop {s : RS} {M : DM} (h : s.ok M) {d : ByteArray} {rs : List CR} {a : Option Addr} {c : Nat} {g : Grp} (hr : rs = s.cs.filter fun c => !(c.dir.toList == d.toList)) (hO : Own 104 2 (.slice a rs.length c) g rs.length (chC rs)) :
    RS.ok { s with cn := rs.length, ca := a, cc := c, cg := g, cs := rs } (dropM M d) := by
  refine ⟨h.bn, h.own, h.nn, h.names, h.kn, h.kept, rfl, hO, ?_, ⟨h.well.names, h.well.kept, fun c hc => h.well.chs c (List.mem_filter.1 hc).1, h.well.pre⟩⟩
  subst hr
  exact All2.filter (fun a b hab => by rw [hab.dir, dir_beq]) h.chs
def MinD (cs : List CR) (k : Nat) (ls : ByteArray) : Prop := (∃ c ∈ cs, c.dir = ls) ∧ ∀ c ∈ cs.take k, Op.bytesLess c.dir.toList ls.toList = false
theorem min0 {cs : List CR} (h : 0 < cs.length) : MinD cs 0 (cs.getD 0 default).dir := ⟨⟨_, getD_memG h, rfl⟩, fun c hc => by rw [List.take_zero] at hc; cases hc⟩
theorem min_yes {cs : List CR} {k : Nat} {ls : ByteArray} (h : MinD cs k ls) (hk : k < cs.length) (hb : Op.bytesLess (cs.getD k default).dir.toList ls.toList = true) : MinD cs (k + 1) (cs.getD k default).dir := by
  refine ⟨⟨_, getD_memG hk, rfl⟩, fun c hc => ?_⟩
  rw [bl_lt, decide_eq_false_iff_not, List.not_lt]
  rw [take_snoc (d := default) hk] at hc
  rcases List.mem_append.1 hc with hc | hc
  · have h1 := h.2 c hc
    rw [bl_lt, decide_eq_false_iff_not, List.not_lt] at h1
    rw [bl_lt, decide_eq_true_eq] at hb
    exact List.le_trans (List.le_of_lt hb) h1
  · rw [List.mem_singleton.1 hc]; exact List.le_refl _
theorem min_no {cs : List CR} {k : Nat} {ls : ByteArray} (h : MinD cs k ls) (hk : k < cs.length) (hb : Op.bytesLess (cs.getD k default).dir.toList ls.toList = false) : MinD cs (k + 1) ls := by
  refine ⟨h.1, fun c hc => ?_⟩
  rw [take_snoc (d := default) hk] at hc
  rcases List.mem_append.1 hc with hc | hc
  · exact h.2 c hc
  · rw [List.mem_singleton.1 hc]; exact hb
theorem All2.memR {α β : Type} {R : α → β → Prop} {l : List α} {m : List β} (h : All2 R l m) {b : β} (hb : b ∈ m) : ∃ a ∈ l, R a b := by
  induction h with
  | nil => cases hb
  | cons hab _ ih =>
    rcases List.mem_cons.1 hb with rfl | hb
    · exact ⟨_, List.mem_cons_self, hab⟩
    · obtain ⟨a, ha, hr⟩ := ih hb
      exact ⟨a, List.mem_cons_of_mem _ ha, hr⟩
theorem min_end {Z : List Grp} {cs : List CR} {C : List Ch} (hR : All2 (CRok Z) cs C) {k : Nat} (hk : cs.length ≤ k) {ls : ByteArray} (h : MinD cs k ls) : ls ∈ C.map (·.dir) ∧ ∀ c ∈ C, Op.bytesLess c.dir.toList ls.toList = false := by
  obtain ⟨⟨c, hc, rfl⟩, h2⟩ := h
  rw [List.take_of_length_le hk] at h2
  refine ⟨?_, fun C0 hC => ?_⟩
  · obtain ⟨C0, h3, h4⟩ := hR.mem hc
    exact List.mem_map.2 ⟨C0, h3, h4.dir.symm⟩
  · obtain ⟨c0, h3, h4⟩ := hR.memR hC
    have := h2 c0 h3
    rwa [h4.dir] at this
def cntD (cs : List CR) (k : Nat) (ls : ByteArray) : Nat := 1 + ((cs.take k).filter fun c => c.dir.toList == ls.toList).length
theorem cnt_yes {cs : List CR} {k : Nat} {ls : ByteArray} (hk : k < cs.length) (h : ((cs.getD k default).dir.toList == ls.toList) = true) : cntD cs (k + 1) ls = cntD cs k ls + 1 := by
  unfold cntD
  rw [take_snoc (d := default) hk, List.filter_append, List.length_append, List.filter_cons, if_pos h]; rfl
theorem cnt_no {cs : List CR} {k : Nat} {ls : ByteArray} (hk : k < cs.length) (h : ((cs.getD k default).dir.toList == ls.toList) = false) : cntD cs (k + 1) ls = cntD cs k ls := by
  unfold cntD
  rw [take_snoc (d := default) hk, List.filter_append, List.length_append, List.filter_cons, if_neg (by rw [h]; decide)]; rfl
theorem cnt_le {cs : List CR} {k : Nat} {ls : ByteArray} : cntD cs k ls ≤ 1 + cs.length := by
  unfold cntD
  have := List.length_filter_le (fun c : CR => c.dir.toList == ls.toList) (cs.take k)
  rw [List.length_take] at this
  omega
theorem cnt_end {Z : List Grp} {cs : List CR} {C : List Ch} (hR : All2 (CRok Z) cs C) {k : Nat} (hk : cs.length ≤ k) (ls : ByteArray) : cntD cs k ls = (chOf C ls).length + 1 := by
  unfold cntD chOf
  rw [List.take_of_length_le hk, List.length_map, Nat.add_comm]
  have := (All2.filter (p := fun c : CR => c.dir.toList == ls.toList) (q := fun c : Ch => ls == c.dir) (fun a b hab => by rw [hab.dir, dir_beq]) hR).len
  rw [this]
theorem filt_put {cs : List CR} {k : Nat} {ls : ByteArray} (hk : k < cs.length) (h : (!((cs.getD k default).dir.toList == ls.toList)) = true) : (cs.take (k + 1)).filter (fun c => !(c.dir.toList == ls.toList)) = (cs.take k).filter (fun c => !(c.dir.toList == ls.toList)) ++ [cs.getD k default] := by
  rw [take_snoc (d := default) hk, List.filter_append, List.filter_cons, if_pos h]; rfl
theorem filt_skip {cs : List CR} {k : Nat} {ls : ByteArray} (hk : k < cs.length) (h : (!((cs.getD k default).dir.toList == ls.toList)) = false) : (cs.take (k + 1)).filter (fun c => !(c.dir.toList == ls.toList)) = (cs.take k).filter (fun c => !(c.dir.toList == ls.toList)) := by
  rw [take_snoc (d := default) hk, List.filter_append, List.filter_cons, if_neg (by rw [h]; decide)]; simp
theorem ok_rbodies {s : RS} {M : DM} (h : s.ok M) (hm : SmallR M) {X : List Body} {l : List Int} {u : Nat} {g : Grp} (he : X = (crashB M.bodies l).1) (hu : (crashB M.bodies l).2 = l.drop u) (hul : u ≤ M.bodies.length) (hO : Own 92 2 (.slice s.ba s.bn s.bc) g s.bn (bdC X)) :
    RS.ok { s with bg := g } { M with bodies := X } ∧ CrD M l { M with bodies := X } u := by
  have hl : X.length = M.bodies.length := by rw [he, crashB_len]
  refine ⟨⟨by show s.bn = X.length; rw [hl, h.bn], hO, h.nn, h.names, h.kn, h.kept, h.cn, h.own2, h.chs, ⟨fun y hy => ?_, fun y hy => ?_, fun c hc y hy h0 => ?_, crb_pre (u := u) he hm.small.size⟩⟩, ⟨rfl, he, rfl, rfl, by rw [hu], hm.kept, hm.chs, by show u + M.changes.length ≤ _; omega⟩⟩
  · show 0 ≤ y.2 ∧ y.2.toNat < X.length; rw [hl]; exact h.well.names y hy
  · show 0 ≤ y.2 ∧ y.2.toNat < X.length; rw [hl]; exact h.well.kept y hy
  · show y.2.toNat < X.length; rw [hl]; exact h.well.chs c hc y hy h0
theorem nmC_len (l : List Nm) : (nmC l).length = l.length * 2 := cells2_len _ l
theorem nmC_one (l : List Nm) : ∀ u ∈ nmC l, Value.oneCell' u = true := by
  intro u hu
  unfold nmC cells2 at hu
  obtain ⟨x, _, hx⟩ := List.mem_flatMap.1 hu
  simp only [List.mem_cons, List.not_mem_nil, or_false] at hx
  rcases hx with rfl | rfl <;> rfl
theorem ok_rend {s : RS} {M : DM} (h : s.ok M) {a : Option Addr} {c n : Nat} {g : Grp} (hn : n = M.kept.length) (hr : Rd (inG g) a (nmC M.kept)) : RS.ok { s with nn := n, na := a, nc := c, Z := g :: s.Z } { M with names := M.kept, fails := false } :=
  ⟨h.bn, h.own, hn, hr.mono fun _ _ h => inZ_hd h, h.kn, h.kept.mono fun _ _ h => inZ_cons h, h.cn, h.own2, h.chs.imp fun _ _ hc => hc.mono fun _ _ h => inZ_cons h, ⟨h.well.kept, h.well.kept, h.well.chs, h.well.pre⟩⟩
theorem rd_none {S : Nat → Obj → Prop} {a : Option Addr} {l : List Nm} {n : Nat} (h : Rd S a (nmC l)) (hn : n = l.length) (ha : a = none) : n = 0 := by
  subst ha
  rcases h with h | ⟨b, off, c, e, fz, h1, _⟩
  · have := congrArg List.length h
    rw [nmC_len] at this
    simp only [List.length_nil] at this
    omega
  · cases h1
theorem intL_at {l : List Int} {u : Nat} (h : u < l.length) : (l.map (Value.int .i64))[u]? = some (.int .i64 (l.getD u 0)) := by
  rw [List.getElem?_map, List.getElem?_eq_getElem h, List.getD_eq_getElem?_getD, List.getElem?_eq_getElem h]; rfl
theorem ints_ne {l : List Int} {u : Nat} (h : u < l.length) : l.map (Value.int .i64) ≠ [] := by
  intro e
  rw [List.map_eq_nil_iff] at e
  rw [e] at h; simp at h
theorem kstep_len {d : ByteArray} : ∀ {l : List Ch} {n : Nat} {acc : List Ch} {K : List Nm}, ((l.foldl (kstep Ch.dir Ch.l d) (n, acc, K)).2.1).length ≤ acc.length + l.length
  | [], _, _, _ => Nat.le_refl _
  | x :: l, n, acc, K => by
    rw [List.foldl_cons, kstep]
    split
    · have := kstep_len (d := d) (l := l) (n := n) (acc := acc ++ [x]) (K := K)
      rw [List.length_append, List.length_singleton] at this
      rw [List.length_cons]
      exact Nat.le_trans this (by omega)
    · have := kstep_len (d := d) (l := l) (n := n - 1) (acc := acc) (K := applyN K x.l)
      rw [List.length_cons]
      exact Nat.le_trans this (by omega)
theorem keep_len (M : DM) (d : ByteArray) (n : Nat) : (keepM M d n).changes.length ≤ M.changes.length := by
  have := kstep_len (d := d) (l := M.changes) (n := n) (acc := []) (K := M.kept)
  rw [List.length_nil, Nat.zero_add] at this
  exact this
end Go.Vf
namespace Go.Proofs.Ytbmieiffboenbaa
open Go.Sw Go.Lib Go.Vf Go.RowKit
theorem rCrash (x : Nat) (s : RS) (M : DM) (h : s.ok M) (hm : SmallR M) (l : List Int) (la : Option Addr) (lc : Nat) (Sk : Nat → Obj → Prop) (W0 : World) (H : List Grp) (hrl : Rd Sk la (l.map (Value.int .i64))) (hli : ∀ y ∈ l, -9223372036854775808 ≤ y ∧ y ≤ 9223372036854775807) (hSk : ∀ y o, Sk y o → At W0 H y o) : Tri Try.prog 53 #[pt x, .slice la l.length lc] W0 ([(x, .cells #[.int .i64 M.room, .slice s.ba s.bn s.bc, .slice s.na s.nn s.nc, .slice s.ka s.kn s.kc, .slice s.ca s.cn s.cc, .bool M.fails, .bool M.once, .int .i64 M.calls] 86 (0, 0))] :: s.bg :: s.cg :: (s.Z ++ H)) (IsR x (crashM M l) (.tuple #[]) H) := by
  have hnn := h.nn
  have hbn := h.bn
  have hkn := h.kn
  have hcn := h.cn
  have hch := h.chs.len
  have hus := used_le hm.small fun x hx => (h.well.names x hx).2
  have hsn := hm.small.names
  have hsb := hm.small.bodies
  have hsc := hm.small.changes
  have hskn : M.kept.length ≤ 10000 := Nat.le_trans (Nat.le_add_right _ _) hm.kept
  have hsca := hm.small.calls
  refine Tri_of (args := [pt x, .slice la l.length lc]) (n := 192) Try.func53 rfl rfl (Nat.le_of_ble_eq_true rfl) ?_
  refine G_seq ?_
  refine G_pure (E' := [⟨0, [], pt x⟩, ⟨1, [], .slice la l.length lc⟩, ⟨4, [], .int .i64 0⟩]) [0] [0, 1, 4] rfl (by kernel_rfl) ?_
  refine N_then ?_
  refine G_seq ?_
  refine G_seq ?_
  refine G_region ?_
  refine GL_pure (E' := [⟨21, [], .pointer (some ⟨x, 1, none⟩)⟩, ⟨0, [], pt x⟩, ⟨1, [], .slice la l.length lc⟩, ⟨4, [], .int .i64 0⟩]) [0, 0, 0] (by kernel_rfl) (j := 3) rfl ?_
  refine GL_load (i := 3) (ch := []) (b := x) (off := 1) (v := .slice s.ba s.bn s.bc) rfl rfl (by kernel_rfl) (by kernel_rfl) (by kernel_rfl) (by kernel_rfl) (by kernel_rfl) (At.grp 0 0 rfl rfl) rfl ?_
  refine GL_fin (E' := [⟨0, [], pt x⟩, ⟨1, [], .slice la l.length lc⟩, ⟨4, [], .int .i64 0⟩, ⟨23, [], .int .i64 ((s.bn : Nat) : Int)⟩, ⟨24, [], .int .i64 0⟩]) [0, 0] [0, 1, 4, 23, 24] rfl (by kernel_rfl) ?_
  refine N_then ?_
  refine G_block ?_
  refine G_loop (EI := (fun ξ : Nat × Nat × List Body × Grp => [⟨0, [], pt x⟩, ⟨1, [], .slice la l.length lc⟩, ⟨4, [], .int .i64 ((ξ.2.1 : Nat) : Int)⟩, ⟨23, [], .int .i64 ((s.bn : Nat) : Int)⟩, ⟨24, [], .int .i64 ((ξ.1 : Nat) : Int)⟩])) (HI := (fun ξ : Nat × Nat × List Body × Grp => ([(x, .cells #[.int .i64 M.room, .slice s.ba s.bn s.bc, .slice s.na s.nn s.nc, .slice s.ka s.kn s.kc, .slice s.ca s.cn s.cc, .bool M.fails, .bool M.once, .int .i64 M.calls] 86 (0, 0))] :: ξ.2.2.2 :: s.cg :: (s.Z ++ H)))) (Φ := (fun ξ : Nat × Nat × List Body × Grp => (ξ.1 ≤ M.bodies.length) ∧ (ξ.2.1 ≤ ξ.1) ∧ (CrB M.bodies l ξ.1 ξ.2.1 ξ.2.2.1) ∧ (Own 92 2 (.slice s.ba s.bn s.bc) ξ.2.2.2 s.bn (bdC ξ.2.2.1)))) (μ := (fun ξ : Nat × Nat × List Body × Grp => M.bodies.length - ξ.1)) (s0 := (0, 0, M.bodies, s.bg)) [0, 1, 4, 23, 24] (by kernel_rfl) rfl ⟨(by omega), (Nat.zero_le _), (crb0 _ _), h.own⟩ ?_
  rintro ⟨j, u, X, bg2⟩ ⟨hj, hu, hX, hO2⟩
  replace hj : j ≤ M.bodies.length := hj
  replace hu : u ≤ j := hu
  replace hX : CrB M.bodies l j u X := hX
  replace hO2 : Own 92 2 (.slice s.ba s.bn s.bc) bg2 s.bn (bdC X) := hO2
  obtain ⟨hXl, hXe⟩ := crb_at hX hj
  refine G_seq ?_
  refine G_pure (E' := [⟨0, [], pt x⟩, ⟨1, [], .slice la l.length lc⟩, ⟨4, [], .int .i64 ((u : Nat) : Int)⟩, ⟨23, [], .int .i64 ((s.bn : Nat) : Int)⟩, ⟨24, [], .int .i64 ((j : Nat) : Int)⟩, ⟨25, [], .bool (decide (((j : Nat) : Int) < ((s.bn : Nat) : Int)))⟩]) [0] [0, 1, 4, 23, 24, 25] rfl (by kernel_rfl) ?_
  refine N_then ?_
  refine G_seq ?_
  refine G_cond (b := decide (((j : Nat) : Int) < ((s.bn : Nat) : Int))) (by kernel_rfl) (fun hc1 => ?_) (fun hc1 => ?_)
  ·
    replace hc1 := of_decide_eq_true hc1
    refine G_skip ?_
    refine N_then ?_
    refine G_seq ?_
    refine G_block ?_
    refine G_seq ?_
    refine G_pure (E' := [⟨0, [], pt x⟩, ⟨1, [], .slice la l.length lc⟩, ⟨4, [], .int .i64 ((u : Nat) : Int)⟩, ⟨5, [], .int .i64 ((j : Nat) : Int)⟩, ⟨23, [], .int .i64 ((s.bn : Nat) : Int)⟩, ⟨24, [], .int .i64 ((j : Nat) : Int)⟩]) [0, 0] [0, 1, 4, 5, 23, 24] rfl (by kernel_rfl) ?_
    refine N_then ?_
    refine G_seq ?_
    refine G_region ?_
    refine GL_pure (E' := [⟨29, [], .pointer (some ⟨x, 1, none⟩)⟩, ⟨0, [], pt x⟩, ⟨1, [], .slice la l.length lc⟩, ⟨4, [], .int .i64 ((u : Nat) : Int)⟩, ⟨5, [], .int .i64 ((j : Nat) : Int)⟩, ⟨23, [], .int .i64 ((s.bn : Nat) : Int)⟩, ⟨24, [], .int .i64 ((j : Nat) : Int)⟩]) [0, 0, 0] (by kernel_rfl) (j := 3) rfl ?_
    refine GL_load (i := 3) (ch := []) (b := x) (off := 1) (v := .slice s.ba s.bn s.bc) rfl rfl (by kernel_rfl) (by kernel_rfl) (by kernel_rfl) (by kernel_rfl) (by kernel_rfl) (At.grp 0 0 rfl rfl) rfl ?_
    refine GL_pure (E' := [⟨31, [], .int .i64 ((j : Nat) : Int)⟩, ⟨30, [], .slice s.ba s.bn s.bc⟩, ⟨0, [], pt x⟩, ⟨1, [], .slice la l.length lc⟩, ⟨4, [], .int .i64 ((u : Nat) : Int)⟩, ⟨23, [], .int .i64 ((s.bn : Nat) : Int)⟩, ⟨24, [], .int .i64 ((j : Nat) : Int)⟩]) [0] (by kernel_rfl) (j := 5) rfl ?_
    refine GL_indexAddr (i := 5) (ch := []) (a := s.ba) (len := s.bn) (cap := s.bc) (kd := .i64) (j := ((j : Nat) : Int)) (e := 92) (sz := 2) (S := (inG bg2)) (cs := (bdC X)) rfl rfl (by kernel_rfl) (by kernel_rfl) (by kernel_rfl) (by kernel_rfl) (by kernel_rfl) (by kernel_rfl) (by kernel_rfl) (own_rd hO2) (fun _ => by exact ⟨by omega, by omega, bdC_ne (i := j) (by omega)⟩) ?_
    refine GL_fin (E' := [⟨0, [], pt x⟩, ⟨1, [], .slice la l.length lc⟩, ⟨4, [], .int .i64 ((u : Nat) : Int)⟩, ⟨6, [], .pointer (some (eltA s.ba (j * 2)))⟩, ⟨23, [], .int .i64 ((s.bn : Nat) : Int)⟩, ⟨24, [], .int .i64 ((j : Nat) : Int)⟩]) [0] [0, 1, 4, 6, 23, 24] rfl (by kernel_rfl) ?_
    refine N_then ?_
    refine G_seq ?_
    refine G_seq ?_
    refine G_regionD (by kernel_rfl) (by kernel_rfl) ?_
    refine GL_pure (E' := [⟨35, [], .pointer (some (eltA s.ba (j * 2)))⟩, ⟨0, [], pt x⟩, ⟨1, [], .slice la l.length lc⟩, ⟨4, [], .int .i64 ((u : Nat) : Int)⟩, ⟨6, [], .pointer (some (eltA s.ba (j * 2)))⟩, ⟨23, [], .int .i64 ((s.bn : Nat) : Int)⟩, ⟨24, [], .int .i64 ((j : Nat) : Int)⟩]) [0, 0, 0] (by kernel_rfl) (j := 3) rfl ?_
    refine GL_loadS (i := 3) (ch := []) (a := s.ba) (q := j * 2) (S := (inG bg2)) (cs := (bdC X)) (v := .string ((X.getD j default).now)) rfl rfl (by kernel_rfl) (by kernel_rfl) (by kernel_rfl) (by kernel_rfl) (by kernel_rfl) (own_rd hO2) (at_inG 1 rfl) (fun _ => (bdC_at0 (by omega))) ?_
    have hw2 : Addr.add (eltA s.ba (j * 2)) 1 = eltA s.ba (j * 2 + 1) := eltA_add _ _ _
    refine GL_pure (E' := [⟨39, [], .pointer (some (eltA s.ba (j * 2 + 1)))⟩, ⟨36, [], .string ((X.getD j default).now)⟩, ⟨0, [], pt x⟩, ⟨1, [], .slice la l.length lc⟩, ⟨4, [], .int .i64 ((u : Nat) : Int)⟩, ⟨6, [], .pointer (some (eltA s.ba (j * 2)))⟩, ⟨23, [], .int .i64 ((s.bn : Nat) : Int)⟩, ⟨24, [], .int .i64 ((j : Nat) : Int)⟩]) [0, 0, 0] (Eq.trans (b := some [⟨39, [], .pointer (some (Addr.add (eltA s.ba (j * 2)) 1))⟩, ⟨36, [], .string ((X.getD j default).now)⟩, ⟨0, [], pt x⟩, ⟨1, [], .slice la l.length lc⟩, ⟨4, [], .int .i64 ((u : Nat) : Int)⟩, ⟨6, [], .pointer (some (eltA s.ba (j * 2)))⟩, ⟨23, [], .int .i64 ((s.bn : Nat) : Int)⟩, ⟨24, [], .int .i64 ((j : Nat) : Int)⟩]) (by kernel_rfl) (by simp only [hw2])) (j := 7) rfl ?_
    refine GL_loadS (i := 7) (ch := []) (a := s.ba) (q := j * 2 + 1) (S := (inG bg2)) (cs := (bdC X)) (v := .string ((X.getD j default).kept)) rfl rfl (by kernel_rfl) (by kernel_rfl) (by kernel_rfl) (by kernel_rfl) (by kernel_rfl) (own_rd hO2) (at_inG 1 rfl) (fun _ => (bdC_at1 (by omega))) ?_
    refine GL_fin (E' := [⟨0, [], pt x⟩, ⟨1, [], .slice la l.length lc⟩, ⟨4, [], .int .i64 ((u : Nat) : Int)⟩, ⟨6, [], .pointer (some (eltA s.ba (j * 2)))⟩, ⟨23, [], .int .i64 ((s.bn : Nat) : Int)⟩, ⟨24, [], .int .i64 ((j : Nat) : Int)⟩, ⟨41, [], .bool (!(((X.getD j default).now).toList == ((X.getD j default).kept).toList))⟩]) [0] [0, 1, 4, 6, 23, 24, 41] rfl (by kernel_rfl) ?_
    refine N_then ?_
    refine G_cond (b := !(((X.getD j default).now).toList == ((X.getD j default).kept).toList)) (by kernel_rfl) (fun hc3 => ?_) (fun hc3 => ?_)
    ·
      have hne := hc3
      have hsz := hm.small.size _ (getD_memG (l := M.bodies) (i := j) (by omega))
      rw [← hXe] at hsz
      have hlt2 := now_ne (b := X.getD j default) (by rw [hXe]; exact h.well.pre _ (getD_memG (by omega))) hne
      refine G_seq ?_
      refine G_pure (E' := [⟨0, [], pt x⟩, ⟨1, [], .slice la l.length lc⟩, ⟨4, [], .int .i64 ((u : Nat) : Int)⟩, ⟨6, [], .pointer (some (eltA s.ba (j * 2)))⟩, ⟨7, [], .int .i64 0⟩, ⟨23, [], .int .i64 ((s.bn : Nat) : Int)⟩, ⟨24, [], .int .i64 ((j : Nat) : Int)⟩]) [0] [0, 1, 4, 6, 7, 23, 24] rfl (by kernel_rfl) ?_
      refine N_then ?_
      refine G_seq ?_
      refine G_seq ?_
      refine G_pure (E' := [⟨0, [], pt x⟩, ⟨1, [], .slice la l.length lc⟩, ⟨4, [], .int .i64 ((u : Nat) : Int)⟩, ⟨6, [], .pointer (some (eltA s.ba (j * 2)))⟩, ⟨7, [], .int .i64 0⟩, ⟨23, [], .int .i64 ((s.bn : Nat) : Int)⟩, ⟨24, [], .int .i64 ((j : Nat) : Int)⟩, ⟨45, [], .bool (decide (((u : Nat) : Int) < ((l.length : Nat) : Int)))⟩]) [0, 0, 0, 0] [0, 1, 4, 6, 7, 23, 24, 45] rfl (by kernel_rfl) ?_
      refine N_then ?_
      refine G_join (T := Int) (fun ξ : Int => [⟨0, [], pt x⟩, ⟨1, [], .slice la l.length lc⟩, ⟨4, [], .int .i64 ((u : Nat) : Int)⟩, ⟨6, [], .pointer (some (eltA s.ba (j * 2)))⟩, ⟨7, [], .int .i64 ξ⟩, ⟨23, [], .int .i64 ((s.bn : Nat) : Int)⟩, ⟨24, [], .int .i64 ((j : Nat) : Int)⟩]) (fun ξ : Int => ([(x, .cells #[.int .i64 M.room, .slice s.ba s.bn s.bc, .slice s.na s.nn s.nc, .slice s.ka s.kn s.kc, .slice s.ca s.cn s.cc, .bool M.fails, .bool M.once, .int .i64 M.calls] 86 (0, 0))] :: bg2 :: s.cg :: (s.Z ++ H))) (fun ξ : Int => (ξ = nextK (l.getD u 0) (((X.getD j default).now.size : Int) - ((X.getD j default).kept.size : Int) + 1))) ?_ ?_
      ·
        refine G_cond (b := decide (((u : Nat) : Int) < ((l.length : Nat) : Int))) (by kernel_rfl) (fun hc4 => ?_) (fun hc4 => ?_)
        ·
          replace hc4 := of_decide_eq_true hc4
          -- L in
          refine G_seq ?_
          refine G_regionD (by kernel_rfl) (by kernel_rfl) ?_
          refine GL_pure (E' := [⟨48, [], .pointer (some (eltA s.ba (j * 2)))⟩, ⟨0, [], pt x⟩, ⟨1, [], .slice la l.length lc⟩, ⟨4, [], .int .i64 ((u : Nat) : Int)⟩, ⟨6, [], .pointer (some (eltA s.ba (j * 2)))⟩, ⟨23, [], .int .i64 ((s.bn : Nat) : Int)⟩, ⟨24, [], .int .i64 ((j : Nat) : Int)⟩]) [0, 0, 0] (by kernel_rfl) (j := 3) rfl ?_
          refine GL_loadS (i := 3) (ch := []) (a := s.ba) (q := j * 2) (S := (inG bg2)) (cs := (bdC X)) (v := .string ((X.getD j default).now)) rfl rfl (by kernel_rfl) (by kernel_rfl) (by kernel_rfl) (by kernel_rfl) (by kernel_rfl) (own_rd hO2) (at_inG 1 rfl) (fun _ => (bdC_at0 (by omega))) ?_
          have hw5 : Addr.add (eltA s.ba (j * 2)) 1 = eltA s.ba (j * 2 + 1) := eltA_add _ _ _
          refine GL_pure (E' := [⟨53, [], .pointer (some (eltA s.ba (j * 2 + 1)))⟩, ⟨50, [], .int .i64 (((X.getD j default).now).size : Int)⟩, ⟨0, [], pt x⟩, ⟨1, [], .slice la l.length lc⟩, ⟨4, [], .int .i64 ((u : Nat) : Int)⟩, ⟨6, [], .pointer (some (eltA s.ba (j * 2)))⟩, ⟨23, [], .int .i64 ((s.bn : Nat) : Int)⟩, ⟨24, [], .int .i64 ((j : Nat) : Int)⟩]) [0, 0, 0, 0] (Eq.trans (b := some [⟨53, [], .pointer (some (Addr.add (eltA s.ba (j * 2)) 1))⟩, ⟨50, [], .int .i64 (((X.getD j default).now).size : Int)⟩, ⟨0, [], pt x⟩, ⟨1, [], .slice la l.length lc⟩, ⟨4, [], .int .i64 ((u : Nat) : Int)⟩, ⟨6, [], .pointer (some (eltA s.ba (j * 2)))⟩, ⟨23, [], .int .i64 ((s.bn : Nat) : Int)⟩, ⟨24, [], .int .i64 ((j : Nat) : Int)⟩]) (by kernel_rfl) (by simp only [hw5])) (j := 8) rfl ?_
          refine GL_loadS (i := 8) (ch := []) (a := s.ba) (q := j * 2 + 1) (S := (inG bg2)) (cs := (bdC X)) (v := .string ((X.getD j default).kept)) rfl rfl (by kernel_rfl) (by kernel_rfl) (by kernel_rfl) (by kernel_rfl) (by kernel_rfl) (own_rd hO2) (at_inG 1 rfl) (fun _ => (bdC_at1 (by omega))) ?_
          have hw6 : IntKind.wrap .i64 ((((X.getD j default).now).size : Int) - (((X.getD j default).kept).size : Int)) = (((X.getD j default).now).size : Int) - (((X.getD j default).kept).size : Int) := w64 (by omega) (by omega)
          have hw7 : IntKind.wrap .i64 (((((X.getD j default).now).size : Int) - (((X.getD j default).kept).size : Int)) + 1) = ((((X.getD j default).now).size : Int) - (((X.getD j default).kept).size : Int)) + 1 := w64 (by omega) (by omega)
          refine GL_fin (E' := [⟨0, [], pt x⟩, ⟨1, [], .slice la l.length lc⟩, ⟨4, [], .int .i64 ((u : Nat) : Int)⟩, ⟨6, [], .pointer (some (eltA s.ba (j * 2)))⟩, ⟨8, [], .int .i64 (((((X.getD j default).now).size : Int) - (((X.getD j default).kept).size : Int)) + 1)⟩, ⟨23, [], .int .i64 ((s.bn : Nat) : Int)⟩, ⟨24, [], .int .i64 ((j : Nat) : Int)⟩]) [0, 0, 0, 0] [0, 1, 4, 6, 8, 23, 24] rfl (Eq.trans (b := some [⟨0, [], pt x⟩, ⟨1, [], .slice la l.length lc⟩, ⟨4, [], .int .i64 ((u : Nat) : Int)⟩, ⟨6, [], .pointer (some (eltA s.ba (j * 2)))⟩, ⟨8, [], .int .i64 (IntKind.wrap .i64 ((IntKind.wrap .i64 ((((X.getD j default).now).size : Int) - (((X.getD j default).kept).size : Int))) + 1))⟩, ⟨23, [], .int .i64 ((s.bn : Nat) : Int)⟩, ⟨24, [], .int .i64 ((j : Nat) : Int)⟩]) (by kernel_rfl) (by simp only [hw6, hw7])) ?_
          refine N_then ?_
          refine G_region ?_
          refine GL_pure (E' := [⟨59, [], .int .i64 ((u : Nat) : Int)⟩, ⟨58, [], .slice la l.length lc⟩, ⟨0, [], pt x⟩, ⟨1, [], .slice la l.length lc⟩, ⟨4, [], .int .i64 ((u : Nat) : Int)⟩, ⟨6, [], .pointer (some (eltA s.ba (j * 2)))⟩, ⟨8, [], .int .i64 (((((X.getD j default).now).size : Int) - (((X.getD j default).kept).size : Int)) + 1)⟩, ⟨23, [], .int .i64 ((s.bn : Nat) : Int)⟩, ⟨24, [], .int .i64 ((j : Nat) : Int)⟩]) [0, 0] (by kernel_rfl) (j := 2) rfl ?_
          refine GL_indexAddr (i := 2) (ch := []) (a := la) (len := l.length) (cap := lc) (kd := .i64) (j := ((u : Nat) : Int)) (e := 3) (sz := 1) (S := Sk) (cs := (l.map (Value.int .i64))) rfl rfl (by kernel_rfl) (by kernel_rfl) (by kernel_rfl) (by kernel_rfl) (by kernel_rfl) (by kernel_rfl) (by kernel_rfl) hrl (fun _ => by exact ⟨by omega, by omega, ints_ne (u := u) (by omega)⟩) ?_
          refine GL_loadS (i := 3) (ch := []) (a := la) (q := u * 1) (S := Sk) (cs := (l.map (Value.int .i64))) (v := .int .i64 (l.getD u 0)) rfl rfl (by kernel_rfl) (by kernel_rfl) (by kernel_rfl) (by kernel_rfl) (by kernel_rfl) hrl (fun y o h => (At.cons (At.cons (At.cons (at_app2 (hSk y o h)))))) (fun _ => (by rw [Nat.mul_one]; exact intL_at (by omega))) ?_
          refine GL_pure (E' := [⟨62, [], .int .i64 (((((X.getD j default).now).size : Int) - (((X.getD j default).kept).size : Int)) + 1)⟩, ⟨61, [], .int .i64 (l.getD u 0)⟩, ⟨0, [], pt x⟩, ⟨1, [], .slice la l.length lc⟩, ⟨4, [], .int .i64 ((u : Nat) : Int)⟩, ⟨6, [], .pointer (some (eltA s.ba (j * 2)))⟩, ⟨8, [], .int .i64 (((((X.getD j default).now).size : Int) - (((X.getD j default).kept).size : Int)) + 1)⟩, ⟨23, [], .int .i64 ((s.bn : Nat) : Int)⟩, ⟨24, [], .int .i64 ((j : Nat) : Int)⟩]) [0] (by kernel_rfl) (j := 5) rfl ?_
          refine GL_rem (i := 5) (ch := []) (kd := .i64) (a := (l.getD u 0)) (b := ((((X.getD j default).now).size : Int) - (((X.getD j default).kept).size : Int)) + 1) rfl rfl (by kernel_rfl) (by kernel_rfl) (by kernel_rfl) (by kernel_rfl) (by kernel_rfl) (fun _ => by omega) ?_
          have hrm8 := tmod_ne (l.getD u 0) (show 0 < ((((X.getD j default).now).size : Int) - (((X.getD j default).kept).size : Int)) + 1 by omega)
          have hw9 : IntKind.wrap .i64 ((Int.tmod (l.getD u 0) (((((X.getD j default).now).size : Int) - (((X.getD j default).kept).size : Int)) + 1)) + (((((X.getD j default).now).size : Int) - (((X.getD j default).kept).size : Int)) + 1)) = (Int.tmod (l.getD u 0) (((((X.getD j default).now).size : Int) - (((X.getD j default).kept).size : Int)) + 1)) + (((((X.getD j default).now).size : Int) - (((X.getD j default).kept).size : Int)) + 1) := w64 (by omega) (by omega)
          refine GL_pure (E' := [⟨66, [], .int .i64 (((((X.getD j default).now).size : Int) - (((X.getD j default).kept).size : Int)) + 1)⟩, ⟨65, [], .int .i64 ((Int.tmod (l.getD u 0) (((((X.getD j default).now).size : Int) - (((X.getD j default).kept).size : Int)) + 1)) + (((((X.getD j default).now).size : Int) - (((X.getD j default).kept).size : Int)) + 1))⟩, ⟨0, [], pt x⟩, ⟨1, [], .slice la l.length lc⟩, ⟨4, [], .int .i64 ((u : Nat) : Int)⟩, ⟨6, [], .pointer (some (eltA s.ba (j * 2)))⟩, ⟨23, [], .int .i64 ((s.bn : Nat) : Int)⟩, ⟨24, [], .int .i64 ((j : Nat) : Int)⟩]) [0, 0, 0] (Eq.trans (b := some [⟨66, [], .int .i64 (((((X.getD j default).now).size : Int) - (((X.getD j default).kept).size : Int)) + 1)⟩, ⟨65, [], .int .i64 (IntKind.wrap .i64 ((Int.tmod (l.getD u 0) (((((X.getD j default).now).size : Int) - (((X.getD j default).kept).size : Int)) + 1)) + (((((X.getD j default).now).size : Int) - (((X.getD j default).kept).size : Int)) + 1)))⟩, ⟨0, [], pt x⟩, ⟨1, [], .slice la l.length lc⟩, ⟨4, [], .int .i64 ((u : Nat) : Int)⟩, ⟨6, [], .pointer (some (eltA s.ba (j * 2)))⟩, ⟨23, [], .int .i64 ((s.bn : Nat) : Int)⟩, ⟨24, [], .int .i64 ((j : Nat) : Int)⟩]) (by kernel_rfl) (by simp only [hw9])) (j := 9) rfl ?_
          refine GL_rem (i := 9) (ch := []) (kd := .i64) (a := (Int.tmod (l.getD u 0) (((((X.getD j default).now).size : Int) - (((X.getD j default).kept).size : Int)) + 1)) + (((((X.getD j default).now).size : Int) - (((X.getD j default).kept).size : Int)) + 1)) (b := ((((X.getD j default).now).size : Int) - (((X.getD j default).kept).size : Int)) + 1) rfl rfl (by kernel_rfl) (by kernel_rfl) (by kernel_rfl) (by kernel_rfl) (by kernel_rfl) (fun _ => by omega) ?_
          have hrm10 := tmod_ne ((Int.tmod (l.getD u 0) (((((X.getD j default).now).size : Int) - (((X.getD j default).kept).size : Int)) + 1)) + (((((X.getD j default).now).size : Int) - (((X.getD j default).kept).size : Int)) + 1)) (show 0 < ((((X.getD j default).now).size : Int) - (((X.getD j default).kept).size : Int)) + 1 by omega)
          refine GL_pure (E' := [⟨7, [], .int .i64 (Int.tmod ((Int.tmod (l.getD u 0) (((((X.getD j default).now).size : Int) - (((X.getD j default).kept).size : Int)) + 1)) + (((((X.getD j default).now).size : Int) - (((X.getD j default).kept).size : Int)) + 1)) (((((X.getD j default).now).size : Int) - (((X.getD j default).kept).size : Int)) + 1))⟩, ⟨0, [], pt x⟩, ⟨1, [], .slice la l.length lc⟩, ⟨4, [], .int .i64 ((u : Nat) : Int)⟩, ⟨6, [], .pointer (some (eltA s.ba (j * 2)))⟩, ⟨23, [], .int .i64 ((s.bn : Nat) : Int)⟩, ⟨24, [], .int .i64 ((j : Nat) : Int)⟩]) [0] (by kernel_rfl) (j := 11) rfl ?_
          refine GL_env (E' := [⟨7, [], .int .i64 (nextK (l.getD u 0) (((X.getD j default).now.size : Int) - ((X.getD j default).kept.size : Int) + 1))⟩, ⟨0, [], pt x⟩, ⟨1, [], .slice la l.length lc⟩, ⟨4, [], .int .i64 ((u : Nat) : Int)⟩, ⟨6, [], .pointer (some (eltA s.ba (j * 2)))⟩, ⟨23, [], .int .i64 ((s.bn : Nat) : Int)⟩, ⟨24, [], .int .i64 ((j : Nat) : Int)⟩]) rfl ?_
          refine GL_fin (E' := [⟨0, [], pt x⟩, ⟨1, [], .slice la l.length lc⟩, ⟨4, [], .int .i64 ((u : Nat) : Int)⟩, ⟨6, [], .pointer (some (eltA s.ba (j * 2)))⟩, ⟨7, [], .int .i64 (nextK (l.getD u 0) (((X.getD j default).now.size : Int) - ((X.getD j default).kept.size : Int) + 1))⟩, ⟨23, [], .int .i64 ((s.bn : Nat) : Int)⟩, ⟨24, [], .int .i64 ((j : Nat) : Int)⟩]) [] [0, 1, 4, 6, 7, 23, 24] rfl (by kernel_rfl) ?_
          refine N_join ((nextK (l.getD u 0) (((X.getD j default).now.size : Int) - ((X.getD j default).kept.size : Int) + 1))) [0, 1, 4, 6, 7, 23, 24] (by kernel_rfl) (fun w h => (((h.front (j := 2) rfl).front (j := 2) rfl).front (j := 2) rfl)) rfl
        ·
          replace hc4 := of_decide_eq_false hc4
          refine G_skip ?_
          refine N_join (0) [0, 1, 4, 6, 7, 23, 24] (by kernel_rfl) (fun w h => (((h.front (j := 2) rfl).front (j := 2) rfl).front (j := 2) rfl)) (by rw [getD_over (by omega), nextK0 (by omega)])
      ·
        rintro nz hnk
        have hnb := nextK_bd (k := l.getD u 0) (n := (((X.getD j default).now.size : Int) - ((X.getD j default).kept.size : Int) + 1)) (by omega)
        rw [← hnk] at hnb
        refine N_then ?_
        refine G_seq ?_
        have hw11 : IntKind.wrap .i64 (((u : Nat) : Int) + 1) = ((u : Nat) : Int) + 1 := w64 (by omega) (by omega)
        refine G_pure (E' := [⟨0, [], pt x⟩, ⟨1, [], .slice la l.length lc⟩, ⟨4, [], .int .i64 (((u : Nat) : Int) + 1)⟩, ⟨6, [], .pointer (some (eltA s.ba (j * 2)))⟩, ⟨7, [], .int .i64 nz⟩, ⟨23, [], .int .i64 ((s.bn : Nat) : Int)⟩, ⟨24, [], .int .i64 ((j : Nat) : Int)⟩]) [0, 0, 0] [0, 1, 4, 6, 7, 23, 24] rfl (Eq.trans (b := some [⟨0, [], pt x⟩, ⟨1, [], .slice la l.length lc⟩, ⟨4, [], .int .i64 (IntKind.wrap .i64 (((u : Nat) : Int) + 1))⟩, ⟨6, [], .pointer (some (eltA s.ba (j * 2)))⟩, ⟨7, [], .int .i64 nz⟩, ⟨23, [], .int .i64 ((s.bn : Nat) : Int)⟩, ⟨24, [], .int .i64 ((j : Nat) : Int)⟩]) (by kernel_rfl) (by simp only [hw11])) ?_
        refine N_then ?_
        refine G_regionH ([(x, .cells #[.int .i64 M.room, .slice s.ba s.bn s.bc, .slice s.na s.nn s.nc, .slice s.ka s.kn s.kc, .slice s.ca s.cn s.cc, .bool M.fails, .bool M.once, .int .i64 M.calls] 86 (0, 0))] :: s.cg :: (s.Z ++ H)) (by kernel_rfl) ?_
        refine GH_pure (E' := [⟨70, [], .pointer (some (eltA s.ba (j * 2)))⟩, ⟨0, [], pt x⟩, ⟨1, [], .slice la l.length lc⟩, ⟨4, [], .int .i64 (((u : Nat) : Int) + 1)⟩, ⟨6, [], .pointer (some (eltA s.ba (j * 2)))⟩, ⟨7, [], .int .i64 nz⟩, ⟨23, [], .int .i64 ((s.bn : Nat) : Int)⟩, ⟨24, [], .int .i64 ((j : Nat) : Int)⟩]) 0 0 (by kernel_rfl) (fun w h => (((h.front (j := 2) rfl).front (j := 1) rfl).erase 2)) (by kernel_rfl) ?_
        refine GH_pure (E' := [⟨71, [], .pointer (some (eltA s.ba (j * 2)))⟩, ⟨70, [], .pointer (some (eltA s.ba (j * 2)))⟩, ⟨0, [], pt x⟩, ⟨1, [], .slice la l.length lc⟩, ⟨4, [], .int .i64 (((u : Nat) : Int) + 1)⟩, ⟨6, [], .pointer (some (eltA s.ba (j * 2)))⟩, ⟨7, [], .int .i64 nz⟩, ⟨23, [], .int .i64 ((s.bn : Nat) : Int)⟩, ⟨24, [], .int .i64 ((j : Nat) : Int)⟩]) 1 0 (by kernel_rfl) (fun w h => (((h.front (j := 2) rfl).front (j := 1) rfl).erase 2)) (by kernel_rfl) ?_
        refine GH_nil (ad := (eltA s.ba (j * 2))) 2 rfl rfl rfl (by kernel_rfl) (by kernel_rfl) (by kernel_rfl) (by kernel_rfl) (by kernel_rfl) (fun w h => (((h.front (j := 2) rfl).front (j := 1) rfl).erase 2)) ?_
        refine GH_pure (E' := [⟨73, [], .pointer (some (eltA s.ba (j * 2)))⟩, ⟨70, [], .pointer (some (eltA s.ba (j * 2)))⟩, ⟨0, [], pt x⟩, ⟨1, [], .slice la l.length lc⟩, ⟨4, [], .int .i64 (((u : Nat) : Int) + 1)⟩, ⟨6, [], .pointer (some (eltA s.ba (j * 2)))⟩, ⟨7, [], .int .i64 nz⟩, ⟨23, [], .int .i64 ((s.bn : Nat) : Int)⟩, ⟨24, [], .int .i64 ((j : Nat) : Int)⟩]) 3 0 (by kernel_rfl) (fun w h => (((h.front (j := 2) rfl).front (j := 1) rfl).erase 2)) (by kernel_rfl) ?_
        refine GH_pure (E' := [⟨75, [], .pointer (some (eltA s.ba (j * 2)))⟩, ⟨73, [], .pointer (some (eltA s.ba (j * 2)))⟩, ⟨70, [], .pointer (some (eltA s.ba (j * 2)))⟩, ⟨0, [], pt x⟩, ⟨1, [], .slice la l.length lc⟩, ⟨4, [], .int .i64 (((u : Nat) : Int) + 1)⟩, ⟨6, [], .pointer (some (eltA s.ba (j * 2)))⟩, ⟨7, [], .int .i64 nz⟩, ⟨23, [], .int .i64 ((s.bn : Nat) : Int)⟩, ⟨24, [], .int .i64 ((j : Nat) : Int)⟩]) 5 0 (by kernel_rfl) (fun w h => (((h.front (j := 2) rfl).front (j := 1) rfl).erase 2)) (by kernel_rfl) ?_
        refine GH_nil (ad := (eltA s.ba (j * 2))) 6 rfl rfl rfl (by kernel_rfl) (by kernel_rfl) (by kernel_rfl) (by kernel_rfl) (by kernel_rfl) (fun w h => (((h.front (j := 2) rfl).front (j := 1) rfl).erase 2)) ?_
        have hw12 : Addr.add (eltA s.ba (j * 2)) 1 = eltA s.ba (j * 2 + 1) := eltA_add _ _ _
        refine GH_pure (E' := [⟨77, [], .pointer (some (eltA s.ba (j * 2 + 1)))⟩, ⟨73, [], .pointer (some (eltA s.ba (j * 2)))⟩, ⟨70, [], .pointer (some (eltA s.ba (j * 2)))⟩, ⟨0, [], pt x⟩, ⟨1, [], .slice la l.length lc⟩, ⟨4, [], .int .i64 (((u : Nat) : Int) + 1)⟩, ⟨6, [], .pointer (some (eltA s.ba (j * 2)))⟩, ⟨7, [], .int .i64 nz⟩, ⟨23, [], .int .i64 ((s.bn : Nat) : Int)⟩, ⟨24, [], .int .i64 ((j : Nat) : Int)⟩]) 7 0 (by kernel_rfl) (fun w h => (((h.front (j := 2) rfl).front (j := 1) rfl).erase 2)) (Eq.trans (b := some [⟨77, [], .pointer (some (Addr.add (eltA s.ba (j * 2)) 1))⟩, ⟨73, [], .pointer (some (eltA s.ba (j * 2)))⟩, ⟨70, [], .pointer (some (eltA s.ba (j * 2)))⟩, ⟨0, [], pt x⟩, ⟨1, [], .slice la l.length lc⟩, ⟨4, [], .int .i64 (((u : Nat) : Int) + 1)⟩, ⟨6, [], .pointer (some (eltA s.ba (j * 2)))⟩, ⟨7, [], .int .i64 nz⟩, ⟨23, [], .int .i64 ((s.bn : Nat) : Int)⟩, ⟨24, [], .int .i64 ((j : Nat) : Int)⟩]) (by kernel_rfl) (by simp only [hw12])) ?_
        refine GH_pure (E' := [⟨80, [], .int .i64 nz⟩, ⟨77, [], .pointer (some (eltA s.ba (j * 2 + 1)))⟩, ⟨73, [], .pointer (some (eltA s.ba (j * 2)))⟩, ⟨70, [], .pointer (some (eltA s.ba (j * 2)))⟩, ⟨0, [], pt x⟩, ⟨1, [], .slice la l.length lc⟩, ⟨4, [], .int .i64 (((u : Nat) : Int) + 1)⟩, ⟨6, [], .pointer (some (eltA s.ba (j * 2)))⟩, ⟨23, [], .int .i64 ((s.bn : Nat) : Int)⟩, ⟨24, [], .int .i64 ((j : Nat) : Int)⟩]) 10 0 (by kernel_rfl) (fun w h => (((h.front (j := 2) rfl).front (j := 1) rfl).erase 2)) (by kernel_rfl) ?_
        refine GH_eff2 4 8 (by kernel_rfl) (by kernel_rfl) (by kernel_rfl) (by kernel_rfl) (by kernel_rfl) ?_ ?_
        ·
          refine GL_loadS (i := 4) (ch := []) (a := s.ba) (q := j * 2) (S := (inG bg2)) (cs := (bdC X)) (v := .string ((X.getD j default).now)) rfl rfl (by kernel_rfl) (by kernel_rfl) (by kernel_rfl) (by kernel_rfl) (by kernel_rfl) (own_rd hO2) (at_inG 1 rfl) (fun _ => (bdC_at0 (by omega))) ?_
          refine GH_back (by kernel_rfl) (fun w h => (((h.front (j := 2) rfl).front (j := 1) rfl).erase 2)) ?_
          refine GH_eff 8 (by kernel_rfl) (by kernel_rfl) (by kernel_rfl) ?_
          refine GL_loadS (i := 8) (ch := []) (a := s.ba) (q := j * 2 + 1) (S := (inG bg2)) (cs := (bdC X)) (v := .string ((X.getD j default).kept)) rfl rfl (by kernel_rfl) (by kernel_rfl) (by kernel_rfl) (by kernel_rfl) (by kernel_rfl) (own_rd hO2) (at_inG 1 rfl) (fun _ => (bdC_at1 (by omega))) ?_
          refine GH_back (by kernel_rfl) (fun w h => (((h.front (j := 2) rfl).front (j := 1) rfl).erase 2)) ?_
          refine GH_pev (v := .int .i64 (((X.getD j default).kept).size : Int)) 9 rfl rfl (by kernel_rfl) (by kernel_rfl) (by kernel_rfl) (by kernel_rfl) (by kernel_rfl) (fun w h => (((h.front (j := 2) rfl).front (j := 1) rfl).erase 2)) ?_
          have hw13 : IntKind.wrap .i64 ((((X.getD j default).kept).size : Int) + nz) = (((X.getD j default).kept).size : Int) + nz := w64 (by omega) (by omega)
          refine GH_pure (E' := [⟨81, [], .int .i64 ((((X.getD j default).kept).size : Int) + nz)⟩, ⟨74, [], .string ((X.getD j default).now)⟩, ⟨70, [], .pointer (some (eltA s.ba (j * 2)))⟩, ⟨0, [], pt x⟩, ⟨1, [], .slice la l.length lc⟩, ⟨4, [], .int .i64 (((u : Nat) : Int) + 1)⟩, ⟨6, [], .pointer (some (eltA s.ba (j * 2)))⟩, ⟨23, [], .int .i64 ((s.bn : Nat) : Int)⟩, ⟨24, [], .int .i64 ((j : Nat) : Int)⟩]) 11 0 (by kernel_rfl) (fun w h => (((h.front (j := 2) rfl).front (j := 1) rfl).erase 2)) (Eq.trans (b := some [⟨81, [], .int .i64 (IntKind.wrap .i64 ((((X.getD j default).kept).size : Int) + nz))⟩, ⟨74, [], .string ((X.getD j default).now)⟩, ⟨70, [], .pointer (some (eltA s.ba (j * 2)))⟩, ⟨0, [], pt x⟩, ⟨1, [], .slice la l.length lc⟩, ⟨4, [], .int .i64 (((u : Nat) : Int) + 1)⟩, ⟨6, [], .pointer (some (eltA s.ba (j * 2)))⟩, ⟨23, [], .int .i64 ((s.bn : Nat) : Int)⟩, ⟨24, [], .int .i64 ((j : Nat) : Int)⟩]) (by kernel_rfl) (by simp only [hw13])) ?_
          refine GH_take' (E' := [⟨82, [], .string (((X.getD j default).now).extract 0 (Int.toNat ((((X.getD j default).kept).size : Int) + nz)))⟩, ⟨81, [], .int .i64 ((((X.getD j default).kept).size : Int) + nz)⟩, ⟨74, [], .string ((X.getD j default).now)⟩, ⟨70, [], .pointer (some (eltA s.ba (j * 2)))⟩, ⟨0, [], pt x⟩, ⟨1, [], .slice la l.length lc⟩, ⟨4, [], .int .i64 (((u : Nat) : Int) + 1)⟩, ⟨6, [], .pointer (some (eltA s.ba (j * 2)))⟩, ⟨23, [], .int .i64 ((s.bn : Nat) : Int)⟩, ⟨24, [], .int .i64 ((j : Nat) : Int)⟩]) 12 (by kernel_rfl) (fun w h => (((h.front (j := 2) rfl).front (j := 1) rfl).erase 2)) ?_ ?_
          ·
            refine GL_sliceS (i := 12) (ch := []) (s := (X.getD j default).now) (vl := none) (vh := (some (.int .i64 ((((X.getD j default).kept).size : Int) + nz)))) (l := 0) (h := (((X.getD j default).kept).size : Int) + nz) rfl rfl (by kernel_rfl) (by kernel_rfl) (by kernel_rfl) (by kernel_rfl) (by kernel_rfl) (by kernel_rfl) (by kernel_rfl) (by kernel_rfl) (by kernel_rfl) (by omega) ?_
            exact GL_yend (by kernel_rfl) (by kernel_rfl)
          refine GH_nil (ad := (eltA s.ba (j * 2))) 13 rfl rfl rfl (by kernel_rfl) (by kernel_rfl) (by kernel_rfl) (by kernel_rfl) (by kernel_rfl) (fun w h => (((h.front (j := 2) rfl).front (j := 1) rfl).erase 2)) ?_
          have hw14 : Addr.add (eltA s.ba (j * 2)) 1 = eltA s.ba (j * 2 + 1) := eltA_add _ _ _
          refine GH_pure (E' := [⟨84, [], .pointer (some (eltA s.ba (j * 2 + 1)))⟩, ⟨82, [], .string (((X.getD j default).now).extract 0 (Int.toNat ((((X.getD j default).kept).size : Int) + nz)))⟩, ⟨0, [], pt x⟩, ⟨1, [], .slice la l.length lc⟩, ⟨4, [], .int .i64 (((u : Nat) : Int) + 1)⟩, ⟨6, [], .pointer (some (eltA s.ba (j * 2)))⟩, ⟨23, [], .int .i64 ((s.bn : Nat) : Int)⟩, ⟨24, [], .int .i64 ((j : Nat) : Int)⟩]) 14 0 (by kernel_rfl) (fun w h => (((h.front (j := 2) rfl).front (j := 1) rfl).erase 2)) (Eq.trans (b := some [⟨84, [], .pointer (some (Addr.add (eltA s.ba (j * 2)) 1))⟩, ⟨82, [], .string (((X.getD j default).now).extract 0 (Int.toNat ((((X.getD j default).kept).size : Int) + nz)))⟩, ⟨0, [], pt x⟩, ⟨1, [], .slice la l.length lc⟩, ⟨4, [], .int .i64 (((u : Nat) : Int) + 1)⟩, ⟨6, [], .pointer (some (eltA s.ba (j * 2)))⟩, ⟨23, [], .int .i64 ((s.bn : Nat) : Int)⟩, ⟨24, [], .int .i64 ((j : Nat) : Int)⟩]) (by kernel_rfl) (by simp only [hw14])) ?_
          refine GH_eff 15 (by kernel_rfl) (by kernel_rfl) (by kernel_rfl) ?_
          refine GL_storeO (i := 15) (ch := []) (a := s.ba) (q := j * 2 + 1) (len := s.bn) (cap := s.bc) (v := .string (((X.getD j default).now).extract 0 (Int.toNat ((((X.getD j default).kept).size : Int) + nz)))) (g := bg2) (j := 1) (cs := (bdC X)) (cs' := (bdC (X.set j ⟨(X.getD j default).now, ((X.getD j default).now).extract 0 (Int.toNat ((((X.getD j default).kept).size : Int) + nz))⟩))) rfl rfl (by kernel_rfl) (by kernel_rfl) (by kernel_rfl) (by kernel_rfl) rfl (by kernel_rfl) (by kernel_rfl) (by kernel_rfl) rfl hO2 (by simp only [bdC_len, List.length_set]; omega) bdC_kept (fun g15 hO16 => ?_)
          refine GH_back (by kernel_rfl) (fun w h => (((h.front (j := 2) rfl).front (j := 1) rfl).erase 2)) ?_
          refine GH_done (E' := [⟨0, [], pt x⟩, ⟨1, [], .slice la l.length lc⟩, ⟨4, [], .int .i64 (((u : Nat) : Int) + 1)⟩, ⟨6, [], .pointer (some (eltA s.ba (j * 2)))⟩, ⟨23, [], .int .i64 ((s.bn : Nat) : Int)⟩, ⟨24, [], .int .i64 ((j : Nat) : Int)⟩]) [0, 1, 4, 6, 23, 24] (by kernel_rfl) (by kernel_rfl) ?_
          refine N_then ?_
          have hw17 : Addr.add (eltA s.ba (j * 2)) 1 = eltA s.ba (j * 2 + 1) := eltA_add _ _ _
          refine G_region ?_
          refine GL_pure (E' := [⟨88, [], .pointer (some (eltA s.ba (j * 2 + 1)))⟩, ⟨85, [], .pointer (some (eltA s.ba (j * 2)))⟩, ⟨0, [], pt x⟩, ⟨1, [], .slice la l.length lc⟩, ⟨4, [], .int .i64 (((u : Nat) : Int) + 1)⟩, ⟨23, [], .int .i64 ((s.bn : Nat) : Int)⟩, ⟨24, [], .int .i64 ((j : Nat) : Int)⟩]) [0, 0, 0, 0] (Eq.trans (b := some [⟨88, [], .pointer (some (Addr.add (eltA s.ba (j * 2)) 1))⟩, ⟨85, [], .pointer (some (eltA s.ba (j * 2)))⟩, ⟨0, [], pt x⟩, ⟨1, [], .slice la l.length lc⟩, ⟨4, [], .int .i64 (((u : Nat) : Int) + 1)⟩, ⟨23, [], .int .i64 ((s.bn : Nat) : Int)⟩, ⟨24, [], .int .i64 ((j : Nat) : Int)⟩]) (by kernel_rfl) (by simp only [hw17])) (j := 4) rfl ?_
          refine GL_loadS (i := 4) (ch := []) (a := s.ba) (q := j * 2 + 1) (S := (inG g15)) (cs := (bdC (X.set j ⟨(X.getD j default).now, ((X.getD j default).now).extract 0 (Int.toNat ((((X.getD j default).kept).size : Int) + nz))⟩))) (v := .string (((X.set j ⟨(X.getD j default).now, ((X.getD j default).now).extract 0 (Int.toNat ((((X.getD j default).kept).size : Int) + nz))⟩).getD j default).kept)) rfl rfl (by kernel_rfl) (by kernel_rfl) (by kernel_rfl) (by kernel_rfl) (by kernel_rfl) (own_rd hO16) (at_inG 1 rfl) (fun _ => (bdC_at1 (by simp only [List.length_set]; omega))) ?_
          refine GL_pure (E' := [⟨91, [], .pointer (some (eltA s.ba (j * 2)))⟩, ⟨89, [], .string (((X.set j ⟨(X.getD j default).now, ((X.getD j default).now).extract 0 (Int.toNat ((((X.getD j default).kept).size : Int) + nz))⟩).getD j default).kept)⟩, ⟨0, [], pt x⟩, ⟨1, [], .slice la l.length lc⟩, ⟨4, [], .int .i64 (((u : Nat) : Int) + 1)⟩, ⟨23, [], .int .i64 ((s.bn : Nat) : Int)⟩, ⟨24, [], .int .i64 ((j : Nat) : Int)⟩]) [0, 0] (by kernel_rfl) (j := 7) rfl ?_
          refine GL_storeO (i := 7) (ch := []) (a := s.ba) (q := j * 2) (len := s.bn) (cap := s.bc) (v := .string (((X.set j ⟨(X.getD j default).now, ((X.getD j default).now).extract 0 (Int.toNat ((((X.getD j default).kept).size : Int) + nz))⟩).getD j default).kept)) (g := g15) (j := 1) (cs := (bdC (X.set j ⟨(X.getD j default).now, ((X.getD j default).now).extract 0 (Int.toNat ((((X.getD j default).kept).size : Int) + nz))⟩))) (cs' := (bdC ((X.set j ⟨(X.getD j default).now, ((X.getD j default).now).extract 0 (Int.toNat ((((X.getD j default).kept).size : Int) + nz))⟩).set j ⟨((X.set j ⟨(X.getD j default).now, ((X.getD j default).now).extract 0 (Int.toNat ((((X.getD j default).kept).size : Int) + nz))⟩).getD j default).kept, ((X.set j ⟨(X.getD j default).now, ((X.getD j default).now).extract 0 (Int.toNat ((((X.getD j default).kept).size : Int) + nz))⟩).getD j default).kept⟩))) rfl rfl (by kernel_rfl) (by kernel_rfl) (by kernel_rfl) (by kernel_rfl) rfl (by kernel_rfl) (by kernel_rfl) (by kernel_rfl) rfl hO16 (by simp only [bdC_len, List.length_set]; omega) bdC_now (fun g18 hO19 => ?_)
          refine GL_fin (E' := [⟨0, [], pt x⟩, ⟨1, [], .slice la l.length lc⟩, ⟨4, [], .int .i64 (((u : Nat) : Int) + 1)⟩, ⟨23, [], .int .i64 ((s.bn : Nat) : Int)⟩, ⟨24, [], .int .i64 ((j : Nat) : Int)⟩]) [] [0, 1, 4, 23, 24] rfl (by kernel_rfl) ?_
          refine N_block ?_
          refine N_then ?_
          have hw20 : IntKind.wrap .i64 (((j : Nat) : Int) + 1) = ((j : Nat) : Int) + 1 := w64 (by omega) (by omega)
          refine G_pure (E' := [⟨0, [], pt x⟩, ⟨1, [], .slice la l.length lc⟩, ⟨4, [], .int .i64 (((u : Nat) : Int) + 1)⟩, ⟨23, [], .int .i64 ((s.bn : Nat) : Int)⟩, ⟨24, [], .int .i64 (((j : Nat) : Int) + 1)⟩]) [0, 0] [0, 1, 4, 23, 24] rfl (Eq.trans (b := some [⟨0, [], pt x⟩, ⟨1, [], .slice la l.length lc⟩, ⟨4, [], .int .i64 (((u : Nat) : Int) + 1)⟩, ⟨23, [], .int .i64 ((s.bn : Nat) : Int)⟩, ⟨24, [], .int .i64 (IntKind.wrap .i64 (((j : Nat) : Int) + 1))⟩]) (by kernel_rfl) (by simp only [hw20])) ?_
          refine N_heap (H' := ([(x, .cells #[.int .i64 M.room, .slice s.ba s.bn s.bc, .slice s.na s.nn s.nc, .slice s.ka s.kn s.kc, .slice s.ca s.cn s.cc, .bool M.fails, .bool M.once, .int .i64 M.calls] 86 (0, 0))] :: g18 :: s.cg :: (s.Z ++ H))) (fun w h => (((h.front (j := 2) rfl).front (j := 2) rfl).front (j := 2) rfl)) ?_
          refine N_heq (H' := ([(x, .cells #[.int .i64 M.room, .slice s.ba s.bn s.bc, .slice s.na s.nn s.nc, .slice s.ka s.kn s.kc, .slice s.ca s.cn s.cc, .bool M.fails, .bool M.once, .int .i64 M.calls] 86 (0, 0))] :: g18 :: s.cg :: (s.Z ++ H))) rfl ?_
          refine N_round (s' := (j + 1, u + 1, ((X.set j ⟨(X.getD j default).now, ((X.getD j default).now).extract 0 (Int.toNat ((((X.getD j default).kept).size : Int) + nz))⟩).set j ⟨((X.set j ⟨(X.getD j default).now, ((X.getD j default).now).extract 0 (Int.toNat ((((X.getD j default).kept).size : Int) + nz))⟩).getD j default).kept, ((X.set j ⟨(X.getD j default).now, ((X.getD j default).now).extract 0 (Int.toNat ((((X.getD j default).kept).size : Int) + nz))⟩).getD j default).kept⟩), g18)) [0, 1, 4, 23, 24] (by kernel_rfl) rfl ⟨(by omega), (by show u + 1 ≤ j + 1; omega), (crb_yes hX (by omega) h.well.pre hne hnk), hO19⟩ (by omega)
        ·
          refine GL_loadS (i := 8) (ch := []) (a := s.ba) (q := j * 2 + 1) (S := (inG bg2)) (cs := (bdC X)) (v := .string ((X.getD j default).kept)) rfl rfl (by kernel_rfl) (by kernel_rfl) (by kernel_rfl) (by kernel_rfl) (by kernel_rfl) (own_rd hO2) (at_inG 1 rfl) (fun _ => (bdC_at1 (by omega))) ?_
          refine GH_back (by kernel_rfl) (fun w h => (((h.front (j := 2) rfl).front (j := 1) rfl).erase 2)) ?_
          refine GH_pev (v := .int .i64 (((X.getD j default).kept).size : Int)) 9 rfl rfl (by kernel_rfl) (by kernel_rfl) (by kernel_rfl) (by kernel_rfl) (by kernel_rfl) (fun w h => (((h.front (j := 2) rfl).front (j := 1) rfl).erase 2)) ?_
          have hw21 : IntKind.wrap .i64 ((((X.getD j default).kept).size : Int) + nz) = (((X.getD j default).kept).size : Int) + nz := w64 (by omega) (by omega)
          refine GH_pure (E' := [⟨81, [], .int .i64 ((((X.getD j default).kept).size : Int) + nz)⟩, ⟨73, [], .pointer (some (eltA s.ba (j * 2)))⟩, ⟨70, [], .pointer (some (eltA s.ba (j * 2)))⟩, ⟨0, [], pt x⟩, ⟨1, [], .slice la l.length lc⟩, ⟨4, [], .int .i64 (((u : Nat) : Int) + 1)⟩, ⟨6, [], .pointer (some (eltA s.ba (j * 2)))⟩, ⟨23, [], .int .i64 ((s.bn : Nat) : Int)⟩, ⟨24, [], .int .i64 ((j : Nat) : Int)⟩]) 11 0 (by kernel_rfl) (fun w h => (((h.front (j := 2) rfl).front (j := 1) rfl).erase 2)) (Eq.trans (b := some [⟨81, [], .int .i64 (IntKind.wrap .i64 ((((X.getD j default).kept).size : Int) + nz))⟩, ⟨73, [], .pointer (some (eltA s.ba (j * 2)))⟩, ⟨70, [], .pointer (some (eltA s.ba (j * 2)))⟩, ⟨0, [], pt x⟩, ⟨1, [], .slice la l.length lc⟩, ⟨4, [], .int .i64 (((u : Nat) : Int) + 1)⟩, ⟨6, [], .pointer (some (eltA s.ba (j * 2)))⟩, ⟨23, [], .int .i64 ((s.bn : Nat) : Int)⟩, ⟨24, [], .int .i64 ((j : Nat) : Int)⟩]) (by kernel_rfl) (by simp only [hw21])) ?_
          refine GH_eff 4 (by kernel_rfl) (by kernel_rfl) (by kernel_rfl) ?_
          refine GL_loadS (i := 4) (ch := []) (a := s.ba) (q := j * 2) (S := (inG bg2)) (cs := (bdC X)) (v := .string ((X.getD j default).now)) rfl rfl (by kernel_rfl) (by kernel_rfl) (by kernel_rfl) (by kernel_rfl) (by kernel_rfl) (own_rd hO2) (at_inG 1 rfl) (fun _ => (bdC_at0 (by omega))) ?_
          refine GH_back (by kernel_rfl) (fun w h => (((h.front (j := 2) rfl).front (j := 1) rfl).erase 2)) ?_
          refine GH_take' (E' := [⟨82, [], .string (((X.getD j default).now).extract 0 (Int.toNat ((((X.getD j default).kept).size : Int) + nz)))⟩, ⟨74, [], .string ((X.getD j default).now)⟩, ⟨81, [], .int .i64 ((((X.getD j default).kept).size : Int) + nz)⟩, ⟨73, [], .pointer (some (eltA s.ba (j * 2)))⟩, ⟨70, [], .pointer (some (eltA s.ba (j * 2)))⟩, ⟨0, [], pt x⟩, ⟨1, [], .slice la l.length lc⟩, ⟨4, [], .int .i64 (((u : Nat) : Int) + 1)⟩, ⟨6, [], .pointer (some (eltA s.ba (j * 2)))⟩, ⟨23, [], .int .i64 ((s.bn : Nat) : Int)⟩, ⟨24, [], .int .i64 ((j : Nat) : Int)⟩]) 12 (by kernel_rfl) (fun w h => (((h.front (j := 2) rfl).front (j := 1) rfl).erase 2)) ?_ ?_
          ·
            refine GL_sliceS (i := 12) (ch := []) (s := (X.getD j default).now) (vl := none) (vh := (some (.int .i64 ((((X.getD j default).kept).size : Int) + nz)))) (l := 0) (h := (((X.getD j default).kept).size : Int) + nz) rfl rfl (by kernel_rfl) (by kernel_rfl) (by kernel_rfl) (by kernel_rfl) (by kernel_rfl) (by kernel_rfl) (by kernel_rfl) (by kernel_rfl) (by kernel_rfl) (by omega) ?_
            exact GL_yend (by kernel_rfl) (by kernel_rfl)
          refine GH_nil (ad := (eltA s.ba (j * 2))) 13 rfl rfl rfl (by kernel_rfl) (by kernel_rfl) (by kernel_rfl) (by kernel_rfl) (by kernel_rfl) (fun w h => (((h.front (j := 2) rfl).front (j := 1) rfl).erase 2)) ?_
          have hw22 : Addr.add (eltA s.ba (j * 2)) 1 = eltA s.ba (j * 2 + 1) := eltA_add _ _ _
          refine GH_pure (E' := [⟨84, [], .pointer (some (eltA s.ba (j * 2 + 1)))⟩, ⟨82, [], .string (((X.getD j default).now).extract 0 (Int.toNat ((((X.getD j default).kept).size : Int) + nz)))⟩, ⟨0, [], pt x⟩, ⟨1, [], .slice la l.length lc⟩, ⟨4, [], .int .i64 (((u : Nat) : Int) + 1)⟩, ⟨6, [], .pointer (some (eltA s.ba (j * 2)))⟩, ⟨23, [], .int .i64 ((s.bn : Nat) : Int)⟩, ⟨24, [], .int .i64 ((j : Nat) : Int)⟩]) 14 0 (by kernel_rfl) (fun w h => (((h.front (j := 2) rfl).front (j := 1) rfl).erase 2)) (Eq.trans (b := some [⟨84, [], .pointer (some (Addr.add (eltA s.ba (j * 2)) 1))⟩, ⟨82, [], .string (((X.getD j default).now).extract 0 (Int.toNat ((((X.getD j default).kept).size : Int) + nz)))⟩, ⟨0, [], pt x⟩, ⟨1, [], .slice la l.length lc⟩, ⟨4, [], .int .i64 (((u : Nat) : Int) + 1)⟩, ⟨6, [], .pointer (some (eltA s.ba (j * 2)))⟩, ⟨23, [], .int .i64 ((s.bn : Nat) : Int)⟩, ⟨24, [], .int .i64 ((j : Nat) : Int)⟩]) (by kernel_rfl) (by simp only [hw22])) ?_
          refine GH_eff 15 (by kernel_rfl) (by kernel_rfl) (by kernel_rfl) ?_
          refine GL_storeO (i := 15) (ch := []) (a := s.ba) (q := j * 2 + 1) (len := s.bn) (cap := s.bc) (v := .string (((X.getD j default).now).extract 0 (Int.toNat ((((X.getD j default).kept).size : Int) + nz)))) (g := bg2) (j := 1) (cs := (bdC X)) (cs' := (bdC (X.set j ⟨(X.getD j default).now, ((X.getD j default).now).extract 0 (Int.toNat ((((X.getD j default).kept).size : Int) + nz))⟩))) rfl rfl (by kernel_rfl) (by kernel_rfl) (by kernel_rfl) (by kernel_rfl) rfl (by kernel_rfl) (by kernel_rfl) (by kernel_rfl) rfl hO2 (by simp only [bdC_len, List.length_set]; omega) bdC_kept (fun g23 hO24 => ?_)
          refine GH_back (by kernel_rfl) (fun w h => (((h.front (j := 2) rfl).front (j := 1) rfl).erase 2)) ?_
          refine GH_done (E' := [⟨0, [], pt x⟩, ⟨1, [], .slice la l.length lc⟩, ⟨4, [], .int .i64 (((u : Nat) : Int) + 1)⟩, ⟨6, [], .pointer (some (eltA s.ba (j * 2)))⟩, ⟨23, [], .int .i64 ((s.bn : Nat) : Int)⟩, ⟨24, [], .int .i64 ((j : Nat) : Int)⟩]) [0, 1, 4, 6, 23, 24] (by kernel_rfl) (by kernel_rfl) ?_
          refine N_then ?_
          have hw25 : Addr.add (eltA s.ba (j * 2)) 1 = eltA s.ba (j * 2 + 1) := eltA_add _ _ _
          refine G_region ?_
          refine GL_pure (E' := [⟨88, [], .pointer (some (eltA s.ba (j * 2 + 1)))⟩, ⟨85, [], .pointer (some (eltA s.ba (j * 2)))⟩, ⟨0, [], pt x⟩, ⟨1, [], .slice la l.length lc⟩, ⟨4, [], .int .i64 (((u : Nat) : Int) + 1)⟩, ⟨23, [], .int .i64 ((s.bn : Nat) : Int)⟩, ⟨24, [], .int .i64 ((j : Nat) : Int)⟩]) [0, 0, 0, 0] (Eq.trans (b := some [⟨88, [], .pointer (some (Addr.add (eltA s.ba (j * 2)) 1))⟩, ⟨85, [], .pointer (some (eltA s.ba (j * 2)))⟩, ⟨0, [], pt x⟩, ⟨1, [], .slice la l.length lc⟩, ⟨4, [], .int .i64 (((u : Nat) : Int) + 1)⟩, ⟨23, [], .int .i64 ((s.bn : Nat) : Int)⟩, ⟨24, [], .int .i64 ((j : Nat) : Int)⟩]) (by kernel_rfl) (by simp only [hw25])) (j := 4) rfl ?_
          refine GL_loadS (i := 4) (ch := []) (a := s.ba) (q := j * 2 + 1) (S := (inG g23)) (cs := (bdC (X.set j ⟨(X.getD j default).now, ((X.getD j default).now).extract 0 (Int.toNat ((((X.getD j default).kept).size : Int) + nz))⟩))) (v := .string (((X.set j ⟨(X.getD j default).now, ((X.getD j default).now).extract 0 (Int.toNat ((((X.getD j default).kept).size : Int) + nz))⟩).getD j default).kept)) rfl rfl (by kernel_rfl) (by kernel_rfl) (by kernel_rfl) (by kernel_rfl) (by kernel_rfl) (own_rd hO24) (at_inG 1 rfl) (fun _ => (bdC_at1 (by simp only [List.length_set]; omega))) ?_
          refine GL_pure (E' := [⟨91, [], .pointer (some (eltA s.ba (j * 2)))⟩, ⟨89, [], .string (((X.set j ⟨(X.getD j default).now, ((X.getD j default).now).extract 0 (Int.toNat ((((X.getD j default).kept).size : Int) + nz))⟩).getD j default).kept)⟩, ⟨0, [], pt x⟩, ⟨1, [], .slice la l.length lc⟩, ⟨4, [], .int .i64 (((u : Nat) : Int) + 1)⟩, ⟨23, [], .int .i64 ((s.bn : Nat) : Int)⟩, ⟨24, [], .int .i64 ((j : Nat) : Int)⟩]) [0, 0] (by kernel_rfl) (j := 7) rfl ?_
          refine GL_storeO (i := 7) (ch := []) (a := s.ba) (q := j * 2) (len := s.bn) (cap := s.bc) (v := .string (((X.set j ⟨(X.getD j default).now, ((X.getD j default).now).extract 0 (Int.toNat ((((X.getD j default).kept).size : Int) + nz))⟩).getD j default).kept)) (g := g23) (j := 1) (cs := (bdC (X.set j ⟨(X.getD j default).now, ((X.getD j default).now).extract 0 (Int.toNat ((((X.getD j default).kept).size : Int) + nz))⟩))) (cs' := (bdC ((X.set j ⟨(X.getD j default).now, ((X.getD j default).now).extract 0 (Int.toNat ((((X.getD j default).kept).size : Int) + nz))⟩).set j ⟨((X.set j ⟨(X.getD j default).now, ((X.getD j default).now).extract 0 (Int.toNat ((((X.getD j default).kept).size : Int) + nz))⟩).getD j default).kept, ((X.set j ⟨(X.getD j default).now, ((X.getD j default).now).extract 0 (Int.toNat ((((X.getD j default).kept).size : Int) + nz))⟩).getD j default).kept⟩))) rfl rfl (by kernel_rfl) (by kernel_rfl) (by kernel_rfl) (by kernel_rfl) rfl (by kernel_rfl) (by kernel_rfl) (by kernel_rfl) rfl hO24 (by simp only [bdC_len, List.length_set]; omega) bdC_now (fun g26 hO27 => ?_)
          refine GL_fin (E' := [⟨0, [], pt x⟩, ⟨1, [], .slice la l.length lc⟩, ⟨4, [], .int .i64 (((u : Nat) : Int) + 1)⟩, ⟨23, [], .int .i64 ((s.bn : Nat) : Int)⟩, ⟨24, [], .int .i64 ((j : Nat) : Int)⟩]) [] [0, 1, 4, 23, 24] rfl (by kernel_rfl) ?_
          refine N_block ?_
          refine N_then ?_
          have hw28 : IntKind.wrap .i64 (((j : Nat) : Int) + 1) = ((j : Nat) : Int) + 1 := w64 (by omega) (by omega)
          refine G_pure (E' := [⟨0, [], pt x⟩, ⟨1, [], .slice la l.length lc⟩, ⟨4, [], .int .i64 (((u : Nat) : Int) + 1)⟩, ⟨23, [], .int .i64 ((s.bn : Nat) : Int)⟩, ⟨24, [], .int .i64 (((j : Nat) : Int) + 1)⟩]) [0, 0] [0, 1, 4, 23, 24] rfl (Eq.trans (b := some [⟨0, [], pt x⟩, ⟨1, [], .slice la l.length lc⟩, ⟨4, [], .int .i64 (((u : Nat) : Int) + 1)⟩, ⟨23, [], .int .i64 ((s.bn : Nat) : Int)⟩, ⟨24, [], .int .i64 (IntKind.wrap .i64 (((j : Nat) : Int) + 1))⟩]) (by kernel_rfl) (by simp only [hw28])) ?_
          refine N_heap (H' := ([(x, .cells #[.int .i64 M.room, .slice s.ba s.bn s.bc, .slice s.na s.nn s.nc, .slice s.ka s.kn s.kc, .slice s.ca s.cn s.cc, .bool M.fails, .bool M.once, .int .i64 M.calls] 86 (0, 0))] :: g26 :: s.cg :: (s.Z ++ H))) (fun w h => (((h.front (j := 2) rfl).front (j := 2) rfl).front (j := 2) rfl)) ?_
          refine N_heq (H' := ([(x, .cells #[.int .i64 M.room, .slice s.ba s.bn s.bc, .slice s.na s.nn s.nc, .slice s.ka s.kn s.kc, .slice s.ca s.cn s.cc, .bool M.fails, .bool M.once, .int .i64 M.calls] 86 (0, 0))] :: g26 :: s.cg :: (s.Z ++ H))) rfl ?_
          refine N_round (s' := (j + 1, u + 1, ((X.set j ⟨(X.getD j default).now, ((X.getD j default).now).extract 0 (Int.toNat ((((X.getD j default).kept).size : Int) + nz))⟩).set j ⟨((X.set j ⟨(X.getD j default).now, ((X.getD j default).now).extract 0 (Int.toNat ((((X.getD j default).kept).size : Int) + nz))⟩).getD j default).kept, ((X.set j ⟨(X.getD j default).now, ((X.getD j default).now).extract 0 (Int.toNat ((((X.getD j default).kept).size : Int) + nz))⟩).getD j default).kept⟩), g26)) [0, 1, 4, 23, 24] (by kernel_rfl) rfl ⟨(by omega), (by show u + 1 ≤ j + 1; omega), (crb_yes hX (by omega) h.well.pre hne hnk), hO27⟩ (by omega)
    ·
      have hne := hc3
      -- L eq
      refine G_skip ?_
      refine N_then ?_
      have hw29 : Addr.add (eltA s.ba (j * 2)) 1 = eltA s.ba (j * 2 + 1) := eltA_add _ _ _
      refine G_region ?_
      refine GL_pure (E' := [⟨88, [], .pointer (some (eltA s.ba (j * 2 + 1)))⟩, ⟨85, [], .pointer (some (eltA s.ba (j * 2)))⟩, ⟨0, [], pt x⟩, ⟨1, [], .slice la l.length lc⟩, ⟨4, [], .int .i64 ((u : Nat) : Int)⟩, ⟨23, [], .int .i64 ((s.bn : Nat) : Int)⟩, ⟨24, [], .int .i64 ((j : Nat) : Int)⟩]) [0, 0, 0, 0] (Eq.trans (b := some [⟨88, [], .pointer (some (Addr.add (eltA s.ba (j * 2)) 1))⟩, ⟨85, [], .pointer (some (eltA s.ba (j * 2)))⟩, ⟨0, [], pt x⟩, ⟨1, [], .slice la l.length lc⟩, ⟨4, [], .int .i64 ((u : Nat) : Int)⟩, ⟨23, [], .int .i64 ((s.bn : Nat) : Int)⟩, ⟨24, [], .int .i64 ((j : Nat) : Int)⟩]) (by kernel_rfl) (by simp only [hw29])) (j := 4) rfl ?_
      refine GL_loadS (i := 4) (ch := []) (a := s.ba) (q := j * 2 + 1) (S := (inG bg2)) (cs := (bdC X)) (v := .string ((X.getD j default).kept)) rfl rfl (by kernel_rfl) (by kernel_rfl) (by kernel_rfl) (by kernel_rfl) (by kernel_rfl) (own_rd hO2) (at_inG 1 rfl) (fun _ => (bdC_at1 (by omega))) ?_
      refine GL_pure (E' := [⟨91, [], .pointer (some (eltA s.ba (j * 2)))⟩, ⟨89, [], .string ((X.getD j default).kept)⟩, ⟨0, [], pt x⟩, ⟨1, [], .slice la l.length lc⟩, ⟨4, [], .int .i64 ((u : Nat) : Int)⟩, ⟨23, [], .int .i64 ((s.bn : Nat) : Int)⟩, ⟨24, [], .int .i64 ((j : Nat) : Int)⟩]) [0, 0] (by kernel_rfl) (j := 7) rfl ?_
      refine GL_storeO (i := 7) (ch := []) (a := s.ba) (q := j * 2) (len := s.bn) (cap := s.bc) (v := .string ((X.getD j default).kept)) (g := bg2) (j := 1) (cs := (bdC X)) (cs' := (bdC (X.set j ⟨(X.getD j default).kept, (X.getD j default).kept⟩))) rfl rfl (by kernel_rfl) (by kernel_rfl) (by kernel_rfl) (by kernel_rfl) rfl (by kernel_rfl) (by kernel_rfl) (by kernel_rfl) rfl hO2 (by simp only [bdC_len, List.length_set]; omega) bdC_now (fun g30 hO31 => ?_)
      refine GL_fin (E' := [⟨0, [], pt x⟩, ⟨1, [], .slice la l.length lc⟩, ⟨4, [], .int .i64 ((u : Nat) : Int)⟩, ⟨23, [], .int .i64 ((s.bn : Nat) : Int)⟩, ⟨24, [], .int .i64 ((j : Nat) : Int)⟩]) [] [0, 1, 4, 23, 24] rfl (by kernel_rfl) ?_
      refine N_block ?_
      refine N_then ?_
      have hw32 : IntKind.wrap .i64 (((j : Nat) : Int) + 1) = ((j : Nat) : Int) + 1 := w64 (by omega) (by omega)
      refine G_pure (E' := [⟨0, [], pt x⟩, ⟨1, [], .slice la l.length lc⟩, ⟨4, [], .int .i64 ((u : Nat) : Int)⟩, ⟨23, [], .int .i64 ((s.bn : Nat) : Int)⟩, ⟨24, [], .int .i64 (((j : Nat) : Int) + 1)⟩]) [0, 0] [0, 1, 4, 23, 24] rfl (Eq.trans (b := some [⟨0, [], pt x⟩, ⟨1, [], .slice la l.length lc⟩, ⟨4, [], .int .i64 ((u : Nat) : Int)⟩, ⟨23, [], .int .i64 ((s.bn : Nat) : Int)⟩, ⟨24, [], .int .i64 (IntKind.wrap .i64 (((j : Nat) : Int) + 1))⟩]) (by kernel_rfl) (by simp only [hw32])) ?_
      refine N_heap (H' := ([(x, .cells #[.int .i64 M.room, .slice s.ba s.bn s.bc, .slice s.na s.nn s.nc, .slice s.ka s.kn s.kc, .slice s.ca s.cn s.cc, .bool M.fails, .bool M.once, .int .i64 M.calls] 86 (0, 0))] :: g30 :: s.cg :: (s.Z ++ H))) (fun w h => (((h.front (j := 2) rfl).front (j := 2) rfl).front (j := 2) rfl)) ?_
      refine N_heq (H' := ([(x, .cells #[.int .i64 M.room, .slice s.ba s.bn s.bc, .slice s.na s.nn s.nc, .slice s.ka s.kn s.kc, .slice s.ca s.cn s.cc, .bool M.fails, .bool M.once, .int .i64 M.calls] 86 (0, 0))] :: g30 :: s.cg :: (s.Z ++ H))) rfl ?_
      refine N_round (s' := (j + 1, u, (X.set j ⟨(X.getD j default).kept, (X.getD j default).kept⟩), g30)) [0, 1, 4, 23, 24] (by kernel_rfl) rfl ⟨(by omega), (by show u ≤ j + 1; omega), (crb_no hX (by omega) hne), hO31⟩ (by omega)
  ·
    replace hc1 := of_decide_eq_false hc1
    refine G_exit ?_
    refine N_then_exit ?_
    refine N_then_exit ?_
    refine N_block_exit ?_
    refine N_then ?_
    refine G_seq ?_
    refine G_block ?_
    have hjn : M.bodies.length ≤ j := by omega
    obtain ⟨hXb, hXu⟩ := crb_end hX hjn
    obtain ⟨hok0, hcr0⟩ := ok_rbodies h hm hXb hXu (by omega) hO2
    refine G_loop (EI := (fun ξ : RS × DM × Nat => [⟨0, [], pt x⟩, ⟨1, [], .slice la l.length lc⟩, ⟨4, [], .int .i64 ((ξ.2.2 : Nat) : Int)⟩])) (HI := (fun ξ : RS × DM × Nat => ([(x, .cells #[.int .i64 ξ.2.1.room, .slice ξ.1.ba ξ.1.bn ξ.1.bc, .slice ξ.1.na ξ.1.nn ξ.1.nc, .slice ξ.1.ka ξ.1.kn ξ.1.kc, .slice ξ.1.ca ξ.1.cn ξ.1.cc, .bool ξ.2.1.fails, .bool ξ.2.1.once, .int .i64 ξ.2.1.calls] 86 (0, 0))] :: ξ.1.bg :: ξ.1.cg :: (ξ.1.Z ++ H)))) (Φ := (fun ξ : RS × DM × Nat => (ξ.1.ok ξ.2.1) ∧ (CrD M l ξ.2.1 ξ.2.2))) (μ := (fun ξ : RS × DM × Nat => ξ.2.1.changes.length)) (s0 := ({ s with bg := bg2 }, { M with bodies := X }, u)) [0, 1, 4] (by kernel_rfl) rfl ⟨hok0, hcr0⟩ ?_
    rintro ⟨sr, Mr, u2⟩ ⟨hsr, hcr⟩
    replace hsr : sr.ok Mr := hsr
    replace hcr : CrD M l Mr u2 := hcr
    have hcn3 := hsr.cn
    have hkn3 := hsr.kn
    have hck3 := hcr.kept
    have hch3 := hsr.chs.len
    have hcl3 := hcr.len
    refine G_seq ?_
    refine G_seq ?_
    refine G_region ?_
    refine GL_pure (E' := [⟨95, [], .pointer (some ⟨x, 4, none⟩)⟩, ⟨0, [], pt x⟩, ⟨1, [], .slice la l.length lc⟩, ⟨4, [], .int .i64 ((u2 : Nat) : Int)⟩]) [0, 0, 0] (by kernel_rfl) (j := 3) rfl ?_
    refine GL_load (i := 3) (ch := []) (b := x) (off := 4) (v := .slice sr.ca sr.cn sr.cc) rfl rfl (by kernel_rfl) (by kernel_rfl) (by kernel_rfl) (by kernel_rfl) (by kernel_rfl) (At.grp 0 0 rfl rfl) rfl ?_
    refine GL_fin (E' := [⟨0, [], pt x⟩, ⟨1, [], .slice la l.length lc⟩, ⟨4, [], .int .i64 ((u2 : Nat) : Int)⟩, ⟨98, [], .bool (decide (((sr.cn : Nat) : Int) > 0))⟩]) [0, 0] [0, 1, 4, 98] rfl (by kernel_rfl) ?_
    refine N_then ?_
    refine G_cond (b := decide (((sr.cn : Nat) : Int) > 0)) (by kernel_rfl) (fun hc33 => ?_) (fun hc33 => ?_)
    ·
      replace hc33 := of_decide_eq_true hc33
      refine G_skip ?_
      refine N_then ?_
      refine G_block ?_
      refine G_seq ?_
      refine G_region ?_
      refine GL_pure (E' := [⟨101, [], .pointer (some ⟨x, 4, none⟩)⟩, ⟨0, [], pt x⟩, ⟨1, [], .slice la l.length lc⟩, ⟨4, [], .int .i64 ((u2 : Nat) : Int)⟩]) [0, 0, 0] (by kernel_rfl) (j := 3) rfl ?_
      refine GL_load (i := 3) (ch := []) (b := x) (off := 4) (v := .slice sr.ca sr.cn sr.cc) rfl rfl (by kernel_rfl) (by kernel_rfl) (by kernel_rfl) (by kernel_rfl) (by kernel_rfl) (At.grp 0 0 rfl rfl) rfl ?_
      refine GL_indexAddr (i := 4) (ch := []) (a := sr.ca) (len := sr.cn) (cap := sr.cc) (kd := .i64) (j := 0) (e := 104) (sz := 2) (S := (inG sr.cg)) (cs := (chC sr.cs)) rfl rfl (by kernel_rfl) (by kernel_rfl) (by kernel_rfl) (by kernel_rfl) (by kernel_rfl) (by kernel_rfl) (by kernel_rfl) (own_rd hsr.own2) (fun _ => by exact ⟨by omega, by omega, chC_ne (i := 0) (by omega)⟩) ?_
      refine GL_pure (E' := [⟨104, [], .pointer (some (eltA sr.ca (0 * 2)))⟩, ⟨0, [], pt x⟩, ⟨1, [], .slice la l.length lc⟩, ⟨4, [], .int .i64 ((u2 : Nat) : Int)⟩]) [0] (by kernel_rfl) (j := 6) rfl ?_
      refine GL_loadS (i := 6) (ch := []) (a := sr.ca) (q := 0 * 2) (S := (inG sr.cg)) (cs := (chC sr.cs)) (v := .string ((sr.cs.getD 0 default).dir)) rfl rfl (by kernel_rfl) (by kernel_rfl) (by kernel_rfl) (by kernel_rfl) (by kernel_rfl) (own_rd hsr.own2) (at_inG 2 rfl) (fun _ => (cells2_at0 (by omega))) ?_
      refine GL_fin (E' := [⟨0, [], pt x⟩, ⟨1, [], .slice la l.length lc⟩, ⟨4, [], .int .i64 ((u2 : Nat) : Int)⟩, ⟨9, [], .string ((sr.cs.getD 0 default).dir)⟩]) [0] [0, 1, 4, 9] rfl (by kernel_rfl) ?_
      refine N_then ?_
      refine G_seq ?_
      refine G_pure (E' := [⟨0, [], pt x⟩, ⟨1, [], .slice la l.length lc⟩, ⟨4, [], .int .i64 ((u2 : Nat) : Int)⟩, ⟨9, [], .string ((sr.cs.getD 0 default).dir)⟩, ⟨10, [], .int .i64 1⟩]) [0] [0, 1, 4, 9, 10] rfl (by kernel_rfl) ?_
      refine N_then ?_
      refine G_seq ?_
      refine G_seq ?_
      refine G_region ?_
      refine GL_pure (E' := [⟨108, [], .pointer (some ⟨x, 4, none⟩)⟩, ⟨0, [], pt x⟩, ⟨1, [], .slice la l.length lc⟩, ⟨4, [], .int .i64 ((u2 : Nat) : Int)⟩, ⟨9, [], .string ((sr.cs.getD 0 default).dir)⟩, ⟨10, [], .int .i64 1⟩]) [0, 0, 0] (by kernel_rfl) (j := 3) rfl ?_
      refine GL_load (i := 3) (ch := []) (b := x) (off := 4) (v := .slice sr.ca sr.cn sr.cc) rfl rfl (by kernel_rfl) (by kernel_rfl) (by kernel_rfl) (by kernel_rfl) (by kernel_rfl) (At.grp 0 0 rfl rfl) rfl ?_
      refine GL_fin (E' := [⟨0, [], pt x⟩, ⟨1, [], .slice la l.length lc⟩, ⟨4, [], .int .i64 ((u2 : Nat) : Int)⟩, ⟨9, [], .string ((sr.cs.getD 0 default).dir)⟩, ⟨10, [], .int .i64 1⟩, ⟨109, [], .slice sr.ca sr.cn sr.cc⟩, ⟨110, [], .int .i64 ((sr.cn : Nat) : Int)⟩, ⟨111, [], .int .i64 0⟩]) [0, 0] [0, 1, 4, 9, 10, 109, 110, 111] rfl (by kernel_rfl) ?_
      refine N_then ?_
      refine G_block ?_
      refine G_loop (EI := (fun ξ : Nat × ByteArray => [⟨0, [], pt x⟩, ⟨1, [], .slice la l.length lc⟩, ⟨4, [], .int .i64 ((u2 : Nat) : Int)⟩, ⟨9, [], .string ξ.2⟩, ⟨10, [], .int .i64 1⟩, ⟨109, [], .slice sr.ca sr.cn sr.cc⟩, ⟨110, [], .int .i64 ((sr.cn : Nat) : Int)⟩, ⟨111, [], .int .i64 ((ξ.1 : Nat) : Int)⟩])) (HI := (fun ξ : Nat × ByteArray => ([(x, .cells #[.int .i64 Mr.room, .slice sr.ba sr.bn sr.bc, .slice sr.na sr.nn sr.nc, .slice sr.ka sr.kn sr.kc, .slice sr.ca sr.cn sr.cc, .bool Mr.fails, .bool Mr.once, .int .i64 Mr.calls] 86 (0, 0))] :: sr.bg :: sr.cg :: (sr.Z ++ H)))) (Φ := (fun ξ : Nat × ByteArray => (ξ.1 ≤ sr.cs.length) ∧ (MinD sr.cs ξ.1 ξ.2))) (μ := (fun ξ : Nat × ByteArray => sr.cs.length - ξ.1)) (s0 := (0, (sr.cs.getD 0 default).dir)) [0, 1, 4, 9, 10, 109, 110, 111] (by kernel_rfl) rfl ⟨(by omega), (min0 (by omega))⟩ ?_
      rintro ⟨k3, ls⟩ ⟨hk3, hmn⟩
      replace hk3 : k3 ≤ sr.cs.length := hk3
      replace hmn : MinD sr.cs k3 ls := hmn
      refine G_seq ?_
      refine G_pure (E' := [⟨0, [], pt x⟩, ⟨1, [], .slice la l.length lc⟩, ⟨4, [], .int .i64 ((u2 : Nat) : Int)⟩, ⟨9, [], .string ls⟩, ⟨10, [], .int .i64 1⟩, ⟨109, [], .slice sr.ca sr.cn sr.cc⟩, ⟨110, [], .int .i64 ((sr.cn : Nat) : Int)⟩, ⟨111, [], .int .i64 ((k3 : Nat) : Int)⟩, ⟨112, [], .bool (decide (((k3 : Nat) : Int) < ((sr.cn : Nat) : Int)))⟩]) [0] [0, 1, 4, 9, 10, 109, 110, 111, 112] rfl (by kernel_rfl) ?_
      refine N_then ?_
      refine G_seq ?_
      refine G_cond (b := decide (((k3 : Nat) : Int) < ((sr.cn : Nat) : Int))) (by kernel_rfl) (fun hc34 => ?_) (fun hc34 => ?_)
      ·
        replace hc34 := of_decide_eq_true hc34
        refine G_skip ?_
        refine N_then ?_
        refine G_seq ?_
        refine G_block ?_
        refine G_seq ?_
        refine G_region ?_
        refine GL_indexAddr (i := 0) (ch := []) (a := sr.ca) (len := sr.cn) (cap := sr.cc) (kd := .i64) (j := ((k3 : Nat) : Int)) (e := 104) (sz := 2) (S := (inG sr.cg)) (cs := (chC sr.cs)) rfl rfl (by kernel_rfl) (by kernel_rfl) (by kernel_rfl) (by kernel_rfl) (by kernel_rfl) (by kernel_rfl) (by kernel_rfl) (own_rd hsr.own2) (fun _ => by exact ⟨by omega, by omega, chC_ne (i := k3) (by omega)⟩) ?_
        refine GL_loadSA (i := 1) (ch := []) (a := sr.ca) (q := k3 * 2) (S := (inG sr.cg)) (cs := (chC sr.cs)) (l := [.string ((sr.cs.getD k3 default).dir), .slice (sr.cs.getD k3 default).a ((sr.cs.getD k3 default).l.length) ((sr.cs.getD k3 default).c)]) rfl rfl (by kernel_rfl) (by kernel_rfl) (by kernel_rfl) (by kernel_rfl) (by kernel_rfl) (by kernel_rfl) (own_rd hsr.own2) (at_inG 2 rfl) (List.cons_ne_nil _ _) (fun _ => (fun m hm => (cells2_at (by omega) m hm).trans (List.getElem?_eq_getElem hm))) ?_
        refine GL_alloc (i := 2) (ch := []) (z := .agg #[.string (ByteArray.mk #[]), .slice none 0 0]) rfl rfl (by kernel_rfl) (by kernel_rfl) (by kernel_rfl) (by kernel_rfl) (fun b35 => ?_)
        refine GL_store (i := 3) (ch := []) (b := b35) (off := 0) (v := .agg #[.string ((sr.cs.getD k3 default).dir), .slice (sr.cs.getD k3 default).a ((sr.cs.getD k3 default).l.length) ((sr.cs.getD k3 default).c)]) (c := #[.string (ByteArray.mk #[]), .slice none 0 0]) (c' := #[.string ((sr.cs.getD k3 default).dir), .slice (sr.cs.getD k3 default).a ((sr.cs.getD k3 default).l.length) ((sr.cs.getD k3 default).c)]) (j := 0) (m := 0) (H' := ([(b35, .cells #[.string ((sr.cs.getD k3 default).dir), .slice (sr.cs.getD k3 default).a ((sr.cs.getD k3 default).l.length) ((sr.cs.getD k3 default).c)] 104 (0, 0))] :: [(x, .cells #[.int .i64 Mr.room, .slice sr.ba sr.bn sr.bc, .slice sr.na sr.nn sr.nc, .slice sr.ka sr.kn sr.kc, .slice sr.ca sr.cn sr.cc, .bool Mr.fails, .bool Mr.once, .int .i64 Mr.calls] 86 (0, 0))] :: sr.bg :: sr.cg :: (sr.Z ++ H))) rfl rfl (by kernel_rfl) (by kernel_rfl) (by kernel_rfl) (by kernel_rfl) (by kernel_rfl) (by kernel_rfl) (by kernel_rfl) rfl rfl (Nat.le_of_ble_eq_true rfl) (fun _ _ => thaw0) (by kernel_rfl) (by kernel_rfl) ?_
        refine GL_fin (E' := [⟨0, [], pt x⟩, ⟨1, [], .slice la l.length lc⟩, ⟨4, [], .int .i64 ((u2 : Nat) : Int)⟩, ⟨9, [], .string ls⟩, ⟨10, [], .int .i64 1⟩, ⟨12, [], pt b35⟩, ⟨109, [], .slice sr.ca sr.cn sr.cc⟩, ⟨110, [], .int .i64 ((sr.cn : Nat) : Int)⟩, ⟨111, [], .int .i64 ((k3 : Nat) : Int)⟩]) [] [0, 1, 4, 9, 10, 12, 109, 110, 111] rfl (by kernel_rfl) ?_
        refine N_then ?_
        refine G_seq ?_
        refine G_region ?_
        refine GL_pure (E' := [⟨115, [], pt b35⟩, ⟨0, [], pt x⟩, ⟨1, [], .slice la l.length lc⟩, ⟨4, [], .int .i64 ((u2 : Nat) : Int)⟩, ⟨9, [], .string ls⟩, ⟨10, [], .int .i64 1⟩, ⟨12, [], pt b35⟩, ⟨109, [], .slice sr.ca sr.cn sr.cc⟩, ⟨110, [], .int .i64 ((sr.cn : Nat) : Int)⟩, ⟨111, [], .int .i64 ((k3 : Nat) : Int)⟩]) [0] (by kernel_rfl) (j := 1) rfl ?_
        refine GL_load (i := 1) (ch := []) (b := b35) (off := 0) (v := .string ((sr.cs.getD k3 default).dir)) rfl rfl (by kernel_rfl) (by kernel_rfl) (by kernel_rfl) (by kernel_rfl) (by kernel_rfl) (At.grp 0 0 rfl rfl) rfl ?_
        refine GL_fin (E' := [⟨0, [], pt x⟩, ⟨1, [], .slice la l.length lc⟩, ⟨4, [], .int .i64 ((u2 : Nat) : Int)⟩, ⟨9, [], .string ls⟩, ⟨10, [], .int .i64 1⟩, ⟨12, [], pt b35⟩, ⟨109, [], .slice sr.ca sr.cn sr.cc⟩, ⟨110, [], .int .i64 ((sr.cn : Nat) : Int)⟩, ⟨111, [], .int .i64 ((k3 : Nat) : Int)⟩, ⟨118, [], .bool (Op.bytesLess ((sr.cs.getD k3 default).dir).toList ls.toList)⟩]) [0, 0] [0, 1, 4, 9, 10, 12, 109, 110, 111, 118] rfl (by kernel_rfl) ?_
        refine N_then ?_
        refine G_cond (b := Op.bytesLess ((sr.cs.getD k3 default).dir).toList ls.toList) (by kernel_rfl) (fun hc36 => ?_) (fun hc36 => ?_)
        ·
          have hlt3 := hc36
          -- L lt3
          refine G_region ?_
          refine GL_pure (E' := [⟨119, [], pt b35⟩, ⟨0, [], pt x⟩, ⟨1, [], .slice la l.length lc⟩, ⟨4, [], .int .i64 ((u2 : Nat) : Int)⟩, ⟨9, [], .string ls⟩, ⟨10, [], .int .i64 1⟩, ⟨109, [], .slice sr.ca sr.cn sr.cc⟩, ⟨110, [], .int .i64 ((sr.cn : Nat) : Int)⟩, ⟨111, [], .int .i64 ((k3 : Nat) : Int)⟩]) [0] (by kernel_rfl) (j := 1) rfl ?_
          refine GL_load (i := 1) (ch := []) (b := b35) (off := 0) (v := .string ((sr.cs.getD k3 default).dir)) rfl rfl (by kernel_rfl) (by kernel_rfl) (by kernel_rfl) (by kernel_rfl) (by kernel_rfl) (At.grp 0 0 rfl rfl) rfl ?_
          refine GL_fin (E' := [⟨0, [], pt x⟩, ⟨1, [], .slice la l.length lc⟩, ⟨4, [], .int .i64 ((u2 : Nat) : Int)⟩, ⟨9, [], .string ((sr.cs.getD k3 default).dir)⟩, ⟨10, [], .int .i64 1⟩, ⟨109, [], .slice sr.ca sr.cn sr.cc⟩, ⟨110, [], .int .i64 ((sr.cn : Nat) : Int)⟩, ⟨111, [], .int .i64 ((k3 : Nat) : Int)⟩]) [0] [0, 1, 4, 9, 10, 109, 110, 111] rfl (by kernel_rfl) ?_
          refine N_block ?_
          refine N_then ?_
          have hw37 : IntKind.wrap .i64 (((k3 : Nat) : Int) + 1) = ((k3 : Nat) : Int) + 1 := w64 (by omega) (by omega)
          refine G_pure (E' := [⟨0, [], pt x⟩, ⟨1, [], .slice la l.length lc⟩, ⟨4, [], .int .i64 ((u2 : Nat) : Int)⟩, ⟨9, [], .string ((sr.cs.getD k3 default).dir)⟩, ⟨10, [], .int .i64 1⟩, ⟨109, [], .slice sr.ca sr.cn sr.cc⟩, ⟨110, [], .int .i64 ((sr.cn : Nat) : Int)⟩, ⟨111, [], .int .i64 (((k3 : Nat) : Int) + 1)⟩]) [0, 0] [0, 1, 4, 9, 10, 109, 110, 111] rfl (Eq.trans (b := some [⟨0, [], pt x⟩, ⟨1, [], .slice la l.length lc⟩, ⟨4, [], .int .i64 ((u2 : Nat) : Int)⟩, ⟨9, [], .string ((sr.cs.getD k3 default).dir)⟩, ⟨10, [], .int .i64 1⟩, ⟨109, [], .slice sr.ca sr.cn sr.cc⟩, ⟨110, [], .int .i64 ((sr.cn : Nat) : Int)⟩, ⟨111, [], .int .i64 (IntKind.wrap .i64 (((k3 : Nat) : Int) + 1))⟩]) (by kernel_rfl) (by simp only [hw37])) ?_
          refine N_heap (H' := ([(x, .cells #[.int .i64 Mr.room, .slice sr.ba sr.bn sr.bc, .slice sr.na sr.nn sr.nc, .slice sr.ka sr.kn sr.kc, .slice sr.ca sr.cn sr.cc, .bool Mr.fails, .bool Mr.once, .int .i64 Mr.calls] 86 (0, 0))] :: sr.bg :: sr.cg :: (sr.Z ++ H))) (fun w h => ((((h.front (j := 3) rfl).front (j := 3) rfl).front (j := 3) rfl).erase 3)) ?_
          refine N_round (s' := (k3 + 1, (sr.cs.getD k3 default).dir)) [0, 1, 4, 9, 10, 109, 110, 111] (by kernel_rfl) rfl ⟨(by omega), (min_yes hmn (by omega) hlt3)⟩ (by omega)
        ·
          have hlt3 := hc36
          refine G_skip ?_
          refine N_block ?_
          refine N_then ?_
          have hw38 : IntKind.wrap .i64 (((k3 : Nat) : Int) + 1) = ((k3 : Nat) : Int) + 1 := w64 (by omega) (by omega)
          refine G_pure (E' := [⟨0, [], pt x⟩, ⟨1, [], .slice la l.length lc⟩, ⟨4, [], .int .i64 ((u2 : Nat) : Int)⟩, ⟨9, [], .string ls⟩, ⟨10, [], .int .i64 1⟩, ⟨109, [], .slice sr.ca sr.cn sr.cc⟩, ⟨110, [], .int .i64 ((sr.cn : Nat) : Int)⟩, ⟨111, [], .int .i64 (((k3 : Nat) : Int) + 1)⟩]) [0, 0] [0, 1, 4, 9, 10, 109, 110, 111] rfl (Eq.trans (b := some [⟨0, [], pt x⟩, ⟨1, [], .slice la l.length lc⟩, ⟨4, [], .int .i64 ((u2 : Nat) : Int)⟩, ⟨9, [], .string ls⟩, ⟨10, [], .int .i64 1⟩, ⟨109, [], .slice sr.ca sr.cn sr.cc⟩, ⟨110, [], .int .i64 ((sr.cn : Nat) : Int)⟩, ⟨111, [], .int .i64 (IntKind.wrap .i64 (((k3 : Nat) : Int) + 1))⟩]) (by kernel_rfl) (by simp only [hw38])) ?_
          refine N_heap (H' := ([(x, .cells #[.int .i64 Mr.room, .slice sr.ba sr.bn sr.bc, .slice sr.na sr.nn sr.nc, .slice sr.ka sr.kn sr.kc, .slice sr.ca sr.cn sr.cc, .bool Mr.fails, .bool Mr.once, .int .i64 Mr.calls] 86 (0, 0))] :: sr.bg :: sr.cg :: (sr.Z ++ H))) (fun w h => ((((h.front (j := 3) rfl).front (j := 3) rfl).front (j := 3) rfl).erase 3)) ?_
          refine N_round (s' := (k3 + 1, ls)) [0, 1, 4, 9, 10, 109, 110, 111] (by kernel_rfl) rfl ⟨(by omega), (min_no hmn (by omega) hlt3)⟩ (by omega)
      ·
        replace hc34 := of_decide_eq_false hc34
        refine G_exit ?_
        refine N_then_exit ?_
        refine N_then_exit ?_
        refine N_block_exit ?_
        refine N_then ?_
        refine G_seq ?_
        refine G_seq ?_
        refine G_region ?_
        refine GL_pure (E' := [⟨124, [], .pointer (some ⟨x, 4, none⟩)⟩, ⟨0, [], pt x⟩, ⟨1, [], .slice la l.length lc⟩, ⟨4, [], .int .i64 ((u2 : Nat) : Int)⟩, ⟨9, [], .string ls⟩, ⟨10, [], .int .i64 1⟩]) [0, 0, 0] (by kernel_rfl) (j := 3) rfl ?_
        refine GL_load (i := 3) (ch := []) (b := x) (off := 4) (v := .slice sr.ca sr.cn sr.cc) rfl rfl (by kernel_rfl) (by kernel_rfl) (by kernel_rfl) (by kernel_rfl) (by kernel_rfl) (At.grp 0 0 rfl rfl) rfl ?_
        refine GL_fin (E' := [⟨0, [], pt x⟩, ⟨1, [], .slice la l.length lc⟩, ⟨4, [], .int .i64 ((u2 : Nat) : Int)⟩, ⟨9, [], .string ls⟩, ⟨10, [], .int .i64 1⟩, ⟨125, [], .slice sr.ca sr.cn sr.cc⟩, ⟨126, [], .int .i64 ((sr.cn : Nat) : Int)⟩, ⟨127, [], .int .i64 0⟩]) [0, 0] [0, 1, 4, 9, 10, 125, 126, 127] rfl (by kernel_rfl) ?_
        refine N_then ?_
        refine G_block ?_
        have hmm := min_end hsr.chs (by omega) hmn
        refine G_loop (EI := (fun ξ : Nat => [⟨0, [], pt x⟩, ⟨1, [], .slice la l.length lc⟩, ⟨4, [], .int .i64 ((u2 : Nat) : Int)⟩, ⟨9, [], .string ls⟩, ⟨10, [], .int .i64 ((cntD sr.cs ξ ls : Nat) : Int)⟩, ⟨125, [], .slice sr.ca sr.cn sr.cc⟩, ⟨126, [], .int .i64 ((sr.cn : Nat) : Int)⟩, ⟨127, [], .int .i64 ((ξ : Nat) : Int)⟩])) (HI := (fun ξ : Nat => ([(x, .cells #[.int .i64 Mr.room, .slice sr.ba sr.bn sr.bc, .slice sr.na sr.nn sr.nc, .slice sr.ka sr.kn sr.kc, .slice sr.ca sr.cn sr.cc, .bool Mr.fails, .bool Mr.once, .int .i64 Mr.calls] 86 (0, 0))] :: sr.bg :: sr.cg :: (sr.Z ++ H)))) (Φ := (fun ξ : Nat => (ξ ≤ sr.cs.length))) (μ := (fun ξ : Nat => sr.cs.length - ξ)) (s0 := (0)) [0, 1, 4, 9, 10, 125, 126, 127] (by kernel_rfl) rfl (by omega) ?_
        rintro k4 hk4
        replace hk4 : k4 ≤ sr.cs.length := hk4
        have hcl4 := cnt_le (cs := sr.cs) (k := k4) (ls := ls)
        refine G_seq ?_
        refine G_pure (E' := [⟨0, [], pt x⟩, ⟨1, [], .slice la l.length lc⟩, ⟨4, [], .int .i64 ((u2 : Nat) : Int)⟩, ⟨9, [], .string ls⟩, ⟨10, [], .int .i64 ((cntD sr.cs k4 ls : Nat) : Int)⟩, ⟨125, [], .slice sr.ca sr.cn sr.cc⟩, ⟨126, [], .int .i64 ((sr.cn : Nat) : Int)⟩, ⟨127, [], .int .i64 ((k4 : Nat) : Int)⟩, ⟨128, [], .bool (decide (((k4 : Nat) : Int) < ((sr.cn : Nat) : Int)))⟩]) [0] [0, 1, 4, 9, 10, 125, 126, 127, 128] rfl (by kernel_rfl) ?_
        refine N_then ?_
        refine G_seq ?_
        refine G_cond (b := decide (((k4 : Nat) : Int) < ((sr.cn : Nat) : Int))) (by kernel_rfl) (fun hc39 => ?_) (fun hc39 => ?_)
        ·
          replace hc39 := of_decide_eq_true hc39
          refine G_skip ?_
          refine N_then ?_
          refine G_seq ?_
          refine G_block ?_
          refine G_seq ?_
          refine G_region ?_
          refine GL_indexAddr (i := 0) (ch := []) (a := sr.ca) (len := sr.cn) (cap := sr.cc) (kd := .i64) (j := ((k4 : Nat) : Int)) (e := 104) (sz := 2) (S := (inG sr.cg)) (cs := (chC sr.cs)) rfl rfl (by kernel_rfl) (by kernel_rfl) (by kernel_rfl) (by kernel_rfl) (by kernel_rfl) (by kernel_rfl) (by kernel_rfl) (own_rd hsr.own2) (fun _ => by exact ⟨by omega, by omega, chC_ne (i := k4) (by omega)⟩) ?_
          refine GL_loadSA (i := 1) (ch := []) (a := sr.ca) (q := k4 * 2) (S := (inG sr.cg)) (cs := (chC sr.cs)) (l := [.string ((sr.cs.getD k4 default).dir), .slice (sr.cs.getD k4 default).a ((sr.cs.getD k4 default).l.length) ((sr.cs.getD k4 default).c)]) rfl rfl (by kernel_rfl) (by kernel_rfl) (by kernel_rfl) (by kernel_rfl) (by kernel_rfl) (by kernel_rfl) (own_rd hsr.own2) (at_inG 2 rfl) (List.cons_ne_nil _ _) (fun _ => (fun m hm => (cells2_at (by omega) m hm).trans (List.getElem?_eq_getElem hm))) ?_
          refine GL_alloc (i := 2) (ch := []) (z := .agg #[.string (ByteArray.mk #[]), .slice none 0 0]) rfl rfl (by kernel_rfl) (by kernel_rfl) (by kernel_rfl) (by kernel_rfl) (fun b40 => ?_)
          refine GL_store (i := 3) (ch := []) (b := b40) (off := 0) (v := .agg #[.string ((sr.cs.getD k4 default).dir), .slice (sr.cs.getD k4 default).a ((sr.cs.getD k4 default).l.length) ((sr.cs.getD k4 default).c)]) (c := #[.string (ByteArray.mk #[]), .slice none 0 0]) (c' := #[.string ((sr.cs.getD k4 default).dir), .slice (sr.cs.getD k4 default).a ((sr.cs.getD k4 default).l.length) ((sr.cs.getD k4 default).c)]) (j := 0) (m := 0) (H' := ([(b40, .cells #[.string ((sr.cs.getD k4 default).dir), .slice (sr.cs.getD k4 default).a ((sr.cs.getD k4 default).l.length) ((sr.cs.getD k4 default).c)] 104 (0, 0))] :: [(x, .cells #[.int .i64 Mr.room, .slice sr.ba sr.bn sr.bc, .slice sr.na sr.nn sr.nc, .slice sr.ka sr.kn sr.kc, .slice sr.ca sr.cn sr.cc, .bool Mr.fails, .bool Mr.once, .int .i64 Mr.calls] 86 (0, 0))] :: sr.bg :: sr.cg :: (sr.Z ++ H))) rfl rfl (by kernel_rfl) (by kernel_rfl) (by kernel_rfl) (by kernel_rfl) (by kernel_rfl) (by kernel_rfl) (by kernel_rfl) rfl rfl (Nat.le_of_ble_eq_true rfl) (fun _ _ => thaw0) (by kernel_rfl) (by kernel_rfl) ?_
          refine GL_fin (E' := [⟨0, [], pt x⟩, ⟨1, [], .slice la l.length lc⟩, ⟨4, [], .int .i64 ((u2 : Nat) : Int)⟩, ⟨9, [], .string ls⟩, ⟨10, [], .int .i64 ((cntD sr.cs k4 ls : Nat) : Int)⟩, ⟨14, [], pt b40⟩, ⟨125, [], .slice sr.ca sr.cn sr.cc⟩, ⟨126, [], .int .i64 ((sr.cn : Nat) : Int)⟩, ⟨127, [], .int .i64 ((k4 : Nat) : Int)⟩]) [] [0, 1, 4, 9, 10, 14, 125, 126, 127] rfl (by kernel_rfl) ?_
          refine N_then ?_
          refine G_seq ?_
          refine G_region ?_
          refine GL_pure (E' := [⟨131, [], pt b40⟩, ⟨0, [], pt x⟩, ⟨1, [], .slice la l.length lc⟩, ⟨4, [], .int .i64 ((u2 : Nat) : Int)⟩, ⟨9, [], .string ls⟩, ⟨10, [], .int .i64 ((cntD sr.cs k4 ls : Nat) : Int)⟩, ⟨125, [], .slice sr.ca sr.cn sr.cc⟩, ⟨126, [], .int .i64 ((sr.cn : Nat) : Int)⟩, ⟨127, [], .int .i64 ((k4 : Nat) : Int)⟩]) [0] (by kernel_rfl) (j := 1) rfl ?_
          refine GL_load (i := 1) (ch := []) (b := b40) (off := 0) (v := .string ((sr.cs.getD k4 default).dir)) rfl rfl (by kernel_rfl) (by kernel_rfl) (by kernel_rfl) (by kernel_rfl) (by kernel_rfl) (At.grp 0 0 rfl rfl) rfl ?_
          refine GL_fin (E' := [⟨0, [], pt x⟩, ⟨1, [], .slice la l.length lc⟩, ⟨4, [], .int .i64 ((u2 : Nat) : Int)⟩, ⟨9, [], .string ls⟩, ⟨10, [], .int .i64 ((cntD sr.cs k4 ls : Nat) : Int)⟩, ⟨125, [], .slice sr.ca sr.cn sr.cc⟩, ⟨126, [], .int .i64 ((sr.cn : Nat) : Int)⟩, ⟨127, [], .int .i64 ((k4 : Nat) : Int)⟩, ⟨134, [], .bool (((sr.cs.getD k4 default).dir).toList == ls.toList)⟩]) [0, 0] [0, 1, 4, 9, 10, 125, 126, 127, 134] rfl (by kernel_rfl) ?_
          refine N_then ?_
          refine G_cond (b := ((sr.cs.getD k4 default).dir).toList == ls.toList) (by kernel_rfl) (fun hc41 => ?_) (fun hc41 => ?_)
          ·
            have heq4 := hc41
            -- L eq4
            have hw42 : IntKind.wrap .i64 (((cntD sr.cs k4 ls : Nat) : Int) + 1) = ((cntD sr.cs k4 ls : Nat) : Int) + 1 := w64 (by omega) (by omega)
            refine G_pure (E' := [⟨0, [], pt x⟩, ⟨1, [], .slice la l.length lc⟩, ⟨4, [], .int .i64 ((u2 : Nat) : Int)⟩, ⟨9, [], .string ls⟩, ⟨10, [], .int .i64 (((cntD sr.cs k4 ls : Nat) : Int) + 1)⟩, ⟨125, [], .slice sr.ca sr.cn sr.cc⟩, ⟨126, [], .int .i64 ((sr.cn : Nat) : Int)⟩, ⟨127, [], .int .i64 ((k4 : Nat) : Int)⟩]) [0, 0, 0] [0, 1, 4, 9, 10, 125, 126, 127] rfl (Eq.trans (b := some [⟨0, [], pt x⟩, ⟨1, [], .slice la l.length lc⟩, ⟨4, [], .int .i64 ((u2 : Nat) : Int)⟩, ⟨9, [], .string ls⟩, ⟨10, [], .int .i64 (IntKind.wrap .i64 (((cntD sr.cs k4 ls : Nat) : Int) + 1))⟩, ⟨125, [], .slice sr.ca sr.cn sr.cc⟩, ⟨126, [], .int .i64 ((sr.cn : Nat) : Int)⟩, ⟨127, [], .int .i64 ((k4 : Nat) : Int)⟩]) (by kernel_rfl) (by simp only [hw42])) ?_
            refine N_block ?_
            refine N_then ?_
            have hw43 : IntKind.wrap .i64 (((k4 : Nat) : Int) + 1) = ((k4 : Nat) : Int) + 1 := w64 (by omega) (by omega)
            refine G_pure (E' := [⟨0, [], pt x⟩, ⟨1, [], .slice la l.length lc⟩, ⟨4, [], .int .i64 ((u2 : Nat) : Int)⟩, ⟨9, [], .string ls⟩, ⟨10, [], .int .i64 (((cntD sr.cs k4 ls : Nat) : Int) + 1)⟩, ⟨125, [], .slice sr.ca sr.cn sr.cc⟩, ⟨126, [], .int .i64 ((sr.cn : Nat) : Int)⟩, ⟨127, [], .int .i64 (((k4 : Nat) : Int) + 1)⟩]) [0, 0] [0, 1, 4, 9, 10, 125, 126, 127] rfl (Eq.trans (b := some [⟨0, [], pt x⟩, ⟨1, [], .slice la l.length lc⟩, ⟨4, [], .int .i64 ((u2 : Nat) : Int)⟩, ⟨9, [], .string ls⟩, ⟨10, [], .int .i64 (((cntD sr.cs k4 ls : Nat) : Int) + 1)⟩, ⟨125, [], .slice sr.ca sr.cn sr.cc⟩, ⟨126, [], .int .i64 ((sr.cn : Nat) : Int)⟩, ⟨127, [], .int .i64 (IntKind.wrap .i64 (((k4 : Nat) : Int) + 1))⟩]) (by kernel_rfl) (by simp only [hw43])) ?_
            refine N_env (E' := [⟨0, [], pt x⟩, ⟨1, [], .slice la l.length lc⟩, ⟨4, [], .int .i64 ((u2 : Nat) : Int)⟩, ⟨9, [], .string ls⟩, ⟨10, [], .int .i64 ((cntD sr.cs (k4 + 1) ls : Nat) : Int)⟩, ⟨125, [], .slice sr.ca sr.cn sr.cc⟩, ⟨126, [], .int .i64 ((sr.cn : Nat) : Int)⟩, ⟨127, [], .int .i64 (((k4 : Nat) : Int) + 1)⟩]) (by rw [cnt_yes (by omega) heq4]; rfl) ?_
            refine N_heap (H' := ([(x, .cells #[.int .i64 Mr.room, .slice sr.ba sr.bn sr.bc, .slice sr.na sr.nn sr.nc, .slice sr.ka sr.kn sr.kc, .slice sr.ca sr.cn sr.cc, .bool Mr.fails, .bool Mr.once, .int .i64 Mr.calls] 86 (0, 0))] :: sr.bg :: sr.cg :: (sr.Z ++ H))) (fun w h => ((((h.front (j := 3) rfl).front (j := 3) rfl).front (j := 3) rfl).erase 3)) ?_
            refine N_round (s' := (k4 + 1)) [0, 1, 4, 9, 10, 125, 126, 127] (by kernel_rfl) rfl (by omega) (by omega)
          ·
            have heq4 := hc41
            refine G_skip ?_
            refine N_block ?_
            refine N_then ?_
            have hw44 : IntKind.wrap .i64 (((k4 : Nat) : Int) + 1) = ((k4 : Nat) : Int) + 1 := w64 (by omega) (by omega)
            refine G_pure (E' := [⟨0, [], pt x⟩, ⟨1, [], .slice la l.length lc⟩, ⟨4, [], .int .i64 ((u2 : Nat) : Int)⟩, ⟨9, [], .string ls⟩, ⟨10, [], .int .i64 ((cntD sr.cs k4 ls : Nat) : Int)⟩, ⟨125, [], .slice sr.ca sr.cn sr.cc⟩, ⟨126, [], .int .i64 ((sr.cn : Nat) : Int)⟩, ⟨127, [], .int .i64 (((k4 : Nat) : Int) + 1)⟩]) [0, 0] [0, 1, 4, 9, 10, 125, 126, 127] rfl (Eq.trans (b := some [⟨0, [], pt x⟩, ⟨1, [], .slice la l.length lc⟩, ⟨4, [], .int .i64 ((u2 : Nat) : Int)⟩, ⟨9, [], .string ls⟩, ⟨10, [], .int .i64 ((cntD sr.cs k4 ls : Nat) : Int)⟩, ⟨125, [], .slice sr.ca sr.cn sr.cc⟩, ⟨126, [], .int .i64 ((sr.cn : Nat) : Int)⟩, ⟨127, [], .int .i64 (IntKind.wrap .i64 (((k4 : Nat) : Int) + 1))⟩]) (by kernel_rfl) (by simp only [hw44])) ?_
            refine N_env (E' := [⟨0, [], pt x⟩, ⟨1, [], .slice la l.length lc⟩, ⟨4, [], .int .i64 ((u2 : Nat) : Int)⟩, ⟨9, [], .string ls⟩, ⟨10, [], .int .i64 ((cntD sr.cs (k4 + 1) ls : Nat) : Int)⟩, ⟨125, [], .slice sr.ca sr.cn sr.cc⟩, ⟨126, [], .int .i64 ((sr.cn : Nat) : Int)⟩, ⟨127, [], .int .i64 (((k4 : Nat) : Int) + 1)⟩]) (by rw [cnt_no (by omega) heq4]) ?_
            refine N_heap (H' := ([(x, .cells #[.int .i64 Mr.room, .slice sr.ba sr.bn sr.bc, .slice sr.na sr.nn sr.nc, .slice sr.ka sr.kn sr.kc, .slice sr.ca sr.cn sr.cc, .bool Mr.fails, .bool Mr.once, .int .i64 Mr.calls] 86 (0, 0))] :: sr.bg :: sr.cg :: (sr.Z ++ H))) (fun w h => ((((h.front (j := 3) rfl).front (j := 3) rfl).front (j := 3) rfl).erase 3)) ?_
            refine N_round (s' := (k4 + 1)) [0, 1, 4, 9, 10, 125, 126, 127] (by kernel_rfl) rfl (by omega) (by omega)
        ·
          replace hc39 := of_decide_eq_false hc39
          have hcm : ((cntD sr.cs k4 ls : Nat) : Int) = ((chOf Mr.changes ls).length : Int) + 1 := by rw [cnt_end hsr.chs (by omega)]; rfl
          refine G_exit ?_
          refine N_then_exit ?_
          refine N_then_exit ?_
          refine N_block_exit ?_
          refine N_then ?_
          refine G_seq ?_
          refine G_pure (E' := [⟨0, [], pt x⟩, ⟨1, [], .slice la l.length lc⟩, ⟨4, [], .int .i64 ((u2 : Nat) : Int)⟩, ⟨9, [], .string ls⟩, ⟨10, [], .int .i64 ((cntD sr.cs k4 ls : Nat) : Int)⟩, ⟨15, [], .int .i64 0⟩]) [0] [0, 1, 4, 9, 10, 15] rfl (by kernel_rfl) ?_
          refine N_then ?_
          refine G_seq ?_
          refine G_seq ?_
          refine G_pure (E' := [⟨0, [], pt x⟩, ⟨1, [], .slice la l.length lc⟩, ⟨4, [], .int .i64 ((u2 : Nat) : Int)⟩, ⟨9, [], .string ls⟩, ⟨10, [], .int .i64 ((cntD sr.cs k4 ls : Nat) : Int)⟩, ⟨15, [], .int .i64 0⟩, ⟨141, [], .bool (decide (((u2 : Nat) : Int) < ((l.length : Nat) : Int)))⟩]) [0, 0, 0, 0] [0, 1, 4, 9, 10, 15, 141] rfl (by kernel_rfl) ?_
          refine N_then ?_
          refine G_join (T := Nat) (fun ξ : Nat => [⟨0, [], pt x⟩, ⟨1, [], .slice la l.length lc⟩, ⟨4, [], .int .i64 ((u2 : Nat) : Int)⟩, ⟨9, [], .string ls⟩, ⟨15, [], .int .i64 ((ξ : Nat) : Int)⟩]) (fun ξ : Nat => ([(x, .cells #[.int .i64 Mr.room, .slice sr.ba sr.bn sr.bc, .slice sr.na sr.nn sr.nc, .slice sr.ka sr.kn sr.kc, .slice sr.ca sr.cn sr.cc, .bool Mr.fails, .bool Mr.once, .int .i64 Mr.calls] 86 (0, 0))] :: sr.bg :: sr.cg :: (sr.Z ++ H))) (fun ξ : Nat => (ξ = (nextK (l.getD u2 0) ((cntD sr.cs k4 ls : Nat) : Int)).toNat)) ?_ ?_
          ·
            refine G_cond (b := decide (((u2 : Nat) : Int) < ((l.length : Nat) : Int))) (by kernel_rfl) (fun hc45 => ?_) (fun hc45 => ?_)
            ·
              replace hc45 := of_decide_eq_true hc45
              have hnb2 := nextK_bd (k := l.getD u2 0) (n := ((cntD sr.cs k4 ls : Nat) : Int)) (by omega)
              refine G_region ?_
              refine GL_pure (E' := [⟨143, [], .int .i64 ((u2 : Nat) : Int)⟩, ⟨142, [], .slice la l.length lc⟩, ⟨0, [], pt x⟩, ⟨1, [], .slice la l.length lc⟩, ⟨4, [], .int .i64 ((u2 : Nat) : Int)⟩, ⟨9, [], .string ls⟩, ⟨10, [], .int .i64 ((cntD sr.cs k4 ls : Nat) : Int)⟩, ⟨15, [], .int .i64 0⟩]) [0, 0] (by kernel_rfl) (j := 2) rfl ?_
              refine GL_indexAddr (i := 2) (ch := []) (a := la) (len := l.length) (cap := lc) (kd := .i64) (j := ((u2 : Nat) : Int)) (e := 3) (sz := 1) (S := Sk) (cs := (l.map (Value.int .i64))) rfl rfl (by kernel_rfl) (by kernel_rfl) (by kernel_rfl) (by kernel_rfl) (by kernel_rfl) (by kernel_rfl) (by kernel_rfl) hrl (fun _ => by exact ⟨by omega, by omega, ints_ne (u := u2) (by omega)⟩) ?_
              refine GL_loadS (i := 3) (ch := []) (a := la) (q := u2 * 1) (S := Sk) (cs := (l.map (Value.int .i64))) (v := .int .i64 (l.getD u2 0)) rfl rfl (by kernel_rfl) (by kernel_rfl) (by kernel_rfl) (by kernel_rfl) (by kernel_rfl) hrl (fun y o h => (At.cons (At.cons (At.cons (at_app2 (hSk y o h)))))) (fun _ => (by rw [Nat.mul_one]; exact intL_at (by omega))) ?_
              refine GL_pure (E' := [⟨146, [], .int .i64 ((cntD sr.cs k4 ls : Nat) : Int)⟩, ⟨145, [], .int .i64 (l.getD u2 0)⟩, ⟨0, [], pt x⟩, ⟨1, [], .slice la l.length lc⟩, ⟨4, [], .int .i64 ((u2 : Nat) : Int)⟩, ⟨9, [], .string ls⟩, ⟨10, [], .int .i64 ((cntD sr.cs k4 ls : Nat) : Int)⟩, ⟨15, [], .int .i64 0⟩]) [0] (by kernel_rfl) (j := 5) rfl ?_
              refine GL_rem (i := 5) (ch := []) (kd := .i64) (a := (l.getD u2 0)) (b := ((cntD sr.cs k4 ls : Nat) : Int)) rfl rfl (by kernel_rfl) (by kernel_rfl) (by kernel_rfl) (by kernel_rfl) (by kernel_rfl) (fun _ => by omega) ?_
              have hrm46 := tmod_ne (l.getD u2 0) (show 0 < ((cntD sr.cs k4 ls : Nat) : Int) by omega)
              have hw47 : IntKind.wrap .i64 ((Int.tmod (l.getD u2 0) ((cntD sr.cs k4 ls : Nat) : Int)) + ((cntD sr.cs k4 ls : Nat) : Int)) = (Int.tmod (l.getD u2 0) ((cntD sr.cs k4 ls : Nat) : Int)) + ((cntD sr.cs k4 ls : Nat) : Int) := w64 (by omega) (by omega)
              refine GL_pure (E' := [⟨150, [], .int .i64 ((cntD sr.cs k4 ls : Nat) : Int)⟩, ⟨149, [], .int .i64 ((Int.tmod (l.getD u2 0) ((cntD sr.cs k4 ls : Nat) : Int)) + ((cntD sr.cs k4 ls : Nat) : Int))⟩, ⟨0, [], pt x⟩, ⟨1, [], .slice la l.length lc⟩, ⟨4, [], .int .i64 ((u2 : Nat) : Int)⟩, ⟨9, [], .string ls⟩, ⟨15, [], .int .i64 0⟩]) [0, 0, 0] (Eq.trans (b := some [⟨150, [], .int .i64 ((cntD sr.cs k4 ls : Nat) : Int)⟩, ⟨149, [], .int .i64 (IntKind.wrap .i64 ((Int.tmod (l.getD u2 0) ((cntD sr.cs k4 ls : Nat) : Int)) + ((cntD sr.cs k4 ls : Nat) : Int)))⟩, ⟨0, [], pt x⟩, ⟨1, [], .slice la l.length lc⟩, ⟨4, [], .int .i64 ((u2 : Nat) : Int)⟩, ⟨9, [], .string ls⟩, ⟨15, [], .int .i64 0⟩]) (by kernel_rfl) (by simp only [hw47])) (j := 9) rfl ?_
              refine GL_rem (i := 9) (ch := []) (kd := .i64) (a := (Int.tmod (l.getD u2 0) ((cntD sr.cs k4 ls : Nat) : Int)) + ((cntD sr.cs k4 ls : Nat) : Int)) (b := ((cntD sr.cs k4 ls : Nat) : Int)) rfl rfl (by kernel_rfl) (by kernel_rfl) (by kernel_rfl) (by kernel_rfl) (by kernel_rfl) (fun _ => by omega) ?_
              have hrm48 := tmod_ne ((Int.tmod (l.getD u2 0) ((cntD sr.cs k4 ls : Nat) : Int)) + ((cntD sr.cs k4 ls : Nat) : Int)) (show 0 < ((cntD sr.cs k4 ls : Nat) : Int) by omega)
              refine GL_pure (E' := [⟨15, [], .int .i64 (Int.tmod ((Int.tmod (l.getD u2 0) ((cntD sr.cs k4 ls : Nat) : Int)) + ((cntD sr.cs k4 ls : Nat) : Int)) ((cntD sr.cs k4 ls : Nat) : Int))⟩, ⟨0, [], pt x⟩, ⟨1, [], .slice la l.length lc⟩, ⟨4, [], .int .i64 ((u2 : Nat) : Int)⟩, ⟨9, [], .string ls⟩]) [0] (by kernel_rfl) (j := 11) rfl ?_
              refine GL_env (E' := [⟨15, [], .int .i64 ((Int.toNat (nextK (l.getD u2 0) ((cntD sr.cs k4 ls : Nat) : Int)) : Nat) : Int)⟩, ⟨0, [], pt x⟩, ⟨1, [], .slice la l.length lc⟩, ⟨4, [], .int .i64 ((u2 : Nat) : Int)⟩, ⟨9, [], .string ls⟩]) (by rw [show Int.tmod (Int.tmod (l.getD u2 0) ((cntD sr.cs k4 ls : Nat) : Int) + ((cntD sr.cs k4 ls : Nat) : Int)) ((cntD sr.cs k4 ls : Nat) : Int) = _ from (Int.toNat_of_nonneg hnb2.1).symm]) ?_
              refine GL_fin (E' := [⟨0, [], pt x⟩, ⟨1, [], .slice la l.length lc⟩, ⟨4, [], .int .i64 ((u2 : Nat) : Int)⟩, ⟨9, [], .string ls⟩, ⟨15, [], .int .i64 ((Int.toNat (nextK (l.getD u2 0) ((cntD sr.cs k4 ls : Nat) : Int)) : Nat) : Int)⟩]) [] [0, 1, 4, 9, 15] rfl (by kernel_rfl) ?_
              refine N_join (Int.toNat (nextK (l.getD u2 0) ((cntD sr.cs k4 ls : Nat) : Int))) [0, 1, 4, 9, 15] (by kernel_rfl) (fun w h => (((h.front (j := 2) rfl).front (j := 2) rfl).front (j := 2) rfl)) rfl
            ·
              replace hc45 := of_decide_eq_false hc45
              -- L over
              refine G_skip ?_
              refine N_join (0) [0, 1, 4, 9, 15] (by kernel_rfl) (fun w h => (((h.front (j := 2) rfl).front (j := 2) rfl).front (j := 2) rfl)) (by rw [getD_over (by omega), nextK0 (by omega)]; rfl)
          ·
            rintro nn hnn5
            have hnb2 := nextK_bd (k := l.getD u2 0) (n := ((cntD sr.cs k4 ls : Nat) : Int)) (by omega)
            refine N_then ?_
            refine G_seq ?_
            have hw49 : IntKind.wrap .i64 (((u2 : Nat) : Int) + 1) = ((u2 : Nat) : Int) + 1 := w64 (by omega) (by omega)
            refine G_pure (E' := [⟨0, [], pt x⟩, ⟨1, [], .slice la l.length lc⟩, ⟨4, [], .int .i64 (((u2 : Nat) : Int) + 1)⟩, ⟨9, [], .string ls⟩, ⟨15, [], .int .i64 ((nn : Nat) : Int)⟩]) [0, 0, 0] [0, 1, 4, 9, 15] rfl (Eq.trans (b := some [⟨0, [], pt x⟩, ⟨1, [], .slice la l.length lc⟩, ⟨4, [], .int .i64 (IntKind.wrap .i64 (((u2 : Nat) : Int) + 1))⟩, ⟨9, [], .string ls⟩, ⟨15, [], .int .i64 ((nn : Nat) : Int)⟩]) (by kernel_rfl) (by simp only [hw49])) ?_
            refine N_then ?_
            refine G_seq ?_
            refine G_region ?_
            refine GL_pure (E' := [⟨156, [], .int .i64 ((nn : Nat) : Int)⟩, ⟨155, [], .string ls⟩, ⟨154, [], pt x⟩, ⟨0, [], pt x⟩, ⟨1, [], .slice la l.length lc⟩, ⟨4, [], .int .i64 (((u2 : Nat) : Int) + 1)⟩, ⟨9, [], .string ls⟩]) [0, 0, 0] (by kernel_rfl) (j := 3) rfl ?_
            refine GL_heap rfl (H' := ([(x, .cells #[.int .i64 Mr.room, .slice sr.ba sr.bn sr.bc, .slice sr.na sr.nn sr.nc, .slice sr.ka sr.kn sr.kc, .slice sr.ca sr.cn sr.cc, .bool Mr.fails, .bool Mr.once, .int .i64 Mr.calls] 86 (0, 0))] :: sr.bg :: sr.cg :: (sr.Z ++ H))) (fun w h => (((h.front (j := 2) rfl).front (j := 2) rfl).front (j := 2) rfl)) ?_
            refine GL_call (i := 3) (ch := []) (f := 65) (fst := #[]) (caps := #[]) (vs := [pt x, .string ls, .int .i64 ((nn : Nat) : Int)]) rfl rfl rfl (by kernel_rfl) (by kernel_rfl) Try.func65 rfl rfl (by kernel_rfl) (by kernel_rfl) (chSure_of (by kernel_rfl)) (rKeep x sr Mr hsr ⟨Nat.le_trans (Nat.le_add_right _ _) hcr.kept, by omega, hcr.chs⟩ ls nn (by omega) _ H) ?_
            rintro v H' ⟨rfl, sr2, hsr2, rfl⟩
            have hcn2 := hsr2.cn
            have hch2 := hsr2.chs.len
            have hkl2 := keep_len Mr ls nn
            refine GL_fin (E' := [⟨0, [], pt x⟩, ⟨1, [], .slice la l.length lc⟩, ⟨4, [], .int .i64 (((u2 : Nat) : Int) + 1)⟩, ⟨9, [], .string ls⟩]) [] [0, 1, 4, 9] rfl (by kernel_rfl) ?_
            refine N_then ?_
            refine G_seq ?_
            refine G_pure (E' := [⟨0, [], pt x⟩, ⟨1, [], .slice la l.length lc⟩, ⟨4, [], .int .i64 (((u2 : Nat) : Int) + 1)⟩, ⟨9, [], .string ls⟩, ⟨16, [], .slice none 0 0⟩]) [0] [0, 1, 4, 9, 16] rfl (by kernel_rfl) ?_
            refine N_then ?_
            refine G_seq ?_
            refine G_seq ?_
            refine G_region ?_
            refine GL_pure (E' := [⟨160, [], .pointer (some ⟨x, 4, none⟩)⟩, ⟨0, [], pt x⟩, ⟨1, [], .slice la l.length lc⟩, ⟨4, [], .int .i64 (((u2 : Nat) : Int) + 1)⟩, ⟨9, [], .string ls⟩, ⟨16, [], .slice none 0 0⟩]) [0, 0, 0] (by kernel_rfl) (j := 3) rfl ?_
            refine GL_load (i := 3) (ch := []) (b := x) (off := 4) (v := .slice sr2.ca sr2.cn sr2.cc) rfl rfl (by kernel_rfl) (by kernel_rfl) (by kernel_rfl) (by kernel_rfl) (by kernel_rfl) (At.grp 0 0 rfl rfl) rfl ?_
            refine GL_fin (E' := [⟨0, [], pt x⟩, ⟨1, [], .slice la l.length lc⟩, ⟨4, [], .int .i64 (((u2 : Nat) : Int) + 1)⟩, ⟨9, [], .string ls⟩, ⟨16, [], .slice none 0 0⟩, ⟨161, [], .slice sr2.ca sr2.cn sr2.cc⟩, ⟨162, [], .int .i64 ((sr2.cn : Nat) : Int)⟩, ⟨163, [], .int .i64 0⟩]) [0, 0] [0, 1, 4, 9, 16, 161, 162, 163] rfl (by kernel_rfl) ?_
            refine N_then ?_
            refine G_block ?_
            refine G_heap (H' := ([(x, .cells #[.int .i64 ((keepM Mr ls nn).room), .slice sr2.ba sr2.bn sr2.bc, .slice sr2.na sr2.nn sr2.nc, .slice sr2.ka sr2.kn sr2.kc, .slice sr2.ca sr2.cn sr2.cc, .bool ((keepM Mr ls nn).fails), .bool ((keepM Mr ls nn).once), .int .i64 ((keepM Mr ls nn).calls)] 86 (0, 0))] :: sr2.bg :: sr2.cg :: [] :: (sr2.Z ++ H))) (fun w h => flat_nil' (A := [_, _, _]) h) ?_
            refine G_loop (EI := (fun ξ : Nat × List CR × Option Addr × Nat × Grp => [⟨0, [], pt x⟩, ⟨1, [], .slice la l.length lc⟩, ⟨4, [], .int .i64 (((u2 : Nat) : Int) + 1)⟩, ⟨9, [], .string ls⟩, ⟨16, [], .slice ξ.2.2.1 ξ.2.1.length ξ.2.2.2.1⟩, ⟨161, [], .slice sr2.ca sr2.cn sr2.cc⟩, ⟨162, [], .int .i64 ((sr2.cn : Nat) : Int)⟩, ⟨163, [], .int .i64 ((ξ.1 : Nat) : Int)⟩])) (HI := (fun ξ : Nat × List CR × Option Addr × Nat × Grp => ([(x, .cells #[.int .i64 ((keepM Mr ls nn).room), .slice sr2.ba sr2.bn sr2.bc, .slice sr2.na sr2.nn sr2.nc, .slice sr2.ka sr2.kn sr2.kc, .slice sr2.ca sr2.cn sr2.cc, .bool ((keepM Mr ls nn).fails), .bool ((keepM Mr ls nn).once), .int .i64 ((keepM Mr ls nn).calls)] 86 (0, 0))] :: sr2.bg :: sr2.cg :: ξ.2.2.2.2 :: (sr2.Z ++ H)))) (Φ := (fun ξ : Nat × List CR × Option Addr × Nat × Grp => (ξ.1 ≤ sr2.cs.length) ∧ (ξ.2.1 = (sr2.cs.take ξ.1).filter fun c => !(c.dir.toList == ls.toList)) ∧ (Own 104 2 (.slice ξ.2.2.1 ξ.2.1.length ξ.2.2.2.1) ξ.2.2.2.2 ξ.2.1.length (chC ξ.2.1)) ∧ (ξ.2.1.length ≤ ξ.1))) (μ := (fun ξ : Nat × List CR × Option Addr × Nat × Grp => sr2.cs.length - ξ.1)) (s0 := (0, [], none, 0, [])) [0, 1, 4, 9, 16, 161, 162, 163] (by kernel_rfl) rfl ⟨(by omega), (by rw [List.take_zero]; rfl), Own.nil, (Nat.le_refl _)⟩ ?_
            rintro ⟨k5, rs, ra, rc, gr⟩ ⟨hk5, hrs, hO5, hrl5⟩
            replace hk5 : k5 ≤ sr2.cs.length := hk5
            replace hrs : rs = (sr2.cs.take k5).filter fun c => !(c.dir.toList == ls.toList) := hrs
            replace hO5 : Own 104 2 (.slice ra rs.length rc) gr rs.length (chC rs) := hO5
            replace hrl5 : rs.length ≤ k5 := hrl5
            refine G_seq ?_
            refine G_pure (E' := [⟨0, [], pt x⟩, ⟨1, [], .slice la l.length lc⟩, ⟨4, [], .int .i64 (((u2 : Nat) : Int) + 1)⟩, ⟨9, [], .string ls⟩, ⟨16, [], .slice ra rs.length rc⟩, ⟨161, [], .slice sr2.ca sr2.cn sr2.cc⟩, ⟨162, [], .int .i64 ((sr2.cn : Nat) : Int)⟩, ⟨163, [], .int .i64 ((k5 : Nat) : Int)⟩, ⟨164, [], .bool (decide (((k5 : Nat) : Int) < ((sr2.cn : Nat) : Int)))⟩]) [0] [0, 1, 4, 9, 16, 161, 162, 163, 164] rfl (by kernel_rfl) ?_
            refine N_then ?_
            refine G_seq ?_
            refine G_cond (b := decide (((k5 : Nat) : Int) < ((sr2.cn : Nat) : Int))) (by kernel_rfl) (fun hc50 => ?_) (fun hc50 => ?_)
            ·
              replace hc50 := of_decide_eq_true hc50
              refine G_skip ?_
              refine N_then ?_
              refine G_seq ?_
              refine G_block ?_
              refine G_seq ?_
              refine G_region ?_
              refine GL_indexAddr (i := 0) (ch := []) (a := sr2.ca) (len := sr2.cn) (cap := sr2.cc) (kd := .i64) (j := ((k5 : Nat) : Int)) (e := 104) (sz := 2) (S := (inG sr2.cg)) (cs := (chC sr2.cs)) rfl rfl (by kernel_rfl) (by kernel_rfl) (by kernel_rfl) (by kernel_rfl) (by kernel_rfl) (by kernel_rfl) (by kernel_rfl) (own_rd hsr2.own2) (fun _ => by exact ⟨by omega, by omega, chC_ne (i := k5) (by omega)⟩) ?_
              refine GL_loadSA (i := 1) (ch := []) (a := sr2.ca) (q := k5 * 2) (S := (inG sr2.cg)) (cs := (chC sr2.cs)) (l := [.string ((sr2.cs.getD k5 default).dir), .slice (sr2.cs.getD k5 default).a ((sr2.cs.getD k5 default).l.length) ((sr2.cs.getD k5 default).c)]) rfl rfl (by kernel_rfl) (by kernel_rfl) (by kernel_rfl) (by kernel_rfl) (by kernel_rfl) (by kernel_rfl) (own_rd hsr2.own2) (at_inG 2 rfl) (List.cons_ne_nil _ _) (fun _ => (fun m hm => (cells2_at (by omega) m hm).trans (List.getElem?_eq_getElem hm))) ?_
              refine GL_alloc (i := 2) (ch := []) (z := .agg #[.string (ByteArray.mk #[]), .slice none 0 0]) rfl rfl (by kernel_rfl) (by kernel_rfl) (by kernel_rfl) (by kernel_rfl) (fun b51 => ?_)
              refine GL_store (i := 3) (ch := []) (b := b51) (off := 0) (v := .agg #[.string ((sr2.cs.getD k5 default).dir), .slice (sr2.cs.getD k5 default).a ((sr2.cs.getD k5 default).l.length) ((sr2.cs.getD k5 default).c)]) (c := #[.string (ByteArray.mk #[]), .slice none 0 0]) (c' := #[.string ((sr2.cs.getD k5 default).dir), .slice (sr2.cs.getD k5 default).a ((sr2.cs.getD k5 default).l.length) ((sr2.cs.getD k5 default).c)]) (j := 0) (m := 0) (H' := ([(b51, .cells #[.string ((sr2.cs.getD k5 default).dir), .slice (sr2.cs.getD k5 default).a ((sr2.cs.getD k5 default).l.length) ((sr2.cs.getD k5 default).c)] 104 (0, 0))] :: [(x, .cells #[.int .i64 ((keepM Mr ls nn).room), .slice sr2.ba sr2.bn sr2.bc, .slice sr2.na sr2.nn sr2.nc, .slice sr2.ka sr2.kn sr2.kc, .slice sr2.ca sr2.cn sr2.cc, .bool ((keepM Mr ls nn).fails), .bool ((keepM Mr ls nn).once), .int .i64 ((keepM Mr ls nn).calls)] 86 (0, 0))] :: sr2.bg :: sr2.cg :: gr :: (sr2.Z ++ H))) rfl rfl (by kernel_rfl) (by kernel_rfl) (by kernel_rfl) (by kernel_rfl) (by kernel_rfl) (by kernel_rfl) (by kernel_rfl) rfl rfl (Nat.le_of_ble_eq_true rfl) (fun _ _ => thaw0) (by kernel_rfl) (by kernel_rfl) ?_
              refine GL_fin (E' := [⟨0, [], pt x⟩, ⟨1, [], .slice la l.length lc⟩, ⟨4, [], .int .i64 (((u2 : Nat) : Int) + 1)⟩, ⟨9, [], .string ls⟩, ⟨16, [], .slice ra rs.length rc⟩, ⟨18, [], pt b51⟩, ⟨161, [], .slice sr2.ca sr2.cn sr2.cc⟩, ⟨162, [], .int .i64 ((sr2.cn : Nat) : Int)⟩, ⟨163, [], .int .i64 ((k5 : Nat) : Int)⟩]) [] [0, 1, 4, 9, 16, 18, 161, 162, 163] rfl (by kernel_rfl) ?_
              refine N_then ?_
              refine G_seq ?_
              refine G_region ?_
              refine GL_pure (E' := [⟨167, [], pt b51⟩, ⟨0, [], pt x⟩, ⟨1, [], .slice la l.length lc⟩, ⟨4, [], .int .i64 (((u2 : Nat) : Int) + 1)⟩, ⟨9, [], .string ls⟩, ⟨16, [], .slice ra rs.length rc⟩, ⟨18, [], pt b51⟩, ⟨161, [], .slice sr2.ca sr2.cn sr2.cc⟩, ⟨162, [], .int .i64 ((sr2.cn : Nat) : Int)⟩, ⟨163, [], .int .i64 ((k5 : Nat) : Int)⟩]) [0] (by kernel_rfl) (j := 1) rfl ?_
              refine GL_load (i := 1) (ch := []) (b := b51) (off := 0) (v := .string ((sr2.cs.getD k5 default).dir)) rfl rfl (by kernel_rfl) (by kernel_rfl) (by kernel_rfl) (by kernel_rfl) (by kernel_rfl) (At.grp 0 0 rfl rfl) rfl ?_
              refine GL_fin (E' := [⟨0, [], pt x⟩, ⟨1, [], .slice la l.length lc⟩, ⟨4, [], .int .i64 (((u2 : Nat) : Int) + 1)⟩, ⟨9, [], .string ls⟩, ⟨16, [], .slice ra rs.length rc⟩, ⟨18, [], pt b51⟩, ⟨161, [], .slice sr2.ca sr2.cn sr2.cc⟩, ⟨162, [], .int .i64 ((sr2.cn : Nat) : Int)⟩, ⟨163, [], .int .i64 ((k5 : Nat) : Int)⟩, ⟨170, [], .bool (!(((sr2.cs.getD k5 default).dir).toList == ls.toList))⟩]) [0, 0] [0, 1, 4, 9, 16, 18, 161, 162, 163, 170] rfl (by kernel_rfl) ?_
              refine N_then ?_
              refine G_cond (b := !(((sr2.cs.getD k5 default).dir).toList == ls.toList)) (by kernel_rfl) (fun hc52 => ?_) (fun hc52 => ?_)
              ·
                have hdn5 := hc52
                -- L put5
                refine G_region ?_
                refine GL_pure (E' := [⟨171, [], .slice ra rs.length rc⟩, ⟨0, [], pt x⟩, ⟨1, [], .slice la l.length lc⟩, ⟨4, [], .int .i64 (((u2 : Nat) : Int) + 1)⟩, ⟨9, [], .string ls⟩, ⟨16, [], .slice ra rs.length rc⟩, ⟨18, [], pt b51⟩, ⟨161, [], .slice sr2.ca sr2.cn sr2.cc⟩, ⟨162, [], .int .i64 ((sr2.cn : Nat) : Int)⟩, ⟨163, [], .int .i64 ((k5 : Nat) : Int)⟩]) [0] (by kernel_rfl) (j := 1) rfl ?_
                refine GL_loadA (i := 1) (ch := []) (b := b51) (off := 0) (l := [.string ((sr2.cs.getD k5 default).dir), .slice (sr2.cs.getD k5 default).a ((sr2.cs.getD k5 default).l.length) ((sr2.cs.getD k5 default).c)]) rfl rfl (by kernel_rfl) (by kernel_rfl) (by kernel_rfl) (by kernel_rfl) (by kernel_rfl) (by kernel_rfl) (At.grp 0 0 rfl rfl) (by kernel_rfl) ?_
                refine GL_buildSlice (i := 2) (ch := []) (e := 104) (l := [(0, .agg #[.string ((sr2.cs.getD k5 default).dir), .slice (sr2.cs.getD k5 default).a ((sr2.cs.getD k5 default).l.length) ((sr2.cs.getD k5 default).c)])]) (c := [.string ((sr2.cs.getD k5 default).dir), .slice (sr2.cs.getD k5 default).a ((sr2.cs.getD k5 default).l.length) ((sr2.cs.getD k5 default).c)]) rfl rfl (by kernel_rfl) (by kernel_rfl) (by kernel_rfl) (by kernel_rfl) (by kernel_rfl) (fun b53 => ?_)
                refine GL_append (i := 3) (ch := []) (t := 84) (tx := 84) (e := 104) (inf := Try.t104) (s := .slice ra rs.length rc) (x := .slice (some ⟨b53, 0, none⟩) 1 1) (n := rs.length) (m := 1) (j := 5) (cs := (chC rs)) (news := [.string ((sr2.cs.getD k5 default).dir), .slice (sr2.cs.getD k5 default).a ((sr2.cs.getD k5 default).l.length) ((sr2.cs.getD k5 default).c)]) (g := gr) (S := (inG [(b53, .cells #[.string ((sr2.cs.getD k5 default).dir), .slice (sr2.cs.getD k5 default).a ((sr2.cs.getD k5 default).l.length) ((sr2.cs.getD k5 default).c)] 104 (0, 0))])) rfl rfl rfl rfl (by kernel_rfl) (by kernel_rfl) (by kernel_rfl) rfl rfl (.inl ⟨104, (by kernel_rfl)⟩) (fun ⟨_, h⟩ => by cases h) (fun _ => ⟨104, (by kernel_rfl)⟩) (by kernel_rfl) (by kernel_rfl) (by kernel_rfl) rfl hO5 (SrcOf.slice _ _ _ _ Rd.lit (by first | exact rd_none hsr.kept hsr.kn | exact (fun h => by cases h))) (at_inG 0 rfl) (by first | rfl | (rw [nmC_len, hsr.kn]; rfl)) (by first | exact nmC_one _ | exact (by intro u hu; simp only [List.mem_cons, List.not_mem_nil, or_false] at hu; rcases hu with rfl | rfl <;> rfl)) (by omega) (by show (rs.length + 1) * 40 ≤ 140737488355328; omega) (fun v54 g55 hO56 => ?_)
                obtain ⟨a57, cap58, rfl, hcap59, hrd60⟩ := hO56.shape
                refine GL_fin (E' := [⟨0, [], pt x⟩, ⟨1, [], .slice la l.length lc⟩, ⟨4, [], .int .i64 (((u2 : Nat) : Int) + 1)⟩, ⟨9, [], .string ls⟩, ⟨16, [], .slice a57 (rs.length + 1) cap58⟩, ⟨161, [], .slice sr2.ca sr2.cn sr2.cc⟩, ⟨162, [], .int .i64 ((sr2.cn : Nat) : Int)⟩, ⟨163, [], .int .i64 ((k5 : Nat) : Int)⟩]) [0] [0, 1, 4, 9, 16, 161, 162, 163] rfl (by kernel_rfl) ?_
                refine N_block ?_
                refine N_then ?_
                have hw61 : IntKind.wrap .i64 (((k5 : Nat) : Int) + 1) = ((k5 : Nat) : Int) + 1 := w64 (by omega) (by omega)
                refine G_pure (E' := [⟨0, [], pt x⟩, ⟨1, [], .slice la l.length lc⟩, ⟨4, [], .int .i64 (((u2 : Nat) : Int) + 1)⟩, ⟨9, [], .string ls⟩, ⟨16, [], .slice a57 (rs.length + 1) cap58⟩, ⟨161, [], .slice sr2.ca sr2.cn sr2.cc⟩, ⟨162, [], .int .i64 ((sr2.cn : Nat) : Int)⟩, ⟨163, [], .int .i64 (((k5 : Nat) : Int) + 1)⟩]) [0, 0] [0, 1, 4, 9, 16, 161, 162, 163] rfl (Eq.trans (b := some [⟨0, [], pt x⟩, ⟨1, [], .slice la l.length lc⟩, ⟨4, [], .int .i64 (((u2 : Nat) : Int) + 1)⟩, ⟨9, [], .string ls⟩, ⟨16, [], .slice a57 (rs.length + 1) cap58⟩, ⟨161, [], .slice sr2.ca sr2.cn sr2.cc⟩, ⟨162, [], .int .i64 ((sr2.cn : Nat) : Int)⟩, ⟨163, [], .int .i64 (IntKind.wrap .i64 (((k5 : Nat) : Int) + 1))⟩]) (by kernel_rfl) (by simp only [hw61])) ?_
                refine N_env (E' := [⟨0, [], pt x⟩, ⟨1, [], .slice la l.length lc⟩, ⟨4, [], .int .i64 (((u2 : Nat) : Int) + 1)⟩, ⟨9, [], .string ls⟩, ⟨16, [], .slice a57 ((rs ++ [(sr2.cs.getD k5 default)]).length) cap58⟩, ⟨161, [], .slice sr2.ca sr2.cn sr2.cc⟩, ⟨162, [], .int .i64 ((sr2.cn : Nat) : Int)⟩, ⟨163, [], .int .i64 (((k5 : Nat) : Int) + 1)⟩]) (by rw [List.length_append]; rfl) ?_
                refine N_heap (H' := ([(x, .cells #[.int .i64 ((keepM Mr ls nn).room), .slice sr2.ba sr2.bn sr2.bc, .slice sr2.na sr2.nn sr2.nc, .slice sr2.ka sr2.kn sr2.kc, .slice sr2.ca sr2.cn sr2.cc, .bool ((keepM Mr ls nn).fails), .bool ((keepM Mr ls nn).once), .int .i64 ((keepM Mr ls nn).calls)] 86 (0, 0))] :: sr2.bg :: sr2.cg :: g55 :: (sr2.Z ++ H))) (fun w h => ((((((h.front (j := 5) rfl).front (j := 5) rfl).front (j := 5) rfl).front (j := 5) rfl).erase 5).erase 4)) ?_
                refine N_heq (H' := ([(x, .cells #[.int .i64 ((keepM Mr ls nn).room), .slice sr2.ba sr2.bn sr2.bc, .slice sr2.na sr2.nn sr2.nc, .slice sr2.ka sr2.kn sr2.kc, .slice sr2.ca sr2.cn sr2.cc, .bool ((keepM Mr ls nn).fails), .bool ((keepM Mr ls nn).once), .int .i64 ((keepM Mr ls nn).calls)] 86 (0, 0))] :: sr2.bg :: sr2.cg :: g55 :: (sr2.Z ++ H))) rfl ?_
                refine N_round (s' := (k5 + 1, rs ++ [(sr2.cs.getD k5 default)], a57, cap58, g55)) [0, 1, 4, 9, 16, 161, 162, 163] (by kernel_rfl) rfl ⟨(by omega), (by rw [filt_put (by omega) hdn5, ← hrs]), (own_chput hO56), (by rw [List.length_append]; show rs.length + 1 ≤ _; omega)⟩ (by omega)
              ·
                have hdn5 := hc52
                refine G_skip ?_
                refine N_block ?_
                refine N_then ?_
                have hw62 : IntKind.wrap .i64 (((k5 : Nat) : Int) + 1) = ((k5 : Nat) : Int) + 1 := w64 (by omega) (by omega)
                refine G_pure (E' := [⟨0, [], pt x⟩, ⟨1, [], .slice la l.length lc⟩, ⟨4, [], .int .i64 (((u2 : Nat) : Int) + 1)⟩, ⟨9, [], .string ls⟩, ⟨16, [], .slice ra rs.length rc⟩, ⟨161, [], .slice sr2.ca sr2.cn sr2.cc⟩, ⟨162, [], .int .i64 ((sr2.cn : Nat) : Int)⟩, ⟨163, [], .int .i64 (((k5 : Nat) : Int) + 1)⟩]) [0, 0] [0, 1, 4, 9, 16, 161, 162, 163] rfl (Eq.trans (b := some [⟨0, [], pt x⟩, ⟨1, [], .slice la l.length lc⟩, ⟨4, [], .int .i64 (((u2 : Nat) : Int) + 1)⟩, ⟨9, [], .string ls⟩, ⟨16, [], .slice ra rs.length rc⟩, ⟨161, [], .slice sr2.ca sr2.cn sr2.cc⟩, ⟨162, [], .int .i64 ((sr2.cn : Nat) : Int)⟩, ⟨163, [], .int .i64 (IntKind.wrap .i64 (((k5 : Nat) : Int) + 1))⟩]) (by kernel_rfl) (by simp only [hw62])) ?_
                refine N_heap (H' := ([(x, .cells #[.int .i64 ((keepM Mr ls nn).room), .slice sr2.ba sr2.bn sr2.bc, .slice sr2.na sr2.nn sr2.nc, .slice sr2.ka sr2.kn sr2.kc, .slice sr2.ca sr2.cn sr2.cc, .bool ((keepM Mr ls nn).fails), .bool ((keepM Mr ls nn).once), .int .i64 ((keepM Mr ls nn).calls)] 86 (0, 0))] :: sr2.bg :: sr2.cg :: gr :: (sr2.Z ++ H))) (fun w h => (((((h.front (j := 4) rfl).front (j := 4) rfl).front (j := 4) rfl).front (j := 4) rfl).erase 4)) ?_
                refine N_heq (H' := ([(x, .cells #[.int .i64 ((keepM Mr ls nn).room), .slice sr2.ba sr2.bn sr2.bc, .slice sr2.na sr2.nn sr2.nc, .slice sr2.ka sr2.kn sr2.kc, .slice sr2.ca sr2.cn sr2.cc, .bool ((keepM Mr ls nn).fails), .bool ((keepM Mr ls nn).once), .int .i64 ((keepM Mr ls nn).calls)] 86 (0, 0))] :: sr2.bg :: sr2.cg :: gr :: (sr2.Z ++ H))) rfl ?_
                refine N_round (s' := (k5 + 1, rs, ra, rc, gr)) [0, 1, 4, 9, 16, 161, 162, 163] (by kernel_rfl) rfl ⟨(by omega), (by rw [filt_skip (by omega) hdn5, ← hrs]), hO5, (by show rs.length ≤ _; omega)⟩ (by omega)
            ·
              replace hc50 := of_decide_eq_false hc50
              refine G_exit ?_
              refine N_then_exit ?_
              refine N_then_exit ?_
              refine N_block_exit ?_
              refine N_then ?_
              refine G_region ?_
              refine GL_pure (E' := [⟨179, [], .pointer (some ⟨x, 4, none⟩)⟩, ⟨177, [], .slice ra rs.length rc⟩, ⟨0, [], pt x⟩, ⟨1, [], .slice la l.length lc⟩, ⟨4, [], .int .i64 (((u2 : Nat) : Int) + 1)⟩]) [0, 0, 0, 0] (by kernel_rfl) (j := 4) rfl ?_
              refine GL_store (i := 4) (ch := []) (b := x) (off := 4) (v := .slice ra rs.length rc) (c := #[.int .i64 ((keepM Mr ls nn).room), .slice sr2.ba sr2.bn sr2.bc, .slice sr2.na sr2.nn sr2.nc, .slice sr2.ka sr2.kn sr2.kc, .slice sr2.ca sr2.cn sr2.cc, .bool ((keepM Mr ls nn).fails), .bool ((keepM Mr ls nn).once), .int .i64 ((keepM Mr ls nn).calls)]) (c' := #[.int .i64 ((keepM Mr ls nn).room), .slice sr2.ba sr2.bn sr2.bc, .slice sr2.na sr2.nn sr2.nc, .slice sr2.ka sr2.kn sr2.kc, .slice ra rs.length rc, .bool ((keepM Mr ls nn).fails), .bool ((keepM Mr ls nn).once), .int .i64 ((keepM Mr ls nn).calls)]) (j := 0) (m := 0) (H' := ([(x, .cells #[.int .i64 ((keepM Mr ls nn).room), .slice sr2.ba sr2.bn sr2.bc, .slice sr2.na sr2.nn sr2.nc, .slice sr2.ka sr2.kn sr2.kc, .slice ra rs.length rc, .bool ((keepM Mr ls nn).fails), .bool ((keepM Mr ls nn).once), .int .i64 ((keepM Mr ls nn).calls)] 86 (0, 0))] :: sr2.bg :: sr2.cg :: gr :: (sr2.Z ++ H))) rfl rfl (by kernel_rfl) (by kernel_rfl) (by kernel_rfl) (by kernel_rfl) (by kernel_rfl) (by kernel_rfl) (by kernel_rfl) rfl rfl (Nat.le_of_ble_eq_true rfl) (fun _ _ => thaw0) (by kernel_rfl) (by kernel_rfl) ?_
              refine GL_fin (E' := [⟨0, [], pt x⟩, ⟨1, [], .slice la l.length lc⟩, ⟨4, [], .int .i64 (((u2 : Nat) : Int) + 1)⟩]) [] [0, 1, 4] rfl (by kernel_rfl) ?_
              refine N_block ?_
              refine N_heap (H' := ([(x, .cells #[.int .i64 ((keepM Mr ls nn).room), .slice sr2.ba sr2.bn sr2.bc, .slice sr2.na sr2.nn sr2.nc, .slice sr2.ka sr2.kn sr2.kc, .slice ra rs.length rc, .bool ((keepM Mr ls nn).fails), .bool ((keepM Mr ls nn).once), .int .i64 ((keepM Mr ls nn).calls)] 86 (0, 0))] :: sr2.bg :: gr :: (sr2.Z ++ H))) (fun w h => ((((h.front (j := 3) rfl).front (j := 2) rfl).front (j := 2) rfl).erase 3)) ?_
              refine N_heq (H' := ([(x, .cells #[.int .i64 ((keepM Mr ls nn).room), .slice sr2.ba sr2.bn sr2.bc, .slice sr2.na sr2.nn sr2.nc, .slice sr2.ka sr2.kn sr2.kc, .slice ra rs.length rc, .bool ((keepM Mr ls nn).fails), .bool ((keepM Mr ls nn).once), .int .i64 ((keepM Mr ls nn).calls)] 86 (0, 0))] :: sr2.bg :: gr :: (sr2.Z ++ H))) rfl ?_
              refine N_round (s' := ({ sr2 with cn := rs.length, ca := ra, cc := rc, cg := gr, cs := rs }, (dropM (keepM Mr ls nn) ls), u2 + 1)) [0, 1, 4] (by kernel_rfl) rfl ⟨(ok_rdrop hsr2 (by rw [hrs, List.take_of_length_le (by omega)]) hO5), (crd_step hcr hmm.1 hmm.2 (by rw [hnn5, hcm]))⟩ (by show (dropM _ _).changes.length < Mr.changes.length; rw [keep_drop]; exact drop_less hmm.1)
    ·
      replace hc33 := of_decide_eq_false hc33
      have h0 : Mr.changes = [] := List.eq_nil_of_length_eq_zero (by omega)
      refine G_exit ?_
      refine N_then_exit ?_
      refine N_then_exit ?_
      refine N_block_exit ?_
      refine N_then ?_
      refine G_seq ?_
      refine G_region ?_
      refine GL_pure (E' := [⟨180, [], pt x⟩, ⟨0, [], pt x⟩]) [0] (by kernel_rfl) (j := 1) rfl ?_
      refine GL_buildSlice (i := 1) (ch := []) (e := 94) (l := []) (c := []) rfl rfl (by kernel_rfl) (by kernel_rfl) (by kernel_rfl) (by kernel_rfl) (by kernel_rfl) (fun b63 => ?_)
      refine GL_pure (E' := [⟨184, [], .pointer (some ⟨x, 3, none⟩)⟩, ⟨181, [], .slice (some ⟨b63, 0, none⟩) 0 0⟩, ⟨180, [], pt x⟩, ⟨0, [], pt x⟩]) [0, 0, 0] (by kernel_rfl) (j := 5) rfl ?_
      refine GL_load (i := 5) (ch := []) (b := x) (off := 3) (v := .slice sr.ka sr.kn sr.kc) rfl rfl (by kernel_rfl) (by kernel_rfl) (by kernel_rfl) (by kernel_rfl) (by kernel_rfl) (At.grp 1 0 rfl rfl) rfl ?_
      refine GL_append (i := 6) (ch := []) (t := 83) (tx := 83) (e := 94) (inf := Try.t94) (s := .slice (some ⟨b63, 0, none⟩) 0 0) (x := .slice sr.ka sr.kn sr.kc) (n := 0) (m := sr.kn) (j := 0) (cs := []) (news := (nmC Mr.kept)) (g := [(b63, .cells #[] 94 (0, 0))]) (S := (inZ sr.Z)) rfl rfl rfl rfl (by kernel_rfl) (by kernel_rfl) (by kernel_rfl) rfl rfl (.inl ⟨94, (by kernel_rfl)⟩) (fun ⟨_, h⟩ => by cases h) (fun _ => ⟨94, (by kernel_rfl)⟩) (by kernel_rfl) (by kernel_rfl) (by kernel_rfl) rfl (Own.lit rfl) (SrcOf.slice _ _ _ _ hsr.kept (by first | exact rd_none hsr.kept hsr.kn | exact (fun h => by cases h))) (fun y o h => (At.cons (At.cons (At.cons (At.cons (at_inZ h)))))) (by first | rfl | (rw [nmC_len, hsr.kn]; rfl)) (by first | exact nmC_one _ | exact (by intro u hu; simp only [List.mem_cons, List.not_mem_nil, or_false] at hu; rcases hu with rfl | rfl <;> rfl)) (by omega) (by show (0 + sr.kn) * 24 ≤ 140737488355328; omega) (fun v64 g65 hO66 => ?_)
      obtain ⟨a67, cap68, rfl, hcap69, hrd70⟩ := hO66.shape
      refine GL_pure (E' := [⟨188, [], .pointer (some ⟨x, 2, none⟩)⟩, ⟨186, [], .slice a67 (0 + sr.kn) cap68⟩, ⟨0, [], pt x⟩]) [0, 0] (by kernel_rfl) (j := 9) rfl ?_
      refine GL_store (i := 9) (ch := []) (b := x) (off := 2) (v := .slice a67 (0 + sr.kn) cap68) (c := #[.int .i64 Mr.room, .slice sr.ba sr.bn sr.bc, .slice sr.na sr.nn sr.nc, .slice sr.ka sr.kn sr.kc, .slice sr.ca sr.cn sr.cc, .bool Mr.fails, .bool Mr.once, .int .i64 Mr.calls]) (c' := #[.int .i64 Mr.room, .slice sr.ba sr.bn sr.bc, .slice a67 (0 + sr.kn) cap68, .slice sr.ka sr.kn sr.kc, .slice sr.ca sr.cn sr.cc, .bool Mr.fails, .bool Mr.once, .int .i64 Mr.calls]) (j := 1) (m := 0) (H' := (g65 :: [(x, .cells #[.int .i64 Mr.room, .slice sr.ba sr.bn sr.bc, .slice a67 (0 + sr.kn) cap68, .slice sr.ka sr.kn sr.kc, .slice sr.ca sr.cn sr.cc, .bool Mr.fails, .bool Mr.once, .int .i64 Mr.calls] 86 (0, 0))] :: sr.bg :: sr.cg :: (sr.Z ++ H))) rfl rfl (by kernel_rfl) (by kernel_rfl) (by kernel_rfl) (by kernel_rfl) (by kernel_rfl) (by kernel_rfl) (by kernel_rfl) rfl rfl (Nat.le_of_ble_eq_true rfl) (fun _ _ => thaw0) (by kernel_rfl) (by kernel_rfl) ?_
      refine GL_fin (E' := [⟨0, [], pt x⟩]) [] [0] rfl (by kernel_rfl) ?_
      refine N_then ?_
      refine G_region ?_
      refine GL_pure (E' := [⟨191, [], .pointer (some ⟨x, 5, none⟩)⟩]) [0, 0, 0] (by kernel_rfl) (j := 3) rfl ?_
      refine GL_store (i := 3) (ch := []) (b := x) (off := 5) (v := .bool false) (c := #[.int .i64 Mr.room, .slice sr.ba sr.bn sr.bc, .slice a67 (0 + sr.kn) cap68, .slice sr.ka sr.kn sr.kc, .slice sr.ca sr.cn sr.cc, .bool Mr.fails, .bool Mr.once, .int .i64 Mr.calls]) (c' := #[.int .i64 Mr.room, .slice sr.ba sr.bn sr.bc, .slice a67 (0 + sr.kn) cap68, .slice sr.ka sr.kn sr.kc, .slice sr.ca sr.cn sr.cc, .bool false, .bool Mr.once, .int .i64 Mr.calls]) (j := 1) (m := 0) (H' := (g65 :: [(x, .cells #[.int .i64 Mr.room, .slice sr.ba sr.bn sr.bc, .slice a67 (0 + sr.kn) cap68, .slice sr.ka sr.kn sr.kc, .slice sr.ca sr.cn sr.cc, .bool false, .bool Mr.once, .int .i64 Mr.calls] 86 (0, 0))] :: sr.bg :: sr.cg :: (sr.Z ++ H))) rfl rfl (by kernel_rfl) (by kernel_rfl) (by kernel_rfl) (by kernel_rfl) (by kernel_rfl) (by kernel_rfl) (by kernel_rfl) rfl rfl (Nat.le_of_ble_eq_true rfl) (fun _ _ => thaw0) (by kernel_rfl) (by kernel_rfl) ?_
      refine GL_fin (E' := []) [] [] rfl (by kernel_rfl) ?_
      refine N_heap (H' := ([(x, .cells #[.int .i64 Mr.room, .slice sr.ba sr.bn sr.bc, .slice a67 (0 + sr.kn) cap68, .slice sr.ka sr.kn sr.kc, .slice sr.ca sr.cn sr.cc, .bool false, .bool Mr.once, .int .i64 Mr.calls] 86 (0, 0))] :: sr.bg :: sr.cg :: g65 :: (sr.Z ++ H))) (fun w h => (((h.front (j := 3) rfl).front (j := 3) rfl).front (j := 3) rfl)) ?_
      refine N_ret [] [] rfl (by kernel_rfl) rfl ?_
      have e := crd_end hcr h0
      rw [← e]
      exact ⟨rfl, _, ok_rend hsr (by omega) (own_rd hO66), rfl⟩
end Go.Proofs.Ytbmieiffboenbaa
namespace Go.Vf
open Go.Sw Go.Proofs.Ytbmieiffboenbaa
def doM (M : DM) (o : OpV) : Int × DM :=
  if kindU o = 0 then writeM M o.path o.b else if kindU o = 1 then appendM M o.path o.b else if kindU o = 2 then renameM M o.path o.to
  else if kindU o = 3 then removeM M o.path else if kindU o = 4 then syncM M o.path else if kindU o = 5 then syncDirM M o.path
  else if kindU o = 6 then (0, failM M o.n (decide (((o.b.size : Nat) : Int) > 0))) else (0, crashM M o.k)
structure ScrI (s w j : Nat) (M : DM) : Prop where
  bodies : M.bodies.length ≤ j
  size : ∀ B ∈ M.bodies, B.now.size ≤ s ∧ B.kept.size ≤ B.now.size
  names : M.names.length ≤ w
  kept : M.kept.length + addsC M.changes ≤ w
  changes : M.changes.length ≤ w
  calls : -9223372036854775808 ≤ M.calls ∧ M.calls ≤ 9223372036854775807
  rn : RightL M.names
  rk : RightL M.kept
  rc : ∀ c ∈ M.changes, RightL c.l ∧ c.dir.size ≤ 161 ∧ c.l.length ≤ 2
def Scr (z i : Nat) (M : DM) : Prop := ScrI (z * i) i i M
theorem ScrI.small {s w j : Nat} {M : DM} (h : ScrI s w j M) (hs : s ≤ 10000000) (hw : w ≤ 10000) (hj : j ≤ 10000) : SmallR M := by
  refine ⟨⟨by have := h.bodies; omega, fun B hB => ⟨Nat.le_trans (h.size B hB).1 hs, (h.size B hB).2⟩, by have := h.names; omega, by have := h.changes; omega, h.calls, fun x hx => by have := right_size (h.rn x hx); omega, fun c hc => by have := (h.rc c hc).2.1; omega⟩, by have := h.kept; omega, fun c hc => (h.rc c hc).2.2⟩
theorem Scr.small {z i : Nat} {M : DM} (h : Scr z i M) (hi : i ≤ 100) (hz : z ≤ 5000) : SmallR M :=
  ScrI.small h (by have := Nat.mul_le_mul hz hi; omega) (by omega) (by omega)
theorem ScrI.up {s s' w w' j j' : Nat} {M : DM} (h : ScrI s w j M) (hs : s ≤ s') (hw : w ≤ w') (hj : j ≤ j') : ScrI s' w' j' M :=
  ⟨Nat.le_trans h.bodies hj, fun B hB => ⟨Nat.le_trans (h.size B hB).1 hs, (h.size B hB).2⟩, Nat.le_trans h.names hw, Nat.le_trans h.kept hw, Nat.le_trans h.changes hw, h.calls, h.rn, h.rk, h.rc⟩
theorem scr_call {s w j : Nat} {M : DM} (h : ScrI s w j M) (r : Bool) : ScrI s w j (callM M r) :=
  ⟨h.bodies, h.size, h.names, h.kept, h.changes, callS_rng h.calls, h.rn, h.rk, h.rc⟩
theorem scr_change {s w j : Nat} {M : DM} (h : ScrI s w j M) {d : ByteArray} {l : List Nm} (hl : adds l ≤ 1) (hll : l.length ≤ 2) (hr : RightL l) (hd : d.size ≤ 161) : ScrI s (w + 1) j (changeM M d l) := by
  refine ⟨h.bodies, h.size, ?_, ?_, ?_, h.calls, right_apply h.rn hr, h.rk, fun c hc => ?_⟩
  · have h1 := apply_len l M.names
    have h2 := h.names
    show (applyN M.names l).length ≤ _
    omega
  · have h2 := h.kept
    show M.kept.length + addsC (M.changes ++ [⟨d, l⟩]) ≤ _
    rw [addsC_app]
    have : addsC [⟨d, l⟩] = adds l := by simp [addsC]
    omega
  · have h2 := h.changes
    show (M.changes ++ [_]).length ≤ _
    rw [List.length_append]; simp; omega
  · rcases List.mem_append.1 (show c ∈ M.changes ++ [⟨d, l⟩] from hc) with hc | hc
    · exact h.rc c hc
    · rw [List.mem_singleton.1 hc]; exact ⟨hr, hd, hll⟩
theorem scr_body {s w j : Nat} {M : DM} (h : ScrI s w j M) {b : ByteArray} (hb : b.size ≤ s) : ScrI s w (j + 1) { M with bodies := M.bodies ++ [⟨b, ByteArray.mk #[]⟩] } :=
  ⟨by have := h.bodies; show (M.bodies ++ [_]).length ≤ _; rw [List.length_append]; simp; omega, fun B hB => by
    rcases List.mem_append.1 (show B ∈ M.bodies ++ [⟨b, ByteArray.mk #[]⟩] from hB) with hB | hB
    · exact h.size B hB
    · rw [List.mem_singleton.1 hB]; exact ⟨hb, Nat.zero_le _⟩, h.names, h.kept, h.changes, h.calls, h.rn, h.rk, h.rc⟩
theorem scr_at {s w j : Nat} {M : DM} (h : ScrI s w j M) (k : Int) : (bodyAt M k).now.size ≤ s ∧ (bodyAt M k).kept.size ≤ (bodyAt M k).now.size := by
  unfold bodyAt
  rw [List.getD_eq_getElem?_getD]
  by_cases hk : k.toNat < M.bodies.length
  · rw [List.getElem?_eq_getElem hk]; exact h.size _ (List.getElem_mem hk)
  · rw [List.getElem?_eq_none (by omega)]; exact ⟨Nat.zero_le _, Nat.zero_le _⟩
theorem scr_set {s w j : Nat} {M : DM} (h : ScrI s w j M) (k : Int) {B : Body} (hB : B.now.size ≤ s ∧ B.kept.size ≤ B.now.size) : ScrI s w j (setBody M k B) :=
  ⟨by show (M.bodies.set _ _).length ≤ _; rw [List.length_set]; exact h.bodies, fun x hx => by
    rcases List.mem_or_eq_of_mem_set (show x ∈ M.bodies.set k.toNat B from hx) with hx | rfl
    · exact h.size x hx
    · exact hB, h.names, h.kept, h.changes, h.calls, h.rn, h.rk, h.rc⟩
theorem Scr.stay {z i : Nat} {M : DM} (h : Scr z i M) : Scr z (i + 1) M := ScrI.up h (Nat.mul_le_mul_left _ (by omega)) (by omega) (by omega)
theorem Scr.mono {z i k : Nat} {M : DM} (h : Scr z i M) (hk : i ≤ k) : Scr z k M := ScrI.up h (Nat.mul_le_mul_left _ hk) hk hk
theorem Scr.call_ {z i : Nat} {M : DM} (h : Scr z i M) (r : Bool) : Scr z i (callM M r) := scr_call h r
theorem sum1 (z i : Nat) : z * (i + 1) = z * i + z := Nat.mul_succ z i
theorem scr_write {z i : Nat} {M : DM} (h : Scr z i M) (p : ByteArray) {b : ByteArray} (hb : b.size ≤ z) : Scr z (i + 1) (writeM M p b).2 := by
  have hc := (h.call_ (rightB p)).stay
  by_cases he : errM M (rightB p) = 0
  · have hr := err_right he
    by_cases hroom : (usedM M : Int) - (wasM M p : Int) + (b.size : Int) > M.room
    · rw [writeM_full he hroom]; exact hc
    · rw [writeM_ok he hroom]
      exact scr_change (w := i) (scr_body (ScrI.up (h.call_ (rightB p)) (by rw [sum1]; omega) (Nat.le_refl _) (Nat.le_refl _)) (b := b) (by rw [sum1]; omega)) (by unfold adds; exact Nat.le_trans (List.length_filter_le _ _) (Nat.le_refl 1)) (Nat.le_of_ble_eq_true rfl) (fun x hx => by rw [List.mem_singleton.1 hx]; exact hr) (by have := dir_size p; have := right_size hr; omega)
  · rw [writeM_err he]; exact hc
theorem scr_append {z i : Nat} {M : DM} (h : Scr z i M) (p : ByteArray) {b : ByteArray} (hb : b.size ≤ z) : Scr z (i + 1) (appendM M p b).2 := by
  have hc := (h.call_ (rightB p)).stay
  by_cases he : errM M (rightB p) = 0
  · cases hl : lookN M.names p with
    | none => rw [appendM_no he hl]; exact hc
    | some k =>
      by_cases hroom : (usedM M : Int) + (b.size : Int) > M.room
      · rw [appendM_full he hl hroom]; exact hc
      · rw [appendM_ok he hl hroom]
        obtain ⟨s1, s2⟩ := scr_at h k
        exact scr_set hc k (by simp only [ByteArray.size_append]; rw [sum1]; omega)
  · rw [appendM_err he]; exact hc
theorem scr_rename {z i : Nat} {M : DM} (h : Scr z i M) (p q : ByteArray) : Scr z (i + 1) (renameM M p q).2 := by
  have hc := (h.call_ (renR p q)).stay
  by_cases he : errM M (renR p q) = 0
  · have hr := err_right he
    have hpq : rightB p = true ∧ rightB q = true := by
      unfold renR at hr
      simp only [Bool.and_eq_true] at hr
      exact hr.1
    cases hl : lookN M.names p with
    | none => rw [renameM_no he hl]; exact hc
    | some k =>
      cases hs : p == q with
      | true => rw [renameM_same he hl hs]; exact hc
      | false =>
        rw [renameM_ok he hl hs]
        exact scr_change (w := i) (ScrI.up (h.call_ (renR p q)) (by rw [sum1]; omega) (Nat.le_refl _) (by omega)) (by
          unfold adds
          rw [List.filter_cons, if_neg (by show ¬ decide ((0 : Int) ≤ -1) = true; decide)]
          exact Nat.le_trans (List.length_filter_le _ _) (Nat.le_refl 1)) (Nat.le_of_ble_eq_true rfl) (fun x hx => by
          rcases List.mem_cons.1 hx with rfl | hx
          · exact hpq.1
          · rw [List.mem_singleton.1 hx]; exact hpq.2) (by have := dir_size q; have := right_size hpq.2; omega)
  · rw [renameM_err he]; exact hc
theorem scr_remove {z i : Nat} {M : DM} (h : Scr z i M) (p : ByteArray) : Scr z (i + 1) (removeM M p).2 := by
  have hc := (h.call_ (rightB p)).stay
  by_cases he : errM M (rightB p) = 0
  · have hr := err_right he
    cases hl : lookN M.names p with
    | none => rw [removeM_no he hl]; exact hc
    | some k =>
      rw [removeM_ok he hl]
      exact scr_change (w := i) (ScrI.up (h.call_ (rightB p)) (by rw [sum1]; omega) (Nat.le_refl _) (by omega)) (by
        unfold adds
        rw [List.filter_cons, if_neg (by show ¬ decide ((0 : Int) ≤ -1) = true; decide)]
        exact Nat.zero_le 1) (Nat.le_of_ble_eq_true rfl) (fun x hx => by rw [List.mem_singleton.1 hx]; exact hr) (by have := dir_size p; have := right_size hr; omega)
  · rw [removeM_err he]; exact hc
theorem scr_sync {z i : Nat} {M : DM} (h : Scr z i M) (p : ByteArray) : Scr z (i + 1) (syncM M p).2 := by
  have hc := (h.call_ (rightB p)).stay
  by_cases he : errM M (rightB p) = 0
  · cases hl : lookN M.names p with
    | none => rw [syncM_no he hl]; exact hc
    | some k =>
      rw [syncM_ok he hl]
      obtain ⟨s1, s2⟩ := scr_at h.stay k
      exact scr_set hc k ⟨s1, Nat.le_refl _⟩
  · rw [syncM_err he]; exact hc
theorem scr_sdir {z i : Nat} {M : DM} (h : Scr z i M) (d : ByteArray) : Scr z (i + 1) (syncDirM M d).2 := by
  have hc := (h.call_ (dirR d)).stay
  by_cases he : errM M (dirR d) = 0
  · rw [syncDirM_ok he]
    have e1 := fold_len (chOf M.changes d) M.kept
    have e2 := addsC_split M.changes d
    have e3 : M.kept.length + addsC M.changes ≤ i + 1 := hc.kept
    have e4 : M.changes.length ≤ i + 1 := hc.changes
    have e5 := List.length_filter_le (fun c : Ch => !(d == c.dir)) M.changes
    refine ⟨hc.bodies, hc.size, hc.names, ?_, ?_, hc.calls, hc.rn, right_fold hc.rk fun x hx => ?_, fun c hm => hc.rc c (List.mem_filter.1 hm).1⟩
    · show ((chOf M.changes d).foldl applyN M.kept).length + addsC (M.changes.filter _) ≤ i + 1
      omega
    · show (M.changes.filter _).length ≤ i + 1
      omega
    · obtain ⟨c, hm, rfl⟩ := chOf_mem hx
      exact (hc.rc c hm).1
  · rw [syncDirM_err he]; exact hc
theorem scr_fail {z i : Nat} {M : DM} (h : Scr z i M) {n : Int} (hn : -9223372036854775808 ≤ n ∧ n ≤ 9223372036854775807) (o : Bool) : Scr z (i + 1) (failM M n o) := by
  have hc := h.stay
  refine ⟨hc.bodies, hc.size, hc.names, hc.kept, hc.changes, ?_, hc.rn, hc.rk, hc.rc⟩
  show -9223372036854775808 ≤ (if 0 > n then 0 else n) ∧ (if 0 > n then 0 else n) ≤ 9223372036854775807
  split <;> omega
theorem scr_crash {z i : Nat} {M : DM} (h : Scr z i M) (ks : List Int) : Scr z (i + 1) (crashM M ks) := by
  have hc := h.stay
  have hk := crashD_len (dirsOf M.changes) M.changes (crashB M.bodies ks).2 M.kept (dirs_nodup _)
  have h1 := hc.kept
  have hr : RightL (crashD M.changes (dirsOf M.changes) (crashB M.bodies ks).2 M.kept) := right_crash hc.rk fun c hm => (hc.rc c hm).1
  have hs := crashB_size (n := z * (i + 1)) (ks := ks) hc.size
  refine ⟨?_, fun B hB => ⟨(hs B hB).1, Nat.le_of_eq (hs B hB).2⟩, ?_, ?_, Nat.zero_le _, hc.calls, hr, hr, fun c hm => absurd hm List.not_mem_nil⟩
  · show (crashB M.bodies ks).1.length ≤ i + 1
    rw [crashB_len]; exact hc.bodies
  · show (crashD _ _ _ _).length ≤ i + 1
    omega
  · show (crashD M.changes (dirsOf M.changes) (crashB M.bodies ks).2 M.kept).length + 0 ≤ i + 1
    omega
theorem scr_new (z : Nat) (room : Int) : Scr z 0 (newM room) :=
  ⟨Nat.le_refl _, fun B hB => absurd hB List.not_mem_nil, Nat.le_refl _, Nat.le_refl _, Nat.le_refl _, by show (-9223372036854775808 : Int) ≤ 0 ∧ (0 : Int) ≤ 9223372036854775807; omega, fun x hx => absurd hx List.not_mem_nil, fun x hx => absurd hx List.not_mem_nil, fun c hc => absurd hc List.not_mem_nil⟩
theorem scr_do {z i : Nat} {M : DM} (h : Scr z i M) {o : OpV} (hb : o.b.size ≤ z) (hn : -9223372036854775808 ≤ o.n ∧ o.n ≤ 9223372036854775807) : Scr z (i + 1) (doM M o).2 := by
  unfold doM
  split
  · exact scr_write h _ hb
  split
  · exact scr_append h _ hb
  split
  · exact scr_rename h _ _
  split
  · exact scr_remove h _
  split
  · exact scr_sync h _
  split
  · exact scr_sdir h _
  split
  · exact scr_fail h hn _
  · exact scr_crash h _
end Go.Vf
namespace Go.Sw
open Go.RowKit
theorem Sat.dropMid {W0 : World} {K A L : List Grp} {w : World} (h : Sat W0 (K ++ (A ++ L)) w) : Sat W0 (K ++ L) w :=
  h.subl (by rw [List.flatten_append, List.flatten_append, List.flatten_append]; exact List.Sublist.append (List.Sublist.refl _) (List.sublist_append_right _ _))
theorem own_nil0 {et : TypeId} {sz : Nat} {v : Value} {g : Grp} {n : Nat} {cs : List Value} (h : Own et sz v g (0 + n) ([] ++ cs)) : Own et sz v g n cs := by simpa using h
end Go.Sw
namespace Go.Vf
open Go.Sw Go.RowKit Go.Proofs Go.Proofs.Ytbmieiffboenbaa
theorem front2_to {K A X H : List Grp} {W0 : World} {w : World} (hw : Sat W0 (K ++ (A ++ (X ++ H))) w) : Sat W0 (X ++ (K ++ (A ++ H))) w := sat_cnt hw fun _ x => by
  simp only [List.flatten_append, List.count_append]; omega
theorem front2_of {K A X H : List Grp} {W0 : World} {w : World} (hw : Sat W0 (X ++ (K ++ (A ++ H))) w) : Sat W0 (K ++ (A ++ (X ++ H))) w := sat_cnt hw fun _ x => by
  simp only [List.flatten_append, List.count_append]; omega
theorem is_front2 {f : FuncId} {args : Array Value} {W0 : World} {r : RS} {x : Nat} {N N' : DM} {v0 : Value} {K A H : List Grp} (h : Tri Try.prog f args W0 (r.G x N ++ (K ++ (A ++ H))) (IsR x N' v0 (K ++ (A ++ H)))) :
    Tri Try.prog f args W0 (K ++ (A ++ (r.G x N ++ H))) (fun v H' => v = v0 ∧ ∃ r' : RS, r'.ok N' ∧ H' = K ++ (A ++ (r'.G x N' ++ H))) :=
  Tri.heap (fun _ hw => front2_to hw) (Tri.post h fun v H1 ⟨hv, s', hs, hH⟩ => ⟨_, ⟨hv, s', hs, rfl⟩, fun w hw => by rw [hH] at hw; exact front2_of hw⟩)
theorem is_front2q {f : FuncId} {args : Array Value} {W0 : World} {r : RS} {x : Nat} {N : DM} {v0 : Value} {K A H : List Grp} (h : Tri Try.prog f args W0 (r.G x N ++ (K ++ (A ++ H))) (fun v H' => v = v0 ∧ H' = r.G x N ++ (K ++ (A ++ H)))) :
    Tri Try.prog f args W0 (K ++ (A ++ (r.G x N ++ H))) (fun v H' => v = v0 ∧ H' = K ++ (A ++ (r.G x N ++ H))) :=
  Tri.heap (fun _ hw => front2_to hw) (Tri.post h fun v H1 ⟨hv, hH⟩ => ⟨_, ⟨hv, rfl⟩, fun w hw => by rw [hH] at hw; exact front2_of hw⟩)
theorem xList {r : RS} {N : DM} {L : List ByteArray} (hr : r.ok N) (hm : SmallR N) (x : Nat) (dir : ByteArray) (K A : List Grp) (W0 : World) (H : List Grp) (he : listM N dir = L) :
    Tri Try.prog 30 #[.pointer (some ⟨x, 0, none⟩), .string dir] W0 (K ++ (A ++ (r.G x N ++ H))) (fun v H' => ∃ a c g, v = .slice a L.length c ∧ L.length ≤ c ∧ Rd (inG g) a (strs L) ∧ H' = g :: (K ++ (A ++ (r.G x N ++ H)))) := by
  subst he
  refine Tri.heap (fun _ hw => front2_to hw) (Tri.post (rList x r N hr hm dir W0 (K ++ (A ++ H))) fun v H1 ⟨g, ho, hH⟩ => ?_)
  obtain ⟨a, c, hv, hc, hrd⟩ := ho.shape
  refine ⟨_, ⟨a, c, g, hv, hc, hrd, rfl⟩, fun w hw => ?_⟩
  rw [hH] at hw
  refine sat_cnt hw fun _ x => ?_
  simp only [List.flatten_cons, List.flatten_append, List.count_append]
  omega
theorem dReadO {s : DS} {M : DM} {b : ByteArray} {e : Int} (h : s.ok M) (hm : ∀ B ∈ M.bodies, B.now.size ≤ 10000000) (d : Nat) (path : ByteArray) (K : List Grp) (W0 : World) (H : List Grp) (he : readM M path = (b, e)) :
    Tri Try.prog 19 #[.pointer (some ⟨d, 0, none⟩), .string path] W0 (K ++ (s.G d M ++ H)) (fun v H' => ∃ a c g, v = .tuple #[.slice a b.size c, .int .i64 e] ∧ Own 5 1 (.slice a b.size c) g b.size (u8s b.data.toList) ∧ H' = g :: (K ++ (s.G d M ++ H))) := by
  have := cRead h hm d path W0 (K ++ H)
  rw [he] at this
  refine Tri.heap (fun _ hw => front_to hw) (Tri.post this fun v H1 ⟨x, g, hv, ho, hH⟩ => ?_)
  obtain ⟨a, c, rfl, hc, hr⟩ := ho.shape
  refine ⟨_, ⟨a, c, g, hv, ho, rfl⟩, fun w hw => ?_⟩
  rw [hH] at hw
  refine sat_cnt hw fun _ x => ?_
  simp only [List.flatten_cons, List.flatten_append, List.count_append]
  omega
theorem own_sh {a : Option Addr} {n c : Nat} {g : Grp} {cs : List Value} (h : Own 5 1 (.slice a n c) g n cs) : Sh a n c := by
  obtain ⟨hl, ⟨he, _, hn⟩ | ⟨b, cap, junk, he, _, hc, _⟩⟩ := h
  · injection he with e1 e2 e3; exact .inl ⟨e1, e2, e3⟩
  · injection he with e1 e2 e3; exact .inr (.inr ⟨b, 0, e1⟩)
theorem own_bytesV {W0 : World} {K H : List Grp} {a : Option Addr} {c : Nat} {g : Grp} {b : ByteArray} (h : Own 5 1 (.slice a b.size c) g b.size (u8s b.data.toList)) (j : Nat) (hj : (K ++ H)[j]? = some g) : BytesV W0 (K ++ H) (.slice a b.size c) b :=
  ⟨a, c, inG g, rfl, own_sh h, own_rd h, at_inG j hj⟩
theorem u8z (l : List UInt8) : u8s l = (l.map fun b => (b.toNat : Int)).map (Value.int .u8) := by
  unfold u8s
  rw [List.map_map]; rfl
theorem own_z {a : Option Addr} {n c : Nat} {g : Grp} {l : List UInt8} (h : Own 5 1 (.slice a n c) g n (u8s l)) : Own 5 1 (.slice a n c) g n ((l.map fun b => (b.toNat : Int)).map (Value.int .u8)) := by rw [← u8z]; exact h
theorem zs_at {zs : List Int} {k : Nat} (h : k < zs.length) : (zs.map (Value.int .u8))[k]? = some (.int .u8 (zs.getD k 0)) := by
  rw [List.getElem?_map, List.getElem?_eq_getElem h, List.getD_eq_getElem?_getD, List.getElem?_eq_getElem h]; rfl
theorem zs_set {zs : List Int} {k : Nat} {v : Int} : (zs.map (Value.int .u8)).set k (.int .u8 v) = (zs.set k v).map (Value.int .u8) := by rw [List.map_set]
theorem zs_ne {zs : List Int} {k : Nat} (h : k < zs.length) : zs.map (Value.int .u8) ≠ [] := by
  intro e
  rw [List.map_eq_nil_iff] at e
  rw [e] at h; simp at h
theorem refSplit2 (s : ByteArray) (hs : s.size ≤ 9223372036854775807) (W0 : World) (H : List Grp) : Tri Try.prog 28 #[.string s] W0 H (fun v H' => (∃ y, v = .tuple #[.string (dirB s), .string y]) ∧ H' = H) :=
  Tri.post (refSplit s hs W0 H) fun v H1 ⟨hv, hH⟩ => ⟨H1, ⟨by
    rw [hv]
    unfold dirB
    split
    · exact ⟨_, rfl⟩
    · exact ⟨_, rfl⟩, hH⟩, fun _ h => h⟩
theorem ba_none {S : Nat → Obj → Prop} {W0 : World} {H : List Grp} {o : OpV} (h : OpOk S W0 H o) (hn : o.ba = none) : o.b.size = 0 := by
  rcases h.b.sh with ⟨_, h0, _⟩ | ⟨ad, h1, _⟩ | ⟨k, off, h1⟩
  · exact h0
  · rw [hn] at h1; cases h1
  · rw [hn] at h1; cases h1
end Go.Vf
namespace Go.Proofs.Ytbmieiffboenbaa
open Go.Sw Go.Lib Go.Vf Go.RowKit
set_option maxRecDepth 4000 in
set_option maxHeartbeats 1000000 in
theorem vFirst  (W0 : World) (H : List Grp) : Tri Try.prog 9 #[] W0 H (fun v H' => v = .bool true ∧ ∃ G, H' = G ++ H) := by
  refine Tri_of (args := []) (n := 68) Try.func9 rfl rfl (Nat.le_of_ble_eq_true rfl) ?_
  refine G_seq ?_
  refine G_pure (E' := []) [0] [] rfl (by kernel_rfl) ?_
  refine N_then ?_
  refine G_seq ?_
  refine G_region ?_
  refine GL_call (i := 0) (ch := []) (f := 12) (fst := #[]) (caps := #[]) (vs := [.int .i64 100]) rfl rfl rfl (by kernel_rfl) (by kernel_rfl) Try.func12 rfl rfl (by kernel_rfl) (by kernel_rfl) (chSure_of (by kernel_rfl)) (dNew 100 (M := (newM 100)) _ _ rfl) ?_
  rintro v H' ⟨d1, rfl, s1, hs1, rfl⟩
  refine GL_fin (E' := [⟨1, [], pt d1⟩]) [0] [1] rfl (by kernel_rfl) ?_
  refine N_then ?_
  refine G_seq ?_
  refine G_seq ?_
  refine G_region ?_
  refine GL_pure (E' := [⟨8, [(7, false)], pt d1⟩, ⟨7, [], .bool false⟩, ⟨1, [], pt d1⟩]) [0, 0, 0, 0] (by kernel_rfl) (j := 4) rfl ?_
  refine GL_buildSlice (i := 4) (ch := [(7, false)]) (e := 5) (l := [(0, .int .u8 120), (1, .int .u8 121)]) (c := [.int .u8 120, .int .u8 121]) rfl rfl (by kernel_rfl) (by kernel_rfl) (by kernel_rfl) (by kernel_rfl) (by kernel_rfl) (fun b2 => ?_)
  refine GL_sameBytes (i := 5) (ch := [(7, false)]) (t := 24) (e := 5) (b := b2) (off := 0) (l := 2) (cap := 2) (j := 0) (m := 0) rfl rfl (by kernel_rfl) (by kernel_rfl) (by kernel_rfl) (by kernel_rfl) (by kernel_rfl) (by kernel_rfl) rfl rfl (by rfl) ?_
  refine GL_call (i := 6) (ch := [(7, false)]) (f := 13) (fst := #[]) (caps := #[]) (vs := [pt d1, .string (ByteArray.mk #[97]), .slice (some ⟨b2, 0, none⟩) 2 2]) rfl rfl rfl (by kernel_rfl) (by kernel_rfl) Try.func13 rfl rfl (by kernel_rfl) (by kernel_rfl) (chSure_of (by kernel_rfl)) (dWrite hs1 fs0 d1 (ByteArray.mk #[97]) fxy (by decide) (by decide) [[(b2, .cells #[.int .u8 120, .int .u8 121] 5 (2, 2 + 1))]] _ H ⟨some ⟨b2, 0, none⟩, 2, inG [(b2, .cells #[.int .u8 120, .int .u8 121] 5 (2, 2 + 1))], rfl, .inr (.inr ⟨b2, 0, rfl⟩), (Rd.lit (c := [.int .u8 120, .int .u8 121])), (at_inG 0 rfl)⟩ f_write1) ?_
  rintro v H' ⟨rfl, s2, hs2, rfl⟩
  refine GL_pure (E' := [⟨15, [(14, false)], pt d1⟩, ⟨14, [], .bool false⟩, ⟨1, [], pt d1⟩]) [0, 3, 0, 0] (by kernel_rfl) (j := 11) rfl ?_
  refine GL_call (i := 11) (ch := [(14, false)]) (f := 14) (fst := #[]) (caps := #[]) (vs := [pt d1, .string (ByteArray.mk #[97])]) rfl rfl rfl (by kernel_rfl) (by kernel_rfl) Try.func14 rfl rfl (by kernel_rfl) (by kernel_rfl) (chSure_of (by kernel_rfl)) (dSync hs2 fs1 d1 (ByteArray.mk #[97]) (by decide) [[(b2, .cells #[.int .u8 120, .int .u8 121] 5 (2, 2 + 1))]] _ H f_sync) ?_
  rintro v H' ⟨rfl, s3, hs3, rfl⟩
  refine GL_fin (E' := [⟨1, [], pt d1⟩, ⟨18, [], .bool false⟩]) [0, 3] [1, 18] rfl (by kernel_rfl) ?_
  refine N_then ?_
  refine G_condf (by kernel_rfl) ?_
  refine G_skip ?_
  refine N_then ?_
  refine G_seq ?_
  refine G_region ?_
  refine GL_pure (E' := [⟨19, [], pt d1⟩, ⟨1, [], pt d1⟩]) [0] (by kernel_rfl) (j := 1) rfl ?_
  refine GL_call (i := 1) (ch := []) (f := 18) (fst := #[]) (caps := #[]) (vs := [pt d1, .slice none 0 0]) rfl rfl rfl (by kernel_rfl) (by kernel_rfl) Try.func18 rfl rfl (by kernel_rfl) (by kernel_rfl) (chSure_of (by kernel_rfl)) (dCrash (M' := fm3) hs3 fs2 d1 ([]) none 0 (fun _ _ => False) ⟨.inl rfl, by decide, by decide, fun _ h => absurd h List.not_mem_nil⟩ [[(b2, .cells #[.int .u8 120, .int .u8 121] 5 (2, 2 + 1))]] _ H (fun _ _ h => h.elim) f_crash1) ?_
  rintro v H' ⟨rfl, s4, hs4, rfl⟩
  refine GL_fin (E' := [⟨1, [], pt d1⟩]) [] [1] rfl (by kernel_rfl) ?_
  refine N_then ?_
  refine G_seq ?_
  refine G_seq ?_
  refine G_region ?_
  refine GL_pure (E' := [⟨21, [], pt d1⟩, ⟨1, [], pt d1⟩]) [0] (by kernel_rfl) (j := 1) rfl ?_
  refine GL_call (i := 1) (ch := []) (f := 21) (fst := #[]) (caps := #[]) (vs := [pt d1, .string (ByteArray.mk #[])]) rfl rfl rfl (by kernel_rfl) (by kernel_rfl) Try.func21 rfl rfl (by kernel_rfl) (by kernel_rfl) (chSure_of (by kernel_rfl)) (dList hs4 fs3 d1 (ByteArray.mk #[]) [[(b2, .cells #[.int .u8 120, .int .u8 121] 5 (2, 2 + 1))]] _ H f_list) ?_
  rintro v H' ⟨la3, lc4, g5, rfl, hlc6, hrd7, rfl⟩
  refine GL_pure (E' := [⟨26, [(25, false)], pt d1⟩, ⟨25, [], .bool false⟩, ⟨1, [], pt d1⟩]) [0, 0, 0, 0] (by kernel_rfl) (j := 6) rfl ?_
  refine GL_buildSlice (i := 6) (ch := [(25, false)]) (e := 5) (l := [(0, .int .u8 120), (1, .int .u8 121)]) (c := [.int .u8 120, .int .u8 121]) rfl rfl (by kernel_rfl) (by kernel_rfl) (by kernel_rfl) (by kernel_rfl) (by kernel_rfl) (fun b8 => ?_)
  refine GL_sameBytes (i := 7) (ch := [(25, false)]) (t := 24) (e := 5) (b := b8) (off := 0) (l := 2) (cap := 2) (j := 0) (m := 0) rfl rfl (by kernel_rfl) (by kernel_rfl) (by kernel_rfl) (by kernel_rfl) (by kernel_rfl) (by kernel_rfl) rfl rfl (by rfl) ?_
  refine GL_call (i := 8) (ch := [(25, false)]) (f := 13) (fst := #[]) (caps := #[]) (vs := [pt d1, .string (ByteArray.mk #[97]), .slice (some ⟨b8, 0, none⟩) 2 2]) rfl rfl rfl (by kernel_rfl) (by kernel_rfl) Try.func13 rfl rfl (by kernel_rfl) (by kernel_rfl) (chSure_of (by kernel_rfl)) (dWrite hs4 fs3 d1 (ByteArray.mk #[97]) fxy (by decide) (by decide) [[(b8, .cells #[.int .u8 120, .int .u8 121] 5 (2, 2 + 1))], g5, [(b2, .cells #[.int .u8 120, .int .u8 121] 5 (2, 2 + 1))]] _ H ⟨some ⟨b8, 0, none⟩, 2, inG [(b8, .cells #[.int .u8 120, .int .u8 121] 5 (2, 2 + 1))], rfl, .inr (.inr ⟨b8, 0, rfl⟩), (Rd.lit (c := [.int .u8 120, .int .u8 121])), (at_inG 0 rfl)⟩ f_write2) ?_
  rintro v H' ⟨rfl, s6, hs6, rfl⟩
  refine GL_pure (E' := [⟨33, [(32, false)], pt d1⟩, ⟨32, [], .bool false⟩, ⟨1, [], pt d1⟩]) [0, 3, 0, 0] (by kernel_rfl) (j := 13) rfl ?_
  refine GL_call (i := 13) (ch := [(32, false)]) (f := 15) (fst := #[]) (caps := #[]) (vs := [pt d1, .string (ByteArray.mk #[])]) rfl rfl rfl (by kernel_rfl) (by kernel_rfl) Try.func15 rfl rfl (by kernel_rfl) (by kernel_rfl) (chSure_of (by kernel_rfl)) (dSyncDir hs6 fs4 d1 (ByteArray.mk #[]) (by decide) [[(b8, .cells #[.int .u8 120, .int .u8 121] 5 (2, 2 + 1))], g5, [(b2, .cells #[.int .u8 120, .int .u8 121] 5 (2, 2 + 1))]] _ H f_sdir) ?_
  rintro v H' ⟨rfl, s7, hs7, rfl⟩
  refine GL_fin (E' := [⟨1, [], pt d1⟩, ⟨36, [], .bool false⟩]) [0, 3] [1, 36] rfl (by kernel_rfl) ?_
  refine N_then ?_
  refine G_condf (by kernel_rfl) ?_
  refine G_skip ?_
  refine N_then ?_
  refine G_seq ?_
  refine G_region ?_
  refine GL_pure (E' := [⟨37, [], pt d1⟩, ⟨1, [], pt d1⟩]) [0] (by kernel_rfl) (j := 1) rfl ?_
  refine GL_buildSlice (i := 1) (ch := []) (e := 3) (l := [(0, .int .i64 1)]) (c := [.int .i64 1]) rfl rfl (by kernel_rfl) (by kernel_rfl) (by kernel_rfl) (by kernel_rfl) (by kernel_rfl) (fun b9 => ?_)
  refine GL_call (i := 2) (ch := []) (f := 18) (fst := #[]) (caps := #[]) (vs := [pt d1, .slice (some ⟨b9, 0, none⟩) 1 1]) rfl rfl rfl (by kernel_rfl) (by kernel_rfl) Try.func18 rfl rfl (by kernel_rfl) (by kernel_rfl) (chSure_of (by kernel_rfl)) (dCrash (M' := fm6) hs7 fs5 d1 ([1]) (some ⟨b9, 0, none⟩) 1 (inG [(b9, .cells #[.int .i64 1] 3 (0, 0))]) ⟨Rd.lit (c := [.int .i64 1]), by show 1 ≤ 1; omega, by show 1 ≤ 1000000000; omega, fun y h => by rw [List.mem_singleton.1 h]; decide⟩ [[(b9, .cells #[.int .i64 1] 3 (0, 0))], [(b8, .cells #[.int .u8 120, .int .u8 121] 5 (2, 2 + 1))], g5, [(b2, .cells #[.int .u8 120, .int .u8 121] 5 (2, 2 + 1))]] _ H (at_inG 0 rfl) f_crash2) ?_
  rintro v H' ⟨rfl, s8, hs8, rfl⟩
  refine GL_fin (E' := [⟨1, [], pt d1⟩]) [] [1] rfl (by kernel_rfl) ?_
  refine N_then ?_
  refine G_seq ?_
  refine G_region ?_
  refine GL_pure (E' := [⟨41, [], pt d1⟩, ⟨1, [], pt d1⟩]) [0] (by kernel_rfl) (j := 1) rfl ?_
  refine GL_call (i := 1) (ch := []) (f := 19) (fst := #[]) (caps := #[]) (vs := [pt d1, .string (ByteArray.mk #[97])]) rfl rfl rfl (by kernel_rfl) (by kernel_rfl) Try.func19 rfl rfl (by kernel_rfl) (by kernel_rfl) (chSure_of (by kernel_rfl)) (dRead hs8 (fun B hB => (fs6.size B hB).1) d1 (ByteArray.mk #[97]) [[(b9, .cells #[.int .i64 1] 3 (0, 0))], [(b8, .cells #[.int .u8 120, .int .u8 121] 5 (2, 2 + 1))], g5, [(b2, .cells #[.int .u8 120, .int .u8 121] 5 (2, 2 + 1))]] _ H f_read) ?_
  rintro v H' ⟨ra10, rc11, g12, rfl, hrc13, hrd14, rfl⟩
  refine GL_fin (E' := [⟨1, [], pt d1⟩, ⟨2, [], .slice ra10 fx.size rc11⟩, ⟨3, [], .int .i64 0⟩]) [0, 0, 0, 0, 0] [1, 2, 3] rfl (by kernel_rfl) ?_
  refine N_then ?_
  refine G_seq ?_
  refine G_region ?_
  refine GL_pure (E' := [⟨48, [(47, true)], .slice ra10 fx.size rc11⟩, ⟨47, [], .bool true⟩, ⟨1, [], pt d1⟩]) [0, 0, 0, 0] (by kernel_rfl) (j := 4) rfl ?_
  refine GL_bytesB (i := 4) (ch := [(47, true)]) (a := ra10) (cap := rc11) (e := 5) (S := (inG g12)) fx rfl rfl (by kernel_rfl) (by kernel_rfl) (by kernel_rfl) (by kernel_rfl) (by kernel_rfl) (by kernel_rfl) (by kernel_rfl) hrd14 (at_inG 0 rfl) ?_
  refine GL_pure (E' := [⟨50, [(47, true)], .bool (fx.toList == (ByteArray.mk #[120]).toList)⟩, ⟨47, [], .bool true⟩, ⟨1, [], pt d1⟩]) [0] (by kernel_rfl) (j := 6) rfl ?_
  refine GL_env (E' := [⟨50, [(47, true)], .bool true⟩, ⟨47, [], .bool true⟩, ⟨1, [], pt d1⟩]) (by rw [show (fx.toList == (ByteArray.mk #[120]).toList) = true from beq_self_eq_true _]) ?_
  refine GL_pure (E' := [⟨53, [(52, true)], pt d1⟩, ⟨52, [], .bool true⟩, ⟨1, [], pt d1⟩]) [2, 0, 0] (by kernel_rfl) (j := 9) rfl ?_
  refine GL_call (i := 9) (ch := [(52, true)]) (f := 26) (fst := #[]) (caps := #[]) (vs := [pt d1]) rfl rfl rfl (by kernel_rfl) (by kernel_rfl) Try.func26 rfl rfl (by kernel_rfl) (by kernel_rfl) (chSure_of (by kernel_rfl)) (dUsed hs8 fs6 d1 [g12, [(b9, .cells #[.int .i64 1] 3 (0, 0))], [(b8, .cells #[.int .u8 120, .int .u8 121] 5 (2, 2 + 1))], g5, [(b2, .cells #[.int .u8 120, .int .u8 121] 5 (2, 2 + 1))]] _ H f_used) ?_
  rintro v H' ⟨rfl, rfl⟩
  refine GL_pure (E' := [⟨58, [(57, true)], pt d1⟩, ⟨57, [], .bool true⟩, ⟨1, [], pt d1⟩]) [0, 2, 0, 0] (by kernel_rfl) (j := 14) rfl ?_
  refine GL_call (i := 14) (ch := [(57, true)]) (f := 13) (fst := #[]) (caps := #[]) (vs := [pt d1, .string (ByteArray.mk #[98, 47, 46, 46]), .slice none 0 0]) rfl rfl rfl (by kernel_rfl) (by kernel_rfl) Try.func13 rfl rfl (by kernel_rfl) (by kernel_rfl) (chSure_of (by kernel_rfl)) (dWrite hs8 fs6 d1 (ByteArray.mk #[98, 47, 46, 46]) p0 (by decide) (by decide) [g12, [(b9, .cells #[.int .i64 1] 3 (0, 0))], [(b8, .cells #[.int .u8 120, .int .u8 121] 5 (2, 2 + 1))], g5, [(b2, .cells #[.int .u8 120, .int .u8 121] 5 (2, 2 + 1))]] _ H ⟨none, 0, (fun _ _ => False), rfl, .inl ⟨rfl, rfl, rfl⟩, .inl rfl, fun _ _ h => h.elim⟩ f_bad) ?_
  rintro v H' ⟨rfl, s11, hs11, rfl⟩
  refine GL_pure (E' := [⟨63, [(62, true)], pt d1⟩, ⟨62, [], .bool true⟩]) [0, 2, 0, 0] (by kernel_rfl) (j := 19) rfl ?_
  refine GL_makeS (i := 19) (ch := [(62, true)]) (t := 24) (e := 5) (inf := Try.t5) (l := 100) (c := [.int .u8 0, .int .u8 0, .int .u8 0, .int .u8 0, .int .u8 0, .int .u8 0, .int .u8 0, .int .u8 0, .int .u8 0, .int .u8 0, .int .u8 0, .int .u8 0, .int .u8 0, .int .u8 0, .int .u8 0, .int .u8 0, .int .u8 0, .int .u8 0, .int .u8 0, .int .u8 0, .int .u8 0, .int .u8 0, .int .u8 0, .int .u8 0, .int .u8 0, .int .u8 0, .int .u8 0, .int .u8 0, .int .u8 0, .int .u8 0, .int .u8 0, .int .u8 0, .int .u8 0, .int .u8 0, .int .u8 0, .int .u8 0, .int .u8 0, .int .u8 0, .int .u8 0, .int .u8 0, .int .u8 0, .int .u8 0, .int .u8 0, .int .u8 0, .int .u8 0, .int .u8 0, .int .u8 0, .int .u8 0, .int .u8 0, .int .u8 0, .int .u8 0, .int .u8 0, .int .u8 0, .int .u8 0, .int .u8 0, .int .u8 0, .int .u8 0, .int .u8 0, .int .u8 0, .int .u8 0, .int .u8 0, .int .u8 0, .int .u8 0, .int .u8 0, .int .u8 0, .int .u8 0, .int .u8 0, .int .u8 0, .int .u8 0, .int .u8 0, .int .u8 0, .int .u8 0, .int .u8 0, .int .u8 0, .int .u8 0, .int .u8 0, .int .u8 0, .int .u8 0, .int .u8 0, .int .u8 0, .int .u8 0, .int .u8 0, .int .u8 0, .int .u8 0, .int .u8 0, .int .u8 0, .int .u8 0, .int .u8 0, .int .u8 0, .int .u8 0, .int .u8 0, .int .u8 0, .int .u8 0, .int .u8 0, .int .u8 0, .int .u8 0, .int .u8 0, .int .u8 0, .int .u8 0, .int .u8 0]) rfl rfl (by kernel_rfl) (by kernel_rfl) (by kernel_rfl) rfl rfl (by decide) (by decide) (by decide) (by kernel_rfl) (by kernel_rfl) (by kernel_rfl) (by kernel_rfl) (fun b15 => ?_)
  refine GL_call (i := 20) (ch := [(62, true)]) (f := 13) (fst := #[]) (caps := #[]) (vs := [pt d1, .string (ByteArray.mk #[98]), .slice (some ⟨b15, 0, none⟩) 100 100]) rfl rfl rfl (by kernel_rfl) (by kernel_rfl) Try.func13 rfl rfl (by kernel_rfl) (by kernel_rfl) (chSure_of (by kernel_rfl)) (dWrite hs11 fs6 d1 (ByteArray.mk #[98]) f100 (by decide) (by decide) [[(b15, .cells #[.int .u8 0, .int .u8 0, .int .u8 0, .int .u8 0, .int .u8 0, .int .u8 0, .int .u8 0, .int .u8 0, .int .u8 0, .int .u8 0, .int .u8 0, .int .u8 0, .int .u8 0, .int .u8 0, .int .u8 0, .int .u8 0, .int .u8 0, .int .u8 0, .int .u8 0, .int .u8 0, .int .u8 0, .int .u8 0, .int .u8 0, .int .u8 0, .int .u8 0, .int .u8 0, .int .u8 0, .int .u8 0, .int .u8 0, .int .u8 0, .int .u8 0, .int .u8 0, .int .u8 0, .int .u8 0, .int .u8 0, .int .u8 0, .int .u8 0, .int .u8 0, .int .u8 0, .int .u8 0, .int .u8 0, .int .u8 0, .int .u8 0, .int .u8 0, .int .u8 0, .int .u8 0, .int .u8 0, .int .u8 0, .int .u8 0, .int .u8 0, .int .u8 0, .int .u8 0, .int .u8 0, .int .u8 0, .int .u8 0, .int .u8 0, .int .u8 0, .int .u8 0, .int .u8 0, .int .u8 0, .int .u8 0, .int .u8 0, .int .u8 0, .int .u8 0, .int .u8 0, .int .u8 0, .int .u8 0, .int .u8 0, .int .u8 0, .int .u8 0, .int .u8 0, .int .u8 0, .int .u8 0, .int .u8 0, .int .u8 0, .int .u8 0, .int .u8 0, .int .u8 0, .int .u8 0, .int .u8 0, .int .u8 0, .int .u8 0, .int .u8 0, .int .u8 0, .int .u8 0, .int .u8 0, .int .u8 0, .int .u8 0, .int .u8 0, .int .u8 0, .int .u8 0, .int .u8 0, .int .u8 0, .int .u8 0, .int .u8 0, .int .u8 0, .int .u8 0, .int .u8 0, .int .u8 0, .int .u8 0] 5 (0, 0))], g12, [(b9, .cells #[.int .i64 1] 3 (0, 0))], [(b8, .cells #[.int .u8 120, .int .u8 121] 5 (2, 2 + 1))], g5, [(b2, .cells #[.int .u8 120, .int .u8 121] 5 (2, 2 + 1))]] _ H ⟨some ⟨b15, 0, none⟩, 100, inG [(b15, .cells #[.int .u8 0, .int .u8 0, .int .u8 0, .int .u8 0, .int .u8 0, .int .u8 0, .int .u8 0, .int .u8 0, .int .u8 0, .int .u8 0, .int .u8 0, .int .u8 0, .int .u8 0, .int .u8 0, .int .u8 0, .int .u8 0, .int .u8 0, .int .u8 0, .int .u8 0, .int .u8 0, .int .u8 0, .int .u8 0, .int .u8 0, .int .u8 0, .int .u8 0, .int .u8 0, .int .u8 0, .int .u8 0, .int .u8 0, .int .u8 0, .int .u8 0, .int .u8 0, .int .u8 0, .int .u8 0, .int .u8 0, .int .u8 0, .int .u8 0, .int .u8 0, .int .u8 0, .int .u8 0, .int .u8 0, .int .u8 0, .int .u8 0, .int .u8 0, .int .u8 0, .int .u8 0, .int .u8 0, .int .u8 0, .int .u8 0, .int .u8 0, .int .u8 0, .int .u8 0, .int .u8 0, .int .u8 0, .int .u8 0, .int .u8 0, .int .u8 0, .int .u8 0, .int .u8 0, .int .u8 0, .int .u8 0, .int .u8 0, .int .u8 0, .int .u8 0, .int .u8 0, .int .u8 0, .int .u8 0, .int .u8 0, .int .u8 0, .int .u8 0, .int .u8 0, .int .u8 0, .int .u8 0, .int .u8 0, .int .u8 0, .int .u8 0, .int .u8 0, .int .u8 0, .int .u8 0, .int .u8 0, .int .u8 0, .int .u8 0, .int .u8 0, .int .u8 0, .int .u8 0, .int .u8 0, .int .u8 0, .int .u8 0, .int .u8 0, .int .u8 0, .int .u8 0, .int .u8 0, .int .u8 0, .int .u8 0, .int .u8 0, .int .u8 0, .int .u8 0, .int .u8 0, .int .u8 0, .int .u8 0] 5 (0, 0))], rfl, .inr (.inr ⟨b15, 0, rfl⟩), (by rw [u8s_f100]; exact Rd.lit (c := List.replicate 100 (.int .u8 0))), (at_inG 0 rfl)⟩ f_full) ?_
  rintro v H' ⟨rfl, s12, hs12, rfl⟩
  refine GL_fin (E' := [⟨0, [], .bool true⟩]) [0, 2, 0] [0] rfl (by kernel_rfl) ?_
  refine N_then ?_
  refine G_ret ?_
  refine N_ret [.tmp 0] [.bool true] rfl (by kernel_rfl) rfl ?_
  exact ⟨rfl, [[(b15, .cells #[.int .u8 0, .int .u8 0, .int .u8 0, .int .u8 0, .int .u8 0, .int .u8 0, .int .u8 0, .int .u8 0, .int .u8 0, .int .u8 0, .int .u8 0, .int .u8 0, .int .u8 0, .int .u8 0, .int .u8 0, .int .u8 0, .int .u8 0, .int .u8 0, .int .u8 0, .int .u8 0, .int .u8 0, .int .u8 0, .int .u8 0, .int .u8 0, .int .u8 0, .int .u8 0, .int .u8 0, .int .u8 0, .int .u8 0, .int .u8 0, .int .u8 0, .int .u8 0, .int .u8 0, .int .u8 0, .int .u8 0, .int .u8 0, .int .u8 0, .int .u8 0, .int .u8 0, .int .u8 0, .int .u8 0, .int .u8 0, .int .u8 0, .int .u8 0, .int .u8 0, .int .u8 0, .int .u8 0, .int .u8 0, .int .u8 0, .int .u8 0, .int .u8 0, .int .u8 0, .int .u8 0, .int .u8 0, .int .u8 0, .int .u8 0, .int .u8 0, .int .u8 0, .int .u8 0, .int .u8 0, .int .u8 0, .int .u8 0, .int .u8 0, .int .u8 0, .int .u8 0, .int .u8 0, .int .u8 0, .int .u8 0, .int .u8 0, .int .u8 0, .int .u8 0, .int .u8 0, .int .u8 0, .int .u8 0, .int .u8 0, .int .u8 0, .int .u8 0, .int .u8 0, .int .u8 0, .int .u8 0, .int .u8 0, .int .u8 0, .int .u8 0, .int .u8 0, .int .u8 0, .int .u8 0, .int .u8 0, .int .u8 0, .int .u8 0, .int .u8 0, .int .u8 0, .int .u8 0, .int .u8 0, .int .u8 0, .int .u8 0, .int .u8 0, .int .u8 0, .int .u8 0, .int .u8 0, .int .u8 0] 5 (0, 0))], g12, [(b9, .cells #[.int .i64 1] 3 (0, 0))], [(b8, .cells #[.int .u8 120, .int .u8 121] 5 (2, 2 + 1))], g5, [(b2, .cells #[.int .u8 120, .int .u8 121] 5 (2, 2 + 1))]] ++ s12.G d1 fm6, by simp⟩
end Go.Proofs.Ytbmieiffboenbaa
