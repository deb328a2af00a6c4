/- An act upon both disks, over a heap whose first groups are told; a new disk of the document's behind others. Conditions: small numbers. (and what it stands on) -/
import Derived.Test.YtbmieiffboenbaaZ5
namespace Go.Proofs.Ytbmieiffboenbaa
open Go.Sw Go.Lib Go.Vf Go.RowKit
theorem rCrash (x : Nat) (s : RS) (M : DM) (h : s.ok M) (hm : SmallR M) (l : List Int) (la : Option Addr) (lc : Nat) (Sk : Nat → Obj → Prop) (W0 : World) (H : List Grp) (hrl : Rd Sk la (l.map (Value.int .i64))) (hli : ∀ y ∈ l, -9223372036854775808 ≤ y ∧ y ≤ 9223372036854775807) (hSk : ∀ y o, Sk y o → At W0 H y o) : Tri Try.prog 53 #[pt x, .slice la l.length lc] W0 ([(x, .cells #[.int .i64 M.room, .slice s.ba s.bn s.bc, .slice s.na s.nn s.nc, .slice s.ka s.kn s.kc, .slice s.ca s.cn s.cc, .bool M.fails, .bool M.once, .int .i64 M.calls] 86 (0, 0))] :: s.bg :: s.cg :: (s.Z ++ H)) (IsR x (crashM M l) (.tuple #[]) H) := by
  have hnn := h.nn
  have hbn := h.bn
  have hkn := h.kn
  have hcn := h.cn
  have hch := h.chs.len
  have hus := used_le hm.small fun x hx => (h.well.names x hx).2
  have hsn := hm.small.names
  have hsb := hm.small.bodies
  have hsc := hm.small.changes
  have hskn : M.kept.length ≤ 10000 := Nat.le_trans (Nat.le_add_right _ _) hm.kept
  have hsca := hm.small.calls
  refine Tri_of (args := [pt x, .slice la l.length lc]) (n := 192) Try.func53 rfl rfl (Nat.le_of_ble_eq_true rfl) ?_
  refine G_seq ?_
  refine G_pure (E' := [⟨0, [], pt x⟩, ⟨1, [], .slice la l.length lc⟩, ⟨4, [], .int .i64 0⟩]) [0] [0, 1, 4] rfl (by kernel_rfl) ?_
  refine N_then ?_
  refine G_seq ?_
  refine G_seq ?_
  refine G_region ?_
  refine GL_pure (E' := [⟨21, [], .pointer (some ⟨x, 1, none⟩)⟩, ⟨0, [], pt x⟩, ⟨1, [], .slice la l.length lc⟩, ⟨4, [], .int .i64 0⟩]) [0, 0, 0] (by kernel_rfl) (j := 3) rfl ?_
  refine GL_load (i := 3) (ch := []) (b := x) (off := 1) (v := .slice s.ba s.bn s.bc) rfl rfl (by kernel_rfl) (by kernel_rfl) (by kernel_rfl) (by kernel_rfl) (by kernel_rfl) (At.grp 0 0 rfl rfl) rfl ?_
  refine GL_fin (E' := [⟨0, [], pt x⟩, ⟨1, [], .slice la l.length lc⟩, ⟨4, [], .int .i64 0⟩, ⟨23, [], .int .i64 ((s.bn : Nat) : Int)⟩, ⟨24, [], .int .i64 0⟩]) [0, 0] [0, 1, 4, 23, 24] rfl (by kernel_rfl) ?_
  refine N_then ?_
  refine G_block ?_
  refine G_loop (EI := (fun ξ : Nat × Nat × List Body × Grp => [⟨0, [], pt x⟩, ⟨1, [], .slice la l.length lc⟩, ⟨4, [], .int .i64 ((ξ.2.1 : Nat) : Int)⟩, ⟨23, [], .int .i64 ((s.bn : Nat) : Int)⟩, ⟨24, [], .int .i64 ((ξ.1 : Nat) : Int)⟩])) (HI := (fun ξ : Nat × Nat × List Body × Grp => ([(x, .cells #[.int .i64 M.room, .slice s.ba s.bn s.bc, .slice s.na s.nn s.nc, .slice s.ka s.kn s.kc, .slice s.ca s.cn s.cc, .bool M.fails, .bool M.once, .int .i64 M.calls] 86 (0, 0))] :: ξ.2.2.2 :: s.cg :: (s.Z ++ H)))) (Φ := (fun ξ : Nat × Nat × List Body × Grp => (ξ.1 ≤ M.bodies.length) ∧ (ξ.2.1 ≤ ξ.1) ∧ (CrB M.bodies l ξ.1 ξ.2.1 ξ.2.2.1) ∧ (Own 92 2 (.slice s.ba s.bn s.bc) ξ.2.2.2 s.bn (bdC ξ.2.2.1)))) (μ := (fun ξ : Nat × Nat × List Body × Grp => M.bodies.length - ξ.1)) (s0 := (0, 0, M.bodies, s.bg)) [0, 1, 4, 23, 24] (by kernel_rfl) rfl ⟨(by omega), (Nat.zero_le _), (crb0 _ _), h.own⟩ ?_
  rintro ⟨j, u, X, bg2⟩ ⟨hj, hu, hX, hO2⟩
  replace hj : j ≤ M.bodies.length := hj
  replace hu : u ≤ j := hu
  replace hX : CrB M.bodies l j u X := hX
  replace hO2 : Own 92 2 (.slice s.ba s.bn s.bc) bg2 s.bn (bdC X) := hO2
  obtain ⟨hXl, hXe⟩ := crb_at hX hj
  refine G_seq ?_
  refine G_pure (E' := [⟨0, [], pt x⟩, ⟨1, [], .slice la l.length lc⟩, ⟨4, [], .int .i64 ((u : Nat) : Int)⟩, ⟨23, [], .int .i64 ((s.bn : Nat) : Int)⟩, ⟨24, [], .int .i64 ((j : Nat) : Int)⟩, ⟨25, [], .bool (decide (((j : Nat) : Int) < ((s.bn : Nat) : Int)))⟩]) [0] [0, 1, 4, 23, 24, 25] rfl (by kernel_rfl) ?_
  refine N_then ?_
  refine G_seq ?_
  refine G_cond (b := decide (((j : Nat) : Int) < ((s.bn : Nat) : Int))) (by kernel_rfl) (fun hc1 => ?_) (fun hc1 => ?_)
  ·
    replace hc1 := of_decide_eq_true hc1
    refine G_skip ?_
    refine N_then ?_
    refine G_seq ?_
    refine G_block ?_
    refine G_seq ?_
    refine G_pure (E' := [⟨0, [], pt x⟩, ⟨1, [], .slice la l.length lc⟩, ⟨4, [], .int .i64 ((u : Nat) : Int)⟩, ⟨5, [], .int .i64 ((j : Nat) : Int)⟩, ⟨23, [], .int .i64 ((s.bn : Nat) : Int)⟩, ⟨24, [], .int .i64 ((j : Nat) : Int)⟩]) [0, 0] [0, 1, 4, 5, 23, 24] rfl (by kernel_rfl) ?_
    refine N_then ?_
    refine G_seq ?_
    refine G_region ?_
    refine GL_pure (E' := [⟨29, [], .pointer (some ⟨x, 1, none⟩)⟩, ⟨0, [], pt x⟩, ⟨1, [], .slice la l.length lc⟩, ⟨4, [], .int .i64 ((u : Nat) : Int)⟩, ⟨5, [], .int .i64 ((j : Nat) : Int)⟩, ⟨23, [], .int .i64 ((s.bn : Nat) : Int)⟩, ⟨24, [], .int .i64 ((j : Nat) : Int)⟩]) [0, 0, 0] (by kernel_rfl) (j := 3) rfl ?_
    refine GL_load (i := 3) (ch := []) (b := x) (off := 1) (v := .slice s.ba s.bn s.bc) rfl rfl (by kernel_rfl) (by kernel_rfl) (by kernel_rfl) (by kernel_rfl) (by kernel_rfl) (At.grp 0 0 rfl rfl) rfl ?_
    refine GL_pure (E' := [⟨31, [], .int .i64 ((j : Nat) : Int)⟩, ⟨30, [], .slice s.ba s.bn s.bc⟩, ⟨0, [], pt x⟩, ⟨1, [], .slice la l.length lc⟩, ⟨4, [], .int .i64 ((u : Nat) : Int)⟩, ⟨23, [], .int .i64 ((s.bn : Nat) : Int)⟩, ⟨24, [], .int .i64 ((j : Nat) : Int)⟩]) [0] (by kernel_rfl) (j := 5) rfl ?_
    refine GL_indexAddr (i := 5) (ch := []) (a := s.ba) (len := s.bn) (cap := s.bc) (kd := .i64) (j := ((j : Nat) : Int)) (e := 92) (sz := 2) (S := (inG bg2)) (cs := (bdC X)) rfl rfl (by kernel_rfl) (by kernel_rfl) (by kernel_rfl) (by kernel_rfl) (by kernel_rfl) (by kernel_rfl) (by kernel_rfl) (own_rd hO2) (fun _ => by exact ⟨by omega, by omega, bdC_ne (i := j) (by omega)⟩) ?_
    refine GL_fin (E' := [⟨0, [], pt x⟩, ⟨1, [], .slice la l.length lc⟩, ⟨4, [], .int .i64 ((u : Nat) : Int)⟩, ⟨6, [], .pointer (some (eltA s.ba (j * 2)))⟩, ⟨23, [], .int .i64 ((s.bn : Nat) : Int)⟩, ⟨24, [], .int .i64 ((j : Nat) : Int)⟩]) [0] [0, 1, 4, 6, 23, 24] rfl (by kernel_rfl) ?_
    refine N_then ?_
    refine G_seq ?_
    refine G_seq ?_
    refine G_regionD (by kernel_rfl) (by kernel_rfl) ?_
    refine GL_pure (E' := [⟨35, [], .pointer (some (eltA s.ba (j * 2)))⟩, ⟨0, [], pt x⟩, ⟨1, [], .slice la l.length lc⟩, ⟨4, [], .int .i64 ((u : Nat) : Int)⟩, ⟨6, [], .pointer (some (eltA s.ba (j * 2)))⟩, ⟨23, [], .int .i64 ((s.bn : Nat) : Int)⟩, ⟨24, [], .int .i64 ((j : Nat) : Int)⟩]) [0, 0, 0] (by kernel_rfl) (j := 3) rfl ?_
    refine GL_loadS (i := 3) (ch := []) (a := s.ba) (q := j * 2) (S := (inG bg2)) (cs := (bdC X)) (v := .string ((X.getD j default).now)) rfl rfl (by kernel_rfl) (by kernel_rfl) (by kernel_rfl) (by kernel_rfl) (by kernel_rfl) (own_rd hO2) (at_inG 1 rfl) (fun _ => (bdC_at0 (by omega))) ?_
    have hw2 : Addr.add (eltA s.ba (j * 2)) 1 = eltA s.ba (j * 2 + 1) := eltA_add _ _ _
    refine GL_pure (E' := [⟨39, [], .pointer (some (eltA s.ba (j * 2 + 1)))⟩, ⟨36, [], .string ((X.getD j default).now)⟩, ⟨0, [], pt x⟩, ⟨1, [], .slice la l.length lc⟩, ⟨4, [], .int .i64 ((u : Nat) : Int)⟩, ⟨6, [], .pointer (some (eltA s.ba (j * 2)))⟩, ⟨23, [], .int .i64 ((s.bn : Nat) : Int)⟩, ⟨24, [], .int .i64 ((j : Nat) : Int)⟩]) [0, 0, 0] (Eq.trans (b := some [⟨39, [], .pointer (some (Addr.add (eltA s.ba (j * 2)) 1))⟩, ⟨36, [], .string ((X.getD j default).now)⟩, ⟨0, [], pt x⟩, ⟨1, [], .slice la l.length lc⟩, ⟨4, [], .int .i64 ((u : Nat) : Int)⟩, ⟨6, [], .pointer (some (eltA s.ba (j * 2)))⟩, ⟨23, [], .int .i64 ((s.bn : Nat) : Int)⟩, ⟨24, [], .int .i64 ((j : Nat) : Int)⟩]) (by kernel_rfl) (by simp only [hw2])) (j := 7) rfl ?_
    refine GL_loadS (i := 7) (ch := []) (a := s.ba) (q := j * 2 + 1) (S := (inG bg2)) (cs := (bdC X)) (v := .string ((X.getD j default).kept)) rfl rfl (by kernel_rfl) (by kernel_rfl) (by kernel_rfl) (by kernel_rfl) (by kernel_rfl) (own_rd hO2) (at_inG 1 rfl) (fun _ => (bdC_at1 (by omega))) ?_
    refine GL_fin (E' := [⟨0, [], pt x⟩, ⟨1, [], .slice la l.length lc⟩, ⟨4, [], .int .i64 ((u : Nat) : Int)⟩, ⟨6, [], .pointer (some (eltA s.ba (j * 2)))⟩, ⟨23, [], .int .i64 ((s.bn : Nat) : Int)⟩, ⟨24, [], .int .i64 ((j : Nat) : Int)⟩, ⟨41, [], .bool (!(((X.getD j default).now).toList == ((X.getD j default).kept).toList))⟩]) [0] [0, 1, 4, 6, 23, 24, 41] rfl (by kernel_rfl) ?_
    refine N_then ?_
    refine G_cond (b := !(((X.getD j default).now).toList == ((X.getD j default).kept).toList)) (by kernel_rfl) (fun hc3 => ?_) (fun hc3 => ?_)
    ·
      have hne := hc3
      have hsz := hm.small.size _ (getD_memG (l := M.bodies) (i := j) (by omega))
      rw [← hXe] at hsz
      have hlt2 := now_ne (b := X.getD j default) (by rw [hXe]; exact h.well.pre _ (getD_memG (by omega))) hne
      refine G_seq ?_
      refine G_pure (E' := [⟨0, [], pt x⟩, ⟨1, [], .slice la l.length lc⟩, ⟨4, [], .int .i64 ((u : Nat) : Int)⟩, ⟨6, [], .pointer (some (eltA s.ba (j * 2)))⟩, ⟨7, [], .int .i64 0⟩, ⟨23, [], .int .i64 ((s.bn : Nat) : Int)⟩, ⟨24, [], .int .i64 ((j : Nat) : Int)⟩]) [0] [0, 1, 4, 6, 7, 23, 24] rfl (by kernel_rfl) ?_
      refine N_then ?_
      refine G_seq ?_
      refine G_seq ?_
      refine G_pure (E' := [⟨0, [], pt x⟩, ⟨1, [], .slice la l.length lc⟩, ⟨4, [], .int .i64 ((u : Nat) : Int)⟩, ⟨6, [], .pointer (some (eltA s.ba (j * 2)))⟩, ⟨7, [], .int .i64 0⟩, ⟨23, [], .int .i64 ((s.bn : Nat) : Int)⟩, ⟨24, [], .int .i64 ((j : Nat) : Int)⟩, ⟨45, [], .bool (decide (((u : Nat) : Int) < ((l.length : Nat) : Int)))⟩]) [0, 0, 0, 0] [0, 1, 4, 6, 7, 23, 24, 45] rfl (by kernel_rfl) ?_
      refine N_then ?_
      refine G_join (T := Int) (fun ξ : Int => [⟨0, [], pt x⟩, ⟨1, [], .slice la l.length lc⟩, ⟨4, [], .int .i64 ((u : Nat) : Int)⟩, ⟨6, [], .pointer (some (eltA s.ba (j * 2)))⟩, ⟨7, [], .int .i64 ξ⟩, ⟨23, [], .int .i64 ((s.bn : Nat) : Int)⟩, ⟨24, [], .int .i64 ((j : Nat) : Int)⟩]) (fun ξ : Int => ([(x, .cells #[.int .i64 M.room, .slice s.ba s.bn s.bc, .slice s.na s.nn s.nc, .slice s.ka s.kn s.kc, .slice s.ca s.cn s.cc, .bool M.fails, .bool M.once, .int .i64 M.calls] 86 (0, 0))] :: bg2 :: s.cg :: (s.Z ++ H))) (fun ξ : Int => (ξ = nextK (l.getD u 0) (((X.getD j default).now.size : Int) - ((X.getD j default).kept.size : Int) + 1))) ?_ ?_
      ·
        refine G_cond (b := decide (((u : Nat) : Int) < ((l.length : Nat) : Int))) (by kernel_rfl) (fun hc4 => ?_) (fun hc4 => ?_)
        ·
          replace hc4 := of_decide_eq_true hc4
          -- L in
          refine G_seq ?_
          refine G_regionD (by kernel_rfl) (by kernel_rfl) ?_
          refine GL_pure (E' := [⟨48, [], .pointer (some (eltA s.ba (j * 2)))⟩, ⟨0, [], pt x⟩, ⟨1, [], .slice la l.length lc⟩, ⟨4, [], .int .i64 ((u : Nat) : Int)⟩, ⟨6, [], .pointer (some (eltA s.ba (j * 2)))⟩, ⟨23, [], .int .i64 ((s.bn : Nat) : Int)⟩, ⟨24, [], .int .i64 ((j : Nat) : Int)⟩]) [0, 0, 0] (by kernel_rfl) (j := 3) rfl ?_
          refine GL_loadS (i := 3) (ch := []) (a := s.ba) (q := j * 2) (S := (inG bg2)) (cs := (bdC X)) (v := .string ((X.getD j default).now)) rfl rfl (by kernel_rfl) (by kernel_rfl) (by kernel_rfl) (by kernel_rfl) (by kernel_rfl) (own_rd hO2) (at_inG 1 rfl) (fun _ => (bdC_at0 (by omega))) ?_
          have hw5 : Addr.add (eltA s.ba (j * 2)) 1 = eltA s.ba (j * 2 + 1) := eltA_add _ _ _
          refine GL_pure (E' := [⟨53, [], .pointer (some (eltA s.ba (j * 2 + 1)))⟩, ⟨50, [], .int .i64 (((X.getD j default).now).size : Int)⟩, ⟨0, [], pt x⟩, ⟨1, [], .slice la l.length lc⟩, ⟨4, [], .int .i64 ((u : Nat) : Int)⟩, ⟨6, [], .pointer (some (eltA s.ba (j * 2)))⟩, ⟨23, [], .int .i64 ((s.bn : Nat) : Int)⟩, ⟨24, [], .int .i64 ((j : Nat) : Int)⟩]) [0, 0, 0, 0] (Eq.trans (b := some [⟨53, [], .pointer (some (Addr.add (eltA s.ba (j * 2)) 1))⟩, ⟨50, [], .int .i64 (((X.getD j default).now).size : Int)⟩, ⟨0, [], pt x⟩, ⟨1, [], .slice la l.length lc⟩, ⟨4, [], .int .i64 ((u : Nat) : Int)⟩, ⟨6, [], .pointer (some (eltA s.ba (j * 2)))⟩, ⟨23, [], .int .i64 ((s.bn : Nat) : Int)⟩, ⟨24, [], .int .i64 ((j : Nat) : Int)⟩]) (by kernel_rfl) (by simp only [hw5])) (j := 8) rfl ?_
          refine GL_loadS (i := 8) (ch := []) (a := s.ba) (q := j * 2 + 1) (S := (inG bg2)) (cs := (bdC X)) (v := .string ((X.getD j default).kept)) rfl rfl (by kernel_rfl) (by kernel_rfl) (by kernel_rfl) (by kernel_rfl) (by kernel_rfl) (own_rd hO2) (at_inG 1 rfl) (fun _ => (bdC_at1 (by omega))) ?_
          have hw6 : IntKind.wrap .i64 ((((X.getD j default).now).size : Int) - (((X.getD j default).kept).size : Int)) = (((X.getD j default).now).size : Int) - (((X.getD j default).kept).size : Int) := w64 (by omega) (by omega)
          have hw7 : IntKind.wrap .i64 (((((X.getD j default).now).size : Int) - (((X.getD j default).kept).size : Int)) + 1) = ((((X.getD j default).now).size : Int) - (((X.getD j default).kept).size : Int)) + 1 := w64 (by omega) (by omega)
          refine GL_fin (E' := [⟨0, [], pt x⟩, ⟨1, [], .slice la l.length lc⟩, ⟨4, [], .int .i64 ((u : Nat) : Int)⟩, ⟨6, [], .pointer (some (eltA s.ba (j * 2)))⟩, ⟨8, [], .int .i64 (((((X.getD j default).now).size : Int) - (((X.getD j default).kept).size : Int)) + 1)⟩, ⟨23, [], .int .i64 ((s.bn : Nat) : Int)⟩, ⟨24, [], .int .i64 ((j : Nat) : Int)⟩]) [0, 0, 0, 0] [0, 1, 4, 6, 8, 23, 24] rfl (Eq.trans (b := some [⟨0, [], pt x⟩, ⟨1, [], .slice la l.length lc⟩, ⟨4, [], .int .i64 ((u : Nat) : Int)⟩, ⟨6, [], .pointer (some (eltA s.ba (j * 2)))⟩, ⟨8, [], .int .i64 (IntKind.wrap .i64 ((IntKind.wrap .i64 ((((X.getD j default).now).size : Int) - (((X.getD j default).kept).size : Int))) + 1))⟩, ⟨23, [], .int .i64 ((s.bn : Nat) : Int)⟩, ⟨24, [], .int .i64 ((j : Nat) : Int)⟩]) (by kernel_rfl) (by simp only [hw6, hw7])) ?_
          refine N_then ?_
          refine G_region ?_
          refine GL_pure (E' := [⟨59, [], .int .i64 ((u : Nat) : Int)⟩, ⟨58, [], .slice la l.length lc⟩, ⟨0, [], pt x⟩, ⟨1, [], .slice la l.length lc⟩, ⟨4, [], .int .i64 ((u : Nat) : Int)⟩, ⟨6, [], .pointer (some (eltA s.ba (j * 2)))⟩, ⟨8, [], .int .i64 (((((X.getD j default).now).size : Int) - (((X.getD j default).kept).size : Int)) + 1)⟩, ⟨23, [], .int .i64 ((s.bn : Nat) : Int)⟩, ⟨24, [], .int .i64 ((j : Nat) : Int)⟩]) [0, 0] (by kernel_rfl) (j := 2) rfl ?_
          refine GL_indexAddr (i := 2) (ch := []) (a := la) (len := l.length) (cap := lc) (kd := .i64) (j := ((u : Nat) : Int)) (e := 3) (sz := 1) (S := Sk) (cs := (l.map (Value.int .i64))) rfl rfl (by kernel_rfl) (by kernel_rfl) (by kernel_rfl) (by kernel_rfl) (by kernel_rfl) (by kernel_rfl) (by kernel_rfl) hrl (fun _ => by exact ⟨by omega, by omega, ints_ne (u := u) (by omega)⟩) ?_
          refine GL_loadS (i := 3) (ch := []) (a := la) (q := u * 1) (S := Sk) (cs := (l.map (Value.int .i64))) (v := .int .i64 (l.getD u 0)) rfl rfl (by kernel_rfl) (by kernel_rfl) (by kernel_rfl) (by kernel_rfl) (by kernel_rfl) hrl (fun y o h => (At.cons (At.cons (At.cons (at_app2 (hSk y o h)))))) (fun _ => (by rw [Nat.mul_one]; exact intL_at (by omega))) ?_
          refine GL_pure (E' := [⟨62, [], .int .i64 (((((X.getD j default).now).size : Int) - (((X.getD j default).kept).size : Int)) + 1)⟩, ⟨61, [], .int .i64 (l.getD u 0)⟩, ⟨0, [], pt x⟩, ⟨1, [], .slice la l.length lc⟩, ⟨4, [], .int .i64 ((u : Nat) : Int)⟩, ⟨6, [], .pointer (some (eltA s.ba (j * 2)))⟩, ⟨8, [], .int .i64 (((((X.getD j default).now).size : Int) - (((X.getD j default).kept).size : Int)) + 1)⟩, ⟨23, [], .int .i64 ((s.bn : Nat) : Int)⟩, ⟨24, [], .int .i64 ((j : Nat) : Int)⟩]) [0] (by kernel_rfl) (j := 5) rfl ?_
          refine GL_rem (i := 5) (ch := []) (kd := .i64) (a := (l.getD u 0)) (b := ((((X.getD j default).now).size : Int) - (((X.getD j default).kept).size : Int)) + 1) rfl rfl (by kernel_rfl) (by kernel_rfl) (by kernel_rfl) (by kernel_rfl) (by kernel_rfl) (fun _ => by omega) ?_
          have hrm8 := tmod_ne (l.getD u 0) (show 0 < ((((X.getD j default).now).size : Int) - (((X.getD j default).kept).size : Int)) + 1 by omega)
          have hw9 : IntKind.wrap .i64 ((Int.tmod (l.getD u 0) (((((X.getD j default).now).size : Int) - (((X.getD j default).kept).size : Int)) + 1)) + (((((X.getD j default).now).size : Int) - (((X.getD j default).kept).size : Int)) + 1)) = (Int.tmod (l.getD u 0) (((((X.getD j default).now).size : Int) - (((X.getD j default).kept).size : Int)) + 1)) + (((((X.getD j default).now).size : Int) - (((X.getD j default).kept).size : Int)) + 1) := w64 (by omega) (by omega)
          refine GL_pure (E' := [⟨66, [], .int .i64 (((((X.getD j default).now).size : Int) - (((X.getD j default).kept).size : Int)) + 1)⟩, ⟨65, [], .int .i64 ((Int.tmod (l.getD u 0) (((((X.getD j default).now).size : Int) - (((X.getD j default).kept).size : Int)) + 1)) + (((((X.getD j default).now).size : Int) - (((X.getD j default).kept).size : Int)) + 1))⟩, ⟨0, [], pt x⟩, ⟨1, [], .slice la l.length lc⟩, ⟨4, [], .int .i64 ((u : Nat) : Int)⟩, ⟨6, [], .pointer (some (eltA s.ba (j * 2)))⟩, ⟨23, [], .int .i64 ((s.bn : Nat) : Int)⟩, ⟨24, [], .int .i64 ((j : Nat) : Int)⟩]) [0, 0, 0] (Eq.trans (b := some [⟨66, [], .int .i64 (((((X.getD j default).now).size : Int) - (((X.getD j default).kept).size : Int)) + 1)⟩, ⟨65, [], .int .i64 (IntKind.wrap .i64 ((Int.tmod (l.getD u 0) (((((X.getD j default).now).size : Int) - (((X.getD j default).kept).size : Int)) + 1)) + (((((X.getD j default).now).size : Int) - (((X.getD j default).kept).size : Int)) + 1)))⟩, ⟨0, [], pt x⟩, ⟨1, [], .slice la l.length lc⟩, ⟨4, [], .int .i64 ((u : Nat) : Int)⟩, ⟨6, [], .pointer (some (eltA s.ba (j * 2)))⟩, ⟨23, [], .int .i64 ((s.bn : Nat) : Int)⟩, ⟨24, [], .int .i64 ((j : Nat) : Int)⟩]) (by kernel_rfl) (by simp only [hw9])) (j := 9) rfl ?_
          refine GL_rem (i := 9) (ch := []) (kd := .i64) (a := (Int.tmod (l.getD u 0) (((((X.getD j default).now).size : Int) - (((X.getD j default).kept).size : Int)) + 1)) + (((((X.getD j default).now).size : Int) - (((X.getD j default).kept).size : Int)) + 1)) (b := ((((X.getD j default).now).size : Int) - (((X.getD j default).kept).size : Int)) + 1) rfl rfl (by kernel_rfl) (by kernel_rfl) (by kernel_rfl) (by kernel_rfl) (by kernel_rfl) (fun _ => by omega) ?_
          have hrm10 := tmod_ne ((Int.tmod (l.getD u 0) (((((X.getD j default).now).size : Int) - (((X.getD j default).kept).size : Int)) + 1)) + (((((X.getD j default).now).size : Int) - (((X.getD j default).kept).size : Int)) + 1)) (show 0 < ((((X.getD j default).now).size : Int) - (((X.getD j default).kept).size : Int)) + 1 by omega)
          refine GL_pure (E' := [⟨7, [], .int .i64 (Int.tmod ((Int.tmod (l.getD u 0) (((((X.getD j default).now).size : Int) - (((X.getD j default).kept).size : Int)) + 1)) + (((((X.getD j default).now).size : Int) - (((X.getD j default).kept).size : Int)) + 1)) (((((X.getD j default).now).size : Int) - (((X.getD j default).kept).size : Int)) + 1))⟩, ⟨0, [], pt x⟩, ⟨1, [], .slice la l.length lc⟩, ⟨4, [], .int .i64 ((u : Nat) : Int)⟩, ⟨6, [], .pointer (some (eltA s.ba (j * 2)))⟩, ⟨23, [], .int .i64 ((s.bn : Nat) : Int)⟩, ⟨24, [], .int .i64 ((j : Nat) : Int)⟩]) [0] (by kernel_rfl) (j := 11) rfl ?_
          refine GL_env (E' := [⟨7, [], .int .i64 (nextK (l.getD u 0) (((X.getD j default).now.size : Int) - ((X.getD j default).kept.size : Int) + 1))⟩, ⟨0, [], pt x⟩, ⟨1, [], .slice la l.length lc⟩, ⟨4, [], .int .i64 ((u : Nat) : Int)⟩, ⟨6, [], .pointer (some (eltA s.ba (j * 2)))⟩, ⟨23, [], .int .i64 ((s.bn : Nat) : Int)⟩, ⟨24, [], .int .i64 ((j : Nat) : Int)⟩]) rfl ?_
          refine GL_fin (E' := [⟨0, [], pt x⟩, ⟨1, [], .slice la l.length lc⟩, ⟨4, [], .int .i64 ((u : Nat) : Int)⟩, ⟨6, [], .pointer (some (eltA s.ba (j * 2)))⟩, ⟨7, [], .int .i64 (nextK (l.getD u 0) (((X.getD j default).now.size : Int) - ((X.getD j default).kept.size : Int) + 1))⟩, ⟨23, [], .int .i64 ((s.bn : Nat) : Int)⟩, ⟨24, [], .int .i64 ((j : Nat) : Int)⟩]) [] [0, 1, 4, 6, 7, 23, 24] rfl (by kernel_rfl) ?_
          refine N_join ((nextK (l.getD u 0) (((X.getD j default).now.size : Int) - ((X.getD j default).kept.size : Int) + 1))) [0, 1, 4, 6, 7, 23, 24] (by kernel_rfl) (fun w h => (((h.front (j := 2) rfl).front (j := 2) rfl).front (j := 2) rfl)) rfl
        ·
          replace hc4 := of_decide_eq_false hc4
          refine G_skip ?_
          refine N_join (0) [0, 1, 4, 6, 7, 23, 24] (by kernel_rfl) (fun w h => (((h.front (j := 2) rfl).front (j := 2) rfl).front (j := 2) rfl)) (by rw [getD_over (by omega), nextK0 (by omega)])
      ·
        rintro nz hnk
        have hnb := nextK_bd (k := l.getD u 0) (n := (((X.getD j default).now.size : Int) - ((X.getD j default).kept.size : Int) + 1)) (by omega)
        rw [← hnk] at hnb
        refine N_then ?_
        refine G_seq ?_
        have hw11 : IntKind.wrap .i64 (((u : Nat) : Int) + 1) = ((u : Nat) : Int) + 1 := w64 (by omega) (by omega)
        refine G_pure (E' := [⟨0, [], pt x⟩, ⟨1, [], .slice la l.length lc⟩, ⟨4, [], .int .i64 (((u : Nat) : Int) + 1)⟩, ⟨6, [], .pointer (some (eltA s.ba (j * 2)))⟩, ⟨7, [], .int .i64 nz⟩, ⟨23, [], .int .i64 ((s.bn : Nat) : Int)⟩, ⟨24, [], .int .i64 ((j : Nat) : Int)⟩]) [0, 0, 0] [0, 1, 4, 6, 7, 23, 24] rfl (Eq.trans (b := some [⟨0, [], pt x⟩, ⟨1, [], .slice la l.length lc⟩, ⟨4, [], .int .i64 (IntKind.wrap .i64 (((u : Nat) : Int) + 1))⟩, ⟨6, [], .pointer (some (eltA s.ba (j * 2)))⟩, ⟨7, [], .int .i64 nz⟩, ⟨23, [], .int .i64 ((s.bn : Nat) : Int)⟩, ⟨24, [], .int .i64 ((j : Nat) : Int)⟩]) (by kernel_rfl) (by simp only [hw11])) ?_
        refine N_then ?_
        refine G_regionH ([(x, .cells #[.int .i64 M.room, .slice s.ba s.bn s.bc, .slice s.na s.nn s.nc, .slice s.ka s.kn s.kc, .slice s.ca s.cn s.cc, .bool M.fails, .bool M.once, .int .i64 M.calls] 86 (0, 0))] :: s.cg :: (s.Z ++ H)) (by kernel_rfl) ?_
        refine GH_pure (E' := [⟨70, [], .pointer (some (eltA s.ba (j * 2)))⟩, ⟨0, [], pt x⟩, ⟨1, [], .slice la l.length lc⟩, ⟨4, [], .int .i64 (((u : Nat) : Int) + 1)⟩, ⟨6, [], .pointer (some (eltA s.ba (j * 2)))⟩, ⟨7, [], .int .i64 nz⟩, ⟨23, [], .int .i64 ((s.bn : Nat) : Int)⟩, ⟨24, [], .int .i64 ((j : Nat) : Int)⟩]) 0 0 (by kernel_rfl) (fun w h => (((h.front (j := 2) rfl).front (j := 1) rfl).erase 2)) (by kernel_rfl) ?_
        refine GH_pure (E' := [⟨71, [], .pointer (some (eltA s.ba (j * 2)))⟩, ⟨70, [], .pointer (some (eltA s.ba (j * 2)))⟩, ⟨0, [], pt x⟩, ⟨1, [], .slice la l.length lc⟩, ⟨4, [], .int .i64 (((u : Nat) : Int) + 1)⟩, ⟨6, [], .pointer (some (eltA s.ba (j * 2)))⟩, ⟨7, [], .int .i64 nz⟩, ⟨23, [], .int .i64 ((s.bn : Nat) : Int)⟩, ⟨24, [], .int .i64 ((j : Nat) : Int)⟩]) 1 0 (by kernel_rfl) (fun w h => (((h.front (j := 2) rfl).front (j := 1) rfl).erase 2)) (by kernel_rfl) ?_
        refine GH_nil (ad := (eltA s.ba (j * 2))) 2 rfl rfl rfl (by kernel_rfl) (by kernel_rfl) (by kernel_rfl) (by kernel_rfl) (by kernel_rfl) (fun w h => (((h.front (j := 2) rfl).front (j := 1) rfl).erase 2)) ?_
        refine GH_pure (E' := [⟨73, [], .pointer (some (eltA s.ba (j * 2)))⟩, ⟨70, [], .pointer (some (eltA s.ba (j * 2)))⟩, ⟨0, [], pt x⟩, ⟨1, [], .slice la l.length lc⟩, ⟨4, [], .int .i64 (((u : Nat) : Int) + 1)⟩, ⟨6, [], .pointer (some (eltA s.ba (j * 2)))⟩, ⟨7, [], .int .i64 nz⟩, ⟨23, [], .int .i64 ((s.bn : Nat) : Int)⟩, ⟨24, [], .int .i64 ((j : Nat) : Int)⟩]) 3 0 (by kernel_rfl) (fun w h => (((h.front (j := 2) rfl).front (j := 1) rfl).erase 2)) (by kernel_rfl) ?_
        refine GH_pure (E' := [⟨75, [], .pointer (some (eltA s.ba (j * 2)))⟩, ⟨73, [], .pointer (some (eltA s.ba (j * 2)))⟩, ⟨70, [], .pointer (some (eltA s.ba (j * 2)))⟩, ⟨0, [], pt x⟩, ⟨1, [], .slice la l.length lc⟩, ⟨4, [], .int .i64 (((u : Nat) : Int) + 1)⟩, ⟨6, [], .pointer (some (eltA s.ba (j * 2)))⟩, ⟨7, [], .int .i64 nz⟩, ⟨23, [], .int .i64 ((s.bn : Nat) : Int)⟩, ⟨24, [], .int .i64 ((j : Nat) : Int)⟩]) 5 0 (by kernel_rfl) (fun w h => (((h.front (j := 2) rfl).front (j := 1) rfl).erase 2)) (by kernel_rfl) ?_
        refine GH_nil (ad := (eltA s.ba (j * 2))) 6 rfl rfl rfl (by kernel_rfl) (by kernel_rfl) (by kernel_rfl) (by kernel_rfl) (by kernel_rfl) (fun w h => (((h.front (j := 2) rfl).front (j := 1) rfl).erase 2)) ?_
        have hw12 : Addr.add (eltA s.ba (j * 2)) 1 = eltA s.ba (j * 2 + 1) := eltA_add _ _ _
        refine GH_pure (E' := [⟨77, [], .pointer (some (eltA s.ba (j * 2 + 1)))⟩, ⟨73, [], .pointer (some (eltA s.ba (j * 2)))⟩, ⟨70, [], .pointer (some (eltA s.ba (j * 2)))⟩, ⟨0, [], pt x⟩, ⟨1, [], .slice la l.length lc⟩, ⟨4, [], .int .i64 (((u : Nat) : Int) + 1)⟩, ⟨6, [], .pointer (some (eltA s.ba (j * 2)))⟩, ⟨7, [], .int .i64 nz⟩, ⟨23, [], .int .i64 ((s.bn : Nat) : Int)⟩, ⟨24, [], .int .i64 ((j : Nat) : Int)⟩]) 7 0 (by kernel_rfl) (fun w h => (((h.front (j := 2) rfl).front (j := 1) rfl).erase 2)) (Eq.trans (b := some [⟨77, [], .pointer (some (Addr.add (eltA s.ba (j * 2)) 1))⟩, ⟨73, [], .pointer (some (eltA s.ba (j * 2)))⟩, ⟨70, [], .pointer (some (eltA s.ba (j * 2)))⟩, ⟨0, [], pt x⟩, ⟨1, [], .slice la l.length lc⟩, ⟨4, [], .int .i64 (((u : Nat) : Int) + 1)⟩, ⟨6, [], .pointer (some (eltA s.ba (j * 2)))⟩, ⟨7, [], .int .i64 nz⟩, ⟨23, [], .int .i64 ((s.bn : Nat) : Int)⟩, ⟨24, [], .int .i64 ((j : Nat) : Int)⟩]) (by kernel_rfl) (by simp only [hw12])) ?_
        refine GH_pure (E' := [⟨80, [], .int .i64 nz⟩, ⟨77, [], .pointer (some (eltA s.ba (j * 2 + 1)))⟩, ⟨73, [], .pointer (some (eltA s.ba (j * 2)))⟩, ⟨70, [], .pointer (some (eltA s.ba (j * 2)))⟩, ⟨0, [], pt x⟩, ⟨1, [], .slice la l.length lc⟩, ⟨4, [], .int .i64 (((u : Nat) : Int) + 1)⟩, ⟨6, [], .pointer (some (eltA s.ba (j * 2)))⟩, ⟨23, [], .int .i64 ((s.bn : Nat) : Int)⟩, ⟨24, [], .int .i64 ((j : Nat) : Int)⟩]) 10 0 (by kernel_rfl) (fun w h => (((h.front (j := 2) rfl).front (j := 1) rfl).erase 2)) (by kernel_rfl) ?_
        refine GH_eff2 4 8 (by kernel_rfl) (by kernel_rfl) (by kernel_rfl) (by kernel_rfl) (by kernel_rfl) ?_ ?_
        ·
          refine GL_loadS (i := 4) (ch := []) (a := s.ba) (q := j * 2) (S := (inG bg2)) (cs := (bdC X)) (v := .string ((X.getD j default).now)) rfl rfl (by kernel_rfl) (by kernel_rfl) (by kernel_rfl) (by kernel_rfl) (by kernel_rfl) (own_rd hO2) (at_inG 1 rfl) (fun _ => (bdC_at0 (by omega))) ?_
          refine GH_back (by kernel_rfl) (fun w h => (((h.front (j := 2) rfl).front (j := 1) rfl).erase 2)) ?_
          refine GH_eff 8 (by kernel_rfl) (by kernel_rfl) (by kernel_rfl) ?_
          refine GL_loadS (i := 8) (ch := []) (a := s.ba) (q := j * 2 + 1) (S := (inG bg2)) (cs := (bdC X)) (v := .string ((X.getD j default).kept)) rfl rfl (by kernel_rfl) (by kernel_rfl) (by kernel_rfl) (by kernel_rfl) (by kernel_rfl) (own_rd hO2) (at_inG 1 rfl) (fun _ => (bdC_at1 (by omega))) ?_
          refine GH_back (by kernel_rfl) (fun w h => (((h.front (j := 2) rfl).front (j := 1) rfl).erase 2)) ?_
          refine GH_pev (v := .int .i64 (((X.getD j default).kept).size : Int)) 9 rfl rfl (by kernel_rfl) (by kernel_rfl) (by kernel_rfl) (by kernel_rfl) (by kernel_rfl) (fun w h => (((h.front (j := 2) rfl).front (j := 1) rfl).erase 2)) ?_
          have hw13 : IntKind.wrap .i64 ((((X.getD j default).kept).size : Int) + nz) = (((X.getD j default).kept).size : Int) + nz := w64 (by omega) (by omega)
          refine GH_pure (E' := [⟨81, [], .int .i64 ((((X.getD j default).kept).size : Int) + nz)⟩, ⟨74, [], .string ((X.getD j default).now)⟩, ⟨70, [], .pointer (some (eltA s.ba (j * 2)))⟩, ⟨0, [], pt x⟩, ⟨1, [], .slice la l.length lc⟩, ⟨4, [], .int .i64 (((u : Nat) : Int) + 1)⟩, ⟨6, [], .pointer (some (eltA s.ba (j * 2)))⟩, ⟨23, [], .int .i64 ((s.bn : Nat) : Int)⟩, ⟨24, [], .int .i64 ((j : Nat) : Int)⟩]) 11 0 (by kernel_rfl) (fun w h => (((h.front (j := 2) rfl).front (j := 1) rfl).erase 2)) (Eq.trans (b := some [⟨81, [], .int .i64 (IntKind.wrap .i64 ((((X.getD j default).kept).size : Int) + nz))⟩, ⟨74, [], .string ((X.getD j default).now)⟩, ⟨70, [], .pointer (some (eltA s.ba (j * 2)))⟩, ⟨0, [], pt x⟩, ⟨1, [], .slice la l.length lc⟩, ⟨4, [], .int .i64 (((u : Nat) : Int) + 1)⟩, ⟨6, [], .pointer (some (eltA s.ba (j * 2)))⟩, ⟨23, [], .int .i64 ((s.bn : Nat) : Int)⟩, ⟨24, [], .int .i64 ((j : Nat) : Int)⟩]) (by kernel_rfl) (by simp only [hw13])) ?_
          refine GH_take' (E' := [⟨82, [], .string (((X.getD j default).now).extract 0 (Int.toNat ((((X.getD j default).kept).size : Int) + nz)))⟩, ⟨81, [], .int .i64 ((((X.getD j default).kept).size : Int) + nz)⟩, ⟨74, [], .string ((X.getD j default).now)⟩, ⟨70, [], .pointer (some (eltA s.ba (j * 2)))⟩, ⟨0, [], pt x⟩, ⟨1, [], .slice la l.length lc⟩, ⟨4, [], .int .i64 (((u : Nat) : Int) + 1)⟩, ⟨6, [], .pointer (some (eltA s.ba (j * 2)))⟩, ⟨23, [], .int .i64 ((s.bn : Nat) : Int)⟩, ⟨24, [], .int .i64 ((j : Nat) : Int)⟩]) 12 (by kernel_rfl) (fun w h => (((h.front (j := 2) rfl).front (j := 1) rfl).erase 2)) ?_ ?_
          ·
            refine GL_sliceS (i := 12) (ch := []) (s := (X.getD j default).now) (vl := none) (vh := (some (.int .i64 ((((X.getD j default).kept).size : Int) + nz)))) (l := 0) (h := (((X.getD j default).kept).size : Int) + nz) rfl rfl (by kernel_rfl) (by kernel_rfl) (by kernel_rfl) (by kernel_rfl) (by kernel_rfl) (by kernel_rfl) (by kernel_rfl) (by kernel_rfl) (by kernel_rfl) (by omega) ?_
            exact GL_yend (by kernel_rfl) (by kernel_rfl)
          refine GH_nil (ad := (eltA s.ba (j * 2))) 13 rfl rfl rfl (by kernel_rfl) (by kernel_rfl) (by kernel_rfl) (by kernel_rfl) (by kernel_rfl) (fun w h => (((h.front (j := 2) rfl).front (j := 1) rfl).erase 2)) ?_
          have hw14 : Addr.add (eltA s.ba (j * 2)) 1 = eltA s.ba (j * 2 + 1) := eltA_add _ _ _
          refine GH_pure (E' := [⟨84, [], .pointer (some (eltA s.ba (j * 2 + 1)))⟩, ⟨82, [], .string (((X.getD j default).now).extract 0 (Int.toNat ((((X.getD j default).kept).size : Int) + nz)))⟩, ⟨0, [], pt x⟩, ⟨1, [], .slice la l.length lc⟩, ⟨4, [], .int .i64 (((u : Nat) : Int) + 1)⟩, ⟨6, [], .pointer (some (eltA s.ba (j * 2)))⟩, ⟨23, [], .int .i64 ((s.bn : Nat) : Int)⟩, ⟨24, [], .int .i64 ((j : Nat) : Int)⟩]) 14 0 (by kernel_rfl) (fun w h => (((h.front (j := 2) rfl).front (j := 1) rfl).erase 2)) (Eq.trans (b := some [⟨84, [], .pointer (some (Addr.add (eltA s.ba (j * 2)) 1))⟩, ⟨82, [], .string (((X.getD j default).now).extract 0 (Int.toNat ((((X.getD j default).kept).size : Int) + nz)))⟩, ⟨0, [], pt x⟩, ⟨1, [], .slice la l.length lc⟩, ⟨4, [], .int .i64 (((u : Nat) : Int) + 1)⟩, ⟨6, [], .pointer (some (eltA s.ba (j * 2)))⟩, ⟨23, [], .int .i64 ((s.bn : Nat) : Int)⟩, ⟨24, [], .int .i64 ((j : Nat) : Int)⟩]) (by kernel_rfl) (by simp only [hw14])) ?_
          refine GH_eff 15 (by kernel_rfl) (by kernel_rfl) (by kernel_rfl) ?_
          refine GL_storeO (i := 15) (ch := []) (a := s.ba) (q := j * 2 + 1) (len := s.bn) (cap := s.bc) (v := .string (((X.getD j default).now).extract 0 (Int.toNat ((((X.getD j default).kept).size : Int) + nz)))) (g := bg2) (j := 1) (cs := (bdC X)) (cs' := (bdC (X.set j ⟨(X.getD j default).now, ((X.getD j default).now).extract 0 (Int.toNat ((((X.getD j default).kept).size : Int) + nz))⟩))) rfl rfl (by kernel_rfl) (by kernel_rfl) (by kernel_rfl) (by kernel_rfl) rfl (by kernel_rfl) (by kernel_rfl) (by kernel_rfl) rfl hO2 (by simp only [bdC_len, List.length_set]; omega) bdC_kept (fun g15 hO16 => ?_)
          refine GH_back (by kernel_rfl) (fun w h => (((h.front (j := 2) rfl).front (j := 1) rfl).erase 2)) ?_
          refine GH_done (E' := [⟨0, [], pt x⟩, ⟨1, [], .slice la l.length lc⟩, ⟨4, [], .int .i64 (((u : Nat) : Int) + 1)⟩, ⟨6, [], .pointer (some (eltA s.ba (j * 2)))⟩, ⟨23, [], .int .i64 ((s.bn : Nat) : Int)⟩, ⟨24, [], .int .i64 ((j : Nat) : Int)⟩]) [0, 1, 4, 6, 23, 24] (by kernel_rfl) (by kernel_rfl) ?_
          refine N_then ?_
          have hw17 : Addr.add (eltA s.ba (j * 2)) 1 = eltA s.ba (j * 2 + 1) := eltA_add _ _ _
          refine G_region ?_
          refine GL_pure (E' := [⟨88, [], .pointer (some (eltA s.ba (j * 2 + 1)))⟩, ⟨85, [], .pointer (some (eltA s.ba (j * 2)))⟩, ⟨0, [], pt x⟩, ⟨1, [], .slice la l.length lc⟩, ⟨4, [], .int .i64 (((u : Nat) : Int) + 1)⟩, ⟨23, [], .int .i64 ((s.bn : Nat) : Int)⟩, ⟨24, [], .int .i64 ((j : Nat) : Int)⟩]) [0, 0, 0, 0] (Eq.trans (b := some [⟨88, [], .pointer (some (Addr.add (eltA s.ba (j * 2)) 1))⟩, ⟨85, [], .pointer (some (eltA s.ba (j * 2)))⟩, ⟨0, [], pt x⟩, ⟨1, [], .slice la l.length lc⟩, ⟨4, [], .int .i64 (((u : Nat) : Int) + 1)⟩, ⟨23, [], .int .i64 ((s.bn : Nat) : Int)⟩, ⟨24, [], .int .i64 ((j : Nat) : Int)⟩]) (by kernel_rfl) (by simp only [hw17])) (j := 4) rfl ?_
          refine GL_loadS (i := 4) (ch := []) (a := s.ba) (q := j * 2 + 1) (S := (inG g15)) (cs := (bdC (X.set j ⟨(X.getD j default).now, ((X.getD j default).now).extract 0 (Int.toNat ((((X.getD j default).kept).size : Int) + nz))⟩))) (v := .string (((X.set j ⟨(X.getD j default).now, ((X.getD j default).now).extract 0 (Int.toNat ((((X.getD j default).kept).size : Int) + nz))⟩).getD j default).kept)) rfl rfl (by kernel_rfl) (by kernel_rfl) (by kernel_rfl) (by kernel_rfl) (by kernel_rfl) (own_rd hO16) (at_inG 1 rfl) (fun _ => (bdC_at1 (by simp only [List.length_set]; omega))) ?_
          refine GL_pure (E' := [⟨91, [], .pointer (some (eltA s.ba (j * 2)))⟩, ⟨89, [], .string (((X.set j ⟨(X.getD j default).now, ((X.getD j default).now).extract 0 (Int.toNat ((((X.getD j default).kept).size : Int) + nz))⟩).getD j default).kept)⟩, ⟨0, [], pt x⟩, ⟨1, [], .slice la l.length lc⟩, ⟨4, [], .int .i64 (((u : Nat) : Int) + 1)⟩, ⟨23, [], .int .i64 ((s.bn : Nat) : Int)⟩, ⟨24, [], .int .i64 ((j : Nat) : Int)⟩]) [0, 0] (by kernel_rfl) (j := 7) rfl ?_
          refine GL_storeO (i := 7) (ch := []) (a := s.ba) (q := j * 2) (len := s.bn) (cap := s.bc) (v := .string (((X.set j ⟨(X.getD j default).now, ((X.getD j default).now).extract 0 (Int.toNat ((((X.getD j default).kept).size : Int) + nz))⟩).getD j default).kept)) (g := g15) (j := 1) (cs := (bdC (X.set j ⟨(X.getD j default).now, ((X.getD j default).now).extract 0 (Int.toNat ((((X.getD j default).kept).size : Int) + nz))⟩))) (cs' := (bdC ((X.set j ⟨(X.getD j default).now, ((X.getD j default).now).extract 0 (Int.toNat ((((X.getD j default).kept).size : Int) + nz))⟩).set j ⟨((X.set j ⟨(X.getD j default).now, ((X.getD j default).now).extract 0 (Int.toNat ((((X.getD j default).kept).size : Int) + nz))⟩).getD j default).kept, ((X.set j ⟨(X.getD j default).now, ((X.getD j default).now).extract 0 (Int.toNat ((((X.getD j default).kept).size : Int) + nz))⟩).getD j default).kept⟩))) rfl rfl (by kernel_rfl) (by kernel_rfl) (by kernel_rfl) (by kernel_rfl) rfl (by kernel_rfl) (by kernel_rfl) (by kernel_rfl) rfl hO16 (by simp only [bdC_len, List.length_set]; omega) bdC_now (fun g18 hO19 => ?_)
          refine GL_fin (E' := [⟨0, [], pt x⟩, ⟨1, [], .slice la l.length lc⟩, ⟨4, [], .int .i64 (((u : Nat) : Int) + 1)⟩, ⟨23, [], .int .i64 ((s.bn : Nat) : Int)⟩, ⟨24, [], .int .i64 ((j : Nat) : Int)⟩]) [] [0, 1, 4, 23, 24] rfl (by kernel_rfl) ?_
          refine N_block ?_
          refine N_then ?_
          have hw20 : IntKind.wrap .i64 (((j : Nat) : Int) + 1) = ((j : Nat) : Int) + 1 := w64 (by omega) (by omega)
          refine G_pure (E' := [⟨0, [], pt x⟩, ⟨1, [], .slice la l.length lc⟩, ⟨4, [], .int .i64 (((u : Nat) : Int) + 1)⟩, ⟨23, [], .int .i64 ((s.bn : Nat) : Int)⟩, ⟨24, [], .int .i64 (((j : Nat) : Int) + 1)⟩]) [0, 0] [0, 1, 4, 23, 24] rfl (Eq.trans (b := some [⟨0, [], pt x⟩, ⟨1, [], .slice la l.length lc⟩, ⟨4, [], .int .i64 (((u : Nat) : Int) + 1)⟩, ⟨23, [], .int .i64 ((s.bn : Nat) : Int)⟩, ⟨24, [], .int .i64 (IntKind.wrap .i64 (((j : Nat) : Int) + 1))⟩]) (by kernel_rfl) (by simp only [hw20])) ?_
          refine N_heap (H' := ([(x, .cells #[.int .i64 M.room, .slice s.ba s.bn s.bc, .slice s.na s.nn s.nc, .slice s.ka s.kn s.kc, .slice s.ca s.cn s.cc, .bool M.fails, .bool M.once, .int .i64 M.calls] 86 (0, 0))] :: g18 :: s.cg :: (s.Z ++ H))) (fun w h => (((h.front (j := 2) rfl).front (j := 2) rfl).front (j := 2) rfl)) ?_
          refine N_heq (H' := ([(x, .cells #[.int .i64 M.room, .slice s.ba s.bn s.bc, .slice s.na s.nn s.nc, .slice s.ka s.kn s.kc, .slice s.ca s.cn s.cc, .bool M.fails, .bool M.once, .int .i64 M.calls] 86 (0, 0))] :: g18 :: s.cg :: (s.Z ++ H))) rfl ?_
          refine N_round (s' := (j + 1, u + 1, ((X.set j ⟨(X.getD j default).now, ((X.getD j default).now).extract 0 (Int.toNat ((((X.getD j default).kept).size : Int) + nz))⟩).set j ⟨((X.set j ⟨(X.getD j default).now, ((X.getD j default).now).extract 0 (Int.toNat ((((X.getD j default).kept).size : Int) + nz))⟩).getD j default).kept, ((X.set j ⟨(X.getD j default).now, ((X.getD j default).now).extract 0 (Int.toNat ((((X.getD j default).kept).size : Int) + nz))⟩).getD j default).kept⟩), g18)) [0, 1, 4, 23, 24] (by kernel_rfl) rfl ⟨(by omega), (by show u + 1 ≤ j + 1; omega), (crb_yes hX (by omega) h.well.pre hne hnk), hO19⟩ (by omega)
        ·
          refine GL_loadS (i := 8) (ch := []) (a := s.ba) (q := j * 2 + 1) (S := (inG bg2)) (cs := (bdC X)) (v := .string ((X.getD j default).kept)) rfl rfl (by kernel_rfl) (by kernel_rfl) (by kernel_rfl) (by kernel_rfl) (by kernel_rfl) (own_rd hO2) (at_inG 1 rfl) (fun _ => (bdC_at1 (by omega))) ?_
          refine GH_back (by kernel_rfl) (fun w h => (((h.front (j := 2) rfl).front (j := 1) rfl).erase 2)) ?_
          refine GH_pev (v := .int .i64 (((X.getD j default).kept).size : Int)) 9 rfl rfl (by kernel_rfl) (by kernel_rfl) (by kernel_rfl) (by kernel_rfl) (by kernel_rfl) (fun w h => (((h.front (j := 2) rfl).front (j := 1) rfl).erase 2)) ?_
          have hw21 : IntKind.wrap .i64 ((((X.getD j default).kept).size : Int) + nz) = (((X.getD j default).kept).size : Int) + nz := w64 (by omega) (by omega)
          refine GH_pure (E' := [⟨81, [], .int .i64 ((((X.getD j default).kept).size : Int) + nz)⟩, ⟨73, [], .pointer (some (eltA s.ba (j * 2)))⟩, ⟨70, [], .pointer (some (eltA s.ba (j * 2)))⟩, ⟨0, [], pt x⟩, ⟨1, [], .slice la l.length lc⟩, ⟨4, [], .int .i64 (((u : Nat) : Int) + 1)⟩, ⟨6, [], .pointer (some (eltA s.ba (j * 2)))⟩, ⟨23, [], .int .i64 ((s.bn : Nat) : Int)⟩, ⟨24, [], .int .i64 ((j : Nat) : Int)⟩]) 11 0 (by kernel_rfl) (fun w h => (((h.front (j := 2) rfl).front (j := 1) rfl).erase 2)) (Eq.trans (b := some [⟨81, [], .int .i64 (IntKind.wrap .i64 ((((X.getD j default).kept).size : Int) + nz))⟩, ⟨73, [], .pointer (some (eltA s.ba (j * 2)))⟩, ⟨70, [], .pointer (some (eltA s.ba (j * 2)))⟩, ⟨0, [], pt x⟩, ⟨1, [], .slice la l.length lc⟩, ⟨4, [], .int .i64 (((u : Nat) : Int) + 1)⟩, ⟨6, [], .pointer (some (eltA s.ba (j * 2)))⟩, ⟨23, [], .int .i64 ((s.bn : Nat) : Int)⟩, ⟨24, [], .int .i64 ((j : Nat) : Int)⟩]) (by kernel_rfl) (by simp only [hw21])) ?_
          refine GH_eff 4 (by kernel_rfl) (by kernel_rfl) (by kernel_rfl) ?_
          refine GL_loadS (i := 4) (ch := []) (a := s.ba) (q := j * 2) (S := (inG bg2)) (cs := (bdC X)) (v := .string ((X.getD j default).now)) rfl rfl (by kernel_rfl) (by kernel_rfl) (by kernel_rfl) (by kernel_rfl) (by kernel_rfl) (own_rd hO2) (at_inG 1 rfl) (fun _ => (bdC_at0 (by omega))) ?_
          refine GH_back (by kernel_rfl) (fun w h => (((h.front (j := 2) rfl).front (j := 1) rfl).erase 2)) ?_
          refine GH_take' (E' := [⟨82, [], .string (((X.getD j default).now).extract 0 (Int.toNat ((((X.getD j default).kept).size : Int) + nz)))⟩, ⟨74, [], .string ((X.getD j default).now)⟩, ⟨81, [], .int .i64 ((((X.getD j default).kept).size : Int) + nz)⟩, ⟨73, [], .pointer (some (eltA s.ba (j * 2)))⟩, ⟨70, [], .pointer (some (eltA s.ba (j * 2)))⟩, ⟨0, [], pt x⟩, ⟨1, [], .slice la l.length lc⟩, ⟨4, [], .int .i64 (((u : Nat) : Int) + 1)⟩, ⟨6, [], .pointer (some (eltA s.ba (j * 2)))⟩, ⟨23, [], .int .i64 ((s.bn : Nat) : Int)⟩, ⟨24, [], .int .i64 ((j : Nat) : Int)⟩]) 12 (by kernel_rfl) (fun w h => (((h.front (j := 2) rfl).front (j := 1) rfl).erase 2)) ?_ ?_
          ·
            refine GL_sliceS (i := 12) (ch := []) (s := (X.getD j default).now) (vl := none) (vh := (some (.int .i64 ((((X.getD j default).kept).size : Int) + nz)))) (l := 0) (h := (((X.getD j default).kept).size : Int) + nz) rfl rfl (by kernel_rfl) (by kernel_rfl) (by kernel_rfl) (by kernel_rfl) (by kernel_rfl) (by kernel_rfl) (by kernel_rfl) (by kernel_rfl) (by kernel_rfl) (by omega) ?_
            exact GL_yend (by kernel_rfl) (by kernel_rfl)
          refine GH_nil (ad := (eltA s.ba (j * 2))) 13 rfl rfl rfl (by kernel_rfl) (by kernel_rfl) (by kernel_rfl) (by kernel_rfl) (by kernel_rfl) (fun w h => (((h.front (j := 2) rfl).front (j := 1) rfl).erase 2)) ?_
          have hw22 : Addr.add (eltA s.ba (j * 2)) 1 = eltA s.ba (j * 2 + 1) := eltA_add _ _ _
          refine GH_pure (E' := [⟨84, [], .pointer (some (eltA s.ba (j * 2 + 1)))⟩, ⟨82, [], .string (((X.getD j default).now).extract 0 (Int.toNat ((((X.getD j default).kept).size : Int) + nz)))⟩, ⟨0, [], pt x⟩, ⟨1, [], .slice la l.length lc⟩, ⟨4, [], .int .i64 (((u : Nat) : Int) + 1)⟩, ⟨6, [], .pointer (some (eltA s.ba (j * 2)))⟩, ⟨23, [], .int .i64 ((s.bn : Nat) : Int)⟩, ⟨24, [], .int .i64 ((j : Nat) : Int)⟩]) 14 0 (by kernel_rfl) (fun w h => (((h.front (j := 2) rfl).front (j := 1) rfl).erase 2)) (Eq.trans (b := some [⟨84, [], .pointer (some (Addr.add (eltA s.ba (j * 2)) 1))⟩, ⟨82, [], .string (((X.getD j default).now).extract 0 (Int.toNat ((((X.getD j default).kept).size : Int) + nz)))⟩, ⟨0, [], pt x⟩, ⟨1, [], .slice la l.length lc⟩, ⟨4, [], .int .i64 (((u : Nat) : Int) + 1)⟩, ⟨6, [], .pointer (some (eltA s.ba (j * 2)))⟩, ⟨23, [], .int .i64 ((s.bn : Nat) : Int)⟩, ⟨24, [], .int .i64 ((j : Nat) : Int)⟩]) (by kernel_rfl) (by simp only [hw22])) ?_
          refine GH_eff 15 (by kernel_rfl) (by kernel_rfl) (by kernel_rfl) ?_
          refine GL_storeO (i := 15) (ch := []) (a := s.ba) (q := j * 2 + 1) (len := s.bn) (cap := s.bc) (v := .string (((X.getD j default).now).extract 0 (Int.toNat ((((X.getD j default).kept).size : Int) + nz)))) (g := bg2) (j := 1) (cs := (bdC X)) (cs' := (bdC (X.set j ⟨(X.getD j default).now, ((X.getD j default).now).extract 0 (Int.toNat ((((X.getD j default).kept).size : Int) + nz))⟩))) rfl rfl (by kernel_rfl) (by kernel_rfl) (by kernel_rfl) (by kernel_rfl) rfl (by kernel_rfl) (by kernel_rfl) (by kernel_rfl) rfl hO2 (by simp only [bdC_len, List.length_set]; omega) bdC_kept (fun g23 hO24 => ?_)
          refine GH_back (by kernel_rfl) (fun w h => (((h.front (j := 2) rfl).front (j := 1) rfl).erase 2)) ?_
          refine GH_done (E' := [⟨0, [], pt x⟩, ⟨1, [], .slice la l.length lc⟩, ⟨4, [], .int .i64 (((u : Nat) : Int) + 1)⟩, ⟨6, [], .pointer (some (eltA s.ba (j * 2)))⟩, ⟨23, [], .int .i64 ((s.bn : Nat) : Int)⟩, ⟨24, [], .int .i64 ((j : Nat) : Int)⟩]) [0, 1, 4, 6, 23, 24] (by kernel_rfl) (by kernel_rfl) ?_
          refine N_then ?_
          have hw25 : Addr.add (eltA s.ba (j * 2)) 1 = eltA s.ba (j * 2 + 1) := eltA_add _ _ _
          refine G_region ?_
          refine GL_pure (E' := [⟨88, [], .pointer (some (eltA s.ba (j * 2 + 1)))⟩, ⟨85, [], .pointer (some (eltA s.ba (j * 2)))⟩, ⟨0, [], pt x⟩, ⟨1, [], .slice la l.length lc⟩, ⟨4, [], .int .i64 (((u : Nat) : Int) + 1)⟩, ⟨23, [], .int .i64 ((s.bn : Nat) : Int)⟩, ⟨24, [], .int .i64 ((j : Nat) : Int)⟩]) [0, 0, 0, 0] (Eq.trans (b := some [⟨88, [], .pointer (some (Addr.add (eltA s.ba (j * 2)) 1))⟩, ⟨85, [], .pointer (some (eltA s.ba (j * 2)))⟩, ⟨0, [], pt x⟩, ⟨1, [], .slice la l.length lc⟩, ⟨4, [], .int .i64 (((u : Nat) : Int) + 1)⟩, ⟨23, [], .int .i64 ((s.bn : Nat) : Int)⟩, ⟨24, [], .int .i64 ((j : Nat) : Int)⟩]) (by kernel_rfl) (by simp only [hw25])) (j := 4) rfl ?_
          refine GL_loadS (i := 4) (ch := []) (a := s.ba) (q := j * 2 + 1) (S := (inG g23)) (cs := (bdC (X.set j ⟨(X.getD j default).now, ((X.getD j default).now).extract 0 (Int.toNat ((((X.getD j default).kept).size : Int) + nz))⟩))) (v := .string (((X.set j ⟨(X.getD j default).now, ((X.getD j default).now).extract 0 (Int.toNat ((((X.getD j default).kept).size : Int) + nz))⟩).getD j default).kept)) rfl rfl (by kernel_rfl) (by kernel_rfl) (by kernel_rfl) (by kernel_rfl) (by kernel_rfl) (own_rd hO24) (at_inG 1 rfl) (fun _ => (bdC_at1 (by simp only [List.length_set]; omega))) ?_
          refine GL_pure (E' := [⟨91, [], .pointer (some (eltA s.ba (j * 2)))⟩, ⟨89, [], .string (((X.set j ⟨(X.getD j default).now, ((X.getD j default).now).extract 0 (Int.toNat ((((X.getD j default).kept).size : Int) + nz))⟩).getD j default).kept)⟩, ⟨0, [], pt x⟩, ⟨1, [], .slice la l.length lc⟩, ⟨4, [], .int .i64 (((u : Nat) : Int) + 1)⟩, ⟨23, [], .int .i64 ((s.bn : Nat) : Int)⟩, ⟨24, [], .int .i64 ((j : Nat) : Int)⟩]) [0, 0] (by kernel_rfl) (j := 7) rfl ?_
          refine GL_storeO (i := 7) (ch := []) (a := s.ba) (q := j * 2) (len := s.bn) (cap := s.bc) (v := .string (((X.set j ⟨(X.getD j default).now, ((X.getD j default).now).extract 0 (Int.toNat ((((X.getD j default).kept).size : Int) + nz))⟩).getD j default).kept)) (g := g23) (j := 1) (cs := (bdC (X.set j ⟨(X.getD j default).now, ((X.getD j default).now).extract 0 (Int.toNat ((((X.getD j default).kept).size : Int) + nz))⟩))) (cs' := (bdC ((X.set j ⟨(X.getD j default).now, ((X.getD j default).now).extract 0 (Int.toNat ((((X.getD j default).kept).size : Int) + nz))⟩).set j ⟨((X.set j ⟨(X.getD j default).now, ((X.getD j default).now).extract 0 (Int.toNat ((((X.getD j default).kept).size : Int) + nz))⟩).getD j default).kept, ((X.set j ⟨(X.getD j default).now, ((X.getD j default).now).extract 0 (Int.toNat ((((X.getD j default).kept).size : Int) + nz))⟩).getD j default).kept⟩))) rfl rfl (by kernel_rfl) (by kernel_rfl) (by kernel_rfl) (by kernel_rfl) rfl (by kernel_rfl) (by kernel_rfl) (by kernel_rfl) rfl hO24 (by simp only [bdC_len, List.length_set]; omega) bdC_now (fun g26 hO27 => ?_)
          refine GL_fin (E' := [⟨0, [], pt x⟩, ⟨1, [], .slice la l.length lc⟩, ⟨4, [], .int .i64 (((u : Nat) : Int) + 1)⟩, ⟨23, [], .int .i64 ((s.bn : Nat) : Int)⟩, ⟨24, [], .int .i64 ((j : Nat) : Int)⟩]) [] [0, 1, 4, 23, 24] rfl (by kernel_rfl) ?_
          refine N_block ?_
          refine N_then ?_
          have hw28 : IntKind.wrap .i64 (((j : Nat) : Int) + 1) = ((j : Nat) : Int) + 1 := w64 (by omega) (by omega)
          refine G_pure (E' := [⟨0, [], pt x⟩, ⟨1, [], .slice la l.length lc⟩, ⟨4, [], .int .i64 (((u : Nat) : Int) + 1)⟩, ⟨23, [], .int .i64 ((s.bn : Nat) : Int)⟩, ⟨24, [], .int .i64 (((j : Nat) : Int) + 1)⟩]) [0, 0] [0, 1, 4, 23, 24] rfl (Eq.trans (b := some [⟨0, [], pt x⟩, ⟨1, [], .slice la l.length lc⟩, ⟨4, [], .int .i64 (((u : Nat) : Int) + 1)⟩, ⟨23, [], .int .i64 ((s.bn : Nat) : Int)⟩, ⟨24, [], .int .i64 (IntKind.wrap .i64 (((j : Nat) : Int) + 1))⟩]) (by kernel_rfl) (by simp only [hw28])) ?_
          refine N_heap (H' := ([(x, .cells #[.int .i64 M.room, .slice s.ba s.bn s.bc, .slice s.na s.nn s.nc, .slice s.ka s.kn s.kc, .slice s.ca s.cn s.cc, .bool M.fails, .bool M.once, .int .i64 M.calls] 86 (0, 0))] :: g26 :: s.cg :: (s.Z ++ H))) (fun w h => (((h.front (j := 2) rfl).front (j := 2) rfl).front (j := 2) rfl)) ?_
          refine N_heq (H' := ([(x, .cells #[.int .i64 M.room, .slice s.ba s.bn s.bc, .slice s.na s.nn s.nc, .slice s.ka s.kn s.kc, .slice s.ca s.cn s.cc, .bool M.fails, .bool M.once, .int .i64 M.calls] 86 (0, 0))] :: g26 :: s.cg :: (s.Z ++ H))) rfl ?_
          refine N_round (s' := (j + 1, u + 1, ((X.set j ⟨(X.getD j default).now, ((X.getD j default).now).extract 0 (Int.toNat ((((X.getD j default).kept).size : Int) + nz))⟩).set j ⟨((X.set j ⟨(X.getD j default).now, ((X.getD j default).now).extract 0 (Int.toNat ((((X.getD j default).kept).size : Int) + nz))⟩).getD j default).kept, ((X.set j ⟨(X.getD j default).now, ((X.getD j default).now).extract 0 (Int.toNat ((((X.getD j default).kept).size : Int) + nz))⟩).getD j default).kept⟩), g26)) [0, 1, 4, 23, 24] (by kernel_rfl) rfl ⟨(by omega), (by show u + 1 ≤ j + 1; omega), (crb_yes hX (by omega) h.well.pre hne hnk), hO27⟩ (by omega)
    ·
      have hne := hc3
      -- L eq
      refine G_skip ?_
      refine N_then ?_
      have hw29 : Addr.add (eltA s.ba (j * 2)) 1 = eltA s.ba (j * 2 + 1) := eltA_add _ _ _
      refine G_region ?_
      refine GL_pure (E' := [⟨88, [], .pointer (some (eltA s.ba (j * 2 + 1)))⟩, ⟨85, [], .pointer (some (eltA s.ba (j * 2)))⟩, ⟨0, [], pt x⟩, ⟨1, [], .slice la l.length lc⟩, ⟨4, [], .int .i64 ((u : Nat) : Int)⟩, ⟨23, [], .int .i64 ((s.bn : Nat) : Int)⟩, ⟨24, [], .int .i64 ((j : Nat) : Int)⟩]) [0, 0, 0, 0] (Eq.trans (b := some [⟨88, [], .pointer (some (Addr.add (eltA s.ba (j * 2)) 1))⟩, ⟨85, [], .pointer (some (eltA s.ba (j * 2)))⟩, ⟨0, [], pt x⟩, ⟨1, [], .slice la l.length lc⟩, ⟨4, [], .int .i64 ((u : Nat) : Int)⟩, ⟨23, [], .int .i64 ((s.bn : Nat) : Int)⟩, ⟨24, [], .int .i64 ((j : Nat) : Int)⟩]) (by kernel_rfl) (by simp only [hw29])) (j := 4) rfl ?_
      refine GL_loadS (i := 4) (ch := []) (a := s.ba) (q := j * 2 + 1) (S := (inG bg2)) (cs := (bdC X)) (v := .string ((X.getD j default).kept)) rfl rfl (by kernel_rfl) (by kernel_rfl) (by kernel_rfl) (by kernel_rfl) (by kernel_rfl) (own_rd hO2) (at_inG 1 rfl) (fun _ => (bdC_at1 (by omega))) ?_
      refine GL_pure (E' := [⟨91, [], .pointer (some (eltA s.ba (j * 2)))⟩, ⟨89, [], .string ((X.getD j default).kept)⟩, ⟨0, [], pt x⟩, ⟨1, [], .slice la l.length lc⟩, ⟨4, [], .int .i64 ((u : Nat) : Int)⟩, ⟨23, [], .int .i64 ((s.bn : Nat) : Int)⟩, ⟨24, [], .int .i64 ((j : Nat) : Int)⟩]) [0, 0] (by kernel_rfl) (j := 7) rfl ?_
      refine GL_storeO (i := 7) (ch := []) (a := s.ba) (q := j * 2) (len := s.bn) (cap := s.bc) (v := .string ((X.getD j default).kept)) (g := bg2) (j := 1) (cs := (bdC X)) (cs' := (bdC (X.set j ⟨(X.getD j default).kept, (X.getD j default).kept⟩))) rfl rfl (by kernel_rfl) (by kernel_rfl) (by kernel_rfl) (by kernel_rfl) rfl (by kernel_rfl) (by kernel_rfl) (by kernel_rfl) rfl hO2 (by simp only [bdC_len, List.length_set]; omega) bdC_now (fun g30 hO31 => ?_)
      refine GL_fin (E' := [⟨0, [], pt x⟩, ⟨1, [], .slice la l.length lc⟩, ⟨4, [], .int .i64 ((u : Nat) : Int)⟩, ⟨23, [], .int .i64 ((s.bn : Nat) : Int)⟩, ⟨24, [], .int .i64 ((j : Nat) : Int)⟩]) [] [0, 1, 4, 23, 24] rfl (by kernel_rfl) ?_
      refine N_block ?_
      refine N_then ?_
      have hw32 : IntKind.wrap .i64 (((j : Nat) : Int) + 1) = ((j : Nat) : Int) + 1 := w64 (by omega) (by omega)
      refine G_pure (E' := [⟨0, [], pt x⟩, ⟨1, [], .slice la l.length lc⟩, ⟨4, [], .int .i64 ((u : Nat) : Int)⟩, ⟨23, [], .int .i64 ((s.bn : Nat) : Int)⟩, ⟨24, [], .int .i64 (((j : Nat) : Int) + 1)⟩]) [0, 0] [0, 1, 4, 23, 24] rfl (Eq.trans (b := some [⟨0, [], pt x⟩, ⟨1, [], .slice la l.length lc⟩, ⟨4, [], .int .i64 ((u : Nat) : Int)⟩, ⟨23, [], .int .i64 ((s.bn : Nat) : Int)⟩, ⟨24, [], .int .i64 (IntKind.wrap .i64 (((j : Nat) : Int) + 1))⟩]) (by kernel_rfl) (by simp only [hw32])) ?_
      refine N_heap (H' := ([(x, .cells #[.int .i64 M.room, .slice s.ba s.bn s.bc, .slice s.na s.nn s.nc, .slice s.ka s.kn s.kc, .slice s.ca s.cn s.cc, .bool M.fails, .bool M.once, .int .i64 M.calls] 86 (0, 0))] :: g30 :: s.cg :: (s.Z ++ H))) (fun w h => (((h.front (j := 2) rfl).front (j := 2) rfl).front (j := 2) rfl)) ?_
      refine N_heq (H' := ([(x, .cells #[.int .i64 M.room, .slice s.ba s.bn s.bc, .slice s.na s.nn s.nc, .slice s.ka s.kn s.kc, .slice s.ca s.cn s.cc, .bool M.fails, .bool M.once, .int .i64 M.calls] 86 (0, 0))] :: g30 :: s.cg :: (s.Z ++ H))) rfl ?_
      refine N_round (s' := (j + 1, u, (X.set j ⟨(X.getD j default).kept, (X.getD j default).kept⟩), g30)) [0, 1, 4, 23, 24] (by kernel_rfl) rfl ⟨(by omega), (by show u ≤ j + 1; omega), (crb_no hX (by omega) hne), hO31⟩ (by omega)
  ·
    replace hc1 := of_decide_eq_false hc1
    refine G_exit ?_
    refine N_then_exit ?_
    refine N_then_exit ?_
    refine N_block_exit ?_
    refine N_then ?_
    refine G_seq ?_
    refine G_block ?_
    have hjn : M.bodies.length ≤ j := by omega
    obtain ⟨hXb, hXu⟩ := crb_end hX hjn
    obtain ⟨hok0, hcr0⟩ := ok_rbodies h hm hXb hXu (by omega) hO2
    refine G_loop (EI := (fun ξ : RS × DM × Nat => [⟨0, [], pt x⟩, ⟨1, [], .slice la l.length lc⟩, ⟨4, [], .int .i64 ((ξ.2.2 : Nat) : Int)⟩])) (HI := (fun ξ : RS × DM × Nat => ([(x, .cells #[.int .i64 ξ.2.1.room, .slice ξ.1.ba ξ.1.bn ξ.1.bc, .slice ξ.1.na ξ.1.nn ξ.1.nc, .slice ξ.1.ka ξ.1.kn ξ.1.kc, .slice ξ.1.ca ξ.1.cn ξ.1.cc, .bool ξ.2.1.fails, .bool ξ.2.1.once, .int .i64 ξ.2.1.calls] 86 (0, 0))] :: ξ.1.bg :: ξ.1.cg :: (ξ.1.Z ++ H)))) (Φ := (fun ξ : RS × DM × Nat => (ξ.1.ok ξ.2.1) ∧ (CrD M l ξ.2.1 ξ.2.2))) (μ := (fun ξ : RS × DM × Nat => ξ.2.1.changes.length)) (s0 := ({ s with bg := bg2 }, { M with bodies := X }, u)) [0, 1, 4] (by kernel_rfl) rfl ⟨hok0, hcr0⟩ ?_
    rintro ⟨sr, Mr, u2⟩ ⟨hsr, hcr⟩
    replace hsr : sr.ok Mr := hsr
    replace hcr : CrD M l Mr u2 := hcr
    have hcn3 := hsr.cn
    have hkn3 := hsr.kn
    have hck3 := hcr.kept
    have hch3 := hsr.chs.len
    have hcl3 := hcr.len
    refine G_seq ?_
    refine G_seq ?_
    refine G_region ?_
    refine GL_pure (E' := [⟨95, [], .pointer (some ⟨x, 4, none⟩)⟩, ⟨0, [], pt x⟩, ⟨1, [], .slice la l.length lc⟩, ⟨4, [], .int .i64 ((u2 : Nat) : Int)⟩]) [0, 0, 0] (by kernel_rfl) (j := 3) rfl ?_
    refine GL_load (i := 3) (ch := []) (b := x) (off := 4) (v := .slice sr.ca sr.cn sr.cc) rfl rfl (by kernel_rfl) (by kernel_rfl) (by kernel_rfl) (by kernel_rfl) (by kernel_rfl) (At.grp 0 0 rfl rfl) rfl ?_
    refine GL_fin (E' := [⟨0, [], pt x⟩, ⟨1, [], .slice la l.length lc⟩, ⟨4, [], .int .i64 ((u2 : Nat) : Int)⟩, ⟨98, [], .bool (decide (((sr.cn : Nat) : Int) > 0))⟩]) [0, 0] [0, 1, 4, 98] rfl (by kernel_rfl) ?_
    refine N_then ?_
    refine G_cond (b := decide (((sr.cn : Nat) : Int) > 0)) (by kernel_rfl) (fun hc33 => ?_) (fun hc33 => ?_)
    ·
      replace hc33 := of_decide_eq_true hc33
      refine G_skip ?_
      refine N_then ?_
      refine G_block ?_
      refine G_seq ?_
      refine G_region ?_
      refine GL_pure (E' := [⟨101, [], .pointer (some ⟨x, 4, none⟩)⟩, ⟨0, [], pt x⟩, ⟨1, [], .slice la l.length lc⟩, ⟨4, [], .int .i64 ((u2 : Nat) : Int)⟩]) [0, 0, 0] (by kernel_rfl) (j := 3) rfl ?_
      refine GL_load (i := 3) (ch := []) (b := x) (off := 4) (v := .slice sr.ca sr.cn sr.cc) rfl rfl (by kernel_rfl) (by kernel_rfl) (by kernel_rfl) (by kernel_rfl) (by kernel_rfl) (At.grp 0 0 rfl rfl) rfl ?_
      refine GL_indexAddr (i := 4) (ch := []) (a := sr.ca) (len := sr.cn) (cap := sr.cc) (kd := .i64) (j := 0) (e := 104) (sz := 2) (S := (inG sr.cg)) (cs := (chC sr.cs)) rfl rfl (by kernel_rfl) (by kernel_rfl) (by kernel_rfl) (by kernel_rfl) (by kernel_rfl) (by kernel_rfl) (by kernel_rfl) (own_rd hsr.own2) (fun _ => by exact ⟨by omega, by omega, chC_ne (i := 0) (by omega)⟩) ?_
      refine GL_pure (E' := [⟨104, [], .pointer (some (eltA sr.ca (0 * 2)))⟩, ⟨0, [], pt x⟩, ⟨1, [], .slice la l.length lc⟩, ⟨4, [], .int .i64 ((u2 : Nat) : Int)⟩]) [0] (by kernel_rfl) (j := 6) rfl ?_
      refine GL_loadS (i := 6) (ch := []) (a := sr.ca) (q := 0 * 2) (S := (inG sr.cg)) (cs := (chC sr.cs)) (v := .string ((sr.cs.getD 0 default).dir)) rfl rfl (by kernel_rfl) (by kernel_rfl) (by kernel_rfl) (by kernel_rfl) (by kernel_rfl) (own_rd hsr.own2) (at_inG 2 rfl) (fun _ => (cells2_at0 (by omega))) ?_
      refine GL_fin (E' := [⟨0, [], pt x⟩, ⟨1, [], .slice la l.length lc⟩, ⟨4, [], .int .i64 ((u2 : Nat) : Int)⟩, ⟨9, [], .string ((sr.cs.getD 0 default).dir)⟩]) [0] [0, 1, 4, 9] rfl (by kernel_rfl) ?_
      refine N_then ?_
      refine G_seq ?_
      refine G_pure (E' := [⟨0, [], pt x⟩, ⟨1, [], .slice la l.length lc⟩, ⟨4, [], .int .i64 ((u2 : Nat) : Int)⟩, ⟨9, [], .string ((sr.cs.getD 0 default).dir)⟩, ⟨10, [], .int .i64 1⟩]) [0] [0, 1, 4, 9, 10] rfl (by kernel_rfl) ?_
      refine N_then ?_
      refine G_seq ?_
      refine G_seq ?_
      refine G_region ?_
      refine GL_pure (E' := [⟨108, [], .pointer (some ⟨x, 4, none⟩)⟩, ⟨0, [], pt x⟩, ⟨1, [], .slice la l.length lc⟩, ⟨4, [], .int .i64 ((u2 : Nat) : Int)⟩, ⟨9, [], .string ((sr.cs.getD 0 default).dir)⟩, ⟨10, [], .int .i64 1⟩]) [0, 0, 0] (by kernel_rfl) (j := 3) rfl ?_
      refine GL_load (i := 3) (ch := []) (b := x) (off := 4) (v := .slice sr.ca sr.cn sr.cc) rfl rfl (by kernel_rfl) (by kernel_rfl) (by kernel_rfl) (by kernel_rfl) (by kernel_rfl) (At.grp 0 0 rfl rfl) rfl ?_
      refine GL_fin (E' := [⟨0, [], pt x⟩, ⟨1, [], .slice la l.length lc⟩, ⟨4, [], .int .i64 ((u2 : Nat) : Int)⟩, ⟨9, [], .string ((sr.cs.getD 0 default).dir)⟩, ⟨10, [], .int .i64 1⟩, ⟨109, [], .slice sr.ca sr.cn sr.cc⟩, ⟨110, [], .int .i64 ((sr.cn : Nat) : Int)⟩, ⟨111, [], .int .i64 0⟩]) [0, 0] [0, 1, 4, 9, 10, 109, 110, 111] rfl (by kernel_rfl) ?_
      refine N_then ?_
      refine G_block ?_
      refine G_loop (EI := (fun ξ : Nat × ByteArray => [⟨0, [], pt x⟩, ⟨1, [], .slice la l.length lc⟩, ⟨4, [], .int .i64 ((u2 : Nat) : Int)⟩, ⟨9, [], .string ξ.2⟩, ⟨10, [], .int .i64 1⟩, ⟨109, [], .slice sr.ca sr.cn sr.cc⟩, ⟨110, [], .int .i64 ((sr.cn : Nat) : Int)⟩, ⟨111, [], .int .i64 ((ξ.1 : Nat) : Int)⟩])) (HI := (fun ξ : Nat × ByteArray => ([(x, .cells #[.int .i64 Mr.room, .slice sr.ba sr.bn sr.bc, .slice sr.na sr.nn sr.nc, .slice sr.ka sr.kn sr.kc, .slice sr.ca sr.cn sr.cc, .bool Mr.fails, .bool Mr.once, .int .i64 Mr.calls] 86 (0, 0))] :: sr.bg :: sr.cg :: (sr.Z ++ H)))) (Φ := (fun ξ : Nat × ByteArray => (ξ.1 ≤ sr.cs.length) ∧ (MinD sr.cs ξ.1 ξ.2))) (μ := (fun ξ : Nat × ByteArray => sr.cs.length - ξ.1)) (s0 := (0, (sr.cs.getD 0 default).dir)) [0, 1, 4, 9, 10, 109, 110, 111] (by kernel_rfl) rfl ⟨(by omega), (min0 (by omega))⟩ ?_
      rintro ⟨k3, ls⟩ ⟨hk3, hmn⟩
      replace hk3 : k3 ≤ sr.cs.length := hk3
      replace hmn : MinD sr.cs k3 ls := hmn
      refine G_seq ?_
      refine G_pure (E' := [⟨0, [], pt x⟩, ⟨1, [], .slice la l.length lc⟩, ⟨4, [], .int .i64 ((u2 : Nat) : Int)⟩, ⟨9, [], .string ls⟩, ⟨10, [], .int .i64 1⟩, ⟨109, [], .slice sr.ca sr.cn sr.cc⟩, ⟨110, [], .int .i64 ((sr.cn : Nat) : Int)⟩, ⟨111, [], .int .i64 ((k3 : Nat) : Int)⟩, ⟨112, [], .bool (decide (((k3 : Nat) : Int) < ((sr.cn : Nat) : Int)))⟩]) [0] [0, 1, 4, 9, 10, 109, 110, 111, 112] rfl (by kernel_rfl) ?_
      refine N_then ?_
      refine G_seq ?_
      refine G_cond (b := decide (((k3 : Nat) : Int) < ((sr.cn : Nat) : Int))) (by kernel_rfl) (fun hc34 => ?_) (fun hc34 => ?_)
      ·
        replace hc34 := of_decide_eq_true hc34
        refine G_skip ?_
        refine N_then ?_
        refine G_seq ?_
        refine G_block ?_
        refine G_seq ?_
        refine G_region ?_
        refine GL_indexAddr (i := 0) (ch := []) (a := sr.ca) (len := sr.cn) (cap := sr.cc) (kd := .i64) (j := ((k3 : Nat) : Int)) (e := 104) (sz := 2) (S := (inG sr.cg)) (cs := (chC sr.cs)) rfl rfl (by kernel_rfl) (by kernel_rfl) (by kernel_rfl) (by kernel_rfl) (by kernel_rfl) (by kernel_rfl) (by kernel_rfl) (own_rd hsr.own2) (fun _ => by exact ⟨by omega, by omega, chC_ne (i := k3) (by omega)⟩) ?_
        refine GL_loadSA (i := 1) (ch := []) (a := sr.ca) (q := k3 * 2) (S := (inG sr.cg)) (cs := (chC sr.cs)) (l := [.string ((sr.cs.getD k3 default).dir), .slice (sr.cs.getD k3 default).a ((sr.cs.getD k3 default).l.length) ((sr.cs.getD k3 default).c)]) rfl rfl (by kernel_rfl) (by kernel_rfl) (by kernel_rfl) (by kernel_rfl) (by kernel_rfl) (by kernel_rfl) (own_rd hsr.own2) (at_inG 2 rfl) (List.cons_ne_nil _ _) (fun _ => (fun m hm => (cells2_at (by omega) m hm).trans (List.getElem?_eq_getElem hm))) ?_
        refine GL_alloc (i := 2) (ch := []) (z := .agg #[.string (ByteArray.mk #[]), .slice none 0 0]) rfl rfl (by kernel_rfl) (by kernel_rfl) (by kernel_rfl) (by kernel_rfl) (fun b35 => ?_)
        refine GL_store (i := 3) (ch := []) (b := b35) (off := 0) (v := .agg #[.string ((sr.cs.getD k3 default).dir), .slice (sr.cs.getD k3 default).a ((sr.cs.getD k3 default).l.length) ((sr.cs.getD k3 default).c)]) (c := #[.string (ByteArray.mk #[]), .slice none 0 0]) (c' := #[.string ((sr.cs.getD k3 default).dir), .slice (sr.cs.getD k3 default).a ((sr.cs.getD k3 default).l.length) ((sr.cs.getD k3 default).c)]) (j := 0) (m := 0) (H' := ([(b35, .cells #[.string ((sr.cs.getD k3 default).dir), .slice (sr.cs.getD k3 default).a ((sr.cs.getD k3 default).l.length) ((sr.cs.getD k3 default).c)] 104 (0, 0))] :: [(x, .cells #[.int .i64 Mr.room, .slice sr.ba sr.bn sr.bc, .slice sr.na sr.nn sr.nc, .slice sr.ka sr.kn sr.kc, .slice sr.ca sr.cn sr.cc, .bool Mr.fails, .bool Mr.once, .int .i64 Mr.calls] 86 (0, 0))] :: sr.bg :: sr.cg :: (sr.Z ++ H))) rfl rfl (by kernel_rfl) (by kernel_rfl) (by kernel_rfl) (by kernel_rfl) (by kernel_rfl) (by kernel_rfl) (by kernel_rfl) rfl rfl (Nat.le_of_ble_eq_true rfl) (fun _ _ => thaw0) (by kernel_rfl) (by kernel_rfl) ?_
        refine GL_fin (E' := [⟨0, [], pt x⟩, ⟨1, [], .slice la l.length lc⟩, ⟨4, [], .int .i64 ((u2 : Nat) : Int)⟩, ⟨9, [], .string ls⟩, ⟨10, [], .int .i64 1⟩, ⟨12, [], pt b35⟩, ⟨109, [], .slice sr.ca sr.cn sr.cc⟩, ⟨110, [], .int .i64 ((sr.cn : Nat) : Int)⟩, ⟨111, [], .int .i64 ((k3 : Nat) : Int)⟩]) [] [0, 1, 4, 9, 10, 12, 109, 110, 111] rfl (by kernel_rfl) ?_
        refine N_then ?_
        refine G_seq ?_
        refine G_region ?_
        refine GL_pure (E' := [⟨115, [], pt b35⟩, ⟨0, [], pt x⟩, ⟨1, [], .slice la l.length lc⟩, ⟨4, [], .int .i64 ((u2 : Nat) : Int)⟩, ⟨9, [], .string ls⟩, ⟨10, [], .int .i64 1⟩, ⟨12, [], pt b35⟩, ⟨109, [], .slice sr.ca sr.cn sr.cc⟩, ⟨110, [], .int .i64 ((sr.cn : Nat) : Int)⟩, ⟨111, [], .int .i64 ((k3 : Nat) : Int)⟩]) [0] (by kernel_rfl) (j := 1) rfl ?_
        refine GL_load (i := 1) (ch := []) (b := b35) (off := 0) (v := .string ((sr.cs.getD k3 default).dir)) rfl rfl (by kernel_rfl) (by kernel_rfl) (by kernel_rfl) (by kernel_rfl) (by kernel_rfl) (At.grp 0 0 rfl rfl) rfl ?_
        refine GL_fin (E' := [⟨0, [], pt x⟩, ⟨1, [], .slice la l.length lc⟩, ⟨4, [], .int .i64 ((u2 : Nat) : Int)⟩, ⟨9, [], .string ls⟩, ⟨10, [], .int .i64 1⟩, ⟨12, [], pt b35⟩, ⟨109, [], .slice sr.ca sr.cn sr.cc⟩, ⟨110, [], .int .i64 ((sr.cn : Nat) : Int)⟩, ⟨111, [], .int .i64 ((k3 : Nat) : Int)⟩, ⟨118, [], .bool (Op.bytesLess ((sr.cs.getD k3 default).dir).toList ls.toList)⟩]) [0, 0] [0, 1, 4, 9, 10, 12, 109, 110, 111, 118] rfl (by kernel_rfl) ?_
        refine N_then ?_
        refine G_cond (b := Op.bytesLess ((sr.cs.getD k3 default).dir).toList ls.toList) (by kernel_rfl) (fun hc36 => ?_) (fun hc36 => ?_)
        ·
          have hlt3 := hc36
          -- L lt3
          refine G_region ?_
          refine GL_pure (E' := [⟨119, [], pt b35⟩, ⟨0, [], pt x⟩, ⟨1, [], .slice la l.length lc⟩, ⟨4, [], .int .i64 ((u2 : Nat) : Int)⟩, ⟨9, [], .string ls⟩, ⟨10, [], .int .i64 1⟩, ⟨109, [], .slice sr.ca sr.cn sr.cc⟩, ⟨110, [], .int .i64 ((sr.cn : Nat) : Int)⟩, ⟨111, [], .int .i64 ((k3 : Nat) : Int)⟩]) [0] (by kernel_rfl) (j := 1) rfl ?_
          refine GL_load (i := 1) (ch := []) (b := b35) (off := 0) (v := .string ((sr.cs.getD k3 default).dir)) rfl rfl (by kernel_rfl) (by kernel_rfl) (by kernel_rfl) (by kernel_rfl) (by kernel_rfl) (At.grp 0 0 rfl rfl) rfl ?_
          refine GL_fin (E' := [⟨0, [], pt x⟩, ⟨1, [], .slice la l.length lc⟩, ⟨4, [], .int .i64 ((u2 : Nat) : Int)⟩, ⟨9, [], .string ((sr.cs.getD k3 default).dir)⟩, ⟨10, [], .int .i64 1⟩, ⟨109, [], .slice sr.ca sr.cn sr.cc⟩, ⟨110, [], .int .i64 ((sr.cn : Nat) : Int)⟩, ⟨111, [], .int .i64 ((k3 : Nat) : Int)⟩]) [0] [0, 1, 4, 9, 10, 109, 110, 111] rfl (by kernel_rfl) ?_
          refine N_block ?_
          refine N_then ?_
          have hw37 : IntKind.wrap .i64 (((k3 : Nat) : Int) + 1) = ((k3 : Nat) : Int) + 1 := w64 (by omega) (by omega)
          refine G_pure (E' := [⟨0, [], pt x⟩, ⟨1, [], .slice la l.length lc⟩, ⟨4, [], .int .i64 ((u2 : Nat) : Int)⟩, ⟨9, [], .string ((sr.cs.getD k3 default).dir)⟩, ⟨10, [], .int .i64 1⟩, ⟨109, [], .slice sr.ca sr.cn sr.cc⟩, ⟨110, [], .int .i64 ((sr.cn : Nat) : Int)⟩, ⟨111, [], .int .i64 (((k3 : Nat) : Int) + 1)⟩]) [0, 0] [0, 1, 4, 9, 10, 109, 110, 111] rfl (Eq.trans (b := some [⟨0, [], pt x⟩, ⟨1, [], .slice la l.length lc⟩, ⟨4, [], .int .i64 ((u2 : Nat) : Int)⟩, ⟨9, [], .string ((sr.cs.getD k3 default).dir)⟩, ⟨10, [], .int .i64 1⟩, ⟨109, [], .slice sr.ca sr.cn sr.cc⟩, ⟨110, [], .int .i64 ((sr.cn : Nat) : Int)⟩, ⟨111, [], .int .i64 (IntKind.wrap .i64 (((k3 : Nat) : Int) + 1))⟩]) (by kernel_rfl) (by simp only [hw37])) ?_
          refine N_heap (H' := ([(x, .cells #[.int .i64 Mr.room, .slice sr.ba sr.bn sr.bc, .slice sr.na sr.nn sr.nc, .slice sr.ka sr.kn sr.kc, .slice sr.ca sr.cn sr.cc, .bool Mr.fails, .bool Mr.once, .int .i64 Mr.calls] 86 (0, 0))] :: sr.bg :: sr.cg :: (sr.Z ++ H))) (fun w h => ((((h.front (j := 3) rfl).front (j := 3) rfl).front (j := 3) rfl).erase 3)) ?_
          refine N_round (s' := (k3 + 1, (sr.cs.getD k3 default).dir)) [0, 1, 4, 9, 10, 109, 110, 111] (by kernel_rfl) rfl ⟨(by omega), (min_yes hmn (by omega) hlt3)⟩ (by omega)
        ·
          have hlt3 := hc36
          refine G_skip ?_
          refine N_block ?_
          refine N_then ?_
          have hw38 : IntKind.wrap .i64 (((k3 : Nat) : Int) + 1) = ((k3 : Nat) : Int) + 1 := w64 (by omega) (by omega)
          refine G_pure (E' := [⟨0, [], pt x⟩, ⟨1, [], .slice la l.length lc⟩, ⟨4, [], .int .i64 ((u2 : Nat) : Int)⟩, ⟨9, [], .string ls⟩, ⟨10, [], .int .i64 1⟩, ⟨109, [], .slice sr.ca sr.cn sr.cc⟩, ⟨110, [], .int .i64 ((sr.cn : Nat) : Int)⟩, ⟨111, [], .int .i64 (((k3 : Nat) : Int) + 1)⟩]) [0, 0] [0, 1, 4, 9, 10, 109, 110, 111] rfl (Eq.trans (b := some [⟨0, [], pt x⟩, ⟨1, [], .slice la l.length lc⟩, ⟨4, [], .int .i64 ((u2 : Nat) : Int)⟩, ⟨9, [], .string ls⟩, ⟨10, [], .int .i64 1⟩, ⟨109, [], .slice sr.ca sr.cn sr.cc⟩, ⟨110, [], .int .i64 ((sr.cn : Nat) : Int)⟩, ⟨111, [], .int .i64 (IntKind.wrap .i64 (((k3 : Nat) : Int) + 1))⟩]) (by kernel_rfl) (by simp only [hw38])) ?_
          refine N_heap (H' := ([(x, .cells #[.int .i64 Mr.room, .slice sr.ba sr.bn sr.bc, .slice sr.na sr.nn sr.nc, .slice sr.ka sr.kn sr.kc, .slice sr.ca sr.cn sr.cc, .bool Mr.fails, .bool Mr.once, .int .i64 Mr.calls] 86 (0, 0))] :: sr.bg :: sr.cg :: (sr.Z ++ H))) (fun w h => ((((h.front (j := 3) rfl).front (j := 3) rfl).front (j := 3) rfl).erase 3)) ?_
          refine N_round (s' := (k3 + 1, ls)) [0, 1, 4, 9, 10, 109, 110, 111] (by kernel_rfl) rfl ⟨(by omega), (min_no hmn (by omega) hlt3)⟩ (by omega)
      ·
        replace hc34 := of_decide_eq_false hc34
        refine G_exit ?_
        refine N_then_exit ?_
        refine N_then_exit ?_
        refine N_block_exit ?_
        refine N_then ?_
        refine G_seq ?_
        refine G_seq ?_
        refine G_region ?_
        refine GL_pure (E' := [⟨124, [], .pointer (some ⟨x, 4, none⟩)⟩, ⟨0, [], pt x⟩, ⟨1, [], .slice la l.length lc⟩, ⟨4, [], .int .i64 ((u2 : Nat) : Int)⟩, ⟨9, [], .string ls⟩, ⟨10, [], .int .i64 1⟩]) [0, 0, 0] (by kernel_rfl) (j := 3) rfl ?_
        refine GL_load (i := 3) (ch := []) (b := x) (off := 4) (v := .slice sr.ca sr.cn sr.cc) rfl rfl (by kernel_rfl) (by kernel_rfl) (by kernel_rfl) (by kernel_rfl) (by kernel_rfl) (At.grp 0 0 rfl rfl) rfl ?_
        refine GL_fin (E' := [⟨0, [], pt x⟩, ⟨1, [], .slice la l.length lc⟩, ⟨4, [], .int .i64 ((u2 : Nat) : Int)⟩, ⟨9, [], .string ls⟩, ⟨10, [], .int .i64 1⟩, ⟨125, [], .slice sr.ca sr.cn sr.cc⟩, ⟨126, [], .int .i64 ((sr.cn : Nat) : Int)⟩, ⟨127, [], .int .i64 0⟩]) [0, 0] [0, 1, 4, 9, 10, 125, 126, 127] rfl (by kernel_rfl) ?_
        refine N_then ?_
        refine G_block ?_
        have hmm := min_end hsr.chs (by omega) hmn
        refine G_loop (EI := (fun ξ : Nat => [⟨0, [], pt x⟩, ⟨1, [], .slice la l.length lc⟩, ⟨4, [], .int .i64 ((u2 : Nat) : Int)⟩, ⟨9, [], .string ls⟩, ⟨10, [], .int .i64 ((cntD sr.cs ξ ls : Nat) : Int)⟩, ⟨125, [], .slice sr.ca sr.cn sr.cc⟩, ⟨126, [], .int .i64 ((sr.cn : Nat) : Int)⟩, ⟨127, [], .int .i64 ((ξ : Nat) : Int)⟩])) (HI := (fun ξ : Nat => ([(x, .cells #[.int .i64 Mr.room, .slice sr.ba sr.bn sr.bc, .slice sr.na sr.nn sr.nc, .slice sr.ka sr.kn sr.kc, .slice sr.ca sr.cn sr.cc, .bool Mr.fails, .bool Mr.once, .int .i64 Mr.calls] 86 (0, 0))] :: sr.bg :: sr.cg :: (sr.Z ++ H)))) (Φ := (fun ξ : Nat => (ξ ≤ sr.cs.length))) (μ := (fun ξ : Nat => sr.cs.length - ξ)) (s0 := (0)) [0, 1, 4, 9, 10, 125, 126, 127] (by kernel_rfl) rfl (by omega) ?_
        rintro k4 hk4
        replace hk4 : k4 ≤ sr.cs.length := hk4
        have hcl4 := cnt_le (cs := sr.cs) (k := k4) (ls := ls)
        refine G_seq ?_
        refine G_pure (E' := [⟨0, [], pt x⟩, ⟨1, [], .slice la l.length lc⟩, ⟨4, [], .int .i64 ((u2 : Nat) : Int)⟩, ⟨9, [], .string ls⟩, ⟨10, [], .int .i64 ((cntD sr.cs k4 ls : Nat) : Int)⟩, ⟨125, [], .slice sr.ca sr.cn sr.cc⟩, ⟨126, [], .int .i64 ((sr.cn : Nat) : Int)⟩, ⟨127, [], .int .i64 ((k4 : Nat) : Int)⟩, ⟨128, [], .bool (decide (((k4 : Nat) : Int) < ((sr.cn : Nat) : Int)))⟩]) [0] [0, 1, 4, 9, 10, 125, 126, 127, 128] rfl (by kernel_rfl) ?_
        refine N_then ?_
        refine G_seq ?_
        refine G_cond (b := decide (((k4 : Nat) : Int) < ((sr.cn : Nat) : Int))) (by kernel_rfl) (fun hc39 => ?_) (fun hc39 => ?_)
        ·
          replace hc39 := of_decide_eq_true hc39
          refine G_skip ?_
          refine N_then ?_
          refine G_seq ?_
          refine G_block ?_
          refine G_seq ?_
          refine G_region ?_
          refine GL_indexAddr (i := 0) (ch := []) (a := sr.ca) (len := sr.cn) (cap := sr.cc) (kd := .i64) (j := ((k4 : Nat) : Int)) (e := 104) (sz := 2) (S := (inG sr.cg)) (cs := (chC sr.cs)) rfl rfl (by kernel_rfl) (by kernel_rfl) (by kernel_rfl) (by kernel_rfl) (by kernel_rfl) (by kernel_rfl) (by kernel_rfl) (own_rd hsr.own2) (fun _ => by exact ⟨by omega, by omega, chC_ne (i := k4) (by omega)⟩) ?_
          refine GL_loadSA (i := 1) (ch := []) (a := sr.ca) (q := k4 * 2) (S := (inG sr.cg)) (cs := (chC sr.cs)) (l := [.string ((sr.cs.getD k4 default).dir), .slice (sr.cs.getD k4 default).a ((sr.cs.getD k4 default).l.length) ((sr.cs.getD k4 default).c)]) rfl rfl (by kernel_rfl) (by kernel_rfl) (by kernel_rfl) (by kernel_rfl) (by kernel_rfl) (by kernel_rfl) (own_rd hsr.own2) (at_inG 2 rfl) (List.cons_ne_nil _ _) (fun _ => (fun m hm => (cells2_at (by omega) m hm).trans (List.getElem?_eq_getElem hm))) ?_
          refine GL_alloc (i := 2) (ch := []) (z := .agg #[.string (ByteArray.mk #[]), .slice none 0 0]) rfl rfl (by kernel_rfl) (by kernel_rfl) (by kernel_rfl) (by kernel_rfl) (fun b40 => ?_)
          refine GL_store (i := 3) (ch := []) (b := b40) (off := 0) (v := .agg #[.string ((sr.cs.getD k4 default).dir), .slice (sr.cs.getD k4 default).a ((sr.cs.getD k4 default).l.length) ((sr.cs.getD k4 default).c)]) (c := #[.string (ByteArray.mk #[]), .slice none 0 0]) (c' := #[.string ((sr.cs.getD k4 default).dir), .slice (sr.cs.getD k4 default).a ((sr.cs.getD k4 default).l.length) ((sr.cs.getD k4 default).c)]) (j := 0) (m := 0) (H' := ([(b40, .cells #[.string ((sr.cs.getD k4 default).dir), .slice (sr.cs.getD k4 default).a ((sr.cs.getD k4 default).l.length) ((sr.cs.getD k4 default).c)] 104 (0, 0))] :: [(x, .cells #[.int .i64 Mr.room, .slice sr.ba sr.bn sr.bc, .slice sr.na sr.nn sr.nc, .slice sr.ka sr.kn sr.kc, .slice sr.ca sr.cn sr.cc, .bool Mr.fails, .bool Mr.once, .int .i64 Mr.calls] 86 (0, 0))] :: sr.bg :: sr.cg :: (sr.Z ++ H))) rfl rfl (by kernel_rfl) (by kernel_rfl) (by kernel_rfl) (by kernel_rfl) (by kernel_rfl) (by kernel_rfl) (by kernel_rfl) rfl rfl (Nat.le_of_ble_eq_true rfl) (fun _ _ => thaw0) (by kernel_rfl) (by kernel_rfl) ?_
          refine GL_fin (E' := [⟨0, [], pt x⟩, ⟨1, [], .slice la l.length lc⟩, ⟨4, [], .int .i64 ((u2 : Nat) : Int)⟩, ⟨9, [], .string ls⟩, ⟨10, [], .int .i64 ((cntD sr.cs k4 ls : Nat) : Int)⟩, ⟨14, [], pt b40⟩, ⟨125, [], .slice sr.ca sr.cn sr.cc⟩, ⟨126, [], .int .i64 ((sr.cn : Nat) : Int)⟩, ⟨127, [], .int .i64 ((k4 : Nat) : Int)⟩]) [] [0, 1, 4, 9, 10, 14, 125, 126, 127] rfl (by kernel_rfl) ?_
          refine N_then ?_
          refine G_seq ?_
          refine G_region ?_
          refine GL_pure (E' := [⟨131, [], pt b40⟩, ⟨0, [], pt x⟩, ⟨1, [], .slice la l.length lc⟩, ⟨4, [], .int .i64 ((u2 : Nat) : Int)⟩, ⟨9, [], .string ls⟩, ⟨10, [], .int .i64 ((cntD sr.cs k4 ls : Nat) : Int)⟩, ⟨125, [], .slice sr.ca sr.cn sr.cc⟩, ⟨126, [], .int .i64 ((sr.cn : Nat) : Int)⟩, ⟨127, [], .int .i64 ((k4 : Nat) : Int)⟩]) [0] (by kernel_rfl) (j := 1) rfl ?_
          refine GL_load (i := 1) (ch := []) (b := b40) (off := 0) (v := .string ((sr.cs.getD k4 default).dir)) rfl rfl (by kernel_rfl) (by kernel_rfl) (by kernel_rfl) (by kernel_rfl) (by kernel_rfl) (At.grp 0 0 rfl rfl) rfl ?_
          refine GL_fin (E' := [⟨0, [], pt x⟩, ⟨1, [], .slice la l.length lc⟩, ⟨4, [], .int .i64 ((u2 : Nat) : Int)⟩, ⟨9, [], .string ls⟩, ⟨10, [], .int .i64 ((cntD sr.cs k4 ls : Nat) : Int)⟩, ⟨125, [], .slice sr.ca sr.cn sr.cc⟩, ⟨126, [], .int .i64 ((sr.cn : Nat) : Int)⟩, ⟨127, [], .int .i64 ((k4 : Nat) : Int)⟩, ⟨134, [], .bool (((sr.cs.getD k4 default).dir).toList == ls.toList)⟩]) [0, 0] [0, 1, 4, 9, 10, 125, 126, 127, 134] rfl (by kernel_rfl) ?_
          refine N_then ?_
          refine G_cond (b := ((sr.cs.getD k4 default).dir).toList == ls.toList) (by kernel_rfl) (fun hc41 => ?_) (fun hc41 => ?_)
          ·
            have heq4 := hc41
            -- L eq4
            have hw42 : IntKind.wrap .i64 (((cntD sr.cs k4 ls : Nat) : Int) + 1) = ((cntD sr.cs k4 ls : Nat) : Int) + 1 := w64 (by omega) (by omega)
            refine G_pure (E' := [⟨0, [], pt x⟩, ⟨1, [], .slice la l.length lc⟩, ⟨4, [], .int .i64 ((u2 : Nat) : Int)⟩, ⟨9, [], .string ls⟩, ⟨10, [], .int .i64 (((cntD sr.cs k4 ls : Nat) : Int) + 1)⟩, ⟨125, [], .slice sr.ca sr.cn sr.cc⟩, ⟨126, [], .int .i64 ((sr.cn : Nat) : Int)⟩, ⟨127, [], .int .i64 ((k4 : Nat) : Int)⟩]) [0, 0, 0] [0, 1, 4, 9, 10, 125, 126, 127] rfl (Eq.trans (b := some [⟨0, [], pt x⟩, ⟨1, [], .slice la l.length lc⟩, ⟨4, [], .int .i64 ((u2 : Nat) : Int)⟩, ⟨9, [], .string ls⟩, ⟨10, [], .int .i64 (IntKind.wrap .i64 (((cntD sr.cs k4 ls : Nat) : Int) + 1))⟩, ⟨125, [], .slice sr.ca sr.cn sr.cc⟩, ⟨126, [], .int .i64 ((sr.cn : Nat) : Int)⟩, ⟨127, [], .int .i64 ((k4 : Nat) : Int)⟩]) (by kernel_rfl) (by simp only [hw42])) ?_
            refine N_block ?_
            refine N_then ?_
            have hw43 : IntKind.wrap .i64 (((k4 : Nat) : Int) + 1) = ((k4 : Nat) : Int) + 1 := w64 (by omega) (by omega)
            refine G_pure (E' := [⟨0, [], pt x⟩, ⟨1, [], .slice la l.length lc⟩, ⟨4, [], .int .i64 ((u2 : Nat) : Int)⟩, ⟨9, [], .string ls⟩, ⟨10, [], .int .i64 (((cntD sr.cs k4 ls : Nat) : Int) + 1)⟩, ⟨125, [], .slice sr.ca sr.cn sr.cc⟩, ⟨126, [], .int .i64 ((sr.cn : Nat) : Int)⟩, ⟨127, [], .int .i64 (((k4 : Nat) : Int) + 1)⟩]) [0, 0] [0, 1, 4, 9, 10, 125, 126, 127] rfl (Eq.trans (b := some [⟨0, [], pt x⟩, ⟨1, [], .slice la l.length lc⟩, ⟨4, [], .int .i64 ((u2 : Nat) : Int)⟩, ⟨9, [], .string ls⟩, ⟨10, [], .int .i64 (((cntD sr.cs k4 ls : Nat) : Int) + 1)⟩, ⟨125, [], .slice sr.ca sr.cn sr.cc⟩, ⟨126, [], .int .i64 ((sr.cn : Nat) : Int)⟩, ⟨127, [], .int .i64 (IntKind.wrap .i64 (((k4 : Nat) : Int) + 1))⟩]) (by kernel_rfl) (by simp only [hw43])) ?_
            refine N_env (E' := [⟨0, [], pt x⟩, ⟨1, [], .slice la l.length lc⟩, ⟨4, [], .int .i64 ((u2 : Nat) : Int)⟩, ⟨9, [], .string ls⟩, ⟨10, [], .int .i64 ((cntD sr.cs (k4 + 1) ls : Nat) : Int)⟩, ⟨125, [], .slice sr.ca sr.cn sr.cc⟩, ⟨126, [], .int .i64 ((sr.cn : Nat) : Int)⟩, ⟨127, [], .int .i64 (((k4 : Nat) : Int) + 1)⟩]) (by rw [cnt_yes (by omega) heq4]; rfl) ?_
            refine N_heap (H' := ([(x, .cells #[.int .i64 Mr.room, .slice sr.ba sr.bn sr.bc, .slice sr.na sr.nn sr.nc, .slice sr.ka sr.kn sr.kc, .slice sr.ca sr.cn sr.cc, .bool Mr.fails, .bool Mr.once, .int .i64 Mr.calls] 86 (0, 0))] :: sr.bg :: sr.cg :: (sr.Z ++ H))) (fun w h => ((((h.front (j := 3) rfl).front (j := 3) rfl).front (j := 3) rfl).erase 3)) ?_
            refine N_round (s' := (k4 + 1)) [0, 1, 4, 9, 10, 125, 126, 127] (by kernel_rfl) rfl (by omega) (by omega)
          ·
            have heq4 := hc41
            refine G_skip ?_
            refine N_block ?_
            refine N_then ?_
            have hw44 : IntKind.wrap .i64 (((k4 : Nat) : Int) + 1) = ((k4 : Nat) : Int) + 1 := w64 (by omega) (by omega)
            refine G_pure (E' := [⟨0, [], pt x⟩, ⟨1, [], .slice la l.length lc⟩, ⟨4, [], .int .i64 ((u2 : Nat) : Int)⟩, ⟨9, [], .string ls⟩, ⟨10, [], .int .i64 ((cntD sr.cs k4 ls : Nat) : Int)⟩, ⟨125, [], .slice sr.ca sr.cn sr.cc⟩, ⟨126, [], .int .i64 ((sr.cn : Nat) : Int)⟩, ⟨127, [], .int .i64 (((k4 : Nat) : Int) + 1)⟩]) [0, 0] [0, 1, 4, 9, 10, 125, 126, 127] rfl (Eq.trans (b := some [⟨0, [], pt x⟩, ⟨1, [], .slice la l.length lc⟩, ⟨4, [], .int .i64 ((u2 : Nat) : Int)⟩, ⟨9, [], .string ls⟩, ⟨10, [], .int .i64 ((cntD sr.cs k4 ls : Nat) : Int)⟩, ⟨125, [], .slice sr.ca sr.cn sr.cc⟩, ⟨126, [], .int .i64 ((sr.cn : Nat) : Int)⟩, ⟨127, [], .int .i64 (IntKind.wrap .i64 (((k4 : Nat) : Int) + 1))⟩]) (by kernel_rfl) (by simp only [hw44])) ?_
            refine N_env (E' := [⟨0, [], pt x⟩, ⟨1, [], .slice la l.length lc⟩, ⟨4, [], .int .i64 ((u2 : Nat) : Int)⟩, ⟨9, [], .string ls⟩, ⟨10, [], .int .i64 ((cntD sr.cs (k4 + 1) ls : Nat) : Int)⟩, ⟨125, [], .slice sr.ca sr.cn sr.cc⟩, ⟨126, [], .int .i64 ((sr.cn : Nat) : Int)⟩, ⟨127, [], .int .i64 (((k4 : Nat) : Int) + 1)⟩]) (by rw [cnt_no (by omega) heq4]) ?_
            refine N_heap (H' := ([(x, .cells #[.int .i64 Mr.room, .slice sr.ba sr.bn sr.bc, .slice sr.na sr.nn sr.nc, .slice sr.ka sr.kn sr.kc, .slice sr.ca sr.cn sr.cc, .bool Mr.fails, .bool Mr.once, .int .i64 Mr.calls] 86 (0, 0))] :: sr.bg :: sr.cg :: (sr.Z ++ H))) (fun w h => ((((h.front (j := 3) rfl).front (j := 3) rfl).front (j := 3) rfl).erase 3)) ?_
            refine N_round (s' := (k4 + 1)) [0, 1, 4, 9, 10, 125, 126, 127] (by kernel_rfl) rfl (by omega) (by omega)
        ·
          replace hc39 := of_decide_eq_false hc39
          have hcm : ((cntD sr.cs k4 ls : Nat) : Int) = ((chOf Mr.changes ls).length : Int) + 1 := by rw [cnt_end hsr.chs (by omega)]; rfl
          refine G_exit ?_
          refine N_then_exit ?_
          refine N_then_exit ?_
          refine N_block_exit ?_
          refine N_then ?_
          refine G_seq ?_
          refine G_pure (E' := [⟨0, [], pt x⟩, ⟨1, [], .slice la l.length lc⟩, ⟨4, [], .int .i64 ((u2 : Nat) : Int)⟩, ⟨9, [], .string ls⟩, ⟨10, [], .int .i64 ((cntD sr.cs k4 ls : Nat) : Int)⟩, ⟨15, [], .int .i64 0⟩]) [0] [0, 1, 4, 9, 10, 15] rfl (by kernel_rfl) ?_
          refine N_then ?_
          refine G_seq ?_
          refine G_seq ?_
          refine G_pure (E' := [⟨0, [], pt x⟩, ⟨1, [], .slice la l.length lc⟩, ⟨4, [], .int .i64 ((u2 : Nat) : Int)⟩, ⟨9, [], .string ls⟩, ⟨10, [], .int .i64 ((cntD sr.cs k4 ls : Nat) : Int)⟩, ⟨15, [], .int .i64 0⟩, ⟨141, [], .bool (decide (((u2 : Nat) : Int) < ((l.length : Nat) : Int)))⟩]) [0, 0, 0, 0] [0, 1, 4, 9, 10, 15, 141] rfl (by kernel_rfl) ?_
          refine N_then ?_
          refine G_join (T := Nat) (fun ξ : Nat => [⟨0, [], pt x⟩, ⟨1, [], .slice la l.length lc⟩, ⟨4, [], .int .i64 ((u2 : Nat) : Int)⟩, ⟨9, [], .string ls⟩, ⟨15, [], .int .i64 ((ξ : Nat) : Int)⟩]) (fun ξ : Nat => ([(x, .cells #[.int .i64 Mr.room, .slice sr.ba sr.bn sr.bc, .slice sr.na sr.nn sr.nc, .slice sr.ka sr.kn sr.kc, .slice sr.ca sr.cn sr.cc, .bool Mr.fails, .bool Mr.once, .int .i64 Mr.calls] 86 (0, 0))] :: sr.bg :: sr.cg :: (sr.Z ++ H))) (fun ξ : Nat => (ξ = (nextK (l.getD u2 0) ((cntD sr.cs k4 ls : Nat) : Int)).toNat)) ?_ ?_
          ·
            refine G_cond (b := decide (((u2 : Nat) : Int) < ((l.length : Nat) : Int))) (by kernel_rfl) (fun hc45 => ?_) (fun hc45 => ?_)
            ·
              replace hc45 := of_decide_eq_true hc45
              have hnb2 := nextK_bd (k := l.getD u2 0) (n := ((cntD sr.cs k4 ls : Nat) : Int)) (by omega)
              refine G_region ?_
              refine GL_pure (E' := [⟨143, [], .int .i64 ((u2 : Nat) : Int)⟩, ⟨142, [], .slice la l.length lc⟩, ⟨0, [], pt x⟩, ⟨1, [], .slice la l.length lc⟩, ⟨4, [], .int .i64 ((u2 : Nat) : Int)⟩, ⟨9, [], .string ls⟩, ⟨10, [], .int .i64 ((cntD sr.cs k4 ls : Nat) : Int)⟩, ⟨15, [], .int .i64 0⟩]) [0, 0] (by kernel_rfl) (j := 2) rfl ?_
              refine GL_indexAddr (i := 2) (ch := []) (a := la) (len := l.length) (cap := lc) (kd := .i64) (j := ((u2 : Nat) : Int)) (e := 3) (sz := 1) (S := Sk) (cs := (l.map (Value.int .i64))) rfl rfl (by kernel_rfl) (by kernel_rfl) (by kernel_rfl) (by kernel_rfl) (by kernel_rfl) (by kernel_rfl) (by kernel_rfl) hrl (fun _ => by exact ⟨by omega, by omega, ints_ne (u := u2) (by omega)⟩) ?_
              refine GL_loadS (i := 3) (ch := []) (a := la) (q := u2 * 1) (S := Sk) (cs := (l.map (Value.int .i64))) (v := .int .i64 (l.getD u2 0)) rfl rfl (by kernel_rfl) (by kernel_rfl) (by kernel_rfl) (by kernel_rfl) (by kernel_rfl) hrl (fun y o h => (At.cons (At.cons (At.cons (at_app2 (hSk y o h)))))) (fun _ => (by rw [Nat.mul_one]; exact intL_at (by omega))) ?_
              refine GL_pure (E' := [⟨146, [], .int .i64 ((cntD sr.cs k4 ls : Nat) : Int)⟩, ⟨145, [], .int .i64 (l.getD u2 0)⟩, ⟨0, [], pt x⟩, ⟨1, [], .slice la l.length lc⟩, ⟨4, [], .int .i64 ((u2 : Nat) : Int)⟩, ⟨9, [], .string ls⟩, ⟨10, [], .int .i64 ((cntD sr.cs k4 ls : Nat) : Int)⟩, ⟨15, [], .int .i64 0⟩]) [0] (by kernel_rfl) (j := 5) rfl ?_
              refine GL_rem (i := 5) (ch := []) (kd := .i64) (a := (l.getD u2 0)) (b := ((cntD sr.cs k4 ls : Nat) : Int)) rfl rfl (by kernel_rfl) (by kernel_rfl) (by kernel_rfl) (by kernel_rfl) (by kernel_rfl) (fun _ => by omega) ?_
              have hrm46 := tmod_ne (l.getD u2 0) (show 0 < ((cntD sr.cs k4 ls : Nat) : Int) by omega)
              have hw47 : IntKind.wrap .i64 ((Int.tmod (l.getD u2 0) ((cntD sr.cs k4 ls : Nat) : Int)) + ((cntD sr.cs k4 ls : Nat) : Int)) = (Int.tmod (l.getD u2 0) ((cntD sr.cs k4 ls : Nat) : Int)) + ((cntD sr.cs k4 ls : Nat) : Int) := w64 (by omega) (by omega)
              refine GL_pure (E' := [⟨150, [], .int .i64 ((cntD sr.cs k4 ls : Nat) : Int)⟩, ⟨149, [], .int .i64 ((Int.tmod (l.getD u2 0) ((cntD sr.cs k4 ls : Nat) : Int)) + ((cntD sr.cs k4 ls : Nat) : Int))⟩, ⟨0, [], pt x⟩, ⟨1, [], .slice la l.length lc⟩, ⟨4, [], .int .i64 ((u2 : Nat) : Int)⟩, ⟨9, [], .string ls⟩, ⟨15, [], .int .i64 0⟩]) [0, 0, 0] (Eq.trans (b := some [⟨150, [], .int .i64 ((cntD sr.cs k4 ls : Nat) : Int)⟩, ⟨149, [], .int .i64 (IntKind.wrap .i64 ((Int.tmod (l.getD u2 0) ((cntD sr.cs k4 ls : Nat) : Int)) + ((cntD sr.cs k4 ls : Nat) : Int)))⟩, ⟨0, [], pt x⟩, ⟨1, [], .slice la l.length lc⟩, ⟨4, [], .int .i64 ((u2 : Nat) : Int)⟩, ⟨9, [], .string ls⟩, ⟨15, [], .int .i64 0⟩]) (by kernel_rfl) (by simp only [hw47])) (j := 9) rfl ?_
              refine GL_rem (i := 9) (ch := []) (kd := .i64) (a := (Int.tmod (l.getD u2 0) ((cntD sr.cs k4 ls : Nat) : Int)) + ((cntD sr.cs k4 ls : Nat) : Int)) (b := ((cntD sr.cs k4 ls : Nat) : Int)) rfl rfl (by kernel_rfl) (by kernel_rfl) (by kernel_rfl) (by kernel_rfl) (by kernel_rfl) (fun _ => by omega) ?_
              have hrm48 := tmod_ne ((Int.tmod (l.getD u2 0) ((cntD sr.cs k4 ls : Nat) : Int)) + ((cntD sr.cs k4 ls : Nat) : Int)) (show 0 < ((cntD sr.cs k4 ls : Nat) : Int) by omega)
              refine GL_pure (E' := [⟨15, [], .int .i64 (Int.tmod ((Int.tmod (l.getD u2 0) ((cntD sr.cs k4 ls : Nat) : Int)) + ((cntD sr.cs k4 ls : Nat) : Int)) ((cntD sr.cs k4 ls : Nat) : Int))⟩, ⟨0, [], pt x⟩, ⟨1, [], .slice la l.length lc⟩, ⟨4, [], .int .i64 ((u2 : Nat) : Int)⟩, ⟨9, [], .string ls⟩]) [0] (by kernel_rfl) (j := 11) rfl ?_
              refine GL_env (E' := [⟨15, [], .int .i64 ((Int.toNat (nextK (l.getD u2 0) ((cntD sr.cs k4 ls : Nat) : Int)) : Nat) : Int)⟩, ⟨0, [], pt x⟩, ⟨1, [], .slice la l.length lc⟩, ⟨4, [], .int .i64 ((u2 : Nat) : Int)⟩, ⟨9, [], .string ls⟩]) (by rw [show Int.tmod (Int.tmod (l.getD u2 0) ((cntD sr.cs k4 ls : Nat) : Int) + ((cntD sr.cs k4 ls : Nat) : Int)) ((cntD sr.cs k4 ls : Nat) : Int) = _ from (Int.toNat_of_nonneg hnb2.1).symm]) ?_
              refine GL_fin (E' := [⟨0, [], pt x⟩, ⟨1, [], .slice la l.length lc⟩, ⟨4, [], .int .i64 ((u2 : Nat) : Int)⟩, ⟨9, [], .string ls⟩, ⟨15, [], .int .i64 ((Int.toNat (nextK (l.getD u2 0) ((cntD sr.cs k4 ls : Nat) : Int)) : Nat) : Int)⟩]) [] [0, 1, 4, 9, 15] rfl (by kernel_rfl) ?_
              refine N_join (Int.toNat (nextK (l.getD u2 0) ((cntD sr.cs k4 ls : Nat) : Int))) [0, 1, 4, 9, 15] (by kernel_rfl) (fun w h => (((h.front (j := 2) rfl).front (j := 2) rfl).front (j := 2) rfl)) rfl
            ·
              replace hc45 := of_decide_eq_false hc45
              -- L over
              refine G_skip ?_
              refine N_join (0) [0, 1, 4, 9, 15] (by kernel_rfl) (fun w h => (((h.front (j := 2) rfl).front (j := 2) rfl).front (j := 2) rfl)) (by rw [getD_over (by omega), nextK0 (by omega)]; rfl)
          ·
            rintro nn hnn5
            have hnb2 := nextK_bd (k := l.getD u2 0) (n := ((cntD sr.cs k4 ls : Nat) : Int)) (by omega)
            refine N_then ?_
            refine G_seq ?_
            have hw49 : IntKind.wrap .i64 (((u2 : Nat) : Int) + 1) = ((u2 : Nat) : Int) + 1 := w64 (by omega) (by omega)
            refine G_pure (E' := [⟨0, [], pt x⟩, ⟨1, [], .slice la l.length lc⟩, ⟨4, [], .int .i64 (((u2 : Nat) : Int) + 1)⟩, ⟨9, [], .string ls⟩, ⟨15, [], .int .i64 ((nn : Nat) : Int)⟩]) [0, 0, 0] [0, 1, 4, 9, 15] rfl (Eq.trans (b := some [⟨0, [], pt x⟩, ⟨1, [], .slice la l.length lc⟩, ⟨4, [], .int .i64 (IntKind.wrap .i64 (((u2 : Nat) : Int) + 1))⟩, ⟨9, [], .string ls⟩, ⟨15, [], .int .i64 ((nn : Nat) : Int)⟩]) (by kernel_rfl) (by simp only [hw49])) ?_
            refine N_then ?_
            refine G_seq ?_
            refine G_region ?_
            refine GL_pure (E' := [⟨156, [], .int .i64 ((nn : Nat) : Int)⟩, ⟨155, [], .string ls⟩, ⟨154, [], pt x⟩, ⟨0, [], pt x⟩, ⟨1, [], .slice la l.length lc⟩, ⟨4, [], .int .i64 (((u2 : Nat) : Int) + 1)⟩, ⟨9, [], .string ls⟩]) [0, 0, 0] (by kernel_rfl) (j := 3) rfl ?_
            refine GL_heap rfl (H' := ([(x, .cells #[.int .i64 Mr.room, .slice sr.ba sr.bn sr.bc, .slice sr.na sr.nn sr.nc, .slice sr.ka sr.kn sr.kc, .slice sr.ca sr.cn sr.cc, .bool Mr.fails, .bool Mr.once, .int .i64 Mr.calls] 86 (0, 0))] :: sr.bg :: sr.cg :: (sr.Z ++ H))) (fun w h => (((h.front (j := 2) rfl).front (j := 2) rfl).front (j := 2) rfl)) ?_
            refine GL_call (i := 3) (ch := []) (f := 65) (fst := #[]) (caps := #[]) (vs := [pt x, .string ls, .int .i64 ((nn : Nat) : Int)]) rfl rfl rfl (by kernel_rfl) (by kernel_rfl) Try.func65 rfl rfl (by kernel_rfl) (by kernel_rfl) (chSure_of (by kernel_rfl)) (rKeep x sr Mr hsr ⟨Nat.le_trans (Nat.le_add_right _ _) hcr.kept, by omega, hcr.chs⟩ ls nn (by omega) _ H) ?_
            rintro v H' ⟨rfl, sr2, hsr2, rfl⟩
            have hcn2 := hsr2.cn
            have hch2 := hsr2.chs.len
            have hkl2 := keep_len Mr ls nn
            refine GL_fin (E' := [⟨0, [], pt x⟩, ⟨1, [], .slice la l.length lc⟩, ⟨4, [], .int .i64 (((u2 : Nat) : Int) + 1)⟩, ⟨9, [], .string ls⟩]) [] [0, 1, 4, 9] rfl (by kernel_rfl) ?_
            refine N_then ?_
            refine G_seq ?_
            refine G_pure (E' := [⟨0, [], pt x⟩, ⟨1, [], .slice la l.length lc⟩, ⟨4, [], .int .i64 (((u2 : Nat) : Int) + 1)⟩, ⟨9, [], .string ls⟩, ⟨16, [], .slice none 0 0⟩]) [0] [0, 1, 4, 9, 16] rfl (by kernel_rfl) ?_
            refine N_then ?_
            refine G_seq ?_
            refine G_seq ?_
            refine G_region ?_
            refine GL_pure (E' := [⟨160, [], .pointer (some ⟨x, 4, none⟩)⟩, ⟨0, [], pt x⟩, ⟨1, [], .slice la l.length lc⟩, ⟨4, [], .int .i64 (((u2 : Nat) : Int) + 1)⟩, ⟨9, [], .string ls⟩, ⟨16, [], .slice none 0 0⟩]) [0, 0, 0] (by kernel_rfl) (j := 3) rfl ?_
            refine GL_load (i := 3) (ch := []) (b := x) (off := 4) (v := .slice sr2.ca sr2.cn sr2.cc) rfl rfl (by kernel_rfl) (by kernel_rfl) (by kernel_rfl) (by kernel_rfl) (by kernel_rfl) (At.grp 0 0 rfl rfl) rfl ?_
            refine GL_fin (E' := [⟨0, [], pt x⟩, ⟨1, [], .slice la l.length lc⟩, ⟨4, [], .int .i64 (((u2 : Nat) : Int) + 1)⟩, ⟨9, [], .string ls⟩, ⟨16, [], .slice none 0 0⟩, ⟨161, [], .slice sr2.ca sr2.cn sr2.cc⟩, ⟨162, [], .int .i64 ((sr2.cn : Nat) : Int)⟩, ⟨163, [], .int .i64 0⟩]) [0, 0] [0, 1, 4, 9, 16, 161, 162, 163] rfl (by kernel_rfl) ?_
            refine N_then ?_
            refine G_block ?_
            refine G_heap (H' := ([(x, .cells #[.int .i64 ((keepM Mr ls nn).room), .slice sr2.ba sr2.bn sr2.bc, .slice sr2.na sr2.nn sr2.nc, .slice sr2.ka sr2.kn sr2.kc, .slice sr2.ca sr2.cn sr2.cc, .bool ((keepM Mr ls nn).fails), .bool ((keepM Mr ls nn).once), .int .i64 ((keepM Mr ls nn).calls)] 86 (0, 0))] :: sr2.bg :: sr2.cg :: [] :: (sr2.Z ++ H))) (fun w h => flat_nil' (A := [_, _, _]) h) ?_
            refine G_loop (EI := (fun ξ : Nat × List CR × Option Addr × Nat × Grp => [⟨0, [], pt x⟩, ⟨1, [], .slice la l.length lc⟩, ⟨4, [], .int .i64 (((u2 : Nat) : Int) + 1)⟩, ⟨9, [], .string ls⟩, ⟨16, [], .slice ξ.2.2.1 ξ.2.1.length ξ.2.2.2.1⟩, ⟨161, [], .slice sr2.ca sr2.cn sr2.cc⟩, ⟨162, [], .int .i64 ((sr2.cn : Nat) : Int)⟩, ⟨163, [], .int .i64 ((ξ.1 : Nat) : Int)⟩])) (HI := (fun ξ : Nat × List CR × Option Addr × Nat × Grp => ([(x, .cells #[.int .i64 ((keepM Mr ls nn).room), .slice sr2.ba sr2.bn sr2.bc, .slice sr2.na sr2.nn sr2.nc, .slice sr2.ka sr2.kn sr2.kc, .slice sr2.ca sr2.cn sr2.cc, .bool ((keepM Mr ls nn).fails), .bool ((keepM Mr ls nn).once), .int .i64 ((keepM Mr ls nn).calls)] 86 (0, 0))] :: sr2.bg :: sr2.cg :: ξ.2.2.2.2 :: (sr2.Z ++ H)))) (Φ := (fun ξ : Nat × List CR × Option Addr × Nat × Grp => (ξ.1 ≤ sr2.cs.length) ∧ (ξ.2.1 = (sr2.cs.take ξ.1).filter fun c => !(c.dir.toList == ls.toList)) ∧ (Own 104 2 (.slice ξ.2.2.1 ξ.2.1.length ξ.2.2.2.1) ξ.2.2.2.2 ξ.2.1.length (chC ξ.2.1)) ∧ (ξ.2.1.length ≤ ξ.1))) (μ := (fun ξ : Nat × List CR × Option Addr × Nat × Grp => sr2.cs.length - ξ.1)) (s0 := (0, [], none, 0, [])) [0, 1, 4, 9, 16, 161, 162, 163] (by kernel_rfl) rfl ⟨(by omega), (by rw [List.take_zero]; rfl), Own.nil, (Nat.le_refl _)⟩ ?_
            rintro ⟨k5, rs, ra, rc, gr⟩ ⟨hk5, hrs, hO5, hrl5⟩
            replace hk5 : k5 ≤ sr2.cs.length := hk5
            replace hrs : rs = (sr2.cs.take k5).filter fun c => !(c.dir.toList == ls.toList) := hrs
            replace hO5 : Own 104 2 (.slice ra rs.length rc) gr rs.length (chC rs) := hO5
            replace hrl5 : rs.length ≤ k5 := hrl5
            refine G_seq ?_
            refine G_pure (E' := [⟨0, [], pt x⟩, ⟨1, [], .slice la l.length lc⟩, ⟨4, [], .int .i64 (((u2 : Nat) : Int) + 1)⟩, ⟨9, [], .string ls⟩, ⟨16, [], .slice ra rs.length rc⟩, ⟨161, [], .slice sr2.ca sr2.cn sr2.cc⟩, ⟨162, [], .int .i64 ((sr2.cn : Nat) : Int)⟩, ⟨163, [], .int .i64 ((k5 : Nat) : Int)⟩, ⟨164, [], .bool (decide (((k5 : Nat) : Int) < ((sr2.cn : Nat) : Int)))⟩]) [0] [0, 1, 4, 9, 16, 161, 162, 163, 164] rfl (by kernel_rfl) ?_
            refine N_then ?_
            refine G_seq ?_
            refine G_cond (b := decide (((k5 : Nat) : Int) < ((sr2.cn : Nat) : Int))) (by kernel_rfl) (fun hc50 => ?_) (fun hc50 => ?_)
            ·
              replace hc50 := of_decide_eq_true hc50
              refine G_skip ?_
              refine N_then ?_
              refine G_seq ?_
              refine G_block ?_
              refine G_seq ?_
              refine G_region ?_
              refine GL_indexAddr (i := 0) (ch := []) (a := sr2.ca) (len := sr2.cn) (cap := sr2.cc) (kd := .i64) (j := ((k5 : Nat) : Int)) (e := 104) (sz := 2) (S := (inG sr2.cg)) (cs := (chC sr2.cs)) rfl rfl (by kernel_rfl) (by kernel_rfl) (by kernel_rfl) (by kernel_rfl) (by kernel_rfl) (by kernel_rfl) (by kernel_rfl) (own_rd hsr2.own2) (fun _ => by exact ⟨by omega, by omega, chC_ne (i := k5) (by omega)⟩) ?_
              refine GL_loadSA (i := 1) (ch := []) (a := sr2.ca) (q := k5 * 2) (S := (inG sr2.cg)) (cs := (chC sr2.cs)) (l := [.string ((sr2.cs.getD k5 default).dir), .slice (sr2.cs.getD k5 default).a ((sr2.cs.getD k5 default).l.length) ((sr2.cs.getD k5 default).c)]) rfl rfl (by kernel_rfl) (by kernel_rfl) (by kernel_rfl) (by kernel_rfl) (by kernel_rfl) (by kernel_rfl) (own_rd hsr2.own2) (at_inG 2 rfl) (List.cons_ne_nil _ _) (fun _ => (fun m hm => (cells2_at (by omega) m hm).trans (List.getElem?_eq_getElem hm))) ?_
              refine GL_alloc (i := 2) (ch := []) (z := .agg #[.string (ByteArray.mk #[]), .slice none 0 0]) rfl rfl (by kernel_rfl) (by kernel_rfl) (by kernel_rfl) (by kernel_rfl) (fun b51 => ?_)
              refine GL_store (i := 3) (ch := []) (b := b51) (off := 0) (v := .agg #[.string ((sr2.cs.getD k5 default).dir), .slice (sr2.cs.getD k5 default).a ((sr2.cs.getD k5 default).l.length) ((sr2.cs.getD k5 default).c)]) (c := #[.string (ByteArray.mk #[]), .slice none 0 0]) (c' := #[.string ((sr2.cs.getD k5 default).dir), .slice (sr2.cs.getD k5 default).a ((sr2.cs.getD k5 default).l.length) ((sr2.cs.getD k5 default).c)]) (j := 0) (m := 0) (H' := ([(b51, .cells #[.string ((sr2.cs.getD k5 default).dir), .slice (sr2.cs.getD k5 default).a ((sr2.cs.getD k5 default).l.length) ((sr2.cs.getD k5 default).c)] 104 (0, 0))] :: [(x, .cells #[.int .i64 ((keepM Mr ls nn).room), .slice sr2.ba sr2.bn sr2.bc, .slice sr2.na sr2.nn sr2.nc, .slice sr2.ka sr2.kn sr2.kc, .slice sr2.ca sr2.cn sr2.cc, .bool ((keepM Mr ls nn).fails), .bool ((keepM Mr ls nn).once), .int .i64 ((keepM Mr ls nn).calls)] 86 (0, 0))] :: sr2.bg :: sr2.cg :: gr :: (sr2.Z ++ H))) rfl rfl (by kernel_rfl) (by kernel_rfl) (by kernel_rfl) (by kernel_rfl) (by kernel_rfl) (by kernel_rfl) (by kernel_rfl) rfl rfl (Nat.le_of_ble_eq_true rfl) (fun _ _ => thaw0) (by kernel_rfl) (by kernel_rfl) ?_
              refine GL_fin (E' := [⟨0, [], pt x⟩, ⟨1, [], .slice la l.length lc⟩, ⟨4, [], .int .i64 (((u2 : Nat) : Int) + 1)⟩, ⟨9, [], .string ls⟩, ⟨16, [], .slice ra rs.length rc⟩, ⟨18, [], pt b51⟩, ⟨161, [], .slice sr2.ca sr2.cn sr2.cc⟩, ⟨162, [], .int .i64 ((sr2.cn : Nat) : Int)⟩, ⟨163, [], .int .i64 ((k5 : Nat) : Int)⟩]) [] [0, 1, 4, 9, 16, 18, 161, 162, 163] rfl (by kernel_rfl) ?_
              refine N_then ?_
              refine G_seq ?_
              refine G_region ?_
              refine GL_pure (E' := [⟨167, [], pt b51⟩, ⟨0, [], pt x⟩, ⟨1, [], .slice la l.length lc⟩, ⟨4, [], .int .i64 (((u2 : Nat) : Int) + 1)⟩, ⟨9, [], .string ls⟩, ⟨16, [], .slice ra rs.length rc⟩, ⟨18, [], pt b51⟩, ⟨161, [], .slice sr2.ca sr2.cn sr2.cc⟩, ⟨162, [], .int .i64 ((sr2.cn : Nat) : Int)⟩, ⟨163, [], .int .i64 ((k5 : Nat) : Int)⟩]) [0] (by kernel_rfl) (j := 1) rfl ?_
              refine GL_load (i := 1) (ch := []) (b := b51) (off := 0) (v := .string ((sr2.cs.getD k5 default).dir)) rfl rfl (by kernel_rfl) (by kernel_rfl) (by kernel_rfl) (by kernel_rfl) (by kernel_rfl) (At.grp 0 0 rfl rfl) rfl ?_
              refine GL_fin (E' := [⟨0, [], pt x⟩, ⟨1, [], .slice la l.length lc⟩, ⟨4, [], .int .i64 (((u2 : Nat) : Int) + 1)⟩, ⟨9, [], .string ls⟩, ⟨16, [], .slice ra rs.length rc⟩, ⟨18, [], pt b51⟩, ⟨161, [], .slice sr2.ca sr2.cn sr2.cc⟩, ⟨162, [], .int .i64 ((sr2.cn : Nat) : Int)⟩, ⟨163, [], .int .i64 ((k5 : Nat) : Int)⟩, ⟨170, [], .bool (!(((sr2.cs.getD k5 default).dir).toList == ls.toList))⟩]) [0, 0] [0, 1, 4, 9, 16, 18, 161, 162, 163, 170] rfl (by kernel_rfl) ?_
              refine N_then ?_
              refine G_cond (b := !(((sr2.cs.getD k5 default).dir).toList == ls.toList)) (by kernel_rfl) (fun hc52 => ?_) (fun hc52 => ?_)
              ·
                have hdn5 := hc52
                -- L put5
                refine G_region ?_
                refine GL_pure (E' := [⟨171, [], .slice ra rs.length rc⟩, ⟨0, [], pt x⟩, ⟨1, [], .slice la l.length lc⟩, ⟨4, [], .int .i64 (((u2 : Nat) : Int) + 1)⟩, ⟨9, [], .string ls⟩, ⟨16, [], .slice ra rs.length rc⟩, ⟨18, [], pt b51⟩, ⟨161, [], .slice sr2.ca sr2.cn sr2.cc⟩, ⟨162, [], .int .i64 ((sr2.cn : Nat) : Int)⟩, ⟨163, [], .int .i64 ((k5 : Nat) : Int)⟩]) [0] (by kernel_rfl) (j := 1) rfl ?_
                refine GL_loadA (i := 1) (ch := []) (b := b51) (off := 0) (l := [.string ((sr2.cs.getD k5 default).dir), .slice (sr2.cs.getD k5 default).a ((sr2.cs.getD k5 default).l.length) ((sr2.cs.getD k5 default).c)]) rfl rfl (by kernel_rfl) (by kernel_rfl) (by kernel_rfl) (by kernel_rfl) (by kernel_rfl) (by kernel_rfl) (At.grp 0 0 rfl rfl) (by kernel_rfl) ?_
                refine GL_buildSlice (i := 2) (ch := []) (e := 104) (l := [(0, .agg #[.string ((sr2.cs.getD k5 default).dir), .slice (sr2.cs.getD k5 default).a ((sr2.cs.getD k5 default).l.length) ((sr2.cs.getD k5 default).c)])]) (c := [.string ((sr2.cs.getD k5 default).dir), .slice (sr2.cs.getD k5 default).a ((sr2.cs.getD k5 default).l.length) ((sr2.cs.getD k5 default).c)]) rfl rfl (by kernel_rfl) (by kernel_rfl) (by kernel_rfl) (by kernel_rfl) (by kernel_rfl) (fun b53 => ?_)
                refine GL_append (i := 3) (ch := []) (t := 84) (tx := 84) (e := 104) (inf := Try.t104) (s := .slice ra rs.length rc) (x := .slice (some ⟨b53, 0, none⟩) 1 1) (n := rs.length) (m := 1) (j := 5) (cs := (chC rs)) (news := [.string ((sr2.cs.getD k5 default).dir), .slice (sr2.cs.getD k5 default).a ((sr2.cs.getD k5 default).l.length) ((sr2.cs.getD k5 default).c)]) (g := gr) (S := (inG [(b53, .cells #[.string ((sr2.cs.getD k5 default).dir), .slice (sr2.cs.getD k5 default).a ((sr2.cs.getD k5 default).l.length) ((sr2.cs.getD k5 default).c)] 104 (0, 0))])) rfl rfl rfl rfl (by kernel_rfl) (by kernel_rfl) (by kernel_rfl) rfl rfl (.inl ⟨104, (by kernel_rfl)⟩) (fun ⟨_, h⟩ => by cases h) (fun _ => ⟨104, (by kernel_rfl)⟩) (by kernel_rfl) (by kernel_rfl) (by kernel_rfl) rfl hO5 (SrcOf.slice _ _ _ _ Rd.lit (by first | exact rd_none hsr.kept hsr.kn | exact (fun h => by cases h))) (at_inG 0 rfl) (by first | rfl | (rw [nmC_len, hsr.kn]; rfl)) (by first | exact nmC_one _ | exact (by intro u hu; simp only [List.mem_cons, List.not_mem_nil, or_false] at hu; rcases hu with rfl | rfl <;> rfl)) (by omega) (by show (rs.length + 1) * 40 ≤ 140737488355328; omega) (fun v54 g55 hO56 => ?_)
                obtain ⟨a57, cap58, rfl, hcap59, hrd60⟩ := hO56.shape
                refine GL_fin (E' := [⟨0, [], pt x⟩, ⟨1, [], .slice la l.length lc⟩, ⟨4, [], .int .i64 (((u2 : Nat) : Int) + 1)⟩, ⟨9, [], .string ls⟩, ⟨16, [], .slice a57 (rs.length + 1) cap58⟩, ⟨161, [], .slice sr2.ca sr2.cn sr2.cc⟩, ⟨162, [], .int .i64 ((sr2.cn : Nat) : Int)⟩, ⟨163, [], .int .i64 ((k5 : Nat) : Int)⟩]) [0] [0, 1, 4, 9, 16, 161, 162, 163] rfl (by kernel_rfl) ?_
                refine N_block ?_
                refine N_then ?_
                have hw61 : IntKind.wrap .i64 (((k5 : Nat) : Int) + 1) = ((k5 : Nat) : Int) + 1 := w64 (by omega) (by omega)
                refine G_pure (E' := [⟨0, [], pt x⟩, ⟨1, [], .slice la l.length lc⟩, ⟨4, [], .int .i64 (((u2 : Nat) : Int) + 1)⟩, ⟨9, [], .string ls⟩, ⟨16, [], .slice a57 (rs.length + 1) cap58⟩, ⟨161, [], .slice sr2.ca sr2.cn sr2.cc⟩, ⟨162, [], .int .i64 ((sr2.cn : Nat) : Int)⟩, ⟨163, [], .int .i64 (((k5 : Nat) : Int) + 1)⟩]) [0, 0] [0, 1, 4, 9, 16, 161, 162, 163] rfl (Eq.trans (b := some [⟨0, [], pt x⟩, ⟨1, [], .slice la l.length lc⟩, ⟨4, [], .int .i64 (((u2 : Nat) : Int) + 1)⟩, ⟨9, [], .string ls⟩, ⟨16, [], .slice a57 (rs.length + 1) cap58⟩, ⟨161, [], .slice sr2.ca sr2.cn sr2.cc⟩, ⟨162, [], .int .i64 ((sr2.cn : Nat) : Int)⟩, ⟨163, [], .int .i64 (IntKind.wrap .i64 (((k5 : Nat) : Int) + 1))⟩]) (by kernel_rfl) (by simp only [hw61])) ?_
                refine N_env (E' := [⟨0, [], pt x⟩, ⟨1, [], .slice la l.length lc⟩, ⟨4, [], .int .i64 (((u2 : Nat) : Int) + 1)⟩, ⟨9, [], .string ls⟩, ⟨16, [], .slice a57 ((rs ++ [(sr2.cs.getD k5 default)]).length) cap58⟩, ⟨161, [], .slice sr2.ca sr2.cn sr2.cc⟩, ⟨162, [], .int .i64 ((sr2.cn : Nat) : Int)⟩, ⟨163, [], .int .i64 (((k5 : Nat) : Int) + 1)⟩]) (by rw [List.length_append]; rfl) ?_
                refine N_heap (H' := ([(x, .cells #[.int .i64 ((keepM Mr ls nn).room), .slice sr2.ba sr2.bn sr2.bc, .slice sr2.na sr2.nn sr2.nc, .slice sr2.ka sr2.kn sr2.kc, .slice sr2.ca sr2.cn sr2.cc, .bool ((keepM Mr ls nn).fails), .bool ((keepM Mr ls nn).once), .int .i64 ((keepM Mr ls nn).calls)] 86 (0, 0))] :: sr2.bg :: sr2.cg :: g55 :: (sr2.Z ++ H))) (fun w h => ((((((h.front (j := 5) rfl).front (j := 5) rfl).front (j := 5) rfl).front (j := 5) rfl).erase 5).erase 4)) ?_
                refine N_heq (H' := ([(x, .cells #[.int .i64 ((keepM Mr ls nn).room), .slice sr2.ba sr2.bn sr2.bc, .slice sr2.na sr2.nn sr2.nc, .slice sr2.ka sr2.kn sr2.kc, .slice sr2.ca sr2.cn sr2.cc, .bool ((keepM Mr ls nn).fails), .bool ((keepM Mr ls nn).once), .int .i64 ((keepM Mr ls nn).calls)] 86 (0, 0))] :: sr2.bg :: sr2.cg :: g55 :: (sr2.Z ++ H))) rfl ?_
                refine N_round (s' := (k5 + 1, rs ++ [(sr2.cs.getD k5 default)], a57, cap58, g55)) [0, 1, 4, 9, 16, 161, 162, 163] (by kernel_rfl) rfl ⟨(by omega), (by rw [filt_put (by omega) hdn5, ← hrs]), (own_chput hO56), (by rw [List.length_append]; show rs.length + 1 ≤ _; omega)⟩ (by omega)
              ·
                have hdn5 := hc52
                refine G_skip ?_
                refine N_block ?_
                refine N_then ?_
                have hw62 : IntKind.wrap .i64 (((k5 : Nat) : Int) + 1) = ((k5 : Nat) : Int) + 1 := w64 (by omega) (by omega)
                refine G_pure (E' := [⟨0, [], pt x⟩, ⟨1, [], .slice la l.length lc⟩, ⟨4, [], .int .i64 (((u2 : Nat) : Int) + 1)⟩, ⟨9, [], .string ls⟩, ⟨16, [], .slice ra rs.length rc⟩, ⟨161, [], .slice sr2.ca sr2.cn sr2.cc⟩, ⟨162, [], .int .i64 ((sr2.cn : Nat) : Int)⟩, ⟨163, [], .int .i64 (((k5 : Nat) : Int) + 1)⟩]) [0, 0] [0, 1, 4, 9, 16, 161, 162, 163] rfl (Eq.trans (b := some [⟨0, [], pt x⟩, ⟨1, [], .slice la l.length lc⟩, ⟨4, [], .int .i64 (((u2 : Nat) : Int) + 1)⟩, ⟨9, [], .string ls⟩, ⟨16, [], .slice ra rs.length rc⟩, ⟨161, [], .slice sr2.ca sr2.cn sr2.cc⟩, ⟨162, [], .int .i64 ((sr2.cn : Nat) : Int)⟩, ⟨163, [], .int .i64 (IntKind.wrap .i64 (((k5 : Nat) : Int) + 1))⟩]) (by kernel_rfl) (by simp only [hw62])) ?_
                refine N_heap (H' := ([(x, .cells #[.int .i64 ((keepM Mr ls nn).room), .slice sr2.ba sr2.bn sr2.bc, .slice sr2.na sr2.nn sr2.nc, .slice sr2.ka sr2.kn sr2.kc, .slice sr2.ca sr2.cn sr2.cc, .bool ((keepM Mr ls nn).fails), .bool ((keepM Mr ls nn).once), .int .i64 ((keepM Mr ls nn).calls)] 86 (0, 0))] :: sr2.bg :: sr2.cg :: gr :: (sr2.Z ++ H))) (fun w h => (((((h.front (j := 4) rfl).front (j := 4) rfl).front (j := 4) rfl).front (j := 4) rfl).erase 4)) ?_
                refine N_heq (H' := ([(x, .cells #[.int .i64 ((keepM Mr ls nn).room), .slice sr2.ba sr2.bn sr2.bc, .slice sr2.na sr2.nn sr2.nc, .slice sr2.ka sr2.kn sr2.kc, .slice sr2.ca sr2.cn sr2.cc, .bool ((keepM Mr ls nn).fails), .bool ((keepM Mr ls nn).once), .int .i64 ((keepM Mr ls nn).calls)] 86 (0, 0))] :: sr2.bg :: sr2.cg :: gr :: (sr2.Z ++ H))) rfl ?_
                refine N_round (s' := (k5 + 1, rs, ra, rc, gr)) [0, 1, 4, 9, 16, 161, 162, 163] (by kernel_rfl) rfl ⟨(by omega), (by rw [filt_skip (by omega) hdn5, ← hrs]), hO5, (by show rs.length ≤ _; omega)⟩ (by omega)
            ·
              replace hc50 := of_decide_eq_false hc50
              refine G_exit ?_
              refine N_then_exit ?_
              refine N_then_exit ?_
              refine N_block_exit ?_
              refine N_then ?_
              refine G_region ?_
              refine GL_pure (E' := [⟨179, [], .pointer (some ⟨x, 4, none⟩)⟩, ⟨177, [], .slice ra rs.length rc⟩, ⟨0, [], pt x⟩, ⟨1, [], .slice la l.length lc⟩, ⟨4, [], .int .i64 (((u2 : Nat) : Int) + 1)⟩]) [0, 0, 0, 0] (by kernel_rfl) (j := 4) rfl ?_
              refine GL_store (i := 4) (ch := []) (b := x) (off := 4) (v := .slice ra rs.length rc) (c := #[.int .i64 ((keepM Mr ls nn).room), .slice sr2.ba sr2.bn sr2.bc, .slice sr2.na sr2.nn sr2.nc, .slice sr2.ka sr2.kn sr2.kc, .slice sr2.ca sr2.cn sr2.cc, .bool ((keepM Mr ls nn).fails), .bool ((keepM Mr ls nn).once), .int .i64 ((keepM Mr ls nn).calls)]) (c' := #[.int .i64 ((keepM Mr ls nn).room), .slice sr2.ba sr2.bn sr2.bc, .slice sr2.na sr2.nn sr2.nc, .slice sr2.ka sr2.kn sr2.kc, .slice ra rs.length rc, .bool ((keepM Mr ls nn).fails), .bool ((keepM Mr ls nn).once), .int .i64 ((keepM Mr ls nn).calls)]) (j := 0) (m := 0) (H' := ([(x, .cells #[.int .i64 ((keepM Mr ls nn).room), .slice sr2.ba sr2.bn sr2.bc, .slice sr2.na sr2.nn sr2.nc, .slice sr2.ka sr2.kn sr2.kc, .slice ra rs.length rc, .bool ((keepM Mr ls nn).fails), .bool ((keepM Mr ls nn).once), .int .i64 ((keepM Mr ls nn).calls)] 86 (0, 0))] :: sr2.bg :: sr2.cg :: gr :: (sr2.Z ++ H))) rfl rfl (by kernel_rfl) (by kernel_rfl) (by kernel_rfl) (by kernel_rfl) (by kernel_rfl) (by kernel_rfl) (by kernel_rfl) rfl rfl (Nat.le_of_ble_eq_true rfl) (fun _ _ => thaw0) (by kernel_rfl) (by kernel_rfl) ?_
              refine GL_fin (E' := [⟨0, [], pt x⟩, ⟨1, [], .slice la l.length lc⟩, ⟨4, [], .int .i64 (((u2 : Nat) : Int) + 1)⟩]) [] [0, 1, 4] rfl (by kernel_rfl) ?_
              refine N_block ?_
              refine N_heap (H' := ([(x, .cells #[.int .i64 ((keepM Mr ls nn).room), .slice sr2.ba sr2.bn sr2.bc, .slice sr2.na sr2.nn sr2.nc, .slice sr2.ka sr2.kn sr2.kc, .slice ra rs.length rc, .bool ((keepM Mr ls nn).fails), .bool ((keepM Mr ls nn).once), .int .i64 ((keepM Mr ls nn).calls)] 86 (0, 0))] :: sr2.bg :: gr :: (sr2.Z ++ H))) (fun w h => ((((h.front (j := 3) rfl).front (j := 2) rfl).front (j := 2) rfl).erase 3)) ?_
              refine N_heq (H' := ([(x, .cells #[.int .i64 ((keepM Mr ls nn).room), .slice sr2.ba sr2.bn sr2.bc, .slice sr2.na sr2.nn sr2.nc, .slice sr2.ka sr2.kn sr2.kc, .slice ra rs.length rc, .bool ((keepM Mr ls nn).fails), .bool ((keepM Mr ls nn).once), .int .i64 ((keepM Mr ls nn).calls)] 86 (0, 0))] :: sr2.bg :: gr :: (sr2.Z ++ H))) rfl ?_
              refine N_round (s' := ({ sr2 with cn := rs.length, ca := ra, cc := rc, cg := gr, cs := rs }, (dropM (keepM Mr ls nn) ls), u2 + 1)) [0, 1, 4] (by kernel_rfl) rfl ⟨(ok_rdrop hsr2 (by rw [hrs, List.take_of_length_le (by omega)]) hO5), (crd_step hcr hmm.1 hmm.2 (by rw [hnn5, hcm]))⟩ (by show (dropM _ _).changes.length < Mr.changes.length; rw [keep_drop]; exact drop_less hmm.1)
    ·
      replace hc33 := of_decide_eq_false hc33
      have h0 : Mr.changes = [] := List.eq_nil_of_length_eq_zero (by omega)
      refine G_exit ?_
      refine N_then_exit ?_
      refine N_then_exit ?_
      refine N_block_exit ?_
      refine N_then ?_
      refine G_seq ?_
      refine G_region ?_
      refine GL_pure (E' := [⟨180, [], pt x⟩, ⟨0, [], pt x⟩]) [0] (by kernel_rfl) (j := 1) rfl ?_
      refine GL_buildSlice (i := 1) (ch := []) (e := 94) (l := []) (c := []) rfl rfl (by kernel_rfl) (by kernel_rfl) (by kernel_rfl) (by kernel_rfl) (by kernel_rfl) (fun b63 => ?_)
      refine GL_pure (E' := [⟨184, [], .pointer (some ⟨x, 3, none⟩)⟩, ⟨181, [], .slice (some ⟨b63, 0, none⟩) 0 0⟩, ⟨180, [], pt x⟩, ⟨0, [], pt x⟩]) [0, 0, 0] (by kernel_rfl) (j := 5) rfl ?_
      refine GL_load (i := 5) (ch := []) (b := x) (off := 3) (v := .slice sr.ka sr.kn sr.kc) rfl rfl (by kernel_rfl) (by kernel_rfl) (by kernel_rfl) (by kernel_rfl) (by kernel_rfl) (At.grp 1 0 rfl rfl) rfl ?_
      refine GL_append (i := 6) (ch := []) (t := 83) (tx := 83) (e := 94) (inf := Try.t94) (s := .slice (some ⟨b63, 0, none⟩) 0 0) (x := .slice sr.ka sr.kn sr.kc) (n := 0) (m := sr.kn) (j := 0) (cs := []) (news := (nmC Mr.kept)) (g := [(b63, .cells #[] 94 (0, 0))]) (S := (inZ sr.Z)) rfl rfl rfl rfl (by kernel_rfl) (by kernel_rfl) (by kernel_rfl) rfl rfl (.inl ⟨94, (by kernel_rfl)⟩) (fun ⟨_, h⟩ => by cases h) (fun _ => ⟨94, (by kernel_rfl)⟩) (by kernel_rfl) (by kernel_rfl) (by kernel_rfl) rfl (Own.lit rfl) (SrcOf.slice _ _ _ _ hsr.kept (by first | exact rd_none hsr.kept hsr.kn | exact (fun h => by cases h))) (fun y o h => (At.cons (At.cons (At.cons (At.cons (at_inZ h)))))) (by first | rfl | (rw [nmC_len, hsr.kn]; rfl)) (by first | exact nmC_one _ | exact (by intro u hu; simp only [List.mem_cons, List.not_mem_nil, or_false] at hu; rcases hu with rfl | rfl <;> rfl)) (by omega) (by show (0 + sr.kn) * 24 ≤ 140737488355328; omega) (fun v64 g65 hO66 => ?_)
      obtain ⟨a67, cap68, rfl, hcap69, hrd70⟩ := hO66.shape
      refine GL_pure (E' := [⟨188, [], .pointer (some ⟨x, 2, none⟩)⟩, ⟨186, [], .slice a67 (0 + sr.kn) cap68⟩, ⟨0, [], pt x⟩]) [0, 0] (by kernel_rfl) (j := 9) rfl ?_
      refine GL_store (i := 9) (ch := []) (b := x) (off := 2) (v := .slice a67 (0 + sr.kn) cap68) (c := #[.int .i64 Mr.room, .slice sr.ba sr.bn sr.bc, .slice sr.na sr.nn sr.nc, .slice sr.ka sr.kn sr.kc, .slice sr.ca sr.cn sr.cc, .bool Mr.fails, .bool Mr.once, .int .i64 Mr.calls]) (c' := #[.int .i64 Mr.room, .slice sr.ba sr.bn sr.bc, .slice a67 (0 + sr.kn) cap68, .slice sr.ka sr.kn sr.kc, .slice sr.ca sr.cn sr.cc, .bool Mr.fails, .bool Mr.once, .int .i64 Mr.calls]) (j := 1) (m := 0) (H' := (g65 :: [(x, .cells #[.int .i64 Mr.room, .slice sr.ba sr.bn sr.bc, .slice a67 (0 + sr.kn) cap68, .slice sr.ka sr.kn sr.kc, .slice sr.ca sr.cn sr.cc, .bool Mr.fails, .bool Mr.once, .int .i64 Mr.calls] 86 (0, 0))] :: sr.bg :: sr.cg :: (sr.Z ++ H))) rfl rfl (by kernel_rfl) (by kernel_rfl) (by kernel_rfl) (by kernel_rfl) (by kernel_rfl) (by kernel_rfl) (by kernel_rfl) rfl rfl (Nat.le_of_ble_eq_true rfl) (fun _ _ => thaw0) (by kernel_rfl) (by kernel_rfl) ?_
      refine GL_fin (E' := [⟨0, [], pt x⟩]) [] [0] rfl (by kernel_rfl) ?_
      refine N_then ?_
      refine G_region ?_
      refine GL_pure (E' := [⟨191, [], .pointer (some ⟨x, 5, none⟩)⟩]) [0, 0, 0] (by kernel_rfl) (j := 3) rfl ?_
      refine GL_store (i := 3) (ch := []) (b := x) (off := 5) (v := .bool false) (c := #[.int .i64 Mr.room, .slice sr.ba sr.bn sr.bc, .slice a67 (0 + sr.kn) cap68, .slice sr.ka sr.kn sr.kc, .slice sr.ca sr.cn sr.cc, .bool Mr.fails, .bool Mr.once, .int .i64 Mr.calls]) (c' := #[.int .i64 Mr.room, .slice sr.ba sr.bn sr.bc, .slice a67 (0 + sr.kn) cap68, .slice sr.ka sr.kn sr.kc, .slice sr.ca sr.cn sr.cc, .bool false, .bool Mr.once, .int .i64 Mr.calls]) (j := 1) (m := 0) (H' := (g65 :: [(x, .cells #[.int .i64 Mr.room, .slice sr.ba sr.bn sr.bc, .slice a67 (0 + sr.kn) cap68, .slice sr.ka sr.kn sr.kc, .slice sr.ca sr.cn sr.cc, .bool false, .bool Mr.once, .int .i64 Mr.calls] 86 (0, 0))] :: sr.bg :: sr.cg :: (sr.Z ++ H))) rfl rfl (by kernel_rfl) (by kernel_rfl) (by kernel_rfl) (by kernel_rfl) (by kernel_rfl) (by kernel_rfl) (by kernel_rfl) rfl rfl (Nat.le_of_ble_eq_true rfl) (fun _ _ => thaw0) (by kernel_rfl) (by kernel_rfl) ?_
      refine GL_fin (E' := []) [] [] rfl (by kernel_rfl) ?_
      refine N_heap (H' := ([(x, .cells #[.int .i64 Mr.room, .slice sr.ba sr.bn sr.bc, .slice a67 (0 + sr.kn) cap68, .slice sr.ka sr.kn sr.kc, .slice sr.ca sr.cn sr.cc, .bool false, .bool Mr.once, .int .i64 Mr.calls] 86 (0, 0))] :: sr.bg :: sr.cg :: g65 :: (sr.Z ++ H))) (fun w h => (((h.front (j := 3) rfl).front (j := 3) rfl).front (j := 3) rfl)) ?_
      refine N_ret [] [] rfl (by kernel_rfl) rfl ?_
      have e := crd_end hcr h0
      rw [← e]
      exact ⟨rfl, _, ok_rend hsr (by omega) (own_rd hO66), rfl⟩
end Go.Proofs.Ytbmieiffboenbaa
namespace Go.Vf
open Go.Sw Go.Proofs.Ytbmieiffboenbaa
def doM (M : DM) (o : OpV) : Int × DM :=
  if kindU o = 0 then writeM M o.path o.b else if kindU o = 1 then appendM M o.path o.b else if kindU o = 2 then renameM M o.path o.to
  else if kindU o = 3 then removeM M o.path else if kindU o = 4 then syncM M o.path else if kindU o = 5 then syncDirM M o.path
  else if kindU o = 6 then (0, failM M o.n (decide (((o.b.size : Nat) : Int) > 0))) else (0, crashM M o.k)
structure ScrI (s w j : Nat) (M : DM) : Prop where
  bodies : M.bodies.length ≤ j
  size : ∀ B ∈ M.bodies, B.now.size ≤ s ∧ B.kept.size ≤ B.now.size
  names : M.names.length ≤ w
  kept : M.kept.length + addsC M.changes ≤ w
  changes : M.changes.length ≤ w
  calls : -9223372036854775808 ≤ M.calls ∧ M.calls ≤ 9223372036854775807
  rn : RightL M.names
  rk : RightL M.kept
  rc : ∀ c ∈ M.changes, RightL c.l ∧ c.dir.size ≤ 161 ∧ c.l.length ≤ 2
def Scr (z i : Nat) (M : DM) : Prop := ScrI (z * i) i i M
theorem ScrI.small {s w j : Nat} {M : DM} (h : ScrI s w j M) (hs : s ≤ 10000000) (hw : w ≤ 10000) (hj : j ≤ 10000) : SmallR M := by
  refine ⟨⟨by have := h.bodies; omega, fun B hB => ⟨Nat.le_trans (h.size B hB).1 hs, (h.size B hB).2⟩, by have := h.names; omega, by have := h.changes; omega, h.calls, fun x hx => by have := right_size (h.rn x hx); omega, fun c hc => by have := (h.rc c hc).2.1; omega⟩, by have := h.kept; omega, fun c hc => (h.rc c hc).2.2⟩
theorem Scr.small {z i : Nat} {M : DM} (h : Scr z i M) (hi : i ≤ 100) (hz : z ≤ 5000) : SmallR M :=
  ScrI.small h (by have := Nat.mul_le_mul hz hi; omega) (by omega) (by omega)
theorem ScrI.up {s s' w w' j j' : Nat} {M : DM} (h : ScrI s w j M) (hs : s ≤ s') (hw : w ≤ w') (hj : j ≤ j') : ScrI s' w' j' M :=
  ⟨Nat.le_trans h.bodies hj, fun B hB => ⟨Nat.le_trans (h.size B hB).1 hs, (h.size B hB).2⟩, Nat.le_trans h.names hw, Nat.le_trans h.kept hw, Nat.le_trans h.changes hw, h.calls, h.rn, h.rk, h.rc⟩
theorem scr_call {s w j : Nat} {M : DM} (h : ScrI s w j M) (r : Bool) : ScrI s w j (callM M r) :=
  ⟨h.bodies, h.size, h.names, h.kept, h.changes, callS_rng h.calls, h.rn, h.rk, h.rc⟩
theorem scr_change {s w j : Nat} {M : DM} (h : ScrI s w j M) {d : ByteArray} {l : List Nm} (hl : adds l ≤ 1) (hll : l.length ≤ 2) (hr : RightL l) (hd : d.size ≤ 161) : ScrI s (w + 1) j (changeM M d l) := by
  refine ⟨h.bodies, h.size, ?_, ?_, ?_, h.calls, right_apply h.rn hr, h.rk, fun c hc => ?_⟩
  · have h1 := apply_len l M.names
    have h2 := h.names
    show (applyN M.names l).length ≤ _
    omega
  · have h2 := h.kept
    show M.kept.length + addsC (M.changes ++ [⟨d, l⟩]) ≤ _
    rw [addsC_app]
    have : addsC [⟨d, l⟩] = adds l := by simp [addsC]
    omega
  · have h2 := h.changes
    show (M.changes ++ [_]).length ≤ _
    rw [List.length_append]; simp; omega
  · rcases List.mem_append.1 (show c ∈ M.changes ++ [⟨d, l⟩] from hc) with hc | hc
    · exact h.rc c hc
    · rw [List.mem_singleton.1 hc]; exact ⟨hr, hd, hll⟩
theorem scr_body {s w j : Nat} {M : DM} (h : ScrI s w j M) {b : ByteArray} (hb : b.size ≤ s) : ScrI s w (j + 1) { M with bodies := M.bodies ++ [⟨b, ByteArray.mk #[]⟩] } :=
  ⟨by have := h.bodies; show (M.bodies ++ [_]).length ≤ _; rw [List.length_append]; simp; omega, fun B hB => by
    rcases List.mem_append.1 (show B ∈ M.bodies ++ [⟨b, ByteArray.mk #[]⟩] from hB) with hB | hB
    · exact h.size B hB
    · rw [List.mem_singleton.1 hB]; exact ⟨hb, Nat.zero_le _⟩, h.names, h.kept, h.changes, h.calls, h.rn, h.rk, h.rc⟩
theorem scr_at {s w j : Nat} {M : DM} (h : ScrI s w j M) (k : Int) : (bodyAt M k).now.size ≤ s ∧ (bodyAt M k).kept.size ≤ (bodyAt M k).now.size := by
  unfold bodyAt
  rw [List.getD_eq_getElem?_getD]
  by_cases hk : k.toNat < M.bodies.length
  · rw [List.getElem?_eq_getElem hk]; exact h.size _ (List.getElem_mem hk)
  · rw [List.getElem?_eq_none (by omega)]; exact ⟨Nat.zero_le _, Nat.zero_le _⟩
theorem scr_set {s w j : Nat} {M : DM} (h : ScrI s w j M) (k : Int) {B : Body} (hB : B.now.size ≤ s ∧ B.kept.size ≤ B.now.size) : ScrI s w j (setBody M k B) :=
  ⟨by show (M.bodies.set _ _).length ≤ _; rw [List.length_set]; exact h.bodies, fun x hx => by
    rcases List.mem_or_eq_of_mem_set (show x ∈ M.bodies.set k.toNat B from hx) with hx | rfl
    · exact h.size x hx
    · exact hB, h.names, h.kept, h.changes, h.calls, h.rn, h.rk, h.rc⟩
theorem Scr.stay {z i : Nat} {M : DM} (h : Scr z i M) : Scr z (i + 1) M := ScrI.up h (Nat.mul_le_mul_left _ (by omega)) (by omega) (by omega)
theorem Scr.mono {z i k : Nat} {M : DM} (h : Scr z i M) (hk : i ≤ k) : Scr z k M := ScrI.up h (Nat.mul_le_mul_left _ hk) hk hk
theorem Scr.call_ {z i : Nat} {M : DM} (h : Scr z i M) (r : Bool) : Scr z i (callM M r) := scr_call h r
theorem sum1 (z i : Nat) : z * (i + 1) = z * i + z := Nat.mul_succ z i
theorem scr_write {z i : Nat} {M : DM} (h : Scr z i M) (p : ByteArray) {b : ByteArray} (hb : b.size ≤ z) : Scr z (i + 1) (writeM M p b).2 := by
  have hc := (h.call_ (rightB p)).stay
  by_cases he : errM M (rightB p) = 0
  · have hr := err_right he
    by_cases hroom : (usedM M : Int) - (wasM M p : Int) + (b.size : Int) > M.room
    · rw [writeM_full he hroom]; exact hc
    · rw [writeM_ok he hroom]
      exact scr_change (w := i) (scr_body (ScrI.up (h.call_ (rightB p)) (by rw [sum1]; omega) (Nat.le_refl _) (Nat.le_refl _)) (b := b) (by rw [sum1]; omega)) (by unfold adds; exact Nat.le_trans (List.length_filter_le _ _) (Nat.le_refl 1)) (Nat.le_of_ble_eq_true rfl) (fun x hx => by rw [List.mem_singleton.1 hx]; exact hr) (by have := dir_size p; have := right_size hr; omega)
  · rw [writeM_err he]; exact hc
theorem scr_append {z i : Nat} {M : DM} (h : Scr z i M) (p : ByteArray) {b : ByteArray} (hb : b.size ≤ z) : Scr z (i + 1) (appendM M p b).2 := by
  have hc := (h.call_ (rightB p)).stay
  by_cases he : errM M (rightB p) = 0
  · cases hl : lookN M.names p with
    | none => rw [appendM_no he hl]; exact hc
    | some k =>
      by_cases hroom : (usedM M : Int) + (b.size : Int) > M.room
      · rw [appendM_full he hl hroom]; exact hc
      · rw [appendM_ok he hl hroom]
        obtain ⟨s1, s2⟩ := scr_at h k
        exact scr_set hc k (by simp only [ByteArray.size_append]; rw [sum1]; omega)
  · rw [appendM_err he]; exact hc
theorem scr_rename {z i : Nat} {M : DM} (h : Scr z i M) (p q : ByteArray) : Scr z (i + 1) (renameM M p q).2 := by
  have hc := (h.call_ (renR p q)).stay
  by_cases he : errM M (renR p q) = 0
  · have hr := err_right he
    have hpq : rightB p = true ∧ rightB q = true := by
      unfold renR at hr
      simp only [Bool.and_eq_true] at hr
      exact hr.1
    cases hl : lookN M.names p with
    | none => rw [renameM_no he hl]; exact hc
    | some k =>
      cases hs : p == q with
      | true => rw [renameM_same he hl hs]; exact hc
      | false =>
        rw [renameM_ok he hl hs]
        exact scr_change (w := i) (ScrI.up (h.call_ (renR p q)) (by rw [sum1]; omega) (Nat.le_refl _) (by omega)) (by
          unfold adds
          rw [List.filter_cons, if_neg (by show ¬ decide ((0 : Int) ≤ -1) = true; decide)]
          exact Nat.le_trans (List.length_filter_le _ _) (Nat.le_refl 1)) (Nat.le_of_ble_eq_true rfl) (fun x hx => by
          rcases List.mem_cons.1 hx with rfl | hx
          · exact hpq.1
          · rw [List.mem_singleton.1 hx]; exact hpq.2) (by have := dir_size q; have := right_size hpq.2; omega)
  · rw [renameM_err he]; exact hc
theorem scr_remove {z i : Nat} {M : DM} (h : Scr z i M) (p : ByteArray) : Scr z (i + 1) (removeM M p).2 := by
  have hc := (h.call_ (rightB p)).stay
  by_cases he : errM M (rightB p) = 0
  · have hr := err_right he
    cases hl : lookN M.names p with
    | none => rw [removeM_no he hl]; exact hc
    | some k =>
      rw [removeM_ok he hl]
      exact scr_change (w := i) (ScrI.up (h.call_ (rightB p)) (by rw [sum1]; omega) (Nat.le_refl _) (by omega)) (by
        unfold adds
        rw [List.filter_cons, if_neg (by show ¬ decide ((0 : Int) ≤ -1) = true; decide)]
        exact Nat.zero_le 1) (Nat.le_of_ble_eq_true rfl) (fun x hx => by rw [List.mem_singleton.1 hx]; exact hr) (by have := dir_size p; have := right_size hr; omega)
  · rw [removeM_err he]; exact hc
theorem scr_sync {z i : Nat} {M : DM} (h : Scr z i M) (p : ByteArray) : Scr z (i + 1) (syncM M p).2 := by
  have hc := (h.call_ (rightB p)).stay
  by_cases he : errM M (rightB p) = 0
  · cases hl : lookN M.names p with
    | none => rw [syncM_no he hl]; exact hc
    | some k =>
      rw [syncM_ok he hl]
      obtain ⟨s1, s2⟩ := scr_at h.stay k
      exact scr_set hc k ⟨s1, Nat.le_refl _⟩
  · rw [syncM_err he]; exact hc
theorem scr_sdir {z i : Nat} {M : DM} (h : Scr z i M) (d : ByteArray) : Scr z (i + 1) (syncDirM M d).2 := by
  have hc := (h.call_ (dirR d)).stay
  by_cases he : errM M (dirR d) = 0
  · rw [syncDirM_ok he]
    have e1 := fold_len (chOf M.changes d) M.kept
    have e2 := addsC_split M.changes d
    have e3 : M.kept.length + addsC M.changes ≤ i + 1 := hc.kept
    have e4 : M.changes.length ≤ i + 1 := hc.changes
    have e5 := List.length_filter_le (fun c : Ch => !(d == c.dir)) M.changes
    refine ⟨hc.bodies, hc.size, hc.names, ?_, ?_, hc.calls, hc.rn, right_fold hc.rk fun x hx => ?_, fun c hm => hc.rc c (List.mem_filter.1 hm).1⟩
    · show ((chOf M.changes d).foldl applyN M.kept).length + addsC (M.changes.filter _) ≤ i + 1
      omega
    · show (M.changes.filter _).length ≤ i + 1
      omega
    · obtain ⟨c, hm, rfl⟩ := chOf_mem hx
      exact (hc.rc c hm).1
  · rw [syncDirM_err he]; exact hc
theorem scr_fail {z i : Nat} {M : DM} (h : Scr z i M) {n : Int} (hn : -9223372036854775808 ≤ n ∧ n ≤ 9223372036854775807) (o : Bool) : Scr z (i + 1) (failM M n o) := by
  have hc := h.stay
  refine ⟨hc.bodies, hc.size, hc.names, hc.kept, hc.changes, ?_, hc.rn, hc.rk, hc.rc⟩
  show -9223372036854775808 ≤ (if 0 > n then 0 else n) ∧ (if 0 > n then 0 else n) ≤ 9223372036854775807
  split <;> omega
theorem scr_crash {z i : Nat} {M : DM} (h : Scr z i M) (ks : List Int) : Scr z (i + 1) (crashM M ks) := by
  have hc := h.stay
  have hk := crashD_len (dirsOf M.changes) M.changes (crashB M.bodies ks).2 M.kept (dirs_nodup _)
  have h1 := hc.kept
  have hr : RightL (crashD M.changes (dirsOf M.changes) (crashB M.bodies ks).2 M.kept) := right_crash hc.rk fun c hm => (hc.rc c hm).1
  have hs := crashB_size (n := z * (i + 1)) (ks := ks) hc.size
  refine ⟨?_, fun B hB => ⟨(hs B hB).1, Nat.le_of_eq (hs B hB).2⟩, ?_, ?_, Nat.zero_le _, hc.calls, hr, hr, fun c hm => absurd hm List.not_mem_nil⟩
  · show (crashB M.bodies ks).1.length ≤ i + 1
    rw [crashB_len]; exact hc.bodies
  · show (crashD _ _ _ _).length ≤ i + 1
    omega
  · show (crashD M.changes (dirsOf M.changes) (crashB M.bodies ks).2 M.kept).length + 0 ≤ i + 1
    omega
theorem scr_new (z : Nat) (room : Int) : Scr z 0 (newM room) :=
  ⟨Nat.le_refl _, fun B hB => absurd hB List.not_mem_nil, Nat.le_refl _, Nat.le_refl _, Nat.le_refl _, by show (-9223372036854775808 : Int) ≤ 0 ∧ (0 : Int) ≤ 9223372036854775807; omega, fun x hx => absurd hx List.not_mem_nil, fun x hx => absurd hx List.not_mem_nil, fun c hc => absurd hc List.not_mem_nil⟩
theorem scr_do {z i : Nat} {M : DM} (h : Scr z i M) {o : OpV} (hb : o.b.size ≤ z) (hn : -9223372036854775808 ≤ o.n ∧ o.n ≤ 9223372036854775807) : Scr z (i + 1) (doM M o).2 := by
  unfold doM
  split
  · exact scr_write h _ hb
  split
  · exact scr_append h _ hb
  split
  · exact scr_rename h _ _
  split
  · exact scr_remove h _
  split
  · exact scr_sync h _
  split
  · exact scr_sdir h _
  split
  · exact scr_fail h hn _
  · exact scr_crash h _
end Go.Vf
namespace Go.Sw
open Go.RowKit
theorem Sat.dropMid {W0 : World} {K A L : List Grp} {w : World} (h : Sat W0 (K ++ (A ++ L)) w) : Sat W0 (K ++ L) w :=
  h.subl (by rw [List.flatten_append, List.flatten_append, List.flatten_append]; exact List.Sublist.append (List.Sublist.refl _) (List.sublist_append_right _ _))
theorem own_nil0 {et : TypeId} {sz : Nat} {v : Value} {g : Grp} {n : Nat} {cs : List Value} (h : Own et sz v g (0 + n) ([] ++ cs)) : Own et sz v g n cs := by simpa using h
end Go.Sw
namespace Go.Vf
open Go.Sw Go.RowKit Go.Proofs Go.Proofs.Ytbmieiffboenbaa
theorem front2_to {K A X H : List Grp} {W0 : World} {w : World} (hw : Sat W0 (K ++ (A ++ (X ++ H))) w) : Sat W0 (X ++ (K ++ (A ++ H))) w := sat_cnt hw fun _ x => by
  simp only [List.flatten_append, List.count_append]; omega
theorem front2_of {K A X H : List Grp} {W0 : World} {w : World} (hw : Sat W0 (X ++ (K ++ (A ++ H))) w) : Sat W0 (K ++ (A ++ (X ++ H))) w := sat_cnt hw fun _ x => by
  simp only [List.flatten_append, List.count_append]; omega
theorem is_front2 {f : FuncId} {args : Array Value} {W0 : World} {r : RS} {x : Nat} {N N' : DM} {v0 : Value} {K A H : List Grp} (h : Tri Try.prog f args W0 (r.G x N ++ (K ++ (A ++ H))) (IsR x N' v0 (K ++ (A ++ H)))) :
    Tri Try.prog f args W0 (K ++ (A ++ (r.G x N ++ H))) (fun v H' => v = v0 ∧ ∃ r' : RS, r'.ok N' ∧ H' = K ++ (A ++ (r'.G x N' ++ H))) :=
  Tri.heap (fun _ hw => front2_to hw) (Tri.post h fun v H1 ⟨hv, s', hs, hH⟩ => ⟨_, ⟨hv, s', hs, rfl⟩, fun w hw => by rw [hH] at hw; exact front2_of hw⟩)
theorem dReadO {s : DS} {M : DM} {b : ByteArray} {e : Int} (h : s.ok M) (hm : ∀ B ∈ M.bodies, B.now.size ≤ 10000000) (d : Nat) (path : ByteArray) (K : List Grp) (W0 : World) (H : List Grp) (he : readM M path = (b, e)) :
    Tri Try.prog 19 #[.pointer (some ⟨d, 0, none⟩), .string path] W0 (K ++ (s.G d M ++ H)) (fun v H' => ∃ a c g, v = .tuple #[.slice a b.size c, .int .i64 e] ∧ Own 5 1 (.slice a b.size c) g b.size (u8s b.data.toList) ∧ H' = g :: (K ++ (s.G d M ++ H))) := by
  have := cRead h hm d path W0 (K ++ H)
  rw [he] at this
  refine Tri.heap (fun _ hw => front_to hw) (Tri.post this fun v H1 ⟨x, g, hv, ho, hH⟩ => ?_)
  obtain ⟨a, c, rfl, hc, hr⟩ := ho.shape
  refine ⟨_, ⟨a, c, g, hv, ho, rfl⟩, fun w hw => ?_⟩
  rw [hH] at hw
  refine sat_cnt hw fun _ x => ?_
  simp only [List.flatten_cons, List.flatten_append, List.count_append]
  omega
theorem own_sh {a : Option Addr} {n c : Nat} {g : Grp} {cs : List Value} (h : Own 5 1 (.slice a n c) g n cs) : Sh a n c := by
  obtain ⟨hl, ⟨he, _, hn⟩ | ⟨b, cap, junk, he, _, hc, _⟩⟩ := h
  · injection he with e1 e2 e3; exact .inl ⟨e1, e2, e3⟩
  · injection he with e1 e2 e3; exact .inr (.inr ⟨b, 0, e1⟩)
theorem own_bytesV {W0 : World} {K H : List Grp} {a : Option Addr} {c : Nat} {g : Grp} {b : ByteArray} (h : Own 5 1 (.slice a b.size c) g b.size (u8s b.data.toList)) (j : Nat) (hj : (K ++ H)[j]? = some g) : BytesV W0 (K ++ H) (.slice a b.size c) b :=
  ⟨a, c, inG g, rfl, own_sh h, own_rd h, at_inG j hj⟩
theorem u8z (l : List UInt8) : u8s l = (l.map fun b => (b.toNat : Int)).map (Value.int .u8) := by
  unfold u8s
  rw [List.map_map]; rfl
theorem own_z {a : Option Addr} {n c : Nat} {g : Grp} {l : List UInt8} (h : Own 5 1 (.slice a n c) g n (u8s l)) : Own 5 1 (.slice a n c) g n ((l.map fun b => (b.toNat : Int)).map (Value.int .u8)) := by rw [← u8z]; exact h
theorem zs_at {zs : List Int} {k : Nat} (h : k < zs.length) : (zs.map (Value.int .u8))[k]? = some (.int .u8 (zs.getD k 0)) := by
  rw [List.getElem?_map, List.getElem?_eq_getElem h, List.getD_eq_getElem?_getD, List.getElem?_eq_getElem h]; rfl
theorem zs_set {zs : List Int} {k : Nat} {v : Int} : (zs.map (Value.int .u8)).set k (.int .u8 v) = (zs.set k v).map (Value.int .u8) := by rw [List.map_set]
theorem zs_ne {zs : List Int} {k : Nat} (h : k < zs.length) : zs.map (Value.int .u8) ≠ [] := by
  intro e
  rw [List.map_eq_nil_iff] at e
  rw [e] at h; simp at h
theorem refSplit2 (s : ByteArray) (hs : s.size ≤ 9223372036854775807) (W0 : World) (H : List Grp) : Tri Try.prog 28 #[.string s] W0 H (fun v H' => (∃ y, v = .tuple #[.string (dirB s), .string y]) ∧ H' = H) :=
  Tri.post (refSplit s hs W0 H) fun v H1 ⟨hv, hH⟩ => ⟨H1, ⟨by
    rw [hv]
    unfold dirB
    split
    · exact ⟨_, rfl⟩
    · exact ⟨_, rfl⟩, hH⟩, fun _ h => h⟩
theorem ba_none {S : Nat → Obj → Prop} {W0 : World} {H : List Grp} {o : OpV} (h : OpOk S W0 H o) (hn : o.ba = none) : o.b.size = 0 := by
  rcases h.b.sh with ⟨_, h0, _⟩ | ⟨ad, h1, _⟩ | ⟨k, off, h1⟩
  · exact h0
  · rw [hn] at h1; cases h1
  · rw [hn] at h1; cases h1
end Go.Vf
namespace Go.Proofs.Ytbmieiffboenbaa
open Go.Sw Go.Lib Go.Vf Go.RowKit
set_option maxRecDepth 4000 in
set_option maxHeartbeats 1000000 in
theorem vFirst  (W0 : World) (H : List Grp) : Tri Try.prog 9 #[] W0 H (fun v H' => v = .bool true ∧ ∃ G, H' = G ++ H) := by
  refine Tri_of (args := []) (n := 68) Try.func9 rfl rfl (Nat.le_of_ble_eq_true rfl) ?_
  refine G_seq ?_
  refine G_pure (E' := []) [0] [] rfl (by kernel_rfl) ?_
  refine N_then ?_
  refine G_seq ?_
  refine G_region ?_
  refine GL_call (i := 0) (ch := []) (f := 12) (fst := #[]) (caps := #[]) (vs := [.int .i64 100]) rfl rfl rfl (by kernel_rfl) (by kernel_rfl) Try.func12 rfl rfl (by kernel_rfl) (by kernel_rfl) (chSure_of (by kernel_rfl)) (dNew 100 (M := (newM 100)) _ _ rfl) ?_
  rintro v H' ⟨d1, rfl, s1, hs1, rfl⟩
  refine GL_fin (E' := [⟨1, [], pt d1⟩]) [0] [1] rfl (by kernel_rfl) ?_
  refine N_then ?_
  refine G_seq ?_
  refine G_seq ?_
  refine G_region ?_
  refine GL_pure (E' := [⟨8, [(7, false)], pt d1⟩, ⟨7, [], .bool false⟩, ⟨1, [], pt d1⟩]) [0, 0, 0, 0] (by kernel_rfl) (j := 4) rfl ?_
  refine GL_buildSlice (i := 4) (ch := [(7, false)]) (e := 5) (l := [(0, .int .u8 120), (1, .int .u8 121)]) (c := [.int .u8 120, .int .u8 121]) rfl rfl (by kernel_rfl) (by kernel_rfl) (by kernel_rfl) (by kernel_rfl) (by kernel_rfl) (fun b2 => ?_)
  refine GL_sameBytes (i := 5) (ch := [(7, false)]) (t := 24) (e := 5) (b := b2) (off := 0) (l := 2) (cap := 2) (j := 0) (m := 0) rfl rfl (by kernel_rfl) (by kernel_rfl) (by kernel_rfl) (by kernel_rfl) (by kernel_rfl) (by kernel_rfl) rfl rfl (by rfl) ?_
  refine GL_call (i := 6) (ch := [(7, false)]) (f := 13) (fst := #[]) (caps := #[]) (vs := [pt d1, .string (ByteArray.mk #[97]), .slice (some ⟨b2, 0, none⟩) 2 2]) rfl rfl rfl (by kernel_rfl) (by kernel_rfl) Try.func13 rfl rfl (by kernel_rfl) (by kernel_rfl) (chSure_of (by kernel_rfl)) (dWrite hs1 fs0 d1 (ByteArray.mk #[97]) fxy (by decide) (by decide) [[(b2, .cells #[.int .u8 120, .int .u8 121] 5 (2, 2 + 1))]] _ H ⟨some ⟨b2, 0, none⟩, 2, inG [(b2, .cells #[.int .u8 120, .int .u8 121] 5 (2, 2 + 1))], rfl, .inr (.inr ⟨b2, 0, rfl⟩), (Rd.lit (c := [.int .u8 120, .int .u8 121])), (at_inG 0 rfl)⟩ f_write1) ?_
  rintro v H' ⟨rfl, s2, hs2, rfl⟩
  refine GL_pure (E' := [⟨15, [(14, false)], pt d1⟩, ⟨14, [], .bool false⟩, ⟨1, [], pt d1⟩]) [0, 3, 0, 0] (by kernel_rfl) (j := 11) rfl ?_
  refine GL_call (i := 11) (ch := [(14, false)]) (f := 14) (fst := #[]) (caps := #[]) (vs := [pt d1, .string (ByteArray.mk #[97])]) rfl rfl rfl (by kernel_rfl) (by kernel_rfl) Try.func14 rfl rfl (by kernel_rfl) (by kernel_rfl) (chSure_of (by kernel_rfl)) (dSync hs2 fs1 d1 (ByteArray.mk #[97]) (by decide) [[(b2, .cells #[.int .u8 120, .int .u8 121] 5 (2, 2 + 1))]] _ H f_sync) ?_
  rintro v H' ⟨rfl, s3, hs3, rfl⟩
  refine GL_fin (E' := [⟨1, [], pt d1⟩, ⟨18, [], .bool false⟩]) [0, 3] [1, 18] rfl (by kernel_rfl) ?_
  refine N_then ?_
  refine G_condf (by kernel_rfl) ?_
  refine G_skip ?_
  refine N_then ?_
  refine G_seq ?_
  refine G_region ?_
  refine GL_pure (E' := [⟨19, [], pt d1⟩, ⟨1, [], pt d1⟩]) [0] (by kernel_rfl) (j := 1) rfl ?_
  refine GL_call (i := 1) (ch := []) (f := 18) (fst := #[]) (caps := #[]) (vs := [pt d1, .slice none 0 0]) rfl rfl rfl (by kernel_rfl) (by kernel_rfl) Try.func18 rfl rfl (by kernel_rfl) (by kernel_rfl) (chSure_of (by kernel_rfl)) (dCrash (M' := fm3) hs3 fs2 d1 ([]) none 0 (fun _ _ => False) ⟨.inl rfl, by decide, by decide, fun _ h => absurd h List.not_mem_nil⟩ [[(b2, .cells #[.int .u8 120, .int .u8 121] 5 (2, 2 + 1))]] _ H (fun _ _ h => h.elim) f_crash1) ?_
  rintro v H' ⟨rfl, s4, hs4, rfl⟩
  refine GL_fin (E' := [⟨1, [], pt d1⟩]) [] [1] rfl (by kernel_rfl) ?_
  refine N_then ?_
  refine G_seq ?_
  refine G_seq ?_
  refine G_region ?_
  refine GL_pure (E' := [⟨21, [], pt d1⟩, ⟨1, [], pt d1⟩]) [0] (by kernel_rfl) (j := 1) rfl ?_
  refine GL_call (i := 1) (ch := []) (f := 21) (fst := #[]) (caps := #[]) (vs := [pt d1, .string (ByteArray.mk #[])]) rfl rfl rfl (by kernel_rfl) (by kernel_rfl) Try.func21 rfl rfl (by kernel_rfl) (by kernel_rfl) (chSure_of (by kernel_rfl)) (dList hs4 fs3 d1 (ByteArray.mk #[]) [[(b2, .cells #[.int .u8 120, .int .u8 121] 5 (2, 2 + 1))]] _ H f_list) ?_
  rintro v H' ⟨la3, lc4, g5, rfl, hlc6, hrd7, rfl⟩
  refine GL_pure (E' := [⟨26, [(25, false)], pt d1⟩, ⟨25, [], .bool false⟩, ⟨1, [], pt d1⟩]) [0, 0, 0, 0] (by kernel_rfl) (j := 6) rfl ?_
  refine GL_buildSlice (i := 6) (ch := [(25, false)]) (e := 5) (l := [(0, .int .u8 120), (1, .int .u8 121)]) (c := [.int .u8 120, .int .u8 121]) rfl rfl (by kernel_rfl) (by kernel_rfl) (by kernel_rfl) (by kernel_rfl) (by kernel_rfl) (fun b8 => ?_)
  refine GL_sameBytes (i := 7) (ch := [(25, false)]) (t := 24) (e := 5) (b := b8) (off := 0) (l := 2) (cap := 2) (j := 0) (m := 0) rfl rfl (by kernel_rfl) (by kernel_rfl) (by kernel_rfl) (by kernel_rfl) (by kernel_rfl) (by kernel_rfl) rfl rfl (by rfl) ?_
  refine GL_call (i := 8) (ch := [(25, false)]) (f := 13) (fst := #[]) (caps := #[]) (vs := [pt d1, .string (ByteArray.mk #[97]), .slice (some ⟨b8, 0, none⟩) 2 2]) rfl rfl rfl (by kernel_rfl) (by kernel_rfl) Try.func13 rfl rfl (by kernel_rfl) (by kernel_rfl) (chSure_of (by kernel_rfl)) (dWrite hs4 fs3 d1 (ByteArray.mk #[97]) fxy (by decide) (by decide) [[(b8, .cells #[.int .u8 120, .int .u8 121] 5 (2, 2 + 1))], g5, [(b2, .cells #[.int .u8 120, .int .u8 121] 5 (2, 2 + 1))]] _ H ⟨some ⟨b8, 0, none⟩, 2, inG [(b8, .cells #[.int .u8 120, .int .u8 121] 5 (2, 2 + 1))], rfl, .inr (.inr ⟨b8, 0, rfl⟩), (Rd.lit (c := [.int .u8 120, .int .u8 121])), (at_inG 0 rfl)⟩ f_write2) ?_
  rintro v H' ⟨rfl, s6, hs6, rfl⟩
  refine GL_pure (E' := [⟨33, [(32, false)], pt d1⟩, ⟨32, [], .bool false⟩, ⟨1, [], pt d1⟩]) [0, 3, 0, 0] (by kernel_rfl) (j := 13) rfl ?_
  refine GL_call (i := 13) (ch := [(32, false)]) (f := 15) (fst := #[]) (caps := #[]) (vs := [pt d1, .string (ByteArray.mk #[])]) rfl rfl rfl (by kernel_rfl) (by kernel_rfl) Try.func15 rfl rfl (by kernel_rfl) (by kernel_rfl) (chSure_of (by kernel_rfl)) (dSyncDir hs6 fs4 d1 (ByteArray.mk #[]) (by decide) [[(b8, .cells #[.int .u8 120, .int .u8 121] 5 (2, 2 + 1))], g5, [(b2, .cells #[.int .u8 120, .int .u8 121] 5 (2, 2 + 1))]] _ H f_sdir) ?_
  rintro v H' ⟨rfl, s7, hs7, rfl⟩
  refine GL_fin (E' := [⟨1, [], pt d1⟩, ⟨36, [], .bool false⟩]) [0, 3] [1, 36] rfl (by kernel_rfl) ?_
  refine N_then ?_
  refine G_condf (by kernel_rfl) ?_
  refine G_skip ?_
  refine N_then ?_
  refine G_seq ?_
  refine G_region ?_
  refine GL_pure (E' := [⟨37, [], pt d1⟩, ⟨1, [], pt d1⟩]) [0] (by kernel_rfl) (j := 1) rfl ?_
  refine GL_buildSlice (i := 1) (ch := []) (e := 3) (l := [(0, .int .i64 1)]) (c := [.int .i64 1]) rfl rfl (by kernel_rfl) (by kernel_rfl) (by kernel_rfl) (by kernel_rfl) (by kernel_rfl) (fun b9 => ?_)
  refine GL_call (i := 2) (ch := []) (f := 18) (fst := #[]) (caps := #[]) (vs := [pt d1, .slice (some ⟨b9, 0, none⟩) 1 1]) rfl rfl rfl (by kernel_rfl) (by kernel_rfl) Try.func18 rfl rfl (by kernel_rfl) (by kernel_rfl) (chSure_of (by kernel_rfl)) (dCrash (M' := fm6) hs7 fs5 d1 ([1]) (some ⟨b9, 0, none⟩) 1 (inG [(b9, .cells #[.int .i64 1] 3 (0, 0))]) ⟨Rd.lit (c := [.int .i64 1]), by show 1 ≤ 1; omega, by show 1 ≤ 1000000000; omega, fun y h => by rw [List.mem_singleton.1 h]; decide⟩ [[(b9, .cells #[.int .i64 1] 3 (0, 0))], [(b8, .cells #[.int .u8 120, .int .u8 121] 5 (2, 2 + 1))], g5, [(b2, .cells #[.int .u8 120, .int .u8 121] 5 (2, 2 + 1))]] _ H (at_inG 0 rfl) f_crash2) ?_
  rintro v H' ⟨rfl, s8, hs8, rfl⟩
  refine GL_fin (E' := [⟨1, [], pt d1⟩]) [] [1] rfl (by kernel_rfl) ?_
  refine N_then ?_
  refine G_seq ?_
  refine G_region ?_
  refine GL_pure (E' := [⟨41, [], pt d1⟩, ⟨1, [], pt d1⟩]) [0] (by kernel_rfl) (j := 1) rfl ?_
  refine GL_call (i := 1) (ch := []) (f := 19) (fst := #[]) (caps := #[]) (vs := [pt d1, .string (ByteArray.mk #[97])]) rfl rfl rfl (by kernel_rfl) (by kernel_rfl) Try.func19 rfl rfl (by kernel_rfl) (by kernel_rfl) (chSure_of (by kernel_rfl)) (dRead hs8 (fun B hB => (fs6.size B hB).1) d1 (ByteArray.mk #[97]) [[(b9, .cells #[.int .i64 1] 3 (0, 0))], [(b8, .cells #[.int .u8 120, .int .u8 121] 5 (2, 2 + 1))], g5, [(b2, .cells #[.int .u8 120, .int .u8 121] 5 (2, 2 + 1))]] _ H f_read) ?_
  rintro v H' ⟨ra10, rc11, g12, rfl, hrc13, hrd14, rfl⟩
  refine GL_fin (E' := [⟨1, [], pt d1⟩, ⟨2, [], .slice ra10 fx.size rc11⟩, ⟨3, [], .int .i64 0⟩]) [0, 0, 0, 0, 0] [1, 2, 3] rfl (by kernel_rfl) ?_
  refine N_then ?_
  refine G_seq ?_
  refine G_region ?_
  refine GL_pure (E' := [⟨48, [(47, true)], .slice ra10 fx.size rc11⟩, ⟨47, [], .bool true⟩, ⟨1, [], pt d1⟩]) [0, 0, 0, 0] (by kernel_rfl) (j := 4) rfl ?_
  refine GL_bytesB (i := 4) (ch := [(47, true)]) (a := ra10) (cap := rc11) (e := 5) (S := (inG g12)) fx rfl rfl (by kernel_rfl) (by kernel_rfl) (by kernel_rfl) (by kernel_rfl) (by kernel_rfl) (by kernel_rfl) (by kernel_rfl) hrd14 (at_inG 0 rfl) ?_
  refine GL_pure (E' := [⟨50, [(47, true)], .bool (fx.toList == (ByteArray.mk #[120]).toList)⟩, ⟨47, [], .bool true⟩, ⟨1, [], pt d1⟩]) [0] (by kernel_rfl) (j := 6) rfl ?_
  refine GL_env (E' := [⟨50, [(47, true)], .bool true⟩, ⟨47, [], .bool true⟩, ⟨1, [], pt d1⟩]) (by rw [show (fx.toList == (ByteArray.mk #[120]).toList) = true from beq_self_eq_true _]) ?_
  refine GL_pure (E' := [⟨53, [(52, true)], pt d1⟩, ⟨52, [], .bool true⟩, ⟨1, [], pt d1⟩]) [2, 0, 0] (by kernel_rfl) (j := 9) rfl ?_
  refine GL_call (i := 9) (ch := [(52, true)]) (f := 26) (fst := #[]) (caps := #[]) (vs := [pt d1]) rfl rfl rfl (by kernel_rfl) (by kernel_rfl) Try.func26 rfl rfl (by kernel_rfl) (by kernel_rfl) (chSure_of (by kernel_rfl)) (dUsed hs8 fs6 d1 [g12, [(b9, .cells #[.int .i64 1] 3 (0, 0))], [(b8, .cells #[.int .u8 120, .int .u8 121] 5 (2, 2 + 1))], g5, [(b2, .cells #[.int .u8 120, .int .u8 121] 5 (2, 2 + 1))]] _ H f_used) ?_
  rintro v H' ⟨rfl, rfl⟩
  refine GL_pure (E' := [⟨58, [(57, true)], pt d1⟩, ⟨57, [], .bool true⟩, ⟨1, [], pt d1⟩]) [0, 2, 0, 0] (by kernel_rfl) (j := 14) rfl ?_
  refine GL_call (i := 14) (ch := [(57, true)]) (f := 13) (fst := #[]) (caps := #[]) (vs := [pt d1, .string (ByteArray.mk #[98, 47, 46, 46]), .slice none 0 0]) rfl rfl rfl (by kernel_rfl) (by kernel_rfl) Try.func13 rfl rfl (by kernel_rfl) (by kernel_rfl) (chSure_of (by kernel_rfl)) (dWrite hs8 fs6 d1 (ByteArray.mk #[98, 47, 46, 46]) p0 (by decide) (by decide) [g12, [(b9, .cells #[.int .i64 1] 3 (0, 0))], [(b8, .cells #[.int .u8 120, .int .u8 121] 5 (2, 2 + 1))], g5, [(b2, .cells #[.int .u8 120, .int .u8 121] 5 (2, 2 + 1))]] _ H ⟨none, 0, (fun _ _ => False), rfl, .inl ⟨rfl, rfl, rfl⟩, .inl rfl, fun _ _ h => h.elim⟩ f_bad) ?_
  rintro v H' ⟨rfl, s11, hs11, rfl⟩
  refine GL_pure (E' := [⟨63, [(62, true)], pt d1⟩, ⟨62, [], .bool true⟩]) [0, 2, 0, 0] (by kernel_rfl) (j := 19) rfl ?_
  refine GL_makeS (i := 19) (ch := [(62, true)]) (t := 24) (e := 5) (inf := Try.t5) (l := 100) (c := [.int .u8 0, .int .u8 0, .int .u8 0, .int .u8 0, .int .u8 0, .int .u8 0, .int .u8 0, .int .u8 0, .int .u8 0, .int .u8 0, .int .u8 0, .int .u8 0, .int .u8 0, .int .u8 0, .int .u8 0, .int .u8 0, .int .u8 0, .int .u8 0, .int .u8 0, .int .u8 0, .int .u8 0, .int .u8 0, .int .u8 0, .int .u8 0, .int .u8 0, .int .u8 0, .int .u8 0, .int .u8 0, .int .u8 0, .int .u8 0, .int .u8 0, .int .u8 0, .int .u8 0, .int .u8 0, .int .u8 0, .int .u8 0, .int .u8 0, .int .u8 0, .int .u8 0, .int .u8 0, .int .u8 0, .int .u8 0, .int .u8 0, .int .u8 0, .int .u8 0, .int .u8 0, .int .u8 0, .int .u8 0, .int .u8 0, .int .u8 0, .int .u8 0, .int .u8 0, .int .u8 0, .int .u8 0, .int .u8 0, .int .u8 0, .int .u8 0, .int .u8 0, .int .u8 0, .int .u8 0, .int .u8 0, .int .u8 0, .int .u8 0, .int .u8 0, .int .u8 0, .int .u8 0, .int .u8 0, .int .u8 0, .int .u8 0, .int .u8 0, .int .u8 0, .int .u8 0, .int .u8 0, .int .u8 0, .int .u8 0, .int .u8 0, .int .u8 0, .int .u8 0, .int .u8 0, .int .u8 0, .int .u8 0, .int .u8 0, .int .u8 0, .int .u8 0, .int .u8 0, .int .u8 0, .int .u8 0, .int .u8 0, .int .u8 0, .int .u8 0, .int .u8 0, .int .u8 0, .int .u8 0, .int .u8 0, .int .u8 0, .int .u8 0, .int .u8 0, .int .u8 0, .int .u8 0, .int .u8 0]) rfl rfl (by kernel_rfl) (by kernel_rfl) (by kernel_rfl) rfl rfl (by decide) (by decide) (by decide) (by kernel_rfl) (by kernel_rfl) (by kernel_rfl) (by kernel_rfl) (fun b15 => ?_)
  refine GL_call (i := 20) (ch := [(62, true)]) (f := 13) (fst := #[]) (caps := #[]) (vs := [pt d1, .string (ByteArray.mk #[98]), .slice (some ⟨b15, 0, none⟩) 100 100]) rfl rfl rfl (by kernel_rfl) (by kernel_rfl) Try.func13 rfl rfl (by kernel_rfl) (by kernel_rfl) (chSure_of (by kernel_rfl)) (dWrite hs11 fs6 d1 (ByteArray.mk #[98]) f100 (by decide) (by decide) [[(b15, .cells #[.int .u8 0, .int .u8 0, .int .u8 0, .int .u8 0, .int .u8 0, .int .u8 0, .int .u8 0, .int .u8 0, .int .u8 0, .int .u8 0, .int .u8 0, .int .u8 0, .int .u8 0, .int .u8 0, .int .u8 0, .int .u8 0, .int .u8 0, .int .u8 0, .int .u8 0, .int .u8 0, .int .u8 0, .int .u8 0, .int .u8 0, .int .u8 0, .int .u8 0, .int .u8 0, .int .u8 0, .int .u8 0, .int .u8 0, .int .u8 0, .int .u8 0, .int .u8 0, .int .u8 0, .int .u8 0, .int .u8 0, .int .u8 0, .int .u8 0, .int .u8 0, .int .u8 0, .int .u8 0, .int .u8 0, .int .u8 0, .int .u8 0, .int .u8 0, .int .u8 0, .int .u8 0, .int .u8 0, .int .u8 0, .int .u8 0, .int .u8 0, .int .u8 0, .int .u8 0, .int .u8 0, .int .u8 0, .int .u8 0, .int .u8 0, .int .u8 0, .int .u8 0, .int .u8 0, .int .u8 0, .int .u8 0, .int .u8 0, .int .u8 0, .int .u8 0, .int .u8 0, .int .u8 0, .int .u8 0, .int .u8 0, .int .u8 0, .int .u8 0, .int .u8 0, .int .u8 0, .int .u8 0, .int .u8 0, .int .u8 0, .int .u8 0, .int .u8 0, .int .u8 0, .int .u8 0, .int .u8 0, .int .u8 0, .int .u8 0, .int .u8 0, .int .u8 0, .int .u8 0, .int .u8 0, .int .u8 0, .int .u8 0, .int .u8 0, .int .u8 0, .int .u8 0, .int .u8 0, .int .u8 0, .int .u8 0, .int .u8 0, .int .u8 0, .int .u8 0, .int .u8 0, .int .u8 0, .int .u8 0] 5 (0, 0))], g12, [(b9, .cells #[.int .i64 1] 3 (0, 0))], [(b8, .cells #[.int .u8 120, .int .u8 121] 5 (2, 2 + 1))], g5, [(b2, .cells #[.int .u8 120, .int .u8 121] 5 (2, 2 + 1))]] _ H ⟨some ⟨b15, 0, none⟩, 100, inG [(b15, .cells #[.int .u8 0, .int .u8 0, .int .u8 0, .int .u8 0, .int .u8 0, .int .u8 0, .int .u8 0, .int .u8 0, .int .u8 0, .int .u8 0, .int .u8 0, .int .u8 0, .int .u8 0, .int .u8 0, .int .u8 0, .int .u8 0, .int .u8 0, .int .u8 0, .int .u8 0, .int .u8 0, .int .u8 0, .int .u8 0, .int .u8 0, .int .u8 0, .int .u8 0, .int .u8 0, .int .u8 0, .int .u8 0, .int .u8 0, .int .u8 0, .int .u8 0, .int .u8 0, .int .u8 0, .int .u8 0, .int .u8 0, .int .u8 0, .int .u8 0, .int .u8 0, .int .u8 0, .int .u8 0, .int .u8 0, .int .u8 0, .int .u8 0, .int .u8 0, .int .u8 0, .int .u8 0, .int .u8 0, .int .u8 0, .int .u8 0, .int .u8 0, .int .u8 0, .int .u8 0, .int .u8 0, .int .u8 0, .int .u8 0, .int .u8 0, .int .u8 0, .int .u8 0, .int .u8 0, .int .u8 0, .int .u8 0, .int .u8 0, .int .u8 0, .int .u8 0, .int .u8 0, .int .u8 0, .int .u8 0, .int .u8 0, .int .u8 0, .int .u8 0, .int .u8 0, .int .u8 0, .int .u8 0, .int .u8 0, .int .u8 0, .int .u8 0, .int .u8 0, .int .u8 0, .int .u8 0, .int .u8 0, .int .u8 0, .int .u8 0, .int .u8 0, .int .u8 0, .int .u8 0, .int .u8 0, .int .u8 0, .int .u8 0, .int .u8 0, .int .u8 0, .int .u8 0, .int .u8 0, .int .u8 0, .int .u8 0, .int .u8 0, .int .u8 0, .int .u8 0, .int .u8 0, .int .u8 0, .int .u8 0] 5 (0, 0))], rfl, .inr (.inr ⟨b15, 0, rfl⟩), (by rw [u8s_f100]; exact Rd.lit (c := List.replicate 100 (.int .u8 0))), (at_inG 0 rfl)⟩ f_full) ?_
  rintro v H' ⟨rfl, s12, hs12, rfl⟩
  refine GL_fin (E' := [⟨0, [], .bool true⟩]) [0, 2, 0] [0] rfl (by kernel_rfl) ?_
  refine N_then ?_
  refine G_ret ?_
  refine N_ret [.tmp 0] [.bool true] rfl (by kernel_rfl) rfl ?_
  exact ⟨rfl, [[(b15, .cells #[.int .u8 0, .int .u8 0, .int .u8 0, .int .u8 0, .int .u8 0, .int .u8 0, .int .u8 0, .int .u8 0, .int .u8 0, .int .u8 0, .int .u8 0, .int .u8 0, .int .u8 0, .int .u8 0, .int .u8 0, .int .u8 0, .int .u8 0, .int .u8 0, .int .u8 0, .int .u8 0, .int .u8 0, .int .u8 0, .int .u8 0, .int .u8 0, .int .u8 0, .int .u8 0, .int .u8 0, .int .u8 0, .int .u8 0, .int .u8 0, .int .u8 0, .int .u8 0, .int .u8 0, .int .u8 0, .int .u8 0, .int .u8 0, .int .u8 0, .int .u8 0, .int .u8 0, .int .u8 0, .int .u8 0, .int .u8 0, .int .u8 0, .int .u8 0, .int .u8 0, .int .u8 0, .int .u8 0, .int .u8 0, .int .u8 0, .int .u8 0, .int .u8 0, .int .u8 0, .int .u8 0, .int .u8 0, .int .u8 0, .int .u8 0, .int .u8 0, .int .u8 0, .int .u8 0, .int .u8 0, .int .u8 0, .int .u8 0, .int .u8 0, .int .u8 0, .int .u8 0, .int .u8 0, .int .u8 0, .int .u8 0, .int .u8 0, .int .u8 0, .int .u8 0, .int .u8 0, .int .u8 0, .int .u8 0, .int .u8 0, .int .u8 0, .int .u8 0, .int .u8 0, .int .u8 0, .int .u8 0, .int .u8 0, .int .u8 0, .int .u8 0, .int .u8 0, .int .u8 0, .int .u8 0, .int .u8 0, .int .u8 0, .int .u8 0, .int .u8 0, .int .u8 0, .int .u8 0, .int .u8 0, .int .u8 0, .int .u8 0, .int .u8 0, .int .u8 0, .int .u8 0, .int .u8 0, .int .u8 0] 5 (0, 0))], g12, [(b9, .cells #[.int .i64 1] 3 (0, 0))], [(b8, .cells #[.int .u8 120, .int .u8 121] 5 (2, 2 + 1))], g5, [(b2, .cells #[.int .u8 120, .int .u8 121] 5 (2, 2 + 1))]] ++ s12.G d1 fm6, by simp⟩
end Go.Proofs.Ytbmieiffboenbaa
namespace Go.Proofs.Ytbmieiffboenbaa
open Go.Sw Go.Lib Go.Vf Go.RowKit
theorem vSame (a1 a2 : Option Addr) (c1 c2 : Nat) (S1 S2 : Nat → Obj → Prop) (L : List ByteArray) (hl : L.length ≤ 9000000000) (h1 : Rd S1 a1 (strs L)) (h2 : Rd S2 a2 (strs L)) (W0 : World) (H : List Grp) (hs1 : ∀ y o, S1 y o → At W0 H y o) (hs2 : ∀ y o, S2 y o → At W0 H y o) : Tri Try.prog 29 #[.slice a1 L.length c1, .slice a2 L.length c2] W0 H (fun v H' => v = .bool true ∧ H' = H) := by
  refine Tri_of (args := [.slice a1 L.length c1, .slice a2 L.length c2]) (n := 26) Try.func29 rfl rfl (Nat.le_of_ble_eq_true rfl) ?_
  refine G_seq ?_
  refine G_pure (E' := [⟨0, [], .slice a1 L.length c1⟩, ⟨1, [], .slice a2 L.length c2⟩]) [0] [0, 1] rfl (by kernel_rfl) ?_
  refine N_then ?_
  refine G_seq ?_
  refine G_seq ?_
  refine G_pure (E' := [⟨0, [], .slice a1 L.length c1⟩, ⟨1, [], .slice a2 L.length c2⟩, ⟨10, [], .bool (((L.length : Nat) : Int) != ((L.length : Nat) : Int))⟩]) [0, 0, 0, 0, 0] [0, 1, 10] rfl (by kernel_rfl) ?_
  refine N_then ?_
  refine G_cond (b := ((L.length : Nat) : Int) != ((L.length : Nat) : Int)) (by kernel_rfl) (fun hc1 => ?_) (fun hc1 => ?_)
  ·
    exact absurd hc1 (by simp)
  ·
    skip
    refine G_skip ?_
    refine N_then ?_
    refine G_seq ?_
    refine G_seq ?_
    refine G_pure (E' := [⟨0, [], .slice a1 L.length c1⟩, ⟨1, [], .slice a2 L.length c2⟩, ⟨12, [], .int .i64 ((L.length : Nat) : Int)⟩, ⟨13, [], .int .i64 0⟩]) [0, 0, 0] [0, 1, 12, 13] rfl (by kernel_rfl) ?_
    refine N_then ?_
    refine G_block ?_
    refine G_loop (EI := (fun ξ : Nat => [⟨0, [], .slice a1 L.length c1⟩, ⟨1, [], .slice a2 L.length c2⟩, ⟨12, [], .int .i64 ((L.length : Nat) : Int)⟩, ⟨13, [], .int .i64 ((ξ : Nat) : Int)⟩])) (HI := (fun ξ : Nat => H)) (Φ := (fun ξ : Nat => (ξ ≤ L.length))) (μ := (fun ξ : Nat => L.length - ξ)) (s0 := (0)) [0, 1, 12, 13] (by kernel_rfl) rfl (by omega) ?_
    rintro k hk
    replace hk : k ≤ L.length := hk
    refine G_seq ?_
    refine G_pure (E' := [⟨0, [], .slice a1 L.length c1⟩, ⟨1, [], .slice a2 L.length c2⟩, ⟨12, [], .int .i64 ((L.length : Nat) : Int)⟩, ⟨13, [], .int .i64 ((k : Nat) : Int)⟩, ⟨14, [], .bool (decide (((k : Nat) : Int) < ((L.length : Nat) : Int)))⟩]) [0] [0, 1, 12, 13, 14] rfl (by kernel_rfl) ?_
    refine N_then ?_
    refine G_seq ?_
    refine G_cond (b := decide (((k : Nat) : Int) < ((L.length : Nat) : Int))) (by kernel_rfl) (fun hc2 => ?_) (fun hc2 => ?_)
    ·
      replace hc2 := of_decide_eq_true hc2
      refine G_skip ?_
      refine N_then ?_
      refine G_seq ?_
      refine G_block ?_
      refine G_seq ?_
      refine G_pure (E' := [⟨0, [], .slice a1 L.length c1⟩, ⟨1, [], .slice a2 L.length c2⟩, ⟨5, [], .int .i64 ((k : Nat) : Int)⟩, ⟨12, [], .int .i64 ((L.length : Nat) : Int)⟩, ⟨13, [], .int .i64 ((k : Nat) : Int)⟩]) [0, 0] [0, 1, 5, 12, 13] rfl (by kernel_rfl) ?_
      refine N_then ?_
      refine G_seq ?_
      refine G_regionD (by kernel_rfl) (by kernel_rfl) ?_
      refine GL_pure (E' := [⟨17, [], .int .i64 ((k : Nat) : Int)⟩, ⟨16, [], .slice a1 L.length c1⟩, ⟨0, [], .slice a1 L.length c1⟩, ⟨1, [], .slice a2 L.length c2⟩, ⟨5, [], .int .i64 ((k : Nat) : Int)⟩, ⟨12, [], .int .i64 ((L.length : Nat) : Int)⟩, ⟨13, [], .int .i64 ((k : Nat) : Int)⟩]) [0, 0] (by kernel_rfl) (j := 2) rfl ?_
      refine GL_indexAddr (i := 2) (ch := []) (a := a1) (len := L.length) (cap := c1) (kd := .i64) (j := ((k : Nat) : Int)) (e := 9) (sz := 1) (S := S1) (cs := (strs L)) rfl rfl (by kernel_rfl) (by kernel_rfl) (by kernel_rfl) (by kernel_rfl) (by kernel_rfl) (by kernel_rfl) (by kernel_rfl) h1 (fun _ => by exact ⟨by omega, by omega, strs_ne0 (i := k) (by omega)⟩) ?_
      refine GL_loadS (i := 3) (ch := []) (a := a1) (q := k * 1) (S := S1) (cs := (strs L)) (v := .string (L.getD k default)) rfl rfl (by kernel_rfl) (by kernel_rfl) (by kernel_rfl) (by kernel_rfl) (by kernel_rfl) h1 hs1 (fun _ => (by rw [Nat.mul_one]; exact strs_at (by omega))) ?_
      refine GL_pure (E' := [⟨21, [], .int .i64 ((k : Nat) : Int)⟩, ⟨20, [], .slice a2 L.length c2⟩, ⟨19, [], .string (L.getD k default)⟩, ⟨0, [], .slice a1 L.length c1⟩, ⟨1, [], .slice a2 L.length c2⟩, ⟨12, [], .int .i64 ((L.length : Nat) : Int)⟩, ⟨13, [], .int .i64 ((k : Nat) : Int)⟩]) [0, 0] (by kernel_rfl) (j := 6) rfl ?_
      refine GL_indexAddr (i := 6) (ch := []) (a := a2) (len := L.length) (cap := c2) (kd := .i64) (j := ((k : Nat) : Int)) (e := 9) (sz := 1) (S := S2) (cs := (strs L)) rfl rfl (by kernel_rfl) (by kernel_rfl) (by kernel_rfl) (by kernel_rfl) (by kernel_rfl) (by kernel_rfl) (by kernel_rfl) h2 (fun _ => by exact ⟨by omega, by omega, strs_ne0 (i := k) (by omega)⟩) ?_
      refine GL_loadS (i := 7) (ch := []) (a := a2) (q := k * 1) (S := S2) (cs := (strs L)) (v := .string (L.getD k default)) rfl rfl (by kernel_rfl) (by kernel_rfl) (by kernel_rfl) (by kernel_rfl) (by kernel_rfl) h2 hs2 (fun _ => (by rw [Nat.mul_one]; exact strs_at (by omega))) ?_
      refine GL_fin (E' := [⟨0, [], .slice a1 L.length c1⟩, ⟨1, [], .slice a2 L.length c2⟩, ⟨12, [], .int .i64 ((L.length : Nat) : Int)⟩, ⟨13, [], .int .i64 ((k : Nat) : Int)⟩, ⟨24, [], .bool (!((L.getD k default).toList == (L.getD k default).toList))⟩]) [0] [0, 1, 12, 13, 24] rfl (by kernel_rfl) ?_
      refine N_then ?_
      refine G_cond (b := !((L.getD k default).toList == (L.getD k default).toList)) (by kernel_rfl) (fun hc3 => ?_) (fun hc3 => ?_)
      ·
        exact absurd hc3 (by simp)
      ·
        skip
        refine G_skip ?_
        refine N_block ?_
        refine N_then ?_
        have hw4 : IntKind.wrap .i64 (((k : Nat) : Int) + 1) = ((k : Nat) : Int) + 1 := w64 (by omega) (by omega)
        refine G_pure (E' := [⟨0, [], .slice a1 L.length c1⟩, ⟨1, [], .slice a2 L.length c2⟩, ⟨12, [], .int .i64 ((L.length : Nat) : Int)⟩, ⟨13, [], .int .i64 (((k : Nat) : Int) + 1)⟩]) [0, 0] [0, 1, 12, 13] rfl (Eq.trans (b := some [⟨0, [], .slice a1 L.length c1⟩, ⟨1, [], .slice a2 L.length c2⟩, ⟨12, [], .int .i64 ((L.length : Nat) : Int)⟩, ⟨13, [], .int .i64 (IntKind.wrap .i64 (((k : Nat) : Int) + 1))⟩]) (by kernel_rfl) (by simp only [hw4])) ?_
        refine N_round (s' := (k + 1)) [0, 1, 12, 13] (by kernel_rfl) rfl (by omega) (by omega)
    ·
      replace hc2 := of_decide_eq_false hc2
      refine G_exit ?_
      refine N_then_exit ?_
      refine N_then_exit ?_
      refine N_block_exit ?_
      refine N_then ?_
      refine G_seq ?_
      refine G_pure (E' := [⟨4, [], .bool true⟩]) [0] [4] rfl (by kernel_rfl) ?_
      refine N_then ?_
      refine G_ret ?_
      refine N_ret [.tmp 4] [.bool true] rfl (by kernel_rfl) rfl ?_
      exact ⟨rfl, rfl⟩
theorem vDo (d x : Nat) (s0 : DS) (r0 : RS) (M N : DM) (hs0 : s0.ok M) (hr0 : r0.ok N) (hM : Small M) (hN : SmallR N) (S : Nat → Obj → Prop) (o : OpV) (hb : o.b.size ≤ 1000000000) (hk : o.k.length ≤ 1000000000) (W0 : World) (H : List Grp) (hO : OpOk S W0 [] o) : Tri Try.prog 24 #[pt d, pt x, .agg #[.int .i64 o.kind, .string o.path, .string o.to, .slice o.ba o.b.size o.bc, .int .i64 o.n, .slice o.ka o.k.length o.kc]] W0 (s0.G d M ++ (r0.G x N ++ H)) (fun v H' => v = .bool ((doM M o).1 == (doM N o).1) ∧ ∃ (s1 : DS) (r1 : RS), s1.ok (doM M o).2 ∧ r1.ok (doM N o).2 ∧ H' = s1.G d (doM M o).2 ++ (r1.G x (doM N o).2 ++ H)) := by
  refine Tri_of (args := [pt d, pt x, .agg #[.int .i64 o.kind, .string o.path, .string o.to, .slice o.ba o.b.size o.bc, .int .i64 o.n, .slice o.ka o.k.length o.kc]]) (n := 132) Try.func24 rfl rfl (Nat.le_of_ble_eq_true rfl) ?_
  refine G_seq ?_
  refine G_region ?_
  refine GL_box (i := 0) (ch := []) (v := .agg #[.int .i64 o.kind, .string o.path, .string o.to, .slice o.ba o.b.size o.bc, .int .i64 o.n, .slice o.ka o.k.length o.kc]) rfl rfl (by kernel_rfl) (by kernel_rfl) (by kernel_rfl) (by kernel_rfl) (fun b1 => ?_)
  refine GL_fin (E' := [⟨0, [], pt d⟩, ⟨1, [], pt x⟩, ⟨5, [], pt b1⟩]) [0] [0, 1, 5] rfl (by kernel_rfl) ?_
  refine N_then ?_
  refine G_seq ?_
  refine G_region ?_
  refine GL_buildSlice (i := 0) (ch := []) (e := 5) (l := []) (c := []) rfl rfl (by kernel_rfl) (by kernel_rfl) (by kernel_rfl) (by kernel_rfl) (by kernel_rfl) (fun b2 => ?_)
  refine GL_pure (E' := [⟨12, [], .pointer (some ⟨b1, 3, none⟩)⟩, ⟨11, [], .slice (some ⟨b2, 0, none⟩) 0 0⟩, ⟨0, [], pt d⟩, ⟨1, [], pt x⟩, ⟨5, [], pt b1⟩]) [0] (by kernel_rfl) (j := 2) rfl ?_
  refine GL_load (i := 2) (ch := []) (b := b1) (off := 3) (v := .slice o.ba o.b.size o.bc) rfl rfl (by kernel_rfl) (by kernel_rfl) (by kernel_rfl) (by kernel_rfl) (by kernel_rfl) (At.grp 1 0 rfl rfl) rfl ?_
  refine GL_append (i := 3) (ch := []) (t := 24) (tx := 24) (e := 5) (inf := Try.t5) (s := .slice (some ⟨b2, 0, none⟩) 0 0) (x := .slice o.ba o.b.size o.bc) (n := 0) (m := o.b.size) (j := 0) (cs := []) (news := (u8s o.b.data.toList)) (g := [(b2, .cells #[] 5 (0, 0))]) (S := S) rfl rfl rfl rfl (by kernel_rfl) (by kernel_rfl) (by kernel_rfl) rfl rfl (.inl ⟨5, (by kernel_rfl)⟩) (fun ⟨_, h⟩ => by cases h) (fun _ => ⟨5, (by kernel_rfl)⟩) (by kernel_rfl) (by kernel_rfl) (by kernel_rfl) rfl (Own.lit rfl) (SrcOf.slice _ _ _ _ hO.b.rd (fun h => ba_none hO h)) (fun y o h => at_up (hO.b.at_ y o h)) (by show (u8s _).length = _ * 1; rw [u8s_len, Nat.mul_one]; exact Array.length_toList) (u8s_one) (by omega) (by show (0 + o.b.size) * 1 ≤ 140737488355328; omega) (fun v3 g4 hO5 => ?_)
  replace hO5 := own_nil0 hO5
  obtain ⟨a6, cap7, rfl, hcap8, hrd9⟩ := hO5.shape
  refine GL_fin (E' := [⟨0, [], pt d⟩, ⟨1, [], pt x⟩, ⟨5, [], pt b1⟩, ⟨7, [], .slice a6 o.b.size cap7⟩]) [0] [0, 1, 5, 7] rfl (by kernel_rfl) ?_
  refine N_then ?_
  refine G_seq ?_
  refine G_pure (E' := [⟨0, [], pt d⟩, ⟨1, [], pt x⟩, ⟨5, [], pt b1⟩, ⟨7, [], .slice a6 o.b.size cap7⟩, ⟨8, [], .int .i64 0⟩, ⟨9, [], .int .i64 0⟩]) [0, 0] [0, 1, 5, 7, 8, 9] rfl (by kernel_rfl) ?_
  refine N_then ?_
  refine G_seq ?_
  refine G_seq ?_
  refine G_region ?_
  refine GL_pure (E' := [⟨15, [], pt b1⟩, ⟨0, [], pt d⟩, ⟨1, [], pt x⟩, ⟨5, [], pt b1⟩, ⟨7, [], .slice a6 o.b.size cap7⟩, ⟨8, [], .int .i64 0⟩, ⟨9, [], .int .i64 0⟩]) [0] (by kernel_rfl) (j := 1) rfl ?_
  refine GL_load (i := 1) (ch := []) (b := b1) (off := 0) (v := .int .i64 o.kind) rfl rfl (by kernel_rfl) (by kernel_rfl) (by kernel_rfl) (by kernel_rfl) (by kernel_rfl) (At.grp 1 0 rfl rfl) rfl ?_
  refine GL_fin (E' := [⟨0, [], pt d⟩, ⟨1, [], pt x⟩, ⟨5, [], pt b1⟩, ⟨7, [], .slice a6 o.b.size cap7⟩, ⟨8, [], .int .i64 0⟩, ⟨9, [], .int .i64 0⟩, ⟨18, [], .int .u64 (Int.tmod (IntKind.wrap .u64 o.kind) 8)⟩]) [0, 0] [0, 1, 5, 7, 8, 9, 18] rfl (by kernel_rfl) ?_
  refine N_then ?_
  refine G_block ?_
  refine G_seq ?_
  refine G_pure (E' := [⟨0, [], pt d⟩, ⟨1, [], pt x⟩, ⟨5, [], pt b1⟩, ⟨7, [], .slice a6 o.b.size cap7⟩, ⟨8, [], .int .i64 0⟩, ⟨9, [], .int .i64 0⟩, ⟨18, [], .int .u64 (Int.tmod (IntKind.wrap .u64 o.kind) 8)⟩, ⟨27, [], .bool ((Int.tmod (IntKind.wrap .u64 o.kind) 8) == 0)⟩]) [0, 0] [0, 1, 5, 7, 8, 9, 18, 27] rfl (by kernel_rfl) ?_
  refine N_then ?_
  refine G_join (T := DS × RS × DM × DM × Int × Int) (fun ξ : DS × RS × DM × DM × Int × Int => [⟨7, [], .slice a6 o.b.size cap7⟩, ⟨8, [], .int .i64 ξ.2.2.2.2.1⟩, ⟨9, [], .int .i64 ξ.2.2.2.2.2⟩]) (fun ξ : DS × RS × DM × DM × Int × Int => (g4 :: [(b1, .cells #[.int .i64 o.kind, .string o.path, .string o.to, .slice o.ba o.b.size o.bc, .int .i64 o.n, .slice o.ka o.k.length o.kc] 41 (0, 0))] :: (ξ.1.G d ξ.2.2.1 ++ (ξ.2.1.G x ξ.2.2.2.1 ++ H)))) (fun ξ : DS × RS × DM × DM × Int × Int => (ξ.1.ok ξ.2.2.1) ∧ (ξ.2.1.ok ξ.2.2.2.1) ∧ (doM M o = (ξ.2.2.2.2.1, ξ.2.2.1)) ∧ (doM N o = (ξ.2.2.2.2.2, ξ.2.2.2.1))) ?_ ?_
  ·
    refine G_cond (b := (Int.tmod (IntKind.wrap .u64 o.kind) 8) == 0) (by kernel_rfl) (fun hc10 => ?_) (fun hc10 => ?_)
    ·
      have hk0 : kindU o = 0 := by simpa [kindU] using hc10
      -- L k0
      refine G_regionH (g4 :: [(b1, .cells #[.int .i64 o.kind, .string o.path, .string o.to, .slice o.ba o.b.size o.bc, .int .i64 o.n, .slice o.ka o.k.length o.kc] 41 (0, 0))] :: H) (by kernel_rfl) ?_
      refine GH_pure (E' := [⟨29, [], pt d⟩, ⟨1, [], pt x⟩, ⟨5, [], pt b1⟩, ⟨7, [], .slice a6 o.b.size cap7⟩, ⟨8, [], .int .i64 0⟩, ⟨9, [], .int .i64 0⟩]) 0 0 (by kernel_rfl) (fun w h => (Sat.dropMid (K := [_, _]) (A := r0.G x N) (L := H) (Sat.dropMid (K := [_, _]) (A := s0.G d M) (L := (r0.G x N ++ H)) ((h.front (j := 1) rfl).front (j := 1) rfl)))) (by kernel_rfl) ?_
      refine GH_pure (E' := [⟨30, [], .pointer (some ⟨b1, 1, none⟩)⟩, ⟨29, [], pt d⟩, ⟨1, [], pt x⟩, ⟨5, [], pt b1⟩, ⟨7, [], .slice a6 o.b.size cap7⟩, ⟨8, [], .int .i64 0⟩, ⟨9, [], .int .i64 0⟩]) 1 0 (by kernel_rfl) (fun w h => (Sat.dropMid (K := [_, _]) (A := r0.G x N) (L := H) (Sat.dropMid (K := [_, _]) (A := s0.G d M) (L := (r0.G x N ++ H)) ((h.front (j := 1) rfl).front (j := 1) rfl)))) (by kernel_rfl) ?_
      refine GH_take' (E' := [⟨31, [], .string o.path⟩, ⟨30, [], .pointer (some ⟨b1, 1, none⟩)⟩, ⟨29, [], pt d⟩, ⟨1, [], pt x⟩, ⟨5, [], pt b1⟩, ⟨7, [], .slice a6 o.b.size cap7⟩, ⟨8, [], .int .i64 0⟩, ⟨9, [], .int .i64 0⟩]) 2 (by kernel_rfl) (fun w h => (Sat.dropMid (K := [_, _]) (A := r0.G x N) (L := H) (Sat.dropMid (K := [_, _]) (A := s0.G d M) (L := (r0.G x N ++ H)) ((h.front (j := 1) rfl).front (j := 1) rfl)))) ?_ ?_
      ·
        refine GL_load (i := 2) (ch := []) (b := b1) (off := 1) (v := .string o.path) rfl rfl (by kernel_rfl) (by kernel_rfl) (by kernel_rfl) (by kernel_rfl) (by kernel_rfl) (At.grp 1 0 rfl rfl) rfl ?_
        exact GL_yend (by kernel_rfl) (by kernel_rfl)
      refine GH_pure (E' := [⟨32, [], .slice a6 o.b.size cap7⟩, ⟨31, [], .string o.path⟩, ⟨29, [], pt d⟩, ⟨1, [], pt x⟩, ⟨5, [], pt b1⟩, ⟨7, [], .slice a6 o.b.size cap7⟩, ⟨8, [], .int .i64 0⟩, ⟨9, [], .int .i64 0⟩]) 3 0 (by kernel_rfl) (fun w h => (Sat.dropMid (K := [_, _]) (A := r0.G x N) (L := H) (Sat.dropMid (K := [_, _]) (A := s0.G d M) (L := (r0.G x N ++ H)) ((h.front (j := 1) rfl).front (j := 1) rfl)))) (by kernel_rfl) ?_
      refine GH_pure (E' := [⟨34, [], pt x⟩, ⟨32, [], .slice a6 o.b.size cap7⟩, ⟨31, [], .string o.path⟩, ⟨29, [], pt d⟩, ⟨5, [], pt b1⟩, ⟨7, [], .slice a6 o.b.size cap7⟩, ⟨8, [], .int .i64 0⟩, ⟨9, [], .int .i64 0⟩]) 5 0 (by kernel_rfl) (fun w h => (Sat.dropMid (K := [_, _]) (A := r0.G x N) (L := H) (Sat.dropMid (K := [_, _]) (A := s0.G d M) (L := (r0.G x N ++ H)) ((h.front (j := 1) rfl).front (j := 1) rfl)))) (by kernel_rfl) ?_
      refine GH_pure (E' := [⟨35, [], .pointer (some ⟨b1, 1, none⟩)⟩, ⟨34, [], pt x⟩, ⟨32, [], .slice a6 o.b.size cap7⟩, ⟨31, [], .string o.path⟩, ⟨29, [], pt d⟩, ⟨5, [], pt b1⟩, ⟨7, [], .slice a6 o.b.size cap7⟩, ⟨8, [], .int .i64 0⟩, ⟨9, [], .int .i64 0⟩]) 6 0 (by kernel_rfl) (fun w h => (Sat.dropMid (K := [_, _]) (A := r0.G x N) (L := H) (Sat.dropMid (K := [_, _]) (A := s0.G d M) (L := (r0.G x N ++ H)) ((h.front (j := 1) rfl).front (j := 1) rfl)))) (by kernel_rfl) ?_
      refine GH_take' (E' := [⟨36, [], .string o.path⟩, ⟨35, [], .pointer (some ⟨b1, 1, none⟩)⟩, ⟨34, [], pt x⟩, ⟨32, [], .slice a6 o.b.size cap7⟩, ⟨31, [], .string o.path⟩, ⟨29, [], pt d⟩, ⟨5, [], pt b1⟩, ⟨7, [], .slice a6 o.b.size cap7⟩, ⟨8, [], .int .i64 0⟩, ⟨9, [], .int .i64 0⟩]) 7 (by kernel_rfl) (fun w h => (Sat.dropMid (K := [_, _]) (A := r0.G x N) (L := H) (Sat.dropMid (K := [_, _]) (A := s0.G d M) (L := (r0.G x N ++ H)) ((h.front (j := 1) rfl).front (j := 1) rfl)))) ?_ ?_
      ·
        refine GL_load (i := 7) (ch := []) (b := b1) (off := 1) (v := .string o.path) rfl rfl (by kernel_rfl) (by kernel_rfl) (by kernel_rfl) (by kernel_rfl) (by kernel_rfl) (At.grp 1 0 rfl rfl) rfl ?_
        exact GL_yend (by kernel_rfl) (by kernel_rfl)
      refine GH_pure (E' := [⟨37, [], .pointer (some ⟨b1, 3, none⟩)⟩, ⟨36, [], .string o.path⟩, ⟨34, [], pt x⟩, ⟨32, [], .slice a6 o.b.size cap7⟩, ⟨31, [], .string o.path⟩, ⟨29, [], pt d⟩, ⟨7, [], .slice a6 o.b.size cap7⟩, ⟨8, [], .int .i64 0⟩, ⟨9, [], .int .i64 0⟩]) 8 0 (by kernel_rfl) (fun w h => (Sat.dropMid (K := [_, _]) (A := r0.G x N) (L := H) (Sat.dropMid (K := [_, _]) (A := s0.G d M) (L := (r0.G x N ++ H)) ((h.front (j := 1) rfl).front (j := 1) rfl)))) (by kernel_rfl) ?_
      refine GH_take' (E' := [⟨38, [], .slice o.ba o.b.size o.bc⟩, ⟨37, [], .pointer (some ⟨b1, 3, none⟩)⟩, ⟨36, [], .string o.path⟩, ⟨34, [], pt x⟩, ⟨32, [], .slice a6 o.b.size cap7⟩, ⟨31, [], .string o.path⟩, ⟨29, [], pt d⟩, ⟨7, [], .slice a6 o.b.size cap7⟩, ⟨8, [], .int .i64 0⟩, ⟨9, [], .int .i64 0⟩]) 9 (by kernel_rfl) (fun w h => (Sat.dropMid (K := [_, _]) (A := r0.G x N) (L := H) (Sat.dropMid (K := [_, _]) (A := s0.G d M) (L := (r0.G x N ++ H)) ((h.front (j := 1) rfl).front (j := 1) rfl)))) ?_ ?_
      ·
        refine GL_load (i := 9) (ch := []) (b := b1) (off := 3) (v := .slice o.ba o.b.size o.bc) rfl rfl (by kernel_rfl) (by kernel_rfl) (by kernel_rfl) (by kernel_rfl) (by kernel_rfl) (At.grp 1 0 rfl rfl) rfl ?_
        exact GL_yend (by kernel_rfl) (by kernel_rfl)
      refine GH_take' (E' := [⟨39, [], .string o.b⟩, ⟨38, [], .slice o.ba o.b.size o.bc⟩, ⟨37, [], .pointer (some ⟨b1, 3, none⟩)⟩, ⟨36, [], .string o.path⟩, ⟨34, [], pt x⟩, ⟨32, [], .slice a6 o.b.size cap7⟩, ⟨31, [], .string o.path⟩, ⟨29, [], pt d⟩, ⟨7, [], .slice a6 o.b.size cap7⟩, ⟨8, [], .int .i64 0⟩, ⟨9, [], .int .i64 0⟩]) 10 (by kernel_rfl) (fun w h => (Sat.dropMid (K := [_, _]) (A := r0.G x N) (L := H) (Sat.dropMid (K := [_, _]) (A := s0.G d M) (L := (r0.G x N ++ H)) ((h.front (j := 1) rfl).front (j := 1) rfl)))) ?_ ?_
      ·
        refine GL_bytesB (i := 10) (ch := []) (a := o.ba) (cap := o.bc) (e := 5) (S := S) o.b rfl rfl (by kernel_rfl) (by kernel_rfl) (by kernel_rfl) (by kernel_rfl) (by kernel_rfl) (by kernel_rfl) (by kernel_rfl) hO.b.rd (fun y o h => at_up (hO.b.at_ y o h)) ?_
        exact GL_yend (by kernel_rfl) (by kernel_rfl)
      refine GH_eff 4 (by kernel_rfl) (by kernel_rfl) (by kernel_rfl) ?_
      refine GL_call (i := 4) (ch := []) (f := 13) (fst := #[]) (caps := #[]) (vs := [pt d, .string o.path, .slice a6 o.b.size cap7]) rfl rfl rfl (by kernel_rfl) (by kernel_rfl) Try.func13 rfl rfl (by kernel_rfl) (by kernel_rfl) (chSure_of (by kernel_rfl)) (dWrite hs0 hM d o.path o.b hO.path hb [g4, [(b1, .cells #[.int .i64 o.kind, .string o.path, .string o.to, .slice o.ba o.b.size o.bc, .int .i64 o.n, .slice o.ka o.k.length o.kc] 41 (0, 0))]] _ (r0.G x N ++ H) (own_bytesV hO5 0 rfl) rfl) ?_
      rintro v H' ⟨rfl, s1, hs1, rfl⟩
      refine GH_back (by kernel_rfl) (fun w h => (Sat.dropMid (K := [_, _]) (A := r0.G x N) (L := H) (Sat.dropMid (K := [_, _]) (A := s1.G d (writeM M o.path o.b).2) (L := (r0.G x N ++ H)) ((h.front (j := 1) rfl).front (j := 1) rfl)))) ?_
      refine GH_eff 11 (by kernel_rfl) (by kernel_rfl) (by kernel_rfl) ?_
      refine GL_call (i := 11) (ch := []) (f := 46) (fst := #[]) (caps := #[]) (vs := [pt x, .string o.path, .string o.b]) rfl rfl rfl (by kernel_rfl) (by kernel_rfl) Try.func46 rfl rfl (by kernel_rfl) (by kernel_rfl) (chSure_of (by kernel_rfl)) (is_front2 (K := [g4, [(b1, .cells #[.int .i64 o.kind, .string o.path, .string o.to, .slice o.ba o.b.size o.bc, .int .i64 o.n, .slice o.ka o.k.length o.kc] 41 (0, 0))]]) (A := s1.G d (writeM M o.path o.b).2) (rWrite x r0 N hr0 hN o.path o.b hO.path hb _ _)) ?_
      rintro v H' ⟨rfl, r2, hr2, rfl⟩
      refine GH_back (by kernel_rfl) (fun w h => (Sat.dropMid (K := [_, _]) (A := r2.G x (writeM N o.path o.b).2) (L := H) (Sat.dropMid (K := [_, _]) (A := s1.G d (writeM M o.path o.b).2) (L := (r2.G x (writeM N o.path o.b).2 ++ H)) ((h.front (j := 1) rfl).front (j := 1) rfl)))) ?_
      refine GH_pure (E' := [⟨8, [], .int .i64 ((writeM M o.path o.b).1)⟩, ⟨40, [], .int .i64 ((writeM N o.path o.b).1)⟩, ⟨7, [], .slice a6 o.b.size cap7⟩, ⟨9, [], .int .i64 0⟩]) 12 0 (by kernel_rfl) (fun w h => (Sat.dropMid (K := [_, _]) (A := r2.G x (writeM N o.path o.b).2) (L := H) (Sat.dropMid (K := [_, _]) (A := s1.G d (writeM M o.path o.b).2) (L := (r2.G x (writeM N o.path o.b).2 ++ H)) ((h.front (j := 1) rfl).front (j := 1) rfl)))) (by kernel_rfl) ?_
      refine GH_pure (E' := [⟨9, [], .int .i64 ((writeM N o.path o.b).1)⟩, ⟨8, [], .int .i64 ((writeM M o.path o.b).1)⟩, ⟨7, [], .slice a6 o.b.size cap7⟩]) 13 0 (by kernel_rfl) (fun w h => (Sat.dropMid (K := [_, _]) (A := r2.G x (writeM N o.path o.b).2) (L := H) (Sat.dropMid (K := [_, _]) (A := s1.G d (writeM M o.path o.b).2) (L := (r2.G x (writeM N o.path o.b).2 ++ H)) ((h.front (j := 1) rfl).front (j := 1) rfl)))) (by kernel_rfl) ?_
      refine GH_done (E' := [⟨7, [], .slice a6 o.b.size cap7⟩, ⟨8, [], .int .i64 ((writeM M o.path o.b).1)⟩, ⟨9, [], .int .i64 ((writeM N o.path o.b).1)⟩]) [7, 8, 9] (by kernel_rfl) (by kernel_rfl) ?_
      refine N_join (s1, r2, (writeM M o.path o.b).2, (writeM N o.path o.b).2, (writeM M o.path o.b).1, (writeM N o.path o.b).1) [7, 8, 9] (by kernel_rfl) (fun w h => ((h.front (j := 1) rfl).front (j := 1) rfl)) ⟨hs1, hr2, (by unfold doM; rw [if_pos hk0]), (by unfold doM; rw [if_pos hk0])⟩
    ·
      have hk0 : ¬ kindU o = 0 := by simpa [kindU] using hc10
      refine G_seq ?_
      refine G_pure (E' := [⟨0, [], pt d⟩, ⟨1, [], pt x⟩, ⟨5, [], pt b1⟩, ⟨7, [], .slice a6 o.b.size cap7⟩, ⟨8, [], .int .i64 0⟩, ⟨9, [], .int .i64 0⟩, ⟨18, [], .int .u64 (Int.tmod (IntKind.wrap .u64 o.kind) 8)⟩, ⟨41, [], .bool ((Int.tmod (IntKind.wrap .u64 o.kind) 8) == 1)⟩]) [0, 0] [0, 1, 5, 7, 8, 9, 18, 41] rfl (by kernel_rfl) ?_
      refine N_then ?_
      refine G_cond (b := (Int.tmod (IntKind.wrap .u64 o.kind) 8) == 1) (by kernel_rfl) (fun hc11 => ?_) (fun hc11 => ?_)
      ·
        have hk1 : kindU o = 1 := by simpa [kindU] using hc11
        -- L k1
        refine G_regionH (g4 :: [(b1, .cells #[.int .i64 o.kind, .string o.path, .string o.to, .slice o.ba o.b.size o.bc, .int .i64 o.n, .slice o.ka o.k.length o.kc] 41 (0, 0))] :: H) (by kernel_rfl) ?_
        refine GH_pure (E' := [⟨43, [], pt d⟩, ⟨1, [], pt x⟩, ⟨5, [], pt b1⟩, ⟨7, [], .slice a6 o.b.size cap7⟩, ⟨8, [], .int .i64 0⟩, ⟨9, [], .int .i64 0⟩]) 0 0 (by kernel_rfl) (fun w h => (Sat.dropMid (K := [_, _]) (A := r0.G x N) (L := H) (Sat.dropMid (K := [_, _]) (A := s0.G d M) (L := (r0.G x N ++ H)) ((h.front (j := 1) rfl).front (j := 1) rfl)))) (by kernel_rfl) ?_
        refine GH_pure (E' := [⟨44, [], .pointer (some ⟨b1, 1, none⟩)⟩, ⟨43, [], pt d⟩, ⟨1, [], pt x⟩, ⟨5, [], pt b1⟩, ⟨7, [], .slice a6 o.b.size cap7⟩, ⟨8, [], .int .i64 0⟩, ⟨9, [], .int .i64 0⟩]) 1 0 (by kernel_rfl) (fun w h => (Sat.dropMid (K := [_, _]) (A := r0.G x N) (L := H) (Sat.dropMid (K := [_, _]) (A := s0.G d M) (L := (r0.G x N ++ H)) ((h.front (j := 1) rfl).front (j := 1) rfl)))) (by kernel_rfl) ?_
        refine GH_take' (E' := [⟨45, [], .string o.path⟩, ⟨44, [], .pointer (some ⟨b1, 1, none⟩)⟩, ⟨43, [], pt d⟩, ⟨1, [], pt x⟩, ⟨5, [], pt b1⟩, ⟨7, [], .slice a6 o.b.size cap7⟩, ⟨8, [], .int .i64 0⟩, ⟨9, [], .int .i64 0⟩]) 2 (by kernel_rfl) (fun w h => (Sat.dropMid (K := [_, _]) (A := r0.G x N) (L := H) (Sat.dropMid (K := [_, _]) (A := s0.G d M) (L := (r0.G x N ++ H)) ((h.front (j := 1) rfl).front (j := 1) rfl)))) ?_ ?_
        ·
          refine GL_load (i := 2) (ch := []) (b := b1) (off := 1) (v := .string o.path) rfl rfl (by kernel_rfl) (by kernel_rfl) (by kernel_rfl) (by kernel_rfl) (by kernel_rfl) (At.grp 1 0 rfl rfl) rfl ?_
          exact GL_yend (by kernel_rfl) (by kernel_rfl)
        refine GH_pure (E' := [⟨46, [], .slice a6 o.b.size cap7⟩, ⟨45, [], .string o.path⟩, ⟨43, [], pt d⟩, ⟨1, [], pt x⟩, ⟨5, [], pt b1⟩, ⟨7, [], .slice a6 o.b.size cap7⟩, ⟨8, [], .int .i64 0⟩, ⟨9, [], .int .i64 0⟩]) 3 0 (by kernel_rfl) (fun w h => (Sat.dropMid (K := [_, _]) (A := r0.G x N) (L := H) (Sat.dropMid (K := [_, _]) (A := s0.G d M) (L := (r0.G x N ++ H)) ((h.front (j := 1) rfl).front (j := 1) rfl)))) (by kernel_rfl) ?_
        refine GH_pure (E' := [⟨48, [], pt x⟩, ⟨46, [], .slice a6 o.b.size cap7⟩, ⟨45, [], .string o.path⟩, ⟨43, [], pt d⟩, ⟨5, [], pt b1⟩, ⟨7, [], .slice a6 o.b.size cap7⟩, ⟨8, [], .int .i64 0⟩, ⟨9, [], .int .i64 0⟩]) 5 0 (by kernel_rfl) (fun w h => (Sat.dropMid (K := [_, _]) (A := r0.G x N) (L := H) (Sat.dropMid (K := [_, _]) (A := s0.G d M) (L := (r0.G x N ++ H)) ((h.front (j := 1) rfl).front (j := 1) rfl)))) (by kernel_rfl) ?_
        refine GH_pure (E' := [⟨49, [], .pointer (some ⟨b1, 1, none⟩)⟩, ⟨48, [], pt x⟩, ⟨46, [], .slice a6 o.b.size cap7⟩, ⟨45, [], .string o.path⟩, ⟨43, [], pt d⟩, ⟨5, [], pt b1⟩, ⟨7, [], .slice a6 o.b.size cap7⟩, ⟨8, [], .int .i64 0⟩, ⟨9, [], .int .i64 0⟩]) 6 0 (by kernel_rfl) (fun w h => (Sat.dropMid (K := [_, _]) (A := r0.G x N) (L := H) (Sat.dropMid (K := [_, _]) (A := s0.G d M) (L := (r0.G x N ++ H)) ((h.front (j := 1) rfl).front (j := 1) rfl)))) (by kernel_rfl) ?_
        refine GH_take' (E' := [⟨50, [], .string o.path⟩, ⟨49, [], .pointer (some ⟨b1, 1, none⟩)⟩, ⟨48, [], pt x⟩, ⟨46, [], .slice a6 o.b.size cap7⟩, ⟨45, [], .string o.path⟩, ⟨43, [], pt d⟩, ⟨5, [], pt b1⟩, ⟨7, [], .slice a6 o.b.size cap7⟩, ⟨8, [], .int .i64 0⟩, ⟨9, [], .int .i64 0⟩]) 7 (by kernel_rfl) (fun w h => (Sat.dropMid (K := [_, _]) (A := r0.G x N) (L := H) (Sat.dropMid (K := [_, _]) (A := s0.G d M) (L := (r0.G x N ++ H)) ((h.front (j := 1) rfl).front (j := 1) rfl)))) ?_ ?_
        ·
          refine GL_load (i := 7) (ch := []) (b := b1) (off := 1) (v := .string o.path) rfl rfl (by kernel_rfl) (by kernel_rfl) (by kernel_rfl) (by kernel_rfl) (by kernel_rfl) (At.grp 1 0 rfl rfl) rfl ?_
          exact GL_yend (by kernel_rfl) (by kernel_rfl)
        refine GH_pure (E' := [⟨51, [], .pointer (some ⟨b1, 3, none⟩)⟩, ⟨50, [], .string o.path⟩, ⟨48, [], pt x⟩, ⟨46, [], .slice a6 o.b.size cap7⟩, ⟨45, [], .string o.path⟩, ⟨43, [], pt d⟩, ⟨7, [], .slice a6 o.b.size cap7⟩, ⟨8, [], .int .i64 0⟩, ⟨9, [], .int .i64 0⟩]) 8 0 (by kernel_rfl) (fun w h => (Sat.dropMid (K := [_, _]) (A := r0.G x N) (L := H) (Sat.dropMid (K := [_, _]) (A := s0.G d M) (L := (r0.G x N ++ H)) ((h.front (j := 1) rfl).front (j := 1) rfl)))) (by kernel_rfl) ?_
        refine GH_take' (E' := [⟨52, [], .slice o.ba o.b.size o.bc⟩, ⟨51, [], .pointer (some ⟨b1, 3, none⟩)⟩, ⟨50, [], .string o.path⟩, ⟨48, [], pt x⟩, ⟨46, [], .slice a6 o.b.size cap7⟩, ⟨45, [], .string o.path⟩, ⟨43, [], pt d⟩, ⟨7, [], .slice a6 o.b.size cap7⟩, ⟨8, [], .int .i64 0⟩, ⟨9, [], .int .i64 0⟩]) 9 (by kernel_rfl) (fun w h => (Sat.dropMid (K := [_, _]) (A := r0.G x N) (L := H) (Sat.dropMid (K := [_, _]) (A := s0.G d M) (L := (r0.G x N ++ H)) ((h.front (j := 1) rfl).front (j := 1) rfl)))) ?_ ?_
        ·
          refine GL_load (i := 9) (ch := []) (b := b1) (off := 3) (v := .slice o.ba o.b.size o.bc) rfl rfl (by kernel_rfl) (by kernel_rfl) (by kernel_rfl) (by kernel_rfl) (by kernel_rfl) (At.grp 1 0 rfl rfl) rfl ?_
          exact GL_yend (by kernel_rfl) (by kernel_rfl)
        refine GH_take' (E' := [⟨53, [], .string o.b⟩, ⟨52, [], .slice o.ba o.b.size o.bc⟩, ⟨51, [], .pointer (some ⟨b1, 3, none⟩)⟩, ⟨50, [], .string o.path⟩, ⟨48, [], pt x⟩, ⟨46, [], .slice a6 o.b.size cap7⟩, ⟨45, [], .string o.path⟩, ⟨43, [], pt d⟩, ⟨7, [], .slice a6 o.b.size cap7⟩, ⟨8, [], .int .i64 0⟩, ⟨9, [], .int .i64 0⟩]) 10 (by kernel_rfl) (fun w h => (Sat.dropMid (K := [_, _]) (A := r0.G x N) (L := H) (Sat.dropMid (K := [_, _]) (A := s0.G d M) (L := (r0.G x N ++ H)) ((h.front (j := 1) rfl).front (j := 1) rfl)))) ?_ ?_
        ·
          refine GL_bytesB (i := 10) (ch := []) (a := o.ba) (cap := o.bc) (e := 5) (S := S) o.b rfl rfl (by kernel_rfl) (by kernel_rfl) (by kernel_rfl) (by kernel_rfl) (by kernel_rfl) (by kernel_rfl) (by kernel_rfl) hO.b.rd (fun y o h => at_up (hO.b.at_ y o h)) ?_
          exact GL_yend (by kernel_rfl) (by kernel_rfl)
        refine GH_eff 4 (by kernel_rfl) (by kernel_rfl) (by kernel_rfl) ?_
        refine GL_call (i := 4) (ch := []) (f := 22) (fst := #[]) (caps := #[]) (vs := [pt d, .string o.path, .slice a6 o.b.size cap7]) rfl rfl rfl (by kernel_rfl) (by kernel_rfl) Try.func22 rfl rfl (by kernel_rfl) (by kernel_rfl) (chSure_of (by kernel_rfl)) (dAppend hs0 hM d o.path o.b hO.path hb [g4, [(b1, .cells #[.int .i64 o.kind, .string o.path, .string o.to, .slice o.ba o.b.size o.bc, .int .i64 o.n, .slice o.ka o.k.length o.kc] 41 (0, 0))]] _ (r0.G x N ++ H) (own_bytesV hO5 0 rfl) rfl) ?_
        rintro v H' ⟨rfl, s3, hs3, rfl⟩
        refine GH_back (by kernel_rfl) (fun w h => (Sat.dropMid (K := [_, _]) (A := r0.G x N) (L := H) (Sat.dropMid (K := [_, _]) (A := s3.G d (appendM M o.path o.b).2) (L := (r0.G x N ++ H)) ((h.front (j := 1) rfl).front (j := 1) rfl)))) ?_
        refine GH_eff 11 (by kernel_rfl) (by kernel_rfl) (by kernel_rfl) ?_
        refine GL_call (i := 11) (ch := []) (f := 47) (fst := #[]) (caps := #[]) (vs := [pt x, .string o.path, .string o.b]) rfl rfl rfl (by kernel_rfl) (by kernel_rfl) Try.func47 rfl rfl (by kernel_rfl) (by kernel_rfl) (chSure_of (by kernel_rfl)) (is_front2 (K := [g4, [(b1, .cells #[.int .i64 o.kind, .string o.path, .string o.to, .slice o.ba o.b.size o.bc, .int .i64 o.n, .slice o.ka o.k.length o.kc] 41 (0, 0))]]) (A := s3.G d (appendM M o.path o.b).2) (rAppend x r0 N hr0 hN o.path o.b hO.path hb _ _)) ?_
        rintro v H' ⟨rfl, r4, hr4, rfl⟩
        refine GH_back (by kernel_rfl) (fun w h => (Sat.dropMid (K := [_, _]) (A := r4.G x (appendM N o.path o.b).2) (L := H) (Sat.dropMid (K := [_, _]) (A := s3.G d (appendM M o.path o.b).2) (L := (r4.G x (appendM N o.path o.b).2 ++ H)) ((h.front (j := 1) rfl).front (j := 1) rfl)))) ?_
        refine GH_pure (E' := [⟨8, [], .int .i64 ((appendM M o.path o.b).1)⟩, ⟨54, [], .int .i64 ((appendM N o.path o.b).1)⟩, ⟨7, [], .slice a6 o.b.size cap7⟩, ⟨9, [], .int .i64 0⟩]) 12 0 (by kernel_rfl) (fun w h => (Sat.dropMid (K := [_, _]) (A := r4.G x (appendM N o.path o.b).2) (L := H) (Sat.dropMid (K := [_, _]) (A := s3.G d (appendM M o.path o.b).2) (L := (r4.G x (appendM N o.path o.b).2 ++ H)) ((h.front (j := 1) rfl).front (j := 1) rfl)))) (by kernel_rfl) ?_
        refine GH_pure (E' := [⟨9, [], .int .i64 ((appendM N o.path o.b).1)⟩, ⟨8, [], .int .i64 ((appendM M o.path o.b).1)⟩, ⟨7, [], .slice a6 o.b.size cap7⟩]) 13 0 (by kernel_rfl) (fun w h => (Sat.dropMid (K := [_, _]) (A := r4.G x (appendM N o.path o.b).2) (L := H) (Sat.dropMid (K := [_, _]) (A := s3.G d (appendM M o.path o.b).2) (L := (r4.G x (appendM N o.path o.b).2 ++ H)) ((h.front (j := 1) rfl).front (j := 1) rfl)))) (by kernel_rfl) ?_
        refine GH_done (E' := [⟨7, [], .slice a6 o.b.size cap7⟩, ⟨8, [], .int .i64 ((appendM M o.path o.b).1)⟩, ⟨9, [], .int .i64 ((appendM N o.path o.b).1)⟩]) [7, 8, 9] (by kernel_rfl) (by kernel_rfl) ?_
        refine N_join (s3, r4, (appendM M o.path o.b).2, (appendM N o.path o.b).2, (appendM M o.path o.b).1, (appendM N o.path o.b).1) [7, 8, 9] (by kernel_rfl) (fun w h => ((h.front (j := 1) rfl).front (j := 1) rfl)) ⟨hs3, hr4, (by unfold doM; rw [if_neg hk0, if_pos hk1]), (by unfold doM; rw [if_neg hk0, if_pos hk1])⟩
      ·
        have hk1 : ¬ kindU o = 1 := by simpa [kindU] using hc11
        refine G_seq ?_
        refine G_pure (E' := [⟨0, [], pt d⟩, ⟨1, [], pt x⟩, ⟨5, [], pt b1⟩, ⟨7, [], .slice a6 o.b.size cap7⟩, ⟨8, [], .int .i64 0⟩, ⟨9, [], .int .i64 0⟩, ⟨18, [], .int .u64 (Int.tmod (IntKind.wrap .u64 o.kind) 8)⟩, ⟨55, [], .bool ((Int.tmod (IntKind.wrap .u64 o.kind) 8) == 2)⟩]) [0, 0] [0, 1, 5, 7, 8, 9, 18, 55] rfl (by kernel_rfl) ?_
        refine N_then ?_
        refine G_cond (b := (Int.tmod (IntKind.wrap .u64 o.kind) 8) == 2) (by kernel_rfl) (fun hc12 => ?_) (fun hc12 => ?_)
        ·
          have hk2 : kindU o = 2 := by simpa [kindU] using hc12
          -- L k2
          refine G_regionH (g4 :: [(b1, .cells #[.int .i64 o.kind, .string o.path, .string o.to, .slice o.ba o.b.size o.bc, .int .i64 o.n, .slice o.ka o.k.length o.kc] 41 (0, 0))] :: H) (by kernel_rfl) ?_
          refine GH_pure (E' := [⟨57, [], pt d⟩, ⟨1, [], pt x⟩, ⟨5, [], pt b1⟩, ⟨7, [], .slice a6 o.b.size cap7⟩, ⟨8, [], .int .i64 0⟩, ⟨9, [], .int .i64 0⟩]) 0 0 (by kernel_rfl) (fun w h => (Sat.dropMid (K := [_, _]) (A := r0.G x N) (L := H) (Sat.dropMid (K := [_, _]) (A := s0.G d M) (L := (r0.G x N ++ H)) ((h.front (j := 1) rfl).front (j := 1) rfl)))) (by kernel_rfl) ?_
          refine GH_pure (E' := [⟨58, [], .pointer (some ⟨b1, 1, none⟩)⟩, ⟨57, [], pt d⟩, ⟨1, [], pt x⟩, ⟨5, [], pt b1⟩, ⟨7, [], .slice a6 o.b.size cap7⟩, ⟨8, [], .int .i64 0⟩, ⟨9, [], .int .i64 0⟩]) 1 0 (by kernel_rfl) (fun w h => (Sat.dropMid (K := [_, _]) (A := r0.G x N) (L := H) (Sat.dropMid (K := [_, _]) (A := s0.G d M) (L := (r0.G x N ++ H)) ((h.front (j := 1) rfl).front (j := 1) rfl)))) (by kernel_rfl) ?_
          refine GH_take' (E' := [⟨59, [], .string o.path⟩, ⟨58, [], .pointer (some ⟨b1, 1, none⟩)⟩, ⟨57, [], pt d⟩, ⟨1, [], pt x⟩, ⟨5, [], pt b1⟩, ⟨7, [], .slice a6 o.b.size cap7⟩, ⟨8, [], .int .i64 0⟩, ⟨9, [], .int .i64 0⟩]) 2 (by kernel_rfl) (fun w h => (Sat.dropMid (K := [_, _]) (A := r0.G x N) (L := H) (Sat.dropMid (K := [_, _]) (A := s0.G d M) (L := (r0.G x N ++ H)) ((h.front (j := 1) rfl).front (j := 1) rfl)))) ?_ ?_
          ·
            refine GL_load (i := 2) (ch := []) (b := b1) (off := 1) (v := .string o.path) rfl rfl (by kernel_rfl) (by kernel_rfl) (by kernel_rfl) (by kernel_rfl) (by kernel_rfl) (At.grp 1 0 rfl rfl) rfl ?_
            exact GL_yend (by kernel_rfl) (by kernel_rfl)
          refine GH_pure (E' := [⟨60, [], .pointer (some ⟨b1, 2, none⟩)⟩, ⟨59, [], .string o.path⟩, ⟨57, [], pt d⟩, ⟨1, [], pt x⟩, ⟨5, [], pt b1⟩, ⟨7, [], .slice a6 o.b.size cap7⟩, ⟨8, [], .int .i64 0⟩, ⟨9, [], .int .i64 0⟩]) 3 0 (by kernel_rfl) (fun w h => (Sat.dropMid (K := [_, _]) (A := r0.G x N) (L := H) (Sat.dropMid (K := [_, _]) (A := s0.G d M) (L := (r0.G x N ++ H)) ((h.front (j := 1) rfl).front (j := 1) rfl)))) (by kernel_rfl) ?_
          refine GH_take' (E' := [⟨61, [], .string o.to⟩, ⟨60, [], .pointer (some ⟨b1, 2, none⟩)⟩, ⟨59, [], .string o.path⟩, ⟨57, [], pt d⟩, ⟨1, [], pt x⟩, ⟨5, [], pt b1⟩, ⟨7, [], .slice a6 o.b.size cap7⟩, ⟨8, [], .int .i64 0⟩, ⟨9, [], .int .i64 0⟩]) 4 (by kernel_rfl) (fun w h => (Sat.dropMid (K := [_, _]) (A := r0.G x N) (L := H) (Sat.dropMid (K := [_, _]) (A := s0.G d M) (L := (r0.G x N ++ H)) ((h.front (j := 1) rfl).front (j := 1) rfl)))) ?_ ?_
          ·
            refine GL_load (i := 4) (ch := []) (b := b1) (off := 2) (v := .string o.to) rfl rfl (by kernel_rfl) (by kernel_rfl) (by kernel_rfl) (by kernel_rfl) (by kernel_rfl) (At.grp 1 0 rfl rfl) rfl ?_
            exact GL_yend (by kernel_rfl) (by kernel_rfl)
          refine GH_pure (E' := [⟨63, [], pt x⟩, ⟨61, [], .string o.to⟩, ⟨59, [], .string o.path⟩, ⟨57, [], pt d⟩, ⟨5, [], pt b1⟩, ⟨7, [], .slice a6 o.b.size cap7⟩, ⟨8, [], .int .i64 0⟩, ⟨9, [], .int .i64 0⟩]) 6 0 (by kernel_rfl) (fun w h => (Sat.dropMid (K := [_, _]) (A := r0.G x N) (L := H) (Sat.dropMid (K := [_, _]) (A := s0.G d M) (L := (r0.G x N ++ H)) ((h.front (j := 1) rfl).front (j := 1) rfl)))) (by kernel_rfl) ?_
          refine GH_pure (E' := [⟨64, [], .pointer (some ⟨b1, 1, none⟩)⟩, ⟨63, [], pt x⟩, ⟨61, [], .string o.to⟩, ⟨59, [], .string o.path⟩, ⟨57, [], pt d⟩, ⟨5, [], pt b1⟩, ⟨7, [], .slice a6 o.b.size cap7⟩, ⟨8, [], .int .i64 0⟩, ⟨9, [], .int .i64 0⟩]) 7 0 (by kernel_rfl) (fun w h => (Sat.dropMid (K := [_, _]) (A := r0.G x N) (L := H) (Sat.dropMid (K := [_, _]) (A := s0.G d M) (L := (r0.G x N ++ H)) ((h.front (j := 1) rfl).front (j := 1) rfl)))) (by kernel_rfl) ?_
          refine GH_take' (E' := [⟨65, [], .string o.path⟩, ⟨64, [], .pointer (some ⟨b1, 1, none⟩)⟩, ⟨63, [], pt x⟩, ⟨61, [], .string o.to⟩, ⟨59, [], .string o.path⟩, ⟨57, [], pt d⟩, ⟨5, [], pt b1⟩, ⟨7, [], .slice a6 o.b.size cap7⟩, ⟨8, [], .int .i64 0⟩, ⟨9, [], .int .i64 0⟩]) 8 (by kernel_rfl) (fun w h => (Sat.dropMid (K := [_, _]) (A := r0.G x N) (L := H) (Sat.dropMid (K := [_, _]) (A := s0.G d M) (L := (r0.G x N ++ H)) ((h.front (j := 1) rfl).front (j := 1) rfl)))) ?_ ?_
          ·
            refine GL_load (i := 8) (ch := []) (b := b1) (off := 1) (v := .string o.path) rfl rfl (by kernel_rfl) (by kernel_rfl) (by kernel_rfl) (by kernel_rfl) (by kernel_rfl) (At.grp 1 0 rfl rfl) rfl ?_
            exact GL_yend (by kernel_rfl) (by kernel_rfl)
          refine GH_pure (E' := [⟨66, [], .pointer (some ⟨b1, 2, none⟩)⟩, ⟨65, [], .string o.path⟩, ⟨63, [], pt x⟩, ⟨61, [], .string o.to⟩, ⟨59, [], .string o.path⟩, ⟨57, [], pt d⟩, ⟨7, [], .slice a6 o.b.size cap7⟩, ⟨8, [], .int .i64 0⟩, ⟨9, [], .int .i64 0⟩]) 9 0 (by kernel_rfl) (fun w h => (Sat.dropMid (K := [_, _]) (A := r0.G x N) (L := H) (Sat.dropMid (K := [_, _]) (A := s0.G d M) (L := (r0.G x N ++ H)) ((h.front (j := 1) rfl).front (j := 1) rfl)))) (by kernel_rfl) ?_
          refine GH_take' (E' := [⟨67, [], .string o.to⟩, ⟨66, [], .pointer (some ⟨b1, 2, none⟩)⟩, ⟨65, [], .string o.path⟩, ⟨63, [], pt x⟩, ⟨61, [], .string o.to⟩, ⟨59, [], .string o.path⟩, ⟨57, [], pt d⟩, ⟨7, [], .slice a6 o.b.size cap7⟩, ⟨8, [], .int .i64 0⟩, ⟨9, [], .int .i64 0⟩]) 10 (by kernel_rfl) (fun w h => (Sat.dropMid (K := [_, _]) (A := r0.G x N) (L := H) (Sat.dropMid (K := [_, _]) (A := s0.G d M) (L := (r0.G x N ++ H)) ((h.front (j := 1) rfl).front (j := 1) rfl)))) ?_ ?_
          ·
            refine GL_load (i := 10) (ch := []) (b := b1) (off := 2) (v := .string o.to) rfl rfl (by kernel_rfl) (by kernel_rfl) (by kernel_rfl) (by kernel_rfl) (by kernel_rfl) (At.grp 1 0 rfl rfl) rfl ?_
            exact GL_yend (by kernel_rfl) (by kernel_rfl)
          refine GH_eff 5 (by kernel_rfl) (by kernel_rfl) (by kernel_rfl) ?_
          refine GL_call (i := 5) (ch := []) (f := 17) (fst := #[]) (caps := #[]) (vs := [pt d, .string o.path, .string o.to]) rfl rfl rfl (by kernel_rfl) (by kernel_rfl) Try.func17 rfl rfl (by kernel_rfl) (by kernel_rfl) (chSure_of (by kernel_rfl)) (dRename hs0 hM d o.path o.to hO.path hO.to [g4, [(b1, .cells #[.int .i64 o.kind, .string o.path, .string o.to, .slice o.ba o.b.size o.bc, .int .i64 o.n, .slice o.ka o.k.length o.kc] 41 (0, 0))]] _ (r0.G x N ++ H) rfl) ?_
          rintro v H' ⟨rfl, s5, hs5, rfl⟩
          refine GH_back (by kernel_rfl) (fun w h => (Sat.dropMid (K := [_, _]) (A := r0.G x N) (L := H) (Sat.dropMid (K := [_, _]) (A := s5.G d (renameM M o.path o.to).2) (L := (r0.G x N ++ H)) ((h.front (j := 1) rfl).front (j := 1) rfl)))) ?_
          refine GH_eff 11 (by kernel_rfl) (by kernel_rfl) (by kernel_rfl) ?_
          refine GL_call (i := 11) (ch := []) (f := 48) (fst := #[]) (caps := #[]) (vs := [pt x, .string o.path, .string o.to]) rfl rfl rfl (by kernel_rfl) (by kernel_rfl) Try.func48 rfl rfl (by kernel_rfl) (by kernel_rfl) (chSure_of (by kernel_rfl)) (is_front2 (K := [g4, [(b1, .cells #[.int .i64 o.kind, .string o.path, .string o.to, .slice o.ba o.b.size o.bc, .int .i64 o.n, .slice o.ka o.k.length o.kc] 41 (0, 0))]]) (A := s5.G d (renameM M o.path o.to).2) (rRename x r0 N hr0 hN o.path o.to hO.path hO.to _ _)) ?_
          rintro v H' ⟨rfl, r6, hr6, rfl⟩
          refine GH_back (by kernel_rfl) (fun w h => (Sat.dropMid (K := [_, _]) (A := r6.G x (renameM N o.path o.to).2) (L := H) (Sat.dropMid (K := [_, _]) (A := s5.G d (renameM M o.path o.to).2) (L := (r6.G x (renameM N o.path o.to).2 ++ H)) ((h.front (j := 1) rfl).front (j := 1) rfl)))) ?_
          refine GH_pure (E' := [⟨8, [], .int .i64 ((renameM M o.path o.to).1)⟩, ⟨68, [], .int .i64 ((renameM N o.path o.to).1)⟩, ⟨7, [], .slice a6 o.b.size cap7⟩, ⟨9, [], .int .i64 0⟩]) 12 0 (by kernel_rfl) (fun w h => (Sat.dropMid (K := [_, _]) (A := r6.G x (renameM N o.path o.to).2) (L := H) (Sat.dropMid (K := [_, _]) (A := s5.G d (renameM M o.path o.to).2) (L := (r6.G x (renameM N o.path o.to).2 ++ H)) ((h.front (j := 1) rfl).front (j := 1) rfl)))) (by kernel_rfl) ?_
          refine GH_pure (E' := [⟨9, [], .int .i64 ((renameM N o.path o.to).1)⟩, ⟨8, [], .int .i64 ((renameM M o.path o.to).1)⟩, ⟨7, [], .slice a6 o.b.size cap7⟩]) 13 0 (by kernel_rfl) (fun w h => (Sat.dropMid (K := [_, _]) (A := r6.G x (renameM N o.path o.to).2) (L := H) (Sat.dropMid (K := [_, _]) (A := s5.G d (renameM M o.path o.to).2) (L := (r6.G x (renameM N o.path o.to).2 ++ H)) ((h.front (j := 1) rfl).front (j := 1) rfl)))) (by kernel_rfl) ?_
          refine GH_done (E' := [⟨7, [], .slice a6 o.b.size cap7⟩, ⟨8, [], .int .i64 ((renameM M o.path o.to).1)⟩, ⟨9, [], .int .i64 ((renameM N o.path o.to).1)⟩]) [7, 8, 9] (by kernel_rfl) (by kernel_rfl) ?_
          refine N_join (s5, r6, (renameM M o.path o.to).2, (renameM N o.path o.to).2, (renameM M o.path o.to).1, (renameM N o.path o.to).1) [7, 8, 9] (by kernel_rfl) (fun w h => ((h.front (j := 1) rfl).front (j := 1) rfl)) ⟨hs5, hr6, (by unfold doM; rw [if_neg hk0, if_neg hk1, if_pos hk2]), (by unfold doM; rw [if_neg hk0, if_neg hk1, if_pos hk2])⟩
        ·
          have hk2 : ¬ kindU o = 2 := by simpa [kindU] using hc12
          refine G_seq ?_
          refine G_pure (E' := [⟨0, [], pt d⟩, ⟨1, [], pt x⟩, ⟨5, [], pt b1⟩, ⟨7, [], .slice a6 o.b.size cap7⟩, ⟨8, [], .int .i64 0⟩, ⟨9, [], .int .i64 0⟩, ⟨18, [], .int .u64 (Int.tmod (IntKind.wrap .u64 o.kind) 8)⟩, ⟨69, [], .bool ((Int.tmod (IntKind.wrap .u64 o.kind) 8) == 3)⟩]) [0, 0] [0, 1, 5, 7, 8, 9, 18, 69] rfl (by kernel_rfl) ?_
          refine N_then ?_
          refine G_cond (b := (Int.tmod (IntKind.wrap .u64 o.kind) 8) == 3) (by kernel_rfl) (fun hc13 => ?_) (fun hc13 => ?_)
          ·
            have hk3 : kindU o = 3 := by simpa [kindU] using hc13
            -- L k3
            refine G_regionH (g4 :: [(b1, .cells #[.int .i64 o.kind, .string o.path, .string o.to, .slice o.ba o.b.size o.bc, .int .i64 o.n, .slice o.ka o.k.length o.kc] 41 (0, 0))] :: H) (by kernel_rfl) ?_
            refine GH_pure (E' := [⟨71, [], pt d⟩, ⟨1, [], pt x⟩, ⟨5, [], pt b1⟩, ⟨7, [], .slice a6 o.b.size cap7⟩, ⟨8, [], .int .i64 0⟩, ⟨9, [], .int .i64 0⟩]) 0 0 (by kernel_rfl) (fun w h => (Sat.dropMid (K := [_, _]) (A := r0.G x N) (L := H) (Sat.dropMid (K := [_, _]) (A := s0.G d M) (L := (r0.G x N ++ H)) ((h.front (j := 1) rfl).front (j := 1) rfl)))) (by kernel_rfl) ?_
            refine GH_pure (E' := [⟨72, [], .pointer (some ⟨b1, 1, none⟩)⟩, ⟨71, [], pt d⟩, ⟨1, [], pt x⟩, ⟨5, [], pt b1⟩, ⟨7, [], .slice a6 o.b.size cap7⟩, ⟨8, [], .int .i64 0⟩, ⟨9, [], .int .i64 0⟩]) 1 0 (by kernel_rfl) (fun w h => (Sat.dropMid (K := [_, _]) (A := r0.G x N) (L := H) (Sat.dropMid (K := [_, _]) (A := s0.G d M) (L := (r0.G x N ++ H)) ((h.front (j := 1) rfl).front (j := 1) rfl)))) (by kernel_rfl) ?_
            refine GH_take' (E' := [⟨73, [], .string o.path⟩, ⟨72, [], .pointer (some ⟨b1, 1, none⟩)⟩, ⟨71, [], pt d⟩, ⟨1, [], pt x⟩, ⟨5, [], pt b1⟩, ⟨7, [], .slice a6 o.b.size cap7⟩, ⟨8, [], .int .i64 0⟩, ⟨9, [], .int .i64 0⟩]) 2 (by kernel_rfl) (fun w h => (Sat.dropMid (K := [_, _]) (A := r0.G x N) (L := H) (Sat.dropMid (K := [_, _]) (A := s0.G d M) (L := (r0.G x N ++ H)) ((h.front (j := 1) rfl).front (j := 1) rfl)))) ?_ ?_
            ·
              refine GL_load (i := 2) (ch := []) (b := b1) (off := 1) (v := .string o.path) rfl rfl (by kernel_rfl) (by kernel_rfl) (by kernel_rfl) (by kernel_rfl) (by kernel_rfl) (At.grp 1 0 rfl rfl) rfl ?_
              exact GL_yend (by kernel_rfl) (by kernel_rfl)
            refine GH_pure (E' := [⟨75, [], pt x⟩, ⟨73, [], .string o.path⟩, ⟨71, [], pt d⟩, ⟨5, [], pt b1⟩, ⟨7, [], .slice a6 o.b.size cap7⟩, ⟨8, [], .int .i64 0⟩, ⟨9, [], .int .i64 0⟩]) 4 0 (by kernel_rfl) (fun w h => (Sat.dropMid (K := [_, _]) (A := r0.G x N) (L := H) (Sat.dropMid (K := [_, _]) (A := s0.G d M) (L := (r0.G x N ++ H)) ((h.front (j := 1) rfl).front (j := 1) rfl)))) (by kernel_rfl) ?_
            refine GH_pure (E' := [⟨76, [], .pointer (some ⟨b1, 1, none⟩)⟩, ⟨75, [], pt x⟩, ⟨73, [], .string o.path⟩, ⟨71, [], pt d⟩, ⟨7, [], .slice a6 o.b.size cap7⟩, ⟨8, [], .int .i64 0⟩, ⟨9, [], .int .i64 0⟩]) 5 0 (by kernel_rfl) (fun w h => (Sat.dropMid (K := [_, _]) (A := r0.G x N) (L := H) (Sat.dropMid (K := [_, _]) (A := s0.G d M) (L := (r0.G x N ++ H)) ((h.front (j := 1) rfl).front (j := 1) rfl)))) (by kernel_rfl) ?_
            refine GH_take' (E' := [⟨77, [], .string o.path⟩, ⟨76, [], .pointer (some ⟨b1, 1, none⟩)⟩, ⟨75, [], pt x⟩, ⟨73, [], .string o.path⟩, ⟨71, [], pt d⟩, ⟨7, [], .slice a6 o.b.size cap7⟩, ⟨8, [], .int .i64 0⟩, ⟨9, [], .int .i64 0⟩]) 6 (by kernel_rfl) (fun w h => (Sat.dropMid (K := [_, _]) (A := r0.G x N) (L := H) (Sat.dropMid (K := [_, _]) (A := s0.G d M) (L := (r0.G x N ++ H)) ((h.front (j := 1) rfl).front (j := 1) rfl)))) ?_ ?_
            ·
              refine GL_load (i := 6) (ch := []) (b := b1) (off := 1) (v := .string o.path) rfl rfl (by kernel_rfl) (by kernel_rfl) (by kernel_rfl) (by kernel_rfl) (by kernel_rfl) (At.grp 1 0 rfl rfl) rfl ?_
              exact GL_yend (by kernel_rfl) (by kernel_rfl)
            refine GH_eff 3 (by kernel_rfl) (by kernel_rfl) (by kernel_rfl) ?_
            refine GL_call (i := 3) (ch := []) (f := 43) (fst := #[]) (caps := #[]) (vs := [pt d, .string o.path]) rfl rfl rfl (by kernel_rfl) (by kernel_rfl) Try.func43 rfl rfl (by kernel_rfl) (by kernel_rfl) (chSure_of (by kernel_rfl)) (dRemove hs0 hM d o.path hO.path [g4, [(b1, .cells #[.int .i64 o.kind, .string o.path, .string o.to, .slice o.ba o.b.size o.bc, .int .i64 o.n, .slice o.ka o.k.length o.kc] 41 (0, 0))]] _ (r0.G x N ++ H) rfl) ?_
            rintro v H' ⟨rfl, s7, hs7, rfl⟩
            refine GH_back (by kernel_rfl) (fun w h => (Sat.dropMid (K := [_, _]) (A := r0.G x N) (L := H) (Sat.dropMid (K := [_, _]) (A := s7.G d (removeM M o.path).2) (L := (r0.G x N ++ H)) ((h.front (j := 1) rfl).front (j := 1) rfl)))) ?_
            refine GH_eff 7 (by kernel_rfl) (by kernel_rfl) (by kernel_rfl) ?_
            refine GL_call (i := 7) (ch := []) (f := 49) (fst := #[]) (caps := #[]) (vs := [pt x, .string o.path]) rfl rfl rfl (by kernel_rfl) (by kernel_rfl) Try.func49 rfl rfl (by kernel_rfl) (by kernel_rfl) (chSure_of (by kernel_rfl)) (is_front2 (K := [g4, [(b1, .cells #[.int .i64 o.kind, .string o.path, .string o.to, .slice o.ba o.b.size o.bc, .int .i64 o.n, .slice o.ka o.k.length o.kc] 41 (0, 0))]]) (A := s7.G d (removeM M o.path).2) (rRemove x r0 N hr0 hN o.path hO.path _ _)) ?_
            rintro v H' ⟨rfl, r8, hr8, rfl⟩
            refine GH_back (by kernel_rfl) (fun w h => (Sat.dropMid (K := [_, _]) (A := r8.G x (removeM N o.path).2) (L := H) (Sat.dropMid (K := [_, _]) (A := s7.G d (removeM M o.path).2) (L := (r8.G x (removeM N o.path).2 ++ H)) ((h.front (j := 1) rfl).front (j := 1) rfl)))) ?_
            refine GH_pure (E' := [⟨8, [], .int .i64 ((removeM M o.path).1)⟩, ⟨78, [], .int .i64 ((removeM N o.path).1)⟩, ⟨7, [], .slice a6 o.b.size cap7⟩, ⟨9, [], .int .i64 0⟩]) 8 0 (by kernel_rfl) (fun w h => (Sat.dropMid (K := [_, _]) (A := r8.G x (removeM N o.path).2) (L := H) (Sat.dropMid (K := [_, _]) (A := s7.G d (removeM M o.path).2) (L := (r8.G x (removeM N o.path).2 ++ H)) ((h.front (j := 1) rfl).front (j := 1) rfl)))) (by kernel_rfl) ?_
            refine GH_pure (E' := [⟨9, [], .int .i64 ((removeM N o.path).1)⟩, ⟨8, [], .int .i64 ((removeM M o.path).1)⟩, ⟨7, [], .slice a6 o.b.size cap7⟩]) 9 0 (by kernel_rfl) (fun w h => (Sat.dropMid (K := [_, _]) (A := r8.G x (removeM N o.path).2) (L := H) (Sat.dropMid (K := [_, _]) (A := s7.G d (removeM M o.path).2) (L := (r8.G x (removeM N o.path).2 ++ H)) ((h.front (j := 1) rfl).front (j := 1) rfl)))) (by kernel_rfl) ?_
            refine GH_done (E' := [⟨7, [], .slice a6 o.b.size cap7⟩, ⟨8, [], .int .i64 ((removeM M o.path).1)⟩, ⟨9, [], .int .i64 ((removeM N o.path).1)⟩]) [7, 8, 9] (by kernel_rfl) (by kernel_rfl) ?_
            refine N_join (s7, r8, (removeM M o.path).2, (removeM N o.path).2, (removeM M o.path).1, (removeM N o.path).1) [7, 8, 9] (by kernel_rfl) (fun w h => ((h.front (j := 1) rfl).front (j := 1) rfl)) ⟨hs7, hr8, (by unfold doM; rw [if_neg hk0, if_neg hk1, if_neg hk2, if_pos hk3]), (by unfold doM; rw [if_neg hk0, if_neg hk1, if_neg hk2, if_pos hk3])⟩
          ·
            have hk3 : ¬ kindU o = 3 := by simpa [kindU] using hc13
            refine G_seq ?_
            refine G_pure (E' := [⟨0, [], pt d⟩, ⟨1, [], pt x⟩, ⟨5, [], pt b1⟩, ⟨7, [], .slice a6 o.b.size cap7⟩, ⟨8, [], .int .i64 0⟩, ⟨9, [], .int .i64 0⟩, ⟨18, [], .int .u64 (Int.tmod (IntKind.wrap .u64 o.kind) 8)⟩, ⟨79, [], .bool ((Int.tmod (IntKind.wrap .u64 o.kind) 8) == 4)⟩]) [0, 0] [0, 1, 5, 7, 8, 9, 18, 79] rfl (by kernel_rfl) ?_
            refine N_then ?_
            refine G_cond (b := (Int.tmod (IntKind.wrap .u64 o.kind) 8) == 4) (by kernel_rfl) (fun hc14 => ?_) (fun hc14 => ?_)
            ·
              have hk4 : kindU o = 4 := by simpa [kindU] using hc14
              -- L k4
              refine G_regionH (g4 :: [(b1, .cells #[.int .i64 o.kind, .string o.path, .string o.to, .slice o.ba o.b.size o.bc, .int .i64 o.n, .slice o.ka o.k.length o.kc] 41 (0, 0))] :: H) (by kernel_rfl) ?_
              refine GH_pure (E' := [⟨81, [], pt d⟩, ⟨1, [], pt x⟩, ⟨5, [], pt b1⟩, ⟨7, [], .slice a6 o.b.size cap7⟩, ⟨8, [], .int .i64 0⟩, ⟨9, [], .int .i64 0⟩]) 0 0 (by kernel_rfl) (fun w h => (Sat.dropMid (K := [_, _]) (A := r0.G x N) (L := H) (Sat.dropMid (K := [_, _]) (A := s0.G d M) (L := (r0.G x N ++ H)) ((h.front (j := 1) rfl).front (j := 1) rfl)))) (by kernel_rfl) ?_
              refine GH_pure (E' := [⟨82, [], .pointer (some ⟨b1, 1, none⟩)⟩, ⟨81, [], pt d⟩, ⟨1, [], pt x⟩, ⟨5, [], pt b1⟩, ⟨7, [], .slice a6 o.b.size cap7⟩, ⟨8, [], .int .i64 0⟩, ⟨9, [], .int .i64 0⟩]) 1 0 (by kernel_rfl) (fun w h => (Sat.dropMid (K := [_, _]) (A := r0.G x N) (L := H) (Sat.dropMid (K := [_, _]) (A := s0.G d M) (L := (r0.G x N ++ H)) ((h.front (j := 1) rfl).front (j := 1) rfl)))) (by kernel_rfl) ?_
              refine GH_take' (E' := [⟨83, [], .string o.path⟩, ⟨82, [], .pointer (some ⟨b1, 1, none⟩)⟩, ⟨81, [], pt d⟩, ⟨1, [], pt x⟩, ⟨5, [], pt b1⟩, ⟨7, [], .slice a6 o.b.size cap7⟩, ⟨8, [], .int .i64 0⟩, ⟨9, [], .int .i64 0⟩]) 2 (by kernel_rfl) (fun w h => (Sat.dropMid (K := [_, _]) (A := r0.G x N) (L := H) (Sat.dropMid (K := [_, _]) (A := s0.G d M) (L := (r0.G x N ++ H)) ((h.front (j := 1) rfl).front (j := 1) rfl)))) ?_ ?_
              ·
                refine GL_load (i := 2) (ch := []) (b := b1) (off := 1) (v := .string o.path) rfl rfl (by kernel_rfl) (by kernel_rfl) (by kernel_rfl) (by kernel_rfl) (by kernel_rfl) (At.grp 1 0 rfl rfl) rfl ?_
                exact GL_yend (by kernel_rfl) (by kernel_rfl)
              refine GH_pure (E' := [⟨85, [], pt x⟩, ⟨83, [], .string o.path⟩, ⟨81, [], pt d⟩, ⟨5, [], pt b1⟩, ⟨7, [], .slice a6 o.b.size cap7⟩, ⟨8, [], .int .i64 0⟩, ⟨9, [], .int .i64 0⟩]) 4 0 (by kernel_rfl) (fun w h => (Sat.dropMid (K := [_, _]) (A := r0.G x N) (L := H) (Sat.dropMid (K := [_, _]) (A := s0.G d M) (L := (r0.G x N ++ H)) ((h.front (j := 1) rfl).front (j := 1) rfl)))) (by kernel_rfl) ?_
              refine GH_pure (E' := [⟨86, [], .pointer (some ⟨b1, 1, none⟩)⟩, ⟨85, [], pt x⟩, ⟨83, [], .string o.path⟩, ⟨81, [], pt d⟩, ⟨7, [], .slice a6 o.b.size cap7⟩, ⟨8, [], .int .i64 0⟩, ⟨9, [], .int .i64 0⟩]) 5 0 (by kernel_rfl) (fun w h => (Sat.dropMid (K := [_, _]) (A := r0.G x N) (L := H) (Sat.dropMid (K := [_, _]) (A := s0.G d M) (L := (r0.G x N ++ H)) ((h.front (j := 1) rfl).front (j := 1) rfl)))) (by kernel_rfl) ?_
              refine GH_take' (E' := [⟨87, [], .string o.path⟩, ⟨86, [], .pointer (some ⟨b1, 1, none⟩)⟩, ⟨85, [], pt x⟩, ⟨83, [], .string o.path⟩, ⟨81, [], pt d⟩, ⟨7, [], .slice a6 o.b.size cap7⟩, ⟨8, [], .int .i64 0⟩, ⟨9, [], .int .i64 0⟩]) 6 (by kernel_rfl) (fun w h => (Sat.dropMid (K := [_, _]) (A := r0.G x N) (L := H) (Sat.dropMid (K := [_, _]) (A := s0.G d M) (L := (r0.G x N ++ H)) ((h.front (j := 1) rfl).front (j := 1) rfl)))) ?_ ?_
              ·
                refine GL_load (i := 6) (ch := []) (b := b1) (off := 1) (v := .string o.path) rfl rfl (by kernel_rfl) (by kernel_rfl) (by kernel_rfl) (by kernel_rfl) (by kernel_rfl) (At.grp 1 0 rfl rfl) rfl ?_
                exact GL_yend (by kernel_rfl) (by kernel_rfl)
              refine GH_eff 3 (by kernel_rfl) (by kernel_rfl) (by kernel_rfl) ?_
              refine GL_call (i := 3) (ch := []) (f := 14) (fst := #[]) (caps := #[]) (vs := [pt d, .string o.path]) rfl rfl rfl (by kernel_rfl) (by kernel_rfl) Try.func14 rfl rfl (by kernel_rfl) (by kernel_rfl) (chSure_of (by kernel_rfl)) (dSync hs0 hM d o.path hO.path [g4, [(b1, .cells #[.int .i64 o.kind, .string o.path, .string o.to, .slice o.ba o.b.size o.bc, .int .i64 o.n, .slice o.ka o.k.length o.kc] 41 (0, 0))]] _ (r0.G x N ++ H) rfl) ?_
              rintro v H' ⟨rfl, s9, hs9, rfl⟩
              refine GH_back (by kernel_rfl) (fun w h => (Sat.dropMid (K := [_, _]) (A := r0.G x N) (L := H) (Sat.dropMid (K := [_, _]) (A := s9.G d (syncM M o.path).2) (L := (r0.G x N ++ H)) ((h.front (j := 1) rfl).front (j := 1) rfl)))) ?_
              refine GH_eff 7 (by kernel_rfl) (by kernel_rfl) (by kernel_rfl) ?_
              refine GL_call (i := 7) (ch := []) (f := 50) (fst := #[]) (caps := #[]) (vs := [pt x, .string o.path]) rfl rfl rfl (by kernel_rfl) (by kernel_rfl) Try.func50 rfl rfl (by kernel_rfl) (by kernel_rfl) (chSure_of (by kernel_rfl)) (is_front2 (K := [g4, [(b1, .cells #[.int .i64 o.kind, .string o.path, .string o.to, .slice o.ba o.b.size o.bc, .int .i64 o.n, .slice o.ka o.k.length o.kc] 41 (0, 0))]]) (A := s9.G d (syncM M o.path).2) (rSync x r0 N hr0 hN o.path hO.path _ _)) ?_
              rintro v H' ⟨rfl, r10, hr10, rfl⟩
              refine GH_back (by kernel_rfl) (fun w h => (Sat.dropMid (K := [_, _]) (A := r10.G x (syncM N o.path).2) (L := H) (Sat.dropMid (K := [_, _]) (A := s9.G d (syncM M o.path).2) (L := (r10.G x (syncM N o.path).2 ++ H)) ((h.front (j := 1) rfl).front (j := 1) rfl)))) ?_
              refine GH_pure (E' := [⟨8, [], .int .i64 ((syncM M o.path).1)⟩, ⟨88, [], .int .i64 ((syncM N o.path).1)⟩, ⟨7, [], .slice a6 o.b.size cap7⟩, ⟨9, [], .int .i64 0⟩]) 8 0 (by kernel_rfl) (fun w h => (Sat.dropMid (K := [_, _]) (A := r10.G x (syncM N o.path).2) (L := H) (Sat.dropMid (K := [_, _]) (A := s9.G d (syncM M o.path).2) (L := (r10.G x (syncM N o.path).2 ++ H)) ((h.front (j := 1) rfl).front (j := 1) rfl)))) (by kernel_rfl) ?_
              refine GH_pure (E' := [⟨9, [], .int .i64 ((syncM N o.path).1)⟩, ⟨8, [], .int .i64 ((syncM M o.path).1)⟩, ⟨7, [], .slice a6 o.b.size cap7⟩]) 9 0 (by kernel_rfl) (fun w h => (Sat.dropMid (K := [_, _]) (A := r10.G x (syncM N o.path).2) (L := H) (Sat.dropMid (K := [_, _]) (A := s9.G d (syncM M o.path).2) (L := (r10.G x (syncM N o.path).2 ++ H)) ((h.front (j := 1) rfl).front (j := 1) rfl)))) (by kernel_rfl) ?_
              refine GH_done (E' := [⟨7, [], .slice a6 o.b.size cap7⟩, ⟨8, [], .int .i64 ((syncM M o.path).1)⟩, ⟨9, [], .int .i64 ((syncM N o.path).1)⟩]) [7, 8, 9] (by kernel_rfl) (by kernel_rfl) ?_
              refine N_join (s9, r10, (syncM M o.path).2, (syncM N o.path).2, (syncM M o.path).1, (syncM N o.path).1) [7, 8, 9] (by kernel_rfl) (fun w h => ((h.front (j := 1) rfl).front (j := 1) rfl)) ⟨hs9, hr10, (by unfold doM; rw [if_neg hk0, if_neg hk1, if_neg hk2, if_neg hk3, if_pos hk4]), (by unfold doM; rw [if_neg hk0, if_neg hk1, if_neg hk2, if_neg hk3, if_pos hk4])⟩
            ·
              have hk4 : ¬ kindU o = 4 := by simpa [kindU] using hc14
              refine G_seq ?_
              refine G_pure (E' := [⟨0, [], pt d⟩, ⟨1, [], pt x⟩, ⟨5, [], pt b1⟩, ⟨7, [], .slice a6 o.b.size cap7⟩, ⟨8, [], .int .i64 0⟩, ⟨9, [], .int .i64 0⟩, ⟨18, [], .int .u64 (Int.tmod (IntKind.wrap .u64 o.kind) 8)⟩, ⟨89, [], .bool ((Int.tmod (IntKind.wrap .u64 o.kind) 8) == 5)⟩]) [0, 0] [0, 1, 5, 7, 8, 9, 18, 89] rfl (by kernel_rfl) ?_
              refine N_then ?_
              refine G_cond (b := (Int.tmod (IntKind.wrap .u64 o.kind) 8) == 5) (by kernel_rfl) (fun hc15 => ?_) (fun hc15 => ?_)
              ·
                have hk5 : kindU o = 5 := by simpa [kindU] using hc15
                -- L k5
                refine G_regionH (g4 :: [(b1, .cells #[.int .i64 o.kind, .string o.path, .string o.to, .slice o.ba o.b.size o.bc, .int .i64 o.n, .slice o.ka o.k.length o.kc] 41 (0, 0))] :: H) (by kernel_rfl) ?_
                refine GH_pure (E' := [⟨91, [], pt d⟩, ⟨1, [], pt x⟩, ⟨5, [], pt b1⟩, ⟨7, [], .slice a6 o.b.size cap7⟩, ⟨8, [], .int .i64 0⟩, ⟨9, [], .int .i64 0⟩]) 0 0 (by kernel_rfl) (fun w h => (Sat.dropMid (K := [_, _]) (A := r0.G x N) (L := H) (Sat.dropMid (K := [_, _]) (A := s0.G d M) (L := (r0.G x N ++ H)) ((h.front (j := 1) rfl).front (j := 1) rfl)))) (by kernel_rfl) ?_
                refine GH_pure (E' := [⟨92, [], .pointer (some ⟨b1, 1, none⟩)⟩, ⟨91, [], pt d⟩, ⟨1, [], pt x⟩, ⟨5, [], pt b1⟩, ⟨7, [], .slice a6 o.b.size cap7⟩, ⟨8, [], .int .i64 0⟩, ⟨9, [], .int .i64 0⟩]) 1 0 (by kernel_rfl) (fun w h => (Sat.dropMid (K := [_, _]) (A := r0.G x N) (L := H) (Sat.dropMid (K := [_, _]) (A := s0.G d M) (L := (r0.G x N ++ H)) ((h.front (j := 1) rfl).front (j := 1) rfl)))) (by kernel_rfl) ?_
                refine GH_take' (E' := [⟨93, [], .string o.path⟩, ⟨92, [], .pointer (some ⟨b1, 1, none⟩)⟩, ⟨91, [], pt d⟩, ⟨1, [], pt x⟩, ⟨5, [], pt b1⟩, ⟨7, [], .slice a6 o.b.size cap7⟩, ⟨8, [], .int .i64 0⟩, ⟨9, [], .int .i64 0⟩]) 2 (by kernel_rfl) (fun w h => (Sat.dropMid (K := [_, _]) (A := r0.G x N) (L := H) (Sat.dropMid (K := [_, _]) (A := s0.G d M) (L := (r0.G x N ++ H)) ((h.front (j := 1) rfl).front (j := 1) rfl)))) ?_ ?_
                ·
                  refine GL_load (i := 2) (ch := []) (b := b1) (off := 1) (v := .string o.path) rfl rfl (by kernel_rfl) (by kernel_rfl) (by kernel_rfl) (by kernel_rfl) (by kernel_rfl) (At.grp 1 0 rfl rfl) rfl ?_
                  exact GL_yend (by kernel_rfl) (by kernel_rfl)
                refine GH_pure (E' := [⟨95, [], pt x⟩, ⟨93, [], .string o.path⟩, ⟨91, [], pt d⟩, ⟨5, [], pt b1⟩, ⟨7, [], .slice a6 o.b.size cap7⟩, ⟨8, [], .int .i64 0⟩, ⟨9, [], .int .i64 0⟩]) 4 0 (by kernel_rfl) (fun w h => (Sat.dropMid (K := [_, _]) (A := r0.G x N) (L := H) (Sat.dropMid (K := [_, _]) (A := s0.G d M) (L := (r0.G x N ++ H)) ((h.front (j := 1) rfl).front (j := 1) rfl)))) (by kernel_rfl) ?_
                refine GH_pure (E' := [⟨96, [], .pointer (some ⟨b1, 1, none⟩)⟩, ⟨95, [], pt x⟩, ⟨93, [], .string o.path⟩, ⟨91, [], pt d⟩, ⟨7, [], .slice a6 o.b.size cap7⟩, ⟨8, [], .int .i64 0⟩, ⟨9, [], .int .i64 0⟩]) 5 0 (by kernel_rfl) (fun w h => (Sat.dropMid (K := [_, _]) (A := r0.G x N) (L := H) (Sat.dropMid (K := [_, _]) (A := s0.G d M) (L := (r0.G x N ++ H)) ((h.front (j := 1) rfl).front (j := 1) rfl)))) (by kernel_rfl) ?_
                refine GH_take' (E' := [⟨97, [], .string o.path⟩, ⟨96, [], .pointer (some ⟨b1, 1, none⟩)⟩, ⟨95, [], pt x⟩, ⟨93, [], .string o.path⟩, ⟨91, [], pt d⟩, ⟨7, [], .slice a6 o.b.size cap7⟩, ⟨8, [], .int .i64 0⟩, ⟨9, [], .int .i64 0⟩]) 6 (by kernel_rfl) (fun w h => (Sat.dropMid (K := [_, _]) (A := r0.G x N) (L := H) (Sat.dropMid (K := [_, _]) (A := s0.G d M) (L := (r0.G x N ++ H)) ((h.front (j := 1) rfl).front (j := 1) rfl)))) ?_ ?_
                ·
                  refine GL_load (i := 6) (ch := []) (b := b1) (off := 1) (v := .string o.path) rfl rfl (by kernel_rfl) (by kernel_rfl) (by kernel_rfl) (by kernel_rfl) (by kernel_rfl) (At.grp 1 0 rfl rfl) rfl ?_
                  exact GL_yend (by kernel_rfl) (by kernel_rfl)
                refine GH_eff 3 (by kernel_rfl) (by kernel_rfl) (by kernel_rfl) ?_
                refine GL_call (i := 3) (ch := []) (f := 15) (fst := #[]) (caps := #[]) (vs := [pt d, .string o.path]) rfl rfl rfl (by kernel_rfl) (by kernel_rfl) Try.func15 rfl rfl (by kernel_rfl) (by kernel_rfl) (chSure_of (by kernel_rfl)) (dSyncDir hs0 hM d o.path hO.path [g4, [(b1, .cells #[.int .i64 o.kind, .string o.path, .string o.to, .slice o.ba o.b.size o.bc, .int .i64 o.n, .slice o.ka o.k.length o.kc] 41 (0, 0))]] _ (r0.G x N ++ H) rfl) ?_
                rintro v H' ⟨rfl, s11, hs11, rfl⟩
                refine GH_back (by kernel_rfl) (fun w h => (Sat.dropMid (K := [_, _]) (A := r0.G x N) (L := H) (Sat.dropMid (K := [_, _]) (A := s11.G d (syncDirM M o.path).2) (L := (r0.G x N ++ H)) ((h.front (j := 1) rfl).front (j := 1) rfl)))) ?_
                refine GH_eff 7 (by kernel_rfl) (by kernel_rfl) (by kernel_rfl) ?_
                refine GL_call (i := 7) (ch := []) (f := 51) (fst := #[]) (caps := #[]) (vs := [pt x, .string o.path]) rfl rfl rfl (by kernel_rfl) (by kernel_rfl) Try.func51 rfl rfl (by kernel_rfl) (by kernel_rfl) (chSure_of (by kernel_rfl)) (is_front2 (K := [g4, [(b1, .cells #[.int .i64 o.kind, .string o.path, .string o.to, .slice o.ba o.b.size o.bc, .int .i64 o.n, .slice o.ka o.k.length o.kc] 41 (0, 0))]]) (A := s11.G d (syncDirM M o.path).2) (rSyncDir x r0 N hr0 hN o.path hO.path _ _)) ?_
                rintro v H' ⟨rfl, r12, hr12, rfl⟩
                refine GH_back (by kernel_rfl) (fun w h => (Sat.dropMid (K := [_, _]) (A := r12.G x (syncDirM N o.path).2) (L := H) (Sat.dropMid (K := [_, _]) (A := s11.G d (syncDirM M o.path).2) (L := (r12.G x (syncDirM N o.path).2 ++ H)) ((h.front (j := 1) rfl).front (j := 1) rfl)))) ?_
                refine GH_pure (E' := [⟨8, [], .int .i64 ((syncDirM M o.path).1)⟩, ⟨98, [], .int .i64 ((syncDirM N o.path).1)⟩, ⟨7, [], .slice a6 o.b.size cap7⟩, ⟨9, [], .int .i64 0⟩]) 8 0 (by kernel_rfl) (fun w h => (Sat.dropMid (K := [_, _]) (A := r12.G x (syncDirM N o.path).2) (L := H) (Sat.dropMid (K := [_, _]) (A := s11.G d (syncDirM M o.path).2) (L := (r12.G x (syncDirM N o.path).2 ++ H)) ((h.front (j := 1) rfl).front (j := 1) rfl)))) (by kernel_rfl) ?_
                refine GH_pure (E' := [⟨9, [], .int .i64 ((syncDirM N o.path).1)⟩, ⟨8, [], .int .i64 ((syncDirM M o.path).1)⟩, ⟨7, [], .slice a6 o.b.size cap7⟩]) 9 0 (by kernel_rfl) (fun w h => (Sat.dropMid (K := [_, _]) (A := r12.G x (syncDirM N o.path).2) (L := H) (Sat.dropMid (K := [_, _]) (A := s11.G d (syncDirM M o.path).2) (L := (r12.G x (syncDirM N o.path).2 ++ H)) ((h.front (j := 1) rfl).front (j := 1) rfl)))) (by kernel_rfl) ?_
                refine GH_done (E' := [⟨7, [], .slice a6 o.b.size cap7⟩, ⟨8, [], .int .i64 ((syncDirM M o.path).1)⟩, ⟨9, [], .int .i64 ((syncDirM N o.path).1)⟩]) [7, 8, 9] (by kernel_rfl) (by kernel_rfl) ?_
                refine N_join (s11, r12, (syncDirM M o.path).2, (syncDirM N o.path).2, (syncDirM M o.path).1, (syncDirM N o.path).1) [7, 8, 9] (by kernel_rfl) (fun w h => ((h.front (j := 1) rfl).front (j := 1) rfl)) ⟨hs11, hr12, (by unfold doM; rw [if_neg hk0, if_neg hk1, if_neg hk2, if_neg hk3, if_neg hk4, if_pos hk5]), (by unfold doM; rw [if_neg hk0, if_neg hk1, if_neg hk2, if_neg hk3, if_neg hk4, if_pos hk5])⟩
              ·
                have hk5 : ¬ kindU o = 5 := by simpa [kindU] using hc15
                refine G_seq ?_
                refine G_pure (E' := [⟨0, [], pt d⟩, ⟨1, [], pt x⟩, ⟨5, [], pt b1⟩, ⟨7, [], .slice a6 o.b.size cap7⟩, ⟨8, [], .int .i64 0⟩, ⟨9, [], .int .i64 0⟩, ⟨99, [], .bool ((Int.tmod (IntKind.wrap .u64 o.kind) 8) == 6)⟩]) [0, 0] [0, 1, 5, 7, 8, 9, 99] rfl (by kernel_rfl) ?_
                refine N_then ?_
                refine G_cond (b := (Int.tmod (IntKind.wrap .u64 o.kind) 8) == 6) (by kernel_rfl) (fun hc16 => ?_) (fun hc16 => ?_)
                ·
                  have hk6 : kindU o = 6 := by simpa [kindU] using hc16
                  -- L k6
                  refine G_seq ?_
                  refine G_region ?_
                  refine GL_pure (E' := [⟨102, [], .pointer (some ⟨b1, 4, none⟩)⟩, ⟨101, [], pt d⟩, ⟨1, [], pt x⟩, ⟨5, [], pt b1⟩, ⟨7, [], .slice a6 o.b.size cap7⟩, ⟨8, [], .int .i64 0⟩, ⟨9, [], .int .i64 0⟩]) [0, 0] (by kernel_rfl) (j := 2) rfl ?_
                  refine GL_load (i := 2) (ch := []) (b := b1) (off := 4) (v := .int .i64 o.n) rfl rfl (by kernel_rfl) (by kernel_rfl) (by kernel_rfl) (by kernel_rfl) (by kernel_rfl) (At.grp 1 0 rfl rfl) rfl ?_
                  refine GL_pure (E' := [⟨104, [], .pointer (some ⟨b1, 3, none⟩)⟩, ⟨103, [], .int .i64 o.n⟩, ⟨101, [], pt d⟩, ⟨1, [], pt x⟩, ⟨5, [], pt b1⟩, ⟨7, [], .slice a6 o.b.size cap7⟩, ⟨8, [], .int .i64 0⟩, ⟨9, [], .int .i64 0⟩]) [0] (by kernel_rfl) (j := 4) rfl ?_
                  refine GL_load (i := 4) (ch := []) (b := b1) (off := 3) (v := .slice o.ba o.b.size o.bc) rfl rfl (by kernel_rfl) (by kernel_rfl) (by kernel_rfl) (by kernel_rfl) (by kernel_rfl) (At.grp 1 0 rfl rfl) rfl ?_
                  refine GL_pure (E' := [⟨107, [], .bool (decide (((o.b.size : Nat) : Int) > 0))⟩, ⟨103, [], .int .i64 o.n⟩, ⟨101, [], pt d⟩, ⟨1, [], pt x⟩, ⟨5, [], pt b1⟩, ⟨7, [], .slice a6 o.b.size cap7⟩, ⟨8, [], .int .i64 0⟩, ⟨9, [], .int .i64 0⟩]) [0, 0] (by kernel_rfl) (j := 7) rfl ?_
                  refine GL_call (i := 7) (ch := []) (f := 16) (fst := #[]) (caps := #[]) (vs := [pt d, .int .i64 o.n, .bool (decide (((o.b.size : Nat) : Int) > 0))]) rfl rfl rfl (by kernel_rfl) (by kernel_rfl) Try.func16 rfl rfl (by kernel_rfl) (by kernel_rfl) (chSure_of (by kernel_rfl)) (dFail hs0 d o.n (decide (((o.b.size : Nat) : Int) > 0)) [g4, [(b1, .cells #[.int .i64 o.kind, .string o.path, .string o.to, .slice o.ba o.b.size o.bc, .int .i64 o.n, .slice o.ka o.k.length o.kc] 41 (0, 0))]] _ (r0.G x N ++ H) rfl) ?_
                  rintro v H' ⟨rfl, s13, hs13, rfl⟩
                  refine GL_fin (E' := [⟨1, [], pt x⟩, ⟨5, [], pt b1⟩, ⟨7, [], .slice a6 o.b.size cap7⟩, ⟨8, [], .int .i64 0⟩, ⟨9, [], .int .i64 0⟩]) [] [1, 5, 7, 8, 9] rfl (by kernel_rfl) ?_
                  refine N_then ?_
                  refine G_region ?_
                  refine GL_pure (E' := [⟨110, [], .pointer (some ⟨b1, 4, none⟩)⟩, ⟨109, [], pt x⟩, ⟨5, [], pt b1⟩, ⟨7, [], .slice a6 o.b.size cap7⟩, ⟨8, [], .int .i64 0⟩, ⟨9, [], .int .i64 0⟩]) [0, 0] (by kernel_rfl) (j := 2) rfl ?_
                  refine GL_load (i := 2) (ch := []) (b := b1) (off := 4) (v := .int .i64 o.n) rfl rfl (by kernel_rfl) (by kernel_rfl) (by kernel_rfl) (by kernel_rfl) (by kernel_rfl) (At.grp 1 0 rfl rfl) rfl ?_
                  refine GL_pure (E' := [⟨112, [], .pointer (some ⟨b1, 3, none⟩)⟩, ⟨111, [], .int .i64 o.n⟩, ⟨109, [], pt x⟩, ⟨7, [], .slice a6 o.b.size cap7⟩, ⟨8, [], .int .i64 0⟩, ⟨9, [], .int .i64 0⟩]) [0] (by kernel_rfl) (j := 4) rfl ?_
                  refine GL_load (i := 4) (ch := []) (b := b1) (off := 3) (v := .slice o.ba o.b.size o.bc) rfl rfl (by kernel_rfl) (by kernel_rfl) (by kernel_rfl) (by kernel_rfl) (by kernel_rfl) (At.grp 1 0 rfl rfl) rfl ?_
                  refine GL_pure (E' := [⟨115, [], .bool (decide (((o.b.size : Nat) : Int) > 0))⟩, ⟨111, [], .int .i64 o.n⟩, ⟨109, [], pt x⟩, ⟨7, [], .slice a6 o.b.size cap7⟩, ⟨8, [], .int .i64 0⟩, ⟨9, [], .int .i64 0⟩]) [0, 0] (by kernel_rfl) (j := 7) rfl ?_
                  refine GL_call (i := 7) (ch := []) (f := 52) (fst := #[]) (caps := #[]) (vs := [pt x, .int .i64 o.n, .bool (decide (((o.b.size : Nat) : Int) > 0))]) rfl rfl rfl (by kernel_rfl) (by kernel_rfl) Try.func52 rfl rfl (by kernel_rfl) (by kernel_rfl) (chSure_of (by kernel_rfl)) (is_front2 (K := [g4, [(b1, .cells #[.int .i64 o.kind, .string o.path, .string o.to, .slice o.ba o.b.size o.bc, .int .i64 o.n, .slice o.ka o.k.length o.kc] 41 (0, 0))]]) (A := s13.G d (failM M o.n (decide (((o.b.size : Nat) : Int) > 0)))) (rFail x r0 N hr0 o.n (decide (((o.b.size : Nat) : Int) > 0)) _ _)) ?_
                  rintro v H' ⟨rfl, r14, hr14, rfl⟩
                  refine GL_fin (E' := [⟨7, [], .slice a6 o.b.size cap7⟩, ⟨8, [], .int .i64 0⟩, ⟨9, [], .int .i64 0⟩]) [] [7, 8, 9] rfl (by kernel_rfl) ?_
                  refine N_join (s13, r14, (failM M o.n (decide (((o.b.size : Nat) : Int) > 0))), (failM N o.n (decide (((o.b.size : Nat) : Int) > 0))), 0, 0) [7, 8, 9] (by kernel_rfl) (fun w h => ((h.front (j := 1) rfl).front (j := 1) rfl)) ⟨hs13, hr14, (by unfold doM; rw [if_neg hk0, if_neg hk1, if_neg hk2, if_neg hk3, if_neg hk4, if_neg hk5, if_pos hk6]), (by unfold doM; rw [if_neg hk0, if_neg hk1, if_neg hk2, if_neg hk3, if_neg hk4, if_neg hk5, if_pos hk6])⟩
                ·
                  have hk6 : ¬ kindU o = 6 := by simpa [kindU] using hc16
                  refine G_seq ?_
                  refine G_region ?_
                  refine GL_pure (E' := [⟨20, [], .pointer (some ⟨b1, 5, none⟩)⟩, ⟨19, [], pt d⟩, ⟨1, [], pt x⟩, ⟨5, [], pt b1⟩, ⟨7, [], .slice a6 o.b.size cap7⟩, ⟨8, [], .int .i64 0⟩, ⟨9, [], .int .i64 0⟩]) [0, 0] (by kernel_rfl) (j := 2) rfl ?_
                  refine GL_load (i := 2) (ch := []) (b := b1) (off := 5) (v := .slice o.ka o.k.length o.kc) rfl rfl (by kernel_rfl) (by kernel_rfl) (by kernel_rfl) (by kernel_rfl) (by kernel_rfl) (At.grp 1 0 rfl rfl) rfl ?_
                  refine GL_call (i := 3) (ch := []) (f := 18) (fst := #[]) (caps := #[]) (vs := [pt d, .slice o.ka o.k.length o.kc]) rfl rfl rfl (by kernel_rfl) (by kernel_rfl) Try.func18 rfl rfl (by kernel_rfl) (by kernel_rfl) (chSure_of (by kernel_rfl)) (dCrash (M' := (crashM M o.k)) hs0 hM d o.k o.ka o.kc S ⟨hO.k, hO.kc, hk, hO.ki⟩ [g4, [(b1, .cells #[.int .i64 o.kind, .string o.path, .string o.to, .slice o.ba o.b.size o.bc, .int .i64 o.n, .slice o.ka o.k.length o.kc] 41 (0, 0))]] _ (r0.G x N ++ H) (fun y o h => at_up (hO.at_ y o h)) rfl) ?_
                  rintro v H' ⟨rfl, s15, hs15, rfl⟩
                  refine GL_fin (E' := [⟨1, [], pt x⟩, ⟨5, [], pt b1⟩, ⟨7, [], .slice a6 o.b.size cap7⟩, ⟨8, [], .int .i64 0⟩, ⟨9, [], .int .i64 0⟩]) [] [1, 5, 7, 8, 9] rfl (by kernel_rfl) ?_
                  refine N_then ?_
                  refine G_region ?_
                  refine GL_pure (E' := [⟨24, [], .pointer (some ⟨b1, 5, none⟩)⟩, ⟨23, [], pt x⟩, ⟨7, [], .slice a6 o.b.size cap7⟩, ⟨8, [], .int .i64 0⟩, ⟨9, [], .int .i64 0⟩]) [0, 0] (by kernel_rfl) (j := 2) rfl ?_
                  refine GL_load (i := 2) (ch := []) (b := b1) (off := 5) (v := .slice o.ka o.k.length o.kc) rfl rfl (by kernel_rfl) (by kernel_rfl) (by kernel_rfl) (by kernel_rfl) (by kernel_rfl) (At.grp 1 0 rfl rfl) rfl ?_
                  refine GL_call (i := 3) (ch := []) (f := 53) (fst := #[]) (caps := #[]) (vs := [pt x, .slice o.ka o.k.length o.kc]) rfl rfl rfl (by kernel_rfl) (by kernel_rfl) Try.func53 rfl rfl (by kernel_rfl) (by kernel_rfl) (chSure_of (by kernel_rfl)) (is_front2 (K := [g4, [(b1, .cells #[.int .i64 o.kind, .string o.path, .string o.to, .slice o.ba o.b.size o.bc, .int .i64 o.n, .slice o.ka o.k.length o.kc] 41 (0, 0))]]) (A := s15.G d (crashM M o.k)) (rCrash x r0 N hr0 hN o.k o.ka o.kc S _ _ hO.k hO.ki (fun y o h => at_up (hO.at_ y o h)))) ?_
                  rintro v H' ⟨rfl, r16, hr16, rfl⟩
                  refine GL_fin (E' := [⟨7, [], .slice a6 o.b.size cap7⟩, ⟨8, [], .int .i64 0⟩, ⟨9, [], .int .i64 0⟩]) [] [7, 8, 9] rfl (by kernel_rfl) ?_
                  refine N_join (s15, r16, (crashM M o.k), (crashM N o.k), 0, 0) [7, 8, 9] (by kernel_rfl) (fun w h => ((h.front (j := 1) rfl).front (j := 1) rfl)) ⟨hs15, hr16, (by unfold doM; rw [if_neg hk0, if_neg hk1, if_neg hk2, if_neg hk3, if_neg hk4, if_neg hk5, if_neg hk6]), (by unfold doM; rw [if_neg hk0, if_neg hk1, if_neg hk2, if_neg hk3, if_neg hk4, if_neg hk5, if_neg hk6])⟩
  ·
    rintro ⟨sJ, rJ, MJ, NJ, eJ, fJ⟩ ⟨hsJ, hrJ, hdM, hdN⟩
    refine N_block ?_
    refine N_then ?_
    refine G_seq ?_
    refine G_seq ?_
    refine G_pure (E' := [⟨7, [], .slice a6 o.b.size cap7⟩, ⟨8, [], .int .i64 eJ⟩, ⟨9, [], .int .i64 fJ⟩, ⟨118, [], .int .i64 ((o.b.size : Nat) : Int)⟩, ⟨119, [], .int .i64 0⟩]) [0, 0, 0] [7, 8, 9, 118, 119] rfl (by kernel_rfl) ?_
    refine N_then ?_
    refine G_block ?_
    refine G_heap (H' := (g4 :: [(b1, .cells #[.int .i64 o.kind, .string o.path, .string o.to, .slice o.ba o.b.size o.bc, .int .i64 o.n, .slice o.ka o.k.length o.kc] 41 (0, 0))] :: (sJ.G d MJ ++ (rJ.G x NJ ++ H)))) (fun w h => ((h.front (j := 1) rfl).front (j := 1) rfl)) ?_
    refine G_loop (EI := (fun ξ : Nat × List Int × Grp => [⟨7, [], .slice a6 o.b.size cap7⟩, ⟨8, [], .int .i64 eJ⟩, ⟨9, [], .int .i64 fJ⟩, ⟨118, [], .int .i64 ((o.b.size : Nat) : Int)⟩, ⟨119, [], .int .i64 ((ξ.1 : Nat) : Int)⟩])) (HI := (fun ξ : Nat × List Int × Grp => (ξ.2.2 :: [(b1, .cells #[.int .i64 o.kind, .string o.path, .string o.to, .slice o.ba o.b.size o.bc, .int .i64 o.n, .slice o.ka o.k.length o.kc] 41 (0, 0))] :: (sJ.G d MJ ++ (rJ.G x NJ ++ H))))) (Φ := (fun ξ : Nat × List Int × Grp => (ξ.1 ≤ o.b.size) ∧ (ξ.2.1.length = o.b.size) ∧ (Own 5 1 (.slice a6 o.b.size cap7) ξ.2.2 o.b.size (ξ.2.1.map (Value.int .u8))))) (μ := (fun ξ : Nat × List Int × Grp => o.b.size - ξ.1)) (s0 := (0, (o.b.data.toList.map fun b => (b.toNat : Int)), g4)) [7, 8, 9, 118, 119] (by kernel_rfl) rfl ⟨(by omega), (by show (List.map _ _).length = _; rw [List.length_map]; exact Array.length_toList), (own_z hO5)⟩ ?_
    rintro ⟨k17, z18, gz19⟩ ⟨hk17, hlz18, hz20⟩
    replace hk17 : k17 ≤ o.b.size := hk17
    replace hlz18 : z18.length = o.b.size := hlz18
    replace hz20 : Own 5 1 (.slice a6 o.b.size cap7) gz19 o.b.size (z18.map (Value.int .u8)) := hz20
    refine G_seq ?_
    refine G_pure (E' := [⟨7, [], .slice a6 o.b.size cap7⟩, ⟨8, [], .int .i64 eJ⟩, ⟨9, [], .int .i64 fJ⟩, ⟨118, [], .int .i64 ((o.b.size : Nat) : Int)⟩, ⟨119, [], .int .i64 ((k17 : Nat) : Int)⟩, ⟨120, [], .bool (decide (((k17 : Nat) : Int) < ((o.b.size : Nat) : Int)))⟩]) [0] [7, 8, 9, 118, 119, 120] rfl (by kernel_rfl) ?_
    refine N_then ?_
    refine G_seq ?_
    refine G_cond (b := decide (((k17 : Nat) : Int) < ((o.b.size : Nat) : Int))) (by kernel_rfl) (fun hc21 => ?_) (fun hc21 => ?_)
    ·
      replace hc21 := of_decide_eq_true hc21
      refine G_skip ?_
      refine N_then ?_
      refine G_seq ?_
      refine G_block ?_
      refine G_seq ?_
      refine G_pure (E' := [⟨7, [], .slice a6 o.b.size cap7⟩, ⟨8, [], .int .i64 eJ⟩, ⟨9, [], .int .i64 fJ⟩, ⟨10, [], .int .i64 ((k17 : Nat) : Int)⟩, ⟨118, [], .int .i64 ((o.b.size : Nat) : Int)⟩, ⟨119, [], .int .i64 ((k17 : Nat) : Int)⟩]) [0, 0] [7, 8, 9, 10, 118, 119] rfl (by kernel_rfl) ?_
      refine N_then ?_
      refine G_region ?_
      refine GL_pure (E' := [⟨123, [], .int .i64 ((k17 : Nat) : Int)⟩, ⟨122, [], .slice a6 o.b.size cap7⟩, ⟨7, [], .slice a6 o.b.size cap7⟩, ⟨8, [], .int .i64 eJ⟩, ⟨9, [], .int .i64 fJ⟩, ⟨118, [], .int .i64 ((o.b.size : Nat) : Int)⟩, ⟨119, [], .int .i64 ((k17 : Nat) : Int)⟩]) [0, 0] (by kernel_rfl) (j := 2) rfl ?_
      refine GL_indexAddr (i := 2) (ch := []) (a := a6) (len := o.b.size) (cap := cap7) (kd := .i64) (j := ((k17 : Nat) : Int)) (e := 5) (sz := 1) (S := (inG gz19)) (cs := (z18.map (Value.int .u8))) rfl rfl (by kernel_rfl) (by kernel_rfl) (by kernel_rfl) (by kernel_rfl) (by kernel_rfl) (by kernel_rfl) (by kernel_rfl) (own_rd hz20) (fun _ => by exact ⟨by omega, by omega, zs_ne (k := 0) (by omega)⟩) ?_
      refine GL_loadS (i := 3) (ch := []) (a := a6) (q := k17 * 1) (S := (inG gz19)) (cs := (z18.map (Value.int .u8))) (v := .int .u8 (z18.getD k17 0)) rfl rfl (by kernel_rfl) (by kernel_rfl) (by kernel_rfl) (by kernel_rfl) (by kernel_rfl) (own_rd hz20) (at_inG 0 rfl) (fun _ => (by rw [Nat.mul_one]; exact zs_at (by omega))) ?_
      refine GL_pure (E' := [⟨126, [], .int .u8 (IntKind.wrap .u8 ((BitVec.ofInt (IntKind.bits .u8) (z18.getD k17 0) ^^^ BitVec.ofInt (IntKind.bits .u8) 255).toNat))⟩, ⟨123, [], .int .i64 ((k17 : Nat) : Int)⟩, ⟨122, [], .slice a6 o.b.size cap7⟩, ⟨7, [], .slice a6 o.b.size cap7⟩, ⟨8, [], .int .i64 eJ⟩, ⟨9, [], .int .i64 fJ⟩, ⟨118, [], .int .i64 ((o.b.size : Nat) : Int)⟩, ⟨119, [], .int .i64 ((k17 : Nat) : Int)⟩]) [0] (by kernel_rfl) (j := 5) rfl ?_
      refine GL_indexAddr (i := 5) (ch := []) (a := a6) (len := o.b.size) (cap := cap7) (kd := .i64) (j := ((k17 : Nat) : Int)) (e := 5) (sz := 1) (S := (inG gz19)) (cs := (z18.map (Value.int .u8))) rfl rfl (by kernel_rfl) (by kernel_rfl) (by kernel_rfl) (by kernel_rfl) (by kernel_rfl) (by kernel_rfl) (by kernel_rfl) (own_rd hz20) (fun _ => by exact ⟨by omega, by omega, zs_ne (k := 0) (by omega)⟩) ?_
      refine GL_storeO (i := 6) (ch := []) (a := a6) (q := k17 * 1) (len := o.b.size) (cap := cap7) (v := .int .u8 (IntKind.wrap .u8 ((BitVec.ofInt (IntKind.bits .u8) (z18.getD k17 0) ^^^ BitVec.ofInt (IntKind.bits .u8) 255).toNat))) (g := gz19) (j := 0) (cs := (z18.map (Value.int .u8))) (cs' := ((z18.set k17 (IntKind.wrap .u8 ((BitVec.ofInt (IntKind.bits .u8) (z18.getD k17 0) ^^^ BitVec.ofInt (IntKind.bits .u8) 255).toNat))).map (Value.int .u8))) rfl rfl (by kernel_rfl) (by kernel_rfl) (by kernel_rfl) (by kernel_rfl) rfl (by kernel_rfl) (by kernel_rfl) (by kernel_rfl) rfl hz20 (by rw [List.length_map]; omega) (by rw [Nat.mul_one]; exact zs_set) (fun g22 hO23 => ?_)
      refine GL_fin (E' := [⟨7, [], .slice a6 o.b.size cap7⟩, ⟨8, [], .int .i64 eJ⟩, ⟨9, [], .int .i64 fJ⟩, ⟨118, [], .int .i64 ((o.b.size : Nat) : Int)⟩, ⟨119, [], .int .i64 ((k17 : Nat) : Int)⟩]) [] [7, 8, 9, 118, 119] rfl (by kernel_rfl) ?_
      refine N_block ?_
      refine N_then ?_
      have hw24 : IntKind.wrap .i64 (((k17 : Nat) : Int) + 1) = ((k17 : Nat) : Int) + 1 := w64 (by omega) (by omega)
      refine G_pure (E' := [⟨7, [], .slice a6 o.b.size cap7⟩, ⟨8, [], .int .i64 eJ⟩, ⟨9, [], .int .i64 fJ⟩, ⟨118, [], .int .i64 ((o.b.size : Nat) : Int)⟩, ⟨119, [], .int .i64 (((k17 : Nat) : Int) + 1)⟩]) [0, 0] [7, 8, 9, 118, 119] rfl (Eq.trans (b := some [⟨7, [], .slice a6 o.b.size cap7⟩, ⟨8, [], .int .i64 eJ⟩, ⟨9, [], .int .i64 fJ⟩, ⟨118, [], .int .i64 ((o.b.size : Nat) : Int)⟩, ⟨119, [], .int .i64 (IntKind.wrap .i64 (((k17 : Nat) : Int) + 1))⟩]) (by kernel_rfl) (by simp only [hw24])) ?_
      refine N_heap (H' := (g22 :: [(b1, .cells #[.int .i64 o.kind, .string o.path, .string o.to, .slice o.ba o.b.size o.bc, .int .i64 o.n, .slice o.ka o.k.length o.kc] 41 (0, 0))] :: (sJ.G d MJ ++ (rJ.G x NJ ++ H)))) (fun w h => ((h.front (j := 1) rfl).front (j := 1) rfl)) ?_
      refine N_heq (H' := (g22 :: [(b1, .cells #[.int .i64 o.kind, .string o.path, .string o.to, .slice o.ba o.b.size o.bc, .int .i64 o.n, .slice o.ka o.k.length o.kc] 41 (0, 0))] :: (sJ.G d MJ ++ (rJ.G x NJ ++ H)))) rfl ?_
      refine N_round (s' := (k17 + 1, (z18.set k17 (IntKind.wrap .u8 ((BitVec.ofInt (IntKind.bits .u8) (z18.getD k17 0) ^^^ BitVec.ofInt (IntKind.bits .u8) 255).toNat))), g22)) [7, 8, 9, 118, 119] (by kernel_rfl) rfl ⟨(by omega), (by show (List.set _ _ _).length = _; rw [List.length_set]; exact hlz18), hO23⟩ (by omega)
    ·
      replace hc21 := of_decide_eq_false hc21
      refine G_exit ?_
      refine N_then_exit ?_
      refine N_then_exit ?_
      refine N_block_exit ?_
      refine N_then ?_
      refine G_seq ?_
      refine G_pure (E' := [⟨6, [], .bool (eJ == fJ)⟩]) [0, 0, 0, 0] [6] rfl (by kernel_rfl) ?_
      refine N_then ?_
      refine G_ret ?_
      refine N_heap (H' := (gz19 :: (sJ.G d MJ ++ (rJ.G x NJ ++ H)))) (fun w h => h.erase 1) ?_
      refine N_heap (H' := (sJ.G d MJ ++ (rJ.G x NJ ++ H))) (fun w h => h.erase 0) ?_
      refine N_ret [.tmp 6] [.bool (eJ == fJ)] rfl (by kernel_rfl) rfl ?_
      rw [hdM, hdN]
      exact ⟨rfl, sJ, rJ, hsJ, hrJ, rfl⟩
end Go.Proofs.Ytbmieiffboenbaa
namespace Go.Vf
open Go.Sw Go.RowKit Go.Proofs Go.Proofs.Ytbmieiffboenbaa
theorem dDo {s : DS} {r : RS} {M N : DM} (hs : s.ok M) (hr : r.ok N) (hM : Small M) (hN : SmallR N) (d x : Nat) (S : Nat → Obj → Prop) (o : OpV) (hb : o.b.size ≤ 1000000000) (hk : o.k.length ≤ 1000000000) (K : List Grp) (W0 : World) (H : List Grp) (hO : OpOk S W0 [] o) :
    Tri Try.prog 24 #[pt d, pt x, .agg #[.int .i64 o.kind, .string o.path, .string o.to, .slice o.ba o.b.size o.bc, .int .i64 o.n, .slice o.ka o.k.length o.kc]] W0 (K ++ (s.G d M ++ (r.G x N ++ H)))
      (fun v H' => v = .bool ((doM M o).1 == (doM N o).1) ∧ ∃ (s1 : DS) (r1 : RS), s1.ok (doM M o).2 ∧ r1.ok (doM N o).2 ∧ H' = K ++ (s1.G d (doM M o).2 ++ (r1.G x (doM N o).2 ++ H))) := by
  refine Tri.heap (H' := s.G d M ++ (r.G x N ++ (K ++ H))) (fun _ hw => sat_cnt hw fun _ x => by simp only [List.flatten_append, List.count_append]; omega) (Tri.post (vDo d x s r M N hs hr hM hN S o hb hk W0 (K ++ H) hO) fun v H1 ⟨hv, s1, r1, h1, h2, hH⟩ => ⟨_, ⟨hv, s1, r1, h1, h2, rfl⟩, fun w hw => ?_⟩)
  rw [hH] at hw
  exact sat_cnt hw fun _ x => by simp only [List.flatten_append, List.count_append]; omega
theorem dDoX {s : DS} {r : RS} {M N : DM} (hs : s.ok M) (hr : r.ok N) (hM : Small M) (hN : SmallR N) (d x : Nat) (S : Nat → Obj → Prop) (o : OpV) (hb : o.b.size ≤ 1000000000) (hk : o.k.length ≤ 1000000000) (K : List Grp) (W0 : World) (H : List Grp) (hO : OpOk S W0 [] o) :
    Tri Try.prog 24 #[pt d, pt x, .agg #[.int .i64 o.kind, .string o.path, .string o.to, .slice o.ba o.b.size o.bc, .int .i64 o.n, .slice o.ka o.k.length o.kc]] W0 (K ++ (s.G d M ++ (r.G x N ++ H)))
      (fun v H' => v = .bool ((doM M o).1 == (doM N o).1) ∧ ∃ s1 : DS, s1.ok (doM M o).2 ∧ H' = K ++ (s1.G d (doM M o).2 ++ H)) :=
  Tri.post (dDo hs hr hM hN d x S o hb hk K W0 H hO) fun v H1 ⟨hv, s1, r1, h1, h2, hH⟩ => ⟨_, ⟨hv, s1, h1, rfl⟩, fun w hw => by
    rw [hH, ← List.append_assoc] at hw
    have := Sat.dropMid hw
    rwa [List.append_assoc] at this⟩
theorem xNew (room : Int) (K A : List Grp) (W0 : World) (H : List Grp) : Tri Try.prog 23 #[.int .i64 room] W0 (K ++ (A ++ H)) (fun v H' => ∃ x, v = pt x ∧ ∃ r : RS, r.ok (newM room) ∧ H' = K ++ (A ++ (r.G x (newM room) ++ H))) :=
  Tri.post (rNew room W0 (K ++ (A ++ H))) fun v H1 ⟨x, hv, r, hr, hH⟩ => ⟨_, ⟨x, hv, r, hr, rfl⟩, fun w hw => by rw [hH] at hw; exact front2_of hw⟩
theorem read_size {M : DM} (hm : Small M) {p b : ByteArray} {e : Int} (he : readM M p = (b, e)) : b.size ≤ 10000000 := by
  unfold readM at he
  split at he
  · injection he with h1 h2; subst h1; exact Nat.zero_le _
  · injection he with h1 h2; subst h1
    rename_i k _
    unfold bodyAt
    rw [List.getD_eq_getElem?_getD]
    by_cases hk : k.toNat < M.bodies.length
    · rw [List.getElem?_eq_getElem hk]; exact (hm.size _ (List.getElem_mem hk)).1
    · rw [List.getElem?_eq_none (by omega)]; exact Nat.zero_le _
theorem listM_len (M : DM) (d : ByteArray) : (listM M d).length ≤ M.names.length := by
  unfold listM
  rw [sortB_len, List.length_map]; exact List.length_filter_le _ _
end Go.Vf
