/- VfsPlays: disks answer every script as the document's do. No condition beyond the given statement's. (and what it stands on) -/
import Derived.Test.YtbmieiffboenbaaZ6
namespace Go.Proofs.Ytbmieiffboenbaa
open Go.Sw Go.Lib Go.Vf Go.RowKit
theorem vSame (a1 a2 : Option Addr) (c1 c2 : Nat) (S1 S2 : Nat → Obj → Prop) (L : List ByteArray) (hl : L.length ≤ 9000000000) (h1 : Rd S1 a1 (strs L)) (h2 : Rd S2 a2 (strs L)) (W0 : World) (H : List Grp) (hs1 : ∀ y o, S1 y o → At W0 H y o) (hs2 : ∀ y o, S2 y o → At W0 H y o) : Tri Try.prog 29 #[.slice a1 L.length c1, .slice a2 L.length c2] W0 H (fun v H' => v = .bool true ∧ H' = H) := by
  refine Tri_of (args := [.slice a1 L.length c1, .slice a2 L.length c2]) (n := 26) Try.func29 rfl rfl (Nat.le_of_ble_eq_true rfl) ?_
  refine G_seq ?_
  refine G_pure (E' := [⟨0, [], .slice a1 L.length c1⟩, ⟨1, [], .slice a2 L.length c2⟩]) [0] [0, 1] rfl (by kernel_rfl) ?_
  refine N_then ?_
  refine G_seq ?_
  refine G_seq ?_
  refine G_pure (E' := [⟨0, [], .slice a1 L.length c1⟩, ⟨1, [], .slice a2 L.length c2⟩, ⟨10, [], .bool (((L.length : Nat) : Int) != ((L.length : Nat) : Int))⟩]) [0, 0, 0, 0, 0] [0, 1, 10] rfl (by kernel_rfl) ?_
  refine N_then ?_
  refine G_cond (b := ((L.length : Nat) : Int) != ((L.length : Nat) : Int)) (by kernel_rfl) (fun hc1 => ?_) (fun hc1 => ?_)
  ·
    exact absurd hc1 (by simp)
  ·
    skip
    refine G_skip ?_
    refine N_then ?_
    refine G_seq ?_
    refine G_seq ?_
    refine G_pure (E' := [⟨0, [], .slice a1 L.length c1⟩, ⟨1, [], .slice a2 L.length c2⟩, ⟨12, [], .int .i64 ((L.length : Nat) : Int)⟩, ⟨13, [], .int .i64 0⟩]) [0, 0, 0] [0, 1, 12, 13] rfl (by kernel_rfl) ?_
    refine N_then ?_
    refine G_block ?_
    refine G_loop (EI := (fun ξ : Nat => [⟨0, [], .slice a1 L.length c1⟩, ⟨1, [], .slice a2 L.length c2⟩, ⟨12, [], .int .i64 ((L.length : Nat) : Int)⟩, ⟨13, [], .int .i64 ((ξ : Nat) : Int)⟩])) (HI := (fun ξ : Nat => H)) (Φ := (fun ξ : Nat => (ξ ≤ L.length))) (μ := (fun ξ : Nat => L.length - ξ)) (s0 := (0)) [0, 1, 12, 13] (by kernel_rfl) rfl (by omega) ?_
    rintro k hk
    replace hk : k ≤ L.length := hk
    refine G_seq ?_
    refine G_pure (E' := [⟨0, [], .slice a1 L.length c1⟩, ⟨1, [], .slice a2 L.length c2⟩, ⟨12, [], .int .i64 ((L.length : Nat) : Int)⟩, ⟨13, [], .int .i64 ((k : Nat) : Int)⟩, ⟨14, [], .bool (decide (((k : Nat) : Int) < ((L.length : Nat) : Int)))⟩]) [0] [0, 1, 12, 13, 14] rfl (by kernel_rfl) ?_
    refine N_then ?_
    refine G_seq ?_
    refine G_cond (b := decide (((k : Nat) : Int) < ((L.length : Nat) : Int))) (by kernel_rfl) (fun hc2 => ?_) (fun hc2 => ?_)
    ·
      replace hc2 := of_decide_eq_true hc2
      refine G_skip ?_
      refine N_then ?_
      refine G_seq ?_
      refine G_block ?_
      refine G_seq ?_
      refine G_pure (E' := [⟨0, [], .slice a1 L.length c1⟩, ⟨1, [], .slice a2 L.length c2⟩, ⟨5, [], .int .i64 ((k : Nat) : Int)⟩, ⟨12, [], .int .i64 ((L.length : Nat) : Int)⟩, ⟨13, [], .int .i64 ((k : Nat) : Int)⟩]) [0, 0] [0, 1, 5, 12, 13] rfl (by kernel_rfl) ?_
      refine N_then ?_
      refine G_seq ?_
      refine G_regionD (by kernel_rfl) (by kernel_rfl) ?_
      refine GL_pure (E' := [⟨17, [], .int .i64 ((k : Nat) : Int)⟩, ⟨16, [], .slice a1 L.length c1⟩, ⟨0, [], .slice a1 L.length c1⟩, ⟨1, [], .slice a2 L.length c2⟩, ⟨5, [], .int .i64 ((k : Nat) : Int)⟩, ⟨12, [], .int .i64 ((L.length : Nat) : Int)⟩, ⟨13, [], .int .i64 ((k : Nat) : Int)⟩]) [0, 0] (by kernel_rfl) (j := 2) rfl ?_
      refine GL_indexAddr (i := 2) (ch := []) (a := a1) (len := L.length) (cap := c1) (kd := .i64) (j := ((k : Nat) : Int)) (e := 9) (sz := 1) (S := S1) (cs := (strs L)) rfl rfl (by kernel_rfl) (by kernel_rfl) (by kernel_rfl) (by kernel_rfl) (by kernel_rfl) (by kernel_rfl) (by kernel_rfl) h1 (fun _ => by exact ⟨by omega, by omega, strs_ne0 (i := k) (by omega)⟩) ?_
      refine GL_loadS (i := 3) (ch := []) (a := a1) (q := k * 1) (S := S1) (cs := (strs L)) (v := .string (L.getD k default)) rfl rfl (by kernel_rfl) (by kernel_rfl) (by kernel_rfl) (by kernel_rfl) (by kernel_rfl) h1 hs1 (fun _ => (by rw [Nat.mul_one]; exact strs_at (by omega))) ?_
      refine GL_pure (E' := [⟨21, [], .int .i64 ((k : Nat) : Int)⟩, ⟨20, [], .slice a2 L.length c2⟩, ⟨19, [], .string (L.getD k default)⟩, ⟨0, [], .slice a1 L.length c1⟩, ⟨1, [], .slice a2 L.length c2⟩, ⟨12, [], .int .i64 ((L.length : Nat) : Int)⟩, ⟨13, [], .int .i64 ((k : Nat) : Int)⟩]) [0, 0] (by kernel_rfl) (j := 6) rfl ?_
      refine GL_indexAddr (i := 6) (ch := []) (a := a2) (len := L.length) (cap := c2) (kd := .i64) (j := ((k : Nat) : Int)) (e := 9) (sz := 1) (S := S2) (cs := (strs L)) rfl rfl (by kernel_rfl) (by kernel_rfl) (by kernel_rfl) (by kernel_rfl) (by kernel_rfl) (by kernel_rfl) (by kernel_rfl) h2 (fun _ => by exact ⟨by omega, by omega, strs_ne0 (i := k) (by omega)⟩) ?_
      refine GL_loadS (i := 7) (ch := []) (a := a2) (q := k * 1) (S := S2) (cs := (strs L)) (v := .string (L.getD k default)) rfl rfl (by kernel_rfl) (by kernel_rfl) (by kernel_rfl) (by kernel_rfl) (by kernel_rfl) h2 hs2 (fun _ => (by rw [Nat.mul_one]; exact strs_at (by omega))) ?_
      refine GL_fin (E' := [⟨0, [], .slice a1 L.length c1⟩, ⟨1, [], .slice a2 L.length c2⟩, ⟨12, [], .int .i64 ((L.length : Nat) : Int)⟩, ⟨13, [], .int .i64 ((k : Nat) : Int)⟩, ⟨24, [], .bool (!((L.getD k default).toList == (L.getD k default).toList))⟩]) [0] [0, 1, 12, 13, 24] rfl (by kernel_rfl) ?_
      refine N_then ?_
      refine G_cond (b := !((L.getD k default).toList == (L.getD k default).toList)) (by kernel_rfl) (fun hc3 => ?_) (fun hc3 => ?_)
      ·
        exact absurd hc3 (by simp)
      ·
        skip
        refine G_skip ?_
        refine N_block ?_
        refine N_then ?_
        have hw4 : IntKind.wrap .i64 (((k : Nat) : Int) + 1) = ((k : Nat) : Int) + 1 := w64 (by omega) (by omega)
        refine G_pure (E' := [⟨0, [], .slice a1 L.length c1⟩, ⟨1, [], .slice a2 L.length c2⟩, ⟨12, [], .int .i64 ((L.length : Nat) : Int)⟩, ⟨13, [], .int .i64 (((k : Nat) : Int) + 1)⟩]) [0, 0] [0, 1, 12, 13] rfl (Eq.trans (b := some [⟨0, [], .slice a1 L.length c1⟩, ⟨1, [], .slice a2 L.length c2⟩, ⟨12, [], .int .i64 ((L.length : Nat) : Int)⟩, ⟨13, [], .int .i64 (IntKind.wrap .i64 (((k : Nat) : Int) + 1))⟩]) (by kernel_rfl) (by simp only [hw4])) ?_
        refine N_round (s' := (k + 1)) [0, 1, 12, 13] (by kernel_rfl) rfl (by omega) (by omega)
    ·
      replace hc2 := of_decide_eq_false hc2
      refine G_exit ?_
      refine N_then_exit ?_
      refine N_then_exit ?_
      refine N_block_exit ?_
      refine N_then ?_
      refine G_seq ?_
      refine G_pure (E' := [⟨4, [], .bool true⟩]) [0] [4] rfl (by kernel_rfl) ?_
      refine N_then ?_
      refine G_ret ?_
      refine N_ret [.tmp 4] [.bool true] rfl (by kernel_rfl) rfl ?_
      exact ⟨rfl, rfl⟩
theorem vDo (d x : Nat) (s0 : DS) (r0 : RS) (M N : DM) (hs0 : s0.ok M) (hr0 : r0.ok N) (hM : Small M) (hN : SmallR N) (S : Nat → Obj → Prop) (o : OpV) (hb : o.b.size ≤ 1000000000) (hk : o.k.length ≤ 1000000000) (W0 : World) (H : List Grp) (hO : OpOk S W0 [] o) : Tri Try.prog 24 #[pt d, pt x, .agg #[.int .i64 o.kind, .string o.path, .string o.to, .slice o.ba o.b.size o.bc, .int .i64 o.n, .slice o.ka o.k.length o.kc]] W0 (s0.G d M ++ (r0.G x N ++ H)) (fun v H' => v = .bool ((doM M o).1 == (doM N o).1) ∧ ∃ (s1 : DS) (r1 : RS), s1.ok (doM M o).2 ∧ r1.ok (doM N o).2 ∧ H' = s1.G d (doM M o).2 ++ (r1.G x (doM N o).2 ++ H)) := by
  refine Tri_of (args := [pt d, pt x, .agg #[.int .i64 o.kind, .string o.path, .string o.to, .slice o.ba o.b.size o.bc, .int .i64 o.n, .slice o.ka o.k.length o.kc]]) (n := 132) Try.func24 rfl rfl (Nat.le_of_ble_eq_true rfl) ?_
  refine G_seq ?_
  refine G_region ?_
  refine GL_box (i := 0) (ch := []) (v := .agg #[.int .i64 o.kind, .string o.path, .string o.to, .slice o.ba o.b.size o.bc, .int .i64 o.n, .slice o.ka o.k.length o.kc]) rfl rfl (by kernel_rfl) (by kernel_rfl) (by kernel_rfl) (by kernel_rfl) (fun b1 => ?_)
  refine GL_fin (E' := [⟨0, [], pt d⟩, ⟨1, [], pt x⟩, ⟨5, [], pt b1⟩]) [0] [0, 1, 5] rfl (by kernel_rfl) ?_
  refine N_then ?_
  refine G_seq ?_
  refine G_region ?_
  refine GL_buildSlice (i := 0) (ch := []) (e := 5) (l := []) (c := []) rfl rfl (by kernel_rfl) (by kernel_rfl) (by kernel_rfl) (by kernel_rfl) (by kernel_rfl) (fun b2 => ?_)
  refine GL_pure (E' := [⟨12, [], .pointer (some ⟨b1, 3, none⟩)⟩, ⟨11, [], .slice (some ⟨b2, 0, none⟩) 0 0⟩, ⟨0, [], pt d⟩, ⟨1, [], pt x⟩, ⟨5, [], pt b1⟩]) [0] (by kernel_rfl) (j := 2) rfl ?_
  refine GL_load (i := 2) (ch := []) (b := b1) (off := 3) (v := .slice o.ba o.b.size o.bc) rfl rfl (by kernel_rfl) (by kernel_rfl) (by kernel_rfl) (by kernel_rfl) (by kernel_rfl) (At.grp 1 0 rfl rfl) rfl ?_
  refine GL_append (i := 3) (ch := []) (t := 24) (tx := 24) (e := 5) (inf := Try.t5) (s := .slice (some ⟨b2, 0, none⟩) 0 0) (x := .slice o.ba o.b.size o.bc) (n := 0) (m := o.b.size) (j := 0) (cs := []) (news := (u8s o.b.data.toList)) (g := [(b2, .cells #[] 5 (0, 0))]) (S := S) rfl rfl rfl rfl (by kernel_rfl) (by kernel_rfl) (by kernel_rfl) rfl rfl (.inl ⟨5, (by kernel_rfl)⟩) (fun ⟨_, h⟩ => by cases h) (fun _ => ⟨5, (by kernel_rfl)⟩) (by kernel_rfl) (by kernel_rfl) (by kernel_rfl) rfl (Own.lit rfl) (SrcOf.slice _ _ _ _ hO.b.rd (fun h => ba_none hO h)) (fun y o h => at_up (hO.b.at_ y o h)) (by show (u8s _).length = _ * 1; rw [u8s_len, Nat.mul_one]; exact Array.length_toList) (u8s_one) (by omega) (by show (0 + o.b.size) * 1 ≤ 140737488355328; omega) (fun v3 g4 hO5 => ?_)
  replace hO5 := own_nil0 hO5
  obtain ⟨a6, cap7, rfl, hcap8, hrd9⟩ := hO5.shape
  refine GL_fin (E' := [⟨0, [], pt d⟩, ⟨1, [], pt x⟩, ⟨5, [], pt b1⟩, ⟨7, [], .slice a6 o.b.size cap7⟩]) [0] [0, 1, 5, 7] rfl (by kernel_rfl) ?_
  refine N_then ?_
  refine G_seq ?_
  refine G_pure (E' := [⟨0, [], pt d⟩, ⟨1, [], pt x⟩, ⟨5, [], pt b1⟩, ⟨7, [], .slice a6 o.b.size cap7⟩, ⟨8, [], .int .i64 0⟩, ⟨9, [], .int .i64 0⟩]) [0, 0] [0, 1, 5, 7, 8, 9] rfl (by kernel_rfl) ?_
  refine N_then ?_
  refine G_seq ?_
  refine G_seq ?_
  refine G_region ?_
  refine GL_pure (E' := [⟨15, [], pt b1⟩, ⟨0, [], pt d⟩, ⟨1, [], pt x⟩, ⟨5, [], pt b1⟩, ⟨7, [], .slice a6 o.b.size cap7⟩, ⟨8, [], .int .i64 0⟩, ⟨9, [], .int .i64 0⟩]) [0] (by kernel_rfl) (j := 1) rfl ?_
  refine GL_load (i := 1) (ch := []) (b := b1) (off := 0) (v := .int .i64 o.kind) rfl rfl (by kernel_rfl) (by kernel_rfl) (by kernel_rfl) (by kernel_rfl) (by kernel_rfl) (At.grp 1 0 rfl rfl) rfl ?_
  refine GL_fin (E' := [⟨0, [], pt d⟩, ⟨1, [], pt x⟩, ⟨5, [], pt b1⟩, ⟨7, [], .slice a6 o.b.size cap7⟩, ⟨8, [], .int .i64 0⟩, ⟨9, [], .int .i64 0⟩, ⟨18, [], .int .u64 (Int.tmod (IntKind.wrap .u64 o.kind) 8)⟩]) [0, 0] [0, 1, 5, 7, 8, 9, 18] rfl (by kernel_rfl) ?_
  refine N_then ?_
  refine G_block ?_
  refine G_seq ?_
  refine G_pure (E' := [⟨0, [], pt d⟩, ⟨1, [], pt x⟩, ⟨5, [], pt b1⟩, ⟨7, [], .slice a6 o.b.size cap7⟩, ⟨8, [], .int .i64 0⟩, ⟨9, [], .int .i64 0⟩, ⟨18, [], .int .u64 (Int.tmod (IntKind.wrap .u64 o.kind) 8)⟩, ⟨27, [], .bool ((Int.tmod (IntKind.wrap .u64 o.kind) 8) == 0)⟩]) [0, 0] [0, 1, 5, 7, 8, 9, 18, 27] rfl (by kernel_rfl) ?_
  refine N_then ?_
  refine G_join (T := DS × RS × DM × DM × Int × Int) (fun ξ : DS × RS × DM × DM × Int × Int => [⟨7, [], .slice a6 o.b.size cap7⟩, ⟨8, [], .int .i64 ξ.2.2.2.2.1⟩, ⟨9, [], .int .i64 ξ.2.2.2.2.2⟩]) (fun ξ : DS × RS × DM × DM × Int × Int => (g4 :: [(b1, .cells #[.int .i64 o.kind, .string o.path, .string o.to, .slice o.ba o.b.size o.bc, .int .i64 o.n, .slice o.ka o.k.length o.kc] 41 (0, 0))] :: (ξ.1.G d ξ.2.2.1 ++ (ξ.2.1.G x ξ.2.2.2.1 ++ H)))) (fun ξ : DS × RS × DM × DM × Int × Int => (ξ.1.ok ξ.2.2.1) ∧ (ξ.2.1.ok ξ.2.2.2.1) ∧ (doM M o = (ξ.2.2.2.2.1, ξ.2.2.1)) ∧ (doM N o = (ξ.2.2.2.2.2, ξ.2.2.2.1))) ?_ ?_
  ·
    refine G_cond (b := (Int.tmod (IntKind.wrap .u64 o.kind) 8) == 0) (by kernel_rfl) (fun hc10 => ?_) (fun hc10 => ?_)
    ·
      have hk0 : kindU o = 0 := by simpa [kindU] using hc10
      -- L k0
      refine G_regionH (g4 :: [(b1, .cells #[.int .i64 o.kind, .string o.path, .string o.to, .slice o.ba o.b.size o.bc, .int .i64 o.n, .slice o.ka o.k.length o.kc] 41 (0, 0))] :: H) (by kernel_rfl) ?_
      refine GH_pure (E' := [⟨29, [], pt d⟩, ⟨1, [], pt x⟩, ⟨5, [], pt b1⟩, ⟨7, [], .slice a6 o.b.size cap7⟩, ⟨8, [], .int .i64 0⟩, ⟨9, [], .int .i64 0⟩]) 0 0 (by kernel_rfl) (fun w h => (Sat.dropMid (K := [_, _]) (Sat.dropMid (K := [_, _]) ((h.front (j := 1) rfl).front (j := 1) rfl)))) (by kernel_rfl) ?_
      refine GH_pure (E' := [⟨30, [], .pointer (some ⟨b1, 1, none⟩)⟩, ⟨29, [], pt d⟩, ⟨1, [], pt x⟩, ⟨5, [], pt b1⟩, ⟨7, [], .slice a6 o.b.size cap7⟩, ⟨8, [], .int .i64 0⟩, ⟨9, [], .int .i64 0⟩]) 1 0 (by kernel_rfl) (fun w h => (Sat.dropMid (K := [_, _]) (Sat.dropMid (K := [_, _]) ((h.front (j := 1) rfl).front (j := 1) rfl)))) (by kernel_rfl) ?_
      refine GH_take' (E' := [⟨31, [], .string o.path⟩, ⟨30, [], .pointer (some ⟨b1, 1, none⟩)⟩, ⟨29, [], pt d⟩, ⟨1, [], pt x⟩, ⟨5, [], pt b1⟩, ⟨7, [], .slice a6 o.b.size cap7⟩, ⟨8, [], .int .i64 0⟩, ⟨9, [], .int .i64 0⟩]) 2 (by kernel_rfl) (fun w h => (Sat.dropMid (K := [_, _]) (Sat.dropMid (K := [_, _]) ((h.front (j := 1) rfl).front (j := 1) rfl)))) ?_ ?_
      ·
        refine GL_load (i := 2) (ch := []) (b := b1) (off := 1) (v := .string o.path) rfl rfl (by kernel_rfl) (by kernel_rfl) (by kernel_rfl) (by kernel_rfl) (by kernel_rfl) (At.grp 1 0 rfl rfl) rfl ?_
        exact GL_yend (by kernel_rfl) (by kernel_rfl)
      refine GH_pure (E' := [⟨32, [], .slice a6 o.b.size cap7⟩, ⟨31, [], .string o.path⟩, ⟨29, [], pt d⟩, ⟨1, [], pt x⟩, ⟨5, [], pt b1⟩, ⟨7, [], .slice a6 o.b.size cap7⟩, ⟨8, [], .int .i64 0⟩, ⟨9, [], .int .i64 0⟩]) 3 0 (by kernel_rfl) (fun w h => (Sat.dropMid (K := [_, _]) (Sat.dropMid (K := [_, _]) ((h.front (j := 1) rfl).front (j := 1) rfl)))) (by kernel_rfl) ?_
      refine GH_pure (E' := [⟨34, [], pt x⟩, ⟨32, [], .slice a6 o.b.size cap7⟩, ⟨31, [], .string o.path⟩, ⟨29, [], pt d⟩, ⟨5, [], pt b1⟩, ⟨7, [], .slice a6 o.b.size cap7⟩, ⟨8, [], .int .i64 0⟩, ⟨9, [], .int .i64 0⟩]) 5 0 (by kernel_rfl) (fun w h => (Sat.dropMid (K := [_, _]) (Sat.dropMid (K := [_, _]) ((h.front (j := 1) rfl).front (j := 1) rfl)))) (by kernel_rfl) ?_
      refine GH_pure (E' := [⟨35, [], .pointer (some ⟨b1, 1, none⟩)⟩, ⟨34, [], pt x⟩, ⟨32, [], .slice a6 o.b.size cap7⟩, ⟨31, [], .string o.path⟩, ⟨29, [], pt d⟩, ⟨5, [], pt b1⟩, ⟨7, [], .slice a6 o.b.size cap7⟩, ⟨8, [], .int .i64 0⟩, ⟨9, [], .int .i64 0⟩]) 6 0 (by kernel_rfl) (fun w h => (Sat.dropMid (K := [_, _]) (Sat.dropMid (K := [_, _]) ((h.front (j := 1) rfl).front (j := 1) rfl)))) (by kernel_rfl) ?_
      refine GH_take' (E' := [⟨36, [], .string o.path⟩, ⟨35, [], .pointer (some ⟨b1, 1, none⟩)⟩, ⟨34, [], pt x⟩, ⟨32, [], .slice a6 o.b.size cap7⟩, ⟨31, [], .string o.path⟩, ⟨29, [], pt d⟩, ⟨5, [], pt b1⟩, ⟨7, [], .slice a6 o.b.size cap7⟩, ⟨8, [], .int .i64 0⟩, ⟨9, [], .int .i64 0⟩]) 7 (by kernel_rfl) (fun w h => (Sat.dropMid (K := [_, _]) (Sat.dropMid (K := [_, _]) ((h.front (j := 1) rfl).front (j := 1) rfl)))) ?_ ?_
      ·
        refine GL_load (i := 7) (ch := []) (b := b1) (off := 1) (v := .string o.path) rfl rfl (by kernel_rfl) (by kernel_rfl) (by kernel_rfl) (by kernel_rfl) (by kernel_rfl) (At.grp 1 0 rfl rfl) rfl ?_
        exact GL_yend (by kernel_rfl) (by kernel_rfl)
      refine GH_pure (E' := [⟨37, [], .pointer (some ⟨b1, 3, none⟩)⟩, ⟨36, [], .string o.path⟩, ⟨34, [], pt x⟩, ⟨32, [], .slice a6 o.b.size cap7⟩, ⟨31, [], .string o.path⟩, ⟨29, [], pt d⟩, ⟨7, [], .slice a6 o.b.size cap7⟩, ⟨8, [], .int .i64 0⟩, ⟨9, [], .int .i64 0⟩]) 8 0 (by kernel_rfl) (fun w h => (Sat.dropMid (K := [_, _]) (Sat.dropMid (K := [_, _]) ((h.front (j := 1) rfl).front (j := 1) rfl)))) (by kernel_rfl) ?_
      refine GH_take' (E' := [⟨38, [], .slice o.ba o.b.size o.bc⟩, ⟨37, [], .pointer (some ⟨b1, 3, none⟩)⟩, ⟨36, [], .string o.path⟩, ⟨34, [], pt x⟩, ⟨32, [], .slice a6 o.b.size cap7⟩, ⟨31, [], .string o.path⟩, ⟨29, [], pt d⟩, ⟨7, [], .slice a6 o.b.size cap7⟩, ⟨8, [], .int .i64 0⟩, ⟨9, [], .int .i64 0⟩]) 9 (by kernel_rfl) (fun w h => (Sat.dropMid (K := [_, _]) (Sat.dropMid (K := [_, _]) ((h.front (j := 1) rfl).front (j := 1) rfl)))) ?_ ?_
      ·
        refine GL_load (i := 9) (ch := []) (b := b1) (off := 3) (v := .slice o.ba o.b.size o.bc) rfl rfl (by kernel_rfl) (by kernel_rfl) (by kernel_rfl) (by kernel_rfl) (by kernel_rfl) (At.grp 1 0 rfl rfl) rfl ?_
        exact GL_yend (by kernel_rfl) (by kernel_rfl)
      refine GH_take' (E' := [⟨39, [], .string o.b⟩, ⟨38, [], .slice o.ba o.b.size o.bc⟩, ⟨37, [], .pointer (some ⟨b1, 3, none⟩)⟩, ⟨36, [], .string o.path⟩, ⟨34, [], pt x⟩, ⟨32, [], .slice a6 o.b.size cap7⟩, ⟨31, [], .string o.path⟩, ⟨29, [], pt d⟩, ⟨7, [], .slice a6 o.b.size cap7⟩, ⟨8, [], .int .i64 0⟩, ⟨9, [], .int .i64 0⟩]) 10 (by kernel_rfl) (fun w h => (Sat.dropMid (K := [_, _]) (Sat.dropMid (K := [_, _]) ((h.front (j := 1) rfl).front (j := 1) rfl)))) ?_ ?_
      ·
        refine GL_bytesB (i := 10) (ch := []) (a := o.ba) (cap := o.bc) (e := 5) (S := S) o.b rfl rfl (by kernel_rfl) (by kernel_rfl) (by kernel_rfl) (by kernel_rfl) (by kernel_rfl) (by kernel_rfl) (by kernel_rfl) hO.b.rd (fun y o h => at_up (hO.b.at_ y o h)) ?_
        exact GL_yend (by kernel_rfl) (by kernel_rfl)
      refine GH_eff 4 (by kernel_rfl) (by kernel_rfl) (by kernel_rfl) ?_
      refine GL_call (i := 4) (ch := []) (f := 13) (fst := #[]) (caps := #[]) (vs := [pt d, .string o.path, .slice a6 o.b.size cap7]) rfl rfl rfl (by kernel_rfl) (by kernel_rfl) Try.func13 rfl rfl (by kernel_rfl) (by kernel_rfl) (chSure_of (by kernel_rfl)) (dWrite hs0 hM d o.path o.b hO.path hb [g4, [(b1, .cells #[.int .i64 o.kind, .string o.path, .string o.to, .slice o.ba o.b.size o.bc, .int .i64 o.n, .slice o.ka o.k.length o.kc] 41 (0, 0))]] _ (r0.G x N ++ H) (own_bytesV hO5 0 rfl) rfl) ?_
      rintro v H' ⟨rfl, s1, hs1, rfl⟩
      refine GH_back (by kernel_rfl) (fun w h => (Sat.dropMid (K := [_, _]) (Sat.dropMid (K := [_, _]) ((h.front (j := 1) rfl).front (j := 1) rfl)))) ?_
      refine GH_eff 11 (by kernel_rfl) (by kernel_rfl) (by kernel_rfl) ?_
      refine GL_call (i := 11) (ch := []) (f := 46) (fst := #[]) (caps := #[]) (vs := [pt x, .string o.path, .string o.b]) rfl rfl rfl (by kernel_rfl) (by kernel_rfl) Try.func46 rfl rfl (by kernel_rfl) (by kernel_rfl) (chSure_of (by kernel_rfl)) (is_front2 (K := [g4, [(b1, .cells #[.int .i64 o.kind, .string o.path, .string o.to, .slice o.ba o.b.size o.bc, .int .i64 o.n, .slice o.ka o.k.length o.kc] 41 (0, 0))]]) (A := s1.G d (writeM M o.path o.b).2) (rWrite x r0 N hr0 hN o.path o.b hO.path hb _ _)) ?_
      rintro v H' ⟨rfl, r2, hr2, rfl⟩
      refine GH_back (by kernel_rfl) (fun w h => (Sat.dropMid (K := [_, _]) (Sat.dropMid (K := [_, _]) ((h.front (j := 1) rfl).front (j := 1) rfl)))) ?_
      refine GH_pure (E' := [⟨8, [], .int .i64 ((writeM M o.path o.b).1)⟩, ⟨40, [], .int .i64 ((writeM N o.path o.b).1)⟩, ⟨7, [], .slice a6 o.b.size cap7⟩, ⟨9, [], .int .i64 0⟩]) 12 0 (by kernel_rfl) (fun w h => (Sat.dropMid (K := [_, _]) (Sat.dropMid (K := [_, _]) ((h.front (j := 1) rfl).front (j := 1) rfl)))) (by kernel_rfl) ?_
      refine GH_pure (E' := [⟨9, [], .int .i64 ((writeM N o.path o.b).1)⟩, ⟨8, [], .int .i64 ((writeM M o.path o.b).1)⟩, ⟨7, [], .slice a6 o.b.size cap7⟩]) 13 0 (by kernel_rfl) (fun w h => (Sat.dropMid (K := [_, _]) (Sat.dropMid (K := [_, _]) ((h.front (j := 1) rfl).front (j := 1) rfl)))) (by kernel_rfl) ?_
      refine GH_done (E' := [⟨7, [], .slice a6 o.b.size cap7⟩, ⟨8, [], .int .i64 ((writeM M o.path o.b).1)⟩, ⟨9, [], .int .i64 ((writeM N o.path o.b).1)⟩]) [7, 8, 9] (by kernel_rfl) (by kernel_rfl) ?_
      refine N_join (s1, r2, (writeM M o.path o.b).2, (writeM N o.path o.b).2, (writeM M o.path o.b).1, (writeM N o.path o.b).1) [7, 8, 9] (by kernel_rfl) (fun w h => ((h.front (j := 1) rfl).front (j := 1) rfl)) ⟨hs1, hr2, (by unfold doM; rw [if_pos hk0]), (by unfold doM; rw [if_pos hk0])⟩
    ·
      have hk0 : ¬ kindU o = 0 := by simpa [kindU] using hc10
      refine G_seq ?_
      refine G_pure (E' := [⟨0, [], pt d⟩, ⟨1, [], pt x⟩, ⟨5, [], pt b1⟩, ⟨7, [], .slice a6 o.b.size cap7⟩, ⟨8, [], .int .i64 0⟩, ⟨9, [], .int .i64 0⟩, ⟨18, [], .int .u64 (Int.tmod (IntKind.wrap .u64 o.kind) 8)⟩, ⟨41, [], .bool ((Int.tmod (IntKind.wrap .u64 o.kind) 8) == 1)⟩]) [0, 0] [0, 1, 5, 7, 8, 9, 18, 41] rfl (by kernel_rfl) ?_
      refine N_then ?_
      refine G_cond (b := (Int.tmod (IntKind.wrap .u64 o.kind) 8) == 1) (by kernel_rfl) (fun hc11 => ?_) (fun hc11 => ?_)
      ·
        have hk1 : kindU o = 1 := by simpa [kindU] using hc11
        -- L k1
        refine G_regionH (g4 :: [(b1, .cells #[.int .i64 o.kind, .string o.path, .string o.to, .slice o.ba o.b.size o.bc, .int .i64 o.n, .slice o.ka o.k.length o.kc] 41 (0, 0))] :: H) (by kernel_rfl) ?_
        refine GH_pure (E' := [⟨43, [], pt d⟩, ⟨1, [], pt x⟩, ⟨5, [], pt b1⟩, ⟨7, [], .slice a6 o.b.size cap7⟩, ⟨8, [], .int .i64 0⟩, ⟨9, [], .int .i64 0⟩]) 0 0 (by kernel_rfl) (fun w h => (Sat.dropMid (K := [_, _]) (Sat.dropMid (K := [_, _]) ((h.front (j := 1) rfl).front (j := 1) rfl)))) (by kernel_rfl) ?_
        refine GH_pure (E' := [⟨44, [], .pointer (some ⟨b1, 1, none⟩)⟩, ⟨43, [], pt d⟩, ⟨1, [], pt x⟩, ⟨5, [], pt b1⟩, ⟨7, [], .slice a6 o.b.size cap7⟩, ⟨8, [], .int .i64 0⟩, ⟨9, [], .int .i64 0⟩]) 1 0 (by kernel_rfl) (fun w h => (Sat.dropMid (K := [_, _]) (Sat.dropMid (K := [_, _]) ((h.front (j := 1) rfl).front (j := 1) rfl)))) (by kernel_rfl) ?_
        refine GH_take' (E' := [⟨45, [], .string o.path⟩, ⟨44, [], .pointer (some ⟨b1, 1, none⟩)⟩, ⟨43, [], pt d⟩, ⟨1, [], pt x⟩, ⟨5, [], pt b1⟩, ⟨7, [], .slice a6 o.b.size cap7⟩, ⟨8, [], .int .i64 0⟩, ⟨9, [], .int .i64 0⟩]) 2 (by kernel_rfl) (fun w h => (Sat.dropMid (K := [_, _]) (Sat.dropMid (K := [_, _]) ((h.front (j := 1) rfl).front (j := 1) rfl)))) ?_ ?_
        ·
          refine GL_load (i := 2) (ch := []) (b := b1) (off := 1) (v := .string o.path) rfl rfl (by kernel_rfl) (by kernel_rfl) (by kernel_rfl) (by kernel_rfl) (by kernel_rfl) (At.grp 1 0 rfl rfl) rfl ?_
          exact GL_yend (by kernel_rfl) (by kernel_rfl)
        refine GH_pure (E' := [⟨46, [], .slice a6 o.b.size cap7⟩, ⟨45, [], .string o.path⟩, ⟨43, [], pt d⟩, ⟨1, [], pt x⟩, ⟨5, [], pt b1⟩, ⟨7, [], .slice a6 o.b.size cap7⟩, ⟨8, [], .int .i64 0⟩, ⟨9, [], .int .i64 0⟩]) 3 0 (by kernel_rfl) (fun w h => (Sat.dropMid (K := [_, _]) (Sat.dropMid (K := [_, _]) ((h.front (j := 1) rfl).front (j := 1) rfl)))) (by kernel_rfl) ?_
        refine GH_pure (E' := [⟨48, [], pt x⟩, ⟨46, [], .slice a6 o.b.size cap7⟩, ⟨45, [], .string o.path⟩, ⟨43, [], pt d⟩, ⟨5, [], pt b1⟩, ⟨7, [], .slice a6 o.b.size cap7⟩, ⟨8, [], .int .i64 0⟩, ⟨9, [], .int .i64 0⟩]) 5 0 (by kernel_rfl) (fun w h => (Sat.dropMid (K := [_, _]) (Sat.dropMid (K := [_, _]) ((h.front (j := 1) rfl).front (j := 1) rfl)))) (by kernel_rfl) ?_
        refine GH_pure (E' := [⟨49, [], .pointer (some ⟨b1, 1, none⟩)⟩, ⟨48, [], pt x⟩, ⟨46, [], .slice a6 o.b.size cap7⟩, ⟨45, [], .string o.path⟩, ⟨43, [], pt d⟩, ⟨5, [], pt b1⟩, ⟨7, [], .slice a6 o.b.size cap7⟩, ⟨8, [], .int .i64 0⟩, ⟨9, [], .int .i64 0⟩]) 6 0 (by kernel_rfl) (fun w h => (Sat.dropMid (K := [_, _]) (Sat.dropMid (K := [_, _]) ((h.front (j := 1) rfl).front (j := 1) rfl)))) (by kernel_rfl) ?_
        refine GH_take' (E' := [⟨50, [], .string o.path⟩, ⟨49, [], .pointer (some ⟨b1, 1, none⟩)⟩, ⟨48, [], pt x⟩, ⟨46, [], .slice a6 o.b.size cap7⟩, ⟨45, [], .string o.path⟩, ⟨43, [], pt d⟩, ⟨5, [], pt b1⟩, ⟨7, [], .slice a6 o.b.size cap7⟩, ⟨8, [], .int .i64 0⟩, ⟨9, [], .int .i64 0⟩]) 7 (by kernel_rfl) (fun w h => (Sat.dropMid (K := [_, _]) (Sat.dropMid (K := [_, _]) ((h.front (j := 1) rfl).front (j := 1) rfl)))) ?_ ?_
        ·
          refine GL_load (i := 7) (ch := []) (b := b1) (off := 1) (v := .string o.path) rfl rfl (by kernel_rfl) (by kernel_rfl) (by kernel_rfl) (by kernel_rfl) (by kernel_rfl) (At.grp 1 0 rfl rfl) rfl ?_
          exact GL_yend (by kernel_rfl) (by kernel_rfl)
        refine GH_pure (E' := [⟨51, [], .pointer (some ⟨b1, 3, none⟩)⟩, ⟨50, [], .string o.path⟩, ⟨48, [], pt x⟩, ⟨46, [], .slice a6 o.b.size cap7⟩, ⟨45, [], .string o.path⟩, ⟨43, [], pt d⟩, ⟨7, [], .slice a6 o.b.size cap7⟩, ⟨8, [], .int .i64 0⟩, ⟨9, [], .int .i64 0⟩]) 8 0 (by kernel_rfl) (fun w h => (Sat.dropMid (K := [_, _]) (Sat.dropMid (K := [_, _]) ((h.front (j := 1) rfl).front (j := 1) rfl)))) (by kernel_rfl) ?_
        refine GH_take' (E' := [⟨52, [], .slice o.ba o.b.size o.bc⟩, ⟨51, [], .pointer (some ⟨b1, 3, none⟩)⟩, ⟨50, [], .string o.path⟩, ⟨48, [], pt x⟩, ⟨46, [], .slice a6 o.b.size cap7⟩, ⟨45, [], .string o.path⟩, ⟨43, [], pt d⟩, ⟨7, [], .slice a6 o.b.size cap7⟩, ⟨8, [], .int .i64 0⟩, ⟨9, [], .int .i64 0⟩]) 9 (by kernel_rfl) (fun w h => (Sat.dropMid (K := [_, _]) (Sat.dropMid (K := [_, _]) ((h.front (j := 1) rfl).front (j := 1) rfl)))) ?_ ?_
        ·
          refine GL_load (i := 9) (ch := []) (b := b1) (off := 3) (v := .slice o.ba o.b.size o.bc) rfl rfl (by kernel_rfl) (by kernel_rfl) (by kernel_rfl) (by kernel_rfl) (by kernel_rfl) (At.grp 1 0 rfl rfl) rfl ?_
          exact GL_yend (by kernel_rfl) (by kernel_rfl)
        refine GH_take' (E' := [⟨53, [], .string o.b⟩, ⟨52, [], .slice o.ba o.b.size o.bc⟩, ⟨51, [], .pointer (some ⟨b1, 3, none⟩)⟩, ⟨50, [], .string o.path⟩, ⟨48, [], pt x⟩, ⟨46, [], .slice a6 o.b.size cap7⟩, ⟨45, [], .string o.path⟩, ⟨43, [], pt d⟩, ⟨7, [], .slice a6 o.b.size cap7⟩, ⟨8, [], .int .i64 0⟩, ⟨9, [], .int .i64 0⟩]) 10 (by kernel_rfl) (fun w h => (Sat.dropMid (K := [_, _]) (Sat.dropMid (K := [_, _]) ((h.front (j := 1) rfl).front (j := 1) rfl)))) ?_ ?_
        ·
          refine GL_bytesB (i := 10) (ch := []) (a := o.ba) (cap := o.bc) (e := 5) (S := S) o.b rfl rfl (by kernel_rfl) (by kernel_rfl) (by kernel_rfl) (by kernel_rfl) (by kernel_rfl) (by kernel_rfl) (by kernel_rfl) hO.b.rd (fun y o h => at_up (hO.b.at_ y o h)) ?_
          exact GL_yend (by kernel_rfl) (by kernel_rfl)
        refine GH_eff 4 (by kernel_rfl) (by kernel_rfl) (by kernel_rfl) ?_
        refine GL_call (i := 4) (ch := []) (f := 22) (fst := #[]) (caps := #[]) (vs := [pt d, .string o.path, .slice a6 o.b.size cap7]) rfl rfl rfl (by kernel_rfl) (by kernel_rfl) Try.func22 rfl rfl (by kernel_rfl) (by kernel_rfl) (chSure_of (by kernel_rfl)) (dAppend hs0 hM d o.path o.b hO.path hb [g4, [(b1, .cells #[.int .i64 o.kind, .string o.path, .string o.to, .slice o.ba o.b.size o.bc, .int .i64 o.n, .slice o.ka o.k.length o.kc] 41 (0, 0))]] _ (r0.G x N ++ H) (own_bytesV hO5 0 rfl) rfl) ?_
        rintro v H' ⟨rfl, s3, hs3, rfl⟩
        refine GH_back (by kernel_rfl) (fun w h => (Sat.dropMid (K := [_, _]) (Sat.dropMid (K := [_, _]) ((h.front (j := 1) rfl).front (j := 1) rfl)))) ?_
        refine GH_eff 11 (by kernel_rfl) (by kernel_rfl) (by kernel_rfl) ?_
        refine GL_call (i := 11) (ch := []) (f := 47) (fst := #[]) (caps := #[]) (vs := [pt x, .string o.path, .string o.b]) rfl rfl rfl (by kernel_rfl) (by kernel_rfl) Try.func47 rfl rfl (by kernel_rfl) (by kernel_rfl) (chSure_of (by kernel_rfl)) (is_front2 (K := [g4, [(b1, .cells #[.int .i64 o.kind, .string o.path, .string o.to, .slice o.ba o.b.size o.bc, .int .i64 o.n, .slice o.ka o.k.length o.kc] 41 (0, 0))]]) (A := s3.G d (appendM M o.path o.b).2) (rAppend x r0 N hr0 hN o.path o.b hO.path hb _ _)) ?_
        rintro v H' ⟨rfl, r4, hr4, rfl⟩
        refine GH_back (by kernel_rfl) (fun w h => (Sat.dropMid (K := [_, _]) (Sat.dropMid (K := [_, _]) ((h.front (j := 1) rfl).front (j := 1) rfl)))) ?_
        refine GH_pure (E' := [⟨8, [], .int .i64 ((appendM M o.path o.b).1)⟩, ⟨54, [], .int .i64 ((appendM N o.path o.b).1)⟩, ⟨7, [], .slice a6 o.b.size cap7⟩, ⟨9, [], .int .i64 0⟩]) 12 0 (by kernel_rfl) (fun w h => (Sat.dropMid (K := [_, _]) (Sat.dropMid (K := [_, _]) ((h.front (j := 1) rfl).front (j := 1) rfl)))) (by kernel_rfl) ?_
        refine GH_pure (E' := [⟨9, [], .int .i64 ((appendM N o.path o.b).1)⟩, ⟨8, [], .int .i64 ((appendM M o.path o.b).1)⟩, ⟨7, [], .slice a6 o.b.size cap7⟩]) 13 0 (by kernel_rfl) (fun w h => (Sat.dropMid (K := [_, _]) (Sat.dropMid (K := [_, _]) ((h.front (j := 1) rfl).front (j := 1) rfl)))) (by kernel_rfl) ?_
        refine GH_done (E' := [⟨7, [], .slice a6 o.b.size cap7⟩, ⟨8, [], .int .i64 ((appendM M o.path o.b).1)⟩, ⟨9, [], .int .i64 ((appendM N o.path o.b).1)⟩]) [7, 8, 9] (by kernel_rfl) (by kernel_rfl) ?_
        refine N_join (s3, r4, (appendM M o.path o.b).2, (appendM N o.path o.b).2, (appendM M o.path o.b).1, (appendM N o.path o.b).1) [7, 8, 9] (by kernel_rfl) (fun w h => ((h.front (j := 1) rfl).front (j := 1) rfl)) ⟨hs3, hr4, (by unfold doM; rw [if_neg hk0, if_pos hk1]), (by unfold doM; rw [if_neg hk0, if_pos hk1])⟩
      ·
        have hk1 : ¬ kindU o = 1 := by simpa [kindU] using hc11
        refine G_seq ?_
        refine G_pure (E' := [⟨0, [], pt d⟩, ⟨1, [], pt x⟩, ⟨5, [], pt b1⟩, ⟨7, [], .slice a6 o.b.size cap7⟩, ⟨8, [], .int .i64 0⟩, ⟨9, [], .int .i64 0⟩, ⟨18, [], .int .u64 (Int.tmod (IntKind.wrap .u64 o.kind) 8)⟩, ⟨55, [], .bool ((Int.tmod (IntKind.wrap .u64 o.kind) 8) == 2)⟩]) [0, 0] [0, 1, 5, 7, 8, 9, 18, 55] rfl (by kernel_rfl) ?_
        refine N_then ?_
        refine G_cond (b := (Int.tmod (IntKind.wrap .u64 o.kind) 8) == 2) (by kernel_rfl) (fun hc12 => ?_) (fun hc12 => ?_)
        ·
          have hk2 : kindU o = 2 := by simpa [kindU] using hc12
          -- L k2
          refine G_regionH (g4 :: [(b1, .cells #[.int .i64 o.kind, .string o.path, .string o.to, .slice o.ba o.b.size o.bc, .int .i64 o.n, .slice o.ka o.k.length o.kc] 41 (0, 0))] :: H) (by kernel_rfl) ?_
          refine GH_pure (E' := [⟨57, [], pt d⟩, ⟨1, [], pt x⟩, ⟨5, [], pt b1⟩, ⟨7, [], .slice a6 o.b.size cap7⟩, ⟨8, [], .int .i64 0⟩, ⟨9, [], .int .i64 0⟩]) 0 0 (by kernel_rfl) (fun w h => (Sat.dropMid (K := [_, _]) (Sat.dropMid (K := [_, _]) ((h.front (j := 1) rfl).front (j := 1) rfl)))) (by kernel_rfl) ?_
          refine GH_pure (E' := [⟨58, [], .pointer (some ⟨b1, 1, none⟩)⟩, ⟨57, [], pt d⟩, ⟨1, [], pt x⟩, ⟨5, [], pt b1⟩, ⟨7, [], .slice a6 o.b.size cap7⟩, ⟨8, [], .int .i64 0⟩, ⟨9, [], .int .i64 0⟩]) 1 0 (by kernel_rfl) (fun w h => (Sat.dropMid (K := [_, _]) (Sat.dropMid (K := [_, _]) ((h.front (j := 1) rfl).front (j := 1) rfl)))) (by kernel_rfl) ?_
          refine GH_take' (E' := [⟨59, [], .string o.path⟩, ⟨58, [], .pointer (some ⟨b1, 1, none⟩)⟩, ⟨57, [], pt d⟩, ⟨1, [], pt x⟩, ⟨5, [], pt b1⟩, ⟨7, [], .slice a6 o.b.size cap7⟩, ⟨8, [], .int .i64 0⟩, ⟨9, [], .int .i64 0⟩]) 2 (by kernel_rfl) (fun w h => (Sat.dropMid (K := [_, _]) (Sat.dropMid (K := [_, _]) ((h.front (j := 1) rfl).front (j := 1) rfl)))) ?_ ?_
          ·
            refine GL_load (i := 2) (ch := []) (b := b1) (off := 1) (v := .string o.path) rfl rfl (by kernel_rfl) (by kernel_rfl) (by kernel_rfl) (by kernel_rfl) (by kernel_rfl) (At.grp 1 0 rfl rfl) rfl ?_
            exact GL_yend (by kernel_rfl) (by kernel_rfl)
          refine GH_pure (E' := [⟨60, [], .pointer (some ⟨b1, 2, none⟩)⟩, ⟨59, [], .string o.path⟩, ⟨57, [], pt d⟩, ⟨1, [], pt x⟩, ⟨5, [], pt b1⟩, ⟨7, [], .slice a6 o.b.size cap7⟩, ⟨8, [], .int .i64 0⟩, ⟨9, [], .int .i64 0⟩]) 3 0 (by kernel_rfl) (fun w h => (Sat.dropMid (K := [_, _]) (Sat.dropMid (K := [_, _]) ((h.front (j := 1) rfl).front (j := 1) rfl)))) (by kernel_rfl) ?_
          refine GH_take' (E' := [⟨61, [], .string o.to⟩, ⟨60, [], .pointer (some ⟨b1, 2, none⟩)⟩, ⟨59, [], .string o.path⟩, ⟨57, [], pt d⟩, ⟨1, [], pt x⟩, ⟨5, [], pt b1⟩, ⟨7, [], .slice a6 o.b.size cap7⟩, ⟨8, [], .int .i64 0⟩, ⟨9, [], .int .i64 0⟩]) 4 (by kernel_rfl) (fun w h => (Sat.dropMid (K := [_, _]) (Sat.dropMid (K := [_, _]) ((h.front (j := 1) rfl).front (j := 1) rfl)))) ?_ ?_
          ·
            refine GL_load (i := 4) (ch := []) (b := b1) (off := 2) (v := .string o.to) rfl rfl (by kernel_rfl) (by kernel_rfl) (by kernel_rfl) (by kernel_rfl) (by kernel_rfl) (At.grp 1 0 rfl rfl) rfl ?_
            exact GL_yend (by kernel_rfl) (by kernel_rfl)
          refine GH_pure (E' := [⟨63, [], pt x⟩, ⟨61, [], .string o.to⟩, ⟨59, [], .string o.path⟩, ⟨57, [], pt d⟩, ⟨5, [], pt b1⟩, ⟨7, [], .slice a6 o.b.size cap7⟩, ⟨8, [], .int .i64 0⟩, ⟨9, [], .int .i64 0⟩]) 6 0 (by kernel_rfl) (fun w h => (Sat.dropMid (K := [_, _]) (Sat.dropMid (K := [_, _]) ((h.front (j := 1) rfl).front (j := 1) rfl)))) (by kernel_rfl) ?_
          refine GH_pure (E' := [⟨64, [], .pointer (some ⟨b1, 1, none⟩)⟩, ⟨63, [], pt x⟩, ⟨61, [], .string o.to⟩, ⟨59, [], .string o.path⟩, ⟨57, [], pt d⟩, ⟨5, [], pt b1⟩, ⟨7, [], .slice a6 o.b.size cap7⟩, ⟨8, [], .int .i64 0⟩, ⟨9, [], .int .i64 0⟩]) 7 0 (by kernel_rfl) (fun w h => (Sat.dropMid (K := [_, _]) (Sat.dropMid (K := [_, _]) ((h.front (j := 1) rfl).front (j := 1) rfl)))) (by kernel_rfl) ?_
          refine GH_take' (E' := [⟨65, [], .string o.path⟩, ⟨64, [], .pointer (some ⟨b1, 1, none⟩)⟩, ⟨63, [], pt x⟩, ⟨61, [], .string o.to⟩, ⟨59, [], .string o.path⟩, ⟨57, [], pt d⟩, ⟨5, [], pt b1⟩, ⟨7, [], .slice a6 o.b.size cap7⟩, ⟨8, [], .int .i64 0⟩, ⟨9, [], .int .i64 0⟩]) 8 (by kernel_rfl) (fun w h => (Sat.dropMid (K := [_, _]) (Sat.dropMid (K := [_, _]) ((h.front (j := 1) rfl).front (j := 1) rfl)))) ?_ ?_
          ·
            refine GL_load (i := 8) (ch := []) (b := b1) (off := 1) (v := .string o.path) rfl rfl (by kernel_rfl) (by kernel_rfl) (by kernel_rfl) (by kernel_rfl) (by kernel_rfl) (At.grp 1 0 rfl rfl) rfl ?_
            exact GL_yend (by kernel_rfl) (by kernel_rfl)
          refine GH_pure (E' := [⟨66, [], .pointer (some ⟨b1, 2, none⟩)⟩, ⟨65, [], .string o.path⟩, ⟨63, [], pt x⟩, ⟨61, [], .string o.to⟩, ⟨59, [], .string o.path⟩, ⟨57, [], pt d⟩, ⟨7, [], .slice a6 o.b.size cap7⟩, ⟨8, [], .int .i64 0⟩, ⟨9, [], .int .i64 0⟩]) 9 0 (by kernel_rfl) (fun w h => (Sat.dropMid (K := [_, _]) (Sat.dropMid (K := [_, _]) ((h.front (j := 1) rfl).front (j := 1) rfl)))) (by kernel_rfl) ?_
          refine GH_take' (E' := [⟨67, [], .string o.to⟩, ⟨66, [], .pointer (some ⟨b1, 2, none⟩)⟩, ⟨65, [], .string o.path⟩, ⟨63, [], pt x⟩, ⟨61, [], .string o.to⟩, ⟨59, [], .string o.path⟩, ⟨57, [], pt d⟩, ⟨7, [], .slice a6 o.b.size cap7⟩, ⟨8, [], .int .i64 0⟩, ⟨9, [], .int .i64 0⟩]) 10 (by kernel_rfl) (fun w h => (Sat.dropMid (K := [_, _]) (Sat.dropMid (K := [_, _]) ((h.front (j := 1) rfl).front (j := 1) rfl)))) ?_ ?_
          ·
            refine GL_load (i := 10) (ch := []) (b := b1) (off := 2) (v := .string o.to) rfl rfl (by kernel_rfl) (by kernel_rfl) (by kernel_rfl) (by kernel_rfl) (by kernel_rfl) (At.grp 1 0 rfl rfl) rfl ?_
            exact GL_yend (by kernel_rfl) (by kernel_rfl)
          refine GH_eff 5 (by kernel_rfl) (by kernel_rfl) (by kernel_rfl) ?_
          refine GL_call (i := 5) (ch := []) (f := 17) (fst := #[]) (caps := #[]) (vs := [pt d, .string o.path, .string o.to]) rfl rfl rfl (by kernel_rfl) (by kernel_rfl) Try.func17 rfl rfl (by kernel_rfl) (by kernel_rfl) (chSure_of (by kernel_rfl)) (dRename hs0 hM d o.path o.to hO.path hO.to [g4, [(b1, .cells #[.int .i64 o.kind, .string o.path, .string o.to, .slice o.ba o.b.size o.bc, .int .i64 o.n, .slice o.ka o.k.length o.kc] 41 (0, 0))]] _ (r0.G x N ++ H) rfl) ?_
          rintro v H' ⟨rfl, s5, hs5, rfl⟩
          refine GH_back (by kernel_rfl) (fun w h => (Sat.dropMid (K := [_, _]) (Sat.dropMid (K := [_, _]) ((h.front (j := 1) rfl).front (j := 1) rfl)))) ?_
          refine GH_eff 11 (by kernel_rfl) (by kernel_rfl) (by kernel_rfl) ?_
          refine GL_call (i := 11) (ch := []) (f := 48) (fst := #[]) (caps := #[]) (vs := [pt x, .string o.path, .string o.to]) rfl rfl rfl (by kernel_rfl) (by kernel_rfl) Try.func48 rfl rfl (by kernel_rfl) (by kernel_rfl) (chSure_of (by kernel_rfl)) (is_front2 (K := [g4, [(b1, .cells #[.int .i64 o.kind, .string o.path, .string o.to, .slice o.ba o.b.size o.bc, .int .i64 o.n, .slice o.ka o.k.length o.kc] 41 (0, 0))]]) (A := s5.G d (renameM M o.path o.to).2) (rRename x r0 N hr0 hN o.path o.to hO.path hO.to _ _)) ?_
          rintro v H' ⟨rfl, r6, hr6, rfl⟩
          refine GH_back (by kernel_rfl) (fun w h => (Sat.dropMid (K := [_, _]) (Sat.dropMid (K := [_, _]) ((h.front (j := 1) rfl).front (j := 1) rfl)))) ?_
          refine GH_pure (E' := [⟨8, [], .int .i64 ((renameM M o.path o.to).1)⟩, ⟨68, [], .int .i64 ((renameM N o.path o.to).1)⟩, ⟨7, [], .slice a6 o.b.size cap7⟩, ⟨9, [], .int .i64 0⟩]) 12 0 (by kernel_rfl) (fun w h => (Sat.dropMid (K := [_, _]) (Sat.dropMid (K := [_, _]) ((h.front (j := 1) rfl).front (j := 1) rfl)))) (by kernel_rfl) ?_
          refine GH_pure (E' := [⟨9, [], .int .i64 ((renameM N o.path o.to).1)⟩, ⟨8, [], .int .i64 ((renameM M o.path o.to).1)⟩, ⟨7, [], .slice a6 o.b.size cap7⟩]) 13 0 (by kernel_rfl) (fun w h => (Sat.dropMid (K := [_, _]) (Sat.dropMid (K := [_, _]) ((h.front (j := 1) rfl).front (j := 1) rfl)))) (by kernel_rfl) ?_
          refine GH_done (E' := [⟨7, [], .slice a6 o.b.size cap7⟩, ⟨8, [], .int .i64 ((renameM M o.path o.to).1)⟩, ⟨9, [], .int .i64 ((renameM N o.path o.to).1)⟩]) [7, 8, 9] (by kernel_rfl) (by kernel_rfl) ?_
          refine N_join (s5, r6, (renameM M o.path o.to).2, (renameM N o.path o.to).2, (renameM M o.path o.to).1, (renameM N o.path o.to).1) [7, 8, 9] (by kernel_rfl) (fun w h => ((h.front (j := 1) rfl).front (j := 1) rfl)) ⟨hs5, hr6, (by unfold doM; rw [if_neg hk0, if_neg hk1, if_pos hk2]), (by unfold doM; rw [if_neg hk0, if_neg hk1, if_pos hk2])⟩
        ·
          have hk2 : ¬ kindU o = 2 := by simpa [kindU] using hc12
          refine G_seq ?_
          refine G_pure (E' := [⟨0, [], pt d⟩, ⟨1, [], pt x⟩, ⟨5, [], pt b1⟩, ⟨7, [], .slice a6 o.b.size cap7⟩, ⟨8, [], .int .i64 0⟩, ⟨9, [], .int .i64 0⟩, ⟨18, [], .int .u64 (Int.tmod (IntKind.wrap .u64 o.kind) 8)⟩, ⟨69, [], .bool ((Int.tmod (IntKind.wrap .u64 o.kind) 8) == 3)⟩]) [0, 0] [0, 1, 5, 7, 8, 9, 18, 69] rfl (by kernel_rfl) ?_
          refine N_then ?_
          refine G_cond (b := (Int.tmod (IntKind.wrap .u64 o.kind) 8) == 3) (by kernel_rfl) (fun hc13 => ?_) (fun hc13 => ?_)
          ·
            have hk3 : kindU o = 3 := by simpa [kindU] using hc13
            -- L k3
            refine G_regionH (g4 :: [(b1, .cells #[.int .i64 o.kind, .string o.path, .string o.to, .slice o.ba o.b.size o.bc, .int .i64 o.n, .slice o.ka o.k.length o.kc] 41 (0, 0))] :: H) (by kernel_rfl) ?_
            refine GH_pure (E' := [⟨71, [], pt d⟩, ⟨1, [], pt x⟩, ⟨5, [], pt b1⟩, ⟨7, [], .slice a6 o.b.size cap7⟩, ⟨8, [], .int .i64 0⟩, ⟨9, [], .int .i64 0⟩]) 0 0 (by kernel_rfl) (fun w h => (Sat.dropMid (K := [_, _]) (Sat.dropMid (K := [_, _]) ((h.front (j := 1) rfl).front (j := 1) rfl)))) (by kernel_rfl) ?_
            refine GH_pure (E' := [⟨72, [], .pointer (some ⟨b1, 1, none⟩)⟩, ⟨71, [], pt d⟩, ⟨1, [], pt x⟩, ⟨5, [], pt b1⟩, ⟨7, [], .slice a6 o.b.size cap7⟩, ⟨8, [], .int .i64 0⟩, ⟨9, [], .int .i64 0⟩]) 1 0 (by kernel_rfl) (fun w h => (Sat.dropMid (K := [_, _]) (Sat.dropMid (K := [_, _]) ((h.front (j := 1) rfl).front (j := 1) rfl)))) (by kernel_rfl) ?_
            refine GH_take' (E' := [⟨73, [], .string o.path⟩, ⟨72, [], .pointer (some ⟨b1, 1, none⟩)⟩, ⟨71, [], pt d⟩, ⟨1, [], pt x⟩, ⟨5, [], pt b1⟩, ⟨7, [], .slice a6 o.b.size cap7⟩, ⟨8, [], .int .i64 0⟩, ⟨9, [], .int .i64 0⟩]) 2 (by kernel_rfl) (fun w h => (Sat.dropMid (K := [_, _]) (Sat.dropMid (K := [_, _]) ((h.front (j := 1) rfl).front (j := 1) rfl)))) ?_ ?_
            ·
              refine GL_load (i := 2) (ch := []) (b := b1) (off := 1) (v := .string o.path) rfl rfl (by kernel_rfl) (by kernel_rfl) (by kernel_rfl) (by kernel_rfl) (by kernel_rfl) (At.grp 1 0 rfl rfl) rfl ?_
              exact GL_yend (by kernel_rfl) (by kernel_rfl)
            refine GH_pure (E' := [⟨75, [], pt x⟩, ⟨73, [], .string o.path⟩, ⟨71, [], pt d⟩, ⟨5, [], pt b1⟩, ⟨7, [], .slice a6 o.b.size cap7⟩, ⟨8, [], .int .i64 0⟩, ⟨9, [], .int .i64 0⟩]) 4 0 (by kernel_rfl) (fun w h => (Sat.dropMid (K := [_, _]) (Sat.dropMid (K := [_, _]) ((h.front (j := 1) rfl).front (j := 1) rfl)))) (by kernel_rfl) ?_
            refine GH_pure (E' := [⟨76, [], .pointer (some ⟨b1, 1, none⟩)⟩, ⟨75, [], pt x⟩, ⟨73, [], .string o.path⟩, ⟨71, [], pt d⟩, ⟨7, [], .slice a6 o.b.size cap7⟩, ⟨8, [], .int .i64 0⟩, ⟨9, [], .int .i64 0⟩]) 5 0 (by kernel_rfl) (fun w h => (Sat.dropMid (K := [_, _]) (Sat.dropMid (K := [_, _]) ((h.front (j := 1) rfl).front (j := 1) rfl)))) (by kernel_rfl) ?_
            refine GH_take' (E' := [⟨77, [], .string o.path⟩, ⟨76, [], .pointer (some ⟨b1, 1, none⟩)⟩, ⟨75, [], pt x⟩, ⟨73, [], .string o.path⟩, ⟨71, [], pt d⟩, ⟨7, [], .slice a6 o.b.size cap7⟩, ⟨8, [], .int .i64 0⟩, ⟨9, [], .int .i64 0⟩]) 6 (by kernel_rfl) (fun w h => (Sat.dropMid (K := [_, _]) (Sat.dropMid (K := [_, _]) ((h.front (j := 1) rfl).front (j := 1) rfl)))) ?_ ?_
            ·
              refine GL_load (i := 6) (ch := []) (b := b1) (off := 1) (v := .string o.path) rfl rfl (by kernel_rfl) (by kernel_rfl) (by kernel_rfl) (by kernel_rfl) (by kernel_rfl) (At.grp 1 0 rfl rfl) rfl ?_
              exact GL_yend (by kernel_rfl) (by kernel_rfl)
            refine GH_eff 3 (by kernel_rfl) (by kernel_rfl) (by kernel_rfl) ?_
            refine GL_call (i := 3) (ch := []) (f := 43) (fst := #[]) (caps := #[]) (vs := [pt d, .string o.path]) rfl rfl rfl (by kernel_rfl) (by kernel_rfl) Try.func43 rfl rfl (by kernel_rfl) (by kernel_rfl) (chSure_of (by kernel_rfl)) (dRemove hs0 hM d o.path hO.path [g4, [(b1, .cells #[.int .i64 o.kind, .string o.path, .string o.to, .slice o.ba o.b.size o.bc, .int .i64 o.n, .slice o.ka o.k.length o.kc] 41 (0, 0))]] _ (r0.G x N ++ H) rfl) ?_
            rintro v H' ⟨rfl, s7, hs7, rfl⟩
            refine GH_back (by kernel_rfl) (fun w h => (Sat.dropMid (K := [_, _]) (Sat.dropMid (K := [_, _]) ((h.front (j := 1) rfl).front (j := 1) rfl)))) ?_
            refine GH_eff 7 (by kernel_rfl) (by kernel_rfl) (by kernel_rfl) ?_
            refine GL_call (i := 7) (ch := []) (f := 49) (fst := #[]) (caps := #[]) (vs := [pt x, .string o.path]) rfl rfl rfl (by kernel_rfl) (by kernel_rfl) Try.func49 rfl rfl (by kernel_rfl) (by kernel_rfl) (chSure_of (by kernel_rfl)) (is_front2 (K := [g4, [(b1, .cells #[.int .i64 o.kind, .string o.path, .string o.to, .slice o.ba o.b.size o.bc, .int .i64 o.n, .slice o.ka o.k.length o.kc] 41 (0, 0))]]) (A := s7.G d (removeM M o.path).2) (rRemove x r0 N hr0 hN o.path hO.path _ _)) ?_
            rintro v H' ⟨rfl, r8, hr8, rfl⟩
            refine GH_back (by kernel_rfl) (fun w h => (Sat.dropMid (K := [_, _]) (Sat.dropMid (K := [_, _]) ((h.front (j := 1) rfl).front (j := 1) rfl)))) ?_
            refine GH_pure (E' := [⟨8, [], .int .i64 ((removeM M o.path).1)⟩, ⟨78, [], .int .i64 ((removeM N o.path).1)⟩, ⟨7, [], .slice a6 o.b.size cap7⟩, ⟨9, [], .int .i64 0⟩]) 8 0 (by kernel_rfl) (fun w h => (Sat.dropMid (K := [_, _]) (Sat.dropMid (K := [_, _]) ((h.front (j := 1) rfl).front (j := 1) rfl)))) (by kernel_rfl) ?_
            refine GH_pure (E' := [⟨9, [], .int .i64 ((removeM N o.path).1)⟩, ⟨8, [], .int .i64 ((removeM M o.path).1)⟩, ⟨7, [], .slice a6 o.b.size cap7⟩]) 9 0 (by kernel_rfl) (fun w h => (Sat.dropMid (K := [_, _]) (Sat.dropMid (K := [_, _]) ((h.front (j := 1) rfl).front (j := 1) rfl)))) (by kernel_rfl) ?_
            refine GH_done (E' := [⟨7, [], .slice a6 o.b.size cap7⟩, ⟨8, [], .int .i64 ((removeM M o.path).1)⟩, ⟨9, [], .int .i64 ((removeM N o.path).1)⟩]) [7, 8, 9] (by kernel_rfl) (by kernel_rfl) ?_
            refine N_join (s7, r8, (removeM M o.path).2, (removeM N o.path).2, (removeM M o.path).1, (removeM N o.path).1) [7, 8, 9] (by kernel_rfl) (fun w h => ((h.front (j := 1) rfl).front (j := 1) rfl)) ⟨hs7, hr8, (by unfold doM; rw [if_neg hk0, if_neg hk1, if_neg hk2, if_pos hk3]), (by unfold doM; rw [if_neg hk0, if_neg hk1, if_neg hk2, if_pos hk3])⟩
          ·
            have hk3 : ¬ kindU o = 3 := by simpa [kindU] using hc13
            refine G_seq ?_
            refine G_pure (E' := [⟨0, [], pt d⟩, ⟨1, [], pt x⟩, ⟨5, [], pt b1⟩, ⟨7, [], .slice a6 o.b.size cap7⟩, ⟨8, [], .int .i64 0⟩, ⟨9, [], .int .i64 0⟩, ⟨18, [], .int .u64 (Int.tmod (IntKind.wrap .u64 o.kind) 8)⟩, ⟨79, [], .bool ((Int.tmod (IntKind.wrap .u64 o.kind) 8) == 4)⟩]) [0, 0] [0, 1, 5, 7, 8, 9, 18, 79] rfl (by kernel_rfl) ?_
            refine N_then ?_
            refine G_cond (b := (Int.tmod (IntKind.wrap .u64 o.kind) 8) == 4) (by kernel_rfl) (fun hc14 => ?_) (fun hc14 => ?_)
            ·
              have hk4 : kindU o = 4 := by simpa [kindU] using hc14
              -- L k4
              refine G_regionH (g4 :: [(b1, .cells #[.int .i64 o.kind, .string o.path, .string o.to, .slice o.ba o.b.size o.bc, .int .i64 o.n, .slice o.ka o.k.length o.kc] 41 (0, 0))] :: H) (by kernel_rfl) ?_
              refine GH_pure (E' := [⟨81, [], pt d⟩, ⟨1, [], pt x⟩, ⟨5, [], pt b1⟩, ⟨7, [], .slice a6 o.b.size cap7⟩, ⟨8, [], .int .i64 0⟩, ⟨9, [], .int .i64 0⟩]) 0 0 (by kernel_rfl) (fun w h => (Sat.dropMid (K := [_, _]) (Sat.dropMid (K := [_, _]) ((h.front (j := 1) rfl).front (j := 1) rfl)))) (by kernel_rfl) ?_
              refine GH_pure (E' := [⟨82, [], .pointer (some ⟨b1, 1, none⟩)⟩, ⟨81, [], pt d⟩, ⟨1, [], pt x⟩, ⟨5, [], pt b1⟩, ⟨7, [], .slice a6 o.b.size cap7⟩, ⟨8, [], .int .i64 0⟩, ⟨9, [], .int .i64 0⟩]) 1 0 (by kernel_rfl) (fun w h => (Sat.dropMid (K := [_, _]) (Sat.dropMid (K := [_, _]) ((h.front (j := 1) rfl).front (j := 1) rfl)))) (by kernel_rfl) ?_
              refine GH_take' (E' := [⟨83, [], .string o.path⟩, ⟨82, [], .pointer (some ⟨b1, 1, none⟩)⟩, ⟨81, [], pt d⟩, ⟨1, [], pt x⟩, ⟨5, [], pt b1⟩, ⟨7, [], .slice a6 o.b.size cap7⟩, ⟨8, [], .int .i64 0⟩, ⟨9, [], .int .i64 0⟩]) 2 (by kernel_rfl) (fun w h => (Sat.dropMid (K := [_, _]) (Sat.dropMid (K := [_, _]) ((h.front (j := 1) rfl).front (j := 1) rfl)))) ?_ ?_
              ·
                refine GL_load (i := 2) (ch := []) (b := b1) (off := 1) (v := .string o.path) rfl rfl (by kernel_rfl) (by kernel_rfl) (by kernel_rfl) (by kernel_rfl) (by kernel_rfl) (At.grp 1 0 rfl rfl) rfl ?_
                exact GL_yend (by kernel_rfl) (by kernel_rfl)
              refine GH_pure (E' := [⟨85, [], pt x⟩, ⟨83, [], .string o.path⟩, ⟨81, [], pt d⟩, ⟨5, [], pt b1⟩, ⟨7, [], .slice a6 o.b.size cap7⟩, ⟨8, [], .int .i64 0⟩, ⟨9, [], .int .i64 0⟩]) 4 0 (by kernel_rfl) (fun w h => (Sat.dropMid (K := [_, _]) (Sat.dropMid (K := [_, _]) ((h.front (j := 1) rfl).front (j := 1) rfl)))) (by kernel_rfl) ?_
              refine GH_pure (E' := [⟨86, [], .pointer (some ⟨b1, 1, none⟩)⟩, ⟨85, [], pt x⟩, ⟨83, [], .string o.path⟩, ⟨81, [], pt d⟩, ⟨7, [], .slice a6 o.b.size cap7⟩, ⟨8, [], .int .i64 0⟩, ⟨9, [], .int .i64 0⟩]) 5 0 (by kernel_rfl) (fun w h => (Sat.dropMid (K := [_, _]) (Sat.dropMid (K := [_, _]) ((h.front (j := 1) rfl).front (j := 1) rfl)))) (by kernel_rfl) ?_
              refine GH_take' (E' := [⟨87, [], .string o.path⟩, ⟨86, [], .pointer (some ⟨b1, 1, none⟩)⟩, ⟨85, [], pt x⟩, ⟨83, [], .string o.path⟩, ⟨81, [], pt d⟩, ⟨7, [], .slice a6 o.b.size cap7⟩, ⟨8, [], .int .i64 0⟩, ⟨9, [], .int .i64 0⟩]) 6 (by kernel_rfl) (fun w h => (Sat.dropMid (K := [_, _]) (Sat.dropMid (K := [_, _]) ((h.front (j := 1) rfl).front (j := 1) rfl)))) ?_ ?_
              ·
                refine GL_load (i := 6) (ch := []) (b := b1) (off := 1) (v := .string o.path) rfl rfl (by kernel_rfl) (by kernel_rfl) (by kernel_rfl) (by kernel_rfl) (by kernel_rfl) (At.grp 1 0 rfl rfl) rfl ?_
                exact GL_yend (by kernel_rfl) (by kernel_rfl)
              refine GH_eff 3 (by kernel_rfl) (by kernel_rfl) (by kernel_rfl) ?_
              refine GL_call (i := 3) (ch := []) (f := 14) (fst := #[]) (caps := #[]) (vs := [pt d, .string o.path]) rfl rfl rfl (by kernel_rfl) (by kernel_rfl) Try.func14 rfl rfl (by kernel_rfl) (by kernel_rfl) (chSure_of (by kernel_rfl)) (dSync hs0 hM d o.path hO.path [g4, [(b1, .cells #[.int .i64 o.kind, .string o.path, .string o.to, .slice o.ba o.b.size o.bc, .int .i64 o.n, .slice o.ka o.k.length o.kc] 41 (0, 0))]] _ (r0.G x N ++ H) rfl) ?_
              rintro v H' ⟨rfl, s9, hs9, rfl⟩
              refine GH_back (by kernel_rfl) (fun w h => (Sat.dropMid (K := [_, _]) (Sat.dropMid (K := [_, _]) ((h.front (j := 1) rfl).front (j := 1) rfl)))) ?_
              refine GH_eff 7 (by kernel_rfl) (by kernel_rfl) (by kernel_rfl) ?_
              refine GL_call (i := 7) (ch := []) (f := 50) (fst := #[]) (caps := #[]) (vs := [pt x, .string o.path]) rfl rfl rfl (by kernel_rfl) (by kernel_rfl) Try.func50 rfl rfl (by kernel_rfl) (by kernel_rfl) (chSure_of (by kernel_rfl)) (is_front2 (K := [g4, [(b1, .cells #[.int .i64 o.kind, .string o.path, .string o.to, .slice o.ba o.b.size o.bc, .int .i64 o.n, .slice o.ka o.k.length o.kc] 41 (0, 0))]]) (A := s9.G d (syncM M o.path).2) (rSync x r0 N hr0 hN o.path hO.path _ _)) ?_
              rintro v H' ⟨rfl, r10, hr10, rfl⟩
              refine GH_back (by kernel_rfl) (fun w h => (Sat.dropMid (K := [_, _]) (Sat.dropMid (K := [_, _]) ((h.front (j := 1) rfl).front (j := 1) rfl)))) ?_
              refine GH_pure (E' := [⟨8, [], .int .i64 ((syncM M o.path).1)⟩, ⟨88, [], .int .i64 ((syncM N o.path).1)⟩, ⟨7, [], .slice a6 o.b.size cap7⟩, ⟨9, [], .int .i64 0⟩]) 8 0 (by kernel_rfl) (fun w h => (Sat.dropMid (K := [_, _]) (Sat.dropMid (K := [_, _]) ((h.front (j := 1) rfl).front (j := 1) rfl)))) (by kernel_rfl) ?_
              refine GH_pure (E' := [⟨9, [], .int .i64 ((syncM N o.path).1)⟩, ⟨8, [], .int .i64 ((syncM M o.path).1)⟩, ⟨7, [], .slice a6 o.b.size cap7⟩]) 9 0 (by kernel_rfl) (fun w h => (Sat.dropMid (K := [_, _]) (Sat.dropMid (K := [_, _]) ((h.front (j := 1) rfl).front (j := 1) rfl)))) (by kernel_rfl) ?_
              refine GH_done (E' := [⟨7, [], .slice a6 o.b.size cap7⟩, ⟨8, [], .int .i64 ((syncM M o.path).1)⟩, ⟨9, [], .int .i64 ((syncM N o.path).1)⟩]) [7, 8, 9] (by kernel_rfl) (by kernel_rfl) ?_
              refine N_join (s9, r10, (syncM M o.path).2, (syncM N o.path).2, (syncM M o.path).1, (syncM N o.path).1) [7, 8, 9] (by kernel_rfl) (fun w h => ((h.front (j := 1) rfl).front (j := 1) rfl)) ⟨hs9, hr10, (by unfold doM; rw [if_neg hk0, if_neg hk1, if_neg hk2, if_neg hk3, if_pos hk4]), (by unfold doM; rw [if_neg hk0, if_neg hk1, if_neg hk2, if_neg hk3, if_pos hk4])⟩
            ·
              have hk4 : ¬ kindU o = 4 := by simpa [kindU] using hc14
              refine G_seq ?_
              refine G_pure (E' := [⟨0, [], pt d⟩, ⟨1, [], pt x⟩, ⟨5, [], pt b1⟩, ⟨7, [], .slice a6 o.b.size cap7⟩, ⟨8, [], .int .i64 0⟩, ⟨9, [], .int .i64 0⟩, ⟨18, [], .int .u64 (Int.tmod (IntKind.wrap .u64 o.kind) 8)⟩, ⟨89, [], .bool ((Int.tmod (IntKind.wrap .u64 o.kind) 8) == 5)⟩]) [0, 0] [0, 1, 5, 7, 8, 9, 18, 89] rfl (by kernel_rfl) ?_
              refine N_then ?_
              refine G_cond (b := (Int.tmod (IntKind.wrap .u64 o.kind) 8) == 5) (by kernel_rfl) (fun hc15 => ?_) (fun hc15 => ?_)
              ·
                have hk5 : kindU o = 5 := by simpa [kindU] using hc15
                -- L k5
                refine G_regionH (g4 :: [(b1, .cells #[.int .i64 o.kind, .string o.path, .string o.to, .slice o.ba o.b.size o.bc, .int .i64 o.n, .slice o.ka o.k.length o.kc] 41 (0, 0))] :: H) (by kernel_rfl) ?_
                refine GH_pure (E' := [⟨91, [], pt d⟩, ⟨1, [], pt x⟩, ⟨5, [], pt b1⟩, ⟨7, [], .slice a6 o.b.size cap7⟩, ⟨8, [], .int .i64 0⟩, ⟨9, [], .int .i64 0⟩]) 0 0 (by kernel_rfl) (fun w h => (Sat.dropMid (K := [_, _]) (Sat.dropMid (K := [_, _]) ((h.front (j := 1) rfl).front (j := 1) rfl)))) (by kernel_rfl) ?_
                refine GH_pure (E' := [⟨92, [], .pointer (some ⟨b1, 1, none⟩)⟩, ⟨91, [], pt d⟩, ⟨1, [], pt x⟩, ⟨5, [], pt b1⟩, ⟨7, [], .slice a6 o.b.size cap7⟩, ⟨8, [], .int .i64 0⟩, ⟨9, [], .int .i64 0⟩]) 1 0 (by kernel_rfl) (fun w h => (Sat.dropMid (K := [_, _]) (Sat.dropMid (K := [_, _]) ((h.front (j := 1) rfl).front (j := 1) rfl)))) (by kernel_rfl) ?_
                refine GH_take' (E' := [⟨93, [], .string o.path⟩, ⟨92, [], .pointer (some ⟨b1, 1, none⟩)⟩, ⟨91, [], pt d⟩, ⟨1, [], pt x⟩, ⟨5, [], pt b1⟩, ⟨7, [], .slice a6 o.b.size cap7⟩, ⟨8, [], .int .i64 0⟩, ⟨9, [], .int .i64 0⟩]) 2 (by kernel_rfl) (fun w h => (Sat.dropMid (K := [_, _]) (Sat.dropMid (K := [_, _]) ((h.front (j := 1) rfl).front (j := 1) rfl)))) ?_ ?_
                ·
                  refine GL_load (i := 2) (ch := []) (b := b1) (off := 1) (v := .string o.path) rfl rfl (by kernel_rfl) (by kernel_rfl) (by kernel_rfl) (by kernel_rfl) (by kernel_rfl) (At.grp 1 0 rfl rfl) rfl ?_
                  exact GL_yend (by kernel_rfl) (by kernel_rfl)
                refine GH_pure (E' := [⟨95, [], pt x⟩, ⟨93, [], .string o.path⟩, ⟨91, [], pt d⟩, ⟨5, [], pt b1⟩, ⟨7, [], .slice a6 o.b.size cap7⟩, ⟨8, [], .int .i64 0⟩, ⟨9, [], .int .i64 0⟩]) 4 0 (by kernel_rfl) (fun w h => (Sat.dropMid (K := [_, _]) (Sat.dropMid (K := [_, _]) ((h.front (j := 1) rfl).front (j := 1) rfl)))) (by kernel_rfl) ?_
                refine GH_pure (E' := [⟨96, [], .pointer (some ⟨b1, 1, none⟩)⟩, ⟨95, [], pt x⟩, ⟨93, [], .string o.path⟩, ⟨91, [], pt d⟩, ⟨7, [], .slice a6 o.b.size cap7⟩, ⟨8, [], .int .i64 0⟩, ⟨9, [], .int .i64 0⟩]) 5 0 (by kernel_rfl) (fun w h => (Sat.dropMid (K := [_, _]) (Sat.dropMid (K := [_, _]) ((h.front (j := 1) rfl).front (j := 1) rfl)))) (by kernel_rfl) ?_
                refine GH_take' (E' := [⟨97, [], .string o.path⟩, ⟨96, [], .pointer (some ⟨b1, 1, none⟩)⟩, ⟨95, [], pt x⟩, ⟨93, [], .string o.path⟩, ⟨91, [], pt d⟩, ⟨7, [], .slice a6 o.b.size cap7⟩, ⟨8, [], .int .i64 0⟩, ⟨9, [], .int .i64 0⟩]) 6 (by kernel_rfl) (fun w h => (Sat.dropMid (K := [_, _]) (Sat.dropMid (K := [_, _]) ((h.front (j := 1) rfl).front (j := 1) rfl)))) ?_ ?_
                ·
                  refine GL_load (i := 6) (ch := []) (b := b1) (off := 1) (v := .string o.path) rfl rfl (by kernel_rfl) (by kernel_rfl) (by kernel_rfl) (by kernel_rfl) (by kernel_rfl) (At.grp 1 0 rfl rfl) rfl ?_
                  exact GL_yend (by kernel_rfl) (by kernel_rfl)
                refine GH_eff 3 (by kernel_rfl) (by kernel_rfl) (by kernel_rfl) ?_
                refine GL_call (i := 3) (ch := []) (f := 15) (fst := #[]) (caps := #[]) (vs := [pt d, .string o.path]) rfl rfl rfl (by kernel_rfl) (by kernel_rfl) Try.func15 rfl rfl (by kernel_rfl) (by kernel_rfl) (chSure_of (by kernel_rfl)) (dSyncDir hs0 hM d o.path hO.path [g4, [(b1, .cells #[.int .i64 o.kind, .string o.path, .string o.to, .slice o.ba o.b.size o.bc, .int .i64 o.n, .slice o.ka o.k.length o.kc] 41 (0, 0))]] _ (r0.G x N ++ H) rfl) ?_
                rintro v H' ⟨rfl, s11, hs11, rfl⟩
                refine GH_back (by kernel_rfl) (fun w h => (Sat.dropMid (K := [_, _]) (Sat.dropMid (K := [_, _]) ((h.front (j := 1) rfl).front (j := 1) rfl)))) ?_
                refine GH_eff 7 (by kernel_rfl) (by kernel_rfl) (by kernel_rfl) ?_
                refine GL_call (i := 7) (ch := []) (f := 51) (fst := #[]) (caps := #[]) (vs := [pt x, .string o.path]) rfl rfl rfl (by kernel_rfl) (by kernel_rfl) Try.func51 rfl rfl (by kernel_rfl) (by kernel_rfl) (chSure_of (by kernel_rfl)) (is_front2 (K := [g4, [(b1, .cells #[.int .i64 o.kind, .string o.path, .string o.to, .slice o.ba o.b.size o.bc, .int .i64 o.n, .slice o.ka o.k.length o.kc] 41 (0, 0))]]) (A := s11.G d (syncDirM M o.path).2) (rSyncDir x r0 N hr0 hN o.path hO.path _ _)) ?_
                rintro v H' ⟨rfl, r12, hr12, rfl⟩
                refine GH_back (by kernel_rfl) (fun w h => (Sat.dropMid (K := [_, _]) (Sat.dropMid (K := [_, _]) ((h.front (j := 1) rfl).front (j := 1) rfl)))) ?_
                refine GH_pure (E' := [⟨8, [], .int .i64 ((syncDirM M o.path).1)⟩, ⟨98, [], .int .i64 ((syncDirM N o.path).1)⟩, ⟨7, [], .slice a6 o.b.size cap7⟩, ⟨9, [], .int .i64 0⟩]) 8 0 (by kernel_rfl) (fun w h => (Sat.dropMid (K := [_, _]) (Sat.dropMid (K := [_, _]) ((h.front (j := 1) rfl).front (j := 1) rfl)))) (by kernel_rfl) ?_
                refine GH_pure (E' := [⟨9, [], .int .i64 ((syncDirM N o.path).1)⟩, ⟨8, [], .int .i64 ((syncDirM M o.path).1)⟩, ⟨7, [], .slice a6 o.b.size cap7⟩]) 9 0 (by kernel_rfl) (fun w h => (Sat.dropMid (K := [_, _]) (Sat.dropMid (K := [_, _]) ((h.front (j := 1) rfl).front (j := 1) rfl)))) (by kernel_rfl) ?_
                refine GH_done (E' := [⟨7, [], .slice a6 o.b.size cap7⟩, ⟨8, [], .int .i64 ((syncDirM M o.path).1)⟩, ⟨9, [], .int .i64 ((syncDirM N o.path).1)⟩]) [7, 8, 9] (by kernel_rfl) (by kernel_rfl) ?_
                refine N_join (s11, r12, (syncDirM M o.path).2, (syncDirM N o.path).2, (syncDirM M o.path).1, (syncDirM N o.path).1) [7, 8, 9] (by kernel_rfl) (fun w h => ((h.front (j := 1) rfl).front (j := 1) rfl)) ⟨hs11, hr12, (by unfold doM; rw [if_neg hk0, if_neg hk1, if_neg hk2, if_neg hk3, if_neg hk4, if_pos hk5]), (by unfold doM; rw [if_neg hk0, if_neg hk1, if_neg hk2, if_neg hk3, if_neg hk4, if_pos hk5])⟩
              ·
                have hk5 : ¬ kindU o = 5 := by simpa [kindU] using hc15
                refine G_seq ?_
                refine G_pure (E' := [⟨0, [], pt d⟩, ⟨1, [], pt x⟩, ⟨5, [], pt b1⟩, ⟨7, [], .slice a6 o.b.size cap7⟩, ⟨8, [], .int .i64 0⟩, ⟨9, [], .int .i64 0⟩, ⟨99, [], .bool ((Int.tmod (IntKind.wrap .u64 o.kind) 8) == 6)⟩]) [0, 0] [0, 1, 5, 7, 8, 9, 99] rfl (by kernel_rfl) ?_
                refine N_then ?_
                refine G_cond (b := (Int.tmod (IntKind.wrap .u64 o.kind) 8) == 6) (by kernel_rfl) (fun hc16 => ?_) (fun hc16 => ?_)
                ·
                  have hk6 : kindU o = 6 := by simpa [kindU] using hc16
                  -- L k6
                  refine G_seq ?_
                  refine G_region ?_
                  refine GL_pure (E' := [⟨102, [], .pointer (some ⟨b1, 4, none⟩)⟩, ⟨101, [], pt d⟩, ⟨1, [], pt x⟩, ⟨5, [], pt b1⟩, ⟨7, [], .slice a6 o.b.size cap7⟩, ⟨8, [], .int .i64 0⟩, ⟨9, [], .int .i64 0⟩]) [0, 0] (by kernel_rfl) (j := 2) rfl ?_
                  refine GL_load (i := 2) (ch := []) (b := b1) (off := 4) (v := .int .i64 o.n) rfl rfl (by kernel_rfl) (by kernel_rfl) (by kernel_rfl) (by kernel_rfl) (by kernel_rfl) (At.grp 1 0 rfl rfl) rfl ?_
                  refine GL_pure (E' := [⟨104, [], .pointer (some ⟨b1, 3, none⟩)⟩, ⟨103, [], .int .i64 o.n⟩, ⟨101, [], pt d⟩, ⟨1, [], pt x⟩, ⟨5, [], pt b1⟩, ⟨7, [], .slice a6 o.b.size cap7⟩, ⟨8, [], .int .i64 0⟩, ⟨9, [], .int .i64 0⟩]) [0] (by kernel_rfl) (j := 4) rfl ?_
                  refine GL_load (i := 4) (ch := []) (b := b1) (off := 3) (v := .slice o.ba o.b.size o.bc) rfl rfl (by kernel_rfl) (by kernel_rfl) (by kernel_rfl) (by kernel_rfl) (by kernel_rfl) (At.grp 1 0 rfl rfl) rfl ?_
                  refine GL_pure (E' := [⟨107, [], .bool (decide (((o.b.size : Nat) : Int) > 0))⟩, ⟨103, [], .int .i64 o.n⟩, ⟨101, [], pt d⟩, ⟨1, [], pt x⟩, ⟨5, [], pt b1⟩, ⟨7, [], .slice a6 o.b.size cap7⟩, ⟨8, [], .int .i64 0⟩, ⟨9, [], .int .i64 0⟩]) [0, 0] (by kernel_rfl) (j := 7) rfl ?_
                  refine GL_call (i := 7) (ch := []) (f := 16) (fst := #[]) (caps := #[]) (vs := [pt d, .int .i64 o.n, .bool (decide (((o.b.size : Nat) : Int) > 0))]) rfl rfl rfl (by kernel_rfl) (by kernel_rfl) Try.func16 rfl rfl (by kernel_rfl) (by kernel_rfl) (chSure_of (by kernel_rfl)) (dFail hs0 d o.n (decide (((o.b.size : Nat) : Int) > 0)) [g4, [(b1, .cells #[.int .i64 o.kind, .string o.path, .string o.to, .slice o.ba o.b.size o.bc, .int .i64 o.n, .slice o.ka o.k.length o.kc] 41 (0, 0))]] _ (r0.G x N ++ H) rfl) ?_
                  rintro v H' ⟨rfl, s13, hs13, rfl⟩
                  refine GL_fin (E' := [⟨1, [], pt x⟩, ⟨5, [], pt b1⟩, ⟨7, [], .slice a6 o.b.size cap7⟩, ⟨8, [], .int .i64 0⟩, ⟨9, [], .int .i64 0⟩]) [] [1, 5, 7, 8, 9] rfl (by kernel_rfl) ?_
                  refine N_then ?_
                  refine G_region ?_
                  refine GL_pure (E' := [⟨110, [], .pointer (some ⟨b1, 4, none⟩)⟩, ⟨109, [], pt x⟩, ⟨5, [], pt b1⟩, ⟨7, [], .slice a6 o.b.size cap7⟩, ⟨8, [], .int .i64 0⟩, ⟨9, [], .int .i64 0⟩]) [0, 0] (by kernel_rfl) (j := 2) rfl ?_
                  refine GL_load (i := 2) (ch := []) (b := b1) (off := 4) (v := .int .i64 o.n) rfl rfl (by kernel_rfl) (by kernel_rfl) (by kernel_rfl) (by kernel_rfl) (by kernel_rfl) (At.grp 1 0 rfl rfl) rfl ?_
                  refine GL_pure (E' := [⟨112, [], .pointer (some ⟨b1, 3, none⟩)⟩, ⟨111, [], .int .i64 o.n⟩, ⟨109, [], pt x⟩, ⟨7, [], .slice a6 o.b.size cap7⟩, ⟨8, [], .int .i64 0⟩, ⟨9, [], .int .i64 0⟩]) [0] (by kernel_rfl) (j := 4) rfl ?_
                  refine GL_load (i := 4) (ch := []) (b := b1) (off := 3) (v := .slice o.ba o.b.size o.bc) rfl rfl (by kernel_rfl) (by kernel_rfl) (by kernel_rfl) (by kernel_rfl) (by kernel_rfl) (At.grp 1 0 rfl rfl) rfl ?_
                  refine GL_pure (E' := [⟨115, [], .bool (decide (((o.b.size : Nat) : Int) > 0))⟩, ⟨111, [], .int .i64 o.n⟩, ⟨109, [], pt x⟩, ⟨7, [], .slice a6 o.b.size cap7⟩, ⟨8, [], .int .i64 0⟩, ⟨9, [], .int .i64 0⟩]) [0, 0] (by kernel_rfl) (j := 7) rfl ?_
                  refine GL_call (i := 7) (ch := []) (f := 52) (fst := #[]) (caps := #[]) (vs := [pt x, .int .i64 o.n, .bool (decide (((o.b.size : Nat) : Int) > 0))]) rfl rfl rfl (by kernel_rfl) (by kernel_rfl) Try.func52 rfl rfl (by kernel_rfl) (by kernel_rfl) (chSure_of (by kernel_rfl)) (is_front2 (K := [g4, [(b1, .cells #[.int .i64 o.kind, .string o.path, .string o.to, .slice o.ba o.b.size o.bc, .int .i64 o.n, .slice o.ka o.k.length o.kc] 41 (0, 0))]]) (A := s13.G d (failM M o.n (decide (((o.b.size : Nat) : Int) > 0)))) (rFail x r0 N hr0 o.n (decide (((o.b.size : Nat) : Int) > 0)) _ _)) ?_
                  rintro v H' ⟨rfl, r14, hr14, rfl⟩
                  refine GL_fin (E' := [⟨7, [], .slice a6 o.b.size cap7⟩, ⟨8, [], .int .i64 0⟩, ⟨9, [], .int .i64 0⟩]) [] [7, 8, 9] rfl (by kernel_rfl) ?_
                  refine N_join (s13, r14, (failM M o.n (decide (((o.b.size : Nat) : Int) > 0))), (failM N o.n (decide (((o.b.size : Nat) : Int) > 0))), 0, 0) [7, 8, 9] (by kernel_rfl) (fun w h => ((h.front (j := 1) rfl).front (j := 1) rfl)) ⟨hs13, hr14, (by unfold doM; rw [if_neg hk0, if_neg hk1, if_neg hk2, if_neg hk3, if_neg hk4, if_neg hk5, if_pos hk6]), (by unfold doM; rw [if_neg hk0, if_neg hk1, if_neg hk2, if_neg hk3, if_neg hk4, if_neg hk5, if_pos hk6])⟩
                ·
                  have hk6 : ¬ kindU o = 6 := by simpa [kindU] using hc16
                  refine G_seq ?_
                  refine G_region ?_
                  refine GL_pure (E' := [⟨20, [], .pointer (some ⟨b1, 5, none⟩)⟩, ⟨19, [], pt d⟩, ⟨1, [], pt x⟩, ⟨5, [], pt b1⟩, ⟨7, [], .slice a6 o.b.size cap7⟩, ⟨8, [], .int .i64 0⟩, ⟨9, [], .int .i64 0⟩]) [0, 0] (by kernel_rfl) (j := 2) rfl ?_
                  refine GL_load (i := 2) (ch := []) (b := b1) (off := 5) (v := .slice o.ka o.k.length o.kc) rfl rfl (by kernel_rfl) (by kernel_rfl) (by kernel_rfl) (by kernel_rfl) (by kernel_rfl) (At.grp 1 0 rfl rfl) rfl ?_
                  refine GL_call (i := 3) (ch := []) (f := 18) (fst := #[]) (caps := #[]) (vs := [pt d, .slice o.ka o.k.length o.kc]) rfl rfl rfl (by kernel_rfl) (by kernel_rfl) Try.func18 rfl rfl (by kernel_rfl) (by kernel_rfl) (chSure_of (by kernel_rfl)) (dCrash (M' := (crashM M o.k)) hs0 hM d o.k o.ka o.kc S ⟨hO.k, hO.kc, hk, hO.ki⟩ [g4, [(b1, .cells #[.int .i64 o.kind, .string o.path, .string o.to, .slice o.ba o.b.size o.bc, .int .i64 o.n, .slice o.ka o.k.length o.kc] 41 (0, 0))]] _ (r0.G x N ++ H) (fun y o h => at_up (hO.at_ y o h)) rfl) ?_
                  rintro v H' ⟨rfl, s15, hs15, rfl⟩
                  refine GL_fin (E' := [⟨1, [], pt x⟩, ⟨5, [], pt b1⟩, ⟨7, [], .slice a6 o.b.size cap7⟩, ⟨8, [], .int .i64 0⟩, ⟨9, [], .int .i64 0⟩]) [] [1, 5, 7, 8, 9] rfl (by kernel_rfl) ?_
                  refine N_then ?_
                  refine G_region ?_
                  refine GL_pure (E' := [⟨24, [], .pointer (some ⟨b1, 5, none⟩)⟩, ⟨23, [], pt x⟩, ⟨7, [], .slice a6 o.b.size cap7⟩, ⟨8, [], .int .i64 0⟩, ⟨9, [], .int .i64 0⟩]) [0, 0] (by kernel_rfl) (j := 2) rfl ?_
                  refine GL_load (i := 2) (ch := []) (b := b1) (off := 5) (v := .slice o.ka o.k.length o.kc) rfl rfl (by kernel_rfl) (by kernel_rfl) (by kernel_rfl) (by kernel_rfl) (by kernel_rfl) (At.grp 1 0 rfl rfl) rfl ?_
                  refine GL_call (i := 3) (ch := []) (f := 53) (fst := #[]) (caps := #[]) (vs := [pt x, .slice o.ka o.k.length o.kc]) rfl rfl rfl (by kernel_rfl) (by kernel_rfl) Try.func53 rfl rfl (by kernel_rfl) (by kernel_rfl) (chSure_of (by kernel_rfl)) (is_front2 (K := [g4, [(b1, .cells #[.int .i64 o.kind, .string o.path, .string o.to, .slice o.ba o.b.size o.bc, .int .i64 o.n, .slice o.ka o.k.length o.kc] 41 (0, 0))]]) (A := s15.G d (crashM M o.k)) (rCrash x r0 N hr0 hN o.k o.ka o.kc S _ _ hO.k hO.ki (fun y o h => at_up (hO.at_ y o h)))) ?_
                  rintro v H' ⟨rfl, r16, hr16, rfl⟩
                  refine GL_fin (E' := [⟨7, [], .slice a6 o.b.size cap7⟩, ⟨8, [], .int .i64 0⟩, ⟨9, [], .int .i64 0⟩]) [] [7, 8, 9] rfl (by kernel_rfl) ?_
                  refine N_join (s15, r16, (crashM M o.k), (crashM N o.k), 0, 0) [7, 8, 9] (by kernel_rfl) (fun w h => ((h.front (j := 1) rfl).front (j := 1) rfl)) ⟨hs15, hr16, (by unfold doM; rw [if_neg hk0, if_neg hk1, if_neg hk2, if_neg hk3, if_neg hk4, if_neg hk5, if_neg hk6]), (by unfold doM; rw [if_neg hk0, if_neg hk1, if_neg hk2, if_neg hk3, if_neg hk4, if_neg hk5, if_neg hk6])⟩
  ·
    rintro ⟨sJ, rJ, MJ, NJ, eJ, fJ⟩ ⟨hsJ, hrJ, hdM, hdN⟩
    refine N_block ?_
    refine N_then ?_
    refine G_seq ?_
    refine G_seq ?_
    refine G_pure (E' := [⟨7, [], .slice a6 o.b.size cap7⟩, ⟨8, [], .int .i64 eJ⟩, ⟨9, [], .int .i64 fJ⟩, ⟨118, [], .int .i64 ((o.b.size : Nat) : Int)⟩, ⟨119, [], .int .i64 0⟩]) [0, 0, 0] [7, 8, 9, 118, 119] rfl (by kernel_rfl) ?_
    refine N_then ?_
    refine G_block ?_
    refine G_heap (H' := (g4 :: [(b1, .cells #[.int .i64 o.kind, .string o.path, .string o.to, .slice o.ba o.b.size o.bc, .int .i64 o.n, .slice o.ka o.k.length o.kc] 41 (0, 0))] :: (sJ.G d MJ ++ (rJ.G x NJ ++ H)))) (fun w h => ((h.front (j := 1) rfl).front (j := 1) rfl)) ?_
    refine G_loop (EI := (fun ξ : Nat × List Int × Grp => [⟨7, [], .slice a6 o.b.size cap7⟩, ⟨8, [], .int .i64 eJ⟩, ⟨9, [], .int .i64 fJ⟩, ⟨118, [], .int .i64 ((o.b.size : Nat) : Int)⟩, ⟨119, [], .int .i64 ((ξ.1 : Nat) : Int)⟩])) (HI := (fun ξ : Nat × List Int × Grp => (ξ.2.2 :: [(b1, .cells #[.int .i64 o.kind, .string o.path, .string o.to, .slice o.ba o.b.size o.bc, .int .i64 o.n, .slice o.ka o.k.length o.kc] 41 (0, 0))] :: (sJ.G d MJ ++ (rJ.G x NJ ++ H))))) (Φ := (fun ξ : Nat × List Int × Grp => (ξ.1 ≤ o.b.size) ∧ (ξ.2.1.length = o.b.size) ∧ (Own 5 1 (.slice a6 o.b.size cap7) ξ.2.2 o.b.size (ξ.2.1.map (Value.int .u8))))) (μ := (fun ξ : Nat × List Int × Grp => o.b.size - ξ.1)) (s0 := (0, (o.b.data.toList.map fun b => (b.toNat : Int)), g4)) [7, 8, 9, 118, 119] (by kernel_rfl) rfl ⟨(by omega), (by show (List.map _ _).length = _; rw [List.length_map]; exact Array.length_toList), (own_z hO5)⟩ ?_
    rintro ⟨k17, z18, gz19⟩ ⟨hk17, hlz18, hz20⟩
    replace hk17 : k17 ≤ o.b.size := hk17
    replace hlz18 : z18.length = o.b.size := hlz18
    replace hz20 : Own 5 1 (.slice a6 o.b.size cap7) gz19 o.b.size (z18.map (Value.int .u8)) := hz20
    refine G_seq ?_
    refine G_pure (E' := [⟨7, [], .slice a6 o.b.size cap7⟩, ⟨8, [], .int .i64 eJ⟩, ⟨9, [], .int .i64 fJ⟩, ⟨118, [], .int .i64 ((o.b.size : Nat) : Int)⟩, ⟨119, [], .int .i64 ((k17 : Nat) : Int)⟩, ⟨120, [], .bool (decide (((k17 : Nat) : Int) < ((o.b.size : Nat) : Int)))⟩]) [0] [7, 8, 9, 118, 119, 120] rfl (by kernel_rfl) ?_
    refine N_then ?_
    refine G_seq ?_
    refine G_cond (b := decide (((k17 : Nat) : Int) < ((o.b.size : Nat) : Int))) (by kernel_rfl) (fun hc21 => ?_) (fun hc21 => ?_)
    ·
      replace hc21 := of_decide_eq_true hc21
      refine G_skip ?_
      refine N_then ?_
      refine G_seq ?_
      refine G_block ?_
      refine G_seq ?_
      refine G_pure (E' := [⟨7, [], .slice a6 o.b.size cap7⟩, ⟨8, [], .int .i64 eJ⟩, ⟨9, [], .int .i64 fJ⟩, ⟨10, [], .int .i64 ((k17 : Nat) : Int)⟩, ⟨118, [], .int .i64 ((o.b.size : Nat) : Int)⟩, ⟨119, [], .int .i64 ((k17 : Nat) : Int)⟩]) [0, 0] [7, 8, 9, 10, 118, 119] rfl (by kernel_rfl) ?_
      refine N_then ?_
      refine G_region ?_
      refine GL_pure (E' := [⟨123, [], .int .i64 ((k17 : Nat) : Int)⟩, ⟨122, [], .slice a6 o.b.size cap7⟩, ⟨7, [], .slice a6 o.b.size cap7⟩, ⟨8, [], .int .i64 eJ⟩, ⟨9, [], .int .i64 fJ⟩, ⟨118, [], .int .i64 ((o.b.size : Nat) : Int)⟩, ⟨119, [], .int .i64 ((k17 : Nat) : Int)⟩]) [0, 0] (by kernel_rfl) (j := 2) rfl ?_
      refine GL_indexAddr (i := 2) (ch := []) (a := a6) (len := o.b.size) (cap := cap7) (kd := .i64) (j := ((k17 : Nat) : Int)) (e := 5) (sz := 1) (S := (inG gz19)) (cs := (z18.map (Value.int .u8))) rfl rfl (by kernel_rfl) (by kernel_rfl) (by kernel_rfl) (by kernel_rfl) (by kernel_rfl) (by kernel_rfl) (by kernel_rfl) (own_rd hz20) (fun _ => by exact ⟨by omega, by omega, zs_ne (k := 0) (by omega)⟩) ?_
      refine GL_loadS (i := 3) (ch := []) (a := a6) (q := k17 * 1) (S := (inG gz19)) (cs := (z18.map (Value.int .u8))) (v := .int .u8 (z18.getD k17 0)) rfl rfl (by kernel_rfl) (by kernel_rfl) (by kernel_rfl) (by kernel_rfl) (by kernel_rfl) (own_rd hz20) (at_inG 0 rfl) (fun _ => (by rw [Nat.mul_one]; exact zs_at (by omega))) ?_
      refine GL_pure (E' := [⟨126, [], .int .u8 (IntKind.wrap .u8 ((BitVec.ofInt (IntKind.bits .u8) (z18.getD k17 0) ^^^ BitVec.ofInt (IntKind.bits .u8) 255).toNat))⟩, ⟨123, [], .int .i64 ((k17 : Nat) : Int)⟩, ⟨122, [], .slice a6 o.b.size cap7⟩, ⟨7, [], .slice a6 o.b.size cap7⟩, ⟨8, [], .int .i64 eJ⟩, ⟨9, [], .int .i64 fJ⟩, ⟨118, [], .int .i64 ((o.b.size : Nat) : Int)⟩, ⟨119, [], .int .i64 ((k17 : Nat) : Int)⟩]) [0] (by kernel_rfl) (j := 5) rfl ?_
      refine GL_indexAddr (i := 5) (ch := []) (a := a6) (len := o.b.size) (cap := cap7) (kd := .i64) (j := ((k17 : Nat) : Int)) (e := 5) (sz := 1) (S := (inG gz19)) (cs := (z18.map (Value.int .u8))) rfl rfl (by kernel_rfl) (by kernel_rfl) (by kernel_rfl) (by kernel_rfl) (by kernel_rfl) (by kernel_rfl) (by kernel_rfl) (own_rd hz20) (fun _ => by exact ⟨by omega, by omega, zs_ne (k := 0) (by omega)⟩) ?_
      refine GL_storeO (i := 6) (ch := []) (a := a6) (q := k17 * 1) (len := o.b.size) (cap := cap7) (v := .int .u8 (IntKind.wrap .u8 ((BitVec.ofInt (IntKind.bits .u8) (z18.getD k17 0) ^^^ BitVec.ofInt (IntKind.bits .u8) 255).toNat))) (g := gz19) (j := 0) (cs := (z18.map (Value.int .u8))) (cs' := ((z18.set k17 (IntKind.wrap .u8 ((BitVec.ofInt (IntKind.bits .u8) (z18.getD k17 0) ^^^ BitVec.ofInt (IntKind.bits .u8) 255).toNat))).map (Value.int .u8))) rfl rfl (by kernel_rfl) (by kernel_rfl) (by kernel_rfl) (by kernel_rfl) rfl (by kernel_rfl) (by kernel_rfl) (by kernel_rfl) rfl hz20 (by rw [List.length_map]; omega) (by rw [Nat.mul_one]; exact zs_set) (fun g22 hO23 => ?_)
      refine GL_fin (E' := [⟨7, [], .slice a6 o.b.size cap7⟩, ⟨8, [], .int .i64 eJ⟩, ⟨9, [], .int .i64 fJ⟩, ⟨118, [], .int .i64 ((o.b.size : Nat) : Int)⟩, ⟨119, [], .int .i64 ((k17 : Nat) : Int)⟩]) [] [7, 8, 9, 118, 119] rfl (by kernel_rfl) ?_
      refine N_block ?_
      refine N_then ?_
      have hw24 : IntKind.wrap .i64 (((k17 : Nat) : Int) + 1) = ((k17 : Nat) : Int) + 1 := w64 (by omega) (by omega)
      refine G_pure (E' := [⟨7, [], .slice a6 o.b.size cap7⟩, ⟨8, [], .int .i64 eJ⟩, ⟨9, [], .int .i64 fJ⟩, ⟨118, [], .int .i64 ((o.b.size : Nat) : Int)⟩, ⟨119, [], .int .i64 (((k17 : Nat) : Int) + 1)⟩]) [0, 0] [7, 8, 9, 118, 119] rfl (Eq.trans (b := some [⟨7, [], .slice a6 o.b.size cap7⟩, ⟨8, [], .int .i64 eJ⟩, ⟨9, [], .int .i64 fJ⟩, ⟨118, [], .int .i64 ((o.b.size : Nat) : Int)⟩, ⟨119, [], .int .i64 (IntKind.wrap .i64 (((k17 : Nat) : Int) + 1))⟩]) (by kernel_rfl) (by simp only [hw24])) ?_
      refine N_heap (H' := (g22 :: [(b1, .cells #[.int .i64 o.kind, .string o.path, .string o.to, .slice o.ba o.b.size o.bc, .int .i64 o.n, .slice o.ka o.k.length o.kc] 41 (0, 0))] :: (sJ.G d MJ ++ (rJ.G x NJ ++ H)))) (fun w h => ((h.front (j := 1) rfl).front (j := 1) rfl)) ?_
      refine N_heq (H' := (g22 :: [(b1, .cells #[.int .i64 o.kind, .string o.path, .string o.to, .slice o.ba o.b.size o.bc, .int .i64 o.n, .slice o.ka o.k.length o.kc] 41 (0, 0))] :: (sJ.G d MJ ++ (rJ.G x NJ ++ H)))) rfl ?_
      refine N_round (s' := (k17 + 1, (z18.set k17 (IntKind.wrap .u8 ((BitVec.ofInt (IntKind.bits .u8) (z18.getD k17 0) ^^^ BitVec.ofInt (IntKind.bits .u8) 255).toNat))), g22)) [7, 8, 9, 118, 119] (by kernel_rfl) rfl ⟨(by omega), (by show (List.set _ _ _).length = _; rw [List.length_set]; exact hlz18), hO23⟩ (by omega)
    ·
      replace hc21 := of_decide_eq_false hc21
      refine G_exit ?_
      refine N_then_exit ?_
      refine N_then_exit ?_
      refine N_block_exit ?_
      refine N_then ?_
      refine G_seq ?_
      refine G_pure (E' := [⟨6, [], .bool (eJ == fJ)⟩]) [0, 0, 0, 0] [6] rfl (by kernel_rfl) ?_
      refine N_then ?_
      refine G_ret ?_
      refine N_heap (H' := (gz19 :: (sJ.G d MJ ++ (rJ.G x NJ ++ H)))) (fun w h => h.erase 1) ?_
      refine N_heap (H' := (sJ.G d MJ ++ (rJ.G x NJ ++ H))) (fun w h => h.erase 0) ?_
      refine N_ret [.tmp 6] [.bool (eJ == fJ)] rfl (by kernel_rfl) rfl ?_
      rw [hdM, hdN]
      exact ⟨rfl, sJ, rJ, hsJ, hrJ, rfl⟩
end Go.Proofs.Ytbmieiffboenbaa
namespace Go.Vf
open Go.Sw Go.RowKit Go.Proofs Go.Proofs.Ytbmieiffboenbaa
theorem dDo {s : DS} {r : RS} {M N : DM} (hs : s.ok M) (hr : r.ok N) (hM : Small M) (hN : SmallR N) (d x : Nat) (S : Nat → Obj → Prop) (o : OpV) (hb : o.b.size ≤ 1000000000) (hk : o.k.length ≤ 1000000000) (K : List Grp) (W0 : World) (H : List Grp) (hO : OpOk S W0 [] o) :
    Tri Try.prog 24 #[pt d, pt x, .agg #[.int .i64 o.kind, .string o.path, .string o.to, .slice o.ba o.b.size o.bc, .int .i64 o.n, .slice o.ka o.k.length o.kc]] W0 (K ++ (s.G d M ++ (r.G x N ++ H)))
      (fun v H' => v = .bool ((doM M o).1 == (doM N o).1) ∧ ∃ (s1 : DS) (r1 : RS), s1.ok (doM M o).2 ∧ r1.ok (doM N o).2 ∧ H' = K ++ (s1.G d (doM M o).2 ++ (r1.G x (doM N o).2 ++ H))) := by
  refine Tri.heap (H' := s.G d M ++ (r.G x N ++ (K ++ H))) (fun _ hw => sat_cnt hw fun _ x => by simp only [List.flatten_append, List.count_append]; omega) (Tri.post (vDo d x s r M N hs hr hM hN S o hb hk W0 (K ++ H) hO) fun v H1 ⟨hv, s1, r1, h1, h2, hH⟩ => ⟨_, ⟨hv, s1, r1, h1, h2, rfl⟩, fun w hw => ?_⟩)
  rw [hH] at hw
  exact sat_cnt hw fun _ x => by simp only [List.flatten_append, List.count_append]; omega
theorem xNew (room : Int) (K A : List Grp) (W0 : World) (H : List Grp) : Tri Try.prog 23 #[.int .i64 room] W0 (K ++ (A ++ H)) (fun v H' => ∃ x, v = pt x ∧ ∃ r : RS, r.ok (newM room) ∧ H' = K ++ (A ++ (r.G x (newM room) ++ H))) :=
  Tri.post (rNew room W0 (K ++ (A ++ H))) fun v H1 ⟨x, hv, r, hr, hH⟩ => ⟨_, ⟨x, hv, r, hr, rfl⟩, fun w hw => by rw [hH] at hw; exact front2_of hw⟩
theorem read_size {M : DM} (hm : Small M) {p b : ByteArray} {e : Int} (he : readM M p = (b, e)) : b.size ≤ 10000000 := by
  unfold readM at he
  split at he
  · injection he with h1 h2; subst h1; exact Nat.zero_le _
  · injection he with h1 h2; subst h1
    rename_i k _
    unfold bodyAt
    rw [List.getD_eq_getElem?_getD]
    by_cases hk : k.toNat < M.bodies.length
    · rw [List.getElem?_eq_getElem hk]; exact (hm.size _ (List.getElem_mem hk)).1
    · rw [List.getElem?_eq_none (by omega)]; exact Nat.zero_le _
theorem xRead {r : RS} {N : DM} {b : ByteArray} {e : Int} (hr : r.ok N) (hm : SmallR N) (x : Nat) (p : ByteArray) (K A : List Grp) (W0 : World) (H : List Grp) (he : readM N p = (b, e)) :
    Tri Try.prog 25 #[pt x, .string p] W0 (K ++ (A ++ (r.G x N ++ H))) (fun v H' => v = .tuple #[.string b, .int .i64 e] ∧ H' = K ++ (A ++ (r.G x N ++ H))) := by
  have := rRead x r N hr hm p W0 (K ++ (A ++ H))
  rw [he] at this
  exact is_front2q this
theorem listM_len (M : DM) (d : ByteArray) : (listM M d).length ≤ M.names.length := by
  unfold listM
  rw [sortB_len, List.length_map]; exact List.length_filter_le _ _
end Go.Vf
namespace Go.Proofs.Ytbmieiffboenbaa
open Go.Sw Go.Lib Go.Vf Go.RowKit
set_option maxHeartbeats 4000000 in
theorem vfsPlays_ (ao : Option Addr) (co : Nat) (So : Nat → Obj → Prop) (room : Int) (ops : List OpV) (W0 : World) (hro : Rd So ao (ops.flatMap opCells)) (hol : ops.length ≤ 9223372036854775807) (hOk : ∀ o ∈ ops, OpOk So W0 [] o) (hSo : ∀ y o, So y o → At W0 [] y o) (H : List Grp) : Tri Try.prog 6 #[.int .i64 room, .slice ao ops.length co] W0 H (fun v H' => v = .bool true ∧ ∃ G, H' = G ++ H) := by
  refine Tri_of (args := [.int .i64 room, .slice ao ops.length co]) (n := 135) Try.func6 rfl rfl (Nat.le_of_ble_eq_true rfl) ?_
  refine G_seq ?_
  refine G_pure (E' := [⟨0, [], .int .i64 room⟩, ⟨1, [], .slice ao ops.length co⟩]) [0] [0, 1] rfl (by kernel_rfl) ?_
  refine N_then ?_
  refine G_seq ?_
  refine G_seq ?_
  refine G_region ?_
  refine GL_call (i := 0) (ch := []) (f := 9) (fst := #[]) (caps := #[]) (vs := []) rfl rfl rfl (by kernel_rfl) (by kernel_rfl) Try.func9 rfl rfl (by kernel_rfl) (by kernel_rfl) (chSure_of (by kernel_rfl)) (vFirst _ _) ?_
  rintro v H' ⟨rfl, G, rfl⟩
  refine GL_fin (E' := [⟨0, [], .int .i64 room⟩, ⟨1, [], .slice ao ops.length co⟩, ⟨17, [], .bool false⟩]) [0] [0, 1, 17] rfl (by kernel_rfl) ?_
  refine N_then ?_
  refine G_condf (by kernel_rfl) ?_
  refine G_skip ?_
  refine N_then ?_
  refine G_seq ?_
  refine G_region ?_
  refine GL_pure (E' := [⟨18, [], .int .i64 room⟩, ⟨0, [], .int .i64 room⟩, ⟨1, [], .slice ao ops.length co⟩]) [0] (by kernel_rfl) (j := 1) rfl ?_
  refine GL_call (i := 1) (ch := []) (f := 12) (fst := #[]) (caps := #[]) (vs := [.int .i64 room]) rfl rfl rfl (by kernel_rfl) (by kernel_rfl) Try.func12 rfl rfl (by kernel_rfl) (by kernel_rfl) (chSure_of (by kernel_rfl)) (dNew room (M := (newM room)) _ _ rfl) ?_
  rintro v H' ⟨d1, rfl, s1, hs1, rfl⟩
  refine GL_pure (E' := [⟨20, [], .int .i64 room⟩, ⟨19, [], pt d1⟩, ⟨1, [], .slice ao ops.length co⟩]) [0] (by kernel_rfl) (j := 3) rfl ?_
  refine GL_call (i := 3) (ch := []) (f := 23) (fst := #[]) (caps := #[]) (vs := [.int .i64 room]) rfl rfl rfl (by kernel_rfl) (by kernel_rfl) Try.func23 rfl rfl (by kernel_rfl) (by kernel_rfl) (chSure_of (by kernel_rfl)) (xNew room [] (s1.G d1 (newM room)) _ (G ++ H)) ?_
  rintro v H' ⟨x2, rfl, r2, hr2, rfl⟩
  refine GL_fin (E' := [⟨1, [], .slice ao ops.length co⟩, ⟨5, [], pt d1⟩, ⟨6, [], pt x2⟩]) [0, 0] [1, 5, 6] rfl (by kernel_rfl) ?_
  refine N_then ?_
  refine G_seq ?_
  refine G_seq ?_
  refine G_pure (E' := [⟨5, [], pt d1⟩, ⟨6, [], pt x2⟩, ⟨22, [], .slice ao ops.length co⟩, ⟨23, [], .int .i64 ((ops.length : Nat) : Int)⟩, ⟨24, [], .int .i64 0⟩]) [0, 0, 0] [5, 6, 22, 23, 24] rfl (by kernel_rfl) ?_
  refine N_then ?_
  refine G_block ?_
  refine G_loop (EI := (fun ξ : Nat × DS × RS × DM => [⟨5, [], pt d1⟩, ⟨6, [], pt x2⟩, ⟨22, [], .slice ao ops.length co⟩, ⟨23, [], .int .i64 ((ops.length : Nat) : Int)⟩, ⟨24, [], .int .i64 ((ξ.1 : Nat) : Int)⟩])) (HI := (fun ξ : Nat × DS × RS × DM => (ξ.2.1.G d1 ξ.2.2.2 ++ (ξ.2.2.1.G x2 ξ.2.2.2 ++ (G ++ H))))) (Φ := (fun ξ : Nat × DS × RS × DM => (ξ.1 ≤ ops.length) ∧ (ξ.1 ≤ 80) ∧ (ξ.2.1.ok ξ.2.2.2) ∧ (ξ.2.2.1.ok ξ.2.2.2) ∧ (Scr 3000 ξ.1 ξ.2.2.2))) (μ := (fun ξ : Nat × DS × RS × DM => ops.length - ξ.1)) (s0 := (0, s1, r2, (newM room))) [5, 6, 22, 23, 24] (by kernel_rfl) rfl ⟨(by omega), (Nat.zero_le _), hs1, hr2, (scr_new _ _)⟩ ?_
  rintro ⟨k, sx, rx, Mx⟩ ⟨hk, hk8, hsx, hrx, hcx⟩
  replace hk : k ≤ ops.length := hk
  replace hk8 : k ≤ 80 := hk8
  replace hsx : sx.ok Mx := hsx
  replace hrx : rx.ok Mx := hrx
  replace hcx : Scr 3000 k Mx := hcx
  refine G_seq ?_
  refine G_pure (E' := [⟨5, [], pt d1⟩, ⟨6, [], pt x2⟩, ⟨22, [], .slice ao ops.length co⟩, ⟨23, [], .int .i64 ((ops.length : Nat) : Int)⟩, ⟨24, [], .int .i64 ((k : Nat) : Int)⟩, ⟨25, [], .bool (decide (((k : Nat) : Int) < ((ops.length : Nat) : Int)))⟩]) [0] [5, 6, 22, 23, 24, 25] rfl (by kernel_rfl) ?_
  refine N_then ?_
  refine G_seq ?_
  refine G_cond (b := decide (((k : Nat) : Int) < ((ops.length : Nat) : Int))) (by kernel_rfl) (fun hc3 => ?_) (fun hc3 => ?_)
  ·
    replace hc3 := of_decide_eq_true hc3
    obtain ⟨o, ho⟩ : ∃ o, o = ops.getD k default := ⟨_, rfl⟩
    have hO : OpOk So W0 [] o := by (rw [ho]; exact hOk _ (getD_memG (by omega)))
    refine G_skip ?_
    refine N_then ?_
    refine G_seq ?_
    refine G_block ?_
    refine G_seq ?_
    refine G_region ?_
    refine GL_pure (E' := [⟨26, [], .int .i64 ((k : Nat) : Int)⟩, ⟨5, [], pt d1⟩, ⟨6, [], pt x2⟩, ⟨22, [], .slice ao ops.length co⟩, ⟨23, [], .int .i64 ((ops.length : Nat) : Int)⟩, ⟨24, [], .int .i64 ((k : Nat) : Int)⟩]) [0] (by kernel_rfl) (j := 1) rfl ?_
    refine GL_indexAddr (i := 1) (ch := []) (a := ao) (len := ops.length) (cap := co) (kd := .i64) (j := ((k : Nat) : Int)) (e := 41) (sz := 6) (S := So) (cs := (ops.flatMap opCells)) rfl rfl (by kernel_rfl) (by kernel_rfl) (by kernel_rfl) (by kernel_rfl) (by kernel_rfl) (by kernel_rfl) (by kernel_rfl) hro (fun _ => by exact ⟨by omega, by omega, by (intro h; have h2 := congrArg List.length h; rw [ops_len] at h2; simp at h2; omega)⟩) ?_
    refine GL_loadSA (i := 2) (ch := []) (a := ao) (q := k * 6) (S := So) (cs := (ops.flatMap opCells)) (l := [.int .i64 o.kind, .string o.path, .string o.to, .slice o.ba o.b.size o.bc, .int .i64 o.n, .slice o.ka o.k.length o.kc]) rfl rfl (by kernel_rfl) (by kernel_rfl) (by kernel_rfl) (by kernel_rfl) (by kernel_rfl) (by kernel_rfl) hro (fun y o h => at_up (hSo y o h)) (List.cons_ne_nil _ _) (fun _ => (fun m hm => (op_at (by omega) m hm).trans (by rw [← ho]; exact List.getElem?_eq_getElem (l := opCells o) hm))) ?_
    refine GL_alloc (i := 3) (ch := []) (z := .agg #[.int .i64 0, .string (ByteArray.mk #[]), .string (ByteArray.mk #[]), .slice none 0 0, .int .i64 0, .slice none 0 0]) rfl rfl (by kernel_rfl) (by kernel_rfl) (by kernel_rfl) (by kernel_rfl) (fun b4 => ?_)
    refine GL_pure (E' := [⟨7, [], .int .i64 ((k : Nat) : Int)⟩, ⟨8, [], pt b4⟩, ⟨28, [], .agg #[.int .i64 o.kind, .string o.path, .string o.to, .slice o.ba o.b.size o.bc, .int .i64 o.n, .slice o.ka o.k.length o.kc]⟩, ⟨5, [], pt d1⟩, ⟨6, [], pt x2⟩, ⟨22, [], .slice ao ops.length co⟩, ⟨23, [], .int .i64 ((ops.length : Nat) : Int)⟩, ⟨24, [], .int .i64 ((k : Nat) : Int)⟩]) [0] (by kernel_rfl) (j := 5) rfl ?_
    refine GL_store (i := 5) (ch := []) (b := b4) (off := 0) (v := .agg #[.int .i64 o.kind, .string o.path, .string o.to, .slice o.ba o.b.size o.bc, .int .i64 o.n, .slice o.ka o.k.length o.kc]) (c := #[.int .i64 0, .string (ByteArray.mk #[]), .string (ByteArray.mk #[]), .slice none 0 0, .int .i64 0, .slice none 0 0]) (c' := #[.int .i64 o.kind, .string o.path, .string o.to, .slice o.ba o.b.size o.bc, .int .i64 o.n, .slice o.ka o.k.length o.kc]) (j := 0) (m := 0) (H' := ([(b4, .cells #[.int .i64 o.kind, .string o.path, .string o.to, .slice o.ba o.b.size o.bc, .int .i64 o.n, .slice o.ka o.k.length o.kc] 41 (0, 0))] :: (sx.G d1 Mx ++ (rx.G x2 Mx ++ (G ++ H))))) rfl rfl (by kernel_rfl) (by kernel_rfl) (by kernel_rfl) (by kernel_rfl) (by kernel_rfl) (by kernel_rfl) (by kernel_rfl) rfl rfl (Nat.le_of_ble_eq_true rfl) (fun _ _ => thaw0) (by kernel_rfl) (by kernel_rfl) ?_
    refine GL_fin (E' := [⟨5, [], pt d1⟩, ⟨6, [], pt x2⟩, ⟨7, [], .int .i64 ((k : Nat) : Int)⟩, ⟨8, [], pt b4⟩, ⟨22, [], .slice ao ops.length co⟩, ⟨23, [], .int .i64 ((ops.length : Nat) : Int)⟩, ⟨24, [], .int .i64 ((k : Nat) : Int)⟩]) [] [5, 6, 7, 8, 22, 23, 24] rfl (by kernel_rfl) ?_
    refine N_then ?_
    refine G_seq ?_
    refine G_seq ?_
    refine G_region ?_
    refine GL_pure (E' := [⟨32, [(31, false)], .pointer (some ⟨b4, 3, none⟩)⟩, ⟨31, [], .bool (decide (((k : Nat) : Int) ≥ 80))⟩, ⟨5, [], pt d1⟩, ⟨6, [], pt x2⟩, ⟨8, [], pt b4⟩, ⟨22, [], .slice ao ops.length co⟩, ⟨23, [], .int .i64 ((ops.length : Nat) : Int)⟩, ⟨24, [], .int .i64 ((k : Nat) : Int)⟩]) [0, 0, 0, 0] (by kernel_rfl) (j := 4) rfl ?_
    refine GL_load (i := 4) (ch := [(31, false)]) (b := b4) (off := 3) (v := .slice o.ba o.b.size o.bc) rfl rfl (by kernel_rfl) (by kernel_rfl) (by kernel_rfl) (by kernel_rfl) (by kernel_rfl) (At.grp 0 0 rfl rfl) rfl ?_
    refine GL_pure (E' := [⟨38, [(37, false)], .pointer (some ⟨b4, 5, none⟩)⟩, ⟨37, [], .bool ((decide (((k : Nat) : Int) ≥ 80)) || (decide (((o.b.size : Nat) : Int) > 3000)))⟩, ⟨5, [], pt d1⟩, ⟨6, [], pt x2⟩, ⟨8, [], pt b4⟩, ⟨22, [], .slice ao ops.length co⟩, ⟨23, [], .int .i64 ((ops.length : Nat) : Int)⟩, ⟨24, [], .int .i64 ((k : Nat) : Int)⟩]) [0, 0, 5, 0, 0] (by kernel_rfl) (j := 10) rfl ?_
    refine GL_load (i := 10) (ch := [(37, false)]) (b := b4) (off := 5) (v := .slice o.ka o.k.length o.kc) rfl rfl (by kernel_rfl) (by kernel_rfl) (by kernel_rfl) (by kernel_rfl) (by kernel_rfl) (At.grp 0 0 rfl rfl) rfl ?_
    refine GL_pure (E' := [⟨44, [(43, false)], .pointer (some ⟨b4, 1, none⟩)⟩, ⟨43, [], .bool (((decide (((k : Nat) : Int) ≥ 80)) || (decide (((o.b.size : Nat) : Int) > 3000))) || (decide (((o.k.length : Nat) : Int) > 100)))⟩, ⟨5, [], pt d1⟩, ⟨6, [], pt x2⟩, ⟨8, [], pt b4⟩, ⟨22, [], .slice ao ops.length co⟩, ⟨23, [], .int .i64 ((ops.length : Nat) : Int)⟩, ⟨24, [], .int .i64 ((k : Nat) : Int)⟩]) [0, 0, 5, 0, 0] (by kernel_rfl) (j := 16) rfl ?_
    refine GL_load (i := 16) (ch := [(43, false)]) (b := b4) (off := 1) (v := .string o.path) rfl rfl (by kernel_rfl) (by kernel_rfl) (by kernel_rfl) (by kernel_rfl) (by kernel_rfl) (At.grp 0 0 rfl rfl) rfl ?_
    refine GL_pure (E' := [⟨47, [(43, false)], .pointer (some ⟨b4, 2, none⟩)⟩, ⟨46, [(43, false)], .int .i64 (o.path.size : Int)⟩, ⟨43, [], .bool (((decide (((k : Nat) : Int) ≥ 80)) || (decide (((o.b.size : Nat) : Int) > 3000))) || (decide (((o.k.length : Nat) : Int) > 100)))⟩, ⟨5, [], pt d1⟩, ⟨6, [], pt x2⟩, ⟨8, [], pt b4⟩, ⟨22, [], .slice ao ops.length co⟩, ⟨23, [], .int .i64 ((ops.length : Nat) : Int)⟩, ⟨24, [], .int .i64 ((k : Nat) : Int)⟩]) [0, 0] (by kernel_rfl) (j := 19) rfl ?_
    refine GL_load (i := 19) (ch := [(43, false)]) (b := b4) (off := 2) (v := .string o.to) rfl rfl (by kernel_rfl) (by kernel_rfl) (by kernel_rfl) (by kernel_rfl) (by kernel_rfl) (At.grp 0 0 rfl rfl) rfl ?_
    refine GL_fin (E' := [⟨5, [], pt d1⟩, ⟨6, [], pt x2⟩, ⟨8, [], pt b4⟩, ⟨22, [], .slice ao ops.length co⟩, ⟨23, [], .int .i64 ((ops.length : Nat) : Int)⟩, ⟨24, [], .int .i64 ((k : Nat) : Int)⟩, ⟨52, [], .bool ((((decide (((k : Nat) : Int) ≥ 80)) || (decide (((o.b.size : Nat) : Int) > 3000))) || (decide (((o.k.length : Nat) : Int) > 100))) || (decide ((if (o.to.size : Int) > (o.path.size : Int) then (o.to.size : Int) else (o.path.size : Int)) > 300)))⟩]) [0, 0, 0, 5] [5, 6, 8, 22, 23, 24, 52] rfl (by kernel_rfl) ?_
    refine N_then ?_
    refine G_cond (b := (((decide (((k : Nat) : Int) ≥ 80)) || (decide (((o.b.size : Nat) : Int) > 3000))) || (decide (((o.k.length : Nat) : Int) > 100))) || (decide ((if (o.to.size : Int) > (o.path.size : Int) then (o.to.size : Int) else (o.path.size : Int)) > 300))) (by kernel_rfl) (fun hc5 => ?_) (fun hc5 => ?_)
    ·
      -- L stop
      refine G_exit ?_
      refine N_then_exit ?_
      refine N_block_other rfl ?_
      refine N_then_exit ?_
      refine N_then_exit ?_
      refine N_block_exit ?_
      refine N_then ?_
      refine G_seq ?_
      refine G_pure (E' := [⟨4, [], .bool true⟩]) [0] [4] rfl (by kernel_rfl) ?_
      refine N_then ?_
      refine G_ret ?_
      refine N_ret [.tmp 4] [.bool true] rfl (by kernel_rfl) rfl ?_
      exact ⟨rfl, [[(b4, .cells #[.int .i64 o.kind, .string o.path, .string o.to, .slice o.ba o.b.size o.bc, .int .i64 o.n, .slice o.ka o.k.length o.kc] 41 (0, 0))]] ++ (sx.G d1 Mx ++ (rx.G x2 Mx ++ G)), by simp⟩
    ·
      simp only [Bool.or_eq_false_iff, decide_eq_false_iff_not] at hc5
      have hb : o.b.size ≤ 1000000000 := by omega
      have hk : o.k.length ≤ 1000000000 := by omega
      have hM1 := hcx.small (by omega) (by decide)
      have hc2 := scr_do hcx (o := o) (by omega) hO.n
      have hM2 := hc2.small (by omega) (by decide)
      refine G_skip ?_
      refine N_then ?_
      refine G_seq ?_
      refine G_seq ?_
      refine G_region ?_
      refine GL_pure (E' := [⟨54, [], pt x2⟩, ⟨53, [], pt d1⟩, ⟨5, [], pt d1⟩, ⟨6, [], pt x2⟩, ⟨8, [], pt b4⟩, ⟨22, [], .slice ao ops.length co⟩, ⟨23, [], .int .i64 ((ops.length : Nat) : Int)⟩, ⟨24, [], .int .i64 ((k : Nat) : Int)⟩]) [0, 0] (by kernel_rfl) (j := 2) rfl ?_
      refine GL_loadA (i := 2) (ch := []) (b := b4) (off := 0) (l := [.int .i64 o.kind, .string o.path, .string o.to, .slice o.ba o.b.size o.bc, .int .i64 o.n, .slice o.ka o.k.length o.kc]) rfl rfl (by kernel_rfl) (by kernel_rfl) (by kernel_rfl) (by kernel_rfl) (by kernel_rfl) (by kernel_rfl) (At.grp 0 0 rfl rfl) (by kernel_rfl) ?_
      refine GL_call (i := 3) (ch := []) (f := 24) (fst := #[]) (caps := #[]) (vs := [pt d1, pt x2, .agg #[.int .i64 o.kind, .string o.path, .string o.to, .slice o.ba o.b.size o.bc, .int .i64 o.n, .slice o.ka o.k.length o.kc]]) rfl rfl rfl (by kernel_rfl) (by kernel_rfl) Try.func24 rfl rfl (by kernel_rfl) (by kernel_rfl) (chSure_of (by kernel_rfl)) (dDo hsx hrx (hM1).small (hM1) d1 x2 So o hb hk [[(b4, .cells #[.int .i64 o.kind, .string o.path, .string o.to, .slice o.ba o.b.size o.bc, .int .i64 o.n, .slice o.ka o.k.length o.kc] 41 (0, 0))]] _ (G ++ H) hO) ?_
      rintro v H' ⟨rfl, s3, r3, hs3, hr3, rfl⟩
      refine GL_fin (E' := [⟨5, [], pt d1⟩, ⟨6, [], pt x2⟩, ⟨8, [], pt b4⟩, ⟨22, [], .slice ao ops.length co⟩, ⟨23, [], .int .i64 ((ops.length : Nat) : Int)⟩, ⟨24, [], .int .i64 ((k : Nat) : Int)⟩, ⟨57, [], .bool (!((doM Mx o).1 == (doM Mx o).1))⟩]) [0] [5, 6, 8, 22, 23, 24, 57] rfl (by kernel_rfl) ?_
      refine N_then ?_
      refine G_cond (b := !((doM Mx o).1 == (doM Mx o).1)) (by kernel_rfl) (fun hc6 => ?_) (fun hc6 => ?_)
      ·
        exact absurd hc6 (by simp)
      ·
        skip
        refine G_skip ?_
        refine N_then ?_
        refine G_seq ?_
        refine G_region ?_
        refine GL_pure (E' := [⟨60, [], .pointer (some ⟨b4, 1, none⟩)⟩, ⟨59, [], pt d1⟩, ⟨5, [], pt d1⟩, ⟨6, [], pt x2⟩, ⟨8, [], pt b4⟩, ⟨22, [], .slice ao ops.length co⟩, ⟨23, [], .int .i64 ((ops.length : Nat) : Int)⟩, ⟨24, [], .int .i64 ((k : Nat) : Int)⟩]) [0, 0] (by kernel_rfl) (j := 2) rfl ?_
        refine GL_load (i := 2) (ch := []) (b := b4) (off := 1) (v := .string o.path) rfl rfl (by kernel_rfl) (by kernel_rfl) (by kernel_rfl) (by kernel_rfl) (by kernel_rfl) (At.grp 0 0 rfl rfl) rfl ?_
        obtain ⟨⟨rb7, re8⟩, hrb7⟩ : ∃ x, readM (doM Mx o).2 o.path = x := ⟨_, rfl⟩
        have hzrb7 := read_size (hM2).small hrb7
        refine GL_call (i := 3) (ch := []) (f := 19) (fst := #[]) (caps := #[]) (vs := [pt d1, .string o.path]) rfl rfl rfl (by kernel_rfl) (by kernel_rfl) Try.func19 rfl rfl (by kernel_rfl) (by kernel_rfl) (chSure_of (by kernel_rfl)) (dReadO hs3 (fun B hB => ((hM2).small.size B hB).1) d1 o.path [[(b4, .cells #[.int .i64 o.kind, .string o.path, .string o.to, .slice o.ba o.b.size o.bc, .int .i64 o.n, .slice o.ka o.k.length o.kc] 41 (0, 0))]] _ (r3.G x2 (doM Mx o).2 ++ (G ++ H)) hrb7) ?_
        rintro v H' ⟨ra9, rc10, g11, rfl, hO12, rfl⟩
        refine GL_fin (E' := [⟨5, [], pt d1⟩, ⟨6, [], pt x2⟩, ⟨8, [], pt b4⟩, ⟨9, [], .slice ra9 rb7.size rc10⟩, ⟨10, [], .int .i64 re8⟩, ⟨22, [], .slice ao ops.length co⟩, ⟨23, [], .int .i64 ((ops.length : Nat) : Int)⟩, ⟨24, [], .int .i64 ((k : Nat) : Int)⟩]) [0, 0, 0, 0, 0] [5, 6, 8, 9, 10, 22, 23, 24] rfl (by kernel_rfl) ?_
        refine N_then ?_
        refine G_seq ?_
        refine G_region ?_
        refine GL_pure (E' := [⟨67, [], .pointer (some ⟨b4, 1, none⟩)⟩, ⟨66, [], pt x2⟩, ⟨5, [], pt d1⟩, ⟨6, [], pt x2⟩, ⟨8, [], pt b4⟩, ⟨9, [], .slice ra9 rb7.size rc10⟩, ⟨10, [], .int .i64 re8⟩, ⟨22, [], .slice ao ops.length co⟩, ⟨23, [], .int .i64 ((ops.length : Nat) : Int)⟩, ⟨24, [], .int .i64 ((k : Nat) : Int)⟩]) [0, 0] (by kernel_rfl) (j := 2) rfl ?_
        refine GL_load (i := 2) (ch := []) (b := b4) (off := 1) (v := .string o.path) rfl rfl (by kernel_rfl) (by kernel_rfl) (by kernel_rfl) (by kernel_rfl) (by kernel_rfl) (At.grp 1 0 rfl rfl) rfl ?_
        refine GL_call (i := 3) (ch := []) (f := 25) (fst := #[]) (caps := #[]) (vs := [pt x2, .string o.path]) rfl rfl rfl (by kernel_rfl) (by kernel_rfl) Try.func25 rfl rfl (by kernel_rfl) (by kernel_rfl) (chSure_of (by kernel_rfl)) (xRead hr3 (hM2) x2 o.path [g11, [(b4, .cells #[.int .i64 o.kind, .string o.path, .string o.to, .slice o.ba o.b.size o.bc, .int .i64 o.n, .slice o.ka o.k.length o.kc] 41 (0, 0))]] (s3.G d1 (doM Mx o).2) _ (G ++ H) hrb7) ?_
        rintro v H' ⟨rfl, rfl⟩
        refine GL_fin (E' := [⟨5, [], pt d1⟩, ⟨6, [], pt x2⟩, ⟨8, [], pt b4⟩, ⟨9, [], .slice ra9 rb7.size rc10⟩, ⟨10, [], .int .i64 re8⟩, ⟨11, [], .string rb7⟩, ⟨12, [], .int .i64 re8⟩, ⟨22, [], .slice ao ops.length co⟩, ⟨23, [], .int .i64 ((ops.length : Nat) : Int)⟩, ⟨24, [], .int .i64 ((k : Nat) : Int)⟩]) [0, 0, 0, 0, 0] [5, 6, 8, 9, 10, 11, 12, 22, 23, 24] rfl (by kernel_rfl) ?_
        refine N_then ?_
        refine G_seq ?_
        refine G_seq ?_
        refine G_region ?_
        refine GL_pure (E' := [⟨72, [], .slice ra9 rb7.size rc10⟩, ⟨5, [], pt d1⟩, ⟨6, [], pt x2⟩, ⟨8, [], pt b4⟩, ⟨9, [], .slice ra9 rb7.size rc10⟩, ⟨10, [], .int .i64 re8⟩, ⟨11, [], .string rb7⟩, ⟨12, [], .int .i64 re8⟩, ⟨22, [], .slice ao ops.length co⟩, ⟨23, [], .int .i64 ((ops.length : Nat) : Int)⟩, ⟨24, [], .int .i64 ((k : Nat) : Int)⟩]) [0] (by kernel_rfl) (j := 1) rfl ?_
        refine GL_bytesB (i := 1) (ch := []) (a := ra9) (cap := rc10) (e := 5) (S := (inG g11)) rb7 rfl rfl (by kernel_rfl) (by kernel_rfl) (by kernel_rfl) (by kernel_rfl) (by kernel_rfl) (by kernel_rfl) (by kernel_rfl) (own_rd hO12) (at_inG 0 rfl) ?_
        refine GL_pure (E' := [⟨75, [], .bool (!(rb7.toList == rb7.toList))⟩, ⟨5, [], pt d1⟩, ⟨6, [], pt x2⟩, ⟨8, [], pt b4⟩, ⟨9, [], .slice ra9 rb7.size rc10⟩, ⟨10, [], .int .i64 re8⟩, ⟨12, [], .int .i64 re8⟩, ⟨22, [], .slice ao ops.length co⟩, ⟨23, [], .int .i64 ((ops.length : Nat) : Int)⟩, ⟨24, [], .int .i64 ((k : Nat) : Int)⟩]) [0, 0] (by kernel_rfl) (j := 4) rfl ?_
        refine GL_env (E' := [⟨75, [], .bool false⟩, ⟨5, [], pt d1⟩, ⟨6, [], pt x2⟩, ⟨8, [], pt b4⟩, ⟨9, [], .slice ra9 rb7.size rc10⟩, ⟨10, [], .int .i64 re8⟩, ⟨12, [], .int .i64 re8⟩, ⟨22, [], .slice ao ops.length co⟩, ⟨23, [], .int .i64 ((ops.length : Nat) : Int)⟩, ⟨24, [], .int .i64 ((k : Nat) : Int)⟩]) (by rw [beq_self_eq_true, Bool.not_true]) ?_
        refine GL_pure (E' := [⟨79, [(76, false)], .bool (re8 != re8)⟩, ⟨76, [], .bool false⟩, ⟨5, [], pt d1⟩, ⟨6, [], pt x2⟩, ⟨8, [], pt b4⟩, ⟨9, [], .slice ra9 rb7.size rc10⟩, ⟨22, [], .slice ao ops.length co⟩, ⟨23, [], .int .i64 ((ops.length : Nat) : Int)⟩, ⟨24, [], .int .i64 ((k : Nat) : Int)⟩]) [0, 0, 0, 0] (by kernel_rfl) (j := 8) rfl ?_
        refine GL_env (E' := [⟨79, [(76, false)], .bool false⟩, ⟨76, [], .bool false⟩, ⟨5, [], pt d1⟩, ⟨6, [], pt x2⟩, ⟨8, [], pt b4⟩, ⟨9, [], .slice ra9 rb7.size rc10⟩, ⟨22, [], .slice ao ops.length co⟩, ⟨23, [], .int .i64 ((ops.length : Nat) : Int)⟩, ⟨24, [], .int .i64 ((k : Nat) : Int)⟩]) (by rw [bne_self_eq_false]) ?_
        refine GL_pure (E' := [⟨82, [(81, false)], pt d1⟩, ⟨81, [], .bool false⟩, ⟨5, [], pt d1⟩, ⟨6, [], pt x2⟩, ⟨8, [], pt b4⟩, ⟨9, [], .slice ra9 rb7.size rc10⟩, ⟨22, [], .slice ao ops.length co⟩, ⟨23, [], .int .i64 ((ops.length : Nat) : Int)⟩, ⟨24, [], .int .i64 ((k : Nat) : Int)⟩]) [3, 0, 0] (by kernel_rfl) (j := 11) rfl ?_
        refine GL_call (i := 11) (ch := [(81, false)]) (f := 26) (fst := #[]) (caps := #[]) (vs := [pt d1]) rfl rfl rfl (by kernel_rfl) (by kernel_rfl) Try.func26 rfl rfl (by kernel_rfl) (by kernel_rfl) (chSure_of (by kernel_rfl)) (dUsed hs3 (hM2).small d1 [g11, [(b4, .cells #[.int .i64 o.kind, .string o.path, .string o.to, .slice o.ba o.b.size o.bc, .int .i64 o.n, .slice o.ka o.k.length o.kc] 41 (0, 0))]] _ (r3.G x2 (doM Mx o).2 ++ (G ++ H)) rfl) ?_
        rintro v H' ⟨rfl, rfl⟩
        refine GL_pure (E' := [⟨84, [(81, false)], pt x2⟩, ⟨83, [(81, false)], .int .i64 (((usedM (doM Mx o).2) : Nat) : Int)⟩, ⟨81, [], .bool false⟩, ⟨5, [], pt d1⟩, ⟨6, [], pt x2⟩, ⟨8, [], pt b4⟩, ⟨9, [], .slice ra9 rb7.size rc10⟩, ⟨22, [], .slice ao ops.length co⟩, ⟨23, [], .int .i64 ((ops.length : Nat) : Int)⟩, ⟨24, [], .int .i64 ((k : Nat) : Int)⟩]) [0] (by kernel_rfl) (j := 13) rfl ?_
        refine GL_call (i := 13) (ch := [(81, false)]) (f := 27) (fst := #[]) (caps := #[]) (vs := [pt x2]) rfl rfl rfl (by kernel_rfl) (by kernel_rfl) Try.func27 rfl rfl (by kernel_rfl) (by kernel_rfl) (chSure_of (by kernel_rfl)) (is_front2q (K := [g11, [(b4, .cells #[.int .i64 o.kind, .string o.path, .string o.to, .slice o.ba o.b.size o.bc, .int .i64 o.n, .slice o.ka o.k.length o.kc] 41 (0, 0))]]) (A := s3.G d1 (doM Mx o).2) (rUsed x2 r3 (doM Mx o).2 hr3 (hM2) _ _)) ?_
        rintro v H' ⟨rfl, rfl⟩
        refine GL_pure (E' := [⟨86, [(81, false)], .bool ((((usedM (doM Mx o).2) : Nat) : Int) != ((usedM (doM Mx o).2 : Nat) : Int))⟩, ⟨81, [], .bool false⟩, ⟨5, [], pt d1⟩, ⟨6, [], pt x2⟩, ⟨8, [], pt b4⟩, ⟨9, [], .slice ra9 rb7.size rc10⟩, ⟨22, [], .slice ao ops.length co⟩, ⟨23, [], .int .i64 ((ops.length : Nat) : Int)⟩, ⟨24, [], .int .i64 ((k : Nat) : Int)⟩]) [0] (by kernel_rfl) (j := 15) rfl ?_
        refine GL_env (E' := [⟨86, [(81, false)], .bool false⟩, ⟨81, [], .bool false⟩, ⟨5, [], pt d1⟩, ⟨6, [], pt x2⟩, ⟨8, [], pt b4⟩, ⟨9, [], .slice ra9 rb7.size rc10⟩, ⟨22, [], .slice ao ops.length co⟩, ⟨23, [], .int .i64 ((ops.length : Nat) : Int)⟩, ⟨24, [], .int .i64 ((k : Nat) : Int)⟩]) (by rw [bne_self_eq_false]) ?_
        refine GL_fin (E' := [⟨5, [], pt d1⟩, ⟨6, [], pt x2⟩, ⟨8, [], pt b4⟩, ⟨9, [], .slice ra9 rb7.size rc10⟩, ⟨22, [], .slice ao ops.length co⟩, ⟨23, [], .int .i64 ((ops.length : Nat) : Int)⟩, ⟨24, [], .int .i64 ((k : Nat) : Int)⟩, ⟨87, [], .bool false⟩]) [3] [5, 6, 8, 9, 22, 23, 24, 87] rfl (by kernel_rfl) ?_
        refine N_then ?_
        refine G_condf (by kernel_rfl) ?_
        refine G_skip ?_
        refine N_then ?_
        refine G_seq ?_
        refine G_seq ?_
        refine G_pure (E' := [⟨5, [], pt d1⟩, ⟨6, [], pt x2⟩, ⟨8, [], pt b4⟩, ⟨9, [], .slice ra9 rb7.size rc10⟩, ⟨22, [], .slice ao ops.length co⟩, ⟨23, [], .int .i64 ((ops.length : Nat) : Int)⟩, ⟨24, [], .int .i64 ((k : Nat) : Int)⟩, ⟨89, [], .int .i64 ((rb7.size : Nat) : Int)⟩, ⟨90, [], .int .i64 0⟩]) [0, 0, 0] [5, 6, 8, 9, 22, 23, 24, 89, 90] rfl (by kernel_rfl) ?_
        refine N_then ?_
        refine G_block ?_
        refine G_heap (H' := (g11 :: [(b4, .cells #[.int .i64 o.kind, .string o.path, .string o.to, .slice o.ba o.b.size o.bc, .int .i64 o.n, .slice o.ka o.k.length o.kc] 41 (0, 0))] :: (s3.G d1 (doM Mx o).2 ++ (r3.G x2 (doM Mx o).2 ++ (G ++ H))))) (fun w h => ((h.front (j := 1) rfl).front (j := 1) rfl)) ?_
        refine G_loop (EI := (fun ξ : Nat × List Int × Grp => [⟨5, [], pt d1⟩, ⟨6, [], pt x2⟩, ⟨8, [], pt b4⟩, ⟨9, [], .slice ra9 rb7.size rc10⟩, ⟨22, [], .slice ao ops.length co⟩, ⟨23, [], .int .i64 ((ops.length : Nat) : Int)⟩, ⟨24, [], .int .i64 ((k : Nat) : Int)⟩, ⟨89, [], .int .i64 ((rb7.size : Nat) : Int)⟩, ⟨90, [], .int .i64 ((ξ.1 : Nat) : Int)⟩])) (HI := (fun ξ : Nat × List Int × Grp => (ξ.2.2 :: [(b4, .cells #[.int .i64 o.kind, .string o.path, .string o.to, .slice o.ba o.b.size o.bc, .int .i64 o.n, .slice o.ka o.k.length o.kc] 41 (0, 0))] :: (s3.G d1 (doM Mx o).2 ++ (r3.G x2 (doM Mx o).2 ++ (G ++ H)))))) (Φ := (fun ξ : Nat × List Int × Grp => (ξ.1 ≤ rb7.size) ∧ (ξ.2.1.length = rb7.size) ∧ (Own 5 1 (.slice ra9 rb7.size rc10) ξ.2.2 rb7.size (ξ.2.1.map (Value.int .u8))))) (μ := (fun ξ : Nat × List Int × Grp => rb7.size - ξ.1)) (s0 := (0, (rb7.data.toList.map fun b => (b.toNat : Int)), g11)) [5, 6, 8, 9, 22, 23, 24, 89, 90] (by kernel_rfl) rfl ⟨(by omega), (by show (List.map _ _).length = _; rw [List.length_map]; exact Array.length_toList), (own_z hO12)⟩ ?_
        rintro ⟨k13, z14, gz15⟩ ⟨hk13, hlz14, hz16⟩
        replace hk13 : k13 ≤ rb7.size := hk13
        replace hlz14 : z14.length = rb7.size := hlz14
        replace hz16 : Own 5 1 (.slice ra9 rb7.size rc10) gz15 rb7.size (z14.map (Value.int .u8)) := hz16
        refine G_seq ?_
        refine G_pure (E' := [⟨5, [], pt d1⟩, ⟨6, [], pt x2⟩, ⟨8, [], pt b4⟩, ⟨9, [], .slice ra9 rb7.size rc10⟩, ⟨22, [], .slice ao ops.length co⟩, ⟨23, [], .int .i64 ((ops.length : Nat) : Int)⟩, ⟨24, [], .int .i64 ((k : Nat) : Int)⟩, ⟨89, [], .int .i64 ((rb7.size : Nat) : Int)⟩, ⟨90, [], .int .i64 ((k13 : Nat) : Int)⟩, ⟨91, [], .bool (decide (((k13 : Nat) : Int) < ((rb7.size : Nat) : Int)))⟩]) [0] [5, 6, 8, 9, 22, 23, 24, 89, 90, 91] rfl (by kernel_rfl) ?_
        refine N_then ?_
        refine G_seq ?_
        refine G_cond (b := decide (((k13 : Nat) : Int) < ((rb7.size : Nat) : Int))) (by kernel_rfl) (fun hc17 => ?_) (fun hc17 => ?_)
        ·
          replace hc17 := of_decide_eq_true hc17
          refine G_skip ?_
          refine N_then ?_
          refine G_seq ?_
          refine G_block ?_
          refine G_seq ?_
          refine G_pure (E' := [⟨5, [], pt d1⟩, ⟨6, [], pt x2⟩, ⟨8, [], pt b4⟩, ⟨9, [], .slice ra9 rb7.size rc10⟩, ⟨13, [], .int .i64 ((k13 : Nat) : Int)⟩, ⟨22, [], .slice ao ops.length co⟩, ⟨23, [], .int .i64 ((ops.length : Nat) : Int)⟩, ⟨24, [], .int .i64 ((k : Nat) : Int)⟩, ⟨89, [], .int .i64 ((rb7.size : Nat) : Int)⟩, ⟨90, [], .int .i64 ((k13 : Nat) : Int)⟩]) [0, 0] [5, 6, 8, 9, 13, 22, 23, 24, 89, 90] rfl (by kernel_rfl) ?_
          refine N_then ?_
          refine G_region ?_
          refine GL_pure (E' := [⟨94, [], .int .i64 ((k13 : Nat) : Int)⟩, ⟨93, [], .slice ra9 rb7.size rc10⟩, ⟨5, [], pt d1⟩, ⟨6, [], pt x2⟩, ⟨8, [], pt b4⟩, ⟨9, [], .slice ra9 rb7.size rc10⟩, ⟨22, [], .slice ao ops.length co⟩, ⟨23, [], .int .i64 ((ops.length : Nat) : Int)⟩, ⟨24, [], .int .i64 ((k : Nat) : Int)⟩, ⟨89, [], .int .i64 ((rb7.size : Nat) : Int)⟩, ⟨90, [], .int .i64 ((k13 : Nat) : Int)⟩]) [0, 0] (by kernel_rfl) (j := 2) rfl ?_
          refine GL_indexAddr (i := 2) (ch := []) (a := ra9) (len := rb7.size) (cap := rc10) (kd := .i64) (j := ((k13 : Nat) : Int)) (e := 5) (sz := 1) (S := (inG gz15)) (cs := (z14.map (Value.int .u8))) rfl rfl (by kernel_rfl) (by kernel_rfl) (by kernel_rfl) (by kernel_rfl) (by kernel_rfl) (by kernel_rfl) (by kernel_rfl) (own_rd hz16) (fun _ => by exact ⟨by omega, by omega, zs_ne (k := 0) (by omega)⟩) ?_
          refine GL_loadS (i := 3) (ch := []) (a := ra9) (q := k13 * 1) (S := (inG gz15)) (cs := (z14.map (Value.int .u8))) (v := .int .u8 (z14.getD k13 0)) rfl rfl (by kernel_rfl) (by kernel_rfl) (by kernel_rfl) (by kernel_rfl) (by kernel_rfl) (own_rd hz16) (at_inG 0 rfl) (fun _ => (by rw [Nat.mul_one]; exact zs_at (by omega))) ?_
          refine GL_pure (E' := [⟨97, [], .int .u8 (IntKind.wrap .u8 ((BitVec.ofInt (IntKind.bits .u8) (z14.getD k13 0) ^^^ BitVec.ofInt (IntKind.bits .u8) 255).toNat))⟩, ⟨94, [], .int .i64 ((k13 : Nat) : Int)⟩, ⟨93, [], .slice ra9 rb7.size rc10⟩, ⟨5, [], pt d1⟩, ⟨6, [], pt x2⟩, ⟨8, [], pt b4⟩, ⟨9, [], .slice ra9 rb7.size rc10⟩, ⟨22, [], .slice ao ops.length co⟩, ⟨23, [], .int .i64 ((ops.length : Nat) : Int)⟩, ⟨24, [], .int .i64 ((k : Nat) : Int)⟩, ⟨89, [], .int .i64 ((rb7.size : Nat) : Int)⟩, ⟨90, [], .int .i64 ((k13 : Nat) : Int)⟩]) [0] (by kernel_rfl) (j := 5) rfl ?_
          refine GL_indexAddr (i := 5) (ch := []) (a := ra9) (len := rb7.size) (cap := rc10) (kd := .i64) (j := ((k13 : Nat) : Int)) (e := 5) (sz := 1) (S := (inG gz15)) (cs := (z14.map (Value.int .u8))) rfl rfl (by kernel_rfl) (by kernel_rfl) (by kernel_rfl) (by kernel_rfl) (by kernel_rfl) (by kernel_rfl) (by kernel_rfl) (own_rd hz16) (fun _ => by exact ⟨by omega, by omega, zs_ne (k := 0) (by omega)⟩) ?_
          refine GL_storeO (i := 6) (ch := []) (a := ra9) (q := k13 * 1) (len := rb7.size) (cap := rc10) (v := .int .u8 (IntKind.wrap .u8 ((BitVec.ofInt (IntKind.bits .u8) (z14.getD k13 0) ^^^ BitVec.ofInt (IntKind.bits .u8) 255).toNat))) (g := gz15) (j := 0) (cs := (z14.map (Value.int .u8))) (cs' := ((z14.set k13 (IntKind.wrap .u8 ((BitVec.ofInt (IntKind.bits .u8) (z14.getD k13 0) ^^^ BitVec.ofInt (IntKind.bits .u8) 255).toNat))).map (Value.int .u8))) rfl rfl (by kernel_rfl) (by kernel_rfl) (by kernel_rfl) (by kernel_rfl) rfl (by kernel_rfl) (by kernel_rfl) (by kernel_rfl) rfl hz16 (by rw [List.length_map]; omega) (by rw [Nat.mul_one]; exact zs_set) (fun g18 hO19 => ?_)
          refine GL_fin (E' := [⟨5, [], pt d1⟩, ⟨6, [], pt x2⟩, ⟨8, [], pt b4⟩, ⟨9, [], .slice ra9 rb7.size rc10⟩, ⟨22, [], .slice ao ops.length co⟩, ⟨23, [], .int .i64 ((ops.length : Nat) : Int)⟩, ⟨24, [], .int .i64 ((k : Nat) : Int)⟩, ⟨89, [], .int .i64 ((rb7.size : Nat) : Int)⟩, ⟨90, [], .int .i64 ((k13 : Nat) : Int)⟩]) [] [5, 6, 8, 9, 22, 23, 24, 89, 90] rfl (by kernel_rfl) ?_
          refine N_block ?_
          refine N_then ?_
          have hw20 : IntKind.wrap .i64 (((k13 : Nat) : Int) + 1) = ((k13 : Nat) : Int) + 1 := w64 (by omega) (by omega)
          refine G_pure (E' := [⟨5, [], pt d1⟩, ⟨6, [], pt x2⟩, ⟨8, [], pt b4⟩, ⟨9, [], .slice ra9 rb7.size rc10⟩, ⟨22, [], .slice ao ops.length co⟩, ⟨23, [], .int .i64 ((ops.length : Nat) : Int)⟩, ⟨24, [], .int .i64 ((k : Nat) : Int)⟩, ⟨89, [], .int .i64 ((rb7.size : Nat) : Int)⟩, ⟨90, [], .int .i64 (((k13 : Nat) : Int) + 1)⟩]) [0, 0] [5, 6, 8, 9, 22, 23, 24, 89, 90] rfl (Eq.trans (b := some [⟨5, [], pt d1⟩, ⟨6, [], pt x2⟩, ⟨8, [], pt b4⟩, ⟨9, [], .slice ra9 rb7.size rc10⟩, ⟨22, [], .slice ao ops.length co⟩, ⟨23, [], .int .i64 ((ops.length : Nat) : Int)⟩, ⟨24, [], .int .i64 ((k : Nat) : Int)⟩, ⟨89, [], .int .i64 ((rb7.size : Nat) : Int)⟩, ⟨90, [], .int .i64 (IntKind.wrap .i64 (((k13 : Nat) : Int) + 1))⟩]) (by kernel_rfl) (by simp only [hw20])) ?_
          refine N_heap (H' := (g18 :: [(b4, .cells #[.int .i64 o.kind, .string o.path, .string o.to, .slice o.ba o.b.size o.bc, .int .i64 o.n, .slice o.ka o.k.length o.kc] 41 (0, 0))] :: (s3.G d1 (doM Mx o).2 ++ (r3.G x2 (doM Mx o).2 ++ (G ++ H))))) (fun w h => ((h.front (j := 1) rfl).front (j := 1) rfl)) ?_
          refine N_heq (H' := (g18 :: [(b4, .cells #[.int .i64 o.kind, .string o.path, .string o.to, .slice o.ba o.b.size o.bc, .int .i64 o.n, .slice o.ka o.k.length o.kc] 41 (0, 0))] :: (s3.G d1 (doM Mx o).2 ++ (r3.G x2 (doM Mx o).2 ++ (G ++ H))))) rfl ?_
          refine N_round (s' := (k13 + 1, (z14.set k13 (IntKind.wrap .u8 ((BitVec.ofInt (IntKind.bits .u8) (z14.getD k13 0) ^^^ BitVec.ofInt (IntKind.bits .u8) 255).toNat))), g18)) [5, 6, 8, 9, 22, 23, 24, 89, 90] (by kernel_rfl) rfl ⟨(by omega), (by show (List.set _ _ _).length = _; rw [List.length_set]; exact hlz14), hO19⟩ (by omega)
        ·
          replace hc17 := of_decide_eq_false hc17
          refine G_exit ?_
          refine N_then_exit ?_
          refine N_then_exit ?_
          refine N_block_exit ?_
          refine N_then ?_
          refine G_seq ?_
          refine G_region ?_
          refine GL_pure (E' := [⟨101, [], .pointer (some ⟨b4, 1, none⟩)⟩, ⟨5, [], pt d1⟩, ⟨6, [], pt x2⟩, ⟨8, [], pt b4⟩, ⟨22, [], .slice ao ops.length co⟩, ⟨23, [], .int .i64 ((ops.length : Nat) : Int)⟩, ⟨24, [], .int .i64 ((k : Nat) : Int)⟩]) [0] (by kernel_rfl) (j := 1) rfl ?_
          refine GL_load (i := 1) (ch := []) (b := b4) (off := 1) (v := .string o.path) rfl rfl (by kernel_rfl) (by kernel_rfl) (by kernel_rfl) (by kernel_rfl) (by kernel_rfl) (At.grp 1 0 rfl rfl) rfl ?_
          refine GL_call (i := 2) (ch := []) (f := 28) (fst := #[]) (caps := #[]) (vs := [.string o.path]) rfl rfl rfl (by kernel_rfl) (by kernel_rfl) Try.func28 rfl rfl (by kernel_rfl) (by kernel_rfl) (chSure_of (by kernel_rfl)) (refSplit2 o.path hO.path _ _) ?_
          rintro v H' ⟨⟨y21, rfl⟩, rfl⟩
          refine GL_fin (E' := [⟨5, [], pt d1⟩, ⟨6, [], pt x2⟩, ⟨8, [], pt b4⟩, ⟨14, [], .string (dirB o.path)⟩, ⟨22, [], .slice ao ops.length co⟩, ⟨23, [], .int .i64 ((ops.length : Nat) : Int)⟩, ⟨24, [], .int .i64 ((k : Nat) : Int)⟩]) [0, 0, 0, 0, 0] [5, 6, 8, 14, 22, 23, 24] rfl (by kernel_rfl) ?_
          refine N_then ?_
          refine G_seq ?_
          refine G_regionH (gz15 :: [(b4, .cells #[.int .i64 o.kind, .string o.path, .string o.to, .slice o.ba o.b.size o.bc, .int .i64 o.n, .slice o.ka o.k.length o.kc] 41 (0, 0))] :: H) (by kernel_rfl) ?_
          refine GH_pure (E' := [⟨106, [], pt d1⟩, ⟨5, [], pt d1⟩, ⟨6, [], pt x2⟩, ⟨8, [], pt b4⟩, ⟨14, [], .string (dirB o.path)⟩, ⟨22, [], .slice ao ops.length co⟩, ⟨23, [], .int .i64 ((ops.length : Nat) : Int)⟩, ⟨24, [], .int .i64 ((k : Nat) : Int)⟩]) 0 0 (by kernel_rfl) (fun w h => (Sat.dropMid (K := [_, _]) (Sat.dropMid (K := [_, _]) (Sat.dropMid (K := [_, _]) ((h.front (j := 1) rfl).front (j := 1) rfl))))) (by kernel_rfl) ?_
          refine GH_pure (E' := [⟨108, [], pt x2⟩, ⟨106, [], pt d1⟩, ⟨5, [], pt d1⟩, ⟨6, [], pt x2⟩, ⟨8, [], pt b4⟩, ⟨14, [], .string (dirB o.path)⟩, ⟨22, [], .slice ao ops.length co⟩, ⟨23, [], .int .i64 ((ops.length : Nat) : Int)⟩, ⟨24, [], .int .i64 ((k : Nat) : Int)⟩]) 2 0 (by kernel_rfl) (fun w h => (Sat.dropMid (K := [_, _]) (Sat.dropMid (K := [_, _]) (Sat.dropMid (K := [_, _]) ((h.front (j := 1) rfl).front (j := 1) rfl))))) (by kernel_rfl) ?_
          refine GH_eff 1 (by kernel_rfl) (by kernel_rfl) (by kernel_rfl) ?_
          obtain ⟨L22, hL22⟩ : ∃ L, listM (doM Mx o).2 (ByteArray.mk #[]) = L := ⟨_, rfl⟩
          have hlL22 : L22.length ≤ 9000000000 := by (have h1 := listM_len (doM Mx o).2 (ByteArray.mk #[]); have h2 := (hM2).small.names; rw [hL22] at h1; omega)
          refine GL_call (i := 1) (ch := []) (f := 21) (fst := #[]) (caps := #[]) (vs := [pt d1, .string (ByteArray.mk #[])]) rfl rfl rfl (by kernel_rfl) (by kernel_rfl) Try.func21 rfl rfl (by kernel_rfl) (by kernel_rfl) (chSure_of (by kernel_rfl)) (dList hs3 (hM2).small d1 (ByteArray.mk #[]) [gz15, [(b4, .cells #[.int .i64 o.kind, .string o.path, .string o.to, .slice o.ba o.b.size o.bc, .int .i64 o.n, .slice o.ka o.k.length o.kc] 41 (0, 0))]] _ (r3.G x2 (doM Mx o).2 ++ (G ++ H)) hL22) ?_
          rintro v H' ⟨la23, lc24, g25, rfl, hlc26, hrd27, rfl⟩
          refine GH_back (by kernel_rfl) (fun w h => (Sat.dropMid (K := [_, _]) (Sat.dropMid (K := [_, _]) (Sat.dropMid (K := [_, _]) (((h.front (j := 2) rfl).front (j := 2) rfl).erase 2))))) ?_
          refine GH_more (g25 :: gz15 :: [(b4, .cells #[.int .i64 o.kind, .string o.path, .string o.to, .slice o.ba o.b.size o.bc, .int .i64 o.n, .slice o.ka o.k.length o.kc] 41 (0, 0))] :: H) (fun w h => (((h.front (j := 2) rfl).front (j := 2) rfl).erase 2)) ?_
          refine GH_eff 3 (by kernel_rfl) (by kernel_rfl) (by kernel_rfl) ?_
          refine GL_call (i := 3) (ch := []) (f := 30) (fst := #[]) (caps := #[]) (vs := [pt x2, .string (ByteArray.mk #[])]) rfl rfl rfl (by kernel_rfl) (by kernel_rfl) Try.func30 rfl rfl (by kernel_rfl) (by kernel_rfl) (chSure_of (by kernel_rfl)) (xList hr3 (hM2) x2 (ByteArray.mk #[]) [g25, gz15, [(b4, .cells #[.int .i64 o.kind, .string o.path, .string o.to, .slice o.ba o.b.size o.bc, .int .i64 o.n, .slice o.ka o.k.length o.kc] 41 (0, 0))]] (s3.G d1 (doM Mx o).2) _ (G ++ H) hL22) ?_
          rintro v H' ⟨la28, lc29, g30, rfl, hlc31, hrd32, rfl⟩
          refine GH_back (by kernel_rfl) (fun w h => (Sat.dropMid (K := [_, _, _]) (Sat.dropMid (K := [_, _, _]) (Sat.dropMid (K := [_, _, _]) ((((h.front (j := 3) rfl).front (j := 3) rfl).front (j := 3) rfl).erase 3))))) ?_
          refine GH_more (g30 :: g25 :: gz15 :: [(b4, .cells #[.int .i64 o.kind, .string o.path, .string o.to, .slice o.ba o.b.size o.bc, .int .i64 o.n, .slice o.ka o.k.length o.kc] 41 (0, 0))] :: H) (fun w h => ((((h.front (j := 3) rfl).front (j := 3) rfl).front (j := 3) rfl).erase 3)) ?_
          refine GH_eff 4 (by kernel_rfl) (by kernel_rfl) (by kernel_rfl) ?_
          refine GL_call (i := 4) (ch := []) (f := 29) (fst := #[]) (caps := #[]) (vs := [.slice la23 L22.length lc24, .slice la28 L22.length lc29]) rfl rfl rfl (by kernel_rfl) (by kernel_rfl) Try.func29 rfl rfl (by kernel_rfl) (by kernel_rfl) (chSure_of (by kernel_rfl)) (vSame la23 la28 lc24 lc29 (inG g25) (inG g30) L22 hlL22 hrd27 hrd32 _ _ (at_inG 1 rfl) (at_inG 0 rfl)) ?_
          rintro v H' ⟨rfl, rfl⟩
          refine GH_back (by kernel_rfl) (fun w h => (Sat.dropMid (K := [_, _, _, _]) (Sat.dropMid (K := [_, _, _, _]) (Sat.dropMid (K := [_, _, _, _]) ((((h.front (j := 3) rfl).front (j := 3) rfl).front (j := 3) rfl).front (j := 3) rfl))))) ?_
          refine GH_pure (E' := [⟨111, [], .bool false⟩, ⟨5, [], pt d1⟩, ⟨6, [], pt x2⟩, ⟨8, [], pt b4⟩, ⟨14, [], .string (dirB o.path)⟩, ⟨22, [], .slice ao ops.length co⟩, ⟨23, [], .int .i64 ((ops.length : Nat) : Int)⟩, ⟨24, [], .int .i64 ((k : Nat) : Int)⟩]) 5 0 (by kernel_rfl) (fun w h => (Sat.dropMid (K := [_, _, _, _]) (Sat.dropMid (K := [_, _, _, _]) (Sat.dropMid (K := [_, _, _, _]) ((((h.front (j := 3) rfl).front (j := 3) rfl).front (j := 3) rfl).front (j := 3) rfl))))) (by kernel_rfl) ?_
          refine GH_pure (E' := [⟨112, [], .bool false⟩, ⟨5, [], pt d1⟩, ⟨6, [], pt x2⟩, ⟨8, [], pt b4⟩, ⟨14, [], .string (dirB o.path)⟩, ⟨22, [], .slice ao ops.length co⟩, ⟨23, [], .int .i64 ((ops.length : Nat) : Int)⟩, ⟨24, [], .int .i64 ((k : Nat) : Int)⟩]) 6 0 (by kernel_rfl) (fun w h => (Sat.dropMid (K := [_, _, _, _]) (Sat.dropMid (K := [_, _, _, _]) (Sat.dropMid (K := [_, _, _, _]) ((((h.front (j := 3) rfl).front (j := 3) rfl).front (j := 3) rfl).front (j := 3) rfl))))) (by kernel_rfl) ?_
          refine GH_pure (E' := [⟨113, [(112, false)], pt d1⟩, ⟨112, [], .bool false⟩, ⟨5, [], pt d1⟩, ⟨6, [], pt x2⟩, ⟨8, [], pt b4⟩, ⟨14, [], .string (dirB o.path)⟩, ⟨22, [], .slice ao ops.length co⟩, ⟨23, [], .int .i64 ((ops.length : Nat) : Int)⟩, ⟨24, [], .int .i64 ((k : Nat) : Int)⟩]) 7 0 (by kernel_rfl) (fun w h => (Sat.dropMid (K := [_, _, _, _]) (Sat.dropMid (K := [_, _, _, _]) (Sat.dropMid (K := [_, _, _, _]) ((((h.front (j := 3) rfl).front (j := 3) rfl).front (j := 3) rfl).front (j := 3) rfl))))) (by kernel_rfl) ?_
          refine GH_pure (E' := [⟨114, [(112, false)], .string (dirB o.path)⟩, ⟨113, [(112, false)], pt d1⟩, ⟨112, [], .bool false⟩, ⟨5, [], pt d1⟩, ⟨6, [], pt x2⟩, ⟨8, [], pt b4⟩, ⟨14, [], .string (dirB o.path)⟩, ⟨22, [], .slice ao ops.length co⟩, ⟨23, [], .int .i64 ((ops.length : Nat) : Int)⟩, ⟨24, [], .int .i64 ((k : Nat) : Int)⟩]) 8 0 (by kernel_rfl) (fun w h => (Sat.dropMid (K := [_, _, _, _]) (Sat.dropMid (K := [_, _, _, _]) (Sat.dropMid (K := [_, _, _, _]) ((((h.front (j := 3) rfl).front (j := 3) rfl).front (j := 3) rfl).front (j := 3) rfl))))) (by kernel_rfl) ?_
          refine GH_pure (E' := [⟨116, [(112, false)], pt x2⟩, ⟨114, [(112, false)], .string (dirB o.path)⟩, ⟨113, [(112, false)], pt d1⟩, ⟨112, [], .bool false⟩, ⟨5, [], pt d1⟩, ⟨6, [], pt x2⟩, ⟨8, [], pt b4⟩, ⟨14, [], .string (dirB o.path)⟩, ⟨22, [], .slice ao ops.length co⟩, ⟨23, [], .int .i64 ((ops.length : Nat) : Int)⟩, ⟨24, [], .int .i64 ((k : Nat) : Int)⟩]) 10 0 (by kernel_rfl) (fun w h => (Sat.dropMid (K := [_, _, _, _]) (Sat.dropMid (K := [_, _, _, _]) (Sat.dropMid (K := [_, _, _, _]) ((((h.front (j := 3) rfl).front (j := 3) rfl).front (j := 3) rfl).front (j := 3) rfl))))) (by kernel_rfl) ?_
          refine GH_pure (E' := [⟨117, [(112, false)], .string (dirB o.path)⟩, ⟨116, [(112, false)], pt x2⟩, ⟨114, [(112, false)], .string (dirB o.path)⟩, ⟨113, [(112, false)], pt d1⟩, ⟨112, [], .bool false⟩, ⟨5, [], pt d1⟩, ⟨6, [], pt x2⟩, ⟨8, [], pt b4⟩, ⟨22, [], .slice ao ops.length co⟩, ⟨23, [], .int .i64 ((ops.length : Nat) : Int)⟩, ⟨24, [], .int .i64 ((k : Nat) : Int)⟩]) 11 0 (by kernel_rfl) (fun w h => (Sat.dropMid (K := [_, _, _, _]) (Sat.dropMid (K := [_, _, _, _]) (Sat.dropMid (K := [_, _, _, _]) ((((h.front (j := 3) rfl).front (j := 3) rfl).front (j := 3) rfl).front (j := 3) rfl))))) (by kernel_rfl) ?_
          refine GH_eff 9 (by kernel_rfl) (by kernel_rfl) (by kernel_rfl) ?_
          obtain ⟨L33, hL33⟩ : ∃ L, listM (doM Mx o).2 (dirB o.path) = L := ⟨_, rfl⟩
          have hlL33 : L33.length ≤ 9000000000 := by (have h1 := listM_len (doM Mx o).2 (dirB o.path); have h2 := (hM2).small.names; rw [hL33] at h1; omega)
          refine GL_call (i := 9) (ch := [(112, false)]) (f := 21) (fst := #[]) (caps := #[]) (vs := [pt d1, .string (dirB o.path)]) rfl rfl rfl (by kernel_rfl) (by kernel_rfl) Try.func21 rfl rfl (by kernel_rfl) (by kernel_rfl) (chSure_of (by kernel_rfl)) (dList hs3 (hM2).small d1 (dirB o.path) [g30, g25, gz15, [(b4, .cells #[.int .i64 o.kind, .string o.path, .string o.to, .slice o.ba o.b.size o.bc, .int .i64 o.n, .slice o.ka o.k.length o.kc] 41 (0, 0))]] _ (r3.G x2 (doM Mx o).2 ++ (G ++ H)) hL33) ?_
          rintro v H' ⟨la34, lc35, g36, rfl, hlc37, hrd38, rfl⟩
          refine GH_back (by kernel_rfl) (fun w h => (Sat.dropMid (K := [_, _, _, _]) (Sat.dropMid (K := [_, _, _, _]) (Sat.dropMid (K := [_, _, _, _]) (((((h.front (j := 4) rfl).front (j := 4) rfl).front (j := 4) rfl).front (j := 4) rfl).erase 4))))) ?_
          refine GH_more (g36 :: g30 :: g25 :: gz15 :: [(b4, .cells #[.int .i64 o.kind, .string o.path, .string o.to, .slice o.ba o.b.size o.bc, .int .i64 o.n, .slice o.ka o.k.length o.kc] 41 (0, 0))] :: H) (fun w h => (((((h.front (j := 4) rfl).front (j := 4) rfl).front (j := 4) rfl).front (j := 4) rfl).erase 4)) ?_
          refine GH_eff 12 (by kernel_rfl) (by kernel_rfl) (by kernel_rfl) ?_
          refine GL_call (i := 12) (ch := [(112, false)]) (f := 30) (fst := #[]) (caps := #[]) (vs := [pt x2, .string (dirB o.path)]) rfl rfl rfl (by kernel_rfl) (by kernel_rfl) Try.func30 rfl rfl (by kernel_rfl) (by kernel_rfl) (chSure_of (by kernel_rfl)) (xList hr3 (hM2) x2 (dirB o.path) [g36, g30, g25, gz15, [(b4, .cells #[.int .i64 o.kind, .string o.path, .string o.to, .slice o.ba o.b.size o.bc, .int .i64 o.n, .slice o.ka o.k.length o.kc] 41 (0, 0))]] (s3.G d1 (doM Mx o).2) _ (G ++ H) hL33) ?_
          rintro v H' ⟨la39, lc40, g41, rfl, hlc42, hrd43, rfl⟩
          refine GH_back (by kernel_rfl) (fun w h => (Sat.dropMid (K := [_, _, _, _, _]) (Sat.dropMid (K := [_, _, _, _, _]) (Sat.dropMid (K := [_, _, _, _, _]) ((((((h.front (j := 5) rfl).front (j := 5) rfl).front (j := 5) rfl).front (j := 5) rfl).front (j := 5) rfl).erase 5))))) ?_
          refine GH_more (g41 :: g36 :: g30 :: g25 :: gz15 :: [(b4, .cells #[.int .i64 o.kind, .string o.path, .string o.to, .slice o.ba o.b.size o.bc, .int .i64 o.n, .slice o.ka o.k.length o.kc] 41 (0, 0))] :: H) (fun w h => ((((((h.front (j := 5) rfl).front (j := 5) rfl).front (j := 5) rfl).front (j := 5) rfl).front (j := 5) rfl).erase 5)) ?_
          refine GH_eff 13 (by kernel_rfl) (by kernel_rfl) (by kernel_rfl) ?_
          refine GL_call (i := 13) (ch := [(112, false)]) (f := 29) (fst := #[]) (caps := #[]) (vs := [.slice la34 L33.length lc35, .slice la39 L33.length lc40]) rfl rfl rfl (by kernel_rfl) (by kernel_rfl) Try.func29 rfl rfl (by kernel_rfl) (by kernel_rfl) (chSure_of (by kernel_rfl)) (vSame la34 la39 lc35 lc40 (inG g36) (inG g41) L33 hlL33 hrd38 hrd43 _ _ (at_inG 1 rfl) (at_inG 0 rfl)) ?_
          rintro v H' ⟨rfl, rfl⟩
          refine GH_back (by kernel_rfl) (fun w h => (Sat.dropMid (K := [_, _, _, _, _, _]) (Sat.dropMid (K := [_, _, _, _, _, _]) (Sat.dropMid (K := [_, _, _, _, _, _]) ((((((h.front (j := 5) rfl).front (j := 5) rfl).front (j := 5) rfl).front (j := 5) rfl).front (j := 5) rfl).front (j := 5) rfl))))) ?_
          refine GH_pure (E' := [⟨120, [(112, false)], .bool false⟩, ⟨112, [], .bool false⟩, ⟨5, [], pt d1⟩, ⟨6, [], pt x2⟩, ⟨8, [], pt b4⟩, ⟨22, [], .slice ao ops.length co⟩, ⟨23, [], .int .i64 ((ops.length : Nat) : Int)⟩, ⟨24, [], .int .i64 ((k : Nat) : Int)⟩]) 14 0 (by kernel_rfl) (fun w h => (Sat.dropMid (K := [_, _, _, _, _, _]) (Sat.dropMid (K := [_, _, _, _, _, _]) (Sat.dropMid (K := [_, _, _, _, _, _]) ((((((h.front (j := 5) rfl).front (j := 5) rfl).front (j := 5) rfl).front (j := 5) rfl).front (j := 5) rfl).front (j := 5) rfl))))) (by kernel_rfl) ?_
          refine GH_pure (E' := [⟨121, [], .bool false⟩, ⟨5, [], pt d1⟩, ⟨6, [], pt x2⟩, ⟨8, [], pt b4⟩, ⟨22, [], .slice ao ops.length co⟩, ⟨23, [], .int .i64 ((ops.length : Nat) : Int)⟩, ⟨24, [], .int .i64 ((k : Nat) : Int)⟩]) 15 3 (by kernel_rfl) (fun w h => (Sat.dropMid (K := [_, _, _, _, _, _]) (Sat.dropMid (K := [_, _, _, _, _, _]) (Sat.dropMid (K := [_, _, _, _, _, _]) ((((((h.front (j := 5) rfl).front (j := 5) rfl).front (j := 5) rfl).front (j := 5) rfl).front (j := 5) rfl).front (j := 5) rfl))))) (by kernel_rfl) ?_
          refine GH_pure (E' := [⟨122, [], .bool false⟩, ⟨5, [], pt d1⟩, ⟨6, [], pt x2⟩, ⟨8, [], pt b4⟩, ⟨22, [], .slice ao ops.length co⟩, ⟨23, [], .int .i64 ((ops.length : Nat) : Int)⟩, ⟨24, [], .int .i64 ((k : Nat) : Int)⟩]) 16 0 (by kernel_rfl) (fun w h => (Sat.dropMid (K := [_, _, _, _, _, _]) (Sat.dropMid (K := [_, _, _, _, _, _]) (Sat.dropMid (K := [_, _, _, _, _, _]) ((((((h.front (j := 5) rfl).front (j := 5) rfl).front (j := 5) rfl).front (j := 5) rfl).front (j := 5) rfl).front (j := 5) rfl))))) (by kernel_rfl) ?_
          refine GH_pure (E' := [⟨123, [(122, false)], pt d1⟩, ⟨122, [], .bool false⟩, ⟨5, [], pt d1⟩, ⟨6, [], pt x2⟩, ⟨8, [], pt b4⟩, ⟨22, [], .slice ao ops.length co⟩, ⟨23, [], .int .i64 ((ops.length : Nat) : Int)⟩, ⟨24, [], .int .i64 ((k : Nat) : Int)⟩]) 17 0 (by kernel_rfl) (fun w h => (Sat.dropMid (K := [_, _, _, _, _, _]) (Sat.dropMid (K := [_, _, _, _, _, _]) (Sat.dropMid (K := [_, _, _, _, _, _]) ((((((h.front (j := 5) rfl).front (j := 5) rfl).front (j := 5) rfl).front (j := 5) rfl).front (j := 5) rfl).front (j := 5) rfl))))) (by kernel_rfl) ?_
          refine GH_pure (E' := [⟨124, [(122, false)], .pointer (some ⟨b4, 1, none⟩)⟩, ⟨123, [(122, false)], pt d1⟩, ⟨122, [], .bool false⟩, ⟨5, [], pt d1⟩, ⟨6, [], pt x2⟩, ⟨8, [], pt b4⟩, ⟨22, [], .slice ao ops.length co⟩, ⟨23, [], .int .i64 ((ops.length : Nat) : Int)⟩, ⟨24, [], .int .i64 ((k : Nat) : Int)⟩]) 18 0 (by kernel_rfl) (fun w h => (Sat.dropMid (K := [_, _, _, _, _, _]) (Sat.dropMid (K := [_, _, _, _, _, _]) (Sat.dropMid (K := [_, _, _, _, _, _]) ((((((h.front (j := 5) rfl).front (j := 5) rfl).front (j := 5) rfl).front (j := 5) rfl).front (j := 5) rfl).front (j := 5) rfl))))) (by kernel_rfl) ?_
          refine GH_take' (E' := [⟨125, [(122, false)], .string o.path⟩, ⟨124, [(122, false)], .pointer (some ⟨b4, 1, none⟩)⟩, ⟨123, [(122, false)], pt d1⟩, ⟨122, [], .bool false⟩, ⟨5, [], pt d1⟩, ⟨6, [], pt x2⟩, ⟨8, [], pt b4⟩, ⟨22, [], .slice ao ops.length co⟩, ⟨23, [], .int .i64 ((ops.length : Nat) : Int)⟩, ⟨24, [], .int .i64 ((k : Nat) : Int)⟩]) 19 (by kernel_rfl) (fun w h => (Sat.dropMid (K := [_, _, _, _, _, _]) (Sat.dropMid (K := [_, _, _, _, _, _]) (Sat.dropMid (K := [_, _, _, _, _, _]) ((((((h.front (j := 5) rfl).front (j := 5) rfl).front (j := 5) rfl).front (j := 5) rfl).front (j := 5) rfl).front (j := 5) rfl))))) ?_ ?_
          ·
            refine GL_load (i := 19) (ch := [(122, false)]) (b := b4) (off := 1) (v := .string o.path) rfl rfl (by kernel_rfl) (by kernel_rfl) (by kernel_rfl) (by kernel_rfl) (by kernel_rfl) (At.grp 5 0 rfl rfl) rfl ?_
            exact GL_yend (by kernel_rfl) (by kernel_rfl)
          refine GH_pure (E' := [⟨127, [(122, false)], pt x2⟩, ⟨125, [(122, false)], .string o.path⟩, ⟨123, [(122, false)], pt d1⟩, ⟨122, [], .bool false⟩, ⟨5, [], pt d1⟩, ⟨6, [], pt x2⟩, ⟨8, [], pt b4⟩, ⟨22, [], .slice ao ops.length co⟩, ⟨23, [], .int .i64 ((ops.length : Nat) : Int)⟩, ⟨24, [], .int .i64 ((k : Nat) : Int)⟩]) 21 0 (by kernel_rfl) (fun w h => (Sat.dropMid (K := [_, _, _, _, _, _]) (Sat.dropMid (K := [_, _, _, _, _, _]) (Sat.dropMid (K := [_, _, _, _, _, _]) ((((((h.front (j := 5) rfl).front (j := 5) rfl).front (j := 5) rfl).front (j := 5) rfl).front (j := 5) rfl).front (j := 5) rfl))))) (by kernel_rfl) ?_
          refine GH_pure (E' := [⟨128, [(122, false)], .pointer (some ⟨b4, 1, none⟩)⟩, ⟨127, [(122, false)], pt x2⟩, ⟨125, [(122, false)], .string o.path⟩, ⟨123, [(122, false)], pt d1⟩, ⟨122, [], .bool false⟩, ⟨5, [], pt d1⟩, ⟨6, [], pt x2⟩, ⟨22, [], .slice ao ops.length co⟩, ⟨23, [], .int .i64 ((ops.length : Nat) : Int)⟩, ⟨24, [], .int .i64 ((k : Nat) : Int)⟩]) 22 0 (by kernel_rfl) (fun w h => (Sat.dropMid (K := [_, _, _, _, _, _]) (Sat.dropMid (K := [_, _, _, _, _, _]) (Sat.dropMid (K := [_, _, _, _, _, _]) ((((((h.front (j := 5) rfl).front (j := 5) rfl).front (j := 5) rfl).front (j := 5) rfl).front (j := 5) rfl).front (j := 5) rfl))))) (by kernel_rfl) ?_
          refine GH_take' (E' := [⟨129, [(122, false)], .string o.path⟩, ⟨128, [(122, false)], .pointer (some ⟨b4, 1, none⟩)⟩, ⟨127, [(122, false)], pt x2⟩, ⟨125, [(122, false)], .string o.path⟩, ⟨123, [(122, false)], pt d1⟩, ⟨122, [], .bool false⟩, ⟨5, [], pt d1⟩, ⟨6, [], pt x2⟩, ⟨22, [], .slice ao ops.length co⟩, ⟨23, [], .int .i64 ((ops.length : Nat) : Int)⟩, ⟨24, [], .int .i64 ((k : Nat) : Int)⟩]) 23 (by kernel_rfl) (fun w h => (Sat.dropMid (K := [_, _, _, _, _, _]) (Sat.dropMid (K := [_, _, _, _, _, _]) (Sat.dropMid (K := [_, _, _, _, _, _]) ((((((h.front (j := 5) rfl).front (j := 5) rfl).front (j := 5) rfl).front (j := 5) rfl).front (j := 5) rfl).front (j := 5) rfl))))) ?_ ?_
          ·
            refine GL_load (i := 23) (ch := [(122, false)]) (b := b4) (off := 1) (v := .string o.path) rfl rfl (by kernel_rfl) (by kernel_rfl) (by kernel_rfl) (by kernel_rfl) (by kernel_rfl) (At.grp 5 0 rfl rfl) rfl ?_
            exact GL_yend (by kernel_rfl) (by kernel_rfl)
          refine GH_eff 20 (by kernel_rfl) (by kernel_rfl) (by kernel_rfl) ?_
          obtain ⟨L44, hL44⟩ : ∃ L, listM (doM Mx o).2 o.path = L := ⟨_, rfl⟩
          have hlL44 : L44.length ≤ 9000000000 := by (have h1 := listM_len (doM Mx o).2 o.path; have h2 := (hM2).small.names; rw [hL44] at h1; omega)
          refine GL_call (i := 20) (ch := [(122, false)]) (f := 21) (fst := #[]) (caps := #[]) (vs := [pt d1, .string o.path]) rfl rfl rfl (by kernel_rfl) (by kernel_rfl) Try.func21 rfl rfl (by kernel_rfl) (by kernel_rfl) (chSure_of (by kernel_rfl)) (dList hs3 (hM2).small d1 o.path [g41, g36, g30, g25, gz15, [(b4, .cells #[.int .i64 o.kind, .string o.path, .string o.to, .slice o.ba o.b.size o.bc, .int .i64 o.n, .slice o.ka o.k.length o.kc] 41 (0, 0))]] _ (r3.G x2 (doM Mx o).2 ++ (G ++ H)) hL44) ?_
          rintro v H' ⟨la45, lc46, g47, rfl, hlc48, hrd49, rfl⟩
          refine GH_back (by kernel_rfl) (fun w h => (Sat.dropMid (K := [_, _, _, _, _, _]) (Sat.dropMid (K := [_, _, _, _, _, _]) (Sat.dropMid (K := [_, _, _, _, _, _]) (((((((h.front (j := 6) rfl).front (j := 6) rfl).front (j := 6) rfl).front (j := 6) rfl).front (j := 6) rfl).front (j := 6) rfl).erase 6))))) ?_
          refine GH_more (g47 :: g41 :: g36 :: g30 :: g25 :: gz15 :: [(b4, .cells #[.int .i64 o.kind, .string o.path, .string o.to, .slice o.ba o.b.size o.bc, .int .i64 o.n, .slice o.ka o.k.length o.kc] 41 (0, 0))] :: H) (fun w h => (((((((h.front (j := 6) rfl).front (j := 6) rfl).front (j := 6) rfl).front (j := 6) rfl).front (j := 6) rfl).front (j := 6) rfl).erase 6)) ?_
          refine GH_eff 24 (by kernel_rfl) (by kernel_rfl) (by kernel_rfl) ?_
          refine GL_call (i := 24) (ch := [(122, false)]) (f := 30) (fst := #[]) (caps := #[]) (vs := [pt x2, .string o.path]) rfl rfl rfl (by kernel_rfl) (by kernel_rfl) Try.func30 rfl rfl (by kernel_rfl) (by kernel_rfl) (chSure_of (by kernel_rfl)) (xList hr3 (hM2) x2 o.path [g47, g41, g36, g30, g25, gz15, [(b4, .cells #[.int .i64 o.kind, .string o.path, .string o.to, .slice o.ba o.b.size o.bc, .int .i64 o.n, .slice o.ka o.k.length o.kc] 41 (0, 0))]] (s3.G d1 (doM Mx o).2) _ (G ++ H) hL44) ?_
          rintro v H' ⟨la50, lc51, g52, rfl, hlc53, hrd54, rfl⟩
          refine GH_back (by kernel_rfl) (fun w h => (Sat.dropMid (K := [_, _, _, _, _, _, _]) (Sat.dropMid (K := [_, _, _, _, _, _, _]) (Sat.dropMid (K := [_, _, _, _, _, _, _]) ((((((((h.front (j := 7) rfl).front (j := 7) rfl).front (j := 7) rfl).front (j := 7) rfl).front (j := 7) rfl).front (j := 7) rfl).front (j := 7) rfl).erase 7))))) ?_
          refine GH_more (g52 :: g47 :: g41 :: g36 :: g30 :: g25 :: gz15 :: [(b4, .cells #[.int .i64 o.kind, .string o.path, .string o.to, .slice o.ba o.b.size o.bc, .int .i64 o.n, .slice o.ka o.k.length o.kc] 41 (0, 0))] :: H) (fun w h => ((((((((h.front (j := 7) rfl).front (j := 7) rfl).front (j := 7) rfl).front (j := 7) rfl).front (j := 7) rfl).front (j := 7) rfl).front (j := 7) rfl).erase 7)) ?_
          refine GH_eff 25 (by kernel_rfl) (by kernel_rfl) (by kernel_rfl) ?_
          refine GL_call (i := 25) (ch := [(122, false)]) (f := 29) (fst := #[]) (caps := #[]) (vs := [.slice la45 L44.length lc46, .slice la50 L44.length lc51]) rfl rfl rfl (by kernel_rfl) (by kernel_rfl) Try.func29 rfl rfl (by kernel_rfl) (by kernel_rfl) (chSure_of (by kernel_rfl)) (vSame la45 la50 lc46 lc51 (inG g47) (inG g52) L44 hlL44 hrd49 hrd54 _ _ (at_inG 1 rfl) (at_inG 0 rfl)) ?_
          rintro v H' ⟨rfl, rfl⟩
          refine GH_back (by kernel_rfl) (fun w h => (Sat.dropMid (K := [_, _, _, _, _, _, _, _]) (Sat.dropMid (K := [_, _, _, _, _, _, _, _]) (Sat.dropMid (K := [_, _, _, _, _, _, _, _]) ((((((((h.front (j := 7) rfl).front (j := 7) rfl).front (j := 7) rfl).front (j := 7) rfl).front (j := 7) rfl).front (j := 7) rfl).front (j := 7) rfl).front (j := 7) rfl))))) ?_
          refine GH_pure (E' := [⟨132, [(122, false)], .bool false⟩, ⟨122, [], .bool false⟩, ⟨5, [], pt d1⟩, ⟨6, [], pt x2⟩, ⟨22, [], .slice ao ops.length co⟩, ⟨23, [], .int .i64 ((ops.length : Nat) : Int)⟩, ⟨24, [], .int .i64 ((k : Nat) : Int)⟩]) 26 0 (by kernel_rfl) (fun w h => (Sat.dropMid (K := [_, _, _, _, _, _, _, _]) (Sat.dropMid (K := [_, _, _, _, _, _, _, _]) (Sat.dropMid (K := [_, _, _, _, _, _, _, _]) ((((((((h.front (j := 7) rfl).front (j := 7) rfl).front (j := 7) rfl).front (j := 7) rfl).front (j := 7) rfl).front (j := 7) rfl).front (j := 7) rfl).front (j := 7) rfl))))) (by kernel_rfl) ?_
          refine GH_pure (E' := [⟨133, [], .bool false⟩, ⟨5, [], pt d1⟩, ⟨6, [], pt x2⟩, ⟨22, [], .slice ao ops.length co⟩, ⟨23, [], .int .i64 ((ops.length : Nat) : Int)⟩, ⟨24, [], .int .i64 ((k : Nat) : Int)⟩]) 27 3 (by kernel_rfl) (fun w h => (Sat.dropMid (K := [_, _, _, _, _, _, _, _]) (Sat.dropMid (K := [_, _, _, _, _, _, _, _]) (Sat.dropMid (K := [_, _, _, _, _, _, _, _]) ((((((((h.front (j := 7) rfl).front (j := 7) rfl).front (j := 7) rfl).front (j := 7) rfl).front (j := 7) rfl).front (j := 7) rfl).front (j := 7) rfl).front (j := 7) rfl))))) (by kernel_rfl) ?_
          refine GH_done (E' := [⟨5, [], pt d1⟩, ⟨6, [], pt x2⟩, ⟨22, [], .slice ao ops.length co⟩, ⟨23, [], .int .i64 ((ops.length : Nat) : Int)⟩, ⟨24, [], .int .i64 ((k : Nat) : Int)⟩, ⟨133, [], .bool false⟩]) [5, 6, 22, 23, 24, 133] (by kernel_rfl) (by kernel_rfl) ?_
          refine N_then ?_
          refine G_condf (by kernel_rfl) ?_
          refine G_skip ?_
          refine N_block ?_
          refine N_then ?_
          have hw55 : IntKind.wrap .i64 (((k : Nat) : Int) + 1) = ((k : Nat) : Int) + 1 := w64 (by omega) (by omega)
          refine G_pure (E' := [⟨5, [], pt d1⟩, ⟨6, [], pt x2⟩, ⟨22, [], .slice ao ops.length co⟩, ⟨23, [], .int .i64 ((ops.length : Nat) : Int)⟩, ⟨24, [], .int .i64 (((k : Nat) : Int) + 1)⟩]) [0, 0] [5, 6, 22, 23, 24] rfl (Eq.trans (b := some [⟨5, [], pt d1⟩, ⟨6, [], pt x2⟩, ⟨22, [], .slice ao ops.length co⟩, ⟨23, [], .int .i64 ((ops.length : Nat) : Int)⟩, ⟨24, [], .int .i64 (IntKind.wrap .i64 (((k : Nat) : Int) + 1))⟩]) (by kernel_rfl) (by simp only [hw55])) ?_
          refine N_heap (H' := (s3.G d1 (doM Mx o).2 ++ (r3.G x2 (doM Mx o).2 ++ (G ++ H)))) (fun w h => ((((((((h.erase 7).erase 6).erase 5).erase 4).erase 3).erase 2).erase 1).erase 0)) ?_
          refine N_round (s' := (k + 1, s3, r3, (doM Mx o).2)) [5, 6, 22, 23, 24] (by kernel_rfl) rfl ⟨(by omega), (by omega), hs3, hr3, hc2⟩ (by omega)
  ·
    replace hc3 := of_decide_eq_false hc3
    refine G_exit ?_
    refine N_then_exit ?_
    refine N_then_exit ?_
    refine N_block_exit ?_
    refine N_then ?_
    refine G_seq ?_
    refine G_pure (E' := [⟨4, [], .bool true⟩]) [0] [4] rfl (by kernel_rfl) ?_
    refine N_then ?_
    refine G_ret ?_
    refine N_ret [.tmp 4] [.bool true] rfl (by kernel_rfl) rfl ?_
    exact ⟨rfl, [] ++ (sx.G d1 Mx ++ (rx.G x2 Mx ++ G)), by simp⟩
end Go.Proofs.Ytbmieiffboenbaa
namespace Go.Proofs.Ytbmieiffboenbaa
open Go Go.ChangeShapes Go.WideShapes Go.ChangeAt Go.RowKit Go.Sw Go.Vf
set_option maxRecDepth 100000 in
theorem vfsPlays_lifted (os : Os) (started : os.Started) (H : Type) (enc : TypeId × Value → H) :
    ReturnsInHanded {} Try.checked os 6 .any (Rows.vfsPlaysSpec.pre6 enc Try.prog Try.f6 Rows.vfsPlaysRow.domain false) (Rows.vfsPlaysSpec.post enc Try.prog Try.f6 false true false false) := by
  refine returnsInHanded_of_change (C := Try.checked) ownKnob_ started (by kernel_rfl) Try.func6
    (ChangeSpec.witness6 (enc := enc) (C := Try.checked) false ⟨#[], #[.int .i64 0, .slice none 0 0], []⟩ 8 (by kernel_rfl) (by kernel_rfl) (by kernel_rfl) (by kernel_rfl)) ?_
  intro W base args ds gs before hval0 hW hcnd _
  have hval : ∀ (j : Nat) t v, Try.f6.params[j]? = some t → args[j]? = some v → Value.okWide Try.prog W .any base t v := hval0
  have hW' := hW
  obtain ⟨p, q, hA0, hV, rfl, _, _⟩ := hW
  have hA : DataW.TrodAll enc Try.prog W 0 (fun _ => true) true Try.f6.params.toList args.toList ds p := hA0
  rw [Try.params6] at hA hval
  obtain ⟨v0, v1, d0, d1, q0, q1, rfl, rfl, rfl, h0, h1⟩ := trodAll_two hA
  obtain ⟨rfl, rfl⟩ := trodVars_none hV
  obtain ⟨room, rfl⟩ := okWide_int Try.underlying3 (hval 0 3 v0 rfl rfl)
  obtain ⟨ao, co, ops, rfl, ho1, ho2, ho3, ho4⟩ := open_script (hval 1 38 v1 rfl rfl) h1
  simp only [List.append_nil] at hW'
  have hlt : ∀ x ∈ q0 ++ q1, x.block < W.heap.size := fun x hx => by simpa using hW'.lt x hx
  refine (vfsPlays_ ao co (SW W) room ops W ho1 ho4 ho3 (fun y o h => sw_at h) [] W (sat_nil W)).mono fun e W' ⟨v, H', he, ⟨hv, G, hH⟩, hs⟩ => ?_
  subst he; subst hv; subst hH
  have hb := hs.below
  refine ⟨_, rfl, ⟨_, _, _, [], q0 ++ q1, [], hW', trodAll_mk1 (shut_bool Try.underlying4 _), ?_, rfl, hb.frame _, fun h => by cases h⟩⟩
  have k0 := Below.trod laidOut_ (by kernel_rfl) (of_decide_eq_true (by kernel_rfl)) h0 hb (fun x hx => hlt x (by simp [hx]))
  have k1 := Below.trod laidOut_ (by kernel_rfl) (of_decide_eq_true (by kernel_rfl)) h1 hb (fun x hx => hlt x (by simp [hx]))
  exact trodAll_mk2 k0 k1
theorem vfsPlays_said : Rows.VfsPlaysSaid :=
  OpenClaim.holds_of_wide 6 Try.f6 rfl rfl rfl rfl rfl rfl rfl ⟨rfl, rfl, rfl, rfl, rfl⟩ rfl rfl rfl rfl rfl (by kernel_rfl) Try.func6 (by kernel_rfl)
    (of_decide_eq_true (by kernel_rfl)) (by unfold Func.isWrapper; first | (rw [if_pos (by decide +kernel)]; kernel_rfl) | (rw [if_neg (by decide +kernel)]; exact ⟨rfl, rfl⟩))
    (fun os started H enc _ => vfsPlays_lifted os started H enc)
#print axioms vfsPlays_said
end Go.Proofs.Ytbmieiffboenbaa
