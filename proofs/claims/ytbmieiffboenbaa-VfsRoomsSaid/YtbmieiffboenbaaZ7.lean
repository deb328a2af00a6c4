/- VfsRooms: no call but a crash brings more bytes than there is room, a call with an error changes nothing that is seen; a nil disk. No condition beyond the given statement's. (and what it stands on) -/
import Derived.Test.YtbmieiffboenbaaZ6
namespace Go.Proofs.Ytbmieiffboenbaa
open Go.Sw Go.Lib Go.Vf Go.RowKit
theorem vTry (d : Nat) (s0 : DS) (M : DM) (hs0 : s0.ok M) (hM : Small M) (S : Nat → Obj → Prop) (o : OpV) (hb : o.b.size ≤ 1000000000) (W0 : World) (H : List Grp) (hO : OpOk S W0 [] o) : Tri Try.prog 20 #[pt d, .agg #[.int .i64 o.kind, .string o.path, .string o.to, .slice o.ba o.b.size o.bc, .int .i64 o.n, .slice o.ka o.k.length o.kc]] W0 (s0.G d M ++ H) (fun v H' => v = .int .i64 (tryM M o).1 ∧ ∃ (s1 : DS) (g : Grp), s1.ok (tryM M o).2 ∧ H' = g :: (s1.G d (tryM M o).2 ++ H)) := by
  refine Tri_of (args := [pt d, .agg #[.int .i64 o.kind, .string o.path, .string o.to, .slice o.ba o.b.size o.bc, .int .i64 o.n, .slice o.ka o.k.length o.kc]]) (n := 49) Try.func20 rfl rfl (Nat.le_of_ble_eq_true rfl) ?_
  refine G_seq ?_
  refine G_region ?_
  refine GL_box (i := 0) (ch := []) (v := .agg #[.int .i64 o.kind, .string o.path, .string o.to, .slice o.ba o.b.size o.bc, .int .i64 o.n, .slice o.ka o.k.length o.kc]) rfl rfl (by kernel_rfl) (by kernel_rfl) (by kernel_rfl) (by kernel_rfl) (fun b1 => ?_)
  refine GL_fin (E' := [⟨0, [], pt d⟩, ⟨3, [], pt b1⟩]) [0] [0, 3] rfl (by kernel_rfl) ?_
  refine N_then ?_
  refine G_seq ?_
  refine G_seq ?_
  refine G_region ?_
  refine GL_pure (E' := [⟨5, [], pt b1⟩, ⟨0, [], pt d⟩, ⟨3, [], pt b1⟩]) [0] (by kernel_rfl) (j := 1) rfl ?_
  refine GL_load (i := 1) (ch := []) (b := b1) (off := 0) (v := .int .i64 o.kind) rfl rfl (by kernel_rfl) (by kernel_rfl) (by kernel_rfl) (by kernel_rfl) (by kernel_rfl) (At.grp 0 0 rfl rfl) rfl ?_
  refine GL_fin (E' := [⟨0, [], pt d⟩, ⟨3, [], pt b1⟩, ⟨8, [], .int .u64 (Int.tmod (IntKind.wrap .u64 o.kind) 8)⟩]) [0, 0] [0, 3, 8] rfl (by kernel_rfl) ?_
  refine N_then ?_
  refine G_block ?_
  refine G_seq ?_
  refine G_pure (E' := [⟨0, [], pt d⟩, ⟨3, [], pt b1⟩, ⟨8, [], .int .u64 (Int.tmod (IntKind.wrap .u64 o.kind) 8)⟩, ⟨9, [], .bool ((Int.tmod (IntKind.wrap .u64 o.kind) 8) == 0)⟩]) [0, 0] [0, 3, 8, 9] rfl (by kernel_rfl) ?_
  refine N_then ?_
  refine G_cond (b := (Int.tmod (IntKind.wrap .u64 o.kind) 8) == 0) (by kernel_rfl) (fun hc2 => ?_) (fun hc2 => ?_)
  ·
    have hk0 : kindU o = 0 := by simpa [kindU] using hc2
    -- L k0
    refine G_seq ?_
    refine G_region ?_
    refine GL_pure (E' := [⟨12, [], .pointer (some ⟨b1, 1, none⟩)⟩, ⟨11, [], pt d⟩, ⟨3, [], pt b1⟩]) [0, 0] (by kernel_rfl) (j := 2) rfl ?_
    refine GL_load (i := 2) (ch := []) (b := b1) (off := 1) (v := .string o.path) rfl rfl (by kernel_rfl) (by kernel_rfl) (by kernel_rfl) (by kernel_rfl) (by kernel_rfl) (At.grp 0 0 rfl rfl) rfl ?_
    refine GL_pure (E' := [⟨14, [], .pointer (some ⟨b1, 3, none⟩)⟩, ⟨13, [], .string o.path⟩, ⟨11, [], pt d⟩]) [0] (by kernel_rfl) (j := 4) rfl ?_
    refine GL_load (i := 4) (ch := []) (b := b1) (off := 3) (v := .slice o.ba o.b.size o.bc) rfl rfl (by kernel_rfl) (by kernel_rfl) (by kernel_rfl) (by kernel_rfl) (by kernel_rfl) (At.grp 0 0 rfl rfl) rfl ?_
    refine GL_call (i := 5) (ch := []) (f := 13) (fst := #[]) (caps := #[]) (vs := [pt d, .string o.path, .slice o.ba o.b.size o.bc]) rfl rfl rfl (by kernel_rfl) (by kernel_rfl) Try.func13 rfl rfl (by kernel_rfl) (by kernel_rfl) (chSure_of (by kernel_rfl)) (dWrite hs0 hM d o.path o.b hO.path hb [[(b1, .cells #[.int .i64 o.kind, .string o.path, .string o.to, .slice o.ba o.b.size o.bc, .int .i64 o.n, .slice o.ka o.k.length o.kc] 41 (0, 0))]] _ H (BytesA.v hO.b).up rfl) ?_
    rintro v H' ⟨rfl, s1, hs1, rfl⟩
    refine GL_fin (E' := [⟨4, [], .int .i64 ((writeM M o.path o.b).1)⟩]) [0] [4] rfl (by kernel_rfl) ?_
    refine N_then ?_
    refine G_ret ?_
    refine N_block_ret ?_
    refine N_then_ret ?_
    refine N_ret [.tmp 4] [.int .i64 ((writeM M o.path o.b).1)] rfl (by kernel_rfl) rfl ?_
    have ht : tryM M o = writeM M o.path o.b := by (unfold tryM; rw [if_pos hk0])
    rw [ht]
    exact ⟨rfl, s1, _, hs1, rfl⟩
  ·
    have hk0 : ¬ kindU o = 0 := by simpa [kindU] using hc2
    refine G_seq ?_
    refine G_pure (E' := [⟨0, [], pt d⟩, ⟨3, [], pt b1⟩, ⟨8, [], .int .u64 (Int.tmod (IntKind.wrap .u64 o.kind) 8)⟩, ⟨17, [], .bool ((Int.tmod (IntKind.wrap .u64 o.kind) 8) == 1)⟩]) [0, 0] [0, 3, 8, 17] rfl (by kernel_rfl) ?_
    refine N_then ?_
    refine G_cond (b := (Int.tmod (IntKind.wrap .u64 o.kind) 8) == 1) (by kernel_rfl) (fun hc3 => ?_) (fun hc3 => ?_)
    ·
      have hk1 : kindU o = 1 := by simpa [kindU] using hc3
      -- L k1
      refine G_seq ?_
      refine G_region ?_
      refine GL_pure (E' := [⟨20, [], .pointer (some ⟨b1, 1, none⟩)⟩, ⟨19, [], pt d⟩, ⟨3, [], pt b1⟩]) [0, 0] (by kernel_rfl) (j := 2) rfl ?_
      refine GL_load (i := 2) (ch := []) (b := b1) (off := 1) (v := .string o.path) rfl rfl (by kernel_rfl) (by kernel_rfl) (by kernel_rfl) (by kernel_rfl) (by kernel_rfl) (At.grp 0 0 rfl rfl) rfl ?_
      refine GL_pure (E' := [⟨22, [], .pointer (some ⟨b1, 3, none⟩)⟩, ⟨21, [], .string o.path⟩, ⟨19, [], pt d⟩]) [0] (by kernel_rfl) (j := 4) rfl ?_
      refine GL_load (i := 4) (ch := []) (b := b1) (off := 3) (v := .slice o.ba o.b.size o.bc) rfl rfl (by kernel_rfl) (by kernel_rfl) (by kernel_rfl) (by kernel_rfl) (by kernel_rfl) (At.grp 0 0 rfl rfl) rfl ?_
      refine GL_call (i := 5) (ch := []) (f := 22) (fst := #[]) (caps := #[]) (vs := [pt d, .string o.path, .slice o.ba o.b.size o.bc]) rfl rfl rfl (by kernel_rfl) (by kernel_rfl) Try.func22 rfl rfl (by kernel_rfl) (by kernel_rfl) (chSure_of (by kernel_rfl)) (dAppend hs0 hM d o.path o.b hO.path hb [[(b1, .cells #[.int .i64 o.kind, .string o.path, .string o.to, .slice o.ba o.b.size o.bc, .int .i64 o.n, .slice o.ka o.k.length o.kc] 41 (0, 0))]] _ H (BytesA.v hO.b).up rfl) ?_
      rintro v H' ⟨rfl, s2, hs2, rfl⟩
      refine GL_fin (E' := [⟨4, [], .int .i64 ((appendM M o.path o.b).1)⟩]) [0] [4] rfl (by kernel_rfl) ?_
      refine N_then ?_
      refine G_ret ?_
      refine N_block_ret ?_
      refine N_then_ret ?_
      refine N_ret [.tmp 4] [.int .i64 ((appendM M o.path o.b).1)] rfl (by kernel_rfl) rfl ?_
      have ht : tryM M o = appendM M o.path o.b := by (unfold tryM; rw [if_neg hk0, if_pos hk1])
      rw [ht]
      exact ⟨rfl, s2, _, hs2, rfl⟩
    ·
      have hk1 : ¬ kindU o = 1 := by simpa [kindU] using hc3
      refine G_seq ?_
      refine G_pure (E' := [⟨0, [], pt d⟩, ⟨3, [], pt b1⟩, ⟨8, [], .int .u64 (Int.tmod (IntKind.wrap .u64 o.kind) 8)⟩, ⟨25, [], .bool ((Int.tmod (IntKind.wrap .u64 o.kind) 8) == 2)⟩]) [0, 0] [0, 3, 8, 25] rfl (by kernel_rfl) ?_
      refine N_then ?_
      refine G_cond (b := (Int.tmod (IntKind.wrap .u64 o.kind) 8) == 2) (by kernel_rfl) (fun hc4 => ?_) (fun hc4 => ?_)
      ·
        have hk2 : kindU o = 2 := by simpa [kindU] using hc4
        -- L k2
        refine G_seq ?_
        refine G_region ?_
        refine GL_pure (E' := [⟨28, [], .pointer (some ⟨b1, 1, none⟩)⟩, ⟨27, [], pt d⟩, ⟨3, [], pt b1⟩]) [0, 0] (by kernel_rfl) (j := 2) rfl ?_
        refine GL_load (i := 2) (ch := []) (b := b1) (off := 1) (v := .string o.path) rfl rfl (by kernel_rfl) (by kernel_rfl) (by kernel_rfl) (by kernel_rfl) (by kernel_rfl) (At.grp 0 0 rfl rfl) rfl ?_
        refine GL_pure (E' := [⟨30, [], .pointer (some ⟨b1, 2, none⟩)⟩, ⟨29, [], .string o.path⟩, ⟨27, [], pt d⟩]) [0] (by kernel_rfl) (j := 4) rfl ?_
        refine GL_load (i := 4) (ch := []) (b := b1) (off := 2) (v := .string o.to) rfl rfl (by kernel_rfl) (by kernel_rfl) (by kernel_rfl) (by kernel_rfl) (by kernel_rfl) (At.grp 0 0 rfl rfl) rfl ?_
        refine GL_call (i := 5) (ch := []) (f := 17) (fst := #[]) (caps := #[]) (vs := [pt d, .string o.path, .string o.to]) rfl rfl rfl (by kernel_rfl) (by kernel_rfl) Try.func17 rfl rfl (by kernel_rfl) (by kernel_rfl) (chSure_of (by kernel_rfl)) (dRename hs0 hM d o.path o.to hO.path hO.to [[(b1, .cells #[.int .i64 o.kind, .string o.path, .string o.to, .slice o.ba o.b.size o.bc, .int .i64 o.n, .slice o.ka o.k.length o.kc] 41 (0, 0))]] _ H rfl) ?_
        rintro v H' ⟨rfl, s3, hs3, rfl⟩
        refine GL_fin (E' := [⟨4, [], .int .i64 ((renameM M o.path o.to).1)⟩]) [0] [4] rfl (by kernel_rfl) ?_
        refine N_then ?_
        refine G_ret ?_
        refine N_block_ret ?_
        refine N_then_ret ?_
        refine N_ret [.tmp 4] [.int .i64 ((renameM M o.path o.to).1)] rfl (by kernel_rfl) rfl ?_
        have ht : tryM M o = renameM M o.path o.to := by (unfold tryM; rw [if_neg hk0, if_neg hk1, if_pos hk2])
        rw [ht]
        exact ⟨rfl, s3, _, hs3, rfl⟩
      ·
        have hk2 : ¬ kindU o = 2 := by simpa [kindU] using hc4
        refine G_seq ?_
        refine G_pure (E' := [⟨0, [], pt d⟩, ⟨3, [], pt b1⟩, ⟨8, [], .int .u64 (Int.tmod (IntKind.wrap .u64 o.kind) 8)⟩, ⟨33, [], .bool ((Int.tmod (IntKind.wrap .u64 o.kind) 8) == 3)⟩]) [0, 0] [0, 3, 8, 33] rfl (by kernel_rfl) ?_
        refine N_then ?_
        refine G_cond (b := (Int.tmod (IntKind.wrap .u64 o.kind) 8) == 3) (by kernel_rfl) (fun hc5 => ?_) (fun hc5 => ?_)
        ·
          have hk3 : kindU o = 3 := by simpa [kindU] using hc5
          -- L k3
          refine G_seq ?_
          refine G_region ?_
          refine GL_pure (E' := [⟨36, [], .pointer (some ⟨b1, 1, none⟩)⟩, ⟨35, [], pt d⟩]) [0, 0] (by kernel_rfl) (j := 2) rfl ?_
          refine GL_load (i := 2) (ch := []) (b := b1) (off := 1) (v := .string o.path) rfl rfl (by kernel_rfl) (by kernel_rfl) (by kernel_rfl) (by kernel_rfl) (by kernel_rfl) (At.grp 0 0 rfl rfl) rfl ?_
          refine GL_call (i := 3) (ch := []) (f := 43) (fst := #[]) (caps := #[]) (vs := [pt d, .string o.path]) rfl rfl rfl (by kernel_rfl) (by kernel_rfl) Try.func43 rfl rfl (by kernel_rfl) (by kernel_rfl) (chSure_of (by kernel_rfl)) (dRemove hs0 hM d o.path hO.path [[(b1, .cells #[.int .i64 o.kind, .string o.path, .string o.to, .slice o.ba o.b.size o.bc, .int .i64 o.n, .slice o.ka o.k.length o.kc] 41 (0, 0))]] _ H rfl) ?_
          rintro v H' ⟨rfl, s4, hs4, rfl⟩
          refine GL_fin (E' := [⟨4, [], .int .i64 ((removeM M o.path).1)⟩]) [0] [4] rfl (by kernel_rfl) ?_
          refine N_then ?_
          refine G_ret ?_
          refine N_block_ret ?_
          refine N_then_ret ?_
          refine N_ret [.tmp 4] [.int .i64 ((removeM M o.path).1)] rfl (by kernel_rfl) rfl ?_
          have ht : tryM M o = removeM M o.path := by (unfold tryM; rw [if_neg hk0, if_neg hk1, if_neg hk2, if_pos hk3])
          rw [ht]
          exact ⟨rfl, s4, _, hs4, rfl⟩
        ·
          have hk3 : ¬ kindU o = 3 := by simpa [kindU] using hc5
          refine G_seq ?_
          refine G_pure (E' := [⟨0, [], pt d⟩, ⟨3, [], pt b1⟩, ⟨39, [], .bool ((Int.tmod (IntKind.wrap .u64 o.kind) 8) == 4)⟩]) [0, 0] [0, 3, 39] rfl (by kernel_rfl) ?_
          refine N_then ?_
          refine G_cond (b := (Int.tmod (IntKind.wrap .u64 o.kind) 8) == 4) (by kernel_rfl) (fun hc6 => ?_) (fun hc6 => ?_)
          ·
            have hk4 : kindU o = 4 := by simpa [kindU] using hc6
            -- L k4
            refine G_seq ?_
            refine G_region ?_
            refine GL_pure (E' := [⟨42, [], .pointer (some ⟨b1, 1, none⟩)⟩, ⟨41, [], pt d⟩]) [0, 0] (by kernel_rfl) (j := 2) rfl ?_
            refine GL_load (i := 2) (ch := []) (b := b1) (off := 1) (v := .string o.path) rfl rfl (by kernel_rfl) (by kernel_rfl) (by kernel_rfl) (by kernel_rfl) (by kernel_rfl) (At.grp 0 0 rfl rfl) rfl ?_
            refine GL_call (i := 3) (ch := []) (f := 14) (fst := #[]) (caps := #[]) (vs := [pt d, .string o.path]) rfl rfl rfl (by kernel_rfl) (by kernel_rfl) Try.func14 rfl rfl (by kernel_rfl) (by kernel_rfl) (chSure_of (by kernel_rfl)) (dSync hs0 hM d o.path hO.path [[(b1, .cells #[.int .i64 o.kind, .string o.path, .string o.to, .slice o.ba o.b.size o.bc, .int .i64 o.n, .slice o.ka o.k.length o.kc] 41 (0, 0))]] _ H rfl) ?_
            rintro v H' ⟨rfl, s5, hs5, rfl⟩
            refine GL_fin (E' := [⟨4, [], .int .i64 ((syncM M o.path).1)⟩]) [0] [4] rfl (by kernel_rfl) ?_
            refine N_then ?_
            refine G_ret ?_
            refine N_block_ret ?_
            refine N_then_ret ?_
            refine N_ret [.tmp 4] [.int .i64 ((syncM M o.path).1)] rfl (by kernel_rfl) rfl ?_
            have ht : tryM M o = syncM M o.path := by (unfold tryM; rw [if_neg hk0, if_neg hk1, if_neg hk2, if_neg hk3, if_pos hk4])
            rw [ht]
            exact ⟨rfl, s5, _, hs5, rfl⟩
          ·
            have hk4 : ¬ kindU o = 4 := by simpa [kindU] using hc6
            refine G_skip ?_
            refine N_block ?_
            refine N_then ?_
            refine G_seq ?_
            refine G_region ?_
            refine GL_pure (E' := [⟨46, [], .pointer (some ⟨b1, 1, none⟩)⟩, ⟨45, [], pt d⟩]) [0, 0] (by kernel_rfl) (j := 2) rfl ?_
            refine GL_load (i := 2) (ch := []) (b := b1) (off := 1) (v := .string o.path) rfl rfl (by kernel_rfl) (by kernel_rfl) (by kernel_rfl) (by kernel_rfl) (by kernel_rfl) (At.grp 0 0 rfl rfl) rfl ?_
            refine GL_call (i := 3) (ch := []) (f := 15) (fst := #[]) (caps := #[]) (vs := [pt d, .string o.path]) rfl rfl rfl (by kernel_rfl) (by kernel_rfl) Try.func15 rfl rfl (by kernel_rfl) (by kernel_rfl) (chSure_of (by kernel_rfl)) (dSyncDir hs0 hM d o.path hO.path [[(b1, .cells #[.int .i64 o.kind, .string o.path, .string o.to, .slice o.ba o.b.size o.bc, .int .i64 o.n, .slice o.ka o.k.length o.kc] 41 (0, 0))]] _ H rfl) ?_
            rintro v H' ⟨rfl, s6, hs6, rfl⟩
            refine GL_fin (E' := [⟨4, [], .int .i64 ((syncDirM M o.path).1)⟩]) [0] [4] rfl (by kernel_rfl) ?_
            refine N_then ?_
            refine G_ret ?_
            refine N_ret [.tmp 4] [.int .i64 ((syncDirM M o.path).1)] rfl (by kernel_rfl) rfl ?_
            have ht : tryM M o = syncDirM M o.path := by (unfold tryM; rw [if_neg hk0, if_neg hk1, if_neg hk2, if_neg hk3, if_neg hk4])
            rw [ht]
            exact ⟨rfl, s6, _, hs6, rfl⟩
end Go.Proofs.Ytbmieiffboenbaa
namespace Go.Vf
open Go.Sw Go.RowKit Go.Proofs Go.Proofs.Ytbmieiffboenbaa
theorem dTry {s : DS} {M : DM} (h : s.ok M) (hm : Small M) (d : Nat) (S : Nat → Obj → Prop) (o : OpV) (hb : o.b.size ≤ 1000000000) (K : List Grp) (W0 : World) (H : List Grp) (hO : OpOk S W0 [] o) :
    Tri Try.prog 20 #[.pointer (some ⟨d, 0, none⟩), .agg #[.int .i64 o.kind, .string o.path, .string o.to, .slice o.ba o.b.size o.bc, .int .i64 o.n, .slice o.ka o.k.length o.kc]] W0 (K ++ (s.G d M ++ H))
      (fun v H' => v = .int .i64 (tryM M o).1 ∧ ∃ (s1 : DS) (g : Grp), s1.ok (tryM M o).2 ∧ H' = g :: (K ++ (s1.G d (tryM M o).2 ++ H))) := by
  refine Tri.heap (fun _ hw => front_to hw) (Tri.post (vTry d s M h hm S o hb W0 (K ++ H) hO) fun v H1 ⟨hv, s1, g, hs1, hH⟩ => ⟨_, ⟨hv, s1, g, hs1, rfl⟩, fun w hw => ?_⟩)
  rw [hH] at hw
  refine sat_cnt hw fun _ x => ?_
  simp only [List.flatten_cons, List.flatten_append, List.count_append]
  omega
end Go.Vf
namespace Go.Vf
open Go.Sw Go.Proofs.Ytbmieiffboenbaa
def fold (ls : List (List Nm)) (l : List Nm) : List Nm := ls.foldl applyN l
theorem look_one {l l' c : List Nm} {p : ByteArray} : lookN l p = lookN l' p → lookN (applyN l c) p = lookN (applyN l' c) p := by
  induction c generalizing l l' with
  | nil => exact fun h => h
  | cons x c ih => exact fun h => ih (by rw [lookN_with, lookN_with, h])
theorem look_fold {ls : List (List Nm)} : ∀ {l l' : List Nm} {p : ByteArray}, lookN l p = lookN l' p → lookN (fold ls l) p = lookN (fold ls l') p := by
  induction ls with
  | nil => exact fun h => h
  | cons c ls ih => exact fun h => ih (look_one h)
theorem look_off {c : List Nm} : ∀ {l : List Nm} {p : ByteArray}, (∀ y ∈ c, y.1 ≠ p) → lookN (applyN l c) p = lookN l p := by
  induction c with
  | nil => exact fun _ => rfl
  | cons x c ih =>
    intro l p h
    show lookN (applyN (withN l x) c) p = _
    rw [ih fun y hy => h y (List.mem_cons_of_mem _ hy), lookN_with, if_neg]
    intro e
    rw [baEq] at e
    exact h x List.mem_cons_self e.symm
theorem look_offs {ls : List (List Nm)} : ∀ {l : List Nm} {p : ByteArray}, (∀ c ∈ ls, ∀ y ∈ c, y.1 ≠ p) → lookN (fold ls l) p = lookN l p := by
  induction ls with
  | nil => exact fun _ => rfl
  | cons c ls ih => exact fun {l p} h => (ih fun d hd => h d (List.mem_cons_of_mem _ hd)).trans (look_off (h c List.mem_cons_self))
theorem fold_app (a b : List (List Nm)) (l : List Nm) : fold (a ++ b) l = fold b (fold a l) := List.foldl_append
abbrev Un (l : List Nm) : Prop := (l.map Prod.fst).Nodup
theorem un_with {l : List Nm} (h : Un l) (x : Nm) : Un (withN l x) := by
  show ((l.filter (fun n => !(x.1 == n.1)) ++ (if 0 ≤ x.2 then [x] else [])).map Prod.fst).Nodup
  rw [List.map_append, List.nodup_append]
  refine ⟨List.Sublist.nodup (List.Sublist.map _ List.filter_sublist) h, by split <;> simp, ?_⟩
  intro a ha b hb
  obtain ⟨y, hy, rfl⟩ := List.mem_map.1 ha
  have h2 := (List.mem_filter.1 hy).2
  split at hb
  · rw [List.map_cons, List.map_nil, List.mem_singleton] at hb
    subst hb
    intro e
    rw [← e, show (y.1 == y.1) = true from baEq.2 rfl] at h2
    simp at h2
  · simp at hb
theorem un_apply {c : List Nm} : ∀ {l : List Nm}, Un l → Un (applyN l c) := by
  induction c with
  | nil => exact fun h => h
  | cons x c ih => exact fun h => ih (un_with h x)
theorem un_fold {ls : List (List Nm)} : ∀ {l : List Nm}, Un l → Un (fold ls l) := by
  induction ls with
  | nil => exact fun h => h
  | cons c ls ih => exact fun h => ih (un_apply h)
def Inj (d : ByteArray) (l : List Nm) : Prop := ∀ p q k, dirB p = d → dirB q = d → lookN l p = some k → lookN l q = some k → p = q
theorem inj_same {d : ByteArray} {l l' : List Nm} (h : Inj d l) (e : ∀ p, dirB p = d → lookN l' p = lookN l p) : Inj d l' := fun p q k hp hq h1 h2 => h p q k hp hq (by rw [← e p hp]; exact h1) (by rw [← e q hq]; exact h2)
def Own1 (own : Nat → ByteArray) (n : Nat) (y : Nm) : Prop := 0 ≤ y.2 → y.2.toNat < n ∧ own y.2.toNat = dirB y.1
structure RoO (own : Nat → ByteArray) (M : DM) : Prop where
  n : ∀ y ∈ M.names, 0 ≤ y.2 ∧ Own1 own M.bodies.length y
  k : ∀ y ∈ M.kept, 0 ≤ y.2 ∧ Own1 own M.bodies.length y
  c : ∀ C ∈ M.changes, ∀ y ∈ C.l, dirB y.1 = C.dir ∧ Own1 own M.bodies.length y
  un : Un M.names
  uk : Un M.kept
  inj : ∀ d n, Inj d (fold ((chOf M.changes d).take n) M.kept)
  now : ∀ p, lookN (fold (chOf M.changes (dirB p)) M.kept) p = lookN M.names p
def Ro (M : DM) : Prop := ∃ own, RoO own M
theorem ro_new (room : Int) : Ro (newM room) := ⟨fun _ => p0, fun y hy => absurd hy List.not_mem_nil, fun y hy => absurd hy List.not_mem_nil, fun C hC => absurd hC List.not_mem_nil, List.nodup_nil, List.nodup_nil, (fun d n p q k _ _ h => by
    have e : (chOf (newM room).changes d).take n = [] := by show List.take n [] = []; exact List.take_nil
    rw [e] at h; cases h), fun p => rfl⟩
theorem RoO.dir {own : Nat → ByteArray} {M : DM} (h : RoO own M) {d : ByteArray} : Inj d M.names := by
  have h1 := h.inj d (chOf M.changes d).length
  rw [List.take_length] at h1
  exact inj_same h1 fun p hp => by rw [← hp]; exact (h.now p).symm
theorem RoO.all {own : Nat → ByteArray} {M : DM} (h : RoO own M) {p q : ByteArray} {k : Int} (h1 : lookN M.names p = some k) (h2 : lookN M.names q = some k) : p = q := by
  obtain ⟨a1, a2⟩ := h.n _ (lookN_mem h1)
  have b2 := (h.n _ (lookN_mem h2)).2
  have e : dirB p = dirB q := ((a2 a1).2).symm.trans (b2 a1).2
  exact h.dir p q k rfl e.symm h1 h2
theorem chOf_dir {own : Nat → ByteArray} {M : DM} (h : RoO own M) {d p : ByteArray} (hne : dirB p ≠ d) : ∀ c ∈ chOf M.changes d, ∀ y ∈ c, y.1 ≠ p := fun c hc y hy e => by
  unfold chOf at hc
  obtain ⟨C, hC, rfl⟩ := List.mem_map.1 hc
  obtain ⟨hC1, hC2⟩ := List.mem_filter.1 hC
  rw [baEq] at hC2
  exact hne (by rw [← e, (h.c C hC1 y hy).1]; exact hC2.symm)
theorem RoO.call {own : Nat → ByteArray} {M : DM} (h : RoO own M) (r : Bool) : RoO own (callM M r) := ⟨h.n, h.k, h.c, h.un, h.uk, h.inj, h.now⟩
theorem ro_change {own : Nat → ByteArray} {M : DM} (h : RoO own M) {d : ByteArray} {l : List Nm} (hl : ∀ y ∈ l, dirB y.1 = d ∧ Own1 own M.bodies.length y) (hi : Inj d (applyN M.names l)) : RoO own (changeM M d l) := by
  have hsn : ∀ d', chOf (M.changes ++ [⟨d, l⟩]) d' = if d' == d then chOf M.changes d' ++ [l] else chOf M.changes d' := fun d' => chOf_snoc _ _ _
  have off : ∀ p, dirB p ≠ d → lookN (applyN M.names l) p = lookN M.names p := fun p hp => look_off fun y hy e => hp (by rw [← e]; exact (hl y hy).1)
  have full : ∀ p, dirB p = d → lookN (fold (chOf M.changes d ++ [l]) M.kept) p = lookN (applyN M.names l) p := fun p hp => by
    rw [fold_app]
    exact look_one (by have := h.now p; rw [hp] at this; exact this)
  refine ⟨fun y hy => ?_, h.k, fun C hC y hy => ?_, un_apply h.un, h.uk, fun d' n => ?_, fun p => ?_⟩
  · rcases mem_apply (show y ∈ applyN M.names l from hy) with h1 | ⟨h1, h2⟩
    · exact h.n y h1
    · exact ⟨h2, (hl y h1).2⟩
  · rcases List.mem_append.1 (show C ∈ M.changes ++ [⟨d, l⟩] from hC) with h1 | h1
    · exact h.c C h1 y hy
    · rw [List.mem_singleton.1 h1] at hy ⊢
      exact hl y hy
  · show Inj d' (fold ((chOf (M.changes ++ [⟨d, l⟩]) d').take n) M.kept)
    rw [hsn]
    by_cases e : d' = d
    · rw [if_pos (baEq.2 e)]
      subst e
      by_cases hn : n ≤ (chOf M.changes d').length
      · rw [List.take_append_of_le_length hn]; exact h.inj d' n
      · rw [List.take_of_length_le (by rw [List.length_append, List.length_singleton]; omega)]
        exact inj_same hi full
    · rw [if_neg (by rw [baEq]; exact e)]; exact h.inj d' n
  · show lookN (fold (chOf (M.changes ++ [⟨d, l⟩]) (dirB p)) M.kept) p = lookN (applyN M.names l) p
    rw [hsn]
    by_cases e : dirB p = d
    · rw [if_pos (baEq.2 e), e]; exact full p e
    · rw [if_neg (by rw [baEq]; exact e), off p e]; exact h.now p
theorem ro_bodies {own : Nat → ByteArray} {M : DM} (h : RoO own M) {B : List Body} (hB : B.length = M.bodies.length) : RoO own { M with bodies := B } :=
  ⟨fun y hy => by show _ ∧ Own1 own B.length y; rw [hB]; exact h.n y hy, fun y hy => by show _ ∧ Own1 own B.length y; rw [hB]; exact h.k y hy, fun C hC y hy => by show _ ∧ Own1 own B.length y; rw [hB]; exact h.c C hC y hy, h.un, h.uk, h.inj, h.now⟩
theorem ro_more {own : Nat → ByteArray} {M : DM} (h : RoO own M) (B : Body) (d : ByteArray) : RoO (fun n => if n = M.bodies.length then d else own n) { M with bodies := M.bodies ++ [B] } := by
  have up : ∀ {y : Nm}, Own1 own M.bodies.length y → Own1 (fun n => if n = M.bodies.length then d else own n) (M.bodies ++ [B]).length y := fun {y} hy h0 => by
    obtain ⟨h1, h2⟩ := hy h0
    refine ⟨by rw [List.length_append, List.length_singleton]; omega, ?_⟩
    show (if _ then _ else _) = _
    rw [if_neg (by omega)]; exact h2
  exact ⟨fun y hy => ⟨(h.n y hy).1, up (h.n y hy).2⟩, fun y hy => ⟨(h.k y hy).1, up (h.k y hy).2⟩, fun C hC y hy => ⟨(h.c C hC y hy).1, up (h.c C hC y hy).2⟩, h.un, h.uk, h.inj, h.now⟩
theorem right_num {own : Nat → ByteArray} {M : DM} (h : RoO own M) {p : ByteArray} {k : Int} (hl : lookN M.names p = some k) : 0 ≤ k ∧ k.toNat < M.bodies.length ∧ own k.toNat = dirB p := by
  obtain ⟨h1, h2⟩ := h.n _ (lookN_mem hl)
  exact ⟨h1, (h2 h1).1, (h2 h1).2⟩
theorem ro_write {M : DM} (h : Ro M) (p b : ByteArray) : Ro (writeM M p b).2 := by
  obtain ⟨own, h⟩ := h
  by_cases he : errM M (rightB p) = 0
  · by_cases hr : (usedM M : Int) - (wasM M p : Int) + (b.size : Int) > M.room
    · rw [writeM_full he hr]; exact ⟨own, h.call _⟩
    · rw [writeM_ok he hr]
      refine ⟨_, ro_change (ro_more (h.call _) ⟨b, ByteArray.mk #[]⟩ (dirB p)) (fun y hy => ?_) fun x y k hx hy h1 h2 => ?_⟩
      · rw [List.mem_singleton.1 hy]
        refine ⟨rfl, fun _ => ⟨?_, ?_⟩⟩
        · show (M.bodies.length : Int).toNat < (M.bodies ++ [_]).length
          rw [List.length_append, List.length_singleton]; omega
        · show (if _ then _ else _) = _
          rw [if_pos (by show (M.bodies.length : Int).toNat = M.bodies.length; omega)]
      · have e : ∀ z, lookN (applyN M.names [(p, (M.bodies.length : Int))]) z = if z == p then some (M.bodies.length : Int) else lookN M.names z := fun z => by
          show lookN (withN M.names _) z = _
          rw [lookN_with]
          rw [if_pos (show (0 : Int) ≤ (M.bodies.length : Int) by omega)]
        have h1' : lookN (applyN M.names [(p, (M.bodies.length : Int))]) x = some k := h1
        have h2' : lookN (applyN M.names [(p, (M.bodies.length : Int))]) y = some k := h2
        rw [e] at h1' h2'
        split at h1' <;> split at h2'
        · rename_i ex ey; rw [baEq] at ex ey; rw [ex, ey]
        · injection h1' with h1'; have := right_num h h2'; omega
        · injection h2' with h2'; have := right_num h h1'; omega
        · exact h.all h1' h2'
  · rw [writeM_err he]; exact ⟨own, h.call _⟩
theorem ro_set {M : DM} (h : Ro M) (k : Int) (B : Body) : Ro (setBody M k B) := by
  obtain ⟨own, h⟩ := h
  exact ⟨own, ro_bodies h (by rw [List.length_set])⟩
theorem ro_append {M : DM} (h : Ro M) (p b : ByteArray) : Ro (appendM M p b).2 := by
  have hc : Ro (callM M (rightB p)) := h.imp fun _ h => h.call _
  by_cases he : errM M (rightB p) = 0
  · cases hl : lookN M.names p with
    | none => rw [appendM_no he hl]; exact hc
    | some k =>
      by_cases hr : (usedM M : Int) + (b.size : Int) > M.room
      · rw [appendM_full he hl hr]; exact hc
      · rw [appendM_ok he hl hr]; exact ro_set hc _ _
  · rw [appendM_err he]; exact hc
theorem ro_sync {M : DM} (h : Ro M) (p : ByteArray) : Ro (syncM M p).2 := by
  have hc : Ro (callM M (rightB p)) := h.imp fun _ h => h.call _
  by_cases he : errM M (rightB p) = 0
  · cases hl : lookN M.names p with
    | none => rw [syncM_no he hl]; exact hc
    | some k => rw [syncM_ok he hl]; exact ro_set hc _ _
  · rw [syncM_err he]; exact hc
theorem look_del (l : List Nm) (p z : ByteArray) : lookN (applyN l [(p, -1)]) z = if z == p then none else lookN l z := by
  show lookN (withN l _) z = _
  rw [lookN_with]; rfl
theorem ro_remove {M : DM} (h : Ro M) (p : ByteArray) : Ro (removeM M p).2 := by
  obtain ⟨own, h⟩ := h
  by_cases he : errM M (rightB p) = 0
  · cases hl : lookN M.names p with
    | none => rw [removeM_no he hl]; exact ⟨own, h.call _⟩
    | some k =>
      rw [removeM_ok he hl]
      refine ⟨own, ro_change (h.call _) (fun y hy => ?_) fun x y k hx hy h1 h2 => ?_⟩
      · rw [List.mem_singleton.1 hy]; exact ⟨rfl, fun h0 => absurd h0 (show ¬ (0 : Int) ≤ -1 by decide)⟩
      · have h1' : lookN (applyN M.names [(p, -1)]) x = some k := h1
        have h2' : lookN (applyN M.names [(p, -1)]) y = some k := h2
        rw [look_del] at h1' h2'
        split at h1'
        · cases h1'
        split at h2'
        · cases h2'
        exact h.all h1' h2'
  · rw [removeM_err he]; exact ⟨own, h.call _⟩
theorem look_ren (l : List Nm) (p q : ByteArray) {k : Int} (hk : 0 ≤ k) (z : ByteArray) : lookN (applyN l [(p, -1), (q, k)]) z = if z == q then some k else if z == p then none else lookN l z := by
  show lookN (withN (withN l _) _) z = _
  rw [lookN_with, lookN_with, if_pos (show 0 ≤ ((q, k) : Nm).2 from hk)]; rfl
theorem renR_dir {p q : ByteArray} (h : renR p q = true) : dirB p = dirB q := by
  unfold renR at h
  rw [Bool.and_eq_true] at h
  have := h.2
  rw [tlEq, baEq] at this
  exact this
theorem ro_rename {M : DM} (h : Ro M) (p q : ByteArray) : Ro (renameM M p q).2 := by
  obtain ⟨own, h⟩ := h
  by_cases he : errM M (renR p q) = 0
  · cases hl : lookN M.names p with
    | none => rw [renameM_no he hl]; exact ⟨own, h.call _⟩
    | some k =>
      cases hs : p == q with
      | true => rw [renameM_same he hl hs]; exact ⟨own, h.call _⟩
      | false =>
        rw [renameM_ok he hl hs]
        obtain ⟨k0, k1, k2⟩ := right_num h hl
        have hd := renR_dir (err_right he)
        have hne : p ≠ q := fun e => by rw [baEq.2 e] at hs; cases hs
        refine ⟨own, ro_change (h.call _) (fun y hy => ?_) fun x y j hx hy h1 h2 => ?_⟩
        · rcases List.mem_cons.1 hy with rfl | hy
          · exact ⟨hd, fun h0 => absurd h0 (show ¬ (0 : Int) ≤ -1 by decide)⟩
          · rw [List.mem_singleton.1 hy]; exact ⟨rfl, fun _ => ⟨k1, k2.trans hd⟩⟩
        · have h1' : lookN (applyN M.names [(p, -1), (q, k)]) x = some j := h1
          have h2' : lookN (applyN M.names [(p, -1), (q, k)]) y = some j := h2
          have no : ∀ z, (z == p) = false → lookN M.names z = some k → False := fun z hz h3 => by
            rw [h.all h3 hl, show (p == p) = true from baEq.2 rfl] at hz; cases hz
          rw [look_ren _ _ _ k0] at h1' h2'
          split at h1'
          · rename_i ex
            injection h1' with h1'
            split at h2'
            · rename_i ey; rw [baEq] at ex ey; rw [ex, ey]
            · split at h2'
              · cases h2'
              · rename_i hy'; rw [← h1'] at h2'; exact (no y (by simpa using hy') h2').elim
          · split at h1'
            · cases h1'
            rename_i hx'
            split at h2'
            · injection h2' with h2'; rw [← h2'] at h1'; exact (no x (by simpa using hx') h1').elim
            · split at h2'
              · cases h2'
              exact h.all h1' h2'
  · rw [renameM_err he]; exact ⟨own, h.call _⟩
theorem mem_fold {ls : List (List Nm)} : ∀ {l : List Nm} {y : Nm}, y ∈ fold ls l → y ∈ l ∨ ∃ c ∈ ls, y ∈ c ∧ 0 ≤ y.2 := by
  induction ls with
  | nil => exact fun h => .inl h
  | cons c ls ih =>
    intro l y h
    rcases ih (show y ∈ fold ls (applyN l c) from h) with h1 | ⟨d, hd, h2⟩
    · rcases mem_apply h1 with h1 | h1
      · exact .inl h1
      · exact .inr ⟨c, List.mem_cons_self, h1⟩
    · exact .inr ⟨d, List.mem_cons_of_mem _ hd, h2⟩
theorem mem_chOf {own : Nat → ByteArray} {M : DM} (h : RoO own M) {d : ByteArray} {c : List Nm} (hc : c ∈ chOf M.changes d) {y : Nm} (hy : y ∈ c) : Own1 own M.bodies.length y := by
  obtain ⟨C, hC, rfl⟩ := chOf_mem hc
  exact (h.c C hC y hy).2
theorem ro_sdir {M : DM} (h : Ro M) (d : ByteArray) : Ro (syncDirM M d).2 := by
  obtain ⟨own, h⟩ := h
  by_cases he : errM M (dirR d) = 0
  · rw [syncDirM_ok he]
    have off : ∀ p, dirB p ≠ d → lookN (fold (chOf M.changes d) M.kept) p = lookN M.kept p := fun p hp => look_offs (chOf_dir h hp)
    refine ⟨own, h.n, fun y hy => ?_, fun C hC => h.c C (List.mem_filter.1 hC).1, h.un, un_fold h.uk, fun d' n => ?_, fun p => ?_⟩
    · rcases mem_fold (show y ∈ fold (chOf M.changes d) M.kept from hy) with h1 | ⟨c, hc, h1, h2⟩
      · exact h.k y h1
      · exact ⟨h2, mem_chOf h hc h1⟩
    · show Inj d' (fold ((chOf (M.changes.filter fun c => !(d == c.dir)) d').take n) (fold (chOf M.changes d) M.kept))
      rw [chOf_filter]
      by_cases e : d' = d
      · rw [if_pos (baEq.2 e), List.take_nil, e]
        have := h.inj d (chOf M.changes d).length
        rw [List.take_length] at this
        exact this
      · rw [if_neg (by rw [baEq]; exact e)]
        exact inj_same (h.inj d' n) fun p hp => look_fold (off p (by rw [hp]; exact e))
    · show lookN (fold (chOf (M.changes.filter fun c => !(d == c.dir)) (dirB p)) (fold (chOf M.changes d) M.kept)) p = lookN M.names p
      rw [chOf_filter, ← h.now p]
      by_cases e : dirB p = d
      · rw [if_pos (baEq.2 e), e]; rfl
      · rw [if_neg (by rw [baEq]; exact e)]; exact look_fold (off p e)
  · rw [syncDirM_err he]; exact ⟨own, h.call _⟩
theorem crash_look {own : Nat → ByteArray} {M : DM} (h : RoO own M) {d : ByteArray} : ∀ {ds : List ByteArray} {ks : List Int} {K : List Nm}, ds.Nodup → ∃ n, ∀ p, dirB p = d → lookN (crashD M.changes ds ks K) p = lookN (fold ((chOf M.changes d).take n) K) p
  | [], ks, K, _ => ⟨0, fun p _ => rfl⟩
  | x :: ds, ks, K, hn => by
    rw [List.nodup_cons] at hn
    by_cases e : x = d
    · subst e
      refine ⟨(nextK (ks.headD 0) (((chOf M.changes x).length : Int) + 1)).toNat, fun p hp => ?_⟩
      have go : ∀ {ds : List ByteArray} {ks : List Int} {K : List Nm}, x ∉ ds → lookN (crashD M.changes ds ks K) p = lookN K p := by
        intro ds
        induction ds with
        | nil => exact fun _ => rfl
        | cons y ds ih =>
          intro ks K hx
          rw [List.mem_cons, not_or] at hx
          rw [crashD, ih hx.2]
          exact look_offs fun c hc => chOf_dir h (d := y) (by rw [hp]; exact hx.1) c (List.mem_of_mem_take hc)
      rw [crashD]
      exact go hn.1
    · obtain ⟨n, h1⟩ := crash_look h (d := d) (ds := ds) (ks := ks.drop 1) (K := fold ((chOf M.changes x).take (nextK (ks.headD 0) (((chOf M.changes x).length : Int) + 1)).toNat) K) hn.2
      refine ⟨n, fun p hp => ?_⟩
      rw [crashD]
      exact (h1 p hp).trans (look_fold (look_offs fun c hc => chOf_dir h (d := x) (by rw [hp]; exact fun e2 => e e2.symm) c (List.mem_of_mem_take hc)))
theorem crash_mem {own : Nat → ByteArray} {M : DM} (h : RoO own M) : ∀ {ds : List ByteArray} {ks : List Int} {K : List Nm}, (∀ y ∈ K, 0 ≤ y.2 ∧ Own1 own M.bodies.length y) → Un K → (∀ y ∈ crashD M.changes ds ks K, 0 ≤ y.2 ∧ Own1 own M.bodies.length y) ∧ Un (crashD M.changes ds ks K)
  | [], _, _, h1, h2 => ⟨h1, h2⟩
  | d :: ds, ks, K, h1, h2 => by
    rw [crashD]
    refine crash_mem h (K := fold ((chOf M.changes d).take (nextK (ks.headD 0) (((chOf M.changes d).length : Int) + 1)).toNat) K) (fun y hy => ?_) (un_fold h2)
    rcases mem_fold hy with h3 | ⟨c, hc, h3, h4⟩
    · exact h1 y h3
    · exact ⟨h4, mem_chOf h (List.mem_of_mem_take hc) h3⟩
theorem ro_crash {M : DM} (h : Ro M) (ks : List Int) : Ro (crashM M ks) := by
  obtain ⟨own, h⟩ := h
  obtain ⟨m1, m2⟩ := crash_mem h (ds := dirsOf M.changes) (ks := (crashB M.bodies ks).2) h.k h.uk
  have hlen : (crashB M.bodies ks).1.length = M.bodies.length := crashB_len
  have m3 : ∀ y ∈ crashD M.changes (dirsOf M.changes) (crashB M.bodies ks).2 M.kept, 0 ≤ y.2 ∧ Own1 own (crashB M.bodies ks).1.length y := by rw [hlen]; exact m1
  refine ⟨own, m3, m3, fun C hC => absurd hC List.not_mem_nil, m2, m2, fun d n => ?_, fun p => rfl⟩
  have e : (chOf (crashM M ks).changes d).take n = [] := by show List.take n [] = []; exact List.take_nil
  rw [e]
  obtain ⟨m, hm⟩ := crash_look h (d := d) (ds := dirsOf M.changes) (ks := (crashB M.bodies ks).2) (K := M.kept) (dirs_nodup _)
  exact inj_same (h.inj d m) hm
theorem ro_fail {M : DM} (h : Ro M) (n : Int) (o : Bool) : Ro (failM M n o) := h.imp fun _ h => ⟨h.n, h.k, h.c, h.un, h.uk, h.inj, h.now⟩
theorem ro_do {M : DM} (h : Ro M) (o : OpV) : Ro (doM M o).2 := by
  unfold doM
  split
  · exact ro_write h _ _
  split
  · exact ro_append h _ _
  split
  · exact ro_rename h _ _
  split
  · exact ro_remove h _
  split
  · exact ro_sync h _
  split
  · exact ro_sdir h _
  split
  · exact ro_fail h _ _
  · exact ro_crash h _
def sumU (B : List Body) (l : List Nm) : Nat := (l.map fun x => (B.getD x.2.toNat default).now.size).sum
theorem sum_app (B : List Body) (a b : List Nm) : sumU B (a ++ b) = sumU B a + sumU B b := by unfold sumU; rw [List.map_append, List.sum_append]
theorem sum_filter (B : List Body) (f : Nm → Bool) : ∀ l, sumU B (l.filter f) + sumU B (l.filter fun x => !f x) = sumU B l
  | [] => rfl
  | x :: l => by
    have ih := sum_filter B f l
    have c : ∀ (y : Nm) (r : List Nm), sumU B (y :: r) = (B.getD y.2.toNat default).now.size + sumU B r := fun y r => by unfold sumU; rw [List.map_cons, List.sum_cons]
    cases hf : f x
    · rw [List.filter_cons_of_neg (by rw [hf]; decide), List.filter_cons_of_pos (by rw [hf]; decide), c, c]; omega
    · rw [List.filter_cons_of_pos hf, List.filter_cons_of_neg (by rw [hf]; decide), c, c]; omega
theorem sum_le (B : List Body) (f : Nm → Bool) (l : List Nm) : sumU B (l.filter f) ≤ sumU B l := by have := sum_filter B f l; omega
theorem sum_mem (B : List Body) : ∀ {l : List Nm} {x : Nm}, x ∈ l → (B.getD x.2.toNat default).now.size ≤ sumU B l
  | y :: l, x, h => by
    have c : sumU B (y :: l) = (B.getD y.2.toNat default).now.size + sumU B l := by unfold sumU; rw [List.map_cons, List.sum_cons]
    rw [c]
    rcases List.mem_cons.1 h with rfl | h
    · omega
    · have := sum_mem B h; omega
theorem app_pos {l : List Nm} {p : ByteArray} {k : Int} (hk : 0 ≤ k) : applyN l [(p, k)] = l.filter (fun n => !(p == n.1)) ++ [(p, k)] := by
  show l.filter (fun n => !(p == n.1)) ++ (if 0 ≤ ((p, k) : Nm).2 then [(p, k)] else []) = _
  rw [if_pos (show 0 ≤ ((p, k) : Nm).2 from hk)]
theorem app_del {l : List Nm} {p : ByteArray} : applyN l [(p, -1)] = l.filter (fun n => !(p == n.1)) := by
  show l.filter (fun n => !(p == n.1)) ++ (if 0 ≤ ((p, -1) : Nm).2 then [(p, -1)] else []) = _
  rw [if_neg (show ¬ (0 : Int) ≤ ((p, -1) : Nm).2 from (by decide : ¬ (0 : Int) ≤ -1)), List.append_nil]
theorem app_two {l : List Nm} {p q : ByteArray} {k : Int} : applyN l [(p, -1), (q, k)] = applyN (applyN l [(p, -1)]) [(q, k)] := rfl
theorem sum_part (B : List Body) (f : Nm → Bool) {l : List Nm} {x : Nm} (hx : x ∈ l) (hf : f x = false) : sumU B (l.filter f) + (B.getD x.2.toNat default).now.size ≤ sumU B l := by
  have h1 := sum_filter B f l
  have h2 := sum_mem B (l := l.filter fun x => !f x) (x := x) (List.mem_filter.2 ⟨hx, by rw [hf]; rfl⟩)
  omega
theorem sum_without (B : List Body) {l : List Nm} {p : ByteArray} {k : Int} (h : (p, k) ∈ l) : sumU B (l.filter fun n => !(p == n.1)) + (B.getD k.toNat default).now.size ≤ sumU B l := by
  have e : (fun n : Nm => !(p == n.1)) (p, k) = false := by
    show (!(p == p)) = false
    rw [show (p == p) = true from baEq.2 rfl]; rfl
  exact sum_part B _ h e
theorem sum_same (B B' : List Body) {l : List Nm} (h : ∀ y ∈ l, (B'.getD y.2.toNat default).now.size = (B.getD y.2.toNat default).now.size) : sumU B' l = sumU B l := by
  unfold sumU
  rw [List.map_congr_left h]
theorem sum_grow (B : List Body) (j n : Nat) (C : Body) (hC : C.now.size = (B.getD j default).now.size + n) : ∀ {l : List Nm}, l.Pairwise (fun x y => x.2.toNat ≠ y.2.toNat) → sumU (B.set j C) l ≤ sumU B l + n
  | [], _ => Nat.zero_le _
  | y :: l, hp => by
    have c : ∀ (B : List Body) (r : List Nm), sumU B (y :: r) = (B.getD y.2.toNat default).now.size + sumU B r := fun B r => by unfold sumU; rw [List.map_cons, List.sum_cons]
    rw [List.pairwise_cons] at hp
    rw [c, c]
    by_cases e : y.2.toNat = j
    · have h1 : sumU (B.set j C) l = sumU B l := sum_same _ _ fun z hz => by
        rw [List.getD_eq_getElem?_getD, List.getElem?_set_ne (by rw [← e]; exact hp.1 z hz), ← List.getD_eq_getElem?_getD]
      have h2 : ((B.set j C).getD y.2.toNat default).now.size ≤ (B.getD y.2.toNat default).now.size + n := by
        rw [e, List.getD_eq_getElem?_getD, List.getElem?_set_self', List.getD_eq_getElem?_getD]
        cases hb : B[j]? with
        | none => exact Nat.zero_le _
        | some b =>
          rw [List.getD_eq_getElem?_getD, hb] at hC
          show C.now.size ≤ _
          rw [hC]; exact Nat.le_refl _
      omega
    · have h1 := sum_grow B j n C hC hp.2
      have h2 : (B.set j C).getD y.2.toNat default = B.getD y.2.toNat default := by
        rw [List.getD_eq_getElem?_getD, List.getElem?_set_ne (by omega), ← List.getD_eq_getElem?_getD]
      rw [h2]; omega
theorem RoO.pair {own : Nat → ByteArray} {M : DM} (h : RoO own M) : M.names.Pairwise (fun x y => x.2.toNat ≠ y.2.toNat) := by
  have h1 : M.names.Pairwise (fun x y => x.1 ≠ y.1) := List.pairwise_map.1 h.un
  refine h1.imp_of_mem fun {x y} hx hy hne e => hne ?_
  have e2 : x.2 = y.2 := by have := (h.n x hx).1; have := (h.n y hy).1; omega
  exact h.all (k := x.2) (lookN_of h.un hx) (by rw [e2]; exact lookN_of h.un hy)
theorem used_changed {M : DM} {B : List Body} {d : ByteArray} {l : List Nm} : usedM (changeM { M with bodies := B } d l) = sumU B (applyN M.names l) := rfl
theorem used_write {M : DM} (h : Ro M) (p b : ByteArray) : (usedM (writeM M p b).2 : Int) ≤ (usedM M : Int) ∨ (usedM (writeM M p b).2 : Int) ≤ M.room := by
  obtain ⟨own, h⟩ := h
  by_cases he : errM M (rightB p) = 0
  · by_cases hr : (usedM M : Int) - (wasM M p : Int) + (b.size : Int) > M.room
    · rw [writeM_full he hr]; exact .inl (Int.le_refl _)
    · refine .inr ?_
      rw [writeM_ok he hr]
      dsimp only
      rw [used_changed, show (callM M (rightB p)).names = M.names from rfl, app_pos (by omega), sum_app]
      have e1 : sumU (M.bodies ++ [⟨b, ByteArray.mk #[]⟩]) (M.names.filter (fun n => !(p == n.1))) = sumU M.bodies (M.names.filter (fun n => !(p == n.1))) := sum_same _ _ fun y hy => by
        have := h.n y (List.mem_filter.1 hy).1
        rw [List.getD_eq_getElem?_getD, List.getElem?_append_left (this.2 this.1).1, ← List.getD_eq_getElem?_getD]
      have e2 : sumU (M.bodies ++ [⟨b, ByteArray.mk #[]⟩]) [(p, (M.bodies.length : Int))] = b.size := by
        show ((M.bodies ++ [(⟨b, ByteArray.mk #[]⟩ : Body)]).getD (M.bodies.length : Int).toNat default).now.size + 0 = _
        rw [show (M.bodies.length : Int).toNat = M.bodies.length by omega, List.getD_eq_getElem?_getD, List.getElem?_append_right (Nat.le_refl _), Nat.sub_self]
        rfl
      rw [e1, e2]
      have e3 : sumU M.bodies (M.names.filter (fun n => !(p == n.1))) + wasM M p ≤ usedM M := by
        cases hl : lookN M.names p with
        | none => rw [show wasM M p = 0 by unfold wasM; rw [hl]]; exact sum_le _ _ _
        | some k => rw [show wasM M p = sizeAt M k by unfold wasM; rw [hl]]; exact sum_without M.bodies (lookN_mem hl)
      omega
  · rw [writeM_err he]; exact .inl (Int.le_refl _)
theorem used_append {M : DM} (h : Ro M) (p b : ByteArray) : (usedM (appendM M p b).2 : Int) ≤ (usedM M : Int) ∨ (usedM (appendM M p b).2 : Int) ≤ M.room := by
  obtain ⟨own, h⟩ := h
  by_cases he : errM M (rightB p) = 0
  · cases hl : lookN M.names p with
    | none => rw [appendM_no he hl]; exact .inl (Int.le_refl _)
    | some k =>
      by_cases hr : (usedM M : Int) + (b.size : Int) > M.room
      · rw [appendM_full he hl hr]; exact .inl (Int.le_refl _)
      · refine .inr ?_
        rw [appendM_ok he hl hr]
        have := sum_grow M.bodies k.toNat b.size ⟨(bodyAt M k).now ++ b, (bodyAt M k).kept⟩ (by show ((bodyAt M k).now ++ b).size = _; rw [ByteArray.size_append]; rfl) h.pair
        show ((sumU (M.bodies.set k.toNat _) M.names : Nat) : Int) ≤ M.room
        have e : usedM M = sumU M.bodies M.names := rfl
        omega
  · rw [appendM_err he]; exact .inl (Int.le_refl _)
theorem used_remove {M : DM} (p : ByteArray) : usedM (removeM M p).2 ≤ usedM M := by
  by_cases he : errM M (rightB p) = 0
  · cases hl : lookN M.names p with
    | none => rw [removeM_no he hl]; exact Nat.le_refl _
    | some k =>
      rw [removeM_ok he hl]
      show sumU M.bodies (applyN M.names [(p, -1)]) ≤ sumU M.bodies M.names
      rw [app_del]; exact sum_le _ _ _
  · rw [removeM_err he]; exact Nat.le_refl _
theorem used_rename {M : DM} (p q : ByteArray) : usedM (renameM M p q).2 ≤ usedM M := by
  by_cases he : errM M (renR p q) = 0
  · cases hl : lookN M.names p with
    | none => rw [renameM_no he hl]; exact Nat.le_refl _
    | some k =>
      cases hs : p == q with
      | true => rw [renameM_same he hl hs]; exact Nat.le_refl _
      | false =>
        rw [renameM_ok he hl hs]
        show sumU M.bodies (applyN M.names [(p, -1), (q, k)]) ≤ sumU M.bodies M.names
        have h1 := sum_without M.bodies (lookN_mem hl)
        have h2 := sum_le M.bodies (fun n => !(q == n.1)) (M.names.filter (fun n => !(p == n.1)))
        have hb : sumU M.bodies [(q, k)] = (M.bodies.getD k.toNat default).now.size := by
          show (M.bodies.getD k.toNat default).now.size + 0 = _
          rfl
        rw [app_two, app_del]
        by_cases hk : 0 ≤ k
        · rw [app_pos hk, sum_app]; omega
        · show sumU M.bodies (withN (M.names.filter (fun n => !(p == n.1))) (q, k)) ≤ _
          unfold withN
          rw [if_neg (show ¬ 0 ≤ ((q, k) : Nm).2 from hk), List.append_nil]
          exact Nat.le_trans h2 (Nat.le_trans (Nat.le_add_right _ _) h1)
  · rw [renameM_err he]; exact Nat.le_refl _
theorem used_sync {M : DM} (p : ByteArray) : usedM (syncM M p).2 = usedM M := by
  by_cases he : errM M (rightB p) = 0
  · cases hl : lookN M.names p with
    | none => rw [syncM_no he hl]; rfl
    | some k =>
      rw [syncM_ok he hl]
      show sumU (M.bodies.set k.toNat ⟨(bodyAt M k).now, (bodyAt M k).now⟩) M.names = sumU M.bodies M.names
      refine sum_same _ _ fun y hy => ?_
      by_cases e : k.toNat = y.2.toNat
      · rw [List.getD_eq_getElem?_getD, ← e, List.getElem?_set_self', List.getD_eq_getElem?_getD]
        cases hb : M.bodies[k.toNat]? with
        | none => rfl
        | some B =>
          show (bodyAt M k).now.size = _
          unfold bodyAt
          rw [List.getD_eq_getElem?_getD, hb]
      · rw [List.getD_eq_getElem?_getD, List.getElem?_set_ne e, ← List.getD_eq_getElem?_getD]
  · rw [syncM_err he]; rfl
theorem used_sdir {M : DM} (d : ByteArray) : usedM (syncDirM M d).2 = usedM M := by
  by_cases he : errM M (dirR d) = 0
  · rw [syncDirM_ok he]; rfl
  · rw [syncDirM_err he]; rfl
theorem used_do {M : DM} (h : Ro M) (o : OpV) (h7 : ¬ (kindU o = 7)) (hk : 0 ≤ kindU o ∧ kindU o < 8) : (usedM (doM M o).2 : Int) ≤ (usedM M : Int) ∨ (usedM (doM M o).2 : Int) ≤ M.room := by
  unfold doM
  split
  · exact used_write h _ _
  split
  · exact used_append h _ _
  split
  · exact .inl (Int.ofNat_le.2 (used_rename _ _))
  split
  · exact .inl (Int.ofNat_le.2 (used_remove _))
  split
  · exact .inl (Int.ofNat_le.2 (Nat.le_of_eq (used_sync _)))
  split
  · exact .inl (Int.ofNat_le.2 (Nat.le_of_eq (used_sdir _)))
  split
  · exact .inl (Int.le_refl _)
  · omega
theorem room_do (M : DM) (o : OpV) : (doM M o).2.room = M.room := by
  unfold doM
  split
  · unfold writeM; split
    · rfl
    split <;> rfl
  split
  · unfold appendM; split
    · rfl
    split
    · rfl
    split <;> rfl
  split
  · unfold renameM; split
    · rfl
    split
    · rfl
    · show DM.room (if _ then _ else _) = _
      split <;> rfl
  split
  · unfold removeM; split
    · rfl
    split <;> rfl
  split
  · unfold syncM; split
    · rfl
    split <;> rfl
  split
  · unfold syncDirM; split <;> rfl
  split <;> rfl
theorem kind_rng (o : OpV) : 0 ≤ kindU o ∧ kindU o < 8 := by
  unfold kindU
  have h : 0 ≤ IntKind.wrap .u64 o.kind := by
    show 0 ≤ o.kind % 18446744073709551616
    exact Int.emod_nonneg _ (by decide)
  rw [Int.tmod_eq_emod_of_nonneg h]
  exact ⟨Int.emod_nonneg _ (by decide), Int.emod_lt_of_pos _ (by decide)⟩
theorem try_do {M : DM} {o : OpV} (h : kindU o < 6) : tryM M o = doM M o := by
  have := kind_rng o
  unfold tryM doM
  split
  · rfl
  split
  · rfl
  split
  · rfl
  split
  · rfl
  split
  · rfl
  rw [if_pos (by omega)]
theorem try_err {M : DM} {o : OpV} (h : (tryM M o).1 ≠ 0) : ∃ r, (tryM M o).2 = callM M r := by
  revert h
  unfold tryM
  split
  · unfold writeM; split
    · exact fun _ => ⟨_, rfl⟩
    split
    · exact fun _ => ⟨_, rfl⟩
    · exact fun h => absurd rfl h
  split
  · unfold appendM; split
    · exact fun _ => ⟨_, rfl⟩
    split
    · exact fun _ => ⟨_, rfl⟩
    split
    · exact fun _ => ⟨_, rfl⟩
    · exact fun h => absurd rfl h
  split
  · unfold renameM; split
    · exact fun _ => ⟨_, rfl⟩
    split
    · exact fun _ => ⟨_, rfl⟩
    · exact fun h => absurd rfl h
  split
  · unfold removeM; split
    · exact fun _ => ⟨_, rfl⟩
    split
    · exact fun _ => ⟨_, rfl⟩
    · exact fun h => absurd rfl h
  split
  · unfold syncM; split
    · exact fun _ => ⟨_, rfl⟩
    split
    · exact fun _ => ⟨_, rfl⟩
    · exact fun h => absurd rfl h
  · unfold syncDirM; split
    · exact fun _ => ⟨_, rfl⟩
    · exact fun h => absurd rfl h
end Go.Vf
namespace Go.Proofs.Ytbmieiffboenbaa
open Go.Sw Go.Lib Go.Vf Go.RowKit
theorem nilUsed  (W0 : World) (H : List Grp) : Tri Try.prog 26 #[.pointer none] W0 H (fun v H' => v = .int .i64 0 ∧ H' = H) := by
  refine Tri_of (args := [.pointer none]) (n := 25) Try.func26 rfl rfl (Nat.le_of_ble_eq_true rfl) ?_
  refine G_seq ?_
  refine G_pure (E' := [⟨0, [], .pointer none⟩]) [0] [0] rfl (by kernel_rfl) ?_
  refine N_then ?_
  refine G_seq ?_
  refine G_pure (E' := [⟨0, [], .pointer none⟩, ⟨3, [], .int .i64 0⟩]) [0] [0, 3] rfl (by kernel_rfl) ?_
  refine N_then ?_
  refine G_seq ?_
  refine G_seq ?_
  refine G_pure (E' := [⟨0, [], .pointer none⟩, ⟨3, [], .int .i64 0⟩, ⟨7, [], .bool false⟩]) [0, 0] [0, 3, 7] rfl (by kernel_rfl) ?_
  refine N_then ?_
  refine G_condf (by kernel_rfl) ?_
  refine G_skip ?_
  refine N_then ?_
  refine G_seq ?_
  refine G_pure (E' := [⟨2, [], .int .i64 0⟩]) [0, 0] [2] rfl (by kernel_rfl) ?_
  refine N_then ?_
  refine G_ret ?_
  refine N_ret [.tmp 2] [.int .i64 0] rfl (by kernel_rfl) rfl ?_
  exact ⟨rfl, rfl⟩
theorem nilRead (p : ByteArray) (W0 : World) (H : List Grp) : Tri Try.prog 19 #[.pointer none, .string p] W0 H (fun v H' => v = .tuple #[.slice none 0 0, .int .i64 1] ∧ H' = H) := by
  refine Tri_of (args := [.pointer none, .string p]) (n := 22) Try.func19 rfl rfl (Nat.le_of_ble_eq_true rfl) ?_
  refine G_seq ?_
  refine G_pure (E' := [⟨0, [], .pointer none⟩, ⟨1, [], .string p⟩]) [0, 0] [0, 1] rfl (by kernel_rfl) ?_
  refine N_then ?_
  refine G_seq ?_
  refine G_seq ?_
  refine G_pure (E' := [⟨0, [], .pointer none⟩, ⟨1, [], .string p⟩, ⟨8, [], .bool true⟩]) [0, 0] [0, 1, 8] rfl (by kernel_rfl) ?_
  refine N_then ?_
  refine G_condt (by kernel_rfl) ?_
  refine G_seq ?_
  refine G_pure (E' := [⟨4, [], .slice none 0 0⟩, ⟨5, [], .int .i64 1⟩]) [0, 0] [4, 5] rfl (by kernel_rfl) ?_
  refine N_then ?_
  refine G_ret ?_
  refine N_then_ret ?_
  refine N_ret [.tmp 4, .tmp 5] [.slice none 0 0, .int .i64 1] rfl (by kernel_rfl) rfl ?_
  exact ⟨rfl, rfl⟩
theorem nilFail (n : Int) (o : Bool) (W0 : World) (H : List Grp) : Tri Try.prog 16 #[.pointer none, .int .i64 n, .bool o] W0 H (fun v H' => v = .tuple #[] ∧ H' = H) := by
  refine Tri_of (args := [.pointer none, .int .i64 n, .bool o]) (n := 20) Try.func16 rfl rfl (Nat.le_of_ble_eq_true rfl) ?_
  refine G_seq ?_
  refine G_pure (E' := [⟨0, [], .pointer none⟩, ⟨1, [], .int .i64 n⟩, ⟨2, [], .bool o⟩, ⟨7, [], .bool false⟩]) [0, 0] [0, 1, 2, 7] rfl (by kernel_rfl) ?_
  refine N_then ?_
  refine G_condf (by kernel_rfl) ?_
  refine G_skip ?_
  refine N_ret [] [] rfl (by kernel_rfl) rfl ?_
  exact ⟨rfl, rfl⟩
theorem nilList (p : ByteArray) (W0 : World) (H : List Grp) : Tri Try.prog 21 #[.pointer none, .string p] W0 H (fun v H' => v = .slice none 0 0 ∧ H' = H) := by
  refine Tri_of (args := [.pointer none, .string p]) (n := 29) Try.func21 rfl rfl (Nat.le_of_ble_eq_true rfl) ?_
  refine G_seq ?_
  refine G_pure (E' := [⟨0, [], .pointer none⟩, ⟨1, [], .string p⟩]) [0] [0, 1] rfl (by kernel_rfl) ?_
  refine N_then ?_
  refine G_seq ?_
  refine G_seq ?_
  refine G_pure (E' := [⟨0, [], .pointer none⟩, ⟨1, [], .string p⟩, ⟨8, [], .bool true⟩]) [0, 0] [0, 1, 8] rfl (by kernel_rfl) ?_
  refine N_then ?_
  refine G_condt (by kernel_rfl) ?_
  refine G_seq ?_
  refine G_pure (E' := [⟨4, [], .slice none 0 0⟩]) [0] [4] rfl (by kernel_rfl) ?_
  refine N_then ?_
  refine G_ret ?_
  refine N_then_ret ?_
  refine N_ret [.tmp 4] [.slice none 0 0] rfl (by kernel_rfl) rfl ?_
  exact ⟨rfl, rfl⟩
theorem nilCrash (a : Option Addr) (n c : Nat) (W0 : World) (H : List Grp) : Tri Try.prog 18 #[.pointer none, .slice a n c] W0 H (fun v H' => v = .tuple #[] ∧ H' = H) := by
  refine Tri_of (args := [.pointer none, .slice a n c]) (n := 116) Try.func18 rfl rfl (Nat.le_of_ble_eq_true rfl) ?_
  refine G_seq ?_
  refine G_region ?_
  refine GL_box (i := 0) (ch := []) (v := .slice a n c) rfl rfl (by kernel_rfl) (by kernel_rfl) (by kernel_rfl) (by kernel_rfl) (fun b1 => ?_)
  refine GL_fin (E' := [⟨0, [], .pointer none⟩, ⟨3, [], pt b1⟩]) [] [0, 3] rfl (by kernel_rfl) ?_
  refine N_then ?_
  refine G_seq ?_
  refine G_seq ?_
  refine G_pure (E' := [⟨0, [], .pointer none⟩, ⟨3, [], pt b1⟩, ⟨14, [], .bool true⟩]) [0, 0] [0, 3, 14] rfl (by kernel_rfl) ?_
  refine N_then ?_
  refine G_condt (by kernel_rfl) ?_
  refine G_ret ?_
  refine N_then_ret ?_
  refine N_heap (H' := H) (fun w h => h.erase 0) ?_
  refine N_ret [] [] rfl (by kernel_rfl) rfl ?_
  exact ⟨rfl, rfl⟩
theorem nilSyncDir  (W0 : World) (H : List Grp) : Tri Try.prog 15 #[.pointer none, .string (ByteArray.mk #[])] W0 H (fun v H' => v = .int .i64 1 ∧ H' = H) := by
  refine Tri_of (args := [.pointer none, .string (ByteArray.mk #[])]) (n := 42) Try.func15 rfl rfl (Nat.le_of_ble_eq_true rfl) ?_
  refine G_seq ?_
  refine G_pure (E' := [⟨0, [], .pointer none⟩, ⟨1, [], .string (ByteArray.mk #[])⟩]) [0] [0, 1] rfl (by kernel_rfl) ?_
  refine N_then ?_
  refine G_seq ?_
  refine G_seq ?_
  refine G_region ?_
  refine GL_pure (E' := [⟨10, [], .bool ((ByteArray.mk #[]).toList == (ByteArray.mk #[]).toList)⟩, ⟨8, [], .pointer none⟩, ⟨0, [], .pointer none⟩, ⟨1, [], .string (ByteArray.mk #[])⟩]) [0, 0, 0] (by kernel_rfl) (j := 3) rfl ?_
  refine GL_env (E' := [⟨10, [], .bool true⟩, ⟨8, [], .pointer none⟩, ⟨0, [], .pointer none⟩, ⟨1, [], .string (ByteArray.mk #[])⟩]) (by rw [beq_self_eq_true]) ?_
  refine GL_pure (E' := [⟨14, [], .bool true⟩, ⟨8, [], .pointer none⟩, ⟨0, [], .pointer none⟩, ⟨1, [], .string (ByteArray.mk #[])⟩]) [0, 1, 1, 2] (by kernel_rfl) (j := 7) rfl ?_
  refine GL_call (i := 7) (ch := []) (f := 34) (fst := #[]) (caps := #[]) (vs := [.pointer none, .bool true]) rfl rfl rfl (by kernel_rfl) (by kernel_rfl) Try.func34 rfl rfl (by kernel_rfl) (by kernel_rfl) (chSure_of (by kernel_rfl)) (vCallNil true _ _) ?_
  rintro v H' ⟨rfl, rfl⟩
  refine GL_fin (E' := [⟨0, [], .pointer none⟩, ⟨1, [], .string (ByteArray.mk #[])⟩, ⟨5, [], .int .i64 1⟩]) [0] [0, 1, 5] rfl (by kernel_rfl) ?_
  refine N_then ?_
  refine G_seq ?_
  refine G_pure (E' := [⟨0, [], .pointer none⟩, ⟨1, [], .string (ByteArray.mk #[])⟩, ⟨5, [], .int .i64 1⟩, ⟨17, [], .bool true⟩]) [0, 0] [0, 1, 5, 17] rfl (by kernel_rfl) ?_
  refine N_then ?_
  refine G_condt (by kernel_rfl) ?_
  refine G_seq ?_
  refine G_pure (E' := [⟨4, [], .int .i64 1⟩]) [0, 0] [4] rfl (by kernel_rfl) ?_
  refine N_then ?_
  refine G_ret ?_
  refine N_then_ret ?_
  refine N_ret [.tmp 4] [.int .i64 1] rfl (by kernel_rfl) rfl ?_
  exact ⟨rfl, rfl⟩
theorem nilWrite  (W0 : World) (H : List Grp) : Tri Try.prog 13 #[.pointer none, .string (ByteArray.mk #[97]), .slice none 0 0] W0 H (fun v H' => v = .int .i64 1 ∧ H' = H) := by
  refine Tri_of (args := [.pointer none, .string (ByteArray.mk #[97]), .slice none 0 0]) (n := 65) Try.func13 rfl rfl (Nat.le_of_ble_eq_true rfl) ?_
  refine G_seq ?_
  refine G_pure (E' := [⟨0, [], .pointer none⟩, ⟨1, [], .string (ByteArray.mk #[97])⟩, ⟨2, [], .slice none 0 0⟩]) [0] [0, 1, 2] rfl (by kernel_rfl) ?_
  refine N_then ?_
  refine G_seq ?_
  refine G_seq ?_
  refine G_region ?_
  refine GL_pure (E' := [⟨12, [], .string (ByteArray.mk #[97])⟩, ⟨11, [], .pointer none⟩, ⟨0, [], .pointer none⟩, ⟨1, [], .string (ByteArray.mk #[97])⟩, ⟨2, [], .slice none 0 0⟩]) [0, 0] (by kernel_rfl) (j := 2) rfl ?_
  refine GL_callQ (i := 2) (ch := []) (f := 10) (fst := #[]) (caps := #[]) (vs := [.string (ByteArray.mk #[97])]) (v := .bool (rightB (ByteArray.mk #[97]))) rfl rfl rfl (by kernel_rfl) (by kernel_rfl) Try.func10 rfl rfl (by kernel_rfl) (by kernel_rfl) (by kernel_rfl) (fun _ => vfsRight _ (by decide) _ _) ?_
  refine GL_call (i := 3) (ch := []) (f := 34) (fst := #[]) (caps := #[]) (vs := [.pointer none, .bool (rightB (ByteArray.mk #[97]))]) rfl rfl rfl (by kernel_rfl) (by kernel_rfl) Try.func34 rfl rfl (by kernel_rfl) (by kernel_rfl) (chSure_of (by kernel_rfl)) (vCallNil (rightB (ByteArray.mk #[97])) _ _) ?_
  rintro v H' ⟨rfl, rfl⟩
  refine GL_fin (E' := [⟨0, [], .pointer none⟩, ⟨1, [], .string (ByteArray.mk #[97])⟩, ⟨2, [], .slice none 0 0⟩, ⟨7, [], .int .i64 1⟩]) [0] [0, 1, 2, 7] rfl (by kernel_rfl) ?_
  refine N_then ?_
  refine G_seq ?_
  refine G_pure (E' := [⟨0, [], .pointer none⟩, ⟨1, [], .string (ByteArray.mk #[97])⟩, ⟨2, [], .slice none 0 0⟩, ⟨7, [], .int .i64 1⟩, ⟨16, [], .bool true⟩]) [0, 0] [0, 1, 2, 7, 16] rfl (by kernel_rfl) ?_
  refine N_then ?_
  refine G_condt (by kernel_rfl) ?_
  refine G_seq ?_
  refine G_pure (E' := [⟨6, [], .int .i64 1⟩]) [0, 0] [6] rfl (by kernel_rfl) ?_
  refine N_then ?_
  refine G_ret ?_
  refine N_then_ret ?_
  refine N_ret [.tmp 6] [.int .i64 1] rfl (by kernel_rfl) rfl ?_
  exact ⟨rfl, rfl⟩
theorem nilTry  (W0 : World) (H : List Grp) : Tri Try.prog 20 #[.pointer none, .agg #[.int .i64 0, .string (ByteArray.mk #[97]), .string (ByteArray.mk #[]), .slice none 0 0, .int .i64 0, .slice none 0 0]] W0 H (fun v H' => v = .int .i64 1 ∧ H' = H) := by
  refine Tri_of (args := [.pointer none, .agg #[.int .i64 0, .string (ByteArray.mk #[97]), .string (ByteArray.mk #[]), .slice none 0 0, .int .i64 0, .slice none 0 0]]) (n := 49) Try.func20 rfl rfl (Nat.le_of_ble_eq_true rfl) ?_
  refine G_seq ?_
  refine G_region ?_
  refine GL_box (i := 0) (ch := []) (v := .agg #[.int .i64 0, .string (ByteArray.mk #[97]), .string (ByteArray.mk #[]), .slice none 0 0, .int .i64 0, .slice none 0 0]) rfl rfl (by kernel_rfl) (by kernel_rfl) (by kernel_rfl) (by kernel_rfl) (fun b1 => ?_)
  refine GL_fin (E' := [⟨0, [], .pointer none⟩, ⟨3, [], pt b1⟩]) [0] [0, 3] rfl (by kernel_rfl) ?_
  refine N_then ?_
  refine G_seq ?_
  refine G_seq ?_
  refine G_region ?_
  refine GL_pure (E' := [⟨5, [], pt b1⟩, ⟨0, [], .pointer none⟩, ⟨3, [], pt b1⟩]) [0] (by kernel_rfl) (j := 1) rfl ?_
  refine GL_load (i := 1) (ch := []) (b := b1) (off := 0) (v := .int .i64 0) rfl rfl (by kernel_rfl) (by kernel_rfl) (by kernel_rfl) (by kernel_rfl) (by kernel_rfl) (At.grp 0 0 rfl rfl) rfl ?_
  refine GL_fin (E' := [⟨0, [], .pointer none⟩, ⟨3, [], pt b1⟩, ⟨8, [], .int .u64 (Int.tmod (IntKind.wrap .u64 0) 8)⟩]) [0, 0] [0, 3, 8] rfl (by kernel_rfl) ?_
  refine N_then ?_
  refine G_block ?_
  refine G_seq ?_
  refine G_pure (E' := [⟨0, [], .pointer none⟩, ⟨3, [], pt b1⟩, ⟨8, [], .int .u64 (Int.tmod (IntKind.wrap .u64 0) 8)⟩, ⟨9, [], .bool ((Int.tmod (IntKind.wrap .u64 0) 8) == 0)⟩]) [0, 0] [0, 3, 8, 9] rfl (by kernel_rfl) ?_
  refine N_then ?_
  refine G_cond (b := (Int.tmod (IntKind.wrap .u64 0) 8) == 0) (by kernel_rfl) (fun hc2 => ?_) (fun hc2 => ?_)
  ·
    skip
    refine G_seq ?_
    refine G_region ?_
    refine GL_pure (E' := [⟨12, [], .pointer (some ⟨b1, 1, none⟩)⟩, ⟨11, [], .pointer none⟩, ⟨3, [], pt b1⟩]) [0, 0] (by kernel_rfl) (j := 2) rfl ?_
    refine GL_load (i := 2) (ch := []) (b := b1) (off := 1) (v := .string (ByteArray.mk #[97])) rfl rfl (by kernel_rfl) (by kernel_rfl) (by kernel_rfl) (by kernel_rfl) (by kernel_rfl) (At.grp 0 0 rfl rfl) rfl ?_
    refine GL_pure (E' := [⟨14, [], .pointer (some ⟨b1, 3, none⟩)⟩, ⟨13, [], .string (ByteArray.mk #[97])⟩, ⟨11, [], .pointer none⟩]) [0] (by kernel_rfl) (j := 4) rfl ?_
    refine GL_load (i := 4) (ch := []) (b := b1) (off := 3) (v := .slice none 0 0) rfl rfl (by kernel_rfl) (by kernel_rfl) (by kernel_rfl) (by kernel_rfl) (by kernel_rfl) (At.grp 0 0 rfl rfl) rfl ?_
    refine GL_callQ (i := 5) (ch := []) (f := 13) (fst := #[]) (caps := #[]) (vs := [.pointer none, .string (ByteArray.mk #[97]), .slice none 0 0]) (v := .int .i64 1) rfl rfl rfl (by kernel_rfl) (by kernel_rfl) Try.func13 rfl rfl (by kernel_rfl) (by kernel_rfl) (by kernel_rfl) (fun _ => nilWrite _ _) ?_
    refine GL_fin (E' := [⟨4, [], .int .i64 1⟩]) [0] [4] rfl (by kernel_rfl) ?_
    refine N_then ?_
    refine G_ret ?_
    refine N_block_ret ?_
    refine N_then_ret ?_
    refine N_heap (H' := H) (fun w h => h.erase 0) ?_
    refine N_ret [.tmp 4] [.int .i64 1] rfl (by kernel_rfl) rfl ?_
    exact ⟨rfl, rfl⟩
  ·
    exact absurd hc2 (by decide)
end Go.Proofs.Ytbmieiffboenbaa
namespace Go.Proofs.Ytbmieiffboenbaa
open Go.Sw Go.Lib Go.Vf Go.RowKit
set_option maxHeartbeats 4000000 in
theorem vfsRooms_ (ao : Option Addr) (co : Nat) (So : Nat → Obj → Prop) (room rm : Int) (ops : List OpV) (W0 : World) (hrw : IntKind.wrap .i64 (Int.tmod room 200) = rm) (hrm0 : 0 ≤ rm) (hro : Rd So ao (ops.flatMap opCells)) (hol : ops.length ≤ 9223372036854775807) (hOk : ∀ o ∈ ops, OpOk So W0 [] o) (hSo : ∀ y o, So y o → At W0 [] y o) (H : List Grp) : Tri Try.prog 8 #[.int .u16 room, .slice ao ops.length co] W0 H (fun v H' => v = .bool true ∧ ∃ G, H' = G ++ H) := by
  refine Tri_of (args := [.int .u16 room, .slice ao ops.length co]) (n := 168) Try.func8 rfl rfl (Nat.le_of_ble_eq_true rfl) ?_
  refine G_seq ?_
  refine G_pure (E' := [⟨0, [], .int .u16 room⟩, ⟨1, [], .slice ao ops.length co⟩]) [0] [0, 1] rfl (by kernel_rfl) ?_
  refine N_then ?_
  refine G_seq ?_
  refine G_seq ?_
  refine G_region ?_
  refine GL_call (i := 0) (ch := []) (f := 9) (fst := #[]) (caps := #[]) (vs := []) rfl rfl rfl (by kernel_rfl) (by kernel_rfl) Try.func9 rfl rfl (by kernel_rfl) (by kernel_rfl) (chSure_of (by kernel_rfl)) (vFirst _ _) ?_
  rintro v H' ⟨rfl, G, rfl⟩
  refine GL_fin (E' := [⟨0, [], .int .u16 room⟩, ⟨1, [], .slice ao ops.length co⟩, ⟨20, [], .bool false⟩]) [0] [0, 1, 20] rfl (by kernel_rfl) ?_
  refine N_then ?_
  refine G_condf (by kernel_rfl) ?_
  refine G_skip ?_
  refine N_then ?_
  refine G_seq ?_
  have hw1 : IntKind.wrap .i64 (Int.tmod room 200) = rm := hrw
  refine G_region ?_
  refine GL_pure (E' := [⟨23, [], .int .i64 rm⟩, ⟨0, [], .int .u16 room⟩, ⟨1, [], .slice ao ops.length co⟩]) [0, 0, 0] (Eq.trans (b := some [⟨23, [], .int .i64 (IntKind.wrap .i64 (Int.tmod room 200))⟩, ⟨0, [], .int .u16 room⟩, ⟨1, [], .slice ao ops.length co⟩]) (by kernel_rfl) (by simp only [hw1])) (j := 3) rfl ?_
  refine GL_call (i := 3) (ch := []) (f := 12) (fst := #[]) (caps := #[]) (vs := [.int .i64 rm]) rfl rfl rfl (by kernel_rfl) (by kernel_rfl) Try.func12 rfl rfl (by kernel_rfl) (by kernel_rfl) (chSure_of (by kernel_rfl)) (dNew rm (M := (newM rm)) _ _ rfl) ?_
  rintro v H' ⟨d2, rfl, s1, hs1, rfl⟩
  refine GL_fin (E' := [⟨0, [], .int .u16 room⟩, ⟨1, [], .slice ao ops.length co⟩, ⟨5, [], pt d2⟩]) [0] [0, 1, 5] rfl (by kernel_rfl) ?_
  refine N_then ?_
  refine G_seq ?_
  refine G_seq ?_
  refine G_pure (E' := [⟨0, [], .int .u16 room⟩, ⟨5, [], pt d2⟩, ⟨25, [], .slice ao ops.length co⟩, ⟨26, [], .int .i64 ((ops.length : Nat) : Int)⟩, ⟨27, [], .int .i64 0⟩]) [0, 0, 0] [0, 5, 25, 26, 27] rfl (by kernel_rfl) ?_
  refine N_then ?_
  refine G_block ?_
  refine G_loop (EI := (fun ξ : Nat × DS × DM => [⟨0, [], .int .u16 room⟩, ⟨5, [], pt d2⟩, ⟨25, [], .slice ao ops.length co⟩, ⟨26, [], .int .i64 ((ops.length : Nat) : Int)⟩, ⟨27, [], .int .i64 ((ξ.1 : Nat) : Int)⟩])) (HI := (fun ξ : Nat × DS × DM => (ξ.2.1.G d2 ξ.2.2 ++ (G ++ H)))) (Φ := (fun ξ : Nat × DS × DM => (ξ.1 ≤ ops.length) ∧ (ξ.1 ≤ 60) ∧ (ξ.2.1.ok ξ.2.2) ∧ (Scr 1000 ξ.1 ξ.2.2) ∧ (Ro ξ.2.2) ∧ (ξ.2.2.room = rm))) (μ := (fun ξ : Nat × DS × DM => ops.length - ξ.1)) (s0 := (0, s1, (newM rm))) [0, 5, 25, 26, 27] (by kernel_rfl) rfl ⟨(by omega), (Nat.zero_le _), hs1, (scr_new _ _), (ro_new _), (by show (if 0 > rm then 0 else rm) = rm; rw [if_neg (by omega)])⟩ ?_
  rintro ⟨k, sx, Mx⟩ ⟨hk, hk6, hsx, hcx, hrx, hrmx⟩
  replace hk : k ≤ ops.length := hk
  replace hk6 : k ≤ 60 := hk6
  replace hsx : sx.ok Mx := hsx
  replace hcx : Scr 1000 k Mx := hcx
  replace hrx : Ro Mx := hrx
  replace hrmx : Mx.room = rm := hrmx
  refine G_seq ?_
  refine G_pure (E' := [⟨0, [], .int .u16 room⟩, ⟨5, [], pt d2⟩, ⟨25, [], .slice ao ops.length co⟩, ⟨26, [], .int .i64 ((ops.length : Nat) : Int)⟩, ⟨27, [], .int .i64 ((k : Nat) : Int)⟩, ⟨28, [], .bool (decide (((k : Nat) : Int) < ((ops.length : Nat) : Int)))⟩]) [0] [0, 5, 25, 26, 27, 28] rfl (by kernel_rfl) ?_
  refine N_then ?_
  refine G_seq ?_
  refine G_cond (b := decide (((k : Nat) : Int) < ((ops.length : Nat) : Int))) (by kernel_rfl) (fun hc3 => ?_) (fun hc3 => ?_)
  ·
    replace hc3 := of_decide_eq_true hc3
    obtain ⟨o, ho⟩ : ∃ o, o = ops.getD k default := ⟨_, rfl⟩
    have hO : OpOk So W0 [] o := by (rw [ho]; exact hOk _ (getD_memG (by omega)))
    refine G_skip ?_
    refine N_then ?_
    refine G_seq ?_
    refine G_block ?_
    refine G_seq ?_
    refine G_region ?_
    refine GL_pure (E' := [⟨29, [], .int .i64 ((k : Nat) : Int)⟩, ⟨0, [], .int .u16 room⟩, ⟨5, [], pt d2⟩, ⟨25, [], .slice ao ops.length co⟩, ⟨26, [], .int .i64 ((ops.length : Nat) : Int)⟩, ⟨27, [], .int .i64 ((k : Nat) : Int)⟩]) [0] (by kernel_rfl) (j := 1) rfl ?_
    refine GL_indexAddr (i := 1) (ch := []) (a := ao) (len := ops.length) (cap := co) (kd := .i64) (j := ((k : Nat) : Int)) (e := 41) (sz := 6) (S := So) (cs := (ops.flatMap opCells)) rfl rfl (by kernel_rfl) (by kernel_rfl) (by kernel_rfl) (by kernel_rfl) (by kernel_rfl) (by kernel_rfl) (by kernel_rfl) hro (fun _ => by exact ⟨by omega, by omega, by (intro h; have h2 := congrArg List.length h; rw [ops_len] at h2; simp at h2; omega)⟩) ?_
    refine GL_loadSA (i := 2) (ch := []) (a := ao) (q := k * 6) (S := So) (cs := (ops.flatMap opCells)) (l := [.int .i64 o.kind, .string o.path, .string o.to, .slice o.ba o.b.size o.bc, .int .i64 o.n, .slice o.ka o.k.length o.kc]) rfl rfl (by kernel_rfl) (by kernel_rfl) (by kernel_rfl) (by kernel_rfl) (by kernel_rfl) (by kernel_rfl) hro (fun y o h => at_up (hSo y o h)) (List.cons_ne_nil _ _) (fun _ => (fun m hm => (op_at (by omega) m hm).trans (by rw [← ho]; exact List.getElem?_eq_getElem (l := opCells o) hm))) ?_
    refine GL_alloc (i := 3) (ch := []) (z := .agg #[.int .i64 0, .string (ByteArray.mk #[]), .string (ByteArray.mk #[]), .slice none 0 0, .int .i64 0, .slice none 0 0]) rfl rfl (by kernel_rfl) (by kernel_rfl) (by kernel_rfl) (by kernel_rfl) (fun b4 => ?_)
    refine GL_pure (E' := [⟨6, [], .int .i64 ((k : Nat) : Int)⟩, ⟨7, [], pt b4⟩, ⟨31, [], .agg #[.int .i64 o.kind, .string o.path, .string o.to, .slice o.ba o.b.size o.bc, .int .i64 o.n, .slice o.ka o.k.length o.kc]⟩, ⟨0, [], .int .u16 room⟩, ⟨5, [], pt d2⟩, ⟨25, [], .slice ao ops.length co⟩, ⟨26, [], .int .i64 ((ops.length : Nat) : Int)⟩, ⟨27, [], .int .i64 ((k : Nat) : Int)⟩]) [0] (by kernel_rfl) (j := 5) rfl ?_
    refine GL_store (i := 5) (ch := []) (b := b4) (off := 0) (v := .agg #[.int .i64 o.kind, .string o.path, .string o.to, .slice o.ba o.b.size o.bc, .int .i64 o.n, .slice o.ka o.k.length o.kc]) (c := #[.int .i64 0, .string (ByteArray.mk #[]), .string (ByteArray.mk #[]), .slice none 0 0, .int .i64 0, .slice none 0 0]) (c' := #[.int .i64 o.kind, .string o.path, .string o.to, .slice o.ba o.b.size o.bc, .int .i64 o.n, .slice o.ka o.k.length o.kc]) (j := 0) (m := 0) (H' := ([(b4, .cells #[.int .i64 o.kind, .string o.path, .string o.to, .slice o.ba o.b.size o.bc, .int .i64 o.n, .slice o.ka o.k.length o.kc] 41 (0, 0))] :: (sx.G d2 Mx ++ (G ++ H)))) rfl rfl (by kernel_rfl) (by kernel_rfl) (by kernel_rfl) (by kernel_rfl) (by kernel_rfl) (by kernel_rfl) (by kernel_rfl) rfl rfl (Nat.le_of_ble_eq_true rfl) (fun _ _ => thaw0) (by kernel_rfl) (by kernel_rfl) ?_
    refine GL_fin (E' := [⟨0, [], .int .u16 room⟩, ⟨5, [], pt d2⟩, ⟨6, [], .int .i64 ((k : Nat) : Int)⟩, ⟨7, [], pt b4⟩, ⟨25, [], .slice ao ops.length co⟩, ⟨26, [], .int .i64 ((ops.length : Nat) : Int)⟩, ⟨27, [], .int .i64 ((k : Nat) : Int)⟩]) [] [0, 5, 6, 7, 25, 26, 27] rfl (by kernel_rfl) ?_
    refine N_then ?_
    refine G_seq ?_
    refine G_seq ?_
    refine G_region ?_
    refine GL_pure (E' := [⟨35, [(34, false)], .pointer (some ⟨b4, 3, none⟩)⟩, ⟨34, [], .bool (decide (((k : Nat) : Int) ≥ 60))⟩, ⟨0, [], .int .u16 room⟩, ⟨5, [], pt d2⟩, ⟨7, [], pt b4⟩, ⟨25, [], .slice ao ops.length co⟩, ⟨26, [], .int .i64 ((ops.length : Nat) : Int)⟩, ⟨27, [], .int .i64 ((k : Nat) : Int)⟩]) [0, 0, 0, 0] (by kernel_rfl) (j := 4) rfl ?_
    refine GL_load (i := 4) (ch := [(34, false)]) (b := b4) (off := 3) (v := .slice o.ba o.b.size o.bc) rfl rfl (by kernel_rfl) (by kernel_rfl) (by kernel_rfl) (by kernel_rfl) (by kernel_rfl) (At.grp 0 0 rfl rfl) rfl ?_
    refine GL_pure (E' := [⟨41, [(40, false)], .pointer (some ⟨b4, 5, none⟩)⟩, ⟨40, [], .bool ((decide (((k : Nat) : Int) ≥ 60)) || (decide (((o.b.size : Nat) : Int) > 1000)))⟩, ⟨0, [], .int .u16 room⟩, ⟨5, [], pt d2⟩, ⟨7, [], pt b4⟩, ⟨25, [], .slice ao ops.length co⟩, ⟨26, [], .int .i64 ((ops.length : Nat) : Int)⟩, ⟨27, [], .int .i64 ((k : Nat) : Int)⟩]) [0, 0, 5, 0, 0] (by kernel_rfl) (j := 10) rfl ?_
    refine GL_load (i := 10) (ch := [(40, false)]) (b := b4) (off := 5) (v := .slice o.ka o.k.length o.kc) rfl rfl (by kernel_rfl) (by kernel_rfl) (by kernel_rfl) (by kernel_rfl) (by kernel_rfl) (At.grp 0 0 rfl rfl) rfl ?_
    refine GL_pure (E' := [⟨47, [(46, false)], .pointer (some ⟨b4, 1, none⟩)⟩, ⟨46, [], .bool (((decide (((k : Nat) : Int) ≥ 60)) || (decide (((o.b.size : Nat) : Int) > 1000))) || (decide (((o.k.length : Nat) : Int) > 50)))⟩, ⟨0, [], .int .u16 room⟩, ⟨5, [], pt d2⟩, ⟨7, [], pt b4⟩, ⟨25, [], .slice ao ops.length co⟩, ⟨26, [], .int .i64 ((ops.length : Nat) : Int)⟩, ⟨27, [], .int .i64 ((k : Nat) : Int)⟩]) [0, 0, 5, 0, 0] (by kernel_rfl) (j := 16) rfl ?_
    refine GL_load (i := 16) (ch := [(46, false)]) (b := b4) (off := 1) (v := .string o.path) rfl rfl (by kernel_rfl) (by kernel_rfl) (by kernel_rfl) (by kernel_rfl) (by kernel_rfl) (At.grp 0 0 rfl rfl) rfl ?_
    refine GL_pure (E' := [⟨50, [(46, false)], .pointer (some ⟨b4, 2, none⟩)⟩, ⟨49, [(46, false)], .int .i64 (o.path.size : Int)⟩, ⟨46, [], .bool (((decide (((k : Nat) : Int) ≥ 60)) || (decide (((o.b.size : Nat) : Int) > 1000))) || (decide (((o.k.length : Nat) : Int) > 50)))⟩, ⟨0, [], .int .u16 room⟩, ⟨5, [], pt d2⟩, ⟨7, [], pt b4⟩, ⟨25, [], .slice ao ops.length co⟩, ⟨26, [], .int .i64 ((ops.length : Nat) : Int)⟩, ⟨27, [], .int .i64 ((k : Nat) : Int)⟩]) [0, 0] (by kernel_rfl) (j := 19) rfl ?_
    refine GL_load (i := 19) (ch := [(46, false)]) (b := b4) (off := 2) (v := .string o.to) rfl rfl (by kernel_rfl) (by kernel_rfl) (by kernel_rfl) (by kernel_rfl) (by kernel_rfl) (At.grp 0 0 rfl rfl) rfl ?_
    refine GL_fin (E' := [⟨0, [], .int .u16 room⟩, ⟨5, [], pt d2⟩, ⟨7, [], pt b4⟩, ⟨25, [], .slice ao ops.length co⟩, ⟨26, [], .int .i64 ((ops.length : Nat) : Int)⟩, ⟨27, [], .int .i64 ((k : Nat) : Int)⟩, ⟨55, [], .bool ((((decide (((k : Nat) : Int) ≥ 60)) || (decide (((o.b.size : Nat) : Int) > 1000))) || (decide (((o.k.length : Nat) : Int) > 50))) || (decide ((if (o.to.size : Int) > (o.path.size : Int) then (o.to.size : Int) else (o.path.size : Int)) > 200)))⟩]) [0, 0, 0, 5] [0, 5, 7, 25, 26, 27, 55] rfl (by kernel_rfl) ?_
    refine N_then ?_
    refine G_cond (b := (((decide (((k : Nat) : Int) ≥ 60)) || (decide (((o.b.size : Nat) : Int) > 1000))) || (decide (((o.k.length : Nat) : Int) > 50))) || (decide ((if (o.to.size : Int) > (o.path.size : Int) then (o.to.size : Int) else (o.path.size : Int)) > 200))) (by kernel_rfl) (fun hc5 => ?_) (fun hc5 => ?_)
    ·
      -- L stop
      have hM1 := hcx.small (by omega) (by decide)
      refine G_exit ?_
      refine N_then_exit ?_
      refine N_block_other rfl ?_
      refine N_then_exit ?_
      refine N_then_exit ?_
      refine N_block_exit ?_
      refine N_then ?_
      refine G_seq ?_
      refine G_pure (E' := [⟨16, [], .pointer none⟩]) [0] [16] rfl (by kernel_rfl) ?_
      refine N_then ?_
      refine G_seq ?_
      refine G_region ?_
      refine GL_pure (E' := [⟨135, [], .pointer none⟩, ⟨16, [], .pointer none⟩]) [0] (by kernel_rfl) (j := 1) rfl ?_
      refine GL_call (i := 1) (ch := []) (f := 19) (fst := #[]) (caps := #[]) (vs := [.pointer none, .string (ByteArray.mk #[97])]) rfl rfl rfl (by kernel_rfl) (by kernel_rfl) Try.func19 rfl rfl (by kernel_rfl) (by kernel_rfl) (chSure_of (by kernel_rfl)) (nilRead _ _ _) ?_
      rintro v H' ⟨rfl, rfl⟩
      refine GL_fin (E' := [⟨16, [], .pointer none⟩, ⟨18, [], .int .i64 1⟩]) [0, 0, 0, 0, 0] [16, 18] rfl (by kernel_rfl) ?_
      refine N_then ?_
      refine G_seq ?_
      refine G_region ?_
      refine GL_pure (E' := [⟨139, [], .pointer none⟩, ⟨16, [], .pointer none⟩, ⟨18, [], .int .i64 1⟩]) [0] (by kernel_rfl) (j := 1) rfl ?_
      refine GL_call (i := 1) (ch := []) (f := 16) (fst := #[]) (caps := #[]) (vs := [.pointer none, .int .i64 1, .bool true]) rfl rfl rfl (by kernel_rfl) (by kernel_rfl) Try.func16 rfl rfl (by kernel_rfl) (by kernel_rfl) (chSure_of (by kernel_rfl)) (nilFail _ _ _ _) ?_
      rintro v H' ⟨rfl, rfl⟩
      refine GL_fin (E' := [⟨16, [], .pointer none⟩, ⟨18, [], .int .i64 1⟩]) [] [16, 18] rfl (by kernel_rfl) ?_
      refine N_then ?_
      refine G_seq ?_
      refine G_region ?_
      refine GL_pure (E' := [⟨141, [], .pointer none⟩, ⟨16, [], .pointer none⟩, ⟨18, [], .int .i64 1⟩]) [0] (by kernel_rfl) (j := 1) rfl ?_
      refine GL_buildSlice (i := 1) (ch := []) (e := 3) (l := [(0, .int .i64 1)]) (c := [.int .i64 1]) rfl rfl (by kernel_rfl) (by kernel_rfl) (by kernel_rfl) (by kernel_rfl) (by kernel_rfl) (fun b6 => ?_)
      refine GL_call (i := 2) (ch := []) (f := 18) (fst := #[]) (caps := #[]) (vs := [.pointer none, .slice (some ⟨b6, 0, none⟩) 1 1]) rfl rfl rfl (by kernel_rfl) (by kernel_rfl) Try.func18 rfl rfl (by kernel_rfl) (by kernel_rfl) (chSure_of (by kernel_rfl)) (nilCrash _ _ _ _ _) ?_
      rintro v H' ⟨rfl, rfl⟩
      refine GL_fin (E' := [⟨16, [], .pointer none⟩, ⟨18, [], .int .i64 1⟩]) [] [16, 18] rfl (by kernel_rfl) ?_
      refine N_then ?_
      refine G_seq ?_
      refine G_region ?_
      refine GL_pure (E' := [⟨147, [(146, true)], .pointer none⟩, ⟨146, [], .bool true⟩, ⟨16, [], .pointer none⟩]) [0, 0, 0, 0] (by kernel_rfl) (j := 4) rfl ?_
      refine GL_call (i := 4) (ch := [(146, true)]) (f := 26) (fst := #[]) (caps := #[]) (vs := [.pointer none]) rfl rfl rfl (by kernel_rfl) (by kernel_rfl) Try.func26 rfl rfl (by kernel_rfl) (by kernel_rfl) (chSure_of (by kernel_rfl)) (nilUsed _ _) ?_
      rintro v H' ⟨rfl, rfl⟩
      refine GL_pure (E' := [⟨152, [(151, true)], .pointer none⟩, ⟨151, [], .bool true⟩, ⟨16, [], .pointer none⟩]) [0, 2, 0, 0] (by kernel_rfl) (j := 9) rfl ?_
      refine GL_call (i := 9) (ch := [(151, true)]) (f := 21) (fst := #[]) (caps := #[]) (vs := [.pointer none, .string (ByteArray.mk #[])]) rfl rfl rfl (by kernel_rfl) (by kernel_rfl) Try.func21 rfl rfl (by kernel_rfl) (by kernel_rfl) (chSure_of (by kernel_rfl)) (nilList _ _ _) ?_
      rintro v H' ⟨rfl, rfl⟩
      refine GL_pure (E' := [⟨159, [(157, true)], .agg #[.int .i64 0, .string (ByteArray.mk #[97]), .string (ByteArray.mk #[]), .slice none 0 0, .int .i64 0, .slice none 0 0]⟩, ⟨158, [(157, true)], .pointer none⟩, ⟨157, [], .bool true⟩, ⟨16, [], .pointer none⟩]) [0, 0, 2, 0, 0, 0] (by kernel_rfl) (j := 16) rfl ?_
      refine GL_call (i := 16) (ch := [(157, true)]) (f := 20) (fst := #[]) (caps := #[]) (vs := [.pointer none, .agg #[.int .i64 0, .string (ByteArray.mk #[97]), .string (ByteArray.mk #[]), .slice none 0 0, .int .i64 0, .slice none 0 0]]) rfl rfl rfl (by kernel_rfl) (by kernel_rfl) Try.func20 rfl rfl (by kernel_rfl) (by kernel_rfl) (chSure_of (by kernel_rfl)) (nilTry _ _) ?_
      rintro v H' ⟨rfl, rfl⟩
      refine GL_pure (E' := [⟨164, [(163, true)], .pointer none⟩, ⟨163, [], .bool true⟩]) [0, 2, 0, 0] (by kernel_rfl) (j := 21) rfl ?_
      refine GL_call (i := 21) (ch := [(163, true)]) (f := 15) (fst := #[]) (caps := #[]) (vs := [.pointer none, .string (ByteArray.mk #[])]) rfl rfl rfl (by kernel_rfl) (by kernel_rfl) Try.func15 rfl rfl (by kernel_rfl) (by kernel_rfl) (chSure_of (by kernel_rfl)) (nilSyncDir _ _) ?_
      rintro v H' ⟨rfl, rfl⟩
      refine GL_fin (E' := [⟨4, [], .bool true⟩]) [0, 2, 0] [4] rfl (by kernel_rfl) ?_
      refine N_then ?_
      refine G_ret ?_
      refine N_ret [.tmp 4] [.bool true] rfl (by kernel_rfl) rfl ?_
      exact ⟨rfl, [[(b6, .cells #[.int .i64 1] 3 (0, 0))], [(b4, .cells #[.int .i64 o.kind, .string o.path, .string o.to, .slice o.ba o.b.size o.bc, .int .i64 o.n, .slice o.ka o.k.length o.kc] 41 (0, 0))]] ++ (sx.G d2 Mx ++ G), by simp⟩
    ·
      simp only [Bool.or_eq_false_iff, decide_eq_false_iff_not] at hc5
      have hb : o.b.size ≤ 1000000000 := by omega
      have hk : o.k.length ≤ 1000000000 := by omega
      have hM1 := hcx.small (by omega) (by decide)
      have hc2 := scr_do hcx (o := o) (by omega) hO.n
      have hM2 := hc2.small (by omega) (by decide)
      have hN0 : SmallR (newM 0) := (scr_new 1 0).small (by decide) (by decide)
      have hro2 := ro_do hrx o
      have hrm2 := (room_do Mx o).trans hrmx
      have hud : ¬ (kindU o = 7) → (usedM (doM Mx o).2 : Int) ≤ (usedM Mx : Int) ∨ (usedM (doM Mx o).2 : Int) ≤ rm := fun h7 => by (have h8 := used_do hrx o h7 (kind_rng o); rw [hrmx] at h8; exact h8)
      refine G_skip ?_
      refine N_then ?_
      refine G_seq ?_
      refine G_region ?_
      refine GL_pure (E' := [⟨57, [], .pointer (some ⟨b4, 1, none⟩)⟩, ⟨0, [], .int .u16 room⟩, ⟨5, [], pt d2⟩, ⟨7, [], pt b4⟩, ⟨25, [], .slice ao ops.length co⟩, ⟨26, [], .int .i64 ((ops.length : Nat) : Int)⟩, ⟨27, [], .int .i64 ((k : Nat) : Int)⟩]) [0] (by kernel_rfl) (j := 1) rfl ?_
      refine GL_load (i := 1) (ch := []) (b := b4) (off := 1) (v := .string o.path) rfl rfl (by kernel_rfl) (by kernel_rfl) (by kernel_rfl) (by kernel_rfl) (by kernel_rfl) (At.grp 0 0 rfl rfl) rfl ?_
      refine GL_call (i := 2) (ch := []) (f := 28) (fst := #[]) (caps := #[]) (vs := [.string o.path]) rfl rfl rfl (by kernel_rfl) (by kernel_rfl) Try.func28 rfl rfl (by kernel_rfl) (by kernel_rfl) (chSure_of (by kernel_rfl)) (refSplit2 o.path hO.path _ _) ?_
      rintro v H' ⟨⟨y7, rfl⟩, rfl⟩
      refine GL_fin (E' := [⟨0, [], .int .u16 room⟩, ⟨5, [], pt d2⟩, ⟨7, [], pt b4⟩, ⟨8, [], .string (dirB o.path)⟩, ⟨25, [], .slice ao ops.length co⟩, ⟨26, [], .int .i64 ((ops.length : Nat) : Int)⟩, ⟨27, [], .int .i64 ((k : Nat) : Int)⟩]) [0, 0, 0, 0, 0] [0, 5, 7, 8, 25, 26, 27] rfl (by kernel_rfl) ?_
      refine N_then ?_
      refine G_seq ?_
      refine G_region ?_
      refine GL_pure (E' := [⟨62, [], pt d2⟩, ⟨0, [], .int .u16 room⟩, ⟨5, [], pt d2⟩, ⟨7, [], pt b4⟩, ⟨8, [], .string (dirB o.path)⟩, ⟨25, [], .slice ao ops.length co⟩, ⟨26, [], .int .i64 ((ops.length : Nat) : Int)⟩, ⟨27, [], .int .i64 ((k : Nat) : Int)⟩]) [0] (by kernel_rfl) (j := 1) rfl ?_
      refine GL_call (i := 1) (ch := []) (f := 26) (fst := #[]) (caps := #[]) (vs := [pt d2]) rfl rfl rfl (by kernel_rfl) (by kernel_rfl) Try.func26 rfl rfl (by kernel_rfl) (by kernel_rfl) (chSure_of (by kernel_rfl)) (dUsed hsx (hM1).small d2 [[(b4, .cells #[.int .i64 o.kind, .string o.path, .string o.to, .slice o.ba o.b.size o.bc, .int .i64 o.n, .slice o.ka o.k.length o.kc] 41 (0, 0))]] _ (G ++ H) rfl) ?_
      rintro v H' ⟨rfl, rfl⟩
      refine GL_pure (E' := [⟨65, [], .string (dirB o.path)⟩, ⟨64, [], pt d2⟩, ⟨63, [], .int .i64 (((usedM Mx) : Nat) : Int)⟩, ⟨0, [], .int .u16 room⟩, ⟨5, [], pt d2⟩, ⟨7, [], pt b4⟩, ⟨8, [], .string (dirB o.path)⟩, ⟨25, [], .slice ao ops.length co⟩, ⟨26, [], .int .i64 ((ops.length : Nat) : Int)⟩, ⟨27, [], .int .i64 ((k : Nat) : Int)⟩]) [0, 0] (by kernel_rfl) (j := 4) rfl ?_
      obtain ⟨L8, hL8⟩ : ∃ L, listM Mx (dirB o.path) = L := ⟨_, rfl⟩
      have hlL8 : L8.length ≤ 9000000000 := by (have h1 := listM_len Mx (dirB o.path); have h2 := (hM1).small.names; rw [hL8] at h1; omega)
      refine GL_call (i := 4) (ch := []) (f := 21) (fst := #[]) (caps := #[]) (vs := [pt d2, .string (dirB o.path)]) rfl rfl rfl (by kernel_rfl) (by kernel_rfl) Try.func21 rfl rfl (by kernel_rfl) (by kernel_rfl) (chSure_of (by kernel_rfl)) (dList hsx (hM1).small d2 (dirB o.path) [[(b4, .cells #[.int .i64 o.kind, .string o.path, .string o.to, .slice o.ba o.b.size o.bc, .int .i64 o.n, .slice o.ka o.k.length o.kc] 41 (0, 0))]] _ (G ++ H) hL8) ?_
      rintro v H' ⟨la9, lc10, g11, rfl, hlc12, hrd13, rfl⟩
      refine GL_fin (E' := [⟨0, [], .int .u16 room⟩, ⟨5, [], pt d2⟩, ⟨7, [], pt b4⟩, ⟨8, [], .string (dirB o.path)⟩, ⟨10, [], .int .i64 (((usedM Mx) : Nat) : Int)⟩, ⟨11, [], .slice la9 L8.length lc10⟩, ⟨25, [], .slice ao ops.length co⟩, ⟨26, [], .int .i64 ((ops.length : Nat) : Int)⟩, ⟨27, [], .int .i64 ((k : Nat) : Int)⟩]) [0, 0] [0, 5, 7, 8, 10, 11, 25, 26, 27] rfl (by kernel_rfl) ?_
      refine N_then ?_
      refine G_seq ?_
      refine G_region ?_
      refine GL_pure (E' := [⟨69, [], .pointer (some ⟨b4, 1, none⟩)⟩, ⟨68, [], pt d2⟩, ⟨0, [], .int .u16 room⟩, ⟨5, [], pt d2⟩, ⟨7, [], pt b4⟩, ⟨8, [], .string (dirB o.path)⟩, ⟨10, [], .int .i64 (((usedM Mx) : Nat) : Int)⟩, ⟨11, [], .slice la9 L8.length lc10⟩, ⟨25, [], .slice ao ops.length co⟩, ⟨26, [], .int .i64 ((ops.length : Nat) : Int)⟩, ⟨27, [], .int .i64 ((k : Nat) : Int)⟩]) [0, 0] (by kernel_rfl) (j := 2) rfl ?_
      refine GL_load (i := 2) (ch := []) (b := b4) (off := 1) (v := .string o.path) rfl rfl (by kernel_rfl) (by kernel_rfl) (by kernel_rfl) (by kernel_rfl) (by kernel_rfl) (At.grp 1 0 rfl rfl) rfl ?_
      obtain ⟨⟨rb14, re15⟩, hrb14⟩ : ∃ x, readM Mx o.path = x := ⟨_, rfl⟩
      have hzrb14 := read_size (hM1).small hrb14
      refine GL_call (i := 3) (ch := []) (f := 19) (fst := #[]) (caps := #[]) (vs := [pt d2, .string o.path]) rfl rfl rfl (by kernel_rfl) (by kernel_rfl) Try.func19 rfl rfl (by kernel_rfl) (by kernel_rfl) (chSure_of (by kernel_rfl)) (dReadO hsx (fun B hB => ((hM1).small.size B hB).1) d2 o.path [g11, [(b4, .cells #[.int .i64 o.kind, .string o.path, .string o.to, .slice o.ba o.b.size o.bc, .int .i64 o.n, .slice o.ka o.k.length o.kc] 41 (0, 0))]] _ (G ++ H) hrb14) ?_
      rintro v H' ⟨ra16, rc17, g18, rfl, hO19, rfl⟩
      refine GL_fin (E' := [⟨0, [], .int .u16 room⟩, ⟨5, [], pt d2⟩, ⟨7, [], pt b4⟩, ⟨8, [], .string (dirB o.path)⟩, ⟨10, [], .int .i64 (((usedM Mx) : Nat) : Int)⟩, ⟨11, [], .slice la9 L8.length lc10⟩, ⟨12, [], .slice ra16 rb14.size rc17⟩, ⟨13, [], .int .i64 re15⟩, ⟨25, [], .slice ao ops.length co⟩, ⟨26, [], .int .i64 ((ops.length : Nat) : Int)⟩, ⟨27, [], .int .i64 ((k : Nat) : Int)⟩]) [0, 0, 0, 0, 0] [0, 5, 7, 8, 10, 11, 12, 13, 25, 26, 27] rfl (by kernel_rfl) ?_
      refine N_then ?_
      refine G_seq ?_
      refine G_seq ?_
      refine G_region ?_
      refine GL_pure (E' := [⟨74, [], pt b4⟩, ⟨0, [], .int .u16 room⟩, ⟨5, [], pt d2⟩, ⟨7, [], pt b4⟩, ⟨8, [], .string (dirB o.path)⟩, ⟨10, [], .int .i64 (((usedM Mx) : Nat) : Int)⟩, ⟨11, [], .slice la9 L8.length lc10⟩, ⟨12, [], .slice ra16 rb14.size rc17⟩, ⟨13, [], .int .i64 re15⟩, ⟨25, [], .slice ao ops.length co⟩, ⟨26, [], .int .i64 ((ops.length : Nat) : Int)⟩, ⟨27, [], .int .i64 ((k : Nat) : Int)⟩]) [0] (by kernel_rfl) (j := 1) rfl ?_
      refine GL_load (i := 1) (ch := []) (b := b4) (off := 0) (v := .int .i64 o.kind) rfl rfl (by kernel_rfl) (by kernel_rfl) (by kernel_rfl) (by kernel_rfl) (by kernel_rfl) (At.grp 2 0 rfl rfl) rfl ?_
      refine GL_fin (E' := [⟨0, [], .int .u16 room⟩, ⟨5, [], pt d2⟩, ⟨7, [], pt b4⟩, ⟨8, [], .string (dirB o.path)⟩, ⟨10, [], .int .i64 (((usedM Mx) : Nat) : Int)⟩, ⟨11, [], .slice la9 L8.length lc10⟩, ⟨12, [], .slice ra16 rb14.size rc17⟩, ⟨13, [], .int .i64 re15⟩, ⟨25, [], .slice ao ops.length co⟩, ⟨26, [], .int .i64 ((ops.length : Nat) : Int)⟩, ⟨27, [], .int .i64 ((k : Nat) : Int)⟩, ⟨78, [], .bool (decide ((Int.tmod (IntKind.wrap .u64 o.kind) 8) ≥ 6))⟩]) [0, 0, 0] [0, 5, 7, 8, 10, 11, 12, 13, 25, 26, 27, 78] rfl (by kernel_rfl) ?_
      refine N_then ?_
      refine G_cond (b := decide ((Int.tmod (IntKind.wrap .u64 o.kind) 8) ≥ 6)) (by kernel_rfl) (fun hc20 => ?_) (fun hc20 => ?_)
      ·
        have hge : 6 ≤ kindU o := by simpa [kindU] using hc20
        -- L do
        refine G_regionH (g18 :: g11 :: [(b4, .cells #[.int .i64 o.kind, .string o.path, .string o.to, .slice o.ba o.b.size o.bc, .int .i64 o.n, .slice o.ka o.k.length o.kc] 41 (0, 0))] :: H) (by kernel_rfl) ?_
        refine GH_pure (E' := [⟨79, [], pt d2⟩, ⟨0, [], .int .u16 room⟩, ⟨5, [], pt d2⟩, ⟨7, [], pt b4⟩, ⟨10, [], .int .i64 (((usedM Mx) : Nat) : Int)⟩, ⟨25, [], .slice ao ops.length co⟩, ⟨26, [], .int .i64 ((ops.length : Nat) : Int)⟩, ⟨27, [], .int .i64 ((k : Nat) : Int)⟩]) 0 0 (by kernel_rfl) (fun w h => (Sat.dropMid (K := [_, _, _]) (A := G) (L := H) (Sat.dropMid (K := [_, _, _]) (A := sx.G d2 Mx) (L := (G ++ H)) (((h.front (j := 2) rfl).front (j := 2) rfl).front (j := 2) rfl)))) (by kernel_rfl) ?_
        refine GH_take' (E' := [⟨81, [], .agg #[.int .i64 o.kind, .string o.path, .string o.to, .slice o.ba o.b.size o.bc, .int .i64 o.n, .slice o.ka o.k.length o.kc]⟩, ⟨79, [], pt d2⟩, ⟨0, [], .int .u16 room⟩, ⟨5, [], pt d2⟩, ⟨7, [], pt b4⟩, ⟨10, [], .int .i64 (((usedM Mx) : Nat) : Int)⟩, ⟨25, [], .slice ao ops.length co⟩, ⟨26, [], .int .i64 ((ops.length : Nat) : Int)⟩, ⟨27, [], .int .i64 ((k : Nat) : Int)⟩]) 2 (by kernel_rfl) (fun w h => (Sat.dropMid (K := [_, _, _]) (A := G) (L := H) (Sat.dropMid (K := [_, _, _]) (A := sx.G d2 Mx) (L := (G ++ H)) (((h.front (j := 2) rfl).front (j := 2) rfl).front (j := 2) rfl)))) ?_ ?_
        ·
          refine GL_loadA (i := 2) (ch := []) (b := b4) (off := 0) (l := [.int .i64 o.kind, .string o.path, .string o.to, .slice o.ba o.b.size o.bc, .int .i64 o.n, .slice o.ka o.k.length o.kc]) rfl rfl (by kernel_rfl) (by kernel_rfl) (by kernel_rfl) (by kernel_rfl) (by kernel_rfl) (by kernel_rfl) (At.grp 2 0 rfl rfl) (by kernel_rfl) ?_
          exact GL_yend (by kernel_rfl) (by kernel_rfl)
        refine GH_eff 1 (by kernel_rfl) (by kernel_rfl) (by kernel_rfl) ?_
        refine GL_call (i := 1) (ch := []) (f := 23) (fst := #[]) (caps := #[]) (vs := [.int .i64 0]) rfl rfl rfl (by kernel_rfl) (by kernel_rfl) Try.func23 rfl rfl (by kernel_rfl) (by kernel_rfl) (chSure_of (by kernel_rfl)) (xNew 0 [g18, g11, [(b4, .cells #[.int .i64 o.kind, .string o.path, .string o.to, .slice o.ba o.b.size o.bc, .int .i64 o.n, .slice o.ka o.k.length o.kc] 41 (0, 0))]] (sx.G d2 Mx) _ (G ++ H)) ?_
        rintro v H' ⟨x21, rfl, r4, hr4, rfl⟩
        refine GH_back (by kernel_rfl) (fun w h => (Sat.dropMid (K := [_, _, _]) (A := G) (L := H) (Sat.dropMid (K := [_, _, _]) (A := r4.G x21 (newM 0)) (L := (G ++ H)) (Sat.dropMid (K := [_, _, _]) (A := sx.G d2 Mx) (L := (r4.G x21 (newM 0) ++ (G ++ H))) (((h.front (j := 2) rfl).front (j := 2) rfl).front (j := 2) rfl))))) ?_
        refine GH_eff 3 (by kernel_rfl) (by kernel_rfl) (by kernel_rfl) ?_
        refine GL_call (i := 3) (ch := []) (f := 24) (fst := #[]) (caps := #[]) (vs := [pt d2, pt x21, .agg #[.int .i64 o.kind, .string o.path, .string o.to, .slice o.ba o.b.size o.bc, .int .i64 o.n, .slice o.ka o.k.length o.kc]]) rfl rfl rfl (by kernel_rfl) (by kernel_rfl) Try.func24 rfl rfl (by kernel_rfl) (by kernel_rfl) (chSure_of (by kernel_rfl)) (dDoX hsx hr4 (hM1).small hN0 d2 x21 So o hb hk [g18, g11, [(b4, .cells #[.int .i64 o.kind, .string o.path, .string o.to, .slice o.ba o.b.size o.bc, .int .i64 o.n, .slice o.ka o.k.length o.kc] 41 (0, 0))]] _ (G ++ H) hO) ?_
        rintro v H' ⟨rfl, s5, hs5, rfl⟩
        refine GH_back (by kernel_rfl) (fun w h => (Sat.dropMid (K := [_, _, _]) (A := G) (L := H) (Sat.dropMid (K := [_, _, _]) (A := s5.G d2 (doM Mx o).2) (L := (G ++ H)) (((h.front (j := 2) rfl).front (j := 2) rfl).front (j := 2) rfl)))) ?_
        refine GH_done (E' := [⟨0, [], .int .u16 room⟩, ⟨5, [], pt d2⟩, ⟨7, [], pt b4⟩, ⟨10, [], .int .i64 (((usedM Mx) : Nat) : Int)⟩, ⟨25, [], .slice ao ops.length co⟩, ⟨26, [], .int .i64 ((ops.length : Nat) : Int)⟩, ⟨27, [], .int .i64 ((k : Nat) : Int)⟩]) [0, 5, 7, 10, 25, 26, 27] (by kernel_rfl) (by kernel_rfl) ?_
        refine N_then ?_
        refine G_seq ?_
        by_cases h7 : kindU o = 7
        ·
          refine G_region ?_
          refine GL_pure (E' := [⟨118, [], pt b4⟩, ⟨0, [], .int .u16 room⟩, ⟨5, [], pt d2⟩, ⟨10, [], .int .i64 (((usedM Mx) : Nat) : Int)⟩, ⟨25, [], .slice ao ops.length co⟩, ⟨26, [], .int .i64 ((ops.length : Nat) : Int)⟩, ⟨27, [], .int .i64 ((k : Nat) : Int)⟩]) [0] (by kernel_rfl) (j := 1) rfl ?_
          refine GL_load (i := 1) (ch := []) (b := b4) (off := 0) (v := .int .i64 o.kind) rfl rfl (by kernel_rfl) (by kernel_rfl) (by kernel_rfl) (by kernel_rfl) (by kernel_rfl) (At.grp 2 0 rfl rfl) rfl ?_
          refine GL_pure (E' := [⟨122, [], .bool ((Int.tmod (IntKind.wrap .u64 o.kind) 8) != 7)⟩, ⟨0, [], .int .u16 room⟩, ⟨5, [], pt d2⟩, ⟨10, [], .int .i64 (((usedM Mx) : Nat) : Int)⟩, ⟨25, [], .slice ao ops.length co⟩, ⟨26, [], .int .i64 ((ops.length : Nat) : Int)⟩, ⟨27, [], .int .i64 ((k : Nat) : Int)⟩]) [0, 0, 0] (by kernel_rfl) (j := 5) rfl ?_
          refine GL_env (E' := [⟨122, [], .bool false⟩, ⟨0, [], .int .u16 room⟩, ⟨5, [], pt d2⟩, ⟨10, [], .int .i64 (((usedM Mx) : Nat) : Int)⟩, ⟨25, [], .slice ao ops.length co⟩, ⟨26, [], .int .i64 ((ops.length : Nat) : Int)⟩, ⟨27, [], .int .i64 ((k : Nat) : Int)⟩]) (by rw [show Int.tmod (IntKind.wrap .u64 o.kind) 8 = 7 from h7]; rfl) ?_
          refine GL_fin (E' := [⟨0, [], .int .u16 room⟩, ⟨5, [], pt d2⟩, ⟨25, [], .slice ao ops.length co⟩, ⟨26, [], .int .i64 ((ops.length : Nat) : Int)⟩, ⟨27, [], .int .i64 ((k : Nat) : Int)⟩, ⟨132, [], .bool false⟩]) [0, 1, 1, 1, 1, 1, 1, 1, 1, 3] [0, 5, 25, 26, 27, 132] rfl (by kernel_rfl) ?_
          refine N_then ?_
          refine G_condf (by kernel_rfl) ?_
          refine G_skip ?_
          refine N_block ?_
          refine N_then ?_
          have hw22 : IntKind.wrap .i64 (((k : Nat) : Int) + 1) = ((k : Nat) : Int) + 1 := w64 (by omega) (by omega)
          refine G_pure (E' := [⟨0, [], .int .u16 room⟩, ⟨5, [], pt d2⟩, ⟨25, [], .slice ao ops.length co⟩, ⟨26, [], .int .i64 ((ops.length : Nat) : Int)⟩, ⟨27, [], .int .i64 (((k : Nat) : Int) + 1)⟩]) [0, 0] [0, 5, 25, 26, 27] rfl (Eq.trans (b := some [⟨0, [], .int .u16 room⟩, ⟨5, [], pt d2⟩, ⟨25, [], .slice ao ops.length co⟩, ⟨26, [], .int .i64 ((ops.length : Nat) : Int)⟩, ⟨27, [], .int .i64 (IntKind.wrap .i64 (((k : Nat) : Int) + 1))⟩]) (by kernel_rfl) (by simp only [hw22])) ?_
          refine N_heap (H' := (s5.G d2 (doM Mx o).2 ++ (G ++ H))) (fun w h => (((h.erase 2).erase 1).erase 0)) ?_
          refine N_round (s' := (k + 1, s5, (doM Mx o).2)) [0, 5, 25, 26, 27] (by kernel_rfl) rfl ⟨(by omega), (by omega), hs5, hc2, hro2, hrm2⟩ (by omega)
        ·
          have hud7 := hud h7
          refine G_region ?_
          refine GL_pure (E' := [⟨118, [], pt b4⟩, ⟨0, [], .int .u16 room⟩, ⟨5, [], pt d2⟩, ⟨10, [], .int .i64 (((usedM Mx) : Nat) : Int)⟩, ⟨25, [], .slice ao ops.length co⟩, ⟨26, [], .int .i64 ((ops.length : Nat) : Int)⟩, ⟨27, [], .int .i64 ((k : Nat) : Int)⟩]) [0] (by kernel_rfl) (j := 1) rfl ?_
          refine GL_load (i := 1) (ch := []) (b := b4) (off := 0) (v := .int .i64 o.kind) rfl rfl (by kernel_rfl) (by kernel_rfl) (by kernel_rfl) (by kernel_rfl) (by kernel_rfl) (At.grp 2 0 rfl rfl) rfl ?_
          refine GL_pure (E' := [⟨122, [], .bool ((Int.tmod (IntKind.wrap .u64 o.kind) 8) != 7)⟩, ⟨0, [], .int .u16 room⟩, ⟨5, [], pt d2⟩, ⟨10, [], .int .i64 (((usedM Mx) : Nat) : Int)⟩, ⟨25, [], .slice ao ops.length co⟩, ⟨26, [], .int .i64 ((ops.length : Nat) : Int)⟩, ⟨27, [], .int .i64 ((k : Nat) : Int)⟩]) [0, 0, 0] (by kernel_rfl) (j := 5) rfl ?_
          refine GL_env (E' := [⟨122, [], .bool true⟩, ⟨0, [], .int .u16 room⟩, ⟨5, [], pt d2⟩, ⟨10, [], .int .i64 (((usedM Mx) : Nat) : Int)⟩, ⟨25, [], .slice ao ops.length co⟩, ⟨26, [], .int .i64 ((ops.length : Nat) : Int)⟩, ⟨27, [], .int .i64 ((k : Nat) : Int)⟩]) (by rw [show (Int.tmod (IntKind.wrap .u64 o.kind) 8 != 7) = true from bne_iff_ne.2 h7]) ?_
          refine GL_pure (E' := [⟨124, [(123, true)], pt d2⟩, ⟨123, [], .bool true⟩, ⟨0, [], .int .u16 room⟩, ⟨5, [], pt d2⟩, ⟨10, [], .int .i64 (((usedM Mx) : Nat) : Int)⟩, ⟨25, [], .slice ao ops.length co⟩, ⟨26, [], .int .i64 ((ops.length : Nat) : Int)⟩, ⟨27, [], .int .i64 ((k : Nat) : Int)⟩]) [0, 0] (by kernel_rfl) (j := 7) rfl ?_
          refine GL_call (i := 7) (ch := [(123, true)]) (f := 26) (fst := #[]) (caps := #[]) (vs := [pt d2]) rfl rfl rfl (by kernel_rfl) (by kernel_rfl) Try.func26 rfl rfl (by kernel_rfl) (by kernel_rfl) (chSure_of (by kernel_rfl)) (dUsed hs5 (hM2).small d2 [g18, g11, [(b4, .cells #[.int .i64 o.kind, .string o.path, .string o.to, .slice o.ba o.b.size o.bc, .int .i64 o.n, .slice o.ka o.k.length o.kc] 41 (0, 0))]] _ (G ++ H) rfl) ?_
          rintro v H' ⟨rfl, rfl⟩
          refine GL_pure (E' := [⟨128, [(123, true)], .int .i64 (IntKind.wrap .i64 (Int.tmod room 200))⟩, ⟨125, [(123, true)], .int .i64 (((usedM (doM Mx o).2) : Nat) : Int)⟩, ⟨123, [], .bool true⟩, ⟨0, [], .int .u16 room⟩, ⟨5, [], pt d2⟩, ⟨10, [], .int .i64 (((usedM Mx) : Nat) : Int)⟩, ⟨25, [], .slice ao ops.length co⟩, ⟨26, [], .int .i64 ((ops.length : Nat) : Int)⟩, ⟨27, [], .int .i64 ((k : Nat) : Int)⟩]) [0, 0, 0] (by kernel_rfl) (j := 11) rfl ?_
          refine GL_env (E' := [⟨128, [(123, true)], .int .i64 rm⟩, ⟨125, [(123, true)], .int .i64 (((usedM (doM Mx o).2) : Nat) : Int)⟩, ⟨123, [], .bool true⟩, ⟨0, [], .int .u16 room⟩, ⟨5, [], pt d2⟩, ⟨10, [], .int .i64 (((usedM Mx) : Nat) : Int)⟩, ⟨25, [], .slice ao ops.length co⟩, ⟨26, [], .int .i64 ((ops.length : Nat) : Int)⟩, ⟨27, [], .int .i64 ((k : Nat) : Int)⟩]) (by rw [hrw]) ?_
          refine GL_pure (E' := [⟨131, [(123, true)], .bool (decide ((((usedM (doM Mx o).2) : Nat) : Int) > (if (((usedM Mx) : Nat) : Int) > rm then (((usedM Mx) : Nat) : Int) else rm)))⟩, ⟨123, [], .bool true⟩, ⟨0, [], .int .u16 room⟩, ⟨5, [], pt d2⟩, ⟨25, [], .slice ao ops.length co⟩, ⟨26, [], .int .i64 ((ops.length : Nat) : Int)⟩, ⟨27, [], .int .i64 ((k : Nat) : Int)⟩]) [0, 0, 0] (by kernel_rfl) (j := 14) rfl ?_
          refine GL_env (E' := [⟨131, [(123, true)], .bool false⟩, ⟨123, [], .bool true⟩, ⟨0, [], .int .u16 room⟩, ⟨5, [], pt d2⟩, ⟨25, [], .slice ao ops.length co⟩, ⟨26, [], .int .i64 ((ops.length : Nat) : Int)⟩, ⟨27, [], .int .i64 ((k : Nat) : Int)⟩]) (by rw [show decide ((((usedM (doM Mx o).2) : Nat) : Int) > if (((usedM Mx) : Nat) : Int) > rm then (((usedM Mx) : Nat) : Int) else rm) = false from decide_eq_false (by split <;> omega)]) ?_
          refine GL_fin (E' := [⟨0, [], .int .u16 room⟩, ⟨5, [], pt d2⟩, ⟨25, [], .slice ao ops.length co⟩, ⟨26, [], .int .i64 ((ops.length : Nat) : Int)⟩, ⟨27, [], .int .i64 ((k : Nat) : Int)⟩, ⟨132, [], .bool false⟩]) [2] [0, 5, 25, 26, 27, 132] rfl (by kernel_rfl) ?_
          refine N_then ?_
          refine G_condf (by kernel_rfl) ?_
          refine G_skip ?_
          refine N_block ?_
          refine N_then ?_
          have hw23 : IntKind.wrap .i64 (((k : Nat) : Int) + 1) = ((k : Nat) : Int) + 1 := w64 (by omega) (by omega)
          refine G_pure (E' := [⟨0, [], .int .u16 room⟩, ⟨5, [], pt d2⟩, ⟨25, [], .slice ao ops.length co⟩, ⟨26, [], .int .i64 ((ops.length : Nat) : Int)⟩, ⟨27, [], .int .i64 (((k : Nat) : Int) + 1)⟩]) [0, 0] [0, 5, 25, 26, 27] rfl (Eq.trans (b := some [⟨0, [], .int .u16 room⟩, ⟨5, [], pt d2⟩, ⟨25, [], .slice ao ops.length co⟩, ⟨26, [], .int .i64 ((ops.length : Nat) : Int)⟩, ⟨27, [], .int .i64 (IntKind.wrap .i64 (((k : Nat) : Int) + 1))⟩]) (by kernel_rfl) (by simp only [hw23])) ?_
          refine N_heap (H' := (s5.G d2 (doM Mx o).2 ++ (G ++ H))) (fun w h => (((h.erase 2).erase 1).erase 0)) ?_
          refine N_round (s' := (k + 1, s5, (doM Mx o).2)) [0, 5, 25, 26, 27] (by kernel_rfl) rfl ⟨(by omega), (by omega), hs5, hc2, hro2, hrm2⟩ (by omega)
      ·
        have hlt : kindU o < 6 := by simpa [kindU] using hc20
        rw [← try_do hlt] at hc2 hM2 hro2 hrm2 hud
        refine G_seq ?_
        refine G_region ?_
        refine GL_pure (E' := [⟨83, [], pt d2⟩, ⟨0, [], .int .u16 room⟩, ⟨5, [], pt d2⟩, ⟨7, [], pt b4⟩, ⟨8, [], .string (dirB o.path)⟩, ⟨10, [], .int .i64 (((usedM Mx) : Nat) : Int)⟩, ⟨11, [], .slice la9 L8.length lc10⟩, ⟨12, [], .slice ra16 rb14.size rc17⟩, ⟨13, [], .int .i64 re15⟩, ⟨25, [], .slice ao ops.length co⟩, ⟨26, [], .int .i64 ((ops.length : Nat) : Int)⟩, ⟨27, [], .int .i64 ((k : Nat) : Int)⟩]) [0] (by kernel_rfl) (j := 1) rfl ?_
        refine GL_loadA (i := 1) (ch := []) (b := b4) (off := 0) (l := [.int .i64 o.kind, .string o.path, .string o.to, .slice o.ba o.b.size o.bc, .int .i64 o.n, .slice o.ka o.k.length o.kc]) rfl rfl (by kernel_rfl) (by kernel_rfl) (by kernel_rfl) (by kernel_rfl) (by kernel_rfl) (by kernel_rfl) (At.grp 2 0 rfl rfl) (by kernel_rfl) ?_
        refine GL_call (i := 2) (ch := []) (f := 20) (fst := #[]) (caps := #[]) (vs := [pt d2, .agg #[.int .i64 o.kind, .string o.path, .string o.to, .slice o.ba o.b.size o.bc, .int .i64 o.n, .slice o.ka o.k.length o.kc]]) rfl rfl rfl (by kernel_rfl) (by kernel_rfl) Try.func20 rfl rfl (by kernel_rfl) (by kernel_rfl) (chSure_of (by kernel_rfl)) (dTry hsx (hM1).small d2 So o hb [g18, g11, [(b4, .cells #[.int .i64 o.kind, .string o.path, .string o.to, .slice o.ba o.b.size o.bc, .int .i64 o.n, .slice o.ka o.k.length o.kc] 41 (0, 0))]] _ (G ++ H) hO) ?_
        rintro v H' ⟨rfl, s7, g24, hs7, rfl⟩
        refine GL_fin (E' := [⟨0, [], .int .u16 room⟩, ⟨5, [], pt d2⟩, ⟨7, [], pt b4⟩, ⟨8, [], .string (dirB o.path)⟩, ⟨10, [], .int .i64 (((usedM Mx) : Nat) : Int)⟩, ⟨11, [], .slice la9 L8.length lc10⟩, ⟨12, [], .slice ra16 rb14.size rc17⟩, ⟨13, [], .int .i64 re15⟩, ⟨25, [], .slice ao ops.length co⟩, ⟨26, [], .int .i64 ((ops.length : Nat) : Int)⟩, ⟨27, [], .int .i64 ((k : Nat) : Int)⟩, ⟨86, [], .bool (((tryM Mx o).1) != 0)⟩]) [0] [0, 5, 7, 8, 10, 11, 12, 13, 25, 26, 27, 86] rfl (by kernel_rfl) ?_
        refine N_then ?_
        refine G_cond (b := ((tryM Mx o).1) != 0) (by kernel_rfl) (fun hc25 => ?_) (fun hc25 => ?_)
        ·
          -- L err
          obtain ⟨rr, hrr⟩ := try_err (bne_iff_ne.1 hc25)
          refine G_seq ?_
          refine G_region ?_
          refine GL_pure (E' := [⟨89, [], .pointer (some ⟨b4, 1, none⟩)⟩, ⟨88, [], pt d2⟩, ⟨0, [], .int .u16 room⟩, ⟨5, [], pt d2⟩, ⟨7, [], pt b4⟩, ⟨8, [], .string (dirB o.path)⟩, ⟨10, [], .int .i64 (((usedM Mx) : Nat) : Int)⟩, ⟨11, [], .slice la9 L8.length lc10⟩, ⟨12, [], .slice ra16 rb14.size rc17⟩, ⟨13, [], .int .i64 re15⟩, ⟨25, [], .slice ao ops.length co⟩, ⟨26, [], .int .i64 ((ops.length : Nat) : Int)⟩, ⟨27, [], .int .i64 ((k : Nat) : Int)⟩]) [0, 0] (by kernel_rfl) (j := 2) rfl ?_
          refine GL_load (i := 2) (ch := []) (b := b4) (off := 1) (v := .string o.path) rfl rfl (by kernel_rfl) (by kernel_rfl) (by kernel_rfl) (by kernel_rfl) (by kernel_rfl) (At.grp 3 0 rfl rfl) rfl ?_
          refine GL_call (i := 3) (ch := []) (f := 19) (fst := #[]) (caps := #[]) (vs := [pt d2, .string o.path]) rfl rfl rfl (by kernel_rfl) (by kernel_rfl) Try.func19 rfl rfl (by kernel_rfl) (by kernel_rfl) (chSure_of (by kernel_rfl)) (dReadO hs7 (fun B hB => ((hM2).small.size B hB).1) d2 o.path [g24, g18, g11, [(b4, .cells #[.int .i64 o.kind, .string o.path, .string o.to, .slice o.ba o.b.size o.bc, .int .i64 o.n, .slice o.ka o.k.length o.kc] 41 (0, 0))]] _ (G ++ H) (show readM (tryM Mx o).2 o.path = (rb14, re15) from by rw [hrr]; exact hrb14)) ?_
          rintro v H' ⟨ra26, rc27, g28, rfl, hO29, rfl⟩
          refine GL_fin (E' := [⟨0, [], .int .u16 room⟩, ⟨5, [], pt d2⟩, ⟨7, [], pt b4⟩, ⟨8, [], .string (dirB o.path)⟩, ⟨10, [], .int .i64 (((usedM Mx) : Nat) : Int)⟩, ⟨11, [], .slice la9 L8.length lc10⟩, ⟨12, [], .slice ra16 rb14.size rc17⟩, ⟨13, [], .int .i64 re15⟩, ⟨14, [], .slice ra26 rb14.size rc27⟩, ⟨15, [], .int .i64 re15⟩, ⟨25, [], .slice ao ops.length co⟩, ⟨26, [], .int .i64 ((ops.length : Nat) : Int)⟩, ⟨27, [], .int .i64 ((k : Nat) : Int)⟩]) [0, 0, 0, 0, 0] [0, 5, 7, 8, 10, 11, 12, 13, 14, 15, 25, 26, 27] rfl (by kernel_rfl) ?_
          refine N_then ?_
          refine G_seq ?_
          refine G_region ?_
          refine GL_pure (E' := [⟨94, [], pt d2⟩, ⟨0, [], .int .u16 room⟩, ⟨5, [], pt d2⟩, ⟨7, [], pt b4⟩, ⟨8, [], .string (dirB o.path)⟩, ⟨10, [], .int .i64 (((usedM Mx) : Nat) : Int)⟩, ⟨11, [], .slice la9 L8.length lc10⟩, ⟨12, [], .slice ra16 rb14.size rc17⟩, ⟨13, [], .int .i64 re15⟩, ⟨14, [], .slice ra26 rb14.size rc27⟩, ⟨15, [], .int .i64 re15⟩, ⟨25, [], .slice ao ops.length co⟩, ⟨26, [], .int .i64 ((ops.length : Nat) : Int)⟩, ⟨27, [], .int .i64 ((k : Nat) : Int)⟩]) [0] (by kernel_rfl) (j := 1) rfl ?_
          refine GL_call (i := 1) (ch := []) (f := 26) (fst := #[]) (caps := #[]) (vs := [pt d2]) rfl rfl rfl (by kernel_rfl) (by kernel_rfl) Try.func26 rfl rfl (by kernel_rfl) (by kernel_rfl) (chSure_of (by kernel_rfl)) (dUsed hs7 (hM2).small d2 [g28, g24, g18, g11, [(b4, .cells #[.int .i64 o.kind, .string o.path, .string o.to, .slice o.ba o.b.size o.bc, .int .i64 o.n, .slice o.ka o.k.length o.kc] 41 (0, 0))]] _ (G ++ H) (show usedM (tryM Mx o).2 = usedM Mx from by (rw [hrr]; try rfl))) ?_
          rintro v H' ⟨rfl, rfl⟩
          refine GL_pure (E' := [⟨97, [], .bool ((((usedM Mx) : Nat) : Int) != (((usedM Mx) : Nat) : Int))⟩, ⟨0, [], .int .u16 room⟩, ⟨5, [], pt d2⟩, ⟨7, [], pt b4⟩, ⟨8, [], .string (dirB o.path)⟩, ⟨10, [], .int .i64 (((usedM Mx) : Nat) : Int)⟩, ⟨11, [], .slice la9 L8.length lc10⟩, ⟨12, [], .slice ra16 rb14.size rc17⟩, ⟨13, [], .int .i64 re15⟩, ⟨14, [], .slice ra26 rb14.size rc27⟩, ⟨15, [], .int .i64 re15⟩, ⟨25, [], .slice ao ops.length co⟩, ⟨26, [], .int .i64 ((ops.length : Nat) : Int)⟩, ⟨27, [], .int .i64 ((k : Nat) : Int)⟩]) [0, 0] (by kernel_rfl) (j := 4) rfl ?_
          refine GL_env (E' := [⟨97, [], .bool false⟩, ⟨0, [], .int .u16 room⟩, ⟨5, [], pt d2⟩, ⟨7, [], pt b4⟩, ⟨8, [], .string (dirB o.path)⟩, ⟨10, [], .int .i64 (((usedM Mx) : Nat) : Int)⟩, ⟨11, [], .slice la9 L8.length lc10⟩, ⟨12, [], .slice ra16 rb14.size rc17⟩, ⟨13, [], .int .i64 re15⟩, ⟨14, [], .slice ra26 rb14.size rc27⟩, ⟨15, [], .int .i64 re15⟩, ⟨25, [], .slice ao ops.length co⟩, ⟨26, [], .int .i64 ((ops.length : Nat) : Int)⟩, ⟨27, [], .int .i64 ((k : Nat) : Int)⟩]) (by rw [bne_self_eq_false]) ?_
          refine GL_pure (E' := [⟨100, [(98, false)], .string (dirB o.path)⟩, ⟨99, [(98, false)], pt d2⟩, ⟨98, [], .bool false⟩, ⟨0, [], .int .u16 room⟩, ⟨5, [], pt d2⟩, ⟨7, [], pt b4⟩, ⟨10, [], .int .i64 (((usedM Mx) : Nat) : Int)⟩, ⟨11, [], .slice la9 L8.length lc10⟩, ⟨12, [], .slice ra16 rb14.size rc17⟩, ⟨13, [], .int .i64 re15⟩, ⟨14, [], .slice ra26 rb14.size rc27⟩, ⟨15, [], .int .i64 re15⟩, ⟨25, [], .slice ao ops.length co⟩, ⟨26, [], .int .i64 ((ops.length : Nat) : Int)⟩, ⟨27, [], .int .i64 ((k : Nat) : Int)⟩]) [0, 0, 0] (by kernel_rfl) (j := 7) rfl ?_
          refine GL_call (i := 7) (ch := [(98, false)]) (f := 21) (fst := #[]) (caps := #[]) (vs := [pt d2, .string (dirB o.path)]) rfl rfl rfl (by kernel_rfl) (by kernel_rfl) Try.func21 rfl rfl (by kernel_rfl) (by kernel_rfl) (chSure_of (by kernel_rfl)) (dList hs7 (hM2).small d2 (dirB o.path) [g28, g24, g18, g11, [(b4, .cells #[.int .i64 o.kind, .string o.path, .string o.to, .slice o.ba o.b.size o.bc, .int .i64 o.n, .slice o.ka o.k.length o.kc] 41 (0, 0))]] _ (G ++ H) (show listM (tryM Mx o).2 (dirB o.path) = L8 from by rw [hrr]; exact hL8)) ?_
          rintro v H' ⟨la30, lc31, g32, rfl, hlc33, hrd34, rfl⟩
          refine GL_pure (E' := [⟨102, [(98, false)], .slice la9 L8.length lc10⟩, ⟨101, [(98, false)], .slice la30 L8.length lc31⟩, ⟨98, [], .bool false⟩, ⟨0, [], .int .u16 room⟩, ⟨5, [], pt d2⟩, ⟨7, [], pt b4⟩, ⟨10, [], .int .i64 (((usedM Mx) : Nat) : Int)⟩, ⟨12, [], .slice ra16 rb14.size rc17⟩, ⟨13, [], .int .i64 re15⟩, ⟨14, [], .slice ra26 rb14.size rc27⟩, ⟨15, [], .int .i64 re15⟩, ⟨25, [], .slice ao ops.length co⟩, ⟨26, [], .int .i64 ((ops.length : Nat) : Int)⟩, ⟨27, [], .int .i64 ((k : Nat) : Int)⟩]) [0] (by kernel_rfl) (j := 9) rfl ?_
          refine GL_call (i := 9) (ch := [(98, false)]) (f := 29) (fst := #[]) (caps := #[]) (vs := [.slice la30 L8.length lc31, .slice la9 L8.length lc10]) rfl rfl rfl (by kernel_rfl) (by kernel_rfl) Try.func29 rfl rfl (by kernel_rfl) (by kernel_rfl) (chSure_of (by kernel_rfl)) (vSame la30 la9 lc31 lc10 (inG g32) (inG g11) L8 hlL8 hrd34 hrd13 _ _ (at_inG 0 rfl) (at_inG 4 rfl)) ?_
          rintro v H' ⟨rfl, rfl⟩
          refine GL_pure (E' := [⟨109, [(106, false)], .bool (re15 != re15)⟩, ⟨106, [], .bool false⟩, ⟨0, [], .int .u16 room⟩, ⟨5, [], pt d2⟩, ⟨7, [], pt b4⟩, ⟨10, [], .int .i64 (((usedM Mx) : Nat) : Int)⟩, ⟨12, [], .slice ra16 rb14.size rc17⟩, ⟨14, [], .slice ra26 rb14.size rc27⟩, ⟨25, [], .slice ao ops.length co⟩, ⟨26, [], .int .i64 ((ops.length : Nat) : Int)⟩, ⟨27, [], .int .i64 ((k : Nat) : Int)⟩]) [0, 3, 0, 0, 0, 0] (by kernel_rfl) (j := 16) rfl ?_
          refine GL_env (E' := [⟨109, [(106, false)], .bool false⟩, ⟨106, [], .bool false⟩, ⟨0, [], .int .u16 room⟩, ⟨5, [], pt d2⟩, ⟨7, [], pt b4⟩, ⟨10, [], .int .i64 (((usedM Mx) : Nat) : Int)⟩, ⟨12, [], .slice ra16 rb14.size rc17⟩, ⟨14, [], .slice ra26 rb14.size rc27⟩, ⟨25, [], .slice ao ops.length co⟩, ⟨26, [], .int .i64 ((ops.length : Nat) : Int)⟩, ⟨27, [], .int .i64 ((k : Nat) : Int)⟩]) (by rw [bne_self_eq_false]) ?_
          refine GL_pure (E' := [⟨112, [(111, false)], .slice ra16 rb14.size rc17⟩, ⟨111, [], .bool false⟩, ⟨0, [], .int .u16 room⟩, ⟨5, [], pt d2⟩, ⟨7, [], pt b4⟩, ⟨10, [], .int .i64 (((usedM Mx) : Nat) : Int)⟩, ⟨14, [], .slice ra26 rb14.size rc27⟩, ⟨25, [], .slice ao ops.length co⟩, ⟨26, [], .int .i64 ((ops.length : Nat) : Int)⟩, ⟨27, [], .int .i64 ((k : Nat) : Int)⟩]) [3, 0, 0] (by kernel_rfl) (j := 19) rfl ?_
          refine GL_bytesB (i := 19) (ch := [(111, false)]) (a := ra16) (cap := rc17) (e := 5) (S := (inG g18)) rb14 rfl rfl (by kernel_rfl) (by kernel_rfl) (by kernel_rfl) (by kernel_rfl) (by kernel_rfl) (by kernel_rfl) (by kernel_rfl) (own_rd hO19) (at_inG 3 rfl) ?_
          refine GL_pure (E' := [⟨114, [(111, false)], .slice ra26 rb14.size rc27⟩, ⟨113, [(111, false)], .string rb14⟩, ⟨111, [], .bool false⟩, ⟨0, [], .int .u16 room⟩, ⟨5, [], pt d2⟩, ⟨7, [], pt b4⟩, ⟨10, [], .int .i64 (((usedM Mx) : Nat) : Int)⟩, ⟨25, [], .slice ao ops.length co⟩, ⟨26, [], .int .i64 ((ops.length : Nat) : Int)⟩, ⟨27, [], .int .i64 ((k : Nat) : Int)⟩]) [0] (by kernel_rfl) (j := 21) rfl ?_
          refine GL_bytesB (i := 21) (ch := [(111, false)]) (a := ra26) (cap := rc27) (e := 5) (S := (inG g28)) rb14 rfl rfl (by kernel_rfl) (by kernel_rfl) (by kernel_rfl) (by kernel_rfl) (by kernel_rfl) (by kernel_rfl) (by kernel_rfl) (own_rd hO29) (at_inG 1 rfl) ?_
          refine GL_pure (E' := [⟨116, [(111, false)], .bool (!(rb14.toList == rb14.toList))⟩, ⟨111, [], .bool false⟩, ⟨0, [], .int .u16 room⟩, ⟨5, [], pt d2⟩, ⟨7, [], pt b4⟩, ⟨10, [], .int .i64 (((usedM Mx) : Nat) : Int)⟩, ⟨25, [], .slice ao ops.length co⟩, ⟨26, [], .int .i64 ((ops.length : Nat) : Int)⟩, ⟨27, [], .int .i64 ((k : Nat) : Int)⟩]) [0] (by kernel_rfl) (j := 23) rfl ?_
          refine GL_env (E' := [⟨116, [(111, false)], .bool false⟩, ⟨111, [], .bool false⟩, ⟨0, [], .int .u16 room⟩, ⟨5, [], pt d2⟩, ⟨7, [], pt b4⟩, ⟨10, [], .int .i64 (((usedM Mx) : Nat) : Int)⟩, ⟨25, [], .slice ao ops.length co⟩, ⟨26, [], .int .i64 ((ops.length : Nat) : Int)⟩, ⟨27, [], .int .i64 ((k : Nat) : Int)⟩]) (by rw [beq_self_eq_true, Bool.not_true]) ?_
          refine GL_fin (E' := [⟨0, [], .int .u16 room⟩, ⟨5, [], pt d2⟩, ⟨7, [], pt b4⟩, ⟨10, [], .int .i64 (((usedM Mx) : Nat) : Int)⟩, ⟨25, [], .slice ao ops.length co⟩, ⟨26, [], .int .i64 ((ops.length : Nat) : Int)⟩, ⟨27, [], .int .i64 ((k : Nat) : Int)⟩, ⟨117, [], .bool false⟩]) [3] [0, 5, 7, 10, 25, 26, 27, 117] rfl (by kernel_rfl) ?_
          refine N_then ?_
          refine G_condf (by kernel_rfl) ?_
          refine G_skip ?_
          refine N_then ?_
          refine G_seq ?_
          by_cases h7 : kindU o = 7
          ·
            refine G_region ?_
            refine GL_pure (E' := [⟨118, [], pt b4⟩, ⟨0, [], .int .u16 room⟩, ⟨5, [], pt d2⟩, ⟨10, [], .int .i64 (((usedM Mx) : Nat) : Int)⟩, ⟨25, [], .slice ao ops.length co⟩, ⟨26, [], .int .i64 ((ops.length : Nat) : Int)⟩, ⟨27, [], .int .i64 ((k : Nat) : Int)⟩]) [0] (by kernel_rfl) (j := 1) rfl ?_
            refine GL_load (i := 1) (ch := []) (b := b4) (off := 0) (v := .int .i64 o.kind) rfl rfl (by kernel_rfl) (by kernel_rfl) (by kernel_rfl) (by kernel_rfl) (by kernel_rfl) (At.grp 5 0 rfl rfl) rfl ?_
            refine GL_pure (E' := [⟨122, [], .bool ((Int.tmod (IntKind.wrap .u64 o.kind) 8) != 7)⟩, ⟨0, [], .int .u16 room⟩, ⟨5, [], pt d2⟩, ⟨10, [], .int .i64 (((usedM Mx) : Nat) : Int)⟩, ⟨25, [], .slice ao ops.length co⟩, ⟨26, [], .int .i64 ((ops.length : Nat) : Int)⟩, ⟨27, [], .int .i64 ((k : Nat) : Int)⟩]) [0, 0, 0] (by kernel_rfl) (j := 5) rfl ?_
            refine GL_env (E' := [⟨122, [], .bool false⟩, ⟨0, [], .int .u16 room⟩, ⟨5, [], pt d2⟩, ⟨10, [], .int .i64 (((usedM Mx) : Nat) : Int)⟩, ⟨25, [], .slice ao ops.length co⟩, ⟨26, [], .int .i64 ((ops.length : Nat) : Int)⟩, ⟨27, [], .int .i64 ((k : Nat) : Int)⟩]) (by rw [show Int.tmod (IntKind.wrap .u64 o.kind) 8 = 7 from h7]; rfl) ?_
            refine GL_fin (E' := [⟨0, [], .int .u16 room⟩, ⟨5, [], pt d2⟩, ⟨25, [], .slice ao ops.length co⟩, ⟨26, [], .int .i64 ((ops.length : Nat) : Int)⟩, ⟨27, [], .int .i64 ((k : Nat) : Int)⟩, ⟨132, [], .bool false⟩]) [0, 1, 1, 1, 1, 1, 1, 1, 1, 3] [0, 5, 25, 26, 27, 132] rfl (by kernel_rfl) ?_
            refine N_then ?_
            refine G_condf (by kernel_rfl) ?_
            refine G_skip ?_
            refine N_block ?_
            refine N_then ?_
            have hw35 : IntKind.wrap .i64 (((k : Nat) : Int) + 1) = ((k : Nat) : Int) + 1 := w64 (by omega) (by omega)
            refine G_pure (E' := [⟨0, [], .int .u16 room⟩, ⟨5, [], pt d2⟩, ⟨25, [], .slice ao ops.length co⟩, ⟨26, [], .int .i64 ((ops.length : Nat) : Int)⟩, ⟨27, [], .int .i64 (((k : Nat) : Int) + 1)⟩]) [0, 0] [0, 5, 25, 26, 27] rfl (Eq.trans (b := some [⟨0, [], .int .u16 room⟩, ⟨5, [], pt d2⟩, ⟨25, [], .slice ao ops.length co⟩, ⟨26, [], .int .i64 ((ops.length : Nat) : Int)⟩, ⟨27, [], .int .i64 (IntKind.wrap .i64 (((k : Nat) : Int) + 1))⟩]) (by kernel_rfl) (by simp only [hw35])) ?_
            refine N_heap (H' := (s7.G d2 (tryM Mx o).2 ++ (G ++ H))) (fun w h => ((((((h.erase 5).erase 4).erase 3).erase 2).erase 1).erase 0)) ?_
            refine N_round (s' := (k + 1, s7, (tryM Mx o).2)) [0, 5, 25, 26, 27] (by kernel_rfl) rfl ⟨(by omega), (by omega), hs7, hc2, hro2, hrm2⟩ (by omega)
          ·
            have hud7 := hud h7
            rw [hrr] at hud7
            have hus : usedM (callM Mx rr) = usedM Mx := rfl
            refine G_region ?_
            refine GL_pure (E' := [⟨118, [], pt b4⟩, ⟨0, [], .int .u16 room⟩, ⟨5, [], pt d2⟩, ⟨10, [], .int .i64 (((usedM Mx) : Nat) : Int)⟩, ⟨25, [], .slice ao ops.length co⟩, ⟨26, [], .int .i64 ((ops.length : Nat) : Int)⟩, ⟨27, [], .int .i64 ((k : Nat) : Int)⟩]) [0] (by kernel_rfl) (j := 1) rfl ?_
            refine GL_load (i := 1) (ch := []) (b := b4) (off := 0) (v := .int .i64 o.kind) rfl rfl (by kernel_rfl) (by kernel_rfl) (by kernel_rfl) (by kernel_rfl) (by kernel_rfl) (At.grp 5 0 rfl rfl) rfl ?_
            refine GL_pure (E' := [⟨122, [], .bool ((Int.tmod (IntKind.wrap .u64 o.kind) 8) != 7)⟩, ⟨0, [], .int .u16 room⟩, ⟨5, [], pt d2⟩, ⟨10, [], .int .i64 (((usedM Mx) : Nat) : Int)⟩, ⟨25, [], .slice ao ops.length co⟩, ⟨26, [], .int .i64 ((ops.length : Nat) : Int)⟩, ⟨27, [], .int .i64 ((k : Nat) : Int)⟩]) [0, 0, 0] (by kernel_rfl) (j := 5) rfl ?_
            refine GL_env (E' := [⟨122, [], .bool true⟩, ⟨0, [], .int .u16 room⟩, ⟨5, [], pt d2⟩, ⟨10, [], .int .i64 (((usedM Mx) : Nat) : Int)⟩, ⟨25, [], .slice ao ops.length co⟩, ⟨26, [], .int .i64 ((ops.length : Nat) : Int)⟩, ⟨27, [], .int .i64 ((k : Nat) : Int)⟩]) (by rw [show (Int.tmod (IntKind.wrap .u64 o.kind) 8 != 7) = true from bne_iff_ne.2 h7]) ?_
            refine GL_pure (E' := [⟨124, [(123, true)], pt d2⟩, ⟨123, [], .bool true⟩, ⟨0, [], .int .u16 room⟩, ⟨5, [], pt d2⟩, ⟨10, [], .int .i64 (((usedM Mx) : Nat) : Int)⟩, ⟨25, [], .slice ao ops.length co⟩, ⟨26, [], .int .i64 ((ops.length : Nat) : Int)⟩, ⟨27, [], .int .i64 ((k : Nat) : Int)⟩]) [0, 0] (by kernel_rfl) (j := 7) rfl ?_
            refine GL_call (i := 7) (ch := [(123, true)]) (f := 26) (fst := #[]) (caps := #[]) (vs := [pt d2]) rfl rfl rfl (by kernel_rfl) (by kernel_rfl) Try.func26 rfl rfl (by kernel_rfl) (by kernel_rfl) (chSure_of (by kernel_rfl)) (dUsed hs7 (hM2).small d2 [g32, g28, g24, g18, g11, [(b4, .cells #[.int .i64 o.kind, .string o.path, .string o.to, .slice o.ba o.b.size o.bc, .int .i64 o.n, .slice o.ka o.k.length o.kc] 41 (0, 0))]] _ (G ++ H) (show usedM (tryM Mx o).2 = usedM Mx from by (rw [hrr]; try rfl))) ?_
            rintro v H' ⟨rfl, rfl⟩
            refine GL_pure (E' := [⟨128, [(123, true)], .int .i64 (IntKind.wrap .i64 (Int.tmod room 200))⟩, ⟨125, [(123, true)], .int .i64 (((usedM Mx) : Nat) : Int)⟩, ⟨123, [], .bool true⟩, ⟨0, [], .int .u16 room⟩, ⟨5, [], pt d2⟩, ⟨10, [], .int .i64 (((usedM Mx) : Nat) : Int)⟩, ⟨25, [], .slice ao ops.length co⟩, ⟨26, [], .int .i64 ((ops.length : Nat) : Int)⟩, ⟨27, [], .int .i64 ((k : Nat) : Int)⟩]) [0, 0, 0] (by kernel_rfl) (j := 11) rfl ?_
            refine GL_env (E' := [⟨128, [(123, true)], .int .i64 rm⟩, ⟨125, [(123, true)], .int .i64 (((usedM Mx) : Nat) : Int)⟩, ⟨123, [], .bool true⟩, ⟨0, [], .int .u16 room⟩, ⟨5, [], pt d2⟩, ⟨10, [], .int .i64 (((usedM Mx) : Nat) : Int)⟩, ⟨25, [], .slice ao ops.length co⟩, ⟨26, [], .int .i64 ((ops.length : Nat) : Int)⟩, ⟨27, [], .int .i64 ((k : Nat) : Int)⟩]) (by rw [hrw]) ?_
            refine GL_pure (E' := [⟨131, [(123, true)], .bool (decide ((((usedM Mx) : Nat) : Int) > (if (((usedM Mx) : Nat) : Int) > rm then (((usedM Mx) : Nat) : Int) else rm)))⟩, ⟨123, [], .bool true⟩, ⟨0, [], .int .u16 room⟩, ⟨5, [], pt d2⟩, ⟨25, [], .slice ao ops.length co⟩, ⟨26, [], .int .i64 ((ops.length : Nat) : Int)⟩, ⟨27, [], .int .i64 ((k : Nat) : Int)⟩]) [0, 0, 0] (by kernel_rfl) (j := 14) rfl ?_
            refine GL_env (E' := [⟨131, [(123, true)], .bool false⟩, ⟨123, [], .bool true⟩, ⟨0, [], .int .u16 room⟩, ⟨5, [], pt d2⟩, ⟨25, [], .slice ao ops.length co⟩, ⟨26, [], .int .i64 ((ops.length : Nat) : Int)⟩, ⟨27, [], .int .i64 ((k : Nat) : Int)⟩]) (by rw [show decide ((((usedM Mx) : Nat) : Int) > if (((usedM Mx) : Nat) : Int) > rm then (((usedM Mx) : Nat) : Int) else rm) = false from decide_eq_false (by split <;> omega)]) ?_
            refine GL_fin (E' := [⟨0, [], .int .u16 room⟩, ⟨5, [], pt d2⟩, ⟨25, [], .slice ao ops.length co⟩, ⟨26, [], .int .i64 ((ops.length : Nat) : Int)⟩, ⟨27, [], .int .i64 ((k : Nat) : Int)⟩, ⟨132, [], .bool false⟩]) [2] [0, 5, 25, 26, 27, 132] rfl (by kernel_rfl) ?_
            refine N_then ?_
            refine G_condf (by kernel_rfl) ?_
            refine G_skip ?_
            refine N_block ?_
            refine N_then ?_
            have hw36 : IntKind.wrap .i64 (((k : Nat) : Int) + 1) = ((k : Nat) : Int) + 1 := w64 (by omega) (by omega)
            refine G_pure (E' := [⟨0, [], .int .u16 room⟩, ⟨5, [], pt d2⟩, ⟨25, [], .slice ao ops.length co⟩, ⟨26, [], .int .i64 ((ops.length : Nat) : Int)⟩, ⟨27, [], .int .i64 (((k : Nat) : Int) + 1)⟩]) [0, 0] [0, 5, 25, 26, 27] rfl (Eq.trans (b := some [⟨0, [], .int .u16 room⟩, ⟨5, [], pt d2⟩, ⟨25, [], .slice ao ops.length co⟩, ⟨26, [], .int .i64 ((ops.length : Nat) : Int)⟩, ⟨27, [], .int .i64 (IntKind.wrap .i64 (((k : Nat) : Int) + 1))⟩]) (by kernel_rfl) (by simp only [hw36])) ?_
            refine N_heap (H' := (s7.G d2 (tryM Mx o).2 ++ (G ++ H))) (fun w h => ((((((h.erase 5).erase 4).erase 3).erase 2).erase 1).erase 0)) ?_
            refine N_round (s' := (k + 1, s7, (tryM Mx o).2)) [0, 5, 25, 26, 27] (by kernel_rfl) rfl ⟨(by omega), (by omega), hs7, hc2, hro2, hrm2⟩ (by omega)
        ·
          skip
          refine G_skip ?_
          refine N_then ?_
          refine G_seq ?_
          by_cases h7 : kindU o = 7
          ·
            refine G_region ?_
            refine GL_pure (E' := [⟨118, [], pt b4⟩, ⟨0, [], .int .u16 room⟩, ⟨5, [], pt d2⟩, ⟨10, [], .int .i64 (((usedM Mx) : Nat) : Int)⟩, ⟨25, [], .slice ao ops.length co⟩, ⟨26, [], .int .i64 ((ops.length : Nat) : Int)⟩, ⟨27, [], .int .i64 ((k : Nat) : Int)⟩]) [0] (by kernel_rfl) (j := 1) rfl ?_
            refine GL_load (i := 1) (ch := []) (b := b4) (off := 0) (v := .int .i64 o.kind) rfl rfl (by kernel_rfl) (by kernel_rfl) (by kernel_rfl) (by kernel_rfl) (by kernel_rfl) (At.grp 3 0 rfl rfl) rfl ?_
            refine GL_pure (E' := [⟨122, [], .bool ((Int.tmod (IntKind.wrap .u64 o.kind) 8) != 7)⟩, ⟨0, [], .int .u16 room⟩, ⟨5, [], pt d2⟩, ⟨10, [], .int .i64 (((usedM Mx) : Nat) : Int)⟩, ⟨25, [], .slice ao ops.length co⟩, ⟨26, [], .int .i64 ((ops.length : Nat) : Int)⟩, ⟨27, [], .int .i64 ((k : Nat) : Int)⟩]) [0, 0, 0] (by kernel_rfl) (j := 5) rfl ?_
            refine GL_env (E' := [⟨122, [], .bool false⟩, ⟨0, [], .int .u16 room⟩, ⟨5, [], pt d2⟩, ⟨10, [], .int .i64 (((usedM Mx) : Nat) : Int)⟩, ⟨25, [], .slice ao ops.length co⟩, ⟨26, [], .int .i64 ((ops.length : Nat) : Int)⟩, ⟨27, [], .int .i64 ((k : Nat) : Int)⟩]) (by rw [show Int.tmod (IntKind.wrap .u64 o.kind) 8 = 7 from h7]; rfl) ?_
            refine GL_fin (E' := [⟨0, [], .int .u16 room⟩, ⟨5, [], pt d2⟩, ⟨25, [], .slice ao ops.length co⟩, ⟨26, [], .int .i64 ((ops.length : Nat) : Int)⟩, ⟨27, [], .int .i64 ((k : Nat) : Int)⟩, ⟨132, [], .bool false⟩]) [0, 1, 1, 1, 1, 1, 1, 1, 1, 3] [0, 5, 25, 26, 27, 132] rfl (by kernel_rfl) ?_
            refine N_then ?_
            refine G_condf (by kernel_rfl) ?_
            refine G_skip ?_
            refine N_block ?_
            refine N_then ?_
            have hw37 : IntKind.wrap .i64 (((k : Nat) : Int) + 1) = ((k : Nat) : Int) + 1 := w64 (by omega) (by omega)
            refine G_pure (E' := [⟨0, [], .int .u16 room⟩, ⟨5, [], pt d2⟩, ⟨25, [], .slice ao ops.length co⟩, ⟨26, [], .int .i64 ((ops.length : Nat) : Int)⟩, ⟨27, [], .int .i64 (((k : Nat) : Int) + 1)⟩]) [0, 0] [0, 5, 25, 26, 27] rfl (Eq.trans (b := some [⟨0, [], .int .u16 room⟩, ⟨5, [], pt d2⟩, ⟨25, [], .slice ao ops.length co⟩, ⟨26, [], .int .i64 ((ops.length : Nat) : Int)⟩, ⟨27, [], .int .i64 (IntKind.wrap .i64 (((k : Nat) : Int) + 1))⟩]) (by kernel_rfl) (by simp only [hw37])) ?_
            refine N_heap (H' := (s7.G d2 (tryM Mx o).2 ++ (G ++ H))) (fun w h => ((((h.erase 3).erase 2).erase 1).erase 0)) ?_
            refine N_round (s' := (k + 1, s7, (tryM Mx o).2)) [0, 5, 25, 26, 27] (by kernel_rfl) rfl ⟨(by omega), (by omega), hs7, hc2, hro2, hrm2⟩ (by omega)
          ·
            have hud7 := hud h7
            refine G_region ?_
            refine GL_pure (E' := [⟨118, [], pt b4⟩, ⟨0, [], .int .u16 room⟩, ⟨5, [], pt d2⟩, ⟨10, [], .int .i64 (((usedM Mx) : Nat) : Int)⟩, ⟨25, [], .slice ao ops.length co⟩, ⟨26, [], .int .i64 ((ops.length : Nat) : Int)⟩, ⟨27, [], .int .i64 ((k : Nat) : Int)⟩]) [0] (by kernel_rfl) (j := 1) rfl ?_
            refine GL_load (i := 1) (ch := []) (b := b4) (off := 0) (v := .int .i64 o.kind) rfl rfl (by kernel_rfl) (by kernel_rfl) (by kernel_rfl) (by kernel_rfl) (by kernel_rfl) (At.grp 3 0 rfl rfl) rfl ?_
            refine GL_pure (E' := [⟨122, [], .bool ((Int.tmod (IntKind.wrap .u64 o.kind) 8) != 7)⟩, ⟨0, [], .int .u16 room⟩, ⟨5, [], pt d2⟩, ⟨10, [], .int .i64 (((usedM Mx) : Nat) : Int)⟩, ⟨25, [], .slice ao ops.length co⟩, ⟨26, [], .int .i64 ((ops.length : Nat) : Int)⟩, ⟨27, [], .int .i64 ((k : Nat) : Int)⟩]) [0, 0, 0] (by kernel_rfl) (j := 5) rfl ?_
            refine GL_env (E' := [⟨122, [], .bool true⟩, ⟨0, [], .int .u16 room⟩, ⟨5, [], pt d2⟩, ⟨10, [], .int .i64 (((usedM Mx) : Nat) : Int)⟩, ⟨25, [], .slice ao ops.length co⟩, ⟨26, [], .int .i64 ((ops.length : Nat) : Int)⟩, ⟨27, [], .int .i64 ((k : Nat) : Int)⟩]) (by rw [show (Int.tmod (IntKind.wrap .u64 o.kind) 8 != 7) = true from bne_iff_ne.2 h7]) ?_
            refine GL_pure (E' := [⟨124, [(123, true)], pt d2⟩, ⟨123, [], .bool true⟩, ⟨0, [], .int .u16 room⟩, ⟨5, [], pt d2⟩, ⟨10, [], .int .i64 (((usedM Mx) : Nat) : Int)⟩, ⟨25, [], .slice ao ops.length co⟩, ⟨26, [], .int .i64 ((ops.length : Nat) : Int)⟩, ⟨27, [], .int .i64 ((k : Nat) : Int)⟩]) [0, 0] (by kernel_rfl) (j := 7) rfl ?_
            refine GL_call (i := 7) (ch := [(123, true)]) (f := 26) (fst := #[]) (caps := #[]) (vs := [pt d2]) rfl rfl rfl (by kernel_rfl) (by kernel_rfl) Try.func26 rfl rfl (by kernel_rfl) (by kernel_rfl) (chSure_of (by kernel_rfl)) (dUsed hs7 (hM2).small d2 [g24, g18, g11, [(b4, .cells #[.int .i64 o.kind, .string o.path, .string o.to, .slice o.ba o.b.size o.bc, .int .i64 o.n, .slice o.ka o.k.length o.kc] 41 (0, 0))]] _ (G ++ H) rfl) ?_
            rintro v H' ⟨rfl, rfl⟩
            refine GL_pure (E' := [⟨128, [(123, true)], .int .i64 (IntKind.wrap .i64 (Int.tmod room 200))⟩, ⟨125, [(123, true)], .int .i64 (((usedM (tryM Mx o).2) : Nat) : Int)⟩, ⟨123, [], .bool true⟩, ⟨0, [], .int .u16 room⟩, ⟨5, [], pt d2⟩, ⟨10, [], .int .i64 (((usedM Mx) : Nat) : Int)⟩, ⟨25, [], .slice ao ops.length co⟩, ⟨26, [], .int .i64 ((ops.length : Nat) : Int)⟩, ⟨27, [], .int .i64 ((k : Nat) : Int)⟩]) [0, 0, 0] (by kernel_rfl) (j := 11) rfl ?_
            refine GL_env (E' := [⟨128, [(123, true)], .int .i64 rm⟩, ⟨125, [(123, true)], .int .i64 (((usedM (tryM Mx o).2) : Nat) : Int)⟩, ⟨123, [], .bool true⟩, ⟨0, [], .int .u16 room⟩, ⟨5, [], pt d2⟩, ⟨10, [], .int .i64 (((usedM Mx) : Nat) : Int)⟩, ⟨25, [], .slice ao ops.length co⟩, ⟨26, [], .int .i64 ((ops.length : Nat) : Int)⟩, ⟨27, [], .int .i64 ((k : Nat) : Int)⟩]) (by rw [hrw]) ?_
            refine GL_pure (E' := [⟨131, [(123, true)], .bool (decide ((((usedM (tryM Mx o).2) : Nat) : Int) > (if (((usedM Mx) : Nat) : Int) > rm then (((usedM Mx) : Nat) : Int) else rm)))⟩, ⟨123, [], .bool true⟩, ⟨0, [], .int .u16 room⟩, ⟨5, [], pt d2⟩, ⟨25, [], .slice ao ops.length co⟩, ⟨26, [], .int .i64 ((ops.length : Nat) : Int)⟩, ⟨27, [], .int .i64 ((k : Nat) : Int)⟩]) [0, 0, 0] (by kernel_rfl) (j := 14) rfl ?_
            refine GL_env (E' := [⟨131, [(123, true)], .bool false⟩, ⟨123, [], .bool true⟩, ⟨0, [], .int .u16 room⟩, ⟨5, [], pt d2⟩, ⟨25, [], .slice ao ops.length co⟩, ⟨26, [], .int .i64 ((ops.length : Nat) : Int)⟩, ⟨27, [], .int .i64 ((k : Nat) : Int)⟩]) (by rw [show decide ((((usedM (tryM Mx o).2) : Nat) : Int) > if (((usedM Mx) : Nat) : Int) > rm then (((usedM Mx) : Nat) : Int) else rm) = false from decide_eq_false (by split <;> omega)]) ?_
            refine GL_fin (E' := [⟨0, [], .int .u16 room⟩, ⟨5, [], pt d2⟩, ⟨25, [], .slice ao ops.length co⟩, ⟨26, [], .int .i64 ((ops.length : Nat) : Int)⟩, ⟨27, [], .int .i64 ((k : Nat) : Int)⟩, ⟨132, [], .bool false⟩]) [2] [0, 5, 25, 26, 27, 132] rfl (by kernel_rfl) ?_
            refine N_then ?_
            refine G_condf (by kernel_rfl) ?_
            refine G_skip ?_
            refine N_block ?_
            refine N_then ?_
            have hw38 : IntKind.wrap .i64 (((k : Nat) : Int) + 1) = ((k : Nat) : Int) + 1 := w64 (by omega) (by omega)
            refine G_pure (E' := [⟨0, [], .int .u16 room⟩, ⟨5, [], pt d2⟩, ⟨25, [], .slice ao ops.length co⟩, ⟨26, [], .int .i64 ((ops.length : Nat) : Int)⟩, ⟨27, [], .int .i64 (((k : Nat) : Int) + 1)⟩]) [0, 0] [0, 5, 25, 26, 27] rfl (Eq.trans (b := some [⟨0, [], .int .u16 room⟩, ⟨5, [], pt d2⟩, ⟨25, [], .slice ao ops.length co⟩, ⟨26, [], .int .i64 ((ops.length : Nat) : Int)⟩, ⟨27, [], .int .i64 (IntKind.wrap .i64 (((k : Nat) : Int) + 1))⟩]) (by kernel_rfl) (by simp only [hw38])) ?_
            refine N_heap (H' := (s7.G d2 (tryM Mx o).2 ++ (G ++ H))) (fun w h => ((((h.erase 3).erase 2).erase 1).erase 0)) ?_
            refine N_round (s' := (k + 1, s7, (tryM Mx o).2)) [0, 5, 25, 26, 27] (by kernel_rfl) rfl ⟨(by omega), (by omega), hs7, hc2, hro2, hrm2⟩ (by omega)
  ·
    replace hc3 := of_decide_eq_false hc3
    have hM1 := hcx.small (by omega) (by decide)
    refine G_exit ?_
    refine N_then_exit ?_
    refine N_then_exit ?_
    refine N_block_exit ?_
    refine N_then ?_
    refine G_seq ?_
    refine G_pure (E' := [⟨16, [], .pointer none⟩]) [0] [16] rfl (by kernel_rfl) ?_
    refine N_then ?_
    refine G_seq ?_
    refine G_region ?_
    refine GL_pure (E' := [⟨135, [], .pointer none⟩, ⟨16, [], .pointer none⟩]) [0] (by kernel_rfl) (j := 1) rfl ?_
    refine GL_call (i := 1) (ch := []) (f := 19) (fst := #[]) (caps := #[]) (vs := [.pointer none, .string (ByteArray.mk #[97])]) rfl rfl rfl (by kernel_rfl) (by kernel_rfl) Try.func19 rfl rfl (by kernel_rfl) (by kernel_rfl) (chSure_of (by kernel_rfl)) (nilRead _ _ _) ?_
    rintro v H' ⟨rfl, rfl⟩
    refine GL_fin (E' := [⟨16, [], .pointer none⟩, ⟨18, [], .int .i64 1⟩]) [0, 0, 0, 0, 0] [16, 18] rfl (by kernel_rfl) ?_
    refine N_then ?_
    refine G_seq ?_
    refine G_region ?_
    refine GL_pure (E' := [⟨139, [], .pointer none⟩, ⟨16, [], .pointer none⟩, ⟨18, [], .int .i64 1⟩]) [0] (by kernel_rfl) (j := 1) rfl ?_
    refine GL_call (i := 1) (ch := []) (f := 16) (fst := #[]) (caps := #[]) (vs := [.pointer none, .int .i64 1, .bool true]) rfl rfl rfl (by kernel_rfl) (by kernel_rfl) Try.func16 rfl rfl (by kernel_rfl) (by kernel_rfl) (chSure_of (by kernel_rfl)) (nilFail _ _ _ _) ?_
    rintro v H' ⟨rfl, rfl⟩
    refine GL_fin (E' := [⟨16, [], .pointer none⟩, ⟨18, [], .int .i64 1⟩]) [] [16, 18] rfl (by kernel_rfl) ?_
    refine N_then ?_
    refine G_seq ?_
    refine G_region ?_
    refine GL_pure (E' := [⟨141, [], .pointer none⟩, ⟨16, [], .pointer none⟩, ⟨18, [], .int .i64 1⟩]) [0] (by kernel_rfl) (j := 1) rfl ?_
    refine GL_buildSlice (i := 1) (ch := []) (e := 3) (l := [(0, .int .i64 1)]) (c := [.int .i64 1]) rfl rfl (by kernel_rfl) (by kernel_rfl) (by kernel_rfl) (by kernel_rfl) (by kernel_rfl) (fun b39 => ?_)
    refine GL_call (i := 2) (ch := []) (f := 18) (fst := #[]) (caps := #[]) (vs := [.pointer none, .slice (some ⟨b39, 0, none⟩) 1 1]) rfl rfl rfl (by kernel_rfl) (by kernel_rfl) Try.func18 rfl rfl (by kernel_rfl) (by kernel_rfl) (chSure_of (by kernel_rfl)) (nilCrash _ _ _ _ _) ?_
    rintro v H' ⟨rfl, rfl⟩
    refine GL_fin (E' := [⟨16, [], .pointer none⟩, ⟨18, [], .int .i64 1⟩]) [] [16, 18] rfl (by kernel_rfl) ?_
    refine N_then ?_
    refine G_seq ?_
    refine G_region ?_
    refine GL_pure (E' := [⟨147, [(146, true)], .pointer none⟩, ⟨146, [], .bool true⟩, ⟨16, [], .pointer none⟩]) [0, 0, 0, 0] (by kernel_rfl) (j := 4) rfl ?_
    refine GL_call (i := 4) (ch := [(146, true)]) (f := 26) (fst := #[]) (caps := #[]) (vs := [.pointer none]) rfl rfl rfl (by kernel_rfl) (by kernel_rfl) Try.func26 rfl rfl (by kernel_rfl) (by kernel_rfl) (chSure_of (by kernel_rfl)) (nilUsed _ _) ?_
    rintro v H' ⟨rfl, rfl⟩
    refine GL_pure (E' := [⟨152, [(151, true)], .pointer none⟩, ⟨151, [], .bool true⟩, ⟨16, [], .pointer none⟩]) [0, 2, 0, 0] (by kernel_rfl) (j := 9) rfl ?_
    refine GL_call (i := 9) (ch := [(151, true)]) (f := 21) (fst := #[]) (caps := #[]) (vs := [.pointer none, .string (ByteArray.mk #[])]) rfl rfl rfl (by kernel_rfl) (by kernel_rfl) Try.func21 rfl rfl (by kernel_rfl) (by kernel_rfl) (chSure_of (by kernel_rfl)) (nilList _ _ _) ?_
    rintro v H' ⟨rfl, rfl⟩
    refine GL_pure (E' := [⟨159, [(157, true)], .agg #[.int .i64 0, .string (ByteArray.mk #[97]), .string (ByteArray.mk #[]), .slice none 0 0, .int .i64 0, .slice none 0 0]⟩, ⟨158, [(157, true)], .pointer none⟩, ⟨157, [], .bool true⟩, ⟨16, [], .pointer none⟩]) [0, 0, 2, 0, 0, 0] (by kernel_rfl) (j := 16) rfl ?_
    refine GL_call (i := 16) (ch := [(157, true)]) (f := 20) (fst := #[]) (caps := #[]) (vs := [.pointer none, .agg #[.int .i64 0, .string (ByteArray.mk #[97]), .string (ByteArray.mk #[]), .slice none 0 0, .int .i64 0, .slice none 0 0]]) rfl rfl rfl (by kernel_rfl) (by kernel_rfl) Try.func20 rfl rfl (by kernel_rfl) (by kernel_rfl) (chSure_of (by kernel_rfl)) (nilTry _ _) ?_
    rintro v H' ⟨rfl, rfl⟩
    refine GL_pure (E' := [⟨164, [(163, true)], .pointer none⟩, ⟨163, [], .bool true⟩]) [0, 2, 0, 0] (by kernel_rfl) (j := 21) rfl ?_
    refine GL_call (i := 21) (ch := [(163, true)]) (f := 15) (fst := #[]) (caps := #[]) (vs := [.pointer none, .string (ByteArray.mk #[])]) rfl rfl rfl (by kernel_rfl) (by kernel_rfl) Try.func15 rfl rfl (by kernel_rfl) (by kernel_rfl) (chSure_of (by kernel_rfl)) (nilSyncDir _ _) ?_
    rintro v H' ⟨rfl, rfl⟩
    refine GL_fin (E' := [⟨4, [], .bool true⟩]) [0, 2, 0] [4] rfl (by kernel_rfl) ?_
    refine N_then ?_
    refine G_ret ?_
    refine N_ret [.tmp 4] [.bool true] rfl (by kernel_rfl) rfl ?_
    exact ⟨rfl, [[(b39, .cells #[.int .i64 1] 3 (0, 0))]] ++ (sx.G d2 Mx ++ G), by simp⟩
end Go.Proofs.Ytbmieiffboenbaa
namespace Go.Proofs.Ytbmieiffboenbaa
open Go Go.ChangeShapes Go.WideShapes Go.ChangeAt Go.RowKit Go.Sw Go.Vf
theorem wf_u16 {n : Int} (h : (Lit.int .u16 n).wf = true) : 0 ≤ n ∧ n < 65536 := by
  simp [Lit.wf, IntKind.min, IntKind.max, IntKind.bits, IntKind.signed] at h
  omega
theorem u16_room {H : Type} {enc : TypeId × Value → H} {W : World} {n : Int} {d : DataW H} {p : List MemPlace} (h0 : DataW.Trod enc Try.prog W 0 (fun _ => true) true 56 (.int .u16 n) d p) : 0 ≤ IntKind.wrap .i64 (Int.tmod n 200) := by
  obtain ⟨fuel, hf⟩ := h0
  obtain ⟨k, e0, _, w0⟩ := DataW.trod_int Try.underlying56 hf
  have e1 : [Value.int .u16 n] = [.int .u16 k] := e0
  injection e1 with e1 _
  injection e1 with _ e1
  subst e1
  obtain ⟨h1, h2⟩ := wf_u16 w0
  rw [Int.tmod_eq_emod_of_nonneg h1]
  have h3 := Int.emod_nonneg n (show (200 : Int) ≠ 0 by decide)
  have h4 := Int.emod_lt_of_pos n (show (0 : Int) < 200 by decide)
  rw [w64 (by omega) (by omega)]
  exact h3
set_option maxRecDepth 100000 in
theorem vfsRooms_lifted (os : Os) (started : os.Started) (H : Type) (enc : TypeId × Value → H) :
    ReturnsInHanded {} Try.checked os 8 .any (Rows.vfsRoomsSpec.pre6 enc Try.prog Try.f8 Rows.vfsRoomsRow.domain false) (Rows.vfsRoomsSpec.post enc Try.prog Try.f8 false true false false) := by
  refine returnsInHanded_of_change (C := Try.checked) ownKnob_ started (by kernel_rfl) Try.func8
    (ChangeSpec.witness6 (enc := enc) (C := Try.checked) false ⟨#[], #[.int .u16 0, .slice none 0 0], []⟩ 8 (by kernel_rfl) (by kernel_rfl) (by kernel_rfl) (by kernel_rfl)) ?_
  intro W base args ds gs before hval0 hW hcnd _
  have hval : ∀ (j : Nat) t v, Try.f8.params[j]? = some t → args[j]? = some v → Value.okWide Try.prog W .any base t v := hval0
  have hW' := hW
  obtain ⟨p, q, hA0, hV, rfl, _, _⟩ := hW
  have hA : DataW.TrodAll enc Try.prog W 0 (fun _ => true) true Try.f8.params.toList args.toList ds p := hA0
  rw [Try.params8] at hA hval
  obtain ⟨v0, v1, d0, d1, q0, q1, rfl, rfl, rfl, h0, h1⟩ := trodAll_two hA
  obtain ⟨rfl, rfl⟩ := trodVars_none hV
  obtain ⟨room, rfl⟩ := okWide_int Try.underlying56 (hval 0 56 v0 rfl rfl)
  have hrm := u16_room h0
  obtain ⟨ao, co, ops, rfl, ho1, ho2, ho3, ho4⟩ := open_script (hval 1 38 v1 rfl rfl) h1
  simp only [List.append_nil] at hW'
  have hlt : ∀ x ∈ q0 ++ q1, x.block < W.heap.size := fun x hx => by simpa using hW'.lt x hx
  refine (vfsRooms_ ao co (SW W) room _ ops W rfl hrm ho1 ho4 ho3 (fun y o h => sw_at h) [] W (sat_nil W)).mono fun e W' ⟨v, H', he, ⟨hv, G, hH⟩, hs⟩ => ?_
  subst he; subst hv; subst hH
  have hb := hs.below
  refine ⟨_, rfl, ⟨_, _, _, [], q0 ++ q1, [], hW', trodAll_mk1 (shut_bool Try.underlying4 _), ?_, rfl, hb.frame _, fun h => by cases h⟩⟩
  have k0 := Below.trod laidOut_ (by kernel_rfl) (of_decide_eq_true (by kernel_rfl)) h0 hb (fun x hx => hlt x (by simp [hx]))
  have k1 := Below.trod laidOut_ (by kernel_rfl) (of_decide_eq_true (by kernel_rfl)) h1 hb (fun x hx => hlt x (by simp [hx]))
  exact trodAll_mk2 k0 k1
theorem vfsRooms_said : Rows.VfsRoomsSaid :=
  OpenClaim.holds_of_wide 8 Try.f8 rfl rfl rfl rfl rfl rfl rfl ⟨rfl, rfl, rfl, rfl, rfl⟩ rfl rfl rfl rfl rfl (by kernel_rfl) Try.func8 (by kernel_rfl)
    (of_decide_eq_true (by kernel_rfl)) (by unfold Func.isWrapper; first | (rw [if_pos (by decide +kernel)]; kernel_rfl) | (rw [if_neg (by decide +kernel)]; exact ⟨rfl, rfl⟩))
    (fun os started H enc _ => vfsRooms_lifted os started H enc)
#print axioms vfsRooms_said
end Go.Proofs.Ytbmieiffboenbaa
