/- VfsKeeps: what is written, synced, and whose directory is synced stays, for all bytes, scripts and numbers. No condition beyond the given statement's. (and what it stands on) -/
import Derived.Test.YtbmieiffboenbaaZ6
namespace Go.Proofs.Ytbmieiffboenbaa
open Go.Sw Go.Lib Go.Vf Go.RowKit
set_option maxHeartbeats 4000000 in
theorem vfsKeeps_ (ab ao ka : Option Addr) (cb co kc : Nat) (Sb So Sk : Nat → Obj → Prop) (b : ByteArray) (ops : List OpV) (l : List Int) (W0 : World) (hA : BytesA W0 [] ab cb Sb b) (hro : Rd So ao (ops.flatMap opCells)) (hol : ops.length ≤ 9223372036854775807) (hOk : ∀ o ∈ ops, OpOk So W0 [] o) (hSo : ∀ y o, So y o → At W0 [] y o) (hK1 : Rd Sk ka (l.map (Value.int .i64))) (hK2 : l.length ≤ kc) (hK3 : ∀ x ∈ l, -9223372036854775808 ≤ x ∧ x ≤ 9223372036854775807) (hK4 : l.length ≤ 9223372036854775807) (hbl : b.size ≤ 9223372036854775807) (hSk : ∀ y o, Sk y o → At W0 [] y o) (H : List Grp) : Tri Try.prog 7 #[.slice ab b.size cb, .slice ao ops.length co, .slice ka l.length kc] W0 H (fun v H' => v = .bool true ∧ ∃ G, H' = G ++ H) := by
  refine Tri_of (args := [.slice ab b.size cb, .slice ao ops.length co, .slice ka l.length kc]) (n := 142) Try.func7 rfl rfl (Nat.le_of_ble_eq_true rfl) ?_
  refine G_seq ?_
  refine G_pure (E' := [⟨0, [], .slice ab b.size cb⟩, ⟨1, [], .slice ao ops.length co⟩, ⟨2, [], .slice ka l.length kc⟩]) [0] [0, 1, 2] rfl (by kernel_rfl) ?_
  refine N_then ?_
  refine G_seq ?_
  refine G_seq ?_
  refine G_region ?_
  refine GL_call (i := 0) (ch := []) (f := 9) (fst := #[]) (caps := #[]) (vs := []) rfl rfl rfl (by kernel_rfl) (by kernel_rfl) Try.func9 rfl rfl (by kernel_rfl) (by kernel_rfl) (chSure_of (by kernel_rfl)) (vFirst _ _) ?_
  rintro v H' ⟨rfl, G, rfl⟩
  refine GL_fin (E' := [⟨0, [], .slice ab b.size cb⟩, ⟨1, [], .slice ao ops.length co⟩, ⟨2, [], .slice ka l.length kc⟩, ⟨15, [], .bool false⟩]) [0] [0, 1, 2, 15] rfl (by kernel_rfl) ?_
  refine N_then ?_
  refine G_condf (by kernel_rfl) ?_
  refine G_skip ?_
  refine N_then ?_
  refine G_seq ?_
  refine G_seq ?_
  refine G_pure (E' := [⟨0, [], .slice ab b.size cb⟩, ⟨1, [], .slice ao ops.length co⟩, ⟨2, [], .slice ka l.length kc⟩, ⟨23, [], .bool ((decide (((b.size : Nat) : Int) > 2000)) || (decide (((l.length : Nat) : Int) > 100)))⟩]) [0, 0, 0, 0, 0, 0, 0, 5] [0, 1, 2, 23] rfl (by kernel_rfl) ?_
  refine N_then ?_
  refine G_cond (b := (decide (((b.size : Nat) : Int) > 2000)) || (decide (((l.length : Nat) : Int) > 100))) (by kernel_rfl) (fun hc1 => ?_) (fun hc1 => ?_)
  ·
    -- L big
    refine G_seq ?_
    refine G_pure (E' := [⟨6, [], .bool true⟩]) [0] [6] rfl (by kernel_rfl) ?_
    refine N_then ?_
    refine G_ret ?_
    refine N_then_ret ?_
    refine N_ret [.tmp 6] [.bool true] rfl (by kernel_rfl) rfl ?_
    exact ⟨rfl, _, rfl⟩
  ·
    simp only [Bool.or_eq_false_iff, decide_eq_false_iff_not] at hc1
    have hb2 : b.size ≤ 2000 := by omega
    have hK : KsOk Sk ⟨l, ka, kc⟩ := ⟨hK1, hK2, by (show l.length ≤ 1000000000; omega), hK3⟩
    have hN0 : SmallR (newM 0) := (scr_new 1 0).small (by decide) (by decide)
    have hc1 := scr_write (z := 2000) (scr_new 2000 1048576) pZ (b := b) hb2
    rw [write_z hb2] at hc1
    have hw1 := Scr.small hc1 (by decide) (by decide)
    have hcc2 := scr_sync hc1 pZ
    rw [sync_z] at hcc2
    have hw2 := Scr.small hcc2 (by decide) (by decide)
    refine G_skip ?_
    refine N_then ?_
    refine G_seq ?_
    refine G_region ?_
    refine GL_call (i := 0) (ch := []) (f := 12) (fst := #[]) (caps := #[]) (vs := [.int .i64 1048576]) rfl rfl rfl (by kernel_rfl) (by kernel_rfl) Try.func12 rfl rfl (by kernel_rfl) (by kernel_rfl) (chSure_of (by kernel_rfl)) (dNew 1048576 (M := (newM 1048576)) _ _ rfl) ?_
    rintro v H' ⟨d2, rfl, s1, hs1, rfl⟩
    refine GL_fin (E' := [⟨0, [], .slice ab b.size cb⟩, ⟨1, [], .slice ao ops.length co⟩, ⟨2, [], .slice ka l.length kc⟩, ⟨7, [], pt d2⟩]) [0] [0, 1, 2, 7] rfl (by kernel_rfl) ?_
    refine N_then ?_
    refine G_seq ?_
    refine G_seq ?_
    refine G_region ?_
    refine GL_pure (E' := [⟨26, [], .slice ab b.size cb⟩, ⟨25, [], pt d2⟩, ⟨0, [], .slice ab b.size cb⟩, ⟨1, [], .slice ao ops.length co⟩, ⟨2, [], .slice ka l.length kc⟩, ⟨7, [], pt d2⟩]) [0, 0] (by kernel_rfl) (j := 2) rfl ?_
    refine GL_call (i := 2) (ch := []) (f := 13) (fst := #[]) (caps := #[]) (vs := [pt d2, .string (ByteArray.mk #[122, 47, 107, 101, 112, 116]), .slice ab b.size cb]) rfl rfl rfl (by kernel_rfl) (by kernel_rfl) Try.func13 rfl rfl (by kernel_rfl) (by kernel_rfl) (chSure_of (by kernel_rfl)) (dWrite hs1 ((scr_new 2000 1048576).small (by decide) (by decide)).small d2 (ByteArray.mk #[122, 47, 107, 101, 112, 116]) b (by decide) (by omega) [] _ (G ++ H) hA.v.up (write_z hb2)) ?_
    rintro v H' ⟨rfl, s2, hs2, rfl⟩
    refine GL_pure (E' := [⟨30, [(29, false)], pt d2⟩, ⟨29, [], .bool false⟩, ⟨0, [], .slice ab b.size cb⟩, ⟨1, [], .slice ao ops.length co⟩, ⟨2, [], .slice ka l.length kc⟩, ⟨7, [], pt d2⟩]) [0, 0, 0] (by kernel_rfl) (j := 6) rfl ?_
    refine GL_call (i := 6) (ch := [(29, false)]) (f := 14) (fst := #[]) (caps := #[]) (vs := [pt d2, .string (ByteArray.mk #[122, 47, 107, 101, 112, 116])]) rfl rfl rfl (by kernel_rfl) (by kernel_rfl) Try.func14 rfl rfl (by kernel_rfl) (by kernel_rfl) (chSure_of (by kernel_rfl)) (dSync hs2 (hw1).small d2 (ByteArray.mk #[122, 47, 107, 101, 112, 116]) (by decide) [] _ (G ++ H) sync_z) ?_
    rintro v H' ⟨rfl, s3, hs3, rfl⟩
    refine GL_pure (E' := [⟨35, [(34, false)], pt d2⟩, ⟨34, [], .bool false⟩, ⟨0, [], .slice ab b.size cb⟩, ⟨1, [], .slice ao ops.length co⟩, ⟨2, [], .slice ka l.length kc⟩, ⟨7, [], pt d2⟩]) [0, 3, 0, 0] (by kernel_rfl) (j := 11) rfl ?_
    refine GL_call (i := 11) (ch := [(34, false)]) (f := 15) (fst := #[]) (caps := #[]) (vs := [pt d2, .string (ByteArray.mk #[122])]) rfl rfl rfl (by kernel_rfl) (by kernel_rfl) Try.func15 rfl rfl (by kernel_rfl) (by kernel_rfl) (chSure_of (by kernel_rfl)) (dSyncDir hs3 (hw2).small d2 (ByteArray.mk #[122]) (by decide) [] _ (G ++ H) sdir_z) ?_
    rintro v H' ⟨rfl, s4, hs4, rfl⟩
    refine GL_fin (E' := [⟨0, [], .slice ab b.size cb⟩, ⟨1, [], .slice ao ops.length co⟩, ⟨2, [], .slice ka l.length kc⟩, ⟨7, [], pt d2⟩, ⟨38, [], .bool false⟩]) [0, 3] [0, 1, 2, 7, 38] rfl (by kernel_rfl) ?_
    refine N_then ?_
    refine G_condf (by kernel_rfl) ?_
    refine G_skip ?_
    refine N_then ?_
    refine G_seq ?_
    refine G_seq ?_
    refine G_pure (E' := [⟨0, [], .slice ab b.size cb⟩, ⟨2, [], .slice ka l.length kc⟩, ⟨7, [], pt d2⟩, ⟨39, [], .slice ao ops.length co⟩, ⟨40, [], .int .i64 ((ops.length : Nat) : Int)⟩, ⟨41, [], .int .i64 0⟩]) [0, 0, 0] [0, 2, 7, 39, 40, 41] rfl (by kernel_rfl) ?_
    refine N_then ?_
    refine G_block ?_
    refine G_loop (EI := (fun ξ : Nat × DS × DM => [⟨0, [], .slice ab b.size cb⟩, ⟨2, [], .slice ka l.length kc⟩, ⟨7, [], pt d2⟩, ⟨39, [], .slice ao ops.length co⟩, ⟨40, [], .int .i64 ((ops.length : Nat) : Int)⟩, ⟨41, [], .int .i64 ((ξ.1 : Nat) : Int)⟩])) (HI := (fun ξ : Nat × DS × DM => (ξ.2.1.G d2 ξ.2.2 ++ (G ++ H)))) (Φ := (fun ξ : Nat × DS × DM => (ξ.1 ≤ ops.length) ∧ (ξ.1 ≤ 60) ∧ (ξ.2.1.ok ξ.2.2) ∧ (Scr 2000 (3 + ξ.1) ξ.2.2) ∧ (Kp b b ξ.2.2))) (μ := (fun ξ : Nat × DS × DM => ops.length - ξ.1)) (s0 := (0, s4, (kp3 b))) [0, 2, 7, 39, 40, 41] (by kernel_rfl) rfl ⟨(by omega), (Nat.zero_le _), hs4, (kp_scr hb2), (kp_start b)⟩ ?_
    rintro ⟨k, sx, Mx⟩ ⟨hk, hk6, hsx, hcx, hkx⟩
    replace hk : k ≤ ops.length := hk
    replace hk6 : k ≤ 60 := hk6
    replace hsx : sx.ok Mx := hsx
    replace hcx : Scr 2000 (3 + k) Mx := hcx
    replace hkx : Kp b b Mx := hkx
    refine G_seq ?_
    refine G_pure (E' := [⟨0, [], .slice ab b.size cb⟩, ⟨2, [], .slice ka l.length kc⟩, ⟨7, [], pt d2⟩, ⟨39, [], .slice ao ops.length co⟩, ⟨40, [], .int .i64 ((ops.length : Nat) : Int)⟩, ⟨41, [], .int .i64 ((k : Nat) : Int)⟩, ⟨42, [], .bool (decide (((k : Nat) : Int) < ((ops.length : Nat) : Int)))⟩]) [0] [0, 2, 7, 39, 40, 41, 42] rfl (by kernel_rfl) ?_
    refine N_then ?_
    refine G_seq ?_
    refine G_cond (b := decide (((k : Nat) : Int) < ((ops.length : Nat) : Int))) (by kernel_rfl) (fun hc3 => ?_) (fun hc3 => ?_)
    ·
      replace hc3 := of_decide_eq_true hc3
      obtain ⟨o, ho⟩ : ∃ o, o = ops.getD k default := ⟨_, rfl⟩
      have hO : OpOk So W0 [] o := by (rw [ho]; exact hOk _ (getD_memG (by omega)))
      refine G_skip ?_
      refine N_then ?_
      refine G_seq ?_
      refine G_block ?_
      refine G_seq ?_
      refine G_region ?_
      refine GL_pure (E' := [⟨43, [], .int .i64 ((k : Nat) : Int)⟩, ⟨0, [], .slice ab b.size cb⟩, ⟨2, [], .slice ka l.length kc⟩, ⟨7, [], pt d2⟩, ⟨39, [], .slice ao ops.length co⟩, ⟨40, [], .int .i64 ((ops.length : Nat) : Int)⟩, ⟨41, [], .int .i64 ((k : Nat) : Int)⟩]) [0] (by kernel_rfl) (j := 1) rfl ?_
      refine GL_indexAddr (i := 1) (ch := []) (a := ao) (len := ops.length) (cap := co) (kd := .i64) (j := ((k : Nat) : Int)) (e := 41) (sz := 6) (S := So) (cs := (ops.flatMap opCells)) rfl rfl (by kernel_rfl) (by kernel_rfl) (by kernel_rfl) (by kernel_rfl) (by kernel_rfl) (by kernel_rfl) (by kernel_rfl) hro (fun _ => by exact ⟨by omega, by omega, by (intro h; have h2 := congrArg List.length h; rw [ops_len] at h2; simp at h2; omega)⟩) ?_
      refine GL_loadSA (i := 2) (ch := []) (a := ao) (q := k * 6) (S := So) (cs := (ops.flatMap opCells)) (l := [.int .i64 o.kind, .string o.path, .string o.to, .slice o.ba o.b.size o.bc, .int .i64 o.n, .slice o.ka o.k.length o.kc]) rfl rfl (by kernel_rfl) (by kernel_rfl) (by kernel_rfl) (by kernel_rfl) (by kernel_rfl) (by kernel_rfl) hro (fun y o h => at_up (hSo y o h)) (List.cons_ne_nil _ _) (fun _ => (fun m hm => (op_at (by omega) m hm).trans (by rw [← ho]; exact List.getElem?_eq_getElem (l := opCells o) hm))) ?_
      refine GL_alloc (i := 3) (ch := []) (z := .agg #[.int .i64 0, .string (ByteArray.mk #[]), .string (ByteArray.mk #[]), .slice none 0 0, .int .i64 0, .slice none 0 0]) rfl rfl (by kernel_rfl) (by kernel_rfl) (by kernel_rfl) (by kernel_rfl) (fun b4 => ?_)
      refine GL_pure (E' := [⟨8, [], .int .i64 ((k : Nat) : Int)⟩, ⟨9, [], pt b4⟩, ⟨45, [], .agg #[.int .i64 o.kind, .string o.path, .string o.to, .slice o.ba o.b.size o.bc, .int .i64 o.n, .slice o.ka o.k.length o.kc]⟩, ⟨0, [], .slice ab b.size cb⟩, ⟨2, [], .slice ka l.length kc⟩, ⟨7, [], pt d2⟩, ⟨39, [], .slice ao ops.length co⟩, ⟨40, [], .int .i64 ((ops.length : Nat) : Int)⟩, ⟨41, [], .int .i64 ((k : Nat) : Int)⟩]) [0] (by kernel_rfl) (j := 5) rfl ?_
      refine GL_store (i := 5) (ch := []) (b := b4) (off := 0) (v := .agg #[.int .i64 o.kind, .string o.path, .string o.to, .slice o.ba o.b.size o.bc, .int .i64 o.n, .slice o.ka o.k.length o.kc]) (c := #[.int .i64 0, .string (ByteArray.mk #[]), .string (ByteArray.mk #[]), .slice none 0 0, .int .i64 0, .slice none 0 0]) (c' := #[.int .i64 o.kind, .string o.path, .string o.to, .slice o.ba o.b.size o.bc, .int .i64 o.n, .slice o.ka o.k.length o.kc]) (j := 0) (m := 0) (H' := ([(b4, .cells #[.int .i64 o.kind, .string o.path, .string o.to, .slice o.ba o.b.size o.bc, .int .i64 o.n, .slice o.ka o.k.length o.kc] 41 (0, 0))] :: (sx.G d2 Mx ++ (G ++ H)))) rfl rfl (by kernel_rfl) (by kernel_rfl) (by kernel_rfl) (by kernel_rfl) (by kernel_rfl) (by kernel_rfl) (by kernel_rfl) rfl rfl (Nat.le_of_ble_eq_true rfl) (fun _ _ => thaw0) (by kernel_rfl) (by kernel_rfl) ?_
      refine GL_fin (E' := [⟨0, [], .slice ab b.size cb⟩, ⟨2, [], .slice ka l.length kc⟩, ⟨7, [], pt d2⟩, ⟨8, [], .int .i64 ((k : Nat) : Int)⟩, ⟨9, [], pt b4⟩, ⟨39, [], .slice ao ops.length co⟩, ⟨40, [], .int .i64 ((ops.length : Nat) : Int)⟩, ⟨41, [], .int .i64 ((k : Nat) : Int)⟩]) [] [0, 2, 7, 8, 9, 39, 40, 41] rfl (by kernel_rfl) ?_
      refine N_then ?_
      refine G_seq ?_
      refine G_seq ?_
      refine G_region ?_
      refine GL_pure (E' := [⟨49, [(48, false)], .pointer (some ⟨b4, 3, none⟩)⟩, ⟨48, [], .bool (decide (((k : Nat) : Int) ≥ 60))⟩, ⟨0, [], .slice ab b.size cb⟩, ⟨2, [], .slice ka l.length kc⟩, ⟨7, [], pt d2⟩, ⟨9, [], pt b4⟩, ⟨39, [], .slice ao ops.length co⟩, ⟨40, [], .int .i64 ((ops.length : Nat) : Int)⟩, ⟨41, [], .int .i64 ((k : Nat) : Int)⟩]) [0, 0, 0, 0] (by kernel_rfl) (j := 4) rfl ?_
      refine GL_load (i := 4) (ch := [(48, false)]) (b := b4) (off := 3) (v := .slice o.ba o.b.size o.bc) rfl rfl (by kernel_rfl) (by kernel_rfl) (by kernel_rfl) (by kernel_rfl) (by kernel_rfl) (At.grp 0 0 rfl rfl) rfl ?_
      refine GL_pure (E' := [⟨55, [(54, false)], .pointer (some ⟨b4, 5, none⟩)⟩, ⟨54, [], .bool ((decide (((k : Nat) : Int) ≥ 60)) || (decide (((o.b.size : Nat) : Int) > 2000)))⟩, ⟨0, [], .slice ab b.size cb⟩, ⟨2, [], .slice ka l.length kc⟩, ⟨7, [], pt d2⟩, ⟨9, [], pt b4⟩, ⟨39, [], .slice ao ops.length co⟩, ⟨40, [], .int .i64 ((ops.length : Nat) : Int)⟩, ⟨41, [], .int .i64 ((k : Nat) : Int)⟩]) [0, 0, 5, 0, 0] (by kernel_rfl) (j := 10) rfl ?_
      refine GL_load (i := 10) (ch := [(54, false)]) (b := b4) (off := 5) (v := .slice o.ka o.k.length o.kc) rfl rfl (by kernel_rfl) (by kernel_rfl) (by kernel_rfl) (by kernel_rfl) (by kernel_rfl) (At.grp 0 0 rfl rfl) rfl ?_
      refine GL_fin (E' := [⟨0, [], .slice ab b.size cb⟩, ⟨2, [], .slice ka l.length kc⟩, ⟨7, [], pt d2⟩, ⟨9, [], pt b4⟩, ⟨39, [], .slice ao ops.length co⟩, ⟨40, [], .int .i64 ((ops.length : Nat) : Int)⟩, ⟨41, [], .int .i64 ((k : Nat) : Int)⟩, ⟨59, [], .bool (((decide (((k : Nat) : Int) ≥ 60)) || (decide (((o.b.size : Nat) : Int) > 2000))) || (decide (((o.k.length : Nat) : Int) > 100)))⟩]) [0, 0, 5] [0, 2, 7, 9, 39, 40, 41, 59] rfl (by kernel_rfl) ?_
      refine N_then ?_
      refine G_cond (b := ((decide (((k : Nat) : Int) ≥ 60)) || (decide (((o.b.size : Nat) : Int) > 2000))) || (decide (((o.k.length : Nat) : Int) > 100))) (by kernel_rfl) (fun hc5 => ?_) (fun hc5 => ?_)
      ·
        -- L stop
        have hM1 := hcx.small (by omega) (by decide)
        refine G_exit ?_
        refine N_then_exit ?_
        refine N_block_other rfl ?_
        refine N_then_exit ?_
        refine N_then_exit ?_
        refine N_block_exit ?_
        refine N_then ?_
        refine G_seq ?_
        refine G_seq ?_
        have hw6 : Int.tmod ((l.length : Nat) : Int) 2 = ((l.length : Nat) : Int) % 2 := r64 (by omega)
        refine G_pure (E' := [⟨0, [], .slice ab b.size cb⟩, ⟨2, [], .slice ka l.length kc⟩, ⟨7, [], pt d2⟩, ⟨97, [], .bool ((((l.length : Nat) : Int) % 2) == 1)⟩]) [0, 0, 0, 0] [0, 2, 7, 97] rfl (Eq.trans (b := some [⟨0, [], .slice ab b.size cb⟩, ⟨2, [], .slice ka l.length kc⟩, ⟨7, [], pt d2⟩, ⟨97, [], .bool ((Int.tmod ((l.length : Nat) : Int) 2) == 1)⟩]) (by kernel_rfl) (by simp only [hw6])) ?_
        refine N_then ?_
        refine G_cond (b := (((l.length : Nat) : Int) % 2) == 1) (by kernel_rfl) (fun hc7 => ?_) (fun hc7 => ?_)
        ·
          have hodd := hc7
          -- L odd
          obtain ⟨nm, hmk, hmp⟩ := kp_more hkx fmore
          have hM4 := (scr_append hcx pZ (b := fmore) (by decide)).small (by omega) (by decide)
          have hMc := (scr_crash (scr_append hcx pZ (b := fmore) (by decide)) l).small (by omega) (by decide)
          refine G_region ?_
          refine GL_pure (E' := [⟨98, [], pt d2⟩, ⟨0, [], .slice ab b.size cb⟩, ⟨2, [], .slice ka l.length kc⟩, ⟨7, [], pt d2⟩]) [0] (by kernel_rfl) (j := 1) rfl ?_
          refine GL_buildSlice (i := 1) (ch := []) (e := 5) (l := [(0, .int .u8 109), (1, .int .u8 111), (2, .int .u8 114), (3, .int .u8 101)]) (c := [.int .u8 109, .int .u8 111, .int .u8 114, .int .u8 101]) rfl rfl (by kernel_rfl) (by kernel_rfl) (by kernel_rfl) (by kernel_rfl) (by kernel_rfl) (fun b8 => ?_)
          refine GL_sameBytes (i := 2) (ch := []) (t := 24) (e := 5) (b := b8) (off := 0) (l := 4) (cap := 4) (j := 0) (m := 0) rfl rfl (by kernel_rfl) (by kernel_rfl) (by kernel_rfl) (by kernel_rfl) (by kernel_rfl) (by kernel_rfl) rfl rfl (by rfl) ?_
          refine GL_call (i := 3) (ch := []) (f := 22) (fst := #[]) (caps := #[]) (vs := [pt d2, .string (ByteArray.mk #[122, 47, 107, 101, 112, 116]), .slice (some ⟨b8, 0, none⟩) 4 4]) rfl rfl rfl (by kernel_rfl) (by kernel_rfl) Try.func22 rfl rfl (by kernel_rfl) (by kernel_rfl) (chSure_of (by kernel_rfl)) (dAppend hsx (hM1).small d2 (ByteArray.mk #[122, 47, 107, 101, 112, 116]) fmore (by decide) (by decide) [[(b8, .cells #[.int .u8 109, .int .u8 111, .int .u8 114, .int .u8 101] 5 (4, 4 + 1))], [(b4, .cells #[.int .i64 o.kind, .string o.path, .string o.to, .slice o.ba o.b.size o.bc, .int .i64 o.n, .slice o.ka o.k.length o.kc] 41 (0, 0))]] _ (G ++ H) ⟨some ⟨b8, 0, none⟩, 4, inG [(b8, .cells #[.int .u8 109, .int .u8 111, .int .u8 114, .int .u8 101] 5 (4, 4 + 1))], rfl, .inr (.inr ⟨b8, 0, rfl⟩), (Rd.lit (c := [.int .u8 109, .int .u8 111, .int .u8 114, .int .u8 101])), (at_inG 0 rfl)⟩ rfl) ?_
          rintro v H' ⟨rfl, s5, hs5, rfl⟩
          refine GL_fin (E' := [⟨0, [], .slice ab b.size cb⟩, ⟨2, [], .slice ka l.length kc⟩, ⟨7, [], pt d2⟩]) [] [0, 2, 7] rfl (by kernel_rfl) ?_
          refine N_then ?_
          refine G_seq ?_
          refine G_region ?_
          refine GL_pure (E' := [⟨103, [], .slice ka l.length kc⟩, ⟨102, [], pt d2⟩, ⟨0, [], .slice ab b.size cb⟩, ⟨2, [], .slice ka l.length kc⟩, ⟨7, [], pt d2⟩]) [0, 0] (by kernel_rfl) (j := 2) rfl ?_
          obtain ⟨bx, hx1, hx2, hx3, hxk⟩ := kp_crash hmk hmp l
          refine GL_call (i := 2) (ch := []) (f := 18) (fst := #[]) (caps := #[]) (vs := [pt d2, .slice ka l.length kc]) rfl rfl rfl (by kernel_rfl) (by kernel_rfl) Try.func18 rfl rfl (by kernel_rfl) (by kernel_rfl) (chSure_of (by kernel_rfl)) (dCrash (M' := (crashM (appendM Mx pZ fmore).2 l)) hs5 (hM4).small d2 l ka kc Sk hK [[(b8, .cells #[.int .u8 109, .int .u8 111, .int .u8 114, .int .u8 101] 5 (4, 4 + 1))], [(b4, .cells #[.int .i64 o.kind, .string o.path, .string o.to, .slice o.ba o.b.size o.bc, .int .i64 o.n, .slice o.ka o.k.length o.kc] 41 (0, 0))]] _ (G ++ H) (fun y o h => at_up (hSk y o h)) rfl) ?_
          rintro v H' ⟨rfl, s6, hs6, rfl⟩
          refine GL_fin (E' := [⟨0, [], .slice ab b.size cb⟩, ⟨2, [], .slice ka l.length kc⟩, ⟨7, [], pt d2⟩]) [] [0, 2, 7] rfl (by kernel_rfl) ?_
          refine N_then ?_
          refine G_seq ?_
          refine G_region ?_
          refine GL_pure (E' := [⟨106, [], pt d2⟩, ⟨0, [], .slice ab b.size cb⟩, ⟨2, [], .slice ka l.length kc⟩]) [0] (by kernel_rfl) (j := 1) rfl ?_
          refine GL_call (i := 1) (ch := []) (f := 19) (fst := #[]) (caps := #[]) (vs := [pt d2, .string (ByteArray.mk #[122, 47, 107, 101, 112, 116])]) rfl rfl rfl (by kernel_rfl) (by kernel_rfl) Try.func19 rfl rfl (by kernel_rfl) (by kernel_rfl) (chSure_of (by kernel_rfl)) (dReadO hs6 (fun B hB => (hMc.small.size B hB).1) d2 (ByteArray.mk #[122, 47, 107, 101, 112, 116]) [[(b8, .cells #[.int .u8 109, .int .u8 111, .int .u8 114, .int .u8 101] 5 (4, 4 + 1))], [(b4, .cells #[.int .i64 o.kind, .string o.path, .string o.to, .slice o.ba o.b.size o.bc, .int .i64 o.n, .slice o.ka o.k.length o.kc] 41 (0, 0))]] _ (G ++ H) (kp_read hxk)) ?_
          rintro v H' ⟨ra9, rc10, g11, rfl, hO12, rfl⟩
          refine GL_fin (E' := [⟨0, [], .slice ab b.size cb⟩, ⟨2, [], .slice ka l.length kc⟩, ⟨12, [], .slice ra9 bx.size rc10⟩, ⟨13, [], .int .i64 0⟩]) [0, 0, 0, 0, 0] [0, 2, 12, 13] rfl (by kernel_rfl) ?_
          refine N_then ?_
          refine G_seq ?_
          have hcap := (own_cap hO12)
          ·
            refine G_regionD (by kernel_rfl) (by kernel_rfl) ?_
            refine GL_pure (E' := [⟨117, [(112, true)], .bool (decide (((bx.size : Nat) : Int) ≥ ((b.size : Nat) : Int)))⟩, ⟨112, [], .bool true⟩, ⟨0, [], .slice ab b.size cb⟩, ⟨2, [], .slice ka l.length kc⟩, ⟨12, [], .slice ra9 bx.size rc10⟩]) [0, 0, 0, 0, 0, 0, 0, 0] (by kernel_rfl) (j := 8) rfl ?_
            refine GL_env (E' := [⟨117, [(112, true)], .bool true⟩, ⟨112, [], .bool true⟩, ⟨0, [], .slice ab b.size cb⟩, ⟨2, [], .slice ka l.length kc⟩, ⟨12, [], .slice ra9 bx.size rc10⟩]) (by rw [decide_eq_true (show ((bx.size : Nat) : Int) ≥ ((b.size : Nat) : Int) by omega)]) ?_
            refine GL_pure (E' := [⟨122, [(119, true)], .int .i64 ((b.size : Nat) : Int)⟩, ⟨120, [(119, true)], .slice ra9 bx.size rc10⟩, ⟨119, [], .bool true⟩, ⟨0, [], .slice ab b.size cb⟩, ⟨2, [], .slice ka l.length kc⟩, ⟨12, [], .slice ra9 bx.size rc10⟩]) [2, 0, 0, 0, 0] (by kernel_rfl) (j := 13) rfl ?_
            refine GL_sliceL (i := 13) (ch := [(119, true)]) (a := ra9) (len := bx.size) (cap := rc10) (e := 5) (sz := 1) (vl := none) (vh := (some (.int .i64 ((b.size : Nat) : Int)))) (l := 0) (h := ((b.size : Nat) : Int)) rfl rfl (by kernel_rfl) (by kernel_rfl) (by kernel_rfl) (by kernel_rfl) (by kernel_rfl) (by kernel_rfl) (by kernel_rfl) (by kernel_rfl) (by kernel_rfl) (by kernel_rfl) (fun hc => by omega) ?_
            refine GL_env (E' := [⟨123, [(119, true)], .slice (cutA ra9 rc10 0 1) ((bx.extract 0 b.size).size) (rc10 - 0)⟩, ⟨122, [(119, true)], .int .i64 ((b.size : Nat) : Int)⟩, ⟨120, [(119, true)], .slice ra9 bx.size rc10⟩, ⟨119, [], .bool true⟩, ⟨0, [], .slice ab b.size cb⟩, ⟨2, [], .slice ka l.length kc⟩, ⟨12, [], .slice ra9 bx.size rc10⟩]) (by have hz : ([⟨123, [(119, true)], .slice (cutA ra9 rc10 0 1) ((Int.toNat ((b.size : Nat) : Int)) - 0) (rc10 - 0)⟩, ⟨122, [(119, true)], .int .i64 ((b.size : Nat) : Int)⟩, ⟨120, [(119, true)], .slice ra9 bx.size rc10⟩, ⟨119, [], .bool true⟩, ⟨0, [], .slice ab b.size cb⟩, ⟨2, [], .slice ka l.length kc⟩, ⟨12, [], .slice ra9 bx.size rc10⟩] : List Sl) = [⟨123, [(119, true)], .slice (cutA ra9 rc10 0 1) ((bx.extract 0 b.size).size) (rc10 - 0)⟩, ⟨122, [(119, true)], .int .i64 ((b.size : Nat) : Int)⟩, ⟨120, [(119, true)], .slice ra9 bx.size rc10⟩, ⟨119, [], .bool true⟩, ⟨0, [], .slice ab b.size cb⟩, ⟨2, [], .slice ka l.length kc⟩, ⟨12, [], .slice ra9 bx.size rc10⟩] := (by rw [show Int.toNat ((b.size : Nat) : Int) - 0 = (bx.extract 0 b.size).size by (simp only [ByteArray.size_extract]; omega)]); exact Eq.trans (by kernel_rfl) hz) ?_
            refine GL_bytesB (i := 14) (ch := [(119, true)]) (a := (cutA ra9 rc10 0 1)) (cap := rc10 - 0) (e := 5) (S := (inG g11)) (bx.extract 0 b.size) rfl rfl (by kernel_rfl) (by kernel_rfl) (by kernel_rfl) (by kernel_rfl) (by kernel_rfl) (by kernel_rfl) (by kernel_rfl) (rd_cutb (own_rd hO12) (own_cap hO12) hx1.1) (at_inG 0 rfl) ?_
            refine GL_pure (E' := [⟨125, [(119, true)], .slice ab b.size cb⟩, ⟨124, [(119, true)], .string (bx.extract 0 b.size)⟩, ⟨119, [], .bool true⟩, ⟨0, [], .slice ab b.size cb⟩, ⟨2, [], .slice ka l.length kc⟩, ⟨12, [], .slice ra9 bx.size rc10⟩]) [0] (by kernel_rfl) (j := 16) rfl ?_
            refine GL_bytesB (i := 16) (ch := [(119, true)]) (a := ab) (cap := cb) (e := 5) (S := Sb) b rfl rfl (by kernel_rfl) (by kernel_rfl) (by kernel_rfl) (by kernel_rfl) (by kernel_rfl) (by kernel_rfl) (by kernel_rfl) hA.rd (fun y o h => at_up (hA.at_ y o h)) ?_
            refine GL_pure (E' := [⟨127, [(119, true)], .bool ((bx.extract 0 b.size).toList == b.toList)⟩, ⟨119, [], .bool true⟩, ⟨0, [], .slice ab b.size cb⟩, ⟨2, [], .slice ka l.length kc⟩, ⟨12, [], .slice ra9 bx.size rc10⟩]) [0] (by kernel_rfl) (j := 18) rfl ?_
            refine GL_env (E' := [⟨127, [(119, true)], .bool true⟩, ⟨119, [], .bool true⟩, ⟨0, [], .slice ab b.size cb⟩, ⟨2, [], .slice ka l.length kc⟩, ⟨12, [], .slice ra9 bx.size rc10⟩]) (by rw [← hx1.2, beq_self_eq_true]) ?_
            refine GL_pure (E' := [⟨133, [(129, true)], .bool ((Int.tmod ((l.length : Nat) : Int) 2) == 1)⟩, ⟨129, [], .bool true⟩, ⟨0, [], .slice ab b.size cb⟩, ⟨12, [], .slice ra9 bx.size rc10⟩]) [2, 0, 0, 0, 0, 0] (by kernel_rfl) (j := 24) rfl ?_
            refine GL_env (E' := [⟨133, [(129, true)], .bool true⟩, ⟨129, [], .bool true⟩, ⟨0, [], .slice ab b.size cb⟩, ⟨12, [], .slice ra9 bx.size rc10⟩]) (by rw [show Int.tmod ((l.length : Nat) : Int) 2 = ((l.length : Nat) : Int) % 2 from r64 (by omega), hodd]) ?_
            refine GL_fin (E' := [⟨6, [], .bool true⟩]) [0, 1, 1, 1, 1, 1, 2, 2, 0] [6] rfl (by kernel_rfl) ?_
            refine N_then ?_
            refine G_ret ?_
            refine N_ret [.tmp 6] [.bool true] rfl (by kernel_rfl) rfl ?_
            exact ⟨rfl, [g11, [(b8, .cells #[.int .u8 109, .int .u8 111, .int .u8 114, .int .u8 101] 5 (4, 4 + 1))], [(b4, .cells #[.int .i64 o.kind, .string o.path, .string o.to, .slice o.ba o.b.size o.bc, .int .i64 o.n, .slice o.ka o.k.length o.kc] 41 (0, 0))]] ++ (s6.G d2 (crashM (appendM Mx pZ fmore).2 l) ++ G), by simp⟩
        ·
          have hodd := hc7
          -- L even
          have hMc := (scr_crash hcx l).small (by omega) (by decide)
          refine G_skip ?_
          refine N_then ?_
          refine G_seq ?_
          refine G_region ?_
          refine GL_pure (E' := [⟨103, [], .slice ka l.length kc⟩, ⟨102, [], pt d2⟩, ⟨0, [], .slice ab b.size cb⟩, ⟨2, [], .slice ka l.length kc⟩, ⟨7, [], pt d2⟩]) [0, 0] (by kernel_rfl) (j := 2) rfl ?_
          obtain ⟨bx, hx1, hx2, hx3, hxk⟩ := kp_crash hkx (pre_same b) l
          refine GL_call (i := 2) (ch := []) (f := 18) (fst := #[]) (caps := #[]) (vs := [pt d2, .slice ka l.length kc]) rfl rfl rfl (by kernel_rfl) (by kernel_rfl) Try.func18 rfl rfl (by kernel_rfl) (by kernel_rfl) (chSure_of (by kernel_rfl)) (dCrash (M' := (crashM Mx l)) hsx (hM1).small d2 l ka kc Sk hK [[(b4, .cells #[.int .i64 o.kind, .string o.path, .string o.to, .slice o.ba o.b.size o.bc, .int .i64 o.n, .slice o.ka o.k.length o.kc] 41 (0, 0))]] _ (G ++ H) (fun y o h => at_up (hSk y o h)) rfl) ?_
          rintro v H' ⟨rfl, s7, hs7, rfl⟩
          refine GL_fin (E' := [⟨0, [], .slice ab b.size cb⟩, ⟨2, [], .slice ka l.length kc⟩, ⟨7, [], pt d2⟩]) [] [0, 2, 7] rfl (by kernel_rfl) ?_
          refine N_then ?_
          refine G_seq ?_
          refine G_region ?_
          refine GL_pure (E' := [⟨106, [], pt d2⟩, ⟨0, [], .slice ab b.size cb⟩, ⟨2, [], .slice ka l.length kc⟩]) [0] (by kernel_rfl) (j := 1) rfl ?_
          refine GL_call (i := 1) (ch := []) (f := 19) (fst := #[]) (caps := #[]) (vs := [pt d2, .string (ByteArray.mk #[122, 47, 107, 101, 112, 116])]) rfl rfl rfl (by kernel_rfl) (by kernel_rfl) Try.func19 rfl rfl (by kernel_rfl) (by kernel_rfl) (chSure_of (by kernel_rfl)) (dReadO hs7 (fun B hB => (hMc.small.size B hB).1) d2 (ByteArray.mk #[122, 47, 107, 101, 112, 116]) [[(b4, .cells #[.int .i64 o.kind, .string o.path, .string o.to, .slice o.ba o.b.size o.bc, .int .i64 o.n, .slice o.ka o.k.length o.kc] 41 (0, 0))]] _ (G ++ H) (kp_read hxk)) ?_
          rintro v H' ⟨ra13, rc14, g15, rfl, hO16, rfl⟩
          refine GL_fin (E' := [⟨0, [], .slice ab b.size cb⟩, ⟨2, [], .slice ka l.length kc⟩, ⟨12, [], .slice ra13 bx.size rc14⟩, ⟨13, [], .int .i64 0⟩]) [0, 0, 0, 0, 0] [0, 2, 12, 13] rfl (by kernel_rfl) ?_
          refine N_then ?_
          refine G_seq ?_
          have hcap := (own_cap hO16)
          ·
            refine G_regionD (by kernel_rfl) (by kernel_rfl) ?_
            refine GL_pure (E' := [⟨117, [(112, true)], .bool (decide (((bx.size : Nat) : Int) ≥ ((b.size : Nat) : Int)))⟩, ⟨112, [], .bool true⟩, ⟨0, [], .slice ab b.size cb⟩, ⟨2, [], .slice ka l.length kc⟩, ⟨12, [], .slice ra13 bx.size rc14⟩]) [0, 0, 0, 0, 0, 0, 0, 0] (by kernel_rfl) (j := 8) rfl ?_
            refine GL_env (E' := [⟨117, [(112, true)], .bool true⟩, ⟨112, [], .bool true⟩, ⟨0, [], .slice ab b.size cb⟩, ⟨2, [], .slice ka l.length kc⟩, ⟨12, [], .slice ra13 bx.size rc14⟩]) (by rw [decide_eq_true (show ((bx.size : Nat) : Int) ≥ ((b.size : Nat) : Int) by omega)]) ?_
            refine GL_pure (E' := [⟨122, [(119, true)], .int .i64 ((b.size : Nat) : Int)⟩, ⟨120, [(119, true)], .slice ra13 bx.size rc14⟩, ⟨119, [], .bool true⟩, ⟨0, [], .slice ab b.size cb⟩, ⟨2, [], .slice ka l.length kc⟩, ⟨12, [], .slice ra13 bx.size rc14⟩]) [2, 0, 0, 0, 0] (by kernel_rfl) (j := 13) rfl ?_
            refine GL_sliceL (i := 13) (ch := [(119, true)]) (a := ra13) (len := bx.size) (cap := rc14) (e := 5) (sz := 1) (vl := none) (vh := (some (.int .i64 ((b.size : Nat) : Int)))) (l := 0) (h := ((b.size : Nat) : Int)) rfl rfl (by kernel_rfl) (by kernel_rfl) (by kernel_rfl) (by kernel_rfl) (by kernel_rfl) (by kernel_rfl) (by kernel_rfl) (by kernel_rfl) (by kernel_rfl) (by kernel_rfl) (fun hc => by omega) ?_
            refine GL_env (E' := [⟨123, [(119, true)], .slice (cutA ra13 rc14 0 1) ((bx.extract 0 b.size).size) (rc14 - 0)⟩, ⟨122, [(119, true)], .int .i64 ((b.size : Nat) : Int)⟩, ⟨120, [(119, true)], .slice ra13 bx.size rc14⟩, ⟨119, [], .bool true⟩, ⟨0, [], .slice ab b.size cb⟩, ⟨2, [], .slice ka l.length kc⟩, ⟨12, [], .slice ra13 bx.size rc14⟩]) (by have hz : ([⟨123, [(119, true)], .slice (cutA ra13 rc14 0 1) ((Int.toNat ((b.size : Nat) : Int)) - 0) (rc14 - 0)⟩, ⟨122, [(119, true)], .int .i64 ((b.size : Nat) : Int)⟩, ⟨120, [(119, true)], .slice ra13 bx.size rc14⟩, ⟨119, [], .bool true⟩, ⟨0, [], .slice ab b.size cb⟩, ⟨2, [], .slice ka l.length kc⟩, ⟨12, [], .slice ra13 bx.size rc14⟩] : List Sl) = [⟨123, [(119, true)], .slice (cutA ra13 rc14 0 1) ((bx.extract 0 b.size).size) (rc14 - 0)⟩, ⟨122, [(119, true)], .int .i64 ((b.size : Nat) : Int)⟩, ⟨120, [(119, true)], .slice ra13 bx.size rc14⟩, ⟨119, [], .bool true⟩, ⟨0, [], .slice ab b.size cb⟩, ⟨2, [], .slice ka l.length kc⟩, ⟨12, [], .slice ra13 bx.size rc14⟩] := (by rw [show Int.toNat ((b.size : Nat) : Int) - 0 = (bx.extract 0 b.size).size by (simp only [ByteArray.size_extract]; omega)]); exact Eq.trans (by kernel_rfl) hz) ?_
            refine GL_bytesB (i := 14) (ch := [(119, true)]) (a := (cutA ra13 rc14 0 1)) (cap := rc14 - 0) (e := 5) (S := (inG g15)) (bx.extract 0 b.size) rfl rfl (by kernel_rfl) (by kernel_rfl) (by kernel_rfl) (by kernel_rfl) (by kernel_rfl) (by kernel_rfl) (by kernel_rfl) (rd_cutb (own_rd hO16) (own_cap hO16) hx1.1) (at_inG 0 rfl) ?_
            refine GL_pure (E' := [⟨125, [(119, true)], .slice ab b.size cb⟩, ⟨124, [(119, true)], .string (bx.extract 0 b.size)⟩, ⟨119, [], .bool true⟩, ⟨0, [], .slice ab b.size cb⟩, ⟨2, [], .slice ka l.length kc⟩, ⟨12, [], .slice ra13 bx.size rc14⟩]) [0] (by kernel_rfl) (j := 16) rfl ?_
            refine GL_bytesB (i := 16) (ch := [(119, true)]) (a := ab) (cap := cb) (e := 5) (S := Sb) b rfl rfl (by kernel_rfl) (by kernel_rfl) (by kernel_rfl) (by kernel_rfl) (by kernel_rfl) (by kernel_rfl) (by kernel_rfl) hA.rd (fun y o h => at_up (hA.at_ y o h)) ?_
            refine GL_pure (E' := [⟨127, [(119, true)], .bool ((bx.extract 0 b.size).toList == b.toList)⟩, ⟨119, [], .bool true⟩, ⟨0, [], .slice ab b.size cb⟩, ⟨2, [], .slice ka l.length kc⟩, ⟨12, [], .slice ra13 bx.size rc14⟩]) [0] (by kernel_rfl) (j := 18) rfl ?_
            refine GL_env (E' := [⟨127, [(119, true)], .bool true⟩, ⟨119, [], .bool true⟩, ⟨0, [], .slice ab b.size cb⟩, ⟨2, [], .slice ka l.length kc⟩, ⟨12, [], .slice ra13 bx.size rc14⟩]) (by rw [← hx1.2, beq_self_eq_true]) ?_
            refine GL_pure (E' := [⟨133, [(129, true)], .bool ((Int.tmod ((l.length : Nat) : Int) 2) == 1)⟩, ⟨129, [], .bool true⟩, ⟨0, [], .slice ab b.size cb⟩, ⟨12, [], .slice ra13 bx.size rc14⟩]) [2, 0, 0, 0, 0, 0] (by kernel_rfl) (j := 24) rfl ?_
            refine GL_env (E' := [⟨133, [(129, true)], .bool false⟩, ⟨129, [], .bool true⟩, ⟨0, [], .slice ab b.size cb⟩, ⟨12, [], .slice ra13 bx.size rc14⟩]) (by rw [show Int.tmod ((l.length : Nat) : Int) 2 = ((l.length : Nat) : Int) % 2 from r64 (by omega), hodd]) ?_
            refine GL_pure (E' := [⟨139, [(134, false), (129, true)], .bool (((bx.size : Nat) : Int) == ((b.size : Nat) : Int))⟩, ⟨134, [(129, true)], .bool false⟩, ⟨129, [], .bool true⟩]) [0, 0, 0, 0, 0, 0] (by kernel_rfl) (j := 30) rfl ?_
            refine GL_env (E' := [⟨139, [(134, false), (129, true)], .bool true⟩, ⟨134, [(129, true)], .bool false⟩, ⟨129, [], .bool true⟩]) (by rw [hx2 rfl, beq_self_eq_true]) ?_
            refine GL_fin (E' := [⟨6, [], .bool true⟩]) [3, 2, 0] [6] rfl (by kernel_rfl) ?_
            refine N_then ?_
            refine G_ret ?_
            refine N_ret [.tmp 6] [.bool true] rfl (by kernel_rfl) rfl ?_
            exact ⟨rfl, [g15, [(b4, .cells #[.int .i64 o.kind, .string o.path, .string o.to, .slice o.ba o.b.size o.bc, .int .i64 o.n, .slice o.ka o.k.length o.kc] 41 (0, 0))]] ++ (s7.G d2 (crashM Mx l) ++ G), by simp⟩
      ·
        simp only [Bool.or_eq_false_iff, decide_eq_false_iff_not] at hc5
        have hb : o.b.size ≤ 1000000000 := by omega
        have hk : o.k.length ≤ 1000000000 := by omega
        have hM1 := hcx.small (by omega) (by decide)
        have hc2 := scr_do hcx (o := o) (by omega) hO.n
        have hM2 := hc2.small (by omega) (by decide)
        refine G_skip ?_
        refine N_then ?_
        refine G_seq ?_
        refine G_seq ?_
        refine G_region ?_
        refine GL_pure (E' := [⟨60, [], .pointer (some ⟨b4, 1, none⟩)⟩, ⟨0, [], .slice ab b.size cb⟩, ⟨2, [], .slice ka l.length kc⟩, ⟨7, [], pt d2⟩, ⟨9, [], pt b4⟩, ⟨39, [], .slice ao ops.length co⟩, ⟨40, [], .int .i64 ((ops.length : Nat) : Int)⟩, ⟨41, [], .int .i64 ((k : Nat) : Int)⟩]) [0] (by kernel_rfl) (j := 1) rfl ?_
        refine GL_load (i := 1) (ch := []) (b := b4) (off := 1) (v := .string o.path) rfl rfl (by kernel_rfl) (by kernel_rfl) (by kernel_rfl) (by kernel_rfl) (by kernel_rfl) (At.grp 0 0 rfl rfl) rfl ?_
        refine GL_pure (E' := [⟨64, [(63, false)], .pointer (some ⟨b4, 2, none⟩)⟩, ⟨63, [], .bool (o.path.toList == (ByteArray.mk #[122, 47, 107, 101, 112, 116]).toList)⟩, ⟨0, [], .slice ab b.size cb⟩, ⟨2, [], .slice ka l.length kc⟩, ⟨7, [], pt d2⟩, ⟨9, [], pt b4⟩, ⟨39, [], .slice ao ops.length co⟩, ⟨40, [], .int .i64 ((ops.length : Nat) : Int)⟩, ⟨41, [], .int .i64 ((k : Nat) : Int)⟩]) [0, 0, 0] (by kernel_rfl) (j := 5) rfl ?_
        refine GL_load (i := 5) (ch := [(63, false)]) (b := b4) (off := 2) (v := .string o.to) rfl rfl (by kernel_rfl) (by kernel_rfl) (by kernel_rfl) (by kernel_rfl) (by kernel_rfl) (At.grp 0 0 rfl rfl) rfl ?_
        refine GL_pure (E' := [⟨69, [(68, false)], pt b4⟩, ⟨68, [], .bool ((o.path.toList == (ByteArray.mk #[122, 47, 107, 101, 112, 116]).toList) || (o.to.toList == (ByteArray.mk #[122, 47, 107, 101, 112, 116]).toList))⟩, ⟨0, [], .slice ab b.size cb⟩, ⟨2, [], .slice ka l.length kc⟩, ⟨7, [], pt d2⟩, ⟨9, [], pt b4⟩, ⟨39, [], .slice ao ops.length co⟩, ⟨40, [], .int .i64 ((ops.length : Nat) : Int)⟩, ⟨41, [], .int .i64 ((k : Nat) : Int)⟩]) [0, 5, 0, 0] (by kernel_rfl) (j := 10) rfl ?_
        refine GL_load (i := 10) (ch := [(68, false)]) (b := b4) (off := 0) (v := .int .i64 o.kind) rfl rfl (by kernel_rfl) (by kernel_rfl) (by kernel_rfl) (by kernel_rfl) (by kernel_rfl) (At.grp 0 0 rfl rfl) rfl ?_
        refine GL_fin (E' := [⟨0, [], .slice ab b.size cb⟩, ⟨2, [], .slice ka l.length kc⟩, ⟨7, [], pt d2⟩, ⟨9, [], pt b4⟩, ⟨39, [], .slice ao ops.length co⟩, ⟨40, [], .int .i64 ((ops.length : Nat) : Int)⟩, ⟨41, [], .int .i64 ((k : Nat) : Int)⟩, ⟨74, [], .bool (((o.path.toList == (ByteArray.mk #[122, 47, 107, 101, 112, 116]).toList) || (o.to.toList == (ByteArray.mk #[122, 47, 107, 101, 112, 116]).toList)) || ((Int.tmod (IntKind.wrap .u64 o.kind) 8) == 6))⟩]) [0, 0, 0, 5] [0, 2, 7, 9, 39, 40, 41, 74] rfl (by kernel_rfl) ?_
        refine N_then ?_
        refine G_cond (b := ((o.path.toList == (ByteArray.mk #[122, 47, 107, 101, 112, 116]).toList) || (o.to.toList == (ByteArray.mk #[122, 47, 107, 101, 112, 116]).toList)) || ((Int.tmod (IntKind.wrap .u64 o.kind) 8) == 6)) (by kernel_rfl) (fun hc17 => ?_) (fun hc17 => ?_)
        ·
          -- L skip
          refine G_exit ?_
          refine N_then_exit ?_
          refine N_block_exit ?_
          refine N_then ?_
          have hw18 : IntKind.wrap .i64 (((k : Nat) : Int) + 1) = ((k : Nat) : Int) + 1 := w64 (by omega) (by omega)
          refine G_pure (E' := [⟨0, [], .slice ab b.size cb⟩, ⟨2, [], .slice ka l.length kc⟩, ⟨7, [], pt d2⟩, ⟨39, [], .slice ao ops.length co⟩, ⟨40, [], .int .i64 ((ops.length : Nat) : Int)⟩, ⟨41, [], .int .i64 (((k : Nat) : Int) + 1)⟩]) [0, 0] [0, 2, 7, 39, 40, 41] rfl (Eq.trans (b := some [⟨0, [], .slice ab b.size cb⟩, ⟨2, [], .slice ka l.length kc⟩, ⟨7, [], pt d2⟩, ⟨39, [], .slice ao ops.length co⟩, ⟨40, [], .int .i64 ((ops.length : Nat) : Int)⟩, ⟨41, [], .int .i64 (IntKind.wrap .i64 (((k : Nat) : Int) + 1))⟩]) (by kernel_rfl) (by simp only [hw18])) ?_
          refine N_heap (H' := (sx.G d2 Mx ++ (G ++ H))) (fun w h => (h.erase 0)) ?_
          refine N_round (s' := (k + 1, sx, Mx)) [0, 2, 7, 39, 40, 41] (by kernel_rfl) rfl ⟨(by omega), (by omega), hsx, (hcx.stay), hkx⟩ (by omega)
        ·
          obtain ⟨hp, ht, h6⟩ := keep_cond hc17
          have hk2 := kp_do hkx hp ht h6
          refine G_skip ?_
          refine N_then ?_
          refine G_seq ?_
          refine G_regionH ([(b4, .cells #[.int .i64 o.kind, .string o.path, .string o.to, .slice o.ba o.b.size o.bc, .int .i64 o.n, .slice o.ka o.k.length o.kc] 41 (0, 0))] :: H) (by kernel_rfl) ?_
          refine GH_pure (E' := [⟨75, [], pt d2⟩, ⟨0, [], .slice ab b.size cb⟩, ⟨2, [], .slice ka l.length kc⟩, ⟨7, [], pt d2⟩, ⟨9, [], pt b4⟩, ⟨39, [], .slice ao ops.length co⟩, ⟨40, [], .int .i64 ((ops.length : Nat) : Int)⟩, ⟨41, [], .int .i64 ((k : Nat) : Int)⟩]) 0 0 (by kernel_rfl) (fun w h => (Sat.dropMid (K := [_]) (A := G) (L := H) (Sat.dropMid (K := [_]) (A := sx.G d2 Mx) (L := (G ++ H)) h))) (by kernel_rfl) ?_
          refine GH_take' (E' := [⟨77, [], .agg #[.int .i64 o.kind, .string o.path, .string o.to, .slice o.ba o.b.size o.bc, .int .i64 o.n, .slice o.ka o.k.length o.kc]⟩, ⟨75, [], pt d2⟩, ⟨0, [], .slice ab b.size cb⟩, ⟨2, [], .slice ka l.length kc⟩, ⟨7, [], pt d2⟩, ⟨9, [], pt b4⟩, ⟨39, [], .slice ao ops.length co⟩, ⟨40, [], .int .i64 ((ops.length : Nat) : Int)⟩, ⟨41, [], .int .i64 ((k : Nat) : Int)⟩]) 2 (by kernel_rfl) (fun w h => (Sat.dropMid (K := [_]) (A := G) (L := H) (Sat.dropMid (K := [_]) (A := sx.G d2 Mx) (L := (G ++ H)) h))) ?_ ?_
          ·
            refine GL_loadA (i := 2) (ch := []) (b := b4) (off := 0) (l := [.int .i64 o.kind, .string o.path, .string o.to, .slice o.ba o.b.size o.bc, .int .i64 o.n, .slice o.ka o.k.length o.kc]) rfl rfl (by kernel_rfl) (by kernel_rfl) (by kernel_rfl) (by kernel_rfl) (by kernel_rfl) (by kernel_rfl) (At.grp 0 0 rfl rfl) (by kernel_rfl) ?_
            exact GL_yend (by kernel_rfl) (by kernel_rfl)
          refine GH_eff 1 (by kernel_rfl) (by kernel_rfl) (by kernel_rfl) ?_
          refine GL_call (i := 1) (ch := []) (f := 23) (fst := #[]) (caps := #[]) (vs := [.int .i64 0]) rfl rfl rfl (by kernel_rfl) (by kernel_rfl) Try.func23 rfl rfl (by kernel_rfl) (by kernel_rfl) (chSure_of (by kernel_rfl)) (xNew 0 [[(b4, .cells #[.int .i64 o.kind, .string o.path, .string o.to, .slice o.ba o.b.size o.bc, .int .i64 o.n, .slice o.ka o.k.length o.kc] 41 (0, 0))]] (sx.G d2 Mx) _ (G ++ H)) ?_
          rintro v H' ⟨x19, rfl, r8, hr8, rfl⟩
          refine GH_back (by kernel_rfl) (fun w h => (Sat.dropMid (K := [_]) (A := G) (L := H) (Sat.dropMid (K := [_]) (A := r8.G x19 (newM 0)) (L := (G ++ H)) (Sat.dropMid (K := [_]) (A := sx.G d2 Mx) (L := (r8.G x19 (newM 0) ++ (G ++ H))) h)))) ?_
          refine GH_eff 3 (by kernel_rfl) (by kernel_rfl) (by kernel_rfl) ?_
          refine GL_call (i := 3) (ch := []) (f := 24) (fst := #[]) (caps := #[]) (vs := [pt d2, pt x19, .agg #[.int .i64 o.kind, .string o.path, .string o.to, .slice o.ba o.b.size o.bc, .int .i64 o.n, .slice o.ka o.k.length o.kc]]) rfl rfl rfl (by kernel_rfl) (by kernel_rfl) Try.func24 rfl rfl (by kernel_rfl) (by kernel_rfl) (chSure_of (by kernel_rfl)) (dDoX hsx hr8 (hM1).small hN0 d2 x19 So o hb hk [[(b4, .cells #[.int .i64 o.kind, .string o.path, .string o.to, .slice o.ba o.b.size o.bc, .int .i64 o.n, .slice o.ka o.k.length o.kc] 41 (0, 0))]] _ (G ++ H) hO) ?_
          rintro v H' ⟨rfl, s9, hs9, rfl⟩
          refine GH_back (by kernel_rfl) (fun w h => (Sat.dropMid (K := [_]) (A := G) (L := H) (Sat.dropMid (K := [_]) (A := s9.G d2 (doM Mx o).2) (L := (G ++ H)) h))) ?_
          refine GH_done (E' := [⟨0, [], .slice ab b.size cb⟩, ⟨2, [], .slice ka l.length kc⟩, ⟨7, [], pt d2⟩, ⟨39, [], .slice ao ops.length co⟩, ⟨40, [], .int .i64 ((ops.length : Nat) : Int)⟩, ⟨41, [], .int .i64 ((k : Nat) : Int)⟩]) [0, 2, 7, 39, 40, 41] (by kernel_rfl) (by kernel_rfl) ?_
          refine N_then ?_
          refine G_seq ?_
          refine G_region ?_
          refine GL_pure (E' := [⟨80, [], pt d2⟩, ⟨0, [], .slice ab b.size cb⟩, ⟨2, [], .slice ka l.length kc⟩, ⟨7, [], pt d2⟩, ⟨39, [], .slice ao ops.length co⟩, ⟨40, [], .int .i64 ((ops.length : Nat) : Int)⟩, ⟨41, [], .int .i64 ((k : Nat) : Int)⟩]) [0] (by kernel_rfl) (j := 1) rfl ?_
          refine GL_call (i := 1) (ch := []) (f := 19) (fst := #[]) (caps := #[]) (vs := [pt d2, .string (ByteArray.mk #[122, 47, 107, 101, 112, 116])]) rfl rfl rfl (by kernel_rfl) (by kernel_rfl) Try.func19 rfl rfl (by kernel_rfl) (by kernel_rfl) (chSure_of (by kernel_rfl)) (dReadO hs9 (fun B hB => (hM2.small.size B hB).1) d2 (ByteArray.mk #[122, 47, 107, 101, 112, 116]) [[(b4, .cells #[.int .i64 o.kind, .string o.path, .string o.to, .slice o.ba o.b.size o.bc, .int .i64 o.n, .slice o.ka o.k.length o.kc] 41 (0, 0))]] _ (G ++ H) (kp_read hk2)) ?_
          rintro v H' ⟨ra20, rc21, g22, rfl, hO23, rfl⟩
          refine GL_fin (E' := [⟨0, [], .slice ab b.size cb⟩, ⟨2, [], .slice ka l.length kc⟩, ⟨7, [], pt d2⟩, ⟨10, [], .slice ra20 b.size rc21⟩, ⟨11, [], .int .i64 0⟩, ⟨39, [], .slice ao ops.length co⟩, ⟨40, [], .int .i64 ((ops.length : Nat) : Int)⟩, ⟨41, [], .int .i64 ((k : Nat) : Int)⟩]) [0, 0, 0, 0, 0] [0, 2, 7, 10, 11, 39, 40, 41] rfl (by kernel_rfl) ?_
          refine N_then ?_
          refine G_seq ?_
          refine G_region ?_
          refine GL_pure (E' := [⟨87, [(86, false)], .slice ra20 b.size rc21⟩, ⟨86, [], .bool false⟩, ⟨0, [], .slice ab b.size cb⟩, ⟨2, [], .slice ka l.length kc⟩, ⟨7, [], pt d2⟩, ⟨39, [], .slice ao ops.length co⟩, ⟨40, [], .int .i64 ((ops.length : Nat) : Int)⟩, ⟨41, [], .int .i64 ((k : Nat) : Int)⟩]) [0, 0, 0, 0] (by kernel_rfl) (j := 4) rfl ?_
          refine GL_bytesB (i := 4) (ch := [(86, false)]) (a := ra20) (cap := rc21) (e := 5) (S := (inG g22)) b rfl rfl (by kernel_rfl) (by kernel_rfl) (by kernel_rfl) (by kernel_rfl) (by kernel_rfl) (by kernel_rfl) (by kernel_rfl) (own_rd hO23) (at_inG 0 rfl) ?_
          refine GL_pure (E' := [⟨89, [(86, false)], .slice ab b.size cb⟩, ⟨88, [(86, false)], .string b⟩, ⟨86, [], .bool false⟩, ⟨0, [], .slice ab b.size cb⟩, ⟨2, [], .slice ka l.length kc⟩, ⟨7, [], pt d2⟩, ⟨39, [], .slice ao ops.length co⟩, ⟨40, [], .int .i64 ((ops.length : Nat) : Int)⟩, ⟨41, [], .int .i64 ((k : Nat) : Int)⟩]) [0] (by kernel_rfl) (j := 6) rfl ?_
          refine GL_bytesB (i := 6) (ch := [(86, false)]) (a := ab) (cap := cb) (e := 5) (S := Sb) b rfl rfl (by kernel_rfl) (by kernel_rfl) (by kernel_rfl) (by kernel_rfl) (by kernel_rfl) (by kernel_rfl) (by kernel_rfl) hA.rd (fun y o h => at_up (hA.at_ y o h)) ?_
          refine GL_pure (E' := [⟨91, [(86, false)], .bool (!(b.toList == b.toList))⟩, ⟨86, [], .bool false⟩, ⟨0, [], .slice ab b.size cb⟩, ⟨2, [], .slice ka l.length kc⟩, ⟨7, [], pt d2⟩, ⟨39, [], .slice ao ops.length co⟩, ⟨40, [], .int .i64 ((ops.length : Nat) : Int)⟩, ⟨41, [], .int .i64 ((k : Nat) : Int)⟩]) [0] (by kernel_rfl) (j := 8) rfl ?_
          refine GL_env (E' := [⟨91, [(86, false)], .bool false⟩, ⟨86, [], .bool false⟩, ⟨0, [], .slice ab b.size cb⟩, ⟨2, [], .slice ka l.length kc⟩, ⟨7, [], pt d2⟩, ⟨39, [], .slice ao ops.length co⟩, ⟨40, [], .int .i64 ((ops.length : Nat) : Int)⟩, ⟨41, [], .int .i64 ((k : Nat) : Int)⟩]) (by rw [beq_self_eq_true, Bool.not_true]) ?_
          refine GL_fin (E' := [⟨0, [], .slice ab b.size cb⟩, ⟨2, [], .slice ka l.length kc⟩, ⟨7, [], pt d2⟩, ⟨39, [], .slice ao ops.length co⟩, ⟨40, [], .int .i64 ((ops.length : Nat) : Int)⟩, ⟨41, [], .int .i64 ((k : Nat) : Int)⟩, ⟨92, [], .bool false⟩]) [3] [0, 2, 7, 39, 40, 41, 92] rfl (by kernel_rfl) ?_
          refine N_then ?_
          refine G_condf (by kernel_rfl) ?_
          refine G_skip ?_
          refine N_block ?_
          refine N_then ?_
          have hw24 : IntKind.wrap .i64 (((k : Nat) : Int) + 1) = ((k : Nat) : Int) + 1 := w64 (by omega) (by omega)
          refine G_pure (E' := [⟨0, [], .slice ab b.size cb⟩, ⟨2, [], .slice ka l.length kc⟩, ⟨7, [], pt d2⟩, ⟨39, [], .slice ao ops.length co⟩, ⟨40, [], .int .i64 ((ops.length : Nat) : Int)⟩, ⟨41, [], .int .i64 (((k : Nat) : Int) + 1)⟩]) [0, 0] [0, 2, 7, 39, 40, 41] rfl (Eq.trans (b := some [⟨0, [], .slice ab b.size cb⟩, ⟨2, [], .slice ka l.length kc⟩, ⟨7, [], pt d2⟩, ⟨39, [], .slice ao ops.length co⟩, ⟨40, [], .int .i64 ((ops.length : Nat) : Int)⟩, ⟨41, [], .int .i64 (IntKind.wrap .i64 (((k : Nat) : Int) + 1))⟩]) (by kernel_rfl) (by simp only [hw24])) ?_
          refine N_heap (H' := (s9.G d2 (doM Mx o).2 ++ (G ++ H))) (fun w h => ((h.erase 1).erase 0)) ?_
          refine N_round (s' := (k + 1, s9, (doM Mx o).2)) [0, 2, 7, 39, 40, 41] (by kernel_rfl) rfl ⟨(by omega), (by omega), hs9, hc2, hk2⟩ (by omega)
    ·
      replace hc3 := of_decide_eq_false hc3
      have hM1 := hcx.small (by omega) (by decide)
      refine G_exit ?_
      refine N_then_exit ?_
      refine N_then_exit ?_
      refine N_block_exit ?_
      refine N_then ?_
      refine G_seq ?_
      refine G_seq ?_
      have hw25 : Int.tmod ((l.length : Nat) : Int) 2 = ((l.length : Nat) : Int) % 2 := r64 (by omega)
      refine G_pure (E' := [⟨0, [], .slice ab b.size cb⟩, ⟨2, [], .slice ka l.length kc⟩, ⟨7, [], pt d2⟩, ⟨97, [], .bool ((((l.length : Nat) : Int) % 2) == 1)⟩]) [0, 0, 0, 0] [0, 2, 7, 97] rfl (Eq.trans (b := some [⟨0, [], .slice ab b.size cb⟩, ⟨2, [], .slice ka l.length kc⟩, ⟨7, [], pt d2⟩, ⟨97, [], .bool ((Int.tmod ((l.length : Nat) : Int) 2) == 1)⟩]) (by kernel_rfl) (by simp only [hw25])) ?_
      refine N_then ?_
      refine G_cond (b := (((l.length : Nat) : Int) % 2) == 1) (by kernel_rfl) (fun hc26 => ?_) (fun hc26 => ?_)
      ·
        have hodd := hc26
        -- L odd
        obtain ⟨nm, hmk, hmp⟩ := kp_more hkx fmore
        have hM4 := (scr_append hcx pZ (b := fmore) (by decide)).small (by omega) (by decide)
        have hMc := (scr_crash (scr_append hcx pZ (b := fmore) (by decide)) l).small (by omega) (by decide)
        refine G_region ?_
        refine GL_pure (E' := [⟨98, [], pt d2⟩, ⟨0, [], .slice ab b.size cb⟩, ⟨2, [], .slice ka l.length kc⟩, ⟨7, [], pt d2⟩]) [0] (by kernel_rfl) (j := 1) rfl ?_
        refine GL_buildSlice (i := 1) (ch := []) (e := 5) (l := [(0, .int .u8 109), (1, .int .u8 111), (2, .int .u8 114), (3, .int .u8 101)]) (c := [.int .u8 109, .int .u8 111, .int .u8 114, .int .u8 101]) rfl rfl (by kernel_rfl) (by kernel_rfl) (by kernel_rfl) (by kernel_rfl) (by kernel_rfl) (fun b27 => ?_)
        refine GL_sameBytes (i := 2) (ch := []) (t := 24) (e := 5) (b := b27) (off := 0) (l := 4) (cap := 4) (j := 0) (m := 0) rfl rfl (by kernel_rfl) (by kernel_rfl) (by kernel_rfl) (by kernel_rfl) (by kernel_rfl) (by kernel_rfl) rfl rfl (by rfl) ?_
        refine GL_call (i := 3) (ch := []) (f := 22) (fst := #[]) (caps := #[]) (vs := [pt d2, .string (ByteArray.mk #[122, 47, 107, 101, 112, 116]), .slice (some ⟨b27, 0, none⟩) 4 4]) rfl rfl rfl (by kernel_rfl) (by kernel_rfl) Try.func22 rfl rfl (by kernel_rfl) (by kernel_rfl) (chSure_of (by kernel_rfl)) (dAppend hsx (hM1).small d2 (ByteArray.mk #[122, 47, 107, 101, 112, 116]) fmore (by decide) (by decide) [[(b27, .cells #[.int .u8 109, .int .u8 111, .int .u8 114, .int .u8 101] 5 (4, 4 + 1))]] _ (G ++ H) ⟨some ⟨b27, 0, none⟩, 4, inG [(b27, .cells #[.int .u8 109, .int .u8 111, .int .u8 114, .int .u8 101] 5 (4, 4 + 1))], rfl, .inr (.inr ⟨b27, 0, rfl⟩), (Rd.lit (c := [.int .u8 109, .int .u8 111, .int .u8 114, .int .u8 101])), (at_inG 0 rfl)⟩ rfl) ?_
        rintro v H' ⟨rfl, s10, hs10, rfl⟩
        refine GL_fin (E' := [⟨0, [], .slice ab b.size cb⟩, ⟨2, [], .slice ka l.length kc⟩, ⟨7, [], pt d2⟩]) [] [0, 2, 7] rfl (by kernel_rfl) ?_
        refine N_then ?_
        refine G_seq ?_
        refine G_region ?_
        refine GL_pure (E' := [⟨103, [], .slice ka l.length kc⟩, ⟨102, [], pt d2⟩, ⟨0, [], .slice ab b.size cb⟩, ⟨2, [], .slice ka l.length kc⟩, ⟨7, [], pt d2⟩]) [0, 0] (by kernel_rfl) (j := 2) rfl ?_
        obtain ⟨bx, hx1, hx2, hx3, hxk⟩ := kp_crash hmk hmp l
        refine GL_call (i := 2) (ch := []) (f := 18) (fst := #[]) (caps := #[]) (vs := [pt d2, .slice ka l.length kc]) rfl rfl rfl (by kernel_rfl) (by kernel_rfl) Try.func18 rfl rfl (by kernel_rfl) (by kernel_rfl) (chSure_of (by kernel_rfl)) (dCrash (M' := (crashM (appendM Mx pZ fmore).2 l)) hs10 (hM4).small d2 l ka kc Sk hK [[(b27, .cells #[.int .u8 109, .int .u8 111, .int .u8 114, .int .u8 101] 5 (4, 4 + 1))]] _ (G ++ H) (fun y o h => at_up (hSk y o h)) rfl) ?_
        rintro v H' ⟨rfl, s11, hs11, rfl⟩
        refine GL_fin (E' := [⟨0, [], .slice ab b.size cb⟩, ⟨2, [], .slice ka l.length kc⟩, ⟨7, [], pt d2⟩]) [] [0, 2, 7] rfl (by kernel_rfl) ?_
        refine N_then ?_
        refine G_seq ?_
        refine G_region ?_
        refine GL_pure (E' := [⟨106, [], pt d2⟩, ⟨0, [], .slice ab b.size cb⟩, ⟨2, [], .slice ka l.length kc⟩]) [0] (by kernel_rfl) (j := 1) rfl ?_
        refine GL_call (i := 1) (ch := []) (f := 19) (fst := #[]) (caps := #[]) (vs := [pt d2, .string (ByteArray.mk #[122, 47, 107, 101, 112, 116])]) rfl rfl rfl (by kernel_rfl) (by kernel_rfl) Try.func19 rfl rfl (by kernel_rfl) (by kernel_rfl) (chSure_of (by kernel_rfl)) (dReadO hs11 (fun B hB => (hMc.small.size B hB).1) d2 (ByteArray.mk #[122, 47, 107, 101, 112, 116]) [[(b27, .cells #[.int .u8 109, .int .u8 111, .int .u8 114, .int .u8 101] 5 (4, 4 + 1))]] _ (G ++ H) (kp_read hxk)) ?_
        rintro v H' ⟨ra28, rc29, g30, rfl, hO31, rfl⟩
        refine GL_fin (E' := [⟨0, [], .slice ab b.size cb⟩, ⟨2, [], .slice ka l.length kc⟩, ⟨12, [], .slice ra28 bx.size rc29⟩, ⟨13, [], .int .i64 0⟩]) [0, 0, 0, 0, 0] [0, 2, 12, 13] rfl (by kernel_rfl) ?_
        refine N_then ?_
        refine G_seq ?_
        have hcap := (own_cap hO31)
        ·
          refine G_regionD (by kernel_rfl) (by kernel_rfl) ?_
          refine GL_pure (E' := [⟨117, [(112, true)], .bool (decide (((bx.size : Nat) : Int) ≥ ((b.size : Nat) : Int)))⟩, ⟨112, [], .bool true⟩, ⟨0, [], .slice ab b.size cb⟩, ⟨2, [], .slice ka l.length kc⟩, ⟨12, [], .slice ra28 bx.size rc29⟩]) [0, 0, 0, 0, 0, 0, 0, 0] (by kernel_rfl) (j := 8) rfl ?_
          refine GL_env (E' := [⟨117, [(112, true)], .bool true⟩, ⟨112, [], .bool true⟩, ⟨0, [], .slice ab b.size cb⟩, ⟨2, [], .slice ka l.length kc⟩, ⟨12, [], .slice ra28 bx.size rc29⟩]) (by rw [decide_eq_true (show ((bx.size : Nat) : Int) ≥ ((b.size : Nat) : Int) by omega)]) ?_
          refine GL_pure (E' := [⟨122, [(119, true)], .int .i64 ((b.size : Nat) : Int)⟩, ⟨120, [(119, true)], .slice ra28 bx.size rc29⟩, ⟨119, [], .bool true⟩, ⟨0, [], .slice ab b.size cb⟩, ⟨2, [], .slice ka l.length kc⟩, ⟨12, [], .slice ra28 bx.size rc29⟩]) [2, 0, 0, 0, 0] (by kernel_rfl) (j := 13) rfl ?_
          refine GL_sliceL (i := 13) (ch := [(119, true)]) (a := ra28) (len := bx.size) (cap := rc29) (e := 5) (sz := 1) (vl := none) (vh := (some (.int .i64 ((b.size : Nat) : Int)))) (l := 0) (h := ((b.size : Nat) : Int)) rfl rfl (by kernel_rfl) (by kernel_rfl) (by kernel_rfl) (by kernel_rfl) (by kernel_rfl) (by kernel_rfl) (by kernel_rfl) (by kernel_rfl) (by kernel_rfl) (by kernel_rfl) (fun hc => by omega) ?_
          refine GL_env (E' := [⟨123, [(119, true)], .slice (cutA ra28 rc29 0 1) ((bx.extract 0 b.size).size) (rc29 - 0)⟩, ⟨122, [(119, true)], .int .i64 ((b.size : Nat) : Int)⟩, ⟨120, [(119, true)], .slice ra28 bx.size rc29⟩, ⟨119, [], .bool true⟩, ⟨0, [], .slice ab b.size cb⟩, ⟨2, [], .slice ka l.length kc⟩, ⟨12, [], .slice ra28 bx.size rc29⟩]) (by have hz : ([⟨123, [(119, true)], .slice (cutA ra28 rc29 0 1) ((Int.toNat ((b.size : Nat) : Int)) - 0) (rc29 - 0)⟩, ⟨122, [(119, true)], .int .i64 ((b.size : Nat) : Int)⟩, ⟨120, [(119, true)], .slice ra28 bx.size rc29⟩, ⟨119, [], .bool true⟩, ⟨0, [], .slice ab b.size cb⟩, ⟨2, [], .slice ka l.length kc⟩, ⟨12, [], .slice ra28 bx.size rc29⟩] : List Sl) = [⟨123, [(119, true)], .slice (cutA ra28 rc29 0 1) ((bx.extract 0 b.size).size) (rc29 - 0)⟩, ⟨122, [(119, true)], .int .i64 ((b.size : Nat) : Int)⟩, ⟨120, [(119, true)], .slice ra28 bx.size rc29⟩, ⟨119, [], .bool true⟩, ⟨0, [], .slice ab b.size cb⟩, ⟨2, [], .slice ka l.length kc⟩, ⟨12, [], .slice ra28 bx.size rc29⟩] := (by rw [show Int.toNat ((b.size : Nat) : Int) - 0 = (bx.extract 0 b.size).size by (simp only [ByteArray.size_extract]; omega)]); exact Eq.trans (by kernel_rfl) hz) ?_
          refine GL_bytesB (i := 14) (ch := [(119, true)]) (a := (cutA ra28 rc29 0 1)) (cap := rc29 - 0) (e := 5) (S := (inG g30)) (bx.extract 0 b.size) rfl rfl (by kernel_rfl) (by kernel_rfl) (by kernel_rfl) (by kernel_rfl) (by kernel_rfl) (by kernel_rfl) (by kernel_rfl) (rd_cutb (own_rd hO31) (own_cap hO31) hx1.1) (at_inG 0 rfl) ?_
          refine GL_pure (E' := [⟨125, [(119, true)], .slice ab b.size cb⟩, ⟨124, [(119, true)], .string (bx.extract 0 b.size)⟩, ⟨119, [], .bool true⟩, ⟨0, [], .slice ab b.size cb⟩, ⟨2, [], .slice ka l.length kc⟩, ⟨12, [], .slice ra28 bx.size rc29⟩]) [0] (by kernel_rfl) (j := 16) rfl ?_
          refine GL_bytesB (i := 16) (ch := [(119, true)]) (a := ab) (cap := cb) (e := 5) (S := Sb) b rfl rfl (by kernel_rfl) (by kernel_rfl) (by kernel_rfl) (by kernel_rfl) (by kernel_rfl) (by kernel_rfl) (by kernel_rfl) hA.rd (fun y o h => at_up (hA.at_ y o h)) ?_
          refine GL_pure (E' := [⟨127, [(119, true)], .bool ((bx.extract 0 b.size).toList == b.toList)⟩, ⟨119, [], .bool true⟩, ⟨0, [], .slice ab b.size cb⟩, ⟨2, [], .slice ka l.length kc⟩, ⟨12, [], .slice ra28 bx.size rc29⟩]) [0] (by kernel_rfl) (j := 18) rfl ?_
          refine GL_env (E' := [⟨127, [(119, true)], .bool true⟩, ⟨119, [], .bool true⟩, ⟨0, [], .slice ab b.size cb⟩, ⟨2, [], .slice ka l.length kc⟩, ⟨12, [], .slice ra28 bx.size rc29⟩]) (by rw [← hx1.2, beq_self_eq_true]) ?_
          refine GL_pure (E' := [⟨133, [(129, true)], .bool ((Int.tmod ((l.length : Nat) : Int) 2) == 1)⟩, ⟨129, [], .bool true⟩, ⟨0, [], .slice ab b.size cb⟩, ⟨12, [], .slice ra28 bx.size rc29⟩]) [2, 0, 0, 0, 0, 0] (by kernel_rfl) (j := 24) rfl ?_
          refine GL_env (E' := [⟨133, [(129, true)], .bool true⟩, ⟨129, [], .bool true⟩, ⟨0, [], .slice ab b.size cb⟩, ⟨12, [], .slice ra28 bx.size rc29⟩]) (by rw [show Int.tmod ((l.length : Nat) : Int) 2 = ((l.length : Nat) : Int) % 2 from r64 (by omega), hodd]) ?_
          refine GL_fin (E' := [⟨6, [], .bool true⟩]) [0, 1, 1, 1, 1, 1, 2, 2, 0] [6] rfl (by kernel_rfl) ?_
          refine N_then ?_
          refine G_ret ?_
          refine N_ret [.tmp 6] [.bool true] rfl (by kernel_rfl) rfl ?_
          exact ⟨rfl, [g30, [(b27, .cells #[.int .u8 109, .int .u8 111, .int .u8 114, .int .u8 101] 5 (4, 4 + 1))]] ++ (s11.G d2 (crashM (appendM Mx pZ fmore).2 l) ++ G), by simp⟩
      ·
        have hodd := hc26
        -- L even
        have hMc := (scr_crash hcx l).small (by omega) (by decide)
        refine G_skip ?_
        refine N_then ?_
        refine G_seq ?_
        refine G_region ?_
        refine GL_pure (E' := [⟨103, [], .slice ka l.length kc⟩, ⟨102, [], pt d2⟩, ⟨0, [], .slice ab b.size cb⟩, ⟨2, [], .slice ka l.length kc⟩, ⟨7, [], pt d2⟩]) [0, 0] (by kernel_rfl) (j := 2) rfl ?_
        obtain ⟨bx, hx1, hx2, hx3, hxk⟩ := kp_crash hkx (pre_same b) l
        refine GL_call (i := 2) (ch := []) (f := 18) (fst := #[]) (caps := #[]) (vs := [pt d2, .slice ka l.length kc]) rfl rfl rfl (by kernel_rfl) (by kernel_rfl) Try.func18 rfl rfl (by kernel_rfl) (by kernel_rfl) (chSure_of (by kernel_rfl)) (dCrash (M' := (crashM Mx l)) hsx (hM1).small d2 l ka kc Sk hK [] _ (G ++ H) (fun y o h => at_up (hSk y o h)) rfl) ?_
        rintro v H' ⟨rfl, s12, hs12, rfl⟩
        refine GL_fin (E' := [⟨0, [], .slice ab b.size cb⟩, ⟨2, [], .slice ka l.length kc⟩, ⟨7, [], pt d2⟩]) [] [0, 2, 7] rfl (by kernel_rfl) ?_
        refine N_then ?_
        refine G_seq ?_
        refine G_region ?_
        refine GL_pure (E' := [⟨106, [], pt d2⟩, ⟨0, [], .slice ab b.size cb⟩, ⟨2, [], .slice ka l.length kc⟩]) [0] (by kernel_rfl) (j := 1) rfl ?_
        refine GL_call (i := 1) (ch := []) (f := 19) (fst := #[]) (caps := #[]) (vs := [pt d2, .string (ByteArray.mk #[122, 47, 107, 101, 112, 116])]) rfl rfl rfl (by kernel_rfl) (by kernel_rfl) Try.func19 rfl rfl (by kernel_rfl) (by kernel_rfl) (chSure_of (by kernel_rfl)) (dReadO hs12 (fun B hB => (hMc.small.size B hB).1) d2 (ByteArray.mk #[122, 47, 107, 101, 112, 116]) [] _ (G ++ H) (kp_read hxk)) ?_
        rintro v H' ⟨ra32, rc33, g34, rfl, hO35, rfl⟩
        refine GL_fin (E' := [⟨0, [], .slice ab b.size cb⟩, ⟨2, [], .slice ka l.length kc⟩, ⟨12, [], .slice ra32 bx.size rc33⟩, ⟨13, [], .int .i64 0⟩]) [0, 0, 0, 0, 0] [0, 2, 12, 13] rfl (by kernel_rfl) ?_
        refine N_then ?_
        refine G_seq ?_
        have hcap := (own_cap hO35)
        ·
          refine G_regionD (by kernel_rfl) (by kernel_rfl) ?_
          refine GL_pure (E' := [⟨117, [(112, true)], .bool (decide (((bx.size : Nat) : Int) ≥ ((b.size : Nat) : Int)))⟩, ⟨112, [], .bool true⟩, ⟨0, [], .slice ab b.size cb⟩, ⟨2, [], .slice ka l.length kc⟩, ⟨12, [], .slice ra32 bx.size rc33⟩]) [0, 0, 0, 0, 0, 0, 0, 0] (by kernel_rfl) (j := 8) rfl ?_
          refine GL_env (E' := [⟨117, [(112, true)], .bool true⟩, ⟨112, [], .bool true⟩, ⟨0, [], .slice ab b.size cb⟩, ⟨2, [], .slice ka l.length kc⟩, ⟨12, [], .slice ra32 bx.size rc33⟩]) (by rw [decide_eq_true (show ((bx.size : Nat) : Int) ≥ ((b.size : Nat) : Int) by omega)]) ?_
          refine GL_pure (E' := [⟨122, [(119, true)], .int .i64 ((b.size : Nat) : Int)⟩, ⟨120, [(119, true)], .slice ra32 bx.size rc33⟩, ⟨119, [], .bool true⟩, ⟨0, [], .slice ab b.size cb⟩, ⟨2, [], .slice ka l.length kc⟩, ⟨12, [], .slice ra32 bx.size rc33⟩]) [2, 0, 0, 0, 0] (by kernel_rfl) (j := 13) rfl ?_
          refine GL_sliceL (i := 13) (ch := [(119, true)]) (a := ra32) (len := bx.size) (cap := rc33) (e := 5) (sz := 1) (vl := none) (vh := (some (.int .i64 ((b.size : Nat) : Int)))) (l := 0) (h := ((b.size : Nat) : Int)) rfl rfl (by kernel_rfl) (by kernel_rfl) (by kernel_rfl) (by kernel_rfl) (by kernel_rfl) (by kernel_rfl) (by kernel_rfl) (by kernel_rfl) (by kernel_rfl) (by kernel_rfl) (fun hc => by omega) ?_
          refine GL_env (E' := [⟨123, [(119, true)], .slice (cutA ra32 rc33 0 1) ((bx.extract 0 b.size).size) (rc33 - 0)⟩, ⟨122, [(119, true)], .int .i64 ((b.size : Nat) : Int)⟩, ⟨120, [(119, true)], .slice ra32 bx.size rc33⟩, ⟨119, [], .bool true⟩, ⟨0, [], .slice ab b.size cb⟩, ⟨2, [], .slice ka l.length kc⟩, ⟨12, [], .slice ra32 bx.size rc33⟩]) (by have hz : ([⟨123, [(119, true)], .slice (cutA ra32 rc33 0 1) ((Int.toNat ((b.size : Nat) : Int)) - 0) (rc33 - 0)⟩, ⟨122, [(119, true)], .int .i64 ((b.size : Nat) : Int)⟩, ⟨120, [(119, true)], .slice ra32 bx.size rc33⟩, ⟨119, [], .bool true⟩, ⟨0, [], .slice ab b.size cb⟩, ⟨2, [], .slice ka l.length kc⟩, ⟨12, [], .slice ra32 bx.size rc33⟩] : List Sl) = [⟨123, [(119, true)], .slice (cutA ra32 rc33 0 1) ((bx.extract 0 b.size).size) (rc33 - 0)⟩, ⟨122, [(119, true)], .int .i64 ((b.size : Nat) : Int)⟩, ⟨120, [(119, true)], .slice ra32 bx.size rc33⟩, ⟨119, [], .bool true⟩, ⟨0, [], .slice ab b.size cb⟩, ⟨2, [], .slice ka l.length kc⟩, ⟨12, [], .slice ra32 bx.size rc33⟩] := (by rw [show Int.toNat ((b.size : Nat) : Int) - 0 = (bx.extract 0 b.size).size by (simp only [ByteArray.size_extract]; omega)]); exact Eq.trans (by kernel_rfl) hz) ?_
          refine GL_bytesB (i := 14) (ch := [(119, true)]) (a := (cutA ra32 rc33 0 1)) (cap := rc33 - 0) (e := 5) (S := (inG g34)) (bx.extract 0 b.size) rfl rfl (by kernel_rfl) (by kernel_rfl) (by kernel_rfl) (by kernel_rfl) (by kernel_rfl) (by kernel_rfl) (by kernel_rfl) (rd_cutb (own_rd hO35) (own_cap hO35) hx1.1) (at_inG 0 rfl) ?_
          refine GL_pure (E' := [⟨125, [(119, true)], .slice ab b.size cb⟩, ⟨124, [(119, true)], .string (bx.extract 0 b.size)⟩, ⟨119, [], .bool true⟩, ⟨0, [], .slice ab b.size cb⟩, ⟨2, [], .slice ka l.length kc⟩, ⟨12, [], .slice ra32 bx.size rc33⟩]) [0] (by kernel_rfl) (j := 16) rfl ?_
          refine GL_bytesB (i := 16) (ch := [(119, true)]) (a := ab) (cap := cb) (e := 5) (S := Sb) b rfl rfl (by kernel_rfl) (by kernel_rfl) (by kernel_rfl) (by kernel_rfl) (by kernel_rfl) (by kernel_rfl) (by kernel_rfl) hA.rd (fun y o h => at_up (hA.at_ y o h)) ?_
          refine GL_pure (E' := [⟨127, [(119, true)], .bool ((bx.extract 0 b.size).toList == b.toList)⟩, ⟨119, [], .bool true⟩, ⟨0, [], .slice ab b.size cb⟩, ⟨2, [], .slice ka l.length kc⟩, ⟨12, [], .slice ra32 bx.size rc33⟩]) [0] (by kernel_rfl) (j := 18) rfl ?_
          refine GL_env (E' := [⟨127, [(119, true)], .bool true⟩, ⟨119, [], .bool true⟩, ⟨0, [], .slice ab b.size cb⟩, ⟨2, [], .slice ka l.length kc⟩, ⟨12, [], .slice ra32 bx.size rc33⟩]) (by rw [← hx1.2, beq_self_eq_true]) ?_
          refine GL_pure (E' := [⟨133, [(129, true)], .bool ((Int.tmod ((l.length : Nat) : Int) 2) == 1)⟩, ⟨129, [], .bool true⟩, ⟨0, [], .slice ab b.size cb⟩, ⟨12, [], .slice ra32 bx.size rc33⟩]) [2, 0, 0, 0, 0, 0] (by kernel_rfl) (j := 24) rfl ?_
          refine GL_env (E' := [⟨133, [(129, true)], .bool false⟩, ⟨129, [], .bool true⟩, ⟨0, [], .slice ab b.size cb⟩, ⟨12, [], .slice ra32 bx.size rc33⟩]) (by rw [show Int.tmod ((l.length : Nat) : Int) 2 = ((l.length : Nat) : Int) % 2 from r64 (by omega), hodd]) ?_
          refine GL_pure (E' := [⟨139, [(134, false), (129, true)], .bool (((bx.size : Nat) : Int) == ((b.size : Nat) : Int))⟩, ⟨134, [(129, true)], .bool false⟩, ⟨129, [], .bool true⟩]) [0, 0, 0, 0, 0, 0] (by kernel_rfl) (j := 30) rfl ?_
          refine GL_env (E' := [⟨139, [(134, false), (129, true)], .bool true⟩, ⟨134, [(129, true)], .bool false⟩, ⟨129, [], .bool true⟩]) (by rw [hx2 rfl, beq_self_eq_true]) ?_
          refine GL_fin (E' := [⟨6, [], .bool true⟩]) [3, 2, 0] [6] rfl (by kernel_rfl) ?_
          refine N_then ?_
          refine G_ret ?_
          refine N_ret [.tmp 6] [.bool true] rfl (by kernel_rfl) rfl ?_
          exact ⟨rfl, [g34] ++ (s12.G d2 (crashM Mx l) ++ G), by simp⟩
end Go.Proofs.Ytbmieiffboenbaa
namespace Go.Proofs.Ytbmieiffboenbaa
open Go Go.ChangeShapes Go.WideShapes Go.ChangeAt Go.RowKit Go.Sw Go.Vf
set_option maxRecDepth 100000 in
theorem vfsKeeps_lifted (os : Os) (started : os.Started) (H : Type) (enc : TypeId × Value → H) :
    ReturnsInHanded {} Try.checked os 7 .any (Rows.vfsKeepsSpec.pre6 enc Try.prog Try.f7 Rows.vfsKeepsRow.domain false) (Rows.vfsKeepsSpec.post enc Try.prog Try.f7 false true false false) := by
  refine returnsInHanded_of_change (C := Try.checked) ownKnob_ started (by kernel_rfl) Try.func7
    (ChangeSpec.witness6 (enc := enc) (C := Try.checked) false ⟨#[], #[.slice none 0 0, .slice none 0 0, .slice none 0 0], []⟩ 8 (by kernel_rfl) (by kernel_rfl) (by kernel_rfl) (by kernel_rfl)) ?_
  intro W base args ds gs before hval0 hW hcnd _
  have hval : ∀ (j : Nat) t v, Try.f7.params[j]? = some t → args[j]? = some v → Value.okWide Try.prog W .any base t v := hval0
  have hW' := hW
  obtain ⟨p, q, hA0, hV, rfl, _, _⟩ := hW
  have hA : DataW.TrodAll enc Try.prog W 0 (fun _ => true) true Try.f7.params.toList args.toList ds p := hA0
  rw [Try.params7] at hA hval
  obtain ⟨v0, v1, v2, d0, d1, d2, q0, q1, q2, rfl, rfl, rfl, h0, h1, h2⟩ := trodAll_three hA
  obtain ⟨rfl, rfl⟩ := trodVars_none hV
  obtain ⟨ab, cb, b, rfl, hBB, hsb⟩ := open_bytesA (hval 0 24 v0 rfl rfl) h0
  obtain ⟨ao, co, ops, rfl, ho1, ho2, ho3, ho4⟩ := open_script (hval 1 38 v1 rfl rfl) h1
  obtain ⟨ka, kc, l, rfl, hk1, hk2, hk3, hk4⟩ := open_intsA (hval 2 25 v2 rfl rfl) h2
  simp only [List.append_nil] at hW'
  have hlt : ∀ x ∈ q0 ++ q1 ++ q2, x.block < W.heap.size := fun x hx => by simpa using hW'.lt x hx
  refine (vfsKeeps_ ab ao ka cb co kc (SW W) (SW W) (SW W) b ops l W hBB ho1 ho4 ho3 (fun y o h => sw_at h) hk1 hk2 hk3 hk4 hsb (fun y o h => sw_at h) [] W (sat_nil W)).mono fun e W' ⟨v, H', he, ⟨hv, G, hH⟩, hs⟩ => ?_
  subst he; subst hv; subst hH
  have hb := hs.below
  refine ⟨_, rfl, ⟨_, _, _, [], q0 ++ q1 ++ q2, [], hW', trodAll_mk1 (shut_bool Try.underlying4 _), ?_, rfl, hb.frame _, fun h => by cases h⟩⟩
  have k0 := Below.trod laidOut_ (by kernel_rfl) (of_decide_eq_true (by kernel_rfl)) h0 hb (fun x hx => hlt x (by simp [hx]))
  have k1 := Below.trod laidOut_ (by kernel_rfl) (of_decide_eq_true (by kernel_rfl)) h1 hb (fun x hx => hlt x (by simp [hx]))
  have k2 := Below.trod laidOut_ (by kernel_rfl) (of_decide_eq_true (by kernel_rfl)) h2 hb (fun x hx => hlt x (by simp [hx]))
  have k := trodAll_mk3 k0 k1 k2
  rw [← List.append_assoc] at k
  exact k
theorem vfsKeeps_said : Rows.VfsKeepsSaid :=
  OpenClaim.holds_of_wide 7 Try.f7 rfl rfl rfl rfl rfl rfl rfl ⟨rfl, rfl, rfl, rfl, rfl⟩ rfl rfl rfl rfl rfl (by kernel_rfl) Try.func7 (by kernel_rfl)
    (of_decide_eq_true (by kernel_rfl)) (by unfold Func.isWrapper; first | (rw [if_pos (by decide +kernel)]; kernel_rfl) | (rw [if_neg (by decide +kernel)]; exact ⟨rfl, rfl⟩))
    (fun os started H enc _ => vfsKeeps_lifted os started H enc)
#print axioms vfsKeeps_said
end Go.Proofs.Ytbmieiffboenbaa
