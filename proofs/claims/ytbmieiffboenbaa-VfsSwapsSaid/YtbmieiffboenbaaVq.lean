/- VfsSwaps walked. Conditions: how the arguments lie. -/
import Derived.Test.YtbmieiffboenbaaDw
import Derived.Test.YtbmieiffboenbaaSw
namespace Go.Proofs.Ytbmieiffboenbaa
open Go.Sw Go.Lib Go.Vf Go.RowKit


set_option maxHeartbeats 2000000 in
theorem vfsSwaps_ (aa ab ka : Option Addr) (ca cb kc : Nat) (Sa Sb Sk : Nat → Obj → Prop) (a b : ByteArray) (l : List Int) (W0 : World) (hA : BytesA W0 [] aa ca Sa a) (hB : BytesA W0 [] ab cb Sb b) (hK1 : Rd Sk ka (l.map (Value.int .i64))) (hK2 : l.length ≤ kc) (hK3 : ∀ x ∈ l, -9223372036854775808 ≤ x ∧ x ≤ 9223372036854775807) (hK4 : l.length ≤ 9223372036854775807) (hSk : ∀ y o, Sk y o → At W0 [] y o) (has : a.size ≤ 9223372036854775807) (hbs : b.size ≤ 9223372036854775807) (H : List Grp) : Tri Try.prog 4 #[.slice aa a.size ca, .slice ab b.size cb, .slice ka l.length kc] W0 H (fun v H' => v = .bool true ∧ ∃ G, H' = G ++ H) := by
  refine Tri_of (args := [.slice aa a.size ca, .slice ab b.size cb, .slice ka l.length kc]) (n := 99) Try.func4 rfl rfl (Nat.le_of_ble_eq_true rfl) ?_
  refine G_seq ?_
  refine G_pure (E' := [⟨0, [], .slice aa a.size ca⟩, ⟨1, [], .slice ab b.size cb⟩, ⟨2, [], .slice ka l.length kc⟩]) [0] [0, 1, 2] rfl (by kernel_rfl) ?_
  refine N_then ?_
  refine G_seq ?_
  refine G_seq ?_
  refine G_region ?_
  refine GL_call (i := 0) (ch := []) (f := 9) (fst := #[]) (caps := #[]) (vs := []) rfl rfl rfl (by kernel_rfl) (by kernel_rfl) Try.func9 rfl rfl (by kernel_rfl) (by kernel_rfl) (chSure_of (by kernel_rfl)) (vFirst _ _) ?_
  rintro v H' ⟨rfl, G, rfl⟩
  refine GL_fin (E' := [⟨0, [], .slice aa a.size ca⟩, ⟨1, [], .slice ab b.size cb⟩, ⟨2, [], .slice ka l.length kc⟩, ⟨14, [], .bool false⟩]) [0] [0, 1, 2, 14] rfl (by kernel_rfl) ?_
  refine N_then ?_
  refine G_condf (by kernel_rfl) ?_
  refine G_skip ?_
  refine N_then ?_
  refine G_seq ?_
  refine G_seq ?_
  refine G_pure (E' := [⟨0, [], .slice aa a.size ca⟩, ⟨1, [], .slice ab b.size cb⟩, ⟨2, [], .slice ka l.length kc⟩, ⟨17, [], .bool (((l.length : Nat) : Int) == 0)⟩]) [0, 0, 0] [0, 1, 2, 17] rfl (by kernel_rfl) ?_
  refine N_then ?_
  refine G_cond (b := ((l.length : Nat) : Int) == 0) (by kernel_rfl) (fun hc1 => ?_) (fun hc1 => ?_)
  ·
    -- L big
    refine G_seq ?_
    refine G_pure (E' := [⟨6, [], .bool true⟩]) [0] [6] rfl (by kernel_rfl) ?_
    refine N_then ?_
    refine G_ret ?_
    refine N_then_ret ?_
    refine N_ret [.tmp 6] [.bool true] rfl (by kernel_rfl) rfl ?_
    exact ⟨rfl, _, rfl⟩
  ·
    have hne : l ≠ [] := by (intro h; subst h; simp at hc1)
    have hkl : 0 < l.length := List.length_pos_iff.2 hne
    have hkc : l.length ≤ kc := hK2
    refine G_skip ?_
    refine N_then ?_
    refine G_seq ?_
    refine G_regionD (by kernel_rfl) (by kernel_rfl) ?_
    refine GL_pure (E' := [⟨18, [], .slice ka l.length kc⟩, ⟨0, [], .slice aa a.size ca⟩, ⟨1, [], .slice ab b.size cb⟩, ⟨2, [], .slice ka l.length kc⟩, ⟨17, [], .bool (((l.length : Nat) : Int) == 0)⟩]) [0] (by kernel_rfl) (j := 1) rfl ?_
    refine GL_indexAddr (i := 1) (ch := []) (a := ka) (len := l.length) (cap := kc) (kd := .i64) (j := 0) (e := 3) (sz := 1) (S := Sk) (cs := (l.map (Value.int .i64))) rfl rfl (by kernel_rfl) (by kernel_rfl) (by kernel_rfl) (by kernel_rfl) (by kernel_rfl) (by kernel_rfl) (by kernel_rfl) hK1 (fun _ => by exact ⟨by decide, by (cases l with | nil => exact absurd rfl hne | cons x r => simp <;> omega), by (cases l with | nil => exact absurd rfl hne | cons x r => simp)⟩) ?_
    refine GL_loadS (i := 2) (ch := []) (a := ka) (q := 0 * 1) (S := Sk) (cs := (l.map (Value.int .i64))) (v := .int .i64 (l.headD 0)) rfl rfl (by kernel_rfl) (by kernel_rfl) (by kernel_rfl) (by kernel_rfl) (by kernel_rfl) hK1 (fun y o h => at_up (hSk y o h)) (fun _ => (by cases l with | nil => exact absurd rfl hne | cons x r => rfl)) ?_
    refine GL_pure (E' := [⟨21, [], .slice ka l.length kc⟩, ⟨20, [], .int .i64 (l.headD 0)⟩, ⟨19, [], .pointer (some (eltA ka (0 * 1)))⟩, ⟨18, [], .slice ka l.length kc⟩, ⟨0, [], .slice aa a.size ca⟩, ⟨1, [], .slice ab b.size cb⟩, ⟨2, [], .slice ka l.length kc⟩, ⟨17, [], .bool (((l.length : Nat) : Int) == 0)⟩]) [0] (by kernel_rfl) (j := 4) rfl ?_
    refine GL_sliceL (i := 4) (ch := []) (a := ka) (len := l.length) (cap := kc) (e := 3) (sz := 1) (vl := (some (.int .i64 1))) (vh := none) (l := 1) (h := ((l.length : Nat) : Int)) rfl rfl (by kernel_rfl) (by kernel_rfl) (by kernel_rfl) (by kernel_rfl) (by kernel_rfl) (by kernel_rfl) (by kernel_rfl) (by kernel_rfl) (by kernel_rfl) (by kernel_rfl) (fun _ => by omega) ?_
    refine GL_fin (E' := [⟨0, [], .slice aa a.size ca⟩, ⟨1, [], .slice ab b.size cb⟩, ⟨2, [], .slice (cutA ka kc 1 1) ((Int.toNat ((l.length : Nat) : Int)) - 1) (kc - 1)⟩, ⟨7, [], .int .i64 (l.headD 0)⟩]) [0, 0] [0, 1, 2, 7] rfl (by kernel_rfl) ?_
    refine N_then ?_
    refine G_seq ?_
    refine G_seq ?_
    refine G_pure (E' := [⟨0, [], .slice aa a.size ca⟩, ⟨1, [], .slice ab b.size cb⟩, ⟨2, [], .slice (cutA ka kc 1 1) ((Int.toNat ((l.length : Nat) : Int)) - 1) (kc - 1)⟩, ⟨7, [], .int .i64 (l.headD 0)⟩, ⟨33, [], .bool ((decide ((if ((b.size : Nat) : Int) > ((a.size : Nat) : Int) then ((b.size : Nat) : Int) else ((a.size : Nat) : Int)) > 1000)) || (decide ((((Int.toNat ((l.length : Nat) : Int)) - 1 : Nat) : Int) > 100)))⟩]) [0, 0, 0, 0, 0, 0, 0, 0, 0, 0, 5] [0, 1, 2, 7, 33] rfl (by kernel_rfl) ?_
    refine N_then ?_
    refine G_cond (b := (decide ((if ((b.size : Nat) : Int) > ((a.size : Nat) : Int) then ((b.size : Nat) : Int) else ((a.size : Nat) : Int)) > 1000)) || (decide ((((Int.toNat ((l.length : Nat) : Int)) - 1 : Nat) : Int) > 100))) (by kernel_rfl) (fun hc2 => ?_) (fun hc2 => ?_)
    ·
      -- L big
      refine G_seq ?_
      refine G_pure (E' := [⟨6, [], .bool true⟩]) [0] [6] rfl (by kernel_rfl) ?_
      refine N_then ?_
      refine G_ret ?_
      refine N_then_ret ?_
      refine N_ret [.tmp 6] [.bool true] rfl (by kernel_rfl) rfl ?_
      exact ⟨rfl, _, rfl⟩
    ·
      have hab : a.size ≤ 1000 ∧ b.size ≤ 1000 ∧ l.length ≤ 101 := by (simp at hc2; omega)
      have ha := hab.1
      have hb := hab.2.1
      have hK : KsOk Sk ⟨l, ka, kc⟩ := ⟨hK1, hK2, by (show l.length ≤ 1000000000; omega), hK3⟩
      refine G_skip ?_
      refine N_then ?_
      refine G_seq ?_
      refine G_region ?_
      refine GL_call (i := 0) (ch := []) (f := 12) (fst := #[]) (caps := #[]) (vs := [.int .i64 1048576]) rfl rfl rfl (by kernel_rfl) (by kernel_rfl) Try.func12 rfl rfl (by kernel_rfl) (by kernel_rfl) (chSure_of (by kernel_rfl)) (dNew 1048576 (M := (newM 1048576)) _ _ rfl) ?_
      rintro v H' ⟨d3, rfl, s1, hs1, rfl⟩
      refine GL_fin (E' := [⟨0, [], .slice aa a.size ca⟩, ⟨1, [], .slice ab b.size cb⟩, ⟨2, [], .slice (cutA ka kc 1 1) ((Int.toNat ((l.length : Nat) : Int)) - 1) (kc - 1)⟩, ⟨7, [], .int .i64 (l.headD 0)⟩, ⟨8, [], .pointer (some ⟨d3, 0, none⟩)⟩]) [0] [0, 1, 2, 7, 8] rfl (by kernel_rfl) ?_
      refine N_then ?_
      refine G_seq ?_
      refine G_region ?_
      refine GL_pure (E' := [⟨36, [], .slice aa a.size ca⟩, ⟨35, [], .pointer (some ⟨d3, 0, none⟩)⟩, ⟨0, [], .slice aa a.size ca⟩, ⟨1, [], .slice ab b.size cb⟩, ⟨2, [], .slice (cutA ka kc 1 1) ((Int.toNat ((l.length : Nat) : Int)) - 1) (kc - 1)⟩, ⟨7, [], .int .i64 (l.headD 0)⟩, ⟨8, [], .pointer (some ⟨d3, 0, none⟩)⟩]) [0, 0] (by kernel_rfl) (j := 2) rfl ?_
      refine GL_call (i := 2) (ch := []) (f := 13) (fst := #[]) (caps := #[]) (vs := [.pointer (some ⟨d3, 0, none⟩), .string (ByteArray.mk #[112]), .slice aa a.size ca]) rfl rfl rfl (by kernel_rfl) (by kernel_rfl) Try.func13 rfl rfl (by kernel_rfl) (by kernel_rfl) (chSure_of (by kernel_rfl)) (dWrite hs1 sm0 d3 (ByteArray.mk #[112]) a (by decide) (by omega) [] _ (G ++ H) hA.v.up (write_p ha)) ?_
      rintro v H' ⟨rfl, s2, hs2, rfl⟩
      refine GL_fin (E' := [⟨0, [], .slice aa a.size ca⟩, ⟨1, [], .slice ab b.size cb⟩, ⟨2, [], .slice (cutA ka kc 1 1) ((Int.toNat ((l.length : Nat) : Int)) - 1) (kc - 1)⟩, ⟨7, [], .int .i64 (l.headD 0)⟩, ⟨8, [], .pointer (some ⟨d3, 0, none⟩)⟩]) [] [0, 1, 2, 7, 8] rfl (by kernel_rfl) ?_
      refine N_then ?_
      refine G_seq ?_
      refine G_region ?_
      refine GL_pure (E' := [⟨38, [], .pointer (some ⟨d3, 0, none⟩)⟩, ⟨0, [], .slice aa a.size ca⟩, ⟨1, [], .slice ab b.size cb⟩, ⟨2, [], .slice (cutA ka kc 1 1) ((Int.toNat ((l.length : Nat) : Int)) - 1) (kc - 1)⟩, ⟨7, [], .int .i64 (l.headD 0)⟩, ⟨8, [], .pointer (some ⟨d3, 0, none⟩)⟩]) [0] (by kernel_rfl) (j := 1) rfl ?_
      refine GL_call (i := 1) (ch := []) (f := 14) (fst := #[]) (caps := #[]) (vs := [.pointer (some ⟨d3, 0, none⟩), .string (ByteArray.mk #[112])]) rfl rfl rfl (by kernel_rfl) (by kernel_rfl) Try.func14 rfl rfl (by kernel_rfl) (by kernel_rfl) (chSure_of (by kernel_rfl)) (dSync hs2 (sm1 ha) d3 (ByteArray.mk #[112]) (by decide) [] _ (G ++ H) sync_p) ?_
      rintro v H' ⟨rfl, s3, hs3, rfl⟩
      refine GL_fin (E' := [⟨0, [], .slice aa a.size ca⟩, ⟨1, [], .slice ab b.size cb⟩, ⟨2, [], .slice (cutA ka kc 1 1) ((Int.toNat ((l.length : Nat) : Int)) - 1) (kc - 1)⟩, ⟨7, [], .int .i64 (l.headD 0)⟩, ⟨8, [], .pointer (some ⟨d3, 0, none⟩)⟩]) [] [0, 1, 2, 7, 8] rfl (by kernel_rfl) ?_
      refine N_then ?_
      refine G_seq ?_
      refine G_region ?_
      refine GL_pure (E' := [⟨40, [], .pointer (some ⟨d3, 0, none⟩)⟩, ⟨0, [], .slice aa a.size ca⟩, ⟨1, [], .slice ab b.size cb⟩, ⟨2, [], .slice (cutA ka kc 1 1) ((Int.toNat ((l.length : Nat) : Int)) - 1) (kc - 1)⟩, ⟨7, [], .int .i64 (l.headD 0)⟩, ⟨8, [], .pointer (some ⟨d3, 0, none⟩)⟩]) [0] (by kernel_rfl) (j := 1) rfl ?_
      refine GL_call (i := 1) (ch := []) (f := 15) (fst := #[]) (caps := #[]) (vs := [.pointer (some ⟨d3, 0, none⟩), .string (ByteArray.mk #[])]) rfl rfl rfl (by kernel_rfl) (by kernel_rfl) Try.func15 rfl rfl (by kernel_rfl) (by kernel_rfl) (chSure_of (by kernel_rfl)) (dSyncDir hs3 (sm2 ha) d3 (ByteArray.mk #[]) (by decide) [] _ (G ++ H) sdir_p) ?_
      rintro v H' ⟨rfl, s4, hs4, rfl⟩
      refine GL_fin (E' := [⟨0, [], .slice aa a.size ca⟩, ⟨1, [], .slice ab b.size cb⟩, ⟨2, [], .slice (cutA ka kc 1 1) ((Int.toNat ((l.length : Nat) : Int)) - 1) (kc - 1)⟩, ⟨7, [], .int .i64 (l.headD 0)⟩, ⟨8, [], .pointer (some ⟨d3, 0, none⟩)⟩]) [] [0, 1, 2, 7, 8] rfl (by kernel_rfl) ?_
      refine N_then ?_
      refine G_seq ?_
      refine G_region ?_
      refine GL_pure (E' := [⟨46, [], .int .i64 (IntKind.wrap .i64 (Int.tmod (IntKind.wrap .u64 (l.headD 0)) 6))⟩, ⟨45, [], .int .u64 (Int.tmod (IntKind.wrap .u64 (l.headD 0)) 6)⟩, ⟨44, [], .int .u64 (IntKind.wrap .u64 (l.headD 0))⟩, ⟨43, [], .int .i64 (l.headD 0)⟩, ⟨42, [], .pointer (some ⟨d3, 0, none⟩)⟩, ⟨0, [], .slice aa a.size ca⟩, ⟨1, [], .slice ab b.size cb⟩, ⟨2, [], .slice (cutA ka kc 1 1) ((Int.toNat ((l.length : Nat) : Int)) - 1) (kc - 1)⟩, ⟨7, [], .int .i64 (l.headD 0)⟩, ⟨8, [], .pointer (some ⟨d3, 0, none⟩)⟩]) [0, 0, 0, 0, 0] (by kernel_rfl) (j := 5) rfl ?_
      obtain ⟨n, hn⟩ : ∃ n : Int, n = (if 0 > (IntKind.wrap .i64 (Int.tmod (IntKind.wrap .u64 (l.headD 0)) 6)) then 0 else (IntKind.wrap .i64 (Int.tmod (IntKind.wrap .u64 (l.headD 0)) 6))) := ⟨_, rfl⟩
      have hni : -9223372036854775808 ≤ n ∧ n ≤ 9223372036854775807 := by (have := i64_in (Int.tmod (IntKind.wrap .u64 (l.headD 0)) 6); rw [hn]; omega)
      refine GL_call (i := 5) (ch := []) (f := 16) (fst := #[]) (caps := #[]) (vs := [.pointer (some ⟨d3, 0, none⟩), .int .i64 (IntKind.wrap .i64 (Int.tmod (IntKind.wrap .u64 (l.headD 0)) 6)), .bool false]) rfl rfl rfl (by kernel_rfl) (by kernel_rfl) Try.func16 rfl rfl (by kernel_rfl) (by kernel_rfl) (chSure_of (by kernel_rfl)) (dFail hs4 d3 (IntKind.wrap .i64 (Int.tmod (IntKind.wrap .u64 (l.headD 0)) 6)) false [] _ (G ++ H) (fail_pn hn)) ?_
      rintro v H' ⟨rfl, s5, hs5, rfl⟩
      refine GL_fin (E' := [⟨0, [], .slice aa a.size ca⟩, ⟨1, [], .slice ab b.size cb⟩, ⟨2, [], .slice (cutA ka kc 1 1) ((Int.toNat ((l.length : Nat) : Int)) - 1) (kc - 1)⟩, ⟨8, [], .pointer (some ⟨d3, 0, none⟩)⟩]) [] [0, 1, 2, 8] rfl (by kernel_rfl) ?_
      refine N_then ?_
      refine G_seq ?_
      rcases swc n with h1 | ⟨h1, h2⟩ | ⟨h1, h2, h3⟩ | ⟨h1, h2, h3, h4⟩ | ⟨h1, h2, h3, h4⟩
      ·
        -- L c0
        refine G_region ?_
        refine GL_pure (E' := [⟨49, [], .slice ab b.size cb⟩, ⟨48, [], .pointer (some ⟨d3, 0, none⟩)⟩, ⟨0, [], .slice aa a.size ca⟩, ⟨1, [], .slice ab b.size cb⟩, ⟨2, [], .slice (cutA ka kc 1 1) ((Int.toNat ((l.length : Nat) : Int)) - 1) (kc - 1)⟩, ⟨8, [], .pointer (some ⟨d3, 0, none⟩)⟩]) [0, 0] (by kernel_rfl) (j := 2) rfl ?_
        refine GL_call (i := 2) (ch := []) (f := 13) (fst := #[]) (caps := #[]) (vs := [.pointer (some ⟨d3, 0, none⟩), .string (ByteArray.mk #[113]), .slice ab b.size cb]) rfl rfl rfl (by kernel_rfl) (by kernel_rfl) Try.func13 rfl rfl (by kernel_rfl) (by kernel_rfl) (chSure_of (by kernel_rfl)) (dWrite hs5 (sm4 ha hni) d3 (ByteArray.mk #[113]) b (by decide) (by omega) [] _ (G ++ H) hB.v.up (write_q0 h1)) ?_
        rintro v H' ⟨rfl, s6, hs6, rfl⟩
        refine GL_fin (E' := [⟨0, [], .slice aa a.size ca⟩, ⟨1, [], .slice ab b.size cb⟩, ⟨2, [], .slice (cutA ka kc 1 1) ((Int.toNat ((l.length : Nat) : Int)) - 1) (kc - 1)⟩, ⟨8, [], .pointer (some ⟨d3, 0, none⟩)⟩, ⟨9, [], .bool false⟩]) [0, 0, 1, 1, 1, 3, 0, 1, 1, 1, 3, 0] [0, 1, 2, 8, 9] rfl (by kernel_rfl) ?_
        refine N_then ?_
        refine G_seq ?_
        refine G_pure (E' := [⟨0, [], .slice aa a.size ca⟩, ⟨1, [], .slice ab b.size cb⟩, ⟨2, [], .slice (cutA ka kc 1 1) ((Int.toNat ((l.length : Nat) : Int)) - 1) (kc - 1)⟩, ⟨8, [], .pointer (some ⟨d3, 0, none⟩)⟩, ⟨9, [], .bool false⟩, ⟨10, [], .bool false⟩]) [0, 0, 1, 1, 1, 3, 0] [0, 1, 2, 8, 9, 10] rfl (by kernel_rfl) ?_
        refine N_then ?_
        refine G_seq ?_
        refine G_region ?_
        refine GL_pure (E' := [⟨69, [], .slice (cutA ka kc 1 1) ((Int.toNat ((l.length : Nat) : Int)) - 1) (kc - 1)⟩, ⟨68, [], .pointer (some ⟨d3, 0, none⟩)⟩, ⟨0, [], .slice aa a.size ca⟩, ⟨1, [], .slice ab b.size cb⟩, ⟨2, [], .slice (cutA ka kc 1 1) ((Int.toNat ((l.length : Nat) : Int)) - 1) (kc - 1)⟩, ⟨8, [], .pointer (some ⟨d3, 0, none⟩)⟩, ⟨9, [], .bool false⟩, ⟨10, [], .bool false⟩]) [0, 0] (by kernel_rfl) (j := 2) rfl ?_
        refine GL_call (i := 2) (ch := []) (f := 18) (fst := #[]) (caps := #[]) (vs := [.pointer (some ⟨d3, 0, none⟩), .slice (cutA ka kc 1 1) ((Int.toNat ((l.length : Nat) : Int)) - 1) (kc - 1)]) rfl rfl rfl (by kernel_rfl) (by kernel_rfl) Try.func18 rfl rfl (by kernel_rfl) (by kernel_rfl) (chSure_of (by kernel_rfl)) ((by have := dCrash hs6 (sm4 ha hni) d3 (l.drop 1) (cutA ka kc 1 1) (kc - 1) Sk (ksNext_ok1 hK hne) [] _ (G ++ H) (fun y o h => at_up (hSk y o h)); rw [List.length_drop] at this; exact this)) ?_
        rintro v H' ⟨rfl, s7, hs7, rfl⟩
        refine GL_fin (E' := [⟨0, [], .slice aa a.size ca⟩, ⟨1, [], .slice ab b.size cb⟩, ⟨8, [], .pointer (some ⟨d3, 0, none⟩)⟩, ⟨9, [], .bool false⟩, ⟨10, [], .bool false⟩]) [] [0, 1, 8, 9, 10] rfl (by kernel_rfl) ?_
        refine N_then ?_
        refine G_seq ?_
        refine G_region ?_
        refine GL_pure (E' := [⟨72, [], .pointer (some ⟨d3, 0, none⟩)⟩, ⟨0, [], .slice aa a.size ca⟩, ⟨1, [], .slice ab b.size cb⟩, ⟨8, [], .pointer (some ⟨d3, 0, none⟩)⟩, ⟨9, [], .bool false⟩, ⟨10, [], .bool false⟩]) [0] (by kernel_rfl) (j := 1) rfl ?_
        refine GL_call (i := 1) (ch := []) (f := 19) (fst := #[]) (caps := #[]) (vs := [.pointer (some ⟨d3, 0, none⟩), .string (ByteArray.mk #[112])]) rfl rfl rfl (by kernel_rfl) (by kernel_rfl) Try.func19 rfl rfl (by kernel_rfl) (by kernel_rfl) (chSure_of (by kernel_rfl)) (dRead hs7 (crash_size (sm4 ha hni) _) d3 (ByteArray.mk #[112]) [] _ (G ++ H) end4) ?_
        rintro v H' ⟨ra4, rc5, g6, rfl, hrc7, hrd8, rfl⟩
        refine GL_fin (E' := [⟨0, [], .slice aa a.size ca⟩, ⟨1, [], .slice ab b.size cb⟩, ⟨9, [], .bool false⟩, ⟨10, [], .bool false⟩, ⟨11, [], .slice ra4 a.size rc5⟩, ⟨12, [], .int .i64 0⟩]) [0, 0, 0, 0, 0] [0, 1, 9, 10, 11, 12] rfl (by kernel_rfl) ?_
        refine N_then ?_
        refine G_seq ?_
        refine G_region ?_
        refine GL_pure (E' := [⟨79, [(78, true)], .slice ra4 a.size rc5⟩, ⟨78, [], .bool true⟩, ⟨77, [], .bool true⟩, ⟨76, [], .int .i64 0⟩, ⟨0, [], .slice aa a.size ca⟩, ⟨1, [], .slice ab b.size cb⟩, ⟨9, [], .bool false⟩, ⟨10, [], .bool false⟩, ⟨11, [], .slice ra4 a.size rc5⟩, ⟨12, [], .int .i64 0⟩]) [0, 0, 0, 0] (by kernel_rfl) (j := 4) rfl ?_
        refine GL_bytesB (i := 4) (ch := [(78, true)]) (a := ra4) (cap := rc5) (e := 5) (S := (inG g6)) a rfl rfl (by kernel_rfl) (by kernel_rfl) (by kernel_rfl) (by kernel_rfl) (by kernel_rfl) (by kernel_rfl) (by kernel_rfl) hrd8 (at_inG 0 rfl) ?_
        refine GL_pure (E' := [⟨81, [(78, true)], .slice ab b.size cb⟩, ⟨80, [(78, true)], .string a⟩, ⟨79, [(78, true)], .slice ra4 a.size rc5⟩, ⟨78, [], .bool true⟩, ⟨77, [], .bool true⟩, ⟨76, [], .int .i64 0⟩, ⟨0, [], .slice aa a.size ca⟩, ⟨1, [], .slice ab b.size cb⟩, ⟨9, [], .bool false⟩, ⟨10, [], .bool false⟩, ⟨11, [], .slice ra4 a.size rc5⟩, ⟨12, [], .int .i64 0⟩]) [0] (by kernel_rfl) (j := 6) rfl ?_
        refine GL_bytesB (i := 6) (ch := [(78, true)]) (a := ab) (cap := cb) (e := 5) (S := Sb) b rfl rfl (by kernel_rfl) (by kernel_rfl) (by kernel_rfl) (by kernel_rfl) (by kernel_rfl) (by kernel_rfl) (by kernel_rfl) hB.rd (fun y o h => at_up (hB.at_ y o h)) ?_
        refine GL_pure (E' := [⟨88, [(87, false), (78, true)], .slice ra4 a.size rc5⟩, ⟨87, [(78, true)], .bool ((a.toList == b.toList) && false)⟩, ⟨86, [(78, true)], .bool ((a.toList == b.toList) && false)⟩, ⟨85, [(84, true), (78, true)], .bool false⟩, ⟨84, [(78, true)], .bool (a.toList == b.toList)⟩, ⟨83, [(78, true)], .bool (a.toList == b.toList)⟩, ⟨82, [(78, true)], .string b⟩, ⟨81, [(78, true)], .slice ab b.size cb⟩, ⟨80, [(78, true)], .string a⟩, ⟨79, [(78, true)], .slice ra4 a.size rc5⟩, ⟨78, [], .bool true⟩, ⟨77, [], .bool true⟩, ⟨76, [], .int .i64 0⟩, ⟨0, [], .slice aa a.size ca⟩, ⟨1, [], .slice ab b.size cb⟩, ⟨9, [], .bool false⟩, ⟨10, [], .bool false⟩, ⟨11, [], .slice ra4 a.size rc5⟩, ⟨12, [], .int .i64 0⟩]) [0, 0, 0, 6, 0, 0] (by kernel_rfl) (j := 13) rfl ?_
        refine GL_bytesB (i := 13) (ch := [(87, false), (78, true)]) (a := ra4) (cap := rc5) (e := 5) (S := (inG g6)) a rfl rfl (by kernel_rfl) (by kernel_rfl) (by kernel_rfl) (by kernel_rfl) (by kernel_rfl) (by kernel_rfl) (by kernel_rfl) hrd8 (at_inG 0 rfl) ?_
        refine GL_pure (E' := [⟨90, [(87, false), (78, true)], .slice aa a.size ca⟩, ⟨89, [(87, false), (78, true)], .string a⟩, ⟨88, [(87, false), (78, true)], .slice ra4 a.size rc5⟩, ⟨87, [(78, true)], .bool ((a.toList == b.toList) && false)⟩, ⟨86, [(78, true)], .bool ((a.toList == b.toList) && false)⟩, ⟨85, [(84, true), (78, true)], .bool false⟩, ⟨84, [(78, true)], .bool (a.toList == b.toList)⟩, ⟨83, [(78, true)], .bool (a.toList == b.toList)⟩, ⟨82, [(78, true)], .string b⟩, ⟨81, [(78, true)], .slice ab b.size cb⟩, ⟨80, [(78, true)], .string a⟩, ⟨79, [(78, true)], .slice ra4 a.size rc5⟩, ⟨78, [], .bool true⟩, ⟨77, [], .bool true⟩, ⟨76, [], .int .i64 0⟩, ⟨0, [], .slice aa a.size ca⟩, ⟨1, [], .slice ab b.size cb⟩, ⟨9, [], .bool false⟩, ⟨10, [], .bool false⟩, ⟨11, [], .slice ra4 a.size rc5⟩, ⟨12, [], .int .i64 0⟩]) [0] (by kernel_rfl) (j := 15) rfl ?_
        refine GL_bytesB (i := 15) (ch := [(87, false), (78, true)]) (a := aa) (cap := ca) (e := 5) (S := Sa) a rfl rfl (by kernel_rfl) (by kernel_rfl) (by kernel_rfl) (by kernel_rfl) (by kernel_rfl) (by kernel_rfl) (by kernel_rfl) hA.rd (fun y o h => at_up (hA.at_ y o h)) ?_
        refine GL_fin (E' := [⟨6, [], .bool (((a.toList == b.toList) && false) || ((a.toList == a.toList) && true))⟩]) [0, 0, 0, 0, 6, 5, 2, 0] [6] rfl (by kernel_rfl) ?_
        refine N_then ?_
        refine G_ret ?_
        refine N_ret [.tmp 6] [.bool (((a.toList == b.toList) && false) || ((a.toList == a.toList) && true))] rfl (by kernel_rfl) rfl ?_
        exact ⟨by first | rfl | (show Value.bool _ = _; simp), [g6] ++ (s7.G d3 (crashM (sw4 a n) (l.drop 1)) ++ G), by simp⟩
      ·
        -- L c1
        refine G_region ?_
        refine GL_pure (E' := [⟨49, [], .slice ab b.size cb⟩, ⟨48, [], .pointer (some ⟨d3, 0, none⟩)⟩, ⟨0, [], .slice aa a.size ca⟩, ⟨1, [], .slice ab b.size cb⟩, ⟨2, [], .slice (cutA ka kc 1 1) ((Int.toNat ((l.length : Nat) : Int)) - 1) (kc - 1)⟩, ⟨8, [], .pointer (some ⟨d3, 0, none⟩)⟩]) [0, 0] (by kernel_rfl) (j := 2) rfl ?_
        refine GL_call (i := 2) (ch := []) (f := 13) (fst := #[]) (caps := #[]) (vs := [.pointer (some ⟨d3, 0, none⟩), .string (ByteArray.mk #[113]), .slice ab b.size cb]) rfl rfl rfl (by kernel_rfl) (by kernel_rfl) Try.func13 rfl rfl (by kernel_rfl) (by kernel_rfl) (chSure_of (by kernel_rfl)) (dWrite hs5 (sm4 ha hni) d3 (ByteArray.mk #[113]) b (by decide) (by omega) [] _ (G ++ H) hB.v.up (write_q ha hb h1)) ?_
        rintro v H' ⟨rfl, s9, hs9, rfl⟩
        refine GL_pure (E' := [⟨53, [(52, true)], .pointer (some ⟨d3, 0, none⟩)⟩, ⟨52, [], .bool true⟩, ⟨51, [], .bool true⟩, ⟨50, [], .int .i64 0⟩, ⟨49, [], .slice ab b.size cb⟩, ⟨48, [], .pointer (some ⟨d3, 0, none⟩)⟩, ⟨0, [], .slice aa a.size ca⟩, ⟨1, [], .slice ab b.size cb⟩, ⟨2, [], .slice (cutA ka kc 1 1) ((Int.toNat ((l.length : Nat) : Int)) - 1) (kc - 1)⟩, ⟨8, [], .pointer (some ⟨d3, 0, none⟩)⟩]) [0, 0, 0] (by kernel_rfl) (j := 6) rfl ?_
        refine GL_call (i := 6) (ch := [(52, true)]) (f := 14) (fst := #[]) (caps := #[]) (vs := [.pointer (some ⟨d3, 0, none⟩), .string (ByteArray.mk #[113])]) rfl rfl rfl (by kernel_rfl) (by kernel_rfl) Try.func14 rfl rfl (by kernel_rfl) (by kernel_rfl) (chSure_of (by kernel_rfl)) (dSync hs9 (sm5 ha hb (le_in hni h1)) d3 (ByteArray.mk #[113]) (by decide) [] _ (G ++ H) (sync_q0 h2)) ?_
        rintro v H' ⟨rfl, s10, hs10, rfl⟩
        refine GL_fin (E' := [⟨0, [], .slice aa a.size ca⟩, ⟨1, [], .slice ab b.size cb⟩, ⟨2, [], .slice (cutA ka kc 1 1) ((Int.toNat ((l.length : Nat) : Int)) - 1) (kc - 1)⟩, ⟨8, [], .pointer (some ⟨d3, 0, none⟩)⟩, ⟨9, [], .bool false⟩]) [0, 2, 0, 1, 1, 1, 3, 0] [0, 1, 2, 8, 9] rfl (by kernel_rfl) ?_
        refine N_then ?_
        refine G_seq ?_
        refine G_pure (E' := [⟨0, [], .slice aa a.size ca⟩, ⟨1, [], .slice ab b.size cb⟩, ⟨2, [], .slice (cutA ka kc 1 1) ((Int.toNat ((l.length : Nat) : Int)) - 1) (kc - 1)⟩, ⟨8, [], .pointer (some ⟨d3, 0, none⟩)⟩, ⟨9, [], .bool false⟩, ⟨10, [], .bool false⟩]) [0, 0, 1, 1, 1, 3, 0] [0, 1, 2, 8, 9, 10] rfl (by kernel_rfl) ?_
        refine N_then ?_
        refine G_seq ?_
        refine G_region ?_
        refine GL_pure (E' := [⟨69, [], .slice (cutA ka kc 1 1) ((Int.toNat ((l.length : Nat) : Int)) - 1) (kc - 1)⟩, ⟨68, [], .pointer (some ⟨d3, 0, none⟩)⟩, ⟨0, [], .slice aa a.size ca⟩, ⟨1, [], .slice ab b.size cb⟩, ⟨2, [], .slice (cutA ka kc 1 1) ((Int.toNat ((l.length : Nat) : Int)) - 1) (kc - 1)⟩, ⟨8, [], .pointer (some ⟨d3, 0, none⟩)⟩, ⟨9, [], .bool false⟩, ⟨10, [], .bool false⟩]) [0, 0] (by kernel_rfl) (j := 2) rfl ?_
        refine GL_call (i := 2) (ch := []) (f := 18) (fst := #[]) (caps := #[]) (vs := [.pointer (some ⟨d3, 0, none⟩), .slice (cutA ka kc 1 1) ((Int.toNat ((l.length : Nat) : Int)) - 1) (kc - 1)]) rfl rfl rfl (by kernel_rfl) (by kernel_rfl) Try.func18 rfl rfl (by kernel_rfl) (by kernel_rfl) (chSure_of (by kernel_rfl)) ((by have := dCrash hs10 (sm5 ha hb (le_in hni h1)) d3 (l.drop 1) (cutA ka kc 1 1) (kc - 1) Sk (ksNext_ok1 hK hne) [] _ (G ++ H) (fun y o h => at_up (hSk y o h)); rw [List.length_drop] at this; exact this)) ?_
        rintro v H' ⟨rfl, s11, hs11, rfl⟩
        refine GL_fin (E' := [⟨0, [], .slice aa a.size ca⟩, ⟨1, [], .slice ab b.size cb⟩, ⟨8, [], .pointer (some ⟨d3, 0, none⟩)⟩, ⟨9, [], .bool false⟩, ⟨10, [], .bool false⟩]) [] [0, 1, 8, 9, 10] rfl (by kernel_rfl) ?_
        refine N_then ?_
        refine G_seq ?_
        refine G_region ?_
        refine GL_pure (E' := [⟨72, [], .pointer (some ⟨d3, 0, none⟩)⟩, ⟨0, [], .slice aa a.size ca⟩, ⟨1, [], .slice ab b.size cb⟩, ⟨8, [], .pointer (some ⟨d3, 0, none⟩)⟩, ⟨9, [], .bool false⟩, ⟨10, [], .bool false⟩]) [0] (by kernel_rfl) (j := 1) rfl ?_
        refine GL_call (i := 1) (ch := []) (f := 19) (fst := #[]) (caps := #[]) (vs := [.pointer (some ⟨d3, 0, none⟩), .string (ByteArray.mk #[112])]) rfl rfl rfl (by kernel_rfl) (by kernel_rfl) Try.func19 rfl rfl (by kernel_rfl) (by kernel_rfl) (chSure_of (by kernel_rfl)) (dRead hs11 (crash_size (sm5 ha hb (le_in hni h1)) _) d3 (ByteArray.mk #[112]) [] _ (G ++ H) (end56 rfl rfl rfl)) ?_
        rintro v H' ⟨ra9, rc10, g11, rfl, hrc12, hrd13, rfl⟩
        refine GL_fin (E' := [⟨0, [], .slice aa a.size ca⟩, ⟨1, [], .slice ab b.size cb⟩, ⟨9, [], .bool false⟩, ⟨10, [], .bool false⟩, ⟨11, [], .slice ra9 a.size rc10⟩, ⟨12, [], .int .i64 0⟩]) [0, 0, 0, 0, 0] [0, 1, 9, 10, 11, 12] rfl (by kernel_rfl) ?_
        refine N_then ?_
        refine G_seq ?_
        refine G_region ?_
        refine GL_pure (E' := [⟨79, [(78, true)], .slice ra9 a.size rc10⟩, ⟨78, [], .bool true⟩, ⟨77, [], .bool true⟩, ⟨76, [], .int .i64 0⟩, ⟨0, [], .slice aa a.size ca⟩, ⟨1, [], .slice ab b.size cb⟩, ⟨9, [], .bool false⟩, ⟨10, [], .bool false⟩, ⟨11, [], .slice ra9 a.size rc10⟩, ⟨12, [], .int .i64 0⟩]) [0, 0, 0, 0] (by kernel_rfl) (j := 4) rfl ?_
        refine GL_bytesB (i := 4) (ch := [(78, true)]) (a := ra9) (cap := rc10) (e := 5) (S := (inG g11)) a rfl rfl (by kernel_rfl) (by kernel_rfl) (by kernel_rfl) (by kernel_rfl) (by kernel_rfl) (by kernel_rfl) (by kernel_rfl) hrd13 (at_inG 0 rfl) ?_
        refine GL_pure (E' := [⟨81, [(78, true)], .slice ab b.size cb⟩, ⟨80, [(78, true)], .string a⟩, ⟨79, [(78, true)], .slice ra9 a.size rc10⟩, ⟨78, [], .bool true⟩, ⟨77, [], .bool true⟩, ⟨76, [], .int .i64 0⟩, ⟨0, [], .slice aa a.size ca⟩, ⟨1, [], .slice ab b.size cb⟩, ⟨9, [], .bool false⟩, ⟨10, [], .bool false⟩, ⟨11, [], .slice ra9 a.size rc10⟩, ⟨12, [], .int .i64 0⟩]) [0] (by kernel_rfl) (j := 6) rfl ?_
        refine GL_bytesB (i := 6) (ch := [(78, true)]) (a := ab) (cap := cb) (e := 5) (S := Sb) b rfl rfl (by kernel_rfl) (by kernel_rfl) (by kernel_rfl) (by kernel_rfl) (by kernel_rfl) (by kernel_rfl) (by kernel_rfl) hB.rd (fun y o h => at_up (hB.at_ y o h)) ?_
        refine GL_pure (E' := [⟨88, [(87, false), (78, true)], .slice ra9 a.size rc10⟩, ⟨87, [(78, true)], .bool ((a.toList == b.toList) && false)⟩, ⟨86, [(78, true)], .bool ((a.toList == b.toList) && false)⟩, ⟨85, [(84, true), (78, true)], .bool false⟩, ⟨84, [(78, true)], .bool (a.toList == b.toList)⟩, ⟨83, [(78, true)], .bool (a.toList == b.toList)⟩, ⟨82, [(78, true)], .string b⟩, ⟨81, [(78, true)], .slice ab b.size cb⟩, ⟨80, [(78, true)], .string a⟩, ⟨79, [(78, true)], .slice ra9 a.size rc10⟩, ⟨78, [], .bool true⟩, ⟨77, [], .bool true⟩, ⟨76, [], .int .i64 0⟩, ⟨0, [], .slice aa a.size ca⟩, ⟨1, [], .slice ab b.size cb⟩, ⟨9, [], .bool false⟩, ⟨10, [], .bool false⟩, ⟨11, [], .slice ra9 a.size rc10⟩, ⟨12, [], .int .i64 0⟩]) [0, 0, 0, 6, 0, 0] (by kernel_rfl) (j := 13) rfl ?_
        refine GL_bytesB (i := 13) (ch := [(87, false), (78, true)]) (a := ra9) (cap := rc10) (e := 5) (S := (inG g11)) a rfl rfl (by kernel_rfl) (by kernel_rfl) (by kernel_rfl) (by kernel_rfl) (by kernel_rfl) (by kernel_rfl) (by kernel_rfl) hrd13 (at_inG 0 rfl) ?_
        refine GL_pure (E' := [⟨90, [(87, false), (78, true)], .slice aa a.size ca⟩, ⟨89, [(87, false), (78, true)], .string a⟩, ⟨88, [(87, false), (78, true)], .slice ra9 a.size rc10⟩, ⟨87, [(78, true)], .bool ((a.toList == b.toList) && false)⟩, ⟨86, [(78, true)], .bool ((a.toList == b.toList) && false)⟩, ⟨85, [(84, true), (78, true)], .bool false⟩, ⟨84, [(78, true)], .bool (a.toList == b.toList)⟩, ⟨83, [(78, true)], .bool (a.toList == b.toList)⟩, ⟨82, [(78, true)], .string b⟩, ⟨81, [(78, true)], .slice ab b.size cb⟩, ⟨80, [(78, true)], .string a⟩, ⟨79, [(78, true)], .slice ra9 a.size rc10⟩, ⟨78, [], .bool true⟩, ⟨77, [], .bool true⟩, ⟨76, [], .int .i64 0⟩, ⟨0, [], .slice aa a.size ca⟩, ⟨1, [], .slice ab b.size cb⟩, ⟨9, [], .bool false⟩, ⟨10, [], .bool false⟩, ⟨11, [], .slice ra9 a.size rc10⟩, ⟨12, [], .int .i64 0⟩]) [0] (by kernel_rfl) (j := 15) rfl ?_
        refine GL_bytesB (i := 15) (ch := [(87, false), (78, true)]) (a := aa) (cap := ca) (e := 5) (S := Sa) a rfl rfl (by kernel_rfl) (by kernel_rfl) (by kernel_rfl) (by kernel_rfl) (by kernel_rfl) (by kernel_rfl) (by kernel_rfl) hA.rd (fun y o h => at_up (hA.at_ y o h)) ?_
        refine GL_fin (E' := [⟨6, [], .bool (((a.toList == b.toList) && false) || ((a.toList == a.toList) && true))⟩]) [0, 0, 0, 0, 6, 5, 2, 0] [6] rfl (by kernel_rfl) ?_
        refine N_then ?_
        refine G_ret ?_
        refine N_ret [.tmp 6] [.bool (((a.toList == b.toList) && false) || ((a.toList == a.toList) && true))] rfl (by kernel_rfl) rfl ?_
        exact ⟨by first | rfl | (show Value.bool _ = _; simp), [g11] ++ (s11.G d3 (crashM (sw5 a b (n - 1)) (l.drop 1)) ++ G), by simp⟩
      ·
        -- L c2
        refine G_region ?_
        refine GL_pure (E' := [⟨49, [], .slice ab b.size cb⟩, ⟨48, [], .pointer (some ⟨d3, 0, none⟩)⟩, ⟨0, [], .slice aa a.size ca⟩, ⟨1, [], .slice ab b.size cb⟩, ⟨2, [], .slice (cutA ka kc 1 1) ((Int.toNat ((l.length : Nat) : Int)) - 1) (kc - 1)⟩, ⟨8, [], .pointer (some ⟨d3, 0, none⟩)⟩]) [0, 0] (by kernel_rfl) (j := 2) rfl ?_
        refine GL_call (i := 2) (ch := []) (f := 13) (fst := #[]) (caps := #[]) (vs := [.pointer (some ⟨d3, 0, none⟩), .string (ByteArray.mk #[113]), .slice ab b.size cb]) rfl rfl rfl (by kernel_rfl) (by kernel_rfl) Try.func13 rfl rfl (by kernel_rfl) (by kernel_rfl) (chSure_of (by kernel_rfl)) (dWrite hs5 (sm4 ha hni) d3 (ByteArray.mk #[113]) b (by decide) (by omega) [] _ (G ++ H) hB.v.up (write_q ha hb h1)) ?_
        rintro v H' ⟨rfl, s13, hs13, rfl⟩
        refine GL_pure (E' := [⟨53, [(52, true)], .pointer (some ⟨d3, 0, none⟩)⟩, ⟨52, [], .bool true⟩, ⟨51, [], .bool true⟩, ⟨50, [], .int .i64 0⟩, ⟨49, [], .slice ab b.size cb⟩, ⟨48, [], .pointer (some ⟨d3, 0, none⟩)⟩, ⟨0, [], .slice aa a.size ca⟩, ⟨1, [], .slice ab b.size cb⟩, ⟨2, [], .slice (cutA ka kc 1 1) ((Int.toNat ((l.length : Nat) : Int)) - 1) (kc - 1)⟩, ⟨8, [], .pointer (some ⟨d3, 0, none⟩)⟩]) [0, 0, 0] (by kernel_rfl) (j := 6) rfl ?_
        refine GL_call (i := 6) (ch := [(52, true)]) (f := 14) (fst := #[]) (caps := #[]) (vs := [.pointer (some ⟨d3, 0, none⟩), .string (ByteArray.mk #[113])]) rfl rfl rfl (by kernel_rfl) (by kernel_rfl) Try.func14 rfl rfl (by kernel_rfl) (by kernel_rfl) (chSure_of (by kernel_rfl)) (dSync hs13 (sm5 ha hb (le_in hni h1)) d3 (ByteArray.mk #[113]) (by decide) [] _ (G ++ H) (sync_q h2)) ?_
        rintro v H' ⟨rfl, s14, hs14, rfl⟩
        refine GL_pure (E' := [⟨58, [(57, true)], .pointer (some ⟨d3, 0, none⟩)⟩, ⟨57, [], .bool true⟩, ⟨56, [], .bool true⟩, ⟨55, [(52, true)], .bool true⟩, ⟨54, [(52, true)], .int .i64 0⟩, ⟨53, [(52, true)], .pointer (some ⟨d3, 0, none⟩)⟩, ⟨52, [], .bool true⟩, ⟨51, [], .bool true⟩, ⟨50, [], .int .i64 0⟩, ⟨49, [], .slice ab b.size cb⟩, ⟨48, [], .pointer (some ⟨d3, 0, none⟩)⟩, ⟨0, [], .slice aa a.size ca⟩, ⟨1, [], .slice ab b.size cb⟩, ⟨2, [], .slice (cutA ka kc 1 1) ((Int.toNat ((l.length : Nat) : Int)) - 1) (kc - 1)⟩, ⟨8, [], .pointer (some ⟨d3, 0, none⟩)⟩]) [0, 2, 0, 0] (by kernel_rfl) (j := 11) rfl ?_
        refine GL_call (i := 11) (ch := [(57, true)]) (f := 17) (fst := #[]) (caps := #[]) (vs := [.pointer (some ⟨d3, 0, none⟩), .string (ByteArray.mk #[113]), .string (ByteArray.mk #[112])]) rfl rfl rfl (by kernel_rfl) (by kernel_rfl) Try.func17 rfl rfl (by kernel_rfl) (by kernel_rfl) (chSure_of (by kernel_rfl)) (dRename hs14 (sm6 ha hb (le_in (le_in hni h1) h2)) d3 (ByteArray.mk #[113]) (ByteArray.mk #[112]) (by decide) (by decide) [] _ (G ++ H) (ren_q0 h3)) ?_
        rintro v H' ⟨rfl, s15, hs15, rfl⟩
        refine GL_fin (E' := [⟨0, [], .slice aa a.size ca⟩, ⟨1, [], .slice ab b.size cb⟩, ⟨2, [], .slice (cutA ka kc 1 1) ((Int.toNat ((l.length : Nat) : Int)) - 1) (kc - 1)⟩, ⟨8, [], .pointer (some ⟨d3, 0, none⟩)⟩, ⟨9, [], .bool false⟩]) [0, 2, 0] [0, 1, 2, 8, 9] rfl (by kernel_rfl) ?_
        refine N_then ?_
        refine G_seq ?_
        refine G_pure (E' := [⟨0, [], .slice aa a.size ca⟩, ⟨1, [], .slice ab b.size cb⟩, ⟨2, [], .slice (cutA ka kc 1 1) ((Int.toNat ((l.length : Nat) : Int)) - 1) (kc - 1)⟩, ⟨8, [], .pointer (some ⟨d3, 0, none⟩)⟩, ⟨9, [], .bool false⟩, ⟨10, [], .bool false⟩]) [0, 0, 1, 1, 1, 3, 0] [0, 1, 2, 8, 9, 10] rfl (by kernel_rfl) ?_
        refine N_then ?_
        refine G_seq ?_
        refine G_region ?_
        refine GL_pure (E' := [⟨69, [], .slice (cutA ka kc 1 1) ((Int.toNat ((l.length : Nat) : Int)) - 1) (kc - 1)⟩, ⟨68, [], .pointer (some ⟨d3, 0, none⟩)⟩, ⟨0, [], .slice aa a.size ca⟩, ⟨1, [], .slice ab b.size cb⟩, ⟨2, [], .slice (cutA ka kc 1 1) ((Int.toNat ((l.length : Nat) : Int)) - 1) (kc - 1)⟩, ⟨8, [], .pointer (some ⟨d3, 0, none⟩)⟩, ⟨9, [], .bool false⟩, ⟨10, [], .bool false⟩]) [0, 0] (by kernel_rfl) (j := 2) rfl ?_
        refine GL_call (i := 2) (ch := []) (f := 18) (fst := #[]) (caps := #[]) (vs := [.pointer (some ⟨d3, 0, none⟩), .slice (cutA ka kc 1 1) ((Int.toNat ((l.length : Nat) : Int)) - 1) (kc - 1)]) rfl rfl rfl (by kernel_rfl) (by kernel_rfl) Try.func18 rfl rfl (by kernel_rfl) (by kernel_rfl) (chSure_of (by kernel_rfl)) ((by have := dCrash hs15 (sm6 ha hb (le_in (le_in hni h1) h2)) d3 (l.drop 1) (cutA ka kc 1 1) (kc - 1) Sk (ksNext_ok1 hK hne) [] _ (G ++ H) (fun y o h => at_up (hSk y o h)); rw [List.length_drop] at this; exact this)) ?_
        rintro v H' ⟨rfl, s16, hs16, rfl⟩
        refine GL_fin (E' := [⟨0, [], .slice aa a.size ca⟩, ⟨1, [], .slice ab b.size cb⟩, ⟨8, [], .pointer (some ⟨d3, 0, none⟩)⟩, ⟨9, [], .bool false⟩, ⟨10, [], .bool false⟩]) [] [0, 1, 8, 9, 10] rfl (by kernel_rfl) ?_
        refine N_then ?_
        refine G_seq ?_
        refine G_region ?_
        refine GL_pure (E' := [⟨72, [], .pointer (some ⟨d3, 0, none⟩)⟩, ⟨0, [], .slice aa a.size ca⟩, ⟨1, [], .slice ab b.size cb⟩, ⟨8, [], .pointer (some ⟨d3, 0, none⟩)⟩, ⟨9, [], .bool false⟩, ⟨10, [], .bool false⟩]) [0] (by kernel_rfl) (j := 1) rfl ?_
        refine GL_call (i := 1) (ch := []) (f := 19) (fst := #[]) (caps := #[]) (vs := [.pointer (some ⟨d3, 0, none⟩), .string (ByteArray.mk #[112])]) rfl rfl rfl (by kernel_rfl) (by kernel_rfl) Try.func19 rfl rfl (by kernel_rfl) (by kernel_rfl) (chSure_of (by kernel_rfl)) (dRead hs16 (crash_size (sm6 ha hb (le_in (le_in hni h1) h2)) _) d3 (ByteArray.mk #[112]) [] _ (G ++ H) (end56 rfl rfl rfl)) ?_
        rintro v H' ⟨ra14, rc15, g16, rfl, hrc17, hrd18, rfl⟩
        refine GL_fin (E' := [⟨0, [], .slice aa a.size ca⟩, ⟨1, [], .slice ab b.size cb⟩, ⟨9, [], .bool false⟩, ⟨10, [], .bool false⟩, ⟨11, [], .slice ra14 a.size rc15⟩, ⟨12, [], .int .i64 0⟩]) [0, 0, 0, 0, 0] [0, 1, 9, 10, 11, 12] rfl (by kernel_rfl) ?_
        refine N_then ?_
        refine G_seq ?_
        refine G_region ?_
        refine GL_pure (E' := [⟨79, [(78, true)], .slice ra14 a.size rc15⟩, ⟨78, [], .bool true⟩, ⟨77, [], .bool true⟩, ⟨76, [], .int .i64 0⟩, ⟨0, [], .slice aa a.size ca⟩, ⟨1, [], .slice ab b.size cb⟩, ⟨9, [], .bool false⟩, ⟨10, [], .bool false⟩, ⟨11, [], .slice ra14 a.size rc15⟩, ⟨12, [], .int .i64 0⟩]) [0, 0, 0, 0] (by kernel_rfl) (j := 4) rfl ?_
        refine GL_bytesB (i := 4) (ch := [(78, true)]) (a := ra14) (cap := rc15) (e := 5) (S := (inG g16)) a rfl rfl (by kernel_rfl) (by kernel_rfl) (by kernel_rfl) (by kernel_rfl) (by kernel_rfl) (by kernel_rfl) (by kernel_rfl) hrd18 (at_inG 0 rfl) ?_
        refine GL_pure (E' := [⟨81, [(78, true)], .slice ab b.size cb⟩, ⟨80, [(78, true)], .string a⟩, ⟨79, [(78, true)], .slice ra14 a.size rc15⟩, ⟨78, [], .bool true⟩, ⟨77, [], .bool true⟩, ⟨76, [], .int .i64 0⟩, ⟨0, [], .slice aa a.size ca⟩, ⟨1, [], .slice ab b.size cb⟩, ⟨9, [], .bool false⟩, ⟨10, [], .bool false⟩, ⟨11, [], .slice ra14 a.size rc15⟩, ⟨12, [], .int .i64 0⟩]) [0] (by kernel_rfl) (j := 6) rfl ?_
        refine GL_bytesB (i := 6) (ch := [(78, true)]) (a := ab) (cap := cb) (e := 5) (S := Sb) b rfl rfl (by kernel_rfl) (by kernel_rfl) (by kernel_rfl) (by kernel_rfl) (by kernel_rfl) (by kernel_rfl) (by kernel_rfl) hB.rd (fun y o h => at_up (hB.at_ y o h)) ?_
        refine GL_pure (E' := [⟨88, [(87, false), (78, true)], .slice ra14 a.size rc15⟩, ⟨87, [(78, true)], .bool ((a.toList == b.toList) && false)⟩, ⟨86, [(78, true)], .bool ((a.toList == b.toList) && false)⟩, ⟨85, [(84, true), (78, true)], .bool false⟩, ⟨84, [(78, true)], .bool (a.toList == b.toList)⟩, ⟨83, [(78, true)], .bool (a.toList == b.toList)⟩, ⟨82, [(78, true)], .string b⟩, ⟨81, [(78, true)], .slice ab b.size cb⟩, ⟨80, [(78, true)], .string a⟩, ⟨79, [(78, true)], .slice ra14 a.size rc15⟩, ⟨78, [], .bool true⟩, ⟨77, [], .bool true⟩, ⟨76, [], .int .i64 0⟩, ⟨0, [], .slice aa a.size ca⟩, ⟨1, [], .slice ab b.size cb⟩, ⟨9, [], .bool false⟩, ⟨10, [], .bool false⟩, ⟨11, [], .slice ra14 a.size rc15⟩, ⟨12, [], .int .i64 0⟩]) [0, 0, 0, 6, 0, 0] (by kernel_rfl) (j := 13) rfl ?_
        refine GL_bytesB (i := 13) (ch := [(87, false), (78, true)]) (a := ra14) (cap := rc15) (e := 5) (S := (inG g16)) a rfl rfl (by kernel_rfl) (by kernel_rfl) (by kernel_rfl) (by kernel_rfl) (by kernel_rfl) (by kernel_rfl) (by kernel_rfl) hrd18 (at_inG 0 rfl) ?_
        refine GL_pure (E' := [⟨90, [(87, false), (78, true)], .slice aa a.size ca⟩, ⟨89, [(87, false), (78, true)], .string a⟩, ⟨88, [(87, false), (78, true)], .slice ra14 a.size rc15⟩, ⟨87, [(78, true)], .bool ((a.toList == b.toList) && false)⟩, ⟨86, [(78, true)], .bool ((a.toList == b.toList) && false)⟩, ⟨85, [(84, true), (78, true)], .bool false⟩, ⟨84, [(78, true)], .bool (a.toList == b.toList)⟩, ⟨83, [(78, true)], .bool (a.toList == b.toList)⟩, ⟨82, [(78, true)], .string b⟩, ⟨81, [(78, true)], .slice ab b.size cb⟩, ⟨80, [(78, true)], .string a⟩, ⟨79, [(78, true)], .slice ra14 a.size rc15⟩, ⟨78, [], .bool true⟩, ⟨77, [], .bool true⟩, ⟨76, [], .int .i64 0⟩, ⟨0, [], .slice aa a.size ca⟩, ⟨1, [], .slice ab b.size cb⟩, ⟨9, [], .bool false⟩, ⟨10, [], .bool false⟩, ⟨11, [], .slice ra14 a.size rc15⟩, ⟨12, [], .int .i64 0⟩]) [0] (by kernel_rfl) (j := 15) rfl ?_
        refine GL_bytesB (i := 15) (ch := [(87, false), (78, true)]) (a := aa) (cap := ca) (e := 5) (S := Sa) a rfl rfl (by kernel_rfl) (by kernel_rfl) (by kernel_rfl) (by kernel_rfl) (by kernel_rfl) (by kernel_rfl) (by kernel_rfl) hA.rd (fun y o h => at_up (hA.at_ y o h)) ?_
        refine GL_fin (E' := [⟨6, [], .bool (((a.toList == b.toList) && false) || ((a.toList == a.toList) && true))⟩]) [0, 0, 0, 0, 6, 5, 2, 0] [6] rfl (by kernel_rfl) ?_
        refine N_then ?_
        refine G_ret ?_
        refine N_ret [.tmp 6] [.bool (((a.toList == b.toList) && false) || ((a.toList == a.toList) && true))] rfl (by kernel_rfl) rfl ?_
        exact ⟨by first | rfl | (show Value.bool _ = _; simp), [g16] ++ (s16.G d3 (crashM (sw6 a b (n - 1 - 1)) (l.drop 1)) ++ G), by simp⟩
      ·
        -- L c3
        refine G_region ?_
        refine GL_pure (E' := [⟨49, [], .slice ab b.size cb⟩, ⟨48, [], .pointer (some ⟨d3, 0, none⟩)⟩, ⟨0, [], .slice aa a.size ca⟩, ⟨1, [], .slice ab b.size cb⟩, ⟨2, [], .slice (cutA ka kc 1 1) ((Int.toNat ((l.length : Nat) : Int)) - 1) (kc - 1)⟩, ⟨8, [], .pointer (some ⟨d3, 0, none⟩)⟩]) [0, 0] (by kernel_rfl) (j := 2) rfl ?_
        refine GL_call (i := 2) (ch := []) (f := 13) (fst := #[]) (caps := #[]) (vs := [.pointer (some ⟨d3, 0, none⟩), .string (ByteArray.mk #[113]), .slice ab b.size cb]) rfl rfl rfl (by kernel_rfl) (by kernel_rfl) Try.func13 rfl rfl (by kernel_rfl) (by kernel_rfl) (chSure_of (by kernel_rfl)) (dWrite hs5 (sm4 ha hni) d3 (ByteArray.mk #[113]) b (by decide) (by omega) [] _ (G ++ H) hB.v.up (write_q ha hb h1)) ?_
        rintro v H' ⟨rfl, s18, hs18, rfl⟩
        refine GL_pure (E' := [⟨53, [(52, true)], .pointer (some ⟨d3, 0, none⟩)⟩, ⟨52, [], .bool true⟩, ⟨51, [], .bool true⟩, ⟨50, [], .int .i64 0⟩, ⟨49, [], .slice ab b.size cb⟩, ⟨48, [], .pointer (some ⟨d3, 0, none⟩)⟩, ⟨0, [], .slice aa a.size ca⟩, ⟨1, [], .slice ab b.size cb⟩, ⟨2, [], .slice (cutA ka kc 1 1) ((Int.toNat ((l.length : Nat) : Int)) - 1) (kc - 1)⟩, ⟨8, [], .pointer (some ⟨d3, 0, none⟩)⟩]) [0, 0, 0] (by kernel_rfl) (j := 6) rfl ?_
        refine GL_call (i := 6) (ch := [(52, true)]) (f := 14) (fst := #[]) (caps := #[]) (vs := [.pointer (some ⟨d3, 0, none⟩), .string (ByteArray.mk #[113])]) rfl rfl rfl (by kernel_rfl) (by kernel_rfl) Try.func14 rfl rfl (by kernel_rfl) (by kernel_rfl) (chSure_of (by kernel_rfl)) (dSync hs18 (sm5 ha hb (le_in hni h1)) d3 (ByteArray.mk #[113]) (by decide) [] _ (G ++ H) (sync_q h2)) ?_
        rintro v H' ⟨rfl, s19, hs19, rfl⟩
        refine GL_pure (E' := [⟨58, [(57, true)], .pointer (some ⟨d3, 0, none⟩)⟩, ⟨57, [], .bool true⟩, ⟨56, [], .bool true⟩, ⟨55, [(52, true)], .bool true⟩, ⟨54, [(52, true)], .int .i64 0⟩, ⟨53, [(52, true)], .pointer (some ⟨d3, 0, none⟩)⟩, ⟨52, [], .bool true⟩, ⟨51, [], .bool true⟩, ⟨50, [], .int .i64 0⟩, ⟨49, [], .slice ab b.size cb⟩, ⟨48, [], .pointer (some ⟨d3, 0, none⟩)⟩, ⟨0, [], .slice aa a.size ca⟩, ⟨1, [], .slice ab b.size cb⟩, ⟨2, [], .slice (cutA ka kc 1 1) ((Int.toNat ((l.length : Nat) : Int)) - 1) (kc - 1)⟩, ⟨8, [], .pointer (some ⟨d3, 0, none⟩)⟩]) [0, 2, 0, 0] (by kernel_rfl) (j := 11) rfl ?_
        refine GL_call (i := 11) (ch := [(57, true)]) (f := 17) (fst := #[]) (caps := #[]) (vs := [.pointer (some ⟨d3, 0, none⟩), .string (ByteArray.mk #[113]), .string (ByteArray.mk #[112])]) rfl rfl rfl (by kernel_rfl) (by kernel_rfl) Try.func17 rfl rfl (by kernel_rfl) (by kernel_rfl) (chSure_of (by kernel_rfl)) (dRename hs19 (sm6 ha hb (le_in (le_in hni h1) h2)) d3 (ByteArray.mk #[113]) (ByteArray.mk #[112]) (by decide) (by decide) [] _ (G ++ H) (ren_q h3)) ?_
        rintro v H' ⟨rfl, s20, hs20, rfl⟩
        refine GL_fin (E' := [⟨0, [], .slice aa a.size ca⟩, ⟨1, [], .slice ab b.size cb⟩, ⟨2, [], .slice (cutA ka kc 1 1) ((Int.toNat ((l.length : Nat) : Int)) - 1) (kc - 1)⟩, ⟨8, [], .pointer (some ⟨d3, 0, none⟩)⟩, ⟨9, [], .bool true⟩]) [0, 2, 0] [0, 1, 2, 8, 9] rfl (by kernel_rfl) ?_
        refine N_then ?_
        refine G_seq ?_
        refine G_region ?_
        refine GL_pure (E' := [⟨64, [(63, true)], .pointer (some ⟨d3, 0, none⟩)⟩, ⟨63, [], .bool true⟩, ⟨62, [], .bool true⟩, ⟨0, [], .slice aa a.size ca⟩, ⟨1, [], .slice ab b.size cb⟩, ⟨2, [], .slice (cutA ka kc 1 1) ((Int.toNat ((l.length : Nat) : Int)) - 1) (kc - 1)⟩, ⟨8, [], .pointer (some ⟨d3, 0, none⟩)⟩, ⟨9, [], .bool true⟩]) [0, 0, 0] (by kernel_rfl) (j := 3) rfl ?_
        refine GL_call (i := 3) (ch := [(63, true)]) (f := 15) (fst := #[]) (caps := #[]) (vs := [.pointer (some ⟨d3, 0, none⟩), .string (ByteArray.mk #[])]) rfl rfl rfl (by kernel_rfl) (by kernel_rfl) Try.func15 rfl rfl (by kernel_rfl) (by kernel_rfl) (chSure_of (by kernel_rfl)) (dSyncDir hs20 (sm7 ha hb (le_in (le_in (le_in hni h1) h2) h3)) d3 (ByteArray.mk #[]) (by decide) [] _ (G ++ H) (sdir_q0 h4)) ?_
        rintro v H' ⟨rfl, s21, hs21, rfl⟩
        refine GL_fin (E' := [⟨0, [], .slice aa a.size ca⟩, ⟨1, [], .slice ab b.size cb⟩, ⟨2, [], .slice (cutA ka kc 1 1) ((Int.toNat ((l.length : Nat) : Int)) - 1) (kc - 1)⟩, ⟨8, [], .pointer (some ⟨d3, 0, none⟩)⟩, ⟨9, [], .bool true⟩, ⟨10, [], .bool false⟩]) [0, 2, 0] [0, 1, 2, 8, 9, 10] rfl (by kernel_rfl) ?_
        refine N_then ?_
        refine G_seq ?_
        refine G_region ?_
        refine GL_pure (E' := [⟨69, [], .slice (cutA ka kc 1 1) ((Int.toNat ((l.length : Nat) : Int)) - 1) (kc - 1)⟩, ⟨68, [], .pointer (some ⟨d3, 0, none⟩)⟩, ⟨0, [], .slice aa a.size ca⟩, ⟨1, [], .slice ab b.size cb⟩, ⟨2, [], .slice (cutA ka kc 1 1) ((Int.toNat ((l.length : Nat) : Int)) - 1) (kc - 1)⟩, ⟨8, [], .pointer (some ⟨d3, 0, none⟩)⟩, ⟨9, [], .bool true⟩, ⟨10, [], .bool false⟩]) [0, 0] (by kernel_rfl) (j := 2) rfl ?_
        refine GL_call (i := 2) (ch := []) (f := 18) (fst := #[]) (caps := #[]) (vs := [.pointer (some ⟨d3, 0, none⟩), .slice (cutA ka kc 1 1) ((Int.toNat ((l.length : Nat) : Int)) - 1) (kc - 1)]) rfl rfl rfl (by kernel_rfl) (by kernel_rfl) Try.func18 rfl rfl (by kernel_rfl) (by kernel_rfl) (chSure_of (by kernel_rfl)) ((by have := dCrash hs21 (sm7 ha hb (le_in (le_in (le_in hni h1) h2) h3)) d3 (l.drop 1) (cutA ka kc 1 1) (kc - 1) Sk (ksNext_ok1 hK hne) [] _ (G ++ H) (fun y o h => at_up (hSk y o h)); rw [List.length_drop] at this; exact this)) ?_
        rintro v H' ⟨rfl, s22, hs22, rfl⟩
        refine GL_fin (E' := [⟨0, [], .slice aa a.size ca⟩, ⟨1, [], .slice ab b.size cb⟩, ⟨8, [], .pointer (some ⟨d3, 0, none⟩)⟩, ⟨9, [], .bool true⟩, ⟨10, [], .bool false⟩]) [] [0, 1, 8, 9, 10] rfl (by kernel_rfl) ?_
        refine N_then ?_
        refine G_seq ?_
        rcases end7 (a := a) (b := b) (n := (n - 1 - 1 - 1)) (ks := l.drop 1) with he7 | he7
        ·
          -- L e7a
          refine G_region ?_
          refine GL_pure (E' := [⟨72, [], .pointer (some ⟨d3, 0, none⟩)⟩, ⟨0, [], .slice aa a.size ca⟩, ⟨1, [], .slice ab b.size cb⟩, ⟨8, [], .pointer (some ⟨d3, 0, none⟩)⟩, ⟨9, [], .bool true⟩, ⟨10, [], .bool false⟩]) [0] (by kernel_rfl) (j := 1) rfl ?_
          refine GL_call (i := 1) (ch := []) (f := 19) (fst := #[]) (caps := #[]) (vs := [.pointer (some ⟨d3, 0, none⟩), .string (ByteArray.mk #[112])]) rfl rfl rfl (by kernel_rfl) (by kernel_rfl) Try.func19 rfl rfl (by kernel_rfl) (by kernel_rfl) (chSure_of (by kernel_rfl)) (dRead hs22 (crash_size (sm7 ha hb (le_in (le_in (le_in hni h1) h2) h3)) _) d3 (ByteArray.mk #[112]) [] _ (G ++ H) he7) ?_
          rintro v H' ⟨ra19, rc20, g21, rfl, hrc22, hrd23, rfl⟩
          refine GL_fin (E' := [⟨0, [], .slice aa a.size ca⟩, ⟨1, [], .slice ab b.size cb⟩, ⟨9, [], .bool true⟩, ⟨10, [], .bool false⟩, ⟨11, [], .slice ra19 a.size rc20⟩, ⟨12, [], .int .i64 0⟩]) [0, 0, 0, 0, 0] [0, 1, 9, 10, 11, 12] rfl (by kernel_rfl) ?_
          refine N_then ?_
          refine G_seq ?_
          refine G_region ?_
          refine GL_pure (E' := [⟨79, [(78, true)], .slice ra19 a.size rc20⟩, ⟨78, [], .bool true⟩, ⟨77, [], .bool true⟩, ⟨76, [], .int .i64 0⟩, ⟨0, [], .slice aa a.size ca⟩, ⟨1, [], .slice ab b.size cb⟩, ⟨9, [], .bool true⟩, ⟨10, [], .bool false⟩, ⟨11, [], .slice ra19 a.size rc20⟩, ⟨12, [], .int .i64 0⟩]) [0, 0, 0, 0] (by kernel_rfl) (j := 4) rfl ?_
          refine GL_bytesB (i := 4) (ch := [(78, true)]) (a := ra19) (cap := rc20) (e := 5) (S := (inG g21)) a rfl rfl (by kernel_rfl) (by kernel_rfl) (by kernel_rfl) (by kernel_rfl) (by kernel_rfl) (by kernel_rfl) (by kernel_rfl) hrd23 (at_inG 0 rfl) ?_
          refine GL_pure (E' := [⟨81, [(78, true)], .slice ab b.size cb⟩, ⟨80, [(78, true)], .string a⟩, ⟨79, [(78, true)], .slice ra19 a.size rc20⟩, ⟨78, [], .bool true⟩, ⟨77, [], .bool true⟩, ⟨76, [], .int .i64 0⟩, ⟨0, [], .slice aa a.size ca⟩, ⟨1, [], .slice ab b.size cb⟩, ⟨9, [], .bool true⟩, ⟨10, [], .bool false⟩, ⟨11, [], .slice ra19 a.size rc20⟩, ⟨12, [], .int .i64 0⟩]) [0] (by kernel_rfl) (j := 6) rfl ?_
          refine GL_bytesB (i := 6) (ch := [(78, true)]) (a := ab) (cap := cb) (e := 5) (S := Sb) b rfl rfl (by kernel_rfl) (by kernel_rfl) (by kernel_rfl) (by kernel_rfl) (by kernel_rfl) (by kernel_rfl) (by kernel_rfl) hB.rd (fun y o h => at_up (hB.at_ y o h)) ?_
          refine GL_pure (E' := [⟨88, [(87, false), (78, true)], .slice ra19 a.size rc20⟩, ⟨87, [(78, true)], .bool ((a.toList == b.toList) && true)⟩, ⟨86, [(78, true)], .bool ((a.toList == b.toList) && true)⟩, ⟨85, [(84, true), (78, true)], .bool true⟩, ⟨84, [(78, true)], .bool (a.toList == b.toList)⟩, ⟨83, [(78, true)], .bool (a.toList == b.toList)⟩, ⟨82, [(78, true)], .string b⟩, ⟨81, [(78, true)], .slice ab b.size cb⟩, ⟨80, [(78, true)], .string a⟩, ⟨79, [(78, true)], .slice ra19 a.size rc20⟩, ⟨78, [], .bool true⟩, ⟨77, [], .bool true⟩, ⟨76, [], .int .i64 0⟩, ⟨0, [], .slice aa a.size ca⟩, ⟨1, [], .slice ab b.size cb⟩, ⟨9, [], .bool true⟩, ⟨10, [], .bool false⟩, ⟨11, [], .slice ra19 a.size rc20⟩, ⟨12, [], .int .i64 0⟩]) [0, 0, 0, 6, 0, 0] (by kernel_rfl) (j := 13) rfl ?_
          refine GL_bytesB (i := 13) (ch := [(87, false), (78, true)]) (a := ra19) (cap := rc20) (e := 5) (S := (inG g21)) a rfl rfl (by kernel_rfl) (by kernel_rfl) (by kernel_rfl) (by kernel_rfl) (by kernel_rfl) (by kernel_rfl) (by kernel_rfl) hrd23 (at_inG 0 rfl) ?_
          refine GL_pure (E' := [⟨90, [(87, false), (78, true)], .slice aa a.size ca⟩, ⟨89, [(87, false), (78, true)], .string a⟩, ⟨88, [(87, false), (78, true)], .slice ra19 a.size rc20⟩, ⟨87, [(78, true)], .bool ((a.toList == b.toList) && true)⟩, ⟨86, [(78, true)], .bool ((a.toList == b.toList) && true)⟩, ⟨85, [(84, true), (78, true)], .bool true⟩, ⟨84, [(78, true)], .bool (a.toList == b.toList)⟩, ⟨83, [(78, true)], .bool (a.toList == b.toList)⟩, ⟨82, [(78, true)], .string b⟩, ⟨81, [(78, true)], .slice ab b.size cb⟩, ⟨80, [(78, true)], .string a⟩, ⟨79, [(78, true)], .slice ra19 a.size rc20⟩, ⟨78, [], .bool true⟩, ⟨77, [], .bool true⟩, ⟨76, [], .int .i64 0⟩, ⟨0, [], .slice aa a.size ca⟩, ⟨1, [], .slice ab b.size cb⟩, ⟨9, [], .bool true⟩, ⟨10, [], .bool false⟩, ⟨11, [], .slice ra19 a.size rc20⟩, ⟨12, [], .int .i64 0⟩]) [0] (by kernel_rfl) (j := 15) rfl ?_
          refine GL_bytesB (i := 15) (ch := [(87, false), (78, true)]) (a := aa) (cap := ca) (e := 5) (S := Sa) a rfl rfl (by kernel_rfl) (by kernel_rfl) (by kernel_rfl) (by kernel_rfl) (by kernel_rfl) (by kernel_rfl) (by kernel_rfl) hA.rd (fun y o h => at_up (hA.at_ y o h)) ?_
          refine GL_fin (E' := [⟨6, [], .bool (((a.toList == b.toList) && true) || ((a.toList == a.toList) && true))⟩]) [0, 0, 0, 0, 6, 5, 2, 0] [6] rfl (by kernel_rfl) ?_
          refine N_then ?_
          refine G_ret ?_
          refine N_ret [.tmp 6] [.bool (((a.toList == b.toList) && true) || ((a.toList == a.toList) && true))] rfl (by kernel_rfl) rfl ?_
          exact ⟨by first | rfl | (show Value.bool _ = _; simp), [g21] ++ (s22.G d3 (crashM (sw7 a b (n - 1 - 1 - 1)) (l.drop 1)) ++ G), by simp⟩
        ·
          -- L e7b
          refine G_region ?_
          refine GL_pure (E' := [⟨72, [], .pointer (some ⟨d3, 0, none⟩)⟩, ⟨0, [], .slice aa a.size ca⟩, ⟨1, [], .slice ab b.size cb⟩, ⟨8, [], .pointer (some ⟨d3, 0, none⟩)⟩, ⟨9, [], .bool true⟩, ⟨10, [], .bool false⟩]) [0] (by kernel_rfl) (j := 1) rfl ?_
          refine GL_call (i := 1) (ch := []) (f := 19) (fst := #[]) (caps := #[]) (vs := [.pointer (some ⟨d3, 0, none⟩), .string (ByteArray.mk #[112])]) rfl rfl rfl (by kernel_rfl) (by kernel_rfl) Try.func19 rfl rfl (by kernel_rfl) (by kernel_rfl) (chSure_of (by kernel_rfl)) (dRead hs22 (crash_size (sm7 ha hb (le_in (le_in (le_in hni h1) h2) h3)) _) d3 (ByteArray.mk #[112]) [] _ (G ++ H) he7) ?_
          rintro v H' ⟨ra24, rc25, g26, rfl, hrc27, hrd28, rfl⟩
          refine GL_fin (E' := [⟨0, [], .slice aa a.size ca⟩, ⟨1, [], .slice ab b.size cb⟩, ⟨9, [], .bool true⟩, ⟨10, [], .bool false⟩, ⟨11, [], .slice ra24 b.size rc25⟩, ⟨12, [], .int .i64 0⟩]) [0, 0, 0, 0, 0] [0, 1, 9, 10, 11, 12] rfl (by kernel_rfl) ?_
          refine N_then ?_
          refine G_seq ?_
          refine G_region ?_
          refine GL_pure (E' := [⟨79, [(78, true)], .slice ra24 b.size rc25⟩, ⟨78, [], .bool true⟩, ⟨77, [], .bool true⟩, ⟨76, [], .int .i64 0⟩, ⟨0, [], .slice aa a.size ca⟩, ⟨1, [], .slice ab b.size cb⟩, ⟨9, [], .bool true⟩, ⟨10, [], .bool false⟩, ⟨11, [], .slice ra24 b.size rc25⟩, ⟨12, [], .int .i64 0⟩]) [0, 0, 0, 0] (by kernel_rfl) (j := 4) rfl ?_
          refine GL_bytesB (i := 4) (ch := [(78, true)]) (a := ra24) (cap := rc25) (e := 5) (S := (inG g26)) b rfl rfl (by kernel_rfl) (by kernel_rfl) (by kernel_rfl) (by kernel_rfl) (by kernel_rfl) (by kernel_rfl) (by kernel_rfl) hrd28 (at_inG 0 rfl) ?_
          refine GL_pure (E' := [⟨81, [(78, true)], .slice ab b.size cb⟩, ⟨80, [(78, true)], .string b⟩, ⟨79, [(78, true)], .slice ra24 b.size rc25⟩, ⟨78, [], .bool true⟩, ⟨77, [], .bool true⟩, ⟨76, [], .int .i64 0⟩, ⟨0, [], .slice aa a.size ca⟩, ⟨1, [], .slice ab b.size cb⟩, ⟨9, [], .bool true⟩, ⟨10, [], .bool false⟩, ⟨11, [], .slice ra24 b.size rc25⟩, ⟨12, [], .int .i64 0⟩]) [0] (by kernel_rfl) (j := 6) rfl ?_
          refine GL_bytesB (i := 6) (ch := [(78, true)]) (a := ab) (cap := cb) (e := 5) (S := Sb) b rfl rfl (by kernel_rfl) (by kernel_rfl) (by kernel_rfl) (by kernel_rfl) (by kernel_rfl) (by kernel_rfl) (by kernel_rfl) hB.rd (fun y o h => at_up (hB.at_ y o h)) ?_
          refine GL_pure (E' := [⟨88, [(87, false), (78, true)], .slice ra24 b.size rc25⟩, ⟨87, [(78, true)], .bool ((b.toList == b.toList) && true)⟩, ⟨86, [(78, true)], .bool ((b.toList == b.toList) && true)⟩, ⟨85, [(84, true), (78, true)], .bool true⟩, ⟨84, [(78, true)], .bool (b.toList == b.toList)⟩, ⟨83, [(78, true)], .bool (b.toList == b.toList)⟩, ⟨82, [(78, true)], .string b⟩, ⟨81, [(78, true)], .slice ab b.size cb⟩, ⟨80, [(78, true)], .string b⟩, ⟨79, [(78, true)], .slice ra24 b.size rc25⟩, ⟨78, [], .bool true⟩, ⟨77, [], .bool true⟩, ⟨76, [], .int .i64 0⟩, ⟨0, [], .slice aa a.size ca⟩, ⟨1, [], .slice ab b.size cb⟩, ⟨9, [], .bool true⟩, ⟨10, [], .bool false⟩, ⟨11, [], .slice ra24 b.size rc25⟩, ⟨12, [], .int .i64 0⟩]) [0, 0, 0, 6, 0, 0] (by kernel_rfl) (j := 13) rfl ?_
          refine GL_bytesB (i := 13) (ch := [(87, false), (78, true)]) (a := ra24) (cap := rc25) (e := 5) (S := (inG g26)) b rfl rfl (by kernel_rfl) (by kernel_rfl) (by kernel_rfl) (by kernel_rfl) (by kernel_rfl) (by kernel_rfl) (by kernel_rfl) hrd28 (at_inG 0 rfl) ?_
          refine GL_pure (E' := [⟨90, [(87, false), (78, true)], .slice aa a.size ca⟩, ⟨89, [(87, false), (78, true)], .string b⟩, ⟨88, [(87, false), (78, true)], .slice ra24 b.size rc25⟩, ⟨87, [(78, true)], .bool ((b.toList == b.toList) && true)⟩, ⟨86, [(78, true)], .bool ((b.toList == b.toList) && true)⟩, ⟨85, [(84, true), (78, true)], .bool true⟩, ⟨84, [(78, true)], .bool (b.toList == b.toList)⟩, ⟨83, [(78, true)], .bool (b.toList == b.toList)⟩, ⟨82, [(78, true)], .string b⟩, ⟨81, [(78, true)], .slice ab b.size cb⟩, ⟨80, [(78, true)], .string b⟩, ⟨79, [(78, true)], .slice ra24 b.size rc25⟩, ⟨78, [], .bool true⟩, ⟨77, [], .bool true⟩, ⟨76, [], .int .i64 0⟩, ⟨0, [], .slice aa a.size ca⟩, ⟨1, [], .slice ab b.size cb⟩, ⟨9, [], .bool true⟩, ⟨10, [], .bool false⟩, ⟨11, [], .slice ra24 b.size rc25⟩, ⟨12, [], .int .i64 0⟩]) [0] (by kernel_rfl) (j := 15) rfl ?_
          refine GL_bytesB (i := 15) (ch := [(87, false), (78, true)]) (a := aa) (cap := ca) (e := 5) (S := Sa) a rfl rfl (by kernel_rfl) (by kernel_rfl) (by kernel_rfl) (by kernel_rfl) (by kernel_rfl) (by kernel_rfl) (by kernel_rfl) hA.rd (fun y o h => at_up (hA.at_ y o h)) ?_
          refine GL_fin (E' := [⟨6, [], .bool (((b.toList == b.toList) && true) || ((b.toList == a.toList) && true))⟩]) [0, 0, 0, 0, 6, 5, 2, 0] [6] rfl (by kernel_rfl) ?_
          refine N_then ?_
          refine G_ret ?_
          refine N_ret [.tmp 6] [.bool (((b.toList == b.toList) && true) || ((b.toList == a.toList) && true))] rfl (by kernel_rfl) rfl ?_
          exact ⟨by first | rfl | (show Value.bool _ = _; simp), [g26] ++ (s22.G d3 (crashM (sw7 a b (n - 1 - 1 - 1)) (l.drop 1)) ++ G), by simp⟩
      ·
        -- L c4
        refine G_region ?_
        refine GL_pure (E' := [⟨49, [], .slice ab b.size cb⟩, ⟨48, [], .pointer (some ⟨d3, 0, none⟩)⟩, ⟨0, [], .slice aa a.size ca⟩, ⟨1, [], .slice ab b.size cb⟩, ⟨2, [], .slice (cutA ka kc 1 1) ((Int.toNat ((l.length : Nat) : Int)) - 1) (kc - 1)⟩, ⟨8, [], .pointer (some ⟨d3, 0, none⟩)⟩]) [0, 0] (by kernel_rfl) (j := 2) rfl ?_
        refine GL_call (i := 2) (ch := []) (f := 13) (fst := #[]) (caps := #[]) (vs := [.pointer (some ⟨d3, 0, none⟩), .string (ByteArray.mk #[113]), .slice ab b.size cb]) rfl rfl rfl (by kernel_rfl) (by kernel_rfl) Try.func13 rfl rfl (by kernel_rfl) (by kernel_rfl) (chSure_of (by kernel_rfl)) (dWrite hs5 (sm4 ha hni) d3 (ByteArray.mk #[113]) b (by decide) (by omega) [] _ (G ++ H) hB.v.up (write_q ha hb h1)) ?_
        rintro v H' ⟨rfl, s25, hs25, rfl⟩
        refine GL_pure (E' := [⟨53, [(52, true)], .pointer (some ⟨d3, 0, none⟩)⟩, ⟨52, [], .bool true⟩, ⟨51, [], .bool true⟩, ⟨50, [], .int .i64 0⟩, ⟨49, [], .slice ab b.size cb⟩, ⟨48, [], .pointer (some ⟨d3, 0, none⟩)⟩, ⟨0, [], .slice aa a.size ca⟩, ⟨1, [], .slice ab b.size cb⟩, ⟨2, [], .slice (cutA ka kc 1 1) ((Int.toNat ((l.length : Nat) : Int)) - 1) (kc - 1)⟩, ⟨8, [], .pointer (some ⟨d3, 0, none⟩)⟩]) [0, 0, 0] (by kernel_rfl) (j := 6) rfl ?_
        refine GL_call (i := 6) (ch := [(52, true)]) (f := 14) (fst := #[]) (caps := #[]) (vs := [.pointer (some ⟨d3, 0, none⟩), .string (ByteArray.mk #[113])]) rfl rfl rfl (by kernel_rfl) (by kernel_rfl) Try.func14 rfl rfl (by kernel_rfl) (by kernel_rfl) (chSure_of (by kernel_rfl)) (dSync hs25 (sm5 ha hb (le_in hni h1)) d3 (ByteArray.mk #[113]) (by decide) [] _ (G ++ H) (sync_q h2)) ?_
        rintro v H' ⟨rfl, s26, hs26, rfl⟩
        refine GL_pure (E' := [⟨58, [(57, true)], .pointer (some ⟨d3, 0, none⟩)⟩, ⟨57, [], .bool true⟩, ⟨56, [], .bool true⟩, ⟨55, [(52, true)], .bool true⟩, ⟨54, [(52, true)], .int .i64 0⟩, ⟨53, [(52, true)], .pointer (some ⟨d3, 0, none⟩)⟩, ⟨52, [], .bool true⟩, ⟨51, [], .bool true⟩, ⟨50, [], .int .i64 0⟩, ⟨49, [], .slice ab b.size cb⟩, ⟨48, [], .pointer (some ⟨d3, 0, none⟩)⟩, ⟨0, [], .slice aa a.size ca⟩, ⟨1, [], .slice ab b.size cb⟩, ⟨2, [], .slice (cutA ka kc 1 1) ((Int.toNat ((l.length : Nat) : Int)) - 1) (kc - 1)⟩, ⟨8, [], .pointer (some ⟨d3, 0, none⟩)⟩]) [0, 2, 0, 0] (by kernel_rfl) (j := 11) rfl ?_
        refine GL_call (i := 11) (ch := [(57, true)]) (f := 17) (fst := #[]) (caps := #[]) (vs := [.pointer (some ⟨d3, 0, none⟩), .string (ByteArray.mk #[113]), .string (ByteArray.mk #[112])]) rfl rfl rfl (by kernel_rfl) (by kernel_rfl) Try.func17 rfl rfl (by kernel_rfl) (by kernel_rfl) (chSure_of (by kernel_rfl)) (dRename hs26 (sm6 ha hb (le_in (le_in hni h1) h2)) d3 (ByteArray.mk #[113]) (ByteArray.mk #[112]) (by decide) (by decide) [] _ (G ++ H) (ren_q h3)) ?_
        rintro v H' ⟨rfl, s27, hs27, rfl⟩
        refine GL_fin (E' := [⟨0, [], .slice aa a.size ca⟩, ⟨1, [], .slice ab b.size cb⟩, ⟨2, [], .slice (cutA ka kc 1 1) ((Int.toNat ((l.length : Nat) : Int)) - 1) (kc - 1)⟩, ⟨8, [], .pointer (some ⟨d3, 0, none⟩)⟩, ⟨9, [], .bool true⟩]) [0, 2, 0] [0, 1, 2, 8, 9] rfl (by kernel_rfl) ?_
        refine N_then ?_
        refine G_seq ?_
        refine G_region ?_
        refine GL_pure (E' := [⟨64, [(63, true)], .pointer (some ⟨d3, 0, none⟩)⟩, ⟨63, [], .bool true⟩, ⟨62, [], .bool true⟩, ⟨0, [], .slice aa a.size ca⟩, ⟨1, [], .slice ab b.size cb⟩, ⟨2, [], .slice (cutA ka kc 1 1) ((Int.toNat ((l.length : Nat) : Int)) - 1) (kc - 1)⟩, ⟨8, [], .pointer (some ⟨d3, 0, none⟩)⟩, ⟨9, [], .bool true⟩]) [0, 0, 0] (by kernel_rfl) (j := 3) rfl ?_
        refine GL_call (i := 3) (ch := [(63, true)]) (f := 15) (fst := #[]) (caps := #[]) (vs := [.pointer (some ⟨d3, 0, none⟩), .string (ByteArray.mk #[])]) rfl rfl rfl (by kernel_rfl) (by kernel_rfl) Try.func15 rfl rfl (by kernel_rfl) (by kernel_rfl) (chSure_of (by kernel_rfl)) (dSyncDir hs27 (sm7 ha hb (le_in (le_in (le_in hni h1) h2) h3)) d3 (ByteArray.mk #[]) (by decide) [] _ (G ++ H) (sdir_q h4)) ?_
        rintro v H' ⟨rfl, s28, hs28, rfl⟩
        refine GL_fin (E' := [⟨0, [], .slice aa a.size ca⟩, ⟨1, [], .slice ab b.size cb⟩, ⟨2, [], .slice (cutA ka kc 1 1) ((Int.toNat ((l.length : Nat) : Int)) - 1) (kc - 1)⟩, ⟨8, [], .pointer (some ⟨d3, 0, none⟩)⟩, ⟨9, [], .bool true⟩, ⟨10, [], .bool true⟩]) [0, 2, 0] [0, 1, 2, 8, 9, 10] rfl (by kernel_rfl) ?_
        refine N_then ?_
        refine G_seq ?_
        refine G_region ?_
        refine GL_pure (E' := [⟨69, [], .slice (cutA ka kc 1 1) ((Int.toNat ((l.length : Nat) : Int)) - 1) (kc - 1)⟩, ⟨68, [], .pointer (some ⟨d3, 0, none⟩)⟩, ⟨0, [], .slice aa a.size ca⟩, ⟨1, [], .slice ab b.size cb⟩, ⟨2, [], .slice (cutA ka kc 1 1) ((Int.toNat ((l.length : Nat) : Int)) - 1) (kc - 1)⟩, ⟨8, [], .pointer (some ⟨d3, 0, none⟩)⟩, ⟨9, [], .bool true⟩, ⟨10, [], .bool true⟩]) [0, 0] (by kernel_rfl) (j := 2) rfl ?_
        refine GL_call (i := 2) (ch := []) (f := 18) (fst := #[]) (caps := #[]) (vs := [.pointer (some ⟨d3, 0, none⟩), .slice (cutA ka kc 1 1) ((Int.toNat ((l.length : Nat) : Int)) - 1) (kc - 1)]) rfl rfl rfl (by kernel_rfl) (by kernel_rfl) Try.func18 rfl rfl (by kernel_rfl) (by kernel_rfl) (chSure_of (by kernel_rfl)) ((by have := dCrash hs28 (sm8 ha hb (le_in (le_in (le_in (le_in hni h1) h2) h3) h4)) d3 (l.drop 1) (cutA ka kc 1 1) (kc - 1) Sk (ksNext_ok1 hK hne) [] _ (G ++ H) (fun y o h => at_up (hSk y o h)); rw [List.length_drop] at this; exact this)) ?_
        rintro v H' ⟨rfl, s29, hs29, rfl⟩
        refine GL_fin (E' := [⟨0, [], .slice aa a.size ca⟩, ⟨1, [], .slice ab b.size cb⟩, ⟨8, [], .pointer (some ⟨d3, 0, none⟩)⟩, ⟨9, [], .bool true⟩, ⟨10, [], .bool true⟩]) [] [0, 1, 8, 9, 10] rfl (by kernel_rfl) ?_
        refine N_then ?_
        refine G_seq ?_
        refine G_region ?_
        refine GL_pure (E' := [⟨72, [], .pointer (some ⟨d3, 0, none⟩)⟩, ⟨0, [], .slice aa a.size ca⟩, ⟨1, [], .slice ab b.size cb⟩, ⟨8, [], .pointer (some ⟨d3, 0, none⟩)⟩, ⟨9, [], .bool true⟩, ⟨10, [], .bool true⟩]) [0] (by kernel_rfl) (j := 1) rfl ?_
        refine GL_call (i := 1) (ch := []) (f := 19) (fst := #[]) (caps := #[]) (vs := [.pointer (some ⟨d3, 0, none⟩), .string (ByteArray.mk #[112])]) rfl rfl rfl (by kernel_rfl) (by kernel_rfl) Try.func19 rfl rfl (by kernel_rfl) (by kernel_rfl) (chSure_of (by kernel_rfl)) (dRead hs29 (crash_size (sm8 ha hb (le_in (le_in (le_in (le_in hni h1) h2) h3) h4)) _) d3 (ByteArray.mk #[112]) [] _ (G ++ H) end8) ?_
        rintro v H' ⟨ra29, rc30, g31, rfl, hrc32, hrd33, rfl⟩
        refine GL_fin (E' := [⟨0, [], .slice aa a.size ca⟩, ⟨1, [], .slice ab b.size cb⟩, ⟨9, [], .bool true⟩, ⟨10, [], .bool true⟩, ⟨11, [], .slice ra29 b.size rc30⟩, ⟨12, [], .int .i64 0⟩]) [0, 0, 0, 0, 0] [0, 1, 9, 10, 11, 12] rfl (by kernel_rfl) ?_
        refine N_then ?_
        refine G_seq ?_
        refine G_region ?_
        refine GL_pure (E' := [⟨79, [(78, true)], .slice ra29 b.size rc30⟩, ⟨78, [], .bool true⟩, ⟨77, [], .bool true⟩, ⟨76, [], .int .i64 0⟩, ⟨0, [], .slice aa a.size ca⟩, ⟨1, [], .slice ab b.size cb⟩, ⟨9, [], .bool true⟩, ⟨10, [], .bool true⟩, ⟨11, [], .slice ra29 b.size rc30⟩, ⟨12, [], .int .i64 0⟩]) [0, 0, 0, 0] (by kernel_rfl) (j := 4) rfl ?_
        refine GL_bytesB (i := 4) (ch := [(78, true)]) (a := ra29) (cap := rc30) (e := 5) (S := (inG g31)) b rfl rfl (by kernel_rfl) (by kernel_rfl) (by kernel_rfl) (by kernel_rfl) (by kernel_rfl) (by kernel_rfl) (by kernel_rfl) hrd33 (at_inG 0 rfl) ?_
        refine GL_pure (E' := [⟨81, [(78, true)], .slice ab b.size cb⟩, ⟨80, [(78, true)], .string b⟩, ⟨79, [(78, true)], .slice ra29 b.size rc30⟩, ⟨78, [], .bool true⟩, ⟨77, [], .bool true⟩, ⟨76, [], .int .i64 0⟩, ⟨0, [], .slice aa a.size ca⟩, ⟨1, [], .slice ab b.size cb⟩, ⟨9, [], .bool true⟩, ⟨10, [], .bool true⟩, ⟨11, [], .slice ra29 b.size rc30⟩, ⟨12, [], .int .i64 0⟩]) [0] (by kernel_rfl) (j := 6) rfl ?_
        refine GL_bytesB (i := 6) (ch := [(78, true)]) (a := ab) (cap := cb) (e := 5) (S := Sb) b rfl rfl (by kernel_rfl) (by kernel_rfl) (by kernel_rfl) (by kernel_rfl) (by kernel_rfl) (by kernel_rfl) (by kernel_rfl) hB.rd (fun y o h => at_up (hB.at_ y o h)) ?_
        refine GL_pure (E' := [⟨88, [(87, false), (78, true)], .slice ra29 b.size rc30⟩, ⟨87, [(78, true)], .bool ((b.toList == b.toList) && true)⟩, ⟨86, [(78, true)], .bool ((b.toList == b.toList) && true)⟩, ⟨85, [(84, true), (78, true)], .bool true⟩, ⟨84, [(78, true)], .bool (b.toList == b.toList)⟩, ⟨83, [(78, true)], .bool (b.toList == b.toList)⟩, ⟨82, [(78, true)], .string b⟩, ⟨81, [(78, true)], .slice ab b.size cb⟩, ⟨80, [(78, true)], .string b⟩, ⟨79, [(78, true)], .slice ra29 b.size rc30⟩, ⟨78, [], .bool true⟩, ⟨77, [], .bool true⟩, ⟨76, [], .int .i64 0⟩, ⟨0, [], .slice aa a.size ca⟩, ⟨1, [], .slice ab b.size cb⟩, ⟨9, [], .bool true⟩, ⟨10, [], .bool true⟩, ⟨11, [], .slice ra29 b.size rc30⟩, ⟨12, [], .int .i64 0⟩]) [0, 0, 0, 6, 0, 0] (by kernel_rfl) (j := 13) rfl ?_
        refine GL_bytesB (i := 13) (ch := [(87, false), (78, true)]) (a := ra29) (cap := rc30) (e := 5) (S := (inG g31)) b rfl rfl (by kernel_rfl) (by kernel_rfl) (by kernel_rfl) (by kernel_rfl) (by kernel_rfl) (by kernel_rfl) (by kernel_rfl) hrd33 (at_inG 0 rfl) ?_
        refine GL_pure (E' := [⟨90, [(87, false), (78, true)], .slice aa a.size ca⟩, ⟨89, [(87, false), (78, true)], .string b⟩, ⟨88, [(87, false), (78, true)], .slice ra29 b.size rc30⟩, ⟨87, [(78, true)], .bool ((b.toList == b.toList) && true)⟩, ⟨86, [(78, true)], .bool ((b.toList == b.toList) && true)⟩, ⟨85, [(84, true), (78, true)], .bool true⟩, ⟨84, [(78, true)], .bool (b.toList == b.toList)⟩, ⟨83, [(78, true)], .bool (b.toList == b.toList)⟩, ⟨82, [(78, true)], .string b⟩, ⟨81, [(78, true)], .slice ab b.size cb⟩, ⟨80, [(78, true)], .string b⟩, ⟨79, [(78, true)], .slice ra29 b.size rc30⟩, ⟨78, [], .bool true⟩, ⟨77, [], .bool true⟩, ⟨76, [], .int .i64 0⟩, ⟨0, [], .slice aa a.size ca⟩, ⟨1, [], .slice ab b.size cb⟩, ⟨9, [], .bool true⟩, ⟨10, [], .bool true⟩, ⟨11, [], .slice ra29 b.size rc30⟩, ⟨12, [], .int .i64 0⟩]) [0] (by kernel_rfl) (j := 15) rfl ?_
        refine GL_bytesB (i := 15) (ch := [(87, false), (78, true)]) (a := aa) (cap := ca) (e := 5) (S := Sa) a rfl rfl (by kernel_rfl) (by kernel_rfl) (by kernel_rfl) (by kernel_rfl) (by kernel_rfl) (by kernel_rfl) (by kernel_rfl) hA.rd (fun y o h => at_up (hA.at_ y o h)) ?_
        refine GL_fin (E' := [⟨6, [], .bool (((b.toList == b.toList) && true) || ((b.toList == a.toList) && false))⟩]) [0, 0, 0, 0, 6, 5, 2, 0] [6] rfl (by kernel_rfl) ?_
        refine N_then ?_
        refine G_ret ?_
        refine N_ret [.tmp 6] [.bool (((b.toList == b.toList) && true) || ((b.toList == a.toList) && false))] rfl (by kernel_rfl) rfl ?_
        exact ⟨by first | rfl | (show Value.bool _ = _; simp), [g31] ++ (s29.G d3 (crashM (sw8 a b (n - 1 - 1 - 1 - 1)) (l.drop 1)) ++ G), by simp⟩

end Go.Proofs.Ytbmieiffboenbaa
