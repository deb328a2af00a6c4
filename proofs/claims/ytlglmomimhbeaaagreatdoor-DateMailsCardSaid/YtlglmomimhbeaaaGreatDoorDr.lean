/- The walks of the document's answer for RSS: words, places. The table of powers lies as laid. -/
import Derived.Test.YtlglmomimhbeaaaGreatDoorDo
import Derived.Test.YtlglmomimhbeaaaGreatDoorDl
import Derived.Test.YtlglmomimhbeaaaGreatDoorRw
namespace Go.Proofs.YtlglmomimhbeaaaGreatDoor
open Go.Sw Go.Lib Go.Cal Go.Scn


theorem refWords (s : ByteArray) (hs : s.size ≤ 300) (W0 : World) (H : List Grp) : Tri Tryz.prog 24 #[.string s] W0 H (fun v H' => ∃ g, Own 9 1 v g (wordsB s).length (strs (wordsB s)) ∧ H' = g :: H) := by
  refine Tri_of (args := [.string s]) (n := 32) Tryz.func24 rfl rfl (Nat.le_of_ble_eq_true rfl) ?_
  refine G_seq ?_
  refine G_pure (E' := [⟨0, [], .string s⟩]) [0] [0] rfl (by kernel_rfl) ?_
  refine N_then ?_
  refine G_seq ?_
  refine G_pure (E' := [⟨0, [], .string s⟩, ⟨3, [], .slice none 0 0⟩]) [0] [0, 3] rfl (by kernel_rfl) ?_
  refine N_then ?_
  refine G_seq ?_
  refine G_pure (E' := [⟨0, [], .string s⟩, ⟨3, [], .slice none 0 0⟩, ⟨4, [], .int .i64 0⟩]) [0] [0, 3, 4] rfl (by kernel_rfl) ?_
  refine N_then ?_
  refine G_seq ?_
  refine G_seq ?_
  refine G_pure (E' := [⟨0, [], .string s⟩, ⟨3, [], .slice none 0 0⟩, ⟨4, [], .int .i64 0⟩, ⟨5, [], .int .i64 0⟩]) [0] [0, 3, 4, 5] rfl (by kernel_rfl) ?_
  refine N_then ?_
  refine G_block ?_
  refine G_heap (H' := [] :: H) (fun w h => h.flat (List.Perm.refl _)) ?_
  refine G_loop (EI := (fun ξ : Nat × Value × Grp => [⟨0, [], .string s⟩, ⟨3, [], ξ.2.1⟩, ⟨4, [], .int .i64 (((wst s ξ.1).2 : Nat) : Int)⟩, ⟨5, [], .int .i64 ((ξ.1 : Nat) : Int)⟩])) (HI := (fun ξ : Nat × Value × Grp => (ξ.2.2 :: H))) (Φ := (fun ξ : Nat × Value × Grp => (ξ.1 ≤ s.size + 1) ∧ (Own 9 1 ξ.2.1 ξ.2.2 (wst s ξ.1).1.length (strs (wst s ξ.1).1)))) (μ := (fun ξ : Nat × Value × Grp => s.size + 1 - ξ.1)) (s0 := (0, .slice none 0 0, [])) [0, 3, 4, 5] (by kernel_rfl) rfl ⟨(by omega), Own.nil⟩ ?_
  rintro ⟨i, v, g⟩ ⟨hi, hO⟩
  have hle := wst_le s i
  refine G_seq ?_
  refine G_seq ?_
  refine G_pure (E' := [⟨0, [], .string s⟩, ⟨3, [], v⟩, ⟨4, [], .int .i64 (((wst s i).2 : Nat) : Int)⟩, ⟨5, [], .int .i64 ((i : Nat) : Int)⟩, ⟨9, [], .bool (decide (((i : Nat) : Int) ≤ (s.size : Int)))⟩]) [0, 0, 0, 0] [0, 3, 4, 5, 9] rfl (by kernel_rfl) ?_
  refine N_then ?_
  refine G_cond (b := decide (((i : Nat) : Int) ≤ (s.size : Int))) (by kernel_rfl) (fun hc1 => ?_) (fun hc1 => ?_)
  ·
    simp at hc1
    refine G_skip ?_
    refine N_then ?_
    refine G_seq ?_
    refine G_block ?_
    refine G_seq ?_
    refine G_region ?_
    refine GL_pure (E' := [⟨18, [(16, false)], .int .i64 ((i : Nat) : Int)⟩, ⟨17, [(16, false)], .string s⟩, ⟨16, [], .bool (((i : Nat) : Int) == (s.size : Int))⟩, ⟨15, [], .bool (((i : Nat) : Int) == (s.size : Int))⟩, ⟨14, [], .int .i64 (s.size : Int)⟩, ⟨13, [], .string s⟩, ⟨12, [], .int .i64 ((i : Nat) : Int)⟩, ⟨0, [], .string s⟩, ⟨3, [], v⟩, ⟨4, [], .int .i64 (((wst s i).2 : Nat) : Int)⟩, ⟨5, [], .int .i64 ((i : Nat) : Int)⟩, ⟨9, [], .bool (decide (((i : Nat) : Int) ≤ (s.size : Int)))⟩]) [0, 0, 0, 0, 0, 0, 0] (by kernel_rfl) (j := 7) rfl ?_
    refine GL_index (i := 7) (ch := [(16, false)]) (s := s) (kd := .i64) (j := ((i : Nat) : Int)) rfl rfl (by kernel_rfl) (by kernel_rfl) (by kernel_rfl) (by kernel_rfl) (by kernel_rfl) (by kernel_rfl) (fun hc => by have hg0 := chB_hd (t := 16) (c := []) (b := ((i : Nat) : Int) == (s.size : Int)) hc (by kernel_rfl); (try simp at hg0); omega) ?_
    have hb2 := byteAt_rng s ((i : Nat) : Int)
    refine GL_fin (E' := [⟨0, [], .string s⟩, ⟨3, [], v⟩, ⟨4, [], .int .i64 (((wst s i).2 : Nat) : Int)⟩, ⟨5, [], .int .i64 ((i : Nat) : Int)⟩, ⟨21, [], .bool ((((i : Nat) : Int) == (s.size : Int)) || ((byteAt s ((i : Nat) : Int)) == 32))⟩]) [0, 5] [0, 3, 4, 5, 21] rfl (by kernel_rfl) ?_
    refine N_then ?_
    refine G_cond (b := (((i : Nat) : Int) == (s.size : Int)) || ((byteAt s ((i : Nat) : Int)) == 32)) (by kernel_rfl) (fun hc3 => ?_) (fun hc3 => ?_)
    ·
      have hw := wst_yes hc3
      -- L yes
      refine G_seq ?_
      refine G_region ?_
      refine GL_pure (E' := [⟨25, [], .int .i64 ((i : Nat) : Int)⟩, ⟨24, [], .int .i64 (((wst s i).2 : Nat) : Int)⟩, ⟨23, [], .string s⟩, ⟨22, [], v⟩, ⟨0, [], .string s⟩, ⟨3, [], v⟩, ⟨4, [], .int .i64 (((wst s i).2 : Nat) : Int)⟩, ⟨5, [], .int .i64 ((i : Nat) : Int)⟩, ⟨21, [], .bool ((((i : Nat) : Int) == (s.size : Int)) || ((byteAt s ((i : Nat) : Int)) == 32))⟩]) [0, 0, 0, 0] (by kernel_rfl) (j := 4) rfl ?_
      refine GL_sliceS (i := 4) (ch := []) (s := s) (vl := (some (.int .i64 (((wst s i).2 : Nat) : Int)))) (vh := (some (.int .i64 ((i : Nat) : Int)))) (l := (((wst s i).2 : Nat) : Int)) (h := ((i : Nat) : Int)) rfl rfl (by kernel_rfl) (by kernel_rfl) (by kernel_rfl) (by kernel_rfl) (by kernel_rfl) (by kernel_rfl) (by kernel_rfl) (by kernel_rfl) (by kernel_rfl) (fun _ => by omega) ?_
      refine GL_buildSlice (i := 5) (ch := []) (e := 9) (l := [(0, .string (s.extract (Int.toNat (((wst s i).2 : Nat) : Int)) i))]) (c := [.string (s.extract (Int.toNat (((wst s i).2 : Nat) : Int)) i)]) rfl rfl (by kernel_rfl) (by kernel_rfl) (by kernel_rfl) (by kernel_rfl) (by kernel_rfl) (fun b4 => ?_)
      refine GL_append (i := 6) (ch := []) (t := 35) (tx := 35) (e := 9) (inf := Tryz.t9) (s := v) (x := .slice (some ⟨b4, 0, none⟩) 1 1) (n := (wst s i).1.length) (m := 1) (j := 1) (cs := (strs (wst s i).1)) (news := [.string (s.extract (Int.toNat (((wst s i).2 : Nat) : Int)) i)]) (g := g) (S := (inG [(b4, .cells #[.string (s.extract (Int.toNat (((wst s i).2 : Nat) : Int)) i)] 9 (0, 0))])) rfl rfl rfl rfl (by kernel_rfl) (by kernel_rfl) (by kernel_rfl) rfl rfl (.inl ⟨9, (by kernel_rfl)⟩) (fun ⟨_, h⟩ => by cases h) (fun _ => ⟨9, (by kernel_rfl)⟩) (by kernel_rfl) (by kernel_rfl) (by kernel_rfl) rfl hO (SrcOf.slice _ _ _ _ Rd.lit (fun h => by cases h)) (at_inG 0 rfl) (by kernel_rfl) (by intro u hu; rcases List.mem_singleton.1 hu with rfl; rfl) (by omega) (by show ((wst s i).1.length + 1) * 16 ≤ 140737488355328; omega) (fun v5 g6 hO7 => ?_)
      refine GL_fin (E' := [⟨0, [], .string s⟩, ⟨3, [], v5⟩, ⟨5, [], .int .i64 ((i : Nat) : Int)⟩]) [0] [0, 3, 5] rfl (by kernel_rfl) ?_
      refine N_then ?_
      have hw8 : IntKind.wrap .i64 (((i : Nat) : Int) + 1) = ((i : Nat) : Int) + 1 := w64 (by omega) (by omega)
      refine G_pure (E' := [⟨0, [], .string s⟩, ⟨3, [], v5⟩, ⟨4, [], .int .i64 (((i : Nat) : Int) + 1)⟩, ⟨5, [], .int .i64 ((i : Nat) : Int)⟩]) [0, 0, 0] [0, 3, 4, 5] rfl (Eq.trans (b := some [⟨0, [], .string s⟩, ⟨3, [], v5⟩, ⟨4, [], .int .i64 (IntKind.wrap .i64 (((i : Nat) : Int) + 1))⟩, ⟨5, [], .int .i64 ((i : Nat) : Int)⟩]) (by kernel_rfl) (by simp only [hw8])) ?_
      refine N_block ?_
      refine N_then ?_
      have hw9 : IntKind.wrap .i64 (((i : Nat) : Int) + 1) = ((i : Nat) : Int) + 1 := w64 (by omega) (by omega)
      refine G_pure (E' := [⟨0, [], .string s⟩, ⟨3, [], v5⟩, ⟨4, [], .int .i64 (((i : Nat) : Int) + 1)⟩, ⟨5, [], .int .i64 (((i : Nat) : Int) + 1)⟩]) [0, 0, 0] [0, 3, 4, 5] rfl (Eq.trans (b := some [⟨0, [], .string s⟩, ⟨3, [], v5⟩, ⟨4, [], .int .i64 (((i : Nat) : Int) + 1)⟩, ⟨5, [], .int .i64 (IntKind.wrap .i64 (((i : Nat) : Int) + 1))⟩]) (by kernel_rfl) (by simp only [hw9])) ?_
      refine N_env (E' := [⟨0, [], .string s⟩, ⟨3, [], v5⟩, ⟨4, [], .int .i64 (((wst s (i + 1)).2 : Nat) : Int)⟩, ⟨5, [], .int .i64 (((i : Nat) : Int) + 1)⟩]) (by rw [hw]; rfl) ?_
      refine N_heap (H' := (g6 :: H)) (fun w h => ((h.front (j := 1) rfl).erase 1)) ?_
      refine N_round (s' := (i + 1, v5, g6)) [0, 3, 4, 5] (by kernel_rfl) rfl ⟨(by omega), (own_next hw hO7)⟩ (by omega)
    ·
      have hw := wst_no hc3
      -- L no
      refine G_skip ?_
      refine N_block ?_
      refine N_then ?_
      have hw10 : IntKind.wrap .i64 (((i : Nat) : Int) + 1) = ((i : Nat) : Int) + 1 := w64 (by omega) (by omega)
      refine G_pure (E' := [⟨0, [], .string s⟩, ⟨3, [], v⟩, ⟨4, [], .int .i64 (((wst s i).2 : Nat) : Int)⟩, ⟨5, [], .int .i64 (((i : Nat) : Int) + 1)⟩]) [0, 0, 0] [0, 3, 4, 5] rfl (Eq.trans (b := some [⟨0, [], .string s⟩, ⟨3, [], v⟩, ⟨4, [], .int .i64 (((wst s i).2 : Nat) : Int)⟩, ⟨5, [], .int .i64 (IntKind.wrap .i64 (((i : Nat) : Int) + 1))⟩]) (by kernel_rfl) (by simp only [hw10])) ?_
      refine N_env (E' := [⟨0, [], .string s⟩, ⟨3, [], v⟩, ⟨4, [], .int .i64 (((wst s (i + 1)).2 : Nat) : Int)⟩, ⟨5, [], .int .i64 (((i : Nat) : Int) + 1)⟩]) (by rw [hw.1]) ?_
      refine N_heap (H' := (g :: H)) (fun w h => h) ?_
      refine N_round (s' := (i + 1, v, g)) [0, 3, 4, 5] (by kernel_rfl) rfl ⟨(by have := hw.2; omega), (by rw [hw.1]; exact hO)⟩ (by omega)
  ·
    simp at hc1
    refine G_exit ?_
    refine N_then_exit ?_
    refine N_then_exit ?_
    refine N_block_exit ?_
    refine N_then ?_
    refine G_seq ?_
    refine G_pure (E' := [⟨2, [], v⟩]) [0, 0] [2] rfl (by kernel_rfl) ?_
    refine N_then ?_
    refine G_ret ?_
    refine N_ret [.tmp 2] [v] rfl (by kernel_rfl) rfl ?_
    have hi2 : i = s.size + 1 := by omega
    subst hi2
    exact ⟨g, hO, rfl⟩

theorem refPlace (x : ByteArray) (a : Option Addr) (cap : Nat) (S : Nat → Obj → Prop) (ws : List ByteArray) (hrd : Rd S a (strs ws)) (hws : ws.length ≤ 1000) (W0 : World) (H : List Grp) (hS : ∀ y o, S y o → At W0 H y o) : Tri Tryz.prog 25 #[.string x, .slice a ws.length cap] W0 H (fun v H' => v = .int .i64 (placeB x ws 0) ∧ H' = H) := by
  refine Tri_of (args := [.string x, .slice a ws.length cap]) (n := 19) Tryz.func25 rfl rfl (Nat.le_of_ble_eq_true rfl) ?_
  refine G_seq ?_
  refine G_pure (E' := [⟨0, [], .string x⟩, ⟨1, [], .slice a ws.length cap⟩]) [0] [0, 1] rfl (by kernel_rfl) ?_
  refine N_then ?_
  refine G_seq ?_
  refine G_seq ?_
  refine G_pure (E' := [⟨0, [], .string x⟩, ⟨7, [], .slice a ws.length cap⟩, ⟨8, [], .int .i64 ((ws.length : Nat) : Int)⟩, ⟨9, [], .int .i64 0⟩]) [0, 0, 0] [0, 7, 8, 9] rfl (by kernel_rfl) ?_
  refine N_then ?_
  refine G_block ?_
  refine G_loop (EI := (fun ξ : Nat => [⟨0, [], .string x⟩, ⟨7, [], .slice a ws.length cap⟩, ⟨8, [], .int .i64 ((ws.length : Nat) : Int)⟩, ⟨9, [], .int .i64 ((ξ : Nat) : Int)⟩])) (HI := (fun ξ : Nat => H)) (Φ := (fun ξ : Nat => (ξ ≤ ws.length) ∧ (∀ j, j < ξ → ((ws.getD j default).toList == x.toList) = false))) (μ := (fun ξ : Nat => ws.length - ξ)) (s0 := (0)) [0, 7, 8, 9] (by kernel_rfl) rfl ⟨(by omega), (fun j hj => absurd hj (Nat.not_lt_zero j))⟩ ?_
  rintro k ⟨hk, hn⟩
  refine G_seq ?_
  refine G_pure (E' := [⟨0, [], .string x⟩, ⟨7, [], .slice a ws.length cap⟩, ⟨8, [], .int .i64 ((ws.length : Nat) : Int)⟩, ⟨9, [], .int .i64 ((k : Nat) : Int)⟩, ⟨10, [], .bool (decide (((k : Nat) : Int) < ((ws.length : Nat) : Int)))⟩]) [0] [0, 7, 8, 9, 10] rfl (by kernel_rfl) ?_
  refine N_then ?_
  refine G_seq ?_
  refine G_cond (b := decide (((k : Nat) : Int) < ((ws.length : Nat) : Int))) (by kernel_rfl) (fun hc1 => ?_) (fun hc1 => ?_)
  ·
    simp at hc1
    refine G_skip ?_
    refine N_then ?_
    refine G_seq ?_
    refine G_block ?_
    refine G_seq ?_
    refine G_region ?_
    refine GL_pure (E' := [⟨11, [], .int .i64 ((k : Nat) : Int)⟩, ⟨0, [], .string x⟩, ⟨7, [], .slice a ws.length cap⟩, ⟨8, [], .int .i64 ((ws.length : Nat) : Int)⟩, ⟨9, [], .int .i64 ((k : Nat) : Int)⟩, ⟨10, [], .bool (decide (((k : Nat) : Int) < ((ws.length : Nat) : Int)))⟩]) [0] (by kernel_rfl) (j := 1) rfl ?_
    refine GL_indexAddr (i := 1) (ch := []) (a := a) (len := ws.length) (cap := cap) (kd := .i64) (j := ((k : Nat) : Int)) (e := 9) (sz := 1) (S := S) (cs := strs ws) rfl rfl (by kernel_rfl) (by kernel_rfl) (by kernel_rfl) (by kernel_rfl) (by kernel_rfl) (by kernel_rfl) (by kernel_rfl) hrd (fun _ => by exact ⟨by omega, by omega, strs_ne (k := k) (by omega)⟩) ?_
    refine GL_loadS (i := 2) (ch := []) (a := a) (q := k * 1) (S := S) (cs := strs ws) (v := .string (ws.getD k default)) rfl rfl (by kernel_rfl) (by kernel_rfl) (by kernel_rfl) (by kernel_rfl) (by kernel_rfl) hrd hS (fun _ => (by rw [Nat.mul_one]; exact strs_at (by omega))) ?_
    refine GL_fin (E' := [⟨0, [], .string x⟩, ⟨5, [], .int .i64 ((k : Nat) : Int)⟩, ⟨6, [], .string (ws.getD k default)⟩, ⟨7, [], .slice a ws.length cap⟩, ⟨8, [], .int .i64 ((ws.length : Nat) : Int)⟩, ⟨9, [], .int .i64 ((k : Nat) : Int)⟩]) [0, 0] [0, 5, 6, 7, 8, 9] rfl (by kernel_rfl) ?_
    refine N_then ?_
    refine G_seq ?_
    refine G_pure (E' := [⟨0, [], .string x⟩, ⟨5, [], .int .i64 ((k : Nat) : Int)⟩, ⟨7, [], .slice a ws.length cap⟩, ⟨8, [], .int .i64 ((ws.length : Nat) : Int)⟩, ⟨9, [], .int .i64 ((k : Nat) : Int)⟩, ⟨16, [], .bool ((ws.getD k default).toList == x.toList)⟩]) [0, 0, 0] [0, 5, 7, 8, 9, 16] rfl (by kernel_rfl) ?_
    refine N_then ?_
    refine G_cond (b := (ws.getD k default).toList == x.toList) (by kernel_rfl) (fun hc2 => ?_) (fun hc2 => ?_)
    ·
      have hpl := hc2
      refine G_seq ?_
      refine G_pure (E' := [⟨4, [], .int .i64 ((k : Nat) : Int)⟩]) [0, 0] [4] rfl (by kernel_rfl) ?_
      refine N_then ?_
      refine G_ret ?_
      refine N_block_ret ?_
      refine N_then_ret ?_
      refine N_then_ret ?_
      refine N_block_ret ?_
      refine N_then_ret ?_
      refine N_ret [.tmp 4] [.int .i64 ((k : Nat) : Int)] rfl (by kernel_rfl) rfl ?_
      exact ⟨by rw [place_hit (by omega) hn hpl]; rfl, rfl⟩
    ·
      have hpl := hc2
      refine G_skip ?_
      refine N_block ?_
      refine N_then ?_
      have hw3 : IntKind.wrap .i64 (((k : Nat) : Int) + 1) = ((k : Nat) : Int) + 1 := w64 (by omega) (by omega)
      refine G_pure (E' := [⟨0, [], .string x⟩, ⟨7, [], .slice a ws.length cap⟩, ⟨8, [], .int .i64 ((ws.length : Nat) : Int)⟩, ⟨9, [], .int .i64 (((k : Nat) : Int) + 1)⟩]) [0, 0] [0, 7, 8, 9] rfl (Eq.trans (b := some [⟨0, [], .string x⟩, ⟨7, [], .slice a ws.length cap⟩, ⟨8, [], .int .i64 ((ws.length : Nat) : Int)⟩, ⟨9, [], .int .i64 (IntKind.wrap .i64 (((k : Nat) : Int) + 1))⟩]) (by kernel_rfl) (by simp only [hw3])) ?_
      refine N_round (s' := (k + 1)) [0, 7, 8, 9] (by kernel_rfl) rfl ⟨(by omega), (place_succ hn hpl)⟩ (by omega)
  ·
    simp at hc1
    refine G_exit ?_
    refine N_then_exit ?_
    refine N_then_exit ?_
    refine N_block_exit ?_
    refine N_then ?_
    refine G_seq ?_
    refine G_pure (E' := [⟨4, [], .int .i64 (-1)⟩]) [0] [4] rfl (by kernel_rfl) ?_
    refine N_then ?_
    refine G_ret ?_
    refine N_ret [.tmp 4] [.int .i64 (-1)] rfl (by kernel_rfl) rfl ?_
    exact ⟨by rw [place_miss (fun j hj => hn j (by omega))]; rfl, rfl⟩

end Go.Proofs.YtlglmomimhbeaaaGreatDoor
