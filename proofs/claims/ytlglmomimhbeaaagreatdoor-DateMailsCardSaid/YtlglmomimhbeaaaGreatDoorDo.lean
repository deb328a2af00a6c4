/- The walks of the document's answer for what is printed. -/
import Derived.Test.YtlglmomimhbeaaaGreatDoorDi
import Derived.Test.YtlglmomimhbeaaaGreatDoorTwo
namespace Go.Proofs.YtlglmomimhbeaaaGreatDoor
open Go.Sw Go.Lib Go.Cal Go.Scn

theorem year_no {t y : Int} (h : dT t ≤ 3652058) (hc : ¬ (dT t - bef y) < 337 + mlen y 2) : bef (y + 1) ≤ dT t ∧ y < 9999 := by
  have := feb y
  have h1 : bef (y + 1) ≤ dT t := by omega
  refine ⟨h1, ?_⟩
  rcases Int.lt_or_le y 9999 with h2 | h2
  · exact h2
  · have := bef_mono (a := 10000) (b := y + 1) (by omega)
    rw [show bef 10000 = 3652059 from rfl] at this
    omega
theorem year_yes {t y : Int} (hc : (dT t - bef y) < 337 + mlen y 2) : dT t < bef (y + 1) := by
  have := feb y; omega
theorem left_next {d y : Int} : (d - bef y) - (337 + mlen y 2) = d - bef (y + 1) := by
  have := feb y; omega

theorem refSplit (t : Int) (W0 : World) (H : List Grp) : Tri Tryz.prog 8 #[.int .i64 t] W0 H (fun v H' => v = .tuple #[.agg #[.int .i64 (yT t), .int .i64 (moT t), .int .i64 (ddT t), .int .i64 (rT t / 3600), .int .i64 (rT t / 60 % 60), .int .i64 (rT t % 60), .int .i64 0], .int .i64 (dT t % 7)] ∧ H' = H) := by
  have hup := upT_bd t
  have hd := dT_bd t
  have hr := rT_bd t
  have hcl : -62135596800 ≤ clampT t ∧ clampT t ≤ 253402300799 := by (have := upT_bd t; unfold upT at this; omega)
  refine Tri_of (args := [.int .i64 t]) (n := 62) Tryz.func8 rfl rfl (Nat.le_of_ble_eq_true rfl) ?_
  refine G_seq ?_
  refine G_region ?_
  refine GL_alloc (i := 0) (ch := []) (z := .agg #[.int .i64 0, .int .i64 0, .int .i64 0, .int .i64 0, .int .i64 0, .int .i64 0, .int .i64 0]) rfl rfl (by kernel_rfl) (by kernel_rfl) (by kernel_rfl) (by kernel_rfl) (fun b1 => ?_)
  refine GL_fin (E' := [⟨0, [], .int .i64 t⟩, ⟨2, [], .pointer (some ⟨b1, 0, none⟩)⟩]) [0] [0, 2] rfl (by kernel_rfl) ?_
  refine N_then ?_
  refine G_seq ?_
  refine G_region ?_
  refine GL_callQ (i := 0) (ch := []) (f := 30) (fst := #[]) (caps := #[]) (vs := []) (v := .int .i64 (-62135596800)) rfl rfl rfl (by kernel_rfl) (by kernel_rfl) Tryz.func30 rfl rfl (by kernel_rfl) (by kernel_rfl) (by kernel_rfl) (fun _ => refLow _ _) ?_
  refine GL_callQ (i := 1) (ch := []) (f := 31) (fst := #[]) (caps := #[]) (vs := []) (v := .int .i64 253402300799) rfl rfl rfl (by kernel_rfl) (by kernel_rfl) Tryz.func31 rfl rfl (by kernel_rfl) (by kernel_rfl) (by kernel_rfl) (fun _ => refHigh _ _) ?_
  refine GL_fin (E' := [⟨0, [], .int .i64 (if (if t < 253402300799 then t else 253402300799) > (-62135596800) then (if t < 253402300799 then t else 253402300799) else (-62135596800))⟩, ⟨2, [], .pointer (some ⟨b1, 0, none⟩)⟩]) [0, 0, 0, 0] [0, 2] rfl (by kernel_rfl) ?_
  refine N_env (E' := [⟨0, [], .int .i64 (clampT t)⟩, ⟨2, [], .pointer (some ⟨b1, 0, none⟩)⟩]) (by kernel_rfl) ?_
  refine N_then ?_
  refine G_seq ?_
  refine G_region ?_
  refine GL_pure (E' := [⟨15, [], .int .i64 (clampT t)⟩, ⟨0, [], .int .i64 (clampT t)⟩, ⟨2, [], .pointer (some ⟨b1, 0, none⟩)⟩]) [0] (by kernel_rfl) (j := 1) rfl ?_
  refine GL_callQ (i := 1) (ch := []) (f := 30) (fst := #[]) (caps := #[]) (vs := []) (v := .int .i64 (-62135596800)) rfl rfl rfl (by kernel_rfl) (by kernel_rfl) Tryz.func30 rfl rfl (by kernel_rfl) (by kernel_rfl) (by kernel_rfl) (fun _ => refLow _ _) ?_
  have hw2 : IntKind.wrap .i64 ((clampT t) - (-62135596800)) = (clampT t) - (-62135596800) := w64 (by omega) (by omega)
  have hw3 : IntKind.wrap .i64 (Int.tdiv ((clampT t) - (-62135596800)) 86400) = ((clampT t) - (-62135596800)) / 86400 := q64 (by omega) (by omega) (by decide)
  refine GL_fin (E' := [⟨0, [], .int .i64 (clampT t)⟩, ⟨2, [], .pointer (some ⟨b1, 0, none⟩)⟩, ⟨4, [], .int .i64 (((clampT t) - (-62135596800)) / 86400)⟩]) [0, 0, 0] [0, 2, 4] rfl (Eq.trans (b := some [⟨0, [], .int .i64 (clampT t)⟩, ⟨2, [], .pointer (some ⟨b1, 0, none⟩)⟩, ⟨4, [], .int .i64 (IntKind.wrap .i64 (Int.tdiv (IntKind.wrap .i64 ((clampT t) - (-62135596800))) 86400))⟩]) (by kernel_rfl) (by simp only [hw2, hw3])) ?_
  refine N_env (E' := [⟨0, [], .int .i64 (clampT t)⟩, ⟨2, [], .pointer (some ⟨b1, 0, none⟩)⟩, ⟨4, [], .int .i64 (dT t)⟩]) (by kernel_rfl) ?_
  refine N_then ?_
  refine G_seq ?_
  refine G_region ?_
  refine GL_pure (E' := [⟨19, [], .int .i64 (clampT t)⟩, ⟨0, [], .int .i64 (clampT t)⟩, ⟨2, [], .pointer (some ⟨b1, 0, none⟩)⟩, ⟨4, [], .int .i64 (dT t)⟩]) [0] (by kernel_rfl) (j := 1) rfl ?_
  refine GL_callQ (i := 1) (ch := []) (f := 30) (fst := #[]) (caps := #[]) (vs := []) (v := .int .i64 (-62135596800)) rfl rfl rfl (by kernel_rfl) (by kernel_rfl) Tryz.func30 rfl rfl (by kernel_rfl) (by kernel_rfl) (by kernel_rfl) (fun _ => refLow _ _) ?_
  have hw4 : IntKind.wrap .i64 ((clampT t) - (-62135596800)) = (clampT t) - (-62135596800) := w64 (by omega) (by omega)
  have hw5 : Int.tmod ((clampT t) - (-62135596800)) 86400 = ((clampT t) - (-62135596800)) % 86400 := r64 (by omega)
  refine GL_fin (E' := [⟨2, [], .pointer (some ⟨b1, 0, none⟩)⟩, ⟨4, [], .int .i64 (dT t)⟩, ⟨5, [], .int .i64 (((clampT t) - (-62135596800)) % 86400)⟩]) [0, 0, 0] [2, 4, 5] rfl (Eq.trans (b := some [⟨2, [], .pointer (some ⟨b1, 0, none⟩)⟩, ⟨4, [], .int .i64 (dT t)⟩, ⟨5, [], .int .i64 (Int.tmod (IntKind.wrap .i64 ((clampT t) - (-62135596800))) 86400)⟩]) (by kernel_rfl) (by simp only [hw4, hw5])) ?_
  refine N_env (E' := [⟨2, [], .pointer (some ⟨b1, 0, none⟩)⟩, ⟨4, [], .int .i64 (dT t)⟩, ⟨5, [], .int .i64 (rT t)⟩]) (by kernel_rfl) ?_
  refine N_then ?_
  refine G_seq ?_
  refine G_pure (E' := [⟨2, [], .pointer (some ⟨b1, 0, none⟩)⟩, ⟨4, [], .int .i64 (dT t)⟩, ⟨5, [], .int .i64 (rT t)⟩, ⟨6, [], .int .i64 1⟩, ⟨7, [], .int .i64 1⟩]) [0, 0] [2, 4, 5, 6, 7] rfl (by kernel_rfl) ?_
  refine N_then ?_
  refine G_seq ?_
  refine G_pure (E' := [⟨2, [], .pointer (some ⟨b1, 0, none⟩)⟩, ⟨4, [], .int .i64 (dT t)⟩, ⟨5, [], .int .i64 (rT t)⟩, ⟨6, [], .int .i64 1⟩, ⟨7, [], .int .i64 1⟩, ⟨8, [], .int .i64 (dT t)⟩]) [0, 0] [2, 4, 5, 6, 7, 8] rfl (by kernel_rfl) ?_
  refine N_env (E' := [⟨2, [], .pointer (some ⟨b1, 0, none⟩)⟩, ⟨4, [], .int .i64 (dT t)⟩, ⟨5, [], .int .i64 (rT t)⟩, ⟨6, [], .int .i64 1⟩, ⟨7, [], .int .i64 1⟩, ⟨8, [], .int .i64 (dT t - bef 1)⟩]) (by rw [show dT t - bef 1 = dT t from by rw [show bef 1 = 0 from rfl]; omega]) ?_
  refine N_then ?_
  refine G_block ?_
  refine G_loop (EI := (fun ξ : Int => [⟨2, [], .pointer (some ⟨b1, 0, none⟩)⟩, ⟨4, [], .int .i64 (dT t)⟩, ⟨5, [], .int .i64 (rT t)⟩, ⟨6, [], .int .i64 ξ⟩, ⟨7, [], .int .i64 1⟩, ⟨8, [], .int .i64 ((dT t) - (bef ξ))⟩])) (HI := (fun ξ : Int => ([(b1, .cells #[.int .i64 0, .int .i64 0, .int .i64 0, .int .i64 0, .int .i64 0, .int .i64 0, .int .i64 0] 31 (0, 0))] :: H))) (Φ := (fun ξ : Int => (1 ≤ ξ) ∧ (ξ ≤ 9999) ∧ (bef ξ ≤ dT t))) (μ := (fun ξ : Int => (9999 - ξ).toNat)) (s0 := (1)) [2, 4, 5, 6, 7, 8] (by kernel_rfl) rfl ⟨(by omega), (by omega), (by rw [show bef 1 = 0 from rfl]; omega)⟩ ?_
  rintro y ⟨hy, hy1, hb⟩
  have hbd := bef_bd (y := y) (by omega) (by omega)
  have hml2 := mlen_bd y 2
  refine G_block ?_
  refine G_seq ?_
  refine G_region ?_
  refine GL_pure (E' := [⟨24, [], .int .i64 y⟩, ⟨2, [], .pointer (some ⟨b1, 0, none⟩)⟩, ⟨4, [], .int .i64 (dT t)⟩, ⟨5, [], .int .i64 (rT t)⟩, ⟨6, [], .int .i64 y⟩, ⟨7, [], .int .i64 1⟩, ⟨8, [], .int .i64 ((dT t) - (bef y))⟩]) [0] (by kernel_rfl) (j := 1) rfl ?_
  refine GL_callQ (i := 1) (ch := []) (f := 32) (fst := #[]) (caps := #[]) (vs := [.int .i64 y, .int .i64 2]) (v := .int .i64 (mlen y 2)) rfl rfl rfl (by kernel_rfl) (by kernel_rfl) Tryz.func32 rfl rfl (by kernel_rfl) (by kernel_rfl) (by kernel_rfl) (fun _ => refLength _ _ (by omega) (by omega) (by omega) _ _) ?_
  have hw6 : IntKind.wrap .i64 (337 + (mlen y 2)) = 337 + (mlen y 2) := w64 (by omega) (by omega)
  refine GL_fin (E' := [⟨2, [], .pointer (some ⟨b1, 0, none⟩)⟩, ⟨4, [], .int .i64 (dT t)⟩, ⟨5, [], .int .i64 (rT t)⟩, ⟨6, [], .int .i64 y⟩, ⟨7, [], .int .i64 1⟩, ⟨8, [], .int .i64 ((dT t) - (bef y))⟩, ⟨9, [], .int .i64 (337 + (mlen y 2))⟩]) [0, 0] [2, 4, 5, 6, 7, 8, 9] rfl (Eq.trans (b := some [⟨2, [], .pointer (some ⟨b1, 0, none⟩)⟩, ⟨4, [], .int .i64 (dT t)⟩, ⟨5, [], .int .i64 (rT t)⟩, ⟨6, [], .int .i64 y⟩, ⟨7, [], .int .i64 1⟩, ⟨8, [], .int .i64 ((dT t) - (bef y))⟩, ⟨9, [], .int .i64 (IntKind.wrap .i64 (337 + (mlen y 2)))⟩]) (by kernel_rfl) (by simp only [hw6])) ?_
  refine N_then ?_
  refine G_seq ?_
  refine G_seq ?_
  refine G_pure (E' := [⟨2, [], .pointer (some ⟨b1, 0, none⟩)⟩, ⟨4, [], .int .i64 (dT t)⟩, ⟨5, [], .int .i64 (rT t)⟩, ⟨6, [], .int .i64 y⟩, ⟨7, [], .int .i64 1⟩, ⟨8, [], .int .i64 ((dT t) - (bef y))⟩, ⟨9, [], .int .i64 (337 + (mlen y 2))⟩, ⟨29, [], .bool (decide (((dT t) - (bef y)) < (337 + (mlen y 2))))⟩]) [0, 0, 0] [2, 4, 5, 6, 7, 8, 9, 29] rfl (by kernel_rfl) ?_
  refine N_then ?_
  refine G_cond (b := decide (((dT t) - (bef y)) < (337 + (mlen y 2)))) (by kernel_rfl) (fun hc7 => ?_) (fun hc7 => ?_)
  ·
    -- hc7 true
    simp only [decide_eq_true_eq] at hc7
    have hnx := year_yes hc7
    refine G_seq ?_
    refine G_block ?_
    refine G_loop (EI := (fun ξ : Nat => [⟨2, [], .pointer (some ⟨b1, 0, none⟩)⟩, ⟨4, [], .int .i64 (dT t)⟩, ⟨5, [], .int .i64 (rT t)⟩, ⟨6, [], .int .i64 y⟩, ⟨7, [], .int .i64 ((ξ + 1 : Nat) : Int)⟩, ⟨8, [], .int .i64 (leftF (dT t - bef y) y ξ)⟩])) (HI := (fun ξ : Nat => ([(b1, .cells #[.int .i64 0, .int .i64 0, .int .i64 0, .int .i64 0, .int .i64 0, .int .i64 0, .int .i64 0] 31 (0, 0))] :: H))) (Φ := (fun ξ : Nat => (ξ < 12) ∧ (0 ≤ leftF (dT t - bef y) y ξ))) (μ := (fun ξ : Nat => 12 - ξ)) (s0 := (0)) [2, 4, 5, 6, 7, 8] (by kernel_rfl) rfl ⟨(by omega), (by simp only [leftF]; omega)⟩ ?_
    rintro m ⟨hm, hl⟩
    have hlf := leftF_eq (dT t - bef y) y m
    have hcb := cum_bd y m
    have hml := mlen_bd y ((m + 1 : Nat) : Int)
    refine G_seq ?_
    refine G_seq ?_
    refine G_region ?_
    refine GL_pure (E' := [⟨32, [], .int .i64 ((m + 1 : Nat) : Int)⟩, ⟨31, [], .int .i64 y⟩, ⟨30, [], .int .i64 (leftF (dT t - bef y) y m)⟩, ⟨2, [], .pointer (some ⟨b1, 0, none⟩)⟩, ⟨4, [], .int .i64 (dT t)⟩, ⟨5, [], .int .i64 (rT t)⟩, ⟨6, [], .int .i64 y⟩, ⟨7, [], .int .i64 ((m + 1 : Nat) : Int)⟩, ⟨8, [], .int .i64 (leftF (dT t - bef y) y m)⟩]) [0, 0, 0] (by kernel_rfl) (j := 3) rfl ?_
    refine GL_callQ (i := 3) (ch := []) (f := 32) (fst := #[]) (caps := #[]) (vs := [.int .i64 y, .int .i64 ((m + 1 : Nat) : Int)]) (v := .int .i64 (mlen y ((m + 1 : Nat) : Int))) rfl rfl rfl (by kernel_rfl) (by kernel_rfl) Tryz.func32 rfl rfl (by kernel_rfl) (by kernel_rfl) (by kernel_rfl) (fun _ => refLength _ _ (by omega) (by omega) (by omega) _ _) ?_
    refine GL_fin (E' := [⟨2, [], .pointer (some ⟨b1, 0, none⟩)⟩, ⟨4, [], .int .i64 (dT t)⟩, ⟨5, [], .int .i64 (rT t)⟩, ⟨6, [], .int .i64 y⟩, ⟨7, [], .int .i64 ((m + 1 : Nat) : Int)⟩, ⟨8, [], .int .i64 (leftF (dT t - bef y) y m)⟩, ⟨34, [], .bool (decide ((leftF (dT t - bef y) y m) ≥ (mlen y ((m + 1 : Nat) : Int))))⟩]) [0] [2, 4, 5, 6, 7, 8, 34] rfl (by kernel_rfl) ?_
    refine N_then ?_
    refine G_cond (b := decide ((leftF (dT t - bef y) y m) ≥ (mlen y ((m + 1 : Nat) : Int)))) (by kernel_rfl) (fun hc8 => ?_) (fun hc8 => ?_)
    ·
      -- hc8 true
      simp only [decide_eq_true_eq] at hc8
      refine G_skip ?_
      refine N_then ?_
      refine G_block ?_
      refine G_seq ?_
      refine G_region ?_
      refine GL_pure (E' := [⟨37, [], .int .i64 ((m + 1 : Nat) : Int)⟩, ⟨36, [], .int .i64 y⟩, ⟨35, [], .int .i64 (leftF (dT t - bef y) y m)⟩, ⟨2, [], .pointer (some ⟨b1, 0, none⟩)⟩, ⟨4, [], .int .i64 (dT t)⟩, ⟨5, [], .int .i64 (rT t)⟩, ⟨6, [], .int .i64 y⟩, ⟨7, [], .int .i64 ((m + 1 : Nat) : Int)⟩, ⟨8, [], .int .i64 (leftF (dT t - bef y) y m)⟩, ⟨34, [], .bool (decide ((leftF (dT t - bef y) y m) ≥ (mlen y ((m + 1 : Nat) : Int))))⟩]) [0, 0, 0] (by kernel_rfl) (j := 3) rfl ?_
      refine GL_callQ (i := 3) (ch := []) (f := 32) (fst := #[]) (caps := #[]) (vs := [.int .i64 y, .int .i64 ((m + 1 : Nat) : Int)]) (v := .int .i64 (mlen y ((m + 1 : Nat) : Int))) rfl rfl rfl (by kernel_rfl) (by kernel_rfl) Tryz.func32 rfl rfl (by kernel_rfl) (by kernel_rfl) (by kernel_rfl) (fun _ => refLength _ _ (by omega) (by omega) (by omega) _ _) ?_
      have hw9 : IntKind.wrap .i64 ((leftF (dT t - bef y) y m) - (mlen y ((m + 1 : Nat) : Int))) = (leftF (dT t - bef y) y m) - (mlen y ((m + 1 : Nat) : Int)) := w64 (by omega) (by omega)
      refine GL_fin (E' := [⟨2, [], .pointer (some ⟨b1, 0, none⟩)⟩, ⟨4, [], .int .i64 (dT t)⟩, ⟨5, [], .int .i64 (rT t)⟩, ⟨6, [], .int .i64 y⟩, ⟨7, [], .int .i64 ((m + 1 : Nat) : Int)⟩, ⟨8, [], .int .i64 ((leftF (dT t - bef y) y m) - (mlen y ((m + 1 : Nat) : Int)))⟩]) [0, 0] [2, 4, 5, 6, 7, 8] rfl (Eq.trans (b := some [⟨2, [], .pointer (some ⟨b1, 0, none⟩)⟩, ⟨4, [], .int .i64 (dT t)⟩, ⟨5, [], .int .i64 (rT t)⟩, ⟨6, [], .int .i64 y⟩, ⟨7, [], .int .i64 ((m + 1 : Nat) : Int)⟩, ⟨8, [], .int .i64 (IntKind.wrap .i64 ((leftF (dT t - bef y) y m) - (mlen y ((m + 1 : Nat) : Int))))⟩]) (by kernel_rfl) (by simp only [hw9])) ?_
      refine N_then ?_
      have hw10 : IntKind.wrap .i64 (((m + 1 : Nat) : Int) + 1) = ((m + 1 : Nat) : Int) + 1 := w64 (by omega) (by omega)
      refine G_pure (E' := [⟨2, [], .pointer (some ⟨b1, 0, none⟩)⟩, ⟨4, [], .int .i64 (dT t)⟩, ⟨5, [], .int .i64 (rT t)⟩, ⟨6, [], .int .i64 y⟩, ⟨7, [], .int .i64 (((m + 1 : Nat) : Int) + 1)⟩, ⟨8, [], .int .i64 ((leftF (dT t - bef y) y m) - (mlen y ((m + 1 : Nat) : Int)))⟩]) [0, 0, 0] [2, 4, 5, 6, 7, 8] rfl (Eq.trans (b := some [⟨2, [], .pointer (some ⟨b1, 0, none⟩)⟩, ⟨4, [], .int .i64 (dT t)⟩, ⟨5, [], .int .i64 (rT t)⟩, ⟨6, [], .int .i64 y⟩, ⟨7, [], .int .i64 (IntKind.wrap .i64 (((m + 1 : Nat) : Int) + 1))⟩, ⟨8, [], .int .i64 ((leftF (dT t - bef y) y m) - (mlen y ((m + 1 : Nat) : Int)))⟩]) (by kernel_rfl) (by simp only [hw10])) ?_
      refine N_block ?_
      refine N_round (s' := (m + 1)) [2, 4, 5, 6, 7, 8] (by kernel_rfl) rfl ⟨(month_lt hnx hm hc8), (by simp only [leftF]; omega)⟩ (by omega)
    ·
      -- hc8 false
      simp only [decide_eq_false_iff_not] at hc8
      refine G_exit ?_
      refine N_then_exit ?_
      refine N_then_exit ?_
      refine N_block_exit ?_
      refine N_then ?_
      refine G_seq ?_
      have hw11 : IntKind.wrap .i64 ((leftF (dT t - bef y) y m) + 1) = (leftF (dT t - bef y) y m) + 1 := w64 (by omega) (by omega)
      have hw12 : IntKind.wrap .i64 (Int.tdiv (rT t) 3600) = (rT t) / 3600 := q64 (by omega) (by omega) (by decide)
      have hw13 : IntKind.wrap .i64 (Int.tdiv (rT t) 60) = (rT t) / 60 := q64 (by omega) (by omega) (by decide)
      have hw14 : Int.tmod ((rT t) / 60) 60 = ((rT t) / 60) % 60 := r64 (by omega)
      have hw15 : Int.tmod (rT t) 60 = (rT t) % 60 := r64 (by omega)
      have hw16 : Int.tmod (dT t) 7 = (dT t) % 7 := r64 (by omega)
      refine G_region ?_
      refine GL_pure (E' := [⟨56, [], .int .i64 ((dT t) % 7)⟩, ⟨55, [], .int .i64 (dT t)⟩, ⟨54, [], .agg #[.int .i64 y, .int .i64 ((m + 1 : Nat) : Int), .int .i64 ((leftF (dT t - bef y) y m) + 1), .int .i64 ((rT t) / 3600), .int .i64 (((rT t) / 60) % 60), .int .i64 ((rT t) % 60), .int .i64 0]⟩, ⟨53, [], .agg #[.int .i64 y, .int .i64 ((m + 1 : Nat) : Int), .int .i64 ((leftF (dT t - bef y) y m) + 1), .int .i64 ((rT t) / 3600), .int .i64 (((rT t) / 60) % 60), .int .i64 ((rT t) % 60)]⟩, ⟨52, [], .int .i64 ((rT t) % 60)⟩, ⟨51, [], .int .i64 (rT t)⟩, ⟨50, [], .int .i64 (((rT t) / 60) % 60)⟩, ⟨49, [], .int .i64 ((rT t) / 60)⟩, ⟨48, [], .int .i64 (rT t)⟩, ⟨47, [], .int .i64 ((rT t) / 3600)⟩, ⟨46, [], .int .i64 (rT t)⟩, ⟨45, [], .int .i64 ((leftF (dT t - bef y) y m) + 1)⟩, ⟨44, [], .int .i64 (leftF (dT t - bef y) y m)⟩, ⟨43, [], .int .i64 ((m + 1 : Nat) : Int)⟩, ⟨42, [], .int .i64 y⟩, ⟨2, [], .pointer (some ⟨b1, 0, none⟩)⟩, ⟨4, [], .int .i64 (dT t)⟩, ⟨5, [], .int .i64 (rT t)⟩, ⟨6, [], .int .i64 y⟩, ⟨7, [], .int .i64 ((m + 1 : Nat) : Int)⟩, ⟨8, [], .int .i64 (leftF (dT t - bef y) y m)⟩, ⟨34, [], .bool (decide ((leftF (dT t - bef y) y m) ≥ (mlen y ((m + 1 : Nat) : Int))))⟩]) [0, 0, 0, 0, 0, 0, 0, 0, 0, 0, 0, 0, 0, 0, 0] (Eq.trans (b := some [⟨56, [], .int .i64 (Int.tmod (dT t) 7)⟩, ⟨55, [], .int .i64 (dT t)⟩, ⟨54, [], .agg #[.int .i64 y, .int .i64 ((m + 1 : Nat) : Int), .int .i64 (IntKind.wrap .i64 ((leftF (dT t - bef y) y m) + 1)), .int .i64 (IntKind.wrap .i64 (Int.tdiv (rT t) 3600)), .int .i64 (Int.tmod (IntKind.wrap .i64 (Int.tdiv (rT t) 60)) 60), .int .i64 (Int.tmod (rT t) 60), .int .i64 0]⟩, ⟨53, [], .agg #[.int .i64 y, .int .i64 ((m + 1 : Nat) : Int), .int .i64 (IntKind.wrap .i64 ((leftF (dT t - bef y) y m) + 1)), .int .i64 (IntKind.wrap .i64 (Int.tdiv (rT t) 3600)), .int .i64 (Int.tmod (IntKind.wrap .i64 (Int.tdiv (rT t) 60)) 60), .int .i64 (Int.tmod (rT t) 60)]⟩, ⟨52, [], .int .i64 (Int.tmod (rT t) 60)⟩, ⟨51, [], .int .i64 (rT t)⟩, ⟨50, [], .int .i64 (Int.tmod (IntKind.wrap .i64 (Int.tdiv (rT t) 60)) 60)⟩, ⟨49, [], .int .i64 (IntKind.wrap .i64 (Int.tdiv (rT t) 60))⟩, ⟨48, [], .int .i64 (rT t)⟩, ⟨47, [], .int .i64 (IntKind.wrap .i64 (Int.tdiv (rT t) 3600))⟩, ⟨46, [], .int .i64 (rT t)⟩, ⟨45, [], .int .i64 (IntKind.wrap .i64 ((leftF (dT t - bef y) y m) + 1))⟩, ⟨44, [], .int .i64 (leftF (dT t - bef y) y m)⟩, ⟨43, [], .int .i64 ((m + 1 : Nat) : Int)⟩, ⟨42, [], .int .i64 y⟩, ⟨2, [], .pointer (some ⟨b1, 0, none⟩)⟩, ⟨4, [], .int .i64 (dT t)⟩, ⟨5, [], .int .i64 (rT t)⟩, ⟨6, [], .int .i64 y⟩, ⟨7, [], .int .i64 ((m + 1 : Nat) : Int)⟩, ⟨8, [], .int .i64 (leftF (dT t - bef y) y m)⟩, ⟨34, [], .bool (decide ((leftF (dT t - bef y) y m) ≥ (mlen y ((m + 1 : Nat) : Int))))⟩]) (by kernel_rfl) (by simp only [hw11, hw12, hw13, hw14, hw15, hw16])) (j := 15) rfl ?_
      refine GL_store (i := 15) (ch := []) (b := b1) (off := 0) (v := .agg #[.int .i64 y, .int .i64 ((m + 1 : Nat) : Int), .int .i64 ((leftF (dT t - bef y) y m) + 1), .int .i64 ((rT t) / 3600), .int .i64 (((rT t) / 60) % 60), .int .i64 ((rT t) % 60), .int .i64 0]) (c := #[.int .i64 0, .int .i64 0, .int .i64 0, .int .i64 0, .int .i64 0, .int .i64 0, .int .i64 0]) (c' := #[.int .i64 y, .int .i64 ((m + 1 : Nat) : Int), .int .i64 ((leftF (dT t - bef y) y m) + 1), .int .i64 ((rT t) / 3600), .int .i64 (((rT t) / 60) % 60), .int .i64 ((rT t) % 60), .int .i64 0]) (j := 0) (m := 0) (H' := ([(b1, .cells #[.int .i64 y, .int .i64 ((m + 1 : Nat) : Int), .int .i64 ((leftF (dT t - bef y) y m) + 1), .int .i64 ((rT t) / 3600), .int .i64 (((rT t) / 60) % 60), .int .i64 ((rT t) % 60), .int .i64 0] 31 (0, 0))] :: H)) rfl rfl (by kernel_rfl) (by kernel_rfl) (by kernel_rfl) (by kernel_rfl) (by kernel_rfl) (by kernel_rfl) (by kernel_rfl) rfl rfl (Nat.le_of_ble_eq_true rfl) (fun _ _ => thaw0) (by kernel_rfl) (by kernel_rfl) ?_
      refine GL_fin (E' := [⟨2, [], .pointer (some ⟨b1, 0, none⟩)⟩, ⟨3, [], .int .i64 ((dT t) % 7)⟩]) [0] [2, 3] rfl (by kernel_rfl) ?_
      refine N_then ?_
      refine G_ret ?_
      refine N_then_ret ?_
      refine N_block_ret ?_
      refine N_then_ret ?_
      refine N_block_ret ?_
      refine N_retC [.cell 2 31, .tmp 3] [.agg #[.int .i64 y, .int .i64 ((m + 1 : Nat) : Int), .int .i64 ((leftF (dT t - bef y) y m) + 1), .int .i64 ((rT t) / 3600), .int .i64 (((rT t) / 60) % 60), .int .i64 ((rT t) % 60), .int .i64 0], .int .i64 ((dT t) % 7)] rfl (.cons (.agg (b := b1) (off := 0) (l := [.int .i64 y, .int .i64 ((m + 1 : Nat) : Int), .int .i64 ((leftF (dT t - bef y) y m) + 1), .int .i64 ((rT t) / 3600), .int .i64 (((rT t) / 60) % 60), .int .i64 ((rT t) % 60), .int .i64 0]) (by kernel_rfl) (by kernel_rfl) (by kernel_rfl) (At.grp 0 0 rfl rfl) (by kernel_rfl)) (.cons (.tmp (by kernel_rfl)) (.nil))) rfl ⟨H, ?_, fun w h => (h.erase 0)⟩
      obtain ⟨e1, e2, e3⟩ := split_is hy hy1 hm hl (by omega)
      refine ⟨?_, rfl⟩
      rw [← e1, ← e2, ← e3]
      rfl
  ·
    -- hc7 false
    simp only [decide_eq_false_iff_not] at hc7
    have hno := year_no hd.2 hc7
    refine G_skip ?_
    refine N_then ?_
    refine G_seq ?_
    have hw17 : IntKind.wrap .i64 (((dT t) - (bef y)) - (337 + (mlen y 2))) = ((dT t) - (bef y)) - (337 + (mlen y 2)) := w64 (by omega) (by omega)
    refine G_pure (E' := [⟨2, [], .pointer (some ⟨b1, 0, none⟩)⟩, ⟨4, [], .int .i64 (dT t)⟩, ⟨5, [], .int .i64 (rT t)⟩, ⟨6, [], .int .i64 y⟩, ⟨7, [], .int .i64 1⟩, ⟨8, [], .int .i64 (((dT t) - (bef y)) - (337 + (mlen y 2)))⟩]) [0, 0, 0, 0] [2, 4, 5, 6, 7, 8] rfl (Eq.trans (b := some [⟨2, [], .pointer (some ⟨b1, 0, none⟩)⟩, ⟨4, [], .int .i64 (dT t)⟩, ⟨5, [], .int .i64 (rT t)⟩, ⟨6, [], .int .i64 y⟩, ⟨7, [], .int .i64 1⟩, ⟨8, [], .int .i64 (IntKind.wrap .i64 (((dT t) - (bef y)) - (337 + (mlen y 2))))⟩]) (by kernel_rfl) (by simp only [hw17])) ?_
    refine N_env (E' := [⟨2, [], .pointer (some ⟨b1, 0, none⟩)⟩, ⟨4, [], .int .i64 (dT t)⟩, ⟨5, [], .int .i64 (rT t)⟩, ⟨6, [], .int .i64 y⟩, ⟨7, [], .int .i64 1⟩, ⟨8, [], .int .i64 ((dT t) - (bef (y + 1)))⟩]) (by rw [← left_next]) ?_
    refine N_then ?_
    have hw18 : IntKind.wrap .i64 (y + 1) = y + 1 := w64 (by omega) (by omega)
    refine G_pure (E' := [⟨2, [], .pointer (some ⟨b1, 0, none⟩)⟩, ⟨4, [], .int .i64 (dT t)⟩, ⟨5, [], .int .i64 (rT t)⟩, ⟨6, [], .int .i64 (y + 1)⟩, ⟨7, [], .int .i64 1⟩, ⟨8, [], .int .i64 ((dT t) - (bef (y + 1)))⟩]) [0, 0, 0] [2, 4, 5, 6, 7, 8] rfl (Eq.trans (b := some [⟨2, [], .pointer (some ⟨b1, 0, none⟩)⟩, ⟨4, [], .int .i64 (dT t)⟩, ⟨5, [], .int .i64 (rT t)⟩, ⟨6, [], .int .i64 (IntKind.wrap .i64 (y + 1))⟩, ⟨7, [], .int .i64 1⟩, ⟨8, [], .int .i64 ((dT t) - (bef (y + 1)))⟩]) (by kernel_rfl) (by simp only [hw18])) ?_
    refine N_block ?_
    refine N_round (s' := (y + 1)) [2, 4, 5, 6, 7, 8] (by kernel_rfl) rfl ⟨(by omega), (by omega), (by omega)⟩ (by omega)

theorem refFour (n : Int) (h0 : 0 ≤ n) (h1 : n ≤ 9999) (W0 : World) (H : List Grp) : Tri Tryz.prog 9 #[.int .i64 n] W0 H (fun v H' => v = .string (fourB n) ∧ H' = H) := by
  refine Tri_of (args := [.int .i64 n]) (n := 10) Tryz.func9 rfl rfl (Nat.le_of_ble_eq_true rfl) ?_
  refine G_seq ?_
  refine G_pure (E' := [⟨0, [], .int .i64 n⟩]) [0] [0] rfl (by kernel_rfl) ?_
  refine N_then ?_
  refine G_seq ?_
  have hw1 : IntKind.wrap .i64 (Int.tdiv n 100) = n / 100 := q64 (by omega) (by omega) (by decide)
  refine G_region ?_
  refine GL_pure (E' := [⟨4, [], .int .i64 (n / 100)⟩, ⟨3, [], .int .i64 n⟩, ⟨0, [], .int .i64 n⟩]) [0, 0] (Eq.trans (b := some [⟨4, [], .int .i64 (IntKind.wrap .i64 (Int.tdiv n 100))⟩, ⟨3, [], .int .i64 n⟩, ⟨0, [], .int .i64 n⟩]) (by kernel_rfl) (by simp only [hw1])) (j := 2) rfl ?_
  refine GL_callQ (i := 2) (ch := []) (f := 10) (fst := #[]) (caps := #[]) (vs := [.int .i64 (n / 100)]) (v := .string (twoB (n / 100))) rfl rfl rfl (by kernel_rfl) (by kernel_rfl) Tryz.func10 rfl rfl (by kernel_rfl) (by kernel_rfl) (by kernel_rfl) (fun _ => refTwo _ (by omega) (by omega) _ _) ?_
  have hw2 : Int.tmod n 100 = n % 100 := r64 (by omega)
  refine GL_pure (E' := [⟨7, [], .int .i64 (n % 100)⟩, ⟨6, [], .int .i64 n⟩, ⟨5, [], .string (twoB (n / 100))⟩, ⟨4, [], .int .i64 (n / 100)⟩, ⟨3, [], .int .i64 n⟩, ⟨0, [], .int .i64 n⟩]) [0, 0] (Eq.trans (b := some [⟨7, [], .int .i64 (Int.tmod n 100)⟩, ⟨6, [], .int .i64 n⟩, ⟨5, [], .string (twoB (n / 100))⟩, ⟨4, [], .int .i64 (n / 100)⟩, ⟨3, [], .int .i64 n⟩, ⟨0, [], .int .i64 n⟩]) (by kernel_rfl) (by simp only [hw2])) (j := 5) rfl ?_
  refine GL_callQ (i := 5) (ch := []) (f := 10) (fst := #[]) (caps := #[]) (vs := [.int .i64 (n % 100)]) (v := .string (twoB (n % 100))) rfl rfl rfl (by kernel_rfl) (by kernel_rfl) Tryz.func10 rfl rfl (by kernel_rfl) (by kernel_rfl) (by kernel_rfl) (fun _ => refTwo _ (by omega) (by omega) _ _) ?_
  refine GL_concat (i := 6) (ch := []) (s := twoB (n / 100)) (u := twoB (n % 100)) rfl rfl (by kernel_rfl) (by kernel_rfl) (by kernel_rfl) (by kernel_rfl) (by kernel_rfl) (fun _ => Nat.le_trans (Nat.add_le_add (show (twoB (n / 100)).size ≤ 2 from Nat.le_refl _) (show (twoB (n % 100)).size ≤ 2 from Nat.le_refl _)) (Nat.le_of_ble_eq_true rfl)) ?_
  refine GL_fin (E' := [⟨2, [], .string ((twoB (n / 100)) ++ (twoB (n % 100)))⟩]) [0] [2] rfl (by kernel_rfl) ?_
  refine N_then ?_
  refine G_ret ?_
  refine N_ret [.tmp 2] [.string ((twoB (n / 100)) ++ (twoB (n % 100)))] rfl (by kernel_rfl) rfl ?_
  exact ⟨rfl, rfl⟩

theorem refWeek  (W0 : World) (H : List Grp) : Tri Tryz.prog 14 #[] W0 H (fun v H' => ∃ g, Own 9 1 v g 7 (strs wkL) ∧ H' = g :: H) := by
  refine Tri_of (args := []) (n := 2) Tryz.func14 rfl rfl (Nat.le_of_ble_eq_true rfl) ?_
  refine G_seq ?_
  refine G_pure (E' := []) [0] [] rfl (by kernel_rfl) ?_
  refine N_then ?_
  refine G_seq ?_
  refine G_region ?_
  refine GL_buildSlice (i := 0) (ch := []) (e := 9) (l := [(0, .string (ByteArray.mk #[77, 111, 110])), (1, .string (ByteArray.mk #[84, 117, 101])), (2, .string (ByteArray.mk #[87, 101, 100])), (3, .string (ByteArray.mk #[84, 104, 117])), (4, .string (ByteArray.mk #[70, 114, 105])), (5, .string (ByteArray.mk #[83, 97, 116])), (6, .string (ByteArray.mk #[83, 117, 110]))]) (c := [.string (ByteArray.mk #[77, 111, 110]), .string (ByteArray.mk #[84, 117, 101]), .string (ByteArray.mk #[87, 101, 100]), .string (ByteArray.mk #[84, 104, 117]), .string (ByteArray.mk #[70, 114, 105]), .string (ByteArray.mk #[83, 97, 116]), .string (ByteArray.mk #[83, 117, 110])]) rfl rfl (by kernel_rfl) (by kernel_rfl) (by kernel_rfl) (by kernel_rfl) (by kernel_rfl) (fun b1 => ?_)
  refine GL_fin (E' := [⟨0, [], .slice (some ⟨b1, 0, none⟩) 7 7⟩]) [0] [0] rfl (by kernel_rfl) ?_
  refine N_then ?_
  refine G_ret ?_
  refine N_ret [.tmp 0] [.slice (some ⟨b1, 0, none⟩) 7 7] rfl (by kernel_rfl) rfl ?_
  exact ⟨[(b1, .cells (strs wkL).toArray 9 (0, 0))], Own.lit (cs := strs wkL) rfl, by kernel_rfl⟩

theorem refMonths  (W0 : World) (H : List Grp) : Tri Tryz.prog 15 #[] W0 H (fun v H' => ∃ g, Own 9 1 v g 12 (strs monL) ∧ H' = g :: H) := by
  refine Tri_of (args := []) (n := 2) Tryz.func15 rfl rfl (Nat.le_of_ble_eq_true rfl) ?_
  refine G_seq ?_
  refine G_pure (E' := []) [0] [] rfl (by kernel_rfl) ?_
  refine N_then ?_
  refine G_seq ?_
  refine G_region ?_
  refine GL_buildSlice (i := 0) (ch := []) (e := 9) (l := [(0, .string (ByteArray.mk #[74, 97, 110])), (1, .string (ByteArray.mk #[70, 101, 98])), (2, .string (ByteArray.mk #[77, 97, 114])), (3, .string (ByteArray.mk #[65, 112, 114])), (4, .string (ByteArray.mk #[77, 97, 121])), (5, .string (ByteArray.mk #[74, 117, 110])), (6, .string (ByteArray.mk #[74, 117, 108])), (7, .string (ByteArray.mk #[65, 117, 103])), (8, .string (ByteArray.mk #[83, 101, 112])), (9, .string (ByteArray.mk #[79, 99, 116])), (10, .string (ByteArray.mk #[78, 111, 118])), (11, .string (ByteArray.mk #[68, 101, 99]))]) (c := [.string (ByteArray.mk #[74, 97, 110]), .string (ByteArray.mk #[70, 101, 98]), .string (ByteArray.mk #[77, 97, 114]), .string (ByteArray.mk #[65, 112, 114]), .string (ByteArray.mk #[77, 97, 121]), .string (ByteArray.mk #[74, 117, 110]), .string (ByteArray.mk #[74, 117, 108]), .string (ByteArray.mk #[65, 117, 103]), .string (ByteArray.mk #[83, 101, 112]), .string (ByteArray.mk #[79, 99, 116]), .string (ByteArray.mk #[78, 111, 118]), .string (ByteArray.mk #[68, 101, 99])]) rfl rfl (by kernel_rfl) (by kernel_rfl) (by kernel_rfl) (by kernel_rfl) (by kernel_rfl) (fun b1 => ?_)
  refine GL_fin (E' := [⟨0, [], .slice (some ⟨b1, 0, none⟩) 12 12⟩]) [0] [0] rfl (by kernel_rfl) ?_
  refine N_then ?_
  refine G_ret ?_
  refine N_ret [.tmp 0] [.slice (some ⟨b1, 0, none⟩) 12 12] rfl (by kernel_rfl) rfl ?_
  exact ⟨[(b1, .cells (strs monL).toArray 9 (0, 0))], Own.lit (cs := strs monL) rfl, by kernel_rfl⟩

end Go.Proofs.YtlglmomimhbeaaaGreatDoor
