/- The walks of the printing functions. Where a year is printed: the table of powers lies as laid. -/
import Derived.Test.YtlglmomimhbeaaaGreatDoorDd
import Derived.Test.YtlglmomimhbeaaaGreatDoorDate2
namespace Go.Proofs.YtlglmomimhbeaaaGreatDoor
open Go.Sw Go.Lib Go.Cal Go.Scn

theorem repeatCI (s : ByteArray) (c : Int) (h0 : 0 ≤ c) (hc : c ≤ 1000) (hs : s.size ≤ 1000) (W0 : World) (H : List Grp) : Tri Tryz.prog 45 #[.string s, .int .i64 c] W0 H (fun v H' => v = .string (repB s c.toNat) ∧ H' = H) := by
  have := repeatC s c.toNat (by omega) hs W0 H
  rwa [Int.toNat_of_nonneg h0] at this
theorem decD_size : ∀ (k n : Nat), n < 10 ^ (k + 1) → (Lib.decDigits n).length ≤ k + 1
  | 0, n, h => by unfold Lib.decDigits; rw [dif_pos (by omega)]; simp
  | k + 1, n, h => by
    unfold Lib.decDigits
    split
    · simp
    · rw [List.length_append]
      have := decD_size k (n / 10) (by rw [Nat.pow_succ] at h; omega)
      simp only [List.length_cons, List.length_nil]
      omega
theorem itoaB_size {n : Int} (h0 : 0 ≤ n) (h1 : n ≤ 9999) : (itoaB n).size ≤ 4 := by
  unfold itoaB Lib.itoa
  rw [if_neg (by omega)]
  have := decD_size 3 n.toNat (by omega)
  show (Lib.decDigits n.toNat).toArray.size ≤ 4
  rw [List.size_toArray]
  exact this
theorem repB_size (s : ByteArray) (c : Nat) : (repB s c).size = s.size * c := by
  show (Lib.repeatL s.data.toList c).toArray.size = _
  rw [List.size_toArray]
  induction c with
  | zero => rfl
  | succ c ih => rw [Lib.repeatL, List.length_append, ih, Array.length_toList, Nat.mul_succ, Nat.add_comm]; rfl
def padB (v n : Int) : ByteArray := repB (ByteArray.mk #[48]) (Int.toNat (if (n - ((itoaB v).size : Int)) > 0 then (n - ((itoaB v).size : Int)) else 0)) ++ itoaB v
theorem rep_bd {v n : Int} (h1 : n ≤ 4) : 0 ≤ (if (n - ((itoaB v).size : Int)) > 0 then (n - ((itoaB v).size : Int)) else 0) ∧ (if (n - ((itoaB v).size : Int)) > 0 then (n - ((itoaB v).size : Int)) else 0) ≤ 4 := by
  split <;> omega
theorem app_size (a b : ByteArray) : (a ++ b).size = a.size + b.size := by simp
theorem padB_size {v n : Int} (h0 : 0 ≤ v) (h1 : v ≤ 9999) (h2 : n ≤ 4) : (padB v n).size ≤ 8 := by
  have := itoaB_size h0 h1
  have hr := rep_bd (v := v) (n := n) h2
  unfold padB
  rw [app_size, repB_size]
  show 1 * _ + _ ≤ 8
  omega
def clockB (h mi s : Int) : ByteArray := padB h 2 ++ ByteArray.mk #[58] ++ padB mi 2 ++ ByteArray.mk #[58] ++ padB s 2
noncomputable def dayB (t : Int) : ByteArray := padB (yT t) 4 ++ ByteArray.mk #[45] ++ padB (moT t) 2 ++ ByteArray.mk #[45] ++ padB (ddT t) 2
noncomputable def printB (t : Int) : ByteArray := dayB t ++ ByteArray.mk #[84] ++ clockB (rT t / 3600) (rT t / 60 % 60) (rT t % 60) ++ ByteArray.mk #[90]
theorem clockB_size {h mi s : Int} (h0 : 0 ≤ h ∧ h ≤ 9999) (h1 : 0 ≤ mi ∧ mi ≤ 9999) (h2 : 0 ≤ s ∧ s ≤ 9999) : (clockB h mi s).size ≤ 30 := by
  have a := padB_size (n := 2) h0.1 h0.2 (by omega)
  have b := padB_size (n := 2) h1.1 h1.2 (by omega)
  have c := padB_size (n := 2) h2.1 h2.2 (by omega)
  unfold clockB
  simp only [app_size]
  show _ + 1 + _ + 1 + _ ≤ _
  omega
theorem dayB_size (t : Int) : (dayB t).size ≤ 30 := by
  have h := ymT_bd t
  have a := padB_size (v := yT t) (n := 4) (by omega) (by omega) (by omega)
  have b := padB_size (v := moT t) (n := 2) (by omega) (by omega) (by omega)
  have c := padB_size (v := ddT t) (n := 2) (by omega) (by omega) (by omega)
  unfold dayB
  simp only [app_size]
  show _ + 1 + _ + 1 + _ ≤ _
  omega
theorem year_end {t y : Int} (h : dT t ≤ 3652058) (h1 : y ≤ 9999) (hc : ((decide (y < 9999)) && (decide ((bef (y + 1)) ≤ (dT t)))) = false) : dT t < bef (y + 1) := by
  simp only [Bool.and_eq_false_iff, decide_eq_false_iff_not] at hc
  by_cases h9 : y = 9999
  · subst h9; simp [bef]; omega
  · omega
theorem year_more {t y : Int} (hc : ((decide (y < 9999)) && (decide ((bef (y + 1)) ≤ (dT t)))) = true) : bef (y + 1) ≤ dT t := by
  simp only [Bool.and_eq_true, decide_eq_true_eq] at hc; exact hc.2
theorem year_lt {t y : Int} (hc : ((decide (y < 9999)) && (decide ((bef (y + 1)) ≤ (dT t)))) = true) : y < 9999 := by
  simp only [Bool.and_eq_true, decide_eq_true_eq] at hc; exact hc.1
theorem month_lt {t y : Int} {m : Nat} (hn : dT t < bef (y + 1)) (hm : m < 12) (hc : mlen y ((m + 1 : Nat) : Int) ≤ leftF (dT t - bef y) y m) : m + 1 < 12 := by
  rw [leftF_eq] at hc
  by_cases h : m = 11
  · subst h
    have h1 := bef_succ y
    have h2 := cum12 y
    simp only [cum] at h2 hc
    rw [show ((11 + 1 : Nat) : Int) = ((11 : Nat) : Int) + 1 from rfl] at hc
    omega
  · omega
theorem split_is {t y : Int} {m : Nat} (h1 : 1 ≤ y) (h2 : y ≤ 9999) (hm : m < 12) (h3 : 0 ≤ leftF (dT t - bef y) y m) (h4 : leftF (dT t - bef y) y m < mlen y ((m + 1 : Nat) : Int)) :
    y = yT t ∧ ((m + 1 : Nat) : Int) = moT t ∧ leftF (dT t - bef y) y m + 1 = ddT t := by
  rw [leftF_eq] at *
  have h := ymC_eq (days := dT t) (r := ⟨y, m, dT t - bef y - cum y m⟩) ⟨h1, h2, hm, h3, by simpa using h4, by simp only; omega⟩
  unfold yT moT ddT
  rw [h]
  exact ⟨rfl, rfl, rfl⟩
def wkAt (d : Int) : ByteArray := wkL.getD d.toNat default
def monAt (m : Int) : ByteArray := monL.getD (m - 1).toNat default
noncomputable def printMailB (t : Int) : ByteArray := wkAt (dT t % 7) ++ ByteArray.mk #[44, 32] ++ padB (ddT t) 2 ++ ByteArray.mk #[32] ++ monAt (moT t) ++ ByteArray.mk #[32] ++ padB (yT t) 4 ++ ByteArray.mk #[32] ++ clockB (rT t / 3600) (rT t / 60 % 60) (rT t % 60) ++ ByteArray.mk #[32, 71, 77, 84]

theorem split_ (t : Int) (W0 : World) (H : List Grp) : Tri Tryz.prog 33 #[.int .i64 t] W0 H (fun v H' => v = .tuple #[.agg #[.int .i64 (yT t), .int .i64 (moT t), .int .i64 (ddT t), .int .i64 (rT t / 3600), .int .i64 (rT t / 60 % 60), .int .i64 (rT t % 60)], .int .i64 (dT t % 7)] ∧ H' = H) := by
  have hup := upT_bd t
  have hd := dT_bd t
  have hr := rT_bd t
  refine Tri_of (args := [.int .i64 t]) (n := 89) Tryz.func33 rfl rfl (Nat.le_of_ble_eq_true rfl) ?_
  refine G_seq ?_
  refine G_region ?_
  refine GL_alloc (i := 0) (ch := []) (z := .agg #[.int .i64 0, .int .i64 0, .int .i64 0, .int .i64 0, .int .i64 0, .int .i64 0]) rfl rfl (by kernel_rfl) (by kernel_rfl) (by kernel_rfl) (by kernel_rfl) (fun b1 => ?_)
  refine GL_fin (E' := [⟨0, [], .int .i64 t⟩, ⟨2, [], .pointer (some ⟨b1, 0, none⟩)⟩]) [0] [0, 2] rfl (by kernel_rfl) ?_
  refine N_then ?_
  refine G_seq ?_
  refine G_region ?_
  refine GL_pure (E' := [⟨13, [], .agg #[.int .i64 1, .int .i64 1, .int .i64 1, .int .i64 0, .int .i64 0, .int .i64 0]⟩, ⟨0, [], .int .i64 t⟩, ⟨2, [], .pointer (some ⟨b1, 0, none⟩)⟩]) [0] (by kernel_rfl) (j := 1) rfl ?_
  refine GL_call (i := 1) (ch := []) (f := 40) (fst := #[]) (caps := #[]) (vs := [.agg #[.int .i64 1, .int .i64 1, .int .i64 1, .int .i64 0, .int .i64 0, .int .i64 0], .int .i64 0]) rfl rfl rfl (by kernel_rfl) (by kernel_rfl) Tryz.func40 rfl rfl (by kernel_rfl) (by kernel_rfl) (chSure_of (by kernel_rfl)) (time_ 1 1 1 0 0 0 0 (by omega) (by omega) (by omega) (by omega) (by omega) (by omega) (by omega) _ _) ?_
  rintro v H' ⟨rfl, rfl⟩
  rw [show timeM 1 1 1 0 0 0 0 = some (-62135596800) from by kernel_rfl]
  refine GL_fin (E' := [⟨0, [], .int .i64 t⟩, ⟨2, [], .pointer (some ⟨b1, 0, none⟩)⟩, ⟨4, [], .int .i64 (-62135596800)⟩]) [0, 0, 0, 0, 0] [0, 2, 4] rfl (by kernel_rfl) ?_
  refine N_then ?_
  refine G_seq ?_
  refine G_region ?_
  refine GL_pure (E' := [⟨18, [], .agg #[.int .i64 9999, .int .i64 12, .int .i64 31, .int .i64 23, .int .i64 59, .int .i64 59]⟩, ⟨0, [], .int .i64 t⟩, ⟨2, [], .pointer (some ⟨b1, 0, none⟩)⟩, ⟨4, [], .int .i64 (-62135596800)⟩]) [0] (by kernel_rfl) (j := 1) rfl ?_
  refine GL_call (i := 1) (ch := []) (f := 40) (fst := #[]) (caps := #[]) (vs := [.agg #[.int .i64 9999, .int .i64 12, .int .i64 31, .int .i64 23, .int .i64 59, .int .i64 59], .int .i64 0]) rfl rfl rfl (by kernel_rfl) (by kernel_rfl) Tryz.func40 rfl rfl (by kernel_rfl) (by kernel_rfl) (chSure_of (by kernel_rfl)) (time_ 9999 12 31 23 59 59 0 (by omega) (by omega) (by omega) (by omega) (by omega) (by omega) (by omega) _ _) ?_
  rintro v H' ⟨rfl, rfl⟩
  rw [show timeM 9999 12 31 23 59 59 0 = some 253402300799 from by kernel_rfl]
  refine GL_fin (E' := [⟨0, [], .int .i64 t⟩, ⟨2, [], .pointer (some ⟨b1, 0, none⟩)⟩, ⟨4, [], .int .i64 (-62135596800)⟩, ⟨6, [], .int .i64 253402300799⟩]) [0, 0, 0, 0, 0] [0, 2, 4, 6] rfl (by kernel_rfl) ?_
  refine N_then ?_
  refine G_seq ?_
  have hw2 : IntKind.wrap .i64 ((if (if t < 253402300799 then t else 253402300799) > (-62135596800) then (if t < 253402300799 then t else 253402300799) else (-62135596800)) - (-62135596800)) = (if (if t < 253402300799 then t else 253402300799) > (-62135596800) then (if t < 253402300799 then t else 253402300799) else (-62135596800)) - (-62135596800) := w64 (by omega) (by omega)
  refine G_pure (E' := [⟨0, [], .int .i64 ((if (if t < 253402300799 then t else 253402300799) > (-62135596800) then (if t < 253402300799 then t else 253402300799) else (-62135596800)) - (-62135596800))⟩, ⟨2, [], .pointer (some ⟨b1, 0, none⟩)⟩]) [0, 0, 0, 0, 0, 0, 0, 0] [0, 2] rfl (Eq.trans (b := some [⟨0, [], .int .i64 (IntKind.wrap .i64 ((if (if t < 253402300799 then t else 253402300799) > (-62135596800) then (if t < 253402300799 then t else 253402300799) else (-62135596800)) - (-62135596800)))⟩, ⟨2, [], .pointer (some ⟨b1, 0, none⟩)⟩]) (by kernel_rfl) (by simp only [hw2])) ?_
  refine N_env (E' := [⟨0, [], .int .i64 (upT t)⟩, ⟨2, [], .pointer (some ⟨b1, 0, none⟩)⟩]) (by kernel_rfl) ?_
  refine N_then ?_
  refine G_seq ?_
  have hw3 : IntKind.wrap .i64 (Int.tdiv (upT t) 86400) = (upT t) / 86400 := q64 (by omega) (by omega) (by decide)
  have hw4 : Int.tmod (upT t) 86400 = (upT t) % 86400 := r64 (by omega)
  refine G_pure (E' := [⟨2, [], .pointer (some ⟨b1, 0, none⟩)⟩, ⟨8, [], .int .i64 ((upT t) / 86400)⟩, ⟨9, [], .int .i64 ((upT t) % 86400)⟩]) [0, 0, 0, 0, 0, 0] [2, 8, 9] rfl (Eq.trans (b := some [⟨2, [], .pointer (some ⟨b1, 0, none⟩)⟩, ⟨8, [], .int .i64 (IntKind.wrap .i64 (Int.tdiv (upT t) 86400))⟩, ⟨9, [], .int .i64 (Int.tmod (upT t) 86400)⟩]) (by kernel_rfl) (by simp only [hw3, hw4])) ?_
  refine N_env (E' := [⟨2, [], .pointer (some ⟨b1, 0, none⟩)⟩, ⟨8, [], .int .i64 (dT t)⟩, ⟨9, [], .int .i64 (rT t)⟩]) (by kernel_rfl) ?_
  refine N_then ?_
  refine G_seq ?_
  have hw5 : IntKind.wrap .i64 (Int.tdiv (rT t) 3600) = (rT t) / 3600 := q64 (by omega) (by omega) (by decide)
  have hw6 : IntKind.wrap .i64 (Int.tdiv (rT t) 60) = (rT t) / 60 := q64 (by omega) (by omega) (by decide)
  have hw7 : Int.tmod ((rT t) / 60) 60 = ((rT t) / 60) % 60 := r64 (by omega)
  have hw8 : Int.tmod (rT t) 60 = (rT t) % 60 := r64 (by omega)
  refine G_region ?_
  refine GL_pure (E' := [⟨40, [], .agg #[.int .i64 1, .int .i64 1, .int .i64 0, .int .i64 ((rT t) / 3600), .int .i64 (((rT t) / 60) % 60), .int .i64 ((rT t) % 60)]⟩, ⟨39, [], .int .i64 ((rT t) % 60)⟩, ⟨38, [], .int .i64 (rT t)⟩, ⟨37, [], .int .i64 (((rT t) / 60) % 60)⟩, ⟨36, [], .int .i64 ((rT t) / 60)⟩, ⟨35, [], .int .i64 (rT t)⟩, ⟨34, [], .int .i64 ((rT t) / 3600)⟩, ⟨33, [], .int .i64 (rT t)⟩, ⟨2, [], .pointer (some ⟨b1, 0, none⟩)⟩, ⟨8, [], .int .i64 (dT t)⟩, ⟨9, [], .int .i64 (rT t)⟩]) [0, 0, 0, 0, 0, 0, 0, 0] (Eq.trans (b := some [⟨40, [], .agg #[.int .i64 1, .int .i64 1, .int .i64 0, .int .i64 (IntKind.wrap .i64 (Int.tdiv (rT t) 3600)), .int .i64 (Int.tmod (IntKind.wrap .i64 (Int.tdiv (rT t) 60)) 60), .int .i64 (Int.tmod (rT t) 60)]⟩, ⟨39, [], .int .i64 (Int.tmod (rT t) 60)⟩, ⟨38, [], .int .i64 (rT t)⟩, ⟨37, [], .int .i64 (Int.tmod (IntKind.wrap .i64 (Int.tdiv (rT t) 60)) 60)⟩, ⟨36, [], .int .i64 (IntKind.wrap .i64 (Int.tdiv (rT t) 60))⟩, ⟨35, [], .int .i64 (rT t)⟩, ⟨34, [], .int .i64 (IntKind.wrap .i64 (Int.tdiv (rT t) 3600))⟩, ⟨33, [], .int .i64 (rT t)⟩, ⟨2, [], .pointer (some ⟨b1, 0, none⟩)⟩, ⟨8, [], .int .i64 (dT t)⟩, ⟨9, [], .int .i64 (rT t)⟩]) (by kernel_rfl) (by simp only [hw5, hw6, hw7, hw8])) (j := 8) rfl ?_
  refine GL_alloc (i := 8) (ch := []) (z := .agg #[.int .i64 0, .int .i64 0, .int .i64 0, .int .i64 0, .int .i64 0, .int .i64 0]) rfl rfl (by kernel_rfl) (by kernel_rfl) (by kernel_rfl) (by kernel_rfl) (fun b9 => ?_)
  refine GL_store (i := 9) (ch := []) (b := b9) (off := 0) (v := .agg #[.int .i64 1, .int .i64 1, .int .i64 0, .int .i64 ((rT t) / 3600), .int .i64 (((rT t) / 60) % 60), .int .i64 ((rT t) % 60)]) (c := #[.int .i64 0, .int .i64 0, .int .i64 0, .int .i64 0, .int .i64 0, .int .i64 0]) (c' := #[.int .i64 1, .int .i64 1, .int .i64 0, .int .i64 ((rT t) / 3600), .int .i64 (((rT t) / 60) % 60), .int .i64 ((rT t) % 60)]) (j := 0) (m := 0) (H' := ([(b9, .cells #[.int .i64 1, .int .i64 1, .int .i64 0, .int .i64 ((rT t) / 3600), .int .i64 (((rT t) / 60) % 60), .int .i64 ((rT t) % 60)] 44 (0, 0))] :: [(b1, .cells #[.int .i64 0, .int .i64 0, .int .i64 0, .int .i64 0, .int .i64 0, .int .i64 0] 44 (0, 0))] :: H)) rfl rfl (by kernel_rfl) (by kernel_rfl) (by kernel_rfl) (by kernel_rfl) (by kernel_rfl) (by kernel_rfl) (by kernel_rfl) rfl rfl (Nat.le_of_ble_eq_true rfl) (fun _ _ => thaw0) (by kernel_rfl) (by kernel_rfl) ?_
  refine GL_fin (E' := [⟨2, [], .pointer (some ⟨b1, 0, none⟩)⟩, ⟨8, [], .int .i64 (dT t)⟩, ⟨10, [], .pointer (some ⟨b9, 0, none⟩)⟩]) [] [2, 8, 10] rfl (by kernel_rfl) ?_
  refine N_then ?_
  refine G_seq ?_
  have hw10 : IntKind.wrap .i64 (Int.tdiv (dT t) 366) = (dT t) / 366 := q64 (by omega) (by omega) (by decide)
  refine G_region ?_
  refine GL_pure (E' := [⟨44, [], .pointer (some ⟨b9, 0, none⟩)⟩, ⟨43, [], .int .i64 (if ((dT t) / 366) > 1 then ((dT t) / 366) else 1)⟩, ⟨42, [], .int .i64 ((dT t) / 366)⟩, ⟨41, [], .int .i64 (dT t)⟩, ⟨2, [], .pointer (some ⟨b1, 0, none⟩)⟩, ⟨8, [], .int .i64 (dT t)⟩, ⟨10, [], .pointer (some ⟨b9, 0, none⟩)⟩]) [0, 0, 0, 0] (Eq.trans (b := some [⟨44, [], .pointer (some ⟨b9, 0, none⟩)⟩, ⟨43, [], .int .i64 (if (IntKind.wrap .i64 (Int.tdiv (dT t) 366)) > 1 then (IntKind.wrap .i64 (Int.tdiv (dT t) 366)) else 1)⟩, ⟨42, [], .int .i64 (IntKind.wrap .i64 (Int.tdiv (dT t) 366))⟩, ⟨41, [], .int .i64 (dT t)⟩, ⟨2, [], .pointer (some ⟨b1, 0, none⟩)⟩, ⟨8, [], .int .i64 (dT t)⟩, ⟨10, [], .pointer (some ⟨b9, 0, none⟩)⟩]) (by kernel_rfl) (by simp only [hw10])) (j := 4) rfl ?_
  refine GL_store (i := 4) (ch := []) (b := b9) (off := 0) (v := .int .i64 (if ((dT t) / 366) > 1 then ((dT t) / 366) else 1)) (c := #[.int .i64 1, .int .i64 1, .int .i64 0, .int .i64 ((rT t) / 3600), .int .i64 (((rT t) / 60) % 60), .int .i64 ((rT t) % 60)]) (c' := #[.int .i64 (if ((dT t) / 366) > 1 then ((dT t) / 366) else 1), .int .i64 1, .int .i64 0, .int .i64 ((rT t) / 3600), .int .i64 (((rT t) / 60) % 60), .int .i64 ((rT t) % 60)]) (j := 0) (m := 0) (H' := ([(b9, .cells #[.int .i64 (if ((dT t) / 366) > 1 then ((dT t) / 366) else 1), .int .i64 1, .int .i64 0, .int .i64 ((rT t) / 3600), .int .i64 (((rT t) / 60) % 60), .int .i64 ((rT t) % 60)] 44 (0, 0))] :: [(b1, .cells #[.int .i64 0, .int .i64 0, .int .i64 0, .int .i64 0, .int .i64 0, .int .i64 0] 44 (0, 0))] :: H)) rfl rfl (by kernel_rfl) (by kernel_rfl) (by kernel_rfl) (by kernel_rfl) (by kernel_rfl) (by kernel_rfl) (by kernel_rfl) rfl rfl (Nat.le_of_ble_eq_true rfl) (fun _ _ => thaw0) (by kernel_rfl) (by kernel_rfl) ?_
  refine GL_fin (E' := [⟨2, [], .pointer (some ⟨b1, 0, none⟩)⟩, ⟨8, [], .int .i64 (dT t)⟩, ⟨10, [], .pointer (some ⟨b9, 0, none⟩)⟩]) [] [2, 8, 10] rfl (by kernel_rfl) ?_
  refine N_then ?_
  refine G_seq ?_
  refine G_block ?_
  refine G_loop (EI := (fun ξ : Int => [⟨2, [], .pointer (some ⟨b1, 0, none⟩)⟩, ⟨8, [], .int .i64 (dT t)⟩, ⟨10, [], .pointer (some ⟨b9, 0, none⟩)⟩])) (HI := (fun ξ : Int => ([(b9, .cells #[.int .i64 ξ, .int .i64 1, .int .i64 0, .int .i64 ((rT t) / 3600), .int .i64 (((rT t) / 60) % 60), .int .i64 ((rT t) % 60)] 44 (0, 0))] :: [(b1, .cells #[.int .i64 0, .int .i64 0, .int .i64 0, .int .i64 0, .int .i64 0, .int .i64 0] 44 (0, 0))] :: H))) (Φ := (fun ξ : Int => (1 ≤ ξ) ∧ (ξ ≤ 9999) ∧ (bef ξ ≤ dT t))) (μ := (fun ξ : Int => (9999 - ξ).toNat)) (s0 := (_)) [2, 8, 10] (by kernel_rfl) rfl ⟨(bef_first hd.1 hd.2).1, (bef_first hd.1 hd.2).2.1, (bef_first hd.1 hd.2).2.2⟩ ?_
  rintro y ⟨hy, hy1, hb⟩
  have hbd := bef_bd (y := y) (by omega) (by omega)
  refine G_seq ?_
  refine G_seq ?_
  refine G_region ?_
  refine GL_pure (E' := [⟨45, [], .pointer (some ⟨b9, 0, none⟩)⟩, ⟨2, [], .pointer (some ⟨b1, 0, none⟩)⟩, ⟨8, [], .int .i64 (dT t)⟩, ⟨10, [], .pointer (some ⟨b9, 0, none⟩)⟩]) [0] (by kernel_rfl) (j := 1) rfl ?_
  refine GL_load (i := 1) (ch := []) (b := b9) (off := 0) (v := .int .i64 y) rfl rfl (by kernel_rfl) (by kernel_rfl) (by kernel_rfl) (by kernel_rfl) (by kernel_rfl) (At.grp 0 0 rfl rfl) rfl ?_
  refine GL_pure (E' := [⟨49, [(48, true)], .pointer (some ⟨b9, 0, none⟩)⟩, ⟨48, [], .bool (decide (y < 9999))⟩, ⟨47, [], .bool (decide (y < 9999))⟩, ⟨46, [], .int .i64 y⟩, ⟨45, [], .pointer (some ⟨b9, 0, none⟩)⟩, ⟨2, [], .pointer (some ⟨b1, 0, none⟩)⟩, ⟨8, [], .int .i64 (dT t)⟩, ⟨10, [], .pointer (some ⟨b9, 0, none⟩)⟩]) [0, 0, 0] (by kernel_rfl) (j := 5) rfl ?_
  refine GL_load (i := 5) (ch := [(48, true)]) (b := b9) (off := 0) (v := .int .i64 y) rfl rfl (by kernel_rfl) (by kernel_rfl) (by kernel_rfl) (by kernel_rfl) (by kernel_rfl) (At.grp 0 0 rfl rfl) rfl ?_
  have hw11 : IntKind.wrap .i64 (y + 1) = y + 1 := w64 (by omega) (by omega)
  refine GL_pure (E' := [⟨51, [(48, true)], .int .i64 (y + 1)⟩, ⟨50, [(48, true)], .int .i64 y⟩, ⟨49, [(48, true)], .pointer (some ⟨b9, 0, none⟩)⟩, ⟨48, [], .bool (decide (y < 9999))⟩, ⟨47, [], .bool (decide (y < 9999))⟩, ⟨46, [], .int .i64 y⟩, ⟨45, [], .pointer (some ⟨b9, 0, none⟩)⟩, ⟨2, [], .pointer (some ⟨b1, 0, none⟩)⟩, ⟨8, [], .int .i64 (dT t)⟩, ⟨10, [], .pointer (some ⟨b9, 0, none⟩)⟩]) [0] (Eq.trans (b := some [⟨51, [(48, true)], .int .i64 (IntKind.wrap .i64 (y + 1))⟩, ⟨50, [(48, true)], .int .i64 y⟩, ⟨49, [(48, true)], .pointer (some ⟨b9, 0, none⟩)⟩, ⟨48, [], .bool (decide (y < 9999))⟩, ⟨47, [], .bool (decide (y < 9999))⟩, ⟨46, [], .int .i64 y⟩, ⟨45, [], .pointer (some ⟨b9, 0, none⟩)⟩, ⟨2, [], .pointer (some ⟨b1, 0, none⟩)⟩, ⟨8, [], .int .i64 (dT t)⟩, ⟨10, [], .pointer (some ⟨b9, 0, none⟩)⟩]) (by kernel_rfl) (by simp only [hw11])) (j := 7) rfl ?_
  refine GL_callQ (i := 7) (ch := [(48, true)]) (f := 42) (fst := #[]) (caps := #[]) (vs := [.int .i64 (y + 1)]) (v := .int .i64 (bef (y + 1))) rfl rfl rfl (by kernel_rfl) (by kernel_rfl) Tryz.func42 rfl rfl (by kernel_rfl) (by kernel_rfl) (by kernel_rfl) (fun hc => before_ _ (by have hg0 := chB_hd (t := 48) (c := []) (b := decide (y < 9999)) hc (by kernel_rfl); (try simp at hg0); omega) (by have hg0 := chB_hd (t := 48) (c := []) (b := decide (y < 9999)) hc (by kernel_rfl); (try simp at hg0); omega) _ _) ?_
  refine GL_fin (E' := [⟨2, [], .pointer (some ⟨b1, 0, none⟩)⟩, ⟨8, [], .int .i64 (dT t)⟩, ⟨10, [], .pointer (some ⟨b9, 0, none⟩)⟩, ⟨55, [], .bool ((decide (y < 9999)) && (decide ((bef (y + 1)) ≤ (dT t))))⟩]) [0, 0, 6] [2, 8, 10, 55] rfl (by kernel_rfl) ?_
  refine N_then ?_
  refine G_cond (b := (decide (y < 9999)) && (decide ((bef (y + 1)) ≤ (dT t)))) (by kernel_rfl) (fun hc12 => ?_) (fun hc12 => ?_)
  ·
    -- hc12 true
    skip
    refine G_skip ?_
    refine N_then ?_
    refine G_block ?_
    refine G_region ?_
    refine GL_pure (E' := [⟨56, [], .pointer (some ⟨b9, 0, none⟩)⟩, ⟨2, [], .pointer (some ⟨b1, 0, none⟩)⟩, ⟨8, [], .int .i64 (dT t)⟩, ⟨10, [], .pointer (some ⟨b9, 0, none⟩)⟩, ⟨55, [], .bool ((decide (y < 9999)) && (decide ((bef (y + 1)) ≤ (dT t))))⟩]) [0] (by kernel_rfl) (j := 1) rfl ?_
    refine GL_load (i := 1) (ch := []) (b := b9) (off := 0) (v := .int .i64 y) rfl rfl (by kernel_rfl) (by kernel_rfl) (by kernel_rfl) (by kernel_rfl) (by kernel_rfl) (At.grp 0 0 rfl rfl) rfl ?_
    have hw13 : IntKind.wrap .i64 (y + 1) = y + 1 := w64 (by omega) (by omega)
    refine GL_pure (E' := [⟨59, [], .pointer (some ⟨b9, 0, none⟩)⟩, ⟨58, [], .int .i64 (y + 1)⟩, ⟨57, [], .int .i64 y⟩, ⟨56, [], .pointer (some ⟨b9, 0, none⟩)⟩, ⟨2, [], .pointer (some ⟨b1, 0, none⟩)⟩, ⟨8, [], .int .i64 (dT t)⟩, ⟨10, [], .pointer (some ⟨b9, 0, none⟩)⟩, ⟨55, [], .bool ((decide (y < 9999)) && (decide ((bef (y + 1)) ≤ (dT t))))⟩]) [0, 0] (Eq.trans (b := some [⟨59, [], .pointer (some ⟨b9, 0, none⟩)⟩, ⟨58, [], .int .i64 (IntKind.wrap .i64 (y + 1))⟩, ⟨57, [], .int .i64 y⟩, ⟨56, [], .pointer (some ⟨b9, 0, none⟩)⟩, ⟨2, [], .pointer (some ⟨b1, 0, none⟩)⟩, ⟨8, [], .int .i64 (dT t)⟩, ⟨10, [], .pointer (some ⟨b9, 0, none⟩)⟩, ⟨55, [], .bool ((decide (y < 9999)) && (decide ((bef (y + 1)) ≤ (dT t))))⟩]) (by kernel_rfl) (by simp only [hw13])) (j := 4) rfl ?_
    refine GL_store (i := 4) (ch := []) (b := b9) (off := 0) (v := .int .i64 (y + 1)) (c := #[.int .i64 y, .int .i64 1, .int .i64 0, .int .i64 ((rT t) / 3600), .int .i64 (((rT t) / 60) % 60), .int .i64 ((rT t) % 60)]) (c' := #[.int .i64 (y + 1), .int .i64 1, .int .i64 0, .int .i64 ((rT t) / 3600), .int .i64 (((rT t) / 60) % 60), .int .i64 ((rT t) % 60)]) (j := 0) (m := 0) (H' := ([(b9, .cells #[.int .i64 (y + 1), .int .i64 1, .int .i64 0, .int .i64 ((rT t) / 3600), .int .i64 (((rT t) / 60) % 60), .int .i64 ((rT t) % 60)] 44 (0, 0))] :: [(b1, .cells #[.int .i64 0, .int .i64 0, .int .i64 0, .int .i64 0, .int .i64 0, .int .i64 0] 44 (0, 0))] :: H)) rfl rfl (by kernel_rfl) (by kernel_rfl) (by kernel_rfl) (by kernel_rfl) (by kernel_rfl) (by kernel_rfl) (by kernel_rfl) rfl rfl (Nat.le_of_ble_eq_true rfl) (fun _ _ => thaw0) (by kernel_rfl) (by kernel_rfl) ?_
    refine GL_fin (E' := [⟨2, [], .pointer (some ⟨b1, 0, none⟩)⟩, ⟨8, [], .int .i64 (dT t)⟩, ⟨10, [], .pointer (some ⟨b9, 0, none⟩)⟩]) [] [2, 8, 10] rfl (by kernel_rfl) ?_
    refine N_block ?_
    refine N_round (s' := (y + 1)) [2, 8, 10] (by kernel_rfl) rfl ⟨(by omega), (by have := year_lt hc12; omega), (year_more hc12)⟩ (by have := year_lt hc12; omega)
  ·
    -- hc12 false
    have hnx := year_end hd.2 hy1 hc12
    refine G_exit ?_
    refine N_then_exit ?_
    refine N_then_exit ?_
    refine N_block_exit ?_
    refine N_then ?_
    refine G_seq ?_
    refine G_region ?_
    refine GL_pure (E' := [⟨61, [], .pointer (some ⟨b9, 0, none⟩)⟩, ⟨60, [], .int .i64 (dT t)⟩, ⟨2, [], .pointer (some ⟨b1, 0, none⟩)⟩, ⟨8, [], .int .i64 (dT t)⟩, ⟨10, [], .pointer (some ⟨b9, 0, none⟩)⟩, ⟨55, [], .bool ((decide (y < 9999)) && (decide ((bef (y + 1)) ≤ (dT t))))⟩]) [0, 0] (by kernel_rfl) (j := 2) rfl ?_
    refine GL_load (i := 2) (ch := []) (b := b9) (off := 0) (v := .int .i64 y) rfl rfl (by kernel_rfl) (by kernel_rfl) (by kernel_rfl) (by kernel_rfl) (by kernel_rfl) (At.grp 0 0 rfl rfl) rfl ?_
    refine GL_callQ (i := 3) (ch := []) (f := 42) (fst := #[]) (caps := #[]) (vs := [.int .i64 y]) (v := .int .i64 (bef y)) rfl rfl rfl (by kernel_rfl) (by kernel_rfl) Tryz.func42 rfl rfl (by kernel_rfl) (by kernel_rfl) (by kernel_rfl) (fun _ => before_ _ (by omega) (by omega) _ _) ?_
    have hw14 : IntKind.wrap .i64 ((dT t) - (bef y)) = (dT t) - (bef y) := w64 (by omega) (by omega)
    refine GL_fin (E' := [⟨2, [], .pointer (some ⟨b1, 0, none⟩)⟩, ⟨8, [], .int .i64 (dT t)⟩, ⟨10, [], .pointer (some ⟨b9, 0, none⟩)⟩, ⟨11, [], .int .i64 ((dT t) - (bef y))⟩]) [0, 0] [2, 8, 10, 11] rfl (Eq.trans (b := some [⟨2, [], .pointer (some ⟨b1, 0, none⟩)⟩, ⟨8, [], .int .i64 (dT t)⟩, ⟨10, [], .pointer (some ⟨b9, 0, none⟩)⟩, ⟨11, [], .int .i64 (IntKind.wrap .i64 ((dT t) - (bef y)))⟩]) (by kernel_rfl) (by simp only [hw14])) ?_
    refine N_then ?_
    refine G_seq ?_
    refine G_block ?_
    refine G_loop (EI := (fun ξ : Nat => [⟨2, [], .pointer (some ⟨b1, 0, none⟩)⟩, ⟨8, [], .int .i64 (dT t)⟩, ⟨10, [], .pointer (some ⟨b9, 0, none⟩)⟩, ⟨11, [], .int .i64 (leftF (dT t - bef y) y ξ)⟩])) (HI := (fun ξ : Nat => ([(b9, .cells #[.int .i64 y, .int .i64 ((ξ + 1 : Nat) : Int), .int .i64 0, .int .i64 ((rT t) / 3600), .int .i64 (((rT t) / 60) % 60), .int .i64 ((rT t) % 60)] 44 (0, 0))] :: [(b1, .cells #[.int .i64 0, .int .i64 0, .int .i64 0, .int .i64 0, .int .i64 0, .int .i64 0] 44 (0, 0))] :: H))) (Φ := (fun ξ : Nat => (ξ < 12) ∧ (0 ≤ leftF (dT t - bef y) y ξ))) (μ := (fun ξ : Nat => 12 - ξ)) (s0 := (0)) [2, 8, 10, 11] (by kernel_rfl) rfl ⟨(by omega), (by simp only [leftF]; omega)⟩ ?_
    rintro m ⟨hm, hl⟩
    have hlf := leftF_eq (dT t - bef y) y m
    have hcb := cum_bd y m
    have hml := mlen_bd y ((m + 1 : Nat) : Int)
    refine G_seq ?_
    refine G_seq ?_
    refine G_region ?_
    refine GL_pure (E' := [⟨66, [], .pointer (some ⟨b9, 0, none⟩)⟩, ⟨65, [], .int .i64 (leftF (dT t - bef y) y m)⟩, ⟨2, [], .pointer (some ⟨b1, 0, none⟩)⟩, ⟨8, [], .int .i64 (dT t)⟩, ⟨10, [], .pointer (some ⟨b9, 0, none⟩)⟩, ⟨11, [], .int .i64 (leftF (dT t - bef y) y m)⟩]) [0, 0] (by kernel_rfl) (j := 2) rfl ?_
    refine GL_load (i := 2) (ch := []) (b := b9) (off := 0) (v := .int .i64 y) rfl rfl (by kernel_rfl) (by kernel_rfl) (by kernel_rfl) (by kernel_rfl) (by kernel_rfl) (At.grp 0 0 rfl rfl) rfl ?_
    refine GL_pure (E' := [⟨68, [], .pointer (some ⟨b9, 1, none⟩)⟩, ⟨67, [], .int .i64 y⟩, ⟨66, [], .pointer (some ⟨b9, 0, none⟩)⟩, ⟨65, [], .int .i64 (leftF (dT t - bef y) y m)⟩, ⟨2, [], .pointer (some ⟨b1, 0, none⟩)⟩, ⟨8, [], .int .i64 (dT t)⟩, ⟨10, [], .pointer (some ⟨b9, 0, none⟩)⟩, ⟨11, [], .int .i64 (leftF (dT t - bef y) y m)⟩]) [0] (by kernel_rfl) (j := 4) rfl ?_
    refine GL_load (i := 4) (ch := []) (b := b9) (off := 1) (v := .int .i64 ((m + 1 : Nat) : Int)) rfl rfl (by kernel_rfl) (by kernel_rfl) (by kernel_rfl) (by kernel_rfl) (by kernel_rfl) (At.grp 0 0 rfl rfl) rfl ?_
    refine GL_callQ (i := 5) (ch := []) (f := 43) (fst := #[]) (caps := #[]) (vs := [.int .i64 y, .int .i64 ((m + 1 : Nat) : Int)]) (v := .int .i64 (mlen y ((m + 1 : Nat) : Int))) rfl rfl rfl (by kernel_rfl) (by kernel_rfl) Tryz.func43 rfl rfl (by kernel_rfl) (by kernel_rfl) (by kernel_rfl) (fun _ => length_ _ _ (by omega) _ _) ?_
    refine GL_fin (E' := [⟨2, [], .pointer (some ⟨b1, 0, none⟩)⟩, ⟨8, [], .int .i64 (dT t)⟩, ⟨10, [], .pointer (some ⟨b9, 0, none⟩)⟩, ⟨11, [], .int .i64 (leftF (dT t - bef y) y m)⟩, ⟨71, [], .bool (decide ((leftF (dT t - bef y) y m) ≥ (mlen y ((m + 1 : Nat) : Int))))⟩]) [0] [2, 8, 10, 11, 71] rfl (by kernel_rfl) ?_
    refine N_then ?_
    refine G_cond (b := decide ((leftF (dT t - bef y) y m) ≥ (mlen y ((m + 1 : Nat) : Int)))) (by kernel_rfl) (fun hc15 => ?_) (fun hc15 => ?_)
    ·
      -- hc15 true
      simp only [decide_eq_true_eq] at hc15
      refine G_skip ?_
      refine N_then ?_
      refine G_block ?_
      refine G_seq ?_
      refine G_region ?_
      refine GL_pure (E' := [⟨73, [], .pointer (some ⟨b9, 0, none⟩)⟩, ⟨72, [], .int .i64 (leftF (dT t - bef y) y m)⟩, ⟨2, [], .pointer (some ⟨b1, 0, none⟩)⟩, ⟨8, [], .int .i64 (dT t)⟩, ⟨10, [], .pointer (some ⟨b9, 0, none⟩)⟩, ⟨11, [], .int .i64 (leftF (dT t - bef y) y m)⟩, ⟨71, [], .bool (decide ((leftF (dT t - bef y) y m) ≥ (mlen y ((m + 1 : Nat) : Int))))⟩]) [0, 0] (by kernel_rfl) (j := 2) rfl ?_
      refine GL_load (i := 2) (ch := []) (b := b9) (off := 0) (v := .int .i64 y) rfl rfl (by kernel_rfl) (by kernel_rfl) (by kernel_rfl) (by kernel_rfl) (by kernel_rfl) (At.grp 0 0 rfl rfl) rfl ?_
      refine GL_pure (E' := [⟨75, [], .pointer (some ⟨b9, 1, none⟩)⟩, ⟨74, [], .int .i64 y⟩, ⟨73, [], .pointer (some ⟨b9, 0, none⟩)⟩, ⟨72, [], .int .i64 (leftF (dT t - bef y) y m)⟩, ⟨2, [], .pointer (some ⟨b1, 0, none⟩)⟩, ⟨8, [], .int .i64 (dT t)⟩, ⟨10, [], .pointer (some ⟨b9, 0, none⟩)⟩, ⟨11, [], .int .i64 (leftF (dT t - bef y) y m)⟩, ⟨71, [], .bool (decide ((leftF (dT t - bef y) y m) ≥ (mlen y ((m + 1 : Nat) : Int))))⟩]) [0] (by kernel_rfl) (j := 4) rfl ?_
      refine GL_load (i := 4) (ch := []) (b := b9) (off := 1) (v := .int .i64 ((m + 1 : Nat) : Int)) rfl rfl (by kernel_rfl) (by kernel_rfl) (by kernel_rfl) (by kernel_rfl) (by kernel_rfl) (At.grp 0 0 rfl rfl) rfl ?_
      refine GL_callQ (i := 5) (ch := []) (f := 43) (fst := #[]) (caps := #[]) (vs := [.int .i64 y, .int .i64 ((m + 1 : Nat) : Int)]) (v := .int .i64 (mlen y ((m + 1 : Nat) : Int))) rfl rfl rfl (by kernel_rfl) (by kernel_rfl) Tryz.func43 rfl rfl (by kernel_rfl) (by kernel_rfl) (by kernel_rfl) (fun _ => length_ _ _ (by omega) _ _) ?_
      have hw16 : IntKind.wrap .i64 ((leftF (dT t - bef y) y m) - (mlen y ((m + 1 : Nat) : Int))) = (leftF (dT t - bef y) y m) - (mlen y ((m + 1 : Nat) : Int)) := w64 (by omega) (by omega)
      refine GL_fin (E' := [⟨2, [], .pointer (some ⟨b1, 0, none⟩)⟩, ⟨8, [], .int .i64 (dT t)⟩, ⟨10, [], .pointer (some ⟨b9, 0, none⟩)⟩, ⟨11, [], .int .i64 ((leftF (dT t - bef y) y m) - (mlen y ((m + 1 : Nat) : Int)))⟩]) [0, 0] [2, 8, 10, 11] rfl (Eq.trans (b := some [⟨2, [], .pointer (some ⟨b1, 0, none⟩)⟩, ⟨8, [], .int .i64 (dT t)⟩, ⟨10, [], .pointer (some ⟨b9, 0, none⟩)⟩, ⟨11, [], .int .i64 (IntKind.wrap .i64 ((leftF (dT t - bef y) y m) - (mlen y ((m + 1 : Nat) : Int))))⟩]) (by kernel_rfl) (by simp only [hw16])) ?_
      refine N_then ?_
      refine G_region ?_
      refine GL_pure (E' := [⟨79, [], .pointer (some ⟨b9, 1, none⟩)⟩, ⟨2, [], .pointer (some ⟨b1, 0, none⟩)⟩, ⟨8, [], .int .i64 (dT t)⟩, ⟨10, [], .pointer (some ⟨b9, 0, none⟩)⟩, ⟨11, [], .int .i64 ((leftF (dT t - bef y) y m) - (mlen y ((m + 1 : Nat) : Int)))⟩]) [0] (by kernel_rfl) (j := 1) rfl ?_
      refine GL_load (i := 1) (ch := []) (b := b9) (off := 1) (v := .int .i64 ((m + 1 : Nat) : Int)) rfl rfl (by kernel_rfl) (by kernel_rfl) (by kernel_rfl) (by kernel_rfl) (by kernel_rfl) (At.grp 0 0 rfl rfl) rfl ?_
      have hw17 : IntKind.wrap .i64 (((m + 1 : Nat) : Int) + 1) = ((m + 1 : Nat) : Int) + 1 := w64 (by omega) (by omega)
      refine GL_pure (E' := [⟨82, [], .pointer (some ⟨b9, 1, none⟩)⟩, ⟨81, [], .int .i64 (((m + 1 : Nat) : Int) + 1)⟩, ⟨80, [], .int .i64 ((m + 1 : Nat) : Int)⟩, ⟨79, [], .pointer (some ⟨b9, 1, none⟩)⟩, ⟨2, [], .pointer (some ⟨b1, 0, none⟩)⟩, ⟨8, [], .int .i64 (dT t)⟩, ⟨10, [], .pointer (some ⟨b9, 0, none⟩)⟩, ⟨11, [], .int .i64 ((leftF (dT t - bef y) y m) - (mlen y ((m + 1 : Nat) : Int)))⟩]) [0, 0] (Eq.trans (b := some [⟨82, [], .pointer (some ⟨b9, 1, none⟩)⟩, ⟨81, [], .int .i64 (IntKind.wrap .i64 (((m + 1 : Nat) : Int) + 1))⟩, ⟨80, [], .int .i64 ((m + 1 : Nat) : Int)⟩, ⟨79, [], .pointer (some ⟨b9, 1, none⟩)⟩, ⟨2, [], .pointer (some ⟨b1, 0, none⟩)⟩, ⟨8, [], .int .i64 (dT t)⟩, ⟨10, [], .pointer (some ⟨b9, 0, none⟩)⟩, ⟨11, [], .int .i64 ((leftF (dT t - bef y) y m) - (mlen y ((m + 1 : Nat) : Int)))⟩]) (by kernel_rfl) (by simp only [hw17])) (j := 4) rfl ?_
      refine GL_store (i := 4) (ch := []) (b := b9) (off := 1) (v := .int .i64 (((m + 1 : Nat) : Int) + 1)) (c := #[.int .i64 y, .int .i64 ((m + 1 : Nat) : Int), .int .i64 0, .int .i64 ((rT t) / 3600), .int .i64 (((rT t) / 60) % 60), .int .i64 ((rT t) % 60)]) (c' := #[.int .i64 y, .int .i64 (((m + 1 : Nat) : Int) + 1), .int .i64 0, .int .i64 ((rT t) / 3600), .int .i64 (((rT t) / 60) % 60), .int .i64 ((rT t) % 60)]) (j := 0) (m := 0) (H' := ([(b9, .cells #[.int .i64 y, .int .i64 (((m + 1 : Nat) : Int) + 1), .int .i64 0, .int .i64 ((rT t) / 3600), .int .i64 (((rT t) / 60) % 60), .int .i64 ((rT t) % 60)] 44 (0, 0))] :: [(b1, .cells #[.int .i64 0, .int .i64 0, .int .i64 0, .int .i64 0, .int .i64 0, .int .i64 0] 44 (0, 0))] :: H)) rfl rfl (by kernel_rfl) (by kernel_rfl) (by kernel_rfl) (by kernel_rfl) (by kernel_rfl) (by kernel_rfl) (by kernel_rfl) rfl rfl (Nat.le_of_ble_eq_true rfl) (fun _ _ => thaw0) (by kernel_rfl) (by kernel_rfl) ?_
      refine GL_fin (E' := [⟨2, [], .pointer (some ⟨b1, 0, none⟩)⟩, ⟨8, [], .int .i64 (dT t)⟩, ⟨10, [], .pointer (some ⟨b9, 0, none⟩)⟩, ⟨11, [], .int .i64 ((leftF (dT t - bef y) y m) - (mlen y ((m + 1 : Nat) : Int)))⟩]) [] [2, 8, 10, 11] rfl (by kernel_rfl) ?_
      refine N_block ?_
      refine N_round (s' := (m + 1)) [2, 8, 10, 11] (by kernel_rfl) (by kernel_rfl) ⟨(month_lt hnx hm hc15), (by simp only [leftF]; omega)⟩ (by omega)
    ·
      -- hc15 false
      simp only [decide_eq_false_iff_not] at hc15
      refine G_exit ?_
      refine N_then_exit ?_
      refine N_then_exit ?_
      refine N_block_exit ?_
      refine N_then ?_
      refine G_seq ?_
      have hw18 : IntKind.wrap .i64 ((leftF (dT t - bef y) y m) + 1) = (leftF (dT t - bef y) y m) + 1 := w64 (by omega) (by omega)
      refine G_region ?_
      refine GL_pure (E' := [⟨85, [], .pointer (some ⟨b9, 2, none⟩)⟩, ⟨84, [], .int .i64 ((leftF (dT t - bef y) y m) + 1)⟩, ⟨83, [], .int .i64 (leftF (dT t - bef y) y m)⟩, ⟨2, [], .pointer (some ⟨b1, 0, none⟩)⟩, ⟨8, [], .int .i64 (dT t)⟩, ⟨10, [], .pointer (some ⟨b9, 0, none⟩)⟩, ⟨11, [], .int .i64 (leftF (dT t - bef y) y m)⟩, ⟨71, [], .bool (decide ((leftF (dT t - bef y) y m) ≥ (mlen y ((m + 1 : Nat) : Int))))⟩]) [0, 0, 0] (Eq.trans (b := some [⟨85, [], .pointer (some ⟨b9, 2, none⟩)⟩, ⟨84, [], .int .i64 (IntKind.wrap .i64 ((leftF (dT t - bef y) y m) + 1))⟩, ⟨83, [], .int .i64 (leftF (dT t - bef y) y m)⟩, ⟨2, [], .pointer (some ⟨b1, 0, none⟩)⟩, ⟨8, [], .int .i64 (dT t)⟩, ⟨10, [], .pointer (some ⟨b9, 0, none⟩)⟩, ⟨11, [], .int .i64 (leftF (dT t - bef y) y m)⟩, ⟨71, [], .bool (decide ((leftF (dT t - bef y) y m) ≥ (mlen y ((m + 1 : Nat) : Int))))⟩]) (by kernel_rfl) (by simp only [hw18])) (j := 3) rfl ?_
      refine GL_store (i := 3) (ch := []) (b := b9) (off := 2) (v := .int .i64 ((leftF (dT t - bef y) y m) + 1)) (c := #[.int .i64 y, .int .i64 ((m + 1 : Nat) : Int), .int .i64 0, .int .i64 ((rT t) / 3600), .int .i64 (((rT t) / 60) % 60), .int .i64 ((rT t) % 60)]) (c' := #[.int .i64 y, .int .i64 ((m + 1 : Nat) : Int), .int .i64 ((leftF (dT t - bef y) y m) + 1), .int .i64 ((rT t) / 3600), .int .i64 (((rT t) / 60) % 60), .int .i64 ((rT t) % 60)]) (j := 0) (m := 0) (H' := ([(b9, .cells #[.int .i64 y, .int .i64 ((m + 1 : Nat) : Int), .int .i64 ((leftF (dT t - bef y) y m) + 1), .int .i64 ((rT t) / 3600), .int .i64 (((rT t) / 60) % 60), .int .i64 ((rT t) % 60)] 44 (0, 0))] :: [(b1, .cells #[.int .i64 0, .int .i64 0, .int .i64 0, .int .i64 0, .int .i64 0, .int .i64 0] 44 (0, 0))] :: H)) rfl rfl (by kernel_rfl) (by kernel_rfl) (by kernel_rfl) (by kernel_rfl) (by kernel_rfl) (by kernel_rfl) (by kernel_rfl) rfl rfl (Nat.le_of_ble_eq_true rfl) (fun _ _ => thaw0) (by kernel_rfl) (by kernel_rfl) ?_
      refine GL_fin (E' := [⟨2, [], .pointer (some ⟨b1, 0, none⟩)⟩, ⟨8, [], .int .i64 (dT t)⟩, ⟨10, [], .pointer (some ⟨b9, 0, none⟩)⟩]) [] [2, 8, 10] rfl (by kernel_rfl) ?_
      refine N_then ?_
      refine G_seq ?_
      refine G_region ?_
      refine GL_loadA (i := 0) (ch := []) (b := b9) (off := 0) (l := [.int .i64 y, .int .i64 ((m + 1 : Nat) : Int), .int .i64 ((leftF (dT t - bef y) y m) + 1), .int .i64 ((rT t) / 3600), .int .i64 (((rT t) / 60) % 60), .int .i64 ((rT t) % 60)]) rfl rfl (by kernel_rfl) (by kernel_rfl) (by kernel_rfl) (by kernel_rfl) (by kernel_rfl) (by kernel_rfl) (At.grp 0 0 rfl rfl) (by kernel_rfl) ?_
      have hw19 : Int.tmod (dT t) 7 = (dT t) % 7 := r64 (by omega)
      refine GL_pure (E' := [⟨88, [], .int .i64 ((dT t) % 7)⟩, ⟨87, [], .int .i64 (dT t)⟩, ⟨86, [], .agg #[.int .i64 y, .int .i64 ((m + 1 : Nat) : Int), .int .i64 ((leftF (dT t - bef y) y m) + 1), .int .i64 ((rT t) / 3600), .int .i64 (((rT t) / 60) % 60), .int .i64 ((rT t) % 60)]⟩, ⟨2, [], .pointer (some ⟨b1, 0, none⟩)⟩, ⟨8, [], .int .i64 (dT t)⟩, ⟨10, [], .pointer (some ⟨b9, 0, none⟩)⟩]) [0, 0] (Eq.trans (b := some [⟨88, [], .int .i64 (Int.tmod (dT t) 7)⟩, ⟨87, [], .int .i64 (dT t)⟩, ⟨86, [], .agg #[.int .i64 y, .int .i64 ((m + 1 : Nat) : Int), .int .i64 ((leftF (dT t - bef y) y m) + 1), .int .i64 ((rT t) / 3600), .int .i64 (((rT t) / 60) % 60), .int .i64 ((rT t) % 60)]⟩, ⟨2, [], .pointer (some ⟨b1, 0, none⟩)⟩, ⟨8, [], .int .i64 (dT t)⟩, ⟨10, [], .pointer (some ⟨b9, 0, none⟩)⟩]) (by kernel_rfl) (by simp only [hw19])) (j := 3) rfl ?_
      refine GL_store (i := 3) (ch := []) (b := b1) (off := 0) (v := .agg #[.int .i64 y, .int .i64 ((m + 1 : Nat) : Int), .int .i64 ((leftF (dT t - bef y) y m) + 1), .int .i64 ((rT t) / 3600), .int .i64 (((rT t) / 60) % 60), .int .i64 ((rT t) % 60)]) (c := #[.int .i64 0, .int .i64 0, .int .i64 0, .int .i64 0, .int .i64 0, .int .i64 0]) (c' := #[.int .i64 y, .int .i64 ((m + 1 : Nat) : Int), .int .i64 ((leftF (dT t - bef y) y m) + 1), .int .i64 ((rT t) / 3600), .int .i64 (((rT t) / 60) % 60), .int .i64 ((rT t) % 60)]) (j := 1) (m := 0) (H' := ([(b9, .cells #[.int .i64 y, .int .i64 ((m + 1 : Nat) : Int), .int .i64 ((leftF (dT t - bef y) y m) + 1), .int .i64 ((rT t) / 3600), .int .i64 (((rT t) / 60) % 60), .int .i64 ((rT t) % 60)] 44 (0, 0))] :: [(b1, .cells #[.int .i64 y, .int .i64 ((m + 1 : Nat) : Int), .int .i64 ((leftF (dT t - bef y) y m) + 1), .int .i64 ((rT t) / 3600), .int .i64 (((rT t) / 60) % 60), .int .i64 ((rT t) % 60)] 44 (0, 0))] :: H)) rfl rfl (by kernel_rfl) (by kernel_rfl) (by kernel_rfl) (by kernel_rfl) (by kernel_rfl) (by kernel_rfl) (by kernel_rfl) rfl rfl (Nat.le_of_ble_eq_true rfl) (fun _ _ => thaw0) (by kernel_rfl) (by kernel_rfl) ?_
      refine GL_fin (E' := [⟨2, [], .pointer (some ⟨b1, 0, none⟩)⟩, ⟨3, [], .int .i64 ((dT t) % 7)⟩]) [0] [2, 3] rfl (by kernel_rfl) ?_
      refine N_then ?_
      refine G_ret ?_
      refine N_retC [.cell 2 44, .tmp 3] [.agg #[.int .i64 y, .int .i64 ((m + 1 : Nat) : Int), .int .i64 ((leftF (dT t - bef y) y m) + 1), .int .i64 ((rT t) / 3600), .int .i64 (((rT t) / 60) % 60), .int .i64 ((rT t) % 60)], .int .i64 ((dT t) % 7)] rfl (.cons (.agg (b := b1) (off := 0) (l := [.int .i64 y, .int .i64 ((m + 1 : Nat) : Int), .int .i64 ((leftF (dT t - bef y) y m) + 1), .int .i64 ((rT t) / 3600), .int .i64 (((rT t) / 60) % 60), .int .i64 ((rT t) % 60)]) (by kernel_rfl) (by kernel_rfl) (by kernel_rfl) (At.grp 1 0 rfl rfl) (by kernel_rfl)) (.cons (.tmp (by kernel_rfl)) (.nil))) rfl ⟨H, ?_, fun w h => ((h.erase 1).erase 0)⟩
      obtain ⟨e1, e2, e3⟩ := split_is hy hy1 hm hl (by omega)
      refine ⟨?_, rfl⟩
      rw [← e1, ← e2, ← e3]
      rfl

end Go.Proofs.YtlglmomimhbeaaaGreatDoor
