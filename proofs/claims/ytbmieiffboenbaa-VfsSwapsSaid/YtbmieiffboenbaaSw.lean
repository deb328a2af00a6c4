/- A rename upon a disk in plain words: what each act answers, and what a crash leaves. No program is in sight. -/
import Derived.Test.YtbmieiffboenbaaRh
namespace Go.Vf
open Go.Sw Go.Proofs.Ytbmieiffboenbaa

def pP : ByteArray := ByteArray.mk #[112]
def pQ : ByteArray := ByteArray.mk #[113]
def p0 : ByteArray := ByteArray.mk #[]
theorem right_p : rightB pP = true := by decide +kernel
theorem right_q : rightB pQ = true := by decide +kernel
theorem dir_p : dirB pP = p0 := by decide +kernel
theorem dir_q : dirB pQ = p0 := by decide +kernel
theorem dirR_0 : dirR p0 = true := by unfold dirR; rw [show (p0.toList == (ByteArray.mk #[]).toList) = true from beq_self_eq_true _]; rfl
theorem renR_qp : renR pQ pP = true := by unfold renR; rw [right_p, right_q, dir_p, dir_q, beq_self_eq_true]; rfl
theorem pq_ne : (pQ == pP) = false := by decide
theorem qp_ne : (pP == pQ) = false := by decide
def sw1 (a : ByteArray) : DM := ⟨1048576, [⟨a, p0⟩], [(pP, 0)], [], [⟨p0, [(pP, 0)]⟩], false, false, 0⟩
def sw2 (a : ByteArray) : DM := ⟨1048576, [⟨a, a⟩], [(pP, 0)], [], [⟨p0, [(pP, 0)]⟩], false, false, 0⟩
def sw3 (a : ByteArray) : DM := ⟨1048576, [⟨a, a⟩], [(pP, 0)], [(pP, 0)], [], false, false, 0⟩
def sw4 (a : ByteArray) (n : Int) : DM := ⟨1048576, [⟨a, a⟩], [(pP, 0)], [(pP, 0)], [], true, false, n⟩
def sw5 (a b : ByteArray) (n : Int) : DM := ⟨1048576, [⟨a, a⟩, ⟨b, p0⟩], [(pP, 0), (pQ, 1)], [(pP, 0)], [⟨p0, [(pQ, 1)]⟩], true, false, n⟩
def sw6 (a b : ByteArray) (n : Int) : DM := ⟨1048576, [⟨a, a⟩, ⟨b, b⟩], [(pP, 0), (pQ, 1)], [(pP, 0)], [⟨p0, [(pQ, 1)]⟩], true, false, n⟩
def sw7 (a b : ByteArray) (n : Int) : DM := ⟨1048576, [⟨a, a⟩, ⟨b, b⟩], [(pP, 1)], [(pP, 0)], [⟨p0, [(pQ, 1)]⟩, ⟨p0, [(pQ, -1), (pP, 1)]⟩], true, false, n⟩
def sw8 (a b : ByteArray) (n : Int) : DM := ⟨1048576, [⟨a, a⟩, ⟨b, b⟩], [(pP, 1)], [(pP, 1)], [], true, false, n⟩
theorem err_ok {M : DM} {r : Bool} (hr : r = true) (hf : M.fails = false) : errM M r = 0 ∧ callM M r = M := by
  subst hr
  unfold errM callM callS
  rw [hf]
  refine ⟨rfl, ?_⟩
  cases M; simp only at hf; subst hf; rfl
theorem err_go {M : DM} {r : Bool} (hr : r = true) (hf : M.fails = true) (hc : M.calls > 0) : errM M r = 0 ∧ callM M r = { M with calls := M.calls - 1 } := by
  subst hr
  unfold errM callM callS
  rw [hf, if_neg (by decide), if_neg (by decide), if_pos hc]
  refine ⟨rfl, ?_⟩
  cases M; simp only at hf; subst hf; rfl
theorem err_no {M : DM} {r : Bool} (hr : r = true) (hf : M.fails = true) (ho : M.once = false) (hc : ¬ M.calls > 0) : errM M r = 62 ∧ callM M r = M := by
  subst hr
  unfold errM callM callS
  rw [hf, if_neg (by decide), if_neg (by decide), if_neg hc]
  refine ⟨rfl, ?_⟩
  cases M; simp only at hf ho; subst hf ho; rfl
theorem write_p {a : ByteArray} (ha : a.size ≤ 1000) : writeM (newM 1048576) pP a = (0, sw1 a) := by
  obtain ⟨e1, e2⟩ := err_ok (M := newM 1048576) right_p rfl
  have hr : ¬ (usedM (newM 1048576) : Int) - (wasM (newM 1048576) pP : Int) + (a.size : Int) > (newM 1048576).room := by
    show ¬ ((0 : Nat) : Int) - ((0 : Nat) : Int) + (a.size : Int) > 1048576
    omega
  rw [writeM_ok e1 hr, e2, dir_p]; rfl
theorem sync_p {a : ByteArray} : syncM (sw1 a) pP = (0, sw2 a) := by
  obtain ⟨e1, e2⟩ := err_ok (M := sw1 a) right_p rfl
  rw [syncM_ok (k := 0) e1 rfl, e2]; rfl
theorem sdir_p {a : ByteArray} : syncDirM (sw2 a) p0 = (0, sw3 a) := by
  obtain ⟨e1, e2⟩ := err_ok (M := sw2 a) dirR_0 rfl
  rw [syncDirM_ok e1, e2]; rfl
theorem fail_p {a : ByteArray} {n : Int} : failM (sw3 a) n false = sw4 a (if 0 > n then 0 else n) := rfl
theorem fail_pn {a : ByteArray} {n t : Int} (h : n = if 0 > t then 0 else t) : failM (sw3 a) t false = sw4 a n := by rw [h]; rfl
theorem write_q {a b : ByteArray} {n : Int} (ha : a.size ≤ 1000) (hb : b.size ≤ 1000) (hn : n > 0) : writeM (sw4 a n) pQ b = (0, sw5 a b (n - 1)) := by
  obtain ⟨e1, e2⟩ := err_go (M := sw4 a n) right_q rfl hn
  have hr : ¬ (usedM (sw4 a n) : Int) - (wasM (sw4 a n) pQ : Int) + (b.size : Int) > (sw4 a n).room := by
    show ¬ ((a.size + 0 : Nat) : Int) - ((0 : Nat) : Int) + (b.size : Int) > 1048576
    omega
  rw [writeM_ok e1 hr, e2, dir_q]; rfl
theorem write_q0 {a b : ByteArray} {n : Int} (hn : ¬ n > 0) : writeM (sw4 a n) pQ b = (62, sw4 a n) := by
  obtain ⟨e1, e2⟩ := err_no (M := sw4 a n) right_q rfl rfl hn
  rw [writeM_err (by rw [e1]; decide), e1, e2]
theorem sync_q {a b : ByteArray} {n : Int} (hn : n > 0) : syncM (sw5 a b n) pQ = (0, sw6 a b (n - 1)) := by
  obtain ⟨e1, e2⟩ := err_go (M := sw5 a b n) right_q rfl hn
  rw [syncM_ok (k := 1) e1 rfl, e2]; rfl
theorem sync_q0 {a b : ByteArray} {n : Int} (hn : ¬ n > 0) : syncM (sw5 a b n) pQ = (62, sw5 a b n) := by
  obtain ⟨e1, e2⟩ := err_no (M := sw5 a b n) right_q rfl rfl hn
  rw [syncM_err (by rw [e1]; decide), e1, e2]
theorem ren_q {a b : ByteArray} {n : Int} (hn : n > 0) : renameM (sw6 a b n) pQ pP = (0, sw7 a b (n - 1)) := by
  obtain ⟨e1, e2⟩ := err_go (M := sw6 a b n) renR_qp rfl hn
  rw [renameM_ok (k := 1) e1 rfl pq_ne, e2, dir_p]; rfl
theorem ren_q0 {a b : ByteArray} {n : Int} (hn : ¬ n > 0) : renameM (sw6 a b n) pQ pP = (62, sw6 a b n) := by
  obtain ⟨e1, e2⟩ := err_no (M := sw6 a b n) renR_qp rfl rfl hn
  rw [renameM_err (by rw [e1]; decide), e1, e2]
theorem sdir_q {a b : ByteArray} {n : Int} (hn : n > 0) : syncDirM (sw7 a b n) p0 = (0, sw8 a b (n - 1)) := by
  obtain ⟨e1, e2⟩ := err_go (M := sw7 a b n) dirR_0 rfl hn
  rw [syncDirM_ok e1, e2]; rfl
theorem sdir_q0 {a b : ByteArray} {n : Int} (hn : ¬ n > 0) : syncDirM (sw7 a b n) p0 = (62, sw7 a b n) := by
  obtain ⟨e1, e2⟩ := err_no (M := sw7 a b n) dirR_0 rfl rfl hn
  rw [syncDirM_err (by rw [e1]; decide), e1, e2]
theorem swc (n : Int) : ¬ n > 0 ∨ (n > 0 ∧ ¬ n - 1 > 0) ∨ (n > 0 ∧ n - 1 > 0 ∧ ¬ n - 1 - 1 > 0) ∨ (n > 0 ∧ n - 1 > 0 ∧ n - 1 - 1 > 0 ∧ ¬ n - 1 - 1 - 1 > 0) ∨ (n > 0 ∧ n - 1 > 0 ∧ n - 1 - 1 > 0 ∧ n - 1 - 1 - 1 > 0) := by omega
/-! ## small numbers -/
theorem small1 {M : DM} {x : Body} (hb : M.bodies = [x]) (h1 : x.now.size ≤ 10000000 ∧ x.kept.size ≤ x.now.size) (hn : M.names.length ≤ 10000) (hc : M.changes.length ≤ 100000) (hk : -9223372036854775808 ≤ M.calls ∧ M.calls ≤ 9223372036854775807) (hp : ∀ x ∈ M.names, x.1.size ≤ 1000000) (hd : ∀ c ∈ M.changes, c.dir.size ≤ 1000000) : Small M :=
  ⟨by rw [hb]; show 1 ≤ 100000; omega, fun B hB => by rw [hb] at hB; rw [List.mem_singleton.1 hB]; exact h1, hn, hc, hk, hp, hd⟩
theorem small2 {M : DM} {x y : Body} (hb : M.bodies = [x, y]) (h1 : x.now.size ≤ 10000000 ∧ x.kept.size ≤ x.now.size) (h2 : y.now.size ≤ 10000000 ∧ y.kept.size ≤ y.now.size) (hn : M.names.length ≤ 10000) (hc : M.changes.length ≤ 100000) (hk : -9223372036854775808 ≤ M.calls ∧ M.calls ≤ 9223372036854775807) (hp : ∀ x ∈ M.names, x.1.size ≤ 1000000) (hd : ∀ c ∈ M.changes, c.dir.size ≤ 1000000) : Small M :=
  ⟨by rw [hb]; show 2 ≤ 100000; omega, fun B hB => by
    rw [hb] at hB
    rcases List.mem_cons.1 hB with rfl | hB
    · exact h1
    · rw [List.mem_singleton.1 hB]; exact h2, hn, hc, hk, hp, hd⟩
theorem le_in {n : Int} (h : -9223372036854775808 ≤ n ∧ n ≤ 9223372036854775807) (hn : n > 0) : -9223372036854775808 ≤ n - 1 ∧ n - 1 ≤ 9223372036854775807 := by omega
theorem sm0 : Small (newM 1048576) := ⟨by decide, fun _ h => absurd h List.not_mem_nil, by decide, by decide, by decide, fun _ h => absurd h List.not_mem_nil, fun _ h => absurd h List.not_mem_nil⟩
theorem sz {a : ByteArray} (ha : a.size ≤ 1000) : a.size ≤ 10000000 ∧ a.size ≤ a.size := by omega
theorem sz0 {a : ByteArray} (ha : a.size ≤ 1000) : a.size ≤ 10000000 ∧ p0.size ≤ a.size := ⟨by omega, Nat.zero_le _⟩
theorem sm1 {a : ByteArray} (ha : a.size ≤ 1000) : Small (sw1 a) := small1 (x := ⟨a, p0⟩) rfl (sz0 ha) (by show 1 ≤ 10000; omega) (by show 1 ≤ 100000; omega) (by show (-9223372036854775808 : Int) ≤ 0 ∧ (0 : Int) ≤ 9223372036854775807; omega) (by show ∀ x ∈ [(pP, (0 : Int))], x.1.size ≤ 1000000; decide) (by intro c hc; rw [show c = _ from List.mem_singleton.1 hc]; decide)
theorem sm2 {a : ByteArray} (ha : a.size ≤ 1000) : Small (sw2 a) := small1 (x := ⟨a, a⟩) rfl (sz ha) (by show 1 ≤ 10000; omega) (by show 1 ≤ 100000; omega) (by show (-9223372036854775808 : Int) ≤ 0 ∧ (0 : Int) ≤ 9223372036854775807; omega) (by show ∀ x ∈ [(pP, (0 : Int))], x.1.size ≤ 1000000; decide) (by intro c hc; rw [show c = _ from List.mem_singleton.1 hc]; decide)
theorem sm3 {a : ByteArray} (ha : a.size ≤ 1000) : Small (sw3 a) := small1 (x := ⟨a, a⟩) rfl (sz ha) (by show 1 ≤ 10000; omega) (by show 0 ≤ 100000; omega) (by show (-9223372036854775808 : Int) ≤ 0 ∧ (0 : Int) ≤ 9223372036854775807; omega) (by show ∀ x ∈ [(pP, (0 : Int))], x.1.size ≤ 1000000; decide) (fun _ h => absurd h List.not_mem_nil)
theorem sm4 {a : ByteArray} {n : Int} (ha : a.size ≤ 1000) (hn : -9223372036854775808 ≤ n ∧ n ≤ 9223372036854775807) : Small (sw4 a n) := small1 (x := ⟨a, a⟩) rfl (sz ha) (by show 1 ≤ 10000; omega) (by show 0 ≤ 100000; omega) hn (by show ∀ x ∈ [(pP, (0 : Int))], x.1.size ≤ 1000000; decide) (fun _ h => absurd h List.not_mem_nil)
theorem sm5 {a b : ByteArray} {n : Int} (ha : a.size ≤ 1000) (hb : b.size ≤ 1000) (hn : -9223372036854775808 ≤ n ∧ n ≤ 9223372036854775807) : Small (sw5 a b n) := small2 (x := ⟨a, a⟩) (y := ⟨b, p0⟩) rfl (sz ha) (sz0 hb) (by show 2 ≤ 10000; omega) (by show 1 ≤ 100000; omega) hn (by show ∀ x ∈ [(pP, (0 : Int)), (pQ, 1)], x.1.size ≤ 1000000; decide) (by intro c hc; rw [show c = _ from List.mem_singleton.1 hc]; decide)
theorem sm6 {a b : ByteArray} {n : Int} (ha : a.size ≤ 1000) (hb : b.size ≤ 1000) (hn : -9223372036854775808 ≤ n ∧ n ≤ 9223372036854775807) : Small (sw6 a b n) := small2 (x := ⟨a, a⟩) (y := ⟨b, b⟩) rfl (sz ha) (sz hb) (by show 2 ≤ 10000; omega) (by show 1 ≤ 100000; omega) hn (by show ∀ x ∈ [(pP, (0 : Int)), (pQ, 1)], x.1.size ≤ 1000000; decide) (by intro c hc; rw [show c = _ from List.mem_singleton.1 hc]; decide)
theorem sm7 {a b : ByteArray} {n : Int} (ha : a.size ≤ 1000) (hb : b.size ≤ 1000) (hn : -9223372036854775808 ≤ n ∧ n ≤ 9223372036854775807) : Small (sw7 a b n) := small2 (x := ⟨a, a⟩) (y := ⟨b, b⟩) rfl (sz ha) (sz hb) (by show 1 ≤ 10000; omega) (by show 2 ≤ 100000; omega) hn (by show ∀ x ∈ [(pP, (1 : Int))], x.1.size ≤ 1000000; decide) (by
  intro c hc
  rcases List.mem_cons.1 (show c ∈ [_, _] from hc) with rfl | hc
  · decide
  · rw [List.mem_singleton.1 hc]; decide)
theorem sm8 {a b : ByteArray} {n : Int} (ha : a.size ≤ 1000) (hb : b.size ≤ 1000) (hn : -9223372036854775808 ≤ n ∧ n ≤ 9223372036854775807) : Small (sw8 a b n) := small2 (x := ⟨a, a⟩) (y := ⟨b, b⟩) rfl (sz ha) (sz hb) (by show 1 ≤ 10000; omega) (by show 0 ≤ 100000; omega) hn (by show ∀ x ∈ [(pP, (1 : Int))], x.1.size ≤ 1000000; decide) (fun _ h => absurd h List.not_mem_nil)
theorem crash_size {M : DM} (hm : Small M) (ks : List Int) : ∀ B ∈ (crashM M ks).bodies, B.now.size ≤ 10000000 := fun B hB => (crashB_size (n := 10000000) hm.size B hB).1
/-! ## what a crash leaves -/
theorem crashB_same {a : ByteArray} {r : List Body} {ks : List Int} : crashB (⟨a, a⟩ :: r) ks = (⟨a, a⟩ :: (crashB r ks).1, (crashB r ks).2) := by
  rw [crashB, if_neg (by simp only; omega)]
theorem dirs_nil : dirsOf [] = [] := (sortB_perm _).eq_nil
theorem dirs_one {l : List Ch} (h : onceL (l.map (·.dir)) = [p0]) : dirsOf l = [p0] := by
  unfold dirsOf
  rw [h]; exact List.perm_singleton.1 (sortB_perm _)
theorem take_le1 {α : Type} (x : α) (k : Nat) : ([x].take k) = [] ∨ [x].take k = [x] := by
  cases k with
  | zero => exact .inl rfl
  | succ k => exact .inr (by simp)
theorem take_le2 {α : Type} (x y : α) (k : Nat) : ([x, y].take k) = [] ∨ [x, y].take k = [x] ∨ [x, y].take k = [x, y] := by
  cases k with
  | zero => exact .inl rfl
  | succ k =>
    cases k with
    | zero => exact .inr (.inl rfl)
    | succ k => exact .inr (.inr (by simp))
theorem crashD_one (l : List Ch) (d : ByteArray) (ks : List Int) (K : List Nm) : ∃ t, crashD l [d] ks K = ((chOf l d).take t).foldl applyN K := ⟨_, rfl⟩
theorem end4 {a : ByteArray} {n : Int} {ks : List Int} : readM (crashM (sw4 a n) ks) pP = (a, 0) := by
  have h : (crashM (sw4 a n) ks).names = [(pP, 0)] := by
    show crashD [] (dirsOf []) _ [(pP, 0)] = _
    rw [dirs_nil]; rfl
  have hb : (crashM (sw4 a n) ks).bodies = [⟨a, a⟩] := by show (crashB [⟨a, a⟩] ks).1 = _; rw [crashB_same]; rfl
  rw [readM_ok (k := 0) (by rw [h]; rfl)]
  unfold bodyAt
  rw [hb]; rfl
theorem end56 {a : ByteArray} {M : DM} {B : Body} {ks : List Int} (h1 : M.bodies = [⟨a, a⟩, B]) (h2 : M.kept = [(pP, 0)]) (h3 : M.changes = [⟨p0, [(pQ, 1)]⟩]) : readM (crashM M ks) pP = (a, 0) := by
  have hb : ∃ r, (crashM M ks).bodies = ⟨a, a⟩ :: r := by show ∃ r, (crashB M.bodies ks).1 = _; rw [h1, crashB_same]; exact ⟨_, rfl⟩
  obtain ⟨r, hb⟩ := hb
  have h : lookN (crashM M ks).names pP = some 0 := by
    show lookN (crashD M.changes (dirsOf M.changes) (crashB M.bodies ks).2 M.kept) pP = _
    rw [h3, h2, dirs_one rfl]
    obtain ⟨t, ht⟩ := crashD_one [⟨p0, [(pQ, 1)]⟩] p0 (crashB M.bodies ks).2 [(pP, 0)]
    rw [ht, show chOf [⟨p0, [(pQ, 1)]⟩] p0 = [[(pQ, (1 : Int))]] from rfl]
    rcases take_le1 [(pQ, (1 : Int))] t with e | e <;> rw [e] <;> rfl
  rw [readM_ok h]
  unfold bodyAt
  rw [hb]; rfl
theorem end7 {a b : ByteArray} {n : Int} {ks : List Int} : readM (crashM (sw7 a b n) ks) pP = (a, 0) ∨ readM (crashM (sw7 a b n) ks) pP = (b, 0) := by
  have hb : (crashM (sw7 a b n) ks).bodies = [⟨a, a⟩, ⟨b, b⟩] := by show (crashB [⟨a, a⟩, ⟨b, b⟩] ks).1 = _; rw [crashB_same, crashB_same]; rfl
  have h : lookN (crashM (sw7 a b n) ks).names pP = some 0 ∨ lookN (crashM (sw7 a b n) ks).names pP = some 1 := by
    show lookN (crashD (sw7 a b n).changes (dirsOf (sw7 a b n).changes) (crashB (sw7 a b n).bodies ks).2 [(pP, 0)]) pP = _ ∨ lookN (crashD (sw7 a b n).changes (dirsOf (sw7 a b n).changes) (crashB (sw7 a b n).bodies ks).2 [(pP, 0)]) pP = _
    rw [dirs_one (l := (sw7 a b n).changes) rfl]
    obtain ⟨t, ht⟩ := crashD_one (sw7 a b n).changes p0 (crashB (sw7 a b n).bodies ks).2 [(pP, 0)]
    rw [ht, show chOf (sw7 a b n).changes p0 = [[(pQ, (1 : Int))], [(pQ, (-1 : Int)), (pP, 1)]] from rfl]
    rcases take_le2 [(pQ, (1 : Int))] [(pQ, (-1 : Int)), (pP, 1)] t with e | e | e <;> rw [e]
    · exact .inl rfl
    · exact .inl rfl
    · exact .inr rfl
  rcases h with h | h
  · left
    rw [readM_ok h]
    unfold bodyAt
    rw [hb]; rfl
  · right
    rw [readM_ok h]
    unfold bodyAt
    rw [hb]; rfl
theorem end8 {a b : ByteArray} {n : Int} {ks : List Int} : readM (crashM (sw8 a b n) ks) pP = (b, 0) := by
  have h : (crashM (sw8 a b n) ks).names = [(pP, 1)] := by
    show crashD [] (dirsOf []) _ [(pP, 1)] = _
    rw [dirs_nil]; rfl
  have hb : (crashM (sw8 a b n) ks).bodies = [⟨a, a⟩, ⟨b, b⟩] := by show (crashB [⟨a, a⟩, ⟨b, b⟩] ks).1 = _; rw [crashB_same, crashB_same]; rfl
  rw [readM_ok (k := 1) (by rw [h]; rfl)]
  unfold bodyAt
  rw [hb]; rfl
end Go.Vf
