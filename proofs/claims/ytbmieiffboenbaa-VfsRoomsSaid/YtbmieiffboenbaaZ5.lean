/- A crash, the document's way: body by body, the least directory first. No program is in sight. (and what it stands on) -/
import Derived.Test.YtbmieiffboenbaaZ4
namespace Go.Vf
open Go.Sw Go.Proofs.Ytbmieiffboenbaa
def fa : ByteArray := ByteArray.mk #[97]
def fb : ByteArray := ByteArray.mk #[98]
def fbad : ByteArray := ByteArray.mk #[98, 47, 46, 46]
def fxy : ByteArray := ByteArray.mk #[120, 121]
def fx : ByteArray := ByteArray.mk #[120]
def f100 : ByteArray := ⟨(List.replicate 100 (0 : UInt8)).toArray⟩
theorem right_fa : rightB fa = true := by decide +kernel
theorem right_fb : rightB fb = true := by decide +kernel
theorem right_fbad : rightB fbad = false := by decide +kernel
theorem dir_fa : dirB fa = p0 := by decide +kernel
def fm1 : DM := ⟨100, [⟨fxy, p0⟩], [(fa, 0)], [], [⟨p0, [(fa, 0)]⟩], false, false, 0⟩
def fm2 : DM := ⟨100, [⟨fxy, fxy⟩], [(fa, 0)], [], [⟨p0, [(fa, 0)]⟩], false, false, 0⟩
def fm3 : DM := ⟨100, [⟨fxy, fxy⟩], [], [], [], false, false, 0⟩
def fm4 : DM := ⟨100, [⟨fxy, fxy⟩, ⟨fxy, p0⟩], [(fa, 1)], [], [⟨p0, [(fa, 1)]⟩], false, false, 0⟩
def fm5 : DM := ⟨100, [⟨fxy, fxy⟩, ⟨fxy, p0⟩], [(fa, 1)], [(fa, 1)], [], false, false, 0⟩
def fm6 : DM := ⟨100, [⟨fxy, fxy⟩, ⟨fx, fx⟩], [(fa, 1)], [(fa, 1)], [], false, false, 0⟩
theorem f_write1 : writeM (newM 100) fa fxy = (0, fm1) := by
  obtain ⟨e1, e2⟩ := err_ok (M := newM 100) right_fa rfl
  rw [writeM_ok e1 (by show ¬ ((0 : Nat) : Int) - ((0 : Nat) : Int) + ((2 : Nat) : Int) > 100; omega), e2, dir_fa]; rfl
theorem f_sync : syncM fm1 fa = (0, fm2) := by
  obtain ⟨e1, e2⟩ := err_ok (M := fm1) right_fa rfl
  rw [syncM_ok (k := 0) e1 rfl, e2]; rfl
theorem f_crash1 : crashM fm2 [] = fm3 := by
  unfold crashM
  rw [show crashB fm2.bodies [] = ([⟨fxy, fxy⟩], []) from crashB_same, dirs_one (l := fm2.changes) rfl]; rfl
theorem f_list : listM fm3 p0 = [] := (sortB_perm _).eq_nil
theorem f_write2 : writeM fm3 fa fxy = (0, fm4) := by
  obtain ⟨e1, e2⟩ := err_ok (M := fm3) right_fa rfl
  rw [writeM_ok e1 (by show ¬ ((0 : Nat) : Int) - ((0 : Nat) : Int) + ((2 : Nat) : Int) > 100; omega), e2, dir_fa]; rfl
theorem f_sdir : syncDirM fm4 p0 = (0, fm5) := by
  obtain ⟨e1, e2⟩ := err_ok (M := fm4) dirR_0 rfl
  rw [syncDirM_ok e1, e2]; rfl
theorem f_crash2 : crashM fm5 [1] = fm6 := by
  have hb : crashB fm5.bodies [1] = ([⟨fxy, fxy⟩, ⟨fx, fx⟩], []) := by
    show crashB (⟨fxy, fxy⟩ :: [⟨fxy, p0⟩]) [1] = _
    rw [crashB_same]
    rfl
  unfold crashM
  rw [hb, show dirsOf fm5.changes = [] from dirs_nil]; rfl
theorem f_read : readM fm6 fa = (fx, 0) := rfl
theorem f_used : usedM fm6 = 1 := rfl
theorem f_bad : writeM fm6 fbad p0 = (2, fm6) := by
  have e1 : errM fm6 (rightB fbad) = 2 := by rw [right_fbad]; rfl
  rw [writeM_err (by rw [e1]; decide), e1, right_fbad]; rfl
theorem f_full : writeM fm6 fb f100 = (61, fm6) := by
  obtain ⟨e1, e2⟩ := err_ok (M := fm6) right_fb rfl
  rw [writeM_full e1 (by show ((1 : Nat) : Int) - ((0 : Nat) : Int) + ((100 : Nat) : Int) > 100; omega), e2]
theorem fsz : fxy.size ≤ 10000000 ∧ fxy.size ≤ fxy.size := by decide
theorem fsz0 : fxy.size ≤ 10000000 ∧ p0.size ≤ fxy.size := by decide
theorem fszx : fx.size ≤ 10000000 ∧ fx.size ≤ fx.size := by decide
theorem fd0 (l : List Nm) : ∀ c ∈ ([⟨p0, l⟩] : List Ch), c.dir.size ≤ 1000000 := by intro c hc; rw [List.mem_singleton.1 hc]; show 0 ≤ 1000000; omega
theorem fc : -9223372036854775808 ≤ (0 : Int) ∧ (0 : Int) ≤ 9223372036854775807 := by omega
theorem fp (k : Int) : ∀ x ∈ ([(fa, k)] : List Nm), x.1.size ≤ 1000000 := by intro c hc; rw [List.mem_singleton.1 hc]; show 1 ≤ 1000000; omega
theorem fs0 : Small (newM 100) := ⟨by decide, fun _ h => absurd h List.not_mem_nil, by decide, by decide, by decide, fun _ h => absurd h List.not_mem_nil, fun _ h => absurd h List.not_mem_nil⟩
theorem fs1 : Small fm1 := small1 (x := ⟨fxy, p0⟩) rfl fsz0 (by decide) (by decide) fc (fp 0) (fd0 _)
theorem fs2 : Small fm2 := small1 (x := ⟨fxy, fxy⟩) rfl fsz (by decide) (by decide) fc (fp 0) (fd0 _)
theorem fs3 : Small fm3 := small1 (x := ⟨fxy, fxy⟩) rfl fsz (by decide) (by decide) fc (fun _ h => absurd h List.not_mem_nil) (fun _ h => absurd h List.not_mem_nil)
theorem fs4 : Small fm4 := small2 (x := ⟨fxy, fxy⟩) (y := ⟨fxy, p0⟩) rfl fsz fsz0 (by decide) (by decide) fc (fp 1) (fd0 _)
theorem fs5 : Small fm5 := small2 (x := ⟨fxy, fxy⟩) (y := ⟨fxy, p0⟩) rfl fsz fsz0 (by decide) (by decide) fc (fp 1) (fun _ h => absurd h List.not_mem_nil)
theorem fs6 : Small fm6 := small2 (x := ⟨fxy, fxy⟩) (y := ⟨fx, fx⟩) rfl fsz fszx (by decide) (by decide) fc (fp 1) (fun _ h => absurd h List.not_mem_nil)
theorem u8s_f100 : u8s f100.data.toList = List.replicate 100 (Value.int .u8 0) := by rfl
end Go.Vf
namespace Go.Vf
open Go.Sw Go.Proofs.Ytbmieiffboenbaa
def adds (l : List Nm) : Nat := (l.filter fun x => decide (0 ≤ x.2)).length
def addsC (cs : List Ch) : Nat := (cs.map fun c => adds c.l).sum
def addsL (ls : List (List Nm)) : Nat := (ls.map adds).sum
theorem with_len (l : List Nm) (x : Nm) : (withN l x).length ≤ l.length + (if 0 ≤ x.2 then 1 else 0) := by
  unfold withN
  rw [List.length_append]
  have := List.length_filter_le (fun n : Nm => !(x.1 == n.1)) l
  split <;> simp <;> omega
theorem apply_len : ∀ (c l : List Nm), (applyN l c).length ≤ l.length + adds c
  | [], l => Nat.le_refl _
  | x :: c, l => by
    have h1 := apply_len c (withN l x)
    have h2 := with_len l x
    unfold adds at h1 ⊢
    rw [List.filter_cons]
    show (applyN (withN l x) c).length ≤ _
    split
    · rename_i h
      rw [decide_eq_true_eq] at h
      rw [if_pos h] at h2
      rw [List.length_cons]; omega
    · rename_i h
      rw [decide_eq_true_eq] at h
      rw [if_neg h] at h2
      omega
theorem fold_len : ∀ (ls : List (List Nm)) (l : List Nm), (ls.foldl applyN l).length ≤ l.length + addsL ls
  | [], l => Nat.le_refl _
  | c :: ls, l => by
    have h1 := fold_len ls (applyN l c)
    have h2 := apply_len c l
    unfold addsL at h1 ⊢
    rw [List.map_cons, List.sum_cons]
    show (ls.foldl applyN (applyN l c)).length ≤ _
    omega
theorem addsC_app (a b : List Ch) : addsC (a ++ b) = addsC a + addsC b := by unfold addsC; rw [List.map_append, List.sum_append]
theorem addsC_split (l : List Ch) (d : ByteArray) : addsC l = addsL (chOf l d) + addsC (l.filter fun c => !(d == c.dir)) := by
  unfold addsC addsL chOf
  induction l with
  | nil => rfl
  | cons c l ih =>
    rw [List.filter_cons, List.filter_cons]
    cases d == c.dir
    · simp only [Bool.not_false, if_true, Bool.false_eq_true, if_false, List.map_cons, List.sum_cons]; omega
    · simp only [Bool.not_true, Bool.false_eq_true, if_false, if_true, List.map_cons, List.sum_cons]; omega
theorem addsL_take (ls : List (List Nm)) (n : Nat) : addsL (ls.take n) ≤ addsL ls := by
  unfold addsL
  induction ls generalizing n with
  | nil => simp
  | cons c ls ih =>
    cases n with
    | zero => simp
    | succ n => rw [List.take_succ_cons, List.map_cons, List.map_cons, List.sum_cons, List.sum_cons]; have := ih n; omega
theorem crashD_len : ∀ (ds : List ByteArray) (l : List Ch) (ks : List Int) (K : List Nm), ds.Nodup → (crashD l ds ks K).length ≤ K.length + addsC l
  | [], l, _, K, _ => Nat.le_add_right _ _
  | d :: ds, l, ks, K, hn => by
    rw [List.nodup_cons] at hn
    rw [crashD]
    have e : ∀ (ds : List ByteArray) (ks : List Int) (K : List Nm), d ∉ ds → crashD l ds ks K = crashD (l.filter fun c => !(d == c.dir)) ds ks K := by
      intro ds
      induction ds with
      | nil => intro _ _ _; rfl
      | cons x ds ih =>
        intro ks K hx
        rw [crashD, crashD]
        have hne : (x == d) = false := by rw [baNe]; intro he; exact hx (by rw [he]; exact List.mem_cons_self)
        rw [chOf_filter, hne]
        simp only [Bool.false_eq_true, if_false]
        exact ih _ _ fun h => hx (List.mem_cons_of_mem _ h)
    rw [e ds _ _ hn.1]
    have h1 := crashD_len ds (l.filter fun c => !(d == c.dir)) (ks.drop 1) (((chOf l d).take (nextK (ks.headD 0) (((chOf l d).length : Int) + 1)).toNat).foldl applyN K) hn.2
    have h2 := fold_len ((chOf l d).take (nextK (ks.headD 0) (((chOf l d).length : Int) + 1)).toNat) K
    have h3 := addsL_take (chOf l d) (nextK (ks.headD 0) (((chOf l d).length : Int) + 1)).toNat
    have h4 := addsC_split l d
    omega
theorem dirs_nodup (l : List Ch) : (dirsOf l).Nodup := (sortB_perm _).nodup_iff.2 (once_nodup _)
def RightL (l : List Nm) : Prop := ∀ x ∈ l, rightB x.1 = true
theorem right_apply {c l : List Nm} (h : RightL l) (hc : RightL c) : RightL (applyN l c) := fun y hy => by
  rcases mem_apply hy with h1 | h1
  · exact h y h1
  · exact hc y h1.1
theorem right_fold : ∀ {ls : List (List Nm)} {l : List Nm}, RightL l → (∀ c ∈ ls, RightL c) → RightL (ls.foldl applyN l)
  | [], _, h, _ => h
  | c :: ls, l, h, hc => right_fold (ls := ls) (right_apply h (hc c List.mem_cons_self)) fun x hx => hc x (List.mem_cons_of_mem _ hx)
theorem chOf_mem {l : List Ch} {d : ByteArray} {x : List Nm} (h : x ∈ chOf l d) : ∃ c ∈ l, c.l = x := by
  unfold chOf at h
  obtain ⟨c, hc, rfl⟩ := List.mem_map.1 h
  exact ⟨c, (List.mem_filter.1 hc).1, rfl⟩
theorem right_crash : ∀ {ds : List ByteArray} {l : List Ch} {ks : List Int} {K : List Nm}, RightL K → (∀ c ∈ l, RightL c.l) → RightL (crashD l ds ks K)
  | [], _, _, _, h, _ => h
  | d :: ds, l, ks, K, h, hc => by
    rw [crashD]
    exact right_crash (ds := ds) (right_fold h fun x hx => by obtain ⟨c, hc1, rfl⟩ := chOf_mem (List.mem_of_mem_take hx); exact hc c hc1) hc
theorem part_size {s : ByteArray} (h : partB s = true) : s.size ≤ 80 := by
  unfold partB at h
  simp only [Bool.and_eq_true, decide_eq_true_eq] at h
  omega
theorem right_size {s : ByteArray} (h : rightB s = true) : s.size ≤ 161 := by
  unfold rightB at h
  split at h
  · have := part_size h; omega
  · rename_i hs
    rw [Bool.and_eq_true] at h
    obtain ⟨h1, h2, h3⟩ := slash_facts hs
    have a1 := part_size h.1
    have a2 := part_size h.2
    omega
theorem dir_size (s : ByteArray) : (dirB s).size ≤ s.size := by
  unfold dirB
  split
  · exact Nat.zero_le _
  · rw [ByteArray.size_extract]; omega
structure CalI (w a r i j : Nat) (M : DM) : Prop where
  room : M.room = 1048576
  fails : M.fails = false
  calls : M.calls = 0
  bodies : M.bodies.length ≤ j
  size : ∀ B ∈ M.bodies, B.now.size ≤ 999 * (a + 1) + r ∧ B.kept.size ≤ B.now.size
  names : M.names.length ≤ w
  kept : M.kept.length + addsC M.changes ≤ w
  changes : M.changes.length ≤ i
  rn : RightL M.names
  rk : RightL M.kept
  rc : ∀ c ∈ M.changes, RightL c.l ∧ c.dir.size ≤ 161
theorem CalI.small {w a r i j : Nat} {M : DM} (h : CalI w a r i j M) (hw : w + a ≤ 60) (hr : r ≤ 8 * w) (hi : i ≤ 60) (hj : j ≤ 60) : Small M := by
  refine ⟨by have := h.bodies; omega, fun B hB => ?_, by have := h.names; omega, by have := h.changes; omega, by rw [h.calls]; omega, fun x hx => by have := right_size (h.rn x hx); omega, fun c hc => by have := (h.rc c hc).2; omega⟩
  obtain ⟨h1, h2⟩ := h.size B hB
  exact ⟨by have : 999 * (a + 1) + r ≤ 10000000 := by omega
            omega, h2⟩
theorem err_right {M : DM} {r : Bool} (h : errM M r = 0) : r = true := by
  cases r
  · exact absurd (show (2 : Int) = 0 from h) (by decide)
  · rfl
theorem cal_up {w w' a a' r i i' j j' : Nat} {M : DM} (h : CalI w a r i j M) (hw : w ≤ w') (ha : a ≤ a') (hi : i ≤ i') (hj : j ≤ j') : CalI w' a' r i' j' M :=
  ⟨h.room, h.fails, h.calls, Nat.le_trans h.bodies hj, fun B hB => by obtain ⟨h1, h2⟩ := h.size B hB; exact ⟨by omega, h2⟩, Nat.le_trans h.names hw, Nat.le_trans h.kept hw, Nat.le_trans h.changes hi, h.rn, h.rk, h.rc⟩
def Cal (i : Nat) (M : DM) : Prop := ∃ w a, w + a ≤ i ∧ CalI w a 0 i i M
theorem Cal.small {i : Nat} {M : DM} (h : Cal i M) (hi : i ≤ 60) : Small M := by
  obtain ⟨w, a, h1, h2⟩ := h
  exact h2.small (by omega) (Nat.zero_le _) hi hi
theorem Cal.stay {i : Nat} {M : DM} (h : Cal i M) : Cal (i + 1) M := by
  obtain ⟨w, a, h1, h2⟩ := h
  exact ⟨w, a, by omega, cal_up h2 (Nat.le_refl _) (Nat.le_refl _) (by omega) (by omega)⟩
theorem crashB_quiet {n : Nat} : ∀ {Bs : List Body} {ks : List Int}, (∀ B ∈ Bs, B.now.size ≤ n ∧ B.kept.size ≤ B.now.size) → ∀ B ∈ (crashB Bs ks).1, B.now = B.kept
  | [], _, _, B, hB => by cases hB
  | x :: r, ks, h, B, hB => by
    have ih := fun ks => crashB_quiet (n := n) (Bs := r) (ks := ks) fun B hB => h B (List.mem_cons_of_mem _ hB)
    rw [crashB] at hB
    split at hB
    · rcases List.mem_cons.1 hB with rfl | hB
      · rfl
      · exact ih _ B hB
    · rcases List.mem_cons.1 hB with rfl | hB
      · rfl
      · exact ih _ B hB
end Go.Vf
namespace Go.Sw
open Go.RowKit
theorem own_rd {t : TypeId} {k : Nat} {a : Option Addr} {n c : Nat} {g : Grp} {cs : List Value} (h : Own t k (.slice a n c) g n cs) : Rd (inG g) a cs := by
  obtain ⟨a', c', he, _, hr⟩ := h.shape
  injection he with e1 e2 e3
  subst e1; exact hr
theorem eltA_add (a : Option Addr) (k j : Nat) : Addr.add (eltA a k) j = eltA a (k + j) := by
  unfold eltA Addr.add
  by_cases hk : k = 0
  · subst hk; simp
  · by_cases hj : j = 0
    · subst hj; simp
    · rw [if_neg hj, if_neg hk, if_neg (by omega : ¬ k + j = 0)]
      simp only [Nat.add_assoc]
theorem GL_storeO {P : Program} {ops : Array Oper} {i : Nat} {Q : Post} {n : Nat} {E : Env} {W0 : World} {H : List Grp} {o : Oper} {ch : List (Nat × Bool)} {t et : TypeId} {x y : Operand} {a : Option Addr} {sz len cap q : Nat} {cs cs' : List Value} {v : Value} {g : Grp} {j : Nat}
    (ho : ops[i]? = some o) (hop : o.op = .store t x y) (hx : evO E ch x = some (.pointer (some (eltA a q)))) (hy : evO E ch y = some v)
    (hsz : sizeV P t = some v.cells.size) (h1 : (v.cells.toList.all Value.oneCell') = true) (hvc : v.cells.toList = [v])
    (hch : chainOf ops E o.guard = some ch) (hd : dstOk n ch o.dst = true) (hsure : chSure E ch = true)
    (hj : H[j]? = some g) (hO : Own et sz (.slice a len cap) g len cs) (hq : q < cs.length) (hcs : cs.set q v = cs')
    (k : ∀ g', Own et sz (.slice a len cap) g' len cs' → GL false P ops (i + 1) Q n (Env.put E o.dst ch undef) W0 (H.set j g')) : GL false P ops i Q n E W0 H := by
  obtain ⟨hl, ⟨he, rfl, hn⟩ | ⟨b, cap', junk, he, rfl, hc, hjk⟩⟩ := hO
  · rw [hn] at hl; simp at hl; rw [hl] at hq; simp at hq
  · injection he with e1 e2 e3
    subst e1 e3 hcs
    have hel : eltA (some ⟨b, 0, none⟩) q = ⟨b, q, none⟩ := by show Addr.add ⟨b, 0, none⟩ q = _; rw [addr_add, Nat.zero_add]
    rw [hel] at hx
    have hv1 : v.cells.size = 1 := by rw [← Array.length_toList, hvc]; rfl
    refine GL_store (b := b) (off := q) (v := v) (c := (cs ++ junk).toArray) (c' := ((cs.set q v) ++ junk).toArray) (e := et) (fz := (0, 0)) (j := j) (m := 0) ho hop hx hy hsz h1 hch hd hsure hj rfl (by rw [hv1, List.size_toArray, List.length_append]; omega) (fun _ _ => thaw0) ?_ rfl (k _ ⟨by rw [List.length_set]; exact hl, .inr ⟨b, cap, junk, rfl, rfl, hc, by rw [List.length_append, List.length_set, ← List.length_append]; exact hjk⟩⟩)
    rw [hvc]
    have e1 : cs ++ junk = cs.take q ++ [cs[q]] ++ (cs.drop (q + 1) ++ junk) := by
      rw [← List.append_assoc]
      congr 1
      rw [List.append_assoc, List.singleton_append, ← List.drop_eq_getElem_cons hq, List.take_append_drop]
    have e2 : cs.set q v ++ junk = cs.take q ++ [v] ++ (cs.drop (q + 1) ++ junk) := by
      rw [← List.append_assoc, List.set_eq_take_append_cons_drop, if_pos hq]
      simp
    have e3 : (cs.take q).length = q := by rw [List.length_take]; omega
    rw [e1, e2]
    have := setRow_mid [v] (cs.take q) (cs.drop (q + 1) ++ junk) [cs[q]] rfl
    rw [e3] at this
    exact this
end Go.Sw
namespace Go.Vf
open Go.Sw Go.RowKit
theorem cells2_set0 {α : Type} [Inhabited α] {f : α → Value × Value} : ∀ {l : List α} {i : Nat} {y : α}, (f y).2 = (f (l.getD i default)).2 → (cells2 f l).set (i * 2) (f y).1 = cells2 f (l.set i y)
  | [], i, y, _ => by simp [cells2]
  | x :: l, 0, y, h => by
    show [(f x).1, (f x).2].set 0 (f y).1 ++ _ = [(f y).1, (f y).2] ++ _
    rw [h]; rfl
  | x :: l, i + 1, y, h => by
    have e : (i + 1) * 2 = i * 2 + 1 + 1 := by omega
    rw [e]
    show (f x).1 :: (f x).2 :: ((cells2 f l).set (i * 2) (f y).1) = (f x).1 :: (f x).2 :: cells2 f (l.set i y)
    rw [cells2_set0 (by simpa using h)]
theorem cells2_set1 {α : Type} [Inhabited α] {f : α → Value × Value} : ∀ {l : List α} {i : Nat} {y : α}, (f y).1 = (f (l.getD i default)).1 → (cells2 f l).set (i * 2 + 1) (f y).2 = cells2 f (l.set i y)
  | [], i, y, _ => by simp [cells2]
  | x :: l, 0, y, h => by
    show [(f x).1, (f x).2].set 1 (f y).2 ++ _ = [(f y).1, (f y).2] ++ _
    rw [h]; rfl
  | x :: l, i + 1, y, h => by
    have e : (i + 1) * 2 + 1 = i * 2 + 1 + 1 + 1 := by omega
    rw [e]
    show (f x).1 :: (f x).2 :: ((cells2 f l).set (i * 2 + 1) (f y).2) = (f x).1 :: (f x).2 :: cells2 f (l.set i y)
    rw [cells2_set1 (by simpa using h)]
theorem bdC_len (l : List Body) : (bdC l).length = l.length * 2 := cells2_len _ l
theorem bdC_now {l : List Body} {i : Nat} {b : ByteArray} : (bdC l).set (i * 2) (.string b) = bdC (l.set i ⟨b, (l.getD i default).kept⟩) :=
  cells2_set0 (f := fun x : Body => (.string x.now, .string x.kept)) (y := ⟨b, (l.getD i default).kept⟩) rfl
theorem bdC_kept {l : List Body} {i : Nat} {b : ByteArray} : (bdC l).set (i * 2 + 1) (.string b) = bdC (l.set i ⟨(l.getD i default).now, b⟩) :=
  cells2_set1 (f := fun x : Body => (.string x.now, .string x.kept)) (y := ⟨(l.getD i default).now, b⟩) rfl
structure RS where
  bn : Nat
  ba : Option Addr
  bc : Nat
  bg : Grp
  nn : Nat
  na : Option Addr
  nc : Nat
  kn : Nat
  ka : Option Addr
  kc : Nat
  cn : Nat
  ca : Option Addr
  cc : Nat
  cg : Grp
  cs : List CR
  Z : List Grp
def rkO (M : DM) (s : RS) : Obj := .cells #[.int .i64 M.room, .slice s.ba s.bn s.bc, .slice s.na s.nn s.nc, .slice s.ka s.kn s.kc, .slice s.ca s.cn s.cc, .bool M.fails, .bool M.once, .int .i64 M.calls] 86 (0, 0)
def RS.G (s : RS) (x : Nat) (M : DM) : List Grp := [(x, rkO M s)] :: s.bg :: s.cg :: s.Z
structure Well (M : DM) : Prop where
  names : ∀ y ∈ M.names, 0 ≤ y.2 ∧ y.2.toNat < M.bodies.length
  kept : ∀ y ∈ M.kept, 0 ≤ y.2 ∧ y.2.toNat < M.bodies.length
  chs : ∀ c ∈ M.changes, ∀ y ∈ c.l, 0 ≤ y.2 → y.2.toNat < M.bodies.length
  pre : ∀ B ∈ M.bodies, B.kept.size ≤ B.now.size ∧ B.kept = B.now.extract 0 B.kept.size
structure CRok (Z : List Grp) (c : CR) (C : Ch) : Prop where
  dir : c.dir = C.dir
  l : c.l = C.l
  rd : Rd (inZ Z) c.a (nmC c.l)
structure RS.ok (s : RS) (M : DM) : Prop where
  bn : s.bn = M.bodies.length
  own : Own 92 2 (.slice s.ba s.bn s.bc) s.bg s.bn (bdC M.bodies)
  nn : s.nn = M.names.length
  names : Rd (inZ s.Z) s.na (nmC M.names)
  kn : s.kn = M.kept.length
  kept : Rd (inZ s.Z) s.ka (nmC M.kept)
  cn : s.cn = s.cs.length
  own2 : Own 104 2 (.slice s.ca s.cn s.cc) s.cg s.cn (chC s.cs)
  chs : All2 (CRok s.Z) s.cs M.changes
  well : Well M
structure SmallR (M : DM) : Prop where
  small : Small M
  kept : M.kept.length + addsC M.changes ≤ 10000
  chs : ∀ c ∈ M.changes, c.l.length ≤ 2
def IsR (x : Nat) (M : DM) (v0 : Value) (H : List Grp) : Value → List Grp → Prop := fun v H' => v = v0 ∧ ∃ s : RS, s.ok M ∧ H' = s.G x M ++ H
theorem at_inZ {W0 : World} {Z H : List Grp} {y : Nat} {o : Obj} (h : inZ Z y o) : At W0 (Z ++ H) y o := .inr (by rw [List.flatten_append]; exact List.mem_append_left _ h)
theorem inZ_cons {g : Grp} {Z : List Grp} {y : Nat} {o : Obj} (h : inZ Z y o) : inZ (g :: Z) y o := inZ_app (K := [g]) h
theorem inZ_hd {g : Grp} {Z : List Grp} {y : Nat} {o : Obj} (h : inG g y o) : inZ (g :: Z) y o := by
  show (y, o) ∈ (g :: Z).flatten
  rw [List.flatten_cons]; exact List.mem_append_left _ h
theorem CRok.mono {Z Z2 : List Grp} (hz : ∀ y o, inZ Z y o → inZ Z2 y o) {c : CR} {C : Ch} (h : CRok Z c C) : CRok Z2 c C := ⟨h.dir, h.l, h.rd.mono hz⟩
theorem ok_rcall {s : RS} {M : DM} (h : s.ok M) (r : Bool) : s.ok (callM M r) := ⟨h.bn, h.own, h.nn, h.names, h.kn, h.kept, h.cn, h.own2, h.chs, ⟨h.well.names, h.well.kept, h.well.chs, h.well.pre⟩⟩
theorem chC_app (l r : List CR) : chC (l ++ r) = chC l ++ chC r := cells2_app _ _ _
theorem mem_applyW {n : Nat} {c l : List Nm} (h : ∀ y ∈ l, 0 ≤ y.2 ∧ y.2.toNat < n) (hc : ∀ y ∈ c, 0 ≤ y.2 → y.2.toNat < n) : ∀ y ∈ applyN l c, 0 ≤ y.2 ∧ y.2.toNat < n := fun y hy => by
  rcases mem_apply hy with h1 | ⟨h1, h2⟩
  · exact h y h1
  · exact ⟨h2, hc y h1 h2⟩
theorem ok_rchange {s : RS} {M : DM} (h : s.ok M) {dir : ByteArray} {l nl : List Nm} {la na ca : Option Addr} {lc nc cc : Nat} {cg : Grp} {Z2 : List Grp} (hZ : ∀ y o, inZ s.Z y o → inZ Z2 y o) (hl : Rd (inZ s.Z) la (nmC l)) (hnl : nl = applyN M.names l) (hn : Rd (inZ Z2) na (nmC nl))
    (hc : Own 104 2 (.slice ca (s.cn + 1) cc) cg (s.cn + 1) (chC s.cs ++ [.string dir, .slice la l.length lc])) (hix : ∀ y ∈ l, 0 ≤ y.2 → y.2.toNat < M.bodies.length) :
    RS.ok { s with nn := nl.length, na := na, nc := nc, cn := s.cn + 1, ca := ca, cc := cc, cg := cg, cs := s.cs ++ [⟨dir, l, la, lc⟩], Z := Z2 } (changeM M dir l) := by
  subst hnl
  refine ⟨h.bn, h.own, rfl, hn, h.kn, h.kept.mono hZ, by show s.cn + 1 = (s.cs ++ [_]).length; rw [List.length_append, h.cn]; rfl, by rw [chC_app]; exact hc, ?_, ?_⟩
  · exact (h.chs.imp fun _ _ hc => hc.mono hZ).app (.cons ⟨rfl, rfl, hl.mono hZ⟩ .nil)
  · refine ⟨mem_applyW h.well.names hix, h.well.kept, fun c hc => ?_, h.well.pre⟩
    rcases List.mem_append.1 (show c ∈ M.changes ++ [⟨dir, l⟩] from hc) with hc | hc
    · exact h.well.chs c hc
    · rw [List.mem_singleton.1 hc]; exact hix
theorem apply_snoc {l c : List Nm} {k : Nat} (hk : k < c.length) : applyN l (c.take (k + 1)) = withN (applyN l (c.take k)) (c.getD k default) := by
  unfold applyN
  rw [take_snoc (d := default) hk, List.foldl_append]; rfl
theorem nmC_ne {l : List Nm} {i : Nat} (h : i < l.length) : nmC l ≠ [] := cells2_ne h
theorem bdC_ne {l : List Body} {i : Nat} (h : i < l.length) : bdC l ≠ [] := cells2_ne h
theorem chC_ne {l : List CR} {i : Nat} (h : i < l.length) : chC l ≠ [] := cells2_ne h
def usedK (M : DM) (k : Nat) : Nat := ((M.names.take k).map fun x => sizeAt M x.2).sum
theorem usedK_succ {M : DM} {k : Nat} (h : k < M.names.length) : usedK M (k + 1) = usedK M k + sizeAt M (M.names.getD k default).2 := by
  unfold usedK
  rw [take_snoc (d := default) h, List.map_append, List.sum_append]; simp
theorem usedK_all {M : DM} {k : Nat} (h : M.names.length ≤ k) : usedK M k = usedM M := by unfold usedK usedM; rw [List.take_of_length_le h]
theorem usedK_le (M : DM) (k : Nat) : usedK M k ≤ usedM M := by
  unfold usedK usedM
  generalize M.names = l
  induction l generalizing k with
  | nil => simp
  | cons x l ih =>
    cases k with
    | zero => simp
    | succ k => rw [List.take_succ_cons, List.map_cons, List.map_cons, List.sum_cons, List.sum_cons]; have := ih k; omega
theorem bdC_at0 {l : List Body} {i : Nat} (h : i < l.length) : (bdC l)[i * 2]? = some (.string (l.getD i default).now) := cells2_at0 (f := fun x : Body => (.string x.now, .string x.kept)) h
theorem bdC_at1 {l : List Body} {i : Nat} (h : i < l.length) : (bdC l)[i * 2 + 1]? = some (.string (l.getD i default).kept) := cells2_at1 (f := fun x : Body => (.string x.now, .string x.kept)) h
theorem getD_memG {α : Type} [Inhabited α] {l : List α} {i : Nat} (h : i < l.length) : l.getD i default ∈ l := by
  rw [List.getD_eq_getElem?_getD, List.getElem?_eq_getElem h]; exact List.getElem_mem h
theorem with_le (l : List Nm) (x : Nm) : (withN l x).length ≤ l.length + 1 := by
  unfold withN
  rw [List.length_append]
  have := List.length_filter_le (fun n : Nm => !(x.1 == n.1)) l
  split <;> simp <;> omega
theorem atR_some {l : List Nm} {p : ByteArray} (h : 0 ≤ atR l p) : lookN l p = some (atR l p) := by
  unfold atR at h ⊢
  cases hl : lookN l p with
  | none => rw [hl] at h; exact absurd h (by decide)
  | some k => rfl
theorem atR_no {l : List Nm} {p : ByteArray} (hl : ∀ y ∈ l, 0 ≤ y.2) (h : atR l p < 0) : lookN l p = none := by
  unfold atR at h
  cases hk : lookN l p with
  | none => rfl
  | some k =>
    rw [hk] at h
    exact absurd (hl _ (lookN_mem hk)) (by show ¬ (0 ≤ k); have : k < 0 := h; omega)
theorem ok_at {M : DM} (h : Well M) {p : ByteArray} (hk : 0 ≤ atR M.names p) : (atR M.names p).toNat < M.bodies.length := (h.names _ (lookN_mem (atR_some hk))).2
theorem smallR_call {M : DM} (h : SmallR M) (r : Bool) (hc : -9223372036854775808 ≤ (callM M r).calls ∧ (callM M r).calls ≤ 9223372036854775807) : SmallR (callM M r) :=
  ⟨⟨h.small.bodies, h.small.size, h.small.names, h.small.changes, hc, h.small.paths, h.small.dirs⟩, h.kept, h.chs⟩
theorem callS_rng {f o r : Bool} {c : Int} (hc : -9223372036854775808 ≤ c ∧ c ≤ 9223372036854775807) : -9223372036854775808 ≤ (callS f o c r).2.2 ∧ (callS f o c r).2.2 ≤ 9223372036854775807 := by
  unfold callS
  split
  · exact hc
  · split
    · exact hc
    · split
      · show -9223372036854775808 ≤ c - 1 ∧ c - 1 ≤ 9223372036854775807; omega
      · exact hc
theorem smallR_callM {M : DM} (h : SmallR M) (r : Bool) : SmallR (callM M r) := smallR_call h r (callS_rng h.small.calls)
theorem ok_rZ {s : RS} {M : DM} (h : s.ok M) (g : Grp) : RS.ok { s with Z := g :: s.Z } M :=
  ⟨h.bn, h.own, h.nn, h.names.mono fun _ _ h => inZ_cons h, h.kn, h.kept.mono fun _ _ h => inZ_cons h, h.cn, h.own2, h.chs.imp fun _ _ hc => hc.mono fun _ _ h => inZ_cons h, h.well⟩
theorem bdC_app (l r : List Body) : bdC (l ++ r) = bdC l ++ bdC r := cells2_app _ _ _
theorem ok_rbody {s : RS} {M : DM} (h : s.ok M) {b : ByteArray} {a : Option Addr} {c : Nat} {g : Grp} (hO : Own 92 2 (.slice a (s.bn + 1) c) g (s.bn + 1) (bdC M.bodies ++ [.string b, .string (ByteArray.mk #[])])) :
    RS.ok { s with bn := s.bn + 1, ba := a, bc := c, bg := g } { M with bodies := M.bodies ++ [⟨b, ByteArray.mk #[]⟩] } := by
  have hl : (M.bodies ++ [(⟨b, ByteArray.mk #[]⟩ : Body)]).length = M.bodies.length + 1 := by simp
  refine ⟨by show s.bn + 1 = _; rw [hl, h.bn], by rw [bdC_app]; exact hO, h.nn, h.names, h.kn, h.kept, h.cn, h.own2, h.chs, ⟨fun y hy => ?_, fun y hy => ?_, fun c hc y hy h0 => ?_, fun B hB => ?_⟩⟩
  · have := h.well.names y hy; show 0 ≤ y.2 ∧ y.2.toNat < (M.bodies ++ [_]).length; rw [hl]; omega
  · have := h.well.kept y hy; show 0 ≤ y.2 ∧ y.2.toNat < (M.bodies ++ [_]).length; rw [hl]; omega
  · have := h.well.chs c hc y hy h0; show y.2.toNat < (M.bodies ++ [_]).length; rw [hl]; omega
  · rcases List.mem_append.1 (show B ∈ M.bodies ++ [_] from hB) with hB | hB
    · exact h.well.pre B hB
    · rw [List.mem_singleton.1 hB]; exact ⟨Nat.zero_le _, by show ByteArray.mk #[] = b.extract 0 0; simp; rfl⟩
theorem ok_rset {s : RS} {M : DM} (h : s.ok M) {k : Int} {B : Body} {g : Grp} (hO : Own 92 2 (.slice s.ba s.bn s.bc) g s.bn (bdC (M.bodies.set k.toNat B))) (hB : B.kept.size ≤ B.now.size ∧ B.kept = B.now.extract 0 B.kept.size) :
    RS.ok { s with bg := g } (setBody M k B) := by
  have hl : (M.bodies.set k.toNat B).length = M.bodies.length := List.length_set
  refine ⟨by show s.bn = _; rw [h.bn]; exact hl.symm, hO, h.nn, h.names, h.kn, h.kept, h.cn, h.own2, h.chs, ⟨fun y hy => ?_, fun y hy => ?_, fun c hc y hy h0 => ?_, fun X hX => ?_⟩⟩
  · show 0 ≤ y.2 ∧ y.2.toNat < (M.bodies.set _ _).length; rw [hl]; exact h.well.names y hy
  · show 0 ≤ y.2 ∧ y.2.toNat < (M.bodies.set _ _).length; rw [hl]; exact h.well.kept y hy
  · show y.2.toNat < (M.bodies.set _ _).length; rw [hl]; exact h.well.chs c hc y hy h0
  · rcases List.mem_or_eq_of_mem_set (show X ∈ M.bodies.set k.toNat B from hX) with hX | rfl
    · exact h.well.pre X hX
    · exact hB
theorem pre_at {M : DM} (h : Well M) (k : Int) : (bodyAt M k).kept.size ≤ (bodyAt M k).now.size ∧ (bodyAt M k).kept = (bodyAt M k).now.extract 0 (bodyAt M k).kept.size := by
  unfold bodyAt
  rw [List.getD_eq_getElem?_getD]
  by_cases hk : k.toNat < M.bodies.length
  · rw [List.getElem?_eq_getElem hk]; exact h.pre _ (List.getElem_mem hk)
  · rw [List.getElem?_eq_none (by omega)]; exact ⟨Nat.le_refl _, rfl⟩
theorem pre_app {x k b : ByteArray} (h : k.size ≤ x.size ∧ k = x.extract 0 k.size) : k.size ≤ (x ++ b).size ∧ k = (x ++ b).extract 0 k.size := by
  refine ⟨by rw [ByteArray.size_append]; omega, ?_⟩
  refine h.2.trans ?_
  apply ByteArray.ext
  apply Array.ext'
  simp only [ByteArray.data_extract, ByteArray.data_append, Array.toList_extract, Array.toList_append]
  rw [List.extract_eq_take_drop, List.extract_eq_take_drop, List.drop_zero, List.drop_zero, Array.toList_append, List.take_append_of_le_length]
  have := h.1
  show k.size - 0 ≤ x.data.toList.length
  rw [Array.length_toList]
  exact this
theorem pre_same (x : ByteArray) : x.size ≤ x.size ∧ x = x.extract 0 x.size := ⟨Nat.le_refl _, by simp⟩
theorem was_le {M : DM} (hm : Small M) (p : ByteArray) : wasM M p ≤ 10000000 := by
  unfold wasM
  split
  · exact Nat.zero_le _
  · rename_i k _
    unfold sizeAt bodyAt
    rw [List.getD_eq_getElem?_getD]
    by_cases hk : k.toNat < M.bodies.length
    · rw [List.getElem?_eq_getElem hk]; exact (hm.size _ (List.getElem_mem hk)).1
    · rw [List.getElem?_eq_none (by omega)]; exact Nat.zero_le _
end Go.Vf
namespace Go.Proofs.Ytbmieiffboenbaa
open Go.Sw Go.Lib Go.Vf Go.RowKit
theorem rCall (x : Nat) (room calls : Int) (v1 v2 v3 v4 : Value) (fails once right : Bool) (hc : -9223372036854775808 ≤ calls ∧ calls ≤ 9223372036854775807) (W0 : World) (H : List Grp) : Tri Try.prog 63 #[pt x, .bool right] W0 ([(x, .cells #[.int .i64 room, v1, v2, v3, v4, .bool fails, .bool once, .int .i64 calls] 86 (0, 0))] :: H) (fun v H' => v = .int .i64 (callS fails once calls right).1 ∧ H' = ([(x, .cells #[.int .i64 room, v1, v2, v3, v4, .bool ((callS fails once calls right).2.1), .bool once, .int .i64 ((callS fails once calls right).2.2)] 86 (0, 0))] :: H)) := by
  refine Tri_of (args := [pt x, .bool right]) (n := 31) Try.func63 rfl rfl (Nat.le_of_ble_eq_true rfl) ?_
  refine G_seq ?_
  refine G_pure (E' := [⟨0, [], pt x⟩, ⟨1, [], .bool right⟩]) [0] [0, 1] rfl (by kernel_rfl) ?_
  refine N_then ?_
  refine G_seq ?_
  refine G_seq ?_
  refine G_pure (E' := [⟨0, [], pt x⟩, ⟨6, [], .bool (!right)⟩]) [0, 0] [0, 6] rfl (by kernel_rfl) ?_
  refine N_then ?_
  refine G_cond (b := !right) (by kernel_rfl) (fun hc1 => ?_) (fun hc1 => ?_)
  ·
    have hr := hc1
    refine G_seq ?_
    refine G_pure (E' := [⟨4, [], .int .i64 2⟩]) [0] [4] rfl (by kernel_rfl) ?_
    refine N_then ?_
    refine G_ret ?_
    refine N_then_ret ?_
    refine N_ret [.tmp 4] [.int .i64 2] rfl (by kernel_rfl) rfl ?_
    rw [callS_arg (by simpa using hr)]
    exact ⟨rfl, rfl⟩
  ·
    have hr := hc1
    refine G_skip ?_
    refine N_then ?_
    refine G_seq ?_
    refine G_seq ?_
    refine G_region ?_
    refine GL_pure (E' := [⟨9, [], .pointer (some ⟨x, 5, none⟩)⟩, ⟨0, [], pt x⟩]) [0, 0, 0] (by kernel_rfl) (j := 3) rfl ?_
    refine GL_load (i := 3) (ch := []) (b := x) (off := 5) (v := .bool fails) rfl rfl (by kernel_rfl) (by kernel_rfl) (by kernel_rfl) (by kernel_rfl) (by kernel_rfl) (At.grp 0 0 rfl rfl) rfl ?_
    refine GL_fin (E' := [⟨0, [], pt x⟩, ⟨11, [], .bool (!fails)⟩]) [0] [0, 11] rfl (by kernel_rfl) ?_
    refine N_then ?_
    refine G_cond (b := !fails) (by kernel_rfl) (fun hc2 => ?_) (fun hc2 => ?_)
    ·
      have hf := hc2
      refine G_seq ?_
      refine G_pure (E' := [⟨4, [], .int .i64 0⟩]) [0] [4] rfl (by kernel_rfl) ?_
      refine N_then ?_
      refine G_ret ?_
      refine N_then_ret ?_
      refine N_ret [.tmp 4] [.int .i64 0] rfl (by kernel_rfl) rfl ?_
      rw [callS_ok (by simpa using hr) (by simpa using hf)]
      exact ⟨rfl, rfl⟩
    ·
      have hf := hc2
      refine G_skip ?_
      refine N_then ?_
      refine G_seq ?_
      refine G_seq ?_
      refine G_region ?_
      refine GL_pure (E' := [⟨14, [], .pointer (some ⟨x, 7, none⟩)⟩, ⟨0, [], pt x⟩]) [0, 0, 0] (by kernel_rfl) (j := 3) rfl ?_
      refine GL_load (i := 3) (ch := []) (b := x) (off := 7) (v := .int .i64 calls) rfl rfl (by kernel_rfl) (by kernel_rfl) (by kernel_rfl) (by kernel_rfl) (by kernel_rfl) (At.grp 0 0 rfl rfl) rfl ?_
      refine GL_fin (E' := [⟨0, [], pt x⟩, ⟨16, [], .bool (decide (calls > 0))⟩]) [0] [0, 16] rfl (by kernel_rfl) ?_
      refine N_then ?_
      refine G_cond (b := decide (calls > 0)) (by kernel_rfl) (fun hc3 => ?_) (fun hc3 => ?_)
      ·
        have hp := of_decide_eq_true hc3
        replace hc3 := hp
        refine G_seq ?_
        refine G_region ?_
        refine GL_pure (E' := [⟨19, [], .pointer (some ⟨x, 7, none⟩)⟩, ⟨17, [], pt x⟩]) [0, 0, 0] (by kernel_rfl) (j := 3) rfl ?_
        refine GL_load (i := 3) (ch := []) (b := x) (off := 7) (v := .int .i64 calls) rfl rfl (by kernel_rfl) (by kernel_rfl) (by kernel_rfl) (by kernel_rfl) (by kernel_rfl) (At.grp 0 0 rfl rfl) rfl ?_
        have hw4 : IntKind.wrap .i64 (calls - 1) = calls - 1 := w64 (by omega) (by omega)
        refine GL_pure (E' := [⟨23, [], .pointer (some ⟨x, 7, none⟩)⟩, ⟨21, [], .int .i64 (calls - 1)⟩]) [0, 0, 0] (Eq.trans (b := some [⟨23, [], .pointer (some ⟨x, 7, none⟩)⟩, ⟨21, [], .int .i64 (IntKind.wrap .i64 (calls - 1))⟩]) (by kernel_rfl) (by simp only [hw4])) (j := 7) rfl ?_
        refine GL_store (i := 7) (ch := []) (b := x) (off := 7) (v := .int .i64 (calls - 1)) (c := #[.int .i64 room, v1, v2, v3, v4, .bool fails, .bool once, .int .i64 calls]) (c' := #[.int .i64 room, v1, v2, v3, v4, .bool fails, .bool once, .int .i64 (calls - 1)]) (j := 0) (m := 0) (H' := ([(x, .cells #[.int .i64 room, v1, v2, v3, v4, .bool fails, .bool once, .int .i64 (calls - 1)] 86 (0, 0))] :: H)) rfl rfl (by kernel_rfl) (by kernel_rfl) (by kernel_rfl) (by kernel_rfl) (by kernel_rfl) (by kernel_rfl) (by kernel_rfl) rfl rfl (Nat.le_of_ble_eq_true rfl) (fun _ _ => thaw0) (by kernel_rfl) (by kernel_rfl) ?_
        refine GL_fin (E' := []) [] [] rfl (by kernel_rfl) ?_
        refine N_then ?_
        refine G_seq ?_
        refine G_pure (E' := [⟨4, [], .int .i64 0⟩]) [0] [4] rfl (by kernel_rfl) ?_
        refine N_then ?_
        refine G_ret ?_
        refine N_then_ret ?_
        refine N_ret [.tmp 4] [.int .i64 0] rfl (by kernel_rfl) rfl ?_
        rw [callS_dec (by simpa using hr) (by simpa using hf) (decide_eq_true hp)]
        exact ⟨rfl, rfl⟩
      ·
        have hp := of_decide_eq_false hc3
        replace hc3 := hp
        refine G_skip ?_
        refine N_then ?_
        refine G_seq ?_
        refine G_seq ?_
        refine G_region ?_
        refine GL_pure (E' := [⟨26, [], .pointer (some ⟨x, 6, none⟩)⟩, ⟨0, [], pt x⟩]) [0, 0, 0] (by kernel_rfl) (j := 3) rfl ?_
        refine GL_load (i := 3) (ch := []) (b := x) (off := 6) (v := .bool once) rfl rfl (by kernel_rfl) (by kernel_rfl) (by kernel_rfl) (by kernel_rfl) (by kernel_rfl) (At.grp 0 0 rfl rfl) rfl ?_
        refine GL_fin (E' := [⟨0, [], pt x⟩, ⟨27, [], .bool once⟩]) [] [0, 27] rfl (by kernel_rfl) ?_
        refine N_then ?_
        refine G_cond (b := once) (by kernel_rfl) (fun hc5 => ?_) (fun hc5 => ?_)
        ·
          have ho := hc5
          refine G_region ?_
          refine GL_pure (E' := [⟨30, [], .pointer (some ⟨x, 5, none⟩)⟩]) [0, 0, 0] (by kernel_rfl) (j := 3) rfl ?_
          refine GL_store (i := 3) (ch := []) (b := x) (off := 5) (v := .bool false) (c := #[.int .i64 room, v1, v2, v3, v4, .bool fails, .bool once, .int .i64 calls]) (c' := #[.int .i64 room, v1, v2, v3, v4, .bool false, .bool once, .int .i64 calls]) (j := 0) (m := 0) (H' := ([(x, .cells #[.int .i64 room, v1, v2, v3, v4, .bool false, .bool once, .int .i64 calls] 86 (0, 0))] :: H)) rfl rfl (by kernel_rfl) (by kernel_rfl) (by kernel_rfl) (by kernel_rfl) (by kernel_rfl) (by kernel_rfl) (by kernel_rfl) rfl rfl (Nat.le_of_ble_eq_true rfl) (fun _ _ => thaw0) (by kernel_rfl) (by kernel_rfl) ?_
          refine GL_fin (E' := []) [] [] rfl (by kernel_rfl) ?_
          refine N_then ?_
          refine G_seq ?_
          refine G_pure (E' := [⟨4, [], .int .i64 62⟩]) [0] [4] rfl (by kernel_rfl) ?_
          refine N_then ?_
          refine G_ret ?_
          refine N_ret [.tmp 4] [.int .i64 62] rfl (by kernel_rfl) rfl ?_
          obtain rfl : once = true := ho
          rw [callS_no (by simpa using hr) (by simpa using hf) (decide_eq_false hp)]
          exact ⟨rfl, rfl⟩
        ·
          have ho := hc5
          refine G_skip ?_
          refine N_then ?_
          refine G_seq ?_
          refine G_pure (E' := [⟨4, [], .int .i64 62⟩]) [0] [4] rfl (by kernel_rfl) ?_
          refine N_then ?_
          refine G_ret ?_
          refine N_ret [.tmp 4] [.int .i64 62] rfl (by kernel_rfl) rfl ?_
          obtain rfl : once = false := ho
          obtain rfl : fails = true := by simpa using hf
          rw [callS_no (by simpa using hr) (by simp) (decide_eq_false hp)]
          exact ⟨rfl, rfl⟩
theorem rUsed (x : Nat) (s : RS) (M : DM) (h : s.ok M) (hm : SmallR M) (W0 : World) (H : List Grp) : Tri Try.prog 27 #[pt x] W0 ([(x, .cells #[.int .i64 M.room, .slice s.ba s.bn s.bc, .slice s.na s.nn s.nc, .slice s.ka s.kn s.kc, .slice s.ca s.cn s.cc, .bool M.fails, .bool M.once, .int .i64 M.calls] 86 (0, 0))] :: s.bg :: s.cg :: (s.Z ++ H)) (fun v H' => v = .int .i64 ((usedM M : Nat) : Int) ∧ H' = s.G x M ++ H) := by
  have hnn := h.nn
  have hbn := h.bn
  have hkn := h.kn
  have hcn := h.cn
  have hch := h.chs.len
  have hus := used_le hm.small fun x hx => (h.well.names x hx).2
  have hsn := hm.small.names
  have hsb := hm.small.bodies
  have hsc := hm.small.changes
  have hskn : M.kept.length ≤ 10000 := Nat.le_trans (Nat.le_add_right _ _) hm.kept
  have hsca := hm.small.calls
  refine Tri_of (args := [pt x]) (n := 29) Try.func27 rfl rfl (Nat.le_of_ble_eq_true rfl) ?_
  refine G_seq ?_
  refine G_pure (E' := [⟨0, [], pt x⟩]) [0] [0] rfl (by kernel_rfl) ?_
  refine N_then ?_
  refine G_seq ?_
  refine G_pure (E' := [⟨0, [], pt x⟩, ⟨3, [], .int .i64 0⟩]) [0] [0, 3] rfl (by kernel_rfl) ?_
  refine N_then ?_
  refine G_seq ?_
  refine G_seq ?_
  refine G_region ?_
  refine GL_pure (E' := [⟨8, [], .pointer (some ⟨x, 2, none⟩)⟩, ⟨0, [], pt x⟩, ⟨3, [], .int .i64 0⟩]) [0, 0, 0] (by kernel_rfl) (j := 3) rfl ?_
  refine GL_load (i := 3) (ch := []) (b := x) (off := 2) (v := .slice s.na s.nn s.nc) rfl rfl (by kernel_rfl) (by kernel_rfl) (by kernel_rfl) (by kernel_rfl) (by kernel_rfl) (At.grp 0 0 rfl rfl) rfl ?_
  refine GL_fin (E' := [⟨0, [], pt x⟩, ⟨3, [], .int .i64 0⟩, ⟨9, [], .slice s.na s.nn s.nc⟩, ⟨10, [], .int .i64 ((s.nn : Nat) : Int)⟩, ⟨11, [], .int .i64 0⟩]) [0, 0] [0, 3, 9, 10, 11] rfl (by kernel_rfl) ?_
  refine N_then ?_
  refine G_block ?_
  refine G_loop (EI := (fun ξ : Nat => [⟨0, [], pt x⟩, ⟨3, [], .int .i64 ((usedK M ξ : Nat) : Int)⟩, ⟨9, [], .slice s.na s.nn s.nc⟩, ⟨10, [], .int .i64 ((s.nn : Nat) : Int)⟩, ⟨11, [], .int .i64 ((ξ : Nat) : Int)⟩])) (HI := (fun ξ : Nat => ([(x, .cells #[.int .i64 M.room, .slice s.ba s.bn s.bc, .slice s.na s.nn s.nc, .slice s.ka s.kn s.kc, .slice s.ca s.cn s.cc, .bool M.fails, .bool M.once, .int .i64 M.calls] 86 (0, 0))] :: s.bg :: s.cg :: (s.Z ++ H)))) (Φ := (fun ξ : Nat => (ξ ≤ M.names.length))) (μ := (fun ξ : Nat => M.names.length - ξ)) (s0 := (0)) [0, 3, 9, 10, 11] (by kernel_rfl) rfl (by omega) ?_
  rintro k hk
  replace hk : k ≤ M.names.length := hk
  refine G_seq ?_
  refine G_pure (E' := [⟨0, [], pt x⟩, ⟨3, [], .int .i64 ((usedK M k : Nat) : Int)⟩, ⟨9, [], .slice s.na s.nn s.nc⟩, ⟨10, [], .int .i64 ((s.nn : Nat) : Int)⟩, ⟨11, [], .int .i64 ((k : Nat) : Int)⟩, ⟨12, [], .bool (decide (((k : Nat) : Int) < ((s.nn : Nat) : Int)))⟩]) [0] [0, 3, 9, 10, 11, 12] rfl (by kernel_rfl) ?_
  refine N_then ?_
  refine G_seq ?_
  refine G_cond (b := decide (((k : Nat) : Int) < ((s.nn : Nat) : Int))) (by kernel_rfl) (fun hc1 => ?_) (fun hc1 => ?_)
  ·
    replace hc1 := of_decide_eq_true hc1
    have hks := usedK_succ (M := M) (k := k) (by omega)
    have hkl := usedK_le M (k + 1)
    obtain ⟨hi0, hi1⟩ := h.well.names _ (getD_memG (l := M.names) (i := k) (by omega))
    have hsz : sizeAt M (M.names.getD k default).2 = (M.bodies.getD (Int.toNat (M.names.getD k default).2) default).now.size := rfl
    rw [hsz] at hks
    refine G_skip ?_
    refine N_then ?_
    refine G_seq ?_
    refine G_block ?_
    refine G_seq ?_
    refine G_region ?_
    refine GL_indexAddr (i := 0) (ch := []) (a := s.na) (len := s.nn) (cap := s.nc) (kd := .i64) (j := ((k : Nat) : Int)) (e := 94) (sz := 2) (S := (inZ s.Z)) (cs := (nmC M.names)) rfl rfl (by kernel_rfl) (by kernel_rfl) (by kernel_rfl) (by kernel_rfl) (by kernel_rfl) (by kernel_rfl) (by kernel_rfl) h.names (fun _ => by exact ⟨by omega, by omega, nmC_ne (i := k) (by omega)⟩) ?_
    refine GL_loadSA (i := 1) (ch := []) (a := s.na) (q := k * 2) (S := (inZ s.Z)) (cs := (nmC M.names)) (l := [.string ((M.names.getD k default).1), .int .i64 ((M.names.getD k default).2)]) rfl rfl (by kernel_rfl) (by kernel_rfl) (by kernel_rfl) (by kernel_rfl) (by kernel_rfl) (by kernel_rfl) h.names (fun y o h => (At.cons (At.cons (At.cons (at_inZ h))))) (List.cons_ne_nil _ _) (fun _ => (fun m hm => (cells2_at (by omega) m hm).trans (List.getElem?_eq_getElem hm))) ?_
    refine GL_alloc (i := 2) (ch := []) (z := .agg #[.string (ByteArray.mk #[]), .int .i64 0]) rfl rfl (by kernel_rfl) (by kernel_rfl) (by kernel_rfl) (by kernel_rfl) (fun b2 => ?_)
    refine GL_store (i := 3) (ch := []) (b := b2) (off := 0) (v := .agg #[.string ((M.names.getD k default).1), .int .i64 ((M.names.getD k default).2)]) (c := #[.string (ByteArray.mk #[]), .int .i64 0]) (c' := #[.string ((M.names.getD k default).1), .int .i64 ((M.names.getD k default).2)]) (j := 0) (m := 0) (H' := ([(b2, .cells #[.string ((M.names.getD k default).1), .int .i64 ((M.names.getD k default).2)] 94 (0, 0))] :: [(x, .cells #[.int .i64 M.room, .slice s.ba s.bn s.bc, .slice s.na s.nn s.nc, .slice s.ka s.kn s.kc, .slice s.ca s.cn s.cc, .bool M.fails, .bool M.once, .int .i64 M.calls] 86 (0, 0))] :: s.bg :: s.cg :: (s.Z ++ H))) rfl rfl (by kernel_rfl) (by kernel_rfl) (by kernel_rfl) (by kernel_rfl) (by kernel_rfl) (by kernel_rfl) (by kernel_rfl) rfl rfl (Nat.le_of_ble_eq_true rfl) (fun _ _ => thaw0) (by kernel_rfl) (by kernel_rfl) ?_
    refine GL_fin (E' := [⟨0, [], pt x⟩, ⟨3, [], .int .i64 ((usedK M k : Nat) : Int)⟩, ⟨5, [], pt b2⟩, ⟨9, [], .slice s.na s.nn s.nc⟩, ⟨10, [], .int .i64 ((s.nn : Nat) : Int)⟩, ⟨11, [], .int .i64 ((k : Nat) : Int)⟩]) [] [0, 3, 5, 9, 10, 11] rfl (by kernel_rfl) ?_
    refine N_then ?_
    refine G_regionD (by kernel_rfl) (by kernel_rfl) ?_
    refine GL_pure (E' := [⟨18, [], .pointer (some ⟨x, 1, none⟩)⟩, ⟨15, [], .int .i64 ((usedK M k : Nat) : Int)⟩, ⟨0, [], pt x⟩, ⟨3, [], .int .i64 ((usedK M k : Nat) : Int)⟩, ⟨5, [], pt b2⟩, ⟨9, [], .slice s.na s.nn s.nc⟩, ⟨10, [], .int .i64 ((s.nn : Nat) : Int)⟩, ⟨11, [], .int .i64 ((k : Nat) : Int)⟩]) [0, 0, 0, 0] (by kernel_rfl) (j := 4) rfl ?_
    refine GL_load (i := 4) (ch := []) (b := x) (off := 1) (v := .slice s.ba s.bn s.bc) rfl rfl (by kernel_rfl) (by kernel_rfl) (by kernel_rfl) (by kernel_rfl) (by kernel_rfl) (At.grp 1 0 rfl rfl) rfl ?_
    refine GL_pure (E' := [⟨20, [], .pointer (some ⟨b2, 1, none⟩)⟩, ⟨19, [], .slice s.ba s.bn s.bc⟩, ⟨15, [], .int .i64 ((usedK M k : Nat) : Int)⟩, ⟨0, [], pt x⟩, ⟨3, [], .int .i64 ((usedK M k : Nat) : Int)⟩, ⟨9, [], .slice s.na s.nn s.nc⟩, ⟨10, [], .int .i64 ((s.nn : Nat) : Int)⟩, ⟨11, [], .int .i64 ((k : Nat) : Int)⟩]) [0] (by kernel_rfl) (j := 6) rfl ?_
    refine GL_load (i := 6) (ch := []) (b := b2) (off := 1) (v := .int .i64 ((M.names.getD k default).2)) rfl rfl (by kernel_rfl) (by kernel_rfl) (by kernel_rfl) (by kernel_rfl) (by kernel_rfl) (At.grp 0 0 rfl rfl) rfl ?_
    refine GL_indexAddr (i := 7) (ch := []) (a := s.ba) (len := s.bn) (cap := s.bc) (kd := .i64) (j := (M.names.getD k default).2) (e := 92) (sz := 2) (S := (inG s.bg)) (cs := (bdC M.bodies)) rfl rfl (by kernel_rfl) (by kernel_rfl) (by kernel_rfl) (by kernel_rfl) (by kernel_rfl) (by kernel_rfl) (by kernel_rfl) (own_rd h.own) (fun _ => by exact ⟨by omega, by omega, bdC_ne hi1⟩) ?_
    refine GL_pure (E' := [⟨23, [], .pointer (some (eltA s.ba ((Int.toNat ((M.names.getD k default).2)) * 2)))⟩, ⟨15, [], .int .i64 ((usedK M k : Nat) : Int)⟩, ⟨0, [], pt x⟩, ⟨3, [], .int .i64 ((usedK M k : Nat) : Int)⟩, ⟨9, [], .slice s.na s.nn s.nc⟩, ⟨10, [], .int .i64 ((s.nn : Nat) : Int)⟩, ⟨11, [], .int .i64 ((k : Nat) : Int)⟩]) [0] (by kernel_rfl) (j := 9) rfl ?_
    refine GL_loadS (i := 9) (ch := []) (a := s.ba) (q := (Int.toNat ((M.names.getD k default).2)) * 2) (S := (inG s.bg)) (cs := (bdC M.bodies)) (v := .string ((M.bodies.getD (Int.toNat ((M.names.getD k default).2)) default).now)) rfl rfl (by kernel_rfl) (by kernel_rfl) (by kernel_rfl) (by kernel_rfl) (by kernel_rfl) (own_rd h.own) (at_inG 2 rfl) (fun _ => (bdC_at0 (by omega))) ?_
    have hw3 : IntKind.wrap .i64 (((usedK M k : Nat) : Int) + (((M.bodies.getD (Int.toNat ((M.names.getD k default).2)) default).now).size : Int)) = ((usedK M k : Nat) : Int) + (((M.bodies.getD (Int.toNat ((M.names.getD k default).2)) default).now).size : Int) := w64 (by omega) (by omega)
    refine GL_fin (E' := [⟨0, [], pt x⟩, ⟨3, [], .int .i64 (((usedK M k : Nat) : Int) + (((M.bodies.getD (Int.toNat ((M.names.getD k default).2)) default).now).size : Int))⟩, ⟨9, [], .slice s.na s.nn s.nc⟩, ⟨10, [], .int .i64 ((s.nn : Nat) : Int)⟩, ⟨11, [], .int .i64 ((k : Nat) : Int)⟩]) [0, 0, 0] [0, 3, 9, 10, 11] rfl (Eq.trans (b := some [⟨0, [], pt x⟩, ⟨3, [], .int .i64 (IntKind.wrap .i64 (((usedK M k : Nat) : Int) + (((M.bodies.getD (Int.toNat ((M.names.getD k default).2)) default).now).size : Int)))⟩, ⟨9, [], .slice s.na s.nn s.nc⟩, ⟨10, [], .int .i64 ((s.nn : Nat) : Int)⟩, ⟨11, [], .int .i64 ((k : Nat) : Int)⟩]) (by kernel_rfl) (by simp only [hw3])) ?_
    refine N_block ?_
    refine N_then ?_
    have hw4 : IntKind.wrap .i64 (((k : Nat) : Int) + 1) = ((k : Nat) : Int) + 1 := w64 (by omega) (by omega)
    refine G_pure (E' := [⟨0, [], pt x⟩, ⟨3, [], .int .i64 (((usedK M k : Nat) : Int) + (((M.bodies.getD (Int.toNat ((M.names.getD k default).2)) default).now).size : Int))⟩, ⟨9, [], .slice s.na s.nn s.nc⟩, ⟨10, [], .int .i64 ((s.nn : Nat) : Int)⟩, ⟨11, [], .int .i64 (((k : Nat) : Int) + 1)⟩]) [0, 0] [0, 3, 9, 10, 11] rfl (Eq.trans (b := some [⟨0, [], pt x⟩, ⟨3, [], .int .i64 (((usedK M k : Nat) : Int) + (((M.bodies.getD (Int.toNat ((M.names.getD k default).2)) default).now).size : Int))⟩, ⟨9, [], .slice s.na s.nn s.nc⟩, ⟨10, [], .int .i64 ((s.nn : Nat) : Int)⟩, ⟨11, [], .int .i64 (IntKind.wrap .i64 (((k : Nat) : Int) + 1))⟩]) (by kernel_rfl) (by simp only [hw4])) ?_
    refine N_env (E' := [⟨0, [], pt x⟩, ⟨3, [], .int .i64 ((usedK M (k + 1) : Nat) : Int)⟩, ⟨9, [], .slice s.na s.nn s.nc⟩, ⟨10, [], .int .i64 ((s.nn : Nat) : Int)⟩, ⟨11, [], .int .i64 (((k : Nat) : Int) + 1)⟩]) (by rw [hks]; rfl) ?_
    refine N_heap (H' := ([(x, .cells #[.int .i64 M.room, .slice s.ba s.bn s.bc, .slice s.na s.nn s.nc, .slice s.ka s.kn s.kc, .slice s.ca s.cn s.cc, .bool M.fails, .bool M.once, .int .i64 M.calls] 86 (0, 0))] :: s.bg :: s.cg :: (s.Z ++ H))) (fun w h => ((((h.front (j := 3) rfl).front (j := 3) rfl).front (j := 3) rfl).erase 3)) ?_
    refine N_round (s' := (k + 1)) [0, 3, 9, 10, 11] (by kernel_rfl) rfl (by omega) (by omega)
  ·
    replace hc1 := of_decide_eq_false hc1
    refine G_exit ?_
    refine N_then_exit ?_
    refine N_then_exit ?_
    refine N_block_exit ?_
    refine N_then ?_
    refine G_seq ?_
    refine G_pure (E' := [⟨2, [], .int .i64 ((usedK M k : Nat) : Int)⟩]) [0, 0] [2] rfl (by kernel_rfl) ?_
    refine N_then ?_
    refine G_ret ?_
    refine N_ret [.tmp 2] [.int .i64 ((usedK M k : Nat) : Int)] rfl (by kernel_rfl) rfl ?_
    exact ⟨by rw [usedK_all (M := M) (k := k) (by omega)]; rfl, rfl⟩
end Go.Proofs.Ytbmieiffboenbaa
namespace Go.Proofs.Ytbmieiffboenbaa
open Go.Sw Go.Lib Go.Vf Go.RowKit
theorem rChange (x : Nat) (s : RS) (M : DM) (h : s.ok M) (hsn : M.names.length ≤ 10000) (hsc : M.changes.length ≤ 1000000) (dir : ByteArray) (l : List Nm) (la : Option Addr) (lc : Nat) (hl : Rd (inZ s.Z) la (nmC l)) (hll : l.length ≤ 2) (hix : ∀ y ∈ l, 0 ≤ y.2 → y.2.toNat < M.bodies.length) (W0 : World) (H : List Grp) : Tri Try.prog 64 #[pt x, .string dir, .slice la l.length lc] W0 ([(x, .cells #[.int .i64 M.room, .slice s.ba s.bn s.bc, .slice s.na s.nn s.nc, .slice s.ka s.kn s.kc, .slice s.ca s.cn s.cc, .bool M.fails, .bool M.once, .int .i64 M.calls] 86 (0, 0))] :: s.bg :: s.cg :: (s.Z ++ H)) (IsR x (changeM M dir l) (.tuple #[]) H) := by
  have hnn := h.nn
  have hbn := h.bn
  have hcn := h.cn
  have hch := h.chs.len
  refine Tri_of (args := [pt x, .string dir, .slice la l.length lc]) (n := 36) Try.func64 rfl rfl (Nat.le_of_ble_eq_true rfl) ?_
  refine G_seq ?_
  refine G_seq ?_
  refine G_pure (E' := [⟨0, [], pt x⟩, ⟨1, [], .string dir⟩, ⟨2, [], .slice la l.length lc⟩, ⟨8, [], .slice la l.length lc⟩, ⟨9, [], .int .i64 ((l.length : Nat) : Int)⟩, ⟨10, [], .int .i64 0⟩]) [0, 0, 0] [0, 1, 2, 8, 9, 10] rfl (by kernel_rfl) ?_
  refine N_then ?_
  refine G_block ?_
  refine G_loop (EI := (fun ξ : Nat × List Nm × Option Addr × Nat × List Grp => [⟨0, [], pt x⟩, ⟨1, [], .string dir⟩, ⟨2, [], .slice la l.length lc⟩, ⟨8, [], .slice la l.length lc⟩, ⟨9, [], .int .i64 ((l.length : Nat) : Int)⟩, ⟨10, [], .int .i64 ((ξ.1 : Nat) : Int)⟩])) (HI := (fun ξ : Nat × List Nm × Option Addr × Nat × List Grp => ([(x, .cells #[.int .i64 M.room, .slice s.ba s.bn s.bc, .slice ξ.2.2.1 ξ.2.1.length ξ.2.2.2.1, .slice s.ka s.kn s.kc, .slice s.ca s.cn s.cc, .bool M.fails, .bool M.once, .int .i64 M.calls] 86 (0, 0))] :: s.bg :: s.cg :: (ξ.2.2.2.2 ++ H)))) (Φ := (fun ξ : Nat × List Nm × Option Addr × Nat × List Grp => (ξ.1 ≤ l.length) ∧ (ξ.2.1 = applyN M.names (l.take ξ.1)) ∧ (Rd (inZ ξ.2.2.2.2) ξ.2.2.1 (nmC ξ.2.1)) ∧ (∀ y o, inZ s.Z y o → inZ ξ.2.2.2.2 y o) ∧ (ξ.2.1.length ≤ 10000 + ξ.1))) (μ := (fun ξ : Nat × List Nm × Option Addr × Nat × List Grp => l.length - ξ.1)) (s0 := (0, M.names, s.na, s.nc, s.Z)) [0, 1, 2, 8, 9, 10] (by kernel_rfl) (by rw [hnn]) ⟨(by omega), rfl, h.names, (fun _ _ h => h), (by omega)⟩ ?_
  rintro ⟨k, nl, na2, nc2, Z2⟩ ⟨hk, hnl, hn2, hZ, hlen⟩
  replace hk : k ≤ l.length := hk
  replace hnl : nl = applyN M.names (l.take k) := hnl
  replace hn2 : Rd (inZ Z2) na2 (nmC nl) := hn2
  replace hZ : ∀ y o, inZ s.Z y o → inZ Z2 y o := hZ
  replace hlen : nl.length ≤ 10000 + k := hlen
  refine G_seq ?_
  refine G_pure (E' := [⟨0, [], pt x⟩, ⟨1, [], .string dir⟩, ⟨2, [], .slice la l.length lc⟩, ⟨8, [], .slice la l.length lc⟩, ⟨9, [], .int .i64 ((l.length : Nat) : Int)⟩, ⟨10, [], .int .i64 ((k : Nat) : Int)⟩, ⟨11, [], .bool (decide (((k : Nat) : Int) < ((l.length : Nat) : Int)))⟩]) [0] [0, 1, 2, 8, 9, 10, 11] rfl (by kernel_rfl) ?_
  refine N_then ?_
  refine G_seq ?_
  refine G_cond (b := decide (((k : Nat) : Int) < ((l.length : Nat) : Int))) (by kernel_rfl) (fun hc1 => ?_) (fun hc1 => ?_)
  ·
    replace hc1 := of_decide_eq_true hc1
    refine G_skip ?_
    refine N_then ?_
    refine G_seq ?_
    refine G_block ?_
    refine G_seq ?_
    refine G_region ?_
    refine GL_indexAddr (i := 0) (ch := []) (a := la) (len := l.length) (cap := lc) (kd := .i64) (j := ((k : Nat) : Int)) (e := 94) (sz := 2) (S := (inZ s.Z)) (cs := (nmC l)) rfl rfl (by kernel_rfl) (by kernel_rfl) (by kernel_rfl) (by kernel_rfl) (by kernel_rfl) (by kernel_rfl) (by kernel_rfl) hl (fun _ => by exact ⟨by omega, by omega, nmC_ne (i := k) (by omega)⟩) ?_
    refine GL_loadSA (i := 1) (ch := []) (a := la) (q := k * 2) (S := (inZ s.Z)) (cs := (nmC l)) (l := [.string ((l.getD k default).1), .int .i64 ((l.getD k default).2)]) rfl rfl (by kernel_rfl) (by kernel_rfl) (by kernel_rfl) (by kernel_rfl) (by kernel_rfl) (by kernel_rfl) hl (fun y o h => (At.cons (At.cons (At.cons (at_inZ (hZ y o h)))))) (List.cons_ne_nil _ _) (fun _ => (fun m hm => (cells2_at (by omega) m hm).trans (List.getElem?_eq_getElem hm))) ?_
    refine GL_alloc (i := 2) (ch := []) (z := .agg #[.string (ByteArray.mk #[]), .int .i64 0]) rfl rfl (by kernel_rfl) (by kernel_rfl) (by kernel_rfl) (by kernel_rfl) (fun b2 => ?_)
    refine GL_store (i := 3) (ch := []) (b := b2) (off := 0) (v := .agg #[.string ((l.getD k default).1), .int .i64 ((l.getD k default).2)]) (c := #[.string (ByteArray.mk #[]), .int .i64 0]) (c' := #[.string ((l.getD k default).1), .int .i64 ((l.getD k default).2)]) (j := 0) (m := 0) (H' := ([(b2, .cells #[.string ((l.getD k default).1), .int .i64 ((l.getD k default).2)] 94 (0, 0))] :: [(x, .cells #[.int .i64 M.room, .slice s.ba s.bn s.bc, .slice na2 nl.length nc2, .slice s.ka s.kn s.kc, .slice s.ca s.cn s.cc, .bool M.fails, .bool M.once, .int .i64 M.calls] 86 (0, 0))] :: s.bg :: s.cg :: (Z2 ++ H))) rfl rfl (by kernel_rfl) (by kernel_rfl) (by kernel_rfl) (by kernel_rfl) (by kernel_rfl) (by kernel_rfl) (by kernel_rfl) rfl rfl (Nat.le_of_ble_eq_true rfl) (fun _ _ => thaw0) (by kernel_rfl) (by kernel_rfl) ?_
    refine GL_fin (E' := [⟨0, [], pt x⟩, ⟨1, [], .string dir⟩, ⟨2, [], .slice la l.length lc⟩, ⟨7, [], pt b2⟩, ⟨8, [], .slice la l.length lc⟩, ⟨9, [], .int .i64 ((l.length : Nat) : Int)⟩, ⟨10, [], .int .i64 ((k : Nat) : Int)⟩]) [] [0, 1, 2, 7, 8, 9, 10] rfl (by kernel_rfl) ?_
    refine N_then ?_
    refine G_regionH ([(b2, .cells #[.string ((l.getD k default).1), .int .i64 ((l.getD k default).2)] 94 (0, 0))] :: s.bg :: s.cg :: (Z2 ++ H)) (by kernel_rfl) ?_
    refine GH_pure (E' := [⟨14, [], pt x⟩, ⟨0, [], pt x⟩, ⟨1, [], .string dir⟩, ⟨2, [], .slice la l.length lc⟩, ⟨7, [], pt b2⟩, ⟨8, [], .slice la l.length lc⟩, ⟨9, [], .int .i64 ((l.length : Nat) : Int)⟩, ⟨10, [], .int .i64 ((k : Nat) : Int)⟩]) 0 0 (by kernel_rfl) (fun w h => ((((h.front (j := 3) rfl).front (j := 3) rfl).front (j := 2) rfl).erase 3)) (by kernel_rfl) ?_
    refine GH_pure (E' := [⟨15, [], pt x⟩, ⟨14, [], pt x⟩, ⟨0, [], pt x⟩, ⟨1, [], .string dir⟩, ⟨2, [], .slice la l.length lc⟩, ⟨7, [], pt b2⟩, ⟨8, [], .slice la l.length lc⟩, ⟨9, [], .int .i64 ((l.length : Nat) : Int)⟩, ⟨10, [], .int .i64 ((k : Nat) : Int)⟩]) 1 0 (by kernel_rfl) (fun w h => ((((h.front (j := 3) rfl).front (j := 3) rfl).front (j := 2) rfl).erase 3)) (by kernel_rfl) ?_
    refine GH_nil (ad := ⟨x, 0, none⟩) 2 rfl rfl rfl (by kernel_rfl) (by kernel_rfl) (by kernel_rfl) (by kernel_rfl) (by kernel_rfl) (fun w h => ((((h.front (j := 3) rfl).front (j := 3) rfl).front (j := 2) rfl).erase 3)) ?_
    refine GH_pure (E' := [⟨17, [], .pointer (some ⟨x, 2, none⟩)⟩, ⟨14, [], pt x⟩, ⟨0, [], pt x⟩, ⟨1, [], .string dir⟩, ⟨2, [], .slice la l.length lc⟩, ⟨7, [], pt b2⟩, ⟨8, [], .slice la l.length lc⟩, ⟨9, [], .int .i64 ((l.length : Nat) : Int)⟩, ⟨10, [], .int .i64 ((k : Nat) : Int)⟩]) 3 0 (by kernel_rfl) (fun w h => ((((h.front (j := 3) rfl).front (j := 3) rfl).front (j := 2) rfl).erase 3)) (by kernel_rfl) ?_
    refine GH_take' (E' := [⟨19, [], .agg #[.string ((l.getD k default).1), .int .i64 ((l.getD k default).2)]⟩, ⟨17, [], .pointer (some ⟨x, 2, none⟩)⟩, ⟨14, [], pt x⟩, ⟨0, [], pt x⟩, ⟨1, [], .string dir⟩, ⟨2, [], .slice la l.length lc⟩, ⟨7, [], pt b2⟩, ⟨8, [], .slice la l.length lc⟩, ⟨9, [], .int .i64 ((l.length : Nat) : Int)⟩, ⟨10, [], .int .i64 ((k : Nat) : Int)⟩]) 5 (by kernel_rfl) (fun w h => ((((h.front (j := 3) rfl).front (j := 3) rfl).front (j := 2) rfl).erase 3)) ?_ ?_
    ·
      refine GL_loadA (i := 5) (ch := []) (b := b2) (off := 0) (l := [.string ((l.getD k default).1), .int .i64 ((l.getD k default).2)]) rfl rfl (by kernel_rfl) (by kernel_rfl) (by kernel_rfl) (by kernel_rfl) (by kernel_rfl) (by kernel_rfl) (At.grp 0 0 rfl rfl) (by kernel_rfl) ?_
      exact GL_yend (by kernel_rfl) (by kernel_rfl)
    refine GH_eff 4 (by kernel_rfl) (by kernel_rfl) (by kernel_rfl) ?_
    refine GL_load (i := 4) (ch := []) (b := x) (off := 2) (v := .slice na2 nl.length nc2) rfl rfl (by kernel_rfl) (by kernel_rfl) (by kernel_rfl) (by kernel_rfl) (by kernel_rfl) (At.grp 1 0 rfl rfl) rfl ?_
    refine GH_back (by kernel_rfl) (fun w h => ((((h.front (j := 3) rfl).front (j := 3) rfl).front (j := 2) rfl).erase 3)) ?_
    refine GH_eff 6 (by kernel_rfl) (by kernel_rfl) (by kernel_rfl) ?_
    refine GL_call (i := 6) (ch := []) (f := 80) (fst := #[]) (caps := #[]) (vs := [.slice na2 nl.length nc2, .agg #[.string ((l.getD k default).1), .int .i64 ((l.getD k default).2)]]) rfl rfl rfl (by kernel_rfl) (by kernel_rfl) Try.func80 rfl rfl (by kernel_rfl) (by kernel_rfl) (chSure_of (by kernel_rfl)) (rWith na2 nc2 (inZ Z2) nl (l.getD k default) hn2 (by omega) _ _ (fun y o h => (At.cons (At.cons (At.cons (At.cons (at_inZ h))))))) ?_
    rintro v H' ⟨g3, hO4, rfl⟩
    obtain ⟨na5, nc6, rfl, hnc7, hrw8⟩ := hO4.shape
    refine GH_back (by kernel_rfl) (fun w h => (((((h.front (j := 4) rfl).front (j := 4) rfl).front (j := 3) rfl).erase 4).erase 3)) ?_
    refine GH_more (g3 :: [(b2, .cells #[.string ((l.getD k default).1), .int .i64 ((l.getD k default).2)] 94 (0, 0))] :: s.bg :: s.cg :: (Z2 ++ H)) (fun w h => ((((h.front (j := 3) rfl).front (j := 3) rfl).front (j := 3) rfl).erase 3)) ?_
    refine GH_nil (ad := ⟨x, 0, none⟩) 7 rfl rfl rfl (by kernel_rfl) (by kernel_rfl) (by kernel_rfl) (by kernel_rfl) (by kernel_rfl) (fun w h => (((((h.front (j := 4) rfl).front (j := 4) rfl).front (j := 3) rfl).front (j := 3) rfl).erase 4)) ?_
    refine GH_pure (E' := [⟨22, [], .pointer (some ⟨x, 2, none⟩)⟩, ⟨20, [], .slice na5 ((withN nl (l.getD k default)).length) nc6⟩, ⟨0, [], pt x⟩, ⟨1, [], .string dir⟩, ⟨2, [], .slice la l.length lc⟩, ⟨8, [], .slice la l.length lc⟩, ⟨9, [], .int .i64 ((l.length : Nat) : Int)⟩, ⟨10, [], .int .i64 ((k : Nat) : Int)⟩]) 8 0 (by kernel_rfl) (fun w h => (((((h.front (j := 4) rfl).front (j := 4) rfl).front (j := 3) rfl).front (j := 3) rfl).erase 4)) (by kernel_rfl) ?_
    refine GH_eff 9 (by kernel_rfl) (by kernel_rfl) (by kernel_rfl) ?_
    refine GL_store (i := 9) (ch := []) (b := x) (off := 2) (v := .slice na5 ((withN nl (l.getD k default)).length) nc6) (c := #[.int .i64 M.room, .slice s.ba s.bn s.bc, .slice na2 nl.length nc2, .slice s.ka s.kn s.kc, .slice s.ca s.cn s.cc, .bool M.fails, .bool M.once, .int .i64 M.calls]) (c' := #[.int .i64 M.room, .slice s.ba s.bn s.bc, .slice na5 ((withN nl (l.getD k default)).length) nc6, .slice s.ka s.kn s.kc, .slice s.ca s.cn s.cc, .bool M.fails, .bool M.once, .int .i64 M.calls]) (j := 2) (m := 0) (H' := (g3 :: [(b2, .cells #[.string ((l.getD k default).1), .int .i64 ((l.getD k default).2)] 94 (0, 0))] :: [(x, .cells #[.int .i64 M.room, .slice s.ba s.bn s.bc, .slice na5 ((withN nl (l.getD k default)).length) nc6, .slice s.ka s.kn s.kc, .slice s.ca s.cn s.cc, .bool M.fails, .bool M.once, .int .i64 M.calls] 86 (0, 0))] :: s.bg :: s.cg :: (Z2 ++ H))) rfl rfl (by kernel_rfl) (by kernel_rfl) (by kernel_rfl) (by kernel_rfl) (by kernel_rfl) (by kernel_rfl) (by kernel_rfl) rfl rfl (Nat.le_of_ble_eq_true rfl) (fun _ _ => thaw0) (by kernel_rfl) (by kernel_rfl) ?_
    refine GH_back (by kernel_rfl) (fun w h => (((((h.front (j := 4) rfl).front (j := 4) rfl).front (j := 3) rfl).front (j := 3) rfl).erase 4)) ?_
    refine GH_done (E' := [⟨0, [], pt x⟩, ⟨1, [], .string dir⟩, ⟨2, [], .slice la l.length lc⟩, ⟨8, [], .slice la l.length lc⟩, ⟨9, [], .int .i64 ((l.length : Nat) : Int)⟩, ⟨10, [], .int .i64 ((k : Nat) : Int)⟩]) [0, 1, 2, 8, 9, 10] (by kernel_rfl) (by kernel_rfl) ?_
    refine N_block ?_
    refine N_then ?_
    have hw9 : IntKind.wrap .i64 (((k : Nat) : Int) + 1) = ((k : Nat) : Int) + 1 := w64 (by omega) (by omega)
    refine G_pure (E' := [⟨0, [], pt x⟩, ⟨1, [], .string dir⟩, ⟨2, [], .slice la l.length lc⟩, ⟨8, [], .slice la l.length lc⟩, ⟨9, [], .int .i64 ((l.length : Nat) : Int)⟩, ⟨10, [], .int .i64 (((k : Nat) : Int) + 1)⟩]) [0, 0] [0, 1, 2, 8, 9, 10] rfl (Eq.trans (b := some [⟨0, [], pt x⟩, ⟨1, [], .string dir⟩, ⟨2, [], .slice la l.length lc⟩, ⟨8, [], .slice la l.length lc⟩, ⟨9, [], .int .i64 ((l.length : Nat) : Int)⟩, ⟨10, [], .int .i64 (IntKind.wrap .i64 (((k : Nat) : Int) + 1))⟩]) (by kernel_rfl) (by simp only [hw9])) ?_
    refine N_heap (H' := ([(x, .cells #[.int .i64 M.room, .slice s.ba s.bn s.bc, .slice na5 ((withN nl (l.getD k default)).length) nc6, .slice s.ka s.kn s.kc, .slice s.ca s.cn s.cc, .bool M.fails, .bool M.once, .int .i64 M.calls] 86 (0, 0))] :: s.bg :: s.cg :: g3 :: (Z2 ++ H))) (fun w h => ((((h.front (j := 4) rfl).front (j := 4) rfl).front (j := 4) rfl).erase 4)) ?_
    refine N_round (s' := (k + 1, (withN nl (l.getD k default)), na5, nc6, (g3 :: Z2))) [0, 1, 2, 8, 9, 10] (by kernel_rfl) rfl ⟨(by omega), (by show withN nl _ = _; rw [apply_snoc (by omega), hnl]), (hrw8.mono fun y o h => inZ_hd h), (fun y o h => inZ_cons (hZ y o h)), (by have := with_le nl (l.getD k default); show (withN nl _).length ≤ _; omega)⟩ (by omega)
  ·
    replace hc1 := of_decide_eq_false hc1
    refine G_exit ?_
    refine N_then_exit ?_
    refine N_then_exit ?_
    refine N_block_exit ?_
    refine N_then ?_
    refine G_region ?_
    refine GL_pure (E' := [⟨27, [], .pointer (some ⟨x, 4, none⟩)⟩, ⟨24, [], pt x⟩, ⟨1, [], .string dir⟩, ⟨2, [], .slice la l.length lc⟩]) [0, 0, 0, 0] (by kernel_rfl) (j := 4) rfl ?_
    refine GL_load (i := 4) (ch := []) (b := x) (off := 4) (v := .slice s.ca s.cn s.cc) rfl rfl (by kernel_rfl) (by kernel_rfl) (by kernel_rfl) (by kernel_rfl) (by kernel_rfl) (At.grp 0 0 rfl rfl) rfl ?_
    refine GL_pure (E' := [⟨31, [], .agg #[.string dir, .slice la l.length lc]⟩, ⟨28, [], .slice s.ca s.cn s.cc⟩, ⟨24, [], pt x⟩]) [0, 0, 0] (by kernel_rfl) (j := 8) rfl ?_
    refine GL_buildSlice (i := 8) (ch := []) (e := 104) (l := [(0, .agg #[.string dir, .slice la l.length lc])]) (c := [.string dir, .slice la l.length lc]) rfl rfl (by kernel_rfl) (by kernel_rfl) (by kernel_rfl) (by kernel_rfl) (by kernel_rfl) (fun b10 => ?_)
    refine GL_append (i := 9) (ch := []) (t := 84) (tx := 84) (e := 104) (inf := Try.t104) (s := .slice s.ca s.cn s.cc) (x := .slice (some ⟨b10, 0, none⟩) 1 1) (n := s.cn) (m := 1) (j := 3) (cs := (chC s.cs)) (news := [.string dir, .slice la l.length lc]) (g := s.cg) (S := (inG [(b10, .cells #[.string dir, .slice la l.length lc] 104 (0, 0))])) rfl rfl rfl rfl (by kernel_rfl) (by kernel_rfl) (by kernel_rfl) rfl rfl (.inl ⟨104, (by kernel_rfl)⟩) (fun ⟨_, h⟩ => by cases h) (fun _ => ⟨104, (by kernel_rfl)⟩) (by kernel_rfl) (by kernel_rfl) (by kernel_rfl) rfl h.own2 (SrcOf.slice _ _ _ _ Rd.lit (fun h => by cases h)) (at_inG 0 rfl) (by kernel_rfl) (by intro u hu; simp only [List.mem_cons, List.not_mem_nil, or_false] at hu; rcases hu with rfl | rfl <;> rfl) (by omega) (by show (s.cn + 1) * 40 ≤ 140737488355328; omega) (fun v11 g12 hO13 => ?_)
    obtain ⟨a14, cap15, rfl, hcap16, hrd17⟩ := hO13.shape
    refine GL_pure (E' := [⟨35, [], .pointer (some ⟨x, 4, none⟩)⟩, ⟨33, [], .slice a14 (s.cn + 1) cap15⟩]) [0, 0] (by kernel_rfl) (j := 12) rfl ?_
    refine GL_store (i := 12) (ch := []) (b := x) (off := 4) (v := .slice a14 (s.cn + 1) cap15) (c := #[.int .i64 M.room, .slice s.ba s.bn s.bc, .slice na2 nl.length nc2, .slice s.ka s.kn s.kc, .slice s.ca s.cn s.cc, .bool M.fails, .bool M.once, .int .i64 M.calls]) (c' := #[.int .i64 M.room, .slice s.ba s.bn s.bc, .slice na2 nl.length nc2, .slice s.ka s.kn s.kc, .slice a14 (s.cn + 1) cap15, .bool M.fails, .bool M.once, .int .i64 M.calls]) (j := 1) (m := 0) (H' := ([(b10, .cells #[.string dir, .slice la l.length lc] 104 (0, 0))] :: [(x, .cells #[.int .i64 M.room, .slice s.ba s.bn s.bc, .slice na2 nl.length nc2, .slice s.ka s.kn s.kc, .slice a14 (s.cn + 1) cap15, .bool M.fails, .bool M.once, .int .i64 M.calls] 86 (0, 0))] :: s.bg :: g12 :: (Z2 ++ H))) rfl rfl (by kernel_rfl) (by kernel_rfl) (by kernel_rfl) (by kernel_rfl) (by kernel_rfl) (by kernel_rfl) (by kernel_rfl) rfl rfl (Nat.le_of_ble_eq_true rfl) (fun _ _ => thaw0) (by kernel_rfl) (by kernel_rfl) ?_
    refine GL_fin (E' := []) [] [] rfl (by kernel_rfl) ?_
    refine N_heap (H' := ([(x, .cells #[.int .i64 M.room, .slice s.ba s.bn s.bc, .slice na2 nl.length nc2, .slice s.ka s.kn s.kc, .slice a14 (s.cn + 1) cap15, .bool M.fails, .bool M.once, .int .i64 M.calls] 86 (0, 0))] :: s.bg :: g12 :: (Z2 ++ H))) (fun w h => ((((h.front (j := 3) rfl).front (j := 3) rfl).front (j := 3) rfl).erase 3)) ?_
    refine N_ret [] [] rfl (by kernel_rfl) rfl ?_
    exact ⟨rfl, _, ok_rchange h hZ hl (by rw [hnl, List.take_of_length_le (by omega)]) hn2 hO13 hix, rfl⟩
end Go.Proofs.Ytbmieiffboenbaa
namespace Go.Proofs.Ytbmieiffboenbaa
open Go.Sw Go.Lib Go.Vf Go.RowKit
theorem rWrite (x : Nat) (s : RS) (M : DM) (h : s.ok M) (hm : SmallR M) (p b : ByteArray) (hp : p.size ≤ 9223372036854775807) (hb : b.size ≤ 1000000000) (W0 : World) (H : List Grp) : Tri Try.prog 46 #[pt x, .string p, .string b] W0 ([(x, .cells #[.int .i64 M.room, .slice s.ba s.bn s.bc, .slice s.na s.nn s.nc, .slice s.ka s.kn s.kc, .slice s.ca s.cn s.cc, .bool M.fails, .bool M.once, .int .i64 M.calls] 86 (0, 0))] :: s.bg :: s.cg :: (s.Z ++ H)) (IsR x (writeM M p b).2 (.int .i64 (writeM M p b).1) H) := by
  have hnn := h.nn
  have hbn := h.bn
  have hkn := h.kn
  have hcn := h.cn
  have hch := h.chs.len
  have hus := used_le hm.small fun x hx => (h.well.names x hx).2
  have hsn := hm.small.names
  have hsb := hm.small.bodies
  have hsc := hm.small.changes
  have hskn : M.kept.length ≤ 10000 := Nat.le_trans (Nat.le_add_right _ _) hm.kept
  have hsca := hm.small.calls
  have hnb : ∀ y ∈ M.names, 0 ≤ y.2 := fun y hy => (h.well.names y hy).1
  refine Tri_of (args := [pt x, .string p, .string b]) (n := 71) Try.func46 rfl rfl (Nat.le_of_ble_eq_true rfl) ?_
  refine G_seq ?_
  refine G_pure (E' := [⟨0, [], pt x⟩, ⟨1, [], .string p⟩, ⟨2, [], .string b⟩]) [0] [0, 1, 2] rfl (by kernel_rfl) ?_
  refine N_then ?_
  refine G_seq ?_
  refine G_seq ?_
  refine G_region ?_
  refine GL_pure (E' := [⟨11, [], .string p⟩, ⟨10, [], pt x⟩, ⟨0, [], pt x⟩, ⟨1, [], .string p⟩, ⟨2, [], .string b⟩]) [0, 0] (by kernel_rfl) (j := 2) rfl ?_
  refine GL_callQ (i := 2) (ch := []) (f := 11) (fst := #[]) (caps := #[]) (vs := [.string p]) (v := .bool (rightB p)) rfl rfl rfl (by kernel_rfl) (by kernel_rfl) Try.func11 rfl rfl (by kernel_rfl) (by kernel_rfl) (by kernel_rfl) (fun _ => refRight _ hp _ _) ?_
  refine GL_call (i := 3) (ch := []) (f := 63) (fst := #[]) (caps := #[]) (vs := [pt x, .bool (rightB p)]) rfl rfl rfl (by kernel_rfl) (by kernel_rfl) Try.func63 rfl rfl (by kernel_rfl) (by kernel_rfl) (chSure_of (by kernel_rfl)) (rCall x M.room M.calls (.slice s.ba s.bn s.bc) (.slice s.na s.nn s.nc) (.slice s.ka s.kn s.kc) (.slice s.ca s.cn s.cc) M.fails M.once (rightB p) hsca _ _) ?_
  rintro v H' ⟨rfl, rfl⟩
  refine GL_fin (E' := [⟨0, [], pt x⟩, ⟨1, [], .string p⟩, ⟨2, [], .string b⟩, ⟨7, [], .int .i64 ((callS M.fails M.once M.calls (rightB p)).1)⟩]) [0] [0, 1, 2, 7] rfl (by kernel_rfl) ?_
  refine N_then ?_
  refine G_seq ?_
  refine G_pure (E' := [⟨0, [], pt x⟩, ⟨1, [], .string p⟩, ⟨2, [], .string b⟩, ⟨7, [], .int .i64 ((callS M.fails M.once M.calls (rightB p)).1)⟩, ⟨15, [], .bool (((callS M.fails M.once M.calls (rightB p)).1) != 0)⟩]) [0, 0] [0, 1, 2, 7, 15] rfl (by kernel_rfl) ?_
  refine N_then ?_
  refine G_cond (b := ((callS M.fails M.once M.calls (rightB p)).1) != 0) (by kernel_rfl) (fun hc1 => ?_) (fun hc1 => ?_)
  ·
    have he : errM M (rightB p) ≠ 0 := bne_iff_ne.1 hc1
    -- L err
    refine G_seq ?_
    refine G_pure (E' := [⟨6, [], .int .i64 ((callS M.fails M.once M.calls (rightB p)).1)⟩]) [0, 0] [6] rfl (by kernel_rfl) ?_
    refine N_then ?_
    refine G_ret ?_
    refine N_then_ret ?_
    refine N_ret [.tmp 6] [.int .i64 ((callS M.fails M.once M.calls (rightB p)).1)] rfl (by kernel_rfl) rfl ?_
    rw [writeM_err he]
    exact ⟨rfl, s, ok_rcall h _, rfl⟩
  ·
    have he : errM M (rightB p) = 0 := by (have h0 := hc1; simp only [bne_eq_false_iff_eq] at h0; exact h0)
    refine G_skip ?_
    refine N_then ?_
    refine G_seq ?_
    refine G_region ?_
    refine GL_pure (E' := [⟨17, [], pt x⟩, ⟨0, [], pt x⟩, ⟨1, [], .string p⟩, ⟨2, [], .string b⟩]) [0] (by kernel_rfl) (j := 1) rfl ?_
    refine GL_heap rfl (H' := ([(x, .cells #[.int .i64 M.room, .slice s.ba s.bn s.bc, .slice s.na s.nn s.nc, .slice s.ka s.kn s.kc, .slice s.ca s.cn s.cc, .bool ((callS M.fails M.once M.calls (rightB p)).2.1), .bool M.once, .int .i64 ((callS M.fails M.once M.calls (rightB p)).2.2)] 86 (0, 0))] :: s.bg :: s.cg :: (s.Z ++ H))) (fun w h => (((h.front (j := 2) rfl).front (j := 2) rfl).front (j := 2) rfl)) ?_
    refine GL_call (i := 1) (ch := []) (f := 27) (fst := #[]) (caps := #[]) (vs := [pt x]) rfl rfl rfl (by kernel_rfl) (by kernel_rfl) Try.func27 rfl rfl (by kernel_rfl) (by kernel_rfl) (chSure_of (by kernel_rfl)) (rUsed x s (callM M (rightB p)) (ok_rcall h _) (smallR_callM hm _) _ H) ?_
    rintro v H' ⟨rfl, rfl⟩
    refine GL_fin (E' := [⟨0, [], pt x⟩, ⟨1, [], .string p⟩, ⟨2, [], .string b⟩, ⟨8, [], .int .i64 ((usedM M : Nat) : Int)⟩]) [0] [0, 1, 2, 8] rfl (by kernel_rfl) ?_
    refine N_then ?_
    refine G_seq ?_
    refine G_seq ?_
    refine G_region ?_
    refine GL_pure (E' := [⟨21, [], .pointer (some ⟨x, 2, none⟩)⟩, ⟨0, [], pt x⟩, ⟨1, [], .string p⟩, ⟨2, [], .string b⟩, ⟨8, [], .int .i64 ((usedM M : Nat) : Int)⟩]) [0, 0, 0] (by kernel_rfl) (j := 3) rfl ?_
    refine GL_load (i := 3) (ch := []) (b := x) (off := 2) (v := .slice s.na s.nn s.nc) rfl rfl (by kernel_rfl) (by kernel_rfl) (by kernel_rfl) (by kernel_rfl) (by kernel_rfl) (At.grp 0 0 rfl rfl) rfl ?_
    refine GL_pure (E' := [⟨23, [], .string p⟩, ⟨22, [], .slice s.na s.nn s.nc⟩, ⟨0, [], pt x⟩, ⟨1, [], .string p⟩, ⟨2, [], .string b⟩, ⟨8, [], .int .i64 ((usedM M : Nat) : Int)⟩]) [0] (by kernel_rfl) (j := 5) rfl ?_
    refine GL_call (i := 5) (ch := []) (f := 54) (fst := #[]) (caps := #[]) (vs := [.slice s.na s.nn s.nc, .string p]) rfl rfl rfl (by kernel_rfl) (by kernel_rfl) Try.func54 rfl rfl (by kernel_rfl) (by kernel_rfl) (chSure_of (by kernel_rfl)) (rAtN s.na s.nc (inZ s.Z) M.names p h.names (by omega) _ _ (fun y o h => (At.cons (At.cons (At.cons (at_inZ h))))) s.nn hnn) ?_
    rintro v H' ⟨rfl, rfl⟩
    refine GL_fin (E' := [⟨0, [], pt x⟩, ⟨1, [], .string p⟩, ⟨2, [], .string b⟩, ⟨8, [], .int .i64 ((usedM M : Nat) : Int)⟩, ⟨9, [], .int .i64 (atR M.names p)⟩]) [0] [0, 1, 2, 8, 9] rfl (by kernel_rfl) ?_
    refine N_then ?_
    refine G_seq ?_
    refine G_pure (E' := [⟨0, [], pt x⟩, ⟨1, [], .string p⟩, ⟨2, [], .string b⟩, ⟨8, [], .int .i64 ((usedM M : Nat) : Int)⟩, ⟨9, [], .int .i64 (atR M.names p)⟩, ⟨26, [], .bool (decide ((atR M.names p) ≥ 0))⟩]) [0, 0] [0, 1, 2, 8, 9, 26] rfl (by kernel_rfl) ?_
    refine N_then ?_
    refine G_join (T := Int) (fun ξ : Int => [⟨0, [], pt x⟩, ⟨1, [], .string p⟩, ⟨2, [], .string b⟩, ⟨8, [], .int .i64 ξ⟩]) (fun ξ : Int => ([(x, .cells #[.int .i64 M.room, .slice s.ba s.bn s.bc, .slice s.na s.nn s.nc, .slice s.ka s.kn s.kc, .slice s.ca s.cn s.cc, .bool ((callS M.fails M.once M.calls (rightB p)).2.1), .bool M.once, .int .i64 ((callS M.fails M.once M.calls (rightB p)).2.2)] 86 (0, 0))] :: s.bg :: s.cg :: (s.Z ++ H))) (fun ξ : Int => (ξ = (usedM M : Int) - (wasM M p : Int))) ?_ ?_
    ·
      refine G_cond (b := decide ((atR M.names p) ≥ 0)) (by kernel_rfl) (fun hc2 => ?_) (fun hc2 => ?_)
      ·
        have hk := of_decide_eq_true hc2
        have hlk := atR_some hk
        have hki := ok_at h.well hk
        have hsz := hm.small.size _ (getD_memG (l := M.bodies) (i := (atR M.names p).toNat) hki)
        have hw : wasM M p = (M.bodies.getD (Int.toNat (atR M.names p)) default).now.size := by (unfold wasM; rw [hlk]; rfl)
        refine G_region ?_
        refine GL_pure (E' := [⟨30, [], .pointer (some ⟨x, 1, none⟩)⟩, ⟨27, [], .int .i64 ((usedM M : Nat) : Int)⟩, ⟨0, [], pt x⟩, ⟨1, [], .string p⟩, ⟨2, [], .string b⟩, ⟨8, [], .int .i64 ((usedM M : Nat) : Int)⟩, ⟨9, [], .int .i64 (atR M.names p)⟩]) [0, 0, 0, 0] (by kernel_rfl) (j := 4) rfl ?_
        refine GL_load (i := 4) (ch := []) (b := x) (off := 1) (v := .slice s.ba s.bn s.bc) rfl rfl (by kernel_rfl) (by kernel_rfl) (by kernel_rfl) (by kernel_rfl) (by kernel_rfl) (At.grp 0 0 rfl rfl) rfl ?_
        refine GL_pure (E' := [⟨32, [], .int .i64 (atR M.names p)⟩, ⟨31, [], .slice s.ba s.bn s.bc⟩, ⟨27, [], .int .i64 ((usedM M : Nat) : Int)⟩, ⟨0, [], pt x⟩, ⟨1, [], .string p⟩, ⟨2, [], .string b⟩, ⟨8, [], .int .i64 ((usedM M : Nat) : Int)⟩]) [0] (by kernel_rfl) (j := 6) rfl ?_
        refine GL_indexAddr (i := 6) (ch := []) (a := s.ba) (len := s.bn) (cap := s.bc) (kd := .i64) (j := (atR M.names p)) (e := 92) (sz := 2) (S := (inG s.bg)) (cs := (bdC M.bodies)) rfl rfl (by kernel_rfl) (by kernel_rfl) (by kernel_rfl) (by kernel_rfl) (by kernel_rfl) (by kernel_rfl) (by kernel_rfl) (own_rd h.own) (fun _ => by exact ⟨by omega, by omega, bdC_ne hki⟩) ?_
        refine GL_pure (E' := [⟨34, [], .pointer (some (eltA s.ba ((Int.toNat (atR M.names p)) * 2)))⟩, ⟨27, [], .int .i64 ((usedM M : Nat) : Int)⟩, ⟨0, [], pt x⟩, ⟨1, [], .string p⟩, ⟨2, [], .string b⟩, ⟨8, [], .int .i64 ((usedM M : Nat) : Int)⟩]) [0] (by kernel_rfl) (j := 8) rfl ?_
        refine GL_loadS (i := 8) (ch := []) (a := s.ba) (q := (Int.toNat (atR M.names p)) * 2) (S := (inG s.bg)) (cs := (bdC M.bodies)) (v := .string ((M.bodies.getD (Int.toNat (atR M.names p)) default).now)) rfl rfl (by kernel_rfl) (by kernel_rfl) (by kernel_rfl) (by kernel_rfl) (by kernel_rfl) (own_rd h.own) (at_inG 1 rfl) (fun _ => (bdC_at0 (by omega))) ?_
        have hw3 : IntKind.wrap .i64 (((usedM M : Nat) : Int) - (((M.bodies.getD (Int.toNat (atR M.names p)) default).now).size : Int)) = ((usedM M : Nat) : Int) - (((M.bodies.getD (Int.toNat (atR M.names p)) default).now).size : Int) := w64 (by omega) (by omega)
        refine GL_fin (E' := [⟨0, [], pt x⟩, ⟨1, [], .string p⟩, ⟨2, [], .string b⟩, ⟨8, [], .int .i64 (((usedM M : Nat) : Int) - (((M.bodies.getD (Int.toNat (atR M.names p)) default).now).size : Int))⟩]) [0, 0, 0] [0, 1, 2, 8] rfl (Eq.trans (b := some [⟨0, [], pt x⟩, ⟨1, [], .string p⟩, ⟨2, [], .string b⟩, ⟨8, [], .int .i64 (IntKind.wrap .i64 (((usedM M : Nat) : Int) - (((M.bodies.getD (Int.toNat (atR M.names p)) default).now).size : Int)))⟩]) (by kernel_rfl) (by simp only [hw3])) ?_
        refine N_join (((usedM M : Nat) : Int) - (((M.bodies.getD (Int.toNat (atR M.names p)) default).now).size : Int)) [0, 1, 2, 8] (by kernel_rfl) (fun w h => (((h.front (j := 2) rfl).front (j := 2) rfl).front (j := 2) rfl)) (by first | (rw [hw]; done) | (rw [hw]; omega))
      ·
        have hlk := atR_no (p := p) hnb (by have h0 := of_decide_eq_false hc2; omega)
        have hw : wasM M p = 0 := by (unfold wasM; rw [hlk])
        refine G_skip ?_
        refine N_join (((usedM M : Nat) : Int)) [0, 1, 2, 8] (by kernel_rfl) (fun w h => (((h.front (j := 2) rfl).front (j := 2) rfl).front (j := 2) rfl)) (by first | (rw [hw]; done) | (rw [hw]; omega))
    ·
      rintro uz huz
      have hwl := was_le hm.small p
      refine N_then ?_
      refine G_seq ?_
      refine G_seq ?_
      have hw4 : IntKind.wrap .i64 (uz + (b.size : Int)) = uz + (b.size : Int) := w64 (by omega) (by omega)
      refine G_region ?_
      refine GL_pure (E' := [⟨44, [], pt x⟩, ⟨41, [], .int .i64 (uz + (b.size : Int))⟩, ⟨0, [], pt x⟩, ⟨1, [], .string p⟩, ⟨2, [], .string b⟩]) [0, 0, 0, 0, 0, 0, 0] (Eq.trans (b := some [⟨44, [], pt x⟩, ⟨41, [], .int .i64 (IntKind.wrap .i64 (uz + (b.size : Int)))⟩, ⟨0, [], pt x⟩, ⟨1, [], .string p⟩, ⟨2, [], .string b⟩]) (by kernel_rfl) (by simp only [hw4])) (j := 7) rfl ?_
      refine GL_load (i := 7) (ch := []) (b := x) (off := 0) (v := .int .i64 M.room) rfl rfl (by kernel_rfl) (by kernel_rfl) (by kernel_rfl) (by kernel_rfl) (by kernel_rfl) (At.grp 0 0 rfl rfl) rfl ?_
      refine GL_fin (E' := [⟨0, [], pt x⟩, ⟨1, [], .string p⟩, ⟨2, [], .string b⟩, ⟨46, [], .bool (decide ((uz + (b.size : Int)) > M.room))⟩]) [0] [0, 1, 2, 46] rfl (by kernel_rfl) ?_
      refine N_then ?_
      refine G_cond (b := decide ((uz + (b.size : Int)) > M.room)) (by kernel_rfl) (fun hc5 => ?_) (fun hc5 => ?_)
      ·
        have hroom : (usedM M : Int) - (wasM M p : Int) + (b.size : Int) > M.room := by (have h0 := of_decide_eq_true hc5; omega)
        -- L full
        refine G_seq ?_
        refine G_pure (E' := [⟨6, [], .int .i64 61⟩]) [0] [6] rfl (by kernel_rfl) ?_
        refine N_then ?_
        refine G_ret ?_
        refine N_then_ret ?_
        refine N_ret [.tmp 6] [.int .i64 61] rfl (by kernel_rfl) rfl ?_
        rw [writeM_full he  hroom]
        exact ⟨rfl, s, ok_rcall h _, rfl⟩
      ·
        have hroom : ¬ (usedM M : Int) - (wasM M p : Int) + (b.size : Int) > M.room := by (have h0 := of_decide_eq_false hc5; omega)
        refine G_skip ?_
        refine N_then ?_
        refine G_seq ?_
        refine G_region ?_
        refine GL_pure (E' := [⟨50, [], .pointer (some ⟨x, 1, none⟩)⟩, ⟨47, [], pt x⟩, ⟨0, [], pt x⟩, ⟨1, [], .string p⟩, ⟨2, [], .string b⟩]) [0, 0, 0, 0] (by kernel_rfl) (j := 4) rfl ?_
        refine GL_load (i := 4) (ch := []) (b := x) (off := 1) (v := .slice s.ba s.bn s.bc) rfl rfl (by kernel_rfl) (by kernel_rfl) (by kernel_rfl) (by kernel_rfl) (by kernel_rfl) (At.grp 0 0 rfl rfl) rfl ?_
        refine GL_pure (E' := [⟨53, [], .agg #[.string b, .string (ByteArray.mk #[])]⟩, ⟨51, [], .slice s.ba s.bn s.bc⟩, ⟨47, [], pt x⟩, ⟨0, [], pt x⟩, ⟨1, [], .string p⟩]) [0, 0] (by kernel_rfl) (j := 7) rfl ?_
        refine GL_buildSlice (i := 7) (ch := []) (e := 92) (l := [(0, .agg #[.string b, .string (ByteArray.mk #[])])]) (c := [.string b, .string (ByteArray.mk #[])]) rfl rfl (by kernel_rfl) (by kernel_rfl) (by kernel_rfl) (by kernel_rfl) (by kernel_rfl) (fun b6 => ?_)
        refine GL_append (i := 8) (ch := []) (t := 82) (tx := 82) (e := 92) (inf := Try.t92) (s := .slice s.ba s.bn s.bc) (x := .slice (some ⟨b6, 0, none⟩) 1 1) (n := s.bn) (m := 1) (j := 2) (cs := (bdC M.bodies)) (news := [.string b, .string (ByteArray.mk #[])]) (g := s.bg) (S := (inG [(b6, .cells #[.string b, .string (ByteArray.mk #[])] 92 (0, 0))])) rfl rfl rfl rfl (by kernel_rfl) (by kernel_rfl) (by kernel_rfl) rfl rfl (.inl ⟨92, (by kernel_rfl)⟩) (fun ⟨_, h⟩ => by cases h) (fun _ => ⟨92, (by kernel_rfl)⟩) (by kernel_rfl) (by kernel_rfl) (by kernel_rfl) rfl h.own (SrcOf.slice _ _ _ _ Rd.lit (fun h => by cases h)) (at_inG 0 rfl) (by kernel_rfl) (by intro u hu; simp only [List.mem_cons, List.not_mem_nil, or_false] at hu; rcases hu with rfl | rfl <;> rfl) (by omega) (by show (s.bn + 1) * 32 ≤ 140737488355328; omega) (fun v7 g8 hO9 => ?_)
        obtain ⟨a10, cap11, rfl, hcap12, hrd13⟩ := hO9.shape
        refine GL_pure (E' := [⟨57, [], .pointer (some ⟨x, 1, none⟩)⟩, ⟨55, [], .slice a10 (s.bn + 1) cap11⟩, ⟨0, [], pt x⟩, ⟨1, [], .string p⟩]) [0, 0] (by kernel_rfl) (j := 11) rfl ?_
        refine GL_store (i := 11) (ch := []) (b := x) (off := 1) (v := .slice a10 (s.bn + 1) cap11) (c := #[.int .i64 M.room, .slice s.ba s.bn s.bc, .slice s.na s.nn s.nc, .slice s.ka s.kn s.kc, .slice s.ca s.cn s.cc, .bool ((callS M.fails M.once M.calls (rightB p)).2.1), .bool M.once, .int .i64 ((callS M.fails M.once M.calls (rightB p)).2.2)]) (c' := #[.int .i64 M.room, .slice a10 (s.bn + 1) cap11, .slice s.na s.nn s.nc, .slice s.ka s.kn s.kc, .slice s.ca s.cn s.cc, .bool ((callS M.fails M.once M.calls (rightB p)).2.1), .bool M.once, .int .i64 ((callS M.fails M.once M.calls (rightB p)).2.2)]) (j := 1) (m := 0) (H' := ([(b6, .cells #[.string b, .string (ByteArray.mk #[])] 92 (0, 0))] :: [(x, .cells #[.int .i64 M.room, .slice a10 (s.bn + 1) cap11, .slice s.na s.nn s.nc, .slice s.ka s.kn s.kc, .slice s.ca s.cn s.cc, .bool ((callS M.fails M.once M.calls (rightB p)).2.1), .bool M.once, .int .i64 ((callS M.fails M.once M.calls (rightB p)).2.2)] 86 (0, 0))] :: g8 :: s.cg :: (s.Z ++ H))) rfl rfl (by kernel_rfl) (by kernel_rfl) (by kernel_rfl) (by kernel_rfl) (by kernel_rfl) (by kernel_rfl) (by kernel_rfl) rfl rfl (Nat.le_of_ble_eq_true rfl) (fun _ _ => thaw0) (by kernel_rfl) (by kernel_rfl) ?_
        refine GL_fin (E' := [⟨0, [], pt x⟩, ⟨1, [], .string p⟩]) [] [0, 1] rfl (by kernel_rfl) ?_
        refine N_then ?_
        refine G_seq ?_
        refine G_regionH H (by kernel_rfl) ?_
        refine GH_pure (E' := [⟨58, [], pt x⟩, ⟨0, [], pt x⟩, ⟨1, [], .string p⟩]) 0 0 (by kernel_rfl) (fun w h => (Sat.dropApp ((((h.erase 3).erase 2).erase 1).erase 0))) (by kernel_rfl) ?_
        refine GH_pure (E' := [⟨59, [], .string p⟩, ⟨58, [], pt x⟩, ⟨0, [], pt x⟩, ⟨1, [], .string p⟩]) 1 0 (by kernel_rfl) (fun w h => (Sat.dropApp ((((h.erase 3).erase 2).erase 1).erase 0))) (by kernel_rfl) ?_
        refine GH_pure (E' := [⟨61, [], .string p⟩, ⟨59, [], .string p⟩, ⟨58, [], pt x⟩, ⟨0, [], pt x⟩]) 3 0 (by kernel_rfl) (fun w h => (Sat.dropApp ((((h.erase 3).erase 2).erase 1).erase 0))) (by kernel_rfl) ?_
        refine GH_pure (E' := [⟨62, [], pt x⟩, ⟨61, [], .string p⟩, ⟨59, [], .string p⟩, ⟨58, [], pt x⟩]) 4 0 (by kernel_rfl) (fun w h => (Sat.dropApp ((((h.erase 3).erase 2).erase 1).erase 0))) (by kernel_rfl) ?_
        refine GH_nil (ad := ⟨x, 0, none⟩) 5 rfl rfl rfl (by kernel_rfl) (by kernel_rfl) (by kernel_rfl) (by kernel_rfl) (by kernel_rfl) (fun w h => (Sat.dropApp ((((h.erase 3).erase 2).erase 1).erase 0))) ?_
        refine GH_pure (E' := [⟨64, [], .pointer (some ⟨x, 1, none⟩)⟩, ⟨61, [], .string p⟩, ⟨59, [], .string p⟩, ⟨58, [], pt x⟩]) 6 0 (by kernel_rfl) (fun w h => (Sat.dropApp ((((h.erase 3).erase 2).erase 1).erase 0))) (by kernel_rfl) ?_
        refine GH_eff2 2 7 (by kernel_rfl) (by kernel_rfl) (by kernel_rfl) (by kernel_rfl) (by kernel_rfl) ?_ ?_
        ·
          refine GL_callQ (i := 2) (ch := []) (f := 55) (fst := #[]) (caps := #[]) (vs := [.string p]) (v := .string (dirB p)) rfl rfl rfl (by kernel_rfl) (by kernel_rfl) Try.func55 rfl rfl (by kernel_rfl) (by kernel_rfl) (by kernel_rfl) (fun _ => refDir _ hp _ _) ?_
          refine GH_back (by kernel_rfl) (fun w h => (Sat.dropApp ((((h.erase 3).erase 2).erase 1).erase 0))) ?_
          refine GH_eff 7 (by kernel_rfl) (by kernel_rfl) (by kernel_rfl) ?_
          refine GL_load (i := 7) (ch := []) (b := x) (off := 1) (v := .slice a10 (s.bn + 1) cap11) rfl rfl (by kernel_rfl) (by kernel_rfl) (by kernel_rfl) (by kernel_rfl) (by kernel_rfl) (At.grp 1 0 rfl rfl) rfl ?_
          refine GH_back (by kernel_rfl) (fun w h => (Sat.dropApp ((((h.erase 3).erase 2).erase 1).erase 0))) ?_
          refine GH_pev (v := .int .i64 (((s.bn + 1) : Nat) : Int)) 8 rfl rfl (by kernel_rfl) (by kernel_rfl) (by kernel_rfl) (by kernel_rfl) (by kernel_rfl) (fun w h => (Sat.dropApp ((((h.erase 3).erase 2).erase 1).erase 0))) ?_
          have hw14 : IntKind.wrap .i64 ((((s.bn + 1) : Nat) : Int) - 1) = (((s.bn + 1) : Nat) : Int) - 1 := w64 (by omega) (by omega)
          refine GH_pure (E' := [⟨67, [], .int .i64 ((((s.bn + 1) : Nat) : Int) - 1)⟩, ⟨60, [], .string (dirB p)⟩, ⟨61, [], .string p⟩, ⟨58, [], pt x⟩]) 9 0 (by kernel_rfl) (fun w h => (Sat.dropApp ((((h.erase 3).erase 2).erase 1).erase 0))) (Eq.trans (b := some [⟨67, [], .int .i64 (IntKind.wrap .i64 ((((s.bn + 1) : Nat) : Int) - 1))⟩, ⟨60, [], .string (dirB p)⟩, ⟨61, [], .string p⟩, ⟨58, [], pt x⟩]) (by kernel_rfl) (by simp only [hw14])) ?_
          refine GH_env (E' := [⟨67, [], .int .i64 ((M.bodies.length : Nat) : Int)⟩, ⟨60, [], .string (dirB p)⟩, ⟨61, [], .string p⟩, ⟨58, [], pt x⟩]) (by rw [show ((((s.bn + 1) : Nat) : Int) - 1) = ((M.bodies.length : Nat) : Int) by omega]) ?_
          refine GH_pure (E' := [⟨68, [], .agg #[.string p, .int .i64 ((M.bodies.length : Nat) : Int)]⟩, ⟨60, [], .string (dirB p)⟩, ⟨58, [], pt x⟩]) 10 0 (by kernel_rfl) (fun w h => (Sat.dropApp ((((h.erase 3).erase 2).erase 1).erase 0))) (by kernel_rfl) ?_
          refine GH_eff 11 (by kernel_rfl) (by kernel_rfl) (by kernel_rfl) ?_
          refine GL_buildSlice (i := 11) (ch := []) (e := 94) (l := [(0, .agg #[.string p, .int .i64 ((M.bodies.length : Nat) : Int)])]) (c := [.string p, .int .i64 ((M.bodies.length : Nat) : Int)]) rfl rfl (by kernel_rfl) (by kernel_rfl) (by kernel_rfl) (by kernel_rfl) (by kernel_rfl) (fun b15 => ?_)
          refine GH_back (by kernel_rfl) (fun w h => (Sat.dropApp (((((h.erase 4).erase 3).erase 2).erase 1).erase 0))) ?_
          refine GH_eff 12 (by kernel_rfl) (by kernel_rfl) (by kernel_rfl) ?_
          refine GL_heap rfl (H' := ([(x, .cells #[.int .i64 M.room, .slice a10 (s.bn + 1) cap11, .slice s.na s.nn s.nc, .slice s.ka s.kn s.kc, .slice s.ca s.cn s.cc, .bool ((callS M.fails M.once M.calls (rightB p)).2.1), .bool M.once, .int .i64 ((callS M.fails M.once M.calls (rightB p)).2.2)] 86 (0, 0))] :: g8 :: s.cg :: [(b15, .cells #[.string p, .int .i64 ((M.bodies.length : Nat) : Int)] 94 (0, 0))] :: [(b6, .cells #[.string b, .string (ByteArray.mk #[])] 92 (0, 0))] :: (s.Z ++ H))) (fun w h => (((h.front (j := 4) rfl).front (j := 4) rfl).front (j := 4) rfl)) ?_
          refine GL_call (i := 12) (ch := []) (f := 64) (fst := #[]) (caps := #[]) (vs := [pt x, .string (dirB p), .slice (some ⟨b15, 0, none⟩) 1 1]) rfl rfl rfl (by kernel_rfl) (by kernel_rfl) Try.func64 rfl rfl (by kernel_rfl) (by kernel_rfl) (chSure_of (by kernel_rfl)) (rChange x { s with bn := s.bn + 1, ba := a10, bc := cap11, bg := g8, Z := [(b15, .cells #[.string p, .int .i64 ((M.bodies.length : Nat) : Int)] 94 (0, 0))] :: [(b6, .cells #[.string b, .string (ByteArray.mk #[])] 92 (0, 0))] :: s.Z } { callM M (rightB p) with bodies := M.bodies ++ [⟨b, ByteArray.mk #[]⟩] } (ok_rZ (ok_rZ (ok_rbody (ok_rcall h _) hO9) _) _) hsn (by show M.changes.length ≤ _; omega) (dirB p) [(p, ((M.bodies.length : Nat) : Int))] (some ⟨b15, 0, none⟩) 1 (Rd.mono (Rd.lit (c := [.string p, .int .i64 ((M.bodies.length : Nat) : Int)])) (fun _ _ h => inZ_hd h)) (Nat.le_of_ble_eq_true rfl) (fun y hy _ => by rw [List.mem_singleton.1 hy]; show _ < (M.bodies ++ [_]).length; simp) _ H) ?_
          rintro v H' ⟨rfl, sr2, hsr2, rfl⟩
          refine GH_back (by kernel_rfl) (fun w h => (Sat.dropApp h)) ?_
          refine GH_done (E' := []) [] (by kernel_rfl) (by kernel_rfl) ?_
          refine N_then ?_
          refine G_seq ?_
          refine G_pure (E' := [⟨6, [], .int .i64 0⟩]) [0] [6] rfl (by kernel_rfl) ?_
          refine N_then ?_
          refine G_ret ?_
          refine N_ret [.tmp 6] [.int .i64 0] rfl (by kernel_rfl) rfl ?_
          rw [writeM_ok he hroom]
          exact ⟨rfl, sr2, hsr2, rfl⟩
        ·
          refine GL_load (i := 7) (ch := []) (b := x) (off := 1) (v := .slice a10 (s.bn + 1) cap11) rfl rfl (by kernel_rfl) (by kernel_rfl) (by kernel_rfl) (by kernel_rfl) (by kernel_rfl) (At.grp 1 0 rfl rfl) rfl ?_
          refine GH_back (by kernel_rfl) (fun w h => (Sat.dropApp ((((h.erase 3).erase 2).erase 1).erase 0))) ?_
          refine GH_pev (v := .int .i64 (((s.bn + 1) : Nat) : Int)) 8 rfl rfl (by kernel_rfl) (by kernel_rfl) (by kernel_rfl) (by kernel_rfl) (by kernel_rfl) (fun w h => (Sat.dropApp ((((h.erase 3).erase 2).erase 1).erase 0))) ?_
          have hw16 : IntKind.wrap .i64 ((((s.bn + 1) : Nat) : Int) - 1) = (((s.bn + 1) : Nat) : Int) - 1 := w64 (by omega) (by omega)
          refine GH_pure (E' := [⟨67, [], .int .i64 ((((s.bn + 1) : Nat) : Int) - 1)⟩, ⟨61, [], .string p⟩, ⟨59, [], .string p⟩, ⟨58, [], pt x⟩]) 9 0 (by kernel_rfl) (fun w h => (Sat.dropApp ((((h.erase 3).erase 2).erase 1).erase 0))) (Eq.trans (b := some [⟨67, [], .int .i64 (IntKind.wrap .i64 ((((s.bn + 1) : Nat) : Int) - 1))⟩, ⟨61, [], .string p⟩, ⟨59, [], .string p⟩, ⟨58, [], pt x⟩]) (by kernel_rfl) (by simp only [hw16])) ?_
          refine GH_env (E' := [⟨67, [], .int .i64 ((M.bodies.length : Nat) : Int)⟩, ⟨61, [], .string p⟩, ⟨59, [], .string p⟩, ⟨58, [], pt x⟩]) (by rw [show ((((s.bn + 1) : Nat) : Int) - 1) = ((M.bodies.length : Nat) : Int) by omega]) ?_
          refine GH_pure (E' := [⟨68, [], .agg #[.string p, .int .i64 ((M.bodies.length : Nat) : Int)]⟩, ⟨59, [], .string p⟩, ⟨58, [], pt x⟩]) 10 0 (by kernel_rfl) (fun w h => (Sat.dropApp ((((h.erase 3).erase 2).erase 1).erase 0))) (by kernel_rfl) ?_
          refine GH_eff2 2 11 (by kernel_rfl) (by kernel_rfl) (by kernel_rfl) (by kernel_rfl) (by kernel_rfl) ?_ ?_
          ·
            refine GL_callQ (i := 2) (ch := []) (f := 55) (fst := #[]) (caps := #[]) (vs := [.string p]) (v := .string (dirB p)) rfl rfl rfl (by kernel_rfl) (by kernel_rfl) Try.func55 rfl rfl (by kernel_rfl) (by kernel_rfl) (by kernel_rfl) (fun _ => refDir _ hp _ _) ?_
            refine GH_back (by kernel_rfl) (fun w h => (Sat.dropApp ((((h.erase 3).erase 2).erase 1).erase 0))) ?_
            refine GH_eff 11 (by kernel_rfl) (by kernel_rfl) (by kernel_rfl) ?_
            refine GL_buildSlice (i := 11) (ch := []) (e := 94) (l := [(0, .agg #[.string p, .int .i64 ((M.bodies.length : Nat) : Int)])]) (c := [.string p, .int .i64 ((M.bodies.length : Nat) : Int)]) rfl rfl (by kernel_rfl) (by kernel_rfl) (by kernel_rfl) (by kernel_rfl) (by kernel_rfl) (fun b17 => ?_)
            refine GH_back (by kernel_rfl) (fun w h => (Sat.dropApp (((((h.erase 4).erase 3).erase 2).erase 1).erase 0))) ?_
            refine GH_eff 12 (by kernel_rfl) (by kernel_rfl) (by kernel_rfl) ?_
            refine GL_heap rfl (H' := ([(x, .cells #[.int .i64 M.room, .slice a10 (s.bn + 1) cap11, .slice s.na s.nn s.nc, .slice s.ka s.kn s.kc, .slice s.ca s.cn s.cc, .bool ((callS M.fails M.once M.calls (rightB p)).2.1), .bool M.once, .int .i64 ((callS M.fails M.once M.calls (rightB p)).2.2)] 86 (0, 0))] :: g8 :: s.cg :: [(b17, .cells #[.string p, .int .i64 ((M.bodies.length : Nat) : Int)] 94 (0, 0))] :: [(b6, .cells #[.string b, .string (ByteArray.mk #[])] 92 (0, 0))] :: (s.Z ++ H))) (fun w h => (((h.front (j := 4) rfl).front (j := 4) rfl).front (j := 4) rfl)) ?_
            refine GL_call (i := 12) (ch := []) (f := 64) (fst := #[]) (caps := #[]) (vs := [pt x, .string (dirB p), .slice (some ⟨b17, 0, none⟩) 1 1]) rfl rfl rfl (by kernel_rfl) (by kernel_rfl) Try.func64 rfl rfl (by kernel_rfl) (by kernel_rfl) (chSure_of (by kernel_rfl)) (rChange x { s with bn := s.bn + 1, ba := a10, bc := cap11, bg := g8, Z := [(b17, .cells #[.string p, .int .i64 ((M.bodies.length : Nat) : Int)] 94 (0, 0))] :: [(b6, .cells #[.string b, .string (ByteArray.mk #[])] 92 (0, 0))] :: s.Z } { callM M (rightB p) with bodies := M.bodies ++ [⟨b, ByteArray.mk #[]⟩] } (ok_rZ (ok_rZ (ok_rbody (ok_rcall h _) hO9) _) _) hsn (by show M.changes.length ≤ _; omega) (dirB p) [(p, ((M.bodies.length : Nat) : Int))] (some ⟨b17, 0, none⟩) 1 (Rd.mono (Rd.lit (c := [.string p, .int .i64 ((M.bodies.length : Nat) : Int)])) (fun _ _ h => inZ_hd h)) (Nat.le_of_ble_eq_true rfl) (fun y hy _ => by rw [List.mem_singleton.1 hy]; show _ < (M.bodies ++ [_]).length; simp) _ H) ?_
            rintro v H' ⟨rfl, sr4, hsr4, rfl⟩
            refine GH_back (by kernel_rfl) (fun w h => (Sat.dropApp h)) ?_
            refine GH_done (E' := []) [] (by kernel_rfl) (by kernel_rfl) ?_
            refine N_then ?_
            refine G_seq ?_
            refine G_pure (E' := [⟨6, [], .int .i64 0⟩]) [0] [6] rfl (by kernel_rfl) ?_
            refine N_then ?_
            refine G_ret ?_
            refine N_ret [.tmp 6] [.int .i64 0] rfl (by kernel_rfl) rfl ?_
            rw [writeM_ok he hroom]
            exact ⟨rfl, sr4, hsr4, rfl⟩
          ·
            refine GL_buildSlice (i := 11) (ch := []) (e := 94) (l := [(0, .agg #[.string p, .int .i64 ((M.bodies.length : Nat) : Int)])]) (c := [.string p, .int .i64 ((M.bodies.length : Nat) : Int)]) rfl rfl (by kernel_rfl) (by kernel_rfl) (by kernel_rfl) (by kernel_rfl) (by kernel_rfl) (fun b18 => ?_)
            refine GH_back (by kernel_rfl) (fun w h => (Sat.dropApp (((((h.erase 4).erase 3).erase 2).erase 1).erase 0))) ?_
            refine GH_eff 2 (by kernel_rfl) (by kernel_rfl) (by kernel_rfl) ?_
            refine GL_callQ (i := 2) (ch := []) (f := 55) (fst := #[]) (caps := #[]) (vs := [.string p]) (v := .string (dirB p)) rfl rfl rfl (by kernel_rfl) (by kernel_rfl) Try.func55 rfl rfl (by kernel_rfl) (by kernel_rfl) (by kernel_rfl) (fun _ => refDir _ hp _ _) ?_
            refine GH_back (by kernel_rfl) (fun w h => (Sat.dropApp (((((h.erase 4).erase 3).erase 2).erase 1).erase 0))) ?_
            refine GH_eff 12 (by kernel_rfl) (by kernel_rfl) (by kernel_rfl) ?_
            refine GL_heap rfl (H' := ([(x, .cells #[.int .i64 M.room, .slice a10 (s.bn + 1) cap11, .slice s.na s.nn s.nc, .slice s.ka s.kn s.kc, .slice s.ca s.cn s.cc, .bool ((callS M.fails M.once M.calls (rightB p)).2.1), .bool M.once, .int .i64 ((callS M.fails M.once M.calls (rightB p)).2.2)] 86 (0, 0))] :: g8 :: s.cg :: [(b18, .cells #[.string p, .int .i64 ((M.bodies.length : Nat) : Int)] 94 (0, 0))] :: [(b6, .cells #[.string b, .string (ByteArray.mk #[])] 92 (0, 0))] :: (s.Z ++ H))) (fun w h => (((h.front (j := 4) rfl).front (j := 4) rfl).front (j := 4) rfl)) ?_
            refine GL_call (i := 12) (ch := []) (f := 64) (fst := #[]) (caps := #[]) (vs := [pt x, .string (dirB p), .slice (some ⟨b18, 0, none⟩) 1 1]) rfl rfl rfl (by kernel_rfl) (by kernel_rfl) Try.func64 rfl rfl (by kernel_rfl) (by kernel_rfl) (chSure_of (by kernel_rfl)) (rChange x { s with bn := s.bn + 1, ba := a10, bc := cap11, bg := g8, Z := [(b18, .cells #[.string p, .int .i64 ((M.bodies.length : Nat) : Int)] 94 (0, 0))] :: [(b6, .cells #[.string b, .string (ByteArray.mk #[])] 92 (0, 0))] :: s.Z } { callM M (rightB p) with bodies := M.bodies ++ [⟨b, ByteArray.mk #[]⟩] } (ok_rZ (ok_rZ (ok_rbody (ok_rcall h _) hO9) _) _) hsn (by show M.changes.length ≤ _; omega) (dirB p) [(p, ((M.bodies.length : Nat) : Int))] (some ⟨b18, 0, none⟩) 1 (Rd.mono (Rd.lit (c := [.string p, .int .i64 ((M.bodies.length : Nat) : Int)])) (fun _ _ h => inZ_hd h)) (Nat.le_of_ble_eq_true rfl) (fun y hy _ => by rw [List.mem_singleton.1 hy]; show _ < (M.bodies ++ [_]).length; simp) _ H) ?_
            rintro v H' ⟨rfl, sr6, hsr6, rfl⟩
            refine GH_back (by kernel_rfl) (fun w h => (Sat.dropApp h)) ?_
            refine GH_done (E' := []) [] (by kernel_rfl) (by kernel_rfl) ?_
            refine N_then ?_
            refine G_seq ?_
            refine G_pure (E' := [⟨6, [], .int .i64 0⟩]) [0] [6] rfl (by kernel_rfl) ?_
            refine N_then ?_
            refine G_ret ?_
            refine N_ret [.tmp 6] [.int .i64 0] rfl (by kernel_rfl) rfl ?_
            rw [writeM_ok he hroom]
            exact ⟨rfl, sr6, hsr6, rfl⟩
theorem rAppend (x : Nat) (s : RS) (M : DM) (h : s.ok M) (hm : SmallR M) (p b : ByteArray) (hp : p.size ≤ 9223372036854775807) (hb : b.size ≤ 1000000000) (W0 : World) (H : List Grp) : Tri Try.prog 47 #[pt x, .string p, .string b] W0 ([(x, .cells #[.int .i64 M.room, .slice s.ba s.bn s.bc, .slice s.na s.nn s.nc, .slice s.ka s.kn s.kc, .slice s.ca s.cn s.cc, .bool M.fails, .bool M.once, .int .i64 M.calls] 86 (0, 0))] :: s.bg :: s.cg :: (s.Z ++ H)) (IsR x (appendM M p b).2 (.int .i64 (appendM M p b).1) H) := by
  have hnn := h.nn
  have hbn := h.bn
  have hkn := h.kn
  have hcn := h.cn
  have hch := h.chs.len
  have hus := used_le hm.small fun x hx => (h.well.names x hx).2
  have hsn := hm.small.names
  have hsb := hm.small.bodies
  have hsc := hm.small.changes
  have hskn : M.kept.length ≤ 10000 := Nat.le_trans (Nat.le_add_right _ _) hm.kept
  have hsca := hm.small.calls
  have hnb : ∀ y ∈ M.names, 0 ≤ y.2 := fun y hy => (h.well.names y hy).1
  refine Tri_of (args := [pt x, .string p, .string b]) (n := 46) Try.func47 rfl rfl (Nat.le_of_ble_eq_true rfl) ?_
  refine G_seq ?_
  refine G_pure (E' := [⟨0, [], pt x⟩, ⟨1, [], .string p⟩, ⟨2, [], .string b⟩]) [0] [0, 1, 2] rfl (by kernel_rfl) ?_
  refine N_then ?_
  refine G_seq ?_
  refine G_seq ?_
  refine G_region ?_
  refine GL_pure (E' := [⟨10, [], .string p⟩, ⟨9, [], pt x⟩, ⟨0, [], pt x⟩, ⟨1, [], .string p⟩, ⟨2, [], .string b⟩]) [0, 0] (by kernel_rfl) (j := 2) rfl ?_
  refine GL_callQ (i := 2) (ch := []) (f := 11) (fst := #[]) (caps := #[]) (vs := [.string p]) (v := .bool (rightB p)) rfl rfl rfl (by kernel_rfl) (by kernel_rfl) Try.func11 rfl rfl (by kernel_rfl) (by kernel_rfl) (by kernel_rfl) (fun _ => refRight _ hp _ _) ?_
  refine GL_call (i := 3) (ch := []) (f := 63) (fst := #[]) (caps := #[]) (vs := [pt x, .bool (rightB p)]) rfl rfl rfl (by kernel_rfl) (by kernel_rfl) Try.func63 rfl rfl (by kernel_rfl) (by kernel_rfl) (chSure_of (by kernel_rfl)) (rCall x M.room M.calls (.slice s.ba s.bn s.bc) (.slice s.na s.nn s.nc) (.slice s.ka s.kn s.kc) (.slice s.ca s.cn s.cc) M.fails M.once (rightB p) hsca _ _) ?_
  rintro v H' ⟨rfl, rfl⟩
  refine GL_fin (E' := [⟨0, [], pt x⟩, ⟨1, [], .string p⟩, ⟨2, [], .string b⟩, ⟨7, [], .int .i64 ((callS M.fails M.once M.calls (rightB p)).1)⟩]) [0] [0, 1, 2, 7] rfl (by kernel_rfl) ?_
  refine N_then ?_
  refine G_seq ?_
  refine G_pure (E' := [⟨0, [], pt x⟩, ⟨1, [], .string p⟩, ⟨2, [], .string b⟩, ⟨7, [], .int .i64 ((callS M.fails M.once M.calls (rightB p)).1)⟩, ⟨14, [], .bool (((callS M.fails M.once M.calls (rightB p)).1) != 0)⟩]) [0, 0] [0, 1, 2, 7, 14] rfl (by kernel_rfl) ?_
  refine N_then ?_
  refine G_cond (b := ((callS M.fails M.once M.calls (rightB p)).1) != 0) (by kernel_rfl) (fun hc1 => ?_) (fun hc1 => ?_)
  ·
    have he : errM M (rightB p) ≠ 0 := bne_iff_ne.1 hc1
    -- L err
    refine G_seq ?_
    refine G_pure (E' := [⟨6, [], .int .i64 ((callS M.fails M.once M.calls (rightB p)).1)⟩]) [0, 0] [6] rfl (by kernel_rfl) ?_
    refine N_then ?_
    refine G_ret ?_
    refine N_then_ret ?_
    refine N_heap (H' := ([(x, .cells #[.int .i64 M.room, .slice s.ba s.bn s.bc, .slice s.na s.nn s.nc, .slice s.ka s.kn s.kc, .slice s.ca s.cn s.cc, .bool ((callS M.fails M.once M.calls (rightB p)).2.1), .bool M.once, .int .i64 ((callS M.fails M.once M.calls (rightB p)).2.2)] 86 (0, 0))] :: s.bg :: s.cg :: (s.Z ++ H))) (fun w h => (((h.front (j := 2) rfl).front (j := 2) rfl).front (j := 2) rfl)) ?_
    refine N_ret [.tmp 6] [.int .i64 ((callS M.fails M.once M.calls (rightB p)).1)] rfl (by kernel_rfl) rfl ?_
    rw [appendM_err he]
    exact ⟨rfl, s, ok_rcall h _, rfl⟩
  ·
    have he : errM M (rightB p) = 0 := by (have h0 := hc1; simp only [bne_eq_false_iff_eq] at h0; exact h0)
    refine G_skip ?_
    refine N_then ?_
    refine G_seq ?_
    refine G_region ?_
    refine GL_pure (E' := [⟨18, [], .pointer (some ⟨x, 2, none⟩)⟩, ⟨0, [], pt x⟩, ⟨1, [], .string p⟩, ⟨2, [], .string b⟩]) [0, 0, 0] (by kernel_rfl) (j := 3) rfl ?_
    refine GL_load (i := 3) (ch := []) (b := x) (off := 2) (v := .slice s.na s.nn s.nc) rfl rfl (by kernel_rfl) (by kernel_rfl) (by kernel_rfl) (by kernel_rfl) (by kernel_rfl) (At.grp 0 0 rfl rfl) rfl ?_
    refine GL_pure (E' := [⟨20, [], .string p⟩, ⟨19, [], .slice s.na s.nn s.nc⟩, ⟨0, [], pt x⟩, ⟨2, [], .string b⟩]) [0] (by kernel_rfl) (j := 5) rfl ?_
    refine GL_call (i := 5) (ch := []) (f := 54) (fst := #[]) (caps := #[]) (vs := [.slice s.na s.nn s.nc, .string p]) rfl rfl rfl (by kernel_rfl) (by kernel_rfl) Try.func54 rfl rfl (by kernel_rfl) (by kernel_rfl) (chSure_of (by kernel_rfl)) (rAtN s.na s.nc (inZ s.Z) M.names p h.names (by omega) _ _ (fun y o h => (At.cons (At.cons (At.cons (at_inZ h))))) s.nn hnn) ?_
    rintro v H' ⟨rfl, rfl⟩
    refine GL_fin (E' := [⟨0, [], pt x⟩, ⟨2, [], .string b⟩, ⟨8, [], .int .i64 (atR M.names p)⟩]) [0] [0, 2, 8] rfl (by kernel_rfl) ?_
    refine N_then ?_
    refine G_seq ?_
    refine G_seq ?_
    refine G_pure (E' := [⟨0, [], pt x⟩, ⟨2, [], .string b⟩, ⟨8, [], .int .i64 (atR M.names p)⟩, ⟨23, [], .bool (decide ((atR M.names p) < 0))⟩]) [0, 0] [0, 2, 8, 23] rfl (by kernel_rfl) ?_
    refine N_then ?_
    refine G_cond (b := decide ((atR M.names p) < 0)) (by kernel_rfl) (fun hc2 => ?_) (fun hc2 => ?_)
    ·
      have hk := of_decide_eq_true hc2
      have hlk := atR_no hnb hk
      -- L no
      refine G_seq ?_
      refine G_pure (E' := [⟨6, [], .int .i64 60⟩]) [0] [6] rfl (by kernel_rfl) ?_
      refine N_then ?_
      refine G_ret ?_
      refine N_then_ret ?_
      refine N_heap (H' := ([(x, .cells #[.int .i64 M.room, .slice s.ba s.bn s.bc, .slice s.na s.nn s.nc, .slice s.ka s.kn s.kc, .slice s.ca s.cn s.cc, .bool ((callS M.fails M.once M.calls (rightB p)).2.1), .bool M.once, .int .i64 ((callS M.fails M.once M.calls (rightB p)).2.2)] 86 (0, 0))] :: s.bg :: s.cg :: (s.Z ++ H))) (fun w h => (((h.front (j := 2) rfl).front (j := 2) rfl).front (j := 2) rfl)) ?_
      refine N_ret [.tmp 6] [.int .i64 60] rfl (by kernel_rfl) rfl ?_
      rw [appendM_no he hlk]
      exact ⟨rfl, s, ok_rcall h _, rfl⟩
    ·
      have hk : 0 ≤ atR M.names p := by (have h0 := of_decide_eq_false hc2; omega)
      have hlk := atR_some hk
      have hki := ok_at h.well hk
      have hsz := hm.small.size _ (getD_memG (l := M.bodies) (i := (atR M.names p).toNat) hki)
      refine G_skip ?_
      refine N_then ?_
      refine G_seq ?_
      refine G_seq ?_
      refine G_regionH ([(x, .cells #[.int .i64 M.room, .slice s.ba s.bn s.bc, .slice s.na s.nn s.nc, .slice s.ka s.kn s.kc, .slice s.ca s.cn s.cc, .bool ((callS M.fails M.once M.calls (rightB p)).2.1), .bool M.once, .int .i64 ((callS M.fails M.once M.calls (rightB p)).2.2)] 86 (0, 0))] :: s.bg :: s.cg :: (s.Z ++ H)) (by kernel_rfl) ?_
      refine GH_pure (E' := [⟨24, [], pt x⟩, ⟨0, [], pt x⟩, ⟨2, [], .string b⟩, ⟨8, [], .int .i64 (atR M.names p)⟩]) 0 0 (by kernel_rfl) (fun w h => (((h.front (j := 2) rfl).front (j := 2) rfl).front (j := 2) rfl)) (by kernel_rfl) ?_
      refine GH_pure (E' := [⟨26, [], .string b⟩, ⟨24, [], pt x⟩, ⟨0, [], pt x⟩, ⟨2, [], .string b⟩, ⟨8, [], .int .i64 (atR M.names p)⟩]) 2 0 (by kernel_rfl) (fun w h => (((h.front (j := 2) rfl).front (j := 2) rfl).front (j := 2) rfl)) (by kernel_rfl) ?_
      refine GH_pev (v := .int .i64 (b.size : Int)) 3 rfl rfl (by kernel_rfl) (by kernel_rfl) (by kernel_rfl) (by kernel_rfl) (by kernel_rfl) (fun w h => (((h.front (j := 2) rfl).front (j := 2) rfl).front (j := 2) rfl)) ?_
      refine GH_pure (E' := [⟨29, [], pt x⟩, ⟨27, [], .int .i64 (b.size : Int)⟩, ⟨24, [], pt x⟩, ⟨0, [], pt x⟩, ⟨2, [], .string b⟩, ⟨8, [], .int .i64 (atR M.names p)⟩]) 5 0 (by kernel_rfl) (fun w h => (((h.front (j := 2) rfl).front (j := 2) rfl).front (j := 2) rfl)) (by kernel_rfl) ?_
      refine GH_nil (ad := ⟨x, 0, none⟩) 6 rfl rfl rfl (by kernel_rfl) (by kernel_rfl) (by kernel_rfl) (by kernel_rfl) (by kernel_rfl) (fun w h => (((h.front (j := 2) rfl).front (j := 2) rfl).front (j := 2) rfl)) ?_
      refine GH_pure (E' := [⟨31, [], pt x⟩, ⟨27, [], .int .i64 (b.size : Int)⟩, ⟨24, [], pt x⟩, ⟨0, [], pt x⟩, ⟨2, [], .string b⟩, ⟨8, [], .int .i64 (atR M.names p)⟩]) 7 0 (by kernel_rfl) (fun w h => (((h.front (j := 2) rfl).front (j := 2) rfl).front (j := 2) rfl)) (by kernel_rfl) ?_
      refine GH_take' (E' := [⟨32, [], .int .i64 M.room⟩, ⟨31, [], pt x⟩, ⟨27, [], .int .i64 (b.size : Int)⟩, ⟨24, [], pt x⟩, ⟨0, [], pt x⟩, ⟨2, [], .string b⟩, ⟨8, [], .int .i64 (atR M.names p)⟩]) 8 (by kernel_rfl) (fun w h => (((h.front (j := 2) rfl).front (j := 2) rfl).front (j := 2) rfl)) ?_ ?_
      ·
        refine GL_load (i := 8) (ch := []) (b := x) (off := 0) (v := .int .i64 M.room) rfl rfl (by kernel_rfl) (by kernel_rfl) (by kernel_rfl) (by kernel_rfl) (by kernel_rfl) (At.grp 0 0 rfl rfl) rfl ?_
        exact GL_yend (by kernel_rfl) (by kernel_rfl)
      refine GH_eff 1 (by kernel_rfl) (by kernel_rfl) (by kernel_rfl) ?_
      refine GL_heap rfl (H' := ([(x, .cells #[.int .i64 M.room, .slice s.ba s.bn s.bc, .slice s.na s.nn s.nc, .slice s.ka s.kn s.kc, .slice s.ca s.cn s.cc, .bool ((callS M.fails M.once M.calls (rightB p)).2.1), .bool M.once, .int .i64 ((callS M.fails M.once M.calls (rightB p)).2.2)] 86 (0, 0))] :: s.bg :: s.cg :: (s.Z ++ H))) (fun w h => (((h.front (j := 2) rfl).front (j := 2) rfl).front (j := 2) rfl)) ?_
      refine GL_call (i := 1) (ch := []) (f := 27) (fst := #[]) (caps := #[]) (vs := [pt x]) rfl rfl rfl (by kernel_rfl) (by kernel_rfl) Try.func27 rfl rfl (by kernel_rfl) (by kernel_rfl) (chSure_of (by kernel_rfl)) (rUsed x s (callM M (rightB p)) (ok_rcall h _) (smallR_callM hm _) _ H) ?_
      rintro v H' ⟨rfl, rfl⟩
      refine GH_back (by kernel_rfl) (fun w h => (((h.front (j := 2) rfl).front (j := 2) rfl).front (j := 2) rfl)) ?_
      have hw3 : IntKind.wrap .i64 (((usedM M : Nat) : Int) + (b.size : Int)) = ((usedM M : Nat) : Int) + (b.size : Int) := w64 (by omega) (by omega)
      refine GH_pure (E' := [⟨28, [], .int .i64 (((usedM M : Nat) : Int) + (b.size : Int))⟩, ⟨32, [], .int .i64 M.room⟩, ⟨0, [], pt x⟩, ⟨2, [], .string b⟩, ⟨8, [], .int .i64 (atR M.names p)⟩]) 4 0 (by kernel_rfl) (fun w h => (((h.front (j := 2) rfl).front (j := 2) rfl).front (j := 2) rfl)) (Eq.trans (b := some [⟨28, [], .int .i64 (IntKind.wrap .i64 (((usedM M : Nat) : Int) + (b.size : Int)))⟩, ⟨32, [], .int .i64 M.room⟩, ⟨0, [], pt x⟩, ⟨2, [], .string b⟩, ⟨8, [], .int .i64 (atR M.names p)⟩]) (by kernel_rfl) (by simp only [hw3])) ?_
      refine GH_pure (E' := [⟨33, [], .bool (decide ((((usedM M : Nat) : Int) + (b.size : Int)) > M.room))⟩, ⟨0, [], pt x⟩, ⟨2, [], .string b⟩, ⟨8, [], .int .i64 (atR M.names p)⟩]) 9 0 (by kernel_rfl) (fun w h => (((h.front (j := 2) rfl).front (j := 2) rfl).front (j := 2) rfl)) (by kernel_rfl) ?_
      refine GH_done (E' := [⟨0, [], pt x⟩, ⟨2, [], .string b⟩, ⟨8, [], .int .i64 (atR M.names p)⟩, ⟨33, [], .bool (decide ((((usedM M : Nat) : Int) + (b.size : Int)) > M.room))⟩]) [0, 2, 8, 33] (by kernel_rfl) (by kernel_rfl) ?_
      refine N_then ?_
      refine G_cond (b := decide ((((usedM M : Nat) : Int) + (b.size : Int)) > M.room)) (by kernel_rfl) (fun hc4 => ?_) (fun hc4 => ?_)
      ·
        have hroom : (usedM M : Int) + (b.size : Int) > M.room := by (have h0 := of_decide_eq_true hc4; omega)
        -- L full
        refine G_seq ?_
        refine G_pure (E' := [⟨6, [], .int .i64 61⟩]) [0] [6] rfl (by kernel_rfl) ?_
        refine N_then ?_
        refine G_ret ?_
        refine N_then_ret ?_
        refine N_heap (H' := ([(x, .cells #[.int .i64 M.room, .slice s.ba s.bn s.bc, .slice s.na s.nn s.nc, .slice s.ka s.kn s.kc, .slice s.ca s.cn s.cc, .bool ((callS M.fails M.once M.calls (rightB p)).2.1), .bool M.once, .int .i64 ((callS M.fails M.once M.calls (rightB p)).2.2)] 86 (0, 0))] :: s.bg :: s.cg :: (s.Z ++ H))) (fun w h => (((h.front (j := 2) rfl).front (j := 2) rfl).front (j := 2) rfl)) ?_
        refine N_ret [.tmp 6] [.int .i64 61] rfl (by kernel_rfl) rfl ?_
        rw [appendM_full he hlk hroom]
        exact ⟨rfl, s, ok_rcall h _, rfl⟩
      ·
        have hroom : ¬ (usedM M : Int) + (b.size : Int) > M.room := by (have h0 := of_decide_eq_false hc4; omega)
        refine G_skip ?_
        refine N_then ?_
        refine G_seq ?_
        refine G_region ?_
        refine GL_pure (E' := [⟨36, [], .pointer (some ⟨x, 1, none⟩)⟩, ⟨2, [], .string b⟩, ⟨8, [], .int .i64 (atR M.names p)⟩]) [0, 0, 0] (by kernel_rfl) (j := 3) rfl ?_
        refine GL_load (i := 3) (ch := []) (b := x) (off := 1) (v := .slice s.ba s.bn s.bc) rfl rfl (by kernel_rfl) (by kernel_rfl) (by kernel_rfl) (by kernel_rfl) (by kernel_rfl) (At.grp 0 0 rfl rfl) rfl ?_
        refine GL_pure (E' := [⟨38, [], .int .i64 (atR M.names p)⟩, ⟨37, [], .slice s.ba s.bn s.bc⟩, ⟨2, [], .string b⟩]) [0] (by kernel_rfl) (j := 5) rfl ?_
        refine GL_indexAddr (i := 5) (ch := []) (a := s.ba) (len := s.bn) (cap := s.bc) (kd := .i64) (j := (atR M.names p)) (e := 92) (sz := 2) (S := (inG s.bg)) (cs := (bdC M.bodies)) rfl rfl (by kernel_rfl) (by kernel_rfl) (by kernel_rfl) (by kernel_rfl) (by kernel_rfl) (by kernel_rfl) (by kernel_rfl) (own_rd h.own) (fun _ => by exact ⟨by omega, by omega, bdC_ne hki⟩) ?_
        refine GL_pure (E' := [⟨40, [], .pointer (some (eltA s.ba ((Int.toNat (atR M.names p)) * 2)))⟩, ⟨38, [], .int .i64 (atR M.names p)⟩, ⟨37, [], .slice s.ba s.bn s.bc⟩, ⟨2, [], .string b⟩]) [0] (by kernel_rfl) (j := 7) rfl ?_
        refine GL_loadS (i := 7) (ch := []) (a := s.ba) (q := (Int.toNat (atR M.names p)) * 2) (S := (inG s.bg)) (cs := (bdC M.bodies)) (v := .string ((M.bodies.getD (Int.toNat (atR M.names p)) default).now)) rfl rfl (by kernel_rfl) (by kernel_rfl) (by kernel_rfl) (by kernel_rfl) (by kernel_rfl) (own_rd h.own) (at_inG 1 rfl) (fun _ => (bdC_at0 (by omega))) ?_
        refine GL_pure (E' := [⟨42, [], .string b⟩, ⟨41, [], .string ((M.bodies.getD (Int.toNat (atR M.names p)) default).now)⟩, ⟨38, [], .int .i64 (atR M.names p)⟩, ⟨37, [], .slice s.ba s.bn s.bc⟩]) [0] (by kernel_rfl) (j := 9) rfl ?_
        refine GL_concat (i := 9) (ch := []) (s := (M.bodies.getD (Int.toNat (atR M.names p)) default).now) (u := b) rfl rfl (by kernel_rfl) (by kernel_rfl) (by kernel_rfl) (by kernel_rfl) (by kernel_rfl) (by omega) ?_
        refine GL_indexAddr (i := 10) (ch := []) (a := s.ba) (len := s.bn) (cap := s.bc) (kd := .i64) (j := (atR M.names p)) (e := 92) (sz := 2) (S := (inG s.bg)) (cs := (bdC M.bodies)) rfl rfl (by kernel_rfl) (by kernel_rfl) (by kernel_rfl) (by kernel_rfl) (by kernel_rfl) (by kernel_rfl) (by kernel_rfl) (own_rd h.own) (fun _ => by exact ⟨by omega, by omega, bdC_ne hki⟩) ?_
        refine GL_pure (E' := [⟨45, [], .pointer (some (eltA s.ba ((Int.toNat (atR M.names p)) * 2)))⟩, ⟨43, [], .string (((M.bodies.getD (Int.toNat (atR M.names p)) default).now) ++ b)⟩]) [0] (by kernel_rfl) (j := 12) rfl ?_
        refine GL_storeO (i := 12) (ch := []) (a := s.ba) (q := (Int.toNat (atR M.names p)) * 2) (len := s.bn) (cap := s.bc) (v := .string (((M.bodies.getD (Int.toNat (atR M.names p)) default).now) ++ b)) (g := s.bg) (j := 1) (cs := (bdC M.bodies)) (cs' := (bdC (M.bodies.set (Int.toNat (atR M.names p)) ⟨((M.bodies.getD (Int.toNat (atR M.names p)) default).now) ++ b, (M.bodies.getD (Int.toNat (atR M.names p)) default).kept⟩))) rfl rfl (by kernel_rfl) (by kernel_rfl) (by kernel_rfl) (by kernel_rfl) rfl (by kernel_rfl) (by kernel_rfl) (by kernel_rfl) rfl h.own (by rw [bdC_len]; omega) bdC_now (fun g5 hO6 => ?_)
        refine GL_fin (E' := []) [] [] rfl (by kernel_rfl) ?_
        refine N_then ?_
        refine G_seq ?_
        refine G_pure (E' := [⟨6, [], .int .i64 0⟩]) [0] [6] rfl (by kernel_rfl) ?_
        refine N_then ?_
        refine G_ret ?_
        refine N_heap (H' := ([(x, .cells #[.int .i64 M.room, .slice s.ba s.bn s.bc, .slice s.na s.nn s.nc, .slice s.ka s.kn s.kc, .slice s.ca s.cn s.cc, .bool ((callS M.fails M.once M.calls (rightB p)).2.1), .bool M.once, .int .i64 ((callS M.fails M.once M.calls (rightB p)).2.2)] 86 (0, 0))] :: g5 :: s.cg :: (s.Z ++ H))) (fun w h => (((h.front (j := 2) rfl).front (j := 2) rfl).front (j := 2) rfl)) ?_
        refine N_ret [.tmp 6] [.int .i64 0] rfl (by kernel_rfl) rfl ?_
        rw [appendM_ok he hlk hroom]
        exact ⟨rfl, _, ok_rset (ok_rcall h _) hO6 (pre_app (pre_at h.well _)), rfl⟩
theorem rRemove (x : Nat) (s : RS) (M : DM) (h : s.ok M) (hm : SmallR M) (p : ByteArray) (hp : p.size ≤ 9223372036854775807) (W0 : World) (H : List Grp) : Tri Try.prog 49 #[pt x, .string p] W0 ([(x, .cells #[.int .i64 M.room, .slice s.ba s.bn s.bc, .slice s.na s.nn s.nc, .slice s.ka s.kn s.kc, .slice s.ca s.cn s.cc, .bool M.fails, .bool M.once, .int .i64 M.calls] 86 (0, 0))] :: s.bg :: s.cg :: (s.Z ++ H)) (IsR x (removeM M p).2 (.int .i64 (removeM M p).1) H) := by
  have hnn := h.nn
  have hbn := h.bn
  have hkn := h.kn
  have hcn := h.cn
  have hch := h.chs.len
  have hus := used_le hm.small fun x hx => (h.well.names x hx).2
  have hsn := hm.small.names
  have hsb := hm.small.bodies
  have hsc := hm.small.changes
  have hskn : M.kept.length ≤ 10000 := Nat.le_trans (Nat.le_add_right _ _) hm.kept
  have hsca := hm.small.calls
  have hnb : ∀ y ∈ M.names, 0 ≤ y.2 := fun y hy => (h.well.names y hy).1
  refine Tri_of (args := [pt x, .string p]) (n := 27) Try.func49 rfl rfl (Nat.le_of_ble_eq_true rfl) ?_
  refine G_seq ?_
  refine G_pure (E' := [⟨0, [], pt x⟩, ⟨1, [], .string p⟩]) [0] [0, 1] rfl (by kernel_rfl) ?_
  refine N_then ?_
  refine G_seq ?_
  refine G_seq ?_
  refine G_region ?_
  refine GL_pure (E' := [⟨7, [], .string p⟩, ⟨6, [], pt x⟩, ⟨0, [], pt x⟩, ⟨1, [], .string p⟩]) [0, 0] (by kernel_rfl) (j := 2) rfl ?_
  refine GL_callQ (i := 2) (ch := []) (f := 11) (fst := #[]) (caps := #[]) (vs := [.string p]) (v := .bool (rightB p)) rfl rfl rfl (by kernel_rfl) (by kernel_rfl) Try.func11 rfl rfl (by kernel_rfl) (by kernel_rfl) (by kernel_rfl) (fun _ => refRight _ hp _ _) ?_
  refine GL_call (i := 3) (ch := []) (f := 63) (fst := #[]) (caps := #[]) (vs := [pt x, .bool (rightB p)]) rfl rfl rfl (by kernel_rfl) (by kernel_rfl) Try.func63 rfl rfl (by kernel_rfl) (by kernel_rfl) (chSure_of (by kernel_rfl)) (rCall x M.room M.calls (.slice s.ba s.bn s.bc) (.slice s.na s.nn s.nc) (.slice s.ka s.kn s.kc) (.slice s.ca s.cn s.cc) M.fails M.once (rightB p) hsca _ _) ?_
  rintro v H' ⟨rfl, rfl⟩
  refine GL_fin (E' := [⟨0, [], pt x⟩, ⟨1, [], .string p⟩, ⟨5, [], .int .i64 ((callS M.fails M.once M.calls (rightB p)).1)⟩]) [0] [0, 1, 5] rfl (by kernel_rfl) ?_
  refine N_then ?_
  refine G_seq ?_
  refine G_pure (E' := [⟨0, [], pt x⟩, ⟨1, [], .string p⟩, ⟨5, [], .int .i64 ((callS M.fails M.once M.calls (rightB p)).1)⟩, ⟨11, [], .bool (((callS M.fails M.once M.calls (rightB p)).1) != 0)⟩]) [0, 0] [0, 1, 5, 11] rfl (by kernel_rfl) ?_
  refine N_then ?_
  refine G_cond (b := ((callS M.fails M.once M.calls (rightB p)).1) != 0) (by kernel_rfl) (fun hc1 => ?_) (fun hc1 => ?_)
  ·
    have he : errM M (rightB p) ≠ 0 := bne_iff_ne.1 hc1
    -- L err
    refine G_seq ?_
    refine G_pure (E' := [⟨4, [], .int .i64 ((callS M.fails M.once M.calls (rightB p)).1)⟩]) [0, 0] [4] rfl (by kernel_rfl) ?_
    refine N_then ?_
    refine G_ret ?_
    refine N_then_ret ?_
    refine N_ret [.tmp 4] [.int .i64 ((callS M.fails M.once M.calls (rightB p)).1)] rfl (by kernel_rfl) rfl ?_
    rw [removeM_err he]
    exact ⟨rfl, s, ok_rcall h _, rfl⟩
  ·
    have he : errM M (rightB p) = 0 := by (have h0 := hc1; simp only [bne_eq_false_iff_eq] at h0; exact h0)
    refine G_skip ?_
    refine N_then ?_
    refine G_seq ?_
    refine G_seq ?_
    refine G_region ?_
    refine GL_pure (E' := [⟨15, [], .pointer (some ⟨x, 2, none⟩)⟩, ⟨0, [], pt x⟩, ⟨1, [], .string p⟩]) [0, 0, 0] (by kernel_rfl) (j := 3) rfl ?_
    refine GL_load (i := 3) (ch := []) (b := x) (off := 2) (v := .slice s.na s.nn s.nc) rfl rfl (by kernel_rfl) (by kernel_rfl) (by kernel_rfl) (by kernel_rfl) (by kernel_rfl) (At.grp 0 0 rfl rfl) rfl ?_
    refine GL_pure (E' := [⟨17, [], .string p⟩, ⟨16, [], .slice s.na s.nn s.nc⟩, ⟨0, [], pt x⟩, ⟨1, [], .string p⟩]) [0] (by kernel_rfl) (j := 5) rfl ?_
    refine GL_call (i := 5) (ch := []) (f := 54) (fst := #[]) (caps := #[]) (vs := [.slice s.na s.nn s.nc, .string p]) rfl rfl rfl (by kernel_rfl) (by kernel_rfl) Try.func54 rfl rfl (by kernel_rfl) (by kernel_rfl) (chSure_of (by kernel_rfl)) (rAtN s.na s.nc (inZ s.Z) M.names p h.names (by omega) _ _ (fun y o h => (At.cons (At.cons (At.cons (at_inZ h))))) s.nn hnn) ?_
    rintro v H' ⟨rfl, rfl⟩
    refine GL_fin (E' := [⟨0, [], pt x⟩, ⟨1, [], .string p⟩, ⟨19, [], .bool (decide ((atR M.names p) < 0))⟩]) [0] [0, 1, 19] rfl (by kernel_rfl) ?_
    refine N_then ?_
    refine G_cond (b := decide ((atR M.names p) < 0)) (by kernel_rfl) (fun hc2 => ?_) (fun hc2 => ?_)
    ·
      have hk := of_decide_eq_true hc2
      have hlk := atR_no hnb hk
      -- L no
      refine G_seq ?_
      refine G_pure (E' := [⟨4, [], .int .i64 60⟩]) [0] [4] rfl (by kernel_rfl) ?_
      refine N_then ?_
      refine G_ret ?_
      refine N_then_ret ?_
      refine N_ret [.tmp 4] [.int .i64 60] rfl (by kernel_rfl) rfl ?_
      rw [removeM_no he hlk]
      exact ⟨rfl, s, ok_rcall h _, rfl⟩
    ·
      have hk : 0 ≤ atR M.names p := by (have h0 := of_decide_eq_false hc2; omega)
      have hlk := atR_some hk
      have hki := ok_at h.well hk
      have hsz := hm.small.size _ (getD_memG (l := M.bodies) (i := (atR M.names p).toNat) hki)
      refine G_skip ?_
      refine N_then ?_
      refine G_seq ?_
      refine G_region ?_
      refine GL_pure (E' := [⟨21, [], .string p⟩, ⟨20, [], pt x⟩, ⟨1, [], .string p⟩]) [0, 0] (by kernel_rfl) (j := 2) rfl ?_
      refine GL_callQ (i := 2) (ch := []) (f := 55) (fst := #[]) (caps := #[]) (vs := [.string p]) (v := .string (dirB p)) rfl rfl rfl (by kernel_rfl) (by kernel_rfl) Try.func55 rfl rfl (by kernel_rfl) (by kernel_rfl) (by kernel_rfl) (fun _ => refDir _ hp _ _) ?_
      refine GL_pure (E' := [⟨24, [], .agg #[.string p, .int .i64 (-1)]⟩, ⟨22, [], .string (dirB p)⟩, ⟨20, [], pt x⟩]) [0, 0] (by kernel_rfl) (j := 5) rfl ?_
      refine GL_buildSlice (i := 5) (ch := []) (e := 94) (l := [(0, .agg #[.string p, .int .i64 (-1)])]) (c := [.string p, .int .i64 (-1)]) rfl rfl (by kernel_rfl) (by kernel_rfl) (by kernel_rfl) (by kernel_rfl) (by kernel_rfl) (fun b3 => ?_)
      refine GL_heap rfl (H' := ([(x, .cells #[.int .i64 M.room, .slice s.ba s.bn s.bc, .slice s.na s.nn s.nc, .slice s.ka s.kn s.kc, .slice s.ca s.cn s.cc, .bool ((callS M.fails M.once M.calls (rightB p)).2.1), .bool M.once, .int .i64 ((callS M.fails M.once M.calls (rightB p)).2.2)] 86 (0, 0))] :: s.bg :: s.cg :: [(b3, .cells #[.string p, .int .i64 (-1)] 94 (0, 0))] :: (s.Z ++ H))) (fun w h => (((h.front (j := 3) rfl).front (j := 3) rfl).front (j := 3) rfl)) ?_
      refine GL_call (i := 6) (ch := []) (f := 64) (fst := #[]) (caps := #[]) (vs := [pt x, .string (dirB p), .slice (some ⟨b3, 0, none⟩) 1 1]) rfl rfl rfl (by kernel_rfl) (by kernel_rfl) Try.func64 rfl rfl (by kernel_rfl) (by kernel_rfl) (chSure_of (by kernel_rfl)) (rChange x { s with Z := [(b3, .cells #[.string p, .int .i64 (-1)] 94 (0, 0))] :: s.Z } (callM M (rightB p)) (ok_rZ (ok_rcall h _) _) hsn (by show M.changes.length ≤ _; omega) (dirB p) [(p, (-1))] (some ⟨b3, 0, none⟩) 1 (Rd.mono (Rd.lit (c := [.string p, .int .i64 (-1)])) (fun _ _ h => inZ_hd h)) (Nat.le_of_ble_eq_true rfl) (fun y hy h0 => by rw [List.mem_singleton.1 hy] at h0; exact absurd h0 (show ¬ (0 : Int) ≤ -1 by decide)) _ H) ?_
      rintro v H' ⟨rfl, sr2, hsr2, rfl⟩
      refine GL_fin (E' := []) [] [] rfl (by kernel_rfl) ?_
      refine N_then ?_
      refine G_seq ?_
      refine G_pure (E' := [⟨4, [], .int .i64 0⟩]) [0] [4] rfl (by kernel_rfl) ?_
      refine N_then ?_
      refine G_ret ?_
      refine N_ret [.tmp 4] [.int .i64 0] rfl (by kernel_rfl) rfl ?_
      rw [removeM_ok he hlk]
      exact ⟨rfl, sr2, hsr2, rfl⟩
theorem rRename (x : Nat) (s : RS) (M : DM) (h : s.ok M) (hm : SmallR M) (p q : ByteArray) (hp : p.size ≤ 9223372036854775807) (hq : q.size ≤ 9223372036854775807) (W0 : World) (H : List Grp) : Tri Try.prog 48 #[pt x, .string p, .string q] W0 ([(x, .cells #[.int .i64 M.room, .slice s.ba s.bn s.bc, .slice s.na s.nn s.nc, .slice s.ka s.kn s.kc, .slice s.ca s.cn s.cc, .bool M.fails, .bool M.once, .int .i64 M.calls] 86 (0, 0))] :: s.bg :: s.cg :: (s.Z ++ H)) (IsR x (renameM M p q).2 (.int .i64 (renameM M p q).1) H) := by
  have hnn := h.nn
  have hbn := h.bn
  have hkn := h.kn
  have hcn := h.cn
  have hch := h.chs.len
  have hus := used_le hm.small fun x hx => (h.well.names x hx).2
  have hsn := hm.small.names
  have hsb := hm.small.bodies
  have hsc := hm.small.changes
  have hskn : M.kept.length ≤ 10000 := Nat.le_trans (Nat.le_add_right _ _) hm.kept
  have hsca := hm.small.calls
  have hnb : ∀ y ∈ M.names, 0 ≤ y.2 := fun y hy => (h.well.names y hy).1
  refine Tri_of (args := [pt x, .string p, .string q]) (n := 48) Try.func48 rfl rfl (Nat.le_of_ble_eq_true rfl) ?_
  refine G_seq ?_
  refine G_pure (E' := [⟨0, [], pt x⟩, ⟨1, [], .string p⟩, ⟨2, [], .string q⟩]) [0] [0, 1, 2] rfl (by kernel_rfl) ?_
  refine N_then ?_
  refine G_seq ?_
  refine G_seq ?_
  refine G_region ?_
  refine GL_pure (E' := [⟨10, [], .string p⟩, ⟨9, [], pt x⟩, ⟨0, [], pt x⟩, ⟨1, [], .string p⟩, ⟨2, [], .string q⟩]) [0, 0] (by kernel_rfl) (j := 2) rfl ?_
  refine GL_callQ (i := 2) (ch := []) (f := 11) (fst := #[]) (caps := #[]) (vs := [.string p]) (v := .bool (rightB p)) rfl rfl rfl (by kernel_rfl) (by kernel_rfl) Try.func11 rfl rfl (by kernel_rfl) (by kernel_rfl) (by kernel_rfl) (fun _ => refRight _ hp _ _) ?_
  refine GL_pure (E' := [⟨13, [(12, true)], .string q⟩, ⟨12, [], .bool (rightB p)⟩, ⟨9, [], pt x⟩, ⟨0, [], pt x⟩, ⟨1, [], .string p⟩, ⟨2, [], .string q⟩]) [0, 0] (by kernel_rfl) (j := 5) rfl ?_
  refine GL_callQ (i := 5) (ch := [(12, true)]) (f := 11) (fst := #[]) (caps := #[]) (vs := [.string q]) (v := .bool (rightB q)) rfl rfl rfl (by kernel_rfl) (by kernel_rfl) Try.func11 rfl rfl (by kernel_rfl) (by kernel_rfl) (by kernel_rfl) (fun hc => refRight _ hq _ _) ?_
  refine GL_pure (E' := [⟨17, [(16, true)], .string p⟩, ⟨16, [], .bool ((rightB p) && (rightB q))⟩, ⟨9, [], pt x⟩, ⟨0, [], pt x⟩, ⟨1, [], .string p⟩, ⟨2, [], .string q⟩]) [6, 0, 0] (by kernel_rfl) (j := 9) rfl ?_
  refine GL_callQ (i := 9) (ch := [(16, true)]) (f := 55) (fst := #[]) (caps := #[]) (vs := [.string p]) (v := .string (dirB p)) rfl rfl rfl (by kernel_rfl) (by kernel_rfl) Try.func55 rfl rfl (by kernel_rfl) (by kernel_rfl) (by kernel_rfl) (fun hc => refDir _ hp _ _) ?_
  refine GL_pure (E' := [⟨19, [(16, true)], .string q⟩, ⟨18, [(16, true)], .string (dirB p)⟩, ⟨16, [], .bool ((rightB p) && (rightB q))⟩, ⟨9, [], pt x⟩, ⟨0, [], pt x⟩, ⟨1, [], .string p⟩, ⟨2, [], .string q⟩]) [0] (by kernel_rfl) (j := 11) rfl ?_
  refine GL_callQ (i := 11) (ch := [(16, true)]) (f := 55) (fst := #[]) (caps := #[]) (vs := [.string q]) (v := .string (dirB q)) rfl rfl rfl (by kernel_rfl) (by kernel_rfl) Try.func55 rfl rfl (by kernel_rfl) (by kernel_rfl) (by kernel_rfl) (fun hc => refDir _ hq _ _) ?_
  refine GL_pure (E' := [⟨22, [], .bool (((rightB p) && (rightB q)) && ((dirB p).toList == (dirB q).toList))⟩, ⟨9, [], pt x⟩, ⟨0, [], pt x⟩, ⟨1, [], .string p⟩, ⟨2, [], .string q⟩]) [0, 6] (by kernel_rfl) (j := 14) rfl ?_
  refine GL_call (i := 14) (ch := []) (f := 63) (fst := #[]) (caps := #[]) (vs := [pt x, .bool (((rightB p) && (rightB q)) && ((dirB p).toList == (dirB q).toList))]) rfl rfl rfl (by kernel_rfl) (by kernel_rfl) Try.func63 rfl rfl (by kernel_rfl) (by kernel_rfl) (chSure_of (by kernel_rfl)) (rCall x M.room M.calls (.slice s.ba s.bn s.bc) (.slice s.na s.nn s.nc) (.slice s.ka s.kn s.kc) (.slice s.ca s.cn s.cc) M.fails M.once (((rightB p) && (rightB q)) && ((dirB p).toList == (dirB q).toList)) hsca _ _) ?_
  rintro v H' ⟨rfl, rfl⟩
  refine GL_fin (E' := [⟨0, [], pt x⟩, ⟨1, [], .string p⟩, ⟨2, [], .string q⟩, ⟨7, [], .int .i64 ((callS M.fails M.once M.calls (((rightB p) && (rightB q)) && ((dirB p).toList == (dirB q).toList))).1)⟩]) [0] [0, 1, 2, 7] rfl (by kernel_rfl) ?_
  refine N_then ?_
  refine G_seq ?_
  refine G_pure (E' := [⟨0, [], pt x⟩, ⟨1, [], .string p⟩, ⟨2, [], .string q⟩, ⟨7, [], .int .i64 ((callS M.fails M.once M.calls (((rightB p) && (rightB q)) && ((dirB p).toList == (dirB q).toList))).1)⟩, ⟨25, [], .bool (((callS M.fails M.once M.calls (((rightB p) && (rightB q)) && ((dirB p).toList == (dirB q).toList))).1) != 0)⟩]) [0, 0] [0, 1, 2, 7, 25] rfl (by kernel_rfl) ?_
  refine N_then ?_
  refine G_cond (b := ((callS M.fails M.once M.calls (((rightB p) && (rightB q)) && ((dirB p).toList == (dirB q).toList))).1) != 0) (by kernel_rfl) (fun hc1 => ?_) (fun hc1 => ?_)
  ·
    have he : errM M (renR p q) ≠ 0 := bne_iff_ne.1 hc1
    -- L err
    refine G_seq ?_
    refine G_pure (E' := [⟨6, [], .int .i64 ((callS M.fails M.once M.calls (((rightB p) && (rightB q)) && ((dirB p).toList == (dirB q).toList))).1)⟩]) [0, 0] [6] rfl (by kernel_rfl) ?_
    refine N_then ?_
    refine G_ret ?_
    refine N_then_ret ?_
    refine N_ret [.tmp 6] [.int .i64 ((callS M.fails M.once M.calls (((rightB p) && (rightB q)) && ((dirB p).toList == (dirB q).toList))).1)] rfl (by kernel_rfl) rfl ?_
    rw [renameM_err he]
    exact ⟨rfl, s, ok_rcall h _, rfl⟩
  ·
    have he : errM M (renR p q) = 0 := by (have h0 := hc1; simp only [bne_eq_false_iff_eq] at h0; exact h0)
    refine G_skip ?_
    refine N_then ?_
    refine G_seq ?_
    refine G_region ?_
    refine GL_pure (E' := [⟨29, [], .pointer (some ⟨x, 2, none⟩)⟩, ⟨0, [], pt x⟩, ⟨1, [], .string p⟩, ⟨2, [], .string q⟩]) [0, 0, 0] (by kernel_rfl) (j := 3) rfl ?_
    refine GL_load (i := 3) (ch := []) (b := x) (off := 2) (v := .slice s.na s.nn s.nc) rfl rfl (by kernel_rfl) (by kernel_rfl) (by kernel_rfl) (by kernel_rfl) (by kernel_rfl) (At.grp 0 0 rfl rfl) rfl ?_
    refine GL_pure (E' := [⟨31, [], .string p⟩, ⟨30, [], .slice s.na s.nn s.nc⟩, ⟨0, [], pt x⟩, ⟨1, [], .string p⟩, ⟨2, [], .string q⟩]) [0] (by kernel_rfl) (j := 5) rfl ?_
    refine GL_call (i := 5) (ch := []) (f := 54) (fst := #[]) (caps := #[]) (vs := [.slice s.na s.nn s.nc, .string p]) rfl rfl rfl (by kernel_rfl) (by kernel_rfl) Try.func54 rfl rfl (by kernel_rfl) (by kernel_rfl) (chSure_of (by kernel_rfl)) (rAtN s.na s.nc (inZ s.Z) M.names p h.names (by omega) _ _ (fun y o h => (At.cons (At.cons (At.cons (at_inZ h))))) s.nn hnn) ?_
    rintro v H' ⟨rfl, rfl⟩
    refine GL_fin (E' := [⟨0, [], pt x⟩, ⟨1, [], .string p⟩, ⟨2, [], .string q⟩, ⟨8, [], .int .i64 (atR M.names p)⟩]) [0] [0, 1, 2, 8] rfl (by kernel_rfl) ?_
    refine N_then ?_
    refine G_seq ?_
    refine G_seq ?_
    refine G_pure (E' := [⟨0, [], pt x⟩, ⟨1, [], .string p⟩, ⟨2, [], .string q⟩, ⟨8, [], .int .i64 (atR M.names p)⟩, ⟨34, [], .bool (decide ((atR M.names p) < 0))⟩]) [0, 0] [0, 1, 2, 8, 34] rfl (by kernel_rfl) ?_
    refine N_then ?_
    refine G_cond (b := decide ((atR M.names p) < 0)) (by kernel_rfl) (fun hc2 => ?_) (fun hc2 => ?_)
    ·
      have hk := of_decide_eq_true hc2
      have hlk := atR_no hnb hk
      -- L no
      refine G_seq ?_
      refine G_pure (E' := [⟨6, [], .int .i64 60⟩]) [0] [6] rfl (by kernel_rfl) ?_
      refine N_then ?_
      refine G_ret ?_
      refine N_then_ret ?_
      refine N_ret [.tmp 6] [.int .i64 60] rfl (by kernel_rfl) rfl ?_
      rw [renameM_no he hlk]
      exact ⟨rfl, s, ok_rcall h _, rfl⟩
    ·
      have hk : 0 ≤ atR M.names p := by (have h0 := of_decide_eq_false hc2; omega)
      have hlk := atR_some hk
      have hki := ok_at h.well hk
      have hsz := hm.small.size _ (getD_memG (l := M.bodies) (i := (atR M.names p).toNat) hki)
      refine G_skip ?_
      refine N_then ?_
      refine G_seq ?_
      refine G_seq ?_
      refine G_pure (E' := [⟨0, [], pt x⟩, ⟨1, [], .string p⟩, ⟨2, [], .string q⟩, ⟨8, [], .int .i64 (atR M.names p)⟩, ⟨37, [], .bool (!(p.toList == q.toList))⟩]) [0, 0, 0] [0, 1, 2, 8, 37] rfl (by kernel_rfl) ?_
      refine N_then ?_
      refine G_cond (b := !(p.toList == q.toList)) (by kernel_rfl) (fun hc3 => ?_) (fun hc3 => ?_)
      ·
        have hs : (p == q) = false := by (have h0 := hc3; rw [tlEq] at h0; simpa using h0)
        -- L go
        refine G_region ?_
        refine GL_pure (E' := [⟨39, [], .string q⟩, ⟨38, [], pt x⟩, ⟨1, [], .string p⟩, ⟨2, [], .string q⟩, ⟨8, [], .int .i64 (atR M.names p)⟩]) [0, 0] (by kernel_rfl) (j := 2) rfl ?_
        refine GL_callQ (i := 2) (ch := []) (f := 55) (fst := #[]) (caps := #[]) (vs := [.string q]) (v := .string (dirB q)) rfl rfl rfl (by kernel_rfl) (by kernel_rfl) Try.func55 rfl rfl (by kernel_rfl) (by kernel_rfl) (by kernel_rfl) (fun _ => refDir _ hq _ _) ?_
        refine GL_pure (E' := [⟨45, [], .agg #[.string q, .int .i64 (atR M.names p)]⟩, ⟨42, [], .agg #[.string p, .int .i64 (-1)]⟩, ⟨40, [], .string (dirB q)⟩, ⟨38, [], pt x⟩]) [0, 0, 0, 0, 0] (by kernel_rfl) (j := 8) rfl ?_
        refine GL_buildSlice (i := 8) (ch := []) (e := 94) (l := [(0, .agg #[.string p, .int .i64 (-1)]), (1, .agg #[.string q, .int .i64 (atR M.names p)])]) (c := [.string p, .int .i64 (-1), .string q, .int .i64 (atR M.names p)]) rfl rfl (by kernel_rfl) (by kernel_rfl) (by kernel_rfl) (by kernel_rfl) (by kernel_rfl) (fun b4 => ?_)
        refine GL_heap rfl (H' := ([(x, .cells #[.int .i64 M.room, .slice s.ba s.bn s.bc, .slice s.na s.nn s.nc, .slice s.ka s.kn s.kc, .slice s.ca s.cn s.cc, .bool ((callS M.fails M.once M.calls (((rightB p) && (rightB q)) && ((dirB p).toList == (dirB q).toList))).2.1), .bool M.once, .int .i64 ((callS M.fails M.once M.calls (((rightB p) && (rightB q)) && ((dirB p).toList == (dirB q).toList))).2.2)] 86 (0, 0))] :: s.bg :: s.cg :: [(b4, .cells #[.string p, .int .i64 (-1), .string q, .int .i64 (atR M.names p)] 94 (0, 0))] :: (s.Z ++ H))) (fun w h => (((h.front (j := 3) rfl).front (j := 3) rfl).front (j := 3) rfl)) ?_
        refine GL_call (i := 9) (ch := []) (f := 64) (fst := #[]) (caps := #[]) (vs := [pt x, .string (dirB q), .slice (some ⟨b4, 0, none⟩) 2 2]) rfl rfl rfl (by kernel_rfl) (by kernel_rfl) Try.func64 rfl rfl (by kernel_rfl) (by kernel_rfl) (chSure_of (by kernel_rfl)) (rChange x { s with Z := [(b4, .cells #[.string p, .int .i64 (-1), .string q, .int .i64 (atR M.names p)] 94 (0, 0))] :: s.Z } (callM M (renR p q)) (ok_rZ (ok_rcall h _) _) hsn (by show M.changes.length ≤ _; omega) (dirB q) [(p, (-1)), (q, (atR M.names p))] (some ⟨b4, 0, none⟩) 2 (Rd.mono (Rd.lit (c := [.string p, .int .i64 (-1), .string q, .int .i64 (atR M.names p)])) (fun _ _ h => inZ_hd h)) (Nat.le_of_ble_eq_true rfl) (fun y hy h0 => by
                    rcases List.mem_cons.1 hy with rfl | hy
                    · exact absurd h0 (show ¬ (0 : Int) ≤ -1 by decide)
                    · rw [List.mem_singleton.1 hy]; exact hki) _ H) ?_
        rintro v H' ⟨rfl, sr2, hsr2, rfl⟩
        refine GL_fin (E' := []) [] [] rfl (by kernel_rfl) ?_
        refine N_then ?_
        refine G_seq ?_
        refine G_pure (E' := [⟨6, [], .int .i64 0⟩]) [0] [6] rfl (by kernel_rfl) ?_
        refine N_then ?_
        refine G_ret ?_
        refine N_ret [.tmp 6] [.int .i64 0] rfl (by kernel_rfl) rfl ?_
        rw [renameM_ok he hlk hs]
        exact ⟨rfl, sr2, hsr2, rfl⟩
      ·
        have hs : (p == q) = true := by (have h0 := hc3; rw [tlEq] at h0; simpa using h0)
        -- L stay
        refine G_skip ?_
        refine N_then ?_
        refine G_seq ?_
        refine G_pure (E' := [⟨6, [], .int .i64 0⟩]) [0] [6] rfl (by kernel_rfl) ?_
        refine N_then ?_
        refine G_ret ?_
        refine N_ret [.tmp 6] [.int .i64 0] rfl (by kernel_rfl) rfl ?_
        rw [renameM_same he hlk hs]
        exact ⟨rfl, s, ok_rcall h _, rfl⟩
theorem rSync (x : Nat) (s : RS) (M : DM) (h : s.ok M) (hm : SmallR M) (p : ByteArray) (hp : p.size ≤ 9223372036854775807) (W0 : World) (H : List Grp) : Tri Try.prog 50 #[pt x, .string p] W0 ([(x, .cells #[.int .i64 M.room, .slice s.ba s.bn s.bc, .slice s.na s.nn s.nc, .slice s.ka s.kn s.kc, .slice s.ca s.cn s.cc, .bool M.fails, .bool M.once, .int .i64 M.calls] 86 (0, 0))] :: s.bg :: s.cg :: (s.Z ++ H)) (IsR x (syncM M p).2 (.int .i64 (syncM M p).1) H) := by
  have hnn := h.nn
  have hbn := h.bn
  have hkn := h.kn
  have hcn := h.cn
  have hch := h.chs.len
  have hus := used_le hm.small fun x hx => (h.well.names x hx).2
  have hsn := hm.small.names
  have hsb := hm.small.bodies
  have hsc := hm.small.changes
  have hskn : M.kept.length ≤ 10000 := Nat.le_trans (Nat.le_add_right _ _) hm.kept
  have hsca := hm.small.calls
  have hnb : ∀ y ∈ M.names, 0 ≤ y.2 := fun y hy => (h.well.names y hy).1
  refine Tri_of (args := [pt x, .string p]) (n := 37) Try.func50 rfl rfl (Nat.le_of_ble_eq_true rfl) ?_
  refine G_seq ?_
  refine G_pure (E' := [⟨0, [], pt x⟩, ⟨1, [], .string p⟩]) [0] [0, 1] rfl (by kernel_rfl) ?_
  refine N_then ?_
  refine G_seq ?_
  refine G_seq ?_
  refine G_region ?_
  refine GL_pure (E' := [⟨8, [], .string p⟩, ⟨7, [], pt x⟩, ⟨0, [], pt x⟩, ⟨1, [], .string p⟩]) [0, 0] (by kernel_rfl) (j := 2) rfl ?_
  refine GL_callQ (i := 2) (ch := []) (f := 11) (fst := #[]) (caps := #[]) (vs := [.string p]) (v := .bool (rightB p)) rfl rfl rfl (by kernel_rfl) (by kernel_rfl) Try.func11 rfl rfl (by kernel_rfl) (by kernel_rfl) (by kernel_rfl) (fun _ => refRight _ hp _ _) ?_
  refine GL_call (i := 3) (ch := []) (f := 63) (fst := #[]) (caps := #[]) (vs := [pt x, .bool (rightB p)]) rfl rfl rfl (by kernel_rfl) (by kernel_rfl) Try.func63 rfl rfl (by kernel_rfl) (by kernel_rfl) (chSure_of (by kernel_rfl)) (rCall x M.room M.calls (.slice s.ba s.bn s.bc) (.slice s.na s.nn s.nc) (.slice s.ka s.kn s.kc) (.slice s.ca s.cn s.cc) M.fails M.once (rightB p) hsca _ _) ?_
  rintro v H' ⟨rfl, rfl⟩
  refine GL_fin (E' := [⟨0, [], pt x⟩, ⟨1, [], .string p⟩, ⟨5, [], .int .i64 ((callS M.fails M.once M.calls (rightB p)).1)⟩]) [0] [0, 1, 5] rfl (by kernel_rfl) ?_
  refine N_then ?_
  refine G_seq ?_
  refine G_pure (E' := [⟨0, [], pt x⟩, ⟨1, [], .string p⟩, ⟨5, [], .int .i64 ((callS M.fails M.once M.calls (rightB p)).1)⟩, ⟨12, [], .bool (((callS M.fails M.once M.calls (rightB p)).1) != 0)⟩]) [0, 0] [0, 1, 5, 12] rfl (by kernel_rfl) ?_
  refine N_then ?_
  refine G_cond (b := ((callS M.fails M.once M.calls (rightB p)).1) != 0) (by kernel_rfl) (fun hc1 => ?_) (fun hc1 => ?_)
  ·
    have he : errM M (rightB p) ≠ 0 := bne_iff_ne.1 hc1
    -- L err
    refine G_seq ?_
    refine G_pure (E' := [⟨4, [], .int .i64 ((callS M.fails M.once M.calls (rightB p)).1)⟩]) [0, 0] [4] rfl (by kernel_rfl) ?_
    refine N_then ?_
    refine G_ret ?_
    refine N_then_ret ?_
    refine N_heap (H' := ([(x, .cells #[.int .i64 M.room, .slice s.ba s.bn s.bc, .slice s.na s.nn s.nc, .slice s.ka s.kn s.kc, .slice s.ca s.cn s.cc, .bool ((callS M.fails M.once M.calls (rightB p)).2.1), .bool M.once, .int .i64 ((callS M.fails M.once M.calls (rightB p)).2.2)] 86 (0, 0))] :: s.bg :: s.cg :: (s.Z ++ H))) (fun w h => (((h.front (j := 2) rfl).front (j := 2) rfl).front (j := 2) rfl)) ?_
    refine N_ret [.tmp 4] [.int .i64 ((callS M.fails M.once M.calls (rightB p)).1)] rfl (by kernel_rfl) rfl ?_
    rw [syncM_err he]
    exact ⟨rfl, s, ok_rcall h _, rfl⟩
  ·
    have he : errM M (rightB p) = 0 := by (have h0 := hc1; simp only [bne_eq_false_iff_eq] at h0; exact h0)
    refine G_skip ?_
    refine N_then ?_
    refine G_seq ?_
    refine G_region ?_
    refine GL_pure (E' := [⟨16, [], .pointer (some ⟨x, 2, none⟩)⟩, ⟨0, [], pt x⟩, ⟨1, [], .string p⟩]) [0, 0, 0] (by kernel_rfl) (j := 3) rfl ?_
    refine GL_load (i := 3) (ch := []) (b := x) (off := 2) (v := .slice s.na s.nn s.nc) rfl rfl (by kernel_rfl) (by kernel_rfl) (by kernel_rfl) (by kernel_rfl) (by kernel_rfl) (At.grp 0 0 rfl rfl) rfl ?_
    refine GL_pure (E' := [⟨18, [], .string p⟩, ⟨17, [], .slice s.na s.nn s.nc⟩, ⟨0, [], pt x⟩]) [0] (by kernel_rfl) (j := 5) rfl ?_
    refine GL_call (i := 5) (ch := []) (f := 54) (fst := #[]) (caps := #[]) (vs := [.slice s.na s.nn s.nc, .string p]) rfl rfl rfl (by kernel_rfl) (by kernel_rfl) Try.func54 rfl rfl (by kernel_rfl) (by kernel_rfl) (chSure_of (by kernel_rfl)) (rAtN s.na s.nc (inZ s.Z) M.names p h.names (by omega) _ _ (fun y o h => (At.cons (At.cons (At.cons (at_inZ h))))) s.nn hnn) ?_
    rintro v H' ⟨rfl, rfl⟩
    refine GL_fin (E' := [⟨0, [], pt x⟩, ⟨6, [], .int .i64 (atR M.names p)⟩]) [0] [0, 6] rfl (by kernel_rfl) ?_
    refine N_then ?_
    refine G_seq ?_
    refine G_seq ?_
    refine G_pure (E' := [⟨0, [], pt x⟩, ⟨6, [], .int .i64 (atR M.names p)⟩, ⟨21, [], .bool (decide ((atR M.names p) < 0))⟩]) [0, 0] [0, 6, 21] rfl (by kernel_rfl) ?_
    refine N_then ?_
    refine G_cond (b := decide ((atR M.names p) < 0)) (by kernel_rfl) (fun hc2 => ?_) (fun hc2 => ?_)
    ·
      have hk := of_decide_eq_true hc2
      have hlk := atR_no hnb hk
      -- L no
      refine G_seq ?_
      refine G_pure (E' := [⟨4, [], .int .i64 60⟩]) [0] [4] rfl (by kernel_rfl) ?_
      refine N_then ?_
      refine G_ret ?_
      refine N_then_ret ?_
      refine N_heap (H' := ([(x, .cells #[.int .i64 M.room, .slice s.ba s.bn s.bc, .slice s.na s.nn s.nc, .slice s.ka s.kn s.kc, .slice s.ca s.cn s.cc, .bool ((callS M.fails M.once M.calls (rightB p)).2.1), .bool M.once, .int .i64 ((callS M.fails M.once M.calls (rightB p)).2.2)] 86 (0, 0))] :: s.bg :: s.cg :: (s.Z ++ H))) (fun w h => (((h.front (j := 2) rfl).front (j := 2) rfl).front (j := 2) rfl)) ?_
      refine N_ret [.tmp 4] [.int .i64 60] rfl (by kernel_rfl) rfl ?_
      rw [syncM_no he hlk]
      exact ⟨rfl, s, ok_rcall h _, rfl⟩
    ·
      have hk : 0 ≤ atR M.names p := by (have h0 := of_decide_eq_false hc2; omega)
      have hlk := atR_some hk
      have hki := ok_at h.well hk
      have hsz := hm.small.size _ (getD_memG (l := M.bodies) (i := (atR M.names p).toNat) hki)
      refine G_skip ?_
      refine N_then ?_
      refine G_seq ?_
      refine G_regionH ([(x, .cells #[.int .i64 M.room, .slice s.ba s.bn s.bc, .slice s.na s.nn s.nc, .slice s.ka s.kn s.kc, .slice s.ca s.cn s.cc, .bool ((callS M.fails M.once M.calls (rightB p)).2.1), .bool M.once, .int .i64 ((callS M.fails M.once M.calls (rightB p)).2.2)] 86 (0, 0))] :: s.cg :: (s.Z ++ H)) (by kernel_rfl) ?_
      refine GH_pure (E' := [⟨22, [], pt x⟩, ⟨0, [], pt x⟩, ⟨6, [], .int .i64 (atR M.names p)⟩]) 0 0 (by kernel_rfl) (fun w h => (((h.front (j := 2) rfl).front (j := 1) rfl).erase 2)) (by kernel_rfl) ?_
      refine GH_nil (ad := ⟨x, 0, none⟩) 1 rfl rfl rfl (by kernel_rfl) (by kernel_rfl) (by kernel_rfl) (by kernel_rfl) (by kernel_rfl) (fun w h => (((h.front (j := 2) rfl).front (j := 1) rfl).erase 2)) ?_
      refine GH_pure (E' := [⟨24, [], .pointer (some ⟨x, 1, none⟩)⟩, ⟨0, [], pt x⟩, ⟨6, [], .int .i64 (atR M.names p)⟩]) 2 0 (by kernel_rfl) (fun w h => (((h.front (j := 2) rfl).front (j := 1) rfl).erase 2)) (by kernel_rfl) ?_
      refine GH_take' (E' := [⟨25, [], .slice s.ba s.bn s.bc⟩, ⟨24, [], .pointer (some ⟨x, 1, none⟩)⟩, ⟨0, [], pt x⟩, ⟨6, [], .int .i64 (atR M.names p)⟩]) 3 (by kernel_rfl) (fun w h => (((h.front (j := 2) rfl).front (j := 1) rfl).erase 2)) ?_ ?_
      ·
        refine GL_load (i := 3) (ch := []) (b := x) (off := 1) (v := .slice s.ba s.bn s.bc) rfl rfl (by kernel_rfl) (by kernel_rfl) (by kernel_rfl) (by kernel_rfl) (by kernel_rfl) (At.grp 0 0 rfl rfl) rfl ?_
        exact GL_yend (by kernel_rfl) (by kernel_rfl)
      refine GH_pure (E' := [⟨26, [], .int .i64 (atR M.names p)⟩, ⟨25, [], .slice s.ba s.bn s.bc⟩, ⟨0, [], pt x⟩, ⟨6, [], .int .i64 (atR M.names p)⟩]) 4 0 (by kernel_rfl) (fun w h => (((h.front (j := 2) rfl).front (j := 1) rfl).erase 2)) (by kernel_rfl) ?_
      refine GH_pure (E' := [⟨27, [], pt x⟩, ⟨26, [], .int .i64 (atR M.names p)⟩, ⟨25, [], .slice s.ba s.bn s.bc⟩, ⟨6, [], .int .i64 (atR M.names p)⟩]) 5 0 (by kernel_rfl) (fun w h => (((h.front (j := 2) rfl).front (j := 1) rfl).erase 2)) (by kernel_rfl) ?_
      refine GH_nil (ad := ⟨x, 0, none⟩) 6 rfl rfl rfl (by kernel_rfl) (by kernel_rfl) (by kernel_rfl) (by kernel_rfl) (by kernel_rfl) (fun w h => (((h.front (j := 2) rfl).front (j := 1) rfl).erase 2)) ?_
      refine GH_pure (E' := [⟨29, [], .pointer (some ⟨x, 1, none⟩)⟩, ⟨26, [], .int .i64 (atR M.names p)⟩, ⟨25, [], .slice s.ba s.bn s.bc⟩, ⟨6, [], .int .i64 (atR M.names p)⟩]) 7 0 (by kernel_rfl) (fun w h => (((h.front (j := 2) rfl).front (j := 1) rfl).erase 2)) (by kernel_rfl) ?_
      refine GH_take' (E' := [⟨30, [], .slice s.ba s.bn s.bc⟩, ⟨29, [], .pointer (some ⟨x, 1, none⟩)⟩, ⟨26, [], .int .i64 (atR M.names p)⟩, ⟨25, [], .slice s.ba s.bn s.bc⟩, ⟨6, [], .int .i64 (atR M.names p)⟩]) 8 (by kernel_rfl) (fun w h => (((h.front (j := 2) rfl).front (j := 1) rfl).erase 2)) ?_ ?_
      ·
        refine GL_load (i := 8) (ch := []) (b := x) (off := 1) (v := .slice s.ba s.bn s.bc) rfl rfl (by kernel_rfl) (by kernel_rfl) (by kernel_rfl) (by kernel_rfl) (by kernel_rfl) (At.grp 0 0 rfl rfl) rfl ?_
        exact GL_yend (by kernel_rfl) (by kernel_rfl)
      refine GH_pure (E' := [⟨31, [], .int .i64 (atR M.names p)⟩, ⟨30, [], .slice s.ba s.bn s.bc⟩, ⟨26, [], .int .i64 (atR M.names p)⟩, ⟨25, [], .slice s.ba s.bn s.bc⟩]) 9 0 (by kernel_rfl) (fun w h => (((h.front (j := 2) rfl).front (j := 1) rfl).erase 2)) (by kernel_rfl) ?_
      refine GH_take' (E' := [⟨32, [], .pointer (some (eltA s.ba ((Int.toNat (atR M.names p)) * 2)))⟩, ⟨31, [], .int .i64 (atR M.names p)⟩, ⟨30, [], .slice s.ba s.bn s.bc⟩, ⟨26, [], .int .i64 (atR M.names p)⟩, ⟨25, [], .slice s.ba s.bn s.bc⟩]) 10 (by kernel_rfl) (fun w h => (((h.front (j := 2) rfl).front (j := 1) rfl).erase 2)) ?_ ?_
      ·
        refine GL_indexAddr (i := 10) (ch := []) (a := s.ba) (len := s.bn) (cap := s.bc) (kd := .i64) (j := (atR M.names p)) (e := 92) (sz := 2) (S := (inG s.bg)) (cs := (bdC M.bodies)) rfl rfl (by kernel_rfl) (by kernel_rfl) (by kernel_rfl) (by kernel_rfl) (by kernel_rfl) (by kernel_rfl) (by kernel_rfl) (own_rd h.own) (fun _ => by exact ⟨by omega, by omega, bdC_ne hki⟩) ?_
        exact GL_yend (by kernel_rfl) (by kernel_rfl)
      refine GH_pure (E' := [⟨33, [], .pointer (some (eltA s.ba ((Int.toNat (atR M.names p)) * 2)))⟩, ⟨26, [], .int .i64 (atR M.names p)⟩, ⟨25, [], .slice s.ba s.bn s.bc⟩]) 11 0 (by kernel_rfl) (fun w h => (((h.front (j := 2) rfl).front (j := 1) rfl).erase 2)) (by kernel_rfl) ?_
      refine GH_eff 12 (by kernel_rfl) (by kernel_rfl) (by kernel_rfl) ?_
      refine GL_loadS (i := 12) (ch := []) (a := s.ba) (q := (Int.toNat (atR M.names p)) * 2) (S := (inG s.bg)) (cs := (bdC M.bodies)) (v := .string ((M.bodies.getD (Int.toNat (atR M.names p)) default).now)) rfl rfl (by kernel_rfl) (by kernel_rfl) (by kernel_rfl) (by kernel_rfl) (by kernel_rfl) (own_rd h.own) (at_inG 1 rfl) (fun _ => (bdC_at0 (by omega))) ?_
      refine GH_back (by kernel_rfl) (fun w h => (((h.front (j := 2) rfl).front (j := 1) rfl).erase 2)) ?_
      refine GH_take' (E' := [⟨35, [], .pointer (some (eltA s.ba ((Int.toNat (atR M.names p)) * 2)))⟩, ⟨34, [], .string ((M.bodies.getD (Int.toNat (atR M.names p)) default).now)⟩, ⟨33, [], .pointer (some (eltA s.ba ((Int.toNat (atR M.names p)) * 2)))⟩, ⟨26, [], .int .i64 (atR M.names p)⟩, ⟨25, [], .slice s.ba s.bn s.bc⟩]) 13 (by kernel_rfl) (fun w h => (((h.front (j := 2) rfl).front (j := 1) rfl).erase 2)) ?_ ?_
      ·
        refine GL_indexAddr (i := 13) (ch := []) (a := s.ba) (len := s.bn) (cap := s.bc) (kd := .i64) (j := (atR M.names p)) (e := 92) (sz := 2) (S := (inG s.bg)) (cs := (bdC M.bodies)) rfl rfl (by kernel_rfl) (by kernel_rfl) (by kernel_rfl) (by kernel_rfl) (by kernel_rfl) (by kernel_rfl) (by kernel_rfl) (own_rd h.own) (fun _ => by exact ⟨by omega, by omega, bdC_ne hki⟩) ?_
        exact GL_yend (by kernel_rfl) (by kernel_rfl)
      have hw3 : Addr.add (eltA s.ba ((Int.toNat (atR M.names p)) * 2)) 1 = eltA s.ba ((Int.toNat (atR M.names p)) * 2 + 1) := eltA_add _ _ _
      refine GH_pure (E' := [⟨36, [], .pointer (some (eltA s.ba ((Int.toNat (atR M.names p)) * 2 + 1)))⟩, ⟨34, [], .string ((M.bodies.getD (Int.toNat (atR M.names p)) default).now)⟩]) 14 0 (by kernel_rfl) (fun w h => (((h.front (j := 2) rfl).front (j := 1) rfl).erase 2)) (Eq.trans (b := some [⟨36, [], .pointer (some (Addr.add (eltA s.ba ((Int.toNat (atR M.names p)) * 2)) 1))⟩, ⟨34, [], .string ((M.bodies.getD (Int.toNat (atR M.names p)) default).now)⟩]) (by kernel_rfl) (by simp only [hw3])) ?_
      refine GH_eff 15 (by kernel_rfl) (by kernel_rfl) (by kernel_rfl) ?_
      refine GL_storeO (i := 15) (ch := []) (a := s.ba) (q := (Int.toNat (atR M.names p)) * 2 + 1) (len := s.bn) (cap := s.bc) (v := .string ((M.bodies.getD (Int.toNat (atR M.names p)) default).now)) (g := s.bg) (j := 1) (cs := (bdC M.bodies)) (cs' := (bdC (M.bodies.set (Int.toNat (atR M.names p)) ⟨(M.bodies.getD (Int.toNat (atR M.names p)) default).now, (M.bodies.getD (Int.toNat (atR M.names p)) default).now⟩))) rfl rfl (by kernel_rfl) (by kernel_rfl) (by kernel_rfl) (by kernel_rfl) rfl (by kernel_rfl) (by kernel_rfl) (by kernel_rfl) rfl h.own (by rw [bdC_len]; omega) bdC_kept (fun g4 hO5 => ?_)
      refine GH_back (by kernel_rfl) (fun w h => (((h.front (j := 2) rfl).front (j := 1) rfl).erase 2)) ?_
      refine GH_done (E' := []) [] (by kernel_rfl) (by kernel_rfl) ?_
      refine N_then ?_
      refine G_seq ?_
      refine G_pure (E' := [⟨4, [], .int .i64 0⟩]) [0] [4] rfl (by kernel_rfl) ?_
      refine N_then ?_
      refine G_ret ?_
      refine N_heap (H' := ([(x, .cells #[.int .i64 M.room, .slice s.ba s.bn s.bc, .slice s.na s.nn s.nc, .slice s.ka s.kn s.kc, .slice s.ca s.cn s.cc, .bool ((callS M.fails M.once M.calls (rightB p)).2.1), .bool M.once, .int .i64 ((callS M.fails M.once M.calls (rightB p)).2.2)] 86 (0, 0))] :: g4 :: s.cg :: (s.Z ++ H))) (fun w h => (((h.front (j := 2) rfl).front (j := 2) rfl).front (j := 2) rfl)) ?_
      refine N_ret [.tmp 4] [.int .i64 0] rfl (by kernel_rfl) rfl ?_
      rw [syncM_ok he hlk]
      exact ⟨rfl, _, ok_rset (ok_rcall h _) hO5 (pre_same _), rfl⟩
theorem rFail (x : Nat) (s : RS) (M : DM) (h : s.ok M) (n : Int) (o : Bool) (W0 : World) (H : List Grp) : Tri Try.prog 52 #[pt x, .int .i64 n, .bool o] W0 ([(x, .cells #[.int .i64 M.room, .slice s.ba s.bn s.bc, .slice s.na s.nn s.nc, .slice s.ka s.kn s.kc, .slice s.ca s.cn s.cc, .bool M.fails, .bool M.once, .int .i64 M.calls] 86 (0, 0))] :: s.bg :: s.cg :: (s.Z ++ H)) (IsR x (failM M n o) (.tuple #[]) H) := by
  skip
  refine Tri_of (args := [pt x, .int .i64 n, .bool o]) (n := 18) Try.func52 rfl rfl (Nat.le_of_ble_eq_true rfl) ?_
  refine G_seq ?_
  refine G_region ?_
  refine GL_pure (E' := [⟨8, [], .pointer (some ⟨x, 5, none⟩)⟩, ⟨0, [], pt x⟩, ⟨1, [], .int .i64 n⟩, ⟨2, [], .bool o⟩]) [0, 0, 0] (by kernel_rfl) (j := 3) rfl ?_
  refine GL_store (i := 3) (ch := []) (b := x) (off := 5) (v := .bool true) (c := #[.int .i64 M.room, .slice s.ba s.bn s.bc, .slice s.na s.nn s.nc, .slice s.ka s.kn s.kc, .slice s.ca s.cn s.cc, .bool M.fails, .bool M.once, .int .i64 M.calls]) (c' := #[.int .i64 M.room, .slice s.ba s.bn s.bc, .slice s.na s.nn s.nc, .slice s.ka s.kn s.kc, .slice s.ca s.cn s.cc, .bool true, .bool M.once, .int .i64 M.calls]) (j := 0) (m := 0) (H' := ([(x, .cells #[.int .i64 M.room, .slice s.ba s.bn s.bc, .slice s.na s.nn s.nc, .slice s.ka s.kn s.kc, .slice s.ca s.cn s.cc, .bool true, .bool M.once, .int .i64 M.calls] 86 (0, 0))] :: s.bg :: s.cg :: (s.Z ++ H))) rfl rfl (by kernel_rfl) (by kernel_rfl) (by kernel_rfl) (by kernel_rfl) (by kernel_rfl) (by kernel_rfl) (by kernel_rfl) rfl rfl (Nat.le_of_ble_eq_true rfl) (fun _ _ => thaw0) (by kernel_rfl) (by kernel_rfl) ?_
  refine GL_fin (E' := [⟨0, [], pt x⟩, ⟨1, [], .int .i64 n⟩, ⟨2, [], .bool o⟩]) [] [0, 1, 2] rfl (by kernel_rfl) ?_
  refine N_then ?_
  refine G_seq ?_
  refine G_region ?_
  refine GL_pure (E' := [⟨12, [], .pointer (some ⟨x, 6, none⟩)⟩, ⟨10, [], .bool o⟩, ⟨0, [], pt x⟩, ⟨1, [], .int .i64 n⟩]) [0, 0, 0, 0] (by kernel_rfl) (j := 4) rfl ?_
  refine GL_store (i := 4) (ch := []) (b := x) (off := 6) (v := .bool o) (c := #[.int .i64 M.room, .slice s.ba s.bn s.bc, .slice s.na s.nn s.nc, .slice s.ka s.kn s.kc, .slice s.ca s.cn s.cc, .bool true, .bool M.once, .int .i64 M.calls]) (c' := #[.int .i64 M.room, .slice s.ba s.bn s.bc, .slice s.na s.nn s.nc, .slice s.ka s.kn s.kc, .slice s.ca s.cn s.cc, .bool true, .bool o, .int .i64 M.calls]) (j := 0) (m := 0) (H' := ([(x, .cells #[.int .i64 M.room, .slice s.ba s.bn s.bc, .slice s.na s.nn s.nc, .slice s.ka s.kn s.kc, .slice s.ca s.cn s.cc, .bool true, .bool o, .int .i64 M.calls] 86 (0, 0))] :: s.bg :: s.cg :: (s.Z ++ H))) rfl rfl (by kernel_rfl) (by kernel_rfl) (by kernel_rfl) (by kernel_rfl) (by kernel_rfl) (by kernel_rfl) (by kernel_rfl) rfl rfl (Nat.le_of_ble_eq_true rfl) (fun _ _ => thaw0) (by kernel_rfl) (by kernel_rfl) ?_
  refine GL_fin (E' := [⟨0, [], pt x⟩, ⟨1, [], .int .i64 n⟩]) [] [0, 1] rfl (by kernel_rfl) ?_
  refine N_then ?_
  refine G_region ?_
  refine GL_pure (E' := [⟨17, [], .pointer (some ⟨x, 7, none⟩)⟩, ⟨15, [], .int .i64 (if 0 > n then 0 else n)⟩]) [0, 0, 0, 0, 0] (by kernel_rfl) (j := 5) rfl ?_
  refine GL_store (i := 5) (ch := []) (b := x) (off := 7) (v := .int .i64 (if 0 > n then 0 else n)) (c := #[.int .i64 M.room, .slice s.ba s.bn s.bc, .slice s.na s.nn s.nc, .slice s.ka s.kn s.kc, .slice s.ca s.cn s.cc, .bool true, .bool o, .int .i64 M.calls]) (c' := #[.int .i64 M.room, .slice s.ba s.bn s.bc, .slice s.na s.nn s.nc, .slice s.ka s.kn s.kc, .slice s.ca s.cn s.cc, .bool true, .bool o, .int .i64 (if 0 > n then 0 else n)]) (j := 0) (m := 0) (H' := ([(x, .cells #[.int .i64 M.room, .slice s.ba s.bn s.bc, .slice s.na s.nn s.nc, .slice s.ka s.kn s.kc, .slice s.ca s.cn s.cc, .bool true, .bool o, .int .i64 (if 0 > n then 0 else n)] 86 (0, 0))] :: s.bg :: s.cg :: (s.Z ++ H))) rfl rfl (by kernel_rfl) (by kernel_rfl) (by kernel_rfl) (by kernel_rfl) (by kernel_rfl) (by kernel_rfl) (by kernel_rfl) rfl rfl (Nat.le_of_ble_eq_true rfl) (fun _ _ => thaw0) (by kernel_rfl) (by kernel_rfl) ?_
  refine GL_fin (E' := []) [] [] rfl (by kernel_rfl) ?_
  refine N_ret [] [] rfl (by kernel_rfl) rfl ?_
  exact ⟨rfl, s, ⟨h.bn, h.own, h.nn, h.names, h.kn, h.kept, h.cn, h.own2, h.chs, ⟨h.well.names, h.well.kept, h.well.chs, h.well.pre⟩⟩, rfl⟩
theorem rNew0 (room : Int) (W0 : World) (H : List Grp) : Tri Try.prog 23 #[.int .i64 room] W0 H (fun v H' => ∃ x, v = .pointer (some ⟨x, 0, none⟩) ∧ H' = [(x, .cells #[.int .i64 (if 0 > room then 0 else room), .slice none 0 0, .slice none 0 0, .slice none 0 0, .slice none 0 0, .bool false, .bool false, .int .i64 0] 86 (0, 0))] :: H) := by
  refine Tri_of (args := [.int .i64 room]) (n := 7) Try.func23 rfl rfl (Nat.le_of_ble_eq_true rfl) ?_
  refine G_seq ?_
  refine G_pure (E' := [⟨0, [], .int .i64 room⟩]) [0] [0] rfl (by kernel_rfl) ?_
  refine N_then ?_
  refine G_seq ?_
  refine G_region ?_
  refine GL_pure (E' := [⟨5, [], .agg #[.int .i64 (if 0 > room then 0 else room), .slice none 0 0, .slice none 0 0, .slice none 0 0, .slice none 0 0, .bool false, .bool false, .int .i64 0]⟩]) [0, 0, 0] (by kernel_rfl) (j := 3) rfl ?_
  refine GL_box (i := 3) (ch := []) (v := .agg #[.int .i64 (if 0 > room then 0 else room), .slice none 0 0, .slice none 0 0, .slice none 0 0, .slice none 0 0, .bool false, .bool false, .int .i64 0]) rfl rfl (by kernel_rfl) (by kernel_rfl) (by kernel_rfl) (by kernel_rfl) (fun b1 => ?_)
  refine GL_fin (E' := [⟨2, [], pt b1⟩]) [0] [2] rfl (by kernel_rfl) ?_
  refine N_then ?_
  refine G_ret ?_
  refine N_ret [.tmp 2] [pt b1] rfl (by kernel_rfl) rfl ?_
  exact ⟨_, rfl, rfl⟩
theorem rNew (room : Int) (W0 : World) (H : List Grp) : Tri Try.prog 23 #[.int .i64 room] W0 H (fun v H' => ∃ x, v = .pointer (some ⟨x, 0, none⟩) ∧ ∃ s : RS, s.ok (newM room) ∧ H' = s.G x (newM room) ++ H) :=
  Tri.post (rNew0 room W0 H) fun v H1 ⟨x, hv, hH⟩ => ⟨_, ⟨x, hv, ⟨0, none, 0, [], 0, none, 0, 0, none, 0, 0, none, 0, [], [], []⟩, ⟨rfl, Own.nil, rfl, .inl rfl, rfl, .inl rfl, rfl, Own.nil, .nil, ⟨fun y hy => absurd hy List.not_mem_nil, fun y hy => absurd hy List.not_mem_nil, fun c hc => absurd hc List.not_mem_nil, fun B hB => absurd hB List.not_mem_nil⟩⟩, rfl⟩, fun w hw => by
    rw [hH] at hw
    exact flat_nil' (A := [_, _]) (flat_nil' (A := [_]) hw)⟩
end Go.Proofs.Ytbmieiffboenbaa
namespace Go.Vf
open Go.Sw Go.RowKit
def kstep {α : Type} (dirOf : α → ByteArray) (lOf : α → List Nm) (d : ByteArray) (st : Nat × List α × List Nm) (c : α) : Nat × List α × List Nm :=
  if !((dirOf c).toList == d.toList) || st.1 == 0 then (st.1, st.2.1 ++ [c], st.2.2) else (st.1 - 1, st.2.1, applyN st.2.2 (lOf c))
def keepL (d : ByteArray) (n : Nat) (K : List Nm) (l : List Ch) : Nat × List Ch × List Nm := l.foldl (kstep Ch.dir Ch.l d) (n, [], K)
def keepR (d : ByteArray) (n : Nat) (K : List Nm) (l : List CR) : Nat × List CR × List Nm := l.foldl (kstep CR.dir CR.l d) (n, [], K)
def keepM (M : DM) (d : ByteArray) (n : Nat) : DM := { M with kept := (keepL d n M.kept M.changes).2.2, changes := (keepL d n M.kept M.changes).2.1 }
theorem keepR_put {d : ByteArray} {n n1 : Nat} {K kl : List Nm} {l rs : List CR} {k : Nat} (hk : k < l.length) (h : keepR d n K (l.take k) = (n1, rs, kl)) (hc : (!((l.getD k default).dir.toList == d.toList) || ((n1 : Nat) : Int) == 0) = true) : keepR d n K (l.take (k + 1)) = (n1, rs ++ [l.getD k default], kl) := by
  unfold keepR at h ⊢
  rw [take_snoc (d := default) hk, List.foldl_append, h, List.foldl_cons, List.foldl_nil, kstep, if_pos]
  simp only [Bool.or_eq_true, beq_iff_eq] at hc ⊢
  rcases hc with hc | hc
  · exact .inl hc
  · exact .inr (by omega)
theorem keepR_not {d : ByteArray} {n n1 : Nat} {K kl : List Nm} {l rs : List CR} {k : Nat} (hk : k < l.length) (h : keepR d n K (l.take k) = (n1, rs, kl)) (hc : (!((l.getD k default).dir.toList == d.toList) || ((n1 : Nat) : Int) == 0) = false) : keepR d n K (l.take (k + 1)) = (n1 - 1, rs, applyN kl (l.getD k default).l) := by
  unfold keepR at h ⊢
  rw [take_snoc (d := default) hk, List.foldl_append, h, List.foldl_cons, List.foldl_nil, kstep, if_neg]
  simp only [Bool.or_eq_false_iff, beq_eq_false_iff_ne, ne_eq] at hc
  simp only [Bool.or_eq_true, beq_iff_eq, not_or]
  exact ⟨by rw [hc.1]; decide, fun e => hc.2 (by omega)⟩
theorem keep_rel {Z : List Grp} {d : ByteArray} : ∀ {cs : List CR} {C : List Ch}, All2 (CRok Z) cs C → ∀ {n : Nat} {rs : List CR} {RS : List Ch} {K : List Nm}, All2 (CRok Z) rs RS →
    (cs.foldl (kstep CR.dir CR.l d) (n, rs, K)).1 = (C.foldl (kstep Ch.dir Ch.l d) (n, RS, K)).1 ∧ All2 (CRok Z) (cs.foldl (kstep CR.dir CR.l d) (n, rs, K)).2.1 (C.foldl (kstep Ch.dir Ch.l d) (n, RS, K)).2.1 ∧ (cs.foldl (kstep CR.dir CR.l d) (n, rs, K)).2.2 = (C.foldl (kstep Ch.dir Ch.l d) (n, RS, K)).2.2
  | [], [], .nil, n, rs, RS, K, h => ⟨rfl, h, rfl⟩
  | c :: cs, C :: CS, .cons h1 ht, n, rs, RS, K, h => by
    rw [List.foldl_cons, List.foldl_cons, kstep, kstep, h1.dir, h1.l]
    split
    · exact keep_rel ht (h.app (.cons h1 .nil))
    · exact keep_rel ht h
theorem kstep_mem {d : ByteArray} : ∀ {l : List Ch} {n : Nat} {acc : List Ch} {K : List Nm}, ∀ c ∈ (l.foldl (kstep Ch.dir Ch.l d) (n, acc, K)).2.1, c ∈ acc ∨ c ∈ l
  | [], _, _, _, c, hc => .inl hc
  | x :: l, n, acc, K, c, hc => by
    rw [List.foldl_cons, kstep] at hc
    split at hc
    · rcases kstep_mem c hc with h | h
      · rcases List.mem_append.1 h with h | h
        · exact .inl h
        · rw [List.mem_singleton.1 h]; exact .inr List.mem_cons_self
      · exact .inr (List.mem_cons_of_mem _ h)
    · rcases kstep_mem c hc with h | h
      · exact .inl h
      · exact .inr (List.mem_cons_of_mem _ h)
theorem kstep_kept {d : ByteArray} : ∀ {l : List Ch} {n : Nat} {acc : List Ch} {K : List Nm}, (l.foldl (kstep Ch.dir Ch.l d) (n, acc, K)).2.2 = ((chOf l d).take n).foldl applyN K
  | [], _, _, _ => by simp [chOf]
  | x :: l, n, acc, K => by
    rw [List.foldl_cons, kstep]
    have e : (d == x.dir) = ((x.dir).toList == d.toList) := by rw [tlEq, Bool.eq_iff_iff, baEq, baEq]; exact eq_comm
    cases h : (x.dir).toList == d.toList
    · simp only [Bool.not_false, Bool.true_or, if_true]
      rw [kstep_kept, chOf, chOf, List.filter_cons, e, h]; simp
    · simp only [Bool.not_true, Bool.false_or]
      rw [show chOf (x :: l) d = x.l :: chOf l d by rw [chOf, chOf, List.filter_cons, e, h]; simp]
      cases n with
      | zero => simp only [beq_self_eq_true, if_true]; rw [kstep_kept]; simp
      | succ n => rw [if_neg (by simp)]; rw [kstep_kept]; simp
theorem kstep_rest {d : ByteArray} : ∀ {l : List Ch} {n : Nat} {acc : List Ch} {K : List Nm}, ((l.foldl (kstep Ch.dir Ch.l d) (n, acc, K)).2.1).filter (fun c => !(d == c.dir)) = acc.filter (fun c => !(d == c.dir)) ++ l.filter (fun c => !(d == c.dir))
  | [], _, _, _ => by simp
  | x :: l, n, acc, K => by
    rw [List.foldl_cons, kstep]
    have e : (d == x.dir) = ((x.dir).toList == d.toList) := by rw [tlEq, Bool.eq_iff_iff, baEq, baEq]; exact eq_comm
    split
    · rw [kstep_rest, List.filter_append, List.append_assoc, ← List.filter_append]; rfl
    · rename_i h
      simp only [Bool.or_eq_true, beq_iff_eq, not_or, Bool.not_eq_true', Bool.not_eq_false] at h
      rw [kstep_rest, List.filter_cons, e, h.1]; simp
theorem kstep_all {d : ByteArray} : ∀ {l : List Ch} {n : Nat} {acc : List Ch} {K : List Nm}, (chOf l d).length ≤ n → (l.foldl (kstep Ch.dir Ch.l d) (n, acc, K)).2.1 = acc ++ l.filter (fun c => !(d == c.dir))
  | [], _, _, _, _ => by simp
  | x :: l, n, acc, K, hn => by
    rw [List.foldl_cons, kstep]
    have e : (d == x.dir) = ((x.dir).toList == d.toList) := by rw [tlEq, Bool.eq_iff_iff, baEq, baEq]; exact eq_comm
    cases h : (x.dir).toList == d.toList
    · have ec : chOf (x :: l) d = chOf l d := by rw [chOf, chOf, List.filter_cons, e, h]; simp
      simp only [Bool.not_false, Bool.true_or, if_true]
      rw [kstep_all (by rwa [ec] at hn), List.filter_cons, e, h]; simp
    · have ec : chOf (x :: l) d = x.l :: chOf l d := by rw [chOf, chOf, List.filter_cons, e, h]; simp
      rw [ec, List.length_cons] at hn
      rw [if_neg (by simp; omega), kstep_all (by omega), List.filter_cons, e, h]; simp
theorem chOf_len (l : List Ch) (d : ByteArray) : (chOf l d).length ≤ l.length := by unfold chOf; rw [List.length_map]; exact List.length_filter_le _ _
theorem keepM_all (M : DM) (d : ByteArray) : keepM M d M.changes.length = { M with kept := (chOf M.changes d).foldl applyN M.kept, changes := M.changes.filter fun c => !(d == c.dir) } := by
  unfold keepM keepL
  rw [kstep_kept, kstep_all (chOf_len _ _), List.take_of_length_le (chOf_len _ _), List.nil_append]
theorem applyW_fold {n : Nat} : ∀ {ls : List (List Nm)} {K : List Nm}, (∀ y ∈ K, 0 ≤ y.2 ∧ y.2.toNat < n) → (∀ c ∈ ls, ∀ y ∈ c, 0 ≤ y.2 → y.2.toNat < n) → ∀ y ∈ ls.foldl applyN K, 0 ≤ y.2 ∧ y.2.toNat < n
  | [], _, h, _ => h
  | c :: ls, K, h, hc => applyW_fold (ls := ls) (mem_applyW h (hc c List.mem_cons_self)) fun x hx => hc x (List.mem_cons_of_mem _ hx)
theorem well_keep {M : DM} (h : Well M) (d : ByteArray) (n : Nat) : Well (keepM M d n) := by
  refine ⟨h.names, ?_, fun c hc => ?_, h.pre⟩
  · show ∀ y ∈ (keepL d n M.kept M.changes).2.2, _
    unfold keepL
    rw [kstep_kept]
    refine applyW_fold h.kept fun c hc => ?_
    have hm := List.mem_of_mem_take hc
    unfold chOf at hm
    obtain ⟨C, hC, rfl⟩ := List.mem_map.1 hm
    exact h.chs C (List.mem_filter.1 hC).1
  · rcases kstep_mem c (show c ∈ (keepL d n M.kept M.changes).2.1 from hc) with h1 | h1
    · cases h1
    · exact h.chs c h1
theorem ok_rkeep {s : RS} {M : DM} (h : s.ok M) {d : ByteArray} {n n1 : Nat} {rs : List CR} {kl : List Nm} {Z2 : List Grp} {ka ra : Option Addr} {kc rc : Nat} {gr : Grp} (hZ : ∀ y o, inZ s.Z y o → inZ Z2 y o) (he : keepR d n M.kept s.cs = (n1, rs, kl)) (hk : Rd (inZ Z2) ka (nmC kl)) (hO : Own 104 2 (.slice ra rs.length rc) gr rs.length (chC rs)) :
    RS.ok { s with kn := kl.length, ka := ka, kc := kc, cn := rs.length, ca := ra, cc := rc, cg := gr, cs := rs, Z := Z2 } (keepM M d n) := by
  have hr := keep_rel (d := d) (h.chs.imp fun _ _ hc => hc.mono hZ) (n := n) (K := M.kept) (.nil (R := CRok Z2))
  rw [show s.cs.foldl (kstep CR.dir CR.l d) (n, [], M.kept) = (n1, rs, kl) from he] at hr
  obtain ⟨_, h2, h3⟩ := hr
  have hkl : (keepL d n M.kept M.changes).2.2 = kl := h3.symm
  refine ⟨h.bn, h.own, h.nn, h.names.mono hZ, ?_, ?_, rfl, hO, h2, well_keep h.well d n⟩
  · show kl.length = (keepL d n M.kept M.changes).2.2.length; rw [hkl]
  · show Rd (inZ Z2) ka (nmC (keepL d n M.kept M.changes).2.2); rw [hkl]; exact hk
theorem cr_at {Z : List Grp} {cs : List CR} {C : List Ch} (h : All2 (CRok Z) cs C) {k : Nat} (hk : k < cs.length) : Rd (inZ Z) (cs.getD k default).a (nmC (cs.getD k default).l) ∧ ∃ c ∈ C, (cs.getD k default).l = c.l := by
  have h1 := h.get default ⟨ByteArray.mk #[], []⟩ k hk
  refine ⟨h1.rd, _, ?_, h1.l⟩
  rw [List.getD_eq_getElem?_getD, List.getElem?_eq_getElem (by rw [← h.len]; exact hk)]
  exact List.getElem_mem _
theorem own_chput {rs : List CR} {c : CR} {a : Option Addr} {cap : Nat} {g : Grp} (h : Own 104 2 (.slice a (rs.length + 1) cap) g (rs.length + 1) (chC rs ++ [.string c.dir, .slice c.a c.l.length c.c])) : Own 104 2 (.slice a (rs ++ [c]).length cap) g (rs ++ [c]).length (chC (rs ++ [c])) := by
  rw [chC_app, List.length_append]; exact h
end Go.Vf
namespace Go.Proofs.Ytbmieiffboenbaa
open Go.Sw Go.Lib Go.Vf Go.RowKit
theorem rKeep (x : Nat) (s : RS) (M : DM) (h : s.ok M) (hm : M.kept.length ≤ 10000 ∧ M.changes.length ≤ 200000 ∧ ∀ c ∈ M.changes, c.l.length ≤ 2) (dir : ByteArray) (n : Nat) (hn : n ≤ 1000000) (W0 : World) (H : List Grp) : Tri Try.prog 65 #[pt x, .string dir, .int .i64 ((n : Nat) : Int)] W0 ([(x, .cells #[.int .i64 M.room, .slice s.ba s.bn s.bc, .slice s.na s.nn s.nc, .slice s.ka s.kn s.kc, .slice s.ca s.cn s.cc, .bool M.fails, .bool M.once, .int .i64 M.calls] 86 (0, 0))] :: s.bg :: s.cg :: (s.Z ++ H)) (IsR x (keepM M dir n) (.tuple #[]) H) := by
  have hkn := h.kn
  have hcn := h.cn
  have hch := h.chs.len
  obtain ⟨hm1, hm2, hm3⟩ := hm
  refine Tri_of (args := [pt x, .string dir, .int .i64 ((n : Nat) : Int)]) (n := 56) Try.func65 rfl rfl (Nat.le_of_ble_eq_true rfl) ?_
  refine G_seq ?_
  refine G_pure (E' := [⟨0, [], pt x⟩, ⟨1, [], .string dir⟩, ⟨2, [], .int .i64 ((n : Nat) : Int)⟩, ⟨6, [], .slice none 0 0⟩]) [0] [0, 1, 2, 6] rfl (by kernel_rfl) ?_
  refine N_then ?_
  refine G_seq ?_
  refine G_seq ?_
  refine G_region ?_
  refine GL_pure (E' := [⟨13, [], .pointer (some ⟨x, 4, none⟩)⟩, ⟨0, [], pt x⟩, ⟨1, [], .string dir⟩, ⟨2, [], .int .i64 ((n : Nat) : Int)⟩, ⟨6, [], .slice none 0 0⟩]) [0, 0, 0] (by kernel_rfl) (j := 3) rfl ?_
  refine GL_load (i := 3) (ch := []) (b := x) (off := 4) (v := .slice s.ca s.cn s.cc) rfl rfl (by kernel_rfl) (by kernel_rfl) (by kernel_rfl) (by kernel_rfl) (by kernel_rfl) (At.grp 0 0 rfl rfl) rfl ?_
  refine GL_fin (E' := [⟨0, [], pt x⟩, ⟨1, [], .string dir⟩, ⟨2, [], .int .i64 ((n : Nat) : Int)⟩, ⟨6, [], .slice none 0 0⟩, ⟨14, [], .slice s.ca s.cn s.cc⟩, ⟨15, [], .int .i64 ((s.cn : Nat) : Int)⟩, ⟨16, [], .int .i64 0⟩]) [0, 0] [0, 1, 2, 6, 14, 15, 16] rfl (by kernel_rfl) ?_
  refine N_then ?_
  refine G_block ?_
  refine G_heap (H' := ([(x, .cells #[.int .i64 M.room, .slice s.ba s.bn s.bc, .slice s.na s.nn s.nc, .slice s.ka s.kn s.kc, .slice s.ca s.cn s.cc, .bool M.fails, .bool M.once, .int .i64 M.calls] 86 (0, 0))] :: s.bg :: s.cg :: [] :: (s.Z ++ H))) (fun w h => flat_nil' (A := [_, _, _]) h) ?_
  refine G_loop (EI := (fun ξ : Nat × Nat × List CR × List Nm × Option Addr × Nat × Option Addr × Nat × Grp × List Grp => [⟨0, [], pt x⟩, ⟨1, [], .string dir⟩, ⟨2, [], .int .i64 ((ξ.2.1 : Nat) : Int)⟩, ⟨6, [], .slice ξ.2.2.2.2.2.2.1 ξ.2.2.1.length ξ.2.2.2.2.2.2.2.1⟩, ⟨14, [], .slice s.ca s.cn s.cc⟩, ⟨15, [], .int .i64 ((s.cn : Nat) : Int)⟩, ⟨16, [], .int .i64 ((ξ.1 : Nat) : Int)⟩])) (HI := (fun ξ : Nat × Nat × List CR × List Nm × Option Addr × Nat × Option Addr × Nat × Grp × List Grp => ([(x, .cells #[.int .i64 M.room, .slice s.ba s.bn s.bc, .slice s.na s.nn s.nc, .slice ξ.2.2.2.2.1 ξ.2.2.2.1.length ξ.2.2.2.2.2.1, .slice s.ca s.cn s.cc, .bool M.fails, .bool M.once, .int .i64 M.calls] 86 (0, 0))] :: s.bg :: s.cg :: ξ.2.2.2.2.2.2.2.2.1 :: (ξ.2.2.2.2.2.2.2.2.2 ++ H)))) (Φ := (fun ξ : Nat × Nat × List CR × List Nm × Option Addr × Nat × Option Addr × Nat × Grp × List Grp => (ξ.1 ≤ s.cs.length) ∧ (keepR dir n M.kept (s.cs.take ξ.1) = (ξ.2.1, ξ.2.2.1, ξ.2.2.2.1)) ∧ (Rd (inZ ξ.2.2.2.2.2.2.2.2.2) ξ.2.2.2.2.1 (nmC ξ.2.2.2.1)) ∧ (Own 104 2 (.slice ξ.2.2.2.2.2.2.1 ξ.2.2.1.length ξ.2.2.2.2.2.2.2.1) ξ.2.2.2.2.2.2.2.2.1 ξ.2.2.1.length (chC ξ.2.2.1)) ∧ (∀ y o, inZ s.Z y o → inZ ξ.2.2.2.2.2.2.2.2.2 y o) ∧ (ξ.2.2.2.1.length ≤ 10000 + 2 * ξ.1) ∧ (ξ.2.2.1.length ≤ ξ.1) ∧ (ξ.2.1 ≤ n))) (μ := (fun ξ : Nat × Nat × List CR × List Nm × Option Addr × Nat × Option Addr × Nat × Grp × List Grp => s.cs.length - ξ.1)) (s0 := (0, n, [], M.kept, s.ka, s.kc, none, 0, [], s.Z)) [0, 1, 2, 6, 14, 15, 16] (by kernel_rfl) (by rw [hkn]) ⟨(by omega), rfl, h.kept, Own.nil, (fun _ _ h => h), (by omega), (Nat.zero_le _), (Nat.le_refl _)⟩ ?_
  rintro ⟨k, nn, rs, kl, ka2, kc2, ra, rc, gr, Z2⟩ ⟨hk, hst, hkr, hO, hZ, hln, hrl, hnn1⟩
  replace hk : k ≤ s.cs.length := hk
  replace hst : keepR dir n M.kept (s.cs.take k) = (nn, rs, kl) := hst
  replace hkr : Rd (inZ Z2) ka2 (nmC kl) := hkr
  replace hO : Own 104 2 (.slice ra rs.length rc) gr rs.length (chC rs) := hO
  replace hZ : ∀ y o, inZ s.Z y o → inZ Z2 y o := hZ
  replace hln : kl.length ≤ 10000 + 2 * k := hln
  replace hrl : rs.length ≤ k := hrl
  replace hnn1 : nn ≤ n := hnn1
  refine G_seq ?_
  refine G_pure (E' := [⟨0, [], pt x⟩, ⟨1, [], .string dir⟩, ⟨2, [], .int .i64 ((nn : Nat) : Int)⟩, ⟨6, [], .slice ra rs.length rc⟩, ⟨14, [], .slice s.ca s.cn s.cc⟩, ⟨15, [], .int .i64 ((s.cn : Nat) : Int)⟩, ⟨16, [], .int .i64 ((k : Nat) : Int)⟩, ⟨17, [], .bool (decide (((k : Nat) : Int) < ((s.cn : Nat) : Int)))⟩]) [0] [0, 1, 2, 6, 14, 15, 16, 17] rfl (by kernel_rfl) ?_
  refine N_then ?_
  refine G_seq ?_
  refine G_cond (b := decide (((k : Nat) : Int) < ((s.cn : Nat) : Int))) (by kernel_rfl) (fun hc1 => ?_) (fun hc1 => ?_)
  ·
    replace hc1 := of_decide_eq_true hc1
    obtain ⟨hcr, hcl⟩ := cr_at h.chs (k := k) (by omega)
    have hcl2 : (s.cs.getD k default).l.length ≤ 2 := by (obtain ⟨c0, hc0, he0⟩ := hcl; rw [he0]; exact hm3 c0 hc0)
    refine G_skip ?_
    refine N_then ?_
    refine G_seq ?_
    refine G_block ?_
    refine G_seq ?_
    refine G_region ?_
    refine GL_indexAddr (i := 0) (ch := []) (a := s.ca) (len := s.cn) (cap := s.cc) (kd := .i64) (j := ((k : Nat) : Int)) (e := 104) (sz := 2) (S := (inG s.cg)) (cs := (chC s.cs)) rfl rfl (by kernel_rfl) (by kernel_rfl) (by kernel_rfl) (by kernel_rfl) (by kernel_rfl) (by kernel_rfl) (by kernel_rfl) (own_rd h.own2) (fun _ => by exact ⟨by omega, by omega, chC_ne (i := k) (by omega)⟩) ?_
    refine GL_loadSA (i := 1) (ch := []) (a := s.ca) (q := k * 2) (S := (inG s.cg)) (cs := (chC s.cs)) (l := [.string ((s.cs.getD k default).dir), .slice (s.cs.getD k default).a ((s.cs.getD k default).l.length) ((s.cs.getD k default).c)]) rfl rfl (by kernel_rfl) (by kernel_rfl) (by kernel_rfl) (by kernel_rfl) (by kernel_rfl) (by kernel_rfl) (own_rd h.own2) (at_inG 2 rfl) (List.cons_ne_nil _ _) (fun _ => (fun m hm => (cells2_at (by omega) m hm).trans (List.getElem?_eq_getElem hm))) ?_
    refine GL_alloc (i := 2) (ch := []) (z := .agg #[.string (ByteArray.mk #[]), .slice none 0 0]) rfl rfl (by kernel_rfl) (by kernel_rfl) (by kernel_rfl) (by kernel_rfl) (fun b2 => ?_)
    refine GL_store (i := 3) (ch := []) (b := b2) (off := 0) (v := .agg #[.string ((s.cs.getD k default).dir), .slice (s.cs.getD k default).a ((s.cs.getD k default).l.length) ((s.cs.getD k default).c)]) (c := #[.string (ByteArray.mk #[]), .slice none 0 0]) (c' := #[.string ((s.cs.getD k default).dir), .slice (s.cs.getD k default).a ((s.cs.getD k default).l.length) ((s.cs.getD k default).c)]) (j := 0) (m := 0) (H' := ([(b2, .cells #[.string ((s.cs.getD k default).dir), .slice (s.cs.getD k default).a ((s.cs.getD k default).l.length) ((s.cs.getD k default).c)] 104 (0, 0))] :: [(x, .cells #[.int .i64 M.room, .slice s.ba s.bn s.bc, .slice s.na s.nn s.nc, .slice ka2 kl.length kc2, .slice s.ca s.cn s.cc, .bool M.fails, .bool M.once, .int .i64 M.calls] 86 (0, 0))] :: s.bg :: s.cg :: gr :: (Z2 ++ H))) rfl rfl (by kernel_rfl) (by kernel_rfl) (by kernel_rfl) (by kernel_rfl) (by kernel_rfl) (by kernel_rfl) (by kernel_rfl) rfl rfl (Nat.le_of_ble_eq_true rfl) (fun _ _ => thaw0) (by kernel_rfl) (by kernel_rfl) ?_
    refine GL_fin (E' := [⟨0, [], pt x⟩, ⟨1, [], .string dir⟩, ⟨2, [], .int .i64 ((nn : Nat) : Int)⟩, ⟨6, [], .slice ra rs.length rc⟩, ⟨8, [], pt b2⟩, ⟨14, [], .slice s.ca s.cn s.cc⟩, ⟨15, [], .int .i64 ((s.cn : Nat) : Int)⟩, ⟨16, [], .int .i64 ((k : Nat) : Int)⟩]) [] [0, 1, 2, 6, 8, 14, 15, 16] rfl (by kernel_rfl) ?_
    refine N_then ?_
    refine G_seq ?_
    refine G_seq ?_
    refine G_region ?_
    refine GL_pure (E' := [⟨20, [], pt b2⟩, ⟨0, [], pt x⟩, ⟨1, [], .string dir⟩, ⟨2, [], .int .i64 ((nn : Nat) : Int)⟩, ⟨6, [], .slice ra rs.length rc⟩, ⟨8, [], pt b2⟩, ⟨14, [], .slice s.ca s.cn s.cc⟩, ⟨15, [], .int .i64 ((s.cn : Nat) : Int)⟩, ⟨16, [], .int .i64 ((k : Nat) : Int)⟩]) [0] (by kernel_rfl) (j := 1) rfl ?_
    refine GL_load (i := 1) (ch := []) (b := b2) (off := 0) (v := .string ((s.cs.getD k default).dir)) rfl rfl (by kernel_rfl) (by kernel_rfl) (by kernel_rfl) (by kernel_rfl) (by kernel_rfl) (At.grp 0 0 rfl rfl) rfl ?_
    refine GL_fin (E' := [⟨0, [], pt x⟩, ⟨1, [], .string dir⟩, ⟨2, [], .int .i64 ((nn : Nat) : Int)⟩, ⟨6, [], .slice ra rs.length rc⟩, ⟨8, [], pt b2⟩, ⟨14, [], .slice s.ca s.cn s.cc⟩, ⟨15, [], .int .i64 ((s.cn : Nat) : Int)⟩, ⟨16, [], .int .i64 ((k : Nat) : Int)⟩, ⟨27, [], .bool ((!(((s.cs.getD k default).dir).toList == dir.toList)) || (((nn : Nat) : Int) == 0))⟩]) [0, 0, 0, 0, 0, 5] [0, 1, 2, 6, 8, 14, 15, 16, 27] rfl (by kernel_rfl) ?_
    refine N_then ?_
    refine G_cond (b := (!(((s.cs.getD k default).dir).toList == dir.toList)) || (((nn : Nat) : Int) == 0)) (by kernel_rfl) (fun hc3 => ?_) (fun hc3 => ?_)
    ·
      have hc := hc3
      -- L put
      refine G_seq ?_
      refine G_region ?_
      refine GL_pure (E' := [⟨28, [], .slice ra rs.length rc⟩, ⟨0, [], pt x⟩, ⟨1, [], .string dir⟩, ⟨2, [], .int .i64 ((nn : Nat) : Int)⟩, ⟨6, [], .slice ra rs.length rc⟩, ⟨8, [], pt b2⟩, ⟨14, [], .slice s.ca s.cn s.cc⟩, ⟨15, [], .int .i64 ((s.cn : Nat) : Int)⟩, ⟨16, [], .int .i64 ((k : Nat) : Int)⟩]) [0] (by kernel_rfl) (j := 1) rfl ?_
      refine GL_loadA (i := 1) (ch := []) (b := b2) (off := 0) (l := [.string ((s.cs.getD k default).dir), .slice (s.cs.getD k default).a ((s.cs.getD k default).l.length) ((s.cs.getD k default).c)]) rfl rfl (by kernel_rfl) (by kernel_rfl) (by kernel_rfl) (by kernel_rfl) (by kernel_rfl) (by kernel_rfl) (At.grp 0 0 rfl rfl) (by kernel_rfl) ?_
      refine GL_buildSlice (i := 2) (ch := []) (e := 104) (l := [(0, .agg #[.string ((s.cs.getD k default).dir), .slice (s.cs.getD k default).a ((s.cs.getD k default).l.length) ((s.cs.getD k default).c)])]) (c := [.string ((s.cs.getD k default).dir), .slice (s.cs.getD k default).a ((s.cs.getD k default).l.length) ((s.cs.getD k default).c)]) rfl rfl (by kernel_rfl) (by kernel_rfl) (by kernel_rfl) (by kernel_rfl) (by kernel_rfl) (fun b4 => ?_)
      refine GL_append (i := 3) (ch := []) (t := 84) (tx := 84) (e := 104) (inf := Try.t104) (s := .slice ra rs.length rc) (x := .slice (some ⟨b4, 0, none⟩) 1 1) (n := rs.length) (m := 1) (j := 5) (cs := (chC rs)) (news := [.string ((s.cs.getD k default).dir), .slice (s.cs.getD k default).a ((s.cs.getD k default).l.length) ((s.cs.getD k default).c)]) (g := gr) (S := (inG [(b4, .cells #[.string ((s.cs.getD k default).dir), .slice (s.cs.getD k default).a ((s.cs.getD k default).l.length) ((s.cs.getD k default).c)] 104 (0, 0))])) rfl rfl rfl rfl (by kernel_rfl) (by kernel_rfl) (by kernel_rfl) rfl rfl (.inl ⟨104, (by kernel_rfl)⟩) (fun ⟨_, h⟩ => by cases h) (fun _ => ⟨104, (by kernel_rfl)⟩) (by kernel_rfl) (by kernel_rfl) (by kernel_rfl) rfl hO (SrcOf.slice _ _ _ _ Rd.lit (fun h => by cases h)) (at_inG 0 rfl) (by kernel_rfl) (by intro u hu; simp only [List.mem_cons, List.not_mem_nil, or_false] at hu; rcases hu with rfl | rfl <;> rfl) (by omega) (by show (rs.length + 1) * 40 ≤ 140737488355328; omega) (fun v5 g6 hO7 => ?_)
      obtain ⟨a8, cap9, rfl, hcap10, hrd11⟩ := hO7.shape
      refine GL_fin (E' := [⟨0, [], pt x⟩, ⟨1, [], .string dir⟩, ⟨2, [], .int .i64 ((nn : Nat) : Int)⟩, ⟨6, [], .slice a8 (rs.length + 1) cap9⟩, ⟨14, [], .slice s.ca s.cn s.cc⟩, ⟨15, [], .int .i64 ((s.cn : Nat) : Int)⟩, ⟨16, [], .int .i64 ((k : Nat) : Int)⟩]) [0] [0, 1, 2, 6, 14, 15, 16] rfl (by kernel_rfl) ?_
      refine N_then ?_
      refine G_exit ?_
      refine N_then_exit ?_
      refine N_block_exit ?_
      refine N_then ?_
      have hw12 : IntKind.wrap .i64 (((k : Nat) : Int) + 1) = ((k : Nat) : Int) + 1 := w64 (by omega) (by omega)
      refine G_pure (E' := [⟨0, [], pt x⟩, ⟨1, [], .string dir⟩, ⟨2, [], .int .i64 ((nn : Nat) : Int)⟩, ⟨6, [], .slice a8 (rs.length + 1) cap9⟩, ⟨14, [], .slice s.ca s.cn s.cc⟩, ⟨15, [], .int .i64 ((s.cn : Nat) : Int)⟩, ⟨16, [], .int .i64 (((k : Nat) : Int) + 1)⟩]) [0, 0] [0, 1, 2, 6, 14, 15, 16] rfl (Eq.trans (b := some [⟨0, [], pt x⟩, ⟨1, [], .string dir⟩, ⟨2, [], .int .i64 ((nn : Nat) : Int)⟩, ⟨6, [], .slice a8 (rs.length + 1) cap9⟩, ⟨14, [], .slice s.ca s.cn s.cc⟩, ⟨15, [], .int .i64 ((s.cn : Nat) : Int)⟩, ⟨16, [], .int .i64 (IntKind.wrap .i64 (((k : Nat) : Int) + 1))⟩]) (by kernel_rfl) (by simp only [hw12])) ?_
      refine N_env (E' := [⟨0, [], pt x⟩, ⟨1, [], .string dir⟩, ⟨2, [], .int .i64 ((nn : Nat) : Int)⟩, ⟨6, [], .slice a8 ((rs ++ [(s.cs.getD k default)]).length) cap9⟩, ⟨14, [], .slice s.ca s.cn s.cc⟩, ⟨15, [], .int .i64 ((s.cn : Nat) : Int)⟩, ⟨16, [], .int .i64 (((k : Nat) : Int) + 1)⟩]) (by rw [List.length_append]; rfl) ?_
      refine N_heap (H' := ([(x, .cells #[.int .i64 M.room, .slice s.ba s.bn s.bc, .slice s.na s.nn s.nc, .slice ka2 kl.length kc2, .slice s.ca s.cn s.cc, .bool M.fails, .bool M.once, .int .i64 M.calls] 86 (0, 0))] :: s.bg :: s.cg :: g6 :: (Z2 ++ H))) (fun w h => ((((((h.front (j := 5) rfl).front (j := 5) rfl).front (j := 5) rfl).front (j := 5) rfl).erase 5).erase 4)) ?_
      refine N_heq (H' := ([(x, .cells #[.int .i64 M.room, .slice s.ba s.bn s.bc, .slice s.na s.nn s.nc, .slice ka2 kl.length kc2, .slice s.ca s.cn s.cc, .bool M.fails, .bool M.once, .int .i64 M.calls] 86 (0, 0))] :: s.bg :: s.cg :: g6 :: (Z2 ++ H))) rfl ?_
      refine N_round (s' := (k + 1, nn, rs ++ [(s.cs.getD k default)], kl, ka2, kc2, a8, cap9, g6, Z2)) [0, 1, 2, 6, 14, 15, 16] (by kernel_rfl) rfl ⟨(by omega), (keepR_put (by omega) hst hc), hkr, (own_chput hO7), hZ, (by show kl.length ≤ _; omega), (by show (rs ++ [(s.cs.getD k default)]).length ≤ _; rw [List.length_append]; show rs.length + 1 ≤ _; omega), hnn1⟩ (by omega)
    ·
      have hc := hc3
      -- L not
      refine G_skip ?_
      refine N_then ?_
      refine G_seq ?_
      have hw13 : IntKind.wrap .i64 (((nn : Nat) : Int) - 1) = ((nn : Nat) : Int) - 1 := w64 (by omega) (by omega)
      refine G_pure (E' := [⟨0, [], pt x⟩, ⟨1, [], .string dir⟩, ⟨2, [], .int .i64 (((nn : Nat) : Int) - 1)⟩, ⟨6, [], .slice ra rs.length rc⟩, ⟨8, [], pt b2⟩, ⟨14, [], .slice s.ca s.cn s.cc⟩, ⟨15, [], .int .i64 ((s.cn : Nat) : Int)⟩, ⟨16, [], .int .i64 ((k : Nat) : Int)⟩]) [0, 0, 0] [0, 1, 2, 6, 8, 14, 15, 16] rfl (Eq.trans (b := some [⟨0, [], pt x⟩, ⟨1, [], .string dir⟩, ⟨2, [], .int .i64 (IntKind.wrap .i64 (((nn : Nat) : Int) - 1))⟩, ⟨6, [], .slice ra rs.length rc⟩, ⟨8, [], pt b2⟩, ⟨14, [], .slice s.ca s.cn s.cc⟩, ⟨15, [], .int .i64 ((s.cn : Nat) : Int)⟩, ⟨16, [], .int .i64 ((k : Nat) : Int)⟩]) (by kernel_rfl) (by simp only [hw13])) ?_
      refine N_then ?_
      refine G_seq ?_
      refine G_region ?_
      refine GL_pure (E' := [⟨34, [], .pointer (some ⟨b2, 1, none⟩)⟩, ⟨0, [], pt x⟩, ⟨1, [], .string dir⟩, ⟨2, [], .int .i64 (((nn : Nat) : Int) - 1)⟩, ⟨6, [], .slice ra rs.length rc⟩, ⟨14, [], .slice s.ca s.cn s.cc⟩, ⟨15, [], .int .i64 ((s.cn : Nat) : Int)⟩, ⟨16, [], .int .i64 ((k : Nat) : Int)⟩]) [0] (by kernel_rfl) (j := 1) rfl ?_
      refine GL_load (i := 1) (ch := []) (b := b2) (off := 1) (v := .slice (s.cs.getD k default).a ((s.cs.getD k default).l.length) ((s.cs.getD k default).c)) rfl rfl (by kernel_rfl) (by kernel_rfl) (by kernel_rfl) (by kernel_rfl) (by kernel_rfl) (At.grp 0 0 rfl rfl) rfl ?_
      refine GL_fin (E' := [⟨0, [], pt x⟩, ⟨1, [], .string dir⟩, ⟨2, [], .int .i64 (((nn : Nat) : Int) - 1)⟩, ⟨6, [], .slice ra rs.length rc⟩, ⟨14, [], .slice s.ca s.cn s.cc⟩, ⟨15, [], .int .i64 ((s.cn : Nat) : Int)⟩, ⟨16, [], .int .i64 ((k : Nat) : Int)⟩, ⟨35, [], .slice (s.cs.getD k default).a ((s.cs.getD k default).l.length) ((s.cs.getD k default).c)⟩, ⟨36, [], .int .i64 (((s.cs.getD k default).l.length : Nat) : Int)⟩, ⟨37, [], .int .i64 0⟩]) [0, 0] [0, 1, 2, 6, 14, 15, 16, 35, 36, 37] rfl (by kernel_rfl) ?_
      refine N_then ?_
      refine G_block ?_
      refine G_heap (H' := ([(x, .cells #[.int .i64 M.room, .slice s.ba s.bn s.bc, .slice s.na s.nn s.nc, .slice ka2 kl.length kc2, .slice s.ca s.cn s.cc, .bool M.fails, .bool M.once, .int .i64 M.calls] 86 (0, 0))] :: s.bg :: s.cg :: gr :: (Z2 ++ H))) (fun w h => (((((h.front (j := 4) rfl).front (j := 4) rfl).front (j := 4) rfl).front (j := 4) rfl).erase 4)) ?_
      refine G_loop (EI := (fun ξ : Nat × List Nm × Option Addr × Nat × List Grp => [⟨0, [], pt x⟩, ⟨1, [], .string dir⟩, ⟨2, [], .int .i64 (((nn : Nat) : Int) - 1)⟩, ⟨6, [], .slice ra rs.length rc⟩, ⟨14, [], .slice s.ca s.cn s.cc⟩, ⟨15, [], .int .i64 ((s.cn : Nat) : Int)⟩, ⟨16, [], .int .i64 ((k : Nat) : Int)⟩, ⟨35, [], .slice (s.cs.getD k default).a ((s.cs.getD k default).l.length) ((s.cs.getD k default).c)⟩, ⟨36, [], .int .i64 (((s.cs.getD k default).l.length : Nat) : Int)⟩, ⟨37, [], .int .i64 ((ξ.1 : Nat) : Int)⟩])) (HI := (fun ξ : Nat × List Nm × Option Addr × Nat × List Grp => ([(x, .cells #[.int .i64 M.room, .slice s.ba s.bn s.bc, .slice s.na s.nn s.nc, .slice ξ.2.2.1 ξ.2.1.length ξ.2.2.2.1, .slice s.ca s.cn s.cc, .bool M.fails, .bool M.once, .int .i64 M.calls] 86 (0, 0))] :: s.bg :: s.cg :: gr :: (ξ.2.2.2.2 ++ H)))) (Φ := (fun ξ : Nat × List Nm × Option Addr × Nat × List Grp => (ξ.1 ≤ (s.cs.getD k default).l.length) ∧ (ξ.2.1 = applyN kl ((s.cs.getD k default).l.take ξ.1)) ∧ (Rd (inZ ξ.2.2.2.2) ξ.2.2.1 (nmC ξ.2.1)) ∧ (∀ y o, inZ s.Z y o → inZ ξ.2.2.2.2 y o) ∧ (ξ.2.1.length ≤ 10000 + 2 * k + ξ.1))) (μ := (fun ξ : Nat × List Nm × Option Addr × Nat × List Grp => (s.cs.getD k default).l.length - ξ.1)) (s0 := (0, kl, ka2, kc2, Z2)) [0, 1, 2, 6, 14, 15, 16, 35, 36, 37] (by kernel_rfl) rfl ⟨(by omega), rfl, hkr, hZ, (by show kl.length ≤ _; omega)⟩ ?_
      rintro ⟨j, kl3, ka3, kc3, Z3⟩ ⟨hj, hkl3, hk3, hZ3, hln3⟩
      replace hj : j ≤ (s.cs.getD k default).l.length := hj
      replace hkl3 : kl3 = applyN kl ((s.cs.getD k default).l.take j) := hkl3
      replace hk3 : Rd (inZ Z3) ka3 (nmC kl3) := hk3
      replace hZ3 : ∀ y o, inZ s.Z y o → inZ Z3 y o := hZ3
      replace hln3 : kl3.length ≤ 10000 + 2 * k + j := hln3
      refine G_seq ?_
      refine G_pure (E' := [⟨0, [], pt x⟩, ⟨1, [], .string dir⟩, ⟨2, [], .int .i64 (((nn : Nat) : Int) - 1)⟩, ⟨6, [], .slice ra rs.length rc⟩, ⟨14, [], .slice s.ca s.cn s.cc⟩, ⟨15, [], .int .i64 ((s.cn : Nat) : Int)⟩, ⟨16, [], .int .i64 ((k : Nat) : Int)⟩, ⟨35, [], .slice (s.cs.getD k default).a ((s.cs.getD k default).l.length) ((s.cs.getD k default).c)⟩, ⟨36, [], .int .i64 (((s.cs.getD k default).l.length : Nat) : Int)⟩, ⟨37, [], .int .i64 ((j : Nat) : Int)⟩, ⟨38, [], .bool (decide (((j : Nat) : Int) < (((s.cs.getD k default).l.length : Nat) : Int)))⟩]) [0] [0, 1, 2, 6, 14, 15, 16, 35, 36, 37, 38] rfl (by kernel_rfl) ?_
      refine N_then ?_
      refine G_seq ?_
      refine G_cond (b := decide (((j : Nat) : Int) < (((s.cs.getD k default).l.length : Nat) : Int))) (by kernel_rfl) (fun hc14 => ?_) (fun hc14 => ?_)
      ·
        replace hc14 := of_decide_eq_true hc14
        refine G_skip ?_
        refine N_then ?_
        refine G_seq ?_
        refine G_block ?_
        refine G_seq ?_
        refine G_region ?_
        refine GL_indexAddr (i := 0) (ch := []) (a := (s.cs.getD k default).a) (len := (s.cs.getD k default).l.length) (cap := (s.cs.getD k default).c) (kd := .i64) (j := ((j : Nat) : Int)) (e := 94) (sz := 2) (S := (inZ s.Z)) (cs := (nmC (s.cs.getD k default).l)) rfl rfl (by kernel_rfl) (by kernel_rfl) (by kernel_rfl) (by kernel_rfl) (by kernel_rfl) (by kernel_rfl) (by kernel_rfl) hcr (fun _ => by exact ⟨by omega, by omega, nmC_ne (i := j) (by omega)⟩) ?_
        refine GL_loadSA (i := 1) (ch := []) (a := (s.cs.getD k default).a) (q := j * 2) (S := (inZ s.Z)) (cs := (nmC (s.cs.getD k default).l)) (l := [.string ((((s.cs.getD k default).l).getD j default).1), .int .i64 ((((s.cs.getD k default).l).getD j default).2)]) rfl rfl (by kernel_rfl) (by kernel_rfl) (by kernel_rfl) (by kernel_rfl) (by kernel_rfl) (by kernel_rfl) hcr (fun y o h => (At.cons (At.cons (At.cons (At.cons (at_inZ (hZ3 y o h))))))) (List.cons_ne_nil _ _) (fun _ => (fun m hm => (cells2_at (by omega) m hm).trans (List.getElem?_eq_getElem hm))) ?_
        refine GL_alloc (i := 2) (ch := []) (z := .agg #[.string (ByteArray.mk #[]), .int .i64 0]) rfl rfl (by kernel_rfl) (by kernel_rfl) (by kernel_rfl) (by kernel_rfl) (fun b15 => ?_)
        refine GL_store (i := 3) (ch := []) (b := b15) (off := 0) (v := .agg #[.string ((((s.cs.getD k default).l).getD j default).1), .int .i64 ((((s.cs.getD k default).l).getD j default).2)]) (c := #[.string (ByteArray.mk #[]), .int .i64 0]) (c' := #[.string ((((s.cs.getD k default).l).getD j default).1), .int .i64 ((((s.cs.getD k default).l).getD j default).2)]) (j := 0) (m := 0) (H' := ([(b15, .cells #[.string ((((s.cs.getD k default).l).getD j default).1), .int .i64 ((((s.cs.getD k default).l).getD j default).2)] 94 (0, 0))] :: [(x, .cells #[.int .i64 M.room, .slice s.ba s.bn s.bc, .slice s.na s.nn s.nc, .slice ka3 kl3.length kc3, .slice s.ca s.cn s.cc, .bool M.fails, .bool M.once, .int .i64 M.calls] 86 (0, 0))] :: s.bg :: s.cg :: gr :: (Z3 ++ H))) rfl rfl (by kernel_rfl) (by kernel_rfl) (by kernel_rfl) (by kernel_rfl) (by kernel_rfl) (by kernel_rfl) (by kernel_rfl) rfl rfl (Nat.le_of_ble_eq_true rfl) (fun _ _ => thaw0) (by kernel_rfl) (by kernel_rfl) ?_
        refine GL_fin (E' := [⟨0, [], pt x⟩, ⟨1, [], .string dir⟩, ⟨2, [], .int .i64 (((nn : Nat) : Int) - 1)⟩, ⟨6, [], .slice ra rs.length rc⟩, ⟨10, [], pt b15⟩, ⟨14, [], .slice s.ca s.cn s.cc⟩, ⟨15, [], .int .i64 ((s.cn : Nat) : Int)⟩, ⟨16, [], .int .i64 ((k : Nat) : Int)⟩, ⟨35, [], .slice (s.cs.getD k default).a ((s.cs.getD k default).l.length) ((s.cs.getD k default).c)⟩, ⟨36, [], .int .i64 (((s.cs.getD k default).l.length : Nat) : Int)⟩, ⟨37, [], .int .i64 ((j : Nat) : Int)⟩]) [] [0, 1, 2, 6, 10, 14, 15, 16, 35, 36, 37] rfl (by kernel_rfl) ?_
        refine N_then ?_
        refine G_regionH ([(b15, .cells #[.string ((((s.cs.getD k default).l).getD j default).1), .int .i64 ((((s.cs.getD k default).l).getD j default).2)] 94 (0, 0))] :: s.bg :: s.cg :: gr :: (Z3 ++ H)) (by kernel_rfl) ?_
        refine GH_pure (E' := [⟨41, [], pt x⟩, ⟨0, [], pt x⟩, ⟨1, [], .string dir⟩, ⟨2, [], .int .i64 (((nn : Nat) : Int) - 1)⟩, ⟨6, [], .slice ra rs.length rc⟩, ⟨10, [], pt b15⟩, ⟨14, [], .slice s.ca s.cn s.cc⟩, ⟨15, [], .int .i64 ((s.cn : Nat) : Int)⟩, ⟨16, [], .int .i64 ((k : Nat) : Int)⟩, ⟨35, [], .slice (s.cs.getD k default).a ((s.cs.getD k default).l.length) ((s.cs.getD k default).c)⟩, ⟨36, [], .int .i64 (((s.cs.getD k default).l.length : Nat) : Int)⟩, ⟨37, [], .int .i64 ((j : Nat) : Int)⟩]) 0 0 (by kernel_rfl) (fun w h => (((((h.front (j := 4) rfl).front (j := 4) rfl).front (j := 4) rfl).front (j := 3) rfl).erase 4)) (by kernel_rfl) ?_
        refine GH_pure (E' := [⟨42, [], pt x⟩, ⟨41, [], pt x⟩, ⟨0, [], pt x⟩, ⟨1, [], .string dir⟩, ⟨2, [], .int .i64 (((nn : Nat) : Int) - 1)⟩, ⟨6, [], .slice ra rs.length rc⟩, ⟨10, [], pt b15⟩, ⟨14, [], .slice s.ca s.cn s.cc⟩, ⟨15, [], .int .i64 ((s.cn : Nat) : Int)⟩, ⟨16, [], .int .i64 ((k : Nat) : Int)⟩, ⟨35, [], .slice (s.cs.getD k default).a ((s.cs.getD k default).l.length) ((s.cs.getD k default).c)⟩, ⟨36, [], .int .i64 (((s.cs.getD k default).l.length : Nat) : Int)⟩, ⟨37, [], .int .i64 ((j : Nat) : Int)⟩]) 1 0 (by kernel_rfl) (fun w h => (((((h.front (j := 4) rfl).front (j := 4) rfl).front (j := 4) rfl).front (j := 3) rfl).erase 4)) (by kernel_rfl) ?_
        refine GH_nil (ad := ⟨x, 0, none⟩) 2 rfl rfl rfl (by kernel_rfl) (by kernel_rfl) (by kernel_rfl) (by kernel_rfl) (by kernel_rfl) (fun w h => (((((h.front (j := 4) rfl).front (j := 4) rfl).front (j := 4) rfl).front (j := 3) rfl).erase 4)) ?_
        refine GH_pure (E' := [⟨44, [], .pointer (some ⟨x, 3, none⟩)⟩, ⟨41, [], pt x⟩, ⟨0, [], pt x⟩, ⟨1, [], .string dir⟩, ⟨2, [], .int .i64 (((nn : Nat) : Int) - 1)⟩, ⟨6, [], .slice ra rs.length rc⟩, ⟨10, [], pt b15⟩, ⟨14, [], .slice s.ca s.cn s.cc⟩, ⟨15, [], .int .i64 ((s.cn : Nat) : Int)⟩, ⟨16, [], .int .i64 ((k : Nat) : Int)⟩, ⟨35, [], .slice (s.cs.getD k default).a ((s.cs.getD k default).l.length) ((s.cs.getD k default).c)⟩, ⟨36, [], .int .i64 (((s.cs.getD k default).l.length : Nat) : Int)⟩, ⟨37, [], .int .i64 ((j : Nat) : Int)⟩]) 3 0 (by kernel_rfl) (fun w h => (((((h.front (j := 4) rfl).front (j := 4) rfl).front (j := 4) rfl).front (j := 3) rfl).erase 4)) (by kernel_rfl) ?_
        refine GH_take' (E' := [⟨46, [], .agg #[.string ((((s.cs.getD k default).l).getD j default).1), .int .i64 ((((s.cs.getD k default).l).getD j default).2)]⟩, ⟨44, [], .pointer (some ⟨x, 3, none⟩)⟩, ⟨41, [], pt x⟩, ⟨0, [], pt x⟩, ⟨1, [], .string dir⟩, ⟨2, [], .int .i64 (((nn : Nat) : Int) - 1)⟩, ⟨6, [], .slice ra rs.length rc⟩, ⟨10, [], pt b15⟩, ⟨14, [], .slice s.ca s.cn s.cc⟩, ⟨15, [], .int .i64 ((s.cn : Nat) : Int)⟩, ⟨16, [], .int .i64 ((k : Nat) : Int)⟩, ⟨35, [], .slice (s.cs.getD k default).a ((s.cs.getD k default).l.length) ((s.cs.getD k default).c)⟩, ⟨36, [], .int .i64 (((s.cs.getD k default).l.length : Nat) : Int)⟩, ⟨37, [], .int .i64 ((j : Nat) : Int)⟩]) 5 (by kernel_rfl) (fun w h => (((((h.front (j := 4) rfl).front (j := 4) rfl).front (j := 4) rfl).front (j := 3) rfl).erase 4)) ?_ ?_
        ·
          refine GL_loadA (i := 5) (ch := []) (b := b15) (off := 0) (l := [.string ((((s.cs.getD k default).l).getD j default).1), .int .i64 ((((s.cs.getD k default).l).getD j default).2)]) rfl rfl (by kernel_rfl) (by kernel_rfl) (by kernel_rfl) (by kernel_rfl) (by kernel_rfl) (by kernel_rfl) (At.grp 0 0 rfl rfl) (by kernel_rfl) ?_
          exact GL_yend (by kernel_rfl) (by kernel_rfl)
        refine GH_eff 4 (by kernel_rfl) (by kernel_rfl) (by kernel_rfl) ?_
        refine GL_load (i := 4) (ch := []) (b := x) (off := 3) (v := .slice ka3 kl3.length kc3) rfl rfl (by kernel_rfl) (by kernel_rfl) (by kernel_rfl) (by kernel_rfl) (by kernel_rfl) (At.grp 1 0 rfl rfl) rfl ?_
        refine GH_back (by kernel_rfl) (fun w h => (((((h.front (j := 4) rfl).front (j := 4) rfl).front (j := 4) rfl).front (j := 3) rfl).erase 4)) ?_
        refine GH_eff 6 (by kernel_rfl) (by kernel_rfl) (by kernel_rfl) ?_
        refine GL_call (i := 6) (ch := []) (f := 80) (fst := #[]) (caps := #[]) (vs := [.slice ka3 kl3.length kc3, .agg #[.string ((((s.cs.getD k default).l).getD j default).1), .int .i64 ((((s.cs.getD k default).l).getD j default).2)]]) rfl rfl rfl (by kernel_rfl) (by kernel_rfl) Try.func80 rfl rfl (by kernel_rfl) (by kernel_rfl) (chSure_of (by kernel_rfl)) (rWith ka3 kc3 (inZ Z3) kl3 (((s.cs.getD k default).l).getD j default) hk3 (by omega) _ _ (fun y o h => (At.cons (At.cons (At.cons (At.cons (At.cons (at_inZ h)))))))) ?_
        rintro v H' ⟨g16, hO17, rfl⟩
        obtain ⟨na18, nc19, rfl, hnc20, hrw21⟩ := hO17.shape
        refine GH_back (by kernel_rfl) (fun w h => ((((((h.front (j := 5) rfl).front (j := 5) rfl).front (j := 5) rfl).front (j := 4) rfl).erase 5).erase 4)) ?_
        refine GH_more (g16 :: [(b15, .cells #[.string ((((s.cs.getD k default).l).getD j default).1), .int .i64 ((((s.cs.getD k default).l).getD j default).2)] 94 (0, 0))] :: s.bg :: s.cg :: gr :: (Z3 ++ H)) (fun w h => (((((h.front (j := 4) rfl).front (j := 4) rfl).front (j := 4) rfl).front (j := 4) rfl).erase 4)) ?_
        refine GH_nil (ad := ⟨x, 0, none⟩) 7 rfl rfl rfl (by kernel_rfl) (by kernel_rfl) (by kernel_rfl) (by kernel_rfl) (by kernel_rfl) (fun w h => ((((((h.front (j := 5) rfl).front (j := 5) rfl).front (j := 5) rfl).front (j := 4) rfl).front (j := 4) rfl).erase 5)) ?_
        refine GH_pure (E' := [⟨49, [], .pointer (some ⟨x, 3, none⟩)⟩, ⟨47, [], .slice na18 ((withN kl3 (((s.cs.getD k default).l).getD j default)).length) nc19⟩, ⟨0, [], pt x⟩, ⟨1, [], .string dir⟩, ⟨2, [], .int .i64 (((nn : Nat) : Int) - 1)⟩, ⟨6, [], .slice ra rs.length rc⟩, ⟨14, [], .slice s.ca s.cn s.cc⟩, ⟨15, [], .int .i64 ((s.cn : Nat) : Int)⟩, ⟨16, [], .int .i64 ((k : Nat) : Int)⟩, ⟨35, [], .slice (s.cs.getD k default).a ((s.cs.getD k default).l.length) ((s.cs.getD k default).c)⟩, ⟨36, [], .int .i64 (((s.cs.getD k default).l.length : Nat) : Int)⟩, ⟨37, [], .int .i64 ((j : Nat) : Int)⟩]) 8 0 (by kernel_rfl) (fun w h => ((((((h.front (j := 5) rfl).front (j := 5) rfl).front (j := 5) rfl).front (j := 4) rfl).front (j := 4) rfl).erase 5)) (by kernel_rfl) ?_
        refine GH_eff 9 (by kernel_rfl) (by kernel_rfl) (by kernel_rfl) ?_
        refine GL_store (i := 9) (ch := []) (b := x) (off := 3) (v := .slice na18 ((withN kl3 (((s.cs.getD k default).l).getD j default)).length) nc19) (c := #[.int .i64 M.room, .slice s.ba s.bn s.bc, .slice s.na s.nn s.nc, .slice ka3 kl3.length kc3, .slice s.ca s.cn s.cc, .bool M.fails, .bool M.once, .int .i64 M.calls]) (c' := #[.int .i64 M.room, .slice s.ba s.bn s.bc, .slice s.na s.nn s.nc, .slice na18 ((withN kl3 (((s.cs.getD k default).l).getD j default)).length) nc19, .slice s.ca s.cn s.cc, .bool M.fails, .bool M.once, .int .i64 M.calls]) (j := 2) (m := 0) (H' := (g16 :: [(b15, .cells #[.string ((((s.cs.getD k default).l).getD j default).1), .int .i64 ((((s.cs.getD k default).l).getD j default).2)] 94 (0, 0))] :: [(x, .cells #[.int .i64 M.room, .slice s.ba s.bn s.bc, .slice s.na s.nn s.nc, .slice na18 ((withN kl3 (((s.cs.getD k default).l).getD j default)).length) nc19, .slice s.ca s.cn s.cc, .bool M.fails, .bool M.once, .int .i64 M.calls] 86 (0, 0))] :: s.bg :: s.cg :: gr :: (Z3 ++ H))) rfl rfl (by kernel_rfl) (by kernel_rfl) (by kernel_rfl) (by kernel_rfl) (by kernel_rfl) (by kernel_rfl) (by kernel_rfl) rfl rfl (Nat.le_of_ble_eq_true rfl) (fun _ _ => thaw0) (by kernel_rfl) (by kernel_rfl) ?_
        refine GH_back (by kernel_rfl) (fun w h => ((((((h.front (j := 5) rfl).front (j := 5) rfl).front (j := 5) rfl).front (j := 4) rfl).front (j := 4) rfl).erase 5)) ?_
        refine GH_done (E' := [⟨0, [], pt x⟩, ⟨1, [], .string dir⟩, ⟨2, [], .int .i64 (((nn : Nat) : Int) - 1)⟩, ⟨6, [], .slice ra rs.length rc⟩, ⟨14, [], .slice s.ca s.cn s.cc⟩, ⟨15, [], .int .i64 ((s.cn : Nat) : Int)⟩, ⟨16, [], .int .i64 ((k : Nat) : Int)⟩, ⟨35, [], .slice (s.cs.getD k default).a ((s.cs.getD k default).l.length) ((s.cs.getD k default).c)⟩, ⟨36, [], .int .i64 (((s.cs.getD k default).l.length : Nat) : Int)⟩, ⟨37, [], .int .i64 ((j : Nat) : Int)⟩]) [0, 1, 2, 6, 14, 15, 16, 35, 36, 37] (by kernel_rfl) (by kernel_rfl) ?_
        refine N_block ?_
        refine N_then ?_
        have hw22 : IntKind.wrap .i64 (((j : Nat) : Int) + 1) = ((j : Nat) : Int) + 1 := w64 (by omega) (by omega)
        refine G_pure (E' := [⟨0, [], pt x⟩, ⟨1, [], .string dir⟩, ⟨2, [], .int .i64 (((nn : Nat) : Int) - 1)⟩, ⟨6, [], .slice ra rs.length rc⟩, ⟨14, [], .slice s.ca s.cn s.cc⟩, ⟨15, [], .int .i64 ((s.cn : Nat) : Int)⟩, ⟨16, [], .int .i64 ((k : Nat) : Int)⟩, ⟨35, [], .slice (s.cs.getD k default).a ((s.cs.getD k default).l.length) ((s.cs.getD k default).c)⟩, ⟨36, [], .int .i64 (((s.cs.getD k default).l.length : Nat) : Int)⟩, ⟨37, [], .int .i64 (((j : Nat) : Int) + 1)⟩]) [0, 0] [0, 1, 2, 6, 14, 15, 16, 35, 36, 37] rfl (Eq.trans (b := some [⟨0, [], pt x⟩, ⟨1, [], .string dir⟩, ⟨2, [], .int .i64 (((nn : Nat) : Int) - 1)⟩, ⟨6, [], .slice ra rs.length rc⟩, ⟨14, [], .slice s.ca s.cn s.cc⟩, ⟨15, [], .int .i64 ((s.cn : Nat) : Int)⟩, ⟨16, [], .int .i64 ((k : Nat) : Int)⟩, ⟨35, [], .slice (s.cs.getD k default).a ((s.cs.getD k default).l.length) ((s.cs.getD k default).c)⟩, ⟨36, [], .int .i64 (((s.cs.getD k default).l.length : Nat) : Int)⟩, ⟨37, [], .int .i64 (IntKind.wrap .i64 (((j : Nat) : Int) + 1))⟩]) (by kernel_rfl) (by simp only [hw22])) ?_
        refine N_heap (H' := ([(x, .cells #[.int .i64 M.room, .slice s.ba s.bn s.bc, .slice s.na s.nn s.nc, .slice na18 ((withN kl3 (((s.cs.getD k default).l).getD j default)).length) nc19, .slice s.ca s.cn s.cc, .bool M.fails, .bool M.once, .int .i64 M.calls] 86 (0, 0))] :: s.bg :: s.cg :: gr :: g16 :: (Z3 ++ H))) (fun w h => (((((h.front (j := 5) rfl).front (j := 5) rfl).front (j := 5) rfl).front (j := 5) rfl).erase 5)) ?_
        refine N_round (s' := (j + 1, (withN kl3 (((s.cs.getD k default).l).getD j default)), na18, nc19, (g16 :: Z3))) [0, 1, 2, 6, 14, 15, 16, 35, 36, 37] (by kernel_rfl) rfl ⟨(by omega), (by show withN kl3 _ = _; rw [apply_snoc (by omega), hkl3]), (hrw21.mono fun y o h => inZ_hd h), (fun y o h => inZ_cons (hZ3 y o h)), (by have := with_le kl3 ((s.cs.getD k default).l.getD j default); show (withN kl3 _).length ≤ _; omega)⟩ (by omega)
      ·
        replace hc14 := of_decide_eq_false hc14
        refine G_exit ?_
        refine N_then_exit ?_
        refine N_then_exit ?_
        refine N_block_exit ?_
        refine N_block ?_
        refine N_then ?_
        have hw23 : IntKind.wrap .i64 (((k : Nat) : Int) + 1) = ((k : Nat) : Int) + 1 := w64 (by omega) (by omega)
        refine G_pure (E' := [⟨0, [], pt x⟩, ⟨1, [], .string dir⟩, ⟨2, [], .int .i64 (((nn : Nat) : Int) - 1)⟩, ⟨6, [], .slice ra rs.length rc⟩, ⟨14, [], .slice s.ca s.cn s.cc⟩, ⟨15, [], .int .i64 ((s.cn : Nat) : Int)⟩, ⟨16, [], .int .i64 (((k : Nat) : Int) + 1)⟩]) [0, 0] [0, 1, 2, 6, 14, 15, 16] rfl (Eq.trans (b := some [⟨0, [], pt x⟩, ⟨1, [], .string dir⟩, ⟨2, [], .int .i64 (((nn : Nat) : Int) - 1)⟩, ⟨6, [], .slice ra rs.length rc⟩, ⟨14, [], .slice s.ca s.cn s.cc⟩, ⟨15, [], .int .i64 ((s.cn : Nat) : Int)⟩, ⟨16, [], .int .i64 (IntKind.wrap .i64 (((k : Nat) : Int) + 1))⟩]) (by kernel_rfl) (by simp only [hw23])) ?_
        have hnp : 0 < nn := by (simp only [Bool.or_eq_false_iff, beq_eq_false_iff_ne, ne_eq] at hc; omega)
        refine N_env (E' := [⟨0, [], pt x⟩, ⟨1, [], .string dir⟩, ⟨2, [], .int .i64 ((nn - 1 : Nat) : Int)⟩, ⟨6, [], .slice ra rs.length rc⟩, ⟨14, [], .slice s.ca s.cn s.cc⟩, ⟨15, [], .int .i64 ((s.cn : Nat) : Int)⟩, ⟨16, [], .int .i64 (((k : Nat) : Int) + 1)⟩]) (by rw [show ((nn - 1 : Nat) : Int) = ((nn : Nat) : Int) - 1 by omega]) ?_
        refine N_heap (H' := ([(x, .cells #[.int .i64 M.room, .slice s.ba s.bn s.bc, .slice s.na s.nn s.nc, .slice ka3 kl3.length kc3, .slice s.ca s.cn s.cc, .bool M.fails, .bool M.once, .int .i64 M.calls] 86 (0, 0))] :: s.bg :: s.cg :: gr :: (Z3 ++ H))) (fun w h => ((((h.front (j := 3) rfl).front (j := 3) rfl).front (j := 3) rfl).front (j := 3) rfl)) ?_
        refine N_heq (H' := ([(x, .cells #[.int .i64 M.room, .slice s.ba s.bn s.bc, .slice s.na s.nn s.nc, .slice ka3 kl3.length kc3, .slice s.ca s.cn s.cc, .bool M.fails, .bool M.once, .int .i64 M.calls] 86 (0, 0))] :: s.bg :: s.cg :: gr :: (Z3 ++ H))) rfl ?_
        refine N_round (s' := (k + 1, nn - 1, rs, kl3, ka3, kc3, ra, rc, gr, Z3)) [0, 1, 2, 6, 14, 15, 16] (by kernel_rfl) rfl ⟨(by omega), (by have e := keepR_not (by omega) hst hc; rw [e, hkl3, List.take_of_length_le (by omega)]), hk3, hO, hZ3, (by show kl3.length ≤ _; omega), (by show rs.length ≤ _; omega), (by show nn - 1 ≤ n; omega)⟩ (by omega)
  ·
    replace hc1 := of_decide_eq_false hc1
    refine G_exit ?_
    refine N_then_exit ?_
    refine N_then_exit ?_
    refine N_block_exit ?_
    refine N_then ?_
    refine G_region ?_
    refine GL_pure (E' := [⟨55, [], .pointer (some ⟨x, 4, none⟩)⟩, ⟨53, [], .slice ra rs.length rc⟩]) [0, 0, 0, 0] (by kernel_rfl) (j := 4) rfl ?_
    refine GL_store (i := 4) (ch := []) (b := x) (off := 4) (v := .slice ra rs.length rc) (c := #[.int .i64 M.room, .slice s.ba s.bn s.bc, .slice s.na s.nn s.nc, .slice ka2 kl.length kc2, .slice s.ca s.cn s.cc, .bool M.fails, .bool M.once, .int .i64 M.calls]) (c' := #[.int .i64 M.room, .slice s.ba s.bn s.bc, .slice s.na s.nn s.nc, .slice ka2 kl.length kc2, .slice ra rs.length rc, .bool M.fails, .bool M.once, .int .i64 M.calls]) (j := 0) (m := 0) (H' := ([(x, .cells #[.int .i64 M.room, .slice s.ba s.bn s.bc, .slice s.na s.nn s.nc, .slice ka2 kl.length kc2, .slice ra rs.length rc, .bool M.fails, .bool M.once, .int .i64 M.calls] 86 (0, 0))] :: s.bg :: s.cg :: gr :: (Z2 ++ H))) rfl rfl (by kernel_rfl) (by kernel_rfl) (by kernel_rfl) (by kernel_rfl) (by kernel_rfl) (by kernel_rfl) (by kernel_rfl) rfl rfl (Nat.le_of_ble_eq_true rfl) (fun _ _ => thaw0) (by kernel_rfl) (by kernel_rfl) ?_
    refine GL_fin (E' := []) [] [] rfl (by kernel_rfl) ?_
    refine N_heap (H' := ([(x, .cells #[.int .i64 M.room, .slice s.ba s.bn s.bc, .slice s.na s.nn s.nc, .slice ka2 kl.length kc2, .slice ra rs.length rc, .bool M.fails, .bool M.once, .int .i64 M.calls] 86 (0, 0))] :: s.bg :: gr :: (Z2 ++ H))) (fun w h => ((((h.front (j := 3) rfl).front (j := 2) rfl).front (j := 2) rfl).erase 3)) ?_
    refine N_ret [] [] rfl (by kernel_rfl) rfl ?_
    exact ⟨rfl, _, ok_rkeep h hZ (by rw [List.take_of_length_le (by omega)] at hst; exact hst) hkr hO, rfl⟩
theorem rSyncDir (x : Nat) (s : RS) (M : DM) (h : s.ok M) (hm : SmallR M) (d : ByteArray) (hd : d.size ≤ 9223372036854775807) (W0 : World) (H : List Grp) : Tri Try.prog 51 #[pt x, .string d] W0 ([(x, .cells #[.int .i64 M.room, .slice s.ba s.bn s.bc, .slice s.na s.nn s.nc, .slice s.ka s.kn s.kc, .slice s.ca s.cn s.cc, .bool M.fails, .bool M.once, .int .i64 M.calls] 86 (0, 0))] :: s.bg :: s.cg :: (s.Z ++ H)) (IsR x (syncDirM M d).2 (.int .i64 (syncDirM M d).1) H) := by
  have hnn := h.nn
  have hbn := h.bn
  have hkn := h.kn
  have hcn := h.cn
  have hch := h.chs.len
  have hus := used_le hm.small fun x hx => (h.well.names x hx).2
  have hsn := hm.small.names
  have hsb := hm.small.bodies
  have hsc := hm.small.changes
  have hskn : M.kept.length ≤ 10000 := Nat.le_trans (Nat.le_add_right _ _) hm.kept
  have hsca := hm.small.calls
  refine Tri_of (args := [pt x, .string d]) (n := 25) Try.func51 rfl rfl (Nat.le_of_ble_eq_true rfl) ?_
  refine G_seq ?_
  refine G_pure (E' := [⟨0, [], pt x⟩, ⟨1, [], .string d⟩]) [0] [0, 1] rfl (by kernel_rfl) ?_
  refine N_then ?_
  refine G_seq ?_
  refine G_seq ?_
  refine G_region ?_
  refine GL_pure (E' := [⟨10, [(9, false)], .string d⟩, ⟨9, [], .bool (d.toList == (ByteArray.mk #[]).toList)⟩, ⟨6, [], pt x⟩, ⟨0, [], pt x⟩, ⟨1, [], .string d⟩]) [0, 0, 0, 0, 0] (by kernel_rfl) (j := 5) rfl ?_
  refine GL_callQ (i := 5) (ch := [(9, false)]) (f := 33) (fst := #[]) (caps := #[]) (vs := [.string d]) (v := .bool (partB d)) rfl rfl rfl (by kernel_rfl) (by kernel_rfl) Try.func33 rfl rfl (by kernel_rfl) (by kernel_rfl) (by kernel_rfl) (fun hc => refPart _ hd _ _) ?_
  refine GL_pure (E' := [⟨12, [], .bool ((d.toList == (ByteArray.mk #[]).toList) || (partB d))⟩, ⟨6, [], pt x⟩, ⟨0, [], pt x⟩, ⟨1, [], .string d⟩]) [5] (by kernel_rfl) (j := 7) rfl ?_
  refine GL_call (i := 7) (ch := []) (f := 63) (fst := #[]) (caps := #[]) (vs := [pt x, .bool ((d.toList == (ByteArray.mk #[]).toList) || (partB d))]) rfl rfl rfl (by kernel_rfl) (by kernel_rfl) Try.func63 rfl rfl (by kernel_rfl) (by kernel_rfl) (chSure_of (by kernel_rfl)) (rCall x M.room M.calls (.slice s.ba s.bn s.bc) (.slice s.na s.nn s.nc) (.slice s.ka s.kn s.kc) (.slice s.ca s.cn s.cc) M.fails M.once ((d.toList == (ByteArray.mk #[]).toList) || (partB d)) hsca _ _) ?_
  rintro v H' ⟨rfl, rfl⟩
  refine GL_fin (E' := [⟨0, [], pt x⟩, ⟨1, [], .string d⟩, ⟨5, [], .int .i64 ((callS M.fails M.once M.calls ((d.toList == (ByteArray.mk #[]).toList) || (partB d))).1)⟩]) [0] [0, 1, 5] rfl (by kernel_rfl) ?_
  refine N_then ?_
  refine G_seq ?_
  refine G_pure (E' := [⟨0, [], pt x⟩, ⟨1, [], .string d⟩, ⟨5, [], .int .i64 ((callS M.fails M.once M.calls ((d.toList == (ByteArray.mk #[]).toList) || (partB d))).1)⟩, ⟨15, [], .bool (((callS M.fails M.once M.calls ((d.toList == (ByteArray.mk #[]).toList) || (partB d))).1) != 0)⟩]) [0, 0] [0, 1, 5, 15] rfl (by kernel_rfl) ?_
  refine N_then ?_
  refine G_cond (b := ((callS M.fails M.once M.calls ((d.toList == (ByteArray.mk #[]).toList) || (partB d))).1) != 0) (by kernel_rfl) (fun hc1 => ?_) (fun hc1 => ?_)
  ·
    have he : errM M (dirR d) ≠ 0 := bne_iff_ne.1 hc1
    -- L err
    refine G_seq ?_
    refine G_pure (E' := [⟨4, [], .int .i64 ((callS M.fails M.once M.calls ((d.toList == (ByteArray.mk #[]).toList) || (partB d))).1)⟩]) [0, 0] [4] rfl (by kernel_rfl) ?_
    refine N_then ?_
    refine G_ret ?_
    refine N_then_ret ?_
    refine N_ret [.tmp 4] [.int .i64 ((callS M.fails M.once M.calls ((d.toList == (ByteArray.mk #[]).toList) || (partB d))).1)] rfl (by kernel_rfl) rfl ?_
    rw [syncDirM_err he]
    exact ⟨rfl, s, ok_rcall h _, rfl⟩
  ·
    have he : errM M (dirR d) = 0 := by (have h0 := hc1; simp only [bne_eq_false_iff_eq] at h0; exact h0)
    refine G_skip ?_
    refine N_then ?_
    refine G_seq ?_
    refine G_region ?_
    refine GL_pure (E' := [⟨21, [], .pointer (some ⟨x, 4, none⟩)⟩, ⟨18, [], .string d⟩, ⟨17, [], pt x⟩]) [0, 0, 0, 0, 0] (by kernel_rfl) (j := 5) rfl ?_
    refine GL_load (i := 5) (ch := []) (b := x) (off := 4) (v := .slice s.ca s.cn s.cc) rfl rfl (by kernel_rfl) (by kernel_rfl) (by kernel_rfl) (by kernel_rfl) (by kernel_rfl) (At.grp 0 0 rfl rfl) rfl ?_
    refine GL_pure (E' := [⟨23, [], .int .i64 ((s.cn : Nat) : Int)⟩, ⟨18, [], .string d⟩, ⟨17, [], pt x⟩]) [0] (by kernel_rfl) (j := 7) rfl ?_
    refine GL_heap rfl (H' := ([(x, .cells #[.int .i64 M.room, .slice s.ba s.bn s.bc, .slice s.na s.nn s.nc, .slice s.ka s.kn s.kc, .slice s.ca s.cn s.cc, .bool ((callS M.fails M.once M.calls ((d.toList == (ByteArray.mk #[]).toList) || (partB d))).2.1), .bool M.once, .int .i64 ((callS M.fails M.once M.calls ((d.toList == (ByteArray.mk #[]).toList) || (partB d))).2.2)] 86 (0, 0))] :: s.bg :: s.cg :: (s.Z ++ H))) (fun w h => (((h.front (j := 2) rfl).front (j := 2) rfl).front (j := 2) rfl)) ?_
    refine GL_call (i := 7) (ch := []) (f := 65) (fst := #[]) (caps := #[]) (vs := [pt x, .string d, .int .i64 ((s.cn : Nat) : Int)]) rfl rfl rfl (by kernel_rfl) (by kernel_rfl) Try.func65 rfl rfl (by kernel_rfl) (by kernel_rfl) (chSure_of (by kernel_rfl)) (rKeep x s (callM M (dirR d)) (ok_rcall h _) ⟨hskn, Nat.le_trans hsc (by decide), hm.chs⟩ d s.cn (by omega) _ H) ?_
    rintro v H' ⟨rfl, sr2, hsr2, rfl⟩
    refine GL_fin (E' := []) [] [] rfl (by kernel_rfl) ?_
    refine N_then ?_
    refine G_seq ?_
    refine G_pure (E' := [⟨4, [], .int .i64 0⟩]) [0] [4] rfl (by kernel_rfl) ?_
    refine N_then ?_
    refine G_ret ?_
    refine N_ret [.tmp 4] [.int .i64 0] rfl (by kernel_rfl) rfl ?_
    rw [syncDirM_ok he]
    have e := keepM_all (callM M (dirR d)) d
    rw [show (callM M (dirR d)).changes.length = s.cn by rw [hcn, hch]; rfl] at e
    rw [e] at hsr2
    exact ⟨rfl, sr2, hsr2, by rw [e]; rfl⟩
end Go.Proofs.Ytbmieiffboenbaa
namespace Go.Vf
open Go.Sw Go.RowKit Go.Proofs.Ytbmieiffboenbaa
abbrev SortedB (l : List ByteArray) : Prop := l.Pairwise fun a b => a.data.toList ≤ b.data.toList
theorem bl_eq : ∀ x y : List UInt8, Op.bytesLess x y = decide (x < y)
  | [], [] => by simp [Op.bytesLess]
  | _ :: _, [] => by simp [Op.bytesLess]
  | [], _ :: _ => by simp [Op.bytesLess]
  | a :: x, b :: y => by
    rw [Op.bytesLess, bl_eq x y, Bool.eq_iff_iff]
    simp only [Bool.or_eq_true, Bool.and_eq_true, decide_eq_true_eq, beq_iff_eq, List.cons_lt_cons_iff]
theorem bl_lt (a b : ByteArray) : Op.bytesLess a.toList b.toList = decide (a.data.toList < b.data.toList) := by rw [bl_eq, Lib.toList_data, Lib.toList_data]
theorem sortB_sorted (ws : List ByteArray) : SortedB (sortB ws) := by
  unfold sortB SortedB
  rw [List.pairwise_map]
  have h := List.pairwise_mergeSort (le := fun x y : List UInt8 => decide (x ≤ y)) (by intro a b c; simp only [decide_eq_true_eq]; exact List.le_trans) (by intro a b; simp only [Bool.or_eq_true, decide_eq_true_eq]; exact List.le_total a b) (ws.map fun s => s.data.toList)
  exact h.imp fun {a b} hab => by simpa using hab
theorem sorted_uniq {l ws : List ByteArray} (h : SortedB l) (hp : l.Perm ws) : l = sortB ws :=
  (hp.trans (sortB_perm ws).symm).eq_of_pairwise (le := fun a b : ByteArray => a.data.toList ≤ b.data.toList) (fun a b _ _ h1 h2 => by
    have e := List.le_antisymm h1 h2
    have e2 : a.data = b.data := Array.toList_inj.1 e
    cases a; cases b; simp_all) h (sortB_sorted ws)
theorem strs_len (l : List ByteArray) : (strs l).length = l.length := by unfold strs; rw [List.length_map]
theorem strs_ne0 {l : List ByteArray} {i : Nat} (h : i < l.length) : strs l ≠ [] := by
  intro e
  have := congrArg List.length e
  rw [strs_len] at this
  rw [this] at h; simp at h
end Go.Vf
namespace Go.Vf
open Go.Sw Go.RowKit
theorem headD_drop {l : List Int} {u : Nat} : (l.drop u).headD 0 = l.getD u 0 := by
  rw [List.headD_eq_head?_getD, List.head?_drop, List.getD_eq_getElem?_getD]
theorem getD_over {l : List Int} {u : Nat} (h : l.length ≤ u) : l.getD u 0 = 0 := by
  rw [List.getD_eq_getElem?_getD, List.getElem?_eq_none h]; rfl
theorem nextK0 {m : Int} (hm : 0 < m) : nextK 0 m = 0 := by
  unfold nextK
  rw [Int.zero_tmod, Int.zero_add, Int.tmod_self]
theorem crashB_app : ∀ (A B : List Body) (ks : List Int), crashB (A ++ B) ks = ((crashB A ks).1 ++ (crashB B (crashB A ks).2).1, (crashB B (crashB A ks).2).2)
  | [], B, ks => rfl
  | b :: A, B, ks => by
    rw [List.cons_append, crashB, crashB]
    split
    · simp only; rw [crashB_app A B]; rfl
    · simp only; rw [crashB_app A B]; rfl
def CrB (Bs : List Body) (l : List Int) (j u : Nat) (X : List Body) : Prop := ∃ P, crashB (Bs.take j) l = (P, l.drop u) ∧ X = P ++ Bs.drop j
theorem crb0 (Bs : List Body) (l : List Int) : CrB Bs l 0 0 Bs := ⟨[], by simp [crashB], by simp⟩
theorem crb_at {Bs X : List Body} {l : List Int} {j u : Nat} (h : CrB Bs l j u X) (hj : j ≤ Bs.length) : X.length = Bs.length ∧ X.getD j default = Bs.getD j default := by
  obtain ⟨P, h1, rfl⟩ := h
  have hP : P.length = j := by
    have := crashB_len (Bs := Bs.take j) (ks := l)
    rw [h1, List.length_take] at this
    show P.length = j
    have h2 : P.length = min j Bs.length := this
    omega
  refine ⟨by rw [List.length_append, List.length_drop]; omega, ?_⟩
  rw [List.getD_eq_getElem?_getD, List.getD_eq_getElem?_getD, List.getElem?_append_right (by omega), List.getElem?_drop, hP, Nat.sub_self, Nat.add_zero]
theorem crb_set {Bs X : List Body} {l : List Int} {j u u' : Nat} {Y : Body} (h : CrB Bs l j u X) (hj : j < Bs.length) (h1 : crashB [Bs.getD j default] (l.drop u) = ([Y], l.drop u')) : CrB Bs l (j + 1) u' (X.set j Y) := by
  obtain ⟨P, h2, rfl⟩ := h
  have hP : P.length = j := by
    have := crashB_len (Bs := Bs.take j) (ks := l)
    rw [h2, List.length_take] at this
    have h2 : P.length = min j Bs.length := this
    omega
  refine ⟨P ++ [Y], ?_, ?_⟩
  · rw [take_snoc (d := default) hj, crashB_app, h2]
    show (P ++ (crashB [Bs.getD j default] (l.drop u)).1, (crashB [Bs.getD j default] (l.drop u)).2) = _
    rw [h1]
  · rw [List.set_append_right _ _ (by omega), hP, Nat.sub_self, List.drop_eq_getElem_cons hj, List.set_cons_zero, List.append_assoc]; rfl
theorem now_ne {b : Body} (hp : b.kept.size ≤ b.now.size ∧ b.kept = b.now.extract 0 b.kept.size) (h : (!(b.now.toList == b.kept.toList)) = true) : b.kept.size < b.now.size := by
  rcases Nat.lt_or_ge b.kept.size b.now.size with h1 | h1
  · exact h1
  · exfalso
    have e : b.kept.size = b.now.size := by omega
    have e2 : b.kept = b.now := by
      have h3 := hp.2
      rw [e] at h3
      exact h3.trans (pre_same b.now).2.symm
    rw [e2, beq_self_eq_true] at h
    cases h
theorem now_eq {b : Body} (h : (!(b.now.toList == b.kept.toList)) = false) : b.now = b.kept := by
  rw [tlEq] at h
  simpa using h
theorem set_twice {X : List Body} {j : Nat} (hj : j < X.length) {n k : ByteArray} : ((X.set j ⟨n, k⟩).set j ⟨((X.set j ⟨n, k⟩).getD j default).kept, ((X.set j ⟨n, k⟩).getD j default).kept⟩) = X.set j ⟨k, k⟩ := by
  have e : (X.set j ⟨n, k⟩).getD j default = ⟨n, k⟩ := by
    rw [List.getD_eq_getElem?_getD, List.getElem?_set_self hj]; rfl
  rw [e, List.set_set]
theorem crb_yes {Bs X : List Body} {l : List Int} {j u : Nat} (h : CrB Bs l j u X) (hj : j < Bs.length) (hp : ∀ B ∈ Bs, B.kept.size ≤ B.now.size ∧ B.kept = B.now.extract 0 B.kept.size) (hne : (!((X.getD j default).now.toList == (X.getD j default).kept.toList)) = true) {n : Int}
    (hn : n = nextK (l.getD u 0) (((X.getD j default).now.size : Int) - ((X.getD j default).kept.size : Int) + 1)) :
    CrB Bs l (j + 1) (u + 1) ((X.set j ⟨(X.getD j default).now, (X.getD j default).now.extract 0 (Int.toNat (((X.getD j default).kept.size : Int) + n))⟩).set j ⟨((X.set j ⟨(X.getD j default).now, (X.getD j default).now.extract 0 (Int.toNat (((X.getD j default).kept.size : Int) + n))⟩).getD j default).kept, ((X.set j ⟨(X.getD j default).now, (X.getD j default).now.extract 0 (Int.toNat (((X.getD j default).kept.size : Int) + n))⟩).getD j default).kept⟩) := by
  obtain ⟨hl, he⟩ := crb_at h (Nat.le_of_lt hj)
  rw [set_twice (by omega)]
  refine crb_set h hj ?_
  rw [he] at hne hn ⊢
  have hlt := now_ne (hp _ (getD_memG hj)) hne
  have hb := nextK_bd (k := l.getD u 0) (n := ((Bs.getD j default).now.size : Int) - ((Bs.getD j default).kept.size : Int) + 1) (by omega)
  rw [crashB, if_pos (by omega), headD_drop, List.drop_drop]
  subst hn
  have e : Int.toNat (((Bs.getD j default).kept.size : Int) + nextK (l.getD u 0) (((Bs.getD j default).now.size : Int) - ((Bs.getD j default).kept.size : Int) + 1)) = (Bs.getD j default).kept.size + (nextK (l.getD u 0) (((Bs.getD j default).now.size : Int) - ((Bs.getD j default).kept.size : Int) + 1)).toNat := by omega
  rw [e]
  rfl
theorem crb_no {Bs X : List Body} {l : List Int} {j u : Nat} (h : CrB Bs l j u X) (hj : j < Bs.length) (hne : (!((X.getD j default).now.toList == (X.getD j default).kept.toList)) = false) : CrB Bs l (j + 1) u (X.set j ⟨(X.getD j default).kept, (X.getD j default).kept⟩) := by
  obtain ⟨hl, he⟩ := crb_at h (Nat.le_of_lt hj)
  refine crb_set h hj ?_
  rw [he] at hne ⊢
  have e := now_eq hne
  rw [crashB, if_neg (by rw [e]; omega)]; rfl
theorem crb_end {Bs X : List Body} {l : List Int} {j u : Nat} (h : CrB Bs l j u X) (hj : Bs.length ≤ j) : X = (crashB Bs l).1 ∧ (crashB Bs l).2 = l.drop u := by
  obtain ⟨P, h1, rfl⟩ := h
  rw [List.take_of_length_le hj] at h1
  rw [List.drop_eq_nil_of_le hj, List.append_nil, h1]; exact ⟨rfl, rfl⟩
theorem crb_pre {Bs X : List Body} {l : List Int} {u : Nat} (h : X = (crashB Bs l).1) (hs : ∀ B ∈ Bs, B.now.size ≤ 10000000 ∧ B.kept.size ≤ B.now.size) : ∀ B ∈ X, B.kept.size ≤ B.now.size ∧ B.kept = B.now.extract 0 B.kept.size := by
  subst h
  intro B hB
  have h1 := crashB_quiet hs B hB
  cases B
  simp only at h1
  subst h1
  exact pre_same _
theorem crashD_filter {l : List Ch} {d : ByteArray} : ∀ {ds : List ByteArray} {ks : List Int} {K : List Nm}, d ∉ ds → crashD l ds ks K = crashD (l.filter fun c => !(d == c.dir)) ds ks K
  | [], _, _, _ => rfl
  | x :: ds, ks, K, hx => by
    rw [crashD, crashD]
    have hne : (x == d) = false := by rw [baNe]; intro he; exact hx (by rw [he]; exact List.mem_cons_self)
    rw [chOf_filter, hne]
    simp only [Bool.false_eq_true, if_false]
    exact crashD_filter fun h => hx (List.mem_cons_of_mem _ h)
theorem filt_mem {C : List Ch} {d x : ByteArray} : x ∈ (C.filter fun c => !(d == c.dir)).map (·.dir) ↔ x ∈ C.map (·.dir) ∧ x ≠ d := by
  constructor
  · intro h
    obtain ⟨c, hc, rfl⟩ := List.mem_map.1 h
    obtain ⟨h1, h2⟩ := List.mem_filter.1 hc
    refine ⟨List.mem_map.2 ⟨c, h1, rfl⟩, fun e => ?_⟩
    rw [e, show (d == d) = true from baEq.2 rfl] at h2
    cases h2
  · rintro ⟨h, hne⟩
    obtain ⟨c, hc, rfl⟩ := List.mem_map.1 h
    have h2 : (d == c.dir) = false := by rw [baNe]; exact fun e => hne e.symm
    exact List.mem_map.2 ⟨c, List.mem_filter.2 ⟨hc, by rw [h2]; rfl⟩, rfl⟩
theorem dirs_cons {C : List Ch} {d : ByteArray} (hm : d ∈ C.map (·.dir)) (hl : ∀ c ∈ C, Op.bytesLess c.dir.toList d.toList = false) : dirsOf C = d :: dirsOf (C.filter fun c => !(d == c.dir)) := by
  have hin : ∀ x, x ∈ dirsOf (C.filter fun c => !(d == c.dir)) ↔ x ∈ C.map (·.dir) ∧ x ≠ d := fun x => by
    unfold dirsOf
    rw [(sortB_perm _).mem_iff, once_mem, filt_mem]
  refine (sorted_uniq (ws := onceL (C.map (·.dir))) (List.pairwise_cons.2 ⟨fun x hx => ?_, sortB_sorted _⟩) ?_).symm
  · obtain ⟨h1, _⟩ := (hin x).1 hx
    obtain ⟨c, hc, rfl⟩ := List.mem_map.1 h1
    have := hl c hc
    rwa [bl_lt, decide_eq_false_iff_not, List.not_lt] at this
  · refine (List.perm_ext_iff_of_nodup (List.nodup_cons.2 ⟨fun h => ((hin d).1 h).2 rfl, dirs_nodup _⟩) (once_nodup _)).2 fun x => ?_
    rw [List.mem_cons, hin, once_mem]
    constructor
    · rintro (rfl | h)
      · exact hm
      · exact h.1
    · intro h
      by_cases e : x = d
      · exact .inl e
      · exact .inr ⟨h, e⟩
structure CrD (M : DM) (l : List Int) (Mr : DM) (u : Nat) : Prop where
  room : Mr.room = M.room
  bodies : Mr.bodies = (crashB M.bodies l).1
  once : Mr.once = M.once
  calls : Mr.calls = M.calls
  goal : crashD Mr.changes (dirsOf Mr.changes) (l.drop u) Mr.kept = crashD M.changes (dirsOf M.changes) (crashB M.bodies l).2 M.kept
  kept : Mr.kept.length + addsC Mr.changes ≤ 10000
  chs : ∀ c ∈ Mr.changes, c.l.length ≤ 2
  len : u + Mr.changes.length ≤ M.bodies.length + M.changes.length
theorem dirsOf_nil : dirsOf [] = [] := (sortB_perm _).eq_nil
theorem crd_end {M Mr : DM} {l : List Int} {u : Nat} (h : CrD M l Mr u) (h0 : Mr.changes = []) : { Mr with names := Mr.kept, fails := false } = crashM M l := by
  have hg := h.goal
  rw [h0, dirsOf_nil] at hg
  have hk : Mr.kept = crashD M.changes (dirsOf M.changes) (crashB M.bodies l).2 M.kept := hg
  unfold crashM
  rw [← hk, ← h.bodies, ← h.room, ← h.once, ← h.calls]
  cases Mr
  simp only at h0
  subst h0; rfl
def dropM (M : DM) (d : ByteArray) : DM := { M with changes := M.changes.filter fun c => !(d == c.dir) }
theorem keep_drop {M : DM} {d : ByteArray} {n : Nat} : (dropM (keepM M d n) d).changes = M.changes.filter fun c => !(d == c.dir) := by
  show ((keepL d n M.kept M.changes).2.1).filter _ = _
  unfold keepL
  rw [kstep_rest]; rfl
theorem keep_kept {M : DM} {d : ByteArray} {n : Nat} : (keepM M d n).kept = ((chOf M.changes d).take n).foldl applyN M.kept := by
  show (keepL d n M.kept M.changes).2.2 = _
  unfold keepL
  rw [kstep_kept]
theorem drop_less {C : List Ch} {d : ByteArray} (hm : d ∈ C.map (·.dir)) : (C.filter fun c => !(d == c.dir)).length < C.length := by
  obtain ⟨c, hc, rfl⟩ := List.mem_map.1 hm
  refine Nat.lt_of_le_of_ne (List.length_filter_le _ _) fun h => ?_
  have := List.length_filter_eq_length_iff.1 h c hc
  rw [show (c.dir == c.dir) = true from baEq.2 rfl] at this
  cases this
theorem crd_step {M Mr : DM} {l : List Int} {u nn : Nat} {d : ByteArray} (h : CrD M l Mr u) (hm : d ∈ Mr.changes.map (·.dir)) (hl : ∀ c ∈ Mr.changes, Op.bytesLess c.dir.toList d.toList = false)
    (hn : nn = (nextK (l.getD u 0) (((chOf Mr.changes d).length : Int) + 1)).toNat) : CrD M l (dropM (keepM Mr d nn) d) (u + 1) := by
  have hk : (dropM (keepM Mr d nn) d).kept = ((chOf Mr.changes d).take nn).foldl applyN Mr.kept := keep_kept
  refine ⟨h.room, h.bodies, h.once, h.calls, ?_, ?_, fun c hc => ?_, ?_⟩
  · rw [keep_drop, hk, ← h.goal, dirs_cons hm hl, crashD, headD_drop, ← hn, List.drop_drop]
    refine (crashD_filter fun hx => ?_).symm
    unfold dirsOf at hx
    rw [(sortB_perm _).mem_iff, once_mem, filt_mem] at hx
    exact hx.2 rfl
  · rw [keep_drop, hk]
    have h1 := fold_len ((chOf Mr.changes d).take nn) Mr.kept
    have h2 := addsL_take (chOf Mr.changes d) nn
    have h3 := addsC_split Mr.changes d
    have h4 := h.kept
    omega
  · rw [keep_drop] at hc
    exact h.chs c (List.mem_filter.1 hc).1
  · rw [keep_drop]
    have h1 := drop_less hm
    have h2 := h.len
    omega
theorem All2.filter {α β : Type} {R : α → β → Prop} {p : α → Bool} {q : β → Bool} (hpq : ∀ a b, R a b → p a = q b) : ∀ {l : List α} {m : List β}, All2 R l m → All2 R (l.filter p) (m.filter q)
  | [], [], .nil => .nil
  | a :: l, b :: m, .cons h t => by
    rw [List.filter_cons, List.filter_cons, hpq a b h]
    split
    · exact .cons h (All2.filter hpq t)
    · exact All2.filter hpq t
theorem dir_beq {a b : ByteArray} : (a == b) = (b.toList == a.toList) := by rw [tlEq, Bool.eq_iff_iff, baEq, baEq]; exact eq_comm
theorem ok_rdrop {s : RS} {M : DM} (h : s.ok M) {d : ByteArray} {rs : List CR} {a : Option Addr} {c : Nat} {g : Grp} (hr : rs = s.cs.filter fun c => !(c.dir.toList == d.toList)) (hO : Own 104 2 (.slice a rs.length c) g rs.length (chC rs)) :
    RS.ok { s with cn := rs.length, ca := a, cc := c, cg := g, cs := rs } (dropM M d) := by
  refine ⟨h.bn, h.own, h.nn, h.names, h.kn, h.kept, rfl, hO, ?_, ⟨h.well.names, h.well.kept, fun c hc => h.well.chs c (List.mem_filter.1 hc).1, h.well.pre⟩⟩
  subst hr
  exact All2.filter (fun a b hab => by rw [hab.dir, dir_beq]) h.chs
def MinD (cs : List CR) (k : Nat) (ls : ByteArray) : Prop := (∃ c ∈ cs, c.dir = ls) ∧ ∀ c ∈ cs.take k, Op.bytesLess c.dir.toList ls.toList = false
theorem min0 {cs : List CR} (h : 0 < cs.length) : MinD cs 0 (cs.getD 0 default).dir := ⟨⟨_, getD_memG h, rfl⟩, fun c hc => by rw [List.take_zero] at hc; cases hc⟩
theorem min_yes {cs : List CR} {k : Nat} {ls : ByteArray} (h : MinD cs k ls) (hk : k < cs.length) (hb : Op.bytesLess (cs.getD k default).dir.toList ls.toList = true) : MinD cs (k + 1) (cs.getD k default).dir := by
  refine ⟨⟨_, getD_memG hk, rfl⟩, fun c hc => ?_⟩
  rw [bl_lt, decide_eq_false_iff_not, List.not_lt]
  rw [take_snoc (d := default) hk] at hc
  rcases List.mem_append.1 hc with hc | hc
  · have h1 := h.2 c hc
    rw [bl_lt, decide_eq_false_iff_not, List.not_lt] at h1
    rw [bl_lt, decide_eq_true_eq] at hb
    exact List.le_trans (List.le_of_lt hb) h1
  · rw [List.mem_singleton.1 hc]; exact List.le_refl _
theorem min_no {cs : List CR} {k : Nat} {ls : ByteArray} (h : MinD cs k ls) (hk : k < cs.length) (hb : Op.bytesLess (cs.getD k default).dir.toList ls.toList = false) : MinD cs (k + 1) ls := by
  refine ⟨h.1, fun c hc => ?_⟩
  rw [take_snoc (d := default) hk] at hc
  rcases List.mem_append.1 hc with hc | hc
  · exact h.2 c hc
  · rw [List.mem_singleton.1 hc]; exact hb
theorem All2.memR {α β : Type} {R : α → β → Prop} {l : List α} {m : List β} (h : All2 R l m) {b : β} (hb : b ∈ m) : ∃ a ∈ l, R a b := by
  induction h with
  | nil => cases hb
  | cons hab _ ih =>
    rcases List.mem_cons.1 hb with rfl | hb
    · exact ⟨_, List.mem_cons_self, hab⟩
    · obtain ⟨a, ha, hr⟩ := ih hb
      exact ⟨a, List.mem_cons_of_mem _ ha, hr⟩
theorem min_end {Z : List Grp} {cs : List CR} {C : List Ch} (hR : All2 (CRok Z) cs C) {k : Nat} (hk : cs.length ≤ k) {ls : ByteArray} (h : MinD cs k ls) : ls ∈ C.map (·.dir) ∧ ∀ c ∈ C, Op.bytesLess c.dir.toList ls.toList = false := by
  obtain ⟨⟨c, hc, rfl⟩, h2⟩ := h
  rw [List.take_of_length_le hk] at h2
  refine ⟨?_, fun C0 hC => ?_⟩
  · obtain ⟨C0, h3, h4⟩ := hR.mem hc
    exact List.mem_map.2 ⟨C0, h3, h4.dir.symm⟩
  · obtain ⟨c0, h3, h4⟩ := hR.memR hC
    have := h2 c0 h3
    rwa [h4.dir] at this
def cntD (cs : List CR) (k : Nat) (ls : ByteArray) : Nat := 1 + ((cs.take k).filter fun c => c.dir.toList == ls.toList).length
theorem cnt_yes {cs : List CR} {k : Nat} {ls : ByteArray} (hk : k < cs.length) (h : ((cs.getD k default).dir.toList == ls.toList) = true) : cntD cs (k + 1) ls = cntD cs k ls + 1 := by
  unfold cntD
  rw [take_snoc (d := default) hk, List.filter_append, List.length_append, List.filter_cons, if_pos h]; rfl
theorem cnt_no {cs : List CR} {k : Nat} {ls : ByteArray} (hk : k < cs.length) (h : ((cs.getD k default).dir.toList == ls.toList) = false) : cntD cs (k + 1) ls = cntD cs k ls := by
  unfold cntD
  rw [take_snoc (d := default) hk, List.filter_append, List.length_append, List.filter_cons, if_neg (by rw [h]; decide)]; rfl
theorem cnt_le {cs : List CR} {k : Nat} {ls : ByteArray} : cntD cs k ls ≤ 1 + cs.length := by
  unfold cntD
  have := List.length_filter_le (fun c : CR => c.dir.toList == ls.toList) (cs.take k)
  rw [List.length_take] at this
  omega
theorem cnt_end {Z : List Grp} {cs : List CR} {C : List Ch} (hR : All2 (CRok Z) cs C) {k : Nat} (hk : cs.length ≤ k) (ls : ByteArray) : cntD cs k ls = (chOf C ls).length + 1 := by
  unfold cntD chOf
  rw [List.take_of_length_le hk, List.length_map, Nat.add_comm]
  have := (All2.filter (p := fun c : CR => c.dir.toList == ls.toList) (q := fun c : Ch => ls == c.dir) (fun a b hab => by rw [hab.dir, dir_beq]) hR).len
  rw [this]
theorem filt_put {cs : List CR} {k : Nat} {ls : ByteArray} (hk : k < cs.length) (h : (!((cs.getD k default).dir.toList == ls.toList)) = true) : (cs.take (k + 1)).filter (fun c => !(c.dir.toList == ls.toList)) = (cs.take k).filter (fun c => !(c.dir.toList == ls.toList)) ++ [cs.getD k default] := by
  rw [take_snoc (d := default) hk, List.filter_append, List.filter_cons, if_pos h]; rfl
theorem filt_skip {cs : List CR} {k : Nat} {ls : ByteArray} (hk : k < cs.length) (h : (!((cs.getD k default).dir.toList == ls.toList)) = false) : (cs.take (k + 1)).filter (fun c => !(c.dir.toList == ls.toList)) = (cs.take k).filter (fun c => !(c.dir.toList == ls.toList)) := by
  rw [take_snoc (d := default) hk, List.filter_append, List.filter_cons, if_neg (by rw [h]; decide)]; simp
theorem ok_rbodies {s : RS} {M : DM} (h : s.ok M) (hm : SmallR M) {X : List Body} {l : List Int} {u : Nat} {g : Grp} (he : X = (crashB M.bodies l).1) (hu : (crashB M.bodies l).2 = l.drop u) (hul : u ≤ M.bodies.length) (hO : Own 92 2 (.slice s.ba s.bn s.bc) g s.bn (bdC X)) :
    RS.ok { s with bg := g } { M with bodies := X } ∧ CrD M l { M with bodies := X } u := by
  have hl : X.length = M.bodies.length := by rw [he, crashB_len]
  refine ⟨⟨by show s.bn = X.length; rw [hl, h.bn], hO, h.nn, h.names, h.kn, h.kept, h.cn, h.own2, h.chs, ⟨fun y hy => ?_, fun y hy => ?_, fun c hc y hy h0 => ?_, crb_pre (u := u) he hm.small.size⟩⟩, ⟨rfl, he, rfl, rfl, by rw [hu], hm.kept, hm.chs, by show u + M.changes.length ≤ _; omega⟩⟩
  · show 0 ≤ y.2 ∧ y.2.toNat < X.length; rw [hl]; exact h.well.names y hy
  · show 0 ≤ y.2 ∧ y.2.toNat < X.length; rw [hl]; exact h.well.kept y hy
  · show y.2.toNat < X.length; rw [hl]; exact h.well.chs c hc y hy h0
theorem nmC_len (l : List Nm) : (nmC l).length = l.length * 2 := cells2_len _ l
theorem nmC_one (l : List Nm) : ∀ u ∈ nmC l, Value.oneCell' u = true := by
  intro u hu
  unfold nmC cells2 at hu
  obtain ⟨x, _, hx⟩ := List.mem_flatMap.1 hu
  simp only [List.mem_cons, List.not_mem_nil, or_false] at hx
  rcases hx with rfl | rfl <;> rfl
theorem ok_rend {s : RS} {M : DM} (h : s.ok M) {a : Option Addr} {c n : Nat} {g : Grp} (hn : n = M.kept.length) (hr : Rd (inG g) a (nmC M.kept)) : RS.ok { s with nn := n, na := a, nc := c, Z := g :: s.Z } { M with names := M.kept, fails := false } :=
  ⟨h.bn, h.own, hn, hr.mono fun _ _ h => inZ_hd h, h.kn, h.kept.mono fun _ _ h => inZ_cons h, h.cn, h.own2, h.chs.imp fun _ _ hc => hc.mono fun _ _ h => inZ_cons h, ⟨h.well.kept, h.well.kept, h.well.chs, h.well.pre⟩⟩
theorem rd_none {S : Nat → Obj → Prop} {a : Option Addr} {l : List Nm} {n : Nat} (h : Rd S a (nmC l)) (hn : n = l.length) (ha : a = none) : n = 0 := by
  subst ha
  rcases h with h | ⟨b, off, c, e, fz, h1, _⟩
  · have := congrArg List.length h
    rw [nmC_len] at this
    simp only [List.length_nil] at this
    omega
  · cases h1
theorem intL_at {l : List Int} {u : Nat} (h : u < l.length) : (l.map (Value.int .i64))[u]? = some (.int .i64 (l.getD u 0)) := by
  rw [List.getElem?_map, List.getElem?_eq_getElem h, List.getD_eq_getElem?_getD, List.getElem?_eq_getElem h]; rfl
theorem ints_ne {l : List Int} {u : Nat} (h : u < l.length) : l.map (Value.int .i64) ≠ [] := by
  intro e
  rw [List.map_eq_nil_iff] at e
  rw [e] at h; simp at h
theorem kstep_len {d : ByteArray} : ∀ {l : List Ch} {n : Nat} {acc : List Ch} {K : List Nm}, ((l.foldl (kstep Ch.dir Ch.l d) (n, acc, K)).2.1).length ≤ acc.length + l.length
  | [], _, _, _ => Nat.le_refl _
  | x :: l, n, acc, K => by
    rw [List.foldl_cons, kstep]
    split
    · have := kstep_len (d := d) (l := l) (n := n) (acc := acc ++ [x]) (K := K)
      rw [List.length_append, List.length_singleton] at this
      rw [List.length_cons]
      exact Nat.le_trans this (by omega)
    · have := kstep_len (d := d) (l := l) (n := n - 1) (acc := acc) (K := applyN K x.l)
      rw [List.length_cons]
      exact Nat.le_trans this (by omega)
theorem keep_len (M : DM) (d : ByteArray) (n : Nat) : (keepM M d n).changes.length ≤ M.changes.length := by
  have := kstep_len (d := d) (l := M.changes) (n := n) (acc := []) (K := M.kept)
  rw [List.length_nil, Nat.zero_add] at this
  exact this
end Go.Vf
