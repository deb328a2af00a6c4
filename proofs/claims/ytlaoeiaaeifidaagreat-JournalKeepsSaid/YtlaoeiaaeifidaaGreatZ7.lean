/- JournalKeeps: whatever crash comes at any call, the records are those that there were, or would be, for all scripts and numbers. No condition beyond the given statement's. (and what it stands on) -/
import Derived.Test.YtlaoeiaaeifidaaGreatZ6
namespace Go.Jr
open Go.Sw Go.Lib Go.Vf Go.Sha Go.Proofs.YtlaoeiaaeifidaaGreat
structure Pth (dir : ByteArray) : Prop where
  rp : rightB (pathJ dir logB) = true
  rq : rightB (pathJ dir newB) = true
  dp : dirB (pathJ dir logB) = dir
  dq : dirB (pathJ dir newB) = dir
  dr : dirR dir = true
  ne : (pathJ dir newB == pathJ dir logB) = false
theorem Pth.rn {dir : ByteArray} (h : Pth dir) : renR (pathJ dir newB) (pathJ dir logB) = true := by unfold renR; rw [h.rp, h.rq, h.dp, h.dq, beq_self_eq_true]; rfl
theorem Pth.ne' {dir : ByteArray} (h : Pth dir) : (pathJ dir logB == pathJ dir newB) = false := by
  have := h.ne
  rw [beq_eq_false_iff_ne] at this ⊢
  exact Ne.symm this
theorem lookN_snoc {l : List Nm} {p : ByteArray} {k : Int} (h : lookN l p = none) : lookN (l ++ [(p, k)]) p = some k := by
  induction l with
  | nil => show (if p == p then some k else none) = _; rw [if_pos (beq_self_eq_true p)]
  | cons n r ih =>
    rw [lookN] at h
    rw [List.cons_append, lookN]
    split at h
    · cases h
    · rename_i h1; rw [if_neg h1]; exact ih h
theorem lookN_filter (l : List Nm) (p : ByteArray) : lookN (l.filter fun n => !(p == n.1)) p = none := by
  induction l with
  | nil => rfl
  | cons n r ih =>
    rw [List.filter_cons]
    split
    · rename_i h1; rw [lookN, if_neg (by simpa using h1)]; exact ih
    · exact ih
theorem look_with {l : List Nm} {p : ByteArray} {k : Int} (hk : 0 ≤ k) : lookN (withN l (p, k)) p = some k := by
  unfold withN; rw [if_pos hk]; exact lookN_snoc (lookN_filter l p)
theorem lookN_app {l r : List Nm} {p : ByteArray} : lookN (l ++ r) p = match lookN l p with | some k => some k | none => lookN r p := by
  induction l with
  | nil => rfl
  | cons n l ih =>
    rw [List.cons_append, lookN, lookN]
    split
    · rfl
    · exact ih
def wriD (M : DM) (dir l : ByteArray) : DM := { M with bodies := M.bodies ++ [⟨l, l⟩], names := withN M.names (pathJ dir logB, (M.bodies.length : Int)), kept := (chOf (M.changes ++ ([⟨dir, [(pathJ dir logB, (M.bodies.length : Int))]⟩] : List Ch)) dir).foldl applyN M.kept, changes := (M.changes ++ ([⟨dir, [(pathJ dir logB, (M.bodies.length : Int))]⟩] : List Ch)).filter fun c => !(dir == c.dir) }
def appD (M : DM) (k : Int) (l : ByteArray) : DM := setBody M k ⟨(bodyAt M k).now ++ l, (bodyAt M k).now ++ l⟩
def repN (N : List Nm) (dir : ByteArray) (n : Int) : List Nm := applyN (withN N (pathJ dir newB, n)) [(pathJ dir newB, -1), (pathJ dir logB, n)]
def repC (cs : List Ch) (dir : ByteArray) (n : Int) : List Ch := (cs ++ ([⟨dir, [(pathJ dir newB, n)]⟩] : List Ch)) ++ ([⟨dir, [(pathJ dir newB, -1), (pathJ dir logB, n)]⟩] : List Ch)
def repD (M : DM) (dir b : ByteArray) : DM := { M with bodies := M.bodies ++ [⟨b, b⟩], names := repN M.names dir (M.bodies.length : Int), kept := (chOf (repC M.changes dir (M.bodies.length : Int)) dir).foldl applyN M.kept, changes := (repC M.changes dir (M.bodies.length : Int)).filter fun c => !(dir == c.dir) }
theorem getD_snoc {α : Type} (l : List α) (x d : α) : (l ++ [x]).getD l.length d = x := by simp [List.getD]
theorem set_snoc {α : Type} (l : List α) (x y : α) : (l ++ [x]).set l.length y = l ++ [y] := by simp
def wr1 (M : DM) (p b : ByteArray) : DM := changeM { M with bodies := M.bodies ++ [⟨b, ByteArray.mk #[]⟩] } (dirB p) [(p, (M.bodies.length : Int))]
def wr2 (M : DM) (p b : ByteArray) : DM := changeM { M with bodies := M.bodies ++ [⟨b, b⟩] } (dirB p) [(p, (M.bodies.length : Int))]
theorem write_run {M : DM} {p b : ByteArray} (hr : rightB p = true) (hf : M.fails = false) (hroom : (usedM M : Int) - (wasM M p : Int) + (b.size : Int) ≤ M.room) :
    writeM M p b = (0, wr1 M p b) := by
  obtain ⟨h1, h2⟩ := err_ok hr hf
  rw [writeM_ok h1 (by omega), h2]; rfl
theorem sync_run {M : DM} {p : ByteArray} {k : Int} (hr : rightB p = true) (hf : M.fails = false) (hl : lookN M.names p = some k) : syncM M p = (0, setBody M k ⟨(bodyAt M k).now, (bodyAt M k).now⟩) := by
  obtain ⟨h1, h2⟩ := err_ok hr hf
  rw [syncM_ok h1 hl, h2]
theorem sdir_run {M : DM} {d : ByteArray} (hr : dirR d = true) (hf : M.fails = false) : syncDirM M d = (0, { M with kept := (chOf M.changes d).foldl applyN M.kept, changes := M.changes.filter fun c => !(d == c.dir) }) := by
  obtain ⟨h1, h2⟩ := err_ok hr hf
  rw [syncDirM_ok h1, h2]
theorem ren_run {M : DM} {p q : ByteArray} {k : Int} (hr : renR p q = true) (hf : M.fails = false) (hl : lookN M.names p = some k) (hne : (p == q) = false) : renameM M p q = (0, changeM M (dirB q) [(p, -1), (q, k)]) := by
  obtain ⟨h1, h2⟩ := err_ok hr hf
  rw [renameM_ok h1 hl hne, h2]
theorem app_run {M : DM} {p b : ByteArray} {k : Int} (hr : rightB p = true) (hf : M.fails = false) (hl : lookN M.names p = some k) (hroom : (usedM M : Int) + (b.size : Int) ≤ M.room) : appendM M p b = (0, setBody M k ⟨(bodyAt M k).now ++ b, (bodyAt M k).kept⟩) := by
  obtain ⟨h1, h2⟩ := err_ok hr hf
  rw [appendM_ok h1 hl (by omega), h2]
theorem try_ok {f : DM → Int × DM} {r : List (DM → Int × DM)} {M M' : DM} (h : f M = (0, M')) : tryM (f :: r) M = tryM r M' := by
  rw [tryM_cons, h]; rfl
theorem sync_new {M : DM} {p b : ByteArray} (hr : rightB p = true) (hf : M.fails = false) : syncM (wr1 M p b) p = (0, wr2 M p b) := by
  rw [sync_run (M := wr1 M p b) hr hf (k := (M.bodies.length : Int)) (look_with (l := M.names) (Int.natCast_nonneg _))]
  unfold setBody bodyAt wr1 wr2 changeM
  simp only [Int.toNat_natCast, getD_snoc, set_snoc]
theorem wri_run {M : DM} {dir l : ByteArray} (h : Pth dir) (hf : M.fails = false) (hroom : (usedM M : Int) - (wasM M (pathJ dir logB) : Int) + (l.size : Int) ≤ M.room) : tryM (stWri dir l) M = (0, wriD M dir l) := by
  unfold stWri
  rw [try_ok (write_run h.rp hf hroom), try_ok (sync_new h.rp hf), try_ok (sdir_run (M := wr2 M (pathJ dir logB) l) h.dr hf)]
  unfold wr2 changeM wriD
  rw [h.dp]; rfl
theorem rep_run {M : DM} {dir b : ByteArray} (h : Pth dir) (hf : M.fails = false) (hroom : (usedM M : Int) - (wasM M (pathJ dir newB) : Int) + (b.size : Int) ≤ M.room) : tryM (repSteps dir b) M = (0, repD M dir b) := by
  unfold repSteps
  rw [try_ok (write_run h.rq hf hroom), try_ok (sync_new h.rq hf), try_ok (ren_run (M := wr2 M (pathJ dir newB) b) h.rn hf (look_with (l := M.names) (Int.natCast_nonneg M.bodies.length)) h.ne),
    try_ok (sdir_run (M := changeM (wr2 M (pathJ dir newB) b) (dirB (pathJ dir logB)) [(pathJ dir newB, -1), (pathJ dir logB, (M.bodies.length : Int))]) h.dr hf)]
  unfold wr2 changeM repD repC repN
  simp only [h.dp, h.dq]; rfl
theorem set_set {M : DM} {k : Int} {A B : Body} : setBody (setBody M k A) k B = setBody M k B := by unfold setBody; simp
theorem body_set {M : DM} {k : Int} {A : Body} (hk : k.toNat < M.bodies.length) : bodyAt (setBody M k A) k = A := by unfold bodyAt setBody; simp [List.getD, hk]
theorem app_run2 {M : DM} {dir l : ByteArray} {k : Int} (h : Pth dir) (hf : M.fails = false) (hl : lookN M.names (pathJ dir logB) = some k) (hk : k.toNat < M.bodies.length) (hroom : (usedM M : Int) + (l.size : Int) ≤ M.room) : tryM (stApp dir l) M = (0, appD M k l) := by
  unfold stApp
  rw [try_ok (app_run h.rp hf hl hroom), try_ok (sync_run (M := setBody M k ⟨(bodyAt M k).now ++ l, (bodyAt M k).kept⟩) h.rp hf (k := k) hl)]
  rw [body_set hk, set_set]
  rfl
theorem add_first {M : DM} {dir t : ByteArray} (h : Pth dir) (hf : M.fails = false) (ht : rightJ t = true) (hroom : (usedM M : Int) - (wasM M (pathJ dir logB) : Int) + ((lineB t).size : Int) ≤ M.room) :
    addM ⟨dir, [], 0, false, false⟩ M t = (0, ⟨dir, [t], ((lineB t).size : Int), false, true⟩, wriD M dir (lineB t)) := by
  have hw := wri_run h hf hroom
  have h0 : ¬ (mayI [t] false != 0) = true := by simp [mayI, ht]
  rw [add_ok h0 (show addSteps ⟨dir, [], 0, false, false⟩ (lineB t) = stWri dir (lineB t) from rfl) (by rw [hw]; simp), hw]
  simp
theorem add_next {M : DM} {dir t : ByteArray} {L : List ByteArray} {z k : Int} (h : Pth dir) (hf : M.fails = false) (ht : rightJ t = true) (hl : lookN M.names (pathJ dir logB) = some k) (hk : k.toNat < M.bodies.length) (hroom : (usedM M : Int) + ((lineB t).size : Int) ≤ M.room) :
    addM ⟨dir, L, z, false, true⟩ M t = (0, ⟨dir, L ++ [t], z + ((lineB t).size : Int), false, true⟩, appD M k (lineB t)) := by
  have hw := app_run2 h hf hl hk hroom
  have h0 : ¬ (mayI [t] false != 0) = true := by simp [mayI, ht]
  rw [add_ok h0 (show addSteps ⟨dir, L, z, false, true⟩ (lineB t) = stApp dir (lineB t) from rfl) (by rw [hw]; simp), hw]
theorem add_bad {M : DM} {j : JM} {t : ByteArray} (ht : rightJ t = false) : addM j M t = (2, j, M) := by unfold addM; rw [ht]; rfl
theorem rep_good {M : DM} {dir : ByteArray} {L ts : List ByteArray} {z : Int} {th : Bool} (h : Pth dir) (hf : M.fails = false) (ht : ∀ t ∈ ts, rightJ t = true) (hroom : (usedM M : Int) - (wasM M (pathJ dir newB) : Int) + ((linesB ts).size : Int) ≤ M.room) :
    replaceM ⟨dir, L, z, false, th⟩ M ts = (0, ⟨dir, ts, ((linesB ts).size : Int), false, true⟩, repD M dir (linesB ts)) := by
  have hw := rep_run (b := linesB ts) h hf hroom
  have h0 : ¬ (mayI ts false != 0) = true := by
    have : ts.any (fun t => !rightJ t) = false := by rw [List.any_eq_false]; intro t h1; rw [ht t h1]; decide
    simp [mayI, this]
  rw [rep_ok h0 (by rw [hw]; simp), hw]
end Go.Jr
namespace Go.Jr
open Go.Sw Go.Lib Go.Vf Go.Sha Go.Proofs.YtlaoeiaaeifidaaGreat
theorem u8_10 {x : UInt8} (h : ((x.toNat : Nat) : Int) = 10) : x = 10 := UInt8.toNat_inj.1 (by
  have : ((10 : UInt8).toNat : Int) = 10 := rfl
  omega)
def NoLf (s : ByteArray) : Prop := ∀ x ∈ s.data.toList, x ≠ 10
theorem byteAt_lt {s : ByteArray} {j : Nat} (h : j < s.size) : byteAt s (j : Int) = ((s.data.toList[j]'(by rw [Array.length_toList]; exact h)).toNat : Int) := by
  unfold byteAt
  rw [Int.toNat_natCast, List.getElem?_eq_getElem (by rw [Array.length_toList]; exact h)]; rfl
theorem noLf_noB {s : ByteArray} (h : NoLf s) : noB s 10 s.size := fun j hj e => by
  rw [byteAt_lt hj] at e
  exact absurd (u8_10 e) (h _ (List.getElem_mem _))
theorem noLf_of {s : ByteArray} (h : noB s 10 s.size) : NoLf s := fun x hx e => by
  obtain ⟨j, hj, rfl⟩ := List.getElem_of_mem hx
  have hj' : j < s.size := by rw [Array.length_toList] at hj; exact hj
  refine h j hj' ?_
  rw [byteAt_lt hj', e]; rfl
theorem noLf_iff {s : ByteArray} : lf s < 0 ↔ NoLf s := by
  rcases bIdx_spec s (c := 10) (by omega) (by omega) with ⟨k, hk, he, hb, _⟩ | ⟨he, hn⟩
  · have : lf s = k := he
    refine ⟨fun h => absurd h (by omega), fun h => absurd hb (noLf_noB h k hk)⟩
  · have : lf s = -1 := he
    exact ⟨fun _ => noLf_of hn, fun _ => by omega⟩
theorem rightJ_iff {t : ByteArray} : rightJ t = true ↔ t.size ≤ 1048576 ∧ NoLf t := by
  unfold rightJ
  rw [← noLf_iff]
  simp only [Bool.and_eq_true, decide_eq_true_eq, Bool.not_eq_true', decide_eq_false_iff_not]
  omega
theorem toL (a b : ByteArray) : (a ++ b).data.toList = a.data.toList ++ b.data.toList := by rw [ByteArray.data_append, Array.toList_append]
theorem lenL (a : ByteArray) : a.data.toList.length = a.size := Array.length_toList
theorem ext_L {a b : ByteArray} (h : a.data.toList = b.data.toList) : a = b := ByteArray.ext (Array.toList_inj.1 h)
theorem exL (a : ByteArray) (i j : Nat) : (a.extract i j).data.toList = (a.data.toList.take j).drop i := by
  rw [ByteArray.data_extract, Array.toList_extract, List.extract_eq_take_drop, List.drop_take]
def lfB : ByteArray := ByteArray.mk #[10]
theorem lf_at {a b : ByteArray} (h : NoLf a) : lf ((a ++ lfB) ++ b) = a.size := by
  have hz : a.size < ((a ++ lfB) ++ b).size := by simp only [ByteArray.size_append]; show a.size < a.size + 1 + b.size; omega
  refine bIdx_eq (by omega) (by omega) hz ?_ ?_
  · rw [byteAt_lt hz]
    simp only [toL]
    rw [List.getElem_append_left (by rw [List.length_append, lenL]; show a.size < a.size + 1; omega), List.getElem_append_right (by rw [lenL]; omega)]
    simp only [lenL, Nat.sub_self]; rfl
  · intro j hj e
    rw [byteAt_lt (show j < ((a ++ lfB) ++ b).size by omega)] at e
    simp only [toL] at e
    rw [List.getElem_append_left (by rw [List.length_append, lenL]; omega), List.getElem_append_left (by rw [lenL]; omega)] at e
    exact absurd (u8_10 e) (h _ (List.getElem_mem _))
theorem ex_head {a b : ByteArray} : ((a ++ lfB) ++ b).extract 0 a.size = a := ext_L (by
  rw [exL, toL, toL, List.drop_zero, List.append_assoc, ← lenL, List.take_left])
theorem ex_tail {a b : ByteArray} : ((a ++ lfB) ++ b).extract (a.size + 1) ((a ++ lfB) ++ b).size = b := ext_L (by
  rw [exL, ← lenL ((a ++ lfB) ++ b), List.take_length, toL, toL]
  rw [show a.size + 1 = (a.data.toList ++ lfB.data.toList).length by rw [List.length_append, lenL]; rfl, List.drop_left])
theorem hex2_no : (List.range 256).all (fun n => (hex2 ((n : Nat) : Int)).all fun b => b != 10) = true := by decide +kernel
theorem hexK_no (l : List UInt8) (j : Nat) : ∀ x ∈ hexK l j, x ≠ 10 := fun x hx => by
  unfold hexK at hx
  obtain ⟨b, _, hb⟩ := List.mem_flatMap.1 hx
  have := List.all_eq_true.1 hex2_no b.toNat (List.mem_range.2 b.toNat_lt)
  have := List.all_eq_true.1 this x hb
  simpa using this
theorem hx_no (t : ByteArray) : NoLf (hx t) := fun x hx' => by
  unfold hx at hx'
  rw [exL] at hx'
  exact hexK_no (sumB t.data.toList) 32 x (List.mem_of_mem_take (List.mem_of_mem_drop hx'))
theorem noLf_app {a b : ByteArray} (ha : NoLf a) (hb : NoLf b) : NoLf (a ++ b) := fun x hx => by
  rw [toL] at hx
  rcases List.mem_append.1 hx with h | h
  · exact ha x h
  · exact hb x h
def bodyL (t : ByteArray) : ByteArray := (hx t ++ ByteArray.mk #[32]) ++ t
theorem lineB_eq (t : ByteArray) : lineB t = bodyL t ++ lfB := rfl
theorem bodyL_size (t : ByteArray) : (bodyL t).size = t.size + 17 := by
  simp only [bodyL, ByteArray.size_append, hx_size]; show 16 + 1 + t.size = _; omega
theorem bodyL_no {t : ByteArray} (h : rightJ t = true) : NoLf (bodyL t) :=
  noLf_app (noLf_app (hx_no t) (fun x hx => by
    have : x = 32 := by simpa using hx
    rw [this]; decide)) (rightJ_iff.1 h).2
theorem bodyL_text (t : ByteArray) : (bodyL t).extract 17 (bodyL t).size = t := ext_L (by
  rw [exL, ← lenL (bodyL t), List.take_length, bodyL, toL]
  rw [show 17 = (hx t ++ ByteArray.mk #[32]).data.toList.length by rw [lenL, ByteArray.size_append, hx_size]; rfl, List.drop_left])
theorem bodyL_ok {t : ByteArray} (h : rightJ t = true) : okB (bodyL t) = true ∧ textB (bodyL t) = t := by
  have h1 : ¬ ((bodyL t).size : Int) ≤ 16 := by rw [bodyL_size]; omega
  unfold okB textB
  rw [if_neg h1, if_neg h1, bodyL_text, h]
  exact ⟨by rw [show lineB t = bodyL t ++ ByteArray.mk #[10] from rfl, beq_self_eq_true]; rfl, rfl⟩
theorem cut_line {t r : ByteArray} (h : rightJ t = true) : cutL (lineB t ++ r) = some (t, r) := by
  have e : lf (lineB t ++ r) = (bodyL t).size := by rw [lineB_eq]; exact lf_at (bodyL_no h)
  have e1 : (lineB t ++ r).extract 0 (lf (lineB t ++ r)).toNat = bodyL t := by rw [e, Int.toNat_natCast, lineB_eq]; exact ex_head
  have e2 : (lineB t ++ r).extract ((lf (lineB t ++ r)).toNat + 1) (lineB t ++ r).size = r := by rw [e, Int.toNat_natCast, lineB_eq]; exact ex_tail
  rw [cut_some (by rw [e]; omega) (by rw [e1]; exact (bodyL_ok h).1), e1, e2, (bodyL_ok h).2]
theorem parse_app : ∀ {ts : List ByteArray} {x : ByteArray}, (∀ t ∈ ts, rightJ t = true) → parseB (linesB ts ++ x) = (ts ++ (parseB x).1, (parseB x).2)
  | [], x, _ => by show parseB (ByteArray.empty ++ x) = _; rw [ByteArray.empty_append]; simp
  | t :: ts, x, h => by
    show parseB ((lineB t ++ linesB ts) ++ x) = _
    rw [ByteArray.append_assoc, parseB_some (cut_line (h t List.mem_cons_self)), parse_app fun u hu => h u (List.mem_cons_of_mem _ hu)]
    rfl
theorem parse_noLf {x : ByteArray} (h : NoLf x) : parseB x = ([], x) := parseB_none (cut_none1 (noLf_iff.2 h))
theorem noLf_empty : NoLf ByteArray.empty := fun x hx => by simp at hx
theorem parse_lines {ts : List ByteArray} (h : ∀ t ∈ ts, rightJ t = true) : parseB (linesB ts) = (ts, .empty) := by
  have := parse_app (x := .empty) h
  rw [ByteArray.append_empty, parse_noLf noLf_empty] at this
  simpa using this
end Go.Jr
namespace Go.Proofs.YtlaoeiaaeifidaaGreat
open Go.Sw Go.Lib Go.Vf Go.Sha Go.Jr Go.RowKit
theorem open_ {s : DS} {M : DM} (hs : s.ok M) (z wn i : Nat) (hsc : ScrI z wn i M) (hzb : z ≤ 5000000) (hwb : wn ≤ 5000 ∧ i ≤ 5000) (K : List Grp) (d : Nat) (dir : ByteArray) (hdir : dir.size ≤ 1000000) (W0 : World) (H : List Grp) : Tri Tryz.prog 10 #[pt d, .string dir] W0 (K ++ (s.G d M ++ H)) (OpenR (openM M dir) d K H) := by
 have hsz : ∀ B ∈ M.bodies, B.now.size ≤ 10000000 := fun B hB => by have := (hsc.size B hB).1; omega
 have hfull : (readM M (pathJ dir logB)).1.size ≤ z := read_le hsc _
 refine Tri_of (args := [pt d, .string dir]) (n := 96) Tryz.func10 rfl rfl (Nat.le_of_ble_eq_true rfl) ?_
 refine G_seq ?_
 refine G_pure (E':=[⟨0,[],pt d⟩,⟨1,[],.string dir⟩]) [0,0] [0,1] rfl kr ?_
 refine N_then ?_
 refine G_seq ?_
 refine G_block ?_
 refine G_seq ?_
 refine G_pure (E':=[⟨0,[],pt d⟩,⟨1,[],.string dir⟩,⟨16,[],.bool false⟩]) [0,0,0] [0,1,16] rfl kr ?_
 refine N_then ?_
 refine G_condf kr ?_
 refine G_seq ?_
 refine G_region ?_
 refine GL_pure (E':=[⟨20,[],.string dir⟩,⟨0,[],pt d⟩,⟨1,[],.string dir⟩]) [0] kr (j:=1) rfl ?_
 refine GL_callQ (i:=1) (ch:=[]) (f:=34) (fst:=#[]) (caps:=#[]) (vs:=[.string dir]) (v:=.bool (rightB dir)) rfl rfl rfl kr kr Tryz.func34 rfl rfl kr kr kr (fun _=>vfsRight _ (by omega) _ _) ?_
 refine GL_pure (E':=[⟨24,[(23,false)],.string dir⟩,⟨23,[],.bool (!(rightB dir))⟩,⟨0,[],pt d⟩,⟨1,[],.string dir⟩]) [0,0,0] kr (j:=5) rfl ?_
 refine GL_callQ (i:=5) (ch:=[(23,false)]) (f:=39) (fst:=#[]) (caps:=#[]) (vs:=[.string dir,.string (ByteArray.mk #[47])]) (v:=.bool (decide (slash dir ≥ 0))) rfl rfl rfl kr kr Tryz.func39 rfl rfl kr kr kr (fun hc=>strContainsS _ _ _) ?_
 refine GL_fin (E':=[⟨0,[],pt d⟩,⟨1,[],.string dir⟩,⟨19,[],.bool ((!(rightB dir))||(decide (slash dir ≥ 0)))⟩]) [5,0] [0,1,19] rfl kr ?_
 refine N_then ?_
 refine G_cond (b:=(!(rightB dir))||(decide (slash dir ≥ 0))) kr (fun hc1=>?_) (fun hc1=>?_)
 ·
  have hbad := hc1
  refine G_seq ?_
  refine G_pure (E':=[⟨4,[],.pointer none⟩,⟨5,[],.int .i64 2⟩]) [0,0] [4,5] rfl kr ?_
  refine N_then ?_
  refine G_ret ?_
  refine N_block_ret ?_
  refine N_then_ret ?_
  refine N_ret [.tmp 4,.tmp 5] [.pointer none,.int .i64 2] rfl kr rfl ?_
  rw [open_bad hbad]; exact ⟨rfl, s, hs, rfl⟩
 ·
  have hgood := hc1
  refine G_skip ?_
  refine N_block ?_
  refine N_then ?_
  refine G_seq ?_
  refine G_region ?_
  refine GL_pure (E':=[⟨29,[],.agg #[pt d,.string dir,.slice none 0 0,.int .i64 0,.bool false,.bool false]⟩,⟨0,[],pt d⟩]) [0,0,0] kr (j:=3) rfl ?_
  refine GL_box (i:=3) (ch:=[]) (v:=.agg #[pt d,.string dir,.slice none 0 0,.int .i64 0,.bool false,.bool false]) rfl rfl kr kr kr kr (fun b2=>?_)
  refine GL_fin (E':=[⟨0,[],pt d⟩,⟨6,[],pt b2⟩]) [0] [0,6] rfl kr ?_
  refine N_then ?_
  refine G_seq ?_
  refine G_region ?_
  refine GL_pure (E':=[⟨33,[],pt b2⟩,⟨32,[],pt d⟩,⟨6,[],pt b2⟩]) [0,0] kr (j:=2) rfl ?_
  refine GL_callQ (i:=2) (ch:=[]) (f:=40) (fst:=#[]) (caps:=#[]) (vs:=[pt b2,.string (ByteArray.mk #[108,111,103])]) (v:=.string (pathJ dir (ByteArray.mk #[108,111,103]))) rfl rfl rfl kr kr Tryz.func40 rfl rfl kr kr kr (fun _=>path_ _ _ _ _ _ _ _ _ (show dir.size+3 ≤ 1000000000 by omega) _ _ (At.grp 0 0 rfl rfl)) ?_
  refine GL_call (i:=3) (ch:=[]) (f:=13) (fst:=#[]) (caps:=#[]) (vs:=[pt d,.string (pathJ dir (ByteArray.mk #[108,111,103]))]) rfl rfl rfl kr kr Tryz.func13 rfl rfl kr kr (chSure_of kr) (dRead (b:=(readM M (pathJ dir logB)).1) (e:=(readM M (pathJ dir logB)).2) hs hsz d (pathJ dir logB) (([[(b2,.cells #[pt d,.string dir,.slice none 0 0,.int .i64 0,.bool false,.bool false] 83 (0,0))]] : List Grp)++K) _ H rfl) ?_
  rintro v H' ⟨ra3, rc4, g5, rfl, hrc6, hrd7, rfl⟩
  refine GL_fin (E':=[⟨6,[],pt b2⟩,⟨7,[],.slice ra3 ((readM M (pathJ dir logB)).1.size) rc4⟩,⟨8,[],.int .i64 ((readM M (pathJ dir logB)).2)⟩]) [0,0,0,0,0] [6,7,8] rfl kr ?_
  refine N_then ?_
  refine G_seq ?_
  refine G_seq ?_
  refine G_pure (E':=[⟨6,[],pt b2⟩,⟨7,[],.slice ra3 ((readM M (pathJ dir logB)).1.size) rc4⟩,⟨39,[],.bool (((readM M (pathJ dir logB)).2) != 0)⟩]) [0,0] [6,7,39] rfl kr ?_
  refine N_then ?_
  refine G_cond (b:=((readM M (pathJ dir logB)).2) != 0) kr (fun hc8=>?_) (fun hc8=>?_)
  ·
   have hne := hc8
   refine G_seq ?_
   refine G_pure (E':=[⟨4,[],pt b2⟩,⟨5,[],.int .i64 0⟩]) [0,0,0] [4,5] rfl kr ?_
   refine N_then ?_
   refine G_ret ?_
   refine N_then_ret ?_
   refine N_heap (H':=([(b2,.cells #[pt d,.string dir,.slice none 0 0,.int .i64 0,.bool false,.bool false] 83 (0,0))]::[]::(K++(s.G d M++H)))) (fun w h=>Sat.flat (h.erase 0) (List.Perm.refl _)) ?_
   refine N_ret [.tmp 4,.tmp 5] [pt b2,.int .i64 0] rfl kr rfl ?_
   rw [open_no hgood hne]; exact ⟨_, _, _, _, rfl, Go.Sw.Own.nil, hs, rfl⟩
  ·
   have hok := hc8
   refine G_skip ?_
   refine N_then ?_
   refine G_seq ?_
   refine G_region ?_
   refine GL_pure (E':=[⟨43,[],.pointer (some ⟨b2,5,none⟩)⟩,⟨6,[],pt b2⟩,⟨7,[],.slice ra3 ((readM M (pathJ dir logB)).1.size) rc4⟩]) [0,0,0] kr (j:=3) rfl ?_
   refine GL_store (i:=3) (ch:=[]) (b:=b2) (off:=5) (v:=.bool true) (c:=#[pt d,.string dir,.slice none 0 0,.int .i64 0,.bool false,.bool false]) (c':=#[pt d,.string dir,.slice none 0 0,.int .i64 0,.bool false,.bool true]) (j:=1) (m:=0) (H':=(g5::[(b2,.cells #[pt d,.string dir,.slice none 0 0,.int .i64 0,.bool false,.bool true] 83 (0,0))]::(K++(s.G d M++H)))) rfl rfl kr kr kr kr kr kr kr rfl rfl (Nat.le_of_ble_eq_true rfl) (fun _ _=>thaw0) kr kr ?_
   refine GL_fin (E':=[⟨6,[],pt b2⟩,⟨7,[],.slice ra3 ((readM M (pathJ dir logB)).1.size) rc4⟩]) [] [6,7] rfl kr ?_
   refine N_then ?_
   refine G_seq ?_
   refine G_region ?_
   refine GL_pure (E':=[⟨44,[],.slice ra3 ((readM M (pathJ dir logB)).1.size) rc4⟩,⟨6,[],pt b2⟩]) [0] kr (j:=1) rfl ?_
   refine GL_bytesB (i:=1) (ch:=[]) (a:=ra3) (cap:=rc4) (e:=5) (S:=(inG g5)) ((readM M (pathJ dir logB)).1) rfl rfl kr kr kr kr kr kr kr hrd7 (at_inG 0 rfl) ?_
   refine GL_fin (E':=[⟨6,[],pt b2⟩,⟨9,[],.string ((readM M (pathJ dir logB)).1)⟩]) [0] [6,9] rfl kr ?_
   refine N_then ?_
   refine G_seq ?_
   refine G_block ?_
   refine G_heap (H':=([(b2,.cells #[pt d,.string dir,.slice none 0 0,.int .i64 0,.bool false,.bool true] 83 (0,0))]::[]::g5::(K++(s.G d M++H)))) (fun w h=>Sat.flat (h.front (j:=1) rfl) (List.Perm.refl _)) ?_
   refine G_loop (EI:=(fun ξ : ByteArray × List ByteArray × Option Addr × Nat × Grp=>[⟨6,[],pt b2⟩,⟨9,[],.string ξ.1⟩])) (HI:=(fun ξ : ByteArray × List ByteArray × Option Addr × Nat × Grp=>([(b2,.cells #[pt d,.string dir,.slice ξ.2.2.1 ξ.2.1.length ξ.2.2.2.1,.int .i64 ((linesB ξ.2.1).size : Int),.bool false,.bool true] 83 (0,0))]::ξ.2.2.2.2::g5::(K++(s.G d M++H))))) (Φ:=(fun ξ : ByteArray × List ByteArray × Option Addr × Nat × Grp=>(Parsed (readM M (pathJ dir logB)).1 ξ.2.1 ξ.1)∧(Go.Sw.Own 9 1 (.slice ξ.2.2.1 ξ.2.1.length ξ.2.2.2.1) ξ.2.2.2.2 ξ.2.1.length (strs ξ.2.1)))) (μ:=(fun ξ : ByteArray × List ByteArray × Option Addr × Nat × Grp=>ξ.1.size)) (s0:=((readM M (pathJ dir logB)).1,[],none,0,[])) [6,9] kr rfl ⟨(parsed0 _),Go.Sw.Own.nil⟩ ?_
   rintro ⟨all, ts, ra, rc, rg⟩ ⟨hpz, ho⟩
   dsimp only at hpz ho
   have hpl := hpz.len
   have hps := hpz.sz
   have hfz := hfull
   refine G_block ?_
   refine G_seq ?_
   refine G_region ?_
   refine GL_pure (E':=[⟨47,[],.string all⟩,⟨6,[],pt b2⟩,⟨9,[],.string all⟩]) [0] kr (j:=1) rfl ?_
   refine GL_call (i:=1) (ch:=[]) (f:=41) (fst:=#[]) (caps:=#[]) (vs:=[.string all,.string (ByteArray.mk #[10])]) rfl rfl rfl kr kr Tryz.func41 rfl rfl kr kr (chSure_of kr) (stringsCutL _ (by first | omega | (simp only [ByteArray.size_extract]; omega)) _ _) ?_
   rintro v H' ⟨rfl, rfl⟩
   by_cases hs9 : lf all < 0
   ·
    rw [if_pos hs9]
    refine GL_fin (E':=[⟨6,[],pt b2⟩,⟨9,[],.string all⟩,⟨10,[],.string all⟩,⟨11,[],.string (ByteArray.mk #[])⟩,⟨12,[],.bool false⟩]) [0,0,0,0,0,0,0] [6,9,10,11,12] rfl kr ?_
    refine N_then ?_
    refine G_seq ?_
    refine G_region ?_
    refine GL_pure (E':=[⟨53,[],.string all⟩,⟨6,[],pt b2⟩,⟨9,[],.string all⟩,⟨10,[],.string all⟩,⟨11,[],.string (ByteArray.mk #[])⟩,⟨12,[],.bool false⟩]) [0] kr (j:=1) rfl ?_
    refine GL_callQ (i:=1) (ch:=[]) (f:=42) (fst:=#[]) (caps:=#[]) (vs:=[.string all]) (v:=.tuple #[.string (textB all),.bool (okB all)]) rfl rfl rfl kr kr Tryz.func42 rfl rfl kr kr kr (fun _=>text_ _ (by first | omega | (rw [ByteArray.size_extract]; omega)) _ _) ?_
    refine GL_fin (E':=[⟨6,[],pt b2⟩,⟨9,[],.string all⟩,⟨10,[],.string all⟩,⟨11,[],.string (ByteArray.mk #[])⟩,⟨12,[],.bool false⟩,⟨13,[],.string (textB all)⟩,⟨14,[],.bool (okB all)⟩]) [0,0,0,0,0] [6,9,10,11,12,13,14] rfl kr ?_
    refine N_then ?_
    refine G_seq ?_
    refine G_seq ?_
    refine G_pure (E':=[⟨6,[],pt b2⟩,⟨9,[],.string all⟩,⟨10,[],.string all⟩,⟨11,[],.string (ByteArray.mk #[])⟩,⟨13,[],.string (textB all)⟩,⟨62,[],.bool true⟩]) [0,0,0,1,1,2] [6,9,10,11,13,62] rfl kr ?_
    refine N_then ?_
    refine G_condt kr ?_
    refine G_exit ?_
    refine N_then_exit ?_
    refine N_block_other rfl ?_
    refine N_then_exit ?_
    refine N_block_exit ?_
    refine N_then ?_
    refine G_seq ?_
    refine G_seq ?_
    refine G_pure (E':=[⟨6,[],pt b2⟩,⟨85,[],.bool (!(all.toList == (ByteArray.mk #[]).toList))⟩]) [0,0] [6,85] rfl kr ?_
    refine N_then ?_
    refine G_cond (b:=!(all.toList == (ByteArray.mk #[]).toList)) kr (fun hc10=>?_) (fun hc10=>?_)
    ·
     have hall := hc10
     refine G_seq ?_
     refine G_region ?_
     refine GL_pure (E':=[⟨89,[],.pointer (some ⟨b2,2,none⟩)⟩,⟨86,[],pt b2⟩,⟨6,[],pt b2⟩]) [0,0,0,0] kr (j:=4) rfl ?_
     refine GL_load (i:=4) (ch:=[]) (b:=b2) (off:=2) (v:=.slice ra ts.length rc) rfl rfl kr kr kr kr kr (At.grp 0 0 rfl rfl) rfl ?_
     refine GL_call (i:=5) (ch:=[]) (f:=18) (fst:=#[]) (caps:=#[]) (vs:=[pt b2,.slice ra ts.length rc]) rfl rfl rfl kr kr Tryz.func18 rfl rfl kr kr (chSure_of kr) (repOpen hs hsc hzb hwb ([g5]++K) b2 d dir ra rc rg ts ho hdir (by omega) W0 H) ?_
     rintro v H' ⟨rv11, g12, s13, rfl, hO14, hs15, rfl⟩
     refine GL_fin (E':=[⟨6,[],pt b2⟩,⟨15,[],.int .i64 ((replaceM ⟨dir,ts,((linesB ts).size : Int),false,true⟩ M ts).1)⟩]) [0] [6,15] rfl kr ?_
     refine N_then ?_
     refine G_seq ?_
     refine G_pure (E':=[⟨6,[],pt b2⟩,⟨15,[],.int .i64 ((replaceM ⟨dir,ts,((linesB ts).size : Int),false,true⟩ M ts).1)⟩,⟨93,[],.bool (((replaceM ⟨dir,ts,((linesB ts).size : Int),false,true⟩ M ts).1) != 0)⟩]) [0,0] [6,15,93] rfl kr ?_
     refine N_then ?_
     refine G_cond (b:=((replaceM ⟨dir,ts,((linesB ts).size : Int),false,true⟩ M ts).1) != 0) kr (fun hc16=>?_) (fun hc16=>?_)
     ·
      have herr := hc16
      refine G_seq ?_
      refine G_pure (E':=[⟨4,[],.pointer none⟩,⟨5,[],.int .i64 ((replaceM ⟨dir,ts,((linesB ts).size : Int),false,true⟩ M ts).1)⟩]) [0,0,0] [4,5] rfl kr ?_
      refine N_then ?_
      refine G_ret ?_
      refine N_then_ret ?_
      refine N_heap (H':=(K++(s13.G d (replaceM ⟨dir,ts,((linesB ts).size : Int),false,true⟩ M ts).2.2++H))) (fun w h=>(((h.erase 2).erase 1).erase 0)) ?_
      refine N_ret [.tmp 4,.tmp 5] [.pointer none,.int .i64 ((replaceM ⟨dir,ts,((linesB ts).size : Int),false,true⟩ M ts).1)] rfl kr rfl ?_
      rw [open_err hgood hok (parsed_end hpz (cut_none1 hs9)) hall herr]; exact ⟨rfl, _, hs15, rfl⟩
     ·
      have herr := hc16
      refine G_skip ?_
      refine N_then ?_
      refine G_seq ?_
      refine G_pure (E':=[⟨4,[],pt b2⟩,⟨5,[],.int .i64 0⟩]) [0,0,0] [4,5] rfl kr ?_
      refine N_then ?_
      refine G_ret ?_
      refine N_heap (H':=([(b2,.cells #[pt d,.string ((replaceM ⟨dir,ts,((linesB ts).size : Int),false,true⟩ M ts).2.1.dir),rv11,.int .i64 ((replaceM ⟨dir,ts,((linesB ts).size : Int),false,true⟩ M ts).2.1.size),.bool ((replaceM ⟨dir,ts,((linesB ts).size : Int),false,true⟩ M ts).2.1.down),.bool ((replaceM ⟨dir,ts,((linesB ts).size : Int),false,true⟩ M ts).2.1.there)] 83 (0,0))]::g12::(K++(s13.G d (replaceM ⟨dir,ts,((linesB ts).size : Int),false,true⟩ M ts).2.2++H)))) (fun w h=>(h.erase 2)) ?_
      refine N_ret [.tmp 4,.tmp 5] [pt b2,.int .i64 0] rfl kr rfl ?_
      rw [open_ok hgood hok (parsed_end hpz (cut_none1 hs9)) hall herr]; exact ⟨_, _, _, _, rfl, hO14, hs15, rfl⟩
    ·
     have hall := hc10
     refine G_skip ?_
     refine N_then ?_
     refine G_seq ?_
     refine G_pure (E':=[⟨4,[],pt b2⟩,⟨5,[],.int .i64 0⟩]) [0,0,0] [4,5] rfl kr ?_
     refine N_then ?_
     refine G_ret ?_
     refine N_heap (H':=([(b2,.cells #[pt d,.string dir,.slice ra ts.length rc,.int .i64 ((linesB ts).size : Int),.bool false,.bool true] 83 (0,0))]::rg::(K++(s.G d M++H)))) (fun w h=>(h.erase 2)) ?_
     refine N_ret [.tmp 4,.tmp 5] [pt b2,.int .i64 0] rfl kr rfl ?_
     rw [open_whole hgood hok (parsed_end hpz (cut_none1 hs9)) hall]; exact ⟨_, _, _, _, rfl, ho, hs, rfl⟩
   ·
    rw [if_neg hs9]
    obtain ⟨hs9a, hs9b, hs9c⟩ := lf_facts hs9
    refine GL_fin (E':=[⟨6,[],pt b2⟩,⟨9,[],.string all⟩,⟨10,[],.string (all.extract 0 (lf all).toNat)⟩,⟨11,[],.string (all.extract ((lf all).toNat+1) all.size)⟩,⟨12,[],.bool true⟩]) [0,0,0,0,0,0,0] [6,9,10,11,12] rfl kr ?_
    refine N_then ?_
    refine G_seq ?_
    refine G_region ?_
    refine GL_pure (E':=[⟨53,[],.string (all.extract 0 (lf all).toNat)⟩,⟨6,[],pt b2⟩,⟨9,[],.string all⟩,⟨10,[],.string (all.extract 0 (lf all).toNat)⟩,⟨11,[],.string (all.extract ((lf all).toNat+1) all.size)⟩,⟨12,[],.bool true⟩]) [0] kr (j:=1) rfl ?_
    refine GL_callQ (i:=1) (ch:=[]) (f:=42) (fst:=#[]) (caps:=#[]) (vs:=[.string (all.extract 0 (lf all).toNat)]) (v:=.tuple #[.string (textB (all.extract 0 (lf all).toNat)),.bool (okB (all.extract 0 (lf all).toNat))]) rfl rfl rfl kr kr Tryz.func42 rfl rfl kr kr kr (fun _=>text_ _ (by first | omega | (rw [ByteArray.size_extract]; omega)) _ _) ?_
    refine GL_fin (E':=[⟨6,[],pt b2⟩,⟨9,[],.string all⟩,⟨10,[],.string (all.extract 0 (lf all).toNat)⟩,⟨11,[],.string (all.extract ((lf all).toNat+1) all.size)⟩,⟨12,[],.bool true⟩,⟨13,[],.string (textB (all.extract 0 (lf all).toNat))⟩,⟨14,[],.bool (okB (all.extract 0 (lf all).toNat))⟩]) [0,0,0,0,0] [6,9,10,11,12,13,14] rfl kr ?_
    refine N_then ?_
    refine G_seq ?_
    refine G_seq ?_
    refine G_pure (E':=[⟨6,[],pt b2⟩,⟨9,[],.string all⟩,⟨10,[],.string (all.extract 0 (lf all).toNat)⟩,⟨11,[],.string (all.extract ((lf all).toNat+1) all.size)⟩,⟨13,[],.string (textB (all.extract 0 (lf all).toNat))⟩,⟨62,[],.bool (!(okB (all.extract 0 (lf all).toNat)))⟩]) [0,0,0,0,0,3] [6,9,10,11,13,62] rfl kr ?_
    refine N_then ?_
    refine G_cond (b:=!(okB (all.extract 0 (lf all).toNat))) kr (fun hc17=>?_) (fun hc17=>?_)
    ·
     have hkn : okB (all.extract 0 (lf all).toNat) = false := by simpa using hc17
     refine G_exit ?_
     refine N_then_exit ?_
     refine N_block_other rfl ?_
     refine N_then_exit ?_
     refine N_block_exit ?_
     refine N_then ?_
     refine G_seq ?_
     refine G_seq ?_
     refine G_pure (E':=[⟨6,[],pt b2⟩,⟨85,[],.bool (!(all.toList == (ByteArray.mk #[]).toList))⟩]) [0,0] [6,85] rfl kr ?_
     refine N_then ?_
     refine G_cond (b:=!(all.toList == (ByteArray.mk #[]).toList)) kr (fun hc18=>?_) (fun hc18=>?_)
     ·
      have hall := hc18
      refine G_seq ?_
      refine G_region ?_
      refine GL_pure (E':=[⟨89,[],.pointer (some ⟨b2,2,none⟩)⟩,⟨86,[],pt b2⟩,⟨6,[],pt b2⟩]) [0,0,0,0] kr (j:=4) rfl ?_
      refine GL_load (i:=4) (ch:=[]) (b:=b2) (off:=2) (v:=.slice ra ts.length rc) rfl rfl kr kr kr kr kr (At.grp 0 0 rfl rfl) rfl ?_
      refine GL_call (i:=5) (ch:=[]) (f:=18) (fst:=#[]) (caps:=#[]) (vs:=[pt b2,.slice ra ts.length rc]) rfl rfl rfl kr kr Tryz.func18 rfl rfl kr kr (chSure_of kr) (repOpen hs hsc hzb hwb ([g5]++K) b2 d dir ra rc rg ts ho hdir (by omega) W0 H) ?_
      rintro v H' ⟨rv19, g20, s21, rfl, hO22, hs23, rfl⟩
      refine GL_fin (E':=[⟨6,[],pt b2⟩,⟨15,[],.int .i64 ((replaceM ⟨dir,ts,((linesB ts).size : Int),false,true⟩ M ts).1)⟩]) [0] [6,15] rfl kr ?_
      refine N_then ?_
      refine G_seq ?_
      refine G_pure (E':=[⟨6,[],pt b2⟩,⟨15,[],.int .i64 ((replaceM ⟨dir,ts,((linesB ts).size : Int),false,true⟩ M ts).1)⟩,⟨93,[],.bool (((replaceM ⟨dir,ts,((linesB ts).size : Int),false,true⟩ M ts).1) != 0)⟩]) [0,0] [6,15,93] rfl kr ?_
      refine N_then ?_
      refine G_cond (b:=((replaceM ⟨dir,ts,((linesB ts).size : Int),false,true⟩ M ts).1) != 0) kr (fun hc24=>?_) (fun hc24=>?_)
      ·
       have herr := hc24
       refine G_seq ?_
       refine G_pure (E':=[⟨4,[],.pointer none⟩,⟨5,[],.int .i64 ((replaceM ⟨dir,ts,((linesB ts).size : Int),false,true⟩ M ts).1)⟩]) [0,0,0] [4,5] rfl kr ?_
       refine N_then ?_
       refine G_ret ?_
       refine N_then_ret ?_
       refine N_heap (H':=(K++(s21.G d (replaceM ⟨dir,ts,((linesB ts).size : Int),false,true⟩ M ts).2.2++H))) (fun w h=>(((h.erase 2).erase 1).erase 0)) ?_
       refine N_ret [.tmp 4,.tmp 5] [.pointer none,.int .i64 ((replaceM ⟨dir,ts,((linesB ts).size : Int),false,true⟩ M ts).1)] rfl kr rfl ?_
       rw [open_err hgood hok (parsed_end hpz (cut_none2 hs9 hkn)) hall herr]; exact ⟨rfl, _, hs23, rfl⟩
      ·
       have herr := hc24
       refine G_skip ?_
       refine N_then ?_
       refine G_seq ?_
       refine G_pure (E':=[⟨4,[],pt b2⟩,⟨5,[],.int .i64 0⟩]) [0,0,0] [4,5] rfl kr ?_
       refine N_then ?_
       refine G_ret ?_
       refine N_heap (H':=([(b2,.cells #[pt d,.string ((replaceM ⟨dir,ts,((linesB ts).size : Int),false,true⟩ M ts).2.1.dir),rv19,.int .i64 ((replaceM ⟨dir,ts,((linesB ts).size : Int),false,true⟩ M ts).2.1.size),.bool ((replaceM ⟨dir,ts,((linesB ts).size : Int),false,true⟩ M ts).2.1.down),.bool ((replaceM ⟨dir,ts,((linesB ts).size : Int),false,true⟩ M ts).2.1.there)] 83 (0,0))]::g20::(K++(s21.G d (replaceM ⟨dir,ts,((linesB ts).size : Int),false,true⟩ M ts).2.2++H)))) (fun w h=>(h.erase 2)) ?_
       refine N_ret [.tmp 4,.tmp 5] [pt b2,.int .i64 0] rfl kr rfl ?_
       rw [open_ok hgood hok (parsed_end hpz (cut_none2 hs9 hkn)) hall herr]; exact ⟨_, _, _, _, rfl, hO22, hs23, rfl⟩
     ·
      have hall := hc18
      refine G_skip ?_
      refine N_then ?_
      refine G_seq ?_
      refine G_pure (E':=[⟨4,[],pt b2⟩,⟨5,[],.int .i64 0⟩]) [0,0,0] [4,5] rfl kr ?_
      refine N_then ?_
      refine G_ret ?_
      refine N_heap (H':=([(b2,.cells #[pt d,.string dir,.slice ra ts.length rc,.int .i64 ((linesB ts).size : Int),.bool false,.bool true] 83 (0,0))]::rg::(K++(s.G d M++H)))) (fun w h=>(h.erase 2)) ?_
      refine N_ret [.tmp 4,.tmp 5] [pt b2,.int .i64 0] rfl kr rfl ?_
      rw [open_whole hgood hok (parsed_end hpz (cut_none2 hs9 hkn)) hall]; exact ⟨_, _, _, _, rfl, ho, hs, rfl⟩
    ·
     have hky : okB (all.extract 0 (lf all).toNat) = true := by simpa using hc17
     refine G_skip ?_
     refine N_then ?_
     refine G_seq ?_
     refine G_region ?_
     refine GL_pure (E':=[⟨66,[],.pointer (some ⟨b2,2,none⟩)⟩,⟨63,[],pt b2⟩,⟨6,[],pt b2⟩,⟨10,[],.string (all.extract 0 (lf all).toNat)⟩,⟨11,[],.string (all.extract ((lf all).toNat+1) all.size)⟩,⟨13,[],.string (textB (all.extract 0 (lf all).toNat))⟩]) [0,0,0,0] kr (j:=4) rfl ?_
     refine GL_load (i:=4) (ch:=[]) (b:=b2) (off:=2) (v:=.slice ra ts.length rc) rfl rfl kr kr kr kr kr (At.grp 0 0 rfl rfl) rfl ?_
     refine GL_pure (E':=[⟨68,[],.string (textB (all.extract 0 (lf all).toNat))⟩,⟨67,[],.slice ra ts.length rc⟩,⟨63,[],pt b2⟩,⟨6,[],pt b2⟩,⟨10,[],.string (all.extract 0 (lf all).toNat)⟩,⟨11,[],.string (all.extract ((lf all).toNat+1) all.size)⟩]) [0] kr (j:=6) rfl ?_
     refine GL_buildSlice (i:=6) (ch:=[]) (e:=9) (l:=[(0,.string (textB (all.extract 0 (lf all).toNat)))]) (c:=[.string (textB (all.extract 0 (lf all).toNat))]) rfl rfl kr kr kr kr kr (fun b25=>?_)
     refine GL_append (i:=7) (ch:=[]) (t:=32) (tx:=32) (e:=9) (inf:=Tryz.t9) (s:=.slice ra ts.length rc) (x:=.slice (some ⟨b25,0,none⟩) 1 1) (n:=ts.length) (m:=1) (j:=2) (cs:=(strs ts)) (news:=[.string (textB (all.extract 0 (lf all).toNat))]) (g:=rg) (S:=(inG [(b25,.cells #[.string (textB (all.extract 0 (lf all).toNat))] 9 (0,0))])) rfl rfl rfl rfl kr kr kr rfl rfl (.inl ⟨9,kr⟩) (fun ⟨_,h⟩=>by cases h) (fun _=>⟨9,kr⟩) kr kr kr rfl ho (SrcOf.slice _ _ _ _ Rd.lit (fun h=>by cases h)) (at_inG 0 rfl) rfl (strs_one (ts:=[textB (all.extract 0 (lf all).toNat)])) (by omega) (by show (ts.length+1) * 16 ≤ 140737488355328; omega) (fun v26 g27 hO28=>?_)
     obtain ⟨a29, cap30, rfl, hcap31, hrd32⟩ := hO28.shape
     refine GL_pure (E':=[⟨72,[],.pointer (some ⟨b2,2,none⟩)⟩,⟨70,[],.slice a29 (ts.length+1) cap30⟩,⟨6,[],pt b2⟩,⟨10,[],.string (all.extract 0 (lf all).toNat)⟩,⟨11,[],.string (all.extract ((lf all).toNat+1) all.size)⟩]) [0,0] kr (j:=10) rfl ?_
     refine GL_store (i:=10) (ch:=[]) (b:=b2) (off:=2) (v:=.slice a29 (ts.length+1) cap30) (c:=#[pt d,.string dir,.slice ra ts.length rc,.int .i64 ((linesB ts).size : Int),.bool false,.bool true]) (c':=#[pt d,.string dir,.slice a29 (ts.length+1) cap30,.int .i64 ((linesB ts).size : Int),.bool false,.bool true]) (j:=1) (m:=0) (H':=([(b25,.cells #[.string (textB (all.extract 0 (lf all).toNat))] 9 (0,0))]::[(b2,.cells #[pt d,.string dir,.slice a29 (ts.length+1) cap30,.int .i64 ((linesB ts).size : Int),.bool false,.bool true] 83 (0,0))]::g27::g5::(K++(s.G d M++H)))) rfl rfl kr kr kr kr kr kr kr rfl rfl (Nat.le_of_ble_eq_true rfl) (fun _ _=>thaw0) kr kr ?_
     refine GL_fin (E':=[⟨6,[],pt b2⟩,⟨10,[],.string (all.extract 0 (lf all).toNat)⟩,⟨11,[],.string (all.extract ((lf all).toNat+1) all.size)⟩]) [] [6,10,11] rfl kr ?_
     refine N_then ?_
     refine G_seq ?_
     refine G_region ?_
     refine GL_pure (E':=[⟨75,[],.pointer (some ⟨b2,3,none⟩)⟩,⟨73,[],pt b2⟩,⟨6,[],pt b2⟩,⟨10,[],.string (all.extract 0 (lf all).toNat)⟩,⟨11,[],.string (all.extract ((lf all).toNat+1) all.size)⟩]) [0,0,0] kr (j:=3) rfl ?_
     refine GL_load (i:=3) (ch:=[]) (b:=b2) (off:=3) (v:=.int .i64 ((linesB ts).size : Int)) rfl rfl kr kr kr kr kr (At.grp 1 0 rfl rfl) rfl ?_
     have hw33 : IntKind.wrap .i64 (((all.extract 0 (lf all).toNat).size : Int) + 1) = ((all.extract 0 (lf all).toNat).size : Int) + 1 := w64 (by omega) (by omega)
     have hw34 : IntKind.wrap .i64 (((linesB ts).size : Int) + (((all.extract 0 (lf all).toNat).size : Int) + 1)) = ((linesB ts).size : Int) + (((all.extract 0 (lf all).toNat).size : Int) + 1) := w64 (by omega) (by omega)
     refine GL_pure (E':=[⟨82,[],.pointer (some ⟨b2,3,none⟩)⟩,⟨80,[],.int .i64 (((linesB ts).size : Int)+(((all.extract 0 (lf all).toNat).size : Int)+1))⟩,⟨6,[],pt b2⟩,⟨11,[],.string (all.extract ((lf all).toNat+1) all.size)⟩]) [0,0,0,0,0,0] (Eq.trans (b:=some [⟨82,[],.pointer (some ⟨b2,3,none⟩)⟩,⟨80,[],.int .i64 (IntKind.wrap .i64 (((linesB ts).size : Int)+(IntKind.wrap .i64 (((all.extract 0 (lf all).toNat).size : Int)+1))))⟩,⟨6,[],pt b2⟩,⟨11,[],.string (all.extract ((lf all).toNat+1) all.size)⟩]) kr (by simp only [hw33,hw34])) (j:=10) rfl ?_
     refine GL_store (i:=10) (ch:=[]) (b:=b2) (off:=3) (v:=.int .i64 (((linesB ts).size : Int)+(((all.extract 0 (lf all).toNat).size : Int)+1))) (c:=#[pt d,.string dir,.slice a29 (ts.length+1) cap30,.int .i64 ((linesB ts).size : Int),.bool false,.bool true]) (c':=#[pt d,.string dir,.slice a29 (ts.length+1) cap30,.int .i64 (((linesB ts).size : Int)+(((all.extract 0 (lf all).toNat).size : Int)+1)),.bool false,.bool true]) (j:=1) (m:=0) (H':=([(b25,.cells #[.string (textB (all.extract 0 (lf all).toNat))] 9 (0,0))]::[(b2,.cells #[pt d,.string dir,.slice a29 (ts.length+1) cap30,.int .i64 (((linesB ts).size : Int)+(((all.extract 0 (lf all).toNat).size : Int)+1)),.bool false,.bool true] 83 (0,0))]::g27::g5::(K++(s.G d M++H)))) rfl rfl kr kr kr kr kr kr kr rfl rfl (Nat.le_of_ble_eq_true rfl) (fun _ _=>thaw0) kr kr ?_
     refine GL_fin (E':=[⟨6,[],pt b2⟩,⟨11,[],.string (all.extract ((lf all).toNat+1) all.size)⟩]) [] [6,11] rfl kr ?_
     refine N_then ?_
     refine G_pure (E':=[⟨6,[],pt b2⟩,⟨9,[],.string (all.extract ((lf all).toNat+1) all.size)⟩]) [0,0] [6,9] rfl kr ?_
     refine N_block ?_
     refine N_heap (H':=([(b2,.cells #[pt d,.string dir,.slice a29 (ts.length+1) cap30,.int .i64 (((linesB ts).size : Int)+(((all.extract 0 (lf all).toNat).size : Int)+1)),.bool false,.bool true] 83 (0,0))]::g27::g5::(K++(s.G d M++H)))) (fun w h=>(h.erase 0)) ?_
     refine N_heq (H':=([(b2,.cells #[pt d,.string dir,.slice a29 ((ts++[textB (all.extract 0 (lf all).toNat)]).length) cap30,.int .i64 ((linesB (ts++[textB (all.extract 0 (lf all).toNat)])).size : Int),.bool false,.bool true] 83 (0,0))]::g27::g5::(K++(s.G d M++H)))) (by rw [← size_step (ts:=ts) hky,List.length_append]; rfl) ?_
     refine N_round (s':=((all.extract ((lf all).toNat+1) all.size),(ts++[textB (all.extract 0 (lf all).toNat)]),a29,cap30,g27)) [6,9] kr rfl ⟨(parsed1 hpz hs9 hky),(own_addS hO28)⟩ (by have h9:=(lf_facts hs9).2.2; dsimp only; omega)
theorem records_ (jb d : Nat) (dir : ByteArray) (a : Option Addr) (c : Nat) (rg : Grp) (L : List ByteArray) (size : Int) (down there : Bool) (ho : Go.Sw.Own 9 1 (.slice a L.length c) rg L.length (strs L)) (hL : L.length ≤ 1000000) (W0 : World) (H : List Grp) : Tri Tryz.prog 15 #[pt jb] W0 ([(jb, .cells #[pt d, .string dir, .slice a L.length c, .int .i64 size, .bool down, .bool there] 83 (0, 0))] :: rg :: H) (fun v H' => ∃ g, Go.Sw.Own 9 1 v g L.length (strs L) ∧ H' = g :: jG jb d dir (.slice a L.length c) size down there :: rg :: H) := by
 refine Tri_of (args := [pt jb]) (n := 10) Tryz.func15 rfl rfl (Nat.le_of_ble_eq_true rfl) ?_
 refine G_seq ?_
 refine G_pure (E':=[⟨0,[],pt jb⟩]) [0] [0] rfl kr ?_
 refine N_then ?_
 refine G_seq ?_
 refine G_seq ?_
 refine G_pure (E':=[⟨0,[],pt jb⟩,⟨4,[],.bool false⟩]) [0,0] [0,4] rfl kr ?_
 refine N_then ?_
 refine G_condf kr ?_
 refine G_skip ?_
 refine N_then ?_
 refine G_seq ?_
 refine G_region ?_
 refine GL_pure (E':=[⟨7,[],.pointer (some ⟨jb,2,none⟩)⟩]) [0,0,0] kr (j:=3) rfl ?_
 refine GL_load (i:=3) (ch:=[]) (b:=jb) (off:=2) (v:=.slice a L.length c) rfl rfl kr kr kr kr kr (At.grp 0 0 rfl rfl) rfl ?_
 refine GL_call (i:=4) (ch:=[]) (f:=44) (fst:=#[]) (caps:=#[]) (vs:=[.slice a L.length c]) rfl rfl rfl kr kr Tryz.func44 rfl rfl kr kr (chSure_of kr) (clone_ a c L (inG rg) (own_rd ho) hL (own_none ho) _ _ (at_inG 1 rfl)) ?_
 rintro v H' ⟨g1, hO2, rfl⟩
 refine GL_fin (E':=[⟨2,[],v⟩]) [0] [2] rfl kr ?_
 refine N_then ?_
 refine G_ret ?_
 refine N_ret [.tmp 2] [v] rfl kr rfl ?_
 exact ⟨_, hO2, rfl⟩
theorem size_ (jb d : Nat) (dir : ByteArray) (a : Option Addr) (c : Nat)  (L : List ByteArray) (size : Int) (down there : Bool) (W0 : World) (H : List Grp) : Tri Tryz.prog 16 #[pt jb] W0 ([(jb, .cells #[pt d, .string dir, .slice a L.length c, .int .i64 size, .bool down, .bool there] 83 (0, 0))] :: H) (fun v H' => v = .int .i64 size ∧ H' = ([(jb, .cells #[pt d, .string dir, .slice a L.length c, .int .i64 size, .bool down, .bool there] 83 (0, 0))] :: H)) := by
 refine Tri_of (args := [pt jb]) (n := 9) Tryz.func16 rfl rfl (Nat.le_of_ble_eq_true rfl) ?_
 refine G_seq ?_
 refine G_pure (E':=[⟨0,[],pt jb⟩]) [0] [0] rfl kr ?_
 refine N_then ?_
 refine G_seq ?_
 refine G_seq ?_
 refine G_pure (E':=[⟨0,[],pt jb⟩,⟨4,[],.bool false⟩]) [0,0] [0,4] rfl kr ?_
 refine N_then ?_
 refine G_condf kr ?_
 refine G_skip ?_
 refine N_then ?_
 refine G_seq ?_
 refine G_region ?_
 refine GL_pure (E':=[⟨7,[],.pointer (some ⟨jb,3,none⟩)⟩]) [0,0,0] kr (j:=3) rfl ?_
 refine GL_load (i:=3) (ch:=[]) (b:=jb) (off:=3) (v:=.int .i64 size) rfl rfl kr kr kr kr kr (At.grp 0 0 rfl rfl) rfl ?_
 refine GL_fin (E':=[⟨2,[],.int .i64 size⟩]) [0] [2] rfl kr ?_
 refine N_then ?_
 refine G_ret ?_
 refine N_ret [.tmp 2] [.int .i64 size] rfl kr rfl ?_
 exact ⟨rfl, rfl⟩
theorem openNil_ (dir : ByteArray) (W0 : World) (H : List Grp) : Tri Tryz.prog 10 #[.pointer none, .string dir] W0 H (fun v H' => v = .tuple #[.pointer none, .int .i64 1] ∧ H' = H) := by
 refine Tri_of (args := [.pointer none, .string dir]) (n := 96) Tryz.func10 rfl rfl (Nat.le_of_ble_eq_true rfl) ?_
 refine G_seq ?_
 refine G_pure (E':=[⟨0,[],.pointer none⟩,⟨1,[],.string dir⟩]) [0,0] [0,1] rfl kr ?_
 refine N_then ?_
 refine G_seq ?_
 refine G_block ?_
 refine G_seq ?_
 refine G_pure (E':=[⟨0,[],.pointer none⟩,⟨1,[],.string dir⟩,⟨16,[],.bool true⟩]) [0,0,0] [0,1,16] rfl kr ?_
 refine N_then ?_
 refine G_condt kr ?_
 refine G_seq ?_
 refine G_pure (E':=[⟨4,[],.pointer none⟩,⟨5,[],.int .i64 1⟩]) [0,0] [4,5] rfl kr ?_
 refine N_then ?_
 refine G_ret ?_
 refine N_block_ret ?_
 refine N_then_ret ?_
 refine N_ret [.tmp 4,.tmp 5] [.pointer none,.int .i64 1] rfl kr rfl ?_
 exact ⟨rfl, rfl⟩
end Go.Proofs.YtlaoeiaaeifidaaGreat
namespace Go.Proofs.YtlaoeiaaeifidaaGreat
open Go.Sw Go.Lib Go.Vf Go.Sha Go.Jr Go.RowKit
def jAt (jb d : Nat) (j : JM) (a : Option Addr) (c : Nat) : Grp := jG jb d j.dir (.slice a j.L.length c) j.size j.down j.there
def JOwn (j : JM) (a : Option Addr) (c : Nat) (rg : Grp) : Prop := Go.Sw.Own 9 1 (.slice a j.L.length c) rg j.L.length (strs j.L)
structure JSmall (j : JM) : Prop where
  dir : j.dir.size ≤ 1000000
  len : j.L.length ≤ 1000000
  size : 0 ≤ j.size ∧ j.size ≤ 1000000000000
structure RoomM (M : DM) : Prop where
  ex : ∃ z w i, ScrI z w i M ∧ z ≤ 5000000 ∧ w ≤ 5000 ∧ i ≤ 5000
theorem RoomM.of {z w i : Nat} {M : DM} (h : ScrI z w i M) (hz : z ≤ 5000000) (hw : w ≤ 5000) (hi : i ≤ 5000) : RoomM M := ⟨z, w, i, h, hz, hw, hi⟩
theorem RoomM.small {M : DM} (h : RoomM M) : Small M := by
  obtain ⟨z, w, i, h, h1, h2, h3⟩ := h.ex
  exact small_of h (by omega) (by omega) (by omega)
theorem jOpen {s : DS} {M M' : DM} {dir : ByteArray} {j : JM} (hs : s.ok M) (hM : RoomM M) (hdir : dir.size ≤ 1000000) (he : openM M dir = (0, some j, M')) (K : List Grp) (d : Nat) (W0 : World) (H : List Grp) :
    Tri Tryz.prog 10 #[pt d, .string dir] W0 (K ++ (s.G d M ++ H)) (fun v H' => ∃ (jb : Nat) (a : Option Addr) (c : Nat) (rg : Grp) (s' : DS), v = .tuple #[pt jb, .int .i64 0] ∧ JOwn j a c rg ∧ s'.ok M' ∧ H' = jAt jb d j a c :: rg :: (K ++ (s'.G d M' ++ H))) := by
  obtain ⟨z, w, i, h, h1, h2, h3⟩ := hM.ex
  refine Tri.mono (open_ hs z w i h h1 ⟨h2, h3⟩ K d dir hdir W0 H) fun v H' hr => ?_
  unfold OpenR at hr
  rw [he] at hr
  obtain ⟨jb, rv, rg, s', hv, ho, hs', hH⟩ := hr
  obtain ⟨a, c, rfl, _, _⟩ := Go.Sw.Own.shape ho
  exact ⟨jb, a, c, rg, s', hv, ho, hs', hH⟩
theorem jOpenNo {s : DS} {M M' : DM} {dir : ByteArray} {e : Int} (hs : s.ok M) (hM : RoomM M) (hdir : dir.size ≤ 1000000) (he : openM M dir = (e, none, M')) (K : List Grp) (d : Nat) (W0 : World) (H : List Grp) :
    Tri Tryz.prog 10 #[pt d, .string dir] W0 (K ++ (s.G d M ++ H)) (fun v H' => v = .tuple #[.pointer none, .int .i64 e] ∧ ∃ s' : DS, s'.ok M' ∧ H' = K ++ (s'.G d M' ++ H)) := by
  obtain ⟨z, w, i, h, h1, h2, h3⟩ := hM.ex
  refine Tri.mono (open_ hs z w i h h1 ⟨h2, h3⟩ K d dir hdir W0 H) fun v H' hr => ?_
  unfold OpenR at hr
  rw [he] at hr
  exact hr
theorem callR_to {r : Int × JM × DM} {e : Int} {j' : JM} {M' : DM} {jb d : Nat} {K H : List Grp} {v : Value} {H' : List Grp} (h : CallR r jb d K H v H') (he : r = (e, j', M')) :
    ∃ (a : Option Addr) (c : Nat) (rg : Grp) (s' : DS), v = .int .i64 e ∧ JOwn j' a c rg ∧ s'.ok M' ∧ H' = jAt jb d j' a c :: rg :: (K ++ (s'.G d M' ++ H)) := by
  subst he
  obtain ⟨rv, rg, s', hv, ho, hs', hH⟩ := h
  obtain ⟨a, c, rfl, _, _⟩ := Go.Sw.Own.shape ho
  exact ⟨a, c, rg, s', hv, ho, hs', hH⟩
theorem jAdd {s : DS} {M M' : DM} {j j' : JM} {t : ByteArray} {e : Int} (hs : s.ok M) (hM : RoomM M) (hj : JSmall j) (ht : t.size ≤ 4000000) (he : addM j M t = (e, j', M')) (K : List Grp) (jb d : Nat) {a : Option Addr} {c : Nat} {rg : Grp} (ho : JOwn j a c rg) (W0 : World) (H : List Grp) :
    Tri Tryz.prog 17 #[pt jb, .string t] W0 (jAt jb d j a c :: rg :: (K ++ (s.G d M ++ H))) (fun v H' => ∃ (a' : Option Addr) (c' : Nat) (rg' : Grp) (s' : DS), v = .int .i64 e ∧ JOwn j' a' c' rg' ∧ s'.ok M' ∧ H' = jAt jb d j' a' c' :: rg' :: (K ++ (s'.G d M' ++ H))) := by
  obtain ⟨z, w, i, h, h1, h2, h3⟩ := hM.ex
  obtain ⟨dir, L, size, down, there⟩ := j
  have hls := lineB_size t
  cases there with
  | true =>
    have hm1 := small_of (sI_append h (pathJ dir logB) (lineB t)) (by omega) (by omega) (by omega)
    exact Tri.mono (addTrue_ hs hM.small K jb d dir _ rg L size down ho hj.dir hj.len hj.size t (by omega) hm1 W0 H) fun v H' hr => callR_to hr he
  | false =>
    have hw := sI_write (ScrI.up h (show z ≤ z + (lineB t).size by omega) (Nat.le_refl _) (Nat.le_refl _)) (pathJ dir logB) (b := lineB t) (by omega)
    have hm1 := small_of hw (by omega) (by omega) (by omega)
    have hm2 := small_of (sI_sync hw (pathJ dir logB)) (by omega) (by omega) (by omega)
    exact Tri.mono (addFalse_ hs hM.small K jb d dir _ rg L size down ho hj.dir hj.len hj.size t (by omega) hm1 hm2 W0 H) fun v H' hr => callR_to hr he
theorem jRep {s : DS} {M M' : DM} {j j' : JM} {ts : List ByteArray} {e : Int} (hs : s.ok M) (hM : RoomM M) (hj : JSmall j) (hb : (linesB ts).size ≤ 4000000) (he : replaceM j M ts = (e, j', M')) (K : List Grp) (jb d : Nat) {a : Option Addr} {c : Nat} {rg : Grp} (ho : JOwn j a c rg)
    (ta : Option Addr) (tc : Nat) (S : Nat → Obj → Prop) (hrd : Rd S ta (strs ts)) (hn : ta = none → ts.length = 0) (W0 : World) (H : List Grp) (hS : ∀ y o, S y o → At W0 (rg :: K) y o) :
    Tri Tryz.prog 18 #[pt jb, .slice ta ts.length tc] W0 (jAt jb d j a c :: rg :: (K ++ (s.G d M ++ H))) (fun v H' => ∃ (a' : Option Addr) (c' : Nat) (rg' : Grp) (s' : DS), v = .int .i64 e ∧ JOwn j' a' c' rg' ∧ s'.ok M' ∧ H' = jAt jb d j' a' c' :: rg' :: (K ++ (s'.G d M' ++ H))) := by
  obtain ⟨z, w, i, h, h1, h2, h3⟩ := hM.ex
  obtain ⟨dir, L, size, down, there⟩ := j
  have hl := lines_len ts
  have r3 := rep3 (ScrI.up h (show z ≤ z + (linesB ts).size by omega) (Nat.le_refl _) (Nat.le_refl _)) (by omega) (by omega) dir (b := linesB ts) (by omega)
  cases there with
  | true => exact Tri.mono (repTrue_ hs hM.small K jb d dir _ rg L size down ho hj.dir hj.len hj.size ta tc ts S hrd (by omega) hn (by omega) r3.m1 r3.m2 r3.m3 W0 H hS) fun v H' hr => callR_to hr he
  | false => exact Tri.mono (repFalse_ hs hM.small K jb d dir _ rg L size down ho hj.dir hj.len hj.size ta tc ts S hrd (by omega) hn (by omega) r3.m1 r3.m2 r3.m3 W0 H hS) fun v H' hr => callR_to hr he
theorem jRecords {j : JM} (hj : JSmall j) (jb d : Nat) {a : Option Addr} {c : Nat} {rg : Grp} (ho : JOwn j a c rg) (W0 : World) (H : List Grp) :
    Tri Tryz.prog 15 #[pt jb] W0 (jAt jb d j a c :: rg :: H) (fun v H' => ∃ (a' : Option Addr) (c' : Nat) (g : Grp), v = .slice a' j.L.length c' ∧ Rd (inG g) a' (strs j.L) ∧ H' = g :: jAt jb d j a c :: rg :: H) := by
  obtain ⟨dir, L, size, down, there⟩ := j
  refine Tri.mono (records_ jb d dir a c rg L size down there ho hj.len W0 H) fun v H' ⟨g, hg, hH⟩ => ?_
  obtain ⟨a', c', rfl, _, hr⟩ := Go.Sw.Own.shape hg
  exact ⟨a', c', g, rfl, hr, hH⟩
theorem jSize {j : JM} (jb d : Nat) {a : Option Addr} {c : Nat} (W0 : World) (H : List Grp) :
    Tri Tryz.prog 16 #[pt jb] W0 (jAt jb d j a c :: H) (fun v H' => v = .int .i64 j.size ∧ H' = jAt jb d j a c :: H) := by
  obtain ⟨dir, L, size, down, there⟩ := j
  exact size_ jb d dir a c L size down there W0 H
end Go.Proofs.YtlaoeiaaeifidaaGreat
namespace Go.Jr
open Go.Sw Go.Lib Go.Vf Go.Sha Go.Proofs.YtlaoeiaaeifidaaGreat
def Good (dir : ByteArray) : Prop := (!rightB dir || decide (slash dir ≥ 0)) = false
theorem open_fresh {M : DM} {dir : ByteArray} (hd : Good dir) (hl : lookN M.names (pathJ dir logB) = none) : openM M dir = (0, some ⟨dir, [], 0, false, false⟩, M) :=
  open_no hd (by unfold readM; rw [hl]; rfl)
theorem open_log {M : DM} {dir : ByteArray} {k : Int} {L : List ByteArray} (hd : Good dir) (hl : lookN M.names (pathJ dir logB) = some k) (hb : (bodyAt M k).now = linesB L) (hL : ∀ t ∈ L, rightJ t = true) :
    openM M dir = (0, some ⟨dir, L, ((linesB L).size : Int), false, true⟩, M) := by
  have hr : readM M (pathJ dir logB) = (linesB L, 0) := by rw [readM_ok hl, hb]
  exact open_whole hd (by rw [hr]; rfl) (by rw [hr]; exact parse_lines hL) (by rw [show (ByteArray.empty.toList == (ByteArray.mk #[]).toList) = true from beq_self_eq_true _]; rfl)
def oneM (room : Int) (p c : ByteArray) : DM := ⟨room, [⟨c, c⟩], [(p, 0)], [(p, 0)], [], false, false, 0⟩
def twoM (room : Int) (p c b : ByteArray) : DM := ⟨room, [⟨c, c⟩, ⟨b, b⟩], [(p, 1)], [(p, 1)], [], false, false, 0⟩
theorem new0 {room : Int} (h : 0 ≤ room) : newM room = ⟨room, [], [], [], [], false, false, 0⟩ := by unfold newM; rw [if_neg (by omega)]
theorem wri_one {room : Int} {dir l : ByteArray} (h : 0 ≤ room) : wriD (newM room) dir l = oneM room (pathJ dir logB) l := by
  rw [new0 h]
  unfold wriD oneM chOf withN applyN
  simp [withN]
theorem app_one {room : Int} {p c l : ByteArray} : appD (oneM room p c) 0 l = oneM room p (c ++ l) := by unfold appD setBody bodyAt oneM; simp
theorem used_one {room : Int} {p c : ByteArray} : usedM (oneM room p c) = c.size := by show c.size + 0 = _; omega
theorem look_one {room : Int} {p c : ByteArray} : lookN (oneM room p c).names p = some 0 := by show (if p == p then some (0 : Int) else none) = _; rw [if_pos (beq_self_eq_true p)]
theorem rep_two {room : Int} {dir c b : ByteArray} (h : Pth dir) : repD (oneM room (pathJ dir logB) c) dir b = twoM room (pathJ dir logB) c b := by
  unfold repD repN repC twoM oneM chOf
  have e1 := h.ne
  have e2 := h.ne'
  simp [applyN, withN, e1, e2]
theorem crash_one {room : Int} {p c : ByteArray} {ks : List Int} : crashM (oneM room p c) ks = oneM room p c := by
  unfold crashM oneM
  simp [crashB, dirsOf, onceL, sortB, crashD]
theorem roomy_new {room : Int} (h : 0 ≤ room) : RoomM (newM room) := RoomM.of (scr_new 0 room) (by omega) (by omega) (by omega)
theorem roomy_one {room : Int} {p c : ByteArray} (hp : rightB p = true) (hc : c.size ≤ 5000000) : RoomM (oneM room p c) :=
  RoomM.of (z := 5000000) (w := 10) (i := 10) ⟨by show 1 ≤ 10; omega, fun B hB => by rw [List.mem_singleton.1 hB]; exact ⟨hc, Nat.le_refl _⟩, by show 1 ≤ 10; omega, by show 1 + 0 ≤ 10; omega, by show 0 ≤ 10; omega, by show (-9223372036854775808 : Int) ≤ 0 ∧ (0 : Int) ≤ 9223372036854775807; omega,
    fun x hx => by rw [List.mem_singleton.1 hx]; exact hp, fun x hx => by rw [List.mem_singleton.1 hx]; exact hp, fun c hc => absurd hc List.not_mem_nil⟩ (by omega) (by omega) (by omega)
def dJ : ByteArray := ByteArray.mk #[106]
def tA : ByteArray := ByteArray.mk #[97]
def tB : ByteArray := ByteArray.mk #[98]
def tBn : ByteArray := ByteArray.mk #[98, 10]
def tC : ByteArray := ByteArray.mk #[99]
theorem pthJ : Pth dJ := ⟨by decide +kernel, by decide +kernel, by decide +kernel, by decide +kernel, by decide +kernel, by decide +kernel⟩
theorem goodJ : Good dJ := by unfold Good; decide +kernel
theorem rA : rightJ tA = true := by decide +kernel
theorem rB_ : rightJ tB = true := by decide +kernel
theorem rBn : rightJ tBn = false := by decide +kernel
theorem rC : rightJ tC = true := by decide +kernel
def pJl : ByteArray := pathJ dJ logB
def fJ0 : JM := ⟨dJ, [], 0, false, false⟩
def fJ1 : JM := ⟨dJ, [tA], 19, false, true⟩
def fJ2 : JM := ⟨dJ, [tA, tB], 38, false, true⟩
def fJ3 : JM := ⟨dJ, [tC], 19, false, true⟩
def gM0 : DM := newM 10000
def gM1 : DM := oneM 10000 pJl (lineB tA)
def gM2 : DM := oneM 10000 pJl (linesB [tA, tB])
def gM3 : DM := twoM 10000 pJl (linesB [tA, tB]) (linesB [tC])
theorem l1 (t : ByteArray) : linesB [t] = lineB t := linesB_one t
theorem zA : (lineB tA).size = 19 := lineB_size tA
theorem zAB : (linesB [tA, tB]).size = 38 := by show (lineB tA ++ linesB [tB]).size = 38; rw [l1, ByteArray.size_append, lineB_size, lineB_size]; rfl
theorem zC : (linesB [tC]).size = 19 := by rw [l1]; exact lineB_size tC
theorem f_open0 : openM gM0 dJ = (0, some fJ0, gM0) := open_fresh goodJ (by rw [show gM0 = _ from new0 (by decide)]; rfl)
theorem f_add1 : addM fJ0 gM0 tA = (0, fJ1, gM1) := by
  have := add_first (M := gM0) (t := tA) pthJ (by rw [show gM0 = _ from new0 (by decide)]) rA (by rw [show gM0 = _ from new0 (by decide), zA]; show ((0 : Nat) : Int) - ((0 : Nat) : Int) + ((19 : Nat) : Int) ≤ 10000; omega)
  rw [show wriD gM0 dJ (lineB tA) = gM1 from wri_one (by decide), zA] at this
  exact this
theorem f_add2 : addM fJ1 gM1 tBn = (2, fJ1, gM1) := add_bad rBn
theorem f_add3 : addM fJ1 gM1 tB = (0, fJ2, gM2) := by
  have := add_next (M := gM1) (t := tB) (L := [tA]) (z := 19) (k := 0) pthJ rfl rB_ look_one (by show 0 < 1; omega) (by rw [show gM1 = oneM 10000 pJl (lineB tA) from rfl, used_one, zA, lineB_size]; show ((19 : Nat) : Int) + ((1 + 18 : Nat) : Int) ≤ 10000; omega)
  rw [show appD gM1 0 (lineB tB) = oneM 10000 pJl (lineB tA ++ lineB tB) from app_one, lineB_size] at this
  rw [show gM2 = oneM 10000 pJl (lineB tA ++ linesB [tB]) from rfl, l1]
  exact this
theorem f_crash : crashM gM2 [] = gM2 := crash_one
theorem f_right2 : ∀ t ∈ [tA, tB], rightJ t = true := fun t h => by
  rcases List.mem_cons.1 h with rfl | h
  · exact rA
  · rw [List.mem_singleton.1 h]; exact rB_
theorem f_open2 : openM gM2 dJ = (0, some fJ2, gM2) := by
  have := open_log (M := gM2) (k := 0) (L := [tA, tB]) goodJ look_one rfl f_right2
  rw [zAB] at this; exact this
theorem f_rep : replaceM fJ2 gM2 [tC] = (0, fJ3, gM3) := by
  have := rep_good (M := gM2) (dir := dJ) (L := [tA, tB]) (ts := [tC]) (z := 38) (th := true) pthJ rfl (fun t h => by rw [List.mem_singleton.1 h]; exact rC) (by rw [show gM2 = oneM 10000 pJl (linesB [tA, tB]) from rfl, used_one, zAB, zC]; show ((38 : Nat) : Int) - ((0 : Nat) : Int) + ((19 : Nat) : Int) ≤ 10000; omega)
  rw [show repD gM2 dJ (linesB [tC]) = gM3 from rep_two pthJ, zC] at this
  exact this
theorem g_r0 : RoomM gM0 := roomy_new (by decide)
theorem g_r1 : RoomM gM1 := roomy_one pthJ.rp (by rw [zA]; omega)
theorem g_r2 : RoomM gM2 := roomy_one pthJ.rp (by rw [zAB]; omega)
theorem g_s0 : JSmall fJ0 := ⟨by decide, by decide, by decide⟩
theorem g_s1 : JSmall fJ1 := ⟨by decide, by decide, by decide⟩
theorem g_s2 : JSmall fJ2 := ⟨by decide, by decide, by decide⟩
theorem g_s3 : JSmall fJ3 := ⟨by decide, by decide, by decide⟩
end Go.Jr
namespace Go.Jr
open Go.Sw Go.Lib Go.Vf Go.Sha Go.Proofs.YtlaoeiaaeifidaaGreat
def qJn : ByteArray := pathJ dJ newB
theorem pq1 : (pJl == qJn) = false := by decide +kernel
theorem pq2 : (qJn == pJl) = false := by decide +kernel
theorem rp_ : rightB pJl = true := pthJ.rp
theorem rq_ : rightB qJn = true := pthJ.rq
def nm (a b : Option Nat) : List Nm := (match a with | some k => [(pJl, (k : Int))] | none => []) ++ (match b with | some k => [(qJn, (k : Int))] | none => [])
theorem nm_new {a b : Option Nat} {n : Nat} : withN (nm a b) (qJn, (n : Int)) = nm a (some n) := by
  cases a <;> cases b <;> simp [nm, withN, pq1, pq2]
theorem nm_ren {a : Option Nat} {n : Nat} : applyN (nm a (some n)) [(qJn, -1), (pJl, (n : Int))] = nm (some n) none := by
  cases a <;> simp [nm, applyN, withN, pq1, pq2]
theorem nm_log {n : Nat} : withN (nm none none) (pJl, (n : Int)) = nm (some n) none := by simp [nm, withN]
theorem look_p {k : Nat} {b : Option Nat} : lookN (nm (some k) b) pJl = some (k : Int) := by cases b <;> simp [nm, lookN]
theorem look_p0 {b : Option Nat} : lookN (nm none b) pJl = none := by cases b <;> simp [nm, lookN, pq1]
theorem crashB_at : ∀ {Bs : List Body} {ks : List Int} {k : Nat} {B : Body}, Bs[k]? = some B → ∃ x, (crashB Bs ks).1[k]? = some ⟨x, x⟩ ∧ ((B.now.size ≤ B.kept.size ∧ x = B.kept) ∨ ∃ m, B.kept.size ≤ m ∧ x = B.now.extract 0 m)
  | [], _, _, _, h => by simp at h
  | b :: r, ks, 0, B, h => by
    have e : b = B := by simpa using h
    subst e
    unfold crashB
    by_cases hc : (b.now.size : Int) - (b.kept.size : Int) > 0
    · rw [if_pos hc]; exact ⟨_, rfl, .inr ⟨_, Nat.le_add_right _ _, rfl⟩⟩
    · rw [if_neg hc]; exact ⟨_, rfl, .inl ⟨by omega, rfl⟩⟩
  | b :: r, ks, k + 1, B, h => by
    have h' : r[k]? = some B := by simpa using h
    unfold crashB
    by_cases hc : (b.now.size : Int) - (b.kept.size : Int) > 0
    · rw [if_pos hc]; exact crashB_at (ks := ks.drop 1) h'
    · rw [if_neg hc]; exact crashB_at (ks := ks) h'
theorem ext_self {c : ByteArray} {m : Nat} (h : c.size ≤ m) : c.extract 0 m = c := ext_L (by
  rw [exL, List.drop_zero, List.take_of_length_le (by rw [lenL]; exact h)])
theorem crashB_same' {Bs : List Body} {ks : List Int} {k : Nat} {c : ByteArray} (h : Bs[k]? = some ⟨c, c⟩) : (crashB Bs ks).1[k]? = some ⟨c, c⟩ := by
  obtain ⟨x, h1, h2⟩ := crashB_at (ks := ks) h
  have : x = c := by
    rcases h2 with ⟨_, h2⟩ | ⟨m, h2, h3⟩
    · exact h2
    · rw [h3]; exact ext_self h2
  rw [h1, this]
structure Base (lg : Option ByteArray) (M : DM) : Prop where
  room : M.room = 1048576
  once : M.fails = true → M.once = false
  ex : ∃ a b : Option Nat, M.names = nm a b ∧ M.kept = nm a b ∧ M.changes = [] ∧
    (match lg, a with | none, none => True | some c, some k => M.bodies[k]? = some ⟨c, c⟩ ∧ c.size ≤ 60000 | _, _ => False) ∧
    (∀ k, b = some k → ∃ B, M.bodies[k]? = some B ∧ B.now.size ≤ 60000 ∧ B.kept.size ≤ 60000)
theorem crash_none {M : DM} {ks : List Int} (h : M.changes = []) : crashM M ks = { M with bodies := (crashB M.bodies ks).1, names := M.kept, kept := M.kept, changes := [], fails := false } := by
  unfold crashM
  rw [h]
  simp [dirsOf, onceL, sortB, crashD]
theorem sort1 (d : ByteArray) : sortB [d] = [d] := by simp [sortB]
theorem crash_some {M : DM} {ks : List Int} {ls : List (List Nm)} (h : M.changes = ls.map fun l => ⟨dJ, l⟩) (hl : ls ≠ []) : ∃ t, crashM M ks = { M with bodies := (crashB M.bodies ks).1, names := (ls.take t).foldl applyN M.kept, kept := (ls.take t).foldl applyN M.kept, changes := [], fails := false } := by
  have e1 : dirsOf M.changes = [dJ] := by
    have e2 : ∀ (ls : List (List Nm)), ls ≠ [] → onceL (ls.map fun _ => dJ) = [dJ] := by
      intro ls
      induction ls with
      | nil => intro h; exact absurd rfl h
      | cons l r ih =>
        intro _
        show (if dJ ∈ onceL (r.map fun _ => dJ) then onceL (r.map fun _ => dJ) else dJ :: onceL (r.map fun _ => dJ)) = [dJ]
        cases r with
        | nil => rfl
        | cons l2 r2 => rw [ih (by simp)]; rw [if_pos (List.mem_singleton.2 rfl)]
    unfold dirsOf
    rw [h, List.map_map]
    rw [show ((fun c : Ch => c.dir) ∘ fun l : List Nm => (⟨dJ, l⟩ : Ch)) = fun _ => dJ from rfl, e2 ls hl, sort1]
  have e3 : chOf M.changes dJ = ls := by
    unfold chOf
    rw [h, List.filter_eq_self.2 (fun c hc => by
      obtain ⟨l, _, rfl⟩ := List.mem_map.1 hc
      exact beq_self_eq_true dJ), List.map_map]
    rw [show ((fun c : Ch => c.l) ∘ fun l : List Nm => (⟨dJ, l⟩ : Ch)) = id from rfl, List.map_id]
  unfold crashM
  rw [e1]
  refine ⟨(nextK ((crashB M.bodies ks).2.headD 0) (((chOf M.changes dJ).length : Int) + 1)).toNat, ?_⟩
  simp only [crashD]
  rw [e3]
theorem Base.crash {lg : Option ByteArray} {M : DM} (h : Base lg M) (ks : List Int) : Base lg (crashM M ks) := by
  obtain ⟨a, b, h1, h2, h3, h4, h5⟩ := h.ex
  rw [crash_none h3]
  refine ⟨h.room, (fun h => by cases h), a, b, h2, h2, rfl, ?_, fun k hk => ?_⟩
  · cases lg <;> cases a <;> simp only at h4 ⊢
    exact ⟨crashB_same' h4.1, h4.2⟩
  · obtain ⟨B, hB, hz⟩ := h5 k hk
    obtain ⟨x, hx, hx2⟩ := crashB_at (ks := ks) hB
    have : x.size ≤ 60000 := by
      rcases hx2 with ⟨h6, rfl⟩ | ⟨m, _, rfl⟩
      · exact hz.2
      · rw [ByteArray.size_extract]; have := hz.1; omega
    exact ⟨_, hx, this, this⟩
theorem getD_of {l : List Body} {k : Nat} {B : Body} (h : l[k]? = some B) : l.getD k default = B := by rw [List.getD, h]; rfl
theorem size_of {M : DM} {k : Nat} {B : Body} (h : M.bodies[k]? = some B) : sizeAt M (k : Int) = B.now.size := by
  unfold sizeAt bodyAt
  rw [Int.toNat_natCast, getD_of h]
theorem Base.used {lg : Option ByteArray} {M : DM} (h : Base lg M) : usedM M ≤ 120000 := by
  obtain ⟨a, b, h1, h2, h3, h4, h5⟩ := h.ex
  unfold usedM
  rw [h1]
  have ha : ∀ k, a = some k → sizeAt M (k : Int) ≤ 60000 := fun k hk => by
    subst hk
    cases lg with
    | none => exact h4.elim
    | some c => rw [size_of h4.1]; exact h4.2
  have hb : ∀ k, b = some k → sizeAt M (k : Int) ≤ 60000 := fun k hk => by
    obtain ⟨B, hB, hz⟩ := h5 k hk
    rw [size_of hB]; exact hz.1
  cases a with
  | none =>
    cases b with
    | none => exact Nat.zero_le _
    | some k => have := hb k rfl; show sizeAt M (k : Int) + 0 ≤ 120000; omega
  | some j =>
    have h6 := ha j rfl
    cases b with
    | none => show sizeAt M (j : Int) + 0 ≤ 120000; omega
    | some k => have := hb k rfl; show sizeAt M (j : Int) + (sizeAt M (k : Int) + 0) ≤ 120000; omega
def tick (M : DM) (c : Int) : DM := { M with calls := c }
theorem call_cases {M : DM} {r : Bool} (hr : r = true) (ho : M.fails = true → M.once = false) : (∃ c, errM M r = 0 ∧ callM M r = tick M c) ∨ (errM M r = 62 ∧ callM M r = M ∧ M.fails = true) := by
  cases hf : M.fails with
  | false => obtain ⟨h1, h2⟩ := err_ok hr hf; exact .inl ⟨M.calls, h1, h2⟩
  | true =>
    by_cases hc : M.calls > 0
    · obtain ⟨h1, h2⟩ := err_go hr hf hc; exact .inl ⟨_, h1, h2⟩
    · obtain ⟨h1, h2⟩ := err_no hr hf (ho hf) hc
      exact .inr ⟨h1, h2, rfl⟩
def Goes (r : Int × DM) (M : DM) (f : Int → DM) : Prop := (∃ c, r = (0, f c)) ∨ (r = (62, M) ∧ M.fails = true)
theorem write_cases {M : DM} {p b : ByteArray} (hr : rightB p = true) (ho : M.fails = true → M.once = false) (hroom : (usedM M : Int) - (wasM M p : Int) + (b.size : Int) ≤ M.room) :
    Goes (writeM M p b) M fun c => wr1 (tick M c) p b := by
  rcases call_cases hr ho with ⟨c, h1, h2⟩ | ⟨h1, h2, h3⟩
  · exact .inl ⟨c, by rw [writeM_ok h1 (by omega), h2]; rfl⟩
  · exact .inr ⟨by rw [writeM_err (by rw [h1]; decide), h2, h1], h3⟩
theorem sync_cases {M : DM} {p : ByteArray} {k : Int} (hr : rightB p = true) (ho : M.fails = true → M.once = false) (hl : lookN M.names p = some k) : Goes (syncM M p) M fun c => setBody (tick M c) k ⟨(bodyAt M k).now, (bodyAt M k).now⟩ := by
  rcases call_cases hr ho with ⟨c, h1, h2⟩ | ⟨h1, h2, h3⟩
  · exact .inl ⟨c, by rw [syncM_ok h1 hl, h2]⟩
  · exact .inr ⟨by rw [syncM_err (by rw [h1]; decide), h2, h1], h3⟩
theorem ren_cases {M : DM} {p q : ByteArray} {k : Int} (hr : renR p q = true) (ho : M.fails = true → M.once = false) (hl : lookN M.names p = some k) (hne : (p == q) = false) : Goes (renameM M p q) M fun c => changeM (tick M c) (dirB q) [(p, -1), (q, k)] := by
  rcases call_cases hr ho with ⟨c, h1, h2⟩ | ⟨h1, h2, h3⟩
  · exact .inl ⟨c, by rw [renameM_ok h1 hl hne, h2]⟩
  · exact .inr ⟨by rw [renameM_err (by rw [h1]; decide), h2, h1], h3⟩
theorem sdir_cases {M : DM} {d : ByteArray} (hr : dirR d = true) (ho : M.fails = true → M.once = false) : Goes (syncDirM M d) M fun c => { tick M c with kept := (chOf M.changes d).foldl applyN M.kept, changes := M.changes.filter fun x => !(d == x.dir) } := by
  rcases call_cases hr ho with ⟨c, h1, h2⟩ | ⟨h1, h2, h3⟩
  · exact .inl ⟨c, by rw [syncDirM_ok h1, h2]⟩
  · exact .inr ⟨by rw [syncDirM_err (by rw [h1]; decide), h2, h1], h3⟩
theorem app_cases {M : DM} {p b : ByteArray} {k : Int} (hr : rightB p = true) (ho : M.fails = true → M.once = false) (hl : lookN M.names p = some k) (hroom : (usedM M : Int) + (b.size : Int) ≤ M.room) : Goes (appendM M p b) M fun c => setBody (tick M c) k ⟨(bodyAt M k).now ++ b, (bodyAt M k).kept⟩ := by
  rcases call_cases hr ho with ⟨c, h1, h2⟩ | ⟨h1, h2, h3⟩
  · exact .inl ⟨c, by rw [appendM_ok h1 hl (by omega), h2]⟩
  · exact .inr ⟨by rw [appendM_err (by rw [h1]; decide), h2, h1], h3⟩
theorem try_cases {f : DM → Int × DM} {r : List (DM → Int × DM)} {M : DM} {g : Int → DM} (h : Goes (f M) M g) (Q : Int × DM → Prop) (hno : M.fails = true → Q (62, M)) (hgo : ∀ c, Q (tryM r (g c))) : Q (tryM (f :: r) M) := by
  rcases h with ⟨c, h⟩ | ⟨h1, h3⟩
  · rw [try_ok h]; exact hgo c
  · rw [tryM_cons, h1]; exact hno h3
theorem app_old {l : List Body} {k : Nat} {B x : Body} (h : l[k]? = some B) : (l ++ [x])[k]? = some B := by
  obtain ⟨hk, _⟩ := List.getElem?_eq_some_iff.1 h
  rw [List.getElem?_append_left hk]; exact h
theorem app_new {l : List Body} {x : Body} : (l ++ [x])[l.length]? = some x := by simp
def LogIn (lg : Option ByteArray) (a : Option Nat) (bs : List Body) : Prop := match lg, a with | none, none => True | some c, some k => bs[k]? = some ⟨c, c⟩ ∧ c.size ≤ 60000 | _, _ => False
def NewIn (b : Option Nat) (bs : List Body) : Prop := ∀ k, b = some k → ∃ B, bs[k]? = some B ∧ B.now.size ≤ 60000 ∧ B.kept.size ≤ 60000
theorem LogIn.app {lg : Option ByteArray} {a : Option Nat} {bs : List Body} (h : LogIn lg a bs) (x : Body) : LogIn lg a (bs ++ [x]) := by
  cases lg <;> cases a <;> simp only [LogIn] at h ⊢
  exact ⟨app_old h.1, h.2⟩
theorem NewIn.app {b : Option Nat} {bs : List Body} (h : NewIn b bs) (x : Body) : NewIn b (bs ++ [x]) := fun k hk => by
  obtain ⟨B, hB, hz⟩ := h k hk
  exact ⟨B, app_old hB, hz⟩
theorem LogIn.crash {lg : Option ByteArray} {a : Option Nat} {bs : List Body} (h : LogIn lg a bs) (ks : List Int) : LogIn lg a (crashB bs ks).1 := by
  cases lg <;> cases a <;> simp only [LogIn] at h ⊢
  exact ⟨crashB_same' h.1, h.2⟩
theorem new_crash {bs : List Body} {k : Nat} {B : Body} (h : bs[k]? = some B) (hz : B.now.size ≤ 60000 ∧ B.kept.size ≤ 60000) (ks : List Int) : ∃ B', (crashB bs ks).1[k]? = some B' ∧ B'.now.size ≤ 60000 ∧ B'.kept.size ≤ 60000 := by
  obtain ⟨x, hx, hx2⟩ := crashB_at (ks := ks) h
  have : x.size ≤ 60000 := by
    rcases hx2 with ⟨h6, rfl⟩ | ⟨m, _, rfl⟩
    · exact hz.2
    · rw [ByteArray.size_extract]; have := hz.1; omega
  exact ⟨_, hx, this, this⟩
theorem NewIn.crash {b : Option Nat} {bs : List Body} (h : NewIn b bs) (ks : List Int) : NewIn b (crashB bs ks).1 := fun k hk => by
  obtain ⟨B, hB, hz⟩ := h k hk
  exact new_crash hB hz ks
theorem Base.of {lg : Option ByteArray} {M : DM} {a b : Option Nat} (h1 : M.room = 1048576) (h2 : M.fails = true → M.once = false) (h3 : M.names = nm a b) (h4 : M.kept = nm a b) (h5 : M.changes = []) (h6 : LogIn lg a M.bodies) (h7 : NewIn b M.bodies) : Base lg M := ⟨h1, h2, a, b, h3, h4, h5, h6, h7⟩
theorem Base.parts {lg : Option ByteArray} {M : DM} (h : Base lg M) : ∃ a b : Option Nat, M.names = nm a b ∧ M.kept = nm a b ∧ M.changes = [] ∧ LogIn lg a M.bodies ∧ NewIn b M.bodies := h.ex
theorem set_new {M : DM} {p B : ByteArray} {c c2 : Int} : setBody (tick (wr1 (tick M c) p B) c2) (M.bodies.length : Int) ⟨(bodyAt (wr1 (tick M c) p B) (M.bodies.length : Int)).now, (bodyAt (wr1 (tick M c) p B) (M.bodies.length : Int)).now⟩ = wr2 (tick M c2) p B := by
  unfold setBody bodyAt tick wr1 wr2 changeM
  simp only [Int.toNat_natCast, getD_snoc, set_snoc]
theorem mid_crash {lg : Option ByteArray} {a b : Option Nat} {M : DM} {n : Nat} {NB : Body} {bs : List Body} (hr : M.room = 1048576) (hk : M.kept = nm a b) (hc : M.changes = [⟨dJ, [(qJn, (n : Int))]⟩]) (hb : M.bodies = bs ++ [NB]) (hn : n = bs.length) (hl : LogIn lg a bs) (hw : NewIn b bs) (hz : NB.now.size ≤ 60000 ∧ NB.kept.size ≤ 60000) (ks : List Int) : Base lg (crashM M ks) := by
  obtain ⟨t, ht⟩ := crash_some (M := M) (ks := ks) (ls := [[(qJn, (n : Int))]]) hc (by simp)
  rw [ht]
  have h1 : LogIn lg a (crashB M.bodies ks).1 := by rw [hb]; exact (hl.app NB).crash ks
  have h2 : NewIn b (crashB M.bodies ks).1 := by rw [hb]; exact (hw.app NB).crash ks
  have h3 : NewIn (some n) (crashB M.bodies ks).1 := fun k hk => by
    injection hk with hk; subst hk; rw [hb, hn]; exact new_crash app_new hz ks
  cases t with
  | zero => exact Base.of (a := a) (b := b) hr (fun h => by cases h) hk hk rfl h1 h2
  | succ t =>
    have e : (List.take (t + 1) [[(qJn, (n : Int))]]).foldl applyN M.kept = nm a (some n) := by
      rw [hk, List.take_of_length_le (by simp)]; exact nm_new
    exact Base.of (a := a) (b := some n) hr (fun h => by cases h) e e rfl h1 h3
theorem end_crash {lg : Option ByteArray} {a b : Option Nat} {M : DM} {n : Nat} {B : ByteArray} {bs : List Body} (hr : M.room = 1048576) (hk : M.kept = nm a b) (hc : M.changes = [⟨dJ, [(qJn, (n : Int))]⟩, ⟨dJ, [(qJn, -1), (pJl, (n : Int))]⟩]) (hb : M.bodies = bs ++ [⟨B, B⟩]) (hn : n = bs.length) (hl : LogIn lg a bs) (hw : NewIn b bs) (hz : B.size ≤ 60000) (ks : List Int) :
    Base lg (crashM M ks) ∨ Base (some B) (crashM M ks) := by
  obtain ⟨t, ht⟩ := crash_some (M := M) (ks := ks) (ls := [[(qJn, (n : Int))], [(qJn, -1), (pJl, (n : Int))]]) hc (by simp)
  rw [ht]
  have h1 : LogIn lg a (crashB M.bodies ks).1 := by rw [hb]; exact (hl.app _).crash ks
  have h2 : NewIn b (crashB M.bodies ks).1 := by rw [hb]; exact (hw.app _).crash ks
  have h3 : NewIn (some n) (crashB M.bodies ks).1 := fun k hk => by
    injection hk with hk; subst hk; rw [hb, hn]; exact new_crash app_new ⟨hz, hz⟩ ks
  have h4 : LogIn (some B) (some n) (crashB M.bodies ks).1 := ⟨by rw [hb, hn]; exact crashB_same' app_new, hz⟩
  match t with
  | 0 => exact .inl (Base.of (a := a) (b := b) hr (fun h => by cases h) hk hk rfl h1 h2)
  | 1 =>
    have e : (List.take 1 [[(qJn, (n : Int))], [(qJn, -1), (pJl, (n : Int))]]).foldl applyN M.kept = nm a (some n) := by
      rw [hk]; show applyN (nm a b) [(qJn, (n : Int))] = _; exact nm_new
    exact .inl (Base.of (a := a) (b := some n) hr (fun h => by cases h) e e rfl h1 h3)
  | t + 2 =>
    have e : (List.take (t + 2) [[(qJn, (n : Int))], [(qJn, -1), (pJl, (n : Int))]]).foldl applyN M.kept = nm (some n) none := by
      rw [hk, List.take_of_length_le (by simp)]; show applyN (withN (nm a b) (qJn, (n : Int))) [(qJn, -1), (pJl, (n : Int))] = _; rw [nm_new]; exact nm_ren
    exact .inr (Base.of (a := some n) (b := none) hr (fun h => by cases h) e e rfl h4 (fun k hk => by cases hk))
structure Fate (lg lg' : Option ByteArray) (M : DM) (r : Int × DM) : Prop where
  crash : ∀ ks, Base lg (crashM r.2 ks) ∨ Base lg' (crashM r.2 ks)
  done : r.1 = 0 → Base lg' r.2
  bad : r.1 ≠ 0 → r.1 = 62 ∧ M.fails = true
theorem rep_fate {lg : Option ByteArray} {M : DM} {B : ByteArray} (h : Base lg M) (hB : B.size ≤ 60000) : Fate lg (some B) M (tryM (repSteps dJ B) M) := by
  obtain ⟨a, b, h1, h2, h3, h4, h5⟩ := h.parts
  have hu := h.used
  have hroom : (usedM M : Int) - (wasM M qJn : Int) + (B.size : Int) ≤ M.room := by rw [h.room]; omega
  have hch : ∀ x : List Nm, M.changes ++ [(⟨dirB qJn, x⟩ : Ch)] = [⟨dJ, x⟩] := fun x => by rw [h3, show dirB qJn = dJ from pthJ.dq]; rfl
  have z0 : (ByteArray.mk #[]).size ≤ 60000 := by decide
  unfold repSteps
  refine try_cases (write_cases rq_ h.once hroom) _ (fun hf => ⟨fun ks => .inl (h.crash ks), fun h0 => (by cases h0), fun _ => ⟨rfl, hf⟩⟩) fun c => ?_
  refine try_cases (sync_cases (M := wr1 (tick M c) qJn B) (k := (M.bodies.length : Int)) rq_ h.once (look_with (l := M.names) (Int.natCast_nonneg _))) _ (fun hf => ⟨fun ks => .inl ?_, fun h0 => (by cases h0), fun _ => ⟨rfl, hf⟩⟩) fun c2 => ?_
  · exact mid_crash (M := wr1 (tick M c) qJn B) (NB := ⟨B, ByteArray.mk #[]⟩) (bs := M.bodies) h.room h2 (hch _) rfl rfl h4 h5 ⟨hB, z0⟩ ks
  rw [set_new]
  have hn2 : (wr2 (tick M c2) qJn B).names = nm a (some M.bodies.length) := by show applyN M.names [(qJn, (M.bodies.length : Int))] = _; rw [h1]; exact nm_new
  refine try_cases (ren_cases (M := wr2 (tick M c2) qJn B) (k := (M.bodies.length : Int)) pthJ.rn h.once (look_with (l := M.names) (Int.natCast_nonneg M.bodies.length)) pthJ.ne) _ (fun hf => ⟨fun ks => .inl ?_, fun h0 => (by cases h0), fun _ => ⟨rfl, hf⟩⟩) fun c3 => ?_
  · exact mid_crash (M := wr2 (tick M c2) qJn B) (NB := ⟨B, B⟩) (bs := M.bodies) h.room h2 (hch _) rfl rfl h4 h5 ⟨hB, hB⟩ ks
  have hc3 : (changeM (tick (wr2 (tick M c2) qJn B) c3) (dirB (pathJ dJ logB)) [(qJn, -1), (pJl, (M.bodies.length : Int))]).changes = [⟨dJ, [(qJn, (M.bodies.length : Int))]⟩, ⟨dJ, [(qJn, -1), (pJl, (M.bodies.length : Int))]⟩] := by
    show (M.changes ++ [(⟨dirB qJn, _⟩ : Ch)]) ++ [_] = _
    rw [hch, pthJ.dp]; rfl
  refine try_cases (sdir_cases (M := changeM (tick (wr2 (tick M c2) qJn B) c3) (dirB (pathJ dJ logB)) [(qJn, -1), (pJl, (M.bodies.length : Int))]) pthJ.dr h.once) _ (fun hf => ⟨fun ks => end_crash (M := changeM (tick (wr2 (tick M c2) qJn B) c3) (dirB (pathJ dJ logB)) [(qJn, -1), (pJl, (M.bodies.length : Int))]) (bs := M.bodies) h.room h2 hc3 rfl rfl h4 h5 hB ks, fun h0 => (by cases h0), fun _ => ⟨rfl, hf⟩⟩) fun c4 => ?_
  have hnm : applyN (wr2 (tick M c2) qJn B).names [(qJn, -1), (pJl, (M.bodies.length : Int))] = nm (some M.bodies.length) none := by rw [hn2]; exact nm_ren
  have hkp : (chOf (changeM (tick (wr2 (tick M c2) qJn B) c3) (dirB (pathJ dJ logB)) [(qJn, -1), (pJl, (M.bodies.length : Int))]).changes dJ).foldl applyN M.kept = nm (some M.bodies.length) none := by
    rw [hc3, h2]
    simp only [chOf, List.filter_cons, beq_self_eq_true, if_true, List.filter_nil, List.map_cons, List.map_nil, List.foldl_cons, List.foldl_nil]
    rw [show applyN (nm a b) [(qJn, (M.bodies.length : Int))] = nm a (some M.bodies.length) from nm_new]; exact nm_ren
  have hcl : (changeM (tick (wr2 (tick M c2) qJn B) c3) (dirB (pathJ dJ logB)) [(qJn, -1), (pJl, (M.bodies.length : Int))]).changes.filter (fun x => !(dJ == x.dir)) = [] := by
    rw [hc3]; simp
  have hbase : Base (some B) { tick (changeM (tick (wr2 (tick M c2) qJn B) c3) (dirB (pathJ dJ logB)) [(qJn, -1), (pJl, (M.bodies.length : Int))]) c4 with kept := (chOf (changeM (tick (wr2 (tick M c2) qJn B) c3) (dirB (pathJ dJ logB)) [(qJn, -1), (pJl, (M.bodies.length : Int))]).changes dJ).foldl applyN M.kept, changes := (changeM (tick (wr2 (tick M c2) qJn B) c3) (dirB (pathJ dJ logB)) [(qJn, -1), (pJl, (M.bodies.length : Int))]).changes.filter fun x => !(dJ == x.dir) } :=
    Base.of (a := some M.bodies.length) (b := none) h.room h.once hnm hkp hcl ⟨app_new, hB⟩ (fun k hk => by cases hk)
  exact ⟨fun ks => .inr (hbase.crash ks), fun _ => hbase, fun h0 => absurd rfl h0⟩
theorem ext_app {c l : ByteArray} {m : Nat} (h : c.size ≤ m) : (c ++ l).extract 0 m = c ++ l.extract 0 (m - c.size) := ext_L (by
  rw [exL, toL, toL, exL, List.drop_zero, List.drop_zero, List.take_append, List.take_of_length_le (by rw [lenL]; exact h), lenL])
theorem LogIn.set {c : ByteArray} {k : Nat} {bs : List Body} (h : LogIn (some c) (some k) bs) : k < bs.length := (List.getElem?_eq_some_iff.1 h.1).1
theorem NewIn.set {b : Option Nat} {bs : List Body} (h : NewIn b bs) (k : Nat) {x : Body} (hz : x.now.size ≤ 60000 ∧ x.kept.size ≤ 60000) : NewIn b (bs.set k x) := fun j hj => by
  obtain ⟨B, hB, hBz⟩ := h j hj
  by_cases e : k = j
  · subst e
    have := (List.getElem?_eq_some_iff.1 hB).1
    exact ⟨x, by simp [this], hz⟩
  · exact ⟨B, by rw [List.getElem?_set_ne e]; exact hB, hBz⟩
structure FateA (c l : ByteArray) (M : DM) (r : Int × DM) : Prop where
  crash : ∀ ks, ∃ m, Base (some (c ++ l.extract 0 m)) (crashM r.2 ks)
  done : r.1 = 0 → Base (some (c ++ l)) r.2
  bad : r.1 ≠ 0 → r.1 = 62 ∧ M.fails = true
theorem ext_none (l : ByteArray) : l.extract 0 0 = .empty := ext_L (by rw [exL]; rfl)
theorem app_fate {c l : ByteArray} {M : DM} (h : Base (some c) M) (hz : c.size + l.size ≤ 60000) : FateA c l M (tryM (stApp dJ l) M) := by
  obtain ⟨a, b, h1, h2, h3, h4, h5⟩ := h.parts
  cases a with
  | none => exact h4.elim
  | some k =>
  have hk := h4.set
  have hu := h.used
  have hroom : (usedM M : Int) + (l.size : Int) ≤ M.room := by rw [h.room]; omega
  have hl : lookN M.names pJl = some (k : Int) := by rw [h1]; exact look_p
  have hb : bodyAt M (k : Int) = ⟨c, c⟩ := by unfold bodyAt; rw [Int.toNat_natCast, getD_of h4.1]
  have hcl : (c ++ l).size ≤ 60000 := by rw [ByteArray.size_append]; exact hz
  have hsame : ∀ {x : Body} {k : Nat}, k < M.bodies.length → (M.bodies.set k x)[k]? = some x := fun hk => by simp [hk]
  unfold stApp
  refine try_cases (app_cases rp_ h.once hl hroom) _ (fun hf => ⟨fun ks => ⟨0, by rw [ext_none, ByteArray.append_empty]; exact h.crash ks⟩, fun h0 => (by cases h0), fun _ => ⟨rfl, hf⟩⟩) fun c1 => ?_
  rw [hb]
  refine try_cases (sync_cases (M := setBody (tick M c1) (k : Int) ⟨c ++ l, c⟩) (k := (k : Int)) rp_ h.once hl) _ (fun hf => ⟨fun ks => ?_, fun h0 => (by cases h0), fun _ => ⟨rfl, hf⟩⟩) fun c2 => ?_
  · obtain ⟨x, hx, hx2⟩ := crashB_at (Bs := M.bodies.set k ⟨c ++ l, c⟩) (ks := ks) (k := k) (B := ⟨c ++ l, c⟩) (hsame hk)
    have hm : ∃ m, x = c ++ l.extract 0 m := by
      rcases hx2 with ⟨_, h6⟩ | ⟨m, h6, h7⟩
      · exact ⟨0, by rw [ext_none, ByteArray.append_empty]; exact h6⟩
      · exact ⟨m - c.size, by rw [h7]; exact ext_app h6⟩
    obtain ⟨m, hm⟩ := hm
    refine ⟨m, ?_⟩
    rw [crash_none (M := setBody (tick M c1) (k : Int) ⟨c ++ l, c⟩) h3]
    refine Base.of (a := some k) (b := b) h.room (fun h => by cases h) h2 h2 rfl ⟨by rw [← hm]; exact hx, ?_⟩ ((h5.set k ⟨hcl, by show c.size ≤ _; omega⟩).crash ks)
    rw [ByteArray.size_append, ByteArray.size_extract]; omega
  · have e : setBody (tick (setBody (tick M c1) (k : Int) ⟨c ++ l, c⟩) c2) (k : Int) ⟨(bodyAt (setBody (tick M c1) (k : Int) ⟨c ++ l, c⟩) (k : Int)).now, (bodyAt (setBody (tick M c1) (k : Int) ⟨c ++ l, c⟩) (k : Int)).now⟩ = setBody (tick M c2) (k : Int) ⟨c ++ l, c ++ l⟩ := by
      rw [body_set (M := tick M c1) (by rw [Int.toNat_natCast]; exact hk)]
      unfold setBody tick; simp
    rw [e]
    have hbase : Base (some (c ++ l)) (setBody (tick M c2) (k : Int) ⟨c ++ l, c ++ l⟩) := Base.of (a := some k) (b := b) h.room h.once h1 h2 h3 ⟨hsame hk, hcl⟩ (h5.set k ⟨hcl, hcl⟩)
    refine ⟨fun ks => ⟨l.size, ?_⟩, fun _ => hbase, fun h0 => absurd rfl h0⟩
    rw [ext_self (Nat.le_refl _)]; exact hbase.crash ks
structure FateW (l : ByteArray) (M : DM) (r : Int × DM) : Prop where
  crash : ∀ ks, Base none (crashM r.2 ks) ∨ ∃ m, Base (some (l.extract 0 m)) (crashM r.2 ks)
  done : r.1 = 0 → Base (some l) r.2
  bad : r.1 ≠ 0 → r.1 = 62 ∧ M.fails = true
theorem log_crash {M : DM} {n : Nat} {NB : Body} {bs : List Body} {l : ByteArray} (hr : M.room = 1048576) (hk : M.kept = nm none none) (hc : M.changes = [⟨dJ, [(pJl, (n : Int))]⟩]) (hb : M.bodies = bs ++ [NB]) (hn : n = bs.length) (hz : l.size ≤ 60000) (hnb : NB = ⟨l, ByteArray.mk #[]⟩ ∨ NB = ⟨l, l⟩) (ks : List Int) :
    Base none (crashM M ks) ∨ ∃ m, Base (some (l.extract 0 m)) (crashM M ks) := by
  obtain ⟨t, ht⟩ := crash_some (M := M) (ks := ks) (ls := [[(pJl, (n : Int))]]) hc (by simp)
  rw [ht]
  cases t with
  | zero => exact .inl (Base.of (a := none) (b := none) hr (fun h => by cases h) hk hk rfl trivial (fun k hk => by cases hk))
  | succ t =>
    have e : (List.take (t + 1) [[(pJl, (n : Int))]]).foldl applyN M.kept = nm (some n) none := by
      rw [hk, List.take_of_length_le (by simp)]; exact nm_log
    obtain ⟨x, hx, hx2⟩ := crashB_at (Bs := M.bodies) (ks := ks) (k := n) (B := NB) (by rw [hb, hn]; exact app_new)
    have hm : ∃ m, x = l.extract 0 m := by
      rcases hnb with rfl | rfl
      · rcases hx2 with ⟨_, h6⟩ | ⟨m, h6, h7⟩
        · exact ⟨0, by rw [ext_none]; exact h6⟩
        · exact ⟨m, h7⟩
      · rcases hx2 with ⟨_, h6⟩ | ⟨m, h6, h7⟩
        · exact ⟨l.size, by rw [ext_self (Nat.le_refl _)]; exact h6⟩
        · exact ⟨m, h7⟩
    obtain ⟨m, rfl⟩ := hm
    exact .inr ⟨m, Base.of (a := some n) (b := none) hr (fun h => by cases h) e e rfl ⟨hx, by rw [ByteArray.size_extract]; omega⟩ (fun k hk => by cases hk)⟩
theorem nm_nil {a b : Option Nat} (h : nm a b = []) : a = none ∧ b = none := by cases a <;> cases b <;> simp [nm] at h ⊢
theorem wri_fate {l : ByteArray} {M : DM} (h : Base none M) (hN : M.names = []) (hz : l.size ≤ 60000) : FateW l M (tryM (stWri dJ l) M) := by
  obtain ⟨a, b, h1, h2, h3, h4, h5⟩ := h.parts
  obtain ⟨rfl, rfl⟩ := nm_nil (h1.symm.trans hN)
  have hu := h.used
  have hroom : (usedM M : Int) - (wasM M pJl : Int) + (l.size : Int) ≤ M.room := by rw [h.room]; omega
  have hch : ∀ x : List Nm, M.changes ++ [(⟨dirB pJl, x⟩ : Ch)] = [⟨dJ, x⟩] := fun x => by rw [h3, show dirB pJl = dJ from pthJ.dp]; rfl
  unfold stWri
  refine try_cases (write_cases rp_ h.once hroom) _ (fun hf => ⟨fun ks => .inl (h.crash ks), fun h0 => (by cases h0), fun _ => ⟨rfl, hf⟩⟩) fun c => ?_
  refine try_cases (sync_cases (M := wr1 (tick M c) pJl l) (k := (M.bodies.length : Int)) rp_ h.once (look_with (l := M.names) (Int.natCast_nonneg _))) _ (fun hf => ⟨fun ks => ?_, fun h0 => (by cases h0), fun _ => ⟨rfl, hf⟩⟩) fun c2 => ?_
  · exact log_crash (M := wr1 (tick M c) pJl l) (bs := M.bodies) h.room h2 (hch _) rfl rfl hz (.inl rfl) ks
  rw [set_new]
  have hc3 : (wr2 (tick M c2) pJl l).changes = [⟨dJ, [(pJl, (M.bodies.length : Int))]⟩] := hch _
  refine try_cases (sdir_cases (M := wr2 (tick M c2) pJl l) pthJ.dr h.once) _ (fun hf => ⟨fun ks => ?_, fun h0 => (by cases h0), fun _ => ⟨rfl, hf⟩⟩) fun c4 => ?_
  · exact log_crash (M := wr2 (tick M c2) pJl l) (bs := M.bodies) h.room h2 hc3 rfl rfl hz (.inr rfl) ks
  have hnm : (wr2 (tick M c2) pJl l).names = nm (some M.bodies.length) none := by show applyN M.names [(pJl, (M.bodies.length : Int))] = _; rw [h1]; exact nm_log
  have hkp : (chOf (wr2 (tick M c2) pJl l).changes dJ).foldl applyN M.kept = nm (some M.bodies.length) none := by
    rw [hc3, h2]
    simp only [chOf, List.filter_cons, beq_self_eq_true, if_true, List.filter_nil, List.map_cons, List.map_nil, List.foldl_cons, List.foldl_nil]
    exact nm_log
  have hcl : (wr2 (tick M c2) pJl l).changes.filter (fun x => !(dJ == x.dir)) = [] := by rw [hc3]; simp
  have hbase : Base (some l) { tick (wr2 (tick M c2) pJl l) c4 with kept := (chOf (wr2 (tick M c2) pJl l).changes dJ).foldl applyN M.kept, changes := (wr2 (tick M c2) pJl l).changes.filter fun x => !(dJ == x.dir) } :=
    Base.of (a := some M.bodies.length) (b := none) h.room h.once hnm hkp hcl ⟨app_new, hz⟩ (fun k hk => by cases hk)
  refine ⟨fun ks => .inr ⟨l.size, ?_⟩, fun _ => hbase, fun h0 => absurd rfl h0⟩
  rw [ext_self (Nat.le_refl _)]; exact hbase.crash ks
end Go.Jr
namespace Go.Jr
open Go.Sw Go.Lib Go.Vf Go.Sha Go.Proofs.YtlaoeiaaeifidaaGreat
theorem split_lf {all : ByteArray} (h : ¬ lf all < 0) : (all.extract 0 (lf all).toNat ++ lfB) ++ all.extract ((lf all).toNat + 1) all.size = all := by
  rcases bIdx_spec all (c := 10) (by omega) (by omega) with ⟨k, hk, he, hb, _⟩ | ⟨he, _⟩
  · have e : lf all = k := he
    rw [e, Int.toNat_natCast]
    rw [byteAt_lt hk] at hb
    have h10 := u8_10 hb
    refine ext_L ?_
    have hk' : k < all.data.toList.length := by rw [lenL]; exact hk
    rw [toL, toL, exL, exL, List.drop_zero, show all.size = all.data.toList.length from (lenL all).symm, List.take_length]
    show (all.data.toList.take k ++ [10]) ++ all.data.toList.drop (k + 1) = all.data.toList
    rw [List.append_assoc, ← h10]
    rw [show [all.data.toList[k]] ++ all.data.toList.drop (k + 1) = all.data.toList.drop k from (List.drop_eq_getElem_cons hk').symm, List.take_append_drop]
  · exact absurd (show lf all < 0 by rw [lf, he]; omega) h
theorem cut_eq {all t r : ByteArray} (h : cutL all = some (t, r)) : rightJ t = true ∧ lineB t ++ r = all := by
  unfold cutL at h
  split at h
  · simp at h
  · rename_i h1
    split at h
    · rename_i h2
      simp only [Option.some.injEq, Prod.mk.injEq] at h
      obtain ⟨rfl, rfl⟩ := h
      refine ⟨(ok_line h2).2, ?_⟩
      rw [(ok_line h2).1]
      exact split_lf h1
    · simp at h
theorem parse_eq : ∀ (n : Nat) (all : ByteArray), all.size ≤ n → (∀ t ∈ (parseB all).1, rightJ t = true) ∧ linesB (parseB all).1 ++ (parseB all).2 = all := by
  intro n
  induction n with
  | zero =>
    intro all h
    cases hc : cutL all with
    | none => rw [parseB_none hc]; exact ⟨fun _ h => absurd h List.not_mem_nil, ByteArray.empty_append⟩
    | some x => have := cutL_lt (t := x.1) (r := x.2) hc; omega
  | succ n ih =>
    intro all h
    cases hc : cutL all with
    | none => rw [parseB_none hc]; exact ⟨fun _ h => absurd h List.not_mem_nil, ByteArray.empty_append⟩
    | some x =>
      obtain ⟨t, r⟩ := x
      have h1 := cutL_lt hc
      obtain ⟨h2, h3⟩ := ih r (by omega)
      obtain ⟨h4, h5⟩ := cut_eq hc
      rw [parseB_some hc]
      refine ⟨fun u hu => ?_, ?_⟩
      · rcases List.mem_cons.1 hu with rfl | hu
        · exact h4
        · exact h2 u hu
      · show (lineB t ++ linesB (parseB r).1) ++ (parseB r).2 = all
        rw [ByteArray.append_assoc, h3, h5]
theorem parse_right (c : ByteArray) : ∀ t ∈ (parseB c).1, rightJ t = true := (parse_eq c.size c (Nat.le_refl _)).1
theorem parse_back (c : ByteArray) : linesB (parseB c).1 ++ (parseB c).2 = c := (parse_eq c.size c (Nat.le_refl _)).2
theorem parse_size (c : ByteArray) : (linesB (parseB c).1).size ≤ c.size := by
  have := congrArg ByteArray.size (parse_back c)
  rw [ByteArray.size_append] at this; omega
def recs : Option ByteArray → List ByteArray
  | none => []
  | some c => (parseB c).1
theorem recs_lines {L : List ByteArray} (h : ∀ t ∈ L, rightJ t = true) : recs (some (linesB L)) = L := by show (parseB (linesB L)).1 = L; rw [parse_lines h]
theorem recs_pre {L : List ByteArray} {t : ByteArray} (h : ∀ u ∈ L, rightJ u = true) (ht : rightJ t = true) (m : Nat) : recs (some (linesB L ++ (lineB t).extract 0 m)) = L ∨ recs (some (linesB L ++ (lineB t).extract 0 m)) = L ++ [t] := by
  by_cases hm : (lineB t).size ≤ m
  · right
    rw [ext_self hm, ← linesB_snoc]
    exact recs_lines fun u hu => by
      rcases List.mem_append.1 hu with hu | hu
      · exact h u hu
      · rw [List.mem_singleton.1 hu]; exact ht
  · left
    have hz : m ≤ (bodyL t).size := by
      have : (lineB t).size = (bodyL t).size + 1 := by rw [lineB_eq, ByteArray.size_append]; rfl
      omega
    have hn : NoLf ((lineB t).extract 0 m) := fun x hx => by
      rw [exL, List.drop_zero, lineB_eq, toL, List.take_append_of_le_length (by rw [lenL]; exact hz)] at hx
      exact bodyL_no ht x (List.mem_of_mem_take hx)
    show (parseB _).1 = L
    rw [parse_app h, parse_noLf hn]; simp
structure Sett (L : List ByteArray) (th : Bool) (M : DM) : Prop where
  fine : ∀ t ∈ L, rightJ t = true
  base : Base (if th then some (linesB L) else none) M
  nil : th = false → L = [] ∧ M.names = []
def Crash2 (A B : List ByteArray) (M : DM) : Prop := ∀ ks, ∃ lg, Base lg (crashM M ks) ∧ (recs lg = A ∨ recs lg = B)
def jOf (L : List ByteArray) (th : Bool) : JM := ⟨dJ, L, ((linesB L).size : Int), false, th⟩
theorem good_sett {L : List ByteArray} {th : Bool} {M : DM} (h : Sett L th M) : Crash2 L L M := fun ks => by
  cases th with
  | true => exact ⟨_, h.base.crash ks, .inl (recs_lines h.fine)⟩
  | false => exact ⟨_, h.base.crash ks, .inl (by rw [(h.nil rfl).1]; rfl)⟩
theorem fine_snoc {L : List ByteArray} {t : ByteArray} (h : ∀ u ∈ L, rightJ u = true) (ht : rightJ t = true) : ∀ u ∈ L ++ [t], rightJ u = true := fun u hu => by
  rcases List.mem_append.1 hu with hu | hu
  · exact h u hu
  · rw [List.mem_singleton.1 hu]; exact ht
theorem may_go {t : ByteArray} (ht : rightJ t = true) : ¬ (mayI [t] false != 0) = true := by simp [mayI, ht]
theorem add_out {L : List ByteArray} {th : Bool} {M : DM} {t : ByteArray} (h : Sett L th M) (ht : rightJ t = true) (hz : (linesB L).size + (lineB t).size ≤ 60000) :
    (∃ M', addM (jOf L th) M t = (0, jOf (L ++ [t]) true, M') ∧ Sett (L ++ [t]) true M') ∨ (∃ j' M', addM (jOf L th) M t = (62, j', M') ∧ Crash2 L (L ++ [t]) M') := by
  cases th with
  | true =>
    have hf := app_fate (l := lineB t) (show Base (some (linesB L)) M from h.base) hz
    by_cases he : (tryM (stApp dJ (lineB t)) M).1 = 0
    · left
      refine ⟨(tryM (stApp dJ (lineB t)) M).2, ?_, fine_snoc h.fine ht, by rw [if_pos rfl, linesB_snoc]; exact hf.done he, fun h => by cases h⟩
      unfold jOf
      rw [add_ok (may_go ht) (show addSteps ⟨dJ, L, ((linesB L).size : Int), false, true⟩ (lineB t) = stApp dJ (lineB t) from rfl) (by rw [he]; decide), linesB_snoc, ByteArray.size_append]; rfl
    · right
      obtain ⟨h62, _⟩ := hf.bad he
      refine ⟨⟨dJ, L, ((linesB L).size : Int), false || ((62 : Int) != 61), true⟩, (tryM (stApp dJ (lineB t)) M).2, ?_, fun ks => ?_⟩
      · unfold jOf
        rw [add_err (may_go ht) (show addSteps ⟨dJ, L, ((linesB L).size : Int), false, true⟩ (lineB t) = stApp dJ (lineB t) from rfl) (by rw [h62]; decide), h62]
      · obtain ⟨m, hm⟩ := hf.crash ks
        exact ⟨_, hm, recs_pre h.fine ht m⟩
  | false =>
    obtain ⟨rfl, hN⟩ := h.nil rfl
    have hz' : (lineB t).size ≤ 60000 := by omega
    have hf := wri_fate (l := lineB t) (show Base none M from h.base) hN hz'
    by_cases he : (tryM (stWri dJ (lineB t)) M).1 = 0
    · left
      refine ⟨(tryM (stWri dJ (lineB t)) M).2, ?_, fine_snoc h.fine ht, by rw [if_pos rfl, linesB_snoc]; show Base (some (ByteArray.empty ++ lineB t)) _; rw [ByteArray.empty_append]; exact hf.done he, fun h => by cases h⟩
      unfold jOf
      rw [add_ok (may_go ht) (show addSteps ⟨dJ, [], ((linesB []).size : Int), false, false⟩ (lineB t) = stWri dJ (lineB t) from rfl) (by rw [he]; decide), linesB_snoc, ByteArray.size_append]; rfl
    · right
      obtain ⟨h62, _⟩ := hf.bad he
      refine ⟨⟨dJ, [], ((linesB []).size : Int), false || ((62 : Int) != 61), false⟩, (tryM (stWri dJ (lineB t)) M).2, ?_, fun ks => ?_⟩
      · unfold jOf
        rw [add_err (may_go ht) (show addSteps ⟨dJ, [], ((linesB []).size : Int), false, false⟩ (lineB t) = stWri dJ (lineB t) from rfl) (by rw [h62]; decide), h62]
      · rcases hf.crash ks with hm | ⟨m, hm⟩
        · exact ⟨_, hm, .inl rfl⟩
        · refine ⟨_, hm, ?_⟩
          have := recs_pre (L := []) (t := t) h.fine ht m
          rw [show linesB [] ++ (lineB t).extract 0 m = (lineB t).extract 0 m from ByteArray.empty_append] at this
          exact this
theorem may_gos {ts : List ByteArray} (ht : ∀ t ∈ ts, rightJ t = true) : ¬ (mayI ts false != 0) = true := by
  have : ts.any (fun t => !rightJ t) = false := by rw [List.any_eq_false]; intro t h1; rw [ht t h1]; decide
  simp [mayI, this]
theorem rep_out {L ts : List ByteArray} {th : Bool} {M : DM} (h : Sett L th M) (ht : ∀ t ∈ ts, rightJ t = true) (hz : (linesB ts).size ≤ 60000) :
    (∃ M', replaceM (jOf L th) M ts = (0, jOf ts true, M') ∧ Sett ts true M') ∨ (∃ j' M', replaceM (jOf L th) M ts = (62, j', M') ∧ Crash2 L ts M') := by
  have hf := rep_fate (B := linesB ts) h.base hz
  by_cases he : (tryM (repSteps dJ (linesB ts)) M).1 = 0
  · left
    refine ⟨(tryM (repSteps dJ (linesB ts)) M).2, ?_, ht, hf.done he, fun h => by cases h⟩
    unfold jOf
    rw [rep_ok (may_gos ht) (by rw [he]; decide)]
  · right
    obtain ⟨h62, _⟩ := hf.bad he
    refine ⟨⟨dJ, L, ((linesB L).size : Int), false || ((62 : Int) != 61), th⟩, (tryM (repSteps dJ (linesB ts)) M).2, ?_, fun ks => ?_⟩
    · unfold jOf
      rw [rep_err (may_gos ht) (by rw [h62]; decide), h62]
    · rcases hf.crash ks with hm | hm
      · refine ⟨_, hm, .inl ?_⟩
        cases th with
        | true => exact recs_lines h.fine
        | false => rw [(h.nil rfl).1]; rfl
      · exact ⟨_, hm, .inr (recs_lines ht)⟩
theorem rep_bad {j : JM} {M : DM} {ts : List ByteArray} (h : ts.any (fun t => !rightJ t) = true) : replaceM j M ts = (2, j, M) := by unfold replaceM; rw [h]; rfl
theorem sett0 : Sett [] false (newM 1048576) := ⟨fun _ h => absurd h List.not_mem_nil, Base.of (a := none) (b := none) (by rw [new0 (by decide)]) (fun _ => by rw [new0 (by decide)]) (by rw [new0 (by decide)]; rfl) (by rw [new0 (by decide)]; rfl) (by rw [new0 (by decide)]) trivial (fun k hk => by cases hk), fun _ => ⟨rfl, by rw [new0 (by decide)]⟩⟩
theorem base_fail {lg : Option ByteArray} {M : DM} (h : Base lg M) (n : Int) : Base lg (failM M n false) := by
  obtain ⟨a, b, h1, h2, h3, h4, h5⟩ := h.parts
  exact Base.of (a := a) (b := b) h.room (fun _ => rfl) h1 h2 h3 h4 h5
theorem sett_fail {L : List ByteArray} {th : Bool} {M : DM} (h : Sett L th M) (n : Int) : Sett L th (failM M n false) := ⟨h.fine, base_fail h.base n, h.nil⟩
def Kept (R : List ByteArray) (M : DM) : Prop := ∀ ks, ∃ lg, Base lg (crashM M ks) ∧ recs lg = R
theorem open_out {lg : Option ByteArray} {M : DM} (h : Base lg M) :
    (∃ j M2, openM M dJ = (0, some j, M2) ∧ j.L = recs lg ∧ Kept (recs lg) M2 ∧ JSmall j) ∨ (M.fails = true ∧ ∃ M2, openM M dJ = (62, none, M2) ∧ Kept (recs lg) M2) := by
  obtain ⟨a, b, h1, h2, h3, h4, h5⟩ := h.parts
  cases lg with
  | none =>
    cases a with
    | some k => exact h4.elim
    | none => exact .inl ⟨_, M, open_fresh goodJ (by rw [h1]; exact look_p0), rfl, fun ks => ⟨_, h.crash ks, rfl⟩, ⟨by show dJ.size ≤ _; decide, by decide, by decide⟩⟩
  | some c =>
    cases a with
    | none => exact h4.elim
    | some k =>
      have hl : lookN M.names (pathJ dJ logB) = some (k : Int) := by rw [h1]; exact look_p
      have hb : (bodyAt M (k : Int)).now = c := by unfold bodyAt; rw [Int.toNat_natCast, getD_of h4.1]
      have hr : readM M (pathJ dJ logB) = (c, 0) := by rw [readM_ok hl, hb]
      have hrd : ((readM M (pathJ dJ logB)).2 != 0) = false := by rw [hr]; rfl
      have hjs : ∀ th, JSmall ⟨dJ, (parseB c).1, ((linesB (parseB c).1).size : Int), false, th⟩ := fun th => by
        have h6 := parse_size c
        have h7 := h4.2
        have h8 := lines_len (parseB c).1
        exact ⟨by show dJ.size ≤ _; decide, by show (parseB c).1.length ≤ _; omega, by show (0 : Int) ≤ ((linesB (parseB c).1).size : Int) ∧ ((linesB (parseB c).1).size : Int) ≤ _; omega⟩
      have hp : parseB (readM M (pathJ dJ logB)).1 = ((parseB c).1, (parseB c).2) := by rw [hr]
      cases ha : (!((parseB c).2.toList == (ByteArray.mk #[]).toList)) with
      | false => exact .inl ⟨_, M, open_whole goodJ hrd hp ha, rfl, fun ks => ⟨_, h.crash ks, rfl⟩, hjs _⟩
      | true =>
        have hz : (linesB (parseB c).1).size ≤ 60000 := Nat.le_trans (parse_size c) h4.2
        have hf := rep_fate (B := linesB (parseB c).1) h hz
        have hkept : Kept (recs (some c)) (tryM (repSteps dJ (linesB (parseB c).1)) M).2 := fun ks => by
          rcases hf.crash ks with hm | hm
          · exact ⟨_, hm, rfl⟩
          · exact ⟨_, hm, recs_lines (parse_right c)⟩
        by_cases he : (tryM (repSteps dJ (linesB (parseB c).1)) M).1 = 0
        · have hx := rep_ok (L := (parseB c).1) (size := ((linesB (parseB c).1).size : Int)) (there := true) (may_gos (parse_right c)) (by rw [he]; decide)
          have ho := open_ok goodJ hrd hp ha (by rw [hx]; rfl)
          rw [hx] at ho
          exact .inl ⟨_, _, ho, rfl, hkept, hjs _⟩
        · obtain ⟨h62, hfl⟩ := hf.bad he
          have hx := rep_err (L := (parseB c).1) (size := ((linesB (parseB c).1).size : Int)) (there := true) (may_gos (parse_right c)) (by rw [h62]; decide)
          have ho := open_err goodJ hrd hp ha (by rw [hx, h62]; rfl)
          rw [hx, h62] at ho
          exact .inr ⟨hfl, _, ho, hkept⟩
theorem sI_sdir {z w i : Nat} {M : DM} (h : ScrI z w i M) (d : ByteArray) : ScrI z w i (syncDirM M d).2 := by
  have hc := scr_call h (dirR d)
  by_cases he : errM M (dirR d) = 0
  · rw [syncDirM_ok he]
    have e1 := fold_len (chOf M.changes d) M.kept
    have e2 := addsC_split M.changes d
    have e3 : M.kept.length + addsC M.changes ≤ w := hc.kept
    have e4 : M.changes.length ≤ w := hc.changes
    have e5 := List.length_filter_le (fun c : Ch => !(d == c.dir)) M.changes
    refine ⟨hc.bodies, hc.size, hc.names, ?_, ?_, hc.calls, hc.rn, right_fold hc.rk fun x hx => ?_, fun c hm => hc.rc c (List.mem_filter.1 hm).1⟩
    · show ((chOf M.changes d).foldl applyN M.kept).length + addsC (M.changes.filter _) ≤ w
      omega
    · show (M.changes.filter _).length ≤ w
      omega
    · obtain ⟨c, hm, rfl⟩ := chOf_mem hx
      exact (hc.rc c hm).1
  · rw [syncDirM_err he]; exact hc
theorem sI_try {z w i : Nat} {f : DM → Int × DM} {r : List (DM → Int × DM)} {M : DM} (h1 : ScrI z w i (f M).2) (h2 : ScrI z w i (tryM r (f M).2).2) : ScrI z w i (tryM (f :: r) M).2 := by
  rw [tryM_cons]; split
  · exact h1
  · exact h2
theorem sI_app {z w i : Nat} {M : DM} (h : ScrI z w i M) (dir l : ByteArray) : ScrI (z + l.size) (w + 1) (i + 1) (tryM (stApp dir l) M).2 := by
  have h1 := ScrI.up (sI_append h (pathJ dir logB) l) (Nat.le_refl _) (show w ≤ w + 1 by omega) (show i ≤ i + 1 by omega)
  have h2 := sI_sync h1 (pathJ dir logB)
  exact sI_try h1 (sI_try h2 h2)
theorem sI_wri {z w i : Nat} {M : DM} (h : ScrI z w i M) (dir l : ByteArray) : ScrI (z + l.size) (w + 1) (i + 1) (tryM (stWri dir l) M).2 := by
  have h1 := sI_write (ScrI.up h (show z ≤ z + l.size by omega) (Nat.le_refl _) (Nat.le_refl _)) (pathJ dir logB) (b := l) (by omega)
  have h2 := sI_sync h1 (pathJ dir logB)
  have h3 := sI_sdir h2 dir
  exact sI_try h1 (sI_try h2 (sI_try h3 h3))
theorem sI_repl {z w i : Nat} {M : DM} (h : ScrI z w i M) (dir : ByteArray) {b : ByteArray} (hb : b.size ≤ z) : ScrI z (w + 2) (i + 1) (tryM (repSteps dir b) M).2 := by
  have h1 := ScrI.up (sI_write h (pathJ dir newB) hb) (Nat.le_refl _) (show w + 1 ≤ w + 2 by omega) (Nat.le_refl _)
  have h1' := sI_write h (pathJ dir newB) hb
  have h2' := sI_sync h1' (pathJ dir newB)
  have h2 := sI_sync h1 (pathJ dir newB)
  have h3 := sI_rename h2' (pathJ dir newB) (pathJ dir logB)
  have h4 := sI_sdir h3 dir
  exact sI_try h1 (sI_try h2 (sI_try h3 (sI_try h4 h4)))
theorem sI_addM {z w i : Nat} {M : DM} (h : ScrI z w i M) (j : JM) (t : ByteArray) : ScrI (z + (t.size + 18)) (w + 1) (i + 1) (addM j M t).2.2 := by
  have hup := ScrI.up h (show z ≤ z + (t.size + 18) by omega) (show w ≤ w + 1 by omega) (show i ≤ i + 1 by omega)
  rw [← lineB_size]
  rw [← lineB_size] at hup
  unfold addM
  split
  · exact hup
  · split
    · exact hup
    · have hs : ScrI (z + (lineB t).size) (w + 1) (i + 1) (tryM (addSteps j (lineB t)) M).2 := by
        unfold addSteps
        split
        · exact sI_app h j.dir (lineB t)
        · exact sI_wri h j.dir (lineB t)
      simp only
      split <;> exact hs
theorem sI_repM {z w i : Nat} {M : DM} (h : ScrI z w i M) (j : JM) {ts : List ByteArray} (hz : (linesB ts).size ≤ z) : ScrI z (w + 2) (i + 1) (replaceM j M ts).2.2 := by
  have hup := ScrI.up h (Nat.le_refl z) (show w ≤ w + 2 by omega) (show i ≤ i + 1 by omega)
  unfold replaceM
  split
  · exact hup
  · split
    · exact hup
    · have hs := sI_repl h j.dir hz
      simp only
      split <;> exact hs
theorem sI_openM {z w i : Nat} {M : DM} (h : ScrI z w i M) (dir : ByteArray) : ScrI z (w + 2) (i + 1) (openM M dir).2.2 := by
  have hup := ScrI.up h (Nat.le_refl z) (show w ≤ w + 2 by omega) (show i ≤ i + 1 by omega)
  unfold openM
  split
  · exact hup
  · split
    · exact hup
    · simp only
      split
      · have hs := sI_repM (ts := (parseB (readM M (pathJ dir logB)).1).1) h ⟨dir, (parseB (readM M (pathJ dir logB)).1).1, ((linesB (parseB (readM M (pathJ dir logB)).1).1).size : Int), false, true⟩ (Nat.le_trans (parse_size _) (read_le h _))
        split <;> exact hs
      · exact hup
end Go.Jr
namespace Go.Jr
open Go.Sw Go.Lib Go.Vf Go.Sha Go.RowKit Go.Proofs.YtlaoeiaaeifidaaGreat
structure OpJ where
  kind : Int
  n : Int
  t : ByteArray
  la : Option Addr
  lc : Nat
  l : List ByteArray
  ka : Option Addr
  kc : Nat
  k : List Int
instance : Inhabited OpJ := ⟨⟨0, 0, ByteArray.mk #[], none, 0, [], none, 0, []⟩⟩
def opCellsJ (o : OpJ) : List Value := [.int .i64 o.kind, .int .i64 o.n, .string o.t, .slice o.la o.l.length o.lc, .slice o.ka o.k.length o.kc]
structure OpOkJ (S : Nat → Obj → Prop) (W0 : World) (H : List Grp) (o : OpJ) : Prop where
  kind : -9223372036854775808 ≤ o.kind ∧ o.kind ≤ 9223372036854775807
  n : -9223372036854775808 ≤ o.n ∧ o.n ≤ 9223372036854775807
  t : o.t.size ≤ 9223372036854775807
  l : Rd S o.la (strs o.l)
  ln : o.la = none → o.l.length = 0
  ll : o.l.length ≤ 9223372036854775807
  ls : ∀ t ∈ o.l, t.size ≤ 9223372036854775807
  k : Rd S o.ka (o.k.map (Value.int .i64))
  kc : o.k.length ≤ o.kc
  ki : ∀ x ∈ o.k, -9223372036854775808 ≤ x ∧ x ≤ 9223372036854775807
  kl : o.k.length ≤ 9223372036854775807
  at_ : ∀ y o, S y o → At W0 H y o
theorem opsJ_len (l : List OpJ) : (l.flatMap opCellsJ).length = l.length * 5 := by
  induction l with
  | nil => rfl
  | cons o l ih => rw [List.flatMap_cons, List.length_append, ih, List.length_cons]; show 5 + _ = _; omega
theorem op_atJ {l : List OpJ} {i : Nat} (h : i < l.length) : ∀ m, m < 5 → (l.flatMap opCellsJ)[i * 5 + m]? = (opCellsJ (l.getD i default))[m]? := by
  induction l generalizing i with
  | nil => simp at h
  | cons o l ih =>
    intro m hm
    rw [List.flatMap_cons]
    cases i with
    | zero =>
      rw [Nat.zero_mul, Nat.zero_add, List.getElem?_append_left (by show m < 5; exact hm)]; rfl
    | succ i =>
      have e : (i + 1) * 5 + m = 5 + (i * 5 + m) := by omega
      rw [e, List.getElem?_append_right (by show 5 ≤ _; omega), show (opCellsJ o).length = 5 from rfl, Nat.add_sub_cancel_left, ih (by simpa using h) m hm, List.getD_cons_succ]
theorem opJ_mem {l : List OpJ} {k : Nat} (h : k < l.length) : l.getD k default ∈ l := by
  rw [List.getD, List.getElem?_eq_getElem h]; exact List.getElem_mem h
def longJ (o : OpJ) : Bool := o.l.any (fun t => decide ((t.size : Int) > 1000)) || ((decide ((o.t.size : Int) > 1000) || decide (((o.l.length : Nat) : Int) > 20)) || decide (((o.k.length : Nat) : Int) > 50))
theorem longJ_no {o : OpJ} (h : longJ o = false) : (∀ t ∈ o.l, t.size ≤ 1000) ∧ o.t.size ≤ 1000 ∧ o.l.length ≤ 20 ∧ o.k.length ≤ 50 := by
  unfold longJ at h
  simp only [Bool.or_eq_false_iff, decide_eq_false_iff_not, List.any_eq_false, decide_eq_true_eq] at h
  obtain ⟨h1, ⟨h2, h3⟩, h4⟩ := h
  exact ⟨fun t ht => by have := h1 t ht; omega, by omega, by omega, by omega⟩
theorem lines_le : ∀ {ts : List ByteArray}, (∀ t ∈ ts, t.size ≤ 1000) → (linesB ts).size ≤ 1018 * ts.length
  | [], _ => Nat.zero_le _
  | t :: R, h => by
    have ih := lines_le (ts := R) fun u hu => h u (List.mem_cons_of_mem _ hu)
    have ht := h t List.mem_cons_self
    show (lineB t ++ linesB R).size ≤ 1018 * (R.length + 1)
    rw [ByteArray.size_append, lineB_size]; omega
theorem add3 {L : List ByteArray} {th : Bool} {M : DM} {t : ByteArray} (h : Sett L th M) (hz : (linesB L).size + (t.size + 18) ≤ 60000) :
    (rightJ t = false ∧ addM (jOf L th) M t = (2, jOf L th, M)) ∨ (∃ M', addM (jOf L th) M t = (0, jOf (L ++ [t]) true, M') ∧ Sett (L ++ [t]) true M' ∧ (linesB (L ++ [t])).size = (linesB L).size + (t.size + 18)) ∨ (∃ j' M', addM (jOf L th) M t = (62, j', M') ∧ Crash2 L (L ++ [t]) M') := by
  cases ht : rightJ t with
  | false => exact .inl ⟨rfl, add_bad ht⟩
  | true =>
    rcases add_out h ht (by rw [lineB_size]; exact hz) with ⟨M', h1, h2⟩ | h1
    · exact .inr (.inl ⟨M', h1, h2, by rw [linesB_snoc, ByteArray.size_append, lineB_size]⟩)
    · exact .inr (.inr h1)
theorem rep3_ {L ts : List ByteArray} {th : Bool} {M : DM} (h : Sett L th M) (hz : (linesB ts).size ≤ 60000) :
    (replaceM (jOf L th) M ts = (2, jOf L th, M)) ∨ (∃ M', replaceM (jOf L th) M ts = (0, jOf ts true, M') ∧ Sett ts true M') ∨ (∃ j' M', replaceM (jOf L th) M ts = (62, j', M') ∧ Crash2 L ts M') := by
  cases ht : ts.any (fun t => !rightJ t) with
  | true => exact .inl (rep_bad ht)
  | false =>
    have hr : ∀ t ∈ ts, rightJ t = true := fun t h => by simpa using List.any_eq_false.1 ht t h
    rcases rep_out h hr hz with h1 | h1
    · exact .inr (.inl h1)
    · exact .inr (.inr h1)
theorem jOf_small {L : List ByteArray} {th : Bool} (h : (linesB L).size ≤ 60000) : JSmall (jOf L th) := by
  have := lines_len L
  exact ⟨by show dJ.size ≤ _; decide, by show L.length ≤ _; omega, by show (0 : Int) ≤ ((linesB L).size : Int) ∧ ((linesB L).size : Int) ≤ _; omega⟩
theorem sc_room {n : Nat} {M : DM} (h : Scr 1100 n M) (hn : n ≤ 1000) : RoomM M := RoomM.of h (by have := Nat.mul_le_mul_left 1100 hn; omega) (by omega) (by omega)
theorem sc_add {n : Nat} {M : DM} (h : Scr 1100 n M) (j : JM) {t : ByteArray} (ht : t.size ≤ 1000) : Scr 1100 (n + 2) (addM j M t).2.2 := ScrI.up (sI_addM h j t) (by rw [Nat.mul_add]; omega) (by omega) (by omega)
theorem sc_rep {n : Nat} {M : DM} (h : Scr 1100 n M) (j : JM) {ts : List ByteArray} (hz : (linesB ts).size ≤ 1100 * n) : Scr 1100 (n + 2) (replaceM j M ts).2.2 := ScrI.up (sI_repM h j hz) (by rw [Nat.mul_add]; omega) (by omega) (by omega)
theorem sc_open {n : Nat} {M : DM} (h : Scr 1100 n M) (dir : ByteArray) : Scr 1100 (n + 2) (openM M dir).2.2 := ScrI.up (sI_openM h dir) (by rw [Nat.mul_add]; omega) (by omega) (by omega)
theorem sc_add' {n : Nat} {M M' : DM} {j j' : JM} {t : ByteArray} {e : Int} (h : Scr 1100 n M) (ht : t.size ≤ 1000) (he : addM j M t = (e, j', M')) : Scr 1100 (n + 2) M' := by have := sc_add h j ht; rw [he] at this; exact this
theorem sc_rep' {n : Nat} {M M' : DM} {j j' : JM} {ts : List ByteArray} {e : Int} (h : Scr 1100 n M) (hz : (linesB ts).size ≤ 1100 * n) (he : replaceM j M ts = (e, j', M')) : Scr 1100 (n + 2) M' := by have := sc_rep h j hz; rw [he] at this; exact this
theorem sc_open' {n : Nat} {M M' : DM} {j : Option JM} {dir : ByteArray} {e : Int} (h : Scr 1100 n M) (he : openM M dir = (e, j, M')) : Scr 1100 (n + 2) M' := by have := sc_open h dir; rw [he] at this; exact this
theorem crash2_get {A B : List ByteArray} {M : DM} (h : Crash2 A B M) (ks : List Int) : ∃ lg, Base lg (crashM M ks) ∧ (recs lg = A ∨ recs lg = B) := h ks
theorem open_last {lg : Option ByteArray} {M : DM} (h : Base lg M) (hf : M.fails = false) : ∃ j M2, openM M dJ = (0, some j, M2) ∧ j.L = recs lg ∧ JSmall j := by
  rcases open_out h with ⟨j, M2, h1, h2, _, h3⟩ | ⟨h1, _⟩
  · exact ⟨j, M2, h1, h2, h3⟩
  · rw [hf] at h1; cases h1
end Go.Jr
namespace Go.Proofs.YtlaoeiaaeifidaaGreat
open Go Go.ChangeShapes Go.WideShapes Go.ChangeAt Go.RowKit Go.Sw Go.Vf Go.Jr
theorem cells_opJ : Tryz.prog.cellsOf 51 = 5 := by kernel_rfl
theorem cells_ss : Tryz.prog.cellsOf 32 = 1 := by kernel_rfl
set_option maxRecDepth 100000 in
theorem opJ_core {H : Type} {enc : TypeId × Value → H} {W : World} {cs : List Value} {x : DataW H × List MemPlace} {fuel : Nat} (hf : DataW.trod enc Tryz.prog W 0 (fun _ => true) true fuel 51 cs = some x) :
    ∃ o : OpJ, cs = opCellsJ o ∧ OpOkJ (SW W) W [] o := by
  obtain ⟨xs, n, rfl, rfl, hl, hx, hs⟩ := DataW.trod_struct Tryz.underlying51 hf
  have hl5 : cs.length = 5 := by rw [hl]; kernel_rfl
  obtain ⟨c0, c1, c2, c3, c4, rfl⟩ : ∃ c0 c1 c2 c3 c4, cs = [c0, c1, c2, c3, c4] := by
    match cs, hl5 with
    | [c0, c1, c2, c3, c4], _ => exact ⟨c0, c1, c2, c3, c4, rfl⟩
  have h0 : DataW.trod enc Tryz.prog W 0 (fun _ => true) true n 3 ((List.drop 0 [c0, c1, c2, c3, c4]).take (Tryz.prog.cellsOf 3)) = xs[0]? := hs 0 _ rfl
  rw [cells_int] at h0
  have h1 : DataW.trod enc Tryz.prog W 0 (fun _ => true) true n 3 ((List.drop 1 [c0, c1, c2, c3, c4]).take (Tryz.prog.cellsOf 3)) = xs[1]? := hs 1 _ rfl
  rw [cells_int] at h1
  have h2 : DataW.trod enc Tryz.prog W 0 (fun _ => true) true n 9 ((List.drop 2 [c0, c1, c2, c3, c4]).take (Tryz.prog.cellsOf 9)) = xs[2]? := hs 2 _ rfl
  rw [cells_str] at h2
  have h3 : DataW.trod enc Tryz.prog W 0 (fun _ => true) true n 32 ((List.drop 3 [c0, c1, c2, c3, c4]).take (Tryz.prog.cellsOf 32)) = xs[3]? := hs 3 _ rfl
  rw [cells_ss] at h3
  have h4 : DataW.trod enc Tryz.prog W 0 (fun _ => true) true n 49 ((List.drop 4 [c0, c1, c2, c3, c4]).take (Tryz.prog.cellsOf 49)) = xs[4]? := hs 4 _ rfl
  rw [cells_is] at h4
  have hx5 : xs.length = 5 := by rw [hx]; rfl
  rw [List.getElem?_eq_getElem (by omega)] at h0 h1 h2 h3 h4
  simp only [List.drop_succ_cons, List.drop_zero, List.take_succ_cons, List.take_zero] at h0 h1 h2 h3 h4
  obtain ⟨kd, e0, _, w0⟩ := DataW.trod_int Tryz.underlying3 h0
  obtain ⟨m, e1, _, w1⟩ := DataW.trod_int Tryz.underlying3 h1
  obtain ⟨t, e2, _, w2⟩ := DataW.trod_string Tryz.underlying9 h2
  obtain ⟨la, lc, l, e3, w3⟩ := strs_core h3
  obtain ⟨ka, kc, k, e4, w4, w41, w42, w43⟩ := ints_core h4
  injection e0 with e0 _
  injection e1 with e1 _
  injection e2 with e2 _
  injection e3 with e3 _
  injection e4 with e4 _
  subst e0 e1 e2 e3 e4
  have hml : maxLen ≤ 9223372036854775807 := by decide
  exact ⟨⟨kd, m, t, la, lc, l, ka, kc, k⟩, rfl, ⟨wf_i64 w0, wf_i64 w1, by show t.size ≤ _; omega, w3.rd, w3.nil, w3.len, w3.size, w4, w41, w42, w43, fun y o h => sw_at h⟩⟩
theorem add_add5 (a : Addr) (i j : Nat) (h : i ≤ j) : (a.add i).add (j - i) = a.add j := add_add1 a i j h
set_option maxRecDepth 100000 in
theorem open_scriptJ {H : Type} {enc : TypeId × Value → H} {W : World} {v : Value} {d : DataW H} {p : List MemPlace} {r : Reach} {b0 : Nat} (hval : Value.okWide Tryz.prog W r b0 43 v) (h0 : DataW.Trod enc Tryz.prog W 0 (fun _ => true) true 43 v d p) :
    ∃ (a : Option Addr) (c : Nat) (l : List OpJ), v = .slice a l.length c ∧ Rd (SW W) a (l.flatMap opCellsJ) ∧ l.length ≤ c ∧ (∀ o ∈ l, OpOkJ (SW W) W [] o) ∧ l.length ≤ 9223372036854775807 := by
  obtain ⟨a0, len, cap, rfl⟩ := okWide_slice Tryz.underlying43 hval
  obtain ⟨fuel, hf⟩ := h0
  have hml : maxLen ≤ 9223372036854775807 := by decide
  rcases DataW.trod_slice Tryz.underlying43 hf with ⟨hcs, _⟩ | ⟨a, len', cap', elems, rest, n, rfl, hcs, _, _, hl, hm, hlen, hel, _, _⟩
  · simp [Value.cells] at hcs
    obtain ⟨rfl, rfl, rfl⟩ := hcs
    exact ⟨none, 0, [], rfl, .inl rfl, Nat.le_refl _, fun _ h => absurd h List.not_mem_nil, by decide⟩
  · simp [Value.cells] at hcs
    obtain ⟨rfl, rfl, rfl⟩ := hcs
    rw [cells_opJ] at hel
    have each : ∀ i, i < len → ∃ o : OpJ, OpOkJ (SW W) W [] o ∧ ∀ j, j < 5 → W.cell? ((a.add (i * 5)).add j) = (opCellsJ o)[j]? := by
      intro i hi
      have h := hel i hi
      rw [List.getElem?_eq_getElem (by omega)] at h
      obtain ⟨cs, hc, ht⟩ := Option.bind_eq_some_iff.1 h
      obtain ⟨o, rfl, ho⟩ := opJ_core ht
      exact ⟨o, ho, (World.cells?_some hc).2.2⟩
    have build : ∀ m, m ≤ len → ∃ l : List OpJ, l.length = m ∧ (∀ o ∈ l, OpOkJ (SW W) W [] o) ∧ ∀ j u, (l.flatMap opCellsJ)[j]? = some u → W.cell? (a.add j) = some u := by
      intro m
      induction m with
      | zero => intro _; exact ⟨[], rfl, fun _ h => absurd h List.not_mem_nil, fun j u h => by simp at h⟩
      | succ m ih =>
        intro hm1
        obtain ⟨l, h1, h2, h3⟩ := ih (by omega)
        obtain ⟨o, ho, hc⟩ := each m (by omega)
        have hll : (l.flatMap opCellsJ).length = m * 5 := by rw [opsJ_len, h1]
        refine ⟨l ++ [o], by simp [h1], fun x hx => ?_, fun j u hu => ?_⟩
        · rcases List.mem_append.1 hx with hx | hx
          · exact h2 x hx
          · rw [List.mem_singleton.1 hx]; exact ho
        · rw [List.flatMap_append] at hu
          rcases Nat.lt_or_ge j (m * 5) with hlt | hge
          · rw [List.getElem?_append_left (by omega)] at hu
            exact h3 j u hu
          · rw [List.getElem?_append_right (by omega), hll] at hu
            simp only [List.flatMap_cons, List.flatMap_nil, List.append_nil] at hu
            have hj : j - m * 5 < 5 := by
              rcases Nat.lt_or_ge (j - m * 5) 5 with h | h
              · exact h
              · rw [List.getElem?_eq_none (by exact h)] at hu; cases hu
            have h4 := hc (j - m * 5) hj
            rw [hu, add_add5 a (m * 5) j hge] at h4
            exact h4
    obtain ⟨l, h1, h2, h3⟩ := build len (Nat.le_refl _)
    refine ⟨some a, cap, l, by rw [h1], ?_, by omega, h2, by omega⟩
    by_cases h0 : l.flatMap opCellsJ = []
    · rw [h0]; exact .inl rfl
    · exact (rd_cells h0 h3).2
theorem two_of : ∀ (l : List Value), (Array.mk l).size = 2 → ∃ a b, l = [a, b]
  | [a, b], _ => ⟨a, b, rfl⟩
  | [], h => by simp at h
  | [_], h => by simp at h
  | _ :: _ :: _ :: _, h => by simp at h
theorem trod_array2 {H : Type} {enc : TypeId × Value → H} {P : Program} {w : World} {base : Nat} {spare : Nat → Bool} {held : Bool} {t e : TypeId} {fuel : Nat} {c0 c1 : Value} {x : DataW H × List MemPlace} (ht : P.underlying t = some (.array 2 e)) (hce : P.cellsOf e = 1)
    (h : DataW.trod enc P w base spare held fuel t [c0, c1] = some x) :
    ∃ y0 y1 n, DataW.trod enc P w base spare held n e [c0] = some y0 ∧ DataW.trod enc P w base spare held n e [c1] = some y1 := by
  obtain ⟨xs, m, _, _, _, hx, hi⟩ := DataW.trod_array ht h
  have h0 := hi 0 (by omega)
  have h1 := hi 1 (by omega)
  rw [hce, List.getElem?_eq_getElem (by omega)] at h0 h1
  simp at h0 h1
  exact ⟨_, _, _, h0, h1⟩
set_option maxRecDepth 100000 in
theorem open_two {H : Type} {enc : TypeId × Value → H} {W : World} {v : Value} {d : DataW H} {p : List MemPlace} {b0 : Nat} (hval : Value.okWide Tryz.prog W .any b0 64 v) (h0 : DataW.Trod enc Tryz.prog W 0 (fun _ => true) true 64 v d p) :
    ∃ a b, v = .agg #[.int .i64 a, .int .i64 b] := by
  have hu : Tryz.prog.underlying 64 = some (.array 2 3) := by kernel_rfl
  obtain ⟨cs, rfl, hsz, _⟩ : ∃ cs, v = .agg cs ∧ cs.size = Tryz.prog.cellsOf 64 ∧ Row.okWide Tryz.prog W .any b0 64 cs := by simpa [Value.okWide, hu] using hval
  rw [show Tryz.prog.cellsOf 64 = 2 from by kernel_rfl] at hsz
  obtain ⟨l⟩ := cs
  obtain ⟨c0, c1, rfl⟩ := two_of l hsz
  obtain ⟨fuel, hf⟩ := h0
  obtain ⟨y0, y1, m, hy0, hy1⟩ := trod_array2 hu cells_int hf
  obtain ⟨a, e0, rfl, wa⟩ := DataW.trod_int Tryz.underlying3 hy0
  obtain ⟨b, e1, rfl, wb⟩ := DataW.trod_int Tryz.underlying3 hy1
  simp at e0 e1
  subst e0 e1
  exact ⟨a, b, rfl⟩
end Go.Proofs.YtlaoeiaaeifidaaGreat
namespace Go.Proofs.YtlaoeiaaeifidaaGreat
open Go.Sw Go.Lib Go.Vf Go.Sha Go.Jr Go.RowKit
theorem same_no {A B : List ByteArray} {k : Nat} (hk : k < A.length) (h : (!((A.getD k default).toList == (B.getD k default).toList)) = true) : A ≠ B := fun e => by
  subst e; simp at h
theorem same_yes {A B : List ByteArray} {k : Nat} (hl : A.length = B.length) (hk : A.length ≤ k) (h : ∀ j, j < k → A.getD j default = B.getD j default) : A = B := by
  apply List.ext_getElem hl
  intro j h1 h2
  have := h j (by omega)
  simpa [List.getD, h1, h2] using this
theorem same_succ {A B : List ByteArray} {k : Nat} (h : ∀ j, j < k → A.getD j default = B.getD j default) (hk : (!((A.getD k default).toList == (B.getD k default).toList)) = false) : ∀ j, j < k + 1 → A.getD j default = B.getD j default := fun j hj => by
  rcases Nat.lt_or_ge j k with h' | h'
  · exact h j h'
  · have : j = k := by omega
    subst this
    have h1 : (A.getD j default).toList = (B.getD j default).toList := by simpa using hk
    rw [toList_data, toList_data] at h1
    exact ByteArray.ext (Array.toList_inj.1 h1)
theorem same_ (a1 : Option Addr) (c1 : Nat) (L1 : List ByteArray) (S1 : Nat → Obj → Prop) (hrd1 : Rd S1 a1 (strs L1)) (hl1 : L1.length ≤ 1000000000) (a2 : Option Addr) (c2 : Nat) (L2 : List ByteArray) (S2 : Nat → Obj → Prop) (hrd2 : Rd S2 a2 (strs L2)) (hl2 : L2.length ≤ 1000000000) (W0 : World) (H : List Grp) (hS1 : ∀ y o, S1 y o → At W0 H y o) (hS2 : ∀ y o, S2 y o → At W0 H y o) : Tri Tryz.prog 14 #[.slice a1 L1.length c1, .slice a2 L2.length c2] W0 H (fun v H' => v = .bool (decide (L1 = L2)) ∧ H' = H) := by
 refine Tri_of (args := [.slice a1 L1.length c1, .slice a2 L2.length c2]) (n := 26) Tryz.func14 rfl rfl (Nat.le_of_ble_eq_true rfl) ?_
 refine G_seq ?_
 refine G_pure (E':=[⟨0,[],.slice a1 L1.length c1⟩,⟨1,[],.slice a2 L2.length c2⟩]) [0] [0,1] rfl kr ?_
 refine N_then ?_
 refine G_seq ?_
 refine G_seq ?_
 refine G_pure (E':=[⟨0,[],.slice a1 L1.length c1⟩,⟨1,[],.slice a2 L2.length c2⟩,⟨10,[],.bool (((L1.length : Nat) : Int) != ((L2.length : Nat) : Int))⟩]) [0,0,0,0,0] [0,1,10] rfl kr ?_
 refine N_then ?_
 refine G_cond (b:=((L1.length : Nat) : Int) != ((L2.length : Nat) : Int)) kr (fun hc1=>?_) (fun hc1=>?_)
 ·
  have hne : ¬ L1.length = L2.length := fun e9 => by simp [e9] at hc1
  refine G_seq ?_
  refine G_pure (E':=[⟨4,[],.bool false⟩]) [0] [4] rfl kr ?_
  refine N_then ?_
  refine G_ret ?_
  refine N_then_ret ?_
  refine N_ret [.tmp 4] [.bool false] rfl kr rfl ?_
  exact ⟨by rw [decide_eq_false (fun e => hne (by rw [e]))]; rfl, rfl⟩
 ·
  have heq : L1.length = L2.length := by (have h9 : (L1.length : Int) = L2.length := by simpa using hc1); omega
  refine G_skip ?_
  refine N_then ?_
  refine G_seq ?_
  refine G_seq ?_
  refine G_pure (E':=[⟨0,[],.slice a1 L1.length c1⟩,⟨1,[],.slice a2 L2.length c2⟩,⟨12,[],.int .i64 ((L1.length : Nat) : Int)⟩,⟨13,[],.int .i64 0⟩]) [0,0,0] [0,1,12,13] rfl kr ?_
  refine N_then ?_
  refine G_block ?_
  refine G_loop (EI:=(fun ξ : Nat=>[⟨0,[],.slice a1 L1.length c1⟩,⟨1,[],.slice a2 L2.length c2⟩,⟨12,[],.int .i64 ((L1.length : Nat) : Int)⟩,⟨13,[],.int .i64 ((ξ : Nat) : Int)⟩])) (HI:=(fun ξ : Nat=>H)) (Φ:=(fun ξ : Nat=>(ξ ≤ L1.length)∧(∀ j,j < ξ → L1.getD j default = L2.getD j default))) (μ:=(fun ξ : Nat=>L1.length - ξ)) (s0:=(0)) [0,1,12,13] kr rfl ⟨(by omega),(fun j h=>absurd h (Nat.not_lt_zero j))⟩ ?_
  rintro k ⟨hk, hA⟩
  refine G_seq ?_
  refine G_pure (E':=[⟨0,[],.slice a1 L1.length c1⟩,⟨1,[],.slice a2 L2.length c2⟩,⟨12,[],.int .i64 ((L1.length : Nat) : Int)⟩,⟨13,[],.int .i64 ((k : Nat) : Int)⟩,⟨14,[],.bool (decide (((k : Nat) : Int) < ((L1.length : Nat) : Int)))⟩]) [0] [0,1,12,13,14] rfl kr ?_
  refine N_then ?_
  refine G_seq ?_
  refine G_cond (b:=decide (((k : Nat) : Int) < ((L1.length : Nat) : Int))) kr (fun hc2=>?_) (fun hc2=>?_)
  ·
   simp at hc2
   refine G_skip ?_
   refine N_then ?_
   refine G_seq ?_
   refine G_block ?_
   refine G_seq ?_
   refine G_pure (E':=[⟨0,[],.slice a1 L1.length c1⟩,⟨1,[],.slice a2 L2.length c2⟩,⟨5,[],.int .i64 ((k : Nat) : Int)⟩,⟨12,[],.int .i64 ((L1.length : Nat) : Int)⟩,⟨13,[],.int .i64 ((k : Nat) : Int)⟩]) [0,0] [0,1,5,12,13] rfl kr ?_
   refine N_then ?_
   refine G_seq ?_
   refine G_regionD kr kr ?_
   refine GL_pure (E':=[⟨17,[],.int .i64 ((k : Nat) : Int)⟩,⟨16,[],.slice a1 L1.length c1⟩,⟨0,[],.slice a1 L1.length c1⟩,⟨1,[],.slice a2 L2.length c2⟩,⟨5,[],.int .i64 ((k : Nat) : Int)⟩,⟨12,[],.int .i64 ((L1.length : Nat) : Int)⟩,⟨13,[],.int .i64 ((k : Nat) : Int)⟩]) [0,0] kr (j:=2) rfl ?_
   refine GL_indexAddr (i:=2) (ch:=[]) (a:=a1) (len:=L1.length) (cap:=c1) (kd:=.i64) (j:=((k : Nat) : Int)) (e:=9) (sz:=1) (S:=S1) (cs:=(strs L1)) rfl rfl kr kr kr kr kr kr kr hrd1 (fun _=>by exact ⟨by omega,by omega,strs_ne (by omega)⟩) ?_
   refine GL_loadS (i:=3) (ch:=[]) (a:=a1) (q:=k * 1) (S:=S1) (cs:=(strs L1)) (v:=.string (L1.getD k default)) rfl rfl kr kr kr kr kr hrd1 hS1 (fun _=>(by rw [Nat.mul_one]; exact strs_at (by omega))) ?_
   refine GL_pure (E':=[⟨21,[],.int .i64 ((k : Nat) : Int)⟩,⟨20,[],.slice a2 L2.length c2⟩,⟨19,[],.string (L1.getD k default)⟩,⟨0,[],.slice a1 L1.length c1⟩,⟨1,[],.slice a2 L2.length c2⟩,⟨12,[],.int .i64 ((L1.length : Nat) : Int)⟩,⟨13,[],.int .i64 ((k : Nat) : Int)⟩]) [0,0] kr (j:=6) rfl ?_
   refine GL_indexAddr (i:=6) (ch:=[]) (a:=a2) (len:=L2.length) (cap:=c2) (kd:=.i64) (j:=((k : Nat) : Int)) (e:=9) (sz:=1) (S:=S2) (cs:=(strs L2)) rfl rfl kr kr kr kr kr kr kr hrd2 (fun _=>by exact ⟨by omega,by omega,strs_ne (by omega)⟩) ?_
   refine GL_loadS (i:=7) (ch:=[]) (a:=a2) (q:=k * 1) (S:=S2) (cs:=(strs L2)) (v:=.string (L2.getD k default)) rfl rfl kr kr kr kr kr hrd2 hS2 (fun _=>(by rw [Nat.mul_one]; exact strs_at (by omega))) ?_
   refine GL_fin (E':=[⟨0,[],.slice a1 L1.length c1⟩,⟨1,[],.slice a2 L2.length c2⟩,⟨12,[],.int .i64 ((L1.length : Nat) : Int)⟩,⟨13,[],.int .i64 ((k : Nat) : Int)⟩,⟨24,[],.bool (!((L1.getD k default).toList == (L2.getD k default).toList))⟩]) [0] [0,1,12,13,24] rfl kr ?_
   refine N_then ?_
   refine G_cond (b:=!((L1.getD k default).toList == (L2.getD k default).toList)) kr (fun hc3=>?_) (fun hc3=>?_)
   ·
    skip
    refine G_seq ?_
    refine G_pure (E':=[⟨4,[],.bool false⟩]) [0] [4] rfl kr ?_
    refine N_then ?_
    refine G_ret ?_
    refine N_block_ret ?_
    refine N_then_ret ?_
    refine N_then_ret ?_
    refine N_block_ret ?_
    refine N_then_ret ?_
    refine N_ret [.tmp 4] [.bool false] rfl kr rfl ?_
    exact ⟨by rw [decide_eq_false (same_no (by omega) hc3)]; rfl, rfl⟩
   ·
    skip
    refine G_skip ?_
    refine N_block ?_
    refine N_then ?_
    have hw4 : IntKind.wrap .i64 (((k : Nat) : Int) + 1) = ((k : Nat) : Int) + 1 := w64 (by omega) (by omega)
    refine G_pure (E':=[⟨0,[],.slice a1 L1.length c1⟩,⟨1,[],.slice a2 L2.length c2⟩,⟨12,[],.int .i64 ((L1.length : Nat) : Int)⟩,⟨13,[],.int .i64 (((k : Nat) : Int)+1)⟩]) [0,0] [0,1,12,13] rfl (Eq.trans (b:=some [⟨0,[],.slice a1 L1.length c1⟩,⟨1,[],.slice a2 L2.length c2⟩,⟨12,[],.int .i64 ((L1.length : Nat) : Int)⟩,⟨13,[],.int .i64 (IntKind.wrap .i64 (((k : Nat) : Int)+1))⟩]) kr (by simp only [hw4])) ?_
    refine N_round (s':=(k+1)) [0,1,12,13] kr rfl ⟨(by omega),(same_succ hA hc3)⟩ (by omega)
  ·
   simp at hc2
   refine G_exit ?_
   refine N_then_exit ?_
   refine N_then_exit ?_
   refine N_block_exit ?_
   refine N_then ?_
   refine G_seq ?_
   refine G_pure (E':=[⟨4,[],.bool true⟩]) [0] [4] rfl kr ?_
   refine N_then ?_
   refine G_ret ?_
   refine N_ret [.tmp 4] [.bool true] rfl kr rfl ?_
   exact ⟨by rw [decide_eq_true (same_yes heq (by omega) hA)]; rfl, rfl⟩
set_option maxRecDepth 4000 in
set_option maxHeartbeats 1000000 in
theorem jFirst  (W0 : World) (H : List Grp) : Tri Tryz.prog 7 #[] W0 H (fun v H' => v = .bool true ∧ ∃ G, H' = G ++ H) := by
 refine Tri_of (args := []) (n := 75) Tryz.func7 rfl rfl (Nat.le_of_ble_eq_true rfl) ?_
 refine G_seq ?_
 refine G_pure (E':=[]) [0] [] rfl kr ?_
 refine N_then ?_
 refine G_seq ?_
 refine G_region ?_
 refine GL_call (i:=0) (ch:=[]) (f:=8) (fst:=#[]) (caps:=#[]) (vs:=[.int .i64 10000]) rfl rfl rfl kr kr Tryz.func8 rfl rfl kr kr (chSure_of kr) (dNew 10000 (M:=gM0) _ _ rfl) ?_
 rintro v H' ⟨d1, rfl, s1, hs1, rfl⟩
 refine GL_fin (E':=[⟨1,[],pt d1⟩]) [0] [1] rfl kr ?_
 refine N_then ?_
 refine G_seq ?_
 refine G_region ?_
 refine GL_pure (E':=[⟨10,[],pt d1⟩,⟨1,[],pt d1⟩]) [0] kr (j:=1) rfl ?_
 refine GL_call (i:=1) (ch:=[]) (f:=10) (fst:=#[]) (caps:=#[]) (vs:=[pt d1,.string (ByteArray.mk #[106])]) rfl rfl rfl kr kr Tryz.func10 rfl rfl kr kr (chSure_of kr) (jOpen hs1 g_r0 (by decide) f_open0 ([] : List Grp) d1 _ H) ?_
 rintro v H' ⟨jb2, ja3, jc4, jr5, s2, rfl, ho6, hs2, rfl⟩
 refine GL_fin (E':=[⟨1,[],pt d1⟩,⟨2,[],pt jb2⟩,⟨3,[],.int .i64 0⟩]) [0,0,0,0,0] [1,2,3] rfl kr ?_
 refine N_then ?_
 refine G_seq ?_
 refine G_seq ?_
 refine G_region ?_
 refine GL_pure (E':=[⟨21,[(20,false)],pt jb2⟩,⟨20,[],.bool false⟩,⟨1,[],pt d1⟩,⟨2,[],pt jb2⟩]) [0,0,0,0,0,3,0,0] kr (j:=8) rfl ?_
 refine GL_call (i:=8) (ch:=[(20,false)]) (f:=17) (fst:=#[]) (caps:=#[]) (vs:=[pt jb2,.string (ByteArray.mk #[97])]) rfl rfl rfl kr kr Tryz.func17 rfl rfl kr kr (chSure_of kr) (jAdd hs2 g_r0 g_s0 (by decide) f_add1 ([] : List Grp) jb2 d1 ho6 _ H) ?_
 rintro v H' ⟨ja7, jc8, jr9, s4, rfl, ho10, hs4, rfl⟩
 refine GL_pure (E':=[⟨26,[(25,false)],pt jb2⟩,⟨25,[],.bool false⟩,⟨1,[],pt d1⟩,⟨2,[],pt jb2⟩]) [0,3,0,0] kr (j:=13) rfl ?_
 refine GL_call (i:=13) (ch:=[(25,false)]) (f:=17) (fst:=#[]) (caps:=#[]) (vs:=[pt jb2,.string (ByteArray.mk #[98,10])]) rfl rfl rfl kr kr Tryz.func17 rfl rfl kr kr (chSure_of kr) (jAdd hs4 g_r1 g_s1 (by decide) f_add2 ([] : List Grp) jb2 d1 ho10 _ H) ?_
 rintro v H' ⟨ja11, jc12, jr13, s6, rfl, ho14, hs6, rfl⟩
 refine GL_pure (E':=[⟨31,[(30,false)],pt jb2⟩,⟨30,[],.bool false⟩,⟨1,[],pt d1⟩]) [0,3,0,0] kr (j:=18) rfl ?_
 refine GL_call (i:=18) (ch:=[(30,false)]) (f:=17) (fst:=#[]) (caps:=#[]) (vs:=[pt jb2,.string (ByteArray.mk #[98])]) rfl rfl rfl kr kr Tryz.func17 rfl rfl kr kr (chSure_of kr) (jAdd hs6 g_r1 g_s1 (by decide) f_add3 ([] : List Grp) jb2 d1 ho14 _ H) ?_
 rintro v H' ⟨ja15, jc16, jr17, s8, rfl, ho18, hs8, rfl⟩
 refine GL_fin (E':=[⟨1,[],pt d1⟩,⟨34,[],.bool false⟩]) [0,3] [1,34] rfl kr ?_
 refine N_then ?_
 refine G_condf kr ?_
 refine G_skip ?_
 refine N_then ?_
 refine G_seq ?_
 refine G_region ?_
 refine GL_pure (E':=[⟨35,[],pt d1⟩,⟨1,[],pt d1⟩]) [0] kr (j:=1) rfl ?_
 refine GL_call (i:=1) (ch:=[]) (f:=28) (fst:=#[]) (caps:=#[]) (vs:=[pt d1,.slice none 0 0]) rfl rfl rfl kr kr Tryz.func28 rfl rfl kr kr (chSure_of kr) (dCrash (M':=gM2) hs8 g_r2.small d1 ([]) none 0 (fun _ _=>False) ⟨.inl rfl,by decide,by decide,fun _ h=>absurd h List.not_mem_nil⟩ [(jAt jb2 d1 fJ2 ja15 jc16),jr17] _ H (fun _ _ h=>h.elim) f_crash) ?_
 rintro v H' ⟨rfl, s9, hs9, rfl⟩
 refine GL_fin (E':=[⟨1,[],pt d1⟩]) [] [1] rfl kr ?_
 refine N_then ?_
 refine G_seq ?_
 refine G_region ?_
 refine GL_pure (E':=[⟨38,[],pt d1⟩]) [0] kr (j:=1) rfl ?_
 refine GL_call (i:=1) (ch:=[]) (f:=10) (fst:=#[]) (caps:=#[]) (vs:=[pt d1,.string (ByteArray.mk #[106])]) rfl rfl rfl kr kr Tryz.func10 rfl rfl kr kr (chSure_of kr) (jOpen hs9 g_r2 (by decide) f_open2 ([(jAt jb2 d1 fJ2 ja15 jc16),jr17] : List Grp) d1 _ H) ?_
 rintro v H' ⟨jb19, ja20, jc21, jr22, s10, rfl, ho23, hs10, rfl⟩
 refine GL_fin (E':=[⟨4,[],pt jb19⟩,⟨5,[],.int .i64 0⟩]) [0,0,0,0,0] [4,5] rfl kr ?_
 refine N_then ?_
 refine G_seq ?_
 refine G_region ?_
 refine GL_call (i:=0) (ch:=[]) (f:=10) (fst:=#[]) (caps:=#[]) (vs:=[.pointer none,.string (ByteArray.mk #[106])]) rfl rfl rfl kr kr Tryz.func10 rfl rfl kr kr (chSure_of kr) (openNil_ _ _ _) ?_
 rintro v H' ⟨rfl, rfl⟩
 refine GL_fin (E':=[⟨4,[],pt jb19⟩,⟨5,[],.int .i64 0⟩,⟨7,[],.int .i64 1⟩]) [0,0,0,0,0] [4,5,7] rfl kr ?_
 refine N_then ?_
 refine G_seq ?_
 refine G_region ?_
 refine GL_pure (E':=[⟨49,[(48,true)],pt jb19⟩,⟨48,[],.bool true⟩,⟨4,[],pt jb19⟩,⟨7,[],.int .i64 1⟩]) [0,0,0,0] kr (j:=4) rfl ?_
 refine GL_call (i:=4) (ch:=[(48,true)]) (f:=15) (fst:=#[]) (caps:=#[]) (vs:=[pt jb19]) rfl rfl rfl kr kr Tryz.func15 rfl rfl kr kr (chSure_of kr) (jRecords g_s2 jb19 d1 ho23 _ _) ?_
 rintro v H' ⟨la24, lc25, lg26, rfl, hrd27, rfl⟩
 refine GL_buildSlice (i:=5) (ch:=[(48,true)]) (e:=9) (l:=[(0,.string (ByteArray.mk #[97])),(1,.string (ByteArray.mk #[98]))]) (c:=[.string (ByteArray.mk #[97]),.string (ByteArray.mk #[98])]) rfl rfl kr kr kr kr kr (fun b28=>?_)
 refine GL_callQ (i:=6) (ch:=[(48,true)]) (f:=14) (fst:=#[]) (caps:=#[]) (vs:=[.slice la24 fJ2.L.length lc25,.slice (some ⟨b28,0,none⟩) 2 2]) (v:=.bool (decide (fJ2.L = [(ByteArray.mk #[97]),(ByteArray.mk #[98])]))) rfl rfl rfl kr kr Tryz.func14 rfl rfl kr kr kr (fun hc=>same_ la24 lc25 fJ2.L (inG lg26) hrd27 (by decide) (some ⟨b28,0,none⟩) 2 ([(ByteArray.mk #[97]),(ByteArray.mk #[98])]) (inG [(b28,.cells #[.string (ByteArray.mk #[97]),.string (ByteArray.mk #[98])] 9 (0,0))]) Rd.lit (by decide) _ _ (at_inG 1 rfl) (at_inG 0 rfl)) ?_
 refine GL_env (E':=[⟨52,[(48,true)],.bool true⟩,⟨51,[(48,true)],.slice (some ⟨b28,0,none⟩) 2 2⟩,⟨50,[(48,true)],.slice la24 fJ2.L.length lc25⟩,⟨49,[(48,true)],pt jb19⟩,⟨48,[],.bool true⟩,⟨4,[],pt jb19⟩,⟨7,[],.int .i64 1⟩]) (by have hz : ([⟨52,[(48,true)],.bool (decide (fJ2.L = [(ByteArray.mk #[97]),(ByteArray.mk #[98])]))⟩,⟨51,[(48,true)],.slice (some ⟨b28,0,none⟩) 2 2⟩,⟨50,[(48,true)],.slice la24 fJ2.L.length lc25⟩,⟨49,[(48,true)],pt jb19⟩,⟨48,[],.bool true⟩,⟨4,[],pt jb19⟩,⟨7,[],.int .i64 1⟩] : List Sl) = [⟨52,[(48,true)],.bool true⟩,⟨51,[(48,true)],.slice (some ⟨b28,0,none⟩) 2 2⟩,⟨50,[(48,true)],.slice la24 fJ2.L.length lc25⟩,⟨49,[(48,true)],pt jb19⟩,⟨48,[],.bool true⟩,⟨4,[],pt jb19⟩,⟨7,[],.int .i64 1⟩]:=(by rw [show decide (fJ2.L = [(ByteArray.mk #[97]),(ByteArray.mk #[98])]) = true from by decide +kernel]); exact Eq.trans kr hz) ?_
 refine GL_pure (E':=[⟨55,[(54,true)],pt jb19⟩,⟨54,[],.bool true⟩,⟨4,[],pt jb19⟩,⟨7,[],.int .i64 1⟩]) [2,0,0] kr (j:=10) rfl ?_
 refine GL_heap rfl (H':=((jAt jb19 d1 fJ2 ja20 jc21)::[(b28,.cells #[.string (ByteArray.mk #[97]),.string (ByteArray.mk #[98])] 9 (0,0))]::lg26::jr22::(jAt jb2 d1 fJ2 ja15 jc16)::jr17::(s10.G d1 gM2++H))) (fun w h=>(h.front (j:=2) rfl)) ?_
 refine GL_call (i:=10) (ch:=[(54,true)]) (f:=16) (fst:=#[]) (caps:=#[]) (vs:=[pt jb19]) rfl rfl rfl kr kr Tryz.func16 rfl rfl kr kr (chSure_of kr) (jSize jb19 d1 (a:=ja20) (c:=jc21) _ _) ?_
 rintro v H' ⟨rfl, rfl⟩
 refine GL_pure (E':=[⟨60,[(59,true)],pt jb19⟩,⟨59,[],.bool true⟩,⟨4,[],pt jb19⟩,⟨7,[],.int .i64 1⟩]) [0,2,0,0] kr (j:=15) rfl ?_
 refine GL_buildSlice (i:=15) (ch:=[(59,true)]) (e:=9) (l:=[(0,.string (ByteArray.mk #[99]))]) (c:=[.string (ByteArray.mk #[99])]) rfl rfl kr kr kr kr kr (fun b29=>?_)
 refine GL_heap rfl (H':=((jAt jb19 d1 fJ2 ja20 jc21)::jr22::[(b29,.cells #[.string (ByteArray.mk #[99])] 9 (0,0))]::[(b28,.cells #[.string (ByteArray.mk #[97]),.string (ByteArray.mk #[98])] 9 (0,0))]::lg26::(jAt jb2 d1 fJ2 ja15 jc16)::jr17::(s10.G d1 gM2++H))) (fun w h=>((h.front (j:=4) rfl).front (j:=2) rfl)) ?_
 refine GL_call (i:=16) (ch:=[(59,true)]) (f:=18) (fst:=#[]) (caps:=#[]) (vs:=[pt jb19,.slice (some ⟨b29,0,none⟩) 1 1]) rfl rfl rfl kr kr Tryz.func18 rfl rfl kr kr (chSure_of kr) (jRep (ts:=[(ByteArray.mk #[99])]) hs10 g_r2 g_s2 (Nat.le_trans (Nat.le_of_eq zC) (by omega)) f_rep ([[(b29,.cells #[.string (ByteArray.mk #[99])] 9 (0,0))],[(b28,.cells #[.string (ByteArray.mk #[97]),.string (ByteArray.mk #[98])] 9 (0,0))],lg26,(jAt jb2 d1 fJ2 ja15 jc16),jr17] : List Grp) jb19 d1 ho23 (some ⟨b29,0,none⟩) 1 (inG [(b29,.cells #[.string (ByteArray.mk #[99])] 9 (0,0))]) Rd.lit (fun h=>by cases h) _ H (at_inG 1 rfl)) ?_
 rintro v H' ⟨ja30, jc31, jr32, s12, rfl, ho33, hs12, rfl⟩
 refine GL_pure (E':=[⟨66,[(65,true)],pt jb19⟩,⟨65,[],.bool true⟩,⟨7,[],.int .i64 1⟩]) [0,2,0,0] kr (j:=21) rfl ?_
 refine GL_call (i:=21) (ch:=[(65,true)]) (f:=15) (fst:=#[]) (caps:=#[]) (vs:=[pt jb19]) rfl rfl rfl kr kr Tryz.func15 rfl rfl kr kr (chSure_of kr) (jRecords g_s3 jb19 d1 ho33 _ _) ?_
 rintro v H' ⟨la34, lc35, lg36, rfl, hrd37, rfl⟩
 refine GL_buildSlice (i:=22) (ch:=[(65,true)]) (e:=9) (l:=[(0,.string (ByteArray.mk #[99]))]) (c:=[.string (ByteArray.mk #[99])]) rfl rfl kr kr kr kr kr (fun b38=>?_)
 refine GL_callQ (i:=23) (ch:=[(65,true)]) (f:=14) (fst:=#[]) (caps:=#[]) (vs:=[.slice la34 fJ3.L.length lc35,.slice (some ⟨b38,0,none⟩) 1 1]) (v:=.bool (decide (fJ3.L = [(ByteArray.mk #[99])]))) rfl rfl rfl kr kr Tryz.func14 rfl rfl kr kr kr (fun hc=>same_ la34 lc35 fJ3.L (inG lg36) hrd37 (by decide) (some ⟨b38,0,none⟩) 1 ([(ByteArray.mk #[99])]) (inG [(b38,.cells #[.string (ByteArray.mk #[99])] 9 (0,0))]) Rd.lit (by decide) _ _ (at_inG 1 rfl) (at_inG 0 rfl)) ?_
 refine GL_env (E':=[⟨69,[(65,true)],.bool true⟩,⟨68,[(65,true)],.slice (some ⟨b38,0,none⟩) 1 1⟩,⟨67,[(65,true)],.slice la34 fJ3.L.length lc35⟩,⟨66,[(65,true)],pt jb19⟩,⟨65,[],.bool true⟩,⟨7,[],.int .i64 1⟩]) (by have hz : ([⟨69,[(65,true)],.bool (decide (fJ3.L = [(ByteArray.mk #[99])]))⟩,⟨68,[(65,true)],.slice (some ⟨b38,0,none⟩) 1 1⟩,⟨67,[(65,true)],.slice la34 fJ3.L.length lc35⟩,⟨66,[(65,true)],pt jb19⟩,⟨65,[],.bool true⟩,⟨7,[],.int .i64 1⟩] : List Sl) = [⟨69,[(65,true)],.bool true⟩,⟨68,[(65,true)],.slice (some ⟨b38,0,none⟩) 1 1⟩,⟨67,[(65,true)],.slice la34 fJ3.L.length lc35⟩,⟨66,[(65,true)],pt jb19⟩,⟨65,[],.bool true⟩,⟨7,[],.int .i64 1⟩]:=(by rw [show decide (fJ3.L = [(ByteArray.mk #[99])]) = true from by decide +kernel]); exact Eq.trans kr hz) ?_
 refine GL_fin (E':=[⟨0,[],.bool true⟩]) [2,0,0,0,2,0] [0] rfl kr ?_
 refine N_then ?_
 refine G_ret ?_
 refine N_ret [.tmp 0] [.bool true] rfl kr rfl ?_
 exact ⟨rfl, [[(b38, .cells #[.string (ByteArray.mk #[99])] 9 (0, 0))], lg36, (jAt jb19 d1 fJ3 ja30 jc31), jr32, [(b29, .cells #[.string (ByteArray.mk #[99])] 9 (0, 0))], [(b28, .cells #[.string (ByteArray.mk #[97]), .string (ByteArray.mk #[98])] 9 (0, 0))], lg26, (jAt jb2 d1 fJ2 ja15 jc16), jr17] ++ s12.G d1 gM3, by simp⟩
end Go.Proofs.YtlaoeiaaeifidaaGreat
namespace Go.Proofs.YtlaoeiaaeifidaaGreat
open Go.Sw Go.Lib Go.Vf Go.Sha Go.Jr Go.RowKit
theorem long_hit {o : OpJ} {k : Nat} (hk : k < o.l.length) (h : 1000 < (o.l.getD k default).size) : longJ o = true := by
  unfold longJ
  rw [Bool.or_eq_true]
  refine .inl (List.any_eq_true.2 ⟨o.l.getD k default, ?_, by rw [decide_eq_true_iff]; omega⟩)
  rw [List.getD, List.getElem?_eq_getElem hk]; exact List.getElem_mem hk
theorem long_rest {o : OpJ} {k : Nat} (hk : o.l.length ≤ k) (h : ∀ j, j < k → (o.l.getD j default).size ≤ 1000) : longJ o = ((decide ((o.t.size : Int) > 1000) || decide (((o.l.length : Nat) : Int) > 20)) || decide (((o.k.length : Nat) : Int) > 50)) := by
  unfold longJ
  have : o.l.any (fun t => decide ((t.size : Int) > 1000)) = false := by
    rw [List.any_eq_false]
    intro t ht
    obtain ⟨j, hj, rfl⟩ := List.getElem_of_mem ht
    have := h j (by omega)
    rw [List.getD, List.getElem?_eq_getElem hj] at this
    rw [decide_eq_true_iff]
    have e : (some o.l[j]).getD (default : ByteArray) = o.l[j] := rfl
    rw [e] at this; omega
  rw [this, Bool.false_or]
theorem le_succ {o : OpJ} {k : Nat} (h : ∀ j, j < k → (o.l.getD j default).size ≤ 1000) (hk : (o.l.getD k default).size ≤ 1000) : ∀ j, j < k + 1 → (o.l.getD j default).size ≤ 1000 := fun j hj => by
  rcases Nat.lt_or_ge j k with h' | h'
  · exact h j h'
  · have : j = k := by omega
    subst this; exact hk
theorem k_open0 : openM (newM 1048576) dJ = (0, some (jOf [] false), newM 1048576) := open_fresh goodJ (by rw [new0 (by decide)]; rfl)
theorem k_sc0 (n : Int) (hn : -9223372036854775808 ≤ n ∧ n ≤ 9223372036854775807) : Scr 1100 50 (failM (newM 1048576) n false) := scr_fail ((scr_new 1100 1048576).mono (show 0 ≤ 49 by omega)) hn false
theorem own_fst {e : TypeId} {a : Option Addr} {n c : Nat} {g g2 : Grp} {cs : List Value} (h : Go.Sw.Own e 1 (.slice a n c) g n cs) : Rd (inG (g ++ g2)) a cs := Rd.mono (own_rd h) fun b o hb => List.mem_append_left _ hb
theorem own_snd {e : TypeId} {a : Option Addr} {n c : Nat} {g g2 : Grp} {cs : List Value} (h : Go.Sw.Own e 1 (.slice a n c) g n cs) : Rd (inG (g2 ++ g)) a cs := Rd.mono (own_rd h) fun b o hb => List.mem_append_right _ hb
theorem long_ (o : OpJ) (S : Nat → Obj → Prop) (W0 : World) (H : List Grp) (hO : OpOkJ S W0 [] o) : Tri Tryz.prog 21 #[.agg #[.int .i64 o.kind, .int .i64 o.n, .string o.t, .slice o.la o.l.length o.lc, .slice o.ka o.k.length o.kc]] W0 H (fun v H' => v = .bool (longJ o) ∧ H' = H) := by
 have hll := hO.ll
 have hkl := hO.kl
 refine Tri_of (args := [.agg #[.int .i64 o.kind, .int .i64 o.n, .string o.t, .slice o.la o.l.length o.lc, .slice o.ka o.k.length o.kc]]) (n := 32) Tryz.func21 rfl rfl (Nat.le_of_ble_eq_true rfl) ?_
 refine G_seq ?_
 refine G_region ?_
 refine GL_box (i:=0) (ch:=[]) (v:=.agg #[.int .i64 o.kind,.int .i64 o.n,.string o.t,.slice o.la o.l.length o.lc,.slice o.ka o.k.length o.kc]) rfl rfl kr kr kr kr (fun b1=>?_)
 refine GL_fin (E':=[⟨1,[],pt b1⟩]) [0] [1] rfl kr ?_
 refine N_then ?_
 refine G_seq ?_
 refine G_seq ?_
 refine G_region ?_
 refine GL_pure (E':=[⟨5,[],.pointer (some ⟨b1,3,none⟩)⟩,⟨1,[],pt b1⟩]) [0] kr (j:=1) rfl ?_
 refine GL_load (i:=1) (ch:=[]) (b:=b1) (off:=3) (v:=.slice o.la o.l.length o.lc) rfl rfl kr kr kr kr kr (At.grp 0 0 rfl rfl) rfl ?_
 refine GL_fin (E':=[⟨1,[],pt b1⟩,⟨6,[],.slice o.la o.l.length o.lc⟩,⟨7,[],.int .i64 ((o.l.length : Nat) : Int)⟩,⟨8,[],.int .i64 0⟩]) [0,0] [1,6,7,8] rfl kr ?_
 refine N_then ?_
 refine G_block ?_
 refine G_loop (EI:=(fun ξ : Nat=>[⟨1,[],pt b1⟩,⟨6,[],.slice o.la o.l.length o.lc⟩,⟨7,[],.int .i64 ((o.l.length : Nat) : Int)⟩,⟨8,[],.int .i64 ((ξ : Nat) : Int)⟩])) (HI:=(fun ξ : Nat=>([(b1,.cells #[.int .i64 o.kind,.int .i64 o.n,.string o.t,.slice o.la o.l.length o.lc,.slice o.ka o.k.length o.kc] 51 (0,0))]::H))) (Φ:=(fun ξ : Nat=>(ξ ≤ o.l.length)∧(∀ j,j < ξ → (o.l.getD j default).size ≤ 1000))) (μ:=(fun ξ : Nat=>o.l.length - ξ)) (s0:=(0)) [1,6,7,8] kr rfl ⟨(by omega),(fun j h=>absurd h (Nat.not_lt_zero j))⟩ ?_
 rintro k ⟨hk, hA⟩
 refine G_seq ?_
 refine G_pure (E':=[⟨1,[],pt b1⟩,⟨6,[],.slice o.la o.l.length o.lc⟩,⟨7,[],.int .i64 ((o.l.length : Nat) : Int)⟩,⟨8,[],.int .i64 ((k : Nat) : Int)⟩,⟨9,[],.bool (decide (((k : Nat) : Int) < ((o.l.length : Nat) : Int)))⟩]) [0] [1,6,7,8,9] rfl kr ?_
 refine N_then ?_
 refine G_seq ?_
 refine G_cond (b:=decide (((k : Nat) : Int) < ((o.l.length : Nat) : Int))) kr (fun hc2=>?_) (fun hc2=>?_)
 ·
  simp at hc2
  refine G_skip ?_
  refine N_then ?_
  refine G_seq ?_
  refine G_block ?_
  refine G_seq ?_
  refine G_region ?_
  refine GL_indexAddr (i:=0) (ch:=[]) (a:=o.la) (len:=o.l.length) (cap:=o.lc) (kd:=.i64) (j:=((k : Nat) : Int)) (e:=9) (sz:=1) (S:=S) (cs:=(strs o.l)) rfl rfl kr kr kr kr kr kr kr hO.l (fun _=>by exact ⟨by omega,by omega,strs_ne (by omega)⟩) ?_
  refine GL_loadS (i:=1) (ch:=[]) (a:=o.la) (q:=k * 1) (S:=S) (cs:=(strs o.l)) (v:=.string (o.l.getD k default)) rfl rfl kr kr kr kr kr hO.l (fun y o h=>at_up (hO.at_ y o h)) (fun _=>(by rw [Nat.mul_one]; exact strs_at (by omega))) ?_
  refine GL_fin (E':=[⟨1,[],pt b1⟩,⟨4,[],.string (o.l.getD k default)⟩,⟨6,[],.slice o.la o.l.length o.lc⟩,⟨7,[],.int .i64 ((o.l.length : Nat) : Int)⟩,⟨8,[],.int .i64 ((k : Nat) : Int)⟩]) [0] [1,4,6,7,8] rfl kr ?_
  refine N_then ?_
  refine G_seq ?_
  refine G_pure (E':=[⟨1,[],pt b1⟩,⟨6,[],.slice o.la o.l.length o.lc⟩,⟨7,[],.int .i64 ((o.l.length : Nat) : Int)⟩,⟨8,[],.int .i64 ((k : Nat) : Int)⟩,⟨14,[],.bool (decide (((o.l.getD k default).size : Int) > 1000))⟩]) [0,0,0] [1,6,7,8,14] rfl kr ?_
  refine N_then ?_
  refine G_cond (b:=decide (((o.l.getD k default).size : Int) > 1000)) kr (fun hc3=>?_) (fun hc3=>?_)
  ·
   have hlg : 1000 < (o.l.getD k default).size := by (have := of_decide_eq_true hc3; omega)
   refine G_seq ?_
   refine G_pure (E':=[⟨2,[],.bool true⟩]) [0] [2] rfl kr ?_
   refine N_then ?_
   refine G_ret ?_
   refine N_block_ret ?_
   refine N_then_ret ?_
   refine N_then_ret ?_
   refine N_block_ret ?_
   refine N_then_ret ?_
   refine N_heap (H':=H) (fun w h=>h.erase 0) ?_
   refine N_ret [.tmp 2] [.bool true] rfl kr rfl ?_
   exact ⟨by rw [long_hit (by omega) hlg]; rfl, rfl⟩
  ·
   have hle : (o.l.getD k default).size ≤ 1000 := by (have := of_decide_eq_false hc3; omega)
   refine G_skip ?_
   refine N_block ?_
   refine N_then ?_
   have hw4 : IntKind.wrap .i64 (((k : Nat) : Int) + 1) = ((k : Nat) : Int) + 1 := w64 (by omega) (by omega)
   refine G_pure (E':=[⟨1,[],pt b1⟩,⟨6,[],.slice o.la o.l.length o.lc⟩,⟨7,[],.int .i64 ((o.l.length : Nat) : Int)⟩,⟨8,[],.int .i64 (((k : Nat) : Int)+1)⟩]) [0,0] [1,6,7,8] rfl (Eq.trans (b:=some [⟨1,[],pt b1⟩,⟨6,[],.slice o.la o.l.length o.lc⟩,⟨7,[],.int .i64 ((o.l.length : Nat) : Int)⟩,⟨8,[],.int .i64 (IntKind.wrap .i64 (((k : Nat) : Int)+1))⟩]) kr (by simp only [hw4])) ?_
   refine N_round (s':=(k+1)) [1,6,7,8] kr rfl ⟨(by omega),(le_succ hA hle)⟩ (by omega)
 ·
  simp at hc2
  refine G_exit ?_
  refine N_then_exit ?_
  refine N_then_exit ?_
  refine N_block_exit ?_
  refine N_then ?_
  refine G_seq ?_
  refine G_region ?_
  refine GL_pure (E':=[⟨16,[],.pointer (some ⟨b1,2,none⟩)⟩,⟨1,[],pt b1⟩]) [0] kr (j:=1) rfl ?_
  refine GL_load (i:=1) (ch:=[]) (b:=b1) (off:=2) (v:=.string o.t) rfl rfl kr kr kr kr kr (At.grp 0 0 rfl rfl) rfl ?_
  refine GL_pure (E':=[⟨21,[(20,false)],.pointer (some ⟨b1,3,none⟩)⟩,⟨20,[],.bool (decide ((o.t.size : Int) > 1000))⟩,⟨1,[],pt b1⟩]) [0,0,0,0] kr (j:=6) rfl ?_
  refine GL_load (i:=6) (ch:=[(20,false)]) (b:=b1) (off:=3) (v:=.slice o.la o.l.length o.lc) rfl rfl kr kr kr kr kr (At.grp 0 0 rfl rfl) rfl ?_
  refine GL_pure (E':=[⟨27,[(26,false)],.pointer (some ⟨b1,4,none⟩)⟩,⟨26,[],.bool ((decide ((o.t.size : Int) > 1000))||(decide (((o.l.length : Nat) : Int) > 20)))⟩]) [0,0,5,0,0] kr (j:=12) rfl ?_
  refine GL_load (i:=12) (ch:=[(26,false)]) (b:=b1) (off:=4) (v:=.slice o.ka o.k.length o.kc) rfl rfl kr kr kr kr kr (At.grp 0 0 rfl rfl) rfl ?_
  refine GL_fin (E':=[⟨2,[],.bool (((decide ((o.t.size : Int) > 1000))||(decide (((o.l.length : Nat) : Int) > 20)))||(decide (((o.k.length : Nat) : Int) > 50)))⟩]) [0,0,5,0] [2] rfl kr ?_
  refine N_then ?_
  refine G_ret ?_
  refine N_heap (H':=H) (fun w h=>h.erase 0) ?_
  refine N_ret [.tmp 2] [.bool (((decide ((o.t.size : Int) > 1000))||(decide (((o.l.length : Nat) : Int) > 20)))||(decide (((o.k.length : Nat) : Int) > 50)))] rfl kr rfl ?_
  exact ⟨by rw [long_rest (by omega) hA]; rfl, rfl⟩
set_option maxRecDepth 4000 in
set_option maxHeartbeats 4000000 in
theorem journalKeeps_ (ao ka : Option Addr) (co kc : Nat) (So Sk : Nat → Obj → Prop) (ops : List OpJ) (at0 at1 : Int) (l : List Int) (W0 : World) (hro : Rd So ao (ops.flatMap opCellsJ)) (hol : ops.length ≤ 9223372036854775807) (hos : ∀ o ∈ ops, OpOkJ So W0 [] o) (hSo : ∀ y o, So y o → At W0 [] y o) (hK1 : Rd Sk ka (l.map (Value.int .i64))) (hK2 : l.length ≤ kc) (hK3 : ∀ x ∈ l, -9223372036854775808 ≤ x ∧ x ≤ 9223372036854775807) (hK4 : l.length ≤ 9223372036854775807) (hSk : ∀ y o, Sk y o → At W0 [] y o) (H : List Grp) : Tri Tryz.prog 5 #[.slice ao ops.length co, .agg #[.int .i64 at0, .int .i64 at1], .slice ka l.length kc] W0 H (fun v H' => v = .bool true ∧ ∃ G, H' = G ++ H) := by
 refine Tri_of (args := [.slice ao ops.length co, .agg #[.int .i64 at0, .int .i64 at1], .slice ka l.length kc]) (n := 114) Tryz.func5 rfl rfl (Nat.le_of_ble_eq_true rfl) ?_
 refine G_seq ?_
 refine G_region ?_
 refine GL_box (i:=0) (ch:=[]) (v:=.agg #[.int .i64 at0,.int .i64 at1]) rfl rfl kr kr kr kr (fun b1=>?_)
 refine GL_fin (E':=[⟨0,[],.slice ao ops.length co⟩,⟨2,[],.slice ka l.length kc⟩,⟨4,[],pt b1⟩]) [0] [0,2,4] rfl kr ?_
 refine N_then ?_
 refine G_seq ?_
 refine G_seq ?_
 refine G_region ?_
 refine GL_call (i:=0) (ch:=[]) (f:=7) (fst:=#[]) (caps:=#[]) (vs:=[]) rfl rfl rfl kr kr Tryz.func7 rfl rfl kr kr (chSure_of kr) (jFirst _ _) ?_
 rintro v H' ⟨rfl, G, rfl⟩
 refine GL_heap rfl (H':=([(b1,.cells #[.int .i64 at0,.int .i64 at1] 64 (0,0))]::(G++H))) (fun w h=>h.perm List.perm_middle) ?_
 refine GL_fin (E':=[⟨0,[],.slice ao ops.length co⟩,⟨2,[],.slice ka l.length kc⟩,⟨4,[],pt b1⟩,⟨18,[],.bool false⟩]) [0] [0,2,4,18] rfl kr ?_
 refine N_then ?_
 refine G_condf kr ?_
 refine G_skip ?_
 refine N_then ?_
 refine G_seq ?_
 refine G_seq ?_
 refine G_pure (E':=[⟨0,[],.slice ao ops.length co⟩,⟨2,[],.slice ka l.length kc⟩,⟨4,[],pt b1⟩,⟨21,[],.bool (decide (((l.length : Nat) : Int) > 50))⟩]) [0,0,0] [0,2,4,21] rfl kr ?_
 refine N_then ?_
 refine G_cond (b:=decide (((l.length : Nat) : Int) > 50)) kr (fun hc2=>?_) (fun hc2=>?_)
 ·
  skip
  refine G_seq ?_
  refine G_pure (E':=[⟨6,[],.bool true⟩]) [0] [6] rfl kr ?_
  refine N_then ?_
  refine G_ret ?_
  refine N_then_ret ?_
  refine N_ret [.tmp 6] [.bool true] rfl kr rfl ?_
  exact ⟨rfl, [[(b1, .cells #[.int .i64 at0, .int .i64 at1] 64 (0, 0))]] ++ G, by simp⟩
 ·
  replace hc2 := of_decide_eq_false hc2
  have hK : KsOk Sk ⟨l, ka, kc⟩ := ⟨hK1, hK2, by (show l.length ≤ 1000000000; omega), hK3⟩
  refine G_skip ?_
  refine N_then ?_
  refine G_seq ?_
  refine G_region ?_
  refine GL_call (i:=0) (ch:=[]) (f:=8) (fst:=#[]) (caps:=#[]) (vs:=[.int .i64 1048576]) rfl rfl rfl kr kr Tryz.func8 rfl rfl kr kr (chSure_of kr) (dNew 1048576 (M:=(newM 1048576)) _ _ rfl) ?_
  rintro v H' ⟨d3, rfl, s1, hs1, rfl⟩
  refine GL_heap rfl (H':=([(b1,.cells #[.int .i64 at0,.int .i64 at1] 64 (0,0))]::(s1.G d3 (newM 1048576)++(G++H)))) (fun w h=>h.perm List.perm_middle) ?_
  refine GL_fin (E':=[⟨0,[],.slice ao ops.length co⟩,⟨2,[],.slice ka l.length kc⟩,⟨4,[],pt b1⟩,⟨7,[],pt d3⟩]) [0] [0,2,4,7] rfl kr ?_
  refine N_then ?_
  refine G_seq ?_
  refine G_region ?_
  refine GL_pure (E':=[⟨24,[],pt d3⟩,⟨0,[],.slice ao ops.length co⟩,⟨2,[],.slice ka l.length kc⟩,⟨4,[],pt b1⟩,⟨7,[],pt d3⟩]) [0] kr (j:=1) rfl ?_
  refine GL_call (i:=1) (ch:=[]) (f:=10) (fst:=#[]) (caps:=#[]) (vs:=[pt d3,.string (ByteArray.mk #[106])]) rfl rfl rfl kr kr Tryz.func10 rfl rfl kr kr (chSure_of kr) (jOpen hs1 (roomy_new (by decide)) (by decide) k_open0 ([[(b1,.cells #[.int .i64 at0,.int .i64 at1] 64 (0,0))]] : List Grp) d3 _ (G++H)) ?_
  rintro v H' ⟨jb4, ja5, jc6, jr7, s2, rfl, ho8, hs2, rfl⟩
  refine GL_fin (E':=[⟨0,[],.slice ao ops.length co⟩,⟨2,[],.slice ka l.length kc⟩,⟨4,[],pt b1⟩,⟨7,[],pt d3⟩,⟨8,[],pt jb4⟩]) [0,0,0,0,0] [0,2,4,7,8] rfl kr ?_
  refine N_then ?_
  refine G_seq ?_
  refine G_region ?_
  refine GL_pure (E':=[⟨28,[],pt d3⟩,⟨0,[],.slice ao ops.length co⟩,⟨2,[],.slice ka l.length kc⟩,⟨4,[],pt b1⟩,⟨7,[],pt d3⟩,⟨8,[],pt jb4⟩]) [0] kr (j:=1) rfl ?_
  refine GL_indexArr (i:=1) (ch:=[]) (b:=b1) (off:=0) (len:=2) (sz:=1) (e:=3) (kd:=.i64) (j:=0) rfl rfl kr kr kr kr kr kr kr (fun _=>⟨by decide,by decide⟩) ?_
  refine GL_load (i:=2) (ch:=[]) (b:=b1) (off:=0) (v:=.int .i64 at0) rfl rfl kr kr kr kr kr (At.grp 2 0 rfl rfl) rfl ?_
  refine GL_pure (E':=[⟨33,[],.int .i64 (IntKind.wrap .i64 (Int.tmod (IntKind.wrap .u64 at0) 40))⟩,⟨28,[],pt d3⟩,⟨0,[],.slice ao ops.length co⟩,⟨2,[],.slice ka l.length kc⟩,⟨4,[],pt b1⟩,⟨7,[],pt d3⟩,⟨8,[],pt jb4⟩]) [0,0,0] kr (j:=6) rfl ?_
  refine GL_call (i:=6) (ch:=[]) (f:=24) (fst:=#[]) (caps:=#[]) (vs:=[pt d3,.int .i64 (IntKind.wrap .i64 (Int.tmod (IntKind.wrap .u64 at0) 40)),.bool false]) rfl rfl rfl kr kr Tryz.func24 rfl rfl kr kr (chSure_of kr) (dFail hs2 d3 (IntKind.wrap .i64 (Int.tmod (IntKind.wrap .u64 at0) 40)) false [(jAt jb4 d3 (jOf [] false) ja5 jc6),jr7,[(b1,.cells #[.int .i64 at0,.int .i64 at1] 64 (0,0))]] _ (G++H) rfl) ?_
  rintro v H' ⟨rfl, s3, hs3, rfl⟩
  refine GL_fin (E':=[⟨0,[],.slice ao ops.length co⟩,⟨2,[],.slice ka l.length kc⟩,⟨4,[],pt b1⟩,⟨7,[],pt d3⟩,⟨8,[],pt jb4⟩]) [] [0,2,4,7,8] rfl kr ?_
  refine N_then ?_
  refine G_seq ?_
  refine G_pure (E':=[⟨0,[],.slice ao ops.length co⟩,⟨2,[],.slice ka l.length kc⟩,⟨4,[],pt b1⟩,⟨7,[],pt d3⟩,⟨8,[],pt jb4⟩,⟨10,[],.slice none 0 0⟩,⟨11,[],.slice none 0 0⟩]) [0,0] [0,2,4,7,8,10,11] rfl kr ?_
  refine N_then ?_
  refine G_seq ?_
  refine G_seq ?_
  refine G_pure (E':=[⟨2,[],.slice ka l.length kc⟩,⟨4,[],pt b1⟩,⟨7,[],pt d3⟩,⟨8,[],pt jb4⟩,⟨10,[],.slice none 0 0⟩,⟨11,[],.slice none 0 0⟩,⟨35,[],.slice ao ops.length co⟩,⟨36,[],.int .i64 ((ops.length : Nat) : Int)⟩,⟨37,[],.int .i64 0⟩]) [0,0,0] [2,4,7,8,10,11,35,36,37] rfl kr ?_
  refine N_then ?_
  refine G_join (T:=List ByteArray × List ByteArray × DS × DM × Option Addr × Nat × Option Addr × Nat × Grp) (fun ξ : List ByteArray × List ByteArray × DS × DM × Option Addr × Nat × Option Addr × Nat × Grp=>[⟨2,[],.slice ka l.length kc⟩,⟨4,[],pt b1⟩,⟨7,[],pt d3⟩,⟨10,[],.slice ξ.2.2.2.2.1 ξ.1.length ξ.2.2.2.2.2.1⟩,⟨11,[],.slice ξ.2.2.2.2.2.2.1 ξ.2.1.length ξ.2.2.2.2.2.2.2.1⟩]) (fun ξ : List ByteArray × List ByteArray × DS × DM × Option Addr × Nat × Option Addr × Nat × Grp=>(ξ.2.2.2.2.2.2.2.2::[(b1,.cells #[.int .i64 at0,.int .i64 at1] 64 (0,0))]::(ξ.2.2.1.G d3 ξ.2.2.2.1++(G++H)))) (fun ξ : List ByteArray × List ByteArray × DS × DM × Option Addr × Nat × Option Addr × Nat × Grp=>(Crash2 ξ.1 ξ.2.1 ξ.2.2.2.1)∧(Scr 1100 200 ξ.2.2.2.1)∧(ξ.2.2.1.ok ξ.2.2.2.1)∧(Rd (inG ξ.2.2.2.2.2.2.2.2) ξ.2.2.2.2.1 (strs ξ.1))∧(Rd (inG ξ.2.2.2.2.2.2.2.2) ξ.2.2.2.2.2.2.1 (strs ξ.2.1))∧(ξ.1.length ≤ 100000)∧(ξ.2.1.length ≤ 100000)) ?_ ?_
  ·
   refine G_block ?_
   refine G_heap (H':=((jAt jb4 d3 (jOf [] false) ja5 jc6)::jr7::[]::[(b1,.cells #[.int .i64 at0,.int .i64 at1] 64 (0,0))]::(s3.G d3 (failM (newM 1048576) (IntKind.wrap .i64 (Int.tmod (IntKind.wrap .u64 at0) 40)) false)++(G++H)))) (fun w h=>Sat.flat h (List.Perm.refl _)) ?_
   refine G_loop (EI:=(fun ξ : Nat × List ByteArray × Bool × DS × DM × Option Addr × Nat × Grp × Option Addr × Nat × Grp=>[⟨2,[],.slice ka l.length kc⟩,⟨4,[],pt b1⟩,⟨7,[],pt d3⟩,⟨8,[],pt jb4⟩,⟨10,[],.slice ξ.2.2.2.2.2.2.2.2.1 ξ.2.1.length ξ.2.2.2.2.2.2.2.2.2.1⟩,⟨11,[],.slice ξ.2.2.2.2.2.2.2.2.1 ξ.2.1.length ξ.2.2.2.2.2.2.2.2.2.1⟩,⟨35,[],.slice ao ops.length co⟩,⟨36,[],.int .i64 ((ops.length : Nat) : Int)⟩,⟨37,[],.int .i64 ((ξ.1 : Nat) : Int)⟩])) (HI:=(fun ξ : Nat × List ByteArray × Bool × DS × DM × Option Addr × Nat × Grp × Option Addr × Nat × Grp=>((jAt jb4 d3 (jOf ξ.2.1 ξ.2.2.1) ξ.2.2.2.2.2.1 ξ.2.2.2.2.2.2.1)::ξ.2.2.2.2.2.2.2.1::ξ.2.2.2.2.2.2.2.2.2.2::[(b1,.cells #[.int .i64 at0,.int .i64 at1] 64 (0,0))]::(ξ.2.2.2.1.G d3 ξ.2.2.2.2.1++(G++H))))) (Φ:=(fun ξ : Nat × List ByteArray × Bool × DS × DM × Option Addr × Nat × Grp × Option Addr × Nat × Grp=>(ξ.1 ≤ ops.length)∧(ξ.1 ≤ 30)∧(Sett ξ.2.1 ξ.2.2.1 ξ.2.2.2.2.1)∧((linesB ξ.2.1).size ≤ 20360+1018 * ξ.1)∧(Scr 1100 (50+2 * ξ.1) ξ.2.2.2.2.1)∧(ξ.2.2.2.1.ok ξ.2.2.2.2.1)∧(JOwn (jOf ξ.2.1 ξ.2.2.1) ξ.2.2.2.2.2.1 ξ.2.2.2.2.2.2.1 ξ.2.2.2.2.2.2.2.1)∧(Go.Sw.Own 9 1 (.slice ξ.2.2.2.2.2.2.2.2.1 ξ.2.1.length ξ.2.2.2.2.2.2.2.2.2.1) ξ.2.2.2.2.2.2.2.2.2.2 ξ.2.1.length (strs ξ.2.1)))) (μ:=(fun ξ : Nat × List ByteArray × Bool × DS × DM × Option Addr × Nat × Grp × Option Addr × Nat × Grp=>ops.length - ξ.1)) (s0:=(0,[],false,s3,(failM (newM 1048576) (IntKind.wrap .i64 (Int.tmod (IntKind.wrap .u64 at0) 40)) false),ja5,jc6,jr7,none,0,[])) [2,4,7,8,10,11,35,36,37] kr rfl ⟨(by omega),(by omega),(sett_fail sett0 _),(Nat.zero_le _),(k_sc0 _ (i64_in _)),hs3,ho8,Go.Sw.Own.nil⟩ ?_
   rintro ⟨k, A, th, s, M, ja, jc, jr, na, nc, ng⟩ ⟨hk, hk30, hst, hAz, hsc, hs, ho_, hno⟩
   dsimp only at hk hk30 hst hAz hsc hs ho_ hno
   have hAl := lines_len A
   refine G_seq ?_
   refine G_pure (E':=[⟨2,[],.slice ka l.length kc⟩,⟨4,[],pt b1⟩,⟨7,[],pt d3⟩,⟨8,[],pt jb4⟩,⟨10,[],.slice na A.length nc⟩,⟨11,[],.slice na A.length nc⟩,⟨35,[],.slice ao ops.length co⟩,⟨36,[],.int .i64 ((ops.length : Nat) : Int)⟩,⟨37,[],.int .i64 ((k : Nat) : Int)⟩,⟨38,[],.bool (decide (((k : Nat) : Int) < ((ops.length : Nat) : Int)))⟩]) [0] [2,4,7,8,10,11,35,36,37,38] rfl kr ?_
   refine N_then ?_
   refine G_seq ?_
   refine G_cond (b:=decide (((k : Nat) : Int) < ((ops.length : Nat) : Int))) kr (fun hc9=>?_) (fun hc9=>?_)
   ·
    replace hc9 := of_decide_eq_true hc9
    obtain ⟨o, ho⟩ : ∃ o, o = ops.getD k default := ⟨_, rfl⟩
    have hO := hos o (by rw [ho]; exact opJ_mem (by omega))
    refine G_skip ?_
    refine N_then ?_
    refine G_seq ?_
    refine G_block ?_
    refine G_seq ?_
    refine G_region ?_
    refine GL_pure (E':=[⟨39,[],.int .i64 ((k : Nat) : Int)⟩,⟨2,[],.slice ka l.length kc⟩,⟨4,[],pt b1⟩,⟨7,[],pt d3⟩,⟨8,[],pt jb4⟩,⟨10,[],.slice na A.length nc⟩,⟨11,[],.slice na A.length nc⟩,⟨35,[],.slice ao ops.length co⟩,⟨36,[],.int .i64 ((ops.length : Nat) : Int)⟩,⟨37,[],.int .i64 ((k : Nat) : Int)⟩]) [0] kr (j:=1) rfl ?_
    refine GL_indexAddr (i:=1) (ch:=[]) (a:=ao) (len:=ops.length) (cap:=co) (kd:=.i64) (j:=((k : Nat) : Int)) (e:=51) (sz:=5) (S:=So) (cs:=(ops.flatMap opCellsJ)) rfl rfl kr kr kr kr kr kr kr hro (fun _=>by exact ⟨by omega,by omega,fun h=>by have:=congrArg List.length h; rw [opsJ_len] at this; have h0 : ops.length * 5 = 0:=this; omega⟩) ?_
    refine GL_loadSA (i:=2) (ch:=[]) (a:=ao) (q:=k * 5) (S:=So) (cs:=(ops.flatMap opCellsJ)) (l:=[.int .i64 o.kind,.int .i64 o.n,.string o.t,.slice o.la o.l.length o.lc,.slice o.ka o.k.length o.kc]) rfl rfl kr kr kr kr kr kr hro (fun y o h=>at_up (hSo y o h)) (List.cons_ne_nil _ _) (fun _=>(fun m hm=>(op_atJ (by omega) m hm).trans (by rw [← ho]; exact List.getElem?_eq_getElem (l:=opCellsJ o) hm))) ?_
    refine GL_alloc (i:=3) (ch:=[]) (z:=.agg #[.int .i64 0,.int .i64 0,.string (ByteArray.mk #[]),.slice none 0 0,.slice none 0 0]) rfl rfl kr kr kr kr (fun b10=>?_)
    refine GL_pure (E':=[⟨12,[],.int .i64 ((k : Nat) : Int)⟩,⟨13,[],pt b10⟩,⟨41,[],.agg #[.int .i64 o.kind,.int .i64 o.n,.string o.t,.slice o.la o.l.length o.lc,.slice o.ka o.k.length o.kc]⟩,⟨2,[],.slice ka l.length kc⟩,⟨4,[],pt b1⟩,⟨7,[],pt d3⟩,⟨8,[],pt jb4⟩,⟨10,[],.slice na A.length nc⟩,⟨11,[],.slice na A.length nc⟩,⟨35,[],.slice ao ops.length co⟩,⟨36,[],.int .i64 ((ops.length : Nat) : Int)⟩,⟨37,[],.int .i64 ((k : Nat) : Int)⟩]) [0] kr (j:=5) rfl ?_
    refine GL_store (i:=5) (ch:=[]) (b:=b10) (off:=0) (v:=.agg #[.int .i64 o.kind,.int .i64 o.n,.string o.t,.slice o.la o.l.length o.lc,.slice o.ka o.k.length o.kc]) (c:=#[.int .i64 0,.int .i64 0,.string (ByteArray.mk #[]),.slice none 0 0,.slice none 0 0]) (c':=#[.int .i64 o.kind,.int .i64 o.n,.string o.t,.slice o.la o.l.length o.lc,.slice o.ka o.k.length o.kc]) (j:=0) (m:=0) (H':=([(b10,.cells #[.int .i64 o.kind,.int .i64 o.n,.string o.t,.slice o.la o.l.length o.lc,.slice o.ka o.k.length o.kc] 51 (0,0))]::(jAt jb4 d3 (jOf A th) ja jc)::jr::ng::[(b1,.cells #[.int .i64 at0,.int .i64 at1] 64 (0,0))]::(s.G d3 M++(G++H)))) rfl rfl kr kr kr kr kr kr kr rfl rfl (Nat.le_of_ble_eq_true rfl) (fun _ _=>thaw0) kr kr ?_
    refine GL_fin (E':=[⟨2,[],.slice ka l.length kc⟩,⟨4,[],pt b1⟩,⟨7,[],pt d3⟩,⟨8,[],pt jb4⟩,⟨10,[],.slice na A.length nc⟩,⟨11,[],.slice na A.length nc⟩,⟨12,[],.int .i64 ((k : Nat) : Int)⟩,⟨13,[],pt b10⟩,⟨35,[],.slice ao ops.length co⟩,⟨36,[],.int .i64 ((ops.length : Nat) : Int)⟩,⟨37,[],.int .i64 ((k : Nat) : Int)⟩]) [] [2,4,7,8,10,11,12,13,35,36,37] rfl kr ?_
    refine N_then ?_
    refine G_seq ?_
    refine G_seq ?_
    refine G_region ?_
    refine GL_pure (E':=[⟨44,[],.bool (decide (((k : Nat) : Int) ≥ 30))⟩,⟨2,[],.slice ka l.length kc⟩,⟨4,[],pt b1⟩,⟨7,[],pt d3⟩,⟨8,[],pt jb4⟩,⟨10,[],.slice na A.length nc⟩,⟨11,[],.slice na A.length nc⟩,⟨13,[],pt b10⟩,⟨35,[],.slice ao ops.length co⟩,⟨36,[],.int .i64 ((ops.length : Nat) : Int)⟩,⟨37,[],.int .i64 ((k : Nat) : Int)⟩]) [0,0,0] kr (j:=3) rfl ?_
    refine GL_loadA (i:=3) (ch:=[(44,false)]) (b:=b10) (off:=0) (l:=[.int .i64 o.kind,.int .i64 o.n,.string o.t,.slice o.la o.l.length o.lc,.slice o.ka o.k.length o.kc]) rfl rfl kr kr kr kr kr kr (At.grp 0 0 rfl rfl) kr ?_
    refine GL_callQ (i:=4) (ch:=[(44,false)]) (f:=21) (fst:=#[]) (caps:=#[]) (vs:=[.agg #[.int .i64 o.kind,.int .i64 o.n,.string o.t,.slice o.la o.l.length o.lc,.slice o.ka o.k.length o.kc]]) (v:=.bool (longJ o)) rfl rfl rfl kr kr Tryz.func21 rfl rfl kr kr kr (fun hc=>long_ o So _ _ hO) ?_
    refine GL_fin (E':=[⟨2,[],.slice ka l.length kc⟩,⟨4,[],pt b1⟩,⟨7,[],pt d3⟩,⟨8,[],pt jb4⟩,⟨10,[],.slice na A.length nc⟩,⟨11,[],.slice na A.length nc⟩,⟨13,[],pt b10⟩,⟨35,[],.slice ao ops.length co⟩,⟨36,[],.int .i64 ((ops.length : Nat) : Int)⟩,⟨37,[],.int .i64 ((k : Nat) : Int)⟩,⟨47,[],.bool ((decide (((k : Nat) : Int) ≥ 30))||(longJ o))⟩]) [5] [2,4,7,8,10,11,13,35,36,37,47] rfl kr ?_
    refine N_then ?_
    refine G_cond (b:=(decide (((k : Nat) : Int) ≥ 30))||(longJ o)) kr (fun hc11=>?_) (fun hc11=>?_)
    ·
     skip
     refine G_exit ?_
     refine N_then_exit ?_
     refine N_block_other rfl ?_
     refine N_then_exit ?_
     refine N_then_exit ?_
     refine N_block_exit ?_
     refine N_heap (H':=(ng::[(b1,.cells #[.int .i64 at0,.int .i64 at1] 64 (0,0))]::(s.G d3 M++(G++H)))) (fun w h=>(((h.erase 2).erase 1).erase 0)) ?_
     refine N_join (A,A,s,M,na,nc,na,nc,ng) [2,4,7,10,11] kr (fun w h=>h) ⟨(good_sett hst),(Scr.mono hsc (by omega)),hs,(own_rd hno),(own_rd hno),(by dsimp only; omega),(by dsimp only; (try rw [List.length_append]); (try show A.length+1 ≤ 100000); omega)⟩
    ·
     simp only [Bool.or_eq_false_iff, decide_eq_false_iff_not] at hc11
     obtain ⟨hx1, hx2⟩ := hc11
     obtain ⟨hol, hot, hon, hok⟩ := longJ_no hx2
     have holz := lines_le hol
     refine G_skip ?_
     refine N_then ?_
     refine G_seq ?_
     refine G_pure (E':=[⟨2,[],.slice ka l.length kc⟩,⟨4,[],pt b1⟩,⟨7,[],pt d3⟩,⟨8,[],pt jb4⟩,⟨10,[],.slice na A.length nc⟩,⟨13,[],pt b10⟩,⟨35,[],.slice ao ops.length co⟩,⟨36,[],.int .i64 ((ops.length : Nat) : Int)⟩,⟨37,[],.int .i64 ((k : Nat) : Int)⟩]) [0,0] [2,4,7,8,10,13,35,36,37] rfl kr ?_
     refine N_then ?_
     refine G_seq ?_
     refine G_pure (E':=[⟨2,[],.slice ka l.length kc⟩,⟨4,[],pt b1⟩,⟨7,[],pt d3⟩,⟨8,[],pt jb4⟩,⟨10,[],.slice na A.length nc⟩,⟨13,[],pt b10⟩,⟨35,[],.slice ao ops.length co⟩,⟨36,[],.int .i64 ((ops.length : Nat) : Int)⟩,⟨37,[],.int .i64 ((k : Nat) : Int)⟩]) [0] [2,4,7,8,10,13,35,36,37] rfl kr ?_
     refine N_then ?_
     refine G_seq ?_
     refine G_seq ?_
     refine G_region ?_
     refine GL_pure (E':=[⟨49,[],pt b10⟩,⟨2,[],.slice ka l.length kc⟩,⟨4,[],pt b1⟩,⟨7,[],pt d3⟩,⟨8,[],pt jb4⟩,⟨10,[],.slice na A.length nc⟩,⟨13,[],pt b10⟩,⟨35,[],.slice ao ops.length co⟩,⟨36,[],.int .i64 ((ops.length : Nat) : Int)⟩,⟨37,[],.int .i64 ((k : Nat) : Int)⟩]) [0] kr (j:=1) rfl ?_
     refine GL_load (i:=1) (ch:=[]) (b:=b10) (off:=0) (v:=.int .i64 o.kind) rfl rfl kr kr kr kr kr (At.grp 0 0 rfl rfl) rfl ?_
     refine GL_fin (E':=[⟨2,[],.slice ka l.length kc⟩,⟨4,[],pt b1⟩,⟨7,[],pt d3⟩,⟨8,[],pt jb4⟩,⟨10,[],.slice na A.length nc⟩,⟨13,[],pt b10⟩,⟨35,[],.slice ao ops.length co⟩,⟨36,[],.int .i64 ((ops.length : Nat) : Int)⟩,⟨37,[],.int .i64 ((k : Nat) : Int)⟩,⟨53,[],.bool ((Int.tmod (IntKind.wrap .u64 o.kind) 2) == 0)⟩]) [0,0,0] [2,4,7,8,10,13,35,36,37,53] rfl kr ?_
     refine N_then ?_
     refine G_cond (b:=(Int.tmod (IntKind.wrap .u64 o.kind) 2) == 0) kr (fun hc12=>?_) (fun hc12=>?_)
     ·
      refine G_seq ?_
      refine G_join (T:=Option Addr × Nat × Grp) (fun ξ : Option Addr × Nat × Grp=>[⟨2,[],.slice ka l.length kc⟩,⟨4,[],pt b1⟩,⟨7,[],pt d3⟩,⟨8,[],pt jb4⟩,⟨10,[],.slice na A.length nc⟩,⟨11,[],.slice ξ.1 (A.length+1) ξ.2.1⟩,⟨13,[],pt b10⟩,⟨35,[],.slice ao ops.length co⟩,⟨36,[],.int .i64 ((ops.length : Nat) : Int)⟩,⟨37,[],.int .i64 ((k : Nat) : Int)⟩]) (fun ξ : Option Addr × Nat × Grp=>(ξ.2.2::[(b10,.cells #[.int .i64 o.kind,.int .i64 o.n,.string o.t,.slice o.la o.l.length o.lc,.slice o.ka o.k.length o.kc] 51 (0,0))]::(jAt jb4 d3 (jOf A th) ja jc)::jr::ng::[(b1,.cells #[.int .i64 at0,.int .i64 at1] 64 (0,0))]::(s.G d3 M++(G++H)))) (fun ξ : Option Addr × Nat × Grp=>(Go.Sw.Own 9 1 (.slice ξ.1 (A.length+1) ξ.2.1) ξ.2.2 (A.length+1) (strs A++[.string o.t]))) ?_ ?_
      ·
       refine G_regionH ([(b10,.cells #[.int .i64 o.kind,.int .i64 o.n,.string o.t,.slice o.la o.l.length o.lc,.slice o.ka o.k.length o.kc] 51 (0,0))]::(jAt jb4 d3 (jOf A th) ja jc)::jr::ng::[(b1,.cells #[.int .i64 at0,.int .i64 at1] 64 (0,0))]::(s.G d3 M++(G++H))) kr ?_
       refine GH_pure (E':=[⟨55,[],.slice na A.length nc⟩,⟨2,[],.slice ka l.length kc⟩,⟨4,[],pt b1⟩,⟨7,[],pt d3⟩,⟨8,[],pt jb4⟩,⟨10,[],.slice na A.length nc⟩,⟨13,[],pt b10⟩,⟨35,[],.slice ao ops.length co⟩,⟨36,[],.int .i64 ((ops.length : Nat) : Int)⟩,⟨37,[],.int .i64 ((k : Nat) : Int)⟩]) 1 0 kr (fun w h=>h) kr ?_
       refine GH_pure (E':=[⟨57,[],.pointer (some ⟨b10,2,none⟩)⟩,⟨55,[],.slice na A.length nc⟩,⟨2,[],.slice ka l.length kc⟩,⟨4,[],pt b1⟩,⟨7,[],pt d3⟩,⟨8,[],pt jb4⟩,⟨10,[],.slice na A.length nc⟩,⟨13,[],pt b10⟩,⟨35,[],.slice ao ops.length co⟩,⟨36,[],.int .i64 ((ops.length : Nat) : Int)⟩,⟨37,[],.int .i64 ((k : Nat) : Int)⟩]) 3 0 kr (fun w h=>h) kr ?_
       refine GH_take' (E':=[⟨58,[],.string o.t⟩,⟨57,[],.pointer (some ⟨b10,2,none⟩)⟩,⟨55,[],.slice na A.length nc⟩,⟨2,[],.slice ka l.length kc⟩,⟨4,[],pt b1⟩,⟨7,[],pt d3⟩,⟨8,[],pt jb4⟩,⟨10,[],.slice na A.length nc⟩,⟨13,[],pt b10⟩,⟨35,[],.slice ao ops.length co⟩,⟨36,[],.int .i64 ((ops.length : Nat) : Int)⟩,⟨37,[],.int .i64 ((k : Nat) : Int)⟩]) 4 kr (fun w h=>h) ?_ ?_
       ·
        refine GL_load (i:=4) (ch:=[]) (b:=b10) (off:=2) (v:=.string o.t) rfl rfl kr kr kr kr kr (At.grp 0 0 rfl rfl) rfl ?_
        exact GL_yend kr kr
       refine GH_eff2 0 5 kr kr kr kr kr ?_ ?_
       ·
        refine GL_buildSlice (i:=0) (ch:=[]) (e:=9) (l:=[]) (c:=[]) rfl rfl kr kr kr kr kr (fun b13=>?_)
        refine GH_back kr (fun w h=>(h.erase 0)) ?_
        refine GH_eff2 2 5 kr kr kr kr kr ?_ ?_
        ·
         refine GL_append (i:=2) (ch:=[]) (t:=32) (tx:=32) (e:=9) (inf:=Tryz.t9) (s:=.slice (some ⟨b13,0,none⟩) 0 0) (x:=.slice na A.length nc) (n:=0) (m:=A.length) (j:=0) (cs:=[]) (news:=(strs A)) (g:=[(b13,.cells #[] 9 (0,0))]) (S:=(inG ng)) rfl rfl rfl rfl kr kr kr rfl rfl (.inl ⟨9,kr⟩) (fun ⟨_,h⟩=>by cases h) (fun _=>⟨9,kr⟩) kr kr kr rfl (Go.Sw.Own.lit rfl) (SrcOf.slice _ _ _ _ (own_rd hno) (own_none hno)) (at_inG 4 rfl) (show (strs A).length = A.length * 1 by simp [strs]) strs_one (by omega) (by show (0+A.length) * 16 ≤ 140737488355328; omega) (fun v14 g15 hO16=>?_)
         replace hO16 := own_from0 hO16
         obtain ⟨a17, cap18, rfl, hcap19, hrd20⟩ := hO16.shape
         refine GH_back kr (fun w h=>(h.erase 0)) ?_
         refine GH_eff 5 kr kr kr ?_
         refine GL_buildSlice (i:=5) (ch:=[]) (e:=9) (l:=[(0,.string o.t)]) (c:=[.string o.t]) rfl rfl kr kr kr kr kr (fun b21=>?_)
         refine GH_back kr (fun w h=>((h.erase 1).erase 0)) ?_
         refine GH_eff 6 kr kr kr ?_
         refine GL_append (i:=6) (ch:=[]) (t:=32) (tx:=32) (e:=9) (inf:=Tryz.t9) (s:=.slice a17 A.length cap18) (x:=.slice (some ⟨b21,0,none⟩) 1 1) (n:=A.length) (m:=1) (j:=1) (cs:=(strs A)) (news:=[.string o.t]) (g:=g15) (S:=(inG [(b21,.cells #[.string o.t] 9 (0,0))])) rfl rfl rfl rfl kr kr kr rfl rfl (.inl ⟨9,kr⟩) (fun ⟨_,h⟩=>by cases h) (fun _=>⟨9,kr⟩) kr kr kr rfl hO16 (SrcOf.slice _ _ _ _ Rd.lit (fun h=>by cases h)) (at_inG 0 rfl) rfl (strs_one (ts:=[o.t])) (by omega) (by show (A.length+1) * 16 ≤ 140737488355328; omega) (fun v22 g23 hO24=>?_)
         obtain ⟨a25, cap26, rfl, hcap27, hrd28⟩ := hO24.shape
         refine GH_back kr (fun w h=>((h.erase 1).erase 0)) ?_
         refine GH_pure (E':=[⟨11,[],.slice a25 (A.length+1) cap26⟩,⟨2,[],.slice ka l.length kc⟩,⟨4,[],pt b1⟩,⟨7,[],pt d3⟩,⟨8,[],pt jb4⟩,⟨10,[],.slice na A.length nc⟩,⟨13,[],pt b10⟩,⟨35,[],.slice ao ops.length co⟩,⟨36,[],.int .i64 ((ops.length : Nat) : Int)⟩,⟨37,[],.int .i64 ((k : Nat) : Int)⟩]) 7 0 kr (fun w h=>((h.erase 1).erase 0)) kr ?_
         refine GH_done (E':=[⟨2,[],.slice ka l.length kc⟩,⟨4,[],pt b1⟩,⟨7,[],pt d3⟩,⟨8,[],pt jb4⟩,⟨10,[],.slice na A.length nc⟩,⟨11,[],.slice a25 (A.length+1) cap26⟩,⟨13,[],pt b10⟩,⟨35,[],.slice ao ops.length co⟩,⟨36,[],.int .i64 ((ops.length : Nat) : Int)⟩,⟨37,[],.int .i64 ((k : Nat) : Int)⟩]) [2,4,7,8,10,11,13,35,36,37] kr kr ?_
         refine N_join (a25,cap26,g23) [2,4,7,8,10,11,13,35,36,37] kr (fun w h=>(h.erase 0)) hO24
        ·
         refine GL_buildSlice (i:=5) (ch:=[]) (e:=9) (l:=[(0,.string o.t)]) (c:=[.string o.t]) rfl rfl kr kr kr kr kr (fun b29=>?_)
         refine GH_back kr (fun w h=>((h.erase 1).erase 0)) ?_
         refine GH_eff 2 kr kr kr ?_
         refine GL_append (i:=2) (ch:=[]) (t:=32) (tx:=32) (e:=9) (inf:=Tryz.t9) (s:=.slice (some ⟨b13,0,none⟩) 0 0) (x:=.slice na A.length nc) (n:=0) (m:=A.length) (j:=1) (cs:=[]) (news:=(strs A)) (g:=[(b13,.cells #[] 9 (0,0))]) (S:=(inG ng)) rfl rfl rfl rfl kr kr kr rfl rfl (.inl ⟨9,kr⟩) (fun ⟨_,h⟩=>by cases h) (fun _=>⟨9,kr⟩) kr kr kr rfl (Go.Sw.Own.lit rfl) (SrcOf.slice _ _ _ _ (own_rd hno) (own_none hno)) (at_inG 5 rfl) (show (strs A).length = A.length * 1 by simp [strs]) strs_one (by omega) (by show (0+A.length) * 16 ≤ 140737488355328; omega) (fun v30 g31 hO32=>?_)
         replace hO32 := own_from0 hO32
         obtain ⟨a33, cap34, rfl, hcap35, hrd36⟩ := hO32.shape
         refine GH_back kr (fun w h=>((h.erase 1).erase 0)) ?_
         refine GH_eff 6 kr kr kr ?_
         refine GL_append (i:=6) (ch:=[]) (t:=32) (tx:=32) (e:=9) (inf:=Tryz.t9) (s:=.slice a33 A.length cap34) (x:=.slice (some ⟨b29,0,none⟩) 1 1) (n:=A.length) (m:=1) (j:=1) (cs:=(strs A)) (news:=[.string o.t]) (g:=g31) (S:=(inG [(b29,.cells #[.string o.t] 9 (0,0))])) rfl rfl rfl rfl kr kr kr rfl rfl (.inl ⟨9,kr⟩) (fun ⟨_,h⟩=>by cases h) (fun _=>⟨9,kr⟩) kr kr kr rfl hO32 (SrcOf.slice _ _ _ _ Rd.lit (fun h=>by cases h)) (at_inG 0 rfl) rfl (strs_one (ts:=[o.t])) (by omega) (by show (A.length+1) * 16 ≤ 140737488355328; omega) (fun v37 g38 hO39=>?_)
         obtain ⟨a40, cap41, rfl, hcap42, hrd43⟩ := hO39.shape
         refine GH_back kr (fun w h=>((h.erase 1).erase 0)) ?_
         refine GH_pure (E':=[⟨11,[],.slice a40 (A.length+1) cap41⟩,⟨2,[],.slice ka l.length kc⟩,⟨4,[],pt b1⟩,⟨7,[],pt d3⟩,⟨8,[],pt jb4⟩,⟨10,[],.slice na A.length nc⟩,⟨13,[],pt b10⟩,⟨35,[],.slice ao ops.length co⟩,⟨36,[],.int .i64 ((ops.length : Nat) : Int)⟩,⟨37,[],.int .i64 ((k : Nat) : Int)⟩]) 7 0 kr (fun w h=>((h.erase 1).erase 0)) kr ?_
         refine GH_done (E':=[⟨2,[],.slice ka l.length kc⟩,⟨4,[],pt b1⟩,⟨7,[],pt d3⟩,⟨8,[],pt jb4⟩,⟨10,[],.slice na A.length nc⟩,⟨11,[],.slice a40 (A.length+1) cap41⟩,⟨13,[],pt b10⟩,⟨35,[],.slice ao ops.length co⟩,⟨36,[],.int .i64 ((ops.length : Nat) : Int)⟩,⟨37,[],.int .i64 ((k : Nat) : Int)⟩]) [2,4,7,8,10,11,13,35,36,37] kr kr ?_
         refine N_join (a40,cap41,g38) [2,4,7,8,10,11,13,35,36,37] kr (fun w h=>(h.erase 0)) hO39
       ·
        refine GL_buildSlice (i:=5) (ch:=[]) (e:=9) (l:=[(0,.string o.t)]) (c:=[.string o.t]) rfl rfl kr kr kr kr kr (fun b44=>?_)
        refine GH_back kr (fun w h=>(h.erase 0)) ?_
        refine GH_eff 0 kr kr kr ?_
        refine GL_buildSlice (i:=0) (ch:=[]) (e:=9) (l:=[]) (c:=[]) rfl rfl kr kr kr kr kr (fun b45=>?_)
        refine GH_back kr (fun w h=>((h.erase 1).erase 0)) ?_
        refine GH_eff 2 kr kr kr ?_
        refine GL_append (i:=2) (ch:=[]) (t:=32) (tx:=32) (e:=9) (inf:=Tryz.t9) (s:=.slice (some ⟨b45,0,none⟩) 0 0) (x:=.slice na A.length nc) (n:=0) (m:=A.length) (j:=0) (cs:=[]) (news:=(strs A)) (g:=[(b45,.cells #[] 9 (0,0))]) (S:=(inG ng)) rfl rfl rfl rfl kr kr kr rfl rfl (.inl ⟨9,kr⟩) (fun ⟨_,h⟩=>by cases h) (fun _=>⟨9,kr⟩) kr kr kr rfl (Go.Sw.Own.lit rfl) (SrcOf.slice _ _ _ _ (own_rd hno) (own_none hno)) (at_inG 5 rfl) (show (strs A).length = A.length * 1 by simp [strs]) strs_one (by omega) (by show (0+A.length) * 16 ≤ 140737488355328; omega) (fun v46 g47 hO48=>?_)
        replace hO48 := own_from0 hO48
        obtain ⟨a49, cap50, rfl, hcap51, hrd52⟩ := hO48.shape
        refine GH_back kr (fun w h=>((h.erase 1).erase 0)) ?_
        refine GH_eff 6 kr kr kr ?_
        refine GL_append (i:=6) (ch:=[]) (t:=32) (tx:=32) (e:=9) (inf:=Tryz.t9) (s:=.slice a49 A.length cap50) (x:=.slice (some ⟨b44,0,none⟩) 1 1) (n:=A.length) (m:=1) (j:=0) (cs:=(strs A)) (news:=[.string o.t]) (g:=g47) (S:=(inG [(b44,.cells #[.string o.t] 9 (0,0))])) rfl rfl rfl rfl kr kr kr rfl rfl (.inl ⟨9,kr⟩) (fun ⟨_,h⟩=>by cases h) (fun _=>⟨9,kr⟩) kr kr kr rfl hO48 (SrcOf.slice _ _ _ _ Rd.lit (fun h=>by cases h)) (at_inG 1 rfl) rfl (strs_one (ts:=[o.t])) (by omega) (by show (A.length+1) * 16 ≤ 140737488355328; omega) (fun v53 g54 hO55=>?_)
        obtain ⟨a56, cap57, rfl, hcap58, hrd59⟩ := hO55.shape
        refine GH_back kr (fun w h=>((h.erase 1).erase 0)) ?_
        refine GH_pure (E':=[⟨11,[],.slice a56 (A.length+1) cap57⟩,⟨2,[],.slice ka l.length kc⟩,⟨4,[],pt b1⟩,⟨7,[],pt d3⟩,⟨8,[],pt jb4⟩,⟨10,[],.slice na A.length nc⟩,⟨13,[],pt b10⟩,⟨35,[],.slice ao ops.length co⟩,⟨36,[],.int .i64 ((ops.length : Nat) : Int)⟩,⟨37,[],.int .i64 ((k : Nat) : Int)⟩]) 7 0 kr (fun w h=>((h.erase 1).erase 0)) kr ?_
        refine GH_done (E':=[⟨2,[],.slice ka l.length kc⟩,⟨4,[],pt b1⟩,⟨7,[],pt d3⟩,⟨8,[],pt jb4⟩,⟨10,[],.slice na A.length nc⟩,⟨11,[],.slice a56 (A.length+1) cap57⟩,⟨13,[],pt b10⟩,⟨35,[],.slice ao ops.length co⟩,⟨36,[],.int .i64 ((ops.length : Nat) : Int)⟩,⟨37,[],.int .i64 ((k : Nat) : Int)⟩]) [2,4,7,8,10,11,13,35,36,37] kr kr ?_
        refine N_join (a56,cap57,g54) [2,4,7,8,10,11,13,35,36,37] kr (fun w h=>(h.erase 1)) hO55
      ·
       rintro ⟨xa, xc, xg⟩ hxo
       dsimp only at hxo
       refine N_env (E':=[⟨2,[],.slice ka l.length kc⟩,⟨4,[],pt b1⟩,⟨7,[],pt d3⟩,⟨8,[],pt jb4⟩,⟨10,[],.slice na A.length nc⟩,⟨11,[],.slice xa ((A++[o.t]).length) xc⟩,⟨13,[],pt b10⟩,⟨35,[],.slice ao ops.length co⟩,⟨36,[],.int .i64 ((ops.length : Nat) : Int)⟩,⟨37,[],.int .i64 ((k : Nat) : Int)⟩]) (by rw [List.length_append]; rfl) ?_
       refine N_then ?_
       rcases add3 (t := o.t) hst (by omega) with ⟨_, hadd⟩ | ⟨M2, hadd, hst2, hAz2⟩ | ⟨j2, M2, hadd, hcr⟩
       ·
        refine G_region ?_
        refine GL_pure (E':=[⟨62,[],.pointer (some ⟨b10,2,none⟩)⟩,⟨61,[],pt jb4⟩,⟨2,[],.slice ka l.length kc⟩,⟨4,[],pt b1⟩,⟨7,[],pt d3⟩,⟨8,[],pt jb4⟩,⟨10,[],.slice na A.length nc⟩,⟨11,[],.slice xa ((A++[o.t]).length) xc⟩,⟨35,[],.slice ao ops.length co⟩,⟨36,[],.int .i64 ((ops.length : Nat) : Int)⟩,⟨37,[],.int .i64 ((k : Nat) : Int)⟩]) [0,0] kr (j:=2) rfl ?_
        refine GL_load (i:=2) (ch:=[]) (b:=b10) (off:=2) (v:=.string o.t) rfl rfl kr kr kr kr kr (At.grp 1 0 rfl rfl) rfl ?_
        refine GL_heap rfl (H':=((jAt jb4 d3 (jOf A th) ja jc)::jr::xg::[(b10,.cells #[.int .i64 o.kind,.int .i64 o.n,.string o.t,.slice o.la o.l.length o.lc,.slice o.ka o.k.length o.kc] 51 (0,0))]::ng::[(b1,.cells #[.int .i64 at0,.int .i64 at1] 64 (0,0))]::(s.G d3 M++(G++H)))) (fun w h=>((h.front (j:=3) rfl).front (j:=3) rfl)) ?_
        refine GL_call (i:=3) (ch:=[]) (f:=17) (fst:=#[]) (caps:=#[]) (vs:=[pt jb4,.string o.t]) rfl rfl rfl kr kr Tryz.func17 rfl rfl kr kr (chSure_of kr) (jAdd hs (sc_room hsc (by omega)) (jOf_small (by omega)) (by omega) hadd ([xg,[(b10,.cells #[.int .i64 o.kind,.int .i64 o.n,.string o.t,.slice o.la o.l.length o.lc,.slice o.ka o.k.length o.kc] 51 (0,0))],ng,[(b1,.cells #[.int .i64 at0,.int .i64 at1] 64 (0,0))]] : List Grp) jb4 d3 ho_ _ (G++H)) ?_
        rintro v H' ⟨ja60, jc61, jr62, s5, rfl, ho63, hs5, rfl⟩
        refine GL_fin (E':=[⟨2,[],.slice ka l.length kc⟩,⟨4,[],pt b1⟩,⟨7,[],pt d3⟩,⟨8,[],pt jb4⟩,⟨10,[],.slice na A.length nc⟩,⟨11,[],.slice xa ((A++[o.t]).length) xc⟩,⟨14,[],.int .i64 2⟩,⟨35,[],.slice ao ops.length co⟩,⟨36,[],.int .i64 ((ops.length : Nat) : Int)⟩,⟨37,[],.int .i64 ((k : Nat) : Int)⟩]) [0] [2,4,7,8,10,11,14,35,36,37] rfl kr ?_
        refine N_then ?_
        refine G_seq ?_
        refine G_seq ?_
        refine G_pure (E':=[⟨2,[],.slice ka l.length kc⟩,⟨4,[],pt b1⟩,⟨7,[],pt d3⟩,⟨8,[],pt jb4⟩,⟨10,[],.slice na A.length nc⟩,⟨11,[],.slice xa ((A++[o.t]).length) xc⟩,⟨14,[],.int .i64 2⟩,⟨35,[],.slice ao ops.length co⟩,⟨36,[],.int .i64 ((ops.length : Nat) : Int)⟩,⟨37,[],.int .i64 ((k : Nat) : Int)⟩,⟨74,[],.bool true⟩]) [0,0] [2,4,7,8,10,11,14,35,36,37,74] rfl kr ?_
        refine N_then ?_
        refine G_condt kr ?_
        refine G_seq ?_
        refine G_pure (E':=[⟨2,[],.slice ka l.length kc⟩,⟨4,[],pt b1⟩,⟨7,[],pt d3⟩,⟨8,[],pt jb4⟩,⟨10,[],.slice na A.length nc⟩,⟨11,[],.slice na A.length nc⟩,⟨35,[],.slice ao ops.length co⟩,⟨36,[],.int .i64 ((ops.length : Nat) : Int)⟩,⟨37,[],.int .i64 ((k : Nat) : Int)⟩]) [0,0] [2,4,7,8,10,11,35,36,37] rfl kr ?_
        refine N_then ?_
        refine G_exit ?_
        refine N_then_exit ?_
        refine N_block_exit ?_
        refine N_then ?_
        have hw64 : IntKind.wrap .i64 (((k : Nat) : Int) + 1) = ((k : Nat) : Int) + 1 := w64 (by omega) (by omega)
        refine G_pure (E':=[⟨2,[],.slice ka l.length kc⟩,⟨4,[],pt b1⟩,⟨7,[],pt d3⟩,⟨8,[],pt jb4⟩,⟨10,[],.slice na A.length nc⟩,⟨11,[],.slice na A.length nc⟩,⟨35,[],.slice ao ops.length co⟩,⟨36,[],.int .i64 ((ops.length : Nat) : Int)⟩,⟨37,[],.int .i64 (((k : Nat) : Int)+1)⟩]) [0,0] [2,4,7,8,10,11,35,36,37] rfl (Eq.trans (b:=some [⟨2,[],.slice ka l.length kc⟩,⟨4,[],pt b1⟩,⟨7,[],pt d3⟩,⟨8,[],pt jb4⟩,⟨10,[],.slice na A.length nc⟩,⟨11,[],.slice na A.length nc⟩,⟨35,[],.slice ao ops.length co⟩,⟨36,[],.int .i64 ((ops.length : Nat) : Int)⟩,⟨37,[],.int .i64 (IntKind.wrap .i64 (((k : Nat) : Int)+1))⟩]) kr (by simp only [hw64])) ?_
        refine N_heap (H':=((jAt jb4 d3 (jOf A th) ja60 jc61)::jr62::ng::[(b1,.cells #[.int .i64 at0,.int .i64 at1] 64 (0,0))]::(s5.G d3 M++(G++H)))) (fun w h=>((h.erase 3).erase 2)) ?_
        refine N_round (s':=(k+1,A,th,s5,M,ja60,jc61,jr62,na,nc,ng)) [2,4,7,8,10,11,35,36,37] kr rfl ⟨(by omega),(by dsimp only; omega),hst,(by dsimp only; omega),(Scr.mono hsc (by dsimp only; omega)),hs5,ho63,hno⟩ (by omega)
       ·
        have hsc2 := sc_add' hsc hot hadd
        refine G_region ?_
        refine GL_pure (E':=[⟨62,[],.pointer (some ⟨b10,2,none⟩)⟩,⟨61,[],pt jb4⟩,⟨2,[],.slice ka l.length kc⟩,⟨4,[],pt b1⟩,⟨7,[],pt d3⟩,⟨8,[],pt jb4⟩,⟨10,[],.slice na A.length nc⟩,⟨11,[],.slice xa ((A++[o.t]).length) xc⟩,⟨35,[],.slice ao ops.length co⟩,⟨36,[],.int .i64 ((ops.length : Nat) : Int)⟩,⟨37,[],.int .i64 ((k : Nat) : Int)⟩]) [0,0] kr (j:=2) rfl ?_
        refine GL_load (i:=2) (ch:=[]) (b:=b10) (off:=2) (v:=.string o.t) rfl rfl kr kr kr kr kr (At.grp 1 0 rfl rfl) rfl ?_
        refine GL_heap rfl (H':=((jAt jb4 d3 (jOf A th) ja jc)::jr::xg::[(b10,.cells #[.int .i64 o.kind,.int .i64 o.n,.string o.t,.slice o.la o.l.length o.lc,.slice o.ka o.k.length o.kc] 51 (0,0))]::ng::[(b1,.cells #[.int .i64 at0,.int .i64 at1] 64 (0,0))]::(s.G d3 M++(G++H)))) (fun w h=>((h.front (j:=3) rfl).front (j:=3) rfl)) ?_
        refine GL_call (i:=3) (ch:=[]) (f:=17) (fst:=#[]) (caps:=#[]) (vs:=[pt jb4,.string o.t]) rfl rfl rfl kr kr Tryz.func17 rfl rfl kr kr (chSure_of kr) (jAdd hs (sc_room hsc (by omega)) (jOf_small (by omega)) (by omega) hadd ([xg,[(b10,.cells #[.int .i64 o.kind,.int .i64 o.n,.string o.t,.slice o.la o.l.length o.lc,.slice o.ka o.k.length o.kc] 51 (0,0))],ng,[(b1,.cells #[.int .i64 at0,.int .i64 at1] 64 (0,0))]] : List Grp) jb4 d3 ho_ _ (G++H)) ?_
        rintro v H' ⟨ja65, jc66, jr67, s7, rfl, ho68, hs7, rfl⟩
        refine GL_fin (E':=[⟨2,[],.slice ka l.length kc⟩,⟨4,[],pt b1⟩,⟨7,[],pt d3⟩,⟨8,[],pt jb4⟩,⟨10,[],.slice na A.length nc⟩,⟨11,[],.slice xa ((A++[o.t]).length) xc⟩,⟨14,[],.int .i64 0⟩,⟨35,[],.slice ao ops.length co⟩,⟨36,[],.int .i64 ((ops.length : Nat) : Int)⟩,⟨37,[],.int .i64 ((k : Nat) : Int)⟩]) [0] [2,4,7,8,10,11,14,35,36,37] rfl kr ?_
        refine N_then ?_
        refine G_seq ?_
        refine G_seq ?_
        refine G_pure (E':=[⟨2,[],.slice ka l.length kc⟩,⟨4,[],pt b1⟩,⟨7,[],pt d3⟩,⟨8,[],pt jb4⟩,⟨10,[],.slice na A.length nc⟩,⟨11,[],.slice xa ((A++[o.t]).length) xc⟩,⟨14,[],.int .i64 0⟩,⟨35,[],.slice ao ops.length co⟩,⟨36,[],.int .i64 ((ops.length : Nat) : Int)⟩,⟨37,[],.int .i64 ((k : Nat) : Int)⟩,⟨74,[],.bool false⟩]) [0,0] [2,4,7,8,10,11,14,35,36,37,74] rfl kr ?_
        refine N_then ?_
        refine G_condf kr ?_
        refine G_skip ?_
        refine N_then ?_
        refine G_seq ?_
        refine G_seq ?_
        refine G_pure (E':=[⟨2,[],.slice ka l.length kc⟩,⟨4,[],pt b1⟩,⟨7,[],pt d3⟩,⟨8,[],pt jb4⟩,⟨10,[],.slice na A.length nc⟩,⟨11,[],.slice xa ((A++[o.t]).length) xc⟩,⟨35,[],.slice ao ops.length co⟩,⟨36,[],.int .i64 ((ops.length : Nat) : Int)⟩,⟨37,[],.int .i64 ((k : Nat) : Int)⟩,⟨77,[],.bool false⟩]) [0,0] [2,4,7,8,10,11,35,36,37,77] rfl kr ?_
        refine N_then ?_
        refine G_condf kr ?_
        refine G_skip ?_
        refine N_then ?_
        refine G_pure (E':=[⟨2,[],.slice ka l.length kc⟩,⟨4,[],pt b1⟩,⟨7,[],pt d3⟩,⟨8,[],pt jb4⟩,⟨10,[],.slice xa ((A++[o.t]).length) xc⟩,⟨11,[],.slice xa ((A++[o.t]).length) xc⟩,⟨35,[],.slice ao ops.length co⟩,⟨36,[],.int .i64 ((ops.length : Nat) : Int)⟩,⟨37,[],.int .i64 ((k : Nat) : Int)⟩]) [0,0] [2,4,7,8,10,11,35,36,37] rfl kr ?_
        refine N_block ?_
        refine N_then ?_
        have hw69 : IntKind.wrap .i64 (((k : Nat) : Int) + 1) = ((k : Nat) : Int) + 1 := w64 (by omega) (by omega)
        refine G_pure (E':=[⟨2,[],.slice ka l.length kc⟩,⟨4,[],pt b1⟩,⟨7,[],pt d3⟩,⟨8,[],pt jb4⟩,⟨10,[],.slice xa ((A++[o.t]).length) xc⟩,⟨11,[],.slice xa ((A++[o.t]).length) xc⟩,⟨35,[],.slice ao ops.length co⟩,⟨36,[],.int .i64 ((ops.length : Nat) : Int)⟩,⟨37,[],.int .i64 (((k : Nat) : Int)+1)⟩]) [0,0] [2,4,7,8,10,11,35,36,37] rfl (Eq.trans (b:=some [⟨2,[],.slice ka l.length kc⟩,⟨4,[],pt b1⟩,⟨7,[],pt d3⟩,⟨8,[],pt jb4⟩,⟨10,[],.slice xa ((A++[o.t]).length) xc⟩,⟨11,[],.slice xa ((A++[o.t]).length) xc⟩,⟨35,[],.slice ao ops.length co⟩,⟨36,[],.int .i64 ((ops.length : Nat) : Int)⟩,⟨37,[],.int .i64 (IntKind.wrap .i64 (((k : Nat) : Int)+1))⟩]) kr (by simp only [hw69])) ?_
        refine N_heap (H':=((jAt jb4 d3 (jOf (A++[o.t]) true) ja65 jc66)::jr67::xg::[(b1,.cells #[.int .i64 at0,.int .i64 at1] 64 (0,0))]::(s7.G d3 M2++(G++H)))) (fun w h=>((h.erase 4).erase 3)) ?_
        refine N_round (s':=(k+1,(A++[o.t]),true,s7,M2,ja65,jc66,jr67,xa,xc,xg)) [2,4,7,8,10,11,35,36,37] kr rfl ⟨(by omega),(by dsimp only; omega),hst2,(by dsimp only; omega),hsc2,hs7,ho68,(own_addS hxo)⟩ (by omega)
       ·
        have hsc2 := sc_add' hsc hot hadd
        refine G_region ?_
        refine GL_pure (E':=[⟨62,[],.pointer (some ⟨b10,2,none⟩)⟩,⟨61,[],pt jb4⟩,⟨2,[],.slice ka l.length kc⟩,⟨4,[],pt b1⟩,⟨7,[],pt d3⟩,⟨8,[],pt jb4⟩,⟨10,[],.slice na A.length nc⟩,⟨11,[],.slice xa ((A++[o.t]).length) xc⟩,⟨35,[],.slice ao ops.length co⟩,⟨36,[],.int .i64 ((ops.length : Nat) : Int)⟩,⟨37,[],.int .i64 ((k : Nat) : Int)⟩]) [0,0] kr (j:=2) rfl ?_
        refine GL_load (i:=2) (ch:=[]) (b:=b10) (off:=2) (v:=.string o.t) rfl rfl kr kr kr kr kr (At.grp 1 0 rfl rfl) rfl ?_
        refine GL_heap rfl (H':=((jAt jb4 d3 (jOf A th) ja jc)::jr::xg::[(b10,.cells #[.int .i64 o.kind,.int .i64 o.n,.string o.t,.slice o.la o.l.length o.lc,.slice o.ka o.k.length o.kc] 51 (0,0))]::ng::[(b1,.cells #[.int .i64 at0,.int .i64 at1] 64 (0,0))]::(s.G d3 M++(G++H)))) (fun w h=>((h.front (j:=3) rfl).front (j:=3) rfl)) ?_
        refine GL_call (i:=3) (ch:=[]) (f:=17) (fst:=#[]) (caps:=#[]) (vs:=[pt jb4,.string o.t]) rfl rfl rfl kr kr Tryz.func17 rfl rfl kr kr (chSure_of kr) (jAdd hs (sc_room hsc (by omega)) (jOf_small (by omega)) (by omega) hadd ([xg,[(b10,.cells #[.int .i64 o.kind,.int .i64 o.n,.string o.t,.slice o.la o.l.length o.lc,.slice o.ka o.k.length o.kc] 51 (0,0))],ng,[(b1,.cells #[.int .i64 at0,.int .i64 at1] 64 (0,0))]] : List Grp) jb4 d3 ho_ _ (G++H)) ?_
        rintro v H' ⟨ja70, jc71, jr72, s9, rfl, ho73, hs9, rfl⟩
        refine GL_fin (E':=[⟨2,[],.slice ka l.length kc⟩,⟨4,[],pt b1⟩,⟨7,[],pt d3⟩,⟨8,[],pt jb4⟩,⟨10,[],.slice na A.length nc⟩,⟨11,[],.slice xa ((A++[o.t]).length) xc⟩,⟨14,[],.int .i64 62⟩,⟨35,[],.slice ao ops.length co⟩,⟨36,[],.int .i64 ((ops.length : Nat) : Int)⟩,⟨37,[],.int .i64 ((k : Nat) : Int)⟩]) [0] [2,4,7,8,10,11,14,35,36,37] rfl kr ?_
        refine N_then ?_
        refine G_seq ?_
        refine G_seq ?_
        refine G_pure (E':=[⟨2,[],.slice ka l.length kc⟩,⟨4,[],pt b1⟩,⟨7,[],pt d3⟩,⟨8,[],pt jb4⟩,⟨10,[],.slice na A.length nc⟩,⟨11,[],.slice xa ((A++[o.t]).length) xc⟩,⟨14,[],.int .i64 62⟩,⟨35,[],.slice ao ops.length co⟩,⟨36,[],.int .i64 ((ops.length : Nat) : Int)⟩,⟨37,[],.int .i64 ((k : Nat) : Int)⟩,⟨74,[],.bool false⟩]) [0,0] [2,4,7,8,10,11,14,35,36,37,74] rfl kr ?_
        refine N_then ?_
        refine G_condf kr ?_
        refine G_skip ?_
        refine N_then ?_
        refine G_seq ?_
        refine G_seq ?_
        refine G_pure (E':=[⟨2,[],.slice ka l.length kc⟩,⟨4,[],pt b1⟩,⟨7,[],pt d3⟩,⟨8,[],pt jb4⟩,⟨10,[],.slice na A.length nc⟩,⟨11,[],.slice xa ((A++[o.t]).length) xc⟩,⟨35,[],.slice ao ops.length co⟩,⟨36,[],.int .i64 ((ops.length : Nat) : Int)⟩,⟨37,[],.int .i64 ((k : Nat) : Int)⟩,⟨77,[],.bool true⟩]) [0,0] [2,4,7,8,10,11,35,36,37,77] rfl kr ?_
        refine N_then ?_
        refine G_condt kr ?_
        refine G_exit ?_
        refine N_then_exit ?_
        refine N_block_other rfl ?_
        refine N_then_exit ?_
        refine N_then_exit ?_
        refine N_block_exit ?_
        refine N_heap (H':=((ng++xg)::[(b1,.cells #[.int .i64 at0,.int .i64 at1] 64 (0,0))]::(s9.G d3 M2++(G++H)))) (fun w h=>Sat.flat ((((((h.front (j:=5) rfl).front (j:=3) rfl).front (j:=5) rfl).erase 5).erase 4).erase 3) (List.Perm.of_eq (by simp))) ?_
        refine N_join (A,(A++[o.t]),s9,M2,na,nc,xa,xc,(ng++xg)) [2,4,7,10,11] kr (fun w h=>h) ⟨hcr,(Scr.mono hsc2 (by omega)),hs9,(own_fst hno),(own_snd (own_addS hxo)),(by dsimp only; omega),(by dsimp only; (try rw [List.length_append]); (try show A.length+1 ≤ 100000); omega)⟩
     ·
      refine G_seq ?_
      refine G_region ?_
      refine GL_buildSlice (i:=0) (ch:=[]) (e:=9) (l:=[]) (c:=[]) rfl rfl kr kr kr kr kr (fun b74=>?_)
      refine GL_pure (E':=[⟨66,[],.pointer (some ⟨b10,3,none⟩)⟩,⟨65,[],.slice (some ⟨b74,0,none⟩) 0 0⟩,⟨2,[],.slice ka l.length kc⟩,⟨4,[],pt b1⟩,⟨7,[],pt d3⟩,⟨8,[],pt jb4⟩,⟨10,[],.slice na A.length nc⟩,⟨13,[],pt b10⟩,⟨35,[],.slice ao ops.length co⟩,⟨36,[],.int .i64 ((ops.length : Nat) : Int)⟩,⟨37,[],.int .i64 ((k : Nat) : Int)⟩]) [0] kr (j:=2) rfl ?_
      refine GL_load (i:=2) (ch:=[]) (b:=b10) (off:=3) (v:=.slice o.la o.l.length o.lc) rfl rfl kr kr kr kr kr (At.grp 1 0 rfl rfl) rfl ?_
      refine GL_append (i:=3) (ch:=[]) (t:=32) (tx:=32) (e:=9) (inf:=Tryz.t9) (s:=.slice (some ⟨b74,0,none⟩) 0 0) (x:=.slice o.la o.l.length o.lc) (n:=0) (m:=o.l.length) (j:=0) (cs:=[]) (news:=(strs o.l)) (g:=[(b74,.cells #[] 9 (0,0))]) (S:=So) rfl rfl rfl rfl kr kr kr rfl rfl (.inl ⟨9,kr⟩) (fun ⟨_,h⟩=>by cases h) (fun _=>⟨9,kr⟩) kr kr kr rfl (Go.Sw.Own.lit rfl) (SrcOf.slice _ _ _ _ hO.l hO.ln) (fun y o h=>at_up (hO.at_ y o h)) (show (strs o.l).length = o.l.length * 1 by simp [strs]) strs_one (by omega) (by show (0+o.l.length) * 16 ≤ 140737488355328; omega) (fun v75 g76 hO77=>?_)
      replace hO77 := own_from0 hO77
      obtain ⟨a78, cap79, rfl, hcap80, hrd81⟩ := hO77.shape
      refine GL_fin (E':=[⟨2,[],.slice ka l.length kc⟩,⟨4,[],pt b1⟩,⟨7,[],pt d3⟩,⟨8,[],pt jb4⟩,⟨10,[],.slice na A.length nc⟩,⟨11,[],.slice a78 o.l.length cap79⟩,⟨13,[],pt b10⟩,⟨35,[],.slice ao ops.length co⟩,⟨36,[],.int .i64 ((ops.length : Nat) : Int)⟩,⟨37,[],.int .i64 ((k : Nat) : Int)⟩]) [0] [2,4,7,8,10,11,13,35,36,37] rfl kr ?_
      refine N_then ?_
      rcases rep3_ (ts := o.l) hst (by omega) with hadd | ⟨M2, hadd, hst2⟩ | ⟨j2, M2, hadd, hcr⟩
      ·
       refine G_region ?_
       refine GL_pure (E':=[⟨70,[],.pointer (some ⟨b10,3,none⟩)⟩,⟨69,[],pt jb4⟩,⟨2,[],.slice ka l.length kc⟩,⟨4,[],pt b1⟩,⟨7,[],pt d3⟩,⟨8,[],pt jb4⟩,⟨10,[],.slice na A.length nc⟩,⟨11,[],.slice a78 o.l.length cap79⟩,⟨35,[],.slice ao ops.length co⟩,⟨36,[],.int .i64 ((ops.length : Nat) : Int)⟩,⟨37,[],.int .i64 ((k : Nat) : Int)⟩]) [0,0] kr (j:=2) rfl ?_
       refine GL_load (i:=2) (ch:=[]) (b:=b10) (off:=3) (v:=.slice o.la o.l.length o.lc) rfl rfl kr kr kr kr kr (At.grp 1 0 rfl rfl) rfl ?_
       refine GL_heap rfl (H':=((jAt jb4 d3 (jOf A th) ja jc)::jr::g76::[(b10,.cells #[.int .i64 o.kind,.int .i64 o.n,.string o.t,.slice o.la o.l.length o.lc,.slice o.ka o.k.length o.kc] 51 (0,0))]::ng::[(b1,.cells #[.int .i64 at0,.int .i64 at1] 64 (0,0))]::(s.G d3 M++(G++H)))) (fun w h=>((h.front (j:=3) rfl).front (j:=3) rfl)) ?_
       refine GL_call (i:=3) (ch:=[]) (f:=18) (fst:=#[]) (caps:=#[]) (vs:=[pt jb4,.slice o.la o.l.length o.lc]) rfl rfl rfl kr kr Tryz.func18 rfl rfl kr kr (chSure_of kr) (jRep (ts:=o.l) hs (sc_room hsc (by omega)) (jOf_small (by omega)) (by omega) hadd ([g76,[(b10,.cells #[.int .i64 o.kind,.int .i64 o.n,.string o.t,.slice o.la o.l.length o.lc,.slice o.ka o.k.length o.kc] 51 (0,0))],ng,[(b1,.cells #[.int .i64 at0,.int .i64 at1] 64 (0,0))]] : List Grp) jb4 d3 ho_ o.la o.lc So hO.l hO.ln _ (G++H) (fun y o h=>at_up (hO.at_ y o h))) ?_
       rintro v H' ⟨ja82, jc83, jr84, s11, rfl, ho85, hs11, rfl⟩
       refine GL_fin (E':=[⟨2,[],.slice ka l.length kc⟩,⟨4,[],pt b1⟩,⟨7,[],pt d3⟩,⟨8,[],pt jb4⟩,⟨10,[],.slice na A.length nc⟩,⟨11,[],.slice a78 o.l.length cap79⟩,⟨14,[],.int .i64 2⟩,⟨35,[],.slice ao ops.length co⟩,⟨36,[],.int .i64 ((ops.length : Nat) : Int)⟩,⟨37,[],.int .i64 ((k : Nat) : Int)⟩]) [0] [2,4,7,8,10,11,14,35,36,37] rfl kr ?_
       refine N_then ?_
       refine G_seq ?_
       refine G_seq ?_
       refine G_pure (E':=[⟨2,[],.slice ka l.length kc⟩,⟨4,[],pt b1⟩,⟨7,[],pt d3⟩,⟨8,[],pt jb4⟩,⟨10,[],.slice na A.length nc⟩,⟨11,[],.slice a78 o.l.length cap79⟩,⟨14,[],.int .i64 2⟩,⟨35,[],.slice ao ops.length co⟩,⟨36,[],.int .i64 ((ops.length : Nat) : Int)⟩,⟨37,[],.int .i64 ((k : Nat) : Int)⟩,⟨74,[],.bool true⟩]) [0,0] [2,4,7,8,10,11,14,35,36,37,74] rfl kr ?_
       refine N_then ?_
       refine G_condt kr ?_
       refine G_seq ?_
       refine G_pure (E':=[⟨2,[],.slice ka l.length kc⟩,⟨4,[],pt b1⟩,⟨7,[],pt d3⟩,⟨8,[],pt jb4⟩,⟨10,[],.slice na A.length nc⟩,⟨11,[],.slice na A.length nc⟩,⟨35,[],.slice ao ops.length co⟩,⟨36,[],.int .i64 ((ops.length : Nat) : Int)⟩,⟨37,[],.int .i64 ((k : Nat) : Int)⟩]) [0,0] [2,4,7,8,10,11,35,36,37] rfl kr ?_
       refine N_then ?_
       refine G_exit ?_
       refine N_then_exit ?_
       refine N_block_exit ?_
       refine N_then ?_
       have hw86 : IntKind.wrap .i64 (((k : Nat) : Int) + 1) = ((k : Nat) : Int) + 1 := w64 (by omega) (by omega)
       refine G_pure (E':=[⟨2,[],.slice ka l.length kc⟩,⟨4,[],pt b1⟩,⟨7,[],pt d3⟩,⟨8,[],pt jb4⟩,⟨10,[],.slice na A.length nc⟩,⟨11,[],.slice na A.length nc⟩,⟨35,[],.slice ao ops.length co⟩,⟨36,[],.int .i64 ((ops.length : Nat) : Int)⟩,⟨37,[],.int .i64 (((k : Nat) : Int)+1)⟩]) [0,0] [2,4,7,8,10,11,35,36,37] rfl (Eq.trans (b:=some [⟨2,[],.slice ka l.length kc⟩,⟨4,[],pt b1⟩,⟨7,[],pt d3⟩,⟨8,[],pt jb4⟩,⟨10,[],.slice na A.length nc⟩,⟨11,[],.slice na A.length nc⟩,⟨35,[],.slice ao ops.length co⟩,⟨36,[],.int .i64 ((ops.length : Nat) : Int)⟩,⟨37,[],.int .i64 (IntKind.wrap .i64 (((k : Nat) : Int)+1))⟩]) kr (by simp only [hw86])) ?_
       refine N_heap (H':=((jAt jb4 d3 (jOf A th) ja82 jc83)::jr84::ng::[(b1,.cells #[.int .i64 at0,.int .i64 at1] 64 (0,0))]::(s11.G d3 M++(G++H)))) (fun w h=>((h.erase 3).erase 2)) ?_
       refine N_round (s':=(k+1,A,th,s11,M,ja82,jc83,jr84,na,nc,ng)) [2,4,7,8,10,11,35,36,37] kr rfl ⟨(by omega),(by dsimp only; omega),hst,(by dsimp only; omega),(Scr.mono hsc (by dsimp only; omega)),hs11,ho85,hno⟩ (by omega)
      ·
       have hsc2 := sc_rep' hsc (by omega) hadd
       refine G_region ?_
       refine GL_pure (E':=[⟨70,[],.pointer (some ⟨b10,3,none⟩)⟩,⟨69,[],pt jb4⟩,⟨2,[],.slice ka l.length kc⟩,⟨4,[],pt b1⟩,⟨7,[],pt d3⟩,⟨8,[],pt jb4⟩,⟨10,[],.slice na A.length nc⟩,⟨11,[],.slice a78 o.l.length cap79⟩,⟨35,[],.slice ao ops.length co⟩,⟨36,[],.int .i64 ((ops.length : Nat) : Int)⟩,⟨37,[],.int .i64 ((k : Nat) : Int)⟩]) [0,0] kr (j:=2) rfl ?_
       refine GL_load (i:=2) (ch:=[]) (b:=b10) (off:=3) (v:=.slice o.la o.l.length o.lc) rfl rfl kr kr kr kr kr (At.grp 1 0 rfl rfl) rfl ?_
       refine GL_heap rfl (H':=((jAt jb4 d3 (jOf A th) ja jc)::jr::g76::[(b10,.cells #[.int .i64 o.kind,.int .i64 o.n,.string o.t,.slice o.la o.l.length o.lc,.slice o.ka o.k.length o.kc] 51 (0,0))]::ng::[(b1,.cells #[.int .i64 at0,.int .i64 at1] 64 (0,0))]::(s.G d3 M++(G++H)))) (fun w h=>((h.front (j:=3) rfl).front (j:=3) rfl)) ?_
       refine GL_call (i:=3) (ch:=[]) (f:=18) (fst:=#[]) (caps:=#[]) (vs:=[pt jb4,.slice o.la o.l.length o.lc]) rfl rfl rfl kr kr Tryz.func18 rfl rfl kr kr (chSure_of kr) (jRep (ts:=o.l) hs (sc_room hsc (by omega)) (jOf_small (by omega)) (by omega) hadd ([g76,[(b10,.cells #[.int .i64 o.kind,.int .i64 o.n,.string o.t,.slice o.la o.l.length o.lc,.slice o.ka o.k.length o.kc] 51 (0,0))],ng,[(b1,.cells #[.int .i64 at0,.int .i64 at1] 64 (0,0))]] : List Grp) jb4 d3 ho_ o.la o.lc So hO.l hO.ln _ (G++H) (fun y o h=>at_up (hO.at_ y o h))) ?_
       rintro v H' ⟨ja87, jc88, jr89, s13, rfl, ho90, hs13, rfl⟩
       refine GL_fin (E':=[⟨2,[],.slice ka l.length kc⟩,⟨4,[],pt b1⟩,⟨7,[],pt d3⟩,⟨8,[],pt jb4⟩,⟨10,[],.slice na A.length nc⟩,⟨11,[],.slice a78 o.l.length cap79⟩,⟨14,[],.int .i64 0⟩,⟨35,[],.slice ao ops.length co⟩,⟨36,[],.int .i64 ((ops.length : Nat) : Int)⟩,⟨37,[],.int .i64 ((k : Nat) : Int)⟩]) [0] [2,4,7,8,10,11,14,35,36,37] rfl kr ?_
       refine N_then ?_
       refine G_seq ?_
       refine G_seq ?_
       refine G_pure (E':=[⟨2,[],.slice ka l.length kc⟩,⟨4,[],pt b1⟩,⟨7,[],pt d3⟩,⟨8,[],pt jb4⟩,⟨10,[],.slice na A.length nc⟩,⟨11,[],.slice a78 o.l.length cap79⟩,⟨14,[],.int .i64 0⟩,⟨35,[],.slice ao ops.length co⟩,⟨36,[],.int .i64 ((ops.length : Nat) : Int)⟩,⟨37,[],.int .i64 ((k : Nat) : Int)⟩,⟨74,[],.bool false⟩]) [0,0] [2,4,7,8,10,11,14,35,36,37,74] rfl kr ?_
       refine N_then ?_
       refine G_condf kr ?_
       refine G_skip ?_
       refine N_then ?_
       refine G_seq ?_
       refine G_seq ?_
       refine G_pure (E':=[⟨2,[],.slice ka l.length kc⟩,⟨4,[],pt b1⟩,⟨7,[],pt d3⟩,⟨8,[],pt jb4⟩,⟨10,[],.slice na A.length nc⟩,⟨11,[],.slice a78 o.l.length cap79⟩,⟨35,[],.slice ao ops.length co⟩,⟨36,[],.int .i64 ((ops.length : Nat) : Int)⟩,⟨37,[],.int .i64 ((k : Nat) : Int)⟩,⟨77,[],.bool false⟩]) [0,0] [2,4,7,8,10,11,35,36,37,77] rfl kr ?_
       refine N_then ?_
       refine G_condf kr ?_
       refine G_skip ?_
       refine N_then ?_
       refine G_pure (E':=[⟨2,[],.slice ka l.length kc⟩,⟨4,[],pt b1⟩,⟨7,[],pt d3⟩,⟨8,[],pt jb4⟩,⟨10,[],.slice a78 o.l.length cap79⟩,⟨11,[],.slice a78 o.l.length cap79⟩,⟨35,[],.slice ao ops.length co⟩,⟨36,[],.int .i64 ((ops.length : Nat) : Int)⟩,⟨37,[],.int .i64 ((k : Nat) : Int)⟩]) [0,0] [2,4,7,8,10,11,35,36,37] rfl kr ?_
       refine N_block ?_
       refine N_then ?_
       have hw91 : IntKind.wrap .i64 (((k : Nat) : Int) + 1) = ((k : Nat) : Int) + 1 := w64 (by omega) (by omega)
       refine G_pure (E':=[⟨2,[],.slice ka l.length kc⟩,⟨4,[],pt b1⟩,⟨7,[],pt d3⟩,⟨8,[],pt jb4⟩,⟨10,[],.slice a78 o.l.length cap79⟩,⟨11,[],.slice a78 o.l.length cap79⟩,⟨35,[],.slice ao ops.length co⟩,⟨36,[],.int .i64 ((ops.length : Nat) : Int)⟩,⟨37,[],.int .i64 (((k : Nat) : Int)+1)⟩]) [0,0] [2,4,7,8,10,11,35,36,37] rfl (Eq.trans (b:=some [⟨2,[],.slice ka l.length kc⟩,⟨4,[],pt b1⟩,⟨7,[],pt d3⟩,⟨8,[],pt jb4⟩,⟨10,[],.slice a78 o.l.length cap79⟩,⟨11,[],.slice a78 o.l.length cap79⟩,⟨35,[],.slice ao ops.length co⟩,⟨36,[],.int .i64 ((ops.length : Nat) : Int)⟩,⟨37,[],.int .i64 (IntKind.wrap .i64 (((k : Nat) : Int)+1))⟩]) kr (by simp only [hw91])) ?_
       refine N_heap (H':=((jAt jb4 d3 (jOf o.l true) ja87 jc88)::jr89::g76::[(b1,.cells #[.int .i64 at0,.int .i64 at1] 64 (0,0))]::(s13.G d3 M2++(G++H)))) (fun w h=>((h.erase 4).erase 3)) ?_
       refine N_round (s':=(k+1,o.l,true,s13,M2,ja87,jc88,jr89,a78,cap79,g76)) [2,4,7,8,10,11,35,36,37] kr rfl ⟨(by omega),(by dsimp only; omega),hst2,(by dsimp only; omega),hsc2,hs13,ho90,hO77⟩ (by omega)
      ·
       have hsc2 := sc_rep' hsc (by omega) hadd
       refine G_region ?_
       refine GL_pure (E':=[⟨70,[],.pointer (some ⟨b10,3,none⟩)⟩,⟨69,[],pt jb4⟩,⟨2,[],.slice ka l.length kc⟩,⟨4,[],pt b1⟩,⟨7,[],pt d3⟩,⟨8,[],pt jb4⟩,⟨10,[],.slice na A.length nc⟩,⟨11,[],.slice a78 o.l.length cap79⟩,⟨35,[],.slice ao ops.length co⟩,⟨36,[],.int .i64 ((ops.length : Nat) : Int)⟩,⟨37,[],.int .i64 ((k : Nat) : Int)⟩]) [0,0] kr (j:=2) rfl ?_
       refine GL_load (i:=2) (ch:=[]) (b:=b10) (off:=3) (v:=.slice o.la o.l.length o.lc) rfl rfl kr kr kr kr kr (At.grp 1 0 rfl rfl) rfl ?_
       refine GL_heap rfl (H':=((jAt jb4 d3 (jOf A th) ja jc)::jr::g76::[(b10,.cells #[.int .i64 o.kind,.int .i64 o.n,.string o.t,.slice o.la o.l.length o.lc,.slice o.ka o.k.length o.kc] 51 (0,0))]::ng::[(b1,.cells #[.int .i64 at0,.int .i64 at1] 64 (0,0))]::(s.G d3 M++(G++H)))) (fun w h=>((h.front (j:=3) rfl).front (j:=3) rfl)) ?_
       refine GL_call (i:=3) (ch:=[]) (f:=18) (fst:=#[]) (caps:=#[]) (vs:=[pt jb4,.slice o.la o.l.length o.lc]) rfl rfl rfl kr kr Tryz.func18 rfl rfl kr kr (chSure_of kr) (jRep (ts:=o.l) hs (sc_room hsc (by omega)) (jOf_small (by omega)) (by omega) hadd ([g76,[(b10,.cells #[.int .i64 o.kind,.int .i64 o.n,.string o.t,.slice o.la o.l.length o.lc,.slice o.ka o.k.length o.kc] 51 (0,0))],ng,[(b1,.cells #[.int .i64 at0,.int .i64 at1] 64 (0,0))]] : List Grp) jb4 d3 ho_ o.la o.lc So hO.l hO.ln _ (G++H) (fun y o h=>at_up (hO.at_ y o h))) ?_
       rintro v H' ⟨ja92, jc93, jr94, s15, rfl, ho95, hs15, rfl⟩
       refine GL_fin (E':=[⟨2,[],.slice ka l.length kc⟩,⟨4,[],pt b1⟩,⟨7,[],pt d3⟩,⟨8,[],pt jb4⟩,⟨10,[],.slice na A.length nc⟩,⟨11,[],.slice a78 o.l.length cap79⟩,⟨14,[],.int .i64 62⟩,⟨35,[],.slice ao ops.length co⟩,⟨36,[],.int .i64 ((ops.length : Nat) : Int)⟩,⟨37,[],.int .i64 ((k : Nat) : Int)⟩]) [0] [2,4,7,8,10,11,14,35,36,37] rfl kr ?_
       refine N_then ?_
       refine G_seq ?_
       refine G_seq ?_
       refine G_pure (E':=[⟨2,[],.slice ka l.length kc⟩,⟨4,[],pt b1⟩,⟨7,[],pt d3⟩,⟨8,[],pt jb4⟩,⟨10,[],.slice na A.length nc⟩,⟨11,[],.slice a78 o.l.length cap79⟩,⟨14,[],.int .i64 62⟩,⟨35,[],.slice ao ops.length co⟩,⟨36,[],.int .i64 ((ops.length : Nat) : Int)⟩,⟨37,[],.int .i64 ((k : Nat) : Int)⟩,⟨74,[],.bool false⟩]) [0,0] [2,4,7,8,10,11,14,35,36,37,74] rfl kr ?_
       refine N_then ?_
       refine G_condf kr ?_
       refine G_skip ?_
       refine N_then ?_
       refine G_seq ?_
       refine G_seq ?_
       refine G_pure (E':=[⟨2,[],.slice ka l.length kc⟩,⟨4,[],pt b1⟩,⟨7,[],pt d3⟩,⟨8,[],pt jb4⟩,⟨10,[],.slice na A.length nc⟩,⟨11,[],.slice a78 o.l.length cap79⟩,⟨35,[],.slice ao ops.length co⟩,⟨36,[],.int .i64 ((ops.length : Nat) : Int)⟩,⟨37,[],.int .i64 ((k : Nat) : Int)⟩,⟨77,[],.bool true⟩]) [0,0] [2,4,7,8,10,11,35,36,37,77] rfl kr ?_
       refine N_then ?_
       refine G_condt kr ?_
       refine G_exit ?_
       refine N_then_exit ?_
       refine N_block_other rfl ?_
       refine N_then_exit ?_
       refine N_then_exit ?_
       refine N_block_exit ?_
       refine N_heap (H':=((ng++g76)::[(b1,.cells #[.int .i64 at0,.int .i64 at1] 64 (0,0))]::(s15.G d3 M2++(G++H)))) (fun w h=>Sat.flat ((((((h.front (j:=5) rfl).front (j:=3) rfl).front (j:=5) rfl).erase 5).erase 4).erase 3) (List.Perm.of_eq (by simp))) ?_
       refine N_join (A,o.l,s15,M2,na,nc,a78,cap79,(ng++g76)) [2,4,7,10,11] kr (fun w h=>h) ⟨hcr,(Scr.mono hsc2 (by omega)),hs15,(own_fst hno),(own_snd hO77),(by dsimp only; omega),(by dsimp only; (try rw [List.length_append]); (try show A.length+1 ≤ 100000); omega)⟩
   ·
    replace hc9 := of_decide_eq_false hc9
    refine G_exit ?_
    refine N_then_exit ?_
    refine N_then_exit ?_
    refine N_block_exit ?_
    refine N_heap (H':=(ng::[(b1,.cells #[.int .i64 at0,.int .i64 at1] 64 (0,0))]::(s.G d3 M++(G++H)))) (fun w h=>((h.erase 1).erase 0)) ?_
    refine N_join (A,A,s,M,na,nc,na,nc,ng) [2,4,7,10,11] kr (fun w h=>h) ⟨(good_sett hst),(Scr.mono hsc (by omega)),hs,(own_rd hno),(own_rd hno),(by dsimp only; omega),(by dsimp only; (try rw [List.length_append]); (try show A.length+1 ≤ 100000); omega)⟩
  ·
   rintro ⟨A, B, s, M, na, nc, xa, xc, rg⟩ ⟨hC, hsc, hs, hra, hrb, hAl, hBl⟩
   dsimp only at hC hsc hs hra hrb hAl hBl
   refine N_then ?_
   refine G_seq ?_
   refine G_region ?_
   refine GL_pure (E':=[⟨81,[],.slice ka l.length kc⟩,⟨80,[],pt d3⟩,⟨2,[],.slice ka l.length kc⟩,⟨4,[],pt b1⟩,⟨7,[],pt d3⟩,⟨10,[],.slice na A.length nc⟩,⟨11,[],.slice xa B.length xc⟩]) [0,0] kr (j:=2) rfl ?_
   obtain ⟨lg, hB1, hL1⟩ := crash2_get hC l
   refine GL_call (i:=2) (ch:=[]) (f:=28) (fst:=#[]) (caps:=#[]) (vs:=[pt d3,.slice ka l.length kc]) rfl rfl rfl kr kr Tryz.func28 rfl rfl kr kr (chSure_of kr) (dCrash (M':=(crashM M l)) hs (sc_room hsc (by omega)).small d3 l ka kc Sk hK [rg,[(b1,.cells #[.int .i64 at0,.int .i64 at1] 64 (0,0))]] _ (G++H) (fun y o h=>at_up (hSk y o h)) rfl) ?_
   rintro v H' ⟨rfl, s16, hs16, rfl⟩
   refine GL_fin (E':=[⟨2,[],.slice ka l.length kc⟩,⟨4,[],pt b1⟩,⟨7,[],pt d3⟩,⟨10,[],.slice na A.length nc⟩,⟨11,[],.slice xa B.length xc⟩]) [] [2,4,7,10,11] rfl kr ?_
   refine N_then ?_
   refine G_seq ?_
   refine G_region ?_
   refine GL_pure (E':=[⟨83,[],pt d3⟩,⟨2,[],.slice ka l.length kc⟩,⟨4,[],pt b1⟩,⟨7,[],pt d3⟩,⟨10,[],.slice na A.length nc⟩,⟨11,[],.slice xa B.length xc⟩]) [0] kr (j:=1) rfl ?_
   refine GL_indexArr (i:=1) (ch:=[]) (b:=b1) (off:=0) (len:=2) (sz:=1) (e:=3) (kd:=.i64) (j:=1) rfl rfl kr kr kr kr kr kr kr (fun _=>⟨by decide,by decide⟩) ?_
   refine GL_load (i:=2) (ch:=[]) (b:=b1) (off:=1) (v:=.int .i64 at1) rfl rfl kr kr kr kr kr (At.grp 1 0 rfl rfl) rfl ?_
   refine GL_pure (E':=[⟨88,[],.int .i64 (IntKind.wrap .i64 (Int.tmod (IntKind.wrap .u64 at1) 6))⟩,⟨83,[],pt d3⟩,⟨2,[],.slice ka l.length kc⟩,⟨7,[],pt d3⟩,⟨10,[],.slice na A.length nc⟩,⟨11,[],.slice xa B.length xc⟩]) [0,0,0] kr (j:=6) rfl ?_
   refine GL_call (i:=6) (ch:=[]) (f:=24) (fst:=#[]) (caps:=#[]) (vs:=[pt d3,.int .i64 (IntKind.wrap .i64 (Int.tmod (IntKind.wrap .u64 at1) 6)),.bool false]) rfl rfl rfl kr kr Tryz.func24 rfl rfl kr kr (chSure_of kr) (dFail hs16 d3 (IntKind.wrap .i64 (Int.tmod (IntKind.wrap .u64 at1) 6)) false [rg,[(b1,.cells #[.int .i64 at0,.int .i64 at1] 64 (0,0))]] _ (G++H) rfl) ?_
   rintro v H' ⟨rfl, s17, hs17, rfl⟩
   refine GL_fin (E':=[⟨2,[],.slice ka l.length kc⟩,⟨7,[],pt d3⟩,⟨10,[],.slice na A.length nc⟩,⟨11,[],.slice xa B.length xc⟩]) [] [2,7,10,11] rfl kr ?_
   refine N_then ?_
   refine G_seq ?_
   rcases open_out (base_fail hB1 (IntKind.wrap .i64 (Int.tmod (IntKind.wrap .u64 at1) 6))) with ⟨jx, M2, hox, hjx, hkx, _⟩ | ⟨_, M2, hox, hkx⟩
   ·
    have hsc2 := sc_open' (scr_fail (scr_crash hsc l) (i64_in _) false) hox
    refine G_region ?_
    refine GL_pure (E':=[⟨90,[],pt d3⟩,⟨2,[],.slice ka l.length kc⟩,⟨7,[],pt d3⟩,⟨10,[],.slice na A.length nc⟩,⟨11,[],.slice xa B.length xc⟩]) [0] kr (j:=1) rfl ?_
    refine GL_call (i:=1) (ch:=[]) (f:=10) (fst:=#[]) (caps:=#[]) (vs:=[pt d3,.string (ByteArray.mk #[106])]) rfl rfl rfl kr kr Tryz.func10 rfl rfl kr kr (chSure_of kr) (jOpen hs17 (sc_room (scr_fail (scr_crash hsc l) (i64_in _) false) (by omega)) (by decide) hox ([rg,[(b1,.cells #[.int .i64 at0,.int .i64 at1] 64 (0,0))]] : List Grp) d3 _ (G++H)) ?_
    rintro v H' ⟨jb96, ja97, jc98, jr99, s18, rfl, ho100, hs18, rfl⟩
    refine GL_fin (E':=[⟨2,[],.slice ka l.length kc⟩,⟨7,[],pt d3⟩,⟨10,[],.slice na A.length nc⟩,⟨11,[],.slice xa B.length xc⟩]) [] [2,7,10,11] rfl kr ?_
    refine N_then ?_
    refine G_seq ?_
    refine G_region ?_
    refine GL_pure (E':=[⟨93,[],.slice ka l.length kc⟩,⟨92,[],pt d3⟩,⟨7,[],pt d3⟩,⟨10,[],.slice na A.length nc⟩,⟨11,[],.slice xa B.length xc⟩]) [0,0] kr (j:=2) rfl ?_
    obtain ⟨lg2, hB2, hL2⟩ := hkx l
    obtain ⟨j3, M3, ho3, hj3, hjs3⟩ := open_last hB2 rfl
    refine GL_call (i:=2) (ch:=[]) (f:=28) (fst:=#[]) (caps:=#[]) (vs:=[pt d3,.slice ka l.length kc]) rfl rfl rfl kr kr Tryz.func28 rfl rfl kr kr (chSure_of kr) (dCrash (M':=(crashM M2 l)) hs18 (sc_room hsc2 (by omega)).small d3 l ka kc Sk hK [(jAt jb96 d3 jx ja97 jc98),jr99,rg,[(b1,.cells #[.int .i64 at0,.int .i64 at1] 64 (0,0))]] _ (G++H) (fun y o h=>at_up (hSk y o h)) rfl) ?_
    rintro v H' ⟨rfl, s19, hs19, rfl⟩
    refine GL_fin (E':=[⟨7,[],pt d3⟩,⟨10,[],.slice na A.length nc⟩,⟨11,[],.slice xa B.length xc⟩]) [] [7,10,11] rfl kr ?_
    refine N_then ?_
    refine G_seq ?_
    refine G_region ?_
    refine GL_pure (E':=[⟨96,[],pt d3⟩,⟨10,[],.slice na A.length nc⟩,⟨11,[],.slice xa B.length xc⟩]) [0] kr (j:=1) rfl ?_
    refine GL_call (i:=1) (ch:=[]) (f:=10) (fst:=#[]) (caps:=#[]) (vs:=[pt d3,.string (ByteArray.mk #[106])]) rfl rfl rfl kr kr Tryz.func10 rfl rfl kr kr (chSure_of kr) (jOpen hs19 (sc_room (scr_crash hsc2 l) (by omega)) (by decide) ho3 ([(jAt jb96 d3 jx ja97 jc98),jr99,rg,[(b1,.cells #[.int .i64 at0,.int .i64 at1] 64 (0,0))]] : List Grp) d3 _ (G++H)) ?_
    rintro v H' ⟨jb101, ja102, jc103, jr104, s20, rfl, ho105, hs20, rfl⟩
    refine GL_fin (E':=[⟨10,[],.slice na A.length nc⟩,⟨11,[],.slice xa B.length xc⟩,⟨15,[],pt jb101⟩,⟨16,[],.int .i64 0⟩]) [0,0,0,0,0] [10,11,15,16] rfl kr ?_
    refine N_then ?_
    refine G_seq ?_
    by_cases hA : j3.L = A
    ·
     refine G_region ?_
     refine GL_pure (E':=[⟨103,[(102,true)],pt jb101⟩,⟨102,[],.bool true⟩,⟨10,[],.slice na A.length nc⟩,⟨11,[],.slice xa B.length xc⟩,⟨15,[],pt jb101⟩]) [0,0,0,0] kr (j:=4) rfl ?_
     refine GL_call (i:=4) (ch:=[(102,true)]) (f:=15) (fst:=#[]) (caps:=#[]) (vs:=[pt jb101]) rfl rfl rfl kr kr Tryz.func15 rfl rfl kr kr (chSure_of kr) (jRecords hjs3 jb101 d3 ho105 _ _) ?_
     rintro v H' ⟨la106, lc107, lg108, rfl, hrd109, rfl⟩
     refine GL_pure (E':=[⟨105,[(102,true)],.slice na A.length nc⟩,⟨104,[(102,true)],.slice la106 j3.L.length lc107⟩,⟨102,[],.bool true⟩,⟨11,[],.slice xa B.length xc⟩,⟨15,[],pt jb101⟩]) [0] kr (j:=6) rfl ?_
     refine GL_callQ (i:=6) (ch:=[(102,true)]) (f:=14) (fst:=#[]) (caps:=#[]) (vs:=[.slice la106 j3.L.length lc107,.slice na A.length nc]) (v:=.bool (decide (j3.L = A))) rfl rfl rfl kr kr Tryz.func14 rfl rfl kr kr kr (fun hc=>same_ la106 lc107 j3.L (inG lg108) hrd109 (by have:=hjs3.len; omega) na nc A (inG rg) hra (by omega) _ _ (at_inG 0 rfl) (at_inG 5 rfl)) ?_
     refine GL_env (E':=[⟨106,[(102,true)],.bool true⟩,⟨105,[(102,true)],.slice na A.length nc⟩,⟨104,[(102,true)],.slice la106 j3.L.length lc107⟩,⟨102,[],.bool true⟩,⟨11,[],.slice xa B.length xc⟩,⟨15,[],pt jb101⟩]) (by have hz : ([⟨106,[(102,true)],.bool (decide (j3.L = A))⟩,⟨105,[(102,true)],.slice na A.length nc⟩,⟨104,[(102,true)],.slice la106 j3.L.length lc107⟩,⟨102,[],.bool true⟩,⟨11,[],.slice xa B.length xc⟩,⟨15,[],pt jb101⟩] : List Sl) = [⟨106,[(102,true)],.bool true⟩,⟨105,[(102,true)],.slice na A.length nc⟩,⟨104,[(102,true)],.slice la106 j3.L.length lc107⟩,⟨102,[],.bool true⟩,⟨11,[],.slice xa B.length xc⟩,⟨15,[],pt jb101⟩]:=(by rw [decide_eq_true hA]); exact Eq.trans kr hz) ?_
     refine GL_fin (E':=[⟨6,[],.bool true⟩]) [0,1,1,1,1,2,2,0] [6] rfl kr ?_
     refine N_then ?_
     refine G_ret ?_
     refine N_ret [.tmp 6] [.bool true] rfl kr rfl ?_
     exact ⟨rfl, [lg108, (jAt jb101 d3 j3 ja102 jc103), jr104, (jAt jb96 d3 jx ja97 jc98), jr99, rg, [(b1, .cells #[.int .i64 at0, .int .i64 at1] 64 (0, 0))]] ++ (s20.G d3 M3 ++ G), by simp⟩
    ·
     have hBq : j3.L = B := by (rcases hL1 with h | h; exact absurd ((hj3.trans hL2).trans h) hA; exact (hj3.trans hL2).trans h)
     refine G_region ?_
     refine GL_pure (E':=[⟨103,[(102,true)],pt jb101⟩,⟨102,[],.bool true⟩,⟨10,[],.slice na A.length nc⟩,⟨11,[],.slice xa B.length xc⟩,⟨15,[],pt jb101⟩]) [0,0,0,0] kr (j:=4) rfl ?_
     refine GL_call (i:=4) (ch:=[(102,true)]) (f:=15) (fst:=#[]) (caps:=#[]) (vs:=[pt jb101]) rfl rfl rfl kr kr Tryz.func15 rfl rfl kr kr (chSure_of kr) (jRecords hjs3 jb101 d3 ho105 _ _) ?_
     rintro v H' ⟨la110, lc111, lg112, rfl, hrd113, rfl⟩
     refine GL_pure (E':=[⟨105,[(102,true)],.slice na A.length nc⟩,⟨104,[(102,true)],.slice la110 j3.L.length lc111⟩,⟨102,[],.bool true⟩,⟨11,[],.slice xa B.length xc⟩,⟨15,[],pt jb101⟩]) [0] kr (j:=6) rfl ?_
     refine GL_callQ (i:=6) (ch:=[(102,true)]) (f:=14) (fst:=#[]) (caps:=#[]) (vs:=[.slice la110 j3.L.length lc111,.slice na A.length nc]) (v:=.bool (decide (j3.L = A))) rfl rfl rfl kr kr Tryz.func14 rfl rfl kr kr kr (fun hc=>same_ la110 lc111 j3.L (inG lg112) hrd113 (by have:=hjs3.len; omega) na nc A (inG rg) hra (by omega) _ _ (at_inG 0 rfl) (at_inG 5 rfl)) ?_
     refine GL_env (E':=[⟨106,[(102,true)],.bool false⟩,⟨105,[(102,true)],.slice na A.length nc⟩,⟨104,[(102,true)],.slice la110 j3.L.length lc111⟩,⟨102,[],.bool true⟩,⟨11,[],.slice xa B.length xc⟩,⟨15,[],pt jb101⟩]) (by have hz : ([⟨106,[(102,true)],.bool (decide (j3.L = A))⟩,⟨105,[(102,true)],.slice na A.length nc⟩,⟨104,[(102,true)],.slice la110 j3.L.length lc111⟩,⟨102,[],.bool true⟩,⟨11,[],.slice xa B.length xc⟩,⟨15,[],pt jb101⟩] : List Sl) = [⟨106,[(102,true)],.bool false⟩,⟨105,[(102,true)],.slice na A.length nc⟩,⟨104,[(102,true)],.slice la110 j3.L.length lc111⟩,⟨102,[],.bool true⟩,⟨11,[],.slice xa B.length xc⟩,⟨15,[],pt jb101⟩]:=(by rw [decide_eq_false hA]); exact Eq.trans kr hz) ?_
     refine GL_pure (E':=[⟨108,[(107,false),(102,true)],pt jb101⟩,⟨107,[(102,true)],.bool false⟩,⟨102,[],.bool true⟩,⟨11,[],.slice xa B.length xc⟩]) [0,0] kr (j:=9) rfl ?_
     refine GL_heap rfl (H':=((jAt jb101 d3 j3 ja102 jc103)::jr104::lg112::(jAt jb96 d3 jx ja97 jc98)::jr99::rg::[(b1,.cells #[.int .i64 at0,.int .i64 at1] 64 (0,0))]::(s20.G d3 M3++(G++H)))) (fun w h=>((h.front (j:=2) rfl).front (j:=2) rfl)) ?_
     refine GL_call (i:=9) (ch:=[(107,false),(102,true)]) (f:=15) (fst:=#[]) (caps:=#[]) (vs:=[pt jb101]) rfl rfl rfl kr kr Tryz.func15 rfl rfl kr kr (chSure_of kr) (jRecords hjs3 jb101 d3 ho105 _ _) ?_
     rintro v H' ⟨la114, lc115, lg116, rfl, hrd117, rfl⟩
     refine GL_pure (E':=[⟨110,[(107,false),(102,true)],.slice xa B.length xc⟩,⟨109,[(107,false),(102,true)],.slice la114 j3.L.length lc115⟩,⟨107,[(102,true)],.bool false⟩,⟨102,[],.bool true⟩]) [0] kr (j:=11) rfl ?_
     refine GL_callQ (i:=11) (ch:=[(107,false),(102,true)]) (f:=14) (fst:=#[]) (caps:=#[]) (vs:=[.slice la114 j3.L.length lc115,.slice xa B.length xc]) (v:=.bool (decide (j3.L = B))) rfl rfl rfl kr kr Tryz.func14 rfl rfl kr kr kr (fun hc=>same_ la114 lc115 j3.L (inG lg116) hrd117 (by have:=hjs3.len; omega) xa xc B (inG rg) hrb (by omega) _ _ (at_inG 0 rfl) (at_inG 6 rfl)) ?_
     refine GL_env (E':=[⟨111,[(107,false),(102,true)],.bool true⟩,⟨110,[(107,false),(102,true)],.slice xa B.length xc⟩,⟨109,[(107,false),(102,true)],.slice la114 j3.L.length lc115⟩,⟨107,[(102,true)],.bool false⟩,⟨102,[],.bool true⟩]) (by have hz : ([⟨111,[(107,false),(102,true)],.bool (decide (j3.L = B))⟩,⟨110,[(107,false),(102,true)],.slice xa B.length xc⟩,⟨109,[(107,false),(102,true)],.slice la114 j3.L.length lc115⟩,⟨107,[(102,true)],.bool false⟩,⟨102,[],.bool true⟩] : List Sl) = [⟨111,[(107,false),(102,true)],.bool true⟩,⟨110,[(107,false),(102,true)],.slice xa B.length xc⟩,⟨109,[(107,false),(102,true)],.slice la114 j3.L.length lc115⟩,⟨107,[(102,true)],.bool false⟩,⟨102,[],.bool true⟩]:=(by rw [decide_eq_true hBq]); exact Eq.trans kr hz) ?_
     refine GL_fin (E':=[⟨6,[],.bool true⟩]) [3,2,0] [6] rfl kr ?_
     refine N_then ?_
     refine G_ret ?_
     refine N_ret [.tmp 6] [.bool true] rfl kr rfl ?_
     exact ⟨rfl, [lg116, (jAt jb101 d3 j3 ja102 jc103), jr104, lg112, (jAt jb96 d3 jx ja97 jc98), jr99, rg, [(b1, .cells #[.int .i64 at0, .int .i64 at1] 64 (0, 0))]] ++ (s20.G d3 M3 ++ G), by simp⟩
   ·
    have hsc2 := sc_open' (scr_fail (scr_crash hsc l) (i64_in _) false) hox
    refine G_region ?_
    refine GL_pure (E':=[⟨90,[],pt d3⟩,⟨2,[],.slice ka l.length kc⟩,⟨7,[],pt d3⟩,⟨10,[],.slice na A.length nc⟩,⟨11,[],.slice xa B.length xc⟩]) [0] kr (j:=1) rfl ?_
    refine GL_call (i:=1) (ch:=[]) (f:=10) (fst:=#[]) (caps:=#[]) (vs:=[pt d3,.string (ByteArray.mk #[106])]) rfl rfl rfl kr kr Tryz.func10 rfl rfl kr kr (chSure_of kr) (jOpenNo hs17 (sc_room (scr_fail (scr_crash hsc l) (i64_in _) false) (by omega)) (by decide) hox ([rg,[(b1,.cells #[.int .i64 at0,.int .i64 at1] 64 (0,0))]] : List Grp) d3 _ (G++H)) ?_
    rintro v H' ⟨rfl, s21, hs21, rfl⟩
    refine GL_fin (E':=[⟨2,[],.slice ka l.length kc⟩,⟨7,[],pt d3⟩,⟨10,[],.slice na A.length nc⟩,⟨11,[],.slice xa B.length xc⟩]) [] [2,7,10,11] rfl kr ?_
    refine N_then ?_
    refine G_seq ?_
    refine G_region ?_
    refine GL_pure (E':=[⟨93,[],.slice ka l.length kc⟩,⟨92,[],pt d3⟩,⟨7,[],pt d3⟩,⟨10,[],.slice na A.length nc⟩,⟨11,[],.slice xa B.length xc⟩]) [0,0] kr (j:=2) rfl ?_
    obtain ⟨lg2, hB2, hL2⟩ := hkx l
    obtain ⟨j3, M3, ho3, hj3, hjs3⟩ := open_last hB2 rfl
    refine GL_call (i:=2) (ch:=[]) (f:=28) (fst:=#[]) (caps:=#[]) (vs:=[pt d3,.slice ka l.length kc]) rfl rfl rfl kr kr Tryz.func28 rfl rfl kr kr (chSure_of kr) (dCrash (M':=(crashM M2 l)) hs21 (sc_room hsc2 (by omega)).small d3 l ka kc Sk hK [rg,[(b1,.cells #[.int .i64 at0,.int .i64 at1] 64 (0,0))]] _ (G++H) (fun y o h=>at_up (hSk y o h)) rfl) ?_
    rintro v H' ⟨rfl, s22, hs22, rfl⟩
    refine GL_fin (E':=[⟨7,[],pt d3⟩,⟨10,[],.slice na A.length nc⟩,⟨11,[],.slice xa B.length xc⟩]) [] [7,10,11] rfl kr ?_
    refine N_then ?_
    refine G_seq ?_
    refine G_region ?_
    refine GL_pure (E':=[⟨96,[],pt d3⟩,⟨10,[],.slice na A.length nc⟩,⟨11,[],.slice xa B.length xc⟩]) [0] kr (j:=1) rfl ?_
    refine GL_call (i:=1) (ch:=[]) (f:=10) (fst:=#[]) (caps:=#[]) (vs:=[pt d3,.string (ByteArray.mk #[106])]) rfl rfl rfl kr kr Tryz.func10 rfl rfl kr kr (chSure_of kr) (jOpen hs22 (sc_room (scr_crash hsc2 l) (by omega)) (by decide) ho3 ([rg,[(b1,.cells #[.int .i64 at0,.int .i64 at1] 64 (0,0))]] : List Grp) d3 _ (G++H)) ?_
    rintro v H' ⟨jb118, ja119, jc120, jr121, s23, rfl, ho122, hs23, rfl⟩
    refine GL_fin (E':=[⟨10,[],.slice na A.length nc⟩,⟨11,[],.slice xa B.length xc⟩,⟨15,[],pt jb118⟩,⟨16,[],.int .i64 0⟩]) [0,0,0,0,0] [10,11,15,16] rfl kr ?_
    refine N_then ?_
    refine G_seq ?_
    by_cases hA : j3.L = A
    ·
     refine G_region ?_
     refine GL_pure (E':=[⟨103,[(102,true)],pt jb118⟩,⟨102,[],.bool true⟩,⟨10,[],.slice na A.length nc⟩,⟨11,[],.slice xa B.length xc⟩,⟨15,[],pt jb118⟩]) [0,0,0,0] kr (j:=4) rfl ?_
     refine GL_call (i:=4) (ch:=[(102,true)]) (f:=15) (fst:=#[]) (caps:=#[]) (vs:=[pt jb118]) rfl rfl rfl kr kr Tryz.func15 rfl rfl kr kr (chSure_of kr) (jRecords hjs3 jb118 d3 ho122 _ _) ?_
     rintro v H' ⟨la123, lc124, lg125, rfl, hrd126, rfl⟩
     refine GL_pure (E':=[⟨105,[(102,true)],.slice na A.length nc⟩,⟨104,[(102,true)],.slice la123 j3.L.length lc124⟩,⟨102,[],.bool true⟩,⟨11,[],.slice xa B.length xc⟩,⟨15,[],pt jb118⟩]) [0] kr (j:=6) rfl ?_
     refine GL_callQ (i:=6) (ch:=[(102,true)]) (f:=14) (fst:=#[]) (caps:=#[]) (vs:=[.slice la123 j3.L.length lc124,.slice na A.length nc]) (v:=.bool (decide (j3.L = A))) rfl rfl rfl kr kr Tryz.func14 rfl rfl kr kr kr (fun hc=>same_ la123 lc124 j3.L (inG lg125) hrd126 (by have:=hjs3.len; omega) na nc A (inG rg) hra (by omega) _ _ (at_inG 0 rfl) (at_inG 3 rfl)) ?_
     refine GL_env (E':=[⟨106,[(102,true)],.bool true⟩,⟨105,[(102,true)],.slice na A.length nc⟩,⟨104,[(102,true)],.slice la123 j3.L.length lc124⟩,⟨102,[],.bool true⟩,⟨11,[],.slice xa B.length xc⟩,⟨15,[],pt jb118⟩]) (by have hz : ([⟨106,[(102,true)],.bool (decide (j3.L = A))⟩,⟨105,[(102,true)],.slice na A.length nc⟩,⟨104,[(102,true)],.slice la123 j3.L.length lc124⟩,⟨102,[],.bool true⟩,⟨11,[],.slice xa B.length xc⟩,⟨15,[],pt jb118⟩] : List Sl) = [⟨106,[(102,true)],.bool true⟩,⟨105,[(102,true)],.slice na A.length nc⟩,⟨104,[(102,true)],.slice la123 j3.L.length lc124⟩,⟨102,[],.bool true⟩,⟨11,[],.slice xa B.length xc⟩,⟨15,[],pt jb118⟩]:=(by rw [decide_eq_true hA]); exact Eq.trans kr hz) ?_
     refine GL_fin (E':=[⟨6,[],.bool true⟩]) [0,1,1,1,1,2,2,0] [6] rfl kr ?_
     refine N_then ?_
     refine G_ret ?_
     refine N_ret [.tmp 6] [.bool true] rfl kr rfl ?_
     exact ⟨rfl, [lg125, (jAt jb118 d3 j3 ja119 jc120), jr121, rg, [(b1, .cells #[.int .i64 at0, .int .i64 at1] 64 (0, 0))]] ++ (s23.G d3 M3 ++ G), by simp⟩
    ·
     have hBq : j3.L = B := by (rcases hL1 with h | h; exact absurd ((hj3.trans hL2).trans h) hA; exact (hj3.trans hL2).trans h)
     refine G_region ?_
     refine GL_pure (E':=[⟨103,[(102,true)],pt jb118⟩,⟨102,[],.bool true⟩,⟨10,[],.slice na A.length nc⟩,⟨11,[],.slice xa B.length xc⟩,⟨15,[],pt jb118⟩]) [0,0,0,0] kr (j:=4) rfl ?_
     refine GL_call (i:=4) (ch:=[(102,true)]) (f:=15) (fst:=#[]) (caps:=#[]) (vs:=[pt jb118]) rfl rfl rfl kr kr Tryz.func15 rfl rfl kr kr (chSure_of kr) (jRecords hjs3 jb118 d3 ho122 _ _) ?_
     rintro v H' ⟨la127, lc128, lg129, rfl, hrd130, rfl⟩
     refine GL_pure (E':=[⟨105,[(102,true)],.slice na A.length nc⟩,⟨104,[(102,true)],.slice la127 j3.L.length lc128⟩,⟨102,[],.bool true⟩,⟨11,[],.slice xa B.length xc⟩,⟨15,[],pt jb118⟩]) [0] kr (j:=6) rfl ?_
     refine GL_callQ (i:=6) (ch:=[(102,true)]) (f:=14) (fst:=#[]) (caps:=#[]) (vs:=[.slice la127 j3.L.length lc128,.slice na A.length nc]) (v:=.bool (decide (j3.L = A))) rfl rfl rfl kr kr Tryz.func14 rfl rfl kr kr kr (fun hc=>same_ la127 lc128 j3.L (inG lg129) hrd130 (by have:=hjs3.len; omega) na nc A (inG rg) hra (by omega) _ _ (at_inG 0 rfl) (at_inG 3 rfl)) ?_
     refine GL_env (E':=[⟨106,[(102,true)],.bool false⟩,⟨105,[(102,true)],.slice na A.length nc⟩,⟨104,[(102,true)],.slice la127 j3.L.length lc128⟩,⟨102,[],.bool true⟩,⟨11,[],.slice xa B.length xc⟩,⟨15,[],pt jb118⟩]) (by have hz : ([⟨106,[(102,true)],.bool (decide (j3.L = A))⟩,⟨105,[(102,true)],.slice na A.length nc⟩,⟨104,[(102,true)],.slice la127 j3.L.length lc128⟩,⟨102,[],.bool true⟩,⟨11,[],.slice xa B.length xc⟩,⟨15,[],pt jb118⟩] : List Sl) = [⟨106,[(102,true)],.bool false⟩,⟨105,[(102,true)],.slice na A.length nc⟩,⟨104,[(102,true)],.slice la127 j3.L.length lc128⟩,⟨102,[],.bool true⟩,⟨11,[],.slice xa B.length xc⟩,⟨15,[],pt jb118⟩]:=(by rw [decide_eq_false hA]); exact Eq.trans kr hz) ?_
     refine GL_pure (E':=[⟨108,[(107,false),(102,true)],pt jb118⟩,⟨107,[(102,true)],.bool false⟩,⟨102,[],.bool true⟩,⟨11,[],.slice xa B.length xc⟩]) [0,0] kr (j:=9) rfl ?_
     refine GL_heap rfl (H':=((jAt jb118 d3 j3 ja119 jc120)::jr121::lg129::rg::[(b1,.cells #[.int .i64 at0,.int .i64 at1] 64 (0,0))]::(s23.G d3 M3++(G++H)))) (fun w h=>((h.front (j:=2) rfl).front (j:=2) rfl)) ?_
     refine GL_call (i:=9) (ch:=[(107,false),(102,true)]) (f:=15) (fst:=#[]) (caps:=#[]) (vs:=[pt jb118]) rfl rfl rfl kr kr Tryz.func15 rfl rfl kr kr (chSure_of kr) (jRecords hjs3 jb118 d3 ho122 _ _) ?_
     rintro v H' ⟨la131, lc132, lg133, rfl, hrd134, rfl⟩
     refine GL_pure (E':=[⟨110,[(107,false),(102,true)],.slice xa B.length xc⟩,⟨109,[(107,false),(102,true)],.slice la131 j3.L.length lc132⟩,⟨107,[(102,true)],.bool false⟩,⟨102,[],.bool true⟩]) [0] kr (j:=11) rfl ?_
     refine GL_callQ (i:=11) (ch:=[(107,false),(102,true)]) (f:=14) (fst:=#[]) (caps:=#[]) (vs:=[.slice la131 j3.L.length lc132,.slice xa B.length xc]) (v:=.bool (decide (j3.L = B))) rfl rfl rfl kr kr Tryz.func14 rfl rfl kr kr kr (fun hc=>same_ la131 lc132 j3.L (inG lg133) hrd134 (by have:=hjs3.len; omega) xa xc B (inG rg) hrb (by omega) _ _ (at_inG 0 rfl) (at_inG 4 rfl)) ?_
     refine GL_env (E':=[⟨111,[(107,false),(102,true)],.bool true⟩,⟨110,[(107,false),(102,true)],.slice xa B.length xc⟩,⟨109,[(107,false),(102,true)],.slice la131 j3.L.length lc132⟩,⟨107,[(102,true)],.bool false⟩,⟨102,[],.bool true⟩]) (by have hz : ([⟨111,[(107,false),(102,true)],.bool (decide (j3.L = B))⟩,⟨110,[(107,false),(102,true)],.slice xa B.length xc⟩,⟨109,[(107,false),(102,true)],.slice la131 j3.L.length lc132⟩,⟨107,[(102,true)],.bool false⟩,⟨102,[],.bool true⟩] : List Sl) = [⟨111,[(107,false),(102,true)],.bool true⟩,⟨110,[(107,false),(102,true)],.slice xa B.length xc⟩,⟨109,[(107,false),(102,true)],.slice la131 j3.L.length lc132⟩,⟨107,[(102,true)],.bool false⟩,⟨102,[],.bool true⟩]:=(by rw [decide_eq_true hBq]); exact Eq.trans kr hz) ?_
     refine GL_fin (E':=[⟨6,[],.bool true⟩]) [3,2,0] [6] rfl kr ?_
     refine N_then ?_
     refine G_ret ?_
     refine N_ret [.tmp 6] [.bool true] rfl kr rfl ?_
     exact ⟨rfl, [lg133, (jAt jb118 d3 j3 ja119 jc120), jr121, lg129, rg, [(b1, .cells #[.int .i64 at0, .int .i64 at1] 64 (0, 0))]] ++ (s23.G d3 M3 ++ G), by simp⟩
end Go.Proofs.YtlaoeiaaeifidaaGreat
namespace Go.Proofs.YtlaoeiaaeifidaaGreat
open Go Go.ChangeShapes Go.WideShapes Go.ChangeAt Go.RowKit Go.Sw Go.Vf Go.Jr
set_option maxRecDepth 100000 in
theorem journalKeeps_lifted (os : Os) (started : os.Started) (H : Type) (enc : TypeId × Value → H) :
    ReturnsInHanded {} Tryz.checked os 5 .any (Rows.journalKeepsSpec.pre6 enc Tryz.prog Tryz.f5 Rows.journalKeepsRow.domain false) (Rows.journalKeepsSpec.post enc Tryz.prog Tryz.f5 false true false false) := by
  refine returnsInHanded_of_change (C := Tryz.checked) ownKnob_ started (by kernel_rfl) Tryz.func5
    (ChangeSpec.witness6 (enc := enc) (C := Tryz.checked) false ⟨#[], #[.slice none 0 0, .agg #[.int .i64 0, .int .i64 0], .slice none 0 0], []⟩ 8 (by kernel_rfl) (by kernel_rfl) (by kernel_rfl) (by kernel_rfl)) ?_
  intro W base args ds gs before hval0 hW hcnd _
  have hval : ∀ (j : Nat) t v, Tryz.f5.params[j]? = some t → args[j]? = some v → Value.okWide Tryz.prog W .any base t v := hval0
  have hW' := hW
  obtain ⟨p, q, hA0, hV, rfl, _, _⟩ := hW
  have hA : DataW.TrodAll enc Tryz.prog W 0 (fun _ => true) true Tryz.f5.params.toList args.toList ds p := hA0
  rw [Tryz.params5] at hA hval
  obtain ⟨v0, v1, v2, d0, d1, d2, q0, q1, q2, rfl, rfl, rfl, h0, h1, h2⟩ := trodAll_three hA
  obtain ⟨rfl, rfl⟩ := trodVars_none hV
  obtain ⟨ao, co, ops, rfl, ho1, ho2, ho3, ho4⟩ := open_scriptJ (hval 0 43 v0 rfl rfl) h0
  obtain ⟨at0, at1, rfl⟩ := open_two (hval 1 64 v1 rfl rfl) h1
  obtain ⟨ka, kc, l, rfl, hk1, hk2, hk3, hk4⟩ := open_intsA (hval 2 49 v2 rfl rfl) h2
  simp only [List.append_nil] at hW'
  have hlt : ∀ x ∈ q0 ++ q1 ++ q2, x.block < W.heap.size := fun x hx => by simpa using hW'.lt x hx
  refine (journalKeeps_ ao ka co kc (SW W) (SW W) ops at0 at1 l W ho1 ho4 ho3 (fun y o h => sw_at h) hk1 hk2 hk3 hk4 (fun y o h => sw_at h) [] W (sat_nil W)).mono fun e W' ⟨v, H', he, ⟨hv, G, hH⟩, hs⟩ => ?_
  subst he; subst hv; subst hH
  have hb := hs.below
  refine ⟨_, rfl, ⟨_, _, _, [], q0 ++ q1 ++ q2, [], hW', trodAll_mk1 (shut_bool Tryz.underlying4 _), ?_, rfl, hb.frame _, fun h => by cases h⟩⟩
  have k0 := Below.trod laidOut_ (by kernel_rfl) (of_decide_eq_true (by kernel_rfl)) h0 hb (fun x hx => hlt x (by simp [hx]))
  have k1 := Below.trod laidOut_ (by kernel_rfl) (of_decide_eq_true (by kernel_rfl)) h1 hb (fun x hx => hlt x (by simp [hx]))
  have k2 := Below.trod laidOut_ (by kernel_rfl) (of_decide_eq_true (by kernel_rfl)) h2 hb (fun x hx => hlt x (by simp [hx]))
  have k := trodAll_mk3 k0 k1 k2
  rw [← List.append_assoc] at k
  exact k
theorem journalKeeps_said : Rows.JournalKeepsSaid :=
  OpenClaim.holds_of_wide 5 Tryz.f5 rfl rfl rfl rfl rfl rfl rfl ⟨rfl, rfl, rfl, rfl, rfl⟩ rfl rfl rfl rfl rfl (by kernel_rfl) Tryz.func5 (by kernel_rfl)
    (of_decide_eq_true (by kernel_rfl)) (by unfold Func.isWrapper; first | (rw [if_pos (by decide +kernel)]; kernel_rfl) | (rw [if_neg (by decide +kernel)]; exact ⟨rfl, rfl⟩))
    (fun os started H enc _ => journalKeeps_lifted os started H enc)
#print axioms journalKeeps_said
end Go.Proofs.YtlaoeiaaeifidaaGreat
