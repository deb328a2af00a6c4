/- What the document's answer reads in RSS, in words, and that the program reads the same. No program is in sight. -/
import Derived.Test.YtlglmomimhbeaaaGreatDoorSame
namespace Go.Proofs.YtlglmomimhbeaaaGreatDoor
open Go.Sw Go.Lib Go.Cal Go.Scn

/-! ## what the document reads -/
def placeB (w : ByteArray) : List ByteArray → Int → Int
  | [], _ => -1
  | x :: r, i => if (x.toList == w.toList) = true then i else placeB w r (i + 1)
def okD (a : ByteArray) : Bool := likeB a (ByteArray.mk #[57]) || likeB a (ByteArray.mk #[57, 57])
def okY (a : ByteArray) : Bool := likeB a (ByteArray.mk #[57, 57]) || likeB a (ByteArray.mk #[57, 57, 57, 57])
def okT (a : ByteArray) : Bool := likeB a (ByteArray.mk #[57, 57, 58, 57, 57]) || likeB a (ByteArray.mk #[57, 57, 58, 57, 57, 58, 57, 57])
def yearR (c : ByteArray) : Int := if c.size = 2 then (if rdig c < 50 then rdig c + 100 else rdig c) + 1900 else rdig c
def secR (d : ByteArray) : Int := if d.size = 8 then rdig (d.extract 6 d.size) else 0
def zoneT : List Int := [0, 0, 0, 5, 4, 6, 5, 7, 6, 8, 7]
def zoneR (e : ByteArray) : Option Int :=
  if placeB e zoneL 0 ≥ 0 then some (-3600 * zoneT.getD (placeB e zoneL 0).toNat 0) else bif (rOff e (ByteArray.mk #[])).2 then some (rOff e (ByteArray.mk #[])).1 else none
def core5 (a b c d e : ByteArray) : Option Int :=
  bif okD a && (okY c && okT d) then
    (match zoneR e with
      | none => none
      | some off => timeM (yearR c) (placeB b monL 0 + 1) (rdig a) (rdig (d.extract 0 2)) (rdig (d.extract 3 5)) (secR d) off)
  else none
def wat (ws : List ByteArray) (k : Nat) : ByteArray := ws.getD k default
def coreR (ws : List ByteArray) : Option Int := if ws.length = 5 then core5 (wat ws 0) (wat ws 1) (wat ws 2) (wat ws 3) (wat ws 4) else none
def weekR (ws : List ByteArray) : Option (List ByteArray) :=
  if ws.length = 6 then
    (if (wat ws 0).size = 4 ∧ byteAt (wat ws 0) 3 = 44 ∧ 0 ≤ placeB ((wat ws 0).extract 0 3) wkL 0 then some (ws.drop 1) else none)
  else some ws
/-- words by blanks: those that are over, and where the next begins -/
def wst (s : ByteArray) : Nat → List ByteArray × Nat
  | 0 => ([], 0)
  | i + 1 => if i = s.size ∨ byteAt s (i : Int) = 32 then ((wst s i).1 ++ [s.extract (wst s i).2 i], i + 1) else wst s i
def wordsB (s : ByteArray) : List ByteArray := (wst s (s.size + 1)).1
def refMailM (s : ByteArray) : Option Int := match weekR (wordsB s) with
  | none => none
  | some ws => coreR ws

/-! ## words as lists -/
def bf (a : List UInt8) : Prop := ∀ c ∈ a, c ≠ 32
def wordsL : List UInt8 → List (List UInt8)
  | [] => [[]]
  | c :: l => if c = 32 then [] :: wordsL l else (match wordsL l with | [] => [[c]] | w :: r => (c :: w) :: r)
theorem wordsL_ne : ∀ l, wordsL l ≠ []
  | [] => by simp [wordsL]
  | c :: l => by
    unfold wordsL
    split
    · simp
    · split <;> simp
theorem wordsL_app {a : List UInt8} (ha : bf a) (l : List UInt8) : wordsL (a ++ 32 :: l) = a :: wordsL l := by
  induction a with
  | nil => simp [wordsL]
  | cons c a ih =>
    have hc : c ≠ 32 := ha c List.mem_cons_self
    rw [List.cons_append, wordsL, if_neg hc, ih (fun x hx => ha x (List.mem_cons_of_mem _ hx))]
theorem wordsL_bf {a : List UInt8} (ha : bf a) : wordsL a = [a] := by
  induction a with
  | nil => rfl
  | cons c a ih =>
    have hc : c ≠ 32 := ha c List.mem_cons_self
    rw [wordsL, if_neg hc, ih (fun x hx => ha x (List.mem_cons_of_mem _ hx))]
theorem split_word : ∀ l : List UInt8, ∃ a, bf a ∧ (l = a ∨ ∃ l', l = a ++ 32 :: l')
  | [] => ⟨[], (by intro c hc; cases hc), .inl rfl⟩
  | c :: l => by
    by_cases hc : c = 32
    · exact ⟨[], (by intro c hc; cases hc), .inr ⟨l, by rw [hc]; rfl⟩⟩
    · obtain ⟨a, ha, h⟩ := split_word l
      refine ⟨c :: a, by intro x hx; rcases List.mem_cons.1 hx with rfl | hx; exact hc; exact ha x hx, ?_⟩
      rcases h with h | ⟨l', h⟩
      · exact .inl (by rw [h])
      · exact .inr ⟨l', by rw [h]; rfl⟩
/-- words that are over, and the one at hand -/
theorem wst_spec (l : List UInt8) : ∀ i, i ≤ l.length → ∃ at_, (wst (mk l) i).2 = at_ ∧ at_ ≤ i ∧ bf ((l.take i).drop at_) ∧ (wst (mk l) i).1 ++ (wordsL (l.drop at_)).map mk = (wordsL l).map mk
  | 0, _ => ⟨0, rfl, Nat.le_refl _, by intro c hc; simp at hc, by simp [wst]⟩
  | i + 1, h => by
    obtain ⟨k, h1, h2, h3, h4⟩ := wst_spec l i (by omega)
    have hi : i ≠ (mk l).size := by rw [mk_size]; omega
    have hb : byteAt (mk l) (i : Int) = ((l.getD i 0).toNat : Int) := byteAt_mkN (by omega)
    have hg : l[i]? = some (l.getD i 0) := by rw [List.getD_eq_getElem?_getD, List.getElem?_eq_getElem (by omega)]; rfl
    have htk : (l.take (i + 1)).drop k = (l.take i).drop k ++ [l.getD i 0] := by
      rw [List.take_add_one, hg, List.drop_append_of_le_length (by rw [List.length_take]; omega)]; rfl
    have hdr : l.drop k = (l.take i).drop k ++ l.drop i := by
      rw [← List.drop_append_of_le_length (by rw [List.length_take]; omega), List.take_append_drop]
    have hdi : l.drop i = l.getD i 0 :: l.drop (i + 1) := by
      rw [List.drop_eq_getElem_cons (by omega)]
      congr 1
      rw [List.getElem?_eq_getElem (by omega)] at hg
      injection hg with hg
    by_cases hc : byteAt (mk l) (i : Int) = 32
    · have hc' : l.getD i 0 = 32 := by
        rw [hb] at hc
        apply UInt8.toNat_inj.1
        show (l.getD i 0).toNat = 32
        omega
      refine ⟨i + 1, by rw [wst, if_pos (.inr hc)], Nat.le_refl _, by intro c hc; simp at hc, ?_⟩
      rw [wst, if_pos (.inr hc), h1]
      simp only
      rw [← h4, hdr, hdi, hc', wordsL_app h3, List.append_assoc, mk_ext]
      rfl
    · refine ⟨k, by rw [wst, if_neg (by rintro (h | h); exact hi h; exact hc h)]; exact h1, by omega, ?_, ?_⟩
      · rw [htk]
        intro c hx
        rcases List.mem_append.1 hx with hx | hx
        · exact h3 c hx
        · rw [List.mem_singleton.1 hx]
          intro h0; apply hc; rw [hb, h0]; rfl
      · rw [wst, if_neg (by rintro (h | h); exact hi h; exact hc h)]; exact h4
theorem wordsB_mk (l : List UInt8) : wordsB (mk l) = (wordsL l).map mk := by
  obtain ⟨k, h1, h2, h3, h4⟩ := wst_spec l l.length (Nat.le_refl _)
  rw [List.take_length] at h3
  unfold wordsB
  rw [mk_size, wst, if_pos (.inl (mk_size l).symm), h1]
  simp only
  rw [← h4, wordsL_bf h3, mk_ext, List.take_length]
  rfl
def placeFrom (a : List UInt8) : List (List UInt8) → Int → Int
  | [], _ => -1
  | w :: r, i => if w = a then i else placeFrom a r (i + 1)
theorem placeB_mk (a : List UInt8) : ∀ (ns : List (List UInt8)) (i : Int), placeB (mk a) (ns.map mk) i = placeFrom a ns i
  | [], _ => rfl
  | w :: r, i => by
    rw [List.map_cons, placeB, placeFrom, mk_toList, mk_toList, placeB_mk a r]
    by_cases h : w = a
    · rw [if_pos h, if_pos (by rw [h]; exact beq_self_eq_true _)]
    · rw [if_neg h, if_neg (by rw [beq_iff_eq]; exact h)]
theorem placeFrom_rng (a : List UInt8) : ∀ (ns : List (List UInt8)) (i : Int), 0 ≤ i → placeFrom a ns i = -1 ∨ (0 ≤ placeFrom a ns i ∧ a ∈ ns)
  | [], _, _ => .inl rfl
  | w :: r, i, h => by
    unfold placeFrom
    split
    · rename_i h'; exact .inr ⟨h, by rw [h']; exact List.mem_cons_self⟩
    · rcases placeFrom_rng a r (i + 1) (by omega) with h1 | ⟨h1, h2⟩
      · exact .inl h1
      · exact .inr ⟨h1, List.mem_cons_of_mem _ h2⟩
theorem placeFrom_no {a : List UInt8} : ∀ (ns : List (List UInt8)) (i : Int), a ∉ ns → placeFrom a ns i = -1
  | [], _, _ => rfl
  | w :: r, i, h => by
    rw [placeFrom, if_neg (fun e => h (by rw [e]; exact List.mem_cons_self)), placeFrom_no r _ (fun h' => h (List.mem_cons_of_mem _ h'))]
theorem placeFrom_yes {a : List UInt8} : ∀ (ns : List (List UInt8)) (i : Int), 0 ≤ i → a ∈ ns → 0 ≤ placeFrom a ns i
  | w :: r, i, h0, h => by
    unfold placeFrom
    split
    · exact h0
    · rename_i hne
      rcases List.mem_cons.1 h with h | h
      · exact absurd h.symm hne
      · exact placeFrom_yes r _ (by omega) h
def wkN : List (List UInt8) := [[77, 111, 110], [84, 117, 101], [87, 101, 100], [84, 104, 117], [70, 114, 105], [83, 97, 116], [83, 117, 110]]
def monN : List (List UInt8) := [[74, 97, 110], [70, 101, 98], [77, 97, 114], [65, 112, 114], [77, 97, 121], [74, 117, 110], [74, 117, 108], [65, 117, 103], [83, 101, 112], [79, 99, 116], [78, 111, 118], [68, 101, 99]]
def zoN : List (List UInt8) := [[71, 77, 84], [85, 84], [90], [69, 83, 84], [69, 68, 84], [67, 83, 84], [67, 68, 84], [77, 83, 84], [77, 68, 84], [80, 83, 84], [80, 68, 84]]
theorem wkL_N : wkL = wkN.map mk := by kernel_rfl
theorem monL_N : monL = monN.map mk := by kernel_rfl
theorem zoneL_N : zoneL = zoN.map mk := by kernel_rfl

/-! ## what the program reads, step by step -/
def G4 (y mo d h mi sc : Int) (σ : Sc) : Option Int :=
  bif signB σ.s then endM (offM (ByteArray.mk #[]) σ).2 (timeM y mo d h mi sc (offM (ByteArray.mk #[]) σ).1)
  else endM (Scn.one zoneL σ).2 (timeM y mo d h mi sc (zoneM (Scn.one zoneL σ).1))
def G3 (y mo d : Int) (σ : Sc) : Option Int :=
  G4 y mo d (num 2 σ).1 (num 2 (Scn.one [ByteArray.mk #[58]] (num 2 σ).2).2).1 (secM (num 2 (Scn.one [ByteArray.mk #[58]] (num 2 σ).2).2).2).1 (Scn.one [ByteArray.mk #[32]] (secM (num 2 (Scn.one [ByteArray.mk #[58]] (num 2 σ).2).2).2).2).2
def G2 (mo d : Int) (σ : Sc) : Option Int := G3 (yearM σ).1 mo d (Scn.one [ByteArray.mk #[32]] (yearM σ).2).2
def G1 (d : Int) (σ : Sc) : Option Int := G2 ((Scn.one monL σ).1 + 1) d (Scn.one [ByteArray.mk #[32]] (Scn.one monL σ).2).2
def FM (σ : Sc) : Option Int := G1 (dayM σ).1 (Scn.one [ByteArray.mk #[32]] (dayM σ).2).2
theorem mailM_F (s : ByteArray) : mailM s = FM (weekM s) := by
  unfold mailM mailH FM G1 G2 G3 G4
  dsimp only
theorem sec_bad {σ : Sc} (h : σ.bad = true) : (secM σ).2.bad = true := by
  unfold secM
  cases (may (ByteArray.mk #[58]) σ).1
  · exact h
  · exact num_bad (by exact h)
theorem day_bad {σ : Sc} (h : σ.bad = true) : (dayM σ).2.bad = true := by
  unfold dayM
  cases (decide ((σ.s.size : Int) > 1)) && ((byteAt σ.s 1) == 32)
  · exact num_bad h
  · exact num_bad h
theorem year_bad {σ : Sc} (h : σ.bad = true) : (yearM σ).2.bad = true := by
  unfold yearM
  cases (decide ((σ.s.size : Int) > 2)) && ((byteAt σ.s 2) == 32)
  · exact num_bad h
  · exact num_bad h
theorem G4_bad {y mo d h mi sc : Int} {σ : Sc} (hb : σ.bad = true) : G4 y mo d h mi sc σ = none := by
  unfold G4
  cases signB σ.s
  · exact endM_bad (one_bad hb) _
  · exact endM_bad (off_bad hb) _
theorem G3_bad {y mo d : Int} {σ : Sc} (hb : σ.bad = true) : G3 y mo d σ = none := by
  unfold G3
  exact G4_bad (one_bad (sec_bad (num_bad (one_bad (num_bad hb)))))
theorem G2_bad {mo d : Int} {σ : Sc} (hb : σ.bad = true) : G2 mo d σ = none := by
  unfold G2
  exact G3_bad (one_bad (year_bad hb))
theorem G1_bad {d : Int} {σ : Sc} (hb : σ.bad = true) : G1 d σ = none := by
  unfold G1
  exact G2_bad (one_bad (one_bad hb))
theorem FM_bad {σ : Sc} (hb : σ.bad = true) : FM σ = none := by
  unfold FM
  exact G1_bad (one_bad (day_bad hb))
/-- no blank is left -/
def bfS (σ : Sc) : Prop := ∃ x, σ.s = mk x ∧ bf x
theorem bf_drop {x : List UInt8} (h : bf x) (n : Nat) : bf (x.drop n) := fun c hc => h c (List.mem_of_mem_drop hc)
theorem bfS_num {n : Nat} {σ : Sc} (h : bfS σ) : bfS (num n σ).2 := by
  obtain ⟨s, b⟩ := σ
  obtain ⟨x, rfl, hx⟩ := h
  rw [num_mk]
  split
  · exact ⟨_, rfl, bf_drop hx n⟩
  · exact ⟨_, rfl, hx⟩
theorem bfS_may {w : List UInt8} {σ : Sc} (h : bfS σ) : bfS (may (mk w) σ).2 := by
  obtain ⟨s, b⟩ := σ
  obtain ⟨x, rfl, hx⟩ := h
  rw [may_mk]
  cases pre w x
  · exact ⟨_, rfl, hx⟩
  · exact ⟨_, rfl, bf_drop hx _⟩
theorem bfS_oneFrom {σ : Sc} (h : bfS σ) : ∀ (ns : List (List UInt8)) (i : Int), bfS (oneFrom σ (ns.map mk) i).2
  | [], _ => h
  | w :: r, i => by
    rw [List.map_cons, oneFrom]
    split
    · obtain ⟨s, b⟩ := σ
      obtain ⟨x, rfl, hx⟩ := h
      refine ⟨_, cutP_mk x w, ?_⟩
      cases pre w x
      · exact hx
      · exact bf_drop hx _
    · exact bfS_oneFrom h r _
theorem blank_bad {σ : Sc} (h : bfS σ) : (Scn.one [mk [32]] σ).2.bad = true := by
  obtain ⟨s, b⟩ := σ
  obtain ⟨x, rfl, hx⟩ := h
  cases x with
  | nil =>
    rw [Scn.one, oneFrom, startsB_mk, if_neg (by decide), oneFrom]
  | cons c x =>
    have hc : (c == 32) = false := by rw [beq_eq_false_iff_ne]; exact hx c List.mem_cons_self
    rw [Scn.one, oneFrom_c, hc, cond_false, oneFrom]
theorem FM_last {σ : Sc} (h : bfS σ) : FM σ = none := by
  unfold FM
  rw [show ByteArray.mk #[32] = mk [32] from rfl]
  exact G1_bad (blank_bad (by
  unfold dayM
  cases (decide ((σ.s.size : Int) > 1)) && ((byteAt σ.s 1) == 32)
  · exact bfS_num h
  · exact bfS_num h))
theorem G1_last {d : Int} {σ : Sc} (h : bfS σ) : G1 d σ = none := by
  unfold G1
  rw [show ByteArray.mk #[32] = mk [32] from rfl]
  exact G2_bad (blank_bad (by rw [monL_N]; exact bfS_oneFrom h _ _))
theorem G2_last {mo d : Int} {σ : Sc} (h : bfS σ) : G2 mo d σ = none := by
  unfold G2
  rw [show ByteArray.mk #[32] = mk [32] from rfl]
  exact G3_bad (blank_bad (by
  unfold yearM
  cases (decide ((σ.s.size : Int) > 2)) && ((byteAt σ.s 2) == 32)
  · exact bfS_num h
  · exact bfS_num h))
theorem bfS_sec {σ : Sc} (h : bfS σ) : bfS (secM σ).2 := by
  unfold secM
  rw [show ByteArray.mk #[58] = mk [58] from rfl]
  cases (may (mk [58]) σ).1
  · exact bfS_may h
  · exact bfS_num (bfS_may h)
theorem bfS_one1 {σ : Sc} (h : bfS σ) (x : UInt8) : bfS (Scn.one [mk [x]] σ).2 := bfS_oneFrom (ns := [[x]]) h 0
theorem G3_last {y mo d : Int} {σ : Sc} (h : bfS σ) : G3 y mo d σ = none := by
  unfold G3
  rw [show ByteArray.mk #[58] = mk [58] from rfl, show ByteArray.mk #[32] = mk [32] from rfl]
  exact G4_bad (blank_bad (bfS_sec (bfS_num (bfS_one1 (bfS_num h) 58))))
end Go.Proofs.YtlglmomimhbeaaaGreatDoor
