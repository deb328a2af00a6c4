/- The program and the document's answer read the same dates in RSS: the whole. No program is in sight. -/
import Derived.Test.YtlglmomimhbeaaaGreatDoorRm3
namespace Go.Proofs.YtlglmomimhbeaaaGreatDoor
open Go.Sw Go.Lib Go.Cal Go.Scn

theorem coreR_no {ws : List ByteArray} (h : ws.length ≠ 5) : coreR ws = none := if_neg h
theorem timeM_m0 {y d h mi s off : Int} : timeM y 0 d h mi s off = none := by unfold timeM; rw [if_pos (by omega)]
theorem core_day {a : ByteArray} {ws : List ByteArray} (h : okD a = false) : coreR (a :: ws) = none := by
  unfold coreR
  split
  · rw [show wat (a :: ws) 0 = a from rfl]
    unfold core5
    rw [h]; rfl
  · rfl
theorem core_mon {a b : ByteArray} {ws : List ByteArray} (h : placeB b monL 0 = -1) : coreR (a :: b :: ws) = none := by
  unfold coreR
  split
  · rw [show wat (a :: b :: ws) 1 = b from rfl]
    unfold core5
    rw [h]
    cases okD (wat (a :: b :: ws) 0) && (okY (wat (a :: b :: ws) 2) && okT (wat (a :: b :: ws) 3))
    · rfl
    · rw [cond_true]
      cases zoneR (wat (a :: b :: ws) 4)
      · rfl
      · exact timeM_m0
  · rfl
theorem core_year {a b c : ByteArray} {ws : List ByteArray} (h : okY c = false) : coreR (a :: b :: c :: ws) = none := by
  unfold coreR
  split
  · rw [show wat (a :: b :: c :: ws) 2 = c from rfl]
    unfold core5
    rw [h, Bool.false_and, Bool.and_false]; rfl
  · rfl
theorem core_clock {a b c d : ByteArray} {ws : List ByteArray} (h : okT d = false) : coreR (a :: b :: c :: d :: ws) = none := by
  unfold coreR
  split
  · rw [show wat (a :: b :: c :: d :: ws) 3 = d from rfl]
    unfold core5
    rw [h, Bool.and_false, Bool.and_false]; rfl
  · rfl
theorem mon3 : ∀ w ∈ monN, w.length = 3 ∧ bf w := by
  have h : ∀ w ∈ monN, w.length = 3 ∧ ∀ c ∈ w, c ≠ 32 := by decide +kernel
  exact h
theorem FM_core (l : List UInt8) : FM ⟨mk l, false⟩ = coreR ((wordsL l).map mk) := by
  obtain ⟨a, ha, rfl | ⟨l1, rfl⟩⟩ := split_word l
  · rw [FM_last ⟨_, rfl, ha⟩, wordsL_bf ha]
    exact (coreR_no (by simp)).symm
  rw [wordsL_app ha, List.map_cons]
  unfold FM
  rw [bl]
  rcases day_step (l := l1) ha with ⟨o1, e1⟩ | ⟨o1, e1⟩
  · rw [e1]
    dsimp only
    rw [blank_yes]
    obtain ⟨b, hb, rfl | ⟨l2, rfl⟩⟩ := split_word l1
    · rw [G1_last ⟨_, rfl, hb⟩, wordsL_bf hb]
      exact (coreR_no (by simp)).symm
    rw [wordsL_app hb, List.map_cons]
    unfold G1
    rw [bl, monL_N, show Scn.one (monN.map mk) ⟨mk (b ++ 32 :: l2), false⟩ = oneFrom ⟨mk (b ++ 32 :: l2), false⟩ (monN.map mk) 0 from rfl]
    rcases word_step (l := l2) hb monN 0 (Int.le_refl 0) mon3 with ⟨o2, e2⟩ | ⟨o2, e2⟩
    · rw [e2]
      dsimp only
      rw [blank_yes]
      obtain ⟨c, hc, rfl | ⟨l3, rfl⟩⟩ := split_word l2
      · rw [G2_last ⟨_, rfl, hc⟩, wordsL_bf hc]
        exact (coreR_no (by simp)).symm
      rw [wordsL_app hc, List.map_cons]
      unfold G2
      rw [bl]
      rcases year_step (l := l3) hc with ⟨o3, e3⟩ | ⟨o3, e3⟩
      · rw [e3]
        dsimp only
        rw [blank_yes]
        obtain ⟨d, hd, rfl | ⟨l4, rfl⟩⟩ := split_word l3
        · rw [G3_last ⟨_, rfl, hd⟩, wordsL_bf hd]
          exact (coreR_no (by simp)).symm
        rw [wordsL_app hd, List.map_cons]
        rcases clock_step (l := l4) (yy := yearR (mk c)) (mo := placeFrom b monN 0 + 1) (dd := rdig (mk a)) hd with ⟨o4, e4⟩ | ⟨o4, e4⟩
        · rw [e4, zone_end]
          obtain ⟨e, he, rfl | ⟨l5, rfl⟩⟩ := split_word l4
          · rw [wordsL_bf he]
            unfold coreR
            rw [if_pos (by simp)]
            rw [List.map_cons, List.map_nil]
            rw [show wat [mk a, mk b, mk c, mk d, mk l4] 0 = mk a from rfl, show wat [mk a, mk b, mk c, mk d, mk l4] 1 = mk b from rfl, show wat [mk a, mk b, mk c, mk d, mk l4] 2 = mk c from rfl, show wat [mk a, mk b, mk c, mk d, mk l4] 3 = mk d from rfl, show wat [mk a, mk b, mk c, mk d, mk l4] 4 = mk l4 from rfl]
            unfold core5
            rw [o1, o3, o4, monL_N, placeB_mk]
            rfl
          · rw [zone_blank, wordsL_app he, coreR_no]
            rw [List.map_cons]
            have : 0 < (wordsL l5).length := List.length_pos_iff.2 (wordsL_ne l5)
            simp only [List.length_cons, List.length_map]
            omega
        · rw [e4, core_clock o4]
      · rw [G3_bad e3, core_year o3]
    · rw [G2_bad e2, core_mon (by rw [monL_N, placeB_mk]; exact o2)]
  · rw [G1_bad e1, core_day o1]

/-! ## the day of the week -/
theorem week_step (c d e : UInt8) (r : List UInt8) : ∀ (ns : List (List UInt8)) (i : Int), (∀ w ∈ ns, w.length = 3) →
    ([c, d, e] ∈ ns ∧ (oneFrom ⟨mk (c :: d :: e :: r), false⟩ (ns.map mk) i).2 = ⟨mk r, false⟩) ∨ ([c, d, e] ∉ ns ∧ (oneFrom ⟨mk (c :: d :: e :: r), false⟩ (ns.map mk) i).2.bad = true)
  | [], _, _ => .inr ⟨by simp, rfl⟩
  | w :: ns, i, h => by
    rw [List.map_cons, oneFrom, startsB_mk, cutP_mk]
    have hw := h w List.mem_cons_self
    by_cases hp : w = [c, d, e]
    · subst hp
      have : pre [c, d, e] (c :: d :: e :: r) = true := by unfold pre; simp
      rw [this, if_pos rfl]
      exact .inl ⟨List.mem_cons_self, rfl⟩
    · have : pre w (c :: d :: e :: r) = false := by
        rw [← Bool.not_eq_true]
        intro h'
        unfold pre at h'
        rw [List.isPrefixOf_iff_prefix, List.prefix_iff_eq_take, hw] at h'
        exact hp h'
      rw [this, if_neg Bool.false_ne_true]
      rcases week_step c d e r ns (i + 1) (fun x hx => h x (List.mem_cons_of_mem _ hx)) with ⟨h1, h2⟩ | ⟨h1, h2⟩
      · exact .inl ⟨List.mem_cons_of_mem _ h1, h2⟩
      · exact .inr ⟨by intro hm; rcases List.mem_cons.1 hm with h3 | h3; exact hp h3.symm; exact h1 h3, h2⟩
theorem mon44 : ∀ w ∈ monN, w[0]? ≠ some 44 ∧ w[1]? ≠ some 44 ∧ w.length = 3 := by decide +kernel
theorem comma_core {l : List UInt8} (h : l[3]? = some 44) : coreR ((wordsL l).map mk) = none := by
  obtain ⟨a, ha, hl⟩ := split_word l
  have hd : okD (mk a) = true → coreR ((wordsL l).map mk) = none := by
    intro ho
    have hk : a.length = 1 ∨ a.length = 2 := by
      rcases Nat.decEq a.length 1 with h1 | h1
      · rcases Nat.decEq a.length 2 with h2 | h2
        · rw [okD_no ⟨h1, h2⟩] at ho; cases ho
        · exact .inr h2
      · exact .inl h1
    rcases hl with rfl | ⟨l1, rfl⟩
    · rw [List.getElem?_eq_none (by omega)] at h; cases h
    · rw [wordsL_app ha, List.map_cons]
      rw [List.getElem?_append_right (by omega)] at h
      have hj : l1[2 - a.length]? = some 44 := by
        rw [show 3 - a.length = (2 - a.length) + 1 from by omega, List.getElem?_cons_succ] at h
        exact h
      obtain ⟨b, hb, hl1⟩ := split_word l1
      have hm : b ∉ monN := by
        intro hm
        obtain ⟨m0, m1, m3⟩ := mon44 b hm
        have hb2 : b[2 - a.length]? = some 44 := by
          rcases hl1 with rfl | ⟨l2, rfl⟩
          · exact hj
          · rw [List.getElem?_append_left (by omega)] at hj; exact hj
        rcases hk with hk | hk <;> rw [hk] at hb2
        · exact m1 hb2
        · exact m0 hb2
      rcases hl1 with rfl | ⟨l2, rfl⟩
      · rw [wordsL_bf hb]
        exact coreR_no (by simp)
      · rw [wordsL_app hb, List.map_cons]
        exact core_mon (by rw [monL_N, placeB_mk, placeFrom_no _ _ hm])
  cases ho : okD (mk a) with
  | true => exact hd ho
  | false =>
    rcases hl with rfl | ⟨l1, rfl⟩
    · rw [wordsL_bf ha]; exact coreR_no (by simp)
    · rw [wordsL_app ha, List.map_cons]; exact core_day ho
theorem wk3 : ∀ w ∈ wkN, w.length = 3 := by decide +kernel
theorem wkbf : ∀ w ∈ wkN, bf w := by
  have h : ∀ w ∈ wkN, ∀ c ∈ w, c ≠ 32 := by decide +kernel
  exact h
/-- the first word, and what it is of the text -/
theorem first_word (l : List UInt8) : ∃ a r, (wordsL l).map mk = mk a :: r ∧ (l = a ∨ ∃ l', l = a ++ 32 :: l') := by
  obtain ⟨a, ha, hl⟩ := split_word l
  rcases hl with rfl | ⟨l', rfl⟩
  · exact ⟨_, [], by rw [wordsL_bf ha]; rfl, .inl rfl⟩
  · exact ⟨a, (wordsL l').map mk, by rw [wordsL_app ha]; rfl, .inr ⟨l', rfl⟩⟩
theorem ref_none {l : List UInt8} (h : coreR ((wordsL l).map mk) = none)
    (h6 : (wordsL l).length = 6 → ∀ a r, (wordsL l).map mk = mk a :: r → (l = a ∨ ∃ l', l = a ++ 32 :: l') → a.length = 4 → a[3]? = some 44 → placeFrom (a.take 3) wkN 0 = -1) :
    (match weekR ((wordsL l).map mk) with | none => none | some ws => coreR ws) = none := by
  unfold weekR
  by_cases hl : ((wordsL l).map mk).length = 6
  · rw [if_pos hl, if_neg]
    obtain ⟨a, r, h1, h2⟩ := first_word l
    rw [h1, show wat (mk a :: r) 0 = mk a from rfl]
    rintro ⟨g1, g2, g3⟩
    rw [mk_size] at g1
    have g4 : a[3]? = some 44 := by
      have := byteAt_mkN (l := a) (j := 3) (by omega)
      rw [show ((3 : Nat) : Int) = 3 from rfl, g2] at this
      rw [List.getElem?_eq_getElem (by omega)]
      congr 1
      rw [List.getD_eq_getElem?_getD, List.getElem?_eq_getElem (by omega), Option.getD_some] at this
      apply UInt8.toNat_inj.1
      show a[3].toNat = 44
      omega
    rw [mk_ext, wkL_N, placeB_mk, List.drop_zero, h6 (by simpa using hl) a r h1 h2 g1 g4] at g3
    omega
  · rw [if_neg hl]; exact h
theorem take4 {l a : List UInt8} (h : l = a ∨ ∃ l', l = a ++ 32 :: l') {c d e f : UInt8} {r : List UInt8} (hl : l = c :: d :: e :: f :: r) (h4 : a.length = 4) : a = [c, d, e, f] ∧ (r = [] ∨ ∃ l', r = 32 :: l') := by
  have : l.take 4 = a := by
    rcases h with rfl | ⟨l', rfl⟩
    · rw [← h4, List.take_length]
    · rw [← h4, List.take_left]
  have e1 : a = [c, d, e, f] := by rw [← this, hl]; rfl
  refine ⟨e1, ?_⟩
  rcases h with h | ⟨l', h⟩
  · rw [hl, e1] at h
    simp only [List.cons.injEq, true_and] at h
    exact .inl h
  · rw [hl, e1] at h
    simp only [List.cons_append, List.nil_append, List.cons.injEq, true_and] at h
    exact .inr ⟨l', h⟩
theorem mails_same (s : ByteArray) : mailM s = refMailM s := by
  rw [mk_of s]
  generalize s.data.toList = l
  rw [mailM_F]
  unfold refMailM
  rw [wordsB_mk]
  by_cases h3 : l[3]? = some 44
  · obtain ⟨hlen, _⟩ := List.getElem?_eq_some_iff.1 h3
    have hw : weekM (mk l) = (Scn.one [ByteArray.mk #[44, 32]] (Scn.one wkL ⟨mk l, false⟩).2).2 := by
      unfold weekM
      rw [size_mk1, decide_eq_true (by omega), show (3 : Int) = ((3 : Nat) : Int) from rfl, show (44 : Int) = ((44 : UInt8).toNat : Int) from rfl, byteAt_is h3]
      rfl
    obtain ⟨c, l0, rfl⟩ := List.exists_cons_of_length_pos (l := l) (by omega)
    obtain ⟨d, l1, rfl⟩ := List.exists_cons_of_length_pos (l := l0) (by simp only [List.length_cons] at hlen; omega)
    obtain ⟨e, l2, rfl⟩ := List.exists_cons_of_length_pos (l := l1) (by simp only [List.length_cons] at hlen; omega)
    obtain ⟨f, r, rfl⟩ := List.exists_cons_of_length_pos (l := l2) (by simp only [List.length_cons] at hlen; omega)
    have hf : f = 44 := by simpa using h3
    subst hf
    rw [hw, wkL_N]
    unfold Scn.one
    rcases week_step c d e (44 :: r) wkN 0 wk3 with ⟨h1, h2⟩ | ⟨h1, h2⟩
    · rw [h2, oneFrom, show ByteArray.mk #[44, 32] = mk [44, 32] from rfl, startsB_mk, cutP_mk]
      by_cases hr : ∃ l', r = 32 :: l'
      · obtain ⟨l', rfl⟩ := hr
        have hp : pre [44, 32] (44 :: 32 :: l') = true := by unfold pre; simp
        rw [hp, if_pos rfl, cond_true]
        show FM ⟨mk l', false⟩ = _
        rw [FM_core]
        have hbf : bf [c, d, e, 44] := by
          intro x hx
          have hx' : x ∈ [c, d, e] ∨ x = 44 := by simp at hx ⊢; rcases hx with h | h | h | h <;> simp [h]
          rcases hx' with hx' | rfl
          · exact wkbf _ h1 x hx'
          · decide
        have hws : wordsL (c :: d :: e :: 44 :: 32 :: l') = [c, d, e, 44] :: wordsL l' := wordsL_app (a := [c, d, e, 44]) hbf l'
        by_cases h6 : (wordsL l').length = 5
        · rw [hws, List.map_cons]
          unfold weekR
          rw [if_pos (by simp [h6]), if_pos]
          · rfl
          · rw [show wat (mk [c, d, e, 44] :: (wordsL l').map mk) 0 = mk [c, d, e, 44] from rfl]
            refine ⟨mk_size _, ?_, ?_⟩
            · have := byteAt_mkN (l := [c, d, e, 44]) (j := 3) (by simp)
              exact this
            · rw [mk_ext, wkL_N, placeB_mk]
              exact placeFrom_yes _ _ (Int.le_refl 0) h1
        · rw [coreR_no (by simpa using h6)]
          refine (ref_none (comma_core rfl) ?_).symm
          intro h7
          rw [hws, List.length_cons] at h7
          omega
      · have hp : pre [44, 32] (44 :: r) = false := by
          rw [← Bool.not_eq_true]
          intro hp
          cases r with
          | nil => simp [pre] at hp
          | cons x r =>
            simp [pre] at hp
            exact hr ⟨r, by rw [← hp]⟩
        rw [hp, if_neg Bool.false_ne_true, oneFrom, FM_bad rfl]
        refine (ref_none (comma_core rfl) ?_).symm
        intro h7 a ws g1 g2 g3 _
        obtain ⟨_, rfl | hr'⟩ := take4 g2 rfl g3
        · have hbf : bf [c, d, e, 44] := by
            intro x hx
            have hx' : x ∈ [c, d, e] ∨ x = 44 := by simp at hx ⊢; rcases hx with h | h | h | h <;> simp [h]
            rcases hx' with hx' | rfl
            · exact wkbf _ h1 x hx'
            · decide
          rw [wordsL_bf hbf] at h7
          simp at h7
        · exact absurd hr' hr
    · rw [FM_bad (oneFrom_bad h2 _ _)]
      refine (ref_none (comma_core rfl) ?_).symm
      intro _ a ws g1 g2 g3 _
      obtain ⟨e1, _⟩ := take4 g2 rfl g3
      rw [e1]
      exact placeFrom_no _ _ h1
  · have hw : weekM (mk l) = ⟨mk l, false⟩ := by
      unfold weekM
      by_cases hlen : 3 < l.length
      · have hg : l[3]? = some l[3] := List.getElem?_eq_getElem hlen
        have hne : l[3] ≠ 44 := by intro h; rw [hg, h] at h3; exact h3 rfl
        rw [show (3 : Int) = ((3 : Nat) : Int) from rfl, show (44 : Int) = ((44 : UInt8).toNat : Int) from rfl, byteAt_is hg, u8_ne hne, Bool.and_false]
        rfl
      · rw [size_mk1, decide_eq_false (by omega), Bool.false_and]
        rfl
    rw [hw, FM_core]
    by_cases h6 : (wordsL l).length = 6
    · rw [coreR_no (by simp [h6])]
      refine (ref_none (coreR_no (by simp [h6])) ?_).symm
      intro _ a ws g1 g2 g3 g4
      exfalso
      apply h3
      rcases g2 with rfl | ⟨l', rfl⟩
      · exact g4
      · rw [List.getElem?_append_left (by omega)]; exact g4
    · unfold weekR
      rw [if_neg (by simpa using h6)]
end Go.Proofs.YtlglmomimhbeaaaGreatDoor
