/- The program and the document's answer read the same dates in RSS. No program is in sight. -/
import Derived.Test.YtlglmomimhbeaaaGreatDoorRm
namespace Go.Proofs.YtlglmomimhbeaaaGreatDoor
open Go.Sw Go.Lib Go.Cal Go.Scn

theorem bl : ByteArray.mk #[32] = mk [32] := rfl
theorem byteAt_is {l : List UInt8} {j : Nat} {c : UInt8} (h : l[j]? = some c) (x : UInt8) : (byteAt (mk l) (j : Int) == (x.toNat : Int)) = (c == x) := by
  obtain ⟨hj, rfl⟩ := List.getElem?_eq_some_iff.1 h
  rw [byteAt_mkN hj, u8_int, List.getD_eq_getElem?_getD, List.getElem?_eq_getElem hj, Option.getD_some]
theorem u8_ne {c x : UInt8} (h : c ≠ x) : (c == x) = false := by rw [beq_eq_false_iff_ne]; exact h
theorem D32 : isD 32 = false := by decide
/-- the next byte is no blank -/
theorem blank_no {c : UInt8} (h : c ≠ 32) (l : List UInt8) (b : Bool) : (Scn.one [mk [32]] ⟨mk (c :: l), b⟩).2.bad = true := by
  rw [Scn.one, oneFrom_c, u8_ne h, cond_false, oneFrom]
theorem blank_yes (l : List UInt8) : (Scn.one [mk [32]] ⟨mk (32 :: l), false⟩).2 = ⟨mk l, false⟩ := by rw [one1_c]; rfl
theorem num1_c (a : UInt8) (r : List UInt8) : num 1 ⟨mk (a :: r), false⟩ = bif isD a then (dvalL [a], ⟨mk r, false⟩) else (0, ⟨mk (a :: r), true⟩) := by
  rw [num_mk]
  simp only [List.length_cons, List.take_succ_cons, List.take_zero, List.all_cons, List.all_nil, Bool.and_true, List.drop_succ_cons, List.drop_zero]
  cases h : isD a
  · rw [if_neg (by simp)]; rfl
  · rw [if_pos ⟨by omega, rfl⟩]; rfl
theorem rdig_1 {a : UInt8} (h : isD a = true) : rdig (mk [a]) = dvalL [a] := by
  unfold rdig; rw [digB_mk]; simp [h, mk_data]
theorem num_short {n : Nat} {l : List UInt8} {b : Bool} (h : l.length < n) : (num n ⟨mk l, b⟩).2.bad = true := by
  rw [num_mk, if_neg (by omega)]
theorem num_bl {n : Nat} {l : List UInt8} {b : Bool} {j : Nat} (hj : j < n) (h : l[j]? = some 32) : (num n ⟨mk l, b⟩).2.bad = true := by
  rw [num_mk, if_neg]
  rintro ⟨_, h2⟩
  rw [List.all_eq_true] at h2
  have := h2 32 (List.mem_of_getElem? (i := j) (by rw [List.getElem?_take, if_pos hj]; exact h))
  rw [D32] at this; cases this
theorem size_mk1 (l : List UInt8) : ((mk l).size : Int) = (l.length : Int) := by rw [mk_size]

/-! ## the day -/
theorem okD_1 (c : UInt8) : okD (mk [c]) = isD c := by
  unfold okD
  rw [show ByteArray.mk #[57] = mk [57] from rfl, show ByteArray.mk #[57, 57] = mk [57, 57] from rfl, likeB_mk, likeB_mk]
  simp [likeL, lk_d]
theorem okD_2 (c d : UInt8) : okD (mk [c, d]) = (isD c && isD d) := by
  unfold okD
  rw [show ByteArray.mk #[57] = mk [57] from rfl, show ByteArray.mk #[57, 57] = mk [57, 57] from rfl, likeB_mk, likeB_mk]
  simp [likeL, lk_d]
theorem okD_no {a : List UInt8} (h : a.length ≠ 1 ∧ a.length ≠ 2) : okD (mk a) = false := by
  unfold okD
  rw [likeB_no (by rw [mk_size]; exact h.1), likeB_no (by rw [mk_size]; exact h.2)]; rfl
theorem day_step {a l : List UInt8} (ha : bf a) :
    (okD (mk a) = true ∧ dayM ⟨mk (a ++ 32 :: l), false⟩ = (rdig (mk a), ⟨mk (32 :: l), false⟩)) ∨
    (okD (mk a) = false ∧ (Scn.one [mk [32]] (dayM ⟨mk (a ++ 32 :: l), false⟩).2).2.bad = true) := by
  match a, ha with
  | [], _ =>
    right
    refine ⟨okD_no (by decide), one_bad ?_⟩
    unfold dayM
    cases (decide (((⟨mk ([] ++ 32 :: l), false⟩ : Sc).s.size : Int) > 1)) && ((byteAt (⟨mk ([] ++ 32 :: l), false⟩ : Sc).s 1) == 32)
    · exact num_bl (j := 0) (by omega) rfl
    · exact num_bl (j := 0) (by omega) rfl
  | [c], _ =>
    have hb : byteAt (mk (c :: 32 :: l)) 1 == 32 := byteAt_is (l := c :: 32 :: l) (j := 1) (c := 32) rfl 32
    have e : dayM ⟨mk ([c] ++ 32 :: l), false⟩ = num 1 ⟨mk (c :: 32 :: l), false⟩ := by
      unfold dayM
      rw [List.cons_append, List.nil_append]
      simp only
      rw [hb, size_mk1, decide_eq_true (by simp only [List.length_cons]; omega)]
      rfl
    rw [e, num1_c, okD_1]
    cases h : isD c
    · exact .inr ⟨rfl, one_bad rfl⟩
    · exact .inl ⟨rfl, by rw [rdig_1 h]; rfl⟩
  | [c, d], ha =>
    have hd : d ≠ 32 := ha d (by simp)
    have hb : (byteAt (mk (c :: d :: 32 :: l)) 1 == 32) = false := by rw [← u8_ne hd]; exact byteAt_is (l := c :: d :: 32 :: l) (j := 1) (c := d) rfl 32
    have e : dayM ⟨mk ([c, d] ++ 32 :: l), false⟩ = num 2 ⟨mk (c :: d :: 32 :: l), false⟩ := by
      unfold dayM
      rw [List.cons_append, List.cons_append, List.nil_append]
      simp only
      rw [hb, Bool.and_false]; rfl
    rw [e, num2_c, okD_2]
    cases h : isD c
    · exact .inr ⟨rfl, one_bad rfl⟩
    · cases h' : isD d
      · exact .inr ⟨rfl, one_bad rfl⟩
      · exact .inl ⟨rfl, by rw [rdig_2 h h']; rfl⟩
  | c :: d :: x :: a, ha =>
    have hd : d ≠ 32 := ha d (by simp)
    have hx : x ≠ 32 := ha x (by simp)
    have hb : (byteAt (mk (c :: d :: x :: (a ++ 32 :: l))) 1 == 32) = false := by rw [← u8_ne hd]; exact byteAt_is (l := c :: d :: x :: (a ++ 32 :: l)) (j := 1) (c := d) rfl 32
    have e : dayM ⟨mk ((c :: d :: x :: a) ++ 32 :: l), false⟩ = num 2 ⟨mk (c :: d :: x :: (a ++ 32 :: l)), false⟩ := by
      unfold dayM
      rw [List.cons_append, List.cons_append, List.cons_append]
      simp only
      rw [hb, Bool.and_false]; rfl
    rw [e, num2_c]
    refine .inr ⟨okD_no (by simp only [List.length_cons]; omega), ?_⟩
    cases isD c && isD d
    · exact one_bad rfl
    · exact blank_no hx _ _

/-! ## the month, the day of the week -/
theorem word_step {a l : List UInt8} (ha : bf a) : ∀ (ns : List (List UInt8)) (i : Int), 0 ≤ i → (∀ w ∈ ns, w.length = 3 ∧ bf w) →
    (0 ≤ placeFrom a ns i ∧ oneFrom ⟨mk (a ++ 32 :: l), false⟩ (ns.map mk) i = (placeFrom a ns i, ⟨mk (32 :: l), false⟩)) ∨
    (placeFrom a ns i = -1 ∧ (Scn.one [mk [32]] (oneFrom ⟨mk (a ++ 32 :: l), false⟩ (ns.map mk) i).2).2.bad = true)
  | [], i, _, _ => .inr ⟨rfl, one_bad rfl⟩
  | w :: ns, i, hi, hw => by
    obtain ⟨hw3, hwb⟩ := hw w List.mem_cons_self
    rw [List.map_cons, oneFrom, startsB_mk, cutP_mk, placeFrom]
    cases hp : pre w (a ++ 32 :: l) with
    | false =>
      rw [if_neg Bool.false_ne_true]
      rw [if_neg]
      · exact word_step ha ns (i + 1) (by omega) (fun x hx => hw x (List.mem_cons_of_mem _ hx))
      · intro h; subst h
        unfold pre at hp
        rw [← Bool.not_eq_true, List.isPrefixOf_iff_prefix] at hp
        exact hp (List.prefix_append _ _)
    | true =>
      rw [if_pos rfl]
      unfold pre at hp
      rw [List.isPrefixOf_iff_prefix] at hp
      obtain ⟨t, ht⟩ := hp
      rcases List.append_eq_append_iff.1 ht with ⟨bs, h1, h2⟩ | ⟨bs, h1, h2⟩
      · cases bs with
        | nil =>
          rw [List.append_nil] at h1; subst h1
          rw [if_pos rfl]
          refine .inl ⟨hi, ?_⟩
          rw [cond_true, List.drop_left]
        | cons x bs =>
          have hx : x ≠ 32 := ha x (by rw [h1]; simp)
          right
          have hlen : a.length ≠ 3 := by rw [h1, List.length_append, List.length_cons]; omega
          rw [if_neg (by intro h; rw [← h] at hlen; exact hlen hw3)]
          refine ⟨placeFrom_no _ _ (fun hm => hlen (hw a (List.mem_cons_of_mem _ hm)).1), ?_⟩
          rw [cond_true, h1, List.append_assoc, List.drop_left]
          exact blank_no hx _ _
      · cases bs with
        | nil =>
          rw [List.append_nil] at h1; subst h1
          rw [if_pos rfl]
          refine .inl ⟨hi, ?_⟩
          rw [cond_true, List.drop_left]
        | cons x bs =>
          injection h2 with h2 h3
          exact absurd h2.symm (hwb x (by rw [h1]; simp))

/-! ## the year -/
theorem okY_2 (c d : UInt8) : okY (mk [c, d]) = (isD c && isD d) := by
  unfold okY
  rw [show ByteArray.mk #[57, 57] = mk [57, 57] from rfl, show ByteArray.mk #[57, 57, 57, 57] = mk [57, 57, 57, 57] from rfl, likeB_mk, likeB_mk]
  simp [likeL, lk_d]
theorem okY_4 (c d e f : UInt8) : okY (mk [c, d, e, f]) = (isD c && (isD d && (isD e && isD f))) := by
  unfold okY
  rw [show ByteArray.mk #[57, 57] = mk [57, 57] from rfl, show ByteArray.mk #[57, 57, 57, 57] = mk [57, 57, 57, 57] from rfl, likeB_mk, likeB_mk]
  simp [likeL, lk_d]
theorem okY_no {a : List UInt8} (h : a.length ≠ 2 ∧ a.length ≠ 4) : okY (mk a) = false := by
  unfold okY
  rw [likeB_no (by rw [mk_size]; exact h.1), likeB_no (by rw [mk_size]; exact h.2)]; rfl
theorem dval2_bd {c d : UInt8} (h : isD c = true) (h' : isD d = true) : 0 ≤ dvalL [c, d] ∧ dvalL [c, d] ≤ 99 := by
  simp only [isD, isDig, Bool.and_eq_true, decide_eq_true_eq] at h h'
  simp only [dvalL, List.foldl_cons, List.foldl_nil]
  omega
theorem year_step {a l : List UInt8} (ha : bf a) :
    (okY (mk a) = true ∧ yearM ⟨mk (a ++ 32 :: l), false⟩ = (yearR (mk a), ⟨mk (32 :: l), false⟩)) ∨
    (okY (mk a) = false ∧ (Scn.one [mk [32]] (yearM ⟨mk (a ++ 32 :: l), false⟩).2).2.bad = true) := by
  have hshort : ∀ (b : List UInt8), b.length < 2 → (∀ j, j = b.length → (b ++ 32 :: l)[j]? = some 32) → okY (mk b) = false ∧ (Scn.one [mk [32]] (yearM ⟨mk (b ++ 32 :: l), false⟩).2).2.bad = true := by
    intro b hb h
    refine ⟨okY_no (by omega), one_bad ?_⟩
    unfold yearM
    cases (decide (((⟨mk (b ++ 32 :: l), false⟩ : Sc).s.size : Int) > 2)) && ((byteAt (⟨mk (b ++ 32 :: l), false⟩ : Sc).s 2) == 32)
    · exact num_bl (j := b.length) (by omega) (h _ rfl)
    · exact num_bl (n := 2) (j := b.length) (by omega) (h _ rfl)
  match a, ha with
  | [], _ => exact .inr (hshort [] (by decide) (by intro j hj; subst hj; rfl))
  | [c], _ => exact .inr (hshort [c] (by simp) (by intro j hj; subst hj; rfl))
  | [c, d], _ =>
    have hb : byteAt (mk (c :: d :: 32 :: l)) 2 == 32 := byteAt_is (l := c :: d :: 32 :: l) (j := 2) (c := 32) rfl 32
    have e : yearM ⟨mk ([c, d] ++ 32 :: l), false⟩ = ((num 2 ⟨mk (c :: d :: 32 :: l), false⟩).1 + (1900 + 100 * ((149 - (num 2 ⟨mk (c :: d :: 32 :: l), false⟩).1) / 100)), (num 2 ⟨mk (c :: d :: 32 :: l), false⟩).2) := by
      unfold yearM
      rw [List.cons_append, List.cons_append, List.nil_append]
      simp only
      rw [hb, size_mk1, decide_eq_true (by simp only [List.length_cons]; omega)]
      rfl
    rw [e, num2_c, okY_2]
    cases h : isD c
    · exact .inr ⟨rfl, one_bad rfl⟩
    · cases h' : isD d
      · exact .inr ⟨rfl, one_bad rfl⟩
      · refine .inl ⟨rfl, ?_⟩
        have hv := dval2_bd h h'
        unfold yearR
        rw [if_pos (by rw [mk_size]; rfl), rdig_2 h h']
        simp only [Bool.and_self, cond_true]
        congr 1
        split <;> omega
  | [c, d, x], ha =>
    have hx : x ≠ 32 := ha x (by simp)
    have hb : (byteAt (mk (c :: d :: x :: 32 :: l)) 2 == 32) = false := by rw [← u8_ne hx]; exact byteAt_is (l := c :: d :: x :: 32 :: l) (j := 2) (c := x) rfl 32
    have e : yearM ⟨mk ([c, d, x] ++ 32 :: l), false⟩ = num 4 ⟨mk (c :: d :: x :: 32 :: l), false⟩ := by
      unfold yearM
      rw [List.cons_append, List.cons_append, List.cons_append, List.nil_append]
      simp only
      rw [hb, Bool.and_false]; rfl
    rw [e]
    exact .inr ⟨okY_no (by simp only [List.length_cons, List.length_nil]; omega), one_bad (num_bl (j := 3) (by omega) rfl)⟩
  | [c, d, x, y], ha =>
    have hx : x ≠ 32 := ha x (by simp)
    have hb : (byteAt (mk (c :: d :: x :: y :: 32 :: l)) 2 == 32) = false := by rw [← u8_ne hx]; exact byteAt_is (l := c :: d :: x :: y :: 32 :: l) (j := 2) (c := x) rfl 32
    have e : yearM ⟨mk ([c, d, x, y] ++ 32 :: l), false⟩ = num 4 ⟨mk (c :: d :: x :: y :: 32 :: l), false⟩ := by
      unfold yearM
      rw [List.cons_append, List.cons_append, List.cons_append, List.cons_append, List.nil_append]
      simp only
      rw [hb, Bool.and_false]; rfl
    rw [e, num4_c, okY_4]
    cases h : (isD c && (isD d && (isD x && isD y)))
    · exact .inr ⟨rfl, one_bad rfl⟩
    · refine .inl ⟨rfl, ?_⟩
      simp only [Bool.and_eq_true] at h
      unfold yearR
      rw [if_neg (by rw [mk_size]; simp only [List.length_cons, List.length_nil]; omega), rdig_4 h.1 h.2.1 h.2.2.1 h.2.2.2]; rfl
  | c :: d :: x :: y :: z :: a, ha =>
    have hx : x ≠ 32 := ha x (by simp)
    have hz : z ≠ 32 := ha z (by simp)
    have hb : (byteAt (mk (c :: d :: x :: y :: z :: (a ++ 32 :: l))) 2 == 32) = false := by rw [← u8_ne hx]; exact byteAt_is (l := c :: d :: x :: y :: z :: (a ++ 32 :: l)) (j := 2) (c := x) rfl 32
    have e : yearM ⟨mk ((c :: d :: x :: y :: z :: a) ++ 32 :: l), false⟩ = num 4 ⟨mk (c :: d :: x :: y :: z :: (a ++ 32 :: l)), false⟩ := by
      unfold yearM
      rw [List.cons_append, List.cons_append, List.cons_append, List.cons_append, List.cons_append]
      simp only
      rw [hb, Bool.and_false]; rfl
    rw [e, num4_c]
    refine .inr ⟨okY_no (by simp only [List.length_cons]; omega), ?_⟩
    cases (isD c && (isD d && (isD x && isD y)))
    · exact one_bad rfl
    · exact blank_no hz _ _
end Go.Proofs.YtlglmomimhbeaaaGreatDoor
