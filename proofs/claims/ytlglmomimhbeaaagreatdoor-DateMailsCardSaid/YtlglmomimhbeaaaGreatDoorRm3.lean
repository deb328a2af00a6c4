/- The program and the document's answer read the same dates in RSS: the clock, the zone, the whole. No program is in sight. -/
import Derived.Test.YtlglmomimhbeaaaGreatDoorRm2
namespace Go.Proofs.YtlglmomimhbeaaaGreatDoor
open Go.Sw Go.Lib Go.Cal Go.Scn

theorem co1 : ByteArray.mk #[58] = mk [58] := rfl
/-! ## the clock -/
theorem okT_5 (c d x y z : UInt8) (a : List UInt8) : okT (mk (c :: d :: x :: y :: z :: a)) = (isD c && (isD d && (x == 58 && (isD y && (isD z && (likeL a [] || likeL a [58, 57, 57])))))) := by
  unfold okT
  rw [show ByteArray.mk #[57, 57, 58, 57, 57] = mk [57, 57, 58, 57, 57] from rfl, show ByteArray.mk #[57, 57, 58, 57, 57, 58, 57, 57] = mk [57, 57, 58, 57, 57, 58, 57, 57] from rfl, likeB_mk, likeB_mk]
  simp only [likeL, lk_d, lk_58]
  cases isD c <;> cases isD d <;> cases x == 58 <;> cases isD y <;> cases isD z <;> simp
theorem okT_no {a : List UInt8} (h : a.length < 5) : okT (mk a) = false := by
  unfold okT
  rw [likeB_no (by rw [mk_size]; show a.length ≠ 5; omega), likeB_no (by rw [mk_size]; show a.length ≠ 8; omega)]; rfl
theorem likeL_len {l p : List UInt8} (h : l.length ≠ p.length) : likeL l p = false := by
  rw [← Bool.not_eq_true, likeL_iff]; exact fun h' => h h'.1
theorem sec_step {c d x y z : UInt8} {a l : List UInt8} (ha : bf a) :
    ((likeL a [] || likeL a [58, 57, 57]) = true ∧ secM ⟨mk (a ++ 32 :: l), false⟩ = (secR (mk (c :: d :: x :: y :: z :: a)), ⟨mk (32 :: l), false⟩)) ∨
    ((likeL a [] || likeL a [58, 57, 57]) = false ∧ (Scn.one [mk [32]] (secM ⟨mk (a ++ 32 :: l), false⟩).2).2.bad = true) := by
  unfold secM
  rw [co1, may_mk]
  match a, ha with
  | [], _ =>
    left
    refine ⟨rfl, ?_⟩
    unfold secR
    rw [List.nil_append, pre_1, if_neg (by rw [mk_size]; simp only [List.length_cons, List.length_nil]; omega)]
    rfl
  | p :: a, ha =>
    have hp : p ≠ 32 := ha p (by simp)
    rw [List.cons_append, pre_1]
    cases h : p == 58
    · right
      refine ⟨by simp [likeL, lk_58, h], ?_⟩
      simp only [cond_false]
      exact blank_no hp _ _
    · simp only [cond_true, List.length_cons, List.length_nil, List.drop_succ_cons, List.drop_zero]
      match a, ha with
      | [], _ => exact .inr ⟨by simp [likeL], one_bad (num_bl (j := 0) (by omega) rfl)⟩
      | [q], _ => exact .inr ⟨by simp [likeL], one_bad (num_bl (j := 1) (by omega) rfl)⟩
      | [q, r], _ =>
        rw [List.cons_append, List.cons_append, List.nil_append, num2_c]
        cases hq : isD q
        · exact .inr ⟨by simp [likeL, lk_d, hq], one_bad rfl⟩
        · cases hr : isD r
          · exact .inr ⟨by simp [likeL, lk_d, hr], one_bad rfl⟩
          · left
            refine ⟨by simp [likeL, lk_d, lk_58, hq, hr, h], ?_⟩
            unfold secR
            rw [if_pos (by rw [mk_size]; rfl), mk_ext, mk_size]
            rw [show ((c :: d :: x :: y :: z :: p :: q :: r :: []).take (c :: d :: x :: y :: z :: p :: q :: r :: []).length).drop 6 = [q, r] from rfl, rdig_2 hq hr]
            rfl
      | q :: r :: w :: a, ha =>
        have hw : w ≠ 32 := ha w (by simp)
        right
        refine ⟨by rw [likeL_len (by simp only [List.length_cons, List.length_nil]; omega), likeL_len (by simp only [List.length_cons, List.length_nil]; omega)]; rfl, ?_⟩
        rw [List.cons_append, List.cons_append, List.cons_append, num2_c]
        cases isD q && isD r
        · exact one_bad rfl
        · exact blank_no hw _ _
theorem G3_b1 {y mo d : Int} {L : List UInt8} (h : (num 2 ⟨mk L, false⟩).2.bad = true) : G3 y mo d ⟨mk L, false⟩ = none := by
  unfold G3; exact G4_bad (one_bad (sec_bad (num_bad (one_bad h))))
theorem G3_b2 {y mo d : Int} {L : List UInt8} {σ : Sc} (e : (num 2 ⟨mk L, false⟩).2 = σ) (h : (Scn.one [mk [58]] σ).2.bad = true) : G3 y mo d ⟨mk L, false⟩ = none := by
  unfold G3; rw [co1, e]; exact G4_bad (one_bad (sec_bad (num_bad h)))
theorem G3_b3 {y mo d : Int} {L : List UInt8} {σ τ : Sc} (e : (num 2 ⟨mk L, false⟩).2 = σ) (f : (Scn.one [mk [58]] σ).2 = τ) (h : (num 2 τ).2.bad = true) : G3 y mo d ⟨mk L, false⟩ = none := by
  unfold G3; rw [co1, e, f]; exact G4_bad (one_bad (sec_bad h))
theorem G3_ok {y mo d a b : Int} {L : List UInt8} {σ τ ρ : Sc} (e : num 2 ⟨mk L, false⟩ = (a, σ)) (f : (Scn.one [mk [58]] σ).2 = τ) (g : num 2 τ = (b, ρ)) :
    G3 y mo d ⟨mk L, false⟩ = G4 y mo d a b (secM ρ).1 (Scn.one [mk [32]] (secM ρ).2).2 := by
  unfold G3; rw [co1, bl, e]; dsimp only; rw [f, g]
theorem num2_ok {a b : UInt8} {r : List UInt8} (h : isD a = true) (h' : isD b = true) : num 2 ⟨mk (a :: b :: r), false⟩ = (dvalL [a, b], ⟨mk r, false⟩) := by rw [num2_c, h, h']; rfl
theorem num2_no {a b : UInt8} {r : List UInt8} (h : (isD a && isD b) = false) : (num 2 ⟨mk (a :: b :: r), false⟩).2.bad = true := by rw [num2_c, h]; rfl
theorem col_ok {r : List UInt8} {x : UInt8} (h : (x == 58) = true) : (Scn.one [mk [58]] ⟨mk (x :: r), false⟩).2 = ⟨mk r, false⟩ := by rw [one1_c, h]; rfl
theorem col_no {r : List UInt8} {x : UInt8} (h : (x == 58) = false) : (Scn.one [mk [58]] ⟨mk (x :: r), false⟩).2.bad = true := by rw [one1_c, h]; rfl
theorem two_ok {c d : UInt8} (h : (isD c && isD d) = true) : isD c = true ∧ isD d = true := by rwa [Bool.and_eq_true] at h
theorem clock_short (y mo d : Int) (l : List UInt8) : ∀ a : List UInt8, a.length < 5 → G3 y mo d ⟨mk (a ++ 32 :: l), false⟩ = none
  | [], _ => G3_b1 (num_bl (j := 0) (by omega) rfl)
  | [c], _ => G3_b1 (num_bl (j := 1) (by omega) rfl)
  | [c, e], _ => by
    rw [List.cons_append, List.cons_append, List.nil_append]
    cases h : isD c && isD e
    · exact G3_b1 (num2_no h)
    · rw [Bool.and_eq_true] at h
      exact G3_b2 (by rw [num2_ok h.1 h.2]) (col_no (by decide))
  | [c, e, x], _ => by
    rw [List.cons_append, List.cons_append, List.cons_append, List.nil_append]
    cases h : isD c && isD e
    · exact G3_b1 (num2_no h)
    · rw [Bool.and_eq_true] at h
      cases hx : x == 58
      · exact G3_b2 (by rw [num2_ok h.1 h.2]) (col_no hx)
      · exact G3_b3 (by rw [num2_ok h.1 h.2]) (col_ok hx) (num_bl (j := 0) (by omega) rfl)
  | [c, e, x, q], _ => by
    rw [List.cons_append, List.cons_append, List.cons_append, List.cons_append, List.nil_append]
    cases h : isD c && isD e
    · exact G3_b1 (num2_no h)
    · rw [Bool.and_eq_true] at h
      cases hx : x == 58
      · exact G3_b2 (by rw [num2_ok h.1 h.2]) (col_no hx)
      · exact G3_b3 (by rw [num2_ok h.1 h.2]) (col_ok hx) (num_bl (j := 1) (by omega) rfl)
  | _ :: _ :: _ :: _ :: _ :: _, h => by simp only [List.length_cons] at h; omega
theorem clock_long {yy mo dd : Int} {c d x y z : UInt8} {a l : List UInt8} (ha : bf a) :
    (okT (mk (c :: d :: x :: y :: z :: a)) = true ∧ G3 yy mo dd ⟨mk (c :: d :: x :: y :: z :: (a ++ 32 :: l)), false⟩ = G4 yy mo dd (rdig ((mk (c :: d :: x :: y :: z :: a)).extract 0 2)) (rdig ((mk (c :: d :: x :: y :: z :: a)).extract 3 5)) (secR (mk (c :: d :: x :: y :: z :: a))) ⟨mk l, false⟩) ∨
    (okT (mk (c :: d :: x :: y :: z :: a)) = false ∧ G3 yy mo dd ⟨mk (c :: d :: x :: y :: z :: (a ++ 32 :: l)), false⟩ = none) := by
  rw [okT_5]
  cases h0 : isD c
  · exact .inr ⟨rfl, G3_b1 (num2_no (by rw [h0]; rfl))⟩
  cases h1 : isD d
  · exact .inr ⟨rfl, G3_b1 (num2_no (by rw [h0, h1]; rfl))⟩
  cases h2 : x == 58
  · exact .inr ⟨rfl, G3_b2 (by rw [num2_ok h0 h1]) (col_no h2)⟩
  cases h3 : isD y
  · exact .inr ⟨rfl, G3_b3 (by rw [num2_ok h0 h1]) (col_ok h2) (num2_no (by rw [h3]; rfl))⟩
  cases h4 : isD z
  · exact .inr ⟨rfl, G3_b3 (by rw [num2_ok h0 h1]) (col_ok h2) (num2_no (by rw [h3, h4]; rfl))⟩
  rw [G3_ok (num2_ok h0 h1) (col_ok h2) (num2_ok h3 h4)]
  rcases sec_step (c := c) (d := d) (x := x) (y := y) (z := z) (l := l) ha with ⟨s1, s2⟩ | ⟨s1, s2⟩
  · left
    refine ⟨by rw [s1]; rfl, ?_⟩
    rw [s2, blank_yes, mk_ext, mk_ext]
    rw [show ((c :: d :: x :: y :: z :: a).take 2).drop 0 = [c, d] from rfl, show ((c :: d :: x :: y :: z :: a).take 5).drop 3 = [y, z] from rfl, rdig_2 h0 h1, rdig_2 h3 h4]
  · right
    exact ⟨by rw [s1]; rfl, G4_bad s2⟩
theorem clock_step {yy mo dd : Int} {a l : List UInt8} (ha : bf a) :
    (okT (mk a) = true ∧ G3 yy mo dd ⟨mk (a ++ 32 :: l), false⟩ = G4 yy mo dd (rdig ((mk a).extract 0 2)) (rdig ((mk a).extract 3 5)) (secR (mk a)) ⟨mk l, false⟩) ∨
    (okT (mk a) = false ∧ G3 yy mo dd ⟨mk (a ++ 32 :: l), false⟩ = none) := by
  rcases Nat.lt_or_ge a.length 5 with h | h
  · exact .inr ⟨okT_no h, clock_short yy mo dd l a h⟩
  · obtain ⟨c, l0, rfl⟩ := List.exists_cons_of_length_pos (l := a) (by omega)
    obtain ⟨d, l1, rfl⟩ := List.exists_cons_of_length_pos (l := l0) (by simp only [List.length_cons] at h; omega)
    obtain ⟨x, l2, rfl⟩ := List.exists_cons_of_length_pos (l := l1) (by simp only [List.length_cons] at h; omega)
    obtain ⟨y, l3, rfl⟩ := List.exists_cons_of_length_pos (l := l2) (by simp only [List.length_cons] at h; omega)
    obtain ⟨z, l4, rfl⟩ := List.exists_cons_of_length_pos (l := l3) (by simp only [List.length_cons] at h; omega)
    exact clock_long (fun q hq => ha q (by simp [hq]))

/-! ## the zone -/
theorem off_e (σ : Sc) : offM (ByteArray.mk #[]) σ = (let p := Scn.one [mk [43], mk [45]] σ
  let q := num 2 p.2
  let u := num 2 q.2
  ((1 - 2 * p.1) * (q.1 * 3600 + u.1 * 60), ⟨u.2.s, u.2.bad || decide (q.1 > 23) || decide (u.1 > 59)⟩)) := by
  unfold offM
  dsimp only
  rw [if_pos (beq_self_eq_true _)]
  rfl
theorem off0_use {σ : Sc} (h : (offM (ByteArray.mk #[]) σ).2.bad = false) : (offM (ByteArray.mk #[]) σ).2.s.size + 5 = σ.s.size ∧ σ.bad = false := by
  rw [off_e] at h ⊢
  dsimp only at h ⊢
  rw [Bool.or_eq_false_iff, Bool.or_eq_false_iff] at h
  have a := num_use h.1.1
  have c := num_use a.2
  have d := one_use (k := 1) (by intro w hw; simp only [List.mem_cons, List.not_mem_nil, or_false] at hw; rcases hw with rfl | rfl <;> rfl) c.2
  exact ⟨by omega, d.2⟩
theorem pe : p99 ++ ByteArray.mk #[] ++ n99 = mk [43, 57, 57, 57, 57] := rfl
theorem me : m99 ++ ByteArray.mk #[] ++ n99 = mk [45, 57, 57, 57, 57] := rfl
theorem likeOff0_c (a b c e f : UInt8) : (likeB (mk [a, b, c, e, f]) (p99 ++ ByteArray.mk #[] ++ n99) || likeB (mk [a, b, c, e, f]) (m99 ++ ByteArray.mk #[] ++ n99)) = ((a == 43 || a == 45) && (isD b && (isD c && (isD e && isD f)))) := by
  rw [pe, me]
  simp only [likeB_mk, likeL, Bool.and_true, lk_d, lk_43, lk_45]
  cases a == 43 <;> cases a == 45 <;> simp
theorem off0_c (a b c e f : UInt8) :
    ((rOff (mk [a, b, c, e, f]) (ByteArray.mk #[])).2 = true ∧ offM (ByteArray.mk #[]) ⟨mk [a, b, c, e, f], false⟩ = ((rOff (mk [a, b, c, e, f]) (ByteArray.mk #[])).1, ⟨mk [], false⟩)) ∨
    ((rOff (mk [a, b, c, e, f]) (ByteArray.mk #[])).2 = false ∧ (offM (ByteArray.mk #[]) ⟨mk [a, b, c, e, f], false⟩).2.bad = true) := by
  unfold rOff
  rw [likeOff0_c, off_e]
  refine dich (a == 43 || a == 45) (fun h0 => .inr ?_) (fun h0 => ?_)
  · rw [Bool.or_eq_false_iff] at h0
    refine ⟨by simp [h0.1, h0.2], ?_⟩
    simp only [h0.1, h0.2, one2_c, cond_false]
    exact or3 (num_bad (num_bad rfl))
  have ho : ∀ r, (Scn.one [mk [43], mk [45]] ⟨mk (a :: r), false⟩) = (bif a == 43 then 0 else 1, ⟨mk r, false⟩) := by
    intro r
    rw [one2_c]
    cases h : a == 43
    · rw [h, Bool.false_or] at h0; rw [h0]; rfl
    · rfl
  have hs : (byteAt (mk [a, b, c, e, f]) 0 == 45) = !(a == 43) := by
    rw [show (0 : Int) = ((0 : Nat) : Int) from rfl, show (45 : Int) = ((45 : UInt8).toNat : Int) from rfl, byteAt_is (c := a) rfl]
    cases h : a == 43
    · rw [h, Bool.false_or] at h0; rw [h0]; rfl
    · rw [beq_iff_eq] at h; subst h; rfl
  simp only [ho]
  refine dich (isD b) (fun h1 => .inr ?_) (fun h1 => ?_)
  · refine ⟨by simp [h0, h1], ?_⟩
    simp only [h0, h1, num2_c, Bool.false_and, cond_false]
    exact or3 (num_bad rfl)
  refine dich (isD c) (fun h2 => .inr ?_) (fun h2 => ?_)
  · refine ⟨by simp [h0, h1, h2], ?_⟩
    simp only [h0, h1, h2, num2_c, Bool.and_false, cond_false]
    exact or3 (num_bad rfl)
  refine dich (isD e) (fun h4 => .inr ?_) (fun h4 => ?_)
  · refine ⟨by simp [h0, h1, h2, h4], ?_⟩
    simp only [h0, h1, h2, h4, num2_c, Bool.and_self, cond_true, Bool.false_and, cond_false]
    exact or3 rfl
  refine dich (isD f) (fun h5 => .inr ?_) (fun h5 => ?_)
  · refine ⟨by simp [h0, h1, h2, h4, h5], ?_⟩
    simp only [h0, h1, h2, h4, h5, num2_c, Bool.and_self, cond_true, Bool.and_false, cond_false]
    exact or3 rfl
  have e1 : (mk [a, b, c, e, f]).extract 1 3 = mk [b, c] := by rw [mk_ext]; rfl
  have e2 : (mk [a, b, c, e, f]).extract (Int.toNat (((mk [a, b, c, e, f]).size : Int) - 2)) (mk [a, b, c, e, f]).size = mk [e, f] := by rw [mk_ext]; rfl
  have hc : (bif (a == 43 || a == 45) && (isD b && (isD c && (isD e && isD f))) then ((if byteAt (mk [a, b, c, e, f]) 0 == 45 then 0 - offV (mk [a, b, c, e, f]) else offV (mk [a, b, c, e, f])), decide (rdig ((mk [a, b, c, e, f]).extract 1 3) < 24) && decide (rdig ((mk [a, b, c, e, f]).extract (Int.toNat (((mk [a, b, c, e, f]).size : Int) - 2)) (mk [a, b, c, e, f]).size) < 60)) else ((0 : Int), false))
      = ((1 - 2 * (bif a == 43 then 0 else 1)) * (dvalL [b, c] * 3600 + dvalL [e, f] * 60), decide (dvalL [b, c] < 24) && decide (dvalL [e, f] < 60)) := by
    rw [h0, h1, h2, h4, h5]
    simp only [Bool.and_self, cond_true]
    rw [hs]
    unfold offV
    rw [e1, e2, rdig_2 h1 h2, rdig_2 h4 h5]
    congr 1
    cases a == 43
    · simp only [Bool.not_false, if_true, cond_false]; omega
    · simp only [Bool.not_true, Bool.false_eq_true, if_false, cond_true]; omega
  rw [hc]
  simp only [num2_c, h1, h2, h4, h5, Bool.and_self, cond_true, Bool.false_or]
  rw [show decide (dvalL [b, c] > 23) = !decide (dvalL [b, c] < 24) from lt_gt _ 23, show decide (dvalL [e, f] > 59) = !decide (dvalL [e, f] < 60) from lt_gt _ 59]
  cases decide (dvalL [b, c] < 24) <;> cases decide (dvalL [e, f] < 60) <;> simp
theorem off0_end (z : List UInt8) (t : Int → Option Int) : endM (offM (ByteArray.mk #[]) ⟨mk z, false⟩).2 (t (offM (ByteArray.mk #[]) ⟨mk z, false⟩).1) = bif (rOff (mk z) (ByteArray.mk #[])).2 then t (rOff (mk z) (ByteArray.mk #[])).1 else none := by
  by_cases hz : z.length = 5
  · match z, hz with
    | [a, b, c, e, f], _ =>
      rcases off0_c a b c e f with ⟨h1, h2⟩ | ⟨h1, h2⟩
      · rw [h1, h2]; exact endM_nil _
      · rw [h1, endM_bad h2]; rfl
  · have h0 : (rOff (mk z) (ByteArray.mk #[])).2 = false := by
      unfold rOff
      rw [likeB_no (by rw [mk_size]; exact hz), likeB_no (by rw [mk_size]; exact hz)]
      rfl
    rw [h0, cond_false]
    cases hb : (offM (ByteArray.mk #[]) ⟨mk z, false⟩).2.bad with
    | true => exact endM_bad hb _
    | false =>
      have := (off0_use hb).1
      have e : (⟨mk z, false⟩ : Sc).s.size = z.length := mk_size z
      exact endM_rest (by omega) _
theorem rOff_like {z : List UInt8} (h : likeL z [43, 57, 57, 57, 57] = false ∧ likeL z [45, 57, 57, 57, 57] = false) : (rOff (mk z) (ByteArray.mk #[])).2 = false := by
  unfold rOff
  rw [pe, me, likeB_mk, likeB_mk, h.1, h.2]; rfl
theorem names_end {z : List UInt8} : ∀ (ns : List (List UInt8)) (i : Int), 0 ≤ i → (∀ w ∈ ns, ∀ w' ∈ ns, pre w w' = true → w = w') →
    (0 ≤ placeFrom z ns i ∧ placeFrom z ns i < i + ns.length ∧ oneFrom ⟨mk z, false⟩ (ns.map mk) i = (placeFrom z ns i, ⟨mk [], false⟩)) ∨
    (placeFrom z ns i = -1 ∧ ∀ t, endM (oneFrom ⟨mk z, false⟩ (ns.map mk) i).2 t = none)
  | [], i, _, _ => .inr ⟨rfl, fun t => endM_bad rfl t⟩
  | w :: ns, i, hi, hw => by
    rw [List.map_cons, oneFrom, startsB_mk, cutP_mk, placeFrom]
    cases hp : pre w z with
    | false =>
      rw [if_neg Bool.false_ne_true, if_neg]
      · rcases names_end (z := z) ns (i + 1) (by omega) (fun x hx y hy => hw x (List.mem_cons_of_mem _ hx) y (List.mem_cons_of_mem _ hy)) with ⟨h1, h2, h3⟩ | h
        · exact .inl ⟨h1, by rw [List.length_cons]; omega, h3⟩
        · exact .inr h
      · intro h; subst h
        unfold pre at hp
        rw [← Bool.not_eq_true, List.isPrefixOf_iff_prefix] at hp
        exact hp (List.prefix_refl _)
    | true =>
      rw [if_pos rfl, cond_true]
      by_cases h : w = z
      · subst h
        rw [if_pos rfl]
        refine .inl ⟨hi, by rw [List.length_cons]; omega, ?_⟩
        rw [List.drop_length]
      · rw [if_neg h]
        refine .inr ⟨placeFrom_no _ _ (fun hm => h (hw w List.mem_cons_self z (List.mem_cons_of_mem _ hm) hp)), fun t => endM_rest ?_ t⟩
        show 0 < (mk (z.drop w.length)).size
        rw [mk_size, List.length_drop]
        unfold pre at hp
        rw [List.isPrefixOf_iff_prefix] at hp
        obtain ⟨r, hr⟩ := hp
        cases r with
        | nil => rw [List.append_nil] at hr; exact absurd hr h
        | cons x r => rw [← hr, List.length_append, List.length_cons]; omega
theorem zoneM_T {k : Int} (h0 : 0 ≤ k) (h1 : k < 11) : zoneM k = -3600 * zoneT.getD k.toNat 0 := by
  have : k = 0 ∨ k = 1 ∨ k = 2 ∨ k = 3 ∨ k = 4 ∨ k = 5 ∨ k = 6 ∨ k = 7 ∨ k = 8 ∨ k = 9 ∨ k = 10 := by omega
  rcases this with rfl | rfl | rfl | rfl | rfl | rfl | rfl | rfl | rfl | rfl | rfl <;> rfl
theorem zone_end (y mo d h mi sc : Int) (z : List UInt8) : G4 y mo d h mi sc ⟨mk z, false⟩ = match zoneR (mk z) with
    | none => none
    | some o => timeM y mo d h mi sc o := by
  unfold G4 zoneR
  rw [zoneL_N, placeB_mk]
  cases hs : signB (⟨mk z, false⟩ : Sc).s with
  | true =>
    rw [cond_true, off0_end z (fun o => timeM y mo d h mi sc o)]
    have hn : placeFrom z zoN 0 = -1 := by
      apply placeFrom_no
      intro hm
      have hall : ∀ w ∈ zoN, signB (mk w) = false := by decide +kernel
      rw [hall z hm] at hs; cases hs
    rw [hn, if_neg (by decide)]
    cases (rOff (mk z) (ByteArray.mk #[])).2 <;> rfl
  | false =>
    rw [cond_false]
    have hr : (rOff (mk z) (ByteArray.mk #[])).2 = false := by
      cases z with
      | nil => exact rOff_like ⟨rfl, rfl⟩
      | cons c r =>
        apply rOff_like
        have h0 : ((mk (c :: r)).toList == (ByteArray.mk #[]).toList) = false := by
          rw [mk_toList, show (ByteArray.mk #[]).toList = [] from mk_toList []]; rfl
        have hb : ∀ x : UInt8, (byteAt (mk (c :: r)) 0 == (x.toNat : Int)) = (c == x) := fun x => byteAt_is (l := c :: r) (j := 0) (c := c) rfl x
        unfold signB at hs
        rw [h0, show (43 : Int) = ((43 : UInt8).toNat : Int) from rfl, show (45 : Int) = ((45 : UInt8).toNat : Int) from rfl, hb, hb, Bool.not_false, Bool.true_and, Bool.or_eq_false_iff] at hs
        simp only [likeL, lk_43, lk_45, hs.1, hs.2, Bool.false_and, and_self]
    rw [hr, cond_false]
    have hp : ∀ w ∈ zoN, ∀ w' ∈ zoN, pre w w' = true → w = w' := by decide +kernel
    unfold Scn.one
    rcases names_end (z := z) zoN 0 (Int.le_refl 0) hp with ⟨h1, h2, h3⟩ | ⟨h1, h2⟩
    · rw [h3, if_pos (by omega)]
      simp only
      rw [endM_nil, zoneM_T h1 (by have : zoN.length = 11 := rfl; omega)]
    · rw [h1, h2, if_neg (by decide)]
theorem zone_blank {a l : List UInt8} : zoneR (mk (a ++ 32 :: l)) = none := by
  unfold zoneR
  rw [zoneL_N, placeB_mk, placeFrom_no, if_neg (by decide)]
  · have h : ∀ x, likeL (a ++ 32 :: l) [x, 57, 57, 57, 57] = true → x = 32 := by
      intro x h
      rw [likeL_iff] at h
      have h1 := h.2 a.length (by rw [List.length_append, List.length_cons]; omega)
      have e1 : (a ++ 32 :: l).getD a.length 0 = 32 := by
        rw [List.getD_eq_getElem?_getD, List.getElem?_append_right (Nat.le_refl _), Nat.sub_self]; rfl
      rw [e1] at h1
      have h2 := h.1
      rw [List.length_append, List.length_cons] at h2
      simp only [List.length_cons, List.length_nil] at h2
      have : a.length = 0 ∨ a.length = 1 ∨ a.length = 2 ∨ a.length = 3 ∨ a.length = 4 := by omega
      rcases this with h3 | h3 | h3 | h3 | h3 <;> rw [h3] at h1
      · unfold lk at h1
        simp only [List.getD_cons_zero] at h1
        cases h57 : x == 57
        · rw [h57, cond_false, beq_iff_eq] at h1; exact h1.symm
        · rw [h57, cond_true, D32] at h1; cases h1
      all_goals (exfalso; revert h1; simp only [List.getD_cons_succ, List.getD_cons_zero, lk_d, D32]; decide)
    rw [rOff_like ⟨by rw [← Bool.not_eq_true]; intro h'; exact absurd (h 43 h') (by decide), by rw [← Bool.not_eq_true]; intro h'; exact absurd (h 45 h') (by decide)⟩]
    rfl
  · have hall : ∀ w ∈ zoN, (32 : UInt8) ∉ w := by decide +kernel
    intro hm
    exact hall _ hm (by simp)
end Go.Proofs.YtlglmomimhbeaaaGreatDoor
