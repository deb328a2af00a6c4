/- The program and the document's answer read the same dates in Atom. No program is in sight. -/
import Derived.Test.YtlglmomimhbeaaaGreatDoorRd
namespace Go.Proofs.YtlglmomimhbeaaaGreatDoor
open Go.Sw Go.Lib Go.Cal Go.Scn

theorem dich (b : Bool) {P : Prop} (h0 : b = false → P) (h1 : b = true → P) : P := by cases b; exact h0 rfl; exact h1 rfl
theorem num_bad {n : Nat} {σ : Sc} (h : σ.bad = true) : (num n σ).2.bad = true := by unfold num; split <;> simp [h]
theorem oneFrom_bad {σ : Sc} (h : σ.bad = true) : ∀ (ws : List ByteArray) (i : Int), (oneFrom σ ws i).2.bad = true
  | [], _ => rfl
  | w :: r, i => by
    unfold oneFrom; split
    · exact h
    · exact oneFrom_bad h r _
theorem one_bad {ws : List ByteArray} {σ : Sc} (h : σ.bad = true) : (Scn.one ws σ).2.bad = true := oneFrom_bad h ws 0
theorem num_use {n : Nat} {σ : Sc} (h : (num n σ).2.bad = false) : (num n σ).2.s.size + n = σ.s.size ∧ σ.bad = false := by
  unfold num at *
  by_cases h' : n ≤ σ.s.size ∧ digB (σ.s.extract 0 n) = true
  · rw [if_pos h'] at h ⊢
    refine ⟨?_, h⟩
    simp only [ByteArray.size_extract]
    omega
  · rw [if_neg h'] at h; cases h
theorem oneFrom_use {σ : Sc} {k : Nat} : ∀ (ws : List ByteArray) (i : Int), (∀ w ∈ ws, w.size = k) → (oneFrom σ ws i).2.bad = false → (oneFrom σ ws i).2.s.size + k = σ.s.size ∧ σ.bad = false
  | [], _, _, h => by cases h
  | w :: r, i, hw, h => by
    unfold oneFrom at h ⊢
    by_cases h' : startsB σ.s w = true
    · rw [if_pos h'] at h ⊢
      refine ⟨?_, h⟩
      unfold cutP
      rw [if_pos h']
      have := hw w List.mem_cons_self
      unfold startsB at h'
      rw [Bool.and_eq_true, decide_eq_true_eq] at h'
      simp only [ByteArray.size_extract]
      omega
    · rw [if_neg h'] at h ⊢
      exact oneFrom_use r _ (fun x hx => hw x (List.mem_cons_of_mem _ hx)) h
theorem one_use {ws : List ByteArray} {σ : Sc} {k : Nat} (hw : ∀ w ∈ ws, w.size = k) (h : (Scn.one ws σ).2.bad = false) : (Scn.one ws σ).2.s.size + k = σ.s.size ∧ σ.bad = false := oneFrom_use ws 0 hw h
theorem sz1 {a : ByteArray} (ha : a.size = 1) : ∀ w ∈ [a], w.size = 1 := by intro w hw; rw [List.mem_singleton.1 hw]; exact ha
theorem num2_c (a b : UInt8) (r : List UInt8) : num 2 ⟨mk (a :: b :: r), false⟩ = bif isD a && isD b then (dvalL [a, b], ⟨mk r, false⟩) else (0, ⟨mk (a :: b :: r), true⟩) := by
  rw [num_mk]
  simp only [List.length_cons, List.take_succ_cons, List.take_zero, List.all_cons, List.all_nil, Bool.and_true, List.drop_succ_cons, List.drop_zero]
  cases h : (isD a && isD b)
  · rw [if_neg (by simp)]; rfl
  · rw [if_pos ⟨by omega, rfl⟩]; rfl
theorem num4_c (a b c d : UInt8) (r : List UInt8) : num 4 ⟨mk (a :: b :: c :: d :: r), false⟩ = bif isD a && (isD b && (isD c && isD d)) then (dvalL [a, b, c, d], ⟨mk r, false⟩) else (0, ⟨mk (a :: b :: c :: d :: r), true⟩) := by
  rw [num_mk]
  simp only [List.length_cons, List.take_succ_cons, List.take_zero, List.all_cons, List.all_nil, Bool.and_true, List.drop_succ_cons, List.drop_zero]
  cases h : (isD a && (isD b && (isD c && isD d)))
  · rw [if_neg (by simp)]; rfl
  · rw [if_pos ⟨by omega, rfl⟩]; rfl
theorem pre_1 (x c : UInt8) (r : List UInt8) : pre [x] (c :: r) = (c == x) := by
  unfold pre
  simp only [List.isPrefixOf, Bool.and_true]
  rw [Bool.eq_iff_iff, beq_iff_eq, beq_iff_eq]; exact eq_comm
theorem oneFrom_c (x c : UInt8) (r : List UInt8) (b : Bool) (ws : List ByteArray) (i : Int) : oneFrom ⟨mk (c :: r), b⟩ (mk [x] :: ws) i = bif c == x then (i, ⟨mk r, b⟩) else oneFrom ⟨mk (c :: r), b⟩ ws (i + 1) := by
  rw [oneFrom, startsB_mk, cutP_mk, pre_1]
  cases c == x <;> rfl
theorem one1_c (x c : UInt8) (r : List UInt8) : Scn.one [mk [x]] ⟨mk (c :: r), false⟩ = bif c == x then (0, ⟨mk r, false⟩) else (-1, ⟨mk (c :: r), true⟩) := by
  rw [Scn.one, oneFrom_c]; rfl
theorem one2_c (x y c : UInt8) (r : List UInt8) : Scn.one [mk [x], mk [y]] ⟨mk (c :: r), false⟩ = bif c == x then (0, ⟨mk r, false⟩) else bif c == y then (1, ⟨mk r, false⟩) else (-1, ⟨mk (c :: r), true⟩) := by
  rw [Scn.one, oneFrom_c, oneFrom_c]; rfl
theorem one3_c (x y z c : UInt8) (r : List UInt8) : (Scn.one [mk [x], mk [y], mk [z]] ⟨mk (c :: r), false⟩).2 = bif c == x || (c == y || c == z) then ⟨mk r, false⟩ else ⟨mk (c :: r), true⟩ := by
  rw [Scn.one, oneFrom_c, oneFrom_c, oneFrom_c]
  cases c == x <;> cases c == y <;> cases c == z <;> rfl
theorem rdig_2 {a b : UInt8} (h : isD a = true) (h' : isD b = true) : rdig (mk [a, b]) = dvalL [a, b] := by
  unfold rdig; rw [digB_mk]; simp [h, h', mk_data]
theorem rdig_4 {a b c d : UInt8} (h : isD a = true) (h' : isD b = true) (h2 : isD c = true) (h3 : isD d = true) : rdig (mk [a, b, c, d]) = dvalL [a, b, c, d] := by
  unfold rdig; rw [digB_mk]; simp [h, h', h2, h3, mk_data]
theorem lk_d (c : UInt8) : lk c 57 = isD c := rfl
theorem lk_45 (c : UInt8) : lk c 45 = (c == 45) := rfl
theorem lk_43 (c : UInt8) : lk c 43 = (c == 43) := rfl
theorem lk_58 (c : UInt8) : lk c 58 = (c == 58) := rfl
theorem lk_84 (c : UInt8) : lk c 84 = (c == 84) := rfl
theorem lk_116 (c : UInt8) : lk c 116 = (c == 116) := rfl
theorem lk_32 (c : UInt8) : lk c 32 = (c == 32) := rfl
theorem and_or3 (a x y z : Bool) : (a && x || (a && y || a && z)) = (a && (x || (y || z))) := by cases a <;> rfl
theorem or_and3 (a x y z : Bool) : (x && a || (y && a || z && a)) = ((x || (y || z)) && a) := by cases a <;> simp
theorem headM_c (s : ByteArray) : headM s = 
  let a := num 4 ⟨s, false⟩
  let b := num 2 (Scn.one [mk [45]] a.2).2
  let c := num 2 (Scn.one [mk [45]] b.2).2
  let d := num 2 (Scn.one [mk [84], mk [116], mk [32]] c.2).2
  let e := num 2 (Scn.one [mk [58]] d.2).2
  let f := num 2 (Scn.one [mk [58]] e.2).2
  ((a.1, b.1, c.1, d.1, e.1, f.1), f.2) := rfl
theorem headB_c (c0 c1 c2 c3 c4 c5 c6 c7 c8 c9 c10 c11 c12 c13 c14 c15 c16 c17 c18 : UInt8) : headB (mk [c0, c1, c2, c3, c4, c5, c6, c7, c8, c9, c10, c11, c12, c13, c14, c15, c16, c17, c18]) = ((isD c0) && ((isD c1) && ((isD c2) && ((isD c3) && ((c4 == 45) && ((isD c5) && ((isD c6) && ((c7 == 45) && ((isD c8) && ((isD c9) && ((c10 == 84 || (c10 == 116 || c10 == 32)) && ((isD c11) && ((isD c12) && ((c13 == 58) && ((isD c14) && ((isD c15) && ((c16 == 58) && ((isD c17) && ((isD c18)))))))))))))))))))) := by
  unfold headB
  rw [show pT = mk [57, 57, 57, 57, 45, 57, 57, 45, 57, 57, 84, 57, 57, 58, 57, 57, 58, 57, 57] from rfl, show pt = mk [57, 57, 57, 57, 45, 57, 57, 45, 57, 57, 116, 57, 57, 58, 57, 57, 58, 57, 57] from rfl, show pS = mk [57, 57, 57, 57, 45, 57, 57, 45, 57, 57, 32, 57, 57, 58, 57, 57, 58, 57, 57] from rfl]
  simp only [likeB_mk, likeL, Bool.and_true]
  simp only [lk_d, lk_45, lk_58, lk_84, lk_116, lk_32]
  simp only [and_or3]
  cases c10 == 84 <;> cases c10 == 116 <;> cases c10 == 32 <;> simp
theorem head_c (c0 c1 c2 c3 c4 c5 c6 c7 c8 c9 c10 c11 c12 c13 c14 c15 c16 c17 c18 : UInt8) (r : List UInt8) :
    (headB (mk [c0, c1, c2, c3, c4, c5, c6, c7, c8, c9, c10, c11, c12, c13, c14, c15, c16, c17, c18]) = true ∧ (∀ off, timeR (mk [c0, c1, c2, c3, c4, c5, c6, c7, c8, c9, c10, c11, c12, c13, c14, c15, c16, c17, c18]) off = timeM (dvalL [c0, c1, c2, c3]) (dvalL [c5, c6]) (dvalL [c8, c9]) (dvalL [c11, c12]) (dvalL [c14, c15]) (dvalL [c17, c18]) off) ∧
      headM (mk (c0 :: c1 :: c2 :: c3 :: c4 :: c5 :: c6 :: c7 :: c8 :: c9 :: c10 :: c11 :: c12 :: c13 :: c14 :: c15 :: c16 :: c17 :: c18 :: r)) = ((dvalL [c0, c1, c2, c3], dvalL [c5, c6], dvalL [c8, c9], dvalL [c11, c12], dvalL [c14, c15], dvalL [c17, c18]), ⟨mk r, false⟩)) ∨
    (headB (mk [c0, c1, c2, c3, c4, c5, c6, c7, c8, c9, c10, c11, c12, c13, c14, c15, c16, c17, c18]) = false ∧ (headM (mk (c0 :: c1 :: c2 :: c3 :: c4 :: c5 :: c6 :: c7 :: c8 :: c9 :: c10 :: c11 :: c12 :: c13 :: c14 :: c15 :: c16 :: c17 :: c18 :: r))).2.bad = true) := by
  rw [headB_c, headM_c]
  refine dich (isD c0) (fun h0 => .inr ?_) (fun h0 => ?_)
  · refine ⟨by simp [h0], ?_⟩
    simp only [h0, num4_c, num2_c, one1_c, one3_c, Bool.false_and, Bool.and_false, Bool.true_and, Bool.and_self, cond_true, cond_false]
    exact num_bad (one_bad (num_bad (one_bad (num_bad (one_bad (num_bad (one_bad (num_bad (one_bad (rfl))))))))))
  refine dich (isD c1) (fun h1 => .inr ?_) (fun h1 => ?_)
  · refine ⟨by simp [h0, h1], ?_⟩
    simp only [h0, h1, num4_c, num2_c, one1_c, one3_c, Bool.false_and, Bool.and_false, Bool.true_and, Bool.and_self, cond_true, cond_false]
    exact num_bad (one_bad (num_bad (one_bad (num_bad (one_bad (num_bad (one_bad (num_bad (one_bad (rfl))))))))))
  refine dich (isD c2) (fun h2 => .inr ?_) (fun h2 => ?_)
  · refine ⟨by simp [h0, h1, h2], ?_⟩
    simp only [h0, h1, h2, num4_c, num2_c, one1_c, one3_c, Bool.false_and, Bool.and_false, Bool.true_and, Bool.and_self, cond_true, cond_false]
    exact num_bad (one_bad (num_bad (one_bad (num_bad (one_bad (num_bad (one_bad (num_bad (one_bad (rfl))))))))))
  refine dich (isD c3) (fun h3 => .inr ?_) (fun h3 => ?_)
  · refine ⟨by simp [h0, h1, h2, h3], ?_⟩
    simp only [h0, h1, h2, h3, num4_c, num2_c, one1_c, one3_c, Bool.false_and, Bool.and_false, Bool.true_and, Bool.and_self, cond_true, cond_false]
    exact num_bad (one_bad (num_bad (one_bad (num_bad (one_bad (num_bad (one_bad (num_bad (one_bad (rfl))))))))))
  refine dich (c4 == 45) (fun h4 => .inr ?_) (fun h4 => ?_)
  · refine ⟨by simp [h0, h1, h2, h3, h4], ?_⟩
    simp only [h0, h1, h2, h3, h4, num4_c, num2_c, one1_c, one3_c, Bool.false_and, Bool.and_false, Bool.true_and, Bool.and_self, cond_true, cond_false]
    exact num_bad (one_bad (num_bad (one_bad (num_bad (one_bad (num_bad (one_bad (num_bad (rfl)))))))))
  refine dich (isD c5) (fun h5 => .inr ?_) (fun h5 => ?_)
  · refine ⟨by simp [h0, h1, h2, h3, h4, h5], ?_⟩
    simp only [h0, h1, h2, h3, h4, h5, num4_c, num2_c, one1_c, one3_c, Bool.false_and, Bool.and_false, Bool.true_and, Bool.and_self, cond_true, cond_false]
    exact num_bad (one_bad (num_bad (one_bad (num_bad (one_bad (num_bad (one_bad (rfl))))))))
  refine dich (isD c6) (fun h6 => .inr ?_) (fun h6 => ?_)
  · refine ⟨by simp [h0, h1, h2, h3, h4, h5, h6], ?_⟩
    simp only [h0, h1, h2, h3, h4, h5, h6, num4_c, num2_c, one1_c, one3_c, Bool.false_and, Bool.and_false, Bool.true_and, Bool.and_self, cond_true, cond_false]
    exact num_bad (one_bad (num_bad (one_bad (num_bad (one_bad (num_bad (one_bad (rfl))))))))
  refine dich (c7 == 45) (fun h7 => .inr ?_) (fun h7 => ?_)
  · refine ⟨by simp [h0, h1, h2, h3, h4, h5, h6, h7], ?_⟩
    simp only [h0, h1, h2, h3, h4, h5, h6, h7, num4_c, num2_c, one1_c, one3_c, Bool.false_and, Bool.and_false, Bool.true_and, Bool.and_self, cond_true, cond_false]
    exact num_bad (one_bad (num_bad (one_bad (num_bad (one_bad (num_bad (rfl)))))))
  refine dich (isD c8) (fun h8 => .inr ?_) (fun h8 => ?_)
  · refine ⟨by simp [h0, h1, h2, h3, h4, h5, h6, h7, h8], ?_⟩
    simp only [h0, h1, h2, h3, h4, h5, h6, h7, h8, num4_c, num2_c, one1_c, one3_c, Bool.false_and, Bool.and_false, Bool.true_and, Bool.and_self, cond_true, cond_false]
    exact num_bad (one_bad (num_bad (one_bad (num_bad (one_bad (rfl))))))
  refine dich (isD c9) (fun h9 => .inr ?_) (fun h9 => ?_)
  · refine ⟨by simp [h0, h1, h2, h3, h4, h5, h6, h7, h8, h9], ?_⟩
    simp only [h0, h1, h2, h3, h4, h5, h6, h7, h8, h9, num4_c, num2_c, one1_c, one3_c, Bool.false_and, Bool.and_false, Bool.true_and, Bool.and_self, cond_true, cond_false]
    exact num_bad (one_bad (num_bad (one_bad (num_bad (one_bad (rfl))))))
  refine dich (c10 == 84 || (c10 == 116 || c10 == 32)) (fun h10 => .inr ?_) (fun h10 => ?_)
  · refine ⟨by simp [h0, h1, h2, h3, h4, h5, h6, h7, h8, h9, h10], ?_⟩
    simp only [h0, h1, h2, h3, h4, h5, h6, h7, h8, h9, h10, num4_c, num2_c, one1_c, one3_c, Bool.false_and, Bool.and_false, Bool.true_and, Bool.and_self, cond_true, cond_false]
    exact num_bad (one_bad (num_bad (one_bad (num_bad (rfl)))))
  refine dich (isD c11) (fun h11 => .inr ?_) (fun h11 => ?_)
  · refine ⟨by simp [h0, h1, h2, h3, h4, h5, h6, h7, h8, h9, h10, h11], ?_⟩
    simp only [h0, h1, h2, h3, h4, h5, h6, h7, h8, h9, h10, h11, num4_c, num2_c, one1_c, one3_c, Bool.false_and, Bool.and_false, Bool.true_and, Bool.and_self, cond_true, cond_false]
    exact num_bad (one_bad (num_bad (one_bad (rfl))))
  refine dich (isD c12) (fun h12 => .inr ?_) (fun h12 => ?_)
  · refine ⟨by simp [h0, h1, h2, h3, h4, h5, h6, h7, h8, h9, h10, h11, h12], ?_⟩
    simp only [h0, h1, h2, h3, h4, h5, h6, h7, h8, h9, h10, h11, h12, num4_c, num2_c, one1_c, one3_c, Bool.false_and, Bool.and_false, Bool.true_and, Bool.and_self, cond_true, cond_false]
    exact num_bad (one_bad (num_bad (one_bad (rfl))))
  refine dich (c13 == 58) (fun h13 => .inr ?_) (fun h13 => ?_)
  · refine ⟨by simp [h0, h1, h2, h3, h4, h5, h6, h7, h8, h9, h10, h11, h12, h13], ?_⟩
    simp only [h0, h1, h2, h3, h4, h5, h6, h7, h8, h9, h10, h11, h12, h13, num4_c, num2_c, one1_c, one3_c, Bool.false_and, Bool.and_false, Bool.true_and, Bool.and_self, cond_true, cond_false]
    exact num_bad (one_bad (num_bad (rfl)))
  refine dich (isD c14) (fun h14 => .inr ?_) (fun h14 => ?_)
  · refine ⟨by simp [h0, h1, h2, h3, h4, h5, h6, h7, h8, h9, h10, h11, h12, h13, h14], ?_⟩
    simp only [h0, h1, h2, h3, h4, h5, h6, h7, h8, h9, h10, h11, h12, h13, h14, num4_c, num2_c, one1_c, one3_c, Bool.false_and, Bool.and_false, Bool.true_and, Bool.and_self, cond_true, cond_false]
    exact num_bad (one_bad (rfl))
  refine dich (isD c15) (fun h15 => .inr ?_) (fun h15 => ?_)
  · refine ⟨by simp [h0, h1, h2, h3, h4, h5, h6, h7, h8, h9, h10, h11, h12, h13, h14, h15], ?_⟩
    simp only [h0, h1, h2, h3, h4, h5, h6, h7, h8, h9, h10, h11, h12, h13, h14, h15, num4_c, num2_c, one1_c, one3_c, Bool.false_and, Bool.and_false, Bool.true_and, Bool.and_self, cond_true, cond_false]
    exact num_bad (one_bad (rfl))
  refine dich (c16 == 58) (fun h16 => .inr ?_) (fun h16 => ?_)
  · refine ⟨by simp [h0, h1, h2, h3, h4, h5, h6, h7, h8, h9, h10, h11, h12, h13, h14, h15, h16], ?_⟩
    simp only [h0, h1, h2, h3, h4, h5, h6, h7, h8, h9, h10, h11, h12, h13, h14, h15, h16, num4_c, num2_c, one1_c, one3_c, Bool.false_and, Bool.and_false, Bool.true_and, Bool.and_self, cond_true, cond_false]
    exact num_bad (rfl)
  refine dich (isD c17) (fun h17 => .inr ?_) (fun h17 => ?_)
  · refine ⟨by simp [h0, h1, h2, h3, h4, h5, h6, h7, h8, h9, h10, h11, h12, h13, h14, h15, h16, h17], ?_⟩
    simp only [h0, h1, h2, h3, h4, h5, h6, h7, h8, h9, h10, h11, h12, h13, h14, h15, h16, h17, num4_c, num2_c, one1_c, one3_c, Bool.false_and, Bool.and_false, Bool.true_and, Bool.and_self, cond_true, cond_false]
  refine dich (isD c18) (fun h18 => .inr ?_) (fun h18 => ?_)
  · refine ⟨by simp [h0, h1, h2, h3, h4, h5, h6, h7, h8, h9, h10, h11, h12, h13, h14, h15, h16, h17, h18], ?_⟩
    simp only [h0, h1, h2, h3, h4, h5, h6, h7, h8, h9, h10, h11, h12, h13, h14, h15, h16, h17, h18, num4_c, num2_c, one1_c, one3_c, Bool.false_and, Bool.and_false, Bool.true_and, Bool.and_self, cond_true, cond_false]
  left
  refine ⟨by simp [h0, h1, h2, h3, h4, h5, h6, h7, h8, h9, h10, h11, h12, h13, h14, h15, h16, h17, h18], fun off => ?_, by simp only [h0, h1, h2, h3, h4, h5, h6, h7, h8, h9, h10, h11, h12, h13, h14, h15, h16, h17, h18, num4_c, num2_c, one1_c, one3_c, Bool.and_self, cond_true]⟩
  unfold timeR
  simp only [mk_ext, mk_size, List.length_cons, List.length_nil, Nat.zero_add, Nat.reduceAdd, List.take_succ_cons, List.take_zero, List.drop_succ_cons, List.drop_zero, rdig_2, rdig_4, h0, h1, h2, h3, h4, h5, h6, h7, h8, h9, h10, h11, h12, h13, h14, h15, h16, h17, h18]
theorem head_use {s : ByteArray} (h : (headM s).2.bad = false) : (headM s).2.s.size + 19 = s.size := by
  rw [headM_c] at h ⊢
  dsimp only at h ⊢
  have a := num_use h
  have b := one_use (sz1 (mk_size [58])) a.2
  have c := num_use b.2
  have d := one_use (sz1 (mk_size [58])) c.2
  have e := num_use d.2
  have f := one_use (k := 1) (by intro w hw; simp only [List.mem_cons, List.not_mem_nil, or_false] at hw; rcases hw with rfl | rfl | rfl <;> rfl) e.2
  have g := num_use f.2
  have i := one_use (sz1 (mk_size [45])) g.2
  have j := num_use i.2
  have k := one_use (sz1 (mk_size [45])) j.2
  have l := num_use k.2
  have : (⟨s, false⟩ : Sc).s.size = s.size := rfl
  omega
theorem endM_bad {σ : Sc} (h : σ.bad = true) (t : Option Int) : endM σ t = none := by
  unfold endM; cases t with
  | none => rfl
  | some t => simp [h]
theorem endM_rest {σ : Sc} (h : 0 < σ.s.size) (t : Option Int) : endM σ t = none := by
  unfold endM; cases t with
  | none => rfl
  | some t =>
    dsimp only
    rw [if_pos]
    rw [Bool.or_eq_true, decide_eq_true_eq]
    right; omega
theorem endM_nil (t : Option Int) : endM ⟨mk [], false⟩ t = t := by
  unfold endM; cases t with
  | none => rfl
  | some t => rfl
theorem frac_bad {σ : Sc} (h : σ.bad = true) : (fracM σ).bad = true := by
  unfold fracM
  dsimp only
  cases (may (ByteArray.mk #[46]) σ).1
  · exact h
  · exact num_bad (by exact h)
theorem zed_bad {σ : Sc} (h : σ.bad = true) : (zedM σ).2.bad = true := by
  unfold zedM
  dsimp only
  cases (may (ByteArray.mk #[90]) σ).1
  · exact h
  · exact h
theorem off_bad {c : ByteArray} {σ : Sc} (h : σ.bad = true) : (offM c σ).2.bad = true := by
  unfold offM
  dsimp only
  have h1 : (num 2 (Scn.one [pl, mi_] σ).2).2.bad = true := num_bad (one_bad h)
  have h2 : (num 2 (if (c.toList == (ByteArray.mk #[]).toList) = true then (num 2 (Scn.one [pl, mi_] σ).2).2 else (Scn.one [c] (num 2 (Scn.one [pl, mi_] σ).2).2).2)).2.bad = true := by
    split
    · exact num_bad h1
    · exact num_bad (one_bad h1)
  rw [h2]; rfl
theorem off_co (σ : Sc) : offM co σ = (let p := Scn.one [mk [43], mk [45]] σ
  let q := num 2 p.2
  let u := num 2 (Scn.one [mk [58]] q.2).2
  ((1 - 2 * p.1) * (q.1 * 3600 + u.1 * 60), ⟨u.2.s, u.2.bad || decide (q.1 > 23) || decide (u.1 > 59)⟩)) := by
  unfold offM
  dsimp only
  rw [if_neg (by rw [show co.toList = [58] from mk_toList [58], show (ByteArray.mk #[]).toList = [] from mk_toList []]; decide)]
  rfl
theorem off_use {σ : Sc} (h : (offM co σ).2.bad = false) : (offM co σ).2.s.size + 6 = σ.s.size ∧ σ.bad = false := by
  rw [off_co] at h ⊢
  dsimp only at h ⊢
  rw [Bool.or_eq_false_iff, Bool.or_eq_false_iff] at h
  have a := num_use h.1.1
  have b := one_use (sz1 (mk_size [58])) a.2
  have c := num_use b.2
  have d := one_use (k := 1) (by intro w hw; simp only [List.mem_cons, List.not_mem_nil, or_false] at hw; rcases hw with rfl | rfl <;> rfl) c.2
  exact ⟨by omega, d.2⟩
theorem likeOff_c (a b c d e f : UInt8) : (likeB (mk [a, b, c, d, e, f]) (p99 ++ co ++ n99) || likeB (mk [a, b, c, d, e, f]) (m99 ++ co ++ n99)) = ((a == 43 || a == 45) && (isD b && (isD c && (d == 58 && (isD e && isD f))))) := by
  rw [show p99 ++ co ++ n99 = mk [43, 57, 57, 58, 57, 57] from rfl, show m99 ++ co ++ n99 = mk [45, 57, 57, 58, 57, 57] from rfl]
  simp only [likeB_mk, likeL, Bool.and_true, lk_d, lk_43, lk_45, lk_58]
  cases a == 43 <;> cases a == 45 <;> simp
theorem or3 {b x y : Bool} (h : b = true) : (b || x || y) = true := by subst h; rfl
theorem lt_gt (h : Int) (k : Int) : decide (h > k) = !decide (h < k + 1) := by
  rw [Bool.eq_iff_iff]; simp; omega
theorem off_c (a b c d e f : UInt8) :
    ((rOff (mk [a, b, c, d, e, f]) co).2 = true ∧ offM co ⟨mk [a, b, c, d, e, f], false⟩ = ((rOff (mk [a, b, c, d, e, f]) co).1, ⟨mk [], false⟩)) ∨
    ((rOff (mk [a, b, c, d, e, f]) co).2 = false ∧ (offM co ⟨mk [a, b, c, d, e, f], false⟩).2.bad = true) := by
  unfold rOff
  rw [likeOff_c, off_co]
  refine dich (a == 43 || a == 45) (fun h0 => .inr ?_) (fun h0 => ?_)
  · rw [Bool.or_eq_false_iff] at h0
    refine ⟨by simp [h0.1, h0.2], ?_⟩
    simp only [h0.1, h0.2, one2_c, Bool.false_and, Bool.and_false, Bool.true_and, Bool.and_self, cond_true, cond_false]
    exact or3 (num_bad (one_bad (num_bad rfl)))
  have ho : ∀ r, (Scn.one [mk [43], mk [45]] ⟨mk (a :: r), false⟩) = (bif a == 43 then 0 else 1, ⟨mk r, false⟩) := by
    intro r
    rw [one2_c]
    cases h : a == 43
    · rw [h, Bool.false_or] at h0; rw [h0]; rfl
    · rfl
  have hs : (byteAt (mk [a, b, c, d, e, f]) 0 == 45) = !(a == 43) := by
    rw [show (0 : Int) = ((0 : Nat) : Int) from rfl, byteAt_mkN (by simp), show (45 : Int) = ((45 : UInt8).toNat : Int) from rfl, u8_int]
    simp only [List.getD_cons_zero]
    cases h : a == 43
    · rw [h, Bool.false_or] at h0; rw [h0]; rfl
    · rw [beq_iff_eq] at h; subst h; rfl
  simp only [ho]
  refine dich (isD b) (fun h1 => .inr ?_) (fun h1 => ?_)
  · refine ⟨by simp [h0, h1], ?_⟩
    simp only [h0, h1, num2_c, Bool.false_and, Bool.and_false, Bool.true_and, Bool.and_self, cond_true, cond_false]
    exact or3 (num_bad (one_bad rfl))
  refine dich (isD c) (fun h2 => .inr ?_) (fun h2 => ?_)
  · refine ⟨by simp [h0, h1, h2], ?_⟩
    simp only [h0, h1, h2, num2_c, Bool.false_and, Bool.and_false, Bool.true_and, Bool.and_self, cond_true, cond_false]
    exact or3 (num_bad (one_bad rfl))
  refine dich (d == 58) (fun h3 => .inr ?_) (fun h3 => ?_)
  · refine ⟨by simp [h0, h1, h2, h3], ?_⟩
    simp only [h0, h1, h2, h3, num2_c, one1_c, Bool.false_and, Bool.and_false, Bool.true_and, Bool.and_self, cond_true, cond_false]
    exact or3 (num_bad rfl)
  refine dich (isD e) (fun h4 => .inr ?_) (fun h4 => ?_)
  · refine ⟨by simp [h0, h1, h2, h3, h4], ?_⟩
    simp only [h0, h1, h2, h3, h4, num2_c, one1_c, Bool.false_and, Bool.and_false, Bool.true_and, Bool.and_self, cond_true, cond_false]
    exact or3 (rfl)
  refine dich (isD f) (fun h5 => .inr ?_) (fun h5 => ?_)
  · refine ⟨by simp [h0, h1, h2, h3, h4, h5], ?_⟩
    simp only [h0, h1, h2, h3, h4, h5, num2_c, one1_c, Bool.false_and, Bool.and_false, Bool.true_and, Bool.and_self, cond_true, cond_false]
    exact or3 (rfl)
  have e1 : (mk [a, b, c, d, e, f]).extract 1 3 = mk [b, c] := by rw [mk_ext]; rfl
  have e2 : (mk [a, b, c, d, e, f]).extract (Int.toNat (((mk [a, b, c, d, e, f]).size : Int) - 2)) (mk [a, b, c, d, e, f]).size = mk [e, f] := by rw [mk_ext]; rfl
  have hc : (bif (a == 43 || a == 45) && (isD b && (isD c && (d == 58 && (isD e && isD f)))) then ((if byteAt (mk [a, b, c, d, e, f]) 0 == 45 then 0 - offV (mk [a, b, c, d, e, f]) else offV (mk [a, b, c, d, e, f])), decide (rdig ((mk [a, b, c, d, e, f]).extract 1 3) < 24) && decide (rdig ((mk [a, b, c, d, e, f]).extract (Int.toNat (((mk [a, b, c, d, e, f]).size : Int) - 2)) (mk [a, b, c, d, e, f]).size) < 60)) else ((0 : Int), false))
      = ((1 - 2 * (bif a == 43 then 0 else 1)) * (dvalL [b, c] * 3600 + dvalL [e, f] * 60), decide (dvalL [b, c] < 24) && decide (dvalL [e, f] < 60)) := by
    rw [h0, h1, h2, h3, h4, h5]
    simp only [Bool.and_self, cond_true]
    rw [hs]
    unfold offV
    rw [e1, e2, rdig_2 h1 h2, rdig_2 h4 h5]
    congr 1
    cases a == 43
    · simp only [Bool.not_false, if_true, cond_false]; omega
    · simp only [Bool.not_true, Bool.false_eq_true, if_false, cond_true]; omega
  rw [hc]
  simp only [num2_c, one1_c, h1, h2, h3, h4, h5, Bool.and_self, cond_true, Bool.false_or]
  rw [show decide (dvalL [b, c] > 23) = !decide (dvalL [b, c] < 24) from lt_gt _ 23, show decide (dvalL [e, f] > 59) = !decide (dvalL [e, f] < 60) from lt_gt _ 59]
  cases decide (dvalL [b, c] < 24) <;> cases decide (dvalL [e, f] < 60) <;> simp
/-- the end of a reading that has an offset -/
theorem off_end (z : List UInt8) (t : Int → Option Int) : endM (offM co ⟨mk z, false⟩).2 (t (offM co ⟨mk z, false⟩).1) = bif (rOff (mk z) co).2 then t (rOff (mk z) co).1 else none := by
  by_cases hz : z.length = 6
  · match z, hz with
    | [a, b, c, d, e, f], _ =>
      rcases off_c a b c d e f with ⟨h1, h2⟩ | ⟨h1, h2⟩
      · rw [h1, h2]; exact endM_nil _
      · rw [h1, endM_bad h2]; rfl
  · have h0 : (rOff (mk z) co).2 = false := by
      unfold rOff
      rw [likeB_no (by rw [mk_size]; exact hz), likeB_no (by rw [mk_size]; exact hz)]
      rfl
    rw [h0, cond_false]
    cases hb : (offM co ⟨mk z, false⟩).2.bad with
    | true => exact endM_bad hb _
    | false =>
      have := (off_use hb).1
      have e : (⟨mk z, false⟩ : Sc).s.size = z.length := mk_size z
      exact endM_rest (by omega) _
theorem zed_tail (z : List UInt8) (t : Int → Option Int) :
    (bif (zedM ⟨mk z, false⟩).1 then endM (zedM ⟨mk z, false⟩).2 (t 0) else endM (offM co (zedM ⟨mk z, false⟩).2).2 (t (offM co (zedM ⟨mk z, false⟩).2).1)) =
    bif ((mk z).toList == (ByteArray.mk #[90]).toList) || ((mk z).toList == (ByteArray.mk #[122]).toList) then t 0 else bif (rOff (mk z) co).2 then t (rOff (mk z) co).1 else none := by
  rw [mk_toList, show (ByteArray.mk #[90]).toList = [90] from mk_toList [90], show (ByteArray.mk #[122]).toList = [122] from mk_toList [122]]
  have hm : zedM ⟨mk z, false⟩ = bif pre [90] z then (true, ⟨mk (z.drop 1), false⟩) else (pre [122] z, ⟨mk (bif pre [122] z then z.drop 1 else z), false⟩) := by
    unfold zedM
    rw [show ByteArray.mk #[90] = mk [90] from rfl, show ByteArray.mk #[122] = mk [122] from rfl, may_mk]
    dsimp only
    cases pre [90] z
    · simp only [cond_false, may_mk]; rfl
    · rfl
  have hoff : ∀ c r, (c == 90 || c == 122) = true → (rOff (mk (c :: r)) co).2 = false := by
    intro c r hc
    unfold rOff
    have h : ∀ x, (x = 43 ∨ x = 45) → ∀ y, likeL (c :: r) (x :: y) = false := by
      intro x hx y
      unfold likeL
      have : lk c x = false := by
        rw [Bool.or_eq_true, beq_iff_eq, beq_iff_eq] at hc
        rcases hc with rfl | rfl <;> rcases hx with rfl | rfl <;> rfl
      rw [this]; rfl
    rw [show p99 ++ co ++ n99 = mk [43, 57, 57, 58, 57, 57] from rfl, show m99 ++ co ++ n99 = mk [45, 57, 57, 58, 57, 57] from rfl, likeB_mk, likeB_mk, h 43 (.inl rfl), h 45 (.inr rfl)]
    rfl
  rw [hm]
  cases z with
  | nil => exact off_end [] t
  | cons c r =>
    rw [pre_1, pre_1]
    have hz : ∀ x : UInt8, c == x → (endM ⟨mk ((c :: r).drop 1), false⟩ (t 0)) = bif (c :: r) == [x] then t 0 else none := by
      intro x hx
      cases r with
      | nil => simp only [List.drop_succ_cons, List.drop_zero, endM_nil]; rw [show ([c] == [x]) = true from by simpa using hx]; rfl
      | cons d r =>
        rw [endM_rest (by show 0 < (mk (d :: r)).size; rw [mk_size]; simp)]
        rw [show ((c :: d :: r) == [x]) = false from by simp]; rfl
    cases h90 : c == 90
    · cases h122 : c == 122
      · have n1 : ((c :: r) == [90]) = false := by rw [beq_eq_false_iff_ne] at h90 ⊢; intro h; injection h with h; exact h90 h
        have n2 : ((c :: r) == [122]) = false := by rw [beq_eq_false_iff_ne] at h122 ⊢; intro h; injection h with h; exact h122 h
        simp only [cond_false, n1, n2, Bool.or_self]
        exact off_end (c :: r) t
      · have n1 : ((c :: r) == [90]) = false := by rw [beq_eq_false_iff_ne] at h90 ⊢; intro h; injection h with h; exact h90 h
        simp only [cond_false, cond_true, n1, Bool.false_or]
        rw [hz 122 h122, hoff c r (by rw [h122, Bool.or_true])]
        rfl
    · have n1 : ((c :: r) == [122]) = false := by rw [beq_iff_eq] at h90; subst h90; simp
      simp only [cond_true, n1, Bool.or_false]
      rw [hz 90 h90, hoff c r (by rw [h90, Bool.true_or])]
      rfl
theorem trimLD_mk (l : List UInt8) : trimLD (mk l) = mk (l.dropWhile isD) := by
  unfold trimLD Lib.trimLeftS
  rw [mk_data]
  have : (fun c => digits.data.toList.contains c) = isD := by funext c; exact dig_iff c
  show mk (l.dropWhile (fun c => digits.data.toList.contains c)) = _
  rw [this]
theorem drop_takeW (l : List UInt8) : l.drop (l.takeWhile isD).length = l.dropWhile isD := by
  induction l with
  | nil => rfl
  | cons c l ih =>
    cases h : isD c
    · simp [List.takeWhile, List.dropWhile, h]
    · simp [List.takeWhile, List.dropWhile, h, ih]
theorem frac_mk (z : List UInt8) : (fracM ⟨mk z, false⟩ = ⟨mk (bif (byteAt (mk z) 0 == 46) && decide (0 < z.length) then z.drop (1 + fracN (mk z)) else z), false⟩ ∧ ¬ (z.head? = some 46 ∧ fracN (mk z) = 0)) ∨ ((fracM ⟨mk z, false⟩).bad = true ∧ z.head? = some 46 ∧ fracN (mk z) = 0) := by
  unfold fracM
  rw [show ByteArray.mk #[46] = mk [46] from rfl, may_mk]
  cases z with
  | nil => exact .inl ⟨by simp [pre], by simp⟩
  | cons c r =>
    rw [pre_1]
    have hb : (byteAt (mk (c :: r)) 0 == 46) = (c == 46) := by
      rw [show (0 : Int) = ((0 : Nat) : Int) from rfl, byteAt_mkN (by simp), show (46 : Int) = ((46 : UInt8).toNat : Int) from rfl, u8_int]; rfl
    rw [hb]
    cases hc : c == 46
    · left
      refine ⟨rfl, ?_⟩
      rw [beq_eq_false_iff_ne] at hc
      rintro ⟨h, _⟩
      simp only [List.head?_cons, Option.some.injEq] at h
      exact hc h
    · rw [beq_iff_eq] at hc; subst hc
      have hn : fracN (mk (46 :: r)) = (r.takeWhile isD).length := rfl
      simp only [cond_true, List.drop_succ_cons, List.length_cons, List.length_nil, List.drop_zero, Nat.zero_lt_succ, decide_true, Bool.and_true, List.head?_cons]
      cases r with
      | nil => exact .inr ⟨by rw [num_mk, if_neg (by simp)], trivial, rfl⟩
      | cons d r =>
        cases hd : isD d
        · exact .inr ⟨by rw [num_mk, if_neg (by simp [hd])], trivial, by rw [hn]; simp [List.takeWhile, hd]⟩
        · left
          refine ⟨?_, ?_⟩
          · rw [num_mk, if_pos ⟨by simp, by simp [hd]⟩]
            simp only [List.drop_succ_cons, List.drop_zero]
            rw [trimLD_mk, hn, Nat.add_comm 1, List.drop_succ_cons, drop_takeW]
            simp [List.dropWhile, hd]
          · rw [hn]; simp [List.takeWhile, hd]
theorem atom_bad {s : ByteArray} (h : (fracM (headM s).2).bad = true) : atomM s = none := by
  unfold atomM
  dsimp only
  cases (zedM (fracM (headM s).2)).1
  · simp only [cond_false]; exact endM_bad (off_bad (zed_bad h)) _
  · simp only [cond_true]; exact endM_bad (zed_bad h) _
theorem cut19 {l : List UInt8} (h : 19 ≤ l.length) : ∃ c0 c1 c2 c3 c4 c5 c6 c7 c8 c9 c10 c11 c12 c13 c14 c15 c16 c17 c18 r, l = c0 :: c1 :: c2 :: c3 :: c4 :: c5 :: c6 :: c7 :: c8 :: c9 :: c10 :: c11 :: c12 :: c13 :: c14 :: c15 :: c16 :: c17 :: c18 :: r := by
  obtain ⟨c0, l0, rfl⟩ := List.exists_cons_of_length_pos (l := l) (by omega)
  obtain ⟨c1, l1, rfl⟩ := List.exists_cons_of_length_pos (l := l0) (by simp only [List.length_cons] at h; omega)
  obtain ⟨c2, l2, rfl⟩ := List.exists_cons_of_length_pos (l := l1) (by simp only [List.length_cons] at h; omega)
  obtain ⟨c3, l3, rfl⟩ := List.exists_cons_of_length_pos (l := l2) (by simp only [List.length_cons] at h; omega)
  obtain ⟨c4, l4, rfl⟩ := List.exists_cons_of_length_pos (l := l3) (by simp only [List.length_cons] at h; omega)
  obtain ⟨c5, l5, rfl⟩ := List.exists_cons_of_length_pos (l := l4) (by simp only [List.length_cons] at h; omega)
  obtain ⟨c6, l6, rfl⟩ := List.exists_cons_of_length_pos (l := l5) (by simp only [List.length_cons] at h; omega)
  obtain ⟨c7, l7, rfl⟩ := List.exists_cons_of_length_pos (l := l6) (by simp only [List.length_cons] at h; omega)
  obtain ⟨c8, l8, rfl⟩ := List.exists_cons_of_length_pos (l := l7) (by simp only [List.length_cons] at h; omega)
  obtain ⟨c9, l9, rfl⟩ := List.exists_cons_of_length_pos (l := l8) (by simp only [List.length_cons] at h; omega)
  obtain ⟨c10, l10, rfl⟩ := List.exists_cons_of_length_pos (l := l9) (by simp only [List.length_cons] at h; omega)
  obtain ⟨c11, l11, rfl⟩ := List.exists_cons_of_length_pos (l := l10) (by simp only [List.length_cons] at h; omega)
  obtain ⟨c12, l12, rfl⟩ := List.exists_cons_of_length_pos (l := l11) (by simp only [List.length_cons] at h; omega)
  obtain ⟨c13, l13, rfl⟩ := List.exists_cons_of_length_pos (l := l12) (by simp only [List.length_cons] at h; omega)
  obtain ⟨c14, l14, rfl⟩ := List.exists_cons_of_length_pos (l := l13) (by simp only [List.length_cons] at h; omega)
  obtain ⟨c15, l15, rfl⟩ := List.exists_cons_of_length_pos (l := l14) (by simp only [List.length_cons] at h; omega)
  obtain ⟨c16, l16, rfl⟩ := List.exists_cons_of_length_pos (l := l15) (by simp only [List.length_cons] at h; omega)
  obtain ⟨c17, l17, rfl⟩ := List.exists_cons_of_length_pos (l := l16) (by simp only [List.length_cons] at h; omega)
  obtain ⟨c18, l18, rfl⟩ := List.exists_cons_of_length_pos (l := l17) (by simp only [List.length_cons] at h; omega)
  exact ⟨c0, c1, c2, c3, c4, c5, c6, c7, c8, c9, c10, c11, c12, c13, c14, c15, c16, c17, c18, l18, rfl⟩
theorem atoms_same (s : ByteArray) : atomM s = refAtomM s := by
  rw [mk_of s]
  generalize s.data.toList = l
  unfold refAtomM
  rw [mk_size]
  by_cases hl : 19 ≤ l.length
  · obtain ⟨c0, c1, c2, c3, c4, c5, c6, c7, c8, c9, c10, c11, c12, c13, c14, c15, c16, c17, c18, r, rfl⟩ := cut19 hl
    have ea : (mk (c0 :: c1 :: c2 :: c3 :: c4 :: c5 :: c6 :: c7 :: c8 :: c9 :: c10 :: c11 :: c12 :: c13 :: c14 :: c15 :: c16 :: c17 :: c18 :: r)).extract 0 19 = mk [c0, c1, c2, c3, c4, c5, c6, c7, c8, c9, c10, c11, c12, c13, c14, c15, c16, c17, c18] := by rw [mk_ext]; rfl
    have ez : (mk (c0 :: c1 :: c2 :: c3 :: c4 :: c5 :: c6 :: c7 :: c8 :: c9 :: c10 :: c11 :: c12 :: c13 :: c14 :: c15 :: c16 :: c17 :: c18 :: r)).extract 19 (c0 :: c1 :: c2 :: c3 :: c4 :: c5 :: c6 :: c7 :: c8 :: c9 :: c10 :: c11 :: c12 :: c13 :: c14 :: c15 :: c16 :: c17 :: c18 :: r).length = mk r := by rw [mk_ext, List.take_length]; rfl
    rw [ea, ez]
    rcases head_c c0 c1 c2 c3 c4 c5 c6 c7 c8 c9 c10 c11 c12 c13 c14 c15 c16 c17 c18 r with ⟨h1, h2, h3⟩ | ⟨h1, h2⟩
    · rw [h1]
      simp only [cond_true]
      have hA : ∀ z : List UInt8, fracM ⟨mk r, false⟩ = ⟨mk z, false⟩ → atomM (mk (c0 :: c1 :: c2 :: c3 :: c4 :: c5 :: c6 :: c7 :: c8 :: c9 :: c10 :: c11 :: c12 :: c13 :: c14 :: c15 :: c16 :: c17 :: c18 :: r)) = tailR (mk [c0, c1, c2, c3, c4, c5, c6, c7, c8, c9, c10, c11, c12, c13, c14, c15, c16, c17, c18]) (mk z) := by
        intro z hz
        unfold atomM tailR
        dsimp only
        rw [h3]
        dsimp only
        rw [hz, h2, h2]
        exact zed_tail z (fun o => timeM (dvalL [c0, c1, c2, c3]) (dvalL [c5, c6]) (dvalL [c8, c9]) (dvalL [c11, c12]) (dvalL [c14, c15]) (dvalL [c17, c18]) o)
      cases r with
      | nil =>
        rw [if_pos (by simp), hA [] rfl]
        have hr : (rOff (mk []) co).2 = false := by
          unfold rOff
          rw [likeB_no (by rw [mk_size]; decide), likeB_no (by rw [mk_size]; decide)]; rfl
        unfold tailR
        rw [hr, mk_toList, show (ByteArray.mk #[90]).toList = [90] from mk_toList [90], show (ByteArray.mk #[122]).toList = [122] from mk_toList [122]]
        rfl
      | cons c r =>
        rw [if_neg (by simp)]
        have hb : (byteAt (mk (c :: r)) 0 == 46) = (c == 46) := by
          rw [show (0 : Int) = ((0 : Nat) : Int) from rfl, byteAt_mkN (by simp), show (46 : Int) = ((46 : UInt8).toNat : Int) from rfl, u8_int]; rfl
        rcases frac_mk (c :: r) with ⟨h4, h5⟩ | ⟨h4, h5, h6⟩
        · rw [hA _ h4]
          simp only [hb, List.length_cons, Nat.zero_lt_succ, decide_true, Bool.and_true]
          cases hc : c == 46
          · rw [fracR_plain (by rw [hb, hc])]; rfl
          · have hf : fracR (mk (c :: r)) = some (mk ((c :: r).drop (1 + fracN (mk (c :: r))))) := by
              unfold fracR
              rw [hb, hc, cond_true, if_neg (fun h => h5 ⟨by rw [beq_iff_eq] at hc; rw [hc]; rfl, h⟩), mk_ext, mk_size, List.take_length]
            rw [hf]; rfl
        · simp only [List.head?_cons, Option.some.injEq] at h5
          have hf : fracR (mk (c :: r)) = none := by
            unfold fracR
            rw [hb, h5, show ((46 : UInt8) == 46) = true from rfl, cond_true]
            rw [h5] at h6
            rw [if_pos h6]
          rw [hf]
          exact atom_bad (by rw [h3]; exact h4)
    · rw [h1, cond_false]
      have : atomM (mk (c0 :: c1 :: c2 :: c3 :: c4 :: c5 :: c6 :: c7 :: c8 :: c9 :: c10 :: c11 :: c12 :: c13 :: c14 :: c15 :: c16 :: c17 :: c18 :: r)) = none := atom_bad (frac_bad h2)
      rw [this]
      split <;> rfl
  · rw [if_pos (by omega)]
    apply atom_bad
    apply frac_bad
    cases h : (headM (mk l)).2.bad with
    | true => rfl
    | false =>
      have := head_use h
      rw [mk_size] at this
      omega
end Go.Proofs.YtlglmomimhbeaaaGreatDoor
