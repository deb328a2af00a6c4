/- What the document's answer reads, in words, over lists of bytes. No program is in sight. -/
import Derived.Test.YtlglmomimhbeaaaGreatDoorPl
namespace Go.Proofs.YtlglmomimhbeaaaGreatDoor
open Go.Sw Go.Lib Go.Cal Go.Scn

def lkI (c q : Int) : Bool := !(((q == 57) && ((decide (c < 48)) || (decide (c > 57)))) || ((q != 57) && (c != q)))
def lk (c q : UInt8) : Bool := bif q == 57 then isD c else c == q
def likeB (s p : ByteArray) : Bool := decide (s.size = p.size) && (List.range s.size).all fun (j : Nat) => lkI (byteAt s (j : Int)) (byteAt p (j : Int))
def likeL : List UInt8 → List UInt8 → Bool
  | [], [] => true
  | c :: l, q :: p => lk c q && likeL l p
  | _, _ => false
theorem u8_int (c q : UInt8) : ((c.toNat : Int) == (q.toNat : Int)) = (c == q) := by
  rw [Bool.eq_iff_iff, beq_iff_eq, beq_iff_eq]
  constructor
  · intro h; apply UInt8.toNat_inj.1; omega
  · rintro rfl; rfl
theorem lk_int (c q : UInt8) : lkI (c.toNat : Int) (q.toNat : Int) = lk c q := by
  have h57 : ((q.toNat : Int) == 57) = (q == 57) := u8_int q 57
  unfold lkI lk isD isDig
  simp only [bne]
  rw [h57, u8_int]
  cases q == 57
  · simp
  · simp
    rw [Bool.eq_iff_iff]
    simp
theorem likeL_iff : ∀ l p : List UInt8, likeL l p = true ↔ l.length = p.length ∧ ∀ j, j < l.length → lk (l.getD j 0) (p.getD j 0) = true
  | [], [] => by simp [likeL]
  | [], q :: p => by simp [likeL]
  | c :: l, [] => by simp [likeL]
  | c :: l, q :: p => by
    simp only [likeL, Bool.and_eq_true, likeL_iff l p, List.length_cons, Nat.add_right_cancel_iff]
    constructor
    · rintro ⟨h1, h2, h3⟩
      refine ⟨h2, fun j hj => ?_⟩
      cases j with
      | zero => exact h1
      | succ j => exact h3 j (by omega)
    · rintro ⟨h2, h3⟩
      exact ⟨h3 0 (by omega), h2, fun j hj => h3 (j + 1) (by omega)⟩
theorem byteAt_mkN {l : List UInt8} {j : Nat} (h : j < l.length) : byteAt (mk l) (j : Int) = ((l.getD j 0).toNat : Int) := by
  unfold byteAt
  rw [mk_data, Int.toNat_natCast, List.getD_eq_getElem?_getD, List.getElem?_eq_getElem h]
theorem likeB_mk (l p : List UInt8) : likeB (mk l) (mk p) = likeL l p := by
  rw [Bool.eq_iff_iff, likeL_iff]
  unfold likeB
  rw [Bool.and_eq_true, decide_eq_true_eq, mk_size, mk_size, List.all_eq_true]
  constructor
  · rintro ⟨h1, h2⟩
    refine ⟨h1, fun j hj => ?_⟩
    have := h2 j (List.mem_range.2 hj)
    rw [byteAt_mkN hj, byteAt_mkN (by omega), lk_int] at this
    exact this
  · rintro ⟨h1, h2⟩
    refine ⟨h1, fun j hj => ?_⟩
    have hj' := List.mem_range.1 hj
    rw [byteAt_mkN hj', byteAt_mkN (by omega), lk_int]
    exact h2 j hj'
theorem likeB_size {s p : ByteArray} (h : likeB s p = true) : s.size = p.size := by
  unfold likeB at h
  rw [Bool.and_eq_true, decide_eq_true_eq] at h
  exact h.1
theorem likeB_no {s p : ByteArray} (h : s.size ≠ p.size) : likeB s p = false := by
  unfold likeB; rw [decide_eq_false h]; rfl
theorem likeB_bad {s p : ByteArray} {k : Nat} (hk : k < s.size) (h : lkI (byteAt s (k : Int)) (byteAt p (k : Int)) = false) : likeB s p = false := by
  rw [← Bool.not_eq_true]
  unfold likeB
  rw [Bool.and_eq_true, List.all_eq_true]
  rintro ⟨_, h2⟩
  have := h2 k (List.mem_range.2 hk)
  rw [h] at this; cases this
theorem likeB_all {s p : ByteArray} (hs : s.size = p.size) (h : ∀ j : Nat, j < s.size → lkI (byteAt s (j : Int)) (byteAt p (j : Int)) = true) : likeB s p = true := by
  unfold likeB
  rw [decide_eq_true hs, Bool.true_and, List.all_eq_true]
  exact fun j hj => h j (List.mem_range.1 hj)
def okUp (s p : ByteArray) (k : Nat) : Prop := ∀ j : Nat, j < k → lkI (byteAt s (j : Int)) (byteAt p (j : Int)) = true
theorem okUp_zero {s p : ByteArray} : okUp s p 0 := fun j h => absurd h (Nat.not_lt_zero j)
theorem okUp_succ {s p : ByteArray} {k : Nat} (h : okUp s p k) (hk : lkI (byteAt s (k : Int)) (byteAt p (k : Int)) = true) : okUp s p (k + 1) := fun j hj => by
  rcases Nat.lt_or_ge j k with h' | h'
  · exact h j h'
  · have : j = k := by omega
    subst this; exact hk

/-! ## numbers -/
def rdig (s : ByteArray) : Int := if digB s = true then dvalL s.data.toList else -1
/-- the number of the first k bytes -/
def upD (s : ByteArray) : Nat → Int
  | 0 => 0
  | k + 1 => 10 * upD s k + IntKind.wrap .u8 (byteAt s (k : Int) - 48)
def digUp (s : ByteArray) (k : Nat) : Prop := ∀ j : Nat, j < k → isDig (byteAt s (j : Int)) = true
theorem digUp_zero {s : ByteArray} : digUp s 0 := fun j h => absurd h (Nat.not_lt_zero j)
theorem digUp_succ {s : ByteArray} {k : Nat} (h : digUp s k) (hk : isDig (byteAt s (k : Int)) = true) : digUp s (k + 1) := fun j hj => by
  rcases Nat.lt_or_ge j k with h' | h'
  · exact h j h'
  · have : j = k := by omega
    subst this; exact hk
theorem isD_byte {l : List UInt8} {j : Nat} (h : j < l.length) : isDig (byteAt (mk l) (j : Int)) = isD (l.getD j 0) := by rw [byteAt_mkN h]; rfl
theorem digB_mk (l : List UInt8) : digB (mk l) = l.all isD := rfl
theorem u8_bd (x : Int) : 0 ≤ IntKind.wrap .u8 x ∧ IntKind.wrap .u8 x ≤ 255 := by
  have e : IntKind.wrap .u8 x = x % 256 := rfl
  omega
theorem u8_dig {c : Int} (h : isDig c = true) : IntKind.wrap .u8 (c - 48) = c - 48 := by
  have e : IntKind.wrap .u8 (c - 48) = (c - 48) % 256 := rfl
  simp only [isDig, Bool.and_eq_true, decide_eq_true_eq] at h
  omega
theorem upD_eq (l : List UInt8) : ∀ k, k ≤ l.length → digUp (mk l) k → upD (mk l) k = dvalL (l.take k)
  | 0, _, _ => by simp [upD, dvalL]
  | k + 1, h, hd => by
    rw [upD, u8_dig (hd k (by omega)), upD_eq l k (by omega) (fun j hj => hd j (by omega)), byteAt_mkN (by omega), List.take_add_one]
    have : l[k]? = some (l.getD k 0) := by rw [List.getD_eq_getElem?_getD, List.getElem?_eq_getElem (by omega)]; rfl
    rw [this]
    simp only [dvalL, Option.toList, List.foldl_append, List.foldl_cons, List.foldl_nil]
theorem digUp_all {s : ByteArray} (h : digUp s s.size) : digB s = true := by
  rw [mk_of s] at h ⊢
  rw [digB_mk, List.all_eq_true]
  intro c hc
  obtain ⟨j, hj, rfl⟩ := List.mem_iff_getElem.1 hc
  have := h j (by rw [mk_size]; exact hj)
  rw [isD_byte hj, List.getD_eq_getElem?_getD, List.getElem?_eq_getElem hj] at this
  exact this
theorem rdig_all {s : ByteArray} (h : digUp s s.size) : rdig s = upD s s.size := by
  unfold rdig
  rw [if_pos (digUp_all h)]
  rw [mk_of s] at h ⊢
  rw [mk_size] at h ⊢
  rw [upD_eq _ _ (Nat.le_refl _) h, List.take_length, mk_data]
theorem rdig_no {s : ByteArray} {k : Nat} (hk : k < s.size) (h : isDig (byteAt s (k : Int)) = false) : rdig s = -1 := by
  unfold rdig
  rw [if_neg]
  rw [mk_of s] at h hk ⊢
  rw [mk_size] at hk
  rw [digB_mk, List.all_eq_true]
  intro h2
  rw [isD_byte hk, List.getD_eq_getElem?_getD, List.getElem?_eq_getElem hk] at h
  have := h2 _ (List.getElem_mem hk)
  rw [Option.getD_some, this] at h
  cases h
theorem upD_bd {s : ByteArray} : ∀ k, digUp s k → 0 ≤ upD s k ∧ upD s k + 1 ≤ 10 ^ k
  | 0, _ => by simp [upD]
  | k + 1, h => by
    have := upD_bd k (fun j hj => h j (by omega))
    have hk := h k (by omega)
    simp only [isDig, Bool.and_eq_true, decide_eq_true_eq] at hk
    rw [upD, u8_dig (h k (by omega)), Int.pow_succ]
    omega
theorem upD_bd4 {s : ByteArray} {k : Nat} (hk : k ≤ 4) (h : digUp s k) : 0 ≤ upD s k ∧ upD s k ≤ 9999 := by
  have := upD_bd k h
  have h4 : (10 : Int) ^ k ≤ 10000 := by
    have : k = 0 ∨ k = 1 ∨ k = 2 ∨ k = 3 ∨ k = 4 := by omega
    rcases this with rfl | rfl | rfl | rfl | rfl <;> decide
  omega
theorem rdig_bd {s : ByteArray} (hs : s.size ≤ 4) : -1 ≤ rdig s ∧ rdig s ≤ 9999 := by
  by_cases h : digUp s s.size
  · rw [rdig_all h]; have := upD_bd4 hs h; omega
  · unfold rdig
    rw [if_neg]
    · omega
    · intro hd
      apply h
      intro j hj
      rw [mk_of s] at hd hj ⊢
      rw [mk_size] at hj
      rw [isD_byte hj, List.getD_eq_getElem?_getD, List.getElem?_eq_getElem hj]
      rw [digB_mk, List.all_eq_true] at hd
      exact hd _ (List.getElem_mem hj)
theorem dig_of {s : ByteArray} (h : digB s = true) : 0 ≤ rdig s := by
  unfold rdig; rw [if_pos h]
  exact (dvalL_bd s.data.toList 0 h (Int.le_refl 0)).1

/-! ## the offset, the head, the whole -/
def p99 : ByteArray := ByteArray.mk #[43, 57, 57]
def m99 : ByteArray := ByteArray.mk #[45, 57, 57]
def n99 : ByteArray := ByteArray.mk #[57, 57]
def offV (s : ByteArray) : Int := 3600 * rdig (s.extract 1 3) + 60 * rdig (s.extract (Int.toNat ((s.size : Int) - 2)) s.size)
def rOff (s c : ByteArray) : Int × Bool :=
  bif likeB s (p99 ++ c ++ n99) || likeB s (m99 ++ c ++ n99) then
    (if byteAt s 0 == 45 then 0 - offV s else offV s, decide (rdig (s.extract 1 3) < 24) && decide (rdig (s.extract (Int.toNat ((s.size : Int) - 2)) s.size) < 60))
  else (0, false)
def pT : ByteArray := ByteArray.mk #[57, 57, 57, 57, 45, 57, 57, 45, 57, 57, 84, 57, 57, 58, 57, 57, 58, 57, 57]
def pt : ByteArray := ByteArray.mk #[57, 57, 57, 57, 45, 57, 57, 45, 57, 57, 116, 57, 57, 58, 57, 57, 58, 57, 57]
def pS : ByteArray := ByteArray.mk #[57, 57, 57, 57, 45, 57, 57, 45, 57, 57, 32, 57, 57, 58, 57, 57, 58, 57, 57]
def headB (a : ByteArray) : Bool := likeB a pT || (likeB a pt || likeB a pS)
def timeR (a : ByteArray) (off : Int) : Option Int :=
  timeM (rdig (a.extract 0 4)) (rdig (a.extract 5 7)) (rdig (a.extract 8 10)) (rdig (a.extract 11 13)) (rdig (a.extract 14 16)) (rdig (a.extract 17 a.size)) off
def tailR (a z : ByteArray) : Option Int :=
  bif (z.toList == (ByteArray.mk #[90]).toList) || (z.toList == (ByteArray.mk #[122]).toList) then timeR a 0
  else bif (rOff z co).2 then timeR a (rOff z co).1 else none
/-- digits behind the first byte -/
def fracN (z : ByteArray) : Nat := ((z.data.toList.drop 1).takeWhile isD).length
def fracR (z : ByteArray) : Option ByteArray := bif byteAt z 0 == 46 then (if fracN z = 0 then none else some (z.extract (1 + fracN z) z.size)) else some z
def refAtomM (s : ByteArray) : Option Int :=
  if s.size < 20 then none else
  bif headB (s.extract 0 19) then
    match fracR (s.extract 19 s.size) with
    | none => none
    | some z => tailR (s.extract 0 19) z
  else none
theorem takeW_getD {l : List UInt8} : ∀ {k : Nat}, k ≤ l.length → (∀ j, j < k → isD (l.getD j 0) = true) → (k = l.length ∨ isD (l.getD k 0) = false) → (l.takeWhile isD).length = k := by
  induction l with
  | nil => intro k h _ _; simp at h; simp [h]
  | cons c l ih =>
    intro k h h1 h2
    cases k with
    | zero =>
      rcases h2 with h2 | h2
      · simp at h2
      · simp only [List.getD_cons_zero] at h2
        simp [List.takeWhile, h2]
    | succ k =>
      have h0 := h1 0 (by omega)
      simp only [List.getD_cons_zero] at h0
      simp only [List.takeWhile, h0, List.length_cons]
      rw [ih (k := k) (by simp at h; omega) (fun j hj => by have := h1 (j + 1) (by omega); simpa using this) (by simpa using h2)]
/-- the first k bytes behind the first are digits -/
def digFrom (z : ByteArray) (k : Nat) : Prop := ∀ j : Nat, 1 ≤ j → j < k → isDig (byteAt z (j : Int)) = true
theorem digFrom_succ {z : ByteArray} {k : Nat} (h : digFrom z k) (hk : isDig (byteAt z (k : Int)) = true) : digFrom z (k + 1) := fun j h1 hj => by
  rcases Nat.lt_or_ge j k with h' | h'
  · exact h j h1 h'
  · have : j = k := by omega
    subst this; exact hk
theorem dig_yes {z : ByteArray} {k : Nat} (h : (((decide (((k : Nat) : Int) < (z.size : Int))) && (decide ((byteAt z ((k : Nat) : Int)) ≥ 48))) && (decide ((byteAt z ((k : Nat) : Int)) ≤ 57))) = true) : isDig (byteAt z (k : Int)) = true ∧ k < z.size := by
  simp only [Bool.and_eq_true, decide_eq_true_eq] at h
  refine ⟨?_, by omega⟩
  unfold isDig
  rw [Bool.and_eq_true, decide_eq_true_eq, decide_eq_true_eq]
  exact ⟨h.1.2, h.2⟩
theorem dig_no {z : ByteArray} {k : Nat} (hk : k ≤ z.size) (h : (((decide (((k : Nat) : Int) < (z.size : Int))) && (decide ((byteAt z ((k : Nat) : Int)) ≥ 48))) && (decide ((byteAt z ((k : Nat) : Int)) ≤ 57))) = false) : k = z.size ∨ isDig (byteAt z (k : Int)) = false := by
  rcases Nat.lt_or_ge k z.size with h' | h'
  · right
    rw [decide_eq_true (by omega : ((k : Nat) : Int) < (z.size : Int)), Bool.true_and] at h
    exact h
  · left; omega
theorem fracN_eq {z : ByteArray} {k : Nat} (h1 : 1 ≤ k) (hk : k ≤ z.size) (h : digFrom z k) (he : k = z.size ∨ isDig (byteAt z (k : Int)) = false) : fracN z + 1 = k := by
  rw [mk_of z] at h he hk ⊢
  generalize z.data.toList = l at *
  rw [mk_size] at he hk
  unfold fracN
  rw [mk_data]
  cases l with
  | nil => simp at hk; omega
  | cons c l =>
    simp only [List.drop_succ_cons, List.drop_zero]
    rw [takeW_getD (k := k - 1)]
    · omega
    · simp at hk; omega
    · intro j hj
      have := h (j + 1) (by omega) (by omega)
      rw [isD_byte (by simp at hk ⊢; omega)] at this
      simpa using this
    · rcases he with he | he
      · left; simp at he; omega
      · by_cases h' : k = (c :: l).length
        · left; simp at h'; omega
        · right
          rw [isD_byte (by omega)] at he
          rw [show k = (k - 1) + 1 from by omega] at he
          simpa using he

/-! ## the roads -/
theorem offset_no {s c : ByteArray} (h : ((!(likeB s (((ByteArray.mk #[43, 57, 57]) ++ c) ++ (ByteArray.mk #[57, 57])))) && (!(likeB s (((ByteArray.mk #[45, 57, 57]) ++ c) ++ (ByteArray.mk #[57, 57]))))) = true) : rOff s c = (0, false) := by
  simp only [Bool.and_eq_true, Bool.not_eq_true'] at h
  unfold rOff p99 m99 n99
  rw [h.1, h.2]; rfl
theorem offset_yes {s c : ByteArray} (h : ((!(likeB s (((ByteArray.mk #[43, 57, 57]) ++ c) ++ (ByteArray.mk #[57, 57])))) && (!(likeB s (((ByteArray.mk #[45, 57, 57]) ++ c) ++ (ByteArray.mk #[57, 57]))))) = false) :
    rOff s c = (if byteAt s 0 == 45 then 0 - offV s else offV s, decide (rdig (s.extract 1 3) < 24) && decide (rdig (s.extract (Int.toNat ((s.size : Int) - 2)) s.size) < 60)) ∧ s.size = c.size + 5 := by
  have h' : (likeB s (p99 ++ c ++ n99) || likeB s (m99 ++ c ++ n99)) = true := by
    cases h1 : likeB s (p99 ++ c ++ n99) with
    | true => rfl
    | false =>
      cases h2 : likeB s (m99 ++ c ++ n99) with
      | true => rfl
      | false => unfold p99 n99 at h1; unfold m99 n99 at h2; rw [h1, h2] at h; cases h
  have hp : (p99 ++ c ++ n99).size = c.size + 5 := by
    rw [ByteArray.size_append, ByteArray.size_append]; show 3 + c.size + 2 = _; omega
  have hm : (m99 ++ c ++ n99).size = c.size + 5 := by
    rw [ByteArray.size_append, ByteArray.size_append]; show 3 + c.size + 2 = _; omega
  refine ⟨by unfold rOff; rw [h']; rfl, ?_⟩
  rw [Bool.or_eq_true] at h'
  rcases h' with h' | h'
  · rw [likeB_size h', hp]
  · rw [likeB_size h', hm]
theorem ext_size {s : ByteArray} {a b n : Nat} (h : b - a ≤ n) : (s.extract a b).size ≤ n := by rw [ByteArray.size_extract]; omega
theorem ext_size' {s : ByteArray} {a b n : Nat} (h : s.size - a ≤ n) : (s.extract a b).size ≤ n := by rw [ByteArray.size_extract]; omega
theorem rOff_bd (s c : ByteArray) : -40000000 ≤ (rOff s c).1 ∧ (rOff s c).1 ≤ 40000000 := by
  have h1 := rdig_bd (s := s.extract 1 3) (ext_size (by omega))
  have h2 := rdig_bd (s := s.extract (Int.toNat ((s.size : Int) - 2)) s.size) (ext_size (by omega))
  unfold rOff offV
  cases (likeB s (p99 ++ c ++ n99) || likeB s (m99 ++ c ++ n99))
  · simp
  · simp only [cond_true]; split <;> omega
theorem rdig_rng {s : ByteArray} (hs : s.size ≤ 4) : -20000 ≤ rdig s ∧ rdig s ≤ 20000 := by have := rdig_bd hs; omega
theorem rOff_rng (s c : ByteArray) : -1000000000 ≤ (rOff s c).1 ∧ (rOff s c).1 ≤ 1000000000 := by have := rOff_bd s c; omega
theorem timeR_is {y mo d h mi s off t : Int} (hf1 : 1 ≤ y) (hf2 : y ≤ 9999) (hf3 : 1 ≤ mo) (hf4 : mo ≤ 12) (hf5 : 1 ≤ d) (hf6 : d ≤ mlen y mo) (hf7 : h ≤ 23) (hf8 : mi ≤ 59) (hf9 : s ≤ 60)
    (ht : t = (((86400 * dayN y mo d + 3600 * h) + 60 * mi) + (if 59 < s then 59 else s)) - off) : timeM y mo d h mi s off = some t := by
  unfold timeM
  rw [if_neg (by omega)]
  congr 1
  rw [ht]; unfold dayN
  split <;> split <;> omega
theorem dayN_bd {y mo d : Int} (hf1 : 1 ≤ y) (hf2 : y ≤ 9999) (hf3 : 1 ≤ mo) (hf4 : mo ≤ 12) (hf5 : 1 ≤ d) (hf6 : d ≤ 31) : -800000 ≤ dayN y mo d ∧ dayN y mo d ≤ 3700000 := by
  have h1 := bef_bd (y := y) (by omega) (by omega)
  have h2 := cum_bd y (mo - 1).toNat
  unfold dayN; omega
def tOk : Option Int → Value
  | some t => .tuple #[.int .i64 t, .bool true]
  | none => .tuple #[.int .i64 0, .bool false]
theorem refAtom_short {s : ByteArray} (h : s.size < 20) : refAtomM s = none := by unfold refAtomM; rw [if_pos h]
theorem refAtom_head {s : ByteArray} (h0 : ¬ s.size < 20) (h : (((!(likeB (s.extract 0 19) pT)) && (!(likeB (s.extract 0 19) pt))) && (!(likeB (s.extract 0 19) pS))) = true) : refAtomM s = none := by
  simp only [Bool.and_eq_true, Bool.not_eq_true'] at h
  unfold refAtomM headB; rw [if_neg h0, h.1.1, h.1.2, h.2]; rfl
theorem refAtom_go {s z : ByteArray} (h0 : ¬ s.size < 20) (h : (((!(likeB (s.extract 0 19) pT)) && (!(likeB (s.extract 0 19) pt))) && (!(likeB (s.extract 0 19) pS))) = false) (hz : fracR (s.extract 19 s.size) = some z) : refAtomM s = tailR (s.extract 0 19) z := by
  have e : headB (s.extract 0 19) = true := by
    unfold headB
    cases h1 : likeB (s.extract 0 19) pT <;> cases h2 : likeB (s.extract 0 19) pt <;> cases h3 : likeB (s.extract 0 19) pS <;> first | rfl | (rw [h1, h2, h3] at h; cases h)
  unfold refAtomM; rw [if_neg h0, e, hz]; rfl
theorem refAtom_no {s : ByteArray} (hz : fracR (s.extract 19 s.size) = none) : refAtomM s = none := by
  unfold refAtomM; split
  · rfl
  · rw [hz]; cases headB (s.extract 0 19) <;> rfl
theorem fracR_plain {z : ByteArray} (h : (byteAt z 0 == 46) = false) : fracR z = some z := by unfold fracR; rw [h]; rfl
theorem fracR_none {z : ByteArray} (h : (byteAt z 0 == 46) = true) (hn : fracN z + 1 = 1) : fracR z = none := by unfold fracR; rw [h, cond_true, if_pos (by omega)]
theorem fracR_some {z : ByteArray} {k : Nat} (h : (byteAt z 0 == 46) = true) (hn : fracN z + 1 = k) (hk : ¬ k = 1) : fracR z = some (z.extract k z.size) := by unfold fracR; rw [h, cond_true, if_neg (by omega), ← hn, Nat.add_comm]
theorem tail_z {a z : ByteArray} (h : ((!(z.toList == (ByteArray.mk #[90]).toList)) && (!(z.toList == (ByteArray.mk #[122]).toList))) = false) : tailR a z = timeR a 0 := by
  unfold tailR
  have : ((z.toList == (ByteArray.mk #[90]).toList) || (z.toList == (ByteArray.mk #[122]).toList)) = true := by
    cases h1 : (z.toList == (ByteArray.mk #[90]).toList) <;> cases h2 : (z.toList == (ByteArray.mk #[122]).toList) <;> first | rfl | (rw [h1, h2] at h; cases h)
  rw [this]; rfl
theorem tail_off {a z : ByteArray} (h : ((!(z.toList == (ByteArray.mk #[90]).toList)) && (!(z.toList == (ByteArray.mk #[122]).toList))) = true) : tailR a z = bif (rOff z (ByteArray.mk #[58])).2 then timeR a (rOff z (ByteArray.mk #[58])).1 else none := by
  simp only [Bool.and_eq_true, Bool.not_eq_true'] at h
  unfold tailR; rw [h.1, h.2]; rfl
end Go.Proofs.YtlglmomimhbeaaaGreatDoor
