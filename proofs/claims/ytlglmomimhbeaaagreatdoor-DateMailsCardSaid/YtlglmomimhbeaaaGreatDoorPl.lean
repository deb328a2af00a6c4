/- Texts as lists of bytes: the scan over them, and what numbers are printed as. No program is in sight. -/
import Derived.Test.YtlglmomimhbeaaaGreatDoorDg
namespace Go.Proofs.YtlglmomimhbeaaaGreatDoor
open Go.Sw Go.Lib Go.Cal Go.Scn

def mk (l : List UInt8) : ByteArray := ⟨l.toArray⟩
theorem mk_size (l : List UInt8) : (mk l).size = l.length := by show l.toArray.size = _; simp
theorem mk_data (l : List UInt8) : (mk l).data.toList = l := rfl
theorem mk_toList (l : List UInt8) : (mk l).toList = l := by rw [toList_data]; rfl
theorem mk_of (s : ByteArray) : s = mk s.data.toList := rfl
theorem mk_app (a b : List UInt8) : mk a ++ mk b = mk (a ++ b) := by
  apply ByteArray.ext
  simp [mk]
theorem mk_ext (l : List UInt8) (a b : Nat) : (mk l).extract a b = mk ((l.take b).drop a) := by
  apply ByteArray.ext
  simp [mk]
  rw [List.take_drop]
  by_cases h : a ≤ b
  · rw [show a + (b - a) = b from by omega]
  · rw [show a + (b - a) = a from by omega, List.drop_eq_nil_of_le (by rw [List.length_take]; omega), List.drop_eq_nil_of_le (by rw [List.length_take]; omega)]
def pre (p l : List UInt8) : Bool := p.isPrefixOf l
theorem startsB_mk (l p : List UInt8) : startsB (mk l) (mk p) = pre p l := by
  unfold startsB pre
  rw [mk_size, mk_size, mk_ext, mk_toList, mk_toList, List.drop_zero]
  rw [Bool.eq_iff_iff, Bool.and_eq_true, decide_eq_true_eq, beq_iff_eq, List.isPrefixOf_iff_prefix, List.prefix_iff_eq_take]
  constructor
  · rintro ⟨_, h⟩; exact h.symm
  · intro h
    refine ⟨?_, h.symm⟩
    have := congrArg List.length h
    simp at this
    omega
theorem cutP_mk (l p : List UInt8) : cutP (mk l) (mk p) = mk (bif pre p l then l.drop p.length else l) := by
  unfold cutP
  rw [startsB_mk, mk_ext, mk_size, mk_size, List.take_length]
  cases pre p l <;> rfl
def isD (c : UInt8) : Bool := isDig (c.toNat : Int)
theorem num_mk (n : Nat) (l : List UInt8) (b : Bool) : num n ⟨mk l, b⟩ = if n ≤ l.length ∧ (l.take n).all isD = true then (dvalL (l.take n), ⟨mk (l.drop n), b⟩) else (0, ⟨mk l, true⟩) := by
  unfold num digB
  simp only [mk_ext, mk_size, mk_data, List.drop_zero, List.take_length]
  rfl
theorem may_mk (p l : List UInt8) (b : Bool) : may (mk p) ⟨mk l, b⟩ = (pre p l, ⟨mk (bif pre p l then l.drop p.length else l), b⟩) := by
  unfold may
  simp only [startsB_mk, cutP_mk]

/-! ## numbers -/
def D (k : Int) : UInt8 := UInt8.ofNat (48 + k).toNat
theorem D_nat {k : Int} (h0 : 0 ≤ k) (h1 : k ≤ 9) : ((D k).toNat : Int) = 48 + k := by
  unfold D
  rw [UInt8.toNat_ofNat']
  omega
theorem D_isD {k : Int} (h0 : 0 ≤ k) (h1 : k ≤ 9) : isD (D k) = true := by
  unfold isD isDig
  rw [D_nat h0 h1]
  simp; omega
theorem dd_1 {n : Nat} (h : n < 10) : Lib.decDigits n = [UInt8.ofNat (48 + n)] := by unfold Lib.decDigits; rw [dif_pos h]
theorem dd_s {n : Nat} (h : ¬ n < 10) : Lib.decDigits n = Lib.decDigits (n / 10) ++ [UInt8.ofNat (48 + n % 10)] := by rw [Lib.decDigits, dif_neg h]
theorem dig_D {v : Int} {n : Nat} (h : v = n) : UInt8.ofNat (48 + n) = D v := by
  unfold D; subst h; congr 1
theorem itoa_of {v : Int} (h : 0 ≤ v) : itoaB v = mk (Lib.decDigits v.toNat) := by
  unfold itoaB Lib.itoa; rw [if_neg (by omega)]; rfl
theorem rep_0 (c : Nat) : repB (ByteArray.mk #[48]) c = mk (List.replicate c (D 0)) := by
  have : ∀ c, Lib.repeatL [48] c = List.replicate c (D 0) := by
    intro c
    induction c with
    | zero => rfl
    | succ c ih => rw [Lib.repeatL, ih]; rfl
  show ByteArray.mk (Lib.repeatL [48] c).toArray = _
  rw [this]; rfl
theorem pad_of {v n : Int} (h : 0 ≤ v) {l : List UInt8} (hd : Lib.decDigits v.toNat = l) {c : Nat} (hc : ((l.length : Int)) + c = n) : padB v n = mk (List.replicate c (D 0) ++ l) := by
  unfold padB
  rw [rep_0, itoa_of h, hd, mk_app, mk_size]
  congr 3
  split <;> omega
theorem pad2 {v : Int} (h0 : 0 ≤ v) (h1 : v ≤ 99) : padB v 2 = mk [D (v / 10), D (v % 10)] := by
  by_cases h : v < 10
  · rw [pad_of (c := 1) h0 (dd_1 (by omega)) (by simp), dig_D (v := v) (by omega), show v / 10 = 0 from by omega, show v % 10 = v from by omega]; rfl
  · rw [pad_of (c := 0) h0 (dd_s (by omega)) (by rw [dd_1 (by omega)]; simp), dd_1 (by omega), dig_D (v := v / 10) (by omega), dig_D (v := v % 10) (by omega)]; rfl
theorem pad4 {v : Int} (h0 : 0 ≤ v) (h1 : v ≤ 9999) : padB v 4 = mk [D (v / 1000), D (v / 100 % 10), D (v / 10 % 10), D (v % 10)] := by
  by_cases h : v < 10
  · rw [pad_of (c := 3) h0 (dd_1 (by omega)) (by simp), dig_D (v := v) (by omega), show v / 1000 = 0 from by omega, show v / 100 % 10 = 0 from by omega, show v / 10 % 10 = 0 from by omega, show v % 10 = v from by omega]; rfl
  by_cases h : v < 100
  · have e : Lib.decDigits v.toNat = [D (v / 10 % 10), D (v % 10)] := by
      rw [dd_s (by omega), dd_1 (by omega), dig_D (v := v / 10 % 10) (by omega), dig_D (v := v % 10) (by omega)]; rfl
    rw [pad_of (c := 2) h0 e (by simp), show v / 1000 = 0 from by omega, show v / 100 % 10 = 0 from by omega]; rfl
  by_cases h : v < 1000
  · have e : Lib.decDigits v.toNat = [D (v / 100 % 10), D (v / 10 % 10), D (v % 10)] := by
      rw [dd_s (by omega), dd_s (by omega), dd_1 (by omega), dig_D (v := v / 100 % 10) (by omega), dig_D (v := v / 10 % 10) (by omega), dig_D (v := v % 10) (by omega)]; rfl
    rw [pad_of (c := 1) h0 e (by simp), show v / 1000 = 0 from by omega]; rfl
  · have e : Lib.decDigits v.toNat = [D (v / 1000), D (v / 100 % 10), D (v / 10 % 10), D (v % 10)] := by
      rw [dd_s (by omega), dd_s (by omega), dd_s (by omega), dd_1 (by omega), dig_D (v := v / 1000) (by omega), dig_D (v := v / 100 % 10) (by omega), dig_D (v := v / 10 % 10) (by omega), dig_D (v := v % 10) (by omega)]; rfl
    rw [pad_of (c := 0) h0 e (by simp)]; rfl
theorem two_mk {n : Int} : twoB n = mk [D (n / 10), D (n % 10)] := rfl
theorem dval2 {a b : Int} (ha : 0 ≤ a ∧ a ≤ 9) (hb : 0 ≤ b ∧ b ≤ 9) : dvalL [D a, D b] = 10 * a + b := by
  simp only [dvalL, List.foldl_cons, List.foldl_nil, D_nat ha.1 ha.2, D_nat hb.1 hb.2]; omega
theorem dval4 {a b c d : Int} (ha : 0 ≤ a ∧ a ≤ 9) (hb : 0 ≤ b ∧ b ≤ 9) (hc : 0 ≤ c ∧ c ≤ 9) (hd : 0 ≤ d ∧ d ≤ 9) : dvalL [D a, D b, D c, D d] = 1000 * a + 100 * b + 10 * c + d := by
  simp only [dvalL, List.foldl_cons, List.foldl_nil, D_nat ha.1 ha.2, D_nat hb.1 hb.2, D_nat hc.1 hc.2, D_nat hd.1 hd.2]; omega
theorem num2_D {v : Int} (h0 : 0 ≤ v) (h1 : v ≤ 99) (r : List UInt8) (b : Bool) : num 2 ⟨mk (D (v / 10) :: D (v % 10) :: r), b⟩ = (v, ⟨mk r, b⟩) := by
  rw [num_mk, if_pos ⟨by simp, by simp [D_isD (k := v / 10) (by omega) (by omega), D_isD (k := v % 10) (by omega) (by omega)]⟩]
  simp only [List.take_succ_cons, List.take_zero, List.drop_succ_cons, List.drop_zero]
  rw [dval2 (by omega) (by omega)]
  congr 1; omega
theorem num4_D {v : Int} (h0 : 0 ≤ v) (h1 : v ≤ 9999) (r : List UInt8) (b : Bool) : num 4 ⟨mk (D (v / 1000) :: D (v / 100 % 10) :: D (v / 10 % 10) :: D (v % 10) :: r), b⟩ = (v, ⟨mk r, b⟩) := by
  rw [num_mk, if_pos ⟨by simp, by simp [D_isD (k := v / 1000) (by omega) (by omega), D_isD (k := v / 100 % 10) (by omega) (by omega), D_isD (k := v / 10 % 10) (by omega) (by omega), D_isD (k := v % 10) (by omega) (by omega)]⟩]
  simp only [List.take_succ_cons, List.take_zero, List.drop_succ_cons, List.drop_zero]
  rw [dval4 (by omega) (by omega) (by omega) (by omega)]
  congr 1; omega
theorem one_1 {p l r : List UInt8} {b : Bool} (h : l = p ++ r) : Scn.one [mk p] ⟨mk l, b⟩ = (0, ⟨mk r, b⟩) := by
  subst h
  simp only [Scn.one, oneFrom, startsB_mk, cutP_mk]
  have : pre p (p ++ r) = true := by unfold pre; rw [List.isPrefixOf_iff_prefix]; exact List.prefix_append p r
  simp [this]
end Go.Proofs.YtlglmomimhbeaaaGreatDoor
