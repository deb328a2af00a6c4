/- A disk in memory: what its calls make of the few numbers that it keeps; sums over a map's entries. No program is in sight. -/
import Derived.Test.YtbmieiffboenbaaMap2
import Derived.Test.YtbmieiffboenbaaVa
import Derived.Test.YtbmieiffboenbaaConv
namespace Go.Vf
open Go.Sw Go.RowKit

/-- error, fails, calls -/
def callS (fails once : Bool) (calls : Int) (right : Bool) : Int × Bool × Int :=
  if right = false then (2, fails, calls) else if fails = false then (0, fails, calls) else if calls > 0 then (0, fails, calls - 1) else (62, !once, calls)
theorem callS_arg {f o r : Bool} {c : Int} (h : (!r) = true) : callS f o c r = (2, f, c) := by unfold callS; cases r <;> simp at h ⊢
theorem callS_ok {f o r : Bool} {c : Int} (h : (!r) = false) (hf : (!f) = true) : callS f o c r = (0, f, c) := by unfold callS; cases r <;> cases f <;> simp at h hf ⊢
theorem callS_dec {f o r : Bool} {c : Int} (h : (!r) = false) (hf : (!f) = false) (hc : decide (c > 0) = true) : callS f o c r = (0, f, c - 1) := by
  have := of_decide_eq_true hc
  unfold callS; cases r <;> cases f <;> simp at h hf ⊢; omega
theorem callS_no {f o r : Bool} {c : Int} (h : (!r) = false) (hf : (!f) = false) (hc : decide (c > 0) = false) : callS f o c r = (62, !o, c) := by
  have := of_decide_eq_false hc
  unfold callS; cases r <;> cases f <;> simp at h hf ⊢; omega

def sumN (f : Value → Nat) (m : SM) : Nat := (m.map fun e => f e.2.1).sum
theorem sumN_snoc (f : Value → Nat) (m : SM) (e : ByteArray × Value × Nat) : sumN f (m ++ [e]) = sumN f m + f e.2.1 := by
  unfold sumN; rw [List.map_append, List.sum_append]; simp
theorem sumN_perm {f : Value → Nat} {a b : SM} (h : a.Perm b) : sumN f a = sumN f b := (h.map _).sum_nat
theorem sumN_part {f : Value → Nat} {a b c : SM} (h : (a ++ b).Perm c) : sumN f a ≤ sumN f c := by
  rw [← sumN_perm h]; unfold sumN; rw [List.map_append, List.sum_append]; omega
theorem u8s_one {l : List UInt8} : ∀ u ∈ u8s l, u.oneCell' = true := by
  intro u hu
  unfold u8s at hu
  obtain ⟨b, _, rfl⟩ := List.mem_map.1 hu
  rfl
theorem u8s_len (l : List UInt8) : (u8s l).length = l.length := by unfold u8s; rw [List.length_map]
theorem own_nil {et : TypeId} {v : Value} {g : Grp} {n : Nat} {cs : List Value} (h : Own et 1 v g (0 + n) ([] ++ cs)) : Own et 1 v g n cs := by simpa using h
theorem mapok1 (k : ByteArray) (v : Value) : MapOk [(k, v, 0)] 1 := ⟨by simp, by simp, by simp⟩
theorem hv1 (k : ByteArray) (p : Nat) : ∀ e ∈ [(k, Value.pointer (some ⟨p, 0, none⟩), 0)], e.2.1 = Value.pointer none ∨ ∃ p, e.2.1 = Value.pointer (some ⟨p, 0, none⟩) := by
  intro e he
  rw [List.mem_singleton.1 he]; exact .inr ⟨p, rfl⟩
theorem hv0 (k : ByteArray) : ∀ e ∈ [(k, Value.pointer none, 0)], e.2.1 = Value.pointer none ∨ ∃ p, e.2.1 = Value.pointer (some ⟨p, 0, none⟩) := by
  intro e he
  rw [List.mem_singleton.1 he]; exact .inl rfl
/-- what some changes, one behind the other, each in whatever order, may make of a map -/
def MadeOf : List SM → SM × Nat → SM × Nat → Prop
  | [], s, s' => s' = s
  | x :: r, s, s' => ∃ dn, dn.Perm x ∧ MadeOf r (foldS s dn) s'
theorem made_snoc {x : SM} {dn : SM} (hd : dn.Perm x) : ∀ {xs : List SM} {s s1 : SM × Nat}, MadeOf xs s s1 → MadeOf (xs ++ [x]) s (foldS s1 dn)
  | [], s, s1, h => by subst h; exact ⟨dn, hd, rfl⟩
  | y :: r, s, s1, ⟨d, h1, h2⟩ => ⟨d, h1, made_snoc hd h2⟩
theorem made_ok : ∀ {xs : List SM} {s s' : SM × Nat}, MadeOf xs s s' → MapOk s.1 s.2 → MapOk s'.1 s'.2
  | [], _, _, h, ho => by subst h; exact ho
  | _ :: _, _, _, ⟨_, _, h⟩, ho => made_ok h (ho.fold _)
theorem take_snoc {α : Type} {l : List α} {k : Nat} {d : α} (h : k < l.length) : l.take (k + 1) = l.take k ++ [l.getD k d] := by
  rw [List.take_add_one, List.getElem?_eq_getElem h, List.getD_eq_getElem?_getD, List.getElem?_eq_getElem h]; rfl
theorem map_at {qs : List Nat} {k : Nat} (h : k < qs.length) : (qs.map fun q => Value.map (some q))[k]? = some (.map (some (qs.getD k 0))) := by
  rw [List.getElem?_map, List.getElem?_eq_getElem h, List.getD_eq_getElem?_getD, List.getElem?_eq_getElem h]; rfl
theorem maps_ne {qs : List Nat} {k : Nat} (h : k < qs.length) : (qs.map fun q => Value.map (some q)) ≠ [] := by
  intro h'; rw [List.map_eq_nil_iff] at h'; rw [h'] at h; simp at h
/-- the next number, brought below n -/
def nextK (k n : Int) : Int := Int.tmod (Int.tmod k n + n) n
theorem nextK_bd {k n : Int} (hn : 0 < n) : 0 ≤ nextK k n ∧ nextK k n < n := by
  unfold nextK
  have h1 := Int.tmod_lt_of_pos k hn
  have h2 : -n < Int.tmod k n := by
    have := Int.lt_tmod_of_pos k hn
    omega
  have h3 : 0 ≤ Int.tmod k n + n := by omega
  exact ⟨Int.tmod_nonneg n h3, Int.tmod_lt_of_pos _ hn⟩
theorem next_is {k n : Int} (hn : 0 < n) (hn2 : n ≤ 1000000000000) (_ : -9223372036854775808 ≤ k) (_ : k ≤ 9223372036854775807) : Int.tmod (IntKind.wrap .i64 (Int.tmod k n + n)) n = nextK k n := by
  have h1 := Int.tmod_lt_of_pos k hn
  have h2 := Int.lt_tmod_of_pos k hn
  rw [w64 (by omega) (by omega)]
  rfl
theorem tmod_ne {n : Int} (k : Int) (hn : 0 < n) : -n < Int.tmod k n ∧ Int.tmod k n < n := ⟨by have := Int.lt_tmod_of_pos k hn; omega, Int.tmod_lt_of_pos k hn⟩
end Go.Vf
