/- The rules of a symbolic walk: a frame is known by its live slots, a heap by groups of blocks over a base world. General over the program; no condition. -/
import Derived.Tactics
import Derived.Below
import Derived.KernelRfl
namespace Go.Sw
open Go.RowKit

/-! ## heaps -/
abbrev Grp := List (Nat × Obj)

structure Sat (W0 : World) (H : List Grp) (w : World) : Prop where
  below : Below W0.heap.size W0 w
  nodup : (H.flatten.map Prod.fst).Nodup
  has : ∀ p, p ∈ H.flatten → w.heap[p.1]? = some p.2
  high : ∀ p, p ∈ H.flatten → W0.heap.size ≤ p.1

/-! ## frames -/
structure Sl where
  t : Nat
  ch : List (Nat × Bool)
  v : Value

abbrev Env := List Sl

def Env.find : List Sl → Nat → Option Sl
  | [], _ => none
  | s :: r, t => if s.t == t then some s else Env.find r t

def boolOf : Value → Option Bool
  | .bool b => some b
  | _ => none

def chT (β : Nat → Bool → Bool) (ch : List (Nat × Bool)) : Bool := ch.all fun p => β p.1 p.2

structure Ag (n : Nat) (E : Env) (a : Act) : Prop where
  defers : a.defers = []
  size : a.tmps.size = n
  at_ : ∃ β : Nat → Bool → Bool, (∀ s, s ∈ E → ∀ w, β s.t w = (boolOf s.v == some w)) ∧
    ∀ s, s ∈ E → a.tmps[s.t]? = some (if chT β s.ch then s.v else undef)

theorem Env.find_mem {E : Env} {t : Nat} {s : Sl} (h : Env.find E t = some s) : s ∈ E ∧ s.t = t := by
  induction E with
  | nil => simp [Env.find] at h
  | cons x r ih =>
    simp only [Env.find] at h
    split at h
    · rename_i hx; injection h with h; subst h; exact ⟨List.mem_cons_self, by simpa using hx⟩
    · obtain ⟨h1, h2⟩ := ih h; exact ⟨List.mem_cons_of_mem _ h1, h2⟩

def freeOf (t : Nat) (ch : List (Nat × Bool)) : Bool := ch.all fun p => !(p.1 == t)
def Env.put (E : List Sl) (d : Option Nat) (ch : List (Nat × Bool)) (v : Value) : List Sl :=
  match d with
  | some t => ⟨t, ch, v⟩ :: E.filter fun s => !(s.t == t) && freeOf t s.ch
  | none => E

theorem chT_free {β β' : Nat → Bool → Bool} {t : Nat} (hβ : ∀ u w, u ≠ t → β' u w = β u w) {ch : List (Nat × Bool)} (h : freeOf t ch = true) : chT β' ch = chT β ch := by
  induction ch with
  | nil => rfl
  | cons p r ih =>
    simp only [freeOf, List.all_cons, Bool.and_eq_true] at h
    have h1 : p.1 ≠ t := by simpa using h.1
    have h2 := ih h.2
    unfold chT at h2 ⊢
    simp only [List.all_cons, hβ _ _ h1, h2]

def dstOk (n : Nat) (ch : List (Nat × Bool)) : Option Nat → Bool
  | some t => decide (t < n) && freeOf t ch
  | none => true

theorem Ag.put {n : Nat} {E : Env} {a : Act} (h : Ag n E a) {β : Nat → Bool → Bool} (hβ : ∀ s, s ∈ E → ∀ w, β s.t w = (boolOf s.v == some w))
    (hat : ∀ s, s ∈ E → a.tmps[s.t]? = some (if chT β s.ch then s.v else undef)) {d : Option Nat} {ch : List (Nat × Bool)} (hd : dstOk n ch d = true) (v : Value) :
    Ag n (Env.put E d ch v) (a.put d (if chT β ch then v else undef)) := by
  cases d with
  | none => exact h
  | some t =>
    simp only [dstOk, Bool.and_eq_true, decide_eq_true_eq] at hd
    obtain ⟨ht, hf⟩ := hd
    refine ⟨h.defers, by simp [Act.put, h.size], fun u w => if u = t then boolOf v == some w else β u w, ?_, ?_⟩
    · intro s hs w
      simp only [Env.put, List.mem_cons, List.mem_filter, Bool.and_eq_true] at hs
      rcases hs with rfl | ⟨hs, hne, _⟩
      · simp
      · have : s.t ≠ t := by simpa using hne
        simp only [this, if_false]; exact hβ s hs w
    · intro s hs
      simp only [Env.put, List.mem_cons, List.mem_filter, Bool.and_eq_true] at hs
      rcases hs with rfl | ⟨hs, hne, hfs⟩
      · simp only [Act.put]
        rw [chT_free (β := β) (β' := fun u w => if u = t then boolOf v == some w else β u w) (t := t) (fun u w hu => if_neg hu) hf]
        rw [Array.getElem?_setIfInBounds_self_of_lt (by rw [h.size]; exact ht)]
      · have hne' : s.t ≠ t := by simpa using hne
        simp only [Act.put]
        rw [chT_free (β := β) (β' := fun u w => if u = t then boolOf v == some w else β u w) (t := t) (fun u w hu => if_neg hu) hfs]
        rw [Array.getElem?_setIfInBounds_ne (by omega)]
        exact hat s hs

theorem Ag.sub {n : Nat} {E E' : Env} {a : Act} (h : Ag n E a) (hs : ∀ s, s ∈ E' → s ∈ E) : Ag n E' a := by
  obtain ⟨β, h1, h2⟩ := h.at_
  exact ⟨h.defers, h.size, β, fun s h => h1 s (hs s h), fun s h => h2 s (hs s h)⟩

/-- the chain of a guard -/
def chainOf (ops : Array Oper) (E : List Sl) : Option (Nat × Bool) → Option (List (Nat × Bool))
  | none => some []
  | some (j, want) =>
    match (ops[j]?).bind Oper.dst with
    | some dj => (match Env.find E dj with | some s => some ((dj, want) :: s.ch) | none => none)
    | none => none

theorem wanted_chain {ops : Array Oper} {E : Env} {o : Oper} {ch : List (Nat × Bool)} {tmps : Array Value} {β : Nat → Bool → Bool}
    (hβ : ∀ s, s ∈ E → ∀ w, β s.t w = (boolOf s.v == some w)) (hat : ∀ s, s ∈ E → tmps[s.t]? = some (if chT β s.ch then s.v else undef))
    (h : chainOf ops E o.guard = some ch) : Region.wanted o (yielded ops tmps) = chT β ch := by
  unfold Region.wanted
  cases hg : o.guard with
  | none => rw [hg] at h; simp only [chainOf, Option.some.injEq] at h; subst h; simp [chT]
  | some jw =>
    obtain ⟨j, want⟩ := jw
    rw [hg] at h
    simp only [chainOf] at h
    cases hd : (ops[j]?).bind Oper.dst with
    | none => rw [hd] at h; simp at h
    | some dj =>
      rw [hd] at h
      dsimp only at h
      cases hf : Env.find E dj with
      | none => rw [hf] at h; simp at h
      | some s =>
        rw [hf] at h
        simp only [Option.some.injEq] at h
        subst h
        obtain ⟨hm, rfl⟩ := Env.find_mem hf
        have h1 := hat s hm
        have h2 := hβ s hm want
        simp only [yielded, hd, Option.bind_some, h1]
        have e : chT β ((s.t, want) :: s.ch) = (β s.t want && chT β s.ch) := by simp [chT]
        rw [e, h2]
        cases hc : chT β s.ch
        · simp [undef]
        · simp only [if_true, Bool.and_true]
          cases hv : s.v <;> simp [boolOf]

/-! ## operands -/
def subCh (c1 c2 : List (Nat × Bool)) : Bool := c1.all fun p => c2.any fun q => p.1 == q.1 && p.2 == q.2

theorem subCh_true {β : Nat → Bool → Bool} {c1 c2 : List (Nat × Bool)} (h : subCh c1 c2 = true) (h2 : chT β c2 = true) : chT β c1 = true := by
  unfold chT at *
  rw [List.all_eq_true] at *
  intro p hp
  have := List.all_eq_true.1 h p hp
  rw [List.any_eq_true] at this
  obtain ⟨q, hq, he⟩ := this
  have := h2 q hq
  simp at he
  rw [he.1, he.2]
  exact this

def evT (E : List Sl) (ch : List (Nat × Bool)) (t : Nat) : Option Value :=
  match Env.find E t with
  | some s => if subCh s.ch ch then some s.v else none
  | none => none

def evO (E : List Sl) (ch : List (Nat × Bool)) : Operand → Option Value
  | .tmp t => evT E ch t
  | .const v => some v
  | .global g => some (.pointer (some ⟨g, 0, none⟩))
  | .func f => some (.func (.func f) #[] #[])

theorem evO_eval {E : Env} {ch : List (Nat × Bool)} {a : Act} {β : Nat → Bool → Bool}
    (hat : ∀ s, s ∈ E → a.tmps[s.t]? = some (if chT β s.ch then s.v else undef)) (hc : chT β ch = true) {x : Operand} {v : Value} (h : evO E ch x = some v) : a.eval x = v := by
  cases x with
  | tmp t =>
    simp only [evO, evT] at h
    split at h
    · rename_i s hf
      obtain ⟨hm, rfl⟩ := Env.find_mem hf
      split at h
      · rename_i hs
        injection h with h
        have := hat s hm
        rw [subCh_true hs hc] at this
        simp only [Act.eval, Array.getD_eq_getD_getElem?, this]
        simpa using h
      · simp at h
    · simp at h
  | const v => simp only [evO, Option.some.injEq] at h; exact h
  | global g => simp only [evO, Option.some.injEq] at h; exact h
  | func f => simp only [evO, Option.some.injEq] at h; exact h

end Go.Sw
