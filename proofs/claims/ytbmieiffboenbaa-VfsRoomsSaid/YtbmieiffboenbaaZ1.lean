/- A disk in memory: what its calls make of the few numbers that it keeps; sums over a map's entries. No program is in sight. (and what it stands on) -/
import Derived.Tactics
import Derived.Below
import Derived.KernelRfl
import Derived.Laws.Sem
import Derived.Laws.Small
import Derived.Deep.Quiet
import Derived.Deep.AppendSrc
import Derived.Laws.MakeOwn
import Derived.Laws.Externs
import Derived.Test.YtbmieiffboenbaaRows
import Derived.Lib.Strings
import Derived.OrdersHeld
import Derived.Laws.IdiomStrings
namespace Go.Sw
open Go.RowKit
abbrev Grp := List (Nat × Obj)
structure Sat (W0 : World) (H : List Grp) (w : World) : Prop where
  below : Below W0.heap.size W0 w
  nodup : (H.flatten.map Prod.fst).Nodup
  has : ∀ p, p ∈ H.flatten → w.heap[p.1]? = some p.2
  high : ∀ p, p ∈ H.flatten → W0.heap.size ≤ p.1
structure Sl where
  t : Nat
  ch : List (Nat × Bool)
  v : Value
abbrev Env := List Sl
abbrev pt (b : Nat) : Value := .pointer (some ⟨b, 0, none⟩)
def Env.find : List Sl → Nat → Option Sl
  | [], _ => none
  | s :: r, t => if s.t == t then some s else Env.find r t
def boolOf : Value → Option Bool
  | .bool b => some b
  | _ => none
def chT (β : Nat → Bool → Bool) (ch : List (Nat × Bool)) : Bool := ch.all fun p => β p.1 p.2
structure Ag (n : Nat) (E : Env) (a : Act) : Prop where
  defers : a.defers = []
  size : a.tmps.size = n
  at_ : ∃ β : Nat → Bool → Bool, (∀ s, s ∈ E → ∀ w, β s.t w = (boolOf s.v == some w)) ∧
    ∀ s, s ∈ E → a.tmps[s.t]? = some (if chT β s.ch then s.v else undef)
theorem Env.find_mem {E : Env} {t : Nat} {s : Sl} (h : Env.find E t = some s) : s ∈ E ∧ s.t = t := by
  induction E with
  | nil => simp [Env.find] at h
  | cons x r ih =>
    simp only [Env.find] at h
    split at h
    · rename_i hx; injection h with h; subst h; exact ⟨List.mem_cons_self, by simpa using hx⟩
    · obtain ⟨h1, h2⟩ := ih h; exact ⟨List.mem_cons_of_mem _ h1, h2⟩
def freeOf (t : Nat) (ch : List (Nat × Bool)) : Bool := ch.all fun p => !(p.1 == t)
def Env.put (E : List Sl) (d : Option Nat) (ch : List (Nat × Bool)) (v : Value) : List Sl :=
  match d with
  | some t => ⟨t, ch, v⟩ :: E.filter fun s => !(s.t == t) && freeOf t s.ch
  | none => E
theorem chT_free {β β' : Nat → Bool → Bool} {t : Nat} (hβ : ∀ u w, u ≠ t → β' u w = β u w) {ch : List (Nat × Bool)} (h : freeOf t ch = true) : chT β' ch = chT β ch := by
  induction ch with
  | nil => rfl
  | cons p r ih =>
    simp only [freeOf, List.all_cons, Bool.and_eq_true] at h
    have h1 : p.1 ≠ t := by simpa using h.1
    have h2 := ih h.2
    unfold chT at h2 ⊢
    simp only [List.all_cons, hβ _ _ h1, h2]
def dstOk (n : Nat) (ch : List (Nat × Bool)) : Option Nat → Bool
  | some t => decide (t < n) && freeOf t ch
  | none => true
theorem Ag.put {n : Nat} {E : Env} {a : Act} (h : Ag n E a) {β : Nat → Bool → Bool} (hβ : ∀ s, s ∈ E → ∀ w, β s.t w = (boolOf s.v == some w))
    (hat : ∀ s, s ∈ E → a.tmps[s.t]? = some (if chT β s.ch then s.v else undef)) {d : Option Nat} {ch : List (Nat × Bool)} (hd : dstOk n ch d = true) (v : Value) :
    Ag n (Env.put E d ch v) (a.put d (if chT β ch then v else undef)) := by
  cases d with
  | none => exact h
  | some t =>
    simp only [dstOk, Bool.and_eq_true, decide_eq_true_eq] at hd
    obtain ⟨ht, hf⟩ := hd
    refine ⟨h.defers, by simp [Act.put, h.size], fun u w => if u = t then boolOf v == some w else β u w, ?_, ?_⟩
    · intro s hs w
      simp only [Env.put, List.mem_cons, List.mem_filter, Bool.and_eq_true] at hs
      rcases hs with rfl | ⟨hs, hne, _⟩
      · simp
      · have : s.t ≠ t := by simpa using hne
        simp only [this, if_false]; exact hβ s hs w
    · intro s hs
      simp only [Env.put, List.mem_cons, List.mem_filter, Bool.and_eq_true] at hs
      rcases hs with rfl | ⟨hs, hne, hfs⟩
      · simp only [Act.put]
        rw [chT_free (β := β) (β' := fun u w => if u = t then boolOf v == some w else β u w) (t := t) (fun u w hu => if_neg hu) hf]
        rw [Array.getElem?_setIfInBounds_self_of_lt (by rw [h.size]; exact ht)]
      · have hne' : s.t ≠ t := by simpa using hne
        simp only [Act.put]
        rw [chT_free (β := β) (β' := fun u w => if u = t then boolOf v == some w else β u w) (t := t) (fun u w hu => if_neg hu) hfs]
        rw [Array.getElem?_setIfInBounds_ne (by omega)]
        exact hat s hs
theorem Ag.sub {n : Nat} {E E' : Env} {a : Act} (h : Ag n E a) (hs : ∀ s, s ∈ E' → s ∈ E) : Ag n E' a := by
  obtain ⟨β, h1, h2⟩ := h.at_
  exact ⟨h.defers, h.size, β, fun s h => h1 s (hs s h), fun s h => h2 s (hs s h)⟩
def chainOf (ops : Array Oper) (E : List Sl) : Option (Nat × Bool) → Option (List (Nat × Bool))
  | none => some []
  | some (j, want) =>
    match (ops[j]?).bind Oper.dst with
    | some dj => (match Env.find E dj with | some s => some ((dj, want) :: s.ch) | none => none)
    | none => none
theorem wanted_chain {ops : Array Oper} {E : Env} {o : Oper} {ch : List (Nat × Bool)} {tmps : Array Value} {β : Nat → Bool → Bool}
    (hβ : ∀ s, s ∈ E → ∀ w, β s.t w = (boolOf s.v == some w)) (hat : ∀ s, s ∈ E → tmps[s.t]? = some (if chT β s.ch then s.v else undef))
    (h : chainOf ops E o.guard = some ch) : Region.wanted o (yielded ops tmps) = chT β ch := by
  unfold Region.wanted
  cases hg : o.guard with
  | none => rw [hg] at h; simp only [chainOf, Option.some.injEq] at h; subst h; simp [chT]
  | some jw =>
    obtain ⟨j, want⟩ := jw
    rw [hg] at h
    simp only [chainOf] at h
    cases hd : (ops[j]?).bind Oper.dst with
    | none => rw [hd] at h; simp at h
    | some dj =>
      rw [hd] at h
      dsimp only at h
      cases hf : Env.find E dj with
      | none => rw [hf] at h; simp at h
      | some s =>
        rw [hf] at h
        simp only [Option.some.injEq] at h
        subst h
        obtain ⟨hm, rfl⟩ := Env.find_mem hf
        have h1 := hat s hm
        have h2 := hβ s hm want
        simp only [yielded, hd, Option.bind_some, h1]
        have e : chT β ((s.t, want) :: s.ch) = (β s.t want && chT β s.ch) := by simp [chT]
        rw [e, h2]
        cases hc : chT β s.ch
        · simp [undef]
        · simp only [if_true, Bool.and_true]
          cases hv : s.v <;> simp [boolOf]
def subCh (c1 c2 : List (Nat × Bool)) : Bool := c1.all fun p => c2.any fun q => p.1 == q.1 && p.2 == q.2
theorem subCh_true {β : Nat → Bool → Bool} {c1 c2 : List (Nat × Bool)} (h : subCh c1 c2 = true) (h2 : chT β c2 = true) : chT β c1 = true := by
  unfold chT at *
  rw [List.all_eq_true] at *
  intro p hp
  have := List.all_eq_true.1 h p hp
  rw [List.any_eq_true] at this
  obtain ⟨q, hq, he⟩ := this
  have := h2 q hq
  simp at he
  rw [he.1, he.2]
  exact this
def evT (E : List Sl) (ch : List (Nat × Bool)) (t : Nat) : Option Value :=
  match Env.find E t with
  | some s => if subCh s.ch ch then some s.v else none
  | none => none
def evO (E : List Sl) (ch : List (Nat × Bool)) : Operand → Option Value
  | .tmp t => evT E ch t
  | .const v => some v
  | .global g => some (.pointer (some ⟨g, 0, none⟩))
  | .func f => some (.func (.func f) #[] #[])
theorem evO_eval {E : Env} {ch : List (Nat × Bool)} {a : Act} {β : Nat → Bool → Bool}
    (hat : ∀ s, s ∈ E → a.tmps[s.t]? = some (if chT β s.ch then s.v else undef)) (hc : chT β ch = true) {x : Operand} {v : Value} (h : evO E ch x = some v) : a.eval x = v := by
  cases x with
  | tmp t =>
    simp only [evO, evT] at h
    split at h
    · rename_i s hf
      obtain ⟨hm, rfl⟩ := Env.find_mem hf
      split at h
      · rename_i hs
        injection h with h
        have := hat s hm
        rw [subCh_true hs hc] at this
        simp only [Act.eval, Array.getD_eq_getD_getElem?, this]
        simpa using h
      · simp at h
    · simp at h
  | const v => simp only [evO, Option.some.injEq] at h; exact h
  | global g => simp only [evO, Option.some.injEq] at h; exact h
  | func f => simp only [evO, Option.some.injEq] at h; exact h
end Go.Sw
namespace Go.Sw
def binV (P : Program) (op : BinOp) (t : TypeId) : Value → Value → Option Value
  | .int k a, .int k' b =>
    match op with
    | .shl => if b < 0 then none else some (.int k (k.wrap (a * 2 ^ (min b.toNat k.bits))))
    | .shr => if b < 0 then none else some (.int k (a.fdiv (2 ^ (min b.toNat k.bits))))
    | .add => if k = k' then some (.int k (k.wrap (a + b))) else none
    | .sub => if k = k' then some (.int k (k.wrap (a - b))) else none
    | .mul => if k = k' then some (.int k (k.wrap (a * b))) else none
    | .quo => if k = k' then (if b = 0 then none else some (.int k (k.wrap (a.tdiv b)))) else none
    | .rem => if k = k' then (if b = 0 then none else some (.int k (a.tmod b))) else none
    | .and => if k = k' then some (.int k (k.wrap (BitVec.ofInt k.bits a &&& BitVec.ofInt k.bits b).toNat)) else none
    | .or => if k = k' then some (.int k (k.wrap (BitVec.ofInt k.bits a ||| BitVec.ofInt k.bits b).toNat)) else none
    | .xor => if k = k' then some (.int k (k.wrap (BitVec.ofInt k.bits a ^^^ BitVec.ofInt k.bits b).toNat)) else none
    | .andNot => if k = k' then some (.int k (k.wrap (BitVec.ofInt k.bits a &&& ~~~BitVec.ofInt k.bits b).toNat)) else none
    | .eql => if k = k' then some (.bool (a == b)) else none
    | .neq => if k = k' then some (.bool (a != b)) else none
    | .lss => if k = k' then some (.bool (decide (a < b))) else none
    | .leq => if k = k' then some (.bool (decide (a ≤ b))) else none
    | .gtr => if k = k' then some (.bool (decide (a > b))) else none
    | .geq => if k = k' then some (.bool (decide (a ≥ b))) else none
  | .string a, .string b =>
    match op with
    | .eql => some (.bool (a.toList == b.toList))
    | .neq => some (.bool !(a.toList == b.toList))
    | .lss => some (.bool (Op.bytesLess a.toList b.toList))
    | .leq => some (.bool (Op.bytesLess a.toList b.toList || a.toList == b.toList))
    | .gtr => some (.bool !(Op.bytesLess a.toList b.toList || a.toList == b.toList))
    | .geq => some (.bool !(Op.bytesLess a.toList b.toList))
    | _ => none
  | .bool a, .bool b =>
    match op, P.underlying t with
    | .eql, some .bool => some (.bool (a == b))
    | .neq, some .bool => some (.bool !(a == b))
    | _, _ => none
  | .pointer none, .pointer b =>
    match op, P.underlying t with
    | .eql, some (.pointer _) => some (.bool b.isNone)
    | .neq, some (.pointer _) => some (.bool !b.isNone)
    | _, _ => none
  | .pointer (some _), .pointer none =>
    match op, P.underlying t with
    | .eql, some (.pointer _) => some (.bool false)
    | .neq, some (.pointer _) => some (.bool true)
    | _, _ => none
  | .slice none _ _, .slice b _ _ =>
    match op, P.underlying t with
    | .eql, some (.slice _) => some (.bool b.isNone)
    | .neq, some (.slice _) => some (.bool !b.isNone)
    | _, _ => none
  | .slice (some _) _ _, .slice none _ _ =>
    match op, P.underlying t with
    | .eql, some (.slice _) => some (.bool false)
    | .neq, some (.slice _) => some (.bool true)
    | _, _ => none
  | .map none, .map b =>
    match op, P.underlying t with
    | .eql, some (.map _ _) => some (.bool b.isNone)
    | .neq, some (.map _ _) => some (.bool !b.isNone)
    | _, _ => none
  | .map (some _), .map none =>
    match op, P.underlying t with
    | .eql, some (.map _ _) => some (.bool false)
    | .neq, some (.map _ _) => some (.bool true)
    | _, _ => none
  | _, _ => none
theorem equal_bool' {P : Program} {t : TypeId} (h : P.underlying t = some .bool) (a b : Bool) (d : Nat) (w : World) : (Op.equalIn (d + 1) t (.bool a) (.bool b)).run P w = .ok (a == b) w := by
  simp [Op.equalIn, run_underlying h]
theorem equal_bool {P : Program} {t : TypeId} (h : P.underlying t = some .bool) (a b : Bool) (w : World) : (Op.equal t (.bool a) (.bool b)).run P w = .ok (a == b) w := equal_bool' h a b 9999 w
theorem equal_ptr' {P : Program} {t e : TypeId} (h : P.underlying t = some (.pointer e)) (b : Option Addr) (d : Nat) (w : World) : (Op.equalIn (d + 1) t (.pointer none) (.pointer b)).run P w = .ok b.isNone w := by
  simp [Op.equalIn, run_underlying h]
theorem equal_ptr {P : Program} {t e : TypeId} (h : P.underlying t = some (.pointer e)) (b : Option Addr) (w : World) : (Op.equal t (.pointer none) (.pointer b)).run P w = .ok b.isNone w := equal_ptr' h b 9999 w
theorem equal_ptr2' {P : Program} {t e : TypeId} (h : P.underlying t = some (.pointer e)) (a : Addr) (d : Nat) (w : World) : (Op.equalIn (d + 1) t (.pointer (some a)) (.pointer none)).run P w = .ok false w := by
  simp [Op.equalIn, run_underlying h]
theorem equal_ptr2 {P : Program} {t e : TypeId} (h : P.underlying t = some (.pointer e)) (a : Addr) (w : World) : (Op.equal t (.pointer (some a)) (.pointer none)).run P w = .ok false w := equal_ptr2' h a 9999 w
theorem equal_slice' {P : Program} {t e : TypeId} (h : P.underlying t = some (.slice e)) (n c n' c' : Nat) (b : Option Addr) (d : Nat) (w : World) : (Op.equalIn (d + 1) t (.slice none n c) (.slice b n' c')).run P w = .ok b.isNone w := by
  simp [Op.equalIn, run_underlying h]
theorem equal_slice {P : Program} {t e : TypeId} (h : P.underlying t = some (.slice e)) (n c n' c' : Nat) (b : Option Addr) (w : World) : (Op.equal t (.slice none n c) (.slice b n' c')).run P w = .ok b.isNone w := equal_slice' h n c n' c' b 9999 w
theorem equal_slice2' {P : Program} {t e : TypeId} (h : P.underlying t = some (.slice e)) (n c n' c' : Nat) (a : Addr) (d : Nat) (w : World) : (Op.equalIn (d + 1) t (.slice (some a) n c) (.slice none n' c')).run P w = .ok false w := by
  simp [Op.equalIn, run_underlying h]
theorem equal_slice2 {P : Program} {t e : TypeId} (h : P.underlying t = some (.slice e)) (n c n' c' : Nat) (a : Addr) (w : World) : (Op.equal t (.slice (some a) n c) (.slice none n' c')).run P w = .ok false w := equal_slice2' h n c n' c' a 9999 w
theorem equal_map' {P : Program} {t e k : TypeId} (h : P.underlying t = some (.map k e)) (b : Option Nat) (d : Nat) (w : World) : (Op.equalIn (d + 1) t (.map none) (.map b)).run P w = .ok b.isNone w := by
  simp [Op.equalIn, run_underlying h]
theorem equal_map {P : Program} {t e k : TypeId} (h : P.underlying t = some (.map k e)) (b : Option Nat) (w : World) : (Op.equal t (.map none) (.map b)).run P w = .ok b.isNone w := equal_map' h b 9999 w
theorem equal_map2' {P : Program} {t e k : TypeId} (h : P.underlying t = some (.map k e)) (a : Nat) (d : Nat) (w : World) : (Op.equalIn (d + 1) t (.map (some a)) (.map none)).run P w = .ok false w := by
  simp [Op.equalIn, run_underlying h]
theorem equal_map2 {P : Program} {t e k : TypeId} (h : P.underlying t = some (.map k e)) (a : Nat) (w : World) : (Op.equal t (.map (some a)) (.map none)).run P w = .ok false w := equal_map2' h a 9999 w
theorem binV_sound {P : Program} {op : BinOp} {t : TypeId} {x y v : Value} (h : binV P op t x y = some v) (w : World) : (binOp op t x y).run P w = .ok v w := by
  cases x <;> cases y <;> (try (simp [binV] at h; done))
  case int.int k a k' b =>
    cases op <;> simp only [binV] at h
    case shl => (split at h); (simp at h); (rename_i hb; injection h with h; subst h; simp only [binOp, Op.shift, if_neg hb]; rfl)
    case shr => (split at h); (simp at h); (rename_i hb; injection h with h; subst h; simp only [binOp, Op.shift, if_neg hb]; rfl)
    case quo => (split at h; split at h) <;> simp_all [binOp, Op.intDiv]
    case rem => (split at h; split at h) <;> simp_all [binOp, Op.intDiv]
    all_goals
      split at h
      · simp_all [binOp, Op.intArith, Op.intBits, Op.intCmp]
      · simp at h
  case string.string a b => cases op <;> simp only [binV, Option.some.injEq, reduceCtorEq] at h <;> (subst h; simp [binOp, Op.stringOp])
  case bool.bool a b =>
    simp only [binV] at h
    split at h <;> simp_all [binOp, equal_bool]
  case pointer.pointer a b =>
    cases a
    · simp only [binV] at h
      split at h
      · rename_i hu; simp only [Option.some.injEq] at h; subst h; cases b <;> simp [binOp, equal_ptr hu]
      · rename_i hu; simp only [Option.some.injEq] at h; subst h; cases b <;> simp [binOp, equal_ptr hu]
      · simp at h
    · cases b
      · simp only [binV] at h
        split at h
        · rename_i hu; simp only [Option.some.injEq] at h; subst h; simp [binOp, equal_ptr2 hu]
        · rename_i hu; simp only [Option.some.injEq] at h; subst h; simp [binOp, equal_ptr2 hu]
        · simp at h
      · simp [binV] at h
  case slice.slice a n c b n' c' =>
    cases a
    · simp only [binV] at h
      split at h
      · rename_i hu; simp only [Option.some.injEq] at h; subst h; simp [binOp, equal_slice hu]
      · rename_i hu; simp only [Option.some.injEq] at h; subst h; simp [binOp, equal_slice hu]
      · simp at h
    · cases b
      · simp only [binV] at h
        split at h
        · rename_i hu; simp only [Option.some.injEq] at h; subst h; simp [binOp, equal_slice2 hu]
        · rename_i hu; simp only [Option.some.injEq] at h; subst h; simp [binOp, equal_slice2 hu]
        · simp at h
      · simp [binV] at h
  case map.map a b =>
    cases a
    · simp only [binV] at h
      split at h
      · rename_i hu; simp only [Option.some.injEq] at h; subst h; simp [binOp, equal_map hu]
      · rename_i hu; simp only [Option.some.injEq] at h; subst h; simp [binOp, equal_map hu]
      · simp at h
    · cases b
      · simp only [binV] at h
        split at h
        · rename_i hu; simp only [Option.some.injEq] at h; subst h; simp [binOp, equal_map2 hu]
        · rename_i hu; simp only [Option.some.injEq] at h; subst h; simp [binOp, equal_map2 hu]
        · simp at h
      · simp [binV] at h
def unV : UnOp → Value → Option Value
  | .neg, .int k n => some (.int k (k.wrap (0 - n)))
  | .xor, .int k n => some (.int k (k.wrap (BitVec.ofInt k.bits (if k.signed then -1 else k.max) ^^^ BitVec.ofInt k.bits n).toNat))
  | .not, .bool b => some (.bool !b)
  | _, _ => none
theorem unV_sound {P : Program} {op : UnOp} {x v : Value} (h : unV op x = some v) (w : World) : (Op.unary op x).run P w = .ok v w := by
  cases op <;> cases x <;> simp only [unV, Option.some.injEq, reduceCtorEq] at h <;> (subst h; simp [Op.unary, Op.intArith, Op.intBits])
def convV (P : Program) (s d : TypeId) (x : Value) : Option Value :=
  match P.underlying s, P.underlying d, x with
  | some _, some (.int k), .int _ n => some (.int k (k.wrap n))
  | some _, some .string, .int _ n => some (.string (Utf8.encode n))
  | some .string, some .string, .string b => some (.string b)
  | _, _, _ => none
theorem convV_sound {P : Program} {s d : TypeId} {x v : Value} (h : convV P s d x = some v) (w : World) : (convert s d x).run P w = .ok v w := by
  unfold convV at h
  split at h
  · rename_i h1 h2; injection h with h; subst h; simp [convert, run_underlying h1, run_underlying h2, Conv.intToInt]
  · rename_i h1 h2; injection h with h; subst h; simp [convert, run_underlying h1, run_underlying h2, Conv.intToString]
  · rename_i h1 h2; injection h with h; subst h; simp [convert, run_underlying h1, run_underlying h2]
  · simp at h
def aggB (P : Program) (t : TypeId) : Option Bool :=
  match P.underlying t with
  | some (.struct _) => some true
  | some (.array _ _) => some true
  | some _ => some false
  | none => none
theorem aggB_sound {P : Program} {t : TypeId} {b : Bool} (h : aggB P t = some b) (w : World) : (isAgg t).run P w = .ok b w := by
  unfold aggB at h
  split at h
  · rename_i h1; injection h with h; subst h; simp [isAgg, run_underlying h1]
  · rename_i h1; injection h with h; subst h; simp [isAgg, run_underlying h1]
  · rename_i d hs ha h1
    injection h with h; subst h
    have hs' := hs
    simp only [isAgg, Sem.run_bind, run_underlying h1, Result.andThen_ok]
    cases d <;> first | rfl | exact (ha _ _ h1).elim | exact (hs _ h1).elim
  · simp at h
def sizeV (P : Program) (t : TypeId) : Option Nat := (P.info? t).map (·.size)
theorem sizeV_sound {P : Program} {t : TypeId} {n : Nat} (h : sizeV P t = some n) (w : World) : (sizeOf t).run P w = .ok n w := by
  unfold sizeV at h
  cases hi : P.info? t with
  | none => rw [hi] at h; simp at h
  | some i => rw [hi] at h; simp at h; subst h; simp [sizeOf, typeInfo, hi]
def partV (P : Program) (t : TypeId) (cs : Array Value) (off : Nat) : Option Value :=
  match aggB P t with
  | some true => (match sizeV P t with | some n => some (.agg (cs.extract off (off + n))) | none => none)
  | some false => cs[off]?
  | none => none
theorem partV_sound {P : Program} {t : TypeId} {cs : Array Value} {off : Nat} {v : Value} (h : partV P t cs off = some v) (w : World) : (part t cs off).run P w = .ok v w := by
  unfold partV at h
  split at h
  · rename_i h1
    split at h
    · rename_i n h2; injection h with h; subst h; simp [part, aggB_sound h1, sizeV_sound h2]
    · simp at h
  · rename_i h1; simp [part, aggB_sound h1, h]
  · simp at h
def fieldV (P : Program) (t : TypeId) (x : Value) (f : Nat) : Option Value :=
  match P.underlying t, x with
  | some (.struct fs), .agg cs => (match fs[f]? with | some fd => partV P fd.type cs fd.offset | none => none)
  | _, _ => none
theorem fieldV_sound {P : Program} {t : TypeId} {x : Value} {f : Nat} {v : Value} (h : fieldV P t x f = some v) (w : World) : (Instr.field t x f).run P w = .ok v w := by
  unfold fieldV at h
  split at h
  · rename_i fs cs h1
    split at h
    · rename_i fd h2; simp [Instr.field, run_underlying h1, h2, asAgg, partV_sound h]
    · simp at h
  · simp at h
def fieldAddrV (P : Program) (t : TypeId) (x : Value) (f : Nat) : Option Value :=
  match P.underlying t, x with
  | some (.struct fs), .pointer (some a) =>
    (match fs[f]? with
     | some fd => (match sizeV P fd.type with | some (_ + 1) => some (.pointer (some (a.add fd.offset))) | _ => none)
     | none => none)
  | _, _ => none
theorem fieldAddrV_sound {P : Program} {t : TypeId} {x : Value} {f : Nat} {v : Value} (h : fieldAddrV P t x f = some v) (w : World) : (Instr.fieldAt t x f).run P w = .ok v w := by
  unfold fieldAddrV at h
  split at h
  · rename_i fs a h1
    split at h
    · rename_i fd h2
      split at h
      · rename_i h3; injection h with h; subst h
        simp [Instr.fieldAt, run_underlying h1, h2, Instr.sureAddr, fieldPlace, sizeV_sound h3]
      · simp at h
    · simp at h
  · simp at h
def lenV (P : Program) (t : Option TypeId) (x : Option Value) : Option Value :=
  match t, x with
  | some t, some x =>
    (match P.underlying t, x with
     | some .string, .string s => some (.int .i64 ((s.size : Nat) : Int))
     | some (.slice _), .slice _ n _ => some (.int .i64 ((n : Nat) : Int))
     | some (.array n _), _ => some (.int .i64 ((n : Nat) : Int))
     | _, _ => none)
  | _, _ => none
theorem lenV_sound {P : Program} {ts : Array TypeId} {avs : Array Value} {t : TypeId} {v : Value} (h : lenV P ts[0]? avs[0]? = some v) (w : World) : (Builtin.len_ ts t avs).run P w = .ok v w := by
  unfold lenV at h
  split at h
  · rename_i t' x h1 h2
    split at h
    · rename_i h3; injection h with h; subst h; simp [Builtin.len_, h1, h2, run_underlying h3, goInt]
    · rename_i h3; injection h with h; subst h; simp [Builtin.len_, h1, h2, run_underlying h3, goInt]
    · rename_i h3; injection h with h; subst h; simp [Builtin.len_, h1, h2, run_underlying h3, goInt]
    · simp at h
  · simp at h
def capV (P : Program) (t : Option TypeId) (x : Option Value) : Option Value :=
  match t, x with
  | some t, some x =>
    (match P.underlying t, x with
     | some (.slice _), .slice _ _ n => some (.int .i64 ((n : Nat) : Int))
     | _, _ => none)
  | _, _ => none
theorem capV_sound {P : Program} {ts : Array TypeId} {avs : Array Value} {t : TypeId} {v : Value} (h : capV P ts[0]? avs[0]? = some v) (w : World) : (Builtin.cap_ ts t avs).run P w = .ok v w := by
  unfold capV at h
  split at h
  · rename_i t' x h1 h2
    split at h
    · rename_i h3; injection h with h; subst h; simp [Builtin.cap_, h1, h2, run_underlying h3, goInt]
    · simp at h
  · simp at h
def maxV : List Value → Option Value
  | [.int k a, .int _ b] => some (.int k (if b > a then b else a))
  | _ => none
theorem maxV_sound {P : Program} {ts : Array TypeId} {avs : List Value} {t : TypeId} {v : Value} (h : maxV avs = some v) (w : World) : (Builtin.max_ ts t avs.toArray).run P w = .ok v w := by
  unfold maxV at h
  split at h
  · injection h with h; subst h; simp [Builtin.max_, Builtin.max2]
  · simp at h
def minV : List Value → Option Value
  | [.int k a, .int _ b] => some (.int k (if b < a then b else a))
  | _ => none
theorem minV_sound {P : Program} {ts : Array TypeId} {avs : List Value} {t : TypeId} {v : Value} (h : minV avs = some v) (w : World) : (Builtin.min_ ts t avs.toArray).run P w = .ok v w := by
  unfold minV at h
  split at h
  · injection h with h; subst h; simp [Builtin.min_, Builtin.min2]
  · simp at h
def evL (ρ : Operand → Option Value) : List Operand → Option (List Value)
  | [] => some []
  | x :: r => (match ρ x with | some v => (match evL ρ r with | some l => some (v :: l) | none => none) | none => none)
theorem evL_map {ρ : Operand → Option Value} {r : Operand → Value} (hρ : ∀ x v, ρ x = some v → r x = v) : ∀ (xs : List Operand) {vs : List Value}, evL ρ xs = some vs → xs.map r = vs
  | [], vs, h => by simp [evL] at h; subst h; rfl
  | x :: xs, vs, h => by
    simp only [evL] at h
    split at h
    · rename_i v hv
      split at h
      · rename_i l hl; injection h with h; subst h
        simp [hρ _ _ hv, evL_map hρ xs hl]
      · simp at h
    · simp at h
def evP (ρ : Operand → Option Value) : List (Nat × Operand) → Option (List (Nat × Value))
  | [] => some []
  | (i, x) :: r => (match ρ x with | some v => (match evP ρ r with | some l => some ((i, v) :: l) | none => none) | none => none)
theorem evP_map {ρ : Operand → Option Value} {r : Operand → Value} (hρ : ∀ x v, ρ x = some v → r x = v) : ∀ (xs : List (Nat × Operand)) {vs : List (Nat × Value)}, evP ρ xs = some vs → xs.map (fun p => (p.1, r p.2)) = vs
  | [], vs, h => by simp [evP] at h; subst h; rfl
  | (i, x) :: xs, vs, h => by
    simp only [evP] at h
    split at h
    · rename_i v hv
      split at h
      · rename_i l hl; injection h with h; subst h
        simp [hρ _ _ hv, evP_map hρ xs hl]
      · simp at h
    · simp at h
def placesV (P : Program) : List Field → Option (List (Nat × Nat))
  | [] => some []
  | f :: r => (match sizeV P f.type with | some n => (match placesV P r with | some l => some ((f.offset, n) :: l) | none => none) | none => none)
def zeroV (P : Program) (t : TypeId) : Option Value := (P.info? t).bind (·.zero)
theorem zeroV_sound {P : Program} {t : TypeId} {v : Value} (h : zeroV P t = some v) (w : World) : (zeroValue t).run P w = .ok v w := by
  unfold zeroV at h
  cases hi : P.info? t with
  | none => rw [hi] at h; simp at h
  | some i => rw [hi] at h; simp at h; simp [zeroValue, typeInfo, hi, h]
def fpl (f : Field) : Sem (Nat × Nat) := do pure (f.offset, ← sizeOf f.type)
theorem run_fpl {P : Program} {f : Field} {n : Nat} (h : sizeV P f.type = some n) (w : World) : (fpl f).run P w = .ok (f.offset, n) w := by
  simp [fpl, sizeV_sound h]
theorem places_run {P : Program} (w : World) : ∀ (fs : List Field) {l : List (Nat × Nat)}, placesV P fs = some l → (fs.mapM fpl).run P w = .ok l w
  | [], l, h => by simp [placesV] at h; subst h; simp
  | f :: r, l, h => by
    simp only [placesV] at h
    split at h
    · rename_i n hn
      split at h
      · rename_i l' hl; injection h with h; subst h
        have ih := places_run (P := P) w r hl
        simp only [List.mapM_cons, Sem.run_bind, run_fpl hn, Result.andThen_ok, ih]
        rfl
      · simp at h
    · simp at h
def buildV (P : Program) (t : TypeId) (parts : List (Nat × Value)) : Option Value :=
  match zeroV P t, P.underlying t with
  | some z, some (.struct fs) =>
    (match placesV P fs.toList with
     | some pl => (match Instr.fill (pl.toArray[·]?) z.cells parts with | some c => some (.agg c) | none => none)
     | none => none)
  | some z, some (.array _ e) =>
    (match sizeV P e with
     | some n => (match Instr.fill (fun i => some (i * n, n)) z.cells parts with | some c => some (.agg c) | none => none)
     | none => none)
  | _, _ => none
theorem buildV_sound {P : Program} {t : TypeId} {parts : List (Nat × Value)} {v : Value} (h : buildV P t parts = some v) (w : World) : (Instr.build t parts.toArray).run P w = .ok v w := by
  unfold buildV at h
  split at h
  · rename_i z fs hz hu
    split at h
    · rename_i pl hp
      split at h
      · rename_i c hc; injection h with h; subst h
        have e := places_run (P := P) w fs.toList hp
        have e2 : (fs.mapM fpl).run P w = .ok pl.toArray w := by
          rw [Array.mapM_eq_mapM_toList, Sem.run_map, e]
          rfl
        have e3 : (fun f : Field => (do let s ← sizeOf f.type; pure (f.offset, s) : Sem (Nat × Nat))) = fpl := rfl
        simp only [Instr.build, Sem.run_bind, zeroV_sound hz, Result.andThen_ok, run_underlying hu, e3, e2, hc]
        rfl
      · simp at h
    · simp at h
  · rename_i z n e hz hu
    split at h
    · rename_i k hk
      split at h
      · rename_i c hc; injection h with h; subst h
        simp only [Instr.build, Sem.run_bind, zeroV_sound hz, Result.andThen_ok, run_underlying hu, sizeV_sound hk, hc]
        rfl
      · simp at h
    · simp at h
  · simp at h
def callV (P : Program) (ρ : Operand → Option Value) (c : Call) : Option Value :=
  match c.callee with
  | .builtin .len => (match evL ρ c.args.toList with | some l => lenV P c.argTypes[0]? l.toArray[0]? | none => none)
  | .builtin .cap => (match evL ρ c.args.toList with | some l => capV P c.argTypes[0]? l.toArray[0]? | none => none)
  | .builtin .max => (match evL ρ c.args.toList with | some l => maxV l | none => none)
  | .builtin .min => (match evL ρ c.args.toList with | some l => minV l | none => none)
  | _ => none
def nilV : Value → Option Value
  | .pointer (some a) => some (.pointer (some a))
  | .func (.func f) x y => some (.func (.func f) x y)
  | .iface t v => some (.iface t v)
  | _ => none
def ifaceV (P : Program) (t : TypeId) (x : Value) : Option Value :=
  match P.underlying t with
  | some (.interface _) => none
  | some _ => some (.iface t x)
  | none => none
def pev (P : Program) (ρ : Operand → Option Value) : Go.Op → Option Value
  | .move x | .assign x => ρ x
  | .binOp op t x y _ => (match ρ x, ρ y with | some a, some b => binV P op t a b | _, _ => none)
  | .unOp op _ x => (match ρ x with | some a => unV op a | none => none)
  | .convert s d x => (match ρ x with | some a => convV P s d a | none => none)
  | .extract x i => (match ρ x with | some (.tuple vs) => vs[i]? | _ => none)
  | .field t x f => (match ρ x with | some a => fieldV P t a f | none => none)
  | .fieldAddr t x f => (match ρ x with | some a => fieldAddrV P t a f | none => none)
  | .nilCheck x => (match ρ x with | some a => nilV a | none => none)
  | .makeFunc fn first captured => (match evL ρ first.toList, evL ρ captured.toList with | some a, some b => some (.func fn a.toArray b.toArray) | _, _ => none)
  | .makeInterface t x => (match ρ x with | some a => ifaceV P t a | none => none)
  | .build t parts => (match evP ρ parts.toList with | some l => buildV P t l | none => none)
  | .call c => callV P ρ c
  | _ => none
theorem arr_map {ρ : Operand → Option Value} {r : Operand → Value} (hρ : ∀ x v, ρ x = some v → r x = v) {xs : Array Operand} {l : List Value} (h : evL ρ xs.toList = some l) : xs.map r = l.toArray := by
  rw [← evL_map hρ _ h]; apply Array.ext'; rw [Array.toList_map]
theorem pev_sound {P : Program} {ρ : Operand → Option Value} {r : Operand → Value} (hρ : ∀ x v, ρ x = some v → r x = v) {o : Oper} {v : Value}
    (h : pev P ρ o.op = some v) (w : World) : (execOp r o).run P w = .ok (.value v) w := by
  unfold pev at h
  unfold execOp
  split at h <;> rename_i ho
  · simp only [ho]; rw [hρ _ _ h]; rfl
  · simp only [ho]; rw [hρ _ _ h]; rfl
  · simp only [ho]
    split at h
    · rename_i a b ha hb
      rw [hρ _ _ ha, hρ _ _ hb]
      have hg : ∀ {op t v}, binV P op t a b = some v → ∀ (x y : Operand), (eqGuard op t x y a b).run P w = .ok () w := by
        intro op t v hv x y
        unfold eqGuard
        cases a <;> cases b <;> (first | (simp [binV] at hv; done) | (split <;> rfl))
      simp [hg h, binV_sound h]
    · simp at h
  · simp only [ho]
    split at h
    · rename_i a ha; rw [hρ _ _ ha]; simp [unV_sound h]
    · simp at h
  · simp only [ho]
    split at h
    · rename_i a ha; rw [hρ _ _ ha]; simp [convV_sound h]
    · simp at h
  · simp only [ho]
    split at h
    · rename_i vs ha; rw [hρ _ _ ha]; simp [Instr.extract, h]
    · simp at h
  · simp only [ho]
    split at h
    · rename_i a ha; rw [hρ _ _ ha]; simp [fieldV_sound h]
    · simp at h
  · simp only [ho]
    split at h
    · rename_i a ha; rw [hρ _ _ ha]; simp [fieldAddrV_sound h]
    · simp at h
  · simp only [ho]
    split at h
    · rename_i a ha; rw [hρ _ _ ha]
      unfold nilV at h
      split at h <;> first | (injection h with h; subst h; rfl) | (simp at h)
    · simp at h
  · simp only [ho]
    split at h
    · rename_i a b ha hb; injection h with h; subst h
      rw [arr_map hρ ha, arr_map hρ hb]; rfl
    · simp at h
  · simp only [ho]
    split at h
    · rename_i a ha; rw [hρ _ _ ha]
      unfold ifaceV at h
      split at h
      · simp at h
      · rename_i d hn hu; injection h with h; subst h
        simp only [Instr.makeInterface, Sem.run_bind, run_underlying hu, Result.andThen_ok]
        cases d <;> first | rfl | exact (hn _ hu).elim | exact (hn _ rfl).elim
      · simp at h
    · simp at h
  · simp only [ho]
    split at h
    · rename_i l hl
      have e : (Array.map (fun x => (x.fst, r x.snd)) ‹Array (Nat × Operand)›) = l.toArray := by
        rw [← evP_map hρ _ hl]; apply Array.ext'; rw [Array.toList_map]
      simp [e, buildV_sound h]
    · simp at h
  · simp only [ho]
    unfold callV at h
    split at h <;> rename_i hc
    · split at h
      · rename_i l hl
        simp [resolve, hc, invoke, Go.builtin, arr_map hρ hl, lenV_sound (avs := l.toArray) h]
      · simp at h
    · split at h
      · rename_i l hl
        simp [resolve, hc, invoke, Go.builtin, arr_map hρ hl, capV_sound (avs := l.toArray) h]
      · simp at h
    · split at h
      · rename_i l hl
        simp [resolve, hc, invoke, Go.builtin, arr_map hρ hl, maxV_sound h]
      · simp at h
    · split at h
      · rename_i l hl
        simp [resolve, hc, invoke, Go.builtin, arr_map hρ hl, minV_sound h]
      · simp at h
    · simp at h
  · simp at h
end Go.Sw
namespace Go.Sw
abbrev Post := Exit → Act → World → Prop
def GL (d : Bool) (P : Program) (ops : Array Oper) (i : Nat) (Q : Post) (n : Nat) (E : Env) (W0 : World) (H : List Grp) : Prop :=
  match d with
  | true => ∀ a, Ag n E a → wpQuiet P ops (Sat W0 H) (fun a' => ∀ w', Sat W0 H w' → Q .normal a' w') (ops.toList.drop i) a
  | false => ∀ a w, Ag n E a → Sat W0 H w → wpList P ops Q (ops.toList.drop i) a w
def G (P : Program) (c : Code) (Q : Post) (n : Nat) (E : Env) (W0 : World) (H : List Grp) : Prop :=
  ∀ a w, Ag n E a → Sat W0 H w → c.wp P Q a w
def N (Q : Post) (x : Exit) (n : Nat) (E : Env) (W0 : World) (H : List Grp) : Prop :=
  ∀ a w, Ag n E a → Sat W0 H w → Q x a w
theorem Sat.drew {W0 : World} {H : List Grp} {w : World} (h : Sat W0 H w) : Sat W0 H { w with drawn := w.drawn + 1 } :=
  ⟨h.below.trans ⟨rfl, rfl, rfl, Nat.le_refl _, fun _ _ => rfl⟩, h.nodup, h.has, h.high⟩
def chB (E : List Sl) : List (Nat × Bool) → Prop
  | [] => True
  | (t, w) :: r => (match Env.find E t with | some s => (match s.v with | .bool b => b = w | _ => False) | none => False) ∧ chB E r
theorem chB_of {E : Env} {β : Nat → Bool → Bool} (hβ : ∀ s, s ∈ E → ∀ w, β s.t w = (boolOf s.v == some w)) : ∀ (ch : List (Nat × Bool)),
    (∀ p, p ∈ ch → ∃ s, Env.find E p.1 = some s) → chT β ch = true → chB E ch
  | [], _, _ => trivial
  | (t, w) :: r, hf, h => by
    simp only [chT, List.all_cons, Bool.and_eq_true] at h
    refine ⟨?_, chB_of hβ r (fun p hp => hf p (List.mem_cons_of_mem _ hp)) h.2⟩
    obtain ⟨s, hs⟩ := hf (t, w) List.mem_cons_self
    simp only at hs
    rw [hs]
    obtain ⟨hm, ht⟩ := Env.find_mem hs
    subst ht
    have h1 := hβ s hm w
    rw [h.1] at h1
    simp only
    cases hv : s.v <;> rw [hv] at h1 <;> simp [boolOf] at h1 ⊢
    exact h1
def chKnown (E : List Sl) (ch : List (Nat × Bool)) : Bool := ch.all fun p => (Env.find E p.1).isSome
theorem GL_quiet {d : Bool} {P : Program} {ops : Array Oper} {i : Nat} {Q : Post} {n : Nat} {E : Env} {W0 : World} {H : List Grp} {o : Oper} {ch : List (Nat × Bool)} {v : Value}
    (ho : ops[i]? = some o) (hch : chainOf ops E o.guard = some ch) (hd : dstOk n ch o.dst = true) (hk : chKnown E ch = true)
    (hq : ∀ (r : Operand → Value), (∀ x v, evO E ch x = some v → r x = v) → chB E ch → ∀ w, Sat W0 H w → Oper.quietUpon P (Sat W0 H) w v ((execOp r o).run P w))
    (k : GL d P ops (i + 1) Q n (Env.put E o.dst ch v) W0 H) : GL d P ops i Q n E W0 H := by
  have hi : i < ops.toList.length := by
    rcases Nat.lt_or_ge i ops.size with h | h
    · simpa using h
    · simp [Array.getElem?_eq_none h] at ho
  have hdrop : ops.toList.drop i = o :: ops.toList.drop (i + 1) := by
    rw [List.drop_eq_getElem_cons hi]
    congr 1
    have hi' : i < ops.size := by simpa using hi
    rw [Array.getElem?_eq_getElem hi'] at ho
    simpa using ho
  have hkn : ∀ p, p ∈ ch → ∃ s, Env.find E p.1 = some s := fun p hp => by
    have := List.all_eq_true.1 hk p hp
    exact Option.isSome_iff_exists.1 this
  cases d with
  | true =>
    intro a ha
    rw [hdrop]
    obtain ⟨β, hβ, hat⟩ := ha.at_
    have hw := wanted_chain hβ hat hch
    unfold wpQuiet
    have hput := Ag.put ha hβ hat hd v
    by_cases hc : chT β ch = true
    · rw [hw, if_pos hc]
      rw [if_pos hc] at hput
      refine ⟨v, fun w hs => ?_, k _ hput⟩
      exact hq _ (fun x v => evO_eval hat hc) (chB_of hβ ch hkn hc) w hs
    · rw [hw, if_neg hc]
      rw [if_neg hc] at hput
      exact k _ hput
  | false =>
    intro a w ha hs
    rw [hdrop]
    obtain ⟨β, hβ, hat⟩ := ha.at_
    have hw := wanted_chain hβ hat hch
    unfold wpList
    have hput := Ag.put ha hβ hat hd v
    by_cases hc : chT β ch = true
    · rw [hw, if_pos hc]
      rw [if_pos hc] at hput
      left
      refine Oper.wp_of_quiet (C := Sat W0 H) (K := fun a' => a' = a.put o.dst v) hs (fun a' w' hw' he => by rw [he]; exact k _ _ hput hw') ⟨v, fun w hs => ?_, rfl⟩
      exact hq _ (fun x v => evO_eval hat hc) (chB_of hβ ch hkn hc) w hs
    · rw [hw, if_neg hc]
      rw [if_neg hc] at hput
      exact k _ _ hput hs
def gOff (ops : Array Oper) (E : List Sl) : Option (Nat × Bool) → Bool
  | none => false
  | some (j, want) =>
    match (ops[j]?).bind Oper.dst with
    | some dj => (match Env.find E dj with
      | some s => (match s.v, want with | .bool false, true => true | .bool true, false => true | .tuple _, _ => true | _, _ => false)
      | none => false)
    | none => false
def selV (x : Bool) : Value → Value → Option Value
  | .bool y, .bool z => some (.bool (bif x then y else z))
  | .int k m, .int k' m' => if k = k' then some (.int k (bif x then m else m')) else none
  | .string s, .string s' => some (.string (bif x then s else s'))
  | _, _ => none
theorem selV_sound {x : Bool} {a b v : Value} (h : selV x a b = some v) : v = if x then a else b := by
  unfold selV at h
  split at h
  · injection h with h; subst h; cases x <;> rfl
  · split at h
    · rename_i hk; injection h with h; subst h; subst hk; cases x <;> rfl
    · simp at h
  · injection h with h; subst h; cases x <;> rfl
  · simp at h
def pickV (E : List Sl) (ch : List (Nat × Bool)) (mode : Nat) (c a b : Operand) : Option Value :=
  match c with
  | .tmp t =>
    match evT E ch t with
    | some (.bool x) =>
      match mode with
      | 2 => (match x with | true => evO E ((t, true) :: ch) a | false => none)
      | 3 => (match x with | false => evO E ((t, false) :: ch) b | true => none)
      | 4 => (match evO E ((t, true) :: ch) a, evO E ((t, false) :: ch) b with | some va, some vb => selV x va vb | _, _ => none)
      | 5 => (match a, evO E ((t, false) :: ch) b with | .const (.bool true), some (.bool y) => some (.bool (x || y)) | _, _ => none)
      | 6 => (match evO E ((t, true) :: ch) a, b with | some (.bool y), .const (.bool false) => some (.bool (x && y)) | _, _ => none)
      | _ => none
    | _ => none
  | _ => none
def pstep (P : Program) (ops : Array Oper) (n : Nat) (mode : Nat) (o : Oper) (E : List Sl) : Option (List Sl) :=
  match mode with
  | 0 => (match chainOf ops E o.guard with
    | some ch => (match dstOk n ch o.dst, pev P (evO E ch) o.op with | true, some v => some (Env.put E o.dst ch v) | _, _ => none)
    | none => none)
  | 1 => (match gOff ops E o.guard, dstOk n [] o.dst with | true, true => some (Env.put E o.dst [] undef) | _, _ => none)
  | _ => (match chainOf ops E o.guard, o.op with
    | some ch, .pick c a b => (match dstOk n ch o.dst, pickV E ch mode c a b with | true, some v => some (Env.put E o.dst ch v) | _, _ => none)
    | _, _ => none)
theorem pstep_sound {P : Program} {ops : Array Oper} {n mode : Nat} {o : Oper} {E E' : Env} (h : pstep P ops n mode o E = some E') {a : Act} (ha : Ag n E a) :
    (Region.wanted o (yielded ops a.tmps) = false ∧ Ag n E' (a.put o.dst undef)) ∨
    (Region.wanted o (yielded ops a.tmps) = true ∧ ∃ v, (∀ w, (execOp a.eval o).run P w = .ok (.value v) w) ∧ Ag n E' (a.put o.dst v)) := by
  obtain ⟨β, hβ, hat⟩ := ha.at_
  unfold pstep at h
  split at h
  · split at h
    · rename_i ch hch
      split at h
      · rename_i v hd hv
        injection h with h; subst h
        have hw := wanted_chain hβ hat hch
        have hput := Ag.put ha hβ hat hd v
        by_cases hc : chT β ch = true
        · rw [if_pos hc] at hput
          exact .inr ⟨by rw [hw, hc], v, fun w => pev_sound (fun x v => evO_eval hat hc) hv w, hput⟩
        · rw [if_neg hc] at hput
          exact .inl ⟨by rw [hw]; simpa using hc, hput⟩
      · simp at h
    · simp at h
  · split at h
    · rename_i hg hd
      injection h with h; subst h
      have hput := Ag.put ha hβ hat hd undef
      simp only [chT, List.all_nil, if_true] at hput
      refine .inl ⟨?_, hput⟩
      unfold gOff at hg
      unfold Region.wanted
      split at hg
      · simp at hg
      · rename_i j want hgu
        split at hg
        · rename_i dj hdj
          split at hg
          · rename_i s hs
            obtain ⟨hm, ht⟩ := Env.find_mem hs
            subst ht
            have h1 := hat s hm
            simp only [hgu, yielded, hdj, Option.bind_some, h1]
            cases hc : chT β s.ch
            · simp [undef]
            · simp only [if_true]
              split at hg <;> rename_i hv <;> simp_all
          · simp at hg
        · simp at hg
    · simp at h
  · split at h
    · rename_i ch c x y hch ho
      split at h
      · rename_i v hd hv
        injection h with h; subst h
        have hw := wanted_chain hβ hat hch
        have hput := Ag.put ha hβ hat hd v
        by_cases hc : chT β ch = true
        · rw [if_pos hc] at hput
          refine .inr ⟨by rw [hw, hc], v, fun w => ?_, hput⟩
          unfold pickV at hv
          split at hv
          · rename_i t
            split at hv
            · rename_i b hb
              have hcv : a.eval (.tmp t) = .bool b := evO_eval hat hc (x := .tmp t) hb
              -- what the slot's value says of longer chains
              have hlong : ∀ w, b = w → chT β ((t, w) :: ch) = true := by
                intro w hw'
                unfold evT at hb
                split at hb
                · rename_i s hs
                  obtain ⟨hm, ht⟩ := Env.find_mem hs
                  split at hb
                  · injection hb with hb
                    have := hβ s hm w
                    rw [hb, ht] at this
                    simp only [chT, List.all_cons, Bool.and_eq_true]
                    refine ⟨?_, hc⟩
                    rw [this, hw']; simp [boolOf]
                  · simp at hb
                · simp at hb
              have hrun : (execOp a.eval o).run P w = .ok (.value (if b then a.eval x else a.eval y)) w := by
                unfold execOp
                simp only [ho, hcv]
                simp [asBool]
              rw [hrun]
              congr 2
              split at hv
              · split at hv
                · simp only [if_true]; exact evO_eval hat (hlong true rfl) hv
                · simp at hv
              · split at hv
                · simp only [Bool.false_eq_true, if_false]; exact evO_eval hat (hlong false rfl) hv
                · simp at hv
              · split at hv
                · rename_i va vb hva hvb
                  rw [selV_sound hv]
                  cases b
                  · simp only [Bool.false_eq_true, if_false]; exact evO_eval hat (hlong false rfl) hvb
                  · simp only [if_true]; exact evO_eval hat (hlong true rfl) hva
                · simp at hv
              · split at hv
                · rename_i z hz
                  injection hv with hv; subst hv
                  cases b
                  · simp only [Bool.false_eq_true, if_false, Bool.false_or]; exact evO_eval hat (hlong false rfl) hz
                  · simp only [if_true, Bool.true_or]; rfl
                · simp at hv
              · split at hv
                · rename_i z hz
                  injection hv with hv; subst hv
                  cases b
                  · simp only [Bool.false_eq_true, if_false, Bool.false_and]; rfl
                  · simp only [if_true, Bool.true_and]; exact evO_eval hat (hlong true rfl) hz
                · simp at hv
              · simp at hv
            · simp at hv
          · simp at hv
        · rw [if_neg hc] at hput
          exact .inl ⟨by rw [hw]; simpa using hc, hput⟩
      · simp at h
    · simp at h
def psteps (P : Program) (ops : Array Oper) (n : Nat) : List Nat → Nat → List Sl → Option (List Sl)
  | [], _, E => some E
  | m :: ms, i, E => (match ops[i]? with
    | some o => (match pstep P ops n m o E with | some E' => psteps P ops n ms (i + 1) E' | none => none)
    | none => none)
theorem GL_psteps {d : Bool} {P : Program} {ops : Array Oper} {Q : Post} {n : Nat} {W0 : World} {H : List Grp} : ∀ (ms : List Nat) {i : Nat} {E E' : Env},
    psteps P ops n ms i E = some E' → GL d P ops (i + ms.length) Q n E' W0 H → GL d P ops i Q n E W0 H
  | [], i, E, E', h, k => by simp only [psteps, Option.some.injEq] at h; subst h; exact k
  | m :: ms, i, E, E', h, k => by
    simp only [psteps] at h
    split at h
    · rename_i o ho
      split at h
      · rename_i E1 h1
        have k' : GL d P ops (i + 1) Q n E1 W0 H := GL_psteps ms h (by rw [show i + 1 + ms.length = i + (m :: ms).length from by simp; omega]; exact k)
        have hi : i < ops.toList.length := by
          rcases Nat.lt_or_ge i ops.size with h | h
          · simpa using h
          · simp [Array.getElem?_eq_none h] at ho
        have hdrop : ops.toList.drop i = o :: ops.toList.drop (i + 1) := by
          rw [List.drop_eq_getElem_cons hi]
          congr 1
          have hi' : i < ops.size := by simpa using hi
          rw [Array.getElem?_eq_getElem hi'] at ho
          simpa using ho
        cases d with
        | true =>
          intro a ha
          rw [hdrop]
          unfold wpQuiet
          rcases pstep_sound h1 ha with ⟨hw, h2⟩ | ⟨hw, v, hv, h2⟩
          · rw [hw]; exact k' _ h2
          · rw [hw]; exact ⟨v, fun w _ => by unfold Oper.quietAt; rw [hv]; exact ⟨rfl, rfl⟩, k' _ h2⟩
        | false =>
          intro a w ha hs
          rw [hdrop]
          unfold wpList
          rcases pstep_sound h1 ha with ⟨hw, h2⟩ | ⟨hw, v, hv, h2⟩
          · rw [hw]; exact k' _ _ h2 hs
          · rw [hw]; exact .inl (by unfold Oper.wp; rw [hv]; exact k' _ _ h2 hs)
      · simp at h
    · simp at h
def Env.keep : List Nat → List Sl → List Sl
  | [], _ => []
  | t :: ts, E => (match Env.find E t with
    | some ⟨u, [], v⟩ => ⟨u, [], v⟩ :: Env.keep ts E
    | _ => Env.keep ts E)
theorem Env.keep_mem : ∀ (ts : List Nat) {E : Env} {s : Sl}, s ∈ Env.keep ts E → s ∈ E
  | [], E, s, h => by simp [Env.keep] at h
  | t :: ts, E, s, h => by
    simp only [Env.keep] at h
    split at h
    · rename_i u v hf
      rcases List.mem_cons.1 h with rfl | h
      · exact (Env.find_mem hf).1
      · exact Env.keep_mem ts h
    · exact Env.keep_mem ts h
theorem GL_end {d : Bool} {P : Program} {ops : Array Oper} {i : Nat} {Q : Post} {n : Nat} {E : Env} {W0 : World} {H : List Grp}
    (hi : ops.size = i) (k : N Q .normal n E W0 H) : GL d P ops i Q n E W0 H := by
  have hdrop : ops.toList.drop i = [] := by rw [List.drop_eq_nil_of_le]; simp [hi]
  cases d with
  | true => intro a ha; rw [hdrop]; exact fun w' hs => k _ _ ha hs
  | false => intro a w ha hs; rw [hdrop]; exact k _ _ ha hs
theorem N_sub {Q : Post} {x : Exit} {n : Nat} {E E' : Env} {W0 : World} {H : List Grp} (ts : List Nat) (h : Env.keep ts E = E') (k : N Q x n E' W0 H) : N Q x n E W0 H :=
  fun a w ha hs => k a w (ha.sub (by subst h; intro s hs; exact Env.keep_mem _ hs)) hs
theorem G_region {P : Program} {id : Nat} {ops : Array Oper} {Q : Post} {n : Nat} {E : Env} {W0 : World} {H : List Grp}
    (k : GL false P ops 0 Q n E W0 H) : G P (.region id ops false) Q n E W0 H :=
  fun a w ha hs => wp_region_list (by have := k a w ha hs; simpa using this)
theorem G_regionD {P : Program} {id : Nat} {ops : Array Oper} {Q : Post} {n : Nat} {E : Env} {W0 : World} {H : List Grp}
    (hm : P.follows .mixedOrders = true) (hB : Region.lexB .any ops = true) (k : GL true P ops 0 Q n E W0 H) : G P (.region id ops true) Q n E W0 H :=
  fun a w ha hs => wp_region_quiet (C := Sat W0 H) hm hB hs.drew (by have := k a ha; simpa using this)
theorem G_pure {P : Program} {id : Nat} {ops : Array Oper} {Q : Post} {n : Nat} {E E' : Env} {W0 : World} {H : List Grp} (ms ts : List Nat)
    (hl : ops.size = ms.length) (h : (psteps P ops n ms 0 E).map (Env.keep ts) = some E') (k : N Q .normal n E' W0 H) : G P (.region id ops false) Q n E W0 H := by
  cases hp : psteps P ops n ms 0 E with
  | none => rw [hp] at h; simp at h
  | some E1 =>
    rw [hp] at h; simp only [Option.map_some, Option.some.injEq] at h
    exact G_region (GL_psteps ms hp (GL_end (by omega) (N_sub ts h k)))
def Env.only (ts : List Nat) (E : List Sl) : List Sl := E.filter fun s => ts.contains s.t
theorem GL_sub {d : Bool} {P : Program} {ops : Array Oper} {i : Nat} {Q : Post} {n : Nat} {E E' : Env} {W0 : World} {H : List Grp} (hs : ∀ s, s ∈ E' → s ∈ E) (k : GL d P ops i Q n E' W0 H) : GL d P ops i Q n E W0 H := by
  cases d
  · exact fun a w ha => k a w (ha.sub hs)
  · exact fun a ha => k a (ha.sub hs)
theorem GL_pure {d : Bool} {P : Program} {ops : Array Oper} {i j : Nat} {Q : Post} {n : Nat} {E E' : Env} {W0 : World} {H : List Grp} (ms : List Nat)
    (h : (psteps P ops n ms i E).map (Env.only (E'.map Sl.t)) = some E') (hj : i + ms.length = j) (k : GL d P ops j Q n E' W0 H) : GL d P ops i Q n E W0 H := by
  cases hp : psteps P ops n ms i E with
  | none => rw [hp] at h; simp at h
  | some E1 =>
    rw [hp] at h; simp only [Option.map_some, Option.some.injEq] at h
    refine GL_psteps ms hp (GL_sub (E' := E') (fun s hs => ?_) (by rw [hj]; exact k))
    rw [← h] at hs
    exact (List.mem_filter.1 hs).1
theorem GL_fin {d : Bool} {P : Program} {ops : Array Oper} {i : Nat} {Q : Post} {n : Nat} {E E' : Env} {W0 : World} {H : List Grp} (ms ts : List Nat)
    (hl : ops.size = i + ms.length) (h : (psteps P ops n ms i E).map (Env.keep ts) = some E') (k : N Q .normal n E' W0 H) : GL d P ops i Q n E W0 H := by
  cases hp : psteps P ops n ms i E with
  | none => rw [hp] at h; simp at h
  | some E1 =>
    rw [hp] at h; simp only [Option.map_some, Option.some.injEq] at h
    exact GL_psteps ms hp (GL_end hl (N_sub ts h k))
theorem G_seq {P : Program} {x y : Code} {Q : Post} {n : Nat} {E : Env} {W0 : World} {H : List Grp}
    (k : G P x (Exit.then (y.wp P Q) Q) n E W0 H) : G P (.seq x y) Q n E W0 H := fun a w ha hs => wp_seq (k a w ha hs)
theorem N_then {P : Program} {y : Code} {Q : Post} {n : Nat} {E : Env} {W0 : World} {H : List Grp} (k : G P y Q n E W0 H) : N (Exit.then (y.wp P Q) Q) .normal n E W0 H := k
theorem N_then_exit {K : Act → World → Prop} {Q : Post} {id n : Nat} {E : Env} {W0 : World} {H : List Grp} (k : N Q (.exit id) n E W0 H) : N (Exit.then K Q) (.exit id) n E W0 H := k
theorem N_then_ret {K : Act → World → Prop} {Q : Post} {n : Nat} {E : Env} {W0 : World} {H : List Grp} (k : N Q .ret n E W0 H) : N (Exit.then K Q) .ret n E W0 H := k
theorem N_block {Q : Post} {id n : Nat} {E : Env} {W0 : World} {H : List Grp} (k : N Q .normal n E W0 H) : N (Exit.inBlock id Q) .normal n E W0 H := k
theorem N_block_ret {Q : Post} {id n : Nat} {E : Env} {W0 : World} {H : List Grp} (k : N Q .ret n E W0 H) : N (Exit.inBlock id Q) .ret n E W0 H := k
theorem N_block_exit {Q : Post} {id n : Nat} {E : Env} {W0 : World} {H : List Grp} (k : N Q .normal n E W0 H) : N (Exit.inBlock id Q) (.exit id) n E W0 H :=
  fun a w ha hs => by simp only [Exit.inBlock, if_true]; exact k a w ha hs
theorem N_block_other {Q : Post} {id id' n : Nat} {E : Env} {W0 : World} {H : List Grp} (h : (id' == id) = false) (k : N Q (.exit id') n E W0 H) : N (Exit.inBlock id Q) (.exit id') n E W0 H :=
  fun a w ha hs => by simp only [Exit.inBlock]; rw [if_neg (by simpa using h)]; exact k a w ha hs
theorem G_block {P : Program} {id : Nat} {c : Code} {Q : Post} {n : Nat} {E : Env} {W0 : World} {H : List Grp} (k : G P c (Exit.inBlock id Q) n E W0 H) : G P (.block id c) Q n E W0 H :=
  fun a w ha hs => wp_block (k a w ha hs)
theorem G_skip {P : Program} {Q : Post} {n : Nat} {E : Env} {W0 : World} {H : List Grp} (k : N Q .normal n E W0 H) : G P .skip Q n E W0 H := fun a w ha hs => wp_skip (k a w ha hs)
theorem G_exit {P : Program} {id : Nat} {Q : Post} {n : Nat} {E : Env} {W0 : World} {H : List Grp} (k : N Q (.exit id) n E W0 H) : G P (.exit id) Q n E W0 H := fun a w ha hs => wp_exit (k a w ha hs)
theorem G_ret {P : Program} {Q : Post} {n : Nat} {E : Env} {W0 : World} {H : List Grp} (k : N Q .ret n E W0 H) : G P .ret Q n E W0 H := fun a w ha hs => wp_ret (k a w ha hs)
theorem Ag.eval {n : Nat} {E : Env} {a : Act} (ha : Ag n E a) {x : Operand} {v : Value} (h : evO E [] x = some v) : a.eval x = v := by
  obtain ⟨β, _, hat⟩ := ha.at_
  exact evO_eval (ch := []) hat (by simp [chT]) h
theorem G_cond {P : Program} {c : Operand} {x y : Code} {Q : Post} {n : Nat} {E : Env} {W0 : World} {H : List Grp} {b : Bool}
    (hc : evO E [] c = some (.bool b)) (ht : b = true → G P x Q n E W0 H) (hf : b = false → G P y Q n E W0 H) : G P (.cond c x y) Q n E W0 H :=
  fun a w ha hs => wp_cond_split (ha.eval hc) (fun h => ht h a w ha hs) (fun h => hf h a w ha hs)
theorem G_condt {P : Program} {c : Operand} {x y : Code} {Q : Post} {n : Nat} {E : Env} {W0 : World} {H : List Grp}
    (hc : evO E [] c = some (.bool true)) (k : G P x Q n E W0 H) : G P (.cond c x y) Q n E W0 H := fun a w ha hs => wp_cond_true (ha.eval hc) (k a w ha hs)
theorem G_condf {P : Program} {c : Operand} {x y : Code} {Q : Post} {n : Nat} {E : Env} {W0 : World} {H : List Grp}
    (hc : evO E [] c = some (.bool false)) (k : G P y Q n E W0 H) : G P (.cond c x y) Q n E W0 H := fun a w ha hs => wp_cond_false (ha.eval hc) (k a w ha hs)
theorem G_loop {P : Program} {c : Code} {Q : Post} {n : Nat} {E : Env} {W0 : World} {H : List Grp} {σ : Type} (EI : σ → Env) (HI : σ → List Grp) (Φ : σ → Prop) (μ : σ → Nat)
    (s0 : σ) (ts : List Nat) (hE : Env.keep ts E = EI s0) (hH : H = HI s0) (h0 : Φ s0)
    (round : ∀ s, Φ s → G P c (Exit.then (fun a' w' => ∃ s', Φ s' ∧ μ s' < μ s ∧ Ag n (EI s') a' ∧ Sat W0 (HI s') w') Q) n (EI s) W0 (HI s)) : G P (.loop c) Q n E W0 H := by
  intro a w ha hs b k cs
  have ha' : Ag n (EI s0) a := ha.sub (by rw [← hE]; intro s hs; exact Env.keep_mem _ hs)
  have key : ∀ m s, μ s = m → Φ s → ∀ a w, Ag n (EI s) a → Sat W0 (HI s) w →
      ∃ e a' w', Q e a' w' ∧ Arrives P (lone (b.at a (.code c :: .inLoop c :: k)) cs w) b k cs e a' w' := by
    intro m
    induction m using Nat.strongRecOn with
    | _ m ih =>
      intro s hm hΦ a w ha hs
      obtain ⟨e, a₁, w₁, hq, harr⟩ := round s hΦ a w ha hs b (.inLoop c :: k) cs
      cases e with
      | normal =>
        obtain ⟨s', hΦ', hlt, ha', hs'⟩ := hq
        obtain ⟨e₂, a₂, w₂, hq₂, harr₂⟩ := ih (μ s') (hm ▸ hlt) s' rfl hΦ' a₁ w₁ ha' hs'
        exact ⟨e₂, a₂, w₂, hq₂, .of_steps (Steps.trans harr (.one step_inLoop)) harr₂⟩
      | exit id => exact ⟨_, a₁, w₁, hq, .pass (x := .inLoop c) rfl (fun _ _ => .inl (by simp)) harr⟩
      | goto l => exact ⟨_, a₁, w₁, hq, .pass (x := .inLoop c) rfl (fun _ _ => .inl (by simp)) harr⟩
      | ret => exact ⟨_, a₁, w₁, hq, .pass (x := .inLoop c) rfl (fun _ _ => .inl (by simp)) harr⟩
      | panic ch => exact ⟨_, a₁, w₁, hq, .pass (x := .inLoop c) rfl (fun _ _ => .inl (by simp)) harr⟩
      | outgrown => exact ⟨_, a₁, w₁, hq, .pass (x := .inLoop c) rfl (fun _ _ => .inl (by simp)) harr⟩
  obtain ⟨e, a', w', hq, harr⟩ := key _ s0 rfl h0 a w ha' (hH ▸ hs)
  exact ⟨e, a', w', hq, .of_steps (.one step_loop) harr⟩
theorem N_round {Q : Post} {n : Nat} {E : Env} {W0 : World} {H : List Grp} {σ : Type} {EI : σ → Env} {HI : σ → List Grp} {Φ : σ → Prop} {μ : σ → Nat} {s : σ}
    (s' : σ) (ts : List Nat) (hE : Env.keep ts E = EI s') (hH : H = HI s') (hΦ : Φ s') (hμ : μ s' < μ s) :
    N (Exit.then (fun a' w' => ∃ s', Φ s' ∧ μ s' < μ s ∧ Ag n (EI s') a' ∧ Sat W0 (HI s') w') Q) .normal n E W0 H :=
  fun a w ha hs => ⟨s', hΦ, hμ, ha.sub (by rw [← hE]; intro s hs; exact Env.keep_mem _ hs), hH ▸ hs⟩
def Tri (P : Program) (f : FuncId) (args : Array Value) (W0 : World) (H : List Grp) (R : Value → List Grp → Prop) : Prop :=
  ∀ w, Sat W0 H w → Calls P f args w fun e w' => ∃ v H', e = .returned v ∧ R v H' ∧ Sat W0 H' w'
theorem Tri.mono {P : Program} {f : FuncId} {args : Array Value} {W0 : World} {H : List Grp} {R R' : Value → List Grp → Prop} (h : Tri P f args W0 H R)
    (hr : ∀ v H', R v H' → R' v H') : Tri P f args W0 H R' :=
  fun w hs => (h w hs).mono fun _ _ ⟨v, H', he, hR, hs'⟩ => ⟨v, H', he, hr _ _ hR, hs'⟩
def Body (P : Program) (fn : Func) (W0 : World) (R : Value → List Grp → Prop) : Post :=
  bodyPost P fn fun e w' => ∃ v H', e = .returned v ∧ R v H' ∧ Sat W0 H' w'
def argEnv : Nat → List Value → List Sl
  | _, [] => []
  | i, v :: r => ⟨i, [], v⟩ :: argEnv (i + 1) r
theorem argEnv_mem : ∀ (vs : List Value) (i : Nat) (s : Sl), s ∈ argEnv i vs → s.ch = [] ∧ i ≤ s.t ∧ vs[s.t - i]? = some s.v
  | [], _, _, h => by simp [argEnv] at h
  | v :: r, i, s, h => by
    simp only [argEnv, List.mem_cons] at h
    rcases h with rfl | h
    · simp
    · obtain ⟨h1, h2, h3⟩ := argEnv_mem r (i + 1) s h
      refine ⟨h1, by omega, ?_⟩
      have : s.t - i = (s.t - (i + 1)) + 1 := by omega
      rw [this, List.getElem?_cons_succ]
      exact h3
theorem Tri_of {P : Program} {f : FuncId} {fn : Func} {c : Code} {args : List Value} {n : Nat} {W0 : World} {H : List Grp} {R : Value → List Grp → Prop}
    (hf : P.funcs[f]? = some fn) (hb : fn.body = some c) (hn : fn.ntmps = n) (hle : args.length ≤ n)
    (k : G P c (Body P fn W0 R) n (argEnv 0 args) W0 H) : Tri P f args.toArray W0 H R := by
  intro w hs
  refine calls_of_wp hf hb (k _ w ?_ hs)
  refine ⟨rfl, by simp [hn]; omega, fun u w => match args[u]? with | some v => boolOf v == some w | none => false, ?_, ?_⟩
  · intro s hs w
    obtain ⟨h1, h2, h3⟩ := argEnv_mem args 0 s hs
    simp only [Nat.sub_zero] at h3
    simp only [h3]
  · intro s hs
    obtain ⟨h1, h2, h3⟩ := argEnv_mem args 0 s hs
    simp only [Nat.sub_zero] at h3
    rw [h1]
    simp only [chT, List.all_nil, if_true]
    have hlt : s.t < args.length := by
      rcases Nat.lt_or_ge s.t args.length with h | h
      · exact h
      · simp [List.getElem?_eq_none h] at h3
    rw [Array.getElem?_append_left (by simpa using hlt)]
    simpa using h3
def resV (E : List Sl) : List ResultVar → Option (List Value)
  | [] => some []
  | .tmp t :: r => (match evT E [] t, resV E r with | some v, some l => some (v :: l) | _, _ => none)
  | _ :: _ => none
def packV : List Value → Value
  | [v] => v
  | l => .tuple l.toArray
def resOne (tmps : Array Value) : ResultVar → Sem Value
  | .tmp t => pure (tmps.getD t undef)
  | .cell a t => do loadVar t (← asAddr (tmps.getD a undef))
theorem resList_of {P : Program} {n : Nat} {E : Env} {a : Act} (ha : Ag n E a) (w : World) : ∀ (rs : List ResultVar) {l : List Value}, resV E rs = some l →
    (rs.mapM (resOne a.tmps)).run P w = .ok l w
  | [], l, h => by simp only [resV, Option.some.injEq] at h; subst h; rfl
  | .tmp t :: rs, l, h => by
    simp only [resV] at h
    split at h
    · rename_i v l' hv hl
      injection h with h; subst h
      have e : a.tmps.getD t undef = v := ha.eval (x := .tmp t) hv
      have ih := resList_of (P := P) ha w rs hl
      simp only [List.mapM_cons, Sem.run_bind, resOne, Sem.run_pure, Result.andThen_ok, e, ih]
    · simp at h
  | .cell b t :: rs, l, h => by simp [resV] at h
theorem results_eq (fn : Func) (tmps : Array Value) : results fn tmps = (fn.results.mapM (resOne tmps)) >>= fun vs => (pure (if h : vs.size = 1 then vs[0] else .tuple vs) : Sem Value) := rfl
theorem results_of {P : Program} {fn : Func} {n : Nat} {E : Env} {a : Act} (ha : Ag n E a) {rs : List ResultVar} {l : List Value} (h : resV E rs = some l)
    (hr : fn.results = rs.toArray) (w : World) : (results fn a.tmps).run P w = .ok (packV l) w := by
  have e2 := resList_of (P := P) ha w rs h
  have e3 : ((rs.toArray).mapM (resOne a.tmps)).run P w = .ok l.toArray w := by
    rw [Array.mapM_eq_mapM_toList, Sem.run_map, e2]; rfl
  rw [results_eq, hr, Sem.run_bind, e3]
  simp only [Result.andThen_ok, Sem.run_pure]
  congr 1
  cases l with
  | nil => rfl
  | cons v l => cases l with
    | nil => rfl
    | cons u l => simp [packV]
theorem N_ret {P : Program} {fn : Func} {n : Nat} {E : Env} {W0 : World} {H : List Grp} {R : Value → List Grp → Prop} {x : Exit} (rs : List ResultVar) (l : List Value)
    (hr : fn.results = rs.toArray) (h : resV E rs = some l) (hx : (match x with | .normal => true | .ret => true | _ => false) = true) (k : R (packV l) H) : N (Body P fn W0 R) x n E W0 H := by
  intro a w ha hs
  cases x <;> simp at hx
  · exact ⟨ha.defers, _, results_of ha h hr w, _, H, rfl, k, hs⟩
  · exact ⟨ha.defers, _, results_of ha h hr w, _, H, rfl, k, hs⟩
theorem GL_call {P : Program} {ops : Array Oper} {i : Nat} {Q : Post} {n : Nat} {E : Env} {W0 : World} {H : List Grp} {o : Oper} {ch : List (Nat × Bool)} {c : Call} {fo : Operand} {f : FuncId} {caps : Array Value} {fst : Array Value} {vs : List Value}
    {fn : Func} {R : Value → List Grp → Prop}
    (ho : ops[i]? = some o) (hop : o.op = .call c) (hce : c.callee = .value fo) (hfo : evO E ch fo = some (.func (.func f) fst caps)) (hargs : evL (evO E ch) c.args.toList = some vs)
    (hf : P.funcs[f]? = some fn) (hrt : (fn.name == "runtime.NumGoroutine") = false) (hbody : fn.body.isNone = false)
    (hch : chainOf ops E o.guard = some ch) (hd : dstOk n ch o.dst = true) (hsure : ∀ β : Nat → Bool → Bool, (∀ s, s ∈ E → ∀ w, β s.t w = (boolOf s.v == some w)) → chT β ch = true)
    (hc : Tri P f (fst ++ vs.toArray ++ caps) W0 H R)
    (k : ∀ v H', R v H' → GL false P ops (i + 1) Q n (Env.put E o.dst ch v) W0 H') : GL false P ops i Q n E W0 H := by
  have hi : i < ops.toList.length := by
    rcases Nat.lt_or_ge i ops.size with h | h
    · simpa using h
    · simp [Array.getElem?_eq_none h] at ho
  have hdrop : ops.toList.drop i = o :: ops.toList.drop (i + 1) := by
    rw [List.drop_eq_getElem_cons hi]
    congr 1
    have hi' : i < ops.size := by simpa using hi
    rw [Array.getElem?_eq_getElem hi'] at ho
    simpa using ho
  intro a w ha hs
  rw [hdrop]
  obtain ⟨β, hβ, hat⟩ := ha.at_
  have hcT := hsure β hβ
  have hw := wanted_chain hβ hat hch
  unfold wpList
  rw [hw, if_pos hcT]
  left
  have hrun : (execOp a.eval o).run P w = .ok (.enter f (fst ++ vs.toArray ++ caps)) w := by
    unfold execOp
    simp only [hop]
    simp only [resolve, hce]
    rw [evO_eval hat hcT hfo, arr_map (fun x v => evO_eval hat hcT) hargs]
    simp only [Deferred.ofValue, Sem.run_bind, Sem.run_pure, Result.andThen_ok, invoke, callFunc, run_program, hf, hrt, hbody, Bool.false_eq_true, if_false]
  unfold Oper.wp
  rw [hrun]
  refine (hc w hs).mono ?_
  rintro e w' ⟨v, H', rfl, hR, hs'⟩
  have hput := Ag.put ha hβ hat hd v
  rw [if_pos hcT] at hput
  exact k v H' hR _ _ hput hs'
theorem GL_callQ {d : Bool} {P : Program} {ops : Array Oper} {i : Nat} {Q : Post} {n : Nat} {E : Env} {W0 : World} {H : List Grp} {o : Oper} {ch : List (Nat × Bool)} {c : Call} {fo : Operand} {f : FuncId} {caps : Array Value} {fst : Array Value} {vs : List Value}
    {fn : Func} {v : Value}
    (ho : ops[i]? = some o) (hop : o.op = .call c) (hce : c.callee = .value fo) (hfo : evO E ch fo = some (.func (.func f) fst caps)) (hargs : evL (evO E ch) c.args.toList = some vs)
    (hf : P.funcs[f]? = some fn) (hrt : (fn.name == "runtime.NumGoroutine") = false) (hbody : fn.body.isNone = false)
    (hch : chainOf ops E o.guard = some ch) (hd : dstOk n ch o.dst = true) (hk : chKnown E ch = true)
    (hc : chB E ch → Tri P f (fst ++ vs.toArray ++ caps) W0 H (fun u H' => u = v ∧ H' = H))
    (k : GL d P ops (i + 1) Q n (Env.put E o.dst ch v) W0 H) : GL d P ops i Q n E W0 H := by
  refine GL_quiet ho hch hd hk (fun r hr hcb w hs => ?_) k
  have hrun : (execOp r o).run P w = .ok (.enter f (fst ++ vs.toArray ++ caps)) w := by
    unfold execOp
    simp only [hop]
    simp only [resolve, hce]
    rw [hr _ _ hfo, arr_map hr hargs]
    simp only [Deferred.ofValue, Sem.run_bind, Sem.run_pure, Result.andThen_ok, invoke, callFunc, run_program, hf, hrt, hbody, Bool.false_eq_true, if_false]
  rw [hrun]
  refine ⟨rfl, (hc hcb w hs).mono ?_⟩
  rintro e w' ⟨u, H', rfl, ⟨rfl, rfl⟩, hs'⟩
  exact ⟨rfl, hs'⟩
def chSure (E : List Sl) (ch : List (Nat × Bool)) : Bool := ch.all fun p => match Env.find E p.1 with
  | some s => (match s.v, p.2 with | .bool true, true => true | .bool false, false => true | _, _ => false)
  | none => false
theorem chSure_of {E : Env} {ch : List (Nat × Bool)} (h : chSure E ch = true) (β : Nat → Bool → Bool) (hβ : ∀ s, s ∈ E → ∀ w, β s.t w = (boolOf s.v == some w)) : chT β ch = true := by
  unfold chT
  rw [List.all_eq_true]
  intro p hp
  have := List.all_eq_true.1 h p hp
  split at this
  · rename_i s hs
    obtain ⟨hm, ht⟩ := Env.find_mem hs
    rw [← ht, hβ s hm]
    split at this <;> rename_i hv hw <;> simp_all [boolOf]
  · simp at this
theorem w64 {x : Int} (h0 : -9223372036854775808 ≤ x) (h1 : x ≤ 9223372036854775807) : IntKind.wrap .i64 x = x := by
  simp only [IntKind.wrap, IntKind.bits, IntKind.signed]
  simp only [show (2 : Int) ^ 64 = 18446744073709551616 from by decide, show (2 : Int) ^ (64 - 1) = 9223372036854775808 from by decide]
  split <;> rename_i h <;> simp at h <;> omega
def byteAt (s : ByteArray) (i : Int) : Int := (((s.data.toList)[i.toNat]?.getD 0).toNat : Int)
theorem byteAt_rng (s : ByteArray) (i : Int) : 0 ≤ byteAt s i ∧ byteAt s i < 256 := by
  unfold byteAt
  have := UInt8.toNat_lt ((s.data.toList)[i.toNat]?.getD 0)
  omega
theorem GL_index {d : Bool} {P : Program} {ops : Array Oper} {i : Nat} {Q : Post} {n : Nat} {E : Env} {W0 : World} {H : List Grp} {o : Oper} {ch : List (Nat × Bool)} {t : TypeId} {x ix : Operand} {s : ByteArray} {kd : IntKind} {j : Int}
    (ho : ops[i]? = some o) (hop : o.op = .index t x ix) (hx : evO E ch x = some (.string s)) (hix : evO E ch ix = some (.int kd j)) (hu : P.underlying t = some .string)
    (hch : chainOf ops E o.guard = some ch) (hd : dstOk n ch o.dst = true) (hk : chKnown E ch = true)
    (hb : chB E ch → 0 ≤ j ∧ j < s.size)
    (k : GL d P ops (i + 1) Q n (Env.put E o.dst ch (.int .u8 (byteAt s j))) W0 H) : GL d P ops i Q n E W0 H := by
  refine GL_quiet ho hch hd hk (fun r hr hcb w _ => ?_) k
  obtain ⟨h0, h1⟩ := hb hcb
  have hlt : j.toNat < s.size := by omega
  have e : s[j.toNat]? = some s[j.toNat] := by simp [getElem?_pos, hlt]
  have e2 : ((s[j.toNat] : UInt8).toNat : Int) = byteAt s j := by
    unfold byteAt
    have : (s.data.toList)[j.toNat]? = some s[j.toNat] := by
      rw [List.getElem?_eq_getElem (by simpa using hlt)]; rfl
    rw [this]; rfl
  unfold execOp
  simp only [hop]
  rw [hr _ _ hx, hr _ _ hix]
  simp only [Instr.index, asIntOf, Sem.run_bind, run_underlying hu, Sem.run_pure, Result.andThen_ok, if_pos h0, e, e2]
  exact ⟨rfl, rfl⟩
def loV : Option Value → Option Int
  | none => some 0
  | some (.int _ n) => some n
  | _ => none
def hiV (len : Int) : Option Value → Option Int
  | none => some len
  | some (.int _ n) => some n
  | _ => none
def evOO (ρ : Operand → Option Value) : Option Operand → Option (Option Value)
  | none => some none
  | some x => (match ρ x with | some v => some (some v) | none => none)
theorem run_sliceBound {P : Program} {x : Value} {y : Nat} {code : BoundsCode} {kd : IntKind} {n : Int} (hx : x = .int kd n) (h0 : 0 ≤ n) (h1 : n ≤ y) (w : World) : (Instr.sliceBound x y code).run P w = .ok n.toNat w := by
  subst hx
  simp [Instr.sliceBound, asIntOf, h0, h1]
theorem run_sliceBounds {P : Program} {isSlice : Bool} {len cap : Nat} {lo hi : Option Value} {l h : Int} (hl : loV lo = some l) (hh : hiV len hi = some h)
    (h0 : 0 ≤ l) (h1 : l ≤ h) (h2 : h ≤ cap) (w : World) : (Instr.sliceBounds isSlice len cap lo hi none).run P w = .ok (l.toNat, h.toNat, cap) w := by
  have hhi : (match hi with | some v => Instr.sliceBound v cap (if isSlice then .sliceAcap else .sliceAlen) | none => (pure len : Sem Nat)).run P w = .ok h.toNat w := by
    cases hi with
    | none => simp only [hiV, Option.some.injEq] at hh; subst hh; rfl
    | some v =>
      cases v <;> simp only [hiV, Option.some.injEq, reduceCtorEq] at hh
      subst hh
      exact run_sliceBound rfl (by omega) h2 w
  have hlo : (match lo with | some v => Instr.sliceBound v h.toNat .sliceB | none => (pure 0 : Sem Nat)).run P w = .ok l.toNat w := by
    cases lo with
    | none => simp only [loV, Option.some.injEq] at hl; subst hl; rfl
    | some v =>
      cases v <;> simp only [loV, Option.some.injEq, reduceCtorEq] at hl
      subst hl
      exact run_sliceBound rfl h0 (by omega) w
  unfold Instr.sliceBounds
  cases hi with
  | none =>
    simp only [Sem.run_bind, Sem.run_pure, Result.andThen_ok] at hhi ⊢
    injection hhi with hhi
    subst hhi
    cases lo with
    | none => simp only [Sem.run_bind, Sem.run_pure, Result.andThen_ok] at hlo ⊢; injection hlo with hlo; rw [← hlo]
    | some v => simp only [Option.isSome_none, Bool.false_eq_true, if_false, Sem.run_bind] at hlo ⊢; rw [hlo]; rfl
  | some u =>
    simp only [Sem.run_bind, Sem.run_pure, Result.andThen_ok] at hhi ⊢
    rw [hhi]
    simp only [Result.andThen_ok]
    cases lo with
    | none => simp only [Sem.run_bind, Sem.run_pure, Result.andThen_ok] at hlo ⊢; injection hlo with hlo; rw [← hlo]
    | some v => simp only [Option.isSome_none, Bool.false_eq_true, if_false, Sem.run_bind] at hlo ⊢; rw [hlo]; rfl
theorem GL_sliceS {d : Bool} {P : Program} {ops : Array Oper} {i : Nat} {Q : Post} {n : Nat} {E : Env} {W0 : World} {H : List Grp} {o : Oper} {ch : List (Nat × Bool)} {t : TypeId} {x : Operand} {lo hi : Option Operand} {s : ByteArray} {vl vh : Option Value} {l h : Int}
    (ho : ops[i]? = some o) (hop : o.op = .slice t x lo hi none) (hx : evO E ch x = some (.string s)) (hvl : evOO (evO E ch) lo = some vl) (hvh : evOO (evO E ch) hi = some vh) (hu : P.underlying t = some .string)
    (hl : loV vl = some l) (hh : hiV s.size vh = some h)
    (hch : chainOf ops E o.guard = some ch) (hd : dstOk n ch o.dst = true) (hk : chKnown E ch = true)
    (hb : chB E ch → 0 ≤ l ∧ l ≤ h ∧ h ≤ s.size)
    (k : GL d P ops (i + 1) Q n (Env.put E o.dst ch (.string (s.extract l.toNat h.toNat))) W0 H) : GL d P ops i Q n E W0 H := by
  refine GL_quiet ho hch hd hk (fun r hr hcb w _ => ?_) k
  obtain ⟨h0, h1, h2⟩ := hb hcb
  have hm : ∀ {y : Option Operand} {v : Option Value}, evOO (evO E ch) y = some v → y.map r = v := by
    intro y v hv
    cases y with
    | none => simp only [evOO, Option.some.injEq] at hv; subst hv; rfl
    | some y =>
      simp only [evOO] at hv
      split at hv
      · rename_i u hu; injection hv with hv; subst hv; simp [hr _ _ hu]
      · simp at hv
  unfold execOp
  simp only [hop]
  rw [hr _ _ hx, hm hvl, hm hvh]
  simp only [Instr.sliceAt, Instr.slice, Sem.run_bind, run_underlying hu, Result.andThen_ok, Option.map_none, Option.isSome_none, Bool.false_eq_true, if_false,
    run_sliceBounds (P := P) (isSlice := false) hl hh h0 h1 h2, Sem.run_pure]
  exact ⟨rfl, rfl⟩
theorem GL_concat {d : Bool} {P : Program} {ops : Array Oper} {i : Nat} {Q : Post} {n : Nat} {E : Env} {W0 : World} {H : List Grp} {o : Oper} {ch : List (Nat × Bool)} {t t2 : TypeId} {x y : Operand} {s u : ByteArray}
    (ho : ops[i]? = some o) (hop : o.op = .binOp .add t x y t2) (hx : evO E ch x = some (.string s)) (hy : evO E ch y = some (.string u))
    (hch : chainOf ops E o.guard = some ch) (hd : dstOk n ch o.dst = true) (hk : chKnown E ch = true)
    (hb : chB E ch → s.size + u.size ≤ 9223372036854775807)
    (k : GL d P ops (i + 1) Q n (Env.put E o.dst ch (.string (s ++ u))) W0 H) : GL d P ops i Q n E W0 H := by
  refine GL_quiet ho hch hd hk (fun r hr hcb w _ => ?_) k
  have h0 := hb hcb
  have h1 : ¬ (((s.size + u.size : Nat) : Int) > IntKind.i64.max) := by
    have : IntKind.i64.max = 9223372036854775807 := by decide
    rw [this]; omega
  unfold execOp
  simp only [hop]
  rw [hr _ _ hx, hr _ _ hy]
  simp only [eqGuard, Sem.run_bind, binOp, Op.stringOp, if_neg h1]
  exact ⟨rfl, rfl⟩
end Go.Sw
namespace Go.Sw
open Go.RowKit
def At (W0 : World) (H : List Grp) (b : Nat) (o : Obj) : Prop := (b < W0.heap.size ∧ W0.heap[b]? = some o) ∨ (b, o) ∈ H.flatten
theorem Sat.at {W0 : World} {H : List Grp} {w : World} (h : Sat W0 H w) {b : Nat} {o : Obj} (ha : At W0 H b o) : w.heap[b]? = some o := by
  rcases ha with ⟨hb, h0⟩ | hm
  · rw [h.below.block b hb]; exact h0
  · exact h.has _ hm
theorem At.grp {W0 : World} {H : List Grp} {g : Grp} {b : Nat} {o : Obj} (j i : Nat) (hj : H[j]? = some g) (hi : g[i]? = some (b, o)) : At W0 H b o :=
  .inr (List.mem_flatten.2 ⟨g, List.mem_of_getElem? hj, List.mem_of_getElem? hi⟩)
theorem At.mem {W0 : World} {H : List Grp} {g : Grp} {b : Nat} {o : Obj} (hg : g ∈ H) (hi : (b, o) ∈ g) : At W0 H b o := .inr (List.mem_flatten.2 ⟨g, hg, hi⟩)
structure Wr (b : Nat) (o : Obj) (w w' : World) : Prop where
  os : w'.os = w.os
  tape : w'.tape = w.tape
  output : w'.output = w.output
  size : w'.heap.size = w.heap.size
  at_ : w'.heap[b]? = some o
  other : ∀ k, k ≠ b → w'.heap[k]? = w.heap[k]?
theorem nodup_swap {H : List Grp} {g : Grp} {b : Nat} {o o' : Obj} {j i : Nat} (hj : H[j]? = some g) (hi : g[i]? = some (b, o)) :
    ((H.set j (g.set i (b, o'))).flatten.map Prod.fst) = H.flatten.map Prod.fst := by
  induction H generalizing j with
  | nil => simp at hj
  | cons x H ih =>
    cases j with
    | zero =>
      simp only [List.getElem?_cons_zero, Option.some.injEq] at hj
      subst hj
      simp only [List.set_cons_zero, List.flatten_cons, List.map_append]
      congr 1
      clear ih
      induction x generalizing i with
      | nil => simp at hi
      | cons p x ih =>
        cases i with
        | zero => simp only [List.getElem?_cons_zero, Option.some.injEq] at hi; subst hi; simp
        | succ i => simp only [List.getElem?_cons_succ] at hi; simp [ih hi]
    | succ j =>
      simp only [List.getElem?_cons_succ] at hj
      simp only [List.set_cons_succ, List.flatten_cons, List.map_append, ih hj]
theorem mem_swap {H : List Grp} {g : Grp} {b : Nat} {o o' : Obj} {j i : Nat} (hj : H[j]? = some g) (hi : g[i]? = some (b, o)) (hn : (H.flatten.map Prod.fst).Nodup)
    {p : Nat × Obj} (hp : p ∈ (H.set j (g.set i (b, o'))).flatten) : p = (b, o') ∨ (p ∈ H.flatten ∧ p.1 ≠ b) := by
  induction H generalizing j with
  | nil => simp at hj
  | cons x H ih =>
    simp only [List.flatten_cons, List.map_append, List.nodup_append] at hn
    obtain ⟨n1, n2, n3⟩ := hn
    cases j with
    | zero =>
      simp only [List.getElem?_cons_zero, Option.some.injEq] at hj
      subst hj
      simp only [List.set_cons_zero, List.flatten_cons, List.mem_append] at hp
      have hb : b ∈ x.map Prod.fst := List.mem_map.2 ⟨_, List.mem_of_getElem? hi, rfl⟩
      rcases hp with hp | hp
      · have : p = (b, o') ∨ (p ∈ x ∧ p.1 ≠ b) := by
          clear ih n2 n3 hb
          induction x generalizing i with
          | nil => simp at hi
          | cons q x ih =>
            simp only [List.map_cons, List.nodup_cons] at n1
            cases i with
            | zero =>
              simp only [List.getElem?_cons_zero, Option.some.injEq] at hi; subst hi
              simp only [List.set_cons_zero, List.mem_cons] at hp
              rcases hp with rfl | hp
              · exact .inl rfl
              · refine .inr ⟨List.mem_cons_of_mem _ hp, fun e => n1.1 ?_⟩
                exact List.mem_map.2 ⟨p, hp, e⟩
            | succ i =>
              simp only [List.getElem?_cons_succ] at hi
              simp only [List.set_cons_succ, List.mem_cons] at hp
              rcases hp with rfl | hp
              · refine .inr ⟨List.mem_cons_self, fun e => n1.1 ?_⟩
                exact List.mem_map.2 ⟨_, List.mem_of_getElem? hi, e.symm⟩
              · rcases ih n1.2 hi hp with h | ⟨h1, h2⟩
                · exact .inl h
                · exact .inr ⟨List.mem_cons_of_mem _ h1, h2⟩
        rcases this with h | ⟨h1, h2⟩
        · exact .inl h
        · exact .inr ⟨by simp [h1], h2⟩
      · refine .inr ⟨by simp [hp], fun e => ?_⟩
        have : p.1 ∈ H.flatten.map Prod.fst := List.mem_map.2 ⟨p, hp, rfl⟩
        exact n3 _ hb _ this e.symm
    | succ j =>
      simp only [List.getElem?_cons_succ] at hj
      simp only [List.set_cons_succ, List.flatten_cons, List.mem_append] at hp
      have hbH : b ∈ H.flatten.map Prod.fst := List.mem_map.2 ⟨(b, o), List.mem_flatten.2 ⟨g, List.mem_of_getElem? hj, List.mem_of_getElem? hi⟩, rfl⟩
      rcases hp with hp | hp
      · refine .inr ⟨by simp [hp], fun e => ?_⟩
        have : p.1 ∈ x.map Prod.fst := List.mem_map.2 ⟨p, hp, rfl⟩
        exact n3 _ this _ hbH e
      · rcases ih hj n2 hp with h | ⟨h1, h2⟩
        · exact .inl h
        · exact .inr ⟨by simp [h1], h2⟩
theorem Sat.wr {W0 : World} {H : List Grp} {w w' : World} (h : Sat W0 H w) {g : Grp} {b : Nat} {o o' : Obj} {j i : Nat} (hj : H[j]? = some g) (hi : g[i]? = some (b, o))
    (hw : Wr b o' w w') : Sat W0 (H.set j (g.set i (b, o'))) w' := by
  have hm : (b, o) ∈ H.flatten := List.mem_flatten.2 ⟨g, List.mem_of_getElem? hj, List.mem_of_getElem? hi⟩
  have hhigh : W0.heap.size ≤ b := h.high (b, o) hm
  refine ⟨⟨hw.os.trans h.below.os, hw.tape.trans h.below.tape, hw.output.trans h.below.output, by rw [hw.size]; exact h.below.size, fun k hk => ?_⟩, ?_, ?_, ?_⟩
  · rw [hw.other k (by omega)]; exact h.below.block k hk
  · rw [nodup_swap hj hi]; exact h.nodup
  · intro p hp
    rcases mem_swap hj hi h.nodup hp with rfl | ⟨h1, h2⟩
    · exact hw.at_
    · rw [hw.other _ h2]; exact h.has p h1
  · intro p hp
    rcases mem_swap hj hi h.nodup hp with rfl | ⟨h1, h2⟩
    · exact hhigh
    · exact h.high p h1
theorem Sat.new {W0 : World} {H : List Grp} {w w' : World} (h : Sat W0 H w) {o : Obj} (hos : w'.os = w.os) (htape : w'.tape = w.tape) (hout : w'.output = w.output)
    (hheap : w'.heap = w.heap.push o) : Sat W0 ([(w.heap.size, o)] :: H) w' := by
  have hlt : ∀ p, p ∈ H.flatten → p.1 < w.heap.size := fun p hp => by
    have := h.has p hp
    rcases Nat.lt_or_ge p.1 w.heap.size with h' | h'
    · exact h'
    · simp [Array.getElem?_eq_none h'] at this
  have hold : ∀ k, k < w.heap.size → w'.heap[k]? = w.heap[k]? := fun k hk => by
    rw [hheap, Array.getElem?_push, if_neg (by omega)]
  refine ⟨⟨hos.trans h.below.os, htape.trans h.below.tape, hout.trans h.below.output, by rw [hheap]; simp; have := h.below.size; omega, fun k hk => ?_⟩, ?_, ?_, ?_⟩
  · have := h.below.size
    rw [hold k (by omega)]; exact h.below.block k hk
  · simp only [List.flatten_cons, List.cons_append, List.nil_append, List.map_cons, List.nodup_cons]
    refine ⟨fun hm => ?_, h.nodup⟩
    obtain ⟨p, hp, he⟩ := List.mem_map.1 hm
    have := hlt p hp
    omega
  · intro p hp
    simp only [List.flatten_cons, List.cons_append, List.nil_append, List.mem_cons] at hp
    rcases hp with rfl | hp
    · simp [hheap]
    · rw [hold _ (hlt p hp)]; exact h.has p hp
  · intro p hp
    simp only [List.flatten_cons, List.cons_append, List.nil_append, List.mem_cons] at hp
    rcases hp with rfl | hp
    · exact h.below.size
    · exact h.high p hp
theorem Sat.perm {W0 : World} {H H' : List Grp} {w : World} (h : Sat W0 H w) (hp : H.Perm H') : Sat W0 H' w := by
  have hf : H.flatten.Perm H'.flatten := hp.flatten
  exact ⟨h.below, (hf.map _).nodup_iff.1 h.nodup, fun p hm => h.has p (hf.mem_iff.2 hm), fun p hm => h.high p (hf.mem_iff.2 hm)⟩
theorem Sat.flat {W0 : World} {H H' : List Grp} {w : World} (h : Sat W0 H w) (hf : H.flatten.Perm H'.flatten) : Sat W0 H' w :=
  ⟨h.below, (hf.map _).nodup_iff.1 h.nodup, fun p hm => h.has p (hf.mem_iff.2 hm), fun p hm => h.high p (hf.mem_iff.2 hm)⟩
theorem Sat.subl {W0 : World} {H H' : List Grp} {w : World} (h : Sat W0 H w) (hf : H'.flatten.Sublist H.flatten) : Sat W0 H' w :=
  ⟨h.below, h.nodup.sublist (hf.map _), fun p hm => h.has p (hf.subset hm), fun p hm => h.high p (hf.subset hm)⟩
theorem GL_heap {d : Bool} {P : Program} {ops : Array Oper} {i : Nat} {Q : Post} {n : Nat} {E : Env} {W0 : World} {H H' : List Grp} (hd : d = false)
    (hs : ∀ w, Sat W0 H w → Sat W0 H' w) (k : GL d P ops i Q n E W0 H') : GL d P ops i Q n E W0 H := by
  subst hd; exact fun a w ha h => k a w ha (hs w h)
theorem G_heap {P : Program} {c : Code} {Q : Post} {n : Nat} {E : Env} {W0 : World} {H H' : List Grp}
    (hs : ∀ w, Sat W0 H w → Sat W0 H' w) (k : G P c Q n E W0 H') : G P c Q n E W0 H := fun a w ha h => k a w ha (hs w h)
theorem N_heap {Q : Post} {x : Exit} {n : Nat} {E : Env} {W0 : World} {H H' : List Grp}
    (hs : ∀ w, Sat W0 H w → Sat W0 H' w) (k : N Q x n E W0 H') : N Q x n E W0 H := fun a w ha h => k a w ha (hs w h)
theorem Tri.heap {P : Program} {f : FuncId} {args : Array Value} {W0 : World} {H H' : List Grp} {R : Value → List Grp → Prop}
    (hs : ∀ w, Sat W0 H w → Sat W0 H' w) (h : Tri P f args W0 H' R) : Tri P f args W0 H R := fun w h0 => h w (hs w h0)
theorem Tri.post {P : Program} {f : FuncId} {args : Array Value} {W0 : World} {H : List Grp} {R R' : Value → List Grp → Prop}
    (h : Tri P f args W0 H R) (hr : ∀ v H1, R v H1 → ∃ H2, R' v H2 ∧ ∀ w, Sat W0 H1 w → Sat W0 H2 w) : Tri P f args W0 H R' :=
  fun w hs => (h w hs).mono fun _ _ ⟨v, H1, he, hR, hs'⟩ => let ⟨H2, h2, h3⟩ := hr v H1 hR; ⟨v, H2, he, h2, h3 _ hs'⟩
theorem GL_eff {P : Program} {ops : Array Oper} {i : Nat} {Q : Post} {n : Nat} {E : Env} {W0 : World} {H : List Grp} {o : Oper} {ch : List (Nat × Bool)} {R : Value → List Grp → Prop}
    (ho : ops[i]? = some o) (hch : chainOf ops E o.guard = some ch) (hd : dstOk n ch o.dst = true) (hsure : chSure E ch = true)
    (hrun : ∀ (r : Operand → Value), (∀ x v, evO E ch x = some v → r x = v) → ∀ w, Sat W0 H w → ∃ v w' H', R v H' ∧ Sat W0 H' w' ∧
      ((execOp r o).run P w = .ok (.value v) w' ∨ ((execOp r o).run P w = .ok .skip w' ∧ v = undef)))
    (k : ∀ v H', R v H' → GL false P ops (i + 1) Q n (Env.put E o.dst ch v) W0 H') : GL false P ops i Q n E W0 H := by
  have hi : i < ops.toList.length := by
    rcases Nat.lt_or_ge i ops.size with h | h
    · simpa using h
    · simp [Array.getElem?_eq_none h] at ho
  have hdrop : ops.toList.drop i = o :: ops.toList.drop (i + 1) := by
    rw [List.drop_eq_getElem_cons hi]
    congr 1
    have hi' : i < ops.size := by simpa using hi
    rw [Array.getElem?_eq_getElem hi'] at ho
    simpa using ho
  intro a w ha hs
  rw [hdrop]
  obtain ⟨β, hβ, hat⟩ := ha.at_
  have hcT := chSure_of hsure β hβ
  have hw := wanted_chain hβ hat hch
  unfold wpList
  rw [hw, if_pos hcT]
  left
  obtain ⟨v, w', H', hR, hs', hr⟩ := hrun a.eval (fun x v => evO_eval hat hcT) w hs
  have hput := Ag.put ha hβ hat hd v
  rw [if_pos hcT] at hput
  unfold Oper.wp
  rcases hr with hr | ⟨hr, rfl⟩
  · rw [hr]; exact k v H' hR _ _ hput hs'
  · rw [hr]; exact k _ H' hR _ _ hput hs'
theorem cell_of {w : World} {b off : Nat} {c : Array Value} {e : TypeId} {fz : Nat × Nat} {v : Value} (h : w.heap[b]? = some (.cells c e fz)) (hv : c[off]? = some v) : w.cell? ⟨b, off, none⟩ = some v := by
  simp [World.cell?, h, hv]
theorem addr_add (b off i : Nat) : (Addr.add ⟨b, off, none⟩ i) = ⟨b, off + i, none⟩ := by
  unfold Addr.add
  split
  · rename_i h; subst h; rfl
  · rfl
theorem run_loadCells {P : Program} {w : World} {b off : Nat} {c : Array Value} {e : TypeId} {fz : Nat × Nat} (h : w.heap[b]? = some (.cells c e fz)) : ∀ (l : List Value) (i : Nat) (acc : Array Value),
    (∀ k (hk : k < l.length), c[off + i + k]? = some l[k]) → (loadCellsFrom ⟨b, off, none⟩ i l.length acc).run P w = .ok (acc ++ l.toArray) w
  | [], i, acc, _ => by simp [loadCellsFrom]
  | v :: l, i, acc, hl => by
    have h0 := hl 0 (by simp)
    simp only [List.getElem_cons_zero, Nat.add_zero] at h0
    have ih := run_loadCells (P := P) (off := off) h l (i + 1) (acc.push v) (fun k hk => by
      have := hl (k + 1) (by simp; omega)
      simp only [List.getElem_cons_succ] at this
      rw [show off + (i + 1) + k = off + i + (k + 1) from by omega]
      exact this)
    simp only [List.length_cons, loadCellsFrom, Sem.run_bind, addr_add, run_load, cell_of h h0, Result.andThen_ok, ih]
    simp
theorem GL_load {d : Bool} {P : Program} {ops : Array Oper} {i : Nat} {Q : Post} {n : Nat} {E : Env} {W0 : World} {H : List Grp} {o : Oper} {ch : List (Nat × Bool)} {t : TypeId} {x : Operand}
    {b off : Nat} {c : Array Value} {e : TypeId} {fz : Nat × Nat} {v : Value}
    (ho : ops[i]? = some o) (hop : o.op = .load t x) (hx : evO E ch x = some (.pointer (some ⟨b, off, none⟩))) (ht : aggB P t = some false)
    (hch : chainOf ops E o.guard = some ch) (hd : dstOk n ch o.dst = true) (hk : chKnown E ch = true)
    (hA : At W0 H b (.cells c e fz)) (hv : c[off]? = some v)
    (k : GL d P ops (i + 1) Q n (Env.put E o.dst ch v) W0 H) : GL d P ops i Q n E W0 H := by
  refine GL_quiet ho hch hd hk (fun r hr _ w hs => ?_) k
  unfold execOp
  simp only [hop]
  rw [hr _ _ hx]
  simp only [Instr.loadAt, Instr.sureAddr, loadVar, Sem.run_bind, Sem.run_pure, Result.andThen_ok, aggB_sound ht, Bool.false_eq_true, if_false, run_load, cell_of (hs.at hA) hv]
  exact ⟨rfl, rfl⟩
theorem GL_loadA {d : Bool} {P : Program} {ops : Array Oper} {i : Nat} {Q : Post} {n : Nat} {E : Env} {W0 : World} {H : List Grp} {o : Oper} {ch : List (Nat × Bool)} {t : TypeId} {x : Operand}
    {b off : Nat} {c : Array Value} {e : TypeId} {fz : Nat × Nat} {l : List Value}
    (ho : ops[i]? = some o) (hop : o.op = .load t x) (hx : evO E ch x = some (.pointer (some ⟨b, off, none⟩))) (ht : aggB P t = some true) (hsz : sizeV P t = some l.length)
    (hch : chainOf ops E o.guard = some ch) (hd : dstOk n ch o.dst = true) (hk : chKnown E ch = true)
    (hA : At W0 H b (.cells c e fz)) (hv' : (c.toList.drop off).take l.length = l)
    (k : GL d P ops (i + 1) Q n (Env.put E o.dst ch (.agg l.toArray)) W0 H) : GL d P ops i Q n E W0 H := by
  have hv : ∀ k (hk : k < l.length), c[off + k]? = some l[k] := by
    intro k hk
    have h1 : ((c.toList.drop off).take l.length)[k]? = some l[k] := by rw [hv']; simp
    rw [List.getElem?_take, if_pos hk, List.getElem?_drop] at h1
    simpa using h1
  refine GL_quiet ho hch hd hk (fun r hr _ w hs => ?_) k
  unfold execOp
  simp only [hop]
  rw [hr _ _ hx]
  simp only [Instr.loadAt, Instr.sureAddr, loadVar, Sem.run_bind, Sem.run_pure, Result.andThen_ok, aggB_sound ht, if_true, sizeV_sound hsz, loadCells,
    run_loadCells (P := P) (hs.at hA) l 0 #[] (by simpa using hv)]
  exact ⟨rfl, by simp⟩
def thawed (fz : Nat × Nat) (off : Nat) : Bool := !(decide (fz.1 ≤ off) && decide (off < fz.2))
theorem run_store1 {P : Program} {w : World} {b off : Nat} {c : Array Value} {e : TypeId} {fz : Nat × Nat} {v : Value} (h : w.heap[b]? = some (.cells c e fz)) (hoff : off < c.size)
    (hfz : thawed fz off = true) (hv : v.oneCell' = true) : ∃ w', (store ⟨b, off, none⟩ v).run P w = .ok () w' ∧ Wr b (.cells (c.setIfInBounds off v) e fz) w w' := by
  have hc : w.cell? ⟨b, off, none⟩ = some c[off] := cell_of h (by simp [hoff])
  have hf : w.frozen? ⟨b, off, none⟩ = false := by
    simp only [World.frozen?, h]
    simp [thawed] at hfz
    simp
    omega
  refine ⟨w.setCell ⟨b, off, none⟩ v, ?_, ?_⟩
  · rw [run_store P w _ v _ hv, hc]
    simp [hf]
  · have hb : b < w.heap.size := by
      rcases Nat.lt_or_ge b w.heap.size with h' | h'
      · exact h'
      · simp [Array.getElem?_eq_none h'] at h
    refine ⟨rfl, rfl, rfl, by simp, ?_, fun k hk => ?_⟩
    · simp only [World.setCell, Array.getElem?_modify, ↓reduceIte, h, Option.map_some]
      simp
    · simp only [World.setCell, Array.getElem?_modify]
      rw [if_neg (fun e => hk e.symm)]
theorem Wr.trans {b : Nat} {o1 o2 : Obj} {w w1 w2 : World} (h1 : Wr b o1 w w1) (h2 : Wr b o2 w1 w2) : Wr b o2 w w2 :=
  ⟨h2.os.trans h1.os, h2.tape.trans h1.tape, h2.output.trans h1.output, h2.size.trans h1.size, h2.at_, fun k hk => (h2.other k hk).trans (h1.other k hk)⟩
def setRow (c : Array Value) (off : Nat) : List Value → Array Value
  | [] => c
  | v :: r => setRow (c.setIfInBounds off v) (off + 1) r
theorem run_storeCells {P : Program} {b : Nat} {e : TypeId} {fz : Nat × Nat} : ∀ (l : List Value) {w : World} {off i : Nat} {c : Array Value}, w.heap[b]? = some (.cells c e fz) → off + i + l.length ≤ c.size →
    (∀ k, k < l.length → thawed fz (off + i + k) = true) → (l.all Value.oneCell') = true →
    ∃ w', (storeCells ⟨b, off, none⟩ l i).run P w = .ok () w' ∧ (l = [] → w' = w) ∧ Wr b (.cells (setRow c (off + i) l) e fz) w w'
  | [], w, off, i, c, h, _, _, _ => ⟨w, rfl, fun _ => rfl, rfl, rfl, rfl, rfl, h, fun _ _ => rfl⟩
  | v :: l, w, off, i, c, h, hlen, hfz, hv => by
    simp only [List.all_cons, Bool.and_eq_true] at hv
    simp only [List.length_cons] at hlen
    obtain ⟨w1, hr1, hw1⟩ := run_store1 (P := P) h (off := off + i) (by omega) (by simpa using hfz 0 (by simp)) hv.1
    obtain ⟨w2, hr2, _, hw2⟩ := run_storeCells (P := P) l (w := w1) (off := off) (i := i + 1) hw1.at_ (by simp; omega)
      (fun k hk => by have := hfz (k + 1) (by simp; omega); rw [show off + (i + 1) + k = off + i + (k + 1) from by omega]; exact this) hv.2
    refine ⟨w2, ?_, fun h => by simp at h, ?_⟩
    · simp only [storeCells, Sem.run_bind, addr_add, hr1, Result.andThen_ok, hr2]
    · have := hw1.trans hw2
      simpa [setRow, Nat.add_assoc] using this
theorem GL_store {P : Program} {ops : Array Oper} {i : Nat} {Q : Post} {n : Nat} {E : Env} {W0 : World} {H H' : List Grp} {o : Oper} {ch : List (Nat × Bool)} {t : TypeId} {x y : Operand}
    {b off : Nat} {c c' : Array Value} {e : TypeId} {fz : Nat × Nat} {v : Value} {g : Grp} {j m : Nat}
    (ho : ops[i]? = some o) (hop : o.op = .store t x y) (hx : evO E ch x = some (.pointer (some ⟨b, off, none⟩))) (hy : evO E ch y = some v)
    (hsz : sizeV P t = some v.cells.size) (h1 : (v.cells.toList.all Value.oneCell') = true)
    (hch : chainOf ops E o.guard = some ch) (hd : dstOk n ch o.dst = true) (hsure : chSure E ch = true)
    (hj : H[j]? = some g) (hi : g[m]? = some (b, .cells c e fz)) (hoff : off + v.cells.size ≤ c.size) (hfz : ∀ k, k < v.cells.size → thawed fz (off + k) = true)
    (hc' : setRow c off v.cells.toList = c') (hH' : H.set j (g.set m (b, .cells c' e fz)) = H')
    (k : GL false P ops (i + 1) Q n (Env.put E o.dst ch undef) W0 H') : GL false P ops i Q n E W0 H := by
  refine GL_eff (R := fun v H1 => v = undef ∧ H1 = H') ho hch hd hsure (fun r hr w hs => ?_) (by rintro v H1 ⟨rfl, rfl⟩; exact k)
  have hblk := hs.has _ (List.mem_flatten.2 ⟨g, List.mem_of_getElem? hj, List.mem_of_getElem? hi⟩)
  obtain ⟨w', hr', _, hw'⟩ := run_storeCells (P := P) v.cells.toList (w := w) (off := off) (i := 0) hblk (by simpa using hoff) (by simpa using hfz) h1
  refine ⟨undef, w', H', ⟨rfl, rfl⟩, ?_, .inr ⟨?_, rfl⟩⟩
  · have := hs.wr hj hi (o' := .cells c' e fz) (by rw [← hc']; simpa using hw')
    rw [hH'] at this; exact this
  · unfold execOp
    simp only [hop]
    rw [hr _ _ hx, hr _ _ hy]
    simp only [Instr.storeAt, Instr.sureAddr, storeVar, Sem.run_bind, Sem.run_pure, Result.andThen_ok, sizeV_sound hsz, ne_eq, not_true_eq_false, if_false, hr']
theorem thaw0 {x : Nat} : thawed (0, 0) x = true := by simp [thawed]
theorem GL_new {P : Program} {ops : Array Oper} {i : Nat} {Q : Post} {n : Nat} {E : Env} {W0 : World} {H : List Grp} {o : Oper} {ch : List (Nat × Bool)} {ob : Obj} {f : Nat → Value}
    (ho : ops[i]? = some o) (hch : chainOf ops E o.guard = some ch) (hd : dstOk n ch o.dst = true) (hsure : chSure E ch = true)
    (hrun : ∀ (r : Operand → Value), (∀ x v, evO E ch x = some v → r x = v) → ∀ w, (execOp r o).run P w = .ok (.value (f w.heap.size)) (w.alloc ob))
    (k : ∀ b, GL false P ops (i + 1) Q n (Env.put E o.dst ch (f b)) W0 ([(b, ob)] :: H)) : GL false P ops i Q n E W0 H := by
  refine GL_eff (R := fun v H1 => ∃ b, v = f b ∧ H1 = [(b, ob)] :: H) ho hch hd hsure (fun r hr w hs => ?_) (by rintro v H1 ⟨b, rfl, rfl⟩; exact k b)
  exact ⟨f w.heap.size, w.alloc ob, _, ⟨_, rfl, rfl⟩, hs.new rfl rfl rfl rfl, .inl (hrun r hr w)⟩
theorem GL_alloc {P : Program} {ops : Array Oper} {i : Nat} {Q : Post} {n : Nat} {E : Env} {W0 : World} {H : List Grp} {o : Oper} {ch : List (Nat × Bool)} {t : TypeId} {z : Value}
    (ho : ops[i]? = some o) (hop : o.op = .alloc t) (hz : zeroV P t = some z) (hch : chainOf ops E o.guard = some ch) (hd : dstOk n ch o.dst = true) (hsure : chSure E ch = true)
    (k : ∀ b, GL false P ops (i + 1) Q n (Env.put E o.dst ch (.pointer (some ⟨b, 0, none⟩))) W0 ([(b, .cells z.cells t)] :: H)) : GL false P ops i Q n E W0 H :=
  GL_new (f := fun b => .pointer (some ⟨b, 0, none⟩)) ho hch hd hsure (fun r hr w => by
    unfold execOp; simp only [hop, Instr.alloc, Sem.run_bind, zeroV_sound hz, Result.andThen_ok]; rfl) k
theorem GL_box {P : Program} {ops : Array Oper} {i : Nat} {Q : Post} {n : Nat} {E : Env} {W0 : World} {H : List Grp} {o : Oper} {ch : List (Nat × Bool)} {t : TypeId} {x : Operand} {v : Value}
    (ho : ops[i]? = some o) (hop : o.op = .box t x) (hx : evO E ch x = some v) (hch : chainOf ops E o.guard = some ch) (hd : dstOk n ch o.dst = true) (hsure : chSure E ch = true)
    (k : ∀ b, GL false P ops (i + 1) Q n (Env.put E o.dst ch (.pointer (some ⟨b, 0, none⟩))) W0 ([(b, .cells v.cells t)] :: H)) : GL false P ops i Q n E W0 H :=
  GL_new (f := fun b => .pointer (some ⟨b, 0, none⟩)) ho hch hd hsure (fun r hr w => by
    unfold execOp; simp only [hop]; rw [hr _ _ hx]; rfl) k
theorem GL_makeMap {P : Program} {ops : Array Oper} {i : Nat} {Q : Post} {n : Nat} {E : Env} {W0 : World} {H : List Grp} {o : Oper} {ch : List (Nat × Bool)} {t : TypeId}
    (ho : ops[i]? = some o) (hop : o.op = .makeMap t none) (hch : chainOf ops E o.guard = some ch) (hd : dstOk n ch o.dst = true) (hsure : chSure E ch = true)
    (k : ∀ b, GL false P ops (i + 1) Q n (Env.put E o.dst ch (.map (some b))) W0 ([(b, .map #[] 0)] :: H)) : GL false P ops i Q n E W0 H :=
  GL_new (f := fun b => .map (some b)) ho hch hd hsure (fun r hr w => by
    unfold execOp; simp only [hop]; rfl) k
def buildSliceV (P : Program) (t : TypeId) (len : Nat) (parts : List (Nat × Value)) : Option (Array Value × TypeId) :=
  match P.underlying t with
  | some (.slice e) =>
    (match sizeV P e, zeroV P e with
     | some n, some z => if len * n > 2 ^ 24 then none else
        (match Instr.fill (fun i => some (i * n, n)) ((Array.range (len * n)).map (z.cells[· % z.cells.size]!)) parts with | some c => some (c, e) | none => none)
     | _, _ => none)
  | _ => none
theorem GL_buildSlice {P : Program} {ops : Array Oper} {i : Nat} {Q : Post} {n : Nat} {E : Env} {W0 : World} {H : List Grp} {o : Oper} {ch : List (Nat × Bool)} {t e : TypeId} {len : Nat} {parts : Array (Nat × Operand)} {l : List (Nat × Value)} {c : List Value}
    (ho : ops[i]? = some o) (hop : o.op = .buildSlice t len parts) (hx : evP (evO E ch) parts.toList = some l) (hc : buildSliceV P t len l = some (c.toArray, e))
    (hch : chainOf ops E o.guard = some ch) (hd : dstOk n ch o.dst = true) (hsure : chSure E ch = true)
    (k : ∀ b, GL false P ops (i + 1) Q n (Env.put E o.dst ch (.slice (some ⟨b, 0, none⟩) len len)) W0 ([(b, .cells c.toArray e)] :: H)) : GL false P ops i Q n E W0 H :=
  GL_new (f := fun b => .slice (some ⟨b, 0, none⟩) len len) ho hch hd hsure (fun r hr w => by
    unfold execOp; simp only [hop]
    have e1 : (Array.map (fun x => (x.fst, r x.snd)) parts) = l.toArray := by
      rw [← evP_map hr _ hx]; apply Array.ext'; rw [Array.toList_map]
    rw [e1]
    unfold buildSliceV at hc
    split at hc
    · rename_i el hu
      split at hc
      · rename_i sz z hsz hz
        split at hc
        · simp at hc
        · rename_i hbig
          split at hc
          · rename_i cc hf
            simp only [Option.some.injEq, Prod.mk.injEq] at hc
            obtain ⟨h1, rfl⟩ := hc
            have hm : len * sz = 0 → (Array.range (len * sz)).map (fun q => (#[] : Array Value)[q % (#[] : Array Value).size]!) = (Array.range (len * sz)).map (z.cells[· % z.cells.size]!) := by
              intro h0
              rw [h0, show Array.range 0 = #[] from rfl]
              simp
            simp only [Instr.buildSlice, Sem.run_bind, run_underlying hu, Result.andThen_ok, sizeV_sound hsz, if_neg hbig]
            by_cases h0 : len * sz = 0
            · rw [if_pos h0]
              simp only [Sem.run_bind, Sem.run_pure, Result.andThen_ok, hm h0, hf, newRow, run_newObj, h1]
              rfl
            · rw [if_neg h0]
              simp only [Sem.run_bind, Sem.run_pure, zeroV_sound hz, Result.andThen_ok, hf, newRow, run_newObj, h1]
              rfl
          · simp at hc
      · simp at hc
    · simp at hc) k
end Go.Sw
namespace Go.Sw
open Go.RowKit
def Rd (S : Nat → Obj → Prop) (a : Option Addr) (cs : List Value) : Prop :=
  cs = [] ∨ ∃ b off c e fz, a = some ⟨b, off, none⟩ ∧ S b (.cells c e fz) ∧ ∀ (j : Nat) (u : Value), cs[j]? = some u → c[off + j]? = some u
def inG (g : Grp) : Nat → Obj → Prop := fun b o => (b, o) ∈ g
theorem at_inG {W0 : World} {H : List Grp} {g : Grp} (j : Nat) (hj : H[j]? = some g) : ∀ b o, inG g b o → At W0 H b o := fun _ _ h => At.mem (List.mem_of_getElem? hj) h
theorem Rd.mono {S S' : Nat → Obj → Prop} {a : Option Addr} {cs : List Value} (h : Rd S a cs) (hs : ∀ b o, S b o → S' b o) : Rd S' a cs := by
  rcases h with h | ⟨b, off, c, e, fz, h1, h2, h3⟩
  · exact .inl h
  · exact .inr ⟨b, off, c, e, fz, h1, hs _ _ h2, h3⟩
theorem Rd.lit {b : Nat} {c : List Value} {e : TypeId} {fz : Nat × Nat} : Rd (inG [(b, .cells c.toArray e fz)]) (some ⟨b, 0, none⟩) c :=
  .inr ⟨b, 0, _, _, _, rfl, List.mem_singleton.2 rfl, fun j u h => by rw [Nat.zero_add]; simpa using h⟩
def strs (ws : List ByteArray) : List Value := ws.map Value.string
theorem strs_at {ws : List ByteArray} {k : Nat} (h : k < ws.length) : (strs ws)[k]? = some (.string (ws.getD k default)) := by
  simp [strs, h]
def eltA (a : Option Addr) (k : Nat) : Addr := (a.getD default).add k
theorem Rd.elt {S : Nat → Obj → Prop} {a : Option Addr} {cs : List Value} (h : Rd S a cs) {k : Nat} {v : Value} (hv : cs[k]? = some v) :
    ∃ b off c e fz, a = some ⟨b, off, none⟩ ∧ S b (.cells c e fz) ∧ eltA a k = ⟨b, off + k, none⟩ ∧ c[off + k]? = some v := by
  rcases h with h | ⟨b, off, c, e, fz, h1, h2, h3⟩
  · subst h; simp at hv
  · exact ⟨b, off, c, e, fz, h1, h2, by rw [h1]; exact addr_add b off k, h3 k v hv⟩
theorem GL_indexAddr {d : Bool} {P : Program} {ops : Array Oper} {i : Nat} {Q : Post} {n : Nat} {E : Env} {W0 : World} {H : List Grp} {o : Oper} {ch : List (Nat × Bool)} {t e : TypeId} {x ix : Operand} {a : Option Addr} {len cap sz : Nat} {kd : IntKind} {j : Int} {S : Nat → Obj → Prop} {cs : List Value}
    (ho : ops[i]? = some o) (hop : o.op = .indexAddr t x ix) (hx : evO E ch x = some (.slice a len cap)) (hix : evO E ch ix = some (.int kd j)) (hu : P.underlying t = some (.slice e)) (hsz : sizeV P e = some sz)
    (hch : chainOf ops E o.guard = some ch) (hd : dstOk n ch o.dst = true) (hk : chKnown E ch = true)
    (hrd : Rd S a cs) (hb : chB E ch → 0 ≤ j ∧ j < len ∧ cs ≠ [])
    (k : GL d P ops (i + 1) Q n (Env.put E o.dst ch (.pointer (some (eltA a (j.toNat * sz))))) W0 H) : GL d P ops i Q n E W0 H := by
  refine GL_quiet ho hch hd hk (fun r hr hcb w _ => ?_) k
  obtain ⟨h0, h1, h2⟩ := hb hcb
  have ha : ∃ b, a = some b := by
    rcases hrd with h | ⟨b, off, _, _, _, h, _⟩
    · exact absurd h h2
    · exact ⟨_, h⟩
  obtain ⟨b, rfl⟩ := ha
  unfold execOp
  simp only [hop]
  rw [hr _ _ hx, hr _ _ hix]
  simp only [Instr.indexAt, asIntOf, Sem.run_bind, Sem.run_pure, Result.andThen_ok, run_underlying hu, Bool.and_false, if_pos (⟨h0, h1⟩ : 0 ≤ j ∧ j < (len : Int)), sizeV_sound hsz]
  exact ⟨rfl, rfl⟩
theorem GL_loadS {d : Bool} {P : Program} {ops : Array Oper} {i : Nat} {Q : Post} {n : Nat} {E : Env} {W0 : World} {H : List Grp} {o : Oper} {ch : List (Nat × Bool)} {t : TypeId} {x : Operand} {a : Option Addr} {q : Nat} {S : Nat → Obj → Prop} {cs : List Value} {v : Value}
    (ho : ops[i]? = some o) (hop : o.op = .load t x) (hx : evO E ch x = some (.pointer (some (eltA a q)))) (ht : aggB P t = some false)
    (hch : chainOf ops E o.guard = some ch) (hd : dstOk n ch o.dst = true) (hk : chKnown E ch = true)
    (hrd : Rd S a cs) (hS : ∀ b o, S b o → At W0 H b o) (hv : chB E ch → cs[q]? = some v)
    (k : GL d P ops (i + 1) Q n (Env.put E o.dst ch v) W0 H) : GL d P ops i Q n E W0 H := by
  refine GL_quiet ho hch hd hk (fun r hr hcb w hs => ?_) k
  obtain ⟨b, off, c, e, fz, h1, h2, h3, h4⟩ := hrd.elt (hv hcb)
  unfold execOp
  simp only [hop]
  rw [hr _ _ hx, h3]
  simp only [Instr.loadAt, Instr.sureAddr, loadVar, Sem.run_bind, Sem.run_pure, Result.andThen_ok, aggB_sound ht, Bool.false_eq_true, if_false, run_load, cell_of (hs.at (hS _ _ h2)) h4]
  exact ⟨rfl, rfl⟩
theorem GL_loadSA {d : Bool} {P : Program} {ops : Array Oper} {i : Nat} {Q : Post} {n : Nat} {E : Env} {W0 : World} {H : List Grp} {o : Oper} {ch : List (Nat × Bool)} {t : TypeId} {x : Operand} {a : Option Addr} {q : Nat} {S : Nat → Obj → Prop} {cs l : List Value}
    (ho : ops[i]? = some o) (hop : o.op = .load t x) (hx : evO E ch x = some (.pointer (some (eltA a q)))) (ht : aggB P t = some true) (hsz : sizeV P t = some l.length)
    (hch : chainOf ops E o.guard = some ch) (hd : dstOk n ch o.dst = true) (hk : chKnown E ch = true)
    (hrd : Rd S a cs) (hS : ∀ b o, S b o → At W0 H b o) (hl : l ≠ []) (hv : chB E ch → ∀ m (hm : m < l.length), cs[q + m]? = some l[m])
    (k : GL d P ops (i + 1) Q n (Env.put E o.dst ch (.agg l.toArray)) W0 H) : GL d P ops i Q n E W0 H := by
  refine GL_quiet ho hch hd hk (fun r hr hcb w hs => ?_) k
  have hv' := hv hcb
  have hpos : 0 < l.length := by cases l with | nil => exact absurd rfl hl | cons _ _ => simp
  obtain ⟨b, off, c, e, fz, h1, h2, h3, h4⟩ := hrd.elt (k := q) (v := l[0]) (by have := hv' 0 hpos; simpa using this)
  rcases hrd with hn | ⟨b', off', c', e', fz', h1', h2', h3'⟩
  · have := hv' 0 hpos; rw [hn] at this; simp at this
  · rw [h1'] at h1
    injection h1 with h1
    injection h1 with hb ho'
    subst hb; subst ho'
    unfold execOp
    simp only [hop]
    rw [hr _ _ hx, h3]
    simp only [Instr.loadAt, Instr.sureAddr, loadVar, Sem.run_bind, Sem.run_pure, Result.andThen_ok, aggB_sound ht, if_true, sizeV_sound hsz, loadCells,
      run_loadCells (P := P) (off := off' + q) (hs.at (hS _ _ h2')) l 0 #[] (fun m hm => by
        have := h3' _ _ (hv' m hm)
        rw [Nat.add_zero, Nat.add_assoc]; exact this)]
    exact ⟨rfl, by simp⟩
def cutA (a : Option Addr) (cap l sz : Nat) : Option Addr := if cap = l then a else a.map (·.add (l * sz))
theorem Rd.cut {S : Nat → Obj → Prop} {a : Option Addr} {cs : List Value} (h : Rd S a cs) {cap l sz m : Nat} (hl : cap = l → m = 0) : Rd S (cutA a cap l sz) ((cs.drop (l * sz)).take m) := by
  rcases h with h | ⟨b, off, c, e, fz, h1, h2, h3⟩
  · exact .inl (by simp [h])
  · by_cases hc : cap = l
    · exact .inl (by rw [hl hc]; simp)
    · refine .inr ⟨b, off + l * sz, c, e, fz, ?_, h2, ?_⟩
      · rw [cutA, if_neg hc, h1]; simp [addr_add]
      · intro j u hj
        rw [List.getElem?_take] at hj
        split at hj
        · rw [List.getElem?_drop] at hj
          rw [Nat.add_assoc]; exact h3 _ _ hj
        · simp at hj
theorem GL_sliceL {d : Bool} {P : Program} {ops : Array Oper} {i : Nat} {Q : Post} {n : Nat} {E : Env} {W0 : World} {H : List Grp} {o : Oper} {ch : List (Nat × Bool)} {t e : TypeId} {x : Operand} {lo hi : Option Operand} {a : Option Addr} {len cap sz : Nat} {vl vh : Option Value} {l h : Int}
    (ho : ops[i]? = some o) (hop : o.op = .slice t x lo hi none) (hx : evO E ch x = some (.slice a len cap)) (hvl : evOO (evO E ch) lo = some vl) (hvh : evOO (evO E ch) hi = some vh) (hu : P.underlying t = some (.slice e)) (hsz : sizeV P e = some sz)
    (hl : loV vl = some l) (hh : hiV len vh = some h)
    (hch : chainOf ops E o.guard = some ch) (hd : dstOk n ch o.dst = true) (hk : chKnown E ch = true)
    (hb : chB E ch → 0 ≤ l ∧ l ≤ h ∧ h ≤ cap)
    (k : GL d P ops (i + 1) Q n (Env.put E o.dst ch (.slice (cutA a cap l.toNat sz) (h.toNat - l.toNat) (cap - l.toNat))) W0 H) : GL d P ops i Q n E W0 H := by
  refine GL_quiet ho hch hd hk (fun r hr hcb w _ => ?_) k
  obtain ⟨h0, h1, h2⟩ := hb hcb
  have hm : ∀ {y : Option Operand} {v : Option Value}, evOO (evO E ch) y = some v → y.map r = v := by
    intro y v hv
    cases y with
    | none => simp only [evOO, Option.some.injEq] at hv; subst hv; rfl
    | some y =>
      simp only [evOO] at hv
      split at hv
      · rename_i u hu; injection hv with hv; subst hv; simp [hr _ _ hu]
      · simp at hv
  unfold execOp
  simp only [hop]
  rw [hr _ _ hx, hm hvl, hm hvh]
  simp only [Instr.sliceAt, Instr.slice, Sem.run_bind, run_underlying hu, Result.andThen_ok, Option.map_none,
    run_sliceBounds (P := P) (isSlice := true) hl hh h0 h1 h2, sizeV_sound hsz, Sem.run_pure]
  exact ⟨rfl, rfl⟩
def Own (et : TypeId) (sz : Nat) (v : Value) (g : Grp) (n : Nat) (cs : List Value) : Prop :=
  cs.length = n * sz ∧ ((v = .slice none 0 0 ∧ g = [] ∧ n = 0) ∨ ∃ b cap junk, v = .slice (some ⟨b, 0, none⟩) n cap ∧ g = [(b, .cells (cs ++ junk).toArray et (0, 0))] ∧ n ≤ cap ∧ (cs ++ junk).length = cap * sz)
theorem Own.nil {et : TypeId} {sz : Nat} : Own et sz (.slice none 0 0) [] 0 [] := ⟨by simp, .inl ⟨rfl, rfl, rfl⟩⟩
theorem Own.lit {et : TypeId} {sz b n : Nat} {cs : List Value} (h : cs.length = n * sz) : Own et sz (.slice (some ⟨b, 0, none⟩) n n) [(b, .cells cs.toArray et (0, 0))] n cs :=
  ⟨h, .inr ⟨b, n, [], rfl, by simp, Nat.le_refl _, by simpa using h⟩⟩
theorem Own.shape {et : TypeId} {sz : Nat} {v : Value} {g : Grp} {n : Nat} {cs : List Value} (h : Own et sz v g n cs) : ∃ a cap, v = .slice a n cap ∧ n ≤ cap ∧ Rd (inG g) a cs := by
  obtain ⟨hl, ⟨rfl, rfl, rfl⟩ | ⟨b, cap, junk, rfl, rfl, hc, hj⟩⟩ := h
  · exact ⟨none, 0, rfl, Nat.le_refl _, .inl (by cases cs with | nil => rfl | cons _ _ => simp at hl)⟩
  · refine ⟨_, _, rfl, hc, .inr ⟨b, 0, _, _, _, rfl, List.mem_singleton.2 rfl, fun j u hu => ?_⟩⟩
    have : j < cs.length := by
      rcases Nat.lt_or_ge j cs.length with h | h
      · exact h
      · rw [List.getElem?_eq_none h] at hu; simp at hu
    rw [List.getElem?_toArray, Nat.zero_add, List.getElem?_append_left this]
    exact hu
inductive SrcOf (S : Nat → Obj → Prop) : Value → Nat → List Value → Prop
  | slice (a : Option Addr) (m cap : Nat) (cs : List Value) (h : Rd S a cs) (h0 : a = none → m = 0) : SrcOf S (.slice a m cap) m cs
  | str (s : ByteArray) : SrcOf S (.string s) s.size (byteCells s)
theorem setRow_mid : ∀ (l : List Value) (pre post : List Value) (old : List Value), old.length = l.length → setRow (pre ++ old ++ post).toArray pre.length l = (pre ++ l ++ post).toArray
  | [], pre, post, old, h => by
    have : old = [] := by cases old with | nil => rfl | cons _ _ => simp at h
    subst this; simp [setRow]
  | v :: l, pre, post, old, h => by
    cases old with
    | nil => simp at h
    | cons x old =>
      simp only [setRow]
      have e1 : ((pre ++ x :: old ++ post).toArray.setIfInBounds pre.length v) = ((pre ++ [v]) ++ old ++ post).toArray := by
        simp
      rw [e1]
      have := setRow_mid l (pre ++ [v]) post old (by simpa using h)
      simp only [List.length_append, List.length_cons, List.length_nil, Nat.zero_add] at this
      rw [this]
      simp
theorem srcOf_run {P : Program} {S : Nat → Obj → Prop} {x : Value} {m sz : Nat} {cs : List Value} {tx : TypeId} (h : SrcOf S x m cs) (hk : (∃ e', P.underlying tx = some (.slice e')) ∨ (P.underlying tx = some .string ∧ sz = 1))
    (hks : (∃ s, x = .string s) → sz = 1 ∧ P.underlying tx = some .string) (hkl : (∃ a n c, x = .slice a n c) → ∃ e', P.underlying tx = some (.slice e')) (hl : cs.length = m * sz) (h1 : ∀ u ∈ cs, u.oneCell' = true) {w : World} (hS : ∀ b o, S b o → w.heap[b]? = some o) : Src P sz tx x m cs w := by
  cases h with
  | slice a m cap cs hrd h0 =>
    obtain ⟨e', he⟩ := hkl ⟨_, _, _, rfl⟩
    rcases hrd with hn | ⟨b, off, c, e, fz, h2, h3, h4⟩
    · subst hn
      cases a with
      | none =>
        have := h0 rfl; subst this
        exact Src.ofNil w he cap
      | some a => exact Src.ofSlice w he a m cap [] hl (fun j u hu => by simp at hu) (fun u hu => by simp at hu)
    · subst h2
      refine Src.ofSlice w he _ m cap cs hl (fun j u hu => ?_) h1
      rw [addr_add]
      exact cell_of (hS _ _ h3) (h4 j u hu)
  | str s =>
    obtain ⟨rfl, hs⟩ := hks ⟨s, rfl⟩
    exact Src.ofString w hs s
theorem set_perm : ∀ {H : List Grp} {j : Nat} {g : Grp} (g' : Grp), H[j]? = some g → (H.set j g').Perm (g' :: H.eraseIdx j)
  | [], j, g, g', h => by simp at h
  | x :: H, 0, g, g', h => by simp
  | x :: H, j + 1, g, g', h => by
    simp only [List.set_cons_succ, List.eraseIdx_cons_succ]
    exact (List.Perm.cons x (set_perm g' (by simpa using h))).trans (List.Perm.swap _ _ _)
theorem sublist_flatten {α : Type} {A B : List (List α)} (h : A.Sublist B) : A.flatten.Sublist B.flatten := by
  induction h with
  | slnil => exact List.Sublist.refl _
  | cons a _ ih => simp only [List.flatten_cons]; exact ih.trans (List.sublist_append_right _ _)
  | cons_cons a _ ih => simp only [List.flatten_cons]; exact List.Sublist.append (List.Sublist.refl _) ih
theorem Sat.replace {W0 : World} {H : List Grp} {g g' : Grp} {j : Nat} {w : World} (h : Sat W0 (g' :: H) w) (hj : H[j]? = some g) : Sat W0 (H.set j g') w := by
  refine Sat.perm ?_ (set_perm g' hj).symm
  refine h.subl ?_
  simp only [List.flatten_cons]
  exact List.Sublist.append (List.Sublist.refl _) (sublist_flatten (List.eraseIdx_sublist _ _))
theorem At.cons {W0 : World} {H : List Grp} {g : Grp} {b : Nat} {o : Obj} (h : At W0 H b o) : At W0 (g :: H) b o := by
  rcases h with h | h
  · exact .inl h
  · exact .inr (by simp only [List.flatten_cons, List.mem_append]; exact .inr h)
theorem Sat.erase {W0 : World} {H : List Grp} {w : World} (h : Sat W0 H w) (j : Nat) : Sat W0 (H.eraseIdx j) w := h.subl (sublist_flatten (List.eraseIdx_sublist _ _))
theorem erase_perm : ∀ {H : List Grp} {j : Nat} {g : Grp}, H[j]? = some g → H.Perm (g :: H.eraseIdx j)
  | [], j, g, h => by simp at h
  | x :: H, 0, g, h => by simp at h; simp [h]
  | x :: H, j + 1, g, h => by
    simp only [List.eraseIdx_cons_succ]
    exact (List.Perm.cons x (erase_perm (by simpa using h))).trans (List.Perm.swap _ _ _)
theorem Sat.front {W0 : World} {H : List Grp} {w : World} (h : Sat W0 H w) {j : Nat} {g : Grp} (hj : H[j]? = some g) : Sat W0 (g :: H.eraseIdx j) w := h.perm (erase_perm hj)
theorem run_append_room {P : Program} {w : World} {t tx ty e : TypeId} {inf : TypeInfo} (ht : P.underlying t = some (.slice e)) (hi : P.info? e = some inf) {b sLen sCap : Nat} {x : Value} {m : Nat} {news : List Value} (hs : Src P inf.size tx x m news w)
    (hroom : sLen + m ≤ sCap) {w' : World} (hst : (storeCells ⟨b, sLen * inf.size, none⟩ news 0).run P w = .ok () w') :
    (Builtin.append_ #[t, tx] ty #[.slice (some ⟨b, 0, none⟩) sLen sCap, x]).run P w = .ok (.slice (some ⟨b, 0, none⟩) (sLen + m) sCap) w' := by
  have ha : (⟨b, 0, none⟩ : Addr).add (sLen * inf.size) = ⟨b, sLen * inf.size, none⟩ := by rw [addr_add, Nat.zero_add]
  rcases hs.kind with ⟨e', hk⟩ | hk <;> simp [Builtin.append_, run_underlying ht, run_underlying hk, sizeOf, typeInfo, hi, hs.len, hroom, hs.cells, ha, hst]
theorem zeroCells_len (z : Array Value) (m : Nat) : (Builtin.zeroCells z m).size = m * z.size := by simp [Builtin.zeroCells]
theorem GL_append {P : Program} {ops : Array Oper} {i : Nat} {Q : Post} {q : Nat} {E : Env} {W0 : World} {H : List Grp} {o : Oper} {ch : List (Nat × Bool)} {c : Call} {t tx e : TypeId} {inf : TypeInfo} {z s x : Value} {n m j : Nat} {cs news : List Value} {g : Grp} {S : Nat → Obj → Prop}
    (ho : ops[i]? = some o) (hop : o.op = .call c) (hce : c.callee = .builtin .append) (hat : c.argTypes = #[t, tx]) (hargs : evL (evO E ch) c.args.toList = some [s, x])
    (ht : P.underlying t = some (.slice e)) (hi : P.info? e = some inf) (hz : inf.zero = some z) (hzs : z.cells.size = inf.size)
    (hkind : (∃ e', P.underlying tx = some (.slice e')) ∨ (P.underlying tx = some .string ∧ inf.size = 1))
    (hks : (∃ s, x = .string s) → inf.size = 1 ∧ P.underlying tx = some .string) (hkl : (∃ a n c, x = .slice a n c) → ∃ e', P.underlying tx = some (.slice e'))
    (hch : chainOf ops E o.guard = some ch) (hd : dstOk q ch o.dst = true) (hsure : chSure E ch = true)
    (hj : H[j]? = some g) (hown : Own e inf.size s g n cs) (hsrc : SrcOf S x m news) (hS : ∀ b o, S b o → At W0 H b o) (hl : news.length = m * inf.size) (h1 : ∀ u ∈ news, u.oneCell' = true)
    (hmax : n + m ≤ 9223372036854775807) (hbytes : (n + m) * inf.bytes ≤ 140737488355328)
    (k : ∀ v g', Own e inf.size v g' (n + m) (cs ++ news) → GL false P ops (i + 1) Q q (Env.put E o.dst ch v) W0 (H.set j g')) : GL false P ops i Q q E W0 H := by
  refine GL_eff (R := fun v H1 => ∃ g', Own e inf.size v g' (n + m) (cs ++ news) ∧ H1 = H.set j g') ho hch hd hsure (fun r hr w hs => ?_) (by rintro v H1 ⟨g', ho', rfl⟩; exact k v g' ho')
  have hS' : ∀ b o, S b o → w.heap[b]? = some o := fun b o h => hs.at (hS b o h)
  have hsrc' : Src P inf.size tx x m news w := srcOf_run hsrc hkind hks hkl hl h1 hS'
  have hexec : ∀ {v : Value} {w' : World}, (Builtin.append_ #[t, tx] o.type #[s, x]).run P w = .ok v w' → (execOp r o).run P w = .ok (.value v) w' := by
    intro v w' h
    unfold execOp
    simp only [hop, resolve, hce, hat, arr_map hr hargs, Sem.run_bind, Sem.run_pure, Result.andThen_ok, invoke, Go.builtin, h]
  have hlen2 : (cs ++ news).length = (n + m) * inf.size := by
    rw [List.length_append, hown.1, hl, Nat.add_mul]
  have hsame : H.set j g = H := by
    apply List.ext_getElem?
    intro q
    rw [List.getElem?_set]
    split
    · rename_i e1; subst e1; split
      · exact hj.symm
      · rename_i hlt; rw [List.getElem?_eq_none (by omega)]
    · rfl
  obtain ⟨hlc, ⟨rfl, rfl, rfl⟩ | ⟨b, cap, junk, rfl, rfl, hcap, hjunk⟩⟩ := hown
  · have hcs : cs = [] := by cases cs with | nil => rfl | cons _ _ => simp at hlc
    subst hcs
    by_cases hm : m = 0
    · subst hm
      have hn : news = [] := by cases news with | nil => rfl | cons _ _ => simp at hl
      subst hn
      refine ⟨.slice none 0 0, w, H, ⟨[], Own.nil, hsame.symm⟩, hs, .inl (hexec ?_)⟩
      rcases hsrc'.kind with ⟨e', hk⟩ | hk <;> simp [Builtin.append_, run_underlying ht, run_underlying hk, sizeOf, typeInfo, hi, hsrc'.len, hsrc'.cells]
    · have hg := run_append_grow_src (P := P) w t tx o.type e inf z ht hi hz none 0 0 [] (run_firstCells_none w.drew _ 0 0 0) x m news hsrc' (by omega) (by omega) (growslice_fits (by omega) hbytes)
      simp only [Nat.zero_add, List.nil_append] at hg
      refine ⟨_, _, H.set j [(w.heap.size, .cells (news ++ (Builtin.zeroCells z.cells (grownCap w m 0 e - m)).toList).toArray e (0, 0))], ⟨_, ⟨by simpa using hl, .inr ⟨w.heap.size, grownCap w m 0 e, (Builtin.zeroCells z.cells (grownCap w m 0 e - m)).toList, by rw [Nat.zero_add], by simp, by rw [Nat.zero_add]; exact grownCap_ge w m 0 e, ?_⟩⟩, rfl⟩, ?_, .inl (hexec hg)⟩
      · have := grownCap_ge w m 0 e
        simp only [List.nil_append, List.length_append, hl, Array.length_toList, zeroCells_len, hzs, ← Nat.add_mul]
        congr 1; omega
      · have h2 := (hs.drew).new (w' := w.drew.alloc (.cells (news.toArray ++ Builtin.zeroCells z.cells (grownCap w m 0 e - m)) e)) (o := .cells (news.toArray ++ Builtin.zeroCells z.cells (grownCap w m 0 e - m)) e) rfl rfl rfl rfl
        have h3 := h2.replace hj
        have e1 : (news ++ (Builtin.zeroCells z.cells (grownCap w m 0 e - m)).toList).toArray = news.toArray ++ Builtin.zeroCells z.cells (grownCap w m 0 e - m) := by apply Array.ext'; simp
        rw [e1]; exact h3
  · by_cases hroom : n + m ≤ cap
    · have hblk : w.heap[b]? = some (.cells (cs ++ junk).toArray e (0, 0)) := hs.has (b, _) (List.mem_flatten.2 ⟨_, List.mem_of_getElem? hj, List.mem_singleton.2 rfl⟩)
      have hjl : junk.length = (cap - n) * inf.size := by
        rw [List.length_append, hlc] at hjunk
        rw [Nat.sub_mul]; omega
      have hfit : n * inf.size + news.length ≤ (cs ++ junk).length := by
        rw [hjunk, hl, ← Nat.add_mul]; exact Nat.mul_le_mul_right _ hroom
      obtain ⟨w', hr', _, hw'⟩ := run_storeCells (P := P) news (w := w) (off := n * inf.size) (i := 0) hblk (by simpa using hfit) (fun k _ => by simp [thawed]) (List.all_eq_true.2 h1)
      have hrow : setRow (cs ++ junk).toArray (n * inf.size + 0) news = ((cs ++ news) ++ junk.drop news.length).toArray := by
        have hnl : news.length ≤ junk.length := by
          rw [hl, hjl]; exact Nat.mul_le_mul_right _ (by omega)
        have := setRow_mid news cs (junk.drop news.length) (junk.take news.length) (by simp [hnl])
        rw [List.append_assoc, List.take_append_drop, hlc] at this
        exact this
      rw [hrow] at hw'
      refine ⟨.slice (some ⟨b, 0, none⟩) (n + m) cap, w', H.set j ([(b, .cells ((cs ++ news) ++ junk.drop news.length).toArray e (0, 0))]), ⟨_, ⟨hlen2, .inr ⟨b, cap, junk.drop news.length, rfl, rfl, hroom, ?_⟩⟩, rfl⟩, ?_, .inl (hexec (run_append_room ht hi hsrc' hroom hr'))⟩
      · rw [List.length_append, List.length_append, List.length_drop, hjl, hl, hlc]
        have h2 : (cap - n) * inf.size = (cap - n - m) * inf.size + m * inf.size := by rw [← Nat.add_mul]; congr 1; omega
        have h3 : cap * inf.size = n * inf.size + m * inf.size + (cap - n - m) * inf.size := by rw [← Nat.add_mul, ← Nat.add_mul]; congr 1; omega
        omega
      · exact hs.wr hj (i := 0) rfl hw'
    · have hblk : w.heap[b]? = some (.cells (cs ++ junk).toArray e (0, 0)) := hs.has (b, _) (List.mem_flatten.2 ⟨_, List.mem_of_getElem? hj, List.mem_singleton.2 rfl⟩)
      have hold : (Builtin.firstCells inf.size n (.slice (some ⟨b, 0, none⟩) n cap)).run P w.drew = .ok cs.toArray w.drew := by
        refine run_firstCells_some (P := P) w.drew inf.size n ⟨b, 0, none⟩ n cap cs hlc (fun j v hv => ?_)
        rw [addr_add, Nat.zero_add]
        have hlt : j < cs.length := by
          rcases Nat.lt_or_ge j cs.length with h | h
          · exact h
          · rw [List.getElem?_eq_none h] at hv; simp at hv
        exact cell_of (w := w.drew) hblk (by rw [List.getElem?_toArray, List.getElem?_append_left hlt]; exact hv)
      have hg := run_append_grow_src (P := P) w t tx o.type e inf z ht hi hz (some ⟨b, 0, none⟩) n cap cs hold x m news hsrc' (by omega) (by omega) (growslice_fits (by omega) hbytes)
      have hge := grownCap_ge w (n + m) cap e
      refine ⟨_, _, H.set j [(w.heap.size, .cells ((cs ++ news) ++ (Builtin.zeroCells z.cells (grownCap w (n + m) cap e - (n + m))).toList).toArray e (0, 0))], ⟨_, ⟨hlen2, .inr ⟨w.heap.size, grownCap w (n + m) cap e, (Builtin.zeroCells z.cells (grownCap w (n + m) cap e - (n + m))).toList, rfl, rfl, hge, ?_⟩⟩, rfl⟩, ?_, .inl (hexec hg)⟩
      · rw [List.length_append, hlen2, Array.length_toList, zeroCells_len, hzs, ← Nat.add_mul]
        congr 1; omega
      · have h2 := (hs.drew).new (w' := w.drew.alloc (.cells ((cs ++ news).toArray ++ Builtin.zeroCells z.cells (grownCap w (n + m) cap e - (n + m))) e)) (o := .cells ((cs ++ news).toArray ++ Builtin.zeroCells z.cells (grownCap w (n + m) cap e - (n + m))) e) rfl rfl rfl rfl
        have h3 := h2.replace hj
        have e1 : ((cs ++ news) ++ (Builtin.zeroCells z.cells (grownCap w (n + m) cap e - (n + m))).toList).toArray = (cs ++ news).toArray ++ Builtin.zeroCells z.cells (grownCap w (n + m) cap e - (n + m)) := by apply Array.ext'; simp
        rw [e1]; exact h3
end Go.Sw
namespace Go.Sw
open Go.RowKit
theorem baEq {a b : ByteArray} : (a == b) = true ↔ a = b := by
  constructor
  · intro h
    have h' : (a.data == b.data) = true := h
    cases a; cases b; simpa using h'
  · intro h
    subst h
    show (a.data == a.data) = true
    simp
theorem baNe {a b : ByteArray} : (a == b) = false ↔ a ≠ b := by
  rw [← Bool.not_eq_true, ne_eq, baEq]
abbrev SM := List (ByteArray × Value × Nat)
def entM (e : ByteArray × Value × Nat) : MapEntry := ⟨.string e.1, e.2.1, e.2.2⟩
def encM (m : SM) : Array MapEntry := (m.map entM).toArray
def mfind (k : ByteArray) : SM → Nat → Option (Nat × Value)
  | [], _ => none
  | e :: r, i => if k == e.1 then some (i, e.2.1) else mfind k r (i + 1)
def mget (m : SM) (k : ByteArray) : Option Value := (mfind k m 0).map (·.2)
def mput : SM → Nat → ByteArray → Value → SM
  | [], c, k, v => [(k, v, c)]
  | e :: r, c, k, v => if k == e.1 then (k, v, e.2.2) :: r else e :: mput r c k v
def mdel : SM → ByteArray → SM
  | [], _ => []
  | e :: r, k => if k == e.1 then r else e :: mdel r k
def mhas (m : SM) (k : ByteArray) : Bool := m.any fun e => k == e.1
theorem findNow_enc (k : ByteArray) : ∀ (m : SM) (i : Nat), Instr.findNow .string (.string k) (m.map entM) i = some (mfind k m i)
  | [], i => rfl
  | e :: r, i => by
    simp only [List.map_cons, Instr.findNow, entM, Instr.sameNow, mfind]
    cases h : k == e.1
    · simp only [Bool.false_eq_true, if_false]; exact findNow_enc k r (i + 1)
    · simp
theorem run_checkKey {P : Program} {b : Bool} {kt : TypeId} (h : P.underlying kt = some .string) (k : ByteArray) (w : World) : ∀ d, (Instr.checkKey b (d + 1) kt (.string k)).run P w = .ok () w := by
  intro d
  simp [Instr.checkKey, run_underlying h]
theorem run_findKey {P : Program} {kt : TypeId} (h : P.underlying kt = some .string) (k : ByteArray) (m : SM) (w : World) : (Instr.findKey kt (.string k) (encM m).toList).run P w = .ok (mfind k m 0) w := by
  simp only [Instr.findKey, Sem.run_bind, run_underlying h, Result.andThen_ok, encM, List.toList_toArray, findNow_enc]
  rfl
theorem run_getObj_map {P : Program} {w : World} {r : Nat} {es : Array MapEntry} {c : Nat} (h : w.heap[r]? = some (.map es c)) : (getObj r).run P w = .ok (.map es c) w := by
  simp [getObj, Sem.run, h]
def lookV (ok : Bool) (z : Value) : Option Value → Value
  | some v => if ok then .tuple #[v, .bool true] else v
  | none => if ok then .tuple #[z, .bool false] else z
theorem GL_lookup {d : Bool} {P : Program} {ops : Array Oper} {i : Nat} {Q : Post} {n : Nat} {E : Env} {W0 : World} {H : List Grp} {o : Oper} {ch : List (Nat × Bool)} {t kt et : TypeId} {x ix : Operand} {ok : Bool} {r c : Nat} {m : SM} {k : ByteArray} {z : Value} {ov : Option Value}
    (ho : ops[i]? = some o) (hop : o.op = .lookup t x ix ok) (hx : evO E ch x = some (.map (some r))) (hix : evO E ch ix = some (.string k)) (hu : P.underlying t = some (.map kt et)) (hkt : P.underlying kt = some .string) (hz : zeroV P et = some z)
    (hch : chainOf ops E o.guard = some ch) (hd : dstOk n ch o.dst = true) (hk : chKnown E ch = true)
    (hA : At W0 H r (.map (encM m) c)) (hg : chB E ch → mget m k = ov)
    (kk : GL d P ops (i + 1) Q n (Env.put E o.dst ch (lookV ok z ov)) W0 H) : GL d P ops i Q n E W0 H := by
  refine GL_quiet ho hch hd hk (fun rr hr hcb w hs => ?_) kk
  have hg' := hg hcb
  unfold mget at hg'
  unfold execOp
  simp only [hop]
  rw [hr _ _ hx, hr _ _ hix]
  have hck := run_checkKey (P := P) (b := (encM m).isEmpty) hkt k w 9999
  simp only [Instr.lookup, Sem.run_bind, run_underlying hu, Result.andThen_ok, run_getObj_map (hs.at hA), Sem.run_pure]
  rw [hck]
  simp only [Result.andThen_ok, run_findKey hkt]
  cases hf : mfind k m 0 with
  | none => rw [hf] at hg'; simp at hg'; subst hg'; simp only [Sem.run_bind, zeroV_sound hz, Result.andThen_ok, Sem.run_pure]; exact ⟨rfl, by cases ok <;> rfl⟩
  | some p => rw [hf] at hg'; simp at hg'; subst hg'; exact ⟨rfl, by cases ok <;> rfl⟩
theorem Wr_setObj {P : Program} {w : World} {b : Nat} {o o' : Obj} (h : w.heap[b]? = some o) (hc : (match o with | .cells .. => false | _ => true) = true) :
    ∃ w', (setObj b o').run P w = .ok () w' ∧ Wr b o' w w' := by
  have hb : b < w.heap.size := by
    rcases Nat.lt_or_ge b w.heap.size with h' | h'
    · exact h'
    · simp [Array.getElem?_eq_none h'] at h
  refine ⟨{ w with heap := w.heap.setIfInBounds b o' }, ?_, rfl, rfl, rfl, by simp, by simp [hb], fun k hk => ?_⟩
  · simp only [setObj, Sem.run, h]
    cases o <;> simp at hc <;> rfl
  · show (w.heap.setIfInBounds b o')[k]? = _
    rw [Array.getElem?_setIfInBounds_ne (fun e => hk e.symm)]
theorem mfind_put {k : ByteArray} : ∀ (m : SM) (i : Nat) (c : Nat) (v : Value), (mfind k m i = none → mput m c k v = m ++ [(k, v, c)] ∧ mhas m k = false) ∧
    (∀ j u, mfind k m i = some (j, u) → i ≤ j ∧ mhas m k = true ∧ (m.map entM).toArray.modify (j - i) (fun e => { e with key := .string k, val := v }) = (mput m c k v |>.map entM).toArray ∧ ((m.map entM)[j - i]?).isSome = true ∧ (∃ k', ((m.map entM)[j - i]?).map (·.key) = some (.string k') ∧ (k == k') = true))
  | [], i, c, v => by
    constructor
    · intro _; exact ⟨rfl, rfl⟩
    · intro j u h; simp [mfind] at h
  | e :: r, i, c, v => by
    obtain ⟨ih1, ih2⟩ := mfind_put (k := k) r (i + 1) c v
    simp only [mfind, mput, mhas, List.any_cons]
    cases hk : k == e.1
    · simp only [Bool.false_eq_true, if_false, Bool.false_or]
      constructor
      · intro h; obtain ⟨h1, h2⟩ := ih1 h; exact ⟨by rw [h1]; rfl, h2⟩
      · intro j u h
        obtain ⟨h1, h2, h3, h4, h5⟩ := ih2 j u h
        refine ⟨by omega, h2, ?_, ?_, ?_⟩
        · have e1 : j - i = (j - (i + 1)) + 1 := by omega
          apply Array.ext'
          have h3' := congrArg Array.toList h3
          simp only [Array.toList_modify] at h3' ⊢
          rw [e1, List.map_cons, List.modify_succ_cons, h3', List.map_cons]
        · have e1 : j - i = (j - (i + 1)) + 1 := by omega
          rw [e1, List.map_cons, List.getElem?_cons_succ]; exact h4
        · have e1 : j - i = (j - (i + 1)) + 1 := by omega
          rw [e1, List.map_cons, List.getElem?_cons_succ]; exact h5
    · simp only [if_true, Bool.true_or]
      constructor
      · intro h; simp at h
      · intro j u h
        simp only [Option.some.injEq, Prod.mk.injEq] at h
        obtain ⟨rfl, _⟩ := h
        refine ⟨Nat.le_refl _, trivial, ?_, ?_, ?_⟩
        · apply Array.ext'
          simp [entM]
        · simp
        · exact ⟨e.1, by simp [entM], hk⟩
theorem run_mapUpdate {P : Program} {t kt et : TypeId} (hu : P.underlying t = some (.map kt et)) (hkt : P.underlying kt = some .string) {w : World} {r c : Nat} {m : SM} (h : w.heap[r]? = some (.map (encM m) c)) (k : ByteArray) (v : Value) :
    ∃ w', (Instr.mapUpdate t (.map (some r)) (.string k) v).run P w = .ok () w' ∧ Wr r (.map (encM (mput m c k v)) (if mhas m k then c else c + 1)) w w' := by
  have hck := run_checkKey (P := P) (b := false) hkt k w 9999
  obtain ⟨hp1, hp2⟩ := mfind_put (k := k) m 0 c v
  cases hf : mfind k m 0 with
  | none =>
    obtain ⟨h1, h2⟩ := hp1 hf
    obtain ⟨w', hr', hw'⟩ := Wr_setObj (P := P) h (o' := .map (encM (mput m c k v)) (c + 1)) rfl
    refine ⟨w', ?_, by rw [h2]; exact hw'⟩
    simp only [Instr.mapUpdate, Sem.run_bind, run_underlying hu, Result.andThen_ok, run_getObj_map h]
    rw [hck]
    simp only [Result.andThen_ok, run_findKey hkt, hf]
    rw [← hr']
    congr 3
    rw [h1]
    simp [encM, entM]
  | some p =>
    obtain ⟨j, u⟩ := p
    obtain ⟨_, h2, h3, h4, k', h5, h6⟩ := hp2 j u hf
    simp only [Nat.sub_zero] at h3 h4 h5
    obtain ⟨w', hr', hw'⟩ := Wr_setObj (P := P) h (o' := .map (encM (mput m c k v)) c) rfl
    refine ⟨w', ?_, by rw [h2]; exact hw'⟩
    simp only [Instr.mapUpdate, Sem.run_bind, run_underlying hu, Result.andThen_ok, run_getObj_map h]
    rw [hck]
    simp only [Result.andThen_ok, run_findKey hkt, hf]
    have hks : (Instr.keyThatStays ((((encM m)[j]?).map (·.key)).getD (.string k)) (.string k)).run P w = .ok (.string k) w := by
      have e1 : ((encM m)[j]?).map (·.key) = some (.string k') := by rw [← h5]; simp [encM]
      have e2 : (k' == k) = true := by
        rw [baEq] at h6 ⊢
        exact h6.symm
      rw [e1]
      simp only [Option.getD_some, Instr.keyThatStays]
      have : Instr.sameBits 10000 (.string k') (.string k) = true := by
        show Instr.sameBits (9999 + 1) _ _ = true
        simpa [Instr.sameBits] using e2
      rw [if_pos this]
      rfl
    simp only [Sem.run_bind, hks, Result.andThen_ok]
    rw [← hr']
    congr 3
theorem GL_mapPut {P : Program} {ops : Array Oper} {i : Nat} {Q : Post} {n : Nat} {E : Env} {W0 : World} {H H' : List Grp} {o : Oper} {ch : List (Nat × Bool)} {t kt et : TypeId} {x y u : Operand} {r c j q : Nat} {m : SM} {k : ByteArray} {v : Value} {g : Grp}
    (ho : ops[i]? = some o) (hop : o.op = .mapUpdate t x y u ∨ o.op = .insert t x y u) (hx : evO E ch x = some (.map (some r))) (hy : evO E ch y = some (.string k)) (hv : evO E ch u = some v)
    (hu : P.underlying t = some (.map kt et)) (hkt : P.underlying kt = some .string)
    (hch : chainOf ops E o.guard = some ch) (hd : dstOk n ch o.dst = true) (hsure : chSure E ch = true)
    (hj : H[j]? = some g) (hi : g[q]? = some (r, .map (encM m) c)) (hH' : H.set j (g.set q (r, .map (encM (mput m c k v)) (if mhas m k then c else c + 1))) = H')
    (kk : GL false P ops (i + 1) Q n (Env.put E o.dst ch undef) W0 H') : GL false P ops i Q n E W0 H := by
  refine GL_eff (R := fun v H1 => v = undef ∧ H1 = H') ho hch hd hsure (fun rr hr w hs => ?_) (by rintro v H1 ⟨rfl, rfl⟩; exact kk)
  have hblk := hs.has _ (List.mem_flatten.2 ⟨g, List.mem_of_getElem? hj, List.mem_of_getElem? hi⟩)
  obtain ⟨w', hr', hw'⟩ := run_mapUpdate hu hkt hblk k v
  refine ⟨undef, w', H', ⟨rfl, rfl⟩, by rw [← hH']; exact hs.wr hj hi hw', .inr ⟨?_, rfl⟩⟩
  unfold execOp
  rcases hop with hop | hop <;>
    (simp only [hop]
     rw [hr _ _ hx, hr _ _ hy, hr _ _ hv]
     simp only [Sem.run_bind, hr', Result.andThen_ok]
     rfl)
theorem mfind_del {k : ByteArray} : ∀ (m : SM) (i : Nat), (mfind k m i = none → mdel m k = m) ∧ (∀ j u, mfind k m i = some (j, u) → i ≤ j ∧ (m.map entM).toArray.eraseIdxIfInBounds (j - i) = (mdel m k |>.map entM).toArray)
  | [], i => by simp [mfind, mdel]
  | e :: r, i => by
    obtain ⟨ih1, ih2⟩ := mfind_del (k := k) r (i + 1)
    simp only [mfind, mdel]
    cases hk : k == e.1
    · simp only [Bool.false_eq_true, if_false]
      constructor
      · intro h; rw [ih1 h]
      · intro j u h
        obtain ⟨h1, h3⟩ := ih2 j u h
        refine ⟨by omega, ?_⟩
        have e1 : j - i = (j - (i + 1)) + 1 := by omega
        apply Array.ext'
        have h3' := congrArg Array.toList h3
        simp only [Array.toList_eraseIdxIfInBounds] at h3' ⊢
        rw [e1, List.map_cons, List.eraseIdx_cons_succ, h3', List.map_cons]
    · simp only [if_true]
      constructor
      · intro h; simp at h
      · intro j u h
        simp only [Option.some.injEq, Prod.mk.injEq] at h
        obtain ⟨rfl, _⟩ := h
        refine ⟨Nat.le_refl _, ?_⟩
        apply Array.ext'
        simp
theorem GL_delete {P : Program} {ops : Array Oper} {i : Nat} {Q : Post} {n : Nat} {E : Env} {W0 : World} {H H' : List Grp} {o : Oper} {ch : List (Nat × Bool)} {cl : Call} {t kt et : TypeId} {ts : Array TypeId} {r c j q : Nat} {m : SM} {k : ByteArray} {g : Grp}
    (ho : ops[i]? = some o) (hop : o.op = .call cl) (hce : cl.callee = .builtin .delete) (hts : cl.argTypes = ts) (hat : ts[0]? = some t) (hargs : evL (evO E ch) cl.args.toList = some [.map (some r), .string k])
    (hu : P.underlying t = some (.map kt et)) (hkt : P.underlying kt = some .string)
    (hch : chainOf ops E o.guard = some ch) (hd : dstOk n ch o.dst = true) (hsure : chSure E ch = true)
    (hj : H[j]? = some g) (hi : g[q]? = some (r, .map (encM m) c)) (hH' : H.set j (g.set q (r, .map (encM (mdel m k)) c)) = H')
    (kk : GL false P ops (i + 1) Q n (Env.put E o.dst ch (.tuple #[])) W0 H') : GL false P ops i Q n E W0 H := by
  refine GL_eff (R := fun v H1 => v = .tuple #[] ∧ H1 = H') ho hch hd hsure (fun rr hr w hs => ?_) (by rintro v H1 ⟨rfl, rfl⟩; exact kk)
  have hblk := hs.has _ (List.mem_flatten.2 ⟨g, List.mem_of_getElem? hj, List.mem_of_getElem? hi⟩)
  obtain ⟨w', hr', hw'⟩ := Wr_setObj (P := P) hblk (o' := .map (encM (mdel m k)) c) rfl
  refine ⟨.tuple #[], w', H', ⟨rfl, rfl⟩, by rw [← hH']; exact hs.wr hj hi hw', .inl ?_⟩
  have hck := run_checkKey (P := P) (b := (encM m).isEmpty) hkt k w 9999
  obtain ⟨hp1, hp2⟩ := mfind_del (k := k) m 0
  have hrun : (Builtin.delete_ ts o.type #[.map (some r), .string k]).run P w = .ok (.tuple #[]) w' := by
    have h0 : (#[.map (some r), .string k] : Array Value)[0]? = some (.map (some r)) := rfl
    have h1 : (#[.map (some r), .string k] : Array Value)[1]? = some (.string k) := rfl
    simp only [Builtin.delete_, hat, h0, h1, Sem.run_bind, run_underlying hu, Result.andThen_ok, run_getObj_map hblk]
    rw [hck]
    simp only [Result.andThen_ok, run_findKey hkt]
    cases hf : mfind k m 0 with
    | none =>
      rw [hp1 hf] at hr'
      simp only [Sem.run_bind, hr', Result.andThen_ok]; rfl
    | some p =>
      obtain ⟨jj, u⟩ := p
      obtain ⟨_, h3⟩ := hp2 jj u hf
      simp only [Nat.sub_zero] at h3
      have e1 : (encM m).eraseIdxIfInBounds jj = encM (mdel m k) := h3
      simp only [e1, Sem.run_bind, hr', Result.andThen_ok]; rfl
  unfold execOp
  simp only [hop, resolve, hce, hts, arr_map hr hargs, Sem.run_bind, Sem.run_pure, Result.andThen_ok, invoke, Go.builtin, hrun]
structure MapOk (m : SM) (c : Nat) : Prop where
  keys : m.Pairwise fun x y => (x.1 == y.1) = false
  born : (m.map (·.2.2)).Nodup
  lt : ∀ e, e ∈ m → e.2.2 < c
theorem GL_range {P : Program} {ops : Array Oper} {i : Nat} {Q : Post} {n : Nat} {E : Env} {W0 : World} {H : List Grp} {o : Oper} {ch : List (Nat × Bool)} {t kt et : TypeId} {x : Operand} {r c : Nat} {m : SM}
    (ho : ops[i]? = some o) (hop : o.op = .range t x) (hx : evO E ch x = some (.map (some r))) (hu : P.underlying t = some (.map kt et))
    (hch : chainOf ops E o.guard = some ch) (hd : dstOk n ch o.dst = true) (hsure : chSure E ch = true)
    (hA : At W0 H r (.map (encM m) c))
    (kk : ∀ b, GL false P ops (i + 1) Q n (Env.put E o.dst ch (.pointer (some ⟨b, 0, none⟩))) W0 ([(b, .mapIter (some r) c #[] c)] :: H)) : GL false P ops i Q n E W0 H := by
  refine GL_eff (R := fun v H1 => ∃ b, v = .pointer (some ⟨b, 0, none⟩) ∧ H1 = [(b, .mapIter (some r) c #[] c)] :: H) ho hch hd hsure (fun rr hr w hs => ?_) (by rintro v H1 ⟨b, rfl, rfl⟩; exact kk b)
  refine ⟨_, w.alloc (.mapIter (some r) c #[] c), _, ⟨w.heap.size, rfl, rfl⟩, hs.new rfl rfl rfl rfl, .inl ?_⟩
  unfold execOp
  simp only [hop]
  rw [hr _ _ hx]
  simp only [Instr.range, Sem.run_bind, run_underlying hu, Result.andThen_ok, run_getObj_map (hs.at hA), Sem.run_pure, run_newObj]
  rfl
def seenOf (dn : SM) : Array Nat := (dn.map (·.2.2)).toArray
theorem run_getObj_iter {P : Program} {w : World} {r : Nat} {o : Obj} (h : w.heap[r]? = some o) (hc : (match o with | .cells .. => false | _ => true) = true) : (getObj r).run P w = .ok o w := by
  cases o <;> simp at hc <;> simp [getObj, Sem.run, h]
theorem GL_next {P : Program} {ops : Array Oper} {i : Nat} {Q : Post} {n : Nat} {E : Env} {W0 : World} {H : List Grp} {o : Oper} {ch : List (Nat × Bool)} {x : Operand} {it r c j q : Nat} {m dn rest : SM} {g : Grp}
    (ho : ops[i]? = some o) (hop : o.op = .next x false) (hx : evO E ch x = some (.pointer (some ⟨it, 0, none⟩)))
    (hch : chainOf ops E o.guard = some ch) (hd : dstOk n ch o.dst = true) (hsure : chSure E ch = true)
    (hj : H[j]? = some g) (hi : g[q]? = some (it, .mapIter (some r) c (seenOf dn) c)) (hA : At W0 H r (.map (encM m) c)) (hok : MapOk m c) (hp : (dn ++ rest).Perm m)
    (kEnd : rest = [] → GL false P ops (i + 1) Q n (Env.put E o.dst ch (.tuple #[.bool false])) W0 H)
    (kMore : ∀ e rest', rest.Perm (e :: rest') → (dn ++ [e] ++ rest').Perm m → GL false P ops (i + 1) Q n (Env.put E o.dst ch (.tuple #[.bool true, .string e.1, e.2.1])) W0 (H.set j (g.set q (it, .mapIter (some r) c (seenOf (dn ++ [e])) c)))) :
    GL false P ops i Q n E W0 H := by
  refine GL_eff (R := fun v H1 => (rest = [] ∧ v = .tuple #[.bool false] ∧ H1 = H) ∨ ∃ e rest', rest.Perm (e :: rest') ∧ (dn ++ [e] ++ rest').Perm m ∧ v = .tuple #[.bool true, .string e.1, e.2.1] ∧ H1 = H.set j (g.set q (it, .mapIter (some r) c (seenOf (dn ++ [e])) c)))
    ho hch hd hsure (fun rr hr w hs => ?_) (by
      rintro v H1 (⟨h1, rfl, rfl⟩ | ⟨e, rest', h1, h2, rfl, rfl⟩)
      · exact kEnd h1
      · exact kMore e rest' h1 h2)
  have hblk := hs.has _ (List.mem_flatten.2 ⟨g, List.mem_of_getElem? hj, List.mem_of_getElem? hi⟩)
  have hmap := hs.at hA
  -- the entries that are left
  have hborn : ((dn ++ rest).map (·.2.2)).Nodup := ((hp.map _).nodup_iff).2 hok.born
  have hmem : ∀ e, e ∈ m ↔ e ∈ dn ∨ e ∈ rest := fun e => by rw [← hp.mem_iff]; simp
  have hseen : ∀ e, e ∈ m → ((seenOf dn).contains e.2.2 = true ↔ e ∈ dn) := by
    intro e he
    simp only [seenOf, List.contains_toArray, List.contains_iff_mem, List.mem_map]
    constructor
    · rintro ⟨e', he', hb⟩
      have he'm : e' ∈ m := (hmem e').2 (.inl he')
      -- stamps tell entries apart
      have : e' = e := by
        have hnd := hok.born
        have : ∀ (l : SM), (l.map (·.2.2)).Nodup → ∀ a b, a ∈ l → b ∈ l → a.2.2 = b.2.2 → a = b := by
          intro l
          induction l with
          | nil => intro _ a b ha; simp at ha
          | cons y l ih =>
            intro hn a b ha hb' hab
            simp only [List.map_cons, List.nodup_cons] at hn
            rcases List.mem_cons.1 ha with rfl | ha2 <;> rcases List.mem_cons.1 hb' with rfl | hb2
            · rfl
            · exact absurd (List.mem_map.2 ⟨b, hb2, hab.symm⟩) hn.1
            · exact absurd (List.mem_map.2 ⟨a, ha2, hab⟩ : b.2.2 ∈ l.map (·.2.2)) hn.1
            · exact ih hn.2 a b ha2 hb2 hab
        exact this m hnd e' e he'm he hb
      exact this ▸ he'
    · intro h; exact ⟨e, h, rfl⟩
  have hdisj : ∀ e, e ∈ rest → e ∉ dn := by
    intro e he hd'
    rw [List.map_append, List.nodup_append] at hborn
    exact hborn.2.2 _ (List.mem_map.2 ⟨e, hd', rfl⟩) _ (List.mem_map.2 ⟨e, he, rfl⟩) rfl
  let left : SM := m.filter fun e => !(seenOf dn).contains e.2.2
  have hleft : (encM m).filter (fun e => !(seenOf dn).contains e.born) = encM left := by
    apply Array.ext'
    simp only [encM, Array.toList_filter, List.toList_toArray, left, List.filter_map]
    rfl
  have hleftmem : ∀ e, e ∈ left ↔ e ∈ rest := by
    intro e
    simp only [left, List.mem_filter, Bool.not_eq_true', ← Bool.not_eq_true]
    constructor
    · rintro ⟨h1, h2⟩
      rw [hseen e h1] at h2
      exact ((hmem e).1 h1).resolve_left h2
    · intro h
      have hm' := (hmem e).2 (.inr h)
      exact ⟨hm', by rw [hseen e hm']; exact hdisj e h⟩
  have hold : (encM left).filter (fun e => decide (e.born < c)) = encM left := by
    apply Array.filter_eq_self.2
    intro a ha
    simp only [encM, List.mem_toArray, List.mem_map] at ha
    obtain ⟨e, he, rfl⟩ := ha
    have := hok.lt e (by have := (List.mem_filter.1 he).1; exact this)
    exact decide_eq_true this
  have hnew : (encM left).filter (fun e => decide (e.born ≥ c)) = #[] := by
    apply Array.filter_eq_empty_iff.2
    intro a ha
    simp only [encM, List.mem_toArray, List.mem_map] at ha
    obtain ⟨e, he, rfl⟩ := ha
    have := hok.lt e (by have := (List.mem_filter.1 he).1; exact this)
    simp [entM]; exact this
  have hgone : (!(seenOf dn).isEmpty && !(encM m).isEmpty && (encM m).all (fun e => decide (e.born ≥ c))) = false := by
    cases hm : m with
    | nil => simp [encM]
    | cons e m' =>
      have := hok.lt e (by rw [hm]; exact List.mem_cons_self)
      have h2 : (encM (e :: m')).all (fun e => decide (e.born ≥ c)) = false := by
        simp only [encM, List.map_cons, List.all_toArray, List.all_cons]
        have : decide ((entM e).born ≥ c) = false := by simp [entM]; exact this
        simp [this]
      rw [h2]; simp
  have hexec : (execOp rr o).run P w = ((Instr.next (.pointer (some ⟨it, 0, none⟩)) false o.type).run P w).andThen fun v w' => .ok (.value v) w' := by
    unfold execOp
    simp only [hop]
    rw [hr _ _ hx]
    simp only [Sem.run_bind, Sem.run_pure]
  have hit := run_getObj_iter (P := P) hblk rfl
  have hstep : (Instr.next (.pointer (some ⟨it, 0, none⟩)) false o.type).run P w =
      ((choose (.mapNext ((if (encM left).isEmpty then #[none] else #[]) ++ (encM left).map some).size)).run P w).andThen fun a w1 =>
        ((match ((if (encM left).isEmpty then #[none] else #[]) ++ (encM left).map some)[a]? with
          | some (some e) => do
            setObj it (.mapIter (some r) c ((seenOf dn).push e.born) c)
            pure (.tuple #[.bool true, e.key, e.val])
          | some none => pure (.tuple #[.bool false])
          | none => stuck "Next: no such candidate" : Sem Value)).run P w1 := by
    simp only [Instr.next, Sem.run_bind, hit, Result.andThen_ok, run_getObj_map hmap, hgone, Bool.false_eq_true, if_false, hleft, hold, hnew, Array.append_empty]
    rfl
  by_cases hre : rest = []
  · have hl : left = [] := by
      cases hL : left with
      | nil => rfl
      | cons e l => have := (hleftmem e).1 (by rw [hL]; exact List.mem_cons_self); rw [hre] at this; simp at this
    refine ⟨.tuple #[.bool false], w, H, .inl ⟨hre, rfl, rfl⟩, hs, .inl ?_⟩
    rw [hexec, hstep, hl]
    simp [encM, run_choose, Question.forced]
  · have hne : left ≠ [] := by
      intro h
      cases hr' : rest with
      | nil => exact hre hr'
      | cons e l => have := (hleftmem e).2 (by rw [hr']; exact List.mem_cons_self); rw [h] at this; simp at this
    have hne' : (encM left).isEmpty = false := by
      cases hL : left with
      | nil => exact absurd hL hne
      | cons e l => simp [encM]
    have hsz : 0 < left.length := by cases hL : left with | nil => exact absurd hL hne | cons _ _ => simp
    have hch' : ∃ a w1, (choose (.mapNext ((#[] : Array (Option MapEntry)) ++ (encM left).map some).size)).run P w = .ok a w1 ∧ a < left.length ∧ (w1 = w ∨ w1 = { w with drawn := w.drawn + 1 }) := by
      have e1 : ((#[] : Array (Option MapEntry)) ++ (encM left).map some).size = left.length := by simp [encM]
      rw [e1, run_choose]
      split
      · exact ⟨0, w, rfl, hsz, .inl rfl⟩
      · exact ⟨_, _, rfl, by simp only [Question.cut]; exact Nat.mod_lt _ hsz, .inr rfl⟩
    obtain ⟨a, w1, hc1, ha, hw1⟩ := hch'
    have hs1 : Sat W0 H w1 := by rcases hw1 with rfl | rfl; exact hs; exact hs.drew
    have hblk1 := hs1.has _ (List.mem_flatten.2 ⟨g, List.mem_of_getElem? hj, List.mem_of_getElem? hi⟩)
    have hel : ((#[] : Array (Option MapEntry)) ++ (encM left).map some)[a]? = some (some (entM left[a])) := by
      simp [encM, ha]
    have hin : left[a] ∈ rest := (hleftmem _).1 (List.getElem_mem ha)
    obtain ⟨s1, s2, hsplit⟩ := List.append_of_mem hin
    have hperm1 : rest.Perm (left[a] :: (s1 ++ s2)) := by rw [hsplit]; exact List.perm_middle
    have hperm2 : (dn ++ [left[a]] ++ (s1 ++ s2)).Perm m := by
      refine List.Perm.trans ?_ hp
      rw [List.append_assoc]
      exact (List.Perm.append_left dn hperm1).symm
    obtain ⟨w', hr', hw'⟩ := Wr_setObj (P := P) hblk1 (o' := .mapIter (some r) c (seenOf (dn ++ [left[a]])) c) rfl
    refine ⟨.tuple #[.bool true, .string left[a].1, left[a].2.1], w', _, .inr ⟨left[a], s1 ++ s2, hperm1, hperm2, rfl, rfl⟩, hs1.wr hj hi hw', .inl ?_⟩
    have hpush : (seenOf dn).push (entM left[a]).born = seenOf (dn ++ [left[a]]) := by simp [seenOf, entM]
    rw [hexec, hstep, hne']
    simp only [Bool.false_eq_true, if_false, hc1, Result.andThen_ok, hel, Sem.run_bind, hpush, hr', Sem.run_pure]
    rfl
end Go.Sw
namespace Go.Sw
open Go.RowKit
theorem born_find {m : SM} {c : Nat} (hok : MapOk m c) {e : ByteArray × Value × Nat} (he : e ∈ m) : (encM m).find? (fun x => x.born == e.2.2) = some (entM e) := by
  have key : ∀ l : SM, (l.map (·.2.2)).Nodup → e ∈ l → (l.map entM).find? (fun x => x.born == e.2.2) = some (entM e) := by
    intro l
    induction l with
    | nil => intro _ h; cases h
    | cons x l ih =>
      intro hn h
      simp only [List.map_cons, List.nodup_cons] at hn
      rw [List.map_cons, List.find?_cons]
      rcases List.mem_cons.1 h with rfl | h
      · simp [entM]
      · have hx : ((entM x).born == e.2.2) = false := by
          rw [beq_eq_false_iff_ne]
          intro h'
          exact hn.1 (List.mem_map.2 ⟨e, h, h'.symm⟩)
        rw [hx]
        exact ih hn.2 h
  have := key m hok.born he
  rw [encM, List.find?_toArray]
  exact this
theorem GL_entry {d : Bool} {P : Program} {ops : Array Oper} {i : Nat} {Q : Post} {n : Nat} {E : Env} {W0 : World} {H : List Grp} {o : Oper} {ch : List (Nat × Bool)} {x : Operand} {it r c : Nat} {m dn : SM} {e : ByteArray × Value × Nat}
    (ho : ops[i]? = some o) (hop : o.op = .entry x) (hx : evO E ch x = some (.pointer (some ⟨it, 0, none⟩)))
    (hch : chainOf ops E o.guard = some ch) (hd : dstOk n ch o.dst = true) (hk : chKnown E ch = true)
    (hI : At W0 H it (.mapIter (some r) c (seenOf (dn ++ [e])) c)) (hA : At W0 H r (.map (encM m) c)) (hok : MapOk m c) (he : e ∈ m)
    (kk : GL d P ops (i + 1) Q n (Env.put E o.dst ch (.tuple #[.string e.1, e.2.1])) W0 H) : GL d P ops i Q n E W0 H := by
  refine GL_quiet ho hch hd hk (fun rr hr _ w hs => ?_) kk
  have hit := run_getObj_iter (P := P) (hs.at hI) rfl
  have hb : (seenOf (dn ++ [e])).back? = some e.2.2 := by
    unfold seenOf
    rw [List.map_append, List.map_cons, List.map_nil]
    simp
  unfold execOp
  simp only [hop]
  rw [hr _ _ hx]
  simp only [Instr.entry, Sem.run_bind, hit, Result.andThen_ok, hb, run_getObj_map (hs.at hA), bne_self_eq_false, Bool.false_eq_true, if_false, born_find hok he, Sem.run_pure]
  exact ⟨rfl, rfl⟩
def stS (s : SM × Nat) (e : ByteArray × Value × Nat) : SM × Nat :=
  match e.2.1 with
  | .pointer none => (mdel s.1 e.1, s.2)
  | v => (mput s.1 s.2 e.1 v, if mhas s.1 e.1 then s.2 else s.2 + 1)
def foldS (s : SM × Nat) (l : SM) : SM × Nat := l.foldl stS s
theorem foldS_snoc (s : SM × Nat) (l : SM) (e : ByteArray × Value × Nat) : foldS s (l ++ [e]) = stS (foldS s l) e := by
  unfold foldS; rw [List.foldl_append]; rfl
theorem mhas_false {m : SM} {k : ByteArray} : mhas m k = false ↔ ∀ e ∈ m, (k == e.1) = false := by
  unfold mhas; rw [List.any_eq_false]
  constructor
  · intro h e he; simpa using h e he
  · intro h e he; simpa using h e he
theorem mput_new {m : SM} {k : ByteArray} (c : Nat) (v : Value) (h : mhas m k = false) : mput m c k v = m ++ [(k, v, c)] := by
  induction m with
  | nil => rfl
  | cons e m ih =>
    rw [mhas_false] at h
    have h0 := h e List.mem_cons_self
    rw [mput, h0]
    simp only [Bool.false_eq_true, if_false]
    rw [ih (mhas_false.2 (fun x hx => h x (List.mem_cons_of_mem _ hx)))]
    rfl
theorem mput_keys (m : SM) (c : Nat) (k : ByteArray) (v : Value) (h : mhas m k = true) : (mput m c k v).map (fun e => (e.2.2)) = m.map (fun e => (e.2.2)) ∧ (mput m c k v).map Prod.fst = m.map Prod.fst := by
  induction m with
  | nil => cases h
  | cons e m ih =>
    rw [mput]
    cases hk : k == e.1
    · simp only [Bool.false_eq_true, if_false, List.map_cons]
      unfold mhas at h
      rw [List.any_cons, hk, Bool.false_or] at h
      obtain ⟨h1, h2⟩ := ih h
      exact ⟨by rw [h1], by rw [h2]⟩
    · simp only [if_true, List.map_cons, true_and]
      rw [baEq] at hk; rw [hk]
theorem mdel_sub (m : SM) (k : ByteArray) : (mdel m k).Sublist m := by
  induction m with
  | nil => exact List.Sublist.refl _
  | cons e m ih =>
    rw [mdel]
    split
    · exact List.sublist_cons_self e m
    · exact ih.cons_cons e
theorem MapOk.del {m : SM} {c : Nat} (h : MapOk m c) (k : ByteArray) : MapOk (mdel m k) c :=
  ⟨h.keys.sublist (mdel_sub m k), h.born.sublist ((mdel_sub m k).map _), fun e he => h.lt e ((mdel_sub m k).subset he)⟩
theorem pw_keys {m : SM} : (m.Pairwise fun x y => (x.1 == y.1) = false) ↔ (m.map Prod.fst).Nodup := by
  rw [List.nodup_iff_pairwise_ne, List.pairwise_map]
  constructor
  · intro h; exact h.imp (fun h => baNe.1 h)
  · intro h; exact h.imp (fun h => baNe.2 h)
theorem MapOk.put {m : SM} {c : Nat} (h : MapOk m c) (k : ByteArray) (v : Value) : MapOk (mput m c k v) (if mhas m k then c else c + 1) := by
  cases hm : mhas m k with
  | true =>
    obtain ⟨h1, h2⟩ := mput_keys m c k v hm
    refine ⟨pw_keys.2 (by rw [h2]; exact pw_keys.1 h.keys), by rw [h1]; exact h.born, fun e he => ?_⟩
    have : e.2.2 ∈ (mput m c k v).map (fun e => e.2.2) := List.mem_map.2 ⟨e, he, rfl⟩
    rw [h1] at this
    obtain ⟨x, hx, hx2⟩ := List.mem_map.1 this
    have := h.lt x hx
    simp only [if_true]; omega
  | false =>
    rw [mput_new c v hm]
    simp only [Bool.false_eq_true, if_false]
    rw [mhas_false] at hm
    refine ⟨?_, ?_, ?_⟩
    · rw [List.pairwise_append]
      refine ⟨h.keys, by simp, fun x hx y hy => ?_⟩
      rw [List.mem_singleton.1 hy]
      have := hm x hx
      rw [baNe] at this ⊢
      exact fun e => this e.symm
    · rw [List.map_append, List.nodup_append]
      refine ⟨h.born, by simp, ?_⟩
      intro a ha b hb
      obtain ⟨x, hx, rfl⟩ := List.mem_map.1 ha
      simp only [List.map_cons, List.map_nil, List.mem_singleton] at hb
      have := h.lt x hx
      omega
    · intro e he
      rcases List.mem_append.1 he with he | he
      · have := h.lt e he; omega
      · rw [List.mem_singleton.1 he]; simp
theorem MapOk.st {s : SM × Nat} (h : MapOk s.1 s.2) (e : ByteArray × Value × Nat) : MapOk (stS s e).1 (stS s e).2 := by
  unfold stS
  split
  · exact h.del _
  · exact h.put _ _
theorem MapOk.fold {s : SM × Nat} (h : MapOk s.1 s.2) (l : SM) : MapOk (foldS s l).1 (foldS s l).2 := by
  induction l generalizing s with
  | nil => exact h
  | cons e l ih => exact ih (h.st e)
theorem GL_rem {d : Bool} {P : Program} {ops : Array Oper} {i : Nat} {Q : Post} {n : Nat} {E : Env} {W0 : World} {H : List Grp} {o : Oper} {ch : List (Nat × Bool)} {t t' : TypeId} {x y : Operand} {kd : IntKind} {a b : Int}
    (ho : ops[i]? = some o) (hop : o.op = .binOp .rem t x y t') (hx : evO E ch x = some (.int kd a)) (hy : evO E ch y = some (.int kd b))
    (hch : chainOf ops E o.guard = some ch) (hd : dstOk n ch o.dst = true) (hk : chKnown E ch = true) (hb : chB E ch → b ≠ 0)
    (k : GL d P ops (i + 1) Q n (Env.put E o.dst ch (.int kd (Int.tmod a b))) W0 H) : GL d P ops i Q n E W0 H := by
  refine GL_quiet ho hch hd hk (fun r hr hcb w _ => ?_) k
  have h0 := hb hcb
  have := pev_sound (P := P) (ρ := evO E ch) hr (o := o) (v := .int kd (Int.tmod a b)) (by rw [hop]; simp [pev, hx, hy, binV, h0]) w
  rw [this]
  exact ⟨rfl, rfl⟩
end Go.Sw
namespace Go.Sw
theorem GL_extern {d : Bool} {P : Program} {ops : Array Oper} {i : Nat} {Q : Post} {n : Nat} {E : Env} {W0 : World} {H : List Grp} {o : Oper} {ch : List (Nat × Bool)} {c : Call} {fo : Operand} {f : FuncId} {vs : List Value}
    {fn : Func} {v : Value} {e : Array Value → Sem Value}
    (ho : ops[i]? = some o) (hop : o.op = .call c) (hce : c.callee = .value fo) (hfo : evO E ch fo = some (.func (.func f) #[] #[])) (hargs : evL (evO E ch) c.args.toList = some vs)
    (hf : P.funcs[f]? = some fn) (hrt : (fn.name == "runtime.NumGoroutine") = false) (hbody : fn.body.isNone = true) (hn : Extern.findNext fn = none) (he : Extern.find fn = some e)
    (hch : chainOf ops E o.guard = some ch) (hd : dstOk n ch o.dst = true) (hk : chKnown E ch = true)
    (hrun : ∀ w, (e vs.toArray).run P w = .ok v w)
    (k : GL d P ops (i + 1) Q n (Env.put E o.dst ch v) W0 H) : GL d P ops i Q n E W0 H := by
  refine GL_quiet ho hch hd hk (fun r hr hcb w hs => ?_) k
  have hrun' : (execOp r o).run P w = .ok (.value v) w := by
    unfold execOp
    simp only [hop]
    simp only [resolve, hce]
    rw [hr _ _ hfo, arr_map hr hargs]
    simp only [Deferred.ofValue, Sem.run_bind, Sem.run_pure, Result.andThen_ok, invoke]
    have := run_callFunc_extern hf hrt hbody hn he vs.toArray w
    simp only [Array.empty_append, Array.append_empty, this, hrun, Result.andThen_ok]
  rw [hrun']
  exact ⟨rfl, rfl⟩
def noB (s : ByteArray) (c : Int) (k : Nat) : Prop := ∀ j : Nat, j < k → byteAt s j ≠ c
theorem noB_zero {s : ByteArray} {c : Int} : noB s c 0 := fun j h => absurd h (Nat.not_lt_zero j)
theorem noB_succ {s : ByteArray} {c : Int} {k : Nat} (h : noB s c k) (hk : byteAt s k ≠ c) : noB s c (k + 1) := fun j hj => by
  rcases Nat.lt_or_ge j k with h' | h'
  · exact h j h'
  · have : j = k := by omega
    subst this; exact hk
theorem byteAt_get {s : ByteArray} {k : Nat} (h : k < s.size) : byteAt s k = ((s[k]!).toNat : Int) := by
  unfold byteAt
  have e1 : s[k]! = s[k] := getElem!_pos s k h
  have e2 : (s.data.toList)[((k : Nat) : Int).toNat]? = some s[k] := by
    rw [Int.toNat_natCast, List.getElem?_eq_getElem (by simpa using h)]; rfl
  rw [e1, e2]; rfl
def bIdx (s : ByteArray) (c : Int) : Int := firstIdx s c.toNat.toUInt8
theorem bIdx_spec (s : ByteArray) {c : Int} (h0 : 0 ≤ c) (h1 : c < 256) :
    (∃ k : Nat, k < s.size ∧ bIdx s c = k ∧ byteAt s k = c ∧ noB s c k) ∨ (bIdx s c = -1 ∧ noB s c s.size) := by
  have hc : ∀ b : UInt8, (b == c.toNat.toUInt8) = true ↔ ((b.toNat : Nat) : Int) = c := by
    intro b
    rw [beq_iff_eq]
    constructor
    · intro h; rw [h]; simp [Nat.toUInt8]; omega
    · intro h; apply UInt8.toNat_inj.1; simp [Nat.toUInt8]; omega
  unfold bIdx firstIdx
  cases hf : (List.range s.size).find? fun i => s[i]! == c.toNat.toUInt8 with
  | none =>
    right
    refine ⟨rfl, fun j hj he => ?_⟩
    have := List.find?_eq_none.1 hf j (List.mem_range.2 hj)
    rw [hc, ← byteAt_get hj] at this
    exact this he
  | some k =>
    left
    have hk := List.mem_range.1 (List.mem_of_find?_eq_some hf)
    refine ⟨k, hk, rfl, ?_, fun j hj he => ?_⟩
    · have := List.find?_some hf
      rw [byteAt_get hk]; exact (hc _).1 this
    · rw [List.find?_range_eq_some] at hf
      have := hf.2.2 j hj
      rw [byteAt_get (by omega)] at he
      have h2 := (hc s[j]!).2 he
      simp [h2] at this
theorem bIdx_eq {s : ByteArray} {c : Int} {k : Nat} (h0 : 0 ≤ c) (h1 : c < 256) (hk : k < s.size) (hb : byteAt s k = c) (hn : noB s c k) : bIdx s c = k := by
  rcases bIdx_spec s h0 h1 with ⟨j, hj, he, hb', hn'⟩ | ⟨_, hn'⟩
  · rcases Nat.lt_trichotomy j k with h | h | h
    · exact absurd hb' (hn j h)
    · rw [he, h]
    · exact absurd hb (hn' k h)
  · exact absurd hb (hn' k hk)
theorem bIdx_none {s : ByteArray} {c : Int} (h0 : 0 ≤ c) (h1 : c < 256) (hn : noB s c s.size) : bIdx s c = -1 := by
  rcases bIdx_spec s h0 h1 with ⟨j, hj, he, hb', hn'⟩ | ⟨h, _⟩
  · exact absurd hb' (hn j hj)
  · exact h
theorem size_extract (s : ByteArray) (a b : Nat) : (s.extract a b).size = min b s.size - a := by simp
end Go.Sw
namespace Go.Proofs.Ytbmieiffboenbaa
open Go.Sw Go.Lib
def pbyte (c : Int) : Bool := (97 ≤ c && c ≤ 122) || (65 ≤ c && c ≤ 90) || (48 ≤ c && c ≤ 57) || c == 45 || c == 95 || c == 46
def pall (s : ByteArray) (k : Nat) : Prop := ∀ j : Nat, j < k → pbyte (byteAt s j) = true
def pallB (s : ByteArray) : Bool := (List.range s.size).all fun j => pbyte (byteAt s j)
def partB (s : ByteArray) : Bool := pallB s && !(s.toList == (ByteArray.mk #[]).toList) && decide ((s.size : Int) ≤ 80) && !(s.toList == (ByteArray.mk #[46]).toList) && !(s.toList == (ByteArray.mk #[46, 46]).toList)
theorem pall_zero {s : ByteArray} : pall s 0 := fun j h => absurd h (Nat.not_lt_zero j)
theorem pall_succ {s : ByteArray} {k : Nat} (h : pall s k) (hk : pbyte (byteAt s k) = true) : pall s (k + 1) := fun j hj => by
  rcases Nat.lt_or_ge j k with h' | h'
  · exact h j h'
  · have : j = k := by omega
    subst this; exact hk
theorem pallB_true {s : ByteArray} {k : Nat} (h : pall s k) (hk : s.size ≤ k) : pallB s = true := by
  unfold pallB
  rw [List.all_eq_true]
  intro j hj
  exact h j (by have := List.mem_range.1 hj; omega)
theorem pallB_false {s : ByteArray} {k : Nat} (hk : k < s.size) (hb : pbyte (byteAt s k) = false) : pallB s = false := by
  unfold pallB
  rw [← Bool.not_eq_true, List.all_eq_true]
  intro h
  rw [h k (List.mem_range.2 hk)] at hb
  simp at hb
def slash (s : ByteArray) : Int := bIdx s 47
def rightB (s : ByteArray) : Bool := if slash s < 0 then partB s else partB (s.extract 0 (slash s).toNat) && partB (s.extract ((slash s).toNat + 1) s.size)
theorem slash_facts {s : ByteArray} (h : ¬ slash s < 0) : (slash s).toNat < s.size ∧ (s.extract 0 (slash s).toNat).size = (slash s).toNat ∧ (s.extract ((slash s).toNat + 1) s.size).size + ((slash s).toNat + 1) = s.size := by
  rcases bIdx_spec s (c := 47) (by omega) (by omega) with ⟨k, hk, he, _, _⟩ | ⟨he, _⟩
  · have : slash s = k := he
    rw [this]
    simp only [ByteArray.size_extract, Int.toNat_natCast]
    omega
  · exact absurd (show slash s < 0 by rw [slash, he]; omega) h
theorem three_idx {c : Int} (h0 : 0 ≤ c) (h1 : c < 256) : decide (bIdx (ByteArray.mk #[45, 95, 46]) c ≥ 0) = (c == 45 || c == 95 || c == 46) := by
  rcases bIdx_spec (ByteArray.mk #[45, 95, 46]) h0 h1 with ⟨k, hk, he, hb, _⟩ | ⟨he, hn⟩
  · rw [he]
    have hk3 : k < 3 := hk
    have : k = 0 ∨ k = 1 ∨ k = 2 := by omega
    rcases this with rfl | rfl | rfl
    · have : c = 45 := hb.symm
      subst this; rfl
    · have : c = 95 := hb.symm
      subst this; rfl
    · have : c = 46 := hb.symm
      subst this; rfl
  · rw [he]
    have h45 : ¬ c = 45 := fun h => hn 0 (by decide) h.symm
    have h95 : ¬ c = 95 := fun h => hn 1 (by decide) h.symm
    have h46 : ¬ c = 46 := fun h => hn 2 (by decide) h.symm
    simp [h45, h95, h46]
theorem len_toList (s : ByteArray) : s.toList.length = s.size := by rw [toList_data, Array.length_toList]; rfl
theorem nil_toList {s : ByteArray} : s.toList = [] ↔ s.size = 0 := by rw [← len_toList, List.length_eq_zero_iff]
theorem part_no {s : ByteArray} (h : ((((decide ((s.size : Int) < 1)) || (decide ((s.size : Int) > 80))) || (s.toList == (ByteArray.mk #[46]).toList)) || (s.toList == (ByteArray.mk #[46, 46]).toList)) = true) : partB s = false := by
  have e := nil_toList (s := s)
  simp only [partB, Bool.or_eq_true, decide_eq_true_eq, beq_iff_eq] at h ⊢
  rcases h with ((h | h) | h) | h
  · have : s.toList = [] := e.2 (by omega)
    simp [this]
  · have : ¬ (s.size : Int) ≤ 80 := by omega
    simp [this]
  · simp [h]
  · simp [h]
theorem part_yes {s : ByteArray} (h : ((((decide ((s.size : Int) < 1)) || (decide ((s.size : Int) > 80))) || (s.toList == (ByteArray.mk #[46]).toList)) || (s.toList == (ByteArray.mk #[46, 46]).toList)) = false) : partB s = pallB s := by
  have e := nil_toList (s := s)
  simp only [Bool.or_eq_false_iff, decide_eq_false_iff_not] at h
  obtain ⟨⟨⟨h1, h2⟩, h3⟩, h4⟩ := h
  have h5 : (s.toList == (ByteArray.mk #[]).toList) = false := by
    rw [beq_eq_false_iff_ne]; intro h; have := e.1 (by simpa using h); omega
  have h6 : decide ((s.size : Int) ≤ 80) = true := by simp; omega
  simp only [partB, h3, h4, h5, h6, Bool.not_false, Bool.and_true]
theorem slash_or (s : ByteArray) : slash s < 0 ∨ (slash s).toNat < s.size := by
  rcases Int.lt_or_le (slash s) 0 with h | h
  · exact .inl h
  · exact .inr (slash_facts (by omega)).1
theorem slash_one {s : ByteArray} (h : (ByteArray.mk #[47]).toList = s.toList) : slash s = 0 := by
  have : s = ByteArray.mk #[47] := by
    rw [toList_data, toList_data] at h
    cases s with | mk d => cases d with | mk l => simp at h; rw [← h]
  rw [this]; rfl
def dirB (s : ByteArray) : ByteArray := if slash s < 0 then ByteArray.mk #[] else s.extract 0 (slash s).toNat
theorem sliteIndexByte (s : ByteArray) (c : Int) (W0 : World) (H : List Grp) : Tri Try.prog 67 #[.string s, .int .u8 c] W0 H (fun v H' => v = .int .i64 (bIdx s c) ∧ H' = H) := by
  refine Tri_of (args := [.string s, .int .u8 c]) (n := 8) Try.func67 rfl rfl (Nat.le_of_ble_eq_true rfl) ?_
  refine G_seq ?_
  refine G_pure (E' := [⟨0, [], .string s⟩, ⟨1, [], .int .u8 c⟩]) [0] [0, 1] rfl (by kernel_rfl) ?_
  refine N_then ?_
  refine G_seq ?_
  refine G_region ?_
  refine GL_pure (E' := [⟨6, [], .int .u8 c⟩, ⟨5, [], .string s⟩]) [0, 0] (by kernel_rfl) (j := 2) rfl ?_
  refine GL_extern (i := 2) (ch := []) (f := 84) (vs := [.string s, .int .u8 c]) (v := .int .i64 (bIdx s c)) (e := Extern.BytealgIndexByte.indexByte) rfl rfl rfl (by kernel_rfl) (by kernel_rfl) Try.func84 (by kernel_rfl) rfl (by kernel_rfl) (by kernel_rfl) (by kernel_rfl) (by kernel_rfl) (by kernel_rfl) (fun w => run_indexByte_string s c w) ?_
  refine GL_fin (E' := [⟨4, [], .int .i64 (bIdx s c)⟩]) [0] [4] rfl (by kernel_rfl) ?_
  refine N_then ?_
  refine G_ret ?_
  refine N_ret [.tmp 4] [.int .i64 (bIdx s c)] rfl (by kernel_rfl) rfl ?_
  exact ⟨rfl, rfl⟩
theorem stringsIndexByte (s : ByteArray) (c : Int) (W0 : World) (H : List Grp) : Tri Try.prog 57 #[.string s, .int .u8 c] W0 H (fun v H' => v = .int .i64 (bIdx s c) ∧ H' = H) := by
  refine Tri_of (args := [.string s, .int .u8 c]) (n := 8) Try.func57 rfl rfl (Nat.le_of_ble_eq_true rfl) ?_
  refine G_seq ?_
  refine G_pure (E' := [⟨0, [], .string s⟩, ⟨1, [], .int .u8 c⟩]) [0] [0, 1] rfl (by kernel_rfl) ?_
  refine N_then ?_
  refine G_seq ?_
  refine G_region ?_
  refine GL_pure (E' := [⟨6, [], .int .u8 c⟩, ⟨5, [], .string s⟩]) [0, 0] (by kernel_rfl) (j := 2) rfl ?_
  refine GL_callQ (i := 2) (ch := []) (f := 67) (fst := #[]) (caps := #[]) (vs := [.string s, .int .u8 c]) (v := .int .i64 (bIdx s c)) rfl rfl rfl (by kernel_rfl) (by kernel_rfl) Try.func67 rfl rfl (by kernel_rfl) (by kernel_rfl) (by kernel_rfl) (fun _ => sliteIndexByte _ _ _ _) ?_
  refine GL_fin (E' := [⟨4, [], .int .i64 (bIdx s c)⟩]) [0] [4] rfl (by kernel_rfl) ?_
  refine N_then ?_
  refine G_ret ?_
  refine N_ret [.tmp 4] [.int .i64 (bIdx s c)] rfl (by kernel_rfl) rfl ?_
  exact ⟨rfl, rfl⟩
theorem refPart (s : ByteArray) (hs : s.size ≤ 9223372036854775807) (W0 : World) (H : List Grp) : Tri Try.prog 33 #[.string s] W0 H (fun v H' => v = .bool (partB s) ∧ H' = H) := by
  refine Tri_of (args := [.string s]) (n := 64) Try.func33 rfl rfl (Nat.le_of_ble_eq_true rfl) ?_
  refine G_seq ?_
  refine G_pure (E' := [⟨0, [], .string s⟩]) [0] [0] rfl (by kernel_rfl) ?_
  refine N_then ?_
  refine G_seq ?_
  refine G_seq ?_
  refine G_pure (E' := [⟨0, [], .string s⟩, ⟨3, [], .int .i64 0⟩]) [0] [0, 3] rfl (by kernel_rfl) ?_
  refine N_then ?_
  refine G_block ?_
  refine G_loop (EI := (fun ξ : Nat => [⟨0, [], .string s⟩, ⟨3, [], .int .i64 ((ξ : Nat) : Int)⟩])) (HI := (fun ξ : Nat => H)) (Φ := (fun ξ : Nat => (ξ ≤ s.size) ∧ (pall s ξ))) (μ := (fun ξ : Nat => s.size - ξ)) (s0 := (0)) [0, 3] (by kernel_rfl) rfl ⟨(by omega), pall_zero⟩ ?_
  rintro k ⟨hk, hp⟩
  refine G_seq ?_
  refine G_seq ?_
  refine G_pure (E' := [⟨0, [], .string s⟩, ⟨3, [], .int .i64 ((k : Nat) : Int)⟩, ⟨8, [], .bool (decide (((k : Nat) : Int) < (s.size : Int)))⟩]) [0, 0, 0, 0] [0, 3, 8] rfl (by kernel_rfl) ?_
  refine N_then ?_
  refine G_cond (b := decide (((k : Nat) : Int) < (s.size : Int))) (by kernel_rfl) (fun hc1 => ?_) (fun hc1 => ?_)
  ·
    simp at hc1
    refine G_skip ?_
    refine N_then ?_
    refine G_seq ?_
    refine G_block ?_
    refine G_seq ?_
    refine G_region ?_
    refine GL_pure (E' := [⟨12, [], .int .i64 ((k : Nat) : Int)⟩, ⟨11, [], .string s⟩, ⟨0, [], .string s⟩, ⟨3, [], .int .i64 ((k : Nat) : Int)⟩]) [0, 0] (by kernel_rfl) (j := 2) rfl ?_
    refine GL_index (i := 2) (ch := []) (s := s) (kd := .i64) (j := ((k : Nat) : Int)) rfl rfl (by kernel_rfl) (by kernel_rfl) (by kernel_rfl) (by kernel_rfl) (by kernel_rfl) (by kernel_rfl) (fun _ => by omega) ?_
    have hb2 := byteAt_rng s ((k : Nat) : Int)
    refine GL_fin (E' := [⟨0, [], .string s⟩, ⟨3, [], .int .i64 ((k : Nat) : Int)⟩, ⟨4, [], .int .u8 (byteAt s ((k : Nat) : Int))⟩]) [0] [0, 3, 4] rfl (by kernel_rfl) ?_
    refine N_then ?_
    refine G_seq ?_
    refine G_pure (E' := [⟨0, [], .string s⟩, ⟨3, [], .int .i64 ((k : Nat) : Int)⟩, ⟨48, [], .bool (!(((((((decide ((byteAt s ((k : Nat) : Int)) ≥ 97)) && (decide ((byteAt s ((k : Nat) : Int)) ≤ 122))) || ((decide ((byteAt s ((k : Nat) : Int)) ≥ 65)) && (decide ((byteAt s ((k : Nat) : Int)) ≤ 90)))) || ((decide ((byteAt s ((k : Nat) : Int)) ≥ 48)) && (decide ((byteAt s ((k : Nat) : Int)) ≤ 57)))) || ((byteAt s ((k : Nat) : Int)) == 45)) || ((byteAt s ((k : Nat) : Int)) == 95)) || ((byteAt s ((k : Nat) : Int)) == 46)))⟩]) [0, 0, 0, 0, 0, 6, 0, 0, 0, 0, 0, 0, 6, 5, 0, 0, 0, 0, 0, 0, 6, 5, 0, 0, 0, 5, 0, 0, 0, 5, 0, 0, 0, 5, 0] [0, 3, 48] rfl (by kernel_rfl) ?_
    refine N_then ?_
    refine G_cond (b := !(((((((decide ((byteAt s ((k : Nat) : Int)) ≥ 97)) && (decide ((byteAt s ((k : Nat) : Int)) ≤ 122))) || ((decide ((byteAt s ((k : Nat) : Int)) ≥ 65)) && (decide ((byteAt s ((k : Nat) : Int)) ≤ 90)))) || ((decide ((byteAt s ((k : Nat) : Int)) ≥ 48)) && (decide ((byteAt s ((k : Nat) : Int)) ≤ 57)))) || ((byteAt s ((k : Nat) : Int)) == 45)) || ((byteAt s ((k : Nat) : Int)) == 95)) || ((byteAt s ((k : Nat) : Int)) == 46))) (by kernel_rfl) (fun hc3 => ?_) (fun hc3 => ?_)
    ·
      have hpb : pbyte (byteAt s k) = false := by (simp only [pbyte]; revert hc3; simp; omega)
      refine G_seq ?_
      refine G_pure (E' := [⟨2, [], .bool false⟩]) [0] [2] rfl (by kernel_rfl) ?_
      refine N_then ?_
      refine G_ret ?_
      refine N_block_ret ?_
      refine N_then_ret ?_
      refine N_then_ret ?_
      refine N_block_ret ?_
      refine N_then_ret ?_
      refine N_ret [.tmp 2] [.bool false] rfl (by kernel_rfl) rfl ?_
      exact ⟨by simp [packV, partB, pallB_false hc1 hpb], rfl⟩
    ·
      have hpb : pbyte (byteAt s k) = true := by (simp only [pbyte]; revert hc3; simp; omega)
      refine G_skip ?_
      refine N_block ?_
      refine N_then ?_
      have hw4 : IntKind.wrap .i64 (((k : Nat) : Int) + 1) = ((k : Nat) : Int) + 1 := w64 (by omega) (by omega)
      refine G_pure (E' := [⟨0, [], .string s⟩, ⟨3, [], .int .i64 (((k : Nat) : Int) + 1)⟩]) [0, 0, 0] [0, 3] rfl (Eq.trans (b := some [⟨0, [], .string s⟩, ⟨3, [], .int .i64 (IntKind.wrap .i64 (((k : Nat) : Int) + 1))⟩]) (by kernel_rfl) (by simp only [hw4])) ?_
      refine N_round (s' := (k + 1)) [0, 3] (by kernel_rfl) rfl ⟨(by omega), (pall_succ hp hpb)⟩ (by omega)
  ·
    simp at hc1
    refine G_exit ?_
    refine N_then_exit ?_
    refine N_then_exit ?_
    refine N_block_exit ?_
    refine N_then ?_
    refine G_seq ?_
    refine G_pure (E' := [⟨2, [], .bool ((((!(s.toList == (ByteArray.mk #[]).toList)) && (decide ((s.size : Int) ≤ 80))) && (!(s.toList == (ByteArray.mk #[46]).toList))) && (!(s.toList == (ByteArray.mk #[46, 46]).toList)))⟩]) [0, 0, 0, 0, 0, 0, 6, 0, 0, 0, 6, 0, 0, 0, 6, 0] [2] rfl (by kernel_rfl) ?_
    refine N_then ?_
    refine G_ret ?_
    refine N_ret [.tmp 2] [.bool ((((!(s.toList == (ByteArray.mk #[]).toList)) && (decide ((s.size : Int) ≤ 80))) && (!(s.toList == (ByteArray.mk #[46]).toList))) && (!(s.toList == (ByteArray.mk #[46, 46]).toList)))] rfl (by kernel_rfl) rfl ?_
    exact ⟨by simp [packV, partB, pallB_true hp hc1], rfl⟩
theorem refSplit (s : ByteArray) (hs : s.size ≤ 9223372036854775807) (W0 : World) (H : List Grp) : Tri Try.prog 28 #[.string s] W0 H (fun v H' => v = .tuple (if slash s < 0 then #[.string (ByteArray.mk #[]), .string s] else #[.string (s.extract 0 (slash s).toNat), .string (s.extract ((slash s).toNat + 1) s.size)]) ∧ H' = H) := by
  refine Tri_of (args := [.string s]) (n := 23) Try.func28 rfl rfl (Nat.le_of_ble_eq_true rfl) ?_
  refine G_seq ?_
  refine G_pure (E' := [⟨0, [], .string s⟩]) [0, 0] [0] rfl (by kernel_rfl) ?_
  refine N_then ?_
  refine G_seq ?_
  refine G_seq ?_
  refine G_pure (E' := [⟨0, [], .string s⟩, ⟨4, [], .int .i64 0⟩]) [0] [0, 4] rfl (by kernel_rfl) ?_
  refine N_then ?_
  refine G_block ?_
  refine G_loop (EI := (fun ξ : Nat => [⟨0, [], .string s⟩, ⟨4, [], .int .i64 ((ξ : Nat) : Int)⟩])) (HI := (fun ξ : Nat => H)) (Φ := (fun ξ : Nat => (ξ ≤ s.size) ∧ (noB s 47 ξ))) (μ := (fun ξ : Nat => s.size - ξ)) (s0 := (0)) [0, 4] (by kernel_rfl) rfl ⟨(by omega), noB_zero⟩ ?_
  rintro k ⟨hk, hn⟩
  refine G_seq ?_
  refine G_seq ?_
  refine G_pure (E' := [⟨0, [], .string s⟩, ⟨4, [], .int .i64 ((k : Nat) : Int)⟩, ⟨8, [], .bool (decide (((k : Nat) : Int) < (s.size : Int)))⟩]) [0, 0, 0, 0] [0, 4, 8] rfl (by kernel_rfl) ?_
  refine N_then ?_
  refine G_cond (b := decide (((k : Nat) : Int) < (s.size : Int))) (by kernel_rfl) (fun hc1 => ?_) (fun hc1 => ?_)
  ·
    simp at hc1
    refine G_skip ?_
    refine N_then ?_
    refine G_seq ?_
    refine G_block ?_
    refine G_seq ?_
    refine G_region ?_
    refine GL_pure (E' := [⟨12, [], .int .i64 ((k : Nat) : Int)⟩, ⟨11, [], .string s⟩, ⟨0, [], .string s⟩, ⟨4, [], .int .i64 ((k : Nat) : Int)⟩]) [0, 0] (by kernel_rfl) (j := 2) rfl ?_
    refine GL_index (i := 2) (ch := []) (s := s) (kd := .i64) (j := ((k : Nat) : Int)) rfl rfl (by kernel_rfl) (by kernel_rfl) (by kernel_rfl) (by kernel_rfl) (by kernel_rfl) (by kernel_rfl) (fun _ => by omega) ?_
    have hb2 := byteAt_rng s ((k : Nat) : Int)
    refine GL_fin (E' := [⟨0, [], .string s⟩, ⟨4, [], .int .i64 ((k : Nat) : Int)⟩, ⟨14, [], .bool ((byteAt s ((k : Nat) : Int)) == 47)⟩]) [0] [0, 4, 14] rfl (by kernel_rfl) ?_
    refine N_then ?_
    refine G_cond (b := (byteAt s ((k : Nat) : Int)) == 47) (by kernel_rfl) (fun hc3 => ?_) (fun hc3 => ?_)
    ·
      simp at hc3
      refine G_seq ?_
      refine G_regionD (by kernel_rfl) (by kernel_rfl) ?_
      refine GL_pure (E' := [⟨16, [], .int .i64 ((k : Nat) : Int)⟩, ⟨15, [], .string s⟩, ⟨0, [], .string s⟩, ⟨4, [], .int .i64 ((k : Nat) : Int)⟩]) [0, 0] (by kernel_rfl) (j := 2) rfl ?_
      refine GL_sliceS (i := 2) (ch := []) (s := s) (vl := none) (vh := (some (.int .i64 ((k : Nat) : Int)))) (l := 0) (h := ((k : Nat) : Int)) rfl rfl (by kernel_rfl) (by kernel_rfl) (by kernel_rfl) (by kernel_rfl) (by kernel_rfl) (by kernel_rfl) (by kernel_rfl) (by kernel_rfl) (by kernel_rfl) (fun _ => by omega) ?_
      have hw4 : IntKind.wrap .i64 (((k : Nat) : Int) + 1) = ((k : Nat) : Int) + 1 := w64 (by omega) (by omega)
      refine GL_pure (E' := [⟨20, [], .int .i64 (((k : Nat) : Int) + 1)⟩, ⟨18, [], .string s⟩, ⟨17, [], .string (s.extract 0 k)⟩]) [0, 0, 0] (Eq.trans (b := some [⟨20, [], .int .i64 (IntKind.wrap .i64 (((k : Nat) : Int) + 1))⟩, ⟨18, [], .string s⟩, ⟨17, [], .string (s.extract 0 k)⟩]) (by kernel_rfl) (by simp only [hw4])) (j := 6) rfl ?_
      refine GL_sliceS (i := 6) (ch := []) (s := s) (vl := (some (.int .i64 (((k : Nat) : Int) + 1)))) (vh := none) (l := ((k : Nat) : Int) + 1) (h := (s.size : Int)) rfl rfl (by kernel_rfl) (by kernel_rfl) (by kernel_rfl) (by kernel_rfl) (by kernel_rfl) (by kernel_rfl) (by kernel_rfl) (by kernel_rfl) (by kernel_rfl) (fun _ => by omega) ?_
      refine GL_fin (E' := [⟨2, [], .string (s.extract 0 k)⟩, ⟨3, [], .string (s.extract (Int.toNat (((k : Nat) : Int) + 1)) s.size)⟩]) [0, 0] [2, 3] rfl (by kernel_rfl) ?_
      refine N_then ?_
      refine G_ret ?_
      refine N_block_ret ?_
      refine N_then_ret ?_
      refine N_then_ret ?_
      refine N_block_ret ?_
      refine N_then_ret ?_
      refine N_ret [.tmp 2, .tmp 3] [.string (s.extract 0 k), .string (s.extract (Int.toNat (((k : Nat) : Int) + 1)) s.size)] rfl (by kernel_rfl) rfl ?_
      have e := bIdx_eq (by omega) (by omega) hc1 hc3 hn
      refine ⟨?_, rfl⟩
      rw [if_neg (by rw [slash, e]; omega), slash, e]
      rfl
    ·
      simp at hc3
      refine G_skip ?_
      refine N_block ?_
      refine N_then ?_
      have hw5 : IntKind.wrap .i64 (((k : Nat) : Int) + 1) = ((k : Nat) : Int) + 1 := w64 (by omega) (by omega)
      refine G_pure (E' := [⟨0, [], .string s⟩, ⟨4, [], .int .i64 (((k : Nat) : Int) + 1)⟩]) [0, 0, 0] [0, 4] rfl (Eq.trans (b := some [⟨0, [], .string s⟩, ⟨4, [], .int .i64 (IntKind.wrap .i64 (((k : Nat) : Int) + 1))⟩]) (by kernel_rfl) (by simp only [hw5])) ?_
      refine N_round (s' := (k + 1)) [0, 4] (by kernel_rfl) rfl ⟨(by omega), (noB_succ hn hc3)⟩ (by omega)
  ·
    simp at hc1
    refine G_exit ?_
    refine N_then_exit ?_
    refine N_then_exit ?_
    refine N_block_exit ?_
    refine N_then ?_
    refine G_seq ?_
    refine G_pure (E' := [⟨2, [], .string (ByteArray.mk #[])⟩, ⟨3, [], .string s⟩]) [0, 0, 0] [2, 3] rfl (by kernel_rfl) ?_
    refine N_then ?_
    refine G_ret ?_
    refine N_ret [.tmp 2, .tmp 3] [.string (ByteArray.mk #[]), .string s] rfl (by kernel_rfl) rfl ?_
    have e := bIdx_none (by omega) (by omega) (fun j hj => hn j (by omega))
    refine ⟨?_, rfl⟩
    rw [if_pos (by rw [slash, e]; omega)]
    rfl
theorem refDir (p : ByteArray) (hp : p.size ≤ 9223372036854775807) (W0 : World) (H : List Grp) : Tri Try.prog 55 #[.string p] W0 H (fun v H' => v = .string (dirB p) ∧ H' = H) := by
  refine Tri_of (args := [.string p]) (n := 11) Try.func55 rfl rfl (Nat.le_of_ble_eq_true rfl) ?_
  refine G_seq ?_
  refine G_pure (E' := [⟨0, [], .string p⟩]) [0] [0] rfl (by kernel_rfl) ?_
  refine N_then ?_
  refine G_seq ?_
  refine G_region ?_
  refine GL_pure (E' := [⟨6, [], .string p⟩]) [0] (by kernel_rfl) (j := 1) rfl ?_
  refine GL_call (i := 1) (ch := []) (f := 28) (fst := #[]) (caps := #[]) (vs := [.string p]) rfl rfl rfl (by kernel_rfl) (by kernel_rfl) Try.func28 rfl rfl (by kernel_rfl) (by kernel_rfl) (chSure_of (by kernel_rfl)) (refSplit _ hp _ _) ?_
  rintro v H' ⟨rfl, rfl⟩
  by_cases hs1 : slash p < 0
  ·
    rw [if_pos hs1]
    refine GL_fin (E' := [⟨3, [], .string (ByteArray.mk #[])⟩]) [0, 0, 0, 0, 0] [3] rfl (by kernel_rfl) ?_
    refine N_then ?_
    refine G_seq ?_
    refine G_pure (E' := [⟨2, [], .string (ByteArray.mk #[])⟩]) [0, 0] [2] rfl (by kernel_rfl) ?_
    refine N_then ?_
    refine G_ret ?_
    refine N_ret [.tmp 2] [.string (ByteArray.mk #[])] rfl (by kernel_rfl) rfl ?_
    exact ⟨by simp [packV, dirB, hs1], rfl⟩
  ·
    rw [if_neg hs1]
    obtain ⟨hs1a, hs1b, hs1c⟩ := slash_facts hs1
    refine GL_fin (E' := [⟨3, [], .string (p.extract 0 (slash p).toNat)⟩]) [0, 0, 0, 0, 0] [3] rfl (by kernel_rfl) ?_
    refine N_then ?_
    refine G_seq ?_
    refine G_pure (E' := [⟨2, [], .string (p.extract 0 (slash p).toNat)⟩]) [0, 0] [2] rfl (by kernel_rfl) ?_
    refine N_then ?_
    refine G_ret ?_
    refine N_ret [.tmp 2] [.string (p.extract 0 (slash p).toNat)] rfl (by kernel_rfl) rfl ?_
    exact ⟨by simp [packV, dirB, hs1], rfl⟩
theorem refRight (p : ByteArray) (hp : p.size ≤ 9223372036854775807) (W0 : World) (H : List Grp) : Tri Try.prog 11 #[.string p] W0 H (fun v H' => v = .bool (rightB p) ∧ H' = H) := by
  refine Tri_of (args := [.string p]) (n := 26) Try.func11 rfl rfl (Nat.le_of_ble_eq_true rfl) ?_
  refine G_seq ?_
  refine G_pure (E' := [⟨0, [], .string p⟩]) [0] [0] rfl (by kernel_rfl) ?_
  refine N_then ?_
  refine G_seq ?_
  refine G_region ?_
  refine GL_pure (E' := [⟨6, [], .string p⟩, ⟨0, [], .string p⟩]) [0] (by kernel_rfl) (j := 1) rfl ?_
  refine GL_call (i := 1) (ch := []) (f := 28) (fst := #[]) (caps := #[]) (vs := [.string p]) rfl rfl rfl (by kernel_rfl) (by kernel_rfl) Try.func28 rfl rfl (by kernel_rfl) (by kernel_rfl) (chSure_of (by kernel_rfl)) (refSplit _ hp _ _) ?_
  rintro v H' ⟨rfl, rfl⟩
  by_cases hs1 : slash p < 0
  ·
    rw [if_pos hs1]
    refine GL_fin (E' := [⟨0, [], .string p⟩, ⟨3, [], .string (ByteArray.mk #[])⟩, ⟨4, [], .string p⟩]) [0, 0, 0, 0, 0] [0, 3, 4] rfl (by kernel_rfl) ?_
    refine N_then ?_
    refine G_seq ?_
    refine G_seq ?_
    have hw2 : IntKind.wrap .i64 (0 + (p.size : Int)) = 0 + (p.size : Int) := w64 (by omega) (by omega)
    refine G_pure (E' := [⟨3, [], .string (ByteArray.mk #[])⟩, ⟨4, [], .string p⟩, ⟨17, [], .bool (decide ((0 + (p.size : Int)) < (p.size : Int)))⟩]) [0, 0, 0, 0, 0, 0, 0, 0] [3, 4, 17] rfl (Eq.trans (b := some [⟨3, [], .string (ByteArray.mk #[])⟩, ⟨4, [], .string p⟩, ⟨17, [], .bool (decide ((IntKind.wrap .i64 (0 + (p.size : Int))) < (p.size : Int)))⟩]) (by kernel_rfl) (by simp only [hw2])) ?_
    refine N_then ?_
    refine G_cond (b := decide ((0 + (p.size : Int)) < (p.size : Int))) (by kernel_rfl) (fun hc3 => ?_) (fun hc3 => ?_)
    ·
      simp at hc3
    ·
      skip
      refine G_skip ?_
      refine N_then ?_
      refine G_seq ?_
      refine G_region ?_
      refine GL_pure (E' := [⟨24, [], .string p⟩]) [0] (by kernel_rfl) (j := 1) rfl ?_
      refine GL_callQ (i := 1) (ch := []) (f := 33) (fst := #[]) (caps := #[]) (vs := [.string p]) (v := .bool (partB p)) rfl rfl rfl (by kernel_rfl) (by kernel_rfl) Try.func33 rfl rfl (by kernel_rfl) (by kernel_rfl) (by kernel_rfl) (fun _ => refPart _ hp _ _) ?_
      refine GL_fin (E' := [⟨2, [], .bool (partB p)⟩]) [0] [2] rfl (by kernel_rfl) ?_
      refine N_then ?_
      refine G_ret ?_
      refine N_ret [.tmp 2] [.bool (partB p)] rfl (by kernel_rfl) rfl ?_
      exact ⟨by simp [packV, rightB, hs1], rfl⟩
  ·
    rw [if_neg hs1]
    obtain ⟨hs1a, hs1b, hs1c⟩ := slash_facts hs1
    refine GL_fin (E' := [⟨0, [], .string p⟩, ⟨3, [], .string (p.extract 0 (slash p).toNat)⟩, ⟨4, [], .string (p.extract ((slash p).toNat + 1) p.size)⟩]) [0, 0, 0, 0, 0] [0, 3, 4] rfl (by kernel_rfl) ?_
    refine N_then ?_
    refine G_seq ?_
    refine G_seq ?_
    have hw4 : IntKind.wrap .i64 (((p.extract 0 (slash p).toNat).size : Int) + ((p.extract ((slash p).toNat + 1) p.size).size : Int)) = ((p.extract 0 (slash p).toNat).size : Int) + ((p.extract ((slash p).toNat + 1) p.size).size : Int) := w64 (by omega) (by omega)
    refine G_pure (E' := [⟨3, [], .string (p.extract 0 (slash p).toNat)⟩, ⟨4, [], .string (p.extract ((slash p).toNat + 1) p.size)⟩, ⟨17, [], .bool (decide ((((p.extract 0 (slash p).toNat).size : Int) + ((p.extract ((slash p).toNat + 1) p.size).size : Int)) < (p.size : Int)))⟩]) [0, 0, 0, 0, 0, 0, 0, 0] [3, 4, 17] rfl (Eq.trans (b := some [⟨3, [], .string (p.extract 0 (slash p).toNat)⟩, ⟨4, [], .string (p.extract ((slash p).toNat + 1) p.size)⟩, ⟨17, [], .bool (decide ((IntKind.wrap .i64 (((p.extract 0 (slash p).toNat).size : Int) + ((p.extract ((slash p).toNat + 1) p.size).size : Int))) < (p.size : Int)))⟩]) (by kernel_rfl) (by simp only [hw4])) ?_
    refine N_then ?_
    refine G_cond (b := decide ((((p.extract 0 (slash p).toNat).size : Int) + ((p.extract ((slash p).toNat + 1) p.size).size : Int)) < (p.size : Int))) (by kernel_rfl) (fun hc5 => ?_) (fun hc5 => ?_)
    ·
      skip
      refine G_seq ?_
      refine G_region ?_
      refine GL_pure (E' := [⟨18, [], .string (p.extract 0 (slash p).toNat)⟩, ⟨4, [], .string (p.extract ((slash p).toNat + 1) p.size)⟩]) [0] (by kernel_rfl) (j := 1) rfl ?_
      refine GL_callQ (i := 1) (ch := []) (f := 33) (fst := #[]) (caps := #[]) (vs := [.string (p.extract 0 (slash p).toNat)]) (v := .bool (partB (p.extract 0 (slash p).toNat))) rfl rfl rfl (by kernel_rfl) (by kernel_rfl) Try.func33 rfl rfl (by kernel_rfl) (by kernel_rfl) (by kernel_rfl) (fun _ => refPart _ (by simp only [ByteArray.size_extract]; omega) _ _) ?_
      refine GL_pure (E' := [⟨21, [(20, true)], .string (p.extract ((slash p).toNat + 1) p.size)⟩, ⟨20, [], .bool (partB (p.extract 0 (slash p).toNat))⟩]) [0, 0] (by kernel_rfl) (j := 4) rfl ?_
      refine GL_callQ (i := 4) (ch := [(20, true)]) (f := 33) (fst := #[]) (caps := #[]) (vs := [.string (p.extract ((slash p).toNat + 1) p.size)]) (v := .bool (partB (p.extract ((slash p).toNat + 1) p.size))) rfl rfl rfl (by kernel_rfl) (by kernel_rfl) Try.func33 rfl rfl (by kernel_rfl) (by kernel_rfl) (by kernel_rfl) (fun hc => refPart _ (by simp only [ByteArray.size_extract]; omega) _ _) ?_
      refine GL_fin (E' := [⟨2, [], .bool ((partB (p.extract 0 (slash p).toNat)) && (partB (p.extract ((slash p).toNat + 1) p.size)))⟩]) [6, 0] [2] rfl (by kernel_rfl) ?_
      refine N_then ?_
      refine G_ret ?_
      refine N_then_ret ?_
      refine N_ret [.tmp 2] [.bool ((partB (p.extract 0 (slash p).toNat)) && (partB (p.extract ((slash p).toNat + 1) p.size)))] rfl (by kernel_rfl) rfl ?_
      exact ⟨by simp [packV, rightB, hs1], rfl⟩
    ·
      simp only [decide_eq_false_iff_not] at hc5; omega
theorem sliteIndex (s : ByteArray) (W0 : World) (H : List Grp) : Tri Try.prog 66 #[.string s, .string (ByteArray.mk #[47])] W0 H (fun v H' => v = .int .i64 (slash s) ∧ H' = H) := by
  refine Tri_of (args := [.string s, .string (ByteArray.mk #[47])]) (n := 143) Try.func66 rfl rfl (Nat.le_of_ble_eq_true rfl) ?_
  refine G_seq ?_
  refine G_pure (E' := [⟨0, [], .string s⟩, ⟨1, [], .string (ByteArray.mk #[47])⟩]) [0] [0, 1] rfl (by kernel_rfl) ?_
  refine N_then ?_
  refine G_seq ?_
  refine G_pure (E' := [⟨0, [], .string s⟩, ⟨1, [], .string (ByteArray.mk #[47])⟩, ⟨5, [], .int .i64 1⟩]) [0, 0, 0] [0, 1, 5] rfl (by kernel_rfl) ?_
  refine N_then ?_
  refine G_seq ?_
  refine G_block ?_
  refine G_seq ?_
  refine G_pure (E' := [⟨0, [], .string s⟩, ⟨1, [], .string (ByteArray.mk #[47])⟩, ⟨5, [], .int .i64 1⟩, ⟨16, [], .bool ((ByteArray.mk #[47]).toList == s.toList)⟩]) [0, 0, 0, 0, 0, 0, 3, 0] [0, 1, 5, 16] rfl (by kernel_rfl) ?_
  refine N_then ?_
  refine G_cond (b := (ByteArray.mk #[47]).toList == s.toList) (by kernel_rfl) (fun hc1 => ?_) (fun hc1 => ?_)
  ·
    have hc1 := slash_one (by simpa using hc1)
    refine G_seq ?_
    refine G_pure (E' := [⟨4, [], .int .i64 0⟩]) [0] [4] rfl (by kernel_rfl) ?_
    refine N_then ?_
    refine G_ret ?_
    refine N_block_ret ?_
    refine N_then_ret ?_
    refine N_ret [.tmp 4] [.int .i64 0] rfl (by kernel_rfl) rfl ?_
    exact ⟨by rw [hc1]; rfl, rfl⟩
  ·
    simp at hc1
    refine G_seq ?_
    refine G_pure (E' := [⟨0, [], .string s⟩, ⟨1, [], .string (ByteArray.mk #[47])⟩, ⟨5, [], .int .i64 1⟩, ⟨24, [], .bool true⟩]) [0, 0, 0] [0, 1, 5, 24] rfl (by kernel_rfl) ?_
    refine N_then ?_
    refine G_condt (by kernel_rfl) ?_
    refine G_seq ?_
    refine G_region ?_
    refine GL_pure (E' := [⟨28, [], .string (ByteArray.mk #[47])⟩, ⟨27, [], .string s⟩]) [0, 0] (by kernel_rfl) (j := 2) rfl ?_
    refine GL_index (i := 2) (ch := []) (s := (ByteArray.mk #[47])) (kd := .i64) (j := 0) rfl rfl (by kernel_rfl) (by kernel_rfl) (by kernel_rfl) (by kernel_rfl) (by kernel_rfl) (by kernel_rfl) (fun _ => by decide) ?_
    refine GL_callQ (i := 3) (ch := []) (f := 67) (fst := #[]) (caps := #[]) (vs := [.string s, .int .u8 47]) (v := .int .i64 (bIdx s 47)) rfl rfl rfl (by kernel_rfl) (by kernel_rfl) Try.func67 rfl rfl (by kernel_rfl) (by kernel_rfl) (by kernel_rfl) (fun _ => sliteIndexByte _ _ _ _) ?_
    refine GL_fin (E' := [⟨4, [], .int .i64 (bIdx s 47)⟩]) [0] [4] rfl (by kernel_rfl) ?_
    refine N_then ?_
    refine G_ret ?_
    refine N_block_ret ?_
    refine N_then_ret ?_
    refine N_ret [.tmp 4] [.int .i64 (bIdx s 47)] rfl (by kernel_rfl) rfl ?_
    exact ⟨rfl, rfl⟩
theorem sliteCut (s : ByteArray) (hs : s.size ≤ 9223372036854775807) (W0 : World) (H : List Grp) : Tri Try.prog 56 #[.string s, .string (ByteArray.mk #[47])] W0 H (fun v H' => v = .tuple (if slash s < 0 then #[.string s, .string (ByteArray.mk #[]), .bool false] else #[.string (s.extract 0 (slash s).toNat), .string (s.extract ((slash s).toNat + 1) s.size), .bool true]) ∧ H' = H) := by
  have hsl := slash_or s
  refine Tri_of (args := [.string s, .string (ByteArray.mk #[47])]) (n := 23) Try.func56 rfl rfl (Nat.le_of_ble_eq_true rfl) ?_
  refine G_seq ?_
  refine G_pure (E' := [⟨0, [], .string s⟩, ⟨1, [], .string (ByteArray.mk #[47])⟩]) [0, 0, 0] [0, 1] rfl (by kernel_rfl) ?_
  refine N_then ?_
  refine G_seq ?_
  refine G_seq ?_
  refine G_region ?_
  refine GL_pure (E' := [⟨9, [], .string (ByteArray.mk #[47])⟩, ⟨8, [], .string s⟩, ⟨0, [], .string s⟩, ⟨1, [], .string (ByteArray.mk #[47])⟩]) [0, 0] (by kernel_rfl) (j := 2) rfl ?_
  refine GL_callQ (i := 2) (ch := []) (f := 66) (fst := #[]) (caps := #[]) (vs := [.string s, .string (ByteArray.mk #[47])]) (v := .int .i64 (slash s)) rfl rfl rfl (by kernel_rfl) (by kernel_rfl) Try.func66 rfl rfl (by kernel_rfl) (by kernel_rfl) (by kernel_rfl) (fun _ => sliteIndex _ _ _) ?_
  refine GL_fin (E' := [⟨0, [], .string s⟩, ⟨1, [], .string (ByteArray.mk #[47])⟩, ⟨7, [], .int .i64 (slash s)⟩]) [0] [0, 1, 7] rfl (by kernel_rfl) ?_
  refine N_then ?_
  refine G_seq ?_
  refine G_pure (E' := [⟨0, [], .string s⟩, ⟨1, [], .string (ByteArray.mk #[47])⟩, ⟨7, [], .int .i64 (slash s)⟩, ⟨12, [], .bool (decide ((slash s) ≥ 0))⟩]) [0, 0] [0, 1, 7, 12] rfl (by kernel_rfl) ?_
  refine N_then ?_
  refine G_cond (b := decide ((slash s) ≥ 0)) (by kernel_rfl) (fun hc1 => ?_) (fun hc1 => ?_)
  ·
    simp at hc1
    refine G_seq ?_
    refine G_regionD (by kernel_rfl) (by kernel_rfl) ?_
    refine GL_pure (E' := [⟨14, [], .int .i64 (slash s)⟩, ⟨13, [], .string s⟩, ⟨0, [], .string s⟩, ⟨1, [], .string (ByteArray.mk #[47])⟩, ⟨7, [], .int .i64 (slash s)⟩]) [0, 0] (by kernel_rfl) (j := 2) rfl ?_
    refine GL_sliceS (i := 2) (ch := []) (s := s) (vl := none) (vh := (some (.int .i64 (slash s)))) (l := 0) (h := slash s) rfl rfl (by kernel_rfl) (by kernel_rfl) (by kernel_rfl) (by kernel_rfl) (by kernel_rfl) (by kernel_rfl) (by kernel_rfl) (by kernel_rfl) (by kernel_rfl) (fun _ => by omega) ?_
    have hw2 : IntKind.wrap .i64 ((slash s) + 1) = (slash s) + 1 := w64 (by omega) (by omega)
    refine GL_pure (E' := [⟨20, [], .int .i64 ((slash s) + 1)⟩, ⟨16, [], .string s⟩, ⟨15, [], .string (s.extract 0 (Int.toNat (slash s)))⟩]) [0, 0, 0, 0, 0] (Eq.trans (b := some [⟨20, [], .int .i64 (IntKind.wrap .i64 ((slash s) + 1))⟩, ⟨16, [], .string s⟩, ⟨15, [], .string (s.extract 0 (Int.toNat (slash s)))⟩]) (by kernel_rfl) (by simp only [hw2])) (j := 8) rfl ?_
    refine GL_sliceS (i := 8) (ch := []) (s := s) (vl := (some (.int .i64 ((slash s) + 1)))) (vh := none) (l := (slash s) + 1) (h := (s.size : Int)) rfl rfl (by kernel_rfl) (by kernel_rfl) (by kernel_rfl) (by kernel_rfl) (by kernel_rfl) (by kernel_rfl) (by kernel_rfl) (by kernel_rfl) (by kernel_rfl) (fun _ => by omega) ?_
    refine GL_fin (E' := [⟨4, [], .string (s.extract 0 (Int.toNat (slash s)))⟩, ⟨5, [], .string (s.extract (Int.toNat ((slash s) + 1)) s.size)⟩, ⟨6, [], .bool true⟩]) [0, 0, 0] [4, 5, 6] rfl (by kernel_rfl) ?_
    refine N_then ?_
    refine G_ret ?_
    refine N_then_ret ?_
    refine N_ret [.tmp 4, .tmp 5, .tmp 6] [.string (s.extract 0 (Int.toNat (slash s))), .string (s.extract (Int.toNat ((slash s) + 1)) s.size), .bool true] rfl (by kernel_rfl) rfl ?_
    exact ⟨by rw [if_neg (by omega), show (slash s + 1).toNat = (slash s).toNat + 1 from by omega]; rfl, rfl⟩
  ·
    simp at hc1
    refine G_skip ?_
    refine N_then ?_
    refine G_seq ?_
    refine G_pure (E' := [⟨4, [], .string s⟩, ⟨5, [], .string (ByteArray.mk #[])⟩, ⟨6, [], .bool false⟩]) [0, 0, 0, 0] [4, 5, 6] rfl (by kernel_rfl) ?_
    refine N_then ?_
    refine G_ret ?_
    refine N_ret [.tmp 4, .tmp 5, .tmp 6] [.string s, .string (ByteArray.mk #[]), .bool false] rfl (by kernel_rfl) rfl ?_
    exact ⟨by rw [if_pos (by omega)]; rfl, rfl⟩
theorem stringsCut (s : ByteArray) (hs : s.size ≤ 9223372036854775807) (W0 : World) (H : List Grp) : Tri Try.prog 31 #[.string s, .string (ByteArray.mk #[47])] W0 H (fun v H' => v = .tuple (if slash s < 0 then #[.string s, .string (ByteArray.mk #[]), .bool false] else #[.string (s.extract 0 (slash s).toNat), .string (s.extract ((slash s).toNat + 1) s.size), .bool true]) ∧ H' = H) := by
  refine Tri_of (args := [.string s, .string (ByteArray.mk #[47])]) (n := 13) Try.func31 rfl rfl (Nat.le_of_ble_eq_true rfl) ?_
  refine G_seq ?_
  refine G_pure (E' := [⟨0, [], .string s⟩, ⟨1, [], .string (ByteArray.mk #[47])⟩]) [0, 0, 0] [0, 1] rfl (by kernel_rfl) ?_
  refine N_then ?_
  refine G_seq ?_
  refine G_region ?_
  refine GL_pure (E' := [⟨8, [], .string (ByteArray.mk #[47])⟩, ⟨7, [], .string s⟩]) [0, 0] (by kernel_rfl) (j := 2) rfl ?_
  refine GL_call (i := 2) (ch := []) (f := 56) (fst := #[]) (caps := #[]) (vs := [.string s, .string (ByteArray.mk #[47])]) rfl rfl rfl (by kernel_rfl) (by kernel_rfl) Try.func56 rfl rfl (by kernel_rfl) (by kernel_rfl) (chSure_of (by kernel_rfl)) (sliteCut _ hs _ _) ?_
  rintro v H' ⟨rfl, rfl⟩
  by_cases hs1 : slash s < 0
  ·
    rw [if_pos hs1]
    refine GL_fin (E' := [⟨4, [], .string s⟩, ⟨5, [], .string (ByteArray.mk #[])⟩, ⟨6, [], .bool false⟩]) [0, 0, 0, 0, 0, 0] [4, 5, 6] rfl (by kernel_rfl) ?_
    refine N_then ?_
    refine G_ret ?_
    refine N_ret [.tmp 4, .tmp 5, .tmp 6] [.string s, .string (ByteArray.mk #[]), .bool false] rfl (by kernel_rfl) rfl ?_
    exact ⟨rfl, rfl⟩
  ·
    rw [if_neg hs1]
    obtain ⟨hs1a, hs1b, hs1c⟩ := slash_facts hs1
    refine GL_fin (E' := [⟨4, [], .string (s.extract 0 (slash s).toNat)⟩, ⟨5, [], .string (s.extract ((slash s).toNat + 1) s.size)⟩, ⟨6, [], .bool true⟩]) [0, 0, 0, 0, 0, 0] [4, 5, 6] rfl (by kernel_rfl) ?_
    refine N_then ?_
    refine G_ret ?_
    refine N_ret [.tmp 4, .tmp 5, .tmp 6] [.string (s.extract 0 (slash s).toNat), .string (s.extract ((slash s).toNat + 1) s.size), .bool true] rfl (by kernel_rfl) rfl ?_
    exact ⟨rfl, rfl⟩
theorem vfsPart (s : ByteArray) (hs : s.size ≤ 9223372036854775807) (W0 : World) (H : List Grp) : Tri Try.prog 32 #[.string s] W0 H (fun v H' => v = .bool (partB s) ∧ H' = H) := by
  refine Tri_of (args := [.string s]) (n := 58) Try.func32 rfl rfl (Nat.le_of_ble_eq_true rfl) ?_
  refine G_seq ?_
  refine G_pure (E' := [⟨0, [], .string s⟩]) [0] [0] rfl (by kernel_rfl) ?_
  refine N_then ?_
  refine G_seq ?_
  refine G_seq ?_
  refine G_pure (E' := [⟨0, [], .string s⟩, ⟨20, [], .bool ((((decide ((s.size : Int) < 1)) || (decide ((s.size : Int) > 80))) || (s.toList == (ByteArray.mk #[46]).toList)) || (s.toList == (ByteArray.mk #[46, 46]).toList))⟩]) [0, 0, 0, 0, 0, 0, 0, 5, 0, 0, 0, 5, 0, 0, 0, 5] [0, 20] rfl (by kernel_rfl) ?_
  refine N_then ?_
  refine G_cond (b := (((decide ((s.size : Int) < 1)) || (decide ((s.size : Int) > 80))) || (s.toList == (ByteArray.mk #[46]).toList)) || (s.toList == (ByteArray.mk #[46, 46]).toList)) (by kernel_rfl) (fun hc1 => ?_) (fun hc1 => ?_)
  ·
    have hf := part_no hc1
    refine G_seq ?_
    refine G_pure (E' := [⟨2, [], .bool false⟩]) [0] [2] rfl (by kernel_rfl) ?_
    refine N_then ?_
    refine G_ret ?_
    refine N_then_ret ?_
    refine N_ret [.tmp 2] [.bool false] rfl (by kernel_rfl) rfl ?_
    exact ⟨by rw [hf]; rfl, rfl⟩
  ·
    have hf := part_yes hc1
    have hsz : s.size ≤ 80 := by (revert hc1; simp; omega)
    refine G_skip ?_
    refine N_then ?_
    refine G_seq ?_
    refine G_seq ?_
    refine G_pure (E' := [⟨0, [], .string s⟩, ⟨22, [], .int .i64 (s.size : Int)⟩, ⟨23, [], .int .i64 0⟩]) [0, 0, 0] [0, 22, 23] rfl (by kernel_rfl) ?_
    refine N_then ?_
    refine G_block ?_
    refine G_loop (EI := (fun ξ : Nat => [⟨0, [], .string s⟩, ⟨22, [], .int .i64 (s.size : Int)⟩, ⟨23, [], .int .i64 ((ξ : Nat) : Int)⟩])) (HI := (fun ξ : Nat => H)) (Φ := (fun ξ : Nat => (ξ ≤ s.size) ∧ (pall s ξ))) (μ := (fun ξ : Nat => s.size - ξ)) (s0 := (0)) [0, 22, 23] (by kernel_rfl) rfl ⟨(by omega), pall_zero⟩ ?_
    rintro k ⟨hk, hp⟩
    refine G_seq ?_
    refine G_pure (E' := [⟨0, [], .string s⟩, ⟨22, [], .int .i64 (s.size : Int)⟩, ⟨23, [], .int .i64 ((k : Nat) : Int)⟩, ⟨24, [], .bool (decide (((k : Nat) : Int) < (s.size : Int)))⟩]) [0] [0, 22, 23, 24] rfl (by kernel_rfl) ?_
    refine N_then ?_
    refine G_seq ?_
    refine G_cond (b := decide (((k : Nat) : Int) < (s.size : Int))) (by kernel_rfl) (fun hc2 => ?_) (fun hc2 => ?_)
    ·
      simp at hc2
      refine G_skip ?_
      refine N_then ?_
      refine G_seq ?_
      refine G_block ?_
      refine G_seq ?_
      refine G_pure (E' := [⟨0, [], .string s⟩, ⟨3, [], .int .i64 ((k : Nat) : Int)⟩, ⟨22, [], .int .i64 (s.size : Int)⟩, ⟨23, [], .int .i64 ((k : Nat) : Int)⟩]) [0, 0] [0, 3, 22, 23] rfl (by kernel_rfl) ?_
      refine N_then ?_
      refine G_seq ?_
      refine G_region ?_
      refine GL_pure (E' := [⟨27, [], .int .i64 ((k : Nat) : Int)⟩, ⟨26, [], .string s⟩, ⟨0, [], .string s⟩, ⟨22, [], .int .i64 (s.size : Int)⟩, ⟨23, [], .int .i64 ((k : Nat) : Int)⟩]) [0, 0] (by kernel_rfl) (j := 2) rfl ?_
      refine GL_index (i := 2) (ch := []) (s := s) (kd := .i64) (j := ((k : Nat) : Int)) rfl rfl (by kernel_rfl) (by kernel_rfl) (by kernel_rfl) (by kernel_rfl) (by kernel_rfl) (by kernel_rfl) (fun _ => by omega) ?_
      have hb3 := byteAt_rng s ((k : Nat) : Int)
      refine GL_fin (E' := [⟨0, [], .string s⟩, ⟨4, [], .int .u8 (byteAt s ((k : Nat) : Int))⟩, ⟨22, [], .int .i64 (s.size : Int)⟩, ⟨23, [], .int .i64 ((k : Nat) : Int)⟩]) [0] [0, 4, 22, 23] rfl (by kernel_rfl) ?_
      refine N_then ?_
      refine G_seq ?_
      refine G_region ?_
      refine GL_pure (E' := [⟨52, [(51, false)], .int .u8 (byteAt s ((k : Nat) : Int))⟩, ⟨51, [], .bool ((((decide ((byteAt s ((k : Nat) : Int)) ≥ 97)) && (decide ((byteAt s ((k : Nat) : Int)) ≤ 122))) || ((decide ((byteAt s ((k : Nat) : Int)) ≥ 65)) && (decide ((byteAt s ((k : Nat) : Int)) ≤ 90)))) || ((decide ((byteAt s ((k : Nat) : Int)) ≥ 48)) && (decide ((byteAt s ((k : Nat) : Int)) ≤ 57))))⟩, ⟨0, [], .string s⟩, ⟨22, [], .int .i64 (s.size : Int)⟩, ⟨23, [], .int .i64 ((k : Nat) : Int)⟩]) [0, 0, 0, 0, 0, 6, 0, 0, 0, 0, 0, 0, 6, 5, 0, 0, 0, 0, 0, 0, 6, 5, 0, 0] (by kernel_rfl) (j := 24) rfl ?_
      refine GL_callQ (i := 24) (ch := [(51, false)]) (f := 57) (fst := #[]) (caps := #[]) (vs := [.string (ByteArray.mk #[45, 95, 46]), .int .u8 (byteAt s ((k : Nat) : Int))]) (v := .int .i64 (bIdx (ByteArray.mk #[45, 95, 46]) (byteAt s ((k : Nat) : Int)))) rfl rfl rfl (by kernel_rfl) (by kernel_rfl) Try.func57 rfl rfl (by kernel_rfl) (by kernel_rfl) (by kernel_rfl) (fun hc => stringsIndexByte _ _ _ _) ?_
      refine GL_fin (E' := [⟨0, [], .string s⟩, ⟨22, [], .int .i64 (s.size : Int)⟩, ⟨23, [], .int .i64 ((k : Nat) : Int)⟩, ⟨56, [], .bool (!(((((decide ((byteAt s ((k : Nat) : Int)) ≥ 97)) && (decide ((byteAt s ((k : Nat) : Int)) ≤ 122))) || ((decide ((byteAt s ((k : Nat) : Int)) ≥ 65)) && (decide ((byteAt s ((k : Nat) : Int)) ≤ 90)))) || ((decide ((byteAt s ((k : Nat) : Int)) ≥ 48)) && (decide ((byteAt s ((k : Nat) : Int)) ≤ 57)))) || (decide ((bIdx (ByteArray.mk #[45, 95, 46]) (byteAt s ((k : Nat) : Int))) ≥ 0))))⟩]) [0, 5, 0] [0, 22, 23, 56] rfl (by kernel_rfl) ?_
      refine N_then ?_
      refine G_cond (b := !(((((decide ((byteAt s ((k : Nat) : Int)) ≥ 97)) && (decide ((byteAt s ((k : Nat) : Int)) ≤ 122))) || ((decide ((byteAt s ((k : Nat) : Int)) ≥ 65)) && (decide ((byteAt s ((k : Nat) : Int)) ≤ 90)))) || ((decide ((byteAt s ((k : Nat) : Int)) ≥ 48)) && (decide ((byteAt s ((k : Nat) : Int)) ≤ 57)))) || (decide ((bIdx (ByteArray.mk #[45, 95, 46]) (byteAt s ((k : Nat) : Int))) ≥ 0)))) (by kernel_rfl) (fun hc4 => ?_) (fun hc4 => ?_)
      ·
        rw [three_idx hb3.1 hb3.2] at hc4
        have hpb : pbyte (byteAt s k) = false := by (simp only [pbyte]; revert hc4; simp; omega)
        refine G_seq ?_
        refine G_pure (E' := [⟨2, [], .bool false⟩]) [0] [2] rfl (by kernel_rfl) ?_
        refine N_then ?_
        refine G_ret ?_
        refine N_block_ret ?_
        refine N_then_ret ?_
        refine N_then_ret ?_
        refine N_block_ret ?_
        refine N_then_ret ?_
        refine N_ret [.tmp 2] [.bool false] rfl (by kernel_rfl) rfl ?_
        exact ⟨by simp [packV, hf, pallB_false hc2 hpb], rfl⟩
      ·
        rw [three_idx hb3.1 hb3.2] at hc4
        have hpb : pbyte (byteAt s k) = true := by (simp only [pbyte]; revert hc4; simp; omega)
        refine G_skip ?_
        refine N_block ?_
        refine N_then ?_
        have hw5 : IntKind.wrap .i64 (((k : Nat) : Int) + 1) = ((k : Nat) : Int) + 1 := w64 (by omega) (by omega)
        refine G_pure (E' := [⟨0, [], .string s⟩, ⟨22, [], .int .i64 (s.size : Int)⟩, ⟨23, [], .int .i64 (((k : Nat) : Int) + 1)⟩]) [0, 0] [0, 22, 23] rfl (Eq.trans (b := some [⟨0, [], .string s⟩, ⟨22, [], .int .i64 (s.size : Int)⟩, ⟨23, [], .int .i64 (IntKind.wrap .i64 (((k : Nat) : Int) + 1))⟩]) (by kernel_rfl) (by simp only [hw5])) ?_
        refine N_round (s' := (k + 1)) [0, 22, 23] (by kernel_rfl) rfl ⟨(by omega), (pall_succ hp hpb)⟩ (by omega)
    ·
      simp at hc2
      refine G_exit ?_
      refine N_then_exit ?_
      refine N_then_exit ?_
      refine N_block_exit ?_
      refine N_then ?_
      refine G_seq ?_
      refine G_pure (E' := [⟨2, [], .bool true⟩]) [0] [2] rfl (by kernel_rfl) ?_
      refine N_then ?_
      refine G_ret ?_
      refine N_ret [.tmp 2] [.bool true] rfl (by kernel_rfl) rfl ?_
      exact ⟨by simp [packV, hf, pallB_true hp hc2], rfl⟩
theorem vfsRight (p : ByteArray) (hp : p.size ≤ 9223372036854775807) (W0 : World) (H : List Grp) : Tri Try.prog 10 #[.string p] W0 H (fun v H' => v = .bool (rightB p) ∧ H' = H) := by
  refine Tri_of (args := [.string p]) (n := 22) Try.func10 rfl rfl (Nat.le_of_ble_eq_true rfl) ?_
  refine G_seq ?_
  refine G_pure (E' := [⟨0, [], .string p⟩]) [0] [0] rfl (by kernel_rfl) ?_
  refine N_then ?_
  refine G_seq ?_
  refine G_region ?_
  refine GL_pure (E' := [⟨7, [], .string p⟩]) [0] (by kernel_rfl) (j := 1) rfl ?_
  refine GL_call (i := 1) (ch := []) (f := 31) (fst := #[]) (caps := #[]) (vs := [.string p, .string (ByteArray.mk #[47])]) rfl rfl rfl (by kernel_rfl) (by kernel_rfl) Try.func31 rfl rfl (by kernel_rfl) (by kernel_rfl) (chSure_of (by kernel_rfl)) (stringsCut _ hp _ _) ?_
  rintro v H' ⟨rfl, rfl⟩
  by_cases hs1 : slash p < 0
  ·
    rw [if_pos hs1]
    refine GL_fin (E' := [⟨3, [], .string p⟩, ⟨4, [], .string (ByteArray.mk #[])⟩, ⟨5, [], .bool false⟩]) [0, 0, 0, 0, 0, 0, 0] [3, 4, 5] rfl (by kernel_rfl) ?_
    refine N_then ?_
    refine G_seq ?_
    refine G_region ?_
    refine GL_pure (E' := [⟨12, [], .string p⟩, ⟨4, [], .string (ByteArray.mk #[])⟩, ⟨5, [], .bool false⟩]) [0] (by kernel_rfl) (j := 1) rfl ?_
    refine GL_callQ (i := 1) (ch := []) (f := 32) (fst := #[]) (caps := #[]) (vs := [.string p]) (v := .bool (partB p)) rfl rfl rfl (by kernel_rfl) (by kernel_rfl) Try.func32 rfl rfl (by kernel_rfl) (by kernel_rfl) (by kernel_rfl) (fun _ => vfsPart _ hp _ _) ?_
    refine GL_fin (E' := [⟨2, [], .bool ((partB p) && true)⟩]) [0, 0, 0, 0, 1, 1, 2, 6, 0] [2] rfl (by kernel_rfl) ?_
    refine N_then ?_
    refine G_ret ?_
    refine N_ret [.tmp 2] [.bool ((partB p) && true)] rfl (by kernel_rfl) rfl ?_
    exact ⟨by simp [packV, rightB, hs1], rfl⟩
  ·
    rw [if_neg hs1]
    obtain ⟨hs1a, hs1b, hs1c⟩ := slash_facts hs1
    refine GL_fin (E' := [⟨3, [], .string (p.extract 0 (slash p).toNat)⟩, ⟨4, [], .string (p.extract ((slash p).toNat + 1) p.size)⟩, ⟨5, [], .bool true⟩]) [0, 0, 0, 0, 0, 0, 0] [3, 4, 5] rfl (by kernel_rfl) ?_
    refine N_then ?_
    refine G_seq ?_
    refine G_region ?_
    refine GL_pure (E' := [⟨12, [], .string (p.extract 0 (slash p).toNat)⟩, ⟨4, [], .string (p.extract ((slash p).toNat + 1) p.size)⟩, ⟨5, [], .bool true⟩]) [0] (by kernel_rfl) (j := 1) rfl ?_
    refine GL_callQ (i := 1) (ch := []) (f := 32) (fst := #[]) (caps := #[]) (vs := [.string (p.extract 0 (slash p).toNat)]) (v := .bool (partB (p.extract 0 (slash p).toNat))) rfl rfl rfl (by kernel_rfl) (by kernel_rfl) Try.func32 rfl rfl (by kernel_rfl) (by kernel_rfl) (by kernel_rfl) (fun _ => vfsPart _ (by simp only [ByteArray.size_extract]; omega) _ _) ?_
    refine GL_pure (E' := [⟨18, [(17, false), (14, true)], .string (p.extract ((slash p).toNat + 1) p.size)⟩, ⟨17, [(14, true)], .bool false⟩, ⟨14, [], .bool (partB (p.extract 0 (slash p).toNat))⟩]) [0, 0, 0, 0, 0] (by kernel_rfl) (j := 7) rfl ?_
    refine GL_callQ (i := 7) (ch := [(17, false), (14, true)]) (f := 32) (fst := #[]) (caps := #[]) (vs := [.string (p.extract ((slash p).toNat + 1) p.size)]) (v := .bool (partB (p.extract ((slash p).toNat + 1) p.size))) rfl rfl rfl (by kernel_rfl) (by kernel_rfl) Try.func32 rfl rfl (by kernel_rfl) (by kernel_rfl) (by kernel_rfl) (fun hc => vfsPart _ (by simp only [ByteArray.size_extract]; omega) _ _) ?_
    refine GL_fin (E' := [⟨2, [], .bool ((partB (p.extract 0 (slash p).toNat)) && (partB (p.extract ((slash p).toNat + 1) p.size)))⟩]) [3, 6, 0] [2] rfl (by kernel_rfl) ?_
    refine N_then ?_
    refine G_ret ?_
    refine N_ret [.tmp 2] [.bool ((partB (p.extract 0 (slash p).toNat)) && (partB (p.extract ((slash p).toNat + 1) p.size)))] rfl (by kernel_rfl) rfl ?_
    exact ⟨by simp [packV, rightB, hs1], rfl⟩
theorem vfsDirOf (p : ByteArray) (hp : p.size ≤ 9223372036854775807) (W0 : World) (H : List Grp) : Tri Try.prog 37 #[.string p] W0 H (fun v H' => v = .string (dirB p) ∧ H' = H) := by
  refine Tri_of (args := [.string p]) (n := 15) Try.func37 rfl rfl (Nat.le_of_ble_eq_true rfl) ?_
  refine G_seq ?_
  refine G_pure (E' := [⟨0, [], .string p⟩]) [0] [0] rfl (by kernel_rfl) ?_
  refine N_then ?_
  refine G_seq ?_
  refine G_region ?_
  refine GL_pure (E' := [⟨7, [], .string p⟩]) [0] (by kernel_rfl) (j := 1) rfl ?_
  refine GL_call (i := 1) (ch := []) (f := 31) (fst := #[]) (caps := #[]) (vs := [.string p, .string (ByteArray.mk #[47])]) rfl rfl rfl (by kernel_rfl) (by kernel_rfl) Try.func31 rfl rfl (by kernel_rfl) (by kernel_rfl) (chSure_of (by kernel_rfl)) (stringsCut _ hp _ _) ?_
  rintro v H' ⟨rfl, rfl⟩
  by_cases hs1 : slash p < 0
  ·
    rw [if_pos hs1]
    refine GL_fin (E' := [⟨3, [], .string p⟩, ⟨5, [], .bool false⟩]) [0, 0, 0, 0, 0, 0, 0] [3, 5] rfl (by kernel_rfl) ?_
    refine N_then ?_
    refine G_seq ?_
    refine G_seq ?_
    refine G_pure (E' := [⟨3, [], .string p⟩, ⟨13, [], .bool true⟩]) [0, 0] [3, 13] rfl (by kernel_rfl) ?_
    refine N_then ?_
    refine G_condt (by kernel_rfl) ?_
    refine G_seq ?_
    refine G_pure (E' := [⟨2, [], .string (ByteArray.mk #[])⟩]) [0] [2] rfl (by kernel_rfl) ?_
    refine N_then ?_
    refine G_ret ?_
    refine N_then_ret ?_
    refine N_ret [.tmp 2] [.string (ByteArray.mk #[])] rfl (by kernel_rfl) rfl ?_
    exact ⟨by simp [packV, dirB, hs1], rfl⟩
  ·
    rw [if_neg hs1]
    obtain ⟨hs1a, hs1b, hs1c⟩ := slash_facts hs1
    refine GL_fin (E' := [⟨3, [], .string (p.extract 0 (slash p).toNat)⟩, ⟨5, [], .bool true⟩]) [0, 0, 0, 0, 0, 0, 0] [3, 5] rfl (by kernel_rfl) ?_
    refine N_then ?_
    refine G_seq ?_
    refine G_seq ?_
    refine G_pure (E' := [⟨3, [], .string (p.extract 0 (slash p).toNat)⟩, ⟨13, [], .bool false⟩]) [0, 0] [3, 13] rfl (by kernel_rfl) ?_
    refine N_then ?_
    refine G_condf (by kernel_rfl) ?_
    refine G_skip ?_
    refine N_then ?_
    refine G_seq ?_
    refine G_pure (E' := [⟨2, [], .string (p.extract 0 (slash p).toNat)⟩]) [0, 0] [2] rfl (by kernel_rfl) ?_
    refine N_then ?_
    refine G_ret ?_
    refine N_ret [.tmp 2] [.string (p.extract 0 (slash p).toNat)] rfl (by kernel_rfl) rfl ?_
    exact ⟨by simp [packV, dirB, hs1], rfl⟩
end Go.Proofs.Ytbmieiffboenbaa
namespace Go.Sw
def Qn (K : Act → World → Prop) : Post := fun x a w => x = .normal ∧ K a w
theorem wp_swap {P : Program} {o : Oper} {a : Act} {w : World} {K1 K A B : Act → World → Prop} (h : ∀ a w, K1 a w → K a w)
    (hh : o.wp P a w K1 (Qn A)) : o.wp P a w K (Qn B) := by
  unfold Oper.wp at *
  generalize (execOp a.eval o).run P w = r at *
  cases r with
  | ok n w' =>
    cases n <;> simp only [Oper.upon] at hh ⊢ <;>
      first
        | exact h _ _ hh
        | exact Calls.mono hh (fun e w'' he => by
            cases e
            · exact h _ _ he
            · exact absurd he.1 (by intro h; cases h)
            · obtain ⟨_, _, h1, _⟩ := he; cases h1)
        | exact Rows.mono hh (fun _ _ he => h _ _ he)
  | halt x w' => cases x <;> simp only [Oper.upon] at hh ⊢ <;> first | exact hh | exact absurd hh.1 (by intro h; cases h)
def cutOps (ops : Array Oper) (i : Nat) : Array Oper := (ops.toList.take (i + 1)).toArray
def guardBefore (ops : Array Oper) (i : Nat) : Bool := match ops[i]? with | some o => (match o.guard with | some (j, _) => decide (j ≤ i) | none => true) | none => false
theorem cutOps_get {ops : Array Oper} {i j : Nat} (h : j ≤ i) : (cutOps ops i)[j]? = ops[j]? := by
  rw [cutOps, List.getElem?_toArray, List.getElem?_take, if_pos (by omega), Array.getElem?_toList]
theorem cut_drop {ops : Array Oper} {i : Nat} {o : Oper} (h : ops[i]? = some o) : (cutOps ops i).toList.drop i = [o] := by
  have hi : i < ops.toList.length := by
    rcases Nat.lt_or_ge i ops.size with h' | h'
    · simpa using h'
    · simp [Array.getElem?_eq_none h'] at h
  have e : ops.toList[i]? = some o := by rw [Array.getElem?_toList]; exact h
  rw [List.getElem?_eq_getElem hi] at e
  injection e with e
  unfold cutOps
  rw [List.toList_toArray, List.take_succ_eq_append_getElem hi, e, List.drop_append_of_le_length (by rw [List.length_take]; omega), List.drop_eq_nil_of_le (by rw [List.length_take]; omega)]
  rfl
theorem cut_wanted {ops : Array Oper} {i : Nat} {o : Oper} (h : ops[i]? = some o) (hg : guardBefore ops i = true) (tmps : Array Value) :
    Region.wanted o (yielded (cutOps ops i) tmps) = Region.wanted o (yielded ops tmps) := by
  unfold guardBefore at hg
  rw [h] at hg
  unfold Region.wanted
  cases hgd : o.guard with
  | none => rfl
  | some p =>
    obtain ⟨j, b⟩ := p
    simp only [hgd, decide_eq_true_eq] at hg
    simp only [yielded, cutOps_get hg]
def noCall (o : Oper) : Bool := match o.op with
  | .move _ | .assign _ | .pick .. | .load .. | .binOp .. | .unOp .. | .convert .. | .makeInterface .. | .makeFunc .. | .slice .. | .fieldAddr .. | .field .. | .indexAddr .. | .index .. | .lookup .. | .extract .. | .build .. => true
  | _ => false
def GH (P : Program) (ops : Array Oper) (L : List Grp) (fuel : Nat) (listed : Array Bool) (Q : Post) (n : Nat) (E : Env) (W0 : World) (H : List Grp) : Prop :=
  ∀ a w, Ag n E a → Sat W0 H w → wpAnyH P .any ops (Qn (Q .normal)) (Sat W0 L) fuel listed a w
theorem G_regionH {P : Program} {id : Nat} {ops : Array Oper} {Q : Post} {n : Nat} {E : Env} {W0 : World} {H : List Grp} (L : List Grp)
    (hm : P.follows .mixedOrders = true) (k : GH P ops L ops.size (Array.replicate ops.size false) Q n E W0 H) : G P (.region id ops true) Q n E W0 H := by
  intro a w ha hs
  refine Code.wp_mono (Q := Qn (Q .normal)) (fun e a w h => ?_) (wp_region_held hm (k a _ ha hs.drew))
  obtain ⟨rfl, h⟩ := h
  exact h
theorem GH_more {P : Program} {ops : Array Oper} {L : List Grp} (L' : List Grp) {fuel : Nat} {listed : Array Bool} {Q : Post} {n : Nat} {E : Env} {W0 : World} {H : List Grp}
    (hL : ∀ w, Sat W0 L' w → Sat W0 L w) (k : GH P ops L' fuel listed Q n E W0 H) : GH P ops L fuel listed Q n E W0 H := by
  have mono : ∀ fuel listed a w, wpAnyH P .any ops (Qn (Q .normal)) (Sat W0 L') fuel listed a w → wpAnyH P .any ops (Qn (Q .normal)) (Sat W0 L) fuel listed a w := by
    intro fuel
    induction fuel with
    | zero => exact fun _ _ _ h => h
    | succ fuel ih => exact fun listed a w h => ⟨h.1, fun i hi => wpOp_mono (fun a' w' h' => ⟨hL _ h'.1, ih _ _ _ h'.2⟩) (h.2 i hi)⟩
  exact fun a w ha hs => mono _ _ _ _ (k a w ha hs)
theorem GH_done {P : Program} {ops : Array Oper} {L : List Grp} {fuel : Nat} {listed : Array Bool} {Q : Post} {n : Nat} {E E' : Env} {W0 : World} {H : List Grp} (ts : List Nat)
    (hr : Region.ready .any ops listed = []) (hk : Env.keep ts E = E') (k : N Q .normal n E' W0 H) : GH P ops L fuel listed Q n E W0 H :=
  fun a w ha hs => wpAnyH_done hr ⟨rfl, N_sub ts hk k a w ha hs⟩ fuel
theorem GH_wpOp {P : Program} {ops : Array Oper} {L : List Grp} {fuel : Nat} {listed : Array Bool} {Q : Post} {n : Nat} {E : Env} {W0 : World} {H : List Grp} (i : Nat)
    (hi : (ops[i]?).isSome = true) (hg : guardBefore ops i = true)
    (k : GL false P (cutOps ops i) i (Qn fun a w => Sat W0 L w ∧ wpAnyH P .any ops (Qn (Q .normal)) (Sat W0 L) fuel (listed.setIfInBounds i true) a w) n E W0 H) {a : Act} {w : World} (ha : Ag n E a) (hs : Sat W0 H w) :
    wpOp P ops (Qn (Q .normal)) i (fun a w => Sat W0 L w ∧ wpAnyH P .any ops (Qn (Q .normal)) (Sat W0 L) fuel (listed.setIfInBounds i true) a w) a w := by
  obtain ⟨o, ho⟩ := Option.isSome_iff_exists.1 hi
  have h1 := k a w ha hs
  rw [cut_drop ho] at h1
  unfold wpOp
  simp only [ho]
  unfold wpList at h1
  rw [cut_wanted ho hg] at h1
  split
  · rename_i hw
    rw [if_pos hw] at h1
    rcases h1 with h1 | ⟨_, _, _, h1, _⟩
    · exact .inl (wp_swap (fun a w h => h.2) h1)
    · cases h1
  · rename_i hw
    rw [if_neg hw] at h1
    exact h1.2
theorem GH_eff {P : Program} {ops : Array Oper} {L : List Grp} {fuel : Nat} {listed : Array Bool} {Q : Post} {n : Nat} {E : Env} {W0 : World} {H : List Grp} (i : Nat)
    (hr : Region.ready .any ops listed = [i]) (hi : (ops[i]?).isSome = true) (hg : guardBefore ops i = true)
    (k : GL false P (cutOps ops i) i (Qn fun a w => Sat W0 L w ∧ wpAnyH P .any ops (Qn (Q .normal)) (Sat W0 L) fuel (listed.setIfInBounds i true) a w) n E W0 H) :
    GH P ops L (fuel + 1) listed Q n E W0 H := by
  intro a w ha hs
  refine wpAnyH_all hr (by simp) (fun j hj => ?_)
  have hji : j = i := by simpa using hj
  subst hji
  exact GH_wpOp j hi hg k ha hs
theorem GH_eff2 {P : Program} {ops : Array Oper} {L : List Grp} {fuel : Nat} {listed : Array Bool} {Q : Post} {n : Nat} {E : Env} {W0 : World} {H : List Grp} (i i' : Nat)
    (hr : Region.ready .any ops listed = [i, i']) (hi : (ops[i]?).isSome = true) (hg : guardBefore ops i = true) (hi' : (ops[i']?).isSome = true) (hg' : guardBefore ops i' = true)
    (k : GL false P (cutOps ops i) i (Qn fun a w => Sat W0 L w ∧ wpAnyH P .any ops (Qn (Q .normal)) (Sat W0 L) fuel (listed.setIfInBounds i true) a w) n E W0 H)
    (k' : GL false P (cutOps ops i') i' (Qn fun a w => Sat W0 L w ∧ wpAnyH P .any ops (Qn (Q .normal)) (Sat W0 L) fuel (listed.setIfInBounds i' true) a w) n E W0 H) :
    GH P ops L (fuel + 1) listed Q n E W0 H := by
  intro a w ha hs
  refine wpAnyH_all hr (by simp) (fun j hj => ?_)
  have hji : j = i ∨ j = i' := by simpa using hj
  rcases hji with rfl | rfl
  · exact GH_wpOp j hi hg k ha hs
  · exact GH_wpOp j hi' hg' k' ha hs
theorem GH_eff3 {P : Program} {ops : Array Oper} {L : List Grp} {fuel : Nat} {listed : Array Bool} {Q : Post} {n : Nat} {E : Env} {W0 : World} {H : List Grp} (i i' i2 : Nat)
    (hr : Region.ready .any ops listed = [i, i', i2]) (hi : (ops[i]?).isSome = true) (hg : guardBefore ops i = true) (hi' : (ops[i']?).isSome = true) (hg' : guardBefore ops i' = true) (hi2 : (ops[i2]?).isSome = true) (hg2 : guardBefore ops i2 = true)
    (k : GL false P (cutOps ops i) i (Qn fun a w => Sat W0 L w ∧ wpAnyH P .any ops (Qn (Q .normal)) (Sat W0 L) fuel (listed.setIfInBounds i true) a w) n E W0 H)
    (k' : GL false P (cutOps ops i') i' (Qn fun a w => Sat W0 L w ∧ wpAnyH P .any ops (Qn (Q .normal)) (Sat W0 L) fuel (listed.setIfInBounds i' true) a w) n E W0 H)
    (k2 : GL false P (cutOps ops i2) i2 (Qn fun a w => Sat W0 L w ∧ wpAnyH P .any ops (Qn (Q .normal)) (Sat W0 L) fuel (listed.setIfInBounds i2 true) a w) n E W0 H) :
    GH P ops L (fuel + 1) listed Q n E W0 H := by
  intro a w ha hs
  refine wpAnyH_all hr (by simp) (fun j hj => ?_)
  have hji : j = i ∨ j = i' ∨ j = i2 := by simpa using hj
  rcases hji with rfl | rfl | rfl
  · exact GH_wpOp j hi hg k ha hs
  · exact GH_wpOp j hi' hg' k' ha hs
  · exact GH_wpOp j hi2 hg2 k2 ha hs
theorem GH_back {P : Program} {ops : Array Oper} {L : List Grp} {fuel : Nat} {listed : Array Bool} {Q : Post} {n : Nat} {E : Env} {W0 : World} {H : List Grp} {i j : Nat}
    (hi : (cutOps ops i).size = j) (hL : ∀ w, Sat W0 H w → Sat W0 L w) (k : GH P ops L fuel listed Q n E W0 H) :
    GL false P (cutOps ops i) j (Qn fun a w => Sat W0 L w ∧ wpAnyH P .any ops (Qn (Q .normal)) (Sat W0 L) fuel listed a w) n E W0 H :=
  GL_end hi (fun a w ha hs => ⟨rfl, hL w hs, k a w ha hs⟩)
def valueM (m : Sem Value) : Sem Next := m >>= fun v => pure (.value v)
theorem valueM_run {P : Program} {m : Sem Value} {w w' : World} {x : Next} (h : (valueM m).run P w = .ok x w') : ∃ v, x = .value v := by
  unfold valueM at h
  rw [Sem.run_bind] at h
  generalize m.run P w = r at h
  cases r with
  | ok v w1 => simp only [Result.andThen_ok, Sem.run_pure] at h; injection h with h; exact ⟨v, h.symm⟩
  | halt x w1 => simp [Result.andThen] at h
theorem bindV_run {P : Program} {α : Type} {m : Sem α} {f : α → Value} {w w' : World} {x : Next} (h : (m >>= fun b => pure (Next.value (f b))).run P w = .ok x w') : ∃ v, x = .value v := by
  rw [Sem.run_bind] at h
  generalize m.run P w = r at h
  cases r with
  | ok v w1 => simp only [Result.andThen_ok, Sem.run_pure] at h; injection h with h; exact ⟨_, h.symm⟩
  | halt x w1 => simp [Result.andThen] at h
theorem noCall_value {P : Program} {o : Oper} (hn : noCall o = true) {r : Operand → Value} {C : World → Prop} {w : World} {v : Value}
    (h : Oper.quietUpon P C w v ((execOp r o).run P w)) : (execOp r o).run P w = .ok (.value v) w := by
  have key : ∀ x w', (execOp r o).run P w = .ok x w' → ∃ v, x = .value v := by
    intro x w' he
    unfold noCall at hn
    cases hop : o.op <;> rw [hop] at hn <;> simp only [Bool.false_eq_true] at hn
    all_goals (unfold execOp at he; simp only [hop] at he)
    all_goals first
      | exact valueM_run (m := _) he
      | (simp only [Sem.run_pure] at he; injection he with he; exact ⟨_, he.symm⟩)
      | exact bindV_run he
  generalize hr : (execOp r o).run P w = res at h ⊢
  cases res with
  | ok x w' =>
    obtain ⟨u, rfl⟩ := key x w' hr
    simp only [Oper.quietUpon] at h
    obtain ⟨rfl, rfl⟩ := h
    rfl
  | halt x w' => simp [Oper.quietUpon] at h
theorem GH_take {P : Program} {ops : Array Oper} {L : List Grp} {fuel : Nat} {listed : Array Bool} {Q : Post} {n : Nat} {E E' : Env} {W0 : World} {H : List Grp} (i : Nat)
    (hi : (match ops[i]? with | some o => noCall o | none => false) = true) (hg : guardBefore ops i = true) (hs : Region.noSelect ops = true) (hf : Region.free .any ops listed i = true)
    (hr : (Region.ready .any ops listed).contains i = true) (hL : ∀ w, Sat W0 H w → Sat W0 L w)
    (hy : GL true P (cutOps ops i) i (fun _ a _ => Ag n E' a) n E W0 L)
    (k : GH P ops L fuel (listed.setIfInBounds i true) Q n E' W0 H) : GH P ops L (fuel + 1) listed Q n E W0 H := by
  intro a w ha hsat
  cases ho : ops[i]? with
  | none => rw [ho] at hi; simp at hi
  | some o =>
    rw [ho] at hi
    have hSw := hL w hsat
    have h1 := hy a ha
    rw [cut_drop ho] at h1
    unfold wpQuiet at h1
    rw [cut_wanted ho hg] at h1
    by_cases hw : Region.wanted o (yielded ops a.tmps) = true
    · rw [if_pos hw] at h1
      obtain ⟨v, h2, h3⟩ := h1
      exact wpAnyH_take (v := v) ho hs hf hr (fun c a w h => absurd h.1 (by intro h; cases h)) (.inl ⟨hw, fun w' hw' => noCall_value hi (h2 w' hw')⟩) hSw (k _ w (h3 w hSw) hsat)
    · rw [if_neg hw] at h1
      exact wpAnyH_take (v := undef) ho hs hf hr (fun c a w h => absurd h.1 (by intro h; cases h)) (.inr ⟨by simpa using hw, rfl⟩) hSw (k _ w (h1 w hSw) hsat)
theorem GH_nil {P : Program} {ops : Array Oper} {L : List Grp} {fuel : Nat} {listed : Array Bool} {Q : Post} {n : Nat} {E : Env} {W0 : World} {H : List Grp} {o : Oper} {x : Operand} {ad : Addr} (i : Nat)
    (ho : ops[i]? = some o) (hop : o.op = .nilCheck x) (hgd : o.guard = none) (hx : evO E [] x = some (.pointer (some ad))) (hd : dstOk n [] o.dst = true)
    (hs : Region.noSelect ops = true) (hf : Region.free .any ops listed i = true)
    (hr : (Region.ready .any ops listed).contains i = true) (hL : ∀ w, Sat W0 H w → Sat W0 L w)
    (k : GH P ops L fuel (listed.setIfInBounds i true) Q n (Env.put E o.dst [] (.pointer (some ad))) W0 H) : GH P ops L (fuel + 1) listed Q n E W0 H := by
  intro a w ha hsat
  obtain ⟨β, hβ, hat⟩ := ha.at_
  have hv : a.eval x = .pointer (some ad) := evO_eval hat rfl hx
  have hw : Region.wanted o (yielded ops a.tmps) = true := by unfold Region.wanted; rw [hgd]
  have hput : Ag n (Env.put E o.dst [] (.pointer (some ad))) (a.put o.dst (.pointer (some ad))) := by
    have := ha.put hβ hat hd (.pointer (some ad))
    simpa [chT] using this
  refine wpAnyH_take (v := .pointer (some ad)) ho hs hf hr (fun c a w h => absurd h.1 (by intro h; cases h)) (.inl ⟨hw, fun w' _ => ?_⟩) (hL w hsat) (k _ w hput hsat)
  unfold execOp
  simp only [hop, hv]
  rfl
theorem GH_pev {P : Program} {ops : Array Oper} {L : List Grp} {fuel : Nat} {listed : Array Bool} {Q : Post} {n : Nat} {E : Env} {W0 : World} {H : List Grp} {o : Oper} {v : Value} (i : Nat)
    (ho : ops[i]? = some o) (hgd : o.guard = none) (hp : pev P (evO E []) o.op = some v) (hd : dstOk n [] o.dst = true)
    (hs : Region.noSelect ops = true) (hf : Region.free .any ops listed i = true)
    (hr : (Region.ready .any ops listed).contains i = true) (hL : ∀ w, Sat W0 H w → Sat W0 L w)
    (k : GH P ops L fuel (listed.setIfInBounds i true) Q n (Env.put E o.dst [] v) W0 H) : GH P ops L (fuel + 1) listed Q n E W0 H := by
  intro a w ha hsat
  obtain ⟨β, hβ, hat⟩ := ha.at_
  have hw : Region.wanted o (yielded ops a.tmps) = true := by unfold Region.wanted; rw [hgd]
  have hput : Ag n (Env.put E o.dst [] v) (a.put o.dst v) := by
    have := ha.put hβ hat hd v
    simpa [chT] using this
  exact wpAnyH_take (v := v) ho hs hf hr (fun c a w h => absurd h.1 (by intro h; cases h)) (.inl ⟨hw, fun w' _ => pev_sound (fun x v h => evO_eval hat rfl h) hp w'⟩) (hL w hsat) (k _ w hput hsat)
theorem GL_yend {P : Program} {ops : Array Oper} {i : Nat} {n : Nat} {E E' : Env} {W0 : World} {L : List Grp} (hi : ops.size = i) (he : E = E') : GL true P ops i (fun _ a _ => Ag n E' a) n E W0 L :=
  GL_end hi (by subst he; exact fun a w ha _ => ha)
theorem cut_size {ops : Array Oper} {i : Nat} {o : Oper} (h : ops[i]? = some o) : (cutOps ops i).size = i + [0].length := by
  have hi : i < ops.size := (Array.getElem?_eq_some_iff.1 h).1
  unfold cutOps
  rw [List.size_toArray, List.length_take, Array.length_toList]; show min (i + 1) ops.size = i + 1; omega
theorem GH_pure {P : Program} {ops : Array Oper} {L : List Grp} {fuel : Nat} {listed : Array Bool} {Q : Post} {n : Nat} {E E' : Env} {W0 : World} {H : List Grp} (i m : Nat)
    (hc : ((match ops[i]? with | some o => noCall o | none => false) && (guardBefore ops i && (Region.noSelect ops && (Region.free .any ops listed i && (Region.ready .any ops listed).contains i)))) = true) (hL : ∀ w, Sat W0 H w → Sat W0 L w)
    (h : (psteps P (cutOps ops i) n [m] i E).map (Env.only (E'.map Sl.t)) = some E')
    (k : GH P ops L fuel (listed.setIfInBounds i true) Q n E' W0 H) : GH P ops L (fuel + 1) listed Q n E W0 H := by
  simp only [Bool.and_eq_true] at hc
  obtain ⟨h1, h2, h3, h4, h5⟩ := hc
  refine GH_take (E' := E') i h1 h2 h3 h4 h5 hL (GL_pure (j := i + [m].length) [m] h rfl (GL_yend ?_ rfl)) k
  cases ho : ops[i]? with
  | none => rw [ho] at h1; cases h1
  | some o => exact cut_size ho
theorem GH_take' {P : Program} {ops : Array Oper} {L : List Grp} {fuel : Nat} {listed : Array Bool} {Q : Post} {n : Nat} {E E' : Env} {W0 : World} {H : List Grp} (i : Nat)
    (hc : ((match ops[i]? with | some o => noCall o | none => false) && (guardBefore ops i && (Region.noSelect ops && (Region.free .any ops listed i && (Region.ready .any ops listed).contains i)))) = true) (hL : ∀ w, Sat W0 H w → Sat W0 L w)
    (hy : GL true P (cutOps ops i) i (fun _ a _ => Ag n E' a) n E W0 L)
    (k : GH P ops L fuel (listed.setIfInBounds i true) Q n E' W0 H) : GH P ops L (fuel + 1) listed Q n E W0 H := by
  simp only [Bool.and_eq_true] at hc
  obtain ⟨h1, h2, h3, h4, h5⟩ := hc
  exact GH_take i h1 h2 h3 h4 h5 hL hy k
theorem GH_env {P : Program} {ops : Array Oper} {L : List Grp} {fuel : Nat} {listed : Array Bool} {Q : Post} {n : Nat} {E E' : Env} {W0 : World} {H : List Grp} (h : E = E') (k : GH P ops L fuel listed Q n E' W0 H) : GH P ops L fuel listed Q n E W0 H := by subst h; exact k
theorem N_env {Q : Post} {x : Exit} {n : Nat} {E E' : Env} {W0 : World} {H : List Grp} (h : E = E') (k : N Q x n E' W0 H) : N Q x n E W0 H := by subst h; exact k
def JQ {T : Type} (n : Nat) (W0 : World) (EJ : T → Env) (HJ : T → List Grp) (Φ : T → Prop) : Post := fun x a w => x = .normal ∧ ∃ v, Φ v ∧ Ag n (EJ v) a ∧ Sat W0 (HJ v) w
theorem G_join {P : Program} {c : Code} {Q : Post} {n : Nat} {E : Env} {W0 : World} {H : List Grp} {T : Type} (EJ : T → Env) (HJ : T → List Grp) (Φ : T → Prop)
    (h : G P c (JQ n W0 EJ HJ Φ) n E W0 H) (k : ∀ v, Φ v → N Q .normal n (EJ v) W0 (HJ v)) : G P c Q n E W0 H :=
  fun a w ha hs => Code.wp_mono (fun x a w ⟨hx, v, h1, h2, h3⟩ => by subst hx; exact k v h1 a w h2 h3) (h a w ha hs)
theorem N_join {n : Nat} {E : Env} {W0 : World} {H : List Grp} {T : Type} {EJ : T → Env} {HJ : T → List Grp} {Φ : T → Prop} (v : T) (ts : List Nat) (h : Env.keep ts E = EJ v)
    (hH : ∀ w, Sat W0 H w → Sat W0 (HJ v) w) (hp : Φ v) : N (JQ n W0 EJ HJ Φ) .normal n E W0 H :=
  fun _ w ha hs => ⟨rfl, v, hp, ha.sub (by rw [← h]; intro s hs; exact Env.keep_mem _ hs), hH w hs⟩
theorem GL_env {d : Bool} {P : Program} {ops : Array Oper} {i : Nat} {Q : Post} {n : Nat} {E E' : Env} {W0 : World} {H : List Grp} (h : E = E') (k : GL d P ops i Q n E' W0 H) : GL d P ops i Q n E W0 H := by subst h; exact k
inductive RV (P : Program) (E : List Sl) (W0 : World) (H : List Grp) : ResultVar → Value → Prop
  | tmp {t : Nat} {v : Value} (h : evT E [] t = some v) : RV P E W0 H (.tmp t) v
  | agg {a t b off : Nat} {c : Array Value} {e : TypeId} {fz : Nat × Nat} {l : List Value} (h : evT E [] a = some (.pointer (some ⟨b, off, none⟩))) (ht : aggB P t = some true) (hz : sizeV P t = some l.length)
      (hA : At W0 H b (.cells c e fz)) (hv : (c.toList.drop off).take l.length = l) : RV P E W0 H (.cell a t) (.agg l.toArray)
  | one {a t b off : Nat} {c : Array Value} {e : TypeId} {fz : Nat × Nat} {v : Value} (h : evT E [] a = some (.pointer (some ⟨b, off, none⟩))) (ht : aggB P t = some false)
      (hA : At W0 H b (.cells c e fz)) (hv : c[off]? = some v) : RV P E W0 H (.cell a t) v
inductive RVs (P : Program) (E : List Sl) (W0 : World) (H : List Grp) : List ResultVar → List Value → Prop
  | nil : RVs P E W0 H [] []
  | cons {r : ResultVar} {v : Value} {rs : List ResultVar} {l : List Value} (h : RV P E W0 H r v) (k : RVs P E W0 H rs l) : RVs P E W0 H (r :: rs) (v :: l)
theorem RV.run {P : Program} {n : Nat} {E : Env} {W0 : World} {H : List Grp} {a : Act} (ha : Ag n E a) {w : World} (hs : Sat W0 H w) {r : ResultVar} {v : Value} (h : RV P E W0 H r v) :
    (resOne a.tmps r).run P w = .ok v w := by
  cases h with
  | tmp h =>
    have e := ha.eval (x := .tmp _) h
    simp only [resOne, Sem.run_pure]
    rw [show a.tmps.getD _ undef = v from e]
  | @agg x t b off c e fz l h ht hz hA hv' =>
    have ee : a.tmps.getD x undef = _ := ha.eval (x := .tmp x) h
    have hv : ∀ k (hk : k < l.length), c[off + k]? = some l[k] := by
      intro k hk
      have h1 : ((c.toList.drop off).take l.length)[k]? = some l[k] := by rw [hv']; simp
      rw [List.getElem?_take, if_pos hk, List.getElem?_drop] at h1
      simpa using h1
    simp only [resOne, ee, asAddr, loadVar, Sem.run_bind, Sem.run_pure, Result.andThen_ok, aggB_sound ht, if_true, sizeV_sound hz, loadCells,
      run_loadCells (P := P) (hs.at hA) l 0 #[] (by simpa using hv)]
    simp
  | @one x t b off c e fz v h ht hA hv =>
    have ee : a.tmps.getD x undef = _ := ha.eval (x := .tmp x) h
    simp only [resOne, ee, asAddr, loadVar, Sem.run_bind, Sem.run_pure, Result.andThen_ok, aggB_sound ht, Bool.false_eq_true, if_false, run_load, cell_of (hs.at hA) hv]
theorem RVs.run {P : Program} {n : Nat} {E : Env} {W0 : World} {H : List Grp} {a : Act} (ha : Ag n E a) {w : World} (hs : Sat W0 H w) {rs : List ResultVar} {l : List Value} (h : RVs P E W0 H rs l) :
    (rs.mapM (resOne a.tmps)).run P w = .ok l w := by
  induction h with
  | nil => rfl
  | cons h _ ih => simp only [List.mapM_cons, Sem.run_bind, h.run ha hs, Sem.run_pure, Result.andThen_ok, ih]
end Go.Sw
namespace Go.Sw
def u8s (l : List UInt8) : List Value := l.map fun b => Value.int .u8 (b.toNat : Int)
theorem GL_bytesStr {d : Bool} {P : Program} {ops : Array Oper} {i : Nat} {Q : Post} {n : Nat} {E : Env} {W0 : World} {H : List Grp} {o : Oper} {ch : List (Nat × Bool)} {src dst e : TypeId} {x : Operand} {a : Addr} {cap : Nat} {S : Nat → Obj → Prop} (l : List UInt8)
    (ho : ops[i]? = some o) (hop : o.op = .convert src dst x) (hx : evO E ch x = some (.slice (some a) l.length cap)) (hs : P.underlying src = some (.slice e)) (he : P.underlying e = some (.int .u8)) (hds : P.underlying dst = some .string)
    (hch : chainOf ops E o.guard = some ch) (hd : dstOk n ch o.dst = true) (hk : chKnown E ch = true)
    (hrd : Rd S (some a) (u8s l)) (hS : ∀ b o, S b o → At W0 H b o)
    (k : GL d P ops (i + 1) Q n (Env.put E o.dst ch (.string ⟨l.toArray⟩)) W0 H) : GL d P ops i Q n E W0 H := by
  refine GL_quiet ho hch hd hk (fun r hr _ w hsat => ?_) k
  unfold execOp
  simp only [hop]
  rw [hr _ _ hx]
  have := Go.run_convert_bytes_back (P := P) w src dst e a cap l hs he hds (fun j hj => by
    have hv : (u8s l)[j]? = some (.int .u8 (l[j].toNat : Int)) := by simp [u8s, hj]
    obtain ⟨b, off, c, t, fz, h1, h2, h3, h4⟩ := hrd.elt hv
    have ha : a.add j = ⟨b, off + j, none⟩ := h3
    rw [ha]
    exact cell_of (hsat.at (hS _ _ h2)) h4)
  simp only [Sem.run_bind, Sem.run_pure, this, Result.andThen_ok]
  exact ⟨rfl, rfl⟩
end Go.Sw
namespace Go.Vf
open Go.Sw Go.RowKit
def callS (fails once : Bool) (calls : Int) (right : Bool) : Int × Bool × Int :=
  if right = false then (2, fails, calls) else if fails = false then (0, fails, calls) else if calls > 0 then (0, fails, calls - 1) else (62, !once, calls)
theorem callS_arg {f o r : Bool} {c : Int} (h : (!r) = true) : callS f o c r = (2, f, c) := by unfold callS; cases r <;> simp at h ⊢
theorem callS_ok {f o r : Bool} {c : Int} (h : (!r) = false) (hf : (!f) = true) : callS f o c r = (0, f, c) := by unfold callS; cases r <;> cases f <;> simp at h hf ⊢
theorem callS_dec {f o r : Bool} {c : Int} (h : (!r) = false) (hf : (!f) = false) (hc : decide (c > 0) = true) : callS f o c r = (0, f, c - 1) := by
  have := of_decide_eq_true hc
  unfold callS; cases r <;> cases f <;> simp at h hf ⊢; omega
theorem callS_no {f o r : Bool} {c : Int} (h : (!r) = false) (hf : (!f) = false) (hc : decide (c > 0) = false) : callS f o c r = (62, !o, c) := by
  have := of_decide_eq_false hc
  unfold callS; cases r <;> cases f <;> simp at h hf ⊢; omega
def sumN (f : Value → Nat) (m : SM) : Nat := (m.map fun e => f e.2.1).sum
theorem sumN_snoc (f : Value → Nat) (m : SM) (e : ByteArray × Value × Nat) : sumN f (m ++ [e]) = sumN f m + f e.2.1 := by
  unfold sumN; rw [List.map_append, List.sum_append]; simp
theorem sumN_perm {f : Value → Nat} {a b : SM} (h : a.Perm b) : sumN f a = sumN f b := (h.map _).sum_nat
theorem sumN_part {f : Value → Nat} {a b c : SM} (h : (a ++ b).Perm c) : sumN f a ≤ sumN f c := by
  rw [← sumN_perm h]; unfold sumN; rw [List.map_append, List.sum_append]; omega
theorem u8s_one {l : List UInt8} : ∀ u ∈ u8s l, u.oneCell' = true := by
  intro u hu
  unfold u8s at hu
  obtain ⟨b, _, rfl⟩ := List.mem_map.1 hu
  rfl
theorem u8s_len (l : List UInt8) : (u8s l).length = l.length := by unfold u8s; rw [List.length_map]
theorem own_nil {et : TypeId} {v : Value} {g : Grp} {n : Nat} {cs : List Value} (h : Own et 1 v g (0 + n) ([] ++ cs)) : Own et 1 v g n cs := by simpa using h
theorem mapok1 (k : ByteArray) (v : Value) : MapOk [(k, v, 0)] 1 := ⟨by simp, by simp, by simp⟩
theorem hv1 (k : ByteArray) (p : Nat) : ∀ e ∈ [(k, Value.pointer (some ⟨p, 0, none⟩), 0)], e.2.1 = Value.pointer none ∨ ∃ p, e.2.1 = Value.pointer (some ⟨p, 0, none⟩) := by
  intro e he
  rw [List.mem_singleton.1 he]; exact .inr ⟨p, rfl⟩
theorem hv0 (k : ByteArray) : ∀ e ∈ [(k, Value.pointer none, 0)], e.2.1 = Value.pointer none ∨ ∃ p, e.2.1 = Value.pointer (some ⟨p, 0, none⟩) := by
  intro e he
  rw [List.mem_singleton.1 he]; exact .inl rfl
def MadeOf : List SM → SM × Nat → SM × Nat → Prop
  | [], s, s' => s' = s
  | x :: r, s, s' => ∃ dn, dn.Perm x ∧ MadeOf r (foldS s dn) s'
theorem made_snoc {x : SM} {dn : SM} (hd : dn.Perm x) : ∀ {xs : List SM} {s s1 : SM × Nat}, MadeOf xs s s1 → MadeOf (xs ++ [x]) s (foldS s1 dn)
  | [], s, s1, h => by subst h; exact ⟨dn, hd, rfl⟩
  | y :: r, s, s1, ⟨d, h1, h2⟩ => ⟨d, h1, made_snoc hd h2⟩
theorem made_ok : ∀ {xs : List SM} {s s' : SM × Nat}, MadeOf xs s s' → MapOk s.1 s.2 → MapOk s'.1 s'.2
  | [], _, _, h, ho => by subst h; exact ho
  | _ :: _, _, _, ⟨_, _, h⟩, ho => made_ok h (ho.fold _)
theorem take_snoc {α : Type} {l : List α} {k : Nat} {d : α} (h : k < l.length) : l.take (k + 1) = l.take k ++ [l.getD k d] := by
  rw [List.take_add_one, List.getElem?_eq_getElem h, List.getD_eq_getElem?_getD, List.getElem?_eq_getElem h]; rfl
theorem map_at {qs : List Nat} {k : Nat} (h : k < qs.length) : (qs.map fun q => Value.map (some q))[k]? = some (.map (some (qs.getD k 0))) := by
  rw [List.getElem?_map, List.getElem?_eq_getElem h, List.getD_eq_getElem?_getD, List.getElem?_eq_getElem h]; rfl
theorem maps_ne {qs : List Nat} {k : Nat} (h : k < qs.length) : (qs.map fun q => Value.map (some q)) ≠ [] := by
  intro h'; rw [List.map_eq_nil_iff] at h'; rw [h'] at h; simp at h
def nextK (k n : Int) : Int := Int.tmod (Int.tmod k n + n) n
theorem nextK_bd {k n : Int} (hn : 0 < n) : 0 ≤ nextK k n ∧ nextK k n < n := by
  unfold nextK
  have h1 := Int.tmod_lt_of_pos k hn
  have h2 : -n < Int.tmod k n := by
    have := Int.lt_tmod_of_pos k hn
    omega
  have h3 : 0 ≤ Int.tmod k n + n := by omega
  exact ⟨Int.tmod_nonneg n h3, Int.tmod_lt_of_pos _ hn⟩
theorem next_is {k n : Int} (hn : 0 < n) (hn2 : n ≤ 1000000000000) (_ : -9223372036854775808 ≤ k) (_ : k ≤ 9223372036854775807) : Int.tmod (IntKind.wrap .i64 (Int.tmod k n + n)) n = nextK k n := by
  have h1 := Int.tmod_lt_of_pos k hn
  have h2 := Int.lt_tmod_of_pos k hn
  rw [w64 (by omega) (by omega)]
  rfl
theorem tmod_ne {n : Int} (k : Int) (hn : 0 < n) : -n < Int.tmod k n ∧ Int.tmod k n < n := ⟨by have := Int.lt_tmod_of_pos k hn; omega, Int.tmod_lt_of_pos k hn⟩
end Go.Vf
