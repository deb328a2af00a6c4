/- Names in memory, and names in plain words: the same lookups. No program is in sight. -/
import Derived.Test.YtbmieiffboenbaaDm
namespace Go.Vf
open Go.Sw

/-- two lists, side by side -/
inductive All2 {α β : Type} (R : α → β → Prop) : List α → List β → Prop
  | nil : All2 R [] []
  | cons {a : α} {b : β} {l : List α} {m : List β} (h : R a b) (t : All2 R l m) : All2 R (a :: l) (b :: m)
theorem All2.len {α β : Type} {R : α → β → Prop} {l : List α} {m : List β} (h : All2 R l m) : l.length = m.length := by
  induction h with
  | nil => rfl
  | cons _ _ ih => simp [ih]
theorem All2.imp {α β : Type} {R R' : α → β → Prop} {l : List α} {m : List β} (h : All2 R l m) (hi : ∀ a b, R a b → R' a b) : All2 R' l m := by
  induction h with
  | nil => exact .nil
  | cons h _ ih => exact .cons (hi _ _ h) ih
theorem All2.app {α β : Type} {R : α → β → Prop} {l l' : List α} {m m' : List β} (h : All2 R l m) (h' : All2 R l' m') : All2 R (l ++ l') (m ++ m') := by
  induction h with
  | nil => exact h'
  | cons h _ ih => exact .cons h ih
theorem All2.take {α β : Type} {R : α → β → Prop} {l : List α} {m : List β} (h : All2 R l m) : ∀ n : Nat, All2 R (l.take n) (m.take n) := by
  induction h with
  | nil => intro n; simp; exact .nil
  | cons h _ ih =>
    intro n
    cases n with
    | zero => exact .nil
    | succ n => exact .cons h (ih n)
theorem All2.get {α β : Type} {R : α → β → Prop} {l : List α} {m : List β} (h : All2 R l m) (da : α) (db : β) : ∀ i : Nat, i < l.length → R (l.getD i da) (m.getD i db) := by
  induction h with
  | nil => intro i h; simp at h
  | cons h _ ih =>
    intro i hi
    cases i with
    | zero => exact h
    | succ i => exact ih i (by simpa using hi)
theorem All2.set {α β : Type} {R : α → β → Prop} {l : List α} {m : List β} (h : All2 R l m) {a : α} {b : β} (hab : R a b) : ∀ i : Nat, All2 R (l.set i a) (m.set i b) := by
  induction h with
  | nil => intro i; exact .nil
  | cons h t ih =>
    intro i
    cases i with
    | zero => exact .cons hab t
    | succ i => exact .cons h (ih i)
theorem nodup_of_map {α β : Type} {f : α → β} {l : List α} (h : (l.map f).Nodup) : l.Nodup := List.Pairwise.of_map f (fun _ _ h e => h (congrArg f e)) h

/-! ## lists of names -/
theorem lookN_none {l : List Nm} {p : ByteArray} : lookN l p = none ↔ ∀ n ∈ l, (p == n.1) = false := by
  induction l with
  | nil => simp [lookN]
  | cons n l ih =>
    rw [lookN]
    cases h : p == n.1
    · simp only [Bool.false_eq_true, if_false, ih]
      exact ⟨fun h2 x hx => by rcases List.mem_cons.1 hx with rfl | hx; exact h; exact h2 x hx, fun h2 x hx => h2 x (List.mem_cons_of_mem _ hx)⟩
    · simp only [if_true, reduceCtorEq, false_iff]
      intro h2; rw [h2 n List.mem_cons_self] at h; cases h
theorem lookN_mem {l : List Nm} {p : ByteArray} {k : Int} (h : lookN l p = some k) : (p, k) ∈ l := by
  induction l with
  | nil => cases h
  | cons n l ih =>
    rw [lookN] at h
    split at h
    · rename_i hk
      injection h with h; subst h
      rw [baEq] at hk; subst hk
      exact List.mem_cons_self
    · exact List.mem_cons_of_mem _ (ih h)
theorem lookN_of {l : List Nm} {p : ByteArray} {k : Int} (hn : (l.map Prod.fst).Nodup) (h : (p, k) ∈ l) : lookN l p = some k := by
  induction l with
  | nil => cases h
  | cons n l ih =>
    rw [List.map_cons, List.nodup_cons] at hn
    rw [lookN]
    rcases List.mem_cons.1 h with rfl | h
    · rw [if_pos (baEq.2 rfl)]
    · rw [if_neg, ih hn.2 h]
      intro hk
      rw [baEq] at hk
      exact hn.1 (List.mem_map.2 ⟨(p, k), h, hk⟩)
theorem lookN_app {l r : List Nm} {p : ByteArray} : lookN (l ++ r) p = (lookN l p).or (lookN r p) := by
  induction l with
  | nil => simp [lookN]
  | cons n l ih =>
    rw [List.cons_append, lookN, lookN]
    split
    · simp
    · exact ih
theorem lookN_filter {l : List Nm} {p q : ByteArray} : lookN (l.filter fun n => !(q == n.1)) p = if p == q then none else lookN l p := by
  induction l with
  | nil => simp [lookN]
  | cons n l ih =>
    rw [List.filter_cons]
    cases hq : q == n.1
    · simp only [Bool.not_false, if_true]
      rw [lookN, lookN, ih]
      cases hp : p == n.1
      · simp
      · simp only [if_true]
        rw [baEq] at hp; subst hp
        rw [if_neg]
        intro h; rw [baEq] at h; rw [baNe] at hq; exact hq h.symm
    · simp only [Bool.not_true, Bool.false_eq_true, if_false]
      rw [ih, lookN]
      rw [baEq] at hq; subst hq
      cases hp : p == n.1 <;> simp
theorem lookN_with {l : List Nm} {x : Nm} {p : ByteArray} : lookN (withN l x) p = if p == x.1 then (if 0 ≤ x.2 then some x.2 else none) else lookN l p := by
  unfold withN
  rw [lookN_app, lookN_filter]
  cases h : p == x.1
  · simp only [Bool.false_eq_true, if_false]
    split
    · rw [lookN, h]; simp [lookN]
    · simp [lookN]
  · simp only [if_true, Option.none_or]
    split
    · rw [lookN, h]; simp
    · simp [lookN]
theorem nodup_with {l : List Nm} {x : Nm} (h : (l.map Prod.fst).Nodup) : ((withN l x).map Prod.fst).Nodup := by
  unfold withN
  rw [List.map_append, List.nodup_append]
  refine ⟨h.sublist (List.Sublist.map _ List.filter_sublist), ?_, ?_⟩
  · split <;> simp
  · intro a ha b hb
    split at hb
    · simp only [List.map_cons, List.map_nil, List.mem_singleton] at hb
      obtain ⟨n, hn, rfl⟩ := List.mem_map.1 ha
      have := (List.mem_filter.1 hn).2
      subst hb
      intro he
      rw [he] at this
      simp at this
    · cases hb
theorem mem_with {l : List Nm} {x y : Nm} (h : y ∈ withN l x) : y ∈ l ∨ (y = x ∧ 0 ≤ x.2) := by
  unfold withN at h
  rcases List.mem_append.1 h with h | h
  · exact .inl (List.mem_filter.1 h).1
  · split at h
    · rename_i hx; exact .inr ⟨List.mem_singleton.1 h, hx⟩
    · cases h
theorem lookN_apply {c : List Nm} : ∀ {l : List Nm} {p : ByteArray}, (c.map Prod.fst).Nodup → lookN (applyN l c) p = match lookN c p with | none => lookN l p | some k => if 0 ≤ k then some k else none := by
  induction c with
  | nil => intro l p _; rfl
  | cons x c ih =>
    intro l p hn
    rw [List.map_cons, List.nodup_cons] at hn
    show lookN (applyN (withN l x) c) p = _
    rw [ih hn.2, lookN_with, lookN]
    cases h : p == x.1
    · simp
    · simp only [if_true]
      have : lookN c p = none := lookN_none.2 fun n hm => by
        rw [baEq] at h; subst h
        rw [baNe]; intro he
        exact hn.1 (List.mem_map.2 ⟨n, hm, he.symm⟩)
      rw [this]
theorem nodup_apply {c : List Nm} : ∀ {l : List Nm}, (l.map Prod.fst).Nodup → ((applyN l c).map Prod.fst).Nodup := by
  induction c with
  | nil => intro l h; exact h
  | cons x c ih => intro l h; exact ih (nodup_with h)
theorem mem_apply {c : List Nm} : ∀ {l : List Nm} {y : Nm}, y ∈ applyN l c → y ∈ l ∨ (y ∈ c ∧ 0 ≤ y.2) := by
  induction c with
  | nil => intro l y h; exact .inl h
  | cons x c ih =>
    intro l y h
    rcases ih (l := withN l x) h with h | h
    · rcases mem_with h with h | ⟨rfl, h⟩
      · exact .inl h
      · exact .inr ⟨List.mem_cons_self, h⟩
    · exact .inr ⟨List.mem_cons_of_mem _ h.1, h.2⟩

/-! ## maps -/
theorem mget_mem {m : SM} {p : ByteArray} {v : Value} (h : mget m p = some v) : ∃ c, (p, v, c) ∈ m := by
  obtain ⟨pre, c, post, rfl, _⟩ := mget_split h
  exact ⟨c, List.mem_append_right _ List.mem_cons_self⟩
theorem mget_of {m : SM} {p : ByteArray} {v : Value} {c : Nat} (hn : (m.map Prod.fst).Nodup) (h : (p, v, c) ∈ m) : mget m p = some v := by
  induction m with
  | nil => cases h
  | cons n m ih =>
    rw [List.map_cons, List.nodup_cons] at hn
    rw [mget_cons]
    rcases List.mem_cons.1 h with rfl | h
    · rw [if_pos (baEq.2 rfl)]
    · rw [if_neg, ih hn.2 h]
      intro hk
      rw [baEq] at hk
      exact hn.1 (List.mem_map.2 ⟨(p, v, c), h, hk⟩)
theorem _root_.Go.Sw.MapOk.nodup {m : SM} {c : Nat} (h : MapOk m c) : (m.map Prod.fst).Nodup := pw_keys.1 h.keys
theorem mget_perm {m m' : SM} (h : m.Perm m') (hn : (m.map Prod.fst).Nodup) (p : ByteArray) : mget m p = mget m' p := by
  have hn' : (m'.map Prod.fst).Nodup := (h.map _).nodup_iff.1 hn
  cases h1 : mget m p with
  | none =>
    refine (mget_none.2 fun e he => ?_).symm
    exact mget_none.1 h1 e (h.mem_iff.2 he)
  | some v =>
    obtain ⟨c, hm⟩ := mget_mem h1
    exact (mget_of hn' (h.mem_iff.1 hm)).symm
theorem mget_put {m : SM} {c : Nat} {k p : ByteArray} {v : Value} : mget (mput m c k v) p = if p == k then some v else mget m p := by
  induction m with
  | nil =>
    rw [mput, mget_cons]
  | cons e m ih =>
    rw [mput]
    cases hk : k == e.1
    · simp only [Bool.false_eq_true, if_false]
      rw [mget_cons, mget_cons, ih]
      cases hp : p == e.1
      · simp
      · simp only [if_true]
        rw [baEq] at hp; subst hp
        rw [if_neg]
        intro h; rw [baEq] at h; rw [baNe] at hk; exact hk h.symm
    · simp only [if_true]
      rw [mget_cons, mget_cons]
      rw [baEq] at hk; subst hk
      cases hp : p == e.1 <;> simp
theorem mget_del {m : SM} {k p : ByteArray} (hn : (m.map Prod.fst).Nodup) : mget (mdel m k) p = if p == k then none else mget m p := by
  induction m with
  | nil => rw [mdel]; split <;> rfl
  | cons e m ih =>
    rw [List.map_cons, List.nodup_cons] at hn
    rw [mdel]
    cases hk : k == e.1
    · simp only [Bool.false_eq_true, if_false]
      rw [mget_cons, mget_cons, ih hn.2]
      cases hp : p == e.1
      · simp
      · simp only [if_true]
        rw [baEq] at hp; subst hp
        rw [if_neg]
        intro h; rw [baEq] at h; rw [baNe] at hk; exact hk h.symm
    · simp only [if_true]
      rw [mget_cons]
      rw [baEq] at hk; subst hk
      cases hp : p == e.1
      · simp
      · simp only [if_true]
        rw [baEq] at hp; subst hp
        exact mget_none.2 fun x hx => by
          rw [baNe]; intro he
          exact hn.1 (List.mem_map.2 ⟨x, hx, he.symm⟩)
/-- a value that names nothing -/
def nilV : Value → Bool
  | .pointer none => true
  | _ => false
theorem mget_st {s : SM × Nat} {e : ByteArray × Value × Nat} {p : ByteArray} (hn : (s.1.map Prod.fst).Nodup) : mget (stS s e).1 p = if p == e.1 then (if nilV e.2.1 then none else some e.2.1) else mget s.1 p := by
  unfold stS
  split
  · rename_i h
    rw [mget_del hn, h]; rfl
  · rename_i v h
    rw [mget_put]
    have : nilV e.2.1 = false := by
      cases hv : nilV e.2.1
      · rfl
      · exfalso
        unfold nilV at hv
        split at hv
        · rename_i h2; exact h h2
        · cases hv
    rw [this]; rfl
theorem mget_fold {dn : SM} : ∀ {s : SM × Nat} {p : ByteArray}, MapOk s.1 s.2 → (dn.map Prod.fst).Nodup → mget (foldS s dn).1 p = match mget dn p with | none => mget s.1 p | some v => if nilV v then none else some v := by
  induction dn with
  | nil => intro s p _ _; rfl
  | cons e dn ih =>
    intro s p hs hn
    rw [List.map_cons, List.nodup_cons] at hn
    show mget (foldS (stS s e) dn).1 p = _
    rw [ih (hs.st e) hn.2, mget_st hs.nodup, mget_cons]
    cases h : p == e.1
    · simp
    · simp only [if_true]
      have : mget dn p = none := mget_none.2 fun n hm => by
        rw [baEq] at h; subst h
        rw [baNe]; intro he
        exact hn.1 (List.mem_map.2 ⟨n, hm, he.symm⟩)
      rw [this]

/-! ## both -/
def ptrV (q : Nat) : Value := .pointer (some ⟨q, 0, none⟩)
def ptrOf (ps : List Nat) (k : Int) : Value := ptrV (ps.getD k.toNat 0)
def chV (ps : List Nat) (k : Int) : Value := if 0 ≤ k then ptrOf ps k else .pointer none
theorem chV_nil (ps : List Nat) (k : Int) : nilV (chV ps k) = !decide (0 ≤ k) := by
  unfold chV
  split
  · rename_i h; simp [ptrOf, ptrV, nilV, h]
  · rename_i h; simp [nilV, h]
structure NamesR (ps : List Nat) (nm : SM) (names : List Nm) : Prop where
  look : ∀ p, mget nm p = (lookN names p).map (ptrOf ps)
  keys : (names.map Prod.fst).Nodup
  lt : ∀ x ∈ names, 0 ≤ x.2 ∧ x.2.toNat < ps.length
structure ChangeR (ps : List Nat) (x : SM) (l : List Nm) : Prop where
  look : ∀ p, mget x p = (lookN l p).map (chV ps)
  keys : (l.map Prod.fst).Nodup
  lt : ∀ y ∈ l, 0 ≤ y.2 → y.2.toNat < ps.length
theorem ptrOf_mono {ps : List Nat} {q : Nat} {k : Int} (h : k.toNat < ps.length) : ptrOf (ps ++ [q]) k = ptrOf ps k := by
  unfold ptrOf
  rw [List.getD_eq_getElem?_getD, List.getD_eq_getElem?_getD, List.getElem?_append_left h]
theorem NamesR.mono {ps : List Nat} {nm : SM} {names : List Nm} (h : NamesR ps nm names) (q : Nat) : NamesR (ps ++ [q]) nm names := by
  refine ⟨fun p => ?_, h.keys, fun x hx => ⟨(h.lt x hx).1, by have := (h.lt x hx).2; simp; omega⟩⟩
  rw [h.look p]
  cases hl : lookN names p with
  | none => rfl
  | some k => simp only [Option.map_some]; rw [ptrOf_mono (h.lt _ (lookN_mem hl)).2]
theorem ChangeR.mono {ps : List Nat} {x : SM} {l : List Nm} (h : ChangeR ps x l) (q : Nat) : ChangeR (ps ++ [q]) x l := by
  refine ⟨fun p => ?_, h.keys, fun y hy h0 => by have := h.lt y hy h0; simp; omega⟩
  rw [h.look p]
  cases hl : lookN l p with
  | none => rfl
  | some k =>
    simp only [Option.map_some]
    unfold chV
    split
    · rename_i h0; rw [ptrOf_mono (h.lt _ (lookN_mem hl) h0)]
    · rfl
theorem names_apply {ps : List Nat} {nm x dn : SM} {nc xc : Nat} {names l : List Nm} (h : NamesR ps nm names) (hn : MapOk nm nc) (hx : MapOk x xc) (hc : ChangeR ps x l) (hd : dn.Perm x) :
    NamesR ps (foldS (nm, nc) dn).1 (applyN names l) := by
  have hdn : (dn.map Prod.fst).Nodup := (hd.map _).nodup_iff.2 hx.nodup
  refine ⟨fun p => ?_, nodup_apply h.keys, fun y hy => ?_⟩
  · rw [mget_fold hn hdn, mget_perm hd hdn, hc.look, lookN_apply hc.keys]
    cases hl : lookN l p with
    | none => exact h.look p
    | some k =>
      simp only [Option.map_some]
      rw [chV_nil]
      by_cases h0 : 0 ≤ k
      · simp [h0, chV]
      · simp [h0]
  · rcases mem_apply hy with hy | ⟨hy, h0⟩
    · exact h.lt y hy
    · exact ⟨h0, hc.lt y hy h0⟩
theorem names_made {ps : List Nat} : ∀ {xs : List SM} {ls : List (List Nm)} {nm nm' : SM} {nc nc' : Nat} {names : List Nm}, NamesR ps nm names → MapOk nm nc → All2 (fun x l => (∃ c, MapOk x c) ∧ ChangeR ps x l) xs ls →
    MadeOf xs (nm, nc) (nm', nc') → NamesR ps nm' (ls.foldl applyN names)
  | [], [], _, _, _, _, _, h, _, .nil, hm => by
    injection (show (_, _) = (_, _) from hm) with e1 e2
    subst e1; exact h
  | x :: xs, l :: ls, nm, nm', nc, nc', names, h, hn, .cons ⟨⟨c, hx⟩, hc⟩ hr, ⟨dn, hd, hm⟩ => by
    exact names_made (ls := ls) (nc := (foldS (nm, nc) dn).2) (names_apply h hn hx hc hd) (MapOk.fold (s := (nm, nc)) hn dn) hr hm
/-- the same entries, in whatever order -/
theorem names_perm {ps : List Nat} {nm : SM} {nc : Nat} {names : List Nm} (h : NamesR ps nm names) (hn : MapOk nm nc) : (nm.map fun e => (e.1, e.2.1)).Perm (names.map fun x => (x.1, ptrOf ps x.2)) := by
  have n1 : ((nm.map fun e => (e.1, e.2.1)).map Prod.fst).Nodup := by rw [List.map_map]; exact hn.nodup
  have n2 : ((names.map fun x => (x.1, ptrOf ps x.2)).map Prod.fst).Nodup := by rw [List.map_map]; exact h.keys
  refine (List.perm_ext_iff_of_nodup (nodup_of_map n1) (nodup_of_map n2)).2 fun a => ?_
  obtain ⟨p, v⟩ := a
  constructor
  · intro ha
    obtain ⟨⟨k, u, c⟩, he, h2⟩ := List.mem_map.1 ha
    injection h2 with e1 e2
    simp only at e1 e2
    subst e1 e2
    have := mget_of hn.nodup he
    rw [h.look] at this
    cases hl : lookN names k with
    | none => rw [hl] at this; cases this
    | some i =>
      rw [hl] at this
      injection this with this
      exact List.mem_map.2 ⟨(k, i), lookN_mem hl, by rw [← this]⟩
  · intro ha
    obtain ⟨⟨k, i⟩, he, h2⟩ := List.mem_map.1 ha
    injection h2 with e1 e2
    simp only at e1 e2
    subst e1 e2
    have hl := lookN_of h.keys he
    have := h.look k
    rw [hl] at this
    obtain ⟨c, hm⟩ := mget_mem this
    exact List.mem_map.2 ⟨_, hm, rfl⟩
end Go.Vf
