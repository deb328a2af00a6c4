/- Rules for maps with string keys, the second part: the entry at hand of a range; what a loop over a map has done. No condition. -/
import Derived.Test.YtbmieiffboenbaaMap
namespace Go.Sw
open Go.RowKit

theorem born_find {m : SM} {c : Nat} (hok : MapOk m c) {e : ByteArray × Value × Nat} (he : e ∈ m) : (encM m).find? (fun x => x.born == e.2.2) = some (entM e) := by
  have key : ∀ l : SM, (l.map (·.2.2)).Nodup → e ∈ l → (l.map entM).find? (fun x => x.born == e.2.2) = some (entM e) := by
    intro l
    induction l with
    | nil => intro _ h; cases h
    | cons x l ih =>
      intro hn h
      simp only [List.map_cons, List.nodup_cons] at hn
      rw [List.map_cons, List.find?_cons]
      rcases List.mem_cons.1 h with rfl | h
      · simp [entM]
      · have hx : ((entM x).born == e.2.2) = false := by
          rw [beq_eq_false_iff_ne]
          intro h'
          exact hn.1 (List.mem_map.2 ⟨e, h, h'.symm⟩)
        rw [hx]
        exact ih hn.2 h
  have := key m hok.born he
  rw [encM, List.find?_toArray]
  exact this

theorem GL_entry {d : Bool} {P : Program} {ops : Array Oper} {i : Nat} {Q : Post} {n : Nat} {E : Env} {W0 : World} {H : List Grp} {o : Oper} {ch : List (Nat × Bool)} {x : Operand} {it r c : Nat} {m dn : SM} {e : ByteArray × Value × Nat}
    (ho : ops[i]? = some o) (hop : o.op = .entry x) (hx : evO E ch x = some (.pointer (some ⟨it, 0, none⟩)))
    (hch : chainOf ops E o.guard = some ch) (hd : dstOk n ch o.dst = true) (hk : chKnown E ch = true)
    (hI : At W0 H it (.mapIter (some r) c (seenOf (dn ++ [e])) c)) (hA : At W0 H r (.map (encM m) c)) (hok : MapOk m c) (he : e ∈ m)
    (kk : GL d P ops (i + 1) Q n (Env.put E o.dst ch (.tuple #[.string e.1, e.2.1])) W0 H) : GL d P ops i Q n E W0 H := by
  refine GL_quiet ho hch hd hk (fun rr hr _ w hs => ?_) kk
  have hit := run_getObj_iter (P := P) (hs.at hI) rfl
  have hb : (seenOf (dn ++ [e])).back? = some e.2.2 := by
    unfold seenOf
    rw [List.map_append, List.map_cons, List.map_nil]
    simp
  unfold execOp
  simp only [hop]
  rw [hr _ _ hx]
  simp only [Instr.entry, Sem.run_bind, hit, Result.andThen_ok, hb, run_getObj_map (hs.at hA), bne_self_eq_false, Bool.false_eq_true, if_false, born_find hok he, Sem.run_pure]
  exact ⟨rfl, rfl⟩

/-! ## what the entries of one map make of another -/
/-- an entry that names nothing takes away; another is laid -/
def stS (s : SM × Nat) (e : ByteArray × Value × Nat) : SM × Nat :=
  match e.2.1 with
  | .pointer none => (mdel s.1 e.1, s.2)
  | v => (mput s.1 s.2 e.1 v, if mhas s.1 e.1 then s.2 else s.2 + 1)
def foldS (s : SM × Nat) (l : SM) : SM × Nat := l.foldl stS s
theorem foldS_snoc (s : SM × Nat) (l : SM) (e : ByteArray × Value × Nat) : foldS s (l ++ [e]) = stS (foldS s l) e := by
  unfold foldS; rw [List.foldl_append]; rfl

theorem mhas_false {m : SM} {k : ByteArray} : mhas m k = false ↔ ∀ e ∈ m, (k == e.1) = false := by
  unfold mhas; rw [List.any_eq_false]
  constructor
  · intro h e he; simpa using h e he
  · intro h e he; simpa using h e he
theorem mput_new {m : SM} {k : ByteArray} (c : Nat) (v : Value) (h : mhas m k = false) : mput m c k v = m ++ [(k, v, c)] := by
  induction m with
  | nil => rfl
  | cons e m ih =>
    rw [mhas_false] at h
    have h0 := h e List.mem_cons_self
    rw [mput, h0]
    simp only [Bool.false_eq_true, if_false]
    rw [ih (mhas_false.2 (fun x hx => h x (List.mem_cons_of_mem _ hx)))]
    rfl
theorem mput_keys (m : SM) (c : Nat) (k : ByteArray) (v : Value) (h : mhas m k = true) : (mput m c k v).map (fun e => (e.2.2)) = m.map (fun e => (e.2.2)) ∧ (mput m c k v).map Prod.fst = m.map Prod.fst := by
  induction m with
  | nil => cases h
  | cons e m ih =>
    rw [mput]
    cases hk : k == e.1
    · simp only [Bool.false_eq_true, if_false, List.map_cons]
      unfold mhas at h
      rw [List.any_cons, hk, Bool.false_or] at h
      obtain ⟨h1, h2⟩ := ih h
      exact ⟨by rw [h1], by rw [h2]⟩
    · simp only [if_true, List.map_cons, true_and]
      rw [baEq] at hk; rw [hk]
theorem mdel_sub (m : SM) (k : ByteArray) : (mdel m k).Sublist m := by
  induction m with
  | nil => exact List.Sublist.refl _
  | cons e m ih =>
    rw [mdel]
    split
    · exact List.sublist_cons_self e m
    · exact ih.cons_cons e
theorem MapOk.del {m : SM} {c : Nat} (h : MapOk m c) (k : ByteArray) : MapOk (mdel m k) c :=
  ⟨h.keys.sublist (mdel_sub m k), h.born.sublist ((mdel_sub m k).map _), fun e he => h.lt e ((mdel_sub m k).subset he)⟩
theorem pw_keys {m : SM} : (m.Pairwise fun x y => (x.1 == y.1) = false) ↔ (m.map Prod.fst).Nodup := by
  rw [List.nodup_iff_pairwise_ne, List.pairwise_map]
  constructor
  · intro h; exact h.imp (fun h => baNe.1 h)
  · intro h; exact h.imp (fun h => baNe.2 h)
theorem MapOk.put {m : SM} {c : Nat} (h : MapOk m c) (k : ByteArray) (v : Value) : MapOk (mput m c k v) (if mhas m k then c else c + 1) := by
  cases hm : mhas m k with
  | true =>
    obtain ⟨h1, h2⟩ := mput_keys m c k v hm
    refine ⟨pw_keys.2 (by rw [h2]; exact pw_keys.1 h.keys), by rw [h1]; exact h.born, fun e he => ?_⟩
    have : e.2.2 ∈ (mput m c k v).map (fun e => e.2.2) := List.mem_map.2 ⟨e, he, rfl⟩
    rw [h1] at this
    obtain ⟨x, hx, hx2⟩ := List.mem_map.1 this
    have := h.lt x hx
    simp only [if_true]; omega
  | false =>
    rw [mput_new c v hm]
    simp only [Bool.false_eq_true, if_false]
    rw [mhas_false] at hm
    refine ⟨?_, ?_, ?_⟩
    · rw [List.pairwise_append]
      refine ⟨h.keys, by simp, fun x hx y hy => ?_⟩
      rw [List.mem_singleton.1 hy]
      have := hm x hx
      rw [baNe] at this ⊢
      exact fun e => this e.symm
    · rw [List.map_append, List.nodup_append]
      refine ⟨h.born, by simp, ?_⟩
      intro a ha b hb
      obtain ⟨x, hx, rfl⟩ := List.mem_map.1 ha
      simp only [List.map_cons, List.map_nil, List.mem_singleton] at hb
      have := h.lt x hx
      omega
    · intro e he
      rcases List.mem_append.1 he with he | he
      · have := h.lt e he; omega
      · rw [List.mem_singleton.1 he]; simp
theorem MapOk.st {s : SM × Nat} (h : MapOk s.1 s.2) (e : ByteArray × Value × Nat) : MapOk (stS s e).1 (stS s e).2 := by
  unfold stS
  split
  · exact h.del _
  · exact h.put _ _
theorem MapOk.fold {s : SM × Nat} (h : MapOk s.1 s.2) (l : SM) : MapOk (foldS s l).1 (foldS s l).2 := by
  induction l generalizing s with
  | nil => exact h
  | cons e l ih => exact ih (h.st e)

/-! ## a remainder by what is no literal -/
theorem GL_rem {d : Bool} {P : Program} {ops : Array Oper} {i : Nat} {Q : Post} {n : Nat} {E : Env} {W0 : World} {H : List Grp} {o : Oper} {ch : List (Nat × Bool)} {t t' : TypeId} {x y : Operand} {kd : IntKind} {a b : Int}
    (ho : ops[i]? = some o) (hop : o.op = .binOp .rem t x y t') (hx : evO E ch x = some (.int kd a)) (hy : evO E ch y = some (.int kd b))
    (hch : chainOf ops E o.guard = some ch) (hd : dstOk n ch o.dst = true) (hk : chKnown E ch = true) (hb : chB E ch → b ≠ 0)
    (k : GL d P ops (i + 1) Q n (Env.put E o.dst ch (.int kd (Int.tmod a b))) W0 H) : GL d P ops i Q n E W0 H := by
  refine GL_quiet ho hch hd hk (fun r hr hcb w _ => ?_) k
  have h0 := hb hcb
  have := pev_sound (P := P) (ρ := evO E ch) hr (o := o) (v := .int kd (Int.tmod a b)) (by rw [hop]; simp [pev, hx, hy, binV, h0]) w
  rw [this]
  exact ⟨rfl, rfl⟩
end Go.Sw
