/- Rules for operations that read, write or make memory, over groups of blocks. No condition. -/
import Derived.Test.YtbmieiffboenbaaStep
namespace Go.Sw
open Go.RowKit

/-! ## where a block lies -/
def At (W0 : World) (H : List Grp) (b : Nat) (o : Obj) : Prop := (b < W0.heap.size ∧ W0.heap[b]? = some o) ∨ (b, o) ∈ H.flatten

theorem Sat.at {W0 : World} {H : List Grp} {w : World} (h : Sat W0 H w) {b : Nat} {o : Obj} (ha : At W0 H b o) : w.heap[b]? = some o := by
  rcases ha with ⟨hb, h0⟩ | hm
  · rw [h.below.block b hb]; exact h0
  · exact h.has _ hm

theorem At.grp {W0 : World} {H : List Grp} {g : Grp} {b : Nat} {o : Obj} (j i : Nat) (hj : H[j]? = some g) (hi : g[i]? = some (b, o)) : At W0 H b o :=
  .inr (List.mem_flatten.2 ⟨g, List.mem_of_getElem? hj, List.mem_of_getElem? hi⟩)
theorem At.mem {W0 : World} {H : List Grp} {g : Grp} {b : Nat} {o : Obj} (hg : g ∈ H) (hi : (b, o) ∈ g) : At W0 H b o := .inr (List.mem_flatten.2 ⟨g, hg, hi⟩)

/-- one block has been written -/
structure Wr (b : Nat) (o : Obj) (w w' : World) : Prop where
  os : w'.os = w.os
  tape : w'.tape = w.tape
  output : w'.output = w.output
  size : w'.heap.size = w.heap.size
  at_ : w'.heap[b]? = some o
  other : ∀ k, k ≠ b → w'.heap[k]? = w.heap[k]?

theorem nodup_swap {H : List Grp} {g : Grp} {b : Nat} {o o' : Obj} {j i : Nat} (hj : H[j]? = some g) (hi : g[i]? = some (b, o)) :
    ((H.set j (g.set i (b, o'))).flatten.map Prod.fst) = H.flatten.map Prod.fst := by
  induction H generalizing j with
  | nil => simp at hj
  | cons x H ih =>
    cases j with
    | zero =>
      simp only [List.getElem?_cons_zero, Option.some.injEq] at hj
      subst hj
      simp only [List.set_cons_zero, List.flatten_cons, List.map_append]
      congr 1
      clear ih
      induction x generalizing i with
      | nil => simp at hi
      | cons p x ih =>
        cases i with
        | zero => simp only [List.getElem?_cons_zero, Option.some.injEq] at hi; subst hi; simp
        | succ i => simp only [List.getElem?_cons_succ] at hi; simp [ih hi]
    | succ j =>
      simp only [List.getElem?_cons_succ] at hj
      simp only [List.set_cons_succ, List.flatten_cons, List.map_append, ih hj]

theorem mem_swap {H : List Grp} {g : Grp} {b : Nat} {o o' : Obj} {j i : Nat} (hj : H[j]? = some g) (hi : g[i]? = some (b, o)) (hn : (H.flatten.map Prod.fst).Nodup)
    {p : Nat × Obj} (hp : p ∈ (H.set j (g.set i (b, o'))).flatten) : p = (b, o') ∨ (p ∈ H.flatten ∧ p.1 ≠ b) := by
  induction H generalizing j with
  | nil => simp at hj
  | cons x H ih =>
    simp only [List.flatten_cons, List.map_append, List.nodup_append] at hn
    obtain ⟨n1, n2, n3⟩ := hn
    cases j with
    | zero =>
      simp only [List.getElem?_cons_zero, Option.some.injEq] at hj
      subst hj
      simp only [List.set_cons_zero, List.flatten_cons, List.mem_append] at hp
      have hb : b ∈ x.map Prod.fst := List.mem_map.2 ⟨_, List.mem_of_getElem? hi, rfl⟩
      rcases hp with hp | hp
      · have : p = (b, o') ∨ (p ∈ x ∧ p.1 ≠ b) := by
          clear ih n2 n3 hb
          induction x generalizing i with
          | nil => simp at hi
          | cons q x ih =>
            simp only [List.map_cons, List.nodup_cons] at n1
            cases i with
            | zero =>
              simp only [List.getElem?_cons_zero, Option.some.injEq] at hi; subst hi
              simp only [List.set_cons_zero, List.mem_cons] at hp
              rcases hp with rfl | hp
              · exact .inl rfl
              · refine .inr ⟨List.mem_cons_of_mem _ hp, fun e => n1.1 ?_⟩
                exact List.mem_map.2 ⟨p, hp, e⟩
            | succ i =>
              simp only [List.getElem?_cons_succ] at hi
              simp only [List.set_cons_succ, List.mem_cons] at hp
              rcases hp with rfl | hp
              · refine .inr ⟨List.mem_cons_self, fun e => n1.1 ?_⟩
                exact List.mem_map.2 ⟨_, List.mem_of_getElem? hi, e.symm⟩
              · rcases ih n1.2 hi hp with h | ⟨h1, h2⟩
                · exact .inl h
                · exact .inr ⟨List.mem_cons_of_mem _ h1, h2⟩
        rcases this with h | ⟨h1, h2⟩
        · exact .inl h
        · exact .inr ⟨by simp [h1], h2⟩
      · refine .inr ⟨by simp [hp], fun e => ?_⟩
        have : p.1 ∈ H.flatten.map Prod.fst := List.mem_map.2 ⟨p, hp, rfl⟩
        exact n3 _ hb _ this e.symm
    | succ j =>
      simp only [List.getElem?_cons_succ] at hj
      simp only [List.set_cons_succ, List.flatten_cons, List.mem_append] at hp
      have hbH : b ∈ H.flatten.map Prod.fst := List.mem_map.2 ⟨(b, o), List.mem_flatten.2 ⟨g, List.mem_of_getElem? hj, List.mem_of_getElem? hi⟩, rfl⟩
      rcases hp with hp | hp
      · refine .inr ⟨by simp [hp], fun e => ?_⟩
        have : p.1 ∈ x.map Prod.fst := List.mem_map.2 ⟨p, hp, rfl⟩
        exact n3 _ this _ hbH e
      · rcases ih hj n2 hp with h | ⟨h1, h2⟩
        · exact .inl h
        · exact .inr ⟨by simp [h1], h2⟩

theorem Sat.wr {W0 : World} {H : List Grp} {w w' : World} (h : Sat W0 H w) {g : Grp} {b : Nat} {o o' : Obj} {j i : Nat} (hj : H[j]? = some g) (hi : g[i]? = some (b, o))
    (hw : Wr b o' w w') : Sat W0 (H.set j (g.set i (b, o'))) w' := by
  have hm : (b, o) ∈ H.flatten := List.mem_flatten.2 ⟨g, List.mem_of_getElem? hj, List.mem_of_getElem? hi⟩
  have hhigh : W0.heap.size ≤ b := h.high (b, o) hm
  refine ⟨⟨hw.os.trans h.below.os, hw.tape.trans h.below.tape, hw.output.trans h.below.output, by rw [hw.size]; exact h.below.size, fun k hk => ?_⟩, ?_, ?_, ?_⟩
  · rw [hw.other k (by omega)]; exact h.below.block k hk
  · rw [nodup_swap hj hi]; exact h.nodup
  · intro p hp
    rcases mem_swap hj hi h.nodup hp with rfl | ⟨h1, h2⟩
    · exact hw.at_
    · rw [hw.other _ h2]; exact h.has p h1
  · intro p hp
    rcases mem_swap hj hi h.nodup hp with rfl | ⟨h1, h2⟩
    · exact hhigh
    · exact h.high p h1

theorem Sat.new {W0 : World} {H : List Grp} {w w' : World} (h : Sat W0 H w) {o : Obj} (hos : w'.os = w.os) (htape : w'.tape = w.tape) (hout : w'.output = w.output)
    (hheap : w'.heap = w.heap.push o) : Sat W0 ([(w.heap.size, o)] :: H) w' := by
  have hlt : ∀ p, p ∈ H.flatten → p.1 < w.heap.size := fun p hp => by
    have := h.has p hp
    rcases Nat.lt_or_ge p.1 w.heap.size with h' | h'
    · exact h'
    · simp [Array.getElem?_eq_none h'] at this
  have hold : ∀ k, k < w.heap.size → w'.heap[k]? = w.heap[k]? := fun k hk => by
    rw [hheap, Array.getElem?_push, if_neg (by omega)]
  refine ⟨⟨hos.trans h.below.os, htape.trans h.below.tape, hout.trans h.below.output, by rw [hheap]; simp; have := h.below.size; omega, fun k hk => ?_⟩, ?_, ?_, ?_⟩
  · have := h.below.size
    rw [hold k (by omega)]; exact h.below.block k hk
  · simp only [List.flatten_cons, List.cons_append, List.nil_append, List.map_cons, List.nodup_cons]
    refine ⟨fun hm => ?_, h.nodup⟩
    obtain ⟨p, hp, he⟩ := List.mem_map.1 hm
    have := hlt p hp
    omega
  · intro p hp
    simp only [List.flatten_cons, List.cons_append, List.nil_append, List.mem_cons] at hp
    rcases hp with rfl | hp
    · simp [hheap]
    · rw [hold _ (hlt p hp)]; exact h.has p hp
  · intro p hp
    simp only [List.flatten_cons, List.cons_append, List.nil_append, List.mem_cons] at hp
    rcases hp with rfl | hp
    · exact h.below.size
    · exact h.high p hp

theorem Sat.perm {W0 : World} {H H' : List Grp} {w : World} (h : Sat W0 H w) (hp : H.Perm H') : Sat W0 H' w := by
  have hf : H.flatten.Perm H'.flatten := hp.flatten
  exact ⟨h.below, (hf.map _).nodup_iff.1 h.nodup, fun p hm => h.has p (hf.mem_iff.2 hm), fun p hm => h.high p (hf.mem_iff.2 hm)⟩
theorem Sat.tail {W0 : World} {H : List Grp} {g : Grp} {w : World} (h : Sat W0 (g :: H) w) : Sat W0 H w := by
  have hn := h.nodup
  simp only [List.flatten_cons, List.map_append, List.nodup_append] at hn
  exact ⟨h.below, hn.2.1, fun p hm => h.has p (by simp [hm]), fun p hm => h.high p (by simp [hm])⟩
/-- groups may be joined or split -/
theorem Sat.flat {W0 : World} {H H' : List Grp} {w : World} (h : Sat W0 H w) (hf : H.flatten.Perm H'.flatten) : Sat W0 H' w :=
  ⟨h.below, (hf.map _).nodup_iff.1 h.nodup, fun p hm => h.has p (hf.mem_iff.2 hm), fun p hm => h.high p (hf.mem_iff.2 hm)⟩
theorem Sat.subl {W0 : World} {H H' : List Grp} {w : World} (h : Sat W0 H w) (hf : H'.flatten.Sublist H.flatten) : Sat W0 H' w :=
  ⟨h.below, h.nodup.sublist (hf.map _), fun p hm => h.has p (hf.subset hm), fun p hm => h.high p (hf.subset hm)⟩

theorem GL_heap {d : Bool} {P : Program} {ops : Array Oper} {i : Nat} {Q : Post} {n : Nat} {E : Env} {W0 : World} {H H' : List Grp} (hd : d = false)
    (hs : ∀ w, Sat W0 H w → Sat W0 H' w) (k : GL d P ops i Q n E W0 H') : GL d P ops i Q n E W0 H := by
  subst hd; exact fun a w ha h => k a w ha (hs w h)
theorem G_heap {P : Program} {c : Code} {Q : Post} {n : Nat} {E : Env} {W0 : World} {H H' : List Grp}
    (hs : ∀ w, Sat W0 H w → Sat W0 H' w) (k : G P c Q n E W0 H') : G P c Q n E W0 H := fun a w ha h => k a w ha (hs w h)
theorem N_heap {Q : Post} {x : Exit} {n : Nat} {E : Env} {W0 : World} {H H' : List Grp}
    (hs : ∀ w, Sat W0 H w → Sat W0 H' w) (k : N Q x n E W0 H') : N Q x n E W0 H := fun a w ha h => k a w ha (hs w h)
theorem Tri.heap {P : Program} {f : FuncId} {args : Array Value} {W0 : World} {H H' : List Grp} {R : Value → List Grp → Prop}
    (hs : ∀ w, Sat W0 H w → Sat W0 H' w) (h : Tri P f args W0 H' R) : Tri P f args W0 H R := fun w h0 => h w (hs w h0)
theorem Tri.post {P : Program} {f : FuncId} {args : Array Value} {W0 : World} {H : List Grp} {R R' : Value → List Grp → Prop}
    (h : Tri P f args W0 H R) (hr : ∀ v H1, R v H1 → ∃ H2, R' v H2 ∧ ∀ w, Sat W0 H1 w → Sat W0 H2 w) : Tri P f args W0 H R' :=
  fun w hs => (h w hs).mono fun _ _ ⟨v, H1, he, hR, hs'⟩ => let ⟨H2, h2, h3⟩ := hr v H1 hR; ⟨v, H2, he, h2, h3 _ hs'⟩

/-! ## an operation with effect, in a region whose order is fixed -/
theorem GL_eff {P : Program} {ops : Array Oper} {i : Nat} {Q : Post} {n : Nat} {E : Env} {W0 : World} {H : List Grp} {o : Oper} {ch : List (Nat × Bool)} {R : Value → List Grp → Prop}
    (ho : ops[i]? = some o) (hch : chainOf ops E o.guard = some ch) (hd : dstOk n ch o.dst = true) (hsure : chSure E ch = true)
    (hrun : ∀ (r : Operand → Value), (∀ x v, evO E ch x = some v → r x = v) → ∀ w, Sat W0 H w → ∃ v w' H', R v H' ∧ Sat W0 H' w' ∧
      ((execOp r o).run P w = .ok (.value v) w' ∨ ((execOp r o).run P w = .ok .skip w' ∧ v = undef)))
    (k : ∀ v H', R v H' → GL false P ops (i + 1) Q n (Env.put E o.dst ch v) W0 H') : GL false P ops i Q n E W0 H := by
  have hi : i < ops.toList.length := by
    rcases Nat.lt_or_ge i ops.size with h | h
    · simpa using h
    · simp [Array.getElem?_eq_none h] at ho
  have hdrop : ops.toList.drop i = o :: ops.toList.drop (i + 1) := by
    rw [List.drop_eq_getElem_cons hi]
    congr 1
    have hi' : i < ops.size := by simpa using hi
    rw [Array.getElem?_eq_getElem hi'] at ho
    simpa using ho
  intro a w ha hs
  rw [hdrop]
  obtain ⟨β, hβ, hat⟩ := ha.at_
  have hcT := chSure_of hsure β hβ
  have hw := wanted_chain hβ hat hch
  unfold wpList
  rw [hw, if_pos hcT]
  left
  obtain ⟨v, w', H', hR, hs', hr⟩ := hrun a.eval (fun x v => evO_eval hat hcT) w hs
  have hput := Ag.put ha hβ hat hd v
  rw [if_pos hcT] at hput
  unfold Oper.wp
  rcases hr with hr | ⟨hr, rfl⟩
  · rw [hr]; exact k v H' hR _ _ hput hs'
  · rw [hr]; exact k _ H' hR _ _ hput hs'

/-! ## loads -/
theorem cell_of {w : World} {b off : Nat} {c : Array Value} {e : TypeId} {fz : Nat × Nat} {v : Value} (h : w.heap[b]? = some (.cells c e fz)) (hv : c[off]? = some v) : w.cell? ⟨b, off, none⟩ = some v := by
  simp [World.cell?, h, hv]

theorem addr_add (b off i : Nat) : (Addr.add ⟨b, off, none⟩ i) = ⟨b, off + i, none⟩ := by
  unfold Addr.add
  split
  · rename_i h; subst h; rfl
  · rfl

theorem run_loadCells {P : Program} {w : World} {b off : Nat} {c : Array Value} {e : TypeId} {fz : Nat × Nat} (h : w.heap[b]? = some (.cells c e fz)) : ∀ (l : List Value) (i : Nat) (acc : Array Value),
    (∀ k (hk : k < l.length), c[off + i + k]? = some l[k]) → (loadCellsFrom ⟨b, off, none⟩ i l.length acc).run P w = .ok (acc ++ l.toArray) w
  | [], i, acc, _ => by simp [loadCellsFrom]
  | v :: l, i, acc, hl => by
    have h0 := hl 0 (by simp)
    simp only [List.getElem_cons_zero, Nat.add_zero] at h0
    have ih := run_loadCells (P := P) (off := off) h l (i + 1) (acc.push v) (fun k hk => by
      have := hl (k + 1) (by simp; omega)
      simp only [List.getElem_cons_succ] at this
      rw [show off + (i + 1) + k = off + i + (k + 1) from by omega]
      exact this)
    simp only [List.length_cons, loadCellsFrom, Sem.run_bind, addr_add, run_load, cell_of h h0, Result.andThen_ok, ih]
    simp

/-- a load of one cell -/
theorem GL_load {d : Bool} {P : Program} {ops : Array Oper} {i : Nat} {Q : Post} {n : Nat} {E : Env} {W0 : World} {H : List Grp} {o : Oper} {ch : List (Nat × Bool)} {t : TypeId} {x : Operand}
    {b off : Nat} {c : Array Value} {e : TypeId} {fz : Nat × Nat} {v : Value}
    (ho : ops[i]? = some o) (hop : o.op = .load t x) (hx : evO E ch x = some (.pointer (some ⟨b, off, none⟩))) (ht : aggB P t = some false)
    (hch : chainOf ops E o.guard = some ch) (hd : dstOk n ch o.dst = true) (hk : chKnown E ch = true)
    (hA : At W0 H b (.cells c e fz)) (hv : c[off]? = some v)
    (k : GL d P ops (i + 1) Q n (Env.put E o.dst ch v) W0 H) : GL d P ops i Q n E W0 H := by
  refine GL_quiet ho hch hd hk (fun r hr _ w hs => ?_) k
  unfold execOp
  simp only [hop]
  rw [hr _ _ hx]
  simp only [Instr.loadAt, Instr.sureAddr, loadVar, Sem.run_bind, Sem.run_pure, Result.andThen_ok, aggB_sound ht, Bool.false_eq_true, if_false, run_load, cell_of (hs.at hA) hv]
  exact ⟨rfl, rfl⟩

/-- a load of a struct or an array -/
theorem GL_loadA {d : Bool} {P : Program} {ops : Array Oper} {i : Nat} {Q : Post} {n : Nat} {E : Env} {W0 : World} {H : List Grp} {o : Oper} {ch : List (Nat × Bool)} {t : TypeId} {x : Operand}
    {b off : Nat} {c : Array Value} {e : TypeId} {fz : Nat × Nat} {l : List Value}
    (ho : ops[i]? = some o) (hop : o.op = .load t x) (hx : evO E ch x = some (.pointer (some ⟨b, off, none⟩))) (ht : aggB P t = some true) (hsz : sizeV P t = some l.length)
    (hch : chainOf ops E o.guard = some ch) (hd : dstOk n ch o.dst = true) (hk : chKnown E ch = true)
    (hA : At W0 H b (.cells c e fz)) (hv' : (c.toList.drop off).take l.length = l)
    (k : GL d P ops (i + 1) Q n (Env.put E o.dst ch (.agg l.toArray)) W0 H) : GL d P ops i Q n E W0 H := by
  have hv : ∀ k (hk : k < l.length), c[off + k]? = some l[k] := by
    intro k hk
    have h1 : ((c.toList.drop off).take l.length)[k]? = some l[k] := by rw [hv']; simp
    rw [List.getElem?_take, if_pos hk, List.getElem?_drop] at h1
    simpa using h1
  refine GL_quiet ho hch hd hk (fun r hr _ w hs => ?_) k
  unfold execOp
  simp only [hop]
  rw [hr _ _ hx]
  simp only [Instr.loadAt, Instr.sureAddr, loadVar, Sem.run_bind, Sem.run_pure, Result.andThen_ok, aggB_sound ht, if_true, sizeV_sound hsz, loadCells,
    run_loadCells (P := P) (hs.at hA) l 0 #[] (by simpa using hv)]
  exact ⟨rfl, by simp⟩

/-! ## stores -/
def thawed (fz : Nat × Nat) (off : Nat) : Bool := !(decide (fz.1 ≤ off) && decide (off < fz.2))

theorem run_store1 {P : Program} {w : World} {b off : Nat} {c : Array Value} {e : TypeId} {fz : Nat × Nat} {v : Value} (h : w.heap[b]? = some (.cells c e fz)) (hoff : off < c.size)
    (hfz : thawed fz off = true) (hv : v.oneCell' = true) : ∃ w', (store ⟨b, off, none⟩ v).run P w = .ok () w' ∧ Wr b (.cells (c.setIfInBounds off v) e fz) w w' := by
  have hc : w.cell? ⟨b, off, none⟩ = some c[off] := cell_of h (by simp [hoff])
  have hf : w.frozen? ⟨b, off, none⟩ = false := by
    simp only [World.frozen?, h]
    simp [thawed] at hfz
    simp
    omega
  refine ⟨w.setCell ⟨b, off, none⟩ v, ?_, ?_⟩
  · rw [run_store P w _ v _ hv, hc]
    simp [hf]
  · have hb : b < w.heap.size := by
      rcases Nat.lt_or_ge b w.heap.size with h' | h'
      · exact h'
      · simp [Array.getElem?_eq_none h'] at h
    refine ⟨rfl, rfl, rfl, by simp, ?_, fun k hk => ?_⟩
    · simp only [World.setCell, Array.getElem?_modify, ↓reduceIte, h, Option.map_some]
      simp
    · simp only [World.setCell, Array.getElem?_modify]
      rw [if_neg (fun e => hk e.symm)]

theorem Wr.trans {b : Nat} {o1 o2 : Obj} {w w1 w2 : World} (h1 : Wr b o1 w w1) (h2 : Wr b o2 w1 w2) : Wr b o2 w w2 :=
  ⟨h2.os.trans h1.os, h2.tape.trans h1.tape, h2.output.trans h1.output, h2.size.trans h1.size, h2.at_, fun k hk => (h2.other k hk).trans (h1.other k hk)⟩

/-- cells written one behind the other -/
def setRow (c : Array Value) (off : Nat) : List Value → Array Value
  | [] => c
  | v :: r => setRow (c.setIfInBounds off v) (off + 1) r

theorem run_storeCells {P : Program} {b : Nat} {e : TypeId} {fz : Nat × Nat} : ∀ (l : List Value) {w : World} {off i : Nat} {c : Array Value}, w.heap[b]? = some (.cells c e fz) → off + i + l.length ≤ c.size →
    (∀ k, k < l.length → thawed fz (off + i + k) = true) → (l.all Value.oneCell') = true →
    ∃ w', (storeCells ⟨b, off, none⟩ l i).run P w = .ok () w' ∧ (l = [] → w' = w) ∧ Wr b (.cells (setRow c (off + i) l) e fz) w w'
  | [], w, off, i, c, h, _, _, _ => ⟨w, rfl, fun _ => rfl, rfl, rfl, rfl, rfl, h, fun _ _ => rfl⟩
  | v :: l, w, off, i, c, h, hlen, hfz, hv => by
    simp only [List.all_cons, Bool.and_eq_true] at hv
    simp only [List.length_cons] at hlen
    obtain ⟨w1, hr1, hw1⟩ := run_store1 (P := P) h (off := off + i) (by omega) (by simpa using hfz 0 (by simp)) hv.1
    obtain ⟨w2, hr2, _, hw2⟩ := run_storeCells (P := P) l (w := w1) (off := off) (i := i + 1) hw1.at_ (by simp; omega)
      (fun k hk => by have := hfz (k + 1) (by simp; omega); rw [show off + (i + 1) + k = off + i + (k + 1) from by omega]; exact this) hv.2
    refine ⟨w2, ?_, fun h => by simp at h, ?_⟩
    · simp only [storeCells, Sem.run_bind, addr_add, hr1, Result.andThen_ok, hr2]
    · have := hw1.trans hw2
      simpa [setRow, Nat.add_assoc] using this

/-- a store of whatever is known cell by cell -/
theorem GL_store {P : Program} {ops : Array Oper} {i : Nat} {Q : Post} {n : Nat} {E : Env} {W0 : World} {H H' : List Grp} {o : Oper} {ch : List (Nat × Bool)} {t : TypeId} {x y : Operand}
    {b off : Nat} {c c' : Array Value} {e : TypeId} {fz : Nat × Nat} {v : Value} {g : Grp} {j m : Nat}
    (ho : ops[i]? = some o) (hop : o.op = .store t x y) (hx : evO E ch x = some (.pointer (some ⟨b, off, none⟩))) (hy : evO E ch y = some v)
    (hsz : sizeV P t = some v.cells.size) (h1 : (v.cells.toList.all Value.oneCell') = true)
    (hch : chainOf ops E o.guard = some ch) (hd : dstOk n ch o.dst = true) (hsure : chSure E ch = true)
    (hj : H[j]? = some g) (hi : g[m]? = some (b, .cells c e fz)) (hoff : off + v.cells.size ≤ c.size) (hfz : ∀ k, k < v.cells.size → thawed fz (off + k) = true)
    (hc' : setRow c off v.cells.toList = c') (hH' : H.set j (g.set m (b, .cells c' e fz)) = H')
    (k : GL false P ops (i + 1) Q n (Env.put E o.dst ch undef) W0 H') : GL false P ops i Q n E W0 H := by
  refine GL_eff (R := fun v H1 => v = undef ∧ H1 = H') ho hch hd hsure (fun r hr w hs => ?_) (by rintro v H1 ⟨rfl, rfl⟩; exact k)
  have hblk := hs.has _ (List.mem_flatten.2 ⟨g, List.mem_of_getElem? hj, List.mem_of_getElem? hi⟩)
  obtain ⟨w', hr', _, hw'⟩ := run_storeCells (P := P) v.cells.toList (w := w) (off := off) (i := 0) hblk (by simpa using hoff) (by simpa using hfz) h1
  refine ⟨undef, w', H', ⟨rfl, rfl⟩, ?_, .inr ⟨?_, rfl⟩⟩
  · have := hs.wr hj hi (o' := .cells c' e fz) (by rw [← hc']; simpa using hw')
    rw [hH'] at this; exact this
  · unfold execOp
    simp only [hop]
    rw [hr _ _ hx, hr _ _ hy]
    simp only [Instr.storeAt, Instr.sureAddr, storeVar, Sem.run_bind, Sem.run_pure, Result.andThen_ok, sizeV_sound hsz, ne_eq, not_true_eq_false, if_false, hr']

theorem thaw0 {x : Nat} : thawed (0, 0) x = true := by simp [thawed]

/-! ## new memory -/
theorem GL_new {P : Program} {ops : Array Oper} {i : Nat} {Q : Post} {n : Nat} {E : Env} {W0 : World} {H : List Grp} {o : Oper} {ch : List (Nat × Bool)} {ob : Obj} {f : Nat → Value}
    (ho : ops[i]? = some o) (hch : chainOf ops E o.guard = some ch) (hd : dstOk n ch o.dst = true) (hsure : chSure E ch = true)
    (hrun : ∀ (r : Operand → Value), (∀ x v, evO E ch x = some v → r x = v) → ∀ w, (execOp r o).run P w = .ok (.value (f w.heap.size)) (w.alloc ob))
    (k : ∀ b, GL false P ops (i + 1) Q n (Env.put E o.dst ch (f b)) W0 ([(b, ob)] :: H)) : GL false P ops i Q n E W0 H := by
  refine GL_eff (R := fun v H1 => ∃ b, v = f b ∧ H1 = [(b, ob)] :: H) ho hch hd hsure (fun r hr w hs => ?_) (by rintro v H1 ⟨b, rfl, rfl⟩; exact k b)
  exact ⟨f w.heap.size, w.alloc ob, _, ⟨_, rfl, rfl⟩, hs.new rfl rfl rfl rfl, .inl (hrun r hr w)⟩

theorem GL_alloc {P : Program} {ops : Array Oper} {i : Nat} {Q : Post} {n : Nat} {E : Env} {W0 : World} {H : List Grp} {o : Oper} {ch : List (Nat × Bool)} {t : TypeId} {z : Value}
    (ho : ops[i]? = some o) (hop : o.op = .alloc t) (hz : zeroV P t = some z) (hch : chainOf ops E o.guard = some ch) (hd : dstOk n ch o.dst = true) (hsure : chSure E ch = true)
    (k : ∀ b, GL false P ops (i + 1) Q n (Env.put E o.dst ch (.pointer (some ⟨b, 0, none⟩))) W0 ([(b, .cells z.cells t)] :: H)) : GL false P ops i Q n E W0 H :=
  GL_new (f := fun b => .pointer (some ⟨b, 0, none⟩)) ho hch hd hsure (fun r hr w => by
    unfold execOp; simp only [hop, Instr.alloc, Sem.run_bind, zeroV_sound hz, Result.andThen_ok]; rfl) k

theorem GL_box {P : Program} {ops : Array Oper} {i : Nat} {Q : Post} {n : Nat} {E : Env} {W0 : World} {H : List Grp} {o : Oper} {ch : List (Nat × Bool)} {t : TypeId} {x : Operand} {v : Value}
    (ho : ops[i]? = some o) (hop : o.op = .box t x) (hx : evO E ch x = some v) (hch : chainOf ops E o.guard = some ch) (hd : dstOk n ch o.dst = true) (hsure : chSure E ch = true)
    (k : ∀ b, GL false P ops (i + 1) Q n (Env.put E o.dst ch (.pointer (some ⟨b, 0, none⟩))) W0 ([(b, .cells v.cells t)] :: H)) : GL false P ops i Q n E W0 H :=
  GL_new (f := fun b => .pointer (some ⟨b, 0, none⟩)) ho hch hd hsure (fun r hr w => by
    unfold execOp; simp only [hop]; rw [hr _ _ hx]; rfl) k

theorem GL_makeMap {P : Program} {ops : Array Oper} {i : Nat} {Q : Post} {n : Nat} {E : Env} {W0 : World} {H : List Grp} {o : Oper} {ch : List (Nat × Bool)} {t : TypeId}
    (ho : ops[i]? = some o) (hop : o.op = .makeMap t none) (hch : chainOf ops E o.guard = some ch) (hd : dstOk n ch o.dst = true) (hsure : chSure E ch = true)
    (k : ∀ b, GL false P ops (i + 1) Q n (Env.put E o.dst ch (.map (some b))) W0 ([(b, .map #[] 0)] :: H)) : GL false P ops i Q n E W0 H :=
  GL_new (f := fun b => .map (some b)) ho hch hd hsure (fun r hr w => by
    unfold execOp; simp only [hop]; rfl) k

/-- '[]T{..}': the parts' cells one behind the other -/
def buildSliceV (P : Program) (t : TypeId) (len : Nat) (parts : List (Nat × Value)) : Option (Array Value × TypeId) :=
  match P.underlying t with
  | some (.slice e) =>
    (match sizeV P e, zeroV P e with
     | some n, some z => if len * n > 2 ^ 24 then none else
        (match Instr.fill (fun i => some (i * n, n)) ((Array.range (len * n)).map (z.cells[· % z.cells.size]!)) parts with | some c => some (c, e) | none => none)
     | _, _ => none)
  | _ => none

theorem GL_buildSlice {P : Program} {ops : Array Oper} {i : Nat} {Q : Post} {n : Nat} {E : Env} {W0 : World} {H : List Grp} {o : Oper} {ch : List (Nat × Bool)} {t e : TypeId} {len : Nat} {parts : Array (Nat × Operand)} {l : List (Nat × Value)} {c : List Value}
    (ho : ops[i]? = some o) (hop : o.op = .buildSlice t len parts) (hx : evP (evO E ch) parts.toList = some l) (hc : buildSliceV P t len l = some (c.toArray, e))
    (hch : chainOf ops E o.guard = some ch) (hd : dstOk n ch o.dst = true) (hsure : chSure E ch = true)
    (k : ∀ b, GL false P ops (i + 1) Q n (Env.put E o.dst ch (.slice (some ⟨b, 0, none⟩) len len)) W0 ([(b, .cells c.toArray e)] :: H)) : GL false P ops i Q n E W0 H :=
  GL_new (f := fun b => .slice (some ⟨b, 0, none⟩) len len) ho hch hd hsure (fun r hr w => by
    unfold execOp; simp only [hop]
    have e1 : (Array.map (fun x => (x.fst, r x.snd)) parts) = l.toArray := by
      rw [← evP_map hr _ hx]; apply Array.ext'; rw [Array.toList_map]
    rw [e1]
    unfold buildSliceV at hc
    split at hc
    · rename_i el hu
      split at hc
      · rename_i sz z hsz hz
        split at hc
        · simp at hc
        · rename_i hbig
          split at hc
          · rename_i cc hf
            simp only [Option.some.injEq, Prod.mk.injEq] at hc
            obtain ⟨h1, rfl⟩ := hc
            have hm : len * sz = 0 → (Array.range (len * sz)).map (fun q => (#[] : Array Value)[q % (#[] : Array Value).size]!) = (Array.range (len * sz)).map (z.cells[· % z.cells.size]!) := by
              intro h0
              rw [h0, show Array.range 0 = #[] from rfl]
              simp
            simp only [Instr.buildSlice, Sem.run_bind, run_underlying hu, Result.andThen_ok, sizeV_sound hsz, if_neg hbig]
            by_cases h0 : len * sz = 0
            · rw [if_pos h0]
              simp only [Sem.run_bind, Sem.run_pure, Result.andThen_ok, hm h0, hf, newRow, run_newObj, h1]
              rfl
            · rw [if_neg h0]
              simp only [Sem.run_bind, Sem.run_pure, zeroV_sound hz, Result.andThen_ok, hf, newRow, run_newObj, h1]
              rfl
          · simp at hc
      · simp at hc
    · simp at hc) k

end Go.Sw
