/- Regions, step by step: pure operations by reckoning, others by one rule each; control flow; loops; calls. No condition. -/
import Derived.Test.YtbmieiffboenbaaPure
import Derived.Deep.Quiet
namespace Go.Sw

abbrev Post := Exit → Act → World → Prop

def GL (d : Bool) (P : Program) (ops : Array Oper) (i : Nat) (Q : Post) (n : Nat) (E : Env) (W0 : World) (H : List Grp) : Prop :=
  match d with
  | true => ∀ a, Ag n E a → wpQuiet P ops (Sat W0 H) (fun a' => ∀ w', Sat W0 H w' → Q .normal a' w') (ops.toList.drop i) a
  | false => ∀ a w, Ag n E a → Sat W0 H w → wpList P ops Q (ops.toList.drop i) a w

def G (P : Program) (c : Code) (Q : Post) (n : Nat) (E : Env) (W0 : World) (H : List Grp) : Prop :=
  ∀ a w, Ag n E a → Sat W0 H w → c.wp P Q a w

def N (Q : Post) (x : Exit) (n : Nat) (E : Env) (W0 : World) (H : List Grp) : Prop :=
  ∀ a w, Ag n E a → Sat W0 H w → Q x a w

theorem Sat.drew {W0 : World} {H : List Grp} {w : World} (h : Sat W0 H w) : Sat W0 H { w with drawn := w.drawn + 1 } :=
  ⟨h.below.trans ⟨rfl, rfl, rfl, Nat.le_refl _, fun _ _ => rfl⟩, h.nodup, h.has, h.high⟩

/-! ## what a chain says -/
def chB (E : List Sl) : List (Nat × Bool) → Prop
  | [] => True
  | (t, w) :: r => (match Env.find E t with | some s => (match s.v with | .bool b => b = w | _ => False) | none => False) ∧ chB E r

theorem chB_of {E : Env} {β : Nat → Bool → Bool} (hβ : ∀ s, s ∈ E → ∀ w, β s.t w = (boolOf s.v == some w)) : ∀ (ch : List (Nat × Bool)),
    (∀ p, p ∈ ch → ∃ s, Env.find E p.1 = some s) → chT β ch = true → chB E ch
  | [], _, _ => trivial
  | (t, w) :: r, hf, h => by
    simp only [chT, List.all_cons, Bool.and_eq_true] at h
    refine ⟨?_, chB_of hβ r (fun p hp => hf p (List.mem_cons_of_mem _ hp)) h.2⟩
    obtain ⟨s, hs⟩ := hf (t, w) List.mem_cons_self
    simp only at hs
    rw [hs]
    obtain ⟨hm, ht⟩ := Env.find_mem hs
    subst ht
    have h1 := hβ s hm w
    rw [h.1] at h1
    simp only
    cases hv : s.v <;> rw [hv] at h1 <;> simp [boolOf] at h1 ⊢
    exact h1

def chKnown (E : List Sl) (ch : List (Nat × Bool)) : Bool := ch.all fun p => (Env.find E p.1).isSome

/-! ## one quiet operation -/
theorem GL_quiet {d : Bool} {P : Program} {ops : Array Oper} {i : Nat} {Q : Post} {n : Nat} {E : Env} {W0 : World} {H : List Grp} {o : Oper} {ch : List (Nat × Bool)} {v : Value}
    (ho : ops[i]? = some o) (hch : chainOf ops E o.guard = some ch) (hd : dstOk n ch o.dst = true) (hk : chKnown E ch = true)
    (hq : ∀ (r : Operand → Value), (∀ x v, evO E ch x = some v → r x = v) → chB E ch → ∀ w, Sat W0 H w → Oper.quietUpon P (Sat W0 H) w v ((execOp r o).run P w))
    (k : GL d P ops (i + 1) Q n (Env.put E o.dst ch v) W0 H) : GL d P ops i Q n E W0 H := by
  have hi : i < ops.toList.length := by
    rcases Nat.lt_or_ge i ops.size with h | h
    · simpa using h
    · simp [Array.getElem?_eq_none h] at ho
  have hdrop : ops.toList.drop i = o :: ops.toList.drop (i + 1) := by
    rw [List.drop_eq_getElem_cons hi]
    congr 1
    have hi' : i < ops.size := by simpa using hi
    rw [Array.getElem?_eq_getElem hi'] at ho
    simpa using ho
  have hkn : ∀ p, p ∈ ch → ∃ s, Env.find E p.1 = some s := fun p hp => by
    have := List.all_eq_true.1 hk p hp
    exact Option.isSome_iff_exists.1 this
  cases d with
  | true =>
    intro a ha
    rw [hdrop]
    obtain ⟨β, hβ, hat⟩ := ha.at_
    have hw := wanted_chain hβ hat hch
    unfold wpQuiet
    have hput := Ag.put ha hβ hat hd v
    by_cases hc : chT β ch = true
    · rw [hw, if_pos hc]
      rw [if_pos hc] at hput
      refine ⟨v, fun w hs => ?_, k _ hput⟩
      exact hq _ (fun x v => evO_eval hat hc) (chB_of hβ ch hkn hc) w hs
    · rw [hw, if_neg hc]
      rw [if_neg hc] at hput
      exact k _ hput
  | false =>
    intro a w ha hs
    rw [hdrop]
    obtain ⟨β, hβ, hat⟩ := ha.at_
    have hw := wanted_chain hβ hat hch
    unfold wpList
    have hput := Ag.put ha hβ hat hd v
    by_cases hc : chT β ch = true
    · rw [hw, if_pos hc]
      rw [if_pos hc] at hput
      left
      refine Oper.wp_of_quiet (C := Sat W0 H) (K := fun a' => a' = a.put o.dst v) hs (fun a' w' hw' he => by rw [he]; exact k _ _ hput hw') ⟨v, fun w hs => ?_, rfl⟩
      exact hq _ (fun x v => evO_eval hat hc) (chB_of hβ ch hkn hc) w hs
    · rw [hw, if_neg hc]
      rw [if_neg hc] at hput
      exact k _ _ hput hs

/-! ## pure steps, many at once -/
def gOff (ops : Array Oper) (E : List Sl) : Option (Nat × Bool) → Bool
  | none => false
  | some (j, want) =>
    match (ops[j]?).bind Oper.dst with
    | some dj => (match Env.find E dj with
      | some s => (match s.v, want with | .bool false, true => true | .bool true, false => true | .tuple _, _ => true | _, _ => false)
      | none => false)
    | none => false

def selV (x : Bool) : Value → Value → Option Value
  | .bool y, .bool z => some (.bool (bif x then y else z))
  | .int k m, .int k' m' => if k = k' then some (.int k (bif x then m else m')) else none
  | .string s, .string s' => some (.string (bif x then s else s'))
  | _, _ => none

theorem selV_sound {x : Bool} {a b v : Value} (h : selV x a b = some v) : v = if x then a else b := by
  unfold selV at h
  split at h
  · injection h with h; subst h; cases x <;> rfl
  · split at h
    · rename_i hk; injection h with h; subst h; subst hk; cases x <;> rfl
    · simp at h
  · injection h with h; subst h; cases x <;> rfl
  · simp at h

/-- the result of 'pick': mode 2: the test is true, 3: it is false, 4: either; 5: 'or' (a is the constant true); 6: 'and' (b is the constant false) -/
def pickV (E : List Sl) (ch : List (Nat × Bool)) (mode : Nat) (c a b : Operand) : Option Value :=
  match c with
  | .tmp t =>
    match evT E ch t with
    | some (.bool x) =>
      match mode with
      | 2 => (match x with | true => evO E ((t, true) :: ch) a | false => none)
      | 3 => (match x with | false => evO E ((t, false) :: ch) b | true => none)
      | 4 => (match evO E ((t, true) :: ch) a, evO E ((t, false) :: ch) b with | some va, some vb => selV x va vb | _, _ => none)
      | 5 => (match a, evO E ((t, false) :: ch) b with | .const (.bool true), some (.bool y) => some (.bool (x || y)) | _, _ => none)
      | 6 => (match evO E ((t, true) :: ch) a, b with | some (.bool y), .const (.bool false) => some (.bool (x && y)) | _, _ => none)
      | _ => none
    | _ => none
  | _ => none

def pstep (P : Program) (ops : Array Oper) (n : Nat) (mode : Nat) (o : Oper) (E : List Sl) : Option (List Sl) :=
  match mode with
  | 0 => (match chainOf ops E o.guard with
    | some ch => (match dstOk n ch o.dst, pev P (evO E ch) o.op with | true, some v => some (Env.put E o.dst ch v) | _, _ => none)
    | none => none)
  | 1 => (match gOff ops E o.guard, dstOk n [] o.dst with | true, true => some (Env.put E o.dst [] undef) | _, _ => none)
  | _ => (match chainOf ops E o.guard, o.op with
    | some ch, .pick c a b => (match dstOk n ch o.dst, pickV E ch mode c a b with | true, some v => some (Env.put E o.dst ch v) | _, _ => none)
    | _, _ => none)

/-- an operation is passed over or leaves its value -/
theorem pstep_sound {P : Program} {ops : Array Oper} {n mode : Nat} {o : Oper} {E E' : Env} (h : pstep P ops n mode o E = some E') {a : Act} (ha : Ag n E a) :
    (Region.wanted o (yielded ops a.tmps) = false ∧ Ag n E' (a.put o.dst undef)) ∨
    (Region.wanted o (yielded ops a.tmps) = true ∧ ∃ v, (∀ w, (execOp a.eval o).run P w = .ok (.value v) w) ∧ Ag n E' (a.put o.dst v)) := by
  obtain ⟨β, hβ, hat⟩ := ha.at_
  unfold pstep at h
  split at h
  · split at h
    · rename_i ch hch
      split at h
      · rename_i v hd hv
        injection h with h; subst h
        have hw := wanted_chain hβ hat hch
        have hput := Ag.put ha hβ hat hd v
        by_cases hc : chT β ch = true
        · rw [if_pos hc] at hput
          exact .inr ⟨by rw [hw, hc], v, fun w => pev_sound (fun x v => evO_eval hat hc) hv w, hput⟩
        · rw [if_neg hc] at hput
          exact .inl ⟨by rw [hw]; simpa using hc, hput⟩
      · simp at h
    · simp at h
  · split at h
    · rename_i hg hd
      injection h with h; subst h
      have hput := Ag.put ha hβ hat hd undef
      simp only [chT, List.all_nil, if_true] at hput
      refine .inl ⟨?_, hput⟩
      unfold gOff at hg
      unfold Region.wanted
      split at hg
      · simp at hg
      · rename_i j want hgu
        split at hg
        · rename_i dj hdj
          split at hg
          · rename_i s hs
            obtain ⟨hm, ht⟩ := Env.find_mem hs
            subst ht
            have h1 := hat s hm
            simp only [hgu, yielded, hdj, Option.bind_some, h1]
            cases hc : chT β s.ch
            · simp [undef]
            · simp only [if_true]
              split at hg <;> rename_i hv <;> simp_all
          · simp at hg
        · simp at hg
    · simp at h
  · split at h
    · rename_i ch c x y hch ho
      split at h
      · rename_i v hd hv
        injection h with h; subst h
        have hw := wanted_chain hβ hat hch
        have hput := Ag.put ha hβ hat hd v
        by_cases hc : chT β ch = true
        · rw [if_pos hc] at hput
          refine .inr ⟨by rw [hw, hc], v, fun w => ?_, hput⟩
          unfold pickV at hv
          split at hv
          · rename_i t
            split at hv
            · rename_i b hb
              have hcv : a.eval (.tmp t) = .bool b := evO_eval hat hc (x := .tmp t) hb
              -- what the slot's value says of longer chains
              have hlong : ∀ w, b = w → chT β ((t, w) :: ch) = true := by
                intro w hw'
                unfold evT at hb
                split at hb
                · rename_i s hs
                  obtain ⟨hm, ht⟩ := Env.find_mem hs
                  split at hb
                  · injection hb with hb
                    have := hβ s hm w
                    rw [hb, ht] at this
                    simp only [chT, List.all_cons, Bool.and_eq_true]
                    refine ⟨?_, hc⟩
                    rw [this, hw']; simp [boolOf]
                  · simp at hb
                · simp at hb
              have hrun : (execOp a.eval o).run P w = .ok (.value (if b then a.eval x else a.eval y)) w := by
                unfold execOp
                simp only [ho, hcv]
                simp [asBool]
              rw [hrun]
              congr 2
              split at hv
              · split at hv
                · simp only [if_true]; exact evO_eval hat (hlong true rfl) hv
                · simp at hv
              · split at hv
                · simp only [Bool.false_eq_true, if_false]; exact evO_eval hat (hlong false rfl) hv
                · simp at hv
              · split at hv
                · rename_i va vb hva hvb
                  rw [selV_sound hv]
                  cases b
                  · simp only [Bool.false_eq_true, if_false]; exact evO_eval hat (hlong false rfl) hvb
                  · simp only [if_true]; exact evO_eval hat (hlong true rfl) hva
                · simp at hv
              · split at hv
                · rename_i z hz
                  injection hv with hv; subst hv
                  cases b
                  · simp only [Bool.false_eq_true, if_false, Bool.false_or]; exact evO_eval hat (hlong false rfl) hz
                  · simp only [if_true, Bool.true_or]; rfl
                · simp at hv
              · split at hv
                · rename_i z hz
                  injection hv with hv; subst hv
                  cases b
                  · simp only [Bool.false_eq_true, if_false, Bool.false_and]; rfl
                  · simp only [if_true, Bool.true_and]; exact evO_eval hat (hlong true rfl) hz
                · simp at hv
              · simp at hv
            · simp at hv
          · simp at hv
        · rw [if_neg hc] at hput
          exact .inl ⟨by rw [hw]; simpa using hc, hput⟩
      · simp at h
    · simp at h

def psteps (P : Program) (ops : Array Oper) (n : Nat) : List Nat → Nat → List Sl → Option (List Sl)
  | [], _, E => some E
  | m :: ms, i, E => (match ops[i]? with
    | some o => (match pstep P ops n m o E with | some E' => psteps P ops n ms (i + 1) E' | none => none)
    | none => none)

theorem GL_psteps {d : Bool} {P : Program} {ops : Array Oper} {Q : Post} {n : Nat} {W0 : World} {H : List Grp} : ∀ (ms : List Nat) {i : Nat} {E E' : Env},
    psteps P ops n ms i E = some E' → GL d P ops (i + ms.length) Q n E' W0 H → GL d P ops i Q n E W0 H
  | [], i, E, E', h, k => by simp only [psteps, Option.some.injEq] at h; subst h; exact k
  | m :: ms, i, E, E', h, k => by
    simp only [psteps] at h
    split at h
    · rename_i o ho
      split at h
      · rename_i E1 h1
        have k' : GL d P ops (i + 1) Q n E1 W0 H := GL_psteps ms h (by rw [show i + 1 + ms.length = i + (m :: ms).length from by simp; omega]; exact k)
        have hi : i < ops.toList.length := by
          rcases Nat.lt_or_ge i ops.size with h | h
          · simpa using h
          · simp [Array.getElem?_eq_none h] at ho
        have hdrop : ops.toList.drop i = o :: ops.toList.drop (i + 1) := by
          rw [List.drop_eq_getElem_cons hi]
          congr 1
          have hi' : i < ops.size := by simpa using hi
          rw [Array.getElem?_eq_getElem hi'] at ho
          simpa using ho
        cases d with
        | true =>
          intro a ha
          rw [hdrop]
          unfold wpQuiet
          rcases pstep_sound h1 ha with ⟨hw, h2⟩ | ⟨hw, v, hv, h2⟩
          · rw [hw]; exact k' _ h2
          · rw [hw]; exact ⟨v, fun w _ => by unfold Oper.quietAt; rw [hv]; exact ⟨rfl, rfl⟩, k' _ h2⟩
        | false =>
          intro a w ha hs
          rw [hdrop]
          unfold wpList
          rcases pstep_sound h1 ha with ⟨hw, h2⟩ | ⟨hw, v, hv, h2⟩
          · rw [hw]; exact k' _ _ h2 hs
          · rw [hw]; exact .inl (by unfold Oper.wp; rw [hv]; exact k' _ _ h2 hs)
      · simp at h
    · simp at h

def Env.keep : List Nat → List Sl → List Sl
  | [], _ => []
  | t :: ts, E => (match Env.find E t with
    | some ⟨u, [], v⟩ => ⟨u, [], v⟩ :: Env.keep ts E
    | _ => Env.keep ts E)
theorem Env.keep_mem : ∀ (ts : List Nat) {E : Env} {s : Sl}, s ∈ Env.keep ts E → s ∈ E
  | [], E, s, h => by simp [Env.keep] at h
  | t :: ts, E, s, h => by
    simp only [Env.keep] at h
    split at h
    · rename_i u v hf
      rcases List.mem_cons.1 h with rfl | h
      · exact (Env.find_mem hf).1
      · exact Env.keep_mem ts h
    · exact Env.keep_mem ts h

/-- the end of a region -/
theorem GL_end {d : Bool} {P : Program} {ops : Array Oper} {i : Nat} {Q : Post} {n : Nat} {E : Env} {W0 : World} {H : List Grp}
    (hi : ops.size = i) (k : N Q .normal n E W0 H) : GL d P ops i Q n E W0 H := by
  have hdrop : ops.toList.drop i = [] := by rw [List.drop_eq_nil_of_le]; simp [hi]
  cases d with
  | true => intro a ha; rw [hdrop]; exact fun w' hs => k _ _ ha hs
  | false => intro a w ha hs; rw [hdrop]; exact k _ _ ha hs

theorem N_sub {Q : Post} {x : Exit} {n : Nat} {E E' : Env} {W0 : World} {H : List Grp} (ts : List Nat) (h : Env.keep ts E = E') (k : N Q x n E' W0 H) : N Q x n E W0 H :=
  fun a w ha hs => k a w (ha.sub (by subst h; intro s hs; exact Env.keep_mem _ hs)) hs
theorem G_sub {P : Program} {c : Code} {Q : Post} {n : Nat} {E E' : Env} {W0 : World} {H : List Grp} (ts : List Nat) (h : Env.keep ts E = E') (k : G P c Q n E' W0 H) : G P c Q n E W0 H :=
  fun a w ha hs => k a w (ha.sub (by subst h; intro s hs; exact Env.keep_mem _ hs)) hs

/-! ## control flow -/
theorem G_region {P : Program} {id : Nat} {ops : Array Oper} {Q : Post} {n : Nat} {E : Env} {W0 : World} {H : List Grp}
    (k : GL false P ops 0 Q n E W0 H) : G P (.region id ops false) Q n E W0 H :=
  fun a w ha hs => wp_region_list (by have := k a w ha hs; simpa using this)
theorem G_regionD {P : Program} {id : Nat} {ops : Array Oper} {Q : Post} {n : Nat} {E : Env} {W0 : World} {H : List Grp}
    (hm : P.follows .mixedOrders = true) (hB : Region.lexB .any ops = true) (k : GL true P ops 0 Q n E W0 H) : G P (.region id ops true) Q n E W0 H :=
  fun a w ha hs => wp_region_quiet (C := Sat W0 H) hm hB hs.drew (by have := k a ha; simpa using this)

/-- a whole region of pure operations, in whatever order -/
theorem G_pure {P : Program} {id : Nat} {ops : Array Oper} {Q : Post} {n : Nat} {E E' : Env} {W0 : World} {H : List Grp} (ms ts : List Nat)
    (hl : ops.size = ms.length) (h : (psteps P ops n ms 0 E).map (Env.keep ts) = some E') (k : N Q .normal n E' W0 H) : G P (.region id ops false) Q n E W0 H := by
  cases hp : psteps P ops n ms 0 E with
  | none => rw [hp] at h; simp at h
  | some E1 =>
    rw [hp] at h; simp only [Option.map_some, Option.some.injEq] at h
    exact G_region (GL_psteps ms hp (GL_end (by omega) (N_sub ts h k)))
theorem G_pureD {P : Program} {id : Nat} {ops : Array Oper} {Q : Post} {n : Nat} {E E' : Env} {W0 : World} {H : List Grp} (ms ts : List Nat)
    (hm : P.follows .mixedOrders = true) (hB : Region.lexB .any ops = true)
    (hl : ops.size = ms.length) (h : (psteps P ops n ms 0 E).map (Env.keep ts) = some E') (k : N Q .normal n E' W0 H) : G P (.region id ops true) Q n E W0 H := by
  cases hp : psteps P ops n ms 0 E with
  | none => rw [hp] at h; simp at h
  | some E1 =>
    rw [hp] at h; simp only [Option.map_some, Option.some.injEq] at h
    exact G_regionD hm hB (GL_psteps ms hp (GL_end (by omega) (N_sub ts h k)))
/-- a part of a region -/
theorem GL_pure {d : Bool} {P : Program} {ops : Array Oper} {i j : Nat} {Q : Post} {n : Nat} {E E' : Env} {W0 : World} {H : List Grp} (ms : List Nat)
    (h : psteps P ops n ms i E = some E') (hj : i + ms.length = j) (k : GL d P ops j Q n E' W0 H) : GL d P ops i Q n E W0 H :=
  GL_psteps ms h (by rw [hj]; exact k)
/-- the last part of a region -/
theorem GL_fin {d : Bool} {P : Program} {ops : Array Oper} {i : Nat} {Q : Post} {n : Nat} {E E' : Env} {W0 : World} {H : List Grp} (ms ts : List Nat)
    (hl : ops.size = i + ms.length) (h : (psteps P ops n ms i E).map (Env.keep ts) = some E') (k : N Q .normal n E' W0 H) : GL d P ops i Q n E W0 H := by
  cases hp : psteps P ops n ms i E with
  | none => rw [hp] at h; simp at h
  | some E1 =>
    rw [hp] at h; simp only [Option.map_some, Option.some.injEq] at h
    exact GL_psteps ms hp (GL_end hl (N_sub ts h k))

theorem G_seq {P : Program} {x y : Code} {Q : Post} {n : Nat} {E : Env} {W0 : World} {H : List Grp}
    (k : G P x (Exit.then (y.wp P Q) Q) n E W0 H) : G P (.seq x y) Q n E W0 H := fun a w ha hs => wp_seq (k a w ha hs)
theorem N_then {P : Program} {y : Code} {Q : Post} {n : Nat} {E : Env} {W0 : World} {H : List Grp} (k : G P y Q n E W0 H) : N (Exit.then (y.wp P Q) Q) .normal n E W0 H := k
theorem N_then_exit {K : Act → World → Prop} {Q : Post} {id n : Nat} {E : Env} {W0 : World} {H : List Grp} (k : N Q (.exit id) n E W0 H) : N (Exit.then K Q) (.exit id) n E W0 H := k
theorem N_then_ret {K : Act → World → Prop} {Q : Post} {n : Nat} {E : Env} {W0 : World} {H : List Grp} (k : N Q .ret n E W0 H) : N (Exit.then K Q) .ret n E W0 H := k
theorem N_block {Q : Post} {id n : Nat} {E : Env} {W0 : World} {H : List Grp} (k : N Q .normal n E W0 H) : N (Exit.inBlock id Q) .normal n E W0 H := k
theorem N_block_ret {Q : Post} {id n : Nat} {E : Env} {W0 : World} {H : List Grp} (k : N Q .ret n E W0 H) : N (Exit.inBlock id Q) .ret n E W0 H := k
theorem N_block_exit {Q : Post} {id n : Nat} {E : Env} {W0 : World} {H : List Grp} (k : N Q .normal n E W0 H) : N (Exit.inBlock id Q) (.exit id) n E W0 H :=
  fun a w ha hs => by simp only [Exit.inBlock, if_true]; exact k a w ha hs
theorem N_block_other {Q : Post} {id id' n : Nat} {E : Env} {W0 : World} {H : List Grp} (h : (id' == id) = false) (k : N Q (.exit id') n E W0 H) : N (Exit.inBlock id Q) (.exit id') n E W0 H :=
  fun a w ha hs => by simp only [Exit.inBlock]; rw [if_neg (by simpa using h)]; exact k a w ha hs
theorem G_block {P : Program} {id : Nat} {c : Code} {Q : Post} {n : Nat} {E : Env} {W0 : World} {H : List Grp} (k : G P c (Exit.inBlock id Q) n E W0 H) : G P (.block id c) Q n E W0 H :=
  fun a w ha hs => wp_block (k a w ha hs)
theorem G_skip {P : Program} {Q : Post} {n : Nat} {E : Env} {W0 : World} {H : List Grp} (k : N Q .normal n E W0 H) : G P .skip Q n E W0 H := fun a w ha hs => wp_skip (k a w ha hs)
theorem G_exit {P : Program} {id : Nat} {Q : Post} {n : Nat} {E : Env} {W0 : World} {H : List Grp} (k : N Q (.exit id) n E W0 H) : G P (.exit id) Q n E W0 H := fun a w ha hs => wp_exit (k a w ha hs)
theorem G_ret {P : Program} {Q : Post} {n : Nat} {E : Env} {W0 : World} {H : List Grp} (k : N Q .ret n E W0 H) : G P .ret Q n E W0 H := fun a w ha hs => wp_ret (k a w ha hs)

theorem Ag.eval {n : Nat} {E : Env} {a : Act} (ha : Ag n E a) {x : Operand} {v : Value} (h : evO E [] x = some v) : a.eval x = v := by
  obtain ⟨β, _, hat⟩ := ha.at_
  exact evO_eval (ch := []) hat (by simp [chT]) h

theorem G_cond {P : Program} {c : Operand} {x y : Code} {Q : Post} {n : Nat} {E : Env} {W0 : World} {H : List Grp} {b : Bool}
    (hc : evO E [] c = some (.bool b)) (ht : b = true → G P x Q n E W0 H) (hf : b = false → G P y Q n E W0 H) : G P (.cond c x y) Q n E W0 H :=
  fun a w ha hs => wp_cond_split (ha.eval hc) (fun h => ht h a w ha hs) (fun h => hf h a w ha hs)

theorem G_condt {P : Program} {c : Operand} {x y : Code} {Q : Post} {n : Nat} {E : Env} {W0 : World} {H : List Grp}
    (hc : evO E [] c = some (.bool true)) (k : G P x Q n E W0 H) : G P (.cond c x y) Q n E W0 H := fun a w ha hs => wp_cond_true (ha.eval hc) (k a w ha hs)
theorem G_condf {P : Program} {c : Operand} {x y : Code} {Q : Post} {n : Nat} {E : Env} {W0 : World} {H : List Grp}
    (hc : evO E [] c = some (.bool false)) (k : G P y Q n E W0 H) : G P (.cond c x y) Q n E W0 H := fun a w ha hs => wp_cond_false (ha.eval hc) (k a w ha hs)

/-- a loop: a family of frames and heaps -/
theorem G_loop {P : Program} {c : Code} {Q : Post} {n : Nat} {E : Env} {W0 : World} {H : List Grp} {σ : Type} (EI : σ → Env) (HI : σ → List Grp) (Φ : σ → Prop) (μ : σ → Nat)
    (s0 : σ) (ts : List Nat) (hE : Env.keep ts E = EI s0) (hH : H = HI s0) (h0 : Φ s0)
    (round : ∀ s, Φ s → G P c (Exit.then (fun a' w' => ∃ s', Φ s' ∧ μ s' < μ s ∧ Ag n (EI s') a' ∧ Sat W0 (HI s') w') Q) n (EI s) W0 (HI s)) : G P (.loop c) Q n E W0 H := by
  intro a w ha hs b k cs
  have ha' : Ag n (EI s0) a := ha.sub (by rw [← hE]; intro s hs; exact Env.keep_mem _ hs)
  have key : ∀ m s, μ s = m → Φ s → ∀ a w, Ag n (EI s) a → Sat W0 (HI s) w →
      ∃ e a' w', Q e a' w' ∧ Arrives P (lone (b.at a (.code c :: .inLoop c :: k)) cs w) b k cs e a' w' := by
    intro m
    induction m using Nat.strongRecOn with
    | _ m ih =>
      intro s hm hΦ a w ha hs
      obtain ⟨e, a₁, w₁, hq, harr⟩ := round s hΦ a w ha hs b (.inLoop c :: k) cs
      cases e with
      | normal =>
        obtain ⟨s', hΦ', hlt, ha', hs'⟩ := hq
        obtain ⟨e₂, a₂, w₂, hq₂, harr₂⟩ := ih (μ s') (hm ▸ hlt) s' rfl hΦ' a₁ w₁ ha' hs'
        exact ⟨e₂, a₂, w₂, hq₂, .of_steps (Steps.trans harr (.one step_inLoop)) harr₂⟩
      | exit id => exact ⟨_, a₁, w₁, hq, .pass (x := .inLoop c) rfl (fun _ _ => .inl (by simp)) harr⟩
      | goto l => exact ⟨_, a₁, w₁, hq, .pass (x := .inLoop c) rfl (fun _ _ => .inl (by simp)) harr⟩
      | ret => exact ⟨_, a₁, w₁, hq, .pass (x := .inLoop c) rfl (fun _ _ => .inl (by simp)) harr⟩
      | panic ch => exact ⟨_, a₁, w₁, hq, .pass (x := .inLoop c) rfl (fun _ _ => .inl (by simp)) harr⟩
      | outgrown => exact ⟨_, a₁, w₁, hq, .pass (x := .inLoop c) rfl (fun _ _ => .inl (by simp)) harr⟩
  obtain ⟨e, a', w', hq, harr⟩ := key _ s0 rfl h0 a w ha' (hH ▸ hs)
  exact ⟨e, a', w', hq, .of_steps (.one step_loop) harr⟩

/-- the end of a round: the next member of the family -/
theorem N_round {Q : Post} {n : Nat} {E : Env} {W0 : World} {H : List Grp} {σ : Type} {EI : σ → Env} {HI : σ → List Grp} {Φ : σ → Prop} {μ : σ → Nat} {s : σ}
    (s' : σ) (ts : List Nat) (hE : Env.keep ts E = EI s') (hH : H = HI s') (hΦ : Φ s') (hμ : μ s' < μ s) :
    N (Exit.then (fun a' w' => ∃ s', Φ s' ∧ μ s' < μ s ∧ Ag n (EI s') a' ∧ Sat W0 (HI s') w') Q) .normal n E W0 H :=
  fun a w ha hs => ⟨s', hΦ, hμ, ha.sub (by rw [← hE]; intro s hs; exact Env.keep_mem _ hs), hH ▸ hs⟩

/-! ## calls and contracts -/
/-- a contract: with the groups H over any base, the call returns, and what it leaves is told by R -/
def Tri (P : Program) (f : FuncId) (args : Array Value) (W0 : World) (H : List Grp) (R : Value → List Grp → Prop) : Prop :=
  ∀ w, Sat W0 H w → Calls P f args w fun e w' => ∃ v H', e = .returned v ∧ R v H' ∧ Sat W0 H' w'

theorem Tri.mono {P : Program} {f : FuncId} {args : Array Value} {W0 : World} {H : List Grp} {R R' : Value → List Grp → Prop} (h : Tri P f args W0 H R)
    (hr : ∀ v H', R v H' → R' v H') : Tri P f args W0 H R' :=
  fun w hs => (h w hs).mono fun _ _ ⟨v, H', he, hR, hs'⟩ => ⟨v, H', he, hr _ _ hR, hs'⟩

def Body (P : Program) (fn : Func) (W0 : World) (R : Value → List Grp → Prop) : Post :=
  bodyPost P fn fun e w' => ∃ v H', e = .returned v ∧ R v H' ∧ Sat W0 H' w'

def argEnv : Nat → List Value → List Sl
  | _, [] => []
  | i, v :: r => ⟨i, [], v⟩ :: argEnv (i + 1) r

theorem argEnv_mem : ∀ (vs : List Value) (i : Nat) (s : Sl), s ∈ argEnv i vs → s.ch = [] ∧ i ≤ s.t ∧ vs[s.t - i]? = some s.v
  | [], _, _, h => by simp [argEnv] at h
  | v :: r, i, s, h => by
    simp only [argEnv, List.mem_cons] at h
    rcases h with rfl | h
    · simp
    · obtain ⟨h1, h2, h3⟩ := argEnv_mem r (i + 1) s h
      refine ⟨h1, by omega, ?_⟩
      have : s.t - i = (s.t - (i + 1)) + 1 := by omega
      rw [this, List.getElem?_cons_succ]
      exact h3

theorem Tri_of {P : Program} {f : FuncId} {fn : Func} {c : Code} {args : List Value} {n : Nat} {W0 : World} {H : List Grp} {R : Value → List Grp → Prop}
    (hf : P.funcs[f]? = some fn) (hb : fn.body = some c) (hn : fn.ntmps = n) (hle : args.length ≤ n)
    (k : G P c (Body P fn W0 R) n (argEnv 0 args) W0 H) : Tri P f args.toArray W0 H R := by
  intro w hs
  refine calls_of_wp hf hb (k _ w ?_ hs)
  refine ⟨rfl, by simp [hn]; omega, fun u w => match args[u]? with | some v => boolOf v == some w | none => false, ?_, ?_⟩
  · intro s hs w
    obtain ⟨h1, h2, h3⟩ := argEnv_mem args 0 s hs
    simp only [Nat.sub_zero] at h3
    simp only [h3]
  · intro s hs
    obtain ⟨h1, h2, h3⟩ := argEnv_mem args 0 s hs
    simp only [Nat.sub_zero] at h3
    rw [h1]
    simp only [chT, List.all_nil, if_true]
    have hlt : s.t < args.length := by
      rcases Nat.lt_or_ge s.t args.length with h | h
      · exact h
      · simp [List.getElem?_eq_none h] at h3
    rw [Array.getElem?_append_left (by simpa using hlt)]
    simpa using h3

/-- a return: the results' slots -/
def resV (E : List Sl) : List ResultVar → Option (List Value)
  | [] => some []
  | .tmp t :: r => (match evT E [] t, resV E r with | some v, some l => some (v :: l) | _, _ => none)
  | _ :: _ => none
def packV : List Value → Value
  | [v] => v
  | l => .tuple l.toArray

def resOne (tmps : Array Value) : ResultVar → Sem Value
  | .tmp t => pure (tmps.getD t undef)
  | .cell a t => do loadVar t (← asAddr (tmps.getD a undef))
theorem resList_of {P : Program} {n : Nat} {E : Env} {a : Act} (ha : Ag n E a) (w : World) : ∀ (rs : List ResultVar) {l : List Value}, resV E rs = some l →
    (rs.mapM (resOne a.tmps)).run P w = .ok l w
  | [], l, h => by simp only [resV, Option.some.injEq] at h; subst h; rfl
  | .tmp t :: rs, l, h => by
    simp only [resV] at h
    split at h
    · rename_i v l' hv hl
      injection h with h; subst h
      have e : a.tmps.getD t undef = v := ha.eval (x := .tmp t) hv
      have ih := resList_of (P := P) ha w rs hl
      simp only [List.mapM_cons, Sem.run_bind, resOne, Sem.run_pure, Result.andThen_ok, e, ih]
    · simp at h
  | .cell b t :: rs, l, h => by simp [resV] at h

theorem results_eq (fn : Func) (tmps : Array Value) : results fn tmps = (fn.results.mapM (resOne tmps)) >>= fun vs => (pure (if h : vs.size = 1 then vs[0] else .tuple vs) : Sem Value) := rfl

theorem results_of {P : Program} {fn : Func} {n : Nat} {E : Env} {a : Act} (ha : Ag n E a) {rs : List ResultVar} {l : List Value} (h : resV E rs = some l)
    (hr : fn.results = rs.toArray) (w : World) : (results fn a.tmps).run P w = .ok (packV l) w := by
  have e2 := resList_of (P := P) ha w rs h
  have e3 : ((rs.toArray).mapM (resOne a.tmps)).run P w = .ok l.toArray w := by
    rw [Array.mapM_eq_mapM_toList, Sem.run_map, e2]; rfl
  rw [results_eq, hr, Sem.run_bind, e3]
  simp only [Result.andThen_ok, Sem.run_pure]
  congr 1
  cases l with
  | nil => rfl
  | cons v l => cases l with
    | nil => rfl
    | cons u l => simp [packV]

theorem N_ret {P : Program} {fn : Func} {n : Nat} {E : Env} {W0 : World} {H : List Grp} {R : Value → List Grp → Prop} {x : Exit} (rs : List ResultVar) (l : List Value)
    (hr : fn.results = rs.toArray) (h : resV E rs = some l) (hx : (match x with | .normal => true | .ret => true | _ => false) = true) (k : R (packV l) H) : N (Body P fn W0 R) x n E W0 H := by
  intro a w ha hs
  cases x <;> simp at hx
  · exact ⟨ha.defers, _, results_of ha h hr w, _, H, rfl, k, hs⟩
  · exact ⟨ha.defers, _, results_of ha h hr w, _, H, rfl, k, hs⟩

/-- a call of a named function, its operands known, in a region whose order is fixed -/
theorem GL_call {P : Program} {ops : Array Oper} {i : Nat} {Q : Post} {n : Nat} {E : Env} {W0 : World} {H : List Grp} {o : Oper} {ch : List (Nat × Bool)} {c : Call} {fo : Operand} {f : FuncId} {caps : Array Value} {fst : Array Value} {vs : List Value}
    {fn : Func} {R : Value → List Grp → Prop}
    (ho : ops[i]? = some o) (hop : o.op = .call c) (hce : c.callee = .value fo) (hfo : evO E ch fo = some (.func (.func f) fst caps)) (hargs : evL (evO E ch) c.args.toList = some vs)
    (hf : P.funcs[f]? = some fn) (hrt : (fn.name == "runtime.NumGoroutine") = false) (hbody : fn.body.isNone = false)
    (hch : chainOf ops E o.guard = some ch) (hd : dstOk n ch o.dst = true) (hsure : ∀ β : Nat → Bool → Bool, (∀ s, s ∈ E → ∀ w, β s.t w = (boolOf s.v == some w)) → chT β ch = true)
    (hc : Tri P f (fst ++ vs.toArray ++ caps) W0 H R)
    (k : ∀ v H', R v H' → GL false P ops (i + 1) Q n (Env.put E o.dst ch v) W0 H') : GL false P ops i Q n E W0 H := by
  have hi : i < ops.toList.length := by
    rcases Nat.lt_or_ge i ops.size with h | h
    · simpa using h
    · simp [Array.getElem?_eq_none h] at ho
  have hdrop : ops.toList.drop i = o :: ops.toList.drop (i + 1) := by
    rw [List.drop_eq_getElem_cons hi]
    congr 1
    have hi' : i < ops.size := by simpa using hi
    rw [Array.getElem?_eq_getElem hi'] at ho
    simpa using ho
  intro a w ha hs
  rw [hdrop]
  obtain ⟨β, hβ, hat⟩ := ha.at_
  have hcT := hsure β hβ
  have hw := wanted_chain hβ hat hch
  unfold wpList
  rw [hw, if_pos hcT]
  left
  have hrun : (execOp a.eval o).run P w = .ok (.enter f (fst ++ vs.toArray ++ caps)) w := by
    unfold execOp
    simp only [hop]
    simp only [resolve, hce]
    rw [evO_eval hat hcT hfo, arr_map (fun x v => evO_eval hat hcT) hargs]
    simp only [Deferred.ofValue, Sem.run_bind, Sem.run_pure, Result.andThen_ok, invoke, callFunc, run_program, hf, hrt, hbody, Bool.false_eq_true, if_false]
  unfold Oper.wp
  rw [hrun]
  refine (hc w hs).mono ?_
  rintro e w' ⟨v, H', rfl, hR, hs'⟩
  have hput := Ag.put ha hβ hat hd v
  rw [if_pos hcT] at hput
  exact k v H' hR _ _ hput hs'

/-- the same where nothing but a value comes of it, in whatever order, guarded or not -/
theorem GL_callQ {d : Bool} {P : Program} {ops : Array Oper} {i : Nat} {Q : Post} {n : Nat} {E : Env} {W0 : World} {H : List Grp} {o : Oper} {ch : List (Nat × Bool)} {c : Call} {fo : Operand} {f : FuncId} {caps : Array Value} {fst : Array Value} {vs : List Value}
    {fn : Func} {v : Value}
    (ho : ops[i]? = some o) (hop : o.op = .call c) (hce : c.callee = .value fo) (hfo : evO E ch fo = some (.func (.func f) fst caps)) (hargs : evL (evO E ch) c.args.toList = some vs)
    (hf : P.funcs[f]? = some fn) (hrt : (fn.name == "runtime.NumGoroutine") = false) (hbody : fn.body.isNone = false)
    (hch : chainOf ops E o.guard = some ch) (hd : dstOk n ch o.dst = true) (hk : chKnown E ch = true)
    (hc : chB E ch → Tri P f (fst ++ vs.toArray ++ caps) W0 H (fun u H' => u = v ∧ H' = H))
    (k : GL d P ops (i + 1) Q n (Env.put E o.dst ch v) W0 H) : GL d P ops i Q n E W0 H := by
  refine GL_quiet ho hch hd hk (fun r hr hcb w hs => ?_) k
  have hrun : (execOp r o).run P w = .ok (.enter f (fst ++ vs.toArray ++ caps)) w := by
    unfold execOp
    simp only [hop]
    simp only [resolve, hce]
    rw [hr _ _ hfo, arr_map hr hargs]
    simp only [Deferred.ofValue, Sem.run_bind, Sem.run_pure, Result.andThen_ok, invoke, callFunc, run_program, hf, hrt, hbody, Bool.false_eq_true, if_false]
  rw [hrun]
  refine ⟨rfl, (hc hcb w hs).mono ?_⟩
  rintro e w' ⟨u, H', rfl, ⟨rfl, rfl⟩, hs'⟩
  exact ⟨rfl, hs'⟩

/-- what must hold is seen on the frame -/
def chSure (E : List Sl) (ch : List (Nat × Bool)) : Bool := ch.all fun p => match Env.find E p.1 with
  | some s => (match s.v, p.2 with | .bool true, true => true | .bool false, false => true | _, _ => false)
  | none => false
theorem chSure_of {E : Env} {ch : List (Nat × Bool)} (h : chSure E ch = true) (β : Nat → Bool → Bool) (hβ : ∀ s, s ∈ E → ∀ w, β s.t w = (boolOf s.v == some w)) : chT β ch = true := by
  unfold chT
  rw [List.all_eq_true]
  intro p hp
  have := List.all_eq_true.1 h p hp
  split at this
  · rename_i s hs
    obtain ⟨hm, ht⟩ := Env.find_mem hs
    rw [← ht, hβ s hm]
    split at this <;> rename_i hv hw <;> simp_all [boolOf]
  · simp at this

/-! ## numbers -/
theorem w64 {x : Int} (h0 : -9223372036854775808 ≤ x) (h1 : x ≤ 9223372036854775807) : IntKind.wrap .i64 x = x := by
  simp only [IntKind.wrap, IntKind.bits, IntKind.signed]
  simp only [show (2 : Int) ^ 64 = 18446744073709551616 from by decide, show (2 : Int) ^ (64 - 1) = 9223372036854775808 from by decide]
  split <;> rename_i h <;> simp at h <;> omega
theorem q64 {x y : Int} (h0 : 0 ≤ x) (h1 : x ≤ 9223372036854775807) (hy : 0 < y) : IntKind.wrap .i64 (Int.tdiv x y) = x / y := by
  rw [Int.tdiv_eq_ediv_of_nonneg h0]
  have := Int.ediv_nonneg h0 (Int.le_of_lt hy)
  have := Int.ediv_le_self y h0
  exact w64 (by omega) (by omega)
theorem r64 {x y : Int} (h0 : 0 ≤ x) : Int.tmod x y = x % y := Int.tmod_eq_emod_of_nonneg h0

/-! ## partial operations -/
def byteAt (s : ByteArray) (i : Int) : Int := (((s.data.toList)[i.toNat]?.getD 0).toNat : Int)

theorem byteAt_rng (s : ByteArray) (i : Int) : 0 ≤ byteAt s i ∧ byteAt s i < 256 := by
  unfold byteAt
  have := UInt8.toNat_lt ((s.data.toList)[i.toNat]?.getD 0)
  omega

theorem GL_index {d : Bool} {P : Program} {ops : Array Oper} {i : Nat} {Q : Post} {n : Nat} {E : Env} {W0 : World} {H : List Grp} {o : Oper} {ch : List (Nat × Bool)} {t : TypeId} {x ix : Operand} {s : ByteArray} {kd : IntKind} {j : Int}
    (ho : ops[i]? = some o) (hop : o.op = .index t x ix) (hx : evO E ch x = some (.string s)) (hix : evO E ch ix = some (.int kd j)) (hu : P.underlying t = some .string)
    (hch : chainOf ops E o.guard = some ch) (hd : dstOk n ch o.dst = true) (hk : chKnown E ch = true)
    (hb : chB E ch → 0 ≤ j ∧ j < s.size)
    (k : GL d P ops (i + 1) Q n (Env.put E o.dst ch (.int .u8 (byteAt s j))) W0 H) : GL d P ops i Q n E W0 H := by
  refine GL_quiet ho hch hd hk (fun r hr hcb w _ => ?_) k
  obtain ⟨h0, h1⟩ := hb hcb
  have hlt : j.toNat < s.size := by omega
  have e : s[j.toNat]? = some s[j.toNat] := by simp [getElem?_pos, hlt]
  have e2 : ((s[j.toNat] : UInt8).toNat : Int) = byteAt s j := by
    unfold byteAt
    have : (s.data.toList)[j.toNat]? = some s[j.toNat] := by
      rw [List.getElem?_eq_getElem (by simpa using hlt)]; rfl
    rw [this]; rfl
  unfold execOp
  simp only [hop]
  rw [hr _ _ hx, hr _ _ hix]
  simp only [Instr.index, asIntOf, Sem.run_bind, run_underlying hu, Sem.run_pure, Result.andThen_ok, if_pos h0, e, e2]
  exact ⟨rfl, rfl⟩

/-- bounds of a slice expression -/
def loV : Option Value → Option Int
  | none => some 0
  | some (.int _ n) => some n
  | _ => none
def hiV (len : Int) : Option Value → Option Int
  | none => some len
  | some (.int _ n) => some n
  | _ => none
def evOO (ρ : Operand → Option Value) : Option Operand → Option (Option Value)
  | none => some none
  | some x => (match ρ x with | some v => some (some v) | none => none)

theorem run_sliceBound {P : Program} {x : Value} {y : Nat} {code : BoundsCode} {kd : IntKind} {n : Int} (hx : x = .int kd n) (h0 : 0 ≤ n) (h1 : n ≤ y) (w : World) : (Instr.sliceBound x y code).run P w = .ok n.toNat w := by
  subst hx
  simp [Instr.sliceBound, asIntOf, h0, h1]

theorem run_sliceBounds {P : Program} {isSlice : Bool} {len cap : Nat} {lo hi : Option Value} {l h : Int} (hl : loV lo = some l) (hh : hiV len hi = some h)
    (h0 : 0 ≤ l) (h1 : l ≤ h) (h2 : h ≤ cap) (w : World) : (Instr.sliceBounds isSlice len cap lo hi none).run P w = .ok (l.toNat, h.toNat, cap) w := by
  have hhi : (match hi with | some v => Instr.sliceBound v cap (if isSlice then .sliceAcap else .sliceAlen) | none => (pure len : Sem Nat)).run P w = .ok h.toNat w := by
    cases hi with
    | none => simp only [hiV, Option.some.injEq] at hh; subst hh; rfl
    | some v =>
      cases v <;> simp only [hiV, Option.some.injEq, reduceCtorEq] at hh
      subst hh
      exact run_sliceBound rfl (by omega) h2 w
  have hlo : (match lo with | some v => Instr.sliceBound v h.toNat .sliceB | none => (pure 0 : Sem Nat)).run P w = .ok l.toNat w := by
    cases lo with
    | none => simp only [loV, Option.some.injEq] at hl; subst hl; rfl
    | some v =>
      cases v <;> simp only [loV, Option.some.injEq, reduceCtorEq] at hl
      subst hl
      exact run_sliceBound rfl h0 (by omega) w
  unfold Instr.sliceBounds
  cases hi with
  | none =>
    simp only [Sem.run_bind, Sem.run_pure, Result.andThen_ok] at hhi ⊢
    injection hhi with hhi
    subst hhi
    cases lo with
    | none => simp only [Sem.run_bind, Sem.run_pure, Result.andThen_ok] at hlo ⊢; injection hlo with hlo; rw [← hlo]
    | some v => simp only [Option.isSome_none, Bool.false_eq_true, if_false, Sem.run_bind] at hlo ⊢; rw [hlo]; rfl
  | some u =>
    simp only [Sem.run_bind, Sem.run_pure, Result.andThen_ok] at hhi ⊢
    rw [hhi]
    simp only [Result.andThen_ok]
    cases lo with
    | none => simp only [Sem.run_bind, Sem.run_pure, Result.andThen_ok] at hlo ⊢; injection hlo with hlo; rw [← hlo]
    | some v => simp only [Option.isSome_none, Bool.false_eq_true, if_false, Sem.run_bind] at hlo ⊢; rw [hlo]; rfl

/-- 's[l:h]' of a string -/
theorem GL_sliceS {d : Bool} {P : Program} {ops : Array Oper} {i : Nat} {Q : Post} {n : Nat} {E : Env} {W0 : World} {H : List Grp} {o : Oper} {ch : List (Nat × Bool)} {t : TypeId} {x : Operand} {lo hi : Option Operand} {s : ByteArray} {vl vh : Option Value} {l h : Int}
    (ho : ops[i]? = some o) (hop : o.op = .slice t x lo hi none) (hx : evO E ch x = some (.string s)) (hvl : evOO (evO E ch) lo = some vl) (hvh : evOO (evO E ch) hi = some vh) (hu : P.underlying t = some .string)
    (hl : loV vl = some l) (hh : hiV s.size vh = some h)
    (hch : chainOf ops E o.guard = some ch) (hd : dstOk n ch o.dst = true) (hk : chKnown E ch = true)
    (hb : chB E ch → 0 ≤ l ∧ l ≤ h ∧ h ≤ s.size)
    (k : GL d P ops (i + 1) Q n (Env.put E o.dst ch (.string (s.extract l.toNat h.toNat))) W0 H) : GL d P ops i Q n E W0 H := by
  refine GL_quiet ho hch hd hk (fun r hr hcb w _ => ?_) k
  obtain ⟨h0, h1, h2⟩ := hb hcb
  have hm : ∀ {y : Option Operand} {v : Option Value}, evOO (evO E ch) y = some v → y.map r = v := by
    intro y v hv
    cases y with
    | none => simp only [evOO, Option.some.injEq] at hv; subst hv; rfl
    | some y =>
      simp only [evOO] at hv
      split at hv
      · rename_i u hu; injection hv with hv; subst hv; simp [hr _ _ hu]
      · simp at hv
  unfold execOp
  simp only [hop]
  rw [hr _ _ hx, hm hvl, hm hvh]
  simp only [Instr.sliceAt, Instr.slice, Sem.run_bind, run_underlying hu, Result.andThen_ok, Option.map_none, Option.isSome_none, Bool.false_eq_true, if_false,
    run_sliceBounds (P := P) (isSlice := false) hl hh h0 h1 h2, Sem.run_pure]
  exact ⟨rfl, rfl⟩

/-- 's + t' -/
theorem GL_concat {d : Bool} {P : Program} {ops : Array Oper} {i : Nat} {Q : Post} {n : Nat} {E : Env} {W0 : World} {H : List Grp} {o : Oper} {ch : List (Nat × Bool)} {t t2 : TypeId} {x y : Operand} {s u : ByteArray}
    (ho : ops[i]? = some o) (hop : o.op = .binOp .add t x y t2) (hx : evO E ch x = some (.string s)) (hy : evO E ch y = some (.string u))
    (hch : chainOf ops E o.guard = some ch) (hd : dstOk n ch o.dst = true) (hk : chKnown E ch = true)
    (hb : chB E ch → s.size + u.size ≤ 9223372036854775807)
    (k : GL d P ops (i + 1) Q n (Env.put E o.dst ch (.string (s ++ u))) W0 H) : GL d P ops i Q n E W0 H := by
  refine GL_quiet ho hch hd hk (fun r hr hcb w _ => ?_) k
  have h0 := hb hcb
  have h1 : ¬ (((s.size + u.size : Nat) : Int) > IntKind.i64.max) := by
    have : IntKind.i64.max = 9223372036854775807 := by decide
    rw [this]; omega
  unfold execOp
  simp only [hop]
  rw [hr _ _ hx, hr _ _ hy]
  simp only [eqGuard, Sem.run_bind, binOp, Op.stringOp, if_neg h1]
  exact ⟨rfl, rfl⟩

end Go.Sw
