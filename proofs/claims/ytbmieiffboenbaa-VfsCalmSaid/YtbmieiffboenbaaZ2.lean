/- The walks of Sync, SyncDir, Remove, Rename. Conditions: the numbers are ints; what the blocks hold is told. (and what it stands on) -/
import Derived.Test.YtbmieiffboenbaaZ1
import Derived.OrdersHeld
import Derived.Laws.IdiomStrings
namespace Go.Sw

theorem chB_hd {E : List Sl} {t : Nat} {w b : Bool} {r c : List (Nat × Bool)} (h : chB E ((t, w) :: r)) (hf : Env.find E t = some ⟨t, c, .bool b⟩) : b = w := by
  have h1 := h.1
  rw [hf] at h1
  exact h1
theorem chB_tl {E : List Sl} {p : Nat × Bool} {r : List (Nat × Bool)} (h : chB E (p :: r)) : chB E r := h.2

def Qn (K : Act → World → Prop) : Post := fun x a w => x = .normal ∧ K a w

theorem wp_swap {P : Program} {o : Oper} {a : Act} {w : World} {K1 K A B : Act → World → Prop} (h : ∀ a w, K1 a w → K a w)
    (hh : o.wp P a w K1 (Qn A)) : o.wp P a w K (Qn B) := by
  unfold Oper.wp at *
  generalize (execOp a.eval o).run P w = r at *
  cases r with
  | ok n w' =>
    cases n <;> simp only [Oper.upon] at hh ⊢ <;>
      first
        | exact h _ _ hh
        | exact Calls.mono hh (fun e w'' he => by
            cases e
            · exact h _ _ he
            · exact absurd he.1 (by intro h; cases h)
            · obtain ⟨_, _, h1, _⟩ := he; cases h1)
        | exact Rows.mono hh (fun _ _ he => h _ _ he)
  | halt x w' => cases x <;> simp only [Oper.upon] at hh ⊢ <;> first | exact hh | exact absurd hh.1 (by intro h; cases h)

def cutOps (ops : Array Oper) (i : Nat) : Array Oper := (ops.toList.take (i + 1)).toArray
def guardBefore (ops : Array Oper) (i : Nat) : Bool := match ops[i]? with | some o => (match o.guard with | some (j, _) => decide (j ≤ i) | none => true) | none => false

theorem cutOps_get {ops : Array Oper} {i j : Nat} (h : j ≤ i) : (cutOps ops i)[j]? = ops[j]? := by
  rw [cutOps, List.getElem?_toArray, List.getElem?_take, if_pos (by omega), Array.getElem?_toList]
theorem cut_drop {ops : Array Oper} {i : Nat} {o : Oper} (h : ops[i]? = some o) : (cutOps ops i).toList.drop i = [o] := by
  have hi : i < ops.toList.length := by
    rcases Nat.lt_or_ge i ops.size with h' | h'
    · simpa using h'
    · simp [Array.getElem?_eq_none h'] at h
  have e : ops.toList[i]? = some o := by rw [Array.getElem?_toList]; exact h
  rw [List.getElem?_eq_getElem hi] at e
  injection e with e
  unfold cutOps
  rw [List.toList_toArray, List.take_succ_eq_append_getElem hi, e, List.drop_append_of_le_length (by rw [List.length_take]; omega), List.drop_eq_nil_of_le (by rw [List.length_take]; omega)]
  rfl
theorem cut_wanted {ops : Array Oper} {i : Nat} {o : Oper} (h : ops[i]? = some o) (hg : guardBefore ops i = true) (tmps : Array Value) :
    Region.wanted o (yielded (cutOps ops i) tmps) = Region.wanted o (yielded ops tmps) := by
  unfold guardBefore at hg
  rw [h] at hg
  unfold Region.wanted
  cases hgd : o.guard with
  | none => rfl
  | some p =>
    obtain ⟨j, b⟩ := p
    simp only [hgd, decide_eq_true_eq] at hg
    simp only [yielded, cutOps_get hg]

def noCall (o : Oper) : Bool := match o.op with
  | .move _ | .assign _ | .pick .. | .load .. | .binOp .. | .unOp .. | .convert .. | .makeInterface .. | .makeFunc .. | .slice .. | .fieldAddr .. | .field .. | .indexAddr .. | .index .. | .lookup .. | .extract .. | .build .. => true
  | _ => false

def GH (P : Program) (ops : Array Oper) (L : List Grp) (fuel : Nat) (listed : Array Bool) (Q : Post) (n : Nat) (E : Env) (W0 : World) (H : List Grp) : Prop :=
  ∀ a w, Ag n E a → Sat W0 H w → wpAnyH P .any ops (Qn (Q .normal)) (Sat W0 L) fuel listed a w

theorem G_regionH {P : Program} {id : Nat} {ops : Array Oper} {Q : Post} {n : Nat} {E : Env} {W0 : World} {H : List Grp} (L : List Grp)
    (hm : P.follows .mixedOrders = true) (k : GH P ops L ops.size (Array.replicate ops.size false) Q n E W0 H) : G P (.region id ops true) Q n E W0 H := by
  intro a w ha hs
  refine Code.wp_mono (Q := Qn (Q .normal)) (fun e a w h => ?_) (wp_region_held hm (k a _ ha hs.drew))
  obtain ⟨rfl, h⟩ := h
  exact h

theorem GH_more {P : Program} {ops : Array Oper} {L : List Grp} (L' : List Grp) {fuel : Nat} {listed : Array Bool} {Q : Post} {n : Nat} {E : Env} {W0 : World} {H : List Grp}
    (hL : ∀ w, Sat W0 L' w → Sat W0 L w) (k : GH P ops L' fuel listed Q n E W0 H) : GH P ops L fuel listed Q n E W0 H := by
  have mono : ∀ fuel listed a w, wpAnyH P .any ops (Qn (Q .normal)) (Sat W0 L') fuel listed a w → wpAnyH P .any ops (Qn (Q .normal)) (Sat W0 L) fuel listed a w := by
    intro fuel
    induction fuel with
    | zero => exact fun _ _ _ h => h
    | succ fuel ih => exact fun listed a w h => ⟨h.1, fun i hi => wpOp_mono (fun a' w' h' => ⟨hL _ h'.1, ih _ _ _ h'.2⟩) (h.2 i hi)⟩
  exact fun a w ha hs => mono _ _ _ _ (k a w ha hs)

theorem GH_done {P : Program} {ops : Array Oper} {L : List Grp} {fuel : Nat} {listed : Array Bool} {Q : Post} {n : Nat} {E E' : Env} {W0 : World} {H : List Grp} (ts : List Nat)
    (hr : Region.ready .any ops listed = []) (hk : Env.keep ts E = E') (k : N Q .normal n E' W0 H) : GH P ops L fuel listed Q n E W0 H :=
  fun a w ha hs => wpAnyH_done hr ⟨rfl, N_sub ts hk k a w ha hs⟩ fuel

theorem GH_wpOp {P : Program} {ops : Array Oper} {L : List Grp} {fuel : Nat} {listed : Array Bool} {Q : Post} {n : Nat} {E : Env} {W0 : World} {H : List Grp} (i : Nat)
    (hi : (ops[i]?).isSome = true) (hg : guardBefore ops i = true)
    (k : GL false P (cutOps ops i) i (Qn fun a w => Sat W0 L w ∧ wpAnyH P .any ops (Qn (Q .normal)) (Sat W0 L) fuel (listed.setIfInBounds i true) a w) n E W0 H) {a : Act} {w : World} (ha : Ag n E a) (hs : Sat W0 H w) :
    wpOp P ops (Qn (Q .normal)) i (fun a w => Sat W0 L w ∧ wpAnyH P .any ops (Qn (Q .normal)) (Sat W0 L) fuel (listed.setIfInBounds i true) a w) a w := by
  obtain ⟨o, ho⟩ := Option.isSome_iff_exists.1 hi
  have h1 := k a w ha hs
  rw [cut_drop ho] at h1
  unfold wpOp
  simp only [ho]
  unfold wpList at h1
  rw [cut_wanted ho hg] at h1
  split
  · rename_i hw
    rw [if_pos hw] at h1
    rcases h1 with h1 | ⟨_, _, _, h1, _⟩
    · exact .inl (wp_swap (fun a w h => h.2) h1)
    · cases h1
  · rename_i hw
    rw [if_neg hw] at h1
    exact h1.2
/-- the one operation that may come up; what it does is said by the rules for a fixed order -/
theorem GH_eff {P : Program} {ops : Array Oper} {L : List Grp} {fuel : Nat} {listed : Array Bool} {Q : Post} {n : Nat} {E : Env} {W0 : World} {H : List Grp} (i : Nat)
    (hr : Region.ready .any ops listed = [i]) (hi : (ops[i]?).isSome = true) (hg : guardBefore ops i = true)
    (k : GL false P (cutOps ops i) i (Qn fun a w => Sat W0 L w ∧ wpAnyH P .any ops (Qn (Q .normal)) (Sat W0 L) fuel (listed.setIfInBounds i true) a w) n E W0 H) :
    GH P ops L (fuel + 1) listed Q n E W0 H := by
  intro a w ha hs
  refine wpAnyH_all hr (by simp) (fun j hj => ?_)
  have hji : j = i := by simpa using hj
  subst hji
  exact GH_wpOp j hi hg k ha hs
/-- one of two that may come up -/
theorem GH_eff2 {P : Program} {ops : Array Oper} {L : List Grp} {fuel : Nat} {listed : Array Bool} {Q : Post} {n : Nat} {E : Env} {W0 : World} {H : List Grp} (i i' : Nat)
    (hr : Region.ready .any ops listed = [i, i']) (hi : (ops[i]?).isSome = true) (hg : guardBefore ops i = true) (hi' : (ops[i']?).isSome = true) (hg' : guardBefore ops i' = true)
    (k : GL false P (cutOps ops i) i (Qn fun a w => Sat W0 L w ∧ wpAnyH P .any ops (Qn (Q .normal)) (Sat W0 L) fuel (listed.setIfInBounds i true) a w) n E W0 H)
    (k' : GL false P (cutOps ops i') i' (Qn fun a w => Sat W0 L w ∧ wpAnyH P .any ops (Qn (Q .normal)) (Sat W0 L) fuel (listed.setIfInBounds i' true) a w) n E W0 H) :
    GH P ops L (fuel + 1) listed Q n E W0 H := by
  intro a w ha hs
  refine wpAnyH_all hr (by simp) (fun j hj => ?_)
  have hji : j = i ∨ j = i' := by simpa using hj
  rcases hji with rfl | rfl
  · exact GH_wpOp j hi hg k ha hs
  · exact GH_wpOp j hi' hg' k' ha hs

/-- one of three that may come up -/
theorem GH_eff3 {P : Program} {ops : Array Oper} {L : List Grp} {fuel : Nat} {listed : Array Bool} {Q : Post} {n : Nat} {E : Env} {W0 : World} {H : List Grp} (i i' i2 : Nat)
    (hr : Region.ready .any ops listed = [i, i', i2]) (hi : (ops[i]?).isSome = true) (hg : guardBefore ops i = true) (hi' : (ops[i']?).isSome = true) (hg' : guardBefore ops i' = true) (hi2 : (ops[i2]?).isSome = true) (hg2 : guardBefore ops i2 = true)
    (k : GL false P (cutOps ops i) i (Qn fun a w => Sat W0 L w ∧ wpAnyH P .any ops (Qn (Q .normal)) (Sat W0 L) fuel (listed.setIfInBounds i true) a w) n E W0 H)
    (k' : GL false P (cutOps ops i') i' (Qn fun a w => Sat W0 L w ∧ wpAnyH P .any ops (Qn (Q .normal)) (Sat W0 L) fuel (listed.setIfInBounds i' true) a w) n E W0 H)
    (k2 : GL false P (cutOps ops i2) i2 (Qn fun a w => Sat W0 L w ∧ wpAnyH P .any ops (Qn (Q .normal)) (Sat W0 L) fuel (listed.setIfInBounds i2 true) a w) n E W0 H) :
    GH P ops L (fuel + 1) listed Q n E W0 H := by
  intro a w ha hs
  refine wpAnyH_all hr (by simp) (fun j hj => ?_)
  have hji : j = i ∨ j = i' ∨ j = i2 := by simpa using hj
  rcases hji with rfl | rfl | rfl
  · exact GH_wpOp j hi hg k ha hs
  · exact GH_wpOp j hi' hg' k' ha hs
  · exact GH_wpOp j hi2 hg2 k2 ha hs

theorem GH_back {P : Program} {ops : Array Oper} {L : List Grp} {fuel : Nat} {listed : Array Bool} {Q : Post} {n : Nat} {E : Env} {W0 : World} {H : List Grp} {i j : Nat}
    (hi : (cutOps ops i).size = j) (hL : ∀ w, Sat W0 H w → Sat W0 L w) (k : GH P ops L fuel listed Q n E W0 H) :
    GL false P (cutOps ops i) j (Qn fun a w => Sat W0 L w ∧ wpAnyH P .any ops (Qn (Q .normal)) (Sat W0 L) fuel listed a w) n E W0 H :=
  GL_end hi (fun a w ha hs => ⟨rfl, hL w hs, k a w ha hs⟩)

def valueM (m : Sem Value) : Sem Next := m >>= fun v => pure (.value v)
theorem valueM_run {P : Program} {m : Sem Value} {w w' : World} {x : Next} (h : (valueM m).run P w = .ok x w') : ∃ v, x = .value v := by
  unfold valueM at h
  rw [Sem.run_bind] at h
  generalize m.run P w = r at h
  cases r with
  | ok v w1 => simp only [Result.andThen_ok, Sem.run_pure] at h; injection h with h; exact ⟨v, h.symm⟩
  | halt x w1 => simp [Result.andThen] at h
theorem bindV_run {P : Program} {α : Type} {m : Sem α} {f : α → Value} {w w' : World} {x : Next} (h : (m >>= fun b => pure (Next.value (f b))).run P w = .ok x w') : ∃ v, x = .value v := by
  rw [Sem.run_bind] at h
  generalize m.run P w = r at h
  cases r with
  | ok v w1 => simp only [Result.andThen_ok, Sem.run_pure] at h; injection h with h; exact ⟨_, h.symm⟩
  | halt x w1 => simp [Result.andThen] at h
theorem noCall_value {P : Program} {o : Oper} (hn : noCall o = true) {r : Operand → Value} {C : World → Prop} {w : World} {v : Value}
    (h : Oper.quietUpon P C w v ((execOp r o).run P w)) : (execOp r o).run P w = .ok (.value v) w := by
  have key : ∀ x w', (execOp r o).run P w = .ok x w' → ∃ v, x = .value v := by
    intro x w' he
    unfold noCall at hn
    cases hop : o.op <;> rw [hop] at hn <;> simp only [Bool.false_eq_true] at hn
    all_goals (unfold execOp at he; simp only [hop] at he)
    all_goals first
      | exact valueM_run (m := _) he
      | (simp only [Sem.run_pure] at he; injection he with he; exact ⟨_, he.symm⟩)
      | exact bindV_run he
  generalize hr : (execOp r o).run P w = res at h ⊢
  cases res with
  | ok x w' =>
    obtain ⟨u, rfl⟩ := key x w' hr
    simp only [Oper.quietUpon] at h
    obtain ⟨rfl, rfl⟩ := h
    rfl
  | halt x w' => simp [Oper.quietUpon] at h

/-- one that reads only what stays is taken first -/
theorem GH_take {P : Program} {ops : Array Oper} {L : List Grp} {fuel : Nat} {listed : Array Bool} {Q : Post} {n : Nat} {E E' : Env} {W0 : World} {H : List Grp} (i : Nat)
    (hi : (match ops[i]? with | some o => noCall o | none => false) = true) (hg : guardBefore ops i = true) (hs : Region.noSelect ops = true) (hf : Region.free .any ops listed i = true)
    (hr : (Region.ready .any ops listed).contains i = true) (hL : ∀ w, Sat W0 H w → Sat W0 L w)
    (hy : GL true P (cutOps ops i) i (fun _ a _ => Ag n E' a) n E W0 L)
    (k : GH P ops L fuel (listed.setIfInBounds i true) Q n E' W0 H) : GH P ops L (fuel + 1) listed Q n E W0 H := by
  intro a w ha hsat
  cases ho : ops[i]? with
  | none => rw [ho] at hi; simp at hi
  | some o =>
    rw [ho] at hi
    have hSw := hL w hsat
    have h1 := hy a ha
    rw [cut_drop ho] at h1
    unfold wpQuiet at h1
    rw [cut_wanted ho hg] at h1
    by_cases hw : Region.wanted o (yielded ops a.tmps) = true
    · rw [if_pos hw] at h1
      obtain ⟨v, h2, h3⟩ := h1
      exact wpAnyH_take (v := v) ho hs hf hr (fun c a w h => absurd h.1 (by intro h; cases h)) (.inl ⟨hw, fun w' hw' => noCall_value hi (h2 w' hw')⟩) hSw (k _ w (h3 w hSw) hsat)
    · rw [if_neg hw] at h1
      exact wpAnyH_take (v := undef) ho hs hf hr (fun c a w h => absurd h.1 (by intro h; cases h)) (.inr ⟨by simpa using hw, rfl⟩) hSw (k _ w (h1 w hSw) hsat)
/-- a check of a pointer that is none of the nil ones is taken first -/
theorem GH_nil {P : Program} {ops : Array Oper} {L : List Grp} {fuel : Nat} {listed : Array Bool} {Q : Post} {n : Nat} {E : Env} {W0 : World} {H : List Grp} {o : Oper} {x : Operand} {ad : Addr} (i : Nat)
    (ho : ops[i]? = some o) (hop : o.op = .nilCheck x) (hgd : o.guard = none) (hx : evO E [] x = some (.pointer (some ad))) (hd : dstOk n [] o.dst = true)
    (hs : Region.noSelect ops = true) (hf : Region.free .any ops listed i = true)
    (hr : (Region.ready .any ops listed).contains i = true) (hL : ∀ w, Sat W0 H w → Sat W0 L w)
    (k : GH P ops L fuel (listed.setIfInBounds i true) Q n (Env.put E o.dst [] (.pointer (some ad))) W0 H) : GH P ops L (fuel + 1) listed Q n E W0 H := by
  intro a w ha hsat
  obtain ⟨β, hβ, hat⟩ := ha.at_
  have hv : a.eval x = .pointer (some ad) := evO_eval hat rfl hx
  have hw : Region.wanted o (yielded ops a.tmps) = true := by unfold Region.wanted; rw [hgd]
  have hput : Ag n (Env.put E o.dst [] (.pointer (some ad))) (a.put o.dst (.pointer (some ad))) := by
    have := ha.put hβ hat hd (.pointer (some ad))
    simpa [chT] using this
  refine wpAnyH_take (v := .pointer (some ad)) ho hs hf hr (fun c a w h => absurd h.1 (by intro h; cases h)) (.inl ⟨hw, fun w' _ => ?_⟩) (hL w hsat) (k _ w hput hsat)
  unfold execOp
  simp only [hop, hv]
  rfl
/-- a pure one (a length, the greater of two) is taken first -/
theorem GH_pev {P : Program} {ops : Array Oper} {L : List Grp} {fuel : Nat} {listed : Array Bool} {Q : Post} {n : Nat} {E : Env} {W0 : World} {H : List Grp} {o : Oper} {v : Value} (i : Nat)
    (ho : ops[i]? = some o) (hgd : o.guard = none) (hp : pev P (evO E []) o.op = some v) (hd : dstOk n [] o.dst = true)
    (hs : Region.noSelect ops = true) (hf : Region.free .any ops listed i = true)
    (hr : (Region.ready .any ops listed).contains i = true) (hL : ∀ w, Sat W0 H w → Sat W0 L w)
    (k : GH P ops L fuel (listed.setIfInBounds i true) Q n (Env.put E o.dst [] v) W0 H) : GH P ops L (fuel + 1) listed Q n E W0 H := by
  intro a w ha hsat
  obtain ⟨β, hβ, hat⟩ := ha.at_
  have hw : Region.wanted o (yielded ops a.tmps) = true := by unfold Region.wanted; rw [hgd]
  have hput : Ag n (Env.put E o.dst [] v) (a.put o.dst v) := by
    have := ha.put hβ hat hd v
    simpa [chT] using this
  exact wpAnyH_take (v := v) ho hs hf hr (fun c a w h => absurd h.1 (by intro h; cases h)) (.inl ⟨hw, fun w' _ => pev_sound (fun x v h => evO_eval hat rfl h) hp w'⟩) (hL w hsat) (k _ w hput hsat)
/-- the end of what one operation yields -/
theorem GL_yend {P : Program} {ops : Array Oper} {i : Nat} {n : Nat} {E E' : Env} {W0 : World} {L : List Grp} (hi : ops.size = i) (he : E = E') : GL true P ops i (fun _ a _ => Ag n E' a) n E W0 L :=
  GL_end hi (by subst he; exact fun a w ha _ => ha)

theorem GH_env {P : Program} {ops : Array Oper} {L : List Grp} {fuel : Nat} {listed : Array Bool} {Q : Post} {n : Nat} {E E' : Env} {W0 : World} {H : List Grp} (h : E = E') (k : GH P ops L fuel listed Q n E' W0 H) : GH P ops L fuel listed Q n E W0 H := by subst h; exact k
theorem N_env {Q : Post} {x : Exit} {n : Nat} {E E' : Env} {W0 : World} {H : List Grp} (h : E = E') (k : N Q x n E' W0 H) : N Q x n E W0 H := by subst h; exact k

/-! ## roads that meet -/
def JQ {T : Type} (n : Nat) (W0 : World) (EJ : T → Env) (HJ : T → List Grp) (Φ : T → Prop) : Post := fun x a w => x = .normal ∧ ∃ v, Φ v ∧ Ag n (EJ v) a ∧ Sat W0 (HJ v) w
theorem G_join {P : Program} {c : Code} {Q : Post} {n : Nat} {E : Env} {W0 : World} {H : List Grp} {T : Type} (EJ : T → Env) (HJ : T → List Grp) (Φ : T → Prop)
    (h : G P c (JQ n W0 EJ HJ Φ) n E W0 H) (k : ∀ v, Φ v → N Q .normal n (EJ v) W0 (HJ v)) : G P c Q n E W0 H :=
  fun a w ha hs => Code.wp_mono (fun x a w ⟨hx, v, h1, h2, h3⟩ => by subst hx; exact k v h1 a w h2 h3) (h a w ha hs)
theorem N_join {n : Nat} {E : Env} {W0 : World} {H : List Grp} {T : Type} {EJ : T → Env} {HJ : T → List Grp} {Φ : T → Prop} (v : T) (ts : List Nat) (h : Env.keep ts E = EJ v)
    (hH : ∀ w, Sat W0 H w → Sat W0 (HJ v) w) (hp : Φ v) : N (JQ n W0 EJ HJ Φ) .normal n E W0 H :=
  fun _ w ha hs => ⟨rfl, v, hp, ha.sub (by rw [← h]; intro s hs; exact Env.keep_mem _ hs), hH w hs⟩

/-- roads that meet, where some return -/
def JQR (Q : Post) {T : Type} (n : Nat) (W0 : World) (EJ : T → Env) (HJ : T → List Grp) (Φ : T → Prop) : Post := fun x a w => (x = .normal ∧ ∃ v, Φ v ∧ Ag n (EJ v) a ∧ Sat W0 (HJ v) w) ∨ (x = .ret ∧ Q .ret a w)
theorem G_joinR {P : Program} {c : Code} {Q : Post} {n : Nat} {E : Env} {W0 : World} {H : List Grp} {T : Type} (EJ : T → Env) (HJ : T → List Grp) (Φ : T → Prop)
    (h : G P c (JQR Q n W0 EJ HJ Φ) n E W0 H) (k : ∀ v, Φ v → N Q .normal n (EJ v) W0 (HJ v)) : G P c Q n E W0 H :=
  fun a w ha hs => Code.wp_mono (fun x a w hx => by
    rcases hx with ⟨hx, v, h1, h2, h3⟩ | ⟨hx, h1⟩
    · subst hx; exact k v h1 a w h2 h3
    · subst hx; exact h1) (h a w ha hs)
theorem N_joinR {Q : Post} {n : Nat} {E : Env} {W0 : World} {H : List Grp} {T : Type} {EJ : T → Env} {HJ : T → List Grp} {Φ : T → Prop} (v : T) (ts : List Nat) (h : Env.keep ts E = EJ v)
    (hH : ∀ w, Sat W0 H w → Sat W0 (HJ v) w) (hp : Φ v) : N (JQR Q n W0 EJ HJ Φ) .normal n E W0 H :=
  fun _ w ha hs => .inl ⟨rfl, v, hp, ha.sub (by rw [← h]; intro s hs; exact Env.keep_mem _ hs), hH w hs⟩
theorem N_joinRet {Q : Post} {n : Nat} {E : Env} {W0 : World} {H : List Grp} {T : Type} {EJ : T → Env} {HJ : T → List Grp} {Φ : T → Prop} (k : N Q .ret n E W0 H) : N (JQR Q n W0 EJ HJ Φ) .ret n E W0 H :=
  fun a w ha hs => .inr ⟨rfl, k a w ha hs⟩
theorem GL_env {d : Bool} {P : Program} {ops : Array Oper} {i : Nat} {Q : Post} {n : Nat} {E E' : Env} {W0 : World} {H : List Grp} (h : E = E') (k : GL d P ops i Q n E' W0 H) : GL d P ops i Q n E W0 H := by subst h; exact k

/-! ## results that lie in cells -/
inductive RV (P : Program) (E : List Sl) (W0 : World) (H : List Grp) : ResultVar → Value → Prop
  | tmp {t : Nat} {v : Value} (h : evT E [] t = some v) : RV P E W0 H (.tmp t) v
  | agg {a t b off : Nat} {c : Array Value} {e : TypeId} {fz : Nat × Nat} {l : List Value} (h : evT E [] a = some (.pointer (some ⟨b, off, none⟩))) (ht : aggB P t = some true) (hz : sizeV P t = some l.length)
      (hA : At W0 H b (.cells c e fz)) (hv : (c.toList.drop off).take l.length = l) : RV P E W0 H (.cell a t) (.agg l.toArray)
  | one {a t b off : Nat} {c : Array Value} {e : TypeId} {fz : Nat × Nat} {v : Value} (h : evT E [] a = some (.pointer (some ⟨b, off, none⟩))) (ht : aggB P t = some false)
      (hA : At W0 H b (.cells c e fz)) (hv : c[off]? = some v) : RV P E W0 H (.cell a t) v
inductive RVs (P : Program) (E : List Sl) (W0 : World) (H : List Grp) : List ResultVar → List Value → Prop
  | nil : RVs P E W0 H [] []
  | cons {r : ResultVar} {v : Value} {rs : List ResultVar} {l : List Value} (h : RV P E W0 H r v) (k : RVs P E W0 H rs l) : RVs P E W0 H (r :: rs) (v :: l)

theorem RV.run {P : Program} {n : Nat} {E : Env} {W0 : World} {H : List Grp} {a : Act} (ha : Ag n E a) {w : World} (hs : Sat W0 H w) {r : ResultVar} {v : Value} (h : RV P E W0 H r v) :
    (resOne a.tmps r).run P w = .ok v w := by
  cases h with
  | tmp h =>
    have e := ha.eval (x := .tmp _) h
    simp only [resOne, Sem.run_pure]
    rw [show a.tmps.getD _ undef = v from e]
  | @agg x t b off c e fz l h ht hz hA hv' =>
    have ee : a.tmps.getD x undef = _ := ha.eval (x := .tmp x) h
    have hv : ∀ k (hk : k < l.length), c[off + k]? = some l[k] := by
      intro k hk
      have h1 : ((c.toList.drop off).take l.length)[k]? = some l[k] := by rw [hv']; simp
      rw [List.getElem?_take, if_pos hk, List.getElem?_drop] at h1
      simpa using h1
    simp only [resOne, ee, asAddr, loadVar, Sem.run_bind, Sem.run_pure, Result.andThen_ok, aggB_sound ht, if_true, sizeV_sound hz, loadCells,
      run_loadCells (P := P) (hs.at hA) l 0 #[] (by simpa using hv)]
    simp
  | @one x t b off c e fz v h ht hA hv =>
    have ee : a.tmps.getD x undef = _ := ha.eval (x := .tmp x) h
    simp only [resOne, ee, asAddr, loadVar, Sem.run_bind, Sem.run_pure, Result.andThen_ok, aggB_sound ht, Bool.false_eq_true, if_false, run_load, cell_of (hs.at hA) hv]
theorem RVs.run {P : Program} {n : Nat} {E : Env} {W0 : World} {H : List Grp} {a : Act} (ha : Ag n E a) {w : World} (hs : Sat W0 H w) {rs : List ResultVar} {l : List Value} (h : RVs P E W0 H rs l) :
    (rs.mapM (resOne a.tmps)).run P w = .ok l w := by
  induction h with
  | nil => rfl
  | cons h _ ih => simp only [List.mapM_cons, Sem.run_bind, h.run ha hs, Sem.run_pure, Result.andThen_ok, ih]

theorem N_retC {P : Program} {fn : Func} {n : Nat} {E : Env} {W0 : World} {H : List Grp} {R : Value → List Grp → Prop} {x : Exit} (rs : List ResultVar) (l : List Value)
    (hr : fn.results = rs.toArray) (h : RVs P E W0 H rs l) (hx : (match x with | .normal => true | .ret => true | _ => false) = true) (k : ∃ H', R (packV l) H' ∧ ∀ w, Sat W0 H w → Sat W0 H' w) : N (Body P fn W0 R) x n E W0 H := by
  intro a w ha hs
  obtain ⟨H', hR, hH⟩ := k
  have e : (results fn a.tmps).run P w = .ok (packV l) w := by
    have e2 := h.run (P := P) ha hs
    have e3 : ((rs.toArray).mapM (resOne a.tmps)).run P w = .ok l.toArray w := by
      rw [Array.mapM_eq_mapM_toList, Sem.run_map, e2]; rfl
    rw [results_eq, hr, Sem.run_bind, e3]
    simp only [Result.andThen_ok, Sem.run_pure]
    congr 1
    cases l with
    | nil => rfl
    | cons v l => cases l with
      | nil => rfl
      | cons u l => simp [packV]
  cases x <;> simp at hx
  · exact ⟨ha.defers, packV l, e, packV l, H', rfl, hR, hH w hs⟩
  · exact ⟨ha.defers, packV l, e, packV l, H', rfl, hR, hH w hs⟩

end Go.Sw

namespace Go.Sw

def u8s (l : List UInt8) : List Value := l.map fun b => Value.int .u8 (b.toNat : Int)

theorem GL_bytesStr {d : Bool} {P : Program} {ops : Array Oper} {i : Nat} {Q : Post} {n : Nat} {E : Env} {W0 : World} {H : List Grp} {o : Oper} {ch : List (Nat × Bool)} {src dst e : TypeId} {x : Operand} {a : Addr} {cap : Nat} {S : Nat → Obj → Prop} (l : List UInt8)
    (ho : ops[i]? = some o) (hop : o.op = .convert src dst x) (hx : evO E ch x = some (.slice (some a) l.length cap)) (hs : P.underlying src = some (.slice e)) (he : P.underlying e = some (.int .u8)) (hds : P.underlying dst = some .string)
    (hch : chainOf ops E o.guard = some ch) (hd : dstOk n ch o.dst = true) (hk : chKnown E ch = true)
    (hrd : Rd S (some a) (u8s l)) (hS : ∀ b o, S b o → At W0 H b o)
    (k : GL d P ops (i + 1) Q n (Env.put E o.dst ch (.string ⟨l.toArray⟩)) W0 H) : GL d P ops i Q n E W0 H := by
  refine GL_quiet ho hch hd hk (fun r hr _ w hsat => ?_) k
  unfold execOp
  simp only [hop]
  rw [hr _ _ hx]
  have := Go.run_convert_bytes_back (P := P) w src dst e a cap l hs he hds (fun j hj => by
    have hv : (u8s l)[j]? = some (.int .u8 (l[j].toNat : Int)) := by simp [u8s, hj]
    obtain ⟨b, off, c, t, fz, h1, h2, h3, h4⟩ := hrd.elt hv
    have ha : a.add j = ⟨b, off + j, none⟩ := h3
    rw [ha]
    exact cell_of (hsat.at (hS _ _ h2)) h4)
  simp only [Sem.run_bind, Sem.run_pure, this, Result.andThen_ok]
  exact ⟨rfl, rfl⟩

/-- an element of an array that lies in a block -/
theorem GL_indexArr {d : Bool} {P : Program} {ops : Array Oper} {i : Nat} {Q : Post} {n : Nat} {E : Env} {W0 : World} {H : List Grp} {o : Oper} {ch : List (Nat × Bool)} {t e : TypeId} {x ix : Operand} {b off len sz : Nat} {kd : IntKind} {j : Int}
    (ho : ops[i]? = some o) (hop : o.op = .indexAddr t x ix) (hx : evO E ch x = some (.pointer (some ⟨b, off, none⟩))) (hix : evO E ch ix = some (.int kd j)) (hu : P.underlying t = some (.array len e)) (hsz : sizeV P e = some sz)
    (hch : chainOf ops E o.guard = some ch) (hd : dstOk n ch o.dst = true) (hk : chKnown E ch = true)
    (hb : chB E ch → 0 ≤ j ∧ j < len)
    (k : GL d P ops (i + 1) Q n (Env.put E o.dst ch (.pointer (some ⟨b, off + j.toNat * sz, none⟩))) W0 H) : GL d P ops i Q n E W0 H := by
  refine GL_quiet ho hch hd hk (fun r hr hcb w _ => ?_) k
  obtain ⟨h0, h1⟩ := hb hcb
  unfold execOp
  simp only [hop]
  rw [hr _ _ hx, hr _ _ hix]
  simp only [Instr.indexAt, asIntOf, Instr.sureAddr, Sem.run_bind, Sem.run_pure, Result.andThen_ok, run_underlying hu, if_pos (⟨h0, h1⟩ : 0 ≤ j ∧ j < (len : Int)), sizeV_sound hsz, addr_add]
  exact ⟨rfl, rfl⟩

end Go.Sw

namespace Go.Vf
open Go.Sw Go.RowKit

/-- error, fails, calls -/
def callS (fails once : Bool) (calls : Int) (right : Bool) : Int × Bool × Int :=
  if right = false then (2, fails, calls) else if fails = false then (0, fails, calls) else if calls > 0 then (0, fails, calls - 1) else (62, !once, calls)
theorem callS_arg {f o r : Bool} {c : Int} (h : (!r) = true) : callS f o c r = (2, f, c) := by unfold callS; cases r <;> simp at h ⊢
theorem callS_ok {f o r : Bool} {c : Int} (h : (!r) = false) (hf : (!f) = true) : callS f o c r = (0, f, c) := by unfold callS; cases r <;> cases f <;> simp at h hf ⊢
theorem callS_dec {f o r : Bool} {c : Int} (h : (!r) = false) (hf : (!f) = false) (hc : decide (c > 0) = true) : callS f o c r = (0, f, c - 1) := by
  have := of_decide_eq_true hc
  unfold callS; cases r <;> cases f <;> simp at h hf ⊢; omega
theorem callS_no {f o r : Bool} {c : Int} (h : (!r) = false) (hf : (!f) = false) (hc : decide (c > 0) = false) : callS f o c r = (62, !o, c) := by
  have := of_decide_eq_false hc
  unfold callS; cases r <;> cases f <;> simp at h hf ⊢; omega

def sumN (f : Value → Nat) (m : SM) : Nat := (m.map fun e => f e.2.1).sum
theorem sumN_snoc (f : Value → Nat) (m : SM) (e : ByteArray × Value × Nat) : sumN f (m ++ [e]) = sumN f m + f e.2.1 := by
  unfold sumN; rw [List.map_append, List.sum_append]; simp
theorem sumN_perm {f : Value → Nat} {a b : SM} (h : a.Perm b) : sumN f a = sumN f b := (h.map _).sum_nat
theorem sumN_part {f : Value → Nat} {a b c : SM} (h : (a ++ b).Perm c) : sumN f a ≤ sumN f c := by
  rw [← sumN_perm h]; unfold sumN; rw [List.map_append, List.sum_append]; omega
theorem u8s_one {l : List UInt8} : ∀ u ∈ u8s l, u.oneCell' = true := by
  intro u hu
  unfold u8s at hu
  obtain ⟨b, _, rfl⟩ := List.mem_map.1 hu
  rfl
theorem u8s_len (l : List UInt8) : (u8s l).length = l.length := by unfold u8s; rw [List.length_map]
theorem own_nil {et : TypeId} {v : Value} {g : Grp} {n : Nat} {cs : List Value} (h : Own et 1 v g (0 + n) ([] ++ cs)) : Own et 1 v g n cs := by simpa using h
theorem mapok1 (k : ByteArray) (v : Value) : MapOk [(k, v, 0)] 1 := ⟨by simp, by simp, by simp⟩
theorem hv1 (k : ByteArray) (p : Nat) : ∀ e ∈ [(k, Value.pointer (some ⟨p, 0, none⟩), 0)], e.2.1 = Value.pointer none ∨ ∃ p, e.2.1 = Value.pointer (some ⟨p, 0, none⟩) := by
  intro e he
  rw [List.mem_singleton.1 he]; exact .inr ⟨p, rfl⟩
theorem hv0 (k : ByteArray) : ∀ e ∈ [(k, Value.pointer none, 0)], e.2.1 = Value.pointer none ∨ ∃ p, e.2.1 = Value.pointer (some ⟨p, 0, none⟩) := by
  intro e he
  rw [List.mem_singleton.1 he]; exact .inl rfl
/-- what some changes, one behind the other, each in whatever order, may make of a map -/
def MadeOf : List SM → SM × Nat → SM × Nat → Prop
  | [], s, s' => s' = s
  | x :: r, s, s' => ∃ dn, dn.Perm x ∧ MadeOf r (foldS s dn) s'
theorem made_snoc {x : SM} {dn : SM} (hd : dn.Perm x) : ∀ {xs : List SM} {s s1 : SM × Nat}, MadeOf xs s s1 → MadeOf (xs ++ [x]) s (foldS s1 dn)
  | [], s, s1, h => by subst h; exact ⟨dn, hd, rfl⟩
  | y :: r, s, s1, ⟨d, h1, h2⟩ => ⟨d, h1, made_snoc hd h2⟩
theorem made_ok : ∀ {xs : List SM} {s s' : SM × Nat}, MadeOf xs s s' → MapOk s.1 s.2 → MapOk s'.1 s'.2
  | [], _, _, h, ho => by subst h; exact ho
  | _ :: _, _, _, ⟨_, _, h⟩, ho => made_ok h (ho.fold _)
theorem take_snoc {α : Type} {l : List α} {k : Nat} {d : α} (h : k < l.length) : l.take (k + 1) = l.take k ++ [l.getD k d] := by
  rw [List.take_add_one, List.getElem?_eq_getElem h, List.getD_eq_getElem?_getD, List.getElem?_eq_getElem h]; rfl
theorem map_at {qs : List Nat} {k : Nat} (h : k < qs.length) : (qs.map fun q => Value.map (some q))[k]? = some (.map (some (qs.getD k 0))) := by
  rw [List.getElem?_map, List.getElem?_eq_getElem h, List.getD_eq_getElem?_getD, List.getElem?_eq_getElem h]; rfl
theorem maps_ne {qs : List Nat} {k : Nat} (h : k < qs.length) : (qs.map fun q => Value.map (some q)) ≠ [] := by
  intro h'; rw [List.map_eq_nil_iff] at h'; rw [h'] at h; simp at h
/-- the next number, brought below n -/
def nextK (k n : Int) : Int := Int.tmod (Int.tmod k n + n) n
theorem nextK_bd {k n : Int} (hn : 0 < n) : 0 ≤ nextK k n ∧ nextK k n < n := by
  unfold nextK
  have h1 := Int.tmod_lt_of_pos k hn
  have h2 : -n < Int.tmod k n := by
    have := Int.lt_tmod_of_pos k hn
    omega
  have h3 : 0 ≤ Int.tmod k n + n := by omega
  exact ⟨Int.tmod_nonneg n h3, Int.tmod_lt_of_pos _ hn⟩
theorem next_is {k n : Int} (hn : 0 < n) (hn2 : n ≤ 1000000000000) (_ : -9223372036854775808 ≤ k) (_ : k ≤ 9223372036854775807) : Int.tmod (IntKind.wrap .i64 (Int.tmod k n + n)) n = nextK k n := by
  have h1 := Int.tmod_lt_of_pos k hn
  have h2 := Int.lt_tmod_of_pos k hn
  rw [w64 (by omega) (by omega)]
  rfl
theorem tmod_ne {n : Int} (k : Int) (hn : 0 < n) : -n < Int.tmod k n ∧ Int.tmod k n < n := ⟨by have := Int.lt_tmod_of_pos k hn; omega, Int.tmod_lt_of_pos k hn⟩
end Go.Vf

namespace Go.Proofs.Ytbmieiffboenbaa
open Go.Sw Go.Lib Go.Vf Go.RowKit


theorem vCall (d nb kb cb : Nat) (room calls : Int) (bv : Value) (fails once : Bool) (right : Bool) (hc : -9223372036854775808 ≤ calls ∧ calls ≤ 9223372036854775807) (W0 : World) (H : List Grp) : Tri Try.prog 34 #[.pointer (some ⟨d, 0, none⟩), .bool right] W0 ([(d, .cells #[.int .i64 room, bv, .map (some nb), .map (some kb), .map (some cb), .bool fails, .bool once, .int .i64 calls] 64 (0, 0))] :: H) (fun v H' => v = .int .i64 (callS fails once calls right).1 ∧ H' = ([(d, .cells #[.int .i64 room, bv, .map (some nb), .map (some kb), .map (some cb), .bool ((callS fails once calls right).2.1), .bool once, .int .i64 ((callS fails once calls right).2.2)] 64 (0, 0))] :: H)) := by
  refine Tri_of (args := [.pointer (some ⟨d, 0, none⟩), .bool right]) (n := 38) Try.func34 rfl rfl (Nat.le_of_ble_eq_true rfl) ?_
  refine G_seq ?_
  refine G_pure (E' := [⟨0, [], .pointer (some ⟨d, 0, none⟩)⟩, ⟨1, [], .bool right⟩]) [0] [0, 1] rfl (by kernel_rfl) ?_
  refine N_then ?_
  refine G_seq ?_
  refine G_block ?_
  refine G_seq ?_
  refine G_pure (E' := [⟨0, [], .pointer (some ⟨d, 0, none⟩)⟩, ⟨1, [], .bool right⟩, ⟨5, [], .bool false⟩]) [0, 0, 0] [0, 1, 5] rfl (by kernel_rfl) ?_
  refine N_then ?_
  refine G_condf (by kernel_rfl) ?_
  refine G_seq ?_
  refine G_pure (E' := [⟨0, [], .pointer (some ⟨d, 0, none⟩)⟩, ⟨8, [], .bool (!right)⟩]) [0, 0, 0] [0, 8] rfl (by kernel_rfl) ?_
  refine N_then ?_
  refine G_cond (b := !right) (by kernel_rfl) (fun hc1 => ?_) (fun hc1 => ?_)
  ·
    have hr := hc1
    refine G_seq ?_
    refine G_pure (E' := [⟨4, [], .int .i64 2⟩]) [0] [4] rfl (by kernel_rfl) ?_
    refine N_then ?_
    refine G_ret ?_
    refine N_block_ret ?_
    refine N_then_ret ?_
    refine N_ret [.tmp 4] [.int .i64 2] rfl (by kernel_rfl) rfl ?_
    rw [callS_arg hr]
    exact ⟨rfl, rfl⟩
  ·
    have hr := hc1
    refine G_seq ?_
    refine G_region ?_
    refine GL_pure (E' := [⟨14, [], .pointer (some ⟨d, 5, none⟩)⟩, ⟨13, [], .pointer (some ⟨d, 0, none⟩)⟩, ⟨12, [], .pointer (some ⟨d, 0, none⟩)⟩, ⟨0, [], .pointer (some ⟨d, 0, none⟩)⟩, ⟨8, [], .bool (!right)⟩]) [0, 0, 0] (by kernel_rfl) (j := 3) rfl ?_
    refine GL_load (i := 3) (ch := []) (b := d) (off := 5) (v := .bool fails) rfl rfl (by kernel_rfl) (by kernel_rfl) (by kernel_rfl) (by kernel_rfl) (by kernel_rfl) (At.grp 0 0 rfl rfl) rfl ?_
    refine GL_fin (E' := [⟨0, [], .pointer (some ⟨d, 0, none⟩)⟩, ⟨11, [], .bool (!fails)⟩]) [0, 0] [0, 11] rfl (by kernel_rfl) ?_
    refine N_then ?_
    refine G_cond (b := !fails) (by kernel_rfl) (fun hc2 => ?_) (fun hc2 => ?_)
    ·
      have hf := hc2
      refine G_seq ?_
      refine G_pure (E' := [⟨4, [], .int .i64 0⟩]) [0] [4] rfl (by kernel_rfl) ?_
      refine N_then ?_
      refine G_ret ?_
      refine N_block_ret ?_
      refine N_then_ret ?_
      refine N_ret [.tmp 4] [.int .i64 0] rfl (by kernel_rfl) rfl ?_
      rw [callS_ok hr hf]
      exact ⟨rfl, rfl⟩
    ·
      have hf := hc2
      refine G_seq ?_
      refine G_region ?_
      refine GL_pure (E' := [⟨20, [], .pointer (some ⟨d, 7, none⟩)⟩, ⟨19, [], .pointer (some ⟨d, 0, none⟩)⟩, ⟨18, [], .pointer (some ⟨d, 0, none⟩)⟩, ⟨0, [], .pointer (some ⟨d, 0, none⟩)⟩, ⟨11, [], .bool (!fails)⟩]) [0, 0, 0] (by kernel_rfl) (j := 3) rfl ?_
      refine GL_load (i := 3) (ch := []) (b := d) (off := 7) (v := .int .i64 calls) rfl rfl (by kernel_rfl) (by kernel_rfl) (by kernel_rfl) (by kernel_rfl) (by kernel_rfl) (At.grp 0 0 rfl rfl) rfl ?_
      refine GL_fin (E' := [⟨0, [], .pointer (some ⟨d, 0, none⟩)⟩, ⟨17, [], .bool (decide (calls > 0))⟩]) [0, 0] [0, 17] rfl (by kernel_rfl) ?_
      refine N_then ?_
      refine G_cond (b := decide (calls > 0)) (by kernel_rfl) (fun hc3 => ?_) (fun hc3 => ?_)
      ·
        have hp := hc3
        simp at hc3
        refine G_seq ?_
        refine G_region ?_
        refine GL_pure (E' := [⟨25, [], .pointer (some ⟨d, 7, none⟩)⟩, ⟨24, [], .pointer (some ⟨d, 0, none⟩)⟩, ⟨23, [], .pointer (some ⟨d, 0, none⟩)⟩, ⟨0, [], .pointer (some ⟨d, 0, none⟩)⟩, ⟨17, [], .bool (decide (calls > 0))⟩]) [0, 0, 0] (by kernel_rfl) (j := 3) rfl ?_
        refine GL_load (i := 3) (ch := []) (b := d) (off := 7) (v := .int .i64 calls) rfl rfl (by kernel_rfl) (by kernel_rfl) (by kernel_rfl) (by kernel_rfl) (by kernel_rfl) (At.grp 0 0 rfl rfl) rfl ?_
        have hw4 : IntKind.wrap .i64 (calls - 1) = calls - 1 := w64 (by omega) (by omega)
        refine GL_pure (E' := [⟨29, [], .pointer (some ⟨d, 7, none⟩)⟩, ⟨28, [], .pointer (some ⟨d, 0, none⟩)⟩, ⟨27, [], .int .i64 (calls - 1)⟩, ⟨26, [], .int .i64 calls⟩, ⟨25, [], .pointer (some ⟨d, 7, none⟩)⟩, ⟨24, [], .pointer (some ⟨d, 0, none⟩)⟩, ⟨23, [], .pointer (some ⟨d, 0, none⟩)⟩, ⟨0, [], .pointer (some ⟨d, 0, none⟩)⟩, ⟨17, [], .bool (decide (calls > 0))⟩]) [0, 0, 0] (Eq.trans (b := some [⟨29, [], .pointer (some ⟨d, 7, none⟩)⟩, ⟨28, [], .pointer (some ⟨d, 0, none⟩)⟩, ⟨27, [], .int .i64 (IntKind.wrap .i64 (calls - 1))⟩, ⟨26, [], .int .i64 calls⟩, ⟨25, [], .pointer (some ⟨d, 7, none⟩)⟩, ⟨24, [], .pointer (some ⟨d, 0, none⟩)⟩, ⟨23, [], .pointer (some ⟨d, 0, none⟩)⟩, ⟨0, [], .pointer (some ⟨d, 0, none⟩)⟩, ⟨17, [], .bool (decide (calls > 0))⟩]) (by kernel_rfl) (by simp only [hw4])) (j := 7) rfl ?_
        refine GL_store (i := 7) (ch := []) (b := d) (off := 7) (v := .int .i64 (calls - 1)) (c := #[.int .i64 room, bv, .map (some nb), .map (some kb), .map (some cb), .bool fails, .bool once, .int .i64 calls]) (c' := #[.int .i64 room, bv, .map (some nb), .map (some kb), .map (some cb), .bool fails, .bool once, .int .i64 (calls - 1)]) (j := 0) (m := 0) (H' := ([(d, .cells #[.int .i64 room, bv, .map (some nb), .map (some kb), .map (some cb), .bool fails, .bool once, .int .i64 (calls - 1)] 64 (0, 0))] :: H)) rfl rfl (by kernel_rfl) (by kernel_rfl) (by kernel_rfl) (by kernel_rfl) (by kernel_rfl) (by kernel_rfl) (by kernel_rfl) rfl rfl (Nat.le_of_ble_eq_true rfl) (fun _ _ => thaw0) (by kernel_rfl) (by kernel_rfl) ?_
        refine GL_fin (E' := []) [] [] rfl (by kernel_rfl) ?_
        refine N_then ?_
        refine G_seq ?_
        refine G_pure (E' := [⟨4, [], .int .i64 0⟩]) [0] [4] rfl (by kernel_rfl) ?_
        refine N_then ?_
        refine G_ret ?_
        refine N_block_ret ?_
        refine N_then_ret ?_
        refine N_ret [.tmp 4] [.int .i64 0] rfl (by kernel_rfl) rfl ?_
        rw [callS_dec hr hf hp]
        exact ⟨rfl, rfl⟩
      ·
        have hp := hc3
        simp at hc3
        refine G_skip ?_
        refine N_block ?_
        refine N_then ?_
        refine G_seq ?_
        refine G_region ?_
        refine GL_pure (E' := [⟨33, [], .pointer (some ⟨d, 6, none⟩)⟩, ⟨32, [], .pointer (some ⟨d, 0, none⟩)⟩, ⟨31, [], .pointer (some ⟨d, 0, none⟩)⟩, ⟨30, [], .pointer (some ⟨d, 0, none⟩)⟩, ⟨0, [], .pointer (some ⟨d, 0, none⟩)⟩, ⟨17, [], .bool (decide (calls > 0))⟩]) [0, 0, 0, 0] (by kernel_rfl) (j := 4) rfl ?_
        refine GL_load (i := 4) (ch := []) (b := d) (off := 6) (v := .bool once) rfl rfl (by kernel_rfl) (by kernel_rfl) (by kernel_rfl) (by kernel_rfl) (by kernel_rfl) (At.grp 0 0 rfl rfl) rfl ?_
        refine GL_pure (E' := [⟨37, [], .pointer (some ⟨d, 5, none⟩)⟩, ⟨36, [], .pointer (some ⟨d, 0, none⟩)⟩, ⟨35, [], .bool (!once)⟩, ⟨34, [], .bool once⟩, ⟨33, [], .pointer (some ⟨d, 6, none⟩)⟩, ⟨32, [], .pointer (some ⟨d, 0, none⟩)⟩, ⟨31, [], .pointer (some ⟨d, 0, none⟩)⟩, ⟨30, [], .pointer (some ⟨d, 0, none⟩)⟩, ⟨0, [], .pointer (some ⟨d, 0, none⟩)⟩, ⟨17, [], .bool (decide (calls > 0))⟩]) [0, 0, 0] (by kernel_rfl) (j := 8) rfl ?_
        refine GL_store (i := 8) (ch := []) (b := d) (off := 5) (v := .bool (!once)) (c := #[.int .i64 room, bv, .map (some nb), .map (some kb), .map (some cb), .bool fails, .bool once, .int .i64 calls]) (c' := #[.int .i64 room, bv, .map (some nb), .map (some kb), .map (some cb), .bool (!once), .bool once, .int .i64 calls]) (j := 0) (m := 0) (H' := ([(d, .cells #[.int .i64 room, bv, .map (some nb), .map (some kb), .map (some cb), .bool (!once), .bool once, .int .i64 calls] 64 (0, 0))] :: H)) rfl rfl (by kernel_rfl) (by kernel_rfl) (by kernel_rfl) (by kernel_rfl) (by kernel_rfl) (by kernel_rfl) (by kernel_rfl) rfl rfl (Nat.le_of_ble_eq_true rfl) (fun _ _ => thaw0) (by kernel_rfl) (by kernel_rfl) ?_
        refine GL_fin (E' := []) [] [] rfl (by kernel_rfl) ?_
        refine N_then ?_
        refine G_seq ?_
        refine G_pure (E' := [⟨4, [], .int .i64 62⟩]) [0] [4] rfl (by kernel_rfl) ?_
        refine N_then ?_
        refine G_ret ?_
        refine N_ret [.tmp 4] [.int .i64 62] rfl (by kernel_rfl) rfl ?_
        rw [callS_no hr hf hp]
        exact ⟨rfl, rfl⟩

theorem vCallNil (right : Bool) (W0 : World) (H : List Grp) : Tri Try.prog 34 #[.pointer none, .bool right] W0 H (fun v H' => v = .int .i64 1 ∧ H' = H) := by
  refine Tri_of (args := [.pointer none, .bool right]) (n := 38) Try.func34 rfl rfl (Nat.le_of_ble_eq_true rfl) ?_
  refine G_seq ?_
  refine G_pure (E' := [⟨0, [], .pointer none⟩, ⟨1, [], .bool right⟩]) [0] [0, 1] rfl (by kernel_rfl) ?_
  refine N_then ?_
  refine G_seq ?_
  refine G_block ?_
  refine G_seq ?_
  refine G_pure (E' := [⟨0, [], .pointer none⟩, ⟨1, [], .bool right⟩, ⟨5, [], .bool true⟩]) [0, 0, 0] [0, 1, 5] rfl (by kernel_rfl) ?_
  refine N_then ?_
  refine G_condt (by kernel_rfl) ?_
  refine G_seq ?_
  refine G_pure (E' := [⟨4, [], .int .i64 1⟩]) [0] [4] rfl (by kernel_rfl) ?_
  refine N_then ?_
  refine G_ret ?_
  refine N_block_ret ?_
  refine N_then_ret ?_
  refine N_ret [.tmp 4] [.int .i64 1] rfl (by kernel_rfl) rfl ?_
  exact ⟨rfl, rfl⟩

theorem vFail (d nb kb cb : Nat) (room calls : Int) (bv : Value) (fails once : Bool) (n : Int) (o : Bool) (W0 : World) (H : List Grp) : Tri Try.prog 16 #[.pointer (some ⟨d, 0, none⟩), .int .i64 n, .bool o] W0 ([(d, .cells #[.int .i64 room, bv, .map (some nb), .map (some kb), .map (some cb), .bool fails, .bool once, .int .i64 calls] 64 (0, 0))] :: H) (fun v H' => v = .tuple #[] ∧ H' = ([(d, .cells #[.int .i64 room, bv, .map (some nb), .map (some kb), .map (some cb), .bool true, .bool o, .int .i64 (if 0 > n then 0 else n)] 64 (0, 0))] :: H)) := by
  refine Tri_of (args := [.pointer (some ⟨d, 0, none⟩), .int .i64 n, .bool o]) (n := 20) Try.func16 rfl rfl (Nat.le_of_ble_eq_true rfl) ?_
  refine G_seq ?_
  refine G_pure (E' := [⟨0, [], .pointer (some ⟨d, 0, none⟩)⟩, ⟨1, [], .int .i64 n⟩, ⟨2, [], .bool o⟩, ⟨7, [], .bool true⟩]) [0, 0] [0, 1, 2, 7] rfl (by kernel_rfl) ?_
  refine N_then ?_
  refine G_condt (by kernel_rfl) ?_
  refine G_region ?_
  refine GL_pure (E' := [⟨15, [], .pointer (some ⟨d, 5, none⟩)⟩, ⟨14, [], .pointer (some ⟨d, 0, none⟩)⟩, ⟨13, [], .int .i64 (if 0 > n then 0 else n)⟩, ⟨12, [], .int .i64 n⟩, ⟨11, [], .bool o⟩, ⟨10, [], .pointer (some ⟨d, 0, none⟩)⟩, ⟨9, [], .pointer (some ⟨d, 0, none⟩)⟩, ⟨8, [], .pointer (some ⟨d, 0, none⟩)⟩, ⟨0, [], .pointer (some ⟨d, 0, none⟩)⟩, ⟨1, [], .int .i64 n⟩, ⟨2, [], .bool o⟩, ⟨7, [], .bool true⟩]) [0, 0, 0, 0, 0, 0, 0, 0] (by kernel_rfl) (j := 8) rfl ?_
  refine GL_store (i := 8) (ch := []) (b := d) (off := 5) (v := .bool true) (c := #[.int .i64 room, bv, .map (some nb), .map (some kb), .map (some cb), .bool fails, .bool once, .int .i64 calls]) (c' := #[.int .i64 room, bv, .map (some nb), .map (some kb), .map (some cb), .bool true, .bool once, .int .i64 calls]) (j := 0) (m := 0) (H' := ([(d, .cells #[.int .i64 room, bv, .map (some nb), .map (some kb), .map (some cb), .bool true, .bool once, .int .i64 calls] 64 (0, 0))] :: H)) rfl rfl (by kernel_rfl) (by kernel_rfl) (by kernel_rfl) (by kernel_rfl) (by kernel_rfl) (by kernel_rfl) (by kernel_rfl) rfl rfl (Nat.le_of_ble_eq_true rfl) (fun _ _ => thaw0) (by kernel_rfl) (by kernel_rfl) ?_
  refine GL_pure (E' := [⟨17, [], .pointer (some ⟨d, 6, none⟩)⟩, ⟨16, [], .pointer (some ⟨d, 0, none⟩)⟩, ⟨15, [], .pointer (some ⟨d, 5, none⟩)⟩, ⟨14, [], .pointer (some ⟨d, 0, none⟩)⟩, ⟨13, [], .int .i64 (if 0 > n then 0 else n)⟩, ⟨12, [], .int .i64 n⟩, ⟨11, [], .bool o⟩, ⟨10, [], .pointer (some ⟨d, 0, none⟩)⟩, ⟨9, [], .pointer (some ⟨d, 0, none⟩)⟩, ⟨8, [], .pointer (some ⟨d, 0, none⟩)⟩, ⟨0, [], .pointer (some ⟨d, 0, none⟩)⟩, ⟨1, [], .int .i64 n⟩, ⟨2, [], .bool o⟩, ⟨7, [], .bool true⟩]) [0, 0] (by kernel_rfl) (j := 11) rfl ?_
  refine GL_store (i := 11) (ch := []) (b := d) (off := 6) (v := .bool o) (c := #[.int .i64 room, bv, .map (some nb), .map (some kb), .map (some cb), .bool true, .bool once, .int .i64 calls]) (c' := #[.int .i64 room, bv, .map (some nb), .map (some kb), .map (some cb), .bool true, .bool o, .int .i64 calls]) (j := 0) (m := 0) (H' := ([(d, .cells #[.int .i64 room, bv, .map (some nb), .map (some kb), .map (some cb), .bool true, .bool o, .int .i64 calls] 64 (0, 0))] :: H)) rfl rfl (by kernel_rfl) (by kernel_rfl) (by kernel_rfl) (by kernel_rfl) (by kernel_rfl) (by kernel_rfl) (by kernel_rfl) rfl rfl (Nat.le_of_ble_eq_true rfl) (fun _ _ => thaw0) (by kernel_rfl) (by kernel_rfl) ?_
  refine GL_pure (E' := [⟨19, [], .pointer (some ⟨d, 7, none⟩)⟩, ⟨18, [], .pointer (some ⟨d, 0, none⟩)⟩, ⟨17, [], .pointer (some ⟨d, 6, none⟩)⟩, ⟨16, [], .pointer (some ⟨d, 0, none⟩)⟩, ⟨15, [], .pointer (some ⟨d, 5, none⟩)⟩, ⟨14, [], .pointer (some ⟨d, 0, none⟩)⟩, ⟨13, [], .int .i64 (if 0 > n then 0 else n)⟩, ⟨12, [], .int .i64 n⟩, ⟨11, [], .bool o⟩, ⟨10, [], .pointer (some ⟨d, 0, none⟩)⟩, ⟨9, [], .pointer (some ⟨d, 0, none⟩)⟩, ⟨8, [], .pointer (some ⟨d, 0, none⟩)⟩, ⟨0, [], .pointer (some ⟨d, 0, none⟩)⟩, ⟨1, [], .int .i64 n⟩, ⟨2, [], .bool o⟩, ⟨7, [], .bool true⟩]) [0, 0] (by kernel_rfl) (j := 14) rfl ?_
  refine GL_store (i := 14) (ch := []) (b := d) (off := 7) (v := .int .i64 (if 0 > n then 0 else n)) (c := #[.int .i64 room, bv, .map (some nb), .map (some kb), .map (some cb), .bool true, .bool o, .int .i64 calls]) (c' := #[.int .i64 room, bv, .map (some nb), .map (some kb), .map (some cb), .bool true, .bool o, .int .i64 (if 0 > n then 0 else n)]) (j := 0) (m := 0) (H' := ([(d, .cells #[.int .i64 room, bv, .map (some nb), .map (some kb), .map (some cb), .bool true, .bool o, .int .i64 (if 0 > n then 0 else n)] 64 (0, 0))] :: H)) rfl rfl (by kernel_rfl) (by kernel_rfl) (by kernel_rfl) (by kernel_rfl) (by kernel_rfl) (by kernel_rfl) (by kernel_rfl) rfl rfl (Nat.le_of_ble_eq_true rfl) (fun _ _ => thaw0) (by kernel_rfl) (by kernel_rfl) ?_
  refine GL_fin (E' := []) [] [] rfl (by kernel_rfl) ?_
  refine N_ret [] [] rfl (by kernel_rfl) rfl ?_
  exact ⟨rfl, rfl⟩

theorem vNew (room : Int) (W0 : World) (H : List Grp) : Tri Try.prog 12 #[.int .i64 room] W0 H (fun v H' => ∃ d nb kb cb, v = .pointer (some ⟨d, 0, none⟩) ∧ H' = [(d, .cells #[.int .i64 (if 0 > room then 0 else room), .slice none 0 0, .map (some nb), .map (some kb), .map (some cb), .bool false, .bool false, .int .i64 0] 64 (0, 0))] :: [(cb, .map (encM []) 0)] :: [(kb, .map (encM []) 0)] :: [(nb, .map (encM []) 0)] :: H) := by
  refine Tri_of (args := [.int .i64 room]) (n := 10) Try.func12 rfl rfl (Nat.le_of_ble_eq_true rfl) ?_
  refine G_seq ?_
  refine G_pure (E' := [⟨0, [], .int .i64 room⟩]) [0] [0] rfl (by kernel_rfl) ?_
  refine N_then ?_
  refine G_seq ?_
  refine G_region ?_
  refine GL_pure (E' := [⟨4, [], .int .i64 (if 0 > room then 0 else room)⟩, ⟨3, [], .int .i64 room⟩, ⟨0, [], .int .i64 room⟩]) [0, 0] (by kernel_rfl) (j := 2) rfl ?_
  refine GL_makeMap (i := 2) (ch := []) rfl rfl (by kernel_rfl) (by kernel_rfl) (by kernel_rfl) (fun b1 => ?_)
  refine GL_makeMap (i := 3) (ch := []) rfl rfl (by kernel_rfl) (by kernel_rfl) (by kernel_rfl) (fun b2 => ?_)
  refine GL_makeMap (i := 4) (ch := []) rfl rfl (by kernel_rfl) (by kernel_rfl) (by kernel_rfl) (fun b3 => ?_)
  refine GL_pure (E' := [⟨8, [], .agg #[.int .i64 (if 0 > room then 0 else room), .slice none 0 0, .map (some b1), .map (some b2), .map (some b3), .bool false, .bool false, .int .i64 0]⟩, ⟨7, [], .map (some b3)⟩, ⟨6, [], .map (some b2)⟩, ⟨5, [], .map (some b1)⟩, ⟨4, [], .int .i64 (if 0 > room then 0 else room)⟩, ⟨3, [], .int .i64 room⟩, ⟨0, [], .int .i64 room⟩]) [0] (by kernel_rfl) (j := 6) rfl ?_
  refine GL_box (i := 6) (ch := []) (v := .agg #[.int .i64 (if 0 > room then 0 else room), .slice none 0 0, .map (some b1), .map (some b2), .map (some b3), .bool false, .bool false, .int .i64 0]) rfl rfl (by kernel_rfl) (by kernel_rfl) (by kernel_rfl) (by kernel_rfl) (fun b4 => ?_)
  refine GL_fin (E' := [⟨2, [], .pointer (some ⟨b4, 0, none⟩)⟩]) [0] [2] rfl (by kernel_rfl) ?_
  refine N_then ?_
  refine G_ret ?_
  refine N_ret [.tmp 2] [.pointer (some ⟨b4, 0, none⟩)] rfl (by kernel_rfl) rfl ?_
  exact ⟨_, _, _, _, rfl, rfl⟩

theorem vApply (nb q nc cc : Nat) (nm cm : SM) (hn : MapOk nm nc) (hcm : MapOk cm cc) (hv : ∀ e ∈ cm, e.2.1 = .pointer none ∨ ∃ p, e.2.1 = .pointer (some ⟨p, 0, none⟩)) (W0 : World) (H : List Grp) (hA : At W0 H q (.map (encM cm) cc)) : Tri Try.prog 38 #[.map (some nb), .map (some q)] W0 ([(nb, .map (encM nm) nc)] :: H) (fun v H' => ∃ dn, dn.Perm cm ∧ v = .tuple #[] ∧ H' = [(nb, .map (encM (foldS (nm, nc) dn).1) (foldS (nm, nc) dn).2)] :: H) := by
  refine Tri_of (args := [.map (some nb), .map (some q)]) (n := 20) Try.func38 rfl rfl (Nat.le_of_ble_eq_true rfl) ?_
  refine G_seq ?_
  refine G_region ?_
  refine GL_pure (E' := [⟨6, [], .map (some q)⟩, ⟨0, [], .map (some nb)⟩, ⟨1, [], .map (some q)⟩]) [0] (by kernel_rfl) (j := 1) rfl ?_
  refine GL_range (i := 1) (ch := []) (kt := 9) (et := 66) (r := q) (c := cc) (m := cm) rfl rfl (by kernel_rfl) (by kernel_rfl) (by kernel_rfl) (by kernel_rfl) (by kernel_rfl) (At.cons hA) (fun it1 => ?_)
  refine GL_fin (E' := [⟨0, [], .map (some nb)⟩, ⟨7, [], .pointer (some ⟨it1, 0, none⟩)⟩]) [] [0, 7] rfl (by kernel_rfl) ?_
  refine N_then ?_
  refine G_block ?_
  refine G_loop (EI := (fun ξ : SM × SM => [⟨0, [], .map (some nb)⟩, ⟨7, [], .pointer (some ⟨it1, 0, none⟩)⟩])) (HI := (fun ξ : SM × SM => ([(it1, .mapIter (some q) cc (seenOf ξ.1) cc)] :: [(nb, .map (encM ((foldS (nm, nc) ξ.1).1)) ((foldS (nm, nc) ξ.1).2))] :: H))) (Φ := (fun ξ : SM × SM => ((ξ.1 ++ ξ.2).Perm cm))) (μ := (fun ξ : SM × SM => ξ.2.length)) (s0 := ([], cm)) [0, 7] (by kernel_rfl) (by rfl) (List.Perm.refl _) ?_
  rintro ⟨dn, rest⟩ hpm
  refine G_seq ?_
  refine G_region ?_
  refine GL_next (i := 0) (ch := []) (it := it1) (r := q) (c := cc) (j := 0) (q := 0) (m := cm) (dn := dn) (rest := rest) rfl rfl (by kernel_rfl) (by kernel_rfl) (by kernel_rfl) (by kernel_rfl) rfl rfl (At.cons (At.cons hA)) hcm hpm (fun hend6 => ?_) (fun e2 rest3 hp4 hq5 => ?_)
  ·
    refine GL_fin (E' := [⟨0, [], .map (some nb)⟩, ⟨7, [], .pointer (some ⟨it1, 0, none⟩)⟩, ⟨9, [], .bool false⟩]) [0] [0, 7, 9] rfl (by kernel_rfl) ?_
    refine N_then ?_
    refine G_seq ?_
    refine G_condf (by kernel_rfl) ?_
    refine G_exit ?_
    refine N_then_exit ?_
    refine N_then_exit ?_
    refine N_block_exit ?_
    refine N_heap (H' := ([(nb, .map (encM ((foldS (nm, nc) dn).1)) ((foldS (nm, nc) dn).2))] :: H)) (fun w h => h.erase 0) ?_
    refine N_ret [] [] rfl (by kernel_rfl) rfl ?_
    exact ⟨dn, by simpa [hend6] using hpm, rfl, rfl⟩
  ·
    have hve := hv e2 (hq5.mem_iff.1 (by simp))
    obtain ⟨k7, v8, st9⟩ := e2
    simp only at hve
    rcases hve with rfl | ⟨p10, rfl⟩
    ·
      refine GL_fin (E' := [⟨0, [], .map (some nb)⟩, ⟨7, [], .pointer (some ⟨it1, 0, none⟩)⟩, ⟨9, [], .bool true⟩]) [0] [0, 7, 9] rfl (by kernel_rfl) ?_
      refine N_then ?_
      refine G_seq ?_
      refine G_condt (by kernel_rfl) ?_
      refine G_skip ?_
      refine N_then ?_
      refine G_block ?_
      refine G_seq ?_
      refine G_region ?_
      refine GL_entry (i := 0) (ch := []) (it := it1) (r := q) (c := cc) (m := cm) (dn := dn) (e := (k7, .pointer none, st9)) rfl rfl (by kernel_rfl) (by kernel_rfl) (by kernel_rfl) (by kernel_rfl) (At.grp 0 0 rfl rfl) (At.cons (At.cons hA)) hcm (hq5.mem_iff.1 (by simp)) ?_
      refine GL_fin (E' := [⟨0, [], .map (some nb)⟩, ⟨4, [], .string k7⟩, ⟨5, [], .pointer none⟩, ⟨7, [], .pointer (some ⟨it1, 0, none⟩)⟩]) [0, 0, 0, 0] [0, 4, 5, 7] rfl (by kernel_rfl) ?_
      refine N_then ?_
      refine G_seq ?_
      refine G_pure (E' := [⟨0, [], .map (some nb)⟩, ⟨4, [], .string k7⟩, ⟨5, [], .pointer none⟩, ⟨7, [], .pointer (some ⟨it1, 0, none⟩)⟩, ⟨14, [], .bool true⟩]) [0, 0] [0, 4, 5, 7, 14] rfl (by kernel_rfl) ?_
      refine N_then ?_
      refine G_condt (by kernel_rfl) ?_
      refine G_region ?_
      refine GL_pure (E' := [⟨16, [], .string k7⟩, ⟨15, [], .map (some nb)⟩, ⟨0, [], .map (some nb)⟩, ⟨4, [], .string k7⟩, ⟨5, [], .pointer none⟩, ⟨7, [], .pointer (some ⟨it1, 0, none⟩)⟩, ⟨14, [], .bool true⟩]) [0, 0] (by kernel_rfl) (j := 2) rfl ?_
      refine GL_delete (i := 2) (ch := []) (ts := #[60, 9]) (t := 60) (kt := 9) (et := 66) (r := nb) (c := (foldS (nm, nc) dn).2) (j := 1) (q := 0) (m := (foldS (nm, nc) dn).1) (k := k7) (H' := ([(it1, .mapIter (some q) cc (seenOf (dn ++ [(k7, .pointer none, st9)])) cc)] :: [(nb, .map (encM (mdel ((foldS (nm, nc) dn).1) k7)) ((foldS (nm, nc) dn).2))] :: H)) rfl rfl rfl rfl rfl (by kernel_rfl) (by kernel_rfl) (by kernel_rfl) (by kernel_rfl) (by kernel_rfl) (by kernel_rfl) rfl rfl rfl ?_
      refine GL_fin (E' := [⟨0, [], .map (some nb)⟩, ⟨7, [], .pointer (some ⟨it1, 0, none⟩)⟩]) [] [0, 7] rfl (by kernel_rfl) ?_
      refine N_block ?_
      refine N_heap (H' := ([(it1, .mapIter (some q) cc (seenOf (dn ++ [(k7, .pointer none, st9)])) cc)] :: [(nb, .map (encM (mdel ((foldS (nm, nc) dn).1) k7)) ((foldS (nm, nc) dn).2))] :: H)) (fun w h => ((h.front (j := 1) rfl).front (j := 1) rfl)) ?_
      refine N_round (s' := (dn ++ [(k7, .pointer none, st9)], rest3)) [0, 7] (by kernel_rfl) (by rw [foldS_snoc]; rfl) hq5 (by have := hp4.length_eq; simp only [List.length_cons] at this; show rest3.length < rest.length; omega)
    ·
      refine GL_fin (E' := [⟨0, [], .map (some nb)⟩, ⟨7, [], .pointer (some ⟨it1, 0, none⟩)⟩, ⟨9, [], .bool true⟩]) [0] [0, 7, 9] rfl (by kernel_rfl) ?_
      refine N_then ?_
      refine G_seq ?_
      refine G_condt (by kernel_rfl) ?_
      refine G_skip ?_
      refine N_then ?_
      refine G_block ?_
      refine G_seq ?_
      refine G_region ?_
      refine GL_entry (i := 0) (ch := []) (it := it1) (r := q) (c := cc) (m := cm) (dn := dn) (e := (k7, .pointer (some ⟨p10, 0, none⟩), st9)) rfl rfl (by kernel_rfl) (by kernel_rfl) (by kernel_rfl) (by kernel_rfl) (At.grp 0 0 rfl rfl) (At.cons (At.cons hA)) hcm (hq5.mem_iff.1 (by simp)) ?_
      refine GL_fin (E' := [⟨0, [], .map (some nb)⟩, ⟨4, [], .string k7⟩, ⟨5, [], .pointer (some ⟨p10, 0, none⟩)⟩, ⟨7, [], .pointer (some ⟨it1, 0, none⟩)⟩]) [0, 0, 0, 0] [0, 4, 5, 7] rfl (by kernel_rfl) ?_
      refine N_then ?_
      refine G_seq ?_
      refine G_pure (E' := [⟨0, [], .map (some nb)⟩, ⟨4, [], .string k7⟩, ⟨5, [], .pointer (some ⟨p10, 0, none⟩)⟩, ⟨7, [], .pointer (some ⟨it1, 0, none⟩)⟩, ⟨14, [], .bool false⟩]) [0, 0] [0, 4, 5, 7, 14] rfl (by kernel_rfl) ?_
      refine N_then ?_
      refine G_condf (by kernel_rfl) ?_
      refine G_region ?_
      refine GL_pure (E' := [⟨19, [], .pointer (some ⟨p10, 0, none⟩)⟩, ⟨18, [], .string k7⟩, ⟨17, [], .map (some nb)⟩, ⟨0, [], .map (some nb)⟩, ⟨4, [], .string k7⟩, ⟨5, [], .pointer (some ⟨p10, 0, none⟩)⟩, ⟨7, [], .pointer (some ⟨it1, 0, none⟩)⟩, ⟨14, [], .bool false⟩]) [0, 0, 0] (by kernel_rfl) (j := 3) rfl ?_
      refine GL_mapPut (i := 3) (ch := []) (kt := 9) (et := 66) (r := nb) (c := (foldS (nm, nc) dn).2) (j := 1) (q := 0) (m := (foldS (nm, nc) dn).1) (k := k7) (v := .pointer (some ⟨p10, 0, none⟩)) (H' := ([(it1, .mapIter (some q) cc (seenOf (dn ++ [(k7, .pointer (some ⟨p10, 0, none⟩), st9)])) cc)] :: [(nb, .map (encM (mput ((foldS (nm, nc) dn).1) ((foldS (nm, nc) dn).2) k7 (.pointer (some ⟨p10, 0, none⟩)))) (if mhas ((foldS (nm, nc) dn).1) k7 then (foldS (nm, nc) dn).2 else (foldS (nm, nc) dn).2 + 1))] :: H)) rfl (.inl rfl) (by kernel_rfl) (by kernel_rfl) (by kernel_rfl) (by kernel_rfl) (by kernel_rfl) (by kernel_rfl) (by kernel_rfl) (by kernel_rfl) rfl rfl rfl ?_
      refine GL_fin (E' := [⟨0, [], .map (some nb)⟩, ⟨7, [], .pointer (some ⟨it1, 0, none⟩)⟩]) [] [0, 7] rfl (by kernel_rfl) ?_
      refine N_block ?_
      refine N_heap (H' := ([(it1, .mapIter (some q) cc (seenOf (dn ++ [(k7, .pointer (some ⟨p10, 0, none⟩), st9)])) cc)] :: [(nb, .map (encM (mput ((foldS (nm, nc) dn).1) ((foldS (nm, nc) dn).2) k7 (.pointer (some ⟨p10, 0, none⟩)))) (if mhas ((foldS (nm, nc) dn).1) k7 then (foldS (nm, nc) dn).2 else (foldS (nm, nc) dn).2 + 1))] :: H)) (fun w h => ((h.front (j := 1) rfl).front (j := 1) rfl)) ?_
      refine N_round (s' := (dn ++ [(k7, .pointer (some ⟨p10, 0, none⟩), st9)], rest3)) [0, 7] (by kernel_rfl) (by rw [foldS_snoc]; rfl) hq5 (by have := hp4.length_eq; simp only [List.length_cons] at this; show rest3.length < rest.length; omega)

end Go.Proofs.Ytbmieiffboenbaa

namespace Go.Proofs.Ytbmieiffboenbaa
open Go.Sw Go.Lib Go.Vf Go.RowKit


theorem vCloneNil  (W0 : World) (H : List Grp) : Tri Try.prog 35 #[.slice none 0 0] W0 H (fun v H' => v = .slice none 0 0 ∧ H' = H) := by
  refine Tri_of (args := [.slice none 0 0]) (n := 8) Try.func35 rfl rfl (Nat.le_of_ble_eq_true rfl) ?_
  refine G_seq ?_
  refine G_pure (E' := [⟨0, [], .slice none 0 0⟩]) [0] [0] rfl (by kernel_rfl) ?_
  refine N_then ?_
  refine G_seq ?_
  refine G_seq ?_
  refine G_pure (E' := [⟨0, [], .slice none 0 0⟩, ⟨4, [], .bool true⟩]) [0, 0] [0, 4] rfl (by kernel_rfl) ?_
  refine N_then ?_
  refine G_condt (by kernel_rfl) ?_
  refine G_seq ?_
  refine G_pure (E' := [⟨2, [], .slice none 0 0⟩]) [0] [2] rfl (by kernel_rfl) ?_
  refine N_then ?_
  refine G_ret ?_
  refine N_then_ret ?_
  refine N_ret [.tmp 2] [.slice none 0 0] rfl (by kernel_rfl) rfl ?_
  exact ⟨rfl, rfl⟩

theorem vClone (b off n cap : Nat) (S : Nat → Obj → Prop) (l : List UInt8) (hrd : Rd S (some ⟨b, off, none⟩) (u8s l)) (hl : l.length = n) (hn : n ≤ 1000000000) (W0 : World) (H : List Grp) (hS : ∀ y o, S y o → At W0 H y o) : Tri Try.prog 35 #[.slice (some ⟨b, off, none⟩) n cap] W0 H (fun v H' => ∃ g, Own 5 1 v g n (u8s l) ∧ H' = g :: H) := by
  refine Tri_of (args := [.slice (some ⟨b, off, none⟩) n cap]) (n := 8) Try.func35 rfl rfl (Nat.le_of_ble_eq_true rfl) ?_
  refine G_seq ?_
  refine G_pure (E' := [⟨0, [], .slice (some ⟨b, off, none⟩) n cap⟩]) [0] [0] rfl (by kernel_rfl) ?_
  refine N_then ?_
  refine G_seq ?_
  refine G_seq ?_
  refine G_pure (E' := [⟨0, [], .slice (some ⟨b, off, none⟩) n cap⟩, ⟨4, [], .bool false⟩]) [0, 0] [0, 4] rfl (by kernel_rfl) ?_
  refine N_then ?_
  refine G_condf (by kernel_rfl) ?_
  refine G_skip ?_
  refine N_then ?_
  refine G_seq ?_
  refine G_region ?_
  refine GL_buildSlice (i := 0) (ch := []) (e := 5) (l := []) (c := []) rfl rfl (by kernel_rfl) (by kernel_rfl) (by kernel_rfl) (by kernel_rfl) (by kernel_rfl) (fun b1 => ?_)
  refine GL_pure (E' := [⟨6, [], .slice (some ⟨b, off, none⟩) n cap⟩, ⟨5, [], .slice (some ⟨b1, 0, none⟩) 0 0⟩, ⟨0, [], .slice (some ⟨b, off, none⟩) n cap⟩, ⟨4, [], .bool false⟩]) [0] (by kernel_rfl) (j := 2) rfl ?_
  refine GL_append (i := 2) (ch := []) (t := 24) (tx := 24) (e := 5) (inf := Try.t5) (s := .slice (some ⟨b1, 0, none⟩) 0 0) (x := .slice (some ⟨b, off, none⟩) n cap) (n := 0) (m := n) (j := 0) (cs := []) (news := (u8s l)) (g := [(b1, .cells #[] 5 (0, 0))]) (S := S) rfl rfl rfl rfl (by kernel_rfl) (by kernel_rfl) (by kernel_rfl) rfl rfl (.inl ⟨5, (by kernel_rfl)⟩) (fun ⟨_, h⟩ => by cases h) (fun _ => ⟨5, (by kernel_rfl)⟩) (by kernel_rfl) (by kernel_rfl) (by kernel_rfl) rfl (Own.lit rfl) (SrcOf.slice _ _ _ _ hrd (fun h => by cases h)) (fun y o h => (At.cons (hS y o h))) (by show (u8s l).length = n * 1; rw [u8s_len, hl, Nat.mul_one]) u8s_one (by omega) (by show (0 + n) * 1 ≤ 140737488355328; omega) (fun v2 g3 hO4 => ?_)
  refine GL_fin (E' := [⟨2, [], v2⟩]) [0] [2] rfl (by kernel_rfl) ?_
  refine N_then ?_
  refine G_ret ?_
  refine N_ret [.tmp 2] [v2] rfl (by kernel_rfl) rfl ?_
  exact ⟨g3, own_nil hO4, rfl⟩

theorem vCloneE (ad : Addr) (cap : Nat) (W0 : World) (H : List Grp) : Tri Try.prog 35 #[.slice (some ad) 0 cap] W0 H (fun v H' => ∃ g, Own 5 1 v g 0 [] ∧ H' = g :: H) := by
  refine Tri_of (args := [.slice (some ad) 0 cap]) (n := 8) Try.func35 rfl rfl (Nat.le_of_ble_eq_true rfl) ?_
  refine G_seq ?_
  refine G_pure (E' := [⟨0, [], .slice (some ad) 0 cap⟩]) [0] [0] rfl (by kernel_rfl) ?_
  refine N_then ?_
  refine G_seq ?_
  refine G_seq ?_
  refine G_pure (E' := [⟨0, [], .slice (some ad) 0 cap⟩, ⟨4, [], .bool false⟩]) [0, 0] [0, 4] rfl (by kernel_rfl) ?_
  refine N_then ?_
  refine G_condf (by kernel_rfl) ?_
  refine G_skip ?_
  refine N_then ?_
  refine G_seq ?_
  refine G_region ?_
  refine GL_buildSlice (i := 0) (ch := []) (e := 5) (l := []) (c := []) rfl rfl (by kernel_rfl) (by kernel_rfl) (by kernel_rfl) (by kernel_rfl) (by kernel_rfl) (fun b1 => ?_)
  refine GL_pure (E' := [⟨6, [], .slice (some ad) 0 cap⟩, ⟨5, [], .slice (some ⟨b1, 0, none⟩) 0 0⟩, ⟨0, [], .slice (some ad) 0 cap⟩, ⟨4, [], .bool false⟩]) [0] (by kernel_rfl) (j := 2) rfl ?_
  refine GL_append (i := 2) (ch := []) (t := 24) (tx := 24) (e := 5) (inf := Try.t5) (s := .slice (some ⟨b1, 0, none⟩) 0 0) (x := .slice (some ad) 0 cap) (n := 0) (m := 0) (j := 0) (cs := []) (news := ([])) (g := [(b1, .cells #[] 5 (0, 0))]) (S := (fun _ _ => False)) rfl rfl rfl rfl (by kernel_rfl) (by kernel_rfl) (by kernel_rfl) rfl rfl (.inl ⟨5, (by kernel_rfl)⟩) (fun ⟨_, h⟩ => by cases h) (fun _ => ⟨5, (by kernel_rfl)⟩) (by kernel_rfl) (by kernel_rfl) (by kernel_rfl) rfl (Own.lit rfl) (SrcOf.slice _ _ _ _ (.inl rfl) (fun h => by cases h)) (fun _ _ h => h.elim) rfl (fun u h => absurd h List.not_mem_nil) (by omega) (by show (0 + 0) * 1 ≤ 140737488355328; omega) (fun v2 g3 hO4 => ?_)
  refine GL_fin (E' := [⟨2, [], v2⟩]) [0] [2] rfl (by kernel_rfl) ?_
  refine N_then ?_
  refine G_ret ?_
  refine N_ret [.tmp 2] [v2] rfl (by kernel_rfl) rfl ?_
  exact ⟨g3, own_nil hO4, rfl⟩


theorem vUsed (d nb kb cb nc : Nat) (room calls : Int) (bv : Value) (fails once : Bool) (nm : SM) (szf : Value → Nat) (hn : MapOk nm nc) (hs : sumN szf nm ≤ 1000000000000) (W0 : World) (H : List Grp) (hB : ∀ e ∈ nm, ∃ p a c kv, e.2.1 = .pointer (some ⟨p, 0, none⟩) ∧ At W0 H p (.cells #[.slice a (szf e.2.1) c, kv] 68 (0, 0))) : Tri Try.prog 26 #[.pointer (some ⟨d, 0, none⟩)] W0 ([(d, .cells #[.int .i64 room, bv, .map (some nb), .map (some kb), .map (some cb), .bool fails, .bool once, .int .i64 calls] 64 (0, 0))] :: [(nb, .map (encM nm) nc)] :: H) (fun v H' => v = .int .i64 ((sumN szf nm : Nat) : Int) ∧ H' = ([(d, .cells #[.int .i64 room, bv, .map (some nb), .map (some kb), .map (some cb), .bool fails, .bool once, .int .i64 calls] 64 (0, 0))] :: [(nb, .map (encM nm) nc)] :: H)) := by
  refine Tri_of (args := [.pointer (some ⟨d, 0, none⟩)]) (n := 25) Try.func26 rfl rfl (Nat.le_of_ble_eq_true rfl) ?_
  refine G_seq ?_
  refine G_pure (E' := [⟨0, [], .pointer (some ⟨d, 0, none⟩)⟩]) [0] [0] rfl (by kernel_rfl) ?_
  refine N_then ?_
  refine G_seq ?_
  refine G_pure (E' := [⟨0, [], .pointer (some ⟨d, 0, none⟩)⟩, ⟨3, [], .int .i64 0⟩]) [0] [0, 3] rfl (by kernel_rfl) ?_
  refine N_then ?_
  refine G_seq ?_
  refine G_seq ?_
  refine G_pure (E' := [⟨0, [], .pointer (some ⟨d, 0, none⟩)⟩, ⟨3, [], .int .i64 0⟩, ⟨7, [], .bool true⟩]) [0, 0] [0, 3, 7] rfl (by kernel_rfl) ?_
  refine N_then ?_
  refine G_condt (by kernel_rfl) ?_
  refine G_seq ?_
  refine G_region ?_
  refine GL_pure (E' := [⟨10, [], .pointer (some ⟨d, 2, none⟩)⟩, ⟨9, [], .pointer (some ⟨d, 0, none⟩)⟩, ⟨8, [], .pointer (some ⟨d, 0, none⟩)⟩, ⟨0, [], .pointer (some ⟨d, 0, none⟩)⟩, ⟨3, [], .int .i64 0⟩, ⟨7, [], .bool true⟩]) [0, 0, 0] (by kernel_rfl) (j := 3) rfl ?_
  refine GL_load (i := 3) (ch := []) (b := d) (off := 2) (v := .map (some nb)) rfl rfl (by kernel_rfl) (by kernel_rfl) (by kernel_rfl) (by kernel_rfl) (by kernel_rfl) (At.grp 0 0 rfl rfl) rfl ?_
  refine GL_range (i := 4) (ch := []) (kt := 9) (et := 66) (r := nb) (c := nc) (m := nm) rfl rfl (by kernel_rfl) (by kernel_rfl) (by kernel_rfl) (by kernel_rfl) (by kernel_rfl) (At.grp 1 0 rfl rfl) (fun it1 => ?_)
  refine GL_fin (E' := [⟨3, [], .int .i64 0⟩, ⟨12, [], .pointer (some ⟨it1, 0, none⟩)⟩]) [] [3, 12] rfl (by kernel_rfl) ?_
  refine N_then ?_
  refine G_block ?_
  refine G_loop (EI := (fun ξ : SM × SM => [⟨3, [], .int .i64 ((sumN szf ξ.1 : Nat) : Int)⟩, ⟨12, [], .pointer (some ⟨it1, 0, none⟩)⟩])) (HI := (fun ξ : SM × SM => ([(it1, .mapIter (some nb) nc (seenOf ξ.1) nc)] :: [(d, .cells #[.int .i64 room, bv, .map (some nb), .map (some kb), .map (some cb), .bool fails, .bool once, .int .i64 calls] 64 (0, 0))] :: [(nb, .map (encM nm) nc)] :: H))) (Φ := (fun ξ : SM × SM => ((ξ.1 ++ ξ.2).Perm nm))) (μ := (fun ξ : SM × SM => ξ.2.length)) (s0 := ([], nm)) [3, 12] (by kernel_rfl) (by rfl) (List.Perm.refl _) ?_
  rintro ⟨dn, rest⟩ hpm
  have hsp := sumN_part (f := szf) hpm
  refine G_seq ?_
  refine G_region ?_
  refine GL_next (i := 0) (ch := []) (it := it1) (r := nb) (c := nc) (j := 0) (q := 0) (m := nm) (dn := dn) (rest := rest) rfl rfl (by kernel_rfl) (by kernel_rfl) (by kernel_rfl) (by kernel_rfl) rfl rfl (At.grp 2 0 rfl rfl) hn hpm (fun hend6 => ?_) (fun e2 rest3 hp4 hq5 => ?_)
  ·
    refine GL_fin (E' := [⟨3, [], .int .i64 ((sumN szf dn : Nat) : Int)⟩, ⟨12, [], .pointer (some ⟨it1, 0, none⟩)⟩, ⟨14, [], .bool false⟩]) [0] [3, 12, 14] rfl (by kernel_rfl) ?_
    refine N_then ?_
    refine G_seq ?_
    refine G_condf (by kernel_rfl) ?_
    refine G_exit ?_
    refine N_then_exit ?_
    refine N_then_exit ?_
    refine N_block_exit ?_
    refine N_then ?_
    refine G_seq ?_
    refine G_pure (E' := [⟨2, [], .int .i64 ((sumN szf dn : Nat) : Int)⟩]) [0, 0] [2] rfl (by kernel_rfl) ?_
    refine N_then ?_
    refine G_ret ?_
    refine N_heap (H' := ([(d, .cells #[.int .i64 room, bv, .map (some nb), .map (some kb), .map (some cb), .bool fails, .bool once, .int .i64 calls] 64 (0, 0))] :: [(nb, .map (encM nm) nc)] :: H)) (fun w h => h.erase 0) ?_
    refine N_ret [.tmp 2] [.int .i64 ((sumN szf dn : Nat) : Int)] rfl (by kernel_rfl) rfl ?_
    exact ⟨by rw [sumN_perm (show dn.Perm nm by simpa [hend6] using hpm)]; rfl, rfl⟩
  ·
    obtain ⟨p10, a11, c12, kv13, hve, hat14⟩ := hB e2 (hq5.mem_iff.1 (by simp))
    obtain ⟨k7, v8, st9⟩ := e2
    simp only at hve
    subst hve
    have hsq := sumN_part (f := szf) hq5
    rw [sumN_snoc] at hsq
    simp only at hsq
    refine GL_fin (E' := [⟨3, [], .int .i64 ((sumN szf dn : Nat) : Int)⟩, ⟨12, [], .pointer (some ⟨it1, 0, none⟩)⟩, ⟨14, [], .bool true⟩]) [0] [3, 12, 14] rfl (by kernel_rfl) ?_
    refine N_then ?_
    refine G_seq ?_
    refine G_condt (by kernel_rfl) ?_
    refine G_skip ?_
    refine N_then ?_
    refine G_block ?_
    refine G_seq ?_
    refine G_region ?_
    refine GL_entry (i := 0) (ch := []) (it := it1) (r := nb) (c := nc) (m := nm) (dn := dn) (e := (k7, .pointer (some ⟨p10, 0, none⟩), st9)) rfl rfl (by kernel_rfl) (by kernel_rfl) (by kernel_rfl) (by kernel_rfl) (At.grp 0 0 rfl rfl) (At.grp 2 0 rfl rfl) hn (hq5.mem_iff.1 (by simp)) ?_
    refine GL_fin (E' := [⟨3, [], .int .i64 ((sumN szf dn : Nat) : Int)⟩, ⟨5, [], .pointer (some ⟨p10, 0, none⟩)⟩, ⟨12, [], .pointer (some ⟨it1, 0, none⟩)⟩]) [0, 0] [3, 5, 12] rfl (by kernel_rfl) ?_
    refine N_then ?_
    refine G_region ?_
    refine GL_pure (E' := [⟨20, [], .pointer (some ⟨p10, 0, none⟩)⟩, ⟨19, [], .pointer (some ⟨p10, 0, none⟩)⟩, ⟨18, [], .pointer (some ⟨p10, 0, none⟩)⟩, ⟨17, [], .int .i64 ((sumN szf dn : Nat) : Int)⟩, ⟨3, [], .int .i64 ((sumN szf dn : Nat) : Int)⟩, ⟨5, [], .pointer (some ⟨p10, 0, none⟩)⟩, ⟨12, [], .pointer (some ⟨it1, 0, none⟩)⟩]) [0, 0, 0, 0] (by kernel_rfl) (j := 4) rfl ?_
    refine GL_load (i := 4) (ch := []) (b := p10) (off := 0) (v := .slice a11 (szf (.pointer (some ⟨p10, 0, none⟩))) c12) rfl rfl (by kernel_rfl) (by kernel_rfl) (by kernel_rfl) (by kernel_rfl) (by kernel_rfl) (At.cons (At.cons (At.cons hat14))) rfl ?_
    have hw15 : IntKind.wrap .i64 (((sumN szf dn : Nat) : Int) + (((szf (.pointer (some ⟨p10, 0, none⟩))) : Nat) : Int)) = ((sumN szf dn : Nat) : Int) + (((szf (.pointer (some ⟨p10, 0, none⟩))) : Nat) : Int) := w64 (by omega) (by omega)
    refine GL_fin (E' := [⟨3, [], .int .i64 (((sumN szf dn : Nat) : Int) + (((szf (.pointer (some ⟨p10, 0, none⟩))) : Nat) : Int))⟩, ⟨12, [], .pointer (some ⟨it1, 0, none⟩)⟩]) [0, 0, 0] [3, 12] rfl (Eq.trans (b := some [⟨3, [], .int .i64 (IntKind.wrap .i64 (((sumN szf dn : Nat) : Int) + (((szf (.pointer (some ⟨p10, 0, none⟩))) : Nat) : Int)))⟩, ⟨12, [], .pointer (some ⟨it1, 0, none⟩)⟩]) (by kernel_rfl) (by simp only [hw15])) ?_
    refine N_block ?_
    refine N_env (E' := [⟨3, [], .int .i64 ((sumN szf (dn ++ [(k7, .pointer (some ⟨p10, 0, none⟩), st9)]) : Nat) : Int)⟩, ⟨12, [], .pointer (some ⟨it1, 0, none⟩)⟩]) (by rw [sumN_snoc]; rfl) ?_
    refine N_heap (H' := ([(it1, .mapIter (some nb) nc (seenOf (dn ++ [(k7, .pointer (some ⟨p10, 0, none⟩), st9)])) nc)] :: [(d, .cells #[.int .i64 room, bv, .map (some nb), .map (some kb), .map (some cb), .bool fails, .bool once, .int .i64 calls] 64 (0, 0))] :: [(nb, .map (encM nm) nc)] :: H)) (fun w h => (((h.front (j := 2) rfl).front (j := 2) rfl).front (j := 2) rfl)) ?_
    refine N_round (s' := (dn ++ [(k7, .pointer (some ⟨p10, 0, none⟩), st9)], rest3)) [3, 12] (by kernel_rfl) (by rfl) hq5 (by have := hp4.length_eq; simp only [List.length_cons] at this; show rest3.length < rest.length; omega)

theorem vReadNo (d nb kb cb nc : Nat) (room calls : Int) (bv : Value) (fails once : Bool) (nm : SM) (path : ByteArray) (hg : mget nm path = none) (W0 : World) (H : List Grp) : Tri Try.prog 19 #[.pointer (some ⟨d, 0, none⟩), .string path] W0 ([(d, .cells #[.int .i64 room, bv, .map (some nb), .map (some kb), .map (some cb), .bool fails, .bool once, .int .i64 calls] 64 (0, 0))] :: [(nb, .map (encM nm) nc)] :: H) (fun v H' => v = .tuple #[.slice none 0 0, .int .i64 60] ∧ H' = ([(d, .cells #[.int .i64 room, bv, .map (some nb), .map (some kb), .map (some cb), .bool fails, .bool once, .int .i64 calls] 64 (0, 0))] :: [(nb, .map (encM nm) nc)] :: H)) := by
  refine Tri_of (args := [.pointer (some ⟨d, 0, none⟩), .string path]) (n := 22) Try.func19 rfl rfl (Nat.le_of_ble_eq_true rfl) ?_
  refine G_seq ?_
  refine G_pure (E' := [⟨0, [], .pointer (some ⟨d, 0, none⟩)⟩, ⟨1, [], .string path⟩]) [0, 0] [0, 1] rfl (by kernel_rfl) ?_
  refine N_then ?_
  refine G_seq ?_
  refine G_seq ?_
  refine G_pure (E' := [⟨0, [], .pointer (some ⟨d, 0, none⟩)⟩, ⟨1, [], .string path⟩, ⟨8, [], .bool false⟩]) [0, 0] [0, 1, 8] rfl (by kernel_rfl) ?_
  refine N_then ?_
  refine G_condf (by kernel_rfl) ?_
  refine G_skip ?_
  refine N_then ?_
  refine G_seq ?_
  refine G_region ?_
  refine GL_pure (E' := [⟨11, [], .pointer (some ⟨d, 2, none⟩)⟩, ⟨10, [], .pointer (some ⟨d, 0, none⟩)⟩, ⟨9, [], .pointer (some ⟨d, 0, none⟩)⟩, ⟨0, [], .pointer (some ⟨d, 0, none⟩)⟩, ⟨1, [], .string path⟩, ⟨8, [], .bool false⟩]) [0, 0, 0] (by kernel_rfl) (j := 3) rfl ?_
  refine GL_load (i := 3) (ch := []) (b := d) (off := 2) (v := .map (some nb)) rfl rfl (by kernel_rfl) (by kernel_rfl) (by kernel_rfl) (by kernel_rfl) (by kernel_rfl) (At.grp 0 0 rfl rfl) rfl ?_
  refine GL_pure (E' := [⟨13, [], .string path⟩, ⟨12, [], .map (some nb)⟩, ⟨11, [], .pointer (some ⟨d, 2, none⟩)⟩, ⟨10, [], .pointer (some ⟨d, 0, none⟩)⟩, ⟨9, [], .pointer (some ⟨d, 0, none⟩)⟩, ⟨0, [], .pointer (some ⟨d, 0, none⟩)⟩, ⟨1, [], .string path⟩, ⟨8, [], .bool false⟩]) [0] (by kernel_rfl) (j := 5) rfl ?_
  refine GL_lookup (i := 5) (ch := []) (kt := 9) (et := 66) (r := nb) (c := nc) (m := nm) (k := path) (z := .pointer none) (ov := none) rfl rfl (by kernel_rfl) (by kernel_rfl) (by kernel_rfl) (by kernel_rfl) (by kernel_rfl) (by kernel_rfl) (by kernel_rfl) (by kernel_rfl) (At.grp 1 0 rfl rfl) (fun _ => hg) ?_
  refine GL_fin (E' := [⟨6, [], .pointer none⟩]) [0] [6] rfl (by kernel_rfl) ?_
  refine N_then ?_
  refine G_seq ?_
  refine G_seq ?_
  refine G_pure (E' := [⟨6, [], .pointer none⟩, ⟨16, [], .bool true⟩]) [0, 0] [6, 16] rfl (by kernel_rfl) ?_
  refine N_then ?_
  refine G_condt (by kernel_rfl) ?_
  refine G_seq ?_
  refine G_pure (E' := [⟨4, [], .slice none 0 0⟩, ⟨5, [], .int .i64 60⟩]) [0, 0] [4, 5] rfl (by kernel_rfl) ?_
  refine N_then ?_
  refine G_ret ?_
  refine N_then_ret ?_
  refine N_ret [.tmp 4, .tmp 5] [.slice none 0 0, .int .i64 60] rfl (by kernel_rfl) rfl ?_
  exact ⟨rfl, rfl⟩

theorem vReadNil (d nb kb cb nc : Nat) (room calls : Int) (bv : Value) (fails once : Bool) (nm : SM) (path : ByteArray) (p : Nat) (kv : Value) (hg : mget nm path = some (.pointer (some ⟨p, 0, none⟩))) (W0 : World) (H : List Grp) (hp : At W0 H p (.cells #[.slice none 0 0, kv] 68 (0, 0))) : Tri Try.prog 19 #[.pointer (some ⟨d, 0, none⟩), .string path] W0 ([(d, .cells #[.int .i64 room, bv, .map (some nb), .map (some kb), .map (some cb), .bool fails, .bool once, .int .i64 calls] 64 (0, 0))] :: [(nb, .map (encM nm) nc)] :: H) (fun v H' => v = .tuple #[.slice none 0 0, .int .i64 0] ∧ H' = ([(d, .cells #[.int .i64 room, bv, .map (some nb), .map (some kb), .map (some cb), .bool fails, .bool once, .int .i64 calls] 64 (0, 0))] :: [(nb, .map (encM nm) nc)] :: H)) := by
  refine Tri_of (args := [.pointer (some ⟨d, 0, none⟩), .string path]) (n := 22) Try.func19 rfl rfl (Nat.le_of_ble_eq_true rfl) ?_
  refine G_seq ?_
  refine G_pure (E' := [⟨0, [], .pointer (some ⟨d, 0, none⟩)⟩, ⟨1, [], .string path⟩]) [0, 0] [0, 1] rfl (by kernel_rfl) ?_
  refine N_then ?_
  refine G_seq ?_
  refine G_seq ?_
  refine G_pure (E' := [⟨0, [], .pointer (some ⟨d, 0, none⟩)⟩, ⟨1, [], .string path⟩, ⟨8, [], .bool false⟩]) [0, 0] [0, 1, 8] rfl (by kernel_rfl) ?_
  refine N_then ?_
  refine G_condf (by kernel_rfl) ?_
  refine G_skip ?_
  refine N_then ?_
  refine G_seq ?_
  refine G_region ?_
  refine GL_pure (E' := [⟨11, [], .pointer (some ⟨d, 2, none⟩)⟩, ⟨10, [], .pointer (some ⟨d, 0, none⟩)⟩, ⟨9, [], .pointer (some ⟨d, 0, none⟩)⟩, ⟨0, [], .pointer (some ⟨d, 0, none⟩)⟩, ⟨1, [], .string path⟩, ⟨8, [], .bool false⟩]) [0, 0, 0] (by kernel_rfl) (j := 3) rfl ?_
  refine GL_load (i := 3) (ch := []) (b := d) (off := 2) (v := .map (some nb)) rfl rfl (by kernel_rfl) (by kernel_rfl) (by kernel_rfl) (by kernel_rfl) (by kernel_rfl) (At.grp 0 0 rfl rfl) rfl ?_
  refine GL_pure (E' := [⟨13, [], .string path⟩, ⟨12, [], .map (some nb)⟩, ⟨11, [], .pointer (some ⟨d, 2, none⟩)⟩, ⟨10, [], .pointer (some ⟨d, 0, none⟩)⟩, ⟨9, [], .pointer (some ⟨d, 0, none⟩)⟩, ⟨0, [], .pointer (some ⟨d, 0, none⟩)⟩, ⟨1, [], .string path⟩, ⟨8, [], .bool false⟩]) [0] (by kernel_rfl) (j := 5) rfl ?_
  refine GL_lookup (i := 5) (ch := []) (kt := 9) (et := 66) (r := nb) (c := nc) (m := nm) (k := path) (z := .pointer none) (ov := (some (.pointer (some ⟨p, 0, none⟩)))) rfl rfl (by kernel_rfl) (by kernel_rfl) (by kernel_rfl) (by kernel_rfl) (by kernel_rfl) (by kernel_rfl) (by kernel_rfl) (by kernel_rfl) (At.grp 1 0 rfl rfl) (fun _ => hg) ?_
  refine GL_fin (E' := [⟨6, [], .pointer (some ⟨p, 0, none⟩)⟩]) [0] [6] rfl (by kernel_rfl) ?_
  refine N_then ?_
  refine G_seq ?_
  refine G_seq ?_
  refine G_pure (E' := [⟨6, [], .pointer (some ⟨p, 0, none⟩)⟩, ⟨16, [], .bool false⟩]) [0, 0] [6, 16] rfl (by kernel_rfl) ?_
  refine N_then ?_
  refine G_condf (by kernel_rfl) ?_
  refine G_skip ?_
  refine N_then ?_
  refine G_seq ?_
  refine G_region ?_
  refine GL_pure (E' := [⟨19, [], .pointer (some ⟨p, 0, none⟩)⟩, ⟨18, [], .pointer (some ⟨p, 0, none⟩)⟩, ⟨17, [], .pointer (some ⟨p, 0, none⟩)⟩, ⟨6, [], .pointer (some ⟨p, 0, none⟩)⟩, ⟨16, [], .bool false⟩]) [0, 0, 0] (by kernel_rfl) (j := 3) rfl ?_
  refine GL_load (i := 3) (ch := []) (b := p) (off := 0) (v := .slice none 0 0) rfl rfl (by kernel_rfl) (by kernel_rfl) (by kernel_rfl) (by kernel_rfl) (by kernel_rfl) (At.cons (At.cons hp)) rfl ?_
  refine GL_callQ (i := 4) (ch := []) (f := 35) (fst := #[]) (caps := #[]) (vs := [.slice none 0 0]) (v := .slice none 0 0) rfl rfl rfl (by kernel_rfl) (by kernel_rfl) Try.func35 rfl rfl (by kernel_rfl) (by kernel_rfl) (by kernel_rfl) (fun _ => vCloneNil _ _) ?_
  refine GL_fin (E' := [⟨4, [], .slice none 0 0⟩, ⟨5, [], .int .i64 0⟩]) [0, 0] [4, 5] rfl (by kernel_rfl) ?_
  refine N_then ?_
  refine G_ret ?_
  refine N_ret [.tmp 4, .tmp 5] [.slice none 0 0, .int .i64 0] rfl (by kernel_rfl) rfl ?_
  exact ⟨rfl, rfl⟩

theorem vReadYes (d nb kb cb nc : Nat) (room calls : Int) (bv : Value) (fails once : Bool) (nm : SM) (path : ByteArray) (b off n cap : Nat) (S : Nat → Obj → Prop) (l : List UInt8) (hrd : Rd S (some ⟨b, off, none⟩) (u8s l)) (hl : l.length = n) (hn : n ≤ 1000000000) (p : Nat) (kv : Value) (hg : mget nm path = some (.pointer (some ⟨p, 0, none⟩))) (W0 : World) (H : List Grp) (hS : ∀ y o, S y o → At W0 H y o) (hp : At W0 H p (.cells #[.slice (some ⟨b, off, none⟩) n cap, kv] 68 (0, 0))) : Tri Try.prog 19 #[.pointer (some ⟨d, 0, none⟩), .string path] W0 ([(d, .cells #[.int .i64 room, bv, .map (some nb), .map (some kb), .map (some cb), .bool fails, .bool once, .int .i64 calls] 64 (0, 0))] :: [(nb, .map (encM nm) nc)] :: H) (fun v H' => ∃ x g, v = .tuple #[x, .int .i64 0] ∧ Own 5 1 x g n (u8s l) ∧ H' = g :: ([(d, .cells #[.int .i64 room, bv, .map (some nb), .map (some kb), .map (some cb), .bool fails, .bool once, .int .i64 calls] 64 (0, 0))] :: [(nb, .map (encM nm) nc)] :: H)) := by
  refine Tri_of (args := [.pointer (some ⟨d, 0, none⟩), .string path]) (n := 22) Try.func19 rfl rfl (Nat.le_of_ble_eq_true rfl) ?_
  refine G_seq ?_
  refine G_pure (E' := [⟨0, [], .pointer (some ⟨d, 0, none⟩)⟩, ⟨1, [], .string path⟩]) [0, 0] [0, 1] rfl (by kernel_rfl) ?_
  refine N_then ?_
  refine G_seq ?_
  refine G_seq ?_
  refine G_pure (E' := [⟨0, [], .pointer (some ⟨d, 0, none⟩)⟩, ⟨1, [], .string path⟩, ⟨8, [], .bool false⟩]) [0, 0] [0, 1, 8] rfl (by kernel_rfl) ?_
  refine N_then ?_
  refine G_condf (by kernel_rfl) ?_
  refine G_skip ?_
  refine N_then ?_
  refine G_seq ?_
  refine G_region ?_
  refine GL_pure (E' := [⟨11, [], .pointer (some ⟨d, 2, none⟩)⟩, ⟨10, [], .pointer (some ⟨d, 0, none⟩)⟩, ⟨9, [], .pointer (some ⟨d, 0, none⟩)⟩, ⟨0, [], .pointer (some ⟨d, 0, none⟩)⟩, ⟨1, [], .string path⟩, ⟨8, [], .bool false⟩]) [0, 0, 0] (by kernel_rfl) (j := 3) rfl ?_
  refine GL_load (i := 3) (ch := []) (b := d) (off := 2) (v := .map (some nb)) rfl rfl (by kernel_rfl) (by kernel_rfl) (by kernel_rfl) (by kernel_rfl) (by kernel_rfl) (At.grp 0 0 rfl rfl) rfl ?_
  refine GL_pure (E' := [⟨13, [], .string path⟩, ⟨12, [], .map (some nb)⟩, ⟨11, [], .pointer (some ⟨d, 2, none⟩)⟩, ⟨10, [], .pointer (some ⟨d, 0, none⟩)⟩, ⟨9, [], .pointer (some ⟨d, 0, none⟩)⟩, ⟨0, [], .pointer (some ⟨d, 0, none⟩)⟩, ⟨1, [], .string path⟩, ⟨8, [], .bool false⟩]) [0] (by kernel_rfl) (j := 5) rfl ?_
  refine GL_lookup (i := 5) (ch := []) (kt := 9) (et := 66) (r := nb) (c := nc) (m := nm) (k := path) (z := .pointer none) (ov := (some (.pointer (some ⟨p, 0, none⟩)))) rfl rfl (by kernel_rfl) (by kernel_rfl) (by kernel_rfl) (by kernel_rfl) (by kernel_rfl) (by kernel_rfl) (by kernel_rfl) (by kernel_rfl) (At.grp 1 0 rfl rfl) (fun _ => hg) ?_
  refine GL_fin (E' := [⟨6, [], .pointer (some ⟨p, 0, none⟩)⟩]) [0] [6] rfl (by kernel_rfl) ?_
  refine N_then ?_
  refine G_seq ?_
  refine G_seq ?_
  refine G_pure (E' := [⟨6, [], .pointer (some ⟨p, 0, none⟩)⟩, ⟨16, [], .bool false⟩]) [0, 0] [6, 16] rfl (by kernel_rfl) ?_
  refine N_then ?_
  refine G_condf (by kernel_rfl) ?_
  refine G_skip ?_
  refine N_then ?_
  refine G_seq ?_
  refine G_region ?_
  refine GL_pure (E' := [⟨19, [], .pointer (some ⟨p, 0, none⟩)⟩, ⟨18, [], .pointer (some ⟨p, 0, none⟩)⟩, ⟨17, [], .pointer (some ⟨p, 0, none⟩)⟩, ⟨6, [], .pointer (some ⟨p, 0, none⟩)⟩, ⟨16, [], .bool false⟩]) [0, 0, 0] (by kernel_rfl) (j := 3) rfl ?_
  refine GL_load (i := 3) (ch := []) (b := p) (off := 0) (v := .slice (some ⟨b, off, none⟩) n cap) rfl rfl (by kernel_rfl) (by kernel_rfl) (by kernel_rfl) (by kernel_rfl) (by kernel_rfl) (At.cons (At.cons hp)) rfl ?_
  refine GL_call (i := 4) (ch := []) (f := 35) (fst := #[]) (caps := #[]) (vs := [.slice (some ⟨b, off, none⟩) n cap]) rfl rfl rfl (by kernel_rfl) (by kernel_rfl) Try.func35 rfl rfl (by kernel_rfl) (by kernel_rfl) (chSure_of (by kernel_rfl)) (vClone b off n cap S l hrd hl hn _ _ (fun y o h => (At.cons (At.cons (hS y o h))))) ?_
  rintro v3 _ ⟨g1, hO2, rfl⟩
  refine GL_fin (E' := [⟨4, [], v3⟩, ⟨5, [], .int .i64 0⟩]) [0, 0] [4, 5] rfl (by kernel_rfl) ?_
  refine N_then ?_
  refine G_ret ?_
  refine N_ret [.tmp 4, .tmp 5] [v3, .int .i64 0] rfl (by kernel_rfl) rfl ?_
  exact ⟨_, g1, rfl, hO2, rfl⟩

theorem vRead0 (path : ByteArray) (W0 : World) (H : List Grp) : Tri Try.prog 19 #[.pointer none, .string path] W0 H (fun v H' => v = .tuple #[.slice none 0 0, .int .i64 1] ∧ H' = H) := by
  refine Tri_of (args := [.pointer none, .string path]) (n := 22) Try.func19 rfl rfl (Nat.le_of_ble_eq_true rfl) ?_
  refine G_seq ?_
  refine G_pure (E' := [⟨0, [], .pointer none⟩, ⟨1, [], .string path⟩]) [0, 0] [0, 1] rfl (by kernel_rfl) ?_
  refine N_then ?_
  refine G_seq ?_
  refine G_seq ?_
  refine G_pure (E' := [⟨0, [], .pointer none⟩, ⟨1, [], .string path⟩, ⟨8, [], .bool true⟩]) [0, 0] [0, 1, 8] rfl (by kernel_rfl) ?_
  refine N_then ?_
  refine G_condt (by kernel_rfl) ?_
  refine G_seq ?_
  refine G_pure (E' := [⟨4, [], .slice none 0 0⟩, ⟨5, [], .int .i64 1⟩]) [0, 0] [4, 5] rfl (by kernel_rfl) ?_
  refine N_then ?_
  refine G_ret ?_
  refine N_then_ret ?_
  refine N_ret [.tmp 4, .tmp 5] [.slice none 0 0, .int .i64 1] rfl (by kernel_rfl) rfl ?_
  exact ⟨rfl, rfl⟩

end Go.Proofs.Ytbmieiffboenbaa

namespace Go.Proofs.Ytbmieiffboenbaa
open Go.Sw Go.Lib Go.Vf Go.RowKit


theorem vNameNew (d nb kb cb q nc cc xc : Nat) (room calls : Int) (bv : Value) (fails once : Bool) (nm cm xm : SM) (dir : ByteArray) (hn : MapOk nm nc) (hx : MapOk xm xc) (hv : ∀ e ∈ xm, e.2.1 = .pointer none ∨ ∃ p, e.2.1 = .pointer (some ⟨p, 0, none⟩)) (hg : mget cm dir = none) (W0 : World) (H : List Grp) (hA : At W0 H q (.map (encM xm) xc)) : Tri Try.prog 36 #[.pointer (some ⟨d, 0, none⟩), .string dir, .map (some q)] W0 ([(d, .cells #[.int .i64 room, bv, .map (some nb), .map (some kb), .map (some cb), .bool fails, .bool once, .int .i64 calls] 64 (0, 0))] :: [(nb, .map (encM nm) nc)] :: [(cb, .map (encM cm) cc)] :: H) (fun v H' => ∃ dn x g, dn.Perm xm ∧ Own 72 1 x g 1 [.map (some q)] ∧ v = .tuple #[] ∧ H' = ([(d, .cells #[.int .i64 room, bv, .map (some nb), .map (some kb), .map (some cb), .bool fails, .bool once, .int .i64 calls] 64 (0, 0))] :: [(nb, .map (encM ((foldS (nm, nc) dn).1)) ((foldS (nm, nc) dn).2))] :: [(cb, .map (encM (mput cm cc dir x)) (if mhas cm dir then cc else cc + 1))] :: g :: H)) := by
  refine Tri_of (args := [.pointer (some ⟨d, 0, none⟩), .string dir, .map (some q)]) (n := 26) Try.func36 rfl rfl (Nat.le_of_ble_eq_true rfl) ?_
  refine G_seq ?_
  refine G_region ?_
  refine GL_pure (E' := [⟨8, [], .pointer (some ⟨d, 2, none⟩)⟩, ⟨7, [], .pointer (some ⟨d, 0, none⟩)⟩, ⟨6, [], .pointer (some ⟨d, 0, none⟩)⟩, ⟨0, [], .pointer (some ⟨d, 0, none⟩)⟩, ⟨1, [], .string dir⟩, ⟨2, [], .map (some q)⟩]) [0, 0, 0] (by kernel_rfl) (j := 3) rfl ?_
  refine GL_load (i := 3) (ch := []) (b := d) (off := 2) (v := .map (some nb)) rfl rfl (by kernel_rfl) (by kernel_rfl) (by kernel_rfl) (by kernel_rfl) (by kernel_rfl) (At.grp 0 0 rfl rfl) rfl ?_
  refine GL_pure (E' := [⟨10, [], .map (some q)⟩, ⟨9, [], .map (some nb)⟩, ⟨8, [], .pointer (some ⟨d, 2, none⟩)⟩, ⟨7, [], .pointer (some ⟨d, 0, none⟩)⟩, ⟨6, [], .pointer (some ⟨d, 0, none⟩)⟩, ⟨0, [], .pointer (some ⟨d, 0, none⟩)⟩, ⟨1, [], .string dir⟩, ⟨2, [], .map (some q)⟩]) [0] (by kernel_rfl) (j := 5) rfl ?_
  refine GL_heap rfl (H' := ([(nb, .map (encM nm) nc)] :: [(d, .cells #[.int .i64 room, bv, .map (some nb), .map (some kb), .map (some cb), .bool fails, .bool once, .int .i64 calls] 64 (0, 0))] :: [(cb, .map (encM cm) cc)] :: H)) (fun w h => (h.front (j := 1) rfl)) ?_
  refine GL_call (i := 5) (ch := []) (f := 38) (fst := #[]) (caps := #[]) (vs := [.map (some nb), .map (some q)]) rfl rfl rfl (by kernel_rfl) (by kernel_rfl) Try.func38 rfl rfl (by kernel_rfl) (by kernel_rfl) (chSure_of (by kernel_rfl)) (vApply nb q nc xc nm xm hn hx hv _ _ (At.cons (At.cons hA))) ?_
  rintro v H' ⟨dn1, hdn2, rfl, rfl⟩
  refine GL_fin (E' := [⟨0, [], .pointer (some ⟨d, 0, none⟩)⟩, ⟨1, [], .string dir⟩, ⟨2, [], .map (some q)⟩]) [] [0, 1, 2] rfl (by kernel_rfl) ?_
  refine N_then ?_
  refine G_regionH ([(nb, .map (encM ((foldS (nm, nc) dn1).1)) ((foldS (nm, nc) dn1).2))] :: [(d, .cells #[.int .i64 room, bv, .map (some nb), .map (some kb), .map (some cb), .bool fails, .bool once, .int .i64 calls] 64 (0, 0))] :: H) (by kernel_rfl) ?_
  refine GH_take (E' := [⟨12, [], .pointer (some ⟨d, 0, none⟩)⟩, ⟨0, [], .pointer (some ⟨d, 0, none⟩)⟩, ⟨1, [], .string dir⟩, ⟨2, [], .map (some q)⟩]) 0 (by kernel_rfl) (by kernel_rfl) (by kernel_rfl) (by kernel_rfl) (by kernel_rfl) (fun w h => (((h.front (j := 1) rfl).front (j := 1) rfl).erase 2)) ?_ ?_
  ·
    refine GL_pure (E' := [⟨12, [], .pointer (some ⟨d, 0, none⟩)⟩, ⟨0, [], .pointer (some ⟨d, 0, none⟩)⟩, ⟨1, [], .string dir⟩, ⟨2, [], .map (some q)⟩]) [0] (by kernel_rfl) (j := 1) rfl ?_
    exact GL_yend (by kernel_rfl) (by kernel_rfl)
  refine GH_nil (ad := ⟨d, 0, none⟩) 1 rfl rfl rfl (by kernel_rfl) (by kernel_rfl) (by kernel_rfl) (by kernel_rfl) (by kernel_rfl) (fun w h => (((h.front (j := 1) rfl).front (j := 1) rfl).erase 2)) ?_
  refine GH_take (E' := [⟨14, [], .pointer (some ⟨d, 4, none⟩)⟩, ⟨13, [], .pointer (some ⟨d, 0, none⟩)⟩, ⟨12, [], .pointer (some ⟨d, 0, none⟩)⟩, ⟨0, [], .pointer (some ⟨d, 0, none⟩)⟩, ⟨1, [], .string dir⟩, ⟨2, [], .map (some q)⟩]) 2 (by kernel_rfl) (by kernel_rfl) (by kernel_rfl) (by kernel_rfl) (by kernel_rfl) (fun w h => (((h.front (j := 1) rfl).front (j := 1) rfl).erase 2)) ?_ ?_
  ·
    refine GL_pure (E' := [⟨14, [], .pointer (some ⟨d, 4, none⟩)⟩, ⟨13, [], .pointer (some ⟨d, 0, none⟩)⟩, ⟨12, [], .pointer (some ⟨d, 0, none⟩)⟩, ⟨0, [], .pointer (some ⟨d, 0, none⟩)⟩, ⟨1, [], .string dir⟩, ⟨2, [], .map (some q)⟩]) [0] (by kernel_rfl) (j := 3) rfl ?_
    exact GL_yend (by kernel_rfl) (by kernel_rfl)
  refine GH_take (E' := [⟨15, [], .map (some cb)⟩, ⟨14, [], .pointer (some ⟨d, 4, none⟩)⟩, ⟨13, [], .pointer (some ⟨d, 0, none⟩)⟩, ⟨12, [], .pointer (some ⟨d, 0, none⟩)⟩, ⟨0, [], .pointer (some ⟨d, 0, none⟩)⟩, ⟨1, [], .string dir⟩, ⟨2, [], .map (some q)⟩]) 3 (by kernel_rfl) (by kernel_rfl) (by kernel_rfl) (by kernel_rfl) (by kernel_rfl) (fun w h => (((h.front (j := 1) rfl).front (j := 1) rfl).erase 2)) ?_ ?_
  ·
    refine GL_load (i := 3) (ch := []) (b := d) (off := 4) (v := .map (some cb)) rfl rfl (by kernel_rfl) (by kernel_rfl) (by kernel_rfl) (by kernel_rfl) (by kernel_rfl) (At.grp 1 0 rfl rfl) rfl ?_
    exact GL_yend (by kernel_rfl) (by kernel_rfl)
  refine GH_take (E' := [⟨16, [], .string dir⟩, ⟨15, [], .map (some cb)⟩, ⟨14, [], .pointer (some ⟨d, 4, none⟩)⟩, ⟨13, [], .pointer (some ⟨d, 0, none⟩)⟩, ⟨12, [], .pointer (some ⟨d, 0, none⟩)⟩, ⟨0, [], .pointer (some ⟨d, 0, none⟩)⟩, ⟨1, [], .string dir⟩, ⟨2, [], .map (some q)⟩]) 4 (by kernel_rfl) (by kernel_rfl) (by kernel_rfl) (by kernel_rfl) (by kernel_rfl) (fun w h => (((h.front (j := 1) rfl).front (j := 1) rfl).erase 2)) ?_ ?_
  ·
    refine GL_pure (E' := [⟨16, [], .string dir⟩, ⟨15, [], .map (some cb)⟩, ⟨14, [], .pointer (some ⟨d, 4, none⟩)⟩, ⟨13, [], .pointer (some ⟨d, 0, none⟩)⟩, ⟨12, [], .pointer (some ⟨d, 0, none⟩)⟩, ⟨0, [], .pointer (some ⟨d, 0, none⟩)⟩, ⟨1, [], .string dir⟩, ⟨2, [], .map (some q)⟩]) [0] (by kernel_rfl) (j := 5) rfl ?_
    exact GL_yend (by kernel_rfl) (by kernel_rfl)
  refine GH_take (E' := [⟨17, [], .pointer (some ⟨d, 0, none⟩)⟩, ⟨16, [], .string dir⟩, ⟨15, [], .map (some cb)⟩, ⟨14, [], .pointer (some ⟨d, 4, none⟩)⟩, ⟨13, [], .pointer (some ⟨d, 0, none⟩)⟩, ⟨12, [], .pointer (some ⟨d, 0, none⟩)⟩, ⟨0, [], .pointer (some ⟨d, 0, none⟩)⟩, ⟨1, [], .string dir⟩, ⟨2, [], .map (some q)⟩]) 5 (by kernel_rfl) (by kernel_rfl) (by kernel_rfl) (by kernel_rfl) (by kernel_rfl) (fun w h => (((h.front (j := 1) rfl).front (j := 1) rfl).erase 2)) ?_ ?_
  ·
    refine GL_pure (E' := [⟨17, [], .pointer (some ⟨d, 0, none⟩)⟩, ⟨16, [], .string dir⟩, ⟨15, [], .map (some cb)⟩, ⟨14, [], .pointer (some ⟨d, 4, none⟩)⟩, ⟨13, [], .pointer (some ⟨d, 0, none⟩)⟩, ⟨12, [], .pointer (some ⟨d, 0, none⟩)⟩, ⟨0, [], .pointer (some ⟨d, 0, none⟩)⟩, ⟨1, [], .string dir⟩, ⟨2, [], .map (some q)⟩]) [0] (by kernel_rfl) (j := 6) rfl ?_
    exact GL_yend (by kernel_rfl) (by kernel_rfl)
  refine GH_nil (ad := ⟨d, 0, none⟩) 6 rfl rfl rfl (by kernel_rfl) (by kernel_rfl) (by kernel_rfl) (by kernel_rfl) (by kernel_rfl) (fun w h => (((h.front (j := 1) rfl).front (j := 1) rfl).erase 2)) ?_
  refine GH_take (E' := [⟨19, [], .pointer (some ⟨d, 4, none⟩)⟩, ⟨18, [], .pointer (some ⟨d, 0, none⟩)⟩, ⟨17, [], .pointer (some ⟨d, 0, none⟩)⟩, ⟨16, [], .string dir⟩, ⟨15, [], .map (some cb)⟩, ⟨14, [], .pointer (some ⟨d, 4, none⟩)⟩, ⟨13, [], .pointer (some ⟨d, 0, none⟩)⟩, ⟨12, [], .pointer (some ⟨d, 0, none⟩)⟩, ⟨0, [], .pointer (some ⟨d, 0, none⟩)⟩, ⟨1, [], .string dir⟩, ⟨2, [], .map (some q)⟩]) 7 (by kernel_rfl) (by kernel_rfl) (by kernel_rfl) (by kernel_rfl) (by kernel_rfl) (fun w h => (((h.front (j := 1) rfl).front (j := 1) rfl).erase 2)) ?_ ?_
  ·
    refine GL_pure (E' := [⟨19, [], .pointer (some ⟨d, 4, none⟩)⟩, ⟨18, [], .pointer (some ⟨d, 0, none⟩)⟩, ⟨17, [], .pointer (some ⟨d, 0, none⟩)⟩, ⟨16, [], .string dir⟩, ⟨15, [], .map (some cb)⟩, ⟨14, [], .pointer (some ⟨d, 4, none⟩)⟩, ⟨13, [], .pointer (some ⟨d, 0, none⟩)⟩, ⟨12, [], .pointer (some ⟨d, 0, none⟩)⟩, ⟨0, [], .pointer (some ⟨d, 0, none⟩)⟩, ⟨1, [], .string dir⟩, ⟨2, [], .map (some q)⟩]) [0] (by kernel_rfl) (j := 8) rfl ?_
    exact GL_yend (by kernel_rfl) (by kernel_rfl)
  refine GH_take (E' := [⟨20, [], .map (some cb)⟩, ⟨19, [], .pointer (some ⟨d, 4, none⟩)⟩, ⟨18, [], .pointer (some ⟨d, 0, none⟩)⟩, ⟨17, [], .pointer (some ⟨d, 0, none⟩)⟩, ⟨16, [], .string dir⟩, ⟨15, [], .map (some cb)⟩, ⟨14, [], .pointer (some ⟨d, 4, none⟩)⟩, ⟨13, [], .pointer (some ⟨d, 0, none⟩)⟩, ⟨12, [], .pointer (some ⟨d, 0, none⟩)⟩, ⟨0, [], .pointer (some ⟨d, 0, none⟩)⟩, ⟨1, [], .string dir⟩, ⟨2, [], .map (some q)⟩]) 8 (by kernel_rfl) (by kernel_rfl) (by kernel_rfl) (by kernel_rfl) (by kernel_rfl) (fun w h => (((h.front (j := 1) rfl).front (j := 1) rfl).erase 2)) ?_ ?_
  ·
    refine GL_load (i := 8) (ch := []) (b := d) (off := 4) (v := .map (some cb)) rfl rfl (by kernel_rfl) (by kernel_rfl) (by kernel_rfl) (by kernel_rfl) (by kernel_rfl) (At.grp 1 0 rfl rfl) rfl ?_
    exact GL_yend (by kernel_rfl) (by kernel_rfl)
  refine GH_take (E' := [⟨21, [], .string dir⟩, ⟨20, [], .map (some cb)⟩, ⟨19, [], .pointer (some ⟨d, 4, none⟩)⟩, ⟨18, [], .pointer (some ⟨d, 0, none⟩)⟩, ⟨17, [], .pointer (some ⟨d, 0, none⟩)⟩, ⟨16, [], .string dir⟩, ⟨15, [], .map (some cb)⟩, ⟨14, [], .pointer (some ⟨d, 4, none⟩)⟩, ⟨13, [], .pointer (some ⟨d, 0, none⟩)⟩, ⟨12, [], .pointer (some ⟨d, 0, none⟩)⟩, ⟨0, [], .pointer (some ⟨d, 0, none⟩)⟩, ⟨1, [], .string dir⟩, ⟨2, [], .map (some q)⟩]) 9 (by kernel_rfl) (by kernel_rfl) (by kernel_rfl) (by kernel_rfl) (by kernel_rfl) (fun w h => (((h.front (j := 1) rfl).front (j := 1) rfl).erase 2)) ?_ ?_
  ·
    refine GL_pure (E' := [⟨21, [], .string dir⟩, ⟨20, [], .map (some cb)⟩, ⟨19, [], .pointer (some ⟨d, 4, none⟩)⟩, ⟨18, [], .pointer (some ⟨d, 0, none⟩)⟩, ⟨17, [], .pointer (some ⟨d, 0, none⟩)⟩, ⟨16, [], .string dir⟩, ⟨15, [], .map (some cb)⟩, ⟨14, [], .pointer (some ⟨d, 4, none⟩)⟩, ⟨13, [], .pointer (some ⟨d, 0, none⟩)⟩, ⟨12, [], .pointer (some ⟨d, 0, none⟩)⟩, ⟨0, [], .pointer (some ⟨d, 0, none⟩)⟩, ⟨1, [], .string dir⟩, ⟨2, [], .map (some q)⟩]) [0] (by kernel_rfl) (j := 10) rfl ?_
    exact GL_yend (by kernel_rfl) (by kernel_rfl)
  refine GH_take (E' := [⟨23, [], .map (some q)⟩, ⟨21, [], .string dir⟩, ⟨20, [], .map (some cb)⟩, ⟨19, [], .pointer (some ⟨d, 4, none⟩)⟩, ⟨18, [], .pointer (some ⟨d, 0, none⟩)⟩, ⟨17, [], .pointer (some ⟨d, 0, none⟩)⟩, ⟨16, [], .string dir⟩, ⟨15, [], .map (some cb)⟩, ⟨14, [], .pointer (some ⟨d, 4, none⟩)⟩, ⟨13, [], .pointer (some ⟨d, 0, none⟩)⟩, ⟨12, [], .pointer (some ⟨d, 0, none⟩)⟩, ⟨0, [], .pointer (some ⟨d, 0, none⟩)⟩, ⟨1, [], .string dir⟩, ⟨2, [], .map (some q)⟩]) 11 (by kernel_rfl) (by kernel_rfl) (by kernel_rfl) (by kernel_rfl) (by kernel_rfl) (fun w h => (((h.front (j := 1) rfl).front (j := 1) rfl).erase 2)) ?_ ?_
  ·
    refine GL_pure (E' := [⟨23, [], .map (some q)⟩, ⟨21, [], .string dir⟩, ⟨20, [], .map (some cb)⟩, ⟨19, [], .pointer (some ⟨d, 4, none⟩)⟩, ⟨18, [], .pointer (some ⟨d, 0, none⟩)⟩, ⟨17, [], .pointer (some ⟨d, 0, none⟩)⟩, ⟨16, [], .string dir⟩, ⟨15, [], .map (some cb)⟩, ⟨14, [], .pointer (some ⟨d, 4, none⟩)⟩, ⟨13, [], .pointer (some ⟨d, 0, none⟩)⟩, ⟨12, [], .pointer (some ⟨d, 0, none⟩)⟩, ⟨0, [], .pointer (some ⟨d, 0, none⟩)⟩, ⟨1, [], .string dir⟩, ⟨2, [], .map (some q)⟩]) [0] (by kernel_rfl) (j := 12) rfl ?_
    exact GL_yend (by kernel_rfl) (by kernel_rfl)
  refine GH_eff2 10 12 (by kernel_rfl) (by kernel_rfl) (by kernel_rfl) (by kernel_rfl) (by kernel_rfl) ?_ ?_
  ·
    refine GL_lookup (i := 10) (ch := []) (kt := 9) (et := 73) (r := cb) (c := cc) (m := cm) (k := dir) (z := .slice none 0 0) (ov := none) rfl rfl (by kernel_rfl) (by kernel_rfl) (by kernel_rfl) (by kernel_rfl) (by kernel_rfl) (by kernel_rfl) (by kernel_rfl) (by kernel_rfl) (At.grp 2 0 rfl rfl) (fun _ => hg) ?_
    refine GH_back (by kernel_rfl) (fun w h => (((h.front (j := 1) rfl).front (j := 1) rfl).erase 2)) ?_
    refine GH_eff 12 (by kernel_rfl) (by kernel_rfl) (by kernel_rfl) ?_
    refine GL_buildSlice (i := 12) (ch := []) (e := 72) (l := [(0, .map (some q))]) (c := [.map (some q)]) rfl rfl (by kernel_rfl) (by kernel_rfl) (by kernel_rfl) (by kernel_rfl) (by kernel_rfl) (fun b3 => ?_)
    refine GH_back (by kernel_rfl) (fun w h => ((((h.front (j := 2) rfl).front (j := 2) rfl).erase 3).erase 2)) ?_
    refine GH_more ([(b3, .cells #[.map (some q)] 72 (0, 0))] :: [(nb, .map (encM ((foldS (nm, nc) dn1).1)) ((foldS (nm, nc) dn1).2))] :: [(d, .cells #[.int .i64 room, bv, .map (some nb), .map (some kb), .map (some cb), .bool fails, .bool once, .int .i64 calls] 64 (0, 0))] :: H) (fun w h => (((h.front (j := 2) rfl).front (j := 2) rfl).erase 2)) ?_
    refine GH_eff 13 (by kernel_rfl) (by kernel_rfl) (by kernel_rfl) ?_
    refine GL_heap rfl (H' := ([] :: [(b3, .cells #[.map (some q)] 72 (0, 0))] :: [(nb, .map (encM ((foldS (nm, nc) dn1).1)) ((foldS (nm, nc) dn1).2))] :: [(d, .cells #[.int .i64 room, bv, .map (some nb), .map (some kb), .map (some cb), .bool fails, .bool once, .int .i64 calls] 64 (0, 0))] :: [(cb, .map (encM cm) cc)] :: H)) (fun w h => h.flat (List.Perm.refl _)) ?_
    refine GL_append (i := 13) (ch := []) (t := 73) (tx := 73) (e := 72) (inf := Try.t72) (s := .slice none 0 0) (x := .slice (some ⟨b3, 0, none⟩) 1 1) (n := 0) (m := 1) (j := 0) (cs := []) (news := [.map (some q)]) (g := []) (S := (inG [(b3, .cells #[.map (some q)] 72 (0, 0))])) rfl rfl rfl rfl (by kernel_rfl) (by kernel_rfl) (by kernel_rfl) rfl rfl (.inl ⟨72, (by kernel_rfl)⟩) (fun ⟨_, h⟩ => by cases h) (fun _ => ⟨72, (by kernel_rfl)⟩) (by kernel_rfl) (by kernel_rfl) (by kernel_rfl) rfl Own.nil (SrcOf.slice _ _ _ _ Rd.lit (fun h => by cases h)) (at_inG 1 rfl) (by kernel_rfl) (by intro u hu; rcases List.mem_singleton.1 hu with rfl; rfl) (by omega) (by show (0 + 1) * 8 ≤ 140737488355328; omega) (fun v4 g5 hO6 => ?_)
    refine GH_back (by kernel_rfl) (fun w h => (((((h.front (j := 3) rfl).front (j := 3) rfl).front (j := 3) rfl).erase 4).erase 3)) ?_
    refine GH_more (g5 :: [(b3, .cells #[.map (some q)] 72 (0, 0))] :: [(nb, .map (encM ((foldS (nm, nc) dn1).1)) ((foldS (nm, nc) dn1).2))] :: [(d, .cells #[.int .i64 room, bv, .map (some nb), .map (some kb), .map (some cb), .bool fails, .bool once, .int .i64 calls] 64 (0, 0))] :: H) (fun w h => ((((h.front (j := 3) rfl).front (j := 3) rfl).front (j := 3) rfl).erase 3)) ?_
    refine GH_eff 14 (by kernel_rfl) (by kernel_rfl) (by kernel_rfl) ?_
    refine GL_mapPut (i := 14) (ch := []) (kt := 9) (et := 73) (r := cb) (c := cc) (j := 4) (q := 0) (m := cm) (k := dir) (v := v4) (H' := (g5 :: [(b3, .cells #[.map (some q)] 72 (0, 0))] :: [(nb, .map (encM ((foldS (nm, nc) dn1).1)) ((foldS (nm, nc) dn1).2))] :: [(d, .cells #[.int .i64 room, bv, .map (some nb), .map (some kb), .map (some cb), .bool fails, .bool once, .int .i64 calls] 64 (0, 0))] :: [(cb, .map (encM (mput cm cc dir (v4))) (if mhas cm dir then cc else cc + 1))] :: H)) rfl (.inl rfl) (by kernel_rfl) (by kernel_rfl) (by kernel_rfl) (by kernel_rfl) (by kernel_rfl) (by kernel_rfl) (by kernel_rfl) (by kernel_rfl) rfl rfl rfl ?_
    refine GH_back (by kernel_rfl) (fun w h => (((((h.front (j := 3) rfl).front (j := 3) rfl).front (j := 3) rfl).front (j := 3) rfl).erase 4)) ?_
    refine GH_done (E' := []) [] (by kernel_rfl) (by kernel_rfl) ?_
    refine N_heap (H' := ([(d, .cells #[.int .i64 room, bv, .map (some nb), .map (some kb), .map (some cb), .bool fails, .bool once, .int .i64 calls] 64 (0, 0))] :: [(nb, .map (encM ((foldS (nm, nc) dn1).1)) ((foldS (nm, nc) dn1).2))] :: [(cb, .map (encM (mput cm cc dir (v4))) (if mhas cm dir then cc else cc + 1))] :: g5 :: H)) (fun w h => ((((h.front (j := 4) rfl).front (j := 3) rfl).front (j := 4) rfl).erase 4)) ?_
    refine N_ret [] [] rfl (by kernel_rfl) rfl ?_
    exact ⟨_, _, g5, hdn2, hO6, rfl, rfl⟩
  ·
    refine GL_buildSlice (i := 12) (ch := []) (e := 72) (l := [(0, .map (some q))]) (c := [.map (some q)]) rfl rfl (by kernel_rfl) (by kernel_rfl) (by kernel_rfl) (by kernel_rfl) (by kernel_rfl) (fun b7 => ?_)
    refine GH_back (by kernel_rfl) (fun w h => ((((h.front (j := 2) rfl).front (j := 2) rfl).erase 3).erase 2)) ?_
    refine GH_more ([(b7, .cells #[.map (some q)] 72 (0, 0))] :: [(nb, .map (encM ((foldS (nm, nc) dn1).1)) ((foldS (nm, nc) dn1).2))] :: [(d, .cells #[.int .i64 room, bv, .map (some nb), .map (some kb), .map (some cb), .bool fails, .bool once, .int .i64 calls] 64 (0, 0))] :: H) (fun w h => (((h.front (j := 2) rfl).front (j := 2) rfl).erase 2)) ?_
    refine GH_eff 10 (by kernel_rfl) (by kernel_rfl) (by kernel_rfl) ?_
    refine GL_lookup (i := 10) (ch := []) (kt := 9) (et := 73) (r := cb) (c := cc) (m := cm) (k := dir) (z := .slice none 0 0) (ov := none) rfl rfl (by kernel_rfl) (by kernel_rfl) (by kernel_rfl) (by kernel_rfl) (by kernel_rfl) (by kernel_rfl) (by kernel_rfl) (by kernel_rfl) (At.grp 3 0 rfl rfl) (fun _ => hg) ?_
    refine GH_back (by kernel_rfl) (fun w h => ((((h.front (j := 2) rfl).front (j := 2) rfl).front (j := 2) rfl).erase 3)) ?_
    refine GH_eff 13 (by kernel_rfl) (by kernel_rfl) (by kernel_rfl) ?_
    refine GL_heap rfl (H' := ([] :: [(b7, .cells #[.map (some q)] 72 (0, 0))] :: [(nb, .map (encM ((foldS (nm, nc) dn1).1)) ((foldS (nm, nc) dn1).2))] :: [(d, .cells #[.int .i64 room, bv, .map (some nb), .map (some kb), .map (some cb), .bool fails, .bool once, .int .i64 calls] 64 (0, 0))] :: [(cb, .map (encM cm) cc)] :: H)) (fun w h => h.flat (List.Perm.refl _)) ?_
    refine GL_append (i := 13) (ch := []) (t := 73) (tx := 73) (e := 72) (inf := Try.t72) (s := .slice none 0 0) (x := .slice (some ⟨b7, 0, none⟩) 1 1) (n := 0) (m := 1) (j := 0) (cs := []) (news := [.map (some q)]) (g := []) (S := (inG [(b7, .cells #[.map (some q)] 72 (0, 0))])) rfl rfl rfl rfl (by kernel_rfl) (by kernel_rfl) (by kernel_rfl) rfl rfl (.inl ⟨72, (by kernel_rfl)⟩) (fun ⟨_, h⟩ => by cases h) (fun _ => ⟨72, (by kernel_rfl)⟩) (by kernel_rfl) (by kernel_rfl) (by kernel_rfl) rfl Own.nil (SrcOf.slice _ _ _ _ Rd.lit (fun h => by cases h)) (at_inG 1 rfl) (by kernel_rfl) (by intro u hu; rcases List.mem_singleton.1 hu with rfl; rfl) (by omega) (by show (0 + 1) * 8 ≤ 140737488355328; omega) (fun v8 g9 hO10 => ?_)
    refine GH_back (by kernel_rfl) (fun w h => (((((h.front (j := 3) rfl).front (j := 3) rfl).front (j := 3) rfl).erase 4).erase 3)) ?_
    refine GH_more (g9 :: [(b7, .cells #[.map (some q)] 72 (0, 0))] :: [(nb, .map (encM ((foldS (nm, nc) dn1).1)) ((foldS (nm, nc) dn1).2))] :: [(d, .cells #[.int .i64 room, bv, .map (some nb), .map (some kb), .map (some cb), .bool fails, .bool once, .int .i64 calls] 64 (0, 0))] :: H) (fun w h => ((((h.front (j := 3) rfl).front (j := 3) rfl).front (j := 3) rfl).erase 3)) ?_
    refine GH_eff 14 (by kernel_rfl) (by kernel_rfl) (by kernel_rfl) ?_
    refine GL_mapPut (i := 14) (ch := []) (kt := 9) (et := 73) (r := cb) (c := cc) (j := 4) (q := 0) (m := cm) (k := dir) (v := v8) (H' := (g9 :: [(b7, .cells #[.map (some q)] 72 (0, 0))] :: [(nb, .map (encM ((foldS (nm, nc) dn1).1)) ((foldS (nm, nc) dn1).2))] :: [(d, .cells #[.int .i64 room, bv, .map (some nb), .map (some kb), .map (some cb), .bool fails, .bool once, .int .i64 calls] 64 (0, 0))] :: [(cb, .map (encM (mput cm cc dir (v8))) (if mhas cm dir then cc else cc + 1))] :: H)) rfl (.inl rfl) (by kernel_rfl) (by kernel_rfl) (by kernel_rfl) (by kernel_rfl) (by kernel_rfl) (by kernel_rfl) (by kernel_rfl) (by kernel_rfl) rfl rfl rfl ?_
    refine GH_back (by kernel_rfl) (fun w h => (((((h.front (j := 3) rfl).front (j := 3) rfl).front (j := 3) rfl).front (j := 3) rfl).erase 4)) ?_
    refine GH_done (E' := []) [] (by kernel_rfl) (by kernel_rfl) ?_
    refine N_heap (H' := ([(d, .cells #[.int .i64 room, bv, .map (some nb), .map (some kb), .map (some cb), .bool fails, .bool once, .int .i64 calls] 64 (0, 0))] :: [(nb, .map (encM ((foldS (nm, nc) dn1).1)) ((foldS (nm, nc) dn1).2))] :: [(cb, .map (encM (mput cm cc dir (v8))) (if mhas cm dir then cc else cc + 1))] :: g9 :: H)) (fun w h => ((((h.front (j := 4) rfl).front (j := 3) rfl).front (j := 4) rfl).erase 4)) ?_
    refine N_ret [] [] rfl (by kernel_rfl) rfl ?_
    exact ⟨_, _, g9, hdn2, hO10, rfl, rfl⟩

end Go.Proofs.Ytbmieiffboenbaa

namespace Go.Proofs.Ytbmieiffboenbaa
open Go.Sw Go.Lib Go.Vf Go.RowKit


set_option maxHeartbeats 1000000 in
theorem vWrite (d nb kb cb nc cc : Nat) (room calls : Int) (bv : Value) (bg : Grp) (ps : List Value) (m : Nat) (fails once : Bool) (nm cm : SM) (path : ByteArray) (szf : Value → Nat) (hpath : path.size ≤ 9223372036854775807) (hca : -9223372036854775808 ≤ calls ∧ calls ≤ 9223372036854775807) (hn : MapOk nm nc) (hs : sumN szf nm ≤ 1000000000000) (hw : ∀ v, mget nm path = some v → szf v ≤ 1000000000000) (hO : Own 66 1 bv bg m ps) (hm : m ≤ 1000000) (b off n cap : Nat) (S : Nat → Obj → Prop) (l : List UInt8) (hrd : Rd S (some ⟨b, off, none⟩) (u8s l)) (hl : l.length = n) (hn1 : n ≤ 1000000000) (W0 : World) (H : List Grp) (hg : mget nm path = none ∨ ∃ p a c kv, mget nm path = some (.pointer (some ⟨p, 0, none⟩)) ∧ At W0 H p (.cells #[.slice a (szf (.pointer (some ⟨p, 0, none⟩))) c, kv] 68 (0, 0))) (hdir : mget cm (dirB path) = none) (hS : ∀ y o, S y o → At W0 H y o) (hB : ∀ e ∈ nm, ∃ p a c kv, e.2.1 = .pointer (some ⟨p, 0, none⟩) ∧ At W0 H p (.cells #[.slice a (szf e.2.1) c, kv] 68 (0, 0))) : Tri Try.prog 13 #[.pointer (some ⟨d, 0, none⟩), .string path, .slice (some ⟨b, off, none⟩) n cap] W0 ([(d, .cells #[.int .i64 room, bv, .map (some nb), .map (some kb), .map (some cb), .bool fails, .bool once, .int .i64 calls] 64 (0, 0))] :: [(nb, .map (encM nm) nc)] :: [(cb, .map (encM cm) cc)] :: bg :: H) (fun v H' => ((callS fails once calls (rightB path)).1 ≠ 0 ∧ v = .int .i64 (callS fails once calls (rightB path)).1 ∧ H' = ([(d, .cells #[.int .i64 room, bv, .map (some nb), .map (some kb), .map (some cb), .bool ((callS fails once calls (rightB path)).2.1), .bool once, .int .i64 ((callS fails once calls (rightB path)).2.2)] 64 (0, 0))] :: [(nb, .map (encM nm) nc)] :: [(cb, .map (encM cm) cc)] :: bg :: H)) ∨ ((callS fails once calls (rightB path)).1 = 0 ∧ ((sumN szf nm : Nat) : Int) - (((match mget nm path with | none => 0 | some v => szf v) : Nat) : Int) + (n : Int) > room ∧ v = .int .i64 61 ∧ H' = ([(d, .cells #[.int .i64 room, bv, .map (some nb), .map (some kb), .map (some cb), .bool ((callS fails once calls (rightB path)).2.1), .bool once, .int .i64 ((callS fails once calls (rightB path)).2.2)] 64 (0, 0))] :: [(nb, .map (encM nm) nc)] :: [(cb, .map (encM cm) cc)] :: bg :: H)) ∨ ((callS fails once calls (rightB path)).1 = 0 ∧ ¬ ((sumN szf nm : Nat) : Int) - (((match mget nm path with | none => 0 | some v => szf v) : Nat) : Int) + (n : Int) > room ∧ v = .int .i64 0 ∧ ∃ p q a1 c1 a2 c2 x g g1 bg2, Own 5 1 (.slice a1 n c1) g1 n (u8s l) ∧ Own 66 1 (.slice a2 (m + 1) c2) bg2 (m + 1) (ps ++ [.pointer (some ⟨p, 0, none⟩)]) ∧ Own 72 1 x g 1 [.map (some q)] ∧ H' = [(d, .cells #[.int .i64 room, .slice a2 (m + 1) c2, .map (some nb), .map (some kb), .map (some cb), .bool (callS fails once calls (rightB path)).2.1, .bool once, .int .i64 (callS fails once calls (rightB path)).2.2] 64 (0, 0))] :: [(nb, .map (encM (foldS (nm, nc) [(path, .pointer (some ⟨p, 0, none⟩), 0)]).1) (foldS (nm, nc) [(path, .pointer (some ⟨p, 0, none⟩), 0)]).2)] :: [(cb, .map (encM (mput cm cc (dirB path) x)) (if mhas cm (dirB path) then cc else cc + 1))] :: g :: [(q, .map (encM [(path, .pointer (some ⟨p, 0, none⟩), 0)]) 1)] :: bg2 :: [(p, .cells #[.slice a1 n c1, .slice none 0 0] 68 (0, 0))] :: g1 :: H)) := by
  refine Tri_of (args := [.pointer (some ⟨d, 0, none⟩), .string path, .slice (some ⟨b, off, none⟩) n cap]) (n := 65) Try.func13 rfl rfl (Nat.le_of_ble_eq_true rfl) ?_
  refine G_seq ?_
  refine G_pure (E' := [⟨0, [], .pointer (some ⟨d, 0, none⟩)⟩, ⟨1, [], .string path⟩, ⟨2, [], .slice (some ⟨b, off, none⟩) n cap⟩]) [0] [0, 1, 2] rfl (by kernel_rfl) ?_
  refine N_then ?_
  refine G_seq ?_
  refine G_seq ?_
  refine G_region ?_
  refine GL_pure (E' := [⟨12, [], .string path⟩, ⟨11, [], .pointer (some ⟨d, 0, none⟩)⟩, ⟨0, [], .pointer (some ⟨d, 0, none⟩)⟩, ⟨1, [], .string path⟩, ⟨2, [], .slice (some ⟨b, off, none⟩) n cap⟩]) [0, 0] (by kernel_rfl) (j := 2) rfl ?_
  refine GL_callQ (i := 2) (ch := []) (f := 10) (fst := #[]) (caps := #[]) (vs := [.string path]) (v := .bool (rightB path)) rfl rfl rfl (by kernel_rfl) (by kernel_rfl) Try.func10 rfl rfl (by kernel_rfl) (by kernel_rfl) (by kernel_rfl) (fun _ => vfsRight _ hpath _ _) ?_
  refine GL_call (i := 3) (ch := []) (f := 34) (fst := #[]) (caps := #[]) (vs := [.pointer (some ⟨d, 0, none⟩), .bool (rightB path)]) rfl rfl rfl (by kernel_rfl) (by kernel_rfl) Try.func34 rfl rfl (by kernel_rfl) (by kernel_rfl) (chSure_of (by kernel_rfl)) (vCall d nb kb cb room calls bv fails once (rightB path) hca _ _) ?_
  rintro v H' ⟨rfl, rfl⟩
  refine GL_fin (E' := [⟨0, [], .pointer (some ⟨d, 0, none⟩)⟩, ⟨1, [], .string path⟩, ⟨2, [], .slice (some ⟨b, off, none⟩) n cap⟩, ⟨7, [], .int .i64 ((callS fails once calls (rightB path)).1)⟩]) [0] [0, 1, 2, 7] rfl (by kernel_rfl) ?_
  refine N_then ?_
  refine G_seq ?_
  refine G_pure (E' := [⟨0, [], .pointer (some ⟨d, 0, none⟩)⟩, ⟨1, [], .string path⟩, ⟨2, [], .slice (some ⟨b, off, none⟩) n cap⟩, ⟨7, [], .int .i64 ((callS fails once calls (rightB path)).1)⟩, ⟨16, [], .bool (((callS fails once calls (rightB path)).1) != 0)⟩]) [0, 0] [0, 1, 2, 7, 16] rfl (by kernel_rfl) ?_
  refine N_then ?_
  refine G_cond (b := ((callS fails once calls (rightB path)).1) != 0) (by kernel_rfl) (fun hc1 => ?_) (fun hc1 => ?_)
  ·
    have hce : (callS fails once calls (rightB path)).1 ≠ 0 := by simpa using hc1
    -- L err
    refine G_seq ?_
    refine G_pure (E' := [⟨6, [], .int .i64 ((callS fails once calls (rightB path)).1)⟩]) [0, 0] [6] rfl (by kernel_rfl) ?_
    refine N_then ?_
    refine G_ret ?_
    refine N_then_ret ?_
    refine N_heap (H' := ([(d, .cells #[.int .i64 room, bv, .map (some nb), .map (some kb), .map (some cb), .bool ((callS fails once calls (rightB path)).2.1), .bool once, .int .i64 ((callS fails once calls (rightB path)).2.2)] 64 (0, 0))] :: [(nb, .map (encM nm) nc)] :: [(cb, .map (encM cm) cc)] :: bg :: H)) (fun w h => ((((h.front (j := 3) rfl).front (j := 3) rfl).front (j := 3) rfl).front (j := 3) rfl)) ?_
    refine N_ret [.tmp 6] [.int .i64 ((callS fails once calls (rightB path)).1)] rfl (by kernel_rfl) rfl ?_
    exact .inl ⟨hce, rfl, rfl⟩
  ·
    have hce : (callS fails once calls (rightB path)).1 = 0 := by simpa using hc1
    refine G_skip ?_
    refine N_then ?_
    refine G_seq ?_
    refine G_pure (E' := [⟨0, [], .pointer (some ⟨d, 0, none⟩)⟩, ⟨1, [], .string path⟩, ⟨2, [], .slice (some ⟨b, off, none⟩) n cap⟩, ⟨8, [], .int .i64 0⟩]) [0] [0, 1, 2, 8] rfl (by kernel_rfl) ?_
    refine N_then ?_
    refine G_seq ?_
    refine G_seq ?_
    refine G_region ?_
    refine GL_pure (E' := [⟨20, [], .pointer (some ⟨d, 2, none⟩)⟩, ⟨19, [], .pointer (some ⟨d, 0, none⟩)⟩, ⟨18, [], .pointer (some ⟨d, 0, none⟩)⟩, ⟨0, [], .pointer (some ⟨d, 0, none⟩)⟩, ⟨1, [], .string path⟩, ⟨2, [], .slice (some ⟨b, off, none⟩) n cap⟩, ⟨8, [], .int .i64 0⟩]) [0, 0, 0] (by kernel_rfl) (j := 3) rfl ?_
    refine GL_load (i := 3) (ch := []) (b := d) (off := 2) (v := .map (some nb)) rfl rfl (by kernel_rfl) (by kernel_rfl) (by kernel_rfl) (by kernel_rfl) (by kernel_rfl) (At.grp 0 0 rfl rfl) rfl ?_
    refine GL_pure (E' := [⟨22, [], .string path⟩, ⟨21, [], .map (some nb)⟩, ⟨20, [], .pointer (some ⟨d, 2, none⟩)⟩, ⟨19, [], .pointer (some ⟨d, 0, none⟩)⟩, ⟨18, [], .pointer (some ⟨d, 0, none⟩)⟩, ⟨0, [], .pointer (some ⟨d, 0, none⟩)⟩, ⟨1, [], .string path⟩, ⟨2, [], .slice (some ⟨b, off, none⟩) n cap⟩, ⟨8, [], .int .i64 0⟩]) [0] (by kernel_rfl) (j := 5) rfl ?_
    rcases hg with hg | ⟨p0, a0, c0, kv0, hg, hat0⟩
    ·
      -- G none
      refine GL_lookup (i := 5) (ch := []) (kt := 9) (et := 66) (r := nb) (c := nc) (m := nm) (k := path) (z := .pointer none) (ov := none) rfl rfl (by kernel_rfl) (by kernel_rfl) (by kernel_rfl) (by kernel_rfl) (by kernel_rfl) (by kernel_rfl) (by kernel_rfl) (by kernel_rfl) (At.grp 1 0 rfl rfl) (fun _ => hg) ?_
      refine GL_fin (E' := [⟨0, [], .pointer (some ⟨d, 0, none⟩)⟩, ⟨1, [], .string path⟩, ⟨2, [], .slice (some ⟨b, off, none⟩) n cap⟩, ⟨8, [], .int .i64 0⟩, ⟨9, [], .pointer none⟩]) [0] [0, 1, 2, 8, 9] rfl (by kernel_rfl) ?_
      refine N_then ?_
      refine G_seq ?_
      refine G_pure (E' := [⟨0, [], .pointer (some ⟨d, 0, none⟩)⟩, ⟨1, [], .string path⟩, ⟨2, [], .slice (some ⟨b, off, none⟩) n cap⟩, ⟨8, [], .int .i64 0⟩, ⟨9, [], .pointer none⟩, ⟨25, [], .bool false⟩]) [0, 0] [0, 1, 2, 8, 9, 25] rfl (by kernel_rfl) ?_
      refine N_then ?_
      refine G_condf (by kernel_rfl) ?_
      refine G_skip ?_
      refine N_then ?_
      refine G_seq ?_
      refine G_seq ?_
      refine G_regionH ([(d, .cells #[.int .i64 room, bv, .map (some nb), .map (some kb), .map (some cb), .bool ((callS fails once calls (rightB path)).2.1), .bool once, .int .i64 ((callS fails once calls (rightB path)).2.2)] 64 (0, 0))] :: [(nb, .map (encM nm) nc)] :: [(cb, .map (encM cm) cc)] :: bg :: H) (by kernel_rfl) ?_
      refine GH_take (E' := [⟨31, [], .pointer (some ⟨d, 0, none⟩)⟩, ⟨0, [], .pointer (some ⟨d, 0, none⟩)⟩, ⟨1, [], .string path⟩, ⟨2, [], .slice (some ⟨b, off, none⟩) n cap⟩, ⟨8, [], .int .i64 0⟩, ⟨9, [], .pointer none⟩, ⟨25, [], .bool false⟩]) 0 (by kernel_rfl) (by kernel_rfl) (by kernel_rfl) (by kernel_rfl) (by kernel_rfl) (fun w h => ((((h.front (j := 3) rfl).front (j := 3) rfl).front (j := 3) rfl).front (j := 3) rfl)) ?_ ?_
      ·
        refine GL_pure (E' := [⟨31, [], .pointer (some ⟨d, 0, none⟩)⟩, ⟨0, [], .pointer (some ⟨d, 0, none⟩)⟩, ⟨1, [], .string path⟩, ⟨2, [], .slice (some ⟨b, off, none⟩) n cap⟩, ⟨8, [], .int .i64 0⟩, ⟨9, [], .pointer none⟩, ⟨25, [], .bool false⟩]) [0] (by kernel_rfl) (j := 1) rfl ?_
        exact GL_yend (by kernel_rfl) (by kernel_rfl)
      refine GH_take (E' := [⟨33, [], .int .i64 0⟩, ⟨31, [], .pointer (some ⟨d, 0, none⟩)⟩, ⟨0, [], .pointer (some ⟨d, 0, none⟩)⟩, ⟨1, [], .string path⟩, ⟨2, [], .slice (some ⟨b, off, none⟩) n cap⟩, ⟨8, [], .int .i64 0⟩, ⟨9, [], .pointer none⟩, ⟨25, [], .bool false⟩]) 2 (by kernel_rfl) (by kernel_rfl) (by kernel_rfl) (by kernel_rfl) (by kernel_rfl) (fun w h => ((((h.front (j := 3) rfl).front (j := 3) rfl).front (j := 3) rfl).front (j := 3) rfl)) ?_ ?_
      ·
        refine GL_pure (E' := [⟨33, [], .int .i64 0⟩, ⟨31, [], .pointer (some ⟨d, 0, none⟩)⟩, ⟨0, [], .pointer (some ⟨d, 0, none⟩)⟩, ⟨1, [], .string path⟩, ⟨2, [], .slice (some ⟨b, off, none⟩) n cap⟩, ⟨8, [], .int .i64 0⟩, ⟨9, [], .pointer none⟩, ⟨25, [], .bool false⟩]) [0] (by kernel_rfl) (j := 3) rfl ?_
        exact GL_yend (by kernel_rfl) (by kernel_rfl)
      refine GH_take (E' := [⟨35, [], .slice (some ⟨b, off, none⟩) n cap⟩, ⟨33, [], .int .i64 0⟩, ⟨31, [], .pointer (some ⟨d, 0, none⟩)⟩, ⟨0, [], .pointer (some ⟨d, 0, none⟩)⟩, ⟨1, [], .string path⟩, ⟨2, [], .slice (some ⟨b, off, none⟩) n cap⟩, ⟨8, [], .int .i64 0⟩, ⟨9, [], .pointer none⟩, ⟨25, [], .bool false⟩]) 4 (by kernel_rfl) (by kernel_rfl) (by kernel_rfl) (by kernel_rfl) (by kernel_rfl) (fun w h => ((((h.front (j := 3) rfl).front (j := 3) rfl).front (j := 3) rfl).front (j := 3) rfl)) ?_ ?_
      ·
        refine GL_pure (E' := [⟨35, [], .slice (some ⟨b, off, none⟩) n cap⟩, ⟨33, [], .int .i64 0⟩, ⟨31, [], .pointer (some ⟨d, 0, none⟩)⟩, ⟨0, [], .pointer (some ⟨d, 0, none⟩)⟩, ⟨1, [], .string path⟩, ⟨2, [], .slice (some ⟨b, off, none⟩) n cap⟩, ⟨8, [], .int .i64 0⟩, ⟨9, [], .pointer none⟩, ⟨25, [], .bool false⟩]) [0] (by kernel_rfl) (j := 5) rfl ?_
        exact GL_yend (by kernel_rfl) (by kernel_rfl)
      refine GH_pev (v := .int .i64 ((n : Nat) : Int)) 5 rfl rfl (by kernel_rfl) (by kernel_rfl) (by kernel_rfl) (by kernel_rfl) (by kernel_rfl) (fun w h => ((((h.front (j := 3) rfl).front (j := 3) rfl).front (j := 3) rfl).front (j := 3) rfl)) ?_
      refine GH_take (E' := [⟨38, [], .pointer (some ⟨d, 0, none⟩)⟩, ⟨36, [], .int .i64 ((n : Nat) : Int)⟩, ⟨35, [], .slice (some ⟨b, off, none⟩) n cap⟩, ⟨33, [], .int .i64 0⟩, ⟨31, [], .pointer (some ⟨d, 0, none⟩)⟩, ⟨0, [], .pointer (some ⟨d, 0, none⟩)⟩, ⟨1, [], .string path⟩, ⟨2, [], .slice (some ⟨b, off, none⟩) n cap⟩, ⟨8, [], .int .i64 0⟩, ⟨9, [], .pointer none⟩, ⟨25, [], .bool false⟩]) 7 (by kernel_rfl) (by kernel_rfl) (by kernel_rfl) (by kernel_rfl) (by kernel_rfl) (fun w h => ((((h.front (j := 3) rfl).front (j := 3) rfl).front (j := 3) rfl).front (j := 3) rfl)) ?_ ?_
      ·
        refine GL_pure (E' := [⟨38, [], .pointer (some ⟨d, 0, none⟩)⟩, ⟨36, [], .int .i64 ((n : Nat) : Int)⟩, ⟨35, [], .slice (some ⟨b, off, none⟩) n cap⟩, ⟨33, [], .int .i64 0⟩, ⟨31, [], .pointer (some ⟨d, 0, none⟩)⟩, ⟨0, [], .pointer (some ⟨d, 0, none⟩)⟩, ⟨1, [], .string path⟩, ⟨2, [], .slice (some ⟨b, off, none⟩) n cap⟩, ⟨8, [], .int .i64 0⟩, ⟨9, [], .pointer none⟩, ⟨25, [], .bool false⟩]) [0] (by kernel_rfl) (j := 8) rfl ?_
        exact GL_yend (by kernel_rfl) (by kernel_rfl)
      refine GH_nil (ad := ⟨d, 0, none⟩) 8 rfl rfl rfl (by kernel_rfl) (by kernel_rfl) (by kernel_rfl) (by kernel_rfl) (by kernel_rfl) (fun w h => ((((h.front (j := 3) rfl).front (j := 3) rfl).front (j := 3) rfl).front (j := 3) rfl)) ?_
      refine GH_take (E' := [⟨40, [], .pointer (some ⟨d, 0, none⟩)⟩, ⟨39, [], .pointer (some ⟨d, 0, none⟩)⟩, ⟨38, [], .pointer (some ⟨d, 0, none⟩)⟩, ⟨36, [], .int .i64 ((n : Nat) : Int)⟩, ⟨35, [], .slice (some ⟨b, off, none⟩) n cap⟩, ⟨33, [], .int .i64 0⟩, ⟨31, [], .pointer (some ⟨d, 0, none⟩)⟩, ⟨0, [], .pointer (some ⟨d, 0, none⟩)⟩, ⟨1, [], .string path⟩, ⟨2, [], .slice (some ⟨b, off, none⟩) n cap⟩, ⟨8, [], .int .i64 0⟩, ⟨9, [], .pointer none⟩, ⟨25, [], .bool false⟩]) 9 (by kernel_rfl) (by kernel_rfl) (by kernel_rfl) (by kernel_rfl) (by kernel_rfl) (fun w h => ((((h.front (j := 3) rfl).front (j := 3) rfl).front (j := 3) rfl).front (j := 3) rfl)) ?_ ?_
      ·
        refine GL_pure (E' := [⟨40, [], .pointer (some ⟨d, 0, none⟩)⟩, ⟨39, [], .pointer (some ⟨d, 0, none⟩)⟩, ⟨38, [], .pointer (some ⟨d, 0, none⟩)⟩, ⟨36, [], .int .i64 ((n : Nat) : Int)⟩, ⟨35, [], .slice (some ⟨b, off, none⟩) n cap⟩, ⟨33, [], .int .i64 0⟩, ⟨31, [], .pointer (some ⟨d, 0, none⟩)⟩, ⟨0, [], .pointer (some ⟨d, 0, none⟩)⟩, ⟨1, [], .string path⟩, ⟨2, [], .slice (some ⟨b, off, none⟩) n cap⟩, ⟨8, [], .int .i64 0⟩, ⟨9, [], .pointer none⟩, ⟨25, [], .bool false⟩]) [0] (by kernel_rfl) (j := 10) rfl ?_
        exact GL_yend (by kernel_rfl) (by kernel_rfl)
      refine GH_take (E' := [⟨41, [], .int .i64 room⟩, ⟨40, [], .pointer (some ⟨d, 0, none⟩)⟩, ⟨39, [], .pointer (some ⟨d, 0, none⟩)⟩, ⟨38, [], .pointer (some ⟨d, 0, none⟩)⟩, ⟨36, [], .int .i64 ((n : Nat) : Int)⟩, ⟨35, [], .slice (some ⟨b, off, none⟩) n cap⟩, ⟨33, [], .int .i64 0⟩, ⟨31, [], .pointer (some ⟨d, 0, none⟩)⟩, ⟨0, [], .pointer (some ⟨d, 0, none⟩)⟩, ⟨1, [], .string path⟩, ⟨2, [], .slice (some ⟨b, off, none⟩) n cap⟩, ⟨8, [], .int .i64 0⟩, ⟨9, [], .pointer none⟩, ⟨25, [], .bool false⟩]) 10 (by kernel_rfl) (by kernel_rfl) (by kernel_rfl) (by kernel_rfl) (by kernel_rfl) (fun w h => ((((h.front (j := 3) rfl).front (j := 3) rfl).front (j := 3) rfl).front (j := 3) rfl)) ?_ ?_
      ·
        refine GL_load (i := 10) (ch := []) (b := d) (off := 0) (v := .int .i64 room) rfl rfl (by kernel_rfl) (by kernel_rfl) (by kernel_rfl) (by kernel_rfl) (by kernel_rfl) (At.grp 0 0 rfl rfl) rfl ?_
        exact GL_yend (by kernel_rfl) (by kernel_rfl)
      refine GH_eff 1 (by kernel_rfl) (by kernel_rfl) (by kernel_rfl) ?_
      refine GL_heap rfl (H' := ([(d, .cells #[.int .i64 room, bv, .map (some nb), .map (some kb), .map (some cb), .bool ((callS fails once calls (rightB path)).2.1), .bool once, .int .i64 ((callS fails once calls (rightB path)).2.2)] 64 (0, 0))] :: [(nb, .map (encM nm) nc)] :: [(cb, .map (encM cm) cc)] :: bg :: H)) (fun w h => ((h.front (j := 1) rfl).front (j := 1) rfl)) ?_
      refine GL_call (i := 1) (ch := []) (f := 26) (fst := #[]) (caps := #[]) (vs := [.pointer (some ⟨d, 0, none⟩)]) rfl rfl rfl (by kernel_rfl) (by kernel_rfl) Try.func26 rfl rfl (by kernel_rfl) (by kernel_rfl) (chSure_of (by kernel_rfl)) (vUsed d nb kb cb nc room ((callS fails once calls (rightB path)).2.2) bv ((callS fails once calls (rightB path)).2.1) once nm szf hn hs _ _ (fun e he => let ⟨p, a, c, kv, h1, h2⟩ := hB e he; ⟨p, a, c, kv, h1, (At.cons (At.cons h2))⟩)) ?_
      rintro v H' ⟨rfl, rfl⟩
      refine GH_back (by kernel_rfl) (fun w h => ((((h.front (j := 3) rfl).front (j := 3) rfl).front (j := 3) rfl).front (j := 3) rfl)) ?_
      refine GH_take (E' := [⟨34, [], .int .i64 (((sumN szf nm : Nat) : Int) - 0)⟩, ⟨32, [], .int .i64 ((sumN szf nm : Nat) : Int)⟩, ⟨41, [], .int .i64 room⟩, ⟨40, [], .pointer (some ⟨d, 0, none⟩)⟩, ⟨39, [], .pointer (some ⟨d, 0, none⟩)⟩, ⟨38, [], .pointer (some ⟨d, 0, none⟩)⟩, ⟨36, [], .int .i64 ((n : Nat) : Int)⟩, ⟨35, [], .slice (some ⟨b, off, none⟩) n cap⟩, ⟨33, [], .int .i64 0⟩, ⟨31, [], .pointer (some ⟨d, 0, none⟩)⟩, ⟨0, [], .pointer (some ⟨d, 0, none⟩)⟩, ⟨1, [], .string path⟩, ⟨2, [], .slice (some ⟨b, off, none⟩) n cap⟩, ⟨8, [], .int .i64 0⟩, ⟨9, [], .pointer none⟩, ⟨25, [], .bool false⟩]) 3 (by kernel_rfl) (by kernel_rfl) (by kernel_rfl) (by kernel_rfl) (by kernel_rfl) (fun w h => ((((h.front (j := 3) rfl).front (j := 3) rfl).front (j := 3) rfl).front (j := 3) rfl)) ?_ ?_
      ·
        have hw2 : IntKind.wrap .i64 (((sumN szf nm : Nat) : Int) - 0) = ((sumN szf nm : Nat) : Int) - 0 := w64 (by omega) (by omega)
        refine GL_pure (E' := [⟨34, [], .int .i64 (((sumN szf nm : Nat) : Int) - 0)⟩, ⟨32, [], .int .i64 ((sumN szf nm : Nat) : Int)⟩, ⟨41, [], .int .i64 room⟩, ⟨40, [], .pointer (some ⟨d, 0, none⟩)⟩, ⟨39, [], .pointer (some ⟨d, 0, none⟩)⟩, ⟨38, [], .pointer (some ⟨d, 0, none⟩)⟩, ⟨36, [], .int .i64 ((n : Nat) : Int)⟩, ⟨35, [], .slice (some ⟨b, off, none⟩) n cap⟩, ⟨33, [], .int .i64 0⟩, ⟨31, [], .pointer (some ⟨d, 0, none⟩)⟩, ⟨0, [], .pointer (some ⟨d, 0, none⟩)⟩, ⟨1, [], .string path⟩, ⟨2, [], .slice (some ⟨b, off, none⟩) n cap⟩, ⟨8, [], .int .i64 0⟩, ⟨9, [], .pointer none⟩, ⟨25, [], .bool false⟩]) [0] (Eq.trans (b := some [⟨34, [], .int .i64 (IntKind.wrap .i64 (((sumN szf nm : Nat) : Int) - 0))⟩, ⟨32, [], .int .i64 ((sumN szf nm : Nat) : Int)⟩, ⟨41, [], .int .i64 room⟩, ⟨40, [], .pointer (some ⟨d, 0, none⟩)⟩, ⟨39, [], .pointer (some ⟨d, 0, none⟩)⟩, ⟨38, [], .pointer (some ⟨d, 0, none⟩)⟩, ⟨36, [], .int .i64 ((n : Nat) : Int)⟩, ⟨35, [], .slice (some ⟨b, off, none⟩) n cap⟩, ⟨33, [], .int .i64 0⟩, ⟨31, [], .pointer (some ⟨d, 0, none⟩)⟩, ⟨0, [], .pointer (some ⟨d, 0, none⟩)⟩, ⟨1, [], .string path⟩, ⟨2, [], .slice (some ⟨b, off, none⟩) n cap⟩, ⟨8, [], .int .i64 0⟩, ⟨9, [], .pointer none⟩, ⟨25, [], .bool false⟩]) (by kernel_rfl) (by simp only [hw2])) (j := 4) rfl ?_
        exact GL_yend (by kernel_rfl) (by kernel_rfl)
      refine GH_take (E' := [⟨37, [], .int .i64 ((((sumN szf nm : Nat) : Int) - 0) + ((n : Nat) : Int))⟩, ⟨34, [], .int .i64 (((sumN szf nm : Nat) : Int) - 0)⟩, ⟨32, [], .int .i64 ((sumN szf nm : Nat) : Int)⟩, ⟨41, [], .int .i64 room⟩, ⟨40, [], .pointer (some ⟨d, 0, none⟩)⟩, ⟨39, [], .pointer (some ⟨d, 0, none⟩)⟩, ⟨38, [], .pointer (some ⟨d, 0, none⟩)⟩, ⟨36, [], .int .i64 ((n : Nat) : Int)⟩, ⟨35, [], .slice (some ⟨b, off, none⟩) n cap⟩, ⟨33, [], .int .i64 0⟩, ⟨31, [], .pointer (some ⟨d, 0, none⟩)⟩, ⟨0, [], .pointer (some ⟨d, 0, none⟩)⟩, ⟨1, [], .string path⟩, ⟨2, [], .slice (some ⟨b, off, none⟩) n cap⟩, ⟨8, [], .int .i64 0⟩, ⟨9, [], .pointer none⟩, ⟨25, [], .bool false⟩]) 6 (by kernel_rfl) (by kernel_rfl) (by kernel_rfl) (by kernel_rfl) (by kernel_rfl) (fun w h => ((((h.front (j := 3) rfl).front (j := 3) rfl).front (j := 3) rfl).front (j := 3) rfl)) ?_ ?_
      ·
        have hw3 : IntKind.wrap .i64 ((((sumN szf nm : Nat) : Int) - 0) + ((n : Nat) : Int)) = (((sumN szf nm : Nat) : Int) - 0) + ((n : Nat) : Int) := w64 (by omega) (by omega)
        refine GL_pure (E' := [⟨37, [], .int .i64 ((((sumN szf nm : Nat) : Int) - 0) + ((n : Nat) : Int))⟩, ⟨34, [], .int .i64 (((sumN szf nm : Nat) : Int) - 0)⟩, ⟨32, [], .int .i64 ((sumN szf nm : Nat) : Int)⟩, ⟨41, [], .int .i64 room⟩, ⟨40, [], .pointer (some ⟨d, 0, none⟩)⟩, ⟨39, [], .pointer (some ⟨d, 0, none⟩)⟩, ⟨38, [], .pointer (some ⟨d, 0, none⟩)⟩, ⟨36, [], .int .i64 ((n : Nat) : Int)⟩, ⟨35, [], .slice (some ⟨b, off, none⟩) n cap⟩, ⟨33, [], .int .i64 0⟩, ⟨31, [], .pointer (some ⟨d, 0, none⟩)⟩, ⟨0, [], .pointer (some ⟨d, 0, none⟩)⟩, ⟨1, [], .string path⟩, ⟨2, [], .slice (some ⟨b, off, none⟩) n cap⟩, ⟨8, [], .int .i64 0⟩, ⟨9, [], .pointer none⟩, ⟨25, [], .bool false⟩]) [0] (Eq.trans (b := some [⟨37, [], .int .i64 (IntKind.wrap .i64 ((((sumN szf nm : Nat) : Int) - 0) + ((n : Nat) : Int)))⟩, ⟨34, [], .int .i64 (((sumN szf nm : Nat) : Int) - 0)⟩, ⟨32, [], .int .i64 ((sumN szf nm : Nat) : Int)⟩, ⟨41, [], .int .i64 room⟩, ⟨40, [], .pointer (some ⟨d, 0, none⟩)⟩, ⟨39, [], .pointer (some ⟨d, 0, none⟩)⟩, ⟨38, [], .pointer (some ⟨d, 0, none⟩)⟩, ⟨36, [], .int .i64 ((n : Nat) : Int)⟩, ⟨35, [], .slice (some ⟨b, off, none⟩) n cap⟩, ⟨33, [], .int .i64 0⟩, ⟨31, [], .pointer (some ⟨d, 0, none⟩)⟩, ⟨0, [], .pointer (some ⟨d, 0, none⟩)⟩, ⟨1, [], .string path⟩, ⟨2, [], .slice (some ⟨b, off, none⟩) n cap⟩, ⟨8, [], .int .i64 0⟩, ⟨9, [], .pointer none⟩, ⟨25, [], .bool false⟩]) (by kernel_rfl) (by simp only [hw3])) (j := 7) rfl ?_
        exact GL_yend (by kernel_rfl) (by kernel_rfl)
      refine GH_take (E' := [⟨42, [], .bool (decide (((((sumN szf nm : Nat) : Int) - 0) + ((n : Nat) : Int)) > room))⟩, ⟨37, [], .int .i64 ((((sumN szf nm : Nat) : Int) - 0) + ((n : Nat) : Int))⟩, ⟨34, [], .int .i64 (((sumN szf nm : Nat) : Int) - 0)⟩, ⟨32, [], .int .i64 ((sumN szf nm : Nat) : Int)⟩, ⟨41, [], .int .i64 room⟩, ⟨40, [], .pointer (some ⟨d, 0, none⟩)⟩, ⟨39, [], .pointer (some ⟨d, 0, none⟩)⟩, ⟨38, [], .pointer (some ⟨d, 0, none⟩)⟩, ⟨36, [], .int .i64 ((n : Nat) : Int)⟩, ⟨35, [], .slice (some ⟨b, off, none⟩) n cap⟩, ⟨33, [], .int .i64 0⟩, ⟨31, [], .pointer (some ⟨d, 0, none⟩)⟩, ⟨0, [], .pointer (some ⟨d, 0, none⟩)⟩, ⟨1, [], .string path⟩, ⟨2, [], .slice (some ⟨b, off, none⟩) n cap⟩, ⟨8, [], .int .i64 0⟩, ⟨9, [], .pointer none⟩, ⟨25, [], .bool false⟩]) 11 (by kernel_rfl) (by kernel_rfl) (by kernel_rfl) (by kernel_rfl) (by kernel_rfl) (fun w h => ((((h.front (j := 3) rfl).front (j := 3) rfl).front (j := 3) rfl).front (j := 3) rfl)) ?_ ?_
      ·
        refine GL_pure (E' := [⟨42, [], .bool (decide (((((sumN szf nm : Nat) : Int) - 0) + ((n : Nat) : Int)) > room))⟩, ⟨37, [], .int .i64 ((((sumN szf nm : Nat) : Int) - 0) + ((n : Nat) : Int))⟩, ⟨34, [], .int .i64 (((sumN szf nm : Nat) : Int) - 0)⟩, ⟨32, [], .int .i64 ((sumN szf nm : Nat) : Int)⟩, ⟨41, [], .int .i64 room⟩, ⟨40, [], .pointer (some ⟨d, 0, none⟩)⟩, ⟨39, [], .pointer (some ⟨d, 0, none⟩)⟩, ⟨38, [], .pointer (some ⟨d, 0, none⟩)⟩, ⟨36, [], .int .i64 ((n : Nat) : Int)⟩, ⟨35, [], .slice (some ⟨b, off, none⟩) n cap⟩, ⟨33, [], .int .i64 0⟩, ⟨31, [], .pointer (some ⟨d, 0, none⟩)⟩, ⟨0, [], .pointer (some ⟨d, 0, none⟩)⟩, ⟨1, [], .string path⟩, ⟨2, [], .slice (some ⟨b, off, none⟩) n cap⟩, ⟨8, [], .int .i64 0⟩, ⟨9, [], .pointer none⟩, ⟨25, [], .bool false⟩]) [0] (by kernel_rfl) (j := 12) rfl ?_
        exact GL_yend (by kernel_rfl) (by kernel_rfl)
      refine GH_done (E' := [⟨0, [], .pointer (some ⟨d, 0, none⟩)⟩, ⟨1, [], .string path⟩, ⟨2, [], .slice (some ⟨b, off, none⟩) n cap⟩, ⟨42, [], .bool (decide (((((sumN szf nm : Nat) : Int) - 0) + ((n : Nat) : Int)) > room))⟩]) [0, 1, 2, 42] (by kernel_rfl) (by kernel_rfl) ?_
      refine N_then ?_
      refine G_cond (b := decide (((((sumN szf nm : Nat) : Int) - 0) + ((n : Nat) : Int)) > room)) (by kernel_rfl) (fun hc4 => ?_) (fun hc4 => ?_)
      ·
        have hro := of_decide_eq_true hc4
        -- L full
        refine G_seq ?_
        refine G_pure (E' := [⟨6, [], .int .i64 61⟩]) [0] [6] rfl (by kernel_rfl) ?_
        refine N_then ?_
        refine G_ret ?_
        refine N_then_ret ?_
        refine N_heap (H' := ([(d, .cells #[.int .i64 room, bv, .map (some nb), .map (some kb), .map (some cb), .bool ((callS fails once calls (rightB path)).2.1), .bool once, .int .i64 ((callS fails once calls (rightB path)).2.2)] 64 (0, 0))] :: [(nb, .map (encM nm) nc)] :: [(cb, .map (encM cm) cc)] :: bg :: H)) (fun w h => ((((h.front (j := 3) rfl).front (j := 3) rfl).front (j := 3) rfl).front (j := 3) rfl)) ?_
        refine N_ret [.tmp 6] [.int .i64 61] rfl (by kernel_rfl) rfl ?_
        exact .inr (.inl ⟨hce, by (simp only [hg]; exact hro), rfl, rfl⟩)
      ·
        have hro := of_decide_eq_false hc4
        refine G_skip ?_
        refine N_then ?_
        refine G_seq ?_
        refine G_region ?_
        refine GL_pure (E' := [⟨43, [], .slice (some ⟨b, off, none⟩) n cap⟩, ⟨0, [], .pointer (some ⟨d, 0, none⟩)⟩, ⟨1, [], .string path⟩, ⟨2, [], .slice (some ⟨b, off, none⟩) n cap⟩, ⟨42, [], .bool (decide (((((sumN szf nm : Nat) : Int) - 0) + ((n : Nat) : Int)) > room))⟩]) [0] (by kernel_rfl) (j := 1) rfl ?_
        refine GL_call (i := 1) (ch := []) (f := 35) (fst := #[]) (caps := #[]) (vs := [.slice (some ⟨b, off, none⟩) n cap]) rfl rfl rfl (by kernel_rfl) (by kernel_rfl) Try.func35 rfl rfl (by kernel_rfl) (by kernel_rfl) (chSure_of (by kernel_rfl)) (vClone b off n cap S l hrd hl hn1 _ _ (fun y o h => (At.cons (At.cons (At.cons (At.cons (hS y o h))))))) ?_
        rintro v7 _ ⟨g5, hO6, rfl⟩
        obtain ⟨a8, cap9, rfl, hcap10, hrd11⟩ := hO6.shape
        refine GL_pure (E' := [⟨45, [], .agg #[.slice a8 n cap9, .slice none 0 0]⟩, ⟨44, [], .slice a8 n cap9⟩, ⟨43, [], .slice (some ⟨b, off, none⟩) n cap⟩, ⟨0, [], .pointer (some ⟨d, 0, none⟩)⟩, ⟨1, [], .string path⟩, ⟨2, [], .slice (some ⟨b, off, none⟩) n cap⟩, ⟨42, [], .bool (decide (((((sumN szf nm : Nat) : Int) - 0) + ((n : Nat) : Int)) > room))⟩]) [0] (by kernel_rfl) (j := 3) rfl ?_
        refine GL_box (i := 3) (ch := []) (v := .agg #[.slice a8 n cap9, .slice none 0 0]) rfl rfl (by kernel_rfl) (by kernel_rfl) (by kernel_rfl) (by kernel_rfl) (fun b12 => ?_)
        refine GL_fin (E' := [⟨0, [], .pointer (some ⟨d, 0, none⟩)⟩, ⟨1, [], .string path⟩, ⟨10, [], .pointer (some ⟨b12, 0, none⟩)⟩]) [0] [0, 1, 10] rfl (by kernel_rfl) ?_
        refine N_then ?_
        refine G_seq ?_
        refine G_region ?_
        refine GL_pure (E' := [⟨50, [], .pointer (some ⟨d, 1, none⟩)⟩, ⟨49, [], .pointer (some ⟨d, 0, none⟩)⟩, ⟨48, [], .pointer (some ⟨d, 0, none⟩)⟩, ⟨47, [], .pointer (some ⟨d, 0, none⟩)⟩, ⟨0, [], .pointer (some ⟨d, 0, none⟩)⟩, ⟨1, [], .string path⟩, ⟨10, [], .pointer (some ⟨b12, 0, none⟩)⟩]) [0, 0, 0, 0] (by kernel_rfl) (j := 4) rfl ?_
        refine GL_load (i := 4) (ch := []) (b := d) (off := 1) (v := bv) rfl rfl (by kernel_rfl) (by kernel_rfl) (by kernel_rfl) (by kernel_rfl) (by kernel_rfl) (At.grp 2 0 rfl rfl) rfl ?_
        refine GL_pure (E' := [⟨52, [], .pointer (some ⟨b12, 0, none⟩)⟩, ⟨51, [], bv⟩, ⟨50, [], .pointer (some ⟨d, 1, none⟩)⟩, ⟨49, [], .pointer (some ⟨d, 0, none⟩)⟩, ⟨48, [], .pointer (some ⟨d, 0, none⟩)⟩, ⟨47, [], .pointer (some ⟨d, 0, none⟩)⟩, ⟨0, [], .pointer (some ⟨d, 0, none⟩)⟩, ⟨1, [], .string path⟩, ⟨10, [], .pointer (some ⟨b12, 0, none⟩)⟩]) [0] (by kernel_rfl) (j := 6) rfl ?_
        refine GL_buildSlice (i := 6) (ch := []) (e := 66) (l := [(0, .pointer (some ⟨b12, 0, none⟩))]) (c := [.pointer (some ⟨b12, 0, none⟩)]) rfl rfl (by kernel_rfl) (by kernel_rfl) (by kernel_rfl) (by kernel_rfl) (by kernel_rfl) (fun b13 => ?_)
        refine GL_append (i := 7) (ch := []) (t := 62) (tx := 62) (e := 66) (inf := Try.t66) (s := bv) (x := .slice (some ⟨b13, 0, none⟩) 1 1) (n := m) (m := 1) (j := 6) (cs := ps) (news := [.pointer (some ⟨b12, 0, none⟩)]) (g := bg) (S := (inG [(b13, .cells #[.pointer (some ⟨b12, 0, none⟩)] 66 (0, 0))])) rfl rfl rfl rfl (by kernel_rfl) (by kernel_rfl) (by kernel_rfl) rfl rfl (.inl ⟨66, (by kernel_rfl)⟩) (fun ⟨_, h⟩ => by cases h) (fun _ => ⟨66, (by kernel_rfl)⟩) (by kernel_rfl) (by kernel_rfl) (by kernel_rfl) rfl hO (SrcOf.slice _ _ _ _ Rd.lit (fun h => by cases h)) (at_inG 0 rfl) (by kernel_rfl) (by intro u hu; rcases List.mem_singleton.1 hu with rfl; rfl) (by omega) (by show (m + 1) * 8 ≤ 140737488355328; omega) (fun v14 g15 hO16 => ?_)
        obtain ⟨a17, cap18, rfl, hcap19, hrd20⟩ := hO16.shape
        refine GL_pure (E' := [⟨56, [], .pointer (some ⟨d, 1, none⟩)⟩, ⟨55, [], .pointer (some ⟨d, 0, none⟩)⟩, ⟨54, [], .slice a17 (m + 1) cap18⟩, ⟨53, [], .slice (some ⟨b13, 0, none⟩) 1 1⟩, ⟨52, [], .pointer (some ⟨b12, 0, none⟩)⟩, ⟨51, [], bv⟩, ⟨50, [], .pointer (some ⟨d, 1, none⟩)⟩, ⟨49, [], .pointer (some ⟨d, 0, none⟩)⟩, ⟨48, [], .pointer (some ⟨d, 0, none⟩)⟩, ⟨47, [], .pointer (some ⟨d, 0, none⟩)⟩, ⟨0, [], .pointer (some ⟨d, 0, none⟩)⟩, ⟨1, [], .string path⟩, ⟨10, [], .pointer (some ⟨b12, 0, none⟩)⟩]) [0, 0] (by kernel_rfl) (j := 10) rfl ?_
        refine GL_store (i := 10) (ch := []) (b := d) (off := 1) (v := .slice a17 (m + 1) cap18) (c := #[.int .i64 room, bv, .map (some nb), .map (some kb), .map (some cb), .bool ((callS fails once calls (rightB path)).2.1), .bool once, .int .i64 ((callS fails once calls (rightB path)).2.2)]) (c' := #[.int .i64 room, .slice a17 (m + 1) cap18, .map (some nb), .map (some kb), .map (some cb), .bool ((callS fails once calls (rightB path)).2.1), .bool once, .int .i64 ((callS fails once calls (rightB path)).2.2)]) (j := 3) (m := 0) (H' := ([(b13, .cells #[.pointer (some ⟨b12, 0, none⟩)] 66 (0, 0))] :: [(b12, .cells #[.slice a8 n cap9, .slice none 0 0] 68 (0, 0))] :: g5 :: [(d, .cells #[.int .i64 room, .slice a17 (m + 1) cap18, .map (some nb), .map (some kb), .map (some cb), .bool ((callS fails once calls (rightB path)).2.1), .bool once, .int .i64 ((callS fails once calls (rightB path)).2.2)] 64 (0, 0))] :: [(nb, .map (encM nm) nc)] :: [(cb, .map (encM cm) cc)] :: g15 :: H)) rfl rfl (by kernel_rfl) (by kernel_rfl) (by kernel_rfl) (by kernel_rfl) (by kernel_rfl) (by kernel_rfl) (by kernel_rfl) rfl rfl (Nat.le_of_ble_eq_true rfl) (fun _ _ => thaw0) (by kernel_rfl) (by kernel_rfl) ?_
        refine GL_fin (E' := [⟨0, [], .pointer (some ⟨d, 0, none⟩)⟩, ⟨1, [], .string path⟩, ⟨10, [], .pointer (some ⟨b12, 0, none⟩)⟩]) [] [0, 1, 10] rfl (by kernel_rfl) ?_
        refine N_then ?_
        refine G_seq ?_
        refine G_region ?_
        refine GL_pure (E' := [⟨58, [], .string path⟩, ⟨57, [], .pointer (some ⟨d, 0, none⟩)⟩, ⟨0, [], .pointer (some ⟨d, 0, none⟩)⟩, ⟨1, [], .string path⟩, ⟨10, [], .pointer (some ⟨b12, 0, none⟩)⟩]) [0, 0] (by kernel_rfl) (j := 2) rfl ?_
        refine GL_callQ (i := 2) (ch := []) (f := 37) (fst := #[]) (caps := #[]) (vs := [.string path]) (v := .string (dirB path)) rfl rfl rfl (by kernel_rfl) (by kernel_rfl) Try.func37 rfl rfl (by kernel_rfl) (by kernel_rfl) (by kernel_rfl) (fun _ => vfsDirOf _ hpath _ _) ?_
        refine GL_makeMap (i := 3) (ch := []) rfl rfl (by kernel_rfl) (by kernel_rfl) (by kernel_rfl) (fun b21 => ?_)
        refine GL_pure (E' := [⟨62, [], .pointer (some ⟨b12, 0, none⟩)⟩, ⟨61, [], .string path⟩, ⟨60, [], .map (some b21)⟩, ⟨59, [], .string (dirB path)⟩, ⟨58, [], .string path⟩, ⟨57, [], .pointer (some ⟨d, 0, none⟩)⟩, ⟨0, [], .pointer (some ⟨d, 0, none⟩)⟩, ⟨1, [], .string path⟩, ⟨10, [], .pointer (some ⟨b12, 0, none⟩)⟩]) [0, 0] (by kernel_rfl) (j := 6) rfl ?_
        refine GL_mapPut (i := 6) (ch := []) (kt := 9) (et := 66) (r := b21) (c := 0) (j := 0) (q := 0) (m := []) (k := path) (v := .pointer (some ⟨b12, 0, none⟩)) (H' := ([(b21, .map (encM ([(path, .pointer (some ⟨b12, 0, none⟩), 0)])) 1)] :: [(b13, .cells #[.pointer (some ⟨b12, 0, none⟩)] 66 (0, 0))] :: [(b12, .cells #[.slice a8 n cap9, .slice none 0 0] 68 (0, 0))] :: g5 :: [(d, .cells #[.int .i64 room, .slice a17 (m + 1) cap18, .map (some nb), .map (some kb), .map (some cb), .bool ((callS fails once calls (rightB path)).2.1), .bool once, .int .i64 ((callS fails once calls (rightB path)).2.2)] 64 (0, 0))] :: [(nb, .map (encM nm) nc)] :: [(cb, .map (encM cm) cc)] :: g15 :: H)) rfl (.inr rfl) (by kernel_rfl) (by kernel_rfl) (by kernel_rfl) (by kernel_rfl) (by kernel_rfl) (by kernel_rfl) (by kernel_rfl) (by kernel_rfl) rfl rfl rfl ?_
        refine GL_pure (E' := [⟨63, [], .map (some b21)⟩, ⟨62, [], .pointer (some ⟨b12, 0, none⟩)⟩, ⟨61, [], .string path⟩, ⟨60, [], .map (some b21)⟩, ⟨59, [], .string (dirB path)⟩, ⟨58, [], .string path⟩, ⟨57, [], .pointer (some ⟨d, 0, none⟩)⟩, ⟨0, [], .pointer (some ⟨d, 0, none⟩)⟩, ⟨1, [], .string path⟩, ⟨10, [], .pointer (some ⟨b12, 0, none⟩)⟩]) [0] (by kernel_rfl) (j := 8) rfl ?_
        refine GL_heap rfl (H' := ([(d, .cells #[.int .i64 room, .slice a17 (m + 1) cap18, .map (some nb), .map (some kb), .map (some cb), .bool ((callS fails once calls (rightB path)).2.1), .bool once, .int .i64 ((callS fails once calls (rightB path)).2.2)] 64 (0, 0))] :: [(nb, .map (encM nm) nc)] :: [(cb, .map (encM cm) cc)] :: [(b21, .map (encM ([(path, .pointer (some ⟨b12, 0, none⟩), 0)])) 1)] :: [(b13, .cells #[.pointer (some ⟨b12, 0, none⟩)] 66 (0, 0))] :: [(b12, .cells #[.slice a8 n cap9, .slice none 0 0] 68 (0, 0))] :: g5 :: g15 :: H)) (fun w h => (((h.front (j := 6) rfl).front (j := 6) rfl).front (j := 6) rfl)) ?_
        refine GL_call (i := 8) (ch := []) (f := 36) (fst := #[]) (caps := #[]) (vs := [.pointer (some ⟨d, 0, none⟩), .string (dirB path), .map (some b21)]) rfl rfl rfl (by kernel_rfl) (by kernel_rfl) Try.func36 rfl rfl (by kernel_rfl) (by kernel_rfl) (chSure_of (by kernel_rfl)) (vNameNew d nb kb cb b21 nc cc 1 room ((callS fails once calls (rightB path)).2.2) (.slice a17 (m + 1) cap18) ((callS fails once calls (rightB path)).2.1) once nm cm ([(path, .pointer (some ⟨b12, 0, none⟩), 0)]) (dirB path) hn (mapok1 _ _) (hv1 _ _) hdir _ _ (At.grp 0 0 rfl rfl)) ?_
        rintro v H' ⟨dn22, x23, g24, hdn25, hO26, rfl, rfl⟩
        refine GL_fin (E' := []) [] [] rfl (by kernel_rfl) ?_
        refine N_then ?_
        refine G_seq ?_
        refine G_pure (E' := [⟨6, [], .int .i64 0⟩]) [0] [6] rfl (by kernel_rfl) ?_
        refine N_then ?_
        refine G_ret ?_
        refine N_heap (H' := ([(d, .cells #[.int .i64 room, .slice a17 (m + 1) cap18, .map (some nb), .map (some kb), .map (some cb), .bool ((callS fails once calls (rightB path)).2.1), .bool once, .int .i64 ((callS fails once calls (rightB path)).2.2)] 64 (0, 0))] :: [(nb, .map (encM ((foldS (nm, nc) dn22).1)) ((foldS (nm, nc) dn22).2))] :: [(cb, .map (encM (mput cm cc (dirB path) x23)) (if mhas cm (dirB path) then cc else cc + 1))] :: g24 :: [(b21, .map (encM ([(path, .pointer (some ⟨b12, 0, none⟩), 0)])) 1)] :: g15 :: [(b12, .cells #[.slice a8 n cap9, .slice none 0 0] 68 (0, 0))] :: g5 :: H)) (fun w h => (((((((((h.front (j := 7) rfl).front (j := 7) rfl).front (j := 8) rfl).front (j := 7) rfl).front (j := 7) rfl).front (j := 7) rfl).front (j := 7) rfl).front (j := 7) rfl).erase 8)) ?_
        refine N_ret [.tmp 6] [.int .i64 0] rfl (by kernel_rfl) rfl ?_
        have hdn1 := List.perm_singleton.1 hdn25
        subst hdn1
        exact .inr (.inr ⟨hce, by (simp only [hg]; exact hro), rfl, _, _, _, _, _, _, x23, g24, g5, _, hO6, hO16, hO26, rfl⟩)
    ·
      have hw0 := hw _ hg
      refine GL_lookup (i := 5) (ch := []) (kt := 9) (et := 66) (r := nb) (c := nc) (m := nm) (k := path) (z := .pointer none) (ov := (some (.pointer (some ⟨p0, 0, none⟩)))) rfl rfl (by kernel_rfl) (by kernel_rfl) (by kernel_rfl) (by kernel_rfl) (by kernel_rfl) (by kernel_rfl) (by kernel_rfl) (by kernel_rfl) (At.grp 1 0 rfl rfl) (fun _ => hg) ?_
      refine GL_fin (E' := [⟨0, [], .pointer (some ⟨d, 0, none⟩)⟩, ⟨1, [], .string path⟩, ⟨2, [], .slice (some ⟨b, off, none⟩) n cap⟩, ⟨8, [], .int .i64 0⟩, ⟨9, [], .pointer (some ⟨p0, 0, none⟩)⟩]) [0] [0, 1, 2, 8, 9] rfl (by kernel_rfl) ?_
      refine N_then ?_
      refine G_seq ?_
      refine G_pure (E' := [⟨0, [], .pointer (some ⟨d, 0, none⟩)⟩, ⟨1, [], .string path⟩, ⟨2, [], .slice (some ⟨b, off, none⟩) n cap⟩, ⟨8, [], .int .i64 0⟩, ⟨9, [], .pointer (some ⟨p0, 0, none⟩)⟩, ⟨25, [], .bool true⟩]) [0, 0] [0, 1, 2, 8, 9, 25] rfl (by kernel_rfl) ?_
      refine N_then ?_
      refine G_condt (by kernel_rfl) ?_
      refine G_region ?_
      refine GL_pure (E' := [⟨28, [], .pointer (some ⟨p0, 0, none⟩)⟩, ⟨27, [], .pointer (some ⟨p0, 0, none⟩)⟩, ⟨26, [], .pointer (some ⟨p0, 0, none⟩)⟩, ⟨0, [], .pointer (some ⟨d, 0, none⟩)⟩, ⟨1, [], .string path⟩, ⟨2, [], .slice (some ⟨b, off, none⟩) n cap⟩, ⟨8, [], .int .i64 0⟩, ⟨9, [], .pointer (some ⟨p0, 0, none⟩)⟩, ⟨25, [], .bool true⟩]) [0, 0, 0] (by kernel_rfl) (j := 3) rfl ?_
      refine GL_load (i := 3) (ch := []) (b := p0) (off := 0) (v := .slice a0 (szf (.pointer (some ⟨p0, 0, none⟩))) c0) rfl rfl (by kernel_rfl) (by kernel_rfl) (by kernel_rfl) (by kernel_rfl) (by kernel_rfl) (At.cons (At.cons (At.cons (At.cons hat0)))) rfl ?_
      refine GL_fin (E' := [⟨0, [], .pointer (some ⟨d, 0, none⟩)⟩, ⟨1, [], .string path⟩, ⟨2, [], .slice (some ⟨b, off, none⟩) n cap⟩, ⟨8, [], .int .i64 (((szf (.pointer (some ⟨p0, 0, none⟩))) : Nat) : Int)⟩]) [0, 0] [0, 1, 2, 8] rfl (by kernel_rfl) ?_
      refine N_then ?_
      refine G_seq ?_
      refine G_seq ?_
      refine G_regionH ([(d, .cells #[.int .i64 room, bv, .map (some nb), .map (some kb), .map (some cb), .bool ((callS fails once calls (rightB path)).2.1), .bool once, .int .i64 ((callS fails once calls (rightB path)).2.2)] 64 (0, 0))] :: [(nb, .map (encM nm) nc)] :: [(cb, .map (encM cm) cc)] :: bg :: H) (by kernel_rfl) ?_
      refine GH_take (E' := [⟨31, [], .pointer (some ⟨d, 0, none⟩)⟩, ⟨0, [], .pointer (some ⟨d, 0, none⟩)⟩, ⟨1, [], .string path⟩, ⟨2, [], .slice (some ⟨b, off, none⟩) n cap⟩, ⟨8, [], .int .i64 (((szf (.pointer (some ⟨p0, 0, none⟩))) : Nat) : Int)⟩]) 0 (by kernel_rfl) (by kernel_rfl) (by kernel_rfl) (by kernel_rfl) (by kernel_rfl) (fun w h => ((((h.front (j := 3) rfl).front (j := 3) rfl).front (j := 3) rfl).front (j := 3) rfl)) ?_ ?_
      ·
        refine GL_pure (E' := [⟨31, [], .pointer (some ⟨d, 0, none⟩)⟩, ⟨0, [], .pointer (some ⟨d, 0, none⟩)⟩, ⟨1, [], .string path⟩, ⟨2, [], .slice (some ⟨b, off, none⟩) n cap⟩, ⟨8, [], .int .i64 (((szf (.pointer (some ⟨p0, 0, none⟩))) : Nat) : Int)⟩]) [0] (by kernel_rfl) (j := 1) rfl ?_
        exact GL_yend (by kernel_rfl) (by kernel_rfl)
      refine GH_take (E' := [⟨33, [], .int .i64 (((szf (.pointer (some ⟨p0, 0, none⟩))) : Nat) : Int)⟩, ⟨31, [], .pointer (some ⟨d, 0, none⟩)⟩, ⟨0, [], .pointer (some ⟨d, 0, none⟩)⟩, ⟨1, [], .string path⟩, ⟨2, [], .slice (some ⟨b, off, none⟩) n cap⟩, ⟨8, [], .int .i64 (((szf (.pointer (some ⟨p0, 0, none⟩))) : Nat) : Int)⟩]) 2 (by kernel_rfl) (by kernel_rfl) (by kernel_rfl) (by kernel_rfl) (by kernel_rfl) (fun w h => ((((h.front (j := 3) rfl).front (j := 3) rfl).front (j := 3) rfl).front (j := 3) rfl)) ?_ ?_
      ·
        refine GL_pure (E' := [⟨33, [], .int .i64 (((szf (.pointer (some ⟨p0, 0, none⟩))) : Nat) : Int)⟩, ⟨31, [], .pointer (some ⟨d, 0, none⟩)⟩, ⟨0, [], .pointer (some ⟨d, 0, none⟩)⟩, ⟨1, [], .string path⟩, ⟨2, [], .slice (some ⟨b, off, none⟩) n cap⟩, ⟨8, [], .int .i64 (((szf (.pointer (some ⟨p0, 0, none⟩))) : Nat) : Int)⟩]) [0] (by kernel_rfl) (j := 3) rfl ?_
        exact GL_yend (by kernel_rfl) (by kernel_rfl)
      refine GH_take (E' := [⟨35, [], .slice (some ⟨b, off, none⟩) n cap⟩, ⟨33, [], .int .i64 (((szf (.pointer (some ⟨p0, 0, none⟩))) : Nat) : Int)⟩, ⟨31, [], .pointer (some ⟨d, 0, none⟩)⟩, ⟨0, [], .pointer (some ⟨d, 0, none⟩)⟩, ⟨1, [], .string path⟩, ⟨2, [], .slice (some ⟨b, off, none⟩) n cap⟩, ⟨8, [], .int .i64 (((szf (.pointer (some ⟨p0, 0, none⟩))) : Nat) : Int)⟩]) 4 (by kernel_rfl) (by kernel_rfl) (by kernel_rfl) (by kernel_rfl) (by kernel_rfl) (fun w h => ((((h.front (j := 3) rfl).front (j := 3) rfl).front (j := 3) rfl).front (j := 3) rfl)) ?_ ?_
      ·
        refine GL_pure (E' := [⟨35, [], .slice (some ⟨b, off, none⟩) n cap⟩, ⟨33, [], .int .i64 (((szf (.pointer (some ⟨p0, 0, none⟩))) : Nat) : Int)⟩, ⟨31, [], .pointer (some ⟨d, 0, none⟩)⟩, ⟨0, [], .pointer (some ⟨d, 0, none⟩)⟩, ⟨1, [], .string path⟩, ⟨2, [], .slice (some ⟨b, off, none⟩) n cap⟩, ⟨8, [], .int .i64 (((szf (.pointer (some ⟨p0, 0, none⟩))) : Nat) : Int)⟩]) [0] (by kernel_rfl) (j := 5) rfl ?_
        exact GL_yend (by kernel_rfl) (by kernel_rfl)
      refine GH_pev (v := .int .i64 ((n : Nat) : Int)) 5 rfl rfl (by kernel_rfl) (by kernel_rfl) (by kernel_rfl) (by kernel_rfl) (by kernel_rfl) (fun w h => ((((h.front (j := 3) rfl).front (j := 3) rfl).front (j := 3) rfl).front (j := 3) rfl)) ?_
      refine GH_take (E' := [⟨38, [], .pointer (some ⟨d, 0, none⟩)⟩, ⟨36, [], .int .i64 ((n : Nat) : Int)⟩, ⟨35, [], .slice (some ⟨b, off, none⟩) n cap⟩, ⟨33, [], .int .i64 (((szf (.pointer (some ⟨p0, 0, none⟩))) : Nat) : Int)⟩, ⟨31, [], .pointer (some ⟨d, 0, none⟩)⟩, ⟨0, [], .pointer (some ⟨d, 0, none⟩)⟩, ⟨1, [], .string path⟩, ⟨2, [], .slice (some ⟨b, off, none⟩) n cap⟩, ⟨8, [], .int .i64 (((szf (.pointer (some ⟨p0, 0, none⟩))) : Nat) : Int)⟩]) 7 (by kernel_rfl) (by kernel_rfl) (by kernel_rfl) (by kernel_rfl) (by kernel_rfl) (fun w h => ((((h.front (j := 3) rfl).front (j := 3) rfl).front (j := 3) rfl).front (j := 3) rfl)) ?_ ?_
      ·
        refine GL_pure (E' := [⟨38, [], .pointer (some ⟨d, 0, none⟩)⟩, ⟨36, [], .int .i64 ((n : Nat) : Int)⟩, ⟨35, [], .slice (some ⟨b, off, none⟩) n cap⟩, ⟨33, [], .int .i64 (((szf (.pointer (some ⟨p0, 0, none⟩))) : Nat) : Int)⟩, ⟨31, [], .pointer (some ⟨d, 0, none⟩)⟩, ⟨0, [], .pointer (some ⟨d, 0, none⟩)⟩, ⟨1, [], .string path⟩, ⟨2, [], .slice (some ⟨b, off, none⟩) n cap⟩, ⟨8, [], .int .i64 (((szf (.pointer (some ⟨p0, 0, none⟩))) : Nat) : Int)⟩]) [0] (by kernel_rfl) (j := 8) rfl ?_
        exact GL_yend (by kernel_rfl) (by kernel_rfl)
      refine GH_nil (ad := ⟨d, 0, none⟩) 8 rfl rfl rfl (by kernel_rfl) (by kernel_rfl) (by kernel_rfl) (by kernel_rfl) (by kernel_rfl) (fun w h => ((((h.front (j := 3) rfl).front (j := 3) rfl).front (j := 3) rfl).front (j := 3) rfl)) ?_
      refine GH_take (E' := [⟨40, [], .pointer (some ⟨d, 0, none⟩)⟩, ⟨39, [], .pointer (some ⟨d, 0, none⟩)⟩, ⟨38, [], .pointer (some ⟨d, 0, none⟩)⟩, ⟨36, [], .int .i64 ((n : Nat) : Int)⟩, ⟨35, [], .slice (some ⟨b, off, none⟩) n cap⟩, ⟨33, [], .int .i64 (((szf (.pointer (some ⟨p0, 0, none⟩))) : Nat) : Int)⟩, ⟨31, [], .pointer (some ⟨d, 0, none⟩)⟩, ⟨0, [], .pointer (some ⟨d, 0, none⟩)⟩, ⟨1, [], .string path⟩, ⟨2, [], .slice (some ⟨b, off, none⟩) n cap⟩, ⟨8, [], .int .i64 (((szf (.pointer (some ⟨p0, 0, none⟩))) : Nat) : Int)⟩]) 9 (by kernel_rfl) (by kernel_rfl) (by kernel_rfl) (by kernel_rfl) (by kernel_rfl) (fun w h => ((((h.front (j := 3) rfl).front (j := 3) rfl).front (j := 3) rfl).front (j := 3) rfl)) ?_ ?_
      ·
        refine GL_pure (E' := [⟨40, [], .pointer (some ⟨d, 0, none⟩)⟩, ⟨39, [], .pointer (some ⟨d, 0, none⟩)⟩, ⟨38, [], .pointer (some ⟨d, 0, none⟩)⟩, ⟨36, [], .int .i64 ((n : Nat) : Int)⟩, ⟨35, [], .slice (some ⟨b, off, none⟩) n cap⟩, ⟨33, [], .int .i64 (((szf (.pointer (some ⟨p0, 0, none⟩))) : Nat) : Int)⟩, ⟨31, [], .pointer (some ⟨d, 0, none⟩)⟩, ⟨0, [], .pointer (some ⟨d, 0, none⟩)⟩, ⟨1, [], .string path⟩, ⟨2, [], .slice (some ⟨b, off, none⟩) n cap⟩, ⟨8, [], .int .i64 (((szf (.pointer (some ⟨p0, 0, none⟩))) : Nat) : Int)⟩]) [0] (by kernel_rfl) (j := 10) rfl ?_
        exact GL_yend (by kernel_rfl) (by kernel_rfl)
      refine GH_take (E' := [⟨41, [], .int .i64 room⟩, ⟨40, [], .pointer (some ⟨d, 0, none⟩)⟩, ⟨39, [], .pointer (some ⟨d, 0, none⟩)⟩, ⟨38, [], .pointer (some ⟨d, 0, none⟩)⟩, ⟨36, [], .int .i64 ((n : Nat) : Int)⟩, ⟨35, [], .slice (some ⟨b, off, none⟩) n cap⟩, ⟨33, [], .int .i64 (((szf (.pointer (some ⟨p0, 0, none⟩))) : Nat) : Int)⟩, ⟨31, [], .pointer (some ⟨d, 0, none⟩)⟩, ⟨0, [], .pointer (some ⟨d, 0, none⟩)⟩, ⟨1, [], .string path⟩, ⟨2, [], .slice (some ⟨b, off, none⟩) n cap⟩, ⟨8, [], .int .i64 (((szf (.pointer (some ⟨p0, 0, none⟩))) : Nat) : Int)⟩]) 10 (by kernel_rfl) (by kernel_rfl) (by kernel_rfl) (by kernel_rfl) (by kernel_rfl) (fun w h => ((((h.front (j := 3) rfl).front (j := 3) rfl).front (j := 3) rfl).front (j := 3) rfl)) ?_ ?_
      ·
        refine GL_load (i := 10) (ch := []) (b := d) (off := 0) (v := .int .i64 room) rfl rfl (by kernel_rfl) (by kernel_rfl) (by kernel_rfl) (by kernel_rfl) (by kernel_rfl) (At.grp 0 0 rfl rfl) rfl ?_
        exact GL_yend (by kernel_rfl) (by kernel_rfl)
      refine GH_eff 1 (by kernel_rfl) (by kernel_rfl) (by kernel_rfl) ?_
      refine GL_heap rfl (H' := ([(d, .cells #[.int .i64 room, bv, .map (some nb), .map (some kb), .map (some cb), .bool ((callS fails once calls (rightB path)).2.1), .bool once, .int .i64 ((callS fails once calls (rightB path)).2.2)] 64 (0, 0))] :: [(nb, .map (encM nm) nc)] :: [(cb, .map (encM cm) cc)] :: bg :: H)) (fun w h => ((h.front (j := 1) rfl).front (j := 1) rfl)) ?_
      refine GL_call (i := 1) (ch := []) (f := 26) (fst := #[]) (caps := #[]) (vs := [.pointer (some ⟨d, 0, none⟩)]) rfl rfl rfl (by kernel_rfl) (by kernel_rfl) Try.func26 rfl rfl (by kernel_rfl) (by kernel_rfl) (chSure_of (by kernel_rfl)) (vUsed d nb kb cb nc room ((callS fails once calls (rightB path)).2.2) bv ((callS fails once calls (rightB path)).2.1) once nm szf hn hs _ _ (fun e he => let ⟨p, a, c, kv, h1, h2⟩ := hB e he; ⟨p, a, c, kv, h1, (At.cons (At.cons h2))⟩)) ?_
      rintro v H' ⟨rfl, rfl⟩
      refine GH_back (by kernel_rfl) (fun w h => ((((h.front (j := 3) rfl).front (j := 3) rfl).front (j := 3) rfl).front (j := 3) rfl)) ?_
      refine GH_take (E' := [⟨34, [], .int .i64 (((sumN szf nm : Nat) : Int) - (((szf (.pointer (some ⟨p0, 0, none⟩))) : Nat) : Int))⟩, ⟨32, [], .int .i64 ((sumN szf nm : Nat) : Int)⟩, ⟨41, [], .int .i64 room⟩, ⟨40, [], .pointer (some ⟨d, 0, none⟩)⟩, ⟨39, [], .pointer (some ⟨d, 0, none⟩)⟩, ⟨38, [], .pointer (some ⟨d, 0, none⟩)⟩, ⟨36, [], .int .i64 ((n : Nat) : Int)⟩, ⟨35, [], .slice (some ⟨b, off, none⟩) n cap⟩, ⟨33, [], .int .i64 (((szf (.pointer (some ⟨p0, 0, none⟩))) : Nat) : Int)⟩, ⟨31, [], .pointer (some ⟨d, 0, none⟩)⟩, ⟨0, [], .pointer (some ⟨d, 0, none⟩)⟩, ⟨1, [], .string path⟩, ⟨2, [], .slice (some ⟨b, off, none⟩) n cap⟩, ⟨8, [], .int .i64 (((szf (.pointer (some ⟨p0, 0, none⟩))) : Nat) : Int)⟩]) 3 (by kernel_rfl) (by kernel_rfl) (by kernel_rfl) (by kernel_rfl) (by kernel_rfl) (fun w h => ((((h.front (j := 3) rfl).front (j := 3) rfl).front (j := 3) rfl).front (j := 3) rfl)) ?_ ?_
      ·
        have hw27 : IntKind.wrap .i64 (((sumN szf nm : Nat) : Int) - (((szf (.pointer (some ⟨p0, 0, none⟩))) : Nat) : Int)) = ((sumN szf nm : Nat) : Int) - (((szf (.pointer (some ⟨p0, 0, none⟩))) : Nat) : Int) := w64 (by omega) (by omega)
        refine GL_pure (E' := [⟨34, [], .int .i64 (((sumN szf nm : Nat) : Int) - (((szf (.pointer (some ⟨p0, 0, none⟩))) : Nat) : Int))⟩, ⟨32, [], .int .i64 ((sumN szf nm : Nat) : Int)⟩, ⟨41, [], .int .i64 room⟩, ⟨40, [], .pointer (some ⟨d, 0, none⟩)⟩, ⟨39, [], .pointer (some ⟨d, 0, none⟩)⟩, ⟨38, [], .pointer (some ⟨d, 0, none⟩)⟩, ⟨36, [], .int .i64 ((n : Nat) : Int)⟩, ⟨35, [], .slice (some ⟨b, off, none⟩) n cap⟩, ⟨33, [], .int .i64 (((szf (.pointer (some ⟨p0, 0, none⟩))) : Nat) : Int)⟩, ⟨31, [], .pointer (some ⟨d, 0, none⟩)⟩, ⟨0, [], .pointer (some ⟨d, 0, none⟩)⟩, ⟨1, [], .string path⟩, ⟨2, [], .slice (some ⟨b, off, none⟩) n cap⟩, ⟨8, [], .int .i64 (((szf (.pointer (some ⟨p0, 0, none⟩))) : Nat) : Int)⟩]) [0] (Eq.trans (b := some [⟨34, [], .int .i64 (IntKind.wrap .i64 (((sumN szf nm : Nat) : Int) - (((szf (.pointer (some ⟨p0, 0, none⟩))) : Nat) : Int)))⟩, ⟨32, [], .int .i64 ((sumN szf nm : Nat) : Int)⟩, ⟨41, [], .int .i64 room⟩, ⟨40, [], .pointer (some ⟨d, 0, none⟩)⟩, ⟨39, [], .pointer (some ⟨d, 0, none⟩)⟩, ⟨38, [], .pointer (some ⟨d, 0, none⟩)⟩, ⟨36, [], .int .i64 ((n : Nat) : Int)⟩, ⟨35, [], .slice (some ⟨b, off, none⟩) n cap⟩, ⟨33, [], .int .i64 (((szf (.pointer (some ⟨p0, 0, none⟩))) : Nat) : Int)⟩, ⟨31, [], .pointer (some ⟨d, 0, none⟩)⟩, ⟨0, [], .pointer (some ⟨d, 0, none⟩)⟩, ⟨1, [], .string path⟩, ⟨2, [], .slice (some ⟨b, off, none⟩) n cap⟩, ⟨8, [], .int .i64 (((szf (.pointer (some ⟨p0, 0, none⟩))) : Nat) : Int)⟩]) (by kernel_rfl) (by simp only [hw27])) (j := 4) rfl ?_
        exact GL_yend (by kernel_rfl) (by kernel_rfl)
      refine GH_take (E' := [⟨37, [], .int .i64 ((((sumN szf nm : Nat) : Int) - (((szf (.pointer (some ⟨p0, 0, none⟩))) : Nat) : Int)) + ((n : Nat) : Int))⟩, ⟨34, [], .int .i64 (((sumN szf nm : Nat) : Int) - (((szf (.pointer (some ⟨p0, 0, none⟩))) : Nat) : Int))⟩, ⟨32, [], .int .i64 ((sumN szf nm : Nat) : Int)⟩, ⟨41, [], .int .i64 room⟩, ⟨40, [], .pointer (some ⟨d, 0, none⟩)⟩, ⟨39, [], .pointer (some ⟨d, 0, none⟩)⟩, ⟨38, [], .pointer (some ⟨d, 0, none⟩)⟩, ⟨36, [], .int .i64 ((n : Nat) : Int)⟩, ⟨35, [], .slice (some ⟨b, off, none⟩) n cap⟩, ⟨33, [], .int .i64 (((szf (.pointer (some ⟨p0, 0, none⟩))) : Nat) : Int)⟩, ⟨31, [], .pointer (some ⟨d, 0, none⟩)⟩, ⟨0, [], .pointer (some ⟨d, 0, none⟩)⟩, ⟨1, [], .string path⟩, ⟨2, [], .slice (some ⟨b, off, none⟩) n cap⟩, ⟨8, [], .int .i64 (((szf (.pointer (some ⟨p0, 0, none⟩))) : Nat) : Int)⟩]) 6 (by kernel_rfl) (by kernel_rfl) (by kernel_rfl) (by kernel_rfl) (by kernel_rfl) (fun w h => ((((h.front (j := 3) rfl).front (j := 3) rfl).front (j := 3) rfl).front (j := 3) rfl)) ?_ ?_
      ·
        have hw28 : IntKind.wrap .i64 ((((sumN szf nm : Nat) : Int) - (((szf (.pointer (some ⟨p0, 0, none⟩))) : Nat) : Int)) + ((n : Nat) : Int)) = (((sumN szf nm : Nat) : Int) - (((szf (.pointer (some ⟨p0, 0, none⟩))) : Nat) : Int)) + ((n : Nat) : Int) := w64 (by omega) (by omega)
        refine GL_pure (E' := [⟨37, [], .int .i64 ((((sumN szf nm : Nat) : Int) - (((szf (.pointer (some ⟨p0, 0, none⟩))) : Nat) : Int)) + ((n : Nat) : Int))⟩, ⟨34, [], .int .i64 (((sumN szf nm : Nat) : Int) - (((szf (.pointer (some ⟨p0, 0, none⟩))) : Nat) : Int))⟩, ⟨32, [], .int .i64 ((sumN szf nm : Nat) : Int)⟩, ⟨41, [], .int .i64 room⟩, ⟨40, [], .pointer (some ⟨d, 0, none⟩)⟩, ⟨39, [], .pointer (some ⟨d, 0, none⟩)⟩, ⟨38, [], .pointer (some ⟨d, 0, none⟩)⟩, ⟨36, [], .int .i64 ((n : Nat) : Int)⟩, ⟨35, [], .slice (some ⟨b, off, none⟩) n cap⟩, ⟨33, [], .int .i64 (((szf (.pointer (some ⟨p0, 0, none⟩))) : Nat) : Int)⟩, ⟨31, [], .pointer (some ⟨d, 0, none⟩)⟩, ⟨0, [], .pointer (some ⟨d, 0, none⟩)⟩, ⟨1, [], .string path⟩, ⟨2, [], .slice (some ⟨b, off, none⟩) n cap⟩, ⟨8, [], .int .i64 (((szf (.pointer (some ⟨p0, 0, none⟩))) : Nat) : Int)⟩]) [0] (Eq.trans (b := some [⟨37, [], .int .i64 (IntKind.wrap .i64 ((((sumN szf nm : Nat) : Int) - (((szf (.pointer (some ⟨p0, 0, none⟩))) : Nat) : Int)) + ((n : Nat) : Int)))⟩, ⟨34, [], .int .i64 (((sumN szf nm : Nat) : Int) - (((szf (.pointer (some ⟨p0, 0, none⟩))) : Nat) : Int))⟩, ⟨32, [], .int .i64 ((sumN szf nm : Nat) : Int)⟩, ⟨41, [], .int .i64 room⟩, ⟨40, [], .pointer (some ⟨d, 0, none⟩)⟩, ⟨39, [], .pointer (some ⟨d, 0, none⟩)⟩, ⟨38, [], .pointer (some ⟨d, 0, none⟩)⟩, ⟨36, [], .int .i64 ((n : Nat) : Int)⟩, ⟨35, [], .slice (some ⟨b, off, none⟩) n cap⟩, ⟨33, [], .int .i64 (((szf (.pointer (some ⟨p0, 0, none⟩))) : Nat) : Int)⟩, ⟨31, [], .pointer (some ⟨d, 0, none⟩)⟩, ⟨0, [], .pointer (some ⟨d, 0, none⟩)⟩, ⟨1, [], .string path⟩, ⟨2, [], .slice (some ⟨b, off, none⟩) n cap⟩, ⟨8, [], .int .i64 (((szf (.pointer (some ⟨p0, 0, none⟩))) : Nat) : Int)⟩]) (by kernel_rfl) (by simp only [hw28])) (j := 7) rfl ?_
        exact GL_yend (by kernel_rfl) (by kernel_rfl)
      refine GH_take (E' := [⟨42, [], .bool (decide (((((sumN szf nm : Nat) : Int) - (((szf (.pointer (some ⟨p0, 0, none⟩))) : Nat) : Int)) + ((n : Nat) : Int)) > room))⟩, ⟨37, [], .int .i64 ((((sumN szf nm : Nat) : Int) - (((szf (.pointer (some ⟨p0, 0, none⟩))) : Nat) : Int)) + ((n : Nat) : Int))⟩, ⟨34, [], .int .i64 (((sumN szf nm : Nat) : Int) - (((szf (.pointer (some ⟨p0, 0, none⟩))) : Nat) : Int))⟩, ⟨32, [], .int .i64 ((sumN szf nm : Nat) : Int)⟩, ⟨41, [], .int .i64 room⟩, ⟨40, [], .pointer (some ⟨d, 0, none⟩)⟩, ⟨39, [], .pointer (some ⟨d, 0, none⟩)⟩, ⟨38, [], .pointer (some ⟨d, 0, none⟩)⟩, ⟨36, [], .int .i64 ((n : Nat) : Int)⟩, ⟨35, [], .slice (some ⟨b, off, none⟩) n cap⟩, ⟨33, [], .int .i64 (((szf (.pointer (some ⟨p0, 0, none⟩))) : Nat) : Int)⟩, ⟨31, [], .pointer (some ⟨d, 0, none⟩)⟩, ⟨0, [], .pointer (some ⟨d, 0, none⟩)⟩, ⟨1, [], .string path⟩, ⟨2, [], .slice (some ⟨b, off, none⟩) n cap⟩, ⟨8, [], .int .i64 (((szf (.pointer (some ⟨p0, 0, none⟩))) : Nat) : Int)⟩]) 11 (by kernel_rfl) (by kernel_rfl) (by kernel_rfl) (by kernel_rfl) (by kernel_rfl) (fun w h => ((((h.front (j := 3) rfl).front (j := 3) rfl).front (j := 3) rfl).front (j := 3) rfl)) ?_ ?_
      ·
        refine GL_pure (E' := [⟨42, [], .bool (decide (((((sumN szf nm : Nat) : Int) - (((szf (.pointer (some ⟨p0, 0, none⟩))) : Nat) : Int)) + ((n : Nat) : Int)) > room))⟩, ⟨37, [], .int .i64 ((((sumN szf nm : Nat) : Int) - (((szf (.pointer (some ⟨p0, 0, none⟩))) : Nat) : Int)) + ((n : Nat) : Int))⟩, ⟨34, [], .int .i64 (((sumN szf nm : Nat) : Int) - (((szf (.pointer (some ⟨p0, 0, none⟩))) : Nat) : Int))⟩, ⟨32, [], .int .i64 ((sumN szf nm : Nat) : Int)⟩, ⟨41, [], .int .i64 room⟩, ⟨40, [], .pointer (some ⟨d, 0, none⟩)⟩, ⟨39, [], .pointer (some ⟨d, 0, none⟩)⟩, ⟨38, [], .pointer (some ⟨d, 0, none⟩)⟩, ⟨36, [], .int .i64 ((n : Nat) : Int)⟩, ⟨35, [], .slice (some ⟨b, off, none⟩) n cap⟩, ⟨33, [], .int .i64 (((szf (.pointer (some ⟨p0, 0, none⟩))) : Nat) : Int)⟩, ⟨31, [], .pointer (some ⟨d, 0, none⟩)⟩, ⟨0, [], .pointer (some ⟨d, 0, none⟩)⟩, ⟨1, [], .string path⟩, ⟨2, [], .slice (some ⟨b, off, none⟩) n cap⟩, ⟨8, [], .int .i64 (((szf (.pointer (some ⟨p0, 0, none⟩))) : Nat) : Int)⟩]) [0] (by kernel_rfl) (j := 12) rfl ?_
        exact GL_yend (by kernel_rfl) (by kernel_rfl)
      refine GH_done (E' := [⟨0, [], .pointer (some ⟨d, 0, none⟩)⟩, ⟨1, [], .string path⟩, ⟨2, [], .slice (some ⟨b, off, none⟩) n cap⟩, ⟨42, [], .bool (decide (((((sumN szf nm : Nat) : Int) - (((szf (.pointer (some ⟨p0, 0, none⟩))) : Nat) : Int)) + ((n : Nat) : Int)) > room))⟩]) [0, 1, 2, 42] (by kernel_rfl) (by kernel_rfl) ?_
      refine N_then ?_
      refine G_cond (b := decide (((((sumN szf nm : Nat) : Int) - (((szf (.pointer (some ⟨p0, 0, none⟩))) : Nat) : Int)) + ((n : Nat) : Int)) > room)) (by kernel_rfl) (fun hc29 => ?_) (fun hc29 => ?_)
      ·
        have hro := of_decide_eq_true hc29
        -- L full
        refine G_seq ?_
        refine G_pure (E' := [⟨6, [], .int .i64 61⟩]) [0] [6] rfl (by kernel_rfl) ?_
        refine N_then ?_
        refine G_ret ?_
        refine N_then_ret ?_
        refine N_heap (H' := ([(d, .cells #[.int .i64 room, bv, .map (some nb), .map (some kb), .map (some cb), .bool ((callS fails once calls (rightB path)).2.1), .bool once, .int .i64 ((callS fails once calls (rightB path)).2.2)] 64 (0, 0))] :: [(nb, .map (encM nm) nc)] :: [(cb, .map (encM cm) cc)] :: bg :: H)) (fun w h => ((((h.front (j := 3) rfl).front (j := 3) rfl).front (j := 3) rfl).front (j := 3) rfl)) ?_
        refine N_ret [.tmp 6] [.int .i64 61] rfl (by kernel_rfl) rfl ?_
        exact .inr (.inl ⟨hce, by (simp only [hg]; exact hro), rfl, rfl⟩)
      ·
        have hro := of_decide_eq_false hc29
        refine G_skip ?_
        refine N_then ?_
        refine G_seq ?_
        refine G_region ?_
        refine GL_pure (E' := [⟨43, [], .slice (some ⟨b, off, none⟩) n cap⟩, ⟨0, [], .pointer (some ⟨d, 0, none⟩)⟩, ⟨1, [], .string path⟩, ⟨2, [], .slice (some ⟨b, off, none⟩) n cap⟩, ⟨42, [], .bool (decide (((((sumN szf nm : Nat) : Int) - (((szf (.pointer (some ⟨p0, 0, none⟩))) : Nat) : Int)) + ((n : Nat) : Int)) > room))⟩]) [0] (by kernel_rfl) (j := 1) rfl ?_
        refine GL_call (i := 1) (ch := []) (f := 35) (fst := #[]) (caps := #[]) (vs := [.slice (some ⟨b, off, none⟩) n cap]) rfl rfl rfl (by kernel_rfl) (by kernel_rfl) Try.func35 rfl rfl (by kernel_rfl) (by kernel_rfl) (chSure_of (by kernel_rfl)) (vClone b off n cap S l hrd hl hn1 _ _ (fun y o h => (At.cons (At.cons (At.cons (At.cons (hS y o h))))))) ?_
        rintro v32 _ ⟨g30, hO31, rfl⟩
        obtain ⟨a33, cap34, rfl, hcap35, hrd36⟩ := hO31.shape
        refine GL_pure (E' := [⟨45, [], .agg #[.slice a33 n cap34, .slice none 0 0]⟩, ⟨44, [], .slice a33 n cap34⟩, ⟨43, [], .slice (some ⟨b, off, none⟩) n cap⟩, ⟨0, [], .pointer (some ⟨d, 0, none⟩)⟩, ⟨1, [], .string path⟩, ⟨2, [], .slice (some ⟨b, off, none⟩) n cap⟩, ⟨42, [], .bool (decide (((((sumN szf nm : Nat) : Int) - (((szf (.pointer (some ⟨p0, 0, none⟩))) : Nat) : Int)) + ((n : Nat) : Int)) > room))⟩]) [0] (by kernel_rfl) (j := 3) rfl ?_
        refine GL_box (i := 3) (ch := []) (v := .agg #[.slice a33 n cap34, .slice none 0 0]) rfl rfl (by kernel_rfl) (by kernel_rfl) (by kernel_rfl) (by kernel_rfl) (fun b37 => ?_)
        refine GL_fin (E' := [⟨0, [], .pointer (some ⟨d, 0, none⟩)⟩, ⟨1, [], .string path⟩, ⟨10, [], .pointer (some ⟨b37, 0, none⟩)⟩]) [0] [0, 1, 10] rfl (by kernel_rfl) ?_
        refine N_then ?_
        refine G_seq ?_
        refine G_region ?_
        refine GL_pure (E' := [⟨50, [], .pointer (some ⟨d, 1, none⟩)⟩, ⟨49, [], .pointer (some ⟨d, 0, none⟩)⟩, ⟨48, [], .pointer (some ⟨d, 0, none⟩)⟩, ⟨47, [], .pointer (some ⟨d, 0, none⟩)⟩, ⟨0, [], .pointer (some ⟨d, 0, none⟩)⟩, ⟨1, [], .string path⟩, ⟨10, [], .pointer (some ⟨b37, 0, none⟩)⟩]) [0, 0, 0, 0] (by kernel_rfl) (j := 4) rfl ?_
        refine GL_load (i := 4) (ch := []) (b := d) (off := 1) (v := bv) rfl rfl (by kernel_rfl) (by kernel_rfl) (by kernel_rfl) (by kernel_rfl) (by kernel_rfl) (At.grp 2 0 rfl rfl) rfl ?_
        refine GL_pure (E' := [⟨52, [], .pointer (some ⟨b37, 0, none⟩)⟩, ⟨51, [], bv⟩, ⟨50, [], .pointer (some ⟨d, 1, none⟩)⟩, ⟨49, [], .pointer (some ⟨d, 0, none⟩)⟩, ⟨48, [], .pointer (some ⟨d, 0, none⟩)⟩, ⟨47, [], .pointer (some ⟨d, 0, none⟩)⟩, ⟨0, [], .pointer (some ⟨d, 0, none⟩)⟩, ⟨1, [], .string path⟩, ⟨10, [], .pointer (some ⟨b37, 0, none⟩)⟩]) [0] (by kernel_rfl) (j := 6) rfl ?_
        refine GL_buildSlice (i := 6) (ch := []) (e := 66) (l := [(0, .pointer (some ⟨b37, 0, none⟩))]) (c := [.pointer (some ⟨b37, 0, none⟩)]) rfl rfl (by kernel_rfl) (by kernel_rfl) (by kernel_rfl) (by kernel_rfl) (by kernel_rfl) (fun b38 => ?_)
        refine GL_append (i := 7) (ch := []) (t := 62) (tx := 62) (e := 66) (inf := Try.t66) (s := bv) (x := .slice (some ⟨b38, 0, none⟩) 1 1) (n := m) (m := 1) (j := 6) (cs := ps) (news := [.pointer (some ⟨b37, 0, none⟩)]) (g := bg) (S := (inG [(b38, .cells #[.pointer (some ⟨b37, 0, none⟩)] 66 (0, 0))])) rfl rfl rfl rfl (by kernel_rfl) (by kernel_rfl) (by kernel_rfl) rfl rfl (.inl ⟨66, (by kernel_rfl)⟩) (fun ⟨_, h⟩ => by cases h) (fun _ => ⟨66, (by kernel_rfl)⟩) (by kernel_rfl) (by kernel_rfl) (by kernel_rfl) rfl hO (SrcOf.slice _ _ _ _ Rd.lit (fun h => by cases h)) (at_inG 0 rfl) (by kernel_rfl) (by intro u hu; rcases List.mem_singleton.1 hu with rfl; rfl) (by omega) (by show (m + 1) * 8 ≤ 140737488355328; omega) (fun v39 g40 hO41 => ?_)
        obtain ⟨a42, cap43, rfl, hcap44, hrd45⟩ := hO41.shape
        refine GL_pure (E' := [⟨56, [], .pointer (some ⟨d, 1, none⟩)⟩, ⟨55, [], .pointer (some ⟨d, 0, none⟩)⟩, ⟨54, [], .slice a42 (m + 1) cap43⟩, ⟨53, [], .slice (some ⟨b38, 0, none⟩) 1 1⟩, ⟨52, [], .pointer (some ⟨b37, 0, none⟩)⟩, ⟨51, [], bv⟩, ⟨50, [], .pointer (some ⟨d, 1, none⟩)⟩, ⟨49, [], .pointer (some ⟨d, 0, none⟩)⟩, ⟨48, [], .pointer (some ⟨d, 0, none⟩)⟩, ⟨47, [], .pointer (some ⟨d, 0, none⟩)⟩, ⟨0, [], .pointer (some ⟨d, 0, none⟩)⟩, ⟨1, [], .string path⟩, ⟨10, [], .pointer (some ⟨b37, 0, none⟩)⟩]) [0, 0] (by kernel_rfl) (j := 10) rfl ?_
        refine GL_store (i := 10) (ch := []) (b := d) (off := 1) (v := .slice a42 (m + 1) cap43) (c := #[.int .i64 room, bv, .map (some nb), .map (some kb), .map (some cb), .bool ((callS fails once calls (rightB path)).2.1), .bool once, .int .i64 ((callS fails once calls (rightB path)).2.2)]) (c' := #[.int .i64 room, .slice a42 (m + 1) cap43, .map (some nb), .map (some kb), .map (some cb), .bool ((callS fails once calls (rightB path)).2.1), .bool once, .int .i64 ((callS fails once calls (rightB path)).2.2)]) (j := 3) (m := 0) (H' := ([(b38, .cells #[.pointer (some ⟨b37, 0, none⟩)] 66 (0, 0))] :: [(b37, .cells #[.slice a33 n cap34, .slice none 0 0] 68 (0, 0))] :: g30 :: [(d, .cells #[.int .i64 room, .slice a42 (m + 1) cap43, .map (some nb), .map (some kb), .map (some cb), .bool ((callS fails once calls (rightB path)).2.1), .bool once, .int .i64 ((callS fails once calls (rightB path)).2.2)] 64 (0, 0))] :: [(nb, .map (encM nm) nc)] :: [(cb, .map (encM cm) cc)] :: g40 :: H)) rfl rfl (by kernel_rfl) (by kernel_rfl) (by kernel_rfl) (by kernel_rfl) (by kernel_rfl) (by kernel_rfl) (by kernel_rfl) rfl rfl (Nat.le_of_ble_eq_true rfl) (fun _ _ => thaw0) (by kernel_rfl) (by kernel_rfl) ?_
        refine GL_fin (E' := [⟨0, [], .pointer (some ⟨d, 0, none⟩)⟩, ⟨1, [], .string path⟩, ⟨10, [], .pointer (some ⟨b37, 0, none⟩)⟩]) [] [0, 1, 10] rfl (by kernel_rfl) ?_
        refine N_then ?_
        refine G_seq ?_
        refine G_region ?_
        refine GL_pure (E' := [⟨58, [], .string path⟩, ⟨57, [], .pointer (some ⟨d, 0, none⟩)⟩, ⟨0, [], .pointer (some ⟨d, 0, none⟩)⟩, ⟨1, [], .string path⟩, ⟨10, [], .pointer (some ⟨b37, 0, none⟩)⟩]) [0, 0] (by kernel_rfl) (j := 2) rfl ?_
        refine GL_callQ (i := 2) (ch := []) (f := 37) (fst := #[]) (caps := #[]) (vs := [.string path]) (v := .string (dirB path)) rfl rfl rfl (by kernel_rfl) (by kernel_rfl) Try.func37 rfl rfl (by kernel_rfl) (by kernel_rfl) (by kernel_rfl) (fun _ => vfsDirOf _ hpath _ _) ?_
        refine GL_makeMap (i := 3) (ch := []) rfl rfl (by kernel_rfl) (by kernel_rfl) (by kernel_rfl) (fun b46 => ?_)
        refine GL_pure (E' := [⟨62, [], .pointer (some ⟨b37, 0, none⟩)⟩, ⟨61, [], .string path⟩, ⟨60, [], .map (some b46)⟩, ⟨59, [], .string (dirB path)⟩, ⟨58, [], .string path⟩, ⟨57, [], .pointer (some ⟨d, 0, none⟩)⟩, ⟨0, [], .pointer (some ⟨d, 0, none⟩)⟩, ⟨1, [], .string path⟩, ⟨10, [], .pointer (some ⟨b37, 0, none⟩)⟩]) [0, 0] (by kernel_rfl) (j := 6) rfl ?_
        refine GL_mapPut (i := 6) (ch := []) (kt := 9) (et := 66) (r := b46) (c := 0) (j := 0) (q := 0) (m := []) (k := path) (v := .pointer (some ⟨b37, 0, none⟩)) (H' := ([(b46, .map (encM ([(path, .pointer (some ⟨b37, 0, none⟩), 0)])) 1)] :: [(b38, .cells #[.pointer (some ⟨b37, 0, none⟩)] 66 (0, 0))] :: [(b37, .cells #[.slice a33 n cap34, .slice none 0 0] 68 (0, 0))] :: g30 :: [(d, .cells #[.int .i64 room, .slice a42 (m + 1) cap43, .map (some nb), .map (some kb), .map (some cb), .bool ((callS fails once calls (rightB path)).2.1), .bool once, .int .i64 ((callS fails once calls (rightB path)).2.2)] 64 (0, 0))] :: [(nb, .map (encM nm) nc)] :: [(cb, .map (encM cm) cc)] :: g40 :: H)) rfl (.inr rfl) (by kernel_rfl) (by kernel_rfl) (by kernel_rfl) (by kernel_rfl) (by kernel_rfl) (by kernel_rfl) (by kernel_rfl) (by kernel_rfl) rfl rfl rfl ?_
        refine GL_pure (E' := [⟨63, [], .map (some b46)⟩, ⟨62, [], .pointer (some ⟨b37, 0, none⟩)⟩, ⟨61, [], .string path⟩, ⟨60, [], .map (some b46)⟩, ⟨59, [], .string (dirB path)⟩, ⟨58, [], .string path⟩, ⟨57, [], .pointer (some ⟨d, 0, none⟩)⟩, ⟨0, [], .pointer (some ⟨d, 0, none⟩)⟩, ⟨1, [], .string path⟩, ⟨10, [], .pointer (some ⟨b37, 0, none⟩)⟩]) [0] (by kernel_rfl) (j := 8) rfl ?_
        refine GL_heap rfl (H' := ([(d, .cells #[.int .i64 room, .slice a42 (m + 1) cap43, .map (some nb), .map (some kb), .map (some cb), .bool ((callS fails once calls (rightB path)).2.1), .bool once, .int .i64 ((callS fails once calls (rightB path)).2.2)] 64 (0, 0))] :: [(nb, .map (encM nm) nc)] :: [(cb, .map (encM cm) cc)] :: [(b46, .map (encM ([(path, .pointer (some ⟨b37, 0, none⟩), 0)])) 1)] :: [(b38, .cells #[.pointer (some ⟨b37, 0, none⟩)] 66 (0, 0))] :: [(b37, .cells #[.slice a33 n cap34, .slice none 0 0] 68 (0, 0))] :: g30 :: g40 :: H)) (fun w h => (((h.front (j := 6) rfl).front (j := 6) rfl).front (j := 6) rfl)) ?_
        refine GL_call (i := 8) (ch := []) (f := 36) (fst := #[]) (caps := #[]) (vs := [.pointer (some ⟨d, 0, none⟩), .string (dirB path), .map (some b46)]) rfl rfl rfl (by kernel_rfl) (by kernel_rfl) Try.func36 rfl rfl (by kernel_rfl) (by kernel_rfl) (chSure_of (by kernel_rfl)) (vNameNew d nb kb cb b46 nc cc 1 room ((callS fails once calls (rightB path)).2.2) (.slice a42 (m + 1) cap43) ((callS fails once calls (rightB path)).2.1) once nm cm ([(path, .pointer (some ⟨b37, 0, none⟩), 0)]) (dirB path) hn (mapok1 _ _) (hv1 _ _) hdir _ _ (At.grp 0 0 rfl rfl)) ?_
        rintro v H' ⟨dn47, x48, g49, hdn50, hO51, rfl, rfl⟩
        refine GL_fin (E' := []) [] [] rfl (by kernel_rfl) ?_
        refine N_then ?_
        refine G_seq ?_
        refine G_pure (E' := [⟨6, [], .int .i64 0⟩]) [0] [6] rfl (by kernel_rfl) ?_
        refine N_then ?_
        refine G_ret ?_
        refine N_heap (H' := ([(d, .cells #[.int .i64 room, .slice a42 (m + 1) cap43, .map (some nb), .map (some kb), .map (some cb), .bool ((callS fails once calls (rightB path)).2.1), .bool once, .int .i64 ((callS fails once calls (rightB path)).2.2)] 64 (0, 0))] :: [(nb, .map (encM ((foldS (nm, nc) dn47).1)) ((foldS (nm, nc) dn47).2))] :: [(cb, .map (encM (mput cm cc (dirB path) x48)) (if mhas cm (dirB path) then cc else cc + 1))] :: g49 :: [(b46, .map (encM ([(path, .pointer (some ⟨b37, 0, none⟩), 0)])) 1)] :: g40 :: [(b37, .cells #[.slice a33 n cap34, .slice none 0 0] 68 (0, 0))] :: g30 :: H)) (fun w h => (((((((((h.front (j := 7) rfl).front (j := 7) rfl).front (j := 8) rfl).front (j := 7) rfl).front (j := 7) rfl).front (j := 7) rfl).front (j := 7) rfl).front (j := 7) rfl).erase 8)) ?_
        refine N_ret [.tmp 6] [.int .i64 0] rfl (by kernel_rfl) rfl ?_
        have hdn1 := List.perm_singleton.1 hdn50
        subst hdn1
        exact .inr (.inr ⟨hce, by (simp only [hg]; exact hro), rfl, _, _, _, _, _, _, x48, g49, g30, _, hO31, hO41, hO51, rfl⟩)

end Go.Proofs.Ytbmieiffboenbaa

namespace Go.Proofs.Ytbmieiffboenbaa
open Go.Sw Go.Lib Go.Vf Go.RowKit


theorem vSyncNo (d nb kb cb nc : Nat) (room calls : Int) (bv : Value) (fails once : Bool) (nm : SM) (path : ByteArray) (hpath : path.size ≤ 9223372036854775807) (hca : -9223372036854775808 ≤ calls ∧ calls ≤ 9223372036854775807) (hg : mget nm path = none) (W0 : World) (H : List Grp) : Tri Try.prog 14 #[.pointer (some ⟨d, 0, none⟩), .string path] W0 ([(d, .cells #[.int .i64 room, bv, .map (some nb), .map (some kb), .map (some cb), .bool fails, .bool once, .int .i64 calls] 64 (0, 0))] :: [(nb, .map (encM nm) nc)] :: H) (fun v H' => ((callS fails once calls (rightB path)).1 ≠ 0 ∧ v = .int .i64 (callS fails once calls (rightB path)).1 ∧ H' = ([(d, .cells #[.int .i64 room, bv, .map (some nb), .map (some kb), .map (some cb), .bool ((callS fails once calls (rightB path)).2.1), .bool once, .int .i64 ((callS fails once calls (rightB path)).2.2)] 64 (0, 0))] :: [(nb, .map (encM nm) nc)] :: H)) ∨ ((callS fails once calls (rightB path)).1 = 0 ∧ v = .int .i64 60 ∧ H' = ([(d, .cells #[.int .i64 room, bv, .map (some nb), .map (some kb), .map (some cb), .bool ((callS fails once calls (rightB path)).2.1), .bool once, .int .i64 ((callS fails once calls (rightB path)).2.2)] 64 (0, 0))] :: [(nb, .map (encM nm) nc)] :: H))) := by
  refine Tri_of (args := [.pointer (some ⟨d, 0, none⟩), .string path]) (n := 29) Try.func14 rfl rfl (Nat.le_of_ble_eq_true rfl) ?_
  refine G_seq ?_
  refine G_pure (E' := [⟨0, [], .pointer (some ⟨d, 0, none⟩)⟩, ⟨1, [], .string path⟩]) [0] [0, 1] rfl (by kernel_rfl) ?_
  refine N_then ?_
  refine G_seq ?_
  refine G_seq ?_
  refine G_region ?_
  refine GL_pure (E' := [⟨8, [], .string path⟩, ⟨7, [], .pointer (some ⟨d, 0, none⟩)⟩, ⟨0, [], .pointer (some ⟨d, 0, none⟩)⟩, ⟨1, [], .string path⟩]) [0, 0] (by kernel_rfl) (j := 2) rfl ?_
  refine GL_callQ (i := 2) (ch := []) (f := 10) (fst := #[]) (caps := #[]) (vs := [.string path]) (v := .bool (rightB path)) rfl rfl rfl (by kernel_rfl) (by kernel_rfl) Try.func10 rfl rfl (by kernel_rfl) (by kernel_rfl) (by kernel_rfl) (fun _ => vfsRight _ hpath _ _) ?_
  refine GL_call (i := 3) (ch := []) (f := 34) (fst := #[]) (caps := #[]) (vs := [.pointer (some ⟨d, 0, none⟩), .bool (rightB path)]) rfl rfl rfl (by kernel_rfl) (by kernel_rfl) Try.func34 rfl rfl (by kernel_rfl) (by kernel_rfl) (chSure_of (by kernel_rfl)) (vCall d nb kb cb room calls bv fails once (rightB path) hca _ _) ?_
  rintro v H' ⟨rfl, rfl⟩
  refine GL_fin (E' := [⟨0, [], .pointer (some ⟨d, 0, none⟩)⟩, ⟨1, [], .string path⟩, ⟨5, [], .int .i64 ((callS fails once calls (rightB path)).1)⟩]) [0] [0, 1, 5] rfl (by kernel_rfl) ?_
  refine N_then ?_
  refine G_seq ?_
  refine G_pure (E' := [⟨0, [], .pointer (some ⟨d, 0, none⟩)⟩, ⟨1, [], .string path⟩, ⟨5, [], .int .i64 ((callS fails once calls (rightB path)).1)⟩, ⟨12, [], .bool (((callS fails once calls (rightB path)).1) != 0)⟩]) [0, 0] [0, 1, 5, 12] rfl (by kernel_rfl) ?_
  refine N_then ?_
  refine G_cond (b := ((callS fails once calls (rightB path)).1) != 0) (by kernel_rfl) (fun hc1 => ?_) (fun hc1 => ?_)
  ·
    have hce : (callS fails once calls (rightB path)).1 ≠ 0 := by simpa using hc1
    -- L err
    refine G_seq ?_
    refine G_pure (E' := [⟨4, [], .int .i64 ((callS fails once calls (rightB path)).1)⟩]) [0, 0] [4] rfl (by kernel_rfl) ?_
    refine N_then ?_
    refine G_ret ?_
    refine N_then_ret ?_
    refine N_ret [.tmp 4] [.int .i64 ((callS fails once calls (rightB path)).1)] rfl (by kernel_rfl) rfl ?_
    exact .inl ⟨hce, rfl, rfl⟩
  ·
    have hce : (callS fails once calls (rightB path)).1 = 0 := by simpa using hc1
    refine G_skip ?_
    refine N_then ?_
    refine G_seq ?_
    refine G_region ?_
    refine GL_pure (E' := [⟨16, [], .pointer (some ⟨d, 2, none⟩)⟩, ⟨15, [], .pointer (some ⟨d, 0, none⟩)⟩, ⟨14, [], .pointer (some ⟨d, 0, none⟩)⟩, ⟨0, [], .pointer (some ⟨d, 0, none⟩)⟩, ⟨1, [], .string path⟩, ⟨5, [], .int .i64 ((callS fails once calls (rightB path)).1)⟩, ⟨12, [], .bool (((callS fails once calls (rightB path)).1) != 0)⟩]) [0, 0, 0] (by kernel_rfl) (j := 3) rfl ?_
    refine GL_load (i := 3) (ch := []) (b := d) (off := 2) (v := .map (some nb)) rfl rfl (by kernel_rfl) (by kernel_rfl) (by kernel_rfl) (by kernel_rfl) (by kernel_rfl) (At.grp 0 0 rfl rfl) rfl ?_
    refine GL_pure (E' := [⟨18, [], .string path⟩, ⟨17, [], .map (some nb)⟩, ⟨16, [], .pointer (some ⟨d, 2, none⟩)⟩, ⟨15, [], .pointer (some ⟨d, 0, none⟩)⟩, ⟨14, [], .pointer (some ⟨d, 0, none⟩)⟩, ⟨0, [], .pointer (some ⟨d, 0, none⟩)⟩, ⟨1, [], .string path⟩, ⟨5, [], .int .i64 ((callS fails once calls (rightB path)).1)⟩, ⟨12, [], .bool (((callS fails once calls (rightB path)).1) != 0)⟩]) [0] (by kernel_rfl) (j := 5) rfl ?_
    refine GL_lookup (i := 5) (ch := []) (kt := 9) (et := 66) (r := nb) (c := nc) (m := nm) (k := path) (z := .pointer none) (ov := none) rfl rfl (by kernel_rfl) (by kernel_rfl) (by kernel_rfl) (by kernel_rfl) (by kernel_rfl) (by kernel_rfl) (by kernel_rfl) (by kernel_rfl) (At.grp 1 0 rfl rfl) (fun _ => hg) ?_
    refine GL_fin (E' := [⟨6, [], .pointer none⟩]) [0] [6] rfl (by kernel_rfl) ?_
    refine N_then ?_
    refine G_seq ?_
    refine G_seq ?_
    refine G_pure (E' := [⟨6, [], .pointer none⟩, ⟨21, [], .bool true⟩]) [0, 0] [6, 21] rfl (by kernel_rfl) ?_
    refine N_then ?_
    refine G_condt (by kernel_rfl) ?_
    refine G_seq ?_
    refine G_pure (E' := [⟨4, [], .int .i64 60⟩]) [0] [4] rfl (by kernel_rfl) ?_
    refine N_then ?_
    refine G_ret ?_
    refine N_then_ret ?_
    refine N_ret [.tmp 4] [.int .i64 60] rfl (by kernel_rfl) rfl ?_
    exact .inr ⟨hce, rfl, rfl⟩

theorem vSyncYes (d nb kb cb nc : Nat) (room calls : Int) (bv : Value) (fails once : Bool) (nm : SM) (path : ByteArray) (hpath : path.size ≤ 9223372036854775807) (hca : -9223372036854775808 ≤ calls ∧ calls ≤ 9223372036854775807) (p n cn m ck : Nat) (an ak : Option Addr) (hg : mget nm path = some (.pointer (some ⟨p, 0, none⟩))) (W0 : World) (H : List Grp) : Tri Try.prog 14 #[.pointer (some ⟨d, 0, none⟩), .string path] W0 ([(d, .cells #[.int .i64 room, bv, .map (some nb), .map (some kb), .map (some cb), .bool fails, .bool once, .int .i64 calls] 64 (0, 0))] :: [(nb, .map (encM nm) nc)] :: [(p, .cells #[.slice an n cn, .slice ak m ck] 68 (0, 0))] :: H) (fun v H' => ((callS fails once calls (rightB path)).1 ≠ 0 ∧ v = .int .i64 (callS fails once calls (rightB path)).1 ∧ H' = ([(d, .cells #[.int .i64 room, bv, .map (some nb), .map (some kb), .map (some cb), .bool ((callS fails once calls (rightB path)).2.1), .bool once, .int .i64 ((callS fails once calls (rightB path)).2.2)] 64 (0, 0))] :: [(nb, .map (encM nm) nc)] :: [(p, .cells #[.slice an n cn, .slice ak m ck] 68 (0, 0))] :: H)) ∨ ((callS fails once calls (rightB path)).1 = 0 ∧ v = .int .i64 0 ∧ H' = ([(d, .cells #[.int .i64 room, bv, .map (some nb), .map (some kb), .map (some cb), .bool ((callS fails once calls (rightB path)).2.1), .bool once, .int .i64 ((callS fails once calls (rightB path)).2.2)] 64 (0, 0))] :: [(nb, .map (encM nm) nc)] :: [(p, .cells #[.slice an n cn, .slice an n cn] 68 (0, 0))] :: H))) := by
  refine Tri_of (args := [.pointer (some ⟨d, 0, none⟩), .string path]) (n := 29) Try.func14 rfl rfl (Nat.le_of_ble_eq_true rfl) ?_
  refine G_seq ?_
  refine G_pure (E' := [⟨0, [], .pointer (some ⟨d, 0, none⟩)⟩, ⟨1, [], .string path⟩]) [0] [0, 1] rfl (by kernel_rfl) ?_
  refine N_then ?_
  refine G_seq ?_
  refine G_seq ?_
  refine G_region ?_
  refine GL_pure (E' := [⟨8, [], .string path⟩, ⟨7, [], .pointer (some ⟨d, 0, none⟩)⟩, ⟨0, [], .pointer (some ⟨d, 0, none⟩)⟩, ⟨1, [], .string path⟩]) [0, 0] (by kernel_rfl) (j := 2) rfl ?_
  refine GL_callQ (i := 2) (ch := []) (f := 10) (fst := #[]) (caps := #[]) (vs := [.string path]) (v := .bool (rightB path)) rfl rfl rfl (by kernel_rfl) (by kernel_rfl) Try.func10 rfl rfl (by kernel_rfl) (by kernel_rfl) (by kernel_rfl) (fun _ => vfsRight _ hpath _ _) ?_
  refine GL_call (i := 3) (ch := []) (f := 34) (fst := #[]) (caps := #[]) (vs := [.pointer (some ⟨d, 0, none⟩), .bool (rightB path)]) rfl rfl rfl (by kernel_rfl) (by kernel_rfl) Try.func34 rfl rfl (by kernel_rfl) (by kernel_rfl) (chSure_of (by kernel_rfl)) (vCall d nb kb cb room calls bv fails once (rightB path) hca _ _) ?_
  rintro v H' ⟨rfl, rfl⟩
  refine GL_fin (E' := [⟨0, [], .pointer (some ⟨d, 0, none⟩)⟩, ⟨1, [], .string path⟩, ⟨5, [], .int .i64 ((callS fails once calls (rightB path)).1)⟩]) [0] [0, 1, 5] rfl (by kernel_rfl) ?_
  refine N_then ?_
  refine G_seq ?_
  refine G_pure (E' := [⟨0, [], .pointer (some ⟨d, 0, none⟩)⟩, ⟨1, [], .string path⟩, ⟨5, [], .int .i64 ((callS fails once calls (rightB path)).1)⟩, ⟨12, [], .bool (((callS fails once calls (rightB path)).1) != 0)⟩]) [0, 0] [0, 1, 5, 12] rfl (by kernel_rfl) ?_
  refine N_then ?_
  refine G_cond (b := ((callS fails once calls (rightB path)).1) != 0) (by kernel_rfl) (fun hc1 => ?_) (fun hc1 => ?_)
  ·
    have hce : (callS fails once calls (rightB path)).1 ≠ 0 := by simpa using hc1
    -- L err
    refine G_seq ?_
    refine G_pure (E' := [⟨4, [], .int .i64 ((callS fails once calls (rightB path)).1)⟩]) [0, 0] [4] rfl (by kernel_rfl) ?_
    refine N_then ?_
    refine G_ret ?_
    refine N_then_ret ?_
    refine N_ret [.tmp 4] [.int .i64 ((callS fails once calls (rightB path)).1)] rfl (by kernel_rfl) rfl ?_
    exact .inl ⟨hce, rfl, rfl⟩
  ·
    have hce : (callS fails once calls (rightB path)).1 = 0 := by simpa using hc1
    refine G_skip ?_
    refine N_then ?_
    refine G_seq ?_
    refine G_region ?_
    refine GL_pure (E' := [⟨16, [], .pointer (some ⟨d, 2, none⟩)⟩, ⟨15, [], .pointer (some ⟨d, 0, none⟩)⟩, ⟨14, [], .pointer (some ⟨d, 0, none⟩)⟩, ⟨0, [], .pointer (some ⟨d, 0, none⟩)⟩, ⟨1, [], .string path⟩, ⟨5, [], .int .i64 ((callS fails once calls (rightB path)).1)⟩, ⟨12, [], .bool (((callS fails once calls (rightB path)).1) != 0)⟩]) [0, 0, 0] (by kernel_rfl) (j := 3) rfl ?_
    refine GL_load (i := 3) (ch := []) (b := d) (off := 2) (v := .map (some nb)) rfl rfl (by kernel_rfl) (by kernel_rfl) (by kernel_rfl) (by kernel_rfl) (by kernel_rfl) (At.grp 0 0 rfl rfl) rfl ?_
    refine GL_pure (E' := [⟨18, [], .string path⟩, ⟨17, [], .map (some nb)⟩, ⟨16, [], .pointer (some ⟨d, 2, none⟩)⟩, ⟨15, [], .pointer (some ⟨d, 0, none⟩)⟩, ⟨14, [], .pointer (some ⟨d, 0, none⟩)⟩, ⟨0, [], .pointer (some ⟨d, 0, none⟩)⟩, ⟨1, [], .string path⟩, ⟨5, [], .int .i64 ((callS fails once calls (rightB path)).1)⟩, ⟨12, [], .bool (((callS fails once calls (rightB path)).1) != 0)⟩]) [0] (by kernel_rfl) (j := 5) rfl ?_
    refine GL_lookup (i := 5) (ch := []) (kt := 9) (et := 66) (r := nb) (c := nc) (m := nm) (k := path) (z := .pointer none) (ov := (some (.pointer (some ⟨p, 0, none⟩)))) rfl rfl (by kernel_rfl) (by kernel_rfl) (by kernel_rfl) (by kernel_rfl) (by kernel_rfl) (by kernel_rfl) (by kernel_rfl) (by kernel_rfl) (At.grp 1 0 rfl rfl) (fun _ => hg) ?_
    refine GL_fin (E' := [⟨6, [], .pointer (some ⟨p, 0, none⟩)⟩]) [0] [6] rfl (by kernel_rfl) ?_
    refine N_then ?_
    refine G_seq ?_
    refine G_seq ?_
    refine G_pure (E' := [⟨6, [], .pointer (some ⟨p, 0, none⟩)⟩, ⟨21, [], .bool false⟩]) [0, 0] [6, 21] rfl (by kernel_rfl) ?_
    refine N_then ?_
    refine G_condf (by kernel_rfl) ?_
    refine G_skip ?_
    refine N_then ?_
    refine G_seq ?_
    refine G_region ?_
    refine GL_pure (E' := [⟨25, [], .pointer (some ⟨p, 0, none⟩)⟩, ⟨24, [], .pointer (some ⟨p, 0, none⟩)⟩, ⟨23, [], .pointer (some ⟨p, 0, none⟩)⟩, ⟨22, [], .pointer (some ⟨p, 0, none⟩)⟩, ⟨6, [], .pointer (some ⟨p, 0, none⟩)⟩, ⟨21, [], .bool false⟩]) [0, 0, 0, 0] (by kernel_rfl) (j := 4) rfl ?_
    refine GL_load (i := 4) (ch := []) (b := p) (off := 0) (v := .slice an n cn) rfl rfl (by kernel_rfl) (by kernel_rfl) (by kernel_rfl) (by kernel_rfl) (by kernel_rfl) (At.grp 2 0 rfl rfl) rfl ?_
    refine GL_pure (E' := [⟨28, [], .pointer (some ⟨p, 1, none⟩)⟩, ⟨27, [], .pointer (some ⟨p, 0, none⟩)⟩, ⟨26, [], .slice an n cn⟩, ⟨25, [], .pointer (some ⟨p, 0, none⟩)⟩, ⟨24, [], .pointer (some ⟨p, 0, none⟩)⟩, ⟨23, [], .pointer (some ⟨p, 0, none⟩)⟩, ⟨22, [], .pointer (some ⟨p, 0, none⟩)⟩, ⟨6, [], .pointer (some ⟨p, 0, none⟩)⟩, ⟨21, [], .bool false⟩]) [0, 0] (by kernel_rfl) (j := 7) rfl ?_
    refine GL_store (i := 7) (ch := []) (b := p) (off := 1) (v := .slice an n cn) (c := #[.slice an n cn, .slice ak m ck]) (c' := #[.slice an n cn, .slice an n cn]) (j := 2) (m := 0) (H' := ([(d, .cells #[.int .i64 room, bv, .map (some nb), .map (some kb), .map (some cb), .bool ((callS fails once calls (rightB path)).2.1), .bool once, .int .i64 ((callS fails once calls (rightB path)).2.2)] 64 (0, 0))] :: [(nb, .map (encM nm) nc)] :: [(p, .cells #[.slice an n cn, .slice an n cn] 68 (0, 0))] :: H)) rfl rfl (by kernel_rfl) (by kernel_rfl) (by kernel_rfl) (by kernel_rfl) (by kernel_rfl) (by kernel_rfl) (by kernel_rfl) rfl rfl (Nat.le_of_ble_eq_true rfl) (fun _ _ => thaw0) (by kernel_rfl) (by kernel_rfl) ?_
    refine GL_fin (E' := []) [] [] rfl (by kernel_rfl) ?_
    refine N_then ?_
    refine G_seq ?_
    refine G_pure (E' := [⟨4, [], .int .i64 0⟩]) [0] [4] rfl (by kernel_rfl) ?_
    refine N_then ?_
    refine G_ret ?_
    refine N_ret [.tmp 4] [.int .i64 0] rfl (by kernel_rfl) rfl ?_
    exact .inr ⟨hce, rfl, rfl⟩

theorem vRemoveNo (d nb kb cb nc : Nat) (room calls : Int) (bv : Value) (fails once : Bool) (nm cm : SM) (cc : Nat) (hn : MapOk nm nc) (path : ByteArray) (hpath : path.size ≤ 9223372036854775807) (hca : -9223372036854775808 ≤ calls ∧ calls ≤ 9223372036854775807) (hg : mget nm path = none) (W0 : World) (H : List Grp) : Tri Try.prog 43 #[.pointer (some ⟨d, 0, none⟩), .string path] W0 ([(d, .cells #[.int .i64 room, bv, .map (some nb), .map (some kb), .map (some cb), .bool fails, .bool once, .int .i64 calls] 64 (0, 0))] :: [(nb, .map (encM nm) nc)] :: [(cb, .map (encM cm) cc)] :: H) (fun v H' => ((callS fails once calls (rightB path)).1 ≠ 0 ∧ v = .int .i64 (callS fails once calls (rightB path)).1 ∧ H' = ([(d, .cells #[.int .i64 room, bv, .map (some nb), .map (some kb), .map (some cb), .bool ((callS fails once calls (rightB path)).2.1), .bool once, .int .i64 ((callS fails once calls (rightB path)).2.2)] 64 (0, 0))] :: [(nb, .map (encM nm) nc)] :: [(cb, .map (encM cm) cc)] :: H)) ∨ ((callS fails once calls (rightB path)).1 = 0 ∧ v = .int .i64 60 ∧ H' = ([(d, .cells #[.int .i64 room, bv, .map (some nb), .map (some kb), .map (some cb), .bool ((callS fails once calls (rightB path)).2.1), .bool once, .int .i64 ((callS fails once calls (rightB path)).2.2)] 64 (0, 0))] :: [(nb, .map (encM nm) nc)] :: [(cb, .map (encM cm) cc)] :: H))) := by
  refine Tri_of (args := [.pointer (some ⟨d, 0, none⟩), .string path]) (n := 27) Try.func43 rfl rfl (Nat.le_of_ble_eq_true rfl) ?_
  refine G_seq ?_
  refine G_pure (E' := [⟨0, [], .pointer (some ⟨d, 0, none⟩)⟩, ⟨1, [], .string path⟩]) [0] [0, 1] rfl (by kernel_rfl) ?_
  refine N_then ?_
  refine G_seq ?_
  refine G_seq ?_
  refine G_region ?_
  refine GL_pure (E' := [⟨7, [], .string path⟩, ⟨6, [], .pointer (some ⟨d, 0, none⟩)⟩, ⟨0, [], .pointer (some ⟨d, 0, none⟩)⟩, ⟨1, [], .string path⟩]) [0, 0] (by kernel_rfl) (j := 2) rfl ?_
  refine GL_callQ (i := 2) (ch := []) (f := 10) (fst := #[]) (caps := #[]) (vs := [.string path]) (v := .bool (rightB path)) rfl rfl rfl (by kernel_rfl) (by kernel_rfl) Try.func10 rfl rfl (by kernel_rfl) (by kernel_rfl) (by kernel_rfl) (fun _ => vfsRight _ hpath _ _) ?_
  refine GL_call (i := 3) (ch := []) (f := 34) (fst := #[]) (caps := #[]) (vs := [.pointer (some ⟨d, 0, none⟩), .bool (rightB path)]) rfl rfl rfl (by kernel_rfl) (by kernel_rfl) Try.func34 rfl rfl (by kernel_rfl) (by kernel_rfl) (chSure_of (by kernel_rfl)) (vCall d nb kb cb room calls bv fails once (rightB path) hca _ _) ?_
  rintro v H' ⟨rfl, rfl⟩
  refine GL_fin (E' := [⟨0, [], .pointer (some ⟨d, 0, none⟩)⟩, ⟨1, [], .string path⟩, ⟨5, [], .int .i64 ((callS fails once calls (rightB path)).1)⟩]) [0] [0, 1, 5] rfl (by kernel_rfl) ?_
  refine N_then ?_
  refine G_seq ?_
  refine G_pure (E' := [⟨0, [], .pointer (some ⟨d, 0, none⟩)⟩, ⟨1, [], .string path⟩, ⟨5, [], .int .i64 ((callS fails once calls (rightB path)).1)⟩, ⟨11, [], .bool (((callS fails once calls (rightB path)).1) != 0)⟩]) [0, 0] [0, 1, 5, 11] rfl (by kernel_rfl) ?_
  refine N_then ?_
  refine G_cond (b := ((callS fails once calls (rightB path)).1) != 0) (by kernel_rfl) (fun hc1 => ?_) (fun hc1 => ?_)
  ·
    have hce : (callS fails once calls (rightB path)).1 ≠ 0 := by simpa using hc1
    -- L err
    refine G_seq ?_
    refine G_pure (E' := [⟨4, [], .int .i64 ((callS fails once calls (rightB path)).1)⟩]) [0, 0] [4] rfl (by kernel_rfl) ?_
    refine N_then ?_
    refine G_ret ?_
    refine N_then_ret ?_
    refine N_ret [.tmp 4] [.int .i64 ((callS fails once calls (rightB path)).1)] rfl (by kernel_rfl) rfl ?_
    exact .inl ⟨hce, rfl, rfl⟩
  ·
    have hce : (callS fails once calls (rightB path)).1 = 0 := by simpa using hc1
    refine G_skip ?_
    refine N_then ?_
    refine G_seq ?_
    refine G_seq ?_
    refine G_region ?_
    refine GL_pure (E' := [⟨15, [], .pointer (some ⟨d, 2, none⟩)⟩, ⟨14, [], .pointer (some ⟨d, 0, none⟩)⟩, ⟨13, [], .pointer (some ⟨d, 0, none⟩)⟩, ⟨0, [], .pointer (some ⟨d, 0, none⟩)⟩, ⟨1, [], .string path⟩, ⟨5, [], .int .i64 ((callS fails once calls (rightB path)).1)⟩, ⟨11, [], .bool (((callS fails once calls (rightB path)).1) != 0)⟩]) [0, 0, 0] (by kernel_rfl) (j := 3) rfl ?_
    refine GL_load (i := 3) (ch := []) (b := d) (off := 2) (v := .map (some nb)) rfl rfl (by kernel_rfl) (by kernel_rfl) (by kernel_rfl) (by kernel_rfl) (by kernel_rfl) (At.grp 0 0 rfl rfl) rfl ?_
    refine GL_pure (E' := [⟨17, [], .string path⟩, ⟨16, [], .map (some nb)⟩, ⟨15, [], .pointer (some ⟨d, 2, none⟩)⟩, ⟨14, [], .pointer (some ⟨d, 0, none⟩)⟩, ⟨13, [], .pointer (some ⟨d, 0, none⟩)⟩, ⟨0, [], .pointer (some ⟨d, 0, none⟩)⟩, ⟨1, [], .string path⟩, ⟨5, [], .int .i64 ((callS fails once calls (rightB path)).1)⟩, ⟨11, [], .bool (((callS fails once calls (rightB path)).1) != 0)⟩]) [0] (by kernel_rfl) (j := 5) rfl ?_
    refine GL_lookup (i := 5) (ch := []) (kt := 9) (et := 66) (r := nb) (c := nc) (m := nm) (k := path) (z := .pointer none) (ov := none) rfl rfl (by kernel_rfl) (by kernel_rfl) (by kernel_rfl) (by kernel_rfl) (by kernel_rfl) (by kernel_rfl) (by kernel_rfl) (by kernel_rfl) (At.grp 1 0 rfl rfl) (fun _ => hg) ?_
    refine GL_fin (E' := [⟨0, [], .pointer (some ⟨d, 0, none⟩)⟩, ⟨1, [], .string path⟩, ⟨19, [], .bool true⟩]) [0] [0, 1, 19] rfl (by kernel_rfl) ?_
    refine N_then ?_
    refine G_condt (by kernel_rfl) ?_
    refine G_seq ?_
    refine G_pure (E' := [⟨4, [], .int .i64 60⟩]) [0] [4] rfl (by kernel_rfl) ?_
    refine N_then ?_
    refine G_ret ?_
    refine N_then_ret ?_
    refine N_ret [.tmp 4] [.int .i64 60] rfl (by kernel_rfl) rfl ?_
    exact .inr ⟨hce, rfl, rfl⟩

theorem vRemoveYes (d nb kb cb nc : Nat) (room calls : Int) (bv : Value) (fails once : Bool) (nm cm : SM) (cc : Nat) (hn : MapOk nm nc) (path : ByteArray) (hpath : path.size ≤ 9223372036854775807) (hca : -9223372036854775808 ≤ calls ∧ calls ≤ 9223372036854775807) (p : Nat) (hg : mget nm path = some (.pointer (some ⟨p, 0, none⟩))) (hdir : mget cm (dirB path) = none) (W0 : World) (H : List Grp) : Tri Try.prog 43 #[.pointer (some ⟨d, 0, none⟩), .string path] W0 ([(d, .cells #[.int .i64 room, bv, .map (some nb), .map (some kb), .map (some cb), .bool fails, .bool once, .int .i64 calls] 64 (0, 0))] :: [(nb, .map (encM nm) nc)] :: [(cb, .map (encM cm) cc)] :: H) (fun v H' => ((callS fails once calls (rightB path)).1 ≠ 0 ∧ v = .int .i64 (callS fails once calls (rightB path)).1 ∧ H' = ([(d, .cells #[.int .i64 room, bv, .map (some nb), .map (some kb), .map (some cb), .bool ((callS fails once calls (rightB path)).2.1), .bool once, .int .i64 ((callS fails once calls (rightB path)).2.2)] 64 (0, 0))] :: [(nb, .map (encM nm) nc)] :: [(cb, .map (encM cm) cc)] :: H)) ∨ ((callS fails once calls (rightB path)).1 = 0 ∧ v = .int .i64 0 ∧ ∃ q x g, Own 72 1 x g 1 [.map (some q)] ∧ H' = ([(d, .cells #[.int .i64 room, bv, .map (some nb), .map (some kb), .map (some cb), .bool ((callS fails once calls (rightB path)).2.1), .bool once, .int .i64 ((callS fails once calls (rightB path)).2.2)] 64 (0, 0))]  :: [(nb, .map (encM (foldS (nm, nc) [(path, .pointer none, 0)]).1) (foldS (nm, nc) [(path, .pointer none, 0)]).2)] :: [(cb, .map (encM (mput cm cc (dirB path) x)) (if mhas cm (dirB path) then cc else cc + 1))] :: g :: [(q, .map (encM [(path, .pointer none, 0)]) 1)] :: H))) := by
  refine Tri_of (args := [.pointer (some ⟨d, 0, none⟩), .string path]) (n := 27) Try.func43 rfl rfl (Nat.le_of_ble_eq_true rfl) ?_
  refine G_seq ?_
  refine G_pure (E' := [⟨0, [], .pointer (some ⟨d, 0, none⟩)⟩, ⟨1, [], .string path⟩]) [0] [0, 1] rfl (by kernel_rfl) ?_
  refine N_then ?_
  refine G_seq ?_
  refine G_seq ?_
  refine G_region ?_
  refine GL_pure (E' := [⟨7, [], .string path⟩, ⟨6, [], .pointer (some ⟨d, 0, none⟩)⟩, ⟨0, [], .pointer (some ⟨d, 0, none⟩)⟩, ⟨1, [], .string path⟩]) [0, 0] (by kernel_rfl) (j := 2) rfl ?_
  refine GL_callQ (i := 2) (ch := []) (f := 10) (fst := #[]) (caps := #[]) (vs := [.string path]) (v := .bool (rightB path)) rfl rfl rfl (by kernel_rfl) (by kernel_rfl) Try.func10 rfl rfl (by kernel_rfl) (by kernel_rfl) (by kernel_rfl) (fun _ => vfsRight _ hpath _ _) ?_
  refine GL_call (i := 3) (ch := []) (f := 34) (fst := #[]) (caps := #[]) (vs := [.pointer (some ⟨d, 0, none⟩), .bool (rightB path)]) rfl rfl rfl (by kernel_rfl) (by kernel_rfl) Try.func34 rfl rfl (by kernel_rfl) (by kernel_rfl) (chSure_of (by kernel_rfl)) (vCall d nb kb cb room calls bv fails once (rightB path) hca _ _) ?_
  rintro v H' ⟨rfl, rfl⟩
  refine GL_fin (E' := [⟨0, [], .pointer (some ⟨d, 0, none⟩)⟩, ⟨1, [], .string path⟩, ⟨5, [], .int .i64 ((callS fails once calls (rightB path)).1)⟩]) [0] [0, 1, 5] rfl (by kernel_rfl) ?_
  refine N_then ?_
  refine G_seq ?_
  refine G_pure (E' := [⟨0, [], .pointer (some ⟨d, 0, none⟩)⟩, ⟨1, [], .string path⟩, ⟨5, [], .int .i64 ((callS fails once calls (rightB path)).1)⟩, ⟨11, [], .bool (((callS fails once calls (rightB path)).1) != 0)⟩]) [0, 0] [0, 1, 5, 11] rfl (by kernel_rfl) ?_
  refine N_then ?_
  refine G_cond (b := ((callS fails once calls (rightB path)).1) != 0) (by kernel_rfl) (fun hc1 => ?_) (fun hc1 => ?_)
  ·
    have hce : (callS fails once calls (rightB path)).1 ≠ 0 := by simpa using hc1
    -- L err
    refine G_seq ?_
    refine G_pure (E' := [⟨4, [], .int .i64 ((callS fails once calls (rightB path)).1)⟩]) [0, 0] [4] rfl (by kernel_rfl) ?_
    refine N_then ?_
    refine G_ret ?_
    refine N_then_ret ?_
    refine N_heap (H' := ([(d, .cells #[.int .i64 room, bv, .map (some nb), .map (some kb), .map (some cb), .bool ((callS fails once calls (rightB path)).2.1), .bool once, .int .i64 ((callS fails once calls (rightB path)).2.2)] 64 (0, 0))] :: [(nb, .map (encM nm) nc)] :: [(cb, .map (encM cm) cc)] :: H)) (fun w h => (((h.front (j := 2) rfl).front (j := 2) rfl).front (j := 2) rfl)) ?_
    refine N_ret [.tmp 4] [.int .i64 ((callS fails once calls (rightB path)).1)] rfl (by kernel_rfl) rfl ?_
    exact .inl ⟨hce, rfl, rfl⟩
  ·
    have hce : (callS fails once calls (rightB path)).1 = 0 := by simpa using hc1
    refine G_skip ?_
    refine N_then ?_
    refine G_seq ?_
    refine G_seq ?_
    refine G_region ?_
    refine GL_pure (E' := [⟨15, [], .pointer (some ⟨d, 2, none⟩)⟩, ⟨14, [], .pointer (some ⟨d, 0, none⟩)⟩, ⟨13, [], .pointer (some ⟨d, 0, none⟩)⟩, ⟨0, [], .pointer (some ⟨d, 0, none⟩)⟩, ⟨1, [], .string path⟩, ⟨5, [], .int .i64 ((callS fails once calls (rightB path)).1)⟩, ⟨11, [], .bool (((callS fails once calls (rightB path)).1) != 0)⟩]) [0, 0, 0] (by kernel_rfl) (j := 3) rfl ?_
    refine GL_load (i := 3) (ch := []) (b := d) (off := 2) (v := .map (some nb)) rfl rfl (by kernel_rfl) (by kernel_rfl) (by kernel_rfl) (by kernel_rfl) (by kernel_rfl) (At.grp 0 0 rfl rfl) rfl ?_
    refine GL_pure (E' := [⟨17, [], .string path⟩, ⟨16, [], .map (some nb)⟩, ⟨15, [], .pointer (some ⟨d, 2, none⟩)⟩, ⟨14, [], .pointer (some ⟨d, 0, none⟩)⟩, ⟨13, [], .pointer (some ⟨d, 0, none⟩)⟩, ⟨0, [], .pointer (some ⟨d, 0, none⟩)⟩, ⟨1, [], .string path⟩, ⟨5, [], .int .i64 ((callS fails once calls (rightB path)).1)⟩, ⟨11, [], .bool (((callS fails once calls (rightB path)).1) != 0)⟩]) [0] (by kernel_rfl) (j := 5) rfl ?_
    refine GL_lookup (i := 5) (ch := []) (kt := 9) (et := 66) (r := nb) (c := nc) (m := nm) (k := path) (z := .pointer none) (ov := (some (.pointer (some ⟨p, 0, none⟩)))) rfl rfl (by kernel_rfl) (by kernel_rfl) (by kernel_rfl) (by kernel_rfl) (by kernel_rfl) (by kernel_rfl) (by kernel_rfl) (by kernel_rfl) (At.grp 1 0 rfl rfl) (fun _ => hg) ?_
    refine GL_fin (E' := [⟨0, [], .pointer (some ⟨d, 0, none⟩)⟩, ⟨1, [], .string path⟩, ⟨19, [], .bool false⟩]) [0] [0, 1, 19] rfl (by kernel_rfl) ?_
    refine N_then ?_
    refine G_condf (by kernel_rfl) ?_
    refine G_skip ?_
    refine N_then ?_
    refine G_seq ?_
    refine G_region ?_
    refine GL_pure (E' := [⟨21, [], .string path⟩, ⟨20, [], .pointer (some ⟨d, 0, none⟩)⟩, ⟨0, [], .pointer (some ⟨d, 0, none⟩)⟩, ⟨1, [], .string path⟩, ⟨19, [], .bool false⟩]) [0, 0] (by kernel_rfl) (j := 2) rfl ?_
    refine GL_callQ (i := 2) (ch := []) (f := 37) (fst := #[]) (caps := #[]) (vs := [.string path]) (v := .string (dirB path)) rfl rfl rfl (by kernel_rfl) (by kernel_rfl) Try.func37 rfl rfl (by kernel_rfl) (by kernel_rfl) (by kernel_rfl) (fun _ => vfsDirOf _ hpath _ _) ?_
    refine GL_makeMap (i := 3) (ch := []) rfl rfl (by kernel_rfl) (by kernel_rfl) (by kernel_rfl) (fun b2 => ?_)
    refine GL_pure (E' := [⟨24, [], .string path⟩, ⟨23, [], .map (some b2)⟩, ⟨22, [], .string (dirB path)⟩, ⟨21, [], .string path⟩, ⟨20, [], .pointer (some ⟨d, 0, none⟩)⟩, ⟨0, [], .pointer (some ⟨d, 0, none⟩)⟩, ⟨1, [], .string path⟩, ⟨19, [], .bool false⟩]) [0] (by kernel_rfl) (j := 5) rfl ?_
    refine GL_mapPut (i := 5) (ch := []) (kt := 9) (et := 66) (r := b2) (c := 0) (j := 0) (q := 0) (m := []) (k := path) (v := .pointer none) (H' := ([(b2, .map (encM ([(path, .pointer none, 0)])) 1)] :: [(d, .cells #[.int .i64 room, bv, .map (some nb), .map (some kb), .map (some cb), .bool ((callS fails once calls (rightB path)).2.1), .bool once, .int .i64 ((callS fails once calls (rightB path)).2.2)] 64 (0, 0))] :: [(nb, .map (encM nm) nc)] :: [(cb, .map (encM cm) cc)] :: H)) rfl (.inr rfl) (by kernel_rfl) (by kernel_rfl) (by kernel_rfl) (by kernel_rfl) (by kernel_rfl) (by kernel_rfl) (by kernel_rfl) (by kernel_rfl) rfl rfl rfl ?_
    refine GL_pure (E' := [⟨25, [], .map (some b2)⟩, ⟨24, [], .string path⟩, ⟨23, [], .map (some b2)⟩, ⟨22, [], .string (dirB path)⟩, ⟨21, [], .string path⟩, ⟨20, [], .pointer (some ⟨d, 0, none⟩)⟩, ⟨0, [], .pointer (some ⟨d, 0, none⟩)⟩, ⟨1, [], .string path⟩, ⟨19, [], .bool false⟩]) [0] (by kernel_rfl) (j := 7) rfl ?_
    refine GL_heap rfl (H' := ([(d, .cells #[.int .i64 room, bv, .map (some nb), .map (some kb), .map (some cb), .bool ((callS fails once calls (rightB path)).2.1), .bool once, .int .i64 ((callS fails once calls (rightB path)).2.2)] 64 (0, 0))] :: [(nb, .map (encM nm) nc)] :: [(cb, .map (encM cm) cc)] :: [(b2, .map (encM ([(path, .pointer none, 0)])) 1)] :: H)) (fun w h => (((h.front (j := 3) rfl).front (j := 3) rfl).front (j := 3) rfl)) ?_
    refine GL_call (i := 7) (ch := []) (f := 36) (fst := #[]) (caps := #[]) (vs := [.pointer (some ⟨d, 0, none⟩), .string (dirB path), .map (some b2)]) rfl rfl rfl (by kernel_rfl) (by kernel_rfl) Try.func36 rfl rfl (by kernel_rfl) (by kernel_rfl) (chSure_of (by kernel_rfl)) (vNameNew d nb kb cb b2 nc cc 1 room ((callS fails once calls (rightB path)).2.2) bv ((callS fails once calls (rightB path)).2.1) once nm cm ([(path, .pointer none, 0)]) (dirB path) hn (mapok1 _ _) (hv0 _) hdir _ _ (At.grp 0 0 rfl rfl)) ?_
    rintro v H' ⟨dn3, x4, g5, hdn6, hO7, rfl, rfl⟩
    refine GL_fin (E' := []) [] [] rfl (by kernel_rfl) ?_
    refine N_then ?_
    refine G_seq ?_
    refine G_pure (E' := [⟨4, [], .int .i64 0⟩]) [0] [4] rfl (by kernel_rfl) ?_
    refine N_then ?_
    refine G_ret ?_
    refine N_heap (H' := ([(d, .cells #[.int .i64 room, bv, .map (some nb), .map (some kb), .map (some cb), .bool ((callS fails once calls (rightB path)).2.1), .bool once, .int .i64 ((callS fails once calls (rightB path)).2.2)] 64 (0, 0))] :: [(nb, .map (encM ((foldS (nm, nc) dn3).1)) ((foldS (nm, nc) dn3).2))] :: [(cb, .map (encM (mput cm cc (dirB path) x4)) (if mhas cm (dirB path) then cc else cc + 1))] :: g5 :: [(b2, .map (encM ([(path, .pointer none, 0)])) 1)] :: H)) (fun w h => (((((h.front (j := 4) rfl).front (j := 4) rfl).front (j := 4) rfl).front (j := 4) rfl).front (j := 4) rfl)) ?_
    refine N_ret [.tmp 4] [.int .i64 0] rfl (by kernel_rfl) rfl ?_
    have hdn1 := List.perm_singleton.1 hdn6
    subst hdn1
    exact .inr ⟨hce, rfl, _, x4, g5, hO7, rfl⟩

theorem vSyncDirNo (d nb kb cb kc cc : Nat) (room calls : Int) (bv : Value) (fails once : Bool) (km cm : SM) (dir : ByteArray) (hdir : dir.size ≤ 9223372036854775807) (hca : -9223372036854775808 ≤ calls ∧ calls ≤ 9223372036854775807) (hk : MapOk km kc) (hg : mget cm dir = none) (W0 : World) (H : List Grp) : Tri Try.prog 15 #[.pointer (some ⟨d, 0, none⟩), .string dir] W0 ([(d, .cells #[.int .i64 room, bv, .map (some nb), .map (some kb), .map (some cb), .bool fails, .bool once, .int .i64 calls] 64 (0, 0))] :: [(kb, .map (encM km) kc)] :: [(cb, .map (encM cm) cc)] :: H) (fun v H' => ((callS fails once calls ((dir.toList == (ByteArray.mk #[]).toList) || partB dir)).1 ≠ 0 ∧ v = .int .i64 (callS fails once calls ((dir.toList == (ByteArray.mk #[]).toList) || partB dir)).1 ∧ H' = ([(d, .cells #[.int .i64 room, bv, .map (some nb), .map (some kb), .map (some cb), .bool ((callS fails once calls ((dir.toList == (ByteArray.mk #[]).toList) || partB dir)).2.1), .bool once, .int .i64 ((callS fails once calls ((dir.toList == (ByteArray.mk #[]).toList) || partB dir)).2.2)] 64 (0, 0))] :: [(kb, .map (encM km) kc)] :: [(cb, .map (encM cm) cc)] :: H)) ∨ ((callS fails once calls ((dir.toList == (ByteArray.mk #[]).toList) || partB dir)).1 = 0 ∧ v = .int .i64 0 ∧ H' = ([(d, .cells #[.int .i64 room, bv, .map (some nb), .map (some kb), .map (some cb), .bool ((callS fails once calls ((dir.toList == (ByteArray.mk #[]).toList) || partB dir)).2.1), .bool once, .int .i64 ((callS fails once calls ((dir.toList == (ByteArray.mk #[]).toList) || partB dir)).2.2)] 64 (0, 0))] :: [(kb, .map (encM km) kc)] :: [(cb, .map (encM (mdel cm dir)) cc)] :: H))) := by
  refine Tri_of (args := [.pointer (some ⟨d, 0, none⟩), .string dir]) (n := 42) Try.func15 rfl rfl (Nat.le_of_ble_eq_true rfl) ?_
  refine G_seq ?_
  refine G_pure (E' := [⟨0, [], .pointer (some ⟨d, 0, none⟩)⟩, ⟨1, [], .string dir⟩]) [0] [0, 1] rfl (by kernel_rfl) ?_
  refine N_then ?_
  refine G_seq ?_
  refine G_seq ?_
  refine G_region ?_
  refine GL_pure (E' := [⟨12, [(11, false)], .string dir⟩, ⟨11, [], .bool (dir.toList == (ByteArray.mk #[]).toList)⟩, ⟨10, [], .bool (dir.toList == (ByteArray.mk #[]).toList)⟩, ⟨9, [], .string dir⟩, ⟨8, [], .pointer (some ⟨d, 0, none⟩)⟩, ⟨0, [], .pointer (some ⟨d, 0, none⟩)⟩, ⟨1, [], .string dir⟩]) [0, 0, 0, 0, 0] (by kernel_rfl) (j := 5) rfl ?_
  refine GL_callQ (i := 5) (ch := [(11, false)]) (f := 32) (fst := #[]) (caps := #[]) (vs := [.string dir]) (v := .bool (partB dir)) rfl rfl rfl (by kernel_rfl) (by kernel_rfl) Try.func32 rfl rfl (by kernel_rfl) (by kernel_rfl) (by kernel_rfl) (fun hc => vfsPart _ hdir _ _) ?_
  refine GL_pure (E' := [⟨14, [], .bool ((dir.toList == (ByteArray.mk #[]).toList) || (partB dir))⟩, ⟨13, [(11, false)], .bool (partB dir)⟩, ⟨12, [(11, false)], .string dir⟩, ⟨11, [], .bool (dir.toList == (ByteArray.mk #[]).toList)⟩, ⟨10, [], .bool (dir.toList == (ByteArray.mk #[]).toList)⟩, ⟨9, [], .string dir⟩, ⟨8, [], .pointer (some ⟨d, 0, none⟩)⟩, ⟨0, [], .pointer (some ⟨d, 0, none⟩)⟩, ⟨1, [], .string dir⟩]) [5] (by kernel_rfl) (j := 7) rfl ?_
  refine GL_call (i := 7) (ch := []) (f := 34) (fst := #[]) (caps := #[]) (vs := [.pointer (some ⟨d, 0, none⟩), .bool ((dir.toList == (ByteArray.mk #[]).toList) || (partB dir))]) rfl rfl rfl (by kernel_rfl) (by kernel_rfl) Try.func34 rfl rfl (by kernel_rfl) (by kernel_rfl) (chSure_of (by kernel_rfl)) (vCall d nb kb cb room calls bv fails once ((dir.toList == (ByteArray.mk #[]).toList) || (partB dir)) hca _ _) ?_
  rintro v H' ⟨rfl, rfl⟩
  refine GL_fin (E' := [⟨0, [], .pointer (some ⟨d, 0, none⟩)⟩, ⟨1, [], .string dir⟩, ⟨5, [], .int .i64 ((callS fails once calls ((dir.toList == (ByteArray.mk #[]).toList) || (partB dir))).1)⟩]) [0] [0, 1, 5] rfl (by kernel_rfl) ?_
  refine N_then ?_
  refine G_seq ?_
  refine G_pure (E' := [⟨0, [], .pointer (some ⟨d, 0, none⟩)⟩, ⟨1, [], .string dir⟩, ⟨5, [], .int .i64 ((callS fails once calls ((dir.toList == (ByteArray.mk #[]).toList) || (partB dir))).1)⟩, ⟨17, [], .bool (((callS fails once calls ((dir.toList == (ByteArray.mk #[]).toList) || (partB dir))).1) != 0)⟩]) [0, 0] [0, 1, 5, 17] rfl (by kernel_rfl) ?_
  refine N_then ?_
  refine G_cond (b := ((callS fails once calls ((dir.toList == (ByteArray.mk #[]).toList) || (partB dir))).1) != 0) (by kernel_rfl) (fun hc1 => ?_) (fun hc1 => ?_)
  ·
    have hce : (callS fails once calls ((dir.toList == (ByteArray.mk #[]).toList) || partB dir)).1 ≠ 0 := by simpa using hc1
    -- L err
    refine G_seq ?_
    refine G_pure (E' := [⟨4, [], .int .i64 ((callS fails once calls ((dir.toList == (ByteArray.mk #[]).toList) || (partB dir))).1)⟩]) [0, 0] [4] rfl (by kernel_rfl) ?_
    refine N_then ?_
    refine G_ret ?_
    refine N_then_ret ?_
    refine N_ret [.tmp 4] [.int .i64 ((callS fails once calls ((dir.toList == (ByteArray.mk #[]).toList) || (partB dir))).1)] rfl (by kernel_rfl) rfl ?_
    exact .inl ⟨hce, rfl, rfl⟩
  ·
    have hce : (callS fails once calls ((dir.toList == (ByteArray.mk #[]).toList) || partB dir)).1 = 0 := by simpa using hc1
    refine G_skip ?_
    refine N_then ?_
    refine G_seq ?_
    refine G_seq ?_
    refine G_region ?_
    refine GL_pure (E' := [⟨21, [], .pointer (some ⟨d, 4, none⟩)⟩, ⟨20, [], .pointer (some ⟨d, 0, none⟩)⟩, ⟨19, [], .pointer (some ⟨d, 0, none⟩)⟩, ⟨0, [], .pointer (some ⟨d, 0, none⟩)⟩, ⟨1, [], .string dir⟩, ⟨5, [], .int .i64 ((callS fails once calls ((dir.toList == (ByteArray.mk #[]).toList) || (partB dir))).1)⟩, ⟨17, [], .bool (((callS fails once calls ((dir.toList == (ByteArray.mk #[]).toList) || (partB dir))).1) != 0)⟩]) [0, 0, 0] (by kernel_rfl) (j := 3) rfl ?_
    refine GL_load (i := 3) (ch := []) (b := d) (off := 4) (v := .map (some cb)) rfl rfl (by kernel_rfl) (by kernel_rfl) (by kernel_rfl) (by kernel_rfl) (by kernel_rfl) (At.grp 0 0 rfl rfl) rfl ?_
    refine GL_pure (E' := [⟨23, [], .string dir⟩, ⟨22, [], .map (some cb)⟩, ⟨21, [], .pointer (some ⟨d, 4, none⟩)⟩, ⟨20, [], .pointer (some ⟨d, 0, none⟩)⟩, ⟨19, [], .pointer (some ⟨d, 0, none⟩)⟩, ⟨0, [], .pointer (some ⟨d, 0, none⟩)⟩, ⟨1, [], .string dir⟩, ⟨5, [], .int .i64 ((callS fails once calls ((dir.toList == (ByteArray.mk #[]).toList) || (partB dir))).1)⟩, ⟨17, [], .bool (((callS fails once calls ((dir.toList == (ByteArray.mk #[]).toList) || (partB dir))).1) != 0)⟩]) [0] (by kernel_rfl) (j := 5) rfl ?_
    refine GL_lookup (i := 5) (ch := []) (kt := 9) (et := 73) (r := cb) (c := cc) (m := cm) (k := dir) (z := .slice none 0 0) (ov := none) rfl rfl (by kernel_rfl) (by kernel_rfl) (by kernel_rfl) (by kernel_rfl) (by kernel_rfl) (by kernel_rfl) (by kernel_rfl) (by kernel_rfl) (At.grp 2 0 rfl rfl) (fun _ => hg) ?_
    refine GL_fin (E' := [⟨0, [], .pointer (some ⟨d, 0, none⟩)⟩, ⟨1, [], .string dir⟩, ⟨24, [], .slice none 0 0⟩, ⟨25, [], .int .i64 0⟩, ⟨26, [], .int .i64 0⟩]) [0, 0] [0, 1, 24, 25, 26] rfl (by kernel_rfl) ?_
    refine N_then ?_
    refine G_block ?_
    refine G_loop (EI := (fun ξ : Unit => [⟨0, [], .pointer (some ⟨d, 0, none⟩)⟩, ⟨1, [], .string dir⟩, ⟨24, [], .slice none 0 0⟩, ⟨25, [], .int .i64 0⟩, ⟨26, [], .int .i64 0⟩])) (HI := (fun ξ : Unit => ([(d, .cells #[.int .i64 room, bv, .map (some nb), .map (some kb), .map (some cb), .bool ((callS fails once calls ((dir.toList == (ByteArray.mk #[]).toList) || (partB dir))).2.1), .bool once, .int .i64 ((callS fails once calls ((dir.toList == (ByteArray.mk #[]).toList) || (partB dir))).2.2)] 64 (0, 0))] :: [(kb, .map (encM km) kc)] :: [(cb, .map (encM cm) cc)] :: H))) (Φ := (fun ξ : Unit => True)) (μ := (fun ξ : Unit => 0)) (s0 := (())) [0, 1, 24, 25, 26] (by kernel_rfl) rfl trivial ?_
    rintro u _
    refine G_seq ?_
    refine G_pure (E' := [⟨0, [], .pointer (some ⟨d, 0, none⟩)⟩, ⟨1, [], .string dir⟩, ⟨24, [], .slice none 0 0⟩, ⟨25, [], .int .i64 0⟩, ⟨26, [], .int .i64 0⟩, ⟨27, [], .bool false⟩]) [0] [0, 1, 24, 25, 26, 27] rfl (by kernel_rfl) ?_
    refine N_then ?_
    refine G_seq ?_
    refine G_condf (by kernel_rfl) ?_
    refine G_exit ?_
    refine N_then_exit ?_
    refine N_then_exit ?_
    refine N_block_exit ?_
    refine N_then ?_
    refine G_seq ?_
    refine G_region ?_
    refine GL_pure (E' := [⟨39, [], .pointer (some ⟨d, 4, none⟩)⟩, ⟨38, [], .pointer (some ⟨d, 0, none⟩)⟩, ⟨37, [], .pointer (some ⟨d, 0, none⟩)⟩, ⟨0, [], .pointer (some ⟨d, 0, none⟩)⟩, ⟨1, [], .string dir⟩, ⟨24, [], .slice none 0 0⟩, ⟨25, [], .int .i64 0⟩, ⟨26, [], .int .i64 0⟩, ⟨27, [], .bool false⟩]) [0, 0, 0] (by kernel_rfl) (j := 3) rfl ?_
    refine GL_load (i := 3) (ch := []) (b := d) (off := 4) (v := .map (some cb)) rfl rfl (by kernel_rfl) (by kernel_rfl) (by kernel_rfl) (by kernel_rfl) (by kernel_rfl) (At.grp 0 0 rfl rfl) rfl ?_
    refine GL_pure (E' := [⟨41, [], .string dir⟩, ⟨40, [], .map (some cb)⟩, ⟨39, [], .pointer (some ⟨d, 4, none⟩)⟩, ⟨38, [], .pointer (some ⟨d, 0, none⟩)⟩, ⟨37, [], .pointer (some ⟨d, 0, none⟩)⟩, ⟨0, [], .pointer (some ⟨d, 0, none⟩)⟩, ⟨1, [], .string dir⟩, ⟨24, [], .slice none 0 0⟩, ⟨25, [], .int .i64 0⟩, ⟨26, [], .int .i64 0⟩, ⟨27, [], .bool false⟩]) [0] (by kernel_rfl) (j := 5) rfl ?_
    refine GL_delete (i := 5) (ch := []) (ts := #[61, 9]) (t := 61) (kt := 9) (et := 73) (r := cb) (c := cc) (j := 2) (q := 0) (m := cm) (k := dir) (H' := ([(d, .cells #[.int .i64 room, bv, .map (some nb), .map (some kb), .map (some cb), .bool ((callS fails once calls ((dir.toList == (ByteArray.mk #[]).toList) || (partB dir))).2.1), .bool once, .int .i64 ((callS fails once calls ((dir.toList == (ByteArray.mk #[]).toList) || (partB dir))).2.2)] 64 (0, 0))] :: [(kb, .map (encM km) kc)] :: [(cb, .map (encM (mdel cm dir)) cc)] :: H)) rfl rfl rfl rfl rfl (by kernel_rfl) (by kernel_rfl) (by kernel_rfl) (by kernel_rfl) (by kernel_rfl) (by kernel_rfl) rfl rfl rfl ?_
    refine GL_fin (E' := []) [] [] rfl (by kernel_rfl) ?_
    refine N_then ?_
    refine G_seq ?_
    refine G_pure (E' := [⟨4, [], .int .i64 0⟩]) [0] [4] rfl (by kernel_rfl) ?_
    refine N_then ?_
    refine G_ret ?_
    refine N_ret [.tmp 4] [.int .i64 0] rfl (by kernel_rfl) rfl ?_
    exact .inr ⟨hce, rfl, rfl⟩

end Go.Proofs.Ytbmieiffboenbaa
