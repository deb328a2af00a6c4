/- Regions whose order is drawn and that act: what reads only what stays is taken first. And results that lie in cells. No condition. -/
import Derived.Test.YtbmieiffboenbaaHeap2
import Derived.OrdersHeld
namespace Go.Sw

theorem chB_hd {E : List Sl} {t : Nat} {w b : Bool} {r c : List (Nat × Bool)} (h : chB E ((t, w) :: r)) (hf : Env.find E t = some ⟨t, c, .bool b⟩) : b = w := by
  have h1 := h.1
  rw [hf] at h1
  exact h1
theorem chB_tl {E : List Sl} {p : Nat × Bool} {r : List (Nat × Bool)} (h : chB E (p :: r)) : chB E r := h.2

def Qn (K : Act → World → Prop) : Post := fun x a w => x = .normal ∧ K a w

theorem wp_swap {P : Program} {o : Oper} {a : Act} {w : World} {K1 K A B : Act → World → Prop} (h : ∀ a w, K1 a w → K a w)
    (hh : o.wp P a w K1 (Qn A)) : o.wp P a w K (Qn B) := by
  unfold Oper.wp at *
  generalize (execOp a.eval o).run P w = r at *
  cases r with
  | ok n w' =>
    cases n <;> simp only [Oper.upon] at hh ⊢ <;>
      first
        | exact h _ _ hh
        | exact Calls.mono hh (fun e w'' he => by
            cases e
            · exact h _ _ he
            · exact absurd he.1 (by intro h; cases h)
            · obtain ⟨_, _, h1, _⟩ := he; cases h1)
        | exact Rows.mono hh (fun _ _ he => h _ _ he)
  | halt x w' => cases x <;> simp only [Oper.upon] at hh ⊢ <;> first | exact hh | exact absurd hh.1 (by intro h; cases h)

def cutOps (ops : Array Oper) (i : Nat) : Array Oper := (ops.toList.take (i + 1)).toArray
def guardBefore (ops : Array Oper) (i : Nat) : Bool := match ops[i]? with | some o => (match o.guard with | some (j, _) => decide (j ≤ i) | none => true) | none => false

theorem cutOps_get {ops : Array Oper} {i j : Nat} (h : j ≤ i) : (cutOps ops i)[j]? = ops[j]? := by
  rw [cutOps, List.getElem?_toArray, List.getElem?_take, if_pos (by omega), Array.getElem?_toList]
theorem cut_drop {ops : Array Oper} {i : Nat} {o : Oper} (h : ops[i]? = some o) : (cutOps ops i).toList.drop i = [o] := by
  have hi : i < ops.toList.length := by
    rcases Nat.lt_or_ge i ops.size with h' | h'
    · simpa using h'
    · simp [Array.getElem?_eq_none h'] at h
  have e : ops.toList[i]? = some o := by rw [Array.getElem?_toList]; exact h
  rw [List.getElem?_eq_getElem hi] at e
  injection e with e
  unfold cutOps
  rw [List.toList_toArray, List.take_succ_eq_append_getElem hi, e, List.drop_append_of_le_length (by rw [List.length_take]; omega), List.drop_eq_nil_of_le (by rw [List.length_take]; omega)]
  rfl
theorem cut_wanted {ops : Array Oper} {i : Nat} {o : Oper} (h : ops[i]? = some o) (hg : guardBefore ops i = true) (tmps : Array Value) :
    Region.wanted o (yielded (cutOps ops i) tmps) = Region.wanted o (yielded ops tmps) := by
  unfold guardBefore at hg
  rw [h] at hg
  unfold Region.wanted
  cases hgd : o.guard with
  | none => rfl
  | some p =>
    obtain ⟨j, b⟩ := p
    simp only [hgd, decide_eq_true_eq] at hg
    simp only [yielded, cutOps_get hg]

def noCall (o : Oper) : Bool := match o.op with
  | .move _ | .assign _ | .pick .. | .load .. | .binOp .. | .unOp .. | .convert .. | .makeInterface .. | .makeFunc .. | .slice .. | .fieldAddr .. | .field .. | .indexAddr .. | .index .. | .lookup .. | .extract .. | .build .. => true
  | _ => false

def GH (P : Program) (ops : Array Oper) (L : List Grp) (fuel : Nat) (listed : Array Bool) (Q : Post) (n : Nat) (E : Env) (W0 : World) (H : List Grp) : Prop :=
  ∀ a w, Ag n E a → Sat W0 H w → wpAnyH P .any ops (Qn (Q .normal)) (Sat W0 L) fuel listed a w

theorem G_regionH {P : Program} {id : Nat} {ops : Array Oper} {Q : Post} {n : Nat} {E : Env} {W0 : World} {H : List Grp} (L : List Grp)
    (hm : P.follows .mixedOrders = true) (k : GH P ops L ops.size (Array.replicate ops.size false) Q n E W0 H) : G P (.region id ops true) Q n E W0 H := by
  intro a w ha hs
  refine Code.wp_mono (Q := Qn (Q .normal)) (fun e a w h => ?_) (wp_region_held hm (k a _ ha hs.drew))
  obtain ⟨rfl, h⟩ := h
  exact h

theorem GH_more {P : Program} {ops : Array Oper} {L : List Grp} (L' : List Grp) {fuel : Nat} {listed : Array Bool} {Q : Post} {n : Nat} {E : Env} {W0 : World} {H : List Grp}
    (hL : ∀ w, Sat W0 L' w → Sat W0 L w) (k : GH P ops L' fuel listed Q n E W0 H) : GH P ops L fuel listed Q n E W0 H := by
  have mono : ∀ fuel listed a w, wpAnyH P .any ops (Qn (Q .normal)) (Sat W0 L') fuel listed a w → wpAnyH P .any ops (Qn (Q .normal)) (Sat W0 L) fuel listed a w := by
    intro fuel
    induction fuel with
    | zero => exact fun _ _ _ h => h
    | succ fuel ih => exact fun listed a w h => ⟨h.1, fun i hi => wpOp_mono (fun a' w' h' => ⟨hL _ h'.1, ih _ _ _ h'.2⟩) (h.2 i hi)⟩
  exact fun a w ha hs => mono _ _ _ _ (k a w ha hs)

theorem GH_done {P : Program} {ops : Array Oper} {L : List Grp} {fuel : Nat} {listed : Array Bool} {Q : Post} {n : Nat} {E E' : Env} {W0 : World} {H : List Grp} (ts : List Nat)
    (hr : Region.ready .any ops listed = []) (hk : Env.keep ts E = E') (k : N Q .normal n E' W0 H) : GH P ops L fuel listed Q n E W0 H :=
  fun a w ha hs => wpAnyH_done hr ⟨rfl, N_sub ts hk k a w ha hs⟩ fuel

theorem GH_wpOp {P : Program} {ops : Array Oper} {L : List Grp} {fuel : Nat} {listed : Array Bool} {Q : Post} {n : Nat} {E : Env} {W0 : World} {H : List Grp} (i : Nat)
    (hi : (ops[i]?).isSome = true) (hg : guardBefore ops i = true)
    (k : GL false P (cutOps ops i) i (Qn fun a w => Sat W0 L w ∧ wpAnyH P .any ops (Qn (Q .normal)) (Sat W0 L) fuel (listed.setIfInBounds i true) a w) n E W0 H) {a : Act} {w : World} (ha : Ag n E a) (hs : Sat W0 H w) :
    wpOp P ops (Qn (Q .normal)) i (fun a w => Sat W0 L w ∧ wpAnyH P .any ops (Qn (Q .normal)) (Sat W0 L) fuel (listed.setIfInBounds i true) a w) a w := by
  obtain ⟨o, ho⟩ := Option.isSome_iff_exists.1 hi
  have h1 := k a w ha hs
  rw [cut_drop ho] at h1
  unfold wpOp
  simp only [ho]
  unfold wpList at h1
  rw [cut_wanted ho hg] at h1
  split
  · rename_i hw
    rw [if_pos hw] at h1
    rcases h1 with h1 | ⟨_, _, _, h1, _⟩
    · exact .inl (wp_swap (fun a w h => h.2) h1)
    · cases h1
  · rename_i hw
    rw [if_neg hw] at h1
    exact h1.2
/-- the one operation that may come up; what it does is said by the rules for a fixed order -/
theorem GH_eff {P : Program} {ops : Array Oper} {L : List Grp} {fuel : Nat} {listed : Array Bool} {Q : Post} {n : Nat} {E : Env} {W0 : World} {H : List Grp} (i : Nat)
    (hr : Region.ready .any ops listed = [i]) (hi : (ops[i]?).isSome = true) (hg : guardBefore ops i = true)
    (k : GL false P (cutOps ops i) i (Qn fun a w => Sat W0 L w ∧ wpAnyH P .any ops (Qn (Q .normal)) (Sat W0 L) fuel (listed.setIfInBounds i true) a w) n E W0 H) :
    GH P ops L (fuel + 1) listed Q n E W0 H := by
  intro a w ha hs
  refine wpAnyH_all hr (by simp) (fun j hj => ?_)
  have hji : j = i := by simpa using hj
  subst hji
  exact GH_wpOp j hi hg k ha hs
/-- one of two that may come up -/
theorem GH_eff2 {P : Program} {ops : Array Oper} {L : List Grp} {fuel : Nat} {listed : Array Bool} {Q : Post} {n : Nat} {E : Env} {W0 : World} {H : List Grp} (i i' : Nat)
    (hr : Region.ready .any ops listed = [i, i']) (hi : (ops[i]?).isSome = true) (hg : guardBefore ops i = true) (hi' : (ops[i']?).isSome = true) (hg' : guardBefore ops i' = true)
    (k : GL false P (cutOps ops i) i (Qn fun a w => Sat W0 L w ∧ wpAnyH P .any ops (Qn (Q .normal)) (Sat W0 L) fuel (listed.setIfInBounds i true) a w) n E W0 H)
    (k' : GL false P (cutOps ops i') i' (Qn fun a w => Sat W0 L w ∧ wpAnyH P .any ops (Qn (Q .normal)) (Sat W0 L) fuel (listed.setIfInBounds i' true) a w) n E W0 H) :
    GH P ops L (fuel + 1) listed Q n E W0 H := by
  intro a w ha hs
  refine wpAnyH_all hr (by simp) (fun j hj => ?_)
  have hji : j = i ∨ j = i' := by simpa using hj
  rcases hji with rfl | rfl
  · exact GH_wpOp j hi hg k ha hs
  · exact GH_wpOp j hi' hg' k' ha hs

/-- one of three that may come up -/
theorem GH_eff3 {P : Program} {ops : Array Oper} {L : List Grp} {fuel : Nat} {listed : Array Bool} {Q : Post} {n : Nat} {E : Env} {W0 : World} {H : List Grp} (i i' i2 : Nat)
    (hr : Region.ready .any ops listed = [i, i', i2]) (hi : (ops[i]?).isSome = true) (hg : guardBefore ops i = true) (hi' : (ops[i']?).isSome = true) (hg' : guardBefore ops i' = true) (hi2 : (ops[i2]?).isSome = true) (hg2 : guardBefore ops i2 = true)
    (k : GL false P (cutOps ops i) i (Qn fun a w => Sat W0 L w ∧ wpAnyH P .any ops (Qn (Q .normal)) (Sat W0 L) fuel (listed.setIfInBounds i true) a w) n E W0 H)
    (k' : GL false P (cutOps ops i') i' (Qn fun a w => Sat W0 L w ∧ wpAnyH P .any ops (Qn (Q .normal)) (Sat W0 L) fuel (listed.setIfInBounds i' true) a w) n E W0 H)
    (k2 : GL false P (cutOps ops i2) i2 (Qn fun a w => Sat W0 L w ∧ wpAnyH P .any ops (Qn (Q .normal)) (Sat W0 L) fuel (listed.setIfInBounds i2 true) a w) n E W0 H) :
    GH P ops L (fuel + 1) listed Q n E W0 H := by
  intro a w ha hs
  refine wpAnyH_all hr (by simp) (fun j hj => ?_)
  have hji : j = i ∨ j = i' ∨ j = i2 := by simpa using hj
  rcases hji with rfl | rfl | rfl
  · exact GH_wpOp j hi hg k ha hs
  · exact GH_wpOp j hi' hg' k' ha hs
  · exact GH_wpOp j hi2 hg2 k2 ha hs

theorem GH_back {P : Program} {ops : Array Oper} {L : List Grp} {fuel : Nat} {listed : Array Bool} {Q : Post} {n : Nat} {E : Env} {W0 : World} {H : List Grp} {i j : Nat}
    (hi : (cutOps ops i).size = j) (hL : ∀ w, Sat W0 H w → Sat W0 L w) (k : GH P ops L fuel listed Q n E W0 H) :
    GL false P (cutOps ops i) j (Qn fun a w => Sat W0 L w ∧ wpAnyH P .any ops (Qn (Q .normal)) (Sat W0 L) fuel listed a w) n E W0 H :=
  GL_end hi (fun a w ha hs => ⟨rfl, hL w hs, k a w ha hs⟩)

def valueM (m : Sem Value) : Sem Next := m >>= fun v => pure (.value v)
theorem valueM_run {P : Program} {m : Sem Value} {w w' : World} {x : Next} (h : (valueM m).run P w = .ok x w') : ∃ v, x = .value v := by
  unfold valueM at h
  rw [Sem.run_bind] at h
  generalize m.run P w = r at h
  cases r with
  | ok v w1 => simp only [Result.andThen_ok, Sem.run_pure] at h; injection h with h; exact ⟨v, h.symm⟩
  | halt x w1 => simp [Result.andThen] at h
theorem bindV_run {P : Program} {α : Type} {m : Sem α} {f : α → Value} {w w' : World} {x : Next} (h : (m >>= fun b => pure (Next.value (f b))).run P w = .ok x w') : ∃ v, x = .value v := by
  rw [Sem.run_bind] at h
  generalize m.run P w = r at h
  cases r with
  | ok v w1 => simp only [Result.andThen_ok, Sem.run_pure] at h; injection h with h; exact ⟨_, h.symm⟩
  | halt x w1 => simp [Result.andThen] at h
theorem noCall_value {P : Program} {o : Oper} (hn : noCall o = true) {r : Operand → Value} {C : World → Prop} {w : World} {v : Value}
    (h : Oper.quietUpon P C w v ((execOp r o).run P w)) : (execOp r o).run P w = .ok (.value v) w := by
  have key : ∀ x w', (execOp r o).run P w = .ok x w' → ∃ v, x = .value v := by
    intro x w' he
    unfold noCall at hn
    cases hop : o.op <;> rw [hop] at hn <;> simp only [Bool.false_eq_true] at hn
    all_goals (unfold execOp at he; simp only [hop] at he)
    all_goals first
      | exact valueM_run (m := _) he
      | (simp only [Sem.run_pure] at he; injection he with he; exact ⟨_, he.symm⟩)
      | exact bindV_run he
  generalize hr : (execOp r o).run P w = res at h ⊢
  cases res with
  | ok x w' =>
    obtain ⟨u, rfl⟩ := key x w' hr
    simp only [Oper.quietUpon] at h
    obtain ⟨rfl, rfl⟩ := h
    rfl
  | halt x w' => simp [Oper.quietUpon] at h

/-- one that reads only what stays is taken first -/
theorem GH_take {P : Program} {ops : Array Oper} {L : List Grp} {fuel : Nat} {listed : Array Bool} {Q : Post} {n : Nat} {E E' : Env} {W0 : World} {H : List Grp} (i : Nat)
    (hi : (match ops[i]? with | some o => noCall o | none => false) = true) (hg : guardBefore ops i = true) (hs : Region.noSelect ops = true) (hf : Region.free .any ops listed i = true)
    (hr : (Region.ready .any ops listed).contains i = true) (hL : ∀ w, Sat W0 H w → Sat W0 L w)
    (hy : GL true P (cutOps ops i) i (fun _ a _ => Ag n E' a) n E W0 L)
    (k : GH P ops L fuel (listed.setIfInBounds i true) Q n E' W0 H) : GH P ops L (fuel + 1) listed Q n E W0 H := by
  intro a w ha hsat
  cases ho : ops[i]? with
  | none => rw [ho] at hi; simp at hi
  | some o =>
    rw [ho] at hi
    have hSw := hL w hsat
    have h1 := hy a ha
    rw [cut_drop ho] at h1
    unfold wpQuiet at h1
    rw [cut_wanted ho hg] at h1
    by_cases hw : Region.wanted o (yielded ops a.tmps) = true
    · rw [if_pos hw] at h1
      obtain ⟨v, h2, h3⟩ := h1
      exact wpAnyH_take (v := v) ho hs hf hr (fun c a w h => absurd h.1 (by intro h; cases h)) (.inl ⟨hw, fun w' hw' => noCall_value hi (h2 w' hw')⟩) hSw (k _ w (h3 w hSw) hsat)
    · rw [if_neg hw] at h1
      exact wpAnyH_take (v := undef) ho hs hf hr (fun c a w h => absurd h.1 (by intro h; cases h)) (.inr ⟨by simpa using hw, rfl⟩) hSw (k _ w (h1 w hSw) hsat)
/-- a check of a pointer that is none of the nil ones is taken first -/
theorem GH_nil {P : Program} {ops : Array Oper} {L : List Grp} {fuel : Nat} {listed : Array Bool} {Q : Post} {n : Nat} {E : Env} {W0 : World} {H : List Grp} {o : Oper} {x : Operand} {ad : Addr} (i : Nat)
    (ho : ops[i]? = some o) (hop : o.op = .nilCheck x) (hgd : o.guard = none) (hx : evO E [] x = some (.pointer (some ad))) (hd : dstOk n [] o.dst = true)
    (hs : Region.noSelect ops = true) (hf : Region.free .any ops listed i = true)
    (hr : (Region.ready .any ops listed).contains i = true) (hL : ∀ w, Sat W0 H w → Sat W0 L w)
    (k : GH P ops L fuel (listed.setIfInBounds i true) Q n (Env.put E o.dst [] (.pointer (some ad))) W0 H) : GH P ops L (fuel + 1) listed Q n E W0 H := by
  intro a w ha hsat
  obtain ⟨β, hβ, hat⟩ := ha.at_
  have hv : a.eval x = .pointer (some ad) := evO_eval hat rfl hx
  have hw : Region.wanted o (yielded ops a.tmps) = true := by unfold Region.wanted; rw [hgd]
  have hput : Ag n (Env.put E o.dst [] (.pointer (some ad))) (a.put o.dst (.pointer (some ad))) := by
    have := ha.put hβ hat hd (.pointer (some ad))
    simpa [chT] using this
  refine wpAnyH_take (v := .pointer (some ad)) ho hs hf hr (fun c a w h => absurd h.1 (by intro h; cases h)) (.inl ⟨hw, fun w' _ => ?_⟩) (hL w hsat) (k _ w hput hsat)
  unfold execOp
  simp only [hop, hv]
  rfl
/-- a pure one (a length, the greater of two) is taken first -/
theorem GH_pev {P : Program} {ops : Array Oper} {L : List Grp} {fuel : Nat} {listed : Array Bool} {Q : Post} {n : Nat} {E : Env} {W0 : World} {H : List Grp} {o : Oper} {v : Value} (i : Nat)
    (ho : ops[i]? = some o) (hgd : o.guard = none) (hp : pev P (evO E []) o.op = some v) (hd : dstOk n [] o.dst = true)
    (hs : Region.noSelect ops = true) (hf : Region.free .any ops listed i = true)
    (hr : (Region.ready .any ops listed).contains i = true) (hL : ∀ w, Sat W0 H w → Sat W0 L w)
    (k : GH P ops L fuel (listed.setIfInBounds i true) Q n (Env.put E o.dst [] v) W0 H) : GH P ops L (fuel + 1) listed Q n E W0 H := by
  intro a w ha hsat
  obtain ⟨β, hβ, hat⟩ := ha.at_
  have hw : Region.wanted o (yielded ops a.tmps) = true := by unfold Region.wanted; rw [hgd]
  have hput : Ag n (Env.put E o.dst [] v) (a.put o.dst v) := by
    have := ha.put hβ hat hd v
    simpa [chT] using this
  exact wpAnyH_take (v := v) ho hs hf hr (fun c a w h => absurd h.1 (by intro h; cases h)) (.inl ⟨hw, fun w' _ => pev_sound (fun x v h => evO_eval hat rfl h) hp w'⟩) (hL w hsat) (k _ w hput hsat)
/-- the end of what one operation yields -/
theorem GL_yend {P : Program} {ops : Array Oper} {i : Nat} {n : Nat} {E E' : Env} {W0 : World} {L : List Grp} (hi : ops.size = i) (he : E = E') : GL true P ops i (fun _ a _ => Ag n E' a) n E W0 L :=
  GL_end hi (by subst he; exact fun a w ha _ => ha)

theorem GH_env {P : Program} {ops : Array Oper} {L : List Grp} {fuel : Nat} {listed : Array Bool} {Q : Post} {n : Nat} {E E' : Env} {W0 : World} {H : List Grp} (h : E = E') (k : GH P ops L fuel listed Q n E' W0 H) : GH P ops L fuel listed Q n E W0 H := by subst h; exact k
theorem N_env {Q : Post} {x : Exit} {n : Nat} {E E' : Env} {W0 : World} {H : List Grp} (h : E = E') (k : N Q x n E' W0 H) : N Q x n E W0 H := by subst h; exact k

/-! ## roads that meet -/
def JQ {T : Type} (n : Nat) (W0 : World) (EJ : T → Env) (HJ : T → List Grp) (Φ : T → Prop) : Post := fun x a w => x = .normal ∧ ∃ v, Φ v ∧ Ag n (EJ v) a ∧ Sat W0 (HJ v) w
theorem G_join {P : Program} {c : Code} {Q : Post} {n : Nat} {E : Env} {W0 : World} {H : List Grp} {T : Type} (EJ : T → Env) (HJ : T → List Grp) (Φ : T → Prop)
    (h : G P c (JQ n W0 EJ HJ Φ) n E W0 H) (k : ∀ v, Φ v → N Q .normal n (EJ v) W0 (HJ v)) : G P c Q n E W0 H :=
  fun a w ha hs => Code.wp_mono (fun x a w ⟨hx, v, h1, h2, h3⟩ => by subst hx; exact k v h1 a w h2 h3) (h a w ha hs)
theorem N_join {n : Nat} {E : Env} {W0 : World} {H : List Grp} {T : Type} {EJ : T → Env} {HJ : T → List Grp} {Φ : T → Prop} (v : T) (ts : List Nat) (h : Env.keep ts E = EJ v)
    (hH : ∀ w, Sat W0 H w → Sat W0 (HJ v) w) (hp : Φ v) : N (JQ n W0 EJ HJ Φ) .normal n E W0 H :=
  fun _ w ha hs => ⟨rfl, v, hp, ha.sub (by rw [← h]; intro s hs; exact Env.keep_mem _ hs), hH w hs⟩

/-- roads that meet, where some return -/
def JQR (Q : Post) {T : Type} (n : Nat) (W0 : World) (EJ : T → Env) (HJ : T → List Grp) (Φ : T → Prop) : Post := fun x a w => (x = .normal ∧ ∃ v, Φ v ∧ Ag n (EJ v) a ∧ Sat W0 (HJ v) w) ∨ (x = .ret ∧ Q .ret a w)
theorem G_joinR {P : Program} {c : Code} {Q : Post} {n : Nat} {E : Env} {W0 : World} {H : List Grp} {T : Type} (EJ : T → Env) (HJ : T → List Grp) (Φ : T → Prop)
    (h : G P c (JQR Q n W0 EJ HJ Φ) n E W0 H) (k : ∀ v, Φ v → N Q .normal n (EJ v) W0 (HJ v)) : G P c Q n E W0 H :=
  fun a w ha hs => Code.wp_mono (fun x a w hx => by
    rcases hx with ⟨hx, v, h1, h2, h3⟩ | ⟨hx, h1⟩
    · subst hx; exact k v h1 a w h2 h3
    · subst hx; exact h1) (h a w ha hs)
theorem N_joinR {Q : Post} {n : Nat} {E : Env} {W0 : World} {H : List Grp} {T : Type} {EJ : T → Env} {HJ : T → List Grp} {Φ : T → Prop} (v : T) (ts : List Nat) (h : Env.keep ts E = EJ v)
    (hH : ∀ w, Sat W0 H w → Sat W0 (HJ v) w) (hp : Φ v) : N (JQR Q n W0 EJ HJ Φ) .normal n E W0 H :=
  fun _ w ha hs => .inl ⟨rfl, v, hp, ha.sub (by rw [← h]; intro s hs; exact Env.keep_mem _ hs), hH w hs⟩
theorem N_joinRet {Q : Post} {n : Nat} {E : Env} {W0 : World} {H : List Grp} {T : Type} {EJ : T → Env} {HJ : T → List Grp} {Φ : T → Prop} (k : N Q .ret n E W0 H) : N (JQR Q n W0 EJ HJ Φ) .ret n E W0 H :=
  fun a w ha hs => .inr ⟨rfl, k a w ha hs⟩
theorem GL_env {d : Bool} {P : Program} {ops : Array Oper} {i : Nat} {Q : Post} {n : Nat} {E E' : Env} {W0 : World} {H : List Grp} (h : E = E') (k : GL d P ops i Q n E' W0 H) : GL d P ops i Q n E W0 H := by subst h; exact k

/-! ## results that lie in cells -/
inductive RV (P : Program) (E : List Sl) (W0 : World) (H : List Grp) : ResultVar → Value → Prop
  | tmp {t : Nat} {v : Value} (h : evT E [] t = some v) : RV P E W0 H (.tmp t) v
  | agg {a t b off : Nat} {c : Array Value} {e : TypeId} {fz : Nat × Nat} {l : List Value} (h : evT E [] a = some (.pointer (some ⟨b, off, none⟩))) (ht : aggB P t = some true) (hz : sizeV P t = some l.length)
      (hA : At W0 H b (.cells c e fz)) (hv : (c.toList.drop off).take l.length = l) : RV P E W0 H (.cell a t) (.agg l.toArray)
  | one {a t b off : Nat} {c : Array Value} {e : TypeId} {fz : Nat × Nat} {v : Value} (h : evT E [] a = some (.pointer (some ⟨b, off, none⟩))) (ht : aggB P t = some false)
      (hA : At W0 H b (.cells c e fz)) (hv : c[off]? = some v) : RV P E W0 H (.cell a t) v
inductive RVs (P : Program) (E : List Sl) (W0 : World) (H : List Grp) : List ResultVar → List Value → Prop
  | nil : RVs P E W0 H [] []
  | cons {r : ResultVar} {v : Value} {rs : List ResultVar} {l : List Value} (h : RV P E W0 H r v) (k : RVs P E W0 H rs l) : RVs P E W0 H (r :: rs) (v :: l)

theorem RV.run {P : Program} {n : Nat} {E : Env} {W0 : World} {H : List Grp} {a : Act} (ha : Ag n E a) {w : World} (hs : Sat W0 H w) {r : ResultVar} {v : Value} (h : RV P E W0 H r v) :
    (resOne a.tmps r).run P w = .ok v w := by
  cases h with
  | tmp h =>
    have e := ha.eval (x := .tmp _) h
    simp only [resOne, Sem.run_pure]
    rw [show a.tmps.getD _ undef = v from e]
  | @agg x t b off c e fz l h ht hz hA hv' =>
    have ee : a.tmps.getD x undef = _ := ha.eval (x := .tmp x) h
    have hv : ∀ k (hk : k < l.length), c[off + k]? = some l[k] := by
      intro k hk
      have h1 : ((c.toList.drop off).take l.length)[k]? = some l[k] := by rw [hv']; simp
      rw [List.getElem?_take, if_pos hk, List.getElem?_drop] at h1
      simpa using h1
    simp only [resOne, ee, asAddr, loadVar, Sem.run_bind, Sem.run_pure, Result.andThen_ok, aggB_sound ht, if_true, sizeV_sound hz, loadCells,
      run_loadCells (P := P) (hs.at hA) l 0 #[] (by simpa using hv)]
    simp
  | @one x t b off c e fz v h ht hA hv =>
    have ee : a.tmps.getD x undef = _ := ha.eval (x := .tmp x) h
    simp only [resOne, ee, asAddr, loadVar, Sem.run_bind, Sem.run_pure, Result.andThen_ok, aggB_sound ht, Bool.false_eq_true, if_false, run_load, cell_of (hs.at hA) hv]
theorem RVs.run {P : Program} {n : Nat} {E : Env} {W0 : World} {H : List Grp} {a : Act} (ha : Ag n E a) {w : World} (hs : Sat W0 H w) {rs : List ResultVar} {l : List Value} (h : RVs P E W0 H rs l) :
    (rs.mapM (resOne a.tmps)).run P w = .ok l w := by
  induction h with
  | nil => rfl
  | cons h _ ih => simp only [List.mapM_cons, Sem.run_bind, h.run ha hs, Sem.run_pure, Result.andThen_ok, ih]

theorem N_retC {P : Program} {fn : Func} {n : Nat} {E : Env} {W0 : World} {H : List Grp} {R : Value → List Grp → Prop} {x : Exit} (rs : List ResultVar) (l : List Value)
    (hr : fn.results = rs.toArray) (h : RVs P E W0 H rs l) (hx : (match x with | .normal => true | .ret => true | _ => false) = true) (k : ∃ H', R (packV l) H' ∧ ∀ w, Sat W0 H w → Sat W0 H' w) : N (Body P fn W0 R) x n E W0 H := by
  intro a w ha hs
  obtain ⟨H', hR, hH⟩ := k
  have e : (results fn a.tmps).run P w = .ok (packV l) w := by
    have e2 := h.run (P := P) ha hs
    have e3 : ((rs.toArray).mapM (resOne a.tmps)).run P w = .ok l.toArray w := by
      rw [Array.mapM_eq_mapM_toList, Sem.run_map, e2]; rfl
    rw [results_eq, hr, Sem.run_bind, e3]
    simp only [Result.andThen_ok, Sem.run_pure]
    congr 1
    cases l with
    | nil => rfl
    | cons v l => cases l with
      | nil => rfl
      | cons u l => simp [packV]
  cases x <;> simp at hx
  · exact ⟨ha.defers, packV l, e, packV l, H', rfl, hR, hH w hs⟩
  · exact ⟨ha.defers, packV l, e, packV l, H', rfl, hR, hH w hs⟩

end Go.Sw
