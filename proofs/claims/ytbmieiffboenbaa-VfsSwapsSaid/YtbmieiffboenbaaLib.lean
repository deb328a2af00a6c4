/- Go's library where it has no body, and small facts on bytes. No condition. -/
import Derived.Test.YtbmieiffboenbaaMap
import Derived.Laws.Externs
namespace Go.Sw

theorem GL_extern {d : Bool} {P : Program} {ops : Array Oper} {i : Nat} {Q : Post} {n : Nat} {E : Env} {W0 : World} {H : List Grp} {o : Oper} {ch : List (Nat × Bool)} {c : Call} {fo : Operand} {f : FuncId} {vs : List Value}
    {fn : Func} {v : Value} {e : Array Value → Sem Value}
    (ho : ops[i]? = some o) (hop : o.op = .call c) (hce : c.callee = .value fo) (hfo : evO E ch fo = some (.func (.func f) #[] #[])) (hargs : evL (evO E ch) c.args.toList = some vs)
    (hf : P.funcs[f]? = some fn) (hrt : (fn.name == "runtime.NumGoroutine") = false) (hbody : fn.body.isNone = true) (hn : Extern.findNext fn = none) (he : Extern.find fn = some e)
    (hch : chainOf ops E o.guard = some ch) (hd : dstOk n ch o.dst = true) (hk : chKnown E ch = true)
    (hrun : ∀ w, (e vs.toArray).run P w = .ok v w)
    (k : GL d P ops (i + 1) Q n (Env.put E o.dst ch v) W0 H) : GL d P ops i Q n E W0 H := by
  refine GL_quiet ho hch hd hk (fun r hr hcb w hs => ?_) k
  have hrun' : (execOp r o).run P w = .ok (.value v) w := by
    unfold execOp
    simp only [hop]
    simp only [resolve, hce]
    rw [hr _ _ hfo, arr_map hr hargs]
    simp only [Deferred.ofValue, Sem.run_bind, Sem.run_pure, Result.andThen_ok, invoke]
    have := run_callFunc_extern hf hrt hbody hn he vs.toArray w
    simp only [Array.empty_append, Array.append_empty, this, hrun, Result.andThen_ok]
  rw [hrun']
  exact ⟨rfl, rfl⟩

/-! ## bytes -/
def noB (s : ByteArray) (c : Int) (k : Nat) : Prop := ∀ j : Nat, j < k → byteAt s j ≠ c
theorem noB_zero {s : ByteArray} {c : Int} : noB s c 0 := fun j h => absurd h (Nat.not_lt_zero j)
theorem noB_succ {s : ByteArray} {c : Int} {k : Nat} (h : noB s c k) (hk : byteAt s k ≠ c) : noB s c (k + 1) := fun j hj => by
  rcases Nat.lt_or_ge j k with h' | h'
  · exact h j h'
  · have : j = k := by omega
    subst this; exact hk

theorem byteAt_get {s : ByteArray} {k : Nat} (h : k < s.size) : byteAt s k = ((s[k]!).toNat : Int) := by
  unfold byteAt
  have e1 : s[k]! = s[k] := getElem!_pos s k h
  have e2 : (s.data.toList)[((k : Nat) : Int).toNat]? = some s[k] := by
    rw [Int.toNat_natCast, List.getElem?_eq_getElem (by simpa using h)]; rfl
  rw [e1, e2]; rfl

/-- the first place of a byte; -1: it is not there -/
def bIdx (s : ByteArray) (c : Int) : Int := firstIdx s c.toNat.toUInt8

theorem bIdx_spec (s : ByteArray) {c : Int} (h0 : 0 ≤ c) (h1 : c < 256) :
    (∃ k : Nat, k < s.size ∧ bIdx s c = k ∧ byteAt s k = c ∧ noB s c k) ∨ (bIdx s c = -1 ∧ noB s c s.size) := by
  have hc : ∀ b : UInt8, (b == c.toNat.toUInt8) = true ↔ ((b.toNat : Nat) : Int) = c := by
    intro b
    rw [beq_iff_eq]
    constructor
    · intro h; rw [h]; simp [Nat.toUInt8]; omega
    · intro h; apply UInt8.toNat_inj.1; simp [Nat.toUInt8]; omega
  unfold bIdx firstIdx
  cases hf : (List.range s.size).find? fun i => s[i]! == c.toNat.toUInt8 with
  | none =>
    right
    refine ⟨rfl, fun j hj he => ?_⟩
    have := List.find?_eq_none.1 hf j (List.mem_range.2 hj)
    rw [hc, ← byteAt_get hj] at this
    exact this he
  | some k =>
    left
    have hk := List.mem_range.1 (List.mem_of_find?_eq_some hf)
    refine ⟨k, hk, rfl, ?_, fun j hj he => ?_⟩
    · have := List.find?_some hf
      rw [byteAt_get hk]; exact (hc _).1 this
    · rw [List.find?_range_eq_some] at hf
      have := hf.2.2 j hj
      rw [byteAt_get (by omega)] at he
      have h2 := (hc s[j]!).2 he
      simp [h2] at this

theorem bIdx_eq {s : ByteArray} {c : Int} {k : Nat} (h0 : 0 ≤ c) (h1 : c < 256) (hk : k < s.size) (hb : byteAt s k = c) (hn : noB s c k) : bIdx s c = k := by
  rcases bIdx_spec s h0 h1 with ⟨j, hj, he, hb', hn'⟩ | ⟨_, hn'⟩
  · rcases Nat.lt_trichotomy j k with h | h | h
    · exact absurd hb' (hn j h)
    · rw [he, h]
    · exact absurd hb (hn' k h)
  · exact absurd hb (hn' k hk)
theorem bIdx_none {s : ByteArray} {c : Int} (h0 : 0 ≤ c) (h1 : c < 256) (hn : noB s c s.size) : bIdx s c = -1 := by
  rcases bIdx_spec s h0 h1 with ⟨j, hj, he, hb', hn'⟩ | ⟨h, _⟩
  · exact absurd hb' (hn j hj)
  · exact h

theorem size_extract (s : ByteArray) (a b : Nat) : (s.extract a b).size = min b s.size - a := by simp

end Go.Sw
