/- Rules for slices (read, cut, appended to, made) and maps with string keys. No condition. -/
import Derived.Test.YtbmieiffboenbaaHeap
import Derived.Deep.AppendSrc
import Derived.Laws.MakeOwn
namespace Go.Sw
open Go.RowKit

/-! ## slices that are read -/
/-- the cells behind an address; S says where blocks lie -/
def Rd (S : Nat → Obj → Prop) (a : Option Addr) (cs : List Value) : Prop :=
  cs = [] ∨ ∃ b off c e fz, a = some ⟨b, off, none⟩ ∧ S b (.cells c e fz) ∧ ∀ (j : Nat) (u : Value), cs[j]? = some u → c[off + j]? = some u

def inG (g : Grp) : Nat → Obj → Prop := fun b o => (b, o) ∈ g
def inB (W0 : World) : Nat → Obj → Prop := fun b o => b < W0.heap.size ∧ W0.heap[b]? = some o

theorem at_inG {W0 : World} {H : List Grp} {g : Grp} (j : Nat) (hj : H[j]? = some g) : ∀ b o, inG g b o → At W0 H b o := fun _ _ h => At.mem (List.mem_of_getElem? hj) h
theorem at_inB {W0 : World} {H : List Grp} : ∀ b o, inB W0 b o → At W0 H b o := fun _ _ h => .inl h

theorem Rd.mono {S S' : Nat → Obj → Prop} {a : Option Addr} {cs : List Value} (h : Rd S a cs) (hs : ∀ b o, S b o → S' b o) : Rd S' a cs := by
  rcases h with h | ⟨b, off, c, e, fz, h1, h2, h3⟩
  · exact .inl h
  · exact .inr ⟨b, off, c, e, fz, h1, hs _ _ h2, h3⟩

theorem Rd.lit {b : Nat} {c : List Value} {e : TypeId} {fz : Nat × Nat} : Rd (inG [(b, .cells c.toArray e fz)]) (some ⟨b, 0, none⟩) c :=
  .inr ⟨b, 0, _, _, _, rfl, List.mem_singleton.2 rfl, fun j u h => by rw [Nat.zero_add]; simpa using h⟩

/-- texts as cells -/
def strs (ws : List ByteArray) : List Value := ws.map Value.string
theorem strs_at {ws : List ByteArray} {k : Nat} (h : k < ws.length) : (strs ws)[k]? = some (.string (ws.getD k default)) := by
  simp [strs, h]

def eltA (a : Option Addr) (k : Nat) : Addr := (a.getD default).add k

theorem Rd.elt {S : Nat → Obj → Prop} {a : Option Addr} {cs : List Value} (h : Rd S a cs) {k : Nat} {v : Value} (hv : cs[k]? = some v) :
    ∃ b off c e fz, a = some ⟨b, off, none⟩ ∧ S b (.cells c e fz) ∧ eltA a k = ⟨b, off + k, none⟩ ∧ c[off + k]? = some v := by
  rcases h with h | ⟨b, off, c, e, fz, h1, h2, h3⟩
  · subst h; simp at hv
  · exact ⟨b, off, c, e, fz, h1, h2, by rw [h1]; exact addr_add b off k, h3 k v hv⟩

theorem GL_indexAddr {d : Bool} {P : Program} {ops : Array Oper} {i : Nat} {Q : Post} {n : Nat} {E : Env} {W0 : World} {H : List Grp} {o : Oper} {ch : List (Nat × Bool)} {t e : TypeId} {x ix : Operand} {a : Option Addr} {len cap sz : Nat} {kd : IntKind} {j : Int} {S : Nat → Obj → Prop} {cs : List Value}
    (ho : ops[i]? = some o) (hop : o.op = .indexAddr t x ix) (hx : evO E ch x = some (.slice a len cap)) (hix : evO E ch ix = some (.int kd j)) (hu : P.underlying t = some (.slice e)) (hsz : sizeV P e = some sz)
    (hch : chainOf ops E o.guard = some ch) (hd : dstOk n ch o.dst = true) (hk : chKnown E ch = true)
    (hrd : Rd S a cs) (hb : chB E ch → 0 ≤ j ∧ j < len ∧ cs ≠ [])
    (k : GL d P ops (i + 1) Q n (Env.put E o.dst ch (.pointer (some (eltA a (j.toNat * sz))))) W0 H) : GL d P ops i Q n E W0 H := by
  refine GL_quiet ho hch hd hk (fun r hr hcb w _ => ?_) k
  obtain ⟨h0, h1, h2⟩ := hb hcb
  have ha : ∃ b, a = some b := by
    rcases hrd with h | ⟨b, off, _, _, _, h, _⟩
    · exact absurd h h2
    · exact ⟨_, h⟩
  obtain ⟨b, rfl⟩ := ha
  unfold execOp
  simp only [hop]
  rw [hr _ _ hx, hr _ _ hix]
  simp only [Instr.indexAt, asIntOf, Sem.run_bind, Sem.run_pure, Result.andThen_ok, run_underlying hu, Bool.and_false, if_pos (⟨h0, h1⟩ : 0 ≤ j ∧ j < (len : Int)), sizeV_sound hsz]
  exact ⟨rfl, rfl⟩

theorem GL_loadS {d : Bool} {P : Program} {ops : Array Oper} {i : Nat} {Q : Post} {n : Nat} {E : Env} {W0 : World} {H : List Grp} {o : Oper} {ch : List (Nat × Bool)} {t : TypeId} {x : Operand} {a : Option Addr} {q : Nat} {S : Nat → Obj → Prop} {cs : List Value} {v : Value}
    (ho : ops[i]? = some o) (hop : o.op = .load t x) (hx : evO E ch x = some (.pointer (some (eltA a q)))) (ht : aggB P t = some false)
    (hch : chainOf ops E o.guard = some ch) (hd : dstOk n ch o.dst = true) (hk : chKnown E ch = true)
    (hrd : Rd S a cs) (hS : ∀ b o, S b o → At W0 H b o) (hv : chB E ch → cs[q]? = some v)
    (k : GL d P ops (i + 1) Q n (Env.put E o.dst ch v) W0 H) : GL d P ops i Q n E W0 H := by
  refine GL_quiet ho hch hd hk (fun r hr hcb w hs => ?_) k
  obtain ⟨b, off, c, e, fz, h1, h2, h3, h4⟩ := hrd.elt (hv hcb)
  unfold execOp
  simp only [hop]
  rw [hr _ _ hx, h3]
  simp only [Instr.loadAt, Instr.sureAddr, loadVar, Sem.run_bind, Sem.run_pure, Result.andThen_ok, aggB_sound ht, Bool.false_eq_true, if_false, run_load, cell_of (hs.at (hS _ _ h2)) h4]
  exact ⟨rfl, rfl⟩

theorem GL_loadSA {d : Bool} {P : Program} {ops : Array Oper} {i : Nat} {Q : Post} {n : Nat} {E : Env} {W0 : World} {H : List Grp} {o : Oper} {ch : List (Nat × Bool)} {t : TypeId} {x : Operand} {a : Option Addr} {q : Nat} {S : Nat → Obj → Prop} {cs l : List Value}
    (ho : ops[i]? = some o) (hop : o.op = .load t x) (hx : evO E ch x = some (.pointer (some (eltA a q)))) (ht : aggB P t = some true) (hsz : sizeV P t = some l.length)
    (hch : chainOf ops E o.guard = some ch) (hd : dstOk n ch o.dst = true) (hk : chKnown E ch = true)
    (hrd : Rd S a cs) (hS : ∀ b o, S b o → At W0 H b o) (hl : l ≠ []) (hv : chB E ch → ∀ m (hm : m < l.length), cs[q + m]? = some l[m])
    (k : GL d P ops (i + 1) Q n (Env.put E o.dst ch (.agg l.toArray)) W0 H) : GL d P ops i Q n E W0 H := by
  refine GL_quiet ho hch hd hk (fun r hr hcb w hs => ?_) k
  have hv' := hv hcb
  have hpos : 0 < l.length := by cases l with | nil => exact absurd rfl hl | cons _ _ => simp
  obtain ⟨b, off, c, e, fz, h1, h2, h3, h4⟩ := hrd.elt (k := q) (v := l[0]) (by have := hv' 0 hpos; simpa using this)
  rcases hrd with hn | ⟨b', off', c', e', fz', h1', h2', h3'⟩
  · have := hv' 0 hpos; rw [hn] at this; simp at this
  · rw [h1'] at h1
    injection h1 with h1
    injection h1 with hb ho'
    subst hb; subst ho'
    unfold execOp
    simp only [hop]
    rw [hr _ _ hx, h3]
    simp only [Instr.loadAt, Instr.sureAddr, loadVar, Sem.run_bind, Sem.run_pure, Result.andThen_ok, aggB_sound ht, if_true, sizeV_sound hsz, loadCells,
      run_loadCells (P := P) (off := off' + q) (hs.at (hS _ _ h2')) l 0 #[] (fun m hm => by
        have := h3' _ _ (hv' m hm)
        rw [Nat.add_zero, Nat.add_assoc]; exact this)]
    exact ⟨rfl, by simp⟩

/-- 's[l:h]' of a slice -/
def cutA (a : Option Addr) (cap l sz : Nat) : Option Addr := if cap = l then a else a.map (·.add (l * sz))
theorem Rd.cut {S : Nat → Obj → Prop} {a : Option Addr} {cs : List Value} (h : Rd S a cs) {cap l sz m : Nat} (hl : cap = l → m = 0) : Rd S (cutA a cap l sz) ((cs.drop (l * sz)).take m) := by
  rcases h with h | ⟨b, off, c, e, fz, h1, h2, h3⟩
  · exact .inl (by simp [h])
  · by_cases hc : cap = l
    · exact .inl (by rw [hl hc]; simp)
    · refine .inr ⟨b, off + l * sz, c, e, fz, ?_, h2, ?_⟩
      · rw [cutA, if_neg hc, h1]; simp [addr_add]
      · intro j u hj
        rw [List.getElem?_take] at hj
        split at hj
        · rw [List.getElem?_drop] at hj
          rw [Nat.add_assoc]; exact h3 _ _ hj
        · simp at hj

theorem GL_sliceL {d : Bool} {P : Program} {ops : Array Oper} {i : Nat} {Q : Post} {n : Nat} {E : Env} {W0 : World} {H : List Grp} {o : Oper} {ch : List (Nat × Bool)} {t e : TypeId} {x : Operand} {lo hi : Option Operand} {a : Option Addr} {len cap sz : Nat} {vl vh : Option Value} {l h : Int}
    (ho : ops[i]? = some o) (hop : o.op = .slice t x lo hi none) (hx : evO E ch x = some (.slice a len cap)) (hvl : evOO (evO E ch) lo = some vl) (hvh : evOO (evO E ch) hi = some vh) (hu : P.underlying t = some (.slice e)) (hsz : sizeV P e = some sz)
    (hl : loV vl = some l) (hh : hiV len vh = some h)
    (hch : chainOf ops E o.guard = some ch) (hd : dstOk n ch o.dst = true) (hk : chKnown E ch = true)
    (hb : chB E ch → 0 ≤ l ∧ l ≤ h ∧ h ≤ cap)
    (k : GL d P ops (i + 1) Q n (Env.put E o.dst ch (.slice (cutA a cap l.toNat sz) (h.toNat - l.toNat) (cap - l.toNat))) W0 H) : GL d P ops i Q n E W0 H := by
  refine GL_quiet ho hch hd hk (fun r hr hcb w _ => ?_) k
  obtain ⟨h0, h1, h2⟩ := hb hcb
  have hm : ∀ {y : Option Operand} {v : Option Value}, evOO (evO E ch) y = some v → y.map r = v := by
    intro y v hv
    cases y with
    | none => simp only [evOO, Option.some.injEq] at hv; subst hv; rfl
    | some y =>
      simp only [evOO] at hv
      split at hv
      · rename_i u hu; injection hv with hv; subst hv; simp [hr _ _ hu]
      · simp at hv
  unfold execOp
  simp only [hop]
  rw [hr _ _ hx, hm hvl, hm hvh]
  simp only [Instr.sliceAt, Instr.slice, Sem.run_bind, run_underlying hu, Result.andThen_ok, Option.map_none,
    run_sliceBounds (P := P) (isSlice := true) hl hh h0 h1 h2, sizeV_sound hsz, Sem.run_pure]
  exact ⟨rfl, rfl⟩

/-! ## slices of one's own: append, make -/
/-- v: n elements of sz cells, in a row of its own or nil; g is that row -/
def Own (et : TypeId) (sz : Nat) (v : Value) (g : Grp) (n : Nat) (cs : List Value) : Prop :=
  cs.length = n * sz ∧ ((v = .slice none 0 0 ∧ g = [] ∧ n = 0) ∨ ∃ b cap junk, v = .slice (some ⟨b, 0, none⟩) n cap ∧ g = [(b, .cells (cs ++ junk).toArray et (0, 0))] ∧ n ≤ cap ∧ (cs ++ junk).length = cap * sz)

theorem Own.nil {et : TypeId} {sz : Nat} : Own et sz (.slice none 0 0) [] 0 [] := ⟨by simp, .inl ⟨rfl, rfl, rfl⟩⟩
theorem Own.lit {et : TypeId} {sz b n : Nat} {cs : List Value} (h : cs.length = n * sz) : Own et sz (.slice (some ⟨b, 0, none⟩) n n) [(b, .cells cs.toArray et (0, 0))] n cs :=
  ⟨h, .inr ⟨b, n, [], rfl, by simp, Nat.le_refl _, by simpa using h⟩⟩
theorem Own.shape {et : TypeId} {sz : Nat} {v : Value} {g : Grp} {n : Nat} {cs : List Value} (h : Own et sz v g n cs) : ∃ a cap, v = .slice a n cap ∧ n ≤ cap ∧ Rd (inG g) a cs := by
  obtain ⟨hl, ⟨rfl, rfl, rfl⟩ | ⟨b, cap, junk, rfl, rfl, hc, hj⟩⟩ := h
  · exact ⟨none, 0, rfl, Nat.le_refl _, .inl (by cases cs with | nil => rfl | cons _ _ => simp at hl)⟩
  · refine ⟨_, _, rfl, hc, .inr ⟨b, 0, _, _, _, rfl, List.mem_singleton.2 rfl, fun j u hu => ?_⟩⟩
    have : j < cs.length := by
      rcases Nat.lt_or_ge j cs.length with h | h
      · exact h
      · rw [List.getElem?_eq_none h] at hu; simp at hu
    rw [List.getElem?_toArray, Nat.zero_add, List.getElem?_append_left this]
    exact hu

/-- what is appended: the cells of a slice that is read, or of a string -/
inductive SrcOf (S : Nat → Obj → Prop) : Value → Nat → List Value → Prop
  | slice (a : Option Addr) (m cap : Nat) (cs : List Value) (h : Rd S a cs) (h0 : a = none → m = 0) : SrcOf S (.slice a m cap) m cs
  | str (s : ByteArray) : SrcOf S (.string s) s.size (byteCells s)

theorem setRow_mid : ∀ (l : List Value) (pre post : List Value) (old : List Value), old.length = l.length → setRow (pre ++ old ++ post).toArray pre.length l = (pre ++ l ++ post).toArray
  | [], pre, post, old, h => by
    have : old = [] := by cases old with | nil => rfl | cons _ _ => simp at h
    subst this; simp [setRow]
  | v :: l, pre, post, old, h => by
    cases old with
    | nil => simp at h
    | cons x old =>
      simp only [setRow]
      have e1 : ((pre ++ x :: old ++ post).toArray.setIfInBounds pre.length v) = ((pre ++ [v]) ++ old ++ post).toArray := by
        simp
      rw [e1]
      have := setRow_mid l (pre ++ [v]) post old (by simpa using h)
      simp only [List.length_append, List.length_cons, List.length_nil, Nat.zero_add] at this
      rw [this]
      simp

theorem srcOf_run {P : Program} {S : Nat → Obj → Prop} {x : Value} {m sz : Nat} {cs : List Value} {tx : TypeId} (h : SrcOf S x m cs) (hk : (∃ e', P.underlying tx = some (.slice e')) ∨ (P.underlying tx = some .string ∧ sz = 1))
    (hks : (∃ s, x = .string s) → sz = 1 ∧ P.underlying tx = some .string) (hkl : (∃ a n c, x = .slice a n c) → ∃ e', P.underlying tx = some (.slice e')) (hl : cs.length = m * sz) (h1 : ∀ u ∈ cs, u.oneCell' = true) {w : World} (hS : ∀ b o, S b o → w.heap[b]? = some o) : Src P sz tx x m cs w := by
  cases h with
  | slice a m cap cs hrd h0 =>
    obtain ⟨e', he⟩ := hkl ⟨_, _, _, rfl⟩
    rcases hrd with hn | ⟨b, off, c, e, fz, h2, h3, h4⟩
    · subst hn
      cases a with
      | none =>
        have := h0 rfl; subst this
        exact Src.ofNil w he cap
      | some a => exact Src.ofSlice w he a m cap [] hl (fun j u hu => by simp at hu) (fun u hu => by simp at hu)
    · subst h2
      refine Src.ofSlice w he _ m cap cs hl (fun j u hu => ?_) h1
      rw [addr_add]
      exact cell_of (hS _ _ h3) (h4 j u hu)
  | str s =>
    obtain ⟨rfl, hs⟩ := hks ⟨s, rfl⟩
    exact Src.ofString w hs s

theorem set_perm : ∀ {H : List Grp} {j : Nat} {g : Grp} (g' : Grp), H[j]? = some g → (H.set j g').Perm (g' :: H.eraseIdx j)
  | [], j, g, g', h => by simp at h
  | x :: H, 0, g, g', h => by simp
  | x :: H, j + 1, g, g', h => by
    simp only [List.set_cons_succ, List.eraseIdx_cons_succ]
    exact (List.Perm.cons x (set_perm g' (by simpa using h))).trans (List.Perm.swap _ _ _)

theorem sublist_flatten {α : Type} {A B : List (List α)} (h : A.Sublist B) : A.flatten.Sublist B.flatten := by
  induction h with
  | slnil => exact List.Sublist.refl _
  | cons a _ ih => simp only [List.flatten_cons]; exact ih.trans (List.sublist_append_right _ _)
  | cons_cons a _ ih => simp only [List.flatten_cons]; exact List.Sublist.append (List.Sublist.refl _) ih

theorem Sat.replace {W0 : World} {H : List Grp} {g g' : Grp} {j : Nat} {w : World} (h : Sat W0 (g' :: H) w) (hj : H[j]? = some g) : Sat W0 (H.set j g') w := by
  refine Sat.perm ?_ (set_perm g' hj).symm
  refine h.subl ?_
  simp only [List.flatten_cons]
  exact List.Sublist.append (List.Sublist.refl _) (sublist_flatten (List.eraseIdx_sublist _ _))

theorem At.cons {W0 : World} {H : List Grp} {g : Grp} {b : Nat} {o : Obj} (h : At W0 H b o) : At W0 (g :: H) b o := by
  rcases h with h | h
  · exact .inl h
  · exact .inr (by simp only [List.flatten_cons, List.mem_append]; exact .inr h)
theorem Sat.erase {W0 : World} {H : List Grp} {w : World} (h : Sat W0 H w) (j : Nat) : Sat W0 (H.eraseIdx j) w := h.subl (sublist_flatten (List.eraseIdx_sublist _ _))
theorem erase_perm : ∀ {H : List Grp} {j : Nat} {g : Grp}, H[j]? = some g → H.Perm (g :: H.eraseIdx j)
  | [], j, g, h => by simp at h
  | x :: H, 0, g, h => by simp at h; simp [h]
  | x :: H, j + 1, g, h => by
    simp only [List.eraseIdx_cons_succ]
    exact (List.Perm.cons x (erase_perm (by simpa using h))).trans (List.Perm.swap _ _ _)
theorem Sat.front {W0 : World} {H : List Grp} {w : World} (h : Sat W0 H w) {j : Nat} {g : Grp} (hj : H[j]? = some g) : Sat W0 (g :: H.eraseIdx j) w := h.perm (erase_perm hj)

/-- a contract of the kit's: a value, and nothing below the heap's end has turned -/
theorem Tri_below {P : Program} {f : FuncId} {args : Array Value} {W0 : World} {H : List Grp} {v : Value}
    (h : ∀ w, Sat W0 H w → Calls P f args w fun e w' => e = .returned v ∧ Below w.heap.size w w') : Tri P f args W0 H (fun u H' => u = v ∧ H' = H) :=
  fun w hs => (h w hs).mono fun e w' ⟨he, hb⟩ => ⟨v, H, he, ⟨rfl, rfl⟩, by
    have hlt : ∀ p, p ∈ H.flatten → p.1 < w.heap.size := fun p hp => by
      have := hs.has p hp
      rcases Nat.lt_or_ge p.1 w.heap.size with h' | h'
      · exact h'
      · simp [Array.getElem?_eq_none h'] at this
    exact ⟨hs.below.trans (hb.mono hs.below.size), hs.nodup, fun p hp => by rw [hb.block _ (hlt p hp)]; exact hs.has p hp, hs.high⟩⟩

theorem run_append_room {P : Program} {w : World} {t tx ty e : TypeId} {inf : TypeInfo} (ht : P.underlying t = some (.slice e)) (hi : P.info? e = some inf) {b sLen sCap : Nat} {x : Value} {m : Nat} {news : List Value} (hs : Src P inf.size tx x m news w)
    (hroom : sLen + m ≤ sCap) {w' : World} (hst : (storeCells ⟨b, sLen * inf.size, none⟩ news 0).run P w = .ok () w') :
    (Builtin.append_ #[t, tx] ty #[.slice (some ⟨b, 0, none⟩) sLen sCap, x]).run P w = .ok (.slice (some ⟨b, 0, none⟩) (sLen + m) sCap) w' := by
  have ha : (⟨b, 0, none⟩ : Addr).add (sLen * inf.size) = ⟨b, sLen * inf.size, none⟩ := by rw [addr_add, Nat.zero_add]
  rcases hs.kind with ⟨e', hk⟩ | hk <;> simp [Builtin.append_, run_underlying ht, run_underlying hk, sizeOf, typeInfo, hi, hs.len, hroom, hs.cells, ha, hst]

theorem zeroCells_len (z : Array Value) (m : Nat) : (Builtin.zeroCells z m).size = m * z.size := by simp [Builtin.zeroCells]

theorem GL_append {P : Program} {ops : Array Oper} {i : Nat} {Q : Post} {q : Nat} {E : Env} {W0 : World} {H : List Grp} {o : Oper} {ch : List (Nat × Bool)} {c : Call} {t tx e : TypeId} {inf : TypeInfo} {z s x : Value} {n m j : Nat} {cs news : List Value} {g : Grp} {S : Nat → Obj → Prop}
    (ho : ops[i]? = some o) (hop : o.op = .call c) (hce : c.callee = .builtin .append) (hat : c.argTypes = #[t, tx]) (hargs : evL (evO E ch) c.args.toList = some [s, x])
    (ht : P.underlying t = some (.slice e)) (hi : P.info? e = some inf) (hz : inf.zero = some z) (hzs : z.cells.size = inf.size)
    (hkind : (∃ e', P.underlying tx = some (.slice e')) ∨ (P.underlying tx = some .string ∧ inf.size = 1))
    (hks : (∃ s, x = .string s) → inf.size = 1 ∧ P.underlying tx = some .string) (hkl : (∃ a n c, x = .slice a n c) → ∃ e', P.underlying tx = some (.slice e'))
    (hch : chainOf ops E o.guard = some ch) (hd : dstOk q ch o.dst = true) (hsure : chSure E ch = true)
    (hj : H[j]? = some g) (hown : Own e inf.size s g n cs) (hsrc : SrcOf S x m news) (hS : ∀ b o, S b o → At W0 H b o) (hl : news.length = m * inf.size) (h1 : ∀ u ∈ news, u.oneCell' = true)
    (hmax : n + m ≤ 9223372036854775807) (hbytes : (n + m) * inf.bytes ≤ 140737488355328)
    (k : ∀ v g', Own e inf.size v g' (n + m) (cs ++ news) → GL false P ops (i + 1) Q q (Env.put E o.dst ch v) W0 (H.set j g')) : GL false P ops i Q q E W0 H := by
  refine GL_eff (R := fun v H1 => ∃ g', Own e inf.size v g' (n + m) (cs ++ news) ∧ H1 = H.set j g') ho hch hd hsure (fun r hr w hs => ?_) (by rintro v H1 ⟨g', ho', rfl⟩; exact k v g' ho')
  have hS' : ∀ b o, S b o → w.heap[b]? = some o := fun b o h => hs.at (hS b o h)
  have hsrc' : Src P inf.size tx x m news w := srcOf_run hsrc hkind hks hkl hl h1 hS'
  have hexec : ∀ {v : Value} {w' : World}, (Builtin.append_ #[t, tx] o.type #[s, x]).run P w = .ok v w' → (execOp r o).run P w = .ok (.value v) w' := by
    intro v w' h
    unfold execOp
    simp only [hop, resolve, hce, hat, arr_map hr hargs, Sem.run_bind, Sem.run_pure, Result.andThen_ok, invoke, Go.builtin, h]
  have hlen2 : (cs ++ news).length = (n + m) * inf.size := by
    rw [List.length_append, hown.1, hl, Nat.add_mul]
  have hsame : H.set j g = H := by
    apply List.ext_getElem?
    intro q
    rw [List.getElem?_set]
    split
    · rename_i e1; subst e1; split
      · exact hj.symm
      · rename_i hlt; rw [List.getElem?_eq_none (by omega)]
    · rfl
  obtain ⟨hlc, ⟨rfl, rfl, rfl⟩ | ⟨b, cap, junk, rfl, rfl, hcap, hjunk⟩⟩ := hown
  · have hcs : cs = [] := by cases cs with | nil => rfl | cons _ _ => simp at hlc
    subst hcs
    by_cases hm : m = 0
    · subst hm
      have hn : news = [] := by cases news with | nil => rfl | cons _ _ => simp at hl
      subst hn
      refine ⟨.slice none 0 0, w, H, ⟨[], Own.nil, hsame.symm⟩, hs, .inl (hexec ?_)⟩
      rcases hsrc'.kind with ⟨e', hk⟩ | hk <;> simp [Builtin.append_, run_underlying ht, run_underlying hk, sizeOf, typeInfo, hi, hsrc'.len, hsrc'.cells]
    · have hg := run_append_grow_src (P := P) w t tx o.type e inf z ht hi hz none 0 0 [] (run_firstCells_none w.drew _ 0 0 0) x m news hsrc' (by omega) (by omega) (growslice_fits (by omega) hbytes)
      simp only [Nat.zero_add, List.nil_append] at hg
      refine ⟨_, _, H.set j [(w.heap.size, .cells (news ++ (Builtin.zeroCells z.cells (grownCap w m 0 e - m)).toList).toArray e (0, 0))], ⟨_, ⟨by simpa using hl, .inr ⟨w.heap.size, grownCap w m 0 e, (Builtin.zeroCells z.cells (grownCap w m 0 e - m)).toList, by rw [Nat.zero_add], by simp, by rw [Nat.zero_add]; exact grownCap_ge w m 0 e, ?_⟩⟩, rfl⟩, ?_, .inl (hexec hg)⟩
      · have := grownCap_ge w m 0 e
        simp only [List.nil_append, List.length_append, hl, Array.length_toList, zeroCells_len, hzs, ← Nat.add_mul]
        congr 1; omega
      · have h2 := (hs.drew).new (w' := w.drew.alloc (.cells (news.toArray ++ Builtin.zeroCells z.cells (grownCap w m 0 e - m)) e)) (o := .cells (news.toArray ++ Builtin.zeroCells z.cells (grownCap w m 0 e - m)) e) rfl rfl rfl rfl
        have h3 := h2.replace hj
        have e1 : (news ++ (Builtin.zeroCells z.cells (grownCap w m 0 e - m)).toList).toArray = news.toArray ++ Builtin.zeroCells z.cells (grownCap w m 0 e - m) := by apply Array.ext'; simp
        rw [e1]; exact h3
  · by_cases hroom : n + m ≤ cap
    · have hblk : w.heap[b]? = some (.cells (cs ++ junk).toArray e (0, 0)) := hs.has (b, _) (List.mem_flatten.2 ⟨_, List.mem_of_getElem? hj, List.mem_singleton.2 rfl⟩)
      have hjl : junk.length = (cap - n) * inf.size := by
        rw [List.length_append, hlc] at hjunk
        rw [Nat.sub_mul]; omega
      have hfit : n * inf.size + news.length ≤ (cs ++ junk).length := by
        rw [hjunk, hl, ← Nat.add_mul]; exact Nat.mul_le_mul_right _ hroom
      obtain ⟨w', hr', _, hw'⟩ := run_storeCells (P := P) news (w := w) (off := n * inf.size) (i := 0) hblk (by simpa using hfit) (fun k _ => by simp [thawed]) (List.all_eq_true.2 h1)
      have hrow : setRow (cs ++ junk).toArray (n * inf.size + 0) news = ((cs ++ news) ++ junk.drop news.length).toArray := by
        have hnl : news.length ≤ junk.length := by
          rw [hl, hjl]; exact Nat.mul_le_mul_right _ (by omega)
        have := setRow_mid news cs (junk.drop news.length) (junk.take news.length) (by simp [hnl])
        rw [List.append_assoc, List.take_append_drop, hlc] at this
        exact this
      rw [hrow] at hw'
      refine ⟨.slice (some ⟨b, 0, none⟩) (n + m) cap, w', H.set j ([(b, .cells ((cs ++ news) ++ junk.drop news.length).toArray e (0, 0))]), ⟨_, ⟨hlen2, .inr ⟨b, cap, junk.drop news.length, rfl, rfl, hroom, ?_⟩⟩, rfl⟩, ?_, .inl (hexec (run_append_room ht hi hsrc' hroom hr'))⟩
      · rw [List.length_append, List.length_append, List.length_drop, hjl, hl, hlc]
        have h2 : (cap - n) * inf.size = (cap - n - m) * inf.size + m * inf.size := by rw [← Nat.add_mul]; congr 1; omega
        have h3 : cap * inf.size = n * inf.size + m * inf.size + (cap - n - m) * inf.size := by rw [← Nat.add_mul, ← Nat.add_mul]; congr 1; omega
        omega
      · exact hs.wr hj (i := 0) rfl hw'
    · have hblk : w.heap[b]? = some (.cells (cs ++ junk).toArray e (0, 0)) := hs.has (b, _) (List.mem_flatten.2 ⟨_, List.mem_of_getElem? hj, List.mem_singleton.2 rfl⟩)
      have hold : (Builtin.firstCells inf.size n (.slice (some ⟨b, 0, none⟩) n cap)).run P w.drew = .ok cs.toArray w.drew := by
        refine run_firstCells_some (P := P) w.drew inf.size n ⟨b, 0, none⟩ n cap cs hlc (fun j v hv => ?_)
        rw [addr_add, Nat.zero_add]
        have hlt : j < cs.length := by
          rcases Nat.lt_or_ge j cs.length with h | h
          · exact h
          · rw [List.getElem?_eq_none h] at hv; simp at hv
        exact cell_of (w := w.drew) hblk (by rw [List.getElem?_toArray, List.getElem?_append_left hlt]; exact hv)
      have hg := run_append_grow_src (P := P) w t tx o.type e inf z ht hi hz (some ⟨b, 0, none⟩) n cap cs hold x m news hsrc' (by omega) (by omega) (growslice_fits (by omega) hbytes)
      have hge := grownCap_ge w (n + m) cap e
      refine ⟨_, _, H.set j [(w.heap.size, .cells ((cs ++ news) ++ (Builtin.zeroCells z.cells (grownCap w (n + m) cap e - (n + m))).toList).toArray e (0, 0))], ⟨_, ⟨hlen2, .inr ⟨w.heap.size, grownCap w (n + m) cap e, (Builtin.zeroCells z.cells (grownCap w (n + m) cap e - (n + m))).toList, rfl, rfl, hge, ?_⟩⟩, rfl⟩, ?_, .inl (hexec hg)⟩
      · rw [List.length_append, hlen2, Array.length_toList, zeroCells_len, hzs, ← Nat.add_mul]
        congr 1; omega
      · have h2 := (hs.drew).new (w' := w.drew.alloc (.cells ((cs ++ news).toArray ++ Builtin.zeroCells z.cells (grownCap w (n + m) cap e - (n + m))) e)) (o := .cells ((cs ++ news).toArray ++ Builtin.zeroCells z.cells (grownCap w (n + m) cap e - (n + m))) e) rfl rfl rfl rfl
        have h3 := h2.replace hj
        have e1 : ((cs ++ news) ++ (Builtin.zeroCells z.cells (grownCap w (n + m) cap e - (n + m))).toList).toArray = (cs ++ news).toArray ++ Builtin.zeroCells z.cells (grownCap w (n + m) cap e - (n + m)) := by apply Array.ext'; simp
        rw [e1]; exact h3

end Go.Sw
