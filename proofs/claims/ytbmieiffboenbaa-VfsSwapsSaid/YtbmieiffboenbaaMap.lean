/- Rules for maps with string keys. No condition. -/
import Derived.Test.YtbmieiffboenbaaHeap2
namespace Go.Sw
open Go.RowKit

theorem baEq {a b : ByteArray} : (a == b) = true ↔ a = b := by
  constructor
  · intro h
    have h' : (a.data == b.data) = true := h
    cases a; cases b; simpa using h'
  · intro h
    subst h
    show (a.data == a.data) = true
    simp
theorem baNe {a b : ByteArray} : (a == b) = false ↔ a ≠ b := by
  rw [← Bool.not_eq_true, ne_eq, baEq]

/-- the entries of a map with string keys: key, value, stamp -/
abbrev SM := List (ByteArray × Value × Nat)
def entM (e : ByteArray × Value × Nat) : MapEntry := ⟨.string e.1, e.2.1, e.2.2⟩
def encM (m : SM) : Array MapEntry := (m.map entM).toArray

def mfind (k : ByteArray) : SM → Nat → Option (Nat × Value)
  | [], _ => none
  | e :: r, i => if k == e.1 then some (i, e.2.1) else mfind k r (i + 1)
def mget (m : SM) (k : ByteArray) : Option Value := (mfind k m 0).map (·.2)
def mput : SM → Nat → ByteArray → Value → SM
  | [], c, k, v => [(k, v, c)]
  | e :: r, c, k, v => if k == e.1 then (k, v, e.2.2) :: r else e :: mput r c k v
def mdel : SM → ByteArray → SM
  | [], _ => []
  | e :: r, k => if k == e.1 then r else e :: mdel r k
def mhas (m : SM) (k : ByteArray) : Bool := m.any fun e => k == e.1

theorem findNow_enc (k : ByteArray) : ∀ (m : SM) (i : Nat), Instr.findNow .string (.string k) (m.map entM) i = some (mfind k m i)
  | [], i => rfl
  | e :: r, i => by
    simp only [List.map_cons, Instr.findNow, entM, Instr.sameNow, mfind]
    cases h : k == e.1
    · simp only [Bool.false_eq_true, if_false]; exact findNow_enc k r (i + 1)
    · simp

theorem run_checkKey {P : Program} {b : Bool} {kt : TypeId} (h : P.underlying kt = some .string) (k : ByteArray) (w : World) : ∀ d, (Instr.checkKey b (d + 1) kt (.string k)).run P w = .ok () w := by
  intro d
  simp [Instr.checkKey, run_underlying h]

theorem run_findKey {P : Program} {kt : TypeId} (h : P.underlying kt = some .string) (k : ByteArray) (m : SM) (w : World) : (Instr.findKey kt (.string k) (encM m).toList).run P w = .ok (mfind k m 0) w := by
  simp only [Instr.findKey, Sem.run_bind, run_underlying h, Result.andThen_ok, encM, List.toList_toArray, findNow_enc]
  rfl

theorem run_getObj_map {P : Program} {w : World} {r : Nat} {es : Array MapEntry} {c : Nat} (h : w.heap[r]? = some (.map es c)) : (getObj r).run P w = .ok (.map es c) w := by
  simp [getObj, Sem.run, h]

def lookV (ok : Bool) (z : Value) : Option Value → Value
  | some v => if ok then .tuple #[v, .bool true] else v
  | none => if ok then .tuple #[z, .bool false] else z

theorem GL_lookup {d : Bool} {P : Program} {ops : Array Oper} {i : Nat} {Q : Post} {n : Nat} {E : Env} {W0 : World} {H : List Grp} {o : Oper} {ch : List (Nat × Bool)} {t kt et : TypeId} {x ix : Operand} {ok : Bool} {r c : Nat} {m : SM} {k : ByteArray} {z : Value} {ov : Option Value}
    (ho : ops[i]? = some o) (hop : o.op = .lookup t x ix ok) (hx : evO E ch x = some (.map (some r))) (hix : evO E ch ix = some (.string k)) (hu : P.underlying t = some (.map kt et)) (hkt : P.underlying kt = some .string) (hz : zeroV P et = some z)
    (hch : chainOf ops E o.guard = some ch) (hd : dstOk n ch o.dst = true) (hk : chKnown E ch = true)
    (hA : At W0 H r (.map (encM m) c)) (hg : chB E ch → mget m k = ov)
    (kk : GL d P ops (i + 1) Q n (Env.put E o.dst ch (lookV ok z ov)) W0 H) : GL d P ops i Q n E W0 H := by
  refine GL_quiet ho hch hd hk (fun rr hr hcb w hs => ?_) kk
  have hg' := hg hcb
  unfold mget at hg'
  unfold execOp
  simp only [hop]
  rw [hr _ _ hx, hr _ _ hix]
  have hck := run_checkKey (P := P) (b := (encM m).isEmpty) hkt k w 9999
  simp only [Instr.lookup, Sem.run_bind, run_underlying hu, Result.andThen_ok, run_getObj_map (hs.at hA), Sem.run_pure]
  rw [hck]
  simp only [Result.andThen_ok, run_findKey hkt]
  cases hf : mfind k m 0 with
  | none => rw [hf] at hg'; simp at hg'; subst hg'; simp only [Sem.run_bind, zeroV_sound hz, Result.andThen_ok, Sem.run_pure]; exact ⟨rfl, by cases ok <;> rfl⟩
  | some p => rw [hf] at hg'; simp at hg'; subst hg'; exact ⟨rfl, by cases ok <;> rfl⟩

/-- of a nil map -/
theorem GL_lookupNil {d : Bool} {P : Program} {ops : Array Oper} {i : Nat} {Q : Post} {n : Nat} {E : Env} {W0 : World} {H : List Grp} {o : Oper} {ch : List (Nat × Bool)} {t kt et : TypeId} {x ix : Operand} {ok : Bool} {k : ByteArray} {z : Value}
    (ho : ops[i]? = some o) (hop : o.op = .lookup t x ix ok) (hx : evO E ch x = some (.map none)) (hix : evO E ch ix = some (.string k)) (hu : P.underlying t = some (.map kt et)) (hkt : P.underlying kt = some .string) (hz : zeroV P et = some z)
    (hch : chainOf ops E o.guard = some ch) (hd : dstOk n ch o.dst = true) (hk : chKnown E ch = true)
    (kk : GL d P ops (i + 1) Q n (Env.put E o.dst ch (lookV ok z none)) W0 H) : GL d P ops i Q n E W0 H := by
  refine GL_quiet ho hch hd hk (fun rr hr hcb w hs => ?_) kk
  unfold execOp
  simp only [hop]
  rw [hr _ _ hx, hr _ _ hix]
  have hck := run_checkKey (P := P) (b := (#[] : Array MapEntry).isEmpty) hkt k w 9999
  simp only [Instr.lookup, Sem.run_bind, run_underlying hu, Result.andThen_ok, Sem.run_pure]
  rw [hck]
  simp only [Result.andThen_ok]
  have := run_findKey (P := P) hkt k [] w
  simp only [encM, List.map_nil] at this
  rw [this]
  simp only [mfind, Result.andThen_ok, Sem.run_bind, zeroV_sound hz, Sem.run_pure]
  exact ⟨rfl, by cases ok <;> rfl⟩

theorem Wr_setObj {P : Program} {w : World} {b : Nat} {o o' : Obj} (h : w.heap[b]? = some o) (hc : (match o with | .cells .. => false | _ => true) = true) :
    ∃ w', (setObj b o').run P w = .ok () w' ∧ Wr b o' w w' := by
  have hb : b < w.heap.size := by
    rcases Nat.lt_or_ge b w.heap.size with h' | h'
    · exact h'
    · simp [Array.getElem?_eq_none h'] at h
  refine ⟨{ w with heap := w.heap.setIfInBounds b o' }, ?_, rfl, rfl, rfl, by simp, by simp [hb], fun k hk => ?_⟩
  · simp only [setObj, Sem.run, h]
    cases o <;> simp at hc <;> rfl
  · show (w.heap.setIfInBounds b o')[k]? = _
    rw [Array.getElem?_setIfInBounds_ne (fun e => hk e.symm)]

theorem mfind_put {k : ByteArray} : ∀ (m : SM) (i : Nat) (c : Nat) (v : Value), (mfind k m i = none → mput m c k v = m ++ [(k, v, c)] ∧ mhas m k = false) ∧
    (∀ j u, mfind k m i = some (j, u) → i ≤ j ∧ mhas m k = true ∧ (m.map entM).toArray.modify (j - i) (fun e => { e with key := .string k, val := v }) = (mput m c k v |>.map entM).toArray ∧ ((m.map entM)[j - i]?).isSome = true ∧ (∃ k', ((m.map entM)[j - i]?).map (·.key) = some (.string k') ∧ (k == k') = true))
  | [], i, c, v => by
    constructor
    · intro _; exact ⟨rfl, rfl⟩
    · intro j u h; simp [mfind] at h
  | e :: r, i, c, v => by
    obtain ⟨ih1, ih2⟩ := mfind_put (k := k) r (i + 1) c v
    simp only [mfind, mput, mhas, List.any_cons]
    cases hk : k == e.1
    · simp only [Bool.false_eq_true, if_false, Bool.false_or]
      constructor
      · intro h; obtain ⟨h1, h2⟩ := ih1 h; exact ⟨by rw [h1]; rfl, h2⟩
      · intro j u h
        obtain ⟨h1, h2, h3, h4, h5⟩ := ih2 j u h
        refine ⟨by omega, h2, ?_, ?_, ?_⟩
        · have e1 : j - i = (j - (i + 1)) + 1 := by omega
          apply Array.ext'
          have h3' := congrArg Array.toList h3
          simp only [Array.toList_modify] at h3' ⊢
          rw [e1, List.map_cons, List.modify_succ_cons, h3', List.map_cons]
        · have e1 : j - i = (j - (i + 1)) + 1 := by omega
          rw [e1, List.map_cons, List.getElem?_cons_succ]; exact h4
        · have e1 : j - i = (j - (i + 1)) + 1 := by omega
          rw [e1, List.map_cons, List.getElem?_cons_succ]; exact h5
    · simp only [if_true, Bool.true_or]
      constructor
      · intro h; simp at h
      · intro j u h
        simp only [Option.some.injEq, Prod.mk.injEq] at h
        obtain ⟨rfl, _⟩ := h
        refine ⟨Nat.le_refl _, trivial, ?_, ?_, ?_⟩
        · apply Array.ext'
          simp [entM]
        · simp
        · exact ⟨e.1, by simp [entM], hk⟩

theorem run_mapUpdate {P : Program} {t kt et : TypeId} (hu : P.underlying t = some (.map kt et)) (hkt : P.underlying kt = some .string) {w : World} {r c : Nat} {m : SM} (h : w.heap[r]? = some (.map (encM m) c)) (k : ByteArray) (v : Value) :
    ∃ w', (Instr.mapUpdate t (.map (some r)) (.string k) v).run P w = .ok () w' ∧ Wr r (.map (encM (mput m c k v)) (if mhas m k then c else c + 1)) w w' := by
  have hck := run_checkKey (P := P) (b := false) hkt k w 9999
  obtain ⟨hp1, hp2⟩ := mfind_put (k := k) m 0 c v
  cases hf : mfind k m 0 with
  | none =>
    obtain ⟨h1, h2⟩ := hp1 hf
    obtain ⟨w', hr', hw'⟩ := Wr_setObj (P := P) h (o' := .map (encM (mput m c k v)) (c + 1)) rfl
    refine ⟨w', ?_, by rw [h2]; exact hw'⟩
    simp only [Instr.mapUpdate, Sem.run_bind, run_underlying hu, Result.andThen_ok, run_getObj_map h]
    rw [hck]
    simp only [Result.andThen_ok, run_findKey hkt, hf]
    rw [← hr']
    congr 3
    rw [h1]
    simp [encM, entM]
  | some p =>
    obtain ⟨j, u⟩ := p
    obtain ⟨_, h2, h3, h4, k', h5, h6⟩ := hp2 j u hf
    simp only [Nat.sub_zero] at h3 h4 h5
    obtain ⟨w', hr', hw'⟩ := Wr_setObj (P := P) h (o' := .map (encM (mput m c k v)) c) rfl
    refine ⟨w', ?_, by rw [h2]; exact hw'⟩
    simp only [Instr.mapUpdate, Sem.run_bind, run_underlying hu, Result.andThen_ok, run_getObj_map h]
    rw [hck]
    simp only [Result.andThen_ok, run_findKey hkt, hf]
    have hks : (Instr.keyThatStays ((((encM m)[j]?).map (·.key)).getD (.string k)) (.string k)).run P w = .ok (.string k) w := by
      have e1 : ((encM m)[j]?).map (·.key) = some (.string k') := by rw [← h5]; simp [encM]
      have e2 : (k' == k) = true := by
        rw [baEq] at h6 ⊢
        exact h6.symm
      rw [e1]
      simp only [Option.getD_some, Instr.keyThatStays]
      have : Instr.sameBits 10000 (.string k') (.string k) = true := by
        show Instr.sameBits (9999 + 1) _ _ = true
        simpa [Instr.sameBits] using e2
      rw [if_pos this]
      rfl
    simp only [Sem.run_bind, hks, Result.andThen_ok]
    rw [← hr']
    congr 3

theorem GL_mapPut {P : Program} {ops : Array Oper} {i : Nat} {Q : Post} {n : Nat} {E : Env} {W0 : World} {H H' : List Grp} {o : Oper} {ch : List (Nat × Bool)} {t kt et : TypeId} {x y u : Operand} {r c j q : Nat} {m : SM} {k : ByteArray} {v : Value} {g : Grp}
    (ho : ops[i]? = some o) (hop : o.op = .mapUpdate t x y u ∨ o.op = .insert t x y u) (hx : evO E ch x = some (.map (some r))) (hy : evO E ch y = some (.string k)) (hv : evO E ch u = some v)
    (hu : P.underlying t = some (.map kt et)) (hkt : P.underlying kt = some .string)
    (hch : chainOf ops E o.guard = some ch) (hd : dstOk n ch o.dst = true) (hsure : chSure E ch = true)
    (hj : H[j]? = some g) (hi : g[q]? = some (r, .map (encM m) c)) (hH' : H.set j (g.set q (r, .map (encM (mput m c k v)) (if mhas m k then c else c + 1))) = H')
    (kk : GL false P ops (i + 1) Q n (Env.put E o.dst ch undef) W0 H') : GL false P ops i Q n E W0 H := by
  refine GL_eff (R := fun v H1 => v = undef ∧ H1 = H') ho hch hd hsure (fun rr hr w hs => ?_) (by rintro v H1 ⟨rfl, rfl⟩; exact kk)
  have hblk := hs.has _ (List.mem_flatten.2 ⟨g, List.mem_of_getElem? hj, List.mem_of_getElem? hi⟩)
  obtain ⟨w', hr', hw'⟩ := run_mapUpdate hu hkt hblk k v
  refine ⟨undef, w', H', ⟨rfl, rfl⟩, by rw [← hH']; exact hs.wr hj hi hw', .inr ⟨?_, rfl⟩⟩
  unfold execOp
  rcases hop with hop | hop <;>
    (simp only [hop]
     rw [hr _ _ hx, hr _ _ hy, hr _ _ hv]
     simp only [Sem.run_bind, hr', Result.andThen_ok]
     rfl)

theorem mfind_del {k : ByteArray} : ∀ (m : SM) (i : Nat), (mfind k m i = none → mdel m k = m) ∧ (∀ j u, mfind k m i = some (j, u) → i ≤ j ∧ (m.map entM).toArray.eraseIdxIfInBounds (j - i) = (mdel m k |>.map entM).toArray)
  | [], i => by simp [mfind, mdel]
  | e :: r, i => by
    obtain ⟨ih1, ih2⟩ := mfind_del (k := k) r (i + 1)
    simp only [mfind, mdel]
    cases hk : k == e.1
    · simp only [Bool.false_eq_true, if_false]
      constructor
      · intro h; rw [ih1 h]
      · intro j u h
        obtain ⟨h1, h3⟩ := ih2 j u h
        refine ⟨by omega, ?_⟩
        have e1 : j - i = (j - (i + 1)) + 1 := by omega
        apply Array.ext'
        have h3' := congrArg Array.toList h3
        simp only [Array.toList_eraseIdxIfInBounds] at h3' ⊢
        rw [e1, List.map_cons, List.eraseIdx_cons_succ, h3', List.map_cons]
    · simp only [if_true]
      constructor
      · intro h; simp at h
      · intro j u h
        simp only [Option.some.injEq, Prod.mk.injEq] at h
        obtain ⟨rfl, _⟩ := h
        refine ⟨Nat.le_refl _, ?_⟩
        apply Array.ext'
        simp

theorem GL_delete {P : Program} {ops : Array Oper} {i : Nat} {Q : Post} {n : Nat} {E : Env} {W0 : World} {H H' : List Grp} {o : Oper} {ch : List (Nat × Bool)} {cl : Call} {t kt et : TypeId} {ts : Array TypeId} {r c j q : Nat} {m : SM} {k : ByteArray} {g : Grp}
    (ho : ops[i]? = some o) (hop : o.op = .call cl) (hce : cl.callee = .builtin .delete) (hts : cl.argTypes = ts) (hat : ts[0]? = some t) (hargs : evL (evO E ch) cl.args.toList = some [.map (some r), .string k])
    (hu : P.underlying t = some (.map kt et)) (hkt : P.underlying kt = some .string)
    (hch : chainOf ops E o.guard = some ch) (hd : dstOk n ch o.dst = true) (hsure : chSure E ch = true)
    (hj : H[j]? = some g) (hi : g[q]? = some (r, .map (encM m) c)) (hH' : H.set j (g.set q (r, .map (encM (mdel m k)) c)) = H')
    (kk : GL false P ops (i + 1) Q n (Env.put E o.dst ch (.tuple #[])) W0 H') : GL false P ops i Q n E W0 H := by
  refine GL_eff (R := fun v H1 => v = .tuple #[] ∧ H1 = H') ho hch hd hsure (fun rr hr w hs => ?_) (by rintro v H1 ⟨rfl, rfl⟩; exact kk)
  have hblk := hs.has _ (List.mem_flatten.2 ⟨g, List.mem_of_getElem? hj, List.mem_of_getElem? hi⟩)
  obtain ⟨w', hr', hw'⟩ := Wr_setObj (P := P) hblk (o' := .map (encM (mdel m k)) c) rfl
  refine ⟨.tuple #[], w', H', ⟨rfl, rfl⟩, by rw [← hH']; exact hs.wr hj hi hw', .inl ?_⟩
  have hck := run_checkKey (P := P) (b := (encM m).isEmpty) hkt k w 9999
  obtain ⟨hp1, hp2⟩ := mfind_del (k := k) m 0
  have hrun : (Builtin.delete_ ts o.type #[.map (some r), .string k]).run P w = .ok (.tuple #[]) w' := by
    have h0 : (#[.map (some r), .string k] : Array Value)[0]? = some (.map (some r)) := rfl
    have h1 : (#[.map (some r), .string k] : Array Value)[1]? = some (.string k) := rfl
    simp only [Builtin.delete_, hat, h0, h1, Sem.run_bind, run_underlying hu, Result.andThen_ok, run_getObj_map hblk]
    rw [hck]
    simp only [Result.andThen_ok, run_findKey hkt]
    cases hf : mfind k m 0 with
    | none =>
      rw [hp1 hf] at hr'
      simp only [Sem.run_bind, hr', Result.andThen_ok]; rfl
    | some p =>
      obtain ⟨jj, u⟩ := p
      obtain ⟨_, h3⟩ := hp2 jj u hf
      simp only [Nat.sub_zero] at h3
      have e1 : (encM m).eraseIdxIfInBounds jj = encM (mdel m k) := h3
      simp only [e1, Sem.run_bind, hr', Result.andThen_ok]; rfl
  unfold execOp
  simp only [hop, resolve, hce, hts, arr_map hr hargs, Sem.run_bind, Sem.run_pure, Result.andThen_ok, invoke, Go.builtin, hrun]

theorem GL_lenM {d : Bool} {P : Program} {ops : Array Oper} {i : Nat} {Q : Post} {n : Nat} {E : Env} {W0 : World} {H : List Grp} {o : Oper} {ch : List (Nat × Bool)} {cl : Call} {t kt et : TypeId} {ts : Array TypeId} {r c : Nat} {m : SM}
    (ho : ops[i]? = some o) (hop : o.op = .call cl) (hce : cl.callee = .builtin .len) (hts : cl.argTypes = ts) (hat : ts[0]? = some t) (hargs : evL (evO E ch) cl.args.toList = some [.map (some r)])
    (hu : P.underlying t = some (.map kt et))
    (hch : chainOf ops E o.guard = some ch) (hd : dstOk n ch o.dst = true) (hk : chKnown E ch = true)
    (hA : At W0 H r (.map (encM m) c))
    (kk : GL d P ops (i + 1) Q n (Env.put E o.dst ch (.int .i64 ((m.length : Nat) : Int))) W0 H) : GL d P ops i Q n E W0 H := by
  refine GL_quiet ho hch hd hk (fun rr hr hcb w hs => ?_) kk
  have h0 : (#[.map (some r)] : Array Value)[0]? = some (.map (some r)) := rfl
  unfold execOp
  simp only [hop, resolve, hce, hts, arr_map hr hargs, Sem.run_bind, Sem.run_pure, Result.andThen_ok, invoke, Go.builtin, Builtin.len_, hat, h0, run_underlying hu, run_getObj_map (hs.at hA)]
  exact ⟨rfl, by simp [goInt, encM]⟩

/-! ## ranging -/
structure MapOk (m : SM) (c : Nat) : Prop where
  keys : m.Pairwise fun x y => (x.1 == y.1) = false
  born : (m.map (·.2.2)).Nodup
  lt : ∀ e, e ∈ m → e.2.2 < c

theorem GL_range {P : Program} {ops : Array Oper} {i : Nat} {Q : Post} {n : Nat} {E : Env} {W0 : World} {H : List Grp} {o : Oper} {ch : List (Nat × Bool)} {t kt et : TypeId} {x : Operand} {r c : Nat} {m : SM}
    (ho : ops[i]? = some o) (hop : o.op = .range t x) (hx : evO E ch x = some (.map (some r))) (hu : P.underlying t = some (.map kt et))
    (hch : chainOf ops E o.guard = some ch) (hd : dstOk n ch o.dst = true) (hsure : chSure E ch = true)
    (hA : At W0 H r (.map (encM m) c))
    (kk : ∀ b, GL false P ops (i + 1) Q n (Env.put E o.dst ch (.pointer (some ⟨b, 0, none⟩))) W0 ([(b, .mapIter (some r) c #[] c)] :: H)) : GL false P ops i Q n E W0 H := by
  refine GL_eff (R := fun v H1 => ∃ b, v = .pointer (some ⟨b, 0, none⟩) ∧ H1 = [(b, .mapIter (some r) c #[] c)] :: H) ho hch hd hsure (fun rr hr w hs => ?_) (by rintro v H1 ⟨b, rfl, rfl⟩; exact kk b)
  refine ⟨_, w.alloc (.mapIter (some r) c #[] c), _, ⟨w.heap.size, rfl, rfl⟩, hs.new rfl rfl rfl rfl, .inl ?_⟩
  unfold execOp
  simp only [hop]
  rw [hr _ _ hx]
  simp only [Instr.range, Sem.run_bind, run_underlying hu, Result.andThen_ok, run_getObj_map (hs.at hA), Sem.run_pure, run_newObj]
  rfl

/-- of a nil map -/
theorem GL_rangeNil {P : Program} {ops : Array Oper} {i : Nat} {Q : Post} {n : Nat} {E : Env} {W0 : World} {H : List Grp} {o : Oper} {ch : List (Nat × Bool)} {t kt et : TypeId} {x : Operand}
    (ho : ops[i]? = some o) (hop : o.op = .range t x) (hx : evO E ch x = some (.map none)) (hu : P.underlying t = some (.map kt et))
    (hch : chainOf ops E o.guard = some ch) (hd : dstOk n ch o.dst = true) (hsure : chSure E ch = true)
    (kk : ∀ b, GL false P ops (i + 1) Q n (Env.put E o.dst ch (.pointer (some ⟨b, 0, none⟩))) W0 ([(b, .mapIter none 0 #[] 0)] :: H)) : GL false P ops i Q n E W0 H :=
  GL_new (f := fun b => .pointer (some ⟨b, 0, none⟩)) ho hch hd hsure (fun r hr w => by
    unfold execOp; simp only [hop]; rw [hr _ _ hx]
    simp only [Instr.range, Sem.run_bind, run_underlying hu, Result.andThen_ok, Sem.run_pure, run_newObj]; rfl) kk

def seenOf (dn : SM) : Array Nat := (dn.map (·.2.2)).toArray

theorem run_getObj_iter {P : Program} {w : World} {r : Nat} {o : Obj} (h : w.heap[r]? = some o) (hc : (match o with | .cells .. => false | _ => true) = true) : (getObj r).run P w = .ok o w := by
  cases o <;> simp at hc <;> simp [getObj, Sem.run, h]

theorem GL_next {P : Program} {ops : Array Oper} {i : Nat} {Q : Post} {n : Nat} {E : Env} {W0 : World} {H : List Grp} {o : Oper} {ch : List (Nat × Bool)} {x : Operand} {it r c j q : Nat} {m dn rest : SM} {g : Grp}
    (ho : ops[i]? = some o) (hop : o.op = .next x false) (hx : evO E ch x = some (.pointer (some ⟨it, 0, none⟩)))
    (hch : chainOf ops E o.guard = some ch) (hd : dstOk n ch o.dst = true) (hsure : chSure E ch = true)
    (hj : H[j]? = some g) (hi : g[q]? = some (it, .mapIter (some r) c (seenOf dn) c)) (hA : At W0 H r (.map (encM m) c)) (hok : MapOk m c) (hp : (dn ++ rest).Perm m)
    (kEnd : rest = [] → GL false P ops (i + 1) Q n (Env.put E o.dst ch (.tuple #[.bool false])) W0 H)
    (kMore : ∀ e rest', rest.Perm (e :: rest') → (dn ++ [e] ++ rest').Perm m → GL false P ops (i + 1) Q n (Env.put E o.dst ch (.tuple #[.bool true, .string e.1, e.2.1])) W0 (H.set j (g.set q (it, .mapIter (some r) c (seenOf (dn ++ [e])) c)))) :
    GL false P ops i Q n E W0 H := by
  refine GL_eff (R := fun v H1 => (rest = [] ∧ v = .tuple #[.bool false] ∧ H1 = H) ∨ ∃ e rest', rest.Perm (e :: rest') ∧ (dn ++ [e] ++ rest').Perm m ∧ v = .tuple #[.bool true, .string e.1, e.2.1] ∧ H1 = H.set j (g.set q (it, .mapIter (some r) c (seenOf (dn ++ [e])) c)))
    ho hch hd hsure (fun rr hr w hs => ?_) (by
      rintro v H1 (⟨h1, rfl, rfl⟩ | ⟨e, rest', h1, h2, rfl, rfl⟩)
      · exact kEnd h1
      · exact kMore e rest' h1 h2)
  have hblk := hs.has _ (List.mem_flatten.2 ⟨g, List.mem_of_getElem? hj, List.mem_of_getElem? hi⟩)
  have hmap := hs.at hA
  -- the entries that are left
  have hborn : ((dn ++ rest).map (·.2.2)).Nodup := ((hp.map _).nodup_iff).2 hok.born
  have hmem : ∀ e, e ∈ m ↔ e ∈ dn ∨ e ∈ rest := fun e => by rw [← hp.mem_iff]; simp
  have hseen : ∀ e, e ∈ m → ((seenOf dn).contains e.2.2 = true ↔ e ∈ dn) := by
    intro e he
    simp only [seenOf, List.contains_toArray, List.contains_iff_mem, List.mem_map]
    constructor
    · rintro ⟨e', he', hb⟩
      have he'm : e' ∈ m := (hmem e').2 (.inl he')
      -- stamps tell entries apart
      have : e' = e := by
        have hnd := hok.born
        have : ∀ (l : SM), (l.map (·.2.2)).Nodup → ∀ a b, a ∈ l → b ∈ l → a.2.2 = b.2.2 → a = b := by
          intro l
          induction l with
          | nil => intro _ a b ha; simp at ha
          | cons y l ih =>
            intro hn a b ha hb' hab
            simp only [List.map_cons, List.nodup_cons] at hn
            rcases List.mem_cons.1 ha with rfl | ha2 <;> rcases List.mem_cons.1 hb' with rfl | hb2
            · rfl
            · exact absurd (List.mem_map.2 ⟨b, hb2, hab.symm⟩) hn.1
            · exact absurd (List.mem_map.2 ⟨a, ha2, hab⟩ : b.2.2 ∈ l.map (·.2.2)) hn.1
            · exact ih hn.2 a b ha2 hb2 hab
        exact this m hnd e' e he'm he hb
      exact this ▸ he'
    · intro h; exact ⟨e, h, rfl⟩
  have hdisj : ∀ e, e ∈ rest → e ∉ dn := by
    intro e he hd'
    rw [List.map_append, List.nodup_append] at hborn
    exact hborn.2.2 _ (List.mem_map.2 ⟨e, hd', rfl⟩) _ (List.mem_map.2 ⟨e, he, rfl⟩) rfl
  let left : SM := m.filter fun e => !(seenOf dn).contains e.2.2
  have hleft : (encM m).filter (fun e => !(seenOf dn).contains e.born) = encM left := by
    apply Array.ext'
    simp only [encM, Array.toList_filter, List.toList_toArray, left, List.filter_map]
    rfl
  have hleftmem : ∀ e, e ∈ left ↔ e ∈ rest := by
    intro e
    simp only [left, List.mem_filter, Bool.not_eq_true', ← Bool.not_eq_true]
    constructor
    · rintro ⟨h1, h2⟩
      rw [hseen e h1] at h2
      exact ((hmem e).1 h1).resolve_left h2
    · intro h
      have hm' := (hmem e).2 (.inr h)
      exact ⟨hm', by rw [hseen e hm']; exact hdisj e h⟩
  have hold : (encM left).filter (fun e => decide (e.born < c)) = encM left := by
    apply Array.filter_eq_self.2
    intro a ha
    simp only [encM, List.mem_toArray, List.mem_map] at ha
    obtain ⟨e, he, rfl⟩ := ha
    have := hok.lt e (by have := (List.mem_filter.1 he).1; exact this)
    exact decide_eq_true this
  have hnew : (encM left).filter (fun e => decide (e.born ≥ c)) = #[] := by
    apply Array.filter_eq_empty_iff.2
    intro a ha
    simp only [encM, List.mem_toArray, List.mem_map] at ha
    obtain ⟨e, he, rfl⟩ := ha
    have := hok.lt e (by have := (List.mem_filter.1 he).1; exact this)
    simp [entM]; exact this
  have hgone : (!(seenOf dn).isEmpty && !(encM m).isEmpty && (encM m).all (fun e => decide (e.born ≥ c))) = false := by
    cases hm : m with
    | nil => simp [encM]
    | cons e m' =>
      have := hok.lt e (by rw [hm]; exact List.mem_cons_self)
      have h2 : (encM (e :: m')).all (fun e => decide (e.born ≥ c)) = false := by
        simp only [encM, List.map_cons, List.all_toArray, List.all_cons]
        have : decide ((entM e).born ≥ c) = false := by simp [entM]; exact this
        simp [this]
      rw [h2]; simp
  have hexec : (execOp rr o).run P w = ((Instr.next (.pointer (some ⟨it, 0, none⟩)) false o.type).run P w).andThen fun v w' => .ok (.value v) w' := by
    unfold execOp
    simp only [hop]
    rw [hr _ _ hx]
    simp only [Sem.run_bind, Sem.run_pure]
  have hit := run_getObj_iter (P := P) hblk rfl
  have hstep : (Instr.next (.pointer (some ⟨it, 0, none⟩)) false o.type).run P w =
      ((choose (.mapNext ((if (encM left).isEmpty then #[none] else #[]) ++ (encM left).map some).size)).run P w).andThen fun a w1 =>
        ((match ((if (encM left).isEmpty then #[none] else #[]) ++ (encM left).map some)[a]? with
          | some (some e) => do
            setObj it (.mapIter (some r) c ((seenOf dn).push e.born) c)
            pure (.tuple #[.bool true, e.key, e.val])
          | some none => pure (.tuple #[.bool false])
          | none => stuck "Next: no such candidate" : Sem Value)).run P w1 := by
    simp only [Instr.next, Sem.run_bind, hit, Result.andThen_ok, run_getObj_map hmap, hgone, Bool.false_eq_true, if_false, hleft, hold, hnew, Array.append_empty]
    rfl
  by_cases hre : rest = []
  · have hl : left = [] := by
      cases hL : left with
      | nil => rfl
      | cons e l => have := (hleftmem e).1 (by rw [hL]; exact List.mem_cons_self); rw [hre] at this; simp at this
    refine ⟨.tuple #[.bool false], w, H, .inl ⟨hre, rfl, rfl⟩, hs, .inl ?_⟩
    rw [hexec, hstep, hl]
    simp [encM, run_choose, Question.forced]
  · have hne : left ≠ [] := by
      intro h
      cases hr' : rest with
      | nil => exact hre hr'
      | cons e l => have := (hleftmem e).2 (by rw [hr']; exact List.mem_cons_self); rw [h] at this; simp at this
    have hne' : (encM left).isEmpty = false := by
      cases hL : left with
      | nil => exact absurd hL hne
      | cons e l => simp [encM]
    have hsz : 0 < left.length := by cases hL : left with | nil => exact absurd hL hne | cons _ _ => simp
    have hch' : ∃ a w1, (choose (.mapNext ((#[] : Array (Option MapEntry)) ++ (encM left).map some).size)).run P w = .ok a w1 ∧ a < left.length ∧ (w1 = w ∨ w1 = { w with drawn := w.drawn + 1 }) := by
      have e1 : ((#[] : Array (Option MapEntry)) ++ (encM left).map some).size = left.length := by simp [encM]
      rw [e1, run_choose]
      split
      · exact ⟨0, w, rfl, hsz, .inl rfl⟩
      · exact ⟨_, _, rfl, by simp only [Question.cut]; exact Nat.mod_lt _ hsz, .inr rfl⟩
    obtain ⟨a, w1, hc1, ha, hw1⟩ := hch'
    have hs1 : Sat W0 H w1 := by rcases hw1 with rfl | rfl; exact hs; exact hs.drew
    have hblk1 := hs1.has _ (List.mem_flatten.2 ⟨g, List.mem_of_getElem? hj, List.mem_of_getElem? hi⟩)
    have hel : ((#[] : Array (Option MapEntry)) ++ (encM left).map some)[a]? = some (some (entM left[a])) := by
      simp [encM, ha]
    have hin : left[a] ∈ rest := (hleftmem _).1 (List.getElem_mem ha)
    obtain ⟨s1, s2, hsplit⟩ := List.append_of_mem hin
    have hperm1 : rest.Perm (left[a] :: (s1 ++ s2)) := by rw [hsplit]; exact List.perm_middle
    have hperm2 : (dn ++ [left[a]] ++ (s1 ++ s2)).Perm m := by
      refine List.Perm.trans ?_ hp
      rw [List.append_assoc]
      exact (List.Perm.append_left dn hperm1).symm
    obtain ⟨w', hr', hw'⟩ := Wr_setObj (P := P) hblk1 (o' := .mapIter (some r) c (seenOf (dn ++ [left[a]])) c) rfl
    refine ⟨.tuple #[.bool true, .string left[a].1, left[a].2.1], w', _, .inr ⟨left[a], s1 ++ s2, hperm1, hperm2, rfl, rfl⟩, hs1.wr hj hi hw', .inl ?_⟩
    have hpush : (seenOf dn).push (entM left[a]).born = seenOf (dn ++ [left[a]]) := by simp [seenOf, entM]
    rw [hexec, hstep, hne']
    simp only [Bool.false_eq_true, if_false, hc1, Result.andThen_ok, hel, Sem.run_bind, hpush, hr', Sem.run_pure]
    rfl

end Go.Sw
