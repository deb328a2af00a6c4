/- What a crash makes of the bodies in memory. No program is in sight. (and what it stands on) -/
import Derived.Test.YtlaoeiaaeifidaaGreatZ1
import Derived.Laws.Externs
import Derived.Test.YtlaoeiaaeifidaaGreatRows
import Derived.Lib.Strings
import Derived.Laws.IdiomStrings
import Derived.Shelf.Sort.Plain
import Derived.Shelf.Slices.In.SortNone
import Derived.Sort.OwnSorted
import Derived.Shelf.SlIter.Nil
namespace Go.Sw
open Go.RowKit
theorem baEq {a b : ByteArray} : (a == b) = true ↔ a = b := by
  constructor
  · intro h
    have h' : (a.data == b.data) = true := h
    cases a; cases b; simpa using h'
  · intro h
    subst h
    show (a.data == a.data) = true
    simp
theorem baNe {a b : ByteArray} : (a == b) = false ↔ a ≠ b := by
  rw [← Bool.not_eq_true, ne_eq, baEq]
abbrev SM := List (ByteArray × Value × Nat)
def entM (e : ByteArray × Value × Nat) : MapEntry := ⟨.string e.1, e.2.1, e.2.2⟩
def encM (m : SM) : Array MapEntry := (m.map entM).toArray
def mfind (k : ByteArray) : SM → Nat → Option (Nat × Value)
  | [], _ => none
  | e :: r, i => if k == e.1 then some (i, e.2.1) else mfind k r (i + 1)
def mget (m : SM) (k : ByteArray) : Option Value := (mfind k m 0).map (·.2)
def mput : SM → Nat → ByteArray → Value → SM
  | [], c, k, v => [(k, v, c)]
  | e :: r, c, k, v => if k == e.1 then (k, v, e.2.2) :: r else e :: mput r c k v
def mdel : SM → ByteArray → SM
  | [], _ => []
  | e :: r, k => if k == e.1 then r else e :: mdel r k
def mhas (m : SM) (k : ByteArray) : Bool := m.any fun e => k == e.1
theorem findNow_enc (k : ByteArray) : ∀ (m : SM) (i : Nat), Instr.findNow .string (.string k) (m.map entM) i = some (mfind k m i)
  | [], i => rfl
  | e :: r, i => by
    simp only [List.map_cons, Instr.findNow, entM, Instr.sameNow, mfind]
    cases h : k == e.1
    · simp only [Bool.false_eq_true, if_false]; exact findNow_enc k r (i + 1)
    · simp
theorem run_checkKey {P : Program} {b : Bool} {kt : TypeId} (h : P.underlying kt = some .string) (k : ByteArray) (w : World) : ∀ d, (Instr.checkKey b (d + 1) kt (.string k)).run P w = .ok () w := by
  intro d
  simp [Instr.checkKey, run_underlying h]
theorem run_findKey {P : Program} {kt : TypeId} (h : P.underlying kt = some .string) (k : ByteArray) (m : SM) (w : World) : (Instr.findKey kt (.string k) (encM m).toList).run P w = .ok (mfind k m 0) w := by
  simp only [Instr.findKey, Sem.run_bind, run_underlying h, Result.andThen_ok, encM, List.toList_toArray, findNow_enc]
  rfl
theorem run_getObj_map {P : Program} {w : World} {r : Nat} {es : Array MapEntry} {c : Nat} (h : w.heap[r]? = some (.map es c)) : (getObj r).run P w = .ok (.map es c) w := by
  simp [getObj, Sem.run, h]
def lookV (ok : Bool) (z : Value) : Option Value → Value
  | some v => if ok then .tuple #[v, .bool true] else v
  | none => if ok then .tuple #[z, .bool false] else z
theorem GL_lookup {d : Bool} {P : Program} {ops : Array Oper} {i : Nat} {Q : Post} {n : Fr} {E : Env} {W0 : World} {H : List Grp} {o : Oper} {ch : List (Nat × Bool)} {t kt et : TypeId} {x ix : Operand} {ok : Bool} {r c : Nat} {m : SM} {k : ByteArray} {z : Value} {ov : Option Value}
    (ho : ops[i]? = some o) (hop : o.op = .lookup t x ix ok) (hx : evO E ch x = some (.map (some r))) (hix : evO E ch ix = some (.string k)) (hu : P.underlying t = some (.map kt et)) (hkt : P.underlying kt = some .string) (hz : zeroV P et = some z)
    (hch : chainOf ops E o.guard = some ch) (hd : dstOk n ch o.dst = true) (hk : chKnown E ch = true)
    (hA : At W0 H r (.map (encM m) c)) (hg : chB E ch → mget m k = ov)
    (kk : GL d P ops (i + 1) Q n (Env.put E o.dst ch (lookV ok z ov)) W0 H) : GL d P ops i Q n E W0 H := by
  refine GL_quiet ho hch hd hk (fun rr hr hcb w hs => ?_) kk
  have hg' := hg hcb
  unfold mget at hg'
  unfold execOp
  simp only [hop]
  rw [hr _ _ hx, hr _ _ hix]
  have hck := run_checkKey (P := P) (b := (encM m).isEmpty) hkt k w 9999
  simp only [Instr.lookup, Sem.run_bind, run_underlying hu, Result.andThen_ok, run_getObj_map (hs.at hA), Sem.run_pure]
  rw [hck]
  simp only [Result.andThen_ok, run_findKey hkt]
  cases hf : mfind k m 0 with
  | none => rw [hf] at hg'; simp at hg'; subst hg'; simp only [Sem.run_bind, zeroV_sound hz, Result.andThen_ok, Sem.run_pure]; exact ⟨rfl, by cases ok <;> rfl⟩
  | some p => rw [hf] at hg'; simp at hg'; subst hg'; exact ⟨rfl, by cases ok <;> rfl⟩
theorem Wr_setObj {P : Program} {w : World} {b : Nat} {o o' : Obj} (h : w.heap[b]? = some o) (hc : (match o with | .cells .. => false | _ => true) = true) :
    ∃ w', (setObj b o').run P w = .ok () w' ∧ Wr b o' w w' := by
  have hb : b < w.heap.size := by
    rcases Nat.lt_or_ge b w.heap.size with h' | h'
    · exact h'
    · simp [Array.getElem?_eq_none h'] at h
  refine ⟨{ w with heap := w.heap.setIfInBounds b o' }, ?_, rfl, rfl, rfl, by simp, by simp [hb], fun k hk => ?_⟩
  · simp only [setObj, Sem.run, h]
    cases o <;> simp at hc <;> rfl
  · show (w.heap.setIfInBounds b o')[k]? = _
    rw [Array.getElem?_setIfInBounds_ne (fun e => hk e.symm)]
theorem mfind_put {k : ByteArray} : ∀ (m : SM) (i : Nat) (c : Nat) (v : Value), (mfind k m i = none → mput m c k v = m ++ [(k, v, c)] ∧ mhas m k = false) ∧
    (∀ j u, mfind k m i = some (j, u) → i ≤ j ∧ mhas m k = true ∧ (m.map entM).toArray.modify (j - i) (fun e => { e with key := .string k, val := v }) = (mput m c k v |>.map entM).toArray ∧ ((m.map entM)[j - i]?).isSome = true ∧ (∃ k', ((m.map entM)[j - i]?).map (·.key) = some (.string k') ∧ (k == k') = true))
  | [], i, c, v => by
    constructor
    · intro _; exact ⟨rfl, rfl⟩
    · intro j u h; simp [mfind] at h
  | e :: r, i, c, v => by
    obtain ⟨ih1, ih2⟩ := mfind_put (k := k) r (i + 1) c v
    simp only [mfind, mput, mhas, List.any_cons]
    cases hk : k == e.1
    · simp only [Bool.false_eq_true, if_false, Bool.false_or]
      constructor
      · intro h; obtain ⟨h1, h2⟩ := ih1 h; exact ⟨by rw [h1]; rfl, h2⟩
      · intro j u h
        obtain ⟨h1, h2, h3, h4, h5⟩ := ih2 j u h
        refine ⟨by omega, h2, ?_, ?_, ?_⟩
        · have e1 : j - i = (j - (i + 1)) + 1 := by omega
          apply Array.ext'
          have h3' := congrArg Array.toList h3
          simp only [Array.toList_modify] at h3' ⊢
          rw [e1, List.map_cons, List.modify_succ_cons, h3', List.map_cons]
        · have e1 : j - i = (j - (i + 1)) + 1 := by omega
          rw [e1, List.map_cons, List.getElem?_cons_succ]; exact h4
        · have e1 : j - i = (j - (i + 1)) + 1 := by omega
          rw [e1, List.map_cons, List.getElem?_cons_succ]; exact h5
    · simp only [if_true, Bool.true_or]
      constructor
      · intro h; simp at h
      · intro j u h
        simp only [Option.some.injEq, Prod.mk.injEq] at h
        obtain ⟨rfl, _⟩ := h
        refine ⟨Nat.le_refl _, trivial, ?_, ?_, ?_⟩
        · apply Array.ext'
          simp [entM]
        · simp
        · exact ⟨e.1, by simp [entM], hk⟩
theorem run_mapUpdate {P : Program} {t kt et : TypeId} (hu : P.underlying t = some (.map kt et)) (hkt : P.underlying kt = some .string) {w : World} {r c : Nat} {m : SM} (h : w.heap[r]? = some (.map (encM m) c)) (k : ByteArray) (v : Value) :
    ∃ w', (Instr.mapUpdate t (.map (some r)) (.string k) v).run P w = .ok () w' ∧ Wr r (.map (encM (mput m c k v)) (if mhas m k then c else c + 1)) w w' := by
  have hck := run_checkKey (P := P) (b := false) hkt k w 9999
  obtain ⟨hp1, hp2⟩ := mfind_put (k := k) m 0 c v
  cases hf : mfind k m 0 with
  | none =>
    obtain ⟨h1, h2⟩ := hp1 hf
    obtain ⟨w', hr', hw'⟩ := Wr_setObj (P := P) h (o' := .map (encM (mput m c k v)) (c + 1)) rfl
    refine ⟨w', ?_, by rw [h2]; exact hw'⟩
    simp only [Instr.mapUpdate, Sem.run_bind, run_underlying hu, Result.andThen_ok, run_getObj_map h]
    rw [hck]
    simp only [Result.andThen_ok, run_findKey hkt, hf]
    rw [← hr']
    congr 3
    rw [h1]
    simp [encM, entM]
  | some p =>
    obtain ⟨j, u⟩ := p
    obtain ⟨_, h2, h3, h4, k', h5, h6⟩ := hp2 j u hf
    simp only [Nat.sub_zero] at h3 h4 h5
    obtain ⟨w', hr', hw'⟩ := Wr_setObj (P := P) h (o' := .map (encM (mput m c k v)) c) rfl
    refine ⟨w', ?_, by rw [h2]; exact hw'⟩
    simp only [Instr.mapUpdate, Sem.run_bind, run_underlying hu, Result.andThen_ok, run_getObj_map h]
    rw [hck]
    simp only [Result.andThen_ok, run_findKey hkt, hf]
    have hks : (Instr.keyThatStays ((((encM m)[j]?).map (·.key)).getD (.string k)) (.string k)).run P w = .ok (.string k) w := by
      have e1 : ((encM m)[j]?).map (·.key) = some (.string k') := by rw [← h5]; simp [encM]
      have e2 : (k' == k) = true := by
        rw [baEq] at h6 ⊢
        exact h6.symm
      rw [e1]
      simp only [Option.getD_some, Instr.keyThatStays]
      have : Instr.sameBits 10000 (.string k') (.string k) = true := by
        show Instr.sameBits (9999 + 1) _ _ = true
        simpa [Instr.sameBits] using e2
      rw [if_pos this]
      rfl
    simp only [Sem.run_bind, hks, Result.andThen_ok]
    rw [← hr']
    congr 3
theorem GL_mapPut {P : Program} {ops : Array Oper} {i : Nat} {Q : Post} {n : Fr} {E : Env} {W0 : World} {H H' : List Grp} {o : Oper} {ch : List (Nat × Bool)} {t kt et : TypeId} {x y u : Operand} {r c j q : Nat} {m : SM} {k : ByteArray} {v : Value} {g : Grp}
    (ho : ops[i]? = some o) (hop : o.op = .mapUpdate t x y u ∨ o.op = .insert t x y u) (hx : evO E ch x = some (.map (some r))) (hy : evO E ch y = some (.string k)) (hv : evO E ch u = some v)
    (hu : P.underlying t = some (.map kt et)) (hkt : P.underlying kt = some .string)
    (hch : chainOf ops E o.guard = some ch) (hd : dstOk n ch o.dst = true) (hsure : chSure E ch = true)
    (hj : H[j]? = some g) (hi : g[q]? = some (r, .map (encM m) c)) (hH' : H.set j (g.set q (r, .map (encM (mput m c k v)) (if mhas m k then c else c + 1))) = H')
    (kk : GL false P ops (i + 1) Q n (Env.put E o.dst ch undef) W0 H') : GL false P ops i Q n E W0 H := by
  refine GL_eff (R := fun v H1 => v = undef ∧ H1 = H') ho hch hd hsure (fun rr hr w hs => ?_) (by rintro v H1 ⟨rfl, rfl⟩; exact kk)
  have hblk := hs.has _ (List.mem_flatten.2 ⟨g, List.mem_of_getElem? hj, List.mem_of_getElem? hi⟩)
  obtain ⟨w', hr', hw'⟩ := run_mapUpdate hu hkt hblk k v
  refine ⟨undef, w', H', ⟨rfl, rfl⟩, by rw [← hH']; exact hs.wr hj hi hw', .inr ⟨?_, rfl⟩⟩
  unfold execOp
  rcases hop with hop | hop <;>
    (simp only [hop]
     rw [hr _ _ hx, hr _ _ hy, hr _ _ hv]
     simp only [Sem.run_bind, hr', Result.andThen_ok]
     rfl)
theorem mfind_del {k : ByteArray} : ∀ (m : SM) (i : Nat), (mfind k m i = none → mdel m k = m) ∧ (∀ j u, mfind k m i = some (j, u) → i ≤ j ∧ (m.map entM).toArray.eraseIdxIfInBounds (j - i) = (mdel m k |>.map entM).toArray)
  | [], i => by simp [mfind, mdel]
  | e :: r, i => by
    obtain ⟨ih1, ih2⟩ := mfind_del (k := k) r (i + 1)
    simp only [mfind, mdel]
    cases hk : k == e.1
    · simp only [Bool.false_eq_true, if_false]
      constructor
      · intro h; rw [ih1 h]
      · intro j u h
        obtain ⟨h1, h3⟩ := ih2 j u h
        refine ⟨by omega, ?_⟩
        have e1 : j - i = (j - (i + 1)) + 1 := by omega
        apply Array.ext'
        have h3' := congrArg Array.toList h3
        simp only [Array.toList_eraseIdxIfInBounds] at h3' ⊢
        rw [e1, List.map_cons, List.eraseIdx_cons_succ, h3', List.map_cons]
    · simp only [if_true]
      constructor
      · intro h; simp at h
      · intro j u h
        simp only [Option.some.injEq, Prod.mk.injEq] at h
        obtain ⟨rfl, _⟩ := h
        refine ⟨Nat.le_refl _, ?_⟩
        apply Array.ext'
        simp
theorem GL_delete {P : Program} {ops : Array Oper} {i : Nat} {Q : Post} {n : Fr} {E : Env} {W0 : World} {H H' : List Grp} {o : Oper} {ch : List (Nat × Bool)} {cl : Call} {t kt et : TypeId} {ts : Array TypeId} {r c j q : Nat} {m : SM} {k : ByteArray} {g : Grp}
    (ho : ops[i]? = some o) (hop : o.op = .call cl) (hce : cl.callee = .builtin .delete) (hts : cl.argTypes = ts) (hat : ts[0]? = some t) (hargs : evL (evO E ch) cl.args.toList = some [.map (some r), .string k])
    (hu : P.underlying t = some (.map kt et)) (hkt : P.underlying kt = some .string)
    (hch : chainOf ops E o.guard = some ch) (hd : dstOk n ch o.dst = true) (hsure : chSure E ch = true)
    (hj : H[j]? = some g) (hi : g[q]? = some (r, .map (encM m) c)) (hH' : H.set j (g.set q (r, .map (encM (mdel m k)) c)) = H')
    (kk : GL false P ops (i + 1) Q n (Env.put E o.dst ch (.tuple #[])) W0 H') : GL false P ops i Q n E W0 H := by
  refine GL_eff (R := fun v H1 => v = .tuple #[] ∧ H1 = H') ho hch hd hsure (fun rr hr w hs => ?_) (by rintro v H1 ⟨rfl, rfl⟩; exact kk)
  have hblk := hs.has _ (List.mem_flatten.2 ⟨g, List.mem_of_getElem? hj, List.mem_of_getElem? hi⟩)
  obtain ⟨w', hr', hw'⟩ := Wr_setObj (P := P) hblk (o' := .map (encM (mdel m k)) c) rfl
  refine ⟨.tuple #[], w', H', ⟨rfl, rfl⟩, by rw [← hH']; exact hs.wr hj hi hw', .inl ?_⟩
  have hck := run_checkKey (P := P) (b := (encM m).isEmpty) hkt k w 9999
  obtain ⟨hp1, hp2⟩ := mfind_del (k := k) m 0
  have hrun : (Builtin.delete_ ts o.type #[.map (some r), .string k]).run P w = .ok (.tuple #[]) w' := by
    have h0 : (#[.map (some r), .string k] : Array Value)[0]? = some (.map (some r)) := rfl
    have h1 : (#[.map (some r), .string k] : Array Value)[1]? = some (.string k) := rfl
    simp only [Builtin.delete_, hat, h0, h1, Sem.run_bind, run_underlying hu, Result.andThen_ok, run_getObj_map hblk]
    rw [hck]
    simp only [Result.andThen_ok, run_findKey hkt]
    cases hf : mfind k m 0 with
    | none =>
      rw [hp1 hf] at hr'
      simp only [Sem.run_bind, hr', Result.andThen_ok]; rfl
    | some p =>
      obtain ⟨jj, u⟩ := p
      obtain ⟨_, h3⟩ := hp2 jj u hf
      simp only [Nat.sub_zero] at h3
      have e1 : (encM m).eraseIdxIfInBounds jj = encM (mdel m k) := h3
      simp only [e1, Sem.run_bind, hr', Result.andThen_ok]; rfl
  unfold execOp
  simp only [hop, resolve, hce, hts, arr_map hr hargs, Sem.run_bind, Sem.run_pure, Result.andThen_ok, invoke, Go.builtin, hrun]
structure MapOk (m : SM) (c : Nat) : Prop where
  keys : m.Pairwise fun x y => (x.1 == y.1) = false
  born : (m.map (·.2.2)).Nodup
  lt : ∀ e, e ∈ m → e.2.2 < c
theorem GL_range {P : Program} {ops : Array Oper} {i : Nat} {Q : Post} {n : Fr} {E : Env} {W0 : World} {H : List Grp} {o : Oper} {ch : List (Nat × Bool)} {t kt et : TypeId} {x : Operand} {r c : Nat} {m : SM}
    (ho : ops[i]? = some o) (hop : o.op = .range t x) (hx : evO E ch x = some (.map (some r))) (hu : P.underlying t = some (.map kt et))
    (hch : chainOf ops E o.guard = some ch) (hd : dstOk n ch o.dst = true) (hsure : chSure E ch = true)
    (hA : At W0 H r (.map (encM m) c))
    (kk : ∀ b, GL false P ops (i + 1) Q n (Env.put E o.dst ch (.pointer (some ⟨b, 0, none⟩))) W0 ([(b, .mapIter (some r) c #[] c)] :: H)) : GL false P ops i Q n E W0 H := by
  refine GL_eff (R := fun v H1 => ∃ b, v = .pointer (some ⟨b, 0, none⟩) ∧ H1 = [(b, .mapIter (some r) c #[] c)] :: H) ho hch hd hsure (fun rr hr w hs => ?_) (by rintro v H1 ⟨b, rfl, rfl⟩; exact kk b)
  refine ⟨_, w.alloc (.mapIter (some r) c #[] c), _, ⟨w.heap.size, rfl, rfl⟩, hs.new rfl rfl rfl rfl, .inl ?_⟩
  unfold execOp
  simp only [hop]
  rw [hr _ _ hx]
  simp only [Instr.range, Sem.run_bind, run_underlying hu, Result.andThen_ok, run_getObj_map (hs.at hA), Sem.run_pure, run_newObj]
  rfl
def seenOf (dn : SM) : Array Nat := (dn.map (·.2.2)).toArray
theorem run_getObj_iter {P : Program} {w : World} {r : Nat} {o : Obj} (h : w.heap[r]? = some o) (hc : (match o with | .cells .. => false | _ => true) = true) : (getObj r).run P w = .ok o w := by
  cases o <;> simp at hc <;> simp [getObj, Sem.run, h]
theorem GL_next {P : Program} {ops : Array Oper} {i : Nat} {Q : Post} {n : Fr} {E : Env} {W0 : World} {H : List Grp} {o : Oper} {ch : List (Nat × Bool)} {x : Operand} {it r c j q : Nat} {m dn rest : SM} {g : Grp}
    (ho : ops[i]? = some o) (hop : o.op = .next x false) (hx : evO E ch x = some (.pointer (some ⟨it, 0, none⟩)))
    (hch : chainOf ops E o.guard = some ch) (hd : dstOk n ch o.dst = true) (hsure : chSure E ch = true)
    (hj : H[j]? = some g) (hi : g[q]? = some (it, .mapIter (some r) c (seenOf dn) c)) (hA : At W0 H r (.map (encM m) c)) (hok : MapOk m c) (hp : (dn ++ rest).Perm m)
    (kEnd : rest = [] → GL false P ops (i + 1) Q n (Env.put E o.dst ch (.tuple #[.bool false])) W0 H)
    (kMore : ∀ e rest', rest.Perm (e :: rest') → (dn ++ [e] ++ rest').Perm m → GL false P ops (i + 1) Q n (Env.put E o.dst ch (.tuple #[.bool true, .string e.1, e.2.1])) W0 (H.set j (g.set q (it, .mapIter (some r) c (seenOf (dn ++ [e])) c)))) :
    GL false P ops i Q n E W0 H := by
  refine GL_eff (R := fun v H1 => (rest = [] ∧ v = .tuple #[.bool false] ∧ H1 = H) ∨ ∃ e rest', rest.Perm (e :: rest') ∧ (dn ++ [e] ++ rest').Perm m ∧ v = .tuple #[.bool true, .string e.1, e.2.1] ∧ H1 = H.set j (g.set q (it, .mapIter (some r) c (seenOf (dn ++ [e])) c)))
    ho hch hd hsure (fun rr hr w hs => ?_) (by
      rintro v H1 (⟨h1, rfl, rfl⟩ | ⟨e, rest', h1, h2, rfl, rfl⟩)
      · exact kEnd h1
      · exact kMore e rest' h1 h2)
  have hblk := hs.has _ (List.mem_flatten.2 ⟨g, List.mem_of_getElem? hj, List.mem_of_getElem? hi⟩)
  have hmap := hs.at hA
  -- the entries that are left
  have hborn : ((dn ++ rest).map (·.2.2)).Nodup := ((hp.map _).nodup_iff).2 hok.born
  have hmem : ∀ e, e ∈ m ↔ e ∈ dn ∨ e ∈ rest := fun e => by rw [← hp.mem_iff]; simp
  have hseen : ∀ e, e ∈ m → ((seenOf dn).contains e.2.2 = true ↔ e ∈ dn) := by
    intro e he
    simp only [seenOf, List.contains_toArray, List.contains_iff_mem, List.mem_map]
    constructor
    · rintro ⟨e', he', hb⟩
      have he'm : e' ∈ m := (hmem e').2 (.inl he')
      -- stamps tell entries apart
      have : e' = e := by
        have hnd := hok.born
        have : ∀ (l : SM), (l.map (·.2.2)).Nodup → ∀ a b, a ∈ l → b ∈ l → a.2.2 = b.2.2 → a = b := by
          intro l
          induction l with
          | nil => intro _ a b ha; simp at ha
          | cons y l ih =>
            intro hn a b ha hb' hab
            simp only [List.map_cons, List.nodup_cons] at hn
            rcases List.mem_cons.1 ha with rfl | ha2 <;> rcases List.mem_cons.1 hb' with rfl | hb2
            · rfl
            · exact absurd (List.mem_map.2 ⟨b, hb2, hab.symm⟩) hn.1
            · exact absurd (List.mem_map.2 ⟨a, ha2, hab⟩ : b.2.2 ∈ l.map (·.2.2)) hn.1
            · exact ih hn.2 a b ha2 hb2 hab
        exact this m hnd e' e he'm he hb
      exact this ▸ he'
    · intro h; exact ⟨e, h, rfl⟩
  have hdisj : ∀ e, e ∈ rest → e ∉ dn := by
    intro e he hd'
    rw [List.map_append, List.nodup_append] at hborn
    exact hborn.2.2 _ (List.mem_map.2 ⟨e, hd', rfl⟩) _ (List.mem_map.2 ⟨e, he, rfl⟩) rfl
  let left : SM := m.filter fun e => !(seenOf dn).contains e.2.2
  have hleft : (encM m).filter (fun e => !(seenOf dn).contains e.born) = encM left := by
    apply Array.ext'
    simp only [encM, Array.toList_filter, List.toList_toArray, left, List.filter_map]
    rfl
  have hleftmem : ∀ e, e ∈ left ↔ e ∈ rest := by
    intro e
    simp only [left, List.mem_filter, Bool.not_eq_true', ← Bool.not_eq_true]
    constructor
    · rintro ⟨h1, h2⟩
      rw [hseen e h1] at h2
      exact ((hmem e).1 h1).resolve_left h2
    · intro h
      have hm' := (hmem e).2 (.inr h)
      exact ⟨hm', by rw [hseen e hm']; exact hdisj e h⟩
  have hold : (encM left).filter (fun e => decide (e.born < c)) = encM left := by
    apply Array.filter_eq_self.2
    intro a ha
    simp only [encM, List.mem_toArray, List.mem_map] at ha
    obtain ⟨e, he, rfl⟩ := ha
    have := hok.lt e (by have := (List.mem_filter.1 he).1; exact this)
    exact decide_eq_true this
  have hnew : (encM left).filter (fun e => decide (e.born ≥ c)) = #[] := by
    apply Array.filter_eq_empty_iff.2
    intro a ha
    simp only [encM, List.mem_toArray, List.mem_map] at ha
    obtain ⟨e, he, rfl⟩ := ha
    have := hok.lt e (by have := (List.mem_filter.1 he).1; exact this)
    simp [entM]; exact this
  have hgone : (!(seenOf dn).isEmpty && !(encM m).isEmpty && (encM m).all (fun e => decide (e.born ≥ c))) = false := by
    cases hm : m with
    | nil => simp [encM]
    | cons e m' =>
      have := hok.lt e (by rw [hm]; exact List.mem_cons_self)
      have h2 : (encM (e :: m')).all (fun e => decide (e.born ≥ c)) = false := by
        simp only [encM, List.map_cons, List.all_toArray, List.all_cons]
        have : decide ((entM e).born ≥ c) = false := by simp [entM]; exact this
        simp [this]
      rw [h2]; simp
  have hexec : (execOp rr o).run P w = ((Instr.next (.pointer (some ⟨it, 0, none⟩)) false o.type).run P w).andThen fun v w' => .ok (.value v) w' := by
    unfold execOp
    simp only [hop]
    rw [hr _ _ hx]
    simp only [Sem.run_bind, Sem.run_pure]
  have hit := run_getObj_iter (P := P) hblk rfl
  have hstep : (Instr.next (.pointer (some ⟨it, 0, none⟩)) false o.type).run P w =
      ((choose (.mapNext ((if (encM left).isEmpty then #[none] else #[]) ++ (encM left).map some).size)).run P w).andThen fun a w1 =>
        ((match ((if (encM left).isEmpty then #[none] else #[]) ++ (encM left).map some)[a]? with
          | some (some e) => do
            setObj it (.mapIter (some r) c ((seenOf dn).push e.born) c)
            pure (.tuple #[.bool true, e.key, e.val])
          | some none => pure (.tuple #[.bool false])
          | none => stuck "Next: no such candidate" : Sem Value)).run P w1 := by
    simp only [Instr.next, Sem.run_bind, hit, Result.andThen_ok, run_getObj_map hmap, hgone, Bool.false_eq_true, if_false, hleft, hold, hnew, Array.append_empty]
    rfl
  by_cases hre : rest = []
  · have hl : left = [] := by
      cases hL : left with
      | nil => rfl
      | cons e l => have := (hleftmem e).1 (by rw [hL]; exact List.mem_cons_self); rw [hre] at this; simp at this
    refine ⟨.tuple #[.bool false], w, H, .inl ⟨hre, rfl, rfl⟩, hs, .inl ?_⟩
    rw [hexec, hstep, hl]
    simp [encM, run_choose, Question.forced]
  · have hne : left ≠ [] := by
      intro h
      cases hr' : rest with
      | nil => exact hre hr'
      | cons e l => have := (hleftmem e).2 (by rw [hr']; exact List.mem_cons_self); rw [h] at this; simp at this
    have hne' : (encM left).isEmpty = false := by
      cases hL : left with
      | nil => exact absurd hL hne
      | cons e l => simp [encM]
    have hsz : 0 < left.length := by cases hL : left with | nil => exact absurd hL hne | cons _ _ => simp
    have hch' : ∃ a w1, (choose (.mapNext ((#[] : Array (Option MapEntry)) ++ (encM left).map some).size)).run P w = .ok a w1 ∧ a < left.length ∧ (w1 = w ∨ w1 = { w with drawn := w.drawn + 1 }) := by
      have e1 : ((#[] : Array (Option MapEntry)) ++ (encM left).map some).size = left.length := by simp [encM]
      rw [e1, run_choose]
      split
      · exact ⟨0, w, rfl, hsz, .inl rfl⟩
      · exact ⟨_, _, rfl, by simp only [Question.cut]; exact Nat.mod_lt _ hsz, .inr rfl⟩
    obtain ⟨a, w1, hc1, ha, hw1⟩ := hch'
    have hs1 : Sat W0 H w1 := by rcases hw1 with rfl | rfl; exact hs; exact hs.drew
    have hblk1 := hs1.has _ (List.mem_flatten.2 ⟨g, List.mem_of_getElem? hj, List.mem_of_getElem? hi⟩)
    have hel : ((#[] : Array (Option MapEntry)) ++ (encM left).map some)[a]? = some (some (entM left[a])) := by
      simp [encM, ha]
    have hin : left[a] ∈ rest := (hleftmem _).1 (List.getElem_mem ha)
    obtain ⟨s1, s2, hsplit⟩ := List.append_of_mem hin
    have hperm1 : rest.Perm (left[a] :: (s1 ++ s2)) := by rw [hsplit]; exact List.perm_middle
    have hperm2 : (dn ++ [left[a]] ++ (s1 ++ s2)).Perm m := by
      refine List.Perm.trans ?_ hp
      rw [List.append_assoc]
      exact (List.Perm.append_left dn hperm1).symm
    obtain ⟨w', hr', hw'⟩ := Wr_setObj (P := P) hblk1 (o' := .mapIter (some r) c (seenOf (dn ++ [left[a]])) c) rfl
    refine ⟨.tuple #[.bool true, .string left[a].1, left[a].2.1], w', _, .inr ⟨left[a], s1 ++ s2, hperm1, hperm2, rfl, rfl⟩, hs1.wr hj hi hw', .inl ?_⟩
    have hpush : (seenOf dn).push (entM left[a]).born = seenOf (dn ++ [left[a]]) := by simp [seenOf, entM]
    rw [hexec, hstep, hne']
    simp only [Bool.false_eq_true, if_false, hc1, Result.andThen_ok, hel, Sem.run_bind, hpush, hr', Sem.run_pure]
    rfl
end Go.Sw
namespace Go.Sw
open Go.RowKit
theorem born_find {m : SM} {c : Nat} (hok : MapOk m c) {e : ByteArray × Value × Nat} (he : e ∈ m) : (encM m).find? (fun x => x.born == e.2.2) = some (entM e) := by
  have key : ∀ l : SM, (l.map (·.2.2)).Nodup → e ∈ l → (l.map entM).find? (fun x => x.born == e.2.2) = some (entM e) := by
    intro l
    induction l with
    | nil => intro _ h; cases h
    | cons x l ih =>
      intro hn h
      simp only [List.map_cons, List.nodup_cons] at hn
      rw [List.map_cons, List.find?_cons]
      rcases List.mem_cons.1 h with rfl | h
      · simp [entM]
      · have hx : ((entM x).born == e.2.2) = false := by
          rw [beq_eq_false_iff_ne]
          intro h'
          exact hn.1 (List.mem_map.2 ⟨e, h, h'.symm⟩)
        rw [hx]
        exact ih hn.2 h
  have := key m hok.born he
  rw [encM, List.find?_toArray]
  exact this
theorem GL_entry {d : Bool} {P : Program} {ops : Array Oper} {i : Nat} {Q : Post} {n : Fr} {E : Env} {W0 : World} {H : List Grp} {o : Oper} {ch : List (Nat × Bool)} {x : Operand} {it r c : Nat} {m dn : SM} {e : ByteArray × Value × Nat}
    (ho : ops[i]? = some o) (hop : o.op = .entry x) (hx : evO E ch x = some (.pointer (some ⟨it, 0, none⟩)))
    (hch : chainOf ops E o.guard = some ch) (hd : dstOk n ch o.dst = true) (hk : chKnown E ch = true)
    (hI : At W0 H it (.mapIter (some r) c (seenOf (dn ++ [e])) c)) (hA : At W0 H r (.map (encM m) c)) (hok : MapOk m c) (he : e ∈ m)
    (kk : GL d P ops (i + 1) Q n (Env.put E o.dst ch (.tuple #[.string e.1, e.2.1])) W0 H) : GL d P ops i Q n E W0 H := by
  refine GL_quiet ho hch hd hk (fun rr hr _ w hs => ?_) kk
  have hit := run_getObj_iter (P := P) (hs.at hI) rfl
  have hb : (seenOf (dn ++ [e])).back? = some e.2.2 := by
    unfold seenOf
    rw [List.map_append, List.map_cons, List.map_nil]
    simp
  unfold execOp
  simp only [hop]
  rw [hr _ _ hx]
  simp only [Instr.entry, Sem.run_bind, hit, Result.andThen_ok, hb, run_getObj_map (hs.at hA), bne_self_eq_false, Bool.false_eq_true, if_false, born_find hok he, Sem.run_pure]
  exact ⟨rfl, rfl⟩
def stS (s : SM × Nat) (e : ByteArray × Value × Nat) : SM × Nat :=
  match e.2.1 with
  | .pointer none => (mdel s.1 e.1, s.2)
  | v => (mput s.1 s.2 e.1 v, if mhas s.1 e.1 then s.2 else s.2 + 1)
def foldS (s : SM × Nat) (l : SM) : SM × Nat := l.foldl stS s
theorem foldS_snoc (s : SM × Nat) (l : SM) (e : ByteArray × Value × Nat) : foldS s (l ++ [e]) = stS (foldS s l) e := by
  unfold foldS; rw [List.foldl_append]; rfl
theorem mhas_false {m : SM} {k : ByteArray} : mhas m k = false ↔ ∀ e ∈ m, (k == e.1) = false := by
  unfold mhas; rw [List.any_eq_false]
  constructor
  · intro h e he; simpa using h e he
  · intro h e he; simpa using h e he
theorem mput_new {m : SM} {k : ByteArray} (c : Nat) (v : Value) (h : mhas m k = false) : mput m c k v = m ++ [(k, v, c)] := by
  induction m with
  | nil => rfl
  | cons e m ih =>
    rw [mhas_false] at h
    have h0 := h e List.mem_cons_self
    rw [mput, h0]
    simp only [Bool.false_eq_true, if_false]
    rw [ih (mhas_false.2 (fun x hx => h x (List.mem_cons_of_mem _ hx)))]
    rfl
theorem mput_keys (m : SM) (c : Nat) (k : ByteArray) (v : Value) (h : mhas m k = true) : (mput m c k v).map (fun e => (e.2.2)) = m.map (fun e => (e.2.2)) ∧ (mput m c k v).map Prod.fst = m.map Prod.fst := by
  induction m with
  | nil => cases h
  | cons e m ih =>
    rw [mput]
    cases hk : k == e.1
    · simp only [Bool.false_eq_true, if_false, List.map_cons]
      unfold mhas at h
      rw [List.any_cons, hk, Bool.false_or] at h
      obtain ⟨h1, h2⟩ := ih h
      exact ⟨by rw [h1], by rw [h2]⟩
    · simp only [if_true, List.map_cons, true_and]
      rw [baEq] at hk; rw [hk]
theorem mdel_sub (m : SM) (k : ByteArray) : (mdel m k).Sublist m := by
  induction m with
  | nil => exact List.Sublist.refl _
  | cons e m ih =>
    rw [mdel]
    split
    · exact List.sublist_cons_self e m
    · exact ih.cons_cons e
theorem MapOk.del {m : SM} {c : Nat} (h : MapOk m c) (k : ByteArray) : MapOk (mdel m k) c :=
  ⟨h.keys.sublist (mdel_sub m k), h.born.sublist ((mdel_sub m k).map _), fun e he => h.lt e ((mdel_sub m k).subset he)⟩
theorem pw_keys {m : SM} : (m.Pairwise fun x y => (x.1 == y.1) = false) ↔ (m.map Prod.fst).Nodup := by
  rw [List.nodup_iff_pairwise_ne, List.pairwise_map]
  constructor
  · intro h; exact h.imp (fun h => baNe.1 h)
  · intro h; exact h.imp (fun h => baNe.2 h)
theorem MapOk.put {m : SM} {c : Nat} (h : MapOk m c) (k : ByteArray) (v : Value) : MapOk (mput m c k v) (if mhas m k then c else c + 1) := by
  cases hm : mhas m k with
  | true =>
    obtain ⟨h1, h2⟩ := mput_keys m c k v hm
    refine ⟨pw_keys.2 (by rw [h2]; exact pw_keys.1 h.keys), by rw [h1]; exact h.born, fun e he => ?_⟩
    have : e.2.2 ∈ (mput m c k v).map (fun e => e.2.2) := List.mem_map.2 ⟨e, he, rfl⟩
    rw [h1] at this
    obtain ⟨x, hx, hx2⟩ := List.mem_map.1 this
    have := h.lt x hx
    simp only [if_true]; omega
  | false =>
    rw [mput_new c v hm]
    simp only [Bool.false_eq_true, if_false]
    rw [mhas_false] at hm
    refine ⟨?_, ?_, ?_⟩
    · rw [List.pairwise_append]
      refine ⟨h.keys, by simp, fun x hx y hy => ?_⟩
      rw [List.mem_singleton.1 hy]
      have := hm x hx
      rw [baNe] at this ⊢
      exact fun e => this e.symm
    · rw [List.map_append, List.nodup_append]
      refine ⟨h.born, by simp, ?_⟩
      intro a ha b hb
      obtain ⟨x, hx, rfl⟩ := List.mem_map.1 ha
      simp only [List.map_cons, List.map_nil, List.mem_singleton] at hb
      have := h.lt x hx
      omega
    · intro e he
      rcases List.mem_append.1 he with he | he
      · have := h.lt e he; omega
      · rw [List.mem_singleton.1 he]; simp
theorem MapOk.st {s : SM × Nat} (h : MapOk s.1 s.2) (e : ByteArray × Value × Nat) : MapOk (stS s e).1 (stS s e).2 := by
  unfold stS
  split
  · exact h.del _
  · exact h.put _ _
theorem MapOk.fold {s : SM × Nat} (h : MapOk s.1 s.2) (l : SM) : MapOk (foldS s l).1 (foldS s l).2 := by
  induction l generalizing s with
  | nil => exact h
  | cons e l ih => exact ih (h.st e)
theorem GL_rem {d : Bool} {P : Program} {ops : Array Oper} {i : Nat} {Q : Post} {n : Fr} {E : Env} {W0 : World} {H : List Grp} {o : Oper} {ch : List (Nat × Bool)} {t t' : TypeId} {x y : Operand} {kd : IntKind} {a b : Int}
    (ho : ops[i]? = some o) (hop : o.op = .binOp .rem t x y t') (hx : evO E ch x = some (.int kd a)) (hy : evO E ch y = some (.int kd b))
    (hch : chainOf ops E o.guard = some ch) (hd : dstOk n ch o.dst = true) (hk : chKnown E ch = true) (hb : chB E ch → b ≠ 0)
    (k : GL d P ops (i + 1) Q n (Env.put E o.dst ch (.int kd (Int.tmod a b))) W0 H) : GL d P ops i Q n E W0 H := by
  refine GL_quiet ho hch hd hk (fun r hr hcb w _ => ?_) k
  have h0 := hb hcb
  have := pev_sound (P := P) (ρ := evO E ch) hr (o := o) (v := .int kd (Int.tmod a b)) (by rw [hop]; simp [pev, hx, hy, binV, h0]) w
  rw [this]
  exact ⟨rfl, rfl⟩
end Go.Sw
namespace Go.Sw
theorem GL_extern {d : Bool} {P : Program} {ops : Array Oper} {i : Nat} {Q : Post} {n : Fr} {E : Env} {W0 : World} {H : List Grp} {o : Oper} {ch : List (Nat × Bool)} {c : Call} {fo : Operand} {f : FuncId} {vs : List Value}
    {fn : Func} {v : Value} {e : Array Value → Sem Value}
    (ho : ops[i]? = some o) (hop : o.op = .call c) (hce : c.callee = .value fo) (hfo : evO E ch fo = some (.func (.func f) #[] #[])) (hargs : evL (evO E ch) c.args.toList = some vs)
    (hf : P.funcs[f]? = some fn) (hrt : (fn.name == "runtime.NumGoroutine") = false) (hbody : fn.body.isNone = true) (hn : Extern.findNext fn = none) (he : Extern.find fn = some e)
    (hch : chainOf ops E o.guard = some ch) (hd : dstOk n ch o.dst = true) (hk : chKnown E ch = true)
    (hrun : ∀ w, (e vs.toArray).run P w = .ok v w)
    (k : GL d P ops (i + 1) Q n (Env.put E o.dst ch v) W0 H) : GL d P ops i Q n E W0 H := by
  refine GL_quiet ho hch hd hk (fun r hr hcb w hs => ?_) k
  have hrun' : (execOp r o).run P w = .ok (.value v) w := by
    unfold execOp
    simp only [hop]
    simp only [resolve, hce]
    rw [hr _ _ hfo, arr_map hr hargs]
    simp only [Deferred.ofValue, Sem.run_bind, Sem.run_pure, Result.andThen_ok, invoke]
    have := run_callFunc_extern hf hrt hbody hn he vs.toArray w
    simp only [Array.empty_append, Array.append_empty, this, hrun, Result.andThen_ok]
  rw [hrun']
  exact ⟨rfl, rfl⟩
def noB (s : ByteArray) (c : Int) (k : Nat) : Prop := ∀ j : Nat, j < k → byteAt s j ≠ c
theorem noB_zero {s : ByteArray} {c : Int} : noB s c 0 := fun j h => absurd h (Nat.not_lt_zero j)
theorem noB_succ {s : ByteArray} {c : Int} {k : Nat} (h : noB s c k) (hk : byteAt s k ≠ c) : noB s c (k + 1) := fun j hj => by
  rcases Nat.lt_or_ge j k with h' | h'
  · exact h j h'
  · have : j = k := by omega
    subst this; exact hk
theorem byteAt_get {s : ByteArray} {k : Nat} (h : k < s.size) : byteAt s k = ((s[k]!).toNat : Int) := by
  unfold byteAt
  have e1 : s[k]! = s[k] := getElem!_pos s k h
  have e2 : (s.data.toList)[((k : Nat) : Int).toNat]? = some s[k] := by
    rw [Int.toNat_natCast, List.getElem?_eq_getElem (by simpa using h)]; rfl
  rw [e1, e2]; rfl
def bIdx (s : ByteArray) (c : Int) : Int := firstIdx s c.toNat.toUInt8
theorem bIdx_spec (s : ByteArray) {c : Int} (h0 : 0 ≤ c) (h1 : c < 256) :
    (∃ k : Nat, k < s.size ∧ bIdx s c = k ∧ byteAt s k = c ∧ noB s c k) ∨ (bIdx s c = -1 ∧ noB s c s.size) := by
  have hc : ∀ b : UInt8, (b == c.toNat.toUInt8) = true ↔ ((b.toNat : Nat) : Int) = c := by
    intro b
    rw [beq_iff_eq]
    constructor
    · intro h; rw [h]; simp [Nat.toUInt8]; omega
    · intro h; apply UInt8.toNat_inj.1; simp [Nat.toUInt8]; omega
  unfold bIdx firstIdx
  cases hf : (List.range s.size).find? fun i => s[i]! == c.toNat.toUInt8 with
  | none =>
    right
    refine ⟨rfl, fun j hj he => ?_⟩
    have := List.find?_eq_none.1 hf j (List.mem_range.2 hj)
    rw [hc, ← byteAt_get hj] at this
    exact this he
  | some k =>
    left
    have hk := List.mem_range.1 (List.mem_of_find?_eq_some hf)
    refine ⟨k, hk, rfl, ?_, fun j hj he => ?_⟩
    · have := List.find?_some hf
      rw [byteAt_get hk]; exact (hc _).1 this
    · rw [List.find?_range_eq_some] at hf
      have := hf.2.2 j hj
      rw [byteAt_get (by omega)] at he
      have h2 := (hc s[j]!).2 he
      simp [h2] at this
theorem bIdx_eq {s : ByteArray} {c : Int} {k : Nat} (h0 : 0 ≤ c) (h1 : c < 256) (hk : k < s.size) (hb : byteAt s k = c) (hn : noB s c k) : bIdx s c = k := by
  rcases bIdx_spec s h0 h1 with ⟨j, hj, he, hb', hn'⟩ | ⟨_, hn'⟩
  · rcases Nat.lt_trichotomy j k with h | h | h
    · exact absurd hb' (hn j h)
    · rw [he, h]
    · exact absurd hb (hn' k h)
  · exact absurd hb (hn' k hk)
theorem size_extract (s : ByteArray) (a b : Nat) : (s.extract a b).size = min b s.size - a := by simp
end Go.Sw
namespace Go.Proofs.YtlaoeiaaeifidaaGreat
open Go.Sw Go.Lib
def pbyte (c : Int) : Bool := (97 ≤ c && c ≤ 122) || (65 ≤ c && c ≤ 90) || (48 ≤ c && c ≤ 57) || c == 45 || c == 95 || c == 46
def pall (s : ByteArray) (k : Nat) : Prop := ∀ j : Nat, j < k → pbyte (byteAt s j) = true
def pallB (s : ByteArray) : Bool := (List.range s.size).all fun j => pbyte (byteAt s j)
def partB (s : ByteArray) : Bool := pallB s && !(s.toList == (ByteArray.mk #[]).toList) && decide ((s.size : Int) ≤ 80) && !(s.toList == (ByteArray.mk #[46]).toList) && !(s.toList == (ByteArray.mk #[46, 46]).toList)
theorem pall_zero {s : ByteArray} : pall s 0 := fun j h => absurd h (Nat.not_lt_zero j)
theorem pall_succ {s : ByteArray} {k : Nat} (h : pall s k) (hk : pbyte (byteAt s k) = true) : pall s (k + 1) := fun j hj => by
  rcases Nat.lt_or_ge j k with h' | h'
  · exact h j h'
  · have : j = k := by omega
    subst this; exact hk
theorem pallB_true {s : ByteArray} {k : Nat} (h : pall s k) (hk : s.size ≤ k) : pallB s = true := by
  unfold pallB
  rw [List.all_eq_true]
  intro j hj
  exact h j (by have := List.mem_range.1 hj; omega)
theorem pallB_false {s : ByteArray} {k : Nat} (hk : k < s.size) (hb : pbyte (byteAt s k) = false) : pallB s = false := by
  unfold pallB
  rw [← Bool.not_eq_true, List.all_eq_true]
  intro h
  rw [h k (List.mem_range.2 hk)] at hb
  simp at hb
def slash (s : ByteArray) : Int := bIdx s 47
def rightB (s : ByteArray) : Bool := if slash s < 0 then partB s else partB (s.extract 0 (slash s).toNat) && partB (s.extract ((slash s).toNat + 1) s.size)
theorem slash_facts {s : ByteArray} (h : ¬ slash s < 0) : (slash s).toNat < s.size ∧ (s.extract 0 (slash s).toNat).size = (slash s).toNat ∧ (s.extract ((slash s).toNat + 1) s.size).size + ((slash s).toNat + 1) = s.size := by
  rcases bIdx_spec s (c := 47) (by omega) (by omega) with ⟨k, hk, he, _, _⟩ | ⟨he, _⟩
  · have : slash s = k := he
    rw [this]
    simp only [ByteArray.size_extract, Int.toNat_natCast]
    omega
  · exact absurd (show slash s < 0 by rw [slash, he]; omega) h
theorem three_idx {c : Int} (h0 : 0 ≤ c) (h1 : c < 256) : decide (bIdx (ByteArray.mk #[45, 95, 46]) c ≥ 0) = (c == 45 || c == 95 || c == 46) := by
  rcases bIdx_spec (ByteArray.mk #[45, 95, 46]) h0 h1 with ⟨k, hk, he, hb, _⟩ | ⟨he, hn⟩
  · rw [he]
    have hk3 : k < 3 := hk
    have : k = 0 ∨ k = 1 ∨ k = 2 := by omega
    rcases this with rfl | rfl | rfl
    · have : c = 45 := hb.symm
      subst this; rfl
    · have : c = 95 := hb.symm
      subst this; rfl
    · have : c = 46 := hb.symm
      subst this; rfl
  · rw [he]
    have h45 : ¬ c = 45 := fun h => hn 0 (by decide) h.symm
    have h95 : ¬ c = 95 := fun h => hn 1 (by decide) h.symm
    have h46 : ¬ c = 46 := fun h => hn 2 (by decide) h.symm
    simp [h45, h95, h46]
theorem len_toList (s : ByteArray) : s.toList.length = s.size := by rw [toList_data, Array.length_toList]; rfl
theorem nil_toList {s : ByteArray} : s.toList = [] ↔ s.size = 0 := by rw [← len_toList, List.length_eq_zero_iff]
theorem part_no {s : ByteArray} (h : ((((decide ((s.size : Int) < 1)) || (decide ((s.size : Int) > 80))) || (s.toList == (ByteArray.mk #[46]).toList)) || (s.toList == (ByteArray.mk #[46, 46]).toList)) = true) : partB s = false := by
  have e := nil_toList (s := s)
  simp only [partB, Bool.or_eq_true, decide_eq_true_eq, beq_iff_eq] at h ⊢
  rcases h with ((h | h) | h) | h
  · have : s.toList = [] := e.2 (by omega)
    simp [this]
  · have : ¬ (s.size : Int) ≤ 80 := by omega
    simp [this]
  · simp [h]
  · simp [h]
theorem part_yes {s : ByteArray} (h : ((((decide ((s.size : Int) < 1)) || (decide ((s.size : Int) > 80))) || (s.toList == (ByteArray.mk #[46]).toList)) || (s.toList == (ByteArray.mk #[46, 46]).toList)) = false) : partB s = pallB s := by
  have e := nil_toList (s := s)
  simp only [Bool.or_eq_false_iff, decide_eq_false_iff_not] at h
  obtain ⟨⟨⟨h1, h2⟩, h3⟩, h4⟩ := h
  have h5 : (s.toList == (ByteArray.mk #[]).toList) = false := by
    rw [beq_eq_false_iff_ne]; intro h; have := e.1 (by simpa using h); omega
  have h6 : decide ((s.size : Int) ≤ 80) = true := by simp; omega
  simp only [partB, h3, h4, h5, h6, Bool.not_false, Bool.and_true]
theorem slash_or (s : ByteArray) : slash s < 0 ∨ (slash s).toNat < s.size := by
  rcases Int.lt_or_le (slash s) 0 with h | h
  · exact .inl h
  · exact .inr (slash_facts (by omega)).1
theorem slash_one {s : ByteArray} (h : (ByteArray.mk #[47]).toList = s.toList) : slash s = 0 := by
  have : s = ByteArray.mk #[47] := by
    rw [toList_data, toList_data] at h
    cases s with | mk d => cases d with | mk l => simp at h; rw [← h]
  rw [this]; rfl
def dirB (s : ByteArray) : ByteArray := if slash s < 0 then ByteArray.mk #[] else s.extract 0 (slash s).toNat
theorem sliteIndexByte (s : ByteArray) (c : Int) (W0 : World) (H : List Grp) : Tri Tryz.prog 117 #[.string s, .int .u8 c] W0 H (fun v H' => v = .int .i64 (bIdx s c) ∧ H' = H) := by
 refine Tri_of (args := [.string s, .int .u8 c]) (n := 8) Tryz.func117 rfl rfl (Nat.le_of_ble_eq_true rfl) ?_
 refine G_seq ?_
 refine G_pure (E':=[⟨0,[],.string s⟩,⟨1,[],.int .u8 c⟩]) [0] [0,1] rfl kr ?_
 refine N_then ?_
 refine G_seq ?_
 refine G_region ?_
 refine GL_p [0,0] kr (j:=2) rfl ?_
 refine GL_extern (i:=2) (ch:=[]) (f:=135) (vs:=[.string s,.int .u8 c]) (v:=.int .i64 (bIdx s c)) (e:=Extern.BytealgIndexByte.indexByte) rfl rfl rfl kr kr Tryz.func135 kr rfl kr kr kr kr kr (fun w=>run_indexByte_string s c w) ?_
 refine GL_fin (E':=[⟨4,[],.int .i64 (bIdx s c)⟩]) [0] [4] rfl kr ?_
 refine N_then ?_
 refine G_ret ?_
 refine N_ret [.tmp 4] [.int .i64 (bIdx s c)] rfl kr rfl ?_
 exact ⟨rfl, rfl⟩
theorem stringsIndexByte (s : ByteArray) (c : Int) (W0 : World) (H : List Grp) : Tri Tryz.prog 98 #[.string s, .int .u8 c] W0 H (fun v H' => v = .int .i64 (bIdx s c) ∧ H' = H) := by
 refine Tri_of (args := [.string s, .int .u8 c]) (n := 8) Tryz.func98 rfl rfl (Nat.le_of_ble_eq_true rfl) ?_
 refine G_seq ?_
 refine G_pure (E':=[⟨0,[],.string s⟩,⟨1,[],.int .u8 c⟩]) [0] [0,1] rfl kr ?_
 refine N_then ?_
 refine G_seq ?_
 refine G_region ?_
 refine GL_p [0,0] kr (j:=2) rfl ?_
 refine GL_callQ (i:=2) (ch:=[]) (f:=117) (fst:=#[]) (caps:=#[]) (vs:=[.string s,.int .u8 c]) (v:=.int .i64 (bIdx s c)) rfl rfl rfl kr kr Tryz.func117 rfl rfl kr kr kr (fun _=>sliteIndexByte _ _ _ _) ?_
 refine GL_fin (E':=[⟨4,[],.int .i64 (bIdx s c)⟩]) [0] [4] rfl kr ?_
 refine N_then ?_
 refine G_ret ?_
 refine N_ret [.tmp 4] [.int .i64 (bIdx s c)] rfl kr rfl ?_
 exact ⟨rfl, rfl⟩
theorem refPart (s : ByteArray) (hs : s.size ≤ 9223372036854775807) (W0 : World) (H : List Grp) : Tri Tryz.prog 11 #[.string s] W0 H (fun v H' => v = .bool (partB s) ∧ H' = H) := by
 refine Tri_of (args := [.string s]) (n := 64) Tryz.func11 rfl rfl (Nat.le_of_ble_eq_true rfl) ?_
 refine G_seq ?_
 refine G_pure (E':=[⟨0,[],.string s⟩]) [0] [0] rfl kr ?_
 refine N_then ?_
 refine G_seq ?_
 refine G_seq ?_
 refine G_pure (E':=[⟨0,[],.string s⟩,⟨3,[],.int .i64 0⟩]) [0] [0,3] rfl kr ?_
 refine N_then ?_
 refine G_block ?_
 refine G_loop (EI:=(fun ξ : Nat=>[⟨0,[],.string s⟩,⟨3,[],.int .i64 ((ξ : Nat) : Int)⟩])) (HI:=(fun ξ : Nat=>H)) (Φ:=(fun ξ : Nat=>(ξ ≤ s.size)∧(pall s ξ))) (μ:=(fun ξ : Nat=>s.size - ξ)) (s0:=(0)) [0,3] kr rfl ⟨(by omega),pall_zero⟩ ?_
 rintro k ⟨hk, hp⟩
 refine G_seq ?_
 refine G_seq ?_
 refine G_pure (E':=[⟨0,[],.string s⟩,⟨3,[],.int .i64 ((k : Nat) : Int)⟩,⟨8,[],.bool (decide (((k : Nat) : Int) < (s.size : Int)))⟩]) [0,0,0,0] [0,3,8] rfl kr ?_
 refine N_then ?_
 refine G_cond (b:=decide (((k : Nat) : Int) < (s.size : Int))) kr (fun hc1=>?_) (fun hc1=>?_)
 ·
  simp at hc1
  refine G_skip ?_
  refine N_then ?_
  refine G_seq ?_
  refine G_block ?_
  refine G_seq ?_
  refine G_region ?_
  refine GL_p [0,0] kr (j:=2) rfl ?_
  refine GL_index (i:=2) (ch:=[]) (s:=s) (kd:=.i64) (j:=((k : Nat) : Int)) rfl rfl kr kr kr kr kr kr (fun _=>by omega) ?_
  have hb2 := byteAt_rng s ((k : Nat) : Int)
  refine GL_fin (E':=[⟨0,[],.string s⟩,⟨3,[],.int .i64 ((k : Nat) : Int)⟩,⟨4,[],.int .u8 (byteAt s ((k : Nat) : Int))⟩]) [0] [0,3,4] rfl kr ?_
  refine N_then ?_
  refine G_seq ?_
  refine G_pure (E':=[⟨0,[],.string s⟩,⟨3,[],.int .i64 ((k : Nat) : Int)⟩,⟨48,[],.bool (!(((((((decide ((byteAt s ((k : Nat) : Int)) ≥ 97))&&(decide ((byteAt s ((k : Nat) : Int)) ≤ 122)))||((decide ((byteAt s ((k : Nat) : Int)) ≥ 65))&&(decide ((byteAt s ((k : Nat) : Int)) ≤ 90))))||((decide ((byteAt s ((k : Nat) : Int)) ≥ 48))&&(decide ((byteAt s ((k : Nat) : Int)) ≤ 57))))||((byteAt s ((k : Nat) : Int)) == 45))||((byteAt s ((k : Nat) : Int)) == 95))||((byteAt s ((k : Nat) : Int)) == 46)))⟩]) [0,0,0,0,0,6,0,0,0,0,0,0,6,5,0,0,0,0,0,0,6,5,0,0,0,5,0,0,0,5,0,0,0,5,0] [0,3,48] rfl kr ?_
  refine N_then ?_
  refine G_cond (b:=!(((((((decide ((byteAt s ((k : Nat) : Int)) ≥ 97))&&(decide ((byteAt s ((k : Nat) : Int)) ≤ 122)))||((decide ((byteAt s ((k : Nat) : Int)) ≥ 65))&&(decide ((byteAt s ((k : Nat) : Int)) ≤ 90))))||((decide ((byteAt s ((k : Nat) : Int)) ≥ 48))&&(decide ((byteAt s ((k : Nat) : Int)) ≤ 57))))||((byteAt s ((k : Nat) : Int)) == 45))||((byteAt s ((k : Nat) : Int)) == 95))||((byteAt s ((k : Nat) : Int)) == 46))) kr (fun hc3=>?_) (fun hc3=>?_)
  ·
   have hpb : pbyte (byteAt s k) = false := by (simp only [pbyte]; revert hc3; simp; omega)
   refine G_seq ?_
   refine G_pure (E':=[⟨2,[],.bool false⟩]) [0] [2] rfl kr ?_
   refine N_then ?_
   refine G_ret ?_
   refine N_block_ret ?_
   refine N_then_ret ?_
   refine N_then_ret ?_
   refine N_block_ret ?_
   refine N_then_ret ?_
   refine N_ret [.tmp 2] [.bool false] rfl kr rfl ?_
   exact ⟨by simp [packV, partB, pallB_false hc1 hpb], rfl⟩
  ·
   have hpb : pbyte (byteAt s k) = true := by (simp only [pbyte]; revert hc3; simp; omega)
   refine G_skip ?_
   refine N_block ?_
   refine N_then ?_
   refine G_region ?_
   refine GL_p [0,0] kr (j:=2) rfl ?_
   refine GL_wi 10 (((k : Nat) : Int)+1) (by omega) (by omega) kr ?_
   refine GL_fin (E':=[⟨0,[],.string s⟩,⟨3,[],.int .i64 (((k : Nat) : Int)+1)⟩]) [0] [0,3] rfl kr ?_
   refine N_round (s':=(k+1)) [0,3] kr rfl ⟨(by omega),(pall_succ hp hpb)⟩ (by omega)
 ·
  simp at hc1
  refine G_exit ?_
  refine N_then_exit ?_
  refine N_then_exit ?_
  refine N_block_exit ?_
  refine N_then ?_
  refine G_seq ?_
  refine G_pure (E':=[⟨2,[],.bool ((((!(s.toList == (ByteArray.mk #[]).toList))&&(decide ((s.size : Int) ≤ 80)))&&(!(s.toList == (ByteArray.mk #[46]).toList)))&&(!(s.toList == (ByteArray.mk #[46,46]).toList)))⟩]) [0,0,0,0,0,0,6,0,0,0,6,0,0,0,6,0] [2] rfl kr ?_
  refine N_then ?_
  refine G_ret ?_
  refine N_ret [.tmp 2] [.bool ((((!(s.toList == (ByteArray.mk #[]).toList))&&(decide ((s.size : Int) ≤ 80)))&&(!(s.toList == (ByteArray.mk #[46]).toList)))&&(!(s.toList == (ByteArray.mk #[46,46]).toList)))] rfl kr rfl ?_
  exact ⟨by simp [packV, partB, pallB_true hp hc1], rfl⟩
theorem sliteIndex (s : ByteArray) (W0 : World) (H : List Grp) : Tri Tryz.prog 99 #[.string s, .string (ByteArray.mk #[47])] W0 H (fun v H' => v = .int .i64 (slash s) ∧ H' = H) := by
 refine Tri_of (args := [.string s, .string (ByteArray.mk #[47])]) (n := 143) Tryz.func99 rfl rfl (Nat.le_of_ble_eq_true rfl) ?_
 refine G_seq ?_
 refine G_pure (E':=[⟨0,[],.string s⟩,⟨1,[],.string (ByteArray.mk #[47])⟩]) [0] [0,1] rfl kr ?_
 refine N_then ?_
 refine G_seq ?_
 refine G_pure (E':=[⟨0,[],.string s⟩,⟨1,[],.string (ByteArray.mk #[47])⟩,⟨5,[],.int .i64 1⟩]) [0,0,0] [0,1,5] rfl kr ?_
 refine N_then ?_
 refine G_seq ?_
 refine G_block ?_
 refine G_seq ?_
 refine G_pure (E':=[⟨0,[],.string s⟩,⟨1,[],.string (ByteArray.mk #[47])⟩,⟨5,[],.int .i64 1⟩,⟨16,[],.bool ((ByteArray.mk #[47]).toList == s.toList)⟩]) [0,0,0,0,0,0,3,0] [0,1,5,16] rfl kr ?_
 refine N_then ?_
 refine G_cond (b:=(ByteArray.mk #[47]).toList == s.toList) kr (fun hc1=>?_) (fun hc1=>?_)
 ·
  have hc1 := slash_one (by simpa using hc1)
  refine G_seq ?_
  refine G_pure (E':=[⟨4,[],.int .i64 0⟩]) [0] [4] rfl kr ?_
  refine N_then ?_
  refine G_ret ?_
  refine N_block_ret ?_
  refine N_then_ret ?_
  refine N_ret [.tmp 4] [.int .i64 0] rfl kr rfl ?_
  exact ⟨by rw [hc1]; rfl, rfl⟩
 ·
  simp at hc1
  refine G_seq ?_
  refine G_pure (E':=[⟨0,[],.string s⟩,⟨1,[],.string (ByteArray.mk #[47])⟩,⟨5,[],.int .i64 1⟩,⟨24,[],.bool true⟩]) [0,0,0] [0,1,5,24] rfl kr ?_
  refine N_then ?_
  refine G_condt kr ?_
  refine G_seq ?_
  refine G_region ?_
  refine GL_p [0,0] kr (j:=2) rfl ?_
  refine GL_index (i:=2) (ch:=[]) (s:=(ByteArray.mk #[47])) (kd:=.i64) (j:=0) rfl rfl kr kr kr kr kr kr (fun _=>by decide) ?_
  refine GL_callQ (i:=3) (ch:=[]) (f:=117) (fst:=#[]) (caps:=#[]) (vs:=[.string s,.int .u8 47]) (v:=.int .i64 (bIdx s 47)) rfl rfl rfl kr kr Tryz.func117 rfl rfl kr kr kr (fun _=>sliteIndexByte _ _ _ _) ?_
  refine GL_fin (E':=[⟨4,[],.int .i64 (bIdx s 47)⟩]) [0] [4] rfl kr ?_
  refine N_then ?_
  refine G_ret ?_
  refine N_block_ret ?_
  refine N_then_ret ?_
  refine N_ret [.tmp 4] [.int .i64 (bIdx s 47)] rfl kr rfl ?_
  exact ⟨rfl, rfl⟩
theorem sliteCut (s : ByteArray) (hs : s.size ≤ 9223372036854775807) (W0 : World) (H : List Grp) : Tri Tryz.prog 78 #[.string s, .string (ByteArray.mk #[47])] W0 H (fun v H' => v = .tuple (if slash s < 0 then #[.string s, .string (ByteArray.mk #[]), .bool false] else #[.string (s.extract 0 (slash s).toNat), .string (s.extract ((slash s).toNat + 1) s.size), .bool true]) ∧ H' = H) := by
 have hsl := slash_or s
 refine Tri_of (args := [.string s, .string (ByteArray.mk #[47])]) (n := 23) Tryz.func78 rfl rfl (Nat.le_of_ble_eq_true rfl) ?_
 refine G_seq ?_
 refine G_pure (E':=[⟨0,[],.string s⟩,⟨1,[],.string (ByteArray.mk #[47])⟩]) [0,0,0] [0,1] rfl kr ?_
 refine N_then ?_
 refine G_seq ?_
 refine G_seq ?_
 refine G_region ?_
 refine GL_p [0,0] kr (j:=2) rfl ?_
 refine GL_callQ (i:=2) (ch:=[]) (f:=99) (fst:=#[]) (caps:=#[]) (vs:=[.string s,.string (ByteArray.mk #[47])]) (v:=.int .i64 (slash s)) rfl rfl rfl kr kr Tryz.func99 rfl rfl kr kr kr (fun _=>sliteIndex _ _ _) ?_
 refine GL_fin (E':=[⟨0,[],.string s⟩,⟨1,[],.string (ByteArray.mk #[47])⟩,⟨7,[],.int .i64 (slash s)⟩]) [0] [0,1,7] rfl kr ?_
 refine N_then ?_
 refine G_seq ?_
 refine G_pure (E':=[⟨0,[],.string s⟩,⟨1,[],.string (ByteArray.mk #[47])⟩,⟨7,[],.int .i64 (slash s)⟩,⟨12,[],.bool (decide ((slash s) ≥ 0))⟩]) [0,0] [0,1,7,12] rfl kr ?_
 refine N_then ?_
 refine G_cond (b:=decide ((slash s) ≥ 0)) kr (fun hc1=>?_) (fun hc1=>?_)
 ·
  simp at hc1
  refine G_seq ?_
  refine G_regionD kr kr ?_
  refine GL_p [0,0] kr (j:=2) rfl ?_
  refine GL_sliceS (i:=2) (ch:=[]) (s:=s) (vl:=none) (vh:=(some (.int .i64 (slash s)))) (l:=0) (h:=slash s) rfl rfl kr kr kr kr kr kr kr kr kr (fun _=>by omega) ?_
  refine GL_p [0,0,0,0,0] kr (j:=8) rfl ?_
  refine GL_wi 20 ((slash s)+1) (by omega) (by omega) kr ?_
  refine GL_sliceS (i:=8) (ch:=[]) (s:=s) (vl:=(some (.int .i64 ((slash s)+1)))) (vh:=none) (l:=(slash s)+1) (h:=(s.size : Int)) rfl rfl kr kr kr kr kr kr kr kr kr (fun _=>by omega) ?_
  refine GL_fin (E':=[⟨4,[],.string (s.extract 0 (Int.toNat (slash s)))⟩,⟨5,[],.string (s.extract (Int.toNat ((slash s)+1)) s.size)⟩,⟨6,[],.bool true⟩]) [0,0,0] [4,5,6] rfl kr ?_
  refine N_then ?_
  refine G_ret ?_
  refine N_then_ret ?_
  refine N_ret [.tmp 4,.tmp 5,.tmp 6] [.string (s.extract 0 (Int.toNat (slash s))),.string (s.extract (Int.toNat ((slash s)+1)) s.size),.bool true] rfl kr rfl ?_
  exact ⟨by rw [if_neg (by omega), show (slash s + 1).toNat = (slash s).toNat + 1 from by omega]; rfl, rfl⟩
 ·
  simp at hc1
  refine G_skip ?_
  refine N_then ?_
  refine G_seq ?_
  refine G_pure (E':=[⟨4,[],.string s⟩,⟨5,[],.string (ByteArray.mk #[])⟩,⟨6,[],.bool false⟩]) [0,0,0,0] [4,5,6] rfl kr ?_
  refine N_then ?_
  refine G_ret ?_
  refine N_ret [.tmp 4,.tmp 5,.tmp 6] [.string s,.string (ByteArray.mk #[]),.bool false] rfl kr rfl ?_
  exact ⟨by rw [if_pos (by omega)]; rfl, rfl⟩
theorem stringsCut (s : ByteArray) (hs : s.size ≤ 9223372036854775807) (W0 : World) (H : List Grp) : Tri Tryz.prog 41 #[.string s, .string (ByteArray.mk #[47])] W0 H (fun v H' => v = .tuple (if slash s < 0 then #[.string s, .string (ByteArray.mk #[]), .bool false] else #[.string (s.extract 0 (slash s).toNat), .string (s.extract ((slash s).toNat + 1) s.size), .bool true]) ∧ H' = H) := by
 refine Tri_of (args := [.string s, .string (ByteArray.mk #[47])]) (n := 13) Tryz.func41 rfl rfl (Nat.le_of_ble_eq_true rfl) ?_
 refine G_seq ?_
 refine G_pure (E':=[⟨0,[],.string s⟩,⟨1,[],.string (ByteArray.mk #[47])⟩]) [0,0,0] [0,1] rfl kr ?_
 refine N_then ?_
 refine G_seq ?_
 refine G_region ?_
 refine GL_p [0,0] kr (j:=2) rfl ?_
 refine GL_call (i:=2) (ch:=[]) (f:=78) (fst:=#[]) (caps:=#[]) (vs:=[.string s,.string (ByteArray.mk #[47])]) rfl rfl rfl kr kr Tryz.func78 rfl rfl kr kr (chSure_of kr) (sliteCut _ hs _ _) ?_
 rintro v H' ⟨rfl, rfl⟩
 by_cases hs1 : slash s < 0
 ·
  rw [if_pos hs1]
  refine GL_fin (E':=[⟨4,[],.string s⟩,⟨5,[],.string (ByteArray.mk #[])⟩,⟨6,[],.bool false⟩]) [0,0,0,0,0,0] [4,5,6] rfl kr ?_
  refine N_then ?_
  refine G_ret ?_
  refine N_ret [.tmp 4,.tmp 5,.tmp 6] [.string s,.string (ByteArray.mk #[]),.bool false] rfl kr rfl ?_
  exact ⟨rfl, rfl⟩
 ·
  rw [if_neg hs1]
  obtain ⟨hs1a, hs1b, hs1c⟩ := slash_facts hs1
  refine GL_fin (E':=[⟨4,[],.string (s.extract 0 (slash s).toNat)⟩,⟨5,[],.string (s.extract ((slash s).toNat+1) s.size)⟩,⟨6,[],.bool true⟩]) [0,0,0,0,0,0] [4,5,6] rfl kr ?_
  refine N_then ?_
  refine G_ret ?_
  refine N_ret [.tmp 4,.tmp 5,.tmp 6] [.string (s.extract 0 (slash s).toNat),.string (s.extract ((slash s).toNat+1) s.size),.bool true] rfl kr rfl ?_
  exact ⟨rfl, rfl⟩
theorem vfsPart (s : ByteArray) (hs : s.size ≤ 9223372036854775807) (W0 : World) (H : List Grp) : Tri Tryz.prog 76 #[.string s] W0 H (fun v H' => v = .bool (partB s) ∧ H' = H) := by
 refine Tri_of (args := [.string s]) (n := 58) Tryz.func76 rfl rfl (Nat.le_of_ble_eq_true rfl) ?_
 refine G_seq ?_
 refine G_pure (E':=[⟨0,[],.string s⟩]) [0] [0] rfl kr ?_
 refine N_then ?_
 refine G_seq ?_
 refine G_seq ?_
 refine G_pure (E':=[⟨0,[],.string s⟩,⟨20,[],.bool ((((decide ((s.size : Int) < 1))||(decide ((s.size : Int) > 80)))||(s.toList == (ByteArray.mk #[46]).toList))||(s.toList == (ByteArray.mk #[46,46]).toList))⟩]) [0,0,0,0,0,0,0,5,0,0,0,5,0,0,0,5] [0,20] rfl kr ?_
 refine N_then ?_
 refine G_cond (b:=(((decide ((s.size : Int) < 1))||(decide ((s.size : Int) > 80)))||(s.toList == (ByteArray.mk #[46]).toList))||(s.toList == (ByteArray.mk #[46,46]).toList)) kr (fun hc1=>?_) (fun hc1=>?_)
 ·
  have hf := part_no hc1
  refine G_seq ?_
  refine G_pure (E':=[⟨2,[],.bool false⟩]) [0] [2] rfl kr ?_
  refine N_then ?_
  refine G_ret ?_
  refine N_then_ret ?_
  refine N_ret [.tmp 2] [.bool false] rfl kr rfl ?_
  exact ⟨by rw [hf]; rfl, rfl⟩
 ·
  have hf := part_yes hc1
  have hsz : s.size ≤ 80 := by (revert hc1; simp; omega)
  refine G_skip ?_
  refine N_then ?_
  refine G_seq ?_
  refine G_seq ?_
  refine G_pure (E':=[⟨0,[],.string s⟩,⟨22,[],.int .i64 (s.size : Int)⟩,⟨23,[],.int .i64 0⟩]) [0,0,0] [0,22,23] rfl kr ?_
  refine N_then ?_
  refine G_block ?_
  refine G_loop (EI:=(fun ξ : Nat=>[⟨0,[],.string s⟩,⟨22,[],.int .i64 (s.size : Int)⟩,⟨23,[],.int .i64 ((ξ : Nat) : Int)⟩])) (HI:=(fun ξ : Nat=>H)) (Φ:=(fun ξ : Nat=>(ξ ≤ s.size)∧(pall s ξ))) (μ:=(fun ξ : Nat=>s.size - ξ)) (s0:=(0)) [0,22,23] kr rfl ⟨(by omega),pall_zero⟩ ?_
  rintro k ⟨hk, hp⟩
  refine G_seq ?_
  refine G_pure (E':=[⟨0,[],.string s⟩,⟨22,[],.int .i64 (s.size : Int)⟩,⟨23,[],.int .i64 ((k : Nat) : Int)⟩,⟨24,[],.bool (decide (((k : Nat) : Int) < (s.size : Int)))⟩]) [0] [0,22,23,24] rfl kr ?_
  refine N_then ?_
  refine G_seq ?_
  refine G_cond (b:=decide (((k : Nat) : Int) < (s.size : Int))) kr (fun hc2=>?_) (fun hc2=>?_)
  ·
   simp at hc2
   refine G_skip ?_
   refine N_then ?_
   refine G_seq ?_
   refine G_block ?_
   refine G_seq ?_
   refine G_pure (E':=[⟨0,[],.string s⟩,⟨3,[],.int .i64 ((k : Nat) : Int)⟩,⟨22,[],.int .i64 (s.size : Int)⟩,⟨23,[],.int .i64 ((k : Nat) : Int)⟩]) [0,0] [0,3,22,23] rfl kr ?_
   refine N_then ?_
   refine G_seq ?_
   refine G_region ?_
   refine GL_p [0,0] kr (j:=2) rfl ?_
   refine GL_index (i:=2) (ch:=[]) (s:=s) (kd:=.i64) (j:=((k : Nat) : Int)) rfl rfl kr kr kr kr kr kr (fun _=>by omega) ?_
   have hb3 := byteAt_rng s ((k : Nat) : Int)
   refine GL_fin (E':=[⟨0,[],.string s⟩,⟨4,[],.int .u8 (byteAt s ((k : Nat) : Int))⟩,⟨22,[],.int .i64 (s.size : Int)⟩,⟨23,[],.int .i64 ((k : Nat) : Int)⟩]) [0] [0,4,22,23] rfl kr ?_
   refine N_then ?_
   refine G_seq ?_
   refine G_region ?_
   refine GL_p [0,0,0,0,0,6,0,0,0,0,0,0,6,5,0,0,0,0,0,0,6,5,0,0] kr (j:=24) rfl ?_
   refine GL_callQ (i:=24) (ch:=[(51,false)]) (f:=98) (fst:=#[]) (caps:=#[]) (vs:=[.string (ByteArray.mk #[45,95,46]),.int .u8 (byteAt s ((k : Nat) : Int))]) (v:=.int .i64 (bIdx (ByteArray.mk #[45,95,46]) (byteAt s ((k : Nat) : Int)))) rfl rfl rfl kr kr Tryz.func98 rfl rfl kr kr kr (fun hc=>stringsIndexByte _ _ _ _) ?_
   refine GL_fin (E':=[⟨0,[],.string s⟩,⟨22,[],.int .i64 (s.size : Int)⟩,⟨23,[],.int .i64 ((k : Nat) : Int)⟩,⟨56,[],.bool (!(((((decide ((byteAt s ((k : Nat) : Int)) ≥ 97))&&(decide ((byteAt s ((k : Nat) : Int)) ≤ 122)))||((decide ((byteAt s ((k : Nat) : Int)) ≥ 65))&&(decide ((byteAt s ((k : Nat) : Int)) ≤ 90))))||((decide ((byteAt s ((k : Nat) : Int)) ≥ 48))&&(decide ((byteAt s ((k : Nat) : Int)) ≤ 57))))||(decide ((bIdx (ByteArray.mk #[45,95,46]) (byteAt s ((k : Nat) : Int))) ≥ 0))))⟩]) [0,5,0] [0,22,23,56] rfl kr ?_
   refine N_then ?_
   refine G_cond (b:=!(((((decide ((byteAt s ((k : Nat) : Int)) ≥ 97))&&(decide ((byteAt s ((k : Nat) : Int)) ≤ 122)))||((decide ((byteAt s ((k : Nat) : Int)) ≥ 65))&&(decide ((byteAt s ((k : Nat) : Int)) ≤ 90))))||((decide ((byteAt s ((k : Nat) : Int)) ≥ 48))&&(decide ((byteAt s ((k : Nat) : Int)) ≤ 57))))||(decide ((bIdx (ByteArray.mk #[45,95,46]) (byteAt s ((k : Nat) : Int))) ≥ 0)))) kr (fun hc4=>?_) (fun hc4=>?_)
   ·
    rw [three_idx hb3.1 hb3.2] at hc4
    have hpb : pbyte (byteAt s k) = false := by (simp only [pbyte]; revert hc4; simp; omega)
    refine G_seq ?_
    refine G_pure (E':=[⟨2,[],.bool false⟩]) [0] [2] rfl kr ?_
    refine N_then ?_
    refine G_ret ?_
    refine N_block_ret ?_
    refine N_then_ret ?_
    refine N_then_ret ?_
    refine N_block_ret ?_
    refine N_then_ret ?_
    refine N_ret [.tmp 2] [.bool false] rfl kr rfl ?_
    exact ⟨by simp [packV, hf, pallB_false hc2 hpb], rfl⟩
   ·
    rw [three_idx hb3.1 hb3.2] at hc4
    have hpb : pbyte (byteAt s k) = true := by (simp only [pbyte]; revert hc4; simp; omega)
    refine G_skip ?_
    refine N_block ?_
    refine N_then ?_
    refine G_region ?_
    refine GL_p [0] kr (j:=1) rfl ?_
    refine GL_wi 57 (((k : Nat) : Int)+1) (by omega) (by omega) kr ?_
    refine GL_fin (E':=[⟨0,[],.string s⟩,⟨22,[],.int .i64 (s.size : Int)⟩,⟨23,[],.int .i64 (((k : Nat) : Int)+1)⟩]) [0] [0,22,23] rfl kr ?_
    refine N_round (s':=(k+1)) [0,22,23] kr rfl ⟨(by omega),(pall_succ hp hpb)⟩ (by omega)
  ·
   simp at hc2
   refine G_exit ?_
   refine N_then_exit ?_
   refine N_then_exit ?_
   refine N_block_exit ?_
   refine N_then ?_
   refine G_seq ?_
   refine G_pure (E':=[⟨2,[],.bool true⟩]) [0] [2] rfl kr ?_
   refine N_then ?_
   refine G_ret ?_
   refine N_ret [.tmp 2] [.bool true] rfl kr rfl ?_
   exact ⟨by simp [packV, hf, pallB_true hp hc2], rfl⟩
theorem vfsRight (p : ByteArray) (hp : p.size ≤ 9223372036854775807) (W0 : World) (H : List Grp) : Tri Tryz.prog 34 #[.string p] W0 H (fun v H' => v = .bool (rightB p) ∧ H' = H) := by
 refine Tri_of (args := [.string p]) (n := 22) Tryz.func34 rfl rfl (Nat.le_of_ble_eq_true rfl) ?_
 refine G_seq ?_
 refine G_pure (E':=[⟨0,[],.string p⟩]) [0] [0] rfl kr ?_
 refine N_then ?_
 refine G_seq ?_
 refine G_region ?_
 refine GL_p [0] kr (j:=1) rfl ?_
 refine GL_call (i:=1) (ch:=[]) (f:=41) (fst:=#[]) (caps:=#[]) (vs:=[.string p,.string (ByteArray.mk #[47])]) rfl rfl rfl kr kr Tryz.func41 rfl rfl kr kr (chSure_of kr) (stringsCut _ hp _ _) ?_
 rintro v H' ⟨rfl, rfl⟩
 by_cases hs1 : slash p < 0
 ·
  rw [if_pos hs1]
  refine GL_fin (E':=[⟨3,[],.string p⟩,⟨4,[],.string (ByteArray.mk #[])⟩,⟨5,[],.bool false⟩]) [0,0,0,0,0,0,0] [3,4,5] rfl kr ?_
  refine N_then ?_
  refine G_seq ?_
  refine G_region ?_
  refine GL_p [0] kr (j:=1) rfl ?_
  refine GL_callQ (i:=1) (ch:=[]) (f:=76) (fst:=#[]) (caps:=#[]) (vs:=[.string p]) (v:=.bool (partB p)) rfl rfl rfl kr kr Tryz.func76 rfl rfl kr kr kr (fun _=>vfsPart _ hp _ _) ?_
  refine GL_fin (E':=[⟨2,[],.bool ((partB p)&&true)⟩]) [0,0,0,0,1,1,2,6,0] [2] rfl kr ?_
  refine N_then ?_
  refine G_ret ?_
  refine N_ret [.tmp 2] [.bool ((partB p)&&true)] rfl kr rfl ?_
  exact ⟨by simp [packV, rightB, hs1], rfl⟩
 ·
  rw [if_neg hs1]
  obtain ⟨hs1a, hs1b, hs1c⟩ := slash_facts hs1
  refine GL_fin (E':=[⟨3,[],.string (p.extract 0 (slash p).toNat)⟩,⟨4,[],.string (p.extract ((slash p).toNat+1) p.size)⟩,⟨5,[],.bool true⟩]) [0,0,0,0,0,0,0] [3,4,5] rfl kr ?_
  refine N_then ?_
  refine G_seq ?_
  refine G_region ?_
  refine GL_p [0] kr (j:=1) rfl ?_
  refine GL_callQ (i:=1) (ch:=[]) (f:=76) (fst:=#[]) (caps:=#[]) (vs:=[.string (p.extract 0 (slash p).toNat)]) (v:=.bool (partB (p.extract 0 (slash p).toNat))) rfl rfl rfl kr kr Tryz.func76 rfl rfl kr kr kr (fun _=>vfsPart _ (by simp only [ByteArray.size_extract]; omega) _ _) ?_
  refine GL_p [0,0,0,0,0] kr (j:=7) rfl ?_
  refine GL_callQ (i:=7) (ch:=[(17,false),(14,true)]) (f:=76) (fst:=#[]) (caps:=#[]) (vs:=[.string (p.extract ((slash p).toNat+1) p.size)]) (v:=.bool (partB (p.extract ((slash p).toNat+1) p.size))) rfl rfl rfl kr kr Tryz.func76 rfl rfl kr kr kr (fun hc=>vfsPart _ (by simp only [ByteArray.size_extract]; omega) _ _) ?_
  refine GL_fin (E':=[⟨2,[],.bool ((partB (p.extract 0 (slash p).toNat))&&(partB (p.extract ((slash p).toNat+1) p.size)))⟩]) [3,6,0] [2] rfl kr ?_
  refine N_then ?_
  refine G_ret ?_
  refine N_ret [.tmp 2] [.bool ((partB (p.extract 0 (slash p).toNat))&&(partB (p.extract ((slash p).toNat+1) p.size)))] rfl kr rfl ?_
  exact ⟨by simp [packV, rightB, hs1], rfl⟩
theorem vfsDirOf (p : ByteArray) (hp : p.size ≤ 9223372036854775807) (W0 : World) (H : List Grp) : Tri Tryz.prog 38 #[.string p] W0 H (fun v H' => v = .string (dirB p) ∧ H' = H) := by
 refine Tri_of (args := [.string p]) (n := 15) Tryz.func38 rfl rfl (Nat.le_of_ble_eq_true rfl) ?_
 refine G_seq ?_
 refine G_pure (E':=[⟨0,[],.string p⟩]) [0] [0] rfl kr ?_
 refine N_then ?_
 refine G_seq ?_
 refine G_region ?_
 refine GL_p [0] kr (j:=1) rfl ?_
 refine GL_call (i:=1) (ch:=[]) (f:=41) (fst:=#[]) (caps:=#[]) (vs:=[.string p,.string (ByteArray.mk #[47])]) rfl rfl rfl kr kr Tryz.func41 rfl rfl kr kr (chSure_of kr) (stringsCut _ hp _ _) ?_
 rintro v H' ⟨rfl, rfl⟩
 by_cases hs1 : slash p < 0
 ·
  rw [if_pos hs1]
  refine GL_fin (E':=[⟨3,[],.string p⟩,⟨5,[],.bool false⟩]) [0,0,0,0,0,0,0] [3,5] rfl kr ?_
  refine N_then ?_
  refine G_seq ?_
  refine G_seq ?_
  refine G_pure (E':=[⟨3,[],.string p⟩,⟨13,[],.bool true⟩]) [0,0] [3,13] rfl kr ?_
  refine N_then ?_
  refine G_condt kr ?_
  refine G_seq ?_
  refine G_pure (E':=[⟨2,[],.string (ByteArray.mk #[])⟩]) [0] [2] rfl kr ?_
  refine N_then ?_
  refine G_ret ?_
  refine N_then_ret ?_
  refine N_ret [.tmp 2] [.string (ByteArray.mk #[])] rfl kr rfl ?_
  exact ⟨by simp [packV, dirB, hs1], rfl⟩
 ·
  rw [if_neg hs1]
  obtain ⟨hs1a, hs1b, hs1c⟩ := slash_facts hs1
  refine GL_fin (E':=[⟨3,[],.string (p.extract 0 (slash p).toNat)⟩,⟨5,[],.bool true⟩]) [0,0,0,0,0,0,0] [3,5] rfl kr ?_
  refine N_then ?_
  refine G_seq ?_
  refine G_seq ?_
  refine G_pure (E':=[⟨3,[],.string (p.extract 0 (slash p).toNat)⟩,⟨13,[],.bool false⟩]) [0,0] [3,13] rfl kr ?_
  refine N_then ?_
  refine G_condf kr ?_
  refine G_skip ?_
  refine N_then ?_
  refine G_seq ?_
  refine G_pure (E':=[⟨2,[],.string (p.extract 0 (slash p).toNat)⟩]) [0,0] [2] rfl kr ?_
  refine N_then ?_
  refine G_ret ?_
  refine N_ret [.tmp 2] [.string (p.extract 0 (slash p).toNat)] rfl kr rfl ?_
  exact ⟨by simp [packV, dirB, hs1], rfl⟩
end Go.Proofs.YtlaoeiaaeifidaaGreat
namespace Go.Sw
def u8s (l : List UInt8) : List Value := l.map fun b => Value.int .u8 (b.toNat : Int)
theorem GL_bytesStr {d : Bool} {P : Program} {ops : Array Oper} {i : Nat} {Q : Post} {n : Fr} {E : Env} {W0 : World} {H : List Grp} {o : Oper} {ch : List (Nat × Bool)} {src dst e : TypeId} {x : Operand} {a : Addr} {cap : Nat} {S : Nat → Obj → Prop} (l : List UInt8)
    (ho : ops[i]? = some o) (hop : o.op = .convert src dst x) (hx : evO E ch x = some (.slice (some a) l.length cap)) (hs : P.underlying src = some (.slice e)) (he : P.underlying e = some (.int .u8)) (hds : P.underlying dst = some .string)
    (hch : chainOf ops E o.guard = some ch) (hd : dstOk n ch o.dst = true) (hk : chKnown E ch = true)
    (hrd : Rd S (some a) (u8s l)) (hS : ∀ b o, S b o → At W0 H b o)
    (k : GL d P ops (i + 1) Q n (Env.put E o.dst ch (.string ⟨l.toArray⟩)) W0 H) : GL d P ops i Q n E W0 H := by
  refine GL_quiet ho hch hd hk (fun r hr _ w hsat => ?_) k
  unfold execOp
  simp only [hop]
  rw [hr _ _ hx]
  have := Go.run_convert_bytes_back (P := P) w src dst e a cap l hs he hds (fun j hj => by
    have hv : (u8s l)[j]? = some (.int .u8 (l[j].toNat : Int)) := by simp [u8s, hj]
    obtain ⟨b, off, c, t, fz, h1, h2, h3, h4⟩ := hrd.elt hv
    have ha : a.add j = ⟨b, off + j, none⟩ := h3
    rw [ha]
    exact cell_of (hsat.at (hS _ _ h2)) h4)
  simp only [Sem.run_bind, Sem.run_pure, this, Result.andThen_ok]
  exact ⟨rfl, rfl⟩
theorem GL_indexArr {d : Bool} {P : Program} {ops : Array Oper} {i : Nat} {Q : Post} {n : Fr} {E : Env} {W0 : World} {H : List Grp} {o : Oper} {ch : List (Nat × Bool)} {t e : TypeId} {x ix : Operand} {b off len sz : Nat} {kd : IntKind} {j : Int}
    (ho : ops[i]? = some o) (hop : o.op = .indexAddr t x ix) (hx : evO E ch x = some (.pointer (some ⟨b, off, none⟩))) (hix : evO E ch ix = some (.int kd j)) (hu : P.underlying t = some (.array len e)) (hsz : sizeV P e = some sz)
    (hch : chainOf ops E o.guard = some ch) (hd : dstOk n ch o.dst = true) (hk : chKnown E ch = true)
    (hb : chB E ch → 0 ≤ j ∧ j < len)
    (k : GL d P ops (i + 1) Q n (Env.put E o.dst ch (.pointer (some ⟨b, off + j.toNat * sz, none⟩))) W0 H) : GL d P ops i Q n E W0 H := by
  refine GL_quiet ho hch hd hk (fun r hr hcb w _ => ?_) k
  obtain ⟨h0, h1⟩ := hb hcb
  unfold execOp
  simp only [hop]
  rw [hr _ _ hx, hr _ _ hix]
  simp only [Instr.indexAt, asIntOf, Instr.sureAddr, Sem.run_bind, Sem.run_pure, Result.andThen_ok, run_underlying hu, if_pos (⟨h0, h1⟩ : 0 ≤ j ∧ j < (len : Int)), sizeV_sound hsz, addr_add]
  exact ⟨rfl, rfl⟩
end Go.Sw
namespace Go.Vf
open Go.Sw Go.RowKit
def callS (fails once : Bool) (calls : Int) (right : Bool) : Int × Bool × Int :=
  if right = false then (2, fails, calls) else if fails = false then (0, fails, calls) else if calls > 0 then (0, fails, calls - 1) else (62, !once, calls)
theorem callS_arg {f o r : Bool} {c : Int} (h : (!r) = true) : callS f o c r = (2, f, c) := by unfold callS; cases r <;> simp at h ⊢
theorem callS_ok {f o r : Bool} {c : Int} (h : (!r) = false) (hf : (!f) = true) : callS f o c r = (0, f, c) := by unfold callS; cases r <;> cases f <;> simp at h hf ⊢
theorem callS_dec {f o r : Bool} {c : Int} (h : (!r) = false) (hf : (!f) = false) (hc : decide (c > 0) = true) : callS f o c r = (0, f, c - 1) := by
  have := of_decide_eq_true hc
  unfold callS; cases r <;> cases f <;> simp at h hf ⊢; omega
theorem callS_no {f o r : Bool} {c : Int} (h : (!r) = false) (hf : (!f) = false) (hc : decide (c > 0) = false) : callS f o c r = (62, !o, c) := by
  have := of_decide_eq_false hc
  unfold callS; cases r <;> cases f <;> simp at h hf ⊢; omega
def sumN (f : Value → Nat) (m : SM) : Nat := (m.map fun e => f e.2.1).sum
theorem sumN_snoc (f : Value → Nat) (m : SM) (e : ByteArray × Value × Nat) : sumN f (m ++ [e]) = sumN f m + f e.2.1 := by
  unfold sumN; rw [List.map_append, List.sum_append]; simp
theorem sumN_perm {f : Value → Nat} {a b : SM} (h : a.Perm b) : sumN f a = sumN f b := (h.map _).sum_nat
theorem sumN_part {f : Value → Nat} {a b c : SM} (h : (a ++ b).Perm c) : sumN f a ≤ sumN f c := by
  rw [← sumN_perm h]; unfold sumN; rw [List.map_append, List.sum_append]; omega
theorem u8s_one {l : List UInt8} : ∀ u ∈ u8s l, u.oneCell' = true := by
  intro u hu
  unfold u8s at hu
  obtain ⟨b, _, rfl⟩ := List.mem_map.1 hu
  rfl
theorem u8s_len (l : List UInt8) : (u8s l).length = l.length := by unfold u8s; rw [List.length_map]
theorem own_nil {et : TypeId} {v : Value} {g : Grp} {n : Nat} {cs : List Value} (h : Go.Sw.Own et 1 v g (0 + n) ([] ++ cs)) : Go.Sw.Own et 1 v g n cs := by simpa using h
theorem mapok1 (k : ByteArray) (v : Value) : MapOk [(k, v, 0)] 1 := ⟨by simp, by simp, by simp⟩
theorem hv1 (k : ByteArray) (p : Nat) : ∀ e ∈ [(k, Value.pointer (some ⟨p, 0, none⟩), 0)], e.2.1 = Value.pointer none ∨ ∃ p, e.2.1 = Value.pointer (some ⟨p, 0, none⟩) := by
  intro e he
  rw [List.mem_singleton.1 he]; exact .inr ⟨p, rfl⟩
theorem hv0 (k : ByteArray) : ∀ e ∈ [(k, Value.pointer none, 0)], e.2.1 = Value.pointer none ∨ ∃ p, e.2.1 = Value.pointer (some ⟨p, 0, none⟩) := by
  intro e he
  rw [List.mem_singleton.1 he]; exact .inl rfl
def MadeOf : List SM → SM × Nat → SM × Nat → Prop
  | [], s, s' => s' = s
  | x :: r, s, s' => ∃ dn, dn.Perm x ∧ MadeOf r (foldS s dn) s'
theorem made_snoc {x : SM} {dn : SM} (hd : dn.Perm x) : ∀ {xs : List SM} {s s1 : SM × Nat}, MadeOf xs s s1 → MadeOf (xs ++ [x]) s (foldS s1 dn)
  | [], s, s1, h => by subst h; exact ⟨dn, hd, rfl⟩
  | y :: r, s, s1, ⟨d, h1, h2⟩ => ⟨d, h1, made_snoc hd h2⟩
theorem made_ok : ∀ {xs : List SM} {s s' : SM × Nat}, MadeOf xs s s' → MapOk s.1 s.2 → MapOk s'.1 s'.2
  | [], _, _, h, ho => by subst h; exact ho
  | _ :: _, _, _, ⟨_, _, h⟩, ho => made_ok h (ho.fold _)
theorem take_snoc {α : Type} {l : List α} {k : Nat} {d : α} (h : k < l.length) : l.take (k + 1) = l.take k ++ [l.getD k d] := by
  rw [List.take_add_one, List.getElem?_eq_getElem h, List.getD_eq_getElem?_getD, List.getElem?_eq_getElem h]; rfl
theorem map_at {qs : List Nat} {k : Nat} (h : k < qs.length) : (qs.map fun q => Value.map (some q))[k]? = some (.map (some (qs.getD k 0))) := by
  rw [List.getElem?_map, List.getElem?_eq_getElem h, List.getD_eq_getElem?_getD, List.getElem?_eq_getElem h]; rfl
theorem maps_ne {qs : List Nat} {k : Nat} (h : k < qs.length) : (qs.map fun q => Value.map (some q)) ≠ [] := by
  intro h'; rw [List.map_eq_nil_iff] at h'; rw [h'] at h; simp at h
def nextK (k n : Int) : Int := Int.tmod (Int.tmod k n + n) n
theorem nextK_bd {k n : Int} (hn : 0 < n) : 0 ≤ nextK k n ∧ nextK k n < n := by
  unfold nextK
  have h1 := Int.tmod_lt_of_pos k hn
  have h2 : -n < Int.tmod k n := by
    have := Int.lt_tmod_of_pos k hn
    omega
  have h3 : 0 ≤ Int.tmod k n + n := by omega
  exact ⟨Int.tmod_nonneg n h3, Int.tmod_lt_of_pos _ hn⟩
theorem next_is {k n : Int} (hn : 0 < n) (hn2 : n ≤ 1000000000000) (_ : -9223372036854775808 ≤ k) (_ : k ≤ 9223372036854775807) : Int.tmod (IntKind.wrap .i64 (Int.tmod k n + n)) n = nextK k n := by
  have h1 := Int.tmod_lt_of_pos k hn
  have h2 := Int.lt_tmod_of_pos k hn
  rw [w64 (by omega) (by omega)]
  rfl
end Go.Vf
namespace Go.Proofs.YtlaoeiaaeifidaaGreat
open Go.Sw Go.Lib Go.Vf Go.RowKit
theorem vCall (d nb kb cb : Nat) (room calls : Int) (bv : Value) (fails once : Bool) (right : Bool) (hc : -9223372036854775808 ≤ calls ∧ calls ≤ 9223372036854775807) (W0 : World) (H : List Grp) : Tri Tryz.prog 33 #[pt d, .bool right] W0 ([(d, .cells #[.int .i64 room, bv, .map (some nb), .map (some kb), .map (some cb), .bool fails, .bool once, .int .i64 calls] 72 (0, 0))] :: H) (fun v H' => v = .int .i64 (callS fails once calls right).1 ∧ H' = ([(d, .cells #[.int .i64 room, bv, .map (some nb), .map (some kb), .map (some cb), .bool ((callS fails once calls right).2.1), .bool once, .int .i64 ((callS fails once calls right).2.2)] 72 (0, 0))] :: H)) := by
 refine Tri_of (args := [pt d, .bool right]) (n := 38) Tryz.func33 rfl rfl (Nat.le_of_ble_eq_true rfl) ?_
 refine G_seq ?_
 refine G_pure (E':=[⟨0,[],pt d⟩,⟨1,[],.bool right⟩]) [0] [0,1] rfl kr ?_
 refine N_then ?_
 refine G_seq ?_
 refine G_block ?_
 refine G_seq ?_
 refine G_pure (E':=[⟨0,[],pt d⟩,⟨1,[],.bool right⟩,⟨5,[],.bool false⟩]) [0,0,0] [0,1,5] rfl kr ?_
 refine N_then ?_
 refine G_condf kr ?_
 refine G_seq ?_
 refine G_pure (E':=[⟨0,[],pt d⟩,⟨8,[],.bool (!right)⟩]) [0,0,0] [0,8] rfl kr ?_
 refine N_then ?_
 refine G_cond (b:=!right) kr (fun hc1=>?_) (fun hc1=>?_)
 ·
  have hr := hc1
  refine G_seq ?_
  refine G_pure (E':=[⟨4,[],.int .i64 2⟩]) [0] [4] rfl kr ?_
  refine N_then ?_
  refine G_ret ?_
  refine N_block_ret ?_
  refine N_then_ret ?_
  refine N_ret [.tmp 4] [.int .i64 2] rfl kr rfl ?_
  rw [callS_arg hr]
  exact ⟨rfl, rfl⟩
 ·
  have hr := hc1
  refine G_seq ?_
  refine G_region ?_
  refine GL_p [0,0,0] kr (j:=3) rfl ?_
  refine GL_load (i:=3) (ch:=[]) (b:=d) (off:=5) (v:=.bool fails) rfl rfl kr kr kr kr kr (At.grp 0 0 rfl rfl) rfl ?_
  refine GL_fin (E':=[⟨0,[],pt d⟩,⟨11,[],.bool (!fails)⟩]) [0,0] [0,11] rfl kr ?_
  refine N_then ?_
  refine G_cond (b:=!fails) kr (fun hc2=>?_) (fun hc2=>?_)
  ·
   have hf := hc2
   refine G_seq ?_
   refine G_pure (E':=[⟨4,[],.int .i64 0⟩]) [0] [4] rfl kr ?_
   refine N_then ?_
   refine G_ret ?_
   refine N_block_ret ?_
   refine N_then_ret ?_
   refine N_ret [.tmp 4] [.int .i64 0] rfl kr rfl ?_
   rw [callS_ok hr hf]
   exact ⟨rfl, rfl⟩
  ·
   have hf := hc2
   refine G_seq ?_
   refine G_region ?_
   refine GL_p [0,0,0] kr (j:=3) rfl ?_
   refine GL_load (i:=3) (ch:=[]) (b:=d) (off:=7) (v:=.int .i64 calls) rfl rfl kr kr kr kr kr (At.grp 0 0 rfl rfl) rfl ?_
   refine GL_fin (E':=[⟨0,[],pt d⟩,⟨17,[],.bool (decide (calls > 0))⟩]) [0,0] [0,17] rfl kr ?_
   refine N_then ?_
   refine G_cond (b:=decide (calls > 0)) kr (fun hc3=>?_) (fun hc3=>?_)
   ·
    have hp := hc3
    simp at hc3
    refine G_seq ?_
    refine G_region ?_
    refine GL_p [0,0,0] kr (j:=3) rfl ?_
    refine GL_load (i:=3) (ch:=[]) (b:=d) (off:=7) (v:=.int .i64 calls) rfl rfl kr kr kr kr kr (At.grp 0 0 rfl rfl) rfl ?_
    refine GL_p [0] kr (j:=5) rfl ?_
    refine GL_wi 27 (calls - 1) (by omega) (by omega) kr ?_
    refine GL_p [0,0] kr (j:=7) rfl ?_
    refine GL_st (i:=7) (ch:=[]) (b:=d) (off:=7) (v:=.int .i64 (calls - 1)) (j:=0) ([(d,.cells #[.int .i64 room,bv,.map (some nb),.map (some kb),.map (some cb),.bool fails,.bool once,.int .i64 (calls - 1)] 72 (0,0))]::H) rfl rfl kr kr kr kr kr kr kr rfl rfl (Nat.le_of_ble_eq_true rfl) (fun _ _=>thaw0) kr ?_
    refine GL_fin (E':=[]) [] [] rfl kr ?_
    refine N_then ?_
    refine G_seq ?_
    refine G_pure (E':=[⟨4,[],.int .i64 0⟩]) [0] [4] rfl kr ?_
    refine N_then ?_
    refine G_ret ?_
    refine N_block_ret ?_
    refine N_then_ret ?_
    refine N_ret [.tmp 4] [.int .i64 0] rfl kr rfl ?_
    rw [callS_dec hr hf hp]
    exact ⟨rfl, rfl⟩
   ·
    have hp := hc3
    simp at hc3
    refine G_skip ?_
    refine N_block ?_
    refine N_then ?_
    refine G_seq ?_
    refine G_region ?_
    refine GL_p [0,0,0,0] kr (j:=4) rfl ?_
    refine GL_load (i:=4) (ch:=[]) (b:=d) (off:=6) (v:=.bool once) rfl rfl kr kr kr kr kr (At.grp 0 0 rfl rfl) rfl ?_
    refine GL_p [0,0,0] kr (j:=8) rfl ?_
    refine GL_st (i:=8) (ch:=[]) (b:=d) (off:=5) (v:=.bool (!once)) (j:=0) ([(d,.cells #[.int .i64 room,bv,.map (some nb),.map (some kb),.map (some cb),.bool (!once),.bool once,.int .i64 calls] 72 (0,0))]::H) rfl rfl kr kr kr kr kr kr kr rfl rfl (Nat.le_of_ble_eq_true rfl) (fun _ _=>thaw0) kr ?_
    refine GL_fin (E':=[]) [] [] rfl kr ?_
    refine N_then ?_
    refine G_seq ?_
    refine G_pure (E':=[⟨4,[],.int .i64 62⟩]) [0] [4] rfl kr ?_
    refine N_then ?_
    refine G_ret ?_
    refine N_ret [.tmp 4] [.int .i64 62] rfl kr rfl ?_
    rw [callS_no hr hf hp]
    exact ⟨rfl, rfl⟩
theorem vNew (room : Int) (W0 : World) (H : List Grp) : Tri Tryz.prog 8 #[.int .i64 room] W0 H (fun v H' => ∃ d nb kb cb, v = .pointer (some ⟨d, 0, none⟩) ∧ H' = [(d, .cells #[.int .i64 (if 0 > room then 0 else room), .slice none 0 0, .map (some nb), .map (some kb), .map (some cb), .bool false, .bool false, .int .i64 0] 72 (0, 0))] :: [(cb, .map (encM []) 0)] :: [(kb, .map (encM []) 0)] :: [(nb, .map (encM []) 0)] :: H) := by
 refine Tri_of (args := [.int .i64 room]) (n := 10) Tryz.func8 rfl rfl (Nat.le_of_ble_eq_true rfl) ?_
 refine G_seq ?_
 refine G_pure (E':=[⟨0,[],.int .i64 room⟩]) [0] [0] rfl kr ?_
 refine N_then ?_
 refine G_seq ?_
 refine G_region ?_
 refine GL_p [0,0] kr (j:=2) rfl ?_
 refine GL_makeMap (i:=2) (ch:=[]) rfl rfl kr kr kr (fun b1=>?_)
 refine GL_makeMap (i:=3) (ch:=[]) rfl rfl kr kr kr (fun b2=>?_)
 refine GL_makeMap (i:=4) (ch:=[]) rfl rfl kr kr kr (fun b3=>?_)
 refine GL_p [0] kr (j:=6) rfl ?_
 refine GL_box (i:=6) (ch:=[]) (v:=.agg #[.int .i64 (if 0 > room then 0 else room),.slice none 0 0,.map (some b1),.map (some b2),.map (some b3),.bool false,.bool false,.int .i64 0]) rfl rfl kr kr kr kr (fun b4=>?_)
 refine GL_fin (E':=[⟨2,[],pt b4⟩]) [0] [2] rfl kr ?_
 refine N_then ?_
 refine G_ret ?_
 refine N_ret [.tmp 2] [pt b4] rfl kr rfl ?_
 exact ⟨_, _, _, _, rfl, rfl⟩
theorem vApply (nb q nc cc : Nat) (nm cm : SM) (hn : MapOk nm nc) (hcm : MapOk cm cc) (hv : ∀ e ∈ cm, e.2.1 = .pointer none ∨ ∃ p, e.2.1 = .pointer (some ⟨p, 0, none⟩)) (W0 : World) (H : List Grp) (hA : At W0 H q (.map (encM cm) cc)) : Tri Tryz.prog 72 #[.map (some nb), .map (some q)] W0 ([(nb, .map (encM nm) nc)] :: H) (fun v H' => ∃ dn, dn.Perm cm ∧ v = .tuple #[] ∧ H' = [(nb, .map (encM (foldS (nm, nc) dn).1) (foldS (nm, nc) dn).2)] :: H) := by
 refine Tri_of (args := [.map (some nb), .map (some q)]) (n := 20) Tryz.func72 rfl rfl (Nat.le_of_ble_eq_true rfl) ?_
 refine G_seq ?_
 refine G_region ?_
 refine GL_p [0] kr (j:=1) rfl ?_
 refine GL_range (i:=1) (ch:=[]) (kt:=9) (et:=74) (r:=q) (c:=cc) (m:=cm) rfl rfl kr kr kr kr kr (At.cons hA) (fun it1=>?_)
 refine GL_fin (E':=[⟨0,[],.map (some nb)⟩,⟨7,[],pt it1⟩]) [] [0,7] rfl kr ?_
 refine N_then ?_
 refine G_block ?_
 refine G_loop (EI:=(fun ξ : SM × SM=>[⟨0,[],.map (some nb)⟩,⟨7,[],pt it1⟩])) (HI:=(fun ξ : SM × SM=>([(it1,.mapIter (some q) cc (seenOf ξ.1) cc)]::[(nb,.map (encM ((foldS (nm,nc) ξ.1).1)) ((foldS (nm,nc) ξ.1).2))]::H))) (Φ:=(fun ξ : SM × SM=>((ξ.1++ξ.2).Perm cm))) (μ:=(fun ξ : SM × SM=>ξ.2.length)) (s0:=([],cm)) [0,7] kr (by rfl) (List.Perm.refl _) ?_
 rintro ⟨dn, rest⟩ hpm
 refine G_seq ?_
 refine G_region ?_
 refine GL_next (i:=0) (ch:=[]) (it:=it1) (r:=q) (c:=cc) (j:=0) (q:=0) (m:=cm) (dn:=dn) (rest:=rest) rfl rfl kr kr kr kr rfl rfl (At.cons (At.cons hA)) hcm hpm (fun hend6=>?_) (fun e2 rest3 hp4 hq5=>?_)
 ·
  refine GL_fin (E':=[⟨0,[],.map (some nb)⟩,⟨7,[],pt it1⟩,⟨9,[],.bool false⟩]) [0] [0,7,9] rfl kr ?_
  refine N_then ?_
  refine G_seq ?_
  refine G_condf kr ?_
  refine G_exit ?_
  refine N_then_exit ?_
  refine N_then_exit ?_
  refine N_block_exit ?_
  refine N_heap (H':=([(nb,.map (encM ((foldS (nm,nc) dn).1)) ((foldS (nm,nc) dn).2))]::H)) (fun w h=>h.erase 0) ?_
  refine N_ret [] [] rfl kr rfl ?_
  exact ⟨dn, by simpa [hend6] using hpm, rfl, rfl⟩
 ·
  have hve := hv e2 (hq5.mem_iff.1 (by simp))
  obtain ⟨k7, v8, st9⟩ := e2
  simp only at hve
  rcases hve with rfl | ⟨p10, rfl⟩
  ·
   refine GL_fin (E':=[⟨0,[],.map (some nb)⟩,⟨7,[],pt it1⟩,⟨9,[],.bool true⟩]) [0] [0,7,9] rfl kr ?_
   refine N_then ?_
   refine G_seq ?_
   refine G_condt kr ?_
   refine G_skip ?_
   refine N_then ?_
   refine G_block ?_
   refine G_seq ?_
   refine G_region ?_
   refine GL_entry (i:=0) (ch:=[]) (it:=it1) (r:=q) (c:=cc) (m:=cm) (dn:=dn) (e:=(k7,.pointer none,st9)) rfl rfl kr kr kr kr (At.grp 0 0 rfl rfl) (At.cons (At.cons hA)) hcm (hq5.mem_iff.1 (by simp)) ?_
   refine GL_fin (E':=[⟨0,[],.map (some nb)⟩,⟨4,[],.string k7⟩,⟨5,[],.pointer none⟩,⟨7,[],pt it1⟩]) [0,0,0,0] [0,4,5,7] rfl kr ?_
   refine N_then ?_
   refine G_seq ?_
   refine G_pure (E':=[⟨0,[],.map (some nb)⟩,⟨4,[],.string k7⟩,⟨5,[],.pointer none⟩,⟨7,[],pt it1⟩,⟨14,[],.bool true⟩]) [0,0] [0,4,5,7,14] rfl kr ?_
   refine N_then ?_
   refine G_condt kr ?_
   refine G_region ?_
   refine GL_p [0,0] kr (j:=2) rfl ?_
   refine GL_delete (i:=2) (ch:=[]) (ts:=#[68,9]) (t:=68) (kt:=9) (et:=74) (r:=nb) (c:=(foldS (nm,nc) dn).2) (j:=1) (q:=0) (m:=(foldS (nm,nc) dn).1) (k:=k7) (H':=([(it1,.mapIter (some q) cc (seenOf (dn++[(k7,.pointer none,st9)])) cc)]::[(nb,.map (encM (mdel ((foldS (nm,nc) dn).1) k7)) ((foldS (nm,nc) dn).2))]::H)) rfl rfl rfl rfl rfl kr kr kr kr kr kr rfl rfl rfl ?_
   refine GL_fin (E':=[⟨0,[],.map (some nb)⟩,⟨7,[],pt it1⟩]) [] [0,7] rfl kr ?_
   refine N_block ?_
   refine N_round (s':=(dn++[(k7,.pointer none,st9)],rest3)) [0,7] kr (by rw [foldS_snoc]; rfl) hq5 (by have:=hp4.length_eq; simp only [List.length_cons] at this; show rest3.length < rest.length; omega)
  ·
   refine GL_fin (E':=[⟨0,[],.map (some nb)⟩,⟨7,[],pt it1⟩,⟨9,[],.bool true⟩]) [0] [0,7,9] rfl kr ?_
   refine N_then ?_
   refine G_seq ?_
   refine G_condt kr ?_
   refine G_skip ?_
   refine N_then ?_
   refine G_block ?_
   refine G_seq ?_
   refine G_region ?_
   refine GL_entry (i:=0) (ch:=[]) (it:=it1) (r:=q) (c:=cc) (m:=cm) (dn:=dn) (e:=(k7,.pointer (some ⟨p10,0,none⟩),st9)) rfl rfl kr kr kr kr (At.grp 0 0 rfl rfl) (At.cons (At.cons hA)) hcm (hq5.mem_iff.1 (by simp)) ?_
   refine GL_fin (E':=[⟨0,[],.map (some nb)⟩,⟨4,[],.string k7⟩,⟨5,[],pt p10⟩,⟨7,[],pt it1⟩]) [0,0,0,0] [0,4,5,7] rfl kr ?_
   refine N_then ?_
   refine G_seq ?_
   refine G_pure (E':=[⟨0,[],.map (some nb)⟩,⟨4,[],.string k7⟩,⟨5,[],pt p10⟩,⟨7,[],pt it1⟩,⟨14,[],.bool false⟩]) [0,0] [0,4,5,7,14] rfl kr ?_
   refine N_then ?_
   refine G_condf kr ?_
   refine G_region ?_
   refine GL_p [0,0,0] kr (j:=3) rfl ?_
   refine GL_mapPut (i:=3) (ch:=[]) (kt:=9) (et:=74) (r:=nb) (c:=(foldS (nm,nc) dn).2) (j:=1) (q:=0) (m:=(foldS (nm,nc) dn).1) (k:=k7) (v:=pt p10) (H':=([(it1,.mapIter (some q) cc (seenOf (dn++[(k7,.pointer (some ⟨p10,0,none⟩),st9)])) cc)]::[(nb,.map (encM (mput ((foldS (nm,nc) dn).1) ((foldS (nm,nc) dn).2) k7 (pt p10))) (if mhas ((foldS (nm,nc) dn).1) k7 then (foldS (nm,nc) dn).2 else (foldS (nm,nc) dn).2+1))]::H)) rfl (.inl rfl) kr kr kr kr kr kr kr kr rfl rfl rfl ?_
   refine GL_fin (E':=[⟨0,[],.map (some nb)⟩,⟨7,[],pt it1⟩]) [] [0,7] rfl kr ?_
   refine N_block ?_
   refine N_round (s':=(dn++[(k7,.pointer (some ⟨p10,0,none⟩),st9)],rest3)) [0,7] kr (by rw [foldS_snoc]; rfl) hq5 (by have:=hp4.length_eq; simp only [List.length_cons] at this; show rest3.length < rest.length; omega)
end Go.Proofs.YtlaoeiaaeifidaaGreat
namespace Go.Proofs.YtlaoeiaaeifidaaGreat
open Go.Sw Go.Lib Go.Vf Go.RowKit
theorem vCloneNil  (W0 : World) (H : List Grp) : Tri Tryz.prog 36 #[.slice none 0 0] W0 H (fun v H' => v = .slice none 0 0 ∧ H' = H) := by
 refine Tri_of (args := [.slice none 0 0]) (n := 8) Tryz.func36 rfl rfl (Nat.le_of_ble_eq_true rfl) ?_
 refine G_seq ?_
 refine G_pure (E':=[⟨0,[],.slice none 0 0⟩]) [0] [0] rfl kr ?_
 refine N_then ?_
 refine G_seq ?_
 refine G_seq ?_
 refine G_pure (E':=[⟨0,[],.slice none 0 0⟩,⟨4,[],.bool true⟩]) [0,0] [0,4] rfl kr ?_
 refine N_then ?_
 refine G_condt kr ?_
 refine G_seq ?_
 refine G_pure (E':=[⟨2,[],.slice none 0 0⟩]) [0] [2] rfl kr ?_
 refine N_then ?_
 refine G_ret ?_
 refine N_then_ret ?_
 refine N_ret [.tmp 2] [.slice none 0 0] rfl kr rfl ?_
 exact ⟨rfl, rfl⟩
theorem vClone (b off n cap : Nat) (S : Nat → Obj → Prop) (l : List UInt8) (hrd : Rd S (some ⟨b, off, none⟩) (u8s l)) (hl : l.length = n) (hn : n ≤ 1000000000) (W0 : World) (H : List Grp) (hS : ∀ y o, S y o → At W0 H y o) : Tri Tryz.prog 36 #[.slice (some ⟨b, off, none⟩) n cap] W0 H (fun v H' => ∃ g, Go.Sw.Own 5 1 v g n (u8s l) ∧ H' = g :: H) := by
 refine Tri_of (args := [.slice (some ⟨b, off, none⟩) n cap]) (n := 8) Tryz.func36 rfl rfl (Nat.le_of_ble_eq_true rfl) ?_
 refine G_seq ?_
 refine G_pure (E':=[⟨0,[],.slice (some ⟨b,off,none⟩) n cap⟩]) [0] [0] rfl kr ?_
 refine N_then ?_
 refine G_seq ?_
 refine G_seq ?_
 refine G_pure (E':=[⟨0,[],.slice (some ⟨b,off,none⟩) n cap⟩,⟨4,[],.bool false⟩]) [0,0] [0,4] rfl kr ?_
 refine N_then ?_
 refine G_condf kr ?_
 refine G_skip ?_
 refine N_then ?_
 refine G_seq ?_
 refine G_region ?_
 refine GL_buildSlice (i:=0) (ch:=[]) (e:=5) (l:=[]) (c:=[]) rfl rfl kr kr kr kr kr (fun b1=>?_)
 refine GL_p [0] kr (j:=2) rfl ?_
 refine GL_append (i:=2) (ch:=[]) (t:=22) (tx:=22) (e:=5) (inf:=Tryz.t5) (s:=.slice (some ⟨b1,0,none⟩) 0 0) (x:=.slice (some ⟨b,off,none⟩) n cap) (n:=0) (m:=n) (j:=0) (cs:=[]) (news:=(u8s l)) (g:=[(b1,.cells #[] 5 (0,0))]) (S:=S) rfl rfl rfl rfl kr kr kr rfl rfl (.inl ⟨5,kr⟩) (fun ⟨_,h⟩=>by cases h) (fun _=>⟨5,kr⟩) kr kr kr rfl (Go.Sw.Own.lit rfl) (SrcOf.slice _ _ _ _ hrd (fun h=>by cases h)) (fun y o h=>(At.cons (hS y o h))) (by show (u8s l).length = n * 1; rw [u8s_len,hl,Nat.mul_one]) u8s_one (by omega) (by show (0+n) * 1 ≤ 140737488355328; omega) (fun v2 g3 hO4=>?_)
 refine GL_fin (E':=[⟨2,[],v2⟩]) [0] [2] rfl kr ?_
 refine N_then ?_
 refine G_ret ?_
 refine N_ret [.tmp 2] [v2] rfl kr rfl ?_
 exact ⟨g3, own_nil hO4, rfl⟩
theorem vCloneE (ad : Addr) (cap : Nat) (W0 : World) (H : List Grp) : Tri Tryz.prog 36 #[.slice (some ad) 0 cap] W0 H (fun v H' => ∃ g, Go.Sw.Own 5 1 v g 0 [] ∧ H' = g :: H) := by
 refine Tri_of (args := [.slice (some ad) 0 cap]) (n := 8) Tryz.func36 rfl rfl (Nat.le_of_ble_eq_true rfl) ?_
 refine G_seq ?_
 refine G_pure (E':=[⟨0,[],.slice (some ad) 0 cap⟩]) [0] [0] rfl kr ?_
 refine N_then ?_
 refine G_seq ?_
 refine G_seq ?_
 refine G_pure (E':=[⟨0,[],.slice (some ad) 0 cap⟩,⟨4,[],.bool false⟩]) [0,0] [0,4] rfl kr ?_
 refine N_then ?_
 refine G_condf kr ?_
 refine G_skip ?_
 refine N_then ?_
 refine G_seq ?_
 refine G_region ?_
 refine GL_buildSlice (i:=0) (ch:=[]) (e:=5) (l:=[]) (c:=[]) rfl rfl kr kr kr kr kr (fun b1=>?_)
 refine GL_p [0] kr (j:=2) rfl ?_
 refine GL_append (i:=2) (ch:=[]) (t:=22) (tx:=22) (e:=5) (inf:=Tryz.t5) (s:=.slice (some ⟨b1,0,none⟩) 0 0) (x:=.slice (some ad) 0 cap) (n:=0) (m:=0) (j:=0) (cs:=[]) (news:=([])) (g:=[(b1,.cells #[] 5 (0,0))]) (S:=(fun _ _=>False)) rfl rfl rfl rfl kr kr kr rfl rfl (.inl ⟨5,kr⟩) (fun ⟨_,h⟩=>by cases h) (fun _=>⟨5,kr⟩) kr kr kr rfl (Go.Sw.Own.lit rfl) (SrcOf.slice _ _ _ _ (.inl rfl) (fun h=>by cases h)) (fun _ _ h=>h.elim) rfl (fun u h=>absurd h List.not_mem_nil) (by omega) (by show (0+0) * 1 ≤ 140737488355328; omega) (fun v2 g3 hO4=>?_)
 refine GL_fin (E':=[⟨2,[],v2⟩]) [0] [2] rfl kr ?_
 refine N_then ?_
 refine G_ret ?_
 refine N_ret [.tmp 2] [v2] rfl kr rfl ?_
 exact ⟨g3, own_nil hO4, rfl⟩
theorem vUsed (d nb kb cb nc : Nat) (room calls : Int) (bv : Value) (fails once : Bool) (nm : SM) (szf : Value → Nat) (hn : MapOk nm nc) (hs : sumN szf nm ≤ 1000000000000) (W0 : World) (H : List Grp) (hB : ∀ e ∈ nm, ∃ p a c kv, e.2.1 = .pointer (some ⟨p, 0, none⟩) ∧ At W0 H p (.cells #[.slice a (szf e.2.1) c, kv] 76 (0, 0))) : Tri Tryz.prog 35 #[pt d] W0 ([(d, .cells #[.int .i64 room, bv, .map (some nb), .map (some kb), .map (some cb), .bool fails, .bool once, .int .i64 calls] 72 (0, 0))] :: [(nb, .map (encM nm) nc)] :: H) (fun v H' => v = .int .i64 ((sumN szf nm : Nat) : Int) ∧ H' = ([(d, .cells #[.int .i64 room, bv, .map (some nb), .map (some kb), .map (some cb), .bool fails, .bool once, .int .i64 calls] 72 (0, 0))] :: [(nb, .map (encM nm) nc)] :: H)) := by
 refine Tri_of (args := [pt d]) (n := 25) Tryz.func35 rfl rfl (Nat.le_of_ble_eq_true rfl) ?_
 refine G_seq ?_
 refine G_pure (E':=[⟨0,[],pt d⟩]) [0] [0] rfl kr ?_
 refine N_then ?_
 refine G_seq ?_
 refine G_pure (E':=[⟨0,[],pt d⟩,⟨3,[],.int .i64 0⟩]) [0] [0,3] rfl kr ?_
 refine N_then ?_
 refine G_seq ?_
 refine G_seq ?_
 refine G_pure (E':=[⟨0,[],pt d⟩,⟨3,[],.int .i64 0⟩,⟨7,[],.bool true⟩]) [0,0] [0,3,7] rfl kr ?_
 refine N_then ?_
 refine G_condt kr ?_
 refine G_seq ?_
 refine G_region ?_
 refine GL_p [0,0,0] kr (j:=3) rfl ?_
 refine GL_load (i:=3) (ch:=[]) (b:=d) (off:=2) (v:=.map (some nb)) rfl rfl kr kr kr kr kr (At.grp 0 0 rfl rfl) rfl ?_
 refine GL_range (i:=4) (ch:=[]) (kt:=9) (et:=74) (r:=nb) (c:=nc) (m:=nm) rfl rfl kr kr kr kr kr (At.grp 1 0 rfl rfl) (fun it1=>?_)
 refine GL_fin (E':=[⟨3,[],.int .i64 0⟩,⟨12,[],pt it1⟩]) [] [3,12] rfl kr ?_
 refine N_then ?_
 refine G_block ?_
 refine G_loop (EI:=(fun ξ : SM × SM=>[⟨3,[],.int .i64 ((sumN szf ξ.1 : Nat) : Int)⟩,⟨12,[],pt it1⟩])) (HI:=(fun ξ : SM × SM=>([(it1,.mapIter (some nb) nc (seenOf ξ.1) nc)]::[(d,.cells #[.int .i64 room,bv,.map (some nb),.map (some kb),.map (some cb),.bool fails,.bool once,.int .i64 calls] 72 (0,0))]::[(nb,.map (encM nm) nc)]::H))) (Φ:=(fun ξ : SM × SM=>((ξ.1++ξ.2).Perm nm))) (μ:=(fun ξ : SM × SM=>ξ.2.length)) (s0:=([],nm)) [3,12] kr (by rfl) (List.Perm.refl _) ?_
 rintro ⟨dn, rest⟩ hpm
 have hsp := sumN_part (f := szf) hpm
 refine G_seq ?_
 refine G_region ?_
 refine GL_next (i:=0) (ch:=[]) (it:=it1) (r:=nb) (c:=nc) (j:=0) (q:=0) (m:=nm) (dn:=dn) (rest:=rest) rfl rfl kr kr kr kr rfl rfl (At.grp 2 0 rfl rfl) hn hpm (fun hend6=>?_) (fun e2 rest3 hp4 hq5=>?_)
 ·
  refine GL_fin (E':=[⟨3,[],.int .i64 ((sumN szf dn : Nat) : Int)⟩,⟨12,[],pt it1⟩,⟨14,[],.bool false⟩]) [0] [3,12,14] rfl kr ?_
  refine N_then ?_
  refine G_seq ?_
  refine G_condf kr ?_
  refine G_exit ?_
  refine N_then_exit ?_
  refine N_then_exit ?_
  refine N_block_exit ?_
  refine N_then ?_
  refine G_seq ?_
  refine G_pure (E':=[⟨2,[],.int .i64 ((sumN szf dn : Nat) : Int)⟩]) [0,0] [2] rfl kr ?_
  refine N_then ?_
  refine G_ret ?_
  refine N_heap (H':=([(d,.cells #[.int .i64 room,bv,.map (some nb),.map (some kb),.map (some cb),.bool fails,.bool once,.int .i64 calls] 72 (0,0))]::[(nb,.map (encM nm) nc)]::H)) (fun w h=>h.erase 0) ?_
  refine N_ret [.tmp 2] [.int .i64 ((sumN szf dn : Nat) : Int)] rfl kr rfl ?_
  exact ⟨by rw [sumN_perm (show dn.Perm nm by simpa [hend6] using hpm)]; rfl, rfl⟩
 ·
  obtain ⟨p10, a11, c12, kv13, hve, hat14⟩ := hB e2 (hq5.mem_iff.1 (by simp))
  obtain ⟨k7, v8, st9⟩ := e2
  simp only at hve
  subst hve
  have hsq := sumN_part (f := szf) hq5
  rw [sumN_snoc] at hsq
  simp only at hsq
  refine GL_fin (E':=[⟨3,[],.int .i64 ((sumN szf dn : Nat) : Int)⟩,⟨12,[],pt it1⟩,⟨14,[],.bool true⟩]) [0] [3,12,14] rfl kr ?_
  refine N_then ?_
  refine G_seq ?_
  refine G_condt kr ?_
  refine G_skip ?_
  refine N_then ?_
  refine G_block ?_
  refine G_seq ?_
  refine G_region ?_
  refine GL_entry (i:=0) (ch:=[]) (it:=it1) (r:=nb) (c:=nc) (m:=nm) (dn:=dn) (e:=(k7,.pointer (some ⟨p10,0,none⟩),st9)) rfl rfl kr kr kr kr (At.grp 0 0 rfl rfl) (At.grp 2 0 rfl rfl) hn (hq5.mem_iff.1 (by simp)) ?_
  refine GL_fin (E':=[⟨3,[],.int .i64 ((sumN szf dn : Nat) : Int)⟩,⟨5,[],pt p10⟩,⟨12,[],pt it1⟩]) [0,0] [3,5,12] rfl kr ?_
  refine N_then ?_
  refine G_region ?_
  refine GL_p [0,0,0,0] kr (j:=4) rfl ?_
  refine GL_load (i:=4) (ch:=[]) (b:=p10) (off:=0) (v:=.slice a11 (szf (.pointer (some ⟨p10,0,none⟩))) c12) rfl rfl kr kr kr kr kr (At.cons (At.cons (At.cons hat14))) rfl ?_
  refine GL_p [0,0] kr (j:=7) rfl ?_
  refine GL_wi 23 (((sumN szf dn : Nat) : Int)+(((szf (.pointer (some ⟨p10,0,none⟩))) : Nat) : Int)) (by omega) (by omega) kr ?_
  refine GL_fin (E':=[⟨3,[],.int .i64 (((sumN szf dn : Nat) : Int)+(((szf (.pointer (some ⟨p10,0,none⟩))) : Nat) : Int))⟩,⟨12,[],pt it1⟩]) [0] [3,12] rfl kr ?_
  refine N_block ?_
  refine N_env (E':=[⟨3,[],.int .i64 ((sumN szf (dn++[(k7,.pointer (some ⟨p10,0,none⟩),st9)]) : Nat) : Int)⟩,⟨12,[],pt it1⟩]) (by rw [sumN_snoc]; rfl) ?_
  refine N_round (s':=(dn++[(k7,.pointer (some ⟨p10,0,none⟩),st9)],rest3)) [3,12] kr (by rfl) hq5 (by have:=hp4.length_eq; simp only [List.length_cons] at this; show rest3.length < rest.length; omega)
theorem vReadNo (d nb kb cb nc : Nat) (room calls : Int) (bv : Value) (fails once : Bool) (nm : SM) (path : ByteArray) (hg : mget nm path = none) (W0 : World) (H : List Grp) : Tri Tryz.prog 13 #[pt d, .string path] W0 ([(d, .cells #[.int .i64 room, bv, .map (some nb), .map (some kb), .map (some cb), .bool fails, .bool once, .int .i64 calls] 72 (0, 0))] :: [(nb, .map (encM nm) nc)] :: H) (fun v H' => v = .tuple #[.slice none 0 0, .int .i64 60] ∧ H' = ([(d, .cells #[.int .i64 room, bv, .map (some nb), .map (some kb), .map (some cb), .bool fails, .bool once, .int .i64 calls] 72 (0, 0))] :: [(nb, .map (encM nm) nc)] :: H)) := by
 refine Tri_of (args := [pt d, .string path]) (n := 22) Tryz.func13 rfl rfl (Nat.le_of_ble_eq_true rfl) ?_
 refine G_seq ?_
 refine G_pure (E':=[⟨0,[],pt d⟩,⟨1,[],.string path⟩]) [0,0] [0,1] rfl kr ?_
 refine N_then ?_
 refine G_seq ?_
 refine G_seq ?_
 refine G_pure (E':=[⟨0,[],pt d⟩,⟨1,[],.string path⟩,⟨8,[],.bool false⟩]) [0,0] [0,1,8] rfl kr ?_
 refine N_then ?_
 refine G_condf kr ?_
 refine G_skip ?_
 refine N_then ?_
 refine G_seq ?_
 refine G_region ?_
 refine GL_p [0,0,0] kr (j:=3) rfl ?_
 refine GL_load (i:=3) (ch:=[]) (b:=d) (off:=2) (v:=.map (some nb)) rfl rfl kr kr kr kr kr (At.grp 0 0 rfl rfl) rfl ?_
 refine GL_p [0] kr (j:=5) rfl ?_
 refine GL_lookup (i:=5) (ch:=[]) (kt:=9) (et:=74) (r:=nb) (c:=nc) (m:=nm) (k:=path) (z:=.pointer none) (ov:=none) rfl rfl kr kr kr kr kr kr kr kr (At.grp 1 0 rfl rfl) (fun _=>hg) ?_
 refine GL_fin (E':=[⟨6,[],.pointer none⟩]) [0] [6] rfl kr ?_
 refine N_then ?_
 refine G_seq ?_
 refine G_seq ?_
 refine G_pure (E':=[⟨6,[],.pointer none⟩,⟨16,[],.bool true⟩]) [0,0] [6,16] rfl kr ?_
 refine N_then ?_
 refine G_condt kr ?_
 refine G_seq ?_
 refine G_pure (E':=[⟨4,[],.slice none 0 0⟩,⟨5,[],.int .i64 60⟩]) [0,0] [4,5] rfl kr ?_
 refine N_then ?_
 refine G_ret ?_
 refine N_then_ret ?_
 refine N_ret [.tmp 4,.tmp 5] [.slice none 0 0,.int .i64 60] rfl kr rfl ?_
 exact ⟨rfl, rfl⟩
theorem vReadNil (d nb kb cb nc : Nat) (room calls : Int) (bv : Value) (fails once : Bool) (nm : SM) (path : ByteArray) (p : Nat) (kv : Value) (hg : mget nm path = some (.pointer (some ⟨p, 0, none⟩))) (W0 : World) (H : List Grp) (hp : At W0 H p (.cells #[.slice none 0 0, kv] 76 (0, 0))) : Tri Tryz.prog 13 #[pt d, .string path] W0 ([(d, .cells #[.int .i64 room, bv, .map (some nb), .map (some kb), .map (some cb), .bool fails, .bool once, .int .i64 calls] 72 (0, 0))] :: [(nb, .map (encM nm) nc)] :: H) (fun v H' => v = .tuple #[.slice none 0 0, .int .i64 0] ∧ H' = ([(d, .cells #[.int .i64 room, bv, .map (some nb), .map (some kb), .map (some cb), .bool fails, .bool once, .int .i64 calls] 72 (0, 0))] :: [(nb, .map (encM nm) nc)] :: H)) := by
 refine Tri_of (args := [pt d, .string path]) (n := 22) Tryz.func13 rfl rfl (Nat.le_of_ble_eq_true rfl) ?_
 refine G_seq ?_
 refine G_pure (E':=[⟨0,[],pt d⟩,⟨1,[],.string path⟩]) [0,0] [0,1] rfl kr ?_
 refine N_then ?_
 refine G_seq ?_
 refine G_seq ?_
 refine G_pure (E':=[⟨0,[],pt d⟩,⟨1,[],.string path⟩,⟨8,[],.bool false⟩]) [0,0] [0,1,8] rfl kr ?_
 refine N_then ?_
 refine G_condf kr ?_
 refine G_skip ?_
 refine N_then ?_
 refine G_seq ?_
 refine G_region ?_
 refine GL_p [0,0,0] kr (j:=3) rfl ?_
 refine GL_load (i:=3) (ch:=[]) (b:=d) (off:=2) (v:=.map (some nb)) rfl rfl kr kr kr kr kr (At.grp 0 0 rfl rfl) rfl ?_
 refine GL_p [0] kr (j:=5) rfl ?_
 refine GL_lookup (i:=5) (ch:=[]) (kt:=9) (et:=74) (r:=nb) (c:=nc) (m:=nm) (k:=path) (z:=.pointer none) (ov:=(some (pt p))) rfl rfl kr kr kr kr kr kr kr kr (At.grp 1 0 rfl rfl) (fun _=>hg) ?_
 refine GL_fin (E':=[⟨6,[],pt p⟩]) [0] [6] rfl kr ?_
 refine N_then ?_
 refine G_seq ?_
 refine G_seq ?_
 refine G_pure (E':=[⟨6,[],pt p⟩,⟨16,[],.bool false⟩]) [0,0] [6,16] rfl kr ?_
 refine N_then ?_
 refine G_condf kr ?_
 refine G_skip ?_
 refine N_then ?_
 refine G_seq ?_
 refine G_region ?_
 refine GL_p [0,0,0] kr (j:=3) rfl ?_
 refine GL_load (i:=3) (ch:=[]) (b:=p) (off:=0) (v:=.slice none 0 0) rfl rfl kr kr kr kr kr (At.cons (At.cons hp)) rfl ?_
 refine GL_callQ (i:=4) (ch:=[]) (f:=36) (fst:=#[]) (caps:=#[]) (vs:=[.slice none 0 0]) (v:=.slice none 0 0) rfl rfl rfl kr kr Tryz.func36 rfl rfl kr kr kr (fun _=>vCloneNil _ _) ?_
 refine GL_fin (E':=[⟨4,[],.slice none 0 0⟩,⟨5,[],.int .i64 0⟩]) [0,0] [4,5] rfl kr ?_
 refine N_then ?_
 refine G_ret ?_
 refine N_ret [.tmp 4,.tmp 5] [.slice none 0 0,.int .i64 0] rfl kr rfl ?_
 exact ⟨rfl, rfl⟩
theorem vReadYes (d nb kb cb nc : Nat) (room calls : Int) (bv : Value) (fails once : Bool) (nm : SM) (path : ByteArray) (b off n cap : Nat) (S : Nat → Obj → Prop) (l : List UInt8) (hrd : Rd S (some ⟨b, off, none⟩) (u8s l)) (hl : l.length = n) (hn : n ≤ 1000000000) (p : Nat) (kv : Value) (hg : mget nm path = some (.pointer (some ⟨p, 0, none⟩))) (W0 : World) (H : List Grp) (hS : ∀ y o, S y o → At W0 H y o) (hp : At W0 H p (.cells #[.slice (some ⟨b, off, none⟩) n cap, kv] 76 (0, 0))) : Tri Tryz.prog 13 #[pt d, .string path] W0 ([(d, .cells #[.int .i64 room, bv, .map (some nb), .map (some kb), .map (some cb), .bool fails, .bool once, .int .i64 calls] 72 (0, 0))] :: [(nb, .map (encM nm) nc)] :: H) (fun v H' => ∃ x g, v = .tuple #[x, .int .i64 0] ∧ Go.Sw.Own 5 1 x g n (u8s l) ∧ H' = g :: ([(d, .cells #[.int .i64 room, bv, .map (some nb), .map (some kb), .map (some cb), .bool fails, .bool once, .int .i64 calls] 72 (0, 0))] :: [(nb, .map (encM nm) nc)] :: H)) := by
 refine Tri_of (args := [pt d, .string path]) (n := 22) Tryz.func13 rfl rfl (Nat.le_of_ble_eq_true rfl) ?_
 refine G_seq ?_
 refine G_pure (E':=[⟨0,[],pt d⟩,⟨1,[],.string path⟩]) [0,0] [0,1] rfl kr ?_
 refine N_then ?_
 refine G_seq ?_
 refine G_seq ?_
 refine G_pure (E':=[⟨0,[],pt d⟩,⟨1,[],.string path⟩,⟨8,[],.bool false⟩]) [0,0] [0,1,8] rfl kr ?_
 refine N_then ?_
 refine G_condf kr ?_
 refine G_skip ?_
 refine N_then ?_
 refine G_seq ?_
 refine G_region ?_
 refine GL_p [0,0,0] kr (j:=3) rfl ?_
 refine GL_load (i:=3) (ch:=[]) (b:=d) (off:=2) (v:=.map (some nb)) rfl rfl kr kr kr kr kr (At.grp 0 0 rfl rfl) rfl ?_
 refine GL_p [0] kr (j:=5) rfl ?_
 refine GL_lookup (i:=5) (ch:=[]) (kt:=9) (et:=74) (r:=nb) (c:=nc) (m:=nm) (k:=path) (z:=.pointer none) (ov:=(some (pt p))) rfl rfl kr kr kr kr kr kr kr kr (At.grp 1 0 rfl rfl) (fun _=>hg) ?_
 refine GL_fin (E':=[⟨6,[],pt p⟩]) [0] [6] rfl kr ?_
 refine N_then ?_
 refine G_seq ?_
 refine G_seq ?_
 refine G_pure (E':=[⟨6,[],pt p⟩,⟨16,[],.bool false⟩]) [0,0] [6,16] rfl kr ?_
 refine N_then ?_
 refine G_condf kr ?_
 refine G_skip ?_
 refine N_then ?_
 refine G_seq ?_
 refine G_region ?_
 refine GL_p [0,0,0] kr (j:=3) rfl ?_
 refine GL_load (i:=3) (ch:=[]) (b:=p) (off:=0) (v:=.slice (some ⟨b,off,none⟩) n cap) rfl rfl kr kr kr kr kr (At.cons (At.cons hp)) rfl ?_
 refine GL_call (i:=4) (ch:=[]) (f:=36) (fst:=#[]) (caps:=#[]) (vs:=[.slice (some ⟨b,off,none⟩) n cap]) rfl rfl rfl kr kr Tryz.func36 rfl rfl kr kr (chSure_of kr) (vClone b off n cap S l hrd hl hn _ _ (fun y o h=>(At.cons (At.cons (hS y o h))))) ?_
 rintro v3 _ ⟨g1, hO2, rfl⟩
 refine GL_fin (E':=[⟨4,[],v3⟩,⟨5,[],.int .i64 0⟩]) [0,0] [4,5] rfl kr ?_
 refine N_then ?_
 refine G_ret ?_
 refine N_ret [.tmp 4,.tmp 5] [v3,.int .i64 0] rfl kr rfl ?_
 exact ⟨_, g1, rfl, hO2, rfl⟩
end Go.Proofs.YtlaoeiaaeifidaaGreat
namespace Go.Proofs.YtlaoeiaaeifidaaGreat
open Go.Sw Go.Lib Go.Vf Go.RowKit
theorem vNameNew (d nb kb cb q nc cc xc : Nat) (room calls : Int) (bv : Value) (fails once : Bool) (nm cm xm : SM) (dir : ByteArray) (hn : MapOk nm nc) (hx : MapOk xm xc) (hv : ∀ e ∈ xm, e.2.1 = .pointer none ∨ ∃ p, e.2.1 = .pointer (some ⟨p, 0, none⟩)) (hg : mget cm dir = none) (W0 : World) (H : List Grp) (hA : At W0 H q (.map (encM xm) xc)) : Tri Tryz.prog 37 #[pt d, .string dir, .map (some q)] W0 ([(d, .cells #[.int .i64 room, bv, .map (some nb), .map (some kb), .map (some cb), .bool fails, .bool once, .int .i64 calls] 72 (0, 0))] :: [(nb, .map (encM nm) nc)] :: [(cb, .map (encM cm) cc)] :: H) (fun v H' => ∃ dn x g, dn.Perm xm ∧ Go.Sw.Own 80 1 x g 1 [.map (some q)] ∧ v = .tuple #[] ∧ H' = ([(d, .cells #[.int .i64 room, bv, .map (some nb), .map (some kb), .map (some cb), .bool fails, .bool once, .int .i64 calls] 72 (0, 0))] :: [(nb, .map (encM ((foldS (nm, nc) dn).1)) ((foldS (nm, nc) dn).2))] :: [(cb, .map (encM (mput cm cc dir x)) (if mhas cm dir then cc else cc + 1))] :: g :: H)) := by
 refine Tri_of (args := [pt d, .string dir, .map (some q)]) (n := 26) Tryz.func37 rfl rfl (Nat.le_of_ble_eq_true rfl) ?_
 refine G_seq ?_
 refine G_region ?_
 refine GL_p [0,0,0] kr (j:=3) rfl ?_
 refine GL_load (i:=3) (ch:=[]) (b:=d) (off:=2) (v:=.map (some nb)) rfl rfl kr kr kr kr kr (At.grp 0 0 rfl rfl) rfl ?_
 refine GL_p [0] kr (j:=5) rfl ?_
 refine GL_heap rfl (H':=([(nb,.map (encM nm) nc)]::[(d,.cells #[.int .i64 room,bv,.map (some nb),.map (some kb),.map (some cb),.bool fails,.bool once,.int .i64 calls] 72 (0,0))]::[(cb,.map (encM cm) cc)]::H)) (fun w h=>(h.front (j:=1) rfl)) ?_
 refine GL_call (i:=5) (ch:=[]) (f:=72) (fst:=#[]) (caps:=#[]) (vs:=[.map (some nb),.map (some q)]) rfl rfl rfl kr kr Tryz.func72 rfl rfl kr kr (chSure_of kr) (vApply nb q nc xc nm xm hn hx hv _ _ (At.cons (At.cons hA))) ?_
 rintro v H' ⟨dn1, hdn2, rfl, rfl⟩
 refine GL_fin (E':=[⟨0,[],pt d⟩,⟨1,[],.string dir⟩,⟨2,[],.map (some q)⟩]) [] [0,1,2] rfl kr ?_
 refine N_then ?_
 refine G_regionH ([(nb,.map (encM ((foldS (nm,nc) dn1).1)) ((foldS (nm,nc) dn1).2))]::[(d,.cells #[.int .i64 room,bv,.map (some nb),.map (some kb),.map (some cb),.bool fails,.bool once,.int .i64 calls] 72 (0,0))]::H) kr ?_
 refine GH_p (fuel:=14) [(0,0)] (fun w h=>(h.erase 2)) kr rfl ?_
 refine GH_nil (ad:=⟨d,0,none⟩) 1 rfl rfl rfl kr kr kr kr kr (fun w h=>(h.erase 2)) ?_
 refine GH_p (fuel:=12) [(2,0)] (fun w h=>(h.erase 2)) kr rfl ?_
 refine GH_take' 3 kr (fun w h=>(h.erase 2)) (GL_load (i:=3) (ch:=[]) (b:=d) (off:=4) (v:=.map (some cb)) rfl rfl kr kr kr kr kr (At.grp 1 0 rfl rfl) rfl (GL_yend kr rfl)) ?_
 refine GH_p (fuel:=9) [(4,0),(5,0)] (fun w h=>(h.erase 2)) kr rfl ?_
 refine GH_nil (ad:=⟨d,0,none⟩) 6 rfl rfl rfl kr kr kr kr kr (fun w h=>(h.erase 2)) ?_
 refine GH_p (fuel:=7) [(7,0)] (fun w h=>(h.erase 2)) kr rfl ?_
 refine GH_take' 8 kr (fun w h=>(h.erase 2)) (GL_load (i:=8) (ch:=[]) (b:=d) (off:=4) (v:=.map (some cb)) rfl rfl kr kr kr kr kr (At.grp 1 0 rfl rfl) rfl (GL_yend kr rfl)) ?_
 refine GH_p (fuel:=4) [(9,0),(11,0)] (fun w h=>(h.erase 2)) kr rfl ?_
 refine GH_eff2 10 12 kr kr kr kr kr ?_ ?_
 ·
  refine GL_lookup (i:=10) (ch:=[]) (kt:=9) (et:=118) (r:=cb) (c:=cc) (m:=cm) (k:=dir) (z:=.slice none 0 0) (ov:=none) rfl rfl kr kr kr kr kr kr kr kr (At.grp 2 0 rfl rfl) (fun _=>hg) ?_
  refine GH_back kr (fun w h=>(h.erase 2)) ?_
  refine GH_eff 12 kr kr kr ?_
  refine GL_buildSlice (i:=12) (ch:=[]) (e:=80) (l:=[(0,.map (some q))]) (c:=[.map (some q)]) rfl rfl kr kr kr kr kr (fun b3=>?_)
  refine GH_back kr (fun w h=>((h.erase 3).erase 0)) ?_
  refine GH_more ([(b3,.cells #[.map (some q)] 80 (0,0))]::[(nb,.map (encM ((foldS (nm,nc) dn1).1)) ((foldS (nm,nc) dn1).2))]::[(d,.cells #[.int .i64 room,bv,.map (some nb),.map (some kb),.map (some cb),.bool fails,.bool once,.int .i64 calls] 72 (0,0))]::H) (fun w h=>(h.erase 0)) ?_
  refine GH_eff 13 kr kr kr ?_
  refine GL_heap rfl (H':=([]::[(b3,.cells #[.map (some q)] 80 (0,0))]::[(nb,.map (encM ((foldS (nm,nc) dn1).1)) ((foldS (nm,nc) dn1).2))]::[(d,.cells #[.int .i64 room,bv,.map (some nb),.map (some kb),.map (some cb),.bool fails,.bool once,.int .i64 calls] 72 (0,0))]::[(cb,.map (encM cm) cc)]::H)) (fun w h=>h.flat (List.Perm.refl _)) ?_
  refine GL_append (i:=13) (ch:=[]) (t:=118) (tx:=118) (e:=80) (inf:=Tryz.t80) (s:=.slice none 0 0) (x:=.slice (some ⟨b3,0,none⟩) 1 1) (n:=0) (m:=1) (j:=0) (cs:=[]) (news:=[.map (some q)]) (g:=[]) (S:=(inG [(b3,.cells #[.map (some q)] 80 (0,0))])) rfl rfl rfl rfl kr kr kr rfl rfl (.inl ⟨80,kr⟩) (fun ⟨_,h⟩=>by cases h) (fun _=>⟨80,kr⟩) kr kr kr rfl Go.Sw.Own.nil (SrcOf.slice _ _ _ _ Rd.lit (fun h=>by cases h)) (at_inG 1 rfl) kr (by intro u hu; rcases List.mem_singleton.1 hu with rfl; rfl) (by omega) (by show (0+1) * 8 ≤ 140737488355328; omega) (fun v4 g5 hO6=>?_)
  refine GH_back kr (fun w h=>((h.erase 4).erase 0)) ?_
  refine GH_more (g5::[(b3,.cells #[.map (some q)] 80 (0,0))]::[(nb,.map (encM ((foldS (nm,nc) dn1).1)) ((foldS (nm,nc) dn1).2))]::[(d,.cells #[.int .i64 room,bv,.map (some nb),.map (some kb),.map (some cb),.bool fails,.bool once,.int .i64 calls] 72 (0,0))]::H) (fun w h=>(h.erase 0)) ?_
  refine GH_eff 14 kr kr kr ?_
  refine GL_mapPut (i:=14) (ch:=[]) (kt:=9) (et:=118) (r:=cb) (c:=cc) (j:=4) (q:=0) (m:=cm) (k:=dir) (v:=v4) (H':=(g5::[(b3,.cells #[.map (some q)] 80 (0,0))]::[(nb,.map (encM ((foldS (nm,nc) dn1).1)) ((foldS (nm,nc) dn1).2))]::[(d,.cells #[.int .i64 room,bv,.map (some nb),.map (some kb),.map (some cb),.bool fails,.bool once,.int .i64 calls] 72 (0,0))]::[(cb,.map (encM (mput cm cc dir (v4))) (if mhas cm dir then cc else cc+1))]::H)) rfl (.inl rfl) kr kr kr kr kr kr kr kr rfl rfl rfl ?_
  refine GH_back kr (fun w h=>(h.erase 4)) ?_
  refine GH_done (E':=[]) [] kr kr ?_
  refine N_heap (H':=([(d,.cells #[.int .i64 room,bv,.map (some nb),.map (some kb),.map (some cb),.bool fails,.bool once,.int .i64 calls] 72 (0,0))]::[(nb,.map (encM ((foldS (nm,nc) dn1).1)) ((foldS (nm,nc) dn1).2))]::[(cb,.map (encM (mput cm cc dir (v4))) (if mhas cm dir then cc else cc+1))]::g5::H)) (fun w h=>((((h.front (j:=4) rfl).front (j:=3) rfl).front (j:=4) rfl).erase 4)) ?_
  refine N_ret [] [] rfl kr rfl ?_
  exact ⟨_, _, g5, hdn2, hO6, rfl, rfl⟩
 ·
  refine GL_buildSlice (i:=12) (ch:=[]) (e:=80) (l:=[(0,.map (some q))]) (c:=[.map (some q)]) rfl rfl kr kr kr kr kr (fun b7=>?_)
  refine GH_back kr (fun w h=>((h.erase 3).erase 0)) ?_
  refine GH_more ([(b7,.cells #[.map (some q)] 80 (0,0))]::[(nb,.map (encM ((foldS (nm,nc) dn1).1)) ((foldS (nm,nc) dn1).2))]::[(d,.cells #[.int .i64 room,bv,.map (some nb),.map (some kb),.map (some cb),.bool fails,.bool once,.int .i64 calls] 72 (0,0))]::H) (fun w h=>(h.erase 0)) ?_
  refine GH_eff 10 kr kr kr ?_
  refine GL_lookup (i:=10) (ch:=[]) (kt:=9) (et:=118) (r:=cb) (c:=cc) (m:=cm) (k:=dir) (z:=.slice none 0 0) (ov:=none) rfl rfl kr kr kr kr kr kr kr kr (At.grp 3 0 rfl rfl) (fun _=>hg) ?_
  refine GH_back kr (fun w h=>(h.erase 3)) ?_
  refine GH_eff 13 kr kr kr ?_
  refine GL_heap rfl (H':=([]::[(b7,.cells #[.map (some q)] 80 (0,0))]::[(nb,.map (encM ((foldS (nm,nc) dn1).1)) ((foldS (nm,nc) dn1).2))]::[(d,.cells #[.int .i64 room,bv,.map (some nb),.map (some kb),.map (some cb),.bool fails,.bool once,.int .i64 calls] 72 (0,0))]::[(cb,.map (encM cm) cc)]::H)) (fun w h=>h.flat (List.Perm.refl _)) ?_
  refine GL_append (i:=13) (ch:=[]) (t:=118) (tx:=118) (e:=80) (inf:=Tryz.t80) (s:=.slice none 0 0) (x:=.slice (some ⟨b7,0,none⟩) 1 1) (n:=0) (m:=1) (j:=0) (cs:=[]) (news:=[.map (some q)]) (g:=[]) (S:=(inG [(b7,.cells #[.map (some q)] 80 (0,0))])) rfl rfl rfl rfl kr kr kr rfl rfl (.inl ⟨80,kr⟩) (fun ⟨_,h⟩=>by cases h) (fun _=>⟨80,kr⟩) kr kr kr rfl Go.Sw.Own.nil (SrcOf.slice _ _ _ _ Rd.lit (fun h=>by cases h)) (at_inG 1 rfl) kr (by intro u hu; rcases List.mem_singleton.1 hu with rfl; rfl) (by omega) (by show (0+1) * 8 ≤ 140737488355328; omega) (fun v8 g9 hO10=>?_)
  refine GH_back kr (fun w h=>((h.erase 4).erase 0)) ?_
  refine GH_more (g9::[(b7,.cells #[.map (some q)] 80 (0,0))]::[(nb,.map (encM ((foldS (nm,nc) dn1).1)) ((foldS (nm,nc) dn1).2))]::[(d,.cells #[.int .i64 room,bv,.map (some nb),.map (some kb),.map (some cb),.bool fails,.bool once,.int .i64 calls] 72 (0,0))]::H) (fun w h=>(h.erase 0)) ?_
  refine GH_eff 14 kr kr kr ?_
  refine GL_mapPut (i:=14) (ch:=[]) (kt:=9) (et:=118) (r:=cb) (c:=cc) (j:=4) (q:=0) (m:=cm) (k:=dir) (v:=v8) (H':=(g9::[(b7,.cells #[.map (some q)] 80 (0,0))]::[(nb,.map (encM ((foldS (nm,nc) dn1).1)) ((foldS (nm,nc) dn1).2))]::[(d,.cells #[.int .i64 room,bv,.map (some nb),.map (some kb),.map (some cb),.bool fails,.bool once,.int .i64 calls] 72 (0,0))]::[(cb,.map (encM (mput cm cc dir (v8))) (if mhas cm dir then cc else cc+1))]::H)) rfl (.inl rfl) kr kr kr kr kr kr kr kr rfl rfl rfl ?_
  refine GH_back kr (fun w h=>(h.erase 4)) ?_
  refine GH_done (E':=[]) [] kr kr ?_
  refine N_heap (H':=([(d,.cells #[.int .i64 room,bv,.map (some nb),.map (some kb),.map (some cb),.bool fails,.bool once,.int .i64 calls] 72 (0,0))]::[(nb,.map (encM ((foldS (nm,nc) dn1).1)) ((foldS (nm,nc) dn1).2))]::[(cb,.map (encM (mput cm cc dir (v8))) (if mhas cm dir then cc else cc+1))]::g9::H)) (fun w h=>((((h.front (j:=4) rfl).front (j:=3) rfl).front (j:=4) rfl).erase 4)) ?_
  refine N_ret [] [] rfl kr rfl ?_
  exact ⟨_, _, g9, hdn2, hO10, rfl, rfl⟩
end Go.Proofs.YtlaoeiaaeifidaaGreat
namespace Go.Proofs.YtlaoeiaaeifidaaGreat
open Go.Sw Go.Lib Go.Vf Go.RowKit
theorem vSyncNo (d nb kb cb nc : Nat) (room calls : Int) (bv : Value) (fails once : Bool) (nm : SM) (path : ByteArray) (hpath : path.size ≤ 9223372036854775807) (hca : -9223372036854775808 ≤ calls ∧ calls ≤ 9223372036854775807) (hg : mget nm path = none) (W0 : World) (H : List Grp) : Tri Tryz.prog 86 #[pt d, .string path] W0 ([(d, .cells #[.int .i64 room, bv, .map (some nb), .map (some kb), .map (some cb), .bool fails, .bool once, .int .i64 calls] 72 (0, 0))] :: [(nb, .map (encM nm) nc)] :: H) (fun v H' => ((callS fails once calls (rightB path)).1 ≠ 0 ∧ v = .int .i64 (callS fails once calls (rightB path)).1 ∧ H' = ([(d, .cells #[.int .i64 room, bv, .map (some nb), .map (some kb), .map (some cb), .bool ((callS fails once calls (rightB path)).2.1), .bool once, .int .i64 ((callS fails once calls (rightB path)).2.2)] 72 (0, 0))] :: [(nb, .map (encM nm) nc)] :: H)) ∨ ((callS fails once calls (rightB path)).1 = 0 ∧ v = .int .i64 60 ∧ H' = ([(d, .cells #[.int .i64 room, bv, .map (some nb), .map (some kb), .map (some cb), .bool ((callS fails once calls (rightB path)).2.1), .bool once, .int .i64 ((callS fails once calls (rightB path)).2.2)] 72 (0, 0))] :: [(nb, .map (encM nm) nc)] :: H))) := by
 refine Tri_of (args := [pt d, .string path]) (n := 29) Tryz.func86 rfl rfl (Nat.le_of_ble_eq_true rfl) ?_
 refine G_seq ?_
 refine G_pure (E':=[⟨0,[],pt d⟩,⟨1,[],.string path⟩]) [0] [0,1] rfl kr ?_
 refine N_then ?_
 refine G_seq ?_
 refine G_seq ?_
 refine G_region ?_
 refine GL_p [0,0] kr (j:=2) rfl ?_
 refine GL_callQ (i:=2) (ch:=[]) (f:=34) (fst:=#[]) (caps:=#[]) (vs:=[.string path]) (v:=.bool (rightB path)) rfl rfl rfl kr kr Tryz.func34 rfl rfl kr kr kr (fun _=>vfsRight _ hpath _ _) ?_
 refine GL_call (i:=3) (ch:=[]) (f:=33) (fst:=#[]) (caps:=#[]) (vs:=[pt d,.bool (rightB path)]) rfl rfl rfl kr kr Tryz.func33 rfl rfl kr kr (chSure_of kr) (vCall d nb kb cb room calls bv fails once (rightB path) hca _ _) ?_
 rintro v H' ⟨rfl, rfl⟩
 refine GL_fin (E':=[⟨0,[],pt d⟩,⟨1,[],.string path⟩,⟨5,[],.int .i64 ((callS fails once calls (rightB path)).1)⟩]) [0] [0,1,5] rfl kr ?_
 refine N_then ?_
 refine G_seq ?_
 refine G_pure (E':=[⟨0,[],pt d⟩,⟨1,[],.string path⟩,⟨5,[],.int .i64 ((callS fails once calls (rightB path)).1)⟩,⟨12,[],.bool (((callS fails once calls (rightB path)).1) != 0)⟩]) [0,0] [0,1,5,12] rfl kr ?_
 refine N_then ?_
 refine G_cond (b:=((callS fails once calls (rightB path)).1) != 0) kr (fun hc1=>?_) (fun hc1=>?_)
 ·
  have hce : (callS fails once calls (rightB path)).1 ≠ 0 := by simpa using hc1
  refine G_seq ?_
  refine G_pure (E':=[⟨4,[],.int .i64 ((callS fails once calls (rightB path)).1)⟩]) [0,0] [4] rfl kr ?_
  refine N_then ?_
  refine G_ret ?_
  refine N_then_ret ?_
  refine N_ret [.tmp 4] [.int .i64 ((callS fails once calls (rightB path)).1)] rfl kr rfl ?_
  exact .inl ⟨hce, rfl, rfl⟩
 ·
  have hce : (callS fails once calls (rightB path)).1 = 0 := by simpa using hc1
  refine G_skip ?_
  refine N_then ?_
  refine G_seq ?_
  refine G_region ?_
  refine GL_p [0,0,0] kr (j:=3) rfl ?_
  refine GL_load (i:=3) (ch:=[]) (b:=d) (off:=2) (v:=.map (some nb)) rfl rfl kr kr kr kr kr (At.grp 0 0 rfl rfl) rfl ?_
  refine GL_p [0] kr (j:=5) rfl ?_
  refine GL_lookup (i:=5) (ch:=[]) (kt:=9) (et:=74) (r:=nb) (c:=nc) (m:=nm) (k:=path) (z:=.pointer none) (ov:=none) rfl rfl kr kr kr kr kr kr kr kr (At.grp 1 0 rfl rfl) (fun _=>hg) ?_
  refine GL_fin (E':=[⟨6,[],.pointer none⟩]) [0] [6] rfl kr ?_
  refine N_then ?_
  refine G_seq ?_
  refine G_seq ?_
  refine G_pure (E':=[⟨6,[],.pointer none⟩,⟨21,[],.bool true⟩]) [0,0] [6,21] rfl kr ?_
  refine N_then ?_
  refine G_condt kr ?_
  refine G_seq ?_
  refine G_pure (E':=[⟨4,[],.int .i64 60⟩]) [0] [4] rfl kr ?_
  refine N_then ?_
  refine G_ret ?_
  refine N_then_ret ?_
  refine N_ret [.tmp 4] [.int .i64 60] rfl kr rfl ?_
  exact .inr ⟨hce, rfl, rfl⟩
theorem vSyncYes (d nb kb cb nc : Nat) (room calls : Int) (bv : Value) (fails once : Bool) (nm : SM) (path : ByteArray) (hpath : path.size ≤ 9223372036854775807) (hca : -9223372036854775808 ≤ calls ∧ calls ≤ 9223372036854775807) (p n cn m ck : Nat) (an ak : Option Addr) (hg : mget nm path = some (.pointer (some ⟨p, 0, none⟩))) (W0 : World) (H : List Grp) : Tri Tryz.prog 86 #[pt d, .string path] W0 ([(d, .cells #[.int .i64 room, bv, .map (some nb), .map (some kb), .map (some cb), .bool fails, .bool once, .int .i64 calls] 72 (0, 0))] :: [(nb, .map (encM nm) nc)] :: [(p, .cells #[.slice an n cn, .slice ak m ck] 76 (0, 0))] :: H) (fun v H' => ((callS fails once calls (rightB path)).1 ≠ 0 ∧ v = .int .i64 (callS fails once calls (rightB path)).1 ∧ H' = ([(d, .cells #[.int .i64 room, bv, .map (some nb), .map (some kb), .map (some cb), .bool ((callS fails once calls (rightB path)).2.1), .bool once, .int .i64 ((callS fails once calls (rightB path)).2.2)] 72 (0, 0))] :: [(nb, .map (encM nm) nc)] :: [(p, .cells #[.slice an n cn, .slice ak m ck] 76 (0, 0))] :: H)) ∨ ((callS fails once calls (rightB path)).1 = 0 ∧ v = .int .i64 0 ∧ H' = ([(d, .cells #[.int .i64 room, bv, .map (some nb), .map (some kb), .map (some cb), .bool ((callS fails once calls (rightB path)).2.1), .bool once, .int .i64 ((callS fails once calls (rightB path)).2.2)] 72 (0, 0))] :: [(nb, .map (encM nm) nc)] :: [(p, .cells #[.slice an n cn, .slice an n cn] 76 (0, 0))] :: H))) := by
 refine Tri_of (args := [pt d, .string path]) (n := 29) Tryz.func86 rfl rfl (Nat.le_of_ble_eq_true rfl) ?_
 refine G_seq ?_
 refine G_pure (E':=[⟨0,[],pt d⟩,⟨1,[],.string path⟩]) [0] [0,1] rfl kr ?_
 refine N_then ?_
 refine G_seq ?_
 refine G_seq ?_
 refine G_region ?_
 refine GL_p [0,0] kr (j:=2) rfl ?_
 refine GL_callQ (i:=2) (ch:=[]) (f:=34) (fst:=#[]) (caps:=#[]) (vs:=[.string path]) (v:=.bool (rightB path)) rfl rfl rfl kr kr Tryz.func34 rfl rfl kr kr kr (fun _=>vfsRight _ hpath _ _) ?_
 refine GL_call (i:=3) (ch:=[]) (f:=33) (fst:=#[]) (caps:=#[]) (vs:=[pt d,.bool (rightB path)]) rfl rfl rfl kr kr Tryz.func33 rfl rfl kr kr (chSure_of kr) (vCall d nb kb cb room calls bv fails once (rightB path) hca _ _) ?_
 rintro v H' ⟨rfl, rfl⟩
 refine GL_fin (E':=[⟨0,[],pt d⟩,⟨1,[],.string path⟩,⟨5,[],.int .i64 ((callS fails once calls (rightB path)).1)⟩]) [0] [0,1,5] rfl kr ?_
 refine N_then ?_
 refine G_seq ?_
 refine G_pure (E':=[⟨0,[],pt d⟩,⟨1,[],.string path⟩,⟨5,[],.int .i64 ((callS fails once calls (rightB path)).1)⟩,⟨12,[],.bool (((callS fails once calls (rightB path)).1) != 0)⟩]) [0,0] [0,1,5,12] rfl kr ?_
 refine N_then ?_
 refine G_cond (b:=((callS fails once calls (rightB path)).1) != 0) kr (fun hc1=>?_) (fun hc1=>?_)
 ·
  have hce : (callS fails once calls (rightB path)).1 ≠ 0 := by simpa using hc1
  refine G_seq ?_
  refine G_pure (E':=[⟨4,[],.int .i64 ((callS fails once calls (rightB path)).1)⟩]) [0,0] [4] rfl kr ?_
  refine N_then ?_
  refine G_ret ?_
  refine N_then_ret ?_
  refine N_ret [.tmp 4] [.int .i64 ((callS fails once calls (rightB path)).1)] rfl kr rfl ?_
  exact .inl ⟨hce, rfl, rfl⟩
 ·
  have hce : (callS fails once calls (rightB path)).1 = 0 := by simpa using hc1
  refine G_skip ?_
  refine N_then ?_
  refine G_seq ?_
  refine G_region ?_
  refine GL_p [0,0,0] kr (j:=3) rfl ?_
  refine GL_load (i:=3) (ch:=[]) (b:=d) (off:=2) (v:=.map (some nb)) rfl rfl kr kr kr kr kr (At.grp 0 0 rfl rfl) rfl ?_
  refine GL_p [0] kr (j:=5) rfl ?_
  refine GL_lookup (i:=5) (ch:=[]) (kt:=9) (et:=74) (r:=nb) (c:=nc) (m:=nm) (k:=path) (z:=.pointer none) (ov:=(some (pt p))) rfl rfl kr kr kr kr kr kr kr kr (At.grp 1 0 rfl rfl) (fun _=>hg) ?_
  refine GL_fin (E':=[⟨6,[],pt p⟩]) [0] [6] rfl kr ?_
  refine N_then ?_
  refine G_seq ?_
  refine G_seq ?_
  refine G_pure (E':=[⟨6,[],pt p⟩,⟨21,[],.bool false⟩]) [0,0] [6,21] rfl kr ?_
  refine N_then ?_
  refine G_condf kr ?_
  refine G_skip ?_
  refine N_then ?_
  refine G_seq ?_
  refine G_region ?_
  refine GL_p [0,0,0,0] kr (j:=4) rfl ?_
  refine GL_load (i:=4) (ch:=[]) (b:=p) (off:=0) (v:=.slice an n cn) rfl rfl kr kr kr kr kr (At.grp 2 0 rfl rfl) rfl ?_
  refine GL_p [0,0] kr (j:=7) rfl ?_
  refine GL_st (i:=7) (ch:=[]) (b:=p) (off:=1) (v:=.slice an n cn) (j:=2) ([(d,.cells #[.int .i64 room,bv,.map (some nb),.map (some kb),.map (some cb),.bool ((callS fails once calls (rightB path)).2.1),.bool once,.int .i64 ((callS fails once calls (rightB path)).2.2)] 72 (0,0))]::[(nb,.map (encM nm) nc)]::[(p,.cells #[.slice an n cn,.slice an n cn] 76 (0,0))]::H) rfl rfl kr kr kr kr kr kr kr rfl rfl (Nat.le_of_ble_eq_true rfl) (fun _ _=>thaw0) kr ?_
  refine GL_fin (E':=[]) [] [] rfl kr ?_
  refine N_then ?_
  refine G_seq ?_
  refine G_pure (E':=[⟨4,[],.int .i64 0⟩]) [0] [4] rfl kr ?_
  refine N_then ?_
  refine G_ret ?_
  refine N_ret [.tmp 4] [.int .i64 0] rfl kr rfl ?_
  exact .inr ⟨hce, rfl, rfl⟩
theorem vSyncDirNo (d nb kb cb kc cc : Nat) (room calls : Int) (bv : Value) (fails once : Bool) (km cm : SM) (dir : ByteArray) (hdir : dir.size ≤ 9223372036854775807) (hca : -9223372036854775808 ≤ calls ∧ calls ≤ 9223372036854775807) (hk : MapOk km kc) (hg : mget cm dir = none) (W0 : World) (H : List Grp) : Tri Tryz.prog 87 #[pt d, .string dir] W0 ([(d, .cells #[.int .i64 room, bv, .map (some nb), .map (some kb), .map (some cb), .bool fails, .bool once, .int .i64 calls] 72 (0, 0))] :: [(kb, .map (encM km) kc)] :: [(cb, .map (encM cm) cc)] :: H) (fun v H' => ((callS fails once calls ((dir.toList == (ByteArray.mk #[]).toList) || partB dir)).1 ≠ 0 ∧ v = .int .i64 (callS fails once calls ((dir.toList == (ByteArray.mk #[]).toList) || partB dir)).1 ∧ H' = ([(d, .cells #[.int .i64 room, bv, .map (some nb), .map (some kb), .map (some cb), .bool ((callS fails once calls ((dir.toList == (ByteArray.mk #[]).toList) || partB dir)).2.1), .bool once, .int .i64 ((callS fails once calls ((dir.toList == (ByteArray.mk #[]).toList) || partB dir)).2.2)] 72 (0, 0))] :: [(kb, .map (encM km) kc)] :: [(cb, .map (encM cm) cc)] :: H)) ∨ ((callS fails once calls ((dir.toList == (ByteArray.mk #[]).toList) || partB dir)).1 = 0 ∧ v = .int .i64 0 ∧ H' = ([(d, .cells #[.int .i64 room, bv, .map (some nb), .map (some kb), .map (some cb), .bool ((callS fails once calls ((dir.toList == (ByteArray.mk #[]).toList) || partB dir)).2.1), .bool once, .int .i64 ((callS fails once calls ((dir.toList == (ByteArray.mk #[]).toList) || partB dir)).2.2)] 72 (0, 0))] :: [(kb, .map (encM km) kc)] :: [(cb, .map (encM (mdel cm dir)) cc)] :: H))) := by
 refine Tri_of (args := [pt d, .string dir]) (n := 42) Tryz.func87 rfl rfl (Nat.le_of_ble_eq_true rfl) ?_
 refine G_seq ?_
 refine G_pure (E':=[⟨0,[],pt d⟩,⟨1,[],.string dir⟩]) [0] [0,1] rfl kr ?_
 refine N_then ?_
 refine G_seq ?_
 refine G_seq ?_
 refine G_region ?_
 refine GL_p [0,0,0,0,0] kr (j:=5) rfl ?_
 refine GL_callQ (i:=5) (ch:=[(11,false)]) (f:=76) (fst:=#[]) (caps:=#[]) (vs:=[.string dir]) (v:=.bool (partB dir)) rfl rfl rfl kr kr Tryz.func76 rfl rfl kr kr kr (fun hc=>vfsPart _ hdir _ _) ?_
 refine GL_p [5] kr (j:=7) rfl ?_
 refine GL_call (i:=7) (ch:=[]) (f:=33) (fst:=#[]) (caps:=#[]) (vs:=[pt d,.bool ((dir.toList == (ByteArray.mk #[]).toList)||(partB dir))]) rfl rfl rfl kr kr Tryz.func33 rfl rfl kr kr (chSure_of kr) (vCall d nb kb cb room calls bv fails once ((dir.toList == (ByteArray.mk #[]).toList)||(partB dir)) hca _ _) ?_
 rintro v H' ⟨rfl, rfl⟩
 refine GL_fin (E':=[⟨0,[],pt d⟩,⟨1,[],.string dir⟩,⟨5,[],.int .i64 ((callS fails once calls ((dir.toList == (ByteArray.mk #[]).toList)||(partB dir))).1)⟩]) [0] [0,1,5] rfl kr ?_
 refine N_then ?_
 refine G_seq ?_
 refine G_pure (E':=[⟨0,[],pt d⟩,⟨1,[],.string dir⟩,⟨5,[],.int .i64 ((callS fails once calls ((dir.toList == (ByteArray.mk #[]).toList)||(partB dir))).1)⟩,⟨17,[],.bool (((callS fails once calls ((dir.toList == (ByteArray.mk #[]).toList)||(partB dir))).1) != 0)⟩]) [0,0] [0,1,5,17] rfl kr ?_
 refine N_then ?_
 refine G_cond (b:=((callS fails once calls ((dir.toList == (ByteArray.mk #[]).toList)||(partB dir))).1) != 0) kr (fun hc1=>?_) (fun hc1=>?_)
 ·
  have hce : (callS fails once calls ((dir.toList == (ByteArray.mk #[]).toList) || partB dir)).1 ≠ 0 := by simpa using hc1
  refine G_seq ?_
  refine G_pure (E':=[⟨4,[],.int .i64 ((callS fails once calls ((dir.toList == (ByteArray.mk #[]).toList)||(partB dir))).1)⟩]) [0,0] [4] rfl kr ?_
  refine N_then ?_
  refine G_ret ?_
  refine N_then_ret ?_
  refine N_ret [.tmp 4] [.int .i64 ((callS fails once calls ((dir.toList == (ByteArray.mk #[]).toList)||(partB dir))).1)] rfl kr rfl ?_
  exact .inl ⟨hce, rfl, rfl⟩
 ·
  have hce : (callS fails once calls ((dir.toList == (ByteArray.mk #[]).toList) || partB dir)).1 = 0 := by simpa using hc1
  refine G_skip ?_
  refine N_then ?_
  refine G_seq ?_
  refine G_seq ?_
  refine G_region ?_
  refine GL_p [0,0,0] kr (j:=3) rfl ?_
  refine GL_load (i:=3) (ch:=[]) (b:=d) (off:=4) (v:=.map (some cb)) rfl rfl kr kr kr kr kr (At.grp 0 0 rfl rfl) rfl ?_
  refine GL_p [0] kr (j:=5) rfl ?_
  refine GL_lookup (i:=5) (ch:=[]) (kt:=9) (et:=118) (r:=cb) (c:=cc) (m:=cm) (k:=dir) (z:=.slice none 0 0) (ov:=none) rfl rfl kr kr kr kr kr kr kr kr (At.grp 2 0 rfl rfl) (fun _=>hg) ?_
  refine GL_fin (E':=[⟨0,[],pt d⟩,⟨1,[],.string dir⟩,⟨24,[],.slice none 0 0⟩,⟨25,[],.int .i64 0⟩,⟨26,[],.int .i64 0⟩]) [0,0] [0,1,24,25,26] rfl kr ?_
  refine N_then ?_
  refine G_block ?_
  refine G_loop (EI:=(fun ξ : Unit=>[⟨0,[],pt d⟩,⟨1,[],.string dir⟩,⟨24,[],.slice none 0 0⟩,⟨25,[],.int .i64 0⟩,⟨26,[],.int .i64 0⟩])) (HI:=(fun ξ : Unit=>([(d,.cells #[.int .i64 room,bv,.map (some nb),.map (some kb),.map (some cb),.bool ((callS fails once calls ((dir.toList == (ByteArray.mk #[]).toList)||(partB dir))).2.1),.bool once,.int .i64 ((callS fails once calls ((dir.toList == (ByteArray.mk #[]).toList)||(partB dir))).2.2)] 72 (0,0))]::[(kb,.map (encM km) kc)]::[(cb,.map (encM cm) cc)]::H))) (Φ:=(fun ξ : Unit=>True)) (μ:=(fun ξ : Unit=>0)) (s0:=(())) [0,1,24,25,26] kr rfl trivial ?_
  rintro u _
  refine G_seq ?_
  refine G_pure (E':=[⟨0,[],pt d⟩,⟨1,[],.string dir⟩,⟨24,[],.slice none 0 0⟩,⟨25,[],.int .i64 0⟩,⟨26,[],.int .i64 0⟩,⟨27,[],.bool false⟩]) [0] [0,1,24,25,26,27] rfl kr ?_
  refine N_then ?_
  refine G_seq ?_
  refine G_condf kr ?_
  refine G_exit ?_
  refine N_then_exit ?_
  refine N_then_exit ?_
  refine N_block_exit ?_
  refine N_then ?_
  refine G_seq ?_
  refine G_region ?_
  refine GL_p [0,0,0] kr (j:=3) rfl ?_
  refine GL_load (i:=3) (ch:=[]) (b:=d) (off:=4) (v:=.map (some cb)) rfl rfl kr kr kr kr kr (At.grp 0 0 rfl rfl) rfl ?_
  refine GL_p [0] kr (j:=5) rfl ?_
  refine GL_delete (i:=5) (ch:=[]) (ts:=#[69,9]) (t:=69) (kt:=9) (et:=118) (r:=cb) (c:=cc) (j:=2) (q:=0) (m:=cm) (k:=dir) (H':=([(d,.cells #[.int .i64 room,bv,.map (some nb),.map (some kb),.map (some cb),.bool ((callS fails once calls ((dir.toList == (ByteArray.mk #[]).toList)||(partB dir))).2.1),.bool once,.int .i64 ((callS fails once calls ((dir.toList == (ByteArray.mk #[]).toList)||(partB dir))).2.2)] 72 (0,0))]::[(kb,.map (encM km) kc)]::[(cb,.map (encM (mdel cm dir)) cc)]::H)) rfl rfl rfl rfl rfl kr kr kr kr kr kr rfl rfl rfl ?_
  refine GL_fin (E':=[]) [] [] rfl kr ?_
  refine N_then ?_
  refine G_seq ?_
  refine G_pure (E':=[⟨4,[],.int .i64 0⟩]) [0] [4] rfl kr ?_
  refine N_then ?_
  refine G_ret ?_
  refine N_ret [.tmp 4] [.int .i64 0] rfl kr rfl ?_
  exact .inr ⟨hce, rfl, rfl⟩
end Go.Proofs.YtlaoeiaaeifidaaGreat
namespace Go.Proofs.YtlaoeiaaeifidaaGreat
open Go.Sw Go.Lib Go.Vf Go.RowKit
theorem vSyncDir (d nb kb cb kc cc : Nat) (room calls : Int) (bv : Value) (fails once : Bool) (km cm : SM) (dir : ByteArray) (hdir : dir.size ≤ 9223372036854775807) (hca : -9223372036854775808 ≤ calls ∧ calls ≤ 9223372036854775807) (hk : MapOk km kc) (ra : Option Addr) (rc : Nat) (S : Nat → Obj → Prop) (qs : List Nat) (xs : List SM) (xcs : List Nat) (hl : xs.length = qs.length) (hq : qs.length ≤ 1000000) (hrd : Rd S ra (qs.map fun q => Value.map (some q))) (hg : mget cm dir = some (.slice ra qs.length rc)) (W0 : World) (H : List Grp) (hS : ∀ y o, S y o → At W0 H y o) (hAll : ∀ i, i < qs.length → At W0 H (qs.getD i 0) (.map (encM (xs.getD i [])) (xcs.getD i 0)) ∧ MapOk (xs.getD i []) (xcs.getD i 0) ∧ ∀ e ∈ xs.getD i [], e.2.1 = .pointer none ∨ ∃ p, e.2.1 = .pointer (some ⟨p, 0, none⟩)) : Tri Tryz.prog 87 #[pt d, .string dir] W0 ([(d, .cells #[.int .i64 room, bv, .map (some nb), .map (some kb), .map (some cb), .bool fails, .bool once, .int .i64 calls] 72 (0, 0))] :: [(kb, .map (encM km) kc)] :: [(cb, .map (encM cm) cc)] :: H) (fun v H' => ((callS fails once calls ((dir.toList == (ByteArray.mk #[]).toList) || partB dir)).1 ≠ 0 ∧ v = .int .i64 (callS fails once calls ((dir.toList == (ByteArray.mk #[]).toList) || partB dir)).1 ∧ H' = ([(d, .cells #[.int .i64 room, bv, .map (some nb), .map (some kb), .map (some cb), .bool ((callS fails once calls ((dir.toList == (ByteArray.mk #[]).toList) || partB dir)).2.1), .bool once, .int .i64 ((callS fails once calls ((dir.toList == (ByteArray.mk #[]).toList) || partB dir)).2.2)] 72 (0, 0))] :: [(kb, .map (encM km) kc)] :: [(cb, .map (encM cm) cc)] :: H)) ∨ ((callS fails once calls ((dir.toList == (ByteArray.mk #[]).toList) || partB dir)).1 = 0 ∧ v = .int .i64 0 ∧ ∃ km1 kc1, MadeOf xs (km, kc) (km1, kc1) ∧ H' = ([(d, .cells #[.int .i64 room, bv, .map (some nb), .map (some kb), .map (some cb), .bool ((callS fails once calls ((dir.toList == (ByteArray.mk #[]).toList) || partB dir)).2.1), .bool once, .int .i64 ((callS fails once calls ((dir.toList == (ByteArray.mk #[]).toList) || partB dir)).2.2)] 72 (0, 0))] :: [(kb, .map (encM km1) kc1)] :: [(cb, .map (encM (mdel cm dir)) cc)] :: H))) := by
 refine Tri_of (args := [pt d, .string dir]) (n := 42) Tryz.func87 rfl rfl (Nat.le_of_ble_eq_true rfl) ?_
 refine G_seq ?_
 refine G_pure (E':=[⟨0,[],pt d⟩,⟨1,[],.string dir⟩]) [0] [0,1] rfl kr ?_
 refine N_then ?_
 refine G_seq ?_
 refine G_seq ?_
 refine G_region ?_
 refine GL_p [0,0,0,0,0] kr (j:=5) rfl ?_
 refine GL_callQ (i:=5) (ch:=[(11,false)]) (f:=76) (fst:=#[]) (caps:=#[]) (vs:=[.string dir]) (v:=.bool (partB dir)) rfl rfl rfl kr kr Tryz.func76 rfl rfl kr kr kr (fun hc=>vfsPart _ hdir _ _) ?_
 refine GL_p [5] kr (j:=7) rfl ?_
 refine GL_call (i:=7) (ch:=[]) (f:=33) (fst:=#[]) (caps:=#[]) (vs:=[pt d,.bool ((dir.toList == (ByteArray.mk #[]).toList)||(partB dir))]) rfl rfl rfl kr kr Tryz.func33 rfl rfl kr kr (chSure_of kr) (vCall d nb kb cb room calls bv fails once ((dir.toList == (ByteArray.mk #[]).toList)||(partB dir)) hca _ _) ?_
 rintro v H' ⟨rfl, rfl⟩
 refine GL_fin (E':=[⟨0,[],pt d⟩,⟨1,[],.string dir⟩,⟨5,[],.int .i64 ((callS fails once calls ((dir.toList == (ByteArray.mk #[]).toList)||(partB dir))).1)⟩]) [0] [0,1,5] rfl kr ?_
 refine N_then ?_
 refine G_seq ?_
 refine G_pure (E':=[⟨0,[],pt d⟩,⟨1,[],.string dir⟩,⟨5,[],.int .i64 ((callS fails once calls ((dir.toList == (ByteArray.mk #[]).toList)||(partB dir))).1)⟩,⟨17,[],.bool (((callS fails once calls ((dir.toList == (ByteArray.mk #[]).toList)||(partB dir))).1) != 0)⟩]) [0,0] [0,1,5,17] rfl kr ?_
 refine N_then ?_
 refine G_cond (b:=((callS fails once calls ((dir.toList == (ByteArray.mk #[]).toList)||(partB dir))).1) != 0) kr (fun hc1=>?_) (fun hc1=>?_)
 ·
  have hce : (callS fails once calls ((dir.toList == (ByteArray.mk #[]).toList) || partB dir)).1 ≠ 0 := by simpa using hc1
  refine G_seq ?_
  refine G_pure (E':=[⟨4,[],.int .i64 ((callS fails once calls ((dir.toList == (ByteArray.mk #[]).toList)||(partB dir))).1)⟩]) [0,0] [4] rfl kr ?_
  refine N_then ?_
  refine G_ret ?_
  refine N_then_ret ?_
  refine N_ret [.tmp 4] [.int .i64 ((callS fails once calls ((dir.toList == (ByteArray.mk #[]).toList)||(partB dir))).1)] rfl kr rfl ?_
  exact .inl ⟨hce, rfl, rfl⟩
 ·
  have hce : (callS fails once calls ((dir.toList == (ByteArray.mk #[]).toList) || partB dir)).1 = 0 := by simpa using hc1
  refine G_skip ?_
  refine N_then ?_
  refine G_seq ?_
  refine G_seq ?_
  refine G_region ?_
  refine GL_p [0,0,0] kr (j:=3) rfl ?_
  refine GL_load (i:=3) (ch:=[]) (b:=d) (off:=4) (v:=.map (some cb)) rfl rfl kr kr kr kr kr (At.grp 0 0 rfl rfl) rfl ?_
  refine GL_p [0] kr (j:=5) rfl ?_
  refine GL_lookup (i:=5) (ch:=[]) (kt:=9) (et:=118) (r:=cb) (c:=cc) (m:=cm) (k:=dir) (z:=.slice none 0 0) (ov:=(some (.slice ra qs.length rc))) rfl rfl kr kr kr kr kr kr kr kr (At.grp 2 0 rfl rfl) (fun _=>hg) ?_
  refine GL_fin (E':=[⟨0,[],pt d⟩,⟨1,[],.string dir⟩,⟨24,[],.slice ra qs.length rc⟩,⟨25,[],.int .i64 ((qs.length : Nat) : Int)⟩,⟨26,[],.int .i64 0⟩]) [0,0] [0,1,24,25,26] rfl kr ?_
  refine N_then ?_
  refine G_block ?_
  refine G_loop (EI:=(fun ξ : Nat × SM × Nat=>[⟨0,[],pt d⟩,⟨1,[],.string dir⟩,⟨24,[],.slice ra qs.length rc⟩,⟨25,[],.int .i64 ((qs.length : Nat) : Int)⟩,⟨26,[],.int .i64 ((ξ.1 : Nat) : Int)⟩])) (HI:=(fun ξ : Nat × SM × Nat=>([(d,.cells #[.int .i64 room,bv,.map (some nb),.map (some kb),.map (some cb),.bool ((callS fails once calls ((dir.toList == (ByteArray.mk #[]).toList)||partB dir)).2.1),.bool once,.int .i64 ((callS fails once calls ((dir.toList == (ByteArray.mk #[]).toList)||partB dir)).2.2)] 72 (0,0))]::[(kb,.map (encM ξ.2.1) ξ.2.2)]::[(cb,.map (encM cm) cc)]::H))) (Φ:=(fun ξ : Nat × SM × Nat=>(ξ.1 ≤ qs.length)∧(MadeOf (xs.take ξ.1) (km,kc) (ξ.2.1,ξ.2.2)))) (μ:=(fun ξ : Nat × SM × Nat=>qs.length - ξ.1)) (s0:=(0,km,kc)) [0,1,24,25,26] kr (by rfl) ⟨(by omega),(by rfl)⟩ ?_
  rintro ⟨k, km1, kc1⟩ ⟨hkk, hR⟩
  refine G_seq ?_
  refine G_pure (E':=[⟨0,[],pt d⟩,⟨1,[],.string dir⟩,⟨24,[],.slice ra qs.length rc⟩,⟨25,[],.int .i64 ((qs.length : Nat) : Int)⟩,⟨26,[],.int .i64 ((k : Nat) : Int)⟩,⟨27,[],.bool (decide (((k : Nat) : Int) < ((qs.length : Nat) : Int)))⟩]) [0] [0,1,24,25,26,27] rfl kr ?_
  refine N_then ?_
  refine G_seq ?_
  refine G_cond (b:=decide (((k : Nat) : Int) < ((qs.length : Nat) : Int))) kr (fun hc2=>?_) (fun hc2=>?_)
  ·
   simp at hc2
   refine G_skip ?_
   refine N_then ?_
   refine G_seq ?_
   refine G_block ?_
   refine G_seq ?_
   refine G_region ?_
   refine GL_indexAddr (i:=0) (ch:=[]) (a:=ra) (len:=qs.length) (cap:=rc) (kd:=.i64) (j:=((k : Nat) : Int)) (e:=80) (sz:=1) (S:=S) (cs:=(qs.map fun q=>Value.map (some q))) rfl rfl kr kr kr kr kr kr kr hrd (fun _=>by exact ⟨by omega,by omega,maps_ne (k:=k) (by omega)⟩) ?_
   refine GL_loadS (i:=1) (ch:=[]) (a:=ra) (q:=k * 1) (S:=S) (cs:=(qs.map fun q=>Value.map (some q))) (v:=.map (some (qs.getD k 0))) rfl rfl kr kr kr kr kr hrd (fun y o h=>(At.cons (At.cons (At.cons (hS y o h))))) (fun _=>(by rw [Nat.mul_one]; exact map_at (by omega))) ?_
   refine GL_fin (E':=[⟨0,[],pt d⟩,⟨1,[],.string dir⟩,⟨7,[],.map (some (qs.getD k 0))⟩,⟨24,[],.slice ra qs.length rc⟩,⟨25,[],.int .i64 ((qs.length : Nat) : Int)⟩,⟨26,[],.int .i64 ((k : Nat) : Int)⟩]) [0] [0,1,7,24,25,26] rfl kr ?_
   refine N_then ?_
   refine G_region ?_
   refine GL_p [0,0,0] kr (j:=3) rfl ?_
   refine GL_load (i:=3) (ch:=[]) (b:=d) (off:=3) (v:=.map (some kb)) rfl rfl kr kr kr kr kr (At.grp 0 0 rfl rfl) rfl ?_
   refine GL_p [0] kr (j:=5) rfl ?_
   refine GL_heap rfl (H':=([(kb,.map (encM km1) kc1)]::[(d,.cells #[.int .i64 room,bv,.map (some nb),.map (some kb),.map (some cb),.bool ((callS fails once calls ((dir.toList == (ByteArray.mk #[]).toList)||partB dir)).2.1),.bool once,.int .i64 ((callS fails once calls ((dir.toList == (ByteArray.mk #[]).toList)||partB dir)).2.2)] 72 (0,0))]::[(cb,.map (encM cm) cc)]::H)) (fun w h=>(h.front (j:=1) rfl)) ?_
   refine GL_call (i:=5) (ch:=[]) (f:=72) (fst:=#[]) (caps:=#[]) (vs:=[.map (some kb),.map (some (qs.getD k 0))]) rfl rfl rfl kr kr Tryz.func72 rfl rfl kr kr (chSure_of kr) (vApply kb (qs.getD k 0) kc1 (xcs.getD k 0) km1 (xs.getD k []) (made_ok hR hk) (hAll k (by omega)).2.1 (hAll k (by omega)).2.2 _ _ (At.cons (At.cons (hAll k (by omega)).1))) ?_
   rintro v H' ⟨dn3, hdn4, rfl, rfl⟩
   refine GL_fin (E':=[⟨0,[],pt d⟩,⟨1,[],.string dir⟩,⟨24,[],.slice ra qs.length rc⟩,⟨25,[],.int .i64 ((qs.length : Nat) : Int)⟩,⟨26,[],.int .i64 ((k : Nat) : Int)⟩]) [] [0,1,24,25,26] rfl kr ?_
   refine N_block ?_
   refine N_then ?_
   refine G_region ?_
   refine GL_p [0] kr (j:=1) rfl ?_
   refine GL_wi 36 (((k : Nat) : Int)+1) (by omega) (by omega) kr ?_
   refine GL_fin (E':=[⟨0,[],pt d⟩,⟨1,[],.string dir⟩,⟨24,[],.slice ra qs.length rc⟩,⟨25,[],.int .i64 ((qs.length : Nat) : Int)⟩,⟨26,[],.int .i64 (((k : Nat) : Int)+1)⟩]) [0] [0,1,24,25,26] rfl kr ?_
   refine N_heap (H':=([(d,.cells #[.int .i64 room,bv,.map (some nb),.map (some kb),.map (some cb),.bool ((callS fails once calls ((dir.toList == (ByteArray.mk #[]).toList)||partB dir)).2.1),.bool once,.int .i64 ((callS fails once calls ((dir.toList == (ByteArray.mk #[]).toList)||partB dir)).2.2)] 72 (0,0))]::[(kb,.map (encM ((foldS (km1,kc1) dn3).1)) ((foldS (km1,kc1) dn3).2))]::[(cb,.map (encM cm) cc)]::H)) (fun w h=>(((h.front (j:=2) rfl).front (j:=1) rfl).front (j:=2) rfl)) ?_
   refine N_round (s':=(k+1,(foldS (km1,kc1) dn3).1,(foldS (km1,kc1) dn3).2)) [0,1,24,25,26] kr rfl ⟨(by omega),(by rw [take_snoc (d:=[]) (by omega)]; exact made_snoc hdn4 hR)⟩ (by omega)
  ·
   simp at hc2
   refine G_exit ?_
   refine N_then_exit ?_
   refine N_then_exit ?_
   refine N_block_exit ?_
   refine N_then ?_
   refine G_seq ?_
   refine G_region ?_
   refine GL_p [0,0,0] kr (j:=3) rfl ?_
   refine GL_load (i:=3) (ch:=[]) (b:=d) (off:=4) (v:=.map (some cb)) rfl rfl kr kr kr kr kr (At.grp 0 0 rfl rfl) rfl ?_
   refine GL_p [0] kr (j:=5) rfl ?_
   refine GL_delete (i:=5) (ch:=[]) (ts:=#[69,9]) (t:=69) (kt:=9) (et:=118) (r:=cb) (c:=cc) (j:=2) (q:=0) (m:=cm) (k:=dir) (H':=([(d,.cells #[.int .i64 room,bv,.map (some nb),.map (some kb),.map (some cb),.bool ((callS fails once calls ((dir.toList == (ByteArray.mk #[]).toList)||partB dir)).2.1),.bool once,.int .i64 ((callS fails once calls ((dir.toList == (ByteArray.mk #[]).toList)||partB dir)).2.2)] 72 (0,0))]::[(kb,.map (encM km1) kc1)]::[(cb,.map (encM (mdel cm dir)) cc)]::H)) rfl rfl rfl rfl rfl kr kr kr kr kr kr rfl rfl rfl ?_
   refine GL_fin (E':=[]) [] [] rfl kr ?_
   refine N_then ?_
   refine G_seq ?_
   refine G_pure (E':=[⟨4,[],.int .i64 0⟩]) [0] [4] rfl kr ?_
   refine N_then ?_
   refine G_ret ?_
   refine N_ret [.tmp 4] [.int .i64 0] rfl kr rfl ?_
   have hkl : k = xs.length := by omega
   rw [hkl, List.take_length] at hR
   exact .inr ⟨hce, rfl, km1, kc1, hR, rfl⟩
theorem vNext0 (kp cap : Nat) (a : Option Addr) (n : Int) (hn : 0 < n ∧ n ≤ 1000000000000) (W0 : World) (H : List Grp) : Tri Tryz.prog 69 #[.int .i64 n, pt kp] W0 ([(kp, .cells #[.slice a 0 cap] 49 (0, 0))] :: H) (fun v H' => v = .int .i64 (nextK 0 n) ∧ H' = ([(kp, .cells #[.slice a 0 cap] 49 (0, 0))] :: H)) := by
 refine Tri_of (args := [.int .i64 n, pt kp]) (n := 20) Tryz.func69 rfl rfl (Nat.le_of_ble_eq_true rfl) ?_
 refine G_seq ?_
 refine G_pure (E':=[⟨0,[],.int .i64 n⟩,⟨1,[],pt kp⟩]) [0] [0,1] rfl kr ?_
 refine N_then ?_
 refine G_seq ?_
 refine G_pure (E':=[⟨0,[],.int .i64 n⟩,⟨1,[],pt kp⟩,⟨4,[],.int .i64 0⟩]) [0] [0,1,4] rfl kr ?_
 refine N_then ?_
 refine G_seq ?_
 refine G_seq ?_
 refine G_region ?_
 refine GL_load (i:=0) (ch:=[]) (b:=kp) (off:=0) (v:=.slice a 0 cap) rfl rfl kr kr kr kr kr (At.grp 0 0 rfl rfl) rfl ?_
 refine GL_fin (E':=[⟨0,[],.int .i64 n⟩,⟨1,[],pt kp⟩,⟨4,[],.int .i64 0⟩,⟨7,[],.bool false⟩]) [0,0] [0,1,4,7] rfl kr ?_
 refine N_then ?_
 refine G_condf kr ?_
 refine G_skip ?_
 refine N_then ?_
 refine G_seq ?_
 refine G_region ?_
 refine GL_p [0,0] kr (j:=2) rfl ?_
 refine GL_rem (i:=2) (ch:=[]) (kd:=.i64) (a:=0) (b:=n) rfl rfl kr kr kr kr kr (fun _=>by omega) ?_
 refine GL_p [0,0,0] kr (j:=6) rfl ?_
 refine GL_rem (i:=6) (ch:=[]) (kd:=.i64) (a:=IntKind.wrap .i64 ((Int.tmod 0 n)+n)) (b:=n) rfl rfl kr kr kr kr kr (fun _=>by omega) ?_
 refine GL_fin (E':=[⟨3,[],.int .i64 (Int.tmod (IntKind.wrap .i64 ((Int.tmod 0 n)+n)) n)⟩]) [0] [3] rfl kr ?_
 refine N_then ?_
 refine G_ret ?_
 refine N_ret [.tmp 3] [.int .i64 (Int.tmod (IntKind.wrap .i64 ((Int.tmod 0 n)+n)) n)] rfl kr rfl ?_
 exact ⟨by rw [next_is hn.1 hn.2 (by omega) (by omega)]; rfl, rfl⟩
theorem vNext (kp : Nat) (n : Int) (hn : 0 < n ∧ n ≤ 1000000000000) (a : Option Addr) (m cap : Nat) (S : Nat → Obj → Prop) (k : Int) (hk : -9223372036854775808 ≤ k ∧ k ≤ 9223372036854775807) (r : List Int) (hm : m = r.length + 1) (hc : m ≤ cap) (hm2 : m ≤ 1000000000) (hrd : Rd S a ((k :: r).map (Value.int .i64))) (W0 : World) (H : List Grp) (hS : ∀ y o, S y o → At W0 H y o) : Tri Tryz.prog 69 #[.int .i64 n, pt kp] W0 ([(kp, .cells #[.slice a m cap] 49 (0, 0))] :: H) (fun v H' => v = .int .i64 (nextK k n) ∧ H' = ([(kp, .cells #[.slice (cutA a cap 1 1) (m - 1) (cap - 1)] 49 (0, 0))] :: H)) := by
 refine Tri_of (args := [.int .i64 n, pt kp]) (n := 20) Tryz.func69 rfl rfl (Nat.le_of_ble_eq_true rfl) ?_
 refine G_seq ?_
 refine G_pure (E':=[⟨0,[],.int .i64 n⟩,⟨1,[],pt kp⟩]) [0] [0,1] rfl kr ?_
 refine N_then ?_
 refine G_seq ?_
 refine G_pure (E':=[⟨0,[],.int .i64 n⟩,⟨1,[],pt kp⟩,⟨4,[],.int .i64 0⟩]) [0] [0,1,4] rfl kr ?_
 refine N_then ?_
 refine G_seq ?_
 refine G_seq ?_
 refine G_region ?_
 refine GL_load (i:=0) (ch:=[]) (b:=kp) (off:=0) (v:=.slice a m cap) rfl rfl kr kr kr kr kr (At.grp 0 0 rfl rfl) rfl ?_
 refine GL_fin (E':=[⟨0,[],.int .i64 n⟩,⟨1,[],pt kp⟩,⟨4,[],.int .i64 0⟩,⟨7,[],.bool (decide (((m : Nat) : Int) > 0))⟩]) [0,0] [0,1,4,7] rfl kr ?_
 refine N_then ?_
 refine G_cond (b:=decide (((m : Nat) : Int) > 0)) kr (fun hc1=>?_) (fun hc1=>?_)
 ·
  skip
  refine G_regionH H kr ?_
  refine GH_eff2 0 3 kr kr kr kr kr ?_ ?_
  ·
   refine GL_load (i:=0) (ch:=[]) (b:=kp) (off:=0) (v:=.slice a m cap) rfl rfl kr kr kr kr kr (At.grp 0 0 rfl rfl) rfl ?_
   refine GH_back kr (fun w h=>(h.erase 0)) ?_
   refine GH_take' 1 kr (fun w h=>(h.erase 0)) (GL_indexAddr (i:=1) (ch:=[]) (a:=a) (len:=m) (cap:=cap) (kd:=.i64) (j:=0) (e:=3) (sz:=1) (S:=S) (cs:=((k::r).map (Value.int .i64))) rfl rfl kr kr kr kr kr kr kr hrd (fun _=>by exact ⟨by omega,by omega,by simp⟩) (GL_yend kr rfl)) ?_
   refine GH_take' 2 kr (fun w h=>(h.erase 0)) (GL_loadS (i:=2) (ch:=[]) (a:=a) (q:=0 * 1) (S:=S) (cs:=((k::r).map (Value.int .i64))) (v:=.int .i64 k) rfl rfl kr kr kr kr kr hrd (fun y o h=>(hS y o h)) (fun _=>rfl) (GL_yend kr rfl)) ?_
   refine GH_p (fuel:=3) [(5,0)] (fun w h=>(h.erase 0)) kr rfl ?_
   refine GH_eff 3 kr kr kr ?_
   refine GL_load (i:=3) (ch:=[]) (b:=kp) (off:=0) (v:=.slice a m cap) rfl rfl kr kr kr kr kr (At.grp 0 0 rfl rfl) rfl ?_
   refine GH_back kr (fun w h=>(h.erase 0)) ?_
   refine GH_take' 4 kr (fun w h=>(h.erase 0)) (GL_sliceL (i:=4) (ch:=[]) (a:=a) (len:=m) (cap:=cap) (e:=3) (sz:=1) (vl:=(some (.int .i64 1))) (vh:=none) (l:=1) (h:=((m : Nat) : Int)) rfl rfl kr kr kr kr kr kr kr kr kr kr (by intro _; omega) (GL_yend kr rfl)) ?_
   refine GH_eff 6 kr kr kr ?_
   refine GL_st (i:=6) (ch:=[]) (b:=kp) (off:=0) (v:=.slice (cutA a cap 1 1) (m - 1) (cap - 1)) (j:=0) ([(kp,.cells #[.slice (cutA a cap 1 1) (m - 1) (cap - 1)] 49 (0,0))]::H) rfl rfl kr kr kr kr kr kr kr rfl rfl (Nat.le_of_ble_eq_true rfl) (fun _ _=>thaw0) kr ?_
   refine GH_back kr (fun w h=>(h.erase 0)) ?_
   refine GH_done (E':=[⟨0,[],.int .i64 n⟩,⟨4,[],.int .i64 k⟩]) [0,4] kr kr ?_
   refine N_then ?_
   refine G_seq ?_
   refine G_region ?_
   refine GL_p [0,0] kr (j:=2) rfl ?_
   refine GL_rem (i:=2) (ch:=[]) (kd:=.i64) (a:=k) (b:=n) rfl rfl kr kr kr kr kr (fun _=>by omega) ?_
   refine GL_p [0,0,0] kr (j:=6) rfl ?_
   refine GL_rem (i:=6) (ch:=[]) (kd:=.i64) (a:=IntKind.wrap .i64 ((Int.tmod k n)+n)) (b:=n) rfl rfl kr kr kr kr kr (fun _=>by omega) ?_
   refine GL_fin (E':=[⟨3,[],.int .i64 (Int.tmod (IntKind.wrap .i64 ((Int.tmod k n)+n)) n)⟩]) [0] [3] rfl kr ?_
   refine N_then ?_
   refine G_ret ?_
   refine N_ret [.tmp 3] [.int .i64 (Int.tmod (IntKind.wrap .i64 ((Int.tmod k n)+n)) n)] rfl kr rfl ?_
   exact ⟨by rw [next_is hn.1 hn.2 hk.1 hk.2]; rfl, rfl⟩
  ·
   refine GL_load (i:=3) (ch:=[]) (b:=kp) (off:=0) (v:=.slice a m cap) rfl rfl kr kr kr kr kr (At.grp 0 0 rfl rfl) rfl ?_
   refine GH_back kr (fun w h=>(h.erase 0)) ?_
   refine GH_take' 4 kr (fun w h=>(h.erase 0)) (GL_sliceL (i:=4) (ch:=[]) (a:=a) (len:=m) (cap:=cap) (e:=3) (sz:=1) (vl:=(some (.int .i64 1))) (vh:=none) (l:=1) (h:=((m : Nat) : Int)) rfl rfl kr kr kr kr kr kr kr kr kr kr (by intro _; omega) (GL_yend kr rfl)) ?_
   refine GH_eff 0 kr kr kr ?_
   refine GL_load (i:=0) (ch:=[]) (b:=kp) (off:=0) (v:=.slice a m cap) rfl rfl kr kr kr kr kr (At.grp 0 0 rfl rfl) rfl ?_
   refine GH_back kr (fun w h=>(h.erase 0)) ?_
   refine GH_take' 1 kr (fun w h=>(h.erase 0)) (GL_indexAddr (i:=1) (ch:=[]) (a:=a) (len:=m) (cap:=cap) (kd:=.i64) (j:=0) (e:=3) (sz:=1) (S:=S) (cs:=((k::r).map (Value.int .i64))) rfl rfl kr kr kr kr kr kr kr hrd (fun _=>by exact ⟨by omega,by omega,by simp⟩) (GL_yend kr rfl)) ?_
   refine GH_take' 2 kr (fun w h=>(h.erase 0)) (GL_loadS (i:=2) (ch:=[]) (a:=a) (q:=0 * 1) (S:=S) (cs:=((k::r).map (Value.int .i64))) (v:=.int .i64 k) rfl rfl kr kr kr kr kr hrd (fun y o h=>(hS y o h)) (fun _=>rfl) (GL_yend kr rfl)) ?_
   refine GH_p (fuel:=1) [(5,0)] (fun w h=>(h.erase 0)) kr rfl ?_
   refine GH_eff 6 kr kr kr ?_
   refine GL_st (i:=6) (ch:=[]) (b:=kp) (off:=0) (v:=.slice (cutA a cap 1 1) (m - 1) (cap - 1)) (j:=0) ([(kp,.cells #[.slice (cutA a cap 1 1) (m - 1) (cap - 1)] 49 (0,0))]::H) rfl rfl kr kr kr kr kr kr kr rfl rfl (Nat.le_of_ble_eq_true rfl) (fun _ _=>thaw0) kr ?_
   refine GH_back kr (fun w h=>(h.erase 0)) ?_
   refine GH_done (E':=[⟨0,[],.int .i64 n⟩,⟨4,[],.int .i64 k⟩]) [0,4] kr kr ?_
   refine N_then ?_
   refine G_seq ?_
   refine G_region ?_
   refine GL_p [0,0] kr (j:=2) rfl ?_
   refine GL_rem (i:=2) (ch:=[]) (kd:=.i64) (a:=k) (b:=n) rfl rfl kr kr kr kr kr (fun _=>by omega) ?_
   refine GL_p [0,0,0] kr (j:=6) rfl ?_
   refine GL_rem (i:=6) (ch:=[]) (kd:=.i64) (a:=IntKind.wrap .i64 ((Int.tmod k n)+n)) (b:=n) rfl rfl kr kr kr kr kr (fun _=>by omega) ?_
   refine GL_fin (E':=[⟨3,[],.int .i64 (Int.tmod (IntKind.wrap .i64 ((Int.tmod k n)+n)) n)⟩]) [0] [3] rfl kr ?_
   refine N_then ?_
   refine G_ret ?_
   refine N_ret [.tmp 3] [.int .i64 (Int.tmod (IntKind.wrap .i64 ((Int.tmod k n)+n)) n)] rfl kr rfl ?_
   exact ⟨by rw [next_is hn.1 hn.2 hk.1 hk.2]; rfl, rfl⟩
 ·
  simp at hc1; omega
end Go.Proofs.YtlaoeiaaeifidaaGreat
namespace Go.Proofs
open Go.Shelf
def Tryz.lays190_ren : Go.Shelf.Ren := ⟨fun | 190 => 75 | 125 => 97 | 258 => 96 | 128 => 115 | 129 => 116 | 302 => 106 | 303 => 107 | 304 => 108 | 305 => 109 | 306 => 110 | 307 => 111 | 308 => 112 | 309 => 113 | 310 => 114 | 333 => 129 | 329 => 130 | 330 => 131 | 334 => 132 | 335 => 133 | 336 => 134 | 344 => 141 | n => n, fun | 31 => 32 | 9 => 9 | 3 => 3 | 46 => 53 | 0 => 0 | 51 => 144 | 53 => 163 | 4 => 4 | 183 => 155 | 182 => 154 | 131 => 159 | 5 => 5 | 218 => 177 | 222 => 181 | 228 => 190 | 229 => 191 | n => n, fun | n => n⟩
theorem Tryz.lays190 : Go.Proofs.Lays.n190 Tryz.prog Tryz.lays190_ren := {
  mixed := by kernel_rfl
  f125 := Tryz.func97.trans (congrArg some (by kernel_rfl))
  f128 := Tryz.func115.trans (congrArg some (by kernel_rfl))
  f129 := Tryz.func116.trans (congrArg some (by kernel_rfl))
  f190 := Tryz.func75.trans (congrArg some (by kernel_rfl))
  f258 := Tryz.func96.trans (congrArg some (by kernel_rfl))
  f302 := Tryz.func106.trans (congrArg some (by kernel_rfl))
  f303 := Tryz.func107.trans (congrArg some (by kernel_rfl))
  f304 := Tryz.func108.trans (congrArg some (by kernel_rfl))
  f305 := Tryz.func109.trans (congrArg some (by kernel_rfl))
  f306 := Tryz.func110.trans (congrArg some (by kernel_rfl))
  f307 := Tryz.func111.trans (congrArg some (by kernel_rfl))
  f308 := Tryz.func112.trans (congrArg some (by kernel_rfl))
  f309 := Tryz.func113.trans (congrArg some (by kernel_rfl))
  f310 := Tryz.func114.trans (congrArg some (by kernel_rfl))
  f329 := Tryz.func130.trans (congrArg some (by kernel_rfl))
  f330 := Tryz.func131.trans (congrArg some (by kernel_rfl))
  f333 := Tryz.func129.trans (congrArg some (by kernel_rfl))
  f334 := Tryz.func132.trans (congrArg some (by kernel_rfl))
  f335 := Tryz.func133.trans (congrArg some (by kernel_rfl))
  f336 := Tryz.func134.trans (congrArg some (by kernel_rfl))
  f344 := Tryz.func141.trans (congrArg some (by kernel_rfl))
  t0 := Tryz.underlying0
  a0 := Tryz.isAgg0
  z0 := Tryz.sizeOf0
  v0 := Tryz.zeroValue0
  t3 := Tryz.underlying3
  a3 := Tryz.isAgg3
  z3 := Tryz.sizeOf3
  v3 := Tryz.zeroValue3
  t4 := Tryz.underlying4
  a4 := Tryz.isAgg4
  z4 := Tryz.sizeOf4
  v4 := Tryz.zeroValue4
  t5 := Tryz.underlying5
  a5 := Tryz.isAgg5
  z5 := Tryz.sizeOf5
  v5 := Tryz.zeroValue5
  t9 := Tryz.underlying9
  a9 := Tryz.isAgg9
  z9 := Tryz.sizeOf9
  v9 := Tryz.zeroValue9
  t31 := Tryz.underlying32
  a31 := Tryz.isAgg32
  z31 := Tryz.sizeOf32
  v31 := Tryz.zeroValue32
  t46 := Tryz.underlying53
  a46 := Tryz.isAgg53
  z46 := Tryz.sizeOf53
  v46 := Tryz.zeroValue53
  t51 := Tryz.underlying144
  a51 := Tryz.isAgg144
  z51 := Tryz.sizeOf144
  v51 := Tryz.zeroValue144
  t53 := Tryz.underlying163
  a53 := Tryz.isAgg163
  z53 := Tryz.sizeOf163
  v53 := Tryz.zeroValue163
  t131 := Tryz.underlying159
  a131 := Tryz.isAgg159
  z131 := Tryz.sizeOf159
  v131 := Tryz.zeroValue159
  t182 := Tryz.underlying154
  a182 := Tryz.isAgg154
  z182 := Tryz.sizeOf154
  v182 := Tryz.zeroValue154
  t183 := Tryz.underlying155
  a183 := Tryz.isAgg155
  z183 := Tryz.sizeOf155
  v183 := Tryz.zeroValue155
  t218 := Tryz.underlying177
  a218 := Tryz.isAgg177
  z218 := Tryz.sizeOf177
  v218 := Tryz.zeroValue177
  t222 := Tryz.underlying181
  a222 := Tryz.isAgg181
  z222 := Tryz.sizeOf181
  v222 := Tryz.zeroValue181
  t228 := Tryz.underlying190
  a228 := Tryz.isAgg190
  z228 := Tryz.sizeOf190
  v228 := Tryz.zeroValue190
  t229 := Tryz.underlying191
  a229 := Tryz.isAgg191
  z229 := Tryz.sizeOf191
  v229 := Tryz.zeroValue191 }
open Go.Sort Go.RowKit in
theorem Tryz.slices_Sort_string (blk off cap : Nat) (ss : List (List UInt8)) (w : World) (hH : Holds encStr w blk off ss.toArray) (hblk : blk < w.heap.size) (hsz : ss.length < 4611686018427387904) :
    Calls Tryz.prog 75 #[.slice (some ⟨blk, off, none⟩) ss.length cap] w fun e w' =>
      e = .returned (.tuple #[]) ∧ ∃ n os, w' = grow (putRow encStr (Sort.ahead w n) blk off (ss.mergeSort fun x y => decide (x ≤ y)).toArray) os := Any.slices_Sort_string Tryz.lays190 blk off cap ss w hH hblk hsz
end Go.Proofs
namespace Go.Sw
open Go.RowKit
theorem run_clone {P : Program} {w : World} {r : Nat} {es : Array MapEntry} {clock : Nat} (t : TypeId) (hb : w.heap[r]? = some (.map es clock)) :
    (Extern.MapsClone.clone #[.iface t (.map (some r))]).run P w = .ok (.iface t (.map (some w.heap.size))) (w.alloc (.map es clock)) := by
  have e : Extern.MapsClone.clone #[.iface t (.map (some r))] = (getObj r >>= fun o => match o with
      | .map entries clock => (newObj (.map entries clock) >>= fun n => pure (.iface t (.map (some n))))
      | _ => stuck "maps.clone: a map expected") := rfl
  rw [e]
  simp only [Sem.run_bind, run_getObj_map hb, Result.andThen_ok, run_newObj, Sem.run_pure]
  rfl
theorem GL_cloneX {P : Program} {ops : Array Oper} {i : Nat} {Q : Post} {n : Fr} {E : Env} {W0 : World} {H : List Grp} {o : Oper} {ch : List (Nat × Bool)} {c : Call} {fo : Operand} {f : FuncId} {t : TypeId} {r clock : Nat} {es : Array MapEntry} {fn : Func}
    (ho : ops[i]? = some o) (hop : o.op = .call c) (hce : c.callee = .value fo) (hfo : evO E ch fo = some (.func (.func f) #[] #[])) (hargs : evL (evO E ch) c.args.toList = some [.iface t (.map (some r))])
    (hf : P.funcs[f]? = some fn) (hrt : (fn.name == "runtime.NumGoroutine") = false) (hbody : fn.body.isNone = true) (hn : Extern.findNext fn = none) (he : Extern.find fn = some Extern.MapsClone.clone)
    (hch : chainOf ops E o.guard = some ch) (hd : dstOk n ch o.dst = true) (hsure : chSure E ch = true) (hA : At W0 H r (.map es clock))
    (k : ∀ b, GL false P ops (i + 1) Q n (Env.put E o.dst ch (.iface t (.map (some b)))) W0 ([(b, .map es clock)] :: H)) : GL false P ops i Q n E W0 H := by
  refine GL_eff (R := fun v H1 => ∃ b, v = .iface t (.map (some b)) ∧ H1 = [(b, .map es clock)] :: H) ho hch hd hsure (fun rr hr w hs => ?_) (by rintro v H1 ⟨b, rfl, rfl⟩; exact k b)
  refine ⟨_, w.alloc (.map es clock), _, ⟨w.heap.size, rfl, rfl⟩, hs.new rfl rfl rfl rfl, .inl ?_⟩
  unfold execOp
  simp only [hop]
  simp only [resolve, hce]
  rw [hr _ _ hfo, arr_map hr hargs]
  simp only [Deferred.ofValue, Sem.run_bind, Sem.run_pure, Result.andThen_ok, invoke]
  have := run_callFunc_extern hf hrt hbody hn he #[.iface t (.map (some r))] w
  simp only [Array.empty_append, Array.append_empty, this, run_clone t (hs.at hA), Result.andThen_ok]
theorem GL_assert {d : Bool} {P : Program} {ops : Array Oper} {i : Nat} {Q : Post} {n : Fr} {E : Env} {W0 : World} {H : List Grp} {o : Oper} {ch : List (Nat × Bool)} {x : Operand} {xt t k e : TypeId} {v : Value}
    (ho : ops[i]? = some o) (hop : o.op = .typeAssert x xt t false) (hx : evO E ch x = some (.iface t v)) (hu : P.underlying t = some (.map k e))
    (hch : chainOf ops E o.guard = some ch) (hd : dstOk n ch o.dst = true) (hk : chKnown E ch = true)
    (kk : GL d P ops (i + 1) Q n (Env.put E o.dst ch v) W0 H) : GL d P ops i Q n E W0 H := by
  refine GL_quiet ho hch hd hk (fun r hr _ w _ => ?_) kk
  unfold execOp
  simp only [hop]
  rw [hr _ _ hx]
  simp [Instr.typeAssert, run_underlying hu, Result.andThen]
  exact ⟨rfl, rfl⟩
theorem GL_strBytes {P : Program} {ops : Array Oper} {i : Nat} {Q : Post} {n : Fr} {E : Env} {W0 : World} {H : List Grp} {o : Oper} {ch : List (Nat × Bool)} {src dst e : TypeId} {x : Operand} {s : ByteArray}
    (ho : ops[i]? = some o) (hop : o.op = .convert src dst x) (hx : evO E ch x = some (.string s)) (hs' : P.underlying src = some .string) (hds : P.underlying dst = some (.slice e)) (he : P.underlying e = some (.int .u8))
    (hch : chainOf ops E o.guard = some ch) (hd : dstOk n ch o.dst = true) (hsure : chSure E ch = true)
    (k : ∀ b cap g, s.size ≤ cap → Rd (inG g) (some ⟨b, 0, none⟩) (u8s s.data.toList) → GL false P ops (i + 1) Q n (Env.put E o.dst ch (.slice (some ⟨b, 0, none⟩) s.size cap)) W0 (g :: H)) : GL false P ops i Q n E W0 H := by
  refine GL_eff (R := fun v H1 => ∃ b cap g, v = .slice (some ⟨b, 0, none⟩) s.size cap ∧ s.size ≤ cap ∧ Rd (inG g) (some ⟨b, 0, none⟩) (u8s s.data.toList) ∧ H1 = g :: H) ho hch hd hsure (fun rr hr w hs => ?_) (by rintro v H1 ⟨b, cap, g, rfl, h1, h2, rfl⟩; exact k b cap g h1 h2)
  have hrun := run_bytes_of_string (P := P) w src dst e s hs' hds he
  refine ⟨_, w.drew.alloc (.cells (bytesRow s (grownCap w s.size 0 e)) e ((bytesRow s (grownCap w s.size 0 e)).size, (bytesRow s (grownCap w s.size 0 e)).size + 1)), _, ⟨w.heap.size, grownCap w s.size 0 e, _, rfl, by have := grownCap_ge w s.size 0 e; omega, ?_, rfl⟩, (hs.drew).new rfl rfl rfl rfl, .inl ?_⟩
  · refine .inr ⟨_, 0, _, _, _, rfl, List.mem_singleton.2 rfl, fun j u hu => ?_⟩
    unfold u8s at hu
    rw [List.getElem?_map] at hu
    cases hj : s.data.toList[j]? with
    | none => rw [hj] at hu; simp at hu
    | some b =>
      rw [hj] at hu
      simp only [Option.map_some, Option.some.injEq] at hu
      obtain ⟨hlt, hb⟩ := List.getElem?_eq_some_iff.1 hj
      have hlt' : j < s.data.size := by simpa using hlt
      rw [Nat.zero_add, bytesRow_at s _ j hlt', ← hu, ← hb]
      simp
  · unfold execOp
    simp only [hop]
    rw [hr _ _ hx]
    simp only [Sem.run_bind, Sem.run_pure, hrun, Result.andThen_ok]
end Go.Sw
namespace Go.Vf
open Go.Sw Go.RowKit Go.Sort Go.Proofs
def sortB (ws : List ByteArray) : List ByteArray := ((ws.map fun s => s.data.toList).mergeSort fun x y => decide (x ≤ y)).map fun l => ⟨l.toArray⟩
theorem strs_sort (ws : List ByteArray) : strs (sortB ws) = ((ws.map fun s => s.data.toList).mergeSort fun x y => decide (x ≤ y)).map encStr := by
  unfold strs sortB
  rw [List.map_map]
  rfl
theorem sortB_len (ws : List ByteArray) : (sortB ws).length = ws.length := by unfold sortB; rw [List.length_map, List.length_mergeSort, List.length_map]
theorem sortB_perm (ws : List ByteArray) : (sortB ws).Perm ws := by
  unfold sortB
  have h : ((ws.map fun s => s.data.toList).mergeSort fun x y => decide (x ≤ y)).Perm (ws.map fun s => s.data.toList) := List.mergeSort_perm _ _
  have h2 := h.map fun l => (⟨l.toArray⟩ : ByteArray)
  rw [List.map_map] at h2
  have e : ws.map ((fun l => (⟨l.toArray⟩ : ByteArray)) ∘ fun s => s.data.toList) = ws := by
    rw [show ((fun l : List UInt8 => (⟨l.toArray⟩ : ByteArray)) ∘ fun s : ByteArray => s.data.toList) = id from rfl, List.map_id]
  rwa [e] at h2
end Go.Vf
namespace Go.Proofs.YtlaoeiaaeifidaaGreat
open Go.Sw Go.Lib Go.Vf Go.RowKit
theorem vMapClone (kb kc : Nat) (km : SM) (W0 : World) (H : List Grp) : Tri Tryz.prog 73 #[.map (some kb)] W0 ([(kb, .map (encM km) kc)] :: H) (fun v H' => ∃ b, v = .map (some b) ∧ H' = [(b, .map (encM km) kc)] :: [(kb, .map (encM km) kc)] :: H) := by
 refine Tri_of (args := [.map (some kb)]) (n := 9) Tryz.func73 rfl rfl (Nat.le_of_ble_eq_true rfl) ?_
 refine G_seq ?_
 refine G_pure (E':=[⟨0,[],.map (some kb)⟩]) [0] [0] rfl kr ?_
 refine N_then ?_
 refine G_seq ?_
 refine G_seq ?_
 refine G_pure (E':=[⟨0,[],.map (some kb)⟩,⟨4,[],.bool false⟩]) [0,0] [0,4] rfl kr ?_
 refine N_then ?_
 refine G_condf kr ?_
 refine G_skip ?_
 refine N_then ?_
 refine G_seq ?_
 refine G_region ?_
 refine GL_p [0,0] kr (j:=2) rfl ?_
 refine GL_cloneX (i:=2) (ch:=[]) (f:=94) (t:=68) (r:=kb) (clock:=kc) (es:=encM km) rfl rfl rfl kr kr Tryz.func94 kr rfl kr kr kr kr kr (At.grp 0 0 rfl rfl) (fun b1=>?_)
 refine GL_assert (i:=3) (ch:=[]) (xt:=20) (t:=68) (k:=9) (e:=74) (v:=.map (some b1)) rfl rfl kr kr kr kr kr ?_
 refine GL_fin (E':=[⟨2,[],.map (some b1)⟩]) [0] [2] rfl kr ?_
 refine N_then ?_
 refine G_ret ?_
 refine N_ret [.tmp 2] [.map (some b1)] rfl kr rfl ?_
 exact ⟨_, rfl, rfl⟩
end Go.Proofs.YtlaoeiaaeifidaaGreat
namespace Go.Proofs
open Go.Shelf
def Tryz.keys41_ren : Go.Shelf.Ren := ⟨fun | 7 => 71 | 10 => 93 | n => n, fun | 23 => 69 | 26 => 9 | 3 => 118 | 28 => 116 | 0 => 0 | 27 => 115 | 33 => 31 | 4 => 4 | n => n, fun | n => n⟩
theorem Tryz.keys41 : Go.Proofs.SlLaysZ.n7 Tryz.prog Tryz.keys41_ren := {
  mixed := by kernel_rfl
  f7 := ⟨Tryz.f71.name, by decide, Tryz.func71.trans (congrArg some (by kernel_rfl))⟩
  f10 := ⟨Tryz.f93.name, by decide, Tryz.func93.trans (congrArg some (by kernel_rfl))⟩
  t0 := Tryz.underlying0
  a0 := Tryz.isAgg0
  z0 := Tryz.sizeOf0
  v0 := Tryz.zeroValue0
  t4 := Tryz.underlying4
  a4 := Tryz.isAgg4
  z4 := Tryz.sizeOf4
  v4 := Tryz.zeroValue4
  t23 := Tryz.underlying69
  a23 := Tryz.isAgg69
  z23 := Tryz.sizeOf69
  v23 := Tryz.zeroValue69
  t26 := Tryz.underlying9
  a26 := Tryz.isAgg9
  z26 := Tryz.sizeOf9
  v26 := Tryz.zeroValue9
  t27 := Tryz.underlying115
  a27 := Tryz.isAgg115
  z27 := Tryz.sizeOf115
  v27 := Tryz.zeroValue115
  t28 := Tryz.underlying116
  a28 := Tryz.isAgg116
  z28 := Tryz.sizeOf116
  v28 := Tryz.zeroValue116
  t33 := Tryz.underlying31
  a33 := Tryz.isAgg31
  z33 := Tryz.sizeOf31
  v33 := Tryz.zeroValue31 }
def Tryz.sorted40_ren : Go.Shelf.Ren := ⟨fun | 6 => 70 | 8 => 92 | 9 => 75 | 11 => 105 | 13 => 97 | 12 => 96 | 23 => 115 | 24 => 116 | 14 => 106 | 15 => 107 | 16 => 108 | 17 => 109 | 18 => 110 | 19 => 111 | 20 => 112 | 21 => 113 | 22 => 114 | 25 => 129 | 26 => 130 | 27 => 131 | 28 => 132 | 29 => 133 | 30 => 134 | 31 => 141 | n => n, fun | 26 => 9 | 28 => 116 | 24 => 32 | 0 => 0 | 3 => 3 | 37 => 53 | 48 => 144 | 50 => 163 | 4 => 4 | 40 => 155 | 39 => 154 | 45 => 159 | 5 => 5 | 9 => 9 | 51 => 177 | 55 => 181 | 57 => 190 | 58 => 191 | 33 => 31 | n => n, fun | n => n⟩
theorem Tryz.sorted40 : Go.Proofs.SlLaysZ.n6 Tryz.prog Tryz.sorted40_ren := {
  mixed := by kernel_rfl
  f6 := ⟨Tryz.f70.name, by decide, Tryz.func70.trans (congrArg some (by kernel_rfl))⟩
  f8 := ⟨Tryz.f92.name, by decide, Tryz.func92.trans (congrArg some (by kernel_rfl))⟩
  f11 := ⟨Tryz.f105.name, by decide, Tryz.func105.trans (congrArg some (by kernel_rfl))⟩
  t0 := Tryz.underlying0
  a0 := Tryz.isAgg0
  z0 := Tryz.sizeOf0
  v0 := Tryz.zeroValue0
  t24 := Tryz.underlying32
  a24 := Tryz.isAgg32
  z24 := Tryz.sizeOf32
  v24 := Tryz.zeroValue32
  t26 := Tryz.underlying9
  a26 := Tryz.isAgg9
  z26 := Tryz.sizeOf9
  v26 := Tryz.zeroValue9
  t28 := Tryz.underlying116
  a28 := Tryz.isAgg116
  z28 := Tryz.sizeOf116
  v28 := Tryz.zeroValue116
  i26 := by kernel_rfl }
end Go.Proofs
namespace Go.Vf
open Go.Sw Go.RowKit Go.Sort Go.Proofs Go.Shelf
open Go.WideElems (Fit rg)
def anyR : Value → Option (DataW Nat × List MemPlace) := fun _ => some (.lit (.bool false), [])
def datM (P : Program) (cm : SM) : DataW Nat := .map (((encM cm).toList.map (rg P 9 anyR)).foldr DataW.insert [])
theorem rd_ent {e : ByteArray × Value × Nat} (h : e.1.size ≤ 9223372036854775807) : WideElems.rd Tryz.prog 9 anyR (entM e) = some (.string e.1.data.toList, .lit (.bool false)) := by
  unfold WideElems.rd
  rw [show keyOf Tryz.prog 9 (entM e).key = some (.string e.1.data.toList) from WideMaps.keyOf_string_mk Tryz.underlying9 (by unfold maxLen; omega)]
  rfl
theorem rg_ent {e : ByteArray × Value × Nat} (h : e.1.size ≤ 9223372036854775807) : rg Tryz.prog 9 anyR (entM e) = (.string e.1.data.toList, .lit (.bool false)) := by
  unfold rg
  rw [rd_ent h]
  rfl
theorem encM_list (cm : SM) : (encM cm).toList = cm.map entM := by unfold encM; rfl
theorem ent_apart {cm : SM} (h : cm.Pairwise fun x y => (x.1 == y.1) = false) : (cm.map entM).Pairwise fun x y => x.key ≠ y.key :=
  List.pairwise_map.2 (h.imp fun {x y} hxy e => by
    have : x.1 = y.1 := by
      have e' : Value.string x.1 = Value.string y.1 := e
      injection e'
    exact (baNe.1 hxy) this)
theorem own_map {cm : SM} {cc cb : Nat} {w : World} (hm : MapOk cm cc) (hks : ∀ e ∈ cm, e.1.size ≤ 9223372036854775807) (hl : cm.length ≤ 1000000000) (hb : w.heap[cb]? = some (.map (encM cm) cc)) :
    w.ownsMap Tryz.prog 9 anyR cb cm.length (datM Tryz.prog cm) := by
  refine ⟨encM cm, cc, hb, ⟨?_, ?_, ?_⟩, ?_, rfl⟩
  · rw [← Array.length_toList, encM_list, List.length_map]; unfold maxLen; omega
  · rw [MapKept.stamped_iff, encM_list]
    refine ⟨?_, ?_, ent_apart hm.keys⟩
    · intro x hx
      obtain ⟨e, he, rfl⟩ := List.mem_map.1 hx
      exact hm.lt e he
    · rw [List.map_map]; exact hm.born
  · intro x hx
    rw [encM_list] at hx
    obtain ⟨e, he, rfl⟩ := List.mem_map.1 hx
    exact ⟨_, rd_ent (hks e he)⟩
  · rw [← Array.length_toList, encM_list, List.length_map]; exact Nat.le_refl _
theorem keys_dat {cm : SM} (hks : ∀ e ∈ cm, e.1.size ≤ 9223372036854775807) : (strKeys (datM Tryz.prog cm)).Perm ((cm.map Prod.fst).map fun s => s.data.toList) := by
  have h1 : (strKeys (datM Tryz.prog cm)).Perm ((((encM cm).toList.map (rg Tryz.prog 9 anyR))).map fun p => strOf p.1) := (WideShapes.sorted_perm _).map _
  have h2 : (((encM cm).toList.map (rg Tryz.prog 9 anyR))).map (fun p => strOf p.1) = (cm.map Prod.fst).map fun s => s.data.toList := by
    rw [encM_list, List.map_map, List.map_map, List.map_map]
    refine List.map_congr_left fun e he => ?_
    simp only [Function.comp_apply]
    rw [rg_ent (hks e he)]
    unfold strOf
    rfl
  rwa [h2] at h1
theorem dat_size (P : Program) (cm : SM) : Maps.size (datM P cm) = cm.length := by
  have e : Maps.size (datM P cm) = (((encM cm).toList.map (rg P 9 anyR)).foldr DataW.insert []).length := rfl
  rw [e, (WideShapes.sorted_perm _).length_eq, List.length_map, encM_list, List.length_map]
theorem sorts40 (m : Nat) : AnyZ.SortsIn Tryz.prog Tryz.sorted40_ren Fence.wide m :=
  ⟨fun blk off cap ss W hH hblk hsz => callsIn_wide.2 (Tryz.slices_Sort_string blk off cap ss W hH hblk hsz),
   fun p cap W => callsIn_wide.2 (Any.slices_Sort_string_none Tryz.lays190 p cap W)⟩
set_option maxHeartbeats 1000000 in
theorem sortedC (cm : SM) (cc cb kb : Nat) (hm : MapOk cm cc) (hks : ∀ e ∈ cm, e.1.size ≤ 9223372036854775807) (hl : cm.length ≤ 1000000000) (W0 : World) (H : List Grp) :
    Tri Tryz.prog 70 #[.func (.func 93) #[] #[.pointer (some ⟨kb, 0, none⟩)]] W0
      ([(kb, .cells #[.map (some cb)] 69 (0, 0))] :: [(cb, .map (encM cm) cc)] :: H)
      (fun v H' => ∃ g, Go.Sw.Own 9 1 v g cm.length (strs (sortB (cm.map Prod.fst))) ∧ H' = g :: [(kb, .cells #[.map (some cb)] 69 (0, 0))] :: [(cb, .map (encM cm) cc)] :: H) := by
  intro w hs
  have hk : w.heap[kb]? = some (.cells #[.map (some cb)] 69 (0, 0)) := hs.has (kb, _) (by simp)
  have hb : w.heap[cb]? = some (.map (encM cm) cc) := hs.has (cb, _) (by simp)
  have hown := own_map hm hks hl hb
  have hcell : w.cell? ⟨kb, 0, none⟩ = some (.map (some cb)) := by
    unfold World.cell?
    rw [hk]
    rfl
  have hseq : SeqGives Fence.wide 2 Tryz.prog 93 #[.pointer (some ⟨kb, 0, none⟩)] encStr (fun ss => ss.Perm (strKeys (datM Tryz.prog cm))) (Maps.size (datM Tryz.prog cm)) w :=
    AnyZ.keys_gives (ρ := Tryz.keys41_ren) { Tryz.keys41 with } Fence.wide 2 trivial rfl (by omega) kb cb cm.length (datM Tryz.prog cm) w (Array.getElem?_eq_some_iff.1 hk).1 hcell hown
  have hc := AnyZ.sorted_in Tryz.sorted40 Fence.wide 5 trivial trivial trivial trivial rfl (by omega) (sorts40 _) (enters_of Tryz.func75 (by kernel_rfl) rfl) 93 #[.pointer (some ⟨kb, 0, none⟩)] trivial (enters_of Tryz.func93 (by kernel_rfl) rfl) _ (Maps.size (datM Tryz.prog cm)) (by rw [dat_size]; unfold maxLen; omega) (by rw [dat_size]; omega) w hseq
  refine (callsIn_wide.1 hc).mono fun e w' ⟨v, ss, h1, h2, h3, _, h5⟩ => ?_
  have hp : ss.Perm ((cm.map Prod.fst).map fun s => s.data.toList) := h2.trans (keys_dat hks)
  have hlen : ss.length = cm.length := by rw [hp.length_eq, List.length_map, List.length_map]
  have hss : (ss.mergeSort fun x y => decide (x ≤ y)).map encStr = strs (sortB (cm.map Prod.fst)) := by
    rw [strs_sort]
    exact congrArg (List.map encStr) (mergeSort_of_perm hp)
  rw [hss, hlen] at h3
  have hbel : Below W0.heap.size W0 w' := ⟨h5.os.trans hs.below.os, h5.tape.trans hs.below.tape, h5.output.trans hs.below.output, Nat.le_trans hs.below.size h5.size, fun k hk => by
    rw [h5.block k (Nat.lt_of_lt_of_le hk hs.below.size), hs.below.block k hk]⟩
  have hhas : ∀ p, p ∈ ([(kb, .cells #[.map (some cb)] 69 (0, 0))] :: [(cb, .map (encM cm) cc)] :: H : List Grp).flatten → w'.heap[p.1]? = some p.2 := fun p hp => by
    have h0 := hs.has p hp
    rw [h5.block p.1 (Array.getElem?_eq_some_iff.1 h0).1, h0]
  obtain ⟨l1, ⟨rfl, l2⟩ | ⟨g, cap, cur, rfl, g1, g2, g3, g4, g5, g6⟩⟩ := h3
  · exact ⟨_, _, h1, ⟨[], ⟨l1, .inl ⟨rfl, rfl, l2⟩⟩, rfl⟩, ⟨hbel, by simpa using hs.nodup, fun p hp => hhas p (by simpa using hp), fun p hp => hs.high p (by simpa using hp)⟩⟩
  · have hcur : cur.toList = strs (sortB (cm.map Prod.fst)) ++ cur.toList.drop (cm.length * 1) := by
      rw [← g6, List.take_append_drop]
    have hcur2 : cur = (strs (sortB (cm.map Prod.fst)) ++ cur.toList.drop (cm.length * 1)).toArray := by
      rw [← hcur]
    refine ⟨_, _, h1, ⟨[(g, .cells (strs (sortB (cm.map Prod.fst)) ++ cur.toList.drop (cm.length * 1)).toArray 9 (0, 0))], ⟨l1, .inr ⟨g, cap, cur.toList.drop (cm.length * 1), rfl, rfl, g3, ?_⟩⟩, rfl⟩, ⟨hbel, ?_, ?_, ?_⟩⟩
    · rw [← hcur, Array.length_toList, g5]
    · rw [List.flatten_cons, List.singleton_append, List.map_cons, List.nodup_cons]
      refine ⟨fun hin => ?_, hs.nodup⟩
      obtain ⟨p, hp, he⟩ := List.mem_map.1 hin
      have h0 := (Array.getElem?_eq_some_iff.1 (hs.has p hp)).1
      have he' : p.1 = g := he
      omega
    · intro p hp
      rw [List.flatten_cons, List.singleton_append, List.mem_cons] at hp
      rcases hp with rfl | hp
      · show w'.heap[g]? = _
        rw [← hcur2]
        exact g2
      · exact hhas p hp
    · intro p hp
      rw [List.flatten_cons, List.singleton_append, List.mem_cons] at hp
      rcases hp with rfl | hp
      · exact Nat.le_trans hs.below.size g1
      · exact hs.high p hp
end Go.Vf
namespace Go.Vf
open Go.Sw Go.RowKit
structure BE where
  p : Nat
  an : Option Addr
  n : Nat
  cn : Nat
  ak : Option Addr
  m : Nat
  ck : Nat
instance : Inhabited BE := ⟨⟨0, none, 0, 0, none, 0, 0⟩⟩
def beO (b : BE) : Nat × Obj := (b.p, .cells #[.slice b.an b.n b.cn, .slice b.ak b.m b.ck] 76 (0, 0))
def bodyG (bs : List BE) : Grp := bs.map beO
theorem bodyG_at {bs : List BE} {k : Nat} (h : k < bs.length) : (bodyG bs)[k]? = some (beO (bs.getD k default)) := by
  unfold bodyG
  rw [List.getElem?_map, List.getElem?_eq_getElem h, List.getD_eq_getElem?_getD, List.getElem?_eq_getElem h]; rfl
theorem bodyG_set (bs : List BE) (k : Nat) (b : BE) : (bodyG bs).set k (beO b) = bodyG (bs.set k b) := by
  unfold bodyG; rw [List.map_set]
structure KS where
  l : List Int
  a : Option Addr
  c : Nat
def ksNext (k : KS) : KS := ⟨k.l.drop 1, if k.l = [] then k.a else cutA k.a k.c 1 1, if k.l = [] then k.c else k.c - 1⟩
def KsOk (S : Nat → Obj → Prop) (k : KS) : Prop := Rd S k.a (k.l.map (Value.int .i64)) ∧ k.l.length ≤ k.c ∧ k.l.length ≤ 1000000000 ∧ ∀ x ∈ k.l, -9223372036854775808 ≤ x ∧ x ≤ 9223372036854775807
theorem ksNext_ok {S : Nat → Obj → Prop} {k : KS} (h : KsOk S k) : KsOk S (ksNext k) := by
  obtain ⟨h1, h2, h3, h4⟩ := h
  obtain ⟨l, a, c⟩ := k
  cases l with
  | nil => exact ⟨h1, h2, h3, h4⟩
  | cons x l =>
    simp only [List.length_cons] at h2 h3
    refine ⟨?_, ?_, ?_, fun y hy => h4 y (List.mem_cons_of_mem _ hy)⟩
    · have := h1.cut (cap := c) (l := 1) (sz := 1) (m := l.length) (by omega)
      have e : (((x :: l).map (Value.int .i64)).drop (1 * 1)).take l.length = l.map (Value.int .i64) := by
        rw [Nat.mul_one, List.map_cons, List.drop_succ_cons, List.drop_zero, List.take_of_length_le (by simp)]
      rw [e] at this
      simpa [ksNext] using this
    · show l.length ≤ (if (x :: l) = [] then c else c - 1)
      simp; omega
    · show l.length ≤ 1000000000
      omega
def crash1 (b : BE) (k : KS) : BE × KS :=
  if (b.n : Int) - (b.m : Int) > 0 then
    (⟨b.p, cutA b.an b.cn (Int.toNat 0) 1, Int.toNat ((b.m : Int) + nextK (k.l.headD 0) ((b.n : Int) - (b.m : Int) + 1)) - Int.toNat 0, b.cn - Int.toNat 0,
      cutA b.an b.cn (Int.toNat 0) 1, Int.toNat ((b.m : Int) + nextK (k.l.headD 0) ((b.n : Int) - (b.m : Int) + 1)) - Int.toNat 0, b.cn - Int.toNat 0⟩, ksNext k)
  else (⟨b.p, b.ak, b.m, b.ck, b.ak, b.m, b.ck⟩, k)
def stB (bs : List BE) (k : KS) : Nat → List BE × KS
  | 0 => (bs, k)
  | j + 1 => ((stB bs k j).1.set j (crash1 ((stB bs k j).1.getD j default) (stB bs k j).2).1, (crash1 ((stB bs k j).1.getD j default) (stB bs k j).2).2)
theorem stB_len (bs : List BE) (k : KS) : ∀ j, (stB bs k j).1.length = bs.length
  | 0 => rfl
  | j + 1 => by rw [stB, List.length_set, stB_len bs k j]
theorem stB_ok {S : Nat → Obj → Prop} {bs : List BE} {k : KS} (h : KsOk S k) : ∀ j, KsOk S (stB bs k j).2
  | 0 => h
  | j + 1 => by
    have := stB_ok (bs := bs) h j
    rw [stB]
    unfold crash1
    split
    · exact ksNext_ok this
    · exact this
theorem stB_at (bs : List BE) (k : KS) : ∀ (j i : Nat), j ≤ i → (stB bs k j).1.getD i default = bs.getD i default
  | 0, _, _ => rfl
  | j + 1, i, h => by
    rw [stB, List.getD_eq_getElem?_getD, List.getElem?_set_ne (by omega), ← List.getD_eq_getElem?_getD]
    exact stB_at bs k j i (by omega)
structure RowC where
  a : Option Addr
  c : Nat
  qs : List Nat
  xs : List SM
  xcs : List Nat
structure RowOk (S : Nat → Obj → Prop) (W0 : World) (H : List Grp) (cm : SM) (d : ByteArray) (r : RowC) : Prop where
  get : mget cm d = some (.slice r.a r.qs.length r.c)
  rd : Rd S r.a (r.qs.map fun q => Value.map (some q))
  len : r.xs.length = r.qs.length
  le : r.qs.length ≤ 1000000
  lec : r.qs.length ≤ r.c
  lay : ∀ i, i < r.qs.length → At W0 H (r.qs.getD i 0) (.map (encM (r.xs.getD i [])) (r.xcs.getD i 0)) ∧ MapOk (r.xs.getD i []) (r.xcs.getD i 0) ∧ ∀ e ∈ r.xs.getD i [], e.2.1 = .pointer none ∨ ∃ p, e.2.1 = .pointer (some ⟨p, 0, none⟩)
def keptN (r : RowC) (k : KS) : Nat := Int.toNat (nextK (k.l.headD 0) (((r.qs.length : Nat) : Int) + 1))
def CrashK (rows : ByteArray → RowC) : List ByteArray → (SM × Nat) × KS → (SM × Nat) × KS → Prop
  | [], s, t => t = s
  | d :: r, s, t => ∃ s1, MadeOf ((rows d).xs.take (keptN (rows d) s.2)) s.1 s1 ∧ CrashK rows r (s1, ksNext s.2) t
theorem crashK_snoc {rows : ByteArray → RowC} {d : ByteArray} {s1 : SM × Nat} : ∀ {l : List ByteArray} {s t : (SM × Nat) × KS}, CrashK rows l s t → MadeOf ((rows d).xs.take (keptN (rows d) t.2)) t.1 s1 → CrashK rows (l ++ [d]) s (s1, ksNext t.2)
  | [], s, t, h, hm => by subst h; exact ⟨s1, hm, rfl⟩
  | _ :: _, _, _, ⟨s2, h1, h2⟩, hm => ⟨s2, h1, crashK_snoc h2 hm⟩
theorem rd_cut0 {S : Nat → Obj → Prop} {a : Option Addr} {cs : List Value} {c m : Nat} (h : Rd S a cs) (hm : m ≤ cs.length) (hc : cs.length ≤ c) : Rd S (cutA a c (Int.toNat 0) 1) (cs.take m) := by
  have := h.cut (cap := c) (l := 0) (sz := 1) (m := m) (by omega)
  simpa using this
theorem map_take_at {qs : List Nat} {k m : Nat} (h : k < m) (hq : k < qs.length) : ((qs.map fun q => Value.map (some q)).take m)[k]? = some (.map (some (qs.getD k 0))) := by
  rw [List.getElem?_take_of_lt h]; exact map_at hq
theorem ptr_at {bs : List BE} {k : Nat} (h : k < bs.length) : (bs.map fun b => Value.pointer (some ⟨b.p, 0, none⟩))[k]? = some (.pointer (some ⟨(bs.getD k default).p, 0, none⟩)) := by
  rw [List.getElem?_map, List.getElem?_eq_getElem h, List.getD_eq_getElem?_getD, List.getElem?_eq_getElem h]; rfl
theorem sort_mem {ws : List ByteArray} {i : Nat} (h : i < (sortB ws).length) : (sortB ws).getD i default ∈ ws := by
  rw [List.getD_eq_getElem?_getD, List.getElem?_eq_getElem h]
  exact (sortB_perm ws).mem_iff.1 (List.getElem_mem h)
theorem stB_p (bs : List BE) (k : KS) (i : Nat) : ∀ j, ((stB bs k j).1.getD i default).p = (bs.getD i default).p
  | 0 => rfl
  | j + 1 => by
    rw [stB]
    by_cases h : i < (stB bs k j).1.length
    · by_cases hj : j = i
      · subst hj
        rw [List.getD_eq_getElem?_getD, List.getElem?_set_self h]
        unfold crash1
        split <;> exact stB_p bs k j j
      · rw [List.getD_eq_getElem?_getD, List.getElem?_set_ne hj, ← List.getD_eq_getElem?_getD]
        exact stB_p bs k i j
    · have h2 : ∀ l : List BE, l.length ≤ i → l.getD i default = default := fun l hl => by
        rw [List.getD_eq_getElem?_getD, List.getElem?_eq_none hl]; rfl
      have h3 := stB_p bs k i j
      rw [h2 _ (Nat.not_lt.1 h)] at h3
      rw [h2 _ (by rw [List.length_set]; omega)]
      exact h3
theorem stB_hb {bs : List BE} {ks : KS} {j : Nat} (h : j < bs.length) : (bodyG (stB bs ks j).1)[j]? = some ((bs.getD j default).p, .cells #[.slice ((stB bs ks j).1.getD j default).an ((stB bs ks j).1.getD j default).n ((stB bs ks j).1.getD j default).cn, .slice ((stB bs ks j).1.getD j default).ak ((stB bs ks j).1.getD j default).m ((stB bs ks j).1.getD j default).ck] 76 (0, 0)) := by
  rw [bodyG_at (by rw [stB_len]; exact h), beO, stB_p]
theorem getD_mem {bs : List BE} {j : Nat} (h : j < bs.length) : bs.getD j default ∈ bs := by
  rw [List.getD_eq_getElem?_getD, List.getElem?_eq_getElem h]
  exact List.getElem_mem h
theorem bodyG_at_set (l : List BE) (j : Nat) (e : BE) (h : j < l.length) : (bodyG (l.set j e))[j]? = some (e.p, .cells #[.slice e.an e.n e.cn, .slice e.ak e.m e.ck] 76 (0, 0)) := by
  rw [bodyG_at (by rw [List.length_set]; exact h), List.getD_eq_getElem?_getD, List.getElem?_set_self h]; rfl
theorem stB_yes {bs : List BE} {ks : KS} {j : Nat} (h : (((stB bs ks j).1.getD j default).n : Int) - (((stB bs ks j).1.getD j default).m : Int) > 0) :
    stB bs ks (j + 1) = ((stB bs ks j).1.set j ⟨(bs.getD j default).p, cutA ((stB bs ks j).1.getD j default).an ((stB bs ks j).1.getD j default).cn 0 1, Int.toNat ((((stB bs ks j).1.getD j default).m : Int) + nextK ((stB bs ks j).2.l.headD 0) ((((stB bs ks j).1.getD j default).n : Int) - (((stB bs ks j).1.getD j default).m : Int) + 1)) - 0, ((stB bs ks j).1.getD j default).cn - 0,
      cutA ((stB bs ks j).1.getD j default).an ((stB bs ks j).1.getD j default).cn 0 1, Int.toNat ((((stB bs ks j).1.getD j default).m : Int) + nextK ((stB bs ks j).2.l.headD 0) ((((stB bs ks j).1.getD j default).n : Int) - (((stB bs ks j).1.getD j default).m : Int) + 1)) - 0, ((stB bs ks j).1.getD j default).cn - 0⟩, ksNext (stB bs ks j).2) := by
  rw [stB]
  unfold crash1
  rw [if_pos h, stB_p]
  rfl
theorem stB_no {bs : List BE} {ks : KS} {j : Nat} (h : ¬ (((stB bs ks j).1.getD j default).n : Int) - (((stB bs ks j).1.getD j default).m : Int) > 0) :
    stB bs ks (j + 1) = ((stB bs ks j).1.set j ⟨(bs.getD j default).p, ((stB bs ks j).1.getD j default).ak, ((stB bs ks j).1.getD j default).m, ((stB bs ks j).1.getD j default).ck, ((stB bs ks j).1.getD j default).ak, ((stB bs ks j).1.getD j default).m, ((stB bs ks j).1.getD j default).ck⟩, (stB bs ks j).2) := by
  rw [stB]
  unfold crash1
  rw [if_neg h, stB_p]
theorem N_heq {Q : Post} {x : Exit} {n : Fr} {E : Env} {W0 : World} {H H' : List Grp} (h : H = H') (k : N Q x n E W0 H') : N Q x n E W0 H := by subst h; exact k
theorem take_ne {α : Type} {l : List α} {m : Nat} (h : 0 < m) (h2 : 0 < l.length) : l.take m ≠ [] := by
  intro e
  have := congrArg List.length e
  rw [List.length_take] at this
  simp only [List.length_nil] at this
  omega
end Go.Vf
