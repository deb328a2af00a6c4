/- What a crash makes of the bodies in memory. No program is in sight. -/
import Derived.Test.YtbmieiffboenbaaDk
import Derived.Test.YtbmieiffboenbaaKeys
namespace Go.Vf
open Go.Sw Go.RowKit

/-- a body in memory: its block, its bytes, those that are kept -/
structure BE where
  p : Nat
  an : Option Addr
  n : Nat
  cn : Nat
  ak : Option Addr
  m : Nat
  ck : Nat
instance : Inhabited BE := ⟨⟨0, none, 0, 0, none, 0, 0⟩⟩
def beO (b : BE) : Nat × Obj := (b.p, .cells #[.slice b.an b.n b.cn, .slice b.ak b.m b.ck] 68 (0, 0))
def bodyG (bs : List BE) : Grp := bs.map beO
theorem bodyG_at {bs : List BE} {k : Nat} (h : k < bs.length) : (bodyG bs)[k]? = some (beO (bs.getD k default)) := by
  unfold bodyG
  rw [List.getElem?_map, List.getElem?_eq_getElem h, List.getD_eq_getElem?_getD, List.getElem?_eq_getElem h]; rfl
theorem bodyG_set (bs : List BE) (k : Nat) (b : BE) : (bodyG bs).set k (beO b) = bodyG (bs.set k b) := by
  unfold bodyG; rw [List.map_set]
/-- the numbers that are left, and where they lie -/
structure KS where
  l : List Int
  a : Option Addr
  c : Nat
def ksNext (k : KS) : KS := ⟨k.l.drop 1, if k.l = [] then k.a else cutA k.a k.c 1 1, if k.l = [] then k.c else k.c - 1⟩
def KsOk (S : Nat → Obj → Prop) (k : KS) : Prop := Rd S k.a (k.l.map (Value.int .i64)) ∧ k.l.length ≤ k.c ∧ k.l.length ≤ 1000000000 ∧ ∀ x ∈ k.l, -9223372036854775808 ≤ x ∧ x ≤ 9223372036854775807
theorem ksNext_ok {S : Nat → Obj → Prop} {k : KS} (h : KsOk S k) : KsOk S (ksNext k) := by
  obtain ⟨h1, h2, h3, h4⟩ := h
  obtain ⟨l, a, c⟩ := k
  cases l with
  | nil => exact ⟨h1, h2, h3, h4⟩
  | cons x l =>
    simp only [List.length_cons] at h2 h3
    refine ⟨?_, ?_, ?_, fun y hy => h4 y (List.mem_cons_of_mem _ hy)⟩
    · have := h1.cut (cap := c) (l := 1) (sz := 1) (m := l.length) (by omega)
      have e : (((x :: l).map (Value.int .i64)).drop (1 * 1)).take l.length = l.map (Value.int .i64) := by
        rw [Nat.mul_one, List.map_cons, List.drop_succ_cons, List.drop_zero, List.take_of_length_le (by simp)]
      rw [e] at this
      simpa [ksNext] using this
    · show l.length ≤ (if (x :: l) = [] then c else c - 1)
      simp; omega
    · show l.length ≤ 1000000000
      omega
def crash1 (b : BE) (k : KS) : BE × KS :=
  if (b.n : Int) - (b.m : Int) > 0 then
    (⟨b.p, cutA b.an b.cn (Int.toNat 0) 1, Int.toNat ((b.m : Int) + nextK (k.l.headD 0) ((b.n : Int) - (b.m : Int) + 1)) - Int.toNat 0, b.cn - Int.toNat 0,
      cutA b.an b.cn (Int.toNat 0) 1, Int.toNat ((b.m : Int) + nextK (k.l.headD 0) ((b.n : Int) - (b.m : Int) + 1)) - Int.toNat 0, b.cn - Int.toNat 0⟩, ksNext k)
  else (⟨b.p, b.ak, b.m, b.ck, b.ak, b.m, b.ck⟩, k)
/-- the first j bodies have crashed -/
def stB (bs : List BE) (k : KS) : Nat → List BE × KS
  | 0 => (bs, k)
  | j + 1 => ((stB bs k j).1.set j (crash1 ((stB bs k j).1.getD j default) (stB bs k j).2).1, (crash1 ((stB bs k j).1.getD j default) (stB bs k j).2).2)
theorem stB_len (bs : List BE) (k : KS) : ∀ j, (stB bs k j).1.length = bs.length
  | 0 => rfl
  | j + 1 => by rw [stB, List.length_set, stB_len bs k j]
theorem stB_ok {S : Nat → Obj → Prop} {bs : List BE} {k : KS} (h : KsOk S k) : ∀ j, KsOk S (stB bs k j).2
  | 0 => h
  | j + 1 => by
    have := stB_ok (bs := bs) h j
    rw [stB]
    unfold crash1
    split
    · exact ksNext_ok this
    · exact this
theorem stB_at (bs : List BE) (k : KS) : ∀ (j i : Nat), j ≤ i → (stB bs k j).1.getD i default = bs.getD i default
  | 0, _, _ => rfl
  | j + 1, i, h => by
    rw [stB, List.getD_eq_getElem?_getD, List.getElem?_set_ne (by omega), ← List.getD_eq_getElem?_getD]
    exact stB_at bs k j i (by omega)
theorem ks_nil {k : KS} (h : k.l = []) : k.l.headD 0 = 0 ∧ ksNext k = k := by
  obtain ⟨l, a, c⟩ := k
  simp only at h
  subst h
  exact ⟨rfl, rfl⟩
/-- a directory's changes: where their row lies, the blocks, what they hold -/
structure RowC where
  a : Option Addr
  c : Nat
  qs : List Nat
  xs : List SM
  xcs : List Nat
structure RowOk (S : Nat → Obj → Prop) (W0 : World) (H : List Grp) (cm : SM) (d : ByteArray) (r : RowC) : Prop where
  get : mget cm d = some (.slice r.a r.qs.length r.c)
  rd : Rd S r.a (r.qs.map fun q => Value.map (some q))
  len : r.xs.length = r.qs.length
  le : r.qs.length ≤ 1000000
  lec : r.qs.length ≤ r.c
  lay : ∀ i, i < r.qs.length → At W0 H (r.qs.getD i 0) (.map (encM (r.xs.getD i [])) (r.xcs.getD i 0)) ∧ MapOk (r.xs.getD i []) (r.xcs.getD i 0) ∧ ∀ e ∈ r.xs.getD i [], e.2.1 = .pointer none ∨ ∃ p, e.2.1 = .pointer (some ⟨p, 0, none⟩)
/-- how many of a directory's changes a crash keeps -/
def keptN (r : RowC) (k : KS) : Nat := Int.toNat (nextK (k.l.headD 0) (((r.qs.length : Nat) : Int) + 1))
def CrashK (rows : ByteArray → RowC) : List ByteArray → (SM × Nat) × KS → (SM × Nat) × KS → Prop
  | [], s, t => t = s
  | d :: r, s, t => ∃ s1, MadeOf ((rows d).xs.take (keptN (rows d) s.2)) s.1 s1 ∧ CrashK rows r (s1, ksNext s.2) t
theorem crashK_snoc {rows : ByteArray → RowC} {d : ByteArray} {s1 : SM × Nat} : ∀ {l : List ByteArray} {s t : (SM × Nat) × KS}, CrashK rows l s t → MadeOf ((rows d).xs.take (keptN (rows d) t.2)) t.1 s1 → CrashK rows (l ++ [d]) s (s1, ksNext t.2)
  | [], s, t, h, hm => by subst h; exact ⟨s1, hm, rfl⟩
  | _ :: _, _, _, ⟨s2, h1, h2⟩, hm => ⟨s2, h1, crashK_snoc h2 hm⟩
theorem rd_cut0 {S : Nat → Obj → Prop} {a : Option Addr} {cs : List Value} {c m : Nat} (h : Rd S a cs) (hm : m ≤ cs.length) (hc : cs.length ≤ c) : Rd S (cutA a c (Int.toNat 0) 1) (cs.take m) := by
  have := h.cut (cap := c) (l := 0) (sz := 1) (m := m) (by omega)
  simpa using this
theorem map_take_at {qs : List Nat} {k m : Nat} (h : k < m) (hq : k < qs.length) : ((qs.map fun q => Value.map (some q)).take m)[k]? = some (.map (some (qs.getD k 0))) := by
  rw [List.getElem?_take_of_lt h]; exact map_at hq
theorem ptr_at {bs : List BE} {k : Nat} (h : k < bs.length) : (bs.map fun b => Value.pointer (some ⟨b.p, 0, none⟩))[k]? = some (.pointer (some ⟨(bs.getD k default).p, 0, none⟩)) := by
  rw [List.getElem?_map, List.getElem?_eq_getElem h, List.getD_eq_getElem?_getD, List.getElem?_eq_getElem h]; rfl
theorem sort_mem {ws : List ByteArray} {i : Nat} (h : i < (sortB ws).length) : (sortB ws).getD i default ∈ ws := by
  rw [List.getD_eq_getElem?_getD, List.getElem?_eq_getElem h]
  exact (sortB_perm ws).mem_iff.1 (List.getElem_mem h)
theorem stB_p (bs : List BE) (k : KS) (i : Nat) : ∀ j, ((stB bs k j).1.getD i default).p = (bs.getD i default).p
  | 0 => rfl
  | j + 1 => by
    rw [stB]
    by_cases h : i < (stB bs k j).1.length
    · by_cases hj : j = i
      · subst hj
        rw [List.getD_eq_getElem?_getD, List.getElem?_set_self h]
        unfold crash1
        split <;> exact stB_p bs k j j
      · rw [List.getD_eq_getElem?_getD, List.getElem?_set_ne hj, ← List.getD_eq_getElem?_getD]
        exact stB_p bs k i j
    · have h2 : ∀ l : List BE, l.length ≤ i → l.getD i default = default := fun l hl => by
        rw [List.getD_eq_getElem?_getD, List.getElem?_eq_none hl]; rfl
      have h3 := stB_p bs k i j
      rw [h2 _ (Nat.not_lt.1 h)] at h3
      rw [h2 _ (by rw [List.length_set]; omega)]
      exact h3
theorem stB_hb {bs : List BE} {ks : KS} {j : Nat} (h : j < bs.length) : (bodyG (stB bs ks j).1)[j]? = some ((bs.getD j default).p, .cells #[.slice ((stB bs ks j).1.getD j default).an ((stB bs ks j).1.getD j default).n ((stB bs ks j).1.getD j default).cn, .slice ((stB bs ks j).1.getD j default).ak ((stB bs ks j).1.getD j default).m ((stB bs ks j).1.getD j default).ck] 68 (0, 0)) := by
  rw [bodyG_at (by rw [stB_len]; exact h), beO, stB_p]
theorem getD_mem {bs : List BE} {j : Nat} (h : j < bs.length) : bs.getD j default ∈ bs := by
  rw [List.getD_eq_getElem?_getD, List.getElem?_eq_getElem h]
  exact List.getElem_mem h
theorem bodyG_at_set (l : List BE) (j : Nat) (e : BE) (h : j < l.length) : (bodyG (l.set j e))[j]? = some (e.p, .cells #[.slice e.an e.n e.cn, .slice e.ak e.m e.ck] 68 (0, 0)) := by
  rw [bodyG_at (by rw [List.length_set]; exact h), List.getD_eq_getElem?_getD, List.getElem?_set_self h]; rfl
theorem stB_yes {bs : List BE} {ks : KS} {j : Nat} (h : (((stB bs ks j).1.getD j default).n : Int) - (((stB bs ks j).1.getD j default).m : Int) > 0) :
    stB bs ks (j + 1) = ((stB bs ks j).1.set j ⟨(bs.getD j default).p, cutA ((stB bs ks j).1.getD j default).an ((stB bs ks j).1.getD j default).cn 0 1, Int.toNat ((((stB bs ks j).1.getD j default).m : Int) + nextK ((stB bs ks j).2.l.headD 0) ((((stB bs ks j).1.getD j default).n : Int) - (((stB bs ks j).1.getD j default).m : Int) + 1)) - 0, ((stB bs ks j).1.getD j default).cn - 0,
      cutA ((stB bs ks j).1.getD j default).an ((stB bs ks j).1.getD j default).cn 0 1, Int.toNat ((((stB bs ks j).1.getD j default).m : Int) + nextK ((stB bs ks j).2.l.headD 0) ((((stB bs ks j).1.getD j default).n : Int) - (((stB bs ks j).1.getD j default).m : Int) + 1)) - 0, ((stB bs ks j).1.getD j default).cn - 0⟩, ksNext (stB bs ks j).2) := by
  rw [stB]
  unfold crash1
  rw [if_pos h, stB_p]
  rfl
theorem stB_no {bs : List BE} {ks : KS} {j : Nat} (h : ¬ (((stB bs ks j).1.getD j default).n : Int) - (((stB bs ks j).1.getD j default).m : Int) > 0) :
    stB bs ks (j + 1) = ((stB bs ks j).1.set j ⟨(bs.getD j default).p, ((stB bs ks j).1.getD j default).ak, ((stB bs ks j).1.getD j default).m, ((stB bs ks j).1.getD j default).ck, ((stB bs ks j).1.getD j default).ak, ((stB bs ks j).1.getD j default).m, ((stB bs ks j).1.getD j default).ck⟩, (stB bs ks j).2) := by
  rw [stB]
  unfold crash1
  rw [if_neg h, stB_p]
theorem N_heq {Q : Post} {x : Exit} {n : Nat} {E : Env} {W0 : World} {H H' : List Grp} (h : H = H') (k : N Q x n E W0 H') : N Q x n E W0 H := by subst h; exact k
theorem take_ne {α : Type} {l : List α} {m : Nat} (h : 0 < m) (h2 : 0 < l.length) : l.take m ≠ [] := by
  intro e
  have := congrArg List.length e
  rw [List.length_take] at this
  simp only [List.length_nil] at this
  omega
end Go.Vf
