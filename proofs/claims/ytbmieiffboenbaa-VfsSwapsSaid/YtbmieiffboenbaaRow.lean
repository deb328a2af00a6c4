/- The rows of a disk's changes; name() over all of them. Conditions: what the blocks hold is told. -/
import Derived.Test.YtbmieiffboenbaaVm
namespace Go.Vf
open Go.Sw Go.RowKit

/-- what lies in a heap is a matter of blocks, not of groups nor of their order -/
theorem sat_cnt {W0 : World} {H H' : List Grp} {w : World} (h : Sat W0 H w) (hc : ∀ (_ : DecidableEq (Nat × Obj)) (x : Nat × Obj), H.flatten.count x = H'.flatten.count x) : Sat W0 H' w :=
  h.flat (by
    have inst : DecidableEq (Nat × Obj) := Classical.typeDecidableEq _
    exact List.perm_iff_count.2 (hc inst))
theorem _root_.Go.Sw.Sat.dropApp {W0 : World} {K L : List Grp} {w : World} (h : Sat W0 (K ++ L) w) : Sat W0 L w := h.subl (by rw [List.flatten_append]; exact List.sublist_append_right _ _)
theorem at_app {W0 : World} {K L : List Grp} {b : Nat} {o : Obj} (h : At W0 K b o) : At W0 (K ++ L) b o := by
  rcases h with h | h
  · exact .inl h
  · exact .inr (by rw [List.flatten_append]; exact List.mem_append_left _ h)
theorem at_app2 {W0 : World} {K L : List Grp} {b : Nat} {o : Obj} (h : At W0 L b o) : At W0 (K ++ L) b o := by
  rcases h with h | h
  · exact .inl h
  · exact .inr (by rw [List.flatten_append]; exact List.mem_append_right _ h)
/-- a directory's row: its value, its group, the blocks of its changes -/
structure RW where
  dir : ByteArray
  v : Value
  g : Grp
  qs : List Nat
def rowsG (rows : List RW) : List Grp := rows.map (·.g)
def rowV (r : RW) : Prop := Own 72 1 r.v r.g r.qs.length (r.qs.map fun q => Value.map (some q)) ∧ 0 < r.qs.length
def RowsOk (cm : SM) (rows : List RW) : Prop := cm.map (fun e => (e.1, e.2.1)) = rows.map (fun r => (r.dir, r.v)) ∧ ∀ r ∈ rows, rowV r
def rowOf : List RW → ByteArray → List Nat
  | [], _ => []
  | r :: l, d => if d == r.dir then r.qs else rowOf l d
/-- a change more -/
def RowsAdd (rows : List RW) (dir : ByteArray) (q : Nat) (rows' : List RW) : Prop :=
  ((∀ r ∈ rows, (dir == r.dir) = false) ∧ ∃ v g, rows' = rows ++ [⟨dir, v, g, [q]⟩]) ∨ ∃ pre r post v g, rows = pre ++ r :: post ∧ (∀ r ∈ pre, (dir == r.dir) = false) ∧ r.dir = dir ∧ rows' = pre ++ ⟨dir, v, g, r.qs ++ [q]⟩ :: post
theorem rowOf_app {d : ByteArray} : ∀ {l r : List RW}, (∀ x ∈ l, (d == x.dir) = false) → rowOf (l ++ r) d = rowOf r d
  | [], _, _ => rfl
  | x :: l, r, h => by
    rw [List.cons_append, rowOf, h x List.mem_cons_self]
    simp only [Bool.false_eq_true, if_false]
    exact rowOf_app fun y hy => h y (List.mem_cons_of_mem _ hy)
theorem rowOf_none {d : ByteArray} {l : List RW} (h : ∀ x ∈ l, (d == x.dir) = false) : rowOf l d = [] := by
  have := rowOf_app (r := []) h
  rwa [List.append_nil] at this
theorem rowOf_app' {d : ByteArray} : ∀ {l r r' : List RW}, (rowOf r d = rowOf r' d) → rowOf (l ++ r) d = rowOf (l ++ r') d
  | [], _, _, h => h
  | x :: l, r, r', h => by
    rw [List.cons_append, List.cons_append, rowOf, rowOf]
    split
    · rfl
    · exact rowOf_app' h
theorem rowsAdd_of {rows rows' : List RW} {dir : ByteArray} {q : Nat} (h : RowsAdd rows dir q rows') (d : ByteArray) : rowOf rows' d = if d == dir then rowOf rows d ++ [q] else rowOf rows d := by
  rcases h with ⟨h, v, g, rfl⟩ | ⟨pre, r, post, v, g, rfl, h, hd, rfl⟩
  · cases hk : d == dir
    · simp only [Bool.false_eq_true, if_false]
      have : rowOf (rows ++ [⟨dir, v, g, [q]⟩]) d = rowOf (rows ++ []) d := rowOf_app' (by simp [rowOf, hk])
      rw [this, List.append_nil]
    · rw [baEq] at hk; subst hk
      simp only [if_true]
      rw [rowOf_app h, rowOf_none h, rowOf, if_pos (baEq.2 rfl)]; rfl
  · cases hk : d == dir
    · simp only [Bool.false_eq_true, if_false]
      exact rowOf_app' (by rw [rowOf, rowOf, hd, hk]; rfl)
    · rw [baEq] at hk; subst hk
      simp only [if_true]
      rw [rowOf_app h, rowOf_app h, rowOf, rowOf, hd, if_pos (baEq.2 rfl), if_pos (baEq.2 rfl)]
theorem rowsAdd_mem {rows rows' : List RW} {dir : ByteArray} {q : Nat} (h : RowsAdd rows dir q rows') {r : RW} (hr : r ∈ rows') : (∃ r0 ∈ rows, r0 = r) ∨ r.dir = dir ∧ r.qs = rowOf rows dir ++ [q] := by
  rcases h with ⟨h, v, g, rfl⟩ | ⟨pre, r1, post, v, g, rfl, h, hd, rfl⟩
  · rcases List.mem_append.1 hr with hr | hr
    · exact .inl ⟨r, hr, rfl⟩
    · rw [List.mem_singleton.1 hr]; exact .inr ⟨rfl, by rw [rowOf_none h]; rfl⟩
  · rcases List.mem_append.1 hr with hr | hr
    · exact .inl ⟨r, List.mem_append_left _ hr, rfl⟩
    · rcases List.mem_cons.1 hr with rfl | hr
      · exact .inr ⟨rfl, by rw [rowOf_app h, rowOf, hd, if_pos (baEq.2 rfl)]⟩
      · exact .inl ⟨r, List.mem_append_right _ (List.mem_cons_of_mem _ hr), rfl⟩

theorem mget_none {m : SM} {k : ByteArray} : mget m k = none ↔ ∀ e ∈ m, (k == e.1) = false := by
  have h : ∀ (m : SM) (i : Nat), mfind k m i = none ↔ ∀ e ∈ m, (k == e.1) = false := by
    intro m
    induction m with
    | nil => intro i; simp [mfind]
    | cons e m ih =>
      intro i
      rw [mfind]
      cases hk : k == e.1
      · simp only [Bool.false_eq_true, if_false, ih (i + 1)]
        constructor
        · intro h x hx; rcases List.mem_cons.1 hx with rfl | hx
          · exact hk
          · exact h x hx
        · intro h x hx; exact h x (List.mem_cons_of_mem _ hx)
      · simp only [if_true, reduceCtorEq, false_iff]
        intro h; rw [h e List.mem_cons_self] at hk; cases hk
  unfold mget
  rw [Option.map_eq_none_iff]
  exact h m 0
theorem mfind_i (k : ByteArray) : ∀ (m : SM) (i j : Nat), (mfind k m i).map (·.2) = (mfind k m j).map (·.2)
  | [], _, _ => rfl
  | e :: m, i, j => by
    rw [mfind, mfind]
    split
    · rfl
    · exact mfind_i k m _ _
theorem mget_cons (e : ByteArray × Value × Nat) (m : SM) (k : ByteArray) : mget (e :: m) k = if k == e.1 then some e.2.1 else mget m k := by
  unfold mget
  rw [mfind]
  split
  · rfl
  · exact mfind_i k m _ _
/-- the entry that is found -/
theorem mget_split {m : SM} {k : ByteArray} {v : Value} (h : mget m k = some v) : ∃ pre c post, m = pre ++ (k, v, c) :: post ∧ ∀ e ∈ pre, (k == e.1) = false := by
  induction m with
  | nil => cases h
  | cons e m ih =>
    rw [mget_cons] at h
    cases hk : k == e.1
    · rw [hk] at h
      simp only [Bool.false_eq_true, if_false] at h
      obtain ⟨pre, c, post, rfl, hp⟩ := ih h
      exact ⟨e :: pre, c, post, rfl, fun x hx => by rcases List.mem_cons.1 hx with rfl | hx; exact hk; exact hp x hx⟩
    · rw [hk] at h
      simp only [if_true, Option.some.injEq] at h
      obtain ⟨a, b, c⟩ := e
      rw [baEq] at hk; subst hk; subst h
      exact ⟨[], c, m, rfl, fun x hx => absurd hx List.not_mem_nil⟩
theorem mput_split {pre post : SM} {k : ByteArray} {v v' : Value} {c c' : Nat} (hp : ∀ e ∈ pre, (k == e.1) = false) : mput (pre ++ (k, v, c) :: post) c' k v' = pre ++ (k, v', c) :: post := by
  induction pre with
  | nil => rw [List.nil_append, mput, if_pos (baEq.2 rfl)]; rfl
  | cons e pre ih =>
    rw [List.cons_append, mput, hp e List.mem_cons_self]
    simp only [Bool.false_eq_true, if_false]
    rw [ih fun x hx => hp x (List.mem_cons_of_mem _ hx)]; rfl
theorem rows_none {cm : SM} {rows : List RW} (h : RowsOk cm rows) {dir : ByteArray} (hg : mget cm dir = none) : ∀ r ∈ rows, (dir == r.dir) = false := by
  intro r hr
  have : (r.dir, r.v) ∈ cm.map (fun e => (e.1, e.2.1)) := by rw [h.1]; exact List.mem_map.2 ⟨r, hr, rfl⟩
  obtain ⟨e, he, h2⟩ := List.mem_map.1 this
  have := mget_none.1 hg e he
  rw [(Prod.mk.injEq _ _ _ _ ▸ h2 : e.1 = r.dir ∧ _).1] at this
  exact this
theorem rows_some {cm : SM} {rows : List RW} (h : RowsOk cm rows) {dir : ByteArray} {rv : Value} (hg : mget cm dir = some rv) :
    ∃ pre r post c p1 p2, rows = pre ++ r :: post ∧ cm = p1 ++ (dir, rv, c) :: p2 ∧ (∀ e ∈ p1, (dir == e.1) = false) ∧ (∀ r ∈ pre, (dir == r.dir) = false) ∧ r.dir = dir ∧ r.v = rv ∧ p1.map (fun e => (e.1, e.2.1)) = pre.map (fun r => (r.dir, r.v)) ∧ p2.map (fun e => (e.1, e.2.1)) = post.map (fun r => (r.dir, r.v)) := by
  obtain ⟨p1, c, p2, rfl, hp⟩ := mget_split hg
  have h1 := h.1
  rw [List.map_append, List.map_cons] at h1
  obtain ⟨pre, rest, rfl, h2, h3⟩ := List.map_eq_append_iff.1 h1.symm
  obtain ⟨r, post, rfl, h4, h5⟩ := List.map_eq_cons_iff.1 h3
  injection h4 with h6 h7
  refine ⟨pre, r, post, c, p1, p2, rfl, rfl, hp, fun x hx => ?_, h6, h7, h2.symm, h5.symm⟩
  have : (x.dir, x.v) ∈ p1.map (fun e => (e.1, e.2.1)) := by rw [← h2]; exact List.mem_map.2 ⟨x, hx, rfl⟩
  obtain ⟨e, he, h8⟩ := List.mem_map.1 this
  have := hp e he
  rw [(Prod.mk.injEq _ _ _ _ ▸ h8 : e.1 = x.dir ∧ _).1] at this
  exact this
end Go.Vf
namespace Go.Proofs.Ytbmieiffboenbaa
open Go.Sw Go.Vf Go.RowKit
theorem vName (d nb kb cb q nc cc xc : Nat) (room calls : Int) (bv : Value) (fails once : Bool) (nm cm xm : SM) (dir : ByteArray) (hn : MapOk nm nc) (hx : MapOk xm xc) (hv : ∀ e ∈ xm, e.2.1 = .pointer none ∨ ∃ p, e.2.1 = .pointer (some ⟨p, 0, none⟩)) (rows : List RW) (hR : RowsOk cm rows) (hl : ∀ r ∈ rows, r.qs.length ≤ 1000000) (K : List Grp) (W0 : World) (H : List Grp) (hA : At W0 K q (.map (encM xm) xc)) :
    Tri Try.prog 36 #[.pointer (some ⟨d, 0, none⟩), .string dir, .map (some q)] W0 ([(d, .cells #[.int .i64 room, bv, .map (some nb), .map (some kb), .map (some cb), .bool fails, .bool once, .int .i64 calls] 64 (0, 0))] :: [(nb, .map (encM nm) nc)] :: [(cb, .map (encM cm) cc)] :: (K ++ (rowsG rows ++ H)))
      (fun v H' => ∃ dn x rows', dn.Perm xm ∧ v = .tuple #[] ∧ RowsOk (mput cm cc dir x) rows' ∧ RowsAdd rows dir q rows' ∧ H' = [(d, .cells #[.int .i64 room, bv, .map (some nb), .map (some kb), .map (some cb), .bool fails, .bool once, .int .i64 calls] 64 (0, 0))] :: [(nb, .map (encM (foldS (nm, nc) dn).1) (foldS (nm, nc) dn).2)] :: [(cb, .map (encM (mput cm cc dir x)) (if mhas cm dir then cc else cc + 1))] :: (K ++ (rowsG rows' ++ H))) := by
  cases hg : mget cm dir with
  | none =>
    have hno := rows_none hR hg
    refine Tri.post (vNameNew d nb kb cb q nc cc xc room calls bv fails once nm cm xm dir hn hx hv hg W0 (K ++ (rowsG rows ++ H)) (at_app hA)) fun v H1 h => ?_
    obtain ⟨dn, x, g, hd, ho, hv1, hH⟩ := h
    refine ⟨_, ⟨dn, x, rows ++ [⟨dir, x, g, [q]⟩], hd, hv1, ⟨?_, ?_⟩, .inl ⟨hno, x, g, rfl⟩, rfl⟩, fun w hw => ?_⟩
    · have hm : mhas cm dir = false := mhas_false.2 (mget_none.1 hg)
      rw [mput_new _ _ hm, List.map_append, List.map_append, hR.1]; rfl
    · intro r hr
      rcases List.mem_append.1 hr with hr | hr
      · exact hR.2 r hr
      · rw [List.mem_singleton.1 hr]; exact ⟨ho, Nat.one_pos⟩
    · rw [hH] at hw
      refine sat_cnt hw fun _ x => ?_
      simp only [rowsG, List.map_append, List.map_cons, List.map_nil, List.flatten_cons, List.flatten_append, List.flatten_nil, List.count_append, List.append_nil]
      omega
  | some rv =>
    obtain ⟨pre, r, post, c, p1, p2, rfl, rfl, hp1, hpre, hd, hrv, e1, e2⟩ := rows_some hR hg
    obtain ⟨ho, hpos⟩ := hR.2 r (List.mem_append_right _ List.mem_cons_self)
    have hq := hl r (List.mem_append_right _ List.mem_cons_self)
    rw [hrv] at ho
    refine Tri.heap (H' := [(d, .cells #[.int .i64 room, bv, .map (some nb), .map (some kb), .map (some cb), .bool fails, .bool once, .int .i64 calls] 64 (0, 0))] :: [(nb, .map (encM nm) nc)] :: [(cb, .map (encM (p1 ++ (dir, rv, c) :: p2)) cc)] :: r.g :: (K ++ (rowsG pre ++ (rowsG post ++ H)))) (fun w hw => sat_cnt hw fun _ x => ?_)
      (Tri.post (vNameMore d nb kb cb q nc cc xc room calls bv fails once nm _ xm dir hn hx hv rv r.g r.qs.length _ ho hq hg W0 (K ++ (rowsG pre ++ (rowsG post ++ H))) (at_app hA)) fun v H1 h => ?_)
    · simp only [rowsG, List.map_append, List.map_cons, List.flatten_cons, List.flatten_append, List.count_append]
      omega
    · obtain ⟨dn, x, g, hdn, ho2, hv1, hH⟩ := h
      refine ⟨_, ⟨dn, x, pre ++ ⟨dir, x, g, r.qs ++ [q]⟩ :: post, hdn, hv1, ⟨?_, ?_⟩, .inr ⟨pre, r, post, x, g, rfl, hpre, hd, rfl⟩, rfl⟩, fun w hw => ?_⟩
      · rw [mput_split hp1]
        simp only [List.map_append, List.map_cons, e1, e2]
      · intro y hy
        rcases List.mem_append.1 hy with hy | hy
        · exact hR.2 y (List.mem_append_left _ hy)
        · rcases List.mem_cons.1 hy with rfl | hy
          · refine ⟨?_, by simp⟩
            show Own 72 1 x g (r.qs ++ [q]).length ((r.qs ++ [q]).map _)
            rw [List.map_append, List.length_append]; exact ho2
          · exact hR.2 y (List.mem_append_right _ (List.mem_cons_of_mem _ hy))
      · rw [hH] at hw
        refine sat_cnt hw fun _ x => ?_
        simp only [rowsG, List.map_append, List.map_cons, List.flatten_cons, List.flatten_append, List.count_append]
        omega
end Go.Proofs.Ytbmieiffboenbaa
