/- A disk in memory, and a disk in plain words: one stands for the other. No call is in sight. -/
import Derived.Test.YtbmieiffboenbaaRa
import Derived.Test.YtbmieiffboenbaaVi
import Derived.Test.YtbmieiffboenbaaVn
import Derived.Test.YtbmieiffboenbaaVo
import Derived.Test.YtbmieiffboenbaaVp
namespace Go.Vf
open Go.Sw Go.RowKit

structure DS where
  nb : Nat
  kb : Nat
  cb : Nat
  nm : SM
  km : SM
  cm : SM
  nc : Nat
  kc : Nat
  cc : Nat
  ba : Option Addr
  bc : Nat
  bg : Grp
  bs : List BE
  rows : List RW
  Z : List Grp
def dkO (M : DM) (s : DS) : Obj := .cells #[.int .i64 M.room, .slice s.ba s.bs.length s.bc, .map (some s.nb), .map (some s.kb), .map (some s.cb), .bool M.fails, .bool M.once, .int .i64 M.calls] 64 (0, 0)
def DS.G (s : DS) (d : Nat) (M : DM) : List Grp :=
  [(d, dkO M s)] :: [(s.nb, .map (encM s.nm) s.nc)] :: [(s.kb, .map (encM s.km) s.kc)] :: [(s.cb, .map (encM s.cm) s.cc)] :: s.bg :: bodyG s.bs :: (rowsG s.rows ++ s.Z)
def inZ (Z : List Grp) (y : Nat) (o : Obj) : Prop := (y, o) ∈ Z.flatten
theorem inZ_app {K Z : List Grp} {y : Nat} {o : Obj} (h : inZ Z y o) : inZ (K ++ Z) y o := by
  unfold inZ at h ⊢
  rw [List.flatten_append]; exact List.mem_append_right _ h
theorem inZ_at {W0 : World} {Z H : List Grp} (hz : Z.flatten.Sublist H.flatten) {y : Nat} {o : Obj} (h : inZ Z y o) : At W0 H y o := .inr (hz.subset h)
def psOf (bs : List BE) : List Nat := bs.map (·.p)
structure BodyR (S : Nat → Obj → Prop) (b : BE) (B : Body) : Prop where
  n : b.n = B.now.size
  cn : b.n ≤ b.cn
  an : (b.an = none ∧ b.n = 0 ∧ b.cn = 0) ∨ ∃ k off, b.an = some ⟨k, off, none⟩
  now : Rd S b.an (u8s B.now.data.toList)
  m : b.m = B.kept.size
  cm : b.m ≤ b.ck
  am : (b.ak = none ∧ b.m = 0 ∧ b.ck = 0) ∨ ∃ k off, b.ak = some ⟨k, off, none⟩
  kept : Rd S b.ak (u8s B.kept.data.toList)
theorem BodyR.mono {S S' : Nat → Obj → Prop} {b : BE} {B : Body} (h : BodyR S b B) (hs : ∀ y o, S y o → S' y o) : BodyR S' b B :=
  ⟨h.n, h.cn, h.an, h.now.mono hs, h.m, h.cm, h.am, h.kept.mono hs⟩
def QR (Z : List Grp) (ps : List Nat) (q : Nat) (l : List Nm) : Prop := ∃ x c, inZ Z q (.map (encM x) c) ∧ MapOk x c ∧ ChangeR ps x l
structure DS.ok (s : DS) (M : DM) : Prop where
  own : Own 66 1 (.slice s.ba s.bs.length s.bc) s.bg s.bs.length (s.bs.map fun b => Value.pointer (some ⟨b.p, 0, none⟩))
  nok : MapOk s.nm s.nc
  kok : MapOk s.km s.kc
  cok : MapOk s.cm s.cc
  names : NamesR (psOf s.bs) s.nm M.names
  kept : NamesR (psOf s.bs) s.km M.kept
  rows : RowsOk s.cm s.rows
  chs : ∀ d, All2 (QR s.Z (psOf s.bs)) (rowOf s.rows d) (chOf M.changes d)
  bods : All2 (BodyR (inZ s.Z)) s.bs M.bodies
/-- numbers that keep all sums ints -/
structure Small (M : DM) : Prop where
  bodies : M.bodies.length ≤ 100000
  size : ∀ B ∈ M.bodies, B.now.size ≤ 10000000 ∧ B.kept.size ≤ B.now.size
  names : M.names.length ≤ 10000
  changes : M.changes.length ≤ 100000
  calls : -9223372036854775808 ≤ M.calls ∧ M.calls ≤ 9223372036854775807
  paths : ∀ x ∈ M.names, x.1.size ≤ 1000000
  dirs : ∀ c ∈ M.changes, c.dir.size ≤ 1000000
theorem ok_call {s : DS} {M : DM} (h : s.ok M) (r : Bool) : s.ok (callM M r) := ⟨h.own, h.nok, h.kok, h.cok, h.names, h.kept, h.rows, h.chs, h.bods⟩

/-! ## the bodies' sizes -/
def szV (bs : List BE) : Value → Nat
  | .pointer (some a) => match bs.find? (fun b => b.p == a.block) with | some b => b.n | none => 0
  | _ => 0
theorem szV_of {bs : List BE} (hn : (psOf bs).Nodup) : ∀ i : Nat, i < bs.length → szV bs (ptrV (bs.getD i default).p) = (bs.getD i default).n := by
  unfold szV ptrV
  simp only
  induction bs with
  | nil => intro i h; simp at h
  | cons b bs ih =>
    intro i hi
    unfold psOf at hn
    rw [List.map_cons, List.nodup_cons] at hn
    cases i with
    | zero => simp
    | succ i =>
      have hi' : i < bs.length := by simpa using hi
      have hne : (b.p == (bs.getD i default).p) = false := by
        rw [beq_eq_false_iff_ne]; intro h
        refine hn.1 (List.mem_map.2 ⟨bs.getD i default, getD_mem hi', h.symm⟩)
      rw [List.getD_cons_succ, List.find?_cons, hne]
      exact ih hn.2 i hi'
theorem ps_getD {bs : List BE} {i : Nat} (h : i < bs.length) : (psOf bs).getD i 0 = (bs.getD i default).p := by
  unfold psOf
  rw [List.getD_eq_getElem?_getD, List.getD_eq_getElem?_getD, List.getElem?_map, List.getElem?_eq_getElem h]; rfl
theorem psOf_len (bs : List BE) : (psOf bs).length = bs.length := by unfold psOf; rw [List.length_map]
theorem sz_at {s : DS} {M : DM} (h : s.ok M) (hn : (psOf s.bs).Nodup) {k : Int} (hk : k.toNat < s.bs.length) : szV s.bs (ptrOf (psOf s.bs) k) = sizeAt M k := by
  unfold ptrOf
  rw [ps_getD hk, szV_of hn _ hk]
  exact (h.bods.get default default _ hk).n
theorem sum_used {s : DS} {M : DM} (h : s.ok M) (hn : (psOf s.bs).Nodup) : sumN (szV s.bs) s.nm = usedM M := by
  have hp := (names_perm h.names h.nok).map fun y => szV s.bs y.2
  rw [List.map_map, List.map_map] at hp
  have e := hp.sum_nat
  unfold sumN usedM
  rw [show (s.nm.map fun e => szV s.bs e.2.1) = s.nm.map ((fun y => szV s.bs y.2) ∘ fun e => (e.1, e.2.1)) from rfl, e]
  congr 1
  refine List.map_congr_left fun x hx => ?_
  exact sz_at h hn (by have := (h.names.lt x hx).2; rwa [psOf_len] at this)
theorem used_le {M : DM} (hs : Small M) (hl : ∀ x ∈ M.names, x.2.toNat < M.bodies.length) : usedM M ≤ 100000000000 := by
  have h : ∀ l : List Nm, (∀ x ∈ l, x.2.toNat < M.bodies.length) → (l.map fun x => sizeAt M x.2).sum ≤ l.length * 10000000 := by
    intro l
    induction l with
    | nil => intro _; simp
    | cons x l ih =>
      intro hx
      have h1 := ih fun y hy => hx y (List.mem_cons_of_mem _ hy)
      have h2 : sizeAt M x.2 ≤ 10000000 := by
        have hlt := hx x List.mem_cons_self
        unfold sizeAt bodyAt
        rw [List.getD_eq_getElem?_getD, List.getElem?_eq_getElem hlt]
        exact (hs.size _ (List.getElem_mem hlt)).1
      rw [List.map_cons, List.sum_cons, List.length_cons]
      omega
  have := h M.names hl
  have h2 := hs.names
  unfold usedM
  omega
theorem names_ptr {s : DS} {M : DM} (h : s.ok M) {e : ByteArray × Value × Nat} (he : e ∈ s.nm) : ∃ k : Int, lookN M.names e.1 = some k ∧ k.toNat < s.bs.length ∧ e.2.1 = ptrOf (psOf s.bs) k := by
  obtain ⟨p, v, c⟩ := e
  have h1 := mget_of h.nok.nodup he
  rw [h.names.look] at h1
  cases hl : lookN M.names p with
  | none => rw [hl] at h1; cases h1
  | some k =>
    rw [hl] at h1
    injection h1 with h1
    exact ⟨k, rfl, by have := (h.names.lt _ (lookN_mem hl)).2; rwa [psOf_len] at this, h1.symm⟩
/-- each name's body lies where the bodies lie -/
theorem names_at {s : DS} {M : DM} (h : s.ok M) (hn : (psOf s.bs).Nodup) {W0 : World} {H : List Grp} (hH : ∀ x ∈ bodyG s.bs, x ∈ H.flatten) :
    ∀ e ∈ s.nm, ∃ p a c kv, e.2.1 = .pointer (some ⟨p, 0, none⟩) ∧ At W0 H p (.cells #[.slice a (szV s.bs e.2.1) c, kv] 68 (0, 0)) := by
  intro e he
  obtain ⟨k, _, hk, h2⟩ := names_ptr h he
  refine ⟨(s.bs.getD k.toNat default).p, (s.bs.getD k.toNat default).an, (s.bs.getD k.toNat default).cn, .slice (s.bs.getD k.toNat default).ak (s.bs.getD k.toNat default).m (s.bs.getD k.toNat default).ck, ?_, .inr (hH _ ?_)⟩
  · rw [h2, ptrOf, ps_getD hk]; rfl
  · rw [h2, ptrOf, ps_getD hk, szV_of hn _ hk]
    exact List.mem_of_getElem? (bodyG_at hk)
/-- the blocks of the bodies are unlike -/
theorem ps_nodup {s : DS} {d : Nat} {M : DM} {W0 : World} {H : List Grp} {w : World} (h : Sat W0 (s.G d M ++ H) w) : (psOf s.bs).Nodup := by
  have hn := h.nodup
  have : (bodyG s.bs).Sublist (s.G d M ++ H).flatten := List.sublist_flatten_of_mem (List.mem_append_left _ (by simp [DS.G]))
  have h2 := hn.sublist (this.map Prod.fst)
  unfold bodyG at h2
  rw [List.map_map] at h2
  exact h2
/-- with what a start's world tells -/
theorem tri_sat {P : Program} {f : FuncId} {args : Array Value} {W0 : World} {H : List Grp} {R : Value → List Grp → Prop} (h : (∃ w, Sat W0 H w) → Tri P f args W0 H R) : Tri P f args W0 H R := fun w hs => h ⟨w, hs⟩ w hs

/-! ## what the calls' changes keep -/
theorem qr_mono {K Z : List Grp} {ps : List Nat} {q : Nat} {l : List Nm} (h : QR Z ps q l) : QR (K ++ Z) ps q l := by
  obtain ⟨x, c, h1, h2, h3⟩ := h
  exact ⟨x, c, inZ_app h1, h2, h3⟩
theorem ok_body {s : DS} {M : DM} (h : s.ok M) {p : Nat} {a1 a2 : Option Addr} {n c1 c2 : Nat} {g1 bg2 : Grp} {b : ByteArray} (hb : b.size = n) (h1 : Own 5 1 (.slice a1 n c1) g1 n (u8s b.data.toList)) (h2 : Own 66 1 (.slice a2 (s.bs.length + 1) c2) bg2 (s.bs.length + 1) (s.bs.map (fun b => Value.pointer (some ⟨b.p, 0, none⟩)) ++ [.pointer (some ⟨p, 0, none⟩)])) :
    DS.ok { s with ba := a2, bc := c2, bg := bg2, bs := s.bs ++ [⟨p, a1, n, c1, none, 0, 0⟩], Z := g1 :: s.Z } { M with bodies := M.bodies ++ [⟨b, ByteArray.mk #[]⟩] } := by
  have hps : psOf (s.bs ++ [⟨p, a1, n, c1, none, 0, 0⟩]) = psOf s.bs ++ [p] := by unfold psOf; rw [List.map_append]; rfl
  obtain ⟨a, c, he, hc, hr⟩ := h1.shape
  injection he with e1 e2 e3
  subst e1 e3
  have ha : (a1 = none ∧ n = 0 ∧ c1 = 0) ∨ ∃ k off, a1 = some ⟨k, off, none⟩ := by
    obtain ⟨_, ⟨he, _, hn⟩ | ⟨k, cap, junk, he, _⟩⟩ := h1
    · injection he with e1 e2 e3; exact .inl ⟨e1, e2, e3⟩
    · injection he with e1 e2 e3; exact .inr ⟨k, 0, e1⟩
  refine ⟨?_, h.nok, h.kok, h.cok, ?_, ?_, h.rows, fun d => ?_, ?_⟩
  · simp only [List.length_append, List.length_cons, List.length_nil, List.map_append, List.map_cons, List.map_nil]; exact h2
  · rw [hps]; exact h.names.mono p
  · rw [hps]; exact h.kept.mono p
  · rw [hps]
    refine (h.chs d).imp fun q l ⟨x, c, h1, h2, h3⟩ => ⟨x, c, inZ_app (K := [g1]) h1, h2, h3.mono p⟩
  · refine (h.bods.imp fun b B hb => hb.mono fun y o h => inZ_app (K := [g1]) h).app (.cons ⟨hb.symm, hc, ha, hr.mono fun y o h => ?_, rfl, Nat.le_refl _, .inl ⟨rfl, rfl, rfl⟩, .inl rfl⟩ .nil)
    show (y, o) ∈ (g1 :: s.Z).flatten
    rw [List.flatten_cons]; exact List.mem_append_left _ h
theorem chOf_snoc (l : List Ch) (c : Ch) (d : ByteArray) : chOf (l ++ [c]) d = if d == c.dir then chOf l d ++ [c.l] else chOf l d := by
  unfold chOf
  rw [List.filter_append, List.map_append, List.filter_cons]
  cases d == c.dir <;> simp
theorem ok_change {s : DS} {M : DM} (h : s.ok M) {dir : ByteArray} {l : List Nm} {q xc : Nat} {x dn : SM} {cx : Value} {rows1 : List RW} (hx : MapOk x xc) (hc : ChangeR (psOf s.bs) x l) (hd : dn.Perm x) (hR : RowsOk (mput s.cm s.cc dir cx) rows1) (hA : RowsAdd s.rows dir q rows1) :
    DS.ok { s with nm := (foldS (s.nm, s.nc) dn).1, nc := (foldS (s.nm, s.nc) dn).2, cm := mput s.cm s.cc dir cx, cc := if mhas s.cm dir then s.cc else s.cc + 1, rows := rows1, Z := [(q, .map (encM x) xc)] :: s.Z } (changeM M dir l) := by
  refine ⟨h.own, MapOk.fold (s := (s.nm, s.nc)) h.nok dn, h.kok, h.cok.put _ _, names_apply h.names h.nok hx hc hd, h.kept, hR, fun d => ?_, h.bods.imp fun b B hb => hb.mono fun y o h => inZ_app (K := [[(q, .map (encM x) xc)]]) h⟩
  show All2 _ (rowOf rows1 d) (chOf (M.changes ++ [⟨dir, l⟩]) d)
  rw [rowsAdd_of hA, chOf_snoc]
  have h0 := (h.chs d).imp fun q' l' hq => qr_mono (K := [[(q, .map (encM x) xc)]]) hq
  have key : All2 (QR ([[(q, .map (encM x) xc)]] ++ s.Z) (psOf s.bs)) (if (d == dir) = true then rowOf s.rows d ++ [q] else rowOf s.rows d) (if (d == dir) = true then chOf M.changes d ++ [l] else chOf M.changes d) := by
    split
    · refine h0.app (.cons ⟨x, xc, ?_, hx, hc⟩ .nil)
      show (q, _) ∈ List.flatten ([(q, _)] :: s.Z)
      rw [List.flatten_cons]; exact List.mem_append_left _ (List.mem_singleton.2 rfl)
    · exact h0
  exact key
theorem rows_le {s : DS} {M : DM} (h : s.ok M) (hs : Small M) : ∀ r ∈ s.rows, r.qs.length ≤ 1000000 := by
  intro r hr
  have hk : (s.rows.map (·.dir)).Nodup := by
    have h1 : (s.cm.map (fun e => (e.1, e.2.1))).map Prod.fst = (s.rows.map (fun r => (r.dir, r.v))).map Prod.fst := by rw [h.rows.1]
    rw [List.map_map, List.map_map] at h1
    have h2 := h.cok.nodup
    rw [show (s.cm.map Prod.fst) = s.cm.map (Prod.fst ∘ fun e => (e.1, e.2.1)) from rfl, h1] at h2
    exact h2
  have hrow : rowOf s.rows r.dir = r.qs := by
    have : ∀ rows : List RW, (rows.map (·.dir)).Nodup → r ∈ rows → rowOf rows r.dir = r.qs := by
      intro rows
      induction rows with
      | nil => intro _ h; cases h
      | cons y rows ih =>
        intro hn hm
        rw [List.map_cons, List.nodup_cons] at hn
        rw [rowOf]
        rcases List.mem_cons.1 hm with rfl | hm
        · rw [if_pos (baEq.2 rfl)]
        · rw [if_neg, ih hn.2 hm]
          intro he
          rw [baEq] at he
          exact hn.1 (List.mem_map.2 ⟨r, hm, he⟩)
    exact this s.rows hk hr
  have h1 := (h.chs r.dir).len
  rw [hrow] at h1
  have h2 : (chOf M.changes r.dir).length ≤ M.changes.length := by
    unfold chOf
    rw [List.length_map]; exact List.length_filter_le _ _
  have := hs.changes
  omega
end Go.Vf
