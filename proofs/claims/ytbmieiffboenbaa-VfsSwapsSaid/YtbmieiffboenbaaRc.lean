/- The disk's calls: what each makes of the disk that stands in memory. Conditions: the numbers are small. -/
import Derived.Test.YtbmieiffboenbaaRb
namespace Go.Vf
open Go.Sw Go.RowKit Go.Proofs Go.Proofs.Ytbmieiffboenbaa

/-- behind a call: a value, and a disk -/
def Is (d : Nat) (M : DM) (v0 : Value) (H : List Grp) : Value → List Grp → Prop := fun v H' => v = v0 ∧ ∃ s : DS, s.ok M ∧ H' = s.G d M ++ H
/-- bytes that lie in memory; none may be nil -/
def BytesV (W0 : World) (H : List Grp) (v : Value) (b : ByteArray) : Prop :=
  (v = .slice none 0 0 ∧ b = ByteArray.mk #[]) ∨ (∃ ad cap, v = .slice (some ad) 0 cap ∧ b = ByteArray.mk #[]) ∨ ∃ k off cap S, v = .slice (some ⟨k, off, none⟩) b.size cap ∧ Rd S (some ⟨k, off, none⟩) (u8s b.data.toList) ∧ ∀ y o, S y o → At W0 H y o
theorem lookN_lt {s : DS} {M : DM} (h : s.ok M) {p : ByteArray} {k : Int} (hl : lookN M.names p = some k) : 0 ≤ k ∧ k.toNat < s.bs.length := by
  have := h.names.lt _ (lookN_mem hl)
  rw [psOf_len] at this; exact this
theorem small_at {M : DM} (hm : Small M) (k : Int) : sizeAt M k ≤ 10000000 := by
  unfold sizeAt bodyAt
  rw [List.getD_eq_getElem?_getD]
  by_cases h : k.toNat < M.bodies.length
  · rw [List.getElem?_eq_getElem h]; exact (hm.size _ (List.getElem_mem h)).1
  · rw [List.getElem?_eq_none (by omega)]; exact Nat.zero_le _
theorem used_small {s : DS} {M : DM} (h : s.ok M) (hm : Small M) : usedM M ≤ 100000000000 :=
  used_le hm fun x hx => by have := (h.names.lt x hx).2; rw [psOf_len] at this; rw [← h.bods.len]; exact this
theorem mget_lk {s : DS} {M : DM} (h : s.ok M) {p : ByteArray} {k : Int} (hl : lookN M.names p = some k) : mget s.nm p = some (.pointer (some ⟨(s.bs.getD k.toNat default).p, 0, none⟩)) := by
  rw [h.names.look, hl, Option.map_some, ptrOf, ps_getD (lookN_lt h hl).2]; rfl
theorem mget_no {s : DS} {M : DM} (h : s.ok M) {p : ByteArray} (hl : lookN M.names p = none) : mget s.nm p = none := by rw [h.names.look, hl]; rfl
theorem was_no {M : DM} {p : ByteArray} (hl : lookN M.names p = none) : wasM M p = 0 := by unfold wasM; rw [hl]
theorem was_yes {s : DS} {M : DM} (h : s.ok M) (hn : (psOf s.bs).Nodup) {p : ByteArray} {k : Int} (hl : lookN M.names p = some k) : wasM M p = szV s.bs (.pointer (some ⟨(s.bs.getD k.toNat default).p, 0, none⟩)) := by
  unfold wasM
  rw [hl]
  have := sz_at h hn (lookN_lt h hl).2
  rw [ptrOf, ps_getD (lookN_lt h hl).2] at this
  exact this.symm
theorem get_at {s : DS} {M : DM} (h : s.ok M) (hn : (psOf s.bs).Nodup) {W0 : World} {H : List Grp} (hH : ∀ x ∈ bodyG s.bs, x ∈ H.flatten) (p : ByteArray) :
    mget s.nm p = none ∨ ∃ q a c kv, mget s.nm p = some (.pointer (some ⟨q, 0, none⟩)) ∧ At W0 H q (.cells #[.slice a (szV s.bs (.pointer (some ⟨q, 0, none⟩))) c, kv] 68 (0, 0)) := by
  cases hl : lookN M.names p with
  | none => exact .inl (mget_no h hl)
  | some k =>
    have hg := mget_lk h hl
    obtain ⟨c, he⟩ := mget_mem hg
    obtain ⟨q, a, c, kv, h1, h2⟩ := names_at h hn hH (W0 := W0) _ he
    injection h1 with h1; injection h1 with h1; injection h1 with h1
    refine .inr ⟨_, a, c, kv, hg, ?_⟩
    rw [← h1] at h2
    exact h2
theorem change1 {ps : List Nat} {q p : Nat} {path : ByteArray} {k : Nat} (hk : k = ps.length) (hq : q = p) : ChangeR (ps ++ [p]) [(path, .pointer (some ⟨q, 0, none⟩), 0)] [(path, (k : Int))] := by
  subst hk hq
  refine ⟨fun x => ?_, by simp, fun y hy _ => by rw [List.mem_singleton.1 hy]; simp⟩
  rw [mget_cons, lookN]
  cases x == path
  · rfl
  · simp [chV, ptrOf, ptrV]
theorem change0 {ps : List Nat} {path : ByteArray} : ChangeR ps [(path, .pointer none, 0)] [(path, -1)] := by
  refine ⟨fun x => ?_, by simp, fun y hy h0 => by rw [List.mem_singleton.1 hy] at h0; exact absurd (show (0 : Int) ≤ -1 from h0) (by decide)⟩
  rw [mget_cons, lookN]
  cases x == path
  · rfl
  · simp [chV]
theorem body_sub {bs : List BE} {H : List Grp} (h : bodyG bs ∈ H) : ∀ x ∈ bodyG bs, x ∈ H.flatten := fun _ hx => List.mem_flatten.2 ⟨_, h, hx⟩

/-- the order of the walk of Write -/
def lowW (s : DS) (M : DM) (d : Nat) (H : List Grp) : List Grp :=
  [(d, dkO M s)] :: [(s.nb, .map (encM s.nm) s.nc)] :: [(s.cb, .map (encM s.cm) s.cc)] :: s.bg :: (rowsG s.rows ++ ([(s.kb, .map (encM s.km) s.kc)] :: bodyG s.bs :: (s.Z ++ H)))
theorem lowW_from {s : DS} {M : DM} {d : Nat} {H : List Grp} {W0 : World} {w : World} (hw : Sat W0 (lowW s M d H) w) : Sat W0 (s.G d M ++ H) w := sat_cnt hw fun _ x => by
  simp only [DS.G, lowW, List.cons_append, List.append_assoc]
  simp only [List.flatten_cons, List.flatten_append, List.count_append]
  omega
theorem lowW_to {s : DS} {M : DM} {d : Nat} {H : List Grp} {W0 : World} {w : World} (hw : Sat W0 (s.G d M ++ H) w) : Sat W0 (lowW s M d H) w := sat_cnt hw fun _ x => by
  simp only [DS.G, lowW, List.cons_append, List.append_assoc]
  simp only [List.flatten_cons, List.flatten_append, List.count_append]
  omega
theorem writeM_err {M : DM} {p b : ByteArray} (h : errM M (rightB p) ≠ 0) : writeM M p b = (errM M (rightB p), callM M (rightB p)) := by unfold writeM; rw [if_pos h]
theorem writeM_full {M : DM} {p b : ByteArray} (h : errM M (rightB p) = 0) (h1 : (usedM M : Int) - (wasM M p : Int) + (b.size : Int) > M.room) : writeM M p b = (61, callM M (rightB p)) := by
  unfold writeM; rw [if_neg (by simpa using h), if_pos h1]
theorem writeM_ok {M : DM} {p b : ByteArray} (h : errM M (rightB p) = 0) (h1 : ¬ (usedM M : Int) - (wasM M p : Int) + (b.size : Int) > M.room) : writeM M p b = (0, changeM { callM M (rightB p) with bodies := M.bodies ++ [⟨b, ByteArray.mk #[]⟩] } (dirB p) [(p, (M.bodies.length : Int))]) := by
  unfold writeM; rw [if_neg (by simpa using h), if_neg h1]
theorem cWrite {s : DS} {M : DM} (h : s.ok M) (hm : Small M) (d : Nat) (path b : ByteArray) (hpath : path.size ≤ 9223372036854775807) (hb : b.size ≤ 1000000000) (W0 : World) (H : List Grp) {bv : Value} (hbv : BytesV W0 H bv b) :
    Tri Try.prog 13 #[.pointer (some ⟨d, 0, none⟩), .string path, bv] W0 (s.G d M ++ H) (Is d (writeM M path b).2 (.int .i64 (writeM M path b).1) H) := by
  refine tri_sat fun ⟨w0, hw0⟩ => ?_
  have hn := ps_nodup hw0
  have hsum := sum_used h hn
  have hus := used_small h hm
  have hsub : ∀ x ∈ bodyG s.bs, x ∈ (rowsG s.rows ++ ([(s.kb, .map (encM s.km) s.kc)] :: bodyG s.bs :: (s.Z ++ H))).flatten := body_sub (by simp)
  have hw : ∀ v, mget s.nm path = some v → szV s.bs v ≤ 1000000000000 := fun v hv => by
    obtain ⟨c, he⟩ := mget_mem hv
    obtain ⟨k, _, hk, h2⟩ := names_ptr h he
    rw [show v = _ from h2, sz_at h hn hk]
    have := small_at hm k
    omega
  have hlen := h.bods.len
  have hmb := hm.bodies
  have hfail : ∀ (e : Int), (writeM M path b).1 = e → (writeM M path b).2 = callM M (rightB path) → ∀ (v : Value) (H1 : List Grp), v = .int .i64 e → H1 = lowW s (callM M (rightB path)) d H → ∃ H2, Is d (writeM M path b).2 (.int .i64 (writeM M path b).1) H v H2 ∧ ∀ w, Sat W0 H1 w → Sat W0 H2 w := by
    intro e e1 e2 v H1 hv hH
    refine ⟨_, ⟨by rw [e1]; exact hv, s, by rw [e2]; exact ok_call h _, rfl⟩, fun w hw => ?_⟩
    rw [hH] at hw
    rw [e2]
    exact lowW_from hw
  have hdone : ∀ (a1 a2 : Option Addr) (n c1 c2 p q : Nat) (g1 bg2 : Grp) (cx : Value) (rows1 : List RW), (writeM M path b).1 = 0 → (writeM M path b).2 = changeM { callM M (rightB path) with bodies := M.bodies ++ [⟨b, ByteArray.mk #[]⟩] } (dirB path) [(path, (M.bodies.length : Int))] →
      b.size = n → Own 5 1 (.slice a1 n c1) g1 n (u8s b.data.toList) → Own 66 1 (.slice a2 (s.bs.length + 1) c2) bg2 (s.bs.length + 1) (s.bs.map (fun b => Value.pointer (some ⟨b.p, 0, none⟩)) ++ [.pointer (some ⟨p, 0, none⟩)]) → RowsOk (mput s.cm s.cc (dirB path) cx) rows1 → RowsAdd s.rows (dirB path) q rows1 →
      ∀ (v : Value) (H1 : List Grp), v = .int .i64 0 → (∀ w, Sat W0 H1 w → Sat W0 ([(d, .cells #[.int .i64 M.room, .slice a2 (s.bs.length + 1) c2, .map (some s.nb), .map (some s.kb), .map (some s.cb), .bool (callS M.fails M.once M.calls (rightB path)).2.1, .bool M.once, .int .i64 (callS M.fails M.once M.calls (rightB path)).2.2] 64 (0, 0))] :: [(s.nb, .map (encM (foldS (s.nm, s.nc) [(path, .pointer (some ⟨p, 0, none⟩), 0)]).1) (foldS (s.nm, s.nc) [(path, .pointer (some ⟨p, 0, none⟩), 0)]).2)] :: [(s.cb, .map (encM (mput s.cm s.cc (dirB path) cx)) (if mhas s.cm (dirB path) then s.cc else s.cc + 1))] :: [(q, .map (encM [(path, .pointer (some ⟨p, 0, none⟩), 0)]) 1)] :: bg2 :: [(p, .cells #[.slice a1 n c1, .slice none 0 0] 68 (0, 0))] :: g1 :: (rowsG rows1 ++ ([(s.kb, .map (encM s.km) s.kc)] :: bodyG s.bs :: (s.Z ++ H)))) w) →
      ∃ H2, Is d (writeM M path b).2 (.int .i64 (writeM M path b).1) H v H2 ∧ ∀ w, Sat W0 H1 w → Sat W0 H2 w := by
    intro a1 a2 n c1 c2 p q g1 bg2 cx rows1 e1 e2 hbn ho1 ho2 hR hA v H1 hv hH
    have k1 := ok_body (ok_call h (rightB path)) hbn ho1 ho2
    have hc : ChangeR (psOf (s.bs ++ [⟨p, a1, n, c1, none, 0, 0⟩])) [(path, .pointer (some ⟨p, 0, none⟩), 0)] [(path, (M.bodies.length : Int))] := by
      rw [show psOf (s.bs ++ [⟨p, a1, n, c1, none, 0, 0⟩]) = psOf s.bs ++ [p] by unfold psOf; rw [List.map_append]; rfl]
      exact change1 (by rw [psOf_len, hlen]) rfl
    have k2 := ok_change (dir := dirB path) k1 (mapok1 _ _) hc (List.Perm.refl _) hR hA
    refine ⟨_, ⟨by rw [e1]; exact hv, _, by rw [e2]; exact k2, rfl⟩, fun w hw => ?_⟩
    rw [e2]
    refine sat_cnt (hH w hw) fun _ x => ?_
    simp only [DS.G, dkO, changeM, callM, bodyG, beO, List.map_append, List.map_cons, List.map_nil, List.length_append, List.length_cons, List.length_nil, Nat.zero_add, List.cons_append, List.append_assoc]
    simp only [List.flatten_cons, List.flatten_append, List.count_append]
    omega
  rcases hbv with ⟨rfl, rfl⟩ | ⟨ad, cap, rfl, rfl⟩ | ⟨k, off, cap, S, rfl, hrd, hS⟩
  · refine Tri.heap (fun w hw => lowW_to hw) (Tri.post (vWriteNil d s.nb s.kb s.cb s.nc s.cc M.room M.calls _ s.bg _ s.bs.length M.fails M.once s.nm s.cm path (szV s.bs) hpath hm.calls h.nok (by rw [hsum]; omega) hw h.own (by omega) s.rows h.rows (rows_le h hm) W0 ([(s.kb, .map (encM s.km) s.kc)] :: bodyG s.bs :: (s.Z ++ H)) (get_at h hn hsub path) (names_at h hn hsub)) fun v H1 hr => ?_)
    · rw [hsum] at hr
      rcases hr with ⟨hce, hv, hH⟩ | ⟨hce, hro, hv, hH⟩ | ⟨hce, hro, hv, p, q, a2, c2, cx, rows1, bg2, ho2, hR, hA, hH⟩
      · exact hfail _ (by rw [writeM_err hce]; rfl) (by rw [writeM_err hce]) v H1 hv hH
      · have hro' : (usedM M : Int) - (wasM M path : Int) + ((ByteArray.mk #[]).size : Int) > M.room := by
          cases hl : lookN M.names path with
          | none => rw [mget_no h hl] at hro; rw [was_no hl]; exact hro
          | some k => rw [mget_lk h hl] at hro; rw [was_yes h hn hl]; exact hro
        exact hfail 61 (by rw [writeM_full hce hro']) (by rw [writeM_full hce hro']) v H1 hv hH
      · have hro' : ¬ (usedM M : Int) - (wasM M path : Int) + ((ByteArray.mk #[]).size : Int) > M.room := by
          cases hl : lookN M.names path with
          | none => rw [mget_no h hl] at hro; rw [was_no hl]; exact hro
          | some k => rw [mget_lk h hl] at hro; rw [was_yes h hn hl]; exact hro
        refine hdone none a2 0 0 c2 p q [] bg2 cx rows1 (by rw [writeM_ok hce hro']) (by rw [writeM_ok hce hro']) rfl Own.nil ho2 hR hA v H1 hv fun w hw => ?_
        rw [hH] at hw
        refine sat_cnt hw fun _ x => ?_
        simp only [List.flatten_cons, List.count_append, List.nil_append]
  · refine Tri.heap (fun w hw => lowW_to hw) (Tri.post (vWriteEmpty d s.nb s.kb s.cb s.nc s.cc M.room M.calls _ s.bg _ s.bs.length M.fails M.once s.nm s.cm path (szV s.bs) hpath hm.calls h.nok (by rw [hsum]; omega) hw h.own (by omega) s.rows h.rows (rows_le h hm) ad cap W0 ([(s.kb, .map (encM s.km) s.kc)] :: bodyG s.bs :: (s.Z ++ H)) (get_at h hn hsub path) (names_at h hn hsub)) fun v H1 hr => ?_)
    · rw [hsum] at hr
      rcases hr with ⟨hce, hv, hH⟩ | ⟨hce, hro, hv, hH⟩ | ⟨hce, hro, hv, p, q, a1, c1, a2, c2, cx, rows1, g1, bg2, ho1, ho2, hR, hA, hH⟩
      · exact hfail _ (by rw [writeM_err hce]; rfl) (by rw [writeM_err hce]) v H1 hv hH
      · have hro' : (usedM M : Int) - (wasM M path : Int) + ((ByteArray.mk #[]).size : Int) > M.room := by
          cases hl : lookN M.names path with
          | none => rw [mget_no h hl] at hro; rw [was_no hl]; exact hro
          | some k => rw [mget_lk h hl] at hro; rw [was_yes h hn hl]; exact hro
        exact hfail 61 (by rw [writeM_full hce hro']) (by rw [writeM_full hce hro']) v H1 hv hH
      · have hro' : ¬ (usedM M : Int) - (wasM M path : Int) + ((ByteArray.mk #[]).size : Int) > M.room := by
          cases hl : lookN M.names path with
          | none => rw [mget_no h hl] at hro; rw [was_no hl]; exact hro
          | some k => rw [mget_lk h hl] at hro; rw [was_yes h hn hl]; exact hro
        refine hdone a1 a2 0 c1 c2 p q g1 bg2 cx rows1 (by rw [writeM_ok hce hro']) (by rw [writeM_ok hce hro']) rfl ho1 ho2 hR hA v H1 hv fun w hw => ?_
        rw [hH] at hw
        exact hw
  · refine Tri.heap (fun w hw => lowW_to hw) (Tri.post (vWriteBytes d s.nb s.kb s.cb s.nc s.cc M.room M.calls _ s.bg _ s.bs.length M.fails M.once s.nm s.cm path (szV s.bs) hpath hm.calls h.nok (by rw [hsum]; omega) hw h.own (by omega) s.rows h.rows (rows_le h hm) k off b.size cap S b.data.toList hrd (Array.length_toList) hb W0 ([(s.kb, .map (encM s.km) s.kc)] :: bodyG s.bs :: (s.Z ++ H)) (get_at h hn hsub path) (fun y o hy => at_app2 (.cons (.cons (at_app2 (hS y o hy))))) (names_at h hn hsub)) fun v H1 hr => ?_)
    · rw [hsum] at hr
      rcases hr with ⟨hce, hv, hH⟩ | ⟨hce, hro, hv, hH⟩ | ⟨hce, hro, hv, p, q, a1, c1, a2, c2, cx, rows1, g1, bg2, ho1, ho2, hR, hA, hH⟩
      · exact hfail _ (by rw [writeM_err hce]; rfl) (by rw [writeM_err hce]) v H1 hv hH
      · have hro' : (usedM M : Int) - (wasM M path : Int) + (b.size : Int) > M.room := by
          cases hl : lookN M.names path with
          | none => rw [mget_no h hl] at hro; rw [was_no hl]; exact hro
          | some k => rw [mget_lk h hl] at hro; rw [was_yes h hn hl]; exact hro
        exact hfail 61 (by rw [writeM_full hce hro']) (by rw [writeM_full hce hro']) v H1 hv hH
      · have hro' : ¬ (usedM M : Int) - (wasM M path : Int) + (b.size : Int) > M.room := by
          cases hl : lookN M.names path with
          | none => rw [mget_no h hl] at hro; rw [was_no hl]; exact hro
          | some k => rw [mget_lk h hl] at hro; rw [was_yes h hn hl]; exact hro
        refine hdone a1 a2 b.size c1 c2 p q g1 bg2 cx rows1 (by rw [writeM_ok hce hro']) (by rw [writeM_ok hce hro']) rfl ho1 ho2 hR hA v H1 hv fun w hw => ?_
        rw [hH] at hw
        exact hw
end Go.Vf
