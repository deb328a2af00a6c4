/- The disk's calls: what each makes of the disk that stands in memory (Remove, Rename, Sync, Append, Fail, Used, Read, List, SyncDir, New). Conditions: the numbers are small. -/
import Derived.Test.YtbmieiffboenbaaRc
import Derived.Test.YtbmieiffboenbaaVh
namespace Go.Vf
open Go.Sw Go.RowKit Go.Proofs Go.Proofs.Ytbmieiffboenbaa

theorem tlEq {a b : ByteArray} : (a.toList == b.toList) = (a == b) := by
  cases h : a == b
  · rw [beq_eq_false_iff_ne]
    intro he
    rw [baNe] at h
    rw [Lib.toList_data, Lib.toList_data] at he
    refine h ?_
    cases a with | mk a => cases b with | mk b => cases a with | mk a => cases b with | mk b => simpa using he
  · rw [baEq] at h; subst h; exact beq_self_eq_true _
theorem post_call {s : DS} {M M' : DM} {d : Nat} {W0 : World} {H H1 : List Grp} {v v0 : Value} (h : s.ok M) (r : Bool) (hM : M' = callM M r) (hv : v = v0) (hH : ∀ w, Sat W0 H1 w → Sat W0 (s.G d (callM M r) ++ H) w) :
    ∃ H2, Is d M' v0 H v H2 ∧ ∀ w, Sat W0 H1 w → Sat W0 H2 w := ⟨_, ⟨hv, s, by rw [hM]; exact ok_call h r, rfl⟩, fun w hw => by rw [hM]; exact hH w hw⟩
def low3 (s : DS) (M : DM) (d : Nat) (H : List Grp) : List Grp :=
  [(d, dkO M s)] :: [(s.nb, .map (encM s.nm) s.nc)] :: [(s.cb, .map (encM s.cm) s.cc)] :: (rowsG s.rows ++ (s.bg :: [(s.kb, .map (encM s.km) s.kc)] :: bodyG s.bs :: (s.Z ++ H)))
theorem low3_from {s : DS} {M : DM} {d : Nat} {H : List Grp} {W0 : World} {w : World} (hw : Sat W0 (low3 s M d H) w) : Sat W0 (s.G d M ++ H) w := sat_cnt hw fun _ x => by
  simp only [DS.G, low3, List.cons_append, List.append_assoc]
  simp only [List.flatten_cons, List.flatten_append, List.count_append]
  omega
theorem low3_to {s : DS} {M : DM} {d : Nat} {H : List Grp} {W0 : World} {w : World} (hw : Sat W0 (s.G d M ++ H) w) : Sat W0 (low3 s M d H) w := sat_cnt hw fun _ x => by
  simp only [DS.G, low3, List.cons_append, List.append_assoc]
  simp only [List.flatten_cons, List.flatten_append, List.count_append]
  omega
theorem removeM_err {M : DM} {p : ByteArray} (h : errM M (rightB p) ≠ 0) : removeM M p = (errM M (rightB p), callM M (rightB p)) := by unfold removeM; rw [if_pos h]
theorem removeM_no {M : DM} {p : ByteArray} (h : errM M (rightB p) = 0) (hl : lookN M.names p = none) : removeM M p = (60, callM M (rightB p)) := by unfold removeM; rw [if_neg (by simpa using h), hl]
theorem removeM_ok {M : DM} {p : ByteArray} {k : Int} (h : errM M (rightB p) = 0) (hl : lookN M.names p = some k) : removeM M p = (0, changeM (callM M (rightB p)) (dirB p) [(p, -1)]) := by unfold removeM; rw [if_neg (by simpa using h), hl]
theorem cRemove {s : DS} {M : DM} (h : s.ok M) (hm : Small M) (d : Nat) (path : ByteArray) (hpath : path.size ≤ 9223372036854775807) (W0 : World) (H : List Grp) :
    Tri Try.prog 43 #[.pointer (some ⟨d, 0, none⟩), .string path] W0 (s.G d M ++ H) (Is d (removeM M path).2 (.int .i64 (removeM M path).1) H) := by
  cases hl : lookN M.names path with
  | none =>
    refine Tri.heap (fun w hw => low3_to hw) (Tri.post (vRemoveNo d s.nb s.kb s.cb s.nc M.room M.calls _ M.fails M.once s.nm s.cm s.cc h.nok path hpath hm.calls (mget_no h hl) W0 _) fun v H1 hr => ?_)
    rcases hr with ⟨hce, hv, hH⟩ | ⟨hce, hv, hH⟩
    · exact post_call h (rightB path) (by rw [removeM_err hce]) (by rw [removeM_err hce]; exact hv) fun w hw => by rw [hH] at hw; exact low3_from hw
    · exact post_call h (rightB path) (by rw [removeM_no hce hl]) (by rw [removeM_no hce hl]; exact hv) fun w hw => by rw [hH] at hw; exact low3_from hw
  | some k =>
    refine Tri.heap (fun w hw => low3_to hw) (Tri.post (vRemove d s.nb s.kb s.cb s.nc s.cc M.room M.calls _ M.fails M.once s.nm s.cm path hpath hm.calls h.nok s.rows h.rows (rows_le h hm) _ (mget_lk h hl) W0 _) fun v H1 hr => ?_)
    rcases hr with ⟨hce, hv, hH⟩ | ⟨hce, hv, q, cx, rows1, hR, hA, hH⟩
    · exact post_call h (rightB path) (by rw [removeM_err hce]) (by rw [removeM_err hce]; exact hv) fun w hw => by rw [hH] at hw; exact low3_from hw
    · have k2 := ok_change (dir := dirB path) (ok_call h (rightB path)) (mapok1 path _) (change0 (path := path)) (List.Perm.refl _) hR hA
      refine ⟨_, ⟨by rw [removeM_ok hce hl]; exact hv, _, by rw [removeM_ok hce hl]; exact k2, rfl⟩, fun w hw => ?_⟩
      rw [hH] at hw
      rw [removeM_ok hce hl]
      refine sat_cnt hw fun _ x => ?_
      simp only [DS.G, dkO, changeM, callM, List.cons_append, List.append_assoc]
      simp only [List.flatten_cons, List.flatten_append, List.count_append]
      omega
theorem renameM_err {M : DM} {p q : ByteArray} (h : errM M (renR p q) ≠ 0) : renameM M p q = (errM M (renR p q), callM M (renR p q)) := by unfold renameM; rw [if_pos h]
theorem renameM_no {M : DM} {p q : ByteArray} (h : errM M (renR p q) = 0) (hl : lookN M.names p = none) : renameM M p q = (60, callM M (renR p q)) := by unfold renameM; rw [if_neg (by simpa using h), hl]
theorem renameM_same {M : DM} {p q : ByteArray} {k : Int} (h : errM M (renR p q) = 0) (hl : lookN M.names p = some k) (he : (p == q) = true) : renameM M p q = (0, callM M (renR p q)) := by unfold renameM; rw [if_neg (by simpa using h), hl]; simp only; rw [if_pos he]
theorem renameM_ok {M : DM} {p q : ByteArray} {k : Int} (h : errM M (renR p q) = 0) (hl : lookN M.names p = some k) (he : (p == q) = false) : renameM M p q = (0, changeM (callM M (renR p q)) (dirB q) [(p, -1), (q, k)]) := by unfold renameM; rw [if_neg (by simpa using h), hl]; simp only; rw [if_neg (by rw [he]; decide)]
theorem ren_change {ps : List Nat} {path to : ByteArray} {p : Nat} {k : Int} (hne : (path == to) = false) {xm : SM} {xc : Nat} (hc : RenC path to p xm xc) (hk : 0 ≤ k) (hk2 : k.toNat < ps.length) (hp : ptrOf ps k = .pointer (some ⟨p, 0, none⟩)) :
    MapOk xm xc ∧ ChangeR ps xm [(path, -1), (to, k)] := by
  have hne' : (to == path) = false := by rw [baNe] at hne ⊢; exact fun e => hne e.symm
  have hkeys : (([(path, -1), (to, k)] : List Nm).map Prod.fst).Nodup := by
    simp only [List.map_cons, List.map_nil, List.nodup_cons, List.mem_singleton, List.not_mem_nil, not_false_eq_true, List.nodup_nil, and_true]
    rw [baNe] at hne; exact hne
  have hlt : ∀ y ∈ ([(path, -1), (to, k)] : List Nm), 0 ≤ y.2 → y.2.toNat < ps.length := by
    intro y hy h0
    rcases List.mem_cons.1 hy with rfl | hy
    · exact absurd (show (0 : Int) ≤ -1 from h0) (by decide)
    · rw [List.mem_singleton.1 hy]; exact hk2
  have hchk : chV ps k = .pointer (some ⟨p, 0, none⟩) := by unfold chV; rw [if_pos hk]; exact hp
  rcases hc with ⟨rfl, rfl⟩ | ⟨rfl, rfl⟩
  · refine ⟨(mapok1 _ _).put _ _, fun x => ?_, hkeys, hlt⟩
    rw [mget_put, mget_cons, lookN, lookN]
    cases h1 : x == path
    · cases h2 : x == to
      · rfl
      · simp [hchk]
    · simp [chV]
  · refine ⟨(mapok1 _ _).put _ _, fun x => ?_, hkeys, hlt⟩
    rw [mget_put, mget_cons, lookN, lookN]
    cases h1 : x == path
    · cases h2 : x == to
      · rfl
      · simp [hchk]
    · rw [baEq] at h1; subst h1
      simp [hne, chV]
theorem cRename {s : DS} {M : DM} (h : s.ok M) (hm : Small M) (d : Nat) (path to : ByteArray) (hpath : path.size ≤ 9223372036854775807) (hto : to.size ≤ 9223372036854775807) (W0 : World) (H : List Grp) :
    Tri Try.prog 17 #[.pointer (some ⟨d, 0, none⟩), .string path, .string to] W0 (s.G d M ++ H) (Is d (renameM M path to).2 (.int .i64 (renameM M path to).1) H) := by
  cases hl : lookN M.names path with
  | none =>
    refine Tri.heap (fun w hw => low3_to hw) (Tri.post (vRenameNo d s.nb s.kb s.cb s.nc s.cc M.room M.calls _ M.fails M.once s.nm s.cm path to hpath hto hm.calls h.nok s.rows h.rows (rows_le h hm) (mget_no h hl) W0 _) fun v H1 hr => ?_)
    rcases hr with ⟨hce, hv, hH⟩ | ⟨hce, hv, hH⟩
    · exact post_call h (renR path to) (by rw [renameM_err hce]) (by rw [renameM_err hce]; exact hv) fun w hw => by rw [hH] at hw; exact low3_from hw
    · exact post_call h (renR path to) (by rw [renameM_no hce hl]) (by rw [renameM_no hce hl]; exact hv) fun w hw => by rw [hH] at hw; exact low3_from hw
  | some k =>
    refine Tri.heap (fun w hw => low3_to hw) (Tri.post (vRename d s.nb s.kb s.cb s.nc s.cc M.room M.calls _ M.fails M.once s.nm s.cm path to hpath hto hm.calls h.nok s.rows h.rows (rows_le h hm) _ (mget_lk h hl) W0 _) fun v H1 hr => ?_)
    rcases hr with ⟨hce, hv, hH⟩ | ⟨hce, ⟨he, hv, hH⟩ | ⟨he, hv, dn, xm, xc, q, cx, rows1, hC, hd, hR, hA, hH⟩⟩
    · exact post_call h (renR path to) (by rw [renameM_err hce]) (by rw [renameM_err hce]; exact hv) fun w hw => by rw [hH] at hw; exact low3_from hw
    · have he' : (path == to) = true := by rw [tlEq] at he; simpa using he
      exact post_call h (renR path to) (by rw [renameM_same hce hl he']) (by rw [renameM_same hce hl he']; exact hv) fun w hw => by rw [hH] at hw; exact low3_from hw
    · have he' : (path == to) = false := by rw [tlEq] at he; simpa using he
      have hlt := h.names.lt _ (lookN_mem hl)
      obtain ⟨hx, hc⟩ := ren_change (ps := psOf s.bs) he' hC hlt.1 hlt.2 (by rw [ptrOf, ps_getD (lookN_lt h hl).2]; rfl)
      have k2 := ok_change (dir := dirB to) (ok_call h (renR path to)) hx hc hd hR hA
      refine ⟨_, ⟨by rw [renameM_ok hce hl he']; exact hv, _, by rw [renameM_ok hce hl he']; exact k2, rfl⟩, fun w hw => ?_⟩
      rw [hH] at hw
      rw [renameM_ok hce hl he']
      refine sat_cnt hw fun _ x => ?_
      simp only [DS.G, dkO, changeM, callM, renR, List.cons_append, List.append_assoc]
      simp only [List.flatten_cons, List.flatten_append, List.count_append]
      omega
/-! ## calls that change no name -/
theorem cUsed {s : DS} {M : DM} (h : s.ok M) (hm : Small M) (d : Nat) (W0 : World) (H : List Grp) :
    Tri Try.prog 26 #[.pointer (some ⟨d, 0, none⟩)] W0 (s.G d M ++ H) (fun v H' => v = .int .i64 (usedM M : Int) ∧ H' = s.G d M ++ H) := by
  refine tri_sat fun ⟨w0, hw0⟩ => ?_
  have hn := ps_nodup hw0
  have hus := used_small h hm
  have := vUsed d s.nb s.kb s.cb s.nc M.room M.calls (.slice s.ba s.bs.length s.bc) M.fails M.once s.nm (szV s.bs) h.nok (by rw [sum_used h hn]; omega) W0 ([(s.kb, .map (encM s.km) s.kc)] :: [(s.cb, .map (encM s.cm) s.cc)] :: s.bg :: bodyG s.bs :: ((rowsG s.rows ++ s.Z) ++ H)) (names_at h hn (body_sub (by simp)))
  rw [sum_used h hn] at this
  exact this
theorem cFail {s : DS} {M : DM} (h : s.ok M) (d : Nat) (n : Int) (o : Bool) (W0 : World) (H : List Grp) :
    Tri Try.prog 16 #[.pointer (some ⟨d, 0, none⟩), .int .i64 n, .bool o] W0 (s.G d M ++ H) (Is d (failM M n o) (.tuple #[]) H) := by
  refine (vFail d s.nb s.kb s.cb M.room M.calls (.slice s.ba s.bs.length s.bc) M.fails M.once n o W0 _).mono fun v H' ⟨hv, hH⟩ => ⟨hv, s, ⟨h.own, h.nok, h.kok, h.cok, h.names, h.kept, h.rows, h.chs, h.bods⟩, hH⟩
theorem cNew (room : Int) (W0 : World) (H : List Grp) : Tri Try.prog 12 #[.int .i64 room] W0 H (fun v H' => ∃ d, v = .pointer (some ⟨d, 0, none⟩) ∧ ∃ s : DS, s.ok (newM room) ∧ H' = s.G d (newM room) ++ H) := by
  refine Tri.post (vNew room W0 H) fun v H1 ⟨d, nb, kb, cb, hv, hH⟩ => ?_
  have h0 : MapOk [] 0 := ⟨List.Pairwise.nil, List.nodup_nil, fun _ h => absurd h List.not_mem_nil⟩
  have hN : NamesR [] [] [] := ⟨fun _ => rfl, List.nodup_nil, fun _ h => absurd h List.not_mem_nil⟩
  refine ⟨_, ⟨d, hv, ⟨nb, kb, cb, [], [], [], 0, 0, 0, none, 0, [], [], [], []⟩, ⟨Own.nil, h0, h0, h0, hN, hN, ⟨rfl, fun _ h => absurd h List.not_mem_nil⟩, fun _ => .nil, .nil⟩, rfl⟩, fun w hw => ?_⟩
  rw [hH] at hw
  refine sat_cnt hw fun _ x => ?_
  simp only [DS.G, dkO, newM, bodyG, rowsG, List.map_nil, List.length_nil, List.nil_append, List.cons_append]
  simp only [List.flatten_cons, List.count_append, List.count_nil]
  omega
end Go.Vf
