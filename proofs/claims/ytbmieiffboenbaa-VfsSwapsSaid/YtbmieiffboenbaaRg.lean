/- The disk's calls: what each makes of the disk that stands in memory (Read, List, SyncDir, Crash). Conditions: the numbers are small. -/
import Derived.Test.YtbmieiffboenbaaRf
namespace Go.Vf
open Go.Sw Go.RowKit Go.Proofs Go.Proofs.Ytbmieiffboenbaa

theorem readM_no {M : DM} {p : ByteArray} (hl : lookN M.names p = none) : readM M p = (ByteArray.mk #[], 60) := by unfold readM; rw [hl]
theorem readM_ok {M : DM} {p : ByteArray} {k : Int} (hl : lookN M.names p = some k) : readM M p = ((bodyAt M k).now, 0) := by unfold readM; rw [hl]
theorem cRead {s : DS} {M : DM} (h : s.ok M) (hm : ∀ B ∈ M.bodies, B.now.size ≤ 10000000) (d : Nat) (path : ByteArray) (W0 : World) (H : List Grp) :
    Tri Try.prog 19 #[.pointer (some ⟨d, 0, none⟩), .string path] W0 (s.G d M ++ H) (fun v H' => ∃ x g, v = .tuple #[x, .int .i64 (readM M path).2] ∧ Own 5 1 x g (readM M path).1.size (u8s (readM M path).1.data.toList) ∧ H' = g :: (s.G d M ++ H)) := by
  cases hl : lookN M.names path with
  | none =>
    rw [readM_no hl]
    refine Tri.post (vReadNo d s.nb s.kb s.cb s.nc M.room M.calls (.slice s.ba s.bs.length s.bc) M.fails M.once s.nm path (mget_no h hl) W0 _) fun v H1 ⟨hv, hH⟩ => ⟨_, ⟨_, [], hv, Own.nil, rfl⟩, fun w hw => ?_⟩
    rw [hH] at hw
    exact flat_nil (A := []) hw
  | some k =>
    rw [readM_ok hl]
    have hk := (lookN_lt h hl).2
    have hB := h.bods.get default default _ hk
    have hsz : (s.bs.getD k.toNat default).n ≤ 1000000000 := by
      rw [hB.n, List.getD_eq_getElem?_getD, List.getElem?_eq_getElem (by rw [← h.bods.len]; exact hk)]
      have := hm _ (List.getElem_mem (by rw [← h.bods.len]; exact hk))
      simp only [Option.getD_some]
      omega
    have hp : At W0 ([(s.kb, .map (encM s.km) s.kc)] :: [(s.cb, .map (encM s.cm) s.cc)] :: s.bg :: bodyG s.bs :: ((rowsG s.rows ++ s.Z) ++ H)) (s.bs.getD k.toNat default).p (.cells #[.slice (s.bs.getD k.toNat default).an (s.bs.getD k.toNat default).n (s.bs.getD k.toNat default).cn, .slice (s.bs.getD k.toNat default).ak (s.bs.getD k.toNat default).m (s.bs.getD k.toNat default).ck] 68 (0, 0)) :=
      .cons (.cons (.cons (At.mem List.mem_cons_self (List.mem_of_getElem? (bodyG_at hk)))))
    have hz : ∀ y o, inZ s.Z y o → At W0 ([(s.kb, .map (encM s.km) s.kc)] :: [(s.cb, .map (encM s.cm) s.cc)] :: s.bg :: bodyG s.bs :: ((rowsG s.rows ++ s.Z) ++ H)) y o := fun y o hy => .cons (.cons (.cons (.cons (.inr (by rw [List.flatten_append, List.flatten_append]; exact List.mem_append_left _ (List.mem_append_right _ hy))))))
    have hlen : (bodyAt M k).now.data.toList.length = (s.bs.getD k.toNat default).n := by rw [hB.n]; exact Array.length_toList
    have hnow := hB.now
    have hn0 := hB.n
    rcases hB.an with ⟨h1, h2, h3⟩ | ⟨b, off, h1⟩
    · rw [h1, h2, h3] at hp
      have he : (bodyAt M k).now = ByteArray.mk #[] := by
        have h0 : (bodyAt M k).now.size = 0 := by rw [← h2]; exact hn0.symm
        generalize (bodyAt M k).now = x at h0
        cases x with | mk d =>
        have : d = #[] := Array.eq_empty_of_size_eq_zero h0
        rw [this]
      rw [he]
      refine Tri.post (vReadNil d s.nb s.kb s.cb s.nc M.room M.calls (.slice s.ba s.bs.length s.bc) M.fails M.once s.nm path _ _ (mget_lk h hl) W0 _ hp) fun v H1 ⟨hv, hH⟩ => ⟨_, ⟨_, [], hv, Own.nil, rfl⟩, fun w hw => ?_⟩
      rw [hH] at hw
      exact flat_nil (A := []) hw
    · rw [h1] at hp hnow
      refine (vReadYes d s.nb s.kb s.cb s.nc M.room M.calls (.slice s.ba s.bs.length s.bc) M.fails M.once s.nm path b off (s.bs.getD k.toNat default).n (s.bs.getD k.toNat default).cn (inZ s.Z) _ hnow hlen hsz _ _ (mget_lk h hl) W0 _ hz hp).mono fun v H' ⟨x, g, hv, ho, hH⟩ => ⟨x, g, hv, ?_, hH⟩
      rw [hn0] at ho
      exact ho
theorem listK_perm {d : ByteArray} {dn : SM} {names : List Nm} {ps : List Nat} {nm : SM} {nc : Nat} (hn : NamesR ps nm names) (ho : MapOk nm nc) (hd : dn.Perm nm) : (listK d dn).Perm ((names.filter fun n => (dirB n.1).toList == d.toList).map Prod.fst) := by
  have h1 : (nm.map Prod.fst).Perm (names.map Prod.fst) := by
    have := (names_perm hn ho).map Prod.fst
    rw [List.map_map, List.map_map] at this
    exact this
  have h2 : (dn.map Prod.fst).Perm (names.map Prod.fst) := (hd.map _).trans h1
  have h3 := h2.filter fun p => (dirB p).toList == d.toList
  rw [List.filter_map, List.filter_map] at h3
  exact h3
theorem cList {s : DS} {M : DM} (h : s.ok M) (hm : Small M) (d : Nat) (dir : ByteArray) (W0 : World) (H : List Grp) :
    Tri Try.prog 21 #[.pointer (some ⟨d, 0, none⟩), .string dir] W0 (s.G d M ++ H) (fun v H' => ∃ g, Own 9 1 v g (listM M dir).length (strs (listM M dir)) ∧ H' = g :: (s.G d M ++ H)) := by
  have hp := names_perm h.names h.nok
  have hlen : s.nm.length ≤ 1000000 := by
    have := hp.length_eq
    rw [List.length_map, List.length_map] at this
    have := hm.names
    omega
  have hks : ∀ e ∈ s.nm, e.1.size ≤ 9223372036854775807 := fun e he => by
    obtain ⟨k, hk, _⟩ := names_ptr h he
    have := hm.paths _ (lookN_mem hk)
    simp only at this
    omega
  refine Tri.post (vList d s.nb s.kb s.cb s.nc M.room M.calls (.slice s.ba s.bs.length s.bc) M.fails M.once s.nm dir h.nok hks hlen W0 ([(s.kb, .map (encM s.km) s.kc)] :: [(s.cb, .map (encM s.cm) s.cc)] :: s.bg :: bodyG s.bs :: ((rowsG s.rows ++ s.Z) ++ H))) fun v H1 ⟨dn, g, hd, ho, hH⟩ => ?_
  have hq := listK_perm (d := dir) h.names h.nok hd
  have e1 : sortB (listK dir dn) = listM M dir := sortB_congr hq
  have e2 : (listK dir dn).length = (listM M dir).length := by rw [← e1, sortB_len]
  rw [e1, e2] at ho
  refine ⟨_, ⟨g, ho, rfl⟩, fun w hw => ?_⟩
  rw [hH] at hw
  refine sat_cnt hw fun _ x => ?_
  simp only [DS.G, dkO, List.cons_append, List.append_assoc]
  simp only [List.flatten_cons, List.flatten_append, List.count_append]
  omega
/-! ## SyncDir -/
theorem chOf_filter {l : List Ch} {d d' : ByteArray} : chOf (l.filter fun c => !(d == c.dir)) d' = if d' == d then [] else chOf l d' := by
  unfold chOf
  induction l with
  | nil => simp
  | cons c l ih =>
    rw [List.filter_cons]
    cases h1 : d == c.dir
    · simp only [Bool.not_false, if_true]
      rw [List.filter_cons, List.filter_cons]
      cases h2 : d' == c.dir
      · simp only [Bool.false_eq_true, if_false]; exact ih
      · simp only [if_true, List.map_cons, ih]
        rw [baEq] at h2; subst h2
        rw [if_neg, if_neg]
        · intro h; rw [baEq] at h; rw [baNe] at h1; exact h1 h.symm
        · intro h; rw [baEq] at h; rw [baNe] at h1; exact h1 h.symm
    · simp only [Bool.not_true, Bool.false_eq_true, if_false, ih]
      rw [baEq] at h1; subst h1
      rw [List.filter_cons]
      cases h2 : d' == c.dir <;> simp only [Bool.false_eq_true, if_false, if_true]
theorem mdel_none {m : SM} {k : ByteArray} (h : mget m k = none) : mdel m k = m := by
  induction m with
  | nil => rfl
  | cons e m ih =>
    have h := mget_none.1 h
    rw [mdel, if_neg (by rw [h e List.mem_cons_self]; decide), ih (mget_none.2 fun x hx => h x (List.mem_cons_of_mem _ hx))]
theorem syncDirM_err {M : DM} {p : ByteArray} (h : errM M (dirR p) ≠ 0) : syncDirM M p = (errM M (dirR p), callM M (dirR p)) := by unfold syncDirM; rw [if_pos h]
theorem syncDirM_ok {M : DM} {p : ByteArray} (h : errM M (dirR p) = 0) : syncDirM M p = (0, { callM M (dirR p) with kept := (chOf M.changes p).foldl applyN M.kept, changes := M.changes.filter fun c => !(p == c.dir) }) := by unfold syncDirM; rw [if_neg (by simpa using h)]
theorem all2_none {α β : Type} {R : α → β → Prop} {l : List β} (h : All2 R [] l) : l = [] := by cases h; rfl
theorem filter_none {l : List Ch} {d : ByteArray} (h : chOf l d = []) : l.filter (fun c => !(d == c.dir)) = l := by
  unfold chOf at h
  rw [List.map_eq_nil_iff, List.filter_eq_nil_iff] at h
  exact List.filter_eq_self.2 fun c hc => by have := h c hc; simpa using this
/-- what the blocks of a row hold -/
theorem row_read {Z : List Grp} {ps : List Nat} {qs : List Nat} {ls : List (List Nm)} (h : All2 (QR Z ps) qs ls) : ∃ (xs : List SM) (xcs : List Nat), xs.length = qs.length ∧ All2 (fun x l => (∃ c, MapOk x c) ∧ ChangeR ps x l) xs ls ∧
    ∀ i, i < qs.length → inZ Z (qs.getD i 0) (.map (encM (xs.getD i [])) (xcs.getD i 0)) ∧ MapOk (xs.getD i []) (xcs.getD i 0) ∧ ∀ e ∈ xs.getD i [], e.2.1 = .pointer none ∨ ∃ p, e.2.1 = .pointer (some ⟨p, 0, none⟩) := by
  induction h with
  | nil => exact ⟨[], [], rfl, .nil, fun i h => by simp at h⟩
  | cons hq _ ih =>
    obtain ⟨x, c, h1, h2, h3⟩ := hq
    obtain ⟨xs, xcs, e1, e2, e3⟩ := ih
    refine ⟨x :: xs, c :: xcs, by simp [e1], .cons ⟨⟨c, h2⟩, h3⟩ e2, fun i hi => ?_⟩
    cases i with
    | zero =>
      refine ⟨h1, h2, fun e he => ?_⟩
      obtain ⟨p, v, n⟩ := e
      have := mget_of h2.nodup he
      rw [h3.look] at this
      obtain ⟨k, _, hk⟩ := Option.map_eq_some_iff.1 this
      simp only
      rw [← hk]
      unfold chV
      split
      · exact .inr ⟨_, rfl⟩
      · exact .inl rfl
    | succ i => exact e3 i (by simpa using hi)
theorem cSyncDir {s : DS} {M : DM} (h : s.ok M) (hm : Small M) (d : Nat) (dir : ByteArray) (hdir : dir.size ≤ 9223372036854775807) (W0 : World) (H : List Grp) :
    Tri Try.prog 15 #[.pointer (some ⟨d, 0, none⟩), .string dir] W0 (s.G d M ++ H) (Is d (syncDirM M dir).2 (.int .i64 (syncDirM M dir).1) H) := by
  have hto : ∀ {s : DS} {M : DM} {w : World}, Sat W0 (s.G d M ++ H) w → Sat W0 ([(d, dkO M s)] :: [(s.kb, .map (encM s.km) s.kc)] :: [(s.cb, .map (encM s.cm) s.cc)] :: ([(s.nb, .map (encM s.nm) s.nc)] :: s.bg :: bodyG s.bs :: (rowsG s.rows ++ (s.Z ++ H)))) w := fun hw => sat_cnt hw fun _ x => by
    simp only [DS.G, List.cons_append, List.append_assoc]
    simp only [List.flatten_cons, List.flatten_append, List.count_append]
    omega
  have hfrom : ∀ {s : DS} {M : DM} {w : World}, Sat W0 ([(d, dkO M s)] :: [(s.kb, .map (encM s.km) s.kc)] :: [(s.cb, .map (encM s.cm) s.cc)] :: ([(s.nb, .map (encM s.nm) s.nc)] :: s.bg :: bodyG s.bs :: (rowsG s.rows ++ (s.Z ++ H)))) w → Sat W0 (s.G d M ++ H) w := fun hw => sat_cnt hw fun _ x => by
    simp only [DS.G, List.cons_append, List.append_assoc]
    simp only [List.flatten_cons, List.flatten_append, List.count_append]
    omega
  cases hg : mget s.cm dir with
  | none =>
    have hrow := rowOf_none (rows_none h.rows hg)
    have hch := h.chs dir
    rw [hrow] at hch
    have hch := all2_none hch
    refine Tri.heap (fun w hw => hto hw) (Tri.post (vSyncDirNo d s.nb s.kb s.cb s.kc s.cc M.room M.calls (.slice s.ba s.bs.length s.bc) M.fails M.once s.km s.cm dir hdir hm.calls h.kok hg W0 _) fun v H1 hr => ?_)
    rcases hr with ⟨hce, hv, hH⟩ | ⟨hce, hv, hH⟩
    · exact post_call h (dirR dir) (by rw [syncDirM_err hce]) (by rw [syncDirM_err hce]; exact hv) fun w hw => by rw [hH] at hw; exact hfrom hw
    · refine post_call h (dirR dir) ?_ (by rw [syncDirM_ok hce]; exact hv) fun w hw => ?_
      · rw [syncDirM_ok hce, hch, filter_none hch]; rfl
      · rw [hH, mdel_none hg] at hw; exact hfrom hw
  | some rv =>
    obtain ⟨pre, r, post, c, p1, p2, hrows, hcm, hp1, hpre, hd, hrv, e1, e2⟩ := rows_some h.rows hg
    obtain ⟨ho, hpos⟩ := h.rows.2 r (by rw [hrows]; exact List.mem_append_right _ List.mem_cons_self)
    have hq := rows_le h hm r (by rw [hrows]; exact List.mem_append_right _ List.mem_cons_self)
    rw [hrv] at ho
    obtain ⟨ra, rc, hra, hrc, hrd⟩ := ho.shape
    have hrow : rowOf s.rows dir = r.qs := by rw [hrows, rowOf_app hpre, rowOf, hd, if_pos (baEq.2 rfl)]
    have hch := h.chs dir
    rw [hrow] at hch
    obtain ⟨xs, xcs, x1, x2, x3⟩ := row_read hch
    have hin : ∀ y o, inZ s.Z y o → At W0 ([(s.nb, .map (encM s.nm) s.nc)] :: s.bg :: bodyG s.bs :: (rowsG s.rows ++ (s.Z ++ H))) y o := fun y o hy => .cons (.cons (.cons (at_app2 (.inr (by rw [List.flatten_append]; exact List.mem_append_left _ hy)))))
    refine Tri.heap (fun w hw => hto hw) (Tri.post (vSyncDir d s.nb s.kb s.cb s.kc s.cc M.room M.calls (.slice s.ba s.bs.length s.bc) M.fails M.once s.km s.cm dir hdir hm.calls h.kok ra rc (inG r.g) r.qs xs xcs x1 hq hrd (by rw [hg, hra]) W0 _ (fun y o hy => .cons (.cons (.cons (at_app (At.mem (g := r.g) (by rw [hrows]; simp [rowsG]) hy))))) (fun i hi => ⟨hin _ _ (x3 i hi).1, (x3 i hi).2⟩)) fun v H1 hr => ?_)
    rcases hr with ⟨hce, hv, hH⟩ | ⟨hce, hv, km1, kc1, hmade, hH⟩
    · exact post_call h (dirR dir) (by rw [syncDirM_err hce]) (by rw [syncDirM_err hce]; exact hv) fun w hw => by rw [hH] at hw; exact hfrom hw
    · have hdel : mdel s.cm dir = p1 ++ p2 := by
        rw [hcm]
        clear hcm e1
        induction p1 with
        | nil => rw [List.nil_append, mdel, if_pos (baEq.2 rfl)]; rfl
        | cons e p1 ih =>
          rw [List.cons_append, mdel, if_neg (by rw [hp1 e List.mem_cons_self]; decide), ih fun x hx => hp1 x (List.mem_cons_of_mem _ hx)]; rfl
      have hpost : ∀ x ∈ post, (dir == x.dir) = false := by
        have hn := h.cok.nodup
        rw [hcm, List.map_append, List.map_cons, List.nodup_append, List.nodup_cons] at hn
        intro x hx
        rw [baNe]
        intro he
        refine hn.2.1.1 ?_
        have : (x.dir, x.v) ∈ p2.map (fun e => (e.1, e.2.1)) := by rw [e2]; exact List.mem_map.2 ⟨x, hx, rfl⟩
        obtain ⟨e, he1, he2⟩ := List.mem_map.1 this
        injection he2 with he2 _
        exact List.mem_map.2 ⟨e, he1, by rw [he2, ← he]⟩
      refine ⟨_, ⟨by rw [syncDirM_ok hce]; exact hv, { s with km := km1, kc := kc1, cm := mdel s.cm dir, rows := pre ++ post, Z := r.g :: s.Z }, ?_, rfl⟩, fun w hw => ?_⟩
      · rw [syncDirM_ok hce]
        refine ⟨h.own, h.nok, made_ok (s := (s.km, s.kc)) (s' := (km1, kc1)) hmade h.kok, h.cok.del _, h.names, names_made h.kept h.kok x2 hmade, ⟨?_, fun x hx => ?_⟩, fun d' => ?_, h.bods.imp fun b B hb => hb.mono fun y o h => inZ_app (K := [r.g]) h⟩
        · show (mdel s.cm dir).map _ = _
          rw [hdel, List.map_append, List.map_append, e1, e2]
        · refine h.rows.2 x ?_
          rw [hrows]
          rcases List.mem_append.1 hx with hx | hx
          · exact List.mem_append_left _ hx
          · exact List.mem_append_right _ (List.mem_cons_of_mem _ hx)
        · have hold := (h.chs d').imp fun q l hq => qr_mono (K := [r.g]) hq
          show All2 (QR ([r.g] ++ s.Z) (psOf s.bs)) (rowOf (pre ++ post) d') (chOf (M.changes.filter fun c => !(dir == c.dir)) d')
          rw [chOf_filter]
          cases hk : d' == dir
          · simp only [Bool.false_eq_true, if_false]
            rw [hrows] at hold
            have : rowOf (pre ++ post) d' = rowOf (pre ++ r :: post) d' := rowOf_app' (by rw [rowOf, hd, hk]; rfl)
            rw [this]; exact hold
          · simp only [if_true]
            rw [baEq] at hk; subst hk
            rw [rowOf_none fun x hx => by rcases List.mem_append.1 hx with hx | hx; exact hpre x hx; exact hpost x hx]
            exact .nil
      · rw [hH] at hw
        rw [syncDirM_ok hce]
        refine sat_cnt hw fun _ x => ?_
        simp only [DS.G, dkO, callM, dirR, hrows, rowsG, List.map_append, List.map_cons, List.cons_append, List.append_assoc]
        simp only [List.flatten_cons, List.flatten_append, List.count_append]
        omega
end Go.Vf
