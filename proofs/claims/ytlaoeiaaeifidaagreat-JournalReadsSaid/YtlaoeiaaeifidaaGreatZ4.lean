/- A block of 64 bytes, mixed into a digest. The bytes are told as they lie. (and what it stands on) -/
import Derived.Test.YtlaoeiaaeifidaaGreatZ3
import Derived.ChangeSlices
import Derived.Carry
import Derived.Laws.CopyRow
import Derived.Lib.AppendZeros
import Derived.Lib.Builder
import Derived.Lib.UnsafeStr
namespace Go.Vf
open Go.Sw Go.RowKit Go.Proofs Go.Proofs.YtlaoeiaaeifidaaGreat
theorem tlEq {a b : ByteArray} : (a.toList == b.toList) = (a == b) := by
  cases h : a == b
  · rw [beq_eq_false_iff_ne]
    intro he
    rw [baNe] at h
    rw [Lib.toList_data, Lib.toList_data] at he
    refine h ?_
    cases a with | mk a => cases b with | mk b => cases a with | mk a => cases b with | mk b => simpa using he
  · rw [baEq] at h; subst h; exact beq_self_eq_true _
theorem post_call {s : DS} {M M' : DM} {d : Nat} {W0 : World} {H H1 : List Grp} {v v0 : Value} (h : s.ok M) (r : Bool) (hM : M' = callM M r) (hv : v = v0) (hH : ∀ w, Sat W0 H1 w → Sat W0 (s.G d (callM M r) ++ H) w) :
    ∃ H2, Is d M' v0 H v H2 ∧ ∀ w, Sat W0 H1 w → Sat W0 H2 w := ⟨_, ⟨hv, s, by rw [hM]; exact ok_call h r, rfl⟩, fun w hw => by rw [hM]; exact hH w hw⟩
def low3 (s : DS) (M : DM) (d : Nat) (H : List Grp) : List Grp :=
  [(d, dkO M s)] :: [(s.nb, .map (encM s.nm) s.nc)] :: [(s.cb, .map (encM s.cm) s.cc)] :: (rowsG s.rows ++ (s.bg :: [(s.kb, .map (encM s.km) s.kc)] :: bodyG s.bs :: (s.Z ++ H)))
theorem low3_from {s : DS} {M : DM} {d : Nat} {H : List Grp} {W0 : World} {w : World} (hw : Sat W0 (low3 s M d H) w) : Sat W0 (s.G d M ++ H) w := sat_cnt hw fun _ x => by
  simp only [DS.G, low3, List.cons_append, List.append_assoc]
  simp only [List.flatten_cons, List.flatten_append, List.count_append]
  omega
theorem low3_to {s : DS} {M : DM} {d : Nat} {H : List Grp} {W0 : World} {w : World} (hw : Sat W0 (s.G d M ++ H) w) : Sat W0 (low3 s M d H) w := sat_cnt hw fun _ x => by
  simp only [DS.G, low3, List.cons_append, List.append_assoc]
  simp only [List.flatten_cons, List.flatten_append, List.count_append]
  omega
theorem renameM_err {M : DM} {p q : ByteArray} (h : errM M (renR p q) ≠ 0) : renameM M p q = (errM M (renR p q), callM M (renR p q)) := by unfold renameM; rw [if_pos h]
theorem renameM_no {M : DM} {p q : ByteArray} (h : errM M (renR p q) = 0) (hl : lookN M.names p = none) : renameM M p q = (60, callM M (renR p q)) := by unfold renameM; rw [if_neg (by simpa using h), hl]
theorem renameM_same {M : DM} {p q : ByteArray} {k : Int} (h : errM M (renR p q) = 0) (hl : lookN M.names p = some k) (he : (p == q) = true) : renameM M p q = (0, callM M (renR p q)) := by unfold renameM; rw [if_neg (by simpa using h), hl]; simp only; rw [if_pos he]
theorem renameM_ok {M : DM} {p q : ByteArray} {k : Int} (h : errM M (renR p q) = 0) (hl : lookN M.names p = some k) (he : (p == q) = false) : renameM M p q = (0, changeM (callM M (renR p q)) (dirB q) [(p, -1), (q, k)]) := by unfold renameM; rw [if_neg (by simpa using h), hl]; simp only; rw [if_neg (by rw [he]; decide)]
theorem ren_change {ps : List Nat} {path to : ByteArray} {p : Nat} {k : Int} (hne : (path == to) = false) {xm : SM} {xc : Nat} (hc : RenC path to p xm xc) (hk : 0 ≤ k) (hk2 : k.toNat < ps.length) (hp : ptrOf ps k = .pointer (some ⟨p, 0, none⟩)) :
    MapOk xm xc ∧ ChangeR ps xm [(path, -1), (to, k)] := by
  have hne' : (to == path) = false := by rw [baNe] at hne ⊢; exact fun e => hne e.symm
  have hkeys : (([(path, -1), (to, k)] : List Nm).map Prod.fst).Nodup := by
    simp only [List.map_cons, List.map_nil, List.nodup_cons, List.mem_singleton, List.not_mem_nil, not_false_eq_true, List.nodup_nil, and_true]
    rw [baNe] at hne; exact hne
  have hlt : ∀ y ∈ ([(path, -1), (to, k)] : List Nm), 0 ≤ y.2 → y.2.toNat < ps.length := by
    intro y hy h0
    rcases List.mem_cons.1 hy with rfl | hy
    · exact absurd (show (0 : Int) ≤ -1 from h0) (by decide)
    · rw [List.mem_singleton.1 hy]; exact hk2
  have hchk : chV ps k = .pointer (some ⟨p, 0, none⟩) := by unfold chV; rw [if_pos hk]; exact hp
  rcases hc with ⟨rfl, rfl⟩ | ⟨rfl, rfl⟩
  · refine ⟨(mapok1 _ _).put _ _, fun x => ?_, hkeys, hlt⟩
    rw [mget_put, mget_cons, lookN, lookN]
    cases h1 : x == path
    · cases h2 : x == to
      · rfl
      · simp [hchk]
    · simp [chV]
  · refine ⟨(mapok1 _ _).put _ _, fun x => ?_, hkeys, hlt⟩
    rw [mget_put, mget_cons, lookN, lookN]
    cases h1 : x == path
    · cases h2 : x == to
      · rfl
      · simp [hchk]
    · rw [baEq] at h1; subst h1
      simp [hne, chV]
theorem cRename {s : DS} {M : DM} (h : s.ok M) (hm : Small M) (d : Nat) (path to : ByteArray) (hpath : path.size ≤ 9223372036854775807) (hto : to.size ≤ 9223372036854775807) (W0 : World) (H : List Grp) :
    Tri Tryz.prog 56 #[.pointer (some ⟨d, 0, none⟩), .string path, .string to] W0 (s.G d M ++ H) (Is d (renameM M path to).2 (.int .i64 (renameM M path to).1) H) := by
  cases hl : lookN M.names path with
  | none =>
    refine Tri.heap (fun w hw => low3_to hw) (Tri.post (vRenameNo d s.nb s.kb s.cb s.nc s.cc M.room M.calls _ M.fails M.once s.nm s.cm path to hpath hto hm.calls h.nok s.rows h.rows (rows_le h hm) (mget_no h hl) W0 _) fun v H1 hr => ?_)
    rcases hr with ⟨hce, hv, hH⟩ | ⟨hce, hv, hH⟩
    · exact post_call h (renR path to) (by rw [renameM_err hce]) (by rw [renameM_err hce]; exact hv) fun w hw => by rw [hH] at hw; exact low3_from hw
    · exact post_call h (renR path to) (by rw [renameM_no hce hl]) (by rw [renameM_no hce hl]; exact hv) fun w hw => by rw [hH] at hw; exact low3_from hw
  | some k =>
    refine Tri.heap (fun w hw => low3_to hw) (Tri.post (vRename d s.nb s.kb s.cb s.nc s.cc M.room M.calls _ M.fails M.once s.nm s.cm path to hpath hto hm.calls h.nok s.rows h.rows (rows_le h hm) _ (mget_lk h hl) W0 _) fun v H1 hr => ?_)
    rcases hr with ⟨hce, hv, hH⟩ | ⟨hce, ⟨he, hv, hH⟩ | ⟨he, hv, dn, xm, xc, q, cx, rows1, hC, hd, hR, hA, hH⟩⟩
    · exact post_call h (renR path to) (by rw [renameM_err hce]) (by rw [renameM_err hce]; exact hv) fun w hw => by rw [hH] at hw; exact low3_from hw
    · have he' : (path == to) = true := by rw [tlEq] at he; simpa using he
      exact post_call h (renR path to) (by rw [renameM_same hce hl he']) (by rw [renameM_same hce hl he']; exact hv) fun w hw => by rw [hH] at hw; exact low3_from hw
    · have he' : (path == to) = false := by rw [tlEq] at he; simpa using he
      have hlt := h.names.lt _ (lookN_mem hl)
      obtain ⟨hx, hc⟩ := ren_change (ps := psOf s.bs) he' hC hlt.1 hlt.2 (by rw [ptrOf, ps_getD (lookN_lt h hl).2]; rfl)
      have k2 := ok_change (dir := dirB to) (ok_call h (renR path to)) hx hc hd hR hA
      refine ⟨_, ⟨by rw [renameM_ok hce hl he']; exact hv, _, by rw [renameM_ok hce hl he']; exact k2, rfl⟩, fun w hw => ?_⟩
      rw [hH] at hw
      rw [renameM_ok hce hl he']
      refine sat_cnt hw fun _ x => ?_
      simp only [DS.G, dkO, changeM, callM, renR, List.cons_append, List.append_assoc]
      simp only [List.flatten_cons, List.flatten_append, List.count_append]
      omega
theorem cNew (room : Int) (W0 : World) (H : List Grp) : Tri Tryz.prog 8 #[.int .i64 room] W0 H (fun v H' => ∃ d, v = .pointer (some ⟨d, 0, none⟩) ∧ ∃ s : DS, s.ok (newM room) ∧ H' = s.G d (newM room) ++ H) := by
  refine Tri.post (vNew room W0 H) fun v H1 ⟨d, nb, kb, cb, hv, hH⟩ => ?_
  have h0 : MapOk [] 0 := ⟨List.Pairwise.nil, List.nodup_nil, fun _ h => absurd h List.not_mem_nil⟩
  have hN : NamesR [] [] [] := ⟨fun _ => rfl, List.nodup_nil, fun _ h => absurd h List.not_mem_nil⟩
  refine ⟨_, ⟨d, hv, ⟨nb, kb, cb, [], [], [], 0, 0, 0, none, 0, [], [], [], []⟩, ⟨Go.Sw.Own.nil, h0, h0, h0, hN, hN, ⟨rfl, fun _ h => absurd h List.not_mem_nil⟩, fun _ => .nil, .nil⟩, rfl⟩, fun w hw => ?_⟩
  rw [hH] at hw
  refine sat_cnt hw fun _ x => ?_
  simp only [DS.G, dkO, newM, bodyG, rowsG, List.map_nil, List.length_nil, List.nil_append, List.cons_append]
  simp only [List.flatten_cons, List.count_append, List.count_nil]
  omega
end Go.Vf
namespace Go.Vf
open Go.Sw Go.RowKit Go.Proofs Go.Proofs.YtlaoeiaaeifidaaGreat
theorem sortL_pw (l : List (List UInt8)) : (l.mergeSort fun x y => decide (x ≤ y)).Pairwise fun a b => a ≤ b := by
  have := List.pairwise_mergeSort (le := fun x y : List UInt8 => decide (x ≤ y)) (fun a b c h1 h2 => by
    rw [decide_eq_true_eq] at h1 h2 ⊢; exact List.le_trans h1 h2) (fun a b => by
    rw [Bool.or_eq_true, decide_eq_true_eq, decide_eq_true_eq]; exact List.le_total a b) l
  exact this.imp fun h => by rwa [decide_eq_true_eq] at h
theorem sortB_congr {a b : List ByteArray} (h : a.Perm b) : sortB a = sortB b := by
  unfold sortB
  have hp : ((a.map fun s => s.data.toList).mergeSort fun x y => decide (x ≤ y)).Perm ((b.map fun s => s.data.toList).mergeSort fun x y => decide (x ≤ y)) :=
    (List.mergeSort_perm _ _).trans ((h.map _).trans (List.mergeSort_perm _ _).symm)
  rw [hp.eq_of_pairwise (le := fun a b => a ≤ b) (fun a b _ _ h1 h2 => List.le_antisymm h1 h2) (sortL_pw _) (sortL_pw _)]
theorem split_at {l : List BE} : ∀ {k : Nat}, k < l.length → ∃ A C, l = A ++ l.getD k default :: C ∧ ∀ b, l.set k b = A ++ b :: C := by
  induction l with
  | nil => intro k h; simp at h
  | cons x l ih =>
    intro k h
    cases k with
    | zero => exact ⟨[], l, rfl, fun _ => rfl⟩
    | succ k =>
      obtain ⟨A, C, h1, h2⟩ := ih (k := k) (by simpa using h)
      refine ⟨x :: A, C, ?_, fun b => ?_⟩
      · rw [List.getD_cons_succ, List.cons_append, ← h1]
      · rw [List.set_cons_succ, h2]; rfl
theorem bodyG_app (A C : List BE) (b : BE) : bodyG (A ++ b :: C) = bodyG A ++ ([beO b] ++ bodyG C) := by unfold bodyG; simp
theorem psOf_set {bs : List BE} {k : Nat} {b : BE} (hk : k < bs.length) (hb : b.p = (bs.getD k default).p) : psOf (bs.set k b) = psOf bs := by
  obtain ⟨A, C, h1, h2⟩ := split_at hk
  rw [h2]
  have h3 := congrArg psOf h1
  rw [h3]
  unfold psOf
  rw [List.map_append, List.map_append, List.map_cons, List.map_cons, hb]
theorem ok_set {s : DS} {M : DM} (h : s.ok M) {k : Int} {b : BE} {B : Body} (K : List Grp) (hk : k.toNat < s.bs.length) (hb : BodyR (inZ (K ++ s.Z)) b B) (hp : b.p = (s.bs.getD k.toNat default).p) :
    DS.ok { s with bs := s.bs.set k.toNat b, Z := K ++ s.Z } (setBody M k B) := by
  have hps := psOf_set hk hp
  refine ⟨?_, h.nok, h.kok, h.cok, ?_, ?_, h.rows, fun d => ?_, (h.bods.imp fun b B hb => hb.mono fun y o h => inZ_app h).set hb _⟩
  · have e : (s.bs.set k.toNat b).map (fun b => Value.pointer (some ⟨b.p, 0, none⟩)) = s.bs.map fun b => Value.pointer (some ⟨b.p, 0, none⟩) := by
      have e1 : ∀ l : List BE, l.map (fun b => Value.pointer (some ⟨b.p, 0, none⟩)) = (psOf l).map fun p => Value.pointer (some ⟨p, 0, none⟩) := fun l => by unfold psOf; rw [List.map_map]; rfl
      rw [e1, e1, hps]
    simp only [List.length_set]
    rw [e]; exact h.own
  · rw [hps]; exact h.names
  · rw [hps]; exact h.kept
  · rw [hps]; exact (h.chs d).imp fun q l hq => qr_mono hq
def lowP (s : DS) (M : DM) (d : Nat) (H : List Grp) (A C : List BE) (b : BE) : List Grp :=
  [(d, dkO M s)] :: [(s.nb, .map (encM s.nm) s.nc)] :: [beO b] :: (bodyG A :: bodyG C :: [(s.kb, .map (encM s.km) s.kc)] :: [(s.cb, .map (encM s.cm) s.cc)] :: s.bg :: (rowsG s.rows ++ (s.Z ++ H)))
theorem lowP_to {s : DS} {M : DM} {d : Nat} {H : List Grp} {A C : List BE} {b : BE} (hb : s.bs = A ++ b :: C) {W0 : World} {w : World} (hw : Sat W0 (s.G d M ++ H) w) : Sat W0 (lowP s M d H A C b) w := sat_cnt hw fun _ x => by
  simp only [DS.G, lowP, List.cons_append, List.append_assoc]
  simp only [List.flatten_cons, List.flatten_append, List.count_append, hb, bodyG_app]
  omega
theorem lowP_from {s : DS} {M : DM} {d : Nat} {H : List Grp} {A C : List BE} {b : BE} (hb : s.bs = A ++ b :: C) {W0 : World} {w : World} (hw : Sat W0 (lowP s M d H A C b) w) : Sat W0 (s.G d M ++ H) w := sat_cnt hw fun _ x => by
  simp only [DS.G, lowP, List.cons_append, List.append_assoc]
  simp only [List.flatten_cons, List.flatten_append, List.count_append, hb, bodyG_app]
  omega
theorem syncM_err {M : DM} {p : ByteArray} (h : errM M (rightB p) ≠ 0) : syncM M p = (errM M (rightB p), callM M (rightB p)) := by unfold syncM; rw [if_pos h]
theorem syncM_no {M : DM} {p : ByteArray} (h : errM M (rightB p) = 0) (hl : lookN M.names p = none) : syncM M p = (60, callM M (rightB p)) := by unfold syncM; rw [if_neg (by simpa using h), hl]
theorem syncM_ok {M : DM} {p : ByteArray} {k : Int} (h : errM M (rightB p) = 0) (hl : lookN M.names p = some k) : syncM M p = (0, setBody (callM M (rightB p)) k ⟨(bodyAt M k).now, (bodyAt M k).now⟩) := by unfold syncM; rw [if_neg (by simpa using h), hl]
theorem cSync {s : DS} {M : DM} (h : s.ok M) (hm : Small M) (d : Nat) (path : ByteArray) (hpath : path.size ≤ 9223372036854775807) (W0 : World) (H : List Grp) :
    Tri Tryz.prog 86 #[.pointer (some ⟨d, 0, none⟩), .string path] W0 (s.G d M ++ H) (Is d (syncM M path).2 (.int .i64 (syncM M path).1) H) := by
  cases hl : lookN M.names path with
  | none =>
    refine Tri.post (vSyncNo d s.nb s.kb s.cb s.nc M.room M.calls (.slice s.ba s.bs.length s.bc) M.fails M.once s.nm path hpath hm.calls (mget_no h hl) W0 _) fun v H1 hr => ?_
    rcases hr with ⟨hce, hv, hH⟩ | ⟨hce, hv, hH⟩
    · exact post_call h (rightB path) (by rw [syncM_err hce]) (by rw [syncM_err hce]; exact hv) fun w hw => by rw [hH] at hw; exact hw
    · exact post_call h (rightB path) (by rw [syncM_no hce hl]) (by rw [syncM_no hce hl]; exact hv) fun w hw => by rw [hH] at hw; exact hw
  | some k =>
    have hk := (lookN_lt h hl).2
    obtain ⟨A, C, hs, hset⟩ := split_at hk
    have hB := h.bods.get default default _ hk
    refine Tri.heap (fun w hw => lowP_to hs hw) (Tri.post (vSyncYes d s.nb s.kb s.cb s.nc M.room M.calls (.slice s.ba s.bs.length s.bc) M.fails M.once s.nm path hpath hm.calls (s.bs.getD k.toNat default).p _ _ _ _ _ _ (mget_lk h hl) W0 _) fun v H1 hr => ?_)
    rcases hr with ⟨hce, hv, hH⟩ | ⟨hce, hv, hH⟩
    · exact post_call h (rightB path) (by rw [syncM_err hce]) (by rw [syncM_err hce]; exact hv) fun w hw => by rw [hH] at hw; exact lowP_from hs hw
    · have k2 := ok_set (k := k) (b := ⟨(s.bs.getD k.toNat default).p, (s.bs.getD k.toNat default).an, (s.bs.getD k.toNat default).n, (s.bs.getD k.toNat default).cn, (s.bs.getD k.toNat default).an, (s.bs.getD k.toNat default).n, (s.bs.getD k.toNat default).cn⟩) (B := ⟨(bodyAt M k).now, (bodyAt M k).now⟩) (ok_call h (rightB path)) [] hk ⟨hB.n, hB.cn, hB.an, hB.now, hB.n, hB.cn, hB.an, hB.now⟩ rfl
      refine ⟨_, ⟨by rw [syncM_ok hce hl]; exact hv, _, by rw [syncM_ok hce hl]; exact k2, rfl⟩, fun w hw => ?_⟩
      rw [hH] at hw
      rw [syncM_ok hce hl]
      refine sat_cnt hw fun _ x => ?_
      simp only [DS.G, dkO, setBody, callM, List.cons_append, List.append_assoc, List.length_set]
      simp only [List.flatten_cons, List.flatten_append, List.count_append, List.nil_append, hset, bodyG_app]
      simp only [beO]
      omega
theorem appendM_err {M : DM} {p b : ByteArray} (h : errM M (rightB p) ≠ 0) : appendM M p b = (errM M (rightB p), callM M (rightB p)) := by unfold appendM; rw [if_pos h]
theorem appendM_no {M : DM} {p b : ByteArray} (h : errM M (rightB p) = 0) (hl : lookN M.names p = none) : appendM M p b = (60, callM M (rightB p)) := by unfold appendM; rw [if_neg (by simpa using h), hl]
theorem appendM_full {M : DM} {p b : ByteArray} {k : Int} (h : errM M (rightB p) = 0) (hl : lookN M.names p = some k) (hr : (usedM M : Int) + (b.size : Int) > M.room) : appendM M p b = (61, callM M (rightB p)) := by unfold appendM; rw [if_neg (by simpa using h), hl]; simp only; rw [if_pos hr]
theorem appendM_ok {M : DM} {p b : ByteArray} {k : Int} (h : errM M (rightB p) = 0) (hl : lookN M.names p = some k) (hr : ¬ (usedM M : Int) + (b.size : Int) > M.room) : appendM M p b = (0, setBody (callM M (rightB p)) k ⟨(bodyAt M k).now ++ b, (bodyAt M k).kept⟩) := by unfold appendM; rw [if_neg (by simpa using h), hl]; simp only; rw [if_neg hr]
theorem u8s_app (a b : ByteArray) : u8s (a ++ b).data.toList = u8s a.data.toList ++ u8s b.data.toList := by
  unfold u8s
  rw [ByteArray.data_append, Array.toList_append, List.map_append]
theorem cAppend {s : DS} {M : DM} (h : s.ok M) (hm : Small M) (d : Nat) (path b : ByteArray) (hpath : path.size ≤ 9223372036854775807) (hb : b.size ≤ 1000000000) (W0 : World) (H : List Grp) {bv : Value} (hbv : BytesV W0 H bv b) :
    Tri Tryz.prog 26 #[.pointer (some ⟨d, 0, none⟩), .string path, bv] W0 (s.G d M ++ H) (Is d (appendM M path b).2 (.int .i64 (appendM M path b).1) H) := by
  refine tri_sat fun ⟨w0, hw0⟩ => ?_
  have hn := ps_nodup hw0
  have hsum := sum_used h hn
  have hus := used_small h hm
  cases hl : lookN M.names path with
  | none =>
    obtain ⟨a, cap, S, rfl, hsh, hrd, hS⟩ := hbv
    · refine Tri.post (vAppendNoAny d s.nb s.kb s.cb s.nc M.room M.calls (.slice s.ba s.bs.length s.bc) M.fails M.once s.nm path hpath hm.calls a b.size cap (mget_no h hl) W0 _) fun v H1 hr => ?_
      rcases hr with ⟨hce, hv, hH⟩ | ⟨hce, hv, hH⟩
      · exact post_call h (rightB path) (by rw [appendM_err hce]) (by rw [appendM_err hce]; exact hv) fun w hw => by rw [hH] at hw; exact hw
      · exact post_call h (rightB path) (by rw [appendM_no hce hl]) (by rw [appendM_no hce hl]; exact hv) fun w hw => by rw [hH] at hw; exact hw
  | some k =>
    have hk := (lookN_lt h hl).2
    obtain ⟨A, C, hs, hset⟩ := split_at hk
    have hB := h.bods.get default default _ hk
    have hsz : (s.bs.getD k.toNat default).n ≤ 1000000000 := by rw [hB.n]; have := small_at hm k; unfold sizeAt bodyAt at this; omega
    have hat := names_at h hn (W0 := W0) (H := [beO (s.bs.getD k.toNat default)] :: (bodyG A :: bodyG C :: [(s.kb, .map (encM s.km) s.kc)] :: [(s.cb, .map (encM s.cm) s.cc)] :: s.bg :: (rowsG s.rows ++ (s.Z ++ H)))) (fun x hx => by
      rw [hs, bodyG_app] at hx
      simp only [List.flatten_cons, List.mem_append] at hx ⊢
      rcases hx with hx | hx | hx
      · exact .inr (.inl hx)
      · exact .inl hx
      · exact .inr (.inr (.inl hx)))
    have hz : ∀ y o, inZ s.Z y o → At W0 (bodyG A :: bodyG C :: [(s.kb, .map (encM s.km) s.kc)] :: [(s.cb, .map (encM s.cm) s.cc)] :: s.bg :: (rowsG s.rows ++ (s.Z ++ H))) y o := fun y o hy => .cons (.cons (.cons (.cons (.cons (at_app2 (.inr (by rw [List.flatten_append]; exact List.mem_append_left _ hy)))))))
    have hdone : ∀ (n' : Nat) (a' : Option Addr) (cap' : Nat) (g : Grp), n' = ((bodyAt M k).now ++ b).size → n' ≤ cap' → ((a' = none ∧ n' = 0 ∧ cap' = 0) ∨ ∃ b off, a' = some ⟨b, off, none⟩) → Rd (inZ ([g] ++ s.Z)) a' (u8s ((bodyAt M k).now ++ b).data.toList) → appendM M path b = (0, setBody (callM M (rightB path)) k ⟨(bodyAt M k).now ++ b, (bodyAt M k).kept⟩) →
        ∀ (v : Value) (H1 : List Grp), v = .int .i64 0 → (∀ w, Sat W0 H1 w → Sat W0 ([(d, .cells #[.int .i64 M.room, .slice s.ba s.bs.length s.bc, .map (some s.nb), .map (some s.kb), .map (some s.cb), .bool (callS M.fails M.once M.calls (rightB path)).2.1, .bool M.once, .int .i64 (callS M.fails M.once M.calls (rightB path)).2.2] 72 (0, 0))] :: [(s.nb, .map (encM s.nm) s.nc)] :: [((s.bs.getD k.toNat default).p, .cells #[.slice a' n' cap', .slice (s.bs.getD k.toNat default).ak (s.bs.getD k.toNat default).m (s.bs.getD k.toNat default).ck] 76 (0, 0))] :: g :: (bodyG A :: bodyG C :: [(s.kb, .map (encM s.km) s.kc)] :: [(s.cb, .map (encM s.cm) s.cc)] :: s.bg :: (rowsG s.rows ++ (s.Z ++ H)))) w) →
        ∃ H2, Is d (appendM M path b).2 (.int .i64 (appendM M path b).1) H v H2 ∧ ∀ w, Sat W0 H1 w → Sat W0 H2 w := by
      intro n' a' cap' g hn' hc' ha' hrd' he v H1 hv hH
      have k2 := ok_set (k := k) (b := ⟨(s.bs.getD k.toNat default).p, a', n', cap', (s.bs.getD k.toNat default).ak, (s.bs.getD k.toNat default).m, (s.bs.getD k.toNat default).ck⟩) (B := ⟨(bodyAt M k).now ++ b, (bodyAt M k).kept⟩) (ok_call h (rightB path)) [g] hk ⟨hn', hc', ha', hrd', hB.m, hB.cm, hB.am, hB.kept.mono fun y o h => inZ_app h⟩ rfl
      refine ⟨_, ⟨by rw [he]; exact hv, _, by rw [he]; exact k2, rfl⟩, fun w hw => ?_⟩
      rw [he]
      refine sat_cnt (hH w hw) fun _ x => ?_
      simp only [DS.G, dkO, setBody, callM, List.cons_append, List.append_assoc, List.length_set]
      simp only [List.flatten_cons, List.flatten_append, List.count_append, List.nil_append, hset, bodyG_app]
      simp only [beO]
      omega
    have hZg : ∀ (g : Grp) (S : Nat → Obj → Prop) (a' : Option Addr) (cs : List Value), (∀ y o, S y o → inZ s.Z y o) → Rd (fun y o => S y o ∨ inG g y o) a' cs → Rd (inZ ([g] ++ s.Z)) a' cs := fun g S a' cs hS hr => hr.mono fun y o h => by
      rcases h with h | h
      · exact inZ_app (hS y o h)
      · show (y, o) ∈ List.flatten (g :: s.Z)
        rw [List.flatten_cons]; exact List.mem_append_left _ h
    obtain ⟨aa, cap, S, rfl, hsh, hrd, hS⟩ := hbv
    have hao : aa = none → b.size = 0 := fun he => by
      rcases hsh with h | ⟨ad, h, _⟩ | ⟨q, off, h⟩
      · exact h.2.1
      · rw [he] at h; cases h
      · rw [he] at h; cases h
    · refine Tri.heap (fun w hw => lowP_to hs hw) (Tri.post (vAppendAny d s.nb s.kb s.cb s.nc M.room M.calls (.slice s.ba s.bs.length s.bc) M.fails M.once s.nm path hpath hm.calls aa b.size cap (szV s.bs) h.nok (by rw [hsum]; omega) (s.bs.getD k.toNat default).p _ _ _ _ _ _ (mget_lk h hl) (inZ s.Z) _ hB.now (by rw [hB.n]; exact Array.length_toList) hsz hB.cn hB.an S b.data.toList hao hrd Array.length_toList hb W0 _ hz (fun y o hy => .cons (.cons (.cons (.cons (.cons (at_app2 (at_app2 (hS y o hy)))))))) hat) fun v H1 hr => ?_)
      rw [hsum] at hr
      rcases hr with ⟨hce, hv, hH⟩ | ⟨hce, hro, hv, hH⟩ | ⟨hce, hro, hv, a', cap', g, hc', ha', hrd', hH⟩
      · exact post_call h (rightB path) (by rw [appendM_err hce]) (by rw [appendM_err hce]; exact hv) fun w hw => by rw [hH] at hw; exact lowP_from hs hw
      · exact post_call h (rightB path) (by rw [appendM_full hce hl hro]) (by rw [appendM_full hce hl hro]; exact hv) fun w hw => by rw [hH] at hw; exact lowP_from hs hw
      · refine hdone _ a' cap' g ?_ hc' ha' ?_ (appendM_ok hce hl hro) v H1 hv fun w hw => by rw [hH] at hw; exact hw
        · rw [ByteArray.size_append, hB.n]; rfl
        · rw [u8s_app]; exact hZg g _ _ _ (fun _ _ h => h) hrd'
end Go.Vf
namespace Go.Vf
open Go.Sw Go.RowKit Go.Proofs Go.Proofs.YtlaoeiaaeifidaaGreat
theorem readM_no {M : DM} {p : ByteArray} (hl : lookN M.names p = none) : readM M p = (ByteArray.mk #[], 60) := by unfold readM; rw [hl]
theorem readM_ok {M : DM} {p : ByteArray} {k : Int} (hl : lookN M.names p = some k) : readM M p = ((bodyAt M k).now, 0) := by unfold readM; rw [hl]
theorem cRead {s : DS} {M : DM} (h : s.ok M) (hm : ∀ B ∈ M.bodies, B.now.size ≤ 10000000) (d : Nat) (path : ByteArray) (W0 : World) (H : List Grp) :
    Tri Tryz.prog 13 #[.pointer (some ⟨d, 0, none⟩), .string path] W0 (s.G d M ++ H) (fun v H' => ∃ x g, v = .tuple #[x, .int .i64 (readM M path).2] ∧ Go.Sw.Own 5 1 x g (readM M path).1.size (u8s (readM M path).1.data.toList) ∧ H' = g :: (s.G d M ++ H)) := by
  cases hl : lookN M.names path with
  | none =>
    rw [readM_no hl]
    refine Tri.post (vReadNo d s.nb s.kb s.cb s.nc M.room M.calls (.slice s.ba s.bs.length s.bc) M.fails M.once s.nm path (mget_no h hl) W0 _) fun v H1 ⟨hv, hH⟩ => ⟨_, ⟨_, [], hv, Go.Sw.Own.nil, rfl⟩, fun w hw => ?_⟩
    rw [hH] at hw
    exact flat_nil' (A := []) hw
  | some k =>
    rw [readM_ok hl]
    have hk := (lookN_lt h hl).2
    have hB := h.bods.get default default _ hk
    have hsz : (s.bs.getD k.toNat default).n ≤ 1000000000 := by
      rw [hB.n, List.getD_eq_getElem?_getD, List.getElem?_eq_getElem (by rw [← h.bods.len]; exact hk)]
      have := hm _ (List.getElem_mem (by rw [← h.bods.len]; exact hk))
      simp only [Option.getD_some]
      omega
    have hp : At W0 ([(s.kb, .map (encM s.km) s.kc)] :: [(s.cb, .map (encM s.cm) s.cc)] :: s.bg :: bodyG s.bs :: ((rowsG s.rows ++ s.Z) ++ H)) (s.bs.getD k.toNat default).p (.cells #[.slice (s.bs.getD k.toNat default).an (s.bs.getD k.toNat default).n (s.bs.getD k.toNat default).cn, .slice (s.bs.getD k.toNat default).ak (s.bs.getD k.toNat default).m (s.bs.getD k.toNat default).ck] 76 (0, 0)) :=
      .cons (.cons (.cons (At.mem List.mem_cons_self (List.mem_of_getElem? (bodyG_at hk)))))
    have hz : ∀ y o, inZ s.Z y o → At W0 ([(s.kb, .map (encM s.km) s.kc)] :: [(s.cb, .map (encM s.cm) s.cc)] :: s.bg :: bodyG s.bs :: ((rowsG s.rows ++ s.Z) ++ H)) y o := fun y o hy => .cons (.cons (.cons (.cons (.inr (by rw [List.flatten_append, List.flatten_append]; exact List.mem_append_left _ (List.mem_append_right _ hy))))))
    have hlen : (bodyAt M k).now.data.toList.length = (s.bs.getD k.toNat default).n := by rw [hB.n]; exact Array.length_toList
    have hnow := hB.now
    have hn0 := hB.n
    rcases hB.an with ⟨h1, h2, h3⟩ | ⟨b, off, h1⟩
    · rw [h1, h2, h3] at hp
      have he : (bodyAt M k).now = ByteArray.mk #[] := by
        have h0 : (bodyAt M k).now.size = 0 := by rw [← h2]; exact hn0.symm
        generalize (bodyAt M k).now = x at h0
        cases x with | mk d =>
        have : d = #[] := Array.eq_empty_of_size_eq_zero h0
        rw [this]
      rw [he]
      refine Tri.post (vReadNil d s.nb s.kb s.cb s.nc M.room M.calls (.slice s.ba s.bs.length s.bc) M.fails M.once s.nm path _ _ (mget_lk h hl) W0 _ hp) fun v H1 ⟨hv, hH⟩ => ⟨_, ⟨_, [], hv, Go.Sw.Own.nil, rfl⟩, fun w hw => ?_⟩
      rw [hH] at hw
      exact flat_nil' (A := []) hw
    · rw [h1] at hp hnow
      refine (vReadYes d s.nb s.kb s.cb s.nc M.room M.calls (.slice s.ba s.bs.length s.bc) M.fails M.once s.nm path b off (s.bs.getD k.toNat default).n (s.bs.getD k.toNat default).cn (inZ s.Z) _ hnow hlen hsz _ _ (mget_lk h hl) W0 _ hz hp).mono fun v H' ⟨x, g, hv, ho, hH⟩ => ⟨x, g, hv, ?_, hH⟩
      rw [hn0] at ho
      exact ho
theorem chOf_filter {l : List Ch} {d d' : ByteArray} : chOf (l.filter fun c => !(d == c.dir)) d' = if d' == d then [] else chOf l d' := by
  unfold chOf
  induction l with
  | nil => simp
  | cons c l ih =>
    rw [List.filter_cons]
    cases h1 : d == c.dir
    · simp only [Bool.not_false, if_true]
      rw [List.filter_cons, List.filter_cons]
      cases h2 : d' == c.dir
      · simp only [Bool.false_eq_true, if_false]; exact ih
      · simp only [if_true, List.map_cons, ih]
        rw [baEq] at h2; subst h2
        rw [if_neg, if_neg]
        · intro h; rw [baEq] at h; rw [baNe] at h1; exact h1 h.symm
        · intro h; rw [baEq] at h; rw [baNe] at h1; exact h1 h.symm
    · simp only [Bool.not_true, Bool.false_eq_true, if_false, ih]
      rw [baEq] at h1; subst h1
      rw [List.filter_cons]
      cases h2 : d' == c.dir <;> simp only [Bool.false_eq_true, if_false, if_true]
theorem mdel_none {m : SM} {k : ByteArray} (h : mget m k = none) : mdel m k = m := by
  induction m with
  | nil => rfl
  | cons e m ih =>
    have h := mget_none.1 h
    rw [mdel, if_neg (by rw [h e List.mem_cons_self]; decide), ih (mget_none.2 fun x hx => h x (List.mem_cons_of_mem _ hx))]
theorem syncDirM_err {M : DM} {p : ByteArray} (h : errM M (dirR p) ≠ 0) : syncDirM M p = (errM M (dirR p), callM M (dirR p)) := by unfold syncDirM; rw [if_pos h]
theorem syncDirM_ok {M : DM} {p : ByteArray} (h : errM M (dirR p) = 0) : syncDirM M p = (0, { callM M (dirR p) with kept := (chOf M.changes p).foldl applyN M.kept, changes := M.changes.filter fun c => !(p == c.dir) }) := by unfold syncDirM; rw [if_neg (by simpa using h)]
theorem all2_none {α β : Type} {R : α → β → Prop} {l : List β} (h : All2 R [] l) : l = [] := by cases h; rfl
theorem filter_none {l : List Ch} {d : ByteArray} (h : chOf l d = []) : l.filter (fun c => !(d == c.dir)) = l := by
  unfold chOf at h
  rw [List.map_eq_nil_iff, List.filter_eq_nil_iff] at h
  exact List.filter_eq_self.2 fun c hc => by have := h c hc; simpa using this
theorem row_read {Z : List Grp} {ps : List Nat} {qs : List Nat} {ls : List (List Nm)} (h : All2 (QR Z ps) qs ls) : ∃ (xs : List SM) (xcs : List Nat), xs.length = qs.length ∧ All2 (fun x l => (∃ c, MapOk x c) ∧ ChangeR ps x l) xs ls ∧
    ∀ i, i < qs.length → inZ Z (qs.getD i 0) (.map (encM (xs.getD i [])) (xcs.getD i 0)) ∧ MapOk (xs.getD i []) (xcs.getD i 0) ∧ ∀ e ∈ xs.getD i [], e.2.1 = .pointer none ∨ ∃ p, e.2.1 = .pointer (some ⟨p, 0, none⟩) := by
  induction h with
  | nil => exact ⟨[], [], rfl, .nil, fun i h => by simp at h⟩
  | cons hq _ ih =>
    obtain ⟨x, c, h1, h2, h3⟩ := hq
    obtain ⟨xs, xcs, e1, e2, e3⟩ := ih
    refine ⟨x :: xs, c :: xcs, by simp [e1], .cons ⟨⟨c, h2⟩, h3⟩ e2, fun i hi => ?_⟩
    cases i with
    | zero =>
      refine ⟨h1, h2, fun e he => ?_⟩
      obtain ⟨p, v, n⟩ := e
      have := mget_of h2.nodup he
      rw [h3.look] at this
      obtain ⟨k, _, hk⟩ := Option.map_eq_some_iff.1 this
      simp only
      rw [← hk]
      unfold chV
      split
      · exact .inr ⟨_, rfl⟩
      · exact .inl rfl
    | succ i => exact e3 i (by simpa using hi)
theorem cSyncDir {s : DS} {M : DM} (h : s.ok M) (hm : Small M) (d : Nat) (dir : ByteArray) (hdir : dir.size ≤ 9223372036854775807) (W0 : World) (H : List Grp) :
    Tri Tryz.prog 87 #[.pointer (some ⟨d, 0, none⟩), .string dir] W0 (s.G d M ++ H) (Is d (syncDirM M dir).2 (.int .i64 (syncDirM M dir).1) H) := by
  have hto : ∀ {s : DS} {M : DM} {w : World}, Sat W0 (s.G d M ++ H) w → Sat W0 ([(d, dkO M s)] :: [(s.kb, .map (encM s.km) s.kc)] :: [(s.cb, .map (encM s.cm) s.cc)] :: ([(s.nb, .map (encM s.nm) s.nc)] :: s.bg :: bodyG s.bs :: (rowsG s.rows ++ (s.Z ++ H)))) w := fun hw => sat_cnt hw fun _ x => by
    simp only [DS.G, List.cons_append, List.append_assoc]
    simp only [List.flatten_cons, List.flatten_append, List.count_append]
    omega
  have hfrom : ∀ {s : DS} {M : DM} {w : World}, Sat W0 ([(d, dkO M s)] :: [(s.kb, .map (encM s.km) s.kc)] :: [(s.cb, .map (encM s.cm) s.cc)] :: ([(s.nb, .map (encM s.nm) s.nc)] :: s.bg :: bodyG s.bs :: (rowsG s.rows ++ (s.Z ++ H)))) w → Sat W0 (s.G d M ++ H) w := fun hw => sat_cnt hw fun _ x => by
    simp only [DS.G, List.cons_append, List.append_assoc]
    simp only [List.flatten_cons, List.flatten_append, List.count_append]
    omega
  cases hg : mget s.cm dir with
  | none =>
    have hrow := rowOf_none (rows_none h.rows hg)
    have hch := h.chs dir
    rw [hrow] at hch
    have hch := all2_none hch
    refine Tri.heap (fun w hw => hto hw) (Tri.post (vSyncDirNo d s.nb s.kb s.cb s.kc s.cc M.room M.calls (.slice s.ba s.bs.length s.bc) M.fails M.once s.km s.cm dir hdir hm.calls h.kok hg W0 _) fun v H1 hr => ?_)
    rcases hr with ⟨hce, hv, hH⟩ | ⟨hce, hv, hH⟩
    · exact post_call h (dirR dir) (by rw [syncDirM_err hce]) (by rw [syncDirM_err hce]; exact hv) fun w hw => by rw [hH] at hw; exact hfrom hw
    · refine post_call h (dirR dir) ?_ (by rw [syncDirM_ok hce]; exact hv) fun w hw => ?_
      · rw [syncDirM_ok hce, hch, filter_none hch]; rfl
      · rw [hH, mdel_none hg] at hw; exact hfrom hw
  | some rv =>
    obtain ⟨pre, r, post, c, p1, p2, hrows, hcm, hp1, hpre, hd, hrv, e1, e2⟩ := rows_some h.rows hg
    obtain ⟨ho, hpos⟩ := h.rows.2 r (by rw [hrows]; exact List.mem_append_right _ List.mem_cons_self)
    have hq := rows_le h hm r (by rw [hrows]; exact List.mem_append_right _ List.mem_cons_self)
    rw [hrv] at ho
    obtain ⟨ra, rc, hra, hrc, hrd⟩ := ho.shape
    have hrow : rowOf s.rows dir = r.qs := by rw [hrows, rowOf_app hpre, rowOf, hd, if_pos (baEq.2 rfl)]
    have hch := h.chs dir
    rw [hrow] at hch
    obtain ⟨xs, xcs, x1, x2, x3⟩ := row_read hch
    have hin : ∀ y o, inZ s.Z y o → At W0 ([(s.nb, .map (encM s.nm) s.nc)] :: s.bg :: bodyG s.bs :: (rowsG s.rows ++ (s.Z ++ H))) y o := fun y o hy => .cons (.cons (.cons (at_app2 (.inr (by rw [List.flatten_append]; exact List.mem_append_left _ hy)))))
    refine Tri.heap (fun w hw => hto hw) (Tri.post (vSyncDir d s.nb s.kb s.cb s.kc s.cc M.room M.calls (.slice s.ba s.bs.length s.bc) M.fails M.once s.km s.cm dir hdir hm.calls h.kok ra rc (inG r.g) r.qs xs xcs x1 hq hrd (by rw [hg, hra]) W0 _ (fun y o hy => .cons (.cons (.cons (at_app (At.mem (g := r.g) (by rw [hrows]; simp [rowsG]) hy))))) (fun i hi => ⟨hin _ _ (x3 i hi).1, (x3 i hi).2⟩)) fun v H1 hr => ?_)
    rcases hr with ⟨hce, hv, hH⟩ | ⟨hce, hv, km1, kc1, hmade, hH⟩
    · exact post_call h (dirR dir) (by rw [syncDirM_err hce]) (by rw [syncDirM_err hce]; exact hv) fun w hw => by rw [hH] at hw; exact hfrom hw
    · have hdel : mdel s.cm dir = p1 ++ p2 := by
        rw [hcm]
        clear hcm e1
        induction p1 with
        | nil => rw [List.nil_append, mdel, if_pos (baEq.2 rfl)]; rfl
        | cons e p1 ih =>
          rw [List.cons_append, mdel, if_neg (by rw [hp1 e List.mem_cons_self]; decide), ih fun x hx => hp1 x (List.mem_cons_of_mem _ hx)]; rfl
      have hpost : ∀ x ∈ post, (dir == x.dir) = false := by
        have hn := h.cok.nodup
        rw [hcm, List.map_append, List.map_cons, List.nodup_append, List.nodup_cons] at hn
        intro x hx
        rw [baNe]
        intro he
        refine hn.2.1.1 ?_
        have : (x.dir, x.v) ∈ p2.map (fun e => (e.1, e.2.1)) := by rw [e2]; exact List.mem_map.2 ⟨x, hx, rfl⟩
        obtain ⟨e, he1, he2⟩ := List.mem_map.1 this
        injection he2 with he2 _
        exact List.mem_map.2 ⟨e, he1, by rw [he2, ← he]⟩
      refine ⟨_, ⟨by rw [syncDirM_ok hce]; exact hv, { s with km := km1, kc := kc1, cm := mdel s.cm dir, rows := pre ++ post, Z := r.g :: s.Z }, ?_, rfl⟩, fun w hw => ?_⟩
      · rw [syncDirM_ok hce]
        refine ⟨h.own, h.nok, made_ok (s := (s.km, s.kc)) (s' := (km1, kc1)) hmade h.kok, h.cok.del _, h.names, names_made h.kept h.kok x2 hmade, ⟨?_, fun x hx => ?_⟩, fun d' => ?_, h.bods.imp fun b B hb => hb.mono fun y o h => inZ_app (K := [r.g]) h⟩
        · show (mdel s.cm dir).map _ = _
          rw [hdel, List.map_append, List.map_append, e1, e2]
        · refine h.rows.2 x ?_
          rw [hrows]
          rcases List.mem_append.1 hx with hx | hx
          · exact List.mem_append_left _ hx
          · exact List.mem_append_right _ (List.mem_cons_of_mem _ hx)
        · have hold := (h.chs d').imp fun q l hq => qr_mono (K := [r.g]) hq
          show All2 (QR ([r.g] ++ s.Z) (psOf s.bs)) (rowOf (pre ++ post) d') (chOf (M.changes.filter fun c => !(dir == c.dir)) d')
          rw [chOf_filter]
          cases hk : d' == dir
          · simp only [Bool.false_eq_true, if_false]
            rw [hrows] at hold
            have : rowOf (pre ++ post) d' = rowOf (pre ++ r :: post) d' := rowOf_app' (by rw [rowOf, hd, hk]; rfl)
            rw [this]; exact hold
          · simp only [if_true]
            rw [baEq] at hk; subst hk
            rw [rowOf_none fun x hx => by rcases List.mem_append.1 hx with hx | hx; exact hpre x hx; exact hpost x hx]
            exact .nil
      · rw [hH] at hw
        rw [syncDirM_ok hce]
        refine sat_cnt hw fun _ x => ?_
        simp only [DS.G, dkO, callM, dirR, hrows, rowsG, List.map_append, List.map_cons, List.cons_append, List.append_assoc]
        simp only [List.flatten_cons, List.flatten_append, List.count_append]
        omega
end Go.Vf
namespace Go.Vf
open Go.Sw Go.RowKit Go.Proofs Go.Proofs.YtlaoeiaaeifidaaGreat
def crashL : List BE → KS → List BE × KS
  | [], k => ([], k)
  | b :: r, k => ((crash1 b k).1 :: (crashL r (crash1 b k).2).1, (crashL r (crash1 b k).2).2)
theorem crashL_len : ∀ (l : List BE) (k : KS), (crashL l k).1.length = l.length
  | [], _ => rfl
  | b :: r, k => by rw [crashL, List.length_cons, crashL_len r, List.length_cons]
theorem crashL_snoc (b : BE) : ∀ (l : List BE) (k : KS), crashL (l ++ [b]) k = ((crashL l k).1 ++ [(crash1 b (crashL l k).2).1], (crash1 b (crashL l k).2).2)
  | [], _ => rfl
  | x :: r, k => by rw [List.cons_append, crashL, crashL_snoc b r]; rfl
theorem stB_L (bs : List BE) (k : KS) : ∀ j : Nat, j ≤ bs.length → stB bs k j = ((crashL (bs.take j) k).1 ++ bs.drop j, (crashL (bs.take j) k).2)
  | 0, _ => rfl
  | j + 1, h => by
    have hj : j < bs.length := h
    rw [stB, stB_at bs k j j (Nat.le_refl _), stB_L bs k j (by omega), take_snoc (d := default) hj, crashL_snoc]
    have hd : bs.drop j = bs.getD j default :: bs.drop (j + 1) := by
      rw [List.getD_eq_getElem?_getD, List.getElem?_eq_getElem hj, List.drop_eq_getElem_cons hj]; rfl
    have hl : (crashL (bs.take j) k).1.length = j := by rw [crashL_len, List.length_take]; omega
    rw [hd, List.set_append_right _ _ (by omega), hl, Nat.sub_self]
    simp
theorem crashL_p : ∀ (l : List BE) (k : KS), psOf (crashL l k).1 = psOf l
  | [], _ => rfl
  | b :: r, k => by
    have := crashL_p r (crash1 b k).2
    unfold psOf at this ⊢
    rw [crashL, List.map_cons, List.map_cons, this]
    congr 1
    unfold crash1
    split <;> rfl
theorem extract_u8s (x : ByteArray) (m : Nat) : u8s (x.extract 0 m).data.toList = (u8s x.data.toList).take m := by
  unfold u8s
  rw [← List.map_take]
  congr 1
  rw [ByteArray.data_extract, Array.toList_extract]
  simp [List.extract]
theorem crash1_r {S : Nat → Obj → Prop} {b : BE} {B : Body} (h : BodyR S b B) (k : KS) (hkm : B.kept.size ≤ B.now.size) :
    BodyR S (crash1 b k).1 (if (B.now.size : Int) - (B.kept.size : Int) > 0 then ⟨B.now.extract 0 (B.kept.size + (nextK (k.l.headD 0) ((B.now.size : Int) - (B.kept.size : Int) + 1)).toNat), B.now.extract 0 (B.kept.size + (nextK (k.l.headD 0) ((B.now.size : Int) - (B.kept.size : Int) + 1)).toNat)⟩ else ⟨B.kept, B.kept⟩) ∧
    (crash1 b k).2.l = if (B.now.size : Int) - (B.kept.size : Int) > 0 then k.l.drop 1 else k.l := by
  have hn := h.n
  have hm := h.m
  unfold crash1
  by_cases hc : (b.n : Int) - (b.m : Int) > 0
  · have hc' : (B.now.size : Int) - (B.kept.size : Int) > 0 := by omega
    rw [if_pos hc, if_pos hc', if_pos hc']
    obtain ⟨q0, q1⟩ := nextK_bd (k := k.l.headD 0) (n := (b.n : Int) - (b.m : Int) + 1) (by omega)
    have e1 : (B.now.size : Int) - (B.kept.size : Int) + 1 = (b.n : Int) - (b.m : Int) + 1 := by omega
    rw [e1]
    have e2 : B.kept.size + (nextK (k.l.headD 0) ((b.n : Int) - (b.m : Int) + 1)).toNat = Int.toNat ((b.m : Int) + nextK (k.l.headD 0) ((b.n : Int) - (b.m : Int) + 1)) - Int.toNat 0 := by
      have : Int.toNat 0 = 0 := rfl
      omega
    rw [e2]
    have e3 : Int.toNat ((b.m : Int) + nextK (k.l.headD 0) ((b.n : Int) - (b.m : Int) + 1)) - Int.toNat 0 ≤ b.n := by
      have : Int.toNat 0 = 0 := rfl
      omega
    have hcn := h.cn
    have hlen : (u8s B.now.data.toList).length = b.n := by rw [u8s_len, hn]; exact Array.length_toList
    have hrd := rd_cut0 h.now (m := Int.toNat ((b.m : Int) + nextK (k.l.headD 0) ((b.n : Int) - (b.m : Int) + 1)) - Int.toNat 0) (c := b.cn) (by rw [hlen]; exact e3) (by rw [hlen]; exact hcn)
    rw [← extract_u8s] at hrd
    have hsz : (B.now.extract 0 (Int.toNat ((b.m : Int) + nextK (k.l.headD 0) ((b.n : Int) - (b.m : Int) + 1)) - Int.toNat 0)).size = Int.toNat ((b.m : Int) + nextK (k.l.headD 0) ((b.n : Int) - (b.m : Int) + 1)) - Int.toNat 0 := by
      rw [ByteArray.size_extract]; omega
    have han : (cutA b.an b.cn (Int.toNat 0) 1 = none ∧ Int.toNat ((b.m : Int) + nextK (k.l.headD 0) ((b.n : Int) - (b.m : Int) + 1)) - Int.toNat 0 = 0 ∧ b.cn - Int.toNat 0 = 0) ∨ ∃ q off, cutA b.an b.cn (Int.toNat 0) 1 = some ⟨q, off, none⟩ := by
      rcases h.an with ⟨h1, h2, _⟩ | ⟨q, off, h1⟩
      · omega
      · refine .inr ⟨q, off, ?_⟩
        rw [h1]
        unfold cutA
        split
        · rfl
        · simp [addr_add]
    have hcm : Int.toNat ((b.m : Int) + nextK (k.l.headD 0) ((b.n : Int) - (b.m : Int) + 1)) - Int.toNat 0 ≤ b.cn - Int.toNat 0 := by
      have : Int.toNat 0 = 0 := rfl
      omega
    exact ⟨⟨hsz.symm, hcm, han, hrd, hsz.symm, hcm, han, hrd⟩, rfl⟩
  · have hc' : ¬ (B.now.size : Int) - (B.kept.size : Int) > 0 := by omega
    rw [if_neg hc, if_neg hc', if_neg hc']
    exact ⟨⟨h.m, h.cm, h.am, h.kept, h.m, h.cm, h.am, h.kept⟩, rfl⟩
theorem crashL_r {S : Nat → Obj → Prop} {bs : List BE} {Bs : List Body} (h : All2 (BodyR S) bs Bs) (hk : ∀ B ∈ Bs, B.kept.size ≤ B.now.size) : ∀ k : KS, All2 (BodyR S) (crashL bs k).1 (crashB Bs k.l).1 ∧ (crashL bs k).2.l = (crashB Bs k.l).2 := by
  induction h with
  | nil => intro k; exact ⟨.nil, rfl⟩
  | @cons b B bs Bs hb _ ih =>
    intro k
    obtain ⟨h1, h2⟩ := crash1_r hb k (hk _ List.mem_cons_self)
    obtain ⟨h3, h4⟩ := ih (fun B hB => hk B (List.mem_cons_of_mem _ hB)) (crash1 b k).2
    rw [crashL, crashB]
    split
    · rename_i hc
      rw [if_pos hc] at h1 h2
      rw [h2] at h3 h4
      exact ⟨.cons h1 h3, h4⟩
    · rename_i hc
      rw [if_neg hc] at h1 h2
      rw [h2] at h3 h4
      exact ⟨.cons h1 h3, h4⟩
theorem All2.mem {α β : Type} {R : α → β → Prop} {l : List α} {m : List β} (h : All2 R l m) {a : α} (ha : a ∈ l) : ∃ b ∈ m, R a b := by
  induction h with
  | nil => cases ha
  | cons hab _ ih =>
    rcases List.mem_cons.1 ha with rfl | ha
    · exact ⟨_, List.mem_cons_self, hab⟩
    · obtain ⟨b, hb, hr⟩ := ih ha
      exact ⟨b, List.mem_cons_of_mem _ hb, hr⟩
theorem once_mem {x : ByteArray} : ∀ {l : List ByteArray}, x ∈ onceL l ↔ x ∈ l
  | [] => Iff.rfl
  | y :: r => by
    rw [onceL]
    split
    · rename_i h
      rw [once_mem, List.mem_cons]
      constructor
      · exact .inr
      · rintro (rfl | h2)
        · exact once_mem.1 h
        · exact h2
    · rw [List.mem_cons, List.mem_cons, once_mem]
theorem once_nodup : ∀ (l : List ByteArray), (onceL l).Nodup
  | [] => List.nodup_nil
  | y :: r => by
    rw [onceL]
    split
    · exact once_nodup r
    · rename_i h; exact List.nodup_cons.2 ⟨h, once_nodup r⟩
theorem once_le : ∀ (l : List ByteArray), (onceL l).length ≤ l.length
  | [] => Nat.le_refl _
  | y :: r => by
    have := once_le r
    rw [onceL]
    split <;> simp <;> omega
theorem chOf_ne {l : List Ch} {d : ByteArray} : chOf l d ≠ [] ↔ d ∈ l.map (·.dir) := by
  unfold chOf
  constructor
  · intro h
    obtain ⟨x, hx⟩ := List.exists_mem_of_ne_nil _ h
    obtain ⟨c, hc, _⟩ := List.mem_map.1 hx
    obtain ⟨h1, h2⟩ := List.mem_filter.1 hc
    rw [baEq] at h2
    exact List.mem_map.2 ⟨c, h1, h2.symm⟩
  · intro h
    obtain ⟨c, hc, rfl⟩ := List.mem_map.1 h
    intro he
    rw [List.map_eq_nil_iff, List.filter_eq_nil_iff] at he
    exact he c hc (by simp)
theorem rowOf_ne {rows : List RW} (h : ∀ r ∈ rows, 0 < r.qs.length) {d : ByteArray} : rowOf rows d ≠ [] ↔ d ∈ rows.map (·.dir) := by
  induction rows with
  | nil => simp [rowOf]
  | cons r rows ih =>
    rw [rowOf, List.map_cons, List.mem_cons]
    split
    · rename_i hk
      rw [baEq] at hk
      have := h r List.mem_cons_self
      constructor
      · intro _; exact .inl hk
      · intro _ he; rw [he] at this; simp at this
    · rename_i hk
      rw [ih fun x hx => h x (List.mem_cons_of_mem _ hx)]
      constructor
      · exact .inr
      · rintro (rfl | h2)
        · exact absurd (baEq.2 rfl) hk
        · exact h2
theorem rows_keys {s : DS} {M : DM} (h : s.ok M) : s.cm.map Prod.fst = s.rows.map (·.dir) := by
  have h1 : (s.cm.map (fun e => (e.1, e.2.1))).map Prod.fst = (s.rows.map (fun r => (r.dir, r.v))).map Prod.fst := by rw [h.rows.1]
  rw [List.map_map, List.map_map] at h1
  exact h1
theorem keys_perm {s : DS} {M : DM} (h : s.ok M) : (s.cm.map Prod.fst).Perm (onceL (M.changes.map (·.dir))) := by
  refine (List.perm_ext_iff_of_nodup h.cok.nodup (once_nodup _)).2 fun d => ?_
  rw [once_mem, ← chOf_ne, rows_keys h, ← rowOf_ne fun r hr => (h.rows.2 r hr).2]
  have := (h.chs d).len
  constructor
  · intro h1 h2
    rw [h2] at this
    exact h1 (List.eq_nil_of_length_eq_zero this)
  · intro h1 h2
    rw [h2] at this
    exact h1 (List.eq_nil_of_length_eq_zero this.symm)
theorem crash_names {ps : List Nat} {rows : ByteArray → RowC} {l : List Ch} : ∀ {ds : List ByteArray} {km km1 : SM} {kc kc1 : Nat} {ks ks1 : KS} {names : List Nm},
    (∀ d ∈ ds, All2 (fun x l => (∃ c, MapOk x c) ∧ ChangeR ps x l) (rows d).xs (chOf l d) ∧ (rows d).qs.length = (chOf l d).length) → NamesR ps km names → MapOk km kc →
    CrashK rows ds ((km, kc), ks) ((km1, kc1), ks1) → NamesR ps km1 (crashD l ds ks.l names) ∧ MapOk km1 kc1
  | [], _, _, _, _, _, _, _, _, hn, ho, hc => by
    injection (show (_, _) = (_, _) from hc) with e1 e2
    injection e1 with e3 e4
    subst e3 e4
    exact ⟨hn, ho⟩
  | d :: ds, km, km1, kc, kc1, ks, ks1, names, hr, hn, ho, ⟨s1, hm, hc⟩ => by
    obtain ⟨h1, h2⟩ := hr d List.mem_cons_self
    obtain ⟨m1, c1⟩ := s1
    have e : keptN (rows d) ks = (nextK (ks.l.headD 0) (((chOf l d).length : Int) + 1)).toNat := by unfold keptN; rw [h2]
    have h3 := names_made hn ho (h1.take (keptN (rows d) ks)) hm
    rw [e] at h3
    exact crash_names (ds := ds) (fun d' hd' => hr d' (List.mem_cons_of_mem _ hd')) h3 (made_ok (s := (km, kc)) (s' := (m1, c1)) hm ho) hc
theorem cCrash {s : DS} {M : DM} (h : s.ok M) (hm : Small M) (d : Nat) (ks : KS) (S0 : Nat → Obj → Prop) (hks : KsOk S0 ks) (W0 : World) (H : List Grp) (hS0 : ∀ y o, S0 y o → At W0 H y o) :
    Tri Tryz.prog 28 #[.pointer (some ⟨d, 0, none⟩), .slice ks.a ks.l.length ks.c] W0 (s.G d M ++ H) (Is d (crashM M ks.l) (.tuple #[]) H) := by
  have hlen := h.bods.len
  have hmb := hm.bodies
  have hkp := keys_perm h
  have hrd : ∀ d', ∃ r : RowC, d' ∈ s.cm.map Prod.fst → RowOk (fun y o => S0 y o ∨ inG s.bg y o ∨ (y, o) ∈ (rowsG s.rows).flatten) W0 ([(s.nb, .map (encM s.nm) s.nc)] :: s.bg :: (rowsG s.rows ++ (s.Z ++ H))) s.cm d' r ∧ All2 (fun x l => (∃ c, MapOk x c) ∧ ChangeR (psOf s.bs) x l) r.xs (chOf M.changes d') ∧ r.qs.length = (chOf M.changes d').length := by
    intro d'
    by_cases hd : d' ∈ s.cm.map Prod.fst
    · obtain ⟨⟨k, rv, c⟩, he, rfl⟩ := List.mem_map.1 hd
      have hg := mget_of h.cok.nodup he
      obtain ⟨pre, r, post, c, p1, p2, hrows, hcm, hp1, hpre, hdd, hrv, e1, e2⟩ := rows_some h.rows hg
      have hmem : r ∈ s.rows := by rw [hrows]; exact List.mem_append_right _ List.mem_cons_self
      obtain ⟨ho, hpos⟩ := h.rows.2 r hmem
      have hq := rows_le h hm r hmem
      rw [hrv] at ho
      obtain ⟨ra, rc, hra, hrc, hrd⟩ := ho.shape
      have hrow : rowOf s.rows k = r.qs := by rw [hrows, rowOf_app hpre, rowOf, hdd, if_pos (baEq.2 rfl)]
      have hch := h.chs k
      rw [hrow] at hch
      obtain ⟨xs, xcs, x1, x2, x3⟩ := row_read hch
      refine ⟨⟨ra, rc, r.qs, xs, xcs⟩, fun _ => ⟨⟨?_, hrd.mono fun y o hy => .inr (.inr (List.mem_flatten.2 ⟨r.g, List.mem_map.2 ⟨r, hmem, rfl⟩, hy⟩)), x1, hq, hrc, fun i hi => ⟨?_, (x3 i hi).2⟩⟩, x2, hch.len⟩⟩
      · rw [show mget s.cm k = some rv from hg, hra]
      · exact .cons (.cons (at_app2 (.inr (by rw [List.flatten_append]; exact List.mem_append_left _ (x3 i hi).1))))
    · exact ⟨⟨none, 0, [], [], []⟩, fun h => absurd h hd⟩
  have hbn : ∀ b ∈ s.bs, b.n ≤ b.cn ∧ b.n ≤ 1000000000 ∧ b.m ≤ b.n := fun b hb => by
    obtain ⟨B, hB, hr⟩ := h.bods.mem hb
    have := hm.size B hB
    have h1 := hr.n
    have h2 := hr.m
    exact ⟨hr.cn, by omega, by omega⟩
  obtain ⟨ra, rc, hra, _, hrb⟩ := h.own.shape
  injection hra with e1 e2 e3
  subst e1
  have hcs : ∀ e ∈ s.cm, e.1.size ≤ 9223372036854775807 := fun e he => by
    have h1 : e.1 ∈ M.changes.map (·.dir) := once_mem.1 (hkp.mem_iff.1 (List.mem_map.2 ⟨e, he, rfl⟩))
    obtain ⟨c, hc, h2⟩ := List.mem_map.1 h1
    have := hm.dirs c hc
    rw [← h2]; omega
  have hcl : s.cm.length ≤ 1000000000 := by
    have h1 := hkp.length_eq
    rw [List.length_map] at h1
    have h2 := once_le (M.changes.map (·.dir))
    rw [List.length_map] at h2
    have := hm.changes
    omega
  have hto : ∀ {w : World}, Sat W0 (s.G d M ++ H) w → Sat W0 ([(d, dkO M s)] :: bodyG s.bs :: [(s.kb, .map (encM s.km) s.kc)] :: [(s.cb, .map (encM s.cm) s.cc)] :: ([(s.nb, .map (encM s.nm) s.nc)] :: s.bg :: (rowsG s.rows ++ (s.Z ++ H)))) w := fun hw => sat_cnt hw fun _ x => by
    simp only [DS.G, List.cons_append, List.append_assoc]
    simp only [List.flatten_cons, List.flatten_append, List.count_append]
    omega
  refine Tri.heap (fun w hw => hto hw) (Tri.post (vCrash d s.nb s.kb s.cb s.kc s.cc M.room M.calls M.fails M.once s.km s.cm s.bs s.ba s.bc ks (fun d' => Classical.choose (hrd d')) (fun y o => S0 y o ∨ inG s.bg y o ∨ (y, o) ∈ (rowsG s.rows).flatten) ⟨hks.1.mono fun _ _ => .inl, hks.2⟩ (by omega) hbn (hrb.mono fun _ _ hy => .inr (.inl hy)) h.kok h.cok hcs hcl W0 ([(s.nb, .map (encM s.nm) s.nc)] :: s.bg :: (rowsG s.rows ++ (s.Z ++ H))) (fun y o hy => ?_) (fun d' hd' => (Classical.choose_spec (hrd d') hd').1)) fun v H1 hr => ?_)
  · rcases hy with hy | hy | hy
    · exact .cons (.cons (at_app2 (at_app2 (hS0 y o hy))))
    · exact .cons (At.mem List.mem_cons_self hy)
    · exact .cons (.cons (at_app (.inr hy)))
  · obtain ⟨hv, b, b2, km1, kc1, ks1, hk, hH⟩ := hr
    rw [stB_L s.bs ks s.bs.length (Nat.le_refl _), List.take_length, List.drop_length, List.append_nil] at hk hH
    obtain ⟨hb1, hb2⟩ := crashL_r h.bods (fun B hB => (hm.size B hB).2) ks
    have hds : sortB (s.cm.map Prod.fst) = dirsOf M.changes := sortB_congr hkp
    obtain ⟨hN, hO⟩ := crash_names (l := M.changes) (fun d' hd' => (Classical.choose_spec (hrd d') ((sortB_perm _).mem_iff.1 hd')).2) h.kept h.kok hk
    simp only at hN
    rw [hds, hb2] at hN
    have hps := crashL_p s.bs ks
    have h0 : MapOk [] 0 := ⟨List.Pairwise.nil, List.nodup_nil, fun _ h => absurd h List.not_mem_nil⟩
    refine ⟨_, ⟨hv, ⟨b, s.kb, b2, km1, km1, [], kc1, kc1, 0, s.ba, s.bc, s.bg, (crashL s.bs ks).1, [], [(s.nb, .map (encM s.nm) s.nc)] :: (rowsG s.rows ++ s.Z)⟩, ⟨?_, hO, hO, h0, ?_, ?_, ⟨rfl, fun _ h => absurd h List.not_mem_nil⟩, fun _ => .nil, ?_⟩, rfl⟩, fun w hw => ?_⟩
    · have e1 : ∀ l : List BE, l.map (fun b => Value.pointer (some ⟨b.p, 0, none⟩)) = (psOf l).map fun p => Value.pointer (some ⟨p, 0, none⟩) := fun l => by unfold psOf; rw [List.map_map]; rfl
      simp only [crashL_len]
      rw [e1, hps, ← e1]; exact h.own
    · rw [hps]; exact hN
    · rw [hps]; exact hN
    · exact hb1.imp fun b B hb => hb.mono fun y o hy => by
        show (y, o) ∈ List.flatten ([(s.nb, .map (encM s.nm) s.nc)] :: (rowsG s.rows ++ s.Z))
        rw [List.flatten_cons, List.flatten_append]
        exact List.mem_append_right _ (List.mem_append_right _ hy)
    · rw [hH] at hw
      refine sat_cnt hw fun _ x => ?_
      simp only [DS.G, dkO, crashM, crashL_len, rowsG, List.map_nil, List.cons_append, List.append_assoc, List.nil_append]
      simp only [List.flatten_cons, List.flatten_append, List.count_append]
      omega
end Go.Vf
namespace Go.Sw
open Go.RowKit
theorem GL_bytesB {d : Bool} {P : Program} {ops : Array Oper} {i : Nat} {Q : Post} {n : Fr} {E : Env} {W0 : World} {H : List Grp} {o : Oper} {ch : List (Nat × Bool)} {src dst e : TypeId} {x : Operand} {a : Option Addr} {cap : Nat} {S : Nat → Obj → Prop} (b : ByteArray)
    (ho : ops[i]? = some o) (hop : o.op = .convert src dst x) (hx : evO E ch x = some (.slice a b.size cap)) (hs : P.underlying src = some (.slice e)) (he : P.underlying e = some (.int .u8)) (hds : P.underlying dst = some .string)
    (hch : chainOf ops E o.guard = some ch) (hd : dstOk n ch o.dst = true) (hk : chKnown E ch = true)
    (hrd : Rd S a (u8s b.data.toList)) (hS : ∀ b o, S b o → At W0 H b o)
    (k : GL d P ops (i + 1) Q n (Env.put E o.dst ch (.string b)) W0 H) : GL d P ops i Q n E W0 H := by
  cases a with
  | some a =>
    refine GL_bytesStr (cap := cap) b.data.toList ho hop ?_ hs he hds hch hd hk hrd hS ?_
    · rw [hx, show b.data.toList.length = b.size from Array.length_toList]
    · have : (⟨b.data.toList.toArray⟩ : ByteArray) = b := by cases b; simp
      rw [this]; exact k
  | none =>
    have h0 : b = ByteArray.empty := by
      rcases hrd with h | ⟨_, _, _, _, _, h, _⟩
      · have h1 := congrArg List.length h
        unfold u8s at h1
        rw [List.length_map] at h1
        cases b with | mk d =>
        have : d = #[] := Array.eq_empty_of_size_eq_zero (by simpa using h1)
        rw [this]; rfl
      · cases h
    refine GL_quiet ho hch hd hk (fun r hr _ w _ => ?_) k
    unfold execOp
    simp only [hop]
    rw [hr _ _ hx, h0]
    have := run_convert_bytes_string (P := P) w src dst e none ByteArray.empty.size cap hs he hds
    simp only [Sem.run_bind, this]
    exact ⟨rfl, rfl⟩
end Go.Sw
namespace Go.Vf
open Go.Sw Go.RowKit Go.Proofs Go.Proofs.YtlaoeiaaeifidaaGreat
def IsK (K : List Grp) (d : Nat) (M : DM) (v0 : Value) (H : List Grp) : Value → List Grp → Prop := fun v H' => v = v0 ∧ ∃ s : DS, s.ok M ∧ H' = K ++ (s.G d M ++ H)
theorem front_to {K X H : List Grp} {W0 : World} {w : World} (hw : Sat W0 (K ++ (X ++ H)) w) : Sat W0 (X ++ (K ++ H)) w := sat_cnt hw fun _ x => by
  simp only [List.flatten_append, List.count_append]; omega
theorem is_front {f : FuncId} {args : Array Value} {W0 : World} {s : DS} {d : Nat} {M M' : DM} {v0 : Value} {K H : List Grp} (h : Tri Tryz.prog f args W0 (s.G d M ++ (K ++ H)) (Is d M' v0 (K ++ H))) : Tri Tryz.prog f args W0 (K ++ (s.G d M ++ H)) (IsK K d M' v0 H) :=
  Tri.heap (fun _ hw => front_to hw) (Tri.post h fun v H1 ⟨hv, s', hs, hH⟩ => ⟨_, ⟨hv, s', hs, rfl⟩, fun w hw => by rw [hH] at hw; exact front_to hw⟩)
theorem BytesV.up {W0 : World} {H : List Grp} {v : Value} {b : ByteArray} (h : BytesV W0 [] v b) : BytesV W0 H v b := by
  obtain ⟨a, cap, S, h1, h2, h3, h4⟩ := h
  refine ⟨a, cap, S, h1, h2, h3, fun y o hy => ?_⟩
  rcases h4 y o hy with h | h
  · exact .inl h
  · cases h
theorem at_up {W0 : World} {H : List Grp} {y : Nat} {o : Obj} (h : At W0 [] y o) : At W0 H y o := by
  rcases h with h | h
  · exact .inl h
  · cases h
structure BytesA (W0 : World) (H : List Grp) (a : Option Addr) (c : Nat) (S : Nat → Obj → Prop) (b : ByteArray) : Prop where
  sh : Sh a b.size c
  rd : Rd S a (u8s b.data.toList)
  at_ : ∀ y o, S y o → At W0 H y o
theorem BytesA.v {W0 : World} {H : List Grp} {a : Option Addr} {c : Nat} {S : Nat → Obj → Prop} {b : ByteArray} (h : BytesA W0 H a c S b) : BytesV W0 H (.slice a b.size c) b := ⟨a, c, S, rfl, h.sh, h.rd, h.at_⟩
theorem dWrite {s : DS} {M M' : DM} {e : Int} (h : s.ok M) (hm : Small M) (d : Nat) (path b : ByteArray) (hpath : path.size ≤ 9223372036854775807) (hb : b.size ≤ 1000000000) (K : List Grp) (W0 : World) (H : List Grp) {bv : Value} (hbv : BytesV W0 (K ++ H) bv b) (he : writeM M path b = (e, M')) :
    Tri Tryz.prog 9 #[.pointer (some ⟨d, 0, none⟩), .string path, bv] W0 (K ++ (s.G d M ++ H)) (IsK K d M' (.int .i64 e) H) := by
  have := cWrite h hm d path b hpath hb W0 (K ++ H) hbv
  rw [he] at this
  exact is_front this
theorem dAppend {s : DS} {M M' : DM} {e : Int} (h : s.ok M) (hm : Small M) (d : Nat) (path b : ByteArray) (hpath : path.size ≤ 9223372036854775807) (hb : b.size ≤ 1000000000) (K : List Grp) (W0 : World) (H : List Grp) {bv : Value} (hbv : BytesV W0 (K ++ H) bv b) (he : appendM M path b = (e, M')) :
    Tri Tryz.prog 26 #[.pointer (some ⟨d, 0, none⟩), .string path, bv] W0 (K ++ (s.G d M ++ H)) (IsK K d M' (.int .i64 e) H) := by
  have := cAppend h hm d path b hpath hb W0 (K ++ H) hbv
  rw [he] at this
  exact is_front this
theorem dSync {s : DS} {M M' : DM} {e : Int} (h : s.ok M) (hm : Small M) (d : Nat) (path : ByteArray) (hpath : path.size ≤ 9223372036854775807) (K : List Grp) (W0 : World) (H : List Grp) (he : syncM M path = (e, M')) :
    Tri Tryz.prog 86 #[.pointer (some ⟨d, 0, none⟩), .string path] W0 (K ++ (s.G d M ++ H)) (IsK K d M' (.int .i64 e) H) := by
  have := cSync h hm d path hpath W0 (K ++ H)
  rw [he] at this
  exact is_front this
theorem dSyncDir {s : DS} {M M' : DM} {e : Int} (h : s.ok M) (hm : Small M) (d : Nat) (path : ByteArray) (hpath : path.size ≤ 9223372036854775807) (K : List Grp) (W0 : World) (H : List Grp) (he : syncDirM M path = (e, M')) :
    Tri Tryz.prog 87 #[.pointer (some ⟨d, 0, none⟩), .string path] W0 (K ++ (s.G d M ++ H)) (IsK K d M' (.int .i64 e) H) := by
  have := cSyncDir h hm d path hpath W0 (K ++ H)
  rw [he] at this
  exact is_front this
theorem dRename {s : DS} {M M' : DM} {e : Int} (h : s.ok M) (hm : Small M) (d : Nat) (path to : ByteArray) (hpath : path.size ≤ 9223372036854775807) (hto : to.size ≤ 9223372036854775807) (K : List Grp) (W0 : World) (H : List Grp) (he : renameM M path to = (e, M')) :
    Tri Tryz.prog 56 #[.pointer (some ⟨d, 0, none⟩), .string path, .string to] W0 (K ++ (s.G d M ++ H)) (IsK K d M' (.int .i64 e) H) := by
  have := cRename h hm d path to hpath hto W0 (K ++ H)
  rw [he] at this
  exact is_front this
theorem dCrash {s : DS} {M M' : DM} (h : s.ok M) (hm : Small M) (d : Nat) (l : List Int) (a : Option Addr) (c : Nat) (S0 : Nat → Obj → Prop) (hks : KsOk S0 ⟨l, a, c⟩) (K : List Grp) (W0 : World) (H : List Grp) (hS0 : ∀ y o, S0 y o → At W0 (K ++ H) y o) (he : crashM M l = M') :
    Tri Tryz.prog 28 #[.pointer (some ⟨d, 0, none⟩), .slice a l.length c] W0 (K ++ (s.G d M ++ H)) (IsK K d M' (.tuple #[]) H) := by
  subst he
  exact is_front (cCrash h hm d ⟨l, a, c⟩ S0 hks W0 (K ++ H) hS0)
theorem dNew (room : Int) {M : DM} (W0 : World) (H : List Grp) (he : newM room = M) : Tri Tryz.prog 8 #[.int .i64 room] W0 H (fun v H' => ∃ d, v = .pointer (some ⟨d, 0, none⟩) ∧ ∃ s : DS, s.ok M ∧ H' = s.G d M ++ H) := by
  subst he; exact cNew room W0 H
theorem dRead {s : DS} {M : DM} {b : ByteArray} {e : Int} (h : s.ok M) (hm : ∀ B ∈ M.bodies, B.now.size ≤ 10000000) (d : Nat) (path : ByteArray) (K : List Grp) (W0 : World) (H : List Grp) (he : readM M path = (b, e)) :
    Tri Tryz.prog 13 #[.pointer (some ⟨d, 0, none⟩), .string path] W0 (K ++ (s.G d M ++ H)) (fun v H' => ∃ a c g, v = .tuple #[.slice a b.size c, .int .i64 e] ∧ b.size ≤ c ∧ Rd (inG g) a (u8s b.data.toList) ∧ H' = g :: (K ++ (s.G d M ++ H))) := by
  have := cRead h hm d path W0 (K ++ H)
  rw [he] at this
  refine Tri.heap (fun _ hw => front_to hw) (Tri.post this fun v H1 ⟨x, g, hv, ho, hH⟩ => ?_)
  obtain ⟨a, c, rfl, hc, hr⟩ := ho.shape
  refine ⟨_, ⟨a, c, g, hv, hc, hr, rfl⟩, fun w hw => ?_⟩
  rw [hH] at hw
  refine sat_cnt hw fun _ x => ?_
  simp only [List.flatten_cons, List.flatten_append, List.count_append]
  omega
end Go.Vf
namespace Go.Proofs.YtlaoeiaaeifidaaGreat
open Go Go.ChangeShapes Go.WideShapes Go.ChangeAt Go.RowKit Go.Sw Go.Vf
theorem laidOut_ : laidOutB Tryz.prog = true := by kernel_rfl
def SW (W : World) (y : Nat) (o : Obj) : Prop := y < W.heap.size ∧ W.heap[y]? = some o
theorem sw_at {W : World} {y : Nat} {o : Obj} (h : SW W y o) : At W [] y o := .inl h
theorem rd_cells {W : World} {a : Addr} {cs : List Value} (hn : cs ≠ []) (h : ∀ j u, cs[j]? = some u → W.cell? (a.add j) = some u) : (∃ b off, a = ⟨b, off, none⟩) ∧ Rd (SW W) (some a) cs := by
  obtain ⟨b, off, sp⟩ := a
  cases cs with
  | nil => exact absurd rfl hn
  | cons v r =>
    have h0 := h 0 v rfl
    unfold World.cell? at h0
    rw [show (Addr.add ⟨b, off, sp⟩ 0) = ⟨b, off, sp⟩ from rfl] at h0
    cases hb : W.heap[b]? with
    | none => rw [show (⟨b, off, sp⟩ : Addr).block = b from rfl, hb] at h0; cases h0
    | some o =>
      rw [show (⟨b, off, sp⟩ : Addr).block = b from rfl, hb] at h0
      cases o with
      | cells c e fz =>
        cases sp with
        | some s => simp at h0
        | none =>
          refine ⟨⟨b, off, rfl⟩, .inr ⟨b, off, c, e, fz, rfl, ⟨?_, hb⟩, fun j u hu => ?_⟩⟩
          · rcases Nat.lt_or_ge b W.heap.size with h | h
            · exact h
            · rw [Array.getElem?_eq_none h] at hb; cases hb
          · have hj := h j u hu
            rw [addr_add] at hj
            unfold World.cell? at hj
            rw [show (⟨b, off + j, none⟩ : Addr).block = b from rfl, hb] at hj
            simpa using hj
      | _ => cases h0
theorem wf_u8 {n : Int} (h : (Lit.int .u8 n).wf = true) : 0 ≤ n ∧ n < 256 := by
  simp [Lit.wf, IntKind.min, IntKind.max, IntKind.bits, IntKind.signed] at h
  omega
def bytesZ (zs : List Int) : ByteArray := ⟨(zs.map fun z => UInt8.ofNat z.toNat).toArray⟩
theorem u8s_bytesZ {zs : List Int} (h : ∀ n ∈ zs, 0 ≤ n ∧ n < 256) : u8s (bytesZ zs).data.toList = zs.map (Value.int .u8) := by
  unfold u8s bytesZ
  simp only [List.map_map]
  refine List.map_congr_left fun z hz => ?_
  obtain ⟨h0, h1⟩ := h z hz
  simp only [Function.comp]
  congr 1
  rw [UInt8.toNat_ofNat']
  omega
theorem bytesZ_size (zs : List Int) : (bytesZ zs).size = zs.length := by
  show (zs.map fun z => UInt8.ofNat z.toNat).toArray.size = _
  simp
theorem cells_u8 : Tryz.prog.cellsOf 5 = 1 := by kernel_rfl
set_option maxRecDepth 100000 in
theorem bytes_core {H : Type} {enc : TypeId × Value → H} {W : World} {cs : List Value} {x : DataW H × List MemPlace} {fuel : Nat} (hf : DataW.trod enc Tryz.prog W 0 (fun _ => true) true fuel 22 cs = some x) :
    ∃ (a : Option Addr) (c : Nat) (b : ByteArray), cs = [.slice a b.size c] ∧ BytesA W [] a c (SW W) b ∧ b.size ≤ 9223372036854775807 ∧ b.size ≤ c := by
  rcases open_ints Tryz.underlying22 Tryz.underlying5 cells_u8 hf with ⟨hcs, hx⟩ | ⟨a, len, cap, zs, hcs, _, hl, hm, hz, hx, hcell, hwz⟩
  · subst hcs
    exact ⟨none, 0, ByteArray.mk #[], rfl, ⟨.inl ⟨rfl, rfl, rfl⟩, .inl rfl, fun y o h => sw_at h⟩, by decide, by decide⟩
  · subst hcs
    simp only [if_true] at hz
    have hlen : (zs.take len).length = len := by rw [List.length_take]; omega
    have hu : u8s (bytesZ (zs.take len)).data.toList = (zs.take len).map (Value.int .u8) := u8s_bytesZ fun n hn => wf_u8 (hwz n (List.mem_of_mem_take hn))
    have hml : maxLen ≤ 9223372036854775807 := by decide
    refine ⟨some a, cap, bytesZ (zs.take len), by rw [bytesZ_size, hlen], ?_, by rw [bytesZ_size, hlen]; omega, by rw [bytesZ_size, hlen]; omega⟩
    by_cases h0 : len = 0
    · subst h0
      exact ⟨.inr (.inl ⟨a, rfl, by rw [bytesZ_size]; simp⟩), .inl (by rw [hu]; simp), fun y o h => sw_at h⟩
    · obtain ⟨⟨b, off, rfl⟩, hrd⟩ := rd_cells (W := W) (a := a) (cs := (zs.take len).map (Value.int .u8)) (by intro he; rw [List.map_eq_nil_iff] at he; rw [he] at hlen; simp at hlen; omega) (fun j u hu => by
        rw [List.getElem?_map] at hu
        obtain ⟨z, hz1, rfl⟩ := Option.map_eq_some_iff.1 hu
        have hj : j < len := by
          rcases Nat.lt_or_ge j (zs.take len).length with h | h
          · omega
          · rw [List.getElem?_eq_none h] at hz1; cases hz1
        rw [List.getElem?_take_of_lt hj] at hz1
        rw [hcell j (by omega), List.getD_eq_getElem?_getD, hz1]; rfl)
      exact ⟨.inr (.inr ⟨b, off, rfl⟩), by rw [hu]; exact hrd, fun y o h => sw_at h⟩
set_option maxRecDepth 100000 in
theorem open_bytesC {H : Type} {enc : TypeId × Value → H} {W : World} {v : Value} {d : DataW H} {p : List MemPlace} {r : Reach} {b0 : Nat} (hval : Value.okWide Tryz.prog W r b0 22 v) (h0 : DataW.Trod enc Tryz.prog W 0 (fun _ => true) true 22 v d p) :
    ∃ (a : Option Addr) (c : Nat) (b : ByteArray), v = .slice a b.size c ∧ BytesA W [] a c (SW W) b ∧ b.size ≤ 9223372036854775807 ∧ b.size ≤ c := by
  obtain ⟨a0, len, cap, rfl⟩ := okWide_slice Tryz.underlying22 hval
  obtain ⟨fuel, hf⟩ := h0
  obtain ⟨a, c, b, h1, h2⟩ := bytes_core hf
  exact ⟨a, c, b, by simpa [Value.cells] using h1, h2⟩
end Go.Proofs.YtlaoeiaaeifidaaGreat
namespace Go.Sha
open Go.Sw
abbrev w32 (x : Int) : Int := IntKind.wrap .u32 x
def xor32 (a b : Int) : Int := IntKind.wrap .u32 ((BitVec.ofInt (IntKind.bits .u32) a ^^^ BitVec.ofInt (IntKind.bits .u32) b).toNat)
def or32 (a b : Int) : Int := IntKind.wrap .u32 ((BitVec.ofInt (IntKind.bits .u32) a ||| BitVec.ofInt (IntKind.bits .u32) b).toNat)
def and32 (a b : Int) : Int := IntKind.wrap .u32 ((BitVec.ofInt (IntKind.bits .u32) a &&& BitVec.ofInt (IntKind.bits .u32) b).toNat)
def not32 (a : Int) : Int := IntKind.wrap .u32 ((BitVec.ofInt (IntKind.bits .u32) 4294967295 ^^^ BitVec.ofInt (IntKind.bits .u32) a).toNat)
def rotr (x : Int) (n : Nat) : Int := or32 (w32 (x * 2 ^ (32 - n))) (Int.fdiv x (2 ^ n))
def sg0 (x : Int) : Int := xor32 (xor32 (rotr x 7) (rotr x 18)) (Int.fdiv x (2 ^ 3))
def sg1 (x : Int) : Int := xor32 (xor32 (rotr x 17) (rotr x 19)) (Int.fdiv x (2 ^ 10))
def bs1 (x : Int) : Int := xor32 (xor32 (rotr x 6) (rotr x 11)) (rotr x 25)
def bs0 (x : Int) : Int := xor32 (xor32 (rotr x 2) (rotr x 13)) (rotr x 22)
def chP (e f g : Int) : Int := xor32 (and32 e f) (and32 (not32 e) g)
def majP (a b c : Int) : Int := xor32 (xor32 (and32 a b) (and32 a c)) (and32 b c)
def wordP (a b c d : Int) : Int := or32 (or32 (or32 (w32 (w32 a * 2 ^ 24)) (w32 (w32 b * 2 ^ 16))) (w32 (w32 c * 2 ^ 8))) (w32 d)
def wsch (B : Nat → Int) : Nat → List Int
  | 0 => []
  | i + 1 => wsch B i ++ [if i < 16 then wordP (B (4 * i)) (B (4 * i + 1)) (B (4 * i + 2)) (B (4 * i + 3))
      else w32 (w32 (w32 ((wsch B i).getD (i - 16) 0 + sg0 ((wsch B i).getD (i - 15) 0)) + (wsch B i).getD (i - 7) 0) + sg1 ((wsch B i).getD (i - 2) 0))]
theorem wsch_len (B : Nat → Int) : ∀ i, (wsch B i).length = i
  | 0 => rfl
  | i + 1 => by simp [wsch, wsch_len B i]
structure S8 where
  a : Int
  b : Int
  c : Int
  d : Int
  e : Int
  f : Int
  g : Int
  h : Int
def t1P (k w : Int) (s : S8) : Int := w32 (w32 (w32 (w32 (s.h + bs1 s.e) + chP s.e s.f s.g) + k) + w)
def t2P (s : S8) : Int := w32 (bs0 s.a + majP s.a s.b s.c)
def rnd (k w : Int) (s : S8) : S8 :=
  ⟨w32 (t1P k w s + t2P s), s.a, s.b, s.c, w32 (s.d + t1P k w s), s.e, s.f, s.g⟩
def rnds (K W : Nat → Int) (s : S8) : Nat → S8
  | 0 => s
  | i + 1 => rnd (K i) (W i) (rnds K W s i)
def addS (s t : S8) : S8 := ⟨w32 (s.a + t.a), w32 (s.b + t.b), w32 (s.c + t.c), w32 (s.d + t.d), w32 (s.e + t.e), w32 (s.f + t.f), w32 (s.g + t.g), w32 (s.h + t.h)⟩
def kTab : List Int := [1116352408, 1899447441, 3049323471, 3921009573, 961987163, 1508970993, 2453635748, 2870763221, 3624381080, 310598401, 607225278, 1426881987, 1925078388, 2162078206, 2614888103, 3248222580, 3835390401, 4022224774, 264347078, 604807628, 770255983, 1249150122, 1555081692, 1996064986, 2554220882, 2821834349, 2952996808, 3210313671, 3336571891, 3584528711, 113926993, 338241895, 666307205, 773529912, 1294757372, 1396182291, 1695183700, 1986661051, 2177026350, 2456956037, 2730485921, 2820302411, 3259730800, 3345764771, 3516065817, 3600352804, 4094571909, 275423344, 430227734, 506948616, 659060556, 883997877, 958139571, 1322822218, 1537002063, 1747873779, 1955562222, 2024104815, 2227730452, 2361852424, 2428436474, 2756734187, 3204031479, 3329325298]
def kAt (i : Nat) : Int := kTab.getD i 0
def hIni : S8 := ⟨1779033703, 3144134277, 1013904242, 2773480762, 1359893119, 2600822924, 528734635, 1541459225⟩
def wAt (B : Nat → Int) (i : Nat) : Int := (wsch B 64).getD i 0
def compress (B : Nat → Int) (s : S8) : S8 := addS s (rnds kAt (wAt B) s 64)
def u32s (l : List Int) : List Value := l.map (Value.int .u32)
def wArr (B : Nat → Int) (i : Nat) : Array Value := (u32s (wsch B i) ++ List.replicate (64 - i) (Value.int .u32 0)).toArray
def kArr : Array Value := (u32s kTab).toArray
theorem wArr_size (B : Nat → Int) {i : Nat} (h : i ≤ 64) : (wArr B i).size = 64 := by simp [wArr, u32s, wsch_len]; omega
theorem wArr_at (B : Nat → Int) {i j : Nat} {q : Int} (hq : q = j) (h : j < i) : (wArr B i)[0 + Int.toNat q * 1]? = some (.int .u32 ((wsch B i).getD j 0)) := by
  subst hq
  simp only [Int.toNat_natCast, Nat.mul_one, Nat.zero_add, wArr, List.getElem?_toArray]
  rw [List.getElem?_append_left (by simp [u32s, wsch_len, h])]
  simp [u32s, List.getD, wsch_len, h]
theorem wArr_set (B : Nat → Int) {i : Nat} {q : Int} {v : Int} (hq : q = i) (h : i < 64)
    (hv : v = if i < 16 then wordP (B (4 * i)) (B (4 * i + 1)) (B (4 * i + 2)) (B (4 * i + 3))
      else w32 (w32 (w32 ((wsch B i).getD (i - 16) 0 + sg0 ((wsch B i).getD (i - 15) 0)) + (wsch B i).getD (i - 7) 0) + sg1 ((wsch B i).getD (i - 2) 0))) :
    setRow (wArr B i) (0 + Int.toNat q * 1) [.int .u32 v] = wArr B (i + 1) := by
  subst hq
  have e : wArr B i = (u32s (wsch B i) ++ [Value.int .u32 0] ++ List.replicate (64 - (i + 1)) (Value.int .u32 0)).toArray := by
    unfold wArr
    rw [show 64 - i = (64 - (i + 1)) + 1 by omega, List.replicate_succ]
    simp
  have hl : (u32s (wsch B i)).length = 0 + Int.toNat ((i : Nat) : Int) * 1 := by simp [u32s, wsch_len]
  rw [e, ← hl, setRow_mid [Value.int .u32 v] (u32s (wsch B i)) (List.replicate (64 - (i + 1)) (Value.int .u32 0)) [Value.int .u32 0] rfl]
  subst hv
  simp only [wArr, wsch, u32s, List.map_append, List.map_cons, List.map_nil]
theorem kArr_at {j : Nat} {q : Int} (hq : q = j) (h : j < 64) : kArr[0 + Int.toNat q * 1]? = some (.int .u32 (kAt j)) := by
  subst hq
  have hk : kTab.length = 64 := rfl
  simp only [Int.toNat_natCast, Nat.mul_one, Nat.zero_add, kArr, List.getElem?_toArray, u32s, kAt]
  simp [List.getD, hk, h]
theorem u8s_at {l : List UInt8} {k : Nat} (h : k < l.length) : (u8s l)[k]? = some (.int .u8 ((l.getD k 0).toNat : Int)) := by
  simp [u8s, h, List.getD]
def byt (l : List UInt8) (j : Nat) : Int := ((l.getD j 0).toNat : Int)
theorem byt_at {l : List UInt8} {k q : Nat} (hq : q = k) (h : k < l.length) : (u8s l)[q]? = some (.int .u8 (byt l k)) := by
  subst hq; exact u8s_at h
theorem byt_rng (l : List UInt8) (j : Nat) : 0 ≤ byt l j ∧ byt l j < 256 := by
  unfold byt; have := UInt8.toNat_lt (l.getD j 0); omega
def S8.v (s : S8) : Value := .agg #[.int .u32 s.a, .int .u32 s.b, .int .u32 s.c, .int .u32 s.d, .int .u32 s.e, .int .u32 s.f, .int .u32 s.g, .int .u32 s.h]
def b8 (y : Int) : UInt8 := UInt8.ofNat (y % 256).toNat
theorem wrap_b8 (y : Int) : IntKind.wrap .u8 y = ((b8 y).toNat : Int) := by
  have h1 : 0 ≤ y % 256 := Int.emod_nonneg _ (by decide)
  have h2 : y % 256 < 256 := Int.emod_lt_of_pos _ (by decide)
  have e : IntKind.wrap .u8 y = y % 256 := by first | rfl | (simp [IntKind.wrap, IntKind.bits, IntKind.signed]; done)
  rw [e]
  unfold b8
  simp only [UInt8.toNat_ofNat']
  omega
def eightB (n : Int) : List UInt8 := [b8 (n.fdiv (2 ^ 56)), b8 (n.fdiv (2 ^ 48)), b8 (n.fdiv (2 ^ 40)), b8 (n.fdiv (2 ^ 32)), b8 (n.fdiv (2 ^ 24)), b8 (n.fdiv (2 ^ 16)), b8 (n.fdiv (2 ^ 8)), b8 (n.fdiv (2 ^ 0))]
def wordB (x : Int) : List UInt8 := [b8 (x.fdiv (2 ^ 24)), b8 (x.fdiv (2 ^ 16)), b8 (x.fdiv (2 ^ 8)), b8 x]
theorem u8s_cons (y : Int) (l : List UInt8) : u8s (b8 y :: l) = Value.int .u8 (IntKind.wrap .u8 y) :: u8s l := by unfold u8s; rw [List.map_cons, wrap_b8]
def padZ (n : Nat) : Nat := (119 - n % 64) % 64
def padK (l : List UInt8) (k : Nat) : List UInt8 := l ++ 128 :: List.replicate k 0
def padB (l : List UInt8) : List UInt8 := padK l (padZ l.length) ++ eightB ((8 * l.length : Nat) : Int)
def chunkOf (p : List UInt8) (k : Nat) : List UInt8 := (p.drop (64 * k)).take 64
def foldB (p : List UInt8) {m : Nat} (ks : List (Fin m)) : S8 := ks.foldl (fun s k => compress (byt (chunkOf p k.1)) s) hIni
def sumS (l : List UInt8) : S8 := foldB (padB l) (List.finRange ((padB l).length / 64))
def wd (s : S8) (k : Nat) : Int := [s.a, s.b, s.c, s.d, s.e, s.f, s.g, s.h].getD k 0
def outB (s : S8) : List UInt8 := wordB s.a ++ wordB s.b ++ wordB s.c ++ wordB s.d ++ wordB s.e ++ wordB s.f ++ wordB s.g ++ wordB s.h
def sumB (l : List UInt8) : List UInt8 := outB (sumS l)
theorem padK_len (l : List UInt8) (k : Nat) : (padK l k).length = l.length + 1 + k := by simp [padK]; omega
theorem padB_len (l : List UInt8) : (padB l).length = l.length + 1 + padZ l.length + 8 := by simp [padB, padK_len, eightB]
theorem pad_mod (n : Nat) : (n + 1 + padZ n + 8) % 64 = 0 ∧ padZ n < 64 := by unfold padZ; omega
theorem pad_more {n k : Nat} (h : k ≤ padZ n) : ((((n + 1 + k : Nat) : Int) % 64 != 56) = true → k < padZ n) ∧ ((((n + 1 + k : Nat) : Int) % 64 != 56) = false → k = padZ n) := by
  unfold padZ at *
  constructor
  · intro h1
    have h2 : ((n + 1 + k : Nat) : Int) % 64 ≠ 56 := by simpa using h1
    omega
  · intro h1
    have h2 : ((n + 1 + k : Nat) : Int) % 64 = 56 := by simpa using h1
    omega
theorem padK_zero (l : List UInt8) : u8s l ++ [Value.int .u8 128] = u8s (padK l 0) := by simp [padK, u8s]
theorem padK_succ (l : List UInt8) (k : Nat) : u8s (padK l k) ++ [Value.int .u8 0] = u8s (padK l (k + 1)) := by simp [padK, u8s, List.replicate_succ']
theorem u8s_append (a b : List UInt8) : u8s (a ++ b) = u8s a ++ u8s b := by simp [u8s]
theorem len8 {n : Nat} (h : n ≤ 1099511627776) : IntKind.wrap .u64 (IntKind.wrap .u64 (n : Int) * 8) = ((8 * n : Nat) : Int) := by
  have e : ∀ x : Int, IntKind.wrap .u64 x = x % 18446744073709551616 := fun x => by first | rfl | simp [IntKind.wrap, IntKind.bits, IntKind.signed]
  rw [e, e]; omega
theorem outB_len (s : S8) : (outB s).length = 32 := rfl
theorem outB_at (s : S8) {k : Nat} (h : k < 8) : (outB s).getD (4 * k) 0 = b8 ((wd s k).fdiv (2 ^ 24)) ∧ (outB s).getD (4 * k + 1) 0 = b8 ((wd s k).fdiv (2 ^ 16)) ∧ (outB s).getD (4 * k + 2) 0 = b8 ((wd s k).fdiv (2 ^ 8)) ∧ (outB s).getD (4 * k + 3) 0 = b8 (wd s k) := by
  match k, h with
  | 0, _ | 1, _ | 2, _ | 3, _ | 4, _ | 5, _ | 6, _ | 7, _ => exact ⟨rfl, rfl, rfl, rfl⟩
  | k + 8, h => exact absurd h (by omega)
def oArr (s : S8) (j : Nat) : Array Value := (u8s ((outB s).take j) ++ List.replicate (32 - j) (Value.int .u8 0)).toArray
theorem oArr_size (s : S8) {j : Nat} (h : j ≤ 32) : (oArr s j).size = 32 := by simp [oArr, u8s, outB_len]; omega
theorem oArr_set (s : S8) {j : Nat} {q v : Int} (hq : q = j) (h : j < 32) (hv : v = (((outB s).getD j 0).toNat : Int)) : setRow (oArr s j) (0 + Int.toNat q * 1) [.int .u8 v] = oArr s (j + 1) := by
  subst hq
  have e : oArr s j = (u8s ((outB s).take j) ++ [Value.int .u8 0] ++ List.replicate (32 - (j + 1)) (Value.int .u8 0)).toArray := by
    unfold oArr
    rw [show 32 - j = (32 - (j + 1)) + 1 by omega, List.replicate_succ]
    simp
  have hl : (u8s ((outB s).take j)).length = 0 + Int.toNat ((j : Nat) : Int) * 1 := by simp [u8s, outB_len]; omega
  rw [e, ← hl, setRow_mid [Value.int .u8 v] (u8s ((outB s).take j)) (List.replicate (32 - (j + 1)) (Value.int .u8 0)) [Value.int .u8 0] rfl]
  have hg : (outB s).take (j + 1) = (outB s).take j ++ [(outB s).getD j 0] := by
    rw [List.take_add_one, List.getD, List.getElem?_eq_getElem (by rw [outB_len]; exact h)]; rfl
  subst hv
  simp only [oArr, hg, u8s, List.map_append, List.map_cons, List.map_nil]
theorem oArr_full (s : S8) : oArr s 32 = (u8s (outB s)).toArray := by
  unfold oArr; rw [List.take_of_length_le (by rw [outB_len]; omega)]; simp
theorem wd_at (s : S8) {k : Nat} (h : k < 8) : (#[.int .u32 s.a, .int .u32 s.b, .int .u32 s.c, .int .u32 s.d, .int .u32 s.e, .int .u32 s.f, .int .u32 s.g, .int .u32 s.h] : Array Value)[k]? = some (.int .u32 (wd s k)) := by
  match k, h with
  | 0, _ | 1, _ | 2, _ | 3, _ | 4, _ | 5, _ | 6, _ | 7, _ => rfl
  | k + 8, h => exact absurd h (by omega)
def z32 : Array Value := (List.replicate 32 (Value.int .u8 0)).toArray
def kz64 : Array Value := (List.replicate 64 (Value.int .u32 0)).toArray
theorem foldB_snoc (p : List UInt8) {m : Nat} (ks : List (Fin m)) (k : Fin m) : foldB p (ks ++ [k]) = compress (byt (chunkOf p k.1)) (foldB p ks) := by unfold foldB; rw [List.foldl_append]; rfl
theorem chunkOf_len {p : List UInt8} {k m : Nat} (h : p.length = 64 * m) (hk : k < m) : (chunkOf p k).length = 64 := by
  unfold chunkOf; rw [List.length_take, List.length_drop]; omega
theorem chunkOf_u8s (p : List UInt8) (k : Nat) : u8s (chunkOf p k) = ((u8s p).drop (64 * k)).take 64 := by
  unfold chunkOf u8s; rw [List.map_take, List.map_drop]
theorem own_rd_at {et n c b off m : Nat} {g : Grp} {cs : List Value} (h : Sw.Own et 1 (.slice (some ⟨b, 0, none⟩) n c) g n cs) : Rd (inG g) (some ⟨b, 0 + off, none⟩) ((cs.drop off).take m) := by
  obtain ⟨hl, ⟨h1, _⟩ | ⟨b', cap, junk, h1, rfl, hc, hj⟩⟩ := h
  · injection h1 with h1; cases h1
  · injection h1 with h1 _ h2
    injection h1 with h1
    injection h1 with h1
    subst h1
    refine .inr ⟨b, 0 + off, _, _, _, rfl, List.mem_singleton.2 rfl, fun j u hu => ?_⟩
    rw [List.getElem?_take] at hu
    split at hu
    · rw [List.getElem?_drop] at hu
      have hlt : off + j < cs.length := by
        rcases Nat.lt_or_ge (off + j) cs.length with h | h
        · exact h
        · rw [List.getElem?_eq_none h] at hu; simp at hu
      rw [List.getElem?_toArray, Nat.zero_add, List.getElem?_append_left hlt]
      exact hu
    · simp at hu
theorem oload (s : S8) : ((oArr s 32).toList.drop 0).take (u8s (outB s)).length = u8s (outB s) := by
  rw [oArr_full]; simp
theorem padB_m (l : List UInt8) {k : Nat} (hk : k = padZ l.length) : l.length + 1 + k + 8 = 64 * ((padB l).length / 64) ∧ (padB l).length = 64 * ((padB l).length / 64) := by
  have := pad_mod l.length
  rw [padB_len]; subst hk; omega
theorem padB_cs (l : List UInt8) {k : Nat} (hk : k = padZ l.length) : u8s (padK l k) ++ u8s (eightB ((8 * l.length : Nat) : Int)) = u8s (padB l) := by
  unfold padB; rw [u8s_append, hk]
def digs : ByteArray := ByteArray.mk #[48, 49, 50, 51, 52, 53, 54, 55, 56, 57, 97, 98, 99, 100, 101, 102]
def hd (i : Int) : UInt8 := UInt8.ofNat (byteAt digs i).toNat
theorem hd_eq (i : Int) : ((hd i).toNat : Int) = byteAt digs i := by
  have := byteAt_rng digs i
  unfold hd; simp only [UInt8.toNat_ofNat']; omega
def low4 (x : Int) : Int := IntKind.wrap .u8 ((BitVec.ofInt (IntKind.bits .u8) x &&& BitVec.ofInt (IntKind.bits .u8) 15).toNat)
def hex2 (x : Int) : List UInt8 := [hd (Int.fdiv x (2 ^ 4)), hd (low4 x)]
def hexK (l : List UInt8) (j : Nat) : List UInt8 := (l.take j).flatMap fun b => hex2 (b.toNat : Int)
theorem hexK_succ (l : List UInt8) {j : Nat} (h : j < l.length) : u8s (hexK l j) ++ [.int .u8 (byteAt digs (Int.fdiv (byt l j) (2 ^ 4))), .int .u8 (byteAt digs (low4 (byt l j)))] = u8s (hexK l (j + 1)) := by
  have e : l.take (j + 1) = l.take j ++ [l.getD j 0] := by
    rw [List.take_add_one, List.getD, List.getElem?_eq_getElem h]; rfl
  unfold hexK
  rw [e, List.flatMap_append, u8s_append]
  congr 1
  simp only [List.flatMap_cons, List.flatMap_nil, List.append_nil, hex2, u8s, List.map_cons, List.map_nil, hd_eq, byt]
theorem hexK_len (l : List UInt8) : ∀ {j : Nat}, j ≤ l.length → (hexK l j).length = 2 * j
  | 0, _ => rfl
  | j + 1, h => by
    have e : l.take (j + 1) = l.take j ++ [l.getD j 0] := by
      rw [List.take_add_one, List.getD, List.getElem?_eq_getElem (by omega)]; rfl
    have ih := hexK_len l (j := j) (by omega)
    unfold hexK at ih ⊢
    rw [e, List.flatMap_append, List.length_append, ih]
    simp [hex2]; omega
theorem hex_size (l : List UInt8) {j : Nat} (h : j ≤ 32) : (ByteArray.mk (hexK (sumB l) j).toArray).size = 2 * j := by
  show (hexK (sumB l) j).toArray.size = 2 * j
  rw [List.size_toArray]; exact hexK_len _ h
def hexM (l : List UInt8) : ByteArray := ⟨(hexK (sumB l) 32).toArray⟩
theorem own_hex {v : Value} {g : Grp} {n : Nat} {l : List UInt8} (h : Sw.Own 5 1 v g n (u8s l)) : Sw.Own 5 1 v g n (u8s (ByteArray.mk l.toArray).data.toList) := by simpa using h
theorem nib : (List.range 256).all (fun n => decide (0 ≤ Int.fdiv ((n : Nat) : Int) (2 ^ 4) ∧ Int.fdiv ((n : Nat) : Int) (2 ^ 4) < 16 ∧ 0 ≤ low4 ((n : Nat) : Int) ∧ low4 ((n : Nat) : Int) < 16)) = true := by kernel_rfl
theorem nib_at (l : List UInt8) (j : Nat) : 0 ≤ Int.fdiv (byt l j) (2 ^ 4) ∧ Int.fdiv (byt l j) (2 ^ 4) < 16 ∧ 0 ≤ low4 (byt l j) ∧ low4 (byt l j) < 16 :=
  of_decide_eq_true (List.all_eq_true.1 nib (l.getD j 0).toNat (List.mem_range.2 (UInt8.toNat_lt _)))
theorem own_from0 {et : TypeId} {sz : Nat} {v : Value} {g : Grp} {n : Nat} {cs : List Value} (h : Go.Sw.Own et sz v g (0 + n) ([] ++ cs)) : Go.Sw.Own et sz v g n cs := by simpa using h
theorem u8_one {l : List UInt8} : ∀ u ∈ u8s l, u.oneCell' = true := by
  intro u hu
  obtain ⟨b, _, rfl⟩ := List.mem_map.1 hu
  rfl
theorem own_eight {v : Value} {g : Grp} {et k : Nat} (n : Int) {cs : List Value} (h : Go.Sw.Own et 1 v g k cs) (hk : k = 8) (hc : cs = u8s (eightB n)) : Go.Sw.Own et 1 v g 8 (u8s (eightB n)) := by
  subst hk; subst hc; exact h
theorem eight_cells (n : Int) : u8s (eightB n) = [.int .u8 (IntKind.wrap .u8 (n.fdiv (2 ^ 56))), .int .u8 (IntKind.wrap .u8 (n.fdiv (2 ^ 48))), .int .u8 (IntKind.wrap .u8 (n.fdiv (2 ^ 40))), .int .u8 (IntKind.wrap .u8 (n.fdiv (2 ^ 32))),
    .int .u8 (IntKind.wrap .u8 (n.fdiv (2 ^ 24))), .int .u8 (IntKind.wrap .u8 (n.fdiv (2 ^ 16))), .int .u8 (IntKind.wrap .u8 (n.fdiv (2 ^ 8))), .int .u8 (IntKind.wrap .u8 (n.fdiv (2 ^ 0)))] := by
  simp only [eightB, u8s_cons]; rfl
end Go.Sha
namespace Go.Jr
open Go.Sw Go.Vf Go.Sha Go.Lib Go.Proofs.YtlaoeiaaeifidaaGreat
def lf (s : ByteArray) : Int := bIdx s 10
theorem lf_facts {s : ByteArray} (h : ¬ lf s < 0) : (lf s).toNat < s.size ∧ (s.extract 0 (lf s).toNat).size = (lf s).toNat ∧ (s.extract ((lf s).toNat + 1) s.size).size + ((lf s).toNat + 1) = s.size := by
  rcases bIdx_spec s (c := 10) (by omega) (by omega) with ⟨k, hk, he, _, _⟩ | ⟨he, _⟩
  · have : lf s = k := he
    rw [this]
    simp only [ByteArray.size_extract, Int.toNat_natCast]
    omega
  · exact absurd (show lf s < 0 by rw [lf, he]; omega) h
theorem lf_or (s : ByteArray) : lf s < 0 ∨ (lf s).toNat < s.size := by
  rcases Int.lt_or_le (lf s) 0 with h | h
  · exact .inl h
  · exact .inr (lf_facts (by omega)).1
theorem lf_one {s : ByteArray} (h : (ByteArray.mk #[10]).toList = s.toList) : lf s = 0 := by
  have : s = ByteArray.mk #[10] := by
    rw [toList_data, toList_data] at h
    cases s with | mk d => cases d with | mk l => simp at h; rw [← h]
  rw [this]; rfl
def hx (t : ByteArray) : ByteArray := (hexM t.data.toList).extract 0 16
theorem hexM_size (l : List UInt8) : (hexM l).size = 64 := hex_size l (Nat.le_refl 32)
theorem hx_size (t : ByteArray) : (hx t).size = 16 := by rw [hx, ByteArray.size_extract, hexM_size]; rfl
def rightJ (t : ByteArray) : Bool := decide ((t.size : Int) ≤ 1048576) && !decide (lf t ≥ 0)
def lineB (t : ByteArray) : ByteArray := ((hx t ++ ByteArray.mk #[32]) ++ t) ++ ByteArray.mk #[10]
theorem lineB_size (t : ByteArray) : (lineB t).size = t.size + 18 := by
  simp only [lineB, ByteArray.size_append, hx_size]
  show 16 + 1 + t.size + 1 = t.size + 18
  omega
def textB (s : ByteArray) : ByteArray := if (s.size : Int) ≤ 16 then ByteArray.mk #[] else s.extract 17 s.size
def okB (s : ByteArray) : Bool := if (s.size : Int) ≤ 16 then false else rightJ (s.extract 17 s.size) && (lineB (s.extract 17 s.size)).toList == (s ++ ByteArray.mk #[10]).toList
def linesB : List ByteArray → ByteArray
  | [] => .empty
  | t :: r => lineB t ++ linesB r
structure JM where
  dir : ByteArray
  L : List ByteArray
  size : Int
  down : Bool
  there : Bool
def logB : ByteArray := ByteArray.mk #[108, 111, 103]
def newB : ByteArray := ByteArray.mk #[110, 101, 119]
def pathJ (dir name : ByteArray) : ByteArray := (dir ++ ByteArray.mk #[47]) ++ name
def tryM : List (DM → Int × DM) → DM → Int × DM
  | [], M => (0, M)
  | f :: r, M => if (f M).1 != 0 then f M else tryM r (f M).2
def failJ (j : JM) (e : Int) : JM := { j with down := j.down || (e != 61) }
def addSteps (j : JM) (l : ByteArray) : List (DM → Int × DM) :=
  if j.there then [fun M => appendM M (pathJ j.dir logB) l, fun M => syncM M (pathJ j.dir logB)]
  else [fun M => writeM M (pathJ j.dir logB) l, fun M => syncM M (pathJ j.dir logB), fun M => syncDirM M j.dir]
def addM (j : JM) (M : DM) (t : ByteArray) : Int × JM × DM :=
  if !rightJ t then (2, j, M) else if j.down then (63, j, M)
  else
    let r := tryM (addSteps j (lineB t)) M
    if r.1 != 0 then (r.1, failJ j r.1, r.2) else (0, { j with there := true, L := j.L ++ [t], size := j.size + ((lineB t).size : Int) }, r.2)
def repSteps (dir b : ByteArray) : List (DM → Int × DM) :=
  [fun M => writeM M (pathJ dir newB) b, fun M => syncM M (pathJ dir newB), fun M => renameM M (pathJ dir newB) (pathJ dir logB), fun M => syncDirM M dir]
def replaceM (j : JM) (M : DM) (ts : List ByteArray) : Int × JM × DM :=
  if ts.any (fun t => !rightJ t) then (2, j, M) else if j.down then (63, j, M)
  else
    let r := tryM (repSteps j.dir (linesB ts)) M
    if r.1 != 0 then (r.1, failJ j r.1, r.2) else (0, { j with there := true, L := ts, size := ((linesB ts).size : Int) }, r.2)
def cutL (all : ByteArray) : Option (ByteArray × ByteArray) :=
  if lf all < 0 then none else if okB (all.extract 0 (lf all).toNat) then some (textB (all.extract 0 (lf all).toNat), all.extract ((lf all).toNat + 1) all.size) else none
theorem cutL_lt {all : ByteArray} {t r : ByteArray} (h : cutL all = some (t, r)) : r.size < all.size := by
  unfold cutL at h
  split at h
  · simp at h
  · rename_i h1
    split at h
    · simp only [Option.some.injEq, Prod.mk.injEq] at h
      obtain ⟨-, rfl⟩ := h
      have := (lf_facts h1).2.2; omega
    · simp at h
def parseB (all : ByteArray) : List ByteArray × ByteArray :=
  match h : cutL all with
  | none => ([], all)
  | some (t, r) => (t :: (parseB r).1, (parseB r).2)
termination_by all.size
decreasing_by all_goals exact cutL_lt h
theorem parseB_none {all : ByteArray} (h : cutL all = none) : parseB all = ([], all) := by
  rw [parseB]; split
  · rfl
  · rename_i h2; rw [h] at h2; cases h2
theorem parseB_some {all t r : ByteArray} (h : cutL all = some (t, r)) : parseB all = (t :: (parseB r).1, (parseB r).2) := by
  rw [parseB]; split
  · rename_i h2; rw [h] at h2; cases h2
  · rename_i t' r' h2
    rw [h] at h2; cases h2; rfl
def openM (M : DM) (dir : ByteArray) : Int × Option JM × DM :=
  if !rightB dir || decide (slash dir ≥ 0) then (2, none, M)
  else if (readM M (pathJ dir logB)).2 != 0 then (0, some ⟨dir, [], 0, false, false⟩, M)
  else
    let p := parseB (readM M (pathJ dir logB)).1
    let j : JM := ⟨dir, p.1, ((linesB p.1).size : Int), false, true⟩
    if p.2.toList != (ByteArray.mk #[]).toList then
      let r := replaceM j M p.1
      if r.1 != 0 then (r.1, none, r.2.2) else (0, some r.2.1, r.2.2)
    else (0, some j, M)
end Go.Jr
namespace Go.Sw
open Go.RowKit
theorem GL_copy {P : Program} {ops : Array Oper} {i : Nat} {Q : Post} {n : Fr} {E : Env} {W0 : World} {H H' : List Grp} {o : Oper} {ch : List (Nat × Bool)} {dT sT el : TypeId} {x y : Operand}
    {b o1 n1 c1 n2 c2 : Nat} {a : Addr} {c c' : Array Value} {e : TypeId} {g : Grp} {j m : Nat} (cs : List Value)
    (ho : ops[i]? = some o) (hop : o.op = .call { callee := .builtin .copy, args := #[x, y], argTypes := #[dT, sT] }) (hx : evO E ch x = some (.slice (some ⟨b, o1, none⟩) n1 c1)) (hy : evO E ch y = some (.slice (some a) n2 c2))
    (hu : P.underlying dT = some (.slice el)) (hs1 : (P.info? el).map (·.size) = some 1)
    (hch : chainOf ops E o.guard = some ch) (hd : dstOk n ch o.dst = true) (hsure : chSure E ch = true)
    (hj : H[j]? = some g) (hi : g[m]? = some (b, .cells c e (0, 0))) (hn : cs.length = Nat.min n2 n1)
    (hsrc : ∀ w, Sat W0 H w → ∀ k v, cs[k]? = some v → w.cell? (a.add k) = some v) (hfit : o1 + cs.length ≤ c.size) (h1 : (cs.all Value.oneCell') = true)
    (hc' : (c.toList.take o1 ++ cs ++ c.toList.drop (o1 + cs.length)).toArray = c') (hH' : H.set j (g.set m (b, .cells c' e (0, 0))) = H')
    (k : GL false P ops (i + 1) Q n (Env.put E o.dst ch (.int .i64 (cs.length : Int))) W0 H') : GL false P ops i Q n E W0 H := by
  refine GL_eff (R := fun v H1 => v = .int .i64 (cs.length : Int) ∧ H1 = H') ho hch hd hsure (fun r hr w hs => ?_) (by rintro v H1 ⟨rfl, rfl⟩; exact k)
  have hblk := hs.has _ (List.mem_flatten.2 ⟨g, List.mem_of_getElem? hj, List.mem_of_getElem? hi⟩)
  have hrun := run_copy_row (P := P) w dT sT o.type el b o1 n1 c1 a n2 c2 c e cs hu hs1 hblk hn (hsrc w hs) hfit (fun v hv => List.all_eq_true.1 h1 v hv)
  rw [hc'] at hrun
  have hwr : Wr b (.cells c' e (0, 0)) w (w.setRow b c') := by
    have hlt := (Array.getElem?_eq_some_iff.1 hblk).1
    refine ⟨rfl, rfl, rfl, by simp [World.setRow], setRow_heap w b c c' e (0, 0) hblk, fun k hk => ?_⟩
    show (w.heap.modify b _)[k]? = w.heap[k]?
    rw [Array.getElem?_modify, if_neg (Ne.symm hk)]
  refine ⟨_, w.setRow b c', H', ⟨rfl, rfl⟩, ?_, .inl ?_⟩
  · have := hs.wr hj hi hwr
    rw [hH'] at this; exact this
  · unfold execOp
    simp only [hop, resolve, Array.map, Sem.run_bind, Sem.run_pure, Result.andThen_ok, invoke, Go.builtin]
    simp [hr _ _ hx, hr _ _ hy, hrun, goInt, Result.andThen_ok]
theorem GL_sliceArr {d : Bool} {P : Program} {ops : Array Oper} {i : Nat} {Q : Post} {n : Fr} {E : Env} {W0 : World} {H : List Grp} {o : Oper} {ch : List (Nat × Bool)} {t e : TypeId} {x : Operand} {lo hi : Option Operand} {b off len sz : Nat} {vl vh : Option Value} {l h : Int}
    (ho : ops[i]? = some o) (hop : o.op = .slice t x lo hi none) (hx : evO E ch x = some (.pointer (some ⟨b, off, none⟩))) (hvl : evOO (evO E ch) lo = some vl) (hvh : evOO (evO E ch) hi = some vh) (hu : P.underlying t = some (.array len e)) (hsz : sizeV P e = some sz)
    (hl : loV vl = some l) (hh : hiV len vh = some h)
    (hch : chainOf ops E o.guard = some ch) (hd : dstOk n ch o.dst = true) (hk : chKnown E ch = true)
    (hb : chB E ch → 0 ≤ l ∧ l ≤ h ∧ h ≤ len ∧ l.toNat < len)
    (k : GL d P ops (i + 1) Q n (Env.put E o.dst ch (.slice (some ⟨b, off + l.toNat * sz, none⟩) (h.toNat - l.toNat) (len - l.toNat))) W0 H) : GL d P ops i Q n E W0 H := by
  refine GL_quiet ho hch hd hk (fun r hr hcb w _ => ?_) k
  obtain ⟨h0, h1, h2, h3⟩ := hb hcb
  have hm : ∀ {y : Option Operand} {v : Option Value}, evOO (evO E ch) y = some v → y.map r = v := by
    intro y v hv
    cases y with
    | none => simp only [evOO, Option.some.injEq] at hv; subst hv; rfl
    | some y =>
      simp only [evOO] at hv
      split at hv
      · rename_i u hu; injection hv with hv; subst hv; simp [hr _ _ hu]
      · simp at hv
  unfold execOp
  simp only [hop]
  rw [hr _ _ hx, hm hvl, hm hvh]
  simp only [Instr.sliceAt, Sem.run_bind, run_underlying hu, Result.andThen_ok, Option.map_none, Instr.sureAddr, Sem.run_pure,
    run_sliceBounds (P := P) (isSlice := false) hl hh h0 h1 h2, sizeV_sound hsz]
  rw [if_neg (by omega), addr_add]
  exact ⟨rfl, rfl⟩
theorem GL_indexV {d : Bool} {P : Program} {ops : Array Oper} {i : Nat} {Q : Post} {n : Fr} {E : Env} {W0 : World} {H : List Grp} {o : Oper} {ch : List (Nat × Bool)} {t e : TypeId} {x ix : Operand} {vs : Array Value} {kd : IntKind} {j : Int} {len : Nat} {v : Value}
    (ho : ops[i]? = some o) (hop : o.op = .index t x ix) (hx : evO E ch x = some (.agg vs)) (hix : evO E ch ix = some (.int kd j)) (hu : P.underlying t = some (.array len e)) (hsz : sizeV P e = some 1) (hag : aggB P e = some false)
    (hch : chainOf ops E o.guard = some ch) (hd : dstOk n ch o.dst = true) (hk : chKnown E ch = true)
    (hb : chB E ch → 0 ≤ j ∧ j < len ∧ vs[j.toNat]? = some v)
    (k : GL d P ops (i + 1) Q n (Env.put E o.dst ch v) W0 H) : GL d P ops i Q n E W0 H := by
  refine GL_quiet ho hch hd hk (fun r hr hcb w _ => ?_) k
  obtain ⟨h0, h1, h2⟩ := hb hcb
  unfold execOp
  simp only [hop]
  rw [hr _ _ hx, hr _ _ hix]
  simp only [Instr.index, asIntOf, Sem.run_bind, Sem.run_pure, Result.andThen_ok, run_underlying hu, if_pos (⟨h0, h1⟩ : 0 ≤ j ∧ j < (len : Int)), sizeV_sound hsz, Nat.mul_one]
  rw [partV_sound (v := v) (by unfold partV; rw [hag]; exact h2)]
  exact ⟨rfl, rfl⟩
theorem GL_appendZ {P : Program} {ops : Array Oper} {i : Nat} {Q : Post} {q : Fr} {E : Env} {W0 : World} {H : List Grp} {o : Oper} {ch : List (Nat × Bool)} {c : Call} {t tn e : TypeId} {inf : TypeInfo} {z : Value} {n : Nat} {kn kd : IntKind}
    (ho : ops[i]? = some o) (hop : o.op = .call c) (hce : c.callee = .builtin .append) (hat : c.argTypes = #[t, tn]) (hargs : evL (evO E ch) c.args.toList = some [.slice none 0 0, .int kd (n : Int)])
    (ht : P.underlying t = some (.slice e)) (htn : P.underlying tn = some (.int kn)) (hi : P.info? e = some inf) (hz : inf.zero = some z) (hzs : z.cells.size = inf.size) (h0s : 0 < inf.size)
    (hch : chainOf ops E o.guard = some ch) (hd : dstOk q ch o.dst = true) (hsure : chSure E ch = true) (h0 : 0 < n) (h63 : (n : Int) ≤ 9223372036854775807) (h48 : n * inf.bytes ≤ 281474976710656)
    (k : ∀ b cap c, n ≤ cap → c.length = cap * inf.size → GL false P ops (i + 1) Q q (Env.put E o.dst ch (.slice (some ⟨b, 0, none⟩) n cap)) W0 ([(b, .cells (List.toArray c) e (0, 0))] :: H)) : GL false P ops i Q q E W0 H := by
  refine GL_eff (R := fun v H1 => ∃ b cap c, n ≤ cap ∧ c.length = cap * inf.size ∧ v = .slice (some ⟨b, 0, none⟩) n cap ∧ H1 = [(b, .cells (List.toArray c) e (0, 0))] :: H) ho hch hd hsure (fun r hr w hs => ?_) (by rintro v H1 ⟨b, cap, c, h1, h2, rfl, rfl⟩; exact k b cap c h1 h2)
  have hrun := Go.Lib.run_append_nil_zeros (P := P) w t tn o.type e inf z kd kn ht htn hi hz n h0 h0s h63 h48
  have hge := grownCap_ge w n 0 e
  refine ⟨_, w.drew.alloc (.cells (Builtin.zeroCells z.cells n ++ Builtin.zeroCells z.cells (grownCap w n 0 e - n)) e), _, ⟨w.heap.size, grownCap w n 0 e, (Builtin.zeroCells z.cells n ++ Builtin.zeroCells z.cells (grownCap w n 0 e - n)).toList, hge, ?_, rfl, rfl⟩, ?_, .inl ?_⟩
  · rw [Array.length_toList, Array.size_append, zeroCells_len, zeroCells_len, hzs, ← Nat.add_mul]
    congr 1; omega
  · rw [Array.toArray_toList]
    exact (hs.drew).new rfl rfl rfl rfl
  · unfold execOp
    simp only [hop, resolve, hce, hat, arr_map hr hargs, Sem.run_bind, Sem.run_pure, Result.andThen_ok, invoke, Go.builtin, hrun]
theorem cutA_zero (b cap sz : Nat) : cutA (some ⟨b, 0, none⟩) cap 0 sz = some ⟨b, 0, none⟩ := by
  unfold cutA; split
  · rfl
  · simp [addr_add]
theorem own_cut0 {b cap sz : Nat} {c : List Value} {e : TypeId} (h : c.length = cap * sz) : Own e sz (.slice (some ⟨b, 0, none⟩) 0 cap) [(b, .cells c.toArray e (0, 0))] 0 [] :=
  ⟨by simp, .inr ⟨b, cap, c, rfl, rfl, Nat.zero_le _, h⟩⟩
theorem own_cs {et : TypeId} {sz : Nat} {v : Value} {g : Grp} {n : Nat} {cs cs' : List Value} (h : Own et sz v g n cs) (e : cs = cs') : Own et sz v g n cs' := e ▸ h
theorem own_none {et : TypeId} {sz : Nat} {a : Option Addr} {cap : Nat} {g : Grp} {n : Nat} {cs : List Value} (h : Own et sz (.slice a n cap) g n cs) : a = none → n = 0 := by
  rintro rfl
  obtain ⟨_, ⟨h1, _, h2⟩ | ⟨b, cap, junk, h1, _⟩⟩ := h
  · exact h2
  · injection h1 with h1; cases h1
theorem ownC_cap {et : TypeId} {sz : Nat} {a : Option Addr} {cap : Nat} {g : Grp} {n : Nat} {cs : List Value} (h : Own et sz (.slice a n cap) g n cs) : n ≤ cap := by
  obtain ⟨_, ⟨h1, _, h2⟩ | ⟨b, cap', junk, h1, _, h3, _⟩⟩ := h
  · omega
  · injection h1 with h1 h4 h5; omega
theorem own_some {et : TypeId} {sz : Nat} {a : Option Addr} {cap : Nat} {g : Grp} {n : Nat} {cs : List Value} (h : Own et sz (.slice a n cap) g n cs) (hn : 0 < n) : ∃ b, a = some ⟨b, 0, none⟩ := by
  obtain ⟨_, ⟨h1, _, h2⟩ | ⟨b, cap, junk, h1, _⟩⟩ := h
  · omega
  · injection h1 with h1; exact ⟨b, h1⟩
theorem cells_at {w : World} {b off k : Nat} {c : Array Value} {e : TypeId} {fz : Nat × Nat} {cs : List Value} {v : Value} (h : w.heap[b]? = some (.cells c e fz)) (hc : (c.toList.drop off).take cs.length = cs) (hv : cs[k]? = some v) :
    w.cell? ((⟨b, off, none⟩ : Addr).add k) = some v := by
  rw [addr_add]
  unfold World.cell?
  rw [h]
  rw [← hc, List.getElem?_take] at hv
  split at hv
  · rw [List.getElem?_drop, Array.getElem?_toList] at hv; exact hv
  · simp at hv
end Go.Sw
namespace Go.Sw
open Go.RowKit
theorem shape_of {w : World} {b : Nat} {c : Array Value} {e : TypeId} {fz : Nat × Nat} (h : w.heap[b]? = some (.cells c e fz)) : w.shape? b = some (e, c.size) := by simp [World.shape?, h]
theorem GL_toUnsafe {d : Bool} {P : Program} {ops : Array Oper} {i : Nat} {Q : Post} {n : Fr} {E : Env} {W0 : World} {H : List Grp} {o : Oper} {ch : List (Nat × Bool)} {src dst t e : TypeId} {x : Operand} {inf : TypeInfo} {b : Nat} {c : Array Value} {fz : Nat × Nat}
    (ho : ops[i]? = some o) (hop : o.op = .convert src dst x) (hx : evO E ch x = some (.pointer (some ⟨b, 0, none⟩))) (hs : P.underlying src = some (.pointer t)) (hdd : P.underlying dst = some .unsafePointer) (ht : P.info? t = some inf) (hj : (inf.size != 0) = true)
    (hch : chainOf ops E o.guard = some ch) (hd : dstOk n ch o.dst = true) (hk : chKnown E ch = true)
    (hA : At W0 H b (.cells c e fz)) (hc : (c.size != 0) = true)
    (k : GL d P ops (i + 1) Q n (Env.put E o.dst ch (.pointer (some ⟨b, 0, none⟩))) W0 H) : GL d P ops i Q n E W0 H := by
  refine GL_quiet ho hch hd hk (fun r hr _ w hsat => ?_) k
  unfold execOp
  simp only [hop]
  rw [hr _ _ hx]
  have := Go.Lib.run_to_unsafe (P := P) w ⟨b, 0, none⟩ hs hdd ht (by simpa using hj) (shape_of (hsat.at hA)) (Nat.pos_of_ne_zero (by simpa using hc))
  simp only [Sem.run_bind, this, Result.andThen_ok]
  exact ⟨rfl, rfl⟩
theorem GL_fromUnsafe {d : Bool} {P : Program} {ops : Array Oper} {i : Nat} {Q : Post} {n : Fr} {E : Env} {W0 : World} {H : List Grp} {o : Oper} {ch : List (Nat × Bool)} {src dst u e : TypeId} {x : Operand} {inf : TypeInfo} {b : Nat} {c : Array Value} {fz : Nat × Nat}
    (ho : ops[i]? = some o) (hop : o.op = .convert src dst x) (hx : evO E ch x = some (.pointer (some ⟨b, 0, none⟩))) (hs : P.underlying src = some .unsafePointer) (hdd : P.underlying dst = some (.pointer u)) (ht : P.info? u = some inf)
    (hch : chainOf ops E o.guard = some ch) (hd : dstOk n ch o.dst = true) (hk : chKnown E ch = true)
    (hA : At W0 H b (.cells c e fz)) (hlies : liesAt P P.depth e (c.size / P.cellsOf e) 0 u 1 = true)
    (k : GL d P ops (i + 1) Q n (Env.put E o.dst ch (.pointer (some ⟨b, 0, none⟩))) W0 H) : GL d P ops i Q n E W0 H := by
  refine GL_quiet ho hch hd hk (fun r hr _ w hsat => ?_) k
  unfold execOp
  simp only [hop]
  rw [hr _ _ hx]
  have := Go.Lib.run_from_unsafe (P := P) w ⟨b, 0, none⟩ hs hdd ht (shape_of (hsat.at hA)) hlies
  simp only [Sem.run_bind, this, Result.andThen_ok]
  exact ⟨rfl, rfl⟩
theorem GL_neqPtr {d : Bool} {P : Program} {ops : Array Oper} {i : Nat} {Q : Post} {n : Fr} {E : Env} {W0 : World} {H : List Grp} {o : Oper} {ch : List (Nat × Bool)} {tp te : TypeId} {x y : Operand} {inf : TypeInfo} {a : Addr}
    (ho : ops[i]? = some o) (hop : o.op = .binOp .neq tp x y tp) (hx : evO E ch x = some (.pointer (some a))) (hy : evO E ch y = some (.pointer (some a))) (hp : P.underlying tp = some (.pointer te)) (ht : P.info? te = some inf)
    (hch : chainOf ops E o.guard = some ch) (hd : dstOk n ch o.dst = true) (hk : chKnown E ch = true)
    (k : GL d P ops (i + 1) Q n (Env.put E o.dst ch (.bool false)) W0 H) : GL d P ops i Q n E W0 H := by
  refine GL_quiet ho hch hd hk (fun r hr _ w hsat => ?_) k
  unfold execOp
  simp only [hop]
  rw [hr _ _ hx, hr _ _ hy]
  have := Go.Lib.run_neq_ptr_same (P := P) w a hp ht
  have hg : (eqGuard .neq tp x y (.pointer (some a)) (.pointer (some a))).run P w = .ok () w := rfl
  simp only [Sem.run_bind, hg, this, Result.andThen_ok]
  exact ⟨rfl, rfl⟩
theorem GL_sliceData {d : Bool} {P : Program} {ops : Array Oper} {i : Nat} {Q : Post} {n : Fr} {E : Env} {W0 : World} {H : List Grp} {o : Oper} {ch : List (Nat × Bool)} {c : Call} {a : Option Addr} {l cap : Nat}
    (ho : ops[i]? = some o) (hop : o.op = .call c) (hce : c.callee = .builtin .unsafeSliceData) (hargs : evL (evO E ch) c.args.toList = some [.slice a l cap]) (hc : a = none ∨ cap ≠ 0)
    (hch : chainOf ops E o.guard = some ch) (hd : dstOk n ch o.dst = true) (hk : chKnown E ch = true)
    (k : GL d P ops (i + 1) Q n (Env.put E o.dst ch (.pointer a)) W0 H) : GL d P ops i Q n E W0 H := by
  refine GL_quiet ho hch hd hk (fun r hr _ w hsat => ?_) k
  unfold execOp
  have hrun : (Builtin.unsafeSliceData_ c.argTypes o.type #[.slice a l cap]).run P w = .ok (.pointer a) w := by
    cases a with
    | none => exact Go.Lib.run_unsafeSliceData_nil (P := P) w _ _ l cap
    | some a => exact Go.Lib.run_unsafeSliceData_row (P := P) w _ _ a l cap (by simpa using hc)
  simp only [hop, resolve, hce, arr_map hr hargs, Sem.run_bind, Sem.run_pure, Result.andThen_ok, invoke, Go.builtin, hrun]
  exact ⟨rfl, rfl⟩
theorem GL_sliceData0 {P : Program} {ops : Array Oper} {i : Nat} {Q : Post} {n : Fr} {E : Env} {W0 : World} {H : List Grp} {o : Oper} {ch : List (Nat × Bool)} {c : Call} {b : Nat} {l : Nat} {e : TypeId} {cs : Array Value} {et : TypeId} {fz : Nat × Nat}
    (ho : ops[i]? = some o) (hop : o.op = .call c) (hce : c.callee = .builtin .unsafeSliceData) (hargs : evL (evO E ch) c.args.toList = some [.slice (some ⟨b, 0, none⟩) l 0]) (hp : P.underlying o.type = some (.pointer e))
    (hch : chainOf ops E o.guard = some ch) (hd : dstOk n ch o.dst = true) (hsure : chSure E ch = true) (hA : At W0 H b (.cells cs et fz))
    (k : ∀ v, GL false P ops (i + 1) Q n (Env.put E o.dst ch (.pointer (some ⟨v, 0, none⟩))) W0 ([(v, .view ⟨b, 0, none⟩ e)] :: H)) : GL false P ops i Q n E W0 H := by
  refine GL_eff (R := fun v H1 => ∃ q, v = .pointer (some ⟨q, 0, none⟩) ∧ H1 = [(q, .view ⟨b, 0, none⟩ e)] :: H) ho hch hd hsure (fun r hr w hs => ?_) (by rintro v H1 ⟨q, rfl, rfl⟩; exact k q)
  have hrun := Go.Lib.run_unsafeSliceData_zero (P := P) w c.argTypes o.type e hp ⟨b, 0, none⟩ l _ (shape_of (hs.at hA))
  refine ⟨_, w.alloc (.view ⟨b, 0, none⟩ e), _, ⟨w.heap.size, rfl, rfl⟩, hs.new rfl rfl rfl rfl, .inl ?_⟩
  unfold execOp
  simp only [hop, resolve, hce, arr_map hr hargs, Sem.run_bind, Sem.run_pure, Result.andThen_ok, invoke, Go.builtin, hrun]
theorem GL_unsafeStr0 {d : Bool} {P : Program} {ops : Array Oper} {i : Nat} {Q : Post} {n : Fr} {E : Env} {W0 : World} {H : List Grp} {o : Oper} {ch : List (Nat × Bool)} {c : Call} {p : Option Addr} {pt it : TypeId}
    (ho : ops[i]? = some o) (hop : o.op = .call c) (hce : c.callee = .builtin .unsafeString) (hat : c.argTypes = #[pt, it]) (hargs : evL (evO E ch) c.args.toList = some [.pointer p, .int .i64 0])
    (hch : chainOf ops E o.guard = some ch) (hd : dstOk n ch o.dst = true) (hk : chKnown E ch = true)
    (k : GL d P ops (i + 1) Q n (Env.put E o.dst ch (.string .empty)) W0 H) : GL d P ops i Q n E W0 H := by
  refine GL_quiet ho hch hd hk (fun r hr _ w hsat => ?_) k
  unfold execOp
  simp only [hop, resolve, hce, hat, arr_map hr hargs, Sem.run_bind, Sem.run_pure, Result.andThen_ok, invoke, Go.builtin, Go.Lib.run_unsafeString_none]
  exact ⟨rfl, rfl⟩
theorem freeze_wr {w : World} {b n : Nat} {c : Array Value} {e : TypeId} (h : w.heap[b]? = some (.cells c e (0, 0))) (hn : n ≠ 0) : Wr b (.cells c e (0, n)) w (w.freeze ⟨b, 0, none⟩ n) := by
  have hb : b < w.heap.size := by
    rcases Nat.lt_or_ge b w.heap.size with h' | h'
    · exact h'
    · simp [Array.getElem?_eq_none h'] at h
  unfold World.freeze
  rw [if_neg hn]
  refine ⟨rfl, rfl, rfl, by simp, ?_, fun k hk => ?_⟩
  · simp only [Array.getElem?_modify, h]
    simp
  · simp only [Array.getElem?_modify]
    rw [if_neg (Ne.symm hk)]
theorem GL_unsafeStr {P : Program} {ops : Array Oper} {i : Nat} {Q : Post} {n : Fr} {E : Env} {W0 : World} {H : List Grp} {o : Oper} {ch : List (Nat × Bool)} {c : Call} {b j : Nat} {pt it e : TypeId} {cs : Array Value} {l : List UInt8}
    (ho : ops[i]? = some o) (hop : o.op = .call c) (hce : c.callee = .builtin .unsafeString) (hat : c.argTypes = #[pt, it]) (hargs : evL (evO E ch) c.args.toList = some [.pointer (some ⟨b, 0, none⟩), .int .i64 (l.length : Int)])
    (hp : P.underlying pt = some (.pointer e)) (hc1 : (P.cellsOf e == 1) = true)
    (hch : chainOf ops E o.guard = some ch) (hd : dstOk n ch o.dst = true) (hsure : chSure E ch = true)
    (hj : H[j]? = some [(b, .cells cs e (0, 0))]) (h0 : l ≠ []) (hlc : l.length ≤ cs.size) (hmax : l.length ≤ 9223372036854775807) (hcell : ∀ (k : Nat) x, l[k]? = some x → cs[k]? = some (.int .u8 (x.toNat : Int)))
    (k : GL false P ops (i + 1) Q n (Env.put E o.dst ch (.string ⟨l.toArray⟩)) W0 (H.set j [(b, .cells cs e (0, l.length))])) : GL false P ops i Q n E W0 H := by
  refine GL_eff (R := fun v H1 => v = .string ⟨l.toArray⟩ ∧ H1 = H.set j [(b, .cells cs e (0, l.length))]) ho hch hd hsure (fun r hr w hs => ?_) (by rintro v H1 ⟨rfl, rfl⟩; exact k)
  have hi : ([(b, Obj.cells cs e (0, 0))] : Grp)[0]? = some (b, .cells cs e (0, 0)) := rfl
  have hblk := hs.has _ (List.mem_flatten.2 ⟨_, List.mem_of_getElem? hj, List.mem_of_getElem? hi⟩)
  have hrun := Go.Lib.run_unsafeString_row (P := P) w pt it o.type e hp (by simpa using hc1) b cs.size (shape_of hblk) l h0 hlc hmax (fun k x hx => by
    have := hcell k x hx
    rw [addr_add, Nat.zero_add]
    exact cell_of hblk this)
  refine ⟨_, _, _, ⟨rfl, rfl⟩, hs.wr hj hi (freeze_wr hblk (by simpa using h0)), .inl ?_⟩
  unfold execOp
  simp only [hop, resolve, hce, hat, arr_map hr hargs, Sem.run_bind, Sem.run_pure, Result.andThen_ok, invoke, Go.builtin, hrun]
def Bld (b : Nat) (p : Value) : Prop := p = .pointer none ∨ p = .pointer (some ⟨b, 0, none⟩)
theorem bld0 {b : Nat} : Bld b (.pointer none) := .inl rfl
theorem bld1 {b : Nat} : Bld b (.pointer (some ⟨b, 0, none⟩)) := .inr rfl
end Go.Sw
namespace Go.Proofs.YtlaoeiaaeifidaaGreat
open Go.Sw Go.Sha
theorem bytes_len (t : ByteArray) : (u8s t.data.toList).length = t.size := by
  rw [show (u8s t.data.toList).length = _ from List.length_map _, Array.length_toList]; rfl
theorem own_text {v : Value} {g : Grp} {n m : Nat} {t s : ByteArray} (h : Go.Sw.Own 5 1 v g n (u8s t.data.toList ++ u8s s.data.toList)) (hn : n = m) (hm : m = (t ++ s).size) : Go.Sw.Own 5 1 v g (t ++ s).size (u8s (t ++ s).data.toList) := by
  have e : u8s (t ++ s).data.toList = u8s t.data.toList ++ u8s s.data.toList := by rw [ByteArray.data_append, Array.toList_append]; exact List.map_append
  rw [← hm, ← hn, e]; exact h
def bldG (b : Nat) (p v : Value) : Grp := [(b, .cells #[p, v] 95 (0, 0))]
def BOwn (v : Value) (g : Grp) (t : ByteArray) : Prop := Go.Sw.Own 5 1 v g t.size (u8s t.data.toList)
theorem cc0 (b : Nat) (v : Value) (W0 : World) (H : List Grp) : Tri Tryz.prog 88 #[pt b] W0 ([(b, .cells #[.pointer none, v] 95 (0, 0))] :: H) (fun r H' => r = .tuple #[] ∧ H' = bldG b (.pointer (some ⟨b, 0, none⟩)) v :: H) := by
 refine Tri_of (args := [pt b]) (n := 20) Tryz.func88 rfl rfl (Nat.le_of_ble_eq_true rfl) ?_
 refine G_seq ?_
 refine G_region ?_
 refine GL_p [0,0,0] kr (j:=3) rfl ?_
 refine GL_load (i:=3) (ch:=[]) (b:=b) (off:=0) (v:=.pointer none) rfl rfl kr kr kr kr kr (At.grp 0 0 rfl rfl) rfl ?_
 refine GL_fin (E':=[⟨0,[],pt b⟩,⟨6,[],.bool true⟩]) [0] [0,6] rfl kr ?_
 refine N_then ?_
 refine G_condt kr ?_
 refine G_region ?_
 refine GL_p [0,0] kr (j:=2) rfl ?_
 refine GL_toUnsafe (i:=2) (ch:=[]) (inf:=Tryz.t95) (t:=95) (e:=95) (b:=b) rfl rfl kr kr kr kr kr kr kr kr (At.grp 0 0 rfl rfl) rfl ?_
 refine GL_extern (i:=3) (ch:=[]) (f:=104) (vs:=[pt b]) (v:=pt b) (e:=Extern.AbiNoEscape.same) rfl rfl rfl kr kr Tryz.func104 kr rfl kr kr kr kr kr (fun w=>Go.Lib.run_noEscape w _) ?_
 refine GL_fromUnsafe (i:=4) (ch:=[]) (inf:=Tryz.t95) (u:=95) (e:=95) (b:=b) rfl rfl kr kr kr kr kr kr kr (At.grp 0 0 rfl rfl) kr ?_
 refine GL_p [0,0] kr (j:=7) rfl ?_
 refine GL_st (i:=7) (ch:=[]) (b:=b) (off:=0) (v:=pt b) (j:=0) ([(b,.cells #[pt b,v] 95 (0,0))]::H) rfl rfl kr kr kr kr kr kr kr rfl rfl (Nat.le_of_ble_eq_true rfl) (fun _ _=>thaw0) kr ?_
 refine GL_fin (E':=[]) [] [] rfl kr ?_
 refine N_ret [] [] rfl kr rfl ?_
 exact ⟨rfl, rfl⟩
theorem cc1 (b : Nat) (v : Value) (W0 : World) (H : List Grp) : Tri Tryz.prog 88 #[pt b] W0 ([(b, .cells #[pt b, v] 95 (0, 0))] :: H) (fun r H' => r = .tuple #[] ∧ H' = bldG b (.pointer (some ⟨b, 0, none⟩)) v :: H) := by
 refine Tri_of (args := [pt b]) (n := 20) Tryz.func88 rfl rfl (Nat.le_of_ble_eq_true rfl) ?_
 refine G_seq ?_
 refine G_region ?_
 refine GL_p [0,0,0] kr (j:=3) rfl ?_
 refine GL_load (i:=3) (ch:=[]) (b:=b) (off:=0) (v:=pt b) rfl rfl kr kr kr kr kr (At.grp 0 0 rfl rfl) rfl ?_
 refine GL_fin (E':=[⟨0,[],pt b⟩,⟨6,[],.bool false⟩]) [0] [0,6] rfl kr ?_
 refine N_then ?_
 refine G_condf kr ?_
 refine G_seq ?_
 refine G_region ?_
 refine GL_p [0,0,0] kr (j:=3) rfl ?_
 refine GL_load (i:=3) (ch:=[]) (b:=b) (off:=0) (v:=pt b) rfl rfl kr kr kr kr kr (At.grp 0 0 rfl rfl) rfl ?_
 refine GL_p [0] kr (j:=5) rfl ?_
 refine GL_neqPtr (i:=5) (ch:=[]) (inf:=Tryz.t95) (te:=95) (a:=⟨b,0,none⟩) rfl rfl kr kr kr kr kr kr kr ?_
 refine GL_fin (E':=[⟨19,[],.bool false⟩]) [] [19] rfl kr ?_
 refine N_then ?_
 refine G_condf kr ?_
 refine G_skip ?_
 refine N_ret [] [] rfl kr rfl ?_
 exact ⟨rfl, rfl⟩
theorem copyCheck_ (b : Nat) (p v : Value) (hp : Bld b p) (W0 : World) (H : List Grp) : Tri Tryz.prog 88 #[pt b] W0 (bldG b p v :: H) (fun r H' => r = .tuple #[] ∧ H' = bldG b (.pointer (some ⟨b, 0, none⟩)) v :: H) := by
  rcases hp with rfl | rfl
  · exact cc0 b v W0 H
  · exact cc1 b v W0 H
theorem writeString_ (b : Nat) (p v : Value) (g : Grp) (t s : ByteArray) (hp : Bld b p) (hv : BOwn v g t) (hs : t.size + s.size ≤ 140737488355328) (W0 : World) (H : List Grp) : Tri Tryz.prog 52 #[pt b, .string s] W0 ([(b, .cells #[p, v] 95 (0, 0))] :: g :: H) (fun r H' => r = .tuple #[.int .i64 (s.size : Int), .nilIface] ∧ ∃ v' g', BOwn v' g' (t ++ s) ∧ H' = bldG b (.pointer (some ⟨b, 0, none⟩)) v' :: g' :: H) := by
 refine Tri_of (args := [pt b, .string s]) (n := 19) Tryz.func52 rfl rfl (Nat.le_of_ble_eq_true rfl) ?_
 refine G_seq ?_
 refine G_pure (E':=[⟨0,[],pt b⟩,⟨1,[],.string s⟩]) [0,0] [0,1] rfl kr ?_
 refine N_then ?_
 refine G_seq ?_
 refine G_region ?_
 refine GL_p [0] kr (j:=1) rfl ?_
 refine GL_call (i:=1) (ch:=[]) (f:=88) (fst:=#[]) (caps:=#[]) (vs:=[pt b]) rfl rfl rfl kr kr Tryz.func88 rfl rfl kr kr (chSure_of kr) (copyCheck_ b (p) (v) hp _ _) ?_
 rintro r H' ⟨rfl, rfl⟩
 refine GL_fin (E':=[⟨0,[],pt b⟩,⟨1,[],.string s⟩]) [] [0,1] rfl kr ?_
 refine N_then ?_
 refine G_seq ?_
 refine G_region ?_
 refine GL_p [0,0,0,0] kr (j:=4) rfl ?_
 refine GL_load (i:=4) (ch:=[]) (b:=b) (off:=1) (v:=v) rfl rfl kr kr kr kr kr (At.grp 0 0 rfl rfl) rfl ?_
 refine GL_p [0] kr (j:=6) rfl ?_
 refine GL_append (i:=6) (ch:=[]) (t:=22) (tx:=9) (e:=5) (inf:=Tryz.t5) (s:=v) (x:=.string s) (n:=t.size) (m:=s.size) (j:=1) (cs:=(u8s t.data.toList)) (news:=(u8s s.data.toList)) (g:=g) (S:=(inB W0)) rfl rfl rfl rfl kr kr kr rfl rfl (.inr ⟨kr,rfl⟩) (fun _=>⟨rfl,kr⟩) (fun ⟨_,_,_,h⟩=>by cases h) kr kr kr rfl hv (SrcOf.str s) at_inB (by rw [show (u8s s.data.toList).length = _ from List.length_map _,Array.length_toList]; exact (Nat.mul_one _).symm) u8_one (by omega) (by show (t.size+s.size) * 1 ≤ 140737488355328; omega) (fun v1 g2 hO3=>?_)
 obtain ⟨a4, cap5, rfl, hcap6, hrd7⟩ := hO3.shape
 refine GL_p [0,0] kr (j:=9) rfl ?_
 refine GL_st (i:=9) (ch:=[]) (b:=b) (off:=1) (v:=.slice a4 (t.size+s.size) cap5) (j:=0) ([(b,.cells #[pt b,.slice a4 (t.size+s.size) cap5] 95 (0,0))]::g2::H) rfl rfl kr kr kr kr kr kr kr rfl rfl (Nat.le_of_ble_eq_true rfl) (fun _ _=>thaw0) kr ?_
 refine GL_fin (E':=[⟨1,[],.string s⟩]) [] [1] rfl kr ?_
 refine N_then ?_
 refine G_seq ?_
 refine G_pure (E':=[⟨4,[],.int .i64 (s.size : Int)⟩,⟨5,[],.nilIface⟩]) [0,0,0,0] [4,5] rfl kr ?_
 refine N_then ?_
 refine G_ret ?_
 refine N_ret [.tmp 4,.tmp 5] [.int .i64 (s.size : Int),.nilIface] rfl kr rfl ?_
 exact ⟨rfl, _, _, own_text hO3 rfl (by simp [ByteArray.size_append]), rfl⟩
theorem writeString (b : Nat) (p v : Value) (g : Grp) (t s : ByteArray) (hp : Bld b p) (hv : BOwn v g t) (hs : t.size + s.size ≤ 140737488355328) (W0 : World) (H : List Grp) : Tri Tryz.prog 52 #[pt b, .string s] W0 (bldG b p v :: g :: H) (fun r H' => r = .tuple #[.int .i64 (s.size : Int), .nilIface] ∧ ∃ v' g', BOwn v' g' (t ++ s) ∧ H' = bldG b (.pointer (some ⟨b, 0, none⟩)) v' :: g' :: H) := writeString_ b p v g t s hp hv hs W0 H
theorem bLen_ (b : Nat) (p : Value) (a : Option Addr) (n c : Nat) (W0 : World) (H : List Grp) : Tri Tryz.prog 57 #[pt b] W0 ([(b, .cells #[p, .slice a n c] 95 (0, 0))] :: H) (fun v H' => v = .int .i64 (n : Int) ∧ H' = ([(b, .cells #[p, .slice a n c] 95 (0, 0))] :: H)) := by
 refine Tri_of (args := [pt b]) (n := 8) Tryz.func57 rfl rfl (Nat.le_of_ble_eq_true rfl) ?_
 refine G_seq ?_
 refine G_pure (E':=[⟨0,[],pt b⟩]) [0] [0] rfl kr ?_
 refine N_then ?_
 refine G_seq ?_
 refine G_region ?_
 refine GL_p [0,0,0] kr (j:=3) rfl ?_
 refine GL_load (i:=3) (ch:=[]) (b:=b) (off:=1) (v:=.slice a n c) rfl rfl kr kr kr kr kr (At.grp 0 0 rfl rfl) rfl ?_
 refine GL_fin (E':=[⟨2,[],.int .i64 ((n : Nat) : Int)⟩]) [0,0] [2] rfl kr ?_
 refine N_then ?_
 refine G_ret ?_
 refine N_ret [.tmp 2] [.int .i64 ((n : Nat) : Int)] rfl kr rfl ?_
 exact ⟨rfl, rfl⟩
theorem bStr0 (b : Nat) (p : Value) (W0 : World) (H : List Grp) : Tri Tryz.prog 54 #[pt b] W0 ([(b, .cells #[p, .slice none 0 0] 95 (0, 0))] :: H) (fun v H' => v = .string .empty ∧ H' = bldG b p (.slice none 0 0) :: H) := by
 refine Tri_of (args := [pt b]) (n := 14) Tryz.func54 rfl rfl (Nat.le_of_ble_eq_true rfl) ?_
 refine G_seq ?_
 refine G_pure (E':=[⟨0,[],pt b⟩]) [0] [0] rfl kr ?_
 refine N_then ?_
 refine G_seq ?_
 refine G_regionD kr kr ?_
 refine GL_p [0,0,0] kr (j:=3) rfl ?_
 refine GL_load (i:=3) (ch:=[]) (b:=b) (off:=1) (v:=.slice none 0 0) rfl rfl kr kr kr kr kr (At.grp 0 0 rfl rfl) rfl ?_
 refine GL_sliceData (i:=4) (ch:=[]) (a:=none) (l:=0) (cap:=0) rfl rfl rfl kr (.inl rfl) kr kr kr ?_
 refine GL_p [0,0,0] kr (j:=8) rfl ?_
 refine GL_load (i:=8) (ch:=[]) (b:=b) (off:=1) (v:=.slice none 0 0) rfl rfl kr kr kr kr kr (At.grp 0 0 rfl rfl) rfl ?_
 refine GL_p [0] kr (j:=10) rfl ?_
 refine GL_unsafeStr0 (i:=10) (ch:=[]) (p:=none) (pt:=130) (it:=3) rfl rfl rfl rfl kr kr kr kr ?_
 refine GL_fin (E':=[⟨2,[],.string .empty⟩]) [0] [2] rfl kr ?_
 refine N_then ?_
 refine G_ret ?_
 refine N_ret [.tmp 2] [.string .empty] rfl kr rfl ?_
 exact ⟨rfl, rfl⟩
theorem bStr1 (b : Nat) (p : Value) (a : Nat) (cs : Array Value) (W0 : World) (H : List Grp) : Tri Tryz.prog 54 #[pt b] W0 ([(b, .cells #[p, .slice (some ⟨a, 0, none⟩) 0 0] 95 (0, 0))] :: [(a, .cells cs 5 (0, 0))] :: H) (fun v H' => v = .string .empty ∧ ∃ x, H' = x :: bldG b p (.slice (some ⟨a, 0, none⟩) 0 0) :: [(a, .cells cs 5 (0, 0))] :: H) := by
 refine Tri_of (args := [pt b]) (n := 14) Tryz.func54 rfl rfl (Nat.le_of_ble_eq_true rfl) ?_
 refine G_seq ?_
 refine G_pure (E':=[⟨0,[],pt b⟩]) [0] [0] rfl kr ?_
 refine N_then ?_
 refine G_seq ?_
 refine G_regionH ([(b,.cells #[p,.slice (some ⟨a,0,none⟩) 0 0] 95 (0,0))]::[(a,.cells cs 5 (0,0))]::H) kr ?_
 refine GH_p (fuel:=11) [(0,0)] (fun w h=>h) kr rfl ?_
 refine GH_nil (ad:=⟨b,0,none⟩) 1 rfl rfl rfl kr kr kr kr kr (fun w h=>h) ?_
 refine GH_p (fuel:=9) [(2,0)] (fun w h=>h) kr rfl ?_
 refine GH_take' 3 kr (fun w h=>h) (GL_load (i:=3) (ch:=[]) (b:=b) (off:=1) (v:=.slice (some ⟨a,0,none⟩) 0 0) rfl rfl kr kr kr kr kr (At.grp 0 0 rfl rfl) rfl (GL_yend kr rfl)) ?_
 refine GH_p (fuel:=7) [(5,0)] (fun w h=>h) kr rfl ?_
 refine GH_nil (ad:=⟨b,0,none⟩) 6 rfl rfl rfl kr kr kr kr kr (fun w h=>h) ?_
 refine GH_p (fuel:=5) [(7,0)] (fun w h=>h) kr rfl ?_
 refine GH_take' 8 kr (fun w h=>h) (GL_load (i:=8) (ch:=[]) (b:=b) (off:=1) (v:=.slice (some ⟨a,0,none⟩) 0 0) rfl rfl kr kr kr kr kr (At.grp 0 0 rfl rfl) rfl (GL_yend kr rfl)) ?_
 refine GH_pev (v:=.int .i64 0) 9 rfl rfl kr kr kr kr kr (fun w h=>h) ?_
 refine GH_eff 4 kr kr kr ?_
 refine GL_sliceData0 (i:=4) (ch:=[]) (b:=a) (l:=0) (e:=5) rfl rfl rfl kr kr kr kr kr (At.grp 1 0 rfl rfl) (fun b1=>?_)
 refine GH_back kr (fun w h=>(h.erase 0)) ?_
 refine GH_more ([(b1,.view ⟨a,0,none⟩ 5)]::[(b,.cells #[p,.slice (some ⟨a,0,none⟩) 0 0] 95 (0,0))]::[(a,.cells cs 5 (0,0))]::H) (fun w h=>(h.erase 0)) ?_
 refine GH_eff 10 kr kr kr ?_
 refine GL_unsafeStr0 (i:=10) (ch:=[]) (p:=some ⟨b1,0,none⟩) (pt:=130) (it:=3) rfl rfl rfl rfl kr kr kr kr ?_
 refine GH_back kr (fun w h=>h) ?_
 refine GH_p (fuel:=0) [(11,0)] (fun w h=>h) kr rfl ?_
 refine GH_done (E':=[⟨2,[],.string .empty⟩]) [2] kr kr ?_
 refine N_then ?_
 refine G_ret ?_
 refine N_ret [.tmp 2] [.string .empty] rfl kr rfl ?_
 exact ⟨rfl, _, rfl⟩
theorem bStr2 (b : Nat) (p : Value) (a : Nat) (cs : Array Value) (c : Nat) (hc : c ≠ 0) (W0 : World) (H : List Grp) : Tri Tryz.prog 54 #[pt b] W0 ([(b, .cells #[p, .slice (some ⟨a, 0, none⟩) 0 c] 95 (0, 0))] :: [(a, .cells cs 5 (0, 0))] :: H) (fun v H' => v = .string .empty ∧ H' = bldG b p (.slice (some ⟨a, 0, none⟩) 0 c) :: [(a, .cells cs 5 (0, 0))] :: H) := by
 refine Tri_of (args := [pt b]) (n := 14) Tryz.func54 rfl rfl (Nat.le_of_ble_eq_true rfl) ?_
 refine G_seq ?_
 refine G_pure (E':=[⟨0,[],pt b⟩]) [0] [0] rfl kr ?_
 refine N_then ?_
 refine G_seq ?_
 refine G_regionD kr kr ?_
 refine GL_p [0,0,0] kr (j:=3) rfl ?_
 refine GL_load (i:=3) (ch:=[]) (b:=b) (off:=1) (v:=.slice (some ⟨a,0,none⟩) 0 c) rfl rfl kr kr kr kr kr (At.grp 0 0 rfl rfl) rfl ?_
 refine GL_sliceData (i:=4) (ch:=[]) (a:=(some ⟨a,0,none⟩)) (l:=0) (cap:=c) rfl rfl rfl kr (.inr hc) kr kr kr ?_
 refine GL_p [0,0,0] kr (j:=8) rfl ?_
 refine GL_load (i:=8) (ch:=[]) (b:=b) (off:=1) (v:=.slice (some ⟨a,0,none⟩) 0 c) rfl rfl kr kr kr kr kr (At.grp 0 0 rfl rfl) rfl ?_
 refine GL_p [0] kr (j:=10) rfl ?_
 refine GL_unsafeStr0 (i:=10) (ch:=[]) (p:=some ⟨a,0,none⟩) (pt:=130) (it:=3) rfl rfl rfl rfl kr kr kr kr ?_
 refine GL_fin (E':=[⟨2,[],.string .empty⟩]) [0] [2] rfl kr ?_
 refine N_then ?_
 refine G_ret ?_
 refine N_ret [.tmp 2] [.string .empty] rfl kr rfl ?_
 exact ⟨rfl, rfl⟩
theorem bStr3 (b : Nat) (p : Value) (a : Nat) (cs : Array Value) (c : Nat) (l : List UInt8) (hc : c ≠ 0) (h0 : l ≠ []) (hlc : l.length ≤ cs.size) (hmax : l.length ≤ 9223372036854775807) (hcell : ∀ (k : Nat) x, l[k]? = some x → cs[k]? = some (.int .u8 (x.toNat : Int))) (W0 : World) (H : List Grp) : Tri Tryz.prog 54 #[pt b] W0 ([(b, .cells #[p, .slice (some ⟨a, 0, none⟩) l.length c] 95 (0, 0))] :: [(a, .cells cs 5 (0, 0))] :: H) (fun v H' => v = .string ⟨l.toArray⟩ ∧ H' = bldG b p (.slice (some ⟨a, 0, none⟩) l.length c) :: [(a, .cells cs 5 (0, l.length))] :: H) := by
 refine Tri_of (args := [pt b]) (n := 14) Tryz.func54 rfl rfl (Nat.le_of_ble_eq_true rfl) ?_
 refine G_seq ?_
 refine G_pure (E':=[⟨0,[],pt b⟩]) [0] [0] rfl kr ?_
 refine N_then ?_
 refine G_seq ?_
 refine G_regionH ([(b,.cells #[p,.slice (some ⟨a,0,none⟩) l.length c] 95 (0,0))]::H) kr ?_
 refine GH_p (fuel:=11) [(0,0)] (fun w h=>(h.erase 1)) kr rfl ?_
 refine GH_nil (ad:=⟨b,0,none⟩) 1 rfl rfl rfl kr kr kr kr kr (fun w h=>(h.erase 1)) ?_
 refine GH_p (fuel:=9) [(2,0)] (fun w h=>(h.erase 1)) kr rfl ?_
 refine GH_take' 3 kr (fun w h=>(h.erase 1)) (GL_load (i:=3) (ch:=[]) (b:=b) (off:=1) (v:=.slice (some ⟨a,0,none⟩) l.length c) rfl rfl kr kr kr kr kr (At.grp 0 0 rfl rfl) rfl (GL_yend kr rfl)) ?_
 refine GH_p (fuel:=7) [(5,0)] (fun w h=>(h.erase 1)) kr rfl ?_
 refine GH_nil (ad:=⟨b,0,none⟩) 6 rfl rfl rfl kr kr kr kr kr (fun w h=>(h.erase 1)) ?_
 refine GH_p (fuel:=5) [(7,0)] (fun w h=>(h.erase 1)) kr rfl ?_
 refine GH_take' 8 kr (fun w h=>(h.erase 1)) (GL_load (i:=8) (ch:=[]) (b:=b) (off:=1) (v:=.slice (some ⟨a,0,none⟩) l.length c) rfl rfl kr kr kr kr kr (At.grp 0 0 rfl rfl) rfl (GL_yend kr rfl)) ?_
 refine GH_pev (v:=.int .i64 ((l.length : Nat) : Int)) 9 rfl rfl kr kr kr kr kr (fun w h=>(h.erase 1)) ?_
 refine GH_eff 4 kr kr kr ?_
 refine GL_sliceData (i:=4) (ch:=[]) (a:=(some ⟨a,0,none⟩)) (l:=l.length) (cap:=c) rfl rfl rfl kr (.inr hc) kr kr kr ?_
 refine GH_back kr (fun w h=>(h.erase 1)) ?_
 refine GH_eff 10 kr kr kr ?_
 refine GL_unsafeStr (i:=10) (ch:=[]) (b:=a) (j:=1) (pt:=130) (it:=3) (e:=5) (cs:=cs) (l:=l) rfl rfl rfl rfl kr kr kr kr kr kr rfl h0 hlc hmax hcell ?_
 refine GH_back kr (fun w h=>(h.erase 1)) ?_
 refine GH_p (fuel:=0) [(11,0)] (fun w h=>(h.erase 1)) kr rfl ?_
 refine GH_done (E':=[⟨2,[],.string ⟨l.toArray⟩⟩]) [2] kr kr ?_
 refine N_then ?_
 refine G_ret ?_
 refine N_ret [.tmp 2] [.string ⟨l.toArray⟩] rfl kr rfl ?_
 exact ⟨rfl, rfl⟩
theorem u8_at (t : ByteArray) (junk : List Value) (k : Nat) (x : UInt8) (h : t.data.toList[k]? = some x) : ((u8s t.data.toList ++ junk).toArray)[k]? = some (.int .u8 (x.toNat : Int)) := by
  obtain ⟨hk, hx⟩ := List.getElem?_eq_some_iff.1 h
  rw [List.getElem?_toArray, List.getElem?_append_left (by simpa [u8s] using hk)]
  simp [u8s, h]
theorem builderString (b : Nat) (p v : Value) (g : Grp) (t : ByteArray) (hv : BOwn v g t) (hs : t.size ≤ 140737488355328) (W0 : World) (H : List Grp) : Tri Tryz.prog 54 #[pt b] W0 (bldG b p v :: g :: H) (fun r H' => r = .string t ∧ H' = bldG b p v :: H) := by
  obtain ⟨hl, ⟨rfl, rfl, h0⟩ | ⟨a, cap, junk, rfl, rfl, hcap, hj⟩⟩ := hv
  · have ht : t = .empty := by cases t with | mk d => (have : d = #[] := Array.eq_empty_of_size_eq_zero h0); rw [this]; rfl
    subst ht
    exact Tri.heap (fun _ h => h.erase 1) (bStr0 b p W0 H)
  · by_cases h0 : t.size = 0
    · have ht : t = .empty := by cases t with | mk d => (have : d = #[] := Array.eq_empty_of_size_eq_zero h0); rw [this]; rfl
      by_cases hc : cap = 0
      · subst hc; subst ht
        exact Tri.post (bStr1 b p a _ W0 H) fun v H' ⟨h1, x, h2⟩ => ⟨_, ⟨h1, rfl⟩, fun w hw => by rw [h2] at hw; exact (hw.erase 2).erase 0⟩
      · subst ht
        exact Tri.post (bStr2 b p a _ cap hc W0 H) fun v H' ⟨h1, h2⟩ => ⟨_, ⟨h1, rfl⟩, fun w hw => by rw [h2] at hw; exact hw.erase 1⟩
    · have hcap0 : cap ≠ 0 := by omega
      have hlen : t.data.toList.length = t.size := Array.length_toList
      have := bStr3 b p a (u8s t.data.toList ++ junk).toArray cap t.data.toList hcap0 (fun h => h0 (by rw [← hlen, h]; rfl)) (by rw [List.size_toArray, List.length_append, bytes_len, hlen]; omega) (by omega) (u8_at t junk) W0 H
      rw [hlen] at this
      exact Tri.post this fun v H' ⟨h1, h2⟩ => ⟨_, ⟨by rw [h1], rfl⟩, fun w hw => by rw [h2] at hw; exact hw.erase 1⟩
theorem builderLen (b : Nat) (p v : Value) (g : Grp) (t : ByteArray) (hv : BOwn v g t) (W0 : World) (H : List Grp) : Tri Tryz.prog 57 #[pt b] W0 (bldG b p v :: H) (fun r H' => r = .int .i64 ((t.size : Nat) : Int) ∧ H' = bldG b p v :: H) := by
  obtain ⟨a, c, rfl, _, _⟩ := Go.Sw.Own.shape hv
  exact bLen_ b p a t.size c W0 H
end Go.Proofs.YtlaoeiaaeifidaaGreat
namespace Go.Proofs.YtlaoeiaaeifidaaGreat
open Go.Sw Go.Sha
theorem rot7 (x : Int) (W0 : World) (H : List Grp) : Tri Tryz.prog 140 #[.int .u32 x, .int .i64 (-7)] W0 H (fun v H' => v = .int .u32 (rotr x 7) ∧ H' = H) := by
 refine Tri_of (args := [.int .u32 x, .int .i64 (-7)]) (n := 17) Tryz.func140 rfl rfl (Nat.le_of_ble_eq_true rfl) ?_
 refine G_seq ?_
 refine G_pure (E':=[⟨0,[],.int .u32 x⟩,⟨1,[],.int .i64 (-7)⟩]) [0] [0,1] rfl kr ?_
 refine N_then ?_
 refine G_seq ?_
 refine G_pure (E':=[⟨0,[],.int .u32 x⟩,⟨5,[],.int .u64 25⟩]) [0,0,0,0] [0,5] rfl kr ?_
 refine N_then ?_
 refine G_seq ?_
 refine G_pure (E':=[⟨4,[],.int .u32 (IntKind.wrap .u32 ((BitVec.ofInt (IntKind.bits .u32) (IntKind.wrap .u32 (x * 2 ^ 25)) ||| BitVec.ofInt (IntKind.bits .u32) (Int.fdiv x (2 ^ 7))).toNat))⟩]) [0,0,0,0,0,0,0,0,0] [4] rfl kr ?_
 refine N_then ?_
 refine G_ret ?_
 refine N_ret [.tmp 4] [.int .u32 (IntKind.wrap .u32 ((BitVec.ofInt (IntKind.bits .u32) (IntKind.wrap .u32 (x * 2 ^ 25)) ||| BitVec.ofInt (IntKind.bits .u32) (Int.fdiv x (2 ^ 7))).toNat))] rfl kr rfl ?_
 exact ⟨rfl, rfl⟩
theorem rot18 (x : Int) (W0 : World) (H : List Grp) : Tri Tryz.prog 140 #[.int .u32 x, .int .i64 (-18)] W0 H (fun v H' => v = .int .u32 (rotr x 18) ∧ H' = H) := by
 refine Tri_of (args := [.int .u32 x, .int .i64 (-18)]) (n := 17) Tryz.func140 rfl rfl (Nat.le_of_ble_eq_true rfl) ?_
 refine G_seq ?_
 refine G_pure (E':=[⟨0,[],.int .u32 x⟩,⟨1,[],.int .i64 (-18)⟩]) [0] [0,1] rfl kr ?_
 refine N_then ?_
 refine G_seq ?_
 refine G_pure (E':=[⟨0,[],.int .u32 x⟩,⟨5,[],.int .u64 14⟩]) [0,0,0,0] [0,5] rfl kr ?_
 refine N_then ?_
 refine G_seq ?_
 refine G_pure (E':=[⟨4,[],.int .u32 (IntKind.wrap .u32 ((BitVec.ofInt (IntKind.bits .u32) (IntKind.wrap .u32 (x * 2 ^ 14)) ||| BitVec.ofInt (IntKind.bits .u32) (Int.fdiv x (2 ^ 18))).toNat))⟩]) [0,0,0,0,0,0,0,0,0] [4] rfl kr ?_
 refine N_then ?_
 refine G_ret ?_
 refine N_ret [.tmp 4] [.int .u32 (IntKind.wrap .u32 ((BitVec.ofInt (IntKind.bits .u32) (IntKind.wrap .u32 (x * 2 ^ 14)) ||| BitVec.ofInt (IntKind.bits .u32) (Int.fdiv x (2 ^ 18))).toNat))] rfl kr rfl ?_
 exact ⟨rfl, rfl⟩
theorem rot17 (x : Int) (W0 : World) (H : List Grp) : Tri Tryz.prog 140 #[.int .u32 x, .int .i64 (-17)] W0 H (fun v H' => v = .int .u32 (rotr x 17) ∧ H' = H) := by
 refine Tri_of (args := [.int .u32 x, .int .i64 (-17)]) (n := 17) Tryz.func140 rfl rfl (Nat.le_of_ble_eq_true rfl) ?_
 refine G_seq ?_
 refine G_pure (E':=[⟨0,[],.int .u32 x⟩,⟨1,[],.int .i64 (-17)⟩]) [0] [0,1] rfl kr ?_
 refine N_then ?_
 refine G_seq ?_
 refine G_pure (E':=[⟨0,[],.int .u32 x⟩,⟨5,[],.int .u64 15⟩]) [0,0,0,0] [0,5] rfl kr ?_
 refine N_then ?_
 refine G_seq ?_
 refine G_pure (E':=[⟨4,[],.int .u32 (IntKind.wrap .u32 ((BitVec.ofInt (IntKind.bits .u32) (IntKind.wrap .u32 (x * 2 ^ 15)) ||| BitVec.ofInt (IntKind.bits .u32) (Int.fdiv x (2 ^ 17))).toNat))⟩]) [0,0,0,0,0,0,0,0,0] [4] rfl kr ?_
 refine N_then ?_
 refine G_ret ?_
 refine N_ret [.tmp 4] [.int .u32 (IntKind.wrap .u32 ((BitVec.ofInt (IntKind.bits .u32) (IntKind.wrap .u32 (x * 2 ^ 15)) ||| BitVec.ofInt (IntKind.bits .u32) (Int.fdiv x (2 ^ 17))).toNat))] rfl kr rfl ?_
 exact ⟨rfl, rfl⟩
theorem rot19 (x : Int) (W0 : World) (H : List Grp) : Tri Tryz.prog 140 #[.int .u32 x, .int .i64 (-19)] W0 H (fun v H' => v = .int .u32 (rotr x 19) ∧ H' = H) := by
 refine Tri_of (args := [.int .u32 x, .int .i64 (-19)]) (n := 17) Tryz.func140 rfl rfl (Nat.le_of_ble_eq_true rfl) ?_
 refine G_seq ?_
 refine G_pure (E':=[⟨0,[],.int .u32 x⟩,⟨1,[],.int .i64 (-19)⟩]) [0] [0,1] rfl kr ?_
 refine N_then ?_
 refine G_seq ?_
 refine G_pure (E':=[⟨0,[],.int .u32 x⟩,⟨5,[],.int .u64 13⟩]) [0,0,0,0] [0,5] rfl kr ?_
 refine N_then ?_
 refine G_seq ?_
 refine G_pure (E':=[⟨4,[],.int .u32 (IntKind.wrap .u32 ((BitVec.ofInt (IntKind.bits .u32) (IntKind.wrap .u32 (x * 2 ^ 13)) ||| BitVec.ofInt (IntKind.bits .u32) (Int.fdiv x (2 ^ 19))).toNat))⟩]) [0,0,0,0,0,0,0,0,0] [4] rfl kr ?_
 refine N_then ?_
 refine G_ret ?_
 refine N_ret [.tmp 4] [.int .u32 (IntKind.wrap .u32 ((BitVec.ofInt (IntKind.bits .u32) (IntKind.wrap .u32 (x * 2 ^ 13)) ||| BitVec.ofInt (IntKind.bits .u32) (Int.fdiv x (2 ^ 19))).toNat))] rfl kr rfl ?_
 exact ⟨rfl, rfl⟩
theorem rot6 (x : Int) (W0 : World) (H : List Grp) : Tri Tryz.prog 140 #[.int .u32 x, .int .i64 (-6)] W0 H (fun v H' => v = .int .u32 (rotr x 6) ∧ H' = H) := by
 refine Tri_of (args := [.int .u32 x, .int .i64 (-6)]) (n := 17) Tryz.func140 rfl rfl (Nat.le_of_ble_eq_true rfl) ?_
 refine G_seq ?_
 refine G_pure (E':=[⟨0,[],.int .u32 x⟩,⟨1,[],.int .i64 (-6)⟩]) [0] [0,1] rfl kr ?_
 refine N_then ?_
 refine G_seq ?_
 refine G_pure (E':=[⟨0,[],.int .u32 x⟩,⟨5,[],.int .u64 26⟩]) [0,0,0,0] [0,5] rfl kr ?_
 refine N_then ?_
 refine G_seq ?_
 refine G_pure (E':=[⟨4,[],.int .u32 (IntKind.wrap .u32 ((BitVec.ofInt (IntKind.bits .u32) (IntKind.wrap .u32 (x * 2 ^ 26)) ||| BitVec.ofInt (IntKind.bits .u32) (Int.fdiv x (2 ^ 6))).toNat))⟩]) [0,0,0,0,0,0,0,0,0] [4] rfl kr ?_
 refine N_then ?_
 refine G_ret ?_
 refine N_ret [.tmp 4] [.int .u32 (IntKind.wrap .u32 ((BitVec.ofInt (IntKind.bits .u32) (IntKind.wrap .u32 (x * 2 ^ 26)) ||| BitVec.ofInt (IntKind.bits .u32) (Int.fdiv x (2 ^ 6))).toNat))] rfl kr rfl ?_
 exact ⟨rfl, rfl⟩
theorem rot11 (x : Int) (W0 : World) (H : List Grp) : Tri Tryz.prog 140 #[.int .u32 x, .int .i64 (-11)] W0 H (fun v H' => v = .int .u32 (rotr x 11) ∧ H' = H) := by
 refine Tri_of (args := [.int .u32 x, .int .i64 (-11)]) (n := 17) Tryz.func140 rfl rfl (Nat.le_of_ble_eq_true rfl) ?_
 refine G_seq ?_
 refine G_pure (E':=[⟨0,[],.int .u32 x⟩,⟨1,[],.int .i64 (-11)⟩]) [0] [0,1] rfl kr ?_
 refine N_then ?_
 refine G_seq ?_
 refine G_pure (E':=[⟨0,[],.int .u32 x⟩,⟨5,[],.int .u64 21⟩]) [0,0,0,0] [0,5] rfl kr ?_
 refine N_then ?_
 refine G_seq ?_
 refine G_pure (E':=[⟨4,[],.int .u32 (IntKind.wrap .u32 ((BitVec.ofInt (IntKind.bits .u32) (IntKind.wrap .u32 (x * 2 ^ 21)) ||| BitVec.ofInt (IntKind.bits .u32) (Int.fdiv x (2 ^ 11))).toNat))⟩]) [0,0,0,0,0,0,0,0,0] [4] rfl kr ?_
 refine N_then ?_
 refine G_ret ?_
 refine N_ret [.tmp 4] [.int .u32 (IntKind.wrap .u32 ((BitVec.ofInt (IntKind.bits .u32) (IntKind.wrap .u32 (x * 2 ^ 21)) ||| BitVec.ofInt (IntKind.bits .u32) (Int.fdiv x (2 ^ 11))).toNat))] rfl kr rfl ?_
 exact ⟨rfl, rfl⟩
theorem rot25 (x : Int) (W0 : World) (H : List Grp) : Tri Tryz.prog 140 #[.int .u32 x, .int .i64 (-25)] W0 H (fun v H' => v = .int .u32 (rotr x 25) ∧ H' = H) := by
 refine Tri_of (args := [.int .u32 x, .int .i64 (-25)]) (n := 17) Tryz.func140 rfl rfl (Nat.le_of_ble_eq_true rfl) ?_
 refine G_seq ?_
 refine G_pure (E':=[⟨0,[],.int .u32 x⟩,⟨1,[],.int .i64 (-25)⟩]) [0] [0,1] rfl kr ?_
 refine N_then ?_
 refine G_seq ?_
 refine G_pure (E':=[⟨0,[],.int .u32 x⟩,⟨5,[],.int .u64 7⟩]) [0,0,0,0] [0,5] rfl kr ?_
 refine N_then ?_
 refine G_seq ?_
 refine G_pure (E':=[⟨4,[],.int .u32 (IntKind.wrap .u32 ((BitVec.ofInt (IntKind.bits .u32) (IntKind.wrap .u32 (x * 2 ^ 7)) ||| BitVec.ofInt (IntKind.bits .u32) (Int.fdiv x (2 ^ 25))).toNat))⟩]) [0,0,0,0,0,0,0,0,0] [4] rfl kr ?_
 refine N_then ?_
 refine G_ret ?_
 refine N_ret [.tmp 4] [.int .u32 (IntKind.wrap .u32 ((BitVec.ofInt (IntKind.bits .u32) (IntKind.wrap .u32 (x * 2 ^ 7)) ||| BitVec.ofInt (IntKind.bits .u32) (Int.fdiv x (2 ^ 25))).toNat))] rfl kr rfl ?_
 exact ⟨rfl, rfl⟩
theorem rot2 (x : Int) (W0 : World) (H : List Grp) : Tri Tryz.prog 140 #[.int .u32 x, .int .i64 (-2)] W0 H (fun v H' => v = .int .u32 (rotr x 2) ∧ H' = H) := by
 refine Tri_of (args := [.int .u32 x, .int .i64 (-2)]) (n := 17) Tryz.func140 rfl rfl (Nat.le_of_ble_eq_true rfl) ?_
 refine G_seq ?_
 refine G_pure (E':=[⟨0,[],.int .u32 x⟩,⟨1,[],.int .i64 (-2)⟩]) [0] [0,1] rfl kr ?_
 refine N_then ?_
 refine G_seq ?_
 refine G_pure (E':=[⟨0,[],.int .u32 x⟩,⟨5,[],.int .u64 30⟩]) [0,0,0,0] [0,5] rfl kr ?_
 refine N_then ?_
 refine G_seq ?_
 refine G_pure (E':=[⟨4,[],.int .u32 (IntKind.wrap .u32 ((BitVec.ofInt (IntKind.bits .u32) (IntKind.wrap .u32 (x * 2 ^ 30)) ||| BitVec.ofInt (IntKind.bits .u32) (Int.fdiv x (2 ^ 2))).toNat))⟩]) [0,0,0,0,0,0,0,0,0] [4] rfl kr ?_
 refine N_then ?_
 refine G_ret ?_
 refine N_ret [.tmp 4] [.int .u32 (IntKind.wrap .u32 ((BitVec.ofInt (IntKind.bits .u32) (IntKind.wrap .u32 (x * 2 ^ 30)) ||| BitVec.ofInt (IntKind.bits .u32) (Int.fdiv x (2 ^ 2))).toNat))] rfl kr rfl ?_
 exact ⟨rfl, rfl⟩
theorem rot13 (x : Int) (W0 : World) (H : List Grp) : Tri Tryz.prog 140 #[.int .u32 x, .int .i64 (-13)] W0 H (fun v H' => v = .int .u32 (rotr x 13) ∧ H' = H) := by
 refine Tri_of (args := [.int .u32 x, .int .i64 (-13)]) (n := 17) Tryz.func140 rfl rfl (Nat.le_of_ble_eq_true rfl) ?_
 refine G_seq ?_
 refine G_pure (E':=[⟨0,[],.int .u32 x⟩,⟨1,[],.int .i64 (-13)⟩]) [0] [0,1] rfl kr ?_
 refine N_then ?_
 refine G_seq ?_
 refine G_pure (E':=[⟨0,[],.int .u32 x⟩,⟨5,[],.int .u64 19⟩]) [0,0,0,0] [0,5] rfl kr ?_
 refine N_then ?_
 refine G_seq ?_
 refine G_pure (E':=[⟨4,[],.int .u32 (IntKind.wrap .u32 ((BitVec.ofInt (IntKind.bits .u32) (IntKind.wrap .u32 (x * 2 ^ 19)) ||| BitVec.ofInt (IntKind.bits .u32) (Int.fdiv x (2 ^ 13))).toNat))⟩]) [0,0,0,0,0,0,0,0,0] [4] rfl kr ?_
 refine N_then ?_
 refine G_ret ?_
 refine N_ret [.tmp 4] [.int .u32 (IntKind.wrap .u32 ((BitVec.ofInt (IntKind.bits .u32) (IntKind.wrap .u32 (x * 2 ^ 19)) ||| BitVec.ofInt (IntKind.bits .u32) (Int.fdiv x (2 ^ 13))).toNat))] rfl kr rfl ?_
 exact ⟨rfl, rfl⟩
theorem rot22 (x : Int) (W0 : World) (H : List Grp) : Tri Tryz.prog 140 #[.int .u32 x, .int .i64 (-22)] W0 H (fun v H' => v = .int .u32 (rotr x 22) ∧ H' = H) := by
 refine Tri_of (args := [.int .u32 x, .int .i64 (-22)]) (n := 17) Tryz.func140 rfl rfl (Nat.le_of_ble_eq_true rfl) ?_
 refine G_seq ?_
 refine G_pure (E':=[⟨0,[],.int .u32 x⟩,⟨1,[],.int .i64 (-22)⟩]) [0] [0,1] rfl kr ?_
 refine N_then ?_
 refine G_seq ?_
 refine G_pure (E':=[⟨0,[],.int .u32 x⟩,⟨5,[],.int .u64 10⟩]) [0,0,0,0] [0,5] rfl kr ?_
 refine N_then ?_
 refine G_seq ?_
 refine G_pure (E':=[⟨4,[],.int .u32 (IntKind.wrap .u32 ((BitVec.ofInt (IntKind.bits .u32) (IntKind.wrap .u32 (x * 2 ^ 10)) ||| BitVec.ofInt (IntKind.bits .u32) (Int.fdiv x (2 ^ 22))).toNat))⟩]) [0,0,0,0,0,0,0,0,0] [4] rfl kr ?_
 refine N_then ?_
 refine G_ret ?_
 refine N_ret [.tmp 4] [.int .u32 (IntKind.wrap .u32 ((BitVec.ofInt (IntKind.bits .u32) (IntKind.wrap .u32 (x * 2 ^ 10)) ||| BitVec.ofInt (IntKind.bits .u32) (Int.fdiv x (2 ^ 22))).toNat))] rfl kr rfl ?_
 exact ⟨rfl, rfl⟩
theorem eight_ (n : Int) (h0 : 0 ≤ n) (h1 : n < 18446744073709551616) (W0 : World) (H : List Grp) : Tri Tryz.prog 124 #[.int .u64 n] W0 H (fun v H' => ∃ g, Go.Sw.Own 5 1 v g 8 (u8s (eightB n)) ∧ H' = g :: H) := by
 refine Tri_of (args := [.int .u64 n]) (n := 17) Tryz.func124 rfl rfl (Nat.le_of_ble_eq_true rfl) ?_
 refine G_seq ?_
 refine G_pure (E':=[⟨0,[],.int .u64 n⟩]) [0] [0] rfl kr ?_
 refine N_then ?_
 refine G_seq ?_
 refine G_pure (E':=[⟨0,[],.int .u64 n⟩,⟨3,[],.slice none 0 0⟩]) [0] [0,3] rfl kr ?_
 refine N_then ?_
 refine G_seq ?_
 refine G_seq ?_
 refine G_pure (E':=[⟨0,[],.int .u64 n⟩,⟨3,[],.slice none 0 0⟩,⟨4,[],.int .i64 56⟩]) [0] [0,3,4] rfl kr ?_
 refine N_then ?_
 refine G_block ?_
 refine G_rounds 9 ?_
 refine GRd_succ ?_
 refine G_seq ?_
 refine G_seq ?_
 refine G_pure (E':=[⟨0,[],.int .u64 n⟩,⟨3,[],.slice none 0 0⟩,⟨4,[],.int .i64 56⟩,⟨6,[],.bool true⟩]) [0,0] [0,3,4,6] rfl kr ?_
 refine N_then ?_
 refine G_condt kr ?_
 refine G_skip ?_
 refine N_then ?_
 refine G_seq ?_
 refine G_block ?_
 refine G_region ?_
 refine GL_p [0,0,0,0,0] kr (j:=5) rfl ?_
 refine GL_buildSlice (i:=5) (ch:=[]) (e:=5) (l:=[(0,.int .u8 (IntKind.wrap .u8 (Int.fdiv n (2 ^ 56))))]) (c:=[.int .u8 (IntKind.wrap .u8 (Int.fdiv n (2 ^ 56)))]) rfl rfl kr kr kr kr kr (fun b1=>?_)
 refine GL_heap rfl (H':=([]::[(b1,.cells #[.int .u8 (IntKind.wrap .u8 (Int.fdiv n (2 ^ 56)))] 5 (0,0))]::H)) (fun w h=>h.flat (List.Perm.refl _)) ?_
 refine GL_append (i:=6) (ch:=[]) (t:=22) (tx:=22) (e:=5) (inf:=Tryz.t5) (s:=.slice none 0 0) (x:=.slice (some ⟨b1,0,none⟩) 1 1) (n:=0) (m:=1) (j:=0) (cs:=[]) (news:=[.int .u8 (IntKind.wrap .u8 (Int.fdiv n (2 ^ 56)))]) (g:=[]) (S:=(inG [(b1,.cells #[.int .u8 (IntKind.wrap .u8 (Int.fdiv n (2 ^ 56)))] 5 (0,0))])) rfl rfl rfl rfl kr kr kr rfl rfl (.inl ⟨5,kr⟩) (fun ⟨_,h⟩=>by cases h) (fun _=>⟨5,kr⟩) kr kr kr rfl Go.Sw.Own.nil (SrcOf.slice _ _ _ _ Rd.lit (fun h=>by cases h)) (at_inG 1 rfl) kr (by intro u hu; simp only [List.mem_cons,List.not_mem_nil,or_false] at hu; rcases hu with rfl; rfl) (by omega) (by show (0+1) * 1 ≤ 140737488355328; omega) (fun v2 g3 hO4=>?_)
 replace hO4 := own_from0 hO4
 refine GL_fin (E':=[⟨0,[],.int .u64 n⟩,⟨3,[],v2⟩,⟨4,[],.int .i64 56⟩]) [0] [0,3,4] rfl kr ?_
 refine N_block ?_
 refine N_then ?_
 refine G_pure (E':=[⟨0,[],.int .u64 n⟩,⟨3,[],v2⟩,⟨4,[],.int .i64 48⟩]) [0,0,0] [0,3,4] rfl kr ?_
 refine N_rd ?_
 refine GRd_succ ?_
 refine G_seq ?_
 refine G_seq ?_
 refine G_pure (E':=[⟨0,[],.int .u64 n⟩,⟨3,[],v2⟩,⟨4,[],.int .i64 48⟩,⟨6,[],.bool true⟩]) [0,0] [0,3,4,6] rfl kr ?_
 refine N_then ?_
 refine G_condt kr ?_
 refine G_skip ?_
 refine N_then ?_
 refine G_seq ?_
 refine G_block ?_
 refine G_region ?_
 refine GL_p [0,0,0,0,0] kr (j:=5) rfl ?_
 refine GL_buildSlice (i:=5) (ch:=[]) (e:=5) (l:=[(0,.int .u8 (IntKind.wrap .u8 (Int.fdiv n (2 ^ 48))))]) (c:=[.int .u8 (IntKind.wrap .u8 (Int.fdiv n (2 ^ 48)))]) rfl rfl kr kr kr kr kr (fun b5=>?_)
 refine GL_append (i:=6) (ch:=[]) (t:=22) (tx:=22) (e:=5) (inf:=Tryz.t5) (s:=v2) (x:=.slice (some ⟨b5,0,none⟩) 1 1) (n:=1) (m:=1) (j:=1) (cs:=[.int .u8 (IntKind.wrap .u8 (Int.fdiv n (2 ^ 56)))]) (news:=[.int .u8 (IntKind.wrap .u8 (Int.fdiv n (2 ^ 48)))]) (g:=g3) (S:=(inG [(b5,.cells #[.int .u8 (IntKind.wrap .u8 (Int.fdiv n (2 ^ 48)))] 5 (0,0))])) rfl rfl rfl rfl kr kr kr rfl rfl (.inl ⟨5,kr⟩) (fun ⟨_,h⟩=>by cases h) (fun _=>⟨5,kr⟩) kr kr kr rfl hO4 (SrcOf.slice _ _ _ _ Rd.lit (fun h=>by cases h)) (at_inG 0 rfl) kr (by intro u hu; simp only [List.mem_cons,List.not_mem_nil,or_false] at hu; rcases hu with rfl; rfl) (by omega) (by show (1+1) * 1 ≤ 140737488355328; omega) (fun v6 g7 hO8=>?_)
 refine GL_fin (E':=[⟨0,[],.int .u64 n⟩,⟨3,[],v6⟩,⟨4,[],.int .i64 48⟩]) [0] [0,3,4] rfl kr ?_
 refine N_block ?_
 refine N_then ?_
 refine G_pure (E':=[⟨0,[],.int .u64 n⟩,⟨3,[],v6⟩,⟨4,[],.int .i64 40⟩]) [0,0,0] [0,3,4] rfl kr ?_
 refine N_rd ?_
 refine GRd_succ ?_
 refine G_seq ?_
 refine G_seq ?_
 refine G_pure (E':=[⟨0,[],.int .u64 n⟩,⟨3,[],v6⟩,⟨4,[],.int .i64 40⟩,⟨6,[],.bool true⟩]) [0,0] [0,3,4,6] rfl kr ?_
 refine N_then ?_
 refine G_condt kr ?_
 refine G_skip ?_
 refine N_then ?_
 refine G_seq ?_
 refine G_block ?_
 refine G_region ?_
 refine GL_p [0,0,0,0,0] kr (j:=5) rfl ?_
 refine GL_buildSlice (i:=5) (ch:=[]) (e:=5) (l:=[(0,.int .u8 (IntKind.wrap .u8 (Int.fdiv n (2 ^ 40))))]) (c:=[.int .u8 (IntKind.wrap .u8 (Int.fdiv n (2 ^ 40)))]) rfl rfl kr kr kr kr kr (fun b9=>?_)
 refine GL_append (i:=6) (ch:=[]) (t:=22) (tx:=22) (e:=5) (inf:=Tryz.t5) (s:=v6) (x:=.slice (some ⟨b9,0,none⟩) 1 1) (n:=(1+1)) (m:=1) (j:=2) (cs:=([.int .u8 (IntKind.wrap .u8 (Int.fdiv n (2 ^ 56)))]++[.int .u8 (IntKind.wrap .u8 (Int.fdiv n (2 ^ 48)))])) (news:=[.int .u8 (IntKind.wrap .u8 (Int.fdiv n (2 ^ 40)))]) (g:=g7) (S:=(inG [(b9,.cells #[.int .u8 (IntKind.wrap .u8 (Int.fdiv n (2 ^ 40)))] 5 (0,0))])) rfl rfl rfl rfl kr kr kr rfl rfl (.inl ⟨5,kr⟩) (fun ⟨_,h⟩=>by cases h) (fun _=>⟨5,kr⟩) kr kr kr rfl hO8 (SrcOf.slice _ _ _ _ Rd.lit (fun h=>by cases h)) (at_inG 0 rfl) kr (by intro u hu; simp only [List.mem_cons,List.not_mem_nil,or_false] at hu; rcases hu with rfl; rfl) (by omega) (by show ((1+1)+1) * 1 ≤ 140737488355328; omega) (fun v10 g11 hO12=>?_)
 refine GL_fin (E':=[⟨0,[],.int .u64 n⟩,⟨3,[],v10⟩,⟨4,[],.int .i64 40⟩]) [0] [0,3,4] rfl kr ?_
 refine N_block ?_
 refine N_then ?_
 refine G_pure (E':=[⟨0,[],.int .u64 n⟩,⟨3,[],v10⟩,⟨4,[],.int .i64 32⟩]) [0,0,0] [0,3,4] rfl kr ?_
 refine N_rd ?_
 refine GRd_succ ?_
 refine G_seq ?_
 refine G_seq ?_
 refine G_pure (E':=[⟨0,[],.int .u64 n⟩,⟨3,[],v10⟩,⟨4,[],.int .i64 32⟩,⟨6,[],.bool true⟩]) [0,0] [0,3,4,6] rfl kr ?_
 refine N_then ?_
 refine G_condt kr ?_
 refine G_skip ?_
 refine N_then ?_
 refine G_seq ?_
 refine G_block ?_
 refine G_region ?_
 refine GL_p [0,0,0,0,0] kr (j:=5) rfl ?_
 refine GL_buildSlice (i:=5) (ch:=[]) (e:=5) (l:=[(0,.int .u8 (IntKind.wrap .u8 (Int.fdiv n (2 ^ 32))))]) (c:=[.int .u8 (IntKind.wrap .u8 (Int.fdiv n (2 ^ 32)))]) rfl rfl kr kr kr kr kr (fun b13=>?_)
 refine GL_append (i:=6) (ch:=[]) (t:=22) (tx:=22) (e:=5) (inf:=Tryz.t5) (s:=v10) (x:=.slice (some ⟨b13,0,none⟩) 1 1) (n:=((1+1)+1)) (m:=1) (j:=3) (cs:=(([.int .u8 (IntKind.wrap .u8 (Int.fdiv n (2 ^ 56)))]++[.int .u8 (IntKind.wrap .u8 (Int.fdiv n (2 ^ 48)))])++[.int .u8 (IntKind.wrap .u8 (Int.fdiv n (2 ^ 40)))])) (news:=[.int .u8 (IntKind.wrap .u8 (Int.fdiv n (2 ^ 32)))]) (g:=g11) (S:=(inG [(b13,.cells #[.int .u8 (IntKind.wrap .u8 (Int.fdiv n (2 ^ 32)))] 5 (0,0))])) rfl rfl rfl rfl kr kr kr rfl rfl (.inl ⟨5,kr⟩) (fun ⟨_,h⟩=>by cases h) (fun _=>⟨5,kr⟩) kr kr kr rfl hO12 (SrcOf.slice _ _ _ _ Rd.lit (fun h=>by cases h)) (at_inG 0 rfl) kr (by intro u hu; simp only [List.mem_cons,List.not_mem_nil,or_false] at hu; rcases hu with rfl; rfl) (by omega) (by show (((1+1)+1)+1) * 1 ≤ 140737488355328; omega) (fun v14 g15 hO16=>?_)
 refine GL_fin (E':=[⟨0,[],.int .u64 n⟩,⟨3,[],v14⟩,⟨4,[],.int .i64 32⟩]) [0] [0,3,4] rfl kr ?_
 refine N_block ?_
 refine N_then ?_
 refine G_pure (E':=[⟨0,[],.int .u64 n⟩,⟨3,[],v14⟩,⟨4,[],.int .i64 24⟩]) [0,0,0] [0,3,4] rfl kr ?_
 refine N_rd ?_
 refine GRd_succ ?_
 refine G_seq ?_
 refine G_seq ?_
 refine G_pure (E':=[⟨0,[],.int .u64 n⟩,⟨3,[],v14⟩,⟨4,[],.int .i64 24⟩,⟨6,[],.bool true⟩]) [0,0] [0,3,4,6] rfl kr ?_
 refine N_then ?_
 refine G_condt kr ?_
 refine G_skip ?_
 refine N_then ?_
 refine G_seq ?_
 refine G_block ?_
 refine G_region ?_
 refine GL_p [0,0,0,0,0] kr (j:=5) rfl ?_
 refine GL_buildSlice (i:=5) (ch:=[]) (e:=5) (l:=[(0,.int .u8 (IntKind.wrap .u8 (Int.fdiv n (2 ^ 24))))]) (c:=[.int .u8 (IntKind.wrap .u8 (Int.fdiv n (2 ^ 24)))]) rfl rfl kr kr kr kr kr (fun b17=>?_)
 refine GL_append (i:=6) (ch:=[]) (t:=22) (tx:=22) (e:=5) (inf:=Tryz.t5) (s:=v14) (x:=.slice (some ⟨b17,0,none⟩) 1 1) (n:=(((1+1)+1)+1)) (m:=1) (j:=4) (cs:=((([.int .u8 (IntKind.wrap .u8 (Int.fdiv n (2 ^ 56)))]++[.int .u8 (IntKind.wrap .u8 (Int.fdiv n (2 ^ 48)))])++[.int .u8 (IntKind.wrap .u8 (Int.fdiv n (2 ^ 40)))])++[.int .u8 (IntKind.wrap .u8 (Int.fdiv n (2 ^ 32)))])) (news:=[.int .u8 (IntKind.wrap .u8 (Int.fdiv n (2 ^ 24)))]) (g:=g15) (S:=(inG [(b17,.cells #[.int .u8 (IntKind.wrap .u8 (Int.fdiv n (2 ^ 24)))] 5 (0,0))])) rfl rfl rfl rfl kr kr kr rfl rfl (.inl ⟨5,kr⟩) (fun ⟨_,h⟩=>by cases h) (fun _=>⟨5,kr⟩) kr kr kr rfl hO16 (SrcOf.slice _ _ _ _ Rd.lit (fun h=>by cases h)) (at_inG 0 rfl) kr (by intro u hu; simp only [List.mem_cons,List.not_mem_nil,or_false] at hu; rcases hu with rfl; rfl) (by omega) (by show ((((1+1)+1)+1)+1) * 1 ≤ 140737488355328; omega) (fun v18 g19 hO20=>?_)
 refine GL_fin (E':=[⟨0,[],.int .u64 n⟩,⟨3,[],v18⟩,⟨4,[],.int .i64 24⟩]) [0] [0,3,4] rfl kr ?_
 refine N_block ?_
 refine N_then ?_
 refine G_pure (E':=[⟨0,[],.int .u64 n⟩,⟨3,[],v18⟩,⟨4,[],.int .i64 16⟩]) [0,0,0] [0,3,4] rfl kr ?_
 refine N_rd ?_
 refine GRd_succ ?_
 refine G_seq ?_
 refine G_seq ?_
 refine G_pure (E':=[⟨0,[],.int .u64 n⟩,⟨3,[],v18⟩,⟨4,[],.int .i64 16⟩,⟨6,[],.bool true⟩]) [0,0] [0,3,4,6] rfl kr ?_
 refine N_then ?_
 refine G_condt kr ?_
 refine G_skip ?_
 refine N_then ?_
 refine G_seq ?_
 refine G_block ?_
 refine G_region ?_
 refine GL_p [0,0,0,0,0] kr (j:=5) rfl ?_
 refine GL_buildSlice (i:=5) (ch:=[]) (e:=5) (l:=[(0,.int .u8 (IntKind.wrap .u8 (Int.fdiv n (2 ^ 16))))]) (c:=[.int .u8 (IntKind.wrap .u8 (Int.fdiv n (2 ^ 16)))]) rfl rfl kr kr kr kr kr (fun b21=>?_)
 refine GL_append (i:=6) (ch:=[]) (t:=22) (tx:=22) (e:=5) (inf:=Tryz.t5) (s:=v18) (x:=.slice (some ⟨b21,0,none⟩) 1 1) (n:=((((1+1)+1)+1)+1)) (m:=1) (j:=5) (cs:=(((([.int .u8 (IntKind.wrap .u8 (Int.fdiv n (2 ^ 56)))]++[.int .u8 (IntKind.wrap .u8 (Int.fdiv n (2 ^ 48)))])++[.int .u8 (IntKind.wrap .u8 (Int.fdiv n (2 ^ 40)))])++[.int .u8 (IntKind.wrap .u8 (Int.fdiv n (2 ^ 32)))])++[.int .u8 (IntKind.wrap .u8 (Int.fdiv n (2 ^ 24)))])) (news:=[.int .u8 (IntKind.wrap .u8 (Int.fdiv n (2 ^ 16)))]) (g:=g19) (S:=(inG [(b21,.cells #[.int .u8 (IntKind.wrap .u8 (Int.fdiv n (2 ^ 16)))] 5 (0,0))])) rfl rfl rfl rfl kr kr kr rfl rfl (.inl ⟨5,kr⟩) (fun ⟨_,h⟩=>by cases h) (fun _=>⟨5,kr⟩) kr kr kr rfl hO20 (SrcOf.slice _ _ _ _ Rd.lit (fun h=>by cases h)) (at_inG 0 rfl) kr (by intro u hu; simp only [List.mem_cons,List.not_mem_nil,or_false] at hu; rcases hu with rfl; rfl) (by omega) (by show (((((1+1)+1)+1)+1)+1) * 1 ≤ 140737488355328; omega) (fun v22 g23 hO24=>?_)
 refine GL_fin (E':=[⟨0,[],.int .u64 n⟩,⟨3,[],v22⟩,⟨4,[],.int .i64 16⟩]) [0] [0,3,4] rfl kr ?_
 refine N_block ?_
 refine N_then ?_
 refine G_pure (E':=[⟨0,[],.int .u64 n⟩,⟨3,[],v22⟩,⟨4,[],.int .i64 8⟩]) [0,0,0] [0,3,4] rfl kr ?_
 refine N_rd ?_
 refine GRd_succ ?_
 refine G_seq ?_
 refine G_seq ?_
 refine G_pure (E':=[⟨0,[],.int .u64 n⟩,⟨3,[],v22⟩,⟨4,[],.int .i64 8⟩,⟨6,[],.bool true⟩]) [0,0] [0,3,4,6] rfl kr ?_
 refine N_then ?_
 refine G_condt kr ?_
 refine G_skip ?_
 refine N_then ?_
 refine G_seq ?_
 refine G_block ?_
 refine G_region ?_
 refine GL_p [0,0,0,0,0] kr (j:=5) rfl ?_
 refine GL_buildSlice (i:=5) (ch:=[]) (e:=5) (l:=[(0,.int .u8 (IntKind.wrap .u8 (Int.fdiv n (2 ^ 8))))]) (c:=[.int .u8 (IntKind.wrap .u8 (Int.fdiv n (2 ^ 8)))]) rfl rfl kr kr kr kr kr (fun b25=>?_)
 refine GL_append (i:=6) (ch:=[]) (t:=22) (tx:=22) (e:=5) (inf:=Tryz.t5) (s:=v22) (x:=.slice (some ⟨b25,0,none⟩) 1 1) (n:=(((((1+1)+1)+1)+1)+1)) (m:=1) (j:=6) (cs:=((((([.int .u8 (IntKind.wrap .u8 (Int.fdiv n (2 ^ 56)))]++[.int .u8 (IntKind.wrap .u8 (Int.fdiv n (2 ^ 48)))])++[.int .u8 (IntKind.wrap .u8 (Int.fdiv n (2 ^ 40)))])++[.int .u8 (IntKind.wrap .u8 (Int.fdiv n (2 ^ 32)))])++[.int .u8 (IntKind.wrap .u8 (Int.fdiv n (2 ^ 24)))])++[.int .u8 (IntKind.wrap .u8 (Int.fdiv n (2 ^ 16)))])) (news:=[.int .u8 (IntKind.wrap .u8 (Int.fdiv n (2 ^ 8)))]) (g:=g23) (S:=(inG [(b25,.cells #[.int .u8 (IntKind.wrap .u8 (Int.fdiv n (2 ^ 8)))] 5 (0,0))])) rfl rfl rfl rfl kr kr kr rfl rfl (.inl ⟨5,kr⟩) (fun ⟨_,h⟩=>by cases h) (fun _=>⟨5,kr⟩) kr kr kr rfl hO24 (SrcOf.slice _ _ _ _ Rd.lit (fun h=>by cases h)) (at_inG 0 rfl) kr (by intro u hu; simp only [List.mem_cons,List.not_mem_nil,or_false] at hu; rcases hu with rfl; rfl) (by omega) (by show ((((((1+1)+1)+1)+1)+1)+1) * 1 ≤ 140737488355328; omega) (fun v26 g27 hO28=>?_)
 refine GL_fin (E':=[⟨0,[],.int .u64 n⟩,⟨3,[],v26⟩,⟨4,[],.int .i64 8⟩]) [0] [0,3,4] rfl kr ?_
 refine N_block ?_
 refine N_then ?_
 refine G_pure (E':=[⟨0,[],.int .u64 n⟩,⟨3,[],v26⟩,⟨4,[],.int .i64 0⟩]) [0,0,0] [0,3,4] rfl kr ?_
 refine N_rd ?_
 refine GRd_succ ?_
 refine G_seq ?_
 refine G_seq ?_
 refine G_pure (E':=[⟨0,[],.int .u64 n⟩,⟨3,[],v26⟩,⟨4,[],.int .i64 0⟩,⟨6,[],.bool true⟩]) [0,0] [0,3,4,6] rfl kr ?_
 refine N_then ?_
 refine G_condt kr ?_
 refine G_skip ?_
 refine N_then ?_
 refine G_seq ?_
 refine G_block ?_
 refine G_region ?_
 refine GL_p [0,0,0,0,0] kr (j:=5) rfl ?_
 refine GL_buildSlice (i:=5) (ch:=[]) (e:=5) (l:=[(0,.int .u8 (IntKind.wrap .u8 (Int.fdiv n (2 ^ 0))))]) (c:=[.int .u8 (IntKind.wrap .u8 (Int.fdiv n (2 ^ 0)))]) rfl rfl kr kr kr kr kr (fun b29=>?_)
 refine GL_append (i:=6) (ch:=[]) (t:=22) (tx:=22) (e:=5) (inf:=Tryz.t5) (s:=v26) (x:=.slice (some ⟨b29,0,none⟩) 1 1) (n:=((((((1+1)+1)+1)+1)+1)+1)) (m:=1) (j:=7) (cs:=(((((([.int .u8 (IntKind.wrap .u8 (Int.fdiv n (2 ^ 56)))]++[.int .u8 (IntKind.wrap .u8 (Int.fdiv n (2 ^ 48)))])++[.int .u8 (IntKind.wrap .u8 (Int.fdiv n (2 ^ 40)))])++[.int .u8 (IntKind.wrap .u8 (Int.fdiv n (2 ^ 32)))])++[.int .u8 (IntKind.wrap .u8 (Int.fdiv n (2 ^ 24)))])++[.int .u8 (IntKind.wrap .u8 (Int.fdiv n (2 ^ 16)))])++[.int .u8 (IntKind.wrap .u8 (Int.fdiv n (2 ^ 8)))])) (news:=[.int .u8 (IntKind.wrap .u8 (Int.fdiv n (2 ^ 0)))]) (g:=g27) (S:=(inG [(b29,.cells #[.int .u8 (IntKind.wrap .u8 (Int.fdiv n (2 ^ 0)))] 5 (0,0))])) rfl rfl rfl rfl kr kr kr rfl rfl (.inl ⟨5,kr⟩) (fun ⟨_,h⟩=>by cases h) (fun _=>⟨5,kr⟩) kr kr kr rfl hO28 (SrcOf.slice _ _ _ _ Rd.lit (fun h=>by cases h)) (at_inG 0 rfl) kr (by intro u hu; simp only [List.mem_cons,List.not_mem_nil,or_false] at hu; rcases hu with rfl; rfl) (by omega) (by show (((((((1+1)+1)+1)+1)+1)+1)+1) * 1 ≤ 140737488355328; omega) (fun v30 g31 hO32=>?_)
 refine GL_fin (E':=[⟨0,[],.int .u64 n⟩,⟨3,[],v30⟩,⟨4,[],.int .i64 0⟩]) [0] [0,3,4] rfl kr ?_
 refine N_block ?_
 refine N_then ?_
 refine G_pure (E':=[⟨0,[],.int .u64 n⟩,⟨3,[],v30⟩,⟨4,[],.int .i64 (-8)⟩]) [0,0,0] [0,3,4] rfl kr ?_
 refine N_rd ?_
 refine GRd_succ ?_
 refine G_seq ?_
 refine G_seq ?_
 refine G_pure (E':=[⟨0,[],.int .u64 n⟩,⟨3,[],v30⟩,⟨4,[],.int .i64 (-8)⟩,⟨6,[],.bool false⟩]) [0,0] [0,3,4,6] rfl kr ?_
 refine N_then ?_
 refine G_condf kr ?_
 refine G_exit ?_
 refine N_then_exit ?_
 refine N_then_exit ?_
 refine N_block_exit ?_
 refine N_then ?_
 refine G_seq ?_
 refine G_pure (E':=[⟨2,[],v30⟩]) [0,0] [2] rfl kr ?_
 refine N_then ?_
 refine G_ret ?_
 refine N_heap (H':=(g31::H)) (fun w h=>((((((((h.erase 8).erase 6).erase 5).erase 4).erase 3).erase 2).erase 1).erase 0)) ?_
 refine N_ret [.tmp 2] [v30] rfl kr rfl ?_
 exact ⟨_, own_eight n hO32 rfl (by rw [eight_cells]; rfl), rfl⟩
end Go.Proofs.YtlaoeiaaeifidaaGreat
namespace Go.Proofs.YtlaoeiaaeifidaaGreat
open Go.Sw Go.Sha
theorem beginnings_  (W0 : World) (H : List Grp) : Tri Tryz.prog 125 #[] W0 H (fun v H' => v = hIni.v ∧ H' = H) := by
 refine Tri_of (args := []) (n := 2) Tryz.func125 rfl rfl (Nat.le_of_ble_eq_true rfl) ?_
 refine G_seq ?_
 refine G_region ?_
 refine GL_alloc (i:=0) (ch:=[]) (z:=.agg #[.int .u32 0,.int .u32 0,.int .u32 0,.int .u32 0,.int .u32 0,.int .u32 0,.int .u32 0,.int .u32 0]) rfl rfl kr kr kr kr (fun b1=>?_)
 refine GL_fin (E':=[⟨0,[],pt b1⟩]) [] [0] rfl kr ?_
 refine N_then ?_
 refine G_seq ?_
 refine G_region ?_
 refine GL_p [0] kr (j:=1) rfl ?_
 refine GL_st (i:=1) (ch:=[]) (b:=b1) (off:=0) (v:=.agg #[.int .u32 1779033703,.int .u32 3144134277,.int .u32 1013904242,.int .u32 2773480762,.int .u32 1359893119,.int .u32 2600822924,.int .u32 528734635,.int .u32 1541459225]) (j:=0) ([(b1,.cells #[.int .u32 1779033703,.int .u32 3144134277,.int .u32 1013904242,.int .u32 2773480762,.int .u32 1359893119,.int .u32 2600822924,.int .u32 528734635,.int .u32 1541459225] 169 (0,0))]::H) rfl rfl kr kr kr kr kr kr kr rfl rfl (Nat.le_of_ble_eq_true rfl) (fun _ _=>thaw0) kr ?_
 refine GL_fin (E':=[⟨0,[],pt b1⟩]) [] [0] rfl kr ?_
 refine N_then ?_
 refine G_ret ?_
 refine N_retC [.cell 0 169] [.agg #[.int .u32 1779033703,.int .u32 3144134277,.int .u32 1013904242,.int .u32 2773480762,.int .u32 1359893119,.int .u32 2600822924,.int .u32 528734635,.int .u32 1541459225]] rfl (.cons (.agg (b:=b1) (off:=0) (l:=[.int .u32 1779033703,.int .u32 3144134277,.int .u32 1013904242,.int .u32 2773480762,.int .u32 1359893119,.int .u32 2600822924,.int .u32 528734635,.int .u32 1541459225]) kr kr kr (At.grp 0 0 rfl rfl) kr) (.nil)) rfl ⟨H,?_,fun w h=>(h.erase 0)⟩
 exact ⟨rfl, rfl⟩
theorem rounds_  (W0 : World) (H : List Grp) : Tri Tryz.prog 126 #[] W0 H (fun v H' => v = .agg kArr ∧ H' = H) := by
 refine Tri_of (args := []) (n := 2) Tryz.func126 rfl rfl (Nat.le_of_ble_eq_true rfl) ?_
 refine G_seq ?_
 refine G_region ?_
 refine GL_alloc (i:=0) (ch:=[]) (z:=.agg #[.int .u32 0,.int .u32 0,.int .u32 0,.int .u32 0,.int .u32 0,.int .u32 0,.int .u32 0,.int .u32 0,.int .u32 0,.int .u32 0,.int .u32 0,.int .u32 0,.int .u32 0,.int .u32 0,.int .u32 0,.int .u32 0,.int .u32 0,.int .u32 0,.int .u32 0,.int .u32 0,.int .u32 0,.int .u32 0,.int .u32 0,.int .u32 0,.int .u32 0,.int .u32 0,.int .u32 0,.int .u32 0,.int .u32 0,.int .u32 0,.int .u32 0,.int .u32 0,.int .u32 0,.int .u32 0,.int .u32 0,.int .u32 0,.int .u32 0,.int .u32 0,.int .u32 0,.int .u32 0,.int .u32 0,.int .u32 0,.int .u32 0,.int .u32 0,.int .u32 0,.int .u32 0,.int .u32 0,.int .u32 0,.int .u32 0,.int .u32 0,.int .u32 0,.int .u32 0,.int .u32 0,.int .u32 0,.int .u32 0,.int .u32 0,.int .u32 0,.int .u32 0,.int .u32 0,.int .u32 0,.int .u32 0,.int .u32 0,.int .u32 0,.int .u32 0]) rfl rfl kr kr kr kr (fun b1=>?_)
 refine GL_fin (E':=[⟨0,[],pt b1⟩]) [] [0] rfl kr ?_
 refine N_then ?_
 refine G_seq ?_
 refine G_region ?_
 refine GL_p [0] kr (j:=1) rfl ?_
 refine GL_st (i:=1) (ch:=[]) (b:=b1) (off:=0) (v:=.agg #[.int .u32 1116352408,.int .u32 1899447441,.int .u32 3049323471,.int .u32 3921009573,.int .u32 961987163,.int .u32 1508970993,.int .u32 2453635748,.int .u32 2870763221,.int .u32 3624381080,.int .u32 310598401,.int .u32 607225278,.int .u32 1426881987,.int .u32 1925078388,.int .u32 2162078206,.int .u32 2614888103,.int .u32 3248222580,.int .u32 3835390401,.int .u32 4022224774,.int .u32 264347078,.int .u32 604807628,.int .u32 770255983,.int .u32 1249150122,.int .u32 1555081692,.int .u32 1996064986,.int .u32 2554220882,.int .u32 2821834349,.int .u32 2952996808,.int .u32 3210313671,.int .u32 3336571891,.int .u32 3584528711,.int .u32 113926993,.int .u32 338241895,.int .u32 666307205,.int .u32 773529912,.int .u32 1294757372,.int .u32 1396182291,.int .u32 1695183700,.int .u32 1986661051,.int .u32 2177026350,.int .u32 2456956037,.int .u32 2730485921,.int .u32 2820302411,.int .u32 3259730800,.int .u32 3345764771,.int .u32 3516065817,.int .u32 3600352804,.int .u32 4094571909,.int .u32 275423344,.int .u32 430227734,.int .u32 506948616,.int .u32 659060556,.int .u32 883997877,.int .u32 958139571,.int .u32 1322822218,.int .u32 1537002063,.int .u32 1747873779,.int .u32 1955562222,.int .u32 2024104815,.int .u32 2227730452,.int .u32 2361852424,.int .u32 2428436474,.int .u32 2756734187,.int .u32 3204031479,.int .u32 3329325298]) (j:=0) ([(b1,.cells #[.int .u32 1116352408,.int .u32 1899447441,.int .u32 3049323471,.int .u32 3921009573,.int .u32 961987163,.int .u32 1508970993,.int .u32 2453635748,.int .u32 2870763221,.int .u32 3624381080,.int .u32 310598401,.int .u32 607225278,.int .u32 1426881987,.int .u32 1925078388,.int .u32 2162078206,.int .u32 2614888103,.int .u32 3248222580,.int .u32 3835390401,.int .u32 4022224774,.int .u32 264347078,.int .u32 604807628,.int .u32 770255983,.int .u32 1249150122,.int .u32 1555081692,.int .u32 1996064986,.int .u32 2554220882,.int .u32 2821834349,.int .u32 2952996808,.int .u32 3210313671,.int .u32 3336571891,.int .u32 3584528711,.int .u32 113926993,.int .u32 338241895,.int .u32 666307205,.int .u32 773529912,.int .u32 1294757372,.int .u32 1396182291,.int .u32 1695183700,.int .u32 1986661051,.int .u32 2177026350,.int .u32 2456956037,.int .u32 2730485921,.int .u32 2820302411,.int .u32 3259730800,.int .u32 3345764771,.int .u32 3516065817,.int .u32 3600352804,.int .u32 4094571909,.int .u32 275423344,.int .u32 430227734,.int .u32 506948616,.int .u32 659060556,.int .u32 883997877,.int .u32 958139571,.int .u32 1322822218,.int .u32 1537002063,.int .u32 1747873779,.int .u32 1955562222,.int .u32 2024104815,.int .u32 2227730452,.int .u32 2361852424,.int .u32 2428436474,.int .u32 2756734187,.int .u32 3204031479,.int .u32 3329325298] 171 (0,0))]::H) rfl rfl kr kr kr kr kr kr kr rfl rfl (Nat.le_of_ble_eq_true rfl) (fun _ _=>thaw0) kr ?_
 refine GL_fin (E':=[⟨0,[],pt b1⟩]) [] [0] rfl kr ?_
 refine N_then ?_
 refine G_ret ?_
 refine N_retC [.cell 0 171] [.agg #[.int .u32 1116352408,.int .u32 1899447441,.int .u32 3049323471,.int .u32 3921009573,.int .u32 961987163,.int .u32 1508970993,.int .u32 2453635748,.int .u32 2870763221,.int .u32 3624381080,.int .u32 310598401,.int .u32 607225278,.int .u32 1426881987,.int .u32 1925078388,.int .u32 2162078206,.int .u32 2614888103,.int .u32 3248222580,.int .u32 3835390401,.int .u32 4022224774,.int .u32 264347078,.int .u32 604807628,.int .u32 770255983,.int .u32 1249150122,.int .u32 1555081692,.int .u32 1996064986,.int .u32 2554220882,.int .u32 2821834349,.int .u32 2952996808,.int .u32 3210313671,.int .u32 3336571891,.int .u32 3584528711,.int .u32 113926993,.int .u32 338241895,.int .u32 666307205,.int .u32 773529912,.int .u32 1294757372,.int .u32 1396182291,.int .u32 1695183700,.int .u32 1986661051,.int .u32 2177026350,.int .u32 2456956037,.int .u32 2730485921,.int .u32 2820302411,.int .u32 3259730800,.int .u32 3345764771,.int .u32 3516065817,.int .u32 3600352804,.int .u32 4094571909,.int .u32 275423344,.int .u32 430227734,.int .u32 506948616,.int .u32 659060556,.int .u32 883997877,.int .u32 958139571,.int .u32 1322822218,.int .u32 1537002063,.int .u32 1747873779,.int .u32 1955562222,.int .u32 2024104815,.int .u32 2227730452,.int .u32 2361852424,.int .u32 2428436474,.int .u32 2756734187,.int .u32 3204031479,.int .u32 3329325298]] rfl (.cons (.agg (b:=b1) (off:=0) (l:=[.int .u32 1116352408,.int .u32 1899447441,.int .u32 3049323471,.int .u32 3921009573,.int .u32 961987163,.int .u32 1508970993,.int .u32 2453635748,.int .u32 2870763221,.int .u32 3624381080,.int .u32 310598401,.int .u32 607225278,.int .u32 1426881987,.int .u32 1925078388,.int .u32 2162078206,.int .u32 2614888103,.int .u32 3248222580,.int .u32 3835390401,.int .u32 4022224774,.int .u32 264347078,.int .u32 604807628,.int .u32 770255983,.int .u32 1249150122,.int .u32 1555081692,.int .u32 1996064986,.int .u32 2554220882,.int .u32 2821834349,.int .u32 2952996808,.int .u32 3210313671,.int .u32 3336571891,.int .u32 3584528711,.int .u32 113926993,.int .u32 338241895,.int .u32 666307205,.int .u32 773529912,.int .u32 1294757372,.int .u32 1396182291,.int .u32 1695183700,.int .u32 1986661051,.int .u32 2177026350,.int .u32 2456956037,.int .u32 2730485921,.int .u32 2820302411,.int .u32 3259730800,.int .u32 3345764771,.int .u32 3516065817,.int .u32 3600352804,.int .u32 4094571909,.int .u32 275423344,.int .u32 430227734,.int .u32 506948616,.int .u32 659060556,.int .u32 883997877,.int .u32 958139571,.int .u32 1322822218,.int .u32 1537002063,.int .u32 1747873779,.int .u32 1955562222,.int .u32 2024104815,.int .u32 2227730452,.int .u32 2361852424,.int .u32 2428436474,.int .u32 2756734187,.int .u32 3204031479,.int .u32 3329325298]) kr kr kr (At.grp 0 0 rfl rfl) kr) (.nil)) rfl ⟨H,?_,fun w h=>(h.erase 0)⟩
 exact ⟨rfl, rfl⟩
theorem block_ (s : S8) (ba : Option Addr) (bc : Nat) (S : Nat → Obj → Prop) (l : List UInt8) (hl : l.length = 64) (hrd : Rd S ba (u8s l)) (W0 : World) (H : List Grp) (hS : ∀ y o, S y o → At W0 H y o) : Tri Tryz.prog 128 #[.agg #[.int .u32 s.a, .int .u32 s.b, .int .u32 s.c, .int .u32 s.d, .int .u32 s.e, .int .u32 s.f, .int .u32 s.g, .int .u32 s.h], .slice ba 64 bc, (.agg kArr)] W0 H (fun v H' => v = (compress (byt l) s).v ∧ H' = H) := by
 refine Tri_of (args := [.agg #[.int .u32 s.a, .int .u32 s.b, .int .u32 s.c, .int .u32 s.d, .int .u32 s.e, .int .u32 s.f, .int .u32 s.g, .int .u32 s.h], .slice ba 64 bc, (.agg kArr)]) (n := 192) Tryz.func128 rfl rfl (Nat.le_of_ble_eq_true rfl) ?_
 refine G_seq ?_
 refine G_region ?_
 refine GL_box (i:=0) (ch:=[]) (v:=.agg #[.int .u32 s.a,.int .u32 s.b,.int .u32 s.c,.int .u32 s.d,.int .u32 s.e,.int .u32 s.f,.int .u32 s.g,.int .u32 s.h]) rfl rfl kr kr kr kr (fun b1=>?_)
 refine GL_box (i:=1) (ch:=[]) (v:=.agg kArr) rfl rfl kr kr kr kr (fun b2=>?_)
 refine GL_alloc (i:=2) (ch:=[]) (z:=.agg #[.int .u32 0,.int .u32 0,.int .u32 0,.int .u32 0,.int .u32 0,.int .u32 0,.int .u32 0,.int .u32 0]) rfl rfl kr kr kr kr (fun b3=>?_)
 refine GL_fin (E':=[⟨1,[],.slice ba 64 bc⟩,⟨3,[],pt b1⟩,⟨5,[],pt b2⟩,⟨6,[],pt b3⟩]) [] [1,3,5,6] rfl kr ?_
 refine N_then ?_
 refine G_seq ?_
 refine G_region ?_
 refine GL_alloc (i:=0) (ch:=[]) (z:=.agg (wArr (byt l) 0)) rfl rfl kr kr kr kr (fun b4=>?_)
 refine GL_fin (E':=[⟨1,[],.slice ba 64 bc⟩,⟨3,[],pt b1⟩,⟨5,[],pt b2⟩,⟨6,[],pt b3⟩,⟨7,[],pt b4⟩]) [] [1,3,5,6,7] rfl kr ?_
 refine N_then ?_
 refine G_seq ?_
 refine G_seq ?_
 refine G_pure (E':=[⟨1,[],.slice ba 64 bc⟩,⟨3,[],pt b1⟩,⟨5,[],pt b2⟩,⟨6,[],pt b3⟩,⟨7,[],pt b4⟩,⟨22,[],.int .i64 0⟩]) [0] [1,3,5,6,7,22] rfl kr ?_
 refine N_then ?_
 refine G_block ?_
 refine G_loop (EI:=(fun ξ : Nat=>[⟨1,[],.slice ba 64 bc⟩,⟨3,[],pt b1⟩,⟨5,[],pt b2⟩,⟨6,[],pt b3⟩,⟨7,[],pt b4⟩,⟨22,[],.int .i64 ((ξ : Nat) : Int)⟩])) (HI:=(fun ξ : Nat=>([(b4,.cells (wArr (byt l) ξ) 171 (0,0))]::[(b3,.cells #[.int .u32 0,.int .u32 0,.int .u32 0,.int .u32 0,.int .u32 0,.int .u32 0,.int .u32 0,.int .u32 0] 169 (0,0))]::[(b2,.cells kArr 171 (0,0))]::[(b1,.cells #[.int .u32 s.a,.int .u32 s.b,.int .u32 s.c,.int .u32 s.d,.int .u32 s.e,.int .u32 s.f,.int .u32 s.g,.int .u32 s.h] 169 (0,0))]::H))) (Φ:=(fun ξ : Nat=>(ξ ≤ 64))) (μ:=(fun ξ : Nat=>64 - ξ)) (s0:=(0)) [1,3,5,6,7,22] kr kr (by omega) ?_
 rintro i hi
 refine G_seq ?_
 refine G_pure (E':=[⟨1,[],.slice ba 64 bc⟩,⟨3,[],pt b1⟩,⟨5,[],pt b2⟩,⟨6,[],pt b3⟩,⟨7,[],pt b4⟩,⟨22,[],.int .i64 ((i : Nat) : Int)⟩,⟨23,[],.bool (decide (((i : Nat) : Int) < 64))⟩]) [0] [1,3,5,6,7,22,23] rfl kr ?_
 refine N_then ?_
 refine G_seq ?_
 refine G_cond (b:=decide (((i : Nat) : Int) < 64)) kr (fun hc5=>?_) (fun hc5=>?_)
 ·
  have hi2 := hc5
  rw [decide_eq_true_eq] at hi2
  refine G_skip ?_
  refine N_then ?_
  refine G_seq ?_
  refine G_block ?_
  refine G_seq ?_
  refine G_pure (E':=[⟨1,[],.slice ba 64 bc⟩,⟨3,[],pt b1⟩,⟨5,[],pt b2⟩,⟨6,[],pt b3⟩,⟨7,[],pt b4⟩,⟨8,[],.int .i64 ((i : Nat) : Int)⟩,⟨22,[],.int .i64 ((i : Nat) : Int)⟩]) [0,0] [1,3,5,6,7,8,22] rfl kr ?_
  refine N_then ?_
  refine G_seq ?_
  refine G_seq ?_
  refine G_pure (E':=[⟨1,[],.slice ba 64 bc⟩,⟨3,[],pt b1⟩,⟨5,[],pt b2⟩,⟨6,[],pt b3⟩,⟨7,[],pt b4⟩,⟨8,[],.int .i64 ((i : Nat) : Int)⟩,⟨22,[],.int .i64 ((i : Nat) : Int)⟩,⟨26,[],.bool (decide (((i : Nat) : Int) < 16))⟩]) [0,0] [1,3,5,6,7,8,22,26] rfl kr ?_
  refine N_then ?_
  refine G_cond (b:=decide (((i : Nat) : Int) < 16)) kr (fun hc6=>?_) (fun hc6=>?_)
  ·
   replace hc6 := of_decide_eq_true hc6
   refine G_seq ?_
   refine G_regionH ([(b3,.cells #[.int .u32 0,.int .u32 0,.int .u32 0,.int .u32 0,.int .u32 0,.int .u32 0,.int .u32 0,.int .u32 0] 169 (0,0))]::[(b2,.cells kArr 171 (0,0))]::[(b1,.cells #[.int .u32 s.a,.int .u32 s.b,.int .u32 s.c,.int .u32 s.d,.int .u32 s.e,.int .u32 s.f,.int .u32 s.g,.int .u32 s.h] 169 (0,0))]::H) kr ?_
   refine GH_p (fuel:=32) [(0,0),(1,0),(2,0),(3,0)] (fun w h=>(h.erase 0)) kr rfl ?_
   refine GH_wi 30 (4 * ((i : Nat) : Int)) (by omega) (by omega) kr ?_
   refine GH_take' 4 kr (fun w h=>(h.erase 0)) (GL_indexAddr (i:=4) (ch:=[]) (a:=ba) (len:=64) (cap:=bc) (kd:=.i64) (j:=4 * ((i : Nat) : Int)) (e:=5) (sz:=1) (S:=S) (cs:=(u8s l)) rfl rfl kr kr kr kr kr kr kr hrd (fun _=>by exact ⟨by omega,by omega,by intro h; have h2:=congrArg List.length h; simp only [u8s,List.length_map,List.length_nil] at h2; omega⟩) (GL_yend kr rfl)) ?_
   refine GH_take' 5 kr (fun w h=>(h.erase 0)) (GL_loadS (i:=5) (ch:=[]) (a:=ba) (q:=(Int.toNat (4 * ((i : Nat) : Int))) * 1) (S:=S) (cs:=(u8s l)) (v:=.int .u8 (byt l (4 * i))) rfl rfl kr kr kr kr kr hrd (fun y o h=>(At.cons (At.cons (At.cons (hS y o h))))) (fun _=>(byt_at (by omega) (by omega))) (GL_yend kr rfl)) ?_
   refine GH_p (fuel:=25) [(6,0),(7,0),(8,0),(9,0),(10,0)] (fun w h=>(h.erase 0)) kr rfl ?_
   refine GH_wi 37 (4 * ((i : Nat) : Int)) (by omega) (by omega) kr ?_
   refine GH_p (fuel:=24) [(11,0)] (fun w h=>(h.erase 0)) kr rfl ?_
   refine GH_wi 38 ((4 * ((i : Nat) : Int))+1) (by omega) (by omega) kr ?_
   refine GH_take' 12 kr (fun w h=>(h.erase 0)) (GL_indexAddr (i:=12) (ch:=[]) (a:=ba) (len:=64) (cap:=bc) (kd:=.i64) (j:=(4 * ((i : Nat) : Int))+1) (e:=5) (sz:=1) (S:=S) (cs:=(u8s l)) rfl rfl kr kr kr kr kr kr kr hrd (fun _=>by exact ⟨by omega,by omega,by intro h; have h2:=congrArg List.length h; simp only [u8s,List.length_map,List.length_nil] at h2; omega⟩) (GL_yend kr rfl)) ?_
   refine GH_take' 13 kr (fun w h=>(h.erase 0)) (GL_loadS (i:=13) (ch:=[]) (a:=ba) (q:=(Int.toNat ((4 * ((i : Nat) : Int))+1)) * 1) (S:=S) (cs:=(u8s l)) (v:=.int .u8 (byt l (4 * i+1))) rfl rfl kr kr kr kr kr hrd (fun y o h=>(At.cons (At.cons (At.cons (hS y o h))))) (fun _=>(byt_at (by omega) (by omega))) (GL_yend kr rfl)) ?_
   refine GH_p (fuel:=16) [(14,0),(15,0),(16,0),(17,0),(18,0),(19,0)] (fun w h=>(h.erase 0)) kr rfl ?_
   refine GH_wi 46 (4 * ((i : Nat) : Int)) (by omega) (by omega) kr ?_
   refine GH_p (fuel:=15) [(20,0)] (fun w h=>(h.erase 0)) kr rfl ?_
   refine GH_wi 47 ((4 * ((i : Nat) : Int))+2) (by omega) (by omega) kr ?_
   refine GH_take' 21 kr (fun w h=>(h.erase 0)) (GL_indexAddr (i:=21) (ch:=[]) (a:=ba) (len:=64) (cap:=bc) (kd:=.i64) (j:=(4 * ((i : Nat) : Int))+2) (e:=5) (sz:=1) (S:=S) (cs:=(u8s l)) rfl rfl kr kr kr kr kr kr kr hrd (fun _=>by exact ⟨by omega,by omega,by intro h; have h2:=congrArg List.length h; simp only [u8s,List.length_map,List.length_nil] at h2; omega⟩) (GL_yend kr rfl)) ?_
   refine GH_take' 22 kr (fun w h=>(h.erase 0)) (GL_loadS (i:=22) (ch:=[]) (a:=ba) (q:=(Int.toNat ((4 * ((i : Nat) : Int))+2)) * 1) (S:=S) (cs:=(u8s l)) (v:=.int .u8 (byt l (4 * i+2))) rfl rfl kr kr kr kr kr hrd (fun y o h=>(At.cons (At.cons (At.cons (hS y o h))))) (fun _=>(byt_at (by omega) (by omega))) (GL_yend kr rfl)) ?_
   refine GH_p (fuel:=7) [(23,0),(24,0),(25,0),(26,0),(27,0),(28,0)] (fun w h=>(h.erase 0)) kr rfl ?_
   refine GH_wi 55 (4 * ((i : Nat) : Int)) (by omega) (by omega) kr ?_
   refine GH_p (fuel:=6) [(29,0)] (fun w h=>(h.erase 0)) kr rfl ?_
   refine GH_wi 56 ((4 * ((i : Nat) : Int))+3) (by omega) (by omega) kr ?_
   refine GH_take' 30 kr (fun w h=>(h.erase 0)) (GL_indexAddr (i:=30) (ch:=[]) (a:=ba) (len:=64) (cap:=bc) (kd:=.i64) (j:=(4 * ((i : Nat) : Int))+3) (e:=5) (sz:=1) (S:=S) (cs:=(u8s l)) rfl rfl kr kr kr kr kr kr kr hrd (fun _=>by exact ⟨by omega,by omega,by intro h; have h2:=congrArg List.length h; simp only [u8s,List.length_map,List.length_nil] at h2; omega⟩) (GL_yend kr rfl)) ?_
   refine GH_take' 31 kr (fun w h=>(h.erase 0)) (GL_loadS (i:=31) (ch:=[]) (a:=ba) (q:=(Int.toNat ((4 * ((i : Nat) : Int))+3)) * 1) (S:=S) (cs:=(u8s l)) (v:=.int .u8 (byt l (4 * i+3))) rfl rfl kr kr kr kr kr hrd (fun y o h=>(At.cons (At.cons (At.cons (hS y o h))))) (fun _=>(byt_at (by omega) (by omega))) (GL_yend kr rfl)) ?_
   refine GH_p (fuel:=2) [(32,0),(33,0)] (fun w h=>(h.erase 0)) kr rfl ?_
   refine GH_take' 34 kr (fun w h=>(h.erase 0)) (GL_indexArr (i:=34) (ch:=[]) (b:=b4) (off:=0) (len:=64) (sz:=1) (e:=144) (kd:=.i64) (j:=((i : Nat) : Int)) rfl rfl kr kr kr kr kr kr kr (fun _=>by exact ⟨by omega,by omega⟩) (GL_yend kr rfl)) ?_
   refine GH_eff 35 kr kr kr ?_
   refine GL_store (i:=35) (ch:=[]) (b:=b4) (off:=0+Int.toNat ((i : Nat) : Int) * 1) (v:=.int .u32 (IntKind.wrap .u32 ((BitVec.ofInt (IntKind.bits .u32) (IntKind.wrap .u32 ((BitVec.ofInt (IntKind.bits .u32) (IntKind.wrap .u32 ((BitVec.ofInt (IntKind.bits .u32) (IntKind.wrap .u32 ((IntKind.wrap .u32 (byt l (4 * i))) * 2 ^ 24)) ||| BitVec.ofInt (IntKind.bits .u32) (IntKind.wrap .u32 ((IntKind.wrap .u32 (byt l (4 * i+1))) * 2 ^ 16))).toNat)) ||| BitVec.ofInt (IntKind.bits .u32) (IntKind.wrap .u32 ((IntKind.wrap .u32 (byt l (4 * i+2))) * 2 ^ 8))).toNat)) ||| BitVec.ofInt (IntKind.bits .u32) (IntKind.wrap .u32 (byt l (4 * i+3)))).toNat))) (c:=(wArr (byt l) i)) (c':=(wArr (byt l) (i+1))) (j:=0) (m:=0) (H':=([(b4,.cells (wArr (byt l) (i+1)) 171 (0,0))]::[(b3,.cells #[.int .u32 0,.int .u32 0,.int .u32 0,.int .u32 0,.int .u32 0,.int .u32 0,.int .u32 0,.int .u32 0] 169 (0,0))]::[(b2,.cells kArr 171 (0,0))]::[(b1,.cells #[.int .u32 s.a,.int .u32 s.b,.int .u32 s.c,.int .u32 s.d,.int .u32 s.e,.int .u32 s.f,.int .u32 s.g,.int .u32 s.h] 169 (0,0))]::H)) rfl rfl kr kr kr kr kr kr kr rfl rfl (by rw [wArr_size _ (by omega)]; show 0+Int.toNat _ * 1+1 ≤ 64; omega) (fun _ _=>thaw0) (wArr_set (byt l) (q:=((i : Nat) : Int)) (by omega) (by omega) (by rw [if_pos (by omega)] <;> rfl)) kr ?_
   refine GH_back kr (fun w h=>(h.erase 0)) ?_
   refine GH_done (E':=[⟨1,[],.slice ba 64 bc⟩,⟨3,[],pt b1⟩,⟨5,[],pt b2⟩,⟨6,[],pt b3⟩,⟨7,[],pt b4⟩,⟨22,[],.int .i64 ((i : Nat) : Int)⟩]) [1,3,5,6,7,22] kr kr ?_
   refine N_then ?_
   refine G_exit ?_
   refine N_then_exit ?_
   refine N_block_exit ?_
   refine N_then ?_
   refine G_region ?_
   refine GL_p [0] kr (j:=1) rfl ?_
   refine GL_wi 101 (((i : Nat) : Int)+1) (by omega) (by omega) kr ?_
   refine GL_fin (E':=[⟨1,[],.slice ba 64 bc⟩,⟨3,[],pt b1⟩,⟨5,[],pt b2⟩,⟨6,[],pt b3⟩,⟨7,[],pt b4⟩,⟨22,[],.int .i64 (((i : Nat) : Int)+1)⟩]) [0] [1,3,5,6,7,22] rfl kr ?_
   refine N_round (s':=(i+1)) [1,3,5,6,7,22] kr rfl (by omega) (by omega)
  ·
   replace hc6 := of_decide_eq_false hc6
   refine G_skip ?_
   refine N_then ?_
   refine G_seq ?_
   refine G_regionD kr kr ?_
   refine GL_p [0,0] kr (j:=2) rfl ?_
   refine GL_wi 63 (((i : Nat) : Int) - 15) (by omega) (by omega) kr ?_
   refine GL_indexArr (i:=2) (ch:=[]) (b:=b4) (off:=0) (len:=64) (sz:=1) (e:=144) (kd:=.i64) (j:=((i : Nat) : Int) - 15) rfl rfl kr kr kr kr kr kr kr (fun _=>by exact ⟨by omega,by omega⟩) ?_
   refine GL_load (i:=3) (ch:=[]) (b:=b4) (off:=0+Int.toNat (((i : Nat) : Int) - 15) * 1) (v:=.int .u32 ((wsch (byt l) i).getD (i - 15) 0)) rfl rfl kr kr kr kr kr (At.grp 0 0 rfl rfl) (wArr_at (byt l) (q:=(((i : Nat) : Int) - 15)) (j:=i - 15) (by omega) (by omega)) ?_
   refine GL_p [0,0] kr (j:=6) rfl ?_
   refine GL_wi 67 (((i : Nat) : Int) - 2) (by omega) (by omega) kr ?_
   refine GL_indexArr (i:=6) (ch:=[]) (b:=b4) (off:=0) (len:=64) (sz:=1) (e:=144) (kd:=.i64) (j:=((i : Nat) : Int) - 2) rfl rfl kr kr kr kr kr kr kr (fun _=>by exact ⟨by omega,by omega⟩) ?_
   refine GL_load (i:=7) (ch:=[]) (b:=b4) (off:=0+Int.toNat (((i : Nat) : Int) - 2) * 1) (v:=.int .u32 ((wsch (byt l) i).getD (i - 2) 0)) rfl rfl kr kr kr kr kr (At.grp 0 0 rfl rfl) (wArr_at (byt l) (q:=(((i : Nat) : Int) - 2)) (j:=i - 2) (by omega) (by omega)) ?_
   refine GL_fin (E':=[⟨1,[],.slice ba 64 bc⟩,⟨3,[],pt b1⟩,⟨5,[],pt b2⟩,⟨6,[],pt b3⟩,⟨7,[],pt b4⟩,⟨8,[],.int .i64 ((i : Nat) : Int)⟩,⟨9,[],.int .u32 ((wsch (byt l) i).getD (i - 15) 0)⟩,⟨10,[],.int .u32 ((wsch (byt l) i).getD (i - 2) 0)⟩,⟨22,[],.int .i64 ((i : Nat) : Int)⟩]) [0,0] [1,3,5,6,7,8,9,10,22] rfl kr ?_
   refine N_then ?_
   refine G_seq ?_
   refine G_region ?_
   refine GL_p [0] kr (j:=1) rfl ?_
   refine GL_callQ (i:=1) (ch:=[]) (f:=140) (fst:=#[]) (caps:=#[]) (vs:=[.int .u32 ((wsch (byt l) i).getD (i - 15) 0),.int .i64 (-7)]) (v:=.int .u32 (rotr ((wsch (byt l) i).getD (i - 15) 0) 7)) rfl rfl rfl kr kr Tryz.func140 rfl rfl kr kr kr (fun _=>rot7 ((wsch (byt l) i).getD (i - 15) 0) _ _) ?_
   refine GL_p [0] kr (j:=3) rfl ?_
   refine GL_callQ (i:=3) (ch:=[]) (f:=140) (fst:=#[]) (caps:=#[]) (vs:=[.int .u32 ((wsch (byt l) i).getD (i - 15) 0),.int .i64 (-18)]) (v:=.int .u32 (rotr ((wsch (byt l) i).getD (i - 15) 0) 18)) rfl rfl rfl kr kr Tryz.func140 rfl rfl kr kr kr (fun _=>rot18 ((wsch (byt l) i).getD (i - 15) 0) _ _) ?_
   refine GL_fin (E':=[⟨1,[],.slice ba 64 bc⟩,⟨3,[],pt b1⟩,⟨5,[],pt b2⟩,⟨6,[],pt b3⟩,⟨7,[],pt b4⟩,⟨8,[],.int .i64 ((i : Nat) : Int)⟩,⟨10,[],.int .u32 ((wsch (byt l) i).getD (i - 2) 0)⟩,⟨11,[],.int .u32 (IntKind.wrap .u32 ((BitVec.ofInt (IntKind.bits .u32) (IntKind.wrap .u32 ((BitVec.ofInt (IntKind.bits .u32) (rotr ((wsch (byt l) i).getD (i - 15) 0) 7) ^^^ BitVec.ofInt (IntKind.bits .u32) (rotr ((wsch (byt l) i).getD (i - 15) 0) 18)).toNat)) ^^^ BitVec.ofInt (IntKind.bits .u32) (Int.fdiv ((wsch (byt l) i).getD (i - 15) 0) (2 ^ 3))).toNat))⟩,⟨22,[],.int .i64 ((i : Nat) : Int)⟩]) [0,0,0,0,0] [1,3,5,6,7,8,10,11,22] rfl kr ?_
   refine N_env (E':=[⟨1,[],.slice ba 64 bc⟩,⟨3,[],pt b1⟩,⟨5,[],pt b2⟩,⟨6,[],pt b3⟩,⟨7,[],pt b4⟩,⟨8,[],.int .i64 ((i : Nat) : Int)⟩,⟨10,[],.int .u32 ((wsch (byt l) i).getD (i - 2) 0)⟩,⟨11,[],.int .u32 (sg0 ((wsch (byt l) i).getD (i - 15) 0))⟩,⟨22,[],.int .i64 ((i : Nat) : Int)⟩]) kr ?_
   refine N_then ?_
   refine G_seq ?_
   refine G_region ?_
   refine GL_p [0] kr (j:=1) rfl ?_
   refine GL_callQ (i:=1) (ch:=[]) (f:=140) (fst:=#[]) (caps:=#[]) (vs:=[.int .u32 ((wsch (byt l) i).getD (i - 2) 0),.int .i64 (-17)]) (v:=.int .u32 (rotr ((wsch (byt l) i).getD (i - 2) 0) 17)) rfl rfl rfl kr kr Tryz.func140 rfl rfl kr kr kr (fun _=>rot17 ((wsch (byt l) i).getD (i - 2) 0) _ _) ?_
   refine GL_p [0] kr (j:=3) rfl ?_
   refine GL_callQ (i:=3) (ch:=[]) (f:=140) (fst:=#[]) (caps:=#[]) (vs:=[.int .u32 ((wsch (byt l) i).getD (i - 2) 0),.int .i64 (-19)]) (v:=.int .u32 (rotr ((wsch (byt l) i).getD (i - 2) 0) 19)) rfl rfl rfl kr kr Tryz.func140 rfl rfl kr kr kr (fun _=>rot19 ((wsch (byt l) i).getD (i - 2) 0) _ _) ?_
   refine GL_fin (E':=[⟨1,[],.slice ba 64 bc⟩,⟨3,[],pt b1⟩,⟨5,[],pt b2⟩,⟨6,[],pt b3⟩,⟨7,[],pt b4⟩,⟨8,[],.int .i64 ((i : Nat) : Int)⟩,⟨11,[],.int .u32 (sg0 ((wsch (byt l) i).getD (i - 15) 0))⟩,⟨12,[],.int .u32 (IntKind.wrap .u32 ((BitVec.ofInt (IntKind.bits .u32) (IntKind.wrap .u32 ((BitVec.ofInt (IntKind.bits .u32) (rotr ((wsch (byt l) i).getD (i - 2) 0) 17) ^^^ BitVec.ofInt (IntKind.bits .u32) (rotr ((wsch (byt l) i).getD (i - 2) 0) 19)).toNat)) ^^^ BitVec.ofInt (IntKind.bits .u32) (Int.fdiv ((wsch (byt l) i).getD (i - 2) 0) (2 ^ 10))).toNat))⟩,⟨22,[],.int .i64 ((i : Nat) : Int)⟩]) [0,0,0,0,0] [1,3,5,6,7,8,11,12,22] rfl kr ?_
   refine N_env (E':=[⟨1,[],.slice ba 64 bc⟩,⟨3,[],pt b1⟩,⟨5,[],pt b2⟩,⟨6,[],pt b3⟩,⟨7,[],pt b4⟩,⟨8,[],.int .i64 ((i : Nat) : Int)⟩,⟨11,[],.int .u32 (sg0 ((wsch (byt l) i).getD (i - 15) 0))⟩,⟨12,[],.int .u32 (sg1 ((wsch (byt l) i).getD (i - 2) 0))⟩,⟨22,[],.int .i64 ((i : Nat) : Int)⟩]) kr ?_
   refine N_then ?_
   refine G_regionH ([(b3,.cells #[.int .u32 0,.int .u32 0,.int .u32 0,.int .u32 0,.int .u32 0,.int .u32 0,.int .u32 0,.int .u32 0] 169 (0,0))]::[(b2,.cells kArr 171 (0,0))]::[(b1,.cells #[.int .u32 s.a,.int .u32 s.b,.int .u32 s.c,.int .u32 s.d,.int .u32 s.e,.int .u32 s.f,.int .u32 s.g,.int .u32 s.h] 169 (0,0))]::H) kr ?_
   refine GH_p (fuel:=13) [(0,0),(1,0),(2,0)] (fun w h=>(h.erase 0)) kr rfl ?_
   refine GH_wi 88 (((i : Nat) : Int) - 16) (by omega) (by omega) kr ?_
   refine GH_take' 3 kr (fun w h=>(h.erase 0)) (GL_indexArr (i:=3) (ch:=[]) (b:=b4) (off:=0) (len:=64) (sz:=1) (e:=144) (kd:=.i64) (j:=((i : Nat) : Int) - 16) rfl rfl kr kr kr kr kr kr kr (fun _=>by exact ⟨by omega,by omega⟩) (GL_yend kr rfl)) ?_
   refine GH_p (fuel:=9) [(5,0),(7,0),(8,0)] (fun w h=>(h.erase 0)) kr rfl ?_
   refine GH_wi 94 (((i : Nat) : Int) - 7) (by omega) (by omega) kr ?_
   refine GH_take' 9 kr (fun w h=>(h.erase 0)) (GL_indexArr (i:=9) (ch:=[]) (b:=b4) (off:=0) (len:=64) (sz:=1) (e:=144) (kd:=.i64) (j:=((i : Nat) : Int) - 7) rfl rfl kr kr kr kr kr kr kr (fun _=>by exact ⟨by omega,by omega⟩) (GL_yend kr rfl)) ?_
   refine GH_p (fuel:=7) [(12,0)] (fun w h=>(h.erase 0)) kr rfl ?_
   refine GH_eff2 4 10 kr kr kr kr kr ?_ ?_
   ·
    refine GL_load (i:=4) (ch:=[]) (b:=b4) (off:=0+Int.toNat (((i : Nat) : Int) - 16) * 1) (v:=.int .u32 ((wsch (byt l) i).getD (i - 16) 0)) rfl rfl kr kr kr kr kr (At.grp 0 0 rfl rfl) (wArr_at (byt l) (q:=(((i : Nat) : Int) - 16)) (j:=i - 16) (by omega) (by omega)) ?_
    refine GH_back kr (fun w h=>(h.erase 0)) ?_
    refine GH_p (fuel:=5) [(6,0)] (fun w h=>(h.erase 0)) kr rfl ?_
    refine GH_eff 10 kr kr kr ?_
    refine GL_load (i:=10) (ch:=[]) (b:=b4) (off:=0+Int.toNat (((i : Nat) : Int) - 7) * 1) (v:=.int .u32 ((wsch (byt l) i).getD (i - 7) 0)) rfl rfl kr kr kr kr kr (At.grp 0 0 rfl rfl) (wArr_at (byt l) (q:=(((i : Nat) : Int) - 7)) (j:=i - 7) (by omega) (by omega)) ?_
    refine GH_back kr (fun w h=>(h.erase 0)) ?_
    refine GH_p (fuel:=2) [(11,0),(13,0)] (fun w h=>(h.erase 0)) kr rfl ?_
    refine GH_take' 14 kr (fun w h=>(h.erase 0)) (GL_indexArr (i:=14) (ch:=[]) (b:=b4) (off:=0) (len:=64) (sz:=1) (e:=144) (kd:=.i64) (j:=((i : Nat) : Int)) rfl rfl kr kr kr kr kr kr kr (fun _=>by exact ⟨by omega,by omega⟩) (GL_yend kr rfl)) ?_
    refine GH_eff 15 kr kr kr ?_
    refine GL_store (i:=15) (ch:=[]) (b:=b4) (off:=0+Int.toNat ((i : Nat) : Int) * 1) (v:=.int .u32 (IntKind.wrap .u32 ((IntKind.wrap .u32 ((IntKind.wrap .u32 (((wsch (byt l) i).getD (i - 16) 0)+(sg0 ((wsch (byt l) i).getD (i - 15) 0))))+((wsch (byt l) i).getD (i - 7) 0)))+(sg1 ((wsch (byt l) i).getD (i - 2) 0))))) (c:=(wArr (byt l) i)) (c':=(wArr (byt l) (i+1))) (j:=0) (m:=0) (H':=([(b4,.cells (wArr (byt l) (i+1)) 171 (0,0))]::[(b3,.cells #[.int .u32 0,.int .u32 0,.int .u32 0,.int .u32 0,.int .u32 0,.int .u32 0,.int .u32 0,.int .u32 0] 169 (0,0))]::[(b2,.cells kArr 171 (0,0))]::[(b1,.cells #[.int .u32 s.a,.int .u32 s.b,.int .u32 s.c,.int .u32 s.d,.int .u32 s.e,.int .u32 s.f,.int .u32 s.g,.int .u32 s.h] 169 (0,0))]::H)) rfl rfl kr kr kr kr kr kr kr rfl rfl (by rw [wArr_size _ (by omega)]; show 0+Int.toNat _ * 1+1 ≤ 64; omega) (fun _ _=>thaw0) (wArr_set (byt l) (q:=((i : Nat) : Int)) (by omega) (by omega) (by rw [if_neg (by omega)] <;> rfl)) kr ?_
    refine GH_back kr (fun w h=>(h.erase 0)) ?_
    refine GH_done (E':=[⟨1,[],.slice ba 64 bc⟩,⟨3,[],pt b1⟩,⟨5,[],pt b2⟩,⟨6,[],pt b3⟩,⟨7,[],pt b4⟩,⟨22,[],.int .i64 ((i : Nat) : Int)⟩]) [1,3,5,6,7,22] kr kr ?_
    refine N_block ?_
    refine N_then ?_
    refine G_region ?_
    refine GL_p [0] kr (j:=1) rfl ?_
    refine GL_wi 101 (((i : Nat) : Int)+1) (by omega) (by omega) kr ?_
    refine GL_fin (E':=[⟨1,[],.slice ba 64 bc⟩,⟨3,[],pt b1⟩,⟨5,[],pt b2⟩,⟨6,[],pt b3⟩,⟨7,[],pt b4⟩,⟨22,[],.int .i64 (((i : Nat) : Int)+1)⟩]) [0] [1,3,5,6,7,22] rfl kr ?_
    refine N_round (s':=(i+1)) [1,3,5,6,7,22] kr rfl (by omega) (by omega)
   ·
    refine GL_load (i:=10) (ch:=[]) (b:=b4) (off:=0+Int.toNat (((i : Nat) : Int) - 7) * 1) (v:=.int .u32 ((wsch (byt l) i).getD (i - 7) 0)) rfl rfl kr kr kr kr kr (At.grp 0 0 rfl rfl) (wArr_at (byt l) (q:=(((i : Nat) : Int) - 7)) (j:=i - 7) (by omega) (by omega)) ?_
    refine GH_back kr (fun w h=>(h.erase 0)) ?_
    refine GH_eff 4 kr kr kr ?_
    refine GL_load (i:=4) (ch:=[]) (b:=b4) (off:=0+Int.toNat (((i : Nat) : Int) - 16) * 1) (v:=.int .u32 ((wsch (byt l) i).getD (i - 16) 0)) rfl rfl kr kr kr kr kr (At.grp 0 0 rfl rfl) (wArr_at (byt l) (q:=(((i : Nat) : Int) - 16)) (j:=i - 16) (by omega) (by omega)) ?_
    refine GH_back kr (fun w h=>(h.erase 0)) ?_
    refine GH_p (fuel:=2) [(6,0),(11,0),(13,0)] (fun w h=>(h.erase 0)) kr rfl ?_
    refine GH_take' 14 kr (fun w h=>(h.erase 0)) (GL_indexArr (i:=14) (ch:=[]) (b:=b4) (off:=0) (len:=64) (sz:=1) (e:=144) (kd:=.i64) (j:=((i : Nat) : Int)) rfl rfl kr kr kr kr kr kr kr (fun _=>by exact ⟨by omega,by omega⟩) (GL_yend kr rfl)) ?_
    refine GH_eff 15 kr kr kr ?_
    refine GL_store (i:=15) (ch:=[]) (b:=b4) (off:=0+Int.toNat ((i : Nat) : Int) * 1) (v:=.int .u32 (IntKind.wrap .u32 ((IntKind.wrap .u32 ((IntKind.wrap .u32 (((wsch (byt l) i).getD (i - 16) 0)+(sg0 ((wsch (byt l) i).getD (i - 15) 0))))+((wsch (byt l) i).getD (i - 7) 0)))+(sg1 ((wsch (byt l) i).getD (i - 2) 0))))) (c:=(wArr (byt l) i)) (c':=(wArr (byt l) (i+1))) (j:=0) (m:=0) (H':=([(b4,.cells (wArr (byt l) (i+1)) 171 (0,0))]::[(b3,.cells #[.int .u32 0,.int .u32 0,.int .u32 0,.int .u32 0,.int .u32 0,.int .u32 0,.int .u32 0,.int .u32 0] 169 (0,0))]::[(b2,.cells kArr 171 (0,0))]::[(b1,.cells #[.int .u32 s.a,.int .u32 s.b,.int .u32 s.c,.int .u32 s.d,.int .u32 s.e,.int .u32 s.f,.int .u32 s.g,.int .u32 s.h] 169 (0,0))]::H)) rfl rfl kr kr kr kr kr kr kr rfl rfl (by rw [wArr_size _ (by omega)]; show 0+Int.toNat _ * 1+1 ≤ 64; omega) (fun _ _=>thaw0) (wArr_set (byt l) (q:=((i : Nat) : Int)) (by omega) (by omega) (by rw [if_neg (by omega)] <;> rfl)) kr ?_
    refine GH_back kr (fun w h=>(h.erase 0)) ?_
    refine GH_done (E':=[⟨1,[],.slice ba 64 bc⟩,⟨3,[],pt b1⟩,⟨5,[],pt b2⟩,⟨6,[],pt b3⟩,⟨7,[],pt b4⟩,⟨22,[],.int .i64 ((i : Nat) : Int)⟩]) [1,3,5,6,7,22] kr kr ?_
    refine N_block ?_
    refine N_then ?_
    refine G_region ?_
    refine GL_p [0] kr (j:=1) rfl ?_
    refine GL_wi 101 (((i : Nat) : Int)+1) (by omega) (by omega) kr ?_
    refine GL_fin (E':=[⟨1,[],.slice ba 64 bc⟩,⟨3,[],pt b1⟩,⟨5,[],pt b2⟩,⟨6,[],pt b3⟩,⟨7,[],pt b4⟩,⟨22,[],.int .i64 (((i : Nat) : Int)+1)⟩]) [0] [1,3,5,6,7,22] rfl kr ?_
    refine N_round (s':=(i+1)) [1,3,5,6,7,22] kr rfl (by omega) (by omega)
 ·
  have hi2 : i = 64 := by (have h9 := of_decide_eq_false hc5; omega)
  refine G_exit ?_
  refine N_then_exit ?_
  refine N_then_exit ?_
  refine N_block_exit ?_
  refine N_then ?_
  refine G_seq ?_
  refine G_region ?_
  refine GL_loadA (i:=0) (ch:=[]) (b:=b1) (off:=0) (l:=[.int .u32 s.a,.int .u32 s.b,.int .u32 s.c,.int .u32 s.d,.int .u32 s.e,.int .u32 s.f,.int .u32 s.g,.int .u32 s.h]) rfl rfl kr kr kr kr kr kr (At.grp 3 0 rfl rfl) kr ?_
  refine GL_alloc (i:=1) (ch:=[]) (z:=.agg #[.int .u32 0,.int .u32 0,.int .u32 0,.int .u32 0,.int .u32 0,.int .u32 0,.int .u32 0,.int .u32 0]) rfl rfl kr kr kr kr (fun b21=>?_)
  refine GL_st (i:=2) (ch:=[]) (b:=b21) (off:=0) (v:=.agg #[.int .u32 s.a,.int .u32 s.b,.int .u32 s.c,.int .u32 s.d,.int .u32 s.e,.int .u32 s.f,.int .u32 s.g,.int .u32 s.h]) (j:=0) ([(b21,.cells #[.int .u32 s.a,.int .u32 s.b,.int .u32 s.c,.int .u32 s.d,.int .u32 s.e,.int .u32 s.f,.int .u32 s.g,.int .u32 s.h] 169 (0,0))]::[(b4,.cells (wArr (byt l) i) 171 (0,0))]::[(b3,.cells #[.int .u32 0,.int .u32 0,.int .u32 0,.int .u32 0,.int .u32 0,.int .u32 0,.int .u32 0,.int .u32 0] 169 (0,0))]::[(b2,.cells kArr 171 (0,0))]::[(b1,.cells #[.int .u32 s.a,.int .u32 s.b,.int .u32 s.c,.int .u32 s.d,.int .u32 s.e,.int .u32 s.f,.int .u32 s.g,.int .u32 s.h] 169 (0,0))]::H) rfl rfl kr kr kr kr kr kr kr rfl rfl (Nat.le_of_ble_eq_true rfl) (fun _ _=>thaw0) kr ?_
  refine GL_fin (E':=[⟨3,[],pt b1⟩,⟨5,[],pt b2⟩,⟨6,[],pt b3⟩,⟨7,[],pt b4⟩,⟨13,[],pt b21⟩]) [] [3,5,6,7,13] rfl kr ?_
  refine N_then ?_
  refine G_seq ?_
  refine G_seq ?_
  refine G_pure (E':=[⟨3,[],pt b1⟩,⟨5,[],pt b2⟩,⟨6,[],pt b3⟩,⟨7,[],pt b4⟩,⟨13,[],pt b21⟩,⟨103,[],.int .i64 0⟩]) [0] [3,5,6,7,13,103] rfl kr ?_
  refine N_then ?_
  refine G_block ?_
  refine G_loop (EI:=(fun ξ : Nat × S8=>[⟨3,[],pt b1⟩,⟨5,[],pt b2⟩,⟨6,[],pt b3⟩,⟨7,[],pt b4⟩,⟨13,[],pt b21⟩,⟨103,[],.int .i64 ((ξ.1 : Nat) : Int)⟩])) (HI:=(fun ξ : Nat × S8=>([(b21,.cells #[.int .u32 ξ.2.a,.int .u32 ξ.2.b,.int .u32 ξ.2.c,.int .u32 ξ.2.d,.int .u32 ξ.2.e,.int .u32 ξ.2.f,.int .u32 ξ.2.g,.int .u32 ξ.2.h] 169 (0,0))]::[(b4,.cells (wArr (byt l) 64) 171 (0,0))]::[(b3,.cells #[.int .u32 0,.int .u32 0,.int .u32 0,.int .u32 0,.int .u32 0,.int .u32 0,.int .u32 0,.int .u32 0] 169 (0,0))]::[(b2,.cells kArr 171 (0,0))]::[(b1,.cells #[.int .u32 s.a,.int .u32 s.b,.int .u32 s.c,.int .u32 s.d,.int .u32 s.e,.int .u32 s.f,.int .u32 s.g,.int .u32 s.h] 169 (0,0))]::H))) (Φ:=(fun ξ : Nat × S8=>(ξ.1 ≤ 64)∧(ξ.2 = rnds kAt (wAt (byt l)) s ξ.1))) (μ:=(fun ξ : Nat × S8=>64 - ξ.1)) (s0:=(0,s)) [3,5,6,7,13,103] kr (by rw [hi2] <;> kernel_rfl) ⟨(Nat.zero_le _),rfl⟩ ?_
  rintro ⟨i, sv⟩ ⟨hi, hsv⟩
  dsimp only at hi hsv
  refine G_seq ?_
  refine G_pure (E':=[⟨3,[],pt b1⟩,⟨5,[],pt b2⟩,⟨6,[],pt b3⟩,⟨7,[],pt b4⟩,⟨13,[],pt b21⟩,⟨103,[],.int .i64 ((i : Nat) : Int)⟩,⟨104,[],.bool (decide (((i : Nat) : Int) < 64))⟩]) [0] [3,5,6,7,13,103,104] rfl kr ?_
  refine N_then ?_
  refine G_seq ?_
  refine G_cond (b:=decide (((i : Nat) : Int) < 64)) kr (fun hc22=>?_) (fun hc22=>?_)
  ·
   replace hc22 := of_decide_eq_true hc22
   refine G_skip ?_
   refine N_then ?_
   refine G_seq ?_
   refine G_block ?_
   refine G_seq ?_
   refine G_pure (E':=[⟨3,[],pt b1⟩,⟨5,[],pt b2⟩,⟨6,[],pt b3⟩,⟨7,[],pt b4⟩,⟨13,[],pt b21⟩,⟨14,[],.int .i64 ((i : Nat) : Int)⟩,⟨103,[],.int .i64 ((i : Nat) : Int)⟩]) [0,0] [3,5,6,7,13,14,103] rfl kr ?_
   refine N_then ?_
   refine G_seq ?_
   refine G_regionD kr kr ?_
   refine GL_indexArr (i:=0) (ch:=[]) (b:=b21) (off:=0) (len:=8) (sz:=1) (e:=144) (kd:=.i64) (j:=4) rfl rfl kr kr kr kr kr kr kr (fun _=>⟨by decide,by decide⟩) ?_
   refine GL_load (i:=1) (ch:=[]) (b:=b21) (off:=4) (v:=.int .u32 sv.e) rfl rfl kr kr kr kr kr (At.grp 0 0 rfl rfl) rfl ?_
   refine GL_indexArr (i:=2) (ch:=[]) (b:=b21) (off:=0) (len:=8) (sz:=1) (e:=144) (kd:=.i64) (j:=0) rfl rfl kr kr kr kr kr kr kr (fun _=>⟨by decide,by decide⟩) ?_
   refine GL_load (i:=3) (ch:=[]) (b:=b21) (off:=0) (v:=.int .u32 sv.a) rfl rfl kr kr kr kr kr (At.grp 0 0 rfl rfl) rfl ?_
   refine GL_fin (E':=[⟨3,[],pt b1⟩,⟨5,[],pt b2⟩,⟨6,[],pt b3⟩,⟨7,[],pt b4⟩,⟨13,[],pt b21⟩,⟨14,[],.int .i64 ((i : Nat) : Int)⟩,⟨15,[],.int .u32 sv.e⟩,⟨16,[],.int .u32 sv.a⟩,⟨103,[],.int .i64 ((i : Nat) : Int)⟩]) [0,0] [3,5,6,7,13,14,15,16,103] rfl kr ?_
   refine N_then ?_
   refine G_seq ?_
   refine G_region ?_
   refine GL_p [0] kr (j:=1) rfl ?_
   refine GL_callQ (i:=1) (ch:=[]) (f:=140) (fst:=#[]) (caps:=#[]) (vs:=[.int .u32 sv.e,.int .i64 (-6)]) (v:=.int .u32 (rotr sv.e 6)) rfl rfl rfl kr kr Tryz.func140 rfl rfl kr kr kr (fun _=>rot6 sv.e _ _) ?_
   refine GL_p [0] kr (j:=3) rfl ?_
   refine GL_callQ (i:=3) (ch:=[]) (f:=140) (fst:=#[]) (caps:=#[]) (vs:=[.int .u32 sv.e,.int .i64 (-11)]) (v:=.int .u32 (rotr sv.e 11)) rfl rfl rfl kr kr Tryz.func140 rfl rfl kr kr kr (fun _=>rot11 sv.e _ _) ?_
   refine GL_p [0,0] kr (j:=6) rfl ?_
   refine GL_callQ (i:=6) (ch:=[]) (f:=140) (fst:=#[]) (caps:=#[]) (vs:=[.int .u32 sv.e,.int .i64 (-25)]) (v:=.int .u32 (rotr sv.e 25)) rfl rfl rfl kr kr Tryz.func140 rfl rfl kr kr kr (fun _=>rot25 sv.e _ _) ?_
   refine GL_fin (E':=[⟨3,[],pt b1⟩,⟨5,[],pt b2⟩,⟨6,[],pt b3⟩,⟨7,[],pt b4⟩,⟨13,[],pt b21⟩,⟨14,[],.int .i64 ((i : Nat) : Int)⟩,⟨15,[],.int .u32 sv.e⟩,⟨16,[],.int .u32 sv.a⟩,⟨17,[],.int .u32 (IntKind.wrap .u32 ((BitVec.ofInt (IntKind.bits .u32) (IntKind.wrap .u32 ((BitVec.ofInt (IntKind.bits .u32) (rotr sv.e 6) ^^^ BitVec.ofInt (IntKind.bits .u32) (rotr sv.e 11)).toNat)) ^^^ BitVec.ofInt (IntKind.bits .u32) (rotr sv.e 25)).toNat))⟩,⟨103,[],.int .i64 ((i : Nat) : Int)⟩]) [0,0] [3,5,6,7,13,14,15,16,17,103] rfl kr ?_
   refine N_env (E':=[⟨3,[],pt b1⟩,⟨5,[],pt b2⟩,⟨6,[],pt b3⟩,⟨7,[],pt b4⟩,⟨13,[],pt b21⟩,⟨14,[],.int .i64 ((i : Nat) : Int)⟩,⟨15,[],.int .u32 sv.e⟩,⟨16,[],.int .u32 sv.a⟩,⟨17,[],.int .u32 (bs1 sv.e)⟩,⟨103,[],.int .i64 ((i : Nat) : Int)⟩]) kr ?_
   refine N_then ?_
   refine G_seq ?_
   refine G_regionD kr kr ?_
   refine GL_indexArr (i:=0) (ch:=[]) (b:=b21) (off:=0) (len:=8) (sz:=1) (e:=144) (kd:=.i64) (j:=7) rfl rfl kr kr kr kr kr kr kr (fun _=>⟨by decide,by decide⟩) ?_
   refine GL_load (i:=1) (ch:=[]) (b:=b21) (off:=7) (v:=.int .u32 sv.h) rfl rfl kr kr kr kr kr (At.grp 0 0 rfl rfl) rfl ?_
   refine GL_p [0,0,0] kr (j:=5) rfl ?_
   refine GL_indexArr (i:=5) (ch:=[]) (b:=b21) (off:=0) (len:=8) (sz:=1) (e:=144) (kd:=.i64) (j:=5) rfl rfl kr kr kr kr kr kr kr (fun _=>⟨by decide,by decide⟩) ?_
   refine GL_load (i:=6) (ch:=[]) (b:=b21) (off:=5) (v:=.int .u32 sv.f) rfl rfl kr kr kr kr kr (At.grp 0 0 rfl rfl) rfl ?_
   refine GL_p [0,0,0] kr (j:=10) rfl ?_
   refine GL_indexArr (i:=10) (ch:=[]) (b:=b21) (off:=0) (len:=8) (sz:=1) (e:=144) (kd:=.i64) (j:=6) rfl rfl kr kr kr kr kr kr kr (fun _=>⟨by decide,by decide⟩) ?_
   refine GL_load (i:=11) (ch:=[]) (b:=b21) (off:=6) (v:=.int .u32 sv.g) rfl rfl kr kr kr kr kr (At.grp 0 0 rfl rfl) rfl ?_
   refine GL_p [0,0,0,0] kr (j:=16) rfl ?_
   refine GL_indexArr (i:=16) (ch:=[]) (b:=b2) (off:=0) (len:=64) (sz:=1) (e:=144) (kd:=.i64) (j:=((i : Nat) : Int)) rfl rfl kr kr kr kr kr kr kr (fun _=>by exact ⟨by omega,by omega⟩) ?_
   refine GL_load (i:=17) (ch:=[]) (b:=b2) (off:=0+Int.toNat ((i : Nat) : Int) * 1) (v:=.int .u32 (kAt i)) rfl rfl kr kr kr kr kr (At.grp 3 0 rfl rfl) (kArr_at (q:=((i : Nat) : Int)) (j:=i) (by omega) (by omega)) ?_
   refine GL_p [0,0] kr (j:=20) rfl ?_
   refine GL_indexArr (i:=20) (ch:=[]) (b:=b4) (off:=0) (len:=64) (sz:=1) (e:=144) (kd:=.i64) (j:=((i : Nat) : Int)) rfl rfl kr kr kr kr kr kr kr (fun _=>by exact ⟨by omega,by omega⟩) ?_
   refine GL_load (i:=21) (ch:=[]) (b:=b4) (off:=0+Int.toNat ((i : Nat) : Int) * 1) (v:=.int .u32 (wAt (byt l) i)) rfl rfl kr kr kr kr kr (At.grp 1 0 rfl rfl) (wArr_at (byt l) (q:=((i : Nat) : Int)) (j:=i) (by omega) (by omega)) ?_
   refine GL_fin (E':=[⟨3,[],pt b1⟩,⟨5,[],pt b2⟩,⟨6,[],pt b3⟩,⟨7,[],pt b4⟩,⟨13,[],pt b21⟩,⟨16,[],.int .u32 sv.a⟩,⟨18,[],.int .u32 (IntKind.wrap .u32 ((IntKind.wrap .u32 ((IntKind.wrap .u32 ((IntKind.wrap .u32 (sv.h+(bs1 sv.e)))+(IntKind.wrap .u32 ((BitVec.ofInt (IntKind.bits .u32) (IntKind.wrap .u32 ((BitVec.ofInt (IntKind.bits .u32) sv.e &&& BitVec.ofInt (IntKind.bits .u32) sv.f).toNat)) ^^^ BitVec.ofInt (IntKind.bits .u32) (IntKind.wrap .u32 ((BitVec.ofInt (IntKind.bits .u32) (IntKind.wrap .u32 ((BitVec.ofInt (IntKind.bits .u32) 4294967295 ^^^ BitVec.ofInt (IntKind.bits .u32) sv.e).toNat)) &&& BitVec.ofInt (IntKind.bits .u32) sv.g).toNat))).toNat))))+(kAt i)))+(wAt (byt l) i)))⟩,⟨103,[],.int .i64 ((i : Nat) : Int)⟩]) [0,0] [3,5,6,7,13,16,18,103] rfl kr ?_
   refine N_env (E':=[⟨3,[],pt b1⟩,⟨5,[],pt b2⟩,⟨6,[],pt b3⟩,⟨7,[],pt b4⟩,⟨13,[],pt b21⟩,⟨16,[],.int .u32 sv.a⟩,⟨18,[],.int .u32 (t1P (kAt i) (wAt (byt l) i) sv)⟩,⟨103,[],.int .i64 ((i : Nat) : Int)⟩]) kr ?_
   refine N_then ?_
   refine G_seq ?_
   refine G_region ?_
   refine GL_p [0] kr (j:=1) rfl ?_
   refine GL_callQ (i:=1) (ch:=[]) (f:=140) (fst:=#[]) (caps:=#[]) (vs:=[.int .u32 sv.a,.int .i64 (-2)]) (v:=.int .u32 (rotr sv.a 2)) rfl rfl rfl kr kr Tryz.func140 rfl rfl kr kr kr (fun _=>rot2 sv.a _ _) ?_
   refine GL_p [0] kr (j:=3) rfl ?_
   refine GL_callQ (i:=3) (ch:=[]) (f:=140) (fst:=#[]) (caps:=#[]) (vs:=[.int .u32 sv.a,.int .i64 (-13)]) (v:=.int .u32 (rotr sv.a 13)) rfl rfl rfl kr kr Tryz.func140 rfl rfl kr kr kr (fun _=>rot13 sv.a _ _) ?_
   refine GL_p [0,0] kr (j:=6) rfl ?_
   refine GL_callQ (i:=6) (ch:=[]) (f:=140) (fst:=#[]) (caps:=#[]) (vs:=[.int .u32 sv.a,.int .i64 (-22)]) (v:=.int .u32 (rotr sv.a 22)) rfl rfl rfl kr kr Tryz.func140 rfl rfl kr kr kr (fun _=>rot22 sv.a _ _) ?_
   refine GL_fin (E':=[⟨3,[],pt b1⟩,⟨5,[],pt b2⟩,⟨6,[],pt b3⟩,⟨7,[],pt b4⟩,⟨13,[],pt b21⟩,⟨16,[],.int .u32 sv.a⟩,⟨18,[],.int .u32 (t1P (kAt i) (wAt (byt l) i) sv)⟩,⟨19,[],.int .u32 (IntKind.wrap .u32 ((BitVec.ofInt (IntKind.bits .u32) (IntKind.wrap .u32 ((BitVec.ofInt (IntKind.bits .u32) (rotr sv.a 2) ^^^ BitVec.ofInt (IntKind.bits .u32) (rotr sv.a 13)).toNat)) ^^^ BitVec.ofInt (IntKind.bits .u32) (rotr sv.a 22)).toNat))⟩,⟨103,[],.int .i64 ((i : Nat) : Int)⟩]) [0,0] [3,5,6,7,13,16,18,19,103] rfl kr ?_
   refine N_env (E':=[⟨3,[],pt b1⟩,⟨5,[],pt b2⟩,⟨6,[],pt b3⟩,⟨7,[],pt b4⟩,⟨13,[],pt b21⟩,⟨16,[],.int .u32 sv.a⟩,⟨18,[],.int .u32 (t1P (kAt i) (wAt (byt l) i) sv)⟩,⟨19,[],.int .u32 (bs0 sv.a)⟩,⟨103,[],.int .i64 ((i : Nat) : Int)⟩]) kr ?_
   refine N_then ?_
   refine G_seq ?_
   refine G_region ?_
   refine GL_p [0,0] kr (j:=2) rfl ?_
   refine GL_indexArr (i:=2) (ch:=[]) (b:=b21) (off:=0) (len:=8) (sz:=1) (e:=144) (kd:=.i64) (j:=1) rfl rfl kr kr kr kr kr kr kr (fun _=>⟨by decide,by decide⟩) ?_
   refine GL_load (i:=3) (ch:=[]) (b:=b21) (off:=1) (v:=.int .u32 sv.b) rfl rfl kr kr kr kr kr (At.grp 0 0 rfl rfl) rfl ?_
   refine GL_p [0,0] kr (j:=6) rfl ?_
   refine GL_indexArr (i:=6) (ch:=[]) (b:=b21) (off:=0) (len:=8) (sz:=1) (e:=144) (kd:=.i64) (j:=2) rfl rfl kr kr kr kr kr kr kr (fun _=>⟨by decide,by decide⟩) ?_
   refine GL_load (i:=7) (ch:=[]) (b:=b21) (off:=2) (v:=.int .u32 sv.c) rfl rfl kr kr kr kr kr (At.grp 0 0 rfl rfl) rfl ?_
   refine GL_p [0,0] kr (j:=10) rfl ?_
   refine GL_indexArr (i:=10) (ch:=[]) (b:=b21) (off:=0) (len:=8) (sz:=1) (e:=144) (kd:=.i64) (j:=1) rfl rfl kr kr kr kr kr kr kr (fun _=>⟨by decide,by decide⟩) ?_
   refine GL_load (i:=11) (ch:=[]) (b:=b21) (off:=1) (v:=.int .u32 sv.b) rfl rfl kr kr kr kr kr (At.grp 0 0 rfl rfl) rfl ?_
   refine GL_indexArr (i:=12) (ch:=[]) (b:=b21) (off:=0) (len:=8) (sz:=1) (e:=144) (kd:=.i64) (j:=2) rfl rfl kr kr kr kr kr kr kr (fun _=>⟨by decide,by decide⟩) ?_
   refine GL_load (i:=13) (ch:=[]) (b:=b21) (off:=2) (v:=.int .u32 sv.c) rfl rfl kr kr kr kr kr (At.grp 0 0 rfl rfl) rfl ?_
   refine GL_fin (E':=[⟨3,[],pt b1⟩,⟨5,[],pt b2⟩,⟨6,[],pt b3⟩,⟨7,[],pt b4⟩,⟨13,[],pt b21⟩,⟨18,[],.int .u32 (t1P (kAt i) (wAt (byt l) i) sv)⟩,⟨20,[],.int .u32 (IntKind.wrap .u32 ((bs0 sv.a)+(IntKind.wrap .u32 ((BitVec.ofInt (IntKind.bits .u32) (IntKind.wrap .u32 ((BitVec.ofInt (IntKind.bits .u32) (IntKind.wrap .u32 ((BitVec.ofInt (IntKind.bits .u32) sv.a &&& BitVec.ofInt (IntKind.bits .u32) sv.b).toNat)) ^^^ BitVec.ofInt (IntKind.bits .u32) (IntKind.wrap .u32 ((BitVec.ofInt (IntKind.bits .u32) sv.a &&& BitVec.ofInt (IntKind.bits .u32) sv.c).toNat))).toNat)) ^^^ BitVec.ofInt (IntKind.bits .u32) (IntKind.wrap .u32 ((BitVec.ofInt (IntKind.bits .u32) sv.b &&& BitVec.ofInt (IntKind.bits .u32) sv.c).toNat))).toNat))))⟩,⟨103,[],.int .i64 ((i : Nat) : Int)⟩]) [0,0,0,0] [3,5,6,7,13,18,20,103] rfl kr ?_
   refine N_env (E':=[⟨3,[],pt b1⟩,⟨5,[],pt b2⟩,⟨6,[],pt b3⟩,⟨7,[],pt b4⟩,⟨13,[],pt b21⟩,⟨18,[],.int .u32 (t1P (kAt i) (wAt (byt l) i) sv)⟩,⟨20,[],.int .u32 (t2P sv)⟩,⟨103,[],.int .i64 ((i : Nat) : Int)⟩]) kr ?_
   refine N_then ?_
   refine G_seq ?_
   refine G_regionH ([(b4,.cells (wArr (byt l) 64) 171 (0,0))]::[(b3,.cells #[.int .u32 0,.int .u32 0,.int .u32 0,.int .u32 0,.int .u32 0,.int .u32 0,.int .u32 0,.int .u32 0] 169 (0,0))]::[(b2,.cells kArr 171 (0,0))]::[(b1,.cells #[.int .u32 s.a,.int .u32 s.b,.int .u32 s.c,.int .u32 s.d,.int .u32 s.e,.int .u32 s.f,.int .u32 s.g,.int .u32 s.h] 169 (0,0))]::H) kr ?_
   refine GH_take' 0 kr (fun w h=>(h.erase 0)) (GL_sliceArr (i:=0) (ch:=[]) (b:=b21) (off:=0) (len:=8) (sz:=1) (e:=144) (vl:=(some (.int .i64 1))) (vh:=none) (l:=1) (h:=8) rfl rfl kr kr kr kr kr kr kr kr kr kr (fun _=>by decide) (GL_yend kr rfl)) ?_
   refine GH_take' 1 kr (fun w h=>(h.erase 0)) (GL_sliceArr (i:=1) (ch:=[]) (b:=b21) (off:=0) (len:=8) (sz:=1) (e:=144) (vl:=none) (vh:=(some (.int .i64 7))) (l:=0) (h:=7) rfl rfl kr kr kr kr kr kr kr kr kr kr (fun _=>by decide) (GL_yend kr rfl)) ?_
   refine GH_eff 2 kr kr kr ?_
   refine GL_copy (i:=2) (ch:=[]) (dT:=141) (sT:=141) (el:=144) (b:=b21) (o1:=1) (n1:=7) (c1:=7) (a:=⟨b21,0,none⟩) (n2:=7) (c2:=8) (c:=#[.int .u32 sv.a,.int .u32 sv.b,.int .u32 sv.c,.int .u32 sv.d,.int .u32 sv.e,.int .u32 sv.f,.int .u32 sv.g,.int .u32 sv.h]) (c':=#[.int .u32 sv.a,.int .u32 sv.a,.int .u32 sv.b,.int .u32 sv.c,.int .u32 sv.d,.int .u32 sv.e,.int .u32 sv.f,.int .u32 sv.g]) (j:=0) (m:=0) (H':=([(b21,.cells #[.int .u32 sv.a,.int .u32 sv.a,.int .u32 sv.b,.int .u32 sv.c,.int .u32 sv.d,.int .u32 sv.e,.int .u32 sv.f,.int .u32 sv.g] 169 (0,0))]::[(b4,.cells (wArr (byt l) 64) 171 (0,0))]::[(b3,.cells #[.int .u32 0,.int .u32 0,.int .u32 0,.int .u32 0,.int .u32 0,.int .u32 0,.int .u32 0,.int .u32 0] 169 (0,0))]::[(b2,.cells kArr 171 (0,0))]::[(b1,.cells #[.int .u32 s.a,.int .u32 s.b,.int .u32 s.c,.int .u32 s.d,.int .u32 s.e,.int .u32 s.f,.int .u32 s.g,.int .u32 s.h] 169 (0,0))]::H)) [.int .u32 sv.a,.int .u32 sv.b,.int .u32 sv.c,.int .u32 sv.d,.int .u32 sv.e,.int .u32 sv.f,.int .u32 sv.g] rfl rfl kr kr kr kr kr kr kr rfl rfl rfl (fun w hw k v hv=>cells_at (hw.has (b21,_) (List.mem_flatten.2 ⟨_,List.mem_of_getElem? (i:=0) rfl,List.mem_singleton.2 rfl⟩)) kr hv) (Nat.le_of_ble_eq_true rfl) kr kr kr ?_
   refine GH_back kr (fun w h=>(h.erase 0)) ?_
   refine GH_done (E':=[⟨3,[],pt b1⟩,⟨5,[],pt b2⟩,⟨6,[],pt b3⟩,⟨7,[],pt b4⟩,⟨13,[],pt b21⟩,⟨18,[],.int .u32 (t1P (kAt i) (wAt (byt l) i) sv)⟩,⟨20,[],.int .u32 (t2P sv)⟩,⟨103,[],.int .i64 ((i : Nat) : Int)⟩]) [3,5,6,7,13,18,20,103] kr kr ?_
   refine N_then ?_
   refine G_seq ?_
   refine G_region ?_
   refine GL_indexArr (i:=0) (ch:=[]) (b:=b21) (off:=0) (len:=8) (sz:=1) (e:=144) (kd:=.i64) (j:=4) rfl rfl kr kr kr kr kr kr kr (fun _=>⟨by decide,by decide⟩) ?_
   refine GL_load (i:=1) (ch:=[]) (b:=b21) (off:=4) (v:=.int .u32 sv.d) rfl rfl kr kr kr kr kr (At.grp 0 0 rfl rfl) rfl ?_
   refine GL_p [0,0] kr (j:=4) rfl ?_
   refine GL_indexArr (i:=4) (ch:=[]) (b:=b21) (off:=0) (len:=8) (sz:=1) (e:=144) (kd:=.i64) (j:=4) rfl rfl kr kr kr kr kr kr kr (fun _=>⟨by decide,by decide⟩) ?_
   refine GL_st (i:=5) (ch:=[]) (b:=b21) (off:=4) (v:=.int .u32 (IntKind.wrap .u32 (sv.d+(t1P (kAt i) (wAt (byt l) i) sv)))) (j:=0) ([(b21,.cells #[.int .u32 sv.a,.int .u32 sv.a,.int .u32 sv.b,.int .u32 sv.c,.int .u32 (IntKind.wrap .u32 (sv.d+(t1P (kAt i) (wAt (byt l) i) sv))),.int .u32 sv.e,.int .u32 sv.f,.int .u32 sv.g] 169 (0,0))]::[(b4,.cells (wArr (byt l) 64) 171 (0,0))]::[(b3,.cells #[.int .u32 0,.int .u32 0,.int .u32 0,.int .u32 0,.int .u32 0,.int .u32 0,.int .u32 0,.int .u32 0] 169 (0,0))]::[(b2,.cells kArr 171 (0,0))]::[(b1,.cells #[.int .u32 s.a,.int .u32 s.b,.int .u32 s.c,.int .u32 s.d,.int .u32 s.e,.int .u32 s.f,.int .u32 s.g,.int .u32 s.h] 169 (0,0))]::H) rfl rfl kr kr kr kr kr kr kr rfl rfl (Nat.le_of_ble_eq_true rfl) (fun _ _=>thaw0) kr ?_
   refine GL_fin (E':=[⟨3,[],pt b1⟩,⟨5,[],pt b2⟩,⟨6,[],pt b3⟩,⟨7,[],pt b4⟩,⟨13,[],pt b21⟩,⟨18,[],.int .u32 (t1P (kAt i) (wAt (byt l) i) sv)⟩,⟨20,[],.int .u32 (t2P sv)⟩,⟨103,[],.int .i64 ((i : Nat) : Int)⟩]) [] [3,5,6,7,13,18,20,103] rfl kr ?_
   refine N_then ?_
   refine G_region ?_
   refine GL_p [0,0,0] kr (j:=3) rfl ?_
   refine GL_indexArr (i:=3) (ch:=[]) (b:=b21) (off:=0) (len:=8) (sz:=1) (e:=144) (kd:=.i64) (j:=0) rfl rfl kr kr kr kr kr kr kr (fun _=>⟨by decide,by decide⟩) ?_
   refine GL_st (i:=4) (ch:=[]) (b:=b21) (off:=0) (v:=.int .u32 (IntKind.wrap .u32 ((t1P (kAt i) (wAt (byt l) i) sv)+(t2P sv)))) (j:=0) ([(b21,.cells #[.int .u32 (IntKind.wrap .u32 ((t1P (kAt i) (wAt (byt l) i) sv)+(t2P sv))),.int .u32 sv.a,.int .u32 sv.b,.int .u32 sv.c,.int .u32 (IntKind.wrap .u32 (sv.d+(t1P (kAt i) (wAt (byt l) i) sv))),.int .u32 sv.e,.int .u32 sv.f,.int .u32 sv.g] 169 (0,0))]::[(b4,.cells (wArr (byt l) 64) 171 (0,0))]::[(b3,.cells #[.int .u32 0,.int .u32 0,.int .u32 0,.int .u32 0,.int .u32 0,.int .u32 0,.int .u32 0,.int .u32 0] 169 (0,0))]::[(b2,.cells kArr 171 (0,0))]::[(b1,.cells #[.int .u32 s.a,.int .u32 s.b,.int .u32 s.c,.int .u32 s.d,.int .u32 s.e,.int .u32 s.f,.int .u32 s.g,.int .u32 s.h] 169 (0,0))]::H) rfl rfl kr kr kr kr kr kr kr rfl rfl (Nat.le_of_ble_eq_true rfl) (fun _ _=>thaw0) kr ?_
   refine GL_fin (E':=[⟨3,[],pt b1⟩,⟨5,[],pt b2⟩,⟨6,[],pt b3⟩,⟨7,[],pt b4⟩,⟨13,[],pt b21⟩,⟨103,[],.int .i64 ((i : Nat) : Int)⟩]) [] [3,5,6,7,13,103] rfl kr ?_
   refine N_block ?_
   refine N_then ?_
   refine G_region ?_
   refine GL_p [0] kr (j:=1) rfl ?_
   refine GL_wi 178 (((i : Nat) : Int)+1) (by omega) (by omega) kr ?_
   refine GL_fin (E':=[⟨3,[],pt b1⟩,⟨5,[],pt b2⟩,⟨6,[],pt b3⟩,⟨7,[],pt b4⟩,⟨13,[],pt b21⟩,⟨103,[],.int .i64 (((i : Nat) : Int)+1)⟩]) [0] [3,5,6,7,13,103] rfl kr ?_
   refine N_round (s':=(i+1,(rnd (kAt i) (wAt (byt l) i) sv))) [3,5,6,7,13,103] kr kr ⟨(by dsimp only; omega),(by dsimp only; rw [hsv]; rfl)⟩ (by dsimp only; omega)
  ·
   have hi3 : i = 64 := by (have h9 := of_decide_eq_false hc22; omega)
   refine G_exit ?_
   refine N_then_exit ?_
   refine N_then_exit ?_
   refine N_block_exit ?_
   refine N_then ?_
   refine G_seq ?_
   refine G_seq ?_
   refine G_pure (E':=[⟨3,[],pt b1⟩,⟨6,[],pt b3⟩,⟨13,[],pt b21⟩,⟨179,[],.int .i64 0⟩]) [0] [3,6,13,179] rfl kr ?_
   refine N_then ?_
   refine G_block ?_
   refine G_rounds 9 ?_
   refine GRd_succ ?_
   refine G_seq ?_
   refine G_pure (E':=[⟨3,[],pt b1⟩,⟨6,[],pt b3⟩,⟨13,[],pt b21⟩,⟨179,[],.int .i64 0⟩,⟨180,[],.bool true⟩]) [0] [3,6,13,179,180] rfl kr ?_
   refine N_then ?_
   refine G_seq ?_
   refine G_condt kr ?_
   refine G_skip ?_
   refine N_then ?_
   refine G_seq ?_
   refine G_block ?_
   refine G_seq ?_
   refine G_pure (E':=[⟨3,[],pt b1⟩,⟨6,[],pt b3⟩,⟨13,[],pt b21⟩,⟨21,[],.int .i64 0⟩,⟨179,[],.int .i64 0⟩]) [0,0] [3,6,13,21,179] rfl kr ?_
   refine N_then ?_
   refine G_regionH ([(b21,.cells #[.int .u32 sv.a,.int .u32 sv.b,.int .u32 sv.c,.int .u32 sv.d,.int .u32 sv.e,.int .u32 sv.f,.int .u32 sv.g,.int .u32 sv.h] 169 (0,0))]::[(b4,.cells (wArr (byt l) 64) 171 (0,0))]::[(b3,.cells #[.int .u32 0,.int .u32 0,.int .u32 0,.int .u32 0,.int .u32 0,.int .u32 0,.int .u32 0,.int .u32 0] 169 (0,0))]::[(b2,.cells kArr 171 (0,0))]::H) kr ?_
   refine GH_p (fuel:=8) [(0,0)] (fun w h=>(h.erase 4)) kr rfl ?_
   refine GH_take' 1 kr (fun w h=>(h.erase 4)) (GL_indexArr (i:=1) (ch:=[]) (b:=b1) (off:=0) (len:=8) (sz:=1) (e:=144) (kd:=.i64) (j:=0) rfl rfl kr kr kr kr kr kr kr (fun _=>⟨by decide,by decide⟩) (GL_yend kr rfl)) ?_
   refine GH_p (fuel:=6) [(3,0)] (fun w h=>(h.erase 4)) kr rfl ?_
   refine GH_take' 4 kr (fun w h=>(h.erase 4)) (GL_indexArr (i:=4) (ch:=[]) (b:=b21) (off:=0) (len:=8) (sz:=1) (e:=144) (kd:=.i64) (j:=0) rfl rfl kr kr kr kr kr kr kr (fun _=>⟨by decide,by decide⟩) (GL_yend kr rfl)) ?_
   refine GH_take' 5 kr (fun w h=>(h.erase 4)) (GL_load (i:=5) (ch:=[]) (b:=b21) (off:=0) (v:=.int .u32 sv.a) rfl rfl kr kr kr kr kr (At.grp 0 0 rfl rfl) rfl (GL_yend kr rfl)) ?_
   refine GH_eff 2 kr kr kr ?_
   refine GL_load (i:=2) (ch:=[]) (b:=b1) (off:=0) (v:=.int .u32 s.a) rfl rfl kr kr kr kr kr (At.grp 4 0 rfl rfl) rfl ?_
   refine GH_back kr (fun w h=>(h.erase 4)) ?_
   refine GH_p (fuel:=2) [(6,0)] (fun w h=>(h.erase 4)) kr rfl ?_
   refine GH_take' 7 kr (fun w h=>(h.erase 4)) (GL_indexArr (i:=7) (ch:=[]) (b:=b1) (off:=0) (len:=8) (sz:=1) (e:=144) (kd:=.i64) (j:=0) rfl rfl kr kr kr kr kr kr kr (fun _=>⟨by decide,by decide⟩) (GL_yend kr rfl)) ?_
   refine GH_eff 8 kr kr kr ?_
   refine GL_st (i:=8) (ch:=[]) (b:=b1) (off:=0) (v:=.int .u32 (IntKind.wrap .u32 (s.a+sv.a))) (j:=4) ([(b21,.cells #[.int .u32 sv.a,.int .u32 sv.b,.int .u32 sv.c,.int .u32 sv.d,.int .u32 sv.e,.int .u32 sv.f,.int .u32 sv.g,.int .u32 sv.h] 169 (0,0))]::[(b4,.cells (wArr (byt l) 64) 171 (0,0))]::[(b3,.cells #[.int .u32 0,.int .u32 0,.int .u32 0,.int .u32 0,.int .u32 0,.int .u32 0,.int .u32 0,.int .u32 0] 169 (0,0))]::[(b2,.cells kArr 171 (0,0))]::[(b1,.cells #[.int .u32 (IntKind.wrap .u32 (s.a+sv.a)),.int .u32 s.b,.int .u32 s.c,.int .u32 s.d,.int .u32 s.e,.int .u32 s.f,.int .u32 s.g,.int .u32 s.h] 169 (0,0))]::H) rfl rfl kr kr kr kr kr kr kr rfl rfl (Nat.le_of_ble_eq_true rfl) (fun _ _=>thaw0) kr ?_
   refine GH_back kr (fun w h=>(h.erase 4)) ?_
   refine GH_done (E':=[⟨3,[],pt b1⟩,⟨6,[],pt b3⟩,⟨13,[],pt b21⟩,⟨179,[],.int .i64 0⟩]) [3,6,13,179] kr kr ?_
   refine N_block ?_
   refine N_then ?_
   refine G_pure (E':=[⟨3,[],pt b1⟩,⟨6,[],pt b3⟩,⟨13,[],pt b21⟩,⟨179,[],.int .i64 1⟩]) [0,0] [3,6,13,179] rfl kr ?_
   refine N_rd ?_
   refine GRd_succ ?_
   refine G_seq ?_
   refine G_pure (E':=[⟨3,[],pt b1⟩,⟨6,[],pt b3⟩,⟨13,[],pt b21⟩,⟨179,[],.int .i64 1⟩,⟨180,[],.bool true⟩]) [0] [3,6,13,179,180] rfl kr ?_
   refine N_then ?_
   refine G_seq ?_
   refine G_condt kr ?_
   refine G_skip ?_
   refine N_then ?_
   refine G_seq ?_
   refine G_block ?_
   refine G_seq ?_
   refine G_pure (E':=[⟨3,[],pt b1⟩,⟨6,[],pt b3⟩,⟨13,[],pt b21⟩,⟨21,[],.int .i64 1⟩,⟨179,[],.int .i64 1⟩]) [0,0] [3,6,13,21,179] rfl kr ?_
   refine N_then ?_
   refine G_regionH ([(b21,.cells #[.int .u32 sv.a,.int .u32 sv.b,.int .u32 sv.c,.int .u32 sv.d,.int .u32 sv.e,.int .u32 sv.f,.int .u32 sv.g,.int .u32 sv.h] 169 (0,0))]::[(b4,.cells (wArr (byt l) 64) 171 (0,0))]::[(b3,.cells #[.int .u32 0,.int .u32 0,.int .u32 0,.int .u32 0,.int .u32 0,.int .u32 0,.int .u32 0,.int .u32 0] 169 (0,0))]::[(b2,.cells kArr 171 (0,0))]::H) kr ?_
   refine GH_p (fuel:=8) [(0,0)] (fun w h=>(h.erase 4)) kr rfl ?_
   refine GH_take' 1 kr (fun w h=>(h.erase 4)) (GL_indexArr (i:=1) (ch:=[]) (b:=b1) (off:=0) (len:=8) (sz:=1) (e:=144) (kd:=.i64) (j:=1) rfl rfl kr kr kr kr kr kr kr (fun _=>⟨by decide,by decide⟩) (GL_yend kr rfl)) ?_
   refine GH_p (fuel:=6) [(3,0)] (fun w h=>(h.erase 4)) kr rfl ?_
   refine GH_take' 4 kr (fun w h=>(h.erase 4)) (GL_indexArr (i:=4) (ch:=[]) (b:=b21) (off:=0) (len:=8) (sz:=1) (e:=144) (kd:=.i64) (j:=1) rfl rfl kr kr kr kr kr kr kr (fun _=>⟨by decide,by decide⟩) (GL_yend kr rfl)) ?_
   refine GH_take' 5 kr (fun w h=>(h.erase 4)) (GL_load (i:=5) (ch:=[]) (b:=b21) (off:=1) (v:=.int .u32 sv.b) rfl rfl kr kr kr kr kr (At.grp 0 0 rfl rfl) rfl (GL_yend kr rfl)) ?_
   refine GH_eff 2 kr kr kr ?_
   refine GL_load (i:=2) (ch:=[]) (b:=b1) (off:=1) (v:=.int .u32 s.b) rfl rfl kr kr kr kr kr (At.grp 4 0 rfl rfl) rfl ?_
   refine GH_back kr (fun w h=>(h.erase 4)) ?_
   refine GH_p (fuel:=2) [(6,0)] (fun w h=>(h.erase 4)) kr rfl ?_
   refine GH_take' 7 kr (fun w h=>(h.erase 4)) (GL_indexArr (i:=7) (ch:=[]) (b:=b1) (off:=0) (len:=8) (sz:=1) (e:=144) (kd:=.i64) (j:=1) rfl rfl kr kr kr kr kr kr kr (fun _=>⟨by decide,by decide⟩) (GL_yend kr rfl)) ?_
   refine GH_eff 8 kr kr kr ?_
   refine GL_st (i:=8) (ch:=[]) (b:=b1) (off:=1) (v:=.int .u32 (IntKind.wrap .u32 (s.b+sv.b))) (j:=4) ([(b21,.cells #[.int .u32 sv.a,.int .u32 sv.b,.int .u32 sv.c,.int .u32 sv.d,.int .u32 sv.e,.int .u32 sv.f,.int .u32 sv.g,.int .u32 sv.h] 169 (0,0))]::[(b4,.cells (wArr (byt l) 64) 171 (0,0))]::[(b3,.cells #[.int .u32 0,.int .u32 0,.int .u32 0,.int .u32 0,.int .u32 0,.int .u32 0,.int .u32 0,.int .u32 0] 169 (0,0))]::[(b2,.cells kArr 171 (0,0))]::[(b1,.cells #[.int .u32 (IntKind.wrap .u32 (s.a+sv.a)),.int .u32 (IntKind.wrap .u32 (s.b+sv.b)),.int .u32 s.c,.int .u32 s.d,.int .u32 s.e,.int .u32 s.f,.int .u32 s.g,.int .u32 s.h] 169 (0,0))]::H) rfl rfl kr kr kr kr kr kr kr rfl rfl (Nat.le_of_ble_eq_true rfl) (fun _ _=>thaw0) kr ?_
   refine GH_back kr (fun w h=>(h.erase 4)) ?_
   refine GH_done (E':=[⟨3,[],pt b1⟩,⟨6,[],pt b3⟩,⟨13,[],pt b21⟩,⟨179,[],.int .i64 1⟩]) [3,6,13,179] kr kr ?_
   refine N_block ?_
   refine N_then ?_
   refine G_pure (E':=[⟨3,[],pt b1⟩,⟨6,[],pt b3⟩,⟨13,[],pt b21⟩,⟨179,[],.int .i64 2⟩]) [0,0] [3,6,13,179] rfl kr ?_
   refine N_rd ?_
   refine GRd_succ ?_
   refine G_seq ?_
   refine G_pure (E':=[⟨3,[],pt b1⟩,⟨6,[],pt b3⟩,⟨13,[],pt b21⟩,⟨179,[],.int .i64 2⟩,⟨180,[],.bool true⟩]) [0] [3,6,13,179,180] rfl kr ?_
   refine N_then ?_
   refine G_seq ?_
   refine G_condt kr ?_
   refine G_skip ?_
   refine N_then ?_
   refine G_seq ?_
   refine G_block ?_
   refine G_seq ?_
   refine G_pure (E':=[⟨3,[],pt b1⟩,⟨6,[],pt b3⟩,⟨13,[],pt b21⟩,⟨21,[],.int .i64 2⟩,⟨179,[],.int .i64 2⟩]) [0,0] [3,6,13,21,179] rfl kr ?_
   refine N_then ?_
   refine G_regionH ([(b21,.cells #[.int .u32 sv.a,.int .u32 sv.b,.int .u32 sv.c,.int .u32 sv.d,.int .u32 sv.e,.int .u32 sv.f,.int .u32 sv.g,.int .u32 sv.h] 169 (0,0))]::[(b4,.cells (wArr (byt l) 64) 171 (0,0))]::[(b3,.cells #[.int .u32 0,.int .u32 0,.int .u32 0,.int .u32 0,.int .u32 0,.int .u32 0,.int .u32 0,.int .u32 0] 169 (0,0))]::[(b2,.cells kArr 171 (0,0))]::H) kr ?_
   refine GH_p (fuel:=8) [(0,0)] (fun w h=>(h.erase 4)) kr rfl ?_
   refine GH_take' 1 kr (fun w h=>(h.erase 4)) (GL_indexArr (i:=1) (ch:=[]) (b:=b1) (off:=0) (len:=8) (sz:=1) (e:=144) (kd:=.i64) (j:=2) rfl rfl kr kr kr kr kr kr kr (fun _=>⟨by decide,by decide⟩) (GL_yend kr rfl)) ?_
   refine GH_p (fuel:=6) [(3,0)] (fun w h=>(h.erase 4)) kr rfl ?_
   refine GH_take' 4 kr (fun w h=>(h.erase 4)) (GL_indexArr (i:=4) (ch:=[]) (b:=b21) (off:=0) (len:=8) (sz:=1) (e:=144) (kd:=.i64) (j:=2) rfl rfl kr kr kr kr kr kr kr (fun _=>⟨by decide,by decide⟩) (GL_yend kr rfl)) ?_
   refine GH_take' 5 kr (fun w h=>(h.erase 4)) (GL_load (i:=5) (ch:=[]) (b:=b21) (off:=2) (v:=.int .u32 sv.c) rfl rfl kr kr kr kr kr (At.grp 0 0 rfl rfl) rfl (GL_yend kr rfl)) ?_
   refine GH_eff 2 kr kr kr ?_
   refine GL_load (i:=2) (ch:=[]) (b:=b1) (off:=2) (v:=.int .u32 s.c) rfl rfl kr kr kr kr kr (At.grp 4 0 rfl rfl) rfl ?_
   refine GH_back kr (fun w h=>(h.erase 4)) ?_
   refine GH_p (fuel:=2) [(6,0)] (fun w h=>(h.erase 4)) kr rfl ?_
   refine GH_take' 7 kr (fun w h=>(h.erase 4)) (GL_indexArr (i:=7) (ch:=[]) (b:=b1) (off:=0) (len:=8) (sz:=1) (e:=144) (kd:=.i64) (j:=2) rfl rfl kr kr kr kr kr kr kr (fun _=>⟨by decide,by decide⟩) (GL_yend kr rfl)) ?_
   refine GH_eff 8 kr kr kr ?_
   refine GL_st (i:=8) (ch:=[]) (b:=b1) (off:=2) (v:=.int .u32 (IntKind.wrap .u32 (s.c+sv.c))) (j:=4) ([(b21,.cells #[.int .u32 sv.a,.int .u32 sv.b,.int .u32 sv.c,.int .u32 sv.d,.int .u32 sv.e,.int .u32 sv.f,.int .u32 sv.g,.int .u32 sv.h] 169 (0,0))]::[(b4,.cells (wArr (byt l) 64) 171 (0,0))]::[(b3,.cells #[.int .u32 0,.int .u32 0,.int .u32 0,.int .u32 0,.int .u32 0,.int .u32 0,.int .u32 0,.int .u32 0] 169 (0,0))]::[(b2,.cells kArr 171 (0,0))]::[(b1,.cells #[.int .u32 (IntKind.wrap .u32 (s.a+sv.a)),.int .u32 (IntKind.wrap .u32 (s.b+sv.b)),.int .u32 (IntKind.wrap .u32 (s.c+sv.c)),.int .u32 s.d,.int .u32 s.e,.int .u32 s.f,.int .u32 s.g,.int .u32 s.h] 169 (0,0))]::H) rfl rfl kr kr kr kr kr kr kr rfl rfl (Nat.le_of_ble_eq_true rfl) (fun _ _=>thaw0) kr ?_
   refine GH_back kr (fun w h=>(h.erase 4)) ?_
   refine GH_done (E':=[⟨3,[],pt b1⟩,⟨6,[],pt b3⟩,⟨13,[],pt b21⟩,⟨179,[],.int .i64 2⟩]) [3,6,13,179] kr kr ?_
   refine N_block ?_
   refine N_then ?_
   refine G_pure (E':=[⟨3,[],pt b1⟩,⟨6,[],pt b3⟩,⟨13,[],pt b21⟩,⟨179,[],.int .i64 3⟩]) [0,0] [3,6,13,179] rfl kr ?_
   refine N_rd ?_
   refine GRd_succ ?_
   refine G_seq ?_
   refine G_pure (E':=[⟨3,[],pt b1⟩,⟨6,[],pt b3⟩,⟨13,[],pt b21⟩,⟨179,[],.int .i64 3⟩,⟨180,[],.bool true⟩]) [0] [3,6,13,179,180] rfl kr ?_
   refine N_then ?_
   refine G_seq ?_
   refine G_condt kr ?_
   refine G_skip ?_
   refine N_then ?_
   refine G_seq ?_
   refine G_block ?_
   refine G_seq ?_
   refine G_pure (E':=[⟨3,[],pt b1⟩,⟨6,[],pt b3⟩,⟨13,[],pt b21⟩,⟨21,[],.int .i64 3⟩,⟨179,[],.int .i64 3⟩]) [0,0] [3,6,13,21,179] rfl kr ?_
   refine N_then ?_
   refine G_regionH ([(b21,.cells #[.int .u32 sv.a,.int .u32 sv.b,.int .u32 sv.c,.int .u32 sv.d,.int .u32 sv.e,.int .u32 sv.f,.int .u32 sv.g,.int .u32 sv.h] 169 (0,0))]::[(b4,.cells (wArr (byt l) 64) 171 (0,0))]::[(b3,.cells #[.int .u32 0,.int .u32 0,.int .u32 0,.int .u32 0,.int .u32 0,.int .u32 0,.int .u32 0,.int .u32 0] 169 (0,0))]::[(b2,.cells kArr 171 (0,0))]::H) kr ?_
   refine GH_p (fuel:=8) [(0,0)] (fun w h=>(h.erase 4)) kr rfl ?_
   refine GH_take' 1 kr (fun w h=>(h.erase 4)) (GL_indexArr (i:=1) (ch:=[]) (b:=b1) (off:=0) (len:=8) (sz:=1) (e:=144) (kd:=.i64) (j:=3) rfl rfl kr kr kr kr kr kr kr (fun _=>⟨by decide,by decide⟩) (GL_yend kr rfl)) ?_
   refine GH_p (fuel:=6) [(3,0)] (fun w h=>(h.erase 4)) kr rfl ?_
   refine GH_take' 4 kr (fun w h=>(h.erase 4)) (GL_indexArr (i:=4) (ch:=[]) (b:=b21) (off:=0) (len:=8) (sz:=1) (e:=144) (kd:=.i64) (j:=3) rfl rfl kr kr kr kr kr kr kr (fun _=>⟨by decide,by decide⟩) (GL_yend kr rfl)) ?_
   refine GH_take' 5 kr (fun w h=>(h.erase 4)) (GL_load (i:=5) (ch:=[]) (b:=b21) (off:=3) (v:=.int .u32 sv.d) rfl rfl kr kr kr kr kr (At.grp 0 0 rfl rfl) rfl (GL_yend kr rfl)) ?_
   refine GH_eff 2 kr kr kr ?_
   refine GL_load (i:=2) (ch:=[]) (b:=b1) (off:=3) (v:=.int .u32 s.d) rfl rfl kr kr kr kr kr (At.grp 4 0 rfl rfl) rfl ?_
   refine GH_back kr (fun w h=>(h.erase 4)) ?_
   refine GH_p (fuel:=2) [(6,0)] (fun w h=>(h.erase 4)) kr rfl ?_
   refine GH_take' 7 kr (fun w h=>(h.erase 4)) (GL_indexArr (i:=7) (ch:=[]) (b:=b1) (off:=0) (len:=8) (sz:=1) (e:=144) (kd:=.i64) (j:=3) rfl rfl kr kr kr kr kr kr kr (fun _=>⟨by decide,by decide⟩) (GL_yend kr rfl)) ?_
   refine GH_eff 8 kr kr kr ?_
   refine GL_st (i:=8) (ch:=[]) (b:=b1) (off:=3) (v:=.int .u32 (IntKind.wrap .u32 (s.d+sv.d))) (j:=4) ([(b21,.cells #[.int .u32 sv.a,.int .u32 sv.b,.int .u32 sv.c,.int .u32 sv.d,.int .u32 sv.e,.int .u32 sv.f,.int .u32 sv.g,.int .u32 sv.h] 169 (0,0))]::[(b4,.cells (wArr (byt l) 64) 171 (0,0))]::[(b3,.cells #[.int .u32 0,.int .u32 0,.int .u32 0,.int .u32 0,.int .u32 0,.int .u32 0,.int .u32 0,.int .u32 0] 169 (0,0))]::[(b2,.cells kArr 171 (0,0))]::[(b1,.cells #[.int .u32 (IntKind.wrap .u32 (s.a+sv.a)),.int .u32 (IntKind.wrap .u32 (s.b+sv.b)),.int .u32 (IntKind.wrap .u32 (s.c+sv.c)),.int .u32 (IntKind.wrap .u32 (s.d+sv.d)),.int .u32 s.e,.int .u32 s.f,.int .u32 s.g,.int .u32 s.h] 169 (0,0))]::H) rfl rfl kr kr kr kr kr kr kr rfl rfl (Nat.le_of_ble_eq_true rfl) (fun _ _=>thaw0) kr ?_
   refine GH_back kr (fun w h=>(h.erase 4)) ?_
   refine GH_done (E':=[⟨3,[],pt b1⟩,⟨6,[],pt b3⟩,⟨13,[],pt b21⟩,⟨179,[],.int .i64 3⟩]) [3,6,13,179] kr kr ?_
   refine N_block ?_
   refine N_then ?_
   refine G_pure (E':=[⟨3,[],pt b1⟩,⟨6,[],pt b3⟩,⟨13,[],pt b21⟩,⟨179,[],.int .i64 4⟩]) [0,0] [3,6,13,179] rfl kr ?_
   refine N_rd ?_
   refine GRd_succ ?_
   refine G_seq ?_
   refine G_pure (E':=[⟨3,[],pt b1⟩,⟨6,[],pt b3⟩,⟨13,[],pt b21⟩,⟨179,[],.int .i64 4⟩,⟨180,[],.bool true⟩]) [0] [3,6,13,179,180] rfl kr ?_
   refine N_then ?_
   refine G_seq ?_
   refine G_condt kr ?_
   refine G_skip ?_
   refine N_then ?_
   refine G_seq ?_
   refine G_block ?_
   refine G_seq ?_
   refine G_pure (E':=[⟨3,[],pt b1⟩,⟨6,[],pt b3⟩,⟨13,[],pt b21⟩,⟨21,[],.int .i64 4⟩,⟨179,[],.int .i64 4⟩]) [0,0] [3,6,13,21,179] rfl kr ?_
   refine N_then ?_
   refine G_regionH ([(b21,.cells #[.int .u32 sv.a,.int .u32 sv.b,.int .u32 sv.c,.int .u32 sv.d,.int .u32 sv.e,.int .u32 sv.f,.int .u32 sv.g,.int .u32 sv.h] 169 (0,0))]::[(b4,.cells (wArr (byt l) 64) 171 (0,0))]::[(b3,.cells #[.int .u32 0,.int .u32 0,.int .u32 0,.int .u32 0,.int .u32 0,.int .u32 0,.int .u32 0,.int .u32 0] 169 (0,0))]::[(b2,.cells kArr 171 (0,0))]::H) kr ?_
   refine GH_p (fuel:=8) [(0,0)] (fun w h=>(h.erase 4)) kr rfl ?_
   refine GH_take' 1 kr (fun w h=>(h.erase 4)) (GL_indexArr (i:=1) (ch:=[]) (b:=b1) (off:=0) (len:=8) (sz:=1) (e:=144) (kd:=.i64) (j:=4) rfl rfl kr kr kr kr kr kr kr (fun _=>⟨by decide,by decide⟩) (GL_yend kr rfl)) ?_
   refine GH_p (fuel:=6) [(3,0)] (fun w h=>(h.erase 4)) kr rfl ?_
   refine GH_take' 4 kr (fun w h=>(h.erase 4)) (GL_indexArr (i:=4) (ch:=[]) (b:=b21) (off:=0) (len:=8) (sz:=1) (e:=144) (kd:=.i64) (j:=4) rfl rfl kr kr kr kr kr kr kr (fun _=>⟨by decide,by decide⟩) (GL_yend kr rfl)) ?_
   refine GH_take' 5 kr (fun w h=>(h.erase 4)) (GL_load (i:=5) (ch:=[]) (b:=b21) (off:=4) (v:=.int .u32 sv.e) rfl rfl kr kr kr kr kr (At.grp 0 0 rfl rfl) rfl (GL_yend kr rfl)) ?_
   refine GH_eff 2 kr kr kr ?_
   refine GL_load (i:=2) (ch:=[]) (b:=b1) (off:=4) (v:=.int .u32 s.e) rfl rfl kr kr kr kr kr (At.grp 4 0 rfl rfl) rfl ?_
   refine GH_back kr (fun w h=>(h.erase 4)) ?_
   refine GH_p (fuel:=2) [(6,0)] (fun w h=>(h.erase 4)) kr rfl ?_
   refine GH_take' 7 kr (fun w h=>(h.erase 4)) (GL_indexArr (i:=7) (ch:=[]) (b:=b1) (off:=0) (len:=8) (sz:=1) (e:=144) (kd:=.i64) (j:=4) rfl rfl kr kr kr kr kr kr kr (fun _=>⟨by decide,by decide⟩) (GL_yend kr rfl)) ?_
   refine GH_eff 8 kr kr kr ?_
   refine GL_st (i:=8) (ch:=[]) (b:=b1) (off:=4) (v:=.int .u32 (IntKind.wrap .u32 (s.e+sv.e))) (j:=4) ([(b21,.cells #[.int .u32 sv.a,.int .u32 sv.b,.int .u32 sv.c,.int .u32 sv.d,.int .u32 sv.e,.int .u32 sv.f,.int .u32 sv.g,.int .u32 sv.h] 169 (0,0))]::[(b4,.cells (wArr (byt l) 64) 171 (0,0))]::[(b3,.cells #[.int .u32 0,.int .u32 0,.int .u32 0,.int .u32 0,.int .u32 0,.int .u32 0,.int .u32 0,.int .u32 0] 169 (0,0))]::[(b2,.cells kArr 171 (0,0))]::[(b1,.cells #[.int .u32 (IntKind.wrap .u32 (s.a+sv.a)),.int .u32 (IntKind.wrap .u32 (s.b+sv.b)),.int .u32 (IntKind.wrap .u32 (s.c+sv.c)),.int .u32 (IntKind.wrap .u32 (s.d+sv.d)),.int .u32 (IntKind.wrap .u32 (s.e+sv.e)),.int .u32 s.f,.int .u32 s.g,.int .u32 s.h] 169 (0,0))]::H) rfl rfl kr kr kr kr kr kr kr rfl rfl (Nat.le_of_ble_eq_true rfl) (fun _ _=>thaw0) kr ?_
   refine GH_back kr (fun w h=>(h.erase 4)) ?_
   refine GH_done (E':=[⟨3,[],pt b1⟩,⟨6,[],pt b3⟩,⟨13,[],pt b21⟩,⟨179,[],.int .i64 4⟩]) [3,6,13,179] kr kr ?_
   refine N_block ?_
   refine N_then ?_
   refine G_pure (E':=[⟨3,[],pt b1⟩,⟨6,[],pt b3⟩,⟨13,[],pt b21⟩,⟨179,[],.int .i64 5⟩]) [0,0] [3,6,13,179] rfl kr ?_
   refine N_rd ?_
   refine GRd_succ ?_
   refine G_seq ?_
   refine G_pure (E':=[⟨3,[],pt b1⟩,⟨6,[],pt b3⟩,⟨13,[],pt b21⟩,⟨179,[],.int .i64 5⟩,⟨180,[],.bool true⟩]) [0] [3,6,13,179,180] rfl kr ?_
   refine N_then ?_
   refine G_seq ?_
   refine G_condt kr ?_
   refine G_skip ?_
   refine N_then ?_
   refine G_seq ?_
   refine G_block ?_
   refine G_seq ?_
   refine G_pure (E':=[⟨3,[],pt b1⟩,⟨6,[],pt b3⟩,⟨13,[],pt b21⟩,⟨21,[],.int .i64 5⟩,⟨179,[],.int .i64 5⟩]) [0,0] [3,6,13,21,179] rfl kr ?_
   refine N_then ?_
   refine G_regionH ([(b21,.cells #[.int .u32 sv.a,.int .u32 sv.b,.int .u32 sv.c,.int .u32 sv.d,.int .u32 sv.e,.int .u32 sv.f,.int .u32 sv.g,.int .u32 sv.h] 169 (0,0))]::[(b4,.cells (wArr (byt l) 64) 171 (0,0))]::[(b3,.cells #[.int .u32 0,.int .u32 0,.int .u32 0,.int .u32 0,.int .u32 0,.int .u32 0,.int .u32 0,.int .u32 0] 169 (0,0))]::[(b2,.cells kArr 171 (0,0))]::H) kr ?_
   refine GH_p (fuel:=8) [(0,0)] (fun w h=>(h.erase 4)) kr rfl ?_
   refine GH_take' 1 kr (fun w h=>(h.erase 4)) (GL_indexArr (i:=1) (ch:=[]) (b:=b1) (off:=0) (len:=8) (sz:=1) (e:=144) (kd:=.i64) (j:=5) rfl rfl kr kr kr kr kr kr kr (fun _=>⟨by decide,by decide⟩) (GL_yend kr rfl)) ?_
   refine GH_p (fuel:=6) [(3,0)] (fun w h=>(h.erase 4)) kr rfl ?_
   refine GH_take' 4 kr (fun w h=>(h.erase 4)) (GL_indexArr (i:=4) (ch:=[]) (b:=b21) (off:=0) (len:=8) (sz:=1) (e:=144) (kd:=.i64) (j:=5) rfl rfl kr kr kr kr kr kr kr (fun _=>⟨by decide,by decide⟩) (GL_yend kr rfl)) ?_
   refine GH_take' 5 kr (fun w h=>(h.erase 4)) (GL_load (i:=5) (ch:=[]) (b:=b21) (off:=5) (v:=.int .u32 sv.f) rfl rfl kr kr kr kr kr (At.grp 0 0 rfl rfl) rfl (GL_yend kr rfl)) ?_
   refine GH_eff 2 kr kr kr ?_
   refine GL_load (i:=2) (ch:=[]) (b:=b1) (off:=5) (v:=.int .u32 s.f) rfl rfl kr kr kr kr kr (At.grp 4 0 rfl rfl) rfl ?_
   refine GH_back kr (fun w h=>(h.erase 4)) ?_
   refine GH_p (fuel:=2) [(6,0)] (fun w h=>(h.erase 4)) kr rfl ?_
   refine GH_take' 7 kr (fun w h=>(h.erase 4)) (GL_indexArr (i:=7) (ch:=[]) (b:=b1) (off:=0) (len:=8) (sz:=1) (e:=144) (kd:=.i64) (j:=5) rfl rfl kr kr kr kr kr kr kr (fun _=>⟨by decide,by decide⟩) (GL_yend kr rfl)) ?_
   refine GH_eff 8 kr kr kr ?_
   refine GL_st (i:=8) (ch:=[]) (b:=b1) (off:=5) (v:=.int .u32 (IntKind.wrap .u32 (s.f+sv.f))) (j:=4) ([(b21,.cells #[.int .u32 sv.a,.int .u32 sv.b,.int .u32 sv.c,.int .u32 sv.d,.int .u32 sv.e,.int .u32 sv.f,.int .u32 sv.g,.int .u32 sv.h] 169 (0,0))]::[(b4,.cells (wArr (byt l) 64) 171 (0,0))]::[(b3,.cells #[.int .u32 0,.int .u32 0,.int .u32 0,.int .u32 0,.int .u32 0,.int .u32 0,.int .u32 0,.int .u32 0] 169 (0,0))]::[(b2,.cells kArr 171 (0,0))]::[(b1,.cells #[.int .u32 (IntKind.wrap .u32 (s.a+sv.a)),.int .u32 (IntKind.wrap .u32 (s.b+sv.b)),.int .u32 (IntKind.wrap .u32 (s.c+sv.c)),.int .u32 (IntKind.wrap .u32 (s.d+sv.d)),.int .u32 (IntKind.wrap .u32 (s.e+sv.e)),.int .u32 (IntKind.wrap .u32 (s.f+sv.f)),.int .u32 s.g,.int .u32 s.h] 169 (0,0))]::H) rfl rfl kr kr kr kr kr kr kr rfl rfl (Nat.le_of_ble_eq_true rfl) (fun _ _=>thaw0) kr ?_
   refine GH_back kr (fun w h=>(h.erase 4)) ?_
   refine GH_done (E':=[⟨3,[],pt b1⟩,⟨6,[],pt b3⟩,⟨13,[],pt b21⟩,⟨179,[],.int .i64 5⟩]) [3,6,13,179] kr kr ?_
   refine N_block ?_
   refine N_then ?_
   refine G_pure (E':=[⟨3,[],pt b1⟩,⟨6,[],pt b3⟩,⟨13,[],pt b21⟩,⟨179,[],.int .i64 6⟩]) [0,0] [3,6,13,179] rfl kr ?_
   refine N_rd ?_
   refine GRd_succ ?_
   refine G_seq ?_
   refine G_pure (E':=[⟨3,[],pt b1⟩,⟨6,[],pt b3⟩,⟨13,[],pt b21⟩,⟨179,[],.int .i64 6⟩,⟨180,[],.bool true⟩]) [0] [3,6,13,179,180] rfl kr ?_
   refine N_then ?_
   refine G_seq ?_
   refine G_condt kr ?_
   refine G_skip ?_
   refine N_then ?_
   refine G_seq ?_
   refine G_block ?_
   refine G_seq ?_
   refine G_pure (E':=[⟨3,[],pt b1⟩,⟨6,[],pt b3⟩,⟨13,[],pt b21⟩,⟨21,[],.int .i64 6⟩,⟨179,[],.int .i64 6⟩]) [0,0] [3,6,13,21,179] rfl kr ?_
   refine N_then ?_
   refine G_regionH ([(b21,.cells #[.int .u32 sv.a,.int .u32 sv.b,.int .u32 sv.c,.int .u32 sv.d,.int .u32 sv.e,.int .u32 sv.f,.int .u32 sv.g,.int .u32 sv.h] 169 (0,0))]::[(b4,.cells (wArr (byt l) 64) 171 (0,0))]::[(b3,.cells #[.int .u32 0,.int .u32 0,.int .u32 0,.int .u32 0,.int .u32 0,.int .u32 0,.int .u32 0,.int .u32 0] 169 (0,0))]::[(b2,.cells kArr 171 (0,0))]::H) kr ?_
   refine GH_p (fuel:=8) [(0,0)] (fun w h=>(h.erase 4)) kr rfl ?_
   refine GH_take' 1 kr (fun w h=>(h.erase 4)) (GL_indexArr (i:=1) (ch:=[]) (b:=b1) (off:=0) (len:=8) (sz:=1) (e:=144) (kd:=.i64) (j:=6) rfl rfl kr kr kr kr kr kr kr (fun _=>⟨by decide,by decide⟩) (GL_yend kr rfl)) ?_
   refine GH_p (fuel:=6) [(3,0)] (fun w h=>(h.erase 4)) kr rfl ?_
   refine GH_take' 4 kr (fun w h=>(h.erase 4)) (GL_indexArr (i:=4) (ch:=[]) (b:=b21) (off:=0) (len:=8) (sz:=1) (e:=144) (kd:=.i64) (j:=6) rfl rfl kr kr kr kr kr kr kr (fun _=>⟨by decide,by decide⟩) (GL_yend kr rfl)) ?_
   refine GH_take' 5 kr (fun w h=>(h.erase 4)) (GL_load (i:=5) (ch:=[]) (b:=b21) (off:=6) (v:=.int .u32 sv.g) rfl rfl kr kr kr kr kr (At.grp 0 0 rfl rfl) rfl (GL_yend kr rfl)) ?_
   refine GH_eff 2 kr kr kr ?_
   refine GL_load (i:=2) (ch:=[]) (b:=b1) (off:=6) (v:=.int .u32 s.g) rfl rfl kr kr kr kr kr (At.grp 4 0 rfl rfl) rfl ?_
   refine GH_back kr (fun w h=>(h.erase 4)) ?_
   refine GH_p (fuel:=2) [(6,0)] (fun w h=>(h.erase 4)) kr rfl ?_
   refine GH_take' 7 kr (fun w h=>(h.erase 4)) (GL_indexArr (i:=7) (ch:=[]) (b:=b1) (off:=0) (len:=8) (sz:=1) (e:=144) (kd:=.i64) (j:=6) rfl rfl kr kr kr kr kr kr kr (fun _=>⟨by decide,by decide⟩) (GL_yend kr rfl)) ?_
   refine GH_eff 8 kr kr kr ?_
   refine GL_st (i:=8) (ch:=[]) (b:=b1) (off:=6) (v:=.int .u32 (IntKind.wrap .u32 (s.g+sv.g))) (j:=4) ([(b21,.cells #[.int .u32 sv.a,.int .u32 sv.b,.int .u32 sv.c,.int .u32 sv.d,.int .u32 sv.e,.int .u32 sv.f,.int .u32 sv.g,.int .u32 sv.h] 169 (0,0))]::[(b4,.cells (wArr (byt l) 64) 171 (0,0))]::[(b3,.cells #[.int .u32 0,.int .u32 0,.int .u32 0,.int .u32 0,.int .u32 0,.int .u32 0,.int .u32 0,.int .u32 0] 169 (0,0))]::[(b2,.cells kArr 171 (0,0))]::[(b1,.cells #[.int .u32 (IntKind.wrap .u32 (s.a+sv.a)),.int .u32 (IntKind.wrap .u32 (s.b+sv.b)),.int .u32 (IntKind.wrap .u32 (s.c+sv.c)),.int .u32 (IntKind.wrap .u32 (s.d+sv.d)),.int .u32 (IntKind.wrap .u32 (s.e+sv.e)),.int .u32 (IntKind.wrap .u32 (s.f+sv.f)),.int .u32 (IntKind.wrap .u32 (s.g+sv.g)),.int .u32 s.h] 169 (0,0))]::H) rfl rfl kr kr kr kr kr kr kr rfl rfl (Nat.le_of_ble_eq_true rfl) (fun _ _=>thaw0) kr ?_
   refine GH_back kr (fun w h=>(h.erase 4)) ?_
   refine GH_done (E':=[⟨3,[],pt b1⟩,⟨6,[],pt b3⟩,⟨13,[],pt b21⟩,⟨179,[],.int .i64 6⟩]) [3,6,13,179] kr kr ?_
   refine N_block ?_
   refine N_then ?_
   refine G_pure (E':=[⟨3,[],pt b1⟩,⟨6,[],pt b3⟩,⟨13,[],pt b21⟩,⟨179,[],.int .i64 7⟩]) [0,0] [3,6,13,179] rfl kr ?_
   refine N_rd ?_
   refine GRd_succ ?_
   refine G_seq ?_
   refine G_pure (E':=[⟨3,[],pt b1⟩,⟨6,[],pt b3⟩,⟨13,[],pt b21⟩,⟨179,[],.int .i64 7⟩,⟨180,[],.bool true⟩]) [0] [3,6,13,179,180] rfl kr ?_
   refine N_then ?_
   refine G_seq ?_
   refine G_condt kr ?_
   refine G_skip ?_
   refine N_then ?_
   refine G_seq ?_
   refine G_block ?_
   refine G_seq ?_
   refine G_pure (E':=[⟨3,[],pt b1⟩,⟨6,[],pt b3⟩,⟨13,[],pt b21⟩,⟨21,[],.int .i64 7⟩,⟨179,[],.int .i64 7⟩]) [0,0] [3,6,13,21,179] rfl kr ?_
   refine N_then ?_
   refine G_regionH ([(b21,.cells #[.int .u32 sv.a,.int .u32 sv.b,.int .u32 sv.c,.int .u32 sv.d,.int .u32 sv.e,.int .u32 sv.f,.int .u32 sv.g,.int .u32 sv.h] 169 (0,0))]::[(b4,.cells (wArr (byt l) 64) 171 (0,0))]::[(b3,.cells #[.int .u32 0,.int .u32 0,.int .u32 0,.int .u32 0,.int .u32 0,.int .u32 0,.int .u32 0,.int .u32 0] 169 (0,0))]::[(b2,.cells kArr 171 (0,0))]::H) kr ?_
   refine GH_p (fuel:=8) [(0,0)] (fun w h=>(h.erase 4)) kr rfl ?_
   refine GH_take' 1 kr (fun w h=>(h.erase 4)) (GL_indexArr (i:=1) (ch:=[]) (b:=b1) (off:=0) (len:=8) (sz:=1) (e:=144) (kd:=.i64) (j:=7) rfl rfl kr kr kr kr kr kr kr (fun _=>⟨by decide,by decide⟩) (GL_yend kr rfl)) ?_
   refine GH_p (fuel:=6) [(3,0)] (fun w h=>(h.erase 4)) kr rfl ?_
   refine GH_take' 4 kr (fun w h=>(h.erase 4)) (GL_indexArr (i:=4) (ch:=[]) (b:=b21) (off:=0) (len:=8) (sz:=1) (e:=144) (kd:=.i64) (j:=7) rfl rfl kr kr kr kr kr kr kr (fun _=>⟨by decide,by decide⟩) (GL_yend kr rfl)) ?_
   refine GH_take' 5 kr (fun w h=>(h.erase 4)) (GL_load (i:=5) (ch:=[]) (b:=b21) (off:=7) (v:=.int .u32 sv.h) rfl rfl kr kr kr kr kr (At.grp 0 0 rfl rfl) rfl (GL_yend kr rfl)) ?_
   refine GH_eff 2 kr kr kr ?_
   refine GL_load (i:=2) (ch:=[]) (b:=b1) (off:=7) (v:=.int .u32 s.h) rfl rfl kr kr kr kr kr (At.grp 4 0 rfl rfl) rfl ?_
   refine GH_back kr (fun w h=>(h.erase 4)) ?_
   refine GH_p (fuel:=2) [(6,0)] (fun w h=>(h.erase 4)) kr rfl ?_
   refine GH_take' 7 kr (fun w h=>(h.erase 4)) (GL_indexArr (i:=7) (ch:=[]) (b:=b1) (off:=0) (len:=8) (sz:=1) (e:=144) (kd:=.i64) (j:=7) rfl rfl kr kr kr kr kr kr kr (fun _=>⟨by decide,by decide⟩) (GL_yend kr rfl)) ?_
   refine GH_eff 8 kr kr kr ?_
   refine GL_st (i:=8) (ch:=[]) (b:=b1) (off:=7) (v:=.int .u32 (IntKind.wrap .u32 (s.h+sv.h))) (j:=4) ([(b21,.cells #[.int .u32 sv.a,.int .u32 sv.b,.int .u32 sv.c,.int .u32 sv.d,.int .u32 sv.e,.int .u32 sv.f,.int .u32 sv.g,.int .u32 sv.h] 169 (0,0))]::[(b4,.cells (wArr (byt l) 64) 171 (0,0))]::[(b3,.cells #[.int .u32 0,.int .u32 0,.int .u32 0,.int .u32 0,.int .u32 0,.int .u32 0,.int .u32 0,.int .u32 0] 169 (0,0))]::[(b2,.cells kArr 171 (0,0))]::[(b1,.cells #[.int .u32 (IntKind.wrap .u32 (s.a+sv.a)),.int .u32 (IntKind.wrap .u32 (s.b+sv.b)),.int .u32 (IntKind.wrap .u32 (s.c+sv.c)),.int .u32 (IntKind.wrap .u32 (s.d+sv.d)),.int .u32 (IntKind.wrap .u32 (s.e+sv.e)),.int .u32 (IntKind.wrap .u32 (s.f+sv.f)),.int .u32 (IntKind.wrap .u32 (s.g+sv.g)),.int .u32 (IntKind.wrap .u32 (s.h+sv.h))] 169 (0,0))]::H) rfl rfl kr kr kr kr kr kr kr rfl rfl (Nat.le_of_ble_eq_true rfl) (fun _ _=>thaw0) kr ?_
   refine GH_back kr (fun w h=>(h.erase 4)) ?_
   refine GH_done (E':=[⟨3,[],pt b1⟩,⟨6,[],pt b3⟩,⟨13,[],pt b21⟩,⟨179,[],.int .i64 7⟩]) [3,6,13,179] kr kr ?_
   refine N_block ?_
   refine N_then ?_
   refine G_pure (E':=[⟨3,[],pt b1⟩,⟨6,[],pt b3⟩,⟨13,[],pt b21⟩,⟨179,[],.int .i64 8⟩]) [0,0] [3,6,13,179] rfl kr ?_
   refine N_rd ?_
   refine GRd_succ ?_
   refine G_seq ?_
   refine G_pure (E':=[⟨3,[],pt b1⟩,⟨6,[],pt b3⟩,⟨13,[],pt b21⟩,⟨179,[],.int .i64 8⟩,⟨180,[],.bool false⟩]) [0] [3,6,13,179,180] rfl kr ?_
   refine N_then ?_
   refine G_seq ?_
   refine G_condf kr ?_
   refine G_exit ?_
   refine N_then_exit ?_
   refine N_then_exit ?_
   refine N_block_exit ?_
   refine N_then ?_
   refine G_seq ?_
   refine G_region ?_
   refine GL_loadA (i:=0) (ch:=[]) (b:=b1) (off:=0) (l:=[.int .u32 (IntKind.wrap .u32 (s.a+sv.a)),.int .u32 (IntKind.wrap .u32 (s.b+sv.b)),.int .u32 (IntKind.wrap .u32 (s.c+sv.c)),.int .u32 (IntKind.wrap .u32 (s.d+sv.d)),.int .u32 (IntKind.wrap .u32 (s.e+sv.e)),.int .u32 (IntKind.wrap .u32 (s.f+sv.f)),.int .u32 (IntKind.wrap .u32 (s.g+sv.g)),.int .u32 (IntKind.wrap .u32 (s.h+sv.h))]) rfl rfl kr kr kr kr kr kr (At.grp 4 0 rfl rfl) kr ?_
   refine GL_st (i:=1) (ch:=[]) (b:=b3) (off:=0) (v:=.agg #[.int .u32 (IntKind.wrap .u32 (s.a+sv.a)),.int .u32 (IntKind.wrap .u32 (s.b+sv.b)),.int .u32 (IntKind.wrap .u32 (s.c+sv.c)),.int .u32 (IntKind.wrap .u32 (s.d+sv.d)),.int .u32 (IntKind.wrap .u32 (s.e+sv.e)),.int .u32 (IntKind.wrap .u32 (s.f+sv.f)),.int .u32 (IntKind.wrap .u32 (s.g+sv.g)),.int .u32 (IntKind.wrap .u32 (s.h+sv.h))]) (j:=2) ([(b21,.cells #[.int .u32 sv.a,.int .u32 sv.b,.int .u32 sv.c,.int .u32 sv.d,.int .u32 sv.e,.int .u32 sv.f,.int .u32 sv.g,.int .u32 sv.h] 169 (0,0))]::[(b4,.cells (wArr (byt l) 64) 171 (0,0))]::[(b3,.cells #[.int .u32 (IntKind.wrap .u32 (s.a+sv.a)),.int .u32 (IntKind.wrap .u32 (s.b+sv.b)),.int .u32 (IntKind.wrap .u32 (s.c+sv.c)),.int .u32 (IntKind.wrap .u32 (s.d+sv.d)),.int .u32 (IntKind.wrap .u32 (s.e+sv.e)),.int .u32 (IntKind.wrap .u32 (s.f+sv.f)),.int .u32 (IntKind.wrap .u32 (s.g+sv.g)),.int .u32 (IntKind.wrap .u32 (s.h+sv.h))] 169 (0,0))]::[(b2,.cells kArr 171 (0,0))]::[(b1,.cells #[.int .u32 (IntKind.wrap .u32 (s.a+sv.a)),.int .u32 (IntKind.wrap .u32 (s.b+sv.b)),.int .u32 (IntKind.wrap .u32 (s.c+sv.c)),.int .u32 (IntKind.wrap .u32 (s.d+sv.d)),.int .u32 (IntKind.wrap .u32 (s.e+sv.e)),.int .u32 (IntKind.wrap .u32 (s.f+sv.f)),.int .u32 (IntKind.wrap .u32 (s.g+sv.g)),.int .u32 (IntKind.wrap .u32 (s.h+sv.h))] 169 (0,0))]::H) rfl rfl kr kr kr kr kr kr kr rfl rfl (Nat.le_of_ble_eq_true rfl) (fun _ _=>thaw0) kr ?_
   refine GL_fin (E':=[⟨6,[],pt b3⟩]) [] [6] rfl kr ?_
   refine N_then ?_
   refine G_ret ?_
   refine N_retC [.cell 6 169] [.agg #[.int .u32 (IntKind.wrap .u32 (s.a+sv.a)),.int .u32 (IntKind.wrap .u32 (s.b+sv.b)),.int .u32 (IntKind.wrap .u32 (s.c+sv.c)),.int .u32 (IntKind.wrap .u32 (s.d+sv.d)),.int .u32 (IntKind.wrap .u32 (s.e+sv.e)),.int .u32 (IntKind.wrap .u32 (s.f+sv.f)),.int .u32 (IntKind.wrap .u32 (s.g+sv.g)),.int .u32 (IntKind.wrap .u32 (s.h+sv.h))]] rfl (.cons (.agg (b:=b3) (off:=0) (l:=[.int .u32 (IntKind.wrap .u32 (s.a+sv.a)),.int .u32 (IntKind.wrap .u32 (s.b+sv.b)),.int .u32 (IntKind.wrap .u32 (s.c+sv.c)),.int .u32 (IntKind.wrap .u32 (s.d+sv.d)),.int .u32 (IntKind.wrap .u32 (s.e+sv.e)),.int .u32 (IntKind.wrap .u32 (s.f+sv.f)),.int .u32 (IntKind.wrap .u32 (s.g+sv.g)),.int .u32 (IntKind.wrap .u32 (s.h+sv.h))]) kr kr kr (At.grp 2 0 rfl rfl) kr) (.nil)) rfl ⟨H,?_,fun w h=>(((((h.erase 4).erase 3).erase 2).erase 1).erase 0)⟩
   have hcm : compress (byt l) s = addS s sv := by (rw [hsv, hi3]; rfl)
   exact ⟨by rw [hcm]; kernel_rfl, rfl⟩
end Go.Proofs.YtlaoeiaaeifidaaGreat
