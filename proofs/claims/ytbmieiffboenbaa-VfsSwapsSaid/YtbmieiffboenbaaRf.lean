/- The disk's calls: what each makes of the disk that stands in memory (Sync, Append, Read, List, SyncDir). Conditions: the numbers are small. -/
import Derived.Test.YtbmieiffboenbaaRe
namespace Go.Vf
open Go.Sw Go.RowKit Go.Proofs Go.Proofs.Ytbmieiffboenbaa

theorem sortL_pw (l : List (List UInt8)) : (l.mergeSort fun x y => decide (x ≤ y)).Pairwise fun a b => a ≤ b := by
  have := List.pairwise_mergeSort (le := fun x y : List UInt8 => decide (x ≤ y)) (fun a b c h1 h2 => by
    rw [decide_eq_true_eq] at h1 h2 ⊢; exact List.le_trans h1 h2) (fun a b => by
    rw [Bool.or_eq_true, decide_eq_true_eq, decide_eq_true_eq]; exact List.le_total a b) l
  exact this.imp fun h => by rwa [decide_eq_true_eq] at h
theorem sortB_congr {a b : List ByteArray} (h : a.Perm b) : sortB a = sortB b := by
  unfold sortB
  have hp : ((a.map fun s => s.data.toList).mergeSort fun x y => decide (x ≤ y)).Perm ((b.map fun s => s.data.toList).mergeSort fun x y => decide (x ≤ y)) :=
    (List.mergeSort_perm _ _).trans ((h.map _).trans (List.mergeSort_perm _ _).symm)
  rw [hp.eq_of_pairwise (le := fun a b => a ≤ b) (fun a b _ _ h1 h2 => List.le_antisymm h1 h2) (sortL_pw _) (sortL_pw _)]
theorem split_at {l : List BE} : ∀ {k : Nat}, k < l.length → ∃ A C, l = A ++ l.getD k default :: C ∧ ∀ b, l.set k b = A ++ b :: C := by
  induction l with
  | nil => intro k h; simp at h
  | cons x l ih =>
    intro k h
    cases k with
    | zero => exact ⟨[], l, rfl, fun _ => rfl⟩
    | succ k =>
      obtain ⟨A, C, h1, h2⟩ := ih (k := k) (by simpa using h)
      refine ⟨x :: A, C, ?_, fun b => ?_⟩
      · rw [List.getD_cons_succ, List.cons_append, ← h1]
      · rw [List.set_cons_succ, h2]; rfl
theorem bodyG_app (A C : List BE) (b : BE) : bodyG (A ++ b :: C) = bodyG A ++ ([beO b] ++ bodyG C) := by unfold bodyG; simp
theorem psOf_set {bs : List BE} {k : Nat} {b : BE} (hk : k < bs.length) (hb : b.p = (bs.getD k default).p) : psOf (bs.set k b) = psOf bs := by
  obtain ⟨A, C, h1, h2⟩ := split_at hk
  rw [h2]
  have h3 := congrArg psOf h1
  rw [h3]
  unfold psOf
  rw [List.map_append, List.map_append, List.map_cons, List.map_cons, hb]
theorem ok_set {s : DS} {M : DM} (h : s.ok M) {k : Int} {b : BE} {B : Body} (K : List Grp) (hk : k.toNat < s.bs.length) (hb : BodyR (inZ (K ++ s.Z)) b B) (hp : b.p = (s.bs.getD k.toNat default).p) :
    DS.ok { s with bs := s.bs.set k.toNat b, Z := K ++ s.Z } (setBody M k B) := by
  have hps := psOf_set hk hp
  refine ⟨?_, h.nok, h.kok, h.cok, ?_, ?_, h.rows, fun d => ?_, (h.bods.imp fun b B hb => hb.mono fun y o h => inZ_app h).set hb _⟩
  · have e : (s.bs.set k.toNat b).map (fun b => Value.pointer (some ⟨b.p, 0, none⟩)) = s.bs.map fun b => Value.pointer (some ⟨b.p, 0, none⟩) := by
      have e1 : ∀ l : List BE, l.map (fun b => Value.pointer (some ⟨b.p, 0, none⟩)) = (psOf l).map fun p => Value.pointer (some ⟨p, 0, none⟩) := fun l => by unfold psOf; rw [List.map_map]; rfl
      rw [e1, e1, hps]
    simp only [List.length_set]
    rw [e]; exact h.own
  · rw [hps]; exact h.names
  · rw [hps]; exact h.kept
  · rw [hps]; exact (h.chs d).imp fun q l hq => qr_mono hq
def lowP (s : DS) (M : DM) (d : Nat) (H : List Grp) (A C : List BE) (b : BE) : List Grp :=
  [(d, dkO M s)] :: [(s.nb, .map (encM s.nm) s.nc)] :: [beO b] :: (bodyG A :: bodyG C :: [(s.kb, .map (encM s.km) s.kc)] :: [(s.cb, .map (encM s.cm) s.cc)] :: s.bg :: (rowsG s.rows ++ (s.Z ++ H)))
theorem lowP_to {s : DS} {M : DM} {d : Nat} {H : List Grp} {A C : List BE} {b : BE} (hb : s.bs = A ++ b :: C) {W0 : World} {w : World} (hw : Sat W0 (s.G d M ++ H) w) : Sat W0 (lowP s M d H A C b) w := sat_cnt hw fun _ x => by
  simp only [DS.G, lowP, List.cons_append, List.append_assoc]
  simp only [List.flatten_cons, List.flatten_append, List.count_append, hb, bodyG_app]
  omega
theorem lowP_from {s : DS} {M : DM} {d : Nat} {H : List Grp} {A C : List BE} {b : BE} (hb : s.bs = A ++ b :: C) {W0 : World} {w : World} (hw : Sat W0 (lowP s M d H A C b) w) : Sat W0 (s.G d M ++ H) w := sat_cnt hw fun _ x => by
  simp only [DS.G, lowP, List.cons_append, List.append_assoc]
  simp only [List.flatten_cons, List.flatten_append, List.count_append, hb, bodyG_app]
  omega
theorem syncM_err {M : DM} {p : ByteArray} (h : errM M (rightB p) ≠ 0) : syncM M p = (errM M (rightB p), callM M (rightB p)) := by unfold syncM; rw [if_pos h]
theorem syncM_no {M : DM} {p : ByteArray} (h : errM M (rightB p) = 0) (hl : lookN M.names p = none) : syncM M p = (60, callM M (rightB p)) := by unfold syncM; rw [if_neg (by simpa using h), hl]
theorem syncM_ok {M : DM} {p : ByteArray} {k : Int} (h : errM M (rightB p) = 0) (hl : lookN M.names p = some k) : syncM M p = (0, setBody (callM M (rightB p)) k ⟨(bodyAt M k).now, (bodyAt M k).now⟩) := by unfold syncM; rw [if_neg (by simpa using h), hl]
theorem low2_from {s : DS} {M : DM} {d : Nat} {H : List Grp} {W0 : World} {w : World} (hw : Sat W0 (s.G d M ++ H) w) : Sat W0 ([(d, dkO M s)] :: [(s.nb, .map (encM s.nm) s.nc)] :: ([(s.kb, .map (encM s.km) s.kc)] :: [(s.cb, .map (encM s.cm) s.cc)] :: s.bg :: bodyG s.bs :: ((rowsG s.rows ++ s.Z) ++ H))) w := hw
theorem cSync {s : DS} {M : DM} (h : s.ok M) (hm : Small M) (d : Nat) (path : ByteArray) (hpath : path.size ≤ 9223372036854775807) (W0 : World) (H : List Grp) :
    Tri Try.prog 14 #[.pointer (some ⟨d, 0, none⟩), .string path] W0 (s.G d M ++ H) (Is d (syncM M path).2 (.int .i64 (syncM M path).1) H) := by
  cases hl : lookN M.names path with
  | none =>
    refine Tri.post (vSyncNo d s.nb s.kb s.cb s.nc M.room M.calls (.slice s.ba s.bs.length s.bc) M.fails M.once s.nm path hpath hm.calls (mget_no h hl) W0 _) fun v H1 hr => ?_
    rcases hr with ⟨hce, hv, hH⟩ | ⟨hce, hv, hH⟩
    · exact post_call h (rightB path) (by rw [syncM_err hce]) (by rw [syncM_err hce]; exact hv) fun w hw => by rw [hH] at hw; exact hw
    · exact post_call h (rightB path) (by rw [syncM_no hce hl]) (by rw [syncM_no hce hl]; exact hv) fun w hw => by rw [hH] at hw; exact hw
  | some k =>
    have hk := (lookN_lt h hl).2
    obtain ⟨A, C, hs, hset⟩ := split_at hk
    have hB := h.bods.get default default _ hk
    refine Tri.heap (fun w hw => lowP_to hs hw) (Tri.post (vSyncYes d s.nb s.kb s.cb s.nc M.room M.calls (.slice s.ba s.bs.length s.bc) M.fails M.once s.nm path hpath hm.calls (s.bs.getD k.toNat default).p _ _ _ _ _ _ (mget_lk h hl) W0 _) fun v H1 hr => ?_)
    rcases hr with ⟨hce, hv, hH⟩ | ⟨hce, hv, hH⟩
    · exact post_call h (rightB path) (by rw [syncM_err hce]) (by rw [syncM_err hce]; exact hv) fun w hw => by rw [hH] at hw; exact lowP_from hs hw
    · have k2 := ok_set (k := k) (b := ⟨(s.bs.getD k.toNat default).p, (s.bs.getD k.toNat default).an, (s.bs.getD k.toNat default).n, (s.bs.getD k.toNat default).cn, (s.bs.getD k.toNat default).an, (s.bs.getD k.toNat default).n, (s.bs.getD k.toNat default).cn⟩) (B := ⟨(bodyAt M k).now, (bodyAt M k).now⟩) (ok_call h (rightB path)) [] hk ⟨hB.n, hB.cn, hB.an, hB.now, hB.n, hB.cn, hB.an, hB.now⟩ rfl
      refine ⟨_, ⟨by rw [syncM_ok hce hl]; exact hv, _, by rw [syncM_ok hce hl]; exact k2, rfl⟩, fun w hw => ?_⟩
      rw [hH] at hw
      rw [syncM_ok hce hl]
      refine sat_cnt hw fun _ x => ?_
      simp only [DS.G, dkO, setBody, callM, List.cons_append, List.append_assoc, List.length_set]
      simp only [List.flatten_cons, List.flatten_append, List.count_append, List.nil_append, hset, bodyG_app]
      simp only [beO]
      omega
theorem appendM_err {M : DM} {p b : ByteArray} (h : errM M (rightB p) ≠ 0) : appendM M p b = (errM M (rightB p), callM M (rightB p)) := by unfold appendM; rw [if_pos h]
theorem appendM_no {M : DM} {p b : ByteArray} (h : errM M (rightB p) = 0) (hl : lookN M.names p = none) : appendM M p b = (60, callM M (rightB p)) := by unfold appendM; rw [if_neg (by simpa using h), hl]
theorem appendM_full {M : DM} {p b : ByteArray} {k : Int} (h : errM M (rightB p) = 0) (hl : lookN M.names p = some k) (hr : (usedM M : Int) + (b.size : Int) > M.room) : appendM M p b = (61, callM M (rightB p)) := by unfold appendM; rw [if_neg (by simpa using h), hl]; simp only; rw [if_pos hr]
theorem appendM_ok {M : DM} {p b : ByteArray} {k : Int} (h : errM M (rightB p) = 0) (hl : lookN M.names p = some k) (hr : ¬ (usedM M : Int) + (b.size : Int) > M.room) : appendM M p b = (0, setBody (callM M (rightB p)) k ⟨(bodyAt M k).now ++ b, (bodyAt M k).kept⟩) := by unfold appendM; rw [if_neg (by simpa using h), hl]; simp only; rw [if_neg hr]
theorem u8s_app (a b : ByteArray) : u8s (a ++ b).data.toList = u8s a.data.toList ++ u8s b.data.toList := by
  unfold u8s
  rw [ByteArray.data_append, Array.toList_append, List.map_append]
theorem cAppend {s : DS} {M : DM} (h : s.ok M) (hm : Small M) (d : Nat) (path b : ByteArray) (hpath : path.size ≤ 9223372036854775807) (hb : b.size ≤ 1000000000) (W0 : World) (H : List Grp) {bv : Value} (hbv : BytesV W0 H bv b) :
    Tri Try.prog 22 #[.pointer (some ⟨d, 0, none⟩), .string path, bv] W0 (s.G d M ++ H) (Is d (appendM M path b).2 (.int .i64 (appendM M path b).1) H) := by
  refine tri_sat fun ⟨w0, hw0⟩ => ?_
  have hn := ps_nodup hw0
  have hsum := sum_used h hn
  have hus := used_small h hm
  cases hl : lookN M.names path with
  | none =>
    rcases hbv with ⟨rfl, rfl⟩ | ⟨ad, cap, rfl, rfl⟩ | ⟨k, off, cap, S, rfl, hrd, hS⟩
    · refine Tri.post (vAppendNoNil d s.nb s.kb s.cb s.nc M.room M.calls (.slice s.ba s.bs.length s.bc) M.fails M.once s.nm path hpath hm.calls (mget_no h hl) W0 _) fun v H1 hr => ?_
      rcases hr with ⟨hce, hv, hH⟩ | ⟨hce, hv, hH⟩
      · exact post_call h (rightB path) (by rw [appendM_err hce]) (by rw [appendM_err hce]; exact hv) fun w hw => by rw [hH] at hw; exact hw
      · exact post_call h (rightB path) (by rw [appendM_no hce hl]) (by rw [appendM_no hce hl]; exact hv) fun w hw => by rw [hH] at hw; exact hw
    · refine Tri.post (vAppendNoEmpty d s.nb s.kb s.cb s.nc M.room M.calls (.slice s.ba s.bs.length s.bc) M.fails M.once s.nm path hpath hm.calls ad cap (mget_no h hl) W0 _) fun v H1 hr => ?_
      rcases hr with ⟨hce, hv, hH⟩ | ⟨hce, hv, hH⟩
      · exact post_call h (rightB path) (by rw [appendM_err hce]) (by rw [appendM_err hce]; exact hv) fun w hw => by rw [hH] at hw; exact hw
      · exact post_call h (rightB path) (by rw [appendM_no hce hl]) (by rw [appendM_no hce hl]; exact hv) fun w hw => by rw [hH] at hw; exact hw
    · refine Tri.post (vAppendNoBytes d s.nb s.kb s.cb s.nc M.room M.calls (.slice s.ba s.bs.length s.bc) M.fails M.once s.nm path hpath hm.calls k off b.size cap (mget_no h hl) W0 _) fun v H1 hr => ?_
      rcases hr with ⟨hce, hv, hH⟩ | ⟨hce, hv, hH⟩
      · exact post_call h (rightB path) (by rw [appendM_err hce]) (by rw [appendM_err hce]; exact hv) fun w hw => by rw [hH] at hw; exact hw
      · exact post_call h (rightB path) (by rw [appendM_no hce hl]) (by rw [appendM_no hce hl]; exact hv) fun w hw => by rw [hH] at hw; exact hw
  | some k =>
    have hk := (lookN_lt h hl).2
    obtain ⟨A, C, hs, hset⟩ := split_at hk
    have hB := h.bods.get default default _ hk
    have hsz : (s.bs.getD k.toNat default).n ≤ 1000000000 := by rw [hB.n]; have := small_at hm k; unfold sizeAt bodyAt at this; omega
    have hat := names_at h hn (W0 := W0) (H := [beO (s.bs.getD k.toNat default)] :: (bodyG A :: bodyG C :: [(s.kb, .map (encM s.km) s.kc)] :: [(s.cb, .map (encM s.cm) s.cc)] :: s.bg :: (rowsG s.rows ++ (s.Z ++ H)))) (fun x hx => by
      rw [hs, bodyG_app] at hx
      simp only [List.flatten_cons, List.mem_append] at hx ⊢
      rcases hx with hx | hx | hx
      · exact .inr (.inl hx)
      · exact .inl hx
      · exact .inr (.inr (.inl hx)))
    have hz : ∀ y o, inZ s.Z y o → At W0 (bodyG A :: bodyG C :: [(s.kb, .map (encM s.km) s.kc)] :: [(s.cb, .map (encM s.cm) s.cc)] :: s.bg :: (rowsG s.rows ++ (s.Z ++ H))) y o := fun y o hy => .cons (.cons (.cons (.cons (.cons (at_app2 (.inr (by rw [List.flatten_append]; exact List.mem_append_left _ hy)))))))
    have hdone : ∀ (n' : Nat) (a' : Option Addr) (cap' : Nat) (g : Grp), n' = ((bodyAt M k).now ++ b).size → n' ≤ cap' → ((a' = none ∧ n' = 0 ∧ cap' = 0) ∨ ∃ b off, a' = some ⟨b, off, none⟩) → Rd (inZ ([g] ++ s.Z)) a' (u8s ((bodyAt M k).now ++ b).data.toList) → appendM M path b = (0, setBody (callM M (rightB path)) k ⟨(bodyAt M k).now ++ b, (bodyAt M k).kept⟩) →
        ∀ (v : Value) (H1 : List Grp), v = .int .i64 0 → (∀ w, Sat W0 H1 w → Sat W0 ([(d, .cells #[.int .i64 M.room, .slice s.ba s.bs.length s.bc, .map (some s.nb), .map (some s.kb), .map (some s.cb), .bool (callS M.fails M.once M.calls (rightB path)).2.1, .bool M.once, .int .i64 (callS M.fails M.once M.calls (rightB path)).2.2] 64 (0, 0))] :: [(s.nb, .map (encM s.nm) s.nc)] :: [((s.bs.getD k.toNat default).p, .cells #[.slice a' n' cap', .slice (s.bs.getD k.toNat default).ak (s.bs.getD k.toNat default).m (s.bs.getD k.toNat default).ck] 68 (0, 0))] :: g :: (bodyG A :: bodyG C :: [(s.kb, .map (encM s.km) s.kc)] :: [(s.cb, .map (encM s.cm) s.cc)] :: s.bg :: (rowsG s.rows ++ (s.Z ++ H)))) w) →
        ∃ H2, Is d (appendM M path b).2 (.int .i64 (appendM M path b).1) H v H2 ∧ ∀ w, Sat W0 H1 w → Sat W0 H2 w := by
      intro n' a' cap' g hn' hc' ha' hrd' he v H1 hv hH
      have k2 := ok_set (k := k) (b := ⟨(s.bs.getD k.toNat default).p, a', n', cap', (s.bs.getD k.toNat default).ak, (s.bs.getD k.toNat default).m, (s.bs.getD k.toNat default).ck⟩) (B := ⟨(bodyAt M k).now ++ b, (bodyAt M k).kept⟩) (ok_call h (rightB path)) [g] hk ⟨hn', hc', ha', hrd', hB.m, hB.cm, hB.am, hB.kept.mono fun y o h => inZ_app h⟩ rfl
      refine ⟨_, ⟨by rw [he]; exact hv, _, by rw [he]; exact k2, rfl⟩, fun w hw => ?_⟩
      rw [he]
      refine sat_cnt (hH w hw) fun _ x => ?_
      simp only [DS.G, dkO, setBody, callM, List.cons_append, List.append_assoc, List.length_set]
      simp only [List.flatten_cons, List.flatten_append, List.count_append, List.nil_append, hset, bodyG_app]
      simp only [beO]
      omega
    have hZg : ∀ (g : Grp) (S : Nat → Obj → Prop) (a' : Option Addr) (cs : List Value), (∀ y o, S y o → inZ s.Z y o) → Rd (fun y o => S y o ∨ inG g y o) a' cs → Rd (inZ ([g] ++ s.Z)) a' cs := fun g S a' cs hS hr => hr.mono fun y o h => by
      rcases h with h | h
      · exact inZ_app (hS y o h)
      · show (y, o) ∈ List.flatten (g :: s.Z)
        rw [List.flatten_cons]; exact List.mem_append_left _ h
    rcases hbv with ⟨rfl, rfl⟩ | ⟨ad, cap, rfl, rfl⟩ | ⟨kk, off, cap, S, rfl, hrd, hS⟩
    · refine Tri.heap (fun w hw => lowP_to hs hw) (Tri.post (vAppendNil d s.nb s.kb s.cb s.nc M.room M.calls (.slice s.ba s.bs.length s.bc) M.fails M.once s.nm path hpath hm.calls (szV s.bs) h.nok (by rw [hsum]; omega) (s.bs.getD k.toNat default).p _ _ _ _ _ _ (mget_lk h hl) (inZ s.Z) _ hB.now (by rw [hB.n]; exact Array.length_toList) hsz hB.cn hB.an W0 _ hz hat) fun v H1 hr => ?_)
      rw [hsum] at hr
      rcases hr with ⟨hce, hv, hH⟩ | ⟨hce, hro, hv, hH⟩ | ⟨hce, hro, hv, a', cap', g, hc', ha', hrd', hH⟩
      · exact post_call h (rightB path) (by rw [appendM_err hce]) (by rw [appendM_err hce]; exact hv) fun w hw => by rw [hH] at hw; exact lowP_from hs hw
      · have hro' : (usedM M : Int) + ((ByteArray.mk #[]).size : Int) > M.room := hro
        exact post_call h (rightB path) (by rw [appendM_full hce hl hro']) (by rw [appendM_full hce hl hro']; exact hv) fun w hw => by rw [hH] at hw; exact lowP_from hs hw
      · have hro' : ¬ (usedM M : Int) + ((ByteArray.mk #[]).size : Int) > M.room := hro
        refine hdone _ a' cap' g ?_ hc' ha' ?_ (appendM_ok hce hl hro') v H1 hv fun w hw => by rw [hH] at hw; exact hw
        · rw [ByteArray.size_append, hB.n]; rfl
        · rw [u8s_app]; exact hZg g _ _ _ (fun _ _ h => h) hrd'
    · refine Tri.heap (fun w hw => lowP_to hs hw) (Tri.post (vAppendEmpty d s.nb s.kb s.cb s.nc M.room M.calls (.slice s.ba s.bs.length s.bc) M.fails M.once s.nm path hpath hm.calls ad cap (szV s.bs) h.nok (by rw [hsum]; omega) (s.bs.getD k.toNat default).p _ _ _ _ _ _ (mget_lk h hl) (inZ s.Z) _ hB.now (by rw [hB.n]; exact Array.length_toList) hsz hB.cn hB.an W0 _ hz hat) fun v H1 hr => ?_)
      rw [hsum] at hr
      rcases hr with ⟨hce, hv, hH⟩ | ⟨hce, hro, hv, hH⟩ | ⟨hce, hro, hv, a', cap', g, hc', ha', hrd', hH⟩
      · exact post_call h (rightB path) (by rw [appendM_err hce]) (by rw [appendM_err hce]; exact hv) fun w hw => by rw [hH] at hw; exact lowP_from hs hw
      · have hro' : (usedM M : Int) + ((ByteArray.mk #[]).size : Int) > M.room := hro
        exact post_call h (rightB path) (by rw [appendM_full hce hl hro']) (by rw [appendM_full hce hl hro']; exact hv) fun w hw => by rw [hH] at hw; exact lowP_from hs hw
      · have hro' : ¬ (usedM M : Int) + ((ByteArray.mk #[]).size : Int) > M.room := hro
        refine hdone _ a' cap' g ?_ hc' ha' ?_ (appendM_ok hce hl hro') v H1 hv fun w hw => by rw [hH] at hw; exact hw
        · rw [ByteArray.size_append, hB.n]; rfl
        · rw [u8s_app]; exact hZg g _ _ _ (fun _ _ h => h) hrd'
    · refine Tri.heap (fun w hw => lowP_to hs hw) (Tri.post (vAppendBytes d s.nb s.kb s.cb s.nc M.room M.calls (.slice s.ba s.bs.length s.bc) M.fails M.once s.nm path hpath hm.calls kk off b.size cap (szV s.bs) h.nok (by rw [hsum]; omega) (s.bs.getD k.toNat default).p _ _ _ _ _ _ (mget_lk h hl) (inZ s.Z) _ hB.now (by rw [hB.n]; exact Array.length_toList) hsz hB.cn hB.an S b.data.toList hrd Array.length_toList hb W0 _ hz (fun y o hy => .cons (.cons (.cons (.cons (.cons (at_app2 (at_app2 (hS y o hy)))))))) hat) fun v H1 hr => ?_)
      rw [hsum] at hr
      rcases hr with ⟨hce, hv, hH⟩ | ⟨hce, hro, hv, hH⟩ | ⟨hce, hro, hv, a', cap', g, hc', ha', hrd', hH⟩
      · exact post_call h (rightB path) (by rw [appendM_err hce]) (by rw [appendM_err hce]; exact hv) fun w hw => by rw [hH] at hw; exact lowP_from hs hw
      · exact post_call h (rightB path) (by rw [appendM_full hce hl hro]) (by rw [appendM_full hce hl hro]; exact hv) fun w hw => by rw [hH] at hw; exact lowP_from hs hw
      · refine hdone _ a' cap' g ?_ hc' ha' ?_ (appendM_ok hce hl hro) v H1 hv fun w hw => by rw [hH] at hw; exact hw
        · rw [ByteArray.size_append, hB.n]; rfl
        · rw [u8s_app]; exact hZg g _ _ _ (fun _ _ h => h) hrd'
end Go.Vf
