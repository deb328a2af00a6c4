/- Crash: what it makes of the disk that stands in memory. Conditions: the numbers are small. -/
import Derived.Test.YtbmieiffboenbaaRg
namespace Go.Vf
open Go.Sw Go.RowKit Go.Proofs Go.Proofs.Ytbmieiffboenbaa

/-! ## bodies -/
def crashL : List BE → KS → List BE × KS
  | [], k => ([], k)
  | b :: r, k => ((crash1 b k).1 :: (crashL r (crash1 b k).2).1, (crashL r (crash1 b k).2).2)
theorem crashL_len : ∀ (l : List BE) (k : KS), (crashL l k).1.length = l.length
  | [], _ => rfl
  | b :: r, k => by rw [crashL, List.length_cons, crashL_len r, List.length_cons]
theorem crashL_snoc (b : BE) : ∀ (l : List BE) (k : KS), crashL (l ++ [b]) k = ((crashL l k).1 ++ [(crash1 b (crashL l k).2).1], (crash1 b (crashL l k).2).2)
  | [], _ => rfl
  | x :: r, k => by rw [List.cons_append, crashL, crashL_snoc b r]; rfl
theorem stB_L (bs : List BE) (k : KS) : ∀ j : Nat, j ≤ bs.length → stB bs k j = ((crashL (bs.take j) k).1 ++ bs.drop j, (crashL (bs.take j) k).2)
  | 0, _ => rfl
  | j + 1, h => by
    have hj : j < bs.length := h
    rw [stB, stB_at bs k j j (Nat.le_refl _), stB_L bs k j (by omega), take_snoc (d := default) hj, crashL_snoc]
    have hd : bs.drop j = bs.getD j default :: bs.drop (j + 1) := by
      rw [List.getD_eq_getElem?_getD, List.getElem?_eq_getElem hj, List.drop_eq_getElem_cons hj]; rfl
    have hl : (crashL (bs.take j) k).1.length = j := by rw [crashL_len, List.length_take]; omega
    rw [hd, List.set_append_right _ _ (by omega), hl, Nat.sub_self]
    simp
theorem crashL_p : ∀ (l : List BE) (k : KS), psOf (crashL l k).1 = psOf l
  | [], _ => rfl
  | b :: r, k => by
    have := crashL_p r (crash1 b k).2
    unfold psOf at this ⊢
    rw [crashL, List.map_cons, List.map_cons, this]
    congr 1
    unfold crash1
    split <;> rfl
theorem extract_u8s (x : ByteArray) (m : Nat) : u8s (x.extract 0 m).data.toList = (u8s x.data.toList).take m := by
  unfold u8s
  rw [← List.map_take]
  congr 1
  rw [ByteArray.data_extract, Array.toList_extract]
  simp [List.extract]
theorem crash1_r {S : Nat → Obj → Prop} {b : BE} {B : Body} (h : BodyR S b B) (k : KS) (hkm : B.kept.size ≤ B.now.size) :
    BodyR S (crash1 b k).1 (if (B.now.size : Int) - (B.kept.size : Int) > 0 then ⟨B.now.extract 0 (B.kept.size + (nextK (k.l.headD 0) ((B.now.size : Int) - (B.kept.size : Int) + 1)).toNat), B.now.extract 0 (B.kept.size + (nextK (k.l.headD 0) ((B.now.size : Int) - (B.kept.size : Int) + 1)).toNat)⟩ else ⟨B.kept, B.kept⟩) ∧
    (crash1 b k).2.l = if (B.now.size : Int) - (B.kept.size : Int) > 0 then k.l.drop 1 else k.l := by
  have hn := h.n
  have hm := h.m
  unfold crash1
  by_cases hc : (b.n : Int) - (b.m : Int) > 0
  · have hc' : (B.now.size : Int) - (B.kept.size : Int) > 0 := by omega
    rw [if_pos hc, if_pos hc', if_pos hc']
    obtain ⟨q0, q1⟩ := nextK_bd (k := k.l.headD 0) (n := (b.n : Int) - (b.m : Int) + 1) (by omega)
    have e1 : (B.now.size : Int) - (B.kept.size : Int) + 1 = (b.n : Int) - (b.m : Int) + 1 := by omega
    rw [e1]
    have e2 : B.kept.size + (nextK (k.l.headD 0) ((b.n : Int) - (b.m : Int) + 1)).toNat = Int.toNat ((b.m : Int) + nextK (k.l.headD 0) ((b.n : Int) - (b.m : Int) + 1)) - Int.toNat 0 := by
      have : Int.toNat 0 = 0 := rfl
      omega
    rw [e2]
    have e3 : Int.toNat ((b.m : Int) + nextK (k.l.headD 0) ((b.n : Int) - (b.m : Int) + 1)) - Int.toNat 0 ≤ b.n := by
      have : Int.toNat 0 = 0 := rfl
      omega
    have hcn := h.cn
    have hlen : (u8s B.now.data.toList).length = b.n := by rw [u8s_len, hn]; exact Array.length_toList
    have hrd := rd_cut0 h.now (m := Int.toNat ((b.m : Int) + nextK (k.l.headD 0) ((b.n : Int) - (b.m : Int) + 1)) - Int.toNat 0) (c := b.cn) (by rw [hlen]; exact e3) (by rw [hlen]; exact hcn)
    rw [← extract_u8s] at hrd
    have hsz : (B.now.extract 0 (Int.toNat ((b.m : Int) + nextK (k.l.headD 0) ((b.n : Int) - (b.m : Int) + 1)) - Int.toNat 0)).size = Int.toNat ((b.m : Int) + nextK (k.l.headD 0) ((b.n : Int) - (b.m : Int) + 1)) - Int.toNat 0 := by
      rw [ByteArray.size_extract]; omega
    have han : (cutA b.an b.cn (Int.toNat 0) 1 = none ∧ Int.toNat ((b.m : Int) + nextK (k.l.headD 0) ((b.n : Int) - (b.m : Int) + 1)) - Int.toNat 0 = 0 ∧ b.cn - Int.toNat 0 = 0) ∨ ∃ q off, cutA b.an b.cn (Int.toNat 0) 1 = some ⟨q, off, none⟩ := by
      rcases h.an with ⟨h1, h2, _⟩ | ⟨q, off, h1⟩
      · omega
      · refine .inr ⟨q, off, ?_⟩
        rw [h1]
        unfold cutA
        split
        · rfl
        · simp [addr_add]
    have hcm : Int.toNat ((b.m : Int) + nextK (k.l.headD 0) ((b.n : Int) - (b.m : Int) + 1)) - Int.toNat 0 ≤ b.cn - Int.toNat 0 := by
      have : Int.toNat 0 = 0 := rfl
      omega
    exact ⟨⟨hsz.symm, hcm, han, hrd, hsz.symm, hcm, han, hrd⟩, rfl⟩
  · have hc' : ¬ (B.now.size : Int) - (B.kept.size : Int) > 0 := by omega
    rw [if_neg hc, if_neg hc', if_neg hc']
    exact ⟨⟨h.m, h.cm, h.am, h.kept, h.m, h.cm, h.am, h.kept⟩, rfl⟩
theorem crashL_r {S : Nat → Obj → Prop} {bs : List BE} {Bs : List Body} (h : All2 (BodyR S) bs Bs) (hk : ∀ B ∈ Bs, B.kept.size ≤ B.now.size) : ∀ k : KS, All2 (BodyR S) (crashL bs k).1 (crashB Bs k.l).1 ∧ (crashL bs k).2.l = (crashB Bs k.l).2 := by
  induction h with
  | nil => intro k; exact ⟨.nil, rfl⟩
  | @cons b B bs Bs hb _ ih =>
    intro k
    obtain ⟨h1, h2⟩ := crash1_r hb k (hk _ List.mem_cons_self)
    obtain ⟨h3, h4⟩ := ih (fun B hB => hk B (List.mem_cons_of_mem _ hB)) (crash1 b k).2
    rw [crashL, crashB]
    split
    · rename_i hc
      rw [if_pos hc] at h1 h2
      rw [h2] at h3 h4
      exact ⟨.cons h1 h3, h4⟩
    · rename_i hc
      rw [if_neg hc] at h1 h2
      rw [h2] at h3 h4
      exact ⟨.cons h1 h3, h4⟩
theorem crashB_size {n : Nat} : ∀ {Bs : List Body} {ks : List Int}, (∀ B ∈ Bs, B.now.size ≤ n ∧ B.kept.size ≤ B.now.size) → ∀ B ∈ (crashB Bs ks).1, B.now.size ≤ n ∧ B.kept.size = B.now.size
  | [], _, _, B, hB => by cases hB
  | x :: r, ks, h, B, hB => by
    obtain ⟨h1, h2⟩ := h x List.mem_cons_self
    have ih := fun ks => crashB_size (n := n) (Bs := r) (ks := ks) fun B hB => h B (List.mem_cons_of_mem _ hB)
    rw [crashB] at hB
    split at hB
    · rcases List.mem_cons.1 hB with rfl | hB
      · exact ⟨by simp only [ByteArray.size_extract]; omega, rfl⟩
      · exact ih _ B hB
    · rcases List.mem_cons.1 hB with rfl | hB
      · exact ⟨by show x.kept.size ≤ n; omega, rfl⟩
      · exact ih _ B hB
theorem crashB_len : ∀ {Bs : List Body} {ks : List Int}, (crashB Bs ks).1.length = Bs.length
  | [], _ => rfl
  | x :: r, ks => by
    rw [crashB]
    split <;> rw [List.length_cons, crashB_len, List.length_cons]
theorem All2.mem {α β : Type} {R : α → β → Prop} {l : List α} {m : List β} (h : All2 R l m) {a : α} (ha : a ∈ l) : ∃ b ∈ m, R a b := by
  induction h with
  | nil => cases ha
  | cons hab _ ih =>
    rcases List.mem_cons.1 ha with rfl | ha
    · exact ⟨_, List.mem_cons_self, hab⟩
    · obtain ⟨b, hb, hr⟩ := ih ha
      exact ⟨b, List.mem_cons_of_mem _ hb, hr⟩

/-! ## directories -/
theorem once_mem {x : ByteArray} : ∀ {l : List ByteArray}, x ∈ onceL l ↔ x ∈ l
  | [] => Iff.rfl
  | y :: r => by
    rw [onceL]
    split
    · rename_i h
      rw [once_mem, List.mem_cons]
      constructor
      · exact .inr
      · rintro (rfl | h2)
        · exact once_mem.1 h
        · exact h2
    · rw [List.mem_cons, List.mem_cons, once_mem]
theorem once_nodup : ∀ (l : List ByteArray), (onceL l).Nodup
  | [] => List.nodup_nil
  | y :: r => by
    rw [onceL]
    split
    · exact once_nodup r
    · rename_i h; exact List.nodup_cons.2 ⟨h, once_nodup r⟩
theorem once_le : ∀ (l : List ByteArray), (onceL l).length ≤ l.length
  | [] => Nat.le_refl _
  | y :: r => by
    have := once_le r
    rw [onceL]
    split <;> simp <;> omega
theorem chOf_ne {l : List Ch} {d : ByteArray} : chOf l d ≠ [] ↔ d ∈ l.map (·.dir) := by
  unfold chOf
  constructor
  · intro h
    obtain ⟨x, hx⟩ := List.exists_mem_of_ne_nil _ h
    obtain ⟨c, hc, _⟩ := List.mem_map.1 hx
    obtain ⟨h1, h2⟩ := List.mem_filter.1 hc
    rw [baEq] at h2
    exact List.mem_map.2 ⟨c, h1, h2.symm⟩
  · intro h
    obtain ⟨c, hc, rfl⟩ := List.mem_map.1 h
    intro he
    rw [List.map_eq_nil_iff, List.filter_eq_nil_iff] at he
    exact he c hc (by simp)
theorem rowOf_ne {rows : List RW} (h : ∀ r ∈ rows, 0 < r.qs.length) {d : ByteArray} : rowOf rows d ≠ [] ↔ d ∈ rows.map (·.dir) := by
  induction rows with
  | nil => simp [rowOf]
  | cons r rows ih =>
    rw [rowOf, List.map_cons, List.mem_cons]
    split
    · rename_i hk
      rw [baEq] at hk
      have := h r List.mem_cons_self
      constructor
      · intro _; exact .inl hk
      · intro _ he; rw [he] at this; simp at this
    · rename_i hk
      rw [ih fun x hx => h x (List.mem_cons_of_mem _ hx)]
      constructor
      · exact .inr
      · rintro (rfl | h2)
        · exact absurd (baEq.2 rfl) hk
        · exact h2
theorem rows_keys {s : DS} {M : DM} (h : s.ok M) : s.cm.map Prod.fst = s.rows.map (·.dir) := by
  have h1 : (s.cm.map (fun e => (e.1, e.2.1))).map Prod.fst = (s.rows.map (fun r => (r.dir, r.v))).map Prod.fst := by rw [h.rows.1]
  rw [List.map_map, List.map_map] at h1
  exact h1
theorem keys_perm {s : DS} {M : DM} (h : s.ok M) : (s.cm.map Prod.fst).Perm (onceL (M.changes.map (·.dir))) := by
  refine (List.perm_ext_iff_of_nodup h.cok.nodup (once_nodup _)).2 fun d => ?_
  rw [once_mem, ← chOf_ne, rows_keys h, ← rowOf_ne fun r hr => (h.rows.2 r hr).2]
  have := (h.chs d).len
  constructor
  · intro h1 h2
    rw [h2] at this
    exact h1 (List.eq_nil_of_length_eq_zero this)
  · intro h1 h2
    rw [h2] at this
    exact h1 (List.eq_nil_of_length_eq_zero this.symm)
theorem crash_names {ps : List Nat} {rows : ByteArray → RowC} {l : List Ch} : ∀ {ds : List ByteArray} {km km1 : SM} {kc kc1 : Nat} {ks ks1 : KS} {names : List Nm},
    (∀ d ∈ ds, All2 (fun x l => (∃ c, MapOk x c) ∧ ChangeR ps x l) (rows d).xs (chOf l d) ∧ (rows d).qs.length = (chOf l d).length) → NamesR ps km names → MapOk km kc →
    CrashK rows ds ((km, kc), ks) ((km1, kc1), ks1) → NamesR ps km1 (crashD l ds ks.l names) ∧ MapOk km1 kc1
  | [], _, _, _, _, _, _, _, _, hn, ho, hc => by
    injection (show (_, _) = (_, _) from hc) with e1 e2
    injection e1 with e3 e4
    subst e3 e4
    exact ⟨hn, ho⟩
  | d :: ds, km, km1, kc, kc1, ks, ks1, names, hr, hn, ho, ⟨s1, hm, hc⟩ => by
    obtain ⟨h1, h2⟩ := hr d List.mem_cons_self
    obtain ⟨m1, c1⟩ := s1
    have e : keptN (rows d) ks = (nextK (ks.l.headD 0) (((chOf l d).length : Int) + 1)).toNat := by unfold keptN; rw [h2]
    have h3 := names_made hn ho (h1.take (keptN (rows d) ks)) hm
    rw [e] at h3
    exact crash_names (ds := ds) (fun d' hd' => hr d' (List.mem_cons_of_mem _ hd')) h3 (made_ok (s := (km, kc)) (s' := (m1, c1)) hm ho) hc
theorem cCrash {s : DS} {M : DM} (h : s.ok M) (hm : Small M) (d : Nat) (ks : KS) (S0 : Nat → Obj → Prop) (hks : KsOk S0 ks) (W0 : World) (H : List Grp) (hS0 : ∀ y o, S0 y o → At W0 H y o) :
    Tri Try.prog 18 #[.pointer (some ⟨d, 0, none⟩), .slice ks.a ks.l.length ks.c] W0 (s.G d M ++ H) (Is d (crashM M ks.l) (.tuple #[]) H) := by
  have hlen := h.bods.len
  have hmb := hm.bodies
  have hkp := keys_perm h
  have hrd : ∀ d', ∃ r : RowC, d' ∈ s.cm.map Prod.fst → RowOk (fun y o => S0 y o ∨ inG s.bg y o ∨ (y, o) ∈ (rowsG s.rows).flatten) W0 ([(s.nb, .map (encM s.nm) s.nc)] :: s.bg :: (rowsG s.rows ++ (s.Z ++ H))) s.cm d' r ∧ All2 (fun x l => (∃ c, MapOk x c) ∧ ChangeR (psOf s.bs) x l) r.xs (chOf M.changes d') ∧ r.qs.length = (chOf M.changes d').length := by
    intro d'
    by_cases hd : d' ∈ s.cm.map Prod.fst
    · obtain ⟨⟨k, rv, c⟩, he, rfl⟩ := List.mem_map.1 hd
      have hg := mget_of h.cok.nodup he
      obtain ⟨pre, r, post, c, p1, p2, hrows, hcm, hp1, hpre, hdd, hrv, e1, e2⟩ := rows_some h.rows hg
      have hmem : r ∈ s.rows := by rw [hrows]; exact List.mem_append_right _ List.mem_cons_self
      obtain ⟨ho, hpos⟩ := h.rows.2 r hmem
      have hq := rows_le h hm r hmem
      rw [hrv] at ho
      obtain ⟨ra, rc, hra, hrc, hrd⟩ := ho.shape
      have hrow : rowOf s.rows k = r.qs := by rw [hrows, rowOf_app hpre, rowOf, hdd, if_pos (baEq.2 rfl)]
      have hch := h.chs k
      rw [hrow] at hch
      obtain ⟨xs, xcs, x1, x2, x3⟩ := row_read hch
      refine ⟨⟨ra, rc, r.qs, xs, xcs⟩, fun _ => ⟨⟨?_, hrd.mono fun y o hy => .inr (.inr (List.mem_flatten.2 ⟨r.g, List.mem_map.2 ⟨r, hmem, rfl⟩, hy⟩)), x1, hq, hrc, fun i hi => ⟨?_, (x3 i hi).2⟩⟩, x2, hch.len⟩⟩
      · rw [show mget s.cm k = some rv from hg, hra]
      · exact .cons (.cons (at_app2 (.inr (by rw [List.flatten_append]; exact List.mem_append_left _ (x3 i hi).1))))
    · exact ⟨⟨none, 0, [], [], []⟩, fun h => absurd h hd⟩
  have hbn : ∀ b ∈ s.bs, b.n ≤ b.cn ∧ b.n ≤ 1000000000 ∧ b.m ≤ b.n := fun b hb => by
    obtain ⟨B, hB, hr⟩ := h.bods.mem hb
    have := hm.size B hB
    have h1 := hr.n
    have h2 := hr.m
    exact ⟨hr.cn, by omega, by omega⟩
  obtain ⟨ra, rc, hra, _, hrb⟩ := h.own.shape
  injection hra with e1 e2 e3
  subst e1
  have hcs : ∀ e ∈ s.cm, e.1.size ≤ 9223372036854775807 := fun e he => by
    have h1 : e.1 ∈ M.changes.map (·.dir) := once_mem.1 (hkp.mem_iff.1 (List.mem_map.2 ⟨e, he, rfl⟩))
    obtain ⟨c, hc, h2⟩ := List.mem_map.1 h1
    have := hm.dirs c hc
    rw [← h2]; omega
  have hcl : s.cm.length ≤ 1000000000 := by
    have h1 := hkp.length_eq
    rw [List.length_map] at h1
    have h2 := once_le (M.changes.map (·.dir))
    rw [List.length_map] at h2
    have := hm.changes
    omega
  have hto : ∀ {w : World}, Sat W0 (s.G d M ++ H) w → Sat W0 ([(d, dkO M s)] :: bodyG s.bs :: [(s.kb, .map (encM s.km) s.kc)] :: [(s.cb, .map (encM s.cm) s.cc)] :: ([(s.nb, .map (encM s.nm) s.nc)] :: s.bg :: (rowsG s.rows ++ (s.Z ++ H)))) w := fun hw => sat_cnt hw fun _ x => by
    simp only [DS.G, List.cons_append, List.append_assoc]
    simp only [List.flatten_cons, List.flatten_append, List.count_append]
    omega
  refine Tri.heap (fun w hw => hto hw) (Tri.post (vCrash d s.nb s.kb s.cb s.kc s.cc M.room M.calls M.fails M.once s.km s.cm s.bs s.ba s.bc ks (fun d' => Classical.choose (hrd d')) (fun y o => S0 y o ∨ inG s.bg y o ∨ (y, o) ∈ (rowsG s.rows).flatten) ⟨hks.1.mono fun _ _ => .inl, hks.2⟩ (by omega) hbn (hrb.mono fun _ _ hy => .inr (.inl hy)) h.kok h.cok hcs hcl W0 ([(s.nb, .map (encM s.nm) s.nc)] :: s.bg :: (rowsG s.rows ++ (s.Z ++ H))) (fun y o hy => ?_) (fun d' hd' => (Classical.choose_spec (hrd d') hd').1)) fun v H1 hr => ?_)
  · rcases hy with hy | hy | hy
    · exact .cons (.cons (at_app2 (at_app2 (hS0 y o hy))))
    · exact .cons (At.mem List.mem_cons_self hy)
    · exact .cons (.cons (at_app (.inr hy)))
  · obtain ⟨hv, b, b2, km1, kc1, ks1, hk, hH⟩ := hr
    rw [stB_L s.bs ks s.bs.length (Nat.le_refl _), List.take_length, List.drop_length, List.append_nil] at hk hH
    obtain ⟨hb1, hb2⟩ := crashL_r h.bods (fun B hB => (hm.size B hB).2) ks
    have hds : sortB (s.cm.map Prod.fst) = dirsOf M.changes := sortB_congr hkp
    obtain ⟨hN, hO⟩ := crash_names (l := M.changes) (fun d' hd' => (Classical.choose_spec (hrd d') ((sortB_perm _).mem_iff.1 hd')).2) h.kept h.kok hk
    simp only at hN
    rw [hds, hb2] at hN
    have hps := crashL_p s.bs ks
    have h0 : MapOk [] 0 := ⟨List.Pairwise.nil, List.nodup_nil, fun _ h => absurd h List.not_mem_nil⟩
    refine ⟨_, ⟨hv, ⟨b, s.kb, b2, km1, km1, [], kc1, kc1, 0, s.ba, s.bc, s.bg, (crashL s.bs ks).1, [], [(s.nb, .map (encM s.nm) s.nc)] :: (rowsG s.rows ++ s.Z)⟩, ⟨?_, hO, hO, h0, ?_, ?_, ⟨rfl, fun _ h => absurd h List.not_mem_nil⟩, fun _ => .nil, ?_⟩, rfl⟩, fun w hw => ?_⟩
    · have e1 : ∀ l : List BE, l.map (fun b => Value.pointer (some ⟨b.p, 0, none⟩)) = (psOf l).map fun p => Value.pointer (some ⟨p, 0, none⟩) := fun l => by unfold psOf; rw [List.map_map]; rfl
      simp only [crashL_len]
      rw [e1, hps, ← e1]; exact h.own
    · rw [hps]; exact hN
    · rw [hps]; exact hN
    · exact hb1.imp fun b B hb => hb.mono fun y o hy => by
        show (y, o) ∈ List.flatten ([(s.nb, .map (encM s.nm) s.nc)] :: (rowsG s.rows ++ s.Z))
        rw [List.flatten_cons, List.flatten_append]
        exact List.mem_append_right _ (List.mem_append_right _ hy)
    · rw [hH] at hw
      refine sat_cnt hw fun _ x => ?_
      simp only [DS.G, dkO, crashM, crashL_len, rowsG, List.map_nil, List.cons_append, List.append_assoc, List.nil_append]
      simp only [List.flatten_cons, List.flatten_append, List.count_append]
      omega
end Go.Vf
