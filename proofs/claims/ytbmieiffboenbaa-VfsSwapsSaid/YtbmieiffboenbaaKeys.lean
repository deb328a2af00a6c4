/- slices.Sorted(maps.Keys(m)) of a map from texts: a new row, the keys rising. Conditions: the map's entries are apart, its keys are no longer than texts can be. -/
import Derived.Test.YtbmieiffboenbaaSk
import Derived.Test.YtbmieiffboenbaaSort
namespace Go.Vf
open Go.Sw Go.RowKit Go.Sort Go.Proofs Go.Shelf
open Go.WideElems (Fit rg)

/-- whatever value reads as one and the same datum -/
def anyR : Value → Option (DataW Nat × List MemPlace) := fun _ => some (.lit (.bool false), [])
def datM (P : Program) (cm : SM) : DataW Nat := .map (((encM cm).toList.map (rg P 9 anyR)).foldr DataW.insert [])
theorem rd_ent {e : ByteArray × Value × Nat} (h : e.1.size ≤ 9223372036854775807) : WideElems.rd Try.prog 9 anyR (entM e) = some (.string e.1.data.toList, .lit (.bool false)) := by
  unfold WideElems.rd
  rw [show keyOf Try.prog 9 (entM e).key = some (.string e.1.data.toList) from WideMaps.keyOf_string_mk Try.underlying9 (by unfold maxLen; omega)]
  rfl
theorem rg_ent {e : ByteArray × Value × Nat} (h : e.1.size ≤ 9223372036854775807) : rg Try.prog 9 anyR (entM e) = (.string e.1.data.toList, .lit (.bool false)) := by
  unfold rg
  rw [rd_ent h]
  rfl
theorem encM_list (cm : SM) : (encM cm).toList = cm.map entM := by unfold encM; rfl
theorem ent_apart {cm : SM} (h : cm.Pairwise fun x y => (x.1 == y.1) = false) : (cm.map entM).Pairwise fun x y => x.key ≠ y.key :=
  List.pairwise_map.2 (h.imp fun {x y} hxy e => by
    have : x.1 = y.1 := by
      have e' : Value.string x.1 = Value.string y.1 := e
      injection e'
    exact (baNe.1 hxy) this)
theorem own_map {cm : SM} {cc cb : Nat} {w : World} (hm : MapOk cm cc) (hks : ∀ e ∈ cm, e.1.size ≤ 9223372036854775807) (hl : cm.length ≤ 1000000000) (hb : w.heap[cb]? = some (.map (encM cm) cc)) :
    w.ownsMap Try.prog 9 anyR cb cm.length (datM Try.prog cm) := by
  refine ⟨encM cm, cc, hb, ⟨?_, ?_, ?_⟩, ?_, rfl⟩
  · rw [← Array.length_toList, encM_list, List.length_map]; unfold maxLen; omega
  · rw [MapKept.stamped_iff, encM_list]
    refine ⟨?_, ?_, ent_apart hm.keys⟩
    · intro x hx
      obtain ⟨e, he, rfl⟩ := List.mem_map.1 hx
      exact hm.lt e he
    · rw [List.map_map]; exact hm.born
  · intro x hx
    rw [encM_list] at hx
    obtain ⟨e, he, rfl⟩ := List.mem_map.1 hx
    exact ⟨_, rd_ent (hks e he)⟩
  · rw [← Array.length_toList, encM_list, List.length_map]; exact Nat.le_refl _
def bytesL (s : ByteArray) : List UInt8 := s.data.toList
theorem keys_dat {cm : SM} (hks : ∀ e ∈ cm, e.1.size ≤ 9223372036854775807) : (strKeys (datM Try.prog cm)).Perm ((cm.map Prod.fst).map fun s => s.data.toList) := by
  have h1 : (strKeys (datM Try.prog cm)).Perm ((((encM cm).toList.map (rg Try.prog 9 anyR))).map fun p => strOf p.1) := (WideShapes.sorted_perm _).map _
  have h2 : (((encM cm).toList.map (rg Try.prog 9 anyR))).map (fun p => strOf p.1) = (cm.map Prod.fst).map fun s => s.data.toList := by
    rw [encM_list, List.map_map, List.map_map, List.map_map]
    refine List.map_congr_left fun e he => ?_
    simp only [Function.comp_apply]
    rw [rg_ent (hks e he)]
    unfold strOf
    rfl
  rwa [h2] at h1
theorem dat_size (P : Program) (cm : SM) : Maps.size (datM P cm) = cm.length := by
  have e : Maps.size (datM P cm) = (((encM cm).toList.map (rg P 9 anyR)).foldr DataW.insert []).length := rfl
  rw [e, (WideShapes.sorted_perm _).length_eq, List.length_map, encM_list, List.length_map]

theorem sorts40 (m : Nat) : AnyZ.SortsIn Try.prog Try.sorted40_ren Fence.wide m :=
  ⟨fun blk off cap ss W hH hblk hsz => callsIn_wide.2 (Try.slices_Sort_string blk off cap ss W hH hblk hsz),
   fun p cap W => callsIn_wide.2 (Any.slices_Sort_string_none Try.lays190 p cap W)⟩

set_option maxHeartbeats 1000000 in
theorem sortedC (cm : SM) (cc cb kb : Nat) (hm : MapOk cm cc) (hks : ∀ e ∈ cm, e.1.size ≤ 9223372036854775807) (hl : cm.length ≤ 1000000000) (W0 : World) (H : List Grp) :
    Tri Try.prog 40 #[.func (.func 59) #[] #[.pointer (some ⟨kb, 0, none⟩)]] W0
      ([(kb, .cells #[.map (some cb)] 61 (0, 0))] :: [(cb, .map (encM cm) cc)] :: H)
      (fun v H' => ∃ g, Own 9 1 v g cm.length (strs (sortB (cm.map Prod.fst))) ∧ H' = g :: [(kb, .cells #[.map (some cb)] 61 (0, 0))] :: [(cb, .map (encM cm) cc)] :: H) := by
  intro w hs
  have hk : w.heap[kb]? = some (.cells #[.map (some cb)] 61 (0, 0)) := hs.has (kb, _) (by simp)
  have hb : w.heap[cb]? = some (.map (encM cm) cc) := hs.has (cb, _) (by simp)
  have hown := own_map hm hks hl hb
  have hcell : w.cell? ⟨kb, 0, none⟩ = some (.map (some cb)) := by
    unfold World.cell?
    rw [hk]
    rfl
  have hseq : SeqGives Fence.wide 2 Try.prog 59 #[.pointer (some ⟨kb, 0, none⟩)] encStr (fun ss => ss.Perm (strKeys (datM Try.prog cm))) (Maps.size (datM Try.prog cm)) w :=
    AnyZ.keys_gives (ρ := Try.keys41_ren) { Try.keys41 with } Fence.wide 2 trivial rfl (by omega) kb cb cm.length (datM Try.prog cm) w (Array.getElem?_eq_some_iff.1 hk).1 hcell hown
  have hc := AnyZ.sorted_in Try.sorted40 Fence.wide 5 trivial trivial trivial trivial rfl (by omega) (sorts40 _) (enters_of Try.func44 (by kernel_rfl) rfl) 59 #[.pointer (some ⟨kb, 0, none⟩)] trivial (enters_of Try.func59 (by kernel_rfl) rfl) _ (Maps.size (datM Try.prog cm)) (by rw [dat_size]; unfold maxLen; omega) (by rw [dat_size]; omega) w hseq
  refine (callsIn_wide.1 hc).mono fun e w' ⟨v, ss, h1, h2, h3, _, h5⟩ => ?_
  have hp : ss.Perm ((cm.map Prod.fst).map fun s => s.data.toList) := h2.trans (keys_dat hks)
  have hlen : ss.length = cm.length := by rw [hp.length_eq, List.length_map, List.length_map]
  have hss : (ss.mergeSort fun x y => decide (x ≤ y)).map encStr = strs (sortB (cm.map Prod.fst)) := by
    rw [strs_sort]
    exact congrArg (List.map encStr) (mergeSort_of_perm hp)
  rw [hss, hlen] at h3
  have hbel : Below W0.heap.size W0 w' := ⟨h5.os.trans hs.below.os, h5.tape.trans hs.below.tape, h5.output.trans hs.below.output, Nat.le_trans hs.below.size h5.size, fun k hk => by
    rw [h5.block k (Nat.lt_of_lt_of_le hk hs.below.size), hs.below.block k hk]⟩
  have hhas : ∀ p, p ∈ ([(kb, .cells #[.map (some cb)] 61 (0, 0))] :: [(cb, .map (encM cm) cc)] :: H : List Grp).flatten → w'.heap[p.1]? = some p.2 := fun p hp => by
    have h0 := hs.has p hp
    rw [h5.block p.1 (Array.getElem?_eq_some_iff.1 h0).1, h0]
  obtain ⟨l1, ⟨rfl, l2⟩ | ⟨g, cap, cur, rfl, g1, g2, g3, g4, g5, g6⟩⟩ := h3
  · exact ⟨_, _, h1, ⟨[], ⟨l1, .inl ⟨rfl, rfl, l2⟩⟩, rfl⟩, ⟨hbel, by simpa using hs.nodup, fun p hp => hhas p (by simpa using hp), fun p hp => hs.high p (by simpa using hp)⟩⟩
  · have hcur : cur.toList = strs (sortB (cm.map Prod.fst)) ++ cur.toList.drop (cm.length * 1) := by
      rw [← g6, List.take_append_drop]
    have hcur2 : cur = (strs (sortB (cm.map Prod.fst)) ++ cur.toList.drop (cm.length * 1)).toArray := by
      rw [← hcur]
    refine ⟨_, _, h1, ⟨[(g, .cells (strs (sortB (cm.map Prod.fst)) ++ cur.toList.drop (cm.length * 1)).toArray 9 (0, 0))], ⟨l1, .inr ⟨g, cap, cur.toList.drop (cm.length * 1), rfl, rfl, g3, ?_⟩⟩, rfl⟩, ⟨hbel, ?_, ?_, ?_⟩⟩
    · rw [← hcur, Array.length_toList, g5]
    · rw [List.flatten_cons, List.singleton_append, List.map_cons, List.nodup_cons]
      refine ⟨fun hin => ?_, hs.nodup⟩
      obtain ⟨p, hp, he⟩ := List.mem_map.1 hin
      have h0 := (Array.getElem?_eq_some_iff.1 (hs.has p hp)).1
      have he' : p.1 = g := he
      omega
    · intro p hp
      rw [List.flatten_cons, List.singleton_append, List.mem_cons] at hp
      rcases hp with rfl | hp
      · show w'.heap[g]? = _
        rw [← hcur2]
        exact g2
      · exact hhas p hp
    · intro p hp
      rw [List.flatten_cons, List.singleton_append, List.mem_cons] at hp
      rcases hp with rfl | hp
      · exact Nat.le_trans hs.below.size g1
      · exact hs.high p hp
end Go.Vf
