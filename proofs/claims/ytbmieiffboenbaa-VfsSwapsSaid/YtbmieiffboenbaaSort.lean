/- The library's sort of a row of texts that is one's own: the same slice, the texts rising. No condition but the row's length. -/
import Derived.Test.YtbmieiffboenbaaSh
import Derived.Test.YtbmieiffboenbaaMem2
import Derived.Test.YtbmieiffboenbaaVa
import Derived.Sort.OwnSorted
namespace Go.Vf
open Go.Sw Go.RowKit Go.Sort Go.Proofs

def sortB (ws : List ByteArray) : List ByteArray := ((ws.map fun s => s.data.toList).mergeSort fun x y => decide (x ≤ y)).map fun l => ⟨l.toArray⟩
theorem strs_enc (ws : List ByteArray) : strs ws = (ws.map fun s => s.data.toList).map encStr := by
  unfold strs
  rw [List.map_map]
  rfl
theorem strs_sort (ws : List ByteArray) : strs (sortB ws) = ((ws.map fun s => s.data.toList).mergeSort fun x y => decide (x ≤ y)).map encStr := by
  unfold strs sortB
  rw [List.map_map]
  rfl
theorem sortB_len (ws : List ByteArray) : (sortB ws).length = ws.length := by unfold sortB; rw [List.length_map, List.length_mergeSort, List.length_map]
theorem sortB_perm (ws : List ByteArray) : (sortB ws).Perm ws := by
  unfold sortB
  have h : ((ws.map fun s => s.data.toList).mergeSort fun x y => decide (x ≤ y)).Perm (ws.map fun s => s.data.toList) := List.mergeSort_perm _ _
  have h2 := h.map fun l => (⟨l.toArray⟩ : ByteArray)
  rw [List.map_map] at h2
  have e : ws.map ((fun l => (⟨l.toArray⟩ : ByteArray)) ∘ fun s => s.data.toList) = ws := by
    rw [show ((fun l : List UInt8 => (⟨l.toArray⟩ : ByteArray)) ∘ fun s : ByteArray => s.data.toList) = id from rfl, List.map_id]
  rwa [e] at h2
theorem sortC {v : Value} {ws : List ByteArray} {g : Grp} (hO : Own 9 1 v g ws.length (strs ws)) (hw : ws.length ≤ 1000000000) (W0 : World) (H : List Grp) :
    Tri Try.prog 44 #[v] W0 (g :: H) (fun u H' => u = .tuple #[] ∧ ∃ g', Own 9 1 v g' ws.length (strs (sortB ws)) ∧ H' = g' :: H) := by
  obtain ⟨hl, ⟨rfl, rfl, hn⟩ | ⟨b, cap, junk, rfl, rfl, hc, hj⟩⟩ := hO
  · intro w hs
    have hws : ws = [] := List.eq_nil_of_length_eq_zero hn
    subst hws
    have e0 : sortB [] = [] := by unfold sortB; simp
    rw [e0]
    exact (Any.slices_Sort_string_none Try.lays190 none 0 w).mono fun e w' ⟨h1, h2⟩ => ⟨_, _, h1, ⟨rfl, [], Own.nil, rfl⟩, by subst h2; exact hs⟩
  · intro w hs
    have hb : w.heap[b]? = some (.cells (strs ws ++ junk).toArray 9 (0, 0)) := hs.has (b, _) (by simp)
    have hlt : b < w.heap.size := (Array.getElem?_eq_some_iff.1 hb).1
    have hlen : (strs ws).length = ws.length := by unfold strs; rw [List.length_map]
    have hH : Holds encStr w b 0 (ws.map fun s => s.data.toList).toArray := holds_of_block hb (by
      rw [List.length_map, List.toList_toArray, ← strs_enc, ← hlen, List.take_left])
    have hc0 := Try.slices_Sort_string b 0 cap (ws.map fun s => s.data.toList) w hH hlt (by rw [List.length_map]; omega)
    rw [List.length_map] at hc0
    refine hc0.mono fun e w' ⟨h1, n, os, h2⟩ => ?_
    have hts : ((ws.map fun s => s.data.toList).mergeSort fun x y => decide (x ≤ y)).length = ws.length := by rw [List.length_mergeSort, List.length_map]
    have hcs := heap_sorted (n := n) (os := os) ((ws.map fun s => s.data.toList).mergeSort fun x y => decide (x ≤ y)).toArray hb
    have hgr := grownBy_sorted (w := w) (g := b) (n := n) (os := os) ((ws.map fun s => s.data.toList).mergeSort fun x y => decide (x ≤ y)).toArray
    rw [← h2] at hcs hgr
    have htk := take_putCells (strs ws ++ junk).toArray ((ws.map fun s => s.data.toList).mergeSort fun x y => decide (x ≤ y)) (by rw [hts, List.size_toArray, List.length_append, hlen]; omega)
    rw [hts, ← strs_sort] at htk
    have hcell : putCells encStr 0 ((ws.map fun s => s.data.toList).mergeSort fun x y => decide (x ≤ y)).toArray (strs ws ++ junk).toArray = (strs (sortB ws) ++ (putCells encStr 0 ((ws.map fun s => s.data.toList).mergeSort fun x y => decide (x ≤ y)).toArray (strs ws ++ junk).toArray).toList.drop ws.length).toArray := by
      apply Array.ext'
      rw [List.toList_toArray]
      have h3 := List.take_append_drop ws.length (putCells encStr 0 ((ws.map fun s => s.data.toList).mergeSort fun x y => decide (x ≤ y)).toArray (strs ws ++ junk).toArray).toList
      rw [htk] at h3
      exact h3.symm
    rw [hcell] at hcs
    have hsz : (putCells encStr 0 ((ws.map fun s => s.data.toList).mergeSort fun x y => decide (x ≤ y)).toArray (strs ws ++ junk).toArray).size = (strs ws ++ junk).length := by simp [putCells]
    obtain ⟨g1, g2, g3, g4, g5⟩ := hgr
    have hhigh : W0.heap.size ≤ b := hs.high (b, .cells (strs ws ++ junk).toArray 9 (0, 0)) (by simp)
    have hnd := hs.nodup
    refine ⟨_, _, h1, ⟨rfl, [(b, .cells (strs (sortB ws) ++ (putCells encStr 0 ((ws.map fun s => s.data.toList).mergeSort fun x y => decide (x ≤ y)).toArray (strs ws ++ junk).toArray).toList.drop ws.length).toArray 9 (0, 0))], ⟨by unfold strs; rw [List.length_map, sortB_len, Nat.mul_one], .inr ⟨b, cap, _, rfl, rfl, hc, ?_⟩⟩, rfl⟩, ?_, ?_, ?_, ?_⟩
    · have : (strs (sortB ws) ++ (putCells encStr 0 ((ws.map fun s => s.data.toList).mergeSort fun x y => decide (x ≤ y)).toArray (strs ws ++ junk).toArray).toList.drop ws.length).length = (putCells encStr 0 ((ws.map fun s => s.data.toList).mergeSort fun x y => decide (x ≤ y)).toArray (strs ws ++ junk).toArray).toList.length := by
        have h3 := List.take_append_drop ws.length (putCells encStr 0 ((ws.map fun s => s.data.toList).mergeSort fun x y => decide (x ≤ y)).toArray (strs ws ++ junk).toArray).toList
        rw [htk] at h3
        exact congrArg List.length h3
      rw [this, Array.length_toList, hsz, hj]
    · refine ⟨g1.trans hs.below.os, g2.trans hs.below.tape, g3.trans hs.below.output, Nat.le_trans hs.below.size g4, fun k hk => ?_⟩
      have hk' : k < w.heap.size := Nat.lt_of_lt_of_le hk hs.below.size
      rw [g5 k hk' (by intro e; injection e with e; omega), hs.below.block k hk]
    · simpa using hnd
    · intro p hp
      simp only [List.flatten_cons, List.cons_append, List.nil_append, List.mem_cons] at hp
      rcases hp with rfl | hp
      · exact hcs
      · have h0 := hs.has p (by simp [hp])
        have hk' : p.1 < w.heap.size := (Array.getElem?_eq_some_iff.1 h0).1
        rw [g5 p.1 hk' ?_]
        · exact h0
        · intro e
          injection e with e
          simp only [List.flatten_cons, List.cons_append, List.nil_append, List.map_cons, List.nodup_cons] at hnd
          exact hnd.1 (List.mem_map.2 ⟨p, hp, e⟩)
    · intro p hp
      simp only [List.flatten_cons, List.cons_append, List.nil_append, List.mem_cons] at hp
      rcases hp with rfl | hp
      · exact hhigh
      · exact hs.high p (by simp [hp])
/-- the paths of a directory -/
def listK (dir : ByteArray) (m : SM) : List ByteArray := (m.filter fun e => (Go.Proofs.Ytbmieiffboenbaa.dirB e.1).toList == dir.toList).map Prod.fst
theorem listK_yes {dir : ByteArray} {m : SM} {e : ByteArray × Value × Nat} (h : ((Go.Proofs.Ytbmieiffboenbaa.dirB e.1).toList == dir.toList) = true) : listK dir (m ++ [e]) = listK dir m ++ [e.1] := by
  unfold listK; rw [List.filter_append, List.filter_cons, h]; simp
theorem listK_no {dir : ByteArray} {m : SM} {e : ByteArray × Value × Nat} (h : ((Go.Proofs.Ytbmieiffboenbaa.dirB e.1).toList == dir.toList) = false) : listK dir (m ++ [e]) = listK dir m := by
  unfold listK; rw [List.filter_append, List.filter_cons, h]; simp
theorem listK_len (dir : ByteArray) (m : SM) : (listK dir m).length ≤ m.length := by unfold listK; rw [List.length_map]; exact List.length_filter_le _ _
theorem own_yes {dir : ByteArray} {m : SM} {e : ByteArray × Value × Nat} {v : Value} {g : Grp} (h : ((Go.Proofs.Ytbmieiffboenbaa.dirB e.1).toList == dir.toList) = true) (hO : Own 9 1 v g ((listK dir m).length + 1) (strs (listK dir m) ++ [.string e.1])) :
    Own 9 1 v g (listK dir (m ++ [e])).length (strs (listK dir (m ++ [e]))) := by
  rw [listK_yes h]; simpa [strs] using hO
end Go.Vf
