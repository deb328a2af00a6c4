/- What the walk of the document's answer for RSS leans on: words, places, roads. No program is in sight. -/
import Derived.Test.YtlglmomimhbeaaaGreatDoorRm4
namespace Go.Proofs.YtlglmomimhbeaaaGreatDoor
open Go.Sw Go.Lib Go.Cal Go.Scn

theorem wst_yes {s : ByteArray} {i : Nat} (h : ((((i : Nat) : Int) == (s.size : Int)) || ((byteAt s ((i : Nat) : Int)) == 32)) = true) : wst s (i + 1) = ((wst s i).1 ++ [s.extract (wst s i).2 i], i + 1) := by
  rw [Bool.or_eq_true, beq_iff_eq, beq_iff_eq] at h
  rw [wst, if_pos]
  rcases h with h | h
  · exact .inl (by omega)
  · exact .inr h
theorem wst_no {s : ByteArray} {i : Nat} (h : ((((i : Nat) : Int) == (s.size : Int)) || ((byteAt s ((i : Nat) : Int)) == 32)) = false) : wst s (i + 1) = wst s i ∧ i ≠ s.size := by
  rw [Bool.or_eq_false_iff, beq_eq_false_iff_ne, beq_eq_false_iff_ne] at h
  refine ⟨?_, by omega⟩
  rw [wst, if_neg]
  rintro (h' | h')
  · exact h.1 (by omega)
  · exact h.2 h'
theorem wst_le (s : ByteArray) : ∀ i, (wst s i).2 ≤ i ∧ (wst s i).1.length ≤ i
  | 0 => ⟨Nat.le_refl _, Nat.le_refl _⟩
  | i + 1 => by
    have := wst_le s i
    unfold wst
    split
    · simp only [List.length_append, List.length_cons, List.length_nil]; omega
    · omega
theorem own_next {s : ByteArray} {i : Nat} {v : Value} {g : Grp} (h : wst s (i + 1) = ((wst s i).1 ++ [s.extract (wst s i).2 i], i + 1)) (hO : Own 9 1 v g ((wst s i).1.length + 1) (strs (wst s i).1 ++ [.string (s.extract (wst s i).2 i)])) :
    Own 9 1 v g (wst s (i + 1)).1.length (strs (wst s (i + 1)).1) := by
  rw [h]
  simpa [strs] using hO
theorem placeB_skip (x : ByteArray) : ∀ (ws : List ByteArray) (i : Int) (k : Nat), k ≤ ws.length → (∀ j, j < k → ((ws.getD j default).toList == x.toList) = false) → placeB x ws i = placeB x (ws.drop k) (i + k)
  | ws, i, 0, _, _ => by simp
  | [], i, k + 1, h, _ => by simp at h
  | w :: r, i, k + 1, h, hj => by
    have h0 := hj 0 (by omega)
    simp only [List.getD_cons_zero] at h0
    rw [placeB, h0]
    simp only [Bool.false_eq_true, if_false, List.drop_succ_cons]
    rw [placeB_skip x r (i + 1) k (by simp at h; omega) (fun j hjk => by have := hj (j + 1) (by omega); simpa using this)]
    congr 1
    push_cast
    omega
theorem place_hit {x : ByteArray} {ws : List ByteArray} {k : Nat} (hk : k < ws.length) (hj : ∀ j, j < k → ((ws.getD j default).toList == x.toList) = false) (h : ((ws.getD k default).toList == x.toList) = true) : placeB x ws 0 = (k : Int) := by
  rw [placeB_skip x ws 0 k (by omega) hj, List.drop_eq_getElem_cons hk, placeB]
  have e : ws.getD k default = ws[k] := by simp [List.getD_eq_getElem?_getD, hk]
  rw [e] at h
  rw [if_pos h]; omega
theorem place_miss {x : ByteArray} {ws : List ByteArray} (hj : ∀ j, j < ws.length → ((ws.getD j default).toList == x.toList) = false) : placeB x ws 0 = -1 := by
  rw [placeB_skip x ws 0 ws.length (Nat.le_refl _) hj, List.drop_length, placeB]
theorem place_succ {x : ByteArray} {ws : List ByteArray} {k : Nat} (h : ∀ j, j < k → ((ws.getD j default).toList == x.toList) = false) (hk : ((ws.getD k default).toList == x.toList) = false) : ∀ j, j < k + 1 → ((ws.getD j default).toList == x.toList) = false := fun j hj => by
  rcases Nat.lt_or_ge j k with h' | h'
  · exact h j h'
  · have : j = k := by omega
    subst this; exact hk
theorem place_bd (x : ByteArray) : ∀ (ws : List ByteArray) (i : Int), 0 ≤ i → placeB x ws i = -1 ∨ (i ≤ placeB x ws i ∧ placeB x ws i < i + ws.length)
  | [], _, _ => .inl rfl
  | w :: r, i, h => by
    unfold placeB
    split
    · right; rw [List.length_cons]; omega
    · rcases place_bd x r (i + 1) (by omega) with h1 | h1
      · exact .inl h1
      · right; rw [List.length_cons]; omega
theorem rd_tail {S : Nat → Obj → Prop} {a : Option Addr} {ws : List ByteArray} {cap : Nat} (h : Rd S a (strs ws)) (hc : ws.length ≤ cap) : Rd S (cutA a cap 1 1) (strs (ws.drop 1)) := by
  have := h.cut (cap := cap) (l := 1) (sz := 1) (m := ws.length - 1) (by omega)
  have e : ((strs ws).drop (1 * 1)).take (ws.length - 1) = strs (ws.drop 1) := by
    unfold strs
    rw [Nat.mul_one, List.map_drop, List.take_of_length_le (by simp)]
  rw [e] at this; exact this
theorem wk_cases (w : ByteArray) : (((w.size : Int) != 4) = true) ∨ ((((w.size : Int) != 4) = false ∧ w.size = 4) ∧ ((byteAt w 3) != 44) = true) ∨ ((((w.size : Int) != 4) = false ∧ w.size = 4) ∧ ((byteAt w 3) != 44) = false ∧ byteAt w 3 = 44) := by
  cases h : ((w.size : Int) != 4) with
  | true => exact .inl rfl
  | false =>
    right
    have h4 : w.size = 4 := by
      have : (w.size : Int) = 4 := by simpa using h
      omega
    cases h' : ((byteAt w 3) != 44) with
    | true => exact .inl ⟨⟨rfl, h4⟩, rfl⟩
    | false => exact .inr ⟨⟨rfl, h4⟩, rfl, by simpa using h'⟩
theorem week_not {ws : List ByteArray} (h : ¬ ws.length = 6) : weekR ws = some ws := if_neg h
theorem week_no1 {ws : List ByteArray} (h : ws.length = 6) (h1 : (((wat ws 0).size : Int) != 4) = true) : weekR ws = none := by
  unfold weekR; rw [if_pos h, if_neg]
  rintro ⟨g, _⟩
  rw [g] at h1; cases h1
theorem week_no2 {ws : List ByteArray} (h : ws.length = 6) (h1 : ((byteAt (wat ws 0) 3) != 44) = true) : weekR ws = none := by
  unfold weekR; rw [if_pos h, if_neg]
  rintro ⟨_, g, _⟩
  rw [g] at h1; cases h1
theorem week_no3 {ws : List ByteArray} (h : ws.length = 6) (h1 : placeB ((wat ws 0).extract 0 3) wkL 0 < 0) : weekR ws = none := by
  unfold weekR; rw [if_pos h, if_neg]
  rintro ⟨_, _, g⟩
  omega
theorem week_yes {ws : List ByteArray} (h : ws.length = 6) (h1 : (wat ws 0).size = 4) (h2 : byteAt (wat ws 0) 3 = 44) (h3 : ¬ placeB ((wat ws 0).extract 0 3) wkL 0 < 0) : weekR ws = some (ws.drop 1) := by
  unfold weekR; rw [if_pos h, if_pos ⟨h1, h2, by omega⟩]
theorem refMail_no {s : ByteArray} (h : weekR (wordsB s) = none) : refMailM s = none := by unfold refMailM; rw [h]
theorem refMail_ws {s : ByteArray} {ws : List ByteArray} (h : weekR (wordsB s) = some ws) : refMailM s = coreR ws := by unfold refMailM; rw [h]
theorem core_go {ws : List ByteArray} (h : ws.length = 5) : coreR ws = core5 (wat ws 0) (wat ws 1) (wat ws 2) (wat ws 3) (wat ws 4) := if_pos h
theorem flags_no {a c d : ByteArray}
    (h : ((((!(likeB a (ByteArray.mk #[57]))) && (!(likeB a (ByteArray.mk #[57, 57])))) || ((!(likeB c (ByteArray.mk #[57, 57]))) && (!(likeB c (ByteArray.mk #[57, 57, 57, 57]))))) || ((!(likeB d (ByteArray.mk #[57, 57, 58, 57, 57]))) && (!(likeB d (ByteArray.mk #[57, 57, 58, 57, 57, 58, 57, 57]))))) = true) :
    (okD a && (okY c && okT d)) = false := by
  unfold okD okY okT
  cases h1 : likeB a (ByteArray.mk #[57]) <;> cases h2 : likeB a (ByteArray.mk #[57, 57]) <;> cases h3 : likeB c (ByteArray.mk #[57, 57]) <;> cases h4 : likeB c (ByteArray.mk #[57, 57, 57, 57]) <;>
    cases h5 : likeB d (ByteArray.mk #[57, 57, 58, 57, 57]) <;> cases h6 : likeB d (ByteArray.mk #[57, 57, 58, 57, 57, 58, 57, 57]) <;> simp only [h1, h2, h3, h4, h5, h6] at h ⊢ <;> first | rfl | cases h
theorem flags_yes {a c d : ByteArray}
    (h : ((((!(likeB a (ByteArray.mk #[57]))) && (!(likeB a (ByteArray.mk #[57, 57])))) || ((!(likeB c (ByteArray.mk #[57, 57]))) && (!(likeB c (ByteArray.mk #[57, 57, 57, 57]))))) || ((!(likeB d (ByteArray.mk #[57, 57, 58, 57, 57]))) && (!(likeB d (ByteArray.mk #[57, 57, 58, 57, 57, 58, 57, 57]))))) = false) :
    (okD a && (okY c && okT d)) = true ∧ a.size ≤ 2 ∧ (c.size = 2 ∨ c.size = 4) ∧ (d.size = 5 ∨ d.size = 8) := by
  have key : (okD a && (okY c && okT d)) = true := by
    unfold okD okY okT
    cases h1 : likeB a (ByteArray.mk #[57]) <;> cases h2 : likeB a (ByteArray.mk #[57, 57]) <;> cases h3 : likeB c (ByteArray.mk #[57, 57]) <;> cases h4 : likeB c (ByteArray.mk #[57, 57, 57, 57]) <;>
      cases h5 : likeB d (ByteArray.mk #[57, 57, 58, 57, 57]) <;> cases h6 : likeB d (ByteArray.mk #[57, 57, 58, 57, 57, 58, 57, 57]) <;> simp only [h1, h2, h3, h4, h5, h6] at h ⊢ <;> first | rfl | cases h
  refine ⟨key, ?_⟩
  rw [Bool.and_eq_true, Bool.and_eq_true] at key
  obtain ⟨k1, k2, k3⟩ := key
  unfold okD at k1
  unfold okY at k2
  unfold okT at k3
  rw [Bool.or_eq_true] at k1 k2 k3
  refine ⟨?_, ?_, ?_⟩
  · rcases k1 with k | k
    · rw [likeB_size k]; decide
    · rw [likeB_size k]; decide
  · rcases k2 with k | k
    · left; rw [likeB_size k]; rfl
    · right; rw [likeB_size k]; rfl
  · rcases k3 with k | k
    · left; rw [likeB_size k]; rfl
    · right; rw [likeB_size k]; rfl
theorem core5_no {a b c d e : ByteArray} (h : (okD a && (okY c && okT d)) = false) : core5 a b c d e = none := by unfold core5; rw [h]; rfl
theorem core5_zno {a b c d e : ByteArray} (hz : zoneR e = none) : core5 a b c d e = none := by
  unfold core5; rw [hz]; cases (okD a && (okY c && okT d)) <;> rfl
theorem core5_z {a b c d e : ByteArray} {o : Int} (h : (okD a && (okY c && okT d)) = true) (hz : zoneR e = some o) :
    core5 a b c d e = timeM (yearR c) (placeB b monL 0 + 1) (rdig a) (rdig (d.extract 0 2)) (rdig (d.extract 3 5)) (secR d) o := by unfold core5; rw [h, hz]; rfl
theorem zone_name {e : ByteArray} (h : placeB e zoneL 0 ≥ 0) : zoneR e = some ((-3600) * zoneT.getD (Int.toNat (placeB e zoneL 0)) 0) := if_pos h
theorem zone_off {e : ByteArray} (h : ¬ placeB e zoneL 0 ≥ 0) (ho : (rOff e (ByteArray.mk #[])).2 = true) : zoneR e = some (rOff e (ByteArray.mk #[])).1 := by unfold zoneR; rw [if_neg h, ho]; rfl
theorem zone_none {e : ByteArray} (h : ¬ placeB e zoneL 0 ≥ 0) (ho : (rOff e (ByteArray.mk #[])).2 = false) : zoneR e = none := by unfold zoneR; rw [if_neg h, ho]; rfl
theorem yearR_bd {c : ByteArray} (h : c.size ≤ 4) : -1 ≤ yearR c ∧ yearR c ≤ 12000 := by
  have := rdig_bd h
  unfold yearR
  split
  · split <;> omega
  · omega
theorem secR_bd {d : ByteArray} (h : d.size ≤ 8) : -1 ≤ secR d ∧ secR d ≤ 9999 := by
  unfold secR
  split
  · exact rdig_bd (ext_size' (by omega))
  · omega
def zoneTV : List Value := zoneT.map (Value.int .i64)
theorem zt_at {k : Nat} (h : k < 11) : zoneTV[k]? = some (.int .i64 (zoneT.getD k 0)) := by
  simp only [zoneTV, List.getElem?_map, List.getD_eq_getElem?_getD]
  have : k < zoneT.length := h
  rw [List.getElem?_eq_getElem this]; rfl
theorem zt_bd (k : Nat) : 0 ≤ zoneT.getD k 0 ∧ zoneT.getD k 0 ≤ 8 := by
  rcases Nat.lt_or_ge k 11 with h | h
  · have : k = 0 ∨ k = 1 ∨ k = 2 ∨ k = 3 ∨ k = 4 ∨ k = 5 ∨ k = 6 ∨ k = 7 ∨ k = 8 ∨ k = 9 ∨ k = 10 := by omega
    rcases this with rfl | rfl | rfl | rfl | rfl | rfl | rfl | rfl | rfl | rfl | rfl <;> decide
  · rw [List.getD_eq_getElem?_getD, List.getElem?_eq_none h]; decide
theorem wat_at {ws : List ByteArray} {k : Nat} (h : k < ws.length) : (strs ws)[k]? = some (.string (wat ws k)) := strs_at h
/-- what the zone's place is -/
theorem zl_len : zoneL.length = 11 := rfl
theorem ml_len : monL.length = 12 := rfl
theorem wl_len : wkL.length = 7 := rfl
theorem five_or (ws : List ByteArray) : (((ws.length : Int) != 5) = true) ∨ (((ws.length : Int) != 5) = false ∧ ws.length = 5) := by
  cases h : ((ws.length : Int) != 5) with
  | true => exact .inl rfl
  | false =>
    refine .inr ⟨rfl, ?_⟩
    have : (ws.length : Int) = 5 := by simpa using h
    omega
theorem five_no {ws : List ByteArray} (h : ((ws.length : Int) != 5) = true) : ws.length ≠ 5 := by
  intro h'
  rw [h'] at h; cases h
end Go.Proofs.YtlglmomimhbeaaaGreatDoor
