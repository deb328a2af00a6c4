/- The names of seven days in a row, in plain words. No program is in sight. -/
import Derived.Test.YtlglmomimhbeaabDoorBack2
namespace Go.Proofs.YtlglmomimhbeaabDoor
open Go.Sw Go.Lib Go.Cal Go.Scn

/-- the nearest time that can be written, with eight days to come -/
def wT (t : Int) : Int := if (if t < (253402300799 - 691200) then t else (253402300799 - 691200)) > (-62135596800) then (if t < (253402300799 - 691200) then t else (253402300799 - 691200)) else (-62135596800)
theorem wT_bd (t : Int) : -62135596800 ≤ wT t ∧ wT t ≤ 253401609599 := by unfold wT; split <;> split <;> omega
theorem dT_add {a : Int} {k : Int} (h0 : -62135596800 ≤ a) (hk : 0 ≤ k) (h1 : a + k * 86400 ≤ 253402300799) : dT (a + k * 86400) = dT a + k := by
  have e1 : clampT (a + k * 86400) = a + k * 86400 := by unfold clampT; split <;> split <;> omega
  have e2 : clampT a = a := by unfold clampT; split <;> split <;> omega
  unfold dT upT
  rw [e1, e2]
  omega
theorem ext_app {a b : ByteArray} {n : Nat} (h : n ≤ a.size) : (a ++ b).extract 0 n = a.extract 0 n := by
  rw [mk_of a, mk_of b, mk_app, mk_ext, mk_ext, List.drop_zero, List.drop_zero, List.take_append_of_le_length]
  exact h
theorem sz_app {a b : ByteArray} {n : Nat} (h : n ≤ a.size) : n ≤ (a ++ b).size := by rw [ByteArray.size_append]; omega
theorem mail_ext (t : Int) : (printMailB t).extract 0 3 = wkAt (dT t % 7) := by
  have hd := dT_bd t
  have hw : 3 ≤ (wkAt (dT t % 7)).size := by rw [wkAt_size (dT t % 7) (by omega) (by omega)]; exact Nat.le_refl _
  rw [printMail_split, mailHeadB]
  rw [ext_app (sz_app (sz_app (sz_app (sz_app (sz_app (sz_app (sz_app (sz_app hw)))))))), ext_app (sz_app (sz_app (sz_app (sz_app (sz_app (sz_app (sz_app hw))))))), ext_app (sz_app (sz_app (sz_app (sz_app (sz_app (sz_app hw)))))),
    ext_app (sz_app (sz_app (sz_app (sz_app (sz_app hw))))), ext_app (sz_app (sz_app (sz_app (sz_app hw)))), ext_app (sz_app (sz_app (sz_app hw))), ext_app (sz_app (sz_app hw)), ext_app (sz_app hw), ext_app hw]
  have h3 := wkAt_size (dT t % 7) (by omega) (by omega)
  rw [mk_of (wkAt (dT t % 7))] at h3 ⊢
  rw [mk_size] at h3
  rw [mk_ext, List.drop_zero, List.take_of_length_le (by omega)]
theorem mail_29 (t : Int) : 3 ≤ (printMailB t).size := by
  have hd := dT_bd t
  have hw : 3 ≤ (wkAt (dT t % 7)).size := by rw [wkAt_size (dT t % 7) (by omega) (by omega)]; exact Nat.le_refl _
  rw [printMail_split, mailHeadB]
  exact sz_app (sz_app (sz_app (sz_app (sz_app (sz_app (sz_app (sz_app (sz_app hw))))))))
noncomputable def wkName (a : Int) (k : Int) : ByteArray := (printMailB (a + (k * 86400))).extract 0 3
theorem wkName_is {a : Int} (h0 : -62135596800 ≤ a) (h1 : a ≤ 253401609599) {k : Int} (hk : 0 ≤ k) (h7 : k ≤ 7) : wkName a k = wkAt ((dT a + k) % 7) := by
  unfold wkName; rw [mail_ext, dT_add h0 hk (by omega)]
theorem wk_unlike (p q : Fin 7) (h : p ≠ q) : ((wkL.getD p.val default).toList == (wkL.getD q.val default).toList) = false := by
  have key : ∀ p q : Fin 7, p ≠ q → ((wkL.getD p.val default).data.toList == (wkL.getD q.val default).data.toList) = false := by decide +kernel
  rw [toList_data, toList_data]
  exact key p q h
theorem wkName_unlike {a : Int} (h0 : -62135596800 ≤ a) (h1 : a ≤ 253401609599) {i k : Nat} (hk : k < i) (hi : i < 7) : ((wkName a (i : Int)).toList == (wkName a (k : Int)).toList) = false := by
  rw [wkName_is h0 h1 (by omega) (by omega), wkName_is h0 h1 (by omega) (by omega)]
  have hp : ((dT a + (i : Int)) % 7).toNat < 7 := by omega
  have hq : ((dT a + (k : Int)) % 7).toNat < 7 := by omega
  exact wk_unlike ⟨_, hp⟩ ⟨_, hq⟩ (by intro h; injection h with h; omega)
/-- a row of seven: those below i are told -/
noncomputable def wkRow (a : Int) (i : Nat) : List Value := (List.range 7).map fun (k : Nat) => if k < i then Value.string (wkName a (k : Int)) else Value.string (ByteArray.mk #[])
theorem wkRow_at {a : Int} {i k : Nat} (hk : k < i) (hi : i ≤ 7) : (wkRow a i).toArray[0 + Int.toNat ((k : Nat) : Int) * 1]? = some (.string (wkName a (k : Int))) := by
  rw [List.getElem?_toArray, Nat.zero_add, Nat.mul_one, Int.toNat_natCast]
  unfold wkRow
  rw [List.getElem?_map, List.getElem?_range (by omega)]
  simp only [Option.map_some]
  rw [if_pos hk]
theorem wkRow_0 {a : Int} {i : Nat} (h : 0 < i) : (wkRow a i).toArray[0]? = some (.string (wkName a 0)) := by
  rw [List.getElem?_toArray]
  unfold wkRow
  rw [List.getElem?_map, List.getElem?_range (by omega)]
  simp only [Option.map_some]
  rw [if_pos h]
  rfl
theorem wkRow_size (a : Int) (i : Nat) : (wkRow a i).toArray.size = 7 := by
  rw [List.size_toArray]; unfold wkRow; rw [List.length_map, List.length_range]
theorem wkRow_set {a : Int} {i : Nat} (hi : i < 7) : setRow (wkRow a i).toArray (0 + Int.toNat ((i : Nat) : Int) * 1) (Value.cells (.string (wkName a (i : Int)))).toList = (wkRow a (i + 1)).toArray := by
  rw [Nat.zero_add, Nat.mul_one, Int.toNat_natCast]
  show ((wkRow a i).toArray.setIfInBounds i (.string (wkName a (i : Int)))) = _
  apply Array.ext'
  rw [Array.toList_setIfInBounds, List.toList_toArray, List.toList_toArray]
  apply List.ext_getElem?
  intro j
  unfold wkRow
  rw [List.getElem?_set, List.getElem?_map, List.getElem?_map]
  rcases Nat.lt_or_ge j 7 with hj | hj
  · rw [List.getElem?_range hj]
    simp only [Option.map_some, List.length_map, List.length_range]
    by_cases e : i = j
    · subst e; rw [if_pos rfl, if_pos hi, if_pos (by omega)]
    · rw [if_neg e]
      by_cases h : j < i
      · rw [if_pos h, if_pos (by omega)]
      · rw [if_neg h, if_neg (by omega)]
  · rw [List.getElem?_eq_none (by simpa using hj)]
    rw [if_neg (by omega)]
    rfl
theorem wk_end {a : Int} (h0 : -62135596800 ≤ a) (h1 : a ≤ 253401609599) : (((printMailB (a + 604800)).extract 0 3).toList == (wkName a 0).toList) = true := by
  have e : (printMailB (a + 604800)).extract 0 3 = wkName a 7 := rfl
  rw [e, wkName_is h0 h1 (by omega) (by omega), wkName_is h0 h1 (by omega) (by omega), show (dT a + 7) % 7 = (dT a + 0) % 7 from by omega]
  exact beq_self_eq_true _
end Go.Proofs.YtlglmomimhbeaabDoor
