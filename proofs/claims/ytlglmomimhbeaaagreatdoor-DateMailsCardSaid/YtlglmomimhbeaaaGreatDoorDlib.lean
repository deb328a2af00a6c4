/- What the library's functions do, as contracts: Trim, TrimLeft, Atoi, Itoa, Repeat. Itoa of three digits or more: where the table of powers lies as laid. -/
import Derived.Test.YtlglmomimhbeaaaGreatDoorDa
import Derived.Test.YtlglmomimhbeaaaGreatDoorSh
import Derived.Lib.AtoiErrMem
namespace Go.Proofs.YtlglmomimhbeaaaGreatDoor
open Go.Sw Go.Lib Go.Cal Go.Scn Go.RowKit Go.Sort

def digits : ByteArray := ByteArray.mk #[48, 49, 50, 51, 52, 53, 54, 55, 56, 57]
def trimD (s : ByteArray) : ByteArray := ⟨(Lib.trimS s.data.toList digits.data.toList).toArray⟩
def trimLD (s : ByteArray) : ByteArray := ⟨(Lib.trimLeftS s.data.toList digits.data.toList).toArray⟩
theorem trimC (s : ByteArray) (hs : s.size ≤ 9223372036854775807) (W0 : World) (H : List Grp) : Tri Tryz.prog 38 #[.string s, .string digits] W0 H (fun v H' => v = .string (trimD s) ∧ H' = H) :=
  Tri_below (fun w _ => Any.strings_Trim_laid Tryz.lays160 (by kernel_rfl) s digits w hs (by decide) (ascii_of_all (by decide)))
theorem trimLC (s : ByteArray) (W0 : World) (H : List Grp) : Tri Tryz.prog 36 #[.string s, .string digits] W0 H (fun v H' => v = .string (trimLD s) ∧ H' = H) :=
  Tri_below (fun w _ => Any.strings_TrimLeft_laid Tryz.lays161 (by kernel_rfl) s digits w (by decide) (ascii_of_all (by decide)))
theorem atoiC (s : ByteArray) (n : Int) (hl : s.size ≤ 18) (h : Lib.atoi s.data.toList = some n) (W0 : World) (H : List Grp) : Tri Tryz.prog 39 #[.string s] W0 H (fun v H' => v = .tuple #[.int .i64 n, .nilIface] ∧ H' = H) :=
  Tri_below (fun w _ => (Tryz.strconv_Atoi s n hl h w).mono fun _ _ ⟨h1, t, h2⟩ => ⟨h1, by subst h2; exact Lib.bytesWorld_below w 5 t⟩)
def Tab (W0 : World) : Prop := Lib.TabIs Tryz.prog W0 "internal/strconv.uint64pow10" .u64 Lib.pow10Tab
theorem tab_sat {W0 : World} {H : List Grp} {w : World} (h : Tab W0) (hs : Sat W0 H w) : Tab w := by
  unfold Tab Lib.TabIs World.var? at *
  cases hg : Program.globalNamed Tryz.prog "internal/strconv.uint64pow10" with
  | none => rw [hg] at h; simp at h
  | some g =>
    rw [hg] at h
    simp only [Option.bind_some] at h ⊢
    have hlt : g < W0.heap.size := by
      rcases Nat.lt_or_ge g W0.heap.size with h' | h'
      · exact h'
      · rw [Array.getElem?_eq_none h'] at h; simp at h
    rw [hs.below.block g hlt]; exact h
theorem blw_grow (w : World) (k : Nat) (os : Array Obj) : Below w.heap.size w (grow (w.drewN k) os) :=
  ⟨rfl, rfl, rfl, by show w.heap.size ≤ (w.heap ++ os).size; rw [Array.size_append]; omega, fun j hj => by show (w.heap ++ os)[j]? = _; rw [Array.getElem?_append_left hj]⟩
def itoaB (n : Int) : ByteArray := ⟨(Lib.itoa n).toArray⟩
theorem itoaC (n : Int) (h0 : -9223372036854775808 ≤ n) (h1 : n ≤ 9223372036854775807) (W0 : World) (hT : Tab W0) (H : List Grp) : Tri Tryz.prog 44 #[.int .i64 n] W0 H (fun v H' => v = .string (itoaB n) ∧ H' = H) :=
  Tri_below (fun w hs => (Tryz.strconv_Itoa n h0 h1 w (tab_sat hT hs)).mono fun _ _ ⟨h1, k, os, h2⟩ => ⟨h1, by subst h2; exact blw_grow w k os⟩)
def repB (s : ByteArray) (c : Nat) : ByteArray := ⟨(Lib.repeatL s.data.toList c).toArray⟩
theorem repeatC (s : ByteArray) (c : Nat) (hc : c ≤ 1000) (hs : s.size ≤ 1000) (W0 : World) (H : List Grp) : Tri Tryz.prog 45 #[.string s, .int .i64 c] W0 H (fun v H' => v = .string (repB s c) ∧ H' = H) :=
  Tri_below (fun w _ => Tryz.strings_Repeat s c w (by omega) (by
    have : s.size * c ≤ 1000 * 1000 := Nat.mul_le_mul hs hc
    omega))

theorem dig_iff (c : UInt8) : digits.data.toList.contains c = isDig (c.toNat : Int) := by
  have h : ∀ n : Fin 256, digits.data.toList.contains (UInt8.ofNat n.val) = isDig (n.val : Int) := by decide +kernel
  have := h ⟨c.toNat, c.toNat_lt⟩
  simpa using this
theorem dw_nil {α : Type} (p : α → Bool) : ∀ l : List α, l.dropWhile p = [] ↔ ∀ x ∈ l, p x = true
  | [] => by simp
  | a :: l => by
    cases h : p a with
    | true => simp [h, dw_nil p l]
    | false => simp [h]
theorem trimS_nil (l cs : List UInt8) : Lib.trimS l cs = [] ↔ l.all (cs.contains ·) = true := by
  have hr : Lib.trimRightS l cs = [] ↔ l.all (cs.contains ·) = true := by
    unfold Lib.trimRightS
    rw [List.reverse_eq_nil_iff, dw_nil, List.all_eq_true]
    simp
  unfold Lib.trimS Lib.trimLeftS
  rw [← hr, dw_nil]
  constructor
  · intro h
    unfold Lib.trimRightS at h ⊢
    rw [List.reverse_eq_nil_iff]
    cases hd : l.reverse.dropWhile (cs.contains ·) with
    | nil => rfl
    | cons a r =>
      have h1 := h a (by rw [hd]; simp)
      have h2 := List.head_dropWhile_not (l := l.reverse) (cs.contains ·) (by rw [hd]; simp)
      simp only [hd, List.head_cons] at h2
      rw [h1] at h2; cases h2
  · intro h; rw [h]; simp
theorem trimD_nil (s : ByteArray) : ((trimD s).toList == (ByteArray.mk #[]).toList) = digB s := by
  have h := trimS_nil s.data.toList digits.data.toList
  have e : s.data.toList.all (digits.data.toList.contains ·) = digB s := by
    unfold digB
    congr 1
    funext c
    exact dig_iff c
  rw [e] at h
  have e2 : (trimD s).toList = Lib.trimS s.data.toList digits.data.toList := by rw [toList_data]; rfl
  have e3 : (ByteArray.mk #[]).toList = [] := by rw [toList_data]
  rw [e2, e3]
  cases hd : digB s with
  | true => rw [h.2 hd]; rfl
  | false =>
    rw [beq_eq_false_iff_ne]
    intro h0
    have := h.1 h0
    rw [hd] at this; cases this
theorem decFrom_eq : ∀ (l : List UInt8) (a : Nat), (l.all fun c => isDig (c.toNat : Int)) = true → (Lib.decFrom a l).map (fun (m : Nat) => (m : Int)) = some (l.foldl (fun a c => 10 * a + ((c.toNat : Int) - 48)) (a : Int))
  | [], a, _ => by simp [Lib.decFrom]
  | c :: r, a, h => by
    simp only [List.all_cons, Bool.and_eq_true, isDig, decide_eq_true_eq] at h
    obtain ⟨⟨h1, h2⟩, h3⟩ := h
    have hv : Lib.digitVal c = some (c.toNat - 48) := by unfold Lib.digitVal; rw [if_pos (by omega)]
    simp only [Lib.decFrom, hv, List.foldl_cons]
    rw [decFrom_eq r _ (by simpa [isDig] using h3)]
    congr 2
    omega
theorem atoi_dig {s : ByteArray} (h : digB s = true) (h0 : 0 < s.size) : Lib.atoi s.data.toList = some (dvalL s.data.toList) := by
  unfold digB at h
  cases hl : s.data.toList with
  | nil =>
    have : s.data.toList.length = 0 := by rw [hl]; rfl
    rw [Array.length_toList] at this
    exact absurd h0 (by rw [show s.size = s.data.size from rfl, this]; omega)
  | cons c r =>
    rw [hl] at h
    have hd := h
    simp only [List.all_cons, Bool.and_eq_true, isDig, decide_eq_true_eq] at hd
    have h45 : (c == 45) = false := by rw [beq_eq_false_iff_ne]; rintro rfl; exact absurd hd.1.1 (by decide)
    have h43 : (c == 43) = false := by rw [beq_eq_false_iff_ne]; rintro rfl; exact absurd hd.1.1 (by decide)
    simp only [Lib.atoi, h45, h43, Bool.false_eq_true, if_false, Lib.decNat, List.isEmpty_cons]
    rw [decFrom_eq _ 0 h]
    rfl
end Go.Proofs.YtlglmomimhbeaaaGreatDoor
