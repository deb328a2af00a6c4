/- Walks of the scan's functions and of Atom. -/
import Derived.Test.YtlglmomimhbeaaaGreatDoorDlib
namespace Go.Proofs.YtlglmomimhbeaaaGreatDoor
open Go.Sw Go.Lib Go.Cal Go.Scn

theorem numR {n : Nat} {σ : Sc} {b : Nat} {H : List Grp} {q : Int × Sc} (h : num n σ = q) (h4 : n ≤ 4) : ∃ p, p = num n σ ∧ 0 ≤ p.1 ∧ p.1 ≤ 9999 ∧ p.2.s.size ≤ σ.s.size ∧ (.int .i64 q.1 : Value) = .int .i64 p.1 ∧ ([(b, .cells #[.string q.2.s, .bool q.2.bad] 40 (0, 0))] :: H : List Grp) = ([(b, .cells #[.string p.2.s, .bool p.2.bad] 40 (0, 0))] :: H) := by
  subst h
  exact ⟨_, rfl, (num_bd n h4 σ).1, (num_bd n h4 σ).2, num_size n σ, rfl, rfl⟩
theorem num_no {n : Nat} {σ : Sc} (h : ((decide ((σ.s.size : Int) < ((n : Nat) : Int))) || (!((trimD (σ.s.extract 0 n)).toList == (ByteArray.mk #[]).toList))) = true) : num n σ = (0, ⟨σ.s, true⟩) := by
  rw [trimD_nil] at h
  simp only [Bool.or_eq_true, decide_eq_true_eq, Bool.not_eq_true'] at h
  unfold num
  rw [if_neg]
  rintro ⟨h1, h2⟩
  rcases h with h | h
  · omega
  · rw [h] at h2; cases h2
theorem num_ok {n : Nat} {σ : Sc} (h : ((decide ((σ.s.size : Int) < ((n : Nat) : Int))) || (!((trimD (σ.s.extract 0 n)).toList == (ByteArray.mk #[]).toList))) = false) : n ≤ σ.s.size ∧ digB (σ.s.extract 0 n) = true := by
  rw [trimD_nil] at h
  simp only [Bool.or_eq_false_iff, decide_eq_false_iff_not, Bool.not_eq_false'] at h
  exact ⟨by omega, h.2⟩
def pl : ByteArray := ByteArray.mk #[43]
def mi_ : ByteArray := ByteArray.mk #[45]
def co : ByteArray := ByteArray.mk #[58]
def offM (colon : ByteArray) (σ : Sc) : Int × Sc :=
  let p := one [pl, mi_] σ
  let q := num 2 p.2
  let r := if colon.toList == (ByteArray.mk #[]).toList then q.2 else (one [colon] q.2).2
  let u := num 2 r
  ((1 - 2 * p.1) * (q.1 * 3600 + u.1 * 60), ⟨u.2.s, u.2.bad || decide (q.1 > 23) || decide (u.1 > 59)⟩)
def endM (σ : Sc) (t : Option Int) : Option Int := match t with
  | some t => if (σ.bad || decide ((σ.s.size : Int) > 0)) = true then none else some t
  | none => none
theorem offR {colon : ByteArray} {σ : Sc} {b : Nat} {H : List Grp} {p q u : Int × Sc} {r : Sc} (hp : p = one [pl, mi_] σ) (hq : q = num 2 p.2) (hr : r = if (colon.toList == (ByteArray.mk #[]).toList) = true then q.2 else (one [colon] q.2).2) (hu : u = num 2 r)
    (b1 : -1 ≤ p.1) (b2 : p.1 ≤ 2) (b3 : 0 ≤ q.1) (b4 : q.1 ≤ 9999) (b5 : 0 ≤ u.1) (b6 : u.1 ≤ 9999) (bs : u.2.s.size ≤ σ.s.size) {x : Int} (hx : x = (1 - 2 * p.1) * (q.1 * 3600 + u.1 * 60)) :
    ∃ o, o = offM colon σ ∧ -1000000000 ≤ o.1 ∧ o.1 ≤ 1000000000 ∧ o.2.s.size ≤ σ.s.size ∧ (.int .i64 x : Value) = .int .i64 o.1 ∧ ([(b, .cells #[.string u.2.s, .bool (u.2.bad || decide (q.1 > 23) || decide (u.1 > 59))] 40 (0, 0))] :: H : List Grp) = ([(b, .cells #[.string o.2.s, .bool o.2.bad] 40 (0, 0))] :: H) := by
  refine ⟨_, rfl, ?_⟩
  have e : offM colon σ = ((1 - 2 * p.1) * (q.1 * 3600 + u.1 * 60), ⟨u.2.s, u.2.bad || decide (q.1 > 23) || decide (u.1 > 59)⟩) := by
    simp only [offM, ← hp, ← hq, ← hr, ← hu]
  rw [e, ← hx]
  have h0 : 0 ≤ q.1 * 3600 + u.1 * 60 := by omega
  have h1 : q.1 * 3600 + u.1 * 60 ≤ 40000000 := by omega
  have hb : -1000000000 ≤ x ∧ x ≤ 1000000000 := by
    rw [hx]
    generalize q.1 * 3600 + u.1 * 60 = z at h0 h1
    have : p.1 = -1 ∨ p.1 = 0 ∨ p.1 = 1 ∨ p.1 = 2 := by omega
    rcases this with h | h | h | h <;> rw [h] <;> omega
  exact ⟨hb.1, hb.2, bs, rfl, rfl⟩
theorem off_mul {p z : Int} (b1 : -1 ≤ p) (b2 : p ≤ 2) (h0 : 0 ≤ z) (h1 : z ≤ 40000000) : -1000000000 ≤ (1 - 2 * p) * z ∧ (1 - 2 * p) * z ≤ 1000000000 := by
  have : p = -1 ∨ p = 0 ∨ p = 1 ∨ p = 2 := by omega
  rcases this with h | h | h | h <;> rw [h] <;> omega

theorem number_ (b : Nat) (σ : Sc) (n : Nat) (h1 : 1 ≤ n) (h4 : n ≤ 4) (W0 : World) (H : List Grp) : Tri Tryz.prog 19 #[.pointer (some ⟨b, 0, none⟩), .int .i64 ((n : Nat) : Int)] W0 ([(b, .cells #[.string σ.s, .bool σ.bad] 40 (0, 0))] :: H) (fun v H' => ∃ p, p = num n σ ∧ 0 ≤ p.1 ∧ p.1 ≤ 9999 ∧ p.2.s.size ≤ σ.s.size ∧ v = .int .i64 p.1 ∧ H' = ([(b, .cells #[.string p.2.s, .bool p.2.bad] 40 (0, 0))] :: H)) := by
  refine Tri_of (args := [.pointer (some ⟨b, 0, none⟩), .int .i64 ((n : Nat) : Int)]) (n := 47) Tryz.func19 rfl rfl (Nat.le_of_ble_eq_true rfl) ?_
  refine G_seq ?_
  refine G_pure (E' := [⟨0, [], .pointer (some ⟨b, 0, none⟩)⟩, ⟨1, [], .int .i64 ((n : Nat) : Int)⟩]) [0] [0, 1] rfl (by kernel_rfl) ?_
  refine N_then ?_
  refine G_seq ?_
  refine G_seq ?_
  refine G_region ?_
  refine GL_pure (E' := [⟨9, [], .pointer (some ⟨b, 0, none⟩)⟩, ⟨8, [], .pointer (some ⟨b, 0, none⟩)⟩, ⟨7, [], .pointer (some ⟨b, 0, none⟩)⟩, ⟨0, [], .pointer (some ⟨b, 0, none⟩)⟩, ⟨1, [], .int .i64 ((n : Nat) : Int)⟩]) [0, 0, 0] (by kernel_rfl) (j := 3) rfl ?_
  refine GL_load (i := 3) (ch := []) (b := b) (off := 0) (v := .string σ.s) rfl rfl (by kernel_rfl) (by kernel_rfl) (by kernel_rfl) (by kernel_rfl) (by kernel_rfl) (At.grp 0 0 rfl rfl) rfl ?_
  refine GL_pure (E' := [⟨17, [(14, false)], .pointer (some ⟨b, 0, none⟩)⟩, ⟨16, [(14, false)], .pointer (some ⟨b, 0, none⟩)⟩, ⟨15, [(14, false)], .pointer (some ⟨b, 0, none⟩)⟩, ⟨14, [], .bool (decide ((σ.s.size : Int) < ((n : Nat) : Int)))⟩, ⟨13, [], .bool (decide ((σ.s.size : Int) < ((n : Nat) : Int)))⟩, ⟨12, [], .int .i64 ((n : Nat) : Int)⟩, ⟨11, [], .int .i64 (σ.s.size : Int)⟩, ⟨10, [], .string σ.s⟩, ⟨9, [], .pointer (some ⟨b, 0, none⟩)⟩, ⟨8, [], .pointer (some ⟨b, 0, none⟩)⟩, ⟨7, [], .pointer (some ⟨b, 0, none⟩)⟩, ⟨0, [], .pointer (some ⟨b, 0, none⟩)⟩, ⟨1, [], .int .i64 ((n : Nat) : Int)⟩]) [0, 0, 0, 0, 0, 0, 0] (by kernel_rfl) (j := 11) rfl ?_
  refine GL_load (i := 11) (ch := [(14, false)]) (b := b) (off := 0) (v := .string σ.s) rfl rfl (by kernel_rfl) (by kernel_rfl) (by kernel_rfl) (by kernel_rfl) (by kernel_rfl) (At.grp 0 0 rfl rfl) rfl ?_
  refine GL_pure (E' := [⟨19, [(14, false)], .int .i64 ((n : Nat) : Int)⟩, ⟨18, [(14, false)], .string σ.s⟩, ⟨17, [(14, false)], .pointer (some ⟨b, 0, none⟩)⟩, ⟨16, [(14, false)], .pointer (some ⟨b, 0, none⟩)⟩, ⟨15, [(14, false)], .pointer (some ⟨b, 0, none⟩)⟩, ⟨14, [], .bool (decide ((σ.s.size : Int) < ((n : Nat) : Int)))⟩, ⟨13, [], .bool (decide ((σ.s.size : Int) < ((n : Nat) : Int)))⟩, ⟨12, [], .int .i64 ((n : Nat) : Int)⟩, ⟨11, [], .int .i64 (σ.s.size : Int)⟩, ⟨10, [], .string σ.s⟩, ⟨9, [], .pointer (some ⟨b, 0, none⟩)⟩, ⟨8, [], .pointer (some ⟨b, 0, none⟩)⟩, ⟨7, [], .pointer (some ⟨b, 0, none⟩)⟩, ⟨0, [], .pointer (some ⟨b, 0, none⟩)⟩, ⟨1, [], .int .i64 ((n : Nat) : Int)⟩]) [0] (by kernel_rfl) (j := 13) rfl ?_
  refine GL_sliceS (i := 13) (ch := [(14, false)]) (s := σ.s) (vl := none) (vh := (some (.int .i64 ((n : Nat) : Int)))) (l := 0) (h := ((n : Nat) : Int)) rfl rfl (by kernel_rfl) (by kernel_rfl) (by kernel_rfl) (by kernel_rfl) (by kernel_rfl) (by kernel_rfl) (by kernel_rfl) (by kernel_rfl) (by kernel_rfl) (fun hc => by have hg0 := chB_hd (t := 14) (c := []) (b := decide ((σ.s.size : Int) < ((n : Nat) : Int))) hc (by kernel_rfl); (try simp at hg0); omega) ?_
  refine GL_callQ (i := 14) (ch := [(14, false)]) (f := 38) (fst := #[]) (caps := #[]) (vs := [.string (σ.s.extract 0 n), .string (ByteArray.mk #[48, 49, 50, 51, 52, 53, 54, 55, 56, 57])]) (v := .string (trimD (σ.s.extract 0 n))) rfl rfl rfl (by kernel_rfl) (by kernel_rfl) Tryz.func38 rfl rfl (by kernel_rfl) (by kernel_rfl) (by kernel_rfl) (fun hc => trimC _ (by have hg0 := chB_hd (t := 14) (c := []) (b := decide ((σ.s.size : Int) < ((n : Nat) : Int))) hc (by kernel_rfl); (try simp at hg0); (try simp only [ByteArray.size_extract]); omega) _ _) ?_
  refine GL_fin (E' := [⟨0, [], .pointer (some ⟨b, 0, none⟩)⟩, ⟨1, [], .int .i64 ((n : Nat) : Int)⟩, ⟨23, [], .bool ((decide ((σ.s.size : Int) < ((n : Nat) : Int))) || (!((trimD (σ.s.extract 0 n)).toList == (ByteArray.mk #[]).toList)))⟩]) [0, 5] [0, 1, 23] rfl (by kernel_rfl) ?_
  refine N_then ?_
  refine G_cond (b := (decide ((σ.s.size : Int) < ((n : Nat) : Int))) || (!((trimD (σ.s.extract 0 n)).toList == (ByteArray.mk #[]).toList))) (by kernel_rfl) (fun hc1 => ?_) (fun hc1 => ?_)
  ·
    have hno := num_no hc1
    refine G_seq ?_
    refine G_region ?_
    refine GL_pure (E' := [⟨26, [], .pointer (some ⟨b, 1, none⟩)⟩, ⟨25, [], .pointer (some ⟨b, 0, none⟩)⟩, ⟨24, [], .pointer (some ⟨b, 0, none⟩)⟩, ⟨0, [], .pointer (some ⟨b, 0, none⟩)⟩, ⟨1, [], .int .i64 ((n : Nat) : Int)⟩, ⟨23, [], .bool ((decide ((σ.s.size : Int) < ((n : Nat) : Int))) || (!((trimD (σ.s.extract 0 n)).toList == (ByteArray.mk #[]).toList)))⟩]) [0, 0, 0] (by kernel_rfl) (j := 3) rfl ?_
    refine GL_store (i := 3) (ch := []) (b := b) (off := 1) (v := .bool true) (c := #[.string σ.s, .bool σ.bad]) (c' := #[.string σ.s, .bool true]) (j := 0) (m := 0) (H' := ([(b, .cells #[.string σ.s, .bool true] 40 (0, 0))] :: H)) rfl rfl (by kernel_rfl) (by kernel_rfl) (by kernel_rfl) (by kernel_rfl) (by kernel_rfl) (by kernel_rfl) (by kernel_rfl) rfl rfl (Nat.le_of_ble_eq_true rfl) (fun _ _ => thaw0) (by kernel_rfl) (by kernel_rfl) ?_
    refine GL_fin (E' := []) [] [] rfl (by kernel_rfl) ?_
    refine N_then ?_
    refine G_seq ?_
    refine G_pure (E' := [⟨4, [], .int .i64 0⟩]) [0] [4] rfl (by kernel_rfl) ?_
    refine N_then ?_
    refine G_ret ?_
    refine N_then_ret ?_
    refine N_ret [.tmp 4] [.int .i64 0] rfl (by kernel_rfl) rfl ?_
    exact numR hno h4
  ·
    have hok := num_ok hc1
    have hok1 := hok.1
    refine G_skip ?_
    refine N_then ?_
    refine G_seq ?_
    refine G_region ?_
    refine GL_pure (E' := [⟨30, [], .pointer (some ⟨b, 0, none⟩)⟩, ⟨29, [], .pointer (some ⟨b, 0, none⟩)⟩, ⟨28, [], .pointer (some ⟨b, 0, none⟩)⟩, ⟨0, [], .pointer (some ⟨b, 0, none⟩)⟩, ⟨1, [], .int .i64 ((n : Nat) : Int)⟩, ⟨23, [], .bool ((decide ((σ.s.size : Int) < ((n : Nat) : Int))) || (!((trimD (σ.s.extract 0 n)).toList == (ByteArray.mk #[]).toList)))⟩]) [0, 0, 0] (by kernel_rfl) (j := 3) rfl ?_
    refine GL_load (i := 3) (ch := []) (b := b) (off := 0) (v := .string σ.s) rfl rfl (by kernel_rfl) (by kernel_rfl) (by kernel_rfl) (by kernel_rfl) (by kernel_rfl) (At.grp 0 0 rfl rfl) rfl ?_
    refine GL_pure (E' := [⟨32, [], .int .i64 ((n : Nat) : Int)⟩, ⟨31, [], .string σ.s⟩, ⟨30, [], .pointer (some ⟨b, 0, none⟩)⟩, ⟨29, [], .pointer (some ⟨b, 0, none⟩)⟩, ⟨28, [], .pointer (some ⟨b, 0, none⟩)⟩, ⟨0, [], .pointer (some ⟨b, 0, none⟩)⟩, ⟨1, [], .int .i64 ((n : Nat) : Int)⟩, ⟨23, [], .bool ((decide ((σ.s.size : Int) < ((n : Nat) : Int))) || (!((trimD (σ.s.extract 0 n)).toList == (ByteArray.mk #[]).toList)))⟩]) [0] (by kernel_rfl) (j := 5) rfl ?_
    refine GL_sliceS (i := 5) (ch := []) (s := σ.s) (vl := none) (vh := (some (.int .i64 ((n : Nat) : Int)))) (l := 0) (h := ((n : Nat) : Int)) rfl rfl (by kernel_rfl) (by kernel_rfl) (by kernel_rfl) (by kernel_rfl) (by kernel_rfl) (by kernel_rfl) (by kernel_rfl) (by kernel_rfl) (by kernel_rfl) (fun _ => by omega) ?_
    refine GL_callQ (i := 6) (ch := []) (f := 39) (fst := #[]) (caps := #[]) (vs := [.string (σ.s.extract 0 n)]) (v := .tuple #[.int .i64 (dvalL (σ.s.extract 0 n).data.toList), .nilIface]) rfl rfl rfl (by kernel_rfl) (by kernel_rfl) Tryz.func39 rfl rfl (by kernel_rfl) (by kernel_rfl) (by kernel_rfl) (fun _ => atoiC _ _ (by simp only [ByteArray.size_extract]; omega) (atoi_dig hok.2 (by simp only [ByteArray.size_extract]; omega)) _ _) ?_
    refine GL_fin (E' := [⟨0, [], .pointer (some ⟨b, 0, none⟩)⟩, ⟨1, [], .int .i64 ((n : Nat) : Int)⟩, ⟨5, [], .int .i64 (dvalL (σ.s.extract 0 n).data.toList)⟩]) [0, 0, 0, 0, 0] [0, 1, 5] rfl (by kernel_rfl) ?_
    refine N_then ?_
    refine G_seq ?_
    refine G_region ?_
    refine GL_pure (E' := [⟨40, [], .pointer (some ⟨b, 0, none⟩)⟩, ⟨39, [], .pointer (some ⟨b, 0, none⟩)⟩, ⟨38, [], .pointer (some ⟨b, 0, none⟩)⟩, ⟨37, [], .pointer (some ⟨b, 0, none⟩)⟩, ⟨0, [], .pointer (some ⟨b, 0, none⟩)⟩, ⟨1, [], .int .i64 ((n : Nat) : Int)⟩, ⟨5, [], .int .i64 (dvalL (σ.s.extract 0 n).data.toList)⟩]) [0, 0, 0, 0] (by kernel_rfl) (j := 4) rfl ?_
    refine GL_load (i := 4) (ch := []) (b := b) (off := 0) (v := .string σ.s) rfl rfl (by kernel_rfl) (by kernel_rfl) (by kernel_rfl) (by kernel_rfl) (by kernel_rfl) (At.grp 0 0 rfl rfl) rfl ?_
    refine GL_pure (E' := [⟨42, [], .int .i64 ((n : Nat) : Int)⟩, ⟨41, [], .string σ.s⟩, ⟨40, [], .pointer (some ⟨b, 0, none⟩)⟩, ⟨39, [], .pointer (some ⟨b, 0, none⟩)⟩, ⟨38, [], .pointer (some ⟨b, 0, none⟩)⟩, ⟨37, [], .pointer (some ⟨b, 0, none⟩)⟩, ⟨0, [], .pointer (some ⟨b, 0, none⟩)⟩, ⟨1, [], .int .i64 ((n : Nat) : Int)⟩, ⟨5, [], .int .i64 (dvalL (σ.s.extract 0 n).data.toList)⟩]) [0] (by kernel_rfl) (j := 6) rfl ?_
    refine GL_sliceS (i := 6) (ch := []) (s := σ.s) (vl := (some (.int .i64 ((n : Nat) : Int)))) (vh := none) (l := ((n : Nat) : Int)) (h := (σ.s.size : Int)) rfl rfl (by kernel_rfl) (by kernel_rfl) (by kernel_rfl) (by kernel_rfl) (by kernel_rfl) (by kernel_rfl) (by kernel_rfl) (by kernel_rfl) (by kernel_rfl) (fun _ => by omega) ?_
    refine GL_pure (E' := [⟨45, [], .pointer (some ⟨b, 0, none⟩)⟩, ⟨44, [], .pointer (some ⟨b, 0, none⟩)⟩, ⟨43, [], .string (σ.s.extract n σ.s.size)⟩, ⟨42, [], .int .i64 ((n : Nat) : Int)⟩, ⟨41, [], .string σ.s⟩, ⟨40, [], .pointer (some ⟨b, 0, none⟩)⟩, ⟨39, [], .pointer (some ⟨b, 0, none⟩)⟩, ⟨38, [], .pointer (some ⟨b, 0, none⟩)⟩, ⟨37, [], .pointer (some ⟨b, 0, none⟩)⟩, ⟨0, [], .pointer (some ⟨b, 0, none⟩)⟩, ⟨1, [], .int .i64 ((n : Nat) : Int)⟩, ⟨5, [], .int .i64 (dvalL (σ.s.extract 0 n).data.toList)⟩]) [0, 0] (by kernel_rfl) (j := 9) rfl ?_
    refine GL_store (i := 9) (ch := []) (b := b) (off := 0) (v := .string (σ.s.extract n σ.s.size)) (c := #[.string σ.s, .bool σ.bad]) (c' := #[.string (σ.s.extract n σ.s.size), .bool σ.bad]) (j := 0) (m := 0) (H' := ([(b, .cells #[.string (σ.s.extract n σ.s.size), .bool σ.bad] 40 (0, 0))] :: H)) rfl rfl (by kernel_rfl) (by kernel_rfl) (by kernel_rfl) (by kernel_rfl) (by kernel_rfl) (by kernel_rfl) (by kernel_rfl) rfl rfl (Nat.le_of_ble_eq_true rfl) (fun _ _ => thaw0) (by kernel_rfl) (by kernel_rfl) ?_
    refine GL_fin (E' := [⟨5, [], .int .i64 (dvalL (σ.s.extract 0 n).data.toList)⟩]) [] [5] rfl (by kernel_rfl) ?_
    refine N_then ?_
    refine G_seq ?_
    refine G_pure (E' := [⟨4, [], .int .i64 (dvalL (σ.s.extract 0 n).data.toList)⟩]) [0, 0] [4] rfl (by kernel_rfl) ?_
    refine N_then ?_
    refine G_ret ?_
    refine N_ret [.tmp 4] [.int .i64 (dvalL (σ.s.extract 0 n).data.toList)] rfl (by kernel_rfl) rfl ?_
    exact numR (by rw [num, if_pos hok]) h4

theorem offset_ (b : Nat) (σ : Sc) (colon : ByteArray) (W0 : World) (H : List Grp) : Tri Tryz.prog 22 #[.pointer (some ⟨b, 0, none⟩), .string colon] W0 ([(b, .cells #[.string σ.s, .bool σ.bad] 40 (0, 0))] :: H) (fun v H' => ∃ p, p = offM colon σ ∧ -1000000000 ≤ p.1 ∧ p.1 ≤ 1000000000 ∧ p.2.s.size ≤ σ.s.size ∧ v = .int .i64 p.1 ∧ H' = ([(b, .cells #[.string p.2.s, .bool p.2.bad] 40 (0, 0))] :: H)) := by
  refine Tri_of (args := [.pointer (some ⟨b, 0, none⟩), .string colon]) (n := 45) Tryz.func22 rfl rfl (Nat.le_of_ble_eq_true rfl) ?_
  refine G_seq ?_
  refine G_pure (E' := [⟨0, [], .pointer (some ⟨b, 0, none⟩)⟩, ⟨1, [], .string colon⟩]) [0] [0, 1] rfl (by kernel_rfl) ?_
  refine N_then ?_
  refine G_seq ?_
  refine G_region ?_
  refine GL_pure (E' := [⟨8, [], .pointer (some ⟨b, 0, none⟩)⟩, ⟨0, [], .pointer (some ⟨b, 0, none⟩)⟩, ⟨1, [], .string colon⟩]) [0] (by kernel_rfl) (j := 1) rfl ?_
  refine GL_buildSlice (i := 1) (ch := []) (e := 9) (l := [(0, .string (ByteArray.mk #[43])), (1, .string (ByteArray.mk #[45]))]) (c := [.string (ByteArray.mk #[43]), .string (ByteArray.mk #[45])]) rfl rfl (by kernel_rfl) (by kernel_rfl) (by kernel_rfl) (by kernel_rfl) (by kernel_rfl) (fun b1 => ?_)
  refine GL_heap rfl (H' := ([(b, .cells #[.string σ.s, .bool σ.bad] 40 (0, 0))] :: [(b1, .cells #[.string (ByteArray.mk #[43]), .string (ByteArray.mk #[45])] 9 (0, 0))] :: H)) (fun w h => (h.front (j := 1) rfl)) ?_
  refine GL_call (i := 2) (ch := []) (f := 17) (fst := #[]) (caps := #[]) (vs := [.pointer (some ⟨b, 0, none⟩), .slice (some ⟨b1, 0, none⟩) 2 2]) rfl rfl rfl (by kernel_rfl) (by kernel_rfl) Tryz.func17 rfl rfl (by kernel_rfl) (by kernel_rfl) (chSure_of (by kernel_rfl)) (one_ b σ (some ⟨b1, 0, none⟩) 2 (inG [(b1, .cells #[.string (ByteArray.mk #[43]), .string (ByteArray.mk #[45])] 9 (0, 0))]) ([(ByteArray.mk #[43]), (ByteArray.mk #[45])]) (Rd.lit (c := [.string (ByteArray.mk #[43]), .string (ByteArray.mk #[45])])) (Nat.le_of_ble_eq_true rfl) _ _ (at_inG 1 rfl)) ?_
  rintro _ _ ⟨p2, hp2, hp2a, hp2b, hp2c, rfl, rfl⟩
  simp at hp2b
  have hw3 : IntKind.wrap .i64 (2 * p2.1) = 2 * p2.1 := w64 (by first | omega | exact Int.le_trans (by decide) (off_mul (by omega) (by omega) (by omega) (by omega)).1 | exact Int.le_trans (off_mul (by omega) (by omega) (by omega) (by omega)).2 (by decide)) (by first | omega | exact Int.le_trans (by decide) (off_mul (by omega) (by omega) (by omega) (by omega)).1 | exact Int.le_trans (off_mul (by omega) (by omega) (by omega) (by omega)).2 (by decide))
  have hw4 : IntKind.wrap .i64 (1 - (2 * p2.1)) = 1 - (2 * p2.1) := w64 (by first | omega | exact Int.le_trans (by decide) (off_mul (by omega) (by omega) (by omega) (by omega)).1 | exact Int.le_trans (off_mul (by omega) (by omega) (by omega) (by omega)).2 (by decide)) (by first | omega | exact Int.le_trans (by decide) (off_mul (by omega) (by omega) (by omega) (by omega)).1 | exact Int.le_trans (off_mul (by omega) (by omega) (by omega) (by omega)).2 (by decide))
  refine GL_fin (E' := [⟨0, [], .pointer (some ⟨b, 0, none⟩)⟩, ⟨1, [], .string colon⟩, ⟨5, [], .int .i64 (1 - (2 * p2.1))⟩]) [0, 0, 0] [0, 1, 5] rfl (Eq.trans (b := some [⟨0, [], .pointer (some ⟨b, 0, none⟩)⟩, ⟨1, [], .string colon⟩, ⟨5, [], .int .i64 (IntKind.wrap .i64 (1 - (IntKind.wrap .i64 (2 * p2.1))))⟩]) (by kernel_rfl) (by simp only [hw3, hw4])) ?_
  refine N_then ?_
  refine G_seq ?_
  refine G_region ?_
  refine GL_pure (E' := [⟨13, [], .pointer (some ⟨b, 0, none⟩)⟩, ⟨0, [], .pointer (some ⟨b, 0, none⟩)⟩, ⟨1, [], .string colon⟩, ⟨5, [], .int .i64 (1 - (2 * p2.1))⟩]) [0] (by kernel_rfl) (j := 1) rfl ?_
  refine GL_call (i := 1) (ch := []) (f := 19) (fst := #[]) (caps := #[]) (vs := [.pointer (some ⟨b, 0, none⟩), .int .i64 2]) rfl rfl rfl (by kernel_rfl) (by kernel_rfl) Tryz.func19 rfl rfl (by kernel_rfl) (by kernel_rfl) (chSure_of (by kernel_rfl)) (number_ b p2.2 2 (by omega) (by omega) _ _) ?_
  rintro _ _ ⟨p5, hp5, hp5a, hp5b, hp5c, rfl, rfl⟩
  refine GL_fin (E' := [⟨0, [], .pointer (some ⟨b, 0, none⟩)⟩, ⟨1, [], .string colon⟩, ⟨5, [], .int .i64 (1 - (2 * p2.1))⟩, ⟨6, [], .int .i64 p5.1⟩]) [0] [0, 1, 5, 6] rfl (by kernel_rfl) ?_
  refine N_then ?_
  refine G_seq ?_
  refine G_seq ?_
  refine G_pure (E' := [⟨0, [], .pointer (some ⟨b, 0, none⟩)⟩, ⟨1, [], .string colon⟩, ⟨5, [], .int .i64 (1 - (2 * p2.1))⟩, ⟨6, [], .int .i64 p5.1⟩, ⟨16, [], .bool (!(colon.toList == (ByteArray.mk #[]).toList))⟩]) [0, 0] [0, 1, 5, 6, 16] rfl (by kernel_rfl) ?_
  refine N_then ?_
  refine G_cond (b := !(colon.toList == (ByteArray.mk #[]).toList)) (by kernel_rfl) (fun hc6 => ?_) (fun hc6 => ?_)
  ·
    simp only [Bool.not_eq_true'] at hc6
    refine G_region ?_
    refine GL_pure (E' := [⟨18, [], .string colon⟩, ⟨17, [], .pointer (some ⟨b, 0, none⟩)⟩, ⟨0, [], .pointer (some ⟨b, 0, none⟩)⟩, ⟨1, [], .string colon⟩, ⟨5, [], .int .i64 (1 - (2 * p2.1))⟩, ⟨6, [], .int .i64 p5.1⟩, ⟨16, [], .bool (!(colon.toList == (ByteArray.mk #[]).toList))⟩]) [0, 0] (by kernel_rfl) (j := 2) rfl ?_
    refine GL_buildSlice (i := 2) (ch := []) (e := 9) (l := [(0, .string colon)]) (c := [.string colon]) rfl rfl (by kernel_rfl) (by kernel_rfl) (by kernel_rfl) (by kernel_rfl) (by kernel_rfl) (fun b7 => ?_)
    refine GL_heap rfl (H' := ([(b, .cells #[.string p5.2.s, .bool p5.2.bad] 40 (0, 0))] :: [(b7, .cells #[.string colon] 9 (0, 0))] :: [(b1, .cells #[.string (ByteArray.mk #[43]), .string (ByteArray.mk #[45])] 9 (0, 0))] :: H)) (fun w h => (h.front (j := 1) rfl)) ?_
    refine GL_call (i := 3) (ch := []) (f := 17) (fst := #[]) (caps := #[]) (vs := [.pointer (some ⟨b, 0, none⟩), .slice (some ⟨b7, 0, none⟩) 1 1]) rfl rfl rfl (by kernel_rfl) (by kernel_rfl) Tryz.func17 rfl rfl (by kernel_rfl) (by kernel_rfl) (chSure_of (by kernel_rfl)) (one_ b p5.2 (some ⟨b7, 0, none⟩) 1 (inG [(b7, .cells #[.string colon] 9 (0, 0))]) ([colon]) (Rd.lit (c := [.string colon])) (Nat.le_of_ble_eq_true rfl) _ _ (at_inG 1 rfl)) ?_
    rintro _ _ ⟨p8, hp8, hp8a, hp8b, hp8c, rfl, rfl⟩
    simp at hp8b
    refine GL_fin (E' := [⟨0, [], .pointer (some ⟨b, 0, none⟩)⟩, ⟨5, [], .int .i64 (1 - (2 * p2.1))⟩, ⟨6, [], .int .i64 p5.1⟩]) [] [0, 5, 6] rfl (by kernel_rfl) ?_
    refine N_then ?_
    refine G_seq ?_
    refine G_region ?_
    refine GL_pure (E' := [⟨21, [], .pointer (some ⟨b, 0, none⟩)⟩, ⟨0, [], .pointer (some ⟨b, 0, none⟩)⟩, ⟨5, [], .int .i64 (1 - (2 * p2.1))⟩, ⟨6, [], .int .i64 p5.1⟩]) [0] (by kernel_rfl) (j := 1) rfl ?_
    refine GL_call (i := 1) (ch := []) (f := 19) (fst := #[]) (caps := #[]) (vs := [.pointer (some ⟨b, 0, none⟩), .int .i64 2]) rfl rfl rfl (by kernel_rfl) (by kernel_rfl) Tryz.func19 rfl rfl (by kernel_rfl) (by kernel_rfl) (chSure_of (by kernel_rfl)) (number_ b p8.2 2 (by omega) (by omega) _ _) ?_
    rintro _ _ ⟨p9, hp9, hp9a, hp9b, hp9c, rfl, rfl⟩
    refine GL_fin (E' := [⟨0, [], .pointer (some ⟨b, 0, none⟩)⟩, ⟨5, [], .int .i64 (1 - (2 * p2.1))⟩, ⟨6, [], .int .i64 p5.1⟩, ⟨7, [], .int .i64 p9.1⟩]) [0] [0, 5, 6, 7] rfl (by kernel_rfl) ?_
    refine N_then ?_
    refine G_seq ?_
    refine G_region ?_
    refine GL_pure (E' := [⟨26, [], .pointer (some ⟨b, 1, none⟩)⟩, ⟨25, [], .pointer (some ⟨b, 0, none⟩)⟩, ⟨24, [], .pointer (some ⟨b, 0, none⟩)⟩, ⟨23, [], .pointer (some ⟨b, 0, none⟩)⟩, ⟨0, [], .pointer (some ⟨b, 0, none⟩)⟩, ⟨5, [], .int .i64 (1 - (2 * p2.1))⟩, ⟨6, [], .int .i64 p5.1⟩, ⟨7, [], .int .i64 p9.1⟩]) [0, 0, 0, 0] (by kernel_rfl) (j := 4) rfl ?_
    refine GL_load (i := 4) (ch := []) (b := b) (off := 1) (v := .bool p9.2.bad) rfl rfl (by kernel_rfl) (by kernel_rfl) (by kernel_rfl) (by kernel_rfl) (by kernel_rfl) (At.grp 0 0 rfl rfl) rfl ?_
    refine GL_pure (E' := [⟨37, [], .pointer (some ⟨b, 1, none⟩)⟩, ⟨36, [], .pointer (some ⟨b, 0, none⟩)⟩, ⟨35, [], .bool ((p9.2.bad || (decide (p5.1 > 23))) || (decide (p9.1 > 59)))⟩, ⟨34, [(32, false)], .bool (decide (p9.1 > 59))⟩, ⟨33, [(32, false)], .int .i64 p9.1⟩, ⟨32, [], .bool (p9.2.bad || (decide (p5.1 > 23)))⟩, ⟨31, [], .bool (p9.2.bad || (decide (p5.1 > 23)))⟩, ⟨30, [(28, false)], .bool (decide (p5.1 > 23))⟩, ⟨29, [(28, false)], .int .i64 p5.1⟩, ⟨28, [], .bool p9.2.bad⟩, ⟨27, [], .bool p9.2.bad⟩, ⟨26, [], .pointer (some ⟨b, 1, none⟩)⟩, ⟨25, [], .pointer (some ⟨b, 0, none⟩)⟩, ⟨24, [], .pointer (some ⟨b, 0, none⟩)⟩, ⟨23, [], .pointer (some ⟨b, 0, none⟩)⟩, ⟨0, [], .pointer (some ⟨b, 0, none⟩)⟩, ⟨5, [], .int .i64 (1 - (2 * p2.1))⟩, ⟨6, [], .int .i64 p5.1⟩, ⟨7, [], .int .i64 p9.1⟩]) [0, 0, 0, 5, 0, 0, 0, 5, 0, 0] (by kernel_rfl) (j := 15) rfl ?_
    refine GL_store (i := 15) (ch := []) (b := b) (off := 1) (v := .bool ((p9.2.bad || (decide (p5.1 > 23))) || (decide (p9.1 > 59)))) (c := #[.string p9.2.s, .bool p9.2.bad]) (c' := #[.string p9.2.s, .bool ((p9.2.bad || (decide (p5.1 > 23))) || (decide (p9.1 > 59)))]) (j := 0) (m := 0) (H' := ([(b, .cells #[.string p9.2.s, .bool ((p9.2.bad || (decide (p5.1 > 23))) || (decide (p9.1 > 59)))] 40 (0, 0))] :: [(b7, .cells #[.string colon] 9 (0, 0))] :: [(b1, .cells #[.string (ByteArray.mk #[43]), .string (ByteArray.mk #[45])] 9 (0, 0))] :: H)) rfl rfl (by kernel_rfl) (by kernel_rfl) (by kernel_rfl) (by kernel_rfl) (by kernel_rfl) (by kernel_rfl) (by kernel_rfl) rfl rfl (Nat.le_of_ble_eq_true rfl) (fun _ _ => thaw0) (by kernel_rfl) (by kernel_rfl) ?_
    refine GL_fin (E' := [⟨5, [], .int .i64 (1 - (2 * p2.1))⟩, ⟨6, [], .int .i64 p5.1⟩, ⟨7, [], .int .i64 p9.1⟩]) [] [5, 6, 7] rfl (by kernel_rfl) ?_
    refine N_then ?_
    refine G_seq ?_
    have hw10 : IntKind.wrap .i64 (p5.1 * 3600) = p5.1 * 3600 := w64 (by first | omega | exact Int.le_trans (by decide) (off_mul (by omega) (by omega) (by omega) (by omega)).1 | exact Int.le_trans (off_mul (by omega) (by omega) (by omega) (by omega)).2 (by decide)) (by first | omega | exact Int.le_trans (by decide) (off_mul (by omega) (by omega) (by omega) (by omega)).1 | exact Int.le_trans (off_mul (by omega) (by omega) (by omega) (by omega)).2 (by decide))
    have hw11 : IntKind.wrap .i64 (p9.1 * 60) = p9.1 * 60 := w64 (by first | omega | exact Int.le_trans (by decide) (off_mul (by omega) (by omega) (by omega) (by omega)).1 | exact Int.le_trans (off_mul (by omega) (by omega) (by omega) (by omega)).2 (by decide)) (by first | omega | exact Int.le_trans (by decide) (off_mul (by omega) (by omega) (by omega) (by omega)).1 | exact Int.le_trans (off_mul (by omega) (by omega) (by omega) (by omega)).2 (by decide))
    have hw12 : IntKind.wrap .i64 ((p5.1 * 3600) + (p9.1 * 60)) = (p5.1 * 3600) + (p9.1 * 60) := w64 (by first | omega | exact Int.le_trans (by decide) (off_mul (by omega) (by omega) (by omega) (by omega)).1 | exact Int.le_trans (off_mul (by omega) (by omega) (by omega) (by omega)).2 (by decide)) (by first | omega | exact Int.le_trans (by decide) (off_mul (by omega) (by omega) (by omega) (by omega)).1 | exact Int.le_trans (off_mul (by omega) (by omega) (by omega) (by omega)).2 (by decide))
    have hw13 : IntKind.wrap .i64 ((1 - (2 * p2.1)) * ((p5.1 * 3600) + (p9.1 * 60))) = (1 - (2 * p2.1)) * ((p5.1 * 3600) + (p9.1 * 60)) := w64 (by first | omega | exact Int.le_trans (by decide) (off_mul (by omega) (by omega) (by omega) (by omega)).1 | exact Int.le_trans (off_mul (by omega) (by omega) (by omega) (by omega)).2 (by decide)) (by first | omega | exact Int.le_trans (by decide) (off_mul (by omega) (by omega) (by omega) (by omega)).1 | exact Int.le_trans (off_mul (by omega) (by omega) (by omega) (by omega)).2 (by decide))
    refine G_pure (E' := [⟨4, [], .int .i64 ((1 - (2 * p2.1)) * ((p5.1 * 3600) + (p9.1 * 60)))⟩]) [0, 0, 0, 0, 0, 0, 0, 0] [4] rfl (Eq.trans (b := some [⟨4, [], .int .i64 (IntKind.wrap .i64 ((1 - (2 * p2.1)) * (IntKind.wrap .i64 ((IntKind.wrap .i64 (p5.1 * 3600)) + (IntKind.wrap .i64 (p9.1 * 60))))))⟩]) (by kernel_rfl) (by simp only [hw10, hw11, hw12, hw13])) ?_
    refine N_then ?_
    refine G_ret ?_
    refine N_heap (H' := ([(b, .cells #[.string p9.2.s, .bool ((p9.2.bad || (decide (p5.1 > 23))) || (decide (p9.1 > 59)))] 40 (0, 0))] :: [(b7, .cells #[.string colon] 9 (0, 0))] :: H)) (fun w h => h.erase 2) ?_
    refine N_heap (H' := ([(b, .cells #[.string p9.2.s, .bool ((p9.2.bad || (decide (p5.1 > 23))) || (decide (p9.1 > 59)))] 40 (0, 0))] :: H)) (fun w h => h.erase 1) ?_
    refine N_ret [.tmp 4] [.int .i64 ((1 - (2 * p2.1)) * ((p5.1 * 3600) + (p9.1 * 60)))] rfl (by kernel_rfl) rfl ?_
    exact offR hp2 hp5 (r := p8.2) (by rw [hc6]; simp [hp8]) hp9 (by omega) (by omega) (by omega) (by omega) (by omega) (by omega) (by omega) rfl
  ·
    simp only [Bool.not_eq_false'] at hc6
    refine G_skip ?_
    refine N_then ?_
    refine G_seq ?_
    refine G_region ?_
    refine GL_pure (E' := [⟨21, [], .pointer (some ⟨b, 0, none⟩)⟩, ⟨0, [], .pointer (some ⟨b, 0, none⟩)⟩, ⟨1, [], .string colon⟩, ⟨5, [], .int .i64 (1 - (2 * p2.1))⟩, ⟨6, [], .int .i64 p5.1⟩, ⟨16, [], .bool (!(colon.toList == (ByteArray.mk #[]).toList))⟩]) [0] (by kernel_rfl) (j := 1) rfl ?_
    refine GL_call (i := 1) (ch := []) (f := 19) (fst := #[]) (caps := #[]) (vs := [.pointer (some ⟨b, 0, none⟩), .int .i64 2]) rfl rfl rfl (by kernel_rfl) (by kernel_rfl) Tryz.func19 rfl rfl (by kernel_rfl) (by kernel_rfl) (chSure_of (by kernel_rfl)) (number_ b p5.2 2 (by omega) (by omega) _ _) ?_
    rintro _ _ ⟨p14, hp14, hp14a, hp14b, hp14c, rfl, rfl⟩
    refine GL_fin (E' := [⟨0, [], .pointer (some ⟨b, 0, none⟩)⟩, ⟨5, [], .int .i64 (1 - (2 * p2.1))⟩, ⟨6, [], .int .i64 p5.1⟩, ⟨7, [], .int .i64 p14.1⟩]) [0] [0, 5, 6, 7] rfl (by kernel_rfl) ?_
    refine N_then ?_
    refine G_seq ?_
    refine G_region ?_
    refine GL_pure (E' := [⟨26, [], .pointer (some ⟨b, 1, none⟩)⟩, ⟨25, [], .pointer (some ⟨b, 0, none⟩)⟩, ⟨24, [], .pointer (some ⟨b, 0, none⟩)⟩, ⟨23, [], .pointer (some ⟨b, 0, none⟩)⟩, ⟨0, [], .pointer (some ⟨b, 0, none⟩)⟩, ⟨5, [], .int .i64 (1 - (2 * p2.1))⟩, ⟨6, [], .int .i64 p5.1⟩, ⟨7, [], .int .i64 p14.1⟩]) [0, 0, 0, 0] (by kernel_rfl) (j := 4) rfl ?_
    refine GL_load (i := 4) (ch := []) (b := b) (off := 1) (v := .bool p14.2.bad) rfl rfl (by kernel_rfl) (by kernel_rfl) (by kernel_rfl) (by kernel_rfl) (by kernel_rfl) (At.grp 0 0 rfl rfl) rfl ?_
    refine GL_pure (E' := [⟨37, [], .pointer (some ⟨b, 1, none⟩)⟩, ⟨36, [], .pointer (some ⟨b, 0, none⟩)⟩, ⟨35, [], .bool ((p14.2.bad || (decide (p5.1 > 23))) || (decide (p14.1 > 59)))⟩, ⟨34, [(32, false)], .bool (decide (p14.1 > 59))⟩, ⟨33, [(32, false)], .int .i64 p14.1⟩, ⟨32, [], .bool (p14.2.bad || (decide (p5.1 > 23)))⟩, ⟨31, [], .bool (p14.2.bad || (decide (p5.1 > 23)))⟩, ⟨30, [(28, false)], .bool (decide (p5.1 > 23))⟩, ⟨29, [(28, false)], .int .i64 p5.1⟩, ⟨28, [], .bool p14.2.bad⟩, ⟨27, [], .bool p14.2.bad⟩, ⟨26, [], .pointer (some ⟨b, 1, none⟩)⟩, ⟨25, [], .pointer (some ⟨b, 0, none⟩)⟩, ⟨24, [], .pointer (some ⟨b, 0, none⟩)⟩, ⟨23, [], .pointer (some ⟨b, 0, none⟩)⟩, ⟨0, [], .pointer (some ⟨b, 0, none⟩)⟩, ⟨5, [], .int .i64 (1 - (2 * p2.1))⟩, ⟨6, [], .int .i64 p5.1⟩, ⟨7, [], .int .i64 p14.1⟩]) [0, 0, 0, 5, 0, 0, 0, 5, 0, 0] (by kernel_rfl) (j := 15) rfl ?_
    refine GL_store (i := 15) (ch := []) (b := b) (off := 1) (v := .bool ((p14.2.bad || (decide (p5.1 > 23))) || (decide (p14.1 > 59)))) (c := #[.string p14.2.s, .bool p14.2.bad]) (c' := #[.string p14.2.s, .bool ((p14.2.bad || (decide (p5.1 > 23))) || (decide (p14.1 > 59)))]) (j := 0) (m := 0) (H' := ([(b, .cells #[.string p14.2.s, .bool ((p14.2.bad || (decide (p5.1 > 23))) || (decide (p14.1 > 59)))] 40 (0, 0))] :: [(b1, .cells #[.string (ByteArray.mk #[43]), .string (ByteArray.mk #[45])] 9 (0, 0))] :: H)) rfl rfl (by kernel_rfl) (by kernel_rfl) (by kernel_rfl) (by kernel_rfl) (by kernel_rfl) (by kernel_rfl) (by kernel_rfl) rfl rfl (Nat.le_of_ble_eq_true rfl) (fun _ _ => thaw0) (by kernel_rfl) (by kernel_rfl) ?_
    refine GL_fin (E' := [⟨5, [], .int .i64 (1 - (2 * p2.1))⟩, ⟨6, [], .int .i64 p5.1⟩, ⟨7, [], .int .i64 p14.1⟩]) [] [5, 6, 7] rfl (by kernel_rfl) ?_
    refine N_then ?_
    refine G_seq ?_
    have hw15 : IntKind.wrap .i64 (p5.1 * 3600) = p5.1 * 3600 := w64 (by first | omega | exact Int.le_trans (by decide) (off_mul (by omega) (by omega) (by omega) (by omega)).1 | exact Int.le_trans (off_mul (by omega) (by omega) (by omega) (by omega)).2 (by decide)) (by first | omega | exact Int.le_trans (by decide) (off_mul (by omega) (by omega) (by omega) (by omega)).1 | exact Int.le_trans (off_mul (by omega) (by omega) (by omega) (by omega)).2 (by decide))
    have hw16 : IntKind.wrap .i64 (p14.1 * 60) = p14.1 * 60 := w64 (by first | omega | exact Int.le_trans (by decide) (off_mul (by omega) (by omega) (by omega) (by omega)).1 | exact Int.le_trans (off_mul (by omega) (by omega) (by omega) (by omega)).2 (by decide)) (by first | omega | exact Int.le_trans (by decide) (off_mul (by omega) (by omega) (by omega) (by omega)).1 | exact Int.le_trans (off_mul (by omega) (by omega) (by omega) (by omega)).2 (by decide))
    have hw17 : IntKind.wrap .i64 ((p5.1 * 3600) + (p14.1 * 60)) = (p5.1 * 3600) + (p14.1 * 60) := w64 (by first | omega | exact Int.le_trans (by decide) (off_mul (by omega) (by omega) (by omega) (by omega)).1 | exact Int.le_trans (off_mul (by omega) (by omega) (by omega) (by omega)).2 (by decide)) (by first | omega | exact Int.le_trans (by decide) (off_mul (by omega) (by omega) (by omega) (by omega)).1 | exact Int.le_trans (off_mul (by omega) (by omega) (by omega) (by omega)).2 (by decide))
    have hw18 : IntKind.wrap .i64 ((1 - (2 * p2.1)) * ((p5.1 * 3600) + (p14.1 * 60))) = (1 - (2 * p2.1)) * ((p5.1 * 3600) + (p14.1 * 60)) := w64 (by first | omega | exact Int.le_trans (by decide) (off_mul (by omega) (by omega) (by omega) (by omega)).1 | exact Int.le_trans (off_mul (by omega) (by omega) (by omega) (by omega)).2 (by decide)) (by first | omega | exact Int.le_trans (by decide) (off_mul (by omega) (by omega) (by omega) (by omega)).1 | exact Int.le_trans (off_mul (by omega) (by omega) (by omega) (by omega)).2 (by decide))
    refine G_pure (E' := [⟨4, [], .int .i64 ((1 - (2 * p2.1)) * ((p5.1 * 3600) + (p14.1 * 60)))⟩]) [0, 0, 0, 0, 0, 0, 0, 0] [4] rfl (Eq.trans (b := some [⟨4, [], .int .i64 (IntKind.wrap .i64 ((1 - (2 * p2.1)) * (IntKind.wrap .i64 ((IntKind.wrap .i64 (p5.1 * 3600)) + (IntKind.wrap .i64 (p14.1 * 60))))))⟩]) (by kernel_rfl) (by simp only [hw15, hw16, hw17, hw18])) ?_
    refine N_then ?_
    refine G_ret ?_
    refine N_heap (H' := ([(b, .cells #[.string p14.2.s, .bool ((p14.2.bad || (decide (p5.1 > 23))) || (decide (p14.1 > 59)))] 40 (0, 0))] :: H)) (fun w h => h.erase 1) ?_
    refine N_ret [.tmp 4] [.int .i64 ((1 - (2 * p2.1)) * ((p5.1 * 3600) + (p14.1 * 60)))] rfl (by kernel_rfl) rfl ?_
    exact offR hp2 hp5 (r := p5.2) (by rw [hc6]; simp) hp14 (by omega) (by omega) (by omega) (by omega) (by omega) (by omega) (by omega) rfl

theorem end_ (b : Nat) (σ : Sc) (y mo d h mi s off : Int) (hy : -20000 ≤ y ∧ y ≤ 20000) (hmo : -20000 ≤ mo ∧ mo ≤ 20000) (hd : -20000 ≤ d ∧ d ≤ 20000) (hh : -20000 ≤ h ∧ h ≤ 20000) (hmi : -20000 ≤ mi ∧ mi ≤ 20000) (hs : -20000 ≤ s ∧ s ≤ 20000) (ho : -1000000000 ≤ off ∧ off ≤ 1000000000) (W0 : World) (H : List Grp) : Tri Tryz.prog 21 #[.pointer (some ⟨b, 0, none⟩), .agg #[.int .i64 y, .int .i64 mo, .int .i64 d, .int .i64 h, .int .i64 mi, .int .i64 s], .int .i64 off] W0 ([(b, .cells #[.string σ.s, .bool σ.bad] 40 (0, 0))] :: H) (fun v H' => v = tErr (endM σ (timeM y mo d h mi s off)) ∧ H' = ([(b, .cells #[.string σ.s, .bool σ.bad] 40 (0, 0))] :: H)) := by
  refine Tri_of (args := [.pointer (some ⟨b, 0, none⟩), .agg #[.int .i64 y, .int .i64 mo, .int .i64 d, .int .i64 h, .int .i64 mi, .int .i64 s], .int .i64 off]) (n := 33) Tryz.func21 rfl rfl (Nat.le_of_ble_eq_true rfl) ?_
  refine G_seq ?_
  refine G_region ?_
  refine GL_box (i := 0) (ch := []) (v := .agg #[.int .i64 y, .int .i64 mo, .int .i64 d, .int .i64 h, .int .i64 mi, .int .i64 s]) rfl rfl (by kernel_rfl) (by kernel_rfl) (by kernel_rfl) (by kernel_rfl) (fun b1 => ?_)
  refine GL_fin (E' := [⟨0, [], .pointer (some ⟨b, 0, none⟩)⟩, ⟨2, [], .int .i64 off⟩, ⟨4, [], .pointer (some ⟨b1, 0, none⟩)⟩]) [0, 0] [0, 2, 4] rfl (by kernel_rfl) ?_
  refine N_then ?_
  refine G_seq ?_
  refine G_region ?_
  refine GL_loadA (i := 0) (ch := []) (b := b1) (off := 0) (l := [.int .i64 y, .int .i64 mo, .int .i64 d, .int .i64 h, .int .i64 mi, .int .i64 s]) rfl rfl (by kernel_rfl) (by kernel_rfl) (by kernel_rfl) (by kernel_rfl) (by kernel_rfl) (by kernel_rfl) (At.grp 0 0 rfl rfl) (by kernel_rfl) ?_
  refine GL_pure (E' := [⟨12, [], .int .i64 off⟩, ⟨11, [], .agg #[.int .i64 y, .int .i64 mo, .int .i64 d, .int .i64 h, .int .i64 mi, .int .i64 s]⟩, ⟨0, [], .pointer (some ⟨b, 0, none⟩)⟩, ⟨2, [], .int .i64 off⟩, ⟨4, [], .pointer (some ⟨b1, 0, none⟩)⟩]) [0] (by kernel_rfl) (j := 2) rfl ?_
  refine GL_call (i := 2) (ch := []) (f := 40) (fst := #[]) (caps := #[]) (vs := [.agg #[.int .i64 y, .int .i64 mo, .int .i64 d, .int .i64 h, .int .i64 mi, .int .i64 s], .int .i64 off]) rfl rfl rfl (by kernel_rfl) (by kernel_rfl) Tryz.func40 rfl rfl (by kernel_rfl) (by kernel_rfl) (chSure_of (by kernel_rfl)) (time_ y mo d h mi s off (by omega) (by omega) (by omega) (by omega) (by omega) (by omega) (by omega) _ _) ?_
  rintro v H' ⟨rfl, rfl⟩
  rcases ht2 : timeM y mo d h mi s off with _ | t3
  ·
    refine GL_fin (E' := [⟨0, [], .pointer (some ⟨b, 0, none⟩)⟩, ⟨8, [], .int .i64 0⟩, ⟨9, [], .int .i64 30⟩]) [0, 0, 0, 0, 0] [0, 8, 9] rfl (by kernel_rfl) ?_
    refine N_then ?_
    refine G_seq ?_
    refine G_seq ?_
    refine G_region ?_
    refine GL_pure (E' := [⟨18, [], .pointer (some ⟨b, 1, none⟩)⟩, ⟨17, [], .pointer (some ⟨b, 0, none⟩)⟩, ⟨16, [], .pointer (some ⟨b, 0, none⟩)⟩, ⟨0, [], .pointer (some ⟨b, 0, none⟩)⟩, ⟨8, [], .int .i64 0⟩, ⟨9, [], .int .i64 30⟩]) [0, 0, 0] (by kernel_rfl) (j := 3) rfl ?_
    refine GL_load (i := 3) (ch := []) (b := b) (off := 1) (v := .bool σ.bad) rfl rfl (by kernel_rfl) (by kernel_rfl) (by kernel_rfl) (by kernel_rfl) (by kernel_rfl) (At.grp 1 0 rfl rfl) rfl ?_
    refine GL_pure (E' := [⟨23, [(20, false)], .pointer (some ⟨b, 0, none⟩)⟩, ⟨22, [(20, false)], .pointer (some ⟨b, 0, none⟩)⟩, ⟨21, [(20, false)], .pointer (some ⟨b, 0, none⟩)⟩, ⟨20, [], .bool σ.bad⟩, ⟨19, [], .bool σ.bad⟩, ⟨18, [], .pointer (some ⟨b, 1, none⟩)⟩, ⟨17, [], .pointer (some ⟨b, 0, none⟩)⟩, ⟨16, [], .pointer (some ⟨b, 0, none⟩)⟩, ⟨0, [], .pointer (some ⟨b, 0, none⟩)⟩, ⟨8, [], .int .i64 0⟩, ⟨9, [], .int .i64 30⟩]) [0, 0, 0, 0] (by kernel_rfl) (j := 8) rfl ?_
    refine GL_load (i := 8) (ch := [(20, false)]) (b := b) (off := 0) (v := .string σ.s) rfl rfl (by kernel_rfl) (by kernel_rfl) (by kernel_rfl) (by kernel_rfl) (by kernel_rfl) (At.grp 1 0 rfl rfl) rfl ?_
    refine GL_fin (E' := [⟨8, [], .int .i64 0⟩, ⟨31, [], .bool ((σ.bad || (decide ((σ.s.size : Int) > 0))) || true)⟩]) [0, 0, 5, 0, 0, 0, 5] [8, 31] rfl (by kernel_rfl) ?_
    refine N_then ?_
    refine G_cond (b := (σ.bad || (decide ((σ.s.size : Int) > 0))) || true) (by kernel_rfl) (fun hc4 => ?_) (fun hc4 => ?_)
    ·
      skip
      refine G_seq ?_
      refine G_pure (E' := [⟨6, [], .int .i64 0⟩, ⟨7, [], .int .i64 30⟩]) [0, 0] [6, 7] rfl (by kernel_rfl) ?_
      refine N_then ?_
      refine G_ret ?_
      refine N_then_ret ?_
      refine N_heap (H' := ([(b, .cells #[.string σ.s, .bool σ.bad] 40 (0, 0))] :: H)) (fun w h => h.erase 0) ?_
      refine N_ret [.tmp 6, .tmp 7] [.int .i64 0, .int .i64 30] rfl (by kernel_rfl) rfl ?_
      exact ⟨by first | (simp_all; done) | simp_all [endM, tErr, packV], rfl⟩
    ·
      skip
      refine G_skip ?_
      refine N_then ?_
      refine G_seq ?_
      refine G_pure (E' := [⟨6, [], .int .i64 0⟩, ⟨7, [], .int .i64 0⟩]) [0, 0, 0] [6, 7] rfl (by kernel_rfl) ?_
      refine N_then ?_
      refine G_ret ?_
      refine N_heap (H' := ([(b, .cells #[.string σ.s, .bool σ.bad] 40 (0, 0))] :: H)) (fun w h => h.erase 0) ?_
      refine N_ret [.tmp 6, .tmp 7] [.int .i64 0, .int .i64 0] rfl (by kernel_rfl) rfl ?_
      exact ⟨by first | (simp_all; done) | simp_all [endM, tErr, packV], rfl⟩
  ·
    refine GL_fin (E' := [⟨0, [], .pointer (some ⟨b, 0, none⟩)⟩, ⟨8, [], .int .i64 t3⟩, ⟨9, [], .int .i64 0⟩]) [0, 0, 0, 0, 0] [0, 8, 9] rfl (by kernel_rfl) ?_
    refine N_then ?_
    refine G_seq ?_
    refine G_seq ?_
    refine G_region ?_
    refine GL_pure (E' := [⟨18, [], .pointer (some ⟨b, 1, none⟩)⟩, ⟨17, [], .pointer (some ⟨b, 0, none⟩)⟩, ⟨16, [], .pointer (some ⟨b, 0, none⟩)⟩, ⟨0, [], .pointer (some ⟨b, 0, none⟩)⟩, ⟨8, [], .int .i64 t3⟩, ⟨9, [], .int .i64 0⟩]) [0, 0, 0] (by kernel_rfl) (j := 3) rfl ?_
    refine GL_load (i := 3) (ch := []) (b := b) (off := 1) (v := .bool σ.bad) rfl rfl (by kernel_rfl) (by kernel_rfl) (by kernel_rfl) (by kernel_rfl) (by kernel_rfl) (At.grp 1 0 rfl rfl) rfl ?_
    refine GL_pure (E' := [⟨23, [(20, false)], .pointer (some ⟨b, 0, none⟩)⟩, ⟨22, [(20, false)], .pointer (some ⟨b, 0, none⟩)⟩, ⟨21, [(20, false)], .pointer (some ⟨b, 0, none⟩)⟩, ⟨20, [], .bool σ.bad⟩, ⟨19, [], .bool σ.bad⟩, ⟨18, [], .pointer (some ⟨b, 1, none⟩)⟩, ⟨17, [], .pointer (some ⟨b, 0, none⟩)⟩, ⟨16, [], .pointer (some ⟨b, 0, none⟩)⟩, ⟨0, [], .pointer (some ⟨b, 0, none⟩)⟩, ⟨8, [], .int .i64 t3⟩, ⟨9, [], .int .i64 0⟩]) [0, 0, 0, 0] (by kernel_rfl) (j := 8) rfl ?_
    refine GL_load (i := 8) (ch := [(20, false)]) (b := b) (off := 0) (v := .string σ.s) rfl rfl (by kernel_rfl) (by kernel_rfl) (by kernel_rfl) (by kernel_rfl) (by kernel_rfl) (At.grp 1 0 rfl rfl) rfl ?_
    refine GL_fin (E' := [⟨8, [], .int .i64 t3⟩, ⟨31, [], .bool ((σ.bad || (decide ((σ.s.size : Int) > 0))) || false)⟩]) [0, 0, 5, 0, 0, 0, 5] [8, 31] rfl (by kernel_rfl) ?_
    refine N_then ?_
    refine G_cond (b := (σ.bad || (decide ((σ.s.size : Int) > 0))) || false) (by kernel_rfl) (fun hc5 => ?_) (fun hc5 => ?_)
    ·
      skip
      refine G_seq ?_
      refine G_pure (E' := [⟨6, [], .int .i64 0⟩, ⟨7, [], .int .i64 30⟩]) [0, 0] [6, 7] rfl (by kernel_rfl) ?_
      refine N_then ?_
      refine G_ret ?_
      refine N_then_ret ?_
      refine N_heap (H' := ([(b, .cells #[.string σ.s, .bool σ.bad] 40 (0, 0))] :: H)) (fun w h => h.erase 0) ?_
      refine N_ret [.tmp 6, .tmp 7] [.int .i64 0, .int .i64 30] rfl (by kernel_rfl) rfl ?_
      exact ⟨by first | (simp_all; done) | simp_all [endM, tErr, packV], rfl⟩
    ·
      skip
      refine G_skip ?_
      refine N_then ?_
      refine G_seq ?_
      refine G_pure (E' := [⟨6, [], .int .i64 t3⟩, ⟨7, [], .int .i64 0⟩]) [0, 0, 0] [6, 7] rfl (by kernel_rfl) ?_
      refine N_then ?_
      refine G_ret ?_
      refine N_heap (H' := ([(b, .cells #[.string σ.s, .bool σ.bad] 40 (0, 0))] :: H)) (fun w h => h.erase 0) ?_
      refine N_ret [.tmp 6, .tmp 7] [.int .i64 t3, .int .i64 0] rfl (by kernel_rfl) rfl ?_
      exact ⟨by first | (simp_all; done) | simp_all [endM, tErr, packV], rfl⟩

end Go.Proofs.YtlglmomimhbeaaaGreatDoor
