/- The walk of Atom: a text's time, in words. -/
import Derived.Test.YtlglmomimhbeaaaGreatDoorDb
namespace Go.Proofs.YtlglmomimhbeaaaGreatDoor
open Go.Sw Go.Lib Go.Cal Go.Scn

def headM (s : ByteArray) : (Int × Int × Int × Int × Int × Int) × Sc :=
  let a := num 4 ⟨s, false⟩
  let b := num 2 (one [ByteArray.mk #[45]] a.2).2
  let c := num 2 (one [ByteArray.mk #[45]] b.2).2
  let d := num 2 (one [ByteArray.mk #[84], ByteArray.mk #[116], ByteArray.mk #[32]] c.2).2
  let e := num 2 (one [ByteArray.mk #[58]] d.2).2
  let f := num 2 (one [ByteArray.mk #[58]] e.2).2
  ((a.1, b.1, c.1, d.1, e.1, f.1), f.2)
def fracM (σ : Sc) : Sc := let q := may (ByteArray.mk #[46]) σ
  bif q.1 then ⟨trimLD (num 1 q.2).2.s, (num 1 q.2).2.bad⟩ else q.2
def zedM (σ : Sc) : Bool × Sc := let p := may (ByteArray.mk #[90]) σ
  bif p.1 then p else may (ByteArray.mk #[122]) p.2
def atomM (s : ByteArray) : Option Int :=
  let h := headM s
  let z := zedM (fracM h.2)
  bif z.1 then endM z.2 (timeM h.1.1 h.1.2.1 h.1.2.2.1 h.1.2.2.2.1 h.1.2.2.2.2.1 h.1.2.2.2.2.2 0)
  else let o := offM (ByteArray.mk #[58]) z.2
    endM o.2 (timeM h.1.1 h.1.2.1 h.1.2.2.1 h.1.2.2.2.1 h.1.2.2.2.2.1 h.1.2.2.2.2.2 o.1)
theorem errR {t : Option Int} {s : ByteArray} {l : List Value} {H : List Grp} (h : atomM s = t) (hl : packV l = tErr t) : packV l = tErr (atomM s) ∧ H = H := ⟨by rw [h]; exact hl, rfl⟩

theorem atom_ (s : ByteArray) (W0 : World) (H : List Grp) : Tri Tryz.prog 16 #[.string s] W0 H (fun v H' => v = tErr (atomM s) ∧ H' = H) := by
  refine Tri_of (args := [.string s]) (n := 72) Tryz.func16 rfl rfl (Nat.le_of_ble_eq_true rfl) ?_
  refine G_seq ?_
  refine G_pure (E' := [⟨0, [], .string s⟩]) [0, 0] [0] rfl (by kernel_rfl) ?_
  refine N_then ?_
  refine G_seq ?_
  refine G_region ?_
  refine GL_pure (E' := [⟨7, [], .agg #[.string s, .bool false]⟩, ⟨6, [], .string s⟩, ⟨0, [], .string s⟩]) [0, 0] (by kernel_rfl) (j := 2) rfl ?_
  refine GL_box (i := 2) (ch := []) (v := .agg #[.string s, .bool false]) rfl rfl (by kernel_rfl) (by kernel_rfl) (by kernel_rfl) (by kernel_rfl) (fun b1 => ?_)
  refine GL_fin (E' := [⟨4, [], .pointer (some ⟨b1, 0, none⟩)⟩]) [0] [4] rfl (by kernel_rfl) ?_
  refine N_then ?_
  refine G_seq ?_
  refine G_region ?_
  refine GL_pure (E' := [⟨9, [], .pointer (some ⟨b1, 0, none⟩)⟩, ⟨4, [], .pointer (some ⟨b1, 0, none⟩)⟩]) [0] (by kernel_rfl) (j := 1) rfl ?_
  refine GL_call (i := 1) (ch := []) (f := 19) (fst := #[]) (caps := #[]) (vs := [.pointer (some ⟨b1, 0, none⟩), .int .i64 4]) rfl rfl rfl (by kernel_rfl) (by kernel_rfl) Tryz.func19 rfl rfl (by kernel_rfl) (by kernel_rfl) (chSure_of (by kernel_rfl)) (number_ b1 ⟨s, false⟩ 4 (by omega) (by omega) _ _) ?_
  rintro _ _ ⟨p2, hp2, hp2a, hp2b, hp2c, rfl, rfl⟩
  refine GL_pure (E' := [⟨11, [], .agg #[.int .i64 p2.1, .int .i64 0, .int .i64 0, .int .i64 0, .int .i64 0, .int .i64 0]⟩, ⟨10, [], .int .i64 p2.1⟩, ⟨9, [], .pointer (some ⟨b1, 0, none⟩)⟩, ⟨4, [], .pointer (some ⟨b1, 0, none⟩)⟩]) [0] (by kernel_rfl) (j := 3) rfl ?_
  refine GL_alloc (i := 3) (ch := []) (z := .agg #[.int .i64 0, .int .i64 0, .int .i64 0, .int .i64 0, .int .i64 0, .int .i64 0]) rfl rfl (by kernel_rfl) (by kernel_rfl) (by kernel_rfl) (by kernel_rfl) (fun b3 => ?_)
  refine GL_store (i := 4) (ch := []) (b := b3) (off := 0) (v := .agg #[.int .i64 p2.1, .int .i64 0, .int .i64 0, .int .i64 0, .int .i64 0, .int .i64 0]) (c := #[.int .i64 0, .int .i64 0, .int .i64 0, .int .i64 0, .int .i64 0, .int .i64 0]) (c' := #[.int .i64 p2.1, .int .i64 0, .int .i64 0, .int .i64 0, .int .i64 0, .int .i64 0]) (j := 0) (m := 0) (H' := ([(b3, .cells #[.int .i64 p2.1, .int .i64 0, .int .i64 0, .int .i64 0, .int .i64 0, .int .i64 0] 44 (0, 0))] :: [(b1, .cells #[.string p2.2.s, .bool p2.2.bad] 40 (0, 0))] :: H)) rfl rfl (by kernel_rfl) (by kernel_rfl) (by kernel_rfl) (by kernel_rfl) (by kernel_rfl) (by kernel_rfl) (by kernel_rfl) rfl rfl (Nat.le_of_ble_eq_true rfl) (fun _ _ => thaw0) (by kernel_rfl) (by kernel_rfl) ?_
  refine GL_fin (E' := [⟨4, [], .pointer (some ⟨b1, 0, none⟩)⟩, ⟨5, [], .pointer (some ⟨b3, 0, none⟩)⟩]) [] [4, 5] rfl (by kernel_rfl) ?_
  refine N_then ?_
  refine G_seq ?_
  refine G_region ?_
  refine GL_pure (E' := [⟨12, [], .pointer (some ⟨b1, 0, none⟩)⟩, ⟨4, [], .pointer (some ⟨b1, 0, none⟩)⟩, ⟨5, [], .pointer (some ⟨b3, 0, none⟩)⟩]) [0] (by kernel_rfl) (j := 1) rfl ?_
  refine GL_buildSlice (i := 1) (ch := []) (e := 9) (l := [(0, .string (ByteArray.mk #[45]))]) (c := [.string (ByteArray.mk #[45])]) rfl rfl (by kernel_rfl) (by kernel_rfl) (by kernel_rfl) (by kernel_rfl) (by kernel_rfl) (fun b4 => ?_)
  refine GL_heap rfl (H' := ([(b1, .cells #[.string p2.2.s, .bool p2.2.bad] 40 (0, 0))] :: [(b4, .cells #[.string (ByteArray.mk #[45])] 9 (0, 0))] :: [(b3, .cells #[.int .i64 p2.1, .int .i64 0, .int .i64 0, .int .i64 0, .int .i64 0, .int .i64 0] 44 (0, 0))] :: H)) (fun w h => (h.front (j := 2) rfl)) ?_
  refine GL_call (i := 2) (ch := []) (f := 17) (fst := #[]) (caps := #[]) (vs := [.pointer (some ⟨b1, 0, none⟩), .slice (some ⟨b4, 0, none⟩) 1 1]) rfl rfl rfl (by kernel_rfl) (by kernel_rfl) Tryz.func17 rfl rfl (by kernel_rfl) (by kernel_rfl) (chSure_of (by kernel_rfl)) (one_ b1 p2.2 (some ⟨b4, 0, none⟩) 1 (inG [(b4, .cells #[.string (ByteArray.mk #[45])] 9 (0, 0))]) ([(ByteArray.mk #[45])]) (Rd.lit (c := [.string (ByteArray.mk #[45])])) (Nat.le_of_ble_eq_true rfl) _ _ (at_inG 1 rfl)) ?_
  rintro _ _ ⟨p5, hp5, hp5a, hp5b, hp5c, rfl, rfl⟩
  simp at hp5b
  refine GL_fin (E' := [⟨4, [], .pointer (some ⟨b1, 0, none⟩)⟩, ⟨5, [], .pointer (some ⟨b3, 0, none⟩)⟩]) [] [4, 5] rfl (by kernel_rfl) ?_
  refine N_then ?_
  refine G_seq ?_
  refine G_region ?_
  refine GL_pure (E' := [⟨15, [], .pointer (some ⟨b1, 0, none⟩)⟩, ⟨4, [], .pointer (some ⟨b1, 0, none⟩)⟩, ⟨5, [], .pointer (some ⟨b3, 0, none⟩)⟩]) [0] (by kernel_rfl) (j := 1) rfl ?_
  refine GL_call (i := 1) (ch := []) (f := 19) (fst := #[]) (caps := #[]) (vs := [.pointer (some ⟨b1, 0, none⟩), .int .i64 2]) rfl rfl rfl (by kernel_rfl) (by kernel_rfl) Tryz.func19 rfl rfl (by kernel_rfl) (by kernel_rfl) (chSure_of (by kernel_rfl)) (number_ b1 p5.2 2 (by omega) (by omega) _ _) ?_
  rintro _ _ ⟨p6, hp6, hp6a, hp6b, hp6c, rfl, rfl⟩
  refine GL_pure (E' := [⟨17, [], .pointer (some ⟨b3, 1, none⟩)⟩, ⟨16, [], .int .i64 p6.1⟩, ⟨15, [], .pointer (some ⟨b1, 0, none⟩)⟩, ⟨4, [], .pointer (some ⟨b1, 0, none⟩)⟩, ⟨5, [], .pointer (some ⟨b3, 0, none⟩)⟩]) [0] (by kernel_rfl) (j := 3) rfl ?_
  refine GL_store (i := 3) (ch := []) (b := b3) (off := 1) (v := .int .i64 p6.1) (c := #[.int .i64 p2.1, .int .i64 0, .int .i64 0, .int .i64 0, .int .i64 0, .int .i64 0]) (c' := #[.int .i64 p2.1, .int .i64 p6.1, .int .i64 0, .int .i64 0, .int .i64 0, .int .i64 0]) (j := 2) (m := 0) (H' := ([(b1, .cells #[.string p6.2.s, .bool p6.2.bad] 40 (0, 0))] :: [(b4, .cells #[.string (ByteArray.mk #[45])] 9 (0, 0))] :: [(b3, .cells #[.int .i64 p2.1, .int .i64 p6.1, .int .i64 0, .int .i64 0, .int .i64 0, .int .i64 0] 44 (0, 0))] :: H)) rfl rfl (by kernel_rfl) (by kernel_rfl) (by kernel_rfl) (by kernel_rfl) (by kernel_rfl) (by kernel_rfl) (by kernel_rfl) rfl rfl (Nat.le_of_ble_eq_true rfl) (fun _ _ => thaw0) (by kernel_rfl) (by kernel_rfl) ?_
  refine GL_fin (E' := [⟨4, [], .pointer (some ⟨b1, 0, none⟩)⟩, ⟨5, [], .pointer (some ⟨b3, 0, none⟩)⟩]) [] [4, 5] rfl (by kernel_rfl) ?_
  refine N_then ?_
  refine G_seq ?_
  refine G_region ?_
  refine GL_pure (E' := [⟨18, [], .pointer (some ⟨b1, 0, none⟩)⟩, ⟨4, [], .pointer (some ⟨b1, 0, none⟩)⟩, ⟨5, [], .pointer (some ⟨b3, 0, none⟩)⟩]) [0] (by kernel_rfl) (j := 1) rfl ?_
  refine GL_buildSlice (i := 1) (ch := []) (e := 9) (l := [(0, .string (ByteArray.mk #[45]))]) (c := [.string (ByteArray.mk #[45])]) rfl rfl (by kernel_rfl) (by kernel_rfl) (by kernel_rfl) (by kernel_rfl) (by kernel_rfl) (fun b7 => ?_)
  refine GL_heap rfl (H' := ([(b1, .cells #[.string p6.2.s, .bool p6.2.bad] 40 (0, 0))] :: [(b7, .cells #[.string (ByteArray.mk #[45])] 9 (0, 0))] :: [(b4, .cells #[.string (ByteArray.mk #[45])] 9 (0, 0))] :: [(b3, .cells #[.int .i64 p2.1, .int .i64 p6.1, .int .i64 0, .int .i64 0, .int .i64 0, .int .i64 0] 44 (0, 0))] :: H)) (fun w h => (h.front (j := 1) rfl)) ?_
  refine GL_call (i := 2) (ch := []) (f := 17) (fst := #[]) (caps := #[]) (vs := [.pointer (some ⟨b1, 0, none⟩), .slice (some ⟨b7, 0, none⟩) 1 1]) rfl rfl rfl (by kernel_rfl) (by kernel_rfl) Tryz.func17 rfl rfl (by kernel_rfl) (by kernel_rfl) (chSure_of (by kernel_rfl)) (one_ b1 p6.2 (some ⟨b7, 0, none⟩) 1 (inG [(b7, .cells #[.string (ByteArray.mk #[45])] 9 (0, 0))]) ([(ByteArray.mk #[45])]) (Rd.lit (c := [.string (ByteArray.mk #[45])])) (Nat.le_of_ble_eq_true rfl) _ _ (at_inG 1 rfl)) ?_
  rintro _ _ ⟨p8, hp8, hp8a, hp8b, hp8c, rfl, rfl⟩
  simp at hp8b
  refine GL_fin (E' := [⟨4, [], .pointer (some ⟨b1, 0, none⟩)⟩, ⟨5, [], .pointer (some ⟨b3, 0, none⟩)⟩]) [] [4, 5] rfl (by kernel_rfl) ?_
  refine N_then ?_
  refine G_seq ?_
  refine G_region ?_
  refine GL_pure (E' := [⟨21, [], .pointer (some ⟨b1, 0, none⟩)⟩, ⟨4, [], .pointer (some ⟨b1, 0, none⟩)⟩, ⟨5, [], .pointer (some ⟨b3, 0, none⟩)⟩]) [0] (by kernel_rfl) (j := 1) rfl ?_
  refine GL_call (i := 1) (ch := []) (f := 19) (fst := #[]) (caps := #[]) (vs := [.pointer (some ⟨b1, 0, none⟩), .int .i64 2]) rfl rfl rfl (by kernel_rfl) (by kernel_rfl) Tryz.func19 rfl rfl (by kernel_rfl) (by kernel_rfl) (chSure_of (by kernel_rfl)) (number_ b1 p8.2 2 (by omega) (by omega) _ _) ?_
  rintro _ _ ⟨p9, hp9, hp9a, hp9b, hp9c, rfl, rfl⟩
  refine GL_pure (E' := [⟨23, [], .pointer (some ⟨b3, 2, none⟩)⟩, ⟨22, [], .int .i64 p9.1⟩, ⟨21, [], .pointer (some ⟨b1, 0, none⟩)⟩, ⟨4, [], .pointer (some ⟨b1, 0, none⟩)⟩, ⟨5, [], .pointer (some ⟨b3, 0, none⟩)⟩]) [0] (by kernel_rfl) (j := 3) rfl ?_
  refine GL_store (i := 3) (ch := []) (b := b3) (off := 2) (v := .int .i64 p9.1) (c := #[.int .i64 p2.1, .int .i64 p6.1, .int .i64 0, .int .i64 0, .int .i64 0, .int .i64 0]) (c' := #[.int .i64 p2.1, .int .i64 p6.1, .int .i64 p9.1, .int .i64 0, .int .i64 0, .int .i64 0]) (j := 3) (m := 0) (H' := ([(b1, .cells #[.string p9.2.s, .bool p9.2.bad] 40 (0, 0))] :: [(b7, .cells #[.string (ByteArray.mk #[45])] 9 (0, 0))] :: [(b4, .cells #[.string (ByteArray.mk #[45])] 9 (0, 0))] :: [(b3, .cells #[.int .i64 p2.1, .int .i64 p6.1, .int .i64 p9.1, .int .i64 0, .int .i64 0, .int .i64 0] 44 (0, 0))] :: H)) rfl rfl (by kernel_rfl) (by kernel_rfl) (by kernel_rfl) (by kernel_rfl) (by kernel_rfl) (by kernel_rfl) (by kernel_rfl) rfl rfl (Nat.le_of_ble_eq_true rfl) (fun _ _ => thaw0) (by kernel_rfl) (by kernel_rfl) ?_
  refine GL_fin (E' := [⟨4, [], .pointer (some ⟨b1, 0, none⟩)⟩, ⟨5, [], .pointer (some ⟨b3, 0, none⟩)⟩]) [] [4, 5] rfl (by kernel_rfl) ?_
  refine N_then ?_
  refine G_seq ?_
  refine G_region ?_
  refine GL_pure (E' := [⟨24, [], .pointer (some ⟨b1, 0, none⟩)⟩, ⟨4, [], .pointer (some ⟨b1, 0, none⟩)⟩, ⟨5, [], .pointer (some ⟨b3, 0, none⟩)⟩]) [0] (by kernel_rfl) (j := 1) rfl ?_
  refine GL_buildSlice (i := 1) (ch := []) (e := 9) (l := [(0, .string (ByteArray.mk #[84])), (1, .string (ByteArray.mk #[116])), (2, .string (ByteArray.mk #[32]))]) (c := [.string (ByteArray.mk #[84]), .string (ByteArray.mk #[116]), .string (ByteArray.mk #[32])]) rfl rfl (by kernel_rfl) (by kernel_rfl) (by kernel_rfl) (by kernel_rfl) (by kernel_rfl) (fun b10 => ?_)
  refine GL_heap rfl (H' := ([(b1, .cells #[.string p9.2.s, .bool p9.2.bad] 40 (0, 0))] :: [(b10, .cells #[.string (ByteArray.mk #[84]), .string (ByteArray.mk #[116]), .string (ByteArray.mk #[32])] 9 (0, 0))] :: [(b7, .cells #[.string (ByteArray.mk #[45])] 9 (0, 0))] :: [(b4, .cells #[.string (ByteArray.mk #[45])] 9 (0, 0))] :: [(b3, .cells #[.int .i64 p2.1, .int .i64 p6.1, .int .i64 p9.1, .int .i64 0, .int .i64 0, .int .i64 0] 44 (0, 0))] :: H)) (fun w h => (h.front (j := 1) rfl)) ?_
  refine GL_call (i := 2) (ch := []) (f := 17) (fst := #[]) (caps := #[]) (vs := [.pointer (some ⟨b1, 0, none⟩), .slice (some ⟨b10, 0, none⟩) 3 3]) rfl rfl rfl (by kernel_rfl) (by kernel_rfl) Tryz.func17 rfl rfl (by kernel_rfl) (by kernel_rfl) (chSure_of (by kernel_rfl)) (one_ b1 p9.2 (some ⟨b10, 0, none⟩) 3 (inG [(b10, .cells #[.string (ByteArray.mk #[84]), .string (ByteArray.mk #[116]), .string (ByteArray.mk #[32])] 9 (0, 0))]) ([(ByteArray.mk #[84]), (ByteArray.mk #[116]), (ByteArray.mk #[32])]) (Rd.lit (c := [.string (ByteArray.mk #[84]), .string (ByteArray.mk #[116]), .string (ByteArray.mk #[32])])) (Nat.le_of_ble_eq_true rfl) _ _ (at_inG 1 rfl)) ?_
  rintro _ _ ⟨p11, hp11, hp11a, hp11b, hp11c, rfl, rfl⟩
  simp at hp11b
  refine GL_fin (E' := [⟨4, [], .pointer (some ⟨b1, 0, none⟩)⟩, ⟨5, [], .pointer (some ⟨b3, 0, none⟩)⟩]) [] [4, 5] rfl (by kernel_rfl) ?_
  refine N_then ?_
  refine G_seq ?_
  refine G_region ?_
  refine GL_pure (E' := [⟨27, [], .pointer (some ⟨b1, 0, none⟩)⟩, ⟨4, [], .pointer (some ⟨b1, 0, none⟩)⟩, ⟨5, [], .pointer (some ⟨b3, 0, none⟩)⟩]) [0] (by kernel_rfl) (j := 1) rfl ?_
  refine GL_call (i := 1) (ch := []) (f := 19) (fst := #[]) (caps := #[]) (vs := [.pointer (some ⟨b1, 0, none⟩), .int .i64 2]) rfl rfl rfl (by kernel_rfl) (by kernel_rfl) Tryz.func19 rfl rfl (by kernel_rfl) (by kernel_rfl) (chSure_of (by kernel_rfl)) (number_ b1 p11.2 2 (by omega) (by omega) _ _) ?_
  rintro _ _ ⟨p12, hp12, hp12a, hp12b, hp12c, rfl, rfl⟩
  refine GL_pure (E' := [⟨29, [], .pointer (some ⟨b3, 3, none⟩)⟩, ⟨28, [], .int .i64 p12.1⟩, ⟨27, [], .pointer (some ⟨b1, 0, none⟩)⟩, ⟨4, [], .pointer (some ⟨b1, 0, none⟩)⟩, ⟨5, [], .pointer (some ⟨b3, 0, none⟩)⟩]) [0] (by kernel_rfl) (j := 3) rfl ?_
  refine GL_store (i := 3) (ch := []) (b := b3) (off := 3) (v := .int .i64 p12.1) (c := #[.int .i64 p2.1, .int .i64 p6.1, .int .i64 p9.1, .int .i64 0, .int .i64 0, .int .i64 0]) (c' := #[.int .i64 p2.1, .int .i64 p6.1, .int .i64 p9.1, .int .i64 p12.1, .int .i64 0, .int .i64 0]) (j := 4) (m := 0) (H' := ([(b1, .cells #[.string p12.2.s, .bool p12.2.bad] 40 (0, 0))] :: [(b10, .cells #[.string (ByteArray.mk #[84]), .string (ByteArray.mk #[116]), .string (ByteArray.mk #[32])] 9 (0, 0))] :: [(b7, .cells #[.string (ByteArray.mk #[45])] 9 (0, 0))] :: [(b4, .cells #[.string (ByteArray.mk #[45])] 9 (0, 0))] :: [(b3, .cells #[.int .i64 p2.1, .int .i64 p6.1, .int .i64 p9.1, .int .i64 p12.1, .int .i64 0, .int .i64 0] 44 (0, 0))] :: H)) rfl rfl (by kernel_rfl) (by kernel_rfl) (by kernel_rfl) (by kernel_rfl) (by kernel_rfl) (by kernel_rfl) (by kernel_rfl) rfl rfl (Nat.le_of_ble_eq_true rfl) (fun _ _ => thaw0) (by kernel_rfl) (by kernel_rfl) ?_
  refine GL_fin (E' := [⟨4, [], .pointer (some ⟨b1, 0, none⟩)⟩, ⟨5, [], .pointer (some ⟨b3, 0, none⟩)⟩]) [] [4, 5] rfl (by kernel_rfl) ?_
  refine N_then ?_
  refine G_seq ?_
  refine G_region ?_
  refine GL_pure (E' := [⟨30, [], .pointer (some ⟨b1, 0, none⟩)⟩, ⟨4, [], .pointer (some ⟨b1, 0, none⟩)⟩, ⟨5, [], .pointer (some ⟨b3, 0, none⟩)⟩]) [0] (by kernel_rfl) (j := 1) rfl ?_
  refine GL_buildSlice (i := 1) (ch := []) (e := 9) (l := [(0, .string (ByteArray.mk #[58]))]) (c := [.string (ByteArray.mk #[58])]) rfl rfl (by kernel_rfl) (by kernel_rfl) (by kernel_rfl) (by kernel_rfl) (by kernel_rfl) (fun b13 => ?_)
  refine GL_heap rfl (H' := ([(b1, .cells #[.string p12.2.s, .bool p12.2.bad] 40 (0, 0))] :: [(b13, .cells #[.string (ByteArray.mk #[58])] 9 (0, 0))] :: [(b10, .cells #[.string (ByteArray.mk #[84]), .string (ByteArray.mk #[116]), .string (ByteArray.mk #[32])] 9 (0, 0))] :: [(b7, .cells #[.string (ByteArray.mk #[45])] 9 (0, 0))] :: [(b4, .cells #[.string (ByteArray.mk #[45])] 9 (0, 0))] :: [(b3, .cells #[.int .i64 p2.1, .int .i64 p6.1, .int .i64 p9.1, .int .i64 p12.1, .int .i64 0, .int .i64 0] 44 (0, 0))] :: H)) (fun w h => (h.front (j := 1) rfl)) ?_
  refine GL_call (i := 2) (ch := []) (f := 17) (fst := #[]) (caps := #[]) (vs := [.pointer (some ⟨b1, 0, none⟩), .slice (some ⟨b13, 0, none⟩) 1 1]) rfl rfl rfl (by kernel_rfl) (by kernel_rfl) Tryz.func17 rfl rfl (by kernel_rfl) (by kernel_rfl) (chSure_of (by kernel_rfl)) (one_ b1 p12.2 (some ⟨b13, 0, none⟩) 1 (inG [(b13, .cells #[.string (ByteArray.mk #[58])] 9 (0, 0))]) ([(ByteArray.mk #[58])]) (Rd.lit (c := [.string (ByteArray.mk #[58])])) (Nat.le_of_ble_eq_true rfl) _ _ (at_inG 1 rfl)) ?_
  rintro _ _ ⟨p14, hp14, hp14a, hp14b, hp14c, rfl, rfl⟩
  simp at hp14b
  refine GL_fin (E' := [⟨4, [], .pointer (some ⟨b1, 0, none⟩)⟩, ⟨5, [], .pointer (some ⟨b3, 0, none⟩)⟩]) [] [4, 5] rfl (by kernel_rfl) ?_
  refine N_then ?_
  refine G_seq ?_
  refine G_region ?_
  refine GL_pure (E' := [⟨33, [], .pointer (some ⟨b1, 0, none⟩)⟩, ⟨4, [], .pointer (some ⟨b1, 0, none⟩)⟩, ⟨5, [], .pointer (some ⟨b3, 0, none⟩)⟩]) [0] (by kernel_rfl) (j := 1) rfl ?_
  refine GL_call (i := 1) (ch := []) (f := 19) (fst := #[]) (caps := #[]) (vs := [.pointer (some ⟨b1, 0, none⟩), .int .i64 2]) rfl rfl rfl (by kernel_rfl) (by kernel_rfl) Tryz.func19 rfl rfl (by kernel_rfl) (by kernel_rfl) (chSure_of (by kernel_rfl)) (number_ b1 p14.2 2 (by omega) (by omega) _ _) ?_
  rintro _ _ ⟨p15, hp15, hp15a, hp15b, hp15c, rfl, rfl⟩
  refine GL_pure (E' := [⟨35, [], .pointer (some ⟨b3, 4, none⟩)⟩, ⟨34, [], .int .i64 p15.1⟩, ⟨33, [], .pointer (some ⟨b1, 0, none⟩)⟩, ⟨4, [], .pointer (some ⟨b1, 0, none⟩)⟩, ⟨5, [], .pointer (some ⟨b3, 0, none⟩)⟩]) [0] (by kernel_rfl) (j := 3) rfl ?_
  refine GL_store (i := 3) (ch := []) (b := b3) (off := 4) (v := .int .i64 p15.1) (c := #[.int .i64 p2.1, .int .i64 p6.1, .int .i64 p9.1, .int .i64 p12.1, .int .i64 0, .int .i64 0]) (c' := #[.int .i64 p2.1, .int .i64 p6.1, .int .i64 p9.1, .int .i64 p12.1, .int .i64 p15.1, .int .i64 0]) (j := 5) (m := 0) (H' := ([(b1, .cells #[.string p15.2.s, .bool p15.2.bad] 40 (0, 0))] :: [(b13, .cells #[.string (ByteArray.mk #[58])] 9 (0, 0))] :: [(b10, .cells #[.string (ByteArray.mk #[84]), .string (ByteArray.mk #[116]), .string (ByteArray.mk #[32])] 9 (0, 0))] :: [(b7, .cells #[.string (ByteArray.mk #[45])] 9 (0, 0))] :: [(b4, .cells #[.string (ByteArray.mk #[45])] 9 (0, 0))] :: [(b3, .cells #[.int .i64 p2.1, .int .i64 p6.1, .int .i64 p9.1, .int .i64 p12.1, .int .i64 p15.1, .int .i64 0] 44 (0, 0))] :: H)) rfl rfl (by kernel_rfl) (by kernel_rfl) (by kernel_rfl) (by kernel_rfl) (by kernel_rfl) (by kernel_rfl) (by kernel_rfl) rfl rfl (Nat.le_of_ble_eq_true rfl) (fun _ _ => thaw0) (by kernel_rfl) (by kernel_rfl) ?_
  refine GL_fin (E' := [⟨4, [], .pointer (some ⟨b1, 0, none⟩)⟩, ⟨5, [], .pointer (some ⟨b3, 0, none⟩)⟩]) [] [4, 5] rfl (by kernel_rfl) ?_
  refine N_then ?_
  refine G_seq ?_
  refine G_region ?_
  refine GL_pure (E' := [⟨36, [], .pointer (some ⟨b1, 0, none⟩)⟩, ⟨4, [], .pointer (some ⟨b1, 0, none⟩)⟩, ⟨5, [], .pointer (some ⟨b3, 0, none⟩)⟩]) [0] (by kernel_rfl) (j := 1) rfl ?_
  refine GL_buildSlice (i := 1) (ch := []) (e := 9) (l := [(0, .string (ByteArray.mk #[58]))]) (c := [.string (ByteArray.mk #[58])]) rfl rfl (by kernel_rfl) (by kernel_rfl) (by kernel_rfl) (by kernel_rfl) (by kernel_rfl) (fun b16 => ?_)
  refine GL_heap rfl (H' := ([(b1, .cells #[.string p15.2.s, .bool p15.2.bad] 40 (0, 0))] :: [(b16, .cells #[.string (ByteArray.mk #[58])] 9 (0, 0))] :: [(b13, .cells #[.string (ByteArray.mk #[58])] 9 (0, 0))] :: [(b10, .cells #[.string (ByteArray.mk #[84]), .string (ByteArray.mk #[116]), .string (ByteArray.mk #[32])] 9 (0, 0))] :: [(b7, .cells #[.string (ByteArray.mk #[45])] 9 (0, 0))] :: [(b4, .cells #[.string (ByteArray.mk #[45])] 9 (0, 0))] :: [(b3, .cells #[.int .i64 p2.1, .int .i64 p6.1, .int .i64 p9.1, .int .i64 p12.1, .int .i64 p15.1, .int .i64 0] 44 (0, 0))] :: H)) (fun w h => (h.front (j := 1) rfl)) ?_
  refine GL_call (i := 2) (ch := []) (f := 17) (fst := #[]) (caps := #[]) (vs := [.pointer (some ⟨b1, 0, none⟩), .slice (some ⟨b16, 0, none⟩) 1 1]) rfl rfl rfl (by kernel_rfl) (by kernel_rfl) Tryz.func17 rfl rfl (by kernel_rfl) (by kernel_rfl) (chSure_of (by kernel_rfl)) (one_ b1 p15.2 (some ⟨b16, 0, none⟩) 1 (inG [(b16, .cells #[.string (ByteArray.mk #[58])] 9 (0, 0))]) ([(ByteArray.mk #[58])]) (Rd.lit (c := [.string (ByteArray.mk #[58])])) (Nat.le_of_ble_eq_true rfl) _ _ (at_inG 1 rfl)) ?_
  rintro _ _ ⟨p17, hp17, hp17a, hp17b, hp17c, rfl, rfl⟩
  simp at hp17b
  refine GL_fin (E' := [⟨4, [], .pointer (some ⟨b1, 0, none⟩)⟩, ⟨5, [], .pointer (some ⟨b3, 0, none⟩)⟩]) [] [4, 5] rfl (by kernel_rfl) ?_
  refine N_then ?_
  refine G_seq ?_
  refine G_region ?_
  refine GL_pure (E' := [⟨39, [], .pointer (some ⟨b1, 0, none⟩)⟩, ⟨4, [], .pointer (some ⟨b1, 0, none⟩)⟩, ⟨5, [], .pointer (some ⟨b3, 0, none⟩)⟩]) [0] (by kernel_rfl) (j := 1) rfl ?_
  refine GL_call (i := 1) (ch := []) (f := 19) (fst := #[]) (caps := #[]) (vs := [.pointer (some ⟨b1, 0, none⟩), .int .i64 2]) rfl rfl rfl (by kernel_rfl) (by kernel_rfl) Tryz.func19 rfl rfl (by kernel_rfl) (by kernel_rfl) (chSure_of (by kernel_rfl)) (number_ b1 p17.2 2 (by omega) (by omega) _ _) ?_
  rintro _ _ ⟨p18, hp18, hp18a, hp18b, hp18c, rfl, rfl⟩
  refine GL_pure (E' := [⟨41, [], .pointer (some ⟨b3, 5, none⟩)⟩, ⟨40, [], .int .i64 p18.1⟩, ⟨39, [], .pointer (some ⟨b1, 0, none⟩)⟩, ⟨4, [], .pointer (some ⟨b1, 0, none⟩)⟩, ⟨5, [], .pointer (some ⟨b3, 0, none⟩)⟩]) [0] (by kernel_rfl) (j := 3) rfl ?_
  refine GL_store (i := 3) (ch := []) (b := b3) (off := 5) (v := .int .i64 p18.1) (c := #[.int .i64 p2.1, .int .i64 p6.1, .int .i64 p9.1, .int .i64 p12.1, .int .i64 p15.1, .int .i64 0]) (c' := #[.int .i64 p2.1, .int .i64 p6.1, .int .i64 p9.1, .int .i64 p12.1, .int .i64 p15.1, .int .i64 p18.1]) (j := 6) (m := 0) (H' := ([(b1, .cells #[.string p18.2.s, .bool p18.2.bad] 40 (0, 0))] :: [(b16, .cells #[.string (ByteArray.mk #[58])] 9 (0, 0))] :: [(b13, .cells #[.string (ByteArray.mk #[58])] 9 (0, 0))] :: [(b10, .cells #[.string (ByteArray.mk #[84]), .string (ByteArray.mk #[116]), .string (ByteArray.mk #[32])] 9 (0, 0))] :: [(b7, .cells #[.string (ByteArray.mk #[45])] 9 (0, 0))] :: [(b4, .cells #[.string (ByteArray.mk #[45])] 9 (0, 0))] :: [(b3, .cells #[.int .i64 p2.1, .int .i64 p6.1, .int .i64 p9.1, .int .i64 p12.1, .int .i64 p15.1, .int .i64 p18.1] 44 (0, 0))] :: H)) rfl rfl (by kernel_rfl) (by kernel_rfl) (by kernel_rfl) (by kernel_rfl) (by kernel_rfl) (by kernel_rfl) (by kernel_rfl) rfl rfl (Nat.le_of_ble_eq_true rfl) (fun _ _ => thaw0) (by kernel_rfl) (by kernel_rfl) ?_
  refine GL_fin (E' := [⟨4, [], .pointer (some ⟨b1, 0, none⟩)⟩, ⟨5, [], .pointer (some ⟨b3, 0, none⟩)⟩]) [] [4, 5] rfl (by kernel_rfl) ?_
  refine N_then ?_
  refine G_seq ?_
  refine G_seq ?_
  refine G_region ?_
  refine GL_pure (E' := [⟨42, [], .pointer (some ⟨b1, 0, none⟩)⟩, ⟨4, [], .pointer (some ⟨b1, 0, none⟩)⟩, ⟨5, [], .pointer (some ⟨b3, 0, none⟩)⟩]) [0] (by kernel_rfl) (j := 1) rfl ?_
  refine GL_call (i := 1) (ch := []) (f := 20) (fst := #[]) (caps := #[]) (vs := [.pointer (some ⟨b1, 0, none⟩), .string (ByteArray.mk #[46])]) rfl rfl rfl (by kernel_rfl) (by kernel_rfl) Tryz.func20 rfl rfl (by kernel_rfl) (by kernel_rfl) (chSure_of (by kernel_rfl)) (maybe_ b1 p18.2 (ByteArray.mk #[46]) _ _) ?_
  rintro _ _ ⟨p19, hp19, hp19a, hp19b, hp19c, rfl, rfl⟩
  rcases hb20 : p19.1 with _ | _
  ·
    -- hb20 false
    refine GL_fin (E' := [⟨4, [], .pointer (some ⟨b1, 0, none⟩)⟩, ⟨5, [], .pointer (some ⟨b3, 0, none⟩)⟩, ⟨43, [], .bool false⟩]) [] [4, 5, 43] rfl (by kernel_rfl) ?_
    refine N_then ?_
    refine G_condf (by kernel_rfl) ?_
    refine G_skip ?_
    refine N_then ?_
    refine G_seq ?_
    refine G_seq ?_
    refine G_region ?_
    refine GL_pure (E' := [⟨54, [], .pointer (some ⟨b1, 0, none⟩)⟩, ⟨4, [], .pointer (some ⟨b1, 0, none⟩)⟩, ⟨5, [], .pointer (some ⟨b3, 0, none⟩)⟩, ⟨43, [], .bool false⟩]) [0] (by kernel_rfl) (j := 1) rfl ?_
    refine GL_call (i := 1) (ch := []) (f := 20) (fst := #[]) (caps := #[]) (vs := [.pointer (some ⟨b1, 0, none⟩), .string (ByteArray.mk #[90])]) rfl rfl rfl (by kernel_rfl) (by kernel_rfl) Tryz.func20 rfl rfl (by kernel_rfl) (by kernel_rfl) (chSure_of (by kernel_rfl)) (maybe_ b1 p19.2 (ByteArray.mk #[90]) _ _) ?_
    rintro _ _ ⟨p21, hp21, hp21a, hp21b, hp21c, rfl, rfl⟩
    rcases hb22 : p21.1 with _ | _
    ·
      -- hb22 false
      refine GL_pure (E' := [⟨57, [(56, false)], .pointer (some ⟨b1, 0, none⟩)⟩, ⟨56, [], .bool false⟩, ⟨55, [], .bool false⟩, ⟨54, [], .pointer (some ⟨b1, 0, none⟩)⟩, ⟨4, [], .pointer (some ⟨b1, 0, none⟩)⟩, ⟨5, [], .pointer (some ⟨b3, 0, none⟩)⟩, ⟨43, [], .bool false⟩]) [0, 0] (by kernel_rfl) (j := 4) rfl ?_
      refine GL_call (i := 4) (ch := [(56, false)]) (f := 20) (fst := #[]) (caps := #[]) (vs := [.pointer (some ⟨b1, 0, none⟩), .string (ByteArray.mk #[122])]) rfl rfl rfl (by kernel_rfl) (by kernel_rfl) Tryz.func20 rfl rfl (by kernel_rfl) (by kernel_rfl) (chSure_of (by kernel_rfl)) (maybe_ b1 p21.2 (ByteArray.mk #[122]) _ _) ?_
      rintro _ _ ⟨p23, hp23, hp23a, hp23b, hp23c, rfl, rfl⟩
      rcases hb24 : p23.1 with _ | _
      ·
        -- hb24 false
        refine GL_fin (E' := [⟨4, [], .pointer (some ⟨b1, 0, none⟩)⟩, ⟨5, [], .pointer (some ⟨b3, 0, none⟩)⟩, ⟨59, [], .bool false⟩]) [3] [4, 5, 59] rfl (by kernel_rfl) ?_
        refine N_then ?_
        refine G_condf (by kernel_rfl) ?_
        refine G_skip ?_
        refine N_then ?_
        refine G_seq ?_
        refine G_regionH ([(b16, .cells #[.string (ByteArray.mk #[58])] 9 (0, 0))] :: [(b13, .cells #[.string (ByteArray.mk #[58])] 9 (0, 0))] :: [(b10, .cells #[.string (ByteArray.mk #[84]), .string (ByteArray.mk #[116]), .string (ByteArray.mk #[32])] 9 (0, 0))] :: [(b7, .cells #[.string (ByteArray.mk #[45])] 9 (0, 0))] :: [(b4, .cells #[.string (ByteArray.mk #[45])] 9 (0, 0))] :: [(b3, .cells #[.int .i64 p2.1, .int .i64 p6.1, .int .i64 p9.1, .int .i64 p12.1, .int .i64 p15.1, .int .i64 p18.1] 44 (0, 0))] :: H) (by kernel_rfl) ?_
        refine GH_take (E' := [⟨65, [], .pointer (some ⟨b1, 0, none⟩)⟩, ⟨4, [], .pointer (some ⟨b1, 0, none⟩)⟩, ⟨5, [], .pointer (some ⟨b3, 0, none⟩)⟩, ⟨59, [], .bool false⟩]) 0 (by kernel_rfl) (by kernel_rfl) (by kernel_rfl) (by kernel_rfl) (by kernel_rfl) (fun w h => (((((((h.front (j := 6) rfl).front (j := 6) rfl).front (j := 6) rfl).front (j := 6) rfl).front (j := 6) rfl).front (j := 6) rfl).erase 6)) ?_ ?_
        ·
          refine GL_pure (E' := [⟨65, [], .pointer (some ⟨b1, 0, none⟩)⟩, ⟨4, [], .pointer (some ⟨b1, 0, none⟩)⟩, ⟨5, [], .pointer (some ⟨b3, 0, none⟩)⟩, ⟨59, [], .bool false⟩]) [0] (by kernel_rfl) (j := 1) rfl ?_
          exact GL_yend (by kernel_rfl) (by kernel_rfl)
        refine GH_take (E' := [⟨66, [], .agg #[.int .i64 p2.1, .int .i64 p6.1, .int .i64 p9.1, .int .i64 p12.1, .int .i64 p15.1, .int .i64 p18.1]⟩, ⟨65, [], .pointer (some ⟨b1, 0, none⟩)⟩, ⟨4, [], .pointer (some ⟨b1, 0, none⟩)⟩, ⟨5, [], .pointer (some ⟨b3, 0, none⟩)⟩, ⟨59, [], .bool false⟩]) 1 (by kernel_rfl) (by kernel_rfl) (by kernel_rfl) (by kernel_rfl) (by kernel_rfl) (fun w h => (((((((h.front (j := 6) rfl).front (j := 6) rfl).front (j := 6) rfl).front (j := 6) rfl).front (j := 6) rfl).front (j := 6) rfl).erase 6)) ?_ ?_
        ·
          refine GL_loadA (i := 1) (ch := []) (b := b3) (off := 0) (l := [.int .i64 p2.1, .int .i64 p6.1, .int .i64 p9.1, .int .i64 p12.1, .int .i64 p15.1, .int .i64 p18.1]) rfl rfl (by kernel_rfl) (by kernel_rfl) (by kernel_rfl) (by kernel_rfl) (by kernel_rfl) (by kernel_rfl) (At.grp 5 0 rfl rfl) (by kernel_rfl) ?_
          exact GL_yend (by kernel_rfl) (by kernel_rfl)
        refine GH_take (E' := [⟨67, [], .pointer (some ⟨b1, 0, none⟩)⟩, ⟨66, [], .agg #[.int .i64 p2.1, .int .i64 p6.1, .int .i64 p9.1, .int .i64 p12.1, .int .i64 p15.1, .int .i64 p18.1]⟩, ⟨65, [], .pointer (some ⟨b1, 0, none⟩)⟩, ⟨4, [], .pointer (some ⟨b1, 0, none⟩)⟩, ⟨5, [], .pointer (some ⟨b3, 0, none⟩)⟩, ⟨59, [], .bool false⟩]) 2 (by kernel_rfl) (by kernel_rfl) (by kernel_rfl) (by kernel_rfl) (by kernel_rfl) (fun w h => (((((((h.front (j := 6) rfl).front (j := 6) rfl).front (j := 6) rfl).front (j := 6) rfl).front (j := 6) rfl).front (j := 6) rfl).erase 6)) ?_ ?_
        ·
          refine GL_pure (E' := [⟨67, [], .pointer (some ⟨b1, 0, none⟩)⟩, ⟨66, [], .agg #[.int .i64 p2.1, .int .i64 p6.1, .int .i64 p9.1, .int .i64 p12.1, .int .i64 p15.1, .int .i64 p18.1]⟩, ⟨65, [], .pointer (some ⟨b1, 0, none⟩)⟩, ⟨4, [], .pointer (some ⟨b1, 0, none⟩)⟩, ⟨5, [], .pointer (some ⟨b3, 0, none⟩)⟩, ⟨59, [], .bool false⟩]) [0] (by kernel_rfl) (j := 3) rfl ?_
          exact GL_yend (by kernel_rfl) (by kernel_rfl)
        refine GH_eff 3 (by kernel_rfl) (by kernel_rfl) (by kernel_rfl) ?_
        refine GL_call (i := 3) (ch := []) (f := 22) (fst := #[]) (caps := #[]) (vs := [.pointer (some ⟨b1, 0, none⟩), .string (ByteArray.mk #[58])]) rfl rfl rfl (by kernel_rfl) (by kernel_rfl) Tryz.func22 rfl rfl (by kernel_rfl) (by kernel_rfl) (chSure_of (by kernel_rfl)) (offset_ b1 p23.2 (ByteArray.mk #[58]) _ _) ?_
        rintro _ _ ⟨p25, hp25, hp25a, hp25b, hp25c, rfl, rfl⟩
        refine GH_back (by kernel_rfl) (fun w h => (((((((h.front (j := 6) rfl).front (j := 6) rfl).front (j := 6) rfl).front (j := 6) rfl).front (j := 6) rfl).front (j := 6) rfl).erase 6)) ?_
        refine GH_eff 4 (by kernel_rfl) (by kernel_rfl) (by kernel_rfl) ?_
        refine GL_call (i := 4) (ch := []) (f := 21) (fst := #[]) (caps := #[]) (vs := [.pointer (some ⟨b1, 0, none⟩), .agg #[.int .i64 p2.1, .int .i64 p6.1, .int .i64 p9.1, .int .i64 p12.1, .int .i64 p15.1, .int .i64 p18.1], .int .i64 p25.1]) rfl rfl rfl (by kernel_rfl) (by kernel_rfl) Tryz.func21 rfl rfl (by kernel_rfl) (by kernel_rfl) (chSure_of (by kernel_rfl)) (end_ b1 p25.2 p2.1 p6.1 p9.1 p12.1 p15.1 p18.1 p25.1 (by omega) (by omega) (by omega) (by omega) (by omega) (by omega) (by first | omega | exact zoneM_bd (by omega) (by omega)) _ _) ?_
        rintro v H' ⟨rfl, rfl⟩
        rcases he26 : endM p25.2 (timeM p2.1 p6.1 p9.1 p12.1 p15.1 p18.1 p25.1) with _ | t27
        ·
          refine GH_back (by kernel_rfl) (fun w h => (((((((h.front (j := 6) rfl).front (j := 6) rfl).front (j := 6) rfl).front (j := 6) rfl).front (j := 6) rfl).front (j := 6) rfl).erase 6)) ?_
          refine GH_take (E' := [⟨70, [], .int .i64 0⟩, ⟨69, [], .tuple #[.int .i64 0, .int .i64 30]⟩, ⟨68, [], .int .i64 p25.1⟩, ⟨67, [], .pointer (some ⟨b1, 0, none⟩)⟩, ⟨66, [], .agg #[.int .i64 p2.1, .int .i64 p6.1, .int .i64 p9.1, .int .i64 p12.1, .int .i64 p15.1, .int .i64 p18.1]⟩, ⟨65, [], .pointer (some ⟨b1, 0, none⟩)⟩, ⟨4, [], .pointer (some ⟨b1, 0, none⟩)⟩, ⟨5, [], .pointer (some ⟨b3, 0, none⟩)⟩, ⟨59, [], .bool false⟩]) 5 (by kernel_rfl) (by kernel_rfl) (by kernel_rfl) (by kernel_rfl) (by kernel_rfl) (fun w h => (((((((h.front (j := 6) rfl).front (j := 6) rfl).front (j := 6) rfl).front (j := 6) rfl).front (j := 6) rfl).front (j := 6) rfl).erase 6)) ?_ ?_
          ·
            refine GL_pure (E' := [⟨70, [], .int .i64 0⟩, ⟨69, [], .tuple #[.int .i64 0, .int .i64 30]⟩, ⟨68, [], .int .i64 p25.1⟩, ⟨67, [], .pointer (some ⟨b1, 0, none⟩)⟩, ⟨66, [], .agg #[.int .i64 p2.1, .int .i64 p6.1, .int .i64 p9.1, .int .i64 p12.1, .int .i64 p15.1, .int .i64 p18.1]⟩, ⟨65, [], .pointer (some ⟨b1, 0, none⟩)⟩, ⟨4, [], .pointer (some ⟨b1, 0, none⟩)⟩, ⟨5, [], .pointer (some ⟨b3, 0, none⟩)⟩, ⟨59, [], .bool false⟩]) [0] (by kernel_rfl) (j := 6) rfl ?_
            exact GL_yend (by kernel_rfl) (by kernel_rfl)
          refine GH_take (E' := [⟨71, [], .int .i64 30⟩, ⟨70, [], .int .i64 0⟩, ⟨69, [], .tuple #[.int .i64 0, .int .i64 30]⟩, ⟨68, [], .int .i64 p25.1⟩, ⟨67, [], .pointer (some ⟨b1, 0, none⟩)⟩, ⟨66, [], .agg #[.int .i64 p2.1, .int .i64 p6.1, .int .i64 p9.1, .int .i64 p12.1, .int .i64 p15.1, .int .i64 p18.1]⟩, ⟨65, [], .pointer (some ⟨b1, 0, none⟩)⟩, ⟨4, [], .pointer (some ⟨b1, 0, none⟩)⟩, ⟨5, [], .pointer (some ⟨b3, 0, none⟩)⟩, ⟨59, [], .bool false⟩]) 6 (by kernel_rfl) (by kernel_rfl) (by kernel_rfl) (by kernel_rfl) (by kernel_rfl) (fun w h => (((((((h.front (j := 6) rfl).front (j := 6) rfl).front (j := 6) rfl).front (j := 6) rfl).front (j := 6) rfl).front (j := 6) rfl).erase 6)) ?_ ?_
          ·
            refine GL_pure (E' := [⟨71, [], .int .i64 30⟩, ⟨70, [], .int .i64 0⟩, ⟨69, [], .tuple #[.int .i64 0, .int .i64 30]⟩, ⟨68, [], .int .i64 p25.1⟩, ⟨67, [], .pointer (some ⟨b1, 0, none⟩)⟩, ⟨66, [], .agg #[.int .i64 p2.1, .int .i64 p6.1, .int .i64 p9.1, .int .i64 p12.1, .int .i64 p15.1, .int .i64 p18.1]⟩, ⟨65, [], .pointer (some ⟨b1, 0, none⟩)⟩, ⟨4, [], .pointer (some ⟨b1, 0, none⟩)⟩, ⟨5, [], .pointer (some ⟨b3, 0, none⟩)⟩, ⟨59, [], .bool false⟩]) [0] (by kernel_rfl) (j := 7) rfl ?_
            exact GL_yend (by kernel_rfl) (by kernel_rfl)
          refine GH_take (E' := [⟨2, [], .int .i64 0⟩, ⟨71, [], .int .i64 30⟩, ⟨70, [], .int .i64 0⟩, ⟨69, [], .tuple #[.int .i64 0, .int .i64 30]⟩, ⟨68, [], .int .i64 p25.1⟩, ⟨67, [], .pointer (some ⟨b1, 0, none⟩)⟩, ⟨66, [], .agg #[.int .i64 p2.1, .int .i64 p6.1, .int .i64 p9.1, .int .i64 p12.1, .int .i64 p15.1, .int .i64 p18.1]⟩, ⟨65, [], .pointer (some ⟨b1, 0, none⟩)⟩, ⟨4, [], .pointer (some ⟨b1, 0, none⟩)⟩, ⟨5, [], .pointer (some ⟨b3, 0, none⟩)⟩, ⟨59, [], .bool false⟩]) 7 (by kernel_rfl) (by kernel_rfl) (by kernel_rfl) (by kernel_rfl) (by kernel_rfl) (fun w h => (((((((h.front (j := 6) rfl).front (j := 6) rfl).front (j := 6) rfl).front (j := 6) rfl).front (j := 6) rfl).front (j := 6) rfl).erase 6)) ?_ ?_
          ·
            refine GL_pure (E' := [⟨2, [], .int .i64 0⟩, ⟨71, [], .int .i64 30⟩, ⟨70, [], .int .i64 0⟩, ⟨69, [], .tuple #[.int .i64 0, .int .i64 30]⟩, ⟨68, [], .int .i64 p25.1⟩, ⟨67, [], .pointer (some ⟨b1, 0, none⟩)⟩, ⟨66, [], .agg #[.int .i64 p2.1, .int .i64 p6.1, .int .i64 p9.1, .int .i64 p12.1, .int .i64 p15.1, .int .i64 p18.1]⟩, ⟨65, [], .pointer (some ⟨b1, 0, none⟩)⟩, ⟨4, [], .pointer (some ⟨b1, 0, none⟩)⟩, ⟨5, [], .pointer (some ⟨b3, 0, none⟩)⟩, ⟨59, [], .bool false⟩]) [0] (by kernel_rfl) (j := 8) rfl ?_
            exact GL_yend (by kernel_rfl) (by kernel_rfl)
          refine GH_take (E' := [⟨3, [], .int .i64 30⟩, ⟨2, [], .int .i64 0⟩, ⟨71, [], .int .i64 30⟩, ⟨70, [], .int .i64 0⟩, ⟨69, [], .tuple #[.int .i64 0, .int .i64 30]⟩, ⟨68, [], .int .i64 p25.1⟩, ⟨67, [], .pointer (some ⟨b1, 0, none⟩)⟩, ⟨66, [], .agg #[.int .i64 p2.1, .int .i64 p6.1, .int .i64 p9.1, .int .i64 p12.1, .int .i64 p15.1, .int .i64 p18.1]⟩, ⟨65, [], .pointer (some ⟨b1, 0, none⟩)⟩, ⟨4, [], .pointer (some ⟨b1, 0, none⟩)⟩, ⟨5, [], .pointer (some ⟨b3, 0, none⟩)⟩, ⟨59, [], .bool false⟩]) 8 (by kernel_rfl) (by kernel_rfl) (by kernel_rfl) (by kernel_rfl) (by kernel_rfl) (fun w h => (((((((h.front (j := 6) rfl).front (j := 6) rfl).front (j := 6) rfl).front (j := 6) rfl).front (j := 6) rfl).front (j := 6) rfl).erase 6)) ?_ ?_
          ·
            refine GL_pure (E' := [⟨3, [], .int .i64 30⟩, ⟨2, [], .int .i64 0⟩, ⟨71, [], .int .i64 30⟩, ⟨70, [], .int .i64 0⟩, ⟨69, [], .tuple #[.int .i64 0, .int .i64 30]⟩, ⟨68, [], .int .i64 p25.1⟩, ⟨67, [], .pointer (some ⟨b1, 0, none⟩)⟩, ⟨66, [], .agg #[.int .i64 p2.1, .int .i64 p6.1, .int .i64 p9.1, .int .i64 p12.1, .int .i64 p15.1, .int .i64 p18.1]⟩, ⟨65, [], .pointer (some ⟨b1, 0, none⟩)⟩, ⟨4, [], .pointer (some ⟨b1, 0, none⟩)⟩, ⟨5, [], .pointer (some ⟨b3, 0, none⟩)⟩, ⟨59, [], .bool false⟩]) [0] (by kernel_rfl) (j := 9) rfl ?_
            exact GL_yend (by kernel_rfl) (by kernel_rfl)
          refine GH_done (E' := [⟨2, [], .int .i64 0⟩, ⟨3, [], .int .i64 30⟩]) [2, 3] (by kernel_rfl) (by kernel_rfl) ?_
          refine N_then ?_
          refine G_ret ?_
          refine N_heap (H' := ([(b1, .cells #[.string p25.2.s, .bool p25.2.bad] 40 (0, 0))] :: [(b16, .cells #[.string (ByteArray.mk #[58])] 9 (0, 0))] :: [(b13, .cells #[.string (ByteArray.mk #[58])] 9 (0, 0))] :: [(b10, .cells #[.string (ByteArray.mk #[84]), .string (ByteArray.mk #[116]), .string (ByteArray.mk #[32])] 9 (0, 0))] :: [(b7, .cells #[.string (ByteArray.mk #[45])] 9 (0, 0))] :: [(b4, .cells #[.string (ByteArray.mk #[45])] 9 (0, 0))] :: H)) (fun w h => h.erase 6) ?_
          refine N_heap (H' := ([(b1, .cells #[.string p25.2.s, .bool p25.2.bad] 40 (0, 0))] :: [(b16, .cells #[.string (ByteArray.mk #[58])] 9 (0, 0))] :: [(b13, .cells #[.string (ByteArray.mk #[58])] 9 (0, 0))] :: [(b10, .cells #[.string (ByteArray.mk #[84]), .string (ByteArray.mk #[116]), .string (ByteArray.mk #[32])] 9 (0, 0))] :: [(b7, .cells #[.string (ByteArray.mk #[45])] 9 (0, 0))] :: H)) (fun w h => h.erase 5) ?_
          refine N_heap (H' := ([(b1, .cells #[.string p25.2.s, .bool p25.2.bad] 40 (0, 0))] :: [(b16, .cells #[.string (ByteArray.mk #[58])] 9 (0, 0))] :: [(b13, .cells #[.string (ByteArray.mk #[58])] 9 (0, 0))] :: [(b10, .cells #[.string (ByteArray.mk #[84]), .string (ByteArray.mk #[116]), .string (ByteArray.mk #[32])] 9 (0, 0))] :: H)) (fun w h => h.erase 4) ?_
          refine N_heap (H' := ([(b1, .cells #[.string p25.2.s, .bool p25.2.bad] 40 (0, 0))] :: [(b16, .cells #[.string (ByteArray.mk #[58])] 9 (0, 0))] :: [(b13, .cells #[.string (ByteArray.mk #[58])] 9 (0, 0))] :: H)) (fun w h => h.erase 3) ?_
          refine N_heap (H' := ([(b1, .cells #[.string p25.2.s, .bool p25.2.bad] 40 (0, 0))] :: [(b16, .cells #[.string (ByteArray.mk #[58])] 9 (0, 0))] :: H)) (fun w h => h.erase 2) ?_
          refine N_heap (H' := ([(b1, .cells #[.string p25.2.s, .bool p25.2.bad] 40 (0, 0))] :: H)) (fun w h => h.erase 1) ?_
          refine N_heap (H' := H) (fun w h => h.erase 0) ?_
          refine N_ret [.tmp 2, .tmp 3] [.int .i64 0, .int .i64 30] rfl (by kernel_rfl) rfl ?_
          exact errR (t := none) (by simp only [atomM, headM, fracM, zedM, ← hp2, ← hp5, ← hp6, ← hp8, ← hp9, ← hp11, ← hp12, ← hp14, ← hp15, ← hp17, ← hp18, ← hp19, ← hp21, ← hp23, ← hp25, hb20, hb22, hb24, cond_false, he26]) rfl
        ·
          refine GH_back (by kernel_rfl) (fun w h => (((((((h.front (j := 6) rfl).front (j := 6) rfl).front (j := 6) rfl).front (j := 6) rfl).front (j := 6) rfl).front (j := 6) rfl).erase 6)) ?_
          refine GH_take (E' := [⟨70, [], .int .i64 t27⟩, ⟨69, [], .tuple #[.int .i64 t27, .int .i64 0]⟩, ⟨68, [], .int .i64 p25.1⟩, ⟨67, [], .pointer (some ⟨b1, 0, none⟩)⟩, ⟨66, [], .agg #[.int .i64 p2.1, .int .i64 p6.1, .int .i64 p9.1, .int .i64 p12.1, .int .i64 p15.1, .int .i64 p18.1]⟩, ⟨65, [], .pointer (some ⟨b1, 0, none⟩)⟩, ⟨4, [], .pointer (some ⟨b1, 0, none⟩)⟩, ⟨5, [], .pointer (some ⟨b3, 0, none⟩)⟩, ⟨59, [], .bool false⟩]) 5 (by kernel_rfl) (by kernel_rfl) (by kernel_rfl) (by kernel_rfl) (by kernel_rfl) (fun w h => (((((((h.front (j := 6) rfl).front (j := 6) rfl).front (j := 6) rfl).front (j := 6) rfl).front (j := 6) rfl).front (j := 6) rfl).erase 6)) ?_ ?_
          ·
            refine GL_pure (E' := [⟨70, [], .int .i64 t27⟩, ⟨69, [], .tuple #[.int .i64 t27, .int .i64 0]⟩, ⟨68, [], .int .i64 p25.1⟩, ⟨67, [], .pointer (some ⟨b1, 0, none⟩)⟩, ⟨66, [], .agg #[.int .i64 p2.1, .int .i64 p6.1, .int .i64 p9.1, .int .i64 p12.1, .int .i64 p15.1, .int .i64 p18.1]⟩, ⟨65, [], .pointer (some ⟨b1, 0, none⟩)⟩, ⟨4, [], .pointer (some ⟨b1, 0, none⟩)⟩, ⟨5, [], .pointer (some ⟨b3, 0, none⟩)⟩, ⟨59, [], .bool false⟩]) [0] (by kernel_rfl) (j := 6) rfl ?_
            exact GL_yend (by kernel_rfl) (by kernel_rfl)
          refine GH_take (E' := [⟨71, [], .int .i64 0⟩, ⟨70, [], .int .i64 t27⟩, ⟨69, [], .tuple #[.int .i64 t27, .int .i64 0]⟩, ⟨68, [], .int .i64 p25.1⟩, ⟨67, [], .pointer (some ⟨b1, 0, none⟩)⟩, ⟨66, [], .agg #[.int .i64 p2.1, .int .i64 p6.1, .int .i64 p9.1, .int .i64 p12.1, .int .i64 p15.1, .int .i64 p18.1]⟩, ⟨65, [], .pointer (some ⟨b1, 0, none⟩)⟩, ⟨4, [], .pointer (some ⟨b1, 0, none⟩)⟩, ⟨5, [], .pointer (some ⟨b3, 0, none⟩)⟩, ⟨59, [], .bool false⟩]) 6 (by kernel_rfl) (by kernel_rfl) (by kernel_rfl) (by kernel_rfl) (by kernel_rfl) (fun w h => (((((((h.front (j := 6) rfl).front (j := 6) rfl).front (j := 6) rfl).front (j := 6) rfl).front (j := 6) rfl).front (j := 6) rfl).erase 6)) ?_ ?_
          ·
            refine GL_pure (E' := [⟨71, [], .int .i64 0⟩, ⟨70, [], .int .i64 t27⟩, ⟨69, [], .tuple #[.int .i64 t27, .int .i64 0]⟩, ⟨68, [], .int .i64 p25.1⟩, ⟨67, [], .pointer (some ⟨b1, 0, none⟩)⟩, ⟨66, [], .agg #[.int .i64 p2.1, .int .i64 p6.1, .int .i64 p9.1, .int .i64 p12.1, .int .i64 p15.1, .int .i64 p18.1]⟩, ⟨65, [], .pointer (some ⟨b1, 0, none⟩)⟩, ⟨4, [], .pointer (some ⟨b1, 0, none⟩)⟩, ⟨5, [], .pointer (some ⟨b3, 0, none⟩)⟩, ⟨59, [], .bool false⟩]) [0] (by kernel_rfl) (j := 7) rfl ?_
            exact GL_yend (by kernel_rfl) (by kernel_rfl)
          refine GH_take (E' := [⟨2, [], .int .i64 t27⟩, ⟨71, [], .int .i64 0⟩, ⟨70, [], .int .i64 t27⟩, ⟨69, [], .tuple #[.int .i64 t27, .int .i64 0]⟩, ⟨68, [], .int .i64 p25.1⟩, ⟨67, [], .pointer (some ⟨b1, 0, none⟩)⟩, ⟨66, [], .agg #[.int .i64 p2.1, .int .i64 p6.1, .int .i64 p9.1, .int .i64 p12.1, .int .i64 p15.1, .int .i64 p18.1]⟩, ⟨65, [], .pointer (some ⟨b1, 0, none⟩)⟩, ⟨4, [], .pointer (some ⟨b1, 0, none⟩)⟩, ⟨5, [], .pointer (some ⟨b3, 0, none⟩)⟩, ⟨59, [], .bool false⟩]) 7 (by kernel_rfl) (by kernel_rfl) (by kernel_rfl) (by kernel_rfl) (by kernel_rfl) (fun w h => (((((((h.front (j := 6) rfl).front (j := 6) rfl).front (j := 6) rfl).front (j := 6) rfl).front (j := 6) rfl).front (j := 6) rfl).erase 6)) ?_ ?_
          ·
            refine GL_pure (E' := [⟨2, [], .int .i64 t27⟩, ⟨71, [], .int .i64 0⟩, ⟨70, [], .int .i64 t27⟩, ⟨69, [], .tuple #[.int .i64 t27, .int .i64 0]⟩, ⟨68, [], .int .i64 p25.1⟩, ⟨67, [], .pointer (some ⟨b1, 0, none⟩)⟩, ⟨66, [], .agg #[.int .i64 p2.1, .int .i64 p6.1, .int .i64 p9.1, .int .i64 p12.1, .int .i64 p15.1, .int .i64 p18.1]⟩, ⟨65, [], .pointer (some ⟨b1, 0, none⟩)⟩, ⟨4, [], .pointer (some ⟨b1, 0, none⟩)⟩, ⟨5, [], .pointer (some ⟨b3, 0, none⟩)⟩, ⟨59, [], .bool false⟩]) [0] (by kernel_rfl) (j := 8) rfl ?_
            exact GL_yend (by kernel_rfl) (by kernel_rfl)
          refine GH_take (E' := [⟨3, [], .int .i64 0⟩, ⟨2, [], .int .i64 t27⟩, ⟨71, [], .int .i64 0⟩, ⟨70, [], .int .i64 t27⟩, ⟨69, [], .tuple #[.int .i64 t27, .int .i64 0]⟩, ⟨68, [], .int .i64 p25.1⟩, ⟨67, [], .pointer (some ⟨b1, 0, none⟩)⟩, ⟨66, [], .agg #[.int .i64 p2.1, .int .i64 p6.1, .int .i64 p9.1, .int .i64 p12.1, .int .i64 p15.1, .int .i64 p18.1]⟩, ⟨65, [], .pointer (some ⟨b1, 0, none⟩)⟩, ⟨4, [], .pointer (some ⟨b1, 0, none⟩)⟩, ⟨5, [], .pointer (some ⟨b3, 0, none⟩)⟩, ⟨59, [], .bool false⟩]) 8 (by kernel_rfl) (by kernel_rfl) (by kernel_rfl) (by kernel_rfl) (by kernel_rfl) (fun w h => (((((((h.front (j := 6) rfl).front (j := 6) rfl).front (j := 6) rfl).front (j := 6) rfl).front (j := 6) rfl).front (j := 6) rfl).erase 6)) ?_ ?_
          ·
            refine GL_pure (E' := [⟨3, [], .int .i64 0⟩, ⟨2, [], .int .i64 t27⟩, ⟨71, [], .int .i64 0⟩, ⟨70, [], .int .i64 t27⟩, ⟨69, [], .tuple #[.int .i64 t27, .int .i64 0]⟩, ⟨68, [], .int .i64 p25.1⟩, ⟨67, [], .pointer (some ⟨b1, 0, none⟩)⟩, ⟨66, [], .agg #[.int .i64 p2.1, .int .i64 p6.1, .int .i64 p9.1, .int .i64 p12.1, .int .i64 p15.1, .int .i64 p18.1]⟩, ⟨65, [], .pointer (some ⟨b1, 0, none⟩)⟩, ⟨4, [], .pointer (some ⟨b1, 0, none⟩)⟩, ⟨5, [], .pointer (some ⟨b3, 0, none⟩)⟩, ⟨59, [], .bool false⟩]) [0] (by kernel_rfl) (j := 9) rfl ?_
            exact GL_yend (by kernel_rfl) (by kernel_rfl)
          refine GH_done (E' := [⟨2, [], .int .i64 t27⟩, ⟨3, [], .int .i64 0⟩]) [2, 3] (by kernel_rfl) (by kernel_rfl) ?_
          refine N_then ?_
          refine G_ret ?_
          refine N_heap (H' := ([(b1, .cells #[.string p25.2.s, .bool p25.2.bad] 40 (0, 0))] :: [(b16, .cells #[.string (ByteArray.mk #[58])] 9 (0, 0))] :: [(b13, .cells #[.string (ByteArray.mk #[58])] 9 (0, 0))] :: [(b10, .cells #[.string (ByteArray.mk #[84]), .string (ByteArray.mk #[116]), .string (ByteArray.mk #[32])] 9 (0, 0))] :: [(b7, .cells #[.string (ByteArray.mk #[45])] 9 (0, 0))] :: [(b4, .cells #[.string (ByteArray.mk #[45])] 9 (0, 0))] :: H)) (fun w h => h.erase 6) ?_
          refine N_heap (H' := ([(b1, .cells #[.string p25.2.s, .bool p25.2.bad] 40 (0, 0))] :: [(b16, .cells #[.string (ByteArray.mk #[58])] 9 (0, 0))] :: [(b13, .cells #[.string (ByteArray.mk #[58])] 9 (0, 0))] :: [(b10, .cells #[.string (ByteArray.mk #[84]), .string (ByteArray.mk #[116]), .string (ByteArray.mk #[32])] 9 (0, 0))] :: [(b7, .cells #[.string (ByteArray.mk #[45])] 9 (0, 0))] :: H)) (fun w h => h.erase 5) ?_
          refine N_heap (H' := ([(b1, .cells #[.string p25.2.s, .bool p25.2.bad] 40 (0, 0))] :: [(b16, .cells #[.string (ByteArray.mk #[58])] 9 (0, 0))] :: [(b13, .cells #[.string (ByteArray.mk #[58])] 9 (0, 0))] :: [(b10, .cells #[.string (ByteArray.mk #[84]), .string (ByteArray.mk #[116]), .string (ByteArray.mk #[32])] 9 (0, 0))] :: H)) (fun w h => h.erase 4) ?_
          refine N_heap (H' := ([(b1, .cells #[.string p25.2.s, .bool p25.2.bad] 40 (0, 0))] :: [(b16, .cells #[.string (ByteArray.mk #[58])] 9 (0, 0))] :: [(b13, .cells #[.string (ByteArray.mk #[58])] 9 (0, 0))] :: H)) (fun w h => h.erase 3) ?_
          refine N_heap (H' := ([(b1, .cells #[.string p25.2.s, .bool p25.2.bad] 40 (0, 0))] :: [(b16, .cells #[.string (ByteArray.mk #[58])] 9 (0, 0))] :: H)) (fun w h => h.erase 2) ?_
          refine N_heap (H' := ([(b1, .cells #[.string p25.2.s, .bool p25.2.bad] 40 (0, 0))] :: H)) (fun w h => h.erase 1) ?_
          refine N_heap (H' := H) (fun w h => h.erase 0) ?_
          refine N_ret [.tmp 2, .tmp 3] [.int .i64 t27, .int .i64 0] rfl (by kernel_rfl) rfl ?_
          exact errR (t := (some t27)) (by simp only [atomM, headM, fracM, zedM, ← hp2, ← hp5, ← hp6, ← hp8, ← hp9, ← hp11, ← hp12, ← hp14, ← hp15, ← hp17, ← hp18, ← hp19, ← hp21, ← hp23, ← hp25, hb20, hb22, hb24, cond_false, he26]) rfl
      ·
        -- hb24 true
        refine GL_fin (E' := [⟨4, [], .pointer (some ⟨b1, 0, none⟩)⟩, ⟨5, [], .pointer (some ⟨b3, 0, none⟩)⟩, ⟨59, [], .bool true⟩]) [3] [4, 5, 59] rfl (by kernel_rfl) ?_
        refine N_then ?_
        refine G_condt (by kernel_rfl) ?_
        refine G_seq ?_
        refine G_region ?_
        refine GL_pure (E' := [⟨60, [], .pointer (some ⟨b1, 0, none⟩)⟩, ⟨4, [], .pointer (some ⟨b1, 0, none⟩)⟩, ⟨5, [], .pointer (some ⟨b3, 0, none⟩)⟩, ⟨59, [], .bool true⟩]) [0] (by kernel_rfl) (j := 1) rfl ?_
        refine GL_loadA (i := 1) (ch := []) (b := b3) (off := 0) (l := [.int .i64 p2.1, .int .i64 p6.1, .int .i64 p9.1, .int .i64 p12.1, .int .i64 p15.1, .int .i64 p18.1]) rfl rfl (by kernel_rfl) (by kernel_rfl) (by kernel_rfl) (by kernel_rfl) (by kernel_rfl) (by kernel_rfl) (At.grp 6 0 rfl rfl) (by kernel_rfl) ?_
        refine GL_call (i := 2) (ch := []) (f := 21) (fst := #[]) (caps := #[]) (vs := [.pointer (some ⟨b1, 0, none⟩), .agg #[.int .i64 p2.1, .int .i64 p6.1, .int .i64 p9.1, .int .i64 p12.1, .int .i64 p15.1, .int .i64 p18.1], .int .i64 0]) rfl rfl rfl (by kernel_rfl) (by kernel_rfl) Tryz.func21 rfl rfl (by kernel_rfl) (by kernel_rfl) (chSure_of (by kernel_rfl)) (end_ b1 p23.2 p2.1 p6.1 p9.1 p12.1 p15.1 p18.1 0 (by omega) (by omega) (by omega) (by omega) (by omega) (by omega) (by first | omega | exact zoneM_bd (by omega) (by omega)) _ _) ?_
        rintro v H' ⟨rfl, rfl⟩
        rcases he28 : endM p23.2 (timeM p2.1 p6.1 p9.1 p12.1 p15.1 p18.1 0) with _ | t29
        ·
          refine GL_fin (E' := [⟨2, [], .int .i64 0⟩, ⟨3, [], .int .i64 30⟩]) [0, 0, 0, 0] [2, 3] rfl (by kernel_rfl) ?_
          refine N_then ?_
          refine G_ret ?_
          refine N_then_ret ?_
          refine N_heap (H' := ([(b1, .cells #[.string p23.2.s, .bool p23.2.bad] 40 (0, 0))] :: [(b16, .cells #[.string (ByteArray.mk #[58])] 9 (0, 0))] :: [(b13, .cells #[.string (ByteArray.mk #[58])] 9 (0, 0))] :: [(b10, .cells #[.string (ByteArray.mk #[84]), .string (ByteArray.mk #[116]), .string (ByteArray.mk #[32])] 9 (0, 0))] :: [(b7, .cells #[.string (ByteArray.mk #[45])] 9 (0, 0))] :: [(b4, .cells #[.string (ByteArray.mk #[45])] 9 (0, 0))] :: H)) (fun w h => h.erase 6) ?_
          refine N_heap (H' := ([(b1, .cells #[.string p23.2.s, .bool p23.2.bad] 40 (0, 0))] :: [(b16, .cells #[.string (ByteArray.mk #[58])] 9 (0, 0))] :: [(b13, .cells #[.string (ByteArray.mk #[58])] 9 (0, 0))] :: [(b10, .cells #[.string (ByteArray.mk #[84]), .string (ByteArray.mk #[116]), .string (ByteArray.mk #[32])] 9 (0, 0))] :: [(b7, .cells #[.string (ByteArray.mk #[45])] 9 (0, 0))] :: H)) (fun w h => h.erase 5) ?_
          refine N_heap (H' := ([(b1, .cells #[.string p23.2.s, .bool p23.2.bad] 40 (0, 0))] :: [(b16, .cells #[.string (ByteArray.mk #[58])] 9 (0, 0))] :: [(b13, .cells #[.string (ByteArray.mk #[58])] 9 (0, 0))] :: [(b10, .cells #[.string (ByteArray.mk #[84]), .string (ByteArray.mk #[116]), .string (ByteArray.mk #[32])] 9 (0, 0))] :: H)) (fun w h => h.erase 4) ?_
          refine N_heap (H' := ([(b1, .cells #[.string p23.2.s, .bool p23.2.bad] 40 (0, 0))] :: [(b16, .cells #[.string (ByteArray.mk #[58])] 9 (0, 0))] :: [(b13, .cells #[.string (ByteArray.mk #[58])] 9 (0, 0))] :: H)) (fun w h => h.erase 3) ?_
          refine N_heap (H' := ([(b1, .cells #[.string p23.2.s, .bool p23.2.bad] 40 (0, 0))] :: [(b16, .cells #[.string (ByteArray.mk #[58])] 9 (0, 0))] :: H)) (fun w h => h.erase 2) ?_
          refine N_heap (H' := ([(b1, .cells #[.string p23.2.s, .bool p23.2.bad] 40 (0, 0))] :: H)) (fun w h => h.erase 1) ?_
          refine N_heap (H' := H) (fun w h => h.erase 0) ?_
          refine N_ret [.tmp 2, .tmp 3] [.int .i64 0, .int .i64 30] rfl (by kernel_rfl) rfl ?_
          exact errR (t := none) (by simp only [atomM, headM, fracM, zedM, ← hp2, ← hp5, ← hp6, ← hp8, ← hp9, ← hp11, ← hp12, ← hp14, ← hp15, ← hp17, ← hp18, ← hp19, ← hp21, ← hp23, hb20, hb22, hb24, cond_false, cond_true, he28]) rfl
        ·
          refine GL_fin (E' := [⟨2, [], .int .i64 t29⟩, ⟨3, [], .int .i64 0⟩]) [0, 0, 0, 0] [2, 3] rfl (by kernel_rfl) ?_
          refine N_then ?_
          refine G_ret ?_
          refine N_then_ret ?_
          refine N_heap (H' := ([(b1, .cells #[.string p23.2.s, .bool p23.2.bad] 40 (0, 0))] :: [(b16, .cells #[.string (ByteArray.mk #[58])] 9 (0, 0))] :: [(b13, .cells #[.string (ByteArray.mk #[58])] 9 (0, 0))] :: [(b10, .cells #[.string (ByteArray.mk #[84]), .string (ByteArray.mk #[116]), .string (ByteArray.mk #[32])] 9 (0, 0))] :: [(b7, .cells #[.string (ByteArray.mk #[45])] 9 (0, 0))] :: [(b4, .cells #[.string (ByteArray.mk #[45])] 9 (0, 0))] :: H)) (fun w h => h.erase 6) ?_
          refine N_heap (H' := ([(b1, .cells #[.string p23.2.s, .bool p23.2.bad] 40 (0, 0))] :: [(b16, .cells #[.string (ByteArray.mk #[58])] 9 (0, 0))] :: [(b13, .cells #[.string (ByteArray.mk #[58])] 9 (0, 0))] :: [(b10, .cells #[.string (ByteArray.mk #[84]), .string (ByteArray.mk #[116]), .string (ByteArray.mk #[32])] 9 (0, 0))] :: [(b7, .cells #[.string (ByteArray.mk #[45])] 9 (0, 0))] :: H)) (fun w h => h.erase 5) ?_
          refine N_heap (H' := ([(b1, .cells #[.string p23.2.s, .bool p23.2.bad] 40 (0, 0))] :: [(b16, .cells #[.string (ByteArray.mk #[58])] 9 (0, 0))] :: [(b13, .cells #[.string (ByteArray.mk #[58])] 9 (0, 0))] :: [(b10, .cells #[.string (ByteArray.mk #[84]), .string (ByteArray.mk #[116]), .string (ByteArray.mk #[32])] 9 (0, 0))] :: H)) (fun w h => h.erase 4) ?_
          refine N_heap (H' := ([(b1, .cells #[.string p23.2.s, .bool p23.2.bad] 40 (0, 0))] :: [(b16, .cells #[.string (ByteArray.mk #[58])] 9 (0, 0))] :: [(b13, .cells #[.string (ByteArray.mk #[58])] 9 (0, 0))] :: H)) (fun w h => h.erase 3) ?_
          refine N_heap (H' := ([(b1, .cells #[.string p23.2.s, .bool p23.2.bad] 40 (0, 0))] :: [(b16, .cells #[.string (ByteArray.mk #[58])] 9 (0, 0))] :: H)) (fun w h => h.erase 2) ?_
          refine N_heap (H' := ([(b1, .cells #[.string p23.2.s, .bool p23.2.bad] 40 (0, 0))] :: H)) (fun w h => h.erase 1) ?_
          refine N_heap (H' := H) (fun w h => h.erase 0) ?_
          refine N_ret [.tmp 2, .tmp 3] [.int .i64 t29, .int .i64 0] rfl (by kernel_rfl) rfl ?_
          exact errR (t := (some t29)) (by simp only [atomM, headM, fracM, zedM, ← hp2, ← hp5, ← hp6, ← hp8, ← hp9, ← hp11, ← hp12, ← hp14, ← hp15, ← hp17, ← hp18, ← hp19, ← hp21, ← hp23, hb20, hb22, hb24, cond_false, cond_true, he28]) rfl
    ·
      -- hb22 true
      refine GL_fin (E' := [⟨4, [], .pointer (some ⟨b1, 0, none⟩)⟩, ⟨5, [], .pointer (some ⟨b3, 0, none⟩)⟩, ⟨59, [], .bool true⟩]) [0, 1, 1, 2] [4, 5, 59] rfl (by kernel_rfl) ?_
      refine N_then ?_
      refine G_condt (by kernel_rfl) ?_
      refine G_seq ?_
      refine G_region ?_
      refine GL_pure (E' := [⟨60, [], .pointer (some ⟨b1, 0, none⟩)⟩, ⟨4, [], .pointer (some ⟨b1, 0, none⟩)⟩, ⟨5, [], .pointer (some ⟨b3, 0, none⟩)⟩, ⟨59, [], .bool true⟩]) [0] (by kernel_rfl) (j := 1) rfl ?_
      refine GL_loadA (i := 1) (ch := []) (b := b3) (off := 0) (l := [.int .i64 p2.1, .int .i64 p6.1, .int .i64 p9.1, .int .i64 p12.1, .int .i64 p15.1, .int .i64 p18.1]) rfl rfl (by kernel_rfl) (by kernel_rfl) (by kernel_rfl) (by kernel_rfl) (by kernel_rfl) (by kernel_rfl) (At.grp 6 0 rfl rfl) (by kernel_rfl) ?_
      refine GL_call (i := 2) (ch := []) (f := 21) (fst := #[]) (caps := #[]) (vs := [.pointer (some ⟨b1, 0, none⟩), .agg #[.int .i64 p2.1, .int .i64 p6.1, .int .i64 p9.1, .int .i64 p12.1, .int .i64 p15.1, .int .i64 p18.1], .int .i64 0]) rfl rfl rfl (by kernel_rfl) (by kernel_rfl) Tryz.func21 rfl rfl (by kernel_rfl) (by kernel_rfl) (chSure_of (by kernel_rfl)) (end_ b1 p21.2 p2.1 p6.1 p9.1 p12.1 p15.1 p18.1 0 (by omega) (by omega) (by omega) (by omega) (by omega) (by omega) (by first | omega | exact zoneM_bd (by omega) (by omega)) _ _) ?_
      rintro v H' ⟨rfl, rfl⟩
      rcases he30 : endM p21.2 (timeM p2.1 p6.1 p9.1 p12.1 p15.1 p18.1 0) with _ | t31
      ·
        refine GL_fin (E' := [⟨2, [], .int .i64 0⟩, ⟨3, [], .int .i64 30⟩]) [0, 0, 0, 0] [2, 3] rfl (by kernel_rfl) ?_
        refine N_then ?_
        refine G_ret ?_
        refine N_then_ret ?_
        refine N_heap (H' := ([(b1, .cells #[.string p21.2.s, .bool p21.2.bad] 40 (0, 0))] :: [(b16, .cells #[.string (ByteArray.mk #[58])] 9 (0, 0))] :: [(b13, .cells #[.string (ByteArray.mk #[58])] 9 (0, 0))] :: [(b10, .cells #[.string (ByteArray.mk #[84]), .string (ByteArray.mk #[116]), .string (ByteArray.mk #[32])] 9 (0, 0))] :: [(b7, .cells #[.string (ByteArray.mk #[45])] 9 (0, 0))] :: [(b4, .cells #[.string (ByteArray.mk #[45])] 9 (0, 0))] :: H)) (fun w h => h.erase 6) ?_
        refine N_heap (H' := ([(b1, .cells #[.string p21.2.s, .bool p21.2.bad] 40 (0, 0))] :: [(b16, .cells #[.string (ByteArray.mk #[58])] 9 (0, 0))] :: [(b13, .cells #[.string (ByteArray.mk #[58])] 9 (0, 0))] :: [(b10, .cells #[.string (ByteArray.mk #[84]), .string (ByteArray.mk #[116]), .string (ByteArray.mk #[32])] 9 (0, 0))] :: [(b7, .cells #[.string (ByteArray.mk #[45])] 9 (0, 0))] :: H)) (fun w h => h.erase 5) ?_
        refine N_heap (H' := ([(b1, .cells #[.string p21.2.s, .bool p21.2.bad] 40 (0, 0))] :: [(b16, .cells #[.string (ByteArray.mk #[58])] 9 (0, 0))] :: [(b13, .cells #[.string (ByteArray.mk #[58])] 9 (0, 0))] :: [(b10, .cells #[.string (ByteArray.mk #[84]), .string (ByteArray.mk #[116]), .string (ByteArray.mk #[32])] 9 (0, 0))] :: H)) (fun w h => h.erase 4) ?_
        refine N_heap (H' := ([(b1, .cells #[.string p21.2.s, .bool p21.2.bad] 40 (0, 0))] :: [(b16, .cells #[.string (ByteArray.mk #[58])] 9 (0, 0))] :: [(b13, .cells #[.string (ByteArray.mk #[58])] 9 (0, 0))] :: H)) (fun w h => h.erase 3) ?_
        refine N_heap (H' := ([(b1, .cells #[.string p21.2.s, .bool p21.2.bad] 40 (0, 0))] :: [(b16, .cells #[.string (ByteArray.mk #[58])] 9 (0, 0))] :: H)) (fun w h => h.erase 2) ?_
        refine N_heap (H' := ([(b1, .cells #[.string p21.2.s, .bool p21.2.bad] 40 (0, 0))] :: H)) (fun w h => h.erase 1) ?_
        refine N_heap (H' := H) (fun w h => h.erase 0) ?_
        refine N_ret [.tmp 2, .tmp 3] [.int .i64 0, .int .i64 30] rfl (by kernel_rfl) rfl ?_
        exact errR (t := none) (by simp only [atomM, headM, fracM, zedM, ← hp2, ← hp5, ← hp6, ← hp8, ← hp9, ← hp11, ← hp12, ← hp14, ← hp15, ← hp17, ← hp18, ← hp19, ← hp21, hb20, hb22, cond_false, cond_true, he30]) rfl
      ·
        refine GL_fin (E' := [⟨2, [], .int .i64 t31⟩, ⟨3, [], .int .i64 0⟩]) [0, 0, 0, 0] [2, 3] rfl (by kernel_rfl) ?_
        refine N_then ?_
        refine G_ret ?_
        refine N_then_ret ?_
        refine N_heap (H' := ([(b1, .cells #[.string p21.2.s, .bool p21.2.bad] 40 (0, 0))] :: [(b16, .cells #[.string (ByteArray.mk #[58])] 9 (0, 0))] :: [(b13, .cells #[.string (ByteArray.mk #[58])] 9 (0, 0))] :: [(b10, .cells #[.string (ByteArray.mk #[84]), .string (ByteArray.mk #[116]), .string (ByteArray.mk #[32])] 9 (0, 0))] :: [(b7, .cells #[.string (ByteArray.mk #[45])] 9 (0, 0))] :: [(b4, .cells #[.string (ByteArray.mk #[45])] 9 (0, 0))] :: H)) (fun w h => h.erase 6) ?_
        refine N_heap (H' := ([(b1, .cells #[.string p21.2.s, .bool p21.2.bad] 40 (0, 0))] :: [(b16, .cells #[.string (ByteArray.mk #[58])] 9 (0, 0))] :: [(b13, .cells #[.string (ByteArray.mk #[58])] 9 (0, 0))] :: [(b10, .cells #[.string (ByteArray.mk #[84]), .string (ByteArray.mk #[116]), .string (ByteArray.mk #[32])] 9 (0, 0))] :: [(b7, .cells #[.string (ByteArray.mk #[45])] 9 (0, 0))] :: H)) (fun w h => h.erase 5) ?_
        refine N_heap (H' := ([(b1, .cells #[.string p21.2.s, .bool p21.2.bad] 40 (0, 0))] :: [(b16, .cells #[.string (ByteArray.mk #[58])] 9 (0, 0))] :: [(b13, .cells #[.string (ByteArray.mk #[58])] 9 (0, 0))] :: [(b10, .cells #[.string (ByteArray.mk #[84]), .string (ByteArray.mk #[116]), .string (ByteArray.mk #[32])] 9 (0, 0))] :: H)) (fun w h => h.erase 4) ?_
        refine N_heap (H' := ([(b1, .cells #[.string p21.2.s, .bool p21.2.bad] 40 (0, 0))] :: [(b16, .cells #[.string (ByteArray.mk #[58])] 9 (0, 0))] :: [(b13, .cells #[.string (ByteArray.mk #[58])] 9 (0, 0))] :: H)) (fun w h => h.erase 3) ?_
        refine N_heap (H' := ([(b1, .cells #[.string p21.2.s, .bool p21.2.bad] 40 (0, 0))] :: [(b16, .cells #[.string (ByteArray.mk #[58])] 9 (0, 0))] :: H)) (fun w h => h.erase 2) ?_
        refine N_heap (H' := ([(b1, .cells #[.string p21.2.s, .bool p21.2.bad] 40 (0, 0))] :: H)) (fun w h => h.erase 1) ?_
        refine N_heap (H' := H) (fun w h => h.erase 0) ?_
        refine N_ret [.tmp 2, .tmp 3] [.int .i64 t31, .int .i64 0] rfl (by kernel_rfl) rfl ?_
        exact errR (t := (some t31)) (by simp only [atomM, headM, fracM, zedM, ← hp2, ← hp5, ← hp6, ← hp8, ← hp9, ← hp11, ← hp12, ← hp14, ← hp15, ← hp17, ← hp18, ← hp19, ← hp21, hb20, hb22, cond_false, cond_true, he30]) rfl
  ·
    -- hb20 true
    refine GL_fin (E' := [⟨4, [], .pointer (some ⟨b1, 0, none⟩)⟩, ⟨5, [], .pointer (some ⟨b3, 0, none⟩)⟩, ⟨43, [], .bool true⟩]) [] [4, 5, 43] rfl (by kernel_rfl) ?_
    refine N_then ?_
    refine G_condt (by kernel_rfl) ?_
    refine G_seq ?_
    refine G_region ?_
    refine GL_pure (E' := [⟨44, [], .pointer (some ⟨b1, 0, none⟩)⟩, ⟨4, [], .pointer (some ⟨b1, 0, none⟩)⟩, ⟨5, [], .pointer (some ⟨b3, 0, none⟩)⟩, ⟨43, [], .bool true⟩]) [0] (by kernel_rfl) (j := 1) rfl ?_
    refine GL_call (i := 1) (ch := []) (f := 19) (fst := #[]) (caps := #[]) (vs := [.pointer (some ⟨b1, 0, none⟩), .int .i64 1]) rfl rfl rfl (by kernel_rfl) (by kernel_rfl) Tryz.func19 rfl rfl (by kernel_rfl) (by kernel_rfl) (chSure_of (by kernel_rfl)) (number_ b1 p19.2 1 (by omega) (by omega) _ _) ?_
    rintro _ _ ⟨p32, hp32, hp32a, hp32b, hp32c, rfl, rfl⟩
    refine GL_fin (E' := [⟨4, [], .pointer (some ⟨b1, 0, none⟩)⟩, ⟨5, [], .pointer (some ⟨b3, 0, none⟩)⟩]) [] [4, 5] rfl (by kernel_rfl) ?_
    refine N_then ?_
    refine G_region ?_
    refine GL_pure (E' := [⟨49, [], .pointer (some ⟨b1, 0, none⟩)⟩, ⟨48, [], .pointer (some ⟨b1, 0, none⟩)⟩, ⟨47, [], .pointer (some ⟨b1, 0, none⟩)⟩, ⟨46, [], .pointer (some ⟨b1, 0, none⟩)⟩, ⟨4, [], .pointer (some ⟨b1, 0, none⟩)⟩, ⟨5, [], .pointer (some ⟨b3, 0, none⟩)⟩]) [0, 0, 0, 0] (by kernel_rfl) (j := 4) rfl ?_
    refine GL_load (i := 4) (ch := []) (b := b1) (off := 0) (v := .string p32.2.s) rfl rfl (by kernel_rfl) (by kernel_rfl) (by kernel_rfl) (by kernel_rfl) (by kernel_rfl) (At.grp 0 0 rfl rfl) rfl ?_
    refine GL_callQ (i := 5) (ch := []) (f := 36) (fst := #[]) (caps := #[]) (vs := [.string p32.2.s, .string (ByteArray.mk #[48, 49, 50, 51, 52, 53, 54, 55, 56, 57])]) (v := .string (trimLD p32.2.s)) rfl rfl rfl (by kernel_rfl) (by kernel_rfl) Tryz.func36 rfl rfl (by kernel_rfl) (by kernel_rfl) (by kernel_rfl) (fun _ => trimLC _ _ _) ?_
    refine GL_pure (E' := [⟨53, [], .pointer (some ⟨b1, 0, none⟩)⟩, ⟨52, [], .pointer (some ⟨b1, 0, none⟩)⟩, ⟨51, [], .string (trimLD p32.2.s)⟩, ⟨50, [], .string p32.2.s⟩, ⟨49, [], .pointer (some ⟨b1, 0, none⟩)⟩, ⟨48, [], .pointer (some ⟨b1, 0, none⟩)⟩, ⟨47, [], .pointer (some ⟨b1, 0, none⟩)⟩, ⟨46, [], .pointer (some ⟨b1, 0, none⟩)⟩, ⟨4, [], .pointer (some ⟨b1, 0, none⟩)⟩, ⟨5, [], .pointer (some ⟨b3, 0, none⟩)⟩]) [0, 0] (by kernel_rfl) (j := 8) rfl ?_
    refine GL_store (i := 8) (ch := []) (b := b1) (off := 0) (v := .string (trimLD p32.2.s)) (c := #[.string p32.2.s, .bool p32.2.bad]) (c' := #[.string (trimLD p32.2.s), .bool p32.2.bad]) (j := 0) (m := 0) (H' := ([(b1, .cells #[.string (trimLD p32.2.s), .bool p32.2.bad] 40 (0, 0))] :: [(b16, .cells #[.string (ByteArray.mk #[58])] 9 (0, 0))] :: [(b13, .cells #[.string (ByteArray.mk #[58])] 9 (0, 0))] :: [(b10, .cells #[.string (ByteArray.mk #[84]), .string (ByteArray.mk #[116]), .string (ByteArray.mk #[32])] 9 (0, 0))] :: [(b7, .cells #[.string (ByteArray.mk #[45])] 9 (0, 0))] :: [(b4, .cells #[.string (ByteArray.mk #[45])] 9 (0, 0))] :: [(b3, .cells #[.int .i64 p2.1, .int .i64 p6.1, .int .i64 p9.1, .int .i64 p12.1, .int .i64 p15.1, .int .i64 p18.1] 44 (0, 0))] :: H)) rfl rfl (by kernel_rfl) (by kernel_rfl) (by kernel_rfl) (by kernel_rfl) (by kernel_rfl) (by kernel_rfl) (by kernel_rfl) rfl rfl (Nat.le_of_ble_eq_true rfl) (fun _ _ => thaw0) (by kernel_rfl) (by kernel_rfl) ?_
    refine GL_fin (E' := [⟨4, [], .pointer (some ⟨b1, 0, none⟩)⟩, ⟨5, [], .pointer (some ⟨b3, 0, none⟩)⟩]) [] [4, 5] rfl (by kernel_rfl) ?_
    refine N_then ?_
    refine G_seq ?_
    refine G_seq ?_
    refine G_region ?_
    refine GL_pure (E' := [⟨54, [], .pointer (some ⟨b1, 0, none⟩)⟩, ⟨4, [], .pointer (some ⟨b1, 0, none⟩)⟩, ⟨5, [], .pointer (some ⟨b3, 0, none⟩)⟩]) [0] (by kernel_rfl) (j := 1) rfl ?_
    refine GL_call (i := 1) (ch := []) (f := 20) (fst := #[]) (caps := #[]) (vs := [.pointer (some ⟨b1, 0, none⟩), .string (ByteArray.mk #[90])]) rfl rfl rfl (by kernel_rfl) (by kernel_rfl) Tryz.func20 rfl rfl (by kernel_rfl) (by kernel_rfl) (chSure_of (by kernel_rfl)) (maybe_ b1 ⟨trimLD p32.2.s, p32.2.bad⟩ (ByteArray.mk #[90]) _ _) ?_
    rintro _ _ ⟨p33, hp33, hp33a, hp33b, hp33c, rfl, rfl⟩
    rcases hb34 : p33.1 with _ | _
    ·
      -- hb34 false
      refine GL_pure (E' := [⟨57, [(56, false)], .pointer (some ⟨b1, 0, none⟩)⟩, ⟨56, [], .bool false⟩, ⟨55, [], .bool false⟩, ⟨54, [], .pointer (some ⟨b1, 0, none⟩)⟩, ⟨4, [], .pointer (some ⟨b1, 0, none⟩)⟩, ⟨5, [], .pointer (some ⟨b3, 0, none⟩)⟩]) [0, 0] (by kernel_rfl) (j := 4) rfl ?_
      refine GL_call (i := 4) (ch := [(56, false)]) (f := 20) (fst := #[]) (caps := #[]) (vs := [.pointer (some ⟨b1, 0, none⟩), .string (ByteArray.mk #[122])]) rfl rfl rfl (by kernel_rfl) (by kernel_rfl) Tryz.func20 rfl rfl (by kernel_rfl) (by kernel_rfl) (chSure_of (by kernel_rfl)) (maybe_ b1 p33.2 (ByteArray.mk #[122]) _ _) ?_
      rintro _ _ ⟨p35, hp35, hp35a, hp35b, hp35c, rfl, rfl⟩
      rcases hb36 : p35.1 with _ | _
      ·
        -- hb36 false
        refine GL_fin (E' := [⟨4, [], .pointer (some ⟨b1, 0, none⟩)⟩, ⟨5, [], .pointer (some ⟨b3, 0, none⟩)⟩, ⟨59, [], .bool false⟩]) [3] [4, 5, 59] rfl (by kernel_rfl) ?_
        refine N_then ?_
        refine G_condf (by kernel_rfl) ?_
        refine G_skip ?_
        refine N_then ?_
        refine G_seq ?_
        refine G_regionH ([(b16, .cells #[.string (ByteArray.mk #[58])] 9 (0, 0))] :: [(b13, .cells #[.string (ByteArray.mk #[58])] 9 (0, 0))] :: [(b10, .cells #[.string (ByteArray.mk #[84]), .string (ByteArray.mk #[116]), .string (ByteArray.mk #[32])] 9 (0, 0))] :: [(b7, .cells #[.string (ByteArray.mk #[45])] 9 (0, 0))] :: [(b4, .cells #[.string (ByteArray.mk #[45])] 9 (0, 0))] :: [(b3, .cells #[.int .i64 p2.1, .int .i64 p6.1, .int .i64 p9.1, .int .i64 p12.1, .int .i64 p15.1, .int .i64 p18.1] 44 (0, 0))] :: H) (by kernel_rfl) ?_
        refine GH_take (E' := [⟨65, [], .pointer (some ⟨b1, 0, none⟩)⟩, ⟨4, [], .pointer (some ⟨b1, 0, none⟩)⟩, ⟨5, [], .pointer (some ⟨b3, 0, none⟩)⟩, ⟨59, [], .bool false⟩]) 0 (by kernel_rfl) (by kernel_rfl) (by kernel_rfl) (by kernel_rfl) (by kernel_rfl) (fun w h => (((((((h.front (j := 6) rfl).front (j := 6) rfl).front (j := 6) rfl).front (j := 6) rfl).front (j := 6) rfl).front (j := 6) rfl).erase 6)) ?_ ?_
        ·
          refine GL_pure (E' := [⟨65, [], .pointer (some ⟨b1, 0, none⟩)⟩, ⟨4, [], .pointer (some ⟨b1, 0, none⟩)⟩, ⟨5, [], .pointer (some ⟨b3, 0, none⟩)⟩, ⟨59, [], .bool false⟩]) [0] (by kernel_rfl) (j := 1) rfl ?_
          exact GL_yend (by kernel_rfl) (by kernel_rfl)
        refine GH_take (E' := [⟨66, [], .agg #[.int .i64 p2.1, .int .i64 p6.1, .int .i64 p9.1, .int .i64 p12.1, .int .i64 p15.1, .int .i64 p18.1]⟩, ⟨65, [], .pointer (some ⟨b1, 0, none⟩)⟩, ⟨4, [], .pointer (some ⟨b1, 0, none⟩)⟩, ⟨5, [], .pointer (some ⟨b3, 0, none⟩)⟩, ⟨59, [], .bool false⟩]) 1 (by kernel_rfl) (by kernel_rfl) (by kernel_rfl) (by kernel_rfl) (by kernel_rfl) (fun w h => (((((((h.front (j := 6) rfl).front (j := 6) rfl).front (j := 6) rfl).front (j := 6) rfl).front (j := 6) rfl).front (j := 6) rfl).erase 6)) ?_ ?_
        ·
          refine GL_loadA (i := 1) (ch := []) (b := b3) (off := 0) (l := [.int .i64 p2.1, .int .i64 p6.1, .int .i64 p9.1, .int .i64 p12.1, .int .i64 p15.1, .int .i64 p18.1]) rfl rfl (by kernel_rfl) (by kernel_rfl) (by kernel_rfl) (by kernel_rfl) (by kernel_rfl) (by kernel_rfl) (At.grp 5 0 rfl rfl) (by kernel_rfl) ?_
          exact GL_yend (by kernel_rfl) (by kernel_rfl)
        refine GH_take (E' := [⟨67, [], .pointer (some ⟨b1, 0, none⟩)⟩, ⟨66, [], .agg #[.int .i64 p2.1, .int .i64 p6.1, .int .i64 p9.1, .int .i64 p12.1, .int .i64 p15.1, .int .i64 p18.1]⟩, ⟨65, [], .pointer (some ⟨b1, 0, none⟩)⟩, ⟨4, [], .pointer (some ⟨b1, 0, none⟩)⟩, ⟨5, [], .pointer (some ⟨b3, 0, none⟩)⟩, ⟨59, [], .bool false⟩]) 2 (by kernel_rfl) (by kernel_rfl) (by kernel_rfl) (by kernel_rfl) (by kernel_rfl) (fun w h => (((((((h.front (j := 6) rfl).front (j := 6) rfl).front (j := 6) rfl).front (j := 6) rfl).front (j := 6) rfl).front (j := 6) rfl).erase 6)) ?_ ?_
        ·
          refine GL_pure (E' := [⟨67, [], .pointer (some ⟨b1, 0, none⟩)⟩, ⟨66, [], .agg #[.int .i64 p2.1, .int .i64 p6.1, .int .i64 p9.1, .int .i64 p12.1, .int .i64 p15.1, .int .i64 p18.1]⟩, ⟨65, [], .pointer (some ⟨b1, 0, none⟩)⟩, ⟨4, [], .pointer (some ⟨b1, 0, none⟩)⟩, ⟨5, [], .pointer (some ⟨b3, 0, none⟩)⟩, ⟨59, [], .bool false⟩]) [0] (by kernel_rfl) (j := 3) rfl ?_
          exact GL_yend (by kernel_rfl) (by kernel_rfl)
        refine GH_eff 3 (by kernel_rfl) (by kernel_rfl) (by kernel_rfl) ?_
        refine GL_call (i := 3) (ch := []) (f := 22) (fst := #[]) (caps := #[]) (vs := [.pointer (some ⟨b1, 0, none⟩), .string (ByteArray.mk #[58])]) rfl rfl rfl (by kernel_rfl) (by kernel_rfl) Tryz.func22 rfl rfl (by kernel_rfl) (by kernel_rfl) (chSure_of (by kernel_rfl)) (offset_ b1 p35.2 (ByteArray.mk #[58]) _ _) ?_
        rintro _ _ ⟨p37, hp37, hp37a, hp37b, hp37c, rfl, rfl⟩
        refine GH_back (by kernel_rfl) (fun w h => (((((((h.front (j := 6) rfl).front (j := 6) rfl).front (j := 6) rfl).front (j := 6) rfl).front (j := 6) rfl).front (j := 6) rfl).erase 6)) ?_
        refine GH_eff 4 (by kernel_rfl) (by kernel_rfl) (by kernel_rfl) ?_
        refine GL_call (i := 4) (ch := []) (f := 21) (fst := #[]) (caps := #[]) (vs := [.pointer (some ⟨b1, 0, none⟩), .agg #[.int .i64 p2.1, .int .i64 p6.1, .int .i64 p9.1, .int .i64 p12.1, .int .i64 p15.1, .int .i64 p18.1], .int .i64 p37.1]) rfl rfl rfl (by kernel_rfl) (by kernel_rfl) Tryz.func21 rfl rfl (by kernel_rfl) (by kernel_rfl) (chSure_of (by kernel_rfl)) (end_ b1 p37.2 p2.1 p6.1 p9.1 p12.1 p15.1 p18.1 p37.1 (by omega) (by omega) (by omega) (by omega) (by omega) (by omega) (by first | omega | exact zoneM_bd (by omega) (by omega)) _ _) ?_
        rintro v H' ⟨rfl, rfl⟩
        rcases he38 : endM p37.2 (timeM p2.1 p6.1 p9.1 p12.1 p15.1 p18.1 p37.1) with _ | t39
        ·
          refine GH_back (by kernel_rfl) (fun w h => (((((((h.front (j := 6) rfl).front (j := 6) rfl).front (j := 6) rfl).front (j := 6) rfl).front (j := 6) rfl).front (j := 6) rfl).erase 6)) ?_
          refine GH_take (E' := [⟨70, [], .int .i64 0⟩, ⟨69, [], .tuple #[.int .i64 0, .int .i64 30]⟩, ⟨68, [], .int .i64 p37.1⟩, ⟨67, [], .pointer (some ⟨b1, 0, none⟩)⟩, ⟨66, [], .agg #[.int .i64 p2.1, .int .i64 p6.1, .int .i64 p9.1, .int .i64 p12.1, .int .i64 p15.1, .int .i64 p18.1]⟩, ⟨65, [], .pointer (some ⟨b1, 0, none⟩)⟩, ⟨4, [], .pointer (some ⟨b1, 0, none⟩)⟩, ⟨5, [], .pointer (some ⟨b3, 0, none⟩)⟩, ⟨59, [], .bool false⟩]) 5 (by kernel_rfl) (by kernel_rfl) (by kernel_rfl) (by kernel_rfl) (by kernel_rfl) (fun w h => (((((((h.front (j := 6) rfl).front (j := 6) rfl).front (j := 6) rfl).front (j := 6) rfl).front (j := 6) rfl).front (j := 6) rfl).erase 6)) ?_ ?_
          ·
            refine GL_pure (E' := [⟨70, [], .int .i64 0⟩, ⟨69, [], .tuple #[.int .i64 0, .int .i64 30]⟩, ⟨68, [], .int .i64 p37.1⟩, ⟨67, [], .pointer (some ⟨b1, 0, none⟩)⟩, ⟨66, [], .agg #[.int .i64 p2.1, .int .i64 p6.1, .int .i64 p9.1, .int .i64 p12.1, .int .i64 p15.1, .int .i64 p18.1]⟩, ⟨65, [], .pointer (some ⟨b1, 0, none⟩)⟩, ⟨4, [], .pointer (some ⟨b1, 0, none⟩)⟩, ⟨5, [], .pointer (some ⟨b3, 0, none⟩)⟩, ⟨59, [], .bool false⟩]) [0] (by kernel_rfl) (j := 6) rfl ?_
            exact GL_yend (by kernel_rfl) (by kernel_rfl)
          refine GH_take (E' := [⟨71, [], .int .i64 30⟩, ⟨70, [], .int .i64 0⟩, ⟨69, [], .tuple #[.int .i64 0, .int .i64 30]⟩, ⟨68, [], .int .i64 p37.1⟩, ⟨67, [], .pointer (some ⟨b1, 0, none⟩)⟩, ⟨66, [], .agg #[.int .i64 p2.1, .int .i64 p6.1, .int .i64 p9.1, .int .i64 p12.1, .int .i64 p15.1, .int .i64 p18.1]⟩, ⟨65, [], .pointer (some ⟨b1, 0, none⟩)⟩, ⟨4, [], .pointer (some ⟨b1, 0, none⟩)⟩, ⟨5, [], .pointer (some ⟨b3, 0, none⟩)⟩, ⟨59, [], .bool false⟩]) 6 (by kernel_rfl) (by kernel_rfl) (by kernel_rfl) (by kernel_rfl) (by kernel_rfl) (fun w h => (((((((h.front (j := 6) rfl).front (j := 6) rfl).front (j := 6) rfl).front (j := 6) rfl).front (j := 6) rfl).front (j := 6) rfl).erase 6)) ?_ ?_
          ·
            refine GL_pure (E' := [⟨71, [], .int .i64 30⟩, ⟨70, [], .int .i64 0⟩, ⟨69, [], .tuple #[.int .i64 0, .int .i64 30]⟩, ⟨68, [], .int .i64 p37.1⟩, ⟨67, [], .pointer (some ⟨b1, 0, none⟩)⟩, ⟨66, [], .agg #[.int .i64 p2.1, .int .i64 p6.1, .int .i64 p9.1, .int .i64 p12.1, .int .i64 p15.1, .int .i64 p18.1]⟩, ⟨65, [], .pointer (some ⟨b1, 0, none⟩)⟩, ⟨4, [], .pointer (some ⟨b1, 0, none⟩)⟩, ⟨5, [], .pointer (some ⟨b3, 0, none⟩)⟩, ⟨59, [], .bool false⟩]) [0] (by kernel_rfl) (j := 7) rfl ?_
            exact GL_yend (by kernel_rfl) (by kernel_rfl)
          refine GH_take (E' := [⟨2, [], .int .i64 0⟩, ⟨71, [], .int .i64 30⟩, ⟨70, [], .int .i64 0⟩, ⟨69, [], .tuple #[.int .i64 0, .int .i64 30]⟩, ⟨68, [], .int .i64 p37.1⟩, ⟨67, [], .pointer (some ⟨b1, 0, none⟩)⟩, ⟨66, [], .agg #[.int .i64 p2.1, .int .i64 p6.1, .int .i64 p9.1, .int .i64 p12.1, .int .i64 p15.1, .int .i64 p18.1]⟩, ⟨65, [], .pointer (some ⟨b1, 0, none⟩)⟩, ⟨4, [], .pointer (some ⟨b1, 0, none⟩)⟩, ⟨5, [], .pointer (some ⟨b3, 0, none⟩)⟩, ⟨59, [], .bool false⟩]) 7 (by kernel_rfl) (by kernel_rfl) (by kernel_rfl) (by kernel_rfl) (by kernel_rfl) (fun w h => (((((((h.front (j := 6) rfl).front (j := 6) rfl).front (j := 6) rfl).front (j := 6) rfl).front (j := 6) rfl).front (j := 6) rfl).erase 6)) ?_ ?_
          ·
            refine GL_pure (E' := [⟨2, [], .int .i64 0⟩, ⟨71, [], .int .i64 30⟩, ⟨70, [], .int .i64 0⟩, ⟨69, [], .tuple #[.int .i64 0, .int .i64 30]⟩, ⟨68, [], .int .i64 p37.1⟩, ⟨67, [], .pointer (some ⟨b1, 0, none⟩)⟩, ⟨66, [], .agg #[.int .i64 p2.1, .int .i64 p6.1, .int .i64 p9.1, .int .i64 p12.1, .int .i64 p15.1, .int .i64 p18.1]⟩, ⟨65, [], .pointer (some ⟨b1, 0, none⟩)⟩, ⟨4, [], .pointer (some ⟨b1, 0, none⟩)⟩, ⟨5, [], .pointer (some ⟨b3, 0, none⟩)⟩, ⟨59, [], .bool false⟩]) [0] (by kernel_rfl) (j := 8) rfl ?_
            exact GL_yend (by kernel_rfl) (by kernel_rfl)
          refine GH_take (E' := [⟨3, [], .int .i64 30⟩, ⟨2, [], .int .i64 0⟩, ⟨71, [], .int .i64 30⟩, ⟨70, [], .int .i64 0⟩, ⟨69, [], .tuple #[.int .i64 0, .int .i64 30]⟩, ⟨68, [], .int .i64 p37.1⟩, ⟨67, [], .pointer (some ⟨b1, 0, none⟩)⟩, ⟨66, [], .agg #[.int .i64 p2.1, .int .i64 p6.1, .int .i64 p9.1, .int .i64 p12.1, .int .i64 p15.1, .int .i64 p18.1]⟩, ⟨65, [], .pointer (some ⟨b1, 0, none⟩)⟩, ⟨4, [], .pointer (some ⟨b1, 0, none⟩)⟩, ⟨5, [], .pointer (some ⟨b3, 0, none⟩)⟩, ⟨59, [], .bool false⟩]) 8 (by kernel_rfl) (by kernel_rfl) (by kernel_rfl) (by kernel_rfl) (by kernel_rfl) (fun w h => (((((((h.front (j := 6) rfl).front (j := 6) rfl).front (j := 6) rfl).front (j := 6) rfl).front (j := 6) rfl).front (j := 6) rfl).erase 6)) ?_ ?_
          ·
            refine GL_pure (E' := [⟨3, [], .int .i64 30⟩, ⟨2, [], .int .i64 0⟩, ⟨71, [], .int .i64 30⟩, ⟨70, [], .int .i64 0⟩, ⟨69, [], .tuple #[.int .i64 0, .int .i64 30]⟩, ⟨68, [], .int .i64 p37.1⟩, ⟨67, [], .pointer (some ⟨b1, 0, none⟩)⟩, ⟨66, [], .agg #[.int .i64 p2.1, .int .i64 p6.1, .int .i64 p9.1, .int .i64 p12.1, .int .i64 p15.1, .int .i64 p18.1]⟩, ⟨65, [], .pointer (some ⟨b1, 0, none⟩)⟩, ⟨4, [], .pointer (some ⟨b1, 0, none⟩)⟩, ⟨5, [], .pointer (some ⟨b3, 0, none⟩)⟩, ⟨59, [], .bool false⟩]) [0] (by kernel_rfl) (j := 9) rfl ?_
            exact GL_yend (by kernel_rfl) (by kernel_rfl)
          refine GH_done (E' := [⟨2, [], .int .i64 0⟩, ⟨3, [], .int .i64 30⟩]) [2, 3] (by kernel_rfl) (by kernel_rfl) ?_
          refine N_then ?_
          refine G_ret ?_
          refine N_heap (H' := ([(b1, .cells #[.string p37.2.s, .bool p37.2.bad] 40 (0, 0))] :: [(b16, .cells #[.string (ByteArray.mk #[58])] 9 (0, 0))] :: [(b13, .cells #[.string (ByteArray.mk #[58])] 9 (0, 0))] :: [(b10, .cells #[.string (ByteArray.mk #[84]), .string (ByteArray.mk #[116]), .string (ByteArray.mk #[32])] 9 (0, 0))] :: [(b7, .cells #[.string (ByteArray.mk #[45])] 9 (0, 0))] :: [(b4, .cells #[.string (ByteArray.mk #[45])] 9 (0, 0))] :: H)) (fun w h => h.erase 6) ?_
          refine N_heap (H' := ([(b1, .cells #[.string p37.2.s, .bool p37.2.bad] 40 (0, 0))] :: [(b16, .cells #[.string (ByteArray.mk #[58])] 9 (0, 0))] :: [(b13, .cells #[.string (ByteArray.mk #[58])] 9 (0, 0))] :: [(b10, .cells #[.string (ByteArray.mk #[84]), .string (ByteArray.mk #[116]), .string (ByteArray.mk #[32])] 9 (0, 0))] :: [(b7, .cells #[.string (ByteArray.mk #[45])] 9 (0, 0))] :: H)) (fun w h => h.erase 5) ?_
          refine N_heap (H' := ([(b1, .cells #[.string p37.2.s, .bool p37.2.bad] 40 (0, 0))] :: [(b16, .cells #[.string (ByteArray.mk #[58])] 9 (0, 0))] :: [(b13, .cells #[.string (ByteArray.mk #[58])] 9 (0, 0))] :: [(b10, .cells #[.string (ByteArray.mk #[84]), .string (ByteArray.mk #[116]), .string (ByteArray.mk #[32])] 9 (0, 0))] :: H)) (fun w h => h.erase 4) ?_
          refine N_heap (H' := ([(b1, .cells #[.string p37.2.s, .bool p37.2.bad] 40 (0, 0))] :: [(b16, .cells #[.string (ByteArray.mk #[58])] 9 (0, 0))] :: [(b13, .cells #[.string (ByteArray.mk #[58])] 9 (0, 0))] :: H)) (fun w h => h.erase 3) ?_
          refine N_heap (H' := ([(b1, .cells #[.string p37.2.s, .bool p37.2.bad] 40 (0, 0))] :: [(b16, .cells #[.string (ByteArray.mk #[58])] 9 (0, 0))] :: H)) (fun w h => h.erase 2) ?_
          refine N_heap (H' := ([(b1, .cells #[.string p37.2.s, .bool p37.2.bad] 40 (0, 0))] :: H)) (fun w h => h.erase 1) ?_
          refine N_heap (H' := H) (fun w h => h.erase 0) ?_
          refine N_ret [.tmp 2, .tmp 3] [.int .i64 0, .int .i64 30] rfl (by kernel_rfl) rfl ?_
          exact errR (t := none) (by simp only [atomM, headM, fracM, zedM, ← hp2, ← hp5, ← hp6, ← hp8, ← hp9, ← hp11, ← hp12, ← hp14, ← hp15, ← hp17, ← hp18, ← hp19, ← hp32, ← hp33, ← hp35, ← hp37, hb20, hb34, hb36, cond_false, cond_true, he38]) rfl
        ·
          refine GH_back (by kernel_rfl) (fun w h => (((((((h.front (j := 6) rfl).front (j := 6) rfl).front (j := 6) rfl).front (j := 6) rfl).front (j := 6) rfl).front (j := 6) rfl).erase 6)) ?_
          refine GH_take (E' := [⟨70, [], .int .i64 t39⟩, ⟨69, [], .tuple #[.int .i64 t39, .int .i64 0]⟩, ⟨68, [], .int .i64 p37.1⟩, ⟨67, [], .pointer (some ⟨b1, 0, none⟩)⟩, ⟨66, [], .agg #[.int .i64 p2.1, .int .i64 p6.1, .int .i64 p9.1, .int .i64 p12.1, .int .i64 p15.1, .int .i64 p18.1]⟩, ⟨65, [], .pointer (some ⟨b1, 0, none⟩)⟩, ⟨4, [], .pointer (some ⟨b1, 0, none⟩)⟩, ⟨5, [], .pointer (some ⟨b3, 0, none⟩)⟩, ⟨59, [], .bool false⟩]) 5 (by kernel_rfl) (by kernel_rfl) (by kernel_rfl) (by kernel_rfl) (by kernel_rfl) (fun w h => (((((((h.front (j := 6) rfl).front (j := 6) rfl).front (j := 6) rfl).front (j := 6) rfl).front (j := 6) rfl).front (j := 6) rfl).erase 6)) ?_ ?_
          ·
            refine GL_pure (E' := [⟨70, [], .int .i64 t39⟩, ⟨69, [], .tuple #[.int .i64 t39, .int .i64 0]⟩, ⟨68, [], .int .i64 p37.1⟩, ⟨67, [], .pointer (some ⟨b1, 0, none⟩)⟩, ⟨66, [], .agg #[.int .i64 p2.1, .int .i64 p6.1, .int .i64 p9.1, .int .i64 p12.1, .int .i64 p15.1, .int .i64 p18.1]⟩, ⟨65, [], .pointer (some ⟨b1, 0, none⟩)⟩, ⟨4, [], .pointer (some ⟨b1, 0, none⟩)⟩, ⟨5, [], .pointer (some ⟨b3, 0, none⟩)⟩, ⟨59, [], .bool false⟩]) [0] (by kernel_rfl) (j := 6) rfl ?_
            exact GL_yend (by kernel_rfl) (by kernel_rfl)
          refine GH_take (E' := [⟨71, [], .int .i64 0⟩, ⟨70, [], .int .i64 t39⟩, ⟨69, [], .tuple #[.int .i64 t39, .int .i64 0]⟩, ⟨68, [], .int .i64 p37.1⟩, ⟨67, [], .pointer (some ⟨b1, 0, none⟩)⟩, ⟨66, [], .agg #[.int .i64 p2.1, .int .i64 p6.1, .int .i64 p9.1, .int .i64 p12.1, .int .i64 p15.1, .int .i64 p18.1]⟩, ⟨65, [], .pointer (some ⟨b1, 0, none⟩)⟩, ⟨4, [], .pointer (some ⟨b1, 0, none⟩)⟩, ⟨5, [], .pointer (some ⟨b3, 0, none⟩)⟩, ⟨59, [], .bool false⟩]) 6 (by kernel_rfl) (by kernel_rfl) (by kernel_rfl) (by kernel_rfl) (by kernel_rfl) (fun w h => (((((((h.front (j := 6) rfl).front (j := 6) rfl).front (j := 6) rfl).front (j := 6) rfl).front (j := 6) rfl).front (j := 6) rfl).erase 6)) ?_ ?_
          ·
            refine GL_pure (E' := [⟨71, [], .int .i64 0⟩, ⟨70, [], .int .i64 t39⟩, ⟨69, [], .tuple #[.int .i64 t39, .int .i64 0]⟩, ⟨68, [], .int .i64 p37.1⟩, ⟨67, [], .pointer (some ⟨b1, 0, none⟩)⟩, ⟨66, [], .agg #[.int .i64 p2.1, .int .i64 p6.1, .int .i64 p9.1, .int .i64 p12.1, .int .i64 p15.1, .int .i64 p18.1]⟩, ⟨65, [], .pointer (some ⟨b1, 0, none⟩)⟩, ⟨4, [], .pointer (some ⟨b1, 0, none⟩)⟩, ⟨5, [], .pointer (some ⟨b3, 0, none⟩)⟩, ⟨59, [], .bool false⟩]) [0] (by kernel_rfl) (j := 7) rfl ?_
            exact GL_yend (by kernel_rfl) (by kernel_rfl)
          refine GH_take (E' := [⟨2, [], .int .i64 t39⟩, ⟨71, [], .int .i64 0⟩, ⟨70, [], .int .i64 t39⟩, ⟨69, [], .tuple #[.int .i64 t39, .int .i64 0]⟩, ⟨68, [], .int .i64 p37.1⟩, ⟨67, [], .pointer (some ⟨b1, 0, none⟩)⟩, ⟨66, [], .agg #[.int .i64 p2.1, .int .i64 p6.1, .int .i64 p9.1, .int .i64 p12.1, .int .i64 p15.1, .int .i64 p18.1]⟩, ⟨65, [], .pointer (some ⟨b1, 0, none⟩)⟩, ⟨4, [], .pointer (some ⟨b1, 0, none⟩)⟩, ⟨5, [], .pointer (some ⟨b3, 0, none⟩)⟩, ⟨59, [], .bool false⟩]) 7 (by kernel_rfl) (by kernel_rfl) (by kernel_rfl) (by kernel_rfl) (by kernel_rfl) (fun w h => (((((((h.front (j := 6) rfl).front (j := 6) rfl).front (j := 6) rfl).front (j := 6) rfl).front (j := 6) rfl).front (j := 6) rfl).erase 6)) ?_ ?_
          ·
            refine GL_pure (E' := [⟨2, [], .int .i64 t39⟩, ⟨71, [], .int .i64 0⟩, ⟨70, [], .int .i64 t39⟩, ⟨69, [], .tuple #[.int .i64 t39, .int .i64 0]⟩, ⟨68, [], .int .i64 p37.1⟩, ⟨67, [], .pointer (some ⟨b1, 0, none⟩)⟩, ⟨66, [], .agg #[.int .i64 p2.1, .int .i64 p6.1, .int .i64 p9.1, .int .i64 p12.1, .int .i64 p15.1, .int .i64 p18.1]⟩, ⟨65, [], .pointer (some ⟨b1, 0, none⟩)⟩, ⟨4, [], .pointer (some ⟨b1, 0, none⟩)⟩, ⟨5, [], .pointer (some ⟨b3, 0, none⟩)⟩, ⟨59, [], .bool false⟩]) [0] (by kernel_rfl) (j := 8) rfl ?_
            exact GL_yend (by kernel_rfl) (by kernel_rfl)
          refine GH_take (E' := [⟨3, [], .int .i64 0⟩, ⟨2, [], .int .i64 t39⟩, ⟨71, [], .int .i64 0⟩, ⟨70, [], .int .i64 t39⟩, ⟨69, [], .tuple #[.int .i64 t39, .int .i64 0]⟩, ⟨68, [], .int .i64 p37.1⟩, ⟨67, [], .pointer (some ⟨b1, 0, none⟩)⟩, ⟨66, [], .agg #[.int .i64 p2.1, .int .i64 p6.1, .int .i64 p9.1, .int .i64 p12.1, .int .i64 p15.1, .int .i64 p18.1]⟩, ⟨65, [], .pointer (some ⟨b1, 0, none⟩)⟩, ⟨4, [], .pointer (some ⟨b1, 0, none⟩)⟩, ⟨5, [], .pointer (some ⟨b3, 0, none⟩)⟩, ⟨59, [], .bool false⟩]) 8 (by kernel_rfl) (by kernel_rfl) (by kernel_rfl) (by kernel_rfl) (by kernel_rfl) (fun w h => (((((((h.front (j := 6) rfl).front (j := 6) rfl).front (j := 6) rfl).front (j := 6) rfl).front (j := 6) rfl).front (j := 6) rfl).erase 6)) ?_ ?_
          ·
            refine GL_pure (E' := [⟨3, [], .int .i64 0⟩, ⟨2, [], .int .i64 t39⟩, ⟨71, [], .int .i64 0⟩, ⟨70, [], .int .i64 t39⟩, ⟨69, [], .tuple #[.int .i64 t39, .int .i64 0]⟩, ⟨68, [], .int .i64 p37.1⟩, ⟨67, [], .pointer (some ⟨b1, 0, none⟩)⟩, ⟨66, [], .agg #[.int .i64 p2.1, .int .i64 p6.1, .int .i64 p9.1, .int .i64 p12.1, .int .i64 p15.1, .int .i64 p18.1]⟩, ⟨65, [], .pointer (some ⟨b1, 0, none⟩)⟩, ⟨4, [], .pointer (some ⟨b1, 0, none⟩)⟩, ⟨5, [], .pointer (some ⟨b3, 0, none⟩)⟩, ⟨59, [], .bool false⟩]) [0] (by kernel_rfl) (j := 9) rfl ?_
            exact GL_yend (by kernel_rfl) (by kernel_rfl)
          refine GH_done (E' := [⟨2, [], .int .i64 t39⟩, ⟨3, [], .int .i64 0⟩]) [2, 3] (by kernel_rfl) (by kernel_rfl) ?_
          refine N_then ?_
          refine G_ret ?_
          refine N_heap (H' := ([(b1, .cells #[.string p37.2.s, .bool p37.2.bad] 40 (0, 0))] :: [(b16, .cells #[.string (ByteArray.mk #[58])] 9 (0, 0))] :: [(b13, .cells #[.string (ByteArray.mk #[58])] 9 (0, 0))] :: [(b10, .cells #[.string (ByteArray.mk #[84]), .string (ByteArray.mk #[116]), .string (ByteArray.mk #[32])] 9 (0, 0))] :: [(b7, .cells #[.string (ByteArray.mk #[45])] 9 (0, 0))] :: [(b4, .cells #[.string (ByteArray.mk #[45])] 9 (0, 0))] :: H)) (fun w h => h.erase 6) ?_
          refine N_heap (H' := ([(b1, .cells #[.string p37.2.s, .bool p37.2.bad] 40 (0, 0))] :: [(b16, .cells #[.string (ByteArray.mk #[58])] 9 (0, 0))] :: [(b13, .cells #[.string (ByteArray.mk #[58])] 9 (0, 0))] :: [(b10, .cells #[.string (ByteArray.mk #[84]), .string (ByteArray.mk #[116]), .string (ByteArray.mk #[32])] 9 (0, 0))] :: [(b7, .cells #[.string (ByteArray.mk #[45])] 9 (0, 0))] :: H)) (fun w h => h.erase 5) ?_
          refine N_heap (H' := ([(b1, .cells #[.string p37.2.s, .bool p37.2.bad] 40 (0, 0))] :: [(b16, .cells #[.string (ByteArray.mk #[58])] 9 (0, 0))] :: [(b13, .cells #[.string (ByteArray.mk #[58])] 9 (0, 0))] :: [(b10, .cells #[.string (ByteArray.mk #[84]), .string (ByteArray.mk #[116]), .string (ByteArray.mk #[32])] 9 (0, 0))] :: H)) (fun w h => h.erase 4) ?_
          refine N_heap (H' := ([(b1, .cells #[.string p37.2.s, .bool p37.2.bad] 40 (0, 0))] :: [(b16, .cells #[.string (ByteArray.mk #[58])] 9 (0, 0))] :: [(b13, .cells #[.string (ByteArray.mk #[58])] 9 (0, 0))] :: H)) (fun w h => h.erase 3) ?_
          refine N_heap (H' := ([(b1, .cells #[.string p37.2.s, .bool p37.2.bad] 40 (0, 0))] :: [(b16, .cells #[.string (ByteArray.mk #[58])] 9 (0, 0))] :: H)) (fun w h => h.erase 2) ?_
          refine N_heap (H' := ([(b1, .cells #[.string p37.2.s, .bool p37.2.bad] 40 (0, 0))] :: H)) (fun w h => h.erase 1) ?_
          refine N_heap (H' := H) (fun w h => h.erase 0) ?_
          refine N_ret [.tmp 2, .tmp 3] [.int .i64 t39, .int .i64 0] rfl (by kernel_rfl) rfl ?_
          exact errR (t := (some t39)) (by simp only [atomM, headM, fracM, zedM, ← hp2, ← hp5, ← hp6, ← hp8, ← hp9, ← hp11, ← hp12, ← hp14, ← hp15, ← hp17, ← hp18, ← hp19, ← hp32, ← hp33, ← hp35, ← hp37, hb20, hb34, hb36, cond_false, cond_true, he38]) rfl
      ·
        -- hb36 true
        refine GL_fin (E' := [⟨4, [], .pointer (some ⟨b1, 0, none⟩)⟩, ⟨5, [], .pointer (some ⟨b3, 0, none⟩)⟩, ⟨59, [], .bool true⟩]) [3] [4, 5, 59] rfl (by kernel_rfl) ?_
        refine N_then ?_
        refine G_condt (by kernel_rfl) ?_
        refine G_seq ?_
        refine G_region ?_
        refine GL_pure (E' := [⟨60, [], .pointer (some ⟨b1, 0, none⟩)⟩, ⟨4, [], .pointer (some ⟨b1, 0, none⟩)⟩, ⟨5, [], .pointer (some ⟨b3, 0, none⟩)⟩, ⟨59, [], .bool true⟩]) [0] (by kernel_rfl) (j := 1) rfl ?_
        refine GL_loadA (i := 1) (ch := []) (b := b3) (off := 0) (l := [.int .i64 p2.1, .int .i64 p6.1, .int .i64 p9.1, .int .i64 p12.1, .int .i64 p15.1, .int .i64 p18.1]) rfl rfl (by kernel_rfl) (by kernel_rfl) (by kernel_rfl) (by kernel_rfl) (by kernel_rfl) (by kernel_rfl) (At.grp 6 0 rfl rfl) (by kernel_rfl) ?_
        refine GL_call (i := 2) (ch := []) (f := 21) (fst := #[]) (caps := #[]) (vs := [.pointer (some ⟨b1, 0, none⟩), .agg #[.int .i64 p2.1, .int .i64 p6.1, .int .i64 p9.1, .int .i64 p12.1, .int .i64 p15.1, .int .i64 p18.1], .int .i64 0]) rfl rfl rfl (by kernel_rfl) (by kernel_rfl) Tryz.func21 rfl rfl (by kernel_rfl) (by kernel_rfl) (chSure_of (by kernel_rfl)) (end_ b1 p35.2 p2.1 p6.1 p9.1 p12.1 p15.1 p18.1 0 (by omega) (by omega) (by omega) (by omega) (by omega) (by omega) (by first | omega | exact zoneM_bd (by omega) (by omega)) _ _) ?_
        rintro v H' ⟨rfl, rfl⟩
        rcases he40 : endM p35.2 (timeM p2.1 p6.1 p9.1 p12.1 p15.1 p18.1 0) with _ | t41
        ·
          refine GL_fin (E' := [⟨2, [], .int .i64 0⟩, ⟨3, [], .int .i64 30⟩]) [0, 0, 0, 0] [2, 3] rfl (by kernel_rfl) ?_
          refine N_then ?_
          refine G_ret ?_
          refine N_then_ret ?_
          refine N_heap (H' := ([(b1, .cells #[.string p35.2.s, .bool p35.2.bad] 40 (0, 0))] :: [(b16, .cells #[.string (ByteArray.mk #[58])] 9 (0, 0))] :: [(b13, .cells #[.string (ByteArray.mk #[58])] 9 (0, 0))] :: [(b10, .cells #[.string (ByteArray.mk #[84]), .string (ByteArray.mk #[116]), .string (ByteArray.mk #[32])] 9 (0, 0))] :: [(b7, .cells #[.string (ByteArray.mk #[45])] 9 (0, 0))] :: [(b4, .cells #[.string (ByteArray.mk #[45])] 9 (0, 0))] :: H)) (fun w h => h.erase 6) ?_
          refine N_heap (H' := ([(b1, .cells #[.string p35.2.s, .bool p35.2.bad] 40 (0, 0))] :: [(b16, .cells #[.string (ByteArray.mk #[58])] 9 (0, 0))] :: [(b13, .cells #[.string (ByteArray.mk #[58])] 9 (0, 0))] :: [(b10, .cells #[.string (ByteArray.mk #[84]), .string (ByteArray.mk #[116]), .string (ByteArray.mk #[32])] 9 (0, 0))] :: [(b7, .cells #[.string (ByteArray.mk #[45])] 9 (0, 0))] :: H)) (fun w h => h.erase 5) ?_
          refine N_heap (H' := ([(b1, .cells #[.string p35.2.s, .bool p35.2.bad] 40 (0, 0))] :: [(b16, .cells #[.string (ByteArray.mk #[58])] 9 (0, 0))] :: [(b13, .cells #[.string (ByteArray.mk #[58])] 9 (0, 0))] :: [(b10, .cells #[.string (ByteArray.mk #[84]), .string (ByteArray.mk #[116]), .string (ByteArray.mk #[32])] 9 (0, 0))] :: H)) (fun w h => h.erase 4) ?_
          refine N_heap (H' := ([(b1, .cells #[.string p35.2.s, .bool p35.2.bad] 40 (0, 0))] :: [(b16, .cells #[.string (ByteArray.mk #[58])] 9 (0, 0))] :: [(b13, .cells #[.string (ByteArray.mk #[58])] 9 (0, 0))] :: H)) (fun w h => h.erase 3) ?_
          refine N_heap (H' := ([(b1, .cells #[.string p35.2.s, .bool p35.2.bad] 40 (0, 0))] :: [(b16, .cells #[.string (ByteArray.mk #[58])] 9 (0, 0))] :: H)) (fun w h => h.erase 2) ?_
          refine N_heap (H' := ([(b1, .cells #[.string p35.2.s, .bool p35.2.bad] 40 (0, 0))] :: H)) (fun w h => h.erase 1) ?_
          refine N_heap (H' := H) (fun w h => h.erase 0) ?_
          refine N_ret [.tmp 2, .tmp 3] [.int .i64 0, .int .i64 30] rfl (by kernel_rfl) rfl ?_
          exact errR (t := none) (by simp only [atomM, headM, fracM, zedM, ← hp2, ← hp5, ← hp6, ← hp8, ← hp9, ← hp11, ← hp12, ← hp14, ← hp15, ← hp17, ← hp18, ← hp19, ← hp32, ← hp33, ← hp35, hb20, hb34, hb36, cond_false, cond_true, he40]) rfl
        ·
          refine GL_fin (E' := [⟨2, [], .int .i64 t41⟩, ⟨3, [], .int .i64 0⟩]) [0, 0, 0, 0] [2, 3] rfl (by kernel_rfl) ?_
          refine N_then ?_
          refine G_ret ?_
          refine N_then_ret ?_
          refine N_heap (H' := ([(b1, .cells #[.string p35.2.s, .bool p35.2.bad] 40 (0, 0))] :: [(b16, .cells #[.string (ByteArray.mk #[58])] 9 (0, 0))] :: [(b13, .cells #[.string (ByteArray.mk #[58])] 9 (0, 0))] :: [(b10, .cells #[.string (ByteArray.mk #[84]), .string (ByteArray.mk #[116]), .string (ByteArray.mk #[32])] 9 (0, 0))] :: [(b7, .cells #[.string (ByteArray.mk #[45])] 9 (0, 0))] :: [(b4, .cells #[.string (ByteArray.mk #[45])] 9 (0, 0))] :: H)) (fun w h => h.erase 6) ?_
          refine N_heap (H' := ([(b1, .cells #[.string p35.2.s, .bool p35.2.bad] 40 (0, 0))] :: [(b16, .cells #[.string (ByteArray.mk #[58])] 9 (0, 0))] :: [(b13, .cells #[.string (ByteArray.mk #[58])] 9 (0, 0))] :: [(b10, .cells #[.string (ByteArray.mk #[84]), .string (ByteArray.mk #[116]), .string (ByteArray.mk #[32])] 9 (0, 0))] :: [(b7, .cells #[.string (ByteArray.mk #[45])] 9 (0, 0))] :: H)) (fun w h => h.erase 5) ?_
          refine N_heap (H' := ([(b1, .cells #[.string p35.2.s, .bool p35.2.bad] 40 (0, 0))] :: [(b16, .cells #[.string (ByteArray.mk #[58])] 9 (0, 0))] :: [(b13, .cells #[.string (ByteArray.mk #[58])] 9 (0, 0))] :: [(b10, .cells #[.string (ByteArray.mk #[84]), .string (ByteArray.mk #[116]), .string (ByteArray.mk #[32])] 9 (0, 0))] :: H)) (fun w h => h.erase 4) ?_
          refine N_heap (H' := ([(b1, .cells #[.string p35.2.s, .bool p35.2.bad] 40 (0, 0))] :: [(b16, .cells #[.string (ByteArray.mk #[58])] 9 (0, 0))] :: [(b13, .cells #[.string (ByteArray.mk #[58])] 9 (0, 0))] :: H)) (fun w h => h.erase 3) ?_
          refine N_heap (H' := ([(b1, .cells #[.string p35.2.s, .bool p35.2.bad] 40 (0, 0))] :: [(b16, .cells #[.string (ByteArray.mk #[58])] 9 (0, 0))] :: H)) (fun w h => h.erase 2) ?_
          refine N_heap (H' := ([(b1, .cells #[.string p35.2.s, .bool p35.2.bad] 40 (0, 0))] :: H)) (fun w h => h.erase 1) ?_
          refine N_heap (H' := H) (fun w h => h.erase 0) ?_
          refine N_ret [.tmp 2, .tmp 3] [.int .i64 t41, .int .i64 0] rfl (by kernel_rfl) rfl ?_
          exact errR (t := (some t41)) (by simp only [atomM, headM, fracM, zedM, ← hp2, ← hp5, ← hp6, ← hp8, ← hp9, ← hp11, ← hp12, ← hp14, ← hp15, ← hp17, ← hp18, ← hp19, ← hp32, ← hp33, ← hp35, hb20, hb34, hb36, cond_false, cond_true, he40]) rfl
    ·
      -- hb34 true
      refine GL_fin (E' := [⟨4, [], .pointer (some ⟨b1, 0, none⟩)⟩, ⟨5, [], .pointer (some ⟨b3, 0, none⟩)⟩, ⟨59, [], .bool true⟩]) [0, 1, 1, 2] [4, 5, 59] rfl (by kernel_rfl) ?_
      refine N_then ?_
      refine G_condt (by kernel_rfl) ?_
      refine G_seq ?_
      refine G_region ?_
      refine GL_pure (E' := [⟨60, [], .pointer (some ⟨b1, 0, none⟩)⟩, ⟨4, [], .pointer (some ⟨b1, 0, none⟩)⟩, ⟨5, [], .pointer (some ⟨b3, 0, none⟩)⟩, ⟨59, [], .bool true⟩]) [0] (by kernel_rfl) (j := 1) rfl ?_
      refine GL_loadA (i := 1) (ch := []) (b := b3) (off := 0) (l := [.int .i64 p2.1, .int .i64 p6.1, .int .i64 p9.1, .int .i64 p12.1, .int .i64 p15.1, .int .i64 p18.1]) rfl rfl (by kernel_rfl) (by kernel_rfl) (by kernel_rfl) (by kernel_rfl) (by kernel_rfl) (by kernel_rfl) (At.grp 6 0 rfl rfl) (by kernel_rfl) ?_
      refine GL_call (i := 2) (ch := []) (f := 21) (fst := #[]) (caps := #[]) (vs := [.pointer (some ⟨b1, 0, none⟩), .agg #[.int .i64 p2.1, .int .i64 p6.1, .int .i64 p9.1, .int .i64 p12.1, .int .i64 p15.1, .int .i64 p18.1], .int .i64 0]) rfl rfl rfl (by kernel_rfl) (by kernel_rfl) Tryz.func21 rfl rfl (by kernel_rfl) (by kernel_rfl) (chSure_of (by kernel_rfl)) (end_ b1 p33.2 p2.1 p6.1 p9.1 p12.1 p15.1 p18.1 0 (by omega) (by omega) (by omega) (by omega) (by omega) (by omega) (by first | omega | exact zoneM_bd (by omega) (by omega)) _ _) ?_
      rintro v H' ⟨rfl, rfl⟩
      rcases he42 : endM p33.2 (timeM p2.1 p6.1 p9.1 p12.1 p15.1 p18.1 0) with _ | t43
      ·
        refine GL_fin (E' := [⟨2, [], .int .i64 0⟩, ⟨3, [], .int .i64 30⟩]) [0, 0, 0, 0] [2, 3] rfl (by kernel_rfl) ?_
        refine N_then ?_
        refine G_ret ?_
        refine N_then_ret ?_
        refine N_heap (H' := ([(b1, .cells #[.string p33.2.s, .bool p33.2.bad] 40 (0, 0))] :: [(b16, .cells #[.string (ByteArray.mk #[58])] 9 (0, 0))] :: [(b13, .cells #[.string (ByteArray.mk #[58])] 9 (0, 0))] :: [(b10, .cells #[.string (ByteArray.mk #[84]), .string (ByteArray.mk #[116]), .string (ByteArray.mk #[32])] 9 (0, 0))] :: [(b7, .cells #[.string (ByteArray.mk #[45])] 9 (0, 0))] :: [(b4, .cells #[.string (ByteArray.mk #[45])] 9 (0, 0))] :: H)) (fun w h => h.erase 6) ?_
        refine N_heap (H' := ([(b1, .cells #[.string p33.2.s, .bool p33.2.bad] 40 (0, 0))] :: [(b16, .cells #[.string (ByteArray.mk #[58])] 9 (0, 0))] :: [(b13, .cells #[.string (ByteArray.mk #[58])] 9 (0, 0))] :: [(b10, .cells #[.string (ByteArray.mk #[84]), .string (ByteArray.mk #[116]), .string (ByteArray.mk #[32])] 9 (0, 0))] :: [(b7, .cells #[.string (ByteArray.mk #[45])] 9 (0, 0))] :: H)) (fun w h => h.erase 5) ?_
        refine N_heap (H' := ([(b1, .cells #[.string p33.2.s, .bool p33.2.bad] 40 (0, 0))] :: [(b16, .cells #[.string (ByteArray.mk #[58])] 9 (0, 0))] :: [(b13, .cells #[.string (ByteArray.mk #[58])] 9 (0, 0))] :: [(b10, .cells #[.string (ByteArray.mk #[84]), .string (ByteArray.mk #[116]), .string (ByteArray.mk #[32])] 9 (0, 0))] :: H)) (fun w h => h.erase 4) ?_
        refine N_heap (H' := ([(b1, .cells #[.string p33.2.s, .bool p33.2.bad] 40 (0, 0))] :: [(b16, .cells #[.string (ByteArray.mk #[58])] 9 (0, 0))] :: [(b13, .cells #[.string (ByteArray.mk #[58])] 9 (0, 0))] :: H)) (fun w h => h.erase 3) ?_
        refine N_heap (H' := ([(b1, .cells #[.string p33.2.s, .bool p33.2.bad] 40 (0, 0))] :: [(b16, .cells #[.string (ByteArray.mk #[58])] 9 (0, 0))] :: H)) (fun w h => h.erase 2) ?_
        refine N_heap (H' := ([(b1, .cells #[.string p33.2.s, .bool p33.2.bad] 40 (0, 0))] :: H)) (fun w h => h.erase 1) ?_
        refine N_heap (H' := H) (fun w h => h.erase 0) ?_
        refine N_ret [.tmp 2, .tmp 3] [.int .i64 0, .int .i64 30] rfl (by kernel_rfl) rfl ?_
        exact errR (t := none) (by simp only [atomM, headM, fracM, zedM, ← hp2, ← hp5, ← hp6, ← hp8, ← hp9, ← hp11, ← hp12, ← hp14, ← hp15, ← hp17, ← hp18, ← hp19, ← hp32, ← hp33, hb20, hb34, cond_true, he42]) rfl
      ·
        refine GL_fin (E' := [⟨2, [], .int .i64 t43⟩, ⟨3, [], .int .i64 0⟩]) [0, 0, 0, 0] [2, 3] rfl (by kernel_rfl) ?_
        refine N_then ?_
        refine G_ret ?_
        refine N_then_ret ?_
        refine N_heap (H' := ([(b1, .cells #[.string p33.2.s, .bool p33.2.bad] 40 (0, 0))] :: [(b16, .cells #[.string (ByteArray.mk #[58])] 9 (0, 0))] :: [(b13, .cells #[.string (ByteArray.mk #[58])] 9 (0, 0))] :: [(b10, .cells #[.string (ByteArray.mk #[84]), .string (ByteArray.mk #[116]), .string (ByteArray.mk #[32])] 9 (0, 0))] :: [(b7, .cells #[.string (ByteArray.mk #[45])] 9 (0, 0))] :: [(b4, .cells #[.string (ByteArray.mk #[45])] 9 (0, 0))] :: H)) (fun w h => h.erase 6) ?_
        refine N_heap (H' := ([(b1, .cells #[.string p33.2.s, .bool p33.2.bad] 40 (0, 0))] :: [(b16, .cells #[.string (ByteArray.mk #[58])] 9 (0, 0))] :: [(b13, .cells #[.string (ByteArray.mk #[58])] 9 (0, 0))] :: [(b10, .cells #[.string (ByteArray.mk #[84]), .string (ByteArray.mk #[116]), .string (ByteArray.mk #[32])] 9 (0, 0))] :: [(b7, .cells #[.string (ByteArray.mk #[45])] 9 (0, 0))] :: H)) (fun w h => h.erase 5) ?_
        refine N_heap (H' := ([(b1, .cells #[.string p33.2.s, .bool p33.2.bad] 40 (0, 0))] :: [(b16, .cells #[.string (ByteArray.mk #[58])] 9 (0, 0))] :: [(b13, .cells #[.string (ByteArray.mk #[58])] 9 (0, 0))] :: [(b10, .cells #[.string (ByteArray.mk #[84]), .string (ByteArray.mk #[116]), .string (ByteArray.mk #[32])] 9 (0, 0))] :: H)) (fun w h => h.erase 4) ?_
        refine N_heap (H' := ([(b1, .cells #[.string p33.2.s, .bool p33.2.bad] 40 (0, 0))] :: [(b16, .cells #[.string (ByteArray.mk #[58])] 9 (0, 0))] :: [(b13, .cells #[.string (ByteArray.mk #[58])] 9 (0, 0))] :: H)) (fun w h => h.erase 3) ?_
        refine N_heap (H' := ([(b1, .cells #[.string p33.2.s, .bool p33.2.bad] 40 (0, 0))] :: [(b16, .cells #[.string (ByteArray.mk #[58])] 9 (0, 0))] :: H)) (fun w h => h.erase 2) ?_
        refine N_heap (H' := ([(b1, .cells #[.string p33.2.s, .bool p33.2.bad] 40 (0, 0))] :: H)) (fun w h => h.erase 1) ?_
        refine N_heap (H' := H) (fun w h => h.erase 0) ?_
        refine N_ret [.tmp 2, .tmp 3] [.int .i64 t43, .int .i64 0] rfl (by kernel_rfl) rfl ?_
        exact errR (t := (some t43)) (by simp only [atomM, headM, fracM, zedM, ← hp2, ← hp5, ← hp6, ← hp8, ← hp9, ← hp11, ← hp12, ← hp14, ← hp15, ← hp17, ← hp18, ← hp19, ← hp32, ← hp33, hb20, hb34, cond_true, he42]) rfl

end Go.Proofs.YtlglmomimhbeaaaGreatDoor
