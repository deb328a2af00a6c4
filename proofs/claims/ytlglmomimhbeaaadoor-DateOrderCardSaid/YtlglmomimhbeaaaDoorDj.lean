/- The walk of the law on the order of times. The table of powers lies as laid. -/
import Derived.Test.YtlglmomimhbeaaaDoorDi
import Derived.Test.YtlglmomimhbeaaaDoorOrder
namespace Go.Proofs.YtlglmomimhbeaaaDoor
open Go.Sw Go.Lib Go.Cal Go.Scn


theorem dateOrder_ (t u : Int) (W0 : World) (hT : Tab W0) (H : List Grp) : Tri Tryd.prog 6 #[.int .i64 t, .int .i64 u] W0 H (fun v H' => v = .bool true ∧ H' = H) := by
  have hcb := clamp_bd t
  have hz1 := (print_cut (clampT t)).2.2
  have hz2 := (print_cut (clampT t + 86400)).2.2
  refine Tri_of (args := [.int .i64 t, .int .i64 u]) (n := 70) Tryd.func6 rfl rfl (Nat.le_of_ble_eq_true rfl) ?_
  refine G_seq ?_
  refine G_pure (E' := [⟨0, [], .int .i64 t⟩, ⟨1, [], .int .i64 u⟩]) [0] [0, 1] rfl (by kernel_rfl) ?_
  refine N_then ?_
  refine G_seq ?_
  refine G_seq ?_
  refine G_region ?_
  refine GL_callQ (i := 0) (ch := []) (f := 7) (fst := #[]) (caps := #[]) (vs := []) (v := .bool true) rfl rfl rfl (by kernel_rfl) (by kernel_rfl) Tryd.func7 rfl rfl (by kernel_rfl) (by kernel_rfl) (by kernel_rfl) (fun _ => first_ _ hT _) ?_
  refine GL_fin (E' := [⟨0, [], .int .i64 t⟩, ⟨1, [], .int .i64 u⟩, ⟨10, [], .bool false⟩]) [0] [0, 1, 10] rfl (by kernel_rfl) ?_
  refine N_then ?_
  refine G_condf (by kernel_rfl) ?_
  refine G_skip ?_
  refine N_then ?_
  refine G_seq ?_
  refine G_region ?_
  refine GL_callQ (i := 0) (ch := []) (f := 10) (fst := #[]) (caps := #[]) (vs := []) (v := .int .i64 (-62135596800)) rfl rfl rfl (by kernel_rfl) (by kernel_rfl) Tryd.func10 rfl rfl (by kernel_rfl) (by kernel_rfl) (by kernel_rfl) (fun _ => refLow _ _) ?_
  refine GL_callQ (i := 1) (ch := []) (f := 11) (fst := #[]) (caps := #[]) (vs := []) (v := .int .i64 253402300799) rfl rfl rfl (by kernel_rfl) (by kernel_rfl) Tryd.func11 rfl rfl (by kernel_rfl) (by kernel_rfl) (by kernel_rfl) (fun _ => refHigh _ _) ?_
  refine GL_pure (E' := [⟨15, [], .int .i64 (if (if t < 253402300799 then t else 253402300799) > (-62135596800) then (if t < 253402300799 then t else 253402300799) else (-62135596800))⟩, ⟨14, [], .int .i64 (if t < 253402300799 then t else 253402300799)⟩, ⟨13, [], .int .i64 t⟩, ⟨12, [], .int .i64 253402300799⟩, ⟨11, [], .int .i64 (-62135596800)⟩, ⟨0, [], .int .i64 t⟩, ⟨1, [], .int .i64 u⟩, ⟨10, [], .bool false⟩]) [0, 0, 0] (by kernel_rfl) (j := 5) rfl ?_
  refine GL_callQ (i := 5) (ch := []) (f := 10) (fst := #[]) (caps := #[]) (vs := []) (v := .int .i64 (-62135596800)) rfl rfl rfl (by kernel_rfl) (by kernel_rfl) Tryd.func10 rfl rfl (by kernel_rfl) (by kernel_rfl) (by kernel_rfl) (fun _ => refLow _ _) ?_
  refine GL_callQ (i := 6) (ch := []) (f := 11) (fst := #[]) (caps := #[]) (vs := []) (v := .int .i64 253402300799) rfl rfl rfl (by kernel_rfl) (by kernel_rfl) Tryd.func11 rfl rfl (by kernel_rfl) (by kernel_rfl) (by kernel_rfl) (fun _ => refHigh _ _) ?_
  refine GL_fin (E' := [⟨0, [], .int .i64 t⟩, ⟨1, [], .int .i64 u⟩, ⟨5, [], .int .i64 (if (if t < 253402300799 then t else 253402300799) > (-62135596800) then (if t < 253402300799 then t else 253402300799) else (-62135596800))⟩, ⟨6, [], .int .i64 (if (if u < 253402300799 then u else 253402300799) > (-62135596800) then (if u < 253402300799 then u else 253402300799) else (-62135596800))⟩]) [0, 0, 0, 0, 0] [0, 1, 5, 6] rfl (by kernel_rfl) ?_
  refine N_env (E' := [⟨0, [], .int .i64 t⟩, ⟨1, [], .int .i64 u⟩, ⟨5, [], .int .i64 (clampT t)⟩, ⟨6, [], .int .i64 (clampT u)⟩]) (by kernel_rfl) ?_
  refine N_then ?_
  refine G_seq ?_
  refine G_seq ?_
  refine G_region ?_
  refine GL_pure (E' := [⟨24, [], .int .i64 t⟩, ⟨23, [], .bool (decide ((clampT t) < (clampT u)))⟩, ⟨22, [], .int .i64 (clampT u)⟩, ⟨21, [], .int .i64 (clampT t)⟩, ⟨0, [], .int .i64 t⟩, ⟨1, [], .int .i64 u⟩, ⟨5, [], .int .i64 (clampT t)⟩, ⟨6, [], .int .i64 (clampT u)⟩]) [0, 0, 0, 0] (by kernel_rfl) (j := 4) rfl ?_
  refine GL_callQ (i := 4) (ch := []) (f := 12) (fst := #[]) (caps := #[]) (vs := [.int .i64 t]) (v := .string (printB t)) rfl rfl rfl (by kernel_rfl) (by kernel_rfl) Tryd.func12 rfl rfl (by kernel_rfl) (by kernel_rfl) (by kernel_rfl) (fun _ => print_ _ _ hT _) ?_
  refine GL_pure (E' := [⟨26, [], .int .i64 u⟩, ⟨25, [], .string (printB t)⟩, ⟨24, [], .int .i64 t⟩, ⟨23, [], .bool (decide ((clampT t) < (clampT u)))⟩, ⟨22, [], .int .i64 (clampT u)⟩, ⟨21, [], .int .i64 (clampT t)⟩, ⟨0, [], .int .i64 t⟩, ⟨1, [], .int .i64 u⟩, ⟨5, [], .int .i64 (clampT t)⟩, ⟨6, [], .int .i64 (clampT u)⟩]) [0] (by kernel_rfl) (j := 6) rfl ?_
  refine GL_callQ (i := 6) (ch := []) (f := 12) (fst := #[]) (caps := #[]) (vs := [.int .i64 u]) (v := .string (printB u)) rfl rfl rfl (by kernel_rfl) (by kernel_rfl) Tryd.func12 rfl rfl (by kernel_rfl) (by kernel_rfl) (by kernel_rfl) (fun _ => print_ _ _ hT _) ?_
  refine GL_pure (E' := [⟨34, [(30, false)], .int .i64 t⟩, ⟨33, [(30, false)], .bool ((clampT t) == (clampT u))⟩, ⟨32, [(30, false)], .int .i64 (clampT u)⟩, ⟨31, [(30, false)], .int .i64 (clampT t)⟩, ⟨30, [], .bool (!((decide ((clampT t) < (clampT u))) == (Op.bytesLess (printB t).toList (printB u).toList)))⟩, ⟨29, [], .bool (!((decide ((clampT t) < (clampT u))) == (Op.bytesLess (printB t).toList (printB u).toList)))⟩, ⟨28, [], .bool (Op.bytesLess (printB t).toList (printB u).toList)⟩, ⟨27, [], .string (printB u)⟩, ⟨26, [], .int .i64 u⟩, ⟨25, [], .string (printB t)⟩, ⟨24, [], .int .i64 t⟩, ⟨23, [], .bool (decide ((clampT t) < (clampT u)))⟩, ⟨22, [], .int .i64 (clampT u)⟩, ⟨21, [], .int .i64 (clampT t)⟩, ⟨0, [], .int .i64 t⟩, ⟨1, [], .int .i64 u⟩, ⟨5, [], .int .i64 (clampT t)⟩, ⟨6, [], .int .i64 (clampT u)⟩]) [0, 0, 0, 0, 0, 0, 0] (by kernel_rfl) (j := 14) rfl ?_
  refine GL_callQ (i := 14) (ch := [(30, false)]) (f := 12) (fst := #[]) (caps := #[]) (vs := [.int .i64 t]) (v := .string (printB t)) rfl rfl rfl (by kernel_rfl) (by kernel_rfl) Tryd.func12 rfl rfl (by kernel_rfl) (by kernel_rfl) (by kernel_rfl) (fun hc => print_ _ _ hT _) ?_
  refine GL_pure (E' := [⟨36, [(30, false)], .int .i64 u⟩, ⟨35, [(30, false)], .string (printB t)⟩, ⟨34, [(30, false)], .int .i64 t⟩, ⟨33, [(30, false)], .bool ((clampT t) == (clampT u))⟩, ⟨32, [(30, false)], .int .i64 (clampT u)⟩, ⟨31, [(30, false)], .int .i64 (clampT t)⟩, ⟨30, [], .bool (!((decide ((clampT t) < (clampT u))) == (Op.bytesLess (printB t).toList (printB u).toList)))⟩, ⟨29, [], .bool (!((decide ((clampT t) < (clampT u))) == (Op.bytesLess (printB t).toList (printB u).toList)))⟩, ⟨28, [], .bool (Op.bytesLess (printB t).toList (printB u).toList)⟩, ⟨27, [], .string (printB u)⟩, ⟨26, [], .int .i64 u⟩, ⟨25, [], .string (printB t)⟩, ⟨24, [], .int .i64 t⟩, ⟨23, [], .bool (decide ((clampT t) < (clampT u)))⟩, ⟨22, [], .int .i64 (clampT u)⟩, ⟨21, [], .int .i64 (clampT t)⟩, ⟨0, [], .int .i64 t⟩, ⟨1, [], .int .i64 u⟩, ⟨5, [], .int .i64 (clampT t)⟩, ⟨6, [], .int .i64 (clampT u)⟩]) [0] (by kernel_rfl) (j := 16) rfl ?_
  refine GL_callQ (i := 16) (ch := [(30, false)]) (f := 12) (fst := #[]) (caps := #[]) (vs := [.int .i64 u]) (v := .string (printB u)) rfl rfl rfl (by kernel_rfl) (by kernel_rfl) Tryd.func12 rfl rfl (by kernel_rfl) (by kernel_rfl) (by kernel_rfl) (fun hc => print_ _ _ hT _) ?_
  refine GL_fin (E' := [⟨5, [], .int .i64 (clampT t)⟩, ⟨40, [], .bool ((!((decide ((clampT t) < (clampT u))) == (Op.bytesLess (printB t).toList (printB u).toList))) || (!(((clampT t) == (clampT u)) == ((printB t).toList == (printB u).toList))))⟩]) [0, 0, 5] [5, 40] rfl (by kernel_rfl) ?_
  refine N_then ?_
  refine G_cond (b := (!((decide ((clampT t) < (clampT u))) == (Op.bytesLess (printB t).toList (printB u).toList))) || (!(((clampT t) == (clampT u)) == ((printB t).toList == (printB u).toList)))) (by kernel_rfl) (fun hc1 => ?_) (fun hc1 => ?_)
  ·
    rw [print_less, print_eq] at hc1; simp at hc1
  ·
    skip
    refine G_skip ?_
    refine N_then ?_
    refine G_seq ?_
    refine G_seq ?_
    refine G_region ?_
    refine GL_pure (E' := [⟨41, [], .int .i64 (clampT t)⟩, ⟨5, [], .int .i64 (clampT t)⟩, ⟨40, [], .bool ((!((decide ((clampT t) < (clampT u))) == (Op.bytesLess (printB t).toList (printB u).toList))) || (!(((clampT t) == (clampT u)) == ((printB t).toList == (printB u).toList))))⟩]) [0] (by kernel_rfl) (j := 1) rfl ?_
    refine GL_callQ (i := 1) (ch := []) (f := 11) (fst := #[]) (caps := #[]) (vs := []) (v := .int .i64 253402300799) rfl rfl rfl (by kernel_rfl) (by kernel_rfl) Tryd.func11 rfl rfl (by kernel_rfl) (by kernel_rfl) (by kernel_rfl) (fun _ => refHigh _ _) ?_
    have hw2 : IntKind.wrap .i64 (253402300799 - 86400) = 253402300799 - 86400 := w64 (by omega) (by omega)
    refine GL_fin (E' := [⟨5, [], .int .i64 (clampT t)⟩, ⟨44, [], .bool (decide ((clampT t) > (253402300799 - 86400)))⟩]) [0, 0] [5, 44] rfl (Eq.trans (b := some [⟨5, [], .int .i64 (clampT t)⟩, ⟨44, [], .bool (decide ((clampT t) > (IntKind.wrap .i64 (253402300799 - 86400))))⟩]) (by kernel_rfl) (by simp only [hw2])) ?_
    refine N_then ?_
    refine G_cond (b := decide ((clampT t) > (253402300799 - 86400))) (by kernel_rfl) (fun hc3 => ?_) (fun hc3 => ?_)
    ·
      skip
      refine G_seq ?_
      refine G_pure (E' := [⟨4, [], .bool true⟩]) [0] [4] rfl (by kernel_rfl) ?_
      refine N_then ?_
      refine G_ret ?_
      refine N_then_ret ?_
      refine N_ret [.tmp 4] [.bool true] rfl (by kernel_rfl) rfl ?_
      exact ⟨rfl, rfl⟩
    ·
      simp only [decide_eq_false_iff_not] at hc3
      refine G_skip ?_
      refine N_then ?_
      refine G_seq ?_
      refine G_region ?_
      refine GL_pure (E' := [⟨45, [], .int .i64 (clampT t)⟩, ⟨5, [], .int .i64 (clampT t)⟩, ⟨44, [], .bool (decide ((clampT t) > (253402300799 - 86400)))⟩]) [0] (by kernel_rfl) (j := 1) rfl ?_
      refine GL_callQ (i := 1) (ch := []) (f := 12) (fst := #[]) (caps := #[]) (vs := [.int .i64 (clampT t)]) (v := .string (printB (clampT t))) rfl rfl rfl (by kernel_rfl) (by kernel_rfl) Tryd.func12 rfl rfl (by kernel_rfl) (by kernel_rfl) (by kernel_rfl) (fun _ => print_ _ _ hT _) ?_
      have hw4 : IntKind.wrap .i64 ((clampT t) + 86400) = (clampT t) + 86400 := w64 (by omega) (by omega)
      refine GL_pure (E' := [⟨48, [], .int .i64 ((clampT t) + 86400)⟩, ⟨47, [], .int .i64 (clampT t)⟩, ⟨46, [], .string (printB (clampT t))⟩, ⟨45, [], .int .i64 (clampT t)⟩, ⟨5, [], .int .i64 (clampT t)⟩, ⟨44, [], .bool (decide ((clampT t) > (253402300799 - 86400)))⟩]) [0, 0] (Eq.trans (b := some [⟨48, [], .int .i64 (IntKind.wrap .i64 ((clampT t) + 86400))⟩, ⟨47, [], .int .i64 (clampT t)⟩, ⟨46, [], .string (printB (clampT t))⟩, ⟨45, [], .int .i64 (clampT t)⟩, ⟨5, [], .int .i64 (clampT t)⟩, ⟨44, [], .bool (decide ((clampT t) > (253402300799 - 86400)))⟩]) (by kernel_rfl) (by simp only [hw4])) (j := 4) rfl ?_
      refine GL_callQ (i := 4) (ch := []) (f := 12) (fst := #[]) (caps := #[]) (vs := [.int .i64 ((clampT t) + 86400)]) (v := .string (printB ((clampT t) + 86400))) rfl rfl rfl (by kernel_rfl) (by kernel_rfl) Tryd.func12 rfl rfl (by kernel_rfl) (by kernel_rfl) (by kernel_rfl) (fun _ => print_ _ _ hT _) ?_
      refine GL_fin (E' := [⟨5, [], .int .i64 (clampT t)⟩, ⟨7, [], .string (printB (clampT t))⟩, ⟨8, [], .string (printB ((clampT t) + 86400))⟩]) [0, 0] [5, 7, 8] rfl (by kernel_rfl) ?_
      refine N_then ?_
      refine G_seq ?_
      refine G_regionD (by kernel_rfl) (by kernel_rfl) ?_
      refine GL_pure (E' := [⟨50, [], .int .i64 (clampT t)⟩, ⟨5, [], .int .i64 (clampT t)⟩, ⟨7, [], .string (printB (clampT t))⟩, ⟨8, [], .string (printB ((clampT t) + 86400))⟩]) [0] (by kernel_rfl) (j := 1) rfl ?_
      refine GL_callQ (i := 1) (ch := []) (f := 16) (fst := #[]) (caps := #[]) (vs := [.int .i64 (clampT t)]) (v := .string (dayB (clampT t))) rfl rfl rfl (by kernel_rfl) (by kernel_rfl) Tryd.func16 rfl rfl (by kernel_rfl) (by kernel_rfl) (by kernel_rfl) (fun _ => day_ _ _ hT _) ?_
      have hw5 : IntKind.wrap .i64 ((clampT t) + 86400) = (clampT t) + 86400 := w64 (by omega) (by omega)
      refine GL_pure (E' := [⟨53, [], .int .i64 ((clampT t) + 86400)⟩, ⟨52, [], .int .i64 (clampT t)⟩, ⟨51, [], .string (dayB (clampT t))⟩, ⟨50, [], .int .i64 (clampT t)⟩, ⟨5, [], .int .i64 (clampT t)⟩, ⟨7, [], .string (printB (clampT t))⟩, ⟨8, [], .string (printB ((clampT t) + 86400))⟩]) [0, 0] (Eq.trans (b := some [⟨53, [], .int .i64 (IntKind.wrap .i64 ((clampT t) + 86400))⟩, ⟨52, [], .int .i64 (clampT t)⟩, ⟨51, [], .string (dayB (clampT t))⟩, ⟨50, [], .int .i64 (clampT t)⟩, ⟨5, [], .int .i64 (clampT t)⟩, ⟨7, [], .string (printB (clampT t))⟩, ⟨8, [], .string (printB ((clampT t) + 86400))⟩]) (by kernel_rfl) (by simp only [hw5])) (j := 4) rfl ?_
      refine GL_callQ (i := 4) (ch := []) (f := 16) (fst := #[]) (caps := #[]) (vs := [.int .i64 ((clampT t) + 86400)]) (v := .string (dayB ((clampT t) + 86400))) rfl rfl rfl (by kernel_rfl) (by kernel_rfl) Tryd.func16 rfl rfl (by kernel_rfl) (by kernel_rfl) (by kernel_rfl) (fun _ => day_ _ _ hT _) ?_
      refine GL_pure (E' := [⟨57, [(56, true)], .string (printB (clampT t))⟩, ⟨56, [], .bool (Op.bytesLess (dayB (clampT t)).toList (dayB ((clampT t) + 86400)).toList)⟩, ⟨55, [], .bool (Op.bytesLess (dayB (clampT t)).toList (dayB ((clampT t) + 86400)).toList)⟩, ⟨54, [], .string (dayB ((clampT t) + 86400))⟩, ⟨53, [], .int .i64 ((clampT t) + 86400)⟩, ⟨52, [], .int .i64 (clampT t)⟩, ⟨51, [], .string (dayB (clampT t))⟩, ⟨50, [], .int .i64 (clampT t)⟩, ⟨5, [], .int .i64 (clampT t)⟩, ⟨7, [], .string (printB (clampT t))⟩, ⟨8, [], .string (printB ((clampT t) + 86400))⟩]) [0, 0, 0] (by kernel_rfl) (j := 8) rfl ?_
      refine GL_sliceS (i := 8) (ch := [(56, true)]) (s := printB (clampT t)) (vl := (some (.int .i64 10))) (vh := none) (l := 10) (h := ((printB (clampT t)).size : Int)) rfl rfl (by kernel_rfl) (by kernel_rfl) (by kernel_rfl) (by kernel_rfl) (by kernel_rfl) (by kernel_rfl) (by kernel_rfl) (by kernel_rfl) (by kernel_rfl) (fun hc => by have hg0 := chB_hd (t := 56) (c := []) (b := Op.bytesLess (dayB (clampT t)).toList (dayB ((clampT t) + 86400)).toList) hc (by kernel_rfl); (try simp at hg0); omega) ?_
      refine GL_pure (E' := [⟨59, [(56, true)], .string (printB ((clampT t) + 86400))⟩, ⟨58, [(56, true)], .string ((printB (clampT t)).extract 10 (printB (clampT t)).size)⟩, ⟨57, [(56, true)], .string (printB (clampT t))⟩, ⟨56, [], .bool (Op.bytesLess (dayB (clampT t)).toList (dayB ((clampT t) + 86400)).toList)⟩, ⟨55, [], .bool (Op.bytesLess (dayB (clampT t)).toList (dayB ((clampT t) + 86400)).toList)⟩, ⟨54, [], .string (dayB ((clampT t) + 86400))⟩, ⟨53, [], .int .i64 ((clampT t) + 86400)⟩, ⟨52, [], .int .i64 (clampT t)⟩, ⟨51, [], .string (dayB (clampT t))⟩, ⟨50, [], .int .i64 (clampT t)⟩, ⟨5, [], .int .i64 (clampT t)⟩, ⟨7, [], .string (printB (clampT t))⟩, ⟨8, [], .string (printB ((clampT t) + 86400))⟩]) [0] (by kernel_rfl) (j := 10) rfl ?_
      refine GL_sliceS (i := 10) (ch := [(56, true)]) (s := printB ((clampT t) + 86400)) (vl := (some (.int .i64 10))) (vh := none) (l := 10) (h := ((printB ((clampT t) + 86400)).size : Int)) rfl rfl (by kernel_rfl) (by kernel_rfl) (by kernel_rfl) (by kernel_rfl) (by kernel_rfl) (by kernel_rfl) (by kernel_rfl) (by kernel_rfl) (by kernel_rfl) (fun hc => by have hg0 := chB_hd (t := 56) (c := []) (b := Op.bytesLess (dayB (clampT t)).toList (dayB ((clampT t) + 86400)).toList) hc (by kernel_rfl); (try simp at hg0); omega) ?_
      refine GL_pure (E' := [⟨64, [(63, true)], .int .i64 (clampT t)⟩, ⟨63, [], .bool ((Op.bytesLess (dayB (clampT t)).toList (dayB ((clampT t) + 86400)).toList) && (((printB (clampT t)).extract 10 (printB (clampT t)).size).toList == ((printB ((clampT t) + 86400)).extract 10 (Int.toNat ((printB ((clampT t) + 86400)).size : Int))).toList))⟩, ⟨62, [], .bool ((Op.bytesLess (dayB (clampT t)).toList (dayB ((clampT t) + 86400)).toList) && (((printB (clampT t)).extract 10 (printB (clampT t)).size).toList == ((printB ((clampT t) + 86400)).extract 10 (Int.toNat ((printB ((clampT t) + 86400)).size : Int))).toList))⟩, ⟨61, [(56, true)], .bool (((printB (clampT t)).extract 10 (printB (clampT t)).size).toList == ((printB ((clampT t) + 86400)).extract 10 (Int.toNat ((printB ((clampT t) + 86400)).size : Int))).toList)⟩, ⟨60, [(56, true)], .string ((printB ((clampT t) + 86400)).extract 10 (Int.toNat ((printB ((clampT t) + 86400)).size : Int)))⟩, ⟨59, [(56, true)], .string (printB ((clampT t) + 86400))⟩, ⟨58, [(56, true)], .string ((printB (clampT t)).extract 10 (printB (clampT t)).size)⟩, ⟨57, [(56, true)], .string (printB (clampT t))⟩, ⟨56, [], .bool (Op.bytesLess (dayB (clampT t)).toList (dayB ((clampT t) + 86400)).toList)⟩, ⟨55, [], .bool (Op.bytesLess (dayB (clampT t)).toList (dayB ((clampT t) + 86400)).toList)⟩, ⟨54, [], .string (dayB ((clampT t) + 86400))⟩, ⟨53, [], .int .i64 ((clampT t) + 86400)⟩, ⟨52, [], .int .i64 (clampT t)⟩, ⟨51, [], .string (dayB (clampT t))⟩, ⟨50, [], .int .i64 (clampT t)⟩, ⟨5, [], .int .i64 (clampT t)⟩, ⟨7, [], .string (printB (clampT t))⟩, ⟨8, [], .string (printB ((clampT t) + 86400))⟩]) [0, 6, 0, 0] (by kernel_rfl) (j := 15) rfl ?_
      refine GL_callQ (i := 15) (ch := [(63, true)]) (f := 16) (fst := #[]) (caps := #[]) (vs := [.int .i64 (clampT t)]) (v := .string (dayB (clampT t))) rfl rfl rfl (by kernel_rfl) (by kernel_rfl) Tryd.func16 rfl rfl (by kernel_rfl) (by kernel_rfl) (by kernel_rfl) (fun hc => day_ _ _ hT _) ?_
      refine GL_pure (E' := [⟨66, [(63, true)], .string (printB (clampT t))⟩, ⟨65, [(63, true)], .string (dayB (clampT t))⟩, ⟨64, [(63, true)], .int .i64 (clampT t)⟩, ⟨63, [], .bool ((Op.bytesLess (dayB (clampT t)).toList (dayB ((clampT t) + 86400)).toList) && (((printB (clampT t)).extract 10 (printB (clampT t)).size).toList == ((printB ((clampT t) + 86400)).extract 10 (Int.toNat ((printB ((clampT t) + 86400)).size : Int))).toList))⟩, ⟨62, [], .bool ((Op.bytesLess (dayB (clampT t)).toList (dayB ((clampT t) + 86400)).toList) && (((printB (clampT t)).extract 10 (printB (clampT t)).size).toList == ((printB ((clampT t) + 86400)).extract 10 (Int.toNat ((printB ((clampT t) + 86400)).size : Int))).toList))⟩, ⟨61, [(56, true)], .bool (((printB (clampT t)).extract 10 (printB (clampT t)).size).toList == ((printB ((clampT t) + 86400)).extract 10 (Int.toNat ((printB ((clampT t) + 86400)).size : Int))).toList)⟩, ⟨60, [(56, true)], .string ((printB ((clampT t) + 86400)).extract 10 (Int.toNat ((printB ((clampT t) + 86400)).size : Int)))⟩, ⟨59, [(56, true)], .string (printB ((clampT t) + 86400))⟩, ⟨58, [(56, true)], .string ((printB (clampT t)).extract 10 (printB (clampT t)).size)⟩, ⟨57, [(56, true)], .string (printB (clampT t))⟩, ⟨56, [], .bool (Op.bytesLess (dayB (clampT t)).toList (dayB ((clampT t) + 86400)).toList)⟩, ⟨55, [], .bool (Op.bytesLess (dayB (clampT t)).toList (dayB ((clampT t) + 86400)).toList)⟩, ⟨54, [], .string (dayB ((clampT t) + 86400))⟩, ⟨53, [], .int .i64 ((clampT t) + 86400)⟩, ⟨52, [], .int .i64 (clampT t)⟩, ⟨51, [], .string (dayB (clampT t))⟩, ⟨50, [], .int .i64 (clampT t)⟩, ⟨5, [], .int .i64 (clampT t)⟩, ⟨7, [], .string (printB (clampT t))⟩, ⟨8, [], .string (printB ((clampT t) + 86400))⟩]) [0] (by kernel_rfl) (j := 17) rfl ?_
      refine GL_sliceS (i := 17) (ch := [(63, true)]) (s := printB (clampT t)) (vl := none) (vh := (some (.int .i64 10))) (l := 0) (h := 10) rfl rfl (by kernel_rfl) (by kernel_rfl) (by kernel_rfl) (by kernel_rfl) (by kernel_rfl) (by kernel_rfl) (by kernel_rfl) (by kernel_rfl) (by kernel_rfl) (fun hc => by have hg0 := chB_hd (t := 63) (c := []) (b := (Op.bytesLess (dayB (clampT t)).toList (dayB ((clampT t) + 86400)).toList) && (((printB (clampT t)).extract 10 (printB (clampT t)).size).toList == ((printB ((clampT t) + 86400)).extract 10 (Int.toNat ((printB ((clampT t) + 86400)).size : Int))).toList)) hc (by kernel_rfl); (try simp at hg0); omega) ?_
      refine GL_fin (E' := [⟨4, [], .bool (((Op.bytesLess (dayB (clampT t)).toList (dayB ((clampT t) + 86400)).toList) && (((printB (clampT t)).extract 10 (printB (clampT t)).size).toList == ((printB ((clampT t) + 86400)).extract 10 (Int.toNat ((printB ((clampT t) + 86400)).size : Int))).toList)) && ((dayB (clampT t)).toList == ((printB (clampT t)).extract 0 10).toList))⟩]) [0, 6, 0] [4] rfl (by kernel_rfl) ?_
      refine N_then ?_
      refine G_ret ?_
      refine N_ret [.tmp 4] [.bool (((Op.bytesLess (dayB (clampT t)).toList (dayB ((clampT t) + 86400)).toList) && (((printB (clampT t)).extract 10 (printB (clampT t)).size).toList == ((printB ((clampT t) + 86400)).extract 10 (Int.toNat ((printB ((clampT t) + 86400)).size : Int))).toList)) && ((dayB (clampT t)).toList == ((printB (clampT t)).extract 0 10).toList))] rfl (by kernel_rfl) rfl ?_
      exact ⟨by rw [day_less (by omega) (by omega), tail_same (by omega) (by omega), (print_cut (clampT t)).1]; simp [packV], rfl⟩

end Go.Proofs.YtlglmomimhbeaaaDoor
