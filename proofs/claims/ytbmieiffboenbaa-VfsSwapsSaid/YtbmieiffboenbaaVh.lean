/- The walks of maps.Clone and List. Conditions: the numbers are ints; what the blocks hold is told. -/
import Derived.Test.YtbmieiffboenbaaVg
import Derived.Test.YtbmieiffboenbaaSort
namespace Go.Proofs.Ytbmieiffboenbaa
open Go.Sw Go.Lib Go.Vf Go.RowKit


theorem vMapClone (kb kc : Nat) (km : SM) (W0 : World) (H : List Grp) : Tri Try.prog 42 #[.map (some kb)] W0 ([(kb, .map (encM km) kc)] :: H) (fun v H' => ∃ b, v = .map (some b) ∧ H' = [(b, .map (encM km) kc)] :: [(kb, .map (encM km) kc)] :: H) := by
  refine Tri_of (args := [.map (some kb)]) (n := 9) Try.func42 rfl rfl (Nat.le_of_ble_eq_true rfl) ?_
  refine G_seq ?_
  refine G_pure (E' := [⟨0, [], .map (some kb)⟩]) [0] [0] rfl (by kernel_rfl) ?_
  refine N_then ?_
  refine G_seq ?_
  refine G_seq ?_
  refine G_pure (E' := [⟨0, [], .map (some kb)⟩, ⟨4, [], .bool false⟩]) [0, 0] [0, 4] rfl (by kernel_rfl) ?_
  refine N_then ?_
  refine G_condf (by kernel_rfl) ?_
  refine G_skip ?_
  refine N_then ?_
  refine G_seq ?_
  refine G_region ?_
  refine GL_pure (E' := [⟨6, [], .iface 60 (.map (some kb))⟩, ⟨5, [], .map (some kb)⟩, ⟨0, [], .map (some kb)⟩, ⟨4, [], .bool false⟩]) [0, 0] (by kernel_rfl) (j := 2) rfl ?_
  refine GL_cloneX (i := 2) (ch := []) (f := 60) (t := 60) (r := kb) (clock := kc) (es := encM km) rfl rfl rfl (by kernel_rfl) (by kernel_rfl) Try.func60 (by kernel_rfl) rfl (by kernel_rfl) (by kernel_rfl) (by kernel_rfl) (by kernel_rfl) (by kernel_rfl) (At.grp 0 0 rfl rfl) (fun b1 => ?_)
  refine GL_assert (i := 3) (ch := []) (xt := 20) (t := 60) (k := 9) (e := 66) (v := .map (some b1)) rfl rfl (by kernel_rfl) (by kernel_rfl) (by kernel_rfl) (by kernel_rfl) (by kernel_rfl) ?_
  refine GL_fin (E' := [⟨2, [], .map (some b1)⟩]) [0] [2] rfl (by kernel_rfl) ?_
  refine N_then ?_
  refine G_ret ?_
  refine N_ret [.tmp 2] [.map (some b1)] rfl (by kernel_rfl) rfl ?_
  exact ⟨_, rfl, rfl⟩

theorem vList (d nb kb cb nc : Nat) (room calls : Int) (bv : Value) (fails once : Bool) (nm : SM) (dir : ByteArray) (hn : MapOk nm nc) (hks : ∀ e ∈ nm, e.1.size ≤ 9223372036854775807) (hnl : nm.length ≤ 1000000) (W0 : World) (H : List Grp) : Tri Try.prog 21 #[.pointer (some ⟨d, 0, none⟩), .string dir] W0 ([(d, .cells #[.int .i64 room, bv, .map (some nb), .map (some kb), .map (some cb), .bool fails, .bool once, .int .i64 calls] 64 (0, 0))] :: [(nb, .map (encM nm) nc)] :: H) (fun v H' => ∃ dn g, dn.Perm nm ∧ Own 9 1 v g (listK dir dn).length (strs (sortB (listK dir dn))) ∧ H' = ([(d, .cells #[.int .i64 room, bv, .map (some nb), .map (some kb), .map (some cb), .bool fails, .bool once, .int .i64 calls] 64 (0, 0))] :: [(nb, .map (encM nm) nc)] :: g :: H)) := by
  refine Tri_of (args := [.pointer (some ⟨d, 0, none⟩), .string dir]) (n := 29) Try.func21 rfl rfl (Nat.le_of_ble_eq_true rfl) ?_
  refine G_seq ?_
  refine G_pure (E' := [⟨0, [], .pointer (some ⟨d, 0, none⟩)⟩, ⟨1, [], .string dir⟩]) [0] [0, 1] rfl (by kernel_rfl) ?_
  refine N_then ?_
  refine G_seq ?_
  refine G_seq ?_
  refine G_pure (E' := [⟨0, [], .pointer (some ⟨d, 0, none⟩)⟩, ⟨1, [], .string dir⟩, ⟨8, [], .bool false⟩]) [0, 0] [0, 1, 8] rfl (by kernel_rfl) ?_
  refine N_then ?_
  refine G_condf (by kernel_rfl) ?_
  refine G_skip ?_
  refine N_then ?_
  refine G_seq ?_
  refine G_pure (E' := [⟨0, [], .pointer (some ⟨d, 0, none⟩)⟩, ⟨1, [], .string dir⟩, ⟨5, [], .slice none 0 0⟩]) [0] [0, 1, 5] rfl (by kernel_rfl) ?_
  refine N_then ?_
  refine G_seq ?_
  refine G_seq ?_
  refine G_region ?_
  refine GL_pure (E' := [⟨11, [], .pointer (some ⟨d, 2, none⟩)⟩, ⟨10, [], .pointer (some ⟨d, 0, none⟩)⟩, ⟨9, [], .pointer (some ⟨d, 0, none⟩)⟩, ⟨0, [], .pointer (some ⟨d, 0, none⟩)⟩, ⟨1, [], .string dir⟩, ⟨5, [], .slice none 0 0⟩]) [0, 0, 0] (by kernel_rfl) (j := 3) rfl ?_
  refine GL_load (i := 3) (ch := []) (b := d) (off := 2) (v := .map (some nb)) rfl rfl (by kernel_rfl) (by kernel_rfl) (by kernel_rfl) (by kernel_rfl) (by kernel_rfl) (At.grp 0 0 rfl rfl) rfl ?_
  refine GL_range (i := 4) (ch := []) (kt := 9) (et := 66) (r := nb) (c := nc) (m := nm) rfl rfl (by kernel_rfl) (by kernel_rfl) (by kernel_rfl) (by kernel_rfl) (by kernel_rfl) (At.grp 1 0 rfl rfl) (fun it1 => ?_)
  refine GL_fin (E' := [⟨1, [], .string dir⟩, ⟨5, [], .slice none 0 0⟩, ⟨13, [], .pointer (some ⟨it1, 0, none⟩)⟩]) [] [1, 5, 13] rfl (by kernel_rfl) ?_
  refine N_then ?_
  refine G_block ?_
  refine G_heap (H' := ([(it1, .mapIter (some nb) nc (seenOf ([])) nc)] :: [(d, .cells #[.int .i64 room, bv, .map (some nb), .map (some kb), .map (some cb), .bool fails, .bool once, .int .i64 calls] 64 (0, 0))] :: [(nb, .map (encM nm) nc)] :: [] :: H)) (fun w h => h.flat (List.Perm.refl _)) ?_
  refine G_loop (EI := (fun ξ : SM × SM × Value × Grp => [⟨1, [], .string dir⟩, ⟨5, [], ξ.2.2.1⟩, ⟨13, [], .pointer (some ⟨it1, 0, none⟩)⟩])) (HI := (fun ξ : SM × SM × Value × Grp => ([(it1, .mapIter (some nb) nc (seenOf ξ.1) nc)] :: [(d, .cells #[.int .i64 room, bv, .map (some nb), .map (some kb), .map (some cb), .bool fails, .bool once, .int .i64 calls] 64 (0, 0))] :: [(nb, .map (encM nm) nc)] :: ξ.2.2.2 :: H))) (Φ := (fun ξ : SM × SM × Value × Grp => ((ξ.1 ++ ξ.2.1).Perm nm) ∧ (Own 9 1 ξ.2.2.1 ξ.2.2.2 (listK dir ξ.1).length (strs (listK dir ξ.1))))) (μ := (fun ξ : SM × SM × Value × Grp => ξ.2.1.length)) (s0 := ([], nm, .slice none 0 0, [])) [1, 5, 13] (by kernel_rfl) (by rfl) ⟨(List.Perm.refl _), Own.nil⟩ ?_
  rintro ⟨dn, rest, v, g⟩ ⟨hpm, hO⟩
  replace hpm : (dn ++ rest).Perm nm := hpm
  replace hO : Own 9 1 v g (listK dir dn).length (strs (listK dir dn)) := hO
  have hll := listK_len dir dn
  have hdl : dn.length ≤ nm.length := by (have := hpm.length_eq; rw [List.length_append] at this; omega)
  refine G_seq ?_
  refine G_region ?_
  refine GL_next (i := 0) (ch := []) (it := it1) (r := nb) (c := nc) (j := 0) (q := 0) (m := nm) (dn := dn) (rest := rest) rfl rfl (by kernel_rfl) (by kernel_rfl) (by kernel_rfl) (by kernel_rfl) rfl rfl (At.grp 2 0 rfl rfl) hn hpm (fun hend6 => ?_) (fun e2 rest3 hp4 hq5 => ?_)
  ·
    refine GL_fin (E' := [⟨1, [], .string dir⟩, ⟨5, [], v⟩, ⟨13, [], .pointer (some ⟨it1, 0, none⟩)⟩, ⟨15, [], .bool false⟩]) [0] [1, 5, 13, 15] rfl (by kernel_rfl) ?_
    refine N_then ?_
    refine G_seq ?_
    refine G_condf (by kernel_rfl) ?_
    refine G_exit ?_
    refine N_then_exit ?_
    refine N_then_exit ?_
    refine N_block_exit ?_
    refine N_then ?_
    refine G_seq ?_
    refine G_region ?_
    refine GL_pure (E' := [⟨26, [], v⟩, ⟨1, [], .string dir⟩, ⟨5, [], v⟩, ⟨13, [], .pointer (some ⟨it1, 0, none⟩)⟩, ⟨15, [], .bool false⟩]) [0] (by kernel_rfl) (j := 1) rfl ?_
    refine GL_heap rfl (H' := (g :: [(it1, .mapIter (some nb) nc (seenOf dn) nc)] :: [(d, .cells #[.int .i64 room, bv, .map (some nb), .map (some kb), .map (some cb), .bool fails, .bool once, .int .i64 calls] 64 (0, 0))] :: [(nb, .map (encM nm) nc)] :: H)) (fun w h => (h.front (j := 3) rfl)) ?_
    refine GL_call (i := 1) (ch := []) (f := 44) (fst := #[]) (caps := #[]) (vs := [v]) rfl rfl rfl (by kernel_rfl) (by kernel_rfl) Try.func44 rfl rfl (by kernel_rfl) (by kernel_rfl) (chSure_of (by kernel_rfl)) (sortC hO (by omega) _ _) ?_
    rintro u H' ⟨rfl, g11, hO12, rfl⟩
    refine GL_fin (E' := [⟨5, [], v⟩]) [] [5] rfl (by kernel_rfl) ?_
    refine N_then ?_
    refine G_seq ?_
    refine G_pure (E' := [⟨4, [], v⟩]) [0, 0] [4] rfl (by kernel_rfl) ?_
    refine N_then ?_
    refine G_ret ?_
    refine N_heap (H' := ([(d, .cells #[.int .i64 room, bv, .map (some nb), .map (some kb), .map (some cb), .bool fails, .bool once, .int .i64 calls] 64 (0, 0))] :: [(nb, .map (encM nm) nc)] :: g11 :: H)) (fun w h => (((h.front (j := 3) rfl).front (j := 3) rfl).erase 3)) ?_
    refine N_ret [.tmp 4] [v] rfl (by kernel_rfl) rfl ?_
    exact ⟨dn, _, by simpa [hend6] using hpm, hO12, rfl⟩
  ·
    have hz10 := hks e2 (hq5.mem_iff.1 (by simp))
    obtain ⟨k7, u8, st9⟩ := e2
    simp only at hz10
    refine GL_fin (E' := [⟨1, [], .string dir⟩, ⟨5, [], v⟩, ⟨13, [], .pointer (some ⟨it1, 0, none⟩)⟩, ⟨15, [], .bool true⟩]) [0] [1, 5, 13, 15] rfl (by kernel_rfl) ?_
    refine N_then ?_
    refine G_seq ?_
    refine G_condt (by kernel_rfl) ?_
    refine G_skip ?_
    refine N_then ?_
    refine G_block ?_
    refine G_seq ?_
    refine G_region ?_
    refine GL_entry (i := 0) (ch := []) (it := it1) (r := nb) (c := nc) (m := nm) (dn := dn) (e := (k7, u8, st9)) rfl rfl (by kernel_rfl) (by kernel_rfl) (by kernel_rfl) (by kernel_rfl) (At.grp 0 0 rfl rfl) (At.grp 2 0 rfl rfl) hn (hq5.mem_iff.1 (by simp)) ?_
    refine GL_fin (E' := [⟨1, [], .string dir⟩, ⟨5, [], v⟩, ⟨6, [], .string k7⟩, ⟨13, [], .pointer (some ⟨it1, 0, none⟩)⟩]) [0, 0] [1, 5, 6, 13] rfl (by kernel_rfl) ?_
    refine N_then ?_
    refine G_seq ?_
    refine G_region ?_
    refine GL_pure (E' := [⟨18, [], .string k7⟩, ⟨1, [], .string dir⟩, ⟨5, [], v⟩, ⟨6, [], .string k7⟩, ⟨13, [], .pointer (some ⟨it1, 0, none⟩)⟩]) [0] (by kernel_rfl) (j := 1) rfl ?_
    refine GL_callQ (i := 1) (ch := []) (f := 37) (fst := #[]) (caps := #[]) (vs := [.string k7]) (v := .string (dirB k7)) rfl rfl rfl (by kernel_rfl) (by kernel_rfl) Try.func37 rfl rfl (by kernel_rfl) (by kernel_rfl) (by kernel_rfl) (fun _ => vfsDirOf _ hz10 _ _) ?_
    refine GL_fin (E' := [⟨1, [], .string dir⟩, ⟨5, [], v⟩, ⟨6, [], .string k7⟩, ⟨13, [], .pointer (some ⟨it1, 0, none⟩)⟩, ⟨21, [], .bool ((dirB k7).toList == dir.toList)⟩]) [0, 0] [1, 5, 6, 13, 21] rfl (by kernel_rfl) ?_
    refine N_then ?_
    refine G_cond (b := (dirB k7).toList == dir.toList) (by kernel_rfl) (fun hc13 => ?_) (fun hc13 => ?_)
    ·
      have hyn := hc13
      -- L yes
      refine G_region ?_
      refine GL_pure (E' := [⟨23, [], .string k7⟩, ⟨22, [], v⟩, ⟨1, [], .string dir⟩, ⟨5, [], v⟩, ⟨6, [], .string k7⟩, ⟨13, [], .pointer (some ⟨it1, 0, none⟩)⟩, ⟨21, [], .bool ((dirB k7).toList == dir.toList)⟩]) [0, 0] (by kernel_rfl) (j := 2) rfl ?_
      refine GL_buildSlice (i := 2) (ch := []) (e := 9) (l := [(0, .string k7)]) (c := [.string k7]) rfl rfl (by kernel_rfl) (by kernel_rfl) (by kernel_rfl) (by kernel_rfl) (by kernel_rfl) (fun b14 => ?_)
      refine GL_append (i := 3) (ch := []) (t := 39) (tx := 39) (e := 9) (inf := Try.t9) (s := v) (x := .slice (some ⟨b14, 0, none⟩) 1 1) (n := (listK dir dn).length) (m := 1) (j := 4) (cs := (strs (listK dir dn))) (news := [.string k7]) (g := g) (S := (inG [(b14, .cells #[.string k7] 9 (0, 0))])) rfl rfl rfl rfl (by kernel_rfl) (by kernel_rfl) (by kernel_rfl) rfl rfl (.inl ⟨9, (by kernel_rfl)⟩) (fun ⟨_, h⟩ => by cases h) (fun _ => ⟨9, (by kernel_rfl)⟩) (by kernel_rfl) (by kernel_rfl) (by kernel_rfl) rfl hO (SrcOf.slice _ _ _ _ Rd.lit (fun h => by cases h)) (at_inG 0 rfl) (by kernel_rfl) (by intro u hu; rcases List.mem_singleton.1 hu with rfl; rfl) (by omega) (by show ((listK dir dn).length + 1) * 16 ≤ 140737488355328; omega) (fun v15 g16 hO17 => ?_)
      refine GL_fin (E' := [⟨1, [], .string dir⟩, ⟨5, [], v15⟩, ⟨13, [], .pointer (some ⟨it1, 0, none⟩)⟩]) [0] [1, 5, 13] rfl (by kernel_rfl) ?_
      refine N_block ?_
      refine N_heap (H' := ([(it1, .mapIter (some nb) nc (seenOf (dn ++ [(k7, u8, st9)])) nc)] :: [(d, .cells #[.int .i64 room, bv, .map (some nb), .map (some kb), .map (some cb), .bool fails, .bool once, .int .i64 calls] 64 (0, 0))] :: [(nb, .map (encM nm) nc)] :: g16 :: H)) (fun w h => (((((h.front (j := 4) rfl).front (j := 4) rfl).front (j := 4) rfl).front (j := 4) rfl).erase 4)) ?_
      refine N_round (s' := (dn ++ [(k7, u8, st9)], rest3, v15, g16)) [1, 5, 13] (by kernel_rfl) (by rfl) ⟨hq5, (own_yes (e := (k7, u8, st9)) hyn hO17)⟩ (by have := hp4.length_eq; simp only [List.length_cons] at this; show rest3.length < rest.length; omega)
    ·
      have hyn := hc13
      refine G_skip ?_
      refine N_block ?_
      refine N_heap (H' := ([(it1, .mapIter (some nb) nc (seenOf (dn ++ [(k7, u8, st9)])) nc)] :: [(d, .cells #[.int .i64 room, bv, .map (some nb), .map (some kb), .map (some cb), .bool fails, .bool once, .int .i64 calls] 64 (0, 0))] :: [(nb, .map (encM nm) nc)] :: g :: H)) (fun w h => ((((h.front (j := 3) rfl).front (j := 3) rfl).front (j := 3) rfl).front (j := 3) rfl)) ?_
      refine N_round (s' := (dn ++ [(k7, u8, st9)], rest3, v, g)) [1, 5, 13] (by kernel_rfl) (by rfl) ⟨hq5, (by rw [listK_no (e := (k7, u8, st9)) hyn]; exact hO)⟩ (by have := hp4.length_eq; simp only [List.length_cons] at this; show rest3.length < rest.length; omega)

theorem vList0 (dir : ByteArray) (W0 : World) (H : List Grp) : Tri Try.prog 21 #[.pointer none, .string dir] W0 H (fun v H' => v = .slice none 0 0 ∧ H' = H) := by
  refine Tri_of (args := [.pointer none, .string dir]) (n := 29) Try.func21 rfl rfl (Nat.le_of_ble_eq_true rfl) ?_
  refine G_seq ?_
  refine G_pure (E' := [⟨0, [], .pointer none⟩, ⟨1, [], .string dir⟩]) [0] [0, 1] rfl (by kernel_rfl) ?_
  refine N_then ?_
  refine G_seq ?_
  refine G_seq ?_
  refine G_pure (E' := [⟨0, [], .pointer none⟩, ⟨1, [], .string dir⟩, ⟨8, [], .bool true⟩]) [0, 0] [0, 1, 8] rfl (by kernel_rfl) ?_
  refine N_then ?_
  refine G_condt (by kernel_rfl) ?_
  refine G_seq ?_
  refine G_pure (E' := [⟨4, [], .slice none 0 0⟩]) [0] [4] rfl (by kernel_rfl) ?_
  refine N_then ?_
  refine G_ret ?_
  refine N_then_ret ?_
  refine N_ret [.tmp 4] [.slice none 0 0] rfl (by kernel_rfl) rfl ?_
  exact ⟨rfl, rfl⟩

end Go.Proofs.Ytbmieiffboenbaa
