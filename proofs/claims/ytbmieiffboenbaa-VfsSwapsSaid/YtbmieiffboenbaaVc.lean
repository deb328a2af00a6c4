/- The walks of the disk's calls that read. Conditions: the numbers are ints; what the blocks hold is told. -/
import Derived.Test.YtbmieiffboenbaaVb
namespace Go.Proofs.Ytbmieiffboenbaa
open Go.Sw Go.Lib Go.Vf Go.RowKit


theorem vCloneNil  (W0 : World) (H : List Grp) : Tri Try.prog 35 #[.slice none 0 0] W0 H (fun v H' => v = .slice none 0 0 ∧ H' = H) := by
  refine Tri_of (args := [.slice none 0 0]) (n := 8) Try.func35 rfl rfl (Nat.le_of_ble_eq_true rfl) ?_
  refine G_seq ?_
  refine G_pure (E' := [⟨0, [], .slice none 0 0⟩]) [0] [0] rfl (by kernel_rfl) ?_
  refine N_then ?_
  refine G_seq ?_
  refine G_seq ?_
  refine G_pure (E' := [⟨0, [], .slice none 0 0⟩, ⟨4, [], .bool true⟩]) [0, 0] [0, 4] rfl (by kernel_rfl) ?_
  refine N_then ?_
  refine G_condt (by kernel_rfl) ?_
  refine G_seq ?_
  refine G_pure (E' := [⟨2, [], .slice none 0 0⟩]) [0] [2] rfl (by kernel_rfl) ?_
  refine N_then ?_
  refine G_ret ?_
  refine N_then_ret ?_
  refine N_ret [.tmp 2] [.slice none 0 0] rfl (by kernel_rfl) rfl ?_
  exact ⟨rfl, rfl⟩

theorem vClone (b off n cap : Nat) (S : Nat → Obj → Prop) (l : List UInt8) (hrd : Rd S (some ⟨b, off, none⟩) (u8s l)) (hl : l.length = n) (hn : n ≤ 1000000000) (W0 : World) (H : List Grp) (hS : ∀ y o, S y o → At W0 H y o) : Tri Try.prog 35 #[.slice (some ⟨b, off, none⟩) n cap] W0 H (fun v H' => ∃ g, Own 5 1 v g n (u8s l) ∧ H' = g :: H) := by
  refine Tri_of (args := [.slice (some ⟨b, off, none⟩) n cap]) (n := 8) Try.func35 rfl rfl (Nat.le_of_ble_eq_true rfl) ?_
  refine G_seq ?_
  refine G_pure (E' := [⟨0, [], .slice (some ⟨b, off, none⟩) n cap⟩]) [0] [0] rfl (by kernel_rfl) ?_
  refine N_then ?_
  refine G_seq ?_
  refine G_seq ?_
  refine G_pure (E' := [⟨0, [], .slice (some ⟨b, off, none⟩) n cap⟩, ⟨4, [], .bool false⟩]) [0, 0] [0, 4] rfl (by kernel_rfl) ?_
  refine N_then ?_
  refine G_condf (by kernel_rfl) ?_
  refine G_skip ?_
  refine N_then ?_
  refine G_seq ?_
  refine G_region ?_
  refine GL_buildSlice (i := 0) (ch := []) (e := 5) (l := []) (c := []) rfl rfl (by kernel_rfl) (by kernel_rfl) (by kernel_rfl) (by kernel_rfl) (by kernel_rfl) (fun b1 => ?_)
  refine GL_pure (E' := [⟨6, [], .slice (some ⟨b, off, none⟩) n cap⟩, ⟨5, [], .slice (some ⟨b1, 0, none⟩) 0 0⟩, ⟨0, [], .slice (some ⟨b, off, none⟩) n cap⟩, ⟨4, [], .bool false⟩]) [0] (by kernel_rfl) (j := 2) rfl ?_
  refine GL_append (i := 2) (ch := []) (t := 24) (tx := 24) (e := 5) (inf := Try.t5) (s := .slice (some ⟨b1, 0, none⟩) 0 0) (x := .slice (some ⟨b, off, none⟩) n cap) (n := 0) (m := n) (j := 0) (cs := []) (news := (u8s l)) (g := [(b1, .cells #[] 5 (0, 0))]) (S := S) rfl rfl rfl rfl (by kernel_rfl) (by kernel_rfl) (by kernel_rfl) rfl rfl (.inl ⟨5, (by kernel_rfl)⟩) (fun ⟨_, h⟩ => by cases h) (fun _ => ⟨5, (by kernel_rfl)⟩) (by kernel_rfl) (by kernel_rfl) (by kernel_rfl) rfl (Own.lit rfl) (SrcOf.slice _ _ _ _ hrd (fun h => by cases h)) (fun y o h => (At.cons (hS y o h))) (by show (u8s l).length = n * 1; rw [u8s_len, hl, Nat.mul_one]) u8s_one (by omega) (by show (0 + n) * 1 ≤ 140737488355328; omega) (fun v2 g3 hO4 => ?_)
  refine GL_fin (E' := [⟨2, [], v2⟩]) [0] [2] rfl (by kernel_rfl) ?_
  refine N_then ?_
  refine G_ret ?_
  refine N_ret [.tmp 2] [v2] rfl (by kernel_rfl) rfl ?_
  exact ⟨g3, own_nil hO4, rfl⟩

theorem vCloneE (ad : Addr) (cap : Nat) (W0 : World) (H : List Grp) : Tri Try.prog 35 #[.slice (some ad) 0 cap] W0 H (fun v H' => ∃ g, Own 5 1 v g 0 [] ∧ H' = g :: H) := by
  refine Tri_of (args := [.slice (some ad) 0 cap]) (n := 8) Try.func35 rfl rfl (Nat.le_of_ble_eq_true rfl) ?_
  refine G_seq ?_
  refine G_pure (E' := [⟨0, [], .slice (some ad) 0 cap⟩]) [0] [0] rfl (by kernel_rfl) ?_
  refine N_then ?_
  refine G_seq ?_
  refine G_seq ?_
  refine G_pure (E' := [⟨0, [], .slice (some ad) 0 cap⟩, ⟨4, [], .bool false⟩]) [0, 0] [0, 4] rfl (by kernel_rfl) ?_
  refine N_then ?_
  refine G_condf (by kernel_rfl) ?_
  refine G_skip ?_
  refine N_then ?_
  refine G_seq ?_
  refine G_region ?_
  refine GL_buildSlice (i := 0) (ch := []) (e := 5) (l := []) (c := []) rfl rfl (by kernel_rfl) (by kernel_rfl) (by kernel_rfl) (by kernel_rfl) (by kernel_rfl) (fun b1 => ?_)
  refine GL_pure (E' := [⟨6, [], .slice (some ad) 0 cap⟩, ⟨5, [], .slice (some ⟨b1, 0, none⟩) 0 0⟩, ⟨0, [], .slice (some ad) 0 cap⟩, ⟨4, [], .bool false⟩]) [0] (by kernel_rfl) (j := 2) rfl ?_
  refine GL_append (i := 2) (ch := []) (t := 24) (tx := 24) (e := 5) (inf := Try.t5) (s := .slice (some ⟨b1, 0, none⟩) 0 0) (x := .slice (some ad) 0 cap) (n := 0) (m := 0) (j := 0) (cs := []) (news := ([])) (g := [(b1, .cells #[] 5 (0, 0))]) (S := (fun _ _ => False)) rfl rfl rfl rfl (by kernel_rfl) (by kernel_rfl) (by kernel_rfl) rfl rfl (.inl ⟨5, (by kernel_rfl)⟩) (fun ⟨_, h⟩ => by cases h) (fun _ => ⟨5, (by kernel_rfl)⟩) (by kernel_rfl) (by kernel_rfl) (by kernel_rfl) rfl (Own.lit rfl) (SrcOf.slice _ _ _ _ (.inl rfl) (fun h => by cases h)) (fun _ _ h => h.elim) rfl (fun u h => absurd h List.not_mem_nil) (by omega) (by show (0 + 0) * 1 ≤ 140737488355328; omega) (fun v2 g3 hO4 => ?_)
  refine GL_fin (E' := [⟨2, [], v2⟩]) [0] [2] rfl (by kernel_rfl) ?_
  refine N_then ?_
  refine G_ret ?_
  refine N_ret [.tmp 2] [v2] rfl (by kernel_rfl) rfl ?_
  exact ⟨g3, own_nil hO4, rfl⟩


theorem vUsed (d nb kb cb nc : Nat) (room calls : Int) (bv : Value) (fails once : Bool) (nm : SM) (szf : Value → Nat) (hn : MapOk nm nc) (hs : sumN szf nm ≤ 1000000000000) (W0 : World) (H : List Grp) (hB : ∀ e ∈ nm, ∃ p a c kv, e.2.1 = .pointer (some ⟨p, 0, none⟩) ∧ At W0 H p (.cells #[.slice a (szf e.2.1) c, kv] 68 (0, 0))) : Tri Try.prog 26 #[.pointer (some ⟨d, 0, none⟩)] W0 ([(d, .cells #[.int .i64 room, bv, .map (some nb), .map (some kb), .map (some cb), .bool fails, .bool once, .int .i64 calls] 64 (0, 0))] :: [(nb, .map (encM nm) nc)] :: H) (fun v H' => v = .int .i64 ((sumN szf nm : Nat) : Int) ∧ H' = ([(d, .cells #[.int .i64 room, bv, .map (some nb), .map (some kb), .map (some cb), .bool fails, .bool once, .int .i64 calls] 64 (0, 0))] :: [(nb, .map (encM nm) nc)] :: H)) := by
  refine Tri_of (args := [.pointer (some ⟨d, 0, none⟩)]) (n := 25) Try.func26 rfl rfl (Nat.le_of_ble_eq_true rfl) ?_
  refine G_seq ?_
  refine G_pure (E' := [⟨0, [], .pointer (some ⟨d, 0, none⟩)⟩]) [0] [0] rfl (by kernel_rfl) ?_
  refine N_then ?_
  refine G_seq ?_
  refine G_pure (E' := [⟨0, [], .pointer (some ⟨d, 0, none⟩)⟩, ⟨3, [], .int .i64 0⟩]) [0] [0, 3] rfl (by kernel_rfl) ?_
  refine N_then ?_
  refine G_seq ?_
  refine G_seq ?_
  refine G_pure (E' := [⟨0, [], .pointer (some ⟨d, 0, none⟩)⟩, ⟨3, [], .int .i64 0⟩, ⟨7, [], .bool true⟩]) [0, 0] [0, 3, 7] rfl (by kernel_rfl) ?_
  refine N_then ?_
  refine G_condt (by kernel_rfl) ?_
  refine G_seq ?_
  refine G_region ?_
  refine GL_pure (E' := [⟨10, [], .pointer (some ⟨d, 2, none⟩)⟩, ⟨9, [], .pointer (some ⟨d, 0, none⟩)⟩, ⟨8, [], .pointer (some ⟨d, 0, none⟩)⟩, ⟨0, [], .pointer (some ⟨d, 0, none⟩)⟩, ⟨3, [], .int .i64 0⟩, ⟨7, [], .bool true⟩]) [0, 0, 0] (by kernel_rfl) (j := 3) rfl ?_
  refine GL_load (i := 3) (ch := []) (b := d) (off := 2) (v := .map (some nb)) rfl rfl (by kernel_rfl) (by kernel_rfl) (by kernel_rfl) (by kernel_rfl) (by kernel_rfl) (At.grp 0 0 rfl rfl) rfl ?_
  refine GL_range (i := 4) (ch := []) (kt := 9) (et := 66) (r := nb) (c := nc) (m := nm) rfl rfl (by kernel_rfl) (by kernel_rfl) (by kernel_rfl) (by kernel_rfl) (by kernel_rfl) (At.grp 1 0 rfl rfl) (fun it1 => ?_)
  refine GL_fin (E' := [⟨3, [], .int .i64 0⟩, ⟨12, [], .pointer (some ⟨it1, 0, none⟩)⟩]) [] [3, 12] rfl (by kernel_rfl) ?_
  refine N_then ?_
  refine G_block ?_
  refine G_loop (EI := (fun ξ : SM × SM => [⟨3, [], .int .i64 ((sumN szf ξ.1 : Nat) : Int)⟩, ⟨12, [], .pointer (some ⟨it1, 0, none⟩)⟩])) (HI := (fun ξ : SM × SM => ([(it1, .mapIter (some nb) nc (seenOf ξ.1) nc)] :: [(d, .cells #[.int .i64 room, bv, .map (some nb), .map (some kb), .map (some cb), .bool fails, .bool once, .int .i64 calls] 64 (0, 0))] :: [(nb, .map (encM nm) nc)] :: H))) (Φ := (fun ξ : SM × SM => ((ξ.1 ++ ξ.2).Perm nm))) (μ := (fun ξ : SM × SM => ξ.2.length)) (s0 := ([], nm)) [3, 12] (by kernel_rfl) (by rfl) (List.Perm.refl _) ?_
  rintro ⟨dn, rest⟩ hpm
  have hsp := sumN_part (f := szf) hpm
  refine G_seq ?_
  refine G_region ?_
  refine GL_next (i := 0) (ch := []) (it := it1) (r := nb) (c := nc) (j := 0) (q := 0) (m := nm) (dn := dn) (rest := rest) rfl rfl (by kernel_rfl) (by kernel_rfl) (by kernel_rfl) (by kernel_rfl) rfl rfl (At.grp 2 0 rfl rfl) hn hpm (fun hend6 => ?_) (fun e2 rest3 hp4 hq5 => ?_)
  ·
    refine GL_fin (E' := [⟨3, [], .int .i64 ((sumN szf dn : Nat) : Int)⟩, ⟨12, [], .pointer (some ⟨it1, 0, none⟩)⟩, ⟨14, [], .bool false⟩]) [0] [3, 12, 14] rfl (by kernel_rfl) ?_
    refine N_then ?_
    refine G_seq ?_
    refine G_condf (by kernel_rfl) ?_
    refine G_exit ?_
    refine N_then_exit ?_
    refine N_then_exit ?_
    refine N_block_exit ?_
    refine N_then ?_
    refine G_seq ?_
    refine G_pure (E' := [⟨2, [], .int .i64 ((sumN szf dn : Nat) : Int)⟩]) [0, 0] [2] rfl (by kernel_rfl) ?_
    refine N_then ?_
    refine G_ret ?_
    refine N_heap (H' := ([(d, .cells #[.int .i64 room, bv, .map (some nb), .map (some kb), .map (some cb), .bool fails, .bool once, .int .i64 calls] 64 (0, 0))] :: [(nb, .map (encM nm) nc)] :: H)) (fun w h => h.erase 0) ?_
    refine N_ret [.tmp 2] [.int .i64 ((sumN szf dn : Nat) : Int)] rfl (by kernel_rfl) rfl ?_
    exact ⟨by rw [sumN_perm (show dn.Perm nm by simpa [hend6] using hpm)]; rfl, rfl⟩
  ·
    obtain ⟨p10, a11, c12, kv13, hve, hat14⟩ := hB e2 (hq5.mem_iff.1 (by simp))
    obtain ⟨k7, v8, st9⟩ := e2
    simp only at hve
    subst hve
    have hsq := sumN_part (f := szf) hq5
    rw [sumN_snoc] at hsq
    simp only at hsq
    refine GL_fin (E' := [⟨3, [], .int .i64 ((sumN szf dn : Nat) : Int)⟩, ⟨12, [], .pointer (some ⟨it1, 0, none⟩)⟩, ⟨14, [], .bool true⟩]) [0] [3, 12, 14] rfl (by kernel_rfl) ?_
    refine N_then ?_
    refine G_seq ?_
    refine G_condt (by kernel_rfl) ?_
    refine G_skip ?_
    refine N_then ?_
    refine G_block ?_
    refine G_seq ?_
    refine G_region ?_
    refine GL_entry (i := 0) (ch := []) (it := it1) (r := nb) (c := nc) (m := nm) (dn := dn) (e := (k7, .pointer (some ⟨p10, 0, none⟩), st9)) rfl rfl (by kernel_rfl) (by kernel_rfl) (by kernel_rfl) (by kernel_rfl) (At.grp 0 0 rfl rfl) (At.grp 2 0 rfl rfl) hn (hq5.mem_iff.1 (by simp)) ?_
    refine GL_fin (E' := [⟨3, [], .int .i64 ((sumN szf dn : Nat) : Int)⟩, ⟨5, [], .pointer (some ⟨p10, 0, none⟩)⟩, ⟨12, [], .pointer (some ⟨it1, 0, none⟩)⟩]) [0, 0] [3, 5, 12] rfl (by kernel_rfl) ?_
    refine N_then ?_
    refine G_region ?_
    refine GL_pure (E' := [⟨20, [], .pointer (some ⟨p10, 0, none⟩)⟩, ⟨19, [], .pointer (some ⟨p10, 0, none⟩)⟩, ⟨18, [], .pointer (some ⟨p10, 0, none⟩)⟩, ⟨17, [], .int .i64 ((sumN szf dn : Nat) : Int)⟩, ⟨3, [], .int .i64 ((sumN szf dn : Nat) : Int)⟩, ⟨5, [], .pointer (some ⟨p10, 0, none⟩)⟩, ⟨12, [], .pointer (some ⟨it1, 0, none⟩)⟩]) [0, 0, 0, 0] (by kernel_rfl) (j := 4) rfl ?_
    refine GL_load (i := 4) (ch := []) (b := p10) (off := 0) (v := .slice a11 (szf (.pointer (some ⟨p10, 0, none⟩))) c12) rfl rfl (by kernel_rfl) (by kernel_rfl) (by kernel_rfl) (by kernel_rfl) (by kernel_rfl) (At.cons (At.cons (At.cons hat14))) rfl ?_
    have hw15 : IntKind.wrap .i64 (((sumN szf dn : Nat) : Int) + (((szf (.pointer (some ⟨p10, 0, none⟩))) : Nat) : Int)) = ((sumN szf dn : Nat) : Int) + (((szf (.pointer (some ⟨p10, 0, none⟩))) : Nat) : Int) := w64 (by omega) (by omega)
    refine GL_fin (E' := [⟨3, [], .int .i64 (((sumN szf dn : Nat) : Int) + (((szf (.pointer (some ⟨p10, 0, none⟩))) : Nat) : Int))⟩, ⟨12, [], .pointer (some ⟨it1, 0, none⟩)⟩]) [0, 0, 0] [3, 12] rfl (Eq.trans (b := some [⟨3, [], .int .i64 (IntKind.wrap .i64 (((sumN szf dn : Nat) : Int) + (((szf (.pointer (some ⟨p10, 0, none⟩))) : Nat) : Int)))⟩, ⟨12, [], .pointer (some ⟨it1, 0, none⟩)⟩]) (by kernel_rfl) (by simp only [hw15])) ?_
    refine N_block ?_
    refine N_env (E' := [⟨3, [], .int .i64 ((sumN szf (dn ++ [(k7, .pointer (some ⟨p10, 0, none⟩), st9)]) : Nat) : Int)⟩, ⟨12, [], .pointer (some ⟨it1, 0, none⟩)⟩]) (by rw [sumN_snoc]; rfl) ?_
    refine N_heap (H' := ([(it1, .mapIter (some nb) nc (seenOf (dn ++ [(k7, .pointer (some ⟨p10, 0, none⟩), st9)])) nc)] :: [(d, .cells #[.int .i64 room, bv, .map (some nb), .map (some kb), .map (some cb), .bool fails, .bool once, .int .i64 calls] 64 (0, 0))] :: [(nb, .map (encM nm) nc)] :: H)) (fun w h => (((h.front (j := 2) rfl).front (j := 2) rfl).front (j := 2) rfl)) ?_
    refine N_round (s' := (dn ++ [(k7, .pointer (some ⟨p10, 0, none⟩), st9)], rest3)) [3, 12] (by kernel_rfl) (by rfl) hq5 (by have := hp4.length_eq; simp only [List.length_cons] at this; show rest3.length < rest.length; omega)

theorem vReadNo (d nb kb cb nc : Nat) (room calls : Int) (bv : Value) (fails once : Bool) (nm : SM) (path : ByteArray) (hg : mget nm path = none) (W0 : World) (H : List Grp) : Tri Try.prog 19 #[.pointer (some ⟨d, 0, none⟩), .string path] W0 ([(d, .cells #[.int .i64 room, bv, .map (some nb), .map (some kb), .map (some cb), .bool fails, .bool once, .int .i64 calls] 64 (0, 0))] :: [(nb, .map (encM nm) nc)] :: H) (fun v H' => v = .tuple #[.slice none 0 0, .int .i64 60] ∧ H' = ([(d, .cells #[.int .i64 room, bv, .map (some nb), .map (some kb), .map (some cb), .bool fails, .bool once, .int .i64 calls] 64 (0, 0))] :: [(nb, .map (encM nm) nc)] :: H)) := by
  refine Tri_of (args := [.pointer (some ⟨d, 0, none⟩), .string path]) (n := 22) Try.func19 rfl rfl (Nat.le_of_ble_eq_true rfl) ?_
  refine G_seq ?_
  refine G_pure (E' := [⟨0, [], .pointer (some ⟨d, 0, none⟩)⟩, ⟨1, [], .string path⟩]) [0, 0] [0, 1] rfl (by kernel_rfl) ?_
  refine N_then ?_
  refine G_seq ?_
  refine G_seq ?_
  refine G_pure (E' := [⟨0, [], .pointer (some ⟨d, 0, none⟩)⟩, ⟨1, [], .string path⟩, ⟨8, [], .bool false⟩]) [0, 0] [0, 1, 8] rfl (by kernel_rfl) ?_
  refine N_then ?_
  refine G_condf (by kernel_rfl) ?_
  refine G_skip ?_
  refine N_then ?_
  refine G_seq ?_
  refine G_region ?_
  refine GL_pure (E' := [⟨11, [], .pointer (some ⟨d, 2, none⟩)⟩, ⟨10, [], .pointer (some ⟨d, 0, none⟩)⟩, ⟨9, [], .pointer (some ⟨d, 0, none⟩)⟩, ⟨0, [], .pointer (some ⟨d, 0, none⟩)⟩, ⟨1, [], .string path⟩, ⟨8, [], .bool false⟩]) [0, 0, 0] (by kernel_rfl) (j := 3) rfl ?_
  refine GL_load (i := 3) (ch := []) (b := d) (off := 2) (v := .map (some nb)) rfl rfl (by kernel_rfl) (by kernel_rfl) (by kernel_rfl) (by kernel_rfl) (by kernel_rfl) (At.grp 0 0 rfl rfl) rfl ?_
  refine GL_pure (E' := [⟨13, [], .string path⟩, ⟨12, [], .map (some nb)⟩, ⟨11, [], .pointer (some ⟨d, 2, none⟩)⟩, ⟨10, [], .pointer (some ⟨d, 0, none⟩)⟩, ⟨9, [], .pointer (some ⟨d, 0, none⟩)⟩, ⟨0, [], .pointer (some ⟨d, 0, none⟩)⟩, ⟨1, [], .string path⟩, ⟨8, [], .bool false⟩]) [0] (by kernel_rfl) (j := 5) rfl ?_
  refine GL_lookup (i := 5) (ch := []) (kt := 9) (et := 66) (r := nb) (c := nc) (m := nm) (k := path) (z := .pointer none) (ov := none) rfl rfl (by kernel_rfl) (by kernel_rfl) (by kernel_rfl) (by kernel_rfl) (by kernel_rfl) (by kernel_rfl) (by kernel_rfl) (by kernel_rfl) (At.grp 1 0 rfl rfl) (fun _ => hg) ?_
  refine GL_fin (E' := [⟨6, [], .pointer none⟩]) [0] [6] rfl (by kernel_rfl) ?_
  refine N_then ?_
  refine G_seq ?_
  refine G_seq ?_
  refine G_pure (E' := [⟨6, [], .pointer none⟩, ⟨16, [], .bool true⟩]) [0, 0] [6, 16] rfl (by kernel_rfl) ?_
  refine N_then ?_
  refine G_condt (by kernel_rfl) ?_
  refine G_seq ?_
  refine G_pure (E' := [⟨4, [], .slice none 0 0⟩, ⟨5, [], .int .i64 60⟩]) [0, 0] [4, 5] rfl (by kernel_rfl) ?_
  refine N_then ?_
  refine G_ret ?_
  refine N_then_ret ?_
  refine N_ret [.tmp 4, .tmp 5] [.slice none 0 0, .int .i64 60] rfl (by kernel_rfl) rfl ?_
  exact ⟨rfl, rfl⟩

theorem vReadNil (d nb kb cb nc : Nat) (room calls : Int) (bv : Value) (fails once : Bool) (nm : SM) (path : ByteArray) (p : Nat) (kv : Value) (hg : mget nm path = some (.pointer (some ⟨p, 0, none⟩))) (W0 : World) (H : List Grp) (hp : At W0 H p (.cells #[.slice none 0 0, kv] 68 (0, 0))) : Tri Try.prog 19 #[.pointer (some ⟨d, 0, none⟩), .string path] W0 ([(d, .cells #[.int .i64 room, bv, .map (some nb), .map (some kb), .map (some cb), .bool fails, .bool once, .int .i64 calls] 64 (0, 0))] :: [(nb, .map (encM nm) nc)] :: H) (fun v H' => v = .tuple #[.slice none 0 0, .int .i64 0] ∧ H' = ([(d, .cells #[.int .i64 room, bv, .map (some nb), .map (some kb), .map (some cb), .bool fails, .bool once, .int .i64 calls] 64 (0, 0))] :: [(nb, .map (encM nm) nc)] :: H)) := by
  refine Tri_of (args := [.pointer (some ⟨d, 0, none⟩), .string path]) (n := 22) Try.func19 rfl rfl (Nat.le_of_ble_eq_true rfl) ?_
  refine G_seq ?_
  refine G_pure (E' := [⟨0, [], .pointer (some ⟨d, 0, none⟩)⟩, ⟨1, [], .string path⟩]) [0, 0] [0, 1] rfl (by kernel_rfl) ?_
  refine N_then ?_
  refine G_seq ?_
  refine G_seq ?_
  refine G_pure (E' := [⟨0, [], .pointer (some ⟨d, 0, none⟩)⟩, ⟨1, [], .string path⟩, ⟨8, [], .bool false⟩]) [0, 0] [0, 1, 8] rfl (by kernel_rfl) ?_
  refine N_then ?_
  refine G_condf (by kernel_rfl) ?_
  refine G_skip ?_
  refine N_then ?_
  refine G_seq ?_
  refine G_region ?_
  refine GL_pure (E' := [⟨11, [], .pointer (some ⟨d, 2, none⟩)⟩, ⟨10, [], .pointer (some ⟨d, 0, none⟩)⟩, ⟨9, [], .pointer (some ⟨d, 0, none⟩)⟩, ⟨0, [], .pointer (some ⟨d, 0, none⟩)⟩, ⟨1, [], .string path⟩, ⟨8, [], .bool false⟩]) [0, 0, 0] (by kernel_rfl) (j := 3) rfl ?_
  refine GL_load (i := 3) (ch := []) (b := d) (off := 2) (v := .map (some nb)) rfl rfl (by kernel_rfl) (by kernel_rfl) (by kernel_rfl) (by kernel_rfl) (by kernel_rfl) (At.grp 0 0 rfl rfl) rfl ?_
  refine GL_pure (E' := [⟨13, [], .string path⟩, ⟨12, [], .map (some nb)⟩, ⟨11, [], .pointer (some ⟨d, 2, none⟩)⟩, ⟨10, [], .pointer (some ⟨d, 0, none⟩)⟩, ⟨9, [], .pointer (some ⟨d, 0, none⟩)⟩, ⟨0, [], .pointer (some ⟨d, 0, none⟩)⟩, ⟨1, [], .string path⟩, ⟨8, [], .bool false⟩]) [0] (by kernel_rfl) (j := 5) rfl ?_
  refine GL_lookup (i := 5) (ch := []) (kt := 9) (et := 66) (r := nb) (c := nc) (m := nm) (k := path) (z := .pointer none) (ov := (some (.pointer (some ⟨p, 0, none⟩)))) rfl rfl (by kernel_rfl) (by kernel_rfl) (by kernel_rfl) (by kernel_rfl) (by kernel_rfl) (by kernel_rfl) (by kernel_rfl) (by kernel_rfl) (At.grp 1 0 rfl rfl) (fun _ => hg) ?_
  refine GL_fin (E' := [⟨6, [], .pointer (some ⟨p, 0, none⟩)⟩]) [0] [6] rfl (by kernel_rfl) ?_
  refine N_then ?_
  refine G_seq ?_
  refine G_seq ?_
  refine G_pure (E' := [⟨6, [], .pointer (some ⟨p, 0, none⟩)⟩, ⟨16, [], .bool false⟩]) [0, 0] [6, 16] rfl (by kernel_rfl) ?_
  refine N_then ?_
  refine G_condf (by kernel_rfl) ?_
  refine G_skip ?_
  refine N_then ?_
  refine G_seq ?_
  refine G_region ?_
  refine GL_pure (E' := [⟨19, [], .pointer (some ⟨p, 0, none⟩)⟩, ⟨18, [], .pointer (some ⟨p, 0, none⟩)⟩, ⟨17, [], .pointer (some ⟨p, 0, none⟩)⟩, ⟨6, [], .pointer (some ⟨p, 0, none⟩)⟩, ⟨16, [], .bool false⟩]) [0, 0, 0] (by kernel_rfl) (j := 3) rfl ?_
  refine GL_load (i := 3) (ch := []) (b := p) (off := 0) (v := .slice none 0 0) rfl rfl (by kernel_rfl) (by kernel_rfl) (by kernel_rfl) (by kernel_rfl) (by kernel_rfl) (At.cons (At.cons hp)) rfl ?_
  refine GL_callQ (i := 4) (ch := []) (f := 35) (fst := #[]) (caps := #[]) (vs := [.slice none 0 0]) (v := .slice none 0 0) rfl rfl rfl (by kernel_rfl) (by kernel_rfl) Try.func35 rfl rfl (by kernel_rfl) (by kernel_rfl) (by kernel_rfl) (fun _ => vCloneNil _ _) ?_
  refine GL_fin (E' := [⟨4, [], .slice none 0 0⟩, ⟨5, [], .int .i64 0⟩]) [0, 0] [4, 5] rfl (by kernel_rfl) ?_
  refine N_then ?_
  refine G_ret ?_
  refine N_ret [.tmp 4, .tmp 5] [.slice none 0 0, .int .i64 0] rfl (by kernel_rfl) rfl ?_
  exact ⟨rfl, rfl⟩

theorem vReadYes (d nb kb cb nc : Nat) (room calls : Int) (bv : Value) (fails once : Bool) (nm : SM) (path : ByteArray) (b off n cap : Nat) (S : Nat → Obj → Prop) (l : List UInt8) (hrd : Rd S (some ⟨b, off, none⟩) (u8s l)) (hl : l.length = n) (hn : n ≤ 1000000000) (p : Nat) (kv : Value) (hg : mget nm path = some (.pointer (some ⟨p, 0, none⟩))) (W0 : World) (H : List Grp) (hS : ∀ y o, S y o → At W0 H y o) (hp : At W0 H p (.cells #[.slice (some ⟨b, off, none⟩) n cap, kv] 68 (0, 0))) : Tri Try.prog 19 #[.pointer (some ⟨d, 0, none⟩), .string path] W0 ([(d, .cells #[.int .i64 room, bv, .map (some nb), .map (some kb), .map (some cb), .bool fails, .bool once, .int .i64 calls] 64 (0, 0))] :: [(nb, .map (encM nm) nc)] :: H) (fun v H' => ∃ x g, v = .tuple #[x, .int .i64 0] ∧ Own 5 1 x g n (u8s l) ∧ H' = g :: ([(d, .cells #[.int .i64 room, bv, .map (some nb), .map (some kb), .map (some cb), .bool fails, .bool once, .int .i64 calls] 64 (0, 0))] :: [(nb, .map (encM nm) nc)] :: H)) := by
  refine Tri_of (args := [.pointer (some ⟨d, 0, none⟩), .string path]) (n := 22) Try.func19 rfl rfl (Nat.le_of_ble_eq_true rfl) ?_
  refine G_seq ?_
  refine G_pure (E' := [⟨0, [], .pointer (some ⟨d, 0, none⟩)⟩, ⟨1, [], .string path⟩]) [0, 0] [0, 1] rfl (by kernel_rfl) ?_
  refine N_then ?_
  refine G_seq ?_
  refine G_seq ?_
  refine G_pure (E' := [⟨0, [], .pointer (some ⟨d, 0, none⟩)⟩, ⟨1, [], .string path⟩, ⟨8, [], .bool false⟩]) [0, 0] [0, 1, 8] rfl (by kernel_rfl) ?_
  refine N_then ?_
  refine G_condf (by kernel_rfl) ?_
  refine G_skip ?_
  refine N_then ?_
  refine G_seq ?_
  refine G_region ?_
  refine GL_pure (E' := [⟨11, [], .pointer (some ⟨d, 2, none⟩)⟩, ⟨10, [], .pointer (some ⟨d, 0, none⟩)⟩, ⟨9, [], .pointer (some ⟨d, 0, none⟩)⟩, ⟨0, [], .pointer (some ⟨d, 0, none⟩)⟩, ⟨1, [], .string path⟩, ⟨8, [], .bool false⟩]) [0, 0, 0] (by kernel_rfl) (j := 3) rfl ?_
  refine GL_load (i := 3) (ch := []) (b := d) (off := 2) (v := .map (some nb)) rfl rfl (by kernel_rfl) (by kernel_rfl) (by kernel_rfl) (by kernel_rfl) (by kernel_rfl) (At.grp 0 0 rfl rfl) rfl ?_
  refine GL_pure (E' := [⟨13, [], .string path⟩, ⟨12, [], .map (some nb)⟩, ⟨11, [], .pointer (some ⟨d, 2, none⟩)⟩, ⟨10, [], .pointer (some ⟨d, 0, none⟩)⟩, ⟨9, [], .pointer (some ⟨d, 0, none⟩)⟩, ⟨0, [], .pointer (some ⟨d, 0, none⟩)⟩, ⟨1, [], .string path⟩, ⟨8, [], .bool false⟩]) [0] (by kernel_rfl) (j := 5) rfl ?_
  refine GL_lookup (i := 5) (ch := []) (kt := 9) (et := 66) (r := nb) (c := nc) (m := nm) (k := path) (z := .pointer none) (ov := (some (.pointer (some ⟨p, 0, none⟩)))) rfl rfl (by kernel_rfl) (by kernel_rfl) (by kernel_rfl) (by kernel_rfl) (by kernel_rfl) (by kernel_rfl) (by kernel_rfl) (by kernel_rfl) (At.grp 1 0 rfl rfl) (fun _ => hg) ?_
  refine GL_fin (E' := [⟨6, [], .pointer (some ⟨p, 0, none⟩)⟩]) [0] [6] rfl (by kernel_rfl) ?_
  refine N_then ?_
  refine G_seq ?_
  refine G_seq ?_
  refine G_pure (E' := [⟨6, [], .pointer (some ⟨p, 0, none⟩)⟩, ⟨16, [], .bool false⟩]) [0, 0] [6, 16] rfl (by kernel_rfl) ?_
  refine N_then ?_
  refine G_condf (by kernel_rfl) ?_
  refine G_skip ?_
  refine N_then ?_
  refine G_seq ?_
  refine G_region ?_
  refine GL_pure (E' := [⟨19, [], .pointer (some ⟨p, 0, none⟩)⟩, ⟨18, [], .pointer (some ⟨p, 0, none⟩)⟩, ⟨17, [], .pointer (some ⟨p, 0, none⟩)⟩, ⟨6, [], .pointer (some ⟨p, 0, none⟩)⟩, ⟨16, [], .bool false⟩]) [0, 0, 0] (by kernel_rfl) (j := 3) rfl ?_
  refine GL_load (i := 3) (ch := []) (b := p) (off := 0) (v := .slice (some ⟨b, off, none⟩) n cap) rfl rfl (by kernel_rfl) (by kernel_rfl) (by kernel_rfl) (by kernel_rfl) (by kernel_rfl) (At.cons (At.cons hp)) rfl ?_
  refine GL_call (i := 4) (ch := []) (f := 35) (fst := #[]) (caps := #[]) (vs := [.slice (some ⟨b, off, none⟩) n cap]) rfl rfl rfl (by kernel_rfl) (by kernel_rfl) Try.func35 rfl rfl (by kernel_rfl) (by kernel_rfl) (chSure_of (by kernel_rfl)) (vClone b off n cap S l hrd hl hn _ _ (fun y o h => (At.cons (At.cons (hS y o h))))) ?_
  rintro v3 _ ⟨g1, hO2, rfl⟩
  refine GL_fin (E' := [⟨4, [], v3⟩, ⟨5, [], .int .i64 0⟩]) [0, 0] [4, 5] rfl (by kernel_rfl) ?_
  refine N_then ?_
  refine G_ret ?_
  refine N_ret [.tmp 4, .tmp 5] [v3, .int .i64 0] rfl (by kernel_rfl) rfl ?_
  exact ⟨_, g1, rfl, hO2, rfl⟩

theorem vRead0 (path : ByteArray) (W0 : World) (H : List Grp) : Tri Try.prog 19 #[.pointer none, .string path] W0 H (fun v H' => v = .tuple #[.slice none 0 0, .int .i64 1] ∧ H' = H) := by
  refine Tri_of (args := [.pointer none, .string path]) (n := 22) Try.func19 rfl rfl (Nat.le_of_ble_eq_true rfl) ?_
  refine G_seq ?_
  refine G_pure (E' := [⟨0, [], .pointer none⟩, ⟨1, [], .string path⟩]) [0, 0] [0, 1] rfl (by kernel_rfl) ?_
  refine N_then ?_
  refine G_seq ?_
  refine G_seq ?_
  refine G_pure (E' := [⟨0, [], .pointer none⟩, ⟨1, [], .string path⟩, ⟨8, [], .bool true⟩]) [0, 0] [0, 1, 8] rfl (by kernel_rfl) ?_
  refine N_then ?_
  refine G_condt (by kernel_rfl) ?_
  refine G_seq ?_
  refine G_pure (E' := [⟨4, [], .slice none 0 0⟩, ⟨5, [], .int .i64 1⟩]) [0, 0] [4, 5] rfl (by kernel_rfl) ?_
  refine N_then ?_
  refine G_ret ?_
  refine N_then_ret ?_
  refine N_ret [.tmp 4, .tmp 5] [.slice none 0 0, .int .i64 1] rfl (by kernel_rfl) rfl ?_
  exact ⟨rfl, rfl⟩

end Go.Proofs.Ytbmieiffboenbaa
