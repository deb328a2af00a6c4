/- The disk's calls, over a heap whose first groups are told: for walks of the laws. Conditions: the numbers are small. -/
import Derived.Test.YtbmieiffboenbaaRh
import Derived.Test.YtbmieiffboenbaaBytes
import Derived.Test.YtbmieiffboenbaaByteconv
import Derived.Test.YtbmieiffboenbaaVk
namespace Go.Vf
open Go.Sw Go.RowKit Go.Proofs Go.Proofs.Ytbmieiffboenbaa

def IsK (K : List Grp) (d : Nat) (M : DM) (v0 : Value) (H : List Grp) : Value → List Grp → Prop := fun v H' => v = v0 ∧ ∃ s : DS, s.ok M ∧ H' = K ++ (s.G d M ++ H)
theorem front_to {K X H : List Grp} {W0 : World} {w : World} (hw : Sat W0 (K ++ (X ++ H)) w) : Sat W0 (X ++ (K ++ H)) w := sat_cnt hw fun _ x => by
  simp only [List.flatten_append, List.count_append]; omega
theorem is_front {f : FuncId} {args : Array Value} {W0 : World} {s : DS} {d : Nat} {M M' : DM} {v0 : Value} {K H : List Grp} (h : Tri Try.prog f args W0 (s.G d M ++ (K ++ H)) (Is d M' v0 (K ++ H))) : Tri Try.prog f args W0 (K ++ (s.G d M ++ H)) (IsK K d M' v0 H) :=
  Tri.heap (fun _ hw => front_to hw) (Tri.post h fun v H1 ⟨hv, s', hs, hH⟩ => ⟨_, ⟨hv, s', hs, rfl⟩, fun w hw => by rw [hH] at hw; exact front_to hw⟩)
theorem BytesV.up {W0 : World} {H : List Grp} {v : Value} {b : ByteArray} (h : BytesV W0 [] v b) : BytesV W0 H v b := by
  rcases h with h | h | ⟨k, off, cap, S, h1, h2, h3⟩
  · exact .inl h
  · exact .inr (.inl h)
  · refine .inr (.inr ⟨k, off, cap, S, h1, h2, fun y o hy => ?_⟩)
    rcases h3 y o hy with h | h
    · exact .inl h
    · cases h
theorem at_up {W0 : World} {H : List Grp} {y : Nat} {o : Obj} (h : At W0 [] y o) : At W0 H y o := by
  rcases h with h | h
  · exact .inl h
  · cases h
theorem ksNext_ok1 {S : Nat → Obj → Prop} {l : List Int} {a : Option Addr} {c : Nat} (h : KsOk S ⟨l, a, c⟩) (hl : l ≠ []) : KsOk S ⟨l.drop 1, cutA a c 1 1, c - 1⟩ := by
  have := ksNext_ok h
  unfold ksNext at this
  simp only [if_neg hl] at this
  exact this
/-- bytes: how they lie -/
structure BytesA (W0 : World) (H : List Grp) (a : Option Addr) (c : Nat) (S : Nat → Obj → Prop) (b : ByteArray) : Prop where
  sh : (a = none ∧ b.size = 0 ∧ c = 0) ∨ (∃ ad, a = some ad ∧ b.size = 0) ∨ ∃ k off, a = some ⟨k, off, none⟩
  rd : Rd S a (u8s b.data.toList)
  at_ : ∀ y o, S y o → At W0 H y o
theorem BytesA.v {W0 : World} {H : List Grp} {a : Option Addr} {c : Nat} {S : Nat → Obj → Prop} {b : ByteArray} (h : BytesA W0 H a c S b) : BytesV W0 H (.slice a b.size c) b := by
  have he : b.size = 0 → b = ByteArray.mk #[] := fun h2 => by
    cases b with | mk d =>
    have : d = #[] := Array.eq_empty_of_size_eq_zero h2
    rw [this]
  rcases h.sh with ⟨h1, h2, h3⟩ | ⟨ad, h1, h2⟩ | ⟨k, off, h1⟩
  · left
    subst h1 h3
    exact ⟨by rw [h2], he h2⟩
  · right; left
    subst h1
    exact ⟨ad, c, by rw [h2], he h2⟩
  · have h4 := h.rd
    have h5 := h.at_
    subst h1
    exact .inr (.inr ⟨k, off, c, S, rfl, h4, h5⟩)
theorem dWrite {s : DS} {M M' : DM} {e : Int} (h : s.ok M) (hm : Small M) (d : Nat) (path b : ByteArray) (hpath : path.size ≤ 9223372036854775807) (hb : b.size ≤ 1000000000) (K : List Grp) (W0 : World) (H : List Grp) {bv : Value} (hbv : BytesV W0 (K ++ H) bv b) (he : writeM M path b = (e, M')) :
    Tri Try.prog 13 #[.pointer (some ⟨d, 0, none⟩), .string path, bv] W0 (K ++ (s.G d M ++ H)) (IsK K d M' (.int .i64 e) H) := by
  have := cWrite h hm d path b hpath hb W0 (K ++ H) hbv
  rw [he] at this
  exact is_front this
theorem dAppend {s : DS} {M M' : DM} {e : Int} (h : s.ok M) (hm : Small M) (d : Nat) (path b : ByteArray) (hpath : path.size ≤ 9223372036854775807) (hb : b.size ≤ 1000000000) (K : List Grp) (W0 : World) (H : List Grp) {bv : Value} (hbv : BytesV W0 (K ++ H) bv b) (he : appendM M path b = (e, M')) :
    Tri Try.prog 22 #[.pointer (some ⟨d, 0, none⟩), .string path, bv] W0 (K ++ (s.G d M ++ H)) (IsK K d M' (.int .i64 e) H) := by
  have := cAppend h hm d path b hpath hb W0 (K ++ H) hbv
  rw [he] at this
  exact is_front this
theorem dSync {s : DS} {M M' : DM} {e : Int} (h : s.ok M) (hm : Small M) (d : Nat) (path : ByteArray) (hpath : path.size ≤ 9223372036854775807) (K : List Grp) (W0 : World) (H : List Grp) (he : syncM M path = (e, M')) :
    Tri Try.prog 14 #[.pointer (some ⟨d, 0, none⟩), .string path] W0 (K ++ (s.G d M ++ H)) (IsK K d M' (.int .i64 e) H) := by
  have := cSync h hm d path hpath W0 (K ++ H)
  rw [he] at this
  exact is_front this
theorem dRemove {s : DS} {M M' : DM} {e : Int} (h : s.ok M) (hm : Small M) (d : Nat) (path : ByteArray) (hpath : path.size ≤ 9223372036854775807) (K : List Grp) (W0 : World) (H : List Grp) (he : removeM M path = (e, M')) :
    Tri Try.prog 43 #[.pointer (some ⟨d, 0, none⟩), .string path] W0 (K ++ (s.G d M ++ H)) (IsK K d M' (.int .i64 e) H) := by
  have := cRemove h hm d path hpath W0 (K ++ H)
  rw [he] at this
  exact is_front this
theorem dSyncDir {s : DS} {M M' : DM} {e : Int} (h : s.ok M) (hm : Small M) (d : Nat) (path : ByteArray) (hpath : path.size ≤ 9223372036854775807) (K : List Grp) (W0 : World) (H : List Grp) (he : syncDirM M path = (e, M')) :
    Tri Try.prog 15 #[.pointer (some ⟨d, 0, none⟩), .string path] W0 (K ++ (s.G d M ++ H)) (IsK K d M' (.int .i64 e) H) := by
  have := cSyncDir h hm d path hpath W0 (K ++ H)
  rw [he] at this
  exact is_front this
theorem dRename {s : DS} {M M' : DM} {e : Int} (h : s.ok M) (hm : Small M) (d : Nat) (path to : ByteArray) (hpath : path.size ≤ 9223372036854775807) (hto : to.size ≤ 9223372036854775807) (K : List Grp) (W0 : World) (H : List Grp) (he : renameM M path to = (e, M')) :
    Tri Try.prog 17 #[.pointer (some ⟨d, 0, none⟩), .string path, .string to] W0 (K ++ (s.G d M ++ H)) (IsK K d M' (.int .i64 e) H) := by
  have := cRename h hm d path to hpath hto W0 (K ++ H)
  rw [he] at this
  exact is_front this
theorem dFail {s : DS} {M M' : DM} (h : s.ok M) (d : Nat) (n : Int) (o : Bool) (K : List Grp) (W0 : World) (H : List Grp) (he : failM M n o = M') :
    Tri Try.prog 16 #[.pointer (some ⟨d, 0, none⟩), .int .i64 n, .bool o] W0 (K ++ (s.G d M ++ H)) (IsK K d M' (.tuple #[]) H) := by
  have := cFail h d n o W0 (K ++ H)
  rw [he] at this
  exact is_front this
theorem dCrash {s : DS} {M : DM} (h : s.ok M) (hm : Small M) (d : Nat) (l : List Int) (a : Option Addr) (c : Nat) (S0 : Nat → Obj → Prop) (hks : KsOk S0 ⟨l, a, c⟩) (K : List Grp) (W0 : World) (H : List Grp) (hS0 : ∀ y o, S0 y o → At W0 (K ++ H) y o) :
    Tri Try.prog 18 #[.pointer (some ⟨d, 0, none⟩), .slice a l.length c] W0 (K ++ (s.G d M ++ H)) (IsK K d (crashM M l) (.tuple #[]) H) :=
  is_front (cCrash h hm d ⟨l, a, c⟩ S0 hks W0 (K ++ H) hS0)
theorem dNew (room : Int) {M : DM} (W0 : World) (H : List Grp) (he : newM room = M) : Tri Try.prog 12 #[.int .i64 room] W0 H (fun v H' => ∃ d, v = .pointer (some ⟨d, 0, none⟩) ∧ ∃ s : DS, s.ok M ∧ H' = s.G d M ++ H) := by
  subst he; exact cNew room W0 H
/-- what is read: its slice, its row -/
theorem dRead {s : DS} {M : DM} {b : ByteArray} {e : Int} (h : s.ok M) (hm : ∀ B ∈ M.bodies, B.now.size ≤ 10000000) (d : Nat) (path : ByteArray) (K : List Grp) (W0 : World) (H : List Grp) (he : readM M path = (b, e)) :
    Tri Try.prog 19 #[.pointer (some ⟨d, 0, none⟩), .string path] W0 (K ++ (s.G d M ++ H)) (fun v H' => ∃ a c g, v = .tuple #[.slice a b.size c, .int .i64 e] ∧ b.size ≤ c ∧ Rd (inG g) a (u8s b.data.toList) ∧ H' = g :: (K ++ (s.G d M ++ H))) := by
  have := cRead h hm d path W0 (K ++ H)
  rw [he] at this
  refine Tri.heap (fun _ hw => front_to hw) (Tri.post this fun v H1 ⟨x, g, hv, ho, hH⟩ => ?_)
  obtain ⟨a, c, rfl, hc, hr⟩ := ho.shape
  refine ⟨_, ⟨a, c, g, hv, hc, hr, rfl⟩, fun w hw => ?_⟩
  rw [hH] at hw
  refine sat_cnt hw fun _ x => ?_
  simp only [List.flatten_cons, List.flatten_append, List.count_append]
  omega
theorem dUsed {s : DS} {M : DM} (h : s.ok M) (hm : Small M) (d : Nat) (K : List Grp) (W0 : World) (H : List Grp) :
    Tri Try.prog 26 #[.pointer (some ⟨d, 0, none⟩)] W0 (K ++ (s.G d M ++ H)) (fun v H' => v = .int .i64 (usedM M : Int) ∧ H' = K ++ (s.G d M ++ H)) :=
  Tri.heap (fun _ hw => front_to hw) (Tri.post (cUsed h hm d W0 (K ++ H)) fun _ _ ⟨hv, hH⟩ => ⟨_, ⟨hv, rfl⟩, fun w hw => by rw [hH] at hw; exact front_to hw⟩)
theorem dList {s : DS} {M : DM} (h : s.ok M) (hm : Small M) (d : Nat) (dir : ByteArray) (K : List Grp) (W0 : World) (H : List Grp) :
    Tri Try.prog 21 #[.pointer (some ⟨d, 0, none⟩), .string dir] W0 (K ++ (s.G d M ++ H)) (fun v H' => ∃ a c g, v = .slice a (listM M dir).length c ∧ (listM M dir).length ≤ c ∧ Rd (inG g) a (strs (listM M dir)) ∧ H' = g :: (K ++ (s.G d M ++ H))) := by
  refine Tri.heap (fun _ hw => front_to hw) (Tri.post (cList h hm d dir W0 (K ++ H)) fun v H1 ⟨g, ho, hH⟩ => ?_)
  obtain ⟨a, c, hv, hc, hr⟩ := ho.shape
  refine ⟨_, ⟨a, c, g, hv, hc, hr, rfl⟩, fun w hw => ?_⟩
  rw [hH] at hw
  refine sat_cnt hw fun _ x => ?_
  simp only [List.flatten_cons, List.flatten_append, List.count_append]
  omega
end Go.Vf
