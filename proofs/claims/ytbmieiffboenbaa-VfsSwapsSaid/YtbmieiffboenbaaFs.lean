/- What the disk's calls do at the values of the statements' first test. Conditions: what the blocks hold is told. -/
import Derived.Test.YtbmieiffboenbaaVj
namespace Go.Vf
open Go.Sw Go.RowKit Go.Proofs Go.Proofs.Ytbmieiffboenbaa
/-- the path of one letter, and none -/
def pA : ByteArray := ByteArray.mk #[97]
def dkG (d : Nat) (bv : Value) (nb kb cb : Nat) : Grp := [(d, .cells #[.int .i64 100, bv, .map (some nb), .map (some kb), .map (some cb), .bool false, .bool false, .int .i64 0] 64 (0, 0))]
theorem right_a : rightB (ByteArray.mk #[97]) = true := by decide +kernel
theorem dir_a : dirB (ByteArray.mk #[97]) = ByteArray.mk #[] := by decide +kernel
theorem right_b : rightB (ByteArray.mk #[98]) = true := by decide +kernel
theorem right_bad : rightB (ByteArray.mk #[98, 47, 46, 46]) = false := by decide +kernel
theorem wA (d nb kb cb m : Nat) (bv : Value) (bg : Grp) (ps : List Value) (hO : Own 66 1 bv bg m ps) (hm : m ≤ 1000000) (b : Nat) (S : Nat → Obj → Prop) (hrd : Rd S (some ⟨b, 0, none⟩) (u8s [120, 121])) (W0 : World) (H : List Grp) (hS : ∀ y o, S y o → At W0 H y o) :
    Tri Try.prog 13 #[.pointer (some ⟨d, 0, none⟩), .string (ByteArray.mk #[97]), .slice (some ⟨b, 0, none⟩) 2 2] W0 (dkG d bv nb kb cb :: [(nb, .map (encM []) 0)] :: [(cb, .map (encM []) 0)] :: bg :: H)
      (fun v H' => v = .int .i64 0 ∧ ∃ p q a1 c1 a2 c2 x g g1 bg2, Own 5 1 (.slice a1 2 c1) g1 2 (u8s [120, 121]) ∧ Own 66 1 (.slice a2 (m + 1) c2) bg2 (m + 1) (ps ++ [.pointer (some ⟨p, 0, none⟩)]) ∧ Own 72 1 x g 1 [.map (some q)] ∧
        H' = dkG d (.slice a2 (m + 1) c2) nb kb cb :: [(nb, .map (encM [(ByteArray.mk #[97], .pointer (some ⟨p, 0, none⟩), 0)]) 1)] :: [(cb, .map (encM [(ByteArray.mk #[], x, 0)]) 1)] :: g :: [(q, .map (encM [(ByteArray.mk #[97], .pointer (some ⟨p, 0, none⟩), 0)]) 1)] :: bg2 :: [(p, .cells #[.slice a1 2 c1, .slice none 0 0] 68 (0, 0))] :: g1 :: H) := by
  have hc : callS false false 0 (rightB (ByteArray.mk #[97])) = (0, false, 0) := by rw [right_a]; rfl
  refine (vWrite d nb kb cb 0 0 100 0 bv bg ps m false false [] [] (ByteArray.mk #[97]) (fun _ => 0) (by decide) (by decide) ⟨List.Pairwise.nil, List.nodup_nil, fun _ h => absurd h List.not_mem_nil⟩ (by show 0 ≤ _; omega) (fun v h => by omega) hO hm b 0 2 2 S [120, 121] hrd rfl (by omega) W0 H (.inl rfl) rfl hS (fun e h => absurd h List.not_mem_nil)).mono fun v H' h => ?_
  rw [hc, dir_a] at h
  rcases h with ⟨h, _⟩ | ⟨_, h, _⟩ | ⟨_, _, hv, p, q, a1, c1, a2, c2, x, g, g1, bg2, o1, o2, o3, hH⟩
  · exact absurd rfl h
  · exact absurd h (by show ¬ ((0 : Nat) : Int) - ((0 : Nat) : Int) + ((2 : Nat) : Int) > 100; omega)
  · exact ⟨hv, p, q, a1, c1, a2, c2, x, g, g1, bg2, o1, o2, o3, hH⟩
theorem flat_nil {W0 : World} {A B : List Grp} {w : World} (h : Sat W0 (A ++ B) w) : Sat W0 (A ++ [] :: B) w := h.flat (by rw [List.flatten_append, List.flatten_append, List.flatten_cons, List.nil_append])
/-- the first Write: there are no bodies yet -/
theorem wA0 (d nb kb cb : Nat) (b : Nat) (S : Nat → Obj → Prop) (hrd : Rd S (some ⟨b, 0, none⟩) (u8s [120, 121])) (W0 : World) (H : List Grp) (hS : ∀ y o, S y o → At W0 H y o) :
    Tri Try.prog 13 #[.pointer (some ⟨d, 0, none⟩), .string (ByteArray.mk #[97]), .slice (some ⟨b, 0, none⟩) 2 2] W0 (dkG d (.slice none 0 0) nb kb cb :: [(nb, .map (encM []) 0)] :: [(cb, .map (encM []) 0)] :: H)
      (fun v H' => v = .int .i64 0 ∧ ∃ p q a1 c1 a2 c2 x g g1 bg2, Own 5 1 (.slice a1 2 c1) g1 2 (u8s [120, 121]) ∧ Own 66 1 (.slice a2 1 c2) bg2 1 [.pointer (some ⟨p, 0, none⟩)] ∧ Own 72 1 x g 1 [.map (some q)] ∧
        H' = dkG d (.slice a2 1 c2) nb kb cb :: [(nb, .map (encM [(ByteArray.mk #[97], .pointer (some ⟨p, 0, none⟩), 0)]) 1)] :: [(cb, .map (encM [(ByteArray.mk #[], x, 0)]) 1)] :: g :: [(q, .map (encM [(ByteArray.mk #[97], .pointer (some ⟨p, 0, none⟩), 0)]) 1)] :: bg2 :: [(p, .cells #[.slice a1 2 c1, .slice none 0 0] 68 (0, 0))] :: g1 :: H) :=
  Tri.heap (fun _ h => flat_nil (A := [dkG d (.slice none 0 0) nb kb cb, [(nb, .map (encM []) 0)], [(cb, .map (encM []) 0)]]) h) (wA d nb kb cb 0 (.slice none 0 0) [] [] Own.nil (by omega) b S hrd W0 H hS)
theorem own_le {et : TypeId} {a : Option Addr} {n c : Nat} {g : Grp} {cs : List Value} (h : Own et 1 (.slice a n c) g n cs) : n ≤ c := by
  obtain ⟨x, y, h, hl, _⟩ := h.shape
  injection h with _ _ h; omega
theorem own_some {et : TypeId} {v : Value} {n : Nat} {g : Grp} {cs : List Value} (h : Own et 1 v g (n + 1) cs) : ∃ b c, v = .slice (some ⟨b, 0, none⟩) (n + 1) c ∧ n + 1 ≤ c ∧ Rd (inG g) (some ⟨b, 0, none⟩) cs := by
  have hs := h.shape
  obtain ⟨_, ⟨_, _, h⟩ | ⟨b, cap, junk, h, hg, hc, hj⟩⟩ := h
  · omega
  · obtain ⟨a, c, h2, hc2, hr⟩ := hs
    rw [h] at h2
    injection h2 with e1 e2 e3
    subst e1 e3
    exact ⟨b, cap, h, hc, hr⟩
/-- New -/
theorem wN (W0 : World) (H : List Grp) : Tri Try.prog 12 #[.int .i64 100] W0 H (fun v H' => ∃ d nb kb cb, v = .pointer (some ⟨d, 0, none⟩) ∧ H' = dkG d (.slice none 0 0) nb kb cb :: [(cb, .map (encM []) 0)] :: [(kb, .map (encM []) 0)] :: [(nb, .map (encM []) 0)] :: H) := vNew 100 W0 H
/-- Sync -/
theorem wS (d nb kb cb p c1 : Nat) (bv : Value) (a1 : Option Addr) (W0 : World) (H : List Grp) :
    Tri Try.prog 14 #[.pointer (some ⟨d, 0, none⟩), .string (ByteArray.mk #[97])] W0 (dkG d bv nb kb cb :: [(nb, .map (encM [(ByteArray.mk #[97], .pointer (some ⟨p, 0, none⟩), 0)]) 1)] :: [(p, .cells #[.slice a1 2 c1, .slice none 0 0] 68 (0, 0))] :: H)
      (fun v H' => v = .int .i64 0 ∧ H' = dkG d bv nb kb cb :: [(nb, .map (encM [(ByteArray.mk #[97], .pointer (some ⟨p, 0, none⟩), 0)]) 1)] :: [(p, .cells #[.slice a1 2 c1, .slice a1 2 c1] 68 (0, 0))] :: H) := by
  have hc : callS false false 0 (rightB (ByteArray.mk #[97])) = (0, false, 0) := by rw [right_a]; rfl
  refine (vSyncYes d nb kb cb 1 100 0 bv false false [(ByteArray.mk #[97], .pointer (some ⟨p, 0, none⟩), 0)] (ByteArray.mk #[97]) (by decide) (by decide) p 2 c1 0 0 a1 none rfl W0 H).mono fun v H' h => ?_
  rw [hc] at h
  rcases h with ⟨h, _⟩ | ⟨_, hv, hH⟩
  · exact absurd rfl h
  · exact ⟨hv, hH⟩
theorem mapok0 (c : Nat) : MapOk [] c := ⟨List.Pairwise.nil, List.nodup_nil, fun _ h => absurd h List.not_mem_nil⟩
/-- a crash with no numbers: the body is kept, the change is not -/
theorem wC0 (d nb kb cb p q c1 c2 : Nat) (a1 a2 : Option Addr) (x : Value) (g bg : Grp) (h1 : 2 ≤ c1) (hb : Own 66 1 (.slice a2 1 c2) bg 1 [.pointer (some ⟨p, 0, none⟩)]) (hx : Own 72 1 x g 1 [.map (some q)]) (W0 : World) (H : List Grp) :
    Tri Try.prog 18 #[.pointer (some ⟨d, 0, none⟩), .slice none 0 0] W0 (dkG d (.slice a2 1 c2) nb kb cb :: [(p, .cells #[.slice a1 2 c1, .slice a1 2 c1] 68 (0, 0))] :: [(kb, .map (encM []) 0)] :: [(cb, .map (encM [(ByteArray.mk #[], x, 0)]) 1)] :: g :: [(q, .map (encM [(ByteArray.mk #[97], .pointer (some ⟨p, 0, none⟩), 0)]) 1)] :: bg :: H)
      (fun v H' => v = .tuple #[] ∧ ∃ b b2, H' = dkG d (.slice a2 1 c2) b kb b2 :: [(p, .cells #[.slice a1 2 c1, .slice a1 2 c1] 68 (0, 0))] :: [(kb, .map (encM []) 0)] :: [(b, .map (encM []) 0)] :: [(b2, .map (encM []) 0)] :: g :: [(q, .map (encM [(ByteArray.mk #[97], .pointer (some ⟨p, 0, none⟩), 0)]) 1)] :: bg :: H) := by
  obtain ⟨xa, xc, rfl, hxc, hxr⟩ := hx.shape
  obtain ⟨ba, bc, hbe, hbc, hbr⟩ := hb.shape
  have e1 : a2 = ba ∧ c2 = bc := by injection hbe with e1 e2 e3; exact ⟨e1, e3⟩
  obtain ⟨rfl, rfl⟩ := e1
  have hcr := vCrash d nb kb cb 0 1 100 0 false false [] [(ByteArray.mk #[], .slice xa 1 xc, 0)] [⟨p, a1, 2, c1, a1, 2, c1⟩] a2 c2 ⟨[], none, 0⟩ (fun _ => ⟨xa, xc, [q], [[(ByteArray.mk #[97], .pointer (some ⟨p, 0, none⟩), 0)]], [1]⟩) (fun y o => inG g y o ∨ inG bg y o)
    ⟨.inl rfl, by decide, by decide, fun _ h => absurd h List.not_mem_nil⟩ (by show 1 ≤ 1000000; omega) (fun b hb => by rw [List.mem_singleton.1 hb]; exact ⟨h1, by show 2 ≤ 1000000000; omega, Nat.le_refl _⟩) (hbr.mono fun _ _ => .inr) (mapok0 _) (mapok1 _ _) (fun e h => by rw [List.mem_singleton.1 h]; show (0 : Nat) ≤ 9223372036854775807; omega) (by show 1 ≤ 1000000000; omega) W0
    (g :: [(q, .map (encM [(ByteArray.mk #[97], .pointer (some ⟨p, 0, none⟩), 0)]) 1)] :: bg :: H) (fun y o h => h.elim (fun h => at_inG 0 rfl y o h) (fun h => at_inG 2 rfl y o h))
    (fun e he => by
      have : e = ByteArray.mk #[] := by simpa using he
      subst this
      exact ⟨rfl, hxr.mono fun _ _ => .inl, rfl, by show 1 ≤ 1000000; omega, hxc, fun i hi => by
        have : i = 0 := by simpa using hi
        subst this
        exact ⟨At.grp 1 0 rfl rfl, mapok1 _ _, hv1 _ _⟩⟩)
  refine hcr.mono fun v H' h => ?_
  obtain ⟨hv, b, b2, km1, kc1, ks1, hk, hH⟩ := h
  have hs1 : sortB (List.map Prod.fst [(ByteArray.mk #[], Value.slice xa 1 xc, 0)]) = [ByteArray.mk #[]] := List.perm_singleton.1 (sortB_perm _)
  rw [hs1] at hk
  obtain ⟨s1, hm, hk⟩ := hk
  have hk0 : keptN (⟨xa, xc, [q], [[(ByteArray.mk #[97], .pointer (some ⟨p, 0, none⟩), 0)]], [1]⟩ : RowC) ⟨[], none, 0⟩ = 0 := by
    show Int.toNat (nextK 0 (((1 : Nat) : Int) + 1)) = 0
    decide
  have hm : s1 = (([] : SM), 0) := by
    have hm' : MadeOf (([[(ByteArray.mk #[97], .pointer (some ⟨p, 0, none⟩), 0)]] : List SM).take (keptN (⟨xa, xc, [q], [[(ByteArray.mk #[97], .pointer (some ⟨p, 0, none⟩), 0)]], [1]⟩ : RowC) ⟨[], none, 0⟩)) ([], 0) s1 := by
      have hs : stB [⟨p, a1, 2, c1, a1, 2, c1⟩] ⟨[], none, 0⟩ 1 = ([⟨p, a1, 2, c1, a1, 2, c1⟩], ⟨[], none, 0⟩) := rfl
      exact hm
    rw [hk0] at hm'
    exact hm'
  subst hm
  have hk1 : ((km1, kc1), ks1).1 = (([] : SM), 0) := by rw [show ((km1, kc1), ks1) = _ from hk]
  injection hk1 with hk1 hk2
  subst hk1 hk2
  exact ⟨hv, b, b2, hH⟩
/-- List, where there is nothing -/
theorem wL (d nb kb cb : Nat) (bv : Value) (W0 : World) (H : List Grp) :
    Tri Try.prog 21 #[.pointer (some ⟨d, 0, none⟩), .string (ByteArray.mk #[])] W0 (dkG d bv nb kb cb :: [(nb, .map (encM []) 0)] :: H)
      (fun v H' => ∃ a c g, v = .slice a 0 c ∧ H' = dkG d bv nb kb cb :: [(nb, .map (encM []) 0)] :: g :: H) := by
  refine (vList d nb kb cb 0 100 0 bv false false [] (ByteArray.mk #[]) (mapok0 _) (fun _ h => absurd h List.not_mem_nil) (by decide) W0 H).mono fun v H' h => ?_
  obtain ⟨dn, g, hd, ho, hH⟩ := h
  have hd := hd.eq_nil
  subst hd
  obtain ⟨a, c, hv, _, _⟩ := ho.shape
  exact ⟨a, c, g, hv, hH⟩
/-- SyncDir: the one change is kept -/
theorem wD (d nb kb cb p q : Nat) (bv x : Value) (g : Grp) (hx : Own 72 1 x g 1 [.map (some q)]) (W0 : World) (H : List Grp) :
    Tri Try.prog 15 #[.pointer (some ⟨d, 0, none⟩), .string (ByteArray.mk #[])] W0 (dkG d bv nb kb cb :: [(kb, .map (encM []) 0)] :: [(cb, .map (encM [(ByteArray.mk #[], x, 0)]) 1)] :: g :: [(q, .map (encM [(ByteArray.mk #[97], .pointer (some ⟨p, 0, none⟩), 0)]) 1)] :: H)
      (fun v H' => v = .int .i64 0 ∧ H' = dkG d bv nb kb cb :: [(kb, .map (encM [(ByteArray.mk #[97], .pointer (some ⟨p, 0, none⟩), 0)]) 1)] :: [(cb, .map (encM []) 1)] :: g :: [(q, .map (encM [(ByteArray.mk #[97], .pointer (some ⟨p, 0, none⟩), 0)]) 1)] :: H) := by
  obtain ⟨xa, xc, rfl, hxc, hxr⟩ := hx.shape
  refine (vSyncDir d nb kb cb 0 1 100 0 bv false false [] [(ByteArray.mk #[], .slice xa 1 xc, 0)] (ByteArray.mk #[]) (by decide) (by decide) (mapok0 _) xa xc (inG g) [q] [[(ByteArray.mk #[97], .pointer (some ⟨p, 0, none⟩), 0)]] [1] rfl (by show 1 ≤ 1000000; omega) hxr rfl W0 (g :: [(q, .map (encM [(ByteArray.mk #[97], .pointer (some ⟨p, 0, none⟩), 0)]) 1)] :: H) (at_inG 0 rfl) (fun i hi => by
    have : i = 0 := by simpa using hi
    subst this
    exact ⟨At.grp 1 0 rfl rfl, mapok1 _ _, hv1 _ _⟩)).mono fun v H' h => ?_
  have hc : callS false false 0 (((ByteArray.mk #[]).toList == (ByteArray.mk #[]).toList) || partB (ByteArray.mk #[])) = (0, false, 0) := by rw [beq_self_eq_true]; rfl
  rw [hc] at h
  rcases h with ⟨h, _⟩ | ⟨_, hv, km1, kc1, hm, hH⟩
  · exact absurd rfl h
  · obtain ⟨dn, hd, hm⟩ := hm
    have hd := List.perm_singleton.1 hd
    subst hd
    injection (hm : (km1, kc1) = _) with e1 e2
    subst e1 e2
    exact ⟨hv, hH⟩
theorem grp2 {W0 : World} {A B : List Grp} {x y : Nat × Obj} {w : World} (h : Sat W0 (A ++ [x] :: [y] :: B) w) : Sat W0 (A ++ [x, y] :: B) w := h.flat (by simp [List.flatten_append])
theorem grp2' {W0 : World} {A B : List Grp} {x y : Nat × Obj} {w : World} (h : Sat W0 (A ++ [x, y] :: B) w) : Sat W0 (A ++ [x] :: [y] :: B) w := h.flat (by simp [List.flatten_append])
/-- a crash with the number 1: of the second body one byte is kept -/
theorem wC1 (d nb kb cb p p' c1 c1' c2 b4 t : Nat) (a1 a1' a2 : Option Addr) (bg : Grp) (h1 : 2 ≤ c1) (h1' : 2 ≤ c1') (hb : Own 66 1 (.slice a2 2 c2) bg 2 [.pointer (some ⟨p, 0, none⟩), .pointer (some ⟨p', 0, none⟩)]) (W0 : World) (H : List Grp) :
    Tri Try.prog 18 #[.pointer (some ⟨d, 0, none⟩), .slice (some ⟨b4, 0, none⟩) 1 1] W0 (dkG d (.slice a2 2 c2) nb kb cb :: [(p, .cells #[.slice a1 2 c1, .slice a1 2 c1] 68 (0, 0))] :: [(p', .cells #[.slice a1' 2 c1', .slice none 0 0] 68 (0, 0))] :: [(kb, .map (encM [(ByteArray.mk #[97], .pointer (some ⟨p', 0, none⟩), 0)]) 1)] :: [(cb, .map (encM []) 1)] :: bg :: [(b4, .cells #[.int .i64 1] t (0, 0))] :: H)
      (fun v H' => v = .tuple #[] ∧ ∃ b b2, H' = dkG d (.slice a2 2 c2) b kb b2 :: [(p, .cells #[.slice a1 2 c1, .slice a1 2 c1] 68 (0, 0))] :: [(p', .cells #[.slice (cutA a1' c1' 0 1) 1 c1', .slice (cutA a1' c1' 0 1) 1 c1'] 68 (0, 0))] :: [(kb, .map (encM [(ByteArray.mk #[97], .pointer (some ⟨p', 0, none⟩), 0)]) 1)] :: [(b, .map (encM [(ByteArray.mk #[97], .pointer (some ⟨p', 0, none⟩), 0)]) 1)] :: [(b2, .map (encM []) 0)] :: bg :: [(b4, .cells #[.int .i64 1] t (0, 0))] :: H) := by
  obtain ⟨ba, bc, hbe, hbc, hbr⟩ := hb.shape
  have e1 : a2 = ba ∧ c2 = bc := by injection hbe with e1 e2 e3; exact ⟨e1, e3⟩
  obtain ⟨rfl, rfl⟩ := e1
  have hcr := vCrash d nb kb cb 1 1 100 0 false false [(ByteArray.mk #[97], .pointer (some ⟨p', 0, none⟩), 0)] [] [⟨p, a1, 2, c1, a1, 2, c1⟩, ⟨p', a1', 2, c1', none, 0, 0⟩] a2 c2 ⟨[1], some ⟨b4, 0, none⟩, 1⟩ (fun _ => ⟨none, 0, [], [], []⟩) (fun y o => inG bg y o ∨ inG [(b4, .cells #[.int .i64 1] t (0, 0))] y o)
    ⟨(Rd.lit (c := [.int .i64 1])).mono fun _ _ => .inr, by show 1 ≤ 1; omega, by show 1 ≤ 1000000000; omega, fun y h => by rw [List.mem_singleton.1 h]; decide⟩ (by show 2 ≤ 1000000; omega) (fun b hb => by
      rcases List.mem_cons.1 hb with rfl | hb
      · exact ⟨h1, by show 2 ≤ 1000000000; omega, Nat.le_refl _⟩
      · rw [List.mem_singleton.1 hb]; exact ⟨h1', by show 2 ≤ 1000000000; omega, Nat.zero_le _⟩) (hbr.mono fun _ _ => .inl) (mapok1 _ _) (mapok0 _) (fun e h => absurd h List.not_mem_nil) (by decide) W0
    (bg :: [(b4, .cells #[.int .i64 1] t (0, 0))] :: H) (fun y o h => h.elim (fun h => at_inG 0 rfl y o h) (fun h => at_inG 1 rfl y o h))
    (fun e he => absurd he List.not_mem_nil)
  refine Tri.heap (fun _ h => grp2 (A := [dkG d (.slice a2 2 c2) nb kb cb]) h) (Tri.post hcr fun v H' h => ?_)
  obtain ⟨hv, b, b2, km1, kc1, ks1, hk, hH⟩ := h
  have hs0 : sortB (List.map Prod.fst ([] : SM)) = [] := (sortB_perm _).eq_nil
  rw [hs0] at hk
  have hst : (stB [⟨p, a1, 2, c1, a1, 2, c1⟩, ⟨p', a1', 2, c1', none, 0, 0⟩] ⟨[1], some ⟨b4, 0, none⟩, 1⟩ 2).1 = [⟨p, a1, 2, c1, a1, 2, c1⟩, ⟨p', cutA a1' c1' 0 1, 1, c1', cutA a1' c1' 0 1, 1, c1'⟩] := by kernel_rfl
  have hk1 : ((km1, kc1), ks1).1 = ([(ByteArray.mk #[97], .pointer (some ⟨p', 0, none⟩), 0)], 1) := by rw [show ((km1, kc1), ks1) = _ from hk]
  injection hk1 with hk1 hk2
  subst hk1 hk2
  exact ⟨_, ⟨hv, b, b2, rfl⟩, fun w hw => grp2' (A := [dkG d (.slice a2 2 c2) b kb b2]) (by
    rw [hH] at hw
    simp only [List.length_cons, List.length_nil, Nat.zero_add, Nat.reduceAdd] at hw
    rw [hst] at hw
    exact hw)⟩
/-- Read: the byte that is left -/
theorem wR (d nb kb cb p c1 : Nat) (bv kv : Value) (a1 : Option Addr) (g1 : Grp) (ho : Own 5 1 (.slice a1 2 c1) g1 2 (u8s [120, 121])) (W0 : World) (H : List Grp) :
    Tri Try.prog 19 #[.pointer (some ⟨d, 0, none⟩), .string (ByteArray.mk #[97])] W0 (dkG d bv nb kb cb :: [(nb, .map (encM [(ByteArray.mk #[97], .pointer (some ⟨p, 0, none⟩), 0)]) 1)] :: [(p, .cells #[.slice (cutA a1 c1 0 1) 1 c1, kv] 68 (0, 0))] :: g1 :: H)
      (fun v H' => ∃ x g, v = .tuple #[x, .int .i64 0] ∧ Own 5 1 x g 1 (u8s [120]) ∧ H' = g :: dkG d bv nb kb cb :: [(nb, .map (encM [(ByteArray.mk #[97], .pointer (some ⟨p, 0, none⟩), 0)]) 1)] :: [(p, .cells #[.slice (cutA a1 c1 0 1) 1 c1, kv] 68 (0, 0))] :: g1 :: H) := by
  obtain ⟨hl, ⟨h, _⟩ | ⟨b, cap, junk, h, hg, hc, hj⟩⟩ := ho
  · injection h with h1 h2; exact absurd h2 (by decide)
  injection h with h1 h2 h3
  subst h1 h3
  have hrd : Rd (inG g1) (some ⟨b, 0, none⟩) (u8s [120, 121]) := by
    subst hg
    exact .inr ⟨b, 0, _, _, _, rfl, List.mem_singleton.2 rfl, fun j u hu => by
      have : j < 2 := by
        rcases Nat.lt_or_ge j 2 with h | h
        · exact h
        · rw [List.getElem?_eq_none (by exact h)] at hu; simp at hu
      rw [List.getElem?_toArray, Nat.zero_add, List.getElem?_append_left (by exact this)]
      exact hu⟩
  have hcut : cutA (some ⟨b, 0, none⟩) c1 0 1 = some ⟨b, 0, none⟩ := by
    unfold cutA
    rw [if_neg (by omega)]; rfl
  rw [hcut]
  have hr1 := hrd.cut (cap := c1) (l := 0) (sz := 1) (m := 1) (by omega)
  rw [hcut] at hr1
  exact vReadYes d nb kb cb 1 100 0 bv false false _ (ByteArray.mk #[97]) b 0 1 c1 (inG g1) [120] hr1 rfl (by decide) p kv rfl W0 _ (at_inG 1 rfl) (At.grp 0 0 rfl rfl)
/-- Used -/
theorem wU (d nb kb cb p c1 : Nat) (bv kv : Value) (a1 : Option Addr) (W0 : World) (H : List Grp) :
    Tri Try.prog 26 #[.pointer (some ⟨d, 0, none⟩)] W0 (dkG d bv nb kb cb :: [(nb, .map (encM [(ByteArray.mk #[97], .pointer (some ⟨p, 0, none⟩), 0)]) 1)] :: [(p, .cells #[.slice a1 1 c1, kv] 68 (0, 0))] :: H)
      (fun v H' => v = .int .i64 1 ∧ H' = dkG d bv nb kb cb :: [(nb, .map (encM [(ByteArray.mk #[97], .pointer (some ⟨p, 0, none⟩), 0)]) 1)] :: [(p, .cells #[.slice a1 1 c1, kv] 68 (0, 0))] :: H) :=
  vUsed d nb kb cb 1 100 0 bv false false [(ByteArray.mk #[97], .pointer (some ⟨p, 0, none⟩), 0)] (fun _ => 1) (mapok1 _ _) (by show 1 ≤ 1000000000000; omega) W0 _ (fun e he => by rw [List.mem_singleton.1 he]; exact ⟨p, a1, c1, kv, rfl, At.grp 0 0 rfl rfl⟩)
/-- Write of what is no path -/
theorem wB (d nb kb cb : Nat) (bv : Value) (W0 : World) (H : List Grp) :
    Tri Try.prog 13 #[.pointer (some ⟨d, 0, none⟩), .string (ByteArray.mk #[98, 47, 46, 46]), .slice none 0 0] W0 (dkG d bv nb kb cb :: H) (fun v H' => v = .int .i64 2 ∧ H' = dkG d bv nb kb cb :: H) :=
  vWriteBad d nb kb cb 100 0 bv false false (ByteArray.mk #[98, 47, 46, 46]) (by decide) (by decide) right_bad W0 H
/-- Write: there is no room -/
theorem wF (d nb kb cb p b c1 m : Nat) (bv kv : Value) (a1 : Option Addr) (bg : Grp) (ps : List Value) (hO : Own 66 1 bv bg m ps) (hm : m ≤ 1000000) (S : Nat → Obj → Prop) (l : List UInt8) (hl : l.length = 100) (hrd : Rd S (some ⟨b, 0, none⟩) (u8s l)) (W0 : World) (H : List Grp) (hS : ∀ y o, S y o → At W0 H y o) :
    Tri Try.prog 13 #[.pointer (some ⟨d, 0, none⟩), .string (ByteArray.mk #[98]), .slice (some ⟨b, 0, none⟩) 100 100] W0 (dkG d bv nb kb cb :: [(nb, .map (encM [(ByteArray.mk #[97], .pointer (some ⟨p, 0, none⟩), 0)]) 1)] :: [(cb, .map (encM []) 0)] :: bg :: [(p, .cells #[.slice a1 1 c1, kv] 68 (0, 0))] :: H)
      (fun v H' => v = .int .i64 61 ∧ H' = dkG d bv nb kb cb :: [(nb, .map (encM [(ByteArray.mk #[97], .pointer (some ⟨p, 0, none⟩), 0)]) 1)] :: [(cb, .map (encM []) 0)] :: bg :: [(p, .cells #[.slice a1 1 c1, kv] 68 (0, 0))] :: H) := by
  have hc : callS false false 0 (rightB (ByteArray.mk #[98])) = (0, false, 0) := by rw [right_b]; rfl
  refine (vWrite d nb kb cb 1 0 100 0 bv bg ps m false false [(ByteArray.mk #[97], .pointer (some ⟨p, 0, none⟩), 0)] [] (ByteArray.mk #[98]) (fun _ => 1) (by decide) (by decide) (mapok1 _ _) (by show 1 ≤ 1000000000000; omega) (fun v h => by omega) hO hm b 0 100 100 S l hrd hl (by omega) W0 _ (.inl rfl) rfl (fun y o h => At.cons (hS y o h)) (fun e he => by rw [List.mem_singleton.1 he]; exact ⟨p, a1, c1, kv, rfl, At.grp 0 0 rfl rfl⟩)).mono fun v H' h => ?_
  rw [hc] at h
  rcases h with ⟨h, _⟩ | ⟨_, _, hv, hH⟩ | ⟨_, h, _⟩
  · exact absurd rfl h
  · exact ⟨hv, hH⟩
  · exact absurd (show ((1 : Nat) : Int) - ((0 : Nat) : Int) + ((100 : Nat) : Int) > 100 by omega) h
end Go.Vf
