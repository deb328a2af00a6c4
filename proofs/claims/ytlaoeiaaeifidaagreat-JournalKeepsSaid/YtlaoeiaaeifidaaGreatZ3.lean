/- The walks of the disk's calls that change names, over all rows. Conditions: the numbers are ints; what the blocks hold is told. (and what it stands on) -/
import Derived.Test.YtlaoeiaaeifidaaGreatZ2
import Derived.ProofKit
import Derived.OpenShut
import Derived.ChangeMaps5
namespace Go.Proofs.YtlaoeiaaeifidaaGreat
open Go.Sw Go.Lib Go.Vf Go.RowKit
theorem vNextA (kp : Nat) (k : KS) (n : Int) (hn : 0 < n ∧ n ≤ 1000000000000) (S : Nat → Obj → Prop) (hk : KsOk S k) (W0 : World) (H : List Grp) (hS : ∀ y o, S y o → At W0 H y o) :
    Tri Tryz.prog 69 #[.int .i64 n, .pointer (some ⟨kp, 0, none⟩)] W0 ([(kp, .cells #[.slice k.a k.l.length k.c] 49 (0, 0))] :: H) (fun v H' => v = .int .i64 (nextK (k.l.headD 0) n) ∧ H' = [(kp, .cells #[.slice (ksNext k).a (ksNext k).l.length (ksNext k).c] 49 (0, 0))] :: H) := by
  obtain ⟨h1, h2, h3, h4⟩ := hk
  obtain ⟨l, a, c⟩ := k
  cases l with
  | nil => exact vNext0 kp c a n hn W0 H
  | cons x l => exact vNext kp n hn a (l.length + 1) c S x (h4 x List.mem_cons_self) l rfl h2 h3 h1 W0 H hS
theorem vKeys (cb : Nat) (W0 : World) (H : List Grp) : Tri Tryz.prog 71 #[.map (some cb)] W0 H (fun v H' => ∃ b, v = .func (.func 93) #[] #[.pointer (some ⟨b, 0, none⟩)] ∧ H' = [(b, .cells #[.map (some cb)] 69 (0, 0))] :: H) := by
 refine Tri_of (args := [.map (some cb)]) (n := 4) Tryz.func71 rfl rfl (Nat.le_of_ble_eq_true rfl) ?_
 refine G_seq ?_
 refine G_region ?_
 refine GL_box (i:=0) (ch:=[]) (v:=.map (some cb)) rfl rfl kr kr kr kr (fun b1=>?_)
 refine GL_fin (E':=[⟨1,[],pt b1⟩]) [0] [1] rfl kr ?_
 refine N_then ?_
 refine G_seq ?_
 refine G_pure (E':=[⟨2,[],.func (.func 93) #[] #[pt b1]⟩]) [0,0] [2] rfl kr ?_
 refine N_then ?_
 refine G_ret ?_
 refine N_ret [.tmp 2] [.func (.func 93) #[] #[pt b1]] rfl kr rfl ?_
 exact ⟨_, rfl, rfl⟩
set_option maxHeartbeats 2000000 in
theorem vCrash (d nb kb cb kc cc : Nat) (room calls : Int) (fails once : Bool) (km cm : SM) (bs : List BE) (ba : Option Addr) (bc : Nat) (ks : KS) (rows : ByteArray → RowC) (S : Nat → Obj → Prop) (hks : KsOk S ks) (hbl : bs.length ≤ 1000000) (hbn : ∀ b ∈ bs, b.n ≤ b.cn ∧ b.n ≤ 1000000000 ∧ b.m ≤ b.n) (hrb : Rd S ba (bs.map fun b => Value.pointer (some ⟨b.p, 0, none⟩))) (hkm : MapOk km kc) (hcm : MapOk cm cc) (hcs : ∀ e ∈ cm, e.1.size ≤ 9223372036854775807) (hcl : cm.length ≤ 1000000000) (W0 : World) (H : List Grp) (hS : ∀ y o, S y o → At W0 H y o) (hrows : ∀ d, d ∈ cm.map Prod.fst → RowOk S W0 H cm d (rows d)) : Tri Tryz.prog 28 #[pt d, .slice ks.a ks.l.length ks.c] W0 ([(d, .cells #[.int .i64 room, .slice ba bs.length bc, .map (some nb), .map (some kb), .map (some cb), .bool fails, .bool once, .int .i64 calls] 72 (0, 0))] :: bodyG bs :: [(kb, .map (encM km) kc)] :: [(cb, .map (encM cm) cc)] :: H) (fun v H' => v = .tuple #[] ∧ ∃ b b2 km1 kc1 ks1, CrashK rows (sortB (cm.map Prod.fst)) ((km, kc), (stB bs ks bs.length).2) ((km1, kc1), ks1) ∧ H' = ([(d, .cells #[.int .i64 room, .slice ba bs.length bc, .map (some b), .map (some kb), .map (some b2), .bool false, .bool once, .int .i64 calls] 72 (0, 0))] :: bodyG (stB bs ks bs.length).1 :: [(kb, .map (encM km1) kc1)] :: [(b, .map (encM km1) kc1)] :: [(b2, .map (encM ([])) 0)] :: H)) := by
 refine Tri_of (args := [pt d, .slice ks.a ks.l.length ks.c]) (n := 116) Tryz.func28 rfl rfl (Nat.le_of_ble_eq_true rfl) ?_
 refine G_seq ?_
 refine G_region ?_
 refine GL_box (i:=0) (ch:=[]) (v:=.slice ks.a ks.l.length ks.c) rfl rfl kr kr kr kr (fun b1=>?_)
 refine GL_fin (E':=[⟨0,[],pt d⟩,⟨3,[],pt b1⟩]) [] [0,3] rfl kr ?_
 refine N_then ?_
 refine G_seq ?_
 refine G_seq ?_
 refine G_pure (E':=[⟨0,[],pt d⟩,⟨3,[],pt b1⟩,⟨14,[],.bool false⟩]) [0,0] [0,3,14] rfl kr ?_
 refine N_then ?_
 refine G_condf kr ?_
 refine G_skip ?_
 refine N_then ?_
 refine G_seq ?_
 refine G_pure (E':=[⟨0,[],pt d⟩,⟨4,[],.func (.func 69) #[] #[pt b1]⟩]) [0,0] [0,4] rfl kr ?_
 refine N_then ?_
 refine G_seq ?_
 refine G_seq ?_
 refine G_region ?_
 refine GL_pure (E':=[⟨18,[],.pointer (some ⟨d,1,none⟩)⟩,⟨0,[],pt d⟩,⟨4,[],.func (.func 69) #[] #[pt b1]⟩]) [0,0,0] kr (j:=3) rfl ?_
 refine GL_load (i:=3) (ch:=[]) (b:=d) (off:=1) (v:=.slice ba bs.length bc) rfl rfl kr kr kr kr kr (At.grp 1 0 rfl rfl) rfl ?_
 refine GL_fin (E':=[⟨0,[],pt d⟩,⟨4,[],.func (.func 69) #[] #[pt b1]⟩,⟨19,[],.slice ba bs.length bc⟩,⟨20,[],.int .i64 ((bs.length : Nat) : Int)⟩,⟨21,[],.int .i64 0⟩]) [0,0] [0,4,19,20,21] rfl kr ?_
 refine N_then ?_
 refine G_block ?_
 refine G_loop (EI:=(fun ξ : Nat=>[⟨0,[],pt d⟩,⟨4,[],.func (.func 69) #[] #[pt b1]⟩,⟨19,[],.slice ba bs.length bc⟩,⟨20,[],.int .i64 ((bs.length : Nat) : Int)⟩,⟨21,[],.int .i64 ((ξ : Nat) : Int)⟩])) (HI:=(fun ξ : Nat=>([(b1,.cells #[.slice (stB bs ks ξ).2.a ((stB bs ks ξ).2.l.length) ((stB bs ks ξ).2.c)] 49 (0,0))]::[(d,.cells #[.int .i64 room,.slice ba bs.length bc,.map (some nb),.map (some kb),.map (some cb),.bool fails,.bool once,.int .i64 calls] 72 (0,0))]::bodyG (stB bs ks ξ).1::[(kb,.map (encM km) kc)]::[(cb,.map (encM cm) cc)]::H))) (Φ:=(fun ξ : Nat=>(ξ ≤ bs.length))) (μ:=(fun ξ : Nat=>bs.length - ξ)) (s0:=(0)) [0,4,19,20,21] kr (by rfl) (by omega) ?_
 rintro j hj
 refine G_seq ?_
 refine G_pure (E':=[⟨0,[],pt d⟩,⟨4,[],.func (.func 69) #[] #[pt b1]⟩,⟨19,[],.slice ba bs.length bc⟩,⟨20,[],.int .i64 ((bs.length : Nat) : Int)⟩,⟨21,[],.int .i64 ((j : Nat) : Int)⟩,⟨22,[],.bool (decide (((j : Nat) : Int) < ((bs.length : Nat) : Int)))⟩]) [0] [0,4,19,20,21,22] rfl kr ?_
 refine N_then ?_
 refine G_seq ?_
 refine G_cond (b:=decide (((j : Nat) : Int) < ((bs.length : Nat) : Int))) kr (fun hc2=>?_) (fun hc2=>?_)
 ·
  replace hc2 := of_decide_eq_true hc2
  have hjl : j < bs.length := by omega
  have hB : (stB bs ks j).1.getD j default = bs.getD j default := stB_at bs ks j j (Nat.le_refl _)
  obtain ⟨hb1, hb2, hb3⟩ : ((stB bs ks j).1.getD j default).n ≤ ((stB bs ks j).1.getD j default).cn ∧ ((stB bs ks j).1.getD j default).n ≤ 1000000000 ∧ ((stB bs ks j).1.getD j default).m ≤ ((stB bs ks j).1.getD j default).n := by (rw [hB]; exact hbn _ (getD_mem hjl))
  refine G_skip ?_
  refine N_then ?_
  refine G_seq ?_
  refine G_block ?_
  refine G_seq ?_
  refine G_region ?_
  refine GL_indexAddr (i:=0) (ch:=[]) (a:=ba) (len:=bs.length) (cap:=bc) (kd:=.i64) (j:=((j : Nat) : Int)) (e:=74) (sz:=1) (S:=S) (cs:=(bs.map fun b=>Value.pointer (some ⟨b.p,0,none⟩))) rfl rfl kr kr kr kr kr kr kr hrb (fun _=>by exact ⟨by omega,by omega,by (intro h; have h2:=congrArg List.length h; rw [List.length_map] at h2; exact absurd h2 (by show ¬ bs.length = 0; omega))⟩) ?_
  refine GL_loadS (i:=1) (ch:=[]) (a:=ba) (q:=j * 1) (S:=S) (cs:=(bs.map fun b=>Value.pointer (some ⟨b.p,0,none⟩))) (v:=pt ((bs.getD j default).p)) rfl rfl kr kr kr kr kr hrb (fun y o h=>(At.cons (At.cons (At.cons (At.cons (At.cons (hS y o h))))))) (fun _=>(by rw [Nat.mul_one]; exact ptr_at (by omega))) ?_
  refine GL_fin (E':=[⟨0,[],pt d⟩,⟨4,[],.func (.func 69) #[] #[pt b1]⟩,⟨6,[],pt ((bs.getD j default).p)⟩,⟨19,[],.slice ba bs.length bc⟩,⟨20,[],.int .i64 ((bs.length : Nat) : Int)⟩,⟨21,[],.int .i64 ((j : Nat) : Int)⟩]) [0] [0,4,6,19,20,21] rfl kr ?_
  refine N_then ?_
  refine G_seq ?_
  refine G_seq ?_
  refine G_regionD kr kr ?_
  refine GL_pure (E':=[⟨27,[],pt ((bs.getD j default).p)⟩,⟨0,[],pt d⟩,⟨4,[],.func (.func 69) #[] #[pt b1]⟩,⟨6,[],pt ((bs.getD j default).p)⟩,⟨19,[],.slice ba bs.length bc⟩,⟨20,[],.int .i64 ((bs.length : Nat) : Int)⟩,⟨21,[],.int .i64 ((j : Nat) : Int)⟩]) [0,0,0] kr (j:=3) rfl ?_
  refine GL_load (i:=3) (ch:=[]) (b:=(bs.getD j default).p) (off:=0) (v:=.slice ((stB bs ks j).1.getD j default).an (((stB bs ks j).1.getD j default).n) (((stB bs ks j).1.getD j default).cn)) rfl rfl kr kr kr kr kr (At.grp 2 j rfl (stB_hb hjl)) rfl ?_
  refine GL_pure (E':=[⟨32,[],.pointer (some ⟨(bs.getD j default).p,1,none⟩)⟩,⟨29,[],.int .i64 ((((stB bs ks j).1.getD j default).n : Nat) : Int)⟩,⟨0,[],pt d⟩,⟨4,[],.func (.func 69) #[] #[pt b1]⟩,⟨6,[],pt ((bs.getD j default).p)⟩,⟨19,[],.slice ba bs.length bc⟩,⟨20,[],.int .i64 ((bs.length : Nat) : Int)⟩,⟨21,[],.int .i64 ((j : Nat) : Int)⟩]) [0,0,0,0] kr (j:=8) rfl ?_
  refine GL_load (i:=8) (ch:=[]) (b:=(bs.getD j default).p) (off:=1) (v:=.slice ((stB bs ks j).1.getD j default).ak (((stB bs ks j).1.getD j default).m) (((stB bs ks j).1.getD j default).ck)) rfl rfl kr kr kr kr kr (At.grp 2 j rfl (stB_hb hjl)) rfl ?_
  have hw3 : IntKind.wrap .i64 (((((stB bs ks j).1.getD j default).n : Nat) : Int) - ((((stB bs ks j).1.getD j default).m : Nat) : Int)) = ((((stB bs ks j).1.getD j default).n : Nat) : Int) - ((((stB bs ks j).1.getD j default).m : Nat) : Int) := w64 (by omega) (by omega)
  refine GL_fin (E':=[⟨0,[],pt d⟩,⟨4,[],.func (.func 69) #[] #[pt b1]⟩,⟨6,[],pt ((bs.getD j default).p)⟩,⟨7,[],.int .i64 (((((stB bs ks j).1.getD j default).n : Nat) : Int) - ((((stB bs ks j).1.getD j default).m : Nat) : Int))⟩,⟨19,[],.slice ba bs.length bc⟩,⟨20,[],.int .i64 ((bs.length : Nat) : Int)⟩,⟨21,[],.int .i64 ((j : Nat) : Int)⟩]) [0,0,0] [0,4,6,7,19,20,21] rfl (Eq.trans (b:=some [⟨0,[],pt d⟩,⟨4,[],.func (.func 69) #[] #[pt b1]⟩,⟨6,[],pt ((bs.getD j default).p)⟩,⟨7,[],.int .i64 (IntKind.wrap .i64 (((((stB bs ks j).1.getD j default).n : Nat) : Int) - ((((stB bs ks j).1.getD j default).m : Nat) : Int)))⟩,⟨19,[],.slice ba bs.length bc⟩,⟨20,[],.int .i64 ((bs.length : Nat) : Int)⟩,⟨21,[],.int .i64 ((j : Nat) : Int)⟩]) kr (by simp only [hw3])) ?_
  refine N_then ?_
  refine G_seq ?_
  refine G_pure (E':=[⟨0,[],pt d⟩,⟨4,[],.func (.func 69) #[] #[pt b1]⟩,⟨6,[],pt ((bs.getD j default).p)⟩,⟨7,[],.int .i64 (((((stB bs ks j).1.getD j default).n : Nat) : Int) - ((((stB bs ks j).1.getD j default).m : Nat) : Int))⟩,⟨19,[],.slice ba bs.length bc⟩,⟨20,[],.int .i64 ((bs.length : Nat) : Int)⟩,⟨21,[],.int .i64 ((j : Nat) : Int)⟩,⟨37,[],.bool (decide ((((((stB bs ks j).1.getD j default).n : Nat) : Int) - ((((stB bs ks j).1.getD j default).m : Nat) : Int)) > 0))⟩]) [0,0] [0,4,6,7,19,20,21,37] rfl kr ?_
  refine N_then ?_
  refine G_cond (b:=decide ((((((stB bs ks j).1.getD j default).n : Nat) : Int) - ((((stB bs ks j).1.getD j default).m : Nat) : Int)) > 0)) kr (fun hc4=>?_) (fun hc4=>?_)
  ·
   replace hc4 := of_decide_eq_true hc4
   refine G_join (T:=Unit) (fun _=>[⟨0,[],pt d⟩,⟨4,[],.func (.func 69) #[] #[pt b1]⟩,⟨6,[],pt ((bs.getD j default).p)⟩,⟨19,[],.slice ba bs.length bc⟩,⟨20,[],.int .i64 ((bs.length : Nat) : Int)⟩,⟨21,[],.int .i64 ((j : Nat) : Int)⟩]) (fun _=>([(b1,.cells #[.slice (ksNext (stB bs ks j).2).a ((ksNext (stB bs ks j).2).l.length) ((ksNext (stB bs ks j).2).c)] 49 (0,0))]::[(d,.cells #[.int .i64 room,.slice ba bs.length bc,.map (some nb),.map (some kb),.map (some cb),.bool fails,.bool once,.int .i64 calls] 72 (0,0))]::bodyG ((stB bs ks j).1.set j ⟨(bs.getD j default).p,((stB bs ks j).1.getD j default).an,((stB bs ks j).1.getD j default).n,((stB bs ks j).1.getD j default).cn,(cutA ((stB bs ks j).1.getD j default).an (((stB bs ks j).1.getD j default).cn) 0 1),(Int.toNat (((((stB bs ks j).1.getD j default).m : Nat) : Int)+(nextK ((stB bs ks j).2.l.headD 0) ((((((stB bs ks j).1.getD j default).n : Nat) : Int) - ((((stB bs ks j).1.getD j default).m : Nat) : Int))+1)))) - 0,((stB bs ks j).1.getD j default).cn - 0⟩)::[(kb,.map (encM km) kc)]::[(cb,.map (encM cm) cc)]::H)) (fun _=>True) ?_ ?_
   ·
    refine G_regionH ([(d,.cells #[.int .i64 room,.slice ba bs.length bc,.map (some nb),.map (some kb),.map (some cb),.bool fails,.bool once,.int .i64 calls] 72 (0,0))]::[(kb,.map (encM km) kc)]::[(cb,.map (encM cm) cc)]::H) kr ?_
    refine GH_pure (E':=[⟨38,[],pt ((bs.getD j default).p)⟩,⟨0,[],pt d⟩,⟨4,[],.func (.func 69) #[] #[pt b1]⟩,⟨6,[],pt ((bs.getD j default).p)⟩,⟨7,[],.int .i64 (((((stB bs ks j).1.getD j default).n : Nat) : Int) - ((((stB bs ks j).1.getD j default).m : Nat) : Int))⟩,⟨19,[],.slice ba bs.length bc⟩,⟨20,[],.int .i64 ((bs.length : Nat) : Int)⟩,⟨21,[],.int .i64 ((j : Nat) : Int)⟩]) 0 0 kr (fun w h=>((h.erase 2).erase 0)) kr ?_
    refine GH_pure (E':=[⟨39,[],pt ((bs.getD j default).p)⟩,⟨38,[],pt ((bs.getD j default).p)⟩,⟨0,[],pt d⟩,⟨4,[],.func (.func 69) #[] #[pt b1]⟩,⟨6,[],pt ((bs.getD j default).p)⟩,⟨7,[],.int .i64 (((((stB bs ks j).1.getD j default).n : Nat) : Int) - ((((stB bs ks j).1.getD j default).m : Nat) : Int))⟩,⟨19,[],.slice ba bs.length bc⟩,⟨20,[],.int .i64 ((bs.length : Nat) : Int)⟩,⟨21,[],.int .i64 ((j : Nat) : Int)⟩]) 1 0 kr (fun w h=>((h.erase 2).erase 0)) kr ?_
    refine GH_nil (ad:=⟨(bs.getD j default).p,0,none⟩) 2 rfl rfl rfl kr kr kr kr kr (fun w h=>((h.erase 2).erase 0)) ?_
    refine GH_pure (E':=[⟨41,[],pt ((bs.getD j default).p)⟩,⟨38,[],pt ((bs.getD j default).p)⟩,⟨0,[],pt d⟩,⟨4,[],.func (.func 69) #[] #[pt b1]⟩,⟨6,[],pt ((bs.getD j default).p)⟩,⟨7,[],.int .i64 (((((stB bs ks j).1.getD j default).n : Nat) : Int) - ((((stB bs ks j).1.getD j default).m : Nat) : Int))⟩,⟨19,[],.slice ba bs.length bc⟩,⟨20,[],.int .i64 ((bs.length : Nat) : Int)⟩,⟨21,[],.int .i64 ((j : Nat) : Int)⟩]) 3 0 kr (fun w h=>((h.erase 2).erase 0)) kr ?_
    refine GH_pure (E':=[⟨43,[],pt ((bs.getD j default).p)⟩,⟨41,[],pt ((bs.getD j default).p)⟩,⟨38,[],pt ((bs.getD j default).p)⟩,⟨0,[],pt d⟩,⟨4,[],.func (.func 69) #[] #[pt b1]⟩,⟨6,[],pt ((bs.getD j default).p)⟩,⟨7,[],.int .i64 (((((stB bs ks j).1.getD j default).n : Nat) : Int) - ((((stB bs ks j).1.getD j default).m : Nat) : Int))⟩,⟨19,[],.slice ba bs.length bc⟩,⟨20,[],.int .i64 ((bs.length : Nat) : Int)⟩,⟨21,[],.int .i64 ((j : Nat) : Int)⟩]) 5 0 kr (fun w h=>((h.erase 2).erase 0)) kr ?_
    refine GH_nil (ad:=⟨(bs.getD j default).p,0,none⟩) 6 rfl rfl rfl kr kr kr kr kr (fun w h=>((h.erase 2).erase 0)) ?_
    refine GH_pure (E':=[⟨45,[],.pointer (some ⟨(bs.getD j default).p,1,none⟩)⟩,⟨41,[],pt ((bs.getD j default).p)⟩,⟨38,[],pt ((bs.getD j default).p)⟩,⟨0,[],pt d⟩,⟨4,[],.func (.func 69) #[] #[pt b1]⟩,⟨6,[],pt ((bs.getD j default).p)⟩,⟨7,[],.int .i64 (((((stB bs ks j).1.getD j default).n : Nat) : Int) - ((((stB bs ks j).1.getD j default).m : Nat) : Int))⟩,⟨19,[],.slice ba bs.length bc⟩,⟨20,[],.int .i64 ((bs.length : Nat) : Int)⟩,⟨21,[],.int .i64 ((j : Nat) : Int)⟩]) 7 0 kr (fun w h=>((h.erase 2).erase 0)) kr ?_
    refine GH_pure (E':=[⟨48,[],.func (.func 69) #[] #[pt b1]⟩,⟨45,[],.pointer (some ⟨(bs.getD j default).p,1,none⟩)⟩,⟨41,[],pt ((bs.getD j default).p)⟩,⟨38,[],pt ((bs.getD j default).p)⟩,⟨0,[],pt d⟩,⟨4,[],.func (.func 69) #[] #[pt b1]⟩,⟨6,[],pt ((bs.getD j default).p)⟩,⟨7,[],.int .i64 (((((stB bs ks j).1.getD j default).n : Nat) : Int) - ((((stB bs ks j).1.getD j default).m : Nat) : Int))⟩,⟨19,[],.slice ba bs.length bc⟩,⟨20,[],.int .i64 ((bs.length : Nat) : Int)⟩,⟨21,[],.int .i64 ((j : Nat) : Int)⟩]) 10 0 kr (fun w h=>((h.erase 2).erase 0)) kr ?_
    refine GH_pure (E':=[⟨49,[],.int .i64 (((((stB bs ks j).1.getD j default).n : Nat) : Int) - ((((stB bs ks j).1.getD j default).m : Nat) : Int))⟩,⟨48,[],.func (.func 69) #[] #[pt b1]⟩,⟨45,[],.pointer (some ⟨(bs.getD j default).p,1,none⟩)⟩,⟨41,[],pt ((bs.getD j default).p)⟩,⟨38,[],pt ((bs.getD j default).p)⟩,⟨0,[],pt d⟩,⟨4,[],.func (.func 69) #[] #[pt b1]⟩,⟨6,[],pt ((bs.getD j default).p)⟩,⟨19,[],.slice ba bs.length bc⟩,⟨20,[],.int .i64 ((bs.length : Nat) : Int)⟩,⟨21,[],.int .i64 ((j : Nat) : Int)⟩]) 11 0 kr (fun w h=>((h.erase 2).erase 0)) kr ?_
    have hw5 : IntKind.wrap .i64 ((((((stB bs ks j).1.getD j default).n : Nat) : Int) - ((((stB bs ks j).1.getD j default).m : Nat) : Int)) + 1) = (((((stB bs ks j).1.getD j default).n : Nat) : Int) - ((((stB bs ks j).1.getD j default).m : Nat) : Int)) + 1 := w64 (by omega) (by omega)
    refine GH_pure (E':=[⟨50,[],.int .i64 ((((((stB bs ks j).1.getD j default).n : Nat) : Int) - ((((stB bs ks j).1.getD j default).m : Nat) : Int))+1)⟩,⟨48,[],.func (.func 69) #[] #[pt b1]⟩,⟨45,[],.pointer (some ⟨(bs.getD j default).p,1,none⟩)⟩,⟨41,[],pt ((bs.getD j default).p)⟩,⟨38,[],pt ((bs.getD j default).p)⟩,⟨0,[],pt d⟩,⟨4,[],.func (.func 69) #[] #[pt b1]⟩,⟨6,[],pt ((bs.getD j default).p)⟩,⟨19,[],.slice ba bs.length bc⟩,⟨20,[],.int .i64 ((bs.length : Nat) : Int)⟩,⟨21,[],.int .i64 ((j : Nat) : Int)⟩]) 12 0 kr (fun w h=>((h.erase 2).erase 0)) (Eq.trans (b:=some [⟨50,[],.int .i64 (IntKind.wrap .i64 ((((((stB bs ks j).1.getD j default).n : Nat) : Int) - ((((stB bs ks j).1.getD j default).m : Nat) : Int))+1))⟩,⟨48,[],.func (.func 69) #[] #[pt b1]⟩,⟨45,[],.pointer (some ⟨(bs.getD j default).p,1,none⟩)⟩,⟨41,[],pt ((bs.getD j default).p)⟩,⟨38,[],pt ((bs.getD j default).p)⟩,⟨0,[],pt d⟩,⟨4,[],.func (.func 69) #[] #[pt b1]⟩,⟨6,[],pt ((bs.getD j default).p)⟩,⟨19,[],.slice ba bs.length bc⟩,⟨20,[],.int .i64 ((bs.length : Nat) : Int)⟩,⟨21,[],.int .i64 ((j : Nat) : Int)⟩]) kr (by simp only [hw5])) ?_
    refine GH_eff3 4 8 13 kr kr kr kr kr kr kr ?_ ?_ ?_
    ·
     refine GL_load (i:=4) (ch:=[]) (b:=(bs.getD j default).p) (off:=0) (v:=.slice ((stB bs ks j).1.getD j default).an (((stB bs ks j).1.getD j default).n) (((stB bs ks j).1.getD j default).cn)) rfl rfl kr kr kr kr kr (At.grp 2 j rfl (stB_hb hjl)) rfl ?_
     refine GH_back kr (fun w h=>((h.erase 2).erase 0)) ?_
     refine GH_eff2 8 13 kr kr kr kr kr ?_ ?_
     ·
      refine GL_load (i:=8) (ch:=[]) (b:=(bs.getD j default).p) (off:=1) (v:=.slice ((stB bs ks j).1.getD j default).ak (((stB bs ks j).1.getD j default).m) (((stB bs ks j).1.getD j default).ck)) rfl rfl kr kr kr kr kr (At.grp 2 j rfl (stB_hb hjl)) rfl ?_
      refine GH_back kr (fun w h=>((h.erase 2).erase 0)) ?_
      refine GH_pev (v:=.int .i64 ((((stB bs ks j).1.getD j default).m : Nat) : Int)) 9 rfl rfl kr kr kr kr kr (fun w h=>((h.erase 2).erase 0)) ?_
      refine GH_eff 13 kr kr kr ?_
      refine GL_call (i:=13) (ch:=[]) (f:=69) (fst:=#[]) (caps:=#[pt b1]) (vs:=[.int .i64 ((((((stB bs ks j).1.getD j default).n : Nat) : Int) - ((((stB bs ks j).1.getD j default).m : Nat) : Int))+1)]) rfl rfl rfl kr kr Tryz.func69 rfl rfl kr kr (chSure_of kr) (vNextA b1 (stB bs ks j).2 ((((((stB bs ks j).1.getD j default).n : Nat) : Int) - ((((stB bs ks j).1.getD j default).m : Nat) : Int))+1) (by omega) S (stB_ok hks j) _ _ (fun y o h=>(At.cons (At.cons (At.cons (At.cons (hS y o h))))))) ?_
      rintro v H' ⟨rfl, rfl⟩
      have hnx := nextK_bd (k := (stB bs ks j).2.l.headD 0) (n := (((((stB bs ks j).1.getD j default).n : Nat) : Int) - ((((stB bs ks j).1.getD j default).m : Nat) : Int)) + 1) (by omega)
      refine GH_back kr (fun w h=>((h.erase 2).erase 0)) ?_
      have hw6 : IntKind.wrap .i64 (((((stB bs ks j).1.getD j default).m : Nat) : Int) + (nextK ((stB bs ks j).2.l.headD 0) ((((((stB bs ks j).1.getD j default).n : Nat) : Int) - ((((stB bs ks j).1.getD j default).m : Nat) : Int)) + 1))) = ((((stB bs ks j).1.getD j default).m : Nat) : Int) + (nextK ((stB bs ks j).2.l.headD 0) ((((((stB bs ks j).1.getD j default).n : Nat) : Int) - ((((stB bs ks j).1.getD j default).m : Nat) : Int)) + 1)) := w64 (by omega) (by omega)
      refine GH_pure (E':=[⟨52,[],.int .i64 (((((stB bs ks j).1.getD j default).m : Nat) : Int)+(nextK ((stB bs ks j).2.l.headD 0) ((((((stB bs ks j).1.getD j default).n : Nat) : Int) - ((((stB bs ks j).1.getD j default).m : Nat) : Int))+1)))⟩,⟨42,[],.slice ((stB bs ks j).1.getD j default).an (((stB bs ks j).1.getD j default).n) (((stB bs ks j).1.getD j default).cn)⟩,⟨38,[],pt ((bs.getD j default).p)⟩,⟨0,[],pt d⟩,⟨4,[],.func (.func 69) #[] #[pt b1]⟩,⟨6,[],pt ((bs.getD j default).p)⟩,⟨19,[],.slice ba bs.length bc⟩,⟨20,[],.int .i64 ((bs.length : Nat) : Int)⟩,⟨21,[],.int .i64 ((j : Nat) : Int)⟩]) 14 0 kr (fun w h=>((h.erase 2).erase 0)) (Eq.trans (b:=some [⟨52,[],.int .i64 (IntKind.wrap .i64 (((((stB bs ks j).1.getD j default).m : Nat) : Int)+(nextK ((stB bs ks j).2.l.headD 0) ((((((stB bs ks j).1.getD j default).n : Nat) : Int) - ((((stB bs ks j).1.getD j default).m : Nat) : Int))+1))))⟩,⟨42,[],.slice ((stB bs ks j).1.getD j default).an (((stB bs ks j).1.getD j default).n) (((stB bs ks j).1.getD j default).cn)⟩,⟨38,[],pt ((bs.getD j default).p)⟩,⟨0,[],pt d⟩,⟨4,[],.func (.func 69) #[] #[pt b1]⟩,⟨6,[],pt ((bs.getD j default).p)⟩,⟨19,[],.slice ba bs.length bc⟩,⟨20,[],.int .i64 ((bs.length : Nat) : Int)⟩,⟨21,[],.int .i64 ((j : Nat) : Int)⟩]) kr (by simp only [hw6])) ?_
      refine GH_take' (E':=[⟨53,[],.slice (cutA ((stB bs ks j).1.getD j default).an (((stB bs ks j).1.getD j default).cn) 0 1) ((Int.toNat (((((stB bs ks j).1.getD j default).m : Nat) : Int)+(nextK ((stB bs ks j).2.l.headD 0) ((((((stB bs ks j).1.getD j default).n : Nat) : Int) - ((((stB bs ks j).1.getD j default).m : Nat) : Int))+1)))) - 0) (((stB bs ks j).1.getD j default).cn - 0)⟩,⟨52,[],.int .i64 (((((stB bs ks j).1.getD j default).m : Nat) : Int)+(nextK ((stB bs ks j).2.l.headD 0) ((((((stB bs ks j).1.getD j default).n : Nat) : Int) - ((((stB bs ks j).1.getD j default).m : Nat) : Int))+1)))⟩,⟨42,[],.slice ((stB bs ks j).1.getD j default).an (((stB bs ks j).1.getD j default).n) (((stB bs ks j).1.getD j default).cn)⟩,⟨38,[],pt ((bs.getD j default).p)⟩,⟨0,[],pt d⟩,⟨4,[],.func (.func 69) #[] #[pt b1]⟩,⟨6,[],pt ((bs.getD j default).p)⟩,⟨19,[],.slice ba bs.length bc⟩,⟨20,[],.int .i64 ((bs.length : Nat) : Int)⟩,⟨21,[],.int .i64 ((j : Nat) : Int)⟩]) 15 kr (fun w h=>((h.erase 2).erase 0)) ?_ ?_
      ·
       refine GL_sliceL (i:=15) (ch:=[]) (a:=((stB bs ks j).1.getD j default).an) (len:=((stB bs ks j).1.getD j default).n) (cap:=((stB bs ks j).1.getD j default).cn) (e:=5) (sz:=1) (vl:=none) (vh:=(some (.int .i64 (((((stB bs ks j).1.getD j default).m : Nat) : Int)+(nextK ((stB bs ks j).2.l.headD 0) ((((((stB bs ks j).1.getD j default).n : Nat) : Int) - ((((stB bs ks j).1.getD j default).m : Nat) : Int))+1)))))) (l:=0) (h:=((((stB bs ks j).1.getD j default).m : Nat) : Int)+(nextK ((stB bs ks j).2.l.headD 0) ((((((stB bs ks j).1.getD j default).n : Nat) : Int) - ((((stB bs ks j).1.getD j default).m : Nat) : Int))+1))) rfl rfl kr kr kr kr kr kr kr kr kr kr (fun _=>by omega) ?_
       exact GL_yend kr kr
      refine GH_nil (ad:=⟨(bs.getD j default).p,0,none⟩) 16 rfl rfl rfl kr kr kr kr kr (fun w h=>((h.erase 2).erase 0)) ?_
      refine GH_pure (E':=[⟨55,[],.pointer (some ⟨(bs.getD j default).p,1,none⟩)⟩,⟨53,[],.slice (cutA ((stB bs ks j).1.getD j default).an (((stB bs ks j).1.getD j default).cn) 0 1) ((Int.toNat (((((stB bs ks j).1.getD j default).m : Nat) : Int)+(nextK ((stB bs ks j).2.l.headD 0) ((((((stB bs ks j).1.getD j default).n : Nat) : Int) - ((((stB bs ks j).1.getD j default).m : Nat) : Int))+1)))) - 0) (((stB bs ks j).1.getD j default).cn - 0)⟩,⟨0,[],pt d⟩,⟨4,[],.func (.func 69) #[] #[pt b1]⟩,⟨6,[],pt ((bs.getD j default).p)⟩,⟨19,[],.slice ba bs.length bc⟩,⟨20,[],.int .i64 ((bs.length : Nat) : Int)⟩,⟨21,[],.int .i64 ((j : Nat) : Int)⟩]) 17 0 kr (fun w h=>((h.erase 2).erase 0)) kr ?_
      refine GH_eff 18 kr kr kr ?_
      refine GL_store (i:=18) (ch:=[]) (b:=(bs.getD j default).p) (off:=1) (v:=.slice (cutA ((stB bs ks j).1.getD j default).an (((stB bs ks j).1.getD j default).cn) 0 1) ((Int.toNat (((((stB bs ks j).1.getD j default).m : Nat) : Int)+(nextK ((stB bs ks j).2.l.headD 0) ((((((stB bs ks j).1.getD j default).n : Nat) : Int) - ((((stB bs ks j).1.getD j default).m : Nat) : Int))+1)))) - 0) (((stB bs ks j).1.getD j default).cn - 0)) (c:=#[.slice ((stB bs ks j).1.getD j default).an (((stB bs ks j).1.getD j default).n) (((stB bs ks j).1.getD j default).cn),.slice ((stB bs ks j).1.getD j default).ak (((stB bs ks j).1.getD j default).m) (((stB bs ks j).1.getD j default).ck)]) (c':=#[.slice ((stB bs ks j).1.getD j default).an (((stB bs ks j).1.getD j default).n) (((stB bs ks j).1.getD j default).cn),.slice (cutA ((stB bs ks j).1.getD j default).an (((stB bs ks j).1.getD j default).cn) 0 1) ((Int.toNat (((((stB bs ks j).1.getD j default).m : Nat) : Int)+(nextK ((stB bs ks j).2.l.headD 0) ((((((stB bs ks j).1.getD j default).n : Nat) : Int) - ((((stB bs ks j).1.getD j default).m : Nat) : Int))+1)))) - 0) (((stB bs ks j).1.getD j default).cn - 0)]) (j:=2) (m:=j) (H':=([(b1,.cells #[.slice (ksNext (stB bs ks j).2).a ((ksNext (stB bs ks j).2).l.length) ((ksNext (stB bs ks j).2).c)] 49 (0,0))]::[(d,.cells #[.int .i64 room,.slice ba bs.length bc,.map (some nb),.map (some kb),.map (some cb),.bool fails,.bool once,.int .i64 calls] 72 (0,0))]::bodyG ((stB bs ks j).1.set j ⟨(bs.getD j default).p,((stB bs ks j).1.getD j default).an,((stB bs ks j).1.getD j default).n,((stB bs ks j).1.getD j default).cn,(cutA ((stB bs ks j).1.getD j default).an (((stB bs ks j).1.getD j default).cn) 0 1),(Int.toNat (((((stB bs ks j).1.getD j default).m : Nat) : Int)+(nextK ((stB bs ks j).2.l.headD 0) ((((((stB bs ks j).1.getD j default).n : Nat) : Int) - ((((stB bs ks j).1.getD j default).m : Nat) : Int))+1)))) - 0,((stB bs ks j).1.getD j default).cn - 0⟩)::[(kb,.map (encM km) kc)]::[(cb,.map (encM cm) cc)]::H)) rfl rfl kr kr kr kr kr kr kr rfl (stB_hb hjl) (Nat.le_of_ble_eq_true rfl) (fun _ _=>thaw0) kr (congrArg (List.set ([(b1,.cells #[.slice (ksNext (stB bs ks j).2).a ((ksNext (stB bs ks j).2).l.length) ((ksNext (stB bs ks j).2).c)] 49 (0,0))]::[(d,.cells #[.int .i64 room,.slice ba bs.length bc,.map (some nb),.map (some kb),.map (some cb),.bool fails,.bool once,.int .i64 calls] 72 (0,0))]::bodyG (stB bs ks j).1::[(kb,.map (encM km) kc)]::[(cb,.map (encM cm) cc)]::H) 2) (bodyG_set (stB bs ks j).1 j ⟨(bs.getD j default).p,((stB bs ks j).1.getD j default).an,((stB bs ks j).1.getD j default).n,((stB bs ks j).1.getD j default).cn,(cutA ((stB bs ks j).1.getD j default).an (((stB bs ks j).1.getD j default).cn) 0 1),(Int.toNat (((((stB bs ks j).1.getD j default).m : Nat) : Int)+(nextK ((stB bs ks j).2.l.headD 0) ((((((stB bs ks j).1.getD j default).n : Nat) : Int) - ((((stB bs ks j).1.getD j default).m : Nat) : Int))+1)))) - 0,((stB bs ks j).1.getD j default).cn - 0⟩)) ?_
      refine GH_back kr (fun w h=>((h.erase 2).erase 0)) ?_
      refine GH_done (E':=[⟨0,[],pt d⟩,⟨4,[],.func (.func 69) #[] #[pt b1]⟩,⟨6,[],pt ((bs.getD j default).p)⟩,⟨19,[],.slice ba bs.length bc⟩,⟨20,[],.int .i64 ((bs.length : Nat) : Int)⟩,⟨21,[],.int .i64 ((j : Nat) : Int)⟩]) [0,4,6,19,20,21] kr kr ?_
      refine N_join () [0,4,6,19,20,21] kr (fun w h=>h) trivial
     ·
      refine GL_call (i:=13) (ch:=[]) (f:=69) (fst:=#[]) (caps:=#[pt b1]) (vs:=[.int .i64 ((((((stB bs ks j).1.getD j default).n : Nat) : Int) - ((((stB bs ks j).1.getD j default).m : Nat) : Int))+1)]) rfl rfl rfl kr kr Tryz.func69 rfl rfl kr kr (chSure_of kr) (vNextA b1 (stB bs ks j).2 ((((((stB bs ks j).1.getD j default).n : Nat) : Int) - ((((stB bs ks j).1.getD j default).m : Nat) : Int))+1) (by omega) S (stB_ok hks j) _ _ (fun y o h=>(At.cons (At.cons (At.cons (At.cons (hS y o h))))))) ?_
      rintro v H' ⟨rfl, rfl⟩
      have hnx := nextK_bd (k := (stB bs ks j).2.l.headD 0) (n := (((((stB bs ks j).1.getD j default).n : Nat) : Int) - ((((stB bs ks j).1.getD j default).m : Nat) : Int)) + 1) (by omega)
      refine GH_back kr (fun w h=>((h.erase 2).erase 0)) ?_
      refine GH_eff 8 kr kr kr ?_
      refine GL_load (i:=8) (ch:=[]) (b:=(bs.getD j default).p) (off:=1) (v:=.slice ((stB bs ks j).1.getD j default).ak (((stB bs ks j).1.getD j default).m) (((stB bs ks j).1.getD j default).ck)) rfl rfl kr kr kr kr kr (At.grp 2 j rfl (stB_hb hjl)) rfl ?_
      refine GH_back kr (fun w h=>((h.erase 2).erase 0)) ?_
      refine GH_pev (v:=.int .i64 ((((stB bs ks j).1.getD j default).m : Nat) : Int)) 9 rfl rfl kr kr kr kr kr (fun w h=>((h.erase 2).erase 0)) ?_
      have hw7 : IntKind.wrap .i64 (((((stB bs ks j).1.getD j default).m : Nat) : Int) + (nextK ((stB bs ks j).2.l.headD 0) ((((((stB bs ks j).1.getD j default).n : Nat) : Int) - ((((stB bs ks j).1.getD j default).m : Nat) : Int)) + 1))) = ((((stB bs ks j).1.getD j default).m : Nat) : Int) + (nextK ((stB bs ks j).2.l.headD 0) ((((((stB bs ks j).1.getD j default).n : Nat) : Int) - ((((stB bs ks j).1.getD j default).m : Nat) : Int)) + 1)) := w64 (by omega) (by omega)
      refine GH_pure (E':=[⟨52,[],.int .i64 (((((stB bs ks j).1.getD j default).m : Nat) : Int)+(nextK ((stB bs ks j).2.l.headD 0) ((((((stB bs ks j).1.getD j default).n : Nat) : Int) - ((((stB bs ks j).1.getD j default).m : Nat) : Int))+1)))⟩,⟨42,[],.slice ((stB bs ks j).1.getD j default).an (((stB bs ks j).1.getD j default).n) (((stB bs ks j).1.getD j default).cn)⟩,⟨38,[],pt ((bs.getD j default).p)⟩,⟨0,[],pt d⟩,⟨4,[],.func (.func 69) #[] #[pt b1]⟩,⟨6,[],pt ((bs.getD j default).p)⟩,⟨19,[],.slice ba bs.length bc⟩,⟨20,[],.int .i64 ((bs.length : Nat) : Int)⟩,⟨21,[],.int .i64 ((j : Nat) : Int)⟩]) 14 0 kr (fun w h=>((h.erase 2).erase 0)) (Eq.trans (b:=some [⟨52,[],.int .i64 (IntKind.wrap .i64 (((((stB bs ks j).1.getD j default).m : Nat) : Int)+(nextK ((stB bs ks j).2.l.headD 0) ((((((stB bs ks j).1.getD j default).n : Nat) : Int) - ((((stB bs ks j).1.getD j default).m : Nat) : Int))+1))))⟩,⟨42,[],.slice ((stB bs ks j).1.getD j default).an (((stB bs ks j).1.getD j default).n) (((stB bs ks j).1.getD j default).cn)⟩,⟨38,[],pt ((bs.getD j default).p)⟩,⟨0,[],pt d⟩,⟨4,[],.func (.func 69) #[] #[pt b1]⟩,⟨6,[],pt ((bs.getD j default).p)⟩,⟨19,[],.slice ba bs.length bc⟩,⟨20,[],.int .i64 ((bs.length : Nat) : Int)⟩,⟨21,[],.int .i64 ((j : Nat) : Int)⟩]) kr (by simp only [hw7])) ?_
      refine GH_take' (E':=[⟨53,[],.slice (cutA ((stB bs ks j).1.getD j default).an (((stB bs ks j).1.getD j default).cn) 0 1) ((Int.toNat (((((stB bs ks j).1.getD j default).m : Nat) : Int)+(nextK ((stB bs ks j).2.l.headD 0) ((((((stB bs ks j).1.getD j default).n : Nat) : Int) - ((((stB bs ks j).1.getD j default).m : Nat) : Int))+1)))) - 0) (((stB bs ks j).1.getD j default).cn - 0)⟩,⟨52,[],.int .i64 (((((stB bs ks j).1.getD j default).m : Nat) : Int)+(nextK ((stB bs ks j).2.l.headD 0) ((((((stB bs ks j).1.getD j default).n : Nat) : Int) - ((((stB bs ks j).1.getD j default).m : Nat) : Int))+1)))⟩,⟨42,[],.slice ((stB bs ks j).1.getD j default).an (((stB bs ks j).1.getD j default).n) (((stB bs ks j).1.getD j default).cn)⟩,⟨38,[],pt ((bs.getD j default).p)⟩,⟨0,[],pt d⟩,⟨4,[],.func (.func 69) #[] #[pt b1]⟩,⟨6,[],pt ((bs.getD j default).p)⟩,⟨19,[],.slice ba bs.length bc⟩,⟨20,[],.int .i64 ((bs.length : Nat) : Int)⟩,⟨21,[],.int .i64 ((j : Nat) : Int)⟩]) 15 kr (fun w h=>((h.erase 2).erase 0)) ?_ ?_
      ·
       refine GL_sliceL (i:=15) (ch:=[]) (a:=((stB bs ks j).1.getD j default).an) (len:=((stB bs ks j).1.getD j default).n) (cap:=((stB bs ks j).1.getD j default).cn) (e:=5) (sz:=1) (vl:=none) (vh:=(some (.int .i64 (((((stB bs ks j).1.getD j default).m : Nat) : Int)+(nextK ((stB bs ks j).2.l.headD 0) ((((((stB bs ks j).1.getD j default).n : Nat) : Int) - ((((stB bs ks j).1.getD j default).m : Nat) : Int))+1)))))) (l:=0) (h:=((((stB bs ks j).1.getD j default).m : Nat) : Int)+(nextK ((stB bs ks j).2.l.headD 0) ((((((stB bs ks j).1.getD j default).n : Nat) : Int) - ((((stB bs ks j).1.getD j default).m : Nat) : Int))+1))) rfl rfl kr kr kr kr kr kr kr kr kr kr (fun _=>by omega) ?_
       exact GL_yend kr kr
      refine GH_nil (ad:=⟨(bs.getD j default).p,0,none⟩) 16 rfl rfl rfl kr kr kr kr kr (fun w h=>((h.erase 2).erase 0)) ?_
      refine GH_pure (E':=[⟨55,[],.pointer (some ⟨(bs.getD j default).p,1,none⟩)⟩,⟨53,[],.slice (cutA ((stB bs ks j).1.getD j default).an (((stB bs ks j).1.getD j default).cn) 0 1) ((Int.toNat (((((stB bs ks j).1.getD j default).m : Nat) : Int)+(nextK ((stB bs ks j).2.l.headD 0) ((((((stB bs ks j).1.getD j default).n : Nat) : Int) - ((((stB bs ks j).1.getD j default).m : Nat) : Int))+1)))) - 0) (((stB bs ks j).1.getD j default).cn - 0)⟩,⟨0,[],pt d⟩,⟨4,[],.func (.func 69) #[] #[pt b1]⟩,⟨6,[],pt ((bs.getD j default).p)⟩,⟨19,[],.slice ba bs.length bc⟩,⟨20,[],.int .i64 ((bs.length : Nat) : Int)⟩,⟨21,[],.int .i64 ((j : Nat) : Int)⟩]) 17 0 kr (fun w h=>((h.erase 2).erase 0)) kr ?_
      refine GH_eff 18 kr kr kr ?_
      refine GL_store (i:=18) (ch:=[]) (b:=(bs.getD j default).p) (off:=1) (v:=.slice (cutA ((stB bs ks j).1.getD j default).an (((stB bs ks j).1.getD j default).cn) 0 1) ((Int.toNat (((((stB bs ks j).1.getD j default).m : Nat) : Int)+(nextK ((stB bs ks j).2.l.headD 0) ((((((stB bs ks j).1.getD j default).n : Nat) : Int) - ((((stB bs ks j).1.getD j default).m : Nat) : Int))+1)))) - 0) (((stB bs ks j).1.getD j default).cn - 0)) (c:=#[.slice ((stB bs ks j).1.getD j default).an (((stB bs ks j).1.getD j default).n) (((stB bs ks j).1.getD j default).cn),.slice ((stB bs ks j).1.getD j default).ak (((stB bs ks j).1.getD j default).m) (((stB bs ks j).1.getD j default).ck)]) (c':=#[.slice ((stB bs ks j).1.getD j default).an (((stB bs ks j).1.getD j default).n) (((stB bs ks j).1.getD j default).cn),.slice (cutA ((stB bs ks j).1.getD j default).an (((stB bs ks j).1.getD j default).cn) 0 1) ((Int.toNat (((((stB bs ks j).1.getD j default).m : Nat) : Int)+(nextK ((stB bs ks j).2.l.headD 0) ((((((stB bs ks j).1.getD j default).n : Nat) : Int) - ((((stB bs ks j).1.getD j default).m : Nat) : Int))+1)))) - 0) (((stB bs ks j).1.getD j default).cn - 0)]) (j:=2) (m:=j) (H':=([(b1,.cells #[.slice (ksNext (stB bs ks j).2).a ((ksNext (stB bs ks j).2).l.length) ((ksNext (stB bs ks j).2).c)] 49 (0,0))]::[(d,.cells #[.int .i64 room,.slice ba bs.length bc,.map (some nb),.map (some kb),.map (some cb),.bool fails,.bool once,.int .i64 calls] 72 (0,0))]::bodyG ((stB bs ks j).1.set j ⟨(bs.getD j default).p,((stB bs ks j).1.getD j default).an,((stB bs ks j).1.getD j default).n,((stB bs ks j).1.getD j default).cn,(cutA ((stB bs ks j).1.getD j default).an (((stB bs ks j).1.getD j default).cn) 0 1),(Int.toNat (((((stB bs ks j).1.getD j default).m : Nat) : Int)+(nextK ((stB bs ks j).2.l.headD 0) ((((((stB bs ks j).1.getD j default).n : Nat) : Int) - ((((stB bs ks j).1.getD j default).m : Nat) : Int))+1)))) - 0,((stB bs ks j).1.getD j default).cn - 0⟩)::[(kb,.map (encM km) kc)]::[(cb,.map (encM cm) cc)]::H)) rfl rfl kr kr kr kr kr kr kr rfl (stB_hb hjl) (Nat.le_of_ble_eq_true rfl) (fun _ _=>thaw0) kr (congrArg (List.set ([(b1,.cells #[.slice (ksNext (stB bs ks j).2).a ((ksNext (stB bs ks j).2).l.length) ((ksNext (stB bs ks j).2).c)] 49 (0,0))]::[(d,.cells #[.int .i64 room,.slice ba bs.length bc,.map (some nb),.map (some kb),.map (some cb),.bool fails,.bool once,.int .i64 calls] 72 (0,0))]::bodyG (stB bs ks j).1::[(kb,.map (encM km) kc)]::[(cb,.map (encM cm) cc)]::H) 2) (bodyG_set (stB bs ks j).1 j ⟨(bs.getD j default).p,((stB bs ks j).1.getD j default).an,((stB bs ks j).1.getD j default).n,((stB bs ks j).1.getD j default).cn,(cutA ((stB bs ks j).1.getD j default).an (((stB bs ks j).1.getD j default).cn) 0 1),(Int.toNat (((((stB bs ks j).1.getD j default).m : Nat) : Int)+(nextK ((stB bs ks j).2.l.headD 0) ((((((stB bs ks j).1.getD j default).n : Nat) : Int) - ((((stB bs ks j).1.getD j default).m : Nat) : Int))+1)))) - 0,((stB bs ks j).1.getD j default).cn - 0⟩)) ?_
      refine GH_back kr (fun w h=>((h.erase 2).erase 0)) ?_
      refine GH_done (E':=[⟨0,[],pt d⟩,⟨4,[],.func (.func 69) #[] #[pt b1]⟩,⟨6,[],pt ((bs.getD j default).p)⟩,⟨19,[],.slice ba bs.length bc⟩,⟨20,[],.int .i64 ((bs.length : Nat) : Int)⟩,⟨21,[],.int .i64 ((j : Nat) : Int)⟩]) [0,4,6,19,20,21] kr kr ?_
      refine N_join () [0,4,6,19,20,21] kr (fun w h=>h) trivial
    ·
     refine GL_load (i:=8) (ch:=[]) (b:=(bs.getD j default).p) (off:=1) (v:=.slice ((stB bs ks j).1.getD j default).ak (((stB bs ks j).1.getD j default).m) (((stB bs ks j).1.getD j default).ck)) rfl rfl kr kr kr kr kr (At.grp 2 j rfl (stB_hb hjl)) rfl ?_
     refine GH_back kr (fun w h=>((h.erase 2).erase 0)) ?_
     refine GH_pev (v:=.int .i64 ((((stB bs ks j).1.getD j default).m : Nat) : Int)) 9 rfl rfl kr kr kr kr kr (fun w h=>((h.erase 2).erase 0)) ?_
     refine GH_eff2 4 13 kr kr kr kr kr ?_ ?_
     ·
      refine GL_load (i:=4) (ch:=[]) (b:=(bs.getD j default).p) (off:=0) (v:=.slice ((stB bs ks j).1.getD j default).an (((stB bs ks j).1.getD j default).n) (((stB bs ks j).1.getD j default).cn)) rfl rfl kr kr kr kr kr (At.grp 2 j rfl (stB_hb hjl)) rfl ?_
      refine GH_back kr (fun w h=>((h.erase 2).erase 0)) ?_
      refine GH_eff 13 kr kr kr ?_
      refine GL_call (i:=13) (ch:=[]) (f:=69) (fst:=#[]) (caps:=#[pt b1]) (vs:=[.int .i64 ((((((stB bs ks j).1.getD j default).n : Nat) : Int) - ((((stB bs ks j).1.getD j default).m : Nat) : Int))+1)]) rfl rfl rfl kr kr Tryz.func69 rfl rfl kr kr (chSure_of kr) (vNextA b1 (stB bs ks j).2 ((((((stB bs ks j).1.getD j default).n : Nat) : Int) - ((((stB bs ks j).1.getD j default).m : Nat) : Int))+1) (by omega) S (stB_ok hks j) _ _ (fun y o h=>(At.cons (At.cons (At.cons (At.cons (hS y o h))))))) ?_
      rintro v H' ⟨rfl, rfl⟩
      have hnx := nextK_bd (k := (stB bs ks j).2.l.headD 0) (n := (((((stB bs ks j).1.getD j default).n : Nat) : Int) - ((((stB bs ks j).1.getD j default).m : Nat) : Int)) + 1) (by omega)
      refine GH_back kr (fun w h=>((h.erase 2).erase 0)) ?_
      have hw8 : IntKind.wrap .i64 (((((stB bs ks j).1.getD j default).m : Nat) : Int) + (nextK ((stB bs ks j).2.l.headD 0) ((((((stB bs ks j).1.getD j default).n : Nat) : Int) - ((((stB bs ks j).1.getD j default).m : Nat) : Int)) + 1))) = ((((stB bs ks j).1.getD j default).m : Nat) : Int) + (nextK ((stB bs ks j).2.l.headD 0) ((((((stB bs ks j).1.getD j default).n : Nat) : Int) - ((((stB bs ks j).1.getD j default).m : Nat) : Int)) + 1)) := w64 (by omega) (by omega)
      refine GH_pure (E':=[⟨52,[],.int .i64 (((((stB bs ks j).1.getD j default).m : Nat) : Int)+(nextK ((stB bs ks j).2.l.headD 0) ((((((stB bs ks j).1.getD j default).n : Nat) : Int) - ((((stB bs ks j).1.getD j default).m : Nat) : Int))+1)))⟩,⟨42,[],.slice ((stB bs ks j).1.getD j default).an (((stB bs ks j).1.getD j default).n) (((stB bs ks j).1.getD j default).cn)⟩,⟨38,[],pt ((bs.getD j default).p)⟩,⟨0,[],pt d⟩,⟨4,[],.func (.func 69) #[] #[pt b1]⟩,⟨6,[],pt ((bs.getD j default).p)⟩,⟨19,[],.slice ba bs.length bc⟩,⟨20,[],.int .i64 ((bs.length : Nat) : Int)⟩,⟨21,[],.int .i64 ((j : Nat) : Int)⟩]) 14 0 kr (fun w h=>((h.erase 2).erase 0)) (Eq.trans (b:=some [⟨52,[],.int .i64 (IntKind.wrap .i64 (((((stB bs ks j).1.getD j default).m : Nat) : Int)+(nextK ((stB bs ks j).2.l.headD 0) ((((((stB bs ks j).1.getD j default).n : Nat) : Int) - ((((stB bs ks j).1.getD j default).m : Nat) : Int))+1))))⟩,⟨42,[],.slice ((stB bs ks j).1.getD j default).an (((stB bs ks j).1.getD j default).n) (((stB bs ks j).1.getD j default).cn)⟩,⟨38,[],pt ((bs.getD j default).p)⟩,⟨0,[],pt d⟩,⟨4,[],.func (.func 69) #[] #[pt b1]⟩,⟨6,[],pt ((bs.getD j default).p)⟩,⟨19,[],.slice ba bs.length bc⟩,⟨20,[],.int .i64 ((bs.length : Nat) : Int)⟩,⟨21,[],.int .i64 ((j : Nat) : Int)⟩]) kr (by simp only [hw8])) ?_
      refine GH_take' (E':=[⟨53,[],.slice (cutA ((stB bs ks j).1.getD j default).an (((stB bs ks j).1.getD j default).cn) 0 1) ((Int.toNat (((((stB bs ks j).1.getD j default).m : Nat) : Int)+(nextK ((stB bs ks j).2.l.headD 0) ((((((stB bs ks j).1.getD j default).n : Nat) : Int) - ((((stB bs ks j).1.getD j default).m : Nat) : Int))+1)))) - 0) (((stB bs ks j).1.getD j default).cn - 0)⟩,⟨52,[],.int .i64 (((((stB bs ks j).1.getD j default).m : Nat) : Int)+(nextK ((stB bs ks j).2.l.headD 0) ((((((stB bs ks j).1.getD j default).n : Nat) : Int) - ((((stB bs ks j).1.getD j default).m : Nat) : Int))+1)))⟩,⟨42,[],.slice ((stB bs ks j).1.getD j default).an (((stB bs ks j).1.getD j default).n) (((stB bs ks j).1.getD j default).cn)⟩,⟨38,[],pt ((bs.getD j default).p)⟩,⟨0,[],pt d⟩,⟨4,[],.func (.func 69) #[] #[pt b1]⟩,⟨6,[],pt ((bs.getD j default).p)⟩,⟨19,[],.slice ba bs.length bc⟩,⟨20,[],.int .i64 ((bs.length : Nat) : Int)⟩,⟨21,[],.int .i64 ((j : Nat) : Int)⟩]) 15 kr (fun w h=>((h.erase 2).erase 0)) ?_ ?_
      ·
       refine GL_sliceL (i:=15) (ch:=[]) (a:=((stB bs ks j).1.getD j default).an) (len:=((stB bs ks j).1.getD j default).n) (cap:=((stB bs ks j).1.getD j default).cn) (e:=5) (sz:=1) (vl:=none) (vh:=(some (.int .i64 (((((stB bs ks j).1.getD j default).m : Nat) : Int)+(nextK ((stB bs ks j).2.l.headD 0) ((((((stB bs ks j).1.getD j default).n : Nat) : Int) - ((((stB bs ks j).1.getD j default).m : Nat) : Int))+1)))))) (l:=0) (h:=((((stB bs ks j).1.getD j default).m : Nat) : Int)+(nextK ((stB bs ks j).2.l.headD 0) ((((((stB bs ks j).1.getD j default).n : Nat) : Int) - ((((stB bs ks j).1.getD j default).m : Nat) : Int))+1))) rfl rfl kr kr kr kr kr kr kr kr kr kr (fun _=>by omega) ?_
       exact GL_yend kr kr
      refine GH_nil (ad:=⟨(bs.getD j default).p,0,none⟩) 16 rfl rfl rfl kr kr kr kr kr (fun w h=>((h.erase 2).erase 0)) ?_
      refine GH_pure (E':=[⟨55,[],.pointer (some ⟨(bs.getD j default).p,1,none⟩)⟩,⟨53,[],.slice (cutA ((stB bs ks j).1.getD j default).an (((stB bs ks j).1.getD j default).cn) 0 1) ((Int.toNat (((((stB bs ks j).1.getD j default).m : Nat) : Int)+(nextK ((stB bs ks j).2.l.headD 0) ((((((stB bs ks j).1.getD j default).n : Nat) : Int) - ((((stB bs ks j).1.getD j default).m : Nat) : Int))+1)))) - 0) (((stB bs ks j).1.getD j default).cn - 0)⟩,⟨0,[],pt d⟩,⟨4,[],.func (.func 69) #[] #[pt b1]⟩,⟨6,[],pt ((bs.getD j default).p)⟩,⟨19,[],.slice ba bs.length bc⟩,⟨20,[],.int .i64 ((bs.length : Nat) : Int)⟩,⟨21,[],.int .i64 ((j : Nat) : Int)⟩]) 17 0 kr (fun w h=>((h.erase 2).erase 0)) kr ?_
      refine GH_eff 18 kr kr kr ?_
      refine GL_store (i:=18) (ch:=[]) (b:=(bs.getD j default).p) (off:=1) (v:=.slice (cutA ((stB bs ks j).1.getD j default).an (((stB bs ks j).1.getD j default).cn) 0 1) ((Int.toNat (((((stB bs ks j).1.getD j default).m : Nat) : Int)+(nextK ((stB bs ks j).2.l.headD 0) ((((((stB bs ks j).1.getD j default).n : Nat) : Int) - ((((stB bs ks j).1.getD j default).m : Nat) : Int))+1)))) - 0) (((stB bs ks j).1.getD j default).cn - 0)) (c:=#[.slice ((stB bs ks j).1.getD j default).an (((stB bs ks j).1.getD j default).n) (((stB bs ks j).1.getD j default).cn),.slice ((stB bs ks j).1.getD j default).ak (((stB bs ks j).1.getD j default).m) (((stB bs ks j).1.getD j default).ck)]) (c':=#[.slice ((stB bs ks j).1.getD j default).an (((stB bs ks j).1.getD j default).n) (((stB bs ks j).1.getD j default).cn),.slice (cutA ((stB bs ks j).1.getD j default).an (((stB bs ks j).1.getD j default).cn) 0 1) ((Int.toNat (((((stB bs ks j).1.getD j default).m : Nat) : Int)+(nextK ((stB bs ks j).2.l.headD 0) ((((((stB bs ks j).1.getD j default).n : Nat) : Int) - ((((stB bs ks j).1.getD j default).m : Nat) : Int))+1)))) - 0) (((stB bs ks j).1.getD j default).cn - 0)]) (j:=2) (m:=j) (H':=([(b1,.cells #[.slice (ksNext (stB bs ks j).2).a ((ksNext (stB bs ks j).2).l.length) ((ksNext (stB bs ks j).2).c)] 49 (0,0))]::[(d,.cells #[.int .i64 room,.slice ba bs.length bc,.map (some nb),.map (some kb),.map (some cb),.bool fails,.bool once,.int .i64 calls] 72 (0,0))]::bodyG ((stB bs ks j).1.set j ⟨(bs.getD j default).p,((stB bs ks j).1.getD j default).an,((stB bs ks j).1.getD j default).n,((stB bs ks j).1.getD j default).cn,(cutA ((stB bs ks j).1.getD j default).an (((stB bs ks j).1.getD j default).cn) 0 1),(Int.toNat (((((stB bs ks j).1.getD j default).m : Nat) : Int)+(nextK ((stB bs ks j).2.l.headD 0) ((((((stB bs ks j).1.getD j default).n : Nat) : Int) - ((((stB bs ks j).1.getD j default).m : Nat) : Int))+1)))) - 0,((stB bs ks j).1.getD j default).cn - 0⟩)::[(kb,.map (encM km) kc)]::[(cb,.map (encM cm) cc)]::H)) rfl rfl kr kr kr kr kr kr kr rfl (stB_hb hjl) (Nat.le_of_ble_eq_true rfl) (fun _ _=>thaw0) kr (congrArg (List.set ([(b1,.cells #[.slice (ksNext (stB bs ks j).2).a ((ksNext (stB bs ks j).2).l.length) ((ksNext (stB bs ks j).2).c)] 49 (0,0))]::[(d,.cells #[.int .i64 room,.slice ba bs.length bc,.map (some nb),.map (some kb),.map (some cb),.bool fails,.bool once,.int .i64 calls] 72 (0,0))]::bodyG (stB bs ks j).1::[(kb,.map (encM km) kc)]::[(cb,.map (encM cm) cc)]::H) 2) (bodyG_set (stB bs ks j).1 j ⟨(bs.getD j default).p,((stB bs ks j).1.getD j default).an,((stB bs ks j).1.getD j default).n,((stB bs ks j).1.getD j default).cn,(cutA ((stB bs ks j).1.getD j default).an (((stB bs ks j).1.getD j default).cn) 0 1),(Int.toNat (((((stB bs ks j).1.getD j default).m : Nat) : Int)+(nextK ((stB bs ks j).2.l.headD 0) ((((((stB bs ks j).1.getD j default).n : Nat) : Int) - ((((stB bs ks j).1.getD j default).m : Nat) : Int))+1)))) - 0,((stB bs ks j).1.getD j default).cn - 0⟩)) ?_
      refine GH_back kr (fun w h=>((h.erase 2).erase 0)) ?_
      refine GH_done (E':=[⟨0,[],pt d⟩,⟨4,[],.func (.func 69) #[] #[pt b1]⟩,⟨6,[],pt ((bs.getD j default).p)⟩,⟨19,[],.slice ba bs.length bc⟩,⟨20,[],.int .i64 ((bs.length : Nat) : Int)⟩,⟨21,[],.int .i64 ((j : Nat) : Int)⟩]) [0,4,6,19,20,21] kr kr ?_
      refine N_join () [0,4,6,19,20,21] kr (fun w h=>h) trivial
     ·
      refine GL_call (i:=13) (ch:=[]) (f:=69) (fst:=#[]) (caps:=#[pt b1]) (vs:=[.int .i64 ((((((stB bs ks j).1.getD j default).n : Nat) : Int) - ((((stB bs ks j).1.getD j default).m : Nat) : Int))+1)]) rfl rfl rfl kr kr Tryz.func69 rfl rfl kr kr (chSure_of kr) (vNextA b1 (stB bs ks j).2 ((((((stB bs ks j).1.getD j default).n : Nat) : Int) - ((((stB bs ks j).1.getD j default).m : Nat) : Int))+1) (by omega) S (stB_ok hks j) _ _ (fun y o h=>(At.cons (At.cons (At.cons (At.cons (hS y o h))))))) ?_
      rintro v H' ⟨rfl, rfl⟩
      have hnx := nextK_bd (k := (stB bs ks j).2.l.headD 0) (n := (((((stB bs ks j).1.getD j default).n : Nat) : Int) - ((((stB bs ks j).1.getD j default).m : Nat) : Int)) + 1) (by omega)
      refine GH_back kr (fun w h=>((h.erase 2).erase 0)) ?_
      have hw9 : IntKind.wrap .i64 (((((stB bs ks j).1.getD j default).m : Nat) : Int) + (nextK ((stB bs ks j).2.l.headD 0) ((((((stB bs ks j).1.getD j default).n : Nat) : Int) - ((((stB bs ks j).1.getD j default).m : Nat) : Int)) + 1))) = ((((stB bs ks j).1.getD j default).m : Nat) : Int) + (nextK ((stB bs ks j).2.l.headD 0) ((((((stB bs ks j).1.getD j default).n : Nat) : Int) - ((((stB bs ks j).1.getD j default).m : Nat) : Int)) + 1)) := w64 (by omega) (by omega)
      refine GH_pure (E':=[⟨52,[],.int .i64 (((((stB bs ks j).1.getD j default).m : Nat) : Int)+(nextK ((stB bs ks j).2.l.headD 0) ((((((stB bs ks j).1.getD j default).n : Nat) : Int) - ((((stB bs ks j).1.getD j default).m : Nat) : Int))+1)))⟩,⟨41,[],pt ((bs.getD j default).p)⟩,⟨38,[],pt ((bs.getD j default).p)⟩,⟨0,[],pt d⟩,⟨4,[],.func (.func 69) #[] #[pt b1]⟩,⟨6,[],pt ((bs.getD j default).p)⟩,⟨19,[],.slice ba bs.length bc⟩,⟨20,[],.int .i64 ((bs.length : Nat) : Int)⟩,⟨21,[],.int .i64 ((j : Nat) : Int)⟩]) 14 0 kr (fun w h=>((h.erase 2).erase 0)) (Eq.trans (b:=some [⟨52,[],.int .i64 (IntKind.wrap .i64 (((((stB bs ks j).1.getD j default).m : Nat) : Int)+(nextK ((stB bs ks j).2.l.headD 0) ((((((stB bs ks j).1.getD j default).n : Nat) : Int) - ((((stB bs ks j).1.getD j default).m : Nat) : Int))+1))))⟩,⟨41,[],pt ((bs.getD j default).p)⟩,⟨38,[],pt ((bs.getD j default).p)⟩,⟨0,[],pt d⟩,⟨4,[],.func (.func 69) #[] #[pt b1]⟩,⟨6,[],pt ((bs.getD j default).p)⟩,⟨19,[],.slice ba bs.length bc⟩,⟨20,[],.int .i64 ((bs.length : Nat) : Int)⟩,⟨21,[],.int .i64 ((j : Nat) : Int)⟩]) kr (by simp only [hw9])) ?_
      refine GH_eff 4 kr kr kr ?_
      refine GL_load (i:=4) (ch:=[]) (b:=(bs.getD j default).p) (off:=0) (v:=.slice ((stB bs ks j).1.getD j default).an (((stB bs ks j).1.getD j default).n) (((stB bs ks j).1.getD j default).cn)) rfl rfl kr kr kr kr kr (At.grp 2 j rfl (stB_hb hjl)) rfl ?_
      refine GH_back kr (fun w h=>((h.erase 2).erase 0)) ?_
      refine GH_take' (E':=[⟨53,[],.slice (cutA ((stB bs ks j).1.getD j default).an (((stB bs ks j).1.getD j default).cn) 0 1) ((Int.toNat (((((stB bs ks j).1.getD j default).m : Nat) : Int)+(nextK ((stB bs ks j).2.l.headD 0) ((((((stB bs ks j).1.getD j default).n : Nat) : Int) - ((((stB bs ks j).1.getD j default).m : Nat) : Int))+1)))) - 0) (((stB bs ks j).1.getD j default).cn - 0)⟩,⟨42,[],.slice ((stB bs ks j).1.getD j default).an (((stB bs ks j).1.getD j default).n) (((stB bs ks j).1.getD j default).cn)⟩,⟨52,[],.int .i64 (((((stB bs ks j).1.getD j default).m : Nat) : Int)+(nextK ((stB bs ks j).2.l.headD 0) ((((((stB bs ks j).1.getD j default).n : Nat) : Int) - ((((stB bs ks j).1.getD j default).m : Nat) : Int))+1)))⟩,⟨41,[],pt ((bs.getD j default).p)⟩,⟨38,[],pt ((bs.getD j default).p)⟩,⟨0,[],pt d⟩,⟨4,[],.func (.func 69) #[] #[pt b1]⟩,⟨6,[],pt ((bs.getD j default).p)⟩,⟨19,[],.slice ba bs.length bc⟩,⟨20,[],.int .i64 ((bs.length : Nat) : Int)⟩,⟨21,[],.int .i64 ((j : Nat) : Int)⟩]) 15 kr (fun w h=>((h.erase 2).erase 0)) ?_ ?_
      ·
       refine GL_sliceL (i:=15) (ch:=[]) (a:=((stB bs ks j).1.getD j default).an) (len:=((stB bs ks j).1.getD j default).n) (cap:=((stB bs ks j).1.getD j default).cn) (e:=5) (sz:=1) (vl:=none) (vh:=(some (.int .i64 (((((stB bs ks j).1.getD j default).m : Nat) : Int)+(nextK ((stB bs ks j).2.l.headD 0) ((((((stB bs ks j).1.getD j default).n : Nat) : Int) - ((((stB bs ks j).1.getD j default).m : Nat) : Int))+1)))))) (l:=0) (h:=((((stB bs ks j).1.getD j default).m : Nat) : Int)+(nextK ((stB bs ks j).2.l.headD 0) ((((((stB bs ks j).1.getD j default).n : Nat) : Int) - ((((stB bs ks j).1.getD j default).m : Nat) : Int))+1))) rfl rfl kr kr kr kr kr kr kr kr kr kr (fun _=>by omega) ?_
       exact GL_yend kr kr
      refine GH_nil (ad:=⟨(bs.getD j default).p,0,none⟩) 16 rfl rfl rfl kr kr kr kr kr (fun w h=>((h.erase 2).erase 0)) ?_
      refine GH_pure (E':=[⟨55,[],.pointer (some ⟨(bs.getD j default).p,1,none⟩)⟩,⟨53,[],.slice (cutA ((stB bs ks j).1.getD j default).an (((stB bs ks j).1.getD j default).cn) 0 1) ((Int.toNat (((((stB bs ks j).1.getD j default).m : Nat) : Int)+(nextK ((stB bs ks j).2.l.headD 0) ((((((stB bs ks j).1.getD j default).n : Nat) : Int) - ((((stB bs ks j).1.getD j default).m : Nat) : Int))+1)))) - 0) (((stB bs ks j).1.getD j default).cn - 0)⟩,⟨0,[],pt d⟩,⟨4,[],.func (.func 69) #[] #[pt b1]⟩,⟨6,[],pt ((bs.getD j default).p)⟩,⟨19,[],.slice ba bs.length bc⟩,⟨20,[],.int .i64 ((bs.length : Nat) : Int)⟩,⟨21,[],.int .i64 ((j : Nat) : Int)⟩]) 17 0 kr (fun w h=>((h.erase 2).erase 0)) kr ?_
      refine GH_eff 18 kr kr kr ?_
      refine GL_store (i:=18) (ch:=[]) (b:=(bs.getD j default).p) (off:=1) (v:=.slice (cutA ((stB bs ks j).1.getD j default).an (((stB bs ks j).1.getD j default).cn) 0 1) ((Int.toNat (((((stB bs ks j).1.getD j default).m : Nat) : Int)+(nextK ((stB bs ks j).2.l.headD 0) ((((((stB bs ks j).1.getD j default).n : Nat) : Int) - ((((stB bs ks j).1.getD j default).m : Nat) : Int))+1)))) - 0) (((stB bs ks j).1.getD j default).cn - 0)) (c:=#[.slice ((stB bs ks j).1.getD j default).an (((stB bs ks j).1.getD j default).n) (((stB bs ks j).1.getD j default).cn),.slice ((stB bs ks j).1.getD j default).ak (((stB bs ks j).1.getD j default).m) (((stB bs ks j).1.getD j default).ck)]) (c':=#[.slice ((stB bs ks j).1.getD j default).an (((stB bs ks j).1.getD j default).n) (((stB bs ks j).1.getD j default).cn),.slice (cutA ((stB bs ks j).1.getD j default).an (((stB bs ks j).1.getD j default).cn) 0 1) ((Int.toNat (((((stB bs ks j).1.getD j default).m : Nat) : Int)+(nextK ((stB bs ks j).2.l.headD 0) ((((((stB bs ks j).1.getD j default).n : Nat) : Int) - ((((stB bs ks j).1.getD j default).m : Nat) : Int))+1)))) - 0) (((stB bs ks j).1.getD j default).cn - 0)]) (j:=2) (m:=j) (H':=([(b1,.cells #[.slice (ksNext (stB bs ks j).2).a ((ksNext (stB bs ks j).2).l.length) ((ksNext (stB bs ks j).2).c)] 49 (0,0))]::[(d,.cells #[.int .i64 room,.slice ba bs.length bc,.map (some nb),.map (some kb),.map (some cb),.bool fails,.bool once,.int .i64 calls] 72 (0,0))]::bodyG ((stB bs ks j).1.set j ⟨(bs.getD j default).p,((stB bs ks j).1.getD j default).an,((stB bs ks j).1.getD j default).n,((stB bs ks j).1.getD j default).cn,(cutA ((stB bs ks j).1.getD j default).an (((stB bs ks j).1.getD j default).cn) 0 1),(Int.toNat (((((stB bs ks j).1.getD j default).m : Nat) : Int)+(nextK ((stB bs ks j).2.l.headD 0) ((((((stB bs ks j).1.getD j default).n : Nat) : Int) - ((((stB bs ks j).1.getD j default).m : Nat) : Int))+1)))) - 0,((stB bs ks j).1.getD j default).cn - 0⟩)::[(kb,.map (encM km) kc)]::[(cb,.map (encM cm) cc)]::H)) rfl rfl kr kr kr kr kr kr kr rfl (stB_hb hjl) (Nat.le_of_ble_eq_true rfl) (fun _ _=>thaw0) kr (congrArg (List.set ([(b1,.cells #[.slice (ksNext (stB bs ks j).2).a ((ksNext (stB bs ks j).2).l.length) ((ksNext (stB bs ks j).2).c)] 49 (0,0))]::[(d,.cells #[.int .i64 room,.slice ba bs.length bc,.map (some nb),.map (some kb),.map (some cb),.bool fails,.bool once,.int .i64 calls] 72 (0,0))]::bodyG (stB bs ks j).1::[(kb,.map (encM km) kc)]::[(cb,.map (encM cm) cc)]::H) 2) (bodyG_set (stB bs ks j).1 j ⟨(bs.getD j default).p,((stB bs ks j).1.getD j default).an,((stB bs ks j).1.getD j default).n,((stB bs ks j).1.getD j default).cn,(cutA ((stB bs ks j).1.getD j default).an (((stB bs ks j).1.getD j default).cn) 0 1),(Int.toNat (((((stB bs ks j).1.getD j default).m : Nat) : Int)+(nextK ((stB bs ks j).2.l.headD 0) ((((((stB bs ks j).1.getD j default).n : Nat) : Int) - ((((stB bs ks j).1.getD j default).m : Nat) : Int))+1)))) - 0,((stB bs ks j).1.getD j default).cn - 0⟩)) ?_
      refine GH_back kr (fun w h=>((h.erase 2).erase 0)) ?_
      refine GH_done (E':=[⟨0,[],pt d⟩,⟨4,[],.func (.func 69) #[] #[pt b1]⟩,⟨6,[],pt ((bs.getD j default).p)⟩,⟨19,[],.slice ba bs.length bc⟩,⟨20,[],.int .i64 ((bs.length : Nat) : Int)⟩,⟨21,[],.int .i64 ((j : Nat) : Int)⟩]) [0,4,6,19,20,21] kr kr ?_
      refine N_join () [0,4,6,19,20,21] kr (fun w h=>h) trivial
    ·
     refine GL_call (i:=13) (ch:=[]) (f:=69) (fst:=#[]) (caps:=#[pt b1]) (vs:=[.int .i64 ((((((stB bs ks j).1.getD j default).n : Nat) : Int) - ((((stB bs ks j).1.getD j default).m : Nat) : Int))+1)]) rfl rfl rfl kr kr Tryz.func69 rfl rfl kr kr (chSure_of kr) (vNextA b1 (stB bs ks j).2 ((((((stB bs ks j).1.getD j default).n : Nat) : Int) - ((((stB bs ks j).1.getD j default).m : Nat) : Int))+1) (by omega) S (stB_ok hks j) _ _ (fun y o h=>(At.cons (At.cons (At.cons (At.cons (hS y o h))))))) ?_
     rintro v H' ⟨rfl, rfl⟩
     have hnx := nextK_bd (k := (stB bs ks j).2.l.headD 0) (n := (((((stB bs ks j).1.getD j default).n : Nat) : Int) - ((((stB bs ks j).1.getD j default).m : Nat) : Int)) + 1) (by omega)
     refine GH_back kr (fun w h=>((h.erase 2).erase 0)) ?_
     refine GH_eff2 4 8 kr kr kr kr kr ?_ ?_
     ·
      refine GL_load (i:=4) (ch:=[]) (b:=(bs.getD j default).p) (off:=0) (v:=.slice ((stB bs ks j).1.getD j default).an (((stB bs ks j).1.getD j default).n) (((stB bs ks j).1.getD j default).cn)) rfl rfl kr kr kr kr kr (At.grp 2 j rfl (stB_hb hjl)) rfl ?_
      refine GH_back kr (fun w h=>((h.erase 2).erase 0)) ?_
      refine GH_eff 8 kr kr kr ?_
      refine GL_load (i:=8) (ch:=[]) (b:=(bs.getD j default).p) (off:=1) (v:=.slice ((stB bs ks j).1.getD j default).ak (((stB bs ks j).1.getD j default).m) (((stB bs ks j).1.getD j default).ck)) rfl rfl kr kr kr kr kr (At.grp 2 j rfl (stB_hb hjl)) rfl ?_
      refine GH_back kr (fun w h=>((h.erase 2).erase 0)) ?_
      refine GH_pev (v:=.int .i64 ((((stB bs ks j).1.getD j default).m : Nat) : Int)) 9 rfl rfl kr kr kr kr kr (fun w h=>((h.erase 2).erase 0)) ?_
      have hw10 : IntKind.wrap .i64 (((((stB bs ks j).1.getD j default).m : Nat) : Int) + (nextK ((stB bs ks j).2.l.headD 0) ((((((stB bs ks j).1.getD j default).n : Nat) : Int) - ((((stB bs ks j).1.getD j default).m : Nat) : Int)) + 1))) = ((((stB bs ks j).1.getD j default).m : Nat) : Int) + (nextK ((stB bs ks j).2.l.headD 0) ((((((stB bs ks j).1.getD j default).n : Nat) : Int) - ((((stB bs ks j).1.getD j default).m : Nat) : Int)) + 1)) := w64 (by omega) (by omega)
      refine GH_pure (E':=[⟨52,[],.int .i64 (((((stB bs ks j).1.getD j default).m : Nat) : Int)+(nextK ((stB bs ks j).2.l.headD 0) ((((((stB bs ks j).1.getD j default).n : Nat) : Int) - ((((stB bs ks j).1.getD j default).m : Nat) : Int))+1)))⟩,⟨42,[],.slice ((stB bs ks j).1.getD j default).an (((stB bs ks j).1.getD j default).n) (((stB bs ks j).1.getD j default).cn)⟩,⟨38,[],pt ((bs.getD j default).p)⟩,⟨0,[],pt d⟩,⟨4,[],.func (.func 69) #[] #[pt b1]⟩,⟨6,[],pt ((bs.getD j default).p)⟩,⟨19,[],.slice ba bs.length bc⟩,⟨20,[],.int .i64 ((bs.length : Nat) : Int)⟩,⟨21,[],.int .i64 ((j : Nat) : Int)⟩]) 14 0 kr (fun w h=>((h.erase 2).erase 0)) (Eq.trans (b:=some [⟨52,[],.int .i64 (IntKind.wrap .i64 (((((stB bs ks j).1.getD j default).m : Nat) : Int)+(nextK ((stB bs ks j).2.l.headD 0) ((((((stB bs ks j).1.getD j default).n : Nat) : Int) - ((((stB bs ks j).1.getD j default).m : Nat) : Int))+1))))⟩,⟨42,[],.slice ((stB bs ks j).1.getD j default).an (((stB bs ks j).1.getD j default).n) (((stB bs ks j).1.getD j default).cn)⟩,⟨38,[],pt ((bs.getD j default).p)⟩,⟨0,[],pt d⟩,⟨4,[],.func (.func 69) #[] #[pt b1]⟩,⟨6,[],pt ((bs.getD j default).p)⟩,⟨19,[],.slice ba bs.length bc⟩,⟨20,[],.int .i64 ((bs.length : Nat) : Int)⟩,⟨21,[],.int .i64 ((j : Nat) : Int)⟩]) kr (by simp only [hw10])) ?_
      refine GH_take' (E':=[⟨53,[],.slice (cutA ((stB bs ks j).1.getD j default).an (((stB bs ks j).1.getD j default).cn) 0 1) ((Int.toNat (((((stB bs ks j).1.getD j default).m : Nat) : Int)+(nextK ((stB bs ks j).2.l.headD 0) ((((((stB bs ks j).1.getD j default).n : Nat) : Int) - ((((stB bs ks j).1.getD j default).m : Nat) : Int))+1)))) - 0) (((stB bs ks j).1.getD j default).cn - 0)⟩,⟨52,[],.int .i64 (((((stB bs ks j).1.getD j default).m : Nat) : Int)+(nextK ((stB bs ks j).2.l.headD 0) ((((((stB bs ks j).1.getD j default).n : Nat) : Int) - ((((stB bs ks j).1.getD j default).m : Nat) : Int))+1)))⟩,⟨42,[],.slice ((stB bs ks j).1.getD j default).an (((stB bs ks j).1.getD j default).n) (((stB bs ks j).1.getD j default).cn)⟩,⟨38,[],pt ((bs.getD j default).p)⟩,⟨0,[],pt d⟩,⟨4,[],.func (.func 69) #[] #[pt b1]⟩,⟨6,[],pt ((bs.getD j default).p)⟩,⟨19,[],.slice ba bs.length bc⟩,⟨20,[],.int .i64 ((bs.length : Nat) : Int)⟩,⟨21,[],.int .i64 ((j : Nat) : Int)⟩]) 15 kr (fun w h=>((h.erase 2).erase 0)) ?_ ?_
      ·
       refine GL_sliceL (i:=15) (ch:=[]) (a:=((stB bs ks j).1.getD j default).an) (len:=((stB bs ks j).1.getD j default).n) (cap:=((stB bs ks j).1.getD j default).cn) (e:=5) (sz:=1) (vl:=none) (vh:=(some (.int .i64 (((((stB bs ks j).1.getD j default).m : Nat) : Int)+(nextK ((stB bs ks j).2.l.headD 0) ((((((stB bs ks j).1.getD j default).n : Nat) : Int) - ((((stB bs ks j).1.getD j default).m : Nat) : Int))+1)))))) (l:=0) (h:=((((stB bs ks j).1.getD j default).m : Nat) : Int)+(nextK ((stB bs ks j).2.l.headD 0) ((((((stB bs ks j).1.getD j default).n : Nat) : Int) - ((((stB bs ks j).1.getD j default).m : Nat) : Int))+1))) rfl rfl kr kr kr kr kr kr kr kr kr kr (fun _=>by omega) ?_
       exact GL_yend kr kr
      refine GH_nil (ad:=⟨(bs.getD j default).p,0,none⟩) 16 rfl rfl rfl kr kr kr kr kr (fun w h=>((h.erase 2).erase 0)) ?_
      refine GH_pure (E':=[⟨55,[],.pointer (some ⟨(bs.getD j default).p,1,none⟩)⟩,⟨53,[],.slice (cutA ((stB bs ks j).1.getD j default).an (((stB bs ks j).1.getD j default).cn) 0 1) ((Int.toNat (((((stB bs ks j).1.getD j default).m : Nat) : Int)+(nextK ((stB bs ks j).2.l.headD 0) ((((((stB bs ks j).1.getD j default).n : Nat) : Int) - ((((stB bs ks j).1.getD j default).m : Nat) : Int))+1)))) - 0) (((stB bs ks j).1.getD j default).cn - 0)⟩,⟨0,[],pt d⟩,⟨4,[],.func (.func 69) #[] #[pt b1]⟩,⟨6,[],pt ((bs.getD j default).p)⟩,⟨19,[],.slice ba bs.length bc⟩,⟨20,[],.int .i64 ((bs.length : Nat) : Int)⟩,⟨21,[],.int .i64 ((j : Nat) : Int)⟩]) 17 0 kr (fun w h=>((h.erase 2).erase 0)) kr ?_
      refine GH_eff 18 kr kr kr ?_
      refine GL_store (i:=18) (ch:=[]) (b:=(bs.getD j default).p) (off:=1) (v:=.slice (cutA ((stB bs ks j).1.getD j default).an (((stB bs ks j).1.getD j default).cn) 0 1) ((Int.toNat (((((stB bs ks j).1.getD j default).m : Nat) : Int)+(nextK ((stB bs ks j).2.l.headD 0) ((((((stB bs ks j).1.getD j default).n : Nat) : Int) - ((((stB bs ks j).1.getD j default).m : Nat) : Int))+1)))) - 0) (((stB bs ks j).1.getD j default).cn - 0)) (c:=#[.slice ((stB bs ks j).1.getD j default).an (((stB bs ks j).1.getD j default).n) (((stB bs ks j).1.getD j default).cn),.slice ((stB bs ks j).1.getD j default).ak (((stB bs ks j).1.getD j default).m) (((stB bs ks j).1.getD j default).ck)]) (c':=#[.slice ((stB bs ks j).1.getD j default).an (((stB bs ks j).1.getD j default).n) (((stB bs ks j).1.getD j default).cn),.slice (cutA ((stB bs ks j).1.getD j default).an (((stB bs ks j).1.getD j default).cn) 0 1) ((Int.toNat (((((stB bs ks j).1.getD j default).m : Nat) : Int)+(nextK ((stB bs ks j).2.l.headD 0) ((((((stB bs ks j).1.getD j default).n : Nat) : Int) - ((((stB bs ks j).1.getD j default).m : Nat) : Int))+1)))) - 0) (((stB bs ks j).1.getD j default).cn - 0)]) (j:=2) (m:=j) (H':=([(b1,.cells #[.slice (ksNext (stB bs ks j).2).a ((ksNext (stB bs ks j).2).l.length) ((ksNext (stB bs ks j).2).c)] 49 (0,0))]::[(d,.cells #[.int .i64 room,.slice ba bs.length bc,.map (some nb),.map (some kb),.map (some cb),.bool fails,.bool once,.int .i64 calls] 72 (0,0))]::bodyG ((stB bs ks j).1.set j ⟨(bs.getD j default).p,((stB bs ks j).1.getD j default).an,((stB bs ks j).1.getD j default).n,((stB bs ks j).1.getD j default).cn,(cutA ((stB bs ks j).1.getD j default).an (((stB bs ks j).1.getD j default).cn) 0 1),(Int.toNat (((((stB bs ks j).1.getD j default).m : Nat) : Int)+(nextK ((stB bs ks j).2.l.headD 0) ((((((stB bs ks j).1.getD j default).n : Nat) : Int) - ((((stB bs ks j).1.getD j default).m : Nat) : Int))+1)))) - 0,((stB bs ks j).1.getD j default).cn - 0⟩)::[(kb,.map (encM km) kc)]::[(cb,.map (encM cm) cc)]::H)) rfl rfl kr kr kr kr kr kr kr rfl (stB_hb hjl) (Nat.le_of_ble_eq_true rfl) (fun _ _=>thaw0) kr (congrArg (List.set ([(b1,.cells #[.slice (ksNext (stB bs ks j).2).a ((ksNext (stB bs ks j).2).l.length) ((ksNext (stB bs ks j).2).c)] 49 (0,0))]::[(d,.cells #[.int .i64 room,.slice ba bs.length bc,.map (some nb),.map (some kb),.map (some cb),.bool fails,.bool once,.int .i64 calls] 72 (0,0))]::bodyG (stB bs ks j).1::[(kb,.map (encM km) kc)]::[(cb,.map (encM cm) cc)]::H) 2) (bodyG_set (stB bs ks j).1 j ⟨(bs.getD j default).p,((stB bs ks j).1.getD j default).an,((stB bs ks j).1.getD j default).n,((stB bs ks j).1.getD j default).cn,(cutA ((stB bs ks j).1.getD j default).an (((stB bs ks j).1.getD j default).cn) 0 1),(Int.toNat (((((stB bs ks j).1.getD j default).m : Nat) : Int)+(nextK ((stB bs ks j).2.l.headD 0) ((((((stB bs ks j).1.getD j default).n : Nat) : Int) - ((((stB bs ks j).1.getD j default).m : Nat) : Int))+1)))) - 0,((stB bs ks j).1.getD j default).cn - 0⟩)) ?_
      refine GH_back kr (fun w h=>((h.erase 2).erase 0)) ?_
      refine GH_done (E':=[⟨0,[],pt d⟩,⟨4,[],.func (.func 69) #[] #[pt b1]⟩,⟨6,[],pt ((bs.getD j default).p)⟩,⟨19,[],.slice ba bs.length bc⟩,⟨20,[],.int .i64 ((bs.length : Nat) : Int)⟩,⟨21,[],.int .i64 ((j : Nat) : Int)⟩]) [0,4,6,19,20,21] kr kr ?_
      refine N_join () [0,4,6,19,20,21] kr (fun w h=>h) trivial
     ·
      refine GL_load (i:=8) (ch:=[]) (b:=(bs.getD j default).p) (off:=1) (v:=.slice ((stB bs ks j).1.getD j default).ak (((stB bs ks j).1.getD j default).m) (((stB bs ks j).1.getD j default).ck)) rfl rfl kr kr kr kr kr (At.grp 2 j rfl (stB_hb hjl)) rfl ?_
      refine GH_back kr (fun w h=>((h.erase 2).erase 0)) ?_
      refine GH_pev (v:=.int .i64 ((((stB bs ks j).1.getD j default).m : Nat) : Int)) 9 rfl rfl kr kr kr kr kr (fun w h=>((h.erase 2).erase 0)) ?_
      have hw11 : IntKind.wrap .i64 (((((stB bs ks j).1.getD j default).m : Nat) : Int) + (nextK ((stB bs ks j).2.l.headD 0) ((((((stB bs ks j).1.getD j default).n : Nat) : Int) - ((((stB bs ks j).1.getD j default).m : Nat) : Int)) + 1))) = ((((stB bs ks j).1.getD j default).m : Nat) : Int) + (nextK ((stB bs ks j).2.l.headD 0) ((((((stB bs ks j).1.getD j default).n : Nat) : Int) - ((((stB bs ks j).1.getD j default).m : Nat) : Int)) + 1)) := w64 (by omega) (by omega)
      refine GH_pure (E':=[⟨52,[],.int .i64 (((((stB bs ks j).1.getD j default).m : Nat) : Int)+(nextK ((stB bs ks j).2.l.headD 0) ((((((stB bs ks j).1.getD j default).n : Nat) : Int) - ((((stB bs ks j).1.getD j default).m : Nat) : Int))+1)))⟩,⟨41,[],pt ((bs.getD j default).p)⟩,⟨38,[],pt ((bs.getD j default).p)⟩,⟨0,[],pt d⟩,⟨4,[],.func (.func 69) #[] #[pt b1]⟩,⟨6,[],pt ((bs.getD j default).p)⟩,⟨19,[],.slice ba bs.length bc⟩,⟨20,[],.int .i64 ((bs.length : Nat) : Int)⟩,⟨21,[],.int .i64 ((j : Nat) : Int)⟩]) 14 0 kr (fun w h=>((h.erase 2).erase 0)) (Eq.trans (b:=some [⟨52,[],.int .i64 (IntKind.wrap .i64 (((((stB bs ks j).1.getD j default).m : Nat) : Int)+(nextK ((stB bs ks j).2.l.headD 0) ((((((stB bs ks j).1.getD j default).n : Nat) : Int) - ((((stB bs ks j).1.getD j default).m : Nat) : Int))+1))))⟩,⟨41,[],pt ((bs.getD j default).p)⟩,⟨38,[],pt ((bs.getD j default).p)⟩,⟨0,[],pt d⟩,⟨4,[],.func (.func 69) #[] #[pt b1]⟩,⟨6,[],pt ((bs.getD j default).p)⟩,⟨19,[],.slice ba bs.length bc⟩,⟨20,[],.int .i64 ((bs.length : Nat) : Int)⟩,⟨21,[],.int .i64 ((j : Nat) : Int)⟩]) kr (by simp only [hw11])) ?_
      refine GH_eff 4 kr kr kr ?_
      refine GL_load (i:=4) (ch:=[]) (b:=(bs.getD j default).p) (off:=0) (v:=.slice ((stB bs ks j).1.getD j default).an (((stB bs ks j).1.getD j default).n) (((stB bs ks j).1.getD j default).cn)) rfl rfl kr kr kr kr kr (At.grp 2 j rfl (stB_hb hjl)) rfl ?_
      refine GH_back kr (fun w h=>((h.erase 2).erase 0)) ?_
      refine GH_take' (E':=[⟨53,[],.slice (cutA ((stB bs ks j).1.getD j default).an (((stB bs ks j).1.getD j default).cn) 0 1) ((Int.toNat (((((stB bs ks j).1.getD j default).m : Nat) : Int)+(nextK ((stB bs ks j).2.l.headD 0) ((((((stB bs ks j).1.getD j default).n : Nat) : Int) - ((((stB bs ks j).1.getD j default).m : Nat) : Int))+1)))) - 0) (((stB bs ks j).1.getD j default).cn - 0)⟩,⟨42,[],.slice ((stB bs ks j).1.getD j default).an (((stB bs ks j).1.getD j default).n) (((stB bs ks j).1.getD j default).cn)⟩,⟨52,[],.int .i64 (((((stB bs ks j).1.getD j default).m : Nat) : Int)+(nextK ((stB bs ks j).2.l.headD 0) ((((((stB bs ks j).1.getD j default).n : Nat) : Int) - ((((stB bs ks j).1.getD j default).m : Nat) : Int))+1)))⟩,⟨41,[],pt ((bs.getD j default).p)⟩,⟨38,[],pt ((bs.getD j default).p)⟩,⟨0,[],pt d⟩,⟨4,[],.func (.func 69) #[] #[pt b1]⟩,⟨6,[],pt ((bs.getD j default).p)⟩,⟨19,[],.slice ba bs.length bc⟩,⟨20,[],.int .i64 ((bs.length : Nat) : Int)⟩,⟨21,[],.int .i64 ((j : Nat) : Int)⟩]) 15 kr (fun w h=>((h.erase 2).erase 0)) ?_ ?_
      ·
       refine GL_sliceL (i:=15) (ch:=[]) (a:=((stB bs ks j).1.getD j default).an) (len:=((stB bs ks j).1.getD j default).n) (cap:=((stB bs ks j).1.getD j default).cn) (e:=5) (sz:=1) (vl:=none) (vh:=(some (.int .i64 (((((stB bs ks j).1.getD j default).m : Nat) : Int)+(nextK ((stB bs ks j).2.l.headD 0) ((((((stB bs ks j).1.getD j default).n : Nat) : Int) - ((((stB bs ks j).1.getD j default).m : Nat) : Int))+1)))))) (l:=0) (h:=((((stB bs ks j).1.getD j default).m : Nat) : Int)+(nextK ((stB bs ks j).2.l.headD 0) ((((((stB bs ks j).1.getD j default).n : Nat) : Int) - ((((stB bs ks j).1.getD j default).m : Nat) : Int))+1))) rfl rfl kr kr kr kr kr kr kr kr kr kr (fun _=>by omega) ?_
       exact GL_yend kr kr
      refine GH_nil (ad:=⟨(bs.getD j default).p,0,none⟩) 16 rfl rfl rfl kr kr kr kr kr (fun w h=>((h.erase 2).erase 0)) ?_
      refine GH_pure (E':=[⟨55,[],.pointer (some ⟨(bs.getD j default).p,1,none⟩)⟩,⟨53,[],.slice (cutA ((stB bs ks j).1.getD j default).an (((stB bs ks j).1.getD j default).cn) 0 1) ((Int.toNat (((((stB bs ks j).1.getD j default).m : Nat) : Int)+(nextK ((stB bs ks j).2.l.headD 0) ((((((stB bs ks j).1.getD j default).n : Nat) : Int) - ((((stB bs ks j).1.getD j default).m : Nat) : Int))+1)))) - 0) (((stB bs ks j).1.getD j default).cn - 0)⟩,⟨0,[],pt d⟩,⟨4,[],.func (.func 69) #[] #[pt b1]⟩,⟨6,[],pt ((bs.getD j default).p)⟩,⟨19,[],.slice ba bs.length bc⟩,⟨20,[],.int .i64 ((bs.length : Nat) : Int)⟩,⟨21,[],.int .i64 ((j : Nat) : Int)⟩]) 17 0 kr (fun w h=>((h.erase 2).erase 0)) kr ?_
      refine GH_eff 18 kr kr kr ?_
      refine GL_store (i:=18) (ch:=[]) (b:=(bs.getD j default).p) (off:=1) (v:=.slice (cutA ((stB bs ks j).1.getD j default).an (((stB bs ks j).1.getD j default).cn) 0 1) ((Int.toNat (((((stB bs ks j).1.getD j default).m : Nat) : Int)+(nextK ((stB bs ks j).2.l.headD 0) ((((((stB bs ks j).1.getD j default).n : Nat) : Int) - ((((stB bs ks j).1.getD j default).m : Nat) : Int))+1)))) - 0) (((stB bs ks j).1.getD j default).cn - 0)) (c:=#[.slice ((stB bs ks j).1.getD j default).an (((stB bs ks j).1.getD j default).n) (((stB bs ks j).1.getD j default).cn),.slice ((stB bs ks j).1.getD j default).ak (((stB bs ks j).1.getD j default).m) (((stB bs ks j).1.getD j default).ck)]) (c':=#[.slice ((stB bs ks j).1.getD j default).an (((stB bs ks j).1.getD j default).n) (((stB bs ks j).1.getD j default).cn),.slice (cutA ((stB bs ks j).1.getD j default).an (((stB bs ks j).1.getD j default).cn) 0 1) ((Int.toNat (((((stB bs ks j).1.getD j default).m : Nat) : Int)+(nextK ((stB bs ks j).2.l.headD 0) ((((((stB bs ks j).1.getD j default).n : Nat) : Int) - ((((stB bs ks j).1.getD j default).m : Nat) : Int))+1)))) - 0) (((stB bs ks j).1.getD j default).cn - 0)]) (j:=2) (m:=j) (H':=([(b1,.cells #[.slice (ksNext (stB bs ks j).2).a ((ksNext (stB bs ks j).2).l.length) ((ksNext (stB bs ks j).2).c)] 49 (0,0))]::[(d,.cells #[.int .i64 room,.slice ba bs.length bc,.map (some nb),.map (some kb),.map (some cb),.bool fails,.bool once,.int .i64 calls] 72 (0,0))]::bodyG ((stB bs ks j).1.set j ⟨(bs.getD j default).p,((stB bs ks j).1.getD j default).an,((stB bs ks j).1.getD j default).n,((stB bs ks j).1.getD j default).cn,(cutA ((stB bs ks j).1.getD j default).an (((stB bs ks j).1.getD j default).cn) 0 1),(Int.toNat (((((stB bs ks j).1.getD j default).m : Nat) : Int)+(nextK ((stB bs ks j).2.l.headD 0) ((((((stB bs ks j).1.getD j default).n : Nat) : Int) - ((((stB bs ks j).1.getD j default).m : Nat) : Int))+1)))) - 0,((stB bs ks j).1.getD j default).cn - 0⟩)::[(kb,.map (encM km) kc)]::[(cb,.map (encM cm) cc)]::H)) rfl rfl kr kr kr kr kr kr kr rfl (stB_hb hjl) (Nat.le_of_ble_eq_true rfl) (fun _ _=>thaw0) kr (congrArg (List.set ([(b1,.cells #[.slice (ksNext (stB bs ks j).2).a ((ksNext (stB bs ks j).2).l.length) ((ksNext (stB bs ks j).2).c)] 49 (0,0))]::[(d,.cells #[.int .i64 room,.slice ba bs.length bc,.map (some nb),.map (some kb),.map (some cb),.bool fails,.bool once,.int .i64 calls] 72 (0,0))]::bodyG (stB bs ks j).1::[(kb,.map (encM km) kc)]::[(cb,.map (encM cm) cc)]::H) 2) (bodyG_set (stB bs ks j).1 j ⟨(bs.getD j default).p,((stB bs ks j).1.getD j default).an,((stB bs ks j).1.getD j default).n,((stB bs ks j).1.getD j default).cn,(cutA ((stB bs ks j).1.getD j default).an (((stB bs ks j).1.getD j default).cn) 0 1),(Int.toNat (((((stB bs ks j).1.getD j default).m : Nat) : Int)+(nextK ((stB bs ks j).2.l.headD 0) ((((((stB bs ks j).1.getD j default).n : Nat) : Int) - ((((stB bs ks j).1.getD j default).m : Nat) : Int))+1)))) - 0,((stB bs ks j).1.getD j default).cn - 0⟩)) ?_
      refine GH_back kr (fun w h=>((h.erase 2).erase 0)) ?_
      refine GH_done (E':=[⟨0,[],pt d⟩,⟨4,[],.func (.func 69) #[] #[pt b1]⟩,⟨6,[],pt ((bs.getD j default).p)⟩,⟨19,[],.slice ba bs.length bc⟩,⟨20,[],.int .i64 ((bs.length : Nat) : Int)⟩,⟨21,[],.int .i64 ((j : Nat) : Int)⟩]) [0,4,6,19,20,21] kr kr ?_
      refine N_join () [0,4,6,19,20,21] kr (fun w h=>h) trivial
   ·
    rintro _ _
    refine N_then ?_
    refine G_region ?_
    refine GL_pure (E':=[⟨59,[],.pointer (some ⟨(bs.getD j default).p,1,none⟩)⟩,⟨56,[],pt ((bs.getD j default).p)⟩,⟨0,[],pt d⟩,⟨4,[],.func (.func 69) #[] #[pt b1]⟩,⟨19,[],.slice ba bs.length bc⟩,⟨20,[],.int .i64 ((bs.length : Nat) : Int)⟩,⟨21,[],.int .i64 ((j : Nat) : Int)⟩]) [0,0,0,0] kr (j:=4) rfl ?_
    refine GL_load (i:=4) (ch:=[]) (b:=(bs.getD j default).p) (off:=1) (v:=.slice (cutA ((stB bs ks j).1.getD j default).an (((stB bs ks j).1.getD j default).cn) 0 1) ((Int.toNat (((((stB bs ks j).1.getD j default).m : Nat) : Int)+(nextK ((stB bs ks j).2.l.headD 0) ((((((stB bs ks j).1.getD j default).n : Nat) : Int) - ((((stB bs ks j).1.getD j default).m : Nat) : Int))+1)))) - 0) (((stB bs ks j).1.getD j default).cn - 0)) rfl rfl kr kr kr kr kr (At.grp 2 j rfl (bodyG_at_set (stB bs ks j).1 j ⟨(bs.getD j default).p,((stB bs ks j).1.getD j default).an,((stB bs ks j).1.getD j default).n,((stB bs ks j).1.getD j default).cn,(cutA ((stB bs ks j).1.getD j default).an (((stB bs ks j).1.getD j default).cn) 0 1),(Int.toNat (((((stB bs ks j).1.getD j default).m : Nat) : Int)+(nextK ((stB bs ks j).2.l.headD 0) ((((((stB bs ks j).1.getD j default).n : Nat) : Int) - ((((stB bs ks j).1.getD j default).m : Nat) : Int))+1)))) - 0,((stB bs ks j).1.getD j default).cn - 0⟩ (by rw [stB_len]; exact hjl))) rfl ?_
    refine GL_pure (E':=[⟨62,[],pt ((bs.getD j default).p)⟩,⟨60,[],.slice (cutA ((stB bs ks j).1.getD j default).an (((stB bs ks j).1.getD j default).cn) 0 1) ((Int.toNat (((((stB bs ks j).1.getD j default).m : Nat) : Int)+(nextK ((stB bs ks j).2.l.headD 0) ((((((stB bs ks j).1.getD j default).n : Nat) : Int) - ((((stB bs ks j).1.getD j default).m : Nat) : Int))+1)))) - 0) (((stB bs ks j).1.getD j default).cn - 0)⟩,⟨0,[],pt d⟩,⟨4,[],.func (.func 69) #[] #[pt b1]⟩,⟨19,[],.slice ba bs.length bc⟩,⟨20,[],.int .i64 ((bs.length : Nat) : Int)⟩,⟨21,[],.int .i64 ((j : Nat) : Int)⟩]) [0,0] kr (j:=7) rfl ?_
    refine GL_store (i:=7) (ch:=[]) (b:=(bs.getD j default).p) (off:=0) (v:=.slice (cutA ((stB bs ks j).1.getD j default).an (((stB bs ks j).1.getD j default).cn) 0 1) ((Int.toNat (((((stB bs ks j).1.getD j default).m : Nat) : Int)+(nextK ((stB bs ks j).2.l.headD 0) ((((((stB bs ks j).1.getD j default).n : Nat) : Int) - ((((stB bs ks j).1.getD j default).m : Nat) : Int))+1)))) - 0) (((stB bs ks j).1.getD j default).cn - 0)) (c:=#[.slice ((stB bs ks j).1.getD j default).an (((stB bs ks j).1.getD j default).n) (((stB bs ks j).1.getD j default).cn),.slice (cutA ((stB bs ks j).1.getD j default).an (((stB bs ks j).1.getD j default).cn) 0 1) ((Int.toNat (((((stB bs ks j).1.getD j default).m : Nat) : Int)+(nextK ((stB bs ks j).2.l.headD 0) ((((((stB bs ks j).1.getD j default).n : Nat) : Int) - ((((stB bs ks j).1.getD j default).m : Nat) : Int))+1)))) - 0) (((stB bs ks j).1.getD j default).cn - 0)]) (c':=#[.slice (cutA ((stB bs ks j).1.getD j default).an (((stB bs ks j).1.getD j default).cn) 0 1) ((Int.toNat (((((stB bs ks j).1.getD j default).m : Nat) : Int)+(nextK ((stB bs ks j).2.l.headD 0) ((((((stB bs ks j).1.getD j default).n : Nat) : Int) - ((((stB bs ks j).1.getD j default).m : Nat) : Int))+1)))) - 0) (((stB bs ks j).1.getD j default).cn - 0),.slice (cutA ((stB bs ks j).1.getD j default).an (((stB bs ks j).1.getD j default).cn) 0 1) ((Int.toNat (((((stB bs ks j).1.getD j default).m : Nat) : Int)+(nextK ((stB bs ks j).2.l.headD 0) ((((((stB bs ks j).1.getD j default).n : Nat) : Int) - ((((stB bs ks j).1.getD j default).m : Nat) : Int))+1)))) - 0) (((stB bs ks j).1.getD j default).cn - 0)]) (j:=2) (m:=j) (H':=([(b1,.cells #[.slice (ksNext (stB bs ks j).2).a ((ksNext (stB bs ks j).2).l.length) ((ksNext (stB bs ks j).2).c)] 49 (0,0))]::[(d,.cells #[.int .i64 room,.slice ba bs.length bc,.map (some nb),.map (some kb),.map (some cb),.bool fails,.bool once,.int .i64 calls] 72 (0,0))]::bodyG (((stB bs ks j).1.set j ⟨(bs.getD j default).p,((stB bs ks j).1.getD j default).an,((stB bs ks j).1.getD j default).n,((stB bs ks j).1.getD j default).cn,(cutA ((stB bs ks j).1.getD j default).an (((stB bs ks j).1.getD j default).cn) 0 1),(Int.toNat (((((stB bs ks j).1.getD j default).m : Nat) : Int)+(nextK ((stB bs ks j).2.l.headD 0) ((((((stB bs ks j).1.getD j default).n : Nat) : Int) - ((((stB bs ks j).1.getD j default).m : Nat) : Int))+1)))) - 0,((stB bs ks j).1.getD j default).cn - 0⟩).set j ⟨(bs.getD j default).p,(cutA ((stB bs ks j).1.getD j default).an (((stB bs ks j).1.getD j default).cn) 0 1),(Int.toNat (((((stB bs ks j).1.getD j default).m : Nat) : Int)+(nextK ((stB bs ks j).2.l.headD 0) ((((((stB bs ks j).1.getD j default).n : Nat) : Int) - ((((stB bs ks j).1.getD j default).m : Nat) : Int))+1)))) - 0,((stB bs ks j).1.getD j default).cn - 0,(cutA ((stB bs ks j).1.getD j default).an (((stB bs ks j).1.getD j default).cn) 0 1),(Int.toNat (((((stB bs ks j).1.getD j default).m : Nat) : Int)+(nextK ((stB bs ks j).2.l.headD 0) ((((((stB bs ks j).1.getD j default).n : Nat) : Int) - ((((stB bs ks j).1.getD j default).m : Nat) : Int))+1)))) - 0,((stB bs ks j).1.getD j default).cn - 0⟩)::[(kb,.map (encM km) kc)]::[(cb,.map (encM cm) cc)]::H)) rfl rfl kr kr kr kr kr kr kr rfl (bodyG_at_set (stB bs ks j).1 j ⟨(bs.getD j default).p,((stB bs ks j).1.getD j default).an,((stB bs ks j).1.getD j default).n,((stB bs ks j).1.getD j default).cn,(cutA ((stB bs ks j).1.getD j default).an (((stB bs ks j).1.getD j default).cn) 0 1),(Int.toNat (((((stB bs ks j).1.getD j default).m : Nat) : Int)+(nextK ((stB bs ks j).2.l.headD 0) ((((((stB bs ks j).1.getD j default).n : Nat) : Int) - ((((stB bs ks j).1.getD j default).m : Nat) : Int))+1)))) - 0,((stB bs ks j).1.getD j default).cn - 0⟩ (by rw [stB_len]; exact hjl)) (Nat.le_of_ble_eq_true rfl) (fun _ _=>thaw0) kr (congrArg (List.set ([(b1,.cells #[.slice (ksNext (stB bs ks j).2).a ((ksNext (stB bs ks j).2).l.length) ((ksNext (stB bs ks j).2).c)] 49 (0,0))]::[(d,.cells #[.int .i64 room,.slice ba bs.length bc,.map (some nb),.map (some kb),.map (some cb),.bool fails,.bool once,.int .i64 calls] 72 (0,0))]::bodyG ((stB bs ks j).1.set j ⟨(bs.getD j default).p,((stB bs ks j).1.getD j default).an,((stB bs ks j).1.getD j default).n,((stB bs ks j).1.getD j default).cn,(cutA ((stB bs ks j).1.getD j default).an (((stB bs ks j).1.getD j default).cn) 0 1),(Int.toNat (((((stB bs ks j).1.getD j default).m : Nat) : Int)+(nextK ((stB bs ks j).2.l.headD 0) ((((((stB bs ks j).1.getD j default).n : Nat) : Int) - ((((stB bs ks j).1.getD j default).m : Nat) : Int))+1)))) - 0,((stB bs ks j).1.getD j default).cn - 0⟩)::[(kb,.map (encM km) kc)]::[(cb,.map (encM cm) cc)]::H) 2) (bodyG_set ((stB bs ks j).1.set j ⟨(bs.getD j default).p,((stB bs ks j).1.getD j default).an,((stB bs ks j).1.getD j default).n,((stB bs ks j).1.getD j default).cn,(cutA ((stB bs ks j).1.getD j default).an (((stB bs ks j).1.getD j default).cn) 0 1),(Int.toNat (((((stB bs ks j).1.getD j default).m : Nat) : Int)+(nextK ((stB bs ks j).2.l.headD 0) ((((((stB bs ks j).1.getD j default).n : Nat) : Int) - ((((stB bs ks j).1.getD j default).m : Nat) : Int))+1)))) - 0,((stB bs ks j).1.getD j default).cn - 0⟩) j ⟨(bs.getD j default).p,(cutA ((stB bs ks j).1.getD j default).an (((stB bs ks j).1.getD j default).cn) 0 1),(Int.toNat (((((stB bs ks j).1.getD j default).m : Nat) : Int)+(nextK ((stB bs ks j).2.l.headD 0) ((((((stB bs ks j).1.getD j default).n : Nat) : Int) - ((((stB bs ks j).1.getD j default).m : Nat) : Int))+1)))) - 0,((stB bs ks j).1.getD j default).cn - 0,(cutA ((stB bs ks j).1.getD j default).an (((stB bs ks j).1.getD j default).cn) 0 1),(Int.toNat (((((stB bs ks j).1.getD j default).m : Nat) : Int)+(nextK ((stB bs ks j).2.l.headD 0) ((((((stB bs ks j).1.getD j default).n : Nat) : Int) - ((((stB bs ks j).1.getD j default).m : Nat) : Int))+1)))) - 0,((stB bs ks j).1.getD j default).cn - 0⟩)) ?_
    refine GL_fin (E':=[⟨0,[],pt d⟩,⟨4,[],.func (.func 69) #[] #[pt b1]⟩,⟨19,[],.slice ba bs.length bc⟩,⟨20,[],.int .i64 ((bs.length : Nat) : Int)⟩,⟨21,[],.int .i64 ((j : Nat) : Int)⟩]) [] [0,4,19,20,21] rfl kr ?_
    refine N_block ?_
    refine N_then ?_
    have hw12 : IntKind.wrap .i64 (((j : Nat) : Int) + 1) = ((j : Nat) : Int) + 1 := w64 (by omega) (by omega)
    refine G_pure (E':=[⟨0,[],pt d⟩,⟨4,[],.func (.func 69) #[] #[pt b1]⟩,⟨19,[],.slice ba bs.length bc⟩,⟨20,[],.int .i64 ((bs.length : Nat) : Int)⟩,⟨21,[],.int .i64 (((j : Nat) : Int)+1)⟩]) [0,0] [0,4,19,20,21] rfl (Eq.trans (b:=some [⟨0,[],pt d⟩,⟨4,[],.func (.func 69) #[] #[pt b1]⟩,⟨19,[],.slice ba bs.length bc⟩,⟨20,[],.int .i64 ((bs.length : Nat) : Int)⟩,⟨21,[],.int .i64 (IntKind.wrap .i64 (((j : Nat) : Int)+1))⟩]) kr (by simp only [hw12])) ?_
    refine N_heq (H':=([(b1,.cells #[.slice (stB bs ks (j+1)).2.a ((stB bs ks (j+1)).2.l.length) ((stB bs ks (j+1)).2.c)] 49 (0,0))]::[(d,.cells #[.int .i64 room,.slice ba bs.length bc,.map (some nb),.map (some kb),.map (some cb),.bool fails,.bool once,.int .i64 calls] 72 (0,0))]::bodyG (stB bs ks (j+1)).1::[(kb,.map (encM km) kc)]::[(cb,.map (encM cm) cc)]::H)) (by first | (rw [stB_yes (by omega),List.set_set]) | (rw [stB_yes (by omega),List.set_set]; rfl) | (rw [stB_no (by omega)]) | (rw [stB_no (by omega)]; rfl)) ?_
    refine N_round (s':=(j+1)) [0,4,19,20,21] kr rfl (by omega) (by omega)
  ·
   replace hc4 := of_decide_eq_false hc4
   refine G_skip ?_
   refine N_then ?_
   refine G_region ?_
   refine GL_pure (E':=[⟨59,[],.pointer (some ⟨(bs.getD j default).p,1,none⟩)⟩,⟨56,[],pt ((bs.getD j default).p)⟩,⟨0,[],pt d⟩,⟨4,[],.func (.func 69) #[] #[pt b1]⟩,⟨19,[],.slice ba bs.length bc⟩,⟨20,[],.int .i64 ((bs.length : Nat) : Int)⟩,⟨21,[],.int .i64 ((j : Nat) : Int)⟩]) [0,0,0,0] kr (j:=4) rfl ?_
   refine GL_load (i:=4) (ch:=[]) (b:=(bs.getD j default).p) (off:=1) (v:=.slice ((stB bs ks j).1.getD j default).ak (((stB bs ks j).1.getD j default).m) (((stB bs ks j).1.getD j default).ck)) rfl rfl kr kr kr kr kr (At.grp 2 j rfl (stB_hb hjl)) rfl ?_
   refine GL_pure (E':=[⟨62,[],pt ((bs.getD j default).p)⟩,⟨60,[],.slice ((stB bs ks j).1.getD j default).ak (((stB bs ks j).1.getD j default).m) (((stB bs ks j).1.getD j default).ck)⟩,⟨0,[],pt d⟩,⟨4,[],.func (.func 69) #[] #[pt b1]⟩,⟨19,[],.slice ba bs.length bc⟩,⟨20,[],.int .i64 ((bs.length : Nat) : Int)⟩,⟨21,[],.int .i64 ((j : Nat) : Int)⟩]) [0,0] kr (j:=7) rfl ?_
   refine GL_store (i:=7) (ch:=[]) (b:=(bs.getD j default).p) (off:=0) (v:=.slice ((stB bs ks j).1.getD j default).ak (((stB bs ks j).1.getD j default).m) (((stB bs ks j).1.getD j default).ck)) (c:=#[.slice ((stB bs ks j).1.getD j default).an (((stB bs ks j).1.getD j default).n) (((stB bs ks j).1.getD j default).cn),.slice ((stB bs ks j).1.getD j default).ak (((stB bs ks j).1.getD j default).m) (((stB bs ks j).1.getD j default).ck)]) (c':=#[.slice ((stB bs ks j).1.getD j default).ak (((stB bs ks j).1.getD j default).m) (((stB bs ks j).1.getD j default).ck),.slice ((stB bs ks j).1.getD j default).ak (((stB bs ks j).1.getD j default).m) (((stB bs ks j).1.getD j default).ck)]) (j:=2) (m:=j) (H':=([(b1,.cells #[.slice (stB bs ks j).2.a ((stB bs ks j).2.l.length) ((stB bs ks j).2.c)] 49 (0,0))]::[(d,.cells #[.int .i64 room,.slice ba bs.length bc,.map (some nb),.map (some kb),.map (some cb),.bool fails,.bool once,.int .i64 calls] 72 (0,0))]::bodyG ((stB bs ks j).1.set j ⟨(bs.getD j default).p,((stB bs ks j).1.getD j default).ak,((stB bs ks j).1.getD j default).m,((stB bs ks j).1.getD j default).ck,((stB bs ks j).1.getD j default).ak,((stB bs ks j).1.getD j default).m,((stB bs ks j).1.getD j default).ck⟩)::[(kb,.map (encM km) kc)]::[(cb,.map (encM cm) cc)]::H)) rfl rfl kr kr kr kr kr kr kr rfl (stB_hb hjl) (Nat.le_of_ble_eq_true rfl) (fun _ _=>thaw0) kr (congrArg (List.set ([(b1,.cells #[.slice (stB bs ks j).2.a ((stB bs ks j).2.l.length) ((stB bs ks j).2.c)] 49 (0,0))]::[(d,.cells #[.int .i64 room,.slice ba bs.length bc,.map (some nb),.map (some kb),.map (some cb),.bool fails,.bool once,.int .i64 calls] 72 (0,0))]::bodyG (stB bs ks j).1::[(kb,.map (encM km) kc)]::[(cb,.map (encM cm) cc)]::H) 2) (bodyG_set (stB bs ks j).1 j ⟨(bs.getD j default).p,((stB bs ks j).1.getD j default).ak,((stB bs ks j).1.getD j default).m,((stB bs ks j).1.getD j default).ck,((stB bs ks j).1.getD j default).ak,((stB bs ks j).1.getD j default).m,((stB bs ks j).1.getD j default).ck⟩)) ?_
   refine GL_fin (E':=[⟨0,[],pt d⟩,⟨4,[],.func (.func 69) #[] #[pt b1]⟩,⟨19,[],.slice ba bs.length bc⟩,⟨20,[],.int .i64 ((bs.length : Nat) : Int)⟩,⟨21,[],.int .i64 ((j : Nat) : Int)⟩]) [] [0,4,19,20,21] rfl kr ?_
   refine N_block ?_
   refine N_then ?_
   have hw13 : IntKind.wrap .i64 (((j : Nat) : Int) + 1) = ((j : Nat) : Int) + 1 := w64 (by omega) (by omega)
   refine G_pure (E':=[⟨0,[],pt d⟩,⟨4,[],.func (.func 69) #[] #[pt b1]⟩,⟨19,[],.slice ba bs.length bc⟩,⟨20,[],.int .i64 ((bs.length : Nat) : Int)⟩,⟨21,[],.int .i64 (((j : Nat) : Int)+1)⟩]) [0,0] [0,4,19,20,21] rfl (Eq.trans (b:=some [⟨0,[],pt d⟩,⟨4,[],.func (.func 69) #[] #[pt b1]⟩,⟨19,[],.slice ba bs.length bc⟩,⟨20,[],.int .i64 ((bs.length : Nat) : Int)⟩,⟨21,[],.int .i64 (IntKind.wrap .i64 (((j : Nat) : Int)+1))⟩]) kr (by simp only [hw13])) ?_
   refine N_heq (H':=([(b1,.cells #[.slice (stB bs ks (j+1)).2.a ((stB bs ks (j+1)).2.l.length) ((stB bs ks (j+1)).2.c)] 49 (0,0))]::[(d,.cells #[.int .i64 room,.slice ba bs.length bc,.map (some nb),.map (some kb),.map (some cb),.bool fails,.bool once,.int .i64 calls] 72 (0,0))]::bodyG (stB bs ks (j+1)).1::[(kb,.map (encM km) kc)]::[(cb,.map (encM cm) cc)]::H)) (by first | (rw [stB_yes (by omega),List.set_set]) | (rw [stB_yes (by omega),List.set_set]; rfl) | (rw [stB_no (by omega)]) | (rw [stB_no (by omega)]; rfl)) ?_
   refine N_round (s':=(j+1)) [0,4,19,20,21] kr rfl (by omega) (by omega)
 ·
  replace hc2 := of_decide_eq_false hc2
  refine G_exit ?_
  refine N_then_exit ?_
  refine N_then_exit ?_
  refine N_block_exit ?_
  refine N_then ?_
  refine G_seq ?_
  refine G_seq ?_
  refine G_region ?_
  refine GL_pure (E':=[⟨66,[],.pointer (some ⟨d,4,none⟩)⟩,⟨0,[],pt d⟩,⟨4,[],.func (.func 69) #[] #[pt b1]⟩]) [0,0,0] kr (j:=3) rfl ?_
  refine GL_load (i:=3) (ch:=[]) (b:=d) (off:=4) (v:=.map (some cb)) rfl rfl kr kr kr kr kr (At.grp 1 0 rfl rfl) rfl ?_
  refine GL_call (i:=4) (ch:=[]) (f:=71) (fst:=#[]) (caps:=#[]) (vs:=[.map (some cb)]) rfl rfl rfl kr kr Tryz.func71 rfl rfl kr kr (chSure_of kr) (vKeys cb _ _) ?_
  rintro v H' ⟨b14, rfl, rfl⟩
  refine GL_heap rfl (H':=([(b14,.cells #[.map (some cb)] 69 (0,0))]::[(cb,.map (encM cm) cc)]::[(b1,.cells #[.slice (stB bs ks j).2.a ((stB bs ks j).2.l.length) ((stB bs ks j).2.c)] 49 (0,0))]::[(d,.cells #[.int .i64 room,.slice ba bs.length bc,.map (some nb),.map (some kb),.map (some cb),.bool fails,.bool once,.int .i64 calls] 72 (0,0))]::bodyG (stB bs ks j).1::[(kb,.map (encM km) kc)]::H)) (fun w h=>((h.front (j:=5) rfl).front (j:=1) rfl)) ?_
  refine GL_call (i:=5) (ch:=[]) (f:=70) (fst:=#[]) (caps:=#[]) (vs:=[.func (.func 93) #[] #[pt b14]]) rfl rfl rfl kr kr Tryz.func70 rfl rfl kr kr (chSure_of kr) (sortedC cm cc cb b14 hcm hcs hcl _ _) ?_
  rintro v H' ⟨sg, hO, rfl⟩
  obtain ⟨ds, hds⟩ : ∃ ds, ds = sortB (cm.map Prod.fst) := ⟨_, rfl⟩
  have hdl : ds.length = cm.length := by rw [hds, sortB_len, List.length_map]
  rw [← hds] at hO
  obtain ⟨sa, sc, rfl, hsc, hsr⟩ := hO.shape
  refine GL_fin (E':=[⟨0,[],pt d⟩,⟨4,[],.func (.func 69) #[] #[pt b1]⟩,⟨69,[],.slice sa cm.length sc⟩,⟨70,[],.int .i64 ((cm.length : Nat) : Int)⟩,⟨71,[],.int .i64 0⟩]) [0,0] [0,4,69,70,71] rfl kr ?_
  refine N_then ?_
  refine G_block ?_
  have hjn : j = bs.length := by omega
  subst hjn
  refine G_loop (EI:=(fun ξ : Nat × SM × Nat × KS=>[⟨0,[],pt d⟩,⟨4,[],.func (.func 69) #[] #[pt b1]⟩,⟨69,[],.slice sa cm.length sc⟩,⟨70,[],.int .i64 ((cm.length : Nat) : Int)⟩,⟨71,[],.int .i64 ((ξ.1 : Nat) : Int)⟩])) (HI:=(fun ξ : Nat × SM × Nat × KS=>(sg::[(b14,.cells #[.map (some cb)] 69 (0,0))]::[(cb,.map (encM cm) cc)]::[(b1,.cells #[.slice ξ.2.2.2.a ξ.2.2.2.l.length ξ.2.2.2.c] 49 (0,0))]::[(d,.cells #[.int .i64 room,.slice ba bs.length bc,.map (some nb),.map (some kb),.map (some cb),.bool fails,.bool once,.int .i64 calls] 72 (0,0))]::bodyG (stB bs ks bs.length).1::[(kb,.map (encM ξ.2.1) ξ.2.2.1)]::H))) (Φ:=(fun ξ : Nat × SM × Nat × KS=>(ξ.1 ≤ ds.length)∧(KsOk S ξ.2.2.2)∧(CrashK rows (ds.take ξ.1) ((km,kc),(stB bs ks bs.length).2) ((ξ.2.1,ξ.2.2.1),ξ.2.2.2))∧(MapOk ξ.2.1 ξ.2.2.1))) (μ:=(fun ξ : Nat × SM × Nat × KS=>ds.length - ξ.1)) (s0:=(0,km,kc,(stB bs ks bs.length).2)) [0,4,69,70,71] kr (by rfl) ⟨(by omega),(stB_ok hks _),(by rfl),hkm⟩ ?_
  rintro ⟨i, km1, kc1, ks1⟩ ⟨hi, hk1, hR, hmk⟩
  refine G_seq ?_
  refine G_pure (E':=[⟨0,[],pt d⟩,⟨4,[],.func (.func 69) #[] #[pt b1]⟩,⟨69,[],.slice sa cm.length sc⟩,⟨70,[],.int .i64 ((cm.length : Nat) : Int)⟩,⟨71,[],.int .i64 ((i : Nat) : Int)⟩,⟨72,[],.bool (decide (((i : Nat) : Int) < ((cm.length : Nat) : Int)))⟩]) [0] [0,4,69,70,71,72] rfl kr ?_
  refine N_then ?_
  refine G_seq ?_
  refine G_cond (b:=decide (((i : Nat) : Int) < ((cm.length : Nat) : Int))) kr (fun hc15=>?_) (fun hc15=>?_)
  ·
   replace hc15 := of_decide_eq_true hc15
   refine G_skip ?_
   refine N_then ?_
   refine G_seq ?_
   refine G_block ?_
   refine G_seq ?_
   refine G_region ?_
   refine GL_indexAddr (i:=0) (ch:=[]) (a:=sa) (len:=cm.length) (cap:=sc) (kd:=.i64) (j:=((i : Nat) : Int)) (e:=9) (sz:=1) (S:=(inG sg)) (cs:=(strs ds)) rfl rfl kr kr kr kr kr kr kr hsr (fun _=>by exact ⟨by omega,by omega,by first | exact List.cons_ne_nil _ _ | (intro h; simp [strs] at h; simp [h] at *; omega)⟩) ?_
   refine GL_loadS (i:=1) (ch:=[]) (a:=sa) (q:=i * 1) (S:=(inG sg)) (cs:=(strs ds)) (v:=.string (ds.getD i default)) rfl rfl kr kr kr kr kr hsr (at_inG 0 rfl) (fun _=>(by rw [Nat.mul_one]; exact strs_at (by omega))) ?_
   refine GL_fin (E':=[⟨0,[],pt d⟩,⟨4,[],.func (.func 69) #[] #[pt b1]⟩,⟨9,[],.string (ds.getD i default)⟩,⟨69,[],.slice sa cm.length sc⟩,⟨70,[],.int .i64 ((cm.length : Nat) : Int)⟩,⟨71,[],.int .i64 ((i : Nat) : Int)⟩]) [0] [0,4,9,69,70,71] rfl kr ?_
   refine N_then ?_
   refine G_seq ?_
   refine G_region ?_
   refine GL_pure (E':=[⟨77,[],.pointer (some ⟨d,4,none⟩)⟩,⟨0,[],pt d⟩,⟨4,[],.func (.func 69) #[] #[pt b1]⟩,⟨9,[],.string (ds.getD i default)⟩,⟨69,[],.slice sa cm.length sc⟩,⟨70,[],.int .i64 ((cm.length : Nat) : Int)⟩,⟨71,[],.int .i64 ((i : Nat) : Int)⟩]) [0,0,0] kr (j:=3) rfl ?_
   refine GL_load (i:=3) (ch:=[]) (b:=d) (off:=4) (v:=.map (some cb)) rfl rfl kr kr kr kr kr (At.grp 4 0 rfl rfl) rfl ?_
   refine GL_pure (E':=[⟨79,[],.string (ds.getD i default)⟩,⟨78,[],.map (some cb)⟩,⟨0,[],pt d⟩,⟨4,[],.func (.func 69) #[] #[pt b1]⟩,⟨69,[],.slice sa cm.length sc⟩,⟨70,[],.int .i64 ((cm.length : Nat) : Int)⟩,⟨71,[],.int .i64 ((i : Nat) : Int)⟩]) [0] kr (j:=5) rfl ?_
   have hdm : ds.getD i default ∈ cm.map Prod.fst := by (subst hds; exact sort_mem (by omega))
   have hro := hrows _ hdm
   obtain ⟨r, hr⟩ : ∃ r, r = rows (ds.getD i default) := ⟨_, rfl⟩
   rw [← hr] at hro
   obtain ⟨hg, hrd, hrl, hrq, hrc, hAll⟩ := hro
   refine GL_lookup (i:=5) (ch:=[]) (kt:=9) (et:=118) (r:=cb) (c:=cc) (m:=cm) (k:=(ds.getD i default)) (z:=.slice none 0 0) (ov:=(some (.slice r.a r.qs.length r.c))) rfl rfl kr kr kr kr kr kr kr kr (At.grp 2 0 rfl rfl) (fun _=>hg) ?_
   refine GL_fin (E':=[⟨0,[],pt d⟩,⟨4,[],.func (.func 69) #[] #[pt b1]⟩,⟨10,[],.slice r.a r.qs.length r.c⟩,⟨69,[],.slice sa cm.length sc⟩,⟨70,[],.int .i64 ((cm.length : Nat) : Int)⟩,⟨71,[],.int .i64 ((i : Nat) : Int)⟩]) [0] [0,4,10,69,70,71] rfl kr ?_
   refine N_then ?_
   refine G_seq ?_
   have hw16 : IntKind.wrap .i64 (((r.qs.length : Nat) : Int) + 1) = ((r.qs.length : Nat) : Int) + 1 := w64 (by omega) (by omega)
   refine G_region ?_
   refine GL_pure (E':=[⟨85,[],.int .i64 (((r.qs.length : Nat) : Int)+1)⟩,⟨82,[],.func (.func 69) #[] #[pt b1]⟩,⟨81,[],.slice r.a r.qs.length r.c⟩,⟨0,[],pt d⟩,⟨4,[],.func (.func 69) #[] #[pt b1]⟩,⟨69,[],.slice sa cm.length sc⟩,⟨70,[],.int .i64 ((cm.length : Nat) : Int)⟩,⟨71,[],.int .i64 ((i : Nat) : Int)⟩]) [0,0,0,0,0] (Eq.trans (b:=some [⟨85,[],.int .i64 (IntKind.wrap .i64 (((r.qs.length : Nat) : Int)+1))⟩,⟨82,[],.func (.func 69) #[] #[pt b1]⟩,⟨81,[],.slice r.a r.qs.length r.c⟩,⟨0,[],pt d⟩,⟨4,[],.func (.func 69) #[] #[pt b1]⟩,⟨69,[],.slice sa cm.length sc⟩,⟨70,[],.int .i64 ((cm.length : Nat) : Int)⟩,⟨71,[],.int .i64 ((i : Nat) : Int)⟩]) kr (by simp only [hw16])) (j:=5) rfl ?_
   refine GL_heap rfl (H':=([(b1,.cells #[.slice ks1.a ks1.l.length ks1.c] 49 (0,0))]::sg::[(b14,.cells #[.map (some cb)] 69 (0,0))]::[(cb,.map (encM cm) cc)]::[(d,.cells #[.int .i64 room,.slice ba bs.length bc,.map (some nb),.map (some kb),.map (some cb),.bool fails,.bool once,.int .i64 calls] 72 (0,0))]::bodyG (stB bs ks bs.length).1::[(kb,.map (encM km1) kc1)]::H)) (fun w h=>(h.front (j:=3) rfl)) ?_
   refine GL_call (i:=5) (ch:=[]) (f:=69) (fst:=#[]) (caps:=#[pt b1]) (vs:=[.int .i64 (((r.qs.length : Nat) : Int)+1)]) rfl rfl rfl kr kr Tryz.func69 rfl rfl kr kr (chSure_of kr) (vNextA b1 ks1 (((r.qs.length : Nat) : Int)+1) (by omega) S hk1 _ _ (fun y o h=>(At.cons (At.cons (At.cons (At.cons (At.cons (At.cons (hS y o h))))))))) ?_
   rintro v H' ⟨rfl, rfl⟩
   have hnx := nextK_bd (k := ks1.l.headD 0) (n := ((r.qs.length : Nat) : Int) + 1) (by omega)
   have hkn : keptN r ks1 ≤ r.qs.length := by unfold keptN; omega
   have hke : keptN r ks1 = Int.toNat (nextK (ks1.l.headD 0) (((r.qs.length : Nat) : Int) + 1)) := rfl
   refine GL_sliceL (i:=6) (ch:=[]) (a:=r.a) (len:=r.qs.length) (cap:=r.c) (e:=80) (sz:=1) (vl:=none) (vh:=(some (.int .i64 (nextK (ks1.l.headD 0) (((r.qs.length : Nat) : Int)+1))))) (l:=0) (h:=nextK (ks1.l.headD 0) (((r.qs.length : Nat) : Int)+1)) rfl rfl kr kr kr kr kr kr kr kr kr kr (fun _=>by omega) ?_
   refine GL_fin (E':=[⟨0,[],pt d⟩,⟨4,[],.func (.func 69) #[] #[pt b1]⟩,⟨69,[],.slice sa cm.length sc⟩,⟨70,[],.int .i64 ((cm.length : Nat) : Int)⟩,⟨71,[],.int .i64 ((i : Nat) : Int)⟩,⟨87,[],.slice (cutA r.a r.c 0 1) ((Int.toNat (nextK (ks1.l.headD 0) (((r.qs.length : Nat) : Int)+1))) - 0) (r.c - 0)⟩,⟨88,[],.int .i64 (((Int.toNat (nextK (ks1.l.headD 0) (((r.qs.length : Nat) : Int)+1))) - 0 : Nat) : Int)⟩,⟨89,[],.int .i64 0⟩]) [0,0] [0,4,69,70,71,87,88,89] rfl kr ?_
   refine N_then ?_
   refine G_block ?_
   refine G_loop (EI:=(fun ξ : Nat × SM × Nat=>[⟨0,[],pt d⟩,⟨4,[],.func (.func 69) #[] #[pt b1]⟩,⟨69,[],.slice sa cm.length sc⟩,⟨70,[],.int .i64 ((cm.length : Nat) : Int)⟩,⟨71,[],.int .i64 ((i : Nat) : Int)⟩,⟨87,[],.slice (cutA r.a r.c 0 1) ((Int.toNat (nextK (ks1.l.headD 0) (((r.qs.length : Nat) : Int)+1))) - 0) (r.c - 0)⟩,⟨88,[],.int .i64 (((Int.toNat (nextK (ks1.l.headD 0) (((r.qs.length : Nat) : Int)+1))) - 0 : Nat) : Int)⟩,⟨89,[],.int .i64 ((ξ.1 : Nat) : Int)⟩])) (HI:=(fun ξ : Nat × SM × Nat=>([(b1,.cells #[.slice (ksNext ks1).a ((ksNext ks1).l.length) ((ksNext ks1).c)] 49 (0,0))]::sg::[(b14,.cells #[.map (some cb)] 69 (0,0))]::[(cb,.map (encM cm) cc)]::[(d,.cells #[.int .i64 room,.slice ba bs.length bc,.map (some nb),.map (some kb),.map (some cb),.bool fails,.bool once,.int .i64 calls] 72 (0,0))]::bodyG (stB bs ks bs.length).1::[(kb,.map (encM ξ.2.1) ξ.2.2)]::H))) (Φ:=(fun ξ : Nat × SM × Nat=>(ξ.1 ≤ keptN r ks1)∧(MadeOf (r.xs.take ξ.1) (km1,kc1) (ξ.2.1,ξ.2.2)))) (μ:=(fun ξ : Nat × SM × Nat=>keptN r ks1 - ξ.1)) (s0:=(0,km1,kc1)) [0,4,69,70,71,87,88,89] kr (by rfl) ⟨(by omega),(by rfl)⟩ ?_
   rintro ⟨k, km2, kc2⟩ ⟨hkk, hR2⟩
   refine G_seq ?_
   refine G_pure (E':=[⟨0,[],pt d⟩,⟨4,[],.func (.func 69) #[] #[pt b1]⟩,⟨69,[],.slice sa cm.length sc⟩,⟨70,[],.int .i64 ((cm.length : Nat) : Int)⟩,⟨71,[],.int .i64 ((i : Nat) : Int)⟩,⟨87,[],.slice (cutA r.a r.c 0 1) ((Int.toNat (nextK (ks1.l.headD 0) (((r.qs.length : Nat) : Int)+1))) - 0) (r.c - 0)⟩,⟨88,[],.int .i64 (((Int.toNat (nextK (ks1.l.headD 0) (((r.qs.length : Nat) : Int)+1))) - 0 : Nat) : Int)⟩,⟨89,[],.int .i64 ((k : Nat) : Int)⟩,⟨90,[],.bool (decide (((k : Nat) : Int) < (((Int.toNat (nextK (ks1.l.headD 0) (((r.qs.length : Nat) : Int)+1))) - 0 : Nat) : Int)))⟩]) [0] [0,4,69,70,71,87,88,89,90] rfl kr ?_
   refine N_then ?_
   refine G_seq ?_
   refine G_cond (b:=decide (((k : Nat) : Int) < (((Int.toNat (nextK (ks1.l.headD 0) (((r.qs.length : Nat) : Int)+1))) - 0 : Nat) : Int))) kr (fun hc17=>?_) (fun hc17=>?_)
   ·
    replace hc17 := of_decide_eq_true hc17
    refine G_skip ?_
    refine N_then ?_
    refine G_seq ?_
    refine G_block ?_
    refine G_seq ?_
    refine G_region ?_
    refine GL_indexAddr (i:=0) (ch:=[]) (a:=(cutA r.a r.c 0 1)) (len:=(Int.toNat (nextK (ks1.l.headD 0) (((r.qs.length : Nat) : Int)+1))) - 0) (cap:=r.c - 0) (kd:=.i64) (j:=((k : Nat) : Int)) (e:=80) (sz:=1) (S:=S) (cs:=((r.qs.map fun q=>Value.map (some q)).take (keptN r ks1))) rfl rfl kr kr kr kr kr kr kr (rd_cut0 hrd (by rw [List.length_map]; omega) (by rw [List.length_map]; omega)) (fun _=>by exact ⟨by omega,by omega,take_ne (by omega) (by rw [List.length_map]; omega)⟩) ?_
    refine GL_loadS (i:=1) (ch:=[]) (a:=(cutA r.a r.c 0 1)) (q:=k * 1) (S:=S) (cs:=((r.qs.map fun q=>Value.map (some q)).take (keptN r ks1))) (v:=.map (some (r.qs.getD k 0))) rfl rfl kr kr kr kr kr (rd_cut0 hrd (by rw [List.length_map]; omega) (by rw [List.length_map]; omega)) (fun y o h=>(At.cons (At.cons (At.cons (At.cons (At.cons (At.cons (At.cons (hS y o h))))))))) (fun _=>(by rw [Nat.mul_one]; exact map_take_at (by omega) (by omega))) ?_
    refine GL_fin (E':=[⟨0,[],pt d⟩,⟨4,[],.func (.func 69) #[] #[pt b1]⟩,⟨12,[],.map (some (r.qs.getD k 0))⟩,⟨69,[],.slice sa cm.length sc⟩,⟨70,[],.int .i64 ((cm.length : Nat) : Int)⟩,⟨71,[],.int .i64 ((i : Nat) : Int)⟩,⟨87,[],.slice (cutA r.a r.c 0 1) ((Int.toNat (nextK (ks1.l.headD 0) (((r.qs.length : Nat) : Int)+1))) - 0) (r.c - 0)⟩,⟨88,[],.int .i64 (((Int.toNat (nextK (ks1.l.headD 0) (((r.qs.length : Nat) : Int)+1))) - 0 : Nat) : Int)⟩,⟨89,[],.int .i64 ((k : Nat) : Int)⟩]) [0] [0,4,12,69,70,71,87,88,89] rfl kr ?_
    refine N_then ?_
    refine G_region ?_
    refine GL_pure (E':=[⟨95,[],.pointer (some ⟨d,3,none⟩)⟩,⟨0,[],pt d⟩,⟨4,[],.func (.func 69) #[] #[pt b1]⟩,⟨12,[],.map (some (r.qs.getD k 0))⟩,⟨69,[],.slice sa cm.length sc⟩,⟨70,[],.int .i64 ((cm.length : Nat) : Int)⟩,⟨71,[],.int .i64 ((i : Nat) : Int)⟩,⟨87,[],.slice (cutA r.a r.c 0 1) ((Int.toNat (nextK (ks1.l.headD 0) (((r.qs.length : Nat) : Int)+1))) - 0) (r.c - 0)⟩,⟨88,[],.int .i64 (((Int.toNat (nextK (ks1.l.headD 0) (((r.qs.length : Nat) : Int)+1))) - 0 : Nat) : Int)⟩,⟨89,[],.int .i64 ((k : Nat) : Int)⟩]) [0,0,0] kr (j:=3) rfl ?_
    refine GL_load (i:=3) (ch:=[]) (b:=d) (off:=3) (v:=.map (some kb)) rfl rfl kr kr kr kr kr (At.grp 4 0 rfl rfl) rfl ?_
    refine GL_pure (E':=[⟨97,[],.map (some (r.qs.getD k 0))⟩,⟨96,[],.map (some kb)⟩,⟨0,[],pt d⟩,⟨4,[],.func (.func 69) #[] #[pt b1]⟩,⟨69,[],.slice sa cm.length sc⟩,⟨70,[],.int .i64 ((cm.length : Nat) : Int)⟩,⟨71,[],.int .i64 ((i : Nat) : Int)⟩,⟨87,[],.slice (cutA r.a r.c 0 1) ((Int.toNat (nextK (ks1.l.headD 0) (((r.qs.length : Nat) : Int)+1))) - 0) (r.c - 0)⟩,⟨88,[],.int .i64 (((Int.toNat (nextK (ks1.l.headD 0) (((r.qs.length : Nat) : Int)+1))) - 0 : Nat) : Int)⟩,⟨89,[],.int .i64 ((k : Nat) : Int)⟩]) [0] kr (j:=5) rfl ?_
    refine GL_heap rfl (H':=([(kb,.map (encM km2) kc2)]::[(b1,.cells #[.slice (ksNext ks1).a ((ksNext ks1).l.length) ((ksNext ks1).c)] 49 (0,0))]::sg::[(b14,.cells #[.map (some cb)] 69 (0,0))]::[(cb,.map (encM cm) cc)]::[(d,.cells #[.int .i64 room,.slice ba bs.length bc,.map (some nb),.map (some kb),.map (some cb),.bool fails,.bool once,.int .i64 calls] 72 (0,0))]::bodyG (stB bs ks bs.length).1::H)) (fun w h=>(h.front (j:=6) rfl)) ?_
    refine GL_call (i:=5) (ch:=[]) (f:=72) (fst:=#[]) (caps:=#[]) (vs:=[.map (some kb),.map (some (r.qs.getD k 0))]) rfl rfl rfl kr kr Tryz.func72 rfl rfl kr kr (chSure_of kr) (vApply kb (r.qs.getD k 0) kc2 (r.xcs.getD k 0) km2 (r.xs.getD k []) (made_ok hR2 hmk) (hAll k (by omega)).2.1 (hAll k (by omega)).2.2 _ _ (At.cons (At.cons (At.cons (At.cons (At.cons (At.cons (hAll k (by omega)).1))))))) ?_
    rintro v H' ⟨dn18, hdn19, rfl, rfl⟩
    refine GL_fin (E':=[⟨0,[],pt d⟩,⟨4,[],.func (.func 69) #[] #[pt b1]⟩,⟨69,[],.slice sa cm.length sc⟩,⟨70,[],.int .i64 ((cm.length : Nat) : Int)⟩,⟨71,[],.int .i64 ((i : Nat) : Int)⟩,⟨87,[],.slice (cutA r.a r.c 0 1) ((Int.toNat (nextK (ks1.l.headD 0) (((r.qs.length : Nat) : Int)+1))) - 0) (r.c - 0)⟩,⟨88,[],.int .i64 (((Int.toNat (nextK (ks1.l.headD 0) (((r.qs.length : Nat) : Int)+1))) - 0 : Nat) : Int)⟩,⟨89,[],.int .i64 ((k : Nat) : Int)⟩]) [] [0,4,69,70,71,87,88,89] rfl kr ?_
    refine N_block ?_
    refine N_then ?_
    have hw20 : IntKind.wrap .i64 (((k : Nat) : Int) + 1) = ((k : Nat) : Int) + 1 := w64 (by omega) (by omega)
    refine G_pure (E':=[⟨0,[],pt d⟩,⟨4,[],.func (.func 69) #[] #[pt b1]⟩,⟨69,[],.slice sa cm.length sc⟩,⟨70,[],.int .i64 ((cm.length : Nat) : Int)⟩,⟨71,[],.int .i64 ((i : Nat) : Int)⟩,⟨87,[],.slice (cutA r.a r.c 0 1) ((Int.toNat (nextK (ks1.l.headD 0) (((r.qs.length : Nat) : Int)+1))) - 0) (r.c - 0)⟩,⟨88,[],.int .i64 (((Int.toNat (nextK (ks1.l.headD 0) (((r.qs.length : Nat) : Int)+1))) - 0 : Nat) : Int)⟩,⟨89,[],.int .i64 (((k : Nat) : Int)+1)⟩]) [0,0] [0,4,69,70,71,87,88,89] rfl (Eq.trans (b:=some [⟨0,[],pt d⟩,⟨4,[],.func (.func 69) #[] #[pt b1]⟩,⟨69,[],.slice sa cm.length sc⟩,⟨70,[],.int .i64 ((cm.length : Nat) : Int)⟩,⟨71,[],.int .i64 ((i : Nat) : Int)⟩,⟨87,[],.slice (cutA r.a r.c 0 1) ((Int.toNat (nextK (ks1.l.headD 0) (((r.qs.length : Nat) : Int)+1))) - 0) (r.c - 0)⟩,⟨88,[],.int .i64 (((Int.toNat (nextK (ks1.l.headD 0) (((r.qs.length : Nat) : Int)+1))) - 0 : Nat) : Int)⟩,⟨89,[],.int .i64 (IntKind.wrap .i64 (((k : Nat) : Int)+1))⟩]) kr (by simp only [hw20])) ?_
    refine N_heap (H':=([(b1,.cells #[.slice (ksNext ks1).a ((ksNext ks1).l.length) ((ksNext ks1).c)] 49 (0,0))]::sg::[(b14,.cells #[.map (some cb)] 69 (0,0))]::[(cb,.map (encM cm) cc)]::[(d,.cells #[.int .i64 room,.slice ba bs.length bc,.map (some nb),.map (some kb),.map (some cb),.bool fails,.bool once,.int .i64 calls] 72 (0,0))]::bodyG (stB bs ks bs.length).1::[(kb,.map (encM ((foldS (km2,kc2) dn18).1)) ((foldS (km2,kc2) dn18).2))]::H)) (fun w h=>((((((h.front (j:=6) rfl).front (j:=6) rfl).front (j:=6) rfl).front (j:=6) rfl).front (j:=6) rfl).front (j:=6) rfl)) ?_
    refine N_round (s':=(k+1,(foldS (km2,kc2) dn18).1,(foldS (km2,kc2) dn18).2)) [0,4,69,70,71,87,88,89] kr rfl ⟨(by omega),(by rw [take_snoc (d:=[]) (by omega)]; exact made_snoc hdn19 hR2)⟩ (by omega)
   ·
    replace hc17 := of_decide_eq_false hc17
    refine G_exit ?_
    refine N_then_exit ?_
    refine N_then_exit ?_
    refine N_block_exit ?_
    refine N_block ?_
    refine N_then ?_
    have hw21 : IntKind.wrap .i64 (((i : Nat) : Int) + 1) = ((i : Nat) : Int) + 1 := w64 (by omega) (by omega)
    refine G_pure (E':=[⟨0,[],pt d⟩,⟨4,[],.func (.func 69) #[] #[pt b1]⟩,⟨69,[],.slice sa cm.length sc⟩,⟨70,[],.int .i64 ((cm.length : Nat) : Int)⟩,⟨71,[],.int .i64 (((i : Nat) : Int)+1)⟩]) [0,0] [0,4,69,70,71] rfl (Eq.trans (b:=some [⟨0,[],pt d⟩,⟨4,[],.func (.func 69) #[] #[pt b1]⟩,⟨69,[],.slice sa cm.length sc⟩,⟨70,[],.int .i64 ((cm.length : Nat) : Int)⟩,⟨71,[],.int .i64 (IntKind.wrap .i64 (((i : Nat) : Int)+1))⟩]) kr (by simp only [hw21])) ?_
    refine N_heap (H':=(sg::[(b14,.cells #[.map (some cb)] 69 (0,0))]::[(cb,.map (encM cm) cc)]::[(b1,.cells #[.slice (ksNext ks1).a ((ksNext ks1).l.length) ((ksNext ks1).c)] 49 (0,0))]::[(d,.cells #[.int .i64 room,.slice ba bs.length bc,.map (some nb),.map (some kb),.map (some cb),.bool fails,.bool once,.int .i64 calls] 72 (0,0))]::bodyG (stB bs ks bs.length).1::[(kb,.map (encM km2) kc2)]::H)) (fun w h=>(((((((h.front (j:=6) rfl).front (j:=6) rfl).front (j:=6) rfl).front (j:=3) rfl).front (j:=6) rfl).front (j:=6) rfl).front (j:=6) rfl)) ?_
    refine N_round (s':=(i+1,km2,kc2,(ksNext ks1))) [0,4,69,70,71] kr rfl ⟨(by omega),(ksNext_ok hk1),(by rw [take_snoc (d:=default) (by omega)]; exact crashK_snoc hR (by rw [← hr,(show keptN r ks1 = k from by omega)]; exact hR2)),(made_ok hR2 hmk)⟩ (by omega)
  ·
   replace hc15 := of_decide_eq_false hc15
   refine G_exit ?_
   refine N_then_exit ?_
   refine N_then_exit ?_
   refine N_block_exit ?_
   refine N_then ?_
   refine G_region ?_
   refine GL_pure (E':=[⟨106,[],.pointer (some ⟨d,3,none⟩)⟩,⟨103,[],pt d⟩,⟨102,[],pt d⟩,⟨101,[],pt d⟩]) [0,0,0,0,0,0] kr (j:=6) rfl ?_
   refine GL_load (i:=6) (ch:=[]) (b:=d) (off:=3) (v:=.map (some kb)) rfl rfl kr kr kr kr kr (At.grp 4 0 rfl rfl) rfl ?_
   refine GL_heap rfl (H':=([(kb,.map (encM km1) kc1)]::sg::[(b14,.cells #[.map (some cb)] 69 (0,0))]::[(cb,.map (encM cm) cc)]::[(b1,.cells #[.slice ks1.a ks1.l.length ks1.c] 49 (0,0))]::[(d,.cells #[.int .i64 room,.slice ba bs.length bc,.map (some nb),.map (some kb),.map (some cb),.bool fails,.bool once,.int .i64 calls] 72 (0,0))]::bodyG (stB bs ks bs.length).1::H)) (fun w h=>(h.front (j:=6) rfl)) ?_
   refine GL_call (i:=7) (ch:=[]) (f:=73) (fst:=#[]) (caps:=#[]) (vs:=[.map (some kb)]) rfl rfl rfl kr kr Tryz.func73 rfl rfl kr kr (chSure_of kr) (vMapClone kb kc1 km1 _ _) ?_
   rintro v H' ⟨b22, rfl, rfl⟩
   refine GL_makeMap (i:=8) (ch:=[]) rfl rfl kr kr kr (fun b23=>?_)
   refine GL_pure (E':=[⟨111,[],.pointer (some ⟨d,2,none⟩)⟩,⟨109,[],.map (some b23)⟩,⟨108,[],.map (some b22)⟩,⟨103,[],pt d⟩,⟨102,[],pt d⟩]) [0,0] kr (j:=11) rfl ?_
   refine GL_store (i:=11) (ch:=[]) (b:=d) (off:=2) (v:=.map (some b22)) (c:=#[.int .i64 room,.slice ba bs.length bc,.map (some nb),.map (some kb),.map (some cb),.bool fails,.bool once,.int .i64 calls]) (c':=#[.int .i64 room,.slice ba bs.length bc,.map (some b22),.map (some kb),.map (some cb),.bool fails,.bool once,.int .i64 calls]) (j:=7) (m:=0) (H':=([(b23,.map (encM ([])) 0)]::[(b22,.map (encM km1) kc1)]::[(kb,.map (encM km1) kc1)]::sg::[(b14,.cells #[.map (some cb)] 69 (0,0))]::[(cb,.map (encM cm) cc)]::[(b1,.cells #[.slice ks1.a ks1.l.length ks1.c] 49 (0,0))]::[(d,.cells #[.int .i64 room,.slice ba bs.length bc,.map (some b22),.map (some kb),.map (some cb),.bool fails,.bool once,.int .i64 calls] 72 (0,0))]::bodyG (stB bs ks bs.length).1::H)) rfl rfl kr kr kr kr kr kr kr rfl rfl (Nat.le_of_ble_eq_true rfl) (fun _ _=>thaw0) kr kr ?_
   refine GL_pure (E':=[⟨113,[],.pointer (some ⟨d,4,none⟩)⟩,⟨109,[],.map (some b23)⟩,⟨103,[],pt d⟩]) [0,0] kr (j:=14) rfl ?_
   refine GL_store (i:=14) (ch:=[]) (b:=d) (off:=4) (v:=.map (some b23)) (c:=#[.int .i64 room,.slice ba bs.length bc,.map (some b22),.map (some kb),.map (some cb),.bool fails,.bool once,.int .i64 calls]) (c':=#[.int .i64 room,.slice ba bs.length bc,.map (some b22),.map (some kb),.map (some b23),.bool fails,.bool once,.int .i64 calls]) (j:=7) (m:=0) (H':=([(b23,.map (encM ([])) 0)]::[(b22,.map (encM km1) kc1)]::[(kb,.map (encM km1) kc1)]::sg::[(b14,.cells #[.map (some cb)] 69 (0,0))]::[(cb,.map (encM cm) cc)]::[(b1,.cells #[.slice ks1.a ks1.l.length ks1.c] 49 (0,0))]::[(d,.cells #[.int .i64 room,.slice ba bs.length bc,.map (some b22),.map (some kb),.map (some b23),.bool fails,.bool once,.int .i64 calls] 72 (0,0))]::bodyG (stB bs ks bs.length).1::H)) rfl rfl kr kr kr kr kr kr kr rfl rfl (Nat.le_of_ble_eq_true rfl) (fun _ _=>thaw0) kr kr ?_
   refine GL_pure (E':=[⟨115,[],.pointer (some ⟨d,5,none⟩)⟩]) [0,0] kr (j:=17) rfl ?_
   refine GL_store (i:=17) (ch:=[]) (b:=d) (off:=5) (v:=.bool false) (c:=#[.int .i64 room,.slice ba bs.length bc,.map (some b22),.map (some kb),.map (some b23),.bool fails,.bool once,.int .i64 calls]) (c':=#[.int .i64 room,.slice ba bs.length bc,.map (some b22),.map (some kb),.map (some b23),.bool false,.bool once,.int .i64 calls]) (j:=7) (m:=0) (H':=([(b23,.map (encM ([])) 0)]::[(b22,.map (encM km1) kc1)]::[(kb,.map (encM km1) kc1)]::sg::[(b14,.cells #[.map (some cb)] 69 (0,0))]::[(cb,.map (encM cm) cc)]::[(b1,.cells #[.slice ks1.a ks1.l.length ks1.c] 49 (0,0))]::[(d,.cells #[.int .i64 room,.slice ba bs.length bc,.map (some b22),.map (some kb),.map (some b23),.bool false,.bool once,.int .i64 calls] 72 (0,0))]::bodyG (stB bs ks bs.length).1::H)) rfl rfl kr kr kr kr kr kr kr rfl rfl (Nat.le_of_ble_eq_true rfl) (fun _ _=>thaw0) kr kr ?_
   refine GL_fin (E':=[]) [] [] rfl kr ?_
   refine N_heap (H':=([(d,.cells #[.int .i64 room,.slice ba bs.length bc,.map (some b22),.map (some kb),.map (some b23),.bool false,.bool once,.int .i64 calls] 72 (0,0))]::bodyG (stB bs ks bs.length).1::[(kb,.map (encM km1) kc1)]::[(b22,.map (encM km1) kc1)]::[(b23,.map (encM ([])) 0)]::H)) (fun w h=>((((((((h.front (j:=1) rfl).front (j:=2) rfl).front (j:=8) rfl).front (j:=8) rfl).erase 8).erase 7).erase 6).erase 5)) ?_
   refine N_ret [] [] rfl kr rfl ?_
   have hin : i = ds.length := by omega
   rw [hin, List.take_length, hds] at hR
   exact ⟨rfl, _, _, _, _, _, hR, rfl⟩
end Go.Proofs.YtlaoeiaaeifidaaGreat
namespace Go.Proofs.YtlaoeiaaeifidaaGreat
open Go.Sw Go.Lib Go.Vf Go.RowKit
theorem vNameMore (d nb kb cb q nc cc xc : Nat) (room calls : Int) (bv : Value) (fails once : Bool) (nm cm xm : SM) (dir : ByteArray) (hn : MapOk nm nc) (hx : MapOk xm xc) (hv : ∀ e ∈ xm, e.2.1 = .pointer none ∨ ∃ p, e.2.1 = .pointer (some ⟨p, 0, none⟩)) (rv : Value) (rg : Grp) (m : Nat) (cs : List Value) (hO : Go.Sw.Own 80 1 rv rg m cs) (hm : m ≤ 1000000) (hg : mget cm dir = some rv) (W0 : World) (H : List Grp) (hA : At W0 H q (.map (encM xm) xc)) : Tri Tryz.prog 37 #[pt d, .string dir, .map (some q)] W0 ([(d, .cells #[.int .i64 room, bv, .map (some nb), .map (some kb), .map (some cb), .bool fails, .bool once, .int .i64 calls] 72 (0, 0))] :: [(nb, .map (encM nm) nc)] :: [(cb, .map (encM cm) cc)] :: rg :: H) (fun v H' => ∃ dn x g, dn.Perm xm ∧ Go.Sw.Own 80 1 x g (m + 1) (cs ++ [.map (some q)]) ∧ v = .tuple #[] ∧ H' = ([(d, .cells #[.int .i64 room, bv, .map (some nb), .map (some kb), .map (some cb), .bool fails, .bool once, .int .i64 calls] 72 (0, 0))] :: [(nb, .map (encM ((foldS (nm, nc) dn).1)) ((foldS (nm, nc) dn).2))] :: [(cb, .map (encM (mput cm cc dir x)) (if mhas cm dir then cc else cc + 1))] :: g :: H)) := by
 refine Tri_of (args := [pt d, .string dir, .map (some q)]) (n := 26) Tryz.func37 rfl rfl (Nat.le_of_ble_eq_true rfl) ?_
 refine G_seq ?_
 refine G_region ?_
 refine GL_pure (E':=[⟨8,[],.pointer (some ⟨d,2,none⟩)⟩,⟨0,[],pt d⟩,⟨1,[],.string dir⟩,⟨2,[],.map (some q)⟩]) [0,0,0] kr (j:=3) rfl ?_
 refine GL_load (i:=3) (ch:=[]) (b:=d) (off:=2) (v:=.map (some nb)) rfl rfl kr kr kr kr kr (At.grp 0 0 rfl rfl) rfl ?_
 refine GL_pure (E':=[⟨10,[],.map (some q)⟩,⟨9,[],.map (some nb)⟩,⟨0,[],pt d⟩,⟨1,[],.string dir⟩,⟨2,[],.map (some q)⟩]) [0] kr (j:=5) rfl ?_
 refine GL_heap rfl (H':=([(nb,.map (encM nm) nc)]::[(d,.cells #[.int .i64 room,bv,.map (some nb),.map (some kb),.map (some cb),.bool fails,.bool once,.int .i64 calls] 72 (0,0))]::[(cb,.map (encM cm) cc)]::rg::H)) (fun w h=>(h.front (j:=1) rfl)) ?_
 refine GL_call (i:=5) (ch:=[]) (f:=72) (fst:=#[]) (caps:=#[]) (vs:=[.map (some nb),.map (some q)]) rfl rfl rfl kr kr Tryz.func72 rfl rfl kr kr (chSure_of kr) (vApply nb q nc xc nm xm hn hx hv _ _ (At.cons (At.cons (At.cons hA)))) ?_
 rintro v H' ⟨dn1, hdn2, rfl, rfl⟩
 refine GL_fin (E':=[⟨0,[],pt d⟩,⟨1,[],.string dir⟩,⟨2,[],.map (some q)⟩]) [] [0,1,2] rfl kr ?_
 refine N_then ?_
 refine G_regionH ([(nb,.map (encM ((foldS (nm,nc) dn1).1)) ((foldS (nm,nc) dn1).2))]::[(d,.cells #[.int .i64 room,bv,.map (some nb),.map (some kb),.map (some cb),.bool fails,.bool once,.int .i64 calls] 72 (0,0))]::H) kr ?_
 refine GH_pure (E':=[⟨12,[],pt d⟩,⟨0,[],pt d⟩,⟨1,[],.string dir⟩,⟨2,[],.map (some q)⟩]) 0 0 kr (fun w h=>((h.erase 3).erase 2)) kr ?_
 refine GH_nil (ad:=⟨d,0,none⟩) 1 rfl rfl rfl kr kr kr kr kr (fun w h=>((h.erase 3).erase 2)) ?_
 refine GH_pure (E':=[⟨14,[],.pointer (some ⟨d,4,none⟩)⟩,⟨0,[],pt d⟩,⟨1,[],.string dir⟩,⟨2,[],.map (some q)⟩]) 2 0 kr (fun w h=>((h.erase 3).erase 2)) kr ?_
 refine GH_take' (E':=[⟨15,[],.map (some cb)⟩,⟨14,[],.pointer (some ⟨d,4,none⟩)⟩,⟨0,[],pt d⟩,⟨1,[],.string dir⟩,⟨2,[],.map (some q)⟩]) 3 kr (fun w h=>((h.erase 3).erase 2)) ?_ ?_
 ·
  refine GL_load (i:=3) (ch:=[]) (b:=d) (off:=4) (v:=.map (some cb)) rfl rfl kr kr kr kr kr (At.grp 1 0 rfl rfl) rfl ?_
  exact GL_yend kr kr
 refine GH_pure (E':=[⟨16,[],.string dir⟩,⟨15,[],.map (some cb)⟩,⟨0,[],pt d⟩,⟨1,[],.string dir⟩,⟨2,[],.map (some q)⟩]) 4 0 kr (fun w h=>((h.erase 3).erase 2)) kr ?_
 refine GH_pure (E':=[⟨17,[],pt d⟩,⟨16,[],.string dir⟩,⟨15,[],.map (some cb)⟩,⟨1,[],.string dir⟩,⟨2,[],.map (some q)⟩]) 5 0 kr (fun w h=>((h.erase 3).erase 2)) kr ?_
 refine GH_nil (ad:=⟨d,0,none⟩) 6 rfl rfl rfl kr kr kr kr kr (fun w h=>((h.erase 3).erase 2)) ?_
 refine GH_pure (E':=[⟨19,[],.pointer (some ⟨d,4,none⟩)⟩,⟨16,[],.string dir⟩,⟨15,[],.map (some cb)⟩,⟨1,[],.string dir⟩,⟨2,[],.map (some q)⟩]) 7 0 kr (fun w h=>((h.erase 3).erase 2)) kr ?_
 refine GH_take' (E':=[⟨20,[],.map (some cb)⟩,⟨19,[],.pointer (some ⟨d,4,none⟩)⟩,⟨16,[],.string dir⟩,⟨15,[],.map (some cb)⟩,⟨1,[],.string dir⟩,⟨2,[],.map (some q)⟩]) 8 kr (fun w h=>((h.erase 3).erase 2)) ?_ ?_
 ·
  refine GL_load (i:=8) (ch:=[]) (b:=d) (off:=4) (v:=.map (some cb)) rfl rfl kr kr kr kr kr (At.grp 1 0 rfl rfl) rfl ?_
  exact GL_yend kr kr
 refine GH_pure (E':=[⟨21,[],.string dir⟩,⟨20,[],.map (some cb)⟩,⟨16,[],.string dir⟩,⟨15,[],.map (some cb)⟩,⟨2,[],.map (some q)⟩]) 9 0 kr (fun w h=>((h.erase 3).erase 2)) kr ?_
 refine GH_pure (E':=[⟨23,[],.map (some q)⟩,⟨21,[],.string dir⟩,⟨20,[],.map (some cb)⟩,⟨16,[],.string dir⟩,⟨15,[],.map (some cb)⟩]) 11 0 kr (fun w h=>((h.erase 3).erase 2)) kr ?_
 refine GH_eff2 10 12 kr kr kr kr kr ?_ ?_
 ·
  refine GL_lookup (i:=10) (ch:=[]) (kt:=9) (et:=118) (r:=cb) (c:=cc) (m:=cm) (k:=dir) (z:=.slice none 0 0) (ov:=(some (rv))) rfl rfl kr kr kr kr kr kr kr kr (At.grp 2 0 rfl rfl) (fun _=>hg) ?_
  refine GH_back kr (fun w h=>((h.erase 3).erase 2)) ?_
  refine GH_eff 12 kr kr kr ?_
  refine GL_buildSlice (i:=12) (ch:=[]) (e:=80) (l:=[(0,.map (some q))]) (c:=[.map (some q)]) rfl rfl kr kr kr kr kr (fun b3=>?_)
  refine GH_back kr (fun w h=>(((h.erase 4).erase 3).erase 0)) ?_
  refine GH_more ([(b3,.cells #[.map (some q)] 80 (0,0))]::[(nb,.map (encM ((foldS (nm,nc) dn1).1)) ((foldS (nm,nc) dn1).2))]::[(d,.cells #[.int .i64 room,bv,.map (some nb),.map (some kb),.map (some cb),.bool fails,.bool once,.int .i64 calls] 72 (0,0))]::H) (fun w h=>(h.erase 0)) ?_
  refine GH_eff 13 kr kr kr ?_
  refine GL_append (i:=13) (ch:=[]) (t:=118) (tx:=118) (e:=80) (inf:=Tryz.t80) (s:=rv) (x:=.slice (some ⟨b3,0,none⟩) 1 1) (n:=m) (m:=1) (j:=4) (cs:=cs) (news:=[.map (some q)]) (g:=rg) (S:=(inG [(b3,.cells #[.map (some q)] 80 (0,0))])) rfl rfl rfl rfl kr kr kr rfl rfl (.inl ⟨80,kr⟩) (fun ⟨_,h⟩=>by cases h) (fun _=>⟨80,kr⟩) kr kr kr rfl hO (SrcOf.slice _ _ _ _ Rd.lit (fun h=>by cases h)) (at_inG 0 rfl) kr (by intro u hu; rcases List.mem_singleton.1 hu with rfl; rfl) (by omega) (by show (m+1) * 8 ≤ 140737488355328; omega) (fun v4 g5 hO6=>?_)
  refine GH_back kr (fun w h=>((h.erase 4).erase 3)) ?_
  refine GH_more ([(b3,.cells #[.map (some q)] 80 (0,0))]::[(nb,.map (encM ((foldS (nm,nc) dn1).1)) ((foldS (nm,nc) dn1).2))]::[(d,.cells #[.int .i64 room,bv,.map (some nb),.map (some kb),.map (some cb),.bool fails,.bool once,.int .i64 calls] 72 (0,0))]::g5::H) (fun w h=>(h.erase 3)) ?_
  refine GH_eff 14 kr kr kr ?_
  refine GL_mapPut (i:=14) (ch:=[]) (kt:=9) (et:=118) (r:=cb) (c:=cc) (j:=3) (q:=0) (m:=cm) (k:=dir) (v:=v4) (H':=([(b3,.cells #[.map (some q)] 80 (0,0))]::[(nb,.map (encM ((foldS (nm,nc) dn1).1)) ((foldS (nm,nc) dn1).2))]::[(d,.cells #[.int .i64 room,bv,.map (some nb),.map (some kb),.map (some cb),.bool fails,.bool once,.int .i64 calls] 72 (0,0))]::[(cb,.map (encM (mput cm cc dir (v4))) (if mhas cm dir then cc else cc+1))]::g5::H)) rfl (.inl rfl) kr kr kr kr kr kr kr kr rfl rfl rfl ?_
  refine GH_back kr (fun w h=>(h.erase 3)) ?_
  refine GH_done (E':=[]) [] kr kr ?_
  refine N_heap (H':=([(d,.cells #[.int .i64 room,bv,.map (some nb),.map (some kb),.map (some cb),.bool fails,.bool once,.int .i64 calls] 72 (0,0))]::[(nb,.map (encM ((foldS (nm,nc) dn1).1)) ((foldS (nm,nc) dn1).2))]::[(cb,.map (encM (mput cm cc dir (v4))) (if mhas cm dir then cc else cc+1))]::g5::H)) (fun w h=>(((((h.front (j:=4) rfl).front (j:=4) rfl).front (j:=3) rfl).front (j:=4) rfl).erase 4)) ?_
  refine N_ret [] [] rfl kr rfl ?_
  exact ⟨_, _, g5, hdn2, hO6, rfl, rfl⟩
 ·
  refine GL_buildSlice (i:=12) (ch:=[]) (e:=80) (l:=[(0,.map (some q))]) (c:=[.map (some q)]) rfl rfl kr kr kr kr kr (fun b7=>?_)
  refine GH_back kr (fun w h=>(((h.erase 4).erase 3).erase 0)) ?_
  refine GH_more ([(b7,.cells #[.map (some q)] 80 (0,0))]::[(nb,.map (encM ((foldS (nm,nc) dn1).1)) ((foldS (nm,nc) dn1).2))]::[(d,.cells #[.int .i64 room,bv,.map (some nb),.map (some kb),.map (some cb),.bool fails,.bool once,.int .i64 calls] 72 (0,0))]::H) (fun w h=>(h.erase 0)) ?_
  refine GH_eff 10 kr kr kr ?_
  refine GL_lookup (i:=10) (ch:=[]) (kt:=9) (et:=118) (r:=cb) (c:=cc) (m:=cm) (k:=dir) (z:=.slice none 0 0) (ov:=(some (rv))) rfl rfl kr kr kr kr kr kr kr kr (At.grp 3 0 rfl rfl) (fun _=>hg) ?_
  refine GH_back kr (fun w h=>((h.erase 4).erase 3)) ?_
  refine GH_eff 13 kr kr kr ?_
  refine GL_append (i:=13) (ch:=[]) (t:=118) (tx:=118) (e:=80) (inf:=Tryz.t80) (s:=rv) (x:=.slice (some ⟨b7,0,none⟩) 1 1) (n:=m) (m:=1) (j:=4) (cs:=cs) (news:=[.map (some q)]) (g:=rg) (S:=(inG [(b7,.cells #[.map (some q)] 80 (0,0))])) rfl rfl rfl rfl kr kr kr rfl rfl (.inl ⟨80,kr⟩) (fun ⟨_,h⟩=>by cases h) (fun _=>⟨80,kr⟩) kr kr kr rfl hO (SrcOf.slice _ _ _ _ Rd.lit (fun h=>by cases h)) (at_inG 0 rfl) kr (by intro u hu; rcases List.mem_singleton.1 hu with rfl; rfl) (by omega) (by show (m+1) * 8 ≤ 140737488355328; omega) (fun v8 g9 hO10=>?_)
  refine GH_back kr (fun w h=>((h.erase 4).erase 3)) ?_
  refine GH_more ([(b7,.cells #[.map (some q)] 80 (0,0))]::[(nb,.map (encM ((foldS (nm,nc) dn1).1)) ((foldS (nm,nc) dn1).2))]::[(d,.cells #[.int .i64 room,bv,.map (some nb),.map (some kb),.map (some cb),.bool fails,.bool once,.int .i64 calls] 72 (0,0))]::g9::H) (fun w h=>(h.erase 3)) ?_
  refine GH_eff 14 kr kr kr ?_
  refine GL_mapPut (i:=14) (ch:=[]) (kt:=9) (et:=118) (r:=cb) (c:=cc) (j:=3) (q:=0) (m:=cm) (k:=dir) (v:=v8) (H':=([(b7,.cells #[.map (some q)] 80 (0,0))]::[(nb,.map (encM ((foldS (nm,nc) dn1).1)) ((foldS (nm,nc) dn1).2))]::[(d,.cells #[.int .i64 room,bv,.map (some nb),.map (some kb),.map (some cb),.bool fails,.bool once,.int .i64 calls] 72 (0,0))]::[(cb,.map (encM (mput cm cc dir (v8))) (if mhas cm dir then cc else cc+1))]::g9::H)) rfl (.inl rfl) kr kr kr kr kr kr kr kr rfl rfl rfl ?_
  refine GH_back kr (fun w h=>(h.erase 3)) ?_
  refine GH_done (E':=[]) [] kr kr ?_
  refine N_heap (H':=([(d,.cells #[.int .i64 room,bv,.map (some nb),.map (some kb),.map (some cb),.bool fails,.bool once,.int .i64 calls] 72 (0,0))]::[(nb,.map (encM ((foldS (nm,nc) dn1).1)) ((foldS (nm,nc) dn1).2))]::[(cb,.map (encM (mput cm cc dir (v8))) (if mhas cm dir then cc else cc+1))]::g9::H)) (fun w h=>(((((h.front (j:=4) rfl).front (j:=4) rfl).front (j:=3) rfl).front (j:=4) rfl).erase 4)) ?_
  refine N_ret [] [] rfl kr rfl ?_
  exact ⟨_, _, g9, hdn2, hO10, rfl, rfl⟩
end Go.Proofs.YtlaoeiaaeifidaaGreat
namespace Go.Vf
open Go.Sw Go.RowKit
theorem sat_cnt {W0 : World} {H H' : List Grp} {w : World} (h : Sat W0 H w) (hc : ∀ (_ : DecidableEq (Nat × Obj)) (x : Nat × Obj), H.flatten.count x = H'.flatten.count x) : Sat W0 H' w :=
  h.flat (by
    have inst : DecidableEq (Nat × Obj) := Classical.typeDecidableEq _
    exact List.perm_iff_count.2 (hc inst))
theorem _root_.Go.Sw.Sat.dropApp {W0 : World} {K L : List Grp} {w : World} (h : Sat W0 (K ++ L) w) : Sat W0 L w := h.subl (by rw [List.flatten_append]; exact List.sublist_append_right _ _)
theorem at_app {W0 : World} {K L : List Grp} {b : Nat} {o : Obj} (h : At W0 K b o) : At W0 (K ++ L) b o := by
  rcases h with h | h
  · exact .inl h
  · exact .inr (by rw [List.flatten_append]; exact List.mem_append_left _ h)
theorem at_app2 {W0 : World} {K L : List Grp} {b : Nat} {o : Obj} (h : At W0 L b o) : At W0 (K ++ L) b o := by
  rcases h with h | h
  · exact .inl h
  · exact .inr (by rw [List.flatten_append]; exact List.mem_append_right _ h)
structure RW where
  dir : ByteArray
  v : Value
  g : Grp
  qs : List Nat
def rowsG (rows : List RW) : List Grp := rows.map (·.g)
def rowV (r : RW) : Prop := Go.Sw.Own 80 1 r.v r.g r.qs.length (r.qs.map fun q => Value.map (some q)) ∧ 0 < r.qs.length
def RowsOk (cm : SM) (rows : List RW) : Prop := cm.map (fun e => (e.1, e.2.1)) = rows.map (fun r => (r.dir, r.v)) ∧ ∀ r ∈ rows, rowV r
def rowOf : List RW → ByteArray → List Nat
  | [], _ => []
  | r :: l, d => if d == r.dir then r.qs else rowOf l d
def RowsAdd (rows : List RW) (dir : ByteArray) (q : Nat) (rows' : List RW) : Prop :=
  ((∀ r ∈ rows, (dir == r.dir) = false) ∧ ∃ v g, rows' = rows ++ [⟨dir, v, g, [q]⟩]) ∨ ∃ pre r post v g, rows = pre ++ r :: post ∧ (∀ r ∈ pre, (dir == r.dir) = false) ∧ r.dir = dir ∧ rows' = pre ++ ⟨dir, v, g, r.qs ++ [q]⟩ :: post
theorem rowOf_app {d : ByteArray} : ∀ {l r : List RW}, (∀ x ∈ l, (d == x.dir) = false) → rowOf (l ++ r) d = rowOf r d
  | [], _, _ => rfl
  | x :: l, r, h => by
    rw [List.cons_append, rowOf, h x List.mem_cons_self]
    simp only [Bool.false_eq_true, if_false]
    exact rowOf_app fun y hy => h y (List.mem_cons_of_mem _ hy)
theorem rowOf_none {d : ByteArray} {l : List RW} (h : ∀ x ∈ l, (d == x.dir) = false) : rowOf l d = [] := by
  have := rowOf_app (r := []) h
  rwa [List.append_nil] at this
theorem rowOf_app' {d : ByteArray} : ∀ {l r r' : List RW}, (rowOf r d = rowOf r' d) → rowOf (l ++ r) d = rowOf (l ++ r') d
  | [], _, _, h => h
  | x :: l, r, r', h => by
    rw [List.cons_append, List.cons_append, rowOf, rowOf]
    split
    · rfl
    · exact rowOf_app' h
theorem rowsAdd_of {rows rows' : List RW} {dir : ByteArray} {q : Nat} (h : RowsAdd rows dir q rows') (d : ByteArray) : rowOf rows' d = if d == dir then rowOf rows d ++ [q] else rowOf rows d := by
  rcases h with ⟨h, v, g, rfl⟩ | ⟨pre, r, post, v, g, rfl, h, hd, rfl⟩
  · cases hk : d == dir
    · simp only [Bool.false_eq_true, if_false]
      have : rowOf (rows ++ [⟨dir, v, g, [q]⟩]) d = rowOf (rows ++ []) d := rowOf_app' (by simp [rowOf, hk])
      rw [this, List.append_nil]
    · rw [baEq] at hk; subst hk
      simp only [if_true]
      rw [rowOf_app h, rowOf_none h, rowOf, if_pos (baEq.2 rfl)]; rfl
  · cases hk : d == dir
    · simp only [Bool.false_eq_true, if_false]
      exact rowOf_app' (by rw [rowOf, rowOf, hd, hk]; rfl)
    · rw [baEq] at hk; subst hk
      simp only [if_true]
      rw [rowOf_app h, rowOf_app h, rowOf, rowOf, hd, if_pos (baEq.2 rfl), if_pos (baEq.2 rfl)]
theorem mget_none {m : SM} {k : ByteArray} : mget m k = none ↔ ∀ e ∈ m, (k == e.1) = false := by
  have h : ∀ (m : SM) (i : Nat), mfind k m i = none ↔ ∀ e ∈ m, (k == e.1) = false := by
    intro m
    induction m with
    | nil => intro i; simp [mfind]
    | cons e m ih =>
      intro i
      rw [mfind]
      cases hk : k == e.1
      · simp only [Bool.false_eq_true, if_false, ih (i + 1)]
        constructor
        · intro h x hx; rcases List.mem_cons.1 hx with rfl | hx
          · exact hk
          · exact h x hx
        · intro h x hx; exact h x (List.mem_cons_of_mem _ hx)
      · simp only [if_true, reduceCtorEq, false_iff]
        intro h; rw [h e List.mem_cons_self] at hk; cases hk
  unfold mget
  rw [Option.map_eq_none_iff]
  exact h m 0
theorem mfind_i (k : ByteArray) : ∀ (m : SM) (i j : Nat), (mfind k m i).map (·.2) = (mfind k m j).map (·.2)
  | [], _, _ => rfl
  | e :: m, i, j => by
    rw [mfind, mfind]
    split
    · rfl
    · exact mfind_i k m _ _
theorem mget_cons (e : ByteArray × Value × Nat) (m : SM) (k : ByteArray) : mget (e :: m) k = if k == e.1 then some e.2.1 else mget m k := by
  unfold mget
  rw [mfind]
  split
  · rfl
  · exact mfind_i k m _ _
theorem mget_split {m : SM} {k : ByteArray} {v : Value} (h : mget m k = some v) : ∃ pre c post, m = pre ++ (k, v, c) :: post ∧ ∀ e ∈ pre, (k == e.1) = false := by
  induction m with
  | nil => cases h
  | cons e m ih =>
    rw [mget_cons] at h
    cases hk : k == e.1
    · rw [hk] at h
      simp only [Bool.false_eq_true, if_false] at h
      obtain ⟨pre, c, post, rfl, hp⟩ := ih h
      exact ⟨e :: pre, c, post, rfl, fun x hx => by rcases List.mem_cons.1 hx with rfl | hx; exact hk; exact hp x hx⟩
    · rw [hk] at h
      simp only [if_true, Option.some.injEq] at h
      obtain ⟨a, b, c⟩ := e
      rw [baEq] at hk; subst hk; subst h
      exact ⟨[], c, m, rfl, fun x hx => absurd hx List.not_mem_nil⟩
theorem mput_split {pre post : SM} {k : ByteArray} {v v' : Value} {c c' : Nat} (hp : ∀ e ∈ pre, (k == e.1) = false) : mput (pre ++ (k, v, c) :: post) c' k v' = pre ++ (k, v', c) :: post := by
  induction pre with
  | nil => rw [List.nil_append, mput, if_pos (baEq.2 rfl)]; rfl
  | cons e pre ih =>
    rw [List.cons_append, mput, hp e List.mem_cons_self]
    simp only [Bool.false_eq_true, if_false]
    rw [ih fun x hx => hp x (List.mem_cons_of_mem _ hx)]; rfl
theorem rows_none {cm : SM} {rows : List RW} (h : RowsOk cm rows) {dir : ByteArray} (hg : mget cm dir = none) : ∀ r ∈ rows, (dir == r.dir) = false := by
  intro r hr
  have : (r.dir, r.v) ∈ cm.map (fun e => (e.1, e.2.1)) := by rw [h.1]; exact List.mem_map.2 ⟨r, hr, rfl⟩
  obtain ⟨e, he, h2⟩ := List.mem_map.1 this
  have := mget_none.1 hg e he
  rw [(Prod.mk.injEq _ _ _ _ ▸ h2 : e.1 = r.dir ∧ _).1] at this
  exact this
theorem rows_some {cm : SM} {rows : List RW} (h : RowsOk cm rows) {dir : ByteArray} {rv : Value} (hg : mget cm dir = some rv) :
    ∃ pre r post c p1 p2, rows = pre ++ r :: post ∧ cm = p1 ++ (dir, rv, c) :: p2 ∧ (∀ e ∈ p1, (dir == e.1) = false) ∧ (∀ r ∈ pre, (dir == r.dir) = false) ∧ r.dir = dir ∧ r.v = rv ∧ p1.map (fun e => (e.1, e.2.1)) = pre.map (fun r => (r.dir, r.v)) ∧ p2.map (fun e => (e.1, e.2.1)) = post.map (fun r => (r.dir, r.v)) := by
  obtain ⟨p1, c, p2, rfl, hp⟩ := mget_split hg
  have h1 := h.1
  rw [List.map_append, List.map_cons] at h1
  obtain ⟨pre, rest, rfl, h2, h3⟩ := List.map_eq_append_iff.1 h1.symm
  obtain ⟨r, post, rfl, h4, h5⟩ := List.map_eq_cons_iff.1 h3
  injection h4 with h6 h7
  refine ⟨pre, r, post, c, p1, p2, rfl, rfl, hp, fun x hx => ?_, h6, h7, h2.symm, h5.symm⟩
  have : (x.dir, x.v) ∈ p1.map (fun e => (e.1, e.2.1)) := by rw [← h2]; exact List.mem_map.2 ⟨x, hx, rfl⟩
  obtain ⟨e, he, h8⟩ := List.mem_map.1 this
  have := hp e he
  rw [(Prod.mk.injEq _ _ _ _ ▸ h8 : e.1 = x.dir ∧ _).1] at this
  exact this
end Go.Vf
namespace Go.Proofs.YtlaoeiaaeifidaaGreat
open Go.Sw Go.Vf Go.RowKit
theorem vName (d nb kb cb q nc cc xc : Nat) (room calls : Int) (bv : Value) (fails once : Bool) (nm cm xm : SM) (dir : ByteArray) (hn : MapOk nm nc) (hx : MapOk xm xc) (hv : ∀ e ∈ xm, e.2.1 = .pointer none ∨ ∃ p, e.2.1 = .pointer (some ⟨p, 0, none⟩)) (rows : List RW) (hR : RowsOk cm rows) (hl : ∀ r ∈ rows, r.qs.length ≤ 1000000) (K : List Grp) (W0 : World) (H : List Grp) (hA : At W0 K q (.map (encM xm) xc)) :
    Tri Tryz.prog 37 #[.pointer (some ⟨d, 0, none⟩), .string dir, .map (some q)] W0 ([(d, .cells #[.int .i64 room, bv, .map (some nb), .map (some kb), .map (some cb), .bool fails, .bool once, .int .i64 calls] 72 (0, 0))] :: [(nb, .map (encM nm) nc)] :: [(cb, .map (encM cm) cc)] :: (K ++ (rowsG rows ++ H)))
      (fun v H' => ∃ dn x rows', dn.Perm xm ∧ v = .tuple #[] ∧ RowsOk (mput cm cc dir x) rows' ∧ RowsAdd rows dir q rows' ∧ H' = [(d, .cells #[.int .i64 room, bv, .map (some nb), .map (some kb), .map (some cb), .bool fails, .bool once, .int .i64 calls] 72 (0, 0))] :: [(nb, .map (encM (foldS (nm, nc) dn).1) (foldS (nm, nc) dn).2)] :: [(cb, .map (encM (mput cm cc dir x)) (if mhas cm dir then cc else cc + 1))] :: (K ++ (rowsG rows' ++ H))) := by
  cases hg : mget cm dir with
  | none =>
    have hno := rows_none hR hg
    refine Tri.post (vNameNew d nb kb cb q nc cc xc room calls bv fails once nm cm xm dir hn hx hv hg W0 (K ++ (rowsG rows ++ H)) (at_app hA)) fun v H1 h => ?_
    obtain ⟨dn, x, g, hd, ho, hv1, hH⟩ := h
    refine ⟨_, ⟨dn, x, rows ++ [⟨dir, x, g, [q]⟩], hd, hv1, ⟨?_, ?_⟩, .inl ⟨hno, x, g, rfl⟩, rfl⟩, fun w hw => ?_⟩
    · have hm : mhas cm dir = false := mhas_false.2 (mget_none.1 hg)
      rw [mput_new _ _ hm, List.map_append, List.map_append, hR.1]; rfl
    · intro r hr
      rcases List.mem_append.1 hr with hr | hr
      · exact hR.2 r hr
      · rw [List.mem_singleton.1 hr]; exact ⟨ho, Nat.one_pos⟩
    · rw [hH] at hw
      refine sat_cnt hw fun _ x => ?_
      simp only [rowsG, List.map_append, List.map_cons, List.map_nil, List.flatten_cons, List.flatten_append, List.flatten_nil, List.count_append, List.append_nil]
      omega
  | some rv =>
    obtain ⟨pre, r, post, c, p1, p2, rfl, rfl, hp1, hpre, hd, hrv, e1, e2⟩ := rows_some hR hg
    obtain ⟨ho, hpos⟩ := hR.2 r (List.mem_append_right _ List.mem_cons_self)
    have hq := hl r (List.mem_append_right _ List.mem_cons_self)
    rw [hrv] at ho
    refine Tri.heap (H' := [(d, .cells #[.int .i64 room, bv, .map (some nb), .map (some kb), .map (some cb), .bool fails, .bool once, .int .i64 calls] 72 (0, 0))] :: [(nb, .map (encM nm) nc)] :: [(cb, .map (encM (p1 ++ (dir, rv, c) :: p2)) cc)] :: r.g :: (K ++ (rowsG pre ++ (rowsG post ++ H)))) (fun w hw => sat_cnt hw fun _ x => ?_)
      (Tri.post (vNameMore d nb kb cb q nc cc xc room calls bv fails once nm _ xm dir hn hx hv rv r.g r.qs.length _ ho hq hg W0 (K ++ (rowsG pre ++ (rowsG post ++ H))) (at_app hA)) fun v H1 h => ?_)
    · simp only [rowsG, List.map_append, List.map_cons, List.flatten_cons, List.flatten_append, List.count_append]
      omega
    · obtain ⟨dn, x, g, hdn, ho2, hv1, hH⟩ := h
      refine ⟨_, ⟨dn, x, pre ++ ⟨dir, x, g, r.qs ++ [q]⟩ :: post, hdn, hv1, ⟨?_, ?_⟩, .inr ⟨pre, r, post, x, g, rfl, hpre, hd, rfl⟩, rfl⟩, fun w hw => ?_⟩
      · rw [mput_split hp1]
        simp only [List.map_append, List.map_cons, e1, e2]
      · intro y hy
        rcases List.mem_append.1 hy with hy | hy
        · exact hR.2 y (List.mem_append_left _ hy)
        · rcases List.mem_cons.1 hy with rfl | hy
          · refine ⟨?_, by simp⟩
            show Go.Sw.Own 80 1 x g (r.qs ++ [q]).length ((r.qs ++ [q]).map _)
            rw [List.map_append, List.length_append]; exact ho2
          · exact hR.2 y (List.mem_append_right _ (List.mem_cons_of_mem _ hy))
      · rw [hH] at hw
        refine sat_cnt hw fun _ x => ?_
        simp only [rowsG, List.map_append, List.map_cons, List.flatten_cons, List.flatten_append, List.count_append]
        omega
end Go.Proofs.YtlaoeiaaeifidaaGreat
namespace Go.Proofs.YtlaoeiaaeifidaaGreat
open Go Go.ChangeShapes Go.WideShapes Go.ChangeAt Go.RowKit Go.Sw
theorem ownKnob_ : ownKnob Tryz.prog.godebug = none := by kernel_rfl
theorem sat_nil (W : World) : Sat W [] W := ⟨Below.refl _ _, by simp, by simp, by simp⟩
end Go.Proofs.YtlaoeiaaeifidaaGreat
namespace Go.Vf
open Go.Sw Go.Proofs.YtlaoeiaaeifidaaGreat
instance : LawfulBEq ByteArray := { eq_of_beq := fun h => baEq.1 h, rfl := baEq.2 rfl }
structure Body where
  now : ByteArray
  kept : ByteArray
instance : Inhabited Body := ⟨⟨ByteArray.mk #[], ByteArray.mk #[]⟩⟩
abbrev Nm := ByteArray × Int
structure Ch where
  dir : ByteArray
  l : List Nm
structure DM where
  room : Int
  bodies : List Body
  names : List Nm
  kept : List Nm
  changes : List Ch
  fails : Bool
  once : Bool
  calls : Int
def newM (room : Int) : DM := ⟨if 0 > room then 0 else room, [], [], [], [], false, false, 0⟩
def lookN : List Nm → ByteArray → Option Int
  | [], _ => none
  | n :: r, p => if p == n.1 then some n.2 else lookN r p
def withN (l : List Nm) (x : Nm) : List Nm := l.filter (fun n => !(x.1 == n.1)) ++ (if 0 ≤ x.2 then [x] else [])
def applyN (l : List Nm) (c : List Nm) : List Nm := c.foldl withN l
def bodyAt (M : DM) (k : Int) : Body := M.bodies.getD k.toNat default
def sizeAt (M : DM) (k : Int) : Nat := (bodyAt M k).now.size
def usedM (M : DM) : Nat := (M.names.map fun x => sizeAt M x.2).sum
def callM (M : DM) (right : Bool) : DM := { M with fails := (callS M.fails M.once M.calls right).2.1, calls := (callS M.fails M.once M.calls right).2.2 }
def errM (M : DM) (right : Bool) : Int := (callS M.fails M.once M.calls right).1
def changeM (M : DM) (dir : ByteArray) (l : List Nm) : DM := { M with names := applyN M.names l, changes := M.changes ++ [⟨dir, l⟩] }
def wasM (M : DM) (p : ByteArray) : Nat := match lookN M.names p with | none => 0 | some k => sizeAt M k
def writeM (M : DM) (p b : ByteArray) : Int × DM :=
  if errM M (rightB p) ≠ 0 then (errM M (rightB p), callM M (rightB p))
  else if (usedM M : Int) - (wasM M p : Int) + (b.size : Int) > M.room then (61, callM M (rightB p))
  else (0, changeM { callM M (rightB p) with bodies := M.bodies ++ [⟨b, ByteArray.mk #[]⟩] } (dirB p) [(p, (M.bodies.length : Int))])
def setBody (M : DM) (k : Int) (b : Body) : DM := { M with bodies := M.bodies.set k.toNat b }
def appendM (M : DM) (p b : ByteArray) : Int × DM :=
  if errM M (rightB p) ≠ 0 then (errM M (rightB p), callM M (rightB p))
  else match lookN M.names p with
    | none => (60, callM M (rightB p))
    | some k => if (usedM M : Int) + (b.size : Int) > M.room then (61, callM M (rightB p)) else (0, setBody (callM M (rightB p)) k ⟨(bodyAt M k).now ++ b, (bodyAt M k).kept⟩)
def readM (M : DM) (p : ByteArray) : ByteArray × Int :=
  match lookN M.names p with
  | none => (ByteArray.mk #[], 60)
  | some k => ((bodyAt M k).now, 0)
def renR (p q : ByteArray) : Bool := (rightB p && rightB q) && ((dirB p).toList == (dirB q).toList)
def renameM (M : DM) (p q : ByteArray) : Int × DM :=
  if errM M (renR p q) ≠ 0 then (errM M (renR p q), callM M (renR p q))
  else match lookN M.names p with
    | none => (60, callM M (renR p q))
    | some k => (0, if p == q then callM M (renR p q) else changeM (callM M (renR p q)) (dirB q) [(p, -1), (q, k)])
def removeM (M : DM) (p : ByteArray) : Int × DM :=
  if errM M (rightB p) ≠ 0 then (errM M (rightB p), callM M (rightB p))
  else match lookN M.names p with
    | none => (60, callM M (rightB p))
    | some _ => (0, changeM (callM M (rightB p)) (dirB p) [(p, -1)])
def syncM (M : DM) (p : ByteArray) : Int × DM :=
  if errM M (rightB p) ≠ 0 then (errM M (rightB p), callM M (rightB p))
  else match lookN M.names p with
    | none => (60, callM M (rightB p))
    | some k => (0, setBody (callM M (rightB p)) k ⟨(bodyAt M k).now, (bodyAt M k).now⟩)
def chOf (l : List Ch) (d : ByteArray) : List (List Nm) := (l.filter fun c => d == c.dir).map (·.l)
def dirR (d : ByteArray) : Bool := (d.toList == (ByteArray.mk #[]).toList) || partB d
def syncDirM (M : DM) (d : ByteArray) : Int × DM :=
  if errM M (dirR d) ≠ 0 then (errM M (dirR d), callM M (dirR d))
  else (0, { callM M (dirR d) with kept := (chOf M.changes d).foldl applyN M.kept, changes := M.changes.filter fun c => !(d == c.dir) })
def failM (M : DM) (calls : Int) (once : Bool) : DM := { M with fails := true, once := once, calls := if 0 > calls then 0 else calls }
def onceL : List ByteArray → List ByteArray
  | [] => []
  | x :: r => if x ∈ onceL r then onceL r else x :: onceL r
def dirsOf (l : List Ch) : List ByteArray := sortB (onceL (l.map (·.dir)))
def crashB : List Body → List Int → List Body × List Int
  | [], l => ([], l)
  | b :: r, l =>
    if (b.now.size : Int) - (b.kept.size : Int) > 0 then
      let x := b.now.extract 0 (b.kept.size + (nextK (l.headD 0) ((b.now.size : Int) - (b.kept.size : Int) + 1)).toNat)
      (⟨x, x⟩ :: (crashB r (l.drop 1)).1, (crashB r (l.drop 1)).2)
    else (⟨b.kept, b.kept⟩ :: (crashB r l).1, (crashB r l).2)
def crashD (l : List Ch) : List ByteArray → List Int → List Nm → List Nm
  | [], _, K => K
  | d :: r, ks, K => crashD l r (ks.drop 1) (((chOf l d).take (nextK (ks.headD 0) (((chOf l d).length : Int) + 1)).toNat).foldl applyN K)
def crashM (M : DM) (ks : List Int) : DM :=
  { M with bodies := (crashB M.bodies ks).1, names := crashD M.changes (dirsOf M.changes) (crashB M.bodies ks).2 M.kept, kept := crashD M.changes (dirsOf M.changes) (crashB M.bodies ks).2 M.kept, changes := [], fails := false }
end Go.Vf
namespace Go.Vf
open Go.Sw
inductive All2 {α β : Type} (R : α → β → Prop) : List α → List β → Prop
  | nil : All2 R [] []
  | cons {a : α} {b : β} {l : List α} {m : List β} (h : R a b) (t : All2 R l m) : All2 R (a :: l) (b :: m)
theorem All2.len {α β : Type} {R : α → β → Prop} {l : List α} {m : List β} (h : All2 R l m) : l.length = m.length := by
  induction h with
  | nil => rfl
  | cons _ _ ih => simp [ih]
theorem All2.imp {α β : Type} {R R' : α → β → Prop} {l : List α} {m : List β} (h : All2 R l m) (hi : ∀ a b, R a b → R' a b) : All2 R' l m := by
  induction h with
  | nil => exact .nil
  | cons h _ ih => exact .cons (hi _ _ h) ih
theorem All2.app {α β : Type} {R : α → β → Prop} {l l' : List α} {m m' : List β} (h : All2 R l m) (h' : All2 R l' m') : All2 R (l ++ l') (m ++ m') := by
  induction h with
  | nil => exact h'
  | cons h _ ih => exact .cons h ih
theorem All2.take {α β : Type} {R : α → β → Prop} {l : List α} {m : List β} (h : All2 R l m) : ∀ n : Nat, All2 R (l.take n) (m.take n) := by
  induction h with
  | nil => intro n; simp; exact .nil
  | cons h _ ih =>
    intro n
    cases n with
    | zero => exact .nil
    | succ n => exact .cons h (ih n)
theorem All2.get {α β : Type} {R : α → β → Prop} {l : List α} {m : List β} (h : All2 R l m) (da : α) (db : β) : ∀ i : Nat, i < l.length → R (l.getD i da) (m.getD i db) := by
  induction h with
  | nil => intro i h; simp at h
  | cons h _ ih =>
    intro i hi
    cases i with
    | zero => exact h
    | succ i => exact ih i (by simpa using hi)
theorem All2.set {α β : Type} {R : α → β → Prop} {l : List α} {m : List β} (h : All2 R l m) {a : α} {b : β} (hab : R a b) : ∀ i : Nat, All2 R (l.set i a) (m.set i b) := by
  induction h with
  | nil => intro i; exact .nil
  | cons h t ih =>
    intro i
    cases i with
    | zero => exact .cons hab t
    | succ i => exact .cons h (ih i)
theorem nodup_of_map {α β : Type} {f : α → β} {l : List α} (h : (l.map f).Nodup) : l.Nodup := List.Pairwise.of_map f (fun _ _ h e => h (congrArg f e)) h
theorem lookN_none {l : List Nm} {p : ByteArray} : lookN l p = none ↔ ∀ n ∈ l, (p == n.1) = false := by
  induction l with
  | nil => simp [lookN]
  | cons n l ih =>
    rw [lookN]
    cases h : p == n.1
    · simp only [Bool.false_eq_true, if_false, ih]
      exact ⟨fun h2 x hx => by rcases List.mem_cons.1 hx with rfl | hx; exact h; exact h2 x hx, fun h2 x hx => h2 x (List.mem_cons_of_mem _ hx)⟩
    · simp only [if_true, reduceCtorEq, false_iff]
      intro h2; rw [h2 n List.mem_cons_self] at h; cases h
theorem lookN_mem {l : List Nm} {p : ByteArray} {k : Int} (h : lookN l p = some k) : (p, k) ∈ l := by
  induction l with
  | nil => cases h
  | cons n l ih =>
    rw [lookN] at h
    split at h
    · rename_i hk
      injection h with h; subst h
      rw [baEq] at hk; subst hk
      exact List.mem_cons_self
    · exact List.mem_cons_of_mem _ (ih h)
theorem lookN_of {l : List Nm} {p : ByteArray} {k : Int} (hn : (l.map Prod.fst).Nodup) (h : (p, k) ∈ l) : lookN l p = some k := by
  induction l with
  | nil => cases h
  | cons n l ih =>
    rw [List.map_cons, List.nodup_cons] at hn
    rw [lookN]
    rcases List.mem_cons.1 h with rfl | h
    · rw [if_pos (baEq.2 rfl)]
    · rw [if_neg, ih hn.2 h]
      intro hk
      rw [baEq] at hk
      exact hn.1 (List.mem_map.2 ⟨(p, k), h, hk⟩)
theorem lookN_app {l r : List Nm} {p : ByteArray} : lookN (l ++ r) p = (lookN l p).or (lookN r p) := by
  induction l with
  | nil => simp [lookN]
  | cons n l ih =>
    rw [List.cons_append, lookN, lookN]
    split
    · simp
    · exact ih
theorem lookN_filter {l : List Nm} {p q : ByteArray} : lookN (l.filter fun n => !(q == n.1)) p = if p == q then none else lookN l p := by
  induction l with
  | nil => simp [lookN]
  | cons n l ih =>
    rw [List.filter_cons]
    cases hq : q == n.1
    · simp only [Bool.not_false, if_true]
      rw [lookN, lookN, ih]
      cases hp : p == n.1
      · simp
      · simp only [if_true]
        rw [baEq] at hp; subst hp
        rw [if_neg]
        intro h; rw [baEq] at h; rw [baNe] at hq; exact hq h.symm
    · simp only [Bool.not_true, Bool.false_eq_true, if_false]
      rw [ih, lookN]
      rw [baEq] at hq; subst hq
      cases hp : p == n.1 <;> simp
theorem lookN_with {l : List Nm} {x : Nm} {p : ByteArray} : lookN (withN l x) p = if p == x.1 then (if 0 ≤ x.2 then some x.2 else none) else lookN l p := by
  unfold withN
  rw [lookN_app, lookN_filter]
  cases h : p == x.1
  · simp only [Bool.false_eq_true, if_false]
    split
    · rw [lookN, h]; simp [lookN]
    · simp [lookN]
  · simp only [if_true, Option.none_or]
    split
    · rw [lookN, h]; simp
    · simp [lookN]
theorem nodup_with {l : List Nm} {x : Nm} (h : (l.map Prod.fst).Nodup) : ((withN l x).map Prod.fst).Nodup := by
  unfold withN
  rw [List.map_append, List.nodup_append]
  refine ⟨h.sublist (List.Sublist.map _ List.filter_sublist), ?_, ?_⟩
  · split <;> simp
  · intro a ha b hb
    split at hb
    · simp only [List.map_cons, List.map_nil, List.mem_singleton] at hb
      obtain ⟨n, hn, rfl⟩ := List.mem_map.1 ha
      have := (List.mem_filter.1 hn).2
      subst hb
      intro he
      rw [he] at this
      simp at this
    · cases hb
theorem mem_with {l : List Nm} {x y : Nm} (h : y ∈ withN l x) : y ∈ l ∨ (y = x ∧ 0 ≤ x.2) := by
  unfold withN at h
  rcases List.mem_append.1 h with h | h
  · exact .inl (List.mem_filter.1 h).1
  · split at h
    · rename_i hx; exact .inr ⟨List.mem_singleton.1 h, hx⟩
    · cases h
theorem lookN_apply {c : List Nm} : ∀ {l : List Nm} {p : ByteArray}, (c.map Prod.fst).Nodup → lookN (applyN l c) p = match lookN c p with | none => lookN l p | some k => if 0 ≤ k then some k else none := by
  induction c with
  | nil => intro l p _; rfl
  | cons x c ih =>
    intro l p hn
    rw [List.map_cons, List.nodup_cons] at hn
    show lookN (applyN (withN l x) c) p = _
    rw [ih hn.2, lookN_with, lookN]
    cases h : p == x.1
    · simp
    · simp only [if_true]
      have : lookN c p = none := lookN_none.2 fun n hm => by
        rw [baEq] at h; subst h
        rw [baNe]; intro he
        exact hn.1 (List.mem_map.2 ⟨n, hm, he.symm⟩)
      rw [this]
theorem nodup_apply {c : List Nm} : ∀ {l : List Nm}, (l.map Prod.fst).Nodup → ((applyN l c).map Prod.fst).Nodup := by
  induction c with
  | nil => intro l h; exact h
  | cons x c ih => intro l h; exact ih (nodup_with h)
theorem mem_apply {c : List Nm} : ∀ {l : List Nm} {y : Nm}, y ∈ applyN l c → y ∈ l ∨ (y ∈ c ∧ 0 ≤ y.2) := by
  induction c with
  | nil => intro l y h; exact .inl h
  | cons x c ih =>
    intro l y h
    rcases ih (l := withN l x) h with h | h
    · rcases mem_with h with h | ⟨rfl, h⟩
      · exact .inl h
      · exact .inr ⟨List.mem_cons_self, h⟩
    · exact .inr ⟨List.mem_cons_of_mem _ h.1, h.2⟩
theorem mget_mem {m : SM} {p : ByteArray} {v : Value} (h : mget m p = some v) : ∃ c, (p, v, c) ∈ m := by
  obtain ⟨pre, c, post, rfl, _⟩ := mget_split h
  exact ⟨c, List.mem_append_right _ List.mem_cons_self⟩
theorem mget_of {m : SM} {p : ByteArray} {v : Value} {c : Nat} (hn : (m.map Prod.fst).Nodup) (h : (p, v, c) ∈ m) : mget m p = some v := by
  induction m with
  | nil => cases h
  | cons n m ih =>
    rw [List.map_cons, List.nodup_cons] at hn
    rw [mget_cons]
    rcases List.mem_cons.1 h with rfl | h
    · rw [if_pos (baEq.2 rfl)]
    · rw [if_neg, ih hn.2 h]
      intro hk
      rw [baEq] at hk
      exact hn.1 (List.mem_map.2 ⟨(p, v, c), h, hk⟩)
theorem _root_.Go.Sw.MapOk.nodup {m : SM} {c : Nat} (h : MapOk m c) : (m.map Prod.fst).Nodup := pw_keys.1 h.keys
theorem mget_perm {m m' : SM} (h : m.Perm m') (hn : (m.map Prod.fst).Nodup) (p : ByteArray) : mget m p = mget m' p := by
  have hn' : (m'.map Prod.fst).Nodup := (h.map _).nodup_iff.1 hn
  cases h1 : mget m p with
  | none =>
    refine (mget_none.2 fun e he => ?_).symm
    exact mget_none.1 h1 e (h.mem_iff.2 he)
  | some v =>
    obtain ⟨c, hm⟩ := mget_mem h1
    exact (mget_of hn' (h.mem_iff.1 hm)).symm
theorem mget_put {m : SM} {c : Nat} {k p : ByteArray} {v : Value} : mget (mput m c k v) p = if p == k then some v else mget m p := by
  induction m with
  | nil =>
    rw [mput, mget_cons]
  | cons e m ih =>
    rw [mput]
    cases hk : k == e.1
    · simp only [Bool.false_eq_true, if_false]
      rw [mget_cons, mget_cons, ih]
      cases hp : p == e.1
      · simp
      · simp only [if_true]
        rw [baEq] at hp; subst hp
        rw [if_neg]
        intro h; rw [baEq] at h; rw [baNe] at hk; exact hk h.symm
    · simp only [if_true]
      rw [mget_cons, mget_cons]
      rw [baEq] at hk; subst hk
      cases hp : p == e.1 <;> simp
theorem mget_del {m : SM} {k p : ByteArray} (hn : (m.map Prod.fst).Nodup) : mget (mdel m k) p = if p == k then none else mget m p := by
  induction m with
  | nil => rw [mdel]; split <;> rfl
  | cons e m ih =>
    rw [List.map_cons, List.nodup_cons] at hn
    rw [mdel]
    cases hk : k == e.1
    · simp only [Bool.false_eq_true, if_false]
      rw [mget_cons, mget_cons, ih hn.2]
      cases hp : p == e.1
      · simp
      · simp only [if_true]
        rw [baEq] at hp; subst hp
        rw [if_neg]
        intro h; rw [baEq] at h; rw [baNe] at hk; exact hk h.symm
    · simp only [if_true]
      rw [mget_cons]
      rw [baEq] at hk; subst hk
      cases hp : p == e.1
      · simp
      · simp only [if_true]
        rw [baEq] at hp; subst hp
        exact mget_none.2 fun x hx => by
          rw [baNe]; intro he
          exact hn.1 (List.mem_map.2 ⟨x, hx, he.symm⟩)
def nilV : Value → Bool
  | .pointer none => true
  | _ => false
theorem mget_st {s : SM × Nat} {e : ByteArray × Value × Nat} {p : ByteArray} (hn : (s.1.map Prod.fst).Nodup) : mget (stS s e).1 p = if p == e.1 then (if nilV e.2.1 then none else some e.2.1) else mget s.1 p := by
  unfold stS
  split
  · rename_i h
    rw [mget_del hn, h]; rfl
  · rename_i v h
    rw [mget_put]
    have : nilV e.2.1 = false := by
      cases hv : nilV e.2.1
      · rfl
      · exfalso
        unfold nilV at hv
        split at hv
        · rename_i h2; exact h h2
        · cases hv
    rw [this]; rfl
theorem mget_fold {dn : SM} : ∀ {s : SM × Nat} {p : ByteArray}, MapOk s.1 s.2 → (dn.map Prod.fst).Nodup → mget (foldS s dn).1 p = match mget dn p with | none => mget s.1 p | some v => if nilV v then none else some v := by
  induction dn with
  | nil => intro s p _ _; rfl
  | cons e dn ih =>
    intro s p hs hn
    rw [List.map_cons, List.nodup_cons] at hn
    show mget (foldS (stS s e) dn).1 p = _
    rw [ih (hs.st e) hn.2, mget_st hs.nodup, mget_cons]
    cases h : p == e.1
    · simp
    · simp only [if_true]
      have : mget dn p = none := mget_none.2 fun n hm => by
        rw [baEq] at h; subst h
        rw [baNe]; intro he
        exact hn.1 (List.mem_map.2 ⟨n, hm, he.symm⟩)
      rw [this]
def ptrV (q : Nat) : Value := .pointer (some ⟨q, 0, none⟩)
def ptrOf (ps : List Nat) (k : Int) : Value := ptrV (ps.getD k.toNat 0)
def chV (ps : List Nat) (k : Int) : Value := if 0 ≤ k then ptrOf ps k else .pointer none
theorem chV_nil (ps : List Nat) (k : Int) : nilV (chV ps k) = !decide (0 ≤ k) := by
  unfold chV
  split
  · rename_i h; simp [ptrOf, ptrV, nilV, h]
  · rename_i h; simp [nilV, h]
structure NamesR (ps : List Nat) (nm : SM) (names : List Nm) : Prop where
  look : ∀ p, mget nm p = (lookN names p).map (ptrOf ps)
  keys : (names.map Prod.fst).Nodup
  lt : ∀ x ∈ names, 0 ≤ x.2 ∧ x.2.toNat < ps.length
structure ChangeR (ps : List Nat) (x : SM) (l : List Nm) : Prop where
  look : ∀ p, mget x p = (lookN l p).map (chV ps)
  keys : (l.map Prod.fst).Nodup
  lt : ∀ y ∈ l, 0 ≤ y.2 → y.2.toNat < ps.length
theorem ptrOf_mono {ps : List Nat} {q : Nat} {k : Int} (h : k.toNat < ps.length) : ptrOf (ps ++ [q]) k = ptrOf ps k := by
  unfold ptrOf
  rw [List.getD_eq_getElem?_getD, List.getD_eq_getElem?_getD, List.getElem?_append_left h]
theorem NamesR.mono {ps : List Nat} {nm : SM} {names : List Nm} (h : NamesR ps nm names) (q : Nat) : NamesR (ps ++ [q]) nm names := by
  refine ⟨fun p => ?_, h.keys, fun x hx => ⟨(h.lt x hx).1, by have := (h.lt x hx).2; simp; omega⟩⟩
  rw [h.look p]
  cases hl : lookN names p with
  | none => rfl
  | some k => simp only [Option.map_some]; rw [ptrOf_mono (h.lt _ (lookN_mem hl)).2]
theorem ChangeR.mono {ps : List Nat} {x : SM} {l : List Nm} (h : ChangeR ps x l) (q : Nat) : ChangeR (ps ++ [q]) x l := by
  refine ⟨fun p => ?_, h.keys, fun y hy h0 => by have := h.lt y hy h0; simp; omega⟩
  rw [h.look p]
  cases hl : lookN l p with
  | none => rfl
  | some k =>
    simp only [Option.map_some]
    unfold chV
    split
    · rename_i h0; rw [ptrOf_mono (h.lt _ (lookN_mem hl) h0)]
    · rfl
theorem names_apply {ps : List Nat} {nm x dn : SM} {nc xc : Nat} {names l : List Nm} (h : NamesR ps nm names) (hn : MapOk nm nc) (hx : MapOk x xc) (hc : ChangeR ps x l) (hd : dn.Perm x) :
    NamesR ps (foldS (nm, nc) dn).1 (applyN names l) := by
  have hdn : (dn.map Prod.fst).Nodup := (hd.map _).nodup_iff.2 hx.nodup
  refine ⟨fun p => ?_, nodup_apply h.keys, fun y hy => ?_⟩
  · rw [mget_fold hn hdn, mget_perm hd hdn, hc.look, lookN_apply hc.keys]
    cases hl : lookN l p with
    | none => exact h.look p
    | some k =>
      simp only [Option.map_some]
      rw [chV_nil]
      by_cases h0 : 0 ≤ k
      · simp [h0, chV]
      · simp [h0]
  · rcases mem_apply hy with hy | ⟨hy, h0⟩
    · exact h.lt y hy
    · exact ⟨h0, hc.lt y hy h0⟩
theorem names_made {ps : List Nat} : ∀ {xs : List SM} {ls : List (List Nm)} {nm nm' : SM} {nc nc' : Nat} {names : List Nm}, NamesR ps nm names → MapOk nm nc → All2 (fun x l => (∃ c, MapOk x c) ∧ ChangeR ps x l) xs ls →
    MadeOf xs (nm, nc) (nm', nc') → NamesR ps nm' (ls.foldl applyN names)
  | [], [], _, _, _, _, _, h, _, .nil, hm => by
    injection (show (_, _) = (_, _) from hm) with e1 e2
    subst e1; exact h
  | x :: xs, l :: ls, nm, nm', nc, nc', names, h, hn, .cons ⟨⟨c, hx⟩, hc⟩ hr, ⟨dn, hd, hm⟩ => by
    exact names_made (ls := ls) (nc := (foldS (nm, nc) dn).2) (names_apply h hn hx hc hd) (MapOk.fold (s := (nm, nc)) hn dn) hr hm
theorem names_perm {ps : List Nat} {nm : SM} {nc : Nat} {names : List Nm} (h : NamesR ps nm names) (hn : MapOk nm nc) : (nm.map fun e => (e.1, e.2.1)).Perm (names.map fun x => (x.1, ptrOf ps x.2)) := by
  have n1 : ((nm.map fun e => (e.1, e.2.1)).map Prod.fst).Nodup := by rw [List.map_map]; exact hn.nodup
  have n2 : ((names.map fun x => (x.1, ptrOf ps x.2)).map Prod.fst).Nodup := by rw [List.map_map]; exact h.keys
  refine (List.perm_ext_iff_of_nodup (nodup_of_map n1) (nodup_of_map n2)).2 fun a => ?_
  obtain ⟨p, v⟩ := a
  constructor
  · intro ha
    obtain ⟨⟨k, u, c⟩, he, h2⟩ := List.mem_map.1 ha
    injection h2 with e1 e2
    simp only at e1 e2
    subst e1 e2
    have := mget_of hn.nodup he
    rw [h.look] at this
    cases hl : lookN names k with
    | none => rw [hl] at this; cases this
    | some i =>
      rw [hl] at this
      injection this with this
      exact List.mem_map.2 ⟨(k, i), lookN_mem hl, by rw [← this]⟩
  · intro ha
    obtain ⟨⟨k, i⟩, he, h2⟩ := List.mem_map.1 ha
    injection h2 with e1 e2
    simp only at e1 e2
    subst e1 e2
    have hl := lookN_of h.keys he
    have := h.look k
    rw [hl] at this
    obtain ⟨c, hm⟩ := mget_mem this
    exact List.mem_map.2 ⟨_, hm, rfl⟩
end Go.Vf
namespace Go.Vf
open Go.Sw Go.RowKit Go.Proofs Go.Proofs.YtlaoeiaaeifidaaGreat
def Sh (a : Option Addr) (n cap : Nat) : Prop := (a = none ∧ n = 0 ∧ cap = 0) ∨ (∃ ad, a = some ad ∧ n = 0) ∨ ∃ k off, a = some ⟨k, off, none⟩
theorem flat_nil' {W0 : World} {A B : List Grp} {w : World} (h : Sat W0 (A ++ B) w) : Sat W0 (A ++ [] :: B) w := h.flat (by rw [List.flatten_append, List.flatten_append, List.flatten_cons, List.nil_append])
theorem vCloneO (a : Option Addr) (n cap : Nat) (S : Nat → Obj → Prop) (l : List UInt8) (hsh : Sh a n cap) (hrd : Rd S a (u8s l)) (hl : l.length = n) (hn : n ≤ 1000000000) (W0 : World) (H : List Grp) (hS : ∀ y o, S y o → At W0 H y o) :
    Tri Tryz.prog 36 #[.slice a n cap] W0 H (fun v H' => ∃ g, Go.Sw.Own 5 1 v g n (u8s l) ∧ H' = g :: H) := by
  have h0 : n = 0 → l = [] := fun h => List.eq_nil_of_length_eq_zero (by omega)
  rcases hsh with ⟨rfl, rfl, rfl⟩ | ⟨ad, rfl, rfl⟩ | ⟨k, off, rfl⟩
  · rw [h0 rfl]
    refine Tri.post (vCloneNil W0 H) fun v H1 ⟨hv, hH⟩ => ⟨_, ⟨[], by rw [hv]; exact Go.Sw.Own.nil, rfl⟩, fun w hw => ?_⟩
    rw [hH] at hw
    exact flat_nil' (A := []) hw
  · rw [h0 rfl]
    exact vCloneE ad cap W0 H
  · exact vClone k off n cap S l hrd hl hn W0 H hS
end Go.Vf
namespace Go.Proofs.YtlaoeiaaeifidaaGreat
open Go.Sw Go.Lib Go.Vf Go.RowKit
set_option maxHeartbeats 1000000 in
theorem vWriteAny (d nb kb cb nc cc : Nat) (room calls : Int) (bv : Value) (bg : Grp) (ps : List Value) (m : Nat) (fails once : Bool) (nm cm : SM) (path : ByteArray) (szf : Value → Nat) (hpath : path.size ≤ 9223372036854775807) (hca : -9223372036854775808 ≤ calls ∧ calls ≤ 9223372036854775807) (hn : MapOk nm nc) (hs : sumN szf nm ≤ 1000000000000) (hw : ∀ v, mget nm path = some v → szf v ≤ 1000000000000) (hO : Go.Sw.Own 74 1 bv bg m ps) (hm : m ≤ 1000000) (rows : List RW) (hR : RowsOk cm rows) (hl : ∀ r ∈ rows, r.qs.length ≤ 1000000) (ao : Option Addr) (n cap : Nat) (S : Nat → Obj → Prop) (l : List UInt8) (hsh : Sh ao n cap) (hrd : Rd S ao (u8s l)) (hl1 : l.length = n) (hn1 : n ≤ 1000000000) (W0 : World) (H : List Grp) (hg : mget nm path = none ∨ ∃ p a c kv, mget nm path = some (.pointer (some ⟨p, 0, none⟩)) ∧ At W0 (rowsG rows ++ H) p (.cells #[.slice a (szf (.pointer (some ⟨p, 0, none⟩))) c, kv] 76 (0, 0))) (hS : ∀ y o, S y o → At W0 (rowsG rows ++ H) y o) (hB : ∀ e ∈ nm, ∃ p a c kv, e.2.1 = .pointer (some ⟨p, 0, none⟩) ∧ At W0 (rowsG rows ++ H) p (.cells #[.slice a (szf e.2.1) c, kv] 76 (0, 0))) : Tri Tryz.prog 9 #[pt d, .string path, .slice ao n cap] W0 ([(d, .cells #[.int .i64 room, bv, .map (some nb), .map (some kb), .map (some cb), .bool fails, .bool once, .int .i64 calls] 72 (0, 0))] :: [(nb, .map (encM nm) nc)] :: [(cb, .map (encM cm) cc)] :: bg :: (rowsG rows ++ H)) (fun v H' => ((callS fails once calls (rightB path)).1 ≠ 0 ∧ v = .int .i64 (callS fails once calls (rightB path)).1 ∧ H' = ([(d, .cells #[.int .i64 room, bv, .map (some nb), .map (some kb), .map (some cb), .bool ((callS fails once calls (rightB path)).2.1), .bool once, .int .i64 ((callS fails once calls (rightB path)).2.2)] 72 (0, 0))] :: [(nb, .map (encM nm) nc)] :: [(cb, .map (encM cm) cc)] :: bg :: (rowsG rows ++ H))) ∨ ((callS fails once calls (rightB path)).1 = 0 ∧ ((sumN szf nm : Nat) : Int) - (((match mget nm path with | none => 0 | some v => szf v) : Nat) : Int) + (n : Int) > room ∧ v = .int .i64 61 ∧ H' = ([(d, .cells #[.int .i64 room, bv, .map (some nb), .map (some kb), .map (some cb), .bool ((callS fails once calls (rightB path)).2.1), .bool once, .int .i64 ((callS fails once calls (rightB path)).2.2)] 72 (0, 0))] :: [(nb, .map (encM nm) nc)] :: [(cb, .map (encM cm) cc)] :: bg :: (rowsG rows ++ H))) ∨ ((callS fails once calls (rightB path)).1 = 0 ∧ ¬ ((sumN szf nm : Nat) : Int) - (((match mget nm path with | none => 0 | some v => szf v) : Nat) : Int) + (n : Int) > room ∧ v = .int .i64 0 ∧ ∃ p q a1 c1 a2 c2 x rows1 g1 bg2, Go.Sw.Own 5 1 (.slice a1 n c1) g1 n (u8s l) ∧ Go.Sw.Own 74 1 (.slice a2 (m + 1) c2) bg2 (m + 1) (ps ++ [.pointer (some ⟨p, 0, none⟩)]) ∧ RowsOk (mput cm cc (dirB path) x) rows1 ∧ RowsAdd rows (dirB path) q rows1 ∧ H' = [(d, .cells #[.int .i64 room, .slice a2 (m + 1) c2, .map (some nb), .map (some kb), .map (some cb), .bool (callS fails once calls (rightB path)).2.1, .bool once, .int .i64 (callS fails once calls (rightB path)).2.2] 72 (0, 0))] :: [(nb, .map (encM (foldS (nm, nc) [(path, .pointer (some ⟨p, 0, none⟩), 0)]).1) (foldS (nm, nc) [(path, .pointer (some ⟨p, 0, none⟩), 0)]).2)] :: [(cb, .map (encM (mput cm cc (dirB path) x)) (if mhas cm (dirB path) then cc else cc + 1))] :: [(q, .map (encM [(path, .pointer (some ⟨p, 0, none⟩), 0)]) 1)] :: bg2 :: [(p, .cells #[.slice a1 n c1, .slice none 0 0] 76 (0, 0))] :: g1 :: (rowsG rows1 ++ H))) := by
 refine Tri_of (args := [pt d, .string path, .slice ao n cap]) (n := 65) Tryz.func9 rfl rfl (Nat.le_of_ble_eq_true rfl) ?_
 refine G_seq ?_
 refine G_pure (E':=[⟨0,[],pt d⟩,⟨1,[],.string path⟩,⟨2,[],.slice ao n cap⟩]) [0] [0,1,2] rfl kr ?_
 refine N_then ?_
 refine G_seq ?_
 refine G_seq ?_
 refine G_region ?_
 refine GL_pure (E':=[⟨12,[],.string path⟩,⟨11,[],pt d⟩,⟨0,[],pt d⟩,⟨1,[],.string path⟩,⟨2,[],.slice ao n cap⟩]) [0,0] kr (j:=2) rfl ?_
 refine GL_callQ (i:=2) (ch:=[]) (f:=34) (fst:=#[]) (caps:=#[]) (vs:=[.string path]) (v:=.bool (rightB path)) rfl rfl rfl kr kr Tryz.func34 rfl rfl kr kr kr (fun _=>vfsRight _ hpath _ _) ?_
 refine GL_call (i:=3) (ch:=[]) (f:=33) (fst:=#[]) (caps:=#[]) (vs:=[pt d,.bool (rightB path)]) rfl rfl rfl kr kr Tryz.func33 rfl rfl kr kr (chSure_of kr) (vCall d nb kb cb room calls bv fails once (rightB path) hca _ _) ?_
 rintro v H' ⟨rfl, rfl⟩
 refine GL_fin (E':=[⟨0,[],pt d⟩,⟨1,[],.string path⟩,⟨2,[],.slice ao n cap⟩,⟨7,[],.int .i64 ((callS fails once calls (rightB path)).1)⟩]) [0] [0,1,2,7] rfl kr ?_
 refine N_then ?_
 refine G_seq ?_
 refine G_pure (E':=[⟨0,[],pt d⟩,⟨1,[],.string path⟩,⟨2,[],.slice ao n cap⟩,⟨7,[],.int .i64 ((callS fails once calls (rightB path)).1)⟩,⟨16,[],.bool (((callS fails once calls (rightB path)).1) != 0)⟩]) [0,0] [0,1,2,7,16] rfl kr ?_
 refine N_then ?_
 refine G_cond (b:=((callS fails once calls (rightB path)).1) != 0) kr (fun hc1=>?_) (fun hc1=>?_)
 ·
  have hce : (callS fails once calls (rightB path)).1 ≠ 0 := by simpa using hc1
  refine G_seq ?_
  refine G_pure (E':=[⟨6,[],.int .i64 ((callS fails once calls (rightB path)).1)⟩]) [0,0] [6] rfl kr ?_
  refine N_then ?_
  refine G_ret ?_
  refine N_then_ret ?_
  refine N_ret [.tmp 6] [.int .i64 ((callS fails once calls (rightB path)).1)] rfl kr rfl ?_
  exact .inl ⟨hce, rfl, rfl⟩
 ·
  have hce : (callS fails once calls (rightB path)).1 = 0 := by simpa using hc1
  refine G_skip ?_
  refine N_then ?_
  refine G_seq ?_
  refine G_pure (E':=[⟨0,[],pt d⟩,⟨1,[],.string path⟩,⟨2,[],.slice ao n cap⟩,⟨8,[],.int .i64 0⟩]) [0] [0,1,2,8] rfl kr ?_
  refine N_then ?_
  refine G_seq ?_
  refine G_seq ?_
  refine G_region ?_
  refine GL_pure (E':=[⟨20,[],.pointer (some ⟨d,2,none⟩)⟩,⟨0,[],pt d⟩,⟨1,[],.string path⟩,⟨2,[],.slice ao n cap⟩,⟨8,[],.int .i64 0⟩]) [0,0,0] kr (j:=3) rfl ?_
  refine GL_load (i:=3) (ch:=[]) (b:=d) (off:=2) (v:=.map (some nb)) rfl rfl kr kr kr kr kr (At.grp 0 0 rfl rfl) rfl ?_
  refine GL_pure (E':=[⟨22,[],.string path⟩,⟨21,[],.map (some nb)⟩,⟨0,[],pt d⟩,⟨1,[],.string path⟩,⟨2,[],.slice ao n cap⟩,⟨8,[],.int .i64 0⟩]) [0] kr (j:=5) rfl ?_
  rcases hg with hg | ⟨p0, a0, c0, kv0, hg, hat0⟩
  ·
   refine GL_lookup (i:=5) (ch:=[]) (kt:=9) (et:=74) (r:=nb) (c:=nc) (m:=nm) (k:=path) (z:=.pointer none) (ov:=none) rfl rfl kr kr kr kr kr kr kr kr (At.grp 1 0 rfl rfl) (fun _=>hg) ?_
   refine GL_fin (E':=[⟨0,[],pt d⟩,⟨1,[],.string path⟩,⟨2,[],.slice ao n cap⟩,⟨8,[],.int .i64 0⟩,⟨9,[],.pointer none⟩]) [0] [0,1,2,8,9] rfl kr ?_
   refine N_then ?_
   refine G_seq ?_
   refine G_pure (E':=[⟨0,[],pt d⟩,⟨1,[],.string path⟩,⟨2,[],.slice ao n cap⟩,⟨8,[],.int .i64 0⟩,⟨9,[],.pointer none⟩,⟨25,[],.bool false⟩]) [0,0] [0,1,2,8,9,25] rfl kr ?_
   refine N_then ?_
   refine G_condf kr ?_
   refine G_skip ?_
   refine N_then ?_
   refine G_seq ?_
   refine G_seq ?_
   refine G_regionH ([(d,.cells #[.int .i64 room,bv,.map (some nb),.map (some kb),.map (some cb),.bool ((callS fails once calls (rightB path)).2.1),.bool once,.int .i64 ((callS fails once calls (rightB path)).2.2)] 72 (0,0))]::[(nb,.map (encM nm) nc)]::[(cb,.map (encM cm) cc)]::bg::(rowsG rows++H)) kr ?_
   refine GH_pure (E':=[⟨31,[],pt d⟩,⟨0,[],pt d⟩,⟨1,[],.string path⟩,⟨2,[],.slice ao n cap⟩,⟨8,[],.int .i64 0⟩]) 0 0 kr (fun w h=>h) kr ?_
   refine GH_pure (E':=[⟨33,[],.int .i64 0⟩,⟨31,[],pt d⟩,⟨0,[],pt d⟩,⟨1,[],.string path⟩,⟨2,[],.slice ao n cap⟩]) 2 0 kr (fun w h=>h) kr ?_
   refine GH_pure (E':=[⟨35,[],.slice ao n cap⟩,⟨33,[],.int .i64 0⟩,⟨31,[],pt d⟩,⟨0,[],pt d⟩,⟨1,[],.string path⟩,⟨2,[],.slice ao n cap⟩]) 4 0 kr (fun w h=>h) kr ?_
   refine GH_pev (v:=.int .i64 ((n : Nat) : Int)) 5 rfl rfl kr kr kr kr kr (fun w h=>h) ?_
   refine GH_pure (E':=[⟨38,[],pt d⟩,⟨36,[],.int .i64 ((n : Nat) : Int)⟩,⟨33,[],.int .i64 0⟩,⟨31,[],pt d⟩,⟨0,[],pt d⟩,⟨1,[],.string path⟩,⟨2,[],.slice ao n cap⟩]) 7 0 kr (fun w h=>h) kr ?_
   refine GH_nil (ad:=⟨d,0,none⟩) 8 rfl rfl rfl kr kr kr kr kr (fun w h=>h) ?_
   refine GH_pure (E':=[⟨40,[],pt d⟩,⟨36,[],.int .i64 ((n : Nat) : Int)⟩,⟨33,[],.int .i64 0⟩,⟨31,[],pt d⟩,⟨0,[],pt d⟩,⟨1,[],.string path⟩,⟨2,[],.slice ao n cap⟩]) 9 0 kr (fun w h=>h) kr ?_
   refine GH_take' (E':=[⟨41,[],.int .i64 room⟩,⟨40,[],pt d⟩,⟨36,[],.int .i64 ((n : Nat) : Int)⟩,⟨33,[],.int .i64 0⟩,⟨31,[],pt d⟩,⟨0,[],pt d⟩,⟨1,[],.string path⟩,⟨2,[],.slice ao n cap⟩]) 10 kr (fun w h=>h) ?_ ?_
   ·
    refine GL_load (i:=10) (ch:=[]) (b:=d) (off:=0) (v:=.int .i64 room) rfl rfl kr kr kr kr kr (At.grp 0 0 rfl rfl) rfl ?_
    exact GL_yend kr kr
   refine GH_eff 1 kr kr kr ?_
   refine GL_call (i:=1) (ch:=[]) (f:=35) (fst:=#[]) (caps:=#[]) (vs:=[pt d]) rfl rfl rfl kr kr Tryz.func35 rfl rfl kr kr (chSure_of kr) (vUsed d nb kb cb nc room ((callS fails once calls (rightB path)).2.2) bv ((callS fails once calls (rightB path)).2.1) once nm szf hn hs _ _ (fun e he=>let ⟨p,a,c,kv,h1,h2⟩:=hB e he; ⟨p,a,c,kv,h1,(At.cons (At.cons h2))⟩)) ?_
   rintro v H' ⟨rfl, rfl⟩
   refine GH_back kr (fun w h=>h) ?_
   have hw2 : IntKind.wrap .i64 (((sumN szf nm : Nat) : Int) - 0) = ((sumN szf nm : Nat) : Int) - 0 := w64 (by omega) (by omega)
   refine GH_pure (E':=[⟨34,[],.int .i64 (((sumN szf nm : Nat) : Int) - 0)⟩,⟨41,[],.int .i64 room⟩,⟨36,[],.int .i64 ((n : Nat) : Int)⟩,⟨0,[],pt d⟩,⟨1,[],.string path⟩,⟨2,[],.slice ao n cap⟩]) 3 0 kr (fun w h=>h) (Eq.trans (b:=some [⟨34,[],.int .i64 (IntKind.wrap .i64 (((sumN szf nm : Nat) : Int) - 0))⟩,⟨41,[],.int .i64 room⟩,⟨36,[],.int .i64 ((n : Nat) : Int)⟩,⟨0,[],pt d⟩,⟨1,[],.string path⟩,⟨2,[],.slice ao n cap⟩]) kr (by simp only [hw2])) ?_
   have hw3 : IntKind.wrap .i64 ((((sumN szf nm : Nat) : Int) - 0) + ((n : Nat) : Int)) = (((sumN szf nm : Nat) : Int) - 0) + ((n : Nat) : Int) := w64 (by omega) (by omega)
   refine GH_pure (E':=[⟨37,[],.int .i64 ((((sumN szf nm : Nat) : Int) - 0)+((n : Nat) : Int))⟩,⟨41,[],.int .i64 room⟩,⟨0,[],pt d⟩,⟨1,[],.string path⟩,⟨2,[],.slice ao n cap⟩]) 6 0 kr (fun w h=>h) (Eq.trans (b:=some [⟨37,[],.int .i64 (IntKind.wrap .i64 ((((sumN szf nm : Nat) : Int) - 0)+((n : Nat) : Int)))⟩,⟨41,[],.int .i64 room⟩,⟨0,[],pt d⟩,⟨1,[],.string path⟩,⟨2,[],.slice ao n cap⟩]) kr (by simp only [hw3])) ?_
   refine GH_pure (E':=[⟨42,[],.bool (decide (((((sumN szf nm : Nat) : Int) - 0)+((n : Nat) : Int)) > room))⟩,⟨0,[],pt d⟩,⟨1,[],.string path⟩,⟨2,[],.slice ao n cap⟩]) 11 0 kr (fun w h=>h) kr ?_
   refine GH_done (E':=[⟨0,[],pt d⟩,⟨1,[],.string path⟩,⟨2,[],.slice ao n cap⟩,⟨42,[],.bool (decide (((((sumN szf nm : Nat) : Int) - 0)+((n : Nat) : Int)) > room))⟩]) [0,1,2,42] kr kr ?_
   refine N_then ?_
   refine G_cond (b:=decide (((((sumN szf nm : Nat) : Int) - 0)+((n : Nat) : Int)) > room)) kr (fun hc4=>?_) (fun hc4=>?_)
   ·
    have hro := of_decide_eq_true hc4
    refine G_seq ?_
    refine G_pure (E':=[⟨6,[],.int .i64 61⟩]) [0] [6] rfl kr ?_
    refine N_then ?_
    refine G_ret ?_
    refine N_then_ret ?_
    refine N_ret [.tmp 6] [.int .i64 61] rfl kr rfl ?_
    exact .inr (.inl ⟨hce, by (simp only [hg]; exact hro), rfl, rfl⟩)
   ·
    have hro := of_decide_eq_false hc4
    refine G_skip ?_
    refine N_then ?_
    refine G_seq ?_
    refine G_region ?_
    refine GL_pure (E':=[⟨43,[],.slice ao n cap⟩,⟨0,[],pt d⟩,⟨1,[],.string path⟩]) [0] kr (j:=1) rfl ?_
    refine GL_call (i:=1) (ch:=[]) (f:=36) (fst:=#[]) (caps:=#[]) (vs:=[.slice ao n cap]) rfl rfl rfl kr kr Tryz.func36 rfl rfl kr kr (chSure_of kr) (vCloneO ao n cap S l hsh hrd hl1 hn1 _ _ (fun y o h=>(At.cons (At.cons (At.cons (At.cons (hS y o h))))))) ?_
    rintro v7 _ ⟨g5, hO6, rfl⟩
    obtain ⟨a8, cap9, rfl, hcap10, hrd11⟩ := hO6.shape
    refine GL_pure (E':=[⟨45,[],.agg #[.slice a8 n cap9,.slice none 0 0]⟩,⟨0,[],pt d⟩,⟨1,[],.string path⟩]) [0] kr (j:=3) rfl ?_
    refine GL_box (i:=3) (ch:=[]) (v:=.agg #[.slice a8 n cap9,.slice none 0 0]) rfl rfl kr kr kr kr (fun b12=>?_)
    refine GL_fin (E':=[⟨0,[],pt d⟩,⟨1,[],.string path⟩,⟨10,[],pt b12⟩]) [0] [0,1,10] rfl kr ?_
    refine N_then ?_
    refine G_seq ?_
    refine G_region ?_
    refine GL_pure (E':=[⟨50,[],.pointer (some ⟨d,1,none⟩)⟩,⟨47,[],pt d⟩,⟨0,[],pt d⟩,⟨1,[],.string path⟩,⟨10,[],pt b12⟩]) [0,0,0,0] kr (j:=4) rfl ?_
    refine GL_load (i:=4) (ch:=[]) (b:=d) (off:=1) (v:=bv) rfl rfl kr kr kr kr kr (At.grp 2 0 rfl rfl) rfl ?_
    refine GL_pure (E':=[⟨52,[],pt b12⟩,⟨51,[],bv⟩,⟨47,[],pt d⟩,⟨0,[],pt d⟩,⟨1,[],.string path⟩,⟨10,[],pt b12⟩]) [0] kr (j:=6) rfl ?_
    refine GL_buildSlice (i:=6) (ch:=[]) (e:=74) (l:=[(0,pt b12)]) (c:=[pt b12]) rfl rfl kr kr kr kr kr (fun b13=>?_)
    refine GL_append (i:=7) (ch:=[]) (t:=70) (tx:=70) (e:=74) (inf:=Tryz.t74) (s:=bv) (x:=.slice (some ⟨b13,0,none⟩) 1 1) (n:=m) (m:=1) (j:=6) (cs:=ps) (news:=[pt b12]) (g:=bg) (S:=(inG [(b13,.cells #[pt b12] 74 (0,0))])) rfl rfl rfl rfl kr kr kr rfl rfl (.inl ⟨74,kr⟩) (fun ⟨_,h⟩=>by cases h) (fun _=>⟨74,kr⟩) kr kr kr rfl hO (SrcOf.slice _ _ _ _ Rd.lit (fun h=>by cases h)) (at_inG 0 rfl) kr (by intro u hu; rcases List.mem_singleton.1 hu with rfl; rfl) (by omega) (by show (m+1) * 8 ≤ 140737488355328; omega) (fun v14 g15 hO16=>?_)
    obtain ⟨a17, cap18, rfl, hcap19, hrd20⟩ := hO16.shape
    refine GL_pure (E':=[⟨56,[],.pointer (some ⟨d,1,none⟩)⟩,⟨54,[],.slice a17 (m+1) cap18⟩,⟨0,[],pt d⟩,⟨1,[],.string path⟩,⟨10,[],pt b12⟩]) [0,0] kr (j:=10) rfl ?_
    refine GL_store (i:=10) (ch:=[]) (b:=d) (off:=1) (v:=.slice a17 (m+1) cap18) (c:=#[.int .i64 room,bv,.map (some nb),.map (some kb),.map (some cb),.bool ((callS fails once calls (rightB path)).2.1),.bool once,.int .i64 ((callS fails once calls (rightB path)).2.2)]) (c':=#[.int .i64 room,.slice a17 (m+1) cap18,.map (some nb),.map (some kb),.map (some cb),.bool ((callS fails once calls (rightB path)).2.1),.bool once,.int .i64 ((callS fails once calls (rightB path)).2.2)]) (j:=3) (m:=0) (H':=([(b13,.cells #[pt b12] 74 (0,0))]::[(b12,.cells #[.slice a8 n cap9,.slice none 0 0] 76 (0,0))]::g5::[(d,.cells #[.int .i64 room,.slice a17 (m+1) cap18,.map (some nb),.map (some kb),.map (some cb),.bool ((callS fails once calls (rightB path)).2.1),.bool once,.int .i64 ((callS fails once calls (rightB path)).2.2)] 72 (0,0))]::[(nb,.map (encM nm) nc)]::[(cb,.map (encM cm) cc)]::g15::(rowsG rows++H))) rfl rfl kr kr kr kr kr kr kr rfl rfl (Nat.le_of_ble_eq_true rfl) (fun _ _=>thaw0) kr kr ?_
    refine GL_fin (E':=[⟨0,[],pt d⟩,⟨1,[],.string path⟩,⟨10,[],pt b12⟩]) [] [0,1,10] rfl kr ?_
    refine N_then ?_
    refine G_seq ?_
    refine G_region ?_
    refine GL_pure (E':=[⟨58,[],.string path⟩,⟨57,[],pt d⟩,⟨1,[],.string path⟩,⟨10,[],pt b12⟩]) [0,0] kr (j:=2) rfl ?_
    refine GL_callQ (i:=2) (ch:=[]) (f:=38) (fst:=#[]) (caps:=#[]) (vs:=[.string path]) (v:=.string (dirB path)) rfl rfl rfl kr kr Tryz.func38 rfl rfl kr kr kr (fun _=>vfsDirOf _ hpath _ _) ?_
    refine GL_makeMap (i:=3) (ch:=[]) rfl rfl kr kr kr (fun b21=>?_)
    refine GL_pure (E':=[⟨62,[],pt b12⟩,⟨61,[],.string path⟩,⟨60,[],.map (some b21)⟩,⟨59,[],.string (dirB path)⟩,⟨57,[],pt d⟩]) [0,0] kr (j:=6) rfl ?_
    refine GL_mapPut (i:=6) (ch:=[]) (kt:=9) (et:=74) (r:=b21) (c:=0) (j:=0) (q:=0) (m:=[]) (k:=path) (v:=pt b12) (H':=([(b21,.map (encM ([(path,pt b12,0)])) 1)]::[(b13,.cells #[pt b12] 74 (0,0))]::[(b12,.cells #[.slice a8 n cap9,.slice none 0 0] 76 (0,0))]::g5::[(d,.cells #[.int .i64 room,.slice a17 (m+1) cap18,.map (some nb),.map (some kb),.map (some cb),.bool ((callS fails once calls (rightB path)).2.1),.bool once,.int .i64 ((callS fails once calls (rightB path)).2.2)] 72 (0,0))]::[(nb,.map (encM nm) nc)]::[(cb,.map (encM cm) cc)]::g15::(rowsG rows++H))) rfl (.inr rfl) kr kr kr kr kr kr kr kr rfl rfl rfl ?_
    refine GL_pure (E':=[⟨63,[],.map (some b21)⟩,⟨59,[],.string (dirB path)⟩,⟨57,[],pt d⟩]) [0] kr (j:=8) rfl ?_
    refine GL_heap rfl (H':=([(d,.cells #[.int .i64 room,.slice a17 (m+1) cap18,.map (some nb),.map (some kb),.map (some cb),.bool ((callS fails once calls (rightB path)).2.1),.bool once,.int .i64 ((callS fails once calls (rightB path)).2.2)] 72 (0,0))]::[(nb,.map (encM nm) nc)]::[(cb,.map (encM cm) cc)]::[(b21,.map (encM ([(path,pt b12,0)])) 1)]::[(b13,.cells #[pt b12] 74 (0,0))]::[(b12,.cells #[.slice a8 n cap9,.slice none 0 0] 76 (0,0))]::g5::g15::(rowsG rows++H))) (fun w h=>(((h.front (j:=6) rfl).front (j:=6) rfl).front (j:=6) rfl)) ?_
    refine GL_call (i:=8) (ch:=[]) (f:=37) (fst:=#[]) (caps:=#[]) (vs:=[pt d,.string (dirB path),.map (some b21)]) rfl rfl rfl kr kr Tryz.func37 rfl rfl kr kr (chSure_of kr) (vName d nb kb cb b21 nc cc 1 room ((callS fails once calls (rightB path)).2.2) (.slice a17 (m+1) cap18) ((callS fails once calls (rightB path)).2.1) once nm cm ([(path,pt b12,0)]) (dirB path) hn (mapok1 _ _) (hv1 _ _) rows hR hl [[(b21,.map (encM ([(path,pt b12,0)])) 1)],[(b13,.cells #[pt b12] 74 (0,0))],[(b12,.cells #[.slice a8 n cap9,.slice none 0 0] 76 (0,0))],g5,g15] _ H (At.grp 0 0 rfl rfl)) ?_
    rintro v H' ⟨dn22, x23, rows24, hdn25, rfl, hR26, hA27, rfl⟩
    refine GL_fin (E':=[]) [] [] rfl kr ?_
    refine N_then ?_
    refine G_seq ?_
    refine G_pure (E':=[⟨6,[],.int .i64 0⟩]) [0] [6] rfl kr ?_
    refine N_then ?_
    refine G_ret ?_
    refine N_heap (H':=([(d,.cells #[.int .i64 room,.slice a17 (m+1) cap18,.map (some nb),.map (some kb),.map (some cb),.bool ((callS fails once calls (rightB path)).2.1),.bool once,.int .i64 ((callS fails once calls (rightB path)).2.2)] 72 (0,0))]::[(nb,.map (encM ((foldS (nm,nc) dn22).1)) ((foldS (nm,nc) dn22).2))]::[(cb,.map (encM (mput cm cc (dirB path) x23)) (if mhas cm (dirB path) then cc else cc+1))]::[(b21,.map (encM ([(path,pt b12,0)])) 1)]::g15::[(b12,.cells #[.slice a8 n cap9,.slice none 0 0] 76 (0,0))]::g5::(rowsG rows24++H))) (fun w h=>((((((((h.front (j:=6) rfl).front (j:=6) rfl).front (j:=7) rfl).front (j:=6) rfl).front (j:=6) rfl).front (j:=6) rfl).front (j:=6) rfl).erase 7)) ?_
    refine N_ret [.tmp 6] [.int .i64 0] rfl kr rfl ?_
    have hdn1 := List.perm_singleton.1 hdn25
    subst hdn1
    exact .inr (.inr ⟨hce, by (simp only [hg]; exact hro), rfl, _, _, _, _, _, _, x23, rows24, g5, _, hO6, hO16, hR26, hA27, rfl⟩)
  ·
   have hw0 := hw _ hg
   refine GL_lookup (i:=5) (ch:=[]) (kt:=9) (et:=74) (r:=nb) (c:=nc) (m:=nm) (k:=path) (z:=.pointer none) (ov:=(some (pt p0))) rfl rfl kr kr kr kr kr kr kr kr (At.grp 1 0 rfl rfl) (fun _=>hg) ?_
   refine GL_fin (E':=[⟨0,[],pt d⟩,⟨1,[],.string path⟩,⟨2,[],.slice ao n cap⟩,⟨8,[],.int .i64 0⟩,⟨9,[],pt p0⟩]) [0] [0,1,2,8,9] rfl kr ?_
   refine N_then ?_
   refine G_seq ?_
   refine G_pure (E':=[⟨0,[],pt d⟩,⟨1,[],.string path⟩,⟨2,[],.slice ao n cap⟩,⟨8,[],.int .i64 0⟩,⟨9,[],pt p0⟩,⟨25,[],.bool true⟩]) [0,0] [0,1,2,8,9,25] rfl kr ?_
   refine N_then ?_
   refine G_condt kr ?_
   refine G_region ?_
   refine GL_pure (E':=[⟨28,[],pt p0⟩,⟨0,[],pt d⟩,⟨1,[],.string path⟩,⟨2,[],.slice ao n cap⟩,⟨8,[],.int .i64 0⟩]) [0,0,0] kr (j:=3) rfl ?_
   refine GL_load (i:=3) (ch:=[]) (b:=p0) (off:=0) (v:=.slice a0 (szf (.pointer (some ⟨p0,0,none⟩))) c0) rfl rfl kr kr kr kr kr (At.cons (At.cons (At.cons (At.cons hat0)))) rfl ?_
   refine GL_fin (E':=[⟨0,[],pt d⟩,⟨1,[],.string path⟩,⟨2,[],.slice ao n cap⟩,⟨8,[],.int .i64 (((szf (.pointer (some ⟨p0,0,none⟩))) : Nat) : Int)⟩]) [0,0] [0,1,2,8] rfl kr ?_
   refine N_then ?_
   refine G_seq ?_
   refine G_seq ?_
   refine G_regionH ([(d,.cells #[.int .i64 room,bv,.map (some nb),.map (some kb),.map (some cb),.bool ((callS fails once calls (rightB path)).2.1),.bool once,.int .i64 ((callS fails once calls (rightB path)).2.2)] 72 (0,0))]::[(nb,.map (encM nm) nc)]::[(cb,.map (encM cm) cc)]::bg::(rowsG rows++H)) kr ?_
   refine GH_pure (E':=[⟨31,[],pt d⟩,⟨0,[],pt d⟩,⟨1,[],.string path⟩,⟨2,[],.slice ao n cap⟩,⟨8,[],.int .i64 (((szf (.pointer (some ⟨p0,0,none⟩))) : Nat) : Int)⟩]) 0 0 kr (fun w h=>h) kr ?_
   refine GH_pure (E':=[⟨33,[],.int .i64 (((szf (.pointer (some ⟨p0,0,none⟩))) : Nat) : Int)⟩,⟨31,[],pt d⟩,⟨0,[],pt d⟩,⟨1,[],.string path⟩,⟨2,[],.slice ao n cap⟩]) 2 0 kr (fun w h=>h) kr ?_
   refine GH_pure (E':=[⟨35,[],.slice ao n cap⟩,⟨33,[],.int .i64 (((szf (.pointer (some ⟨p0,0,none⟩))) : Nat) : Int)⟩,⟨31,[],pt d⟩,⟨0,[],pt d⟩,⟨1,[],.string path⟩,⟨2,[],.slice ao n cap⟩]) 4 0 kr (fun w h=>h) kr ?_
   refine GH_pev (v:=.int .i64 ((n : Nat) : Int)) 5 rfl rfl kr kr kr kr kr (fun w h=>h) ?_
   refine GH_pure (E':=[⟨38,[],pt d⟩,⟨36,[],.int .i64 ((n : Nat) : Int)⟩,⟨33,[],.int .i64 (((szf (.pointer (some ⟨p0,0,none⟩))) : Nat) : Int)⟩,⟨31,[],pt d⟩,⟨0,[],pt d⟩,⟨1,[],.string path⟩,⟨2,[],.slice ao n cap⟩]) 7 0 kr (fun w h=>h) kr ?_
   refine GH_nil (ad:=⟨d,0,none⟩) 8 rfl rfl rfl kr kr kr kr kr (fun w h=>h) ?_
   refine GH_pure (E':=[⟨40,[],pt d⟩,⟨36,[],.int .i64 ((n : Nat) : Int)⟩,⟨33,[],.int .i64 (((szf (.pointer (some ⟨p0,0,none⟩))) : Nat) : Int)⟩,⟨31,[],pt d⟩,⟨0,[],pt d⟩,⟨1,[],.string path⟩,⟨2,[],.slice ao n cap⟩]) 9 0 kr (fun w h=>h) kr ?_
   refine GH_take' (E':=[⟨41,[],.int .i64 room⟩,⟨40,[],pt d⟩,⟨36,[],.int .i64 ((n : Nat) : Int)⟩,⟨33,[],.int .i64 (((szf (.pointer (some ⟨p0,0,none⟩))) : Nat) : Int)⟩,⟨31,[],pt d⟩,⟨0,[],pt d⟩,⟨1,[],.string path⟩,⟨2,[],.slice ao n cap⟩]) 10 kr (fun w h=>h) ?_ ?_
   ·
    refine GL_load (i:=10) (ch:=[]) (b:=d) (off:=0) (v:=.int .i64 room) rfl rfl kr kr kr kr kr (At.grp 0 0 rfl rfl) rfl ?_
    exact GL_yend kr kr
   refine GH_eff 1 kr kr kr ?_
   refine GL_call (i:=1) (ch:=[]) (f:=35) (fst:=#[]) (caps:=#[]) (vs:=[pt d]) rfl rfl rfl kr kr Tryz.func35 rfl rfl kr kr (chSure_of kr) (vUsed d nb kb cb nc room ((callS fails once calls (rightB path)).2.2) bv ((callS fails once calls (rightB path)).2.1) once nm szf hn hs _ _ (fun e he=>let ⟨p,a,c,kv,h1,h2⟩:=hB e he; ⟨p,a,c,kv,h1,(At.cons (At.cons h2))⟩)) ?_
   rintro v H' ⟨rfl, rfl⟩
   refine GH_back kr (fun w h=>h) ?_
   have hw28 : IntKind.wrap .i64 (((sumN szf nm : Nat) : Int) - (((szf (.pointer (some ⟨p0, 0, none⟩))) : Nat) : Int)) = ((sumN szf nm : Nat) : Int) - (((szf (.pointer (some ⟨p0, 0, none⟩))) : Nat) : Int) := w64 (by omega) (by omega)
   refine GH_pure (E':=[⟨34,[],.int .i64 (((sumN szf nm : Nat) : Int) - (((szf (.pointer (some ⟨p0,0,none⟩))) : Nat) : Int))⟩,⟨41,[],.int .i64 room⟩,⟨36,[],.int .i64 ((n : Nat) : Int)⟩,⟨0,[],pt d⟩,⟨1,[],.string path⟩,⟨2,[],.slice ao n cap⟩]) 3 0 kr (fun w h=>h) (Eq.trans (b:=some [⟨34,[],.int .i64 (IntKind.wrap .i64 (((sumN szf nm : Nat) : Int) - (((szf (.pointer (some ⟨p0,0,none⟩))) : Nat) : Int)))⟩,⟨41,[],.int .i64 room⟩,⟨36,[],.int .i64 ((n : Nat) : Int)⟩,⟨0,[],pt d⟩,⟨1,[],.string path⟩,⟨2,[],.slice ao n cap⟩]) kr (by simp only [hw28])) ?_
   have hw29 : IntKind.wrap .i64 ((((sumN szf nm : Nat) : Int) - (((szf (.pointer (some ⟨p0, 0, none⟩))) : Nat) : Int)) + ((n : Nat) : Int)) = (((sumN szf nm : Nat) : Int) - (((szf (.pointer (some ⟨p0, 0, none⟩))) : Nat) : Int)) + ((n : Nat) : Int) := w64 (by omega) (by omega)
   refine GH_pure (E':=[⟨37,[],.int .i64 ((((sumN szf nm : Nat) : Int) - (((szf (.pointer (some ⟨p0,0,none⟩))) : Nat) : Int))+((n : Nat) : Int))⟩,⟨41,[],.int .i64 room⟩,⟨0,[],pt d⟩,⟨1,[],.string path⟩,⟨2,[],.slice ao n cap⟩]) 6 0 kr (fun w h=>h) (Eq.trans (b:=some [⟨37,[],.int .i64 (IntKind.wrap .i64 ((((sumN szf nm : Nat) : Int) - (((szf (.pointer (some ⟨p0,0,none⟩))) : Nat) : Int))+((n : Nat) : Int)))⟩,⟨41,[],.int .i64 room⟩,⟨0,[],pt d⟩,⟨1,[],.string path⟩,⟨2,[],.slice ao n cap⟩]) kr (by simp only [hw29])) ?_
   refine GH_pure (E':=[⟨42,[],.bool (decide (((((sumN szf nm : Nat) : Int) - (((szf (.pointer (some ⟨p0,0,none⟩))) : Nat) : Int))+((n : Nat) : Int)) > room))⟩,⟨0,[],pt d⟩,⟨1,[],.string path⟩,⟨2,[],.slice ao n cap⟩]) 11 0 kr (fun w h=>h) kr ?_
   refine GH_done (E':=[⟨0,[],pt d⟩,⟨1,[],.string path⟩,⟨2,[],.slice ao n cap⟩,⟨42,[],.bool (decide (((((sumN szf nm : Nat) : Int) - (((szf (.pointer (some ⟨p0,0,none⟩))) : Nat) : Int))+((n : Nat) : Int)) > room))⟩]) [0,1,2,42] kr kr ?_
   refine N_then ?_
   refine G_cond (b:=decide (((((sumN szf nm : Nat) : Int) - (((szf (.pointer (some ⟨p0,0,none⟩))) : Nat) : Int))+((n : Nat) : Int)) > room)) kr (fun hc30=>?_) (fun hc30=>?_)
   ·
    have hro := of_decide_eq_true hc30
    refine G_seq ?_
    refine G_pure (E':=[⟨6,[],.int .i64 61⟩]) [0] [6] rfl kr ?_
    refine N_then ?_
    refine G_ret ?_
    refine N_then_ret ?_
    refine N_ret [.tmp 6] [.int .i64 61] rfl kr rfl ?_
    exact .inr (.inl ⟨hce, by (simp only [hg]; exact hro), rfl, rfl⟩)
   ·
    have hro := of_decide_eq_false hc30
    refine G_skip ?_
    refine N_then ?_
    refine G_seq ?_
    refine G_region ?_
    refine GL_pure (E':=[⟨43,[],.slice ao n cap⟩,⟨0,[],pt d⟩,⟨1,[],.string path⟩]) [0] kr (j:=1) rfl ?_
    refine GL_call (i:=1) (ch:=[]) (f:=36) (fst:=#[]) (caps:=#[]) (vs:=[.slice ao n cap]) rfl rfl rfl kr kr Tryz.func36 rfl rfl kr kr (chSure_of kr) (vCloneO ao n cap S l hsh hrd hl1 hn1 _ _ (fun y o h=>(At.cons (At.cons (At.cons (At.cons (hS y o h))))))) ?_
    rintro v33 _ ⟨g31, hO32, rfl⟩
    obtain ⟨a34, cap35, rfl, hcap36, hrd37⟩ := hO32.shape
    refine GL_pure (E':=[⟨45,[],.agg #[.slice a34 n cap35,.slice none 0 0]⟩,⟨0,[],pt d⟩,⟨1,[],.string path⟩]) [0] kr (j:=3) rfl ?_
    refine GL_box (i:=3) (ch:=[]) (v:=.agg #[.slice a34 n cap35,.slice none 0 0]) rfl rfl kr kr kr kr (fun b38=>?_)
    refine GL_fin (E':=[⟨0,[],pt d⟩,⟨1,[],.string path⟩,⟨10,[],pt b38⟩]) [0] [0,1,10] rfl kr ?_
    refine N_then ?_
    refine G_seq ?_
    refine G_region ?_
    refine GL_pure (E':=[⟨50,[],.pointer (some ⟨d,1,none⟩)⟩,⟨47,[],pt d⟩,⟨0,[],pt d⟩,⟨1,[],.string path⟩,⟨10,[],pt b38⟩]) [0,0,0,0] kr (j:=4) rfl ?_
    refine GL_load (i:=4) (ch:=[]) (b:=d) (off:=1) (v:=bv) rfl rfl kr kr kr kr kr (At.grp 2 0 rfl rfl) rfl ?_
    refine GL_pure (E':=[⟨52,[],pt b38⟩,⟨51,[],bv⟩,⟨47,[],pt d⟩,⟨0,[],pt d⟩,⟨1,[],.string path⟩,⟨10,[],pt b38⟩]) [0] kr (j:=6) rfl ?_
    refine GL_buildSlice (i:=6) (ch:=[]) (e:=74) (l:=[(0,pt b38)]) (c:=[pt b38]) rfl rfl kr kr kr kr kr (fun b39=>?_)
    refine GL_append (i:=7) (ch:=[]) (t:=70) (tx:=70) (e:=74) (inf:=Tryz.t74) (s:=bv) (x:=.slice (some ⟨b39,0,none⟩) 1 1) (n:=m) (m:=1) (j:=6) (cs:=ps) (news:=[pt b38]) (g:=bg) (S:=(inG [(b39,.cells #[pt b38] 74 (0,0))])) rfl rfl rfl rfl kr kr kr rfl rfl (.inl ⟨74,kr⟩) (fun ⟨_,h⟩=>by cases h) (fun _=>⟨74,kr⟩) kr kr kr rfl hO (SrcOf.slice _ _ _ _ Rd.lit (fun h=>by cases h)) (at_inG 0 rfl) kr (by intro u hu; rcases List.mem_singleton.1 hu with rfl; rfl) (by omega) (by show (m+1) * 8 ≤ 140737488355328; omega) (fun v40 g41 hO42=>?_)
    obtain ⟨a43, cap44, rfl, hcap45, hrd46⟩ := hO42.shape
    refine GL_pure (E':=[⟨56,[],.pointer (some ⟨d,1,none⟩)⟩,⟨54,[],.slice a43 (m+1) cap44⟩,⟨0,[],pt d⟩,⟨1,[],.string path⟩,⟨10,[],pt b38⟩]) [0,0] kr (j:=10) rfl ?_
    refine GL_store (i:=10) (ch:=[]) (b:=d) (off:=1) (v:=.slice a43 (m+1) cap44) (c:=#[.int .i64 room,bv,.map (some nb),.map (some kb),.map (some cb),.bool ((callS fails once calls (rightB path)).2.1),.bool once,.int .i64 ((callS fails once calls (rightB path)).2.2)]) (c':=#[.int .i64 room,.slice a43 (m+1) cap44,.map (some nb),.map (some kb),.map (some cb),.bool ((callS fails once calls (rightB path)).2.1),.bool once,.int .i64 ((callS fails once calls (rightB path)).2.2)]) (j:=3) (m:=0) (H':=([(b39,.cells #[pt b38] 74 (0,0))]::[(b38,.cells #[.slice a34 n cap35,.slice none 0 0] 76 (0,0))]::g31::[(d,.cells #[.int .i64 room,.slice a43 (m+1) cap44,.map (some nb),.map (some kb),.map (some cb),.bool ((callS fails once calls (rightB path)).2.1),.bool once,.int .i64 ((callS fails once calls (rightB path)).2.2)] 72 (0,0))]::[(nb,.map (encM nm) nc)]::[(cb,.map (encM cm) cc)]::g41::(rowsG rows++H))) rfl rfl kr kr kr kr kr kr kr rfl rfl (Nat.le_of_ble_eq_true rfl) (fun _ _=>thaw0) kr kr ?_
    refine GL_fin (E':=[⟨0,[],pt d⟩,⟨1,[],.string path⟩,⟨10,[],pt b38⟩]) [] [0,1,10] rfl kr ?_
    refine N_then ?_
    refine G_seq ?_
    refine G_region ?_
    refine GL_pure (E':=[⟨58,[],.string path⟩,⟨57,[],pt d⟩,⟨1,[],.string path⟩,⟨10,[],pt b38⟩]) [0,0] kr (j:=2) rfl ?_
    refine GL_callQ (i:=2) (ch:=[]) (f:=38) (fst:=#[]) (caps:=#[]) (vs:=[.string path]) (v:=.string (dirB path)) rfl rfl rfl kr kr Tryz.func38 rfl rfl kr kr kr (fun _=>vfsDirOf _ hpath _ _) ?_
    refine GL_makeMap (i:=3) (ch:=[]) rfl rfl kr kr kr (fun b47=>?_)
    refine GL_pure (E':=[⟨62,[],pt b38⟩,⟨61,[],.string path⟩,⟨60,[],.map (some b47)⟩,⟨59,[],.string (dirB path)⟩,⟨57,[],pt d⟩]) [0,0] kr (j:=6) rfl ?_
    refine GL_mapPut (i:=6) (ch:=[]) (kt:=9) (et:=74) (r:=b47) (c:=0) (j:=0) (q:=0) (m:=[]) (k:=path) (v:=pt b38) (H':=([(b47,.map (encM ([(path,pt b38,0)])) 1)]::[(b39,.cells #[pt b38] 74 (0,0))]::[(b38,.cells #[.slice a34 n cap35,.slice none 0 0] 76 (0,0))]::g31::[(d,.cells #[.int .i64 room,.slice a43 (m+1) cap44,.map (some nb),.map (some kb),.map (some cb),.bool ((callS fails once calls (rightB path)).2.1),.bool once,.int .i64 ((callS fails once calls (rightB path)).2.2)] 72 (0,0))]::[(nb,.map (encM nm) nc)]::[(cb,.map (encM cm) cc)]::g41::(rowsG rows++H))) rfl (.inr rfl) kr kr kr kr kr kr kr kr rfl rfl rfl ?_
    refine GL_pure (E':=[⟨63,[],.map (some b47)⟩,⟨59,[],.string (dirB path)⟩,⟨57,[],pt d⟩]) [0] kr (j:=8) rfl ?_
    refine GL_heap rfl (H':=([(d,.cells #[.int .i64 room,.slice a43 (m+1) cap44,.map (some nb),.map (some kb),.map (some cb),.bool ((callS fails once calls (rightB path)).2.1),.bool once,.int .i64 ((callS fails once calls (rightB path)).2.2)] 72 (0,0))]::[(nb,.map (encM nm) nc)]::[(cb,.map (encM cm) cc)]::[(b47,.map (encM ([(path,pt b38,0)])) 1)]::[(b39,.cells #[pt b38] 74 (0,0))]::[(b38,.cells #[.slice a34 n cap35,.slice none 0 0] 76 (0,0))]::g31::g41::(rowsG rows++H))) (fun w h=>(((h.front (j:=6) rfl).front (j:=6) rfl).front (j:=6) rfl)) ?_
    refine GL_call (i:=8) (ch:=[]) (f:=37) (fst:=#[]) (caps:=#[]) (vs:=[pt d,.string (dirB path),.map (some b47)]) rfl rfl rfl kr kr Tryz.func37 rfl rfl kr kr (chSure_of kr) (vName d nb kb cb b47 nc cc 1 room ((callS fails once calls (rightB path)).2.2) (.slice a43 (m+1) cap44) ((callS fails once calls (rightB path)).2.1) once nm cm ([(path,pt b38,0)]) (dirB path) hn (mapok1 _ _) (hv1 _ _) rows hR hl [[(b47,.map (encM ([(path,pt b38,0)])) 1)],[(b39,.cells #[pt b38] 74 (0,0))],[(b38,.cells #[.slice a34 n cap35,.slice none 0 0] 76 (0,0))],g31,g41] _ H (At.grp 0 0 rfl rfl)) ?_
    rintro v H' ⟨dn48, x49, rows50, hdn51, rfl, hR52, hA53, rfl⟩
    refine GL_fin (E':=[]) [] [] rfl kr ?_
    refine N_then ?_
    refine G_seq ?_
    refine G_pure (E':=[⟨6,[],.int .i64 0⟩]) [0] [6] rfl kr ?_
    refine N_then ?_
    refine G_ret ?_
    refine N_heap (H':=([(d,.cells #[.int .i64 room,.slice a43 (m+1) cap44,.map (some nb),.map (some kb),.map (some cb),.bool ((callS fails once calls (rightB path)).2.1),.bool once,.int .i64 ((callS fails once calls (rightB path)).2.2)] 72 (0,0))]::[(nb,.map (encM ((foldS (nm,nc) dn48).1)) ((foldS (nm,nc) dn48).2))]::[(cb,.map (encM (mput cm cc (dirB path) x49)) (if mhas cm (dirB path) then cc else cc+1))]::[(b47,.map (encM ([(path,pt b38,0)])) 1)]::g41::[(b38,.cells #[.slice a34 n cap35,.slice none 0 0] 76 (0,0))]::g31::(rowsG rows50++H))) (fun w h=>((((((((h.front (j:=6) rfl).front (j:=6) rfl).front (j:=7) rfl).front (j:=6) rfl).front (j:=6) rfl).front (j:=6) rfl).front (j:=6) rfl).erase 7)) ?_
    refine N_ret [.tmp 6] [.int .i64 0] rfl kr rfl ?_
    have hdn1 := List.perm_singleton.1 hdn51
    subst hdn1
    exact .inr (.inr ⟨hce, by (simp only [hg]; exact hro), rfl, _, _, _, _, _, _, x49, rows50, g31, _, hO32, hO42, hR52, hA53, rfl⟩)
end Go.Proofs.YtlaoeiaaeifidaaGreat
namespace Go.Proofs.YtlaoeiaaeifidaaGreat
open Go.Sw Go.Lib Go.Vf Go.RowKit
def RenC (path to : ByteArray) (p : Nat) (m : SM) (c : Nat) : Prop :=
  (m = mput [(to, .pointer (some ⟨p, 0, none⟩), 0)] 1 path (.pointer none) ∧ c = if mhas [(to, .pointer (some ⟨p, 0, none⟩), 0)] path then 1 else 1 + 1) ∨
  (m = mput [(path, .pointer none, 0)] 1 to (.pointer (some ⟨p, 0, none⟩)) ∧ c = if mhas [(path, .pointer none, 0)] to then 1 else 1 + 1)
theorem hvput {m : SM} {c : Nat} {k : ByteArray} {v : Value} {Q : Value → Prop} (h : ∀ e ∈ m, Q e.2.1) (hv : Q v) : ∀ e ∈ mput m c k v, Q e.2.1 := by
  induction m with
  | nil => intro e he; rw [mput, List.mem_singleton] at he; subst he; exact hv
  | cons x m ih =>
    intro e he
    rw [mput] at he
    split at he
    · rcases List.mem_cons.1 he with rfl | he
      · exact hv
      · exact h e (List.mem_cons_of_mem _ he)
    · rcases List.mem_cons.1 he with rfl | he
      · exact h _ List.mem_cons_self
      · exact ih (fun y hy => h y (List.mem_cons_of_mem _ hy)) e he
theorem vRenameNo (d nb kb cb nc cc : Nat) (room calls : Int) (bv : Value) (fails once : Bool) (nm cm : SM) (path to : ByteArray) (hpath : path.size ≤ 9223372036854775807) (hto : to.size ≤ 9223372036854775807) (hca : -9223372036854775808 ≤ calls ∧ calls ≤ 9223372036854775807) (hn : MapOk nm nc) (rows : List RW) (hR : RowsOk cm rows) (hl : ∀ r ∈ rows, r.qs.length ≤ 1000000) (hg : mget nm path = none) (W0 : World) (H : List Grp) : Tri Tryz.prog 56 #[pt d, .string path, .string to] W0 ([(d, .cells #[.int .i64 room, bv, .map (some nb), .map (some kb), .map (some cb), .bool fails, .bool once, .int .i64 calls] 72 (0, 0))] :: [(nb, .map (encM nm) nc)] :: [(cb, .map (encM cm) cc)] :: (rowsG rows ++ H)) (fun v H' => ((callS fails once calls ((rightB path && rightB to) && ((dirB path).toList == (dirB to).toList))).1 ≠ 0 ∧ v = .int .i64 (callS fails once calls ((rightB path && rightB to) && ((dirB path).toList == (dirB to).toList))).1 ∧ H' = ([(d, .cells #[.int .i64 room, bv, .map (some nb), .map (some kb), .map (some cb), .bool ((callS fails once calls ((rightB path && rightB to) && ((dirB path).toList == (dirB to).toList))).2.1), .bool once, .int .i64 ((callS fails once calls ((rightB path && rightB to) && ((dirB path).toList == (dirB to).toList))).2.2)] 72 (0, 0))] :: [(nb, .map (encM nm) nc)] :: [(cb, .map (encM cm) cc)] :: (rowsG rows ++ H))) ∨ ((callS fails once calls ((rightB path && rightB to) && ((dirB path).toList == (dirB to).toList))).1 = 0 ∧ v = .int .i64 60 ∧ H' = ([(d, .cells #[.int .i64 room, bv, .map (some nb), .map (some kb), .map (some cb), .bool ((callS fails once calls ((rightB path && rightB to) && ((dirB path).toList == (dirB to).toList))).2.1), .bool once, .int .i64 ((callS fails once calls ((rightB path && rightB to) && ((dirB path).toList == (dirB to).toList))).2.2)] 72 (0, 0))] :: [(nb, .map (encM nm) nc)] :: [(cb, .map (encM cm) cc)] :: (rowsG rows ++ H)))) := by
 refine Tri_of (args := [pt d, .string path, .string to]) (n := 47) Tryz.func56 rfl rfl (Nat.le_of_ble_eq_true rfl) ?_
 refine G_seq ?_
 refine G_pure (E':=[⟨0,[],pt d⟩,⟨1,[],.string path⟩,⟨2,[],.string to⟩]) [0] [0,1,2] rfl kr ?_
 refine N_then ?_
 refine G_seq ?_
 refine G_seq ?_
 refine G_region ?_
 refine GL_pure (E':=[⟨10,[],.string path⟩,⟨9,[],pt d⟩,⟨0,[],pt d⟩,⟨1,[],.string path⟩,⟨2,[],.string to⟩]) [0,0] kr (j:=2) rfl ?_
 refine GL_callQ (i:=2) (ch:=[]) (f:=34) (fst:=#[]) (caps:=#[]) (vs:=[.string path]) (v:=.bool (rightB path)) rfl rfl rfl kr kr Tryz.func34 rfl rfl kr kr kr (fun _=>vfsRight _ hpath _ _) ?_
 refine GL_pure (E':=[⟨13,[(12,true)],.string to⟩,⟨12,[],.bool (rightB path)⟩,⟨9,[],pt d⟩,⟨0,[],pt d⟩,⟨1,[],.string path⟩,⟨2,[],.string to⟩]) [0,0] kr (j:=5) rfl ?_
 refine GL_callQ (i:=5) (ch:=[(12,true)]) (f:=34) (fst:=#[]) (caps:=#[]) (vs:=[.string to]) (v:=.bool (rightB to)) rfl rfl rfl kr kr Tryz.func34 rfl rfl kr kr kr (fun hc=>vfsRight _ hto _ _) ?_
 refine GL_pure (E':=[⟨17,[(16,true)],.string path⟩,⟨16,[],.bool ((rightB path)&&(rightB to))⟩,⟨9,[],pt d⟩,⟨0,[],pt d⟩,⟨1,[],.string path⟩,⟨2,[],.string to⟩]) [6,0,0] kr (j:=9) rfl ?_
 refine GL_callQ (i:=9) (ch:=[(16,true)]) (f:=38) (fst:=#[]) (caps:=#[]) (vs:=[.string path]) (v:=.string (dirB path)) rfl rfl rfl kr kr Tryz.func38 rfl rfl kr kr kr (fun hc=>vfsDirOf _ hpath _ _) ?_
 refine GL_pure (E':=[⟨19,[(16,true)],.string to⟩,⟨18,[(16,true)],.string (dirB path)⟩,⟨16,[],.bool ((rightB path)&&(rightB to))⟩,⟨9,[],pt d⟩,⟨0,[],pt d⟩,⟨1,[],.string path⟩,⟨2,[],.string to⟩]) [0] kr (j:=11) rfl ?_
 refine GL_callQ (i:=11) (ch:=[(16,true)]) (f:=38) (fst:=#[]) (caps:=#[]) (vs:=[.string to]) (v:=.string (dirB to)) rfl rfl rfl kr kr Tryz.func38 rfl rfl kr kr kr (fun hc=>vfsDirOf _ hto _ _) ?_
 refine GL_pure (E':=[⟨22,[],.bool (((rightB path)&&(rightB to))&&((dirB path).toList == (dirB to).toList))⟩,⟨9,[],pt d⟩,⟨0,[],pt d⟩,⟨1,[],.string path⟩,⟨2,[],.string to⟩]) [0,6] kr (j:=14) rfl ?_
 refine GL_call (i:=14) (ch:=[]) (f:=33) (fst:=#[]) (caps:=#[]) (vs:=[pt d,.bool (((rightB path)&&(rightB to))&&((dirB path).toList == (dirB to).toList))]) rfl rfl rfl kr kr Tryz.func33 rfl rfl kr kr (chSure_of kr) (vCall d nb kb cb room calls bv fails once (((rightB path)&&(rightB to))&&((dirB path).toList == (dirB to).toList)) hca _ _) ?_
 rintro v H' ⟨rfl, rfl⟩
 refine GL_fin (E':=[⟨0,[],pt d⟩,⟨1,[],.string path⟩,⟨2,[],.string to⟩,⟨7,[],.int .i64 ((callS fails once calls (((rightB path)&&(rightB to))&&((dirB path).toList == (dirB to).toList))).1)⟩]) [0] [0,1,2,7] rfl kr ?_
 refine N_then ?_
 refine G_seq ?_
 refine G_pure (E':=[⟨0,[],pt d⟩,⟨1,[],.string path⟩,⟨2,[],.string to⟩,⟨7,[],.int .i64 ((callS fails once calls (((rightB path)&&(rightB to))&&((dirB path).toList == (dirB to).toList))).1)⟩,⟨25,[],.bool (((callS fails once calls (((rightB path)&&(rightB to))&&((dirB path).toList == (dirB to).toList))).1) != 0)⟩]) [0,0] [0,1,2,7,25] rfl kr ?_
 refine N_then ?_
 refine G_cond (b:=((callS fails once calls (((rightB path)&&(rightB to))&&((dirB path).toList == (dirB to).toList))).1) != 0) kr (fun hc1=>?_) (fun hc1=>?_)
 ·
  have hce : (callS fails once calls ((rightB path && rightB to) && ((dirB path).toList == (dirB to).toList))).1 ≠ 0 := by simpa using hc1
  refine G_seq ?_
  refine G_pure (E':=[⟨6,[],.int .i64 ((callS fails once calls (((rightB path)&&(rightB to))&&((dirB path).toList == (dirB to).toList))).1)⟩]) [0,0] [6] rfl kr ?_
  refine N_then ?_
  refine G_ret ?_
  refine N_then_ret ?_
  refine N_ret [.tmp 6] [.int .i64 ((callS fails once calls (((rightB path)&&(rightB to))&&((dirB path).toList == (dirB to).toList))).1)] rfl kr rfl ?_
  exact .inl ⟨hce, rfl, rfl⟩
 ·
  have hce : (callS fails once calls ((rightB path && rightB to) && ((dirB path).toList == (dirB to).toList))).1 = 0 := by simpa using hc1
  refine G_skip ?_
  refine N_then ?_
  refine G_seq ?_
  refine G_region ?_
  refine GL_pure (E':=[⟨29,[],.pointer (some ⟨d,2,none⟩)⟩,⟨0,[],pt d⟩,⟨1,[],.string path⟩,⟨2,[],.string to⟩]) [0,0,0] kr (j:=3) rfl ?_
  refine GL_load (i:=3) (ch:=[]) (b:=d) (off:=2) (v:=.map (some nb)) rfl rfl kr kr kr kr kr (At.grp 0 0 rfl rfl) rfl ?_
  refine GL_pure (E':=[⟨31,[],.string path⟩,⟨30,[],.map (some nb)⟩,⟨0,[],pt d⟩,⟨1,[],.string path⟩,⟨2,[],.string to⟩]) [0] kr (j:=5) rfl ?_
  refine GL_lookup (i:=5) (ch:=[]) (kt:=9) (et:=74) (r:=nb) (c:=nc) (m:=nm) (k:=path) (z:=.pointer none) (ov:=none) rfl rfl kr kr kr kr kr kr kr kr (At.grp 1 0 rfl rfl) (fun _=>hg) ?_
  refine GL_fin (E':=[⟨0,[],pt d⟩,⟨1,[],.string path⟩,⟨2,[],.string to⟩,⟨8,[],.pointer none⟩]) [0] [0,1,2,8] rfl kr ?_
  refine N_then ?_
  refine G_seq ?_
  refine G_seq ?_
  refine G_pure (E':=[⟨0,[],pt d⟩,⟨1,[],.string path⟩,⟨2,[],.string to⟩,⟨8,[],.pointer none⟩,⟨34,[],.bool true⟩]) [0,0] [0,1,2,8,34] rfl kr ?_
  refine N_then ?_
  refine G_condt kr ?_
  refine G_seq ?_
  refine G_pure (E':=[⟨6,[],.int .i64 60⟩]) [0] [6] rfl kr ?_
  refine N_then ?_
  refine G_ret ?_
  refine N_then_ret ?_
  refine N_ret [.tmp 6] [.int .i64 60] rfl kr rfl ?_
  exact .inr ⟨hce, rfl, rfl⟩
theorem vRename (d nb kb cb nc cc : Nat) (room calls : Int) (bv : Value) (fails once : Bool) (nm cm : SM) (path to : ByteArray) (hpath : path.size ≤ 9223372036854775807) (hto : to.size ≤ 9223372036854775807) (hca : -9223372036854775808 ≤ calls ∧ calls ≤ 9223372036854775807) (hn : MapOk nm nc) (rows : List RW) (hR : RowsOk cm rows) (hl : ∀ r ∈ rows, r.qs.length ≤ 1000000) (p : Nat) (hg : mget nm path = some (.pointer (some ⟨p, 0, none⟩))) (W0 : World) (H : List Grp) : Tri Tryz.prog 56 #[pt d, .string path, .string to] W0 ([(d, .cells #[.int .i64 room, bv, .map (some nb), .map (some kb), .map (some cb), .bool fails, .bool once, .int .i64 calls] 72 (0, 0))] :: [(nb, .map (encM nm) nc)] :: [(cb, .map (encM cm) cc)] :: (rowsG rows ++ H)) (fun v H' => ((callS fails once calls ((rightB path && rightB to) && ((dirB path).toList == (dirB to).toList))).1 ≠ 0 ∧ v = .int .i64 (callS fails once calls ((rightB path && rightB to) && ((dirB path).toList == (dirB to).toList))).1 ∧ H' = ([(d, .cells #[.int .i64 room, bv, .map (some nb), .map (some kb), .map (some cb), .bool ((callS fails once calls ((rightB path && rightB to) && ((dirB path).toList == (dirB to).toList))).2.1), .bool once, .int .i64 ((callS fails once calls ((rightB path && rightB to) && ((dirB path).toList == (dirB to).toList))).2.2)] 72 (0, 0))] :: [(nb, .map (encM nm) nc)] :: [(cb, .map (encM cm) cc)] :: (rowsG rows ++ H))) ∨ ((callS fails once calls ((rightB path && rightB to) && ((dirB path).toList == (dirB to).toList))).1 = 0 ∧ (((!(path.toList == to.toList)) = false ∧ v = .int .i64 0 ∧ H' = ([(d, .cells #[.int .i64 room, bv, .map (some nb), .map (some kb), .map (some cb), .bool ((callS fails once calls ((rightB path && rightB to) && ((dirB path).toList == (dirB to).toList))).2.1), .bool once, .int .i64 ((callS fails once calls ((rightB path && rightB to) && ((dirB path).toList == (dirB to).toList))).2.2)] 72 (0, 0))] :: [(nb, .map (encM nm) nc)] :: [(cb, .map (encM cm) cc)] :: (rowsG rows ++ H))) ∨ ((!(path.toList == to.toList)) = true ∧ v = .int .i64 0 ∧ ∃ dn xm xc q x rows1, RenC path to p xm xc ∧ dn.Perm xm ∧ RowsOk (mput cm cc (dirB to) x) rows1 ∧ RowsAdd rows (dirB to) q rows1 ∧ H' = ([(d, .cells #[.int .i64 room, bv, .map (some nb), .map (some kb), .map (some cb), .bool ((callS fails once calls ((rightB path && rightB to) && ((dirB path).toList == (dirB to).toList))).2.1), .bool once, .int .i64 ((callS fails once calls ((rightB path && rightB to) && ((dirB path).toList == (dirB to).toList))).2.2)] 72 (0, 0))]  :: [(nb, .map (encM (foldS (nm, nc) dn).1) (foldS (nm, nc) dn).2)] :: [(cb, .map (encM (mput cm cc (dirB to) x)) (if mhas cm (dirB to) then cc else cc + 1))] :: [(q, .map (encM xm) xc)] :: (rowsG rows1 ++ H)))))) := by
 refine Tri_of (args := [pt d, .string path, .string to]) (n := 47) Tryz.func56 rfl rfl (Nat.le_of_ble_eq_true rfl) ?_
 refine G_seq ?_
 refine G_pure (E':=[⟨0,[],pt d⟩,⟨1,[],.string path⟩,⟨2,[],.string to⟩]) [0] [0,1,2] rfl kr ?_
 refine N_then ?_
 refine G_seq ?_
 refine G_seq ?_
 refine G_region ?_
 refine GL_pure (E':=[⟨10,[],.string path⟩,⟨9,[],pt d⟩,⟨0,[],pt d⟩,⟨1,[],.string path⟩,⟨2,[],.string to⟩]) [0,0] kr (j:=2) rfl ?_
 refine GL_callQ (i:=2) (ch:=[]) (f:=34) (fst:=#[]) (caps:=#[]) (vs:=[.string path]) (v:=.bool (rightB path)) rfl rfl rfl kr kr Tryz.func34 rfl rfl kr kr kr (fun _=>vfsRight _ hpath _ _) ?_
 refine GL_pure (E':=[⟨13,[(12,true)],.string to⟩,⟨12,[],.bool (rightB path)⟩,⟨9,[],pt d⟩,⟨0,[],pt d⟩,⟨1,[],.string path⟩,⟨2,[],.string to⟩]) [0,0] kr (j:=5) rfl ?_
 refine GL_callQ (i:=5) (ch:=[(12,true)]) (f:=34) (fst:=#[]) (caps:=#[]) (vs:=[.string to]) (v:=.bool (rightB to)) rfl rfl rfl kr kr Tryz.func34 rfl rfl kr kr kr (fun hc=>vfsRight _ hto _ _) ?_
 refine GL_pure (E':=[⟨17,[(16,true)],.string path⟩,⟨16,[],.bool ((rightB path)&&(rightB to))⟩,⟨9,[],pt d⟩,⟨0,[],pt d⟩,⟨1,[],.string path⟩,⟨2,[],.string to⟩]) [6,0,0] kr (j:=9) rfl ?_
 refine GL_callQ (i:=9) (ch:=[(16,true)]) (f:=38) (fst:=#[]) (caps:=#[]) (vs:=[.string path]) (v:=.string (dirB path)) rfl rfl rfl kr kr Tryz.func38 rfl rfl kr kr kr (fun hc=>vfsDirOf _ hpath _ _) ?_
 refine GL_pure (E':=[⟨19,[(16,true)],.string to⟩,⟨18,[(16,true)],.string (dirB path)⟩,⟨16,[],.bool ((rightB path)&&(rightB to))⟩,⟨9,[],pt d⟩,⟨0,[],pt d⟩,⟨1,[],.string path⟩,⟨2,[],.string to⟩]) [0] kr (j:=11) rfl ?_
 refine GL_callQ (i:=11) (ch:=[(16,true)]) (f:=38) (fst:=#[]) (caps:=#[]) (vs:=[.string to]) (v:=.string (dirB to)) rfl rfl rfl kr kr Tryz.func38 rfl rfl kr kr kr (fun hc=>vfsDirOf _ hto _ _) ?_
 refine GL_pure (E':=[⟨22,[],.bool (((rightB path)&&(rightB to))&&((dirB path).toList == (dirB to).toList))⟩,⟨9,[],pt d⟩,⟨0,[],pt d⟩,⟨1,[],.string path⟩,⟨2,[],.string to⟩]) [0,6] kr (j:=14) rfl ?_
 refine GL_call (i:=14) (ch:=[]) (f:=33) (fst:=#[]) (caps:=#[]) (vs:=[pt d,.bool (((rightB path)&&(rightB to))&&((dirB path).toList == (dirB to).toList))]) rfl rfl rfl kr kr Tryz.func33 rfl rfl kr kr (chSure_of kr) (vCall d nb kb cb room calls bv fails once (((rightB path)&&(rightB to))&&((dirB path).toList == (dirB to).toList)) hca _ _) ?_
 rintro v H' ⟨rfl, rfl⟩
 refine GL_fin (E':=[⟨0,[],pt d⟩,⟨1,[],.string path⟩,⟨2,[],.string to⟩,⟨7,[],.int .i64 ((callS fails once calls (((rightB path)&&(rightB to))&&((dirB path).toList == (dirB to).toList))).1)⟩]) [0] [0,1,2,7] rfl kr ?_
 refine N_then ?_
 refine G_seq ?_
 refine G_pure (E':=[⟨0,[],pt d⟩,⟨1,[],.string path⟩,⟨2,[],.string to⟩,⟨7,[],.int .i64 ((callS fails once calls (((rightB path)&&(rightB to))&&((dirB path).toList == (dirB to).toList))).1)⟩,⟨25,[],.bool (((callS fails once calls (((rightB path)&&(rightB to))&&((dirB path).toList == (dirB to).toList))).1) != 0)⟩]) [0,0] [0,1,2,7,25] rfl kr ?_
 refine N_then ?_
 refine G_cond (b:=((callS fails once calls (((rightB path)&&(rightB to))&&((dirB path).toList == (dirB to).toList))).1) != 0) kr (fun hc1=>?_) (fun hc1=>?_)
 ·
  have hce : (callS fails once calls ((rightB path && rightB to) && ((dirB path).toList == (dirB to).toList))).1 ≠ 0 := by simpa using hc1
  refine G_seq ?_
  refine G_pure (E':=[⟨6,[],.int .i64 ((callS fails once calls (((rightB path)&&(rightB to))&&((dirB path).toList == (dirB to).toList))).1)⟩]) [0,0] [6] rfl kr ?_
  refine N_then ?_
  refine G_ret ?_
  refine N_then_ret ?_
  refine N_ret [.tmp 6] [.int .i64 ((callS fails once calls (((rightB path)&&(rightB to))&&((dirB path).toList == (dirB to).toList))).1)] rfl kr rfl ?_
  exact .inl ⟨hce, rfl, rfl⟩
 ·
  have hce : (callS fails once calls ((rightB path && rightB to) && ((dirB path).toList == (dirB to).toList))).1 = 0 := by simpa using hc1
  refine G_skip ?_
  refine N_then ?_
  refine G_seq ?_
  refine G_region ?_
  refine GL_pure (E':=[⟨29,[],.pointer (some ⟨d,2,none⟩)⟩,⟨0,[],pt d⟩,⟨1,[],.string path⟩,⟨2,[],.string to⟩]) [0,0,0] kr (j:=3) rfl ?_
  refine GL_load (i:=3) (ch:=[]) (b:=d) (off:=2) (v:=.map (some nb)) rfl rfl kr kr kr kr kr (At.grp 0 0 rfl rfl) rfl ?_
  refine GL_pure (E':=[⟨31,[],.string path⟩,⟨30,[],.map (some nb)⟩,⟨0,[],pt d⟩,⟨1,[],.string path⟩,⟨2,[],.string to⟩]) [0] kr (j:=5) rfl ?_
  refine GL_lookup (i:=5) (ch:=[]) (kt:=9) (et:=74) (r:=nb) (c:=nc) (m:=nm) (k:=path) (z:=.pointer none) (ov:=(some (pt p))) rfl rfl kr kr kr kr kr kr kr kr (At.grp 1 0 rfl rfl) (fun _=>hg) ?_
  refine GL_fin (E':=[⟨0,[],pt d⟩,⟨1,[],.string path⟩,⟨2,[],.string to⟩,⟨8,[],pt p⟩]) [0] [0,1,2,8] rfl kr ?_
  refine N_then ?_
  refine G_seq ?_
  refine G_seq ?_
  refine G_pure (E':=[⟨0,[],pt d⟩,⟨1,[],.string path⟩,⟨2,[],.string to⟩,⟨8,[],pt p⟩,⟨34,[],.bool false⟩]) [0,0] [0,1,2,8,34] rfl kr ?_
  refine N_then ?_
  refine G_condf kr ?_
  refine G_skip ?_
  refine N_then ?_
  refine G_seq ?_
  refine G_seq ?_
  refine G_pure (E':=[⟨0,[],pt d⟩,⟨1,[],.string path⟩,⟨2,[],.string to⟩,⟨8,[],pt p⟩,⟨37,[],.bool (!(path.toList == to.toList))⟩]) [0,0,0] [0,1,2,8,37] rfl kr ?_
  refine N_then ?_
  refine G_cond (b:=!(path.toList == to.toList)) kr (fun hc2=>?_) (fun hc2=>?_)
  ·
   have hsm := hc2
   refine G_regionH H kr ?_
   refine GH_pure (E':=[⟨38,[],pt d⟩,⟨1,[],.string path⟩,⟨2,[],.string to⟩,⟨8,[],pt p⟩]) 0 0 kr (fun w h=>(Sat.dropApp (((h.erase 2).erase 1).erase 0))) kr ?_
   refine GH_pure (E':=[⟨39,[],.string to⟩,⟨38,[],pt d⟩,⟨1,[],.string path⟩,⟨2,[],.string to⟩,⟨8,[],pt p⟩]) 1 0 kr (fun w h=>(Sat.dropApp (((h.erase 2).erase 1).erase 0))) kr ?_
   refine GH_pure (E':=[⟨42,[],.string to⟩,⟨39,[],.string to⟩,⟨38,[],pt d⟩,⟨1,[],.string path⟩,⟨8,[],pt p⟩]) 4 0 kr (fun w h=>(Sat.dropApp (((h.erase 2).erase 1).erase 0))) kr ?_
   refine GH_pure (E':=[⟨43,[],pt p⟩,⟨42,[],.string to⟩,⟨39,[],.string to⟩,⟨38,[],pt d⟩,⟨1,[],.string path⟩]) 5 0 kr (fun w h=>(Sat.dropApp (((h.erase 2).erase 1).erase 0))) kr ?_
   refine GH_pure (E':=[⟨44,[],.string path⟩,⟨43,[],pt p⟩,⟨42,[],.string to⟩,⟨39,[],.string to⟩,⟨38,[],pt d⟩]) 7 0 kr (fun w h=>(Sat.dropApp (((h.erase 2).erase 1).erase 0))) kr ?_
   refine GH_eff2 2 3 kr kr kr kr kr ?_ ?_
   ·
    refine GL_callQ (i:=2) (ch:=[]) (f:=38) (fst:=#[]) (caps:=#[]) (vs:=[.string to]) (v:=.string (dirB to)) rfl rfl rfl kr kr Tryz.func38 rfl rfl kr kr kr (fun _=>vfsDirOf _ hto _ _) ?_
    refine GH_back kr (fun w h=>(Sat.dropApp (((h.erase 2).erase 1).erase 0))) ?_
    refine GH_eff 3 kr kr kr ?_
    refine GL_makeMap (i:=3) (ch:=[]) rfl rfl kr kr kr (fun b3=>?_)
    refine GH_back kr (fun w h=>(Sat.dropApp ((((h.erase 3).erase 2).erase 1).erase 0))) ?_
    refine GH_eff2 6 8 kr kr kr kr kr ?_ ?_
    ·
     refine GL_mapPut (i:=6) (ch:=[]) (kt:=9) (et:=74) (r:=b3) (c:=0) (j:=0) (q:=0) (m:=[]) (k:=to) (v:=pt p) (H':=([(b3,.map (encM ([(to,pt p,0)])) 1)]::[(d,.cells #[.int .i64 room,bv,.map (some nb),.map (some kb),.map (some cb),.bool ((callS fails once calls (((rightB path)&&(rightB to))&&((dirB path).toList == (dirB to).toList))).2.1),.bool once,.int .i64 ((callS fails once calls (((rightB path)&&(rightB to))&&((dirB path).toList == (dirB to).toList))).2.2)] 72 (0,0))]::[(nb,.map (encM nm) nc)]::[(cb,.map (encM cm) cc)]::(rowsG rows++H))) rfl (.inr rfl) kr kr kr kr kr kr kr kr rfl rfl rfl ?_
     refine GH_back kr (fun w h=>(Sat.dropApp ((((h.erase 3).erase 2).erase 1).erase 0))) ?_
     refine GH_eff 8 kr kr kr ?_
     refine GL_mapPut (i:=8) (ch:=[]) (kt:=9) (et:=74) (r:=b3) (c:=1) (j:=0) (q:=0) (m:=[(to,pt p,0)]) (k:=path) (v:=.pointer none) (H':=([(b3,.map (encM (mput ([(to,pt p,0)]) 1 path (.pointer none))) (if mhas ([(to,pt p,0)]) path then 1 else 1+1))]::[(d,.cells #[.int .i64 room,bv,.map (some nb),.map (some kb),.map (some cb),.bool ((callS fails once calls (((rightB path)&&(rightB to))&&((dirB path).toList == (dirB to).toList))).2.1),.bool once,.int .i64 ((callS fails once calls (((rightB path)&&(rightB to))&&((dirB path).toList == (dirB to).toList))).2.2)] 72 (0,0))]::[(nb,.map (encM nm) nc)]::[(cb,.map (encM cm) cc)]::(rowsG rows++H))) rfl (.inr rfl) kr kr kr kr kr kr kr kr rfl rfl rfl ?_
     refine GH_back kr (fun w h=>(Sat.dropApp ((((h.erase 3).erase 2).erase 1).erase 0))) ?_
     refine GH_pure (E':=[⟨45,[],.map (some b3)⟩,⟨40,[],.string (dirB to)⟩,⟨38,[],pt d⟩]) 9 0 kr (fun w h=>(Sat.dropApp ((((h.erase 3).erase 2).erase 1).erase 0))) kr ?_
     refine GH_eff 10 kr kr kr ?_
     refine GL_heap rfl (H':=([(d,.cells #[.int .i64 room,bv,.map (some nb),.map (some kb),.map (some cb),.bool ((callS fails once calls (((rightB path)&&(rightB to))&&((dirB path).toList == (dirB to).toList))).2.1),.bool once,.int .i64 ((callS fails once calls (((rightB path)&&(rightB to))&&((dirB path).toList == (dirB to).toList))).2.2)] 72 (0,0))]::[(nb,.map (encM nm) nc)]::[(cb,.map (encM cm) cc)]::[(b3,.map (encM (mput ([(to,pt p,0)]) 1 path (.pointer none))) (if mhas ([(to,pt p,0)]) path then 1 else 1+1))]::(rowsG rows++H))) (fun w h=>(((h.front (j:=3) rfl).front (j:=3) rfl).front (j:=3) rfl)) ?_
     refine GL_call (i:=10) (ch:=[]) (f:=37) (fst:=#[]) (caps:=#[]) (vs:=[pt d,.string (dirB to),.map (some b3)]) rfl rfl rfl kr kr Tryz.func37 rfl rfl kr kr (chSure_of kr) (vName d nb kb cb b3 nc cc (if mhas ([(to,pt p,0)]) path then 1 else 1+1) room ((callS fails once calls (((rightB path)&&(rightB to))&&((dirB path).toList == (dirB to).toList))).2.2) bv ((callS fails once calls (((rightB path)&&(rightB to))&&((dirB path).toList == (dirB to).toList))).2.1) once nm cm (mput ([(to,pt p,0)]) 1 path (.pointer none)) (dirB to) hn (MapOk.put (mapok1 _ _) _ _) (hvput (Q:=fun v=>v = .pointer none ∨ ∃ p,v = .pointer (some ⟨p,0,none⟩)) (hv1 _ _) (.inl rfl)) rows hR hl [[(b3,.map (encM (mput ([(to,pt p,0)]) 1 path (.pointer none))) (if mhas ([(to,pt p,0)]) path then 1 else 1+1))]] _ H (At.grp 0 0 rfl rfl)) ?_
     rintro v H' ⟨dn4, x5, rows6, hdn7, rfl, hR8, hA9, rfl⟩
     refine GH_back kr (fun w h=>(Sat.dropApp ((((h.erase 3).erase 2).erase 1).erase 0))) ?_
     refine GH_done (E':=[]) [] kr kr ?_
     refine N_then ?_
     refine G_seq ?_
     refine G_pure (E':=[⟨6,[],.int .i64 0⟩]) [0] [6] rfl kr ?_
     refine N_then ?_
     refine G_ret ?_
     refine N_ret [.tmp 6] [.int .i64 0] rfl kr rfl ?_
     exact .inr ⟨hce, .inr ⟨hsm, rfl, _, _, _, _, x5, rows6, .inl ⟨rfl, rfl⟩, hdn7, hR8, hA9, rfl⟩⟩
    ·
     refine GL_mapPut (i:=8) (ch:=[]) (kt:=9) (et:=74) (r:=b3) (c:=0) (j:=0) (q:=0) (m:=[]) (k:=path) (v:=.pointer none) (H':=([(b3,.map (encM ([(path,.pointer none,0)])) 1)]::[(d,.cells #[.int .i64 room,bv,.map (some nb),.map (some kb),.map (some cb),.bool ((callS fails once calls (((rightB path)&&(rightB to))&&((dirB path).toList == (dirB to).toList))).2.1),.bool once,.int .i64 ((callS fails once calls (((rightB path)&&(rightB to))&&((dirB path).toList == (dirB to).toList))).2.2)] 72 (0,0))]::[(nb,.map (encM nm) nc)]::[(cb,.map (encM cm) cc)]::(rowsG rows++H))) rfl (.inr rfl) kr kr kr kr kr kr kr kr rfl rfl rfl ?_
     refine GH_back kr (fun w h=>(Sat.dropApp ((((h.erase 3).erase 2).erase 1).erase 0))) ?_
     refine GH_eff 6 kr kr kr ?_
     refine GL_mapPut (i:=6) (ch:=[]) (kt:=9) (et:=74) (r:=b3) (c:=1) (j:=0) (q:=0) (m:=[(path,.pointer none,0)]) (k:=to) (v:=pt p) (H':=([(b3,.map (encM (mput ([(path,.pointer none,0)]) 1 to (pt p))) (if mhas ([(path,.pointer none,0)]) to then 1 else 1+1))]::[(d,.cells #[.int .i64 room,bv,.map (some nb),.map (some kb),.map (some cb),.bool ((callS fails once calls (((rightB path)&&(rightB to))&&((dirB path).toList == (dirB to).toList))).2.1),.bool once,.int .i64 ((callS fails once calls (((rightB path)&&(rightB to))&&((dirB path).toList == (dirB to).toList))).2.2)] 72 (0,0))]::[(nb,.map (encM nm) nc)]::[(cb,.map (encM cm) cc)]::(rowsG rows++H))) rfl (.inr rfl) kr kr kr kr kr kr kr kr rfl rfl rfl ?_
     refine GH_back kr (fun w h=>(Sat.dropApp ((((h.erase 3).erase 2).erase 1).erase 0))) ?_
     refine GH_pure (E':=[⟨45,[],.map (some b3)⟩,⟨40,[],.string (dirB to)⟩,⟨38,[],pt d⟩]) 9 0 kr (fun w h=>(Sat.dropApp ((((h.erase 3).erase 2).erase 1).erase 0))) kr ?_
     refine GH_eff 10 kr kr kr ?_
     refine GL_heap rfl (H':=([(d,.cells #[.int .i64 room,bv,.map (some nb),.map (some kb),.map (some cb),.bool ((callS fails once calls (((rightB path)&&(rightB to))&&((dirB path).toList == (dirB to).toList))).2.1),.bool once,.int .i64 ((callS fails once calls (((rightB path)&&(rightB to))&&((dirB path).toList == (dirB to).toList))).2.2)] 72 (0,0))]::[(nb,.map (encM nm) nc)]::[(cb,.map (encM cm) cc)]::[(b3,.map (encM (mput ([(path,.pointer none,0)]) 1 to (pt p))) (if mhas ([(path,.pointer none,0)]) to then 1 else 1+1))]::(rowsG rows++H))) (fun w h=>(((h.front (j:=3) rfl).front (j:=3) rfl).front (j:=3) rfl)) ?_
     refine GL_call (i:=10) (ch:=[]) (f:=37) (fst:=#[]) (caps:=#[]) (vs:=[pt d,.string (dirB to),.map (some b3)]) rfl rfl rfl kr kr Tryz.func37 rfl rfl kr kr (chSure_of kr) (vName d nb kb cb b3 nc cc (if mhas ([(path,.pointer none,0)]) to then 1 else 1+1) room ((callS fails once calls (((rightB path)&&(rightB to))&&((dirB path).toList == (dirB to).toList))).2.2) bv ((callS fails once calls (((rightB path)&&(rightB to))&&((dirB path).toList == (dirB to).toList))).2.1) once nm cm (mput ([(path,.pointer none,0)]) 1 to (pt p)) (dirB to) hn (MapOk.put (mapok1 _ _) _ _) (hvput (Q:=fun v=>v = .pointer none ∨ ∃ p,v = .pointer (some ⟨p,0,none⟩)) (hv0 _) (.inr ⟨_,rfl⟩)) rows hR hl [[(b3,.map (encM (mput ([(path,.pointer none,0)]) 1 to (pt p))) (if mhas ([(path,.pointer none,0)]) to then 1 else 1+1))]] _ H (At.grp 0 0 rfl rfl)) ?_
     rintro v H' ⟨dn10, x11, rows12, hdn13, rfl, hR14, hA15, rfl⟩
     refine GH_back kr (fun w h=>(Sat.dropApp ((((h.erase 3).erase 2).erase 1).erase 0))) ?_
     refine GH_done (E':=[]) [] kr kr ?_
     refine N_then ?_
     refine G_seq ?_
     refine G_pure (E':=[⟨6,[],.int .i64 0⟩]) [0] [6] rfl kr ?_
     refine N_then ?_
     refine G_ret ?_
     refine N_ret [.tmp 6] [.int .i64 0] rfl kr rfl ?_
     exact .inr ⟨hce, .inr ⟨hsm, rfl, _, _, _, _, x11, rows12, .inr ⟨rfl, rfl⟩, hdn13, hR14, hA15, rfl⟩⟩
   ·
    refine GL_makeMap (i:=3) (ch:=[]) rfl rfl kr kr kr (fun b16=>?_)
    refine GH_back kr (fun w h=>(Sat.dropApp ((((h.erase 3).erase 2).erase 1).erase 0))) ?_
    refine GH_eff3 2 6 8 kr kr kr kr kr kr kr ?_ ?_ ?_
    ·
     refine GL_callQ (i:=2) (ch:=[]) (f:=38) (fst:=#[]) (caps:=#[]) (vs:=[.string to]) (v:=.string (dirB to)) rfl rfl rfl kr kr Tryz.func38 rfl rfl kr kr kr (fun _=>vfsDirOf _ hto _ _) ?_
     refine GH_back kr (fun w h=>(Sat.dropApp ((((h.erase 3).erase 2).erase 1).erase 0))) ?_
     refine GH_eff2 6 8 kr kr kr kr kr ?_ ?_
     ·
      refine GL_mapPut (i:=6) (ch:=[]) (kt:=9) (et:=74) (r:=b16) (c:=0) (j:=0) (q:=0) (m:=[]) (k:=to) (v:=pt p) (H':=([(b16,.map (encM ([(to,pt p,0)])) 1)]::[(d,.cells #[.int .i64 room,bv,.map (some nb),.map (some kb),.map (some cb),.bool ((callS fails once calls (((rightB path)&&(rightB to))&&((dirB path).toList == (dirB to).toList))).2.1),.bool once,.int .i64 ((callS fails once calls (((rightB path)&&(rightB to))&&((dirB path).toList == (dirB to).toList))).2.2)] 72 (0,0))]::[(nb,.map (encM nm) nc)]::[(cb,.map (encM cm) cc)]::(rowsG rows++H))) rfl (.inr rfl) kr kr kr kr kr kr kr kr rfl rfl rfl ?_
      refine GH_back kr (fun w h=>(Sat.dropApp ((((h.erase 3).erase 2).erase 1).erase 0))) ?_
      refine GH_eff 8 kr kr kr ?_
      refine GL_mapPut (i:=8) (ch:=[]) (kt:=9) (et:=74) (r:=b16) (c:=1) (j:=0) (q:=0) (m:=[(to,pt p,0)]) (k:=path) (v:=.pointer none) (H':=([(b16,.map (encM (mput ([(to,pt p,0)]) 1 path (.pointer none))) (if mhas ([(to,pt p,0)]) path then 1 else 1+1))]::[(d,.cells #[.int .i64 room,bv,.map (some nb),.map (some kb),.map (some cb),.bool ((callS fails once calls (((rightB path)&&(rightB to))&&((dirB path).toList == (dirB to).toList))).2.1),.bool once,.int .i64 ((callS fails once calls (((rightB path)&&(rightB to))&&((dirB path).toList == (dirB to).toList))).2.2)] 72 (0,0))]::[(nb,.map (encM nm) nc)]::[(cb,.map (encM cm) cc)]::(rowsG rows++H))) rfl (.inr rfl) kr kr kr kr kr kr kr kr rfl rfl rfl ?_
      refine GH_back kr (fun w h=>(Sat.dropApp ((((h.erase 3).erase 2).erase 1).erase 0))) ?_
      refine GH_pure (E':=[⟨45,[],.map (some b16)⟩,⟨40,[],.string (dirB to)⟩,⟨38,[],pt d⟩]) 9 0 kr (fun w h=>(Sat.dropApp ((((h.erase 3).erase 2).erase 1).erase 0))) kr ?_
      refine GH_eff 10 kr kr kr ?_
      refine GL_heap rfl (H':=([(d,.cells #[.int .i64 room,bv,.map (some nb),.map (some kb),.map (some cb),.bool ((callS fails once calls (((rightB path)&&(rightB to))&&((dirB path).toList == (dirB to).toList))).2.1),.bool once,.int .i64 ((callS fails once calls (((rightB path)&&(rightB to))&&((dirB path).toList == (dirB to).toList))).2.2)] 72 (0,0))]::[(nb,.map (encM nm) nc)]::[(cb,.map (encM cm) cc)]::[(b16,.map (encM (mput ([(to,pt p,0)]) 1 path (.pointer none))) (if mhas ([(to,pt p,0)]) path then 1 else 1+1))]::(rowsG rows++H))) (fun w h=>(((h.front (j:=3) rfl).front (j:=3) rfl).front (j:=3) rfl)) ?_
      refine GL_call (i:=10) (ch:=[]) (f:=37) (fst:=#[]) (caps:=#[]) (vs:=[pt d,.string (dirB to),.map (some b16)]) rfl rfl rfl kr kr Tryz.func37 rfl rfl kr kr (chSure_of kr) (vName d nb kb cb b16 nc cc (if mhas ([(to,pt p,0)]) path then 1 else 1+1) room ((callS fails once calls (((rightB path)&&(rightB to))&&((dirB path).toList == (dirB to).toList))).2.2) bv ((callS fails once calls (((rightB path)&&(rightB to))&&((dirB path).toList == (dirB to).toList))).2.1) once nm cm (mput ([(to,pt p,0)]) 1 path (.pointer none)) (dirB to) hn (MapOk.put (mapok1 _ _) _ _) (hvput (Q:=fun v=>v = .pointer none ∨ ∃ p,v = .pointer (some ⟨p,0,none⟩)) (hv1 _ _) (.inl rfl)) rows hR hl [[(b16,.map (encM (mput ([(to,pt p,0)]) 1 path (.pointer none))) (if mhas ([(to,pt p,0)]) path then 1 else 1+1))]] _ H (At.grp 0 0 rfl rfl)) ?_
      rintro v H' ⟨dn17, x18, rows19, hdn20, rfl, hR21, hA22, rfl⟩
      refine GH_back kr (fun w h=>(Sat.dropApp ((((h.erase 3).erase 2).erase 1).erase 0))) ?_
      refine GH_done (E':=[]) [] kr kr ?_
      refine N_then ?_
      refine G_seq ?_
      refine G_pure (E':=[⟨6,[],.int .i64 0⟩]) [0] [6] rfl kr ?_
      refine N_then ?_
      refine G_ret ?_
      refine N_ret [.tmp 6] [.int .i64 0] rfl kr rfl ?_
      exact .inr ⟨hce, .inr ⟨hsm, rfl, _, _, _, _, x18, rows19, .inl ⟨rfl, rfl⟩, hdn20, hR21, hA22, rfl⟩⟩
     ·
      refine GL_mapPut (i:=8) (ch:=[]) (kt:=9) (et:=74) (r:=b16) (c:=0) (j:=0) (q:=0) (m:=[]) (k:=path) (v:=.pointer none) (H':=([(b16,.map (encM ([(path,.pointer none,0)])) 1)]::[(d,.cells #[.int .i64 room,bv,.map (some nb),.map (some kb),.map (some cb),.bool ((callS fails once calls (((rightB path)&&(rightB to))&&((dirB path).toList == (dirB to).toList))).2.1),.bool once,.int .i64 ((callS fails once calls (((rightB path)&&(rightB to))&&((dirB path).toList == (dirB to).toList))).2.2)] 72 (0,0))]::[(nb,.map (encM nm) nc)]::[(cb,.map (encM cm) cc)]::(rowsG rows++H))) rfl (.inr rfl) kr kr kr kr kr kr kr kr rfl rfl rfl ?_
      refine GH_back kr (fun w h=>(Sat.dropApp ((((h.erase 3).erase 2).erase 1).erase 0))) ?_
      refine GH_eff 6 kr kr kr ?_
      refine GL_mapPut (i:=6) (ch:=[]) (kt:=9) (et:=74) (r:=b16) (c:=1) (j:=0) (q:=0) (m:=[(path,.pointer none,0)]) (k:=to) (v:=pt p) (H':=([(b16,.map (encM (mput ([(path,.pointer none,0)]) 1 to (pt p))) (if mhas ([(path,.pointer none,0)]) to then 1 else 1+1))]::[(d,.cells #[.int .i64 room,bv,.map (some nb),.map (some kb),.map (some cb),.bool ((callS fails once calls (((rightB path)&&(rightB to))&&((dirB path).toList == (dirB to).toList))).2.1),.bool once,.int .i64 ((callS fails once calls (((rightB path)&&(rightB to))&&((dirB path).toList == (dirB to).toList))).2.2)] 72 (0,0))]::[(nb,.map (encM nm) nc)]::[(cb,.map (encM cm) cc)]::(rowsG rows++H))) rfl (.inr rfl) kr kr kr kr kr kr kr kr rfl rfl rfl ?_
      refine GH_back kr (fun w h=>(Sat.dropApp ((((h.erase 3).erase 2).erase 1).erase 0))) ?_
      refine GH_pure (E':=[⟨45,[],.map (some b16)⟩,⟨40,[],.string (dirB to)⟩,⟨38,[],pt d⟩]) 9 0 kr (fun w h=>(Sat.dropApp ((((h.erase 3).erase 2).erase 1).erase 0))) kr ?_
      refine GH_eff 10 kr kr kr ?_
      refine GL_heap rfl (H':=([(d,.cells #[.int .i64 room,bv,.map (some nb),.map (some kb),.map (some cb),.bool ((callS fails once calls (((rightB path)&&(rightB to))&&((dirB path).toList == (dirB to).toList))).2.1),.bool once,.int .i64 ((callS fails once calls (((rightB path)&&(rightB to))&&((dirB path).toList == (dirB to).toList))).2.2)] 72 (0,0))]::[(nb,.map (encM nm) nc)]::[(cb,.map (encM cm) cc)]::[(b16,.map (encM (mput ([(path,.pointer none,0)]) 1 to (pt p))) (if mhas ([(path,.pointer none,0)]) to then 1 else 1+1))]::(rowsG rows++H))) (fun w h=>(((h.front (j:=3) rfl).front (j:=3) rfl).front (j:=3) rfl)) ?_
      refine GL_call (i:=10) (ch:=[]) (f:=37) (fst:=#[]) (caps:=#[]) (vs:=[pt d,.string (dirB to),.map (some b16)]) rfl rfl rfl kr kr Tryz.func37 rfl rfl kr kr (chSure_of kr) (vName d nb kb cb b16 nc cc (if mhas ([(path,.pointer none,0)]) to then 1 else 1+1) room ((callS fails once calls (((rightB path)&&(rightB to))&&((dirB path).toList == (dirB to).toList))).2.2) bv ((callS fails once calls (((rightB path)&&(rightB to))&&((dirB path).toList == (dirB to).toList))).2.1) once nm cm (mput ([(path,.pointer none,0)]) 1 to (pt p)) (dirB to) hn (MapOk.put (mapok1 _ _) _ _) (hvput (Q:=fun v=>v = .pointer none ∨ ∃ p,v = .pointer (some ⟨p,0,none⟩)) (hv0 _) (.inr ⟨_,rfl⟩)) rows hR hl [[(b16,.map (encM (mput ([(path,.pointer none,0)]) 1 to (pt p))) (if mhas ([(path,.pointer none,0)]) to then 1 else 1+1))]] _ H (At.grp 0 0 rfl rfl)) ?_
      rintro v H' ⟨dn23, x24, rows25, hdn26, rfl, hR27, hA28, rfl⟩
      refine GH_back kr (fun w h=>(Sat.dropApp ((((h.erase 3).erase 2).erase 1).erase 0))) ?_
      refine GH_done (E':=[]) [] kr kr ?_
      refine N_then ?_
      refine G_seq ?_
      refine G_pure (E':=[⟨6,[],.int .i64 0⟩]) [0] [6] rfl kr ?_
      refine N_then ?_
      refine G_ret ?_
      refine N_ret [.tmp 6] [.int .i64 0] rfl kr rfl ?_
      exact .inr ⟨hce, .inr ⟨hsm, rfl, _, _, _, _, x24, rows25, .inr ⟨rfl, rfl⟩, hdn26, hR27, hA28, rfl⟩⟩
    ·
     refine GL_mapPut (i:=6) (ch:=[]) (kt:=9) (et:=74) (r:=b16) (c:=0) (j:=0) (q:=0) (m:=[]) (k:=to) (v:=pt p) (H':=([(b16,.map (encM ([(to,pt p,0)])) 1)]::[(d,.cells #[.int .i64 room,bv,.map (some nb),.map (some kb),.map (some cb),.bool ((callS fails once calls (((rightB path)&&(rightB to))&&((dirB path).toList == (dirB to).toList))).2.1),.bool once,.int .i64 ((callS fails once calls (((rightB path)&&(rightB to))&&((dirB path).toList == (dirB to).toList))).2.2)] 72 (0,0))]::[(nb,.map (encM nm) nc)]::[(cb,.map (encM cm) cc)]::(rowsG rows++H))) rfl (.inr rfl) kr kr kr kr kr kr kr kr rfl rfl rfl ?_
     refine GH_back kr (fun w h=>(Sat.dropApp ((((h.erase 3).erase 2).erase 1).erase 0))) ?_
     refine GH_eff2 2 8 kr kr kr kr kr ?_ ?_
     ·
      refine GL_callQ (i:=2) (ch:=[]) (f:=38) (fst:=#[]) (caps:=#[]) (vs:=[.string to]) (v:=.string (dirB to)) rfl rfl rfl kr kr Tryz.func38 rfl rfl kr kr kr (fun _=>vfsDirOf _ hto _ _) ?_
      refine GH_back kr (fun w h=>(Sat.dropApp ((((h.erase 3).erase 2).erase 1).erase 0))) ?_
      refine GH_eff 8 kr kr kr ?_
      refine GL_mapPut (i:=8) (ch:=[]) (kt:=9) (et:=74) (r:=b16) (c:=1) (j:=0) (q:=0) (m:=[(to,pt p,0)]) (k:=path) (v:=.pointer none) (H':=([(b16,.map (encM (mput ([(to,pt p,0)]) 1 path (.pointer none))) (if mhas ([(to,pt p,0)]) path then 1 else 1+1))]::[(d,.cells #[.int .i64 room,bv,.map (some nb),.map (some kb),.map (some cb),.bool ((callS fails once calls (((rightB path)&&(rightB to))&&((dirB path).toList == (dirB to).toList))).2.1),.bool once,.int .i64 ((callS fails once calls (((rightB path)&&(rightB to))&&((dirB path).toList == (dirB to).toList))).2.2)] 72 (0,0))]::[(nb,.map (encM nm) nc)]::[(cb,.map (encM cm) cc)]::(rowsG rows++H))) rfl (.inr rfl) kr kr kr kr kr kr kr kr rfl rfl rfl ?_
      refine GH_back kr (fun w h=>(Sat.dropApp ((((h.erase 3).erase 2).erase 1).erase 0))) ?_
      refine GH_pure (E':=[⟨45,[],.map (some b16)⟩,⟨40,[],.string (dirB to)⟩,⟨38,[],pt d⟩]) 9 0 kr (fun w h=>(Sat.dropApp ((((h.erase 3).erase 2).erase 1).erase 0))) kr ?_
      refine GH_eff 10 kr kr kr ?_
      refine GL_heap rfl (H':=([(d,.cells #[.int .i64 room,bv,.map (some nb),.map (some kb),.map (some cb),.bool ((callS fails once calls (((rightB path)&&(rightB to))&&((dirB path).toList == (dirB to).toList))).2.1),.bool once,.int .i64 ((callS fails once calls (((rightB path)&&(rightB to))&&((dirB path).toList == (dirB to).toList))).2.2)] 72 (0,0))]::[(nb,.map (encM nm) nc)]::[(cb,.map (encM cm) cc)]::[(b16,.map (encM (mput ([(to,pt p,0)]) 1 path (.pointer none))) (if mhas ([(to,pt p,0)]) path then 1 else 1+1))]::(rowsG rows++H))) (fun w h=>(((h.front (j:=3) rfl).front (j:=3) rfl).front (j:=3) rfl)) ?_
      refine GL_call (i:=10) (ch:=[]) (f:=37) (fst:=#[]) (caps:=#[]) (vs:=[pt d,.string (dirB to),.map (some b16)]) rfl rfl rfl kr kr Tryz.func37 rfl rfl kr kr (chSure_of kr) (vName d nb kb cb b16 nc cc (if mhas ([(to,pt p,0)]) path then 1 else 1+1) room ((callS fails once calls (((rightB path)&&(rightB to))&&((dirB path).toList == (dirB to).toList))).2.2) bv ((callS fails once calls (((rightB path)&&(rightB to))&&((dirB path).toList == (dirB to).toList))).2.1) once nm cm (mput ([(to,pt p,0)]) 1 path (.pointer none)) (dirB to) hn (MapOk.put (mapok1 _ _) _ _) (hvput (Q:=fun v=>v = .pointer none ∨ ∃ p,v = .pointer (some ⟨p,0,none⟩)) (hv1 _ _) (.inl rfl)) rows hR hl [[(b16,.map (encM (mput ([(to,pt p,0)]) 1 path (.pointer none))) (if mhas ([(to,pt p,0)]) path then 1 else 1+1))]] _ H (At.grp 0 0 rfl rfl)) ?_
      rintro v H' ⟨dn29, x30, rows31, hdn32, rfl, hR33, hA34, rfl⟩
      refine GH_back kr (fun w h=>(Sat.dropApp ((((h.erase 3).erase 2).erase 1).erase 0))) ?_
      refine GH_done (E':=[]) [] kr kr ?_
      refine N_then ?_
      refine G_seq ?_
      refine G_pure (E':=[⟨6,[],.int .i64 0⟩]) [0] [6] rfl kr ?_
      refine N_then ?_
      refine G_ret ?_
      refine N_ret [.tmp 6] [.int .i64 0] rfl kr rfl ?_
      exact .inr ⟨hce, .inr ⟨hsm, rfl, _, _, _, _, x30, rows31, .inl ⟨rfl, rfl⟩, hdn32, hR33, hA34, rfl⟩⟩
     ·
      refine GL_mapPut (i:=8) (ch:=[]) (kt:=9) (et:=74) (r:=b16) (c:=1) (j:=0) (q:=0) (m:=[(to,pt p,0)]) (k:=path) (v:=.pointer none) (H':=([(b16,.map (encM (mput ([(to,pt p,0)]) 1 path (.pointer none))) (if mhas ([(to,pt p,0)]) path then 1 else 1+1))]::[(d,.cells #[.int .i64 room,bv,.map (some nb),.map (some kb),.map (some cb),.bool ((callS fails once calls (((rightB path)&&(rightB to))&&((dirB path).toList == (dirB to).toList))).2.1),.bool once,.int .i64 ((callS fails once calls (((rightB path)&&(rightB to))&&((dirB path).toList == (dirB to).toList))).2.2)] 72 (0,0))]::[(nb,.map (encM nm) nc)]::[(cb,.map (encM cm) cc)]::(rowsG rows++H))) rfl (.inr rfl) kr kr kr kr kr kr kr kr rfl rfl rfl ?_
      refine GH_back kr (fun w h=>(Sat.dropApp ((((h.erase 3).erase 2).erase 1).erase 0))) ?_
      refine GH_pure (E':=[⟨45,[],.map (some b16)⟩,⟨39,[],.string to⟩,⟨38,[],pt d⟩]) 9 0 kr (fun w h=>(Sat.dropApp ((((h.erase 3).erase 2).erase 1).erase 0))) kr ?_
      refine GH_eff 2 kr kr kr ?_
      refine GL_callQ (i:=2) (ch:=[]) (f:=38) (fst:=#[]) (caps:=#[]) (vs:=[.string to]) (v:=.string (dirB to)) rfl rfl rfl kr kr Tryz.func38 rfl rfl kr kr kr (fun _=>vfsDirOf _ hto _ _) ?_
      refine GH_back kr (fun w h=>(Sat.dropApp ((((h.erase 3).erase 2).erase 1).erase 0))) ?_
      refine GH_eff 10 kr kr kr ?_
      refine GL_heap rfl (H':=([(d,.cells #[.int .i64 room,bv,.map (some nb),.map (some kb),.map (some cb),.bool ((callS fails once calls (((rightB path)&&(rightB to))&&((dirB path).toList == (dirB to).toList))).2.1),.bool once,.int .i64 ((callS fails once calls (((rightB path)&&(rightB to))&&((dirB path).toList == (dirB to).toList))).2.2)] 72 (0,0))]::[(nb,.map (encM nm) nc)]::[(cb,.map (encM cm) cc)]::[(b16,.map (encM (mput ([(to,pt p,0)]) 1 path (.pointer none))) (if mhas ([(to,pt p,0)]) path then 1 else 1+1))]::(rowsG rows++H))) (fun w h=>(((h.front (j:=3) rfl).front (j:=3) rfl).front (j:=3) rfl)) ?_
      refine GL_call (i:=10) (ch:=[]) (f:=37) (fst:=#[]) (caps:=#[]) (vs:=[pt d,.string (dirB to),.map (some b16)]) rfl rfl rfl kr kr Tryz.func37 rfl rfl kr kr (chSure_of kr) (vName d nb kb cb b16 nc cc (if mhas ([(to,pt p,0)]) path then 1 else 1+1) room ((callS fails once calls (((rightB path)&&(rightB to))&&((dirB path).toList == (dirB to).toList))).2.2) bv ((callS fails once calls (((rightB path)&&(rightB to))&&((dirB path).toList == (dirB to).toList))).2.1) once nm cm (mput ([(to,pt p,0)]) 1 path (.pointer none)) (dirB to) hn (MapOk.put (mapok1 _ _) _ _) (hvput (Q:=fun v=>v = .pointer none ∨ ∃ p,v = .pointer (some ⟨p,0,none⟩)) (hv1 _ _) (.inl rfl)) rows hR hl [[(b16,.map (encM (mput ([(to,pt p,0)]) 1 path (.pointer none))) (if mhas ([(to,pt p,0)]) path then 1 else 1+1))]] _ H (At.grp 0 0 rfl rfl)) ?_
      rintro v H' ⟨dn35, x36, rows37, hdn38, rfl, hR39, hA40, rfl⟩
      refine GH_back kr (fun w h=>(Sat.dropApp ((((h.erase 3).erase 2).erase 1).erase 0))) ?_
      refine GH_done (E':=[]) [] kr kr ?_
      refine N_then ?_
      refine G_seq ?_
      refine G_pure (E':=[⟨6,[],.int .i64 0⟩]) [0] [6] rfl kr ?_
      refine N_then ?_
      refine G_ret ?_
      refine N_ret [.tmp 6] [.int .i64 0] rfl kr rfl ?_
      exact .inr ⟨hce, .inr ⟨hsm, rfl, _, _, _, _, x36, rows37, .inl ⟨rfl, rfl⟩, hdn38, hR39, hA40, rfl⟩⟩
    ·
     refine GL_mapPut (i:=8) (ch:=[]) (kt:=9) (et:=74) (r:=b16) (c:=0) (j:=0) (q:=0) (m:=[]) (k:=path) (v:=.pointer none) (H':=([(b16,.map (encM ([(path,.pointer none,0)])) 1)]::[(d,.cells #[.int .i64 room,bv,.map (some nb),.map (some kb),.map (some cb),.bool ((callS fails once calls (((rightB path)&&(rightB to))&&((dirB path).toList == (dirB to).toList))).2.1),.bool once,.int .i64 ((callS fails once calls (((rightB path)&&(rightB to))&&((dirB path).toList == (dirB to).toList))).2.2)] 72 (0,0))]::[(nb,.map (encM nm) nc)]::[(cb,.map (encM cm) cc)]::(rowsG rows++H))) rfl (.inr rfl) kr kr kr kr kr kr kr kr rfl rfl rfl ?_
     refine GH_back kr (fun w h=>(Sat.dropApp ((((h.erase 3).erase 2).erase 1).erase 0))) ?_
     refine GH_eff2 2 6 kr kr kr kr kr ?_ ?_
     ·
      refine GL_callQ (i:=2) (ch:=[]) (f:=38) (fst:=#[]) (caps:=#[]) (vs:=[.string to]) (v:=.string (dirB to)) rfl rfl rfl kr kr Tryz.func38 rfl rfl kr kr kr (fun _=>vfsDirOf _ hto _ _) ?_
      refine GH_back kr (fun w h=>(Sat.dropApp ((((h.erase 3).erase 2).erase 1).erase 0))) ?_
      refine GH_eff 6 kr kr kr ?_
      refine GL_mapPut (i:=6) (ch:=[]) (kt:=9) (et:=74) (r:=b16) (c:=1) (j:=0) (q:=0) (m:=[(path,.pointer none,0)]) (k:=to) (v:=pt p) (H':=([(b16,.map (encM (mput ([(path,.pointer none,0)]) 1 to (pt p))) (if mhas ([(path,.pointer none,0)]) to then 1 else 1+1))]::[(d,.cells #[.int .i64 room,bv,.map (some nb),.map (some kb),.map (some cb),.bool ((callS fails once calls (((rightB path)&&(rightB to))&&((dirB path).toList == (dirB to).toList))).2.1),.bool once,.int .i64 ((callS fails once calls (((rightB path)&&(rightB to))&&((dirB path).toList == (dirB to).toList))).2.2)] 72 (0,0))]::[(nb,.map (encM nm) nc)]::[(cb,.map (encM cm) cc)]::(rowsG rows++H))) rfl (.inr rfl) kr kr kr kr kr kr kr kr rfl rfl rfl ?_
      refine GH_back kr (fun w h=>(Sat.dropApp ((((h.erase 3).erase 2).erase 1).erase 0))) ?_
      refine GH_pure (E':=[⟨45,[],.map (some b16)⟩,⟨40,[],.string (dirB to)⟩,⟨38,[],pt d⟩]) 9 0 kr (fun w h=>(Sat.dropApp ((((h.erase 3).erase 2).erase 1).erase 0))) kr ?_
      refine GH_eff 10 kr kr kr ?_
      refine GL_heap rfl (H':=([(d,.cells #[.int .i64 room,bv,.map (some nb),.map (some kb),.map (some cb),.bool ((callS fails once calls (((rightB path)&&(rightB to))&&((dirB path).toList == (dirB to).toList))).2.1),.bool once,.int .i64 ((callS fails once calls (((rightB path)&&(rightB to))&&((dirB path).toList == (dirB to).toList))).2.2)] 72 (0,0))]::[(nb,.map (encM nm) nc)]::[(cb,.map (encM cm) cc)]::[(b16,.map (encM (mput ([(path,.pointer none,0)]) 1 to (pt p))) (if mhas ([(path,.pointer none,0)]) to then 1 else 1+1))]::(rowsG rows++H))) (fun w h=>(((h.front (j:=3) rfl).front (j:=3) rfl).front (j:=3) rfl)) ?_
      refine GL_call (i:=10) (ch:=[]) (f:=37) (fst:=#[]) (caps:=#[]) (vs:=[pt d,.string (dirB to),.map (some b16)]) rfl rfl rfl kr kr Tryz.func37 rfl rfl kr kr (chSure_of kr) (vName d nb kb cb b16 nc cc (if mhas ([(path,.pointer none,0)]) to then 1 else 1+1) room ((callS fails once calls (((rightB path)&&(rightB to))&&((dirB path).toList == (dirB to).toList))).2.2) bv ((callS fails once calls (((rightB path)&&(rightB to))&&((dirB path).toList == (dirB to).toList))).2.1) once nm cm (mput ([(path,.pointer none,0)]) 1 to (pt p)) (dirB to) hn (MapOk.put (mapok1 _ _) _ _) (hvput (Q:=fun v=>v = .pointer none ∨ ∃ p,v = .pointer (some ⟨p,0,none⟩)) (hv0 _) (.inr ⟨_,rfl⟩)) rows hR hl [[(b16,.map (encM (mput ([(path,.pointer none,0)]) 1 to (pt p))) (if mhas ([(path,.pointer none,0)]) to then 1 else 1+1))]] _ H (At.grp 0 0 rfl rfl)) ?_
      rintro v H' ⟨dn41, x42, rows43, hdn44, rfl, hR45, hA46, rfl⟩
      refine GH_back kr (fun w h=>(Sat.dropApp ((((h.erase 3).erase 2).erase 1).erase 0))) ?_
      refine GH_done (E':=[]) [] kr kr ?_
      refine N_then ?_
      refine G_seq ?_
      refine G_pure (E':=[⟨6,[],.int .i64 0⟩]) [0] [6] rfl kr ?_
      refine N_then ?_
      refine G_ret ?_
      refine N_ret [.tmp 6] [.int .i64 0] rfl kr rfl ?_
      exact .inr ⟨hce, .inr ⟨hsm, rfl, _, _, _, _, x42, rows43, .inr ⟨rfl, rfl⟩, hdn44, hR45, hA46, rfl⟩⟩
     ·
      refine GL_mapPut (i:=6) (ch:=[]) (kt:=9) (et:=74) (r:=b16) (c:=1) (j:=0) (q:=0) (m:=[(path,.pointer none,0)]) (k:=to) (v:=pt p) (H':=([(b16,.map (encM (mput ([(path,.pointer none,0)]) 1 to (pt p))) (if mhas ([(path,.pointer none,0)]) to then 1 else 1+1))]::[(d,.cells #[.int .i64 room,bv,.map (some nb),.map (some kb),.map (some cb),.bool ((callS fails once calls (((rightB path)&&(rightB to))&&((dirB path).toList == (dirB to).toList))).2.1),.bool once,.int .i64 ((callS fails once calls (((rightB path)&&(rightB to))&&((dirB path).toList == (dirB to).toList))).2.2)] 72 (0,0))]::[(nb,.map (encM nm) nc)]::[(cb,.map (encM cm) cc)]::(rowsG rows++H))) rfl (.inr rfl) kr kr kr kr kr kr kr kr rfl rfl rfl ?_
      refine GH_back kr (fun w h=>(Sat.dropApp ((((h.erase 3).erase 2).erase 1).erase 0))) ?_
      refine GH_pure (E':=[⟨45,[],.map (some b16)⟩,⟨39,[],.string to⟩,⟨38,[],pt d⟩]) 9 0 kr (fun w h=>(Sat.dropApp ((((h.erase 3).erase 2).erase 1).erase 0))) kr ?_
      refine GH_eff 2 kr kr kr ?_
      refine GL_callQ (i:=2) (ch:=[]) (f:=38) (fst:=#[]) (caps:=#[]) (vs:=[.string to]) (v:=.string (dirB to)) rfl rfl rfl kr kr Tryz.func38 rfl rfl kr kr kr (fun _=>vfsDirOf _ hto _ _) ?_
      refine GH_back kr (fun w h=>(Sat.dropApp ((((h.erase 3).erase 2).erase 1).erase 0))) ?_
      refine GH_eff 10 kr kr kr ?_
      refine GL_heap rfl (H':=([(d,.cells #[.int .i64 room,bv,.map (some nb),.map (some kb),.map (some cb),.bool ((callS fails once calls (((rightB path)&&(rightB to))&&((dirB path).toList == (dirB to).toList))).2.1),.bool once,.int .i64 ((callS fails once calls (((rightB path)&&(rightB to))&&((dirB path).toList == (dirB to).toList))).2.2)] 72 (0,0))]::[(nb,.map (encM nm) nc)]::[(cb,.map (encM cm) cc)]::[(b16,.map (encM (mput ([(path,.pointer none,0)]) 1 to (pt p))) (if mhas ([(path,.pointer none,0)]) to then 1 else 1+1))]::(rowsG rows++H))) (fun w h=>(((h.front (j:=3) rfl).front (j:=3) rfl).front (j:=3) rfl)) ?_
      refine GL_call (i:=10) (ch:=[]) (f:=37) (fst:=#[]) (caps:=#[]) (vs:=[pt d,.string (dirB to),.map (some b16)]) rfl rfl rfl kr kr Tryz.func37 rfl rfl kr kr (chSure_of kr) (vName d nb kb cb b16 nc cc (if mhas ([(path,.pointer none,0)]) to then 1 else 1+1) room ((callS fails once calls (((rightB path)&&(rightB to))&&((dirB path).toList == (dirB to).toList))).2.2) bv ((callS fails once calls (((rightB path)&&(rightB to))&&((dirB path).toList == (dirB to).toList))).2.1) once nm cm (mput ([(path,.pointer none,0)]) 1 to (pt p)) (dirB to) hn (MapOk.put (mapok1 _ _) _ _) (hvput (Q:=fun v=>v = .pointer none ∨ ∃ p,v = .pointer (some ⟨p,0,none⟩)) (hv0 _) (.inr ⟨_,rfl⟩)) rows hR hl [[(b16,.map (encM (mput ([(path,.pointer none,0)]) 1 to (pt p))) (if mhas ([(path,.pointer none,0)]) to then 1 else 1+1))]] _ H (At.grp 0 0 rfl rfl)) ?_
      rintro v H' ⟨dn47, x48, rows49, hdn50, rfl, hR51, hA52, rfl⟩
      refine GH_back kr (fun w h=>(Sat.dropApp ((((h.erase 3).erase 2).erase 1).erase 0))) ?_
      refine GH_done (E':=[]) [] kr kr ?_
      refine N_then ?_
      refine G_seq ?_
      refine G_pure (E':=[⟨6,[],.int .i64 0⟩]) [0] [6] rfl kr ?_
      refine N_then ?_
      refine G_ret ?_
      refine N_ret [.tmp 6] [.int .i64 0] rfl kr rfl ?_
      exact .inr ⟨hce, .inr ⟨hsm, rfl, _, _, _, _, x48, rows49, .inr ⟨rfl, rfl⟩, hdn50, hR51, hA52, rfl⟩⟩
  ·
   have hsm := hc2
   refine G_skip ?_
   refine N_then ?_
   refine G_seq ?_
   refine G_pure (E':=[⟨6,[],.int .i64 0⟩]) [0] [6] rfl kr ?_
   refine N_then ?_
   refine G_ret ?_
   refine N_ret [.tmp 6] [.int .i64 0] rfl kr rfl ?_
   exact .inr ⟨hce, .inl ⟨hsm, rfl, rfl⟩⟩
end Go.Proofs.YtlaoeiaaeifidaaGreat
