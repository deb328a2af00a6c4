/- The disk's calls: what each makes of the disk that stands in memory. Conditions: the numbers are small. (and what it stands on) -/
import Derived.Test.YtlaoeiaaeifidaaGreatZ2
import Derived.ProofKit
import Derived.OpenShut
import Derived.ChangeMaps5
namespace Go.Proofs.YtlaoeiaaeifidaaGreat
open Go.Sw Go.Lib Go.Vf Go.RowKit
theorem vNextA (kp : Nat) (k : KS) (n : Int) (hn : 0 < n ∧ n ≤ 1000000000000) (S : Nat → Obj → Prop) (hk : KsOk S k) (W0 : World) (H : List Grp) (hS : ∀ y o, S y o → At W0 H y o) :
    Tri Tryz.prog 69 #[.int .i64 n, .pointer (some ⟨kp, 0, none⟩)] W0 ([(kp, .cells #[.slice k.a k.l.length k.c] 49 (0, 0))] :: H) (fun v H' => v = .int .i64 (nextK (k.l.headD 0) n) ∧ H' = [(kp, .cells #[.slice (ksNext k).a (ksNext k).l.length (ksNext k).c] 49 (0, 0))] :: H) := by
  obtain ⟨h1, h2, h3, h4⟩ := hk
  obtain ⟨l, a, c⟩ := k
  cases l with
  | nil => exact vNext0 kp c a n hn W0 H
  | cons x l => exact vNext kp n hn a (l.length + 1) c S x (h4 x List.mem_cons_self) l rfl h2 h3 h1 W0 H hS
theorem vKeys (cb : Nat) (W0 : World) (H : List Grp) : Tri Tryz.prog 71 #[.map (some cb)] W0 H (fun v H' => ∃ b, v = .func (.func 93) #[] #[.pointer (some ⟨b, 0, none⟩)] ∧ H' = [(b, .cells #[.map (some cb)] 69 (0, 0))] :: H) := by
 refine Tri_of (args := [.map (some cb)]) (n := 4) Tryz.func71 rfl rfl (Nat.le_of_ble_eq_true rfl) ?_
 refine G_seq ?_
 refine G_region ?_
 refine GL_box (i:=0) (ch:=[]) (v:=.map (some cb)) rfl rfl kr kr kr kr (fun b1=>?_)
 refine GL_fin (E':=[⟨1,[],pt b1⟩]) [0] [1] rfl kr ?_
 refine N_then ?_
 refine G_seq ?_
 refine G_pure (E':=[⟨2,[],.func (.func 93) #[] #[pt b1]⟩]) [0,0] [2] rfl kr ?_
 refine N_then ?_
 refine G_ret ?_
 refine N_ret [.tmp 2] [.func (.func 93) #[] #[pt b1]] rfl kr rfl ?_
 exact ⟨_, rfl, rfl⟩
set_option maxHeartbeats 2000000 in
theorem vCrash (d nb kb cb kc cc : Nat) (room calls : Int) (fails once : Bool) (km cm : SM) (bs : List BE) (ba : Option Addr) (bc : Nat) (ks : KS) (rows : ByteArray → RowC) (S : Nat → Obj → Prop) (hks : KsOk S ks) (hbl : bs.length ≤ 1000000) (hbn : ∀ b ∈ bs, b.n ≤ b.cn ∧ b.n ≤ 1000000000 ∧ b.m ≤ b.n) (hrb : Rd S ba (bs.map fun b => Value.pointer (some ⟨b.p, 0, none⟩))) (hkm : MapOk km kc) (hcm : MapOk cm cc) (hcs : ∀ e ∈ cm, e.1.size ≤ 9223372036854775807) (hcl : cm.length ≤ 1000000000) (W0 : World) (H : List Grp) (hS : ∀ y o, S y o → At W0 H y o) (hrows : ∀ d, d ∈ cm.map Prod.fst → RowOk S W0 H cm d (rows d)) : Tri Tryz.prog 28 #[pt d, .slice ks.a ks.l.length ks.c] W0 ([(d, .cells #[.int .i64 room, .slice ba bs.length bc, .map (some nb), .map (some kb), .map (some cb), .bool fails, .bool once, .int .i64 calls] 72 (0, 0))] :: bodyG bs :: [(kb, .map (encM km) kc)] :: [(cb, .map (encM cm) cc)] :: H) (fun v H' => v = .tuple #[] ∧ ∃ b b2 km1 kc1 ks1, CrashK rows (sortB (cm.map Prod.fst)) ((km, kc), (stB bs ks bs.length).2) ((km1, kc1), ks1) ∧ H' = ([(d, .cells #[.int .i64 room, .slice ba bs.length bc, .map (some b), .map (some kb), .map (some b2), .bool false, .bool once, .int .i64 calls] 72 (0, 0))] :: bodyG (stB bs ks bs.length).1 :: [(kb, .map (encM km1) kc1)] :: [(b, .map (encM km1) kc1)] :: [(b2, .map (encM ([])) 0)] :: H)) := by
 refine Tri_of (args := [pt d, .slice ks.a ks.l.length ks.c]) (n := 116) Tryz.func28 rfl rfl (Nat.le_of_ble_eq_true rfl) ?_
 refine G_seq ?_
 refine G_region ?_
 refine GL_box (i:=0) (ch:=[]) (v:=.slice ks.a ks.l.length ks.c) rfl rfl kr kr kr kr (fun b1=>?_)
 refine GL_fin (E':=[⟨0,[],pt d⟩,⟨3,[],pt b1⟩]) [] [0,3] rfl kr ?_
 refine N_then ?_
 refine G_seq ?_
 refine G_seq ?_
 refine G_pure (E':=[⟨0,[],pt d⟩,⟨3,[],pt b1⟩,⟨14,[],.bool false⟩]) [0,0] [0,3,14] rfl kr ?_
 refine N_then ?_
 refine G_condf kr ?_
 refine G_skip ?_
 refine N_then ?_
 refine G_seq ?_
 refine G_pure (E':=[⟨0,[],pt d⟩,⟨4,[],.func (.func 69) #[] #[pt b1]⟩]) [0,0] [0,4] rfl kr ?_
 refine N_then ?_
 refine G_seq ?_
 refine G_seq ?_
 refine G_region ?_
 refine GL_p [0,0,0] kr (j:=3) rfl ?_
 refine GL_load (i:=3) (ch:=[]) (b:=d) (off:=1) (v:=.slice ba bs.length bc) rfl rfl kr kr kr kr kr (At.grp 1 0 rfl rfl) rfl ?_
 refine GL_fin (E':=[⟨0,[],pt d⟩,⟨4,[],.func (.func 69) #[] #[pt b1]⟩,⟨19,[],.slice ba bs.length bc⟩,⟨20,[],.int .i64 ((bs.length : Nat) : Int)⟩,⟨21,[],.int .i64 0⟩]) [0,0] [0,4,19,20,21] rfl kr ?_
 refine N_then ?_
 refine G_block ?_
 refine G_loop (EI:=(fun ξ : Nat=>[⟨0,[],pt d⟩,⟨4,[],.func (.func 69) #[] #[pt b1]⟩,⟨19,[],.slice ba bs.length bc⟩,⟨20,[],.int .i64 ((bs.length : Nat) : Int)⟩,⟨21,[],.int .i64 ((ξ : Nat) : Int)⟩])) (HI:=(fun ξ : Nat=>([(b1,.cells #[.slice (stB bs ks ξ).2.a ((stB bs ks ξ).2.l.length) ((stB bs ks ξ).2.c)] 49 (0,0))]::[(d,.cells #[.int .i64 room,.slice ba bs.length bc,.map (some nb),.map (some kb),.map (some cb),.bool fails,.bool once,.int .i64 calls] 72 (0,0))]::bodyG (stB bs ks ξ).1::[(kb,.map (encM km) kc)]::[(cb,.map (encM cm) cc)]::H))) (Φ:=(fun ξ : Nat=>(ξ ≤ bs.length))) (μ:=(fun ξ : Nat=>bs.length - ξ)) (s0:=(0)) [0,4,19,20,21] kr (by rfl) (by omega) ?_
 rintro j hj
 refine G_seq ?_
 refine G_pure (E':=[⟨0,[],pt d⟩,⟨4,[],.func (.func 69) #[] #[pt b1]⟩,⟨19,[],.slice ba bs.length bc⟩,⟨20,[],.int .i64 ((bs.length : Nat) : Int)⟩,⟨21,[],.int .i64 ((j : Nat) : Int)⟩,⟨22,[],.bool (decide (((j : Nat) : Int) < ((bs.length : Nat) : Int)))⟩]) [0] [0,4,19,20,21,22] rfl kr ?_
 refine N_then ?_
 refine G_seq ?_
 refine G_cond (b:=decide (((j : Nat) : Int) < ((bs.length : Nat) : Int))) kr (fun hc2=>?_) (fun hc2=>?_)
 ·
  replace hc2 := of_decide_eq_true hc2
  have hjl : j < bs.length := by omega
  have hB : (stB bs ks j).1.getD j default = bs.getD j default := stB_at bs ks j j (Nat.le_refl _)
  obtain ⟨hb1, hb2, hb3⟩ : ((stB bs ks j).1.getD j default).n ≤ ((stB bs ks j).1.getD j default).cn ∧ ((stB bs ks j).1.getD j default).n ≤ 1000000000 ∧ ((stB bs ks j).1.getD j default).m ≤ ((stB bs ks j).1.getD j default).n := by (rw [hB]; exact hbn _ (getD_mem hjl))
  refine G_skip ?_
  refine N_then ?_
  refine G_seq ?_
  refine G_block ?_
  refine G_seq ?_
  refine G_region ?_
  refine GL_indexAddr (i:=0) (ch:=[]) (a:=ba) (len:=bs.length) (cap:=bc) (kd:=.i64) (j:=((j : Nat) : Int)) (e:=74) (sz:=1) (S:=S) (cs:=(bs.map fun b=>Value.pointer (some ⟨b.p,0,none⟩))) rfl rfl kr kr kr kr kr kr kr hrb (fun _=>by exact ⟨by omega,by omega,by (intro h; have h2:=congrArg List.length h; rw [List.length_map] at h2; exact absurd h2 (by show ¬ bs.length = 0; omega))⟩) ?_
  refine GL_loadS (i:=1) (ch:=[]) (a:=ba) (q:=j * 1) (S:=S) (cs:=(bs.map fun b=>Value.pointer (some ⟨b.p,0,none⟩))) (v:=pt ((bs.getD j default).p)) rfl rfl kr kr kr kr kr hrb (fun y o h=>(At.cons (At.cons (At.cons (At.cons (At.cons (hS y o h))))))) (fun _=>(by rw [Nat.mul_one]; exact ptr_at (by omega))) ?_
  refine GL_fin (E':=[⟨0,[],pt d⟩,⟨4,[],.func (.func 69) #[] #[pt b1]⟩,⟨6,[],pt ((bs.getD j default).p)⟩,⟨19,[],.slice ba bs.length bc⟩,⟨20,[],.int .i64 ((bs.length : Nat) : Int)⟩,⟨21,[],.int .i64 ((j : Nat) : Int)⟩]) [0] [0,4,6,19,20,21] rfl kr ?_
  refine N_then ?_
  refine G_seq ?_
  refine G_seq ?_
  refine G_regionD kr kr ?_
  refine GL_p [0,0,0] kr (j:=3) rfl ?_
  refine GL_load (i:=3) (ch:=[]) (b:=(bs.getD j default).p) (off:=0) (v:=.slice ((stB bs ks j).1.getD j default).an (((stB bs ks j).1.getD j default).n) (((stB bs ks j).1.getD j default).cn)) rfl rfl kr kr kr kr kr (At.grp 2 j rfl (stB_hb hjl)) rfl ?_
  refine GL_p [0,0,0,0] kr (j:=8) rfl ?_
  refine GL_load (i:=8) (ch:=[]) (b:=(bs.getD j default).p) (off:=1) (v:=.slice ((stB bs ks j).1.getD j default).ak (((stB bs ks j).1.getD j default).m) (((stB bs ks j).1.getD j default).ck)) rfl rfl kr kr kr kr kr (At.grp 2 j rfl (stB_hb hjl)) rfl ?_
  refine GL_p [0,0] kr (j:=11) rfl ?_
  refine GL_wi 35 (((((stB bs ks j).1.getD j default).n : Nat) : Int) - ((((stB bs ks j).1.getD j default).m : Nat) : Int)) (by omega) (by omega) kr ?_
  refine GL_fin (E':=[⟨0,[],pt d⟩,⟨4,[],.func (.func 69) #[] #[pt b1]⟩,⟨6,[],pt ((bs.getD j default).p)⟩,⟨7,[],.int .i64 (((((stB bs ks j).1.getD j default).n : Nat) : Int) - ((((stB bs ks j).1.getD j default).m : Nat) : Int))⟩,⟨19,[],.slice ba bs.length bc⟩,⟨20,[],.int .i64 ((bs.length : Nat) : Int)⟩,⟨21,[],.int .i64 ((j : Nat) : Int)⟩]) [0] [0,4,6,7,19,20,21] rfl kr ?_
  refine N_then ?_
  refine G_seq ?_
  refine G_pure (E':=[⟨0,[],pt d⟩,⟨4,[],.func (.func 69) #[] #[pt b1]⟩,⟨6,[],pt ((bs.getD j default).p)⟩,⟨7,[],.int .i64 (((((stB bs ks j).1.getD j default).n : Nat) : Int) - ((((stB bs ks j).1.getD j default).m : Nat) : Int))⟩,⟨19,[],.slice ba bs.length bc⟩,⟨20,[],.int .i64 ((bs.length : Nat) : Int)⟩,⟨21,[],.int .i64 ((j : Nat) : Int)⟩,⟨37,[],.bool (decide ((((((stB bs ks j).1.getD j default).n : Nat) : Int) - ((((stB bs ks j).1.getD j default).m : Nat) : Int)) > 0))⟩]) [0,0] [0,4,6,7,19,20,21,37] rfl kr ?_
  refine N_then ?_
  refine G_cond (b:=decide ((((((stB bs ks j).1.getD j default).n : Nat) : Int) - ((((stB bs ks j).1.getD j default).m : Nat) : Int)) > 0)) kr (fun hc4=>?_) (fun hc4=>?_)
  ·
   replace hc4 := of_decide_eq_true hc4
   refine G_join (T:=Unit) (fun _=>[⟨0,[],pt d⟩,⟨4,[],.func (.func 69) #[] #[pt b1]⟩,⟨6,[],pt ((bs.getD j default).p)⟩,⟨19,[],.slice ba bs.length bc⟩,⟨20,[],.int .i64 ((bs.length : Nat) : Int)⟩,⟨21,[],.int .i64 ((j : Nat) : Int)⟩]) (fun _=>([(b1,.cells #[.slice (ksNext (stB bs ks j).2).a ((ksNext (stB bs ks j).2).l.length) ((ksNext (stB bs ks j).2).c)] 49 (0,0))]::[(d,.cells #[.int .i64 room,.slice ba bs.length bc,.map (some nb),.map (some kb),.map (some cb),.bool fails,.bool once,.int .i64 calls] 72 (0,0))]::bodyG ((stB bs ks j).1.set j ⟨(bs.getD j default).p,((stB bs ks j).1.getD j default).an,((stB bs ks j).1.getD j default).n,((stB bs ks j).1.getD j default).cn,(cutA ((stB bs ks j).1.getD j default).an (((stB bs ks j).1.getD j default).cn) 0 1),(Int.toNat (((((stB bs ks j).1.getD j default).m : Nat) : Int)+(nextK ((stB bs ks j).2.l.headD 0) ((((((stB bs ks j).1.getD j default).n : Nat) : Int) - ((((stB bs ks j).1.getD j default).m : Nat) : Int))+1)))) - 0,((stB bs ks j).1.getD j default).cn - 0⟩)::[(kb,.map (encM km) kc)]::[(cb,.map (encM cm) cc)]::H)) (fun _=>True) ?_ ?_
   ·
    refine G_regionH ([(d,.cells #[.int .i64 room,.slice ba bs.length bc,.map (some nb),.map (some kb),.map (some cb),.bool fails,.bool once,.int .i64 calls] 72 (0,0))]::[(kb,.map (encM km) kc)]::[(cb,.map (encM cm) cc)]::H) kr ?_
    refine GH_p (fuel:=17) [(0,0),(1,0)] (fun w h=>((h.erase 2).erase 0)) kr rfl ?_
    refine GH_nil (ad:=⟨(bs.getD j default).p,0,none⟩) 2 rfl rfl rfl kr kr kr kr kr (fun w h=>((h.erase 2).erase 0)) ?_
    refine GH_p (fuel:=14) [(3,0),(5,0)] (fun w h=>((h.erase 2).erase 0)) kr rfl ?_
    refine GH_nil (ad:=⟨(bs.getD j default).p,0,none⟩) 6 rfl rfl rfl kr kr kr kr kr (fun w h=>((h.erase 2).erase 0)) ?_
    refine GH_p (fuel:=9) [(7,0),(10,0),(11,0),(12,0)] (fun w h=>((h.erase 2).erase 0)) kr rfl ?_
    refine GH_wi 50 ((((((stB bs ks j).1.getD j default).n : Nat) : Int) - ((((stB bs ks j).1.getD j default).m : Nat) : Int))+1) (by omega) (by omega) kr ?_
    refine GH_eff3 4 8 13 kr kr kr kr kr kr kr ?_ ?_ ?_
    ·
     refine GL_load (i:=4) (ch:=[]) (b:=(bs.getD j default).p) (off:=0) (v:=.slice ((stB bs ks j).1.getD j default).an (((stB bs ks j).1.getD j default).n) (((stB bs ks j).1.getD j default).cn)) rfl rfl kr kr kr kr kr (At.grp 2 j rfl (stB_hb hjl)) rfl ?_
     refine GH_back kr (fun w h=>((h.erase 2).erase 0)) ?_
     refine GH_eff2 8 13 kr kr kr kr kr ?_ ?_
     ·
      refine GL_load (i:=8) (ch:=[]) (b:=(bs.getD j default).p) (off:=1) (v:=.slice ((stB bs ks j).1.getD j default).ak (((stB bs ks j).1.getD j default).m) (((stB bs ks j).1.getD j default).ck)) rfl rfl kr kr kr kr kr (At.grp 2 j rfl (stB_hb hjl)) rfl ?_
      refine GH_back kr (fun w h=>((h.erase 2).erase 0)) ?_
      refine GH_pev (v:=.int .i64 ((((stB bs ks j).1.getD j default).m : Nat) : Int)) 9 rfl rfl kr kr kr kr kr (fun w h=>((h.erase 2).erase 0)) ?_
      refine GH_eff 13 kr kr kr ?_
      refine GL_call (i:=13) (ch:=[]) (f:=69) (fst:=#[]) (caps:=#[pt b1]) (vs:=[.int .i64 ((((((stB bs ks j).1.getD j default).n : Nat) : Int) - ((((stB bs ks j).1.getD j default).m : Nat) : Int))+1)]) rfl rfl rfl kr kr Tryz.func69 rfl rfl kr kr (chSure_of kr) (vNextA b1 (stB bs ks j).2 ((((((stB bs ks j).1.getD j default).n : Nat) : Int) - ((((stB bs ks j).1.getD j default).m : Nat) : Int))+1) (by omega) S (stB_ok hks j) _ _ (fun y o h=>(At.cons (At.cons (At.cons (At.cons (hS y o h))))))) ?_
      rintro v H' ⟨rfl, rfl⟩
      have hnx := nextK_bd (k := (stB bs ks j).2.l.headD 0) (n := (((((stB bs ks j).1.getD j default).n : Nat) : Int) - ((((stB bs ks j).1.getD j default).m : Nat) : Int)) + 1) (by omega)
      refine GH_back kr (fun w h=>((h.erase 2).erase 0)) ?_
      refine GH_p (fuel:=4) [(14,0)] (fun w h=>((h.erase 2).erase 0)) kr rfl ?_
      refine GH_wi 52 (((((stB bs ks j).1.getD j default).m : Nat) : Int)+(nextK ((stB bs ks j).2.l.headD 0) ((((((stB bs ks j).1.getD j default).n : Nat) : Int) - ((((stB bs ks j).1.getD j default).m : Nat) : Int))+1))) (by omega) (by omega) kr ?_
      refine GH_take' 15 kr (fun w h=>((h.erase 2).erase 0)) (GL_sliceL (i:=15) (ch:=[]) (a:=((stB bs ks j).1.getD j default).an) (len:=((stB bs ks j).1.getD j default).n) (cap:=((stB bs ks j).1.getD j default).cn) (e:=5) (sz:=1) (vl:=none) (vh:=(some (.int .i64 (((((stB bs ks j).1.getD j default).m : Nat) : Int)+(nextK ((stB bs ks j).2.l.headD 0) ((((((stB bs ks j).1.getD j default).n : Nat) : Int) - ((((stB bs ks j).1.getD j default).m : Nat) : Int))+1)))))) (l:=0) (h:=((((stB bs ks j).1.getD j default).m : Nat) : Int)+(nextK ((stB bs ks j).2.l.headD 0) ((((((stB bs ks j).1.getD j default).n : Nat) : Int) - ((((stB bs ks j).1.getD j default).m : Nat) : Int))+1))) rfl rfl kr kr kr kr kr kr kr kr kr kr (fun _=>by omega) (GL_yend kr rfl)) ?_
      refine GH_nil (ad:=⟨(bs.getD j default).p,0,none⟩) 16 rfl rfl rfl kr kr kr kr kr (fun w h=>((h.erase 2).erase 0)) ?_
      refine GH_p (fuel:=1) [(17,0)] (fun w h=>((h.erase 2).erase 0)) kr rfl ?_
      refine GH_eff 18 kr kr kr ?_
      refine GL_store (i:=18) (ch:=[]) (b:=(bs.getD j default).p) (off:=1) (v:=.slice (cutA ((stB bs ks j).1.getD j default).an (((stB bs ks j).1.getD j default).cn) 0 1) ((Int.toNat (((((stB bs ks j).1.getD j default).m : Nat) : Int)+(nextK ((stB bs ks j).2.l.headD 0) ((((((stB bs ks j).1.getD j default).n : Nat) : Int) - ((((stB bs ks j).1.getD j default).m : Nat) : Int))+1)))) - 0) (((stB bs ks j).1.getD j default).cn - 0)) (c:=#[.slice ((stB bs ks j).1.getD j default).an (((stB bs ks j).1.getD j default).n) (((stB bs ks j).1.getD j default).cn),.slice ((stB bs ks j).1.getD j default).ak (((stB bs ks j).1.getD j default).m) (((stB bs ks j).1.getD j default).ck)]) (c':=#[.slice ((stB bs ks j).1.getD j default).an (((stB bs ks j).1.getD j default).n) (((stB bs ks j).1.getD j default).cn),.slice (cutA ((stB bs ks j).1.getD j default).an (((stB bs ks j).1.getD j default).cn) 0 1) ((Int.toNat (((((stB bs ks j).1.getD j default).m : Nat) : Int)+(nextK ((stB bs ks j).2.l.headD 0) ((((((stB bs ks j).1.getD j default).n : Nat) : Int) - ((((stB bs ks j).1.getD j default).m : Nat) : Int))+1)))) - 0) (((stB bs ks j).1.getD j default).cn - 0)]) (j:=2) (m:=j) (H':=([(b1,.cells #[.slice (ksNext (stB bs ks j).2).a ((ksNext (stB bs ks j).2).l.length) ((ksNext (stB bs ks j).2).c)] 49 (0,0))]::[(d,.cells #[.int .i64 room,.slice ba bs.length bc,.map (some nb),.map (some kb),.map (some cb),.bool fails,.bool once,.int .i64 calls] 72 (0,0))]::bodyG ((stB bs ks j).1.set j ⟨(bs.getD j default).p,((stB bs ks j).1.getD j default).an,((stB bs ks j).1.getD j default).n,((stB bs ks j).1.getD j default).cn,(cutA ((stB bs ks j).1.getD j default).an (((stB bs ks j).1.getD j default).cn) 0 1),(Int.toNat (((((stB bs ks j).1.getD j default).m : Nat) : Int)+(nextK ((stB bs ks j).2.l.headD 0) ((((((stB bs ks j).1.getD j default).n : Nat) : Int) - ((((stB bs ks j).1.getD j default).m : Nat) : Int))+1)))) - 0,((stB bs ks j).1.getD j default).cn - 0⟩)::[(kb,.map (encM km) kc)]::[(cb,.map (encM cm) cc)]::H)) rfl rfl kr kr kr kr kr kr kr rfl (stB_hb hjl) (Nat.le_of_ble_eq_true rfl) (fun _ _=>thaw0) kr (congrArg (List.set ([(b1,.cells #[.slice (ksNext (stB bs ks j).2).a ((ksNext (stB bs ks j).2).l.length) ((ksNext (stB bs ks j).2).c)] 49 (0,0))]::[(d,.cells #[.int .i64 room,.slice ba bs.length bc,.map (some nb),.map (some kb),.map (some cb),.bool fails,.bool once,.int .i64 calls] 72 (0,0))]::bodyG (stB bs ks j).1::[(kb,.map (encM km) kc)]::[(cb,.map (encM cm) cc)]::H) 2) (bodyG_set (stB bs ks j).1 j ⟨(bs.getD j default).p,((stB bs ks j).1.getD j default).an,((stB bs ks j).1.getD j default).n,((stB bs ks j).1.getD j default).cn,(cutA ((stB bs ks j).1.getD j default).an (((stB bs ks j).1.getD j default).cn) 0 1),(Int.toNat (((((stB bs ks j).1.getD j default).m : Nat) : Int)+(nextK ((stB bs ks j).2.l.headD 0) ((((((stB bs ks j).1.getD j default).n : Nat) : Int) - ((((stB bs ks j).1.getD j default).m : Nat) : Int))+1)))) - 0,((stB bs ks j).1.getD j default).cn - 0⟩)) ?_
      refine GH_back kr (fun w h=>((h.erase 2).erase 0)) ?_
      refine GH_done (E':=[⟨0,[],pt d⟩,⟨4,[],.func (.func 69) #[] #[pt b1]⟩,⟨6,[],pt ((bs.getD j default).p)⟩,⟨19,[],.slice ba bs.length bc⟩,⟨20,[],.int .i64 ((bs.length : Nat) : Int)⟩,⟨21,[],.int .i64 ((j : Nat) : Int)⟩]) [0,4,6,19,20,21] kr kr ?_
      refine N_join () [0,4,6,19,20,21] kr (fun w h=>h) trivial
     ·
      refine GL_call (i:=13) (ch:=[]) (f:=69) (fst:=#[]) (caps:=#[pt b1]) (vs:=[.int .i64 ((((((stB bs ks j).1.getD j default).n : Nat) : Int) - ((((stB bs ks j).1.getD j default).m : Nat) : Int))+1)]) rfl rfl rfl kr kr Tryz.func69 rfl rfl kr kr (chSure_of kr) (vNextA b1 (stB bs ks j).2 ((((((stB bs ks j).1.getD j default).n : Nat) : Int) - ((((stB bs ks j).1.getD j default).m : Nat) : Int))+1) (by omega) S (stB_ok hks j) _ _ (fun y o h=>(At.cons (At.cons (At.cons (At.cons (hS y o h))))))) ?_
      rintro v H' ⟨rfl, rfl⟩
      have hnx := nextK_bd (k := (stB bs ks j).2.l.headD 0) (n := (((((stB bs ks j).1.getD j default).n : Nat) : Int) - ((((stB bs ks j).1.getD j default).m : Nat) : Int)) + 1) (by omega)
      refine GH_back kr (fun w h=>((h.erase 2).erase 0)) ?_
      refine GH_eff 8 kr kr kr ?_
      refine GL_load (i:=8) (ch:=[]) (b:=(bs.getD j default).p) (off:=1) (v:=.slice ((stB bs ks j).1.getD j default).ak (((stB bs ks j).1.getD j default).m) (((stB bs ks j).1.getD j default).ck)) rfl rfl kr kr kr kr kr (At.grp 2 j rfl (stB_hb hjl)) rfl ?_
      refine GH_back kr (fun w h=>((h.erase 2).erase 0)) ?_
      refine GH_pev (v:=.int .i64 ((((stB bs ks j).1.getD j default).m : Nat) : Int)) 9 rfl rfl kr kr kr kr kr (fun w h=>((h.erase 2).erase 0)) ?_
      refine GH_p (fuel:=4) [(14,0)] (fun w h=>((h.erase 2).erase 0)) kr rfl ?_
      refine GH_wi 52 (((((stB bs ks j).1.getD j default).m : Nat) : Int)+(nextK ((stB bs ks j).2.l.headD 0) ((((((stB bs ks j).1.getD j default).n : Nat) : Int) - ((((stB bs ks j).1.getD j default).m : Nat) : Int))+1))) (by omega) (by omega) kr ?_
      refine GH_take' 15 kr (fun w h=>((h.erase 2).erase 0)) (GL_sliceL (i:=15) (ch:=[]) (a:=((stB bs ks j).1.getD j default).an) (len:=((stB bs ks j).1.getD j default).n) (cap:=((stB bs ks j).1.getD j default).cn) (e:=5) (sz:=1) (vl:=none) (vh:=(some (.int .i64 (((((stB bs ks j).1.getD j default).m : Nat) : Int)+(nextK ((stB bs ks j).2.l.headD 0) ((((((stB bs ks j).1.getD j default).n : Nat) : Int) - ((((stB bs ks j).1.getD j default).m : Nat) : Int))+1)))))) (l:=0) (h:=((((stB bs ks j).1.getD j default).m : Nat) : Int)+(nextK ((stB bs ks j).2.l.headD 0) ((((((stB bs ks j).1.getD j default).n : Nat) : Int) - ((((stB bs ks j).1.getD j default).m : Nat) : Int))+1))) rfl rfl kr kr kr kr kr kr kr kr kr kr (fun _=>by omega) (GL_yend kr rfl)) ?_
      refine GH_nil (ad:=⟨(bs.getD j default).p,0,none⟩) 16 rfl rfl rfl kr kr kr kr kr (fun w h=>((h.erase 2).erase 0)) ?_
      refine GH_p (fuel:=1) [(17,0)] (fun w h=>((h.erase 2).erase 0)) kr rfl ?_
      refine GH_eff 18 kr kr kr ?_
      refine GL_store (i:=18) (ch:=[]) (b:=(bs.getD j default).p) (off:=1) (v:=.slice (cutA ((stB bs ks j).1.getD j default).an (((stB bs ks j).1.getD j default).cn) 0 1) ((Int.toNat (((((stB bs ks j).1.getD j default).m : Nat) : Int)+(nextK ((stB bs ks j).2.l.headD 0) ((((((stB bs ks j).1.getD j default).n : Nat) : Int) - ((((stB bs ks j).1.getD j default).m : Nat) : Int))+1)))) - 0) (((stB bs ks j).1.getD j default).cn - 0)) (c:=#[.slice ((stB bs ks j).1.getD j default).an (((stB bs ks j).1.getD j default).n) (((stB bs ks j).1.getD j default).cn),.slice ((stB bs ks j).1.getD j default).ak (((stB bs ks j).1.getD j default).m) (((stB bs ks j).1.getD j default).ck)]) (c':=#[.slice ((stB bs ks j).1.getD j default).an (((stB bs ks j).1.getD j default).n) (((stB bs ks j).1.getD j default).cn),.slice (cutA ((stB bs ks j).1.getD j default).an (((stB bs ks j).1.getD j default).cn) 0 1) ((Int.toNat (((((stB bs ks j).1.getD j default).m : Nat) : Int)+(nextK ((stB bs ks j).2.l.headD 0) ((((((stB bs ks j).1.getD j default).n : Nat) : Int) - ((((stB bs ks j).1.getD j default).m : Nat) : Int))+1)))) - 0) (((stB bs ks j).1.getD j default).cn - 0)]) (j:=2) (m:=j) (H':=([(b1,.cells #[.slice (ksNext (stB bs ks j).2).a ((ksNext (stB bs ks j).2).l.length) ((ksNext (stB bs ks j).2).c)] 49 (0,0))]::[(d,.cells #[.int .i64 room,.slice ba bs.length bc,.map (some nb),.map (some kb),.map (some cb),.bool fails,.bool once,.int .i64 calls] 72 (0,0))]::bodyG ((stB bs ks j).1.set j ⟨(bs.getD j default).p,((stB bs ks j).1.getD j default).an,((stB bs ks j).1.getD j default).n,((stB bs ks j).1.getD j default).cn,(cutA ((stB bs ks j).1.getD j default).an (((stB bs ks j).1.getD j default).cn) 0 1),(Int.toNat (((((stB bs ks j).1.getD j default).m : Nat) : Int)+(nextK ((stB bs ks j).2.l.headD 0) ((((((stB bs ks j).1.getD j default).n : Nat) : Int) - ((((stB bs ks j).1.getD j default).m : Nat) : Int))+1)))) - 0,((stB bs ks j).1.getD j default).cn - 0⟩)::[(kb,.map (encM km) kc)]::[(cb,.map (encM cm) cc)]::H)) rfl rfl kr kr kr kr kr kr kr rfl (stB_hb hjl) (Nat.le_of_ble_eq_true rfl) (fun _ _=>thaw0) kr (congrArg (List.set ([(b1,.cells #[.slice (ksNext (stB bs ks j).2).a ((ksNext (stB bs ks j).2).l.length) ((ksNext (stB bs ks j).2).c)] 49 (0,0))]::[(d,.cells #[.int .i64 room,.slice ba bs.length bc,.map (some nb),.map (some kb),.map (some cb),.bool fails,.bool once,.int .i64 calls] 72 (0,0))]::bodyG (stB bs ks j).1::[(kb,.map (encM km) kc)]::[(cb,.map (encM cm) cc)]::H) 2) (bodyG_set (stB bs ks j).1 j ⟨(bs.getD j default).p,((stB bs ks j).1.getD j default).an,((stB bs ks j).1.getD j default).n,((stB bs ks j).1.getD j default).cn,(cutA ((stB bs ks j).1.getD j default).an (((stB bs ks j).1.getD j default).cn) 0 1),(Int.toNat (((((stB bs ks j).1.getD j default).m : Nat) : Int)+(nextK ((stB bs ks j).2.l.headD 0) ((((((stB bs ks j).1.getD j default).n : Nat) : Int) - ((((stB bs ks j).1.getD j default).m : Nat) : Int))+1)))) - 0,((stB bs ks j).1.getD j default).cn - 0⟩)) ?_
      refine GH_back kr (fun w h=>((h.erase 2).erase 0)) ?_
      refine GH_done (E':=[⟨0,[],pt d⟩,⟨4,[],.func (.func 69) #[] #[pt b1]⟩,⟨6,[],pt ((bs.getD j default).p)⟩,⟨19,[],.slice ba bs.length bc⟩,⟨20,[],.int .i64 ((bs.length : Nat) : Int)⟩,⟨21,[],.int .i64 ((j : Nat) : Int)⟩]) [0,4,6,19,20,21] kr kr ?_
      refine N_join () [0,4,6,19,20,21] kr (fun w h=>h) trivial
    ·
     refine GL_load (i:=8) (ch:=[]) (b:=(bs.getD j default).p) (off:=1) (v:=.slice ((stB bs ks j).1.getD j default).ak (((stB bs ks j).1.getD j default).m) (((stB bs ks j).1.getD j default).ck)) rfl rfl kr kr kr kr kr (At.grp 2 j rfl (stB_hb hjl)) rfl ?_
     refine GH_back kr (fun w h=>((h.erase 2).erase 0)) ?_
     refine GH_pev (v:=.int .i64 ((((stB bs ks j).1.getD j default).m : Nat) : Int)) 9 rfl rfl kr kr kr kr kr (fun w h=>((h.erase 2).erase 0)) ?_
     refine GH_eff2 4 13 kr kr kr kr kr ?_ ?_
     ·
      refine GL_load (i:=4) (ch:=[]) (b:=(bs.getD j default).p) (off:=0) (v:=.slice ((stB bs ks j).1.getD j default).an (((stB bs ks j).1.getD j default).n) (((stB bs ks j).1.getD j default).cn)) rfl rfl kr kr kr kr kr (At.grp 2 j rfl (stB_hb hjl)) rfl ?_
      refine GH_back kr (fun w h=>((h.erase 2).erase 0)) ?_
      refine GH_eff 13 kr kr kr ?_
      refine GL_call (i:=13) (ch:=[]) (f:=69) (fst:=#[]) (caps:=#[pt b1]) (vs:=[.int .i64 ((((((stB bs ks j).1.getD j default).n : Nat) : Int) - ((((stB bs ks j).1.getD j default).m : Nat) : Int))+1)]) rfl rfl rfl kr kr Tryz.func69 rfl rfl kr kr (chSure_of kr) (vNextA b1 (stB bs ks j).2 ((((((stB bs ks j).1.getD j default).n : Nat) : Int) - ((((stB bs ks j).1.getD j default).m : Nat) : Int))+1) (by omega) S (stB_ok hks j) _ _ (fun y o h=>(At.cons (At.cons (At.cons (At.cons (hS y o h))))))) ?_
      rintro v H' ⟨rfl, rfl⟩
      have hnx := nextK_bd (k := (stB bs ks j).2.l.headD 0) (n := (((((stB bs ks j).1.getD j default).n : Nat) : Int) - ((((stB bs ks j).1.getD j default).m : Nat) : Int)) + 1) (by omega)
      refine GH_back kr (fun w h=>((h.erase 2).erase 0)) ?_
      refine GH_p (fuel:=4) [(14,0)] (fun w h=>((h.erase 2).erase 0)) kr rfl ?_
      refine GH_wi 52 (((((stB bs ks j).1.getD j default).m : Nat) : Int)+(nextK ((stB bs ks j).2.l.headD 0) ((((((stB bs ks j).1.getD j default).n : Nat) : Int) - ((((stB bs ks j).1.getD j default).m : Nat) : Int))+1))) (by omega) (by omega) kr ?_
      refine GH_take' 15 kr (fun w h=>((h.erase 2).erase 0)) (GL_sliceL (i:=15) (ch:=[]) (a:=((stB bs ks j).1.getD j default).an) (len:=((stB bs ks j).1.getD j default).n) (cap:=((stB bs ks j).1.getD j default).cn) (e:=5) (sz:=1) (vl:=none) (vh:=(some (.int .i64 (((((stB bs ks j).1.getD j default).m : Nat) : Int)+(nextK ((stB bs ks j).2.l.headD 0) ((((((stB bs ks j).1.getD j default).n : Nat) : Int) - ((((stB bs ks j).1.getD j default).m : Nat) : Int))+1)))))) (l:=0) (h:=((((stB bs ks j).1.getD j default).m : Nat) : Int)+(nextK ((stB bs ks j).2.l.headD 0) ((((((stB bs ks j).1.getD j default).n : Nat) : Int) - ((((stB bs ks j).1.getD j default).m : Nat) : Int))+1))) rfl rfl kr kr kr kr kr kr kr kr kr kr (fun _=>by omega) (GL_yend kr rfl)) ?_
      refine GH_nil (ad:=⟨(bs.getD j default).p,0,none⟩) 16 rfl rfl rfl kr kr kr kr kr (fun w h=>((h.erase 2).erase 0)) ?_
      refine GH_p (fuel:=1) [(17,0)] (fun w h=>((h.erase 2).erase 0)) kr rfl ?_
      refine GH_eff 18 kr kr kr ?_
      refine GL_store (i:=18) (ch:=[]) (b:=(bs.getD j default).p) (off:=1) (v:=.slice (cutA ((stB bs ks j).1.getD j default).an (((stB bs ks j).1.getD j default).cn) 0 1) ((Int.toNat (((((stB bs ks j).1.getD j default).m : Nat) : Int)+(nextK ((stB bs ks j).2.l.headD 0) ((((((stB bs ks j).1.getD j default).n : Nat) : Int) - ((((stB bs ks j).1.getD j default).m : Nat) : Int))+1)))) - 0) (((stB bs ks j).1.getD j default).cn - 0)) (c:=#[.slice ((stB bs ks j).1.getD j default).an (((stB bs ks j).1.getD j default).n) (((stB bs ks j).1.getD j default).cn),.slice ((stB bs ks j).1.getD j default).ak (((stB bs ks j).1.getD j default).m) (((stB bs ks j).1.getD j default).ck)]) (c':=#[.slice ((stB bs ks j).1.getD j default).an (((stB bs ks j).1.getD j default).n) (((stB bs ks j).1.getD j default).cn),.slice (cutA ((stB bs ks j).1.getD j default).an (((stB bs ks j).1.getD j default).cn) 0 1) ((Int.toNat (((((stB bs ks j).1.getD j default).m : Nat) : Int)+(nextK ((stB bs ks j).2.l.headD 0) ((((((stB bs ks j).1.getD j default).n : Nat) : Int) - ((((stB bs ks j).1.getD j default).m : Nat) : Int))+1)))) - 0) (((stB bs ks j).1.getD j default).cn - 0)]) (j:=2) (m:=j) (H':=([(b1,.cells #[.slice (ksNext (stB bs ks j).2).a ((ksNext (stB bs ks j).2).l.length) ((ksNext (stB bs ks j).2).c)] 49 (0,0))]::[(d,.cells #[.int .i64 room,.slice ba bs.length bc,.map (some nb),.map (some kb),.map (some cb),.bool fails,.bool once,.int .i64 calls] 72 (0,0))]::bodyG ((stB bs ks j).1.set j ⟨(bs.getD j default).p,((stB bs ks j).1.getD j default).an,((stB bs ks j).1.getD j default).n,((stB bs ks j).1.getD j default).cn,(cutA ((stB bs ks j).1.getD j default).an (((stB bs ks j).1.getD j default).cn) 0 1),(Int.toNat (((((stB bs ks j).1.getD j default).m : Nat) : Int)+(nextK ((stB bs ks j).2.l.headD 0) ((((((stB bs ks j).1.getD j default).n : Nat) : Int) - ((((stB bs ks j).1.getD j default).m : Nat) : Int))+1)))) - 0,((stB bs ks j).1.getD j default).cn - 0⟩)::[(kb,.map (encM km) kc)]::[(cb,.map (encM cm) cc)]::H)) rfl rfl kr kr kr kr kr kr kr rfl (stB_hb hjl) (Nat.le_of_ble_eq_true rfl) (fun _ _=>thaw0) kr (congrArg (List.set ([(b1,.cells #[.slice (ksNext (stB bs ks j).2).a ((ksNext (stB bs ks j).2).l.length) ((ksNext (stB bs ks j).2).c)] 49 (0,0))]::[(d,.cells #[.int .i64 room,.slice ba bs.length bc,.map (some nb),.map (some kb),.map (some cb),.bool fails,.bool once,.int .i64 calls] 72 (0,0))]::bodyG (stB bs ks j).1::[(kb,.map (encM km) kc)]::[(cb,.map (encM cm) cc)]::H) 2) (bodyG_set (stB bs ks j).1 j ⟨(bs.getD j default).p,((stB bs ks j).1.getD j default).an,((stB bs ks j).1.getD j default).n,((stB bs ks j).1.getD j default).cn,(cutA ((stB bs ks j).1.getD j default).an (((stB bs ks j).1.getD j default).cn) 0 1),(Int.toNat (((((stB bs ks j).1.getD j default).m : Nat) : Int)+(nextK ((stB bs ks j).2.l.headD 0) ((((((stB bs ks j).1.getD j default).n : Nat) : Int) - ((((stB bs ks j).1.getD j default).m : Nat) : Int))+1)))) - 0,((stB bs ks j).1.getD j default).cn - 0⟩)) ?_
      refine GH_back kr (fun w h=>((h.erase 2).erase 0)) ?_
      refine GH_done (E':=[⟨0,[],pt d⟩,⟨4,[],.func (.func 69) #[] #[pt b1]⟩,⟨6,[],pt ((bs.getD j default).p)⟩,⟨19,[],.slice ba bs.length bc⟩,⟨20,[],.int .i64 ((bs.length : Nat) : Int)⟩,⟨21,[],.int .i64 ((j : Nat) : Int)⟩]) [0,4,6,19,20,21] kr kr ?_
      refine N_join () [0,4,6,19,20,21] kr (fun w h=>h) trivial
     ·
      refine GL_call (i:=13) (ch:=[]) (f:=69) (fst:=#[]) (caps:=#[pt b1]) (vs:=[.int .i64 ((((((stB bs ks j).1.getD j default).n : Nat) : Int) - ((((stB bs ks j).1.getD j default).m : Nat) : Int))+1)]) rfl rfl rfl kr kr Tryz.func69 rfl rfl kr kr (chSure_of kr) (vNextA b1 (stB bs ks j).2 ((((((stB bs ks j).1.getD j default).n : Nat) : Int) - ((((stB bs ks j).1.getD j default).m : Nat) : Int))+1) (by omega) S (stB_ok hks j) _ _ (fun y o h=>(At.cons (At.cons (At.cons (At.cons (hS y o h))))))) ?_
      rintro v H' ⟨rfl, rfl⟩
      have hnx := nextK_bd (k := (stB bs ks j).2.l.headD 0) (n := (((((stB bs ks j).1.getD j default).n : Nat) : Int) - ((((stB bs ks j).1.getD j default).m : Nat) : Int)) + 1) (by omega)
      refine GH_back kr (fun w h=>((h.erase 2).erase 0)) ?_
      refine GH_p (fuel:=5) [(14,0)] (fun w h=>((h.erase 2).erase 0)) kr rfl ?_
      refine GH_wi 52 (((((stB bs ks j).1.getD j default).m : Nat) : Int)+(nextK ((stB bs ks j).2.l.headD 0) ((((((stB bs ks j).1.getD j default).n : Nat) : Int) - ((((stB bs ks j).1.getD j default).m : Nat) : Int))+1))) (by omega) (by omega) kr ?_
      refine GH_eff 4 kr kr kr ?_
      refine GL_load (i:=4) (ch:=[]) (b:=(bs.getD j default).p) (off:=0) (v:=.slice ((stB bs ks j).1.getD j default).an (((stB bs ks j).1.getD j default).n) (((stB bs ks j).1.getD j default).cn)) rfl rfl kr kr kr kr kr (At.grp 2 j rfl (stB_hb hjl)) rfl ?_
      refine GH_back kr (fun w h=>((h.erase 2).erase 0)) ?_
      refine GH_take' 15 kr (fun w h=>((h.erase 2).erase 0)) (GL_sliceL (i:=15) (ch:=[]) (a:=((stB bs ks j).1.getD j default).an) (len:=((stB bs ks j).1.getD j default).n) (cap:=((stB bs ks j).1.getD j default).cn) (e:=5) (sz:=1) (vl:=none) (vh:=(some (.int .i64 (((((stB bs ks j).1.getD j default).m : Nat) : Int)+(nextK ((stB bs ks j).2.l.headD 0) ((((((stB bs ks j).1.getD j default).n : Nat) : Int) - ((((stB bs ks j).1.getD j default).m : Nat) : Int))+1)))))) (l:=0) (h:=((((stB bs ks j).1.getD j default).m : Nat) : Int)+(nextK ((stB bs ks j).2.l.headD 0) ((((((stB bs ks j).1.getD j default).n : Nat) : Int) - ((((stB bs ks j).1.getD j default).m : Nat) : Int))+1))) rfl rfl kr kr kr kr kr kr kr kr kr kr (fun _=>by omega) (GL_yend kr rfl)) ?_
      refine GH_nil (ad:=⟨(bs.getD j default).p,0,none⟩) 16 rfl rfl rfl kr kr kr kr kr (fun w h=>((h.erase 2).erase 0)) ?_
      refine GH_p (fuel:=1) [(17,0)] (fun w h=>((h.erase 2).erase 0)) kr rfl ?_
      refine GH_eff 18 kr kr kr ?_
      refine GL_store (i:=18) (ch:=[]) (b:=(bs.getD j default).p) (off:=1) (v:=.slice (cutA ((stB bs ks j).1.getD j default).an (((stB bs ks j).1.getD j default).cn) 0 1) ((Int.toNat (((((stB bs ks j).1.getD j default).m : Nat) : Int)+(nextK ((stB bs ks j).2.l.headD 0) ((((((stB bs ks j).1.getD j default).n : Nat) : Int) - ((((stB bs ks j).1.getD j default).m : Nat) : Int))+1)))) - 0) (((stB bs ks j).1.getD j default).cn - 0)) (c:=#[.slice ((stB bs ks j).1.getD j default).an (((stB bs ks j).1.getD j default).n) (((stB bs ks j).1.getD j default).cn),.slice ((stB bs ks j).1.getD j default).ak (((stB bs ks j).1.getD j default).m) (((stB bs ks j).1.getD j default).ck)]) (c':=#[.slice ((stB bs ks j).1.getD j default).an (((stB bs ks j).1.getD j default).n) (((stB bs ks j).1.getD j default).cn),.slice (cutA ((stB bs ks j).1.getD j default).an (((stB bs ks j).1.getD j default).cn) 0 1) ((Int.toNat (((((stB bs ks j).1.getD j default).m : Nat) : Int)+(nextK ((stB bs ks j).2.l.headD 0) ((((((stB bs ks j).1.getD j default).n : Nat) : Int) - ((((stB bs ks j).1.getD j default).m : Nat) : Int))+1)))) - 0) (((stB bs ks j).1.getD j default).cn - 0)]) (j:=2) (m:=j) (H':=([(b1,.cells #[.slice (ksNext (stB bs ks j).2).a ((ksNext (stB bs ks j).2).l.length) ((ksNext (stB bs ks j).2).c)] 49 (0,0))]::[(d,.cells #[.int .i64 room,.slice ba bs.length bc,.map (some nb),.map (some kb),.map (some cb),.bool fails,.bool once,.int .i64 calls] 72 (0,0))]::bodyG ((stB bs ks j).1.set j ⟨(bs.getD j default).p,((stB bs ks j).1.getD j default).an,((stB bs ks j).1.getD j default).n,((stB bs ks j).1.getD j default).cn,(cutA ((stB bs ks j).1.getD j default).an (((stB bs ks j).1.getD j default).cn) 0 1),(Int.toNat (((((stB bs ks j).1.getD j default).m : Nat) : Int)+(nextK ((stB bs ks j).2.l.headD 0) ((((((stB bs ks j).1.getD j default).n : Nat) : Int) - ((((stB bs ks j).1.getD j default).m : Nat) : Int))+1)))) - 0,((stB bs ks j).1.getD j default).cn - 0⟩)::[(kb,.map (encM km) kc)]::[(cb,.map (encM cm) cc)]::H)) rfl rfl kr kr kr kr kr kr kr rfl (stB_hb hjl) (Nat.le_of_ble_eq_true rfl) (fun _ _=>thaw0) kr (congrArg (List.set ([(b1,.cells #[.slice (ksNext (stB bs ks j).2).a ((ksNext (stB bs ks j).2).l.length) ((ksNext (stB bs ks j).2).c)] 49 (0,0))]::[(d,.cells #[.int .i64 room,.slice ba bs.length bc,.map (some nb),.map (some kb),.map (some cb),.bool fails,.bool once,.int .i64 calls] 72 (0,0))]::bodyG (stB bs ks j).1::[(kb,.map (encM km) kc)]::[(cb,.map (encM cm) cc)]::H) 2) (bodyG_set (stB bs ks j).1 j ⟨(bs.getD j default).p,((stB bs ks j).1.getD j default).an,((stB bs ks j).1.getD j default).n,((stB bs ks j).1.getD j default).cn,(cutA ((stB bs ks j).1.getD j default).an (((stB bs ks j).1.getD j default).cn) 0 1),(Int.toNat (((((stB bs ks j).1.getD j default).m : Nat) : Int)+(nextK ((stB bs ks j).2.l.headD 0) ((((((stB bs ks j).1.getD j default).n : Nat) : Int) - ((((stB bs ks j).1.getD j default).m : Nat) : Int))+1)))) - 0,((stB bs ks j).1.getD j default).cn - 0⟩)) ?_
      refine GH_back kr (fun w h=>((h.erase 2).erase 0)) ?_
      refine GH_done (E':=[⟨0,[],pt d⟩,⟨4,[],.func (.func 69) #[] #[pt b1]⟩,⟨6,[],pt ((bs.getD j default).p)⟩,⟨19,[],.slice ba bs.length bc⟩,⟨20,[],.int .i64 ((bs.length : Nat) : Int)⟩,⟨21,[],.int .i64 ((j : Nat) : Int)⟩]) [0,4,6,19,20,21] kr kr ?_
      refine N_join () [0,4,6,19,20,21] kr (fun w h=>h) trivial
    ·
     refine GL_call (i:=13) (ch:=[]) (f:=69) (fst:=#[]) (caps:=#[pt b1]) (vs:=[.int .i64 ((((((stB bs ks j).1.getD j default).n : Nat) : Int) - ((((stB bs ks j).1.getD j default).m : Nat) : Int))+1)]) rfl rfl rfl kr kr Tryz.func69 rfl rfl kr kr (chSure_of kr) (vNextA b1 (stB bs ks j).2 ((((((stB bs ks j).1.getD j default).n : Nat) : Int) - ((((stB bs ks j).1.getD j default).m : Nat) : Int))+1) (by omega) S (stB_ok hks j) _ _ (fun y o h=>(At.cons (At.cons (At.cons (At.cons (hS y o h))))))) ?_
     rintro v H' ⟨rfl, rfl⟩
     have hnx := nextK_bd (k := (stB bs ks j).2.l.headD 0) (n := (((((stB bs ks j).1.getD j default).n : Nat) : Int) - ((((stB bs ks j).1.getD j default).m : Nat) : Int)) + 1) (by omega)
     refine GH_back kr (fun w h=>((h.erase 2).erase 0)) ?_
     refine GH_eff2 4 8 kr kr kr kr kr ?_ ?_
     ·
      refine GL_load (i:=4) (ch:=[]) (b:=(bs.getD j default).p) (off:=0) (v:=.slice ((stB bs ks j).1.getD j default).an (((stB bs ks j).1.getD j default).n) (((stB bs ks j).1.getD j default).cn)) rfl rfl kr kr kr kr kr (At.grp 2 j rfl (stB_hb hjl)) rfl ?_
      refine GH_back kr (fun w h=>((h.erase 2).erase 0)) ?_
      refine GH_eff 8 kr kr kr ?_
      refine GL_load (i:=8) (ch:=[]) (b:=(bs.getD j default).p) (off:=1) (v:=.slice ((stB bs ks j).1.getD j default).ak (((stB bs ks j).1.getD j default).m) (((stB bs ks j).1.getD j default).ck)) rfl rfl kr kr kr kr kr (At.grp 2 j rfl (stB_hb hjl)) rfl ?_
      refine GH_back kr (fun w h=>((h.erase 2).erase 0)) ?_
      refine GH_pev (v:=.int .i64 ((((stB bs ks j).1.getD j default).m : Nat) : Int)) 9 rfl rfl kr kr kr kr kr (fun w h=>((h.erase 2).erase 0)) ?_
      refine GH_p (fuel:=4) [(14,0)] (fun w h=>((h.erase 2).erase 0)) kr rfl ?_
      refine GH_wi 52 (((((stB bs ks j).1.getD j default).m : Nat) : Int)+(nextK ((stB bs ks j).2.l.headD 0) ((((((stB bs ks j).1.getD j default).n : Nat) : Int) - ((((stB bs ks j).1.getD j default).m : Nat) : Int))+1))) (by omega) (by omega) kr ?_
      refine GH_take' 15 kr (fun w h=>((h.erase 2).erase 0)) (GL_sliceL (i:=15) (ch:=[]) (a:=((stB bs ks j).1.getD j default).an) (len:=((stB bs ks j).1.getD j default).n) (cap:=((stB bs ks j).1.getD j default).cn) (e:=5) (sz:=1) (vl:=none) (vh:=(some (.int .i64 (((((stB bs ks j).1.getD j default).m : Nat) : Int)+(nextK ((stB bs ks j).2.l.headD 0) ((((((stB bs ks j).1.getD j default).n : Nat) : Int) - ((((stB bs ks j).1.getD j default).m : Nat) : Int))+1)))))) (l:=0) (h:=((((stB bs ks j).1.getD j default).m : Nat) : Int)+(nextK ((stB bs ks j).2.l.headD 0) ((((((stB bs ks j).1.getD j default).n : Nat) : Int) - ((((stB bs ks j).1.getD j default).m : Nat) : Int))+1))) rfl rfl kr kr kr kr kr kr kr kr kr kr (fun _=>by omega) (GL_yend kr rfl)) ?_
      refine GH_nil (ad:=⟨(bs.getD j default).p,0,none⟩) 16 rfl rfl rfl kr kr kr kr kr (fun w h=>((h.erase 2).erase 0)) ?_
      refine GH_p (fuel:=1) [(17,0)] (fun w h=>((h.erase 2).erase 0)) kr rfl ?_
      refine GH_eff 18 kr kr kr ?_
      refine GL_store (i:=18) (ch:=[]) (b:=(bs.getD j default).p) (off:=1) (v:=.slice (cutA ((stB bs ks j).1.getD j default).an (((stB bs ks j).1.getD j default).cn) 0 1) ((Int.toNat (((((stB bs ks j).1.getD j default).m : Nat) : Int)+(nextK ((stB bs ks j).2.l.headD 0) ((((((stB bs ks j).1.getD j default).n : Nat) : Int) - ((((stB bs ks j).1.getD j default).m : Nat) : Int))+1)))) - 0) (((stB bs ks j).1.getD j default).cn - 0)) (c:=#[.slice ((stB bs ks j).1.getD j default).an (((stB bs ks j).1.getD j default).n) (((stB bs ks j).1.getD j default).cn),.slice ((stB bs ks j).1.getD j default).ak (((stB bs ks j).1.getD j default).m) (((stB bs ks j).1.getD j default).ck)]) (c':=#[.slice ((stB bs ks j).1.getD j default).an (((stB bs ks j).1.getD j default).n) (((stB bs ks j).1.getD j default).cn),.slice (cutA ((stB bs ks j).1.getD j default).an (((stB bs ks j).1.getD j default).cn) 0 1) ((Int.toNat (((((stB bs ks j).1.getD j default).m : Nat) : Int)+(nextK ((stB bs ks j).2.l.headD 0) ((((((stB bs ks j).1.getD j default).n : Nat) : Int) - ((((stB bs ks j).1.getD j default).m : Nat) : Int))+1)))) - 0) (((stB bs ks j).1.getD j default).cn - 0)]) (j:=2) (m:=j) (H':=([(b1,.cells #[.slice (ksNext (stB bs ks j).2).a ((ksNext (stB bs ks j).2).l.length) ((ksNext (stB bs ks j).2).c)] 49 (0,0))]::[(d,.cells #[.int .i64 room,.slice ba bs.length bc,.map (some nb),.map (some kb),.map (some cb),.bool fails,.bool once,.int .i64 calls] 72 (0,0))]::bodyG ((stB bs ks j).1.set j ⟨(bs.getD j default).p,((stB bs ks j).1.getD j default).an,((stB bs ks j).1.getD j default).n,((stB bs ks j).1.getD j default).cn,(cutA ((stB bs ks j).1.getD j default).an (((stB bs ks j).1.getD j default).cn) 0 1),(Int.toNat (((((stB bs ks j).1.getD j default).m : Nat) : Int)+(nextK ((stB bs ks j).2.l.headD 0) ((((((stB bs ks j).1.getD j default).n : Nat) : Int) - ((((stB bs ks j).1.getD j default).m : Nat) : Int))+1)))) - 0,((stB bs ks j).1.getD j default).cn - 0⟩)::[(kb,.map (encM km) kc)]::[(cb,.map (encM cm) cc)]::H)) rfl rfl kr kr kr kr kr kr kr rfl (stB_hb hjl) (Nat.le_of_ble_eq_true rfl) (fun _ _=>thaw0) kr (congrArg (List.set ([(b1,.cells #[.slice (ksNext (stB bs ks j).2).a ((ksNext (stB bs ks j).2).l.length) ((ksNext (stB bs ks j).2).c)] 49 (0,0))]::[(d,.cells #[.int .i64 room,.slice ba bs.length bc,.map (some nb),.map (some kb),.map (some cb),.bool fails,.bool once,.int .i64 calls] 72 (0,0))]::bodyG (stB bs ks j).1::[(kb,.map (encM km) kc)]::[(cb,.map (encM cm) cc)]::H) 2) (bodyG_set (stB bs ks j).1 j ⟨(bs.getD j default).p,((stB bs ks j).1.getD j default).an,((stB bs ks j).1.getD j default).n,((stB bs ks j).1.getD j default).cn,(cutA ((stB bs ks j).1.getD j default).an (((stB bs ks j).1.getD j default).cn) 0 1),(Int.toNat (((((stB bs ks j).1.getD j default).m : Nat) : Int)+(nextK ((stB bs ks j).2.l.headD 0) ((((((stB bs ks j).1.getD j default).n : Nat) : Int) - ((((stB bs ks j).1.getD j default).m : Nat) : Int))+1)))) - 0,((stB bs ks j).1.getD j default).cn - 0⟩)) ?_
      refine GH_back kr (fun w h=>((h.erase 2).erase 0)) ?_
      refine GH_done (E':=[⟨0,[],pt d⟩,⟨4,[],.func (.func 69) #[] #[pt b1]⟩,⟨6,[],pt ((bs.getD j default).p)⟩,⟨19,[],.slice ba bs.length bc⟩,⟨20,[],.int .i64 ((bs.length : Nat) : Int)⟩,⟨21,[],.int .i64 ((j : Nat) : Int)⟩]) [0,4,6,19,20,21] kr kr ?_
      refine N_join () [0,4,6,19,20,21] kr (fun w h=>h) trivial
     ·
      refine GL_load (i:=8) (ch:=[]) (b:=(bs.getD j default).p) (off:=1) (v:=.slice ((stB bs ks j).1.getD j default).ak (((stB bs ks j).1.getD j default).m) (((stB bs ks j).1.getD j default).ck)) rfl rfl kr kr kr kr kr (At.grp 2 j rfl (stB_hb hjl)) rfl ?_
      refine GH_back kr (fun w h=>((h.erase 2).erase 0)) ?_
      refine GH_pev (v:=.int .i64 ((((stB bs ks j).1.getD j default).m : Nat) : Int)) 9 rfl rfl kr kr kr kr kr (fun w h=>((h.erase 2).erase 0)) ?_
      refine GH_p (fuel:=5) [(14,0)] (fun w h=>((h.erase 2).erase 0)) kr rfl ?_
      refine GH_wi 52 (((((stB bs ks j).1.getD j default).m : Nat) : Int)+(nextK ((stB bs ks j).2.l.headD 0) ((((((stB bs ks j).1.getD j default).n : Nat) : Int) - ((((stB bs ks j).1.getD j default).m : Nat) : Int))+1))) (by omega) (by omega) kr ?_
      refine GH_eff 4 kr kr kr ?_
      refine GL_load (i:=4) (ch:=[]) (b:=(bs.getD j default).p) (off:=0) (v:=.slice ((stB bs ks j).1.getD j default).an (((stB bs ks j).1.getD j default).n) (((stB bs ks j).1.getD j default).cn)) rfl rfl kr kr kr kr kr (At.grp 2 j rfl (stB_hb hjl)) rfl ?_
      refine GH_back kr (fun w h=>((h.erase 2).erase 0)) ?_
      refine GH_take' 15 kr (fun w h=>((h.erase 2).erase 0)) (GL_sliceL (i:=15) (ch:=[]) (a:=((stB bs ks j).1.getD j default).an) (len:=((stB bs ks j).1.getD j default).n) (cap:=((stB bs ks j).1.getD j default).cn) (e:=5) (sz:=1) (vl:=none) (vh:=(some (.int .i64 (((((stB bs ks j).1.getD j default).m : Nat) : Int)+(nextK ((stB bs ks j).2.l.headD 0) ((((((stB bs ks j).1.getD j default).n : Nat) : Int) - ((((stB bs ks j).1.getD j default).m : Nat) : Int))+1)))))) (l:=0) (h:=((((stB bs ks j).1.getD j default).m : Nat) : Int)+(nextK ((stB bs ks j).2.l.headD 0) ((((((stB bs ks j).1.getD j default).n : Nat) : Int) - ((((stB bs ks j).1.getD j default).m : Nat) : Int))+1))) rfl rfl kr kr kr kr kr kr kr kr kr kr (fun _=>by omega) (GL_yend kr rfl)) ?_
      refine GH_nil (ad:=⟨(bs.getD j default).p,0,none⟩) 16 rfl rfl rfl kr kr kr kr kr (fun w h=>((h.erase 2).erase 0)) ?_
      refine GH_p (fuel:=1) [(17,0)] (fun w h=>((h.erase 2).erase 0)) kr rfl ?_
      refine GH_eff 18 kr kr kr ?_
      refine GL_store (i:=18) (ch:=[]) (b:=(bs.getD j default).p) (off:=1) (v:=.slice (cutA ((stB bs ks j).1.getD j default).an (((stB bs ks j).1.getD j default).cn) 0 1) ((Int.toNat (((((stB bs ks j).1.getD j default).m : Nat) : Int)+(nextK ((stB bs ks j).2.l.headD 0) ((((((stB bs ks j).1.getD j default).n : Nat) : Int) - ((((stB bs ks j).1.getD j default).m : Nat) : Int))+1)))) - 0) (((stB bs ks j).1.getD j default).cn - 0)) (c:=#[.slice ((stB bs ks j).1.getD j default).an (((stB bs ks j).1.getD j default).n) (((stB bs ks j).1.getD j default).cn),.slice ((stB bs ks j).1.getD j default).ak (((stB bs ks j).1.getD j default).m) (((stB bs ks j).1.getD j default).ck)]) (c':=#[.slice ((stB bs ks j).1.getD j default).an (((stB bs ks j).1.getD j default).n) (((stB bs ks j).1.getD j default).cn),.slice (cutA ((stB bs ks j).1.getD j default).an (((stB bs ks j).1.getD j default).cn) 0 1) ((Int.toNat (((((stB bs ks j).1.getD j default).m : Nat) : Int)+(nextK ((stB bs ks j).2.l.headD 0) ((((((stB bs ks j).1.getD j default).n : Nat) : Int) - ((((stB bs ks j).1.getD j default).m : Nat) : Int))+1)))) - 0) (((stB bs ks j).1.getD j default).cn - 0)]) (j:=2) (m:=j) (H':=([(b1,.cells #[.slice (ksNext (stB bs ks j).2).a ((ksNext (stB bs ks j).2).l.length) ((ksNext (stB bs ks j).2).c)] 49 (0,0))]::[(d,.cells #[.int .i64 room,.slice ba bs.length bc,.map (some nb),.map (some kb),.map (some cb),.bool fails,.bool once,.int .i64 calls] 72 (0,0))]::bodyG ((stB bs ks j).1.set j ⟨(bs.getD j default).p,((stB bs ks j).1.getD j default).an,((stB bs ks j).1.getD j default).n,((stB bs ks j).1.getD j default).cn,(cutA ((stB bs ks j).1.getD j default).an (((stB bs ks j).1.getD j default).cn) 0 1),(Int.toNat (((((stB bs ks j).1.getD j default).m : Nat) : Int)+(nextK ((stB bs ks j).2.l.headD 0) ((((((stB bs ks j).1.getD j default).n : Nat) : Int) - ((((stB bs ks j).1.getD j default).m : Nat) : Int))+1)))) - 0,((stB bs ks j).1.getD j default).cn - 0⟩)::[(kb,.map (encM km) kc)]::[(cb,.map (encM cm) cc)]::H)) rfl rfl kr kr kr kr kr kr kr rfl (stB_hb hjl) (Nat.le_of_ble_eq_true rfl) (fun _ _=>thaw0) kr (congrArg (List.set ([(b1,.cells #[.slice (ksNext (stB bs ks j).2).a ((ksNext (stB bs ks j).2).l.length) ((ksNext (stB bs ks j).2).c)] 49 (0,0))]::[(d,.cells #[.int .i64 room,.slice ba bs.length bc,.map (some nb),.map (some kb),.map (some cb),.bool fails,.bool once,.int .i64 calls] 72 (0,0))]::bodyG (stB bs ks j).1::[(kb,.map (encM km) kc)]::[(cb,.map (encM cm) cc)]::H) 2) (bodyG_set (stB bs ks j).1 j ⟨(bs.getD j default).p,((stB bs ks j).1.getD j default).an,((stB bs ks j).1.getD j default).n,((stB bs ks j).1.getD j default).cn,(cutA ((stB bs ks j).1.getD j default).an (((stB bs ks j).1.getD j default).cn) 0 1),(Int.toNat (((((stB bs ks j).1.getD j default).m : Nat) : Int)+(nextK ((stB bs ks j).2.l.headD 0) ((((((stB bs ks j).1.getD j default).n : Nat) : Int) - ((((stB bs ks j).1.getD j default).m : Nat) : Int))+1)))) - 0,((stB bs ks j).1.getD j default).cn - 0⟩)) ?_
      refine GH_back kr (fun w h=>((h.erase 2).erase 0)) ?_
      refine GH_done (E':=[⟨0,[],pt d⟩,⟨4,[],.func (.func 69) #[] #[pt b1]⟩,⟨6,[],pt ((bs.getD j default).p)⟩,⟨19,[],.slice ba bs.length bc⟩,⟨20,[],.int .i64 ((bs.length : Nat) : Int)⟩,⟨21,[],.int .i64 ((j : Nat) : Int)⟩]) [0,4,6,19,20,21] kr kr ?_
      refine N_join () [0,4,6,19,20,21] kr (fun w h=>h) trivial
   ·
    rintro _ _
    refine N_then ?_
    refine G_region ?_
    refine GL_p [0,0,0,0] kr (j:=4) rfl ?_
    refine GL_load (i:=4) (ch:=[]) (b:=(bs.getD j default).p) (off:=1) (v:=.slice (cutA ((stB bs ks j).1.getD j default).an (((stB bs ks j).1.getD j default).cn) 0 1) ((Int.toNat (((((stB bs ks j).1.getD j default).m : Nat) : Int)+(nextK ((stB bs ks j).2.l.headD 0) ((((((stB bs ks j).1.getD j default).n : Nat) : Int) - ((((stB bs ks j).1.getD j default).m : Nat) : Int))+1)))) - 0) (((stB bs ks j).1.getD j default).cn - 0)) rfl rfl kr kr kr kr kr (At.grp 2 j rfl (bodyG_at_set (stB bs ks j).1 j ⟨(bs.getD j default).p,((stB bs ks j).1.getD j default).an,((stB bs ks j).1.getD j default).n,((stB bs ks j).1.getD j default).cn,(cutA ((stB bs ks j).1.getD j default).an (((stB bs ks j).1.getD j default).cn) 0 1),(Int.toNat (((((stB bs ks j).1.getD j default).m : Nat) : Int)+(nextK ((stB bs ks j).2.l.headD 0) ((((((stB bs ks j).1.getD j default).n : Nat) : Int) - ((((stB bs ks j).1.getD j default).m : Nat) : Int))+1)))) - 0,((stB bs ks j).1.getD j default).cn - 0⟩ (by rw [stB_len]; exact hjl))) rfl ?_
    refine GL_p [0,0] kr (j:=7) rfl ?_
    refine GL_store (i:=7) (ch:=[]) (b:=(bs.getD j default).p) (off:=0) (v:=.slice (cutA ((stB bs ks j).1.getD j default).an (((stB bs ks j).1.getD j default).cn) 0 1) ((Int.toNat (((((stB bs ks j).1.getD j default).m : Nat) : Int)+(nextK ((stB bs ks j).2.l.headD 0) ((((((stB bs ks j).1.getD j default).n : Nat) : Int) - ((((stB bs ks j).1.getD j default).m : Nat) : Int))+1)))) - 0) (((stB bs ks j).1.getD j default).cn - 0)) (c:=#[.slice ((stB bs ks j).1.getD j default).an (((stB bs ks j).1.getD j default).n) (((stB bs ks j).1.getD j default).cn),.slice (cutA ((stB bs ks j).1.getD j default).an (((stB bs ks j).1.getD j default).cn) 0 1) ((Int.toNat (((((stB bs ks j).1.getD j default).m : Nat) : Int)+(nextK ((stB bs ks j).2.l.headD 0) ((((((stB bs ks j).1.getD j default).n : Nat) : Int) - ((((stB bs ks j).1.getD j default).m : Nat) : Int))+1)))) - 0) (((stB bs ks j).1.getD j default).cn - 0)]) (c':=#[.slice (cutA ((stB bs ks j).1.getD j default).an (((stB bs ks j).1.getD j default).cn) 0 1) ((Int.toNat (((((stB bs ks j).1.getD j default).m : Nat) : Int)+(nextK ((stB bs ks j).2.l.headD 0) ((((((stB bs ks j).1.getD j default).n : Nat) : Int) - ((((stB bs ks j).1.getD j default).m : Nat) : Int))+1)))) - 0) (((stB bs ks j).1.getD j default).cn - 0),.slice (cutA ((stB bs ks j).1.getD j default).an (((stB bs ks j).1.getD j default).cn) 0 1) ((Int.toNat (((((stB bs ks j).1.getD j default).m : Nat) : Int)+(nextK ((stB bs ks j).2.l.headD 0) ((((((stB bs ks j).1.getD j default).n : Nat) : Int) - ((((stB bs ks j).1.getD j default).m : Nat) : Int))+1)))) - 0) (((stB bs ks j).1.getD j default).cn - 0)]) (j:=2) (m:=j) (H':=([(b1,.cells #[.slice (ksNext (stB bs ks j).2).a ((ksNext (stB bs ks j).2).l.length) ((ksNext (stB bs ks j).2).c)] 49 (0,0))]::[(d,.cells #[.int .i64 room,.slice ba bs.length bc,.map (some nb),.map (some kb),.map (some cb),.bool fails,.bool once,.int .i64 calls] 72 (0,0))]::bodyG (((stB bs ks j).1.set j ⟨(bs.getD j default).p,((stB bs ks j).1.getD j default).an,((stB bs ks j).1.getD j default).n,((stB bs ks j).1.getD j default).cn,(cutA ((stB bs ks j).1.getD j default).an (((stB bs ks j).1.getD j default).cn) 0 1),(Int.toNat (((((stB bs ks j).1.getD j default).m : Nat) : Int)+(nextK ((stB bs ks j).2.l.headD 0) ((((((stB bs ks j).1.getD j default).n : Nat) : Int) - ((((stB bs ks j).1.getD j default).m : Nat) : Int))+1)))) - 0,((stB bs ks j).1.getD j default).cn - 0⟩).set j ⟨(bs.getD j default).p,(cutA ((stB bs ks j).1.getD j default).an (((stB bs ks j).1.getD j default).cn) 0 1),(Int.toNat (((((stB bs ks j).1.getD j default).m : Nat) : Int)+(nextK ((stB bs ks j).2.l.headD 0) ((((((stB bs ks j).1.getD j default).n : Nat) : Int) - ((((stB bs ks j).1.getD j default).m : Nat) : Int))+1)))) - 0,((stB bs ks j).1.getD j default).cn - 0,(cutA ((stB bs ks j).1.getD j default).an (((stB bs ks j).1.getD j default).cn) 0 1),(Int.toNat (((((stB bs ks j).1.getD j default).m : Nat) : Int)+(nextK ((stB bs ks j).2.l.headD 0) ((((((stB bs ks j).1.getD j default).n : Nat) : Int) - ((((stB bs ks j).1.getD j default).m : Nat) : Int))+1)))) - 0,((stB bs ks j).1.getD j default).cn - 0⟩)::[(kb,.map (encM km) kc)]::[(cb,.map (encM cm) cc)]::H)) rfl rfl kr kr kr kr kr kr kr rfl (bodyG_at_set (stB bs ks j).1 j ⟨(bs.getD j default).p,((stB bs ks j).1.getD j default).an,((stB bs ks j).1.getD j default).n,((stB bs ks j).1.getD j default).cn,(cutA ((stB bs ks j).1.getD j default).an (((stB bs ks j).1.getD j default).cn) 0 1),(Int.toNat (((((stB bs ks j).1.getD j default).m : Nat) : Int)+(nextK ((stB bs ks j).2.l.headD 0) ((((((stB bs ks j).1.getD j default).n : Nat) : Int) - ((((stB bs ks j).1.getD j default).m : Nat) : Int))+1)))) - 0,((stB bs ks j).1.getD j default).cn - 0⟩ (by rw [stB_len]; exact hjl)) (Nat.le_of_ble_eq_true rfl) (fun _ _=>thaw0) kr (congrArg (List.set ([(b1,.cells #[.slice (ksNext (stB bs ks j).2).a ((ksNext (stB bs ks j).2).l.length) ((ksNext (stB bs ks j).2).c)] 49 (0,0))]::[(d,.cells #[.int .i64 room,.slice ba bs.length bc,.map (some nb),.map (some kb),.map (some cb),.bool fails,.bool once,.int .i64 calls] 72 (0,0))]::bodyG ((stB bs ks j).1.set j ⟨(bs.getD j default).p,((stB bs ks j).1.getD j default).an,((stB bs ks j).1.getD j default).n,((stB bs ks j).1.getD j default).cn,(cutA ((stB bs ks j).1.getD j default).an (((stB bs ks j).1.getD j default).cn) 0 1),(Int.toNat (((((stB bs ks j).1.getD j default).m : Nat) : Int)+(nextK ((stB bs ks j).2.l.headD 0) ((((((stB bs ks j).1.getD j default).n : Nat) : Int) - ((((stB bs ks j).1.getD j default).m : Nat) : Int))+1)))) - 0,((stB bs ks j).1.getD j default).cn - 0⟩)::[(kb,.map (encM km) kc)]::[(cb,.map (encM cm) cc)]::H) 2) (bodyG_set ((stB bs ks j).1.set j ⟨(bs.getD j default).p,((stB bs ks j).1.getD j default).an,((stB bs ks j).1.getD j default).n,((stB bs ks j).1.getD j default).cn,(cutA ((stB bs ks j).1.getD j default).an (((stB bs ks j).1.getD j default).cn) 0 1),(Int.toNat (((((stB bs ks j).1.getD j default).m : Nat) : Int)+(nextK ((stB bs ks j).2.l.headD 0) ((((((stB bs ks j).1.getD j default).n : Nat) : Int) - ((((stB bs ks j).1.getD j default).m : Nat) : Int))+1)))) - 0,((stB bs ks j).1.getD j default).cn - 0⟩) j ⟨(bs.getD j default).p,(cutA ((stB bs ks j).1.getD j default).an (((stB bs ks j).1.getD j default).cn) 0 1),(Int.toNat (((((stB bs ks j).1.getD j default).m : Nat) : Int)+(nextK ((stB bs ks j).2.l.headD 0) ((((((stB bs ks j).1.getD j default).n : Nat) : Int) - ((((stB bs ks j).1.getD j default).m : Nat) : Int))+1)))) - 0,((stB bs ks j).1.getD j default).cn - 0,(cutA ((stB bs ks j).1.getD j default).an (((stB bs ks j).1.getD j default).cn) 0 1),(Int.toNat (((((stB bs ks j).1.getD j default).m : Nat) : Int)+(nextK ((stB bs ks j).2.l.headD 0) ((((((stB bs ks j).1.getD j default).n : Nat) : Int) - ((((stB bs ks j).1.getD j default).m : Nat) : Int))+1)))) - 0,((stB bs ks j).1.getD j default).cn - 0⟩)) ?_
    refine GL_fin (E':=[⟨0,[],pt d⟩,⟨4,[],.func (.func 69) #[] #[pt b1]⟩,⟨19,[],.slice ba bs.length bc⟩,⟨20,[],.int .i64 ((bs.length : Nat) : Int)⟩,⟨21,[],.int .i64 ((j : Nat) : Int)⟩]) [] [0,4,19,20,21] rfl kr ?_
    refine N_block ?_
    refine N_then ?_
    refine G_region ?_
    refine GL_p [0] kr (j:=1) rfl ?_
    refine GL_wi 63 (((j : Nat) : Int)+1) (by omega) (by omega) kr ?_
    refine GL_fin (E':=[⟨0,[],pt d⟩,⟨4,[],.func (.func 69) #[] #[pt b1]⟩,⟨19,[],.slice ba bs.length bc⟩,⟨20,[],.int .i64 ((bs.length : Nat) : Int)⟩,⟨21,[],.int .i64 (((j : Nat) : Int)+1)⟩]) [0] [0,4,19,20,21] rfl kr ?_
    refine N_heq (H':=([(b1,.cells #[.slice (stB bs ks (j+1)).2.a ((stB bs ks (j+1)).2.l.length) ((stB bs ks (j+1)).2.c)] 49 (0,0))]::[(d,.cells #[.int .i64 room,.slice ba bs.length bc,.map (some nb),.map (some kb),.map (some cb),.bool fails,.bool once,.int .i64 calls] 72 (0,0))]::bodyG (stB bs ks (j+1)).1::[(kb,.map (encM km) kc)]::[(cb,.map (encM cm) cc)]::H)) (by first | (rw [stB_yes (by omega),List.set_set]) | (rw [stB_yes (by omega),List.set_set]; rfl) | (rw [stB_no (by omega)]) | (rw [stB_no (by omega)]; rfl)) ?_
    refine N_round (s':=(j+1)) [0,4,19,20,21] kr rfl (by omega) (by omega)
  ·
   replace hc4 := of_decide_eq_false hc4
   refine G_skip ?_
   refine N_then ?_
   refine G_region ?_
   refine GL_p [0,0,0,0] kr (j:=4) rfl ?_
   refine GL_load (i:=4) (ch:=[]) (b:=(bs.getD j default).p) (off:=1) (v:=.slice ((stB bs ks j).1.getD j default).ak (((stB bs ks j).1.getD j default).m) (((stB bs ks j).1.getD j default).ck)) rfl rfl kr kr kr kr kr (At.grp 2 j rfl (stB_hb hjl)) rfl ?_
   refine GL_p [0,0] kr (j:=7) rfl ?_
   refine GL_store (i:=7) (ch:=[]) (b:=(bs.getD j default).p) (off:=0) (v:=.slice ((stB bs ks j).1.getD j default).ak (((stB bs ks j).1.getD j default).m) (((stB bs ks j).1.getD j default).ck)) (c:=#[.slice ((stB bs ks j).1.getD j default).an (((stB bs ks j).1.getD j default).n) (((stB bs ks j).1.getD j default).cn),.slice ((stB bs ks j).1.getD j default).ak (((stB bs ks j).1.getD j default).m) (((stB bs ks j).1.getD j default).ck)]) (c':=#[.slice ((stB bs ks j).1.getD j default).ak (((stB bs ks j).1.getD j default).m) (((stB bs ks j).1.getD j default).ck),.slice ((stB bs ks j).1.getD j default).ak (((stB bs ks j).1.getD j default).m) (((stB bs ks j).1.getD j default).ck)]) (j:=2) (m:=j) (H':=([(b1,.cells #[.slice (stB bs ks j).2.a ((stB bs ks j).2.l.length) ((stB bs ks j).2.c)] 49 (0,0))]::[(d,.cells #[.int .i64 room,.slice ba bs.length bc,.map (some nb),.map (some kb),.map (some cb),.bool fails,.bool once,.int .i64 calls] 72 (0,0))]::bodyG ((stB bs ks j).1.set j ⟨(bs.getD j default).p,((stB bs ks j).1.getD j default).ak,((stB bs ks j).1.getD j default).m,((stB bs ks j).1.getD j default).ck,((stB bs ks j).1.getD j default).ak,((stB bs ks j).1.getD j default).m,((stB bs ks j).1.getD j default).ck⟩)::[(kb,.map (encM km) kc)]::[(cb,.map (encM cm) cc)]::H)) rfl rfl kr kr kr kr kr kr kr rfl (stB_hb hjl) (Nat.le_of_ble_eq_true rfl) (fun _ _=>thaw0) kr (congrArg (List.set ([(b1,.cells #[.slice (stB bs ks j).2.a ((stB bs ks j).2.l.length) ((stB bs ks j).2.c)] 49 (0,0))]::[(d,.cells #[.int .i64 room,.slice ba bs.length bc,.map (some nb),.map (some kb),.map (some cb),.bool fails,.bool once,.int .i64 calls] 72 (0,0))]::bodyG (stB bs ks j).1::[(kb,.map (encM km) kc)]::[(cb,.map (encM cm) cc)]::H) 2) (bodyG_set (stB bs ks j).1 j ⟨(bs.getD j default).p,((stB bs ks j).1.getD j default).ak,((stB bs ks j).1.getD j default).m,((stB bs ks j).1.getD j default).ck,((stB bs ks j).1.getD j default).ak,((stB bs ks j).1.getD j default).m,((stB bs ks j).1.getD j default).ck⟩)) ?_
   refine GL_fin (E':=[⟨0,[],pt d⟩,⟨4,[],.func (.func 69) #[] #[pt b1]⟩,⟨19,[],.slice ba bs.length bc⟩,⟨20,[],.int .i64 ((bs.length : Nat) : Int)⟩,⟨21,[],.int .i64 ((j : Nat) : Int)⟩]) [] [0,4,19,20,21] rfl kr ?_
   refine N_block ?_
   refine N_then ?_
   refine G_region ?_
   refine GL_p [0] kr (j:=1) rfl ?_
   refine GL_wi 63 (((j : Nat) : Int)+1) (by omega) (by omega) kr ?_
   refine GL_fin (E':=[⟨0,[],pt d⟩,⟨4,[],.func (.func 69) #[] #[pt b1]⟩,⟨19,[],.slice ba bs.length bc⟩,⟨20,[],.int .i64 ((bs.length : Nat) : Int)⟩,⟨21,[],.int .i64 (((j : Nat) : Int)+1)⟩]) [0] [0,4,19,20,21] rfl kr ?_
   refine N_heq (H':=([(b1,.cells #[.slice (stB bs ks (j+1)).2.a ((stB bs ks (j+1)).2.l.length) ((stB bs ks (j+1)).2.c)] 49 (0,0))]::[(d,.cells #[.int .i64 room,.slice ba bs.length bc,.map (some nb),.map (some kb),.map (some cb),.bool fails,.bool once,.int .i64 calls] 72 (0,0))]::bodyG (stB bs ks (j+1)).1::[(kb,.map (encM km) kc)]::[(cb,.map (encM cm) cc)]::H)) (by first | (rw [stB_yes (by omega),List.set_set]) | (rw [stB_yes (by omega),List.set_set]; rfl) | (rw [stB_no (by omega)]) | (rw [stB_no (by omega)]; rfl)) ?_
   refine N_round (s':=(j+1)) [0,4,19,20,21] kr rfl (by omega) (by omega)
 ·
  replace hc2 := of_decide_eq_false hc2
  refine G_exit ?_
  refine N_then_exit ?_
  refine N_then_exit ?_
  refine N_block_exit ?_
  refine N_then ?_
  refine G_seq ?_
  refine G_seq ?_
  refine G_region ?_
  refine GL_p [0,0,0] kr (j:=3) rfl ?_
  refine GL_load (i:=3) (ch:=[]) (b:=d) (off:=4) (v:=.map (some cb)) rfl rfl kr kr kr kr kr (At.grp 1 0 rfl rfl) rfl ?_
  refine GL_call (i:=4) (ch:=[]) (f:=71) (fst:=#[]) (caps:=#[]) (vs:=[.map (some cb)]) rfl rfl rfl kr kr Tryz.func71 rfl rfl kr kr (chSure_of kr) (vKeys cb _ _) ?_
  rintro v H' ⟨b14, rfl, rfl⟩
  refine GL_heap rfl (H':=([(b14,.cells #[.map (some cb)] 69 (0,0))]::[(cb,.map (encM cm) cc)]::[(b1,.cells #[.slice (stB bs ks j).2.a ((stB bs ks j).2.l.length) ((stB bs ks j).2.c)] 49 (0,0))]::[(d,.cells #[.int .i64 room,.slice ba bs.length bc,.map (some nb),.map (some kb),.map (some cb),.bool fails,.bool once,.int .i64 calls] 72 (0,0))]::bodyG (stB bs ks j).1::[(kb,.map (encM km) kc)]::H)) (fun w h=>((h.front (j:=5) rfl).front (j:=1) rfl)) ?_
  refine GL_call (i:=5) (ch:=[]) (f:=70) (fst:=#[]) (caps:=#[]) (vs:=[.func (.func 93) #[] #[pt b14]]) rfl rfl rfl kr kr Tryz.func70 rfl rfl kr kr (chSure_of kr) (sortedC cm cc cb b14 hcm hcs hcl _ _) ?_
  rintro v H' ⟨sg, hO, rfl⟩
  obtain ⟨ds, hds⟩ : ∃ ds, ds = sortB (cm.map Prod.fst) := ⟨_, rfl⟩
  have hdl : ds.length = cm.length := by rw [hds, sortB_len, List.length_map]
  rw [← hds] at hO
  obtain ⟨sa, sc, rfl, hsc, hsr⟩ := hO.shape
  refine GL_fin (E':=[⟨0,[],pt d⟩,⟨4,[],.func (.func 69) #[] #[pt b1]⟩,⟨69,[],.slice sa cm.length sc⟩,⟨70,[],.int .i64 ((cm.length : Nat) : Int)⟩,⟨71,[],.int .i64 0⟩]) [0,0] [0,4,69,70,71] rfl kr ?_
  refine N_then ?_
  refine G_block ?_
  have hjn : j = bs.length := by omega
  subst hjn
  refine G_loop (EI:=(fun ξ : Nat × SM × Nat × KS=>[⟨0,[],pt d⟩,⟨4,[],.func (.func 69) #[] #[pt b1]⟩,⟨69,[],.slice sa cm.length sc⟩,⟨70,[],.int .i64 ((cm.length : Nat) : Int)⟩,⟨71,[],.int .i64 ((ξ.1 : Nat) : Int)⟩])) (HI:=(fun ξ : Nat × SM × Nat × KS=>(sg::[(b14,.cells #[.map (some cb)] 69 (0,0))]::[(cb,.map (encM cm) cc)]::[(b1,.cells #[.slice ξ.2.2.2.a ξ.2.2.2.l.length ξ.2.2.2.c] 49 (0,0))]::[(d,.cells #[.int .i64 room,.slice ba bs.length bc,.map (some nb),.map (some kb),.map (some cb),.bool fails,.bool once,.int .i64 calls] 72 (0,0))]::bodyG (stB bs ks bs.length).1::[(kb,.map (encM ξ.2.1) ξ.2.2.1)]::H))) (Φ:=(fun ξ : Nat × SM × Nat × KS=>(ξ.1 ≤ ds.length)∧(KsOk S ξ.2.2.2)∧(CrashK rows (ds.take ξ.1) ((km,kc),(stB bs ks bs.length).2) ((ξ.2.1,ξ.2.2.1),ξ.2.2.2))∧(MapOk ξ.2.1 ξ.2.2.1))) (μ:=(fun ξ : Nat × SM × Nat × KS=>ds.length - ξ.1)) (s0:=(0,km,kc,(stB bs ks bs.length).2)) [0,4,69,70,71] kr (by rfl) ⟨(by omega),(stB_ok hks _),(by rfl),hkm⟩ ?_
  rintro ⟨i, km1, kc1, ks1⟩ ⟨hi, hk1, hR, hmk⟩
  refine G_seq ?_
  refine G_pure (E':=[⟨0,[],pt d⟩,⟨4,[],.func (.func 69) #[] #[pt b1]⟩,⟨69,[],.slice sa cm.length sc⟩,⟨70,[],.int .i64 ((cm.length : Nat) : Int)⟩,⟨71,[],.int .i64 ((i : Nat) : Int)⟩,⟨72,[],.bool (decide (((i : Nat) : Int) < ((cm.length : Nat) : Int)))⟩]) [0] [0,4,69,70,71,72] rfl kr ?_
  refine N_then ?_
  refine G_seq ?_
  refine G_cond (b:=decide (((i : Nat) : Int) < ((cm.length : Nat) : Int))) kr (fun hc15=>?_) (fun hc15=>?_)
  ·
   replace hc15 := of_decide_eq_true hc15
   refine G_skip ?_
   refine N_then ?_
   refine G_seq ?_
   refine G_block ?_
   refine G_seq ?_
   refine G_region ?_
   refine GL_indexAddr (i:=0) (ch:=[]) (a:=sa) (len:=cm.length) (cap:=sc) (kd:=.i64) (j:=((i : Nat) : Int)) (e:=9) (sz:=1) (S:=(inG sg)) (cs:=(strs ds)) rfl rfl kr kr kr kr kr kr kr hsr (fun _=>by exact ⟨by omega,by omega,by first | exact List.cons_ne_nil _ _ | (intro h; simp [strs] at h; simp [h] at *; omega)⟩) ?_
   refine GL_loadS (i:=1) (ch:=[]) (a:=sa) (q:=i * 1) (S:=(inG sg)) (cs:=(strs ds)) (v:=.string (ds.getD i default)) rfl rfl kr kr kr kr kr hsr (at_inG 0 rfl) (fun _=>(by rw [Nat.mul_one]; exact strs_at (by omega))) ?_
   refine GL_fin (E':=[⟨0,[],pt d⟩,⟨4,[],.func (.func 69) #[] #[pt b1]⟩,⟨9,[],.string (ds.getD i default)⟩,⟨69,[],.slice sa cm.length sc⟩,⟨70,[],.int .i64 ((cm.length : Nat) : Int)⟩,⟨71,[],.int .i64 ((i : Nat) : Int)⟩]) [0] [0,4,9,69,70,71] rfl kr ?_
   refine N_then ?_
   refine G_seq ?_
   refine G_region ?_
   refine GL_p [0,0,0] kr (j:=3) rfl ?_
   refine GL_load (i:=3) (ch:=[]) (b:=d) (off:=4) (v:=.map (some cb)) rfl rfl kr kr kr kr kr (At.grp 4 0 rfl rfl) rfl ?_
   refine GL_p [0] kr (j:=5) rfl ?_
   have hdm : ds.getD i default ∈ cm.map Prod.fst := by (subst hds; exact sort_mem (by omega))
   have hro := hrows _ hdm
   obtain ⟨r, hr⟩ : ∃ r, r = rows (ds.getD i default) := ⟨_, rfl⟩
   rw [← hr] at hro
   obtain ⟨hg, hrd, hrl, hrq, hrc, hAll⟩ := hro
   refine GL_lookup (i:=5) (ch:=[]) (kt:=9) (et:=118) (r:=cb) (c:=cc) (m:=cm) (k:=(ds.getD i default)) (z:=.slice none 0 0) (ov:=(some (.slice r.a r.qs.length r.c))) rfl rfl kr kr kr kr kr kr kr kr (At.grp 2 0 rfl rfl) (fun _=>hg) ?_
   refine GL_fin (E':=[⟨0,[],pt d⟩,⟨4,[],.func (.func 69) #[] #[pt b1]⟩,⟨10,[],.slice r.a r.qs.length r.c⟩,⟨69,[],.slice sa cm.length sc⟩,⟨70,[],.int .i64 ((cm.length : Nat) : Int)⟩,⟨71,[],.int .i64 ((i : Nat) : Int)⟩]) [0] [0,4,10,69,70,71] rfl kr ?_
   refine N_then ?_
   refine G_seq ?_
   refine G_region ?_
   refine GL_p [0,0,0,0,0] kr (j:=5) rfl ?_
   refine GL_wi 85 (((r.qs.length : Nat) : Int)+1) (by omega) (by omega) kr ?_
   refine GL_heap rfl (H':=([(b1,.cells #[.slice ks1.a ks1.l.length ks1.c] 49 (0,0))]::sg::[(b14,.cells #[.map (some cb)] 69 (0,0))]::[(cb,.map (encM cm) cc)]::[(d,.cells #[.int .i64 room,.slice ba bs.length bc,.map (some nb),.map (some kb),.map (some cb),.bool fails,.bool once,.int .i64 calls] 72 (0,0))]::bodyG (stB bs ks bs.length).1::[(kb,.map (encM km1) kc1)]::H)) (fun w h=>(h.front (j:=3) rfl)) ?_
   refine GL_call (i:=5) (ch:=[]) (f:=69) (fst:=#[]) (caps:=#[pt b1]) (vs:=[.int .i64 (((r.qs.length : Nat) : Int)+1)]) rfl rfl rfl kr kr Tryz.func69 rfl rfl kr kr (chSure_of kr) (vNextA b1 ks1 (((r.qs.length : Nat) : Int)+1) (by omega) S hk1 _ _ (fun y o h=>(At.cons (At.cons (At.cons (At.cons (At.cons (At.cons (hS y o h))))))))) ?_
   rintro v H' ⟨rfl, rfl⟩
   have hnx := nextK_bd (k := ks1.l.headD 0) (n := ((r.qs.length : Nat) : Int) + 1) (by omega)
   have hkn : keptN r ks1 ≤ r.qs.length := by unfold keptN; omega
   have hke : keptN r ks1 = Int.toNat (nextK (ks1.l.headD 0) (((r.qs.length : Nat) : Int) + 1)) := rfl
   refine GL_sliceL (i:=6) (ch:=[]) (a:=r.a) (len:=r.qs.length) (cap:=r.c) (e:=80) (sz:=1) (vl:=none) (vh:=(some (.int .i64 (nextK (ks1.l.headD 0) (((r.qs.length : Nat) : Int)+1))))) (l:=0) (h:=nextK (ks1.l.headD 0) (((r.qs.length : Nat) : Int)+1)) rfl rfl kr kr kr kr kr kr kr kr kr kr (fun _=>by omega) ?_
   refine GL_fin (E':=[⟨0,[],pt d⟩,⟨4,[],.func (.func 69) #[] #[pt b1]⟩,⟨69,[],.slice sa cm.length sc⟩,⟨70,[],.int .i64 ((cm.length : Nat) : Int)⟩,⟨71,[],.int .i64 ((i : Nat) : Int)⟩,⟨87,[],.slice (cutA r.a r.c 0 1) ((Int.toNat (nextK (ks1.l.headD 0) (((r.qs.length : Nat) : Int)+1))) - 0) (r.c - 0)⟩,⟨88,[],.int .i64 (((Int.toNat (nextK (ks1.l.headD 0) (((r.qs.length : Nat) : Int)+1))) - 0 : Nat) : Int)⟩,⟨89,[],.int .i64 0⟩]) [0,0] [0,4,69,70,71,87,88,89] rfl kr ?_
   refine N_then ?_
   refine G_block ?_
   refine G_loop (EI:=(fun ξ : Nat × SM × Nat=>[⟨0,[],pt d⟩,⟨4,[],.func (.func 69) #[] #[pt b1]⟩,⟨69,[],.slice sa cm.length sc⟩,⟨70,[],.int .i64 ((cm.length : Nat) : Int)⟩,⟨71,[],.int .i64 ((i : Nat) : Int)⟩,⟨87,[],.slice (cutA r.a r.c 0 1) ((Int.toNat (nextK (ks1.l.headD 0) (((r.qs.length : Nat) : Int)+1))) - 0) (r.c - 0)⟩,⟨88,[],.int .i64 (((Int.toNat (nextK (ks1.l.headD 0) (((r.qs.length : Nat) : Int)+1))) - 0 : Nat) : Int)⟩,⟨89,[],.int .i64 ((ξ.1 : Nat) : Int)⟩])) (HI:=(fun ξ : Nat × SM × Nat=>([(b1,.cells #[.slice (ksNext ks1).a ((ksNext ks1).l.length) ((ksNext ks1).c)] 49 (0,0))]::sg::[(b14,.cells #[.map (some cb)] 69 (0,0))]::[(cb,.map (encM cm) cc)]::[(d,.cells #[.int .i64 room,.slice ba bs.length bc,.map (some nb),.map (some kb),.map (some cb),.bool fails,.bool once,.int .i64 calls] 72 (0,0))]::bodyG (stB bs ks bs.length).1::[(kb,.map (encM ξ.2.1) ξ.2.2)]::H))) (Φ:=(fun ξ : Nat × SM × Nat=>(ξ.1 ≤ keptN r ks1)∧(MadeOf (r.xs.take ξ.1) (km1,kc1) (ξ.2.1,ξ.2.2)))) (μ:=(fun ξ : Nat × SM × Nat=>keptN r ks1 - ξ.1)) (s0:=(0,km1,kc1)) [0,4,69,70,71,87,88,89] kr (by rfl) ⟨(by omega),(by rfl)⟩ ?_
   rintro ⟨k, km2, kc2⟩ ⟨hkk, hR2⟩
   refine G_seq ?_
   refine G_pure (E':=[⟨0,[],pt d⟩,⟨4,[],.func (.func 69) #[] #[pt b1]⟩,⟨69,[],.slice sa cm.length sc⟩,⟨70,[],.int .i64 ((cm.length : Nat) : Int)⟩,⟨71,[],.int .i64 ((i : Nat) : Int)⟩,⟨87,[],.slice (cutA r.a r.c 0 1) ((Int.toNat (nextK (ks1.l.headD 0) (((r.qs.length : Nat) : Int)+1))) - 0) (r.c - 0)⟩,⟨88,[],.int .i64 (((Int.toNat (nextK (ks1.l.headD 0) (((r.qs.length : Nat) : Int)+1))) - 0 : Nat) : Int)⟩,⟨89,[],.int .i64 ((k : Nat) : Int)⟩,⟨90,[],.bool (decide (((k : Nat) : Int) < (((Int.toNat (nextK (ks1.l.headD 0) (((r.qs.length : Nat) : Int)+1))) - 0 : Nat) : Int)))⟩]) [0] [0,4,69,70,71,87,88,89,90] rfl kr ?_
   refine N_then ?_
   refine G_seq ?_
   refine G_cond (b:=decide (((k : Nat) : Int) < (((Int.toNat (nextK (ks1.l.headD 0) (((r.qs.length : Nat) : Int)+1))) - 0 : Nat) : Int))) kr (fun hc17=>?_) (fun hc17=>?_)
   ·
    replace hc17 := of_decide_eq_true hc17
    refine G_skip ?_
    refine N_then ?_
    refine G_seq ?_
    refine G_block ?_
    refine G_seq ?_
    refine G_region ?_
    refine GL_indexAddr (i:=0) (ch:=[]) (a:=(cutA r.a r.c 0 1)) (len:=(Int.toNat (nextK (ks1.l.headD 0) (((r.qs.length : Nat) : Int)+1))) - 0) (cap:=r.c - 0) (kd:=.i64) (j:=((k : Nat) : Int)) (e:=80) (sz:=1) (S:=S) (cs:=((r.qs.map fun q=>Value.map (some q)).take (keptN r ks1))) rfl rfl kr kr kr kr kr kr kr (rd_cut0 hrd (by rw [List.length_map]; omega) (by rw [List.length_map]; omega)) (fun _=>by exact ⟨by omega,by omega,take_ne (by omega) (by rw [List.length_map]; omega)⟩) ?_
    refine GL_loadS (i:=1) (ch:=[]) (a:=(cutA r.a r.c 0 1)) (q:=k * 1) (S:=S) (cs:=((r.qs.map fun q=>Value.map (some q)).take (keptN r ks1))) (v:=.map (some (r.qs.getD k 0))) rfl rfl kr kr kr kr kr (rd_cut0 hrd (by rw [List.length_map]; omega) (by rw [List.length_map]; omega)) (fun y o h=>(At.cons (At.cons (At.cons (At.cons (At.cons (At.cons (At.cons (hS y o h))))))))) (fun _=>(by rw [Nat.mul_one]; exact map_take_at (by omega) (by omega))) ?_
    refine GL_fin (E':=[⟨0,[],pt d⟩,⟨4,[],.func (.func 69) #[] #[pt b1]⟩,⟨12,[],.map (some (r.qs.getD k 0))⟩,⟨69,[],.slice sa cm.length sc⟩,⟨70,[],.int .i64 ((cm.length : Nat) : Int)⟩,⟨71,[],.int .i64 ((i : Nat) : Int)⟩,⟨87,[],.slice (cutA r.a r.c 0 1) ((Int.toNat (nextK (ks1.l.headD 0) (((r.qs.length : Nat) : Int)+1))) - 0) (r.c - 0)⟩,⟨88,[],.int .i64 (((Int.toNat (nextK (ks1.l.headD 0) (((r.qs.length : Nat) : Int)+1))) - 0 : Nat) : Int)⟩,⟨89,[],.int .i64 ((k : Nat) : Int)⟩]) [0] [0,4,12,69,70,71,87,88,89] rfl kr ?_
    refine N_then ?_
    refine G_region ?_
    refine GL_p [0,0,0] kr (j:=3) rfl ?_
    refine GL_load (i:=3) (ch:=[]) (b:=d) (off:=3) (v:=.map (some kb)) rfl rfl kr kr kr kr kr (At.grp 4 0 rfl rfl) rfl ?_
    refine GL_p [0] kr (j:=5) rfl ?_
    refine GL_heap rfl (H':=([(kb,.map (encM km2) kc2)]::[(b1,.cells #[.slice (ksNext ks1).a ((ksNext ks1).l.length) ((ksNext ks1).c)] 49 (0,0))]::sg::[(b14,.cells #[.map (some cb)] 69 (0,0))]::[(cb,.map (encM cm) cc)]::[(d,.cells #[.int .i64 room,.slice ba bs.length bc,.map (some nb),.map (some kb),.map (some cb),.bool fails,.bool once,.int .i64 calls] 72 (0,0))]::bodyG (stB bs ks bs.length).1::H)) (fun w h=>(h.front (j:=6) rfl)) ?_
    refine GL_call (i:=5) (ch:=[]) (f:=72) (fst:=#[]) (caps:=#[]) (vs:=[.map (some kb),.map (some (r.qs.getD k 0))]) rfl rfl rfl kr kr Tryz.func72 rfl rfl kr kr (chSure_of kr) (vApply kb (r.qs.getD k 0) kc2 (r.xcs.getD k 0) km2 (r.xs.getD k []) (made_ok hR2 hmk) (hAll k (by omega)).2.1 (hAll k (by omega)).2.2 _ _ (At.cons (At.cons (At.cons (At.cons (At.cons (At.cons (hAll k (by omega)).1))))))) ?_
    rintro v H' ⟨dn18, hdn19, rfl, rfl⟩
    refine GL_fin (E':=[⟨0,[],pt d⟩,⟨4,[],.func (.func 69) #[] #[pt b1]⟩,⟨69,[],.slice sa cm.length sc⟩,⟨70,[],.int .i64 ((cm.length : Nat) : Int)⟩,⟨71,[],.int .i64 ((i : Nat) : Int)⟩,⟨87,[],.slice (cutA r.a r.c 0 1) ((Int.toNat (nextK (ks1.l.headD 0) (((r.qs.length : Nat) : Int)+1))) - 0) (r.c - 0)⟩,⟨88,[],.int .i64 (((Int.toNat (nextK (ks1.l.headD 0) (((r.qs.length : Nat) : Int)+1))) - 0 : Nat) : Int)⟩,⟨89,[],.int .i64 ((k : Nat) : Int)⟩]) [] [0,4,69,70,71,87,88,89] rfl kr ?_
    refine N_block ?_
    refine N_then ?_
    refine G_region ?_
    refine GL_p [0] kr (j:=1) rfl ?_
    refine GL_wi 99 (((k : Nat) : Int)+1) (by omega) (by omega) kr ?_
    refine GL_fin (E':=[⟨0,[],pt d⟩,⟨4,[],.func (.func 69) #[] #[pt b1]⟩,⟨69,[],.slice sa cm.length sc⟩,⟨70,[],.int .i64 ((cm.length : Nat) : Int)⟩,⟨71,[],.int .i64 ((i : Nat) : Int)⟩,⟨87,[],.slice (cutA r.a r.c 0 1) ((Int.toNat (nextK (ks1.l.headD 0) (((r.qs.length : Nat) : Int)+1))) - 0) (r.c - 0)⟩,⟨88,[],.int .i64 (((Int.toNat (nextK (ks1.l.headD 0) (((r.qs.length : Nat) : Int)+1))) - 0 : Nat) : Int)⟩,⟨89,[],.int .i64 (((k : Nat) : Int)+1)⟩]) [0] [0,4,69,70,71,87,88,89] rfl kr ?_
    refine N_heap (H':=([(b1,.cells #[.slice (ksNext ks1).a ((ksNext ks1).l.length) ((ksNext ks1).c)] 49 (0,0))]::sg::[(b14,.cells #[.map (some cb)] 69 (0,0))]::[(cb,.map (encM cm) cc)]::[(d,.cells #[.int .i64 room,.slice ba bs.length bc,.map (some nb),.map (some kb),.map (some cb),.bool fails,.bool once,.int .i64 calls] 72 (0,0))]::bodyG (stB bs ks bs.length).1::[(kb,.map (encM ((foldS (km2,kc2) dn18).1)) ((foldS (km2,kc2) dn18).2))]::H)) (fun w h=>((((((h.front (j:=6) rfl).front (j:=6) rfl).front (j:=6) rfl).front (j:=6) rfl).front (j:=6) rfl).front (j:=6) rfl)) ?_
    refine N_round (s':=(k+1,(foldS (km2,kc2) dn18).1,(foldS (km2,kc2) dn18).2)) [0,4,69,70,71,87,88,89] kr rfl ⟨(by omega),(by rw [take_snoc (d:=[]) (by omega)]; exact made_snoc hdn19 hR2)⟩ (by omega)
   ·
    replace hc17 := of_decide_eq_false hc17
    refine G_exit ?_
    refine N_then_exit ?_
    refine N_then_exit ?_
    refine N_block_exit ?_
    refine N_block ?_
    refine N_then ?_
    refine G_region ?_
    refine GL_p [0] kr (j:=1) rfl ?_
    refine GL_wi 100 (((i : Nat) : Int)+1) (by omega) (by omega) kr ?_
    refine GL_fin (E':=[⟨0,[],pt d⟩,⟨4,[],.func (.func 69) #[] #[pt b1]⟩,⟨69,[],.slice sa cm.length sc⟩,⟨70,[],.int .i64 ((cm.length : Nat) : Int)⟩,⟨71,[],.int .i64 (((i : Nat) : Int)+1)⟩]) [0] [0,4,69,70,71] rfl kr ?_
    refine N_heap (H':=(sg::[(b14,.cells #[.map (some cb)] 69 (0,0))]::[(cb,.map (encM cm) cc)]::[(b1,.cells #[.slice (ksNext ks1).a ((ksNext ks1).l.length) ((ksNext ks1).c)] 49 (0,0))]::[(d,.cells #[.int .i64 room,.slice ba bs.length bc,.map (some nb),.map (some kb),.map (some cb),.bool fails,.bool once,.int .i64 calls] 72 (0,0))]::bodyG (stB bs ks bs.length).1::[(kb,.map (encM km2) kc2)]::H)) (fun w h=>(((((((h.front (j:=6) rfl).front (j:=6) rfl).front (j:=6) rfl).front (j:=3) rfl).front (j:=6) rfl).front (j:=6) rfl).front (j:=6) rfl)) ?_
    refine N_round (s':=(i+1,km2,kc2,(ksNext ks1))) [0,4,69,70,71] kr rfl ⟨(by omega),(ksNext_ok hk1),(by rw [take_snoc (d:=default) (by omega)]; exact crashK_snoc hR (by rw [← hr,(show keptN r ks1 = k from by omega)]; exact hR2)),(made_ok hR2 hmk)⟩ (by omega)
  ·
   replace hc15 := of_decide_eq_false hc15
   refine G_exit ?_
   refine N_then_exit ?_
   refine N_then_exit ?_
   refine N_block_exit ?_
   refine N_then ?_
   refine G_region ?_
   refine GL_p [0,0,0,0,0,0] kr (j:=6) rfl ?_
   refine GL_load (i:=6) (ch:=[]) (b:=d) (off:=3) (v:=.map (some kb)) rfl rfl kr kr kr kr kr (At.grp 4 0 rfl rfl) rfl ?_
   refine GL_heap rfl (H':=([(kb,.map (encM km1) kc1)]::sg::[(b14,.cells #[.map (some cb)] 69 (0,0))]::[(cb,.map (encM cm) cc)]::[(b1,.cells #[.slice ks1.a ks1.l.length ks1.c] 49 (0,0))]::[(d,.cells #[.int .i64 room,.slice ba bs.length bc,.map (some nb),.map (some kb),.map (some cb),.bool fails,.bool once,.int .i64 calls] 72 (0,0))]::bodyG (stB bs ks bs.length).1::H)) (fun w h=>(h.front (j:=6) rfl)) ?_
   refine GL_call (i:=7) (ch:=[]) (f:=73) (fst:=#[]) (caps:=#[]) (vs:=[.map (some kb)]) rfl rfl rfl kr kr Tryz.func73 rfl rfl kr kr (chSure_of kr) (vMapClone kb kc1 km1 _ _) ?_
   rintro v H' ⟨b22, rfl, rfl⟩
   refine GL_makeMap (i:=8) (ch:=[]) rfl rfl kr kr kr (fun b23=>?_)
   refine GL_p [0,0] kr (j:=11) rfl ?_
   refine GL_st (i:=11) (ch:=[]) (b:=d) (off:=2) (v:=.map (some b22)) (j:=7) ([(b23,.map (encM ([])) 0)]::[(b22,.map (encM km1) kc1)]::[(kb,.map (encM km1) kc1)]::sg::[(b14,.cells #[.map (some cb)] 69 (0,0))]::[(cb,.map (encM cm) cc)]::[(b1,.cells #[.slice ks1.a ks1.l.length ks1.c] 49 (0,0))]::[(d,.cells #[.int .i64 room,.slice ba bs.length bc,.map (some b22),.map (some kb),.map (some cb),.bool fails,.bool once,.int .i64 calls] 72 (0,0))]::bodyG (stB bs ks bs.length).1::H) rfl rfl kr kr kr kr kr kr kr rfl rfl (Nat.le_of_ble_eq_true rfl) (fun _ _=>thaw0) kr ?_
   refine GL_p [0,0] kr (j:=14) rfl ?_
   refine GL_st (i:=14) (ch:=[]) (b:=d) (off:=4) (v:=.map (some b23)) (j:=7) ([(b23,.map (encM ([])) 0)]::[(b22,.map (encM km1) kc1)]::[(kb,.map (encM km1) kc1)]::sg::[(b14,.cells #[.map (some cb)] 69 (0,0))]::[(cb,.map (encM cm) cc)]::[(b1,.cells #[.slice ks1.a ks1.l.length ks1.c] 49 (0,0))]::[(d,.cells #[.int .i64 room,.slice ba bs.length bc,.map (some b22),.map (some kb),.map (some b23),.bool fails,.bool once,.int .i64 calls] 72 (0,0))]::bodyG (stB bs ks bs.length).1::H) rfl rfl kr kr kr kr kr kr kr rfl rfl (Nat.le_of_ble_eq_true rfl) (fun _ _=>thaw0) kr ?_
   refine GL_p [0,0] kr (j:=17) rfl ?_
   refine GL_st (i:=17) (ch:=[]) (b:=d) (off:=5) (v:=.bool false) (j:=7) ([(b23,.map (encM ([])) 0)]::[(b22,.map (encM km1) kc1)]::[(kb,.map (encM km1) kc1)]::sg::[(b14,.cells #[.map (some cb)] 69 (0,0))]::[(cb,.map (encM cm) cc)]::[(b1,.cells #[.slice ks1.a ks1.l.length ks1.c] 49 (0,0))]::[(d,.cells #[.int .i64 room,.slice ba bs.length bc,.map (some b22),.map (some kb),.map (some b23),.bool false,.bool once,.int .i64 calls] 72 (0,0))]::bodyG (stB bs ks bs.length).1::H) rfl rfl kr kr kr kr kr kr kr rfl rfl (Nat.le_of_ble_eq_true rfl) (fun _ _=>thaw0) kr ?_
   refine GL_fin (E':=[]) [] [] rfl kr ?_
   refine N_heap (H':=([(d,.cells #[.int .i64 room,.slice ba bs.length bc,.map (some b22),.map (some kb),.map (some b23),.bool false,.bool once,.int .i64 calls] 72 (0,0))]::bodyG (stB bs ks bs.length).1::[(kb,.map (encM km1) kc1)]::[(b22,.map (encM km1) kc1)]::[(b23,.map (encM ([])) 0)]::H)) (fun w h=>((((((((h.front (j:=1) rfl).front (j:=2) rfl).front (j:=8) rfl).front (j:=8) rfl).erase 8).erase 7).erase 6).erase 5)) ?_
   refine N_ret [] [] rfl kr rfl ?_
   have hin : i = ds.length := by omega
   rw [hin, List.take_length, hds] at hR
   exact ⟨rfl, _, _, _, _, _, hR, rfl⟩
end Go.Proofs.YtlaoeiaaeifidaaGreat
namespace Go.Proofs.YtlaoeiaaeifidaaGreat
open Go.Sw Go.Lib Go.Vf Go.RowKit
theorem vNameMore (d nb kb cb q nc cc xc : Nat) (room calls : Int) (bv : Value) (fails once : Bool) (nm cm xm : SM) (dir : ByteArray) (hn : MapOk nm nc) (hx : MapOk xm xc) (hv : ∀ e ∈ xm, e.2.1 = .pointer none ∨ ∃ p, e.2.1 = .pointer (some ⟨p, 0, none⟩)) (rv : Value) (rg : Grp) (m : Nat) (cs : List Value) (hO : Go.Sw.Own 80 1 rv rg m cs) (hm : m ≤ 1000000) (hg : mget cm dir = some rv) (W0 : World) (H : List Grp) (hA : At W0 H q (.map (encM xm) xc)) : Tri Tryz.prog 37 #[pt d, .string dir, .map (some q)] W0 ([(d, .cells #[.int .i64 room, bv, .map (some nb), .map (some kb), .map (some cb), .bool fails, .bool once, .int .i64 calls] 72 (0, 0))] :: [(nb, .map (encM nm) nc)] :: [(cb, .map (encM cm) cc)] :: rg :: H) (fun v H' => ∃ dn x g, dn.Perm xm ∧ Go.Sw.Own 80 1 x g (m + 1) (cs ++ [.map (some q)]) ∧ v = .tuple #[] ∧ H' = ([(d, .cells #[.int .i64 room, bv, .map (some nb), .map (some kb), .map (some cb), .bool fails, .bool once, .int .i64 calls] 72 (0, 0))] :: [(nb, .map (encM ((foldS (nm, nc) dn).1)) ((foldS (nm, nc) dn).2))] :: [(cb, .map (encM (mput cm cc dir x)) (if mhas cm dir then cc else cc + 1))] :: g :: H)) := by
 refine Tri_of (args := [pt d, .string dir, .map (some q)]) (n := 26) Tryz.func37 rfl rfl (Nat.le_of_ble_eq_true rfl) ?_
 refine G_seq ?_
 refine G_region ?_
 refine GL_p [0,0,0] kr (j:=3) rfl ?_
 refine GL_load (i:=3) (ch:=[]) (b:=d) (off:=2) (v:=.map (some nb)) rfl rfl kr kr kr kr kr (At.grp 0 0 rfl rfl) rfl ?_
 refine GL_p [0] kr (j:=5) rfl ?_
 refine GL_heap rfl (H':=([(nb,.map (encM nm) nc)]::[(d,.cells #[.int .i64 room,bv,.map (some nb),.map (some kb),.map (some cb),.bool fails,.bool once,.int .i64 calls] 72 (0,0))]::[(cb,.map (encM cm) cc)]::rg::H)) (fun w h=>(h.front (j:=1) rfl)) ?_
 refine GL_call (i:=5) (ch:=[]) (f:=72) (fst:=#[]) (caps:=#[]) (vs:=[.map (some nb),.map (some q)]) rfl rfl rfl kr kr Tryz.func72 rfl rfl kr kr (chSure_of kr) (vApply nb q nc xc nm xm hn hx hv _ _ (At.cons (At.cons (At.cons hA)))) ?_
 rintro v H' ⟨dn1, hdn2, rfl, rfl⟩
 refine GL_fin (E':=[⟨0,[],pt d⟩,⟨1,[],.string dir⟩,⟨2,[],.map (some q)⟩]) [] [0,1,2] rfl kr ?_
 refine N_then ?_
 refine G_regionH ([(nb,.map (encM ((foldS (nm,nc) dn1).1)) ((foldS (nm,nc) dn1).2))]::[(d,.cells #[.int .i64 room,bv,.map (some nb),.map (some kb),.map (some cb),.bool fails,.bool once,.int .i64 calls] 72 (0,0))]::H) kr ?_
 refine GH_p (fuel:=14) [(0,0)] (fun w h=>((h.erase 3).erase 2)) kr rfl ?_
 refine GH_nil (ad:=⟨d,0,none⟩) 1 rfl rfl rfl kr kr kr kr kr (fun w h=>((h.erase 3).erase 2)) ?_
 refine GH_p (fuel:=12) [(2,0)] (fun w h=>((h.erase 3).erase 2)) kr rfl ?_
 refine GH_take' 3 kr (fun w h=>((h.erase 3).erase 2)) (GL_load (i:=3) (ch:=[]) (b:=d) (off:=4) (v:=.map (some cb)) rfl rfl kr kr kr kr kr (At.grp 1 0 rfl rfl) rfl (GL_yend kr rfl)) ?_
 refine GH_p (fuel:=9) [(4,0),(5,0)] (fun w h=>((h.erase 3).erase 2)) kr rfl ?_
 refine GH_nil (ad:=⟨d,0,none⟩) 6 rfl rfl rfl kr kr kr kr kr (fun w h=>((h.erase 3).erase 2)) ?_
 refine GH_p (fuel:=7) [(7,0)] (fun w h=>((h.erase 3).erase 2)) kr rfl ?_
 refine GH_take' 8 kr (fun w h=>((h.erase 3).erase 2)) (GL_load (i:=8) (ch:=[]) (b:=d) (off:=4) (v:=.map (some cb)) rfl rfl kr kr kr kr kr (At.grp 1 0 rfl rfl) rfl (GL_yend kr rfl)) ?_
 refine GH_p (fuel:=4) [(9,0),(11,0)] (fun w h=>((h.erase 3).erase 2)) kr rfl ?_
 refine GH_eff2 10 12 kr kr kr kr kr ?_ ?_
 ·
  refine GL_lookup (i:=10) (ch:=[]) (kt:=9) (et:=118) (r:=cb) (c:=cc) (m:=cm) (k:=dir) (z:=.slice none 0 0) (ov:=(some (rv))) rfl rfl kr kr kr kr kr kr kr kr (At.grp 2 0 rfl rfl) (fun _=>hg) ?_
  refine GH_back kr (fun w h=>((h.erase 3).erase 2)) ?_
  refine GH_eff 12 kr kr kr ?_
  refine GL_buildSlice (i:=12) (ch:=[]) (e:=80) (l:=[(0,.map (some q))]) (c:=[.map (some q)]) rfl rfl kr kr kr kr kr (fun b3=>?_)
  refine GH_back kr (fun w h=>(((h.erase 4).erase 3).erase 0)) ?_
  refine GH_more ([(b3,.cells #[.map (some q)] 80 (0,0))]::[(nb,.map (encM ((foldS (nm,nc) dn1).1)) ((foldS (nm,nc) dn1).2))]::[(d,.cells #[.int .i64 room,bv,.map (some nb),.map (some kb),.map (some cb),.bool fails,.bool once,.int .i64 calls] 72 (0,0))]::H) (fun w h=>(h.erase 0)) ?_
  refine GH_eff 13 kr kr kr ?_
  refine GL_append (i:=13) (ch:=[]) (t:=118) (tx:=118) (e:=80) (inf:=Tryz.t80) (s:=rv) (x:=.slice (some ⟨b3,0,none⟩) 1 1) (n:=m) (m:=1) (j:=4) (cs:=cs) (news:=[.map (some q)]) (g:=rg) (S:=(inG [(b3,.cells #[.map (some q)] 80 (0,0))])) rfl rfl rfl rfl kr kr kr rfl rfl (.inl ⟨80,kr⟩) (fun ⟨_,h⟩=>by cases h) (fun _=>⟨80,kr⟩) kr kr kr rfl hO (SrcOf.slice _ _ _ _ Rd.lit (fun h=>by cases h)) (at_inG 0 rfl) kr (by intro u hu; rcases List.mem_singleton.1 hu with rfl; rfl) (by omega) (by show (m+1) * 8 ≤ 140737488355328; omega) (fun v4 g5 hO6=>?_)
  refine GH_back kr (fun w h=>((h.erase 4).erase 3)) ?_
  refine GH_more ([(b3,.cells #[.map (some q)] 80 (0,0))]::[(nb,.map (encM ((foldS (nm,nc) dn1).1)) ((foldS (nm,nc) dn1).2))]::[(d,.cells #[.int .i64 room,bv,.map (some nb),.map (some kb),.map (some cb),.bool fails,.bool once,.int .i64 calls] 72 (0,0))]::g5::H) (fun w h=>(h.erase 3)) ?_
  refine GH_eff 14 kr kr kr ?_
  refine GL_mapPut (i:=14) (ch:=[]) (kt:=9) (et:=118) (r:=cb) (c:=cc) (j:=3) (q:=0) (m:=cm) (k:=dir) (v:=v4) (H':=([(b3,.cells #[.map (some q)] 80 (0,0))]::[(nb,.map (encM ((foldS (nm,nc) dn1).1)) ((foldS (nm,nc) dn1).2))]::[(d,.cells #[.int .i64 room,bv,.map (some nb),.map (some kb),.map (some cb),.bool fails,.bool once,.int .i64 calls] 72 (0,0))]::[(cb,.map (encM (mput cm cc dir (v4))) (if mhas cm dir then cc else cc+1))]::g5::H)) rfl (.inl rfl) kr kr kr kr kr kr kr kr rfl rfl rfl ?_
  refine GH_back kr (fun w h=>(h.erase 3)) ?_
  refine GH_done (E':=[]) [] kr kr ?_
  refine N_heap (H':=([(d,.cells #[.int .i64 room,bv,.map (some nb),.map (some kb),.map (some cb),.bool fails,.bool once,.int .i64 calls] 72 (0,0))]::[(nb,.map (encM ((foldS (nm,nc) dn1).1)) ((foldS (nm,nc) dn1).2))]::[(cb,.map (encM (mput cm cc dir (v4))) (if mhas cm dir then cc else cc+1))]::g5::H)) (fun w h=>(((((h.front (j:=4) rfl).front (j:=4) rfl).front (j:=3) rfl).front (j:=4) rfl).erase 4)) ?_
  refine N_ret [] [] rfl kr rfl ?_
  exact ⟨_, _, g5, hdn2, hO6, rfl, rfl⟩
 ·
  refine GL_buildSlice (i:=12) (ch:=[]) (e:=80) (l:=[(0,.map (some q))]) (c:=[.map (some q)]) rfl rfl kr kr kr kr kr (fun b7=>?_)
  refine GH_back kr (fun w h=>(((h.erase 4).erase 3).erase 0)) ?_
  refine GH_more ([(b7,.cells #[.map (some q)] 80 (0,0))]::[(nb,.map (encM ((foldS (nm,nc) dn1).1)) ((foldS (nm,nc) dn1).2))]::[(d,.cells #[.int .i64 room,bv,.map (some nb),.map (some kb),.map (some cb),.bool fails,.bool once,.int .i64 calls] 72 (0,0))]::H) (fun w h=>(h.erase 0)) ?_
  refine GH_eff 10 kr kr kr ?_
  refine GL_lookup (i:=10) (ch:=[]) (kt:=9) (et:=118) (r:=cb) (c:=cc) (m:=cm) (k:=dir) (z:=.slice none 0 0) (ov:=(some (rv))) rfl rfl kr kr kr kr kr kr kr kr (At.grp 3 0 rfl rfl) (fun _=>hg) ?_
  refine GH_back kr (fun w h=>((h.erase 4).erase 3)) ?_
  refine GH_eff 13 kr kr kr ?_
  refine GL_append (i:=13) (ch:=[]) (t:=118) (tx:=118) (e:=80) (inf:=Tryz.t80) (s:=rv) (x:=.slice (some ⟨b7,0,none⟩) 1 1) (n:=m) (m:=1) (j:=4) (cs:=cs) (news:=[.map (some q)]) (g:=rg) (S:=(inG [(b7,.cells #[.map (some q)] 80 (0,0))])) rfl rfl rfl rfl kr kr kr rfl rfl (.inl ⟨80,kr⟩) (fun ⟨_,h⟩=>by cases h) (fun _=>⟨80,kr⟩) kr kr kr rfl hO (SrcOf.slice _ _ _ _ Rd.lit (fun h=>by cases h)) (at_inG 0 rfl) kr (by intro u hu; rcases List.mem_singleton.1 hu with rfl; rfl) (by omega) (by show (m+1) * 8 ≤ 140737488355328; omega) (fun v8 g9 hO10=>?_)
  refine GH_back kr (fun w h=>((h.erase 4).erase 3)) ?_
  refine GH_more ([(b7,.cells #[.map (some q)] 80 (0,0))]::[(nb,.map (encM ((foldS (nm,nc) dn1).1)) ((foldS (nm,nc) dn1).2))]::[(d,.cells #[.int .i64 room,bv,.map (some nb),.map (some kb),.map (some cb),.bool fails,.bool once,.int .i64 calls] 72 (0,0))]::g9::H) (fun w h=>(h.erase 3)) ?_
  refine GH_eff 14 kr kr kr ?_
  refine GL_mapPut (i:=14) (ch:=[]) (kt:=9) (et:=118) (r:=cb) (c:=cc) (j:=3) (q:=0) (m:=cm) (k:=dir) (v:=v8) (H':=([(b7,.cells #[.map (some q)] 80 (0,0))]::[(nb,.map (encM ((foldS (nm,nc) dn1).1)) ((foldS (nm,nc) dn1).2))]::[(d,.cells #[.int .i64 room,bv,.map (some nb),.map (some kb),.map (some cb),.bool fails,.bool once,.int .i64 calls] 72 (0,0))]::[(cb,.map (encM (mput cm cc dir (v8))) (if mhas cm dir then cc else cc+1))]::g9::H)) rfl (.inl rfl) kr kr kr kr kr kr kr kr rfl rfl rfl ?_
  refine GH_back kr (fun w h=>(h.erase 3)) ?_
  refine GH_done (E':=[]) [] kr kr ?_
  refine N_heap (H':=([(d,.cells #[.int .i64 room,bv,.map (some nb),.map (some kb),.map (some cb),.bool fails,.bool once,.int .i64 calls] 72 (0,0))]::[(nb,.map (encM ((foldS (nm,nc) dn1).1)) ((foldS (nm,nc) dn1).2))]::[(cb,.map (encM (mput cm cc dir (v8))) (if mhas cm dir then cc else cc+1))]::g9::H)) (fun w h=>(((((h.front (j:=4) rfl).front (j:=4) rfl).front (j:=3) rfl).front (j:=4) rfl).erase 4)) ?_
  refine N_ret [] [] rfl kr rfl ?_
  exact ⟨_, _, g9, hdn2, hO10, rfl, rfl⟩
end Go.Proofs.YtlaoeiaaeifidaaGreat
namespace Go.Vf
open Go.Sw Go.RowKit
theorem sat_cnt {W0 : World} {H H' : List Grp} {w : World} (h : Sat W0 H w) (hc : ∀ (_ : DecidableEq (Nat × Obj)) (x : Nat × Obj), H.flatten.count x = H'.flatten.count x) : Sat W0 H' w :=
  h.flat (by
    have inst : DecidableEq (Nat × Obj) := Classical.typeDecidableEq _
    exact List.perm_iff_count.2 (hc inst))
theorem _root_.Go.Sw.Sat.dropApp {W0 : World} {K L : List Grp} {w : World} (h : Sat W0 (K ++ L) w) : Sat W0 L w := h.subl (by rw [List.flatten_append]; exact List.sublist_append_right _ _)
theorem at_app {W0 : World} {K L : List Grp} {b : Nat} {o : Obj} (h : At W0 K b o) : At W0 (K ++ L) b o := by
  rcases h with h | h
  · exact .inl h
  · exact .inr (by rw [List.flatten_append]; exact List.mem_append_left _ h)
theorem at_app2 {W0 : World} {K L : List Grp} {b : Nat} {o : Obj} (h : At W0 L b o) : At W0 (K ++ L) b o := by
  rcases h with h | h
  · exact .inl h
  · exact .inr (by rw [List.flatten_append]; exact List.mem_append_right _ h)
structure RW where
  dir : ByteArray
  v : Value
  g : Grp
  qs : List Nat
def rowsG (rows : List RW) : List Grp := rows.map (·.g)
def rowV (r : RW) : Prop := Go.Sw.Own 80 1 r.v r.g r.qs.length (r.qs.map fun q => Value.map (some q)) ∧ 0 < r.qs.length
def RowsOk (cm : SM) (rows : List RW) : Prop := cm.map (fun e => (e.1, e.2.1)) = rows.map (fun r => (r.dir, r.v)) ∧ ∀ r ∈ rows, rowV r
def rowOf : List RW → ByteArray → List Nat
  | [], _ => []
  | r :: l, d => if d == r.dir then r.qs else rowOf l d
def RowsAdd (rows : List RW) (dir : ByteArray) (q : Nat) (rows' : List RW) : Prop :=
  ((∀ r ∈ rows, (dir == r.dir) = false) ∧ ∃ v g, rows' = rows ++ [⟨dir, v, g, [q]⟩]) ∨ ∃ pre r post v g, rows = pre ++ r :: post ∧ (∀ r ∈ pre, (dir == r.dir) = false) ∧ r.dir = dir ∧ rows' = pre ++ ⟨dir, v, g, r.qs ++ [q]⟩ :: post
theorem rowOf_app {d : ByteArray} : ∀ {l r : List RW}, (∀ x ∈ l, (d == x.dir) = false) → rowOf (l ++ r) d = rowOf r d
  | [], _, _ => rfl
  | x :: l, r, h => by
    rw [List.cons_append, rowOf, h x List.mem_cons_self]
    simp only [Bool.false_eq_true, if_false]
    exact rowOf_app fun y hy => h y (List.mem_cons_of_mem _ hy)
theorem rowOf_none {d : ByteArray} {l : List RW} (h : ∀ x ∈ l, (d == x.dir) = false) : rowOf l d = [] := by
  have := rowOf_app (r := []) h
  rwa [List.append_nil] at this
theorem rowOf_app' {d : ByteArray} : ∀ {l r r' : List RW}, (rowOf r d = rowOf r' d) → rowOf (l ++ r) d = rowOf (l ++ r') d
  | [], _, _, h => h
  | x :: l, r, r', h => by
    rw [List.cons_append, List.cons_append, rowOf, rowOf]
    split
    · rfl
    · exact rowOf_app' h
theorem rowsAdd_of {rows rows' : List RW} {dir : ByteArray} {q : Nat} (h : RowsAdd rows dir q rows') (d : ByteArray) : rowOf rows' d = if d == dir then rowOf rows d ++ [q] else rowOf rows d := by
  rcases h with ⟨h, v, g, rfl⟩ | ⟨pre, r, post, v, g, rfl, h, hd, rfl⟩
  · cases hk : d == dir
    · simp only [Bool.false_eq_true, if_false]
      have : rowOf (rows ++ [⟨dir, v, g, [q]⟩]) d = rowOf (rows ++ []) d := rowOf_app' (by simp [rowOf, hk])
      rw [this, List.append_nil]
    · rw [baEq] at hk; subst hk
      simp only [if_true]
      rw [rowOf_app h, rowOf_none h, rowOf, if_pos (baEq.2 rfl)]; rfl
  · cases hk : d == dir
    · simp only [Bool.false_eq_true, if_false]
      exact rowOf_app' (by rw [rowOf, rowOf, hd, hk]; rfl)
    · rw [baEq] at hk; subst hk
      simp only [if_true]
      rw [rowOf_app h, rowOf_app h, rowOf, rowOf, hd, if_pos (baEq.2 rfl), if_pos (baEq.2 rfl)]
theorem mget_none {m : SM} {k : ByteArray} : mget m k = none ↔ ∀ e ∈ m, (k == e.1) = false := by
  have h : ∀ (m : SM) (i : Nat), mfind k m i = none ↔ ∀ e ∈ m, (k == e.1) = false := by
    intro m
    induction m with
    | nil => intro i; simp [mfind]
    | cons e m ih =>
      intro i
      rw [mfind]
      cases hk : k == e.1
      · simp only [Bool.false_eq_true, if_false, ih (i + 1)]
        constructor
        · intro h x hx; rcases List.mem_cons.1 hx with rfl | hx
          · exact hk
          · exact h x hx
        · intro h x hx; exact h x (List.mem_cons_of_mem _ hx)
      · simp only [if_true, reduceCtorEq, false_iff]
        intro h; rw [h e List.mem_cons_self] at hk; cases hk
  unfold mget
  rw [Option.map_eq_none_iff]
  exact h m 0
theorem mfind_i (k : ByteArray) : ∀ (m : SM) (i j : Nat), (mfind k m i).map (·.2) = (mfind k m j).map (·.2)
  | [], _, _ => rfl
  | e :: m, i, j => by
    rw [mfind, mfind]
    split
    · rfl
    · exact mfind_i k m _ _
theorem mget_cons (e : ByteArray × Value × Nat) (m : SM) (k : ByteArray) : mget (e :: m) k = if k == e.1 then some e.2.1 else mget m k := by
  unfold mget
  rw [mfind]
  split
  · rfl
  · exact mfind_i k m _ _
theorem mget_split {m : SM} {k : ByteArray} {v : Value} (h : mget m k = some v) : ∃ pre c post, m = pre ++ (k, v, c) :: post ∧ ∀ e ∈ pre, (k == e.1) = false := by
  induction m with
  | nil => cases h
  | cons e m ih =>
    rw [mget_cons] at h
    cases hk : k == e.1
    · rw [hk] at h
      simp only [Bool.false_eq_true, if_false] at h
      obtain ⟨pre, c, post, rfl, hp⟩ := ih h
      exact ⟨e :: pre, c, post, rfl, fun x hx => by rcases List.mem_cons.1 hx with rfl | hx; exact hk; exact hp x hx⟩
    · rw [hk] at h
      simp only [if_true, Option.some.injEq] at h
      obtain ⟨a, b, c⟩ := e
      rw [baEq] at hk; subst hk; subst h
      exact ⟨[], c, m, rfl, fun x hx => absurd hx List.not_mem_nil⟩
theorem mput_split {pre post : SM} {k : ByteArray} {v v' : Value} {c c' : Nat} (hp : ∀ e ∈ pre, (k == e.1) = false) : mput (pre ++ (k, v, c) :: post) c' k v' = pre ++ (k, v', c) :: post := by
  induction pre with
  | nil => rw [List.nil_append, mput, if_pos (baEq.2 rfl)]; rfl
  | cons e pre ih =>
    rw [List.cons_append, mput, hp e List.mem_cons_self]
    simp only [Bool.false_eq_true, if_false]
    rw [ih fun x hx => hp x (List.mem_cons_of_mem _ hx)]; rfl
theorem rows_none {cm : SM} {rows : List RW} (h : RowsOk cm rows) {dir : ByteArray} (hg : mget cm dir = none) : ∀ r ∈ rows, (dir == r.dir) = false := by
  intro r hr
  have : (r.dir, r.v) ∈ cm.map (fun e => (e.1, e.2.1)) := by rw [h.1]; exact List.mem_map.2 ⟨r, hr, rfl⟩
  obtain ⟨e, he, h2⟩ := List.mem_map.1 this
  have := mget_none.1 hg e he
  rw [(Prod.mk.injEq _ _ _ _ ▸ h2 : e.1 = r.dir ∧ _).1] at this
  exact this
theorem rows_some {cm : SM} {rows : List RW} (h : RowsOk cm rows) {dir : ByteArray} {rv : Value} (hg : mget cm dir = some rv) :
    ∃ pre r post c p1 p2, rows = pre ++ r :: post ∧ cm = p1 ++ (dir, rv, c) :: p2 ∧ (∀ e ∈ p1, (dir == e.1) = false) ∧ (∀ r ∈ pre, (dir == r.dir) = false) ∧ r.dir = dir ∧ r.v = rv ∧ p1.map (fun e => (e.1, e.2.1)) = pre.map (fun r => (r.dir, r.v)) ∧ p2.map (fun e => (e.1, e.2.1)) = post.map (fun r => (r.dir, r.v)) := by
  obtain ⟨p1, c, p2, rfl, hp⟩ := mget_split hg
  have h1 := h.1
  rw [List.map_append, List.map_cons] at h1
  obtain ⟨pre, rest, rfl, h2, h3⟩ := List.map_eq_append_iff.1 h1.symm
  obtain ⟨r, post, rfl, h4, h5⟩ := List.map_eq_cons_iff.1 h3
  injection h4 with h6 h7
  refine ⟨pre, r, post, c, p1, p2, rfl, rfl, hp, fun x hx => ?_, h6, h7, h2.symm, h5.symm⟩
  have : (x.dir, x.v) ∈ p1.map (fun e => (e.1, e.2.1)) := by rw [← h2]; exact List.mem_map.2 ⟨x, hx, rfl⟩
  obtain ⟨e, he, h8⟩ := List.mem_map.1 this
  have := hp e he
  rw [(Prod.mk.injEq _ _ _ _ ▸ h8 : e.1 = x.dir ∧ _).1] at this
  exact this
end Go.Vf
namespace Go.Proofs.YtlaoeiaaeifidaaGreat
open Go.Sw Go.Vf Go.RowKit
theorem vName (d nb kb cb q nc cc xc : Nat) (room calls : Int) (bv : Value) (fails once : Bool) (nm cm xm : SM) (dir : ByteArray) (hn : MapOk nm nc) (hx : MapOk xm xc) (hv : ∀ e ∈ xm, e.2.1 = .pointer none ∨ ∃ p, e.2.1 = .pointer (some ⟨p, 0, none⟩)) (rows : List RW) (hR : RowsOk cm rows) (hl : ∀ r ∈ rows, r.qs.length ≤ 1000000) (K : List Grp) (W0 : World) (H : List Grp) (hA : At W0 K q (.map (encM xm) xc)) :
    Tri Tryz.prog 37 #[.pointer (some ⟨d, 0, none⟩), .string dir, .map (some q)] W0 ([(d, .cells #[.int .i64 room, bv, .map (some nb), .map (some kb), .map (some cb), .bool fails, .bool once, .int .i64 calls] 72 (0, 0))] :: [(nb, .map (encM nm) nc)] :: [(cb, .map (encM cm) cc)] :: (K ++ (rowsG rows ++ H)))
      (fun v H' => ∃ dn x rows', dn.Perm xm ∧ v = .tuple #[] ∧ RowsOk (mput cm cc dir x) rows' ∧ RowsAdd rows dir q rows' ∧ H' = [(d, .cells #[.int .i64 room, bv, .map (some nb), .map (some kb), .map (some cb), .bool fails, .bool once, .int .i64 calls] 72 (0, 0))] :: [(nb, .map (encM (foldS (nm, nc) dn).1) (foldS (nm, nc) dn).2)] :: [(cb, .map (encM (mput cm cc dir x)) (if mhas cm dir then cc else cc + 1))] :: (K ++ (rowsG rows' ++ H))) := by
  cases hg : mget cm dir with
  | none =>
    have hno := rows_none hR hg
    refine Tri.post (vNameNew d nb kb cb q nc cc xc room calls bv fails once nm cm xm dir hn hx hv hg W0 (K ++ (rowsG rows ++ H)) (at_app hA)) fun v H1 h => ?_
    obtain ⟨dn, x, g, hd, ho, hv1, hH⟩ := h
    refine ⟨_, ⟨dn, x, rows ++ [⟨dir, x, g, [q]⟩], hd, hv1, ⟨?_, ?_⟩, .inl ⟨hno, x, g, rfl⟩, rfl⟩, fun w hw => ?_⟩
    · have hm : mhas cm dir = false := mhas_false.2 (mget_none.1 hg)
      rw [mput_new _ _ hm, List.map_append, List.map_append, hR.1]; rfl
    · intro r hr
      rcases List.mem_append.1 hr with hr | hr
      · exact hR.2 r hr
      · rw [List.mem_singleton.1 hr]; exact ⟨ho, Nat.one_pos⟩
    · rw [hH] at hw
      refine sat_cnt hw fun _ x => ?_
      simp only [rowsG, List.map_append, List.map_cons, List.map_nil, List.flatten_cons, List.flatten_append, List.flatten_nil, List.count_append, List.append_nil]
      omega
  | some rv =>
    obtain ⟨pre, r, post, c, p1, p2, rfl, rfl, hp1, hpre, hd, hrv, e1, e2⟩ := rows_some hR hg
    obtain ⟨ho, hpos⟩ := hR.2 r (List.mem_append_right _ List.mem_cons_self)
    have hq := hl r (List.mem_append_right _ List.mem_cons_self)
    rw [hrv] at ho
    refine Tri.heap (H' := [(d, .cells #[.int .i64 room, bv, .map (some nb), .map (some kb), .map (some cb), .bool fails, .bool once, .int .i64 calls] 72 (0, 0))] :: [(nb, .map (encM nm) nc)] :: [(cb, .map (encM (p1 ++ (dir, rv, c) :: p2)) cc)] :: r.g :: (K ++ (rowsG pre ++ (rowsG post ++ H)))) (fun w hw => sat_cnt hw fun _ x => ?_)
      (Tri.post (vNameMore d nb kb cb q nc cc xc room calls bv fails once nm _ xm dir hn hx hv rv r.g r.qs.length _ ho hq hg W0 (K ++ (rowsG pre ++ (rowsG post ++ H))) (at_app hA)) fun v H1 h => ?_)
    · simp only [rowsG, List.map_append, List.map_cons, List.flatten_cons, List.flatten_append, List.count_append]
      omega
    · obtain ⟨dn, x, g, hdn, ho2, hv1, hH⟩ := h
      refine ⟨_, ⟨dn, x, pre ++ ⟨dir, x, g, r.qs ++ [q]⟩ :: post, hdn, hv1, ⟨?_, ?_⟩, .inr ⟨pre, r, post, x, g, rfl, hpre, hd, rfl⟩, rfl⟩, fun w hw => ?_⟩
      · rw [mput_split hp1]
        simp only [List.map_append, List.map_cons, e1, e2]
      · intro y hy
        rcases List.mem_append.1 hy with hy | hy
        · exact hR.2 y (List.mem_append_left _ hy)
        · rcases List.mem_cons.1 hy with rfl | hy
          · refine ⟨?_, by simp⟩
            show Go.Sw.Own 80 1 x g (r.qs ++ [q]).length ((r.qs ++ [q]).map _)
            rw [List.map_append, List.length_append]; exact ho2
          · exact hR.2 y (List.mem_append_right _ (List.mem_cons_of_mem _ hy))
      · rw [hH] at hw
        refine sat_cnt hw fun _ x => ?_
        simp only [rowsG, List.map_append, List.map_cons, List.flatten_cons, List.flatten_append, List.count_append]
        omega
end Go.Proofs.YtlaoeiaaeifidaaGreat
namespace Go.Proofs.YtlaoeiaaeifidaaGreat
open Go Go.ChangeShapes Go.WideShapes Go.ChangeAt Go.RowKit Go.Sw
theorem ownKnob_ : ownKnob Tryz.prog.godebug = none := by kernel_rfl
theorem sat_nil (W : World) : Sat W [] W := ⟨Below.refl _ _, by simp, by simp, by simp⟩
end Go.Proofs.YtlaoeiaaeifidaaGreat
namespace Go.Vf
open Go.Sw Go.Proofs.YtlaoeiaaeifidaaGreat
instance : LawfulBEq ByteArray := { eq_of_beq := fun h => baEq.1 h, rfl := baEq.2 rfl }
structure Body where
  now : ByteArray
  kept : ByteArray
instance : Inhabited Body := ⟨⟨ByteArray.mk #[], ByteArray.mk #[]⟩⟩
abbrev Nm := ByteArray × Int
structure Ch where
  dir : ByteArray
  l : List Nm
structure DM where
  room : Int
  bodies : List Body
  names : List Nm
  kept : List Nm
  changes : List Ch
  fails : Bool
  once : Bool
  calls : Int
def newM (room : Int) : DM := ⟨if 0 > room then 0 else room, [], [], [], [], false, false, 0⟩
def lookN : List Nm → ByteArray → Option Int
  | [], _ => none
  | n :: r, p => if p == n.1 then some n.2 else lookN r p
def withN (l : List Nm) (x : Nm) : List Nm := l.filter (fun n => !(x.1 == n.1)) ++ (if 0 ≤ x.2 then [x] else [])
def applyN (l : List Nm) (c : List Nm) : List Nm := c.foldl withN l
def bodyAt (M : DM) (k : Int) : Body := M.bodies.getD k.toNat default
def sizeAt (M : DM) (k : Int) : Nat := (bodyAt M k).now.size
def usedM (M : DM) : Nat := (M.names.map fun x => sizeAt M x.2).sum
def callM (M : DM) (right : Bool) : DM := { M with fails := (callS M.fails M.once M.calls right).2.1, calls := (callS M.fails M.once M.calls right).2.2 }
def errM (M : DM) (right : Bool) : Int := (callS M.fails M.once M.calls right).1
def changeM (M : DM) (dir : ByteArray) (l : List Nm) : DM := { M with names := applyN M.names l, changes := M.changes ++ [⟨dir, l⟩] }
def wasM (M : DM) (p : ByteArray) : Nat := match lookN M.names p with | none => 0 | some k => sizeAt M k
def writeM (M : DM) (p b : ByteArray) : Int × DM :=
  if errM M (rightB p) ≠ 0 then (errM M (rightB p), callM M (rightB p))
  else if (usedM M : Int) - (wasM M p : Int) + (b.size : Int) > M.room then (61, callM M (rightB p))
  else (0, changeM { callM M (rightB p) with bodies := M.bodies ++ [⟨b, ByteArray.mk #[]⟩] } (dirB p) [(p, (M.bodies.length : Int))])
def setBody (M : DM) (k : Int) (b : Body) : DM := { M with bodies := M.bodies.set k.toNat b }
def appendM (M : DM) (p b : ByteArray) : Int × DM :=
  if errM M (rightB p) ≠ 0 then (errM M (rightB p), callM M (rightB p))
  else match lookN M.names p with
    | none => (60, callM M (rightB p))
    | some k => if (usedM M : Int) + (b.size : Int) > M.room then (61, callM M (rightB p)) else (0, setBody (callM M (rightB p)) k ⟨(bodyAt M k).now ++ b, (bodyAt M k).kept⟩)
def readM (M : DM) (p : ByteArray) : ByteArray × Int :=
  match lookN M.names p with
  | none => (ByteArray.mk #[], 60)
  | some k => ((bodyAt M k).now, 0)
def renR (p q : ByteArray) : Bool := (rightB p && rightB q) && ((dirB p).toList == (dirB q).toList)
def renameM (M : DM) (p q : ByteArray) : Int × DM :=
  if errM M (renR p q) ≠ 0 then (errM M (renR p q), callM M (renR p q))
  else match lookN M.names p with
    | none => (60, callM M (renR p q))
    | some k => (0, if p == q then callM M (renR p q) else changeM (callM M (renR p q)) (dirB q) [(p, -1), (q, k)])
def removeM (M : DM) (p : ByteArray) : Int × DM :=
  if errM M (rightB p) ≠ 0 then (errM M (rightB p), callM M (rightB p))
  else match lookN M.names p with
    | none => (60, callM M (rightB p))
    | some _ => (0, changeM (callM M (rightB p)) (dirB p) [(p, -1)])
def syncM (M : DM) (p : ByteArray) : Int × DM :=
  if errM M (rightB p) ≠ 0 then (errM M (rightB p), callM M (rightB p))
  else match lookN M.names p with
    | none => (60, callM M (rightB p))
    | some k => (0, setBody (callM M (rightB p)) k ⟨(bodyAt M k).now, (bodyAt M k).now⟩)
def chOf (l : List Ch) (d : ByteArray) : List (List Nm) := (l.filter fun c => d == c.dir).map (·.l)
def dirR (d : ByteArray) : Bool := (d.toList == (ByteArray.mk #[]).toList) || partB d
def syncDirM (M : DM) (d : ByteArray) : Int × DM :=
  if errM M (dirR d) ≠ 0 then (errM M (dirR d), callM M (dirR d))
  else (0, { callM M (dirR d) with kept := (chOf M.changes d).foldl applyN M.kept, changes := M.changes.filter fun c => !(d == c.dir) })
def onceL : List ByteArray → List ByteArray
  | [] => []
  | x :: r => if x ∈ onceL r then onceL r else x :: onceL r
def dirsOf (l : List Ch) : List ByteArray := sortB (onceL (l.map (·.dir)))
def crashB : List Body → List Int → List Body × List Int
  | [], l => ([], l)
  | b :: r, l =>
    if (b.now.size : Int) - (b.kept.size : Int) > 0 then
      let x := b.now.extract 0 (b.kept.size + (nextK (l.headD 0) ((b.now.size : Int) - (b.kept.size : Int) + 1)).toNat)
      (⟨x, x⟩ :: (crashB r (l.drop 1)).1, (crashB r (l.drop 1)).2)
    else (⟨b.kept, b.kept⟩ :: (crashB r l).1, (crashB r l).2)
def crashD (l : List Ch) : List ByteArray → List Int → List Nm → List Nm
  | [], _, K => K
  | d :: r, ks, K => crashD l r (ks.drop 1) (((chOf l d).take (nextK (ks.headD 0) (((chOf l d).length : Int) + 1)).toNat).foldl applyN K)
def crashM (M : DM) (ks : List Int) : DM :=
  { M with bodies := (crashB M.bodies ks).1, names := crashD M.changes (dirsOf M.changes) (crashB M.bodies ks).2 M.kept, kept := crashD M.changes (dirsOf M.changes) (crashB M.bodies ks).2 M.kept, changes := [], fails := false }
end Go.Vf
namespace Go.Vf
open Go.Sw
inductive All2 {α β : Type} (R : α → β → Prop) : List α → List β → Prop
  | nil : All2 R [] []
  | cons {a : α} {b : β} {l : List α} {m : List β} (h : R a b) (t : All2 R l m) : All2 R (a :: l) (b :: m)
theorem All2.len {α β : Type} {R : α → β → Prop} {l : List α} {m : List β} (h : All2 R l m) : l.length = m.length := by
  induction h with
  | nil => rfl
  | cons _ _ ih => simp [ih]
theorem All2.imp {α β : Type} {R R' : α → β → Prop} {l : List α} {m : List β} (h : All2 R l m) (hi : ∀ a b, R a b → R' a b) : All2 R' l m := by
  induction h with
  | nil => exact .nil
  | cons h _ ih => exact .cons (hi _ _ h) ih
theorem All2.app {α β : Type} {R : α → β → Prop} {l l' : List α} {m m' : List β} (h : All2 R l m) (h' : All2 R l' m') : All2 R (l ++ l') (m ++ m') := by
  induction h with
  | nil => exact h'
  | cons h _ ih => exact .cons h ih
theorem All2.take {α β : Type} {R : α → β → Prop} {l : List α} {m : List β} (h : All2 R l m) : ∀ n : Nat, All2 R (l.take n) (m.take n) := by
  induction h with
  | nil => intro n; simp; exact .nil
  | cons h _ ih =>
    intro n
    cases n with
    | zero => exact .nil
    | succ n => exact .cons h (ih n)
theorem All2.get {α β : Type} {R : α → β → Prop} {l : List α} {m : List β} (h : All2 R l m) (da : α) (db : β) : ∀ i : Nat, i < l.length → R (l.getD i da) (m.getD i db) := by
  induction h with
  | nil => intro i h; simp at h
  | cons h _ ih =>
    intro i hi
    cases i with
    | zero => exact h
    | succ i => exact ih i (by simpa using hi)
theorem All2.set {α β : Type} {R : α → β → Prop} {l : List α} {m : List β} (h : All2 R l m) {a : α} {b : β} (hab : R a b) : ∀ i : Nat, All2 R (l.set i a) (m.set i b) := by
  induction h with
  | nil => intro i; exact .nil
  | cons h t ih =>
    intro i
    cases i with
    | zero => exact .cons hab t
    | succ i => exact .cons h (ih i)
theorem nodup_of_map {α β : Type} {f : α → β} {l : List α} (h : (l.map f).Nodup) : l.Nodup := List.Pairwise.of_map f (fun _ _ h e => h (congrArg f e)) h
theorem lookN_none {l : List Nm} {p : ByteArray} : lookN l p = none ↔ ∀ n ∈ l, (p == n.1) = false := by
  induction l with
  | nil => simp [lookN]
  | cons n l ih =>
    rw [lookN]
    cases h : p == n.1
    · simp only [Bool.false_eq_true, if_false, ih]
      exact ⟨fun h2 x hx => by rcases List.mem_cons.1 hx with rfl | hx; exact h; exact h2 x hx, fun h2 x hx => h2 x (List.mem_cons_of_mem _ hx)⟩
    · simp only [if_true, reduceCtorEq, false_iff]
      intro h2; rw [h2 n List.mem_cons_self] at h; cases h
theorem lookN_mem {l : List Nm} {p : ByteArray} {k : Int} (h : lookN l p = some k) : (p, k) ∈ l := by
  induction l with
  | nil => cases h
  | cons n l ih =>
    rw [lookN] at h
    split at h
    · rename_i hk
      injection h with h; subst h
      rw [baEq] at hk; subst hk
      exact List.mem_cons_self
    · exact List.mem_cons_of_mem _ (ih h)
theorem lookN_of {l : List Nm} {p : ByteArray} {k : Int} (hn : (l.map Prod.fst).Nodup) (h : (p, k) ∈ l) : lookN l p = some k := by
  induction l with
  | nil => cases h
  | cons n l ih =>
    rw [List.map_cons, List.nodup_cons] at hn
    rw [lookN]
    rcases List.mem_cons.1 h with rfl | h
    · rw [if_pos (baEq.2 rfl)]
    · rw [if_neg, ih hn.2 h]
      intro hk
      rw [baEq] at hk
      exact hn.1 (List.mem_map.2 ⟨(p, k), h, hk⟩)
theorem lookN_app {l r : List Nm} {p : ByteArray} : lookN (l ++ r) p = (lookN l p).or (lookN r p) := by
  induction l with
  | nil => simp [lookN]
  | cons n l ih =>
    rw [List.cons_append, lookN, lookN]
    split
    · simp
    · exact ih
theorem lookN_filter {l : List Nm} {p q : ByteArray} : lookN (l.filter fun n => !(q == n.1)) p = if p == q then none else lookN l p := by
  induction l with
  | nil => simp [lookN]
  | cons n l ih =>
    rw [List.filter_cons]
    cases hq : q == n.1
    · simp only [Bool.not_false, if_true]
      rw [lookN, lookN, ih]
      cases hp : p == n.1
      · simp
      · simp only [if_true]
        rw [baEq] at hp; subst hp
        rw [if_neg]
        intro h; rw [baEq] at h; rw [baNe] at hq; exact hq h.symm
    · simp only [Bool.not_true, Bool.false_eq_true, if_false]
      rw [ih, lookN]
      rw [baEq] at hq; subst hq
      cases hp : p == n.1 <;> simp
theorem lookN_with {l : List Nm} {x : Nm} {p : ByteArray} : lookN (withN l x) p = if p == x.1 then (if 0 ≤ x.2 then some x.2 else none) else lookN l p := by
  unfold withN
  rw [lookN_app, lookN_filter]
  cases h : p == x.1
  · simp only [Bool.false_eq_true, if_false]
    split
    · rw [lookN, h]; simp [lookN]
    · simp [lookN]
  · simp only [if_true, Option.none_or]
    split
    · rw [lookN, h]; simp
    · simp [lookN]
theorem nodup_with {l : List Nm} {x : Nm} (h : (l.map Prod.fst).Nodup) : ((withN l x).map Prod.fst).Nodup := by
  unfold withN
  rw [List.map_append, List.nodup_append]
  refine ⟨h.sublist (List.Sublist.map _ List.filter_sublist), ?_, ?_⟩
  · split <;> simp
  · intro a ha b hb
    split at hb
    · simp only [List.map_cons, List.map_nil, List.mem_singleton] at hb
      obtain ⟨n, hn, rfl⟩ := List.mem_map.1 ha
      have := (List.mem_filter.1 hn).2
      subst hb
      intro he
      rw [he] at this
      simp at this
    · cases hb
theorem mem_with {l : List Nm} {x y : Nm} (h : y ∈ withN l x) : y ∈ l ∨ (y = x ∧ 0 ≤ x.2) := by
  unfold withN at h
  rcases List.mem_append.1 h with h | h
  · exact .inl (List.mem_filter.1 h).1
  · split at h
    · rename_i hx; exact .inr ⟨List.mem_singleton.1 h, hx⟩
    · cases h
theorem lookN_apply {c : List Nm} : ∀ {l : List Nm} {p : ByteArray}, (c.map Prod.fst).Nodup → lookN (applyN l c) p = match lookN c p with | none => lookN l p | some k => if 0 ≤ k then some k else none := by
  induction c with
  | nil => intro l p _; rfl
  | cons x c ih =>
    intro l p hn
    rw [List.map_cons, List.nodup_cons] at hn
    show lookN (applyN (withN l x) c) p = _
    rw [ih hn.2, lookN_with, lookN]
    cases h : p == x.1
    · simp
    · simp only [if_true]
      have : lookN c p = none := lookN_none.2 fun n hm => by
        rw [baEq] at h; subst h
        rw [baNe]; intro he
        exact hn.1 (List.mem_map.2 ⟨n, hm, he.symm⟩)
      rw [this]
theorem nodup_apply {c : List Nm} : ∀ {l : List Nm}, (l.map Prod.fst).Nodup → ((applyN l c).map Prod.fst).Nodup := by
  induction c with
  | nil => intro l h; exact h
  | cons x c ih => intro l h; exact ih (nodup_with h)
theorem mem_apply {c : List Nm} : ∀ {l : List Nm} {y : Nm}, y ∈ applyN l c → y ∈ l ∨ (y ∈ c ∧ 0 ≤ y.2) := by
  induction c with
  | nil => intro l y h; exact .inl h
  | cons x c ih =>
    intro l y h
    rcases ih (l := withN l x) h with h | h
    · rcases mem_with h with h | ⟨rfl, h⟩
      · exact .inl h
      · exact .inr ⟨List.mem_cons_self, h⟩
    · exact .inr ⟨List.mem_cons_of_mem _ h.1, h.2⟩
theorem mget_mem {m : SM} {p : ByteArray} {v : Value} (h : mget m p = some v) : ∃ c, (p, v, c) ∈ m := by
  obtain ⟨pre, c, post, rfl, _⟩ := mget_split h
  exact ⟨c, List.mem_append_right _ List.mem_cons_self⟩
theorem mget_of {m : SM} {p : ByteArray} {v : Value} {c : Nat} (hn : (m.map Prod.fst).Nodup) (h : (p, v, c) ∈ m) : mget m p = some v := by
  induction m with
  | nil => cases h
  | cons n m ih =>
    rw [List.map_cons, List.nodup_cons] at hn
    rw [mget_cons]
    rcases List.mem_cons.1 h with rfl | h
    · rw [if_pos (baEq.2 rfl)]
    · rw [if_neg, ih hn.2 h]
      intro hk
      rw [baEq] at hk
      exact hn.1 (List.mem_map.2 ⟨(p, v, c), h, hk⟩)
theorem _root_.Go.Sw.MapOk.nodup {m : SM} {c : Nat} (h : MapOk m c) : (m.map Prod.fst).Nodup := pw_keys.1 h.keys
theorem mget_perm {m m' : SM} (h : m.Perm m') (hn : (m.map Prod.fst).Nodup) (p : ByteArray) : mget m p = mget m' p := by
  have hn' : (m'.map Prod.fst).Nodup := (h.map _).nodup_iff.1 hn
  cases h1 : mget m p with
  | none =>
    refine (mget_none.2 fun e he => ?_).symm
    exact mget_none.1 h1 e (h.mem_iff.2 he)
  | some v =>
    obtain ⟨c, hm⟩ := mget_mem h1
    exact (mget_of hn' (h.mem_iff.1 hm)).symm
theorem mget_put {m : SM} {c : Nat} {k p : ByteArray} {v : Value} : mget (mput m c k v) p = if p == k then some v else mget m p := by
  induction m with
  | nil =>
    rw [mput, mget_cons]
  | cons e m ih =>
    rw [mput]
    cases hk : k == e.1
    · simp only [Bool.false_eq_true, if_false]
      rw [mget_cons, mget_cons, ih]
      cases hp : p == e.1
      · simp
      · simp only [if_true]
        rw [baEq] at hp; subst hp
        rw [if_neg]
        intro h; rw [baEq] at h; rw [baNe] at hk; exact hk h.symm
    · simp only [if_true]
      rw [mget_cons, mget_cons]
      rw [baEq] at hk; subst hk
      cases hp : p == e.1 <;> simp
theorem mget_del {m : SM} {k p : ByteArray} (hn : (m.map Prod.fst).Nodup) : mget (mdel m k) p = if p == k then none else mget m p := by
  induction m with
  | nil => rw [mdel]; split <;> rfl
  | cons e m ih =>
    rw [List.map_cons, List.nodup_cons] at hn
    rw [mdel]
    cases hk : k == e.1
    · simp only [Bool.false_eq_true, if_false]
      rw [mget_cons, mget_cons, ih hn.2]
      cases hp : p == e.1
      · simp
      · simp only [if_true]
        rw [baEq] at hp; subst hp
        rw [if_neg]
        intro h; rw [baEq] at h; rw [baNe] at hk; exact hk h.symm
    · simp only [if_true]
      rw [mget_cons]
      rw [baEq] at hk; subst hk
      cases hp : p == e.1
      · simp
      · simp only [if_true]
        rw [baEq] at hp; subst hp
        exact mget_none.2 fun x hx => by
          rw [baNe]; intro he
          exact hn.1 (List.mem_map.2 ⟨x, hx, he.symm⟩)
def nilV : Value → Bool
  | .pointer none => true
  | _ => false
theorem mget_st {s : SM × Nat} {e : ByteArray × Value × Nat} {p : ByteArray} (hn : (s.1.map Prod.fst).Nodup) : mget (stS s e).1 p = if p == e.1 then (if nilV e.2.1 then none else some e.2.1) else mget s.1 p := by
  unfold stS
  split
  · rename_i h
    rw [mget_del hn, h]; rfl
  · rename_i v h
    rw [mget_put]
    have : nilV e.2.1 = false := by
      cases hv : nilV e.2.1
      · rfl
      · exfalso
        unfold nilV at hv
        split at hv
        · rename_i h2; exact h h2
        · cases hv
    rw [this]; rfl
theorem mget_fold {dn : SM} : ∀ {s : SM × Nat} {p : ByteArray}, MapOk s.1 s.2 → (dn.map Prod.fst).Nodup → mget (foldS s dn).1 p = match mget dn p with | none => mget s.1 p | some v => if nilV v then none else some v := by
  induction dn with
  | nil => intro s p _ _; rfl
  | cons e dn ih =>
    intro s p hs hn
    rw [List.map_cons, List.nodup_cons] at hn
    show mget (foldS (stS s e) dn).1 p = _
    rw [ih (hs.st e) hn.2, mget_st hs.nodup, mget_cons]
    cases h : p == e.1
    · simp
    · simp only [if_true]
      have : mget dn p = none := mget_none.2 fun n hm => by
        rw [baEq] at h; subst h
        rw [baNe]; intro he
        exact hn.1 (List.mem_map.2 ⟨n, hm, he.symm⟩)
      rw [this]
def ptrV (q : Nat) : Value := .pointer (some ⟨q, 0, none⟩)
def ptrOf (ps : List Nat) (k : Int) : Value := ptrV (ps.getD k.toNat 0)
def chV (ps : List Nat) (k : Int) : Value := if 0 ≤ k then ptrOf ps k else .pointer none
theorem chV_nil (ps : List Nat) (k : Int) : nilV (chV ps k) = !decide (0 ≤ k) := by
  unfold chV
  split
  · rename_i h; simp [ptrOf, ptrV, nilV, h]
  · rename_i h; simp [nilV, h]
structure NamesR (ps : List Nat) (nm : SM) (names : List Nm) : Prop where
  look : ∀ p, mget nm p = (lookN names p).map (ptrOf ps)
  keys : (names.map Prod.fst).Nodup
  lt : ∀ x ∈ names, 0 ≤ x.2 ∧ x.2.toNat < ps.length
structure ChangeR (ps : List Nat) (x : SM) (l : List Nm) : Prop where
  look : ∀ p, mget x p = (lookN l p).map (chV ps)
  keys : (l.map Prod.fst).Nodup
  lt : ∀ y ∈ l, 0 ≤ y.2 → y.2.toNat < ps.length
theorem ptrOf_mono {ps : List Nat} {q : Nat} {k : Int} (h : k.toNat < ps.length) : ptrOf (ps ++ [q]) k = ptrOf ps k := by
  unfold ptrOf
  rw [List.getD_eq_getElem?_getD, List.getD_eq_getElem?_getD, List.getElem?_append_left h]
theorem NamesR.mono {ps : List Nat} {nm : SM} {names : List Nm} (h : NamesR ps nm names) (q : Nat) : NamesR (ps ++ [q]) nm names := by
  refine ⟨fun p => ?_, h.keys, fun x hx => ⟨(h.lt x hx).1, by have := (h.lt x hx).2; simp; omega⟩⟩
  rw [h.look p]
  cases hl : lookN names p with
  | none => rfl
  | some k => simp only [Option.map_some]; rw [ptrOf_mono (h.lt _ (lookN_mem hl)).2]
theorem ChangeR.mono {ps : List Nat} {x : SM} {l : List Nm} (h : ChangeR ps x l) (q : Nat) : ChangeR (ps ++ [q]) x l := by
  refine ⟨fun p => ?_, h.keys, fun y hy h0 => by have := h.lt y hy h0; simp; omega⟩
  rw [h.look p]
  cases hl : lookN l p with
  | none => rfl
  | some k =>
    simp only [Option.map_some]
    unfold chV
    split
    · rename_i h0; rw [ptrOf_mono (h.lt _ (lookN_mem hl) h0)]
    · rfl
theorem names_apply {ps : List Nat} {nm x dn : SM} {nc xc : Nat} {names l : List Nm} (h : NamesR ps nm names) (hn : MapOk nm nc) (hx : MapOk x xc) (hc : ChangeR ps x l) (hd : dn.Perm x) :
    NamesR ps (foldS (nm, nc) dn).1 (applyN names l) := by
  have hdn : (dn.map Prod.fst).Nodup := (hd.map _).nodup_iff.2 hx.nodup
  refine ⟨fun p => ?_, nodup_apply h.keys, fun y hy => ?_⟩
  · rw [mget_fold hn hdn, mget_perm hd hdn, hc.look, lookN_apply hc.keys]
    cases hl : lookN l p with
    | none => exact h.look p
    | some k =>
      simp only [Option.map_some]
      rw [chV_nil]
      by_cases h0 : 0 ≤ k
      · simp [h0, chV]
      · simp [h0]
  · rcases mem_apply hy with hy | ⟨hy, h0⟩
    · exact h.lt y hy
    · exact ⟨h0, hc.lt y hy h0⟩
theorem names_made {ps : List Nat} : ∀ {xs : List SM} {ls : List (List Nm)} {nm nm' : SM} {nc nc' : Nat} {names : List Nm}, NamesR ps nm names → MapOk nm nc → All2 (fun x l => (∃ c, MapOk x c) ∧ ChangeR ps x l) xs ls →
    MadeOf xs (nm, nc) (nm', nc') → NamesR ps nm' (ls.foldl applyN names)
  | [], [], _, _, _, _, _, h, _, .nil, hm => by
    injection (show (_, _) = (_, _) from hm) with e1 e2
    subst e1; exact h
  | x :: xs, l :: ls, nm, nm', nc, nc', names, h, hn, .cons ⟨⟨c, hx⟩, hc⟩ hr, ⟨dn, hd, hm⟩ => by
    exact names_made (ls := ls) (nc := (foldS (nm, nc) dn).2) (names_apply h hn hx hc hd) (MapOk.fold (s := (nm, nc)) hn dn) hr hm
theorem names_perm {ps : List Nat} {nm : SM} {nc : Nat} {names : List Nm} (h : NamesR ps nm names) (hn : MapOk nm nc) : (nm.map fun e => (e.1, e.2.1)).Perm (names.map fun x => (x.1, ptrOf ps x.2)) := by
  have n1 : ((nm.map fun e => (e.1, e.2.1)).map Prod.fst).Nodup := by rw [List.map_map]; exact hn.nodup
  have n2 : ((names.map fun x => (x.1, ptrOf ps x.2)).map Prod.fst).Nodup := by rw [List.map_map]; exact h.keys
  refine (List.perm_ext_iff_of_nodup (nodup_of_map n1) (nodup_of_map n2)).2 fun a => ?_
  obtain ⟨p, v⟩ := a
  constructor
  · intro ha
    obtain ⟨⟨k, u, c⟩, he, h2⟩ := List.mem_map.1 ha
    injection h2 with e1 e2
    simp only at e1 e2
    subst e1 e2
    have := mget_of hn.nodup he
    rw [h.look] at this
    cases hl : lookN names k with
    | none => rw [hl] at this; cases this
    | some i =>
      rw [hl] at this
      injection this with this
      exact List.mem_map.2 ⟨(k, i), lookN_mem hl, by rw [← this]⟩
  · intro ha
    obtain ⟨⟨k, i⟩, he, h2⟩ := List.mem_map.1 ha
    injection h2 with e1 e2
    simp only at e1 e2
    subst e1 e2
    have hl := lookN_of h.keys he
    have := h.look k
    rw [hl] at this
    obtain ⟨c, hm⟩ := mget_mem this
    exact List.mem_map.2 ⟨_, hm, rfl⟩
end Go.Vf
namespace Go.Vf
open Go.Sw Go.RowKit Go.Proofs Go.Proofs.YtlaoeiaaeifidaaGreat
def Sh (a : Option Addr) (n cap : Nat) : Prop := (a = none ∧ n = 0 ∧ cap = 0) ∨ (∃ ad, a = some ad ∧ n = 0) ∨ ∃ k off, a = some ⟨k, off, none⟩
theorem flat_nil' {W0 : World} {A B : List Grp} {w : World} (h : Sat W0 (A ++ B) w) : Sat W0 (A ++ [] :: B) w := h.flat (by rw [List.flatten_append, List.flatten_append, List.flatten_cons, List.nil_append])
theorem vCloneO (a : Option Addr) (n cap : Nat) (S : Nat → Obj → Prop) (l : List UInt8) (hsh : Sh a n cap) (hrd : Rd S a (u8s l)) (hl : l.length = n) (hn : n ≤ 1000000000) (W0 : World) (H : List Grp) (hS : ∀ y o, S y o → At W0 H y o) :
    Tri Tryz.prog 36 #[.slice a n cap] W0 H (fun v H' => ∃ g, Go.Sw.Own 5 1 v g n (u8s l) ∧ H' = g :: H) := by
  have h0 : n = 0 → l = [] := fun h => List.eq_nil_of_length_eq_zero (by omega)
  rcases hsh with ⟨rfl, rfl, rfl⟩ | ⟨ad, rfl, rfl⟩ | ⟨k, off, rfl⟩
  · rw [h0 rfl]
    refine Tri.post (vCloneNil W0 H) fun v H1 ⟨hv, hH⟩ => ⟨_, ⟨[], by rw [hv]; exact Go.Sw.Own.nil, rfl⟩, fun w hw => ?_⟩
    rw [hH] at hw
    exact flat_nil' (A := []) hw
  · rw [h0 rfl]
    exact vCloneE ad cap W0 H
  · exact vClone k off n cap S l hrd hl hn W0 H hS
end Go.Vf
namespace Go.Proofs.YtlaoeiaaeifidaaGreat
open Go.Sw Go.Lib Go.Vf Go.RowKit
set_option maxHeartbeats 1000000 in
theorem vWriteAny (d nb kb cb nc cc : Nat) (room calls : Int) (bv : Value) (bg : Grp) (ps : List Value) (m : Nat) (fails once : Bool) (nm cm : SM) (path : ByteArray) (szf : Value → Nat) (hpath : path.size ≤ 9223372036854775807) (hca : -9223372036854775808 ≤ calls ∧ calls ≤ 9223372036854775807) (hn : MapOk nm nc) (hs : sumN szf nm ≤ 1000000000000) (hw : ∀ v, mget nm path = some v → szf v ≤ 1000000000000) (hO : Go.Sw.Own 74 1 bv bg m ps) (hm : m ≤ 1000000) (rows : List RW) (hR : RowsOk cm rows) (hl : ∀ r ∈ rows, r.qs.length ≤ 1000000) (ao : Option Addr) (n cap : Nat) (S : Nat → Obj → Prop) (l : List UInt8) (hsh : Sh ao n cap) (hrd : Rd S ao (u8s l)) (hl1 : l.length = n) (hn1 : n ≤ 1000000000) (W0 : World) (H : List Grp) (hg : mget nm path = none ∨ ∃ p a c kv, mget nm path = some (.pointer (some ⟨p, 0, none⟩)) ∧ At W0 (rowsG rows ++ H) p (.cells #[.slice a (szf (.pointer (some ⟨p, 0, none⟩))) c, kv] 76 (0, 0))) (hS : ∀ y o, S y o → At W0 (rowsG rows ++ H) y o) (hB : ∀ e ∈ nm, ∃ p a c kv, e.2.1 = .pointer (some ⟨p, 0, none⟩) ∧ At W0 (rowsG rows ++ H) p (.cells #[.slice a (szf e.2.1) c, kv] 76 (0, 0))) : Tri Tryz.prog 9 #[pt d, .string path, .slice ao n cap] W0 ([(d, .cells #[.int .i64 room, bv, .map (some nb), .map (some kb), .map (some cb), .bool fails, .bool once, .int .i64 calls] 72 (0, 0))] :: [(nb, .map (encM nm) nc)] :: [(cb, .map (encM cm) cc)] :: bg :: (rowsG rows ++ H)) (fun v H' => ((callS fails once calls (rightB path)).1 ≠ 0 ∧ v = .int .i64 (callS fails once calls (rightB path)).1 ∧ H' = ([(d, .cells #[.int .i64 room, bv, .map (some nb), .map (some kb), .map (some cb), .bool ((callS fails once calls (rightB path)).2.1), .bool once, .int .i64 ((callS fails once calls (rightB path)).2.2)] 72 (0, 0))] :: [(nb, .map (encM nm) nc)] :: [(cb, .map (encM cm) cc)] :: bg :: (rowsG rows ++ H))) ∨ ((callS fails once calls (rightB path)).1 = 0 ∧ ((sumN szf nm : Nat) : Int) - (((match mget nm path with | none => 0 | some v => szf v) : Nat) : Int) + (n : Int) > room ∧ v = .int .i64 61 ∧ H' = ([(d, .cells #[.int .i64 room, bv, .map (some nb), .map (some kb), .map (some cb), .bool ((callS fails once calls (rightB path)).2.1), .bool once, .int .i64 ((callS fails once calls (rightB path)).2.2)] 72 (0, 0))] :: [(nb, .map (encM nm) nc)] :: [(cb, .map (encM cm) cc)] :: bg :: (rowsG rows ++ H))) ∨ ((callS fails once calls (rightB path)).1 = 0 ∧ ¬ ((sumN szf nm : Nat) : Int) - (((match mget nm path with | none => 0 | some v => szf v) : Nat) : Int) + (n : Int) > room ∧ v = .int .i64 0 ∧ ∃ p q a1 c1 a2 c2 x rows1 g1 bg2, Go.Sw.Own 5 1 (.slice a1 n c1) g1 n (u8s l) ∧ Go.Sw.Own 74 1 (.slice a2 (m + 1) c2) bg2 (m + 1) (ps ++ [.pointer (some ⟨p, 0, none⟩)]) ∧ RowsOk (mput cm cc (dirB path) x) rows1 ∧ RowsAdd rows (dirB path) q rows1 ∧ H' = [(d, .cells #[.int .i64 room, .slice a2 (m + 1) c2, .map (some nb), .map (some kb), .map (some cb), .bool (callS fails once calls (rightB path)).2.1, .bool once, .int .i64 (callS fails once calls (rightB path)).2.2] 72 (0, 0))] :: [(nb, .map (encM (foldS (nm, nc) [(path, .pointer (some ⟨p, 0, none⟩), 0)]).1) (foldS (nm, nc) [(path, .pointer (some ⟨p, 0, none⟩), 0)]).2)] :: [(cb, .map (encM (mput cm cc (dirB path) x)) (if mhas cm (dirB path) then cc else cc + 1))] :: [(q, .map (encM [(path, .pointer (some ⟨p, 0, none⟩), 0)]) 1)] :: bg2 :: [(p, .cells #[.slice a1 n c1, .slice none 0 0] 76 (0, 0))] :: g1 :: (rowsG rows1 ++ H))) := by
 refine Tri_of (args := [pt d, .string path, .slice ao n cap]) (n := 65) Tryz.func9 rfl rfl (Nat.le_of_ble_eq_true rfl) ?_
 refine G_seq ?_
 refine G_pure (E':=[⟨0,[],pt d⟩,⟨1,[],.string path⟩,⟨2,[],.slice ao n cap⟩]) [0] [0,1,2] rfl kr ?_
 refine N_then ?_
 refine G_seq ?_
 refine G_seq ?_
 refine G_region ?_
 refine GL_p [0,0] kr (j:=2) rfl ?_
 refine GL_callQ (i:=2) (ch:=[]) (f:=34) (fst:=#[]) (caps:=#[]) (vs:=[.string path]) (v:=.bool (rightB path)) rfl rfl rfl kr kr Tryz.func34 rfl rfl kr kr kr (fun _=>vfsRight _ hpath _ _) ?_
 refine GL_call (i:=3) (ch:=[]) (f:=33) (fst:=#[]) (caps:=#[]) (vs:=[pt d,.bool (rightB path)]) rfl rfl rfl kr kr Tryz.func33 rfl rfl kr kr (chSure_of kr) (vCall d nb kb cb room calls bv fails once (rightB path) hca _ _) ?_
 rintro v H' ⟨rfl, rfl⟩
 refine GL_fin (E':=[⟨0,[],pt d⟩,⟨1,[],.string path⟩,⟨2,[],.slice ao n cap⟩,⟨7,[],.int .i64 ((callS fails once calls (rightB path)).1)⟩]) [0] [0,1,2,7] rfl kr ?_
 refine N_then ?_
 refine G_seq ?_
 refine G_pure (E':=[⟨0,[],pt d⟩,⟨1,[],.string path⟩,⟨2,[],.slice ao n cap⟩,⟨7,[],.int .i64 ((callS fails once calls (rightB path)).1)⟩,⟨16,[],.bool (((callS fails once calls (rightB path)).1) != 0)⟩]) [0,0] [0,1,2,7,16] rfl kr ?_
 refine N_then ?_
 refine G_cond (b:=((callS fails once calls (rightB path)).1) != 0) kr (fun hc1=>?_) (fun hc1=>?_)
 ·
  have hce : (callS fails once calls (rightB path)).1 ≠ 0 := by simpa using hc1
  refine G_seq ?_
  refine G_pure (E':=[⟨6,[],.int .i64 ((callS fails once calls (rightB path)).1)⟩]) [0,0] [6] rfl kr ?_
  refine N_then ?_
  refine G_ret ?_
  refine N_then_ret ?_
  refine N_ret [.tmp 6] [.int .i64 ((callS fails once calls (rightB path)).1)] rfl kr rfl ?_
  exact .inl ⟨hce, rfl, rfl⟩
 ·
  have hce : (callS fails once calls (rightB path)).1 = 0 := by simpa using hc1
  refine G_skip ?_
  refine N_then ?_
  refine G_seq ?_
  refine G_pure (E':=[⟨0,[],pt d⟩,⟨1,[],.string path⟩,⟨2,[],.slice ao n cap⟩,⟨8,[],.int .i64 0⟩]) [0] [0,1,2,8] rfl kr ?_
  refine N_then ?_
  refine G_seq ?_
  refine G_seq ?_
  refine G_region ?_
  refine GL_p [0,0,0] kr (j:=3) rfl ?_
  refine GL_load (i:=3) (ch:=[]) (b:=d) (off:=2) (v:=.map (some nb)) rfl rfl kr kr kr kr kr (At.grp 0 0 rfl rfl) rfl ?_
  refine GL_p [0] kr (j:=5) rfl ?_
  rcases hg with hg | ⟨p0, a0, c0, kv0, hg, hat0⟩
  ·
   refine GL_lookup (i:=5) (ch:=[]) (kt:=9) (et:=74) (r:=nb) (c:=nc) (m:=nm) (k:=path) (z:=.pointer none) (ov:=none) rfl rfl kr kr kr kr kr kr kr kr (At.grp 1 0 rfl rfl) (fun _=>hg) ?_
   refine GL_fin (E':=[⟨0,[],pt d⟩,⟨1,[],.string path⟩,⟨2,[],.slice ao n cap⟩,⟨8,[],.int .i64 0⟩,⟨9,[],.pointer none⟩]) [0] [0,1,2,8,9] rfl kr ?_
   refine N_then ?_
   refine G_seq ?_
   refine G_pure (E':=[⟨0,[],pt d⟩,⟨1,[],.string path⟩,⟨2,[],.slice ao n cap⟩,⟨8,[],.int .i64 0⟩,⟨9,[],.pointer none⟩,⟨25,[],.bool false⟩]) [0,0] [0,1,2,8,9,25] rfl kr ?_
   refine N_then ?_
   refine G_condf kr ?_
   refine G_skip ?_
   refine N_then ?_
   refine G_seq ?_
   refine G_seq ?_
   refine G_regionH ([(d,.cells #[.int .i64 room,bv,.map (some nb),.map (some kb),.map (some cb),.bool ((callS fails once calls (rightB path)).2.1),.bool once,.int .i64 ((callS fails once calls (rightB path)).2.2)] 72 (0,0))]::[(nb,.map (encM nm) nc)]::[(cb,.map (encM cm) cc)]::bg::(rowsG rows++H)) kr ?_
   refine GH_p (fuel:=9) [(0,0),(2,0),(4,0)] (fun w h=>h) kr rfl ?_
   refine GH_pev (v:=.int .i64 ((n : Nat) : Int)) 5 rfl rfl kr kr kr kr kr (fun w h=>h) ?_
   refine GH_p (fuel:=7) [(7,0)] (fun w h=>h) kr rfl ?_
   refine GH_nil (ad:=⟨d,0,none⟩) 8 rfl rfl rfl kr kr kr kr kr (fun w h=>h) ?_
   refine GH_p (fuel:=5) [(9,0)] (fun w h=>h) kr rfl ?_
   refine GH_take' 10 kr (fun w h=>h) (GL_load (i:=10) (ch:=[]) (b:=d) (off:=0) (v:=.int .i64 room) rfl rfl kr kr kr kr kr (At.grp 0 0 rfl rfl) rfl (GL_yend kr rfl)) ?_
   refine GH_eff 1 kr kr kr ?_
   refine GL_call (i:=1) (ch:=[]) (f:=35) (fst:=#[]) (caps:=#[]) (vs:=[pt d]) rfl rfl rfl kr kr Tryz.func35 rfl rfl kr kr (chSure_of kr) (vUsed d nb kb cb nc room ((callS fails once calls (rightB path)).2.2) bv ((callS fails once calls (rightB path)).2.1) once nm szf hn hs _ _ (fun e he=>let ⟨p,a,c,kv,h1,h2⟩:=hB e he; ⟨p,a,c,kv,h1,(At.cons (At.cons h2))⟩)) ?_
   rintro v H' ⟨rfl, rfl⟩
   refine GH_back kr (fun w h=>h) ?_
   refine GH_p (fuel:=2) [(3,0)] (fun w h=>h) kr rfl ?_
   refine GH_wi 34 (((sumN szf nm : Nat) : Int) - 0) (by omega) (by omega) kr ?_
   refine GH_p (fuel:=1) [(6,0)] (fun w h=>h) kr rfl ?_
   refine GH_wi 37 ((((sumN szf nm : Nat) : Int) - 0)+((n : Nat) : Int)) (by omega) (by omega) kr ?_
   refine GH_p (fuel:=0) [(11,0)] (fun w h=>h) kr rfl ?_
   refine GH_done (E':=[⟨0,[],pt d⟩,⟨1,[],.string path⟩,⟨2,[],.slice ao n cap⟩,⟨42,[],.bool (decide (((((sumN szf nm : Nat) : Int) - 0)+((n : Nat) : Int)) > room))⟩]) [0,1,2,42] kr kr ?_
   refine N_then ?_
   refine G_cond (b:=decide (((((sumN szf nm : Nat) : Int) - 0)+((n : Nat) : Int)) > room)) kr (fun hc4=>?_) (fun hc4=>?_)
   ·
    have hro := of_decide_eq_true hc4
    refine G_seq ?_
    refine G_pure (E':=[⟨6,[],.int .i64 61⟩]) [0] [6] rfl kr ?_
    refine N_then ?_
    refine G_ret ?_
    refine N_then_ret ?_
    refine N_ret [.tmp 6] [.int .i64 61] rfl kr rfl ?_
    exact .inr (.inl ⟨hce, by (simp only [hg]; exact hro), rfl, rfl⟩)
   ·
    have hro := of_decide_eq_false hc4
    refine G_skip ?_
    refine N_then ?_
    refine G_seq ?_
    refine G_region ?_
    refine GL_p [0] kr (j:=1) rfl ?_
    refine GL_call (i:=1) (ch:=[]) (f:=36) (fst:=#[]) (caps:=#[]) (vs:=[.slice ao n cap]) rfl rfl rfl kr kr Tryz.func36 rfl rfl kr kr (chSure_of kr) (vCloneO ao n cap S l hsh hrd hl1 hn1 _ _ (fun y o h=>(At.cons (At.cons (At.cons (At.cons (hS y o h))))))) ?_
    rintro v7 _ ⟨g5, hO6, rfl⟩
    obtain ⟨a8, cap9, rfl, hcap10, hrd11⟩ := hO6.shape
    refine GL_p [0] kr (j:=3) rfl ?_
    refine GL_box (i:=3) (ch:=[]) (v:=.agg #[.slice a8 n cap9,.slice none 0 0]) rfl rfl kr kr kr kr (fun b12=>?_)
    refine GL_fin (E':=[⟨0,[],pt d⟩,⟨1,[],.string path⟩,⟨10,[],pt b12⟩]) [0] [0,1,10] rfl kr ?_
    refine N_then ?_
    refine G_seq ?_
    refine G_region ?_
    refine GL_p [0,0,0,0] kr (j:=4) rfl ?_
    refine GL_load (i:=4) (ch:=[]) (b:=d) (off:=1) (v:=bv) rfl rfl kr kr kr kr kr (At.grp 2 0 rfl rfl) rfl ?_
    refine GL_p [0] kr (j:=6) rfl ?_
    refine GL_buildSlice (i:=6) (ch:=[]) (e:=74) (l:=[(0,pt b12)]) (c:=[pt b12]) rfl rfl kr kr kr kr kr (fun b13=>?_)
    refine GL_append (i:=7) (ch:=[]) (t:=70) (tx:=70) (e:=74) (inf:=Tryz.t74) (s:=bv) (x:=.slice (some ⟨b13,0,none⟩) 1 1) (n:=m) (m:=1) (j:=6) (cs:=ps) (news:=[pt b12]) (g:=bg) (S:=(inG [(b13,.cells #[pt b12] 74 (0,0))])) rfl rfl rfl rfl kr kr kr rfl rfl (.inl ⟨74,kr⟩) (fun ⟨_,h⟩=>by cases h) (fun _=>⟨74,kr⟩) kr kr kr rfl hO (SrcOf.slice _ _ _ _ Rd.lit (fun h=>by cases h)) (at_inG 0 rfl) kr (by intro u hu; rcases List.mem_singleton.1 hu with rfl; rfl) (by omega) (by show (m+1) * 8 ≤ 140737488355328; omega) (fun v14 g15 hO16=>?_)
    obtain ⟨a17, cap18, rfl, hcap19, hrd20⟩ := hO16.shape
    refine GL_p [0,0] kr (j:=10) rfl ?_
    refine GL_st (i:=10) (ch:=[]) (b:=d) (off:=1) (v:=.slice a17 (m+1) cap18) (j:=3) ([(b13,.cells #[pt b12] 74 (0,0))]::[(b12,.cells #[.slice a8 n cap9,.slice none 0 0] 76 (0,0))]::g5::[(d,.cells #[.int .i64 room,.slice a17 (m+1) cap18,.map (some nb),.map (some kb),.map (some cb),.bool ((callS fails once calls (rightB path)).2.1),.bool once,.int .i64 ((callS fails once calls (rightB path)).2.2)] 72 (0,0))]::[(nb,.map (encM nm) nc)]::[(cb,.map (encM cm) cc)]::g15::(rowsG rows++H)) rfl rfl kr kr kr kr kr kr kr rfl rfl (Nat.le_of_ble_eq_true rfl) (fun _ _=>thaw0) kr ?_
    refine GL_fin (E':=[⟨0,[],pt d⟩,⟨1,[],.string path⟩,⟨10,[],pt b12⟩]) [] [0,1,10] rfl kr ?_
    refine N_then ?_
    refine G_seq ?_
    refine G_region ?_
    refine GL_p [0,0] kr (j:=2) rfl ?_
    refine GL_callQ (i:=2) (ch:=[]) (f:=38) (fst:=#[]) (caps:=#[]) (vs:=[.string path]) (v:=.string (dirB path)) rfl rfl rfl kr kr Tryz.func38 rfl rfl kr kr kr (fun _=>vfsDirOf _ hpath _ _) ?_
    refine GL_makeMap (i:=3) (ch:=[]) rfl rfl kr kr kr (fun b21=>?_)
    refine GL_p [0,0] kr (j:=6) rfl ?_
    refine GL_mapPut (i:=6) (ch:=[]) (kt:=9) (et:=74) (r:=b21) (c:=0) (j:=0) (q:=0) (m:=[]) (k:=path) (v:=pt b12) (H':=([(b21,.map (encM ([(path,pt b12,0)])) 1)]::[(b13,.cells #[pt b12] 74 (0,0))]::[(b12,.cells #[.slice a8 n cap9,.slice none 0 0] 76 (0,0))]::g5::[(d,.cells #[.int .i64 room,.slice a17 (m+1) cap18,.map (some nb),.map (some kb),.map (some cb),.bool ((callS fails once calls (rightB path)).2.1),.bool once,.int .i64 ((callS fails once calls (rightB path)).2.2)] 72 (0,0))]::[(nb,.map (encM nm) nc)]::[(cb,.map (encM cm) cc)]::g15::(rowsG rows++H))) rfl (.inr rfl) kr kr kr kr kr kr kr kr rfl rfl rfl ?_
    refine GL_p [0] kr (j:=8) rfl ?_
    refine GL_heap rfl (H':=([(d,.cells #[.int .i64 room,.slice a17 (m+1) cap18,.map (some nb),.map (some kb),.map (some cb),.bool ((callS fails once calls (rightB path)).2.1),.bool once,.int .i64 ((callS fails once calls (rightB path)).2.2)] 72 (0,0))]::[(nb,.map (encM nm) nc)]::[(cb,.map (encM cm) cc)]::[(b21,.map (encM ([(path,pt b12,0)])) 1)]::[(b13,.cells #[pt b12] 74 (0,0))]::[(b12,.cells #[.slice a8 n cap9,.slice none 0 0] 76 (0,0))]::g5::g15::(rowsG rows++H))) (fun w h=>(((h.front (j:=6) rfl).front (j:=6) rfl).front (j:=6) rfl)) ?_
    refine GL_call (i:=8) (ch:=[]) (f:=37) (fst:=#[]) (caps:=#[]) (vs:=[pt d,.string (dirB path),.map (some b21)]) rfl rfl rfl kr kr Tryz.func37 rfl rfl kr kr (chSure_of kr) (vName d nb kb cb b21 nc cc 1 room ((callS fails once calls (rightB path)).2.2) (.slice a17 (m+1) cap18) ((callS fails once calls (rightB path)).2.1) once nm cm ([(path,pt b12,0)]) (dirB path) hn (mapok1 _ _) (hv1 _ _) rows hR hl [[(b21,.map (encM ([(path,pt b12,0)])) 1)],[(b13,.cells #[pt b12] 74 (0,0))],[(b12,.cells #[.slice a8 n cap9,.slice none 0 0] 76 (0,0))],g5,g15] _ H (At.grp 0 0 rfl rfl)) ?_
    rintro v H' ⟨dn22, x23, rows24, hdn25, rfl, hR26, hA27, rfl⟩
    refine GL_fin (E':=[]) [] [] rfl kr ?_
    refine N_then ?_
    refine G_seq ?_
    refine G_pure (E':=[⟨6,[],.int .i64 0⟩]) [0] [6] rfl kr ?_
    refine N_then ?_
    refine G_ret ?_
    refine N_heap (H':=([(d,.cells #[.int .i64 room,.slice a17 (m+1) cap18,.map (some nb),.map (some kb),.map (some cb),.bool ((callS fails once calls (rightB path)).2.1),.bool once,.int .i64 ((callS fails once calls (rightB path)).2.2)] 72 (0,0))]::[(nb,.map (encM ((foldS (nm,nc) dn22).1)) ((foldS (nm,nc) dn22).2))]::[(cb,.map (encM (mput cm cc (dirB path) x23)) (if mhas cm (dirB path) then cc else cc+1))]::[(b21,.map (encM ([(path,pt b12,0)])) 1)]::g15::[(b12,.cells #[.slice a8 n cap9,.slice none 0 0] 76 (0,0))]::g5::(rowsG rows24++H))) (fun w h=>((((((((h.front (j:=6) rfl).front (j:=6) rfl).front (j:=7) rfl).front (j:=6) rfl).front (j:=6) rfl).front (j:=6) rfl).front (j:=6) rfl).erase 7)) ?_
    refine N_ret [.tmp 6] [.int .i64 0] rfl kr rfl ?_
    have hdn1 := List.perm_singleton.1 hdn25
    subst hdn1
    exact .inr (.inr ⟨hce, by (simp only [hg]; exact hro), rfl, _, _, _, _, _, _, x23, rows24, g5, _, hO6, hO16, hR26, hA27, rfl⟩)
  ·
   have hw0 := hw _ hg
   refine GL_lookup (i:=5) (ch:=[]) (kt:=9) (et:=74) (r:=nb) (c:=nc) (m:=nm) (k:=path) (z:=.pointer none) (ov:=(some (pt p0))) rfl rfl kr kr kr kr kr kr kr kr (At.grp 1 0 rfl rfl) (fun _=>hg) ?_
   refine GL_fin (E':=[⟨0,[],pt d⟩,⟨1,[],.string path⟩,⟨2,[],.slice ao n cap⟩,⟨8,[],.int .i64 0⟩,⟨9,[],pt p0⟩]) [0] [0,1,2,8,9] rfl kr ?_
   refine N_then ?_
   refine G_seq ?_
   refine G_pure (E':=[⟨0,[],pt d⟩,⟨1,[],.string path⟩,⟨2,[],.slice ao n cap⟩,⟨8,[],.int .i64 0⟩,⟨9,[],pt p0⟩,⟨25,[],.bool true⟩]) [0,0] [0,1,2,8,9,25] rfl kr ?_
   refine N_then ?_
   refine G_condt kr ?_
   refine G_region ?_
   refine GL_p [0,0,0] kr (j:=3) rfl ?_
   refine GL_load (i:=3) (ch:=[]) (b:=p0) (off:=0) (v:=.slice a0 (szf (.pointer (some ⟨p0,0,none⟩))) c0) rfl rfl kr kr kr kr kr (At.cons (At.cons (At.cons (At.cons hat0)))) rfl ?_
   refine GL_fin (E':=[⟨0,[],pt d⟩,⟨1,[],.string path⟩,⟨2,[],.slice ao n cap⟩,⟨8,[],.int .i64 (((szf (.pointer (some ⟨p0,0,none⟩))) : Nat) : Int)⟩]) [0,0] [0,1,2,8] rfl kr ?_
   refine N_then ?_
   refine G_seq ?_
   refine G_seq ?_
   refine G_regionH ([(d,.cells #[.int .i64 room,bv,.map (some nb),.map (some kb),.map (some cb),.bool ((callS fails once calls (rightB path)).2.1),.bool once,.int .i64 ((callS fails once calls (rightB path)).2.2)] 72 (0,0))]::[(nb,.map (encM nm) nc)]::[(cb,.map (encM cm) cc)]::bg::(rowsG rows++H)) kr ?_
   refine GH_p (fuel:=9) [(0,0),(2,0),(4,0)] (fun w h=>h) kr rfl ?_
   refine GH_pev (v:=.int .i64 ((n : Nat) : Int)) 5 rfl rfl kr kr kr kr kr (fun w h=>h) ?_
   refine GH_p (fuel:=7) [(7,0)] (fun w h=>h) kr rfl ?_
   refine GH_nil (ad:=⟨d,0,none⟩) 8 rfl rfl rfl kr kr kr kr kr (fun w h=>h) ?_
   refine GH_p (fuel:=5) [(9,0)] (fun w h=>h) kr rfl ?_
   refine GH_take' 10 kr (fun w h=>h) (GL_load (i:=10) (ch:=[]) (b:=d) (off:=0) (v:=.int .i64 room) rfl rfl kr kr kr kr kr (At.grp 0 0 rfl rfl) rfl (GL_yend kr rfl)) ?_
   refine GH_eff 1 kr kr kr ?_
   refine GL_call (i:=1) (ch:=[]) (f:=35) (fst:=#[]) (caps:=#[]) (vs:=[pt d]) rfl rfl rfl kr kr Tryz.func35 rfl rfl kr kr (chSure_of kr) (vUsed d nb kb cb nc room ((callS fails once calls (rightB path)).2.2) bv ((callS fails once calls (rightB path)).2.1) once nm szf hn hs _ _ (fun e he=>let ⟨p,a,c,kv,h1,h2⟩:=hB e he; ⟨p,a,c,kv,h1,(At.cons (At.cons h2))⟩)) ?_
   rintro v H' ⟨rfl, rfl⟩
   refine GH_back kr (fun w h=>h) ?_
   refine GH_p (fuel:=2) [(3,0)] (fun w h=>h) kr rfl ?_
   refine GH_wi 34 (((sumN szf nm : Nat) : Int) - (((szf (.pointer (some ⟨p0,0,none⟩))) : Nat) : Int)) (by omega) (by omega) kr ?_
   refine GH_p (fuel:=1) [(6,0)] (fun w h=>h) kr rfl ?_
   refine GH_wi 37 ((((sumN szf nm : Nat) : Int) - (((szf (.pointer (some ⟨p0,0,none⟩))) : Nat) : Int))+((n : Nat) : Int)) (by omega) (by omega) kr ?_
   refine GH_p (fuel:=0) [(11,0)] (fun w h=>h) kr rfl ?_
   refine GH_done (E':=[⟨0,[],pt d⟩,⟨1,[],.string path⟩,⟨2,[],.slice ao n cap⟩,⟨42,[],.bool (decide (((((sumN szf nm : Nat) : Int) - (((szf (.pointer (some ⟨p0,0,none⟩))) : Nat) : Int))+((n : Nat) : Int)) > room))⟩]) [0,1,2,42] kr kr ?_
   refine N_then ?_
   refine G_cond (b:=decide (((((sumN szf nm : Nat) : Int) - (((szf (.pointer (some ⟨p0,0,none⟩))) : Nat) : Int))+((n : Nat) : Int)) > room)) kr (fun hc30=>?_) (fun hc30=>?_)
   ·
    have hro := of_decide_eq_true hc30
    refine G_seq ?_
    refine G_pure (E':=[⟨6,[],.int .i64 61⟩]) [0] [6] rfl kr ?_
    refine N_then ?_
    refine G_ret ?_
    refine N_then_ret ?_
    refine N_ret [.tmp 6] [.int .i64 61] rfl kr rfl ?_
    exact .inr (.inl ⟨hce, by (simp only [hg]; exact hro), rfl, rfl⟩)
   ·
    have hro := of_decide_eq_false hc30
    refine G_skip ?_
    refine N_then ?_
    refine G_seq ?_
    refine G_region ?_
    refine GL_p [0] kr (j:=1) rfl ?_
    refine GL_call (i:=1) (ch:=[]) (f:=36) (fst:=#[]) (caps:=#[]) (vs:=[.slice ao n cap]) rfl rfl rfl kr kr Tryz.func36 rfl rfl kr kr (chSure_of kr) (vCloneO ao n cap S l hsh hrd hl1 hn1 _ _ (fun y o h=>(At.cons (At.cons (At.cons (At.cons (hS y o h))))))) ?_
    rintro v33 _ ⟨g31, hO32, rfl⟩
    obtain ⟨a34, cap35, rfl, hcap36, hrd37⟩ := hO32.shape
    refine GL_p [0] kr (j:=3) rfl ?_
    refine GL_box (i:=3) (ch:=[]) (v:=.agg #[.slice a34 n cap35,.slice none 0 0]) rfl rfl kr kr kr kr (fun b38=>?_)
    refine GL_fin (E':=[⟨0,[],pt d⟩,⟨1,[],.string path⟩,⟨10,[],pt b38⟩]) [0] [0,1,10] rfl kr ?_
    refine N_then ?_
    refine G_seq ?_
    refine G_region ?_
    refine GL_p [0,0,0,0] kr (j:=4) rfl ?_
    refine GL_load (i:=4) (ch:=[]) (b:=d) (off:=1) (v:=bv) rfl rfl kr kr kr kr kr (At.grp 2 0 rfl rfl) rfl ?_
    refine GL_p [0] kr (j:=6) rfl ?_
    refine GL_buildSlice (i:=6) (ch:=[]) (e:=74) (l:=[(0,pt b38)]) (c:=[pt b38]) rfl rfl kr kr kr kr kr (fun b39=>?_)
    refine GL_append (i:=7) (ch:=[]) (t:=70) (tx:=70) (e:=74) (inf:=Tryz.t74) (s:=bv) (x:=.slice (some ⟨b39,0,none⟩) 1 1) (n:=m) (m:=1) (j:=6) (cs:=ps) (news:=[pt b38]) (g:=bg) (S:=(inG [(b39,.cells #[pt b38] 74 (0,0))])) rfl rfl rfl rfl kr kr kr rfl rfl (.inl ⟨74,kr⟩) (fun ⟨_,h⟩=>by cases h) (fun _=>⟨74,kr⟩) kr kr kr rfl hO (SrcOf.slice _ _ _ _ Rd.lit (fun h=>by cases h)) (at_inG 0 rfl) kr (by intro u hu; rcases List.mem_singleton.1 hu with rfl; rfl) (by omega) (by show (m+1) * 8 ≤ 140737488355328; omega) (fun v40 g41 hO42=>?_)
    obtain ⟨a43, cap44, rfl, hcap45, hrd46⟩ := hO42.shape
    refine GL_p [0,0] kr (j:=10) rfl ?_
    refine GL_st (i:=10) (ch:=[]) (b:=d) (off:=1) (v:=.slice a43 (m+1) cap44) (j:=3) ([(b39,.cells #[pt b38] 74 (0,0))]::[(b38,.cells #[.slice a34 n cap35,.slice none 0 0] 76 (0,0))]::g31::[(d,.cells #[.int .i64 room,.slice a43 (m+1) cap44,.map (some nb),.map (some kb),.map (some cb),.bool ((callS fails once calls (rightB path)).2.1),.bool once,.int .i64 ((callS fails once calls (rightB path)).2.2)] 72 (0,0))]::[(nb,.map (encM nm) nc)]::[(cb,.map (encM cm) cc)]::g41::(rowsG rows++H)) rfl rfl kr kr kr kr kr kr kr rfl rfl (Nat.le_of_ble_eq_true rfl) (fun _ _=>thaw0) kr ?_
    refine GL_fin (E':=[⟨0,[],pt d⟩,⟨1,[],.string path⟩,⟨10,[],pt b38⟩]) [] [0,1,10] rfl kr ?_
    refine N_then ?_
    refine G_seq ?_
    refine G_region ?_
    refine GL_p [0,0] kr (j:=2) rfl ?_
    refine GL_callQ (i:=2) (ch:=[]) (f:=38) (fst:=#[]) (caps:=#[]) (vs:=[.string path]) (v:=.string (dirB path)) rfl rfl rfl kr kr Tryz.func38 rfl rfl kr kr kr (fun _=>vfsDirOf _ hpath _ _) ?_
    refine GL_makeMap (i:=3) (ch:=[]) rfl rfl kr kr kr (fun b47=>?_)
    refine GL_p [0,0] kr (j:=6) rfl ?_
    refine GL_mapPut (i:=6) (ch:=[]) (kt:=9) (et:=74) (r:=b47) (c:=0) (j:=0) (q:=0) (m:=[]) (k:=path) (v:=pt b38) (H':=([(b47,.map (encM ([(path,pt b38,0)])) 1)]::[(b39,.cells #[pt b38] 74 (0,0))]::[(b38,.cells #[.slice a34 n cap35,.slice none 0 0] 76 (0,0))]::g31::[(d,.cells #[.int .i64 room,.slice a43 (m+1) cap44,.map (some nb),.map (some kb),.map (some cb),.bool ((callS fails once calls (rightB path)).2.1),.bool once,.int .i64 ((callS fails once calls (rightB path)).2.2)] 72 (0,0))]::[(nb,.map (encM nm) nc)]::[(cb,.map (encM cm) cc)]::g41::(rowsG rows++H))) rfl (.inr rfl) kr kr kr kr kr kr kr kr rfl rfl rfl ?_
    refine GL_p [0] kr (j:=8) rfl ?_
    refine GL_heap rfl (H':=([(d,.cells #[.int .i64 room,.slice a43 (m+1) cap44,.map (some nb),.map (some kb),.map (some cb),.bool ((callS fails once calls (rightB path)).2.1),.bool once,.int .i64 ((callS fails once calls (rightB path)).2.2)] 72 (0,0))]::[(nb,.map (encM nm) nc)]::[(cb,.map (encM cm) cc)]::[(b47,.map (encM ([(path,pt b38,0)])) 1)]::[(b39,.cells #[pt b38] 74 (0,0))]::[(b38,.cells #[.slice a34 n cap35,.slice none 0 0] 76 (0,0))]::g31::g41::(rowsG rows++H))) (fun w h=>(((h.front (j:=6) rfl).front (j:=6) rfl).front (j:=6) rfl)) ?_
    refine GL_call (i:=8) (ch:=[]) (f:=37) (fst:=#[]) (caps:=#[]) (vs:=[pt d,.string (dirB path),.map (some b47)]) rfl rfl rfl kr kr Tryz.func37 rfl rfl kr kr (chSure_of kr) (vName d nb kb cb b47 nc cc 1 room ((callS fails once calls (rightB path)).2.2) (.slice a43 (m+1) cap44) ((callS fails once calls (rightB path)).2.1) once nm cm ([(path,pt b38,0)]) (dirB path) hn (mapok1 _ _) (hv1 _ _) rows hR hl [[(b47,.map (encM ([(path,pt b38,0)])) 1)],[(b39,.cells #[pt b38] 74 (0,0))],[(b38,.cells #[.slice a34 n cap35,.slice none 0 0] 76 (0,0))],g31,g41] _ H (At.grp 0 0 rfl rfl)) ?_
    rintro v H' ⟨dn48, x49, rows50, hdn51, rfl, hR52, hA53, rfl⟩
    refine GL_fin (E':=[]) [] [] rfl kr ?_
    refine N_then ?_
    refine G_seq ?_
    refine G_pure (E':=[⟨6,[],.int .i64 0⟩]) [0] [6] rfl kr ?_
    refine N_then ?_
    refine G_ret ?_
    refine N_heap (H':=([(d,.cells #[.int .i64 room,.slice a43 (m+1) cap44,.map (some nb),.map (some kb),.map (some cb),.bool ((callS fails once calls (rightB path)).2.1),.bool once,.int .i64 ((callS fails once calls (rightB path)).2.2)] 72 (0,0))]::[(nb,.map (encM ((foldS (nm,nc) dn48).1)) ((foldS (nm,nc) dn48).2))]::[(cb,.map (encM (mput cm cc (dirB path) x49)) (if mhas cm (dirB path) then cc else cc+1))]::[(b47,.map (encM ([(path,pt b38,0)])) 1)]::g41::[(b38,.cells #[.slice a34 n cap35,.slice none 0 0] 76 (0,0))]::g31::(rowsG rows50++H))) (fun w h=>((((((((h.front (j:=6) rfl).front (j:=6) rfl).front (j:=7) rfl).front (j:=6) rfl).front (j:=6) rfl).front (j:=6) rfl).front (j:=6) rfl).erase 7)) ?_
    refine N_ret [.tmp 6] [.int .i64 0] rfl kr rfl ?_
    have hdn1 := List.perm_singleton.1 hdn51
    subst hdn1
    exact .inr (.inr ⟨hce, by (simp only [hg]; exact hro), rfl, _, _, _, _, _, _, x49, rows50, g31, _, hO32, hO42, hR52, hA53, rfl⟩)
end Go.Proofs.YtlaoeiaaeifidaaGreat
namespace Go.Proofs.YtlaoeiaaeifidaaGreat
open Go.Sw Go.Lib Go.Vf Go.RowKit
def RenC (path to : ByteArray) (p : Nat) (m : SM) (c : Nat) : Prop :=
  (m = mput [(to, .pointer (some ⟨p, 0, none⟩), 0)] 1 path (.pointer none) ∧ c = if mhas [(to, .pointer (some ⟨p, 0, none⟩), 0)] path then 1 else 1 + 1) ∨
  (m = mput [(path, .pointer none, 0)] 1 to (.pointer (some ⟨p, 0, none⟩)) ∧ c = if mhas [(path, .pointer none, 0)] to then 1 else 1 + 1)
theorem hvput {m : SM} {c : Nat} {k : ByteArray} {v : Value} {Q : Value → Prop} (h : ∀ e ∈ m, Q e.2.1) (hv : Q v) : ∀ e ∈ mput m c k v, Q e.2.1 := by
  induction m with
  | nil => intro e he; rw [mput, List.mem_singleton] at he; subst he; exact hv
  | cons x m ih =>
    intro e he
    rw [mput] at he
    split at he
    · rcases List.mem_cons.1 he with rfl | he
      · exact hv
      · exact h e (List.mem_cons_of_mem _ he)
    · rcases List.mem_cons.1 he with rfl | he
      · exact h _ List.mem_cons_self
      · exact ih (fun y hy => h y (List.mem_cons_of_mem _ hy)) e he
theorem vRenameNo (d nb kb cb nc cc : Nat) (room calls : Int) (bv : Value) (fails once : Bool) (nm cm : SM) (path to : ByteArray) (hpath : path.size ≤ 9223372036854775807) (hto : to.size ≤ 9223372036854775807) (hca : -9223372036854775808 ≤ calls ∧ calls ≤ 9223372036854775807) (hn : MapOk nm nc) (rows : List RW) (hR : RowsOk cm rows) (hl : ∀ r ∈ rows, r.qs.length ≤ 1000000) (hg : mget nm path = none) (W0 : World) (H : List Grp) : Tri Tryz.prog 56 #[pt d, .string path, .string to] W0 ([(d, .cells #[.int .i64 room, bv, .map (some nb), .map (some kb), .map (some cb), .bool fails, .bool once, .int .i64 calls] 72 (0, 0))] :: [(nb, .map (encM nm) nc)] :: [(cb, .map (encM cm) cc)] :: (rowsG rows ++ H)) (fun v H' => ((callS fails once calls ((rightB path && rightB to) && ((dirB path).toList == (dirB to).toList))).1 ≠ 0 ∧ v = .int .i64 (callS fails once calls ((rightB path && rightB to) && ((dirB path).toList == (dirB to).toList))).1 ∧ H' = ([(d, .cells #[.int .i64 room, bv, .map (some nb), .map (some kb), .map (some cb), .bool ((callS fails once calls ((rightB path && rightB to) && ((dirB path).toList == (dirB to).toList))).2.1), .bool once, .int .i64 ((callS fails once calls ((rightB path && rightB to) && ((dirB path).toList == (dirB to).toList))).2.2)] 72 (0, 0))] :: [(nb, .map (encM nm) nc)] :: [(cb, .map (encM cm) cc)] :: (rowsG rows ++ H))) ∨ ((callS fails once calls ((rightB path && rightB to) && ((dirB path).toList == (dirB to).toList))).1 = 0 ∧ v = .int .i64 60 ∧ H' = ([(d, .cells #[.int .i64 room, bv, .map (some nb), .map (some kb), .map (some cb), .bool ((callS fails once calls ((rightB path && rightB to) && ((dirB path).toList == (dirB to).toList))).2.1), .bool once, .int .i64 ((callS fails once calls ((rightB path && rightB to) && ((dirB path).toList == (dirB to).toList))).2.2)] 72 (0, 0))] :: [(nb, .map (encM nm) nc)] :: [(cb, .map (encM cm) cc)] :: (rowsG rows ++ H)))) := by
 refine Tri_of (args := [pt d, .string path, .string to]) (n := 47) Tryz.func56 rfl rfl (Nat.le_of_ble_eq_true rfl) ?_
 refine G_seq ?_
 refine G_pure (E':=[⟨0,[],pt d⟩,⟨1,[],.string path⟩,⟨2,[],.string to⟩]) [0] [0,1,2] rfl kr ?_
 refine N_then ?_
 refine G_seq ?_
 refine G_seq ?_
 refine G_region ?_
 refine GL_p [0,0] kr (j:=2) rfl ?_
 refine GL_callQ (i:=2) (ch:=[]) (f:=34) (fst:=#[]) (caps:=#[]) (vs:=[.string path]) (v:=.bool (rightB path)) rfl rfl rfl kr kr Tryz.func34 rfl rfl kr kr kr (fun _=>vfsRight _ hpath _ _) ?_
 refine GL_p [0,0] kr (j:=5) rfl ?_
 refine GL_callQ (i:=5) (ch:=[(12,true)]) (f:=34) (fst:=#[]) (caps:=#[]) (vs:=[.string to]) (v:=.bool (rightB to)) rfl rfl rfl kr kr Tryz.func34 rfl rfl kr kr kr (fun hc=>vfsRight _ hto _ _) ?_
 refine GL_p [6,0,0] kr (j:=9) rfl ?_
 refine GL_callQ (i:=9) (ch:=[(16,true)]) (f:=38) (fst:=#[]) (caps:=#[]) (vs:=[.string path]) (v:=.string (dirB path)) rfl rfl rfl kr kr Tryz.func38 rfl rfl kr kr kr (fun hc=>vfsDirOf _ hpath _ _) ?_
 refine GL_p [0] kr (j:=11) rfl ?_
 refine GL_callQ (i:=11) (ch:=[(16,true)]) (f:=38) (fst:=#[]) (caps:=#[]) (vs:=[.string to]) (v:=.string (dirB to)) rfl rfl rfl kr kr Tryz.func38 rfl rfl kr kr kr (fun hc=>vfsDirOf _ hto _ _) ?_
 refine GL_p [0,6] kr (j:=14) rfl ?_
 refine GL_call (i:=14) (ch:=[]) (f:=33) (fst:=#[]) (caps:=#[]) (vs:=[pt d,.bool (((rightB path)&&(rightB to))&&((dirB path).toList == (dirB to).toList))]) rfl rfl rfl kr kr Tryz.func33 rfl rfl kr kr (chSure_of kr) (vCall d nb kb cb room calls bv fails once (((rightB path)&&(rightB to))&&((dirB path).toList == (dirB to).toList)) hca _ _) ?_
 rintro v H' ⟨rfl, rfl⟩
 refine GL_fin (E':=[⟨0,[],pt d⟩,⟨1,[],.string path⟩,⟨2,[],.string to⟩,⟨7,[],.int .i64 ((callS fails once calls (((rightB path)&&(rightB to))&&((dirB path).toList == (dirB to).toList))).1)⟩]) [0] [0,1,2,7] rfl kr ?_
 refine N_then ?_
 refine G_seq ?_
 refine G_pure (E':=[⟨0,[],pt d⟩,⟨1,[],.string path⟩,⟨2,[],.string to⟩,⟨7,[],.int .i64 ((callS fails once calls (((rightB path)&&(rightB to))&&((dirB path).toList == (dirB to).toList))).1)⟩,⟨25,[],.bool (((callS fails once calls (((rightB path)&&(rightB to))&&((dirB path).toList == (dirB to).toList))).1) != 0)⟩]) [0,0] [0,1,2,7,25] rfl kr ?_
 refine N_then ?_
 refine G_cond (b:=((callS fails once calls (((rightB path)&&(rightB to))&&((dirB path).toList == (dirB to).toList))).1) != 0) kr (fun hc1=>?_) (fun hc1=>?_)
 ·
  have hce : (callS fails once calls ((rightB path && rightB to) && ((dirB path).toList == (dirB to).toList))).1 ≠ 0 := by simpa using hc1
  refine G_seq ?_
  refine G_pure (E':=[⟨6,[],.int .i64 ((callS fails once calls (((rightB path)&&(rightB to))&&((dirB path).toList == (dirB to).toList))).1)⟩]) [0,0] [6] rfl kr ?_
  refine N_then ?_
  refine G_ret ?_
  refine N_then_ret ?_
  refine N_ret [.tmp 6] [.int .i64 ((callS fails once calls (((rightB path)&&(rightB to))&&((dirB path).toList == (dirB to).toList))).1)] rfl kr rfl ?_
  exact .inl ⟨hce, rfl, rfl⟩
 ·
  have hce : (callS fails once calls ((rightB path && rightB to) && ((dirB path).toList == (dirB to).toList))).1 = 0 := by simpa using hc1
  refine G_skip ?_
  refine N_then ?_
  refine G_seq ?_
  refine G_region ?_
  refine GL_p [0,0,0] kr (j:=3) rfl ?_
  refine GL_load (i:=3) (ch:=[]) (b:=d) (off:=2) (v:=.map (some nb)) rfl rfl kr kr kr kr kr (At.grp 0 0 rfl rfl) rfl ?_
  refine GL_p [0] kr (j:=5) rfl ?_
  refine GL_lookup (i:=5) (ch:=[]) (kt:=9) (et:=74) (r:=nb) (c:=nc) (m:=nm) (k:=path) (z:=.pointer none) (ov:=none) rfl rfl kr kr kr kr kr kr kr kr (At.grp 1 0 rfl rfl) (fun _=>hg) ?_
  refine GL_fin (E':=[⟨0,[],pt d⟩,⟨1,[],.string path⟩,⟨2,[],.string to⟩,⟨8,[],.pointer none⟩]) [0] [0,1,2,8] rfl kr ?_
  refine N_then ?_
  refine G_seq ?_
  refine G_seq ?_
  refine G_pure (E':=[⟨0,[],pt d⟩,⟨1,[],.string path⟩,⟨2,[],.string to⟩,⟨8,[],.pointer none⟩,⟨34,[],.bool true⟩]) [0,0] [0,1,2,8,34] rfl kr ?_
  refine N_then ?_
  refine G_condt kr ?_
  refine G_seq ?_
  refine G_pure (E':=[⟨6,[],.int .i64 60⟩]) [0] [6] rfl kr ?_
  refine N_then ?_
  refine G_ret ?_
  refine N_then_ret ?_
  refine N_ret [.tmp 6] [.int .i64 60] rfl kr rfl ?_
  exact .inr ⟨hce, rfl, rfl⟩
theorem vRename (d nb kb cb nc cc : Nat) (room calls : Int) (bv : Value) (fails once : Bool) (nm cm : SM) (path to : ByteArray) (hpath : path.size ≤ 9223372036854775807) (hto : to.size ≤ 9223372036854775807) (hca : -9223372036854775808 ≤ calls ∧ calls ≤ 9223372036854775807) (hn : MapOk nm nc) (rows : List RW) (hR : RowsOk cm rows) (hl : ∀ r ∈ rows, r.qs.length ≤ 1000000) (p : Nat) (hg : mget nm path = some (.pointer (some ⟨p, 0, none⟩))) (W0 : World) (H : List Grp) : Tri Tryz.prog 56 #[pt d, .string path, .string to] W0 ([(d, .cells #[.int .i64 room, bv, .map (some nb), .map (some kb), .map (some cb), .bool fails, .bool once, .int .i64 calls] 72 (0, 0))] :: [(nb, .map (encM nm) nc)] :: [(cb, .map (encM cm) cc)] :: (rowsG rows ++ H)) (fun v H' => ((callS fails once calls ((rightB path && rightB to) && ((dirB path).toList == (dirB to).toList))).1 ≠ 0 ∧ v = .int .i64 (callS fails once calls ((rightB path && rightB to) && ((dirB path).toList == (dirB to).toList))).1 ∧ H' = ([(d, .cells #[.int .i64 room, bv, .map (some nb), .map (some kb), .map (some cb), .bool ((callS fails once calls ((rightB path && rightB to) && ((dirB path).toList == (dirB to).toList))).2.1), .bool once, .int .i64 ((callS fails once calls ((rightB path && rightB to) && ((dirB path).toList == (dirB to).toList))).2.2)] 72 (0, 0))] :: [(nb, .map (encM nm) nc)] :: [(cb, .map (encM cm) cc)] :: (rowsG rows ++ H))) ∨ ((callS fails once calls ((rightB path && rightB to) && ((dirB path).toList == (dirB to).toList))).1 = 0 ∧ (((!(path.toList == to.toList)) = false ∧ v = .int .i64 0 ∧ H' = ([(d, .cells #[.int .i64 room, bv, .map (some nb), .map (some kb), .map (some cb), .bool ((callS fails once calls ((rightB path && rightB to) && ((dirB path).toList == (dirB to).toList))).2.1), .bool once, .int .i64 ((callS fails once calls ((rightB path && rightB to) && ((dirB path).toList == (dirB to).toList))).2.2)] 72 (0, 0))] :: [(nb, .map (encM nm) nc)] :: [(cb, .map (encM cm) cc)] :: (rowsG rows ++ H))) ∨ ((!(path.toList == to.toList)) = true ∧ v = .int .i64 0 ∧ ∃ dn xm xc q x rows1, RenC path to p xm xc ∧ dn.Perm xm ∧ RowsOk (mput cm cc (dirB to) x) rows1 ∧ RowsAdd rows (dirB to) q rows1 ∧ H' = ([(d, .cells #[.int .i64 room, bv, .map (some nb), .map (some kb), .map (some cb), .bool ((callS fails once calls ((rightB path && rightB to) && ((dirB path).toList == (dirB to).toList))).2.1), .bool once, .int .i64 ((callS fails once calls ((rightB path && rightB to) && ((dirB path).toList == (dirB to).toList))).2.2)] 72 (0, 0))]  :: [(nb, .map (encM (foldS (nm, nc) dn).1) (foldS (nm, nc) dn).2)] :: [(cb, .map (encM (mput cm cc (dirB to) x)) (if mhas cm (dirB to) then cc else cc + 1))] :: [(q, .map (encM xm) xc)] :: (rowsG rows1 ++ H)))))) := by
 refine Tri_of (args := [pt d, .string path, .string to]) (n := 47) Tryz.func56 rfl rfl (Nat.le_of_ble_eq_true rfl) ?_
 refine G_seq ?_
 refine G_pure (E':=[⟨0,[],pt d⟩,⟨1,[],.string path⟩,⟨2,[],.string to⟩]) [0] [0,1,2] rfl kr ?_
 refine N_then ?_
 refine G_seq ?_
 refine G_seq ?_
 refine G_region ?_
 refine GL_p [0,0] kr (j:=2) rfl ?_
 refine GL_callQ (i:=2) (ch:=[]) (f:=34) (fst:=#[]) (caps:=#[]) (vs:=[.string path]) (v:=.bool (rightB path)) rfl rfl rfl kr kr Tryz.func34 rfl rfl kr kr kr (fun _=>vfsRight _ hpath _ _) ?_
 refine GL_p [0,0] kr (j:=5) rfl ?_
 refine GL_callQ (i:=5) (ch:=[(12,true)]) (f:=34) (fst:=#[]) (caps:=#[]) (vs:=[.string to]) (v:=.bool (rightB to)) rfl rfl rfl kr kr Tryz.func34 rfl rfl kr kr kr (fun hc=>vfsRight _ hto _ _) ?_
 refine GL_p [6,0,0] kr (j:=9) rfl ?_
 refine GL_callQ (i:=9) (ch:=[(16,true)]) (f:=38) (fst:=#[]) (caps:=#[]) (vs:=[.string path]) (v:=.string (dirB path)) rfl rfl rfl kr kr Tryz.func38 rfl rfl kr kr kr (fun hc=>vfsDirOf _ hpath _ _) ?_
 refine GL_p [0] kr (j:=11) rfl ?_
 refine GL_callQ (i:=11) (ch:=[(16,true)]) (f:=38) (fst:=#[]) (caps:=#[]) (vs:=[.string to]) (v:=.string (dirB to)) rfl rfl rfl kr kr Tryz.func38 rfl rfl kr kr kr (fun hc=>vfsDirOf _ hto _ _) ?_
 refine GL_p [0,6] kr (j:=14) rfl ?_
 refine GL_call (i:=14) (ch:=[]) (f:=33) (fst:=#[]) (caps:=#[]) (vs:=[pt d,.bool (((rightB path)&&(rightB to))&&((dirB path).toList == (dirB to).toList))]) rfl rfl rfl kr kr Tryz.func33 rfl rfl kr kr (chSure_of kr) (vCall d nb kb cb room calls bv fails once (((rightB path)&&(rightB to))&&((dirB path).toList == (dirB to).toList)) hca _ _) ?_
 rintro v H' ⟨rfl, rfl⟩
 refine GL_fin (E':=[⟨0,[],pt d⟩,⟨1,[],.string path⟩,⟨2,[],.string to⟩,⟨7,[],.int .i64 ((callS fails once calls (((rightB path)&&(rightB to))&&((dirB path).toList == (dirB to).toList))).1)⟩]) [0] [0,1,2,7] rfl kr ?_
 refine N_then ?_
 refine G_seq ?_
 refine G_pure (E':=[⟨0,[],pt d⟩,⟨1,[],.string path⟩,⟨2,[],.string to⟩,⟨7,[],.int .i64 ((callS fails once calls (((rightB path)&&(rightB to))&&((dirB path).toList == (dirB to).toList))).1)⟩,⟨25,[],.bool (((callS fails once calls (((rightB path)&&(rightB to))&&((dirB path).toList == (dirB to).toList))).1) != 0)⟩]) [0,0] [0,1,2,7,25] rfl kr ?_
 refine N_then ?_
 refine G_cond (b:=((callS fails once calls (((rightB path)&&(rightB to))&&((dirB path).toList == (dirB to).toList))).1) != 0) kr (fun hc1=>?_) (fun hc1=>?_)
 ·
  have hce : (callS fails once calls ((rightB path && rightB to) && ((dirB path).toList == (dirB to).toList))).1 ≠ 0 := by simpa using hc1
  refine G_seq ?_
  refine G_pure (E':=[⟨6,[],.int .i64 ((callS fails once calls (((rightB path)&&(rightB to))&&((dirB path).toList == (dirB to).toList))).1)⟩]) [0,0] [6] rfl kr ?_
  refine N_then ?_
  refine G_ret ?_
  refine N_then_ret ?_
  refine N_ret [.tmp 6] [.int .i64 ((callS fails once calls (((rightB path)&&(rightB to))&&((dirB path).toList == (dirB to).toList))).1)] rfl kr rfl ?_
  exact .inl ⟨hce, rfl, rfl⟩
 ·
  have hce : (callS fails once calls ((rightB path && rightB to) && ((dirB path).toList == (dirB to).toList))).1 = 0 := by simpa using hc1
  refine G_skip ?_
  refine N_then ?_
  refine G_seq ?_
  refine G_region ?_
  refine GL_p [0,0,0] kr (j:=3) rfl ?_
  refine GL_load (i:=3) (ch:=[]) (b:=d) (off:=2) (v:=.map (some nb)) rfl rfl kr kr kr kr kr (At.grp 0 0 rfl rfl) rfl ?_
  refine GL_p [0] kr (j:=5) rfl ?_
  refine GL_lookup (i:=5) (ch:=[]) (kt:=9) (et:=74) (r:=nb) (c:=nc) (m:=nm) (k:=path) (z:=.pointer none) (ov:=(some (pt p))) rfl rfl kr kr kr kr kr kr kr kr (At.grp 1 0 rfl rfl) (fun _=>hg) ?_
  refine GL_fin (E':=[⟨0,[],pt d⟩,⟨1,[],.string path⟩,⟨2,[],.string to⟩,⟨8,[],pt p⟩]) [0] [0,1,2,8] rfl kr ?_
  refine N_then ?_
  refine G_seq ?_
  refine G_seq ?_
  refine G_pure (E':=[⟨0,[],pt d⟩,⟨1,[],.string path⟩,⟨2,[],.string to⟩,⟨8,[],pt p⟩,⟨34,[],.bool false⟩]) [0,0] [0,1,2,8,34] rfl kr ?_
  refine N_then ?_
  refine G_condf kr ?_
  refine G_skip ?_
  refine N_then ?_
  refine G_seq ?_
  refine G_seq ?_
  refine G_pure (E':=[⟨0,[],pt d⟩,⟨1,[],.string path⟩,⟨2,[],.string to⟩,⟨8,[],pt p⟩,⟨37,[],.bool (!(path.toList == to.toList))⟩]) [0,0,0] [0,1,2,8,37] rfl kr ?_
  refine N_then ?_
  refine G_cond (b:=!(path.toList == to.toList)) kr (fun hc2=>?_) (fun hc2=>?_)
  ·
   have hsm := hc2
   refine G_regionH H kr ?_
   refine GH_p (fuel:=6) [(0,0),(1,0),(4,0),(5,0),(7,0)] (fun w h=>(Sat.dropApp (((h.erase 2).erase 1).erase 0))) kr rfl ?_
   refine GH_eff2 2 3 kr kr kr kr kr ?_ ?_
   ·
    refine GL_callQ (i:=2) (ch:=[]) (f:=38) (fst:=#[]) (caps:=#[]) (vs:=[.string to]) (v:=.string (dirB to)) rfl rfl rfl kr kr Tryz.func38 rfl rfl kr kr kr (fun _=>vfsDirOf _ hto _ _) ?_
    refine GH_back kr (fun w h=>(Sat.dropApp (((h.erase 2).erase 1).erase 0))) ?_
    refine GH_eff 3 kr kr kr ?_
    refine GL_makeMap (i:=3) (ch:=[]) rfl rfl kr kr kr (fun b3=>?_)
    refine GH_back kr (fun w h=>(Sat.dropApp ((((h.erase 3).erase 2).erase 1).erase 0))) ?_
    refine GH_eff2 6 8 kr kr kr kr kr ?_ ?_
    ·
     refine GL_mapPut (i:=6) (ch:=[]) (kt:=9) (et:=74) (r:=b3) (c:=0) (j:=0) (q:=0) (m:=[]) (k:=to) (v:=pt p) (H':=([(b3,.map (encM ([(to,pt p,0)])) 1)]::[(d,.cells #[.int .i64 room,bv,.map (some nb),.map (some kb),.map (some cb),.bool ((callS fails once calls (((rightB path)&&(rightB to))&&((dirB path).toList == (dirB to).toList))).2.1),.bool once,.int .i64 ((callS fails once calls (((rightB path)&&(rightB to))&&((dirB path).toList == (dirB to).toList))).2.2)] 72 (0,0))]::[(nb,.map (encM nm) nc)]::[(cb,.map (encM cm) cc)]::(rowsG rows++H))) rfl (.inr rfl) kr kr kr kr kr kr kr kr rfl rfl rfl ?_
     refine GH_back kr (fun w h=>(Sat.dropApp ((((h.erase 3).erase 2).erase 1).erase 0))) ?_
     refine GH_eff 8 kr kr kr ?_
     refine GL_mapPut (i:=8) (ch:=[]) (kt:=9) (et:=74) (r:=b3) (c:=1) (j:=0) (q:=0) (m:=[(to,pt p,0)]) (k:=path) (v:=.pointer none) (H':=([(b3,.map (encM (mput ([(to,pt p,0)]) 1 path (.pointer none))) (if mhas ([(to,pt p,0)]) path then 1 else 1+1))]::[(d,.cells #[.int .i64 room,bv,.map (some nb),.map (some kb),.map (some cb),.bool ((callS fails once calls (((rightB path)&&(rightB to))&&((dirB path).toList == (dirB to).toList))).2.1),.bool once,.int .i64 ((callS fails once calls (((rightB path)&&(rightB to))&&((dirB path).toList == (dirB to).toList))).2.2)] 72 (0,0))]::[(nb,.map (encM nm) nc)]::[(cb,.map (encM cm) cc)]::(rowsG rows++H))) rfl (.inr rfl) kr kr kr kr kr kr kr kr rfl rfl rfl ?_
     refine GH_back kr (fun w h=>(Sat.dropApp ((((h.erase 3).erase 2).erase 1).erase 0))) ?_
     refine GH_p (fuel:=1) [(9,0)] (fun w h=>(Sat.dropApp ((((h.erase 3).erase 2).erase 1).erase 0))) kr rfl ?_
     refine GH_eff 10 kr kr kr ?_
     refine GL_heap rfl (H':=([(d,.cells #[.int .i64 room,bv,.map (some nb),.map (some kb),.map (some cb),.bool ((callS fails once calls (((rightB path)&&(rightB to))&&((dirB path).toList == (dirB to).toList))).2.1),.bool once,.int .i64 ((callS fails once calls (((rightB path)&&(rightB to))&&((dirB path).toList == (dirB to).toList))).2.2)] 72 (0,0))]::[(nb,.map (encM nm) nc)]::[(cb,.map (encM cm) cc)]::[(b3,.map (encM (mput ([(to,pt p,0)]) 1 path (.pointer none))) (if mhas ([(to,pt p,0)]) path then 1 else 1+1))]::(rowsG rows++H))) (fun w h=>(((h.front (j:=3) rfl).front (j:=3) rfl).front (j:=3) rfl)) ?_
     refine GL_call (i:=10) (ch:=[]) (f:=37) (fst:=#[]) (caps:=#[]) (vs:=[pt d,.string (dirB to),.map (some b3)]) rfl rfl rfl kr kr Tryz.func37 rfl rfl kr kr (chSure_of kr) (vName d nb kb cb b3 nc cc (if mhas ([(to,pt p,0)]) path then 1 else 1+1) room ((callS fails once calls (((rightB path)&&(rightB to))&&((dirB path).toList == (dirB to).toList))).2.2) bv ((callS fails once calls (((rightB path)&&(rightB to))&&((dirB path).toList == (dirB to).toList))).2.1) once nm cm (mput ([(to,pt p,0)]) 1 path (.pointer none)) (dirB to) hn (MapOk.put (mapok1 _ _) _ _) (hvput (Q:=fun v=>v = .pointer none ∨ ∃ p,v = .pointer (some ⟨p,0,none⟩)) (hv1 _ _) (.inl rfl)) rows hR hl [[(b3,.map (encM (mput ([(to,pt p,0)]) 1 path (.pointer none))) (if mhas ([(to,pt p,0)]) path then 1 else 1+1))]] _ H (At.grp 0 0 rfl rfl)) ?_
     rintro v H' ⟨dn4, x5, rows6, hdn7, rfl, hR8, hA9, rfl⟩
     refine GH_back kr (fun w h=>(Sat.dropApp ((((h.erase 3).erase 2).erase 1).erase 0))) ?_
     refine GH_done (E':=[]) [] kr kr ?_
     refine N_then ?_
     refine G_seq ?_
     refine G_pure (E':=[⟨6,[],.int .i64 0⟩]) [0] [6] rfl kr ?_
     refine N_then ?_
     refine G_ret ?_
     refine N_ret [.tmp 6] [.int .i64 0] rfl kr rfl ?_
     exact .inr ⟨hce, .inr ⟨hsm, rfl, _, _, _, _, x5, rows6, .inl ⟨rfl, rfl⟩, hdn7, hR8, hA9, rfl⟩⟩
    ·
     refine GL_mapPut (i:=8) (ch:=[]) (kt:=9) (et:=74) (r:=b3) (c:=0) (j:=0) (q:=0) (m:=[]) (k:=path) (v:=.pointer none) (H':=([(b3,.map (encM ([(path,.pointer none,0)])) 1)]::[(d,.cells #[.int .i64 room,bv,.map (some nb),.map (some kb),.map (some cb),.bool ((callS fails once calls (((rightB path)&&(rightB to))&&((dirB path).toList == (dirB to).toList))).2.1),.bool once,.int .i64 ((callS fails once calls (((rightB path)&&(rightB to))&&((dirB path).toList == (dirB to).toList))).2.2)] 72 (0,0))]::[(nb,.map (encM nm) nc)]::[(cb,.map (encM cm) cc)]::(rowsG rows++H))) rfl (.inr rfl) kr kr kr kr kr kr kr kr rfl rfl rfl ?_
     refine GH_back kr (fun w h=>(Sat.dropApp ((((h.erase 3).erase 2).erase 1).erase 0))) ?_
     refine GH_eff 6 kr kr kr ?_
     refine GL_mapPut (i:=6) (ch:=[]) (kt:=9) (et:=74) (r:=b3) (c:=1) (j:=0) (q:=0) (m:=[(path,.pointer none,0)]) (k:=to) (v:=pt p) (H':=([(b3,.map (encM (mput ([(path,.pointer none,0)]) 1 to (pt p))) (if mhas ([(path,.pointer none,0)]) to then 1 else 1+1))]::[(d,.cells #[.int .i64 room,bv,.map (some nb),.map (some kb),.map (some cb),.bool ((callS fails once calls (((rightB path)&&(rightB to))&&((dirB path).toList == (dirB to).toList))).2.1),.bool once,.int .i64 ((callS fails once calls (((rightB path)&&(rightB to))&&((dirB path).toList == (dirB to).toList))).2.2)] 72 (0,0))]::[(nb,.map (encM nm) nc)]::[(cb,.map (encM cm) cc)]::(rowsG rows++H))) rfl (.inr rfl) kr kr kr kr kr kr kr kr rfl rfl rfl ?_
     refine GH_back kr (fun w h=>(Sat.dropApp ((((h.erase 3).erase 2).erase 1).erase 0))) ?_
     refine GH_p (fuel:=1) [(9,0)] (fun w h=>(Sat.dropApp ((((h.erase 3).erase 2).erase 1).erase 0))) kr rfl ?_
     refine GH_eff 10 kr kr kr ?_
     refine GL_heap rfl (H':=([(d,.cells #[.int .i64 room,bv,.map (some nb),.map (some kb),.map (some cb),.bool ((callS fails once calls (((rightB path)&&(rightB to))&&((dirB path).toList == (dirB to).toList))).2.1),.bool once,.int .i64 ((callS fails once calls (((rightB path)&&(rightB to))&&((dirB path).toList == (dirB to).toList))).2.2)] 72 (0,0))]::[(nb,.map (encM nm) nc)]::[(cb,.map (encM cm) cc)]::[(b3,.map (encM (mput ([(path,.pointer none,0)]) 1 to (pt p))) (if mhas ([(path,.pointer none,0)]) to then 1 else 1+1))]::(rowsG rows++H))) (fun w h=>(((h.front (j:=3) rfl).front (j:=3) rfl).front (j:=3) rfl)) ?_
     refine GL_call (i:=10) (ch:=[]) (f:=37) (fst:=#[]) (caps:=#[]) (vs:=[pt d,.string (dirB to),.map (some b3)]) rfl rfl rfl kr kr Tryz.func37 rfl rfl kr kr (chSure_of kr) (vName d nb kb cb b3 nc cc (if mhas ([(path,.pointer none,0)]) to then 1 else 1+1) room ((callS fails once calls (((rightB path)&&(rightB to))&&((dirB path).toList == (dirB to).toList))).2.2) bv ((callS fails once calls (((rightB path)&&(rightB to))&&((dirB path).toList == (dirB to).toList))).2.1) once nm cm (mput ([(path,.pointer none,0)]) 1 to (pt p)) (dirB to) hn (MapOk.put (mapok1 _ _) _ _) (hvput (Q:=fun v=>v = .pointer none ∨ ∃ p,v = .pointer (some ⟨p,0,none⟩)) (hv0 _) (.inr ⟨_,rfl⟩)) rows hR hl [[(b3,.map (encM (mput ([(path,.pointer none,0)]) 1 to (pt p))) (if mhas ([(path,.pointer none,0)]) to then 1 else 1+1))]] _ H (At.grp 0 0 rfl rfl)) ?_
     rintro v H' ⟨dn10, x11, rows12, hdn13, rfl, hR14, hA15, rfl⟩
     refine GH_back kr (fun w h=>(Sat.dropApp ((((h.erase 3).erase 2).erase 1).erase 0))) ?_
     refine GH_done (E':=[]) [] kr kr ?_
     refine N_then ?_
     refine G_seq ?_
     refine G_pure (E':=[⟨6,[],.int .i64 0⟩]) [0] [6] rfl kr ?_
     refine N_then ?_
     refine G_ret ?_
     refine N_ret [.tmp 6] [.int .i64 0] rfl kr rfl ?_
     exact .inr ⟨hce, .inr ⟨hsm, rfl, _, _, _, _, x11, rows12, .inr ⟨rfl, rfl⟩, hdn13, hR14, hA15, rfl⟩⟩
   ·
    refine GL_makeMap (i:=3) (ch:=[]) rfl rfl kr kr kr (fun b16=>?_)
    refine GH_back kr (fun w h=>(Sat.dropApp ((((h.erase 3).erase 2).erase 1).erase 0))) ?_
    refine GH_eff3 2 6 8 kr kr kr kr kr kr kr ?_ ?_ ?_
    ·
     refine GL_callQ (i:=2) (ch:=[]) (f:=38) (fst:=#[]) (caps:=#[]) (vs:=[.string to]) (v:=.string (dirB to)) rfl rfl rfl kr kr Tryz.func38 rfl rfl kr kr kr (fun _=>vfsDirOf _ hto _ _) ?_
     refine GH_back kr (fun w h=>(Sat.dropApp ((((h.erase 3).erase 2).erase 1).erase 0))) ?_
     refine GH_eff2 6 8 kr kr kr kr kr ?_ ?_
     ·
      refine GL_mapPut (i:=6) (ch:=[]) (kt:=9) (et:=74) (r:=b16) (c:=0) (j:=0) (q:=0) (m:=[]) (k:=to) (v:=pt p) (H':=([(b16,.map (encM ([(to,pt p,0)])) 1)]::[(d,.cells #[.int .i64 room,bv,.map (some nb),.map (some kb),.map (some cb),.bool ((callS fails once calls (((rightB path)&&(rightB to))&&((dirB path).toList == (dirB to).toList))).2.1),.bool once,.int .i64 ((callS fails once calls (((rightB path)&&(rightB to))&&((dirB path).toList == (dirB to).toList))).2.2)] 72 (0,0))]::[(nb,.map (encM nm) nc)]::[(cb,.map (encM cm) cc)]::(rowsG rows++H))) rfl (.inr rfl) kr kr kr kr kr kr kr kr rfl rfl rfl ?_
      refine GH_back kr (fun w h=>(Sat.dropApp ((((h.erase 3).erase 2).erase 1).erase 0))) ?_
      refine GH_eff 8 kr kr kr ?_
      refine GL_mapPut (i:=8) (ch:=[]) (kt:=9) (et:=74) (r:=b16) (c:=1) (j:=0) (q:=0) (m:=[(to,pt p,0)]) (k:=path) (v:=.pointer none) (H':=([(b16,.map (encM (mput ([(to,pt p,0)]) 1 path (.pointer none))) (if mhas ([(to,pt p,0)]) path then 1 else 1+1))]::[(d,.cells #[.int .i64 room,bv,.map (some nb),.map (some kb),.map (some cb),.bool ((callS fails once calls (((rightB path)&&(rightB to))&&((dirB path).toList == (dirB to).toList))).2.1),.bool once,.int .i64 ((callS fails once calls (((rightB path)&&(rightB to))&&((dirB path).toList == (dirB to).toList))).2.2)] 72 (0,0))]::[(nb,.map (encM nm) nc)]::[(cb,.map (encM cm) cc)]::(rowsG rows++H))) rfl (.inr rfl) kr kr kr kr kr kr kr kr rfl rfl rfl ?_
      refine GH_back kr (fun w h=>(Sat.dropApp ((((h.erase 3).erase 2).erase 1).erase 0))) ?_
      refine GH_p (fuel:=1) [(9,0)] (fun w h=>(Sat.dropApp ((((h.erase 3).erase 2).erase 1).erase 0))) kr rfl ?_
      refine GH_eff 10 kr kr kr ?_
      refine GL_heap rfl (H':=([(d,.cells #[.int .i64 room,bv,.map (some nb),.map (some kb),.map (some cb),.bool ((callS fails once calls (((rightB path)&&(rightB to))&&((dirB path).toList == (dirB to).toList))).2.1),.bool once,.int .i64 ((callS fails once calls (((rightB path)&&(rightB to))&&((dirB path).toList == (dirB to).toList))).2.2)] 72 (0,0))]::[(nb,.map (encM nm) nc)]::[(cb,.map (encM cm) cc)]::[(b16,.map (encM (mput ([(to,pt p,0)]) 1 path (.pointer none))) (if mhas ([(to,pt p,0)]) path then 1 else 1+1))]::(rowsG rows++H))) (fun w h=>(((h.front (j:=3) rfl).front (j:=3) rfl).front (j:=3) rfl)) ?_
      refine GL_call (i:=10) (ch:=[]) (f:=37) (fst:=#[]) (caps:=#[]) (vs:=[pt d,.string (dirB to),.map (some b16)]) rfl rfl rfl kr kr Tryz.func37 rfl rfl kr kr (chSure_of kr) (vName d nb kb cb b16 nc cc (if mhas ([(to,pt p,0)]) path then 1 else 1+1) room ((callS fails once calls (((rightB path)&&(rightB to))&&((dirB path).toList == (dirB to).toList))).2.2) bv ((callS fails once calls (((rightB path)&&(rightB to))&&((dirB path).toList == (dirB to).toList))).2.1) once nm cm (mput ([(to,pt p,0)]) 1 path (.pointer none)) (dirB to) hn (MapOk.put (mapok1 _ _) _ _) (hvput (Q:=fun v=>v = .pointer none ∨ ∃ p,v = .pointer (some ⟨p,0,none⟩)) (hv1 _ _) (.inl rfl)) rows hR hl [[(b16,.map (encM (mput ([(to,pt p,0)]) 1 path (.pointer none))) (if mhas ([(to,pt p,0)]) path then 1 else 1+1))]] _ H (At.grp 0 0 rfl rfl)) ?_
      rintro v H' ⟨dn17, x18, rows19, hdn20, rfl, hR21, hA22, rfl⟩
      refine GH_back kr (fun w h=>(Sat.dropApp ((((h.erase 3).erase 2).erase 1).erase 0))) ?_
      refine GH_done (E':=[]) [] kr kr ?_
      refine N_then ?_
      refine G_seq ?_
      refine G_pure (E':=[⟨6,[],.int .i64 0⟩]) [0] [6] rfl kr ?_
      refine N_then ?_
      refine G_ret ?_
      refine N_ret [.tmp 6] [.int .i64 0] rfl kr rfl ?_
      exact .inr ⟨hce, .inr ⟨hsm, rfl, _, _, _, _, x18, rows19, .inl ⟨rfl, rfl⟩, hdn20, hR21, hA22, rfl⟩⟩
     ·
      refine GL_mapPut (i:=8) (ch:=[]) (kt:=9) (et:=74) (r:=b16) (c:=0) (j:=0) (q:=0) (m:=[]) (k:=path) (v:=.pointer none) (H':=([(b16,.map (encM ([(path,.pointer none,0)])) 1)]::[(d,.cells #[.int .i64 room,bv,.map (some nb),.map (some kb),.map (some cb),.bool ((callS fails once calls (((rightB path)&&(rightB to))&&((dirB path).toList == (dirB to).toList))).2.1),.bool once,.int .i64 ((callS fails once calls (((rightB path)&&(rightB to))&&((dirB path).toList == (dirB to).toList))).2.2)] 72 (0,0))]::[(nb,.map (encM nm) nc)]::[(cb,.map (encM cm) cc)]::(rowsG rows++H))) rfl (.inr rfl) kr kr kr kr kr kr kr kr rfl rfl rfl ?_
      refine GH_back kr (fun w h=>(Sat.dropApp ((((h.erase 3).erase 2).erase 1).erase 0))) ?_
      refine GH_eff 6 kr kr kr ?_
      refine GL_mapPut (i:=6) (ch:=[]) (kt:=9) (et:=74) (r:=b16) (c:=1) (j:=0) (q:=0) (m:=[(path,.pointer none,0)]) (k:=to) (v:=pt p) (H':=([(b16,.map (encM (mput ([(path,.pointer none,0)]) 1 to (pt p))) (if mhas ([(path,.pointer none,0)]) to then 1 else 1+1))]::[(d,.cells #[.int .i64 room,bv,.map (some nb),.map (some kb),.map (some cb),.bool ((callS fails once calls (((rightB path)&&(rightB to))&&((dirB path).toList == (dirB to).toList))).2.1),.bool once,.int .i64 ((callS fails once calls (((rightB path)&&(rightB to))&&((dirB path).toList == (dirB to).toList))).2.2)] 72 (0,0))]::[(nb,.map (encM nm) nc)]::[(cb,.map (encM cm) cc)]::(rowsG rows++H))) rfl (.inr rfl) kr kr kr kr kr kr kr kr rfl rfl rfl ?_
      refine GH_back kr (fun w h=>(Sat.dropApp ((((h.erase 3).erase 2).erase 1).erase 0))) ?_
      refine GH_p (fuel:=1) [(9,0)] (fun w h=>(Sat.dropApp ((((h.erase 3).erase 2).erase 1).erase 0))) kr rfl ?_
      refine GH_eff 10 kr kr kr ?_
      refine GL_heap rfl (H':=([(d,.cells #[.int .i64 room,bv,.map (some nb),.map (some kb),.map (some cb),.bool ((callS fails once calls (((rightB path)&&(rightB to))&&((dirB path).toList == (dirB to).toList))).2.1),.bool once,.int .i64 ((callS fails once calls (((rightB path)&&(rightB to))&&((dirB path).toList == (dirB to).toList))).2.2)] 72 (0,0))]::[(nb,.map (encM nm) nc)]::[(cb,.map (encM cm) cc)]::[(b16,.map (encM (mput ([(path,.pointer none,0)]) 1 to (pt p))) (if mhas ([(path,.pointer none,0)]) to then 1 else 1+1))]::(rowsG rows++H))) (fun w h=>(((h.front (j:=3) rfl).front (j:=3) rfl).front (j:=3) rfl)) ?_
      refine GL_call (i:=10) (ch:=[]) (f:=37) (fst:=#[]) (caps:=#[]) (vs:=[pt d,.string (dirB to),.map (some b16)]) rfl rfl rfl kr kr Tryz.func37 rfl rfl kr kr (chSure_of kr) (vName d nb kb cb b16 nc cc (if mhas ([(path,.pointer none,0)]) to then 1 else 1+1) room ((callS fails once calls (((rightB path)&&(rightB to))&&((dirB path).toList == (dirB to).toList))).2.2) bv ((callS fails once calls (((rightB path)&&(rightB to))&&((dirB path).toList == (dirB to).toList))).2.1) once nm cm (mput ([(path,.pointer none,0)]) 1 to (pt p)) (dirB to) hn (MapOk.put (mapok1 _ _) _ _) (hvput (Q:=fun v=>v = .pointer none ∨ ∃ p,v = .pointer (some ⟨p,0,none⟩)) (hv0 _) (.inr ⟨_,rfl⟩)) rows hR hl [[(b16,.map (encM (mput ([(path,.pointer none,0)]) 1 to (pt p))) (if mhas ([(path,.pointer none,0)]) to then 1 else 1+1))]] _ H (At.grp 0 0 rfl rfl)) ?_
      rintro v H' ⟨dn23, x24, rows25, hdn26, rfl, hR27, hA28, rfl⟩
      refine GH_back kr (fun w h=>(Sat.dropApp ((((h.erase 3).erase 2).erase 1).erase 0))) ?_
      refine GH_done (E':=[]) [] kr kr ?_
      refine N_then ?_
      refine G_seq ?_
      refine G_pure (E':=[⟨6,[],.int .i64 0⟩]) [0] [6] rfl kr ?_
      refine N_then ?_
      refine G_ret ?_
      refine N_ret [.tmp 6] [.int .i64 0] rfl kr rfl ?_
      exact .inr ⟨hce, .inr ⟨hsm, rfl, _, _, _, _, x24, rows25, .inr ⟨rfl, rfl⟩, hdn26, hR27, hA28, rfl⟩⟩
    ·
     refine GL_mapPut (i:=6) (ch:=[]) (kt:=9) (et:=74) (r:=b16) (c:=0) (j:=0) (q:=0) (m:=[]) (k:=to) (v:=pt p) (H':=([(b16,.map (encM ([(to,pt p,0)])) 1)]::[(d,.cells #[.int .i64 room,bv,.map (some nb),.map (some kb),.map (some cb),.bool ((callS fails once calls (((rightB path)&&(rightB to))&&((dirB path).toList == (dirB to).toList))).2.1),.bool once,.int .i64 ((callS fails once calls (((rightB path)&&(rightB to))&&((dirB path).toList == (dirB to).toList))).2.2)] 72 (0,0))]::[(nb,.map (encM nm) nc)]::[(cb,.map (encM cm) cc)]::(rowsG rows++H))) rfl (.inr rfl) kr kr kr kr kr kr kr kr rfl rfl rfl ?_
     refine GH_back kr (fun w h=>(Sat.dropApp ((((h.erase 3).erase 2).erase 1).erase 0))) ?_
     refine GH_eff2 2 8 kr kr kr kr kr ?_ ?_
     ·
      refine GL_callQ (i:=2) (ch:=[]) (f:=38) (fst:=#[]) (caps:=#[]) (vs:=[.string to]) (v:=.string (dirB to)) rfl rfl rfl kr kr Tryz.func38 rfl rfl kr kr kr (fun _=>vfsDirOf _ hto _ _) ?_
      refine GH_back kr (fun w h=>(Sat.dropApp ((((h.erase 3).erase 2).erase 1).erase 0))) ?_
      refine GH_eff 8 kr kr kr ?_
      refine GL_mapPut (i:=8) (ch:=[]) (kt:=9) (et:=74) (r:=b16) (c:=1) (j:=0) (q:=0) (m:=[(to,pt p,0)]) (k:=path) (v:=.pointer none) (H':=([(b16,.map (encM (mput ([(to,pt p,0)]) 1 path (.pointer none))) (if mhas ([(to,pt p,0)]) path then 1 else 1+1))]::[(d,.cells #[.int .i64 room,bv,.map (some nb),.map (some kb),.map (some cb),.bool ((callS fails once calls (((rightB path)&&(rightB to))&&((dirB path).toList == (dirB to).toList))).2.1),.bool once,.int .i64 ((callS fails once calls (((rightB path)&&(rightB to))&&((dirB path).toList == (dirB to).toList))).2.2)] 72 (0,0))]::[(nb,.map (encM nm) nc)]::[(cb,.map (encM cm) cc)]::(rowsG rows++H))) rfl (.inr rfl) kr kr kr kr kr kr kr kr rfl rfl rfl ?_
      refine GH_back kr (fun w h=>(Sat.dropApp ((((h.erase 3).erase 2).erase 1).erase 0))) ?_
      refine GH_p (fuel:=1) [(9,0)] (fun w h=>(Sat.dropApp ((((h.erase 3).erase 2).erase 1).erase 0))) kr rfl ?_
      refine GH_eff 10 kr kr kr ?_
      refine GL_heap rfl (H':=([(d,.cells #[.int .i64 room,bv,.map (some nb),.map (some kb),.map (some cb),.bool ((callS fails once calls (((rightB path)&&(rightB to))&&((dirB path).toList == (dirB to).toList))).2.1),.bool once,.int .i64 ((callS fails once calls (((rightB path)&&(rightB to))&&((dirB path).toList == (dirB to).toList))).2.2)] 72 (0,0))]::[(nb,.map (encM nm) nc)]::[(cb,.map (encM cm) cc)]::[(b16,.map (encM (mput ([(to,pt p,0)]) 1 path (.pointer none))) (if mhas ([(to,pt p,0)]) path then 1 else 1+1))]::(rowsG rows++H))) (fun w h=>(((h.front (j:=3) rfl).front (j:=3) rfl).front (j:=3) rfl)) ?_
      refine GL_call (i:=10) (ch:=[]) (f:=37) (fst:=#[]) (caps:=#[]) (vs:=[pt d,.string (dirB to),.map (some b16)]) rfl rfl rfl kr kr Tryz.func37 rfl rfl kr kr (chSure_of kr) (vName d nb kb cb b16 nc cc (if mhas ([(to,pt p,0)]) path then 1 else 1+1) room ((callS fails once calls (((rightB path)&&(rightB to))&&((dirB path).toList == (dirB to).toList))).2.2) bv ((callS fails once calls (((rightB path)&&(rightB to))&&((dirB path).toList == (dirB to).toList))).2.1) once nm cm (mput ([(to,pt p,0)]) 1 path (.pointer none)) (dirB to) hn (MapOk.put (mapok1 _ _) _ _) (hvput (Q:=fun v=>v = .pointer none ∨ ∃ p,v = .pointer (some ⟨p,0,none⟩)) (hv1 _ _) (.inl rfl)) rows hR hl [[(b16,.map (encM (mput ([(to,pt p,0)]) 1 path (.pointer none))) (if mhas ([(to,pt p,0)]) path then 1 else 1+1))]] _ H (At.grp 0 0 rfl rfl)) ?_
      rintro v H' ⟨dn29, x30, rows31, hdn32, rfl, hR33, hA34, rfl⟩
      refine GH_back kr (fun w h=>(Sat.dropApp ((((h.erase 3).erase 2).erase 1).erase 0))) ?_
      refine GH_done (E':=[]) [] kr kr ?_
      refine N_then ?_
      refine G_seq ?_
      refine G_pure (E':=[⟨6,[],.int .i64 0⟩]) [0] [6] rfl kr ?_
      refine N_then ?_
      refine G_ret ?_
      refine N_ret [.tmp 6] [.int .i64 0] rfl kr rfl ?_
      exact .inr ⟨hce, .inr ⟨hsm, rfl, _, _, _, _, x30, rows31, .inl ⟨rfl, rfl⟩, hdn32, hR33, hA34, rfl⟩⟩
     ·
      refine GL_mapPut (i:=8) (ch:=[]) (kt:=9) (et:=74) (r:=b16) (c:=1) (j:=0) (q:=0) (m:=[(to,pt p,0)]) (k:=path) (v:=.pointer none) (H':=([(b16,.map (encM (mput ([(to,pt p,0)]) 1 path (.pointer none))) (if mhas ([(to,pt p,0)]) path then 1 else 1+1))]::[(d,.cells #[.int .i64 room,bv,.map (some nb),.map (some kb),.map (some cb),.bool ((callS fails once calls (((rightB path)&&(rightB to))&&((dirB path).toList == (dirB to).toList))).2.1),.bool once,.int .i64 ((callS fails once calls (((rightB path)&&(rightB to))&&((dirB path).toList == (dirB to).toList))).2.2)] 72 (0,0))]::[(nb,.map (encM nm) nc)]::[(cb,.map (encM cm) cc)]::(rowsG rows++H))) rfl (.inr rfl) kr kr kr kr kr kr kr kr rfl rfl rfl ?_
      refine GH_back kr (fun w h=>(Sat.dropApp ((((h.erase 3).erase 2).erase 1).erase 0))) ?_
      refine GH_p (fuel:=2) [(9,0)] (fun w h=>(Sat.dropApp ((((h.erase 3).erase 2).erase 1).erase 0))) kr rfl ?_
      refine GH_eff 2 kr kr kr ?_
      refine GL_callQ (i:=2) (ch:=[]) (f:=38) (fst:=#[]) (caps:=#[]) (vs:=[.string to]) (v:=.string (dirB to)) rfl rfl rfl kr kr Tryz.func38 rfl rfl kr kr kr (fun _=>vfsDirOf _ hto _ _) ?_
      refine GH_back kr (fun w h=>(Sat.dropApp ((((h.erase 3).erase 2).erase 1).erase 0))) ?_
      refine GH_eff 10 kr kr kr ?_
      refine GL_heap rfl (H':=([(d,.cells #[.int .i64 room,bv,.map (some nb),.map (some kb),.map (some cb),.bool ((callS fails once calls (((rightB path)&&(rightB to))&&((dirB path).toList == (dirB to).toList))).2.1),.bool once,.int .i64 ((callS fails once calls (((rightB path)&&(rightB to))&&((dirB path).toList == (dirB to).toList))).2.2)] 72 (0,0))]::[(nb,.map (encM nm) nc)]::[(cb,.map (encM cm) cc)]::[(b16,.map (encM (mput ([(to,pt p,0)]) 1 path (.pointer none))) (if mhas ([(to,pt p,0)]) path then 1 else 1+1))]::(rowsG rows++H))) (fun w h=>(((h.front (j:=3) rfl).front (j:=3) rfl).front (j:=3) rfl)) ?_
      refine GL_call (i:=10) (ch:=[]) (f:=37) (fst:=#[]) (caps:=#[]) (vs:=[pt d,.string (dirB to),.map (some b16)]) rfl rfl rfl kr kr Tryz.func37 rfl rfl kr kr (chSure_of kr) (vName d nb kb cb b16 nc cc (if mhas ([(to,pt p,0)]) path then 1 else 1+1) room ((callS fails once calls (((rightB path)&&(rightB to))&&((dirB path).toList == (dirB to).toList))).2.2) bv ((callS fails once calls (((rightB path)&&(rightB to))&&((dirB path).toList == (dirB to).toList))).2.1) once nm cm (mput ([(to,pt p,0)]) 1 path (.pointer none)) (dirB to) hn (MapOk.put (mapok1 _ _) _ _) (hvput (Q:=fun v=>v = .pointer none ∨ ∃ p,v = .pointer (some ⟨p,0,none⟩)) (hv1 _ _) (.inl rfl)) rows hR hl [[(b16,.map (encM (mput ([(to,pt p,0)]) 1 path (.pointer none))) (if mhas ([(to,pt p,0)]) path then 1 else 1+1))]] _ H (At.grp 0 0 rfl rfl)) ?_
      rintro v H' ⟨dn35, x36, rows37, hdn38, rfl, hR39, hA40, rfl⟩
      refine GH_back kr (fun w h=>(Sat.dropApp ((((h.erase 3).erase 2).erase 1).erase 0))) ?_
      refine GH_done (E':=[]) [] kr kr ?_
      refine N_then ?_
      refine G_seq ?_
      refine G_pure (E':=[⟨6,[],.int .i64 0⟩]) [0] [6] rfl kr ?_
      refine N_then ?_
      refine G_ret ?_
      refine N_ret [.tmp 6] [.int .i64 0] rfl kr rfl ?_
      exact .inr ⟨hce, .inr ⟨hsm, rfl, _, _, _, _, x36, rows37, .inl ⟨rfl, rfl⟩, hdn38, hR39, hA40, rfl⟩⟩
    ·
     refine GL_mapPut (i:=8) (ch:=[]) (kt:=9) (et:=74) (r:=b16) (c:=0) (j:=0) (q:=0) (m:=[]) (k:=path) (v:=.pointer none) (H':=([(b16,.map (encM ([(path,.pointer none,0)])) 1)]::[(d,.cells #[.int .i64 room,bv,.map (some nb),.map (some kb),.map (some cb),.bool ((callS fails once calls (((rightB path)&&(rightB to))&&((dirB path).toList == (dirB to).toList))).2.1),.bool once,.int .i64 ((callS fails once calls (((rightB path)&&(rightB to))&&((dirB path).toList == (dirB to).toList))).2.2)] 72 (0,0))]::[(nb,.map (encM nm) nc)]::[(cb,.map (encM cm) cc)]::(rowsG rows++H))) rfl (.inr rfl) kr kr kr kr kr kr kr kr rfl rfl rfl ?_
     refine GH_back kr (fun w h=>(Sat.dropApp ((((h.erase 3).erase 2).erase 1).erase 0))) ?_
     refine GH_eff2 2 6 kr kr kr kr kr ?_ ?_
     ·
      refine GL_callQ (i:=2) (ch:=[]) (f:=38) (fst:=#[]) (caps:=#[]) (vs:=[.string to]) (v:=.string (dirB to)) rfl rfl rfl kr kr Tryz.func38 rfl rfl kr kr kr (fun _=>vfsDirOf _ hto _ _) ?_
      refine GH_back kr (fun w h=>(Sat.dropApp ((((h.erase 3).erase 2).erase 1).erase 0))) ?_
      refine GH_eff 6 kr kr kr ?_
      refine GL_mapPut (i:=6) (ch:=[]) (kt:=9) (et:=74) (r:=b16) (c:=1) (j:=0) (q:=0) (m:=[(path,.pointer none,0)]) (k:=to) (v:=pt p) (H':=([(b16,.map (encM (mput ([(path,.pointer none,0)]) 1 to (pt p))) (if mhas ([(path,.pointer none,0)]) to then 1 else 1+1))]::[(d,.cells #[.int .i64 room,bv,.map (some nb),.map (some kb),.map (some cb),.bool ((callS fails once calls (((rightB path)&&(rightB to))&&((dirB path).toList == (dirB to).toList))).2.1),.bool once,.int .i64 ((callS fails once calls (((rightB path)&&(rightB to))&&((dirB path).toList == (dirB to).toList))).2.2)] 72 (0,0))]::[(nb,.map (encM nm) nc)]::[(cb,.map (encM cm) cc)]::(rowsG rows++H))) rfl (.inr rfl) kr kr kr kr kr kr kr kr rfl rfl rfl ?_
      refine GH_back kr (fun w h=>(Sat.dropApp ((((h.erase 3).erase 2).erase 1).erase 0))) ?_
      refine GH_p (fuel:=1) [(9,0)] (fun w h=>(Sat.dropApp ((((h.erase 3).erase 2).erase 1).erase 0))) kr rfl ?_
      refine GH_eff 10 kr kr kr ?_
      refine GL_heap rfl (H':=([(d,.cells #[.int .i64 room,bv,.map (some nb),.map (some kb),.map (some cb),.bool ((callS fails once calls (((rightB path)&&(rightB to))&&((dirB path).toList == (dirB to).toList))).2.1),.bool once,.int .i64 ((callS fails once calls (((rightB path)&&(rightB to))&&((dirB path).toList == (dirB to).toList))).2.2)] 72 (0,0))]::[(nb,.map (encM nm) nc)]::[(cb,.map (encM cm) cc)]::[(b16,.map (encM (mput ([(path,.pointer none,0)]) 1 to (pt p))) (if mhas ([(path,.pointer none,0)]) to then 1 else 1+1))]::(rowsG rows++H))) (fun w h=>(((h.front (j:=3) rfl).front (j:=3) rfl).front (j:=3) rfl)) ?_
      refine GL_call (i:=10) (ch:=[]) (f:=37) (fst:=#[]) (caps:=#[]) (vs:=[pt d,.string (dirB to),.map (some b16)]) rfl rfl rfl kr kr Tryz.func37 rfl rfl kr kr (chSure_of kr) (vName d nb kb cb b16 nc cc (if mhas ([(path,.pointer none,0)]) to then 1 else 1+1) room ((callS fails once calls (((rightB path)&&(rightB to))&&((dirB path).toList == (dirB to).toList))).2.2) bv ((callS fails once calls (((rightB path)&&(rightB to))&&((dirB path).toList == (dirB to).toList))).2.1) once nm cm (mput ([(path,.pointer none,0)]) 1 to (pt p)) (dirB to) hn (MapOk.put (mapok1 _ _) _ _) (hvput (Q:=fun v=>v = .pointer none ∨ ∃ p,v = .pointer (some ⟨p,0,none⟩)) (hv0 _) (.inr ⟨_,rfl⟩)) rows hR hl [[(b16,.map (encM (mput ([(path,.pointer none,0)]) 1 to (pt p))) (if mhas ([(path,.pointer none,0)]) to then 1 else 1+1))]] _ H (At.grp 0 0 rfl rfl)) ?_
      rintro v H' ⟨dn41, x42, rows43, hdn44, rfl, hR45, hA46, rfl⟩
      refine GH_back kr (fun w h=>(Sat.dropApp ((((h.erase 3).erase 2).erase 1).erase 0))) ?_
      refine GH_done (E':=[]) [] kr kr ?_
      refine N_then ?_
      refine G_seq ?_
      refine G_pure (E':=[⟨6,[],.int .i64 0⟩]) [0] [6] rfl kr ?_
      refine N_then ?_
      refine G_ret ?_
      refine N_ret [.tmp 6] [.int .i64 0] rfl kr rfl ?_
      exact .inr ⟨hce, .inr ⟨hsm, rfl, _, _, _, _, x42, rows43, .inr ⟨rfl, rfl⟩, hdn44, hR45, hA46, rfl⟩⟩
     ·
      refine GL_mapPut (i:=6) (ch:=[]) (kt:=9) (et:=74) (r:=b16) (c:=1) (j:=0) (q:=0) (m:=[(path,.pointer none,0)]) (k:=to) (v:=pt p) (H':=([(b16,.map (encM (mput ([(path,.pointer none,0)]) 1 to (pt p))) (if mhas ([(path,.pointer none,0)]) to then 1 else 1+1))]::[(d,.cells #[.int .i64 room,bv,.map (some nb),.map (some kb),.map (some cb),.bool ((callS fails once calls (((rightB path)&&(rightB to))&&((dirB path).toList == (dirB to).toList))).2.1),.bool once,.int .i64 ((callS fails once calls (((rightB path)&&(rightB to))&&((dirB path).toList == (dirB to).toList))).2.2)] 72 (0,0))]::[(nb,.map (encM nm) nc)]::[(cb,.map (encM cm) cc)]::(rowsG rows++H))) rfl (.inr rfl) kr kr kr kr kr kr kr kr rfl rfl rfl ?_
      refine GH_back kr (fun w h=>(Sat.dropApp ((((h.erase 3).erase 2).erase 1).erase 0))) ?_
      refine GH_p (fuel:=2) [(9,0)] (fun w h=>(Sat.dropApp ((((h.erase 3).erase 2).erase 1).erase 0))) kr rfl ?_
      refine GH_eff 2 kr kr kr ?_
      refine GL_callQ (i:=2) (ch:=[]) (f:=38) (fst:=#[]) (caps:=#[]) (vs:=[.string to]) (v:=.string (dirB to)) rfl rfl rfl kr kr Tryz.func38 rfl rfl kr kr kr (fun _=>vfsDirOf _ hto _ _) ?_
      refine GH_back kr (fun w h=>(Sat.dropApp ((((h.erase 3).erase 2).erase 1).erase 0))) ?_
      refine GH_eff 10 kr kr kr ?_
      refine GL_heap rfl (H':=([(d,.cells #[.int .i64 room,bv,.map (some nb),.map (some kb),.map (some cb),.bool ((callS fails once calls (((rightB path)&&(rightB to))&&((dirB path).toList == (dirB to).toList))).2.1),.bool once,.int .i64 ((callS fails once calls (((rightB path)&&(rightB to))&&((dirB path).toList == (dirB to).toList))).2.2)] 72 (0,0))]::[(nb,.map (encM nm) nc)]::[(cb,.map (encM cm) cc)]::[(b16,.map (encM (mput ([(path,.pointer none,0)]) 1 to (pt p))) (if mhas ([(path,.pointer none,0)]) to then 1 else 1+1))]::(rowsG rows++H))) (fun w h=>(((h.front (j:=3) rfl).front (j:=3) rfl).front (j:=3) rfl)) ?_
      refine GL_call (i:=10) (ch:=[]) (f:=37) (fst:=#[]) (caps:=#[]) (vs:=[pt d,.string (dirB to),.map (some b16)]) rfl rfl rfl kr kr Tryz.func37 rfl rfl kr kr (chSure_of kr) (vName d nb kb cb b16 nc cc (if mhas ([(path,.pointer none,0)]) to then 1 else 1+1) room ((callS fails once calls (((rightB path)&&(rightB to))&&((dirB path).toList == (dirB to).toList))).2.2) bv ((callS fails once calls (((rightB path)&&(rightB to))&&((dirB path).toList == (dirB to).toList))).2.1) once nm cm (mput ([(path,.pointer none,0)]) 1 to (pt p)) (dirB to) hn (MapOk.put (mapok1 _ _) _ _) (hvput (Q:=fun v=>v = .pointer none ∨ ∃ p,v = .pointer (some ⟨p,0,none⟩)) (hv0 _) (.inr ⟨_,rfl⟩)) rows hR hl [[(b16,.map (encM (mput ([(path,.pointer none,0)]) 1 to (pt p))) (if mhas ([(path,.pointer none,0)]) to then 1 else 1+1))]] _ H (At.grp 0 0 rfl rfl)) ?_
      rintro v H' ⟨dn47, x48, rows49, hdn50, rfl, hR51, hA52, rfl⟩
      refine GH_back kr (fun w h=>(Sat.dropApp ((((h.erase 3).erase 2).erase 1).erase 0))) ?_
      refine GH_done (E':=[]) [] kr kr ?_
      refine N_then ?_
      refine G_seq ?_
      refine G_pure (E':=[⟨6,[],.int .i64 0⟩]) [0] [6] rfl kr ?_
      refine N_then ?_
      refine G_ret ?_
      refine N_ret [.tmp 6] [.int .i64 0] rfl kr rfl ?_
      exact .inr ⟨hce, .inr ⟨hsm, rfl, _, _, _, _, x48, rows49, .inr ⟨rfl, rfl⟩, hdn50, hR51, hA52, rfl⟩⟩
  ·
   have hsm := hc2
   refine G_skip ?_
   refine N_then ?_
   refine G_seq ?_
   refine G_pure (E':=[⟨6,[],.int .i64 0⟩]) [0] [6] rfl kr ?_
   refine N_then ?_
   refine G_ret ?_
   refine N_ret [.tmp 6] [.int .i64 0] rfl kr rfl ?_
   exact .inr ⟨hce, .inl ⟨hsm, rfl, rfl⟩⟩
end Go.Proofs.YtlaoeiaaeifidaaGreat
namespace Go.Sw
open Go.RowKit
theorem run_bounds3 {P : Program} {n cap : Nat} {kd kd' : IntKind} (h : n ≤ cap) (w : World) :
    (Instr.sliceBounds true n cap none (some (.int kd (n : Int))) (some (.int kd' (n : Int)))).run P w = .ok (0, n, n) w := by
  have h1 : (Instr.sliceBound (.int kd' (n : Int)) cap .slice3Acap).run P w = .ok n w := run_sliceBound rfl (by omega) (by omega) w
  have h2 : (Instr.sliceBound (.int kd (n : Int)) n .slice3B).run P w = .ok n w := run_sliceBound rfl (by omega) (by omega) w
  simp only [Instr.sliceBounds, Sem.run_bind, if_true, h1, Result.andThen_ok, h2, Sem.run_pure]
theorem GL_clip {d : Bool} {P : Program} {ops : Array Oper} {i : Nat} {Q : Post} {n : Fr} {E : Env} {W0 : World} {H : List Grp} {o : Oper} {ch : List (Nat × Bool)} {t e : TypeId} {x hi mx : Operand} {a : Option Addr} {len cap sz : Nat} {kd kd' : IntKind}
    (ho : ops[i]? = some o) (hop : o.op = .slice t x none (some hi) (some mx)) (hx : evO E ch x = some (.slice a len cap)) (hhi : evO E ch hi = some (.int kd (len : Int))) (hmx : evO E ch mx = some (.int kd' (len : Int))) (hu : P.underlying t = some (.slice e)) (hsz : sizeV P e = some sz)
    (hch : chainOf ops E o.guard = some ch) (hd : dstOk n ch o.dst = true) (hk : chKnown E ch = true)
    (hb : chB E ch → len ≤ cap) (ha : len = 0 ∨ ∃ b off, a = some ⟨b, off, none⟩)
    (k : GL d P ops (i + 1) Q n (Env.put E o.dst ch (.slice a len len)) W0 H) : GL d P ops i Q n E W0 H := by
  refine GL_quiet ho hch hd hk (fun r hr hcb w _ => ?_) k
  have h0 := hb hcb
  unfold execOp
  simp only [hop]
  rw [hr _ _ hx]
  simp only [Option.map_some, hr _ _ hhi, hr _ _ hmx, Option.map_none, Instr.sliceAt, Instr.slice, Sem.run_bind, run_underlying hu, Result.andThen_ok, run_bounds3 (P := P) (kd := kd) (kd' := kd') h0, sizeV_sound hsz, Sem.run_pure, Nat.zero_mul]
  refine ⟨rfl, ?_⟩
  have e1 : (if len = 0 then a else a.map (·.add 0)) = a := by
    rcases ha with h | ⟨b, off, rfl⟩
    · rw [if_pos h]
    · split
      · rfl
      · simp [addr_add]
  rw [e1]; rfl
theorem GL_appendFull {P : Program} {ops : Array Oper} {i : Nat} {Q : Post} {q : Fr} {E : Env} {W0 : World} {H : List Grp} {o : Oper} {ch : List (Nat × Bool)} {c : Call} {t tx e : TypeId} {inf : TypeInfo} {z x : Value} {a : Option Addr} {n m : Nat} {cs news : List Value} {S S2 : Nat → Obj → Prop}
    (ho : ops[i]? = some o) (hop : o.op = .call c) (hce : c.callee = .builtin .append) (hat : c.argTypes = #[t, tx]) (hargs : evL (evO E ch) c.args.toList = some [.slice a n n, x])
    (ht : P.underlying t = some (.slice e)) (hi : P.info? e = some inf) (hz : inf.zero = some z) (hi1 : inf.size = 1)
    (hkind : (∃ e', P.underlying tx = some (.slice e')) ∨ (P.underlying tx = some .string ∧ inf.size = 1))
    (hks : (∃ s, x = .string s) → inf.size = 1 ∧ P.underlying tx = some .string) (hkl : (∃ a n c, x = .slice a n c) → ∃ e', P.underlying tx = some (.slice e'))
    (hch : chainOf ops E o.guard = some ch) (hd : dstOk q ch o.dst = true) (hsure : chSure E ch = true)
    (hrd : Rd S a cs) (hcs : cs.length = n) (hna : (a = none ∧ n = 0) ∨ ∃ b off, a = some ⟨b, off, none⟩) (hsrc : SrcOf S2 x m news) (hS : ∀ b o, S b o → At W0 H b o) (hS2 : ∀ b o, S2 b o → At W0 H b o) (hl : news.length = m) (h1 : ∀ u ∈ news, u.oneCell' = true)
    (hmax : n + m ≤ 9223372036854775807) (hbytes : (n + m) * inf.bytes ≤ 140737488355328)
    (k : ∀ a' cap' g, n + m ≤ cap' → ((a' = none ∧ n + m = 0 ∧ cap' = 0) ∨ ∃ b off, a' = some ⟨b, off, none⟩) → Rd (fun b o => S b o ∨ inG g b o) a' (cs ++ news) → GL false P ops (i + 1) Q q (Env.put E o.dst ch (.slice a' (n + m) cap')) W0 (g :: H)) : GL false P ops i Q q E W0 H := by
  refine GL_eff (R := fun v H1 => ∃ a' cap' g, v = .slice a' (n + m) cap' ∧ n + m ≤ cap' ∧ ((a' = none ∧ n + m = 0 ∧ cap' = 0) ∨ ∃ b off, a' = some ⟨b, off, none⟩) ∧ Rd (fun b o => S b o ∨ inG g b o) a' (cs ++ news) ∧ H1 = g :: H) ho hch hd hsure (fun r hr w hs => ?_) (by rintro v H1 ⟨a', cap', g, rfl, h2, h3, h4, rfl⟩; exact k a' cap' g h2 h3 h4)
  have hS' : ∀ b o, S b o → w.heap[b]? = some o := fun b o h => hs.at (hS b o h)
  have hsrc' : Src P inf.size tx x m news w := srcOf_run hsrc hkind hks hkl (by rw [hi1, Nat.mul_one]; exact hl) h1 (fun b o h => hs.at (hS2 b o h))
  have hexec : ∀ {v : Value} {w' : World}, (Builtin.append_ #[t, tx] o.type #[.slice a n n, x]).run P w = .ok v w' → (execOp r o).run P w = .ok (.value v) w' := by
    intro v w' h
    unfold execOp
    simp only [hop, resolve, hce, hat, arr_map hr hargs, Sem.run_bind, Sem.run_pure, Result.andThen_ok, invoke, Go.builtin, h]
  by_cases hm : m = 0
  · subst hm
    have hn : news = [] := by cases news with | nil => rfl | cons _ _ => simp at hl
    subst hn
    refine ⟨.slice a n n, w, [] :: H, ⟨a, n, [], rfl, Nat.le_refl _, hna.imp (fun h => ⟨h.1, h.2, h.2⟩) id, ?_, rfl⟩, hs.flat (by simp), .inl (hexec ?_)⟩
    · rw [List.append_nil]; exact hrd.mono fun _ _ => .inl
    · cases a with
      | none => rcases hsrc'.kind with ⟨e', hk⟩ | hk <;> simp [Builtin.append_, run_underlying ht, run_underlying hk, sizeOf, typeInfo, hi, hsrc'.len, hsrc'.cells]
      | some ad => rcases hsrc'.kind with ⟨e', hk⟩ | hk <;> simp [Builtin.append_, run_underlying ht, run_underlying hk, sizeOf, typeInfo, hi, hsrc'.len, hsrc'.cells, storeCells]
  · have hold : (Builtin.firstCells inf.size n (.slice a n n)).run P w.drew = .ok cs.toArray w.drew := by
      rcases hrd with h | ⟨b, off, c2, e2, fz, h2, h3, h4⟩
      · have h0 : n = 0 := by rw [h] at hcs; simpa using hcs.symm
        subst h0; rw [h]
        cases a with
        | none => exact run_firstCells_none w.drew _ 0 0 0
        | some ad => exact run_firstCells_some (P := P) w.drew inf.size 0 ad 0 0 [] (by simp) (fun j v hv => by simp at hv)
      · subst h2
        refine run_firstCells_some (P := P) w.drew inf.size n ⟨b, off, none⟩ n n cs (by rw [hi1, Nat.mul_one]; exact hcs) (fun j v hv => ?_)
        rw [addr_add]
        exact cell_of (w := w.drew) (hS' _ _ h3) (h4 j v hv)
    have hg := run_append_grow_src (P := P) w t tx o.type e inf z ht hi hz a n n cs hold x m news hsrc' (by omega) (by omega) (growslice_fits (by omega) hbytes)
    have hge := grownCap_ge w (n + m) n e
    refine ⟨_, _, [(w.heap.size, .cells ((cs ++ news) ++ (Builtin.zeroCells z.cells (grownCap w (n + m) n e - (n + m))).toList).toArray e (0, 0))] :: H, ⟨some ⟨w.heap.size, 0, none⟩, grownCap w (n + m) n e, _, rfl, hge, .inr ⟨_, _, rfl⟩, ?_, rfl⟩, ?_, .inl (hexec hg)⟩
    · refine .inr ⟨_, 0, _, _, _, rfl, .inr (List.mem_singleton.2 rfl), fun j u hu => ?_⟩
      have hlt : j < (cs ++ news).length := by
        rcases Nat.lt_or_ge j (cs ++ news).length with h | h
        · exact h
        · rw [List.getElem?_eq_none h] at hu; cases hu
      rw [List.getElem?_toArray, Nat.zero_add, List.getElem?_append_left hlt]
      exact hu
    · have h2 := (hs.drew).new (w' := w.drew.alloc (.cells ((cs ++ news).toArray ++ Builtin.zeroCells z.cells (grownCap w (n + m) n e - (n + m))) e)) (o := .cells ((cs ++ news).toArray ++ Builtin.zeroCells z.cells (grownCap w (n + m) n e - (n + m))) e) rfl rfl rfl rfl
      have e1 : ((cs ++ news) ++ (Builtin.zeroCells z.cells (grownCap w (n + m) n e - (n + m))).toList).toArray = (cs ++ news).toArray ++ Builtin.zeroCells z.cells (grownCap w (n + m) n e - (n + m)) := by apply Array.ext'; simp
      rw [e1]; exact h2
end Go.Sw
namespace Go.Proofs.YtlaoeiaaeifidaaGreat
open Go.Sw Go.Lib Go.Vf Go.RowKit
theorem vClip (an : Option Addr) (n cn : Nat) (hnc : n ≤ cn) (hna : n = 0 ∨ ∃ b off, an = some ⟨b, off, none⟩) (W0 : World) (H : List Grp) : Tri Tryz.prog 64 #[.slice an n cn] W0 H (fun v H' => v = .slice an n n ∧ H' = H) := by
 refine Tri_of (args := [.slice an n cn]) (n := 9) Tryz.func64 rfl rfl (Nat.le_of_ble_eq_true rfl) ?_
 refine G_seq ?_
 refine G_pure (E':=[⟨0,[],.slice an n cn⟩]) [0] [0] rfl kr ?_
 refine N_then ?_
 refine G_seq ?_
 refine G_region ?_
 refine GL_p [0,0,0,0,0] kr (j:=5) rfl ?_
 refine GL_clip (i:=5) (ch:=[]) (a:=an) (len:=n) (cap:=cn) (sz:=1) (e:=5) (kd:=.i64) (kd':=.i64) rfl rfl kr kr kr kr kr kr kr kr (fun _=>hnc) hna ?_
 refine GL_fin (E':=[⟨2,[],.slice an n n⟩]) [0] [2] rfl kr ?_
 refine N_then ?_
 refine G_ret ?_
 refine N_ret [.tmp 2] [.slice an n n] rfl kr rfl ?_
 exact ⟨rfl, rfl⟩
theorem vAppendNoAny (d nb kb cb nc : Nat) (room calls : Int) (bv : Value) (fails once : Bool) (nm : SM) (path : ByteArray) (hpath : path.size ≤ 9223372036854775807) (hca : -9223372036854775808 ≤ calls ∧ calls ≤ 9223372036854775807) (ao : Option Addr) (k cap : Nat) (hg : mget nm path = none) (W0 : World) (H : List Grp) : Tri Tryz.prog 26 #[pt d, .string path, .slice ao k cap] W0 ([(d, .cells #[.int .i64 room, bv, .map (some nb), .map (some kb), .map (some cb), .bool fails, .bool once, .int .i64 calls] 72 (0, 0))] :: [(nb, .map (encM nm) nc)] :: H) (fun v H' => ((callS fails once calls (rightB path)).1 ≠ 0 ∧ v = .int .i64 (callS fails once calls (rightB path)).1 ∧ H' = ([(d, .cells #[.int .i64 room, bv, .map (some nb), .map (some kb), .map (some cb), .bool ((callS fails once calls (rightB path)).2.1), .bool once, .int .i64 ((callS fails once calls (rightB path)).2.2)] 72 (0, 0))] :: [(nb, .map (encM nm) nc)] :: H)) ∨ ((callS fails once calls (rightB path)).1 = 0 ∧ v = .int .i64 60 ∧ H' = ([(d, .cells #[.int .i64 room, bv, .map (some nb), .map (some kb), .map (some cb), .bool ((callS fails once calls (rightB path)).2.1), .bool once, .int .i64 ((callS fails once calls (rightB path)).2.2)] 72 (0, 0))] :: [(nb, .map (encM nm) nc)] :: H))) := by
 refine Tri_of (args := [pt d, .string path, .slice ao k cap]) (n := 46) Tryz.func26 rfl rfl (Nat.le_of_ble_eq_true rfl) ?_
 refine G_seq ?_
 refine G_pure (E':=[⟨0,[],pt d⟩,⟨1,[],.string path⟩,⟨2,[],.slice ao k cap⟩]) [0] [0,1,2] rfl kr ?_
 refine N_then ?_
 refine G_seq ?_
 refine G_seq ?_
 refine G_region ?_
 refine GL_p [0,0] kr (j:=2) rfl ?_
 refine GL_callQ (i:=2) (ch:=[]) (f:=34) (fst:=#[]) (caps:=#[]) (vs:=[.string path]) (v:=.bool (rightB path)) rfl rfl rfl kr kr Tryz.func34 rfl rfl kr kr kr (fun _=>vfsRight _ hpath _ _) ?_
 refine GL_call (i:=3) (ch:=[]) (f:=33) (fst:=#[]) (caps:=#[]) (vs:=[pt d,.bool (rightB path)]) rfl rfl rfl kr kr Tryz.func33 rfl rfl kr kr (chSure_of kr) (vCall d nb kb cb room calls bv fails once (rightB path) hca _ _) ?_
 rintro v H' ⟨rfl, rfl⟩
 refine GL_fin (E':=[⟨0,[],pt d⟩,⟨1,[],.string path⟩,⟨2,[],.slice ao k cap⟩,⟨7,[],.int .i64 ((callS fails once calls (rightB path)).1)⟩]) [0] [0,1,2,7] rfl kr ?_
 refine N_then ?_
 refine G_seq ?_
 refine G_pure (E':=[⟨0,[],pt d⟩,⟨1,[],.string path⟩,⟨2,[],.slice ao k cap⟩,⟨7,[],.int .i64 ((callS fails once calls (rightB path)).1)⟩,⟨14,[],.bool (((callS fails once calls (rightB path)).1) != 0)⟩]) [0,0] [0,1,2,7,14] rfl kr ?_
 refine N_then ?_
 refine G_cond (b:=((callS fails once calls (rightB path)).1) != 0) kr (fun hc1=>?_) (fun hc1=>?_)
 ·
  have hce : (callS fails once calls (rightB path)).1 ≠ 0 := by simpa using hc1
  refine G_seq ?_
  refine G_pure (E':=[⟨6,[],.int .i64 ((callS fails once calls (rightB path)).1)⟩]) [0,0] [6] rfl kr ?_
  refine N_then ?_
  refine G_ret ?_
  refine N_then_ret ?_
  refine N_ret [.tmp 6] [.int .i64 ((callS fails once calls (rightB path)).1)] rfl kr rfl ?_
  exact .inl ⟨hce, rfl, rfl⟩
 ·
  have hce : (callS fails once calls (rightB path)).1 = 0 := by simpa using hc1
  refine G_skip ?_
  refine N_then ?_
  refine G_seq ?_
  refine G_region ?_
  refine GL_p [0,0,0] kr (j:=3) rfl ?_
  refine GL_load (i:=3) (ch:=[]) (b:=d) (off:=2) (v:=.map (some nb)) rfl rfl kr kr kr kr kr (At.grp 0 0 rfl rfl) rfl ?_
  refine GL_p [0] kr (j:=5) rfl ?_
  refine GL_lookup (i:=5) (ch:=[]) (kt:=9) (et:=74) (r:=nb) (c:=nc) (m:=nm) (k:=path) (z:=.pointer none) (ov:=none) rfl rfl kr kr kr kr kr kr kr kr (At.grp 1 0 rfl rfl) (fun _=>hg) ?_
  refine GL_fin (E':=[⟨0,[],pt d⟩,⟨2,[],.slice ao k cap⟩,⟨8,[],.pointer none⟩]) [0] [0,2,8] rfl kr ?_
  refine N_then ?_
  refine G_seq ?_
  refine G_block ?_
  refine G_seq ?_
  refine G_pure (E':=[⟨0,[],pt d⟩,⟨2,[],.slice ao k cap⟩,⟨8,[],.pointer none⟩,⟨22,[],.bool true⟩]) [0,0,0] [0,2,8,22] rfl kr ?_
  refine N_then ?_
  refine G_condt kr ?_
  refine G_seq ?_
  refine G_pure (E':=[⟨6,[],.int .i64 60⟩]) [0] [6] rfl kr ?_
  refine N_then ?_
  refine G_ret ?_
  refine N_block_ret ?_
  refine N_then_ret ?_
  refine N_ret [.tmp 6] [.int .i64 60] rfl kr rfl ?_
  exact .inr ⟨hce, rfl, rfl⟩
theorem vAppendAny (d nb kb cb nc : Nat) (room calls : Int) (bv : Value) (fails once : Bool) (nm : SM) (path : ByteArray) (hpath : path.size ≤ 9223372036854775807) (hca : -9223372036854775808 ≤ calls ∧ calls ≤ 9223372036854775807) (ao : Option Addr) (k cap : Nat) (szf : Value → Nat) (hn : MapOk nm nc) (hs : sumN szf nm ≤ 1000000000000) (p n cn m ck : Nat) (an ak : Option Addr) (hg : mget nm path = some (.pointer (some ⟨p, 0, none⟩))) (S : Nat → Obj → Prop) (l0 : List UInt8) (hrd0 : Rd S an (u8s l0)) (hl0 : l0.length = n) (hnn : n ≤ 1000000000) (hnc : n ≤ cn) (hna : (an = none ∧ n = 0 ∧ cn = 0) ∨ ∃ b off, an = some ⟨b, off, none⟩) (S2 : Nat → Obj → Prop) (l : List UInt8) (hao : ao = none → k = 0) (hrd : Rd S2 ao (u8s l)) (hl : l.length = k) (hkn : k ≤ 1000000000) (W0 : World) (H : List Grp) (hS : ∀ y o, S y o → At W0 H y o) (hS2 : ∀ y o, S2 y o → At W0 H y o) (hB : ∀ e ∈ nm, ∃ p1 a c kv, e.2.1 = .pointer (some ⟨p1, 0, none⟩) ∧ At W0 ([(p, .cells #[.slice an n cn, .slice ak m ck] 76 (0, 0))] :: H) p1 (.cells #[.slice a (szf e.2.1) c, kv] 76 (0, 0))) : Tri Tryz.prog 26 #[pt d, .string path, .slice ao k cap] W0 ([(d, .cells #[.int .i64 room, bv, .map (some nb), .map (some kb), .map (some cb), .bool fails, .bool once, .int .i64 calls] 72 (0, 0))] :: [(nb, .map (encM nm) nc)] :: [(p, .cells #[.slice an n cn, .slice ak m ck] 76 (0, 0))] :: H) (fun v H' => ((callS fails once calls (rightB path)).1 ≠ 0 ∧ v = .int .i64 (callS fails once calls (rightB path)).1 ∧ H' = ([(d, .cells #[.int .i64 room, bv, .map (some nb), .map (some kb), .map (some cb), .bool ((callS fails once calls (rightB path)).2.1), .bool once, .int .i64 ((callS fails once calls (rightB path)).2.2)] 72 (0, 0))] :: [(nb, .map (encM nm) nc)] :: [(p, .cells #[.slice an n cn, .slice ak m ck] 76 (0, 0))] :: H)) ∨ ((callS fails once calls (rightB path)).1 = 0 ∧ ((sumN szf nm : Nat) : Int) + (k : Int) > room ∧ v = .int .i64 61 ∧ H' = ([(d, .cells #[.int .i64 room, bv, .map (some nb), .map (some kb), .map (some cb), .bool ((callS fails once calls (rightB path)).2.1), .bool once, .int .i64 ((callS fails once calls (rightB path)).2.2)] 72 (0, 0))] :: [(nb, .map (encM nm) nc)] :: [(p, .cells #[.slice an n cn, .slice ak m ck] 76 (0, 0))] :: H)) ∨ ((callS fails once calls (rightB path)).1 = 0 ∧ ¬ ((sumN szf nm : Nat) : Int) + (k : Int) > room ∧ v = .int .i64 0 ∧ ∃ a' cap' g, n + k ≤ cap' ∧ ((a' = none ∧ n + k = 0 ∧ cap' = 0) ∨ ∃ b off, a' = some ⟨b, off, none⟩) ∧ Rd (fun b o => S b o ∨ inG g b o) a' (u8s l0 ++ u8s l) ∧ H' = ([(d, .cells #[.int .i64 room, bv, .map (some nb), .map (some kb), .map (some cb), .bool ((callS fails once calls (rightB path)).2.1), .bool once, .int .i64 ((callS fails once calls (rightB path)).2.2)] 72 (0, 0))] :: [(nb, .map (encM nm) nc)] :: [(p, .cells #[.slice a' (n + k) cap', .slice ak m ck] 76 (0, 0))] :: g :: H))) := by
 refine Tri_of (args := [pt d, .string path, .slice ao k cap]) (n := 46) Tryz.func26 rfl rfl (Nat.le_of_ble_eq_true rfl) ?_
 refine G_seq ?_
 refine G_pure (E':=[⟨0,[],pt d⟩,⟨1,[],.string path⟩,⟨2,[],.slice ao k cap⟩]) [0] [0,1,2] rfl kr ?_
 refine N_then ?_
 refine G_seq ?_
 refine G_seq ?_
 refine G_region ?_
 refine GL_p [0,0] kr (j:=2) rfl ?_
 refine GL_callQ (i:=2) (ch:=[]) (f:=34) (fst:=#[]) (caps:=#[]) (vs:=[.string path]) (v:=.bool (rightB path)) rfl rfl rfl kr kr Tryz.func34 rfl rfl kr kr kr (fun _=>vfsRight _ hpath _ _) ?_
 refine GL_call (i:=3) (ch:=[]) (f:=33) (fst:=#[]) (caps:=#[]) (vs:=[pt d,.bool (rightB path)]) rfl rfl rfl kr kr Tryz.func33 rfl rfl kr kr (chSure_of kr) (vCall d nb kb cb room calls bv fails once (rightB path) hca _ _) ?_
 rintro v H' ⟨rfl, rfl⟩
 refine GL_fin (E':=[⟨0,[],pt d⟩,⟨1,[],.string path⟩,⟨2,[],.slice ao k cap⟩,⟨7,[],.int .i64 ((callS fails once calls (rightB path)).1)⟩]) [0] [0,1,2,7] rfl kr ?_
 refine N_then ?_
 refine G_seq ?_
 refine G_pure (E':=[⟨0,[],pt d⟩,⟨1,[],.string path⟩,⟨2,[],.slice ao k cap⟩,⟨7,[],.int .i64 ((callS fails once calls (rightB path)).1)⟩,⟨14,[],.bool (((callS fails once calls (rightB path)).1) != 0)⟩]) [0,0] [0,1,2,7,14] rfl kr ?_
 refine N_then ?_
 refine G_cond (b:=((callS fails once calls (rightB path)).1) != 0) kr (fun hc1=>?_) (fun hc1=>?_)
 ·
  have hce : (callS fails once calls (rightB path)).1 ≠ 0 := by simpa using hc1
  refine G_seq ?_
  refine G_pure (E':=[⟨6,[],.int .i64 ((callS fails once calls (rightB path)).1)⟩]) [0,0] [6] rfl kr ?_
  refine N_then ?_
  refine G_ret ?_
  refine N_then_ret ?_
  refine N_ret [.tmp 6] [.int .i64 ((callS fails once calls (rightB path)).1)] rfl kr rfl ?_
  exact .inl ⟨hce, rfl, rfl⟩
 ·
  have hce : (callS fails once calls (rightB path)).1 = 0 := by simpa using hc1
  refine G_skip ?_
  refine N_then ?_
  refine G_seq ?_
  refine G_region ?_
  refine GL_p [0,0,0] kr (j:=3) rfl ?_
  refine GL_load (i:=3) (ch:=[]) (b:=d) (off:=2) (v:=.map (some nb)) rfl rfl kr kr kr kr kr (At.grp 0 0 rfl rfl) rfl ?_
  refine GL_p [0] kr (j:=5) rfl ?_
  refine GL_lookup (i:=5) (ch:=[]) (kt:=9) (et:=74) (r:=nb) (c:=nc) (m:=nm) (k:=path) (z:=.pointer none) (ov:=(some (pt p))) rfl rfl kr kr kr kr kr kr kr kr (At.grp 1 0 rfl rfl) (fun _=>hg) ?_
  refine GL_fin (E':=[⟨0,[],pt d⟩,⟨2,[],.slice ao k cap⟩,⟨8,[],pt p⟩]) [0] [0,2,8] rfl kr ?_
  refine N_then ?_
  refine G_seq ?_
  refine G_block ?_
  refine G_seq ?_
  refine G_pure (E':=[⟨0,[],pt d⟩,⟨2,[],.slice ao k cap⟩,⟨8,[],pt p⟩,⟨22,[],.bool false⟩]) [0,0,0] [0,2,8,22] rfl kr ?_
  refine N_then ?_
  refine G_condf kr ?_
  refine G_seq ?_
  refine G_regionH ([(d,.cells #[.int .i64 room,bv,.map (some nb),.map (some kb),.map (some cb),.bool ((callS fails once calls (rightB path)).2.1),.bool once,.int .i64 ((callS fails once calls (rightB path)).2.2)] 72 (0,0))]::[(nb,.map (encM nm) nc)]::[(p,.cells #[.slice an n cn,.slice ak m ck] 76 (0,0))]::H) kr ?_
  refine GH_p (fuel:=9) [(0,0),(2,0)] (fun w h=>h) kr rfl ?_
  refine GH_pev (v:=.int .i64 ((k : Nat) : Int)) 3 rfl rfl kr kr kr kr kr (fun w h=>h) ?_
  refine GH_p (fuel:=7) [(5,0)] (fun w h=>h) kr rfl ?_
  refine GH_nil (ad:=⟨d,0,none⟩) 6 rfl rfl rfl kr kr kr kr kr (fun w h=>h) ?_
  refine GH_p (fuel:=5) [(7,0)] (fun w h=>h) kr rfl ?_
  refine GH_take' 8 kr (fun w h=>h) (GL_load (i:=8) (ch:=[]) (b:=d) (off:=0) (v:=.int .i64 room) rfl rfl kr kr kr kr kr (At.grp 0 0 rfl rfl) rfl (GL_yend kr rfl)) ?_
  refine GH_eff 1 kr kr kr ?_
  refine GL_call (i:=1) (ch:=[]) (f:=35) (fst:=#[]) (caps:=#[]) (vs:=[pt d]) rfl rfl rfl kr kr Tryz.func35 rfl rfl kr kr (chSure_of kr) (vUsed d nb kb cb nc room ((callS fails once calls (rightB path)).2.2) bv ((callS fails once calls (rightB path)).2.1) once nm szf hn hs _ _ hB) ?_
  rintro v H' ⟨rfl, rfl⟩
  refine GH_back kr (fun w h=>h) ?_
  refine GH_p (fuel:=2) [(4,0)] (fun w h=>h) kr rfl ?_
  refine GH_wi 30 (((sumN szf nm : Nat) : Int)+((k : Nat) : Int)) (by omega) (by omega) kr ?_
  refine GH_p (fuel:=0) [(9,0),(10,0)] (fun w h=>h) kr rfl ?_
  refine GH_done (E':=[⟨2,[],.slice ao k cap⟩,⟨8,[],pt p⟩,⟨25,[],.bool (decide ((((sumN szf nm : Nat) : Int)+((k : Nat) : Int)) > room))⟩]) [2,8,25] kr kr ?_
  refine N_then ?_
  refine G_cond (b:=decide ((((sumN szf nm : Nat) : Int)+((k : Nat) : Int)) > room)) kr (fun hc3=>?_) (fun hc3=>?_)
  ·
   have hro := of_decide_eq_true hc3
   refine G_seq ?_
   refine G_pure (E':=[⟨6,[],.int .i64 61⟩]) [0] [6] rfl kr ?_
   refine N_then ?_
   refine G_ret ?_
   refine N_block_ret ?_
   refine N_then_ret ?_
   refine N_ret [.tmp 6] [.int .i64 61] rfl kr rfl ?_
   exact .inr (.inl ⟨hce, hro, rfl, rfl⟩)
  ·
   have hro := of_decide_eq_false hc3
   refine G_skip ?_
   refine N_block ?_
   refine N_then ?_
   refine G_seq ?_
   refine G_region ?_
   refine GL_p [0,0,0,0] kr (j:=4) rfl ?_
   refine GL_load (i:=4) (ch:=[]) (b:=p) (off:=0) (v:=.slice an n cn) rfl rfl kr kr kr kr kr (At.grp 2 0 rfl rfl) rfl ?_
   refine GL_callQ (i:=5) (ch:=[]) (f:=64) (fst:=#[]) (caps:=#[]) (vs:=[.slice an n cn]) (v:=.slice an n n) rfl rfl rfl kr kr Tryz.func64 rfl rfl kr kr kr (fun _=>vClip an n cn hnc (hna.imp (fun h=>h.2.1) id) _ _) ?_
   refine GL_p [0] kr (j:=7) rfl ?_
   refine GL_appendFull (i:=7) (ch:=[]) (t:=22) (tx:=22) (e:=5) (inf:=Tryz.t5) (x:=.slice ao k cap) (a:=an) (n:=n) (m:=k) (cs:=(u8s l0)) (news:=(u8s l)) (S:=S) (S2:=S2) rfl rfl rfl rfl kr kr kr rfl rfl (.inl ⟨5,kr⟩) (fun ⟨_,h⟩=>by cases h) (fun _=>⟨5,kr⟩) kr kr kr hrd0 (by rw [u8s_len]; exact hl0) (hna.imp (fun h=>⟨h.1,h.2.1⟩) id) (SrcOf.slice _ _ _ _ hrd hao) (fun y o h=>(At.cons (At.cons (At.cons (hS y o h))))) (fun y o h=>(At.cons (At.cons (At.cons (hS2 y o h))))) (by rw [u8s_len]; exact hl) u8s_one (by omega) (by show (n+k) * 1 ≤ _; omega) (fun a4 cap5 g6 hcap7 haa8 hrd9=>?_)
   refine GL_p [0,0] kr (j:=10) rfl ?_
   refine GL_st (i:=10) (ch:=[]) (b:=p) (off:=0) (v:=.slice a4 (n+k) cap5) (j:=3) (g6::[(d,.cells #[.int .i64 room,bv,.map (some nb),.map (some kb),.map (some cb),.bool ((callS fails once calls (rightB path)).2.1),.bool once,.int .i64 ((callS fails once calls (rightB path)).2.2)] 72 (0,0))]::[(nb,.map (encM nm) nc)]::[(p,.cells #[.slice a4 (n+k) cap5,.slice ak m ck] 76 (0,0))]::H) rfl rfl kr kr kr kr kr kr kr rfl rfl (Nat.le_of_ble_eq_true rfl) (fun _ _=>thaw0) kr ?_
   refine GL_fin (E':=[]) [] [] rfl kr ?_
   refine N_then ?_
   refine G_seq ?_
   refine G_pure (E':=[⟨6,[],.int .i64 0⟩]) [0] [6] rfl kr ?_
   refine N_then ?_
   refine G_ret ?_
   refine N_heap (H':=([(d,.cells #[.int .i64 room,bv,.map (some nb),.map (some kb),.map (some cb),.bool ((callS fails once calls (rightB path)).2.1),.bool once,.int .i64 ((callS fails once calls (rightB path)).2.2)] 72 (0,0))]::[(nb,.map (encM nm) nc)]::[(p,.cells #[.slice a4 (n+k) cap5,.slice ak m ck] 76 (0,0))]::g6::H)) (fun w h=>(((h.front (j:=3) rfl).front (j:=3) rfl).front (j:=3) rfl)) ?_
   refine N_ret [.tmp 6] [.int .i64 0] rfl kr rfl ?_
   exact .inr (.inr ⟨hce, hro, rfl, a4, cap5, g6, hcap7, haa8, hrd9, rfl⟩)
end Go.Proofs.YtlaoeiaaeifidaaGreat
namespace Go.Vf
open Go.Sw Go.RowKit
structure DS where
  nb : Nat
  kb : Nat
  cb : Nat
  nm : SM
  km : SM
  cm : SM
  nc : Nat
  kc : Nat
  cc : Nat
  ba : Option Addr
  bc : Nat
  bg : Grp
  bs : List BE
  rows : List RW
  Z : List Grp
def dkO (M : DM) (s : DS) : Obj := .cells #[.int .i64 M.room, .slice s.ba s.bs.length s.bc, .map (some s.nb), .map (some s.kb), .map (some s.cb), .bool M.fails, .bool M.once, .int .i64 M.calls] 72 (0, 0)
def DS.G (s : DS) (d : Nat) (M : DM) : List Grp :=
  [(d, dkO M s)] :: [(s.nb, .map (encM s.nm) s.nc)] :: [(s.kb, .map (encM s.km) s.kc)] :: [(s.cb, .map (encM s.cm) s.cc)] :: s.bg :: bodyG s.bs :: (rowsG s.rows ++ s.Z)
def inZ (Z : List Grp) (y : Nat) (o : Obj) : Prop := (y, o) ∈ Z.flatten
theorem inZ_app {K Z : List Grp} {y : Nat} {o : Obj} (h : inZ Z y o) : inZ (K ++ Z) y o := by
  unfold inZ at h ⊢
  rw [List.flatten_append]; exact List.mem_append_right _ h
def psOf (bs : List BE) : List Nat := bs.map (·.p)
structure BodyR (S : Nat → Obj → Prop) (b : BE) (B : Body) : Prop where
  n : b.n = B.now.size
  cn : b.n ≤ b.cn
  an : (b.an = none ∧ b.n = 0 ∧ b.cn = 0) ∨ ∃ k off, b.an = some ⟨k, off, none⟩
  now : Rd S b.an (u8s B.now.data.toList)
  m : b.m = B.kept.size
  cm : b.m ≤ b.ck
  am : (b.ak = none ∧ b.m = 0 ∧ b.ck = 0) ∨ ∃ k off, b.ak = some ⟨k, off, none⟩
  kept : Rd S b.ak (u8s B.kept.data.toList)
theorem BodyR.mono {S S' : Nat → Obj → Prop} {b : BE} {B : Body} (h : BodyR S b B) (hs : ∀ y o, S y o → S' y o) : BodyR S' b B :=
  ⟨h.n, h.cn, h.an, h.now.mono hs, h.m, h.cm, h.am, h.kept.mono hs⟩
def QR (Z : List Grp) (ps : List Nat) (q : Nat) (l : List Nm) : Prop := ∃ x c, inZ Z q (.map (encM x) c) ∧ MapOk x c ∧ ChangeR ps x l
structure DS.ok (s : DS) (M : DM) : Prop where
  own : Go.Sw.Own 74 1 (.slice s.ba s.bs.length s.bc) s.bg s.bs.length (s.bs.map fun b => Value.pointer (some ⟨b.p, 0, none⟩))
  nok : MapOk s.nm s.nc
  kok : MapOk s.km s.kc
  cok : MapOk s.cm s.cc
  names : NamesR (psOf s.bs) s.nm M.names
  kept : NamesR (psOf s.bs) s.km M.kept
  rows : RowsOk s.cm s.rows
  chs : ∀ d, All2 (QR s.Z (psOf s.bs)) (rowOf s.rows d) (chOf M.changes d)
  bods : All2 (BodyR (inZ s.Z)) s.bs M.bodies
structure Small (M : DM) : Prop where
  bodies : M.bodies.length ≤ 100000
  size : ∀ B ∈ M.bodies, B.now.size ≤ 10000000 ∧ B.kept.size ≤ B.now.size
  names : M.names.length ≤ 10000
  changes : M.changes.length ≤ 100000
  calls : -9223372036854775808 ≤ M.calls ∧ M.calls ≤ 9223372036854775807
  paths : ∀ x ∈ M.names, x.1.size ≤ 1000000
  dirs : ∀ c ∈ M.changes, c.dir.size ≤ 1000000
theorem ok_call {s : DS} {M : DM} (h : s.ok M) (r : Bool) : s.ok (callM M r) := ⟨h.own, h.nok, h.kok, h.cok, h.names, h.kept, h.rows, h.chs, h.bods⟩
def szV (bs : List BE) : Value → Nat
  | .pointer (some a) => match bs.find? (fun b => b.p == a.block) with | some b => b.n | none => 0
  | _ => 0
theorem szV_of {bs : List BE} (hn : (psOf bs).Nodup) : ∀ i : Nat, i < bs.length → szV bs (ptrV (bs.getD i default).p) = (bs.getD i default).n := by
  unfold szV ptrV
  simp only
  induction bs with
  | nil => intro i h; simp at h
  | cons b bs ih =>
    intro i hi
    unfold psOf at hn
    rw [List.map_cons, List.nodup_cons] at hn
    cases i with
    | zero => simp
    | succ i =>
      have hi' : i < bs.length := by simpa using hi
      have hne : (b.p == (bs.getD i default).p) = false := by
        rw [beq_eq_false_iff_ne]; intro h
        refine hn.1 (List.mem_map.2 ⟨bs.getD i default, getD_mem hi', h.symm⟩)
      rw [List.getD_cons_succ, List.find?_cons, hne]
      exact ih hn.2 i hi'
theorem ps_getD {bs : List BE} {i : Nat} (h : i < bs.length) : (psOf bs).getD i 0 = (bs.getD i default).p := by
  unfold psOf
  rw [List.getD_eq_getElem?_getD, List.getD_eq_getElem?_getD, List.getElem?_map, List.getElem?_eq_getElem h]; rfl
theorem psOf_len (bs : List BE) : (psOf bs).length = bs.length := by unfold psOf; rw [List.length_map]
theorem sz_at {s : DS} {M : DM} (h : s.ok M) (hn : (psOf s.bs).Nodup) {k : Int} (hk : k.toNat < s.bs.length) : szV s.bs (ptrOf (psOf s.bs) k) = sizeAt M k := by
  unfold ptrOf
  rw [ps_getD hk, szV_of hn _ hk]
  exact (h.bods.get default default _ hk).n
theorem sum_used {s : DS} {M : DM} (h : s.ok M) (hn : (psOf s.bs).Nodup) : sumN (szV s.bs) s.nm = usedM M := by
  have hp := (names_perm h.names h.nok).map fun y => szV s.bs y.2
  rw [List.map_map, List.map_map] at hp
  have e := hp.sum_nat
  unfold sumN usedM
  rw [show (s.nm.map fun e => szV s.bs e.2.1) = s.nm.map ((fun y => szV s.bs y.2) ∘ fun e => (e.1, e.2.1)) from rfl, e]
  congr 1
  refine List.map_congr_left fun x hx => ?_
  exact sz_at h hn (by have := (h.names.lt x hx).2; rwa [psOf_len] at this)
theorem used_le {M : DM} (hs : Small M) (hl : ∀ x ∈ M.names, x.2.toNat < M.bodies.length) : usedM M ≤ 100000000000 := by
  have h : ∀ l : List Nm, (∀ x ∈ l, x.2.toNat < M.bodies.length) → (l.map fun x => sizeAt M x.2).sum ≤ l.length * 10000000 := by
    intro l
    induction l with
    | nil => intro _; simp
    | cons x l ih =>
      intro hx
      have h1 := ih fun y hy => hx y (List.mem_cons_of_mem _ hy)
      have h2 : sizeAt M x.2 ≤ 10000000 := by
        have hlt := hx x List.mem_cons_self
        unfold sizeAt bodyAt
        rw [List.getD_eq_getElem?_getD, List.getElem?_eq_getElem hlt]
        exact (hs.size _ (List.getElem_mem hlt)).1
      rw [List.map_cons, List.sum_cons, List.length_cons]
      omega
  have := h M.names hl
  have h2 := hs.names
  unfold usedM
  omega
theorem names_ptr {s : DS} {M : DM} (h : s.ok M) {e : ByteArray × Value × Nat} (he : e ∈ s.nm) : ∃ k : Int, lookN M.names e.1 = some k ∧ k.toNat < s.bs.length ∧ e.2.1 = ptrOf (psOf s.bs) k := by
  obtain ⟨p, v, c⟩ := e
  have h1 := mget_of h.nok.nodup he
  rw [h.names.look] at h1
  cases hl : lookN M.names p with
  | none => rw [hl] at h1; cases h1
  | some k =>
    rw [hl] at h1
    injection h1 with h1
    exact ⟨k, rfl, by have := (h.names.lt _ (lookN_mem hl)).2; rwa [psOf_len] at this, h1.symm⟩
theorem names_at {s : DS} {M : DM} (h : s.ok M) (hn : (psOf s.bs).Nodup) {W0 : World} {H : List Grp} (hH : ∀ x ∈ bodyG s.bs, x ∈ H.flatten) :
    ∀ e ∈ s.nm, ∃ p a c kv, e.2.1 = .pointer (some ⟨p, 0, none⟩) ∧ At W0 H p (.cells #[.slice a (szV s.bs e.2.1) c, kv] 76 (0, 0)) := by
  intro e he
  obtain ⟨k, _, hk, h2⟩ := names_ptr h he
  refine ⟨(s.bs.getD k.toNat default).p, (s.bs.getD k.toNat default).an, (s.bs.getD k.toNat default).cn, .slice (s.bs.getD k.toNat default).ak (s.bs.getD k.toNat default).m (s.bs.getD k.toNat default).ck, ?_, .inr (hH _ ?_)⟩
  · rw [h2, ptrOf, ps_getD hk]; rfl
  · rw [h2, ptrOf, ps_getD hk, szV_of hn _ hk]
    exact List.mem_of_getElem? (bodyG_at hk)
theorem ps_nodup {s : DS} {d : Nat} {M : DM} {W0 : World} {H : List Grp} {w : World} (h : Sat W0 (s.G d M ++ H) w) : (psOf s.bs).Nodup := by
  have hn := h.nodup
  have : (bodyG s.bs).Sublist (s.G d M ++ H).flatten := List.sublist_flatten_of_mem (List.mem_append_left _ (by simp [DS.G]))
  have h2 := hn.sublist (this.map Prod.fst)
  unfold bodyG at h2
  rw [List.map_map] at h2
  exact h2
theorem tri_sat {P : Program} {f : FuncId} {args : Array Value} {W0 : World} {H : List Grp} {R : Value → List Grp → Prop} (h : (∃ w, Sat W0 H w) → Tri P f args W0 H R) : Tri P f args W0 H R := fun w hs => h ⟨w, hs⟩ w hs
theorem qr_mono {K Z : List Grp} {ps : List Nat} {q : Nat} {l : List Nm} (h : QR Z ps q l) : QR (K ++ Z) ps q l := by
  obtain ⟨x, c, h1, h2, h3⟩ := h
  exact ⟨x, c, inZ_app h1, h2, h3⟩
theorem ok_body {s : DS} {M : DM} (h : s.ok M) {p : Nat} {a1 a2 : Option Addr} {n c1 c2 : Nat} {g1 bg2 : Grp} {b : ByteArray} (hb : b.size = n) (h1 : Go.Sw.Own 5 1 (.slice a1 n c1) g1 n (u8s b.data.toList)) (h2 : Go.Sw.Own 74 1 (.slice a2 (s.bs.length + 1) c2) bg2 (s.bs.length + 1) (s.bs.map (fun b => Value.pointer (some ⟨b.p, 0, none⟩)) ++ [.pointer (some ⟨p, 0, none⟩)])) :
    DS.ok { s with ba := a2, bc := c2, bg := bg2, bs := s.bs ++ [⟨p, a1, n, c1, none, 0, 0⟩], Z := g1 :: s.Z } { M with bodies := M.bodies ++ [⟨b, ByteArray.mk #[]⟩] } := by
  have hps : psOf (s.bs ++ [⟨p, a1, n, c1, none, 0, 0⟩]) = psOf s.bs ++ [p] := by unfold psOf; rw [List.map_append]; rfl
  obtain ⟨a, c, he, hc, hr⟩ := h1.shape
  injection he with e1 e2 e3
  subst e1 e3
  have ha : (a1 = none ∧ n = 0 ∧ c1 = 0) ∨ ∃ k off, a1 = some ⟨k, off, none⟩ := by
    obtain ⟨_, ⟨he, _, hn⟩ | ⟨k, cap, junk, he, _⟩⟩ := h1
    · injection he with e1 e2 e3; exact .inl ⟨e1, e2, e3⟩
    · injection he with e1 e2 e3; exact .inr ⟨k, 0, e1⟩
  refine ⟨?_, h.nok, h.kok, h.cok, ?_, ?_, h.rows, fun d => ?_, ?_⟩
  · simp only [List.length_append, List.length_cons, List.length_nil, List.map_append, List.map_cons, List.map_nil]; exact h2
  · rw [hps]; exact h.names.mono p
  · rw [hps]; exact h.kept.mono p
  · rw [hps]
    refine (h.chs d).imp fun q l ⟨x, c, h1, h2, h3⟩ => ⟨x, c, inZ_app (K := [g1]) h1, h2, h3.mono p⟩
  · refine (h.bods.imp fun b B hb => hb.mono fun y o h => inZ_app (K := [g1]) h).app (.cons ⟨hb.symm, hc, ha, hr.mono fun y o h => ?_, rfl, Nat.le_refl _, .inl ⟨rfl, rfl, rfl⟩, .inl rfl⟩ .nil)
    show (y, o) ∈ (g1 :: s.Z).flatten
    rw [List.flatten_cons]; exact List.mem_append_left _ h
theorem chOf_snoc (l : List Ch) (c : Ch) (d : ByteArray) : chOf (l ++ [c]) d = if d == c.dir then chOf l d ++ [c.l] else chOf l d := by
  unfold chOf
  rw [List.filter_append, List.map_append, List.filter_cons]
  cases d == c.dir <;> simp
theorem ok_change {s : DS} {M : DM} (h : s.ok M) {dir : ByteArray} {l : List Nm} {q xc : Nat} {x dn : SM} {cx : Value} {rows1 : List RW} (hx : MapOk x xc) (hc : ChangeR (psOf s.bs) x l) (hd : dn.Perm x) (hR : RowsOk (mput s.cm s.cc dir cx) rows1) (hA : RowsAdd s.rows dir q rows1) :
    DS.ok { s with nm := (foldS (s.nm, s.nc) dn).1, nc := (foldS (s.nm, s.nc) dn).2, cm := mput s.cm s.cc dir cx, cc := if mhas s.cm dir then s.cc else s.cc + 1, rows := rows1, Z := [(q, .map (encM x) xc)] :: s.Z } (changeM M dir l) := by
  refine ⟨h.own, MapOk.fold (s := (s.nm, s.nc)) h.nok dn, h.kok, h.cok.put _ _, names_apply h.names h.nok hx hc hd, h.kept, hR, fun d => ?_, h.bods.imp fun b B hb => hb.mono fun y o h => inZ_app (K := [[(q, .map (encM x) xc)]]) h⟩
  show All2 _ (rowOf rows1 d) (chOf (M.changes ++ [⟨dir, l⟩]) d)
  rw [rowsAdd_of hA, chOf_snoc]
  have h0 := (h.chs d).imp fun q' l' hq => qr_mono (K := [[(q, .map (encM x) xc)]]) hq
  have key : All2 (QR ([[(q, .map (encM x) xc)]] ++ s.Z) (psOf s.bs)) (if (d == dir) = true then rowOf s.rows d ++ [q] else rowOf s.rows d) (if (d == dir) = true then chOf M.changes d ++ [l] else chOf M.changes d) := by
    split
    · refine h0.app (.cons ⟨x, xc, ?_, hx, hc⟩ .nil)
      show (q, _) ∈ List.flatten ([(q, _)] :: s.Z)
      rw [List.flatten_cons]; exact List.mem_append_left _ (List.mem_singleton.2 rfl)
    · exact h0
  exact key
theorem rows_le {s : DS} {M : DM} (h : s.ok M) (hs : Small M) : ∀ r ∈ s.rows, r.qs.length ≤ 1000000 := by
  intro r hr
  have hk : (s.rows.map (·.dir)).Nodup := by
    have h1 : (s.cm.map (fun e => (e.1, e.2.1))).map Prod.fst = (s.rows.map (fun r => (r.dir, r.v))).map Prod.fst := by rw [h.rows.1]
    rw [List.map_map, List.map_map] at h1
    have h2 := h.cok.nodup
    rw [show (s.cm.map Prod.fst) = s.cm.map (Prod.fst ∘ fun e => (e.1, e.2.1)) from rfl, h1] at h2
    exact h2
  have hrow : rowOf s.rows r.dir = r.qs := by
    have : ∀ rows : List RW, (rows.map (·.dir)).Nodup → r ∈ rows → rowOf rows r.dir = r.qs := by
      intro rows
      induction rows with
      | nil => intro _ h; cases h
      | cons y rows ih =>
        intro hn hm
        rw [List.map_cons, List.nodup_cons] at hn
        rw [rowOf]
        rcases List.mem_cons.1 hm with rfl | hm
        · rw [if_pos (baEq.2 rfl)]
        · rw [if_neg, ih hn.2 hm]
          intro he
          rw [baEq] at he
          exact hn.1 (List.mem_map.2 ⟨r, hm, he⟩)
    exact this s.rows hk hr
  have h1 := (h.chs r.dir).len
  rw [hrow] at h1
  have h2 : (chOf M.changes r.dir).length ≤ M.changes.length := by
    unfold chOf
    rw [List.length_map]; exact List.length_filter_le _ _
  have := hs.changes
  omega
end Go.Vf
namespace Go.Vf
open Go.Sw Go.RowKit Go.Proofs Go.Proofs.YtlaoeiaaeifidaaGreat
def Is (d : Nat) (M : DM) (v0 : Value) (H : List Grp) : Value → List Grp → Prop := fun v H' => v = v0 ∧ ∃ s : DS, s.ok M ∧ H' = s.G d M ++ H
def BytesV (W0 : World) (H : List Grp) (v : Value) (b : ByteArray) : Prop :=
  ∃ a cap S, v = .slice a b.size cap ∧ Sh a b.size cap ∧ Rd S a (u8s b.data.toList) ∧ ∀ y o, S y o → At W0 H y o
theorem lookN_lt {s : DS} {M : DM} (h : s.ok M) {p : ByteArray} {k : Int} (hl : lookN M.names p = some k) : 0 ≤ k ∧ k.toNat < s.bs.length := by
  have := h.names.lt _ (lookN_mem hl)
  rw [psOf_len] at this; exact this
theorem small_at {M : DM} (hm : Small M) (k : Int) : sizeAt M k ≤ 10000000 := by
  unfold sizeAt bodyAt
  rw [List.getD_eq_getElem?_getD]
  by_cases h : k.toNat < M.bodies.length
  · rw [List.getElem?_eq_getElem h]; exact (hm.size _ (List.getElem_mem h)).1
  · rw [List.getElem?_eq_none (by omega)]; exact Nat.zero_le _
theorem used_small {s : DS} {M : DM} (h : s.ok M) (hm : Small M) : usedM M ≤ 100000000000 :=
  used_le hm fun x hx => by have := (h.names.lt x hx).2; rw [psOf_len] at this; rw [← h.bods.len]; exact this
theorem mget_lk {s : DS} {M : DM} (h : s.ok M) {p : ByteArray} {k : Int} (hl : lookN M.names p = some k) : mget s.nm p = some (.pointer (some ⟨(s.bs.getD k.toNat default).p, 0, none⟩)) := by
  rw [h.names.look, hl, Option.map_some, ptrOf, ps_getD (lookN_lt h hl).2]; rfl
theorem mget_no {s : DS} {M : DM} (h : s.ok M) {p : ByteArray} (hl : lookN M.names p = none) : mget s.nm p = none := by rw [h.names.look, hl]; rfl
theorem was_no {M : DM} {p : ByteArray} (hl : lookN M.names p = none) : wasM M p = 0 := by unfold wasM; rw [hl]
theorem was_yes {s : DS} {M : DM} (h : s.ok M) (hn : (psOf s.bs).Nodup) {p : ByteArray} {k : Int} (hl : lookN M.names p = some k) : wasM M p = szV s.bs (.pointer (some ⟨(s.bs.getD k.toNat default).p, 0, none⟩)) := by
  unfold wasM
  rw [hl]
  have := sz_at h hn (lookN_lt h hl).2
  rw [ptrOf, ps_getD (lookN_lt h hl).2] at this
  exact this.symm
theorem get_at {s : DS} {M : DM} (h : s.ok M) (hn : (psOf s.bs).Nodup) {W0 : World} {H : List Grp} (hH : ∀ x ∈ bodyG s.bs, x ∈ H.flatten) (p : ByteArray) :
    mget s.nm p = none ∨ ∃ q a c kv, mget s.nm p = some (.pointer (some ⟨q, 0, none⟩)) ∧ At W0 H q (.cells #[.slice a (szV s.bs (.pointer (some ⟨q, 0, none⟩))) c, kv] 76 (0, 0)) := by
  cases hl : lookN M.names p with
  | none => exact .inl (mget_no h hl)
  | some k =>
    have hg := mget_lk h hl
    obtain ⟨c, he⟩ := mget_mem hg
    obtain ⟨q, a, c, kv, h1, h2⟩ := names_at h hn hH (W0 := W0) _ he
    injection h1 with h1; injection h1 with h1; injection h1 with h1
    refine .inr ⟨_, a, c, kv, hg, ?_⟩
    rw [← h1] at h2
    exact h2
theorem change1 {ps : List Nat} {q p : Nat} {path : ByteArray} {k : Nat} (hk : k = ps.length) (hq : q = p) : ChangeR (ps ++ [p]) [(path, .pointer (some ⟨q, 0, none⟩), 0)] [(path, (k : Int))] := by
  subst hk hq
  refine ⟨fun x => ?_, by simp, fun y hy _ => by rw [List.mem_singleton.1 hy]; simp⟩
  rw [mget_cons, lookN]
  cases x == path
  · rfl
  · simp [chV, ptrOf, ptrV]
theorem body_sub {bs : List BE} {H : List Grp} (h : bodyG bs ∈ H) : ∀ x ∈ bodyG bs, x ∈ H.flatten := fun _ hx => List.mem_flatten.2 ⟨_, h, hx⟩
def lowW (s : DS) (M : DM) (d : Nat) (H : List Grp) : List Grp :=
  [(d, dkO M s)] :: [(s.nb, .map (encM s.nm) s.nc)] :: [(s.cb, .map (encM s.cm) s.cc)] :: s.bg :: (rowsG s.rows ++ ([(s.kb, .map (encM s.km) s.kc)] :: bodyG s.bs :: (s.Z ++ H)))
theorem lowW_from {s : DS} {M : DM} {d : Nat} {H : List Grp} {W0 : World} {w : World} (hw : Sat W0 (lowW s M d H) w) : Sat W0 (s.G d M ++ H) w := sat_cnt hw fun _ x => by
  simp only [DS.G, lowW, List.cons_append, List.append_assoc]
  simp only [List.flatten_cons, List.flatten_append, List.count_append]
  omega
theorem lowW_to {s : DS} {M : DM} {d : Nat} {H : List Grp} {W0 : World} {w : World} (hw : Sat W0 (s.G d M ++ H) w) : Sat W0 (lowW s M d H) w := sat_cnt hw fun _ x => by
  simp only [DS.G, lowW, List.cons_append, List.append_assoc]
  simp only [List.flatten_cons, List.flatten_append, List.count_append]
  omega
theorem writeM_err {M : DM} {p b : ByteArray} (h : errM M (rightB p) ≠ 0) : writeM M p b = (errM M (rightB p), callM M (rightB p)) := by unfold writeM; rw [if_pos h]
theorem writeM_full {M : DM} {p b : ByteArray} (h : errM M (rightB p) = 0) (h1 : (usedM M : Int) - (wasM M p : Int) + (b.size : Int) > M.room) : writeM M p b = (61, callM M (rightB p)) := by
  unfold writeM; rw [if_neg (by simpa using h), if_pos h1]
theorem writeM_ok {M : DM} {p b : ByteArray} (h : errM M (rightB p) = 0) (h1 : ¬ (usedM M : Int) - (wasM M p : Int) + (b.size : Int) > M.room) : writeM M p b = (0, changeM { callM M (rightB p) with bodies := M.bodies ++ [⟨b, ByteArray.mk #[]⟩] } (dirB p) [(p, (M.bodies.length : Int))]) := by
  unfold writeM; rw [if_neg (by simpa using h), if_neg h1]
theorem cWrite {s : DS} {M : DM} (h : s.ok M) (hm : Small M) (d : Nat) (path b : ByteArray) (hpath : path.size ≤ 9223372036854775807) (hb : b.size ≤ 1000000000) (W0 : World) (H : List Grp) {bv : Value} (hbv : BytesV W0 H bv b) :
    Tri Tryz.prog 9 #[.pointer (some ⟨d, 0, none⟩), .string path, bv] W0 (s.G d M ++ H) (Is d (writeM M path b).2 (.int .i64 (writeM M path b).1) H) := by
  refine tri_sat fun ⟨w0, hw0⟩ => ?_
  have hn := ps_nodup hw0
  have hsum := sum_used h hn
  have hus := used_small h hm
  have hsub : ∀ x ∈ bodyG s.bs, x ∈ (rowsG s.rows ++ ([(s.kb, .map (encM s.km) s.kc)] :: bodyG s.bs :: (s.Z ++ H))).flatten := body_sub (by simp)
  have hw : ∀ v, mget s.nm path = some v → szV s.bs v ≤ 1000000000000 := fun v hv => by
    obtain ⟨c, he⟩ := mget_mem hv
    obtain ⟨k, _, hk, h2⟩ := names_ptr h he
    rw [show v = _ from h2, sz_at h hn hk]
    have := small_at hm k
    omega
  have hlen := h.bods.len
  have hmb := hm.bodies
  have hfail : ∀ (e : Int), (writeM M path b).1 = e → (writeM M path b).2 = callM M (rightB path) → ∀ (v : Value) (H1 : List Grp), v = .int .i64 e → H1 = lowW s (callM M (rightB path)) d H → ∃ H2, Is d (writeM M path b).2 (.int .i64 (writeM M path b).1) H v H2 ∧ ∀ w, Sat W0 H1 w → Sat W0 H2 w := by
    intro e e1 e2 v H1 hv hH
    refine ⟨_, ⟨by rw [e1]; exact hv, s, by rw [e2]; exact ok_call h _, rfl⟩, fun w hw => ?_⟩
    rw [hH] at hw
    rw [e2]
    exact lowW_from hw
  have hdone : ∀ (a1 a2 : Option Addr) (n c1 c2 p q : Nat) (g1 bg2 : Grp) (cx : Value) (rows1 : List RW), (writeM M path b).1 = 0 → (writeM M path b).2 = changeM { callM M (rightB path) with bodies := M.bodies ++ [⟨b, ByteArray.mk #[]⟩] } (dirB path) [(path, (M.bodies.length : Int))] →
      b.size = n → Go.Sw.Own 5 1 (.slice a1 n c1) g1 n (u8s b.data.toList) → Go.Sw.Own 74 1 (.slice a2 (s.bs.length + 1) c2) bg2 (s.bs.length + 1) (s.bs.map (fun b => Value.pointer (some ⟨b.p, 0, none⟩)) ++ [.pointer (some ⟨p, 0, none⟩)]) → RowsOk (mput s.cm s.cc (dirB path) cx) rows1 → RowsAdd s.rows (dirB path) q rows1 →
      ∀ (v : Value) (H1 : List Grp), v = .int .i64 0 → (∀ w, Sat W0 H1 w → Sat W0 ([(d, .cells #[.int .i64 M.room, .slice a2 (s.bs.length + 1) c2, .map (some s.nb), .map (some s.kb), .map (some s.cb), .bool (callS M.fails M.once M.calls (rightB path)).2.1, .bool M.once, .int .i64 (callS M.fails M.once M.calls (rightB path)).2.2] 72 (0, 0))] :: [(s.nb, .map (encM (foldS (s.nm, s.nc) [(path, .pointer (some ⟨p, 0, none⟩), 0)]).1) (foldS (s.nm, s.nc) [(path, .pointer (some ⟨p, 0, none⟩), 0)]).2)] :: [(s.cb, .map (encM (mput s.cm s.cc (dirB path) cx)) (if mhas s.cm (dirB path) then s.cc else s.cc + 1))] :: [(q, .map (encM [(path, .pointer (some ⟨p, 0, none⟩), 0)]) 1)] :: bg2 :: [(p, .cells #[.slice a1 n c1, .slice none 0 0] 76 (0, 0))] :: g1 :: (rowsG rows1 ++ ([(s.kb, .map (encM s.km) s.kc)] :: bodyG s.bs :: (s.Z ++ H)))) w) →
      ∃ H2, Is d (writeM M path b).2 (.int .i64 (writeM M path b).1) H v H2 ∧ ∀ w, Sat W0 H1 w → Sat W0 H2 w := by
    intro a1 a2 n c1 c2 p q g1 bg2 cx rows1 e1 e2 hbn ho1 ho2 hR hA v H1 hv hH
    have k1 := ok_body (ok_call h (rightB path)) hbn ho1 ho2
    have hc : ChangeR (psOf (s.bs ++ [⟨p, a1, n, c1, none, 0, 0⟩])) [(path, .pointer (some ⟨p, 0, none⟩), 0)] [(path, (M.bodies.length : Int))] := by
      rw [show psOf (s.bs ++ [⟨p, a1, n, c1, none, 0, 0⟩]) = psOf s.bs ++ [p] by unfold psOf; rw [List.map_append]; rfl]
      exact change1 (by rw [psOf_len, hlen]) rfl
    have k2 := ok_change (dir := dirB path) k1 (mapok1 _ _) hc (List.Perm.refl _) hR hA
    refine ⟨_, ⟨by rw [e1]; exact hv, _, by rw [e2]; exact k2, rfl⟩, fun w hw => ?_⟩
    rw [e2]
    refine sat_cnt (hH w hw) fun _ x => ?_
    simp only [DS.G, dkO, changeM, callM, bodyG, beO, List.map_append, List.map_cons, List.map_nil, List.length_append, List.length_cons, List.length_nil, Nat.zero_add, List.cons_append, List.append_assoc]
    simp only [List.flatten_cons, List.flatten_append, List.count_append]
    omega
  obtain ⟨a, cap, S, rfl, hsh, hrd, hS⟩ := hbv
  · refine Tri.heap (fun w hw => lowW_to hw) (Tri.post (vWriteAny d s.nb s.kb s.cb s.nc s.cc M.room M.calls _ s.bg _ s.bs.length M.fails M.once s.nm s.cm path (szV s.bs) hpath hm.calls h.nok (by rw [hsum]; omega) hw h.own (by omega) s.rows h.rows (rows_le h hm) a b.size cap S b.data.toList hsh hrd (Array.length_toList) hb W0 ([(s.kb, .map (encM s.km) s.kc)] :: bodyG s.bs :: (s.Z ++ H)) (get_at h hn hsub path) (fun y o hy => at_app2 (.cons (.cons (at_app2 (hS y o hy))))) (names_at h hn hsub)) fun v H1 hr => ?_)
    · rw [hsum] at hr
      rcases hr with ⟨hce, hv, hH⟩ | ⟨hce, hro, hv, hH⟩ | ⟨hce, hro, hv, p, q, a1, c1, a2, c2, cx, rows1, g1, bg2, ho1, ho2, hR, hA, hH⟩
      · exact hfail _ (by rw [writeM_err hce]; rfl) (by rw [writeM_err hce]) v H1 hv hH
      · have hro' : (usedM M : Int) - (wasM M path : Int) + (b.size : Int) > M.room := by
          cases hl : lookN M.names path with
          | none => rw [mget_no h hl] at hro; rw [was_no hl]; exact hro
          | some k => rw [mget_lk h hl] at hro; rw [was_yes h hn hl]; exact hro
        exact hfail 61 (by rw [writeM_full hce hro']) (by rw [writeM_full hce hro']) v H1 hv hH
      · have hro' : ¬ (usedM M : Int) - (wasM M path : Int) + (b.size : Int) > M.room := by
          cases hl : lookN M.names path with
          | none => rw [mget_no h hl] at hro; rw [was_no hl]; exact hro
          | some k => rw [mget_lk h hl] at hro; rw [was_yes h hn hl]; exact hro
        refine hdone a1 a2 b.size c1 c2 p q g1 bg2 cx rows1 (by rw [writeM_ok hce hro']) (by rw [writeM_ok hce hro']) rfl ho1 ho2 hR hA v H1 hv fun w hw => ?_
        rw [hH] at hw
        exact hw
end Go.Vf
