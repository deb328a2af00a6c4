/- Logs that are read: line by line; what stays small. No program is in sight. (and what it stands on) -/
import Derived.Test.YtlaoeiaaeifidaaGreatZ4
namespace Go.Proofs.YtlaoeiaaeifidaaGreat
open Go.Sw Go.Sha
theorem grow_ (n : Nat) (hn : n ≤ 1099511627776) (W0 : World) (H : List Grp) : Tri Tryz.prog 138 #[.slice none 0 0, .int .i64 ((n : Nat) : Int)] W0 H (fun v H' => ∃ g, Go.Sw.Own 5 1 v g 0 [] ∧ H' = g :: H) := by
 refine Tri_of (args := [.slice none 0 0, .int .i64 ((n : Nat) : Int)]) (n := 27) Tryz.func138 rfl rfl (Nat.le_of_ble_eq_true rfl) ?_
 refine G_seq ?_
 refine G_pure (E':=[⟨0,[],.slice none 0 0⟩,⟨1,[],.int .i64 ((n : Nat) : Int)⟩]) [0] [0,1] rfl kr ?_
 refine N_then ?_
 refine G_seq ?_
 refine G_seq ?_
 refine G_pure (E':=[⟨0,[],.slice none 0 0⟩,⟨1,[],.int .i64 ((n : Nat) : Int)⟩,⟨6,[],.bool (decide (((n : Nat) : Int) < 0))⟩]) [0,0] [0,1,6] rfl kr ?_
 refine N_then ?_
 refine G_cond (b:=decide (((n : Nat) : Int) < 0)) kr (fun hc1=>?_) (fun hc1=>?_)
 ·
  have h9 := of_decide_eq_true hc1; exact absurd h9 (by omega)
 ·
  skip
  refine G_skip ?_
  refine N_then ?_
  refine G_seq ?_
  refine G_seq ?_
  refine G_region ?_
  refine GL_p [0,0,0,0,0,0,0] kr (j:=7) rfl ?_
  refine GL_wi 14 (((n : Nat) : Int) - 0) (by omega) (by omega) kr ?_
  refine GL_fin (E':=[⟨0,[],.slice none 0 0⟩,⟨1,[],.int .i64 (((n : Nat) : Int) - 0)⟩]) [0] [0,1] rfl kr ?_
  refine N_then ?_
  refine G_seq ?_
  refine G_pure (E':=[⟨0,[],.slice none 0 0⟩,⟨1,[],.int .i64 (((n : Nat) : Int) - 0)⟩,⟨16,[],.bool (decide ((((n : Nat) : Int) - 0) > 0))⟩]) [0,0] [0,1,16] rfl kr ?_
  refine N_then ?_
  refine G_cond (b:=decide ((((n : Nat) : Int) - 0) > 0)) kr (fun hc3=>?_) (fun hc3=>?_)
  ·
   have h0 := of_decide_eq_true hc3
   refine G_region ?_
   refine GL_p [0,0,0] kr (j:=3) rfl ?_
   refine GL_sliceL (i:=3) (ch:=[]) (a:=none) (len:=0) (cap:=0) (e:=5) (sz:=1) (vl:=none) (vh:=(some (.int .i64 0))) (l:=0) (h:=0) rfl rfl kr kr kr kr kr kr kr kr kr kr (by omega) ?_
   refine GL_env (E':=[⟨20,[],.slice none 0 0⟩,⟨19,[],.int .i64 0⟩,⟨18,[],.slice none 0 0⟩,⟨17,[],.slice none 0 0⟩,⟨0,[],.slice none 0 0⟩,⟨1,[],.int .i64 (((n : Nat) : Int) - 0)⟩,⟨16,[],.bool (decide ((((n : Nat) : Int) - 0) > 0))⟩]) (by have hz : ([⟨20,[],.slice (cutA none 0 0 1) (0 - 0) (0 - 0)⟩,⟨19,[],.int .i64 0⟩,⟨18,[],.slice none 0 0⟩,⟨17,[],.slice none 0 0⟩,⟨0,[],.slice none 0 0⟩,⟨1,[],.int .i64 (((n : Nat) : Int) - 0)⟩,⟨16,[],.bool (decide ((((n : Nat) : Int) - 0) > 0))⟩] : List Sl) = [⟨20,[],.slice none 0 0⟩,⟨19,[],.int .i64 0⟩,⟨18,[],.slice none 0 0⟩,⟨17,[],.slice none 0 0⟩,⟨0,[],.slice none 0 0⟩,⟨1,[],.int .i64 (((n : Nat) : Int) - 0)⟩,⟨16,[],.bool (decide ((((n : Nat) : Int) - 0) > 0))⟩]:=kr; exact Eq.trans kr hz) ?_
   refine GL_p [0] kr (j:=5) rfl ?_
   refine GL_appendZ (i:=5) (ch:=[]) (t:=22) (tn:=3) (e:=5) (inf:=Tryz.t5) (n:=n) (kn:=.i64) (kd:=.i64) rfl rfl rfl rfl kr kr kr kr rfl rfl (show 0 < 1 from Nat.one_pos) kr kr kr (by omega) (by omega) (show n * 1 ≤ 281474976710656 by omega) (fun b4 cap5 c6 hcap7 hlen8=>?_)
   refine GL_p [0,0] kr (j:=8) rfl ?_
   refine GL_sliceL (i:=8) (ch:=[]) (a:=(some ⟨b4,0,none⟩)) (len:=n) (cap:=cap5) (e:=5) (sz:=1) (vl:=none) (vh:=(some (.int .i64 0))) (l:=0) (h:=0) rfl rfl kr kr kr kr kr kr kr kr kr kr (by omega) ?_
   refine GL_env (E':=[⟨25,[],.slice (some ⟨b4,0,none⟩) 0 cap5⟩,⟨24,[],.int .i64 0⟩,⟨23,[],.slice none 0 0⟩,⟨22,[],.slice (some ⟨b4,0,none⟩) n cap5⟩,⟨21,[],.int .i64 (((n : Nat) : Int) - 0)⟩,⟨20,[],.slice none 0 0⟩,⟨19,[],.int .i64 0⟩,⟨18,[],.slice none 0 0⟩,⟨17,[],.slice none 0 0⟩,⟨0,[],.slice none 0 0⟩,⟨1,[],.int .i64 (((n : Nat) : Int) - 0)⟩,⟨16,[],.bool (decide ((((n : Nat) : Int) - 0) > 0))⟩]) (by have hz : ([⟨25,[],.slice (cutA (some ⟨b4,0,none⟩) cap5 0 1) (0 - 0) (cap5 - 0)⟩,⟨24,[],.int .i64 0⟩,⟨23,[],.slice none 0 0⟩,⟨22,[],.slice (some ⟨b4,0,none⟩) n cap5⟩,⟨21,[],.int .i64 (((n : Nat) : Int) - 0)⟩,⟨20,[],.slice none 0 0⟩,⟨19,[],.int .i64 0⟩,⟨18,[],.slice none 0 0⟩,⟨17,[],.slice none 0 0⟩,⟨0,[],.slice none 0 0⟩,⟨1,[],.int .i64 (((n : Nat) : Int) - 0)⟩,⟨16,[],.bool (decide ((((n : Nat) : Int) - 0) > 0))⟩] : List Sl) = [⟨25,[],.slice (some ⟨b4,0,none⟩) 0 cap5⟩,⟨24,[],.int .i64 0⟩,⟨23,[],.slice none 0 0⟩,⟨22,[],.slice (some ⟨b4,0,none⟩) n cap5⟩,⟨21,[],.int .i64 (((n : Nat) : Int) - 0)⟩,⟨20,[],.slice none 0 0⟩,⟨19,[],.int .i64 0⟩,⟨18,[],.slice none 0 0⟩,⟨17,[],.slice none 0 0⟩,⟨0,[],.slice none 0 0⟩,⟨1,[],.int .i64 (((n : Nat) : Int) - 0)⟩,⟨16,[],.bool (decide ((((n : Nat) : Int) - 0) > 0))⟩]:=(by simp only [cutA_zero,Nat.sub_zero,Nat.sub_self]); exact Eq.trans kr hz) ?_
   refine GL_fin (E':=[⟨0,[],.slice (some ⟨b4,0,none⟩) 0 cap5⟩]) [0] [0] rfl kr ?_
   refine N_then ?_
   refine G_seq ?_
   refine G_pure (E':=[⟨4,[],.slice (some ⟨b4,0,none⟩) 0 cap5⟩]) [0,0] [4] rfl kr ?_
   refine N_then ?_
   refine G_ret ?_
   refine N_ret [.tmp 4] [.slice (some ⟨b4,0,none⟩) 0 cap5] rfl kr rfl ?_
   exact ⟨_, own_cut0 hlen8, rfl⟩
  ·
   skip
   refine G_skip ?_
   refine N_then ?_
   refine G_seq ?_
   refine G_pure (E':=[⟨4,[],.slice none 0 0⟩]) [0,0] [4] rfl kr ?_
   refine N_then ?_
   refine G_ret ?_
   refine N_heap (H':=[]::H) (fun w h=>h.flat (List.Perm.refl _)) ?_
   refine N_ret [.tmp 4] [.slice none 0 0] rfl kr rfl ?_
   exact ⟨[], Go.Sw.Own.nil, rfl⟩
theorem concat1 (pb : Nat) (xa : Option Addr) (n xc : Nat) (S : Nat → Obj → Prop) (l : List UInt8) (hl : l.length = n) (hrd : Rd S xa (u8s l)) (h0 : xa = none → n = 0) (hn : n ≤ 1099511627776) (W0 : World) (H : List Grp) (hS : ∀ y o, S y o → At W0 H y o) : Tri Tryz.prog 123 #[.slice (some ⟨pb, 0, none⟩) 1 1] W0 ([(pb, .cells #[.slice xa n xc] 22 (0, 0))] :: H) (fun v H' => ∃ g, Go.Sw.Own 5 1 v g n (u8s l) ∧ H' = g :: ([(pb, .cells #[.slice xa n xc] 22 (0, 0))] :: H)) := by
 refine Tri_of (args := [.slice (some ⟨pb, 0, none⟩) 1 1]) (n := 36) Tryz.func123 rfl rfl (Nat.le_of_ble_eq_true rfl) ?_
 refine G_seq ?_
 refine G_pure (E':=[⟨0,[],.slice (some ⟨pb,0,none⟩) 1 1⟩]) [0] [0] rfl kr ?_
 refine N_then ?_
 refine G_seq ?_
 refine G_pure (E':=[⟨0,[],.slice (some ⟨pb,0,none⟩) 1 1⟩,⟨3,[],.int .i64 0⟩]) [0] [0,3] rfl kr ?_
 refine N_then ?_
 refine G_seq ?_
 refine G_seq ?_
 refine G_pure (E':=[⟨0,[],.slice (some ⟨pb,0,none⟩) 1 1⟩,⟨3,[],.int .i64 0⟩,⟨9,[],.slice (some ⟨pb,0,none⟩) 1 1⟩,⟨10,[],.int .i64 1⟩,⟨11,[],.int .i64 0⟩]) [0,0,0] [0,3,9,10,11] rfl kr ?_
 refine N_then ?_
 refine G_block ?_
 refine G_rounds 2 ?_
 refine GRd_succ ?_
 refine G_seq ?_
 refine G_pure (E':=[⟨0,[],.slice (some ⟨pb,0,none⟩) 1 1⟩,⟨3,[],.int .i64 0⟩,⟨9,[],.slice (some ⟨pb,0,none⟩) 1 1⟩,⟨10,[],.int .i64 1⟩,⟨11,[],.int .i64 0⟩,⟨12,[],.bool true⟩]) [0] [0,3,9,10,11,12] rfl kr ?_
 refine N_then ?_
 refine G_seq ?_
 refine G_condt kr ?_
 refine G_skip ?_
 refine N_then ?_
 refine G_seq ?_
 refine G_block ?_
 refine G_seq ?_
 refine G_region ?_
 refine GL_indexAddr (i:=0) (ch:=[]) (a:=(some ⟨pb,0,none⟩)) (len:=1) (cap:=1) (kd:=.i64) (j:=0) (e:=22) (sz:=1) (S:=(inG [(pb,.cells #[.slice xa n xc] 22 (0,0))])) (cs:=[.slice xa n xc]) rfl rfl kr kr kr kr kr kr kr Rd.lit (fun _=>by exact ⟨by omega,by omega,by first | exact List.cons_ne_nil _ _ | (intro h; simp [strs] at h; simp [h] at *; omega)⟩) ?_
 refine GL_loadS (i:=1) (ch:=[]) (a:=(some ⟨pb,0,none⟩)) (q:=0 * 1) (S:=(inG [(pb,.cells #[.slice xa n xc] 22 (0,0))])) (cs:=[.slice xa n xc]) (v:=.slice xa n xc) rfl rfl kr kr kr kr kr Rd.lit (at_inG 0 rfl) (fun _=>rfl) ?_
 refine GL_fin (E':=[⟨0,[],.slice (some ⟨pb,0,none⟩) 1 1⟩,⟨3,[],.int .i64 0⟩,⟨5,[],.slice xa n xc⟩,⟨9,[],.slice (some ⟨pb,0,none⟩) 1 1⟩,⟨10,[],.int .i64 1⟩,⟨11,[],.int .i64 0⟩]) [0] [0,3,5,9,10,11] rfl kr ?_
 refine N_then ?_
 refine G_seq ?_
 refine G_region ?_
 refine GL_p [0,0,0,0] kr (j:=4) rfl ?_
 refine GL_wi 18 (0+((n : Nat) : Int)) (by omega) (by omega) kr ?_
 refine GL_fin (E':=[⟨0,[],.slice (some ⟨pb,0,none⟩) 1 1⟩,⟨3,[],.int .i64 (0+((n : Nat) : Int))⟩,⟨9,[],.slice (some ⟨pb,0,none⟩) 1 1⟩,⟨10,[],.int .i64 1⟩,⟨11,[],.int .i64 0⟩]) [0] [0,3,9,10,11] rfl kr ?_
 refine N_env (E':=[⟨0,[],.slice (some ⟨pb,0,none⟩) 1 1⟩,⟨3,[],.int .i64 ((n : Nat) : Int)⟩,⟨9,[],.slice (some ⟨pb,0,none⟩) 1 1⟩,⟨10,[],.int .i64 1⟩,⟨11,[],.int .i64 0⟩]) (by rw [Int.zero_add]) ?_
 refine N_then ?_
 refine G_seq ?_
 refine G_pure (E':=[⟨0,[],.slice (some ⟨pb,0,none⟩) 1 1⟩,⟨3,[],.int .i64 ((n : Nat) : Int)⟩,⟨9,[],.slice (some ⟨pb,0,none⟩) 1 1⟩,⟨10,[],.int .i64 1⟩,⟨11,[],.int .i64 0⟩,⟨20,[],.bool (decide (((n : Nat) : Int) < 0))⟩]) [0,0] [0,3,9,10,11,20] rfl kr ?_
 refine N_then ?_
 refine G_cond (b:=decide (((n : Nat) : Int) < 0)) kr (fun hc2=>?_) (fun hc2=>?_)
 ·
  have h9 := of_decide_eq_true hc2; exact absurd h9 (by omega)
 ·
  skip
  refine G_skip ?_
  refine N_block ?_
  refine N_then ?_
  refine G_pure (E':=[⟨0,[],.slice (some ⟨pb,0,none⟩) 1 1⟩,⟨3,[],.int .i64 ((n : Nat) : Int)⟩,⟨9,[],.slice (some ⟨pb,0,none⟩) 1 1⟩,⟨10,[],.int .i64 1⟩,⟨11,[],.int .i64 1⟩]) [0,0] [0,3,9,10,11] rfl kr ?_
  refine N_rd ?_
  refine GRd_succ ?_
  refine G_seq ?_
  refine G_pure (E':=[⟨0,[],.slice (some ⟨pb,0,none⟩) 1 1⟩,⟨3,[],.int .i64 ((n : Nat) : Int)⟩,⟨9,[],.slice (some ⟨pb,0,none⟩) 1 1⟩,⟨10,[],.int .i64 1⟩,⟨11,[],.int .i64 1⟩,⟨12,[],.bool false⟩]) [0] [0,3,9,10,11,12] rfl kr ?_
  refine N_then ?_
  refine G_seq ?_
  refine G_condf kr ?_
  refine G_exit ?_
  refine N_then_exit ?_
  refine N_then_exit ?_
  refine N_block_exit ?_
  refine N_then ?_
  refine G_seq ?_
  refine G_region ?_
  refine GL_p [0] kr (j:=1) rfl ?_
  refine GL_call (i:=1) (ch:=[]) (f:=138) (fst:=#[]) (caps:=#[]) (vs:=[.slice none 0 0,.int .i64 ((n : Nat) : Int)]) rfl rfl rfl kr kr Tryz.func138 rfl rfl kr kr (chSure_of kr) (grow_ n hn _ _) ?_
  rintro v5 H' ⟨g3, hO4, rfl⟩
  refine GL_fin (E':=[⟨0,[],.slice (some ⟨pb,0,none⟩) 1 1⟩,⟨6,[],v5⟩]) [0] [0,6] rfl kr ?_
  refine N_then ?_
  refine G_seq ?_
  refine G_seq ?_
  refine G_pure (E':=[⟨6,[],v5⟩,⟨25,[],.slice (some ⟨pb,0,none⟩) 1 1⟩,⟨26,[],.int .i64 1⟩,⟨27,[],.int .i64 0⟩]) [0,0,0] [6,25,26,27] rfl kr ?_
  refine N_then ?_
  refine G_block ?_
  refine G_rounds 2 ?_
  refine GRd_succ ?_
  refine G_seq ?_
  refine G_pure (E':=[⟨6,[],v5⟩,⟨25,[],.slice (some ⟨pb,0,none⟩) 1 1⟩,⟨26,[],.int .i64 1⟩,⟨27,[],.int .i64 0⟩,⟨28,[],.bool true⟩]) [0] [6,25,26,27,28] rfl kr ?_
  refine N_then ?_
  refine G_seq ?_
  refine G_condt kr ?_
  refine G_skip ?_
  refine N_then ?_
  refine G_seq ?_
  refine G_block ?_
  refine G_seq ?_
  refine G_region ?_
  refine GL_indexAddr (i:=0) (ch:=[]) (a:=(some ⟨pb,0,none⟩)) (len:=1) (cap:=1) (kd:=.i64) (j:=0) (e:=22) (sz:=1) (S:=(inG [(pb,.cells #[.slice xa n xc] 22 (0,0))])) (cs:=[.slice xa n xc]) rfl rfl kr kr kr kr kr kr kr Rd.lit (fun _=>by exact ⟨by omega,by omega,by first | exact List.cons_ne_nil _ _ | (intro h; simp [strs] at h; simp [h] at *; omega)⟩) ?_
  refine GL_loadS (i:=1) (ch:=[]) (a:=(some ⟨pb,0,none⟩)) (q:=0 * 1) (S:=(inG [(pb,.cells #[.slice xa n xc] 22 (0,0))])) (cs:=[.slice xa n xc]) (v:=.slice xa n xc) rfl rfl kr kr kr kr kr Rd.lit (at_inG 1 rfl) (fun _=>rfl) ?_
  refine GL_fin (E':=[⟨6,[],v5⟩,⟨8,[],.slice xa n xc⟩,⟨25,[],.slice (some ⟨pb,0,none⟩) 1 1⟩,⟨26,[],.int .i64 1⟩,⟨27,[],.int .i64 0⟩]) [0] [6,8,25,26,27] rfl kr ?_
  refine N_then ?_
  refine G_region ?_
  refine GL_p [0,0] kr (j:=2) rfl ?_
  refine GL_append (i:=2) (ch:=[]) (t:=22) (tx:=22) (e:=5) (inf:=Tryz.t5) (s:=v5) (x:=.slice xa n xc) (n:=0) (m:=n) (j:=0) (cs:=[]) (news:=(u8s l)) (g:=g3) (S:=S) rfl rfl rfl rfl kr kr kr rfl rfl (.inl ⟨5,kr⟩) (fun ⟨_,h⟩=>by cases h) (fun _=>⟨5,kr⟩) kr kr kr rfl hO4 (SrcOf.slice _ _ _ _ hrd h0) (fun y o h=>(At.cons (At.cons (hS y o h)))) (by show (u8s l).length = n * 1; simp [u8s,hl]) u8_one (by omega) (by show (0+n) * 1 ≤ 140737488355328; omega) (fun v6 g7 hO8=>?_)
  replace hO8 := own_from0 hO8
  refine GL_fin (E':=[⟨6,[],v6⟩,⟨25,[],.slice (some ⟨pb,0,none⟩) 1 1⟩,⟨26,[],.int .i64 1⟩,⟨27,[],.int .i64 0⟩]) [0] [6,25,26,27] rfl kr ?_
  refine N_block ?_
  refine N_then ?_
  refine G_pure (E':=[⟨6,[],v6⟩,⟨25,[],.slice (some ⟨pb,0,none⟩) 1 1⟩,⟨26,[],.int .i64 1⟩,⟨27,[],.int .i64 1⟩]) [0,0] [6,25,26,27] rfl kr ?_
  refine N_rd ?_
  refine GRd_succ ?_
  refine G_seq ?_
  refine G_pure (E':=[⟨6,[],v6⟩,⟨25,[],.slice (some ⟨pb,0,none⟩) 1 1⟩,⟨26,[],.int .i64 1⟩,⟨27,[],.int .i64 1⟩,⟨28,[],.bool false⟩]) [0] [6,25,26,27,28] rfl kr ?_
  refine N_then ?_
  refine G_seq ?_
  refine G_condf kr ?_
  refine G_exit ?_
  refine N_then_exit ?_
  refine N_then_exit ?_
  refine N_block_exit ?_
  refine N_then ?_
  refine G_seq ?_
  refine G_pure (E':=[⟨2,[],v6⟩]) [0,0] [2] rfl kr ?_
  refine N_then ?_
  refine G_ret ?_
  refine N_ret [.tmp 2] [v6] rfl kr rfl ?_
  exact ⟨_, hO8, rfl⟩
theorem chunk_ (a : Option Addr) (n c : Nat) (W0 : World) (H : List Grp) : Tri Tryz.prog 127 #[.slice a n c, .int .i64 64] W0 H (fun v H' => ∃ kb nb, v = .func (.func 139) #[] #[pt kb, pt nb] ∧ H' = [(nb, .cells #[.int .i64 64] 3 (0, 0))] :: [(kb, .cells #[.slice a n c] 22 (0, 0))] :: H) := by
 refine Tri_of (args := [.slice a n c, .int .i64 64]) (n := 9) Tryz.func127 rfl rfl (Nat.le_of_ble_eq_true rfl) ?_
 refine G_seq ?_
 refine G_region ?_
 refine GL_box (i:=0) (ch:=[]) (v:=.slice a n c) rfl rfl kr kr kr kr (fun b1=>?_)
 refine GL_box (i:=1) (ch:=[]) (v:=.int .i64 64) rfl rfl kr kr kr kr (fun b2=>?_)
 refine GL_fin (E':=[⟨2,[],pt b1⟩,⟨3,[],pt b2⟩]) [0] [2,3] rfl kr ?_
 refine N_then ?_
 refine G_seq ?_
 refine G_seq ?_
 refine G_region ?_
 refine GL_load (i:=0) (ch:=[]) (b:=b2) (off:=0) (v:=.int .i64 64) rfl rfl kr kr kr kr kr (At.grp 0 0 rfl rfl) rfl ?_
 refine GL_fin (E':=[⟨2,[],pt b1⟩,⟨3,[],pt b2⟩,⟨6,[],.bool false⟩]) [0] [2,3,6] rfl kr ?_
 refine N_then ?_
 refine G_condf kr ?_
 refine G_skip ?_
 refine N_then ?_
 refine G_seq ?_
 refine G_pure (E':=[⟨4,[],.func (.func 139) #[] #[pt b1,pt b2]⟩]) [0,0] [4] rfl kr ?_
 refine N_then ?_
 refine G_ret ?_
 refine N_ret [.tmp 4] [.func (.func 139) #[] #[pt b1,pt b2]] rfl kr rfl ?_
 exact ⟨_, _, rfl, rfl⟩
end Go.Proofs.YtlaoeiaaeifidaaGreat
namespace Go.Proofs.YtlaoeiaaeifidaaGreat
open Go.Sw Go.Sha
theorem sum_ (pb : Nat) (xa : Option Addr) (xc : Nat) (S : Nat → Obj → Prop) (l : List UInt8) (hrd : Rd S xa (u8s l)) (h0 : xa = none → l.length = 0) (hn : l.length ≤ 1099511627776) (W0 : World) (H : List Grp) (hS : ∀ y o, S y o → At W0 H y o) : Tri Tryz.prog 103 #[.slice (some ⟨pb, 0, none⟩) 1 1] W0 ([(pb, .cells #[.slice xa l.length xc] 22 (0, 0))] :: H) (fun v H' => v = .agg (u8s (sumB l)).toArray ∧ H' = ([(pb, .cells #[.slice xa l.length xc] 22 (0, 0))] :: H)) := by
 refine Tri_ofM (args := [.slice (some ⟨pb, 0, none⟩) 1 1]) (n := 73) Tryz.func103 rfl rfl (Nat.le_of_ble_eq_true rfl) ?_
 refine G_seq ?_
 refine G_region ?_
 refine GL_alloc (i:=0) (ch:=[]) (z:=.agg z32) rfl rfl kr kr kr kr (fun b1=>?_)
 refine GL_fin (E':=[⟨0,[],.slice (some ⟨pb,0,none⟩) 1 1⟩,⟨2,[],pt b1⟩]) [] [0,2] rfl kr ?_
 refine N_then ?_
 refine G_seq ?_
 refine G_region ?_
 refine GL_p [0] kr (j:=1) rfl ?_
 refine GL_heap rfl (H':=([(pb,.cells #[.slice xa l.length xc] 22 (0,0))]::[(b1,.cells z32 148 (0,0))]::H)) (fun w h=>(h.front (j:=1) rfl)) ?_
 refine GL_call (i:=1) (ch:=[]) (f:=123) (fst:=#[]) (caps:=#[]) (vs:=[.slice (some ⟨pb,0,none⟩) 1 1]) rfl rfl rfl kr kr Tryz.func123 rfl rfl kr kr (chSure_of kr) (concat1 pb xa l.length xc S l rfl hrd h0 hn _ _ (fun y o h=>(At.cons (hS y o h)))) ?_
 rintro v4 H' ⟨g2, hO3, rfl⟩
 obtain ⟨a5, cap6, rfl, hcap7, hrd8⟩ := hO3.shape
 refine GL_fin (E':=[⟨2,[],pt b1⟩,⟨3,[],.slice a5 l.length cap6⟩]) [0] [2,3] rfl kr ?_
 refine N_then ?_
 refine G_seq ?_
 refine G_pure (E':=[⟨2,[],pt b1⟩,⟨3,[],.slice a5 l.length cap6⟩,⟨4,[],.int .u64 (IntKind.wrap .u64 ((IntKind.wrap .u64 ((l.length : Nat) : Int)) * 8))⟩]) [0,0,0,0,0] [2,3,4] rfl kr ?_
 refine N_env (E':=[⟨2,[],pt b1⟩,⟨3,[],.slice a5 l.length cap6⟩,⟨4,[],.int .u64 ((8 * l.length : Nat) : Int)⟩]) (by rw [len8 hn]) ?_
 refine N_then ?_
 refine G_seq ?_
 refine G_region ?_
 refine GL_p [0] kr (j:=1) rfl ?_
 refine GL_buildSlice (i:=1) (ch:=[]) (e:=5) (l:=[(0,.int .u8 128)]) (c:=[.int .u8 128]) rfl rfl kr kr kr kr kr (fun b9=>?_)
 refine GL_append (i:=2) (ch:=[]) (t:=22) (tx:=22) (e:=5) (inf:=Tryz.t5) (s:=.slice a5 l.length cap6) (x:=.slice (some ⟨b9,0,none⟩) 1 1) (n:=l.length) (m:=1) (j:=1) (cs:=(u8s l)) (news:=[.int .u8 128]) (g:=g2) (S:=(inG [(b9,.cells #[.int .u8 128] 5 (0,0))])) rfl rfl rfl rfl kr kr kr rfl rfl (.inl ⟨5,kr⟩) (fun ⟨_,h⟩=>by cases h) (fun _=>⟨5,kr⟩) kr kr kr rfl hO3 (SrcOf.slice _ _ _ _ Rd.lit (fun h=>by cases h)) (at_inG 0 rfl) kr (by first | exact u8_one | (intro u hu; simp only [List.mem_cons,List.not_mem_nil,or_false] at hu; rcases hu with rfl; rfl)) (by omega) (by show (l.length+1) * 1 ≤ 140737488355328; omega) (fun v10 g11 hO12=>?_)
 obtain ⟨a13, cap14, rfl, hcap15, hrd16⟩ := hO12.shape
 refine GL_fin (E':=[⟨2,[],pt b1⟩,⟨3,[],.slice a13 (l.length+1) cap14⟩,⟨4,[],.int .u64 ((8 * l.length : Nat) : Int)⟩]) [0] [2,3,4] rfl kr ?_
 refine N_then ?_
 refine G_seq ?_
 refine G_block ?_
 refine G_heap (H':=(g11::[(b1,.cells z32 148 (0,0))]::[(pb,.cells #[.slice xa l.length xc] 22 (0,0))]::H)) (fun w h=>((((h.front (j:=2) rfl).front (j:=3) rfl).front (j:=3) rfl).erase 3)) ?_
 refine G_loop (EI:=(fun ξ : Nat × Option Addr × Nat × Grp=>[⟨2,[],pt b1⟩,⟨3,[],.slice ξ.2.1 (l.length+1+ξ.1) ξ.2.2.1⟩,⟨4,[],.int .u64 ((8 * l.length : Nat) : Int)⟩])) (HI:=(fun ξ : Nat × Option Addr × Nat × Grp=>(ξ.2.2.2::[(b1,.cells z32 148 (0,0))]::[(pb,.cells #[.slice xa l.length xc] 22 (0,0))]::H))) (Φ:=(fun ξ : Nat × Option Addr × Nat × Grp=>(ξ.1 ≤ padZ l.length)∧(Go.Sw.Own 5 1 (.slice ξ.2.1 (l.length+1+ξ.1) ξ.2.2.1) ξ.2.2.2 (l.length+1+ξ.1) (u8s (padK l ξ.1))))) (μ:=(fun ξ : Nat × Option Addr × Nat × Grp=>padZ l.length - ξ.1)) (s0:=(0,a13,cap14,g11)) [2,3,4] kr rfl ⟨(by omega),(own_cs hO12 (padK_zero l))⟩ ?_
 rintro ⟨k, a3, c3, g3⟩ ⟨hk, hO3⟩
 have hpz := (pad_mod l.length).2
 refine G_seq ?_
 refine G_seq ?_
 refine G_region ?_
 refine GL_p [0,0,0] kr (j:=3) rfl ?_
 have hw17 : Int.tmod (((l.length + 1 + k) : Nat) : Int) 64 = (((l.length + 1 + k) : Nat) : Int) % 64 := r64 (by omega)
 refine GL_w 22 hw17 kr ?_
 refine GL_fin (E':=[⟨2,[],pt b1⟩,⟨3,[],.slice a3 (l.length+1+k) c3⟩,⟨4,[],.int .u64 ((8 * l.length : Nat) : Int)⟩,⟨23,[],.bool (((((l.length+1+k) : Nat) : Int) % 64) != 56)⟩]) [0] [2,3,4,23] rfl kr ?_
 refine N_then ?_
 refine G_cond (b:=((((l.length+1+k) : Nat) : Int) % 64) != 56) kr (fun hc18=>?_) (fun hc18=>?_)
 ·
  have hlt := (pad_more hk).1 hc18
  refine G_skip ?_
  refine N_then ?_
  refine G_block ?_
  refine G_region ?_
  refine GL_p [0] kr (j:=1) rfl ?_
  refine GL_buildSlice (i:=1) (ch:=[]) (e:=5) (l:=[(0,.int .u8 0)]) (c:=[.int .u8 0]) rfl rfl kr kr kr kr kr (fun b19=>?_)
  refine GL_append (i:=2) (ch:=[]) (t:=22) (tx:=22) (e:=5) (inf:=Tryz.t5) (s:=.slice a3 (l.length+1+k) c3) (x:=.slice (some ⟨b19,0,none⟩) 1 1) (n:=(l.length+1+k)) (m:=1) (j:=1) (cs:=(u8s (padK l k))) (news:=[.int .u8 0]) (g:=g3) (S:=(inG [(b19,.cells #[.int .u8 0] 5 (0,0))])) rfl rfl rfl rfl kr kr kr rfl rfl (.inl ⟨5,kr⟩) (fun ⟨_,h⟩=>by cases h) (fun _=>⟨5,kr⟩) kr kr kr rfl hO3 (SrcOf.slice _ _ _ _ Rd.lit (fun h=>by cases h)) (at_inG 0 rfl) kr (by first | exact u8_one | (intro u hu; simp only [List.mem_cons,List.not_mem_nil,or_false] at hu; rcases hu with rfl; rfl)) (by omega) (by show ((l.length+1+k)+1) * 1 ≤ 140737488355328; omega) (fun v20 g21 hO22=>?_)
  obtain ⟨a23, cap24, rfl, hcap25, hrd26⟩ := hO22.shape
  refine GL_fin (E':=[⟨2,[],pt b1⟩,⟨3,[],.slice a23 ((l.length+1+k)+1) cap24⟩,⟨4,[],.int .u64 ((8 * l.length : Nat) : Int)⟩]) [0] [2,3,4] rfl kr ?_
  refine N_block ?_
  refine N_heap (H':=(g21::[(b1,.cells z32 148 (0,0))]::[(pb,.cells #[.slice xa l.length xc] 22 (0,0))]::H)) (fun w h=>(h.erase 0)) ?_
  refine N_round (s':=(k+1,a23,cap24,g21)) [2,3,4] kr rfl ⟨(by omega),(own_cs hO22 (padK_succ l k))⟩ (by omega)
 ·
  have hke : k = padZ l.length := (pad_more hk).2 hc18
  refine G_exit ?_
  refine N_then_exit ?_
  refine N_then_exit ?_
  refine N_block_exit ?_
  refine N_then ?_
  refine G_seq ?_
  refine G_region ?_
  refine GL_p [0,0] kr (j:=2) rfl ?_
  refine GL_call (i:=2) (ch:=[]) (f:=124) (fst:=#[]) (caps:=#[]) (vs:=[.int .u64 ((8 * l.length : Nat) : Int)]) rfl rfl rfl kr kr Tryz.func124 rfl rfl kr kr (chSure_of kr) (eight_ ((8 * l.length : Nat) : Int) (by omega) (by omega) _ _) ?_
  rintro v29 H' ⟨g27, hO28, rfl⟩
  obtain ⟨a30, cap31, rfl, hcap32, hrd33⟩ := hO28.shape
  refine GL_append (i:=3) (ch:=[]) (t:=22) (tx:=22) (e:=5) (inf:=Tryz.t5) (s:=.slice a3 (l.length+1+k) c3) (x:=.slice a30 8 cap31) (n:=(l.length+1+k)) (m:=8) (j:=1) (cs:=(u8s (padK l k))) (news:=(u8s (eightB ((8 * l.length : Nat) : Int)))) (g:=g3) (S:=(inG g27)) rfl rfl rfl rfl kr kr kr rfl rfl (.inl ⟨5,kr⟩) (fun ⟨_,h⟩=>by cases h) (fun _=>⟨5,kr⟩) kr kr kr rfl hO3 (SrcOf.slice _ _ _ _ hrd33 (own_none hO28)) (at_inG 0 rfl) kr (by first | exact u8_one | (intro u hu; simp only [List.mem_cons,List.not_mem_nil,or_false] at hu; rcases hu with rfl; rfl)) (by omega) (by show ((l.length+1+k)+8) * 1 ≤ 140737488355328; omega) (fun v34 g35 hO36=>?_)
  obtain ⟨a37, cap38, rfl, hcap39, hrd40⟩ := hO36.shape
  refine GL_fin (E':=[⟨2,[],pt b1⟩,⟨3,[],.slice a37 ((l.length+1+k)+8) cap38⟩]) [0] [2,3] rfl kr ?_
  refine N_then ?_
  refine G_seq ?_
  refine G_region ?_
  refine GL_call (i:=0) (ch:=[]) (f:=125) (fst:=#[]) (caps:=#[]) (vs:=[]) rfl rfl rfl kr kr Tryz.func125 rfl rfl kr kr (chSure_of kr) (beginnings_ _ _) ?_
  rintro v H' ⟨rfl, rfl⟩
  refine GL_call (i:=1) (ch:=[]) (f:=126) (fst:=#[]) (caps:=#[]) (vs:=[]) rfl rfl rfl kr kr Tryz.func126 rfl rfl kr kr (chSure_of kr) (rounds_ _ _) ?_
  rintro v H' ⟨rfl, rfl⟩
  refine GL_alloc (i:=2) (ch:=[]) (z:=.agg #[.int .u32 0,.int .u32 0,.int .u32 0,.int .u32 0,.int .u32 0,.int .u32 0,.int .u32 0,.int .u32 0]) rfl rfl kr kr kr kr (fun b41=>?_)
  refine GL_alloc (i:=3) (ch:=[]) (z:=.agg kz64) rfl rfl kr kr kr kr (fun b42=>?_)
  refine GL_st (i:=4) (ch:=[]) (b:=b41) (off:=0) (v:=.agg #[.int .u32 1779033703,.int .u32 3144134277,.int .u32 1013904242,.int .u32 2773480762,.int .u32 1359893119,.int .u32 2600822924,.int .u32 528734635,.int .u32 1541459225]) (j:=1) ([(b42,.cells kz64 171 (0,0))]::[(b41,.cells #[.int .u32 1779033703,.int .u32 3144134277,.int .u32 1013904242,.int .u32 2773480762,.int .u32 1359893119,.int .u32 2600822924,.int .u32 528734635,.int .u32 1541459225] 169 (0,0))]::g27::g35::[(b1,.cells z32 148 (0,0))]::[(pb,.cells #[.slice xa l.length xc] 22 (0,0))]::H) rfl rfl kr kr kr kr kr kr kr rfl rfl (Nat.le_of_ble_eq_true rfl) (fun _ _=>thaw0) kr ?_
  refine GL_store (i:=5) (ch:=[]) (b:=b42) (off:=0) (v:=.agg kArr) (c:=kz64) (c':=kArr) (j:=0) (m:=0) (H':=([(b42,.cells kArr 171 (0,0))]::[(b41,.cells #[.int .u32 1779033703,.int .u32 3144134277,.int .u32 1013904242,.int .u32 2773480762,.int .u32 1359893119,.int .u32 2600822924,.int .u32 528734635,.int .u32 1541459225] 169 (0,0))]::g27::g35::[(b1,.cells z32 148 (0,0))]::[(pb,.cells #[.slice xa l.length xc] 22 (0,0))]::H)) rfl rfl kr kr kr kr kr kr kr rfl rfl (Nat.le_of_ble_eq_true rfl) (fun _ _=>thaw0) kr kr ?_
  refine GL_fin (E':=[⟨2,[],pt b1⟩,⟨3,[],.slice a37 ((l.length+1+k)+8) cap38⟩,⟨5,[],pt b41⟩,⟨6,[],pt b42⟩]) [] [2,3,5,6] rfl kr ?_
  refine N_then ?_
  refine G_seq ?_
  refine G_seq ?_
  refine G_region ?_
  refine GL_p [0] kr (j:=1) rfl ?_
  refine GL_call (i:=1) (ch:=[]) (f:=127) (fst:=#[]) (caps:=#[]) (vs:=[.slice a37 ((l.length+1+k)+8) cap38,.int .i64 64]) rfl rfl rfl kr kr Tryz.func127 rfl rfl kr kr (chSure_of kr) (chunk_ a37 ((l.length+1+k)+8) cap38 _ _) ?_
  rintro v H' ⟨kb43, nb44, rfl, rfl⟩
  refine GL_fin (E':=[⟨2,[],pt b1⟩,⟨5,[],pt b41⟩,⟨6,[],pt b42⟩,⟨34,[],.func (.func 139) #[] #[pt kb43,pt nb44]⟩]) [] [2,5,6,34] rfl kr ?_
  refine N_then ?_
  refine G_block ?_
  obtain ⟨b6, hb6⟩ := own_some hO36 (by omega)
  obtain ⟨hm6, hP⟩ := padB_m l hke
  have hO6 := own_cs hO36 (padB_cs l hke)
  rw [hb6] at hO6
  have hc6 : l.length + 1 + k + 8 ≤ cap38 := ownC_cap hO36
  refine G_heap (H':=([(nb44,.cells #[.int .i64 64] 3 (0,0))]::[(kb43,.cells #[.slice (some ⟨b6,0,none⟩) (64 * ((padB l).length / 64)) cap38] 22 (0,0))]::[(b42,.cells kArr 171 (0,0))]::[(b41,.cells #[.int .u32 1779033703,.int .u32 3144134277,.int .u32 1013904242,.int .u32 2773480762,.int .u32 1359893119,.int .u32 2600822924,.int .u32 528734635,.int .u32 1541459225] 169 (0,0))]::g27::g35::[(b1,.cells z32 148 (0,0))]::[(pb,.cells #[.slice xa l.length xc] 22 (0,0))]::H)) (fun w h=>by rw [hb6,hm6] at h; exact h) ?_
  refine G_rangeFunc (α:=Fin ((padB l).length / 64)) (gf:=139) (lb:=#[pt kb43,pt nb44]) (encs:=fun x : Fin ((padB l).length / 64)=>#[.slice (some ⟨b6,0+64 * x.1,none⟩) 64 64]) (S:=fun xs=>xs = List.finRange ((padB l).length / 64)) (Sp:=fun _=>True) (N0:=((padB l).length / 64)) rfl kr (enters_of Tryz.func139 kr rfl) [[(kb43,.cells #[.slice (some ⟨b6,0,none⟩) (64 * ((padB l).length / 64)) cap38] 22 (0,0))],[(nb44,.cells #[.int .i64 64] 3 (0,0))]] (fun p hp=>by obtain ⟨g,hg,hp1⟩:=List.mem_flatten.1 hp; simp only [List.mem_cons,List.not_mem_nil,or_false] at hg; rcases hg with rfl | rfl; exact List.mem_flatten.2 ⟨_,List.mem_of_getElem? (i:=1) rfl,hp1⟩; exact List.mem_flatten.2 ⟨_,List.mem_of_getElem? (i:=0) rfl,hp1⟩) (fun w hs=>chunk_stops kb43 nb44 b6 0 cap38 ((padB l).length / 64) (by omega) (by omega) w (hs.has (kb43,_) (List.mem_flatten.2 ⟨_,List.mem_of_getElem? (i:=1) rfl,List.mem_singleton.2 rfl⟩)) (hs.has (nb44,_) (List.mem_flatten.2 ⟨_,List.mem_of_getElem? (i:=0) rfl,List.mem_singleton.2 rfl⟩))) (fun pre=>([(nb44,.cells #[.int .i64 64] 3 (0,0))]::[(kb43,.cells #[.slice (some ⟨b6,0,none⟩) (64 * ((padB l).length / 64)) cap38] 22 (0,0))]::[(b42,.cells kArr 171 (0,0))]::[(b41,.cells #[.int .u32 ((foldB (padB l) pre).a),.int .u32 ((foldB (padB l) pre).b),.int .u32 ((foldB (padB l) pre).c),.int .u32 ((foldB (padB l) pre).d),.int .u32 ((foldB (padB l) pre).e),.int .u32 ((foldB (padB l) pre).f),.int .u32 ((foldB (padB l) pre).g),.int .u32 ((foldB (padB l) pre).h)] 169 (0,0))]::g27::g35::[(b1,.cells z32 148 (0,0))]::[(pb,.cells #[.slice xa l.length xc] 22 (0,0))]::H)) (fun _ _ _=>False) kr (fun _ p hp=>by obtain ⟨g,hg,hp1⟩:=List.mem_flatten.1 hp; simp only [List.mem_cons,List.not_mem_nil,or_false] at hg; rcases hg with rfl | rfl; exact List.mem_flatten.2 ⟨_,List.mem_of_getElem? (i:=1) rfl,hp1⟩; exact List.mem_flatten.2 ⟨_,List.mem_of_getElem? (i:=0) rfl,hp1⟩) (fun xs=>calm_set (j:=3) (g':=[(b41,.cells #[.int .u32 ((foldB (padB l) xs).a),.int .u32 ((foldB (padB l) xs).b),.int .u32 ((foldB (padB l) xs).c),.int .u32 ((foldB (padB l) xs).d),.int .u32 ((foldB (padB l) xs).e),.int .u32 ((foldB (padB l) xs).f),.int .u32 ((foldB (padB l) xs).g),.int .u32 ((foldB (padB l) xs).h)] 169 (0,0))]) (fun p hp=>by rw [List.mem_singleton.1 hp]; rfl)) (fun _ _ _ h=>h.elim) (fun _=>rfl) (fun t ht=>by have h9:=List.mem_singleton.1 (Array.mem_toList_iff.2 ht); subst h9; exact Nat.le_of_ble_eq_true rfl) (fun x=>[⟨7,[],.slice (some ⟨b6,0+64 * x.1,none⟩) 64 64⟩,⟨2,[],pt b1⟩,⟨5,[],pt b41⟩,⟨6,[],pt b42⟩]) ?_ ?_ ?_ (fun _ _ _ _ _ h=>h.elim)
  ·
   exact fun r L D pre x => GR_region rfl (fun _ _ h => by cases h.1) (GL_fin (E' := [⟨7, [], .slice (some ⟨b6, 0 + 64 * x.1, none⟩) 64 64⟩, ⟨2, [], pt b1⟩, ⟨5, [], pt b41⟩, ⟨6, [], pt b42⟩]) [0] [7, 2, 5, 6] rfl (by kernel_rfl) (fun a w ha hs => ⟨rfl, ha, hs⟩))
  ·
   intro r L D pre x hlen
   refine GR_block ?_
   refine GR_region rfl (fun _ _ h => h) ?_
   refine GL_loadA (i:=0) (ch:=[]) (b:=b41) (off:=0) (l:=[.int .u32 ((foldB (padB l) pre).a),.int .u32 ((foldB (padB l) pre).b),.int .u32 ((foldB (padB l) pre).c),.int .u32 ((foldB (padB l) pre).d),.int .u32 ((foldB (padB l) pre).e),.int .u32 ((foldB (padB l) pre).f),.int .u32 ((foldB (padB l) pre).g),.int .u32 ((foldB (padB l) pre).h)]) rfl rfl kr kr kr kr kr kr (At.grp 5 0 rfl rfl) kr ?_
   refine GL_p [0] kr (j:=2) rfl ?_
   refine GL_loadA (i:=2) (ch:=[]) (b:=b42) (off:=0) (l:=(u32s kTab)) rfl rfl kr kr kr kr kr kr (At.grp 4 0 rfl rfl) kr ?_
   refine GL_call (i:=3) (ch:=[]) (f:=128) (fst:=#[]) (caps:=#[]) (vs:=[.agg #[.int .u32 ((foldB (padB l) pre).a),.int .u32 ((foldB (padB l) pre).b),.int .u32 ((foldB (padB l) pre).c),.int .u32 ((foldB (padB l) pre).d),.int .u32 ((foldB (padB l) pre).e),.int .u32 ((foldB (padB l) pre).f),.int .u32 ((foldB (padB l) pre).g),.int .u32 ((foldB (padB l) pre).h)],.slice (some ⟨b6,0+64 * x.1,none⟩) 64 64,(.agg (u32s kTab).toArray)]) rfl rfl rfl kr kr Tryz.func128 rfl rfl kr kr (chSure_of kr) (block_ (foldB (padB l) pre) (some ⟨b6,0+64 * x.1,none⟩) 64 (inG g35) (chunkOf (padB l) x.1) (chunkOf_len hP x.2) (by rw [chunkOf_u8s]; exact own_rd_at hO6) _ _ (at_inG 7 rfl)) ?_
   rintro v H' ⟨rfl, rfl⟩
   refine GL_st (i:=4) (ch:=[]) (b:=b41) (off:=0) (v:=.agg #[.int .u32 ((compress (byt (chunkOf (padB l) x.1)) (foldB (padB l) pre)).a),.int .u32 ((compress (byt (chunkOf (padB l) x.1)) (foldB (padB l) pre)).b),.int .u32 ((compress (byt (chunkOf (padB l) x.1)) (foldB (padB l) pre)).c),.int .u32 ((compress (byt (chunkOf (padB l) x.1)) (foldB (padB l) pre)).d),.int .u32 ((compress (byt (chunkOf (padB l) x.1)) (foldB (padB l) pre)).e),.int .u32 ((compress (byt (chunkOf (padB l) x.1)) (foldB (padB l) pre)).f),.int .u32 ((compress (byt (chunkOf (padB l) x.1)) (foldB (padB l) pre)).g),.int .u32 ((compress (byt (chunkOf (padB l) x.1)) (foldB (padB l) pre)).h)]) (j:=5) (L::D::[(nb44,.cells #[.int .i64 64] 3 (0,0))]::[(kb43,.cells #[.slice (some ⟨b6,0,none⟩) (64 * ((padB l).length / 64)) cap38] 22 (0,0))]::[(b42,.cells kArr 171 (0,0))]::[(b41,.cells #[.int .u32 ((compress (byt (chunkOf (padB l) x.1)) (foldB (padB l) pre)).a),.int .u32 ((compress (byt (chunkOf (padB l) x.1)) (foldB (padB l) pre)).b),.int .u32 ((compress (byt (chunkOf (padB l) x.1)) (foldB (padB l) pre)).c),.int .u32 ((compress (byt (chunkOf (padB l) x.1)) (foldB (padB l) pre)).d),.int .u32 ((compress (byt (chunkOf (padB l) x.1)) (foldB (padB l) pre)).e),.int .u32 ((compress (byt (chunkOf (padB l) x.1)) (foldB (padB l) pre)).f),.int .u32 ((compress (byt (chunkOf (padB l) x.1)) (foldB (padB l) pre)).g),.int .u32 ((compress (byt (chunkOf (padB l) x.1)) (foldB (padB l) pre)).h)] 169 (0,0))]::g27::g35::[(b1,.cells z32 148 (0,0))]::[(pb,.cells #[.slice xa l.length xc] 22 (0,0))]::H) rfl rfl kr kr kr kr kr kr kr rfl rfl (Nat.le_of_ble_eq_true rfl) (fun _ _=>thaw0) kr ?_
   refine GL_fin (E':=[]) [] [] rfl kr ?_
   intro a w ha hs
   show Sat W0 (L :: D :: ([(nb44, .cells #[.int .i64 64] 3 (0, 0))] :: [(kb43, .cells #[.slice (some ⟨b6, 0, none⟩) (64 * ((padB l).length / 64)) cap38] 22 (0, 0))] :: [(b42, .cells kArr 171 (0, 0))] :: [(b41, .cells #[.int .u32 ((foldB (padB l) (pre ++ [x])).a), .int .u32 ((foldB (padB l) (pre ++ [x])).b), .int .u32 ((foldB (padB l) (pre ++ [x])).c), .int .u32 ((foldB (padB l) (pre ++ [x])).d), .int .u32 ((foldB (padB l) (pre ++ [x])).e), .int .u32 ((foldB (padB l) (pre ++ [x])).f), .int .u32 ((foldB (padB l) (pre ++ [x])).g), .int .u32 ((foldB (padB l) (pre ++ [x])).h)] 169 (0, 0))] :: g27 :: g35 :: [(b1, .cells z32 148 (0, 0))] :: [(pb, .cells #[.slice xa l.length xc] 22 (0, 0))] :: H)) w
   rw [foldB_snoc]
   exact hs
  ·
   intro D1 xs hxs
   subst hxs
   refine N_heap (H':=([(D1,.deferred (some []))]::[(nb44,.cells #[.int .i64 64] 3 (0,0))]::[(kb43,.cells #[.slice (some ⟨b6,0,none⟩) (64 * ((padB l).length / 64)) cap38] 22 (0,0))]::[(b42,.cells kArr 171 (0,0))]::[(b41,.cells #[.int .u32 ((sumS l).a),.int .u32 ((sumS l).b),.int .u32 ((sumS l).c),.int .u32 ((sumS l).d),.int .u32 ((sumS l).e),.int .u32 ((sumS l).f),.int .u32 ((sumS l).g),.int .u32 ((sumS l).h)] 169 (0,0))]::g27::g35::[(b1,.cells z32 148 (0,0))]::[(pb,.cells #[.slice xa l.length xc] 22 (0,0))]::H)) (fun w h=>h) ?_
   refine N_block ?_
   refine N_then ?_
   refine G_seq ?_
   refine G_region ?_
   refine GL_alloc (i:=0) (ch:=[]) (z:=.agg (oArr (sumS l) 0)) rfl rfl kr kr kr kr (fun b45=>?_)
   refine GL_fin (E':=[⟨2,[],pt b1⟩,⟨5,[],pt b41⟩,⟨8,[],pt b45⟩]) [] [2,5,8] rfl kr ?_
   refine N_then ?_
   refine G_seq ?_
   refine G_seq ?_
   refine G_region ?_
   refine GL_loadA (i:=0) (ch:=[]) (b:=b41) (off:=0) (l:=[.int .u32 ((sumS l).a),.int .u32 ((sumS l).b),.int .u32 ((sumS l).c),.int .u32 ((sumS l).d),.int .u32 ((sumS l).e),.int .u32 ((sumS l).f),.int .u32 ((sumS l).g),.int .u32 ((sumS l).h)]) rfl rfl kr kr kr kr kr kr (At.grp 5 0 rfl rfl) kr ?_
   refine GL_fin (E':=[⟨2,[],pt b1⟩,⟨8,[],pt b45⟩,⟨40,[],.agg #[.int .u32 ((sumS l).a),.int .u32 ((sumS l).b),.int .u32 ((sumS l).c),.int .u32 ((sumS l).d),.int .u32 ((sumS l).e),.int .u32 ((sumS l).f),.int .u32 ((sumS l).g),.int .u32 ((sumS l).h)]⟩,⟨41,[],.int .i64 0⟩]) [0] [2,8,40,41] rfl kr ?_
   refine N_then ?_
   refine G_block ?_
   refine G_heap (H':=([(b45,.cells (oArr (sumS l) 0) 148 (0,0))]::[(D1,.deferred (some []))]::[(b1,.cells z32 148 (0,0))]::[(pb,.cells #[.slice xa l.length xc] 22 (0,0))]::H)) (fun w h=>((((((h.erase 7).erase 6).erase 5).erase 4).erase 3).erase 2)) ?_
   refine G_loop (EI:=(fun ξ : Nat=>[⟨2,[],pt b1⟩,⟨8,[],pt b45⟩,⟨40,[],.agg #[.int .u32 ((sumS l).a),.int .u32 ((sumS l).b),.int .u32 ((sumS l).c),.int .u32 ((sumS l).d),.int .u32 ((sumS l).e),.int .u32 ((sumS l).f),.int .u32 ((sumS l).g),.int .u32 ((sumS l).h)]⟩,⟨41,[],.int .i64 ((ξ : Nat) : Int)⟩])) (HI:=(fun ξ : Nat=>([(b45,.cells (oArr (sumS l) (4 * ξ)) 148 (0,0))]::[(D1,.deferred (some []))]::[(b1,.cells z32 148 (0,0))]::[(pb,.cells #[.slice xa l.length xc] 22 (0,0))]::H))) (Φ:=(fun ξ : Nat=>(ξ ≤ 8))) (μ:=(fun ξ : Nat=>8 - ξ)) (s0:=(0)) [2,8,40,41] kr rfl (by omega) ?_
   rintro j hj
   refine G_seq ?_
   refine G_pure (E':=[⟨2,[],pt b1⟩,⟨8,[],pt b45⟩,⟨40,[],.agg #[.int .u32 ((sumS l).a),.int .u32 ((sumS l).b),.int .u32 ((sumS l).c),.int .u32 ((sumS l).d),.int .u32 ((sumS l).e),.int .u32 ((sumS l).f),.int .u32 ((sumS l).g),.int .u32 ((sumS l).h)]⟩,⟨41,[],.int .i64 ((j : Nat) : Int)⟩,⟨42,[],.bool (decide (((j : Nat) : Int) < 8))⟩]) [0] [2,8,40,41,42] rfl kr ?_
   refine N_then ?_
   refine G_seq ?_
   refine G_cond (b:=decide (((j : Nat) : Int) < 8)) kr (fun hc46=>?_) (fun hc46=>?_)
   ·
    have hj8 := of_decide_eq_true hc46
    replace hj8 : j < 8 := by omega
    refine G_skip ?_
    refine N_then ?_
    refine G_seq ?_
    refine G_block ?_
    refine G_seq ?_
    refine G_region ?_
    refine GL_p [0] kr (j:=1) rfl ?_
    refine GL_indexV (i:=1) (ch:=[]) (vs:=#[.int .u32 ((sumS l).a),.int .u32 ((sumS l).b),.int .u32 ((sumS l).c),.int .u32 ((sumS l).d),.int .u32 ((sumS l).e),.int .u32 ((sumS l).f),.int .u32 ((sumS l).g),.int .u32 ((sumS l).h)]) (kd:=.i64) (j:=((j : Nat) : Int)) (len:=8) (e:=144) (v:=.int .u32 (wd (sumS l) j)) rfl rfl kr kr kr kr kr kr kr kr (fun _=>⟨by omega,by omega,by rw [Int.toNat_natCast]; exact wd_at _ hj8⟩) ?_
    refine GL_fin (E':=[⟨2,[],pt b1⟩,⟨8,[],pt b45⟩,⟨9,[],.int .i64 ((j : Nat) : Int)⟩,⟨10,[],.int .u32 (wd (sumS l) j)⟩,⟨40,[],.agg #[.int .u32 ((sumS l).a),.int .u32 ((sumS l).b),.int .u32 ((sumS l).c),.int .u32 ((sumS l).d),.int .u32 ((sumS l).e),.int .u32 ((sumS l).f),.int .u32 ((sumS l).g),.int .u32 ((sumS l).h)]⟩,⟨41,[],.int .i64 ((j : Nat) : Int)⟩]) [0,0] [2,8,9,10,40,41] rfl kr ?_
    refine N_then ?_
    refine G_region ?_
    refine GL_p [0,0] kr (j:=2) rfl ?_
    refine GL_wi 46 (4 * ((j : Nat) : Int)) (by omega) (by omega) kr ?_
    refine GL_p [0,0] kr (j:=4) rfl ?_
    refine GL_wi 48 (4 * ((j : Nat) : Int)) (by omega) (by omega) kr ?_
    refine GL_p [0] kr (j:=5) rfl ?_
    refine GL_wi 49 ((4 * ((j : Nat) : Int))+1) (by omega) (by omega) kr ?_
    refine GL_p [0,0] kr (j:=7) rfl ?_
    refine GL_wi 51 (4 * ((j : Nat) : Int)) (by omega) (by omega) kr ?_
    refine GL_p [0] kr (j:=8) rfl ?_
    refine GL_wi 52 ((4 * ((j : Nat) : Int))+2) (by omega) (by omega) kr ?_
    refine GL_p [0,0] kr (j:=10) rfl ?_
    refine GL_wi 54 (4 * ((j : Nat) : Int)) (by omega) (by omega) kr ?_
    refine GL_p [0] kr (j:=11) rfl ?_
    refine GL_wi 55 ((4 * ((j : Nat) : Int))+3) (by omega) (by omega) kr ?_
    refine GL_p [0,0,0,0,0,0,0,0,0,0,0] kr (j:=22) rfl ?_
    refine GL_indexArr (i:=22) (ch:=[]) (b:=b45) (off:=0) (len:=32) (sz:=1) (e:=5) (kd:=.i64) (j:=4 * ((j : Nat) : Int)) rfl rfl kr kr kr kr kr kr kr (fun _=>by exact ⟨by omega,by omega⟩) ?_
    refine GL_store (i:=23) (ch:=[]) (b:=b45) (off:=0+Int.toNat (4 * ((j : Nat) : Int)) * 1) (v:=.int .u8 (IntKind.wrap .u8 (Int.fdiv (wd (sumS l) j) (2 ^ 24)))) (c:=(oArr (sumS l) (4 * j))) (c':=(oArr (sumS l) (4 * j+1))) (j:=0) (m:=0) (H':=([(b45,.cells (oArr (sumS l) (4 * j+1)) 148 (0,0))]::[(D1,.deferred (some []))]::[(b1,.cells z32 148 (0,0))]::[(pb,.cells #[.slice xa l.length xc] 22 (0,0))]::H)) rfl rfl kr kr kr kr kr kr kr rfl rfl (by rw [oArr_size _ (by omega)]; show 0+Int.toNat _ * 1+1 ≤ 32; omega) (fun _ _=>thaw0) (oArr_set _ (q:=(4 * ((j : Nat) : Int))) (j:=4 * j) (by omega) (by omega) (by rw [(outB_at _ hj8).1,← wrap_b8])) kr ?_
    refine GL_indexArr (i:=24) (ch:=[]) (b:=b45) (off:=0) (len:=32) (sz:=1) (e:=5) (kd:=.i64) (j:=(4 * ((j : Nat) : Int))+1) rfl rfl kr kr kr kr kr kr kr (fun _=>by exact ⟨by omega,by omega⟩) ?_
    refine GL_store (i:=25) (ch:=[]) (b:=b45) (off:=0+Int.toNat ((4 * ((j : Nat) : Int))+1) * 1) (v:=.int .u8 (IntKind.wrap .u8 (Int.fdiv (wd (sumS l) j) (2 ^ 16)))) (c:=(oArr (sumS l) (4 * j+1))) (c':=(oArr (sumS l) (4 * j+2))) (j:=0) (m:=0) (H':=([(b45,.cells (oArr (sumS l) (4 * j+2)) 148 (0,0))]::[(D1,.deferred (some []))]::[(b1,.cells z32 148 (0,0))]::[(pb,.cells #[.slice xa l.length xc] 22 (0,0))]::H)) rfl rfl kr kr kr kr kr kr kr rfl rfl (by rw [oArr_size _ (by omega)]; show 0+Int.toNat _ * 1+1 ≤ 32; omega) (fun _ _=>thaw0) (oArr_set _ (q:=((4 * ((j : Nat) : Int))+1)) (j:=4 * j+1) (by omega) (by omega) (by rw [(outB_at _ hj8).2.1,← wrap_b8])) kr ?_
    refine GL_indexArr (i:=26) (ch:=[]) (b:=b45) (off:=0) (len:=32) (sz:=1) (e:=5) (kd:=.i64) (j:=(4 * ((j : Nat) : Int))+2) rfl rfl kr kr kr kr kr kr kr (fun _=>by exact ⟨by omega,by omega⟩) ?_
    refine GL_store (i:=27) (ch:=[]) (b:=b45) (off:=0+Int.toNat ((4 * ((j : Nat) : Int))+2) * 1) (v:=.int .u8 (IntKind.wrap .u8 (Int.fdiv (wd (sumS l) j) (2 ^ 8)))) (c:=(oArr (sumS l) (4 * j+2))) (c':=(oArr (sumS l) (4 * j+3))) (j:=0) (m:=0) (H':=([(b45,.cells (oArr (sumS l) (4 * j+3)) 148 (0,0))]::[(D1,.deferred (some []))]::[(b1,.cells z32 148 (0,0))]::[(pb,.cells #[.slice xa l.length xc] 22 (0,0))]::H)) rfl rfl kr kr kr kr kr kr kr rfl rfl (by rw [oArr_size _ (by omega)]; show 0+Int.toNat _ * 1+1 ≤ 32; omega) (fun _ _=>thaw0) (oArr_set _ (q:=((4 * ((j : Nat) : Int))+2)) (j:=4 * j+2) (by omega) (by omega) (by rw [(outB_at _ hj8).2.2.1,← wrap_b8])) kr ?_
    refine GL_indexArr (i:=28) (ch:=[]) (b:=b45) (off:=0) (len:=32) (sz:=1) (e:=5) (kd:=.i64) (j:=(4 * ((j : Nat) : Int))+3) rfl rfl kr kr kr kr kr kr kr (fun _=>by exact ⟨by omega,by omega⟩) ?_
    refine GL_store (i:=29) (ch:=[]) (b:=b45) (off:=0+Int.toNat ((4 * ((j : Nat) : Int))+3) * 1) (v:=.int .u8 (IntKind.wrap .u8 (wd (sumS l) j))) (c:=(oArr (sumS l) (4 * j+3))) (c':=(oArr (sumS l) (4 * j+4))) (j:=0) (m:=0) (H':=([(b45,.cells (oArr (sumS l) (4 * j+4)) 148 (0,0))]::[(D1,.deferred (some []))]::[(b1,.cells z32 148 (0,0))]::[(pb,.cells #[.slice xa l.length xc] 22 (0,0))]::H)) rfl rfl kr kr kr kr kr kr kr rfl rfl (by rw [oArr_size _ (by omega)]; show 0+Int.toNat _ * 1+1 ≤ 32; omega) (fun _ _=>thaw0) (oArr_set _ (q:=((4 * ((j : Nat) : Int))+3)) (j:=4 * j+3) (by omega) (by omega) (by rw [(outB_at _ hj8).2.2.2,← wrap_b8])) kr ?_
    refine GL_fin (E':=[⟨2,[],pt b1⟩,⟨8,[],pt b45⟩,⟨40,[],.agg #[.int .u32 ((sumS l).a),.int .u32 ((sumS l).b),.int .u32 ((sumS l).c),.int .u32 ((sumS l).d),.int .u32 ((sumS l).e),.int .u32 ((sumS l).f),.int .u32 ((sumS l).g),.int .u32 ((sumS l).h)]⟩,⟨41,[],.int .i64 ((j : Nat) : Int)⟩]) [] [2,8,40,41] rfl kr ?_
    refine N_block ?_
    refine N_then ?_
    refine G_region ?_
    refine GL_p [0] kr (j:=1) rfl ?_
    refine GL_wi 71 (((j : Nat) : Int)+1) (by omega) (by omega) kr ?_
    refine GL_fin (E':=[⟨2,[],pt b1⟩,⟨8,[],pt b45⟩,⟨40,[],.agg #[.int .u32 ((sumS l).a),.int .u32 ((sumS l).b),.int .u32 ((sumS l).c),.int .u32 ((sumS l).d),.int .u32 ((sumS l).e),.int .u32 ((sumS l).f),.int .u32 ((sumS l).g),.int .u32 ((sumS l).h)]⟩,⟨41,[],.int .i64 (((j : Nat) : Int)+1)⟩]) [0] [2,8,40,41] rfl kr ?_
    refine N_round (s':=(j+1)) [2,8,40,41] kr rfl (by omega) (by omega)
   ·
    have hj8 : j = 8 := by (have h9 := of_decide_eq_false hc46; omega)
    refine G_exit ?_
    refine N_then_exit ?_
    refine N_then_exit ?_
    refine N_block_exit ?_
    refine N_then ?_
    refine G_seq ?_
    refine G_region ?_
    refine GL_loadA (i:=0) (ch:=[]) (b:=b45) (off:=0) (l:=(u8s (outB (sumS l)))) rfl rfl kr kr kr kr kr kr (At.grp 0 0 rfl rfl) (by rw [hj8]; exact oload _) ?_
    refine GL_store (i:=1) (ch:=[]) (b:=b1) (off:=0) (v:=.agg (u8s (sumB l)).toArray) (c:=z32) (c':=(u8s (sumB l)).toArray) (j:=2) (m:=0) (H':=([(b45,.cells (oArr (sumS l) (4 * j)) 148 (0,0))]::[(D1,.deferred (some []))]::[(b1,.cells (u8s (sumB l)).toArray 148 (0,0))]::[(pb,.cells #[.slice xa l.length xc] 22 (0,0))]::H)) rfl rfl kr kr kr kr kr kr kr rfl rfl (Nat.le_of_ble_eq_true rfl) (fun _ _=>thaw0) kr kr ?_
    refine GL_fin (E':=[⟨2,[],pt b1⟩]) [] [2] rfl kr ?_
    refine N_then ?_
    refine G_ret ?_
    refine N_heap (H':=([(D1,.deferred (some []))]::[(b45,.cells (oArr (sumS l) (4 * j)) 148 (0,0))]::[(b1,.cells (u8s (sumB l)).toArray 148 (0,0))]::[(pb,.cells #[.slice xa l.length xc] 22 (0,0))]::H)) (fun w h=>(h.front (j:=1) rfl)) ?_
    refine N_retM [.cell 2 148] [(.agg ((u8s (sumB l))).toArray)] rfl rfl (.cons (.agg (b:=b1) (off:=0) (l:=(u8s (sumB l))) kr kr kr (At.grp 1 0 rfl rfl) kr) (.nil)) rfl ⟨([(pb,.cells #[.slice xa l.length xc] 22 (0,0))]::H),?_,fun w h=>((h.erase 1).erase 0)⟩
    exact ⟨rfl, rfl⟩
theorem hex_ (pb : Nat) (xa : Option Addr) (xc : Nat) (S : Nat → Obj → Prop) (l : List UInt8) (hrd : Rd S xa (u8s l)) (h0 : xa = none → l.length = 0) (hn : l.length ≤ 1099511627776) (W0 : World) (H : List Grp) (hS : ∀ y o, S y o → At W0 H y o) : Tri Tryz.prog 84 #[.slice (some ⟨pb, 0, none⟩) 1 1] W0 ([(pb, .cells #[.slice xa l.length xc] 22 (0, 0))] :: H) (fun v H' => v = .string (hexM l) ∧ H' = ([(pb, .cells #[.slice xa l.length xc] 22 (0, 0))] :: H)) := by
 refine Tri_of (args := [.slice (some ⟨pb, 0, none⟩) 1 1]) (n := 23) Tryz.func84 rfl rfl (Nat.le_of_ble_eq_true rfl) ?_
 refine G_seq ?_
 refine G_pure (E':=[⟨0,[],.slice (some ⟨pb,0,none⟩) 1 1⟩]) [0] [0] rfl kr ?_
 refine N_then ?_
 refine G_seq ?_
 refine G_pure (E':=[⟨0,[],.slice (some ⟨pb,0,none⟩) 1 1⟩,⟨3,[],.slice none 0 0⟩]) [0] [0,3] rfl kr ?_
 refine N_then ?_
 refine G_seq ?_
 refine G_seq ?_
 refine G_region ?_
 refine GL_p [0] kr (j:=1) rfl ?_
 refine GL_call (i:=1) (ch:=[]) (f:=103) (fst:=#[]) (caps:=#[]) (vs:=[.slice (some ⟨pb,0,none⟩) 1 1]) rfl rfl rfl kr kr Tryz.func103 rfl rfl kr kr (chSure_of kr) (sum_ pb xa xc S l hrd h0 hn _ _ (fun y o h=>(hS y o h))) ?_
 rintro v H' ⟨rfl, rfl⟩
 refine GL_fin (E':=[⟨3,[],.slice none 0 0⟩,⟨7,[],(.agg (u8s (sumB l)).toArray)⟩,⟨8,[],.int .i64 0⟩]) [0] [3,7,8] rfl kr ?_
 refine N_then ?_
 refine G_block ?_
 refine G_heap (H':=([]::[(pb,.cells #[.slice xa l.length xc] 22 (0,0))]::H)) (fun w h=>h.flat (List.Perm.refl _)) ?_
 refine G_loop (EI:=(fun ξ : Nat × Value × Grp=>[⟨3,[],ξ.2.1⟩,⟨7,[],(.agg (u8s (sumB l)).toArray)⟩,⟨8,[],.int .i64 ((ξ.1 : Nat) : Int)⟩])) (HI:=(fun ξ : Nat × Value × Grp=>(ξ.2.2::[(pb,.cells #[.slice xa l.length xc] 22 (0,0))]::H))) (Φ:=(fun ξ : Nat × Value × Grp=>(ξ.1 ≤ 32)∧(Go.Sw.Own 5 1 ξ.2.1 ξ.2.2 (2 * ξ.1) (u8s (hexK (sumB l) ξ.1))))) (μ:=(fun ξ : Nat × Value × Grp=>32 - ξ.1)) (s0:=(0,.slice none 0 0,[])) [3,7,8] kr rfl ⟨(by omega),Go.Sw.Own.nil⟩ ?_
 rintro ⟨j, vh, gh⟩ ⟨hj, hOh⟩
 replace hOh : Go.Sw.Own 5 1 vh gh (2 * j) (u8s (hexK (sumB l) j)) := hOh
 refine G_seq ?_
 refine G_pure (E':=[⟨3,[],vh⟩,⟨7,[],(.agg (u8s (sumB l)).toArray)⟩,⟨8,[],.int .i64 ((j : Nat) : Int)⟩,⟨9,[],.bool (decide (((j : Nat) : Int) < 32))⟩]) [0] [3,7,8,9] rfl kr ?_
 refine N_then ?_
 refine G_seq ?_
 refine G_cond (b:=decide (((j : Nat) : Int) < 32)) kr (fun hc1=>?_) (fun hc1=>?_)
 ·
  have hj8 := of_decide_eq_true hc1
  refine G_skip ?_
  refine N_then ?_
  refine G_seq ?_
  refine G_block ?_
  refine G_seq ?_
  refine G_region ?_
  refine GL_indexV (i:=0) (ch:=[]) (vs:=(u8s (sumB l)).toArray) (kd:=.i64) (j:=((j : Nat) : Int)) (len:=32) (e:=5) (v:=.int .u8 (byt (sumB l) j)) rfl rfl kr kr kr kr kr kr kr kr (fun _=>⟨by omega,by omega,by rw [Int.toNat_natCast,List.getElem?_toArray]; exact byt_at rfl (by show j < 32; omega)⟩) ?_
  refine GL_fin (E':=[⟨3,[],vh⟩,⟨5,[],.int .u8 (byt (sumB l) j)⟩,⟨7,[],(.agg (u8s (sumB l)).toArray)⟩,⟨8,[],.int .i64 ((j : Nat) : Int)⟩]) [0] [3,5,7,8] rfl kr ?_
  refine N_then ?_
  refine G_regionH ([(pb,.cells #[.slice xa l.length xc] 22 (0,0))]::H) kr ?_
  refine GH_p (fuel:=7) [(0,0),(1,0),(2,0)] (fun w h=>(h.erase 0)) kr rfl ?_
  refine GH_take' 3 kr (fun w h=>(h.erase 0)) (GL_index (i:=3) (ch:=[]) (s:=(ByteArray.mk #[48,49,50,51,52,53,54,55,56,57,97,98,99,100,101,102])) (kd:=.u8) (j:=Int.fdiv (byt (sumB l) j) (2 ^ 4)) rfl rfl kr kr kr kr kr kr (by have:=nib_at (sumB l) j; unfold low4 at this; intro _; exact ⟨by omega,by show _ < 16; omega⟩) (GL_yend kr rfl)) ?_
  have hb2 := byteAt_rng (ByteArray.mk #[48, 49, 50, 51, 52, 53, 54, 55, 56, 57, 97, 98, 99, 100, 101, 102]) (Int.fdiv (byt (sumB l) j) (2 ^ 4))
  refine GH_p (fuel:=4) [(4,0),(5,0)] (fun w h=>(h.erase 0)) kr rfl ?_
  refine GH_take' 6 kr (fun w h=>(h.erase 0)) (GL_index (i:=6) (ch:=[]) (s:=(ByteArray.mk #[48,49,50,51,52,53,54,55,56,57,97,98,99,100,101,102])) (kd:=.u8) (j:=IntKind.wrap .u8 ((BitVec.ofInt (IntKind.bits .u8) (byt (sumB l) j) &&& BitVec.ofInt (IntKind.bits .u8) 15).toNat)) rfl rfl kr kr kr kr kr kr (by have:=nib_at (sumB l) j; unfold low4 at this; intro _; exact ⟨by omega,by show _ < 16; omega⟩) (GL_yend kr rfl)) ?_
  have hb3 := byteAt_rng (ByteArray.mk #[48, 49, 50, 51, 52, 53, 54, 55, 56, 57, 97, 98, 99, 100, 101, 102]) (IntKind.wrap .u8 ((BitVec.ofInt (IntKind.bits .u8) (byt (sumB l) j) &&& BitVec.ofInt (IntKind.bits .u8) 15).toNat))
  refine GH_eff 7 kr kr kr ?_
  refine GL_buildSlice (i:=7) (ch:=[]) (e:=5) (l:=[(0,.int .u8 (byteAt (ByteArray.mk #[48,49,50,51,52,53,54,55,56,57,97,98,99,100,101,102]) (Int.fdiv (byt (sumB l) j) (2 ^ 4)))),(1,.int .u8 (byteAt (ByteArray.mk #[48,49,50,51,52,53,54,55,56,57,97,98,99,100,101,102]) (IntKind.wrap .u8 ((BitVec.ofInt (IntKind.bits .u8) (byt (sumB l) j) &&& BitVec.ofInt (IntKind.bits .u8) 15).toNat))))]) (c:=[.int .u8 (byteAt (ByteArray.mk #[48,49,50,51,52,53,54,55,56,57,97,98,99,100,101,102]) (Int.fdiv (byt (sumB l) j) (2 ^ 4))),.int .u8 (byteAt (ByteArray.mk #[48,49,50,51,52,53,54,55,56,57,97,98,99,100,101,102]) (IntKind.wrap .u8 ((BitVec.ofInt (IntKind.bits .u8) (byt (sumB l) j) &&& BitVec.ofInt (IntKind.bits .u8) 15).toNat)))]) rfl rfl kr kr kr kr kr (fun b4=>?_)
  refine GH_back kr (fun w h=>((h.erase 1).erase 0)) ?_
  refine GH_more ([(b4,.cells #[.int .u8 (byteAt (ByteArray.mk #[48,49,50,51,52,53,54,55,56,57,97,98,99,100,101,102]) (Int.fdiv (byt (sumB l) j) (2 ^ 4))),.int .u8 (byteAt (ByteArray.mk #[48,49,50,51,52,53,54,55,56,57,97,98,99,100,101,102]) (IntKind.wrap .u8 ((BitVec.ofInt (IntKind.bits .u8) (byt (sumB l) j) &&& BitVec.ofInt (IntKind.bits .u8) 15).toNat)))] 5 (0,0))]::[(pb,.cells #[.slice xa l.length xc] 22 (0,0))]::H) (fun w h=>(h.erase 0)) ?_
  refine GH_eff 8 kr kr kr ?_
  refine GL_append (i:=8) (ch:=[]) (t:=22) (tx:=22) (e:=5) (inf:=Tryz.t5) (s:=vh) (x:=.slice (some ⟨b4,0,none⟩) 2 2) (n:=(2 * j)) (m:=2) (j:=1) (cs:=(u8s (hexK (sumB l) j))) (news:=[.int .u8 (byteAt (ByteArray.mk #[48,49,50,51,52,53,54,55,56,57,97,98,99,100,101,102]) (Int.fdiv (byt (sumB l) j) (2 ^ 4))),.int .u8 (byteAt (ByteArray.mk #[48,49,50,51,52,53,54,55,56,57,97,98,99,100,101,102]) (IntKind.wrap .u8 ((BitVec.ofInt (IntKind.bits .u8) (byt (sumB l) j) &&& BitVec.ofInt (IntKind.bits .u8) 15).toNat)))]) (g:=gh) (S:=(inG [(b4,.cells #[.int .u8 (byteAt (ByteArray.mk #[48,49,50,51,52,53,54,55,56,57,97,98,99,100,101,102]) (Int.fdiv (byt (sumB l) j) (2 ^ 4))),.int .u8 (byteAt (ByteArray.mk #[48,49,50,51,52,53,54,55,56,57,97,98,99,100,101,102]) (IntKind.wrap .u8 ((BitVec.ofInt (IntKind.bits .u8) (byt (sumB l) j) &&& BitVec.ofInt (IntKind.bits .u8) 15).toNat)))] 5 (0,0))])) rfl rfl rfl rfl kr kr kr rfl rfl (.inl ⟨5,kr⟩) (fun ⟨_,h⟩=>by cases h) (fun _=>⟨5,kr⟩) kr kr kr rfl hOh (SrcOf.slice _ _ _ _ Rd.lit (fun h=>by cases h)) (at_inG 0 rfl) kr (by intro u hu; simp only [List.mem_cons,List.not_mem_nil,or_false] at hu; rcases hu with rfl | rfl <;> rfl) (by omega) (by show ((2 * j)+2) * 1 ≤ 140737488355328; omega) (fun v5 g6 hO7=>?_)
  refine GH_back kr (fun w h=>(h.erase 1)) ?_
  refine GH_more ([(b4,.cells #[.int .u8 (byteAt (ByteArray.mk #[48,49,50,51,52,53,54,55,56,57,97,98,99,100,101,102]) (Int.fdiv (byt (sumB l) j) (2 ^ 4))),.int .u8 (byteAt (ByteArray.mk #[48,49,50,51,52,53,54,55,56,57,97,98,99,100,101,102]) (IntKind.wrap .u8 ((BitVec.ofInt (IntKind.bits .u8) (byt (sumB l) j) &&& BitVec.ofInt (IntKind.bits .u8) 15).toNat)))] 5 (0,0))]::g6::[(pb,.cells #[.slice xa l.length xc] 22 (0,0))]::H) (fun w h=>(h.erase 1)) ?_
  refine GH_p (fuel:=0) [(9,0)] (fun w h=>h) kr rfl ?_
  refine GH_done (E':=[⟨3,[],v5⟩,⟨7,[],(.agg (u8s (sumB l)).toArray)⟩,⟨8,[],.int .i64 ((j : Nat) : Int)⟩]) [3,7,8] kr kr ?_
  refine N_block ?_
  refine N_then ?_
  refine G_region ?_
  refine GL_p [0] kr (j:=1) rfl ?_
  refine GL_wi 20 (((j : Nat) : Int)+1) (by omega) (by omega) kr ?_
  refine GL_fin (E':=[⟨3,[],v5⟩,⟨7,[],(.agg (u8s (sumB l)).toArray)⟩,⟨8,[],.int .i64 (((j : Nat) : Int)+1)⟩]) [0] [3,7,8] rfl kr ?_
  refine N_heap (H':=(g6::[(pb,.cells #[.slice xa l.length xc] 22 (0,0))]::H)) (fun w h=>(h.erase 0)) ?_
  refine N_round (s':=(j+1,v5,g6)) [3,7,8] kr rfl ⟨(by omega),(own_cs hO7 (hexK_succ (sumB l) (by show j < 32; omega)))⟩ (by omega)
 ·
  have hj8 : j = 32 := by (have h9 := of_decide_eq_false hc1; omega)
  obtain ⟨ah, ch, hvh, hch, hrh⟩ := (own_hex hOh).shape
  refine G_exit ?_
  refine N_then_exit ?_
  refine N_then_exit ?_
  refine N_block_exit ?_
  refine N_then ?_
  refine G_seq ?_
  refine G_region ?_
  refine GL_pure (E':=[⟨21,[],vh⟩]) [0] kr (j:=1) rfl ?_
  refine GL_env (E':=[⟨21,[],.slice ah ((ByteArray.mk (hexK (sumB l) j).toArray).size) ch⟩]) (by rw [hvh,hex_size l hj]) ?_
  refine GL_bytesB (i:=1) (ch:=[]) (a:=ah) (cap:=ch) (e:=5) (S:=(inG gh)) (ByteArray.mk (hexK (sumB l) j).toArray) rfl rfl kr kr kr kr kr kr kr hrh (at_inG 0 rfl) ?_
  refine GL_fin (E':=[⟨2,[],.string (ByteArray.mk (hexK (sumB l) j).toArray)⟩]) [0] [2] rfl kr ?_
  refine N_then ?_
  refine G_ret ?_
  refine N_heap (H':=([(pb,.cells #[.slice xa l.length xc] 22 (0,0))]::H)) (fun w h=>(h.erase 0)) ?_
  refine N_ret [.tmp 2] [.string (ByteArray.mk (hexK (sumB l) j).toArray)] rfl kr rfl ?_
  exact ⟨by rw [hj8]; rfl, rfl⟩
end Go.Proofs.YtlaoeiaaeifidaaGreat
namespace Go.Vf
open Go.Sw Go.RowKit
def cells2 {α : Type} (f : α → Value × Value) (l : List α) : List Value := l.flatMap fun x => [(f x).1, (f x).2]
def nmC (l : List Nm) : List Value := cells2 (fun x => (.string x.1, .int .i64 x.2)) l
def bdC (l : List Body) : List Value := cells2 (fun x => (.string x.now, .string x.kept)) l
structure CR where
  dir : ByteArray
  l : List Nm
  a : Option Addr
  c : Nat
instance : Inhabited CR := ⟨⟨ByteArray.mk #[], [], none, 0⟩⟩
def chC (l : List CR) : List Value := cells2 (fun x => (.string x.dir, .slice x.a x.l.length x.c)) l
end Go.Vf
namespace Go.Proofs.YtlaoeiaaeifidaaGreat
open Go.Sw Go.Lib Go.Vf Go.Sha Go.Jr
theorem strs_ne {ts : List ByteArray} (h : 0 < ts.length) : strs ts ≠ [] := fun e => by
  have := congrArg List.length e; simp [strs] at this; subst this; exact absurd h (by decide)
theorem any_hit {ts : List ByteArray} {k : Nat} (hk : k < ts.length) (h : (!rightJ (ts.getD k default)) = true) : ts.any (fun t => !rightJ t) = true := by
  rw [List.any_eq_true]
  refine ⟨ts.getD k default, ?_, h⟩
  rw [List.getD, List.getElem?_eq_getElem hk]; exact List.getElem_mem hk
theorem any_none {ts : List ByteArray} (h : ∀ j, j < ts.length → rightJ (ts.getD j default) = true) : ts.any (fun t => !rightJ t) = false := by
  rw [List.any_eq_false]
  intro t ht
  obtain ⟨j, hj, rfl⟩ := List.getElem_of_mem ht
  have := h j hj
  rw [List.getD, List.getElem?_eq_getElem hj] at this
  simpa using this
theorem all_succ {ts : List ByteArray} {k : Nat} (h : ∀ j, j < k → rightJ (ts.getD j default) = true) (hk : (!rightJ (ts.getD k default)) = false) : ∀ j, j < k + 1 → rightJ (ts.getD j default) = true := fun j hj => by
  rcases Nat.lt_or_ge j k with h' | h'
  · exact h j h'
  · have : j = k := by omega
    subst this; simpa using hk
def mayI (ts : List ByteArray) (down : Bool) : Int := if ts.any (fun t => !rightJ t) then 2 else if down then 63 else 0
def jG (jb d : Nat) (dir : ByteArray) (rv : Value) (size : Int) (down there : Bool) : Grp := [(jb, .cells #[pt d, .string dir, rv, .int .i64 size, .bool down, .bool there] 83 (0, 0))]
theorem sliteIndexL (s : ByteArray) (W0 : World) (H : List Grp) : Tri Tryz.prog 99 #[.string s, .string (ByteArray.mk #[10])] W0 H (fun v H' => v = .int .i64 (lf s) ∧ H' = H) := by
 refine Tri_of (args := [.string s, .string (ByteArray.mk #[10])]) (n := 143) Tryz.func99 rfl rfl (Nat.le_of_ble_eq_true rfl) ?_
 refine G_seq ?_
 refine G_pure (E':=[⟨0,[],.string s⟩,⟨1,[],.string (ByteArray.mk #[10])⟩]) [0] [0,1] rfl kr ?_
 refine N_then ?_
 refine G_seq ?_
 refine G_pure (E':=[⟨0,[],.string s⟩,⟨1,[],.string (ByteArray.mk #[10])⟩,⟨5,[],.int .i64 1⟩]) [0,0,0] [0,1,5] rfl kr ?_
 refine N_then ?_
 refine G_seq ?_
 refine G_block ?_
 refine G_seq ?_
 refine G_pure (E':=[⟨0,[],.string s⟩,⟨1,[],.string (ByteArray.mk #[10])⟩,⟨5,[],.int .i64 1⟩,⟨16,[],.bool ((ByteArray.mk #[10]).toList == s.toList)⟩]) [0,0,0,0,0,0,3,0] [0,1,5,16] rfl kr ?_
 refine N_then ?_
 refine G_cond (b:=(ByteArray.mk #[10]).toList == s.toList) kr (fun hc1=>?_) (fun hc1=>?_)
 ·
  have hc1 := lf_one (by simpa using hc1)
  refine G_seq ?_
  refine G_pure (E':=[⟨4,[],.int .i64 0⟩]) [0] [4] rfl kr ?_
  refine N_then ?_
  refine G_ret ?_
  refine N_block_ret ?_
  refine N_then_ret ?_
  refine N_ret [.tmp 4] [.int .i64 0] rfl kr rfl ?_
  exact ⟨by rw [hc1]; rfl, rfl⟩
 ·
  simp at hc1
  refine G_seq ?_
  refine G_pure (E':=[⟨0,[],.string s⟩,⟨1,[],.string (ByteArray.mk #[10])⟩,⟨5,[],.int .i64 1⟩,⟨24,[],.bool true⟩]) [0,0,0] [0,1,5,24] rfl kr ?_
  refine N_then ?_
  refine G_condt kr ?_
  refine G_seq ?_
  refine G_region ?_
  refine GL_p [0,0] kr (j:=2) rfl ?_
  refine GL_index (i:=2) (ch:=[]) (s:=(ByteArray.mk #[10])) (kd:=.i64) (j:=0) rfl rfl kr kr kr kr kr kr (fun _=>by decide) ?_
  refine GL_callQ (i:=3) (ch:=[]) (f:=117) (fst:=#[]) (caps:=#[]) (vs:=[.string s,.int .u8 10]) (v:=.int .i64 (bIdx s 10)) rfl rfl rfl kr kr Tryz.func117 rfl rfl kr kr kr (fun _=>sliteIndexByte _ _ _ _) ?_
  refine GL_fin (E':=[⟨4,[],.int .i64 (bIdx s 10)⟩]) [0] [4] rfl kr ?_
  refine N_then ?_
  refine G_ret ?_
  refine N_block_ret ?_
  refine N_then_ret ?_
  refine N_ret [.tmp 4] [.int .i64 (bIdx s 10)] rfl kr rfl ?_
  exact ⟨rfl, rfl⟩
theorem strIndexL (s : ByteArray) (W0 : World) (H : List Grp) : Tri Tryz.prog 77 #[.string s, .string (ByteArray.mk #[10])] W0 H (fun v H' => v = .int .i64 (lf s) ∧ H' = H) := by
 refine Tri_of (args := [.string s, .string (ByteArray.mk #[10])]) (n := 8) Tryz.func77 rfl rfl (Nat.le_of_ble_eq_true rfl) ?_
 refine G_seq ?_
 refine G_pure (E':=[⟨0,[],.string s⟩,⟨1,[],.string (ByteArray.mk #[10])⟩]) [0] [0,1] rfl kr ?_
 refine N_then ?_
 refine G_seq ?_
 refine G_region ?_
 refine GL_p [0,0] kr (j:=2) rfl ?_
 refine GL_callQ (i:=2) (ch:=[]) (f:=99) (fst:=#[]) (caps:=#[]) (vs:=[.string s,.string (ByteArray.mk #[10])]) (v:=.int .i64 (lf s)) rfl rfl rfl kr kr Tryz.func99 rfl rfl kr kr kr (fun _=>sliteIndexL _ _ _) ?_
 refine GL_fin (E':=[⟨4,[],.int .i64 (lf s)⟩]) [0] [4] rfl kr ?_
 refine N_then ?_
 refine G_ret ?_
 refine N_ret [.tmp 4] [.int .i64 (lf s)] rfl kr rfl ?_
 exact ⟨rfl, rfl⟩
theorem strIndexS (s : ByteArray) (W0 : World) (H : List Grp) : Tri Tryz.prog 77 #[.string s, .string (ByteArray.mk #[47])] W0 H (fun v H' => v = .int .i64 (slash s) ∧ H' = H) := by
 refine Tri_of (args := [.string s, .string (ByteArray.mk #[47])]) (n := 8) Tryz.func77 rfl rfl (Nat.le_of_ble_eq_true rfl) ?_
 refine G_seq ?_
 refine G_pure (E':=[⟨0,[],.string s⟩,⟨1,[],.string (ByteArray.mk #[47])⟩]) [0] [0,1] rfl kr ?_
 refine N_then ?_
 refine G_seq ?_
 refine G_region ?_
 refine GL_p [0,0] kr (j:=2) rfl ?_
 refine GL_callQ (i:=2) (ch:=[]) (f:=99) (fst:=#[]) (caps:=#[]) (vs:=[.string s,.string (ByteArray.mk #[47])]) (v:=.int .i64 (slash s)) rfl rfl rfl kr kr Tryz.func99 rfl rfl kr kr kr (fun _=>sliteIndex _ _ _) ?_
 refine GL_fin (E':=[⟨4,[],.int .i64 (slash s)⟩]) [0] [4] rfl kr ?_
 refine N_then ?_
 refine G_ret ?_
 refine N_ret [.tmp 4] [.int .i64 (slash s)] rfl kr rfl ?_
 exact ⟨rfl, rfl⟩
theorem strContainsL (s : ByteArray) (W0 : World) (H : List Grp) : Tri Tryz.prog 39 #[.string s, .string (ByteArray.mk #[10])] W0 H (fun v H' => v = .bool (decide (lf s ≥ 0)) ∧ H' = H) := by
 refine Tri_of (args := [.string s, .string (ByteArray.mk #[10])]) (n := 9) Tryz.func39 rfl rfl (Nat.le_of_ble_eq_true rfl) ?_
 refine G_seq ?_
 refine G_pure (E':=[⟨0,[],.string s⟩,⟨1,[],.string (ByteArray.mk #[10])⟩]) [0] [0,1] rfl kr ?_
 refine N_then ?_
 refine G_seq ?_
 refine G_region ?_
 refine GL_p [0,0] kr (j:=2) rfl ?_
 refine GL_callQ (i:=2) (ch:=[]) (f:=77) (fst:=#[]) (caps:=#[]) (vs:=[.string s,.string (ByteArray.mk #[10])]) (v:=.int .i64 (lf s)) rfl rfl rfl kr kr Tryz.func77 rfl rfl kr kr kr (fun _=>strIndexL _ _ _) ?_
 refine GL_fin (E':=[⟨4,[],.bool (decide ((lf s) ≥ 0))⟩]) [0,0] [4] rfl kr ?_
 refine N_then ?_
 refine G_ret ?_
 refine N_ret [.tmp 4] [.bool (decide ((lf s) ≥ 0))] rfl kr rfl ?_
 exact ⟨rfl, rfl⟩
theorem strContainsS (s : ByteArray) (W0 : World) (H : List Grp) : Tri Tryz.prog 39 #[.string s, .string (ByteArray.mk #[47])] W0 H (fun v H' => v = .bool (decide (slash s ≥ 0)) ∧ H' = H) := by
 refine Tri_of (args := [.string s, .string (ByteArray.mk #[47])]) (n := 9) Tryz.func39 rfl rfl (Nat.le_of_ble_eq_true rfl) ?_
 refine G_seq ?_
 refine G_pure (E':=[⟨0,[],.string s⟩,⟨1,[],.string (ByteArray.mk #[47])⟩]) [0] [0,1] rfl kr ?_
 refine N_then ?_
 refine G_seq ?_
 refine G_region ?_
 refine GL_p [0,0] kr (j:=2) rfl ?_
 refine GL_callQ (i:=2) (ch:=[]) (f:=77) (fst:=#[]) (caps:=#[]) (vs:=[.string s,.string (ByteArray.mk #[47])]) (v:=.int .i64 (slash s)) rfl rfl rfl kr kr Tryz.func77 rfl rfl kr kr kr (fun _=>strIndexS _ _ _) ?_
 refine GL_fin (E':=[⟨4,[],.bool (decide ((slash s) ≥ 0))⟩]) [0,0] [4] rfl kr ?_
 refine N_then ?_
 refine G_ret ?_
 refine N_ret [.tmp 4] [.bool (decide ((slash s) ≥ 0))] rfl kr rfl ?_
 exact ⟨rfl, rfl⟩
theorem sliteCutL (s : ByteArray) (hs : s.size ≤ 9223372036854775807) (W0 : World) (H : List Grp) : Tri Tryz.prog 78 #[.string s, .string (ByteArray.mk #[10])] W0 H (fun v H' => v = .tuple (if lf s < 0 then #[.string s, .string (ByteArray.mk #[]), .bool false] else #[.string (s.extract 0 (lf s).toNat), .string (s.extract ((lf s).toNat + 1) s.size), .bool true]) ∧ H' = H) := by
 have hsl := lf_or s
 refine Tri_of (args := [.string s, .string (ByteArray.mk #[10])]) (n := 23) Tryz.func78 rfl rfl (Nat.le_of_ble_eq_true rfl) ?_
 refine G_seq ?_
 refine G_pure (E':=[⟨0,[],.string s⟩,⟨1,[],.string (ByteArray.mk #[10])⟩]) [0,0,0] [0,1] rfl kr ?_
 refine N_then ?_
 refine G_seq ?_
 refine G_seq ?_
 refine G_region ?_
 refine GL_p [0,0] kr (j:=2) rfl ?_
 refine GL_callQ (i:=2) (ch:=[]) (f:=99) (fst:=#[]) (caps:=#[]) (vs:=[.string s,.string (ByteArray.mk #[10])]) (v:=.int .i64 (lf s)) rfl rfl rfl kr kr Tryz.func99 rfl rfl kr kr kr (fun _=>sliteIndexL _ _ _) ?_
 refine GL_fin (E':=[⟨0,[],.string s⟩,⟨1,[],.string (ByteArray.mk #[10])⟩,⟨7,[],.int .i64 (lf s)⟩]) [0] [0,1,7] rfl kr ?_
 refine N_then ?_
 refine G_seq ?_
 refine G_pure (E':=[⟨0,[],.string s⟩,⟨1,[],.string (ByteArray.mk #[10])⟩,⟨7,[],.int .i64 (lf s)⟩,⟨12,[],.bool (decide ((lf s) ≥ 0))⟩]) [0,0] [0,1,7,12] rfl kr ?_
 refine N_then ?_
 refine G_cond (b:=decide ((lf s) ≥ 0)) kr (fun hc1=>?_) (fun hc1=>?_)
 ·
  simp at hc1
  refine G_seq ?_
  refine G_regionD kr kr ?_
  refine GL_p [0,0] kr (j:=2) rfl ?_
  refine GL_sliceS (i:=2) (ch:=[]) (s:=s) (vl:=none) (vh:=(some (.int .i64 (lf s)))) (l:=0) (h:=lf s) rfl rfl kr kr kr kr kr kr kr kr kr (fun _=>by omega) ?_
  refine GL_p [0,0,0,0,0] kr (j:=8) rfl ?_
  refine GL_wi 20 ((lf s)+1) (by omega) (by omega) kr ?_
  refine GL_sliceS (i:=8) (ch:=[]) (s:=s) (vl:=(some (.int .i64 ((lf s)+1)))) (vh:=none) (l:=(lf s)+1) (h:=(s.size : Int)) rfl rfl kr kr kr kr kr kr kr kr kr (fun _=>by omega) ?_
  refine GL_fin (E':=[⟨4,[],.string (s.extract 0 (Int.toNat (lf s)))⟩,⟨5,[],.string (s.extract (Int.toNat ((lf s)+1)) s.size)⟩,⟨6,[],.bool true⟩]) [0,0,0] [4,5,6] rfl kr ?_
  refine N_then ?_
  refine G_ret ?_
  refine N_then_ret ?_
  refine N_ret [.tmp 4,.tmp 5,.tmp 6] [.string (s.extract 0 (Int.toNat (lf s))),.string (s.extract (Int.toNat ((lf s)+1)) s.size),.bool true] rfl kr rfl ?_
  exact ⟨by rw [if_neg (by omega), show (lf s + 1).toNat = (lf s).toNat + 1 from by omega]; rfl, rfl⟩
 ·
  simp at hc1
  refine G_skip ?_
  refine N_then ?_
  refine G_seq ?_
  refine G_pure (E':=[⟨4,[],.string s⟩,⟨5,[],.string (ByteArray.mk #[])⟩,⟨6,[],.bool false⟩]) [0,0,0,0] [4,5,6] rfl kr ?_
  refine N_then ?_
  refine G_ret ?_
  refine N_ret [.tmp 4,.tmp 5,.tmp 6] [.string s,.string (ByteArray.mk #[]),.bool false] rfl kr rfl ?_
  exact ⟨by rw [if_pos (by omega)]; rfl, rfl⟩
theorem stringsCutL (s : ByteArray) (hs : s.size ≤ 9223372036854775807) (W0 : World) (H : List Grp) : Tri Tryz.prog 41 #[.string s, .string (ByteArray.mk #[10])] W0 H (fun v H' => v = .tuple (if lf s < 0 then #[.string s, .string (ByteArray.mk #[]), .bool false] else #[.string (s.extract 0 (lf s).toNat), .string (s.extract ((lf s).toNat + 1) s.size), .bool true]) ∧ H' = H) := by
 refine Tri_of (args := [.string s, .string (ByteArray.mk #[10])]) (n := 13) Tryz.func41 rfl rfl (Nat.le_of_ble_eq_true rfl) ?_
 refine G_seq ?_
 refine G_pure (E':=[⟨0,[],.string s⟩,⟨1,[],.string (ByteArray.mk #[10])⟩]) [0,0,0] [0,1] rfl kr ?_
 refine N_then ?_
 refine G_seq ?_
 refine G_region ?_
 refine GL_p [0,0] kr (j:=2) rfl ?_
 refine GL_call (i:=2) (ch:=[]) (f:=78) (fst:=#[]) (caps:=#[]) (vs:=[.string s,.string (ByteArray.mk #[10])]) rfl rfl rfl kr kr Tryz.func78 rfl rfl kr kr (chSure_of kr) (sliteCutL _ hs _ _) ?_
 rintro v H' ⟨rfl, rfl⟩
 by_cases hs1 : lf s < 0
 ·
  rw [if_pos hs1]
  refine GL_fin (E':=[⟨4,[],.string s⟩,⟨5,[],.string (ByteArray.mk #[])⟩,⟨6,[],.bool false⟩]) [0,0,0,0,0,0] [4,5,6] rfl kr ?_
  refine N_then ?_
  refine G_ret ?_
  refine N_ret [.tmp 4,.tmp 5,.tmp 6] [.string s,.string (ByteArray.mk #[]),.bool false] rfl kr rfl ?_
  exact ⟨rfl, rfl⟩
 ·
  rw [if_neg hs1]
  obtain ⟨hs1a, hs1b, hs1c⟩ := lf_facts hs1
  refine GL_fin (E':=[⟨4,[],.string (s.extract 0 (lf s).toNat)⟩,⟨5,[],.string (s.extract ((lf s).toNat+1) s.size)⟩,⟨6,[],.bool true⟩]) [0,0,0,0,0,0] [4,5,6] rfl kr ?_
  refine N_then ?_
  refine G_ret ?_
  refine N_ret [.tmp 4,.tmp 5,.tmp 6] [.string (s.extract 0 (lf s).toNat),.string (s.extract ((lf s).toNat+1) s.size),.bool true] rfl kr rfl ?_
  exact ⟨rfl, rfl⟩
theorem right_ (t : ByteArray) (W0 : World) (H : List Grp) : Tri Tryz.prog 79 #[.string t] W0 H (fun v H' => v = .bool (rightJ t) ∧ H' = H) := by
 refine Tri_of (args := [.string t]) (n := 11) Tryz.func79 rfl rfl (Nat.le_of_ble_eq_true rfl) ?_
 refine G_seq ?_
 refine G_pure (E':=[⟨0,[],.string t⟩]) [0] [0] rfl kr ?_
 refine N_then ?_
 refine G_seq ?_
 refine G_region ?_
 refine GL_p [0,0,0,0,0] kr (j:=5) rfl ?_
 refine GL_callQ (i:=5) (ch:=[(6,true)]) (f:=39) (fst:=#[]) (caps:=#[]) (vs:=[.string t,.string (ByteArray.mk #[10])]) (v:=.bool (decide (lf t ≥ 0))) rfl rfl rfl kr kr Tryz.func39 rfl rfl kr kr kr (fun hc=>strContainsL _ _ _) ?_
 refine GL_fin (E':=[⟨2,[],.bool ((decide ((t.size : Int) ≤ 1048576))&&(!(decide (lf t ≥ 0))))⟩]) [0,6,0] [2] rfl kr ?_
 refine N_then ?_
 refine G_ret ?_
 refine N_ret [.tmp 2] [.bool ((decide ((t.size : Int) ≤ 1048576))&&(!(decide (lf t ≥ 0))))] rfl kr rfl ?_
 exact ⟨rfl, rfl⟩
theorem may1_ (t : ByteArray) (W0 : World) (H : List Grp) : Tri Tryz.prog 83 #[.string t] W0 H (fun v H' => v = .bool (!rightJ t) ∧ H' = H) := by
 refine Tri_of (args := [.string t]) (n := 6) Tryz.func83 rfl rfl (Nat.le_of_ble_eq_true rfl) ?_
 refine G_seq ?_
 refine G_pure (E':=[⟨0,[],.string t⟩]) [0] [0] rfl kr ?_
 refine N_then ?_
 refine G_seq ?_
 refine G_region ?_
 refine GL_p [0] kr (j:=1) rfl ?_
 refine GL_callQ (i:=1) (ch:=[]) (f:=79) (fst:=#[]) (caps:=#[]) (vs:=[.string t]) (v:=.bool (rightJ t)) rfl rfl rfl kr kr Tryz.func79 rfl rfl kr kr kr (fun _=>right_ _ _ _) ?_
 refine GL_fin (E':=[⟨2,[],.bool (!(rightJ t))⟩]) [0,0] [2] rfl kr ?_
 refine N_then ?_
 refine G_ret ?_
 refine N_ret [.tmp 2] [.bool (!(rightJ t))] rfl kr rfl ?_
 exact ⟨rfl, rfl⟩
theorem path_ (jb : Nat) (dp rv z b1 b2 : Value) (dir name : ByteArray) (hs : dir.size + name.size ≤ 1000000000) (W0 : World) (H : List Grp) (hat : At W0 H jb (.cells #[dp, .string dir, rv, z, b1, b2] 83 (0, 0))) : Tri Tryz.prog 40 #[pt jb, .string name] W0 H (fun v H' => v = .string (pathJ dir name) ∧ H' = H) := by
 refine Tri_of (args := [pt jb, .string name]) (n := 12) Tryz.func40 rfl rfl (Nat.le_of_ble_eq_true rfl) ?_
 refine G_seq ?_
 refine G_pure (E':=[⟨0,[],pt jb⟩,⟨1,[],.string name⟩]) [0] [0,1] rfl kr ?_
 refine N_then ?_
 refine G_seq ?_
 refine G_region ?_
 refine GL_p [0,0,0] kr (j:=3) rfl ?_
 refine GL_load (i:=3) (ch:=[]) (b:=jb) (off:=1) (v:=.string dir) rfl rfl kr kr kr kr kr hat rfl ?_
 refine GL_concat (i:=4) (ch:=[]) (s:=dir) (u:=(ByteArray.mk #[47])) rfl rfl kr kr kr kr kr (fun _=>by first | omega | (simp only [ByteArray.size_append,show (ByteArray.mk #[47]).size = 1 from rfl]; omega)) ?_
 refine GL_p [0] kr (j:=6) rfl ?_
 refine GL_concat (i:=6) (ch:=[]) (s:=dir++(ByteArray.mk #[47])) (u:=name) rfl rfl kr kr kr kr kr (fun _=>by first | omega | (simp only [ByteArray.size_append,show (ByteArray.mk #[47]).size = 1 from rfl]; omega)) ?_
 refine GL_fin (E':=[⟨4,[],.string ((dir++(ByteArray.mk #[47]))++name)⟩]) [0] [4] rfl kr ?_
 refine N_then ?_
 refine G_ret ?_
 refine N_ret [.tmp 4] [.string ((dir++(ByteArray.mk #[47]))++name)] rfl kr rfl ?_
 exact ⟨rfl, rfl⟩
theorem line_ (t : ByteArray) (ht : t.size ≤ 1000000000) (W0 : World) (H : List Grp) : Tri Tryz.prog 46 #[.string t] W0 H (fun v H' => v = .string (lineB t) ∧ H' = H) := by
 refine Tri_of (args := [.string t]) (n := 12) Tryz.func46 rfl rfl (Nat.le_of_ble_eq_true rfl) ?_
 refine G_seq ?_
 refine G_pure (E':=[⟨0,[],.string t⟩]) [0] [0] rfl kr ?_
 refine N_then ?_
 refine G_seq ?_
 refine G_region ?_
 refine GL_p [0] kr (j:=1) rfl ?_
 refine GL_strBytes (i:=1) (ch:=[]) (src:=9) (dst:=22) (e:=5) (s:=t) rfl rfl kr kr kr kr kr kr kr (fun b1 cap2 g3 hcap4 hrd5=>?_)
 refine GL_buildSlice (i:=2) (ch:=[]) (e:=22) (l:=[(0,.slice (some ⟨b1,0,none⟩) t.size cap2)]) (c:=[.slice (some ⟨b1,0,none⟩) t.size cap2]) rfl rfl kr kr kr kr kr (fun b6=>?_)
 refine GL_call (i:=3) (ch:=[]) (f:=84) (fst:=#[]) (caps:=#[]) (vs:=[.slice (some ⟨b6,0,none⟩) 1 1]) rfl rfl rfl kr kr Tryz.func84 rfl rfl kr kr (chSure_of kr) (hex_ b6 (some ⟨b1,0,none⟩) cap2 (inG g3) t.data.toList hrd5 (fun h=>by cases h) (by rw [Array.length_toList]; show t.size ≤ _; omega) _ _ (at_inG 0 rfl)) ?_
 rintro v H' ⟨rfl, rfl⟩
 have hm64 := hexM_size t.data.toList
 refine GL_sliceS (i:=4) (ch:=[]) (s:=hexM t.data.toList) (vl:=none) (vh:=(some (.int .i64 16))) (l:=0) (h:=16) rfl rfl kr kr kr kr kr kr kr kr kr (fun _=>by first | omega | (simp only [ByteArray.size_append,ByteArray.size_extract,show (ByteArray.mk #[32]).size = 1 from rfl,show (ByteArray.mk #[10]).size = 1 from rfl]; omega)) ?_
 refine GL_concat (i:=5) (ch:=[]) (s:=(hexM t.data.toList).extract 0 16) (u:=(ByteArray.mk #[32])) rfl rfl kr kr kr kr kr (fun _=>by first | omega | (simp only [ByteArray.size_append,ByteArray.size_extract,show (ByteArray.mk #[32]).size = 1 from rfl,show (ByteArray.mk #[10]).size = 1 from rfl]; omega)) ?_
 refine GL_p [0] kr (j:=7) rfl ?_
 refine GL_concat (i:=7) (ch:=[]) (s:=((hexM t.data.toList).extract 0 16)++(ByteArray.mk #[32])) (u:=t) rfl rfl kr kr kr kr kr (fun _=>by first | omega | (simp only [ByteArray.size_append,ByteArray.size_extract,show (ByteArray.mk #[32]).size = 1 from rfl,show (ByteArray.mk #[10]).size = 1 from rfl]; omega)) ?_
 refine GL_concat (i:=8) (ch:=[]) (s:=(((hexM t.data.toList).extract 0 16)++(ByteArray.mk #[32]))++t) (u:=(ByteArray.mk #[10])) rfl rfl kr kr kr kr kr (fun _=>by first | omega | (simp only [ByteArray.size_append,ByteArray.size_extract,show (ByteArray.mk #[32]).size = 1 from rfl,show (ByteArray.mk #[10]).size = 1 from rfl]; omega)) ?_
 refine GL_fin (E':=[⟨2,[],.string (((((hexM t.data.toList).extract 0 16)++(ByteArray.mk #[32]))++t)++(ByteArray.mk #[10]))⟩]) [0] [2] rfl kr ?_
 refine N_then ?_
 refine G_ret ?_
 refine N_heap (H':=([(b6,.cells #[.slice (some ⟨b1,0,none⟩) t.size cap2] 22 (0,0))]::H)) (fun w h=>h.erase 1) ?_
 refine N_heap (H':=H) (fun w h=>h.erase 0) ?_
 refine N_ret [.tmp 2] [.string (((((hexM t.data.toList).extract 0 16)++(ByteArray.mk #[32]))++t)++(ByteArray.mk #[10]))] rfl kr rfl ?_
 exact ⟨rfl, rfl⟩
theorem text_ (s : ByteArray) (hs : s.size ≤ 1000000000) (W0 : World) (H : List Grp) : Tri Tryz.prog 42 #[.string s] W0 H (fun v H' => v = .tuple #[.string (textB s), .bool (okB s)] ∧ H' = H) := by
 refine Tri_of (args := [.string s]) (n := 20) Tryz.func42 rfl rfl (Nat.le_of_ble_eq_true rfl) ?_
 refine G_seq ?_
 refine G_pure (E':=[⟨0,[],.string s⟩]) [0,0] [0] rfl kr ?_
 refine N_then ?_
 refine G_seq ?_
 refine G_seq ?_
 refine G_pure (E':=[⟨0,[],.string s⟩,⟨7,[],.bool (decide ((s.size : Int) ≤ 16))⟩]) [0,0,0] [0,7] rfl kr ?_
 refine N_then ?_
 refine G_cond (b:=decide ((s.size : Int) ≤ 16)) kr (fun hc1=>?_) (fun hc1=>?_)
 ·
  replace hc1 := of_decide_eq_true hc1
  refine G_seq ?_
  refine G_pure (E':=[⟨2,[],.string (ByteArray.mk #[])⟩,⟨3,[],.bool false⟩]) [0,0] [2,3] rfl kr ?_
  refine N_then ?_
  refine G_ret ?_
  refine N_then_ret ?_
  refine N_ret [.tmp 2,.tmp 3] [.string (ByteArray.mk #[]),.bool false] rfl kr rfl ?_
  exact ⟨by simp [packV, textB, okB, hc1], rfl⟩
 ·
  replace hc1 := of_decide_eq_false hc1
  refine G_skip ?_
  refine N_then ?_
  refine G_seq ?_
  refine G_region ?_
  refine GL_p [0] kr (j:=1) rfl ?_
  refine GL_sliceS (i:=1) (ch:=[]) (s:=s) (vl:=(some (.int .i64 17))) (vh:=none) (l:=17) (h:=(s.size : Int)) rfl rfl kr kr kr kr kr kr kr kr kr (fun _=>by first | omega | (simp only [ByteArray.size_append,show (ByteArray.mk #[10]).size = 1 from rfl]; omega)) ?_
  refine GL_fin (E':=[⟨0,[],.string s⟩,⟨4,[],.string (s.extract 17 s.size)⟩]) [0] [0,4] rfl kr ?_
  refine N_then ?_
  refine G_seq ?_
  refine G_region ?_
  refine GL_p [0,0] kr (j:=2) rfl ?_
  refine GL_callQ (i:=2) (ch:=[]) (f:=79) (fst:=#[]) (caps:=#[]) (vs:=[.string (s.extract 17 s.size)]) (v:=.bool (rightJ (s.extract 17 s.size))) rfl rfl rfl kr kr Tryz.func79 rfl rfl kr kr kr (fun _=>right_ _ _ _) ?_
  refine GL_p [0,0] kr (j:=5) rfl ?_
  refine GL_callQ (i:=5) (ch:=[(13,true)]) (f:=46) (fst:=#[]) (caps:=#[]) (vs:=[.string (s.extract 17 s.size)]) (v:=.string (lineB (s.extract 17 s.size))) rfl rfl rfl kr kr Tryz.func46 rfl rfl kr kr kr (fun hc=>line_ _ (by rw [ByteArray.size_extract]; omega) _ _) ?_
  refine GL_p [0] kr (j:=7) rfl ?_
  refine GL_concat (i:=7) (ch:=[(13,true)]) (s:=s) (u:=(ByteArray.mk #[10])) rfl rfl kr kr kr kr kr (fun hc=>by have hg0:=chB_hd (t:=13) (c:=[]) (b:=rightJ (s.extract 17 s.size)) hc kr; (try simp at hg0); first | omega | (simp only [ByteArray.size_append,show (ByteArray.mk #[10]).size = 1 from rfl]; omega)) ?_
  refine GL_fin (E':=[⟨2,[],.string (s.extract 17 s.size)⟩,⟨3,[],.bool ((rightJ (s.extract 17 s.size))&&((lineB (s.extract 17 s.size)).toList == (s++(ByteArray.mk #[10])).toList))⟩]) [0,6,0,0] [2,3] rfl kr ?_
  refine N_then ?_
  refine G_ret ?_
  refine N_ret [.tmp 2,.tmp 3] [.string (s.extract 17 s.size),.bool ((rightJ (s.extract 17 s.size))&&((lineB (s.extract 17 s.size)).toList == (s++(ByteArray.mk #[10])).toList))] rfl kr rfl ?_
  exact ⟨by simp [packV, textB, okB, hc1], rfl⟩
theorem idxFunc_ (a : Option Addr) (c : Nat) (ts : List ByteArray) (S : Nat → Obj → Prop) (hrd : Rd S a (strs ts)) (hl : ts.length ≤ 1000000000) (W0 : World) (H : List Grp) (hS : ∀ y o, S y o → At W0 H y o) : Tri Tryz.prog 102 #[.slice a ts.length c, .func (.func 83) #[] #[]] W0 H (fun v H' => (∃ r, v = .int .i64 r ∧ decide (r ≥ 0) = ts.any (fun t => !rightJ t)) ∧ H' = H) := by
 refine Tri_of (args := [.slice a ts.length c, .func (.func 83) #[] #[]]) (n := 19) Tryz.func102 rfl rfl (Nat.le_of_ble_eq_true rfl) ?_
 refine G_seq ?_
 refine G_pure (E':=[⟨0,[],.slice a ts.length c⟩,⟨1,[],.func (.func 83) #[] #[]⟩]) [0] [0,1] rfl kr ?_
 refine N_then ?_
 refine G_seq ?_
 refine G_seq ?_
 refine G_pure (E':=[⟨0,[],.slice a ts.length c⟩,⟨1,[],.func (.func 83) #[] #[]⟩,⟨7,[],.int .i64 ((ts.length : Nat) : Int)⟩,⟨8,[],.int .i64 0⟩]) [0,0,0] [0,1,7,8] rfl kr ?_
 refine N_then ?_
 refine G_block ?_
 refine G_loop (EI:=(fun ξ : Nat=>[⟨0,[],.slice a ts.length c⟩,⟨1,[],.func (.func 83) #[] #[]⟩,⟨7,[],.int .i64 ((ts.length : Nat) : Int)⟩,⟨8,[],.int .i64 ((ξ : Nat) : Int)⟩])) (HI:=(fun ξ : Nat=>H)) (Φ:=(fun ξ : Nat=>(ξ ≤ ts.length)∧(∀ j,j < ξ → rightJ (ts.getD j default) = true))) (μ:=(fun ξ : Nat=>ts.length - ξ)) (s0:=(0)) [0,1,7,8] kr rfl ⟨(by omega),(fun j h=>absurd h (Nat.not_lt_zero j))⟩ ?_
 rintro k ⟨hk, hA⟩
 refine G_seq ?_
 refine G_pure (E':=[⟨0,[],.slice a ts.length c⟩,⟨1,[],.func (.func 83) #[] #[]⟩,⟨7,[],.int .i64 ((ts.length : Nat) : Int)⟩,⟨8,[],.int .i64 ((k : Nat) : Int)⟩,⟨9,[],.bool (decide (((k : Nat) : Int) < ((ts.length : Nat) : Int)))⟩]) [0] [0,1,7,8,9] rfl kr ?_
 refine N_then ?_
 refine G_seq ?_
 refine G_cond (b:=decide (((k : Nat) : Int) < ((ts.length : Nat) : Int))) kr (fun hc1=>?_) (fun hc1=>?_)
 ·
  simp at hc1
  refine G_skip ?_
  refine N_then ?_
  refine G_seq ?_
  refine G_block ?_
  refine G_seq ?_
  refine G_pure (E':=[⟨0,[],.slice a ts.length c⟩,⟨1,[],.func (.func 83) #[] #[]⟩,⟨5,[],.int .i64 ((k : Nat) : Int)⟩,⟨7,[],.int .i64 ((ts.length : Nat) : Int)⟩,⟨8,[],.int .i64 ((k : Nat) : Int)⟩]) [0,0] [0,1,5,7,8] rfl kr ?_
  refine N_then ?_
  refine G_seq ?_
  refine G_region ?_
  refine GL_p [0,0,0] kr (j:=3) rfl ?_
  refine GL_indexAddr (i:=3) (ch:=[]) (a:=a) (len:=ts.length) (cap:=c) (kd:=.i64) (j:=((k : Nat) : Int)) (e:=9) (sz:=1) (S:=S) (cs:=(strs ts)) rfl rfl kr kr kr kr kr kr kr hrd (fun _=>by exact ⟨by omega,by omega,strs_ne (by omega)⟩) ?_
  refine GL_loadS (i:=4) (ch:=[]) (a:=a) (q:=k * 1) (S:=S) (cs:=(strs ts)) (v:=.string (ts.getD k default)) rfl rfl kr kr kr kr kr hrd hS (fun _=>(by rw [Nat.mul_one]; exact strs_at (by omega))) ?_
  refine GL_callQ (i:=5) (ch:=[]) (f:=83) (fst:=#[]) (caps:=#[]) (vs:=[.string (ts.getD k default)]) (v:=.bool (!rightJ (ts.getD k default))) rfl rfl rfl kr kr Tryz.func83 rfl rfl kr kr kr (fun _=>may1_ _ _ _) ?_
  refine GL_fin (E':=[⟨0,[],.slice a ts.length c⟩,⟨1,[],.func (.func 83) #[] #[]⟩,⟨5,[],.int .i64 ((k : Nat) : Int)⟩,⟨7,[],.int .i64 ((ts.length : Nat) : Int)⟩,⟨8,[],.int .i64 ((k : Nat) : Int)⟩,⟨16,[],.bool (!rightJ (ts.getD k default))⟩]) [] [0,1,5,7,8,16] rfl kr ?_
  refine N_then ?_
  refine G_cond (b:=!rightJ (ts.getD k default)) kr (fun hc2=>?_) (fun hc2=>?_)
  ·
   skip
   refine G_seq ?_
   refine G_pure (E':=[⟨4,[],.int .i64 ((k : Nat) : Int)⟩]) [0,0] [4] rfl kr ?_
   refine N_then ?_
   refine G_ret ?_
   refine N_block_ret ?_
   refine N_then_ret ?_
   refine N_then_ret ?_
   refine N_block_ret ?_
   refine N_then_ret ?_
   refine N_ret [.tmp 4] [.int .i64 ((k : Nat) : Int)] rfl kr rfl ?_
   exact ⟨⟨_, rfl, by rw [any_hit (by omega) hc2]; simp⟩, rfl⟩
  ·
   skip
   refine G_skip ?_
   refine N_block ?_
   refine N_then ?_
   refine G_region ?_
   refine GL_p [0] kr (j:=1) rfl ?_
   refine GL_wi 18 (((k : Nat) : Int)+1) (by omega) (by omega) kr ?_
   refine GL_fin (E':=[⟨0,[],.slice a ts.length c⟩,⟨1,[],.func (.func 83) #[] #[]⟩,⟨7,[],.int .i64 ((ts.length : Nat) : Int)⟩,⟨8,[],.int .i64 (((k : Nat) : Int)+1)⟩]) [0] [0,1,7,8] rfl kr ?_
   refine N_round (s':=(k+1)) [0,1,7,8] kr rfl ⟨(by omega),(all_succ hA hc2)⟩ (by omega)
 ·
  simp at hc1
  refine G_exit ?_
  refine N_then_exit ?_
  refine N_then_exit ?_
  refine N_block_exit ?_
  refine N_then ?_
  refine G_seq ?_
  refine G_pure (E':=[⟨4,[],.int .i64 (-1)⟩]) [0] [4] rfl kr ?_
  refine N_then ?_
  refine G_ret ?_
  refine N_ret [.tmp 4] [.int .i64 (-1)] rfl kr rfl ?_
  exact ⟨⟨_, rfl, by rw [any_none (fun j h => hA j (by omega))]; rfl⟩, rfl⟩
theorem containsFunc_ (a : Option Addr) (c : Nat) (ts : List ByteArray) (S : Nat → Obj → Prop) (hrd : Rd S a (strs ts)) (hl : ts.length ≤ 1000000000) (W0 : World) (H : List Grp) (hS : ∀ y o, S y o → At W0 H y o) : Tri Tryz.prog 82 #[.slice a ts.length c, .func (.func 83) #[] #[]] W0 H (fun v H' => v = .bool (ts.any (fun t => !rightJ t)) ∧ H' = H) := by
 refine Tri_of (args := [.slice a ts.length c, .func (.func 83) #[] #[]]) (n := 9) Tryz.func82 rfl rfl (Nat.le_of_ble_eq_true rfl) ?_
 refine G_seq ?_
 refine G_pure (E':=[⟨0,[],.slice a ts.length c⟩,⟨1,[],.func (.func 83) #[] #[]⟩]) [0] [0,1] rfl kr ?_
 refine N_then ?_
 refine G_seq ?_
 refine G_region ?_
 refine GL_p [0,0] kr (j:=2) rfl ?_
 refine GL_call (i:=2) (ch:=[]) (f:=102) (fst:=#[]) (caps:=#[]) (vs:=[.slice a ts.length c,.func (.func 83) #[] #[]]) rfl rfl rfl kr kr Tryz.func102 rfl rfl kr kr (chSure_of kr) (idxFunc_ a c ts S hrd hl _ _ hS) ?_
 rintro v H' ⟨⟨r1, rfl, hr2⟩, rfl⟩
 refine GL_fin (E':=[⟨4,[],.bool (decide (r1 ≥ 0))⟩]) [0,0] [4] rfl kr ?_
 refine N_then ?_
 refine G_ret ?_
 refine N_ret [.tmp 4] [.bool (decide (r1 ≥ 0))] rfl kr rfl ?_
 exact ⟨by rw [← hr2]; rfl, rfl⟩
theorem may_ (a : Option Addr) (c : Nat) (ts : List ByteArray) (S : Nat → Obj → Prop) (hrd : Rd S a (strs ts)) (hl : ts.length ≤ 1000000000) (jb : Nat) (dp rv z b2 : Value) (dir : ByteArray) (down : Bool) (W0 : World) (H : List Grp) (hat : At W0 H jb (.cells #[dp, .string dir, rv, z, .bool down, b2] 83 (0, 0))) (hS : ∀ y o, S y o → At W0 H y o) : Tri Tryz.prog 45 #[pt jb, .slice a ts.length c] W0 H (fun v H' => v = .int .i64 (mayI ts down) ∧ H' = H) := by
 refine Tri_of (args := [pt jb, .slice a ts.length c]) (n := 16) Tryz.func45 rfl rfl (Nat.le_of_ble_eq_true rfl) ?_
 refine G_seq ?_
 refine G_pure (E':=[⟨0,[],pt jb⟩,⟨1,[],.slice a ts.length c⟩]) [0] [0,1] rfl kr ?_
 refine N_then ?_
 refine G_seq ?_
 refine G_block ?_
 refine G_seq ?_
 refine G_pure (E':=[⟨0,[],pt jb⟩,⟨1,[],.slice a ts.length c⟩,⟨5,[],.bool false⟩]) [0,0,0] [0,1,5] rfl kr ?_
 refine N_then ?_
 refine G_condf kr ?_
 refine G_seq ?_
 refine G_region ?_
 refine GL_p [0] kr (j:=1) rfl ?_
 refine GL_callQ (i:=1) (ch:=[]) (f:=82) (fst:=#[]) (caps:=#[]) (vs:=[.slice a ts.length c,.func (.func 83) #[] #[]]) (v:=.bool (ts.any (fun t=>!rightJ t))) rfl rfl rfl kr kr Tryz.func82 rfl rfl kr kr kr (fun _=>containsFunc_ _ _ ts S hrd (by omega) _ _ hS) ?_
 refine GL_fin (E':=[⟨0,[],pt jb⟩,⟨8,[],.bool (ts.any (fun t=>!rightJ t))⟩]) [0] [0,8] rfl kr ?_
 refine N_then ?_
 refine G_cond (b:=ts.any (fun t=>!rightJ t)) kr (fun hc1=>?_) (fun hc1=>?_)
 ·
  skip
  refine G_seq ?_
  refine G_pure (E':=[⟨4,[],.int .i64 2⟩]) [0] [4] rfl kr ?_
  refine N_then ?_
  refine G_ret ?_
  refine N_block_ret ?_
  refine N_then_ret ?_
  refine N_ret [.tmp 4] [.int .i64 2] rfl kr rfl ?_
  exact ⟨by simp [packV, mayI, hc1], rfl⟩
 ·
  skip
  refine G_seq ?_
  refine G_region ?_
  refine GL_p [0,0,0] kr (j:=3) rfl ?_
  refine GL_load (i:=3) (ch:=[]) (b:=jb) (off:=4) (v:=.bool down) rfl rfl kr kr kr kr kr hat rfl ?_
  refine GL_fin (E':=[⟨11,[],.bool down⟩]) [0] [11] rfl kr ?_
  refine N_then ?_
  refine G_cond (b:=down) kr (fun hc2=>?_) (fun hc2=>?_)
  ·
   skip
   refine G_seq ?_
   refine G_pure (E':=[⟨4,[],.int .i64 63⟩]) [0] [4] rfl kr ?_
   refine N_then ?_
   refine G_ret ?_
   refine N_block_ret ?_
   refine N_then_ret ?_
   refine N_ret [.tmp 4] [.int .i64 63] rfl kr rfl ?_
   exact ⟨by simp [packV, mayI, hc1, hc2], rfl⟩
  ·
   skip
   refine G_skip ?_
   refine N_block ?_
   refine N_then ?_
   refine G_seq ?_
   refine G_pure (E':=[⟨4,[],.int .i64 0⟩]) [0] [4] rfl kr ?_
   refine N_then ?_
   refine G_ret ?_
   refine N_ret [.tmp 4] [.int .i64 0] rfl kr rfl ?_
   exact ⟨by simp [packV, mayI, hc1, hc2], rfl⟩
theorem mayNil_ (a : Option Addr) (n c : Nat) (W0 : World) (H : List Grp) : Tri Tryz.prog 45 #[.pointer none, .slice a n c] W0 H (fun v H' => v = .int .i64 1 ∧ H' = H) := by
 refine Tri_of (args := [.pointer none, .slice a n c]) (n := 16) Tryz.func45 rfl rfl (Nat.le_of_ble_eq_true rfl) ?_
 refine G_seq ?_
 refine G_pure (E':=[⟨0,[],.pointer none⟩,⟨1,[],.slice a n c⟩]) [0] [0,1] rfl kr ?_
 refine N_then ?_
 refine G_seq ?_
 refine G_block ?_
 refine G_seq ?_
 refine G_pure (E':=[⟨0,[],.pointer none⟩,⟨1,[],.slice a n c⟩,⟨5,[],.bool true⟩]) [0,0,0] [0,1,5] rfl kr ?_
 refine N_then ?_
 refine G_condt kr ?_
 refine G_seq ?_
 refine G_pure (E':=[⟨4,[],.int .i64 1⟩]) [0] [4] rfl kr ?_
 refine N_then ?_
 refine G_ret ?_
 refine N_block_ret ?_
 refine N_then_ret ?_
 refine N_ret [.tmp 4] [.int .i64 1] rfl kr rfl ?_
 exact ⟨rfl, rfl⟩
end Go.Proofs.YtlaoeiaaeifidaaGreat
namespace Go.Sw
def FV (P : Program) (v : Value) (vs : List Value) (W0 : World) (H : List Grp) (R : Value → List Grp → Prop) : Prop :=
  ∃ f fst caps fn, v = .func (.func f) fst caps ∧ P.funcs[f]? = some fn ∧ (fn.name == "runtime.NumGoroutine") = false ∧ fn.body.isNone = false ∧ Tri P f (fst ++ vs.toArray ++ caps) W0 H R
theorem FV.of {P : Program} {vs : List Value} {W0 : World} {H : List Grp} {R : Value → List Grp → Prop} {f : FuncId} {fst caps : Array Value} {fn : Func} (hf : P.funcs[f]? = some fn) (hn : (fn.name == "runtime.NumGoroutine") = false) (hb : fn.body.isNone = false)
    (h : Tri P f (fst ++ vs.toArray ++ caps) W0 H R) : FV P (.func (.func f) fst caps) vs W0 H R := ⟨f, fst, caps, fn, rfl, hf, hn, hb, h⟩
theorem GL_callV {P : Program} {ops : Array Oper} {i : Nat} {Q : Post} {n : Fr} {E : Env} {W0 : World} {H : List Grp} {o : Oper} {ch : List (Nat × Bool)} {c : Call} {fo : Operand} {fv : Value} {vs : List Value} {R : Value → List Grp → Prop}
    (ho : ops[i]? = some o) (hop : o.op = .call c) (hce : c.callee = .value fo) (hfo : evO E ch fo = some fv) (hargs : evL (evO E ch) c.args.toList = some vs)
    (hch : chainOf ops E o.guard = some ch) (hd : dstOk n ch o.dst = true) (hsure : ∀ β : Nat → Bool → Bool, (∀ s, s ∈ E → ∀ w, β s.t w = (boolOf s.v == some w)) → chT β ch = true)
    (hc : FV P fv vs W0 H R)
    (k : ∀ v H', R v H' → GL false P ops (i + 1) Q n (Env.put E o.dst ch v) W0 H') : GL false P ops i Q n E W0 H := by
  obtain ⟨f, fst, caps, fn, rfl, h1, h2, h3, h4⟩ := hc
  exact GL_call ho hop hce hfo hargs h1 h2 h3 hch hd hsure h4 k
end Go.Sw
namespace Go.Proofs.YtlaoeiaaeifidaaGreat
open Go.Sw Go.Lib Go.Vf Go.Sha Go.Jr Go.RowKit
theorem Sat.takeMid {W0 : World} {K A B : List Grp} {w : World} (h : Sat W0 (K ++ (A ++ B)) w) : Sat W0 (K ++ A) w := h.subl (by
  simp only [List.flatten_append]
  exact List.Sublist.append (List.Sublist.refl _) (List.sublist_append_left _ _))
theorem At.app {W0 : World} {K B : List Grp} {b : Nat} {o : Obj} (h : At W0 K b o) : At W0 (K ++ B) b o := by
  rcases h with h | h
  · exact .inl h
  · exact .inr (by rw [List.flatten_append]; exact List.mem_append_left _ h)
theorem strs_one {ts : List ByteArray} : ∀ u ∈ strs ts, u.oneCell' = true := fun u hu => by
  obtain ⟨x, _, rfl⟩ := List.mem_map.1 hu; rfl
theorem fs_at {fs : List Value} {k : Nat} (h : k < fs.length) : fs[k]? = some (fs.getD k default) := by
  rw [List.getD, List.getElem?_eq_getElem h]; rfl
theorem pathJ_le {dir name : ByteArray} (h : dir.size + name.size ≤ 1000000000) : (pathJ dir name).size ≤ 9223372036854775807 := by
  simp only [pathJ, ByteArray.size_append, show (ByteArray.mk #[47]).size = 1 from rfl]; omega
theorem cSyncJ {s : DS} {M : DM} (hs : s.ok M) (hm : Small M) (K : List Grp) (jb d : Nat) (dir : ByteArray) (rv : Value) (size : Int) (down there : Bool) (hdir : dir.size ≤ 1000000) (bj bn : Nat) (name : ByteArray) (hname : name.size ≤ 1000) (W0 : World) (H : List Grp) (hJ : At W0 K jb (.cells #[pt d, .string dir, rv, .int .i64 size, .bool down, .bool there] 83 (0, 0))) (hbj : At W0 K bj (.cells #[pt jb] 28 (0, 0))) (hbn : At W0 K bn (.cells #[.string name] 9 (0, 0))) : Tri Tryz.prog 85 #[pt bj, pt bn] W0 (K ++ (s.G d M ++ H)) (IsK K d (syncM M (pathJ dir name)).2 (.int .i64 (syncM M (pathJ dir name)).1) H) := by
 refine Tri_of (args := [pt bj, pt bn]) (n := 11) Tryz.func85 rfl rfl (Nat.le_of_ble_eq_true rfl) ?_
 refine G_seq ?_
 refine G_pure (E':=[⟨0,[],pt bj⟩,⟨1,[],pt bn⟩]) [0] [0,1] rfl kr ?_
 refine N_then ?_
 refine G_seq ?_
 refine G_regionH K kr ?_
 refine GH_take' 0 kr (fun w h=>(Sat.takeMid (K:=[]) (A:=K) h)) (GL_load (i:=0) (ch:=[]) (b:=bj) (off:=0) (v:=pt jb) rfl rfl kr kr kr kr kr hbj rfl (GL_yend kr rfl)) ?_
 refine GH_nil (ad:=⟨jb,0,none⟩) 1 rfl rfl rfl kr kr kr kr kr (fun w h=>(Sat.takeMid (K:=[]) (A:=K) h)) ?_
 refine GH_p (fuel:=6) [(2,0)] (fun w h=>(Sat.takeMid (K:=[]) (A:=K) h)) kr rfl ?_
 refine GH_take' 3 kr (fun w h=>(Sat.takeMid (K:=[]) (A:=K) h)) (GL_load (i:=3) (ch:=[]) (b:=jb) (off:=0) (v:=pt d) rfl rfl kr kr kr kr kr hJ rfl (GL_yend kr rfl)) ?_
 refine GH_take' 4 kr (fun w h=>(Sat.takeMid (K:=[]) (A:=K) h)) (GL_load (i:=4) (ch:=[]) (b:=bj) (off:=0) (v:=pt jb) rfl rfl kr kr kr kr kr hbj rfl (GL_yend kr rfl)) ?_
 refine GH_take' 5 kr (fun w h=>(Sat.takeMid (K:=[]) (A:=K) h)) (GL_load (i:=5) (ch:=[]) (b:=bn) (off:=0) (v:=.string name) rfl rfl kr kr kr kr kr hbn rfl (GL_yend kr rfl)) ?_
 refine GH_eff 6 kr kr kr ?_
 refine GL_callQ (i:=6) (ch:=[]) (f:=40) (fst:=#[]) (caps:=#[]) (vs:=[pt jb,.string name]) (v:=.string (pathJ dir name)) rfl rfl rfl kr kr Tryz.func40 rfl rfl kr kr kr (fun _=>path_ _ _ _ _ _ _ _ _ (by omega) _ _ (At.app hJ)) ?_
 refine GH_back kr (fun w h=>(Sat.takeMid (K:=[]) (A:=K) h)) ?_
 refine GH_eff 7 kr kr kr ?_
 refine GL_call (i:=7) (ch:=[]) (f:=86) (fst:=#[]) (caps:=#[]) (vs:=[pt d,.string (pathJ dir name)]) rfl rfl rfl kr kr Tryz.func86 rfl rfl kr kr (chSure_of kr) (dSync hs hm d (pathJ dir name) (pathJ_le (by omega)) K _ H rfl) ?_
 rintro v H' ⟨rfl, s1, hs1, rfl⟩
 refine GH_back kr (fun w h=>(Sat.takeMid (K:=[]) (A:=K) h)) ?_
 refine GH_p (fuel:=0) [(8,0)] (fun w h=>(Sat.takeMid (K:=[]) (A:=K) h)) kr rfl ?_
 refine GH_done (E':=[⟨2,[],.int .i64 ((syncM M (pathJ dir name)).1)⟩]) [2] kr kr ?_
 refine N_then ?_
 refine G_ret ?_
 refine N_ret [.tmp 2] [.int .i64 ((syncM M (pathJ dir name)).1)] rfl kr rfl ?_
 exact ⟨rfl, _, hs1, rfl⟩
theorem cSyncDirJ {s : DS} {M : DM} (hs : s.ok M) (hm : Small M) (K : List Grp) (jb d : Nat) (dir : ByteArray) (rv : Value) (size : Int) (down there : Bool) (hdir : dir.size ≤ 1000000)  (W0 : World) (H : List Grp) (hJ : At W0 K jb (.cells #[pt d, .string dir, rv, .int .i64 size, .bool down, .bool there] 83 (0, 0)))  : Tri Tryz.prog 51 #[pt jb] W0 (K ++ (s.G d M ++ H)) (IsK K d (syncDirM M dir).2 (.int .i64 (syncDirM M dir).1) H) := by
 refine Tri_of (args := [pt jb]) (n := 12) Tryz.func51 rfl rfl (Nat.le_of_ble_eq_true rfl) ?_
 refine G_seq ?_
 refine G_pure (E':=[⟨0,[],pt jb⟩]) [0] [0] rfl kr ?_
 refine N_then ?_
 refine G_seq ?_
 refine G_regionH K kr ?_
 refine GH_p (fuel:=9) [(0,0)] (fun w h=>(Sat.takeMid (K:=[]) (A:=K) h)) kr rfl ?_
 refine GH_nil (ad:=⟨jb,0,none⟩) 1 rfl rfl rfl kr kr kr kr kr (fun w h=>(Sat.takeMid (K:=[]) (A:=K) h)) ?_
 refine GH_p (fuel:=7) [(2,0)] (fun w h=>(Sat.takeMid (K:=[]) (A:=K) h)) kr rfl ?_
 refine GH_take' 3 kr (fun w h=>(Sat.takeMid (K:=[]) (A:=K) h)) (GL_load (i:=3) (ch:=[]) (b:=jb) (off:=0) (v:=pt d) rfl rfl kr kr kr kr kr hJ rfl (GL_yend kr rfl)) ?_
 refine GH_p (fuel:=5) [(4,0)] (fun w h=>(Sat.takeMid (K:=[]) (A:=K) h)) kr rfl ?_
 refine GH_nil (ad:=⟨jb,0,none⟩) 5 rfl rfl rfl kr kr kr kr kr (fun w h=>(Sat.takeMid (K:=[]) (A:=K) h)) ?_
 refine GH_p (fuel:=3) [(6,0)] (fun w h=>(Sat.takeMid (K:=[]) (A:=K) h)) kr rfl ?_
 refine GH_take' 7 kr (fun w h=>(Sat.takeMid (K:=[]) (A:=K) h)) (GL_load (i:=7) (ch:=[]) (b:=jb) (off:=1) (v:=.string dir) rfl rfl kr kr kr kr kr hJ rfl (GL_yend kr rfl)) ?_
 refine GH_eff 8 kr kr kr ?_
 refine GL_call (i:=8) (ch:=[]) (f:=87) (fst:=#[]) (caps:=#[]) (vs:=[pt d,.string dir]) rfl rfl rfl kr kr Tryz.func87 rfl rfl kr kr (chSure_of kr) (dSyncDir hs hm d dir (by omega) K _ H rfl) ?_
 rintro v H' ⟨rfl, s1, hs1, rfl⟩
 refine GH_back kr (fun w h=>(Sat.takeMid (K:=[]) (A:=K) h)) ?_
 refine GH_p (fuel:=0) [(9,0)] (fun w h=>(Sat.takeMid (K:=[]) (A:=K) h)) kr rfl ?_
 refine GH_done (E':=[⟨2,[],.int .i64 ((syncDirM M dir).1)⟩]) [2] kr kr ?_
 refine N_then ?_
 refine G_ret ?_
 refine N_ret [.tmp 2] [.int .i64 ((syncDirM M dir).1)] rfl kr rfl ?_
 exact ⟨rfl, _, hs1, rfl⟩
theorem cAppJ {s : DS} {M : DM} (hs : s.ok M) (hm : Small M) (K : List Grp) (jb d : Nat) (dir : ByteArray) (rv : Value) (size : Int) (down there : Bool) (hdir : dir.size ≤ 1000000) (bj bl : Nat) (l : ByteArray) (hl : l.size ≤ 1000000000) (W0 : World) (H : List Grp) (hJ : At W0 K jb (.cells #[pt d, .string dir, rv, .int .i64 size, .bool down, .bool there] 83 (0, 0))) (hbj : At W0 K bj (.cells #[pt jb] 28 (0, 0))) (hbl : At W0 K bl (.cells #[.string l] 9 (0, 0))) : Tri Tryz.prog 48 #[pt bj, pt bl] W0 (K ++ (s.G d M ++ H)) (IsK K d (appendM M (pathJ dir logB) l).2 (.int .i64 (appendM M (pathJ dir logB) l).1) H) := by
 refine Tri_of (args := [pt bj, pt bl]) (n := 12) Tryz.func48 rfl rfl (Nat.le_of_ble_eq_true rfl) ?_
 refine G_seq ?_
 refine G_pure (E':=[⟨0,[],pt bj⟩,⟨1,[],pt bl⟩]) [0] [0,1] rfl kr ?_
 refine N_then ?_
 refine G_seq ?_
 refine G_regionH K kr ?_
 refine GH_take' 0 kr (fun w h=>(Sat.takeMid (K:=[]) (A:=K) h)) (GL_load (i:=0) (ch:=[]) (b:=bj) (off:=0) (v:=pt jb) rfl rfl kr kr kr kr kr hbj rfl (GL_yend kr rfl)) ?_
 refine GH_nil (ad:=⟨jb,0,none⟩) 1 rfl rfl rfl kr kr kr kr kr (fun w h=>(Sat.takeMid (K:=[]) (A:=K) h)) ?_
 refine GH_p (fuel:=7) [(2,0)] (fun w h=>(Sat.takeMid (K:=[]) (A:=K) h)) kr rfl ?_
 refine GH_take' 3 kr (fun w h=>(Sat.takeMid (K:=[]) (A:=K) h)) (GL_load (i:=3) (ch:=[]) (b:=jb) (off:=0) (v:=pt d) rfl rfl kr kr kr kr kr hJ rfl (GL_yend kr rfl)) ?_
 refine GH_take' 4 kr (fun w h=>(Sat.takeMid (K:=[]) (A:=K) h)) (GL_load (i:=4) (ch:=[]) (b:=bj) (off:=0) (v:=pt jb) rfl rfl kr kr kr kr kr hbj rfl (GL_yend kr rfl)) ?_
 refine GH_take' 6 kr (fun w h=>(Sat.takeMid (K:=[]) (A:=K) h)) (GL_load (i:=6) (ch:=[]) (b:=bl) (off:=0) (v:=.string l) rfl rfl kr kr kr kr kr hbl rfl (GL_yend kr rfl)) ?_
 refine GH_eff2 5 7 kr kr kr kr kr ?_ ?_
 ·
  refine GL_callQ (i:=5) (ch:=[]) (f:=40) (fst:=#[]) (caps:=#[]) (vs:=[pt jb,.string (ByteArray.mk #[108,111,103])]) (v:=.string (pathJ dir (ByteArray.mk #[108,111,103]))) rfl rfl rfl kr kr Tryz.func40 rfl rfl kr kr kr (fun _=>path_ _ _ _ _ _ _ _ _ (show dir.size+3 ≤ 1000000000 by omega) _ _ (At.app hJ)) ?_
  refine GH_back kr (fun w h=>(Sat.takeMid (K:=[]) (A:=K) h)) ?_
  refine GH_eff 7 kr kr kr ?_
  refine GL_strBytes (i:=7) (ch:=[]) (src:=9) (dst:=22) (e:=5) (s:=l) rfl rfl kr kr kr kr kr kr kr (fun b1 cap2 g3 hcap4 hrd5=>?_)
  refine GH_back kr (fun w h=>(Sat.takeMid (K:=[]) (A:=K) (h.erase 0))) ?_
  refine GH_more (g3::K) (fun w h=>(h.erase 0)) ?_
  refine GH_eff 8 kr kr kr ?_
  refine GL_call (i:=8) (ch:=[]) (f:=26) (fst:=#[]) (caps:=#[]) (vs:=[pt d,.string (pathJ dir (ByteArray.mk #[108,111,103])),.slice (some ⟨b1,0,none⟩) l.size cap2]) rfl rfl rfl kr kr Tryz.func26 rfl rfl kr kr (chSure_of kr) (dAppend hs hm d (pathJ dir (ByteArray.mk #[108,111,103])) l (pathJ_le (show dir.size+3 ≤ 1000000000 by omega)) (by omega) ([g3]++K) _ H ⟨(some ⟨b1,0,none⟩),cap2,(inG g3),rfl,.inr (.inr ⟨b1,0,rfl⟩),hrd5,(at_inG 0 rfl)⟩ rfl) ?_
  rintro v H' ⟨rfl, s1, hs1, rfl⟩
  refine GH_back kr (fun w h=>(Sat.takeMid (K:=[_]) (A:=K) h)) ?_
  refine GH_p (fuel:=0) [(9,0)] (fun w h=>(Sat.takeMid (K:=[_]) (A:=K) h)) kr rfl ?_
  refine GH_done (E':=[⟨2,[],.int .i64 ((appendM M (pathJ dir (ByteArray.mk #[108,111,103])) l).1)⟩]) [2] kr kr ?_
  refine N_then ?_
  refine G_ret ?_
  refine N_heap (H':=(K++(s1.G d ((appendM M (pathJ dir (ByteArray.mk #[108,111,103])) l).2)++H))) (fun w h=>h.erase 0) ?_
  refine N_ret [.tmp 2] [.int .i64 ((appendM M (pathJ dir (ByteArray.mk #[108,111,103])) l).1)] rfl kr rfl ?_
  exact ⟨rfl, _, hs1, rfl⟩
 ·
  refine GL_strBytes (i:=7) (ch:=[]) (src:=9) (dst:=22) (e:=5) (s:=l) rfl rfl kr kr kr kr kr kr kr (fun b6 cap7 g8 hcap9 hrd10=>?_)
  refine GH_back kr (fun w h=>(Sat.takeMid (K:=[]) (A:=K) (h.erase 0))) ?_
  refine GH_more (g8::K) (fun w h=>(h.erase 0)) ?_
  refine GH_eff 5 kr kr kr ?_
  refine GL_callQ (i:=5) (ch:=[]) (f:=40) (fst:=#[]) (caps:=#[]) (vs:=[pt jb,.string (ByteArray.mk #[108,111,103])]) (v:=.string (pathJ dir (ByteArray.mk #[108,111,103]))) rfl rfl rfl kr kr Tryz.func40 rfl rfl kr kr kr (fun _=>path_ _ _ _ _ _ _ _ _ (show dir.size+3 ≤ 1000000000 by omega) _ _ (At.cons (At.app hJ))) ?_
  refine GH_back kr (fun w h=>(Sat.takeMid (K:=[_]) (A:=K) h)) ?_
  refine GH_eff 8 kr kr kr ?_
  refine GL_call (i:=8) (ch:=[]) (f:=26) (fst:=#[]) (caps:=#[]) (vs:=[pt d,.string (pathJ dir (ByteArray.mk #[108,111,103])),.slice (some ⟨b6,0,none⟩) l.size cap7]) rfl rfl rfl kr kr Tryz.func26 rfl rfl kr kr (chSure_of kr) (dAppend hs hm d (pathJ dir (ByteArray.mk #[108,111,103])) l (pathJ_le (show dir.size+3 ≤ 1000000000 by omega)) (by omega) ([g8]++K) _ H ⟨(some ⟨b6,0,none⟩),cap7,(inG g8),rfl,.inr (.inr ⟨b6,0,rfl⟩),hrd10,(at_inG 0 rfl)⟩ rfl) ?_
  rintro v H' ⟨rfl, s2, hs2, rfl⟩
  refine GH_back kr (fun w h=>(Sat.takeMid (K:=[_]) (A:=K) h)) ?_
  refine GH_p (fuel:=0) [(9,0)] (fun w h=>(Sat.takeMid (K:=[_]) (A:=K) h)) kr rfl ?_
  refine GH_done (E':=[⟨2,[],.int .i64 ((appendM M (pathJ dir (ByteArray.mk #[108,111,103])) l).1)⟩]) [2] kr kr ?_
  refine N_then ?_
  refine G_ret ?_
  refine N_heap (H':=(K++(s2.G d ((appendM M (pathJ dir (ByteArray.mk #[108,111,103])) l).2)++H))) (fun w h=>h.erase 0) ?_
  refine N_ret [.tmp 2] [.int .i64 ((appendM M (pathJ dir (ByteArray.mk #[108,111,103])) l).1)] rfl kr rfl ?_
  exact ⟨rfl, _, hs2, rfl⟩
theorem cWriJ {s : DS} {M : DM} (hs : s.ok M) (hm : Small M) (K : List Grp) (jb d : Nat) (dir : ByteArray) (rv : Value) (size : Int) (down there : Bool) (hdir : dir.size ≤ 1000000) (bj bl : Nat) (l : ByteArray) (hl : l.size ≤ 1000000000) (W0 : World) (H : List Grp) (hJ : At W0 K jb (.cells #[pt d, .string dir, rv, .int .i64 size, .bool down, .bool there] 83 (0, 0))) (hbj : At W0 K bj (.cells #[pt jb] 28 (0, 0))) (hbl : At W0 K bl (.cells #[.string l] 9 (0, 0))) : Tri Tryz.prog 50 #[pt bj, pt bl] W0 (K ++ (s.G d M ++ H)) (IsK K d (writeM M (pathJ dir logB) l).2 (.int .i64 (writeM M (pathJ dir logB) l).1) H) := by
 refine Tri_of (args := [pt bj, pt bl]) (n := 12) Tryz.func50 rfl rfl (Nat.le_of_ble_eq_true rfl) ?_
 refine G_seq ?_
 refine G_pure (E':=[⟨0,[],pt bj⟩,⟨1,[],pt bl⟩]) [0] [0,1] rfl kr ?_
 refine N_then ?_
 refine G_seq ?_
 refine G_regionH K kr ?_
 refine GH_take' 0 kr (fun w h=>(Sat.takeMid (K:=[]) (A:=K) h)) (GL_load (i:=0) (ch:=[]) (b:=bj) (off:=0) (v:=pt jb) rfl rfl kr kr kr kr kr hbj rfl (GL_yend kr rfl)) ?_
 refine GH_nil (ad:=⟨jb,0,none⟩) 1 rfl rfl rfl kr kr kr kr kr (fun w h=>(Sat.takeMid (K:=[]) (A:=K) h)) ?_
 refine GH_p (fuel:=7) [(2,0)] (fun w h=>(Sat.takeMid (K:=[]) (A:=K) h)) kr rfl ?_
 refine GH_take' 3 kr (fun w h=>(Sat.takeMid (K:=[]) (A:=K) h)) (GL_load (i:=3) (ch:=[]) (b:=jb) (off:=0) (v:=pt d) rfl rfl kr kr kr kr kr hJ rfl (GL_yend kr rfl)) ?_
 refine GH_take' 4 kr (fun w h=>(Sat.takeMid (K:=[]) (A:=K) h)) (GL_load (i:=4) (ch:=[]) (b:=bj) (off:=0) (v:=pt jb) rfl rfl kr kr kr kr kr hbj rfl (GL_yend kr rfl)) ?_
 refine GH_take' 6 kr (fun w h=>(Sat.takeMid (K:=[]) (A:=K) h)) (GL_load (i:=6) (ch:=[]) (b:=bl) (off:=0) (v:=.string l) rfl rfl kr kr kr kr kr hbl rfl (GL_yend kr rfl)) ?_
 refine GH_eff2 5 7 kr kr kr kr kr ?_ ?_
 ·
  refine GL_callQ (i:=5) (ch:=[]) (f:=40) (fst:=#[]) (caps:=#[]) (vs:=[pt jb,.string (ByteArray.mk #[108,111,103])]) (v:=.string (pathJ dir (ByteArray.mk #[108,111,103]))) rfl rfl rfl kr kr Tryz.func40 rfl rfl kr kr kr (fun _=>path_ _ _ _ _ _ _ _ _ (show dir.size+3 ≤ 1000000000 by omega) _ _ (At.app hJ)) ?_
  refine GH_back kr (fun w h=>(Sat.takeMid (K:=[]) (A:=K) h)) ?_
  refine GH_eff 7 kr kr kr ?_
  refine GL_strBytes (i:=7) (ch:=[]) (src:=9) (dst:=22) (e:=5) (s:=l) rfl rfl kr kr kr kr kr kr kr (fun b1 cap2 g3 hcap4 hrd5=>?_)
  refine GH_back kr (fun w h=>(Sat.takeMid (K:=[]) (A:=K) (h.erase 0))) ?_
  refine GH_more (g3::K) (fun w h=>(h.erase 0)) ?_
  refine GH_eff 8 kr kr kr ?_
  refine GL_call (i:=8) (ch:=[]) (f:=9) (fst:=#[]) (caps:=#[]) (vs:=[pt d,.string (pathJ dir (ByteArray.mk #[108,111,103])),.slice (some ⟨b1,0,none⟩) l.size cap2]) rfl rfl rfl kr kr Tryz.func9 rfl rfl kr kr (chSure_of kr) (dWrite hs hm d (pathJ dir (ByteArray.mk #[108,111,103])) l (pathJ_le (show dir.size+3 ≤ 1000000000 by omega)) (by omega) ([g3]++K) _ H ⟨(some ⟨b1,0,none⟩),cap2,(inG g3),rfl,.inr (.inr ⟨b1,0,rfl⟩),hrd5,(at_inG 0 rfl)⟩ rfl) ?_
  rintro v H' ⟨rfl, s1, hs1, rfl⟩
  refine GH_back kr (fun w h=>(Sat.takeMid (K:=[_]) (A:=K) h)) ?_
  refine GH_p (fuel:=0) [(9,0)] (fun w h=>(Sat.takeMid (K:=[_]) (A:=K) h)) kr rfl ?_
  refine GH_done (E':=[⟨2,[],.int .i64 ((writeM M (pathJ dir (ByteArray.mk #[108,111,103])) l).1)⟩]) [2] kr kr ?_
  refine N_then ?_
  refine G_ret ?_
  refine N_heap (H':=(K++(s1.G d ((writeM M (pathJ dir (ByteArray.mk #[108,111,103])) l).2)++H))) (fun w h=>h.erase 0) ?_
  refine N_ret [.tmp 2] [.int .i64 ((writeM M (pathJ dir (ByteArray.mk #[108,111,103])) l).1)] rfl kr rfl ?_
  exact ⟨rfl, _, hs1, rfl⟩
 ·
  refine GL_strBytes (i:=7) (ch:=[]) (src:=9) (dst:=22) (e:=5) (s:=l) rfl rfl kr kr kr kr kr kr kr (fun b6 cap7 g8 hcap9 hrd10=>?_)
  refine GH_back kr (fun w h=>(Sat.takeMid (K:=[]) (A:=K) (h.erase 0))) ?_
  refine GH_more (g8::K) (fun w h=>(h.erase 0)) ?_
  refine GH_eff 5 kr kr kr ?_
  refine GL_callQ (i:=5) (ch:=[]) (f:=40) (fst:=#[]) (caps:=#[]) (vs:=[pt jb,.string (ByteArray.mk #[108,111,103])]) (v:=.string (pathJ dir (ByteArray.mk #[108,111,103]))) rfl rfl rfl kr kr Tryz.func40 rfl rfl kr kr kr (fun _=>path_ _ _ _ _ _ _ _ _ (show dir.size+3 ≤ 1000000000 by omega) _ _ (At.cons (At.app hJ))) ?_
  refine GH_back kr (fun w h=>(Sat.takeMid (K:=[_]) (A:=K) h)) ?_
  refine GH_eff 8 kr kr kr ?_
  refine GL_call (i:=8) (ch:=[]) (f:=9) (fst:=#[]) (caps:=#[]) (vs:=[pt d,.string (pathJ dir (ByteArray.mk #[108,111,103])),.slice (some ⟨b6,0,none⟩) l.size cap7]) rfl rfl rfl kr kr Tryz.func9 rfl rfl kr kr (chSure_of kr) (dWrite hs hm d (pathJ dir (ByteArray.mk #[108,111,103])) l (pathJ_le (show dir.size+3 ≤ 1000000000 by omega)) (by omega) ([g8]++K) _ H ⟨(some ⟨b6,0,none⟩),cap7,(inG g8),rfl,.inr (.inr ⟨b6,0,rfl⟩),hrd10,(at_inG 0 rfl)⟩ rfl) ?_
  rintro v H' ⟨rfl, s2, hs2, rfl⟩
  refine GH_back kr (fun w h=>(Sat.takeMid (K:=[_]) (A:=K) h)) ?_
  refine GH_p (fuel:=0) [(9,0)] (fun w h=>(Sat.takeMid (K:=[_]) (A:=K) h)) kr rfl ?_
  refine GH_done (E':=[⟨2,[],.int .i64 ((writeM M (pathJ dir (ByteArray.mk #[108,111,103])) l).1)⟩]) [2] kr kr ?_
  refine N_then ?_
  refine G_ret ?_
  refine N_heap (H':=(K++(s2.G d ((writeM M (pathJ dir (ByteArray.mk #[108,111,103])) l).2)++H))) (fun w h=>h.erase 0) ?_
  refine N_ret [.tmp 2] [.int .i64 ((writeM M (pathJ dir (ByteArray.mk #[108,111,103])) l).1)] rfl kr rfl ?_
  exact ⟨rfl, _, hs2, rfl⟩
theorem cRenJ {s : DS} {M : DM} (hs : s.ok M) (hm : Small M) (K : List Grp) (jb d : Nat) (dir : ByteArray) (rv : Value) (size : Int) (down there : Bool) (hdir : dir.size ≤ 1000000) (bj : Nat) (W0 : World) (H : List Grp) (hJ : At W0 K jb (.cells #[pt d, .string dir, rv, .int .i64 size, .bool down, .bool there] 83 (0, 0))) (hbj : At W0 K bj (.cells #[pt jb] 28 (0, 0))) : Tri Tryz.prog 55 #[pt bj] W0 (K ++ (s.G d M ++ H)) (IsK K d (renameM M (pathJ dir newB) (pathJ dir logB)).2 (.int .i64 (renameM M (pathJ dir newB) (pathJ dir logB)).1) H) := by
 refine Tri_of (args := [pt bj]) (n := 11) Tryz.func55 rfl rfl (Nat.le_of_ble_eq_true rfl) ?_
 refine G_seq ?_
 refine G_pure (E':=[⟨0,[],pt bj⟩]) [0] [0] rfl kr ?_
 refine N_then ?_
 refine G_seq ?_
 refine G_regionH K kr ?_
 refine GH_take' 0 kr (fun w h=>(Sat.takeMid (K:=[]) (A:=K) h)) (GL_load (i:=0) (ch:=[]) (b:=bj) (off:=0) (v:=pt jb) rfl rfl kr kr kr kr kr hbj rfl (GL_yend kr rfl)) ?_
 refine GH_nil (ad:=⟨jb,0,none⟩) 1 rfl rfl rfl kr kr kr kr kr (fun w h=>(Sat.takeMid (K:=[]) (A:=K) h)) ?_
 refine GH_p (fuel:=7) [(2,0)] (fun w h=>(Sat.takeMid (K:=[]) (A:=K) h)) kr rfl ?_
 refine GH_take' 3 kr (fun w h=>(Sat.takeMid (K:=[]) (A:=K) h)) (GL_load (i:=3) (ch:=[]) (b:=jb) (off:=0) (v:=pt d) rfl rfl kr kr kr kr kr hJ rfl (GL_yend kr rfl)) ?_
 refine GH_take' 4 kr (fun w h=>(Sat.takeMid (K:=[]) (A:=K) h)) (GL_load (i:=4) (ch:=[]) (b:=bj) (off:=0) (v:=pt jb) rfl rfl kr kr kr kr kr hbj rfl (GL_yend kr rfl)) ?_
 refine GH_take' 6 kr (fun w h=>(Sat.takeMid (K:=[]) (A:=K) h)) (GL_load (i:=6) (ch:=[]) (b:=bj) (off:=0) (v:=pt jb) rfl rfl kr kr kr kr kr hbj rfl (GL_yend kr rfl)) ?_
 refine GH_eff 5 kr kr kr ?_
 refine GL_callQ (i:=5) (ch:=[]) (f:=40) (fst:=#[]) (caps:=#[]) (vs:=[pt jb,.string (ByteArray.mk #[110,101,119])]) (v:=.string (pathJ dir (ByteArray.mk #[110,101,119]))) rfl rfl rfl kr kr Tryz.func40 rfl rfl kr kr kr (fun _=>path_ _ _ _ _ _ _ _ _ (show dir.size+3 ≤ 1000000000 by omega) _ _ (At.app hJ)) ?_
 refine GH_back kr (fun w h=>(Sat.takeMid (K:=[]) (A:=K) h)) ?_
 refine GH_eff 7 kr kr kr ?_
 refine GL_callQ (i:=7) (ch:=[]) (f:=40) (fst:=#[]) (caps:=#[]) (vs:=[pt jb,.string (ByteArray.mk #[108,111,103])]) (v:=.string (pathJ dir (ByteArray.mk #[108,111,103]))) rfl rfl rfl kr kr Tryz.func40 rfl rfl kr kr kr (fun _=>path_ _ _ _ _ _ _ _ _ (show dir.size+3 ≤ 1000000000 by omega) _ _ (At.app hJ)) ?_
 refine GH_back kr (fun w h=>(Sat.takeMid (K:=[]) (A:=K) h)) ?_
 refine GH_eff 8 kr kr kr ?_
 refine GL_call (i:=8) (ch:=[]) (f:=56) (fst:=#[]) (caps:=#[]) (vs:=[pt d,.string (pathJ dir (ByteArray.mk #[110,101,119])),.string (pathJ dir (ByteArray.mk #[108,111,103]))]) rfl rfl rfl kr kr Tryz.func56 rfl rfl kr kr (chSure_of kr) (dRename hs hm d (pathJ dir (ByteArray.mk #[110,101,119])) (pathJ dir (ByteArray.mk #[108,111,103])) (pathJ_le (show dir.size+3 ≤ 1000000000 by omega)) (pathJ_le (show dir.size+3 ≤ 1000000000 by omega)) K _ H rfl) ?_
 rintro v H' ⟨rfl, s1, hs1, rfl⟩
 refine GH_back kr (fun w h=>(Sat.takeMid (K:=[]) (A:=K) h)) ?_
 refine GH_p (fuel:=0) [(9,0)] (fun w h=>(Sat.takeMid (K:=[]) (A:=K) h)) kr rfl ?_
 refine GH_done (E':=[⟨1,[],.int .i64 ((renameM M (pathJ dir (ByteArray.mk #[110,101,119])) (pathJ dir (ByteArray.mk #[108,111,103]))).1)⟩]) [1] kr kr ?_
 refine N_then ?_
 refine G_ret ?_
 refine N_ret [.tmp 1] [.int .i64 ((renameM M (pathJ dir (ByteArray.mk #[110,101,119])) (pathJ dir (ByteArray.mk #[108,111,103]))).1)] rfl kr rfl ?_
 exact ⟨rfl, _, hs1, rfl⟩
end Go.Proofs.YtlaoeiaaeifidaaGreat
namespace Go.Proofs.YtlaoeiaaeifidaaGreat
open Go.Sw Go.Lib Go.Vf Go.Sha Go.Jr Go.RowKit
theorem try_ {σ : Type} (T : σ → List Grp) (fa : Option Addr) (fc : Nat) (fs : List Value) (S : Nat → Obj → Prop) (hrd : Rd S fa fs) (hl : fs.length ≤ 1000) (jb d : Nat) (dir : ByteArray) (rv : Value) (size : Int) (down there : Bool) (W0 : World) (H : List Grp) (hS : ∀ s y o, S y o → At W0 (T s) y o) (Φ : Nat → σ → Prop) (Ψ : Int → σ → Prop) (hcall : ∀ k s, k < fs.length → Φ k s → FV Tryz.prog (fs.getD k default) [] W0 (jG jb d dir rv size down there :: T s) (fun v H' => ∃ e s', v = .int .i64 e ∧ (e = 0 → Φ (k + 1) s') ∧ (e ≠ 0 → Ψ e s') ∧ H' = jG jb d dir rv size down there :: T s')) (s0 : σ) (h0 : Φ 0 s0) : Tri Tryz.prog 47 #[pt jb, .slice fa fs.length fc] W0 ([(jb, .cells #[pt d, .string dir, rv, .int .i64 size, .bool down, .bool there] 83 (0, 0))] :: (T s0)) (fun v H' => (∃ s, Φ fs.length s ∧ v = .int .i64 0 ∧ H' = jG jb d dir rv size down there :: T s) ∨ (∃ e s, e ≠ 0 ∧ Ψ e s ∧ v = .int .i64 e ∧ H' = jG jb d dir rv size (down || (e != 61)) there :: T s)) := by
 refine Tri_of (args := [pt jb, .slice fa fs.length fc]) (n := 31) Tryz.func47 rfl rfl (Nat.le_of_ble_eq_true rfl) ?_
 refine G_seq ?_
 refine G_pure (E':=[⟨0,[],pt jb⟩,⟨1,[],.slice fa fs.length fc⟩]) [0] [0,1] rfl kr ?_
 refine N_then ?_
 refine G_seq ?_
 refine G_seq ?_
 refine G_pure (E':=[⟨0,[],pt jb⟩,⟨8,[],.slice fa fs.length fc⟩,⟨9,[],.int .i64 ((fs.length : Nat) : Int)⟩,⟨10,[],.int .i64 0⟩]) [0,0,0] [0,8,9,10] rfl kr ?_
 refine N_then ?_
 refine G_block ?_
 refine G_loop (EI:=(fun ξ : Nat × σ=>[⟨0,[],pt jb⟩,⟨8,[],.slice fa fs.length fc⟩,⟨9,[],.int .i64 ((fs.length : Nat) : Int)⟩,⟨10,[],.int .i64 ((ξ.1 : Nat) : Int)⟩])) (HI:=(fun ξ : Nat × σ=>([(jb,.cells #[pt d,.string dir,rv,.int .i64 size,.bool down,.bool there] 83 (0,0))]::(T ξ.2)))) (Φ:=(fun ξ : Nat × σ=>(ξ.1 ≤ fs.length)∧(Φ ξ.1 ξ.2))) (μ:=(fun ξ : Nat × σ=>fs.length - ξ.1)) (s0:=(0,s0)) [0,8,9,10] kr rfl ⟨(by omega),h0⟩ ?_
 rintro ⟨k, st⟩ ⟨hk, hΦ⟩
 refine G_seq ?_
 refine G_pure (E':=[⟨0,[],pt jb⟩,⟨8,[],.slice fa fs.length fc⟩,⟨9,[],.int .i64 ((fs.length : Nat) : Int)⟩,⟨10,[],.int .i64 ((k : Nat) : Int)⟩,⟨11,[],.bool (decide (((k : Nat) : Int) < ((fs.length : Nat) : Int)))⟩]) [0] [0,8,9,10,11] rfl kr ?_
 refine N_then ?_
 refine G_seq ?_
 refine G_cond (b:=decide (((k : Nat) : Int) < ((fs.length : Nat) : Int))) kr (fun hc1=>?_) (fun hc1=>?_)
 ·
  simp at hc1
  refine G_skip ?_
  refine N_then ?_
  refine G_seq ?_
  refine G_block ?_
  refine G_seq ?_
  refine G_region ?_
  refine GL_indexAddr (i:=0) (ch:=[]) (a:=fa) (len:=fs.length) (cap:=fc) (kd:=.i64) (j:=((k : Nat) : Int)) (e:=91) (sz:=1) (S:=S) (cs:=fs) rfl rfl kr kr kr kr kr kr kr hrd (fun _=>by exact ⟨by omega,by omega,fun h=>by subst h; simp at hc1⟩) ?_
  refine GL_loadS (i:=1) (ch:=[]) (a:=fa) (q:=k * 1) (S:=S) (cs:=fs) (v:=(fs.getD k default)) rfl rfl kr kr kr kr kr hrd (fun y o h=>At.cons (hS _ y o h)) (fun _=>(by rw [Nat.mul_one]; exact fs_at (by omega))) ?_
  refine GL_fin (E':=[⟨0,[],pt jb⟩,⟨6,[],(fs.getD k default)⟩,⟨8,[],.slice fa fs.length fc⟩,⟨9,[],.int .i64 ((fs.length : Nat) : Int)⟩,⟨10,[],.int .i64 ((k : Nat) : Int)⟩]) [0] [0,6,8,9,10] rfl kr ?_
  refine N_then ?_
  refine G_seq ?_
  refine G_region ?_
  refine GL_p [0] kr (j:=1) rfl ?_
  refine GL_callV (i:=1) (ch:=[]) (fv:=(fs.getD k default)) (vs:=[]) rfl rfl rfl kr kr kr kr (chSure_of kr) (hcall k st (by omega) hΦ) ?_
  rintro v H' ⟨e2, st3, rfl, he4, hn5, rfl⟩
  refine GL_fin (E':=[⟨0,[],pt jb⟩,⟨7,[],.int .i64 e2⟩,⟨8,[],.slice fa fs.length fc⟩,⟨9,[],.int .i64 ((fs.length : Nat) : Int)⟩,⟨10,[],.int .i64 ((k : Nat) : Int)⟩]) [0] [0,7,8,9,10] rfl kr ?_
  refine N_then ?_
  refine G_seq ?_
  refine G_pure (E':=[⟨0,[],pt jb⟩,⟨7,[],.int .i64 e2⟩,⟨8,[],.slice fa fs.length fc⟩,⟨9,[],.int .i64 ((fs.length : Nat) : Int)⟩,⟨10,[],.int .i64 ((k : Nat) : Int)⟩,⟨17,[],.bool (e2 != 0)⟩]) [0,0] [0,7,8,9,10,17] rfl kr ?_
  refine N_then ?_
  refine G_cond (b:=e2 != 0) kr (fun hc6=>?_) (fun hc6=>?_)
  ·
   have hcc := hc6
   refine G_seq ?_
   refine G_region ?_
   refine GL_p [0,0,0,0] kr (j:=4) rfl ?_
   refine GL_load (i:=4) (ch:=[]) (b:=jb) (off:=4) (v:=.bool down) rfl rfl kr kr kr kr kr (At.grp 0 0 rfl rfl) rfl ?_
   refine GL_p [0,0,0,5,0,0] kr (j:=11) rfl ?_
   refine GL_st (i:=11) (ch:=[]) (b:=jb) (off:=4) (v:=.bool (down||(e2 != 61))) (j:=0) ([(jb,.cells #[pt d,.string dir,rv,.int .i64 size,.bool (down||(e2 != 61)),.bool there] 83 (0,0))]::(T st3)) rfl rfl kr kr kr kr kr kr kr rfl rfl (Nat.le_of_ble_eq_true rfl) (fun _ _=>thaw0) kr ?_
   refine GL_fin (E':=[⟨7,[],.int .i64 e2⟩]) [] [7] rfl kr ?_
   refine N_then ?_
   refine G_seq ?_
   refine G_pure (E':=[⟨4,[],.int .i64 e2⟩]) [0,0] [4] rfl kr ?_
   refine N_then ?_
   refine G_ret ?_
   refine N_block_ret ?_
   refine N_then_ret ?_
   refine N_then_ret ?_
   refine N_block_ret ?_
   refine N_then_ret ?_
   refine N_ret [.tmp 4] [.int .i64 e2] rfl kr rfl ?_
   exact .inr ⟨_, _, by simpa using hcc, hn5 (by simpa using hcc), rfl, rfl⟩
  ·
   have hcf := hc6
   refine G_skip ?_
   refine N_block ?_
   refine N_then ?_
   refine G_region ?_
   refine GL_p [0] kr (j:=1) rfl ?_
   refine GL_wi 30 (((k : Nat) : Int)+1) (by omega) (by omega) kr ?_
   refine GL_fin (E':=[⟨0,[],pt jb⟩,⟨8,[],.slice fa fs.length fc⟩,⟨9,[],.int .i64 ((fs.length : Nat) : Int)⟩,⟨10,[],.int .i64 (((k : Nat) : Int)+1)⟩]) [0] [0,8,9,10] rfl kr ?_
   refine N_round (s':=(k+1,st3)) [0,8,9,10] kr rfl ⟨(by omega),(he4 (by simpa using hcf))⟩ (by omega)
 ·
  simp at hc1
  refine G_exit ?_
  refine N_then_exit ?_
  refine N_then_exit ?_
  refine N_block_exit ?_
  refine N_then ?_
  refine G_seq ?_
  refine G_pure (E':=[⟨4,[],.int .i64 0⟩]) [0] [4] rfl kr ?_
  refine N_then ?_
  refine G_ret ?_
  refine N_ret [.tmp 4] [.int .i64 0] rfl kr rfl ?_
  exact .inl ⟨st, by rw [show fs.length = k by omega]; exact hΦ, rfl, rfl⟩
theorem mkSync_ (jb : Nat) (name : ByteArray) (W0 : World) (H : List Grp) : Tri Tryz.prog 49 #[pt jb, .string name] W0 H (fun v H' => ∃ b2 b3, v = .func (.func 85) #[] #[pt b2, pt b3] ∧ H' = [(b3, .cells #[.string name] 9 (0, 0))] :: [(b2, .cells #[pt jb] 28 (0, 0))] :: H) := by
 refine Tri_of (args := [pt jb, .string name]) (n := 6) Tryz.func49 rfl rfl (Nat.le_of_ble_eq_true rfl) ?_
 refine G_seq ?_
 refine G_region ?_
 refine GL_box (i:=0) (ch:=[]) (v:=pt jb) rfl rfl kr kr kr kr (fun b1=>?_)
 refine GL_box (i:=1) (ch:=[]) (v:=.string name) rfl rfl kr kr kr kr (fun b2=>?_)
 refine GL_fin (E':=[⟨2,[],pt b1⟩,⟨3,[],pt b2⟩]) [0] [2,3] rfl kr ?_
 refine N_then ?_
 refine G_seq ?_
 refine G_pure (E':=[⟨4,[],.func (.func 85) #[] #[pt b1,pt b2]⟩]) [0,0] [4] rfl kr ?_
 refine N_then ?_
 refine G_ret ?_
 refine N_ret [.tmp 4] [.func (.func 85) #[] #[pt b1,pt b2]] rfl kr rfl ?_
 exact ⟨_, _, rfl, rfl⟩
theorem cWriR {s : DS} {M : DM} (hs : s.ok M) (hm : Small M) (K : List Grp) (jb d : Nat) (dir : ByteArray) (rv : Value) (size : Int) (down there : Bool) (hdir : dir.size ≤ 1000000) (bj bb : Nat) (p v : Value) (g : Grp) (t : ByteArray) (hv : BOwn v g t) (ht : t.size ≤ 1000000000) (W0 : World) (H : List Grp) (hJ : At W0 K jb (.cells #[pt d, .string dir, rv, .int .i64 size, .bool down, .bool there] 83 (0, 0))) (hbj : At W0 K bj (.cells #[pt jb] 28 (0, 0))) : Tri Tryz.prog 53 #[pt bj, pt bb] W0 ([(bb, .cells #[p, v] 95 (0, 0))] :: g :: (K ++ (s.G d M ++ H))) (fun r H' => r = .int .i64 (writeM M (pathJ dir newB) t).1 ∧ ∃ s' : DS, s'.ok (writeM M (pathJ dir newB) t).2 ∧ H' = bldG bb p v :: (K ++ (s'.G d (writeM M (pathJ dir newB) t).2 ++ H))) := by
 refine Tri_of (args := [pt bj, pt bb]) (n := 12) Tryz.func53 rfl rfl (Nat.le_of_ble_eq_true rfl) ?_
 refine G_seq ?_
 refine G_pure (E':=[⟨0,[],pt bj⟩,⟨1,[],pt bb⟩]) [0] [0,1] rfl kr ?_
 refine N_then ?_
 refine G_seq ?_
 refine G_regionH K kr ?_
 refine GH_take' 0 kr (fun w h=>(Sat.takeMid (K:=[]) (A:=K) ((h.erase 1).erase 0))) (GL_load (i:=0) (ch:=[]) (b:=bj) (off:=0) (v:=pt jb) rfl rfl kr kr kr kr kr hbj rfl (GL_yend kr rfl)) ?_
 refine GH_nil (ad:=⟨jb,0,none⟩) 1 rfl rfl rfl kr kr kr kr kr (fun w h=>(Sat.takeMid (K:=[]) (A:=K) ((h.erase 1).erase 0))) ?_
 refine GH_p (fuel:=7) [(2,0)] (fun w h=>(Sat.takeMid (K:=[]) (A:=K) ((h.erase 1).erase 0))) kr rfl ?_
 refine GH_take' 3 kr (fun w h=>(Sat.takeMid (K:=[]) (A:=K) ((h.erase 1).erase 0))) (GL_load (i:=3) (ch:=[]) (b:=jb) (off:=0) (v:=pt d) rfl rfl kr kr kr kr kr hJ rfl (GL_yend kr rfl)) ?_
 refine GH_take' 4 kr (fun w h=>(Sat.takeMid (K:=[]) (A:=K) ((h.erase 1).erase 0))) (GL_load (i:=4) (ch:=[]) (b:=bj) (off:=0) (v:=pt jb) rfl rfl kr kr kr kr kr hbj rfl (GL_yend kr rfl)) ?_
 refine GH_eff 5 kr kr kr ?_
 refine GL_callQ (i:=5) (ch:=[]) (f:=40) (fst:=#[]) (caps:=#[]) (vs:=[pt jb,.string (ByteArray.mk #[110,101,119])]) (v:=.string (pathJ dir (ByteArray.mk #[110,101,119]))) rfl rfl rfl kr kr Tryz.func40 rfl rfl kr kr kr (fun _=>path_ _ _ _ _ _ _ _ _ (show dir.size+3 ≤ 1000000000 by omega) _ _ (At.cons (At.cons (At.app hJ)))) ?_
 refine GH_back kr (fun w h=>(Sat.takeMid (K:=[]) (A:=K) ((h.erase 1).erase 0))) ?_
 refine GH_eff 6 kr kr kr ?_
 refine GL_call (i:=6) (ch:=[]) (f:=54) (fst:=#[]) (caps:=#[]) (vs:=[pt bb]) rfl rfl rfl kr kr Tryz.func54 rfl rfl kr kr (chSure_of kr) (builderString bb p v g t hv (by omega) _ _) ?_
 rintro r H' ⟨rfl, rfl⟩
 refine GH_back kr (fun w h=>(Sat.takeMid (K:=[]) (A:=K) (h.erase 0))) ?_
 refine GH_eff 7 kr kr kr ?_
 refine GL_strBytes (i:=7) (ch:=[]) (src:=9) (dst:=22) (e:=5) (s:=t) rfl rfl kr kr kr kr kr kr kr (fun b1 cap2 g3 hcap4 hrd5=>?_)
 refine GH_back kr (fun w h=>(Sat.takeMid (K:=[]) (A:=K) ((h.erase 1).erase 0))) ?_
 refine GH_more (g3::K) (fun w h=>(h.erase 0)) ?_
 refine GH_eff 8 kr kr kr ?_
 refine GL_call (i:=8) (ch:=[]) (f:=9) (fst:=#[]) (caps:=#[]) (vs:=[pt d,.string (pathJ dir (ByteArray.mk #[110,101,119])),.slice (some ⟨b1,0,none⟩) t.size cap2]) rfl rfl rfl kr kr Tryz.func9 rfl rfl kr kr (chSure_of kr) (dWrite hs hm d (pathJ dir (ByteArray.mk #[110,101,119])) t (pathJ_le (show dir.size+3 ≤ 1000000000 by omega)) (by omega) ([g3,[(bb,.cells #[p,v] 95 (0,0))]]++K) _ H ⟨(some ⟨b1,0,none⟩),cap2,(inG g3),rfl,.inr (.inr ⟨b1,0,rfl⟩),hrd5,(at_inG 0 rfl)⟩ rfl) ?_
 rintro v H' ⟨rfl, s1, hs1, rfl⟩
 refine GH_back kr (fun w h=>(Sat.takeMid (K:=[_]) (A:=K) (h.erase 1))) ?_
 refine GH_p (fuel:=0) [(9,0)] (fun w h=>(Sat.takeMid (K:=[_]) (A:=K) (h.erase 1))) kr rfl ?_
 refine GH_done (E':=[⟨2,[],.int .i64 ((writeM M (pathJ dir (ByteArray.mk #[110,101,119])) t).1)⟩]) [2] kr kr ?_
 refine N_then ?_
 refine G_ret ?_
 refine N_heap (H':=([(bb,.cells #[p,v] 95 (0,0))]::(K++(s1.G d ((writeM M (pathJ dir (ByteArray.mk #[110,101,119])) t).2)++H)))) (fun w h=>(h.erase 0)) ?_
 refine N_ret [.tmp 2] [.int .i64 ((writeM M (pathJ dir (ByteArray.mk #[110,101,119])) t).1)] rfl kr rfl ?_
 exact ⟨rfl, _, hs1, rfl⟩
theorem cloneNil (c : Nat) (W0 : World) (H : List Grp) : Tri Tryz.prog 44 #[.slice none 0 c] W0 H (fun v H' => v = .slice none 0 0 ∧ H' = H) := by
 refine Tri_of (args := [.slice none 0 c]) (n := 8) Tryz.func44 rfl rfl (Nat.le_of_ble_eq_true rfl) ?_
 refine G_seq ?_
 refine G_pure (E':=[⟨0,[],.slice none 0 c⟩]) [0] [0] rfl kr ?_
 refine N_then ?_
 refine G_seq ?_
 refine G_seq ?_
 refine G_pure (E':=[⟨0,[],.slice none 0 c⟩,⟨4,[],.bool true⟩]) [0,0] [0,4] rfl kr ?_
 refine N_then ?_
 refine G_condt kr ?_
 refine G_seq ?_
 refine G_pure (E':=[⟨2,[],.slice none 0 0⟩]) [0] [2] rfl kr ?_
 refine N_then ?_
 refine G_ret ?_
 refine N_then_ret ?_
 refine N_ret [.tmp 2] [.slice none 0 0] rfl kr rfl ?_
 exact ⟨rfl, rfl⟩
theorem cloneRow (a : Addr) (c : Nat) (ts : List ByteArray) (S : Nat → Obj → Prop) (hrd : Rd S (some a) (strs ts)) (hl : ts.length ≤ 1000000) (W0 : World) (H : List Grp) (hS : ∀ y o, S y o → At W0 H y o) : Tri Tryz.prog 44 #[.slice (some a) ts.length c] W0 H (fun v H' => ∃ g, Go.Sw.Own 9 1 v g ts.length (strs ts) ∧ H' = g :: H) := by
 refine Tri_of (args := [.slice (some a) ts.length c]) (n := 8) Tryz.func44 rfl rfl (Nat.le_of_ble_eq_true rfl) ?_
 refine G_seq ?_
 refine G_pure (E':=[⟨0,[],.slice (some a) ts.length c⟩]) [0] [0] rfl kr ?_
 refine N_then ?_
 refine G_seq ?_
 refine G_seq ?_
 refine G_pure (E':=[⟨0,[],.slice (some a) ts.length c⟩,⟨4,[],.bool false⟩]) [0,0] [0,4] rfl kr ?_
 refine N_then ?_
 refine G_condf kr ?_
 refine G_skip ?_
 refine N_then ?_
 refine G_seq ?_
 refine G_region ?_
 refine GL_buildSlice (i:=0) (ch:=[]) (e:=9) (l:=[]) (c:=[]) rfl rfl kr kr kr kr kr (fun b1=>?_)
 refine GL_p [0] kr (j:=2) rfl ?_
 refine GL_append (i:=2) (ch:=[]) (t:=32) (tx:=32) (e:=9) (inf:=Tryz.t9) (s:=.slice (some ⟨b1,0,none⟩) 0 0) (x:=.slice (some a) ts.length c) (n:=0) (m:=ts.length) (j:=0) (cs:=[]) (news:=(strs ts)) (g:=[(b1,.cells #[] 9 (0,0))]) (S:=S) rfl rfl rfl rfl kr kr kr rfl rfl (.inl ⟨9,kr⟩) (fun ⟨_,h⟩=>by cases h) (fun _=>⟨9,kr⟩) kr kr kr rfl (Go.Sw.Own.lit rfl) (SrcOf.slice _ _ _ _ hrd (fun h=>by cases h)) (fun y o h=>(At.cons (hS y o h))) (show (strs ts).length = ts.length * 1 by simp [strs]) strs_one (by omega) (by show (0+ts.length) * 16 ≤ 140737488355328; omega) (fun v2 g3 hO4=>?_)
 refine GL_fin (E':=[⟨2,[],v2⟩]) [0] [2] rfl kr ?_
 refine N_then ?_
 refine G_ret ?_
 refine N_ret [.tmp 2] [v2] rfl kr rfl ?_
 exact ⟨_, own_from0 hO4, rfl⟩
theorem clone_ (a : Option Addr) (c : Nat) (ts : List ByteArray) (S : Nat → Obj → Prop) (hrd : Rd S a (strs ts)) (hl : ts.length ≤ 1000000) (hn : a = none → ts.length = 0) (W0 : World) (H : List Grp) (hS : ∀ y o, S y o → At W0 H y o) : Tri Tryz.prog 44 #[.slice a ts.length c] W0 H (fun v H' => ∃ g, Go.Sw.Own 9 1 v g ts.length (strs ts) ∧ H' = g :: H) := by
  cases a with
  | some a => exact cloneRow a c ts S hrd hl W0 H hS
  | none =>
    have h0 : ts = [] := List.eq_nil_of_length_eq_zero (hn rfl)
    subst h0
    refine Tri.post (cloneNil c W0 H) fun v H1 ⟨h1, h2⟩ => ⟨_, ⟨[], by rw [h1]; exact Go.Sw.Own.nil, rfl⟩, fun w hw => by rw [h2] at hw; exact hw.flat (List.Perm.refl _)⟩
end Go.Proofs.YtlaoeiaaeifidaaGreat
namespace Go.Proofs.YtlaoeiaaeifidaaGreat
open Go.Sw Go.Lib Go.Vf Go.Sha Go.Jr Go.RowKit
theorem tryM_cons (f : DM → Int × DM) (r : List (DM → Int × DM)) (M : DM) : tryM (f :: r) M = if (f M).1 != 0 then f M else tryM r (f M).2 := rfl
theorem drop_getD {α : Type} {l : List α} {k : Nat} (d : α) (h : k < l.length) : l.drop k = l.getD k d :: l.drop (k + 1) := by
  rw [List.drop_eq_getElem_cons h, List.getD, List.getElem?_eq_getElem h]; rfl
def idS : DM → Int × DM := fun M => (0, M)
theorem sat_dropMid {W0 : World} {K A L : List Grp} {w : World} (h : Sat W0 (K ++ (A ++ L)) w) : Sat W0 (K ++ L) w := h.subl (by
  simp only [List.flatten_append]
  exact List.Sublist.append (List.Sublist.refl _) (List.sublist_append_right _ _))
abbrev TS := DS × DM × List Grp
theorem tryJ {s : DS} {M : DM} (hs : s.ok M) (steps : List (DM → Int × DM)) (P : Nat → DM → Prop) (X : Nat → List Grp) (fa : Option Addr) (fc : Nat) (fs : List Value) (S : Nat → Obj → Prop) (hrd : Rd S fa fs) (hn : fs.length = steps.length) (hl : fs.length ≤ 1000)
    (jb d : Nat) (dir : ByteArray) (rv : Value) (size : Int) (down there : Bool) (K : List Grp) (W0 : World) (H : List Grp) (hS : ∀ y o, S y o → At W0 K y o) (hP0 : P 0 M)
    (hPs : ∀ k M', k < fs.length → P k M' → ((steps.getD k idS) M').1 = 0 → P (k + 1) ((steps.getD k idS) M').2)
    (hcall : ∀ k (s : DS) M', k < fs.length → P k M' → s.ok M' → FV Tryz.prog (fs.getD k default) [] W0 (jG jb d dir rv size down there :: (X k ++ (K ++ (s.G d M' ++ H)))) (fun v H' => v = .int .i64 ((steps.getD k idS) M').1 ∧ ∃ s' : DS, s'.ok ((steps.getD k idS) M').2 ∧ H' = jG jb d dir rv size down there :: (X (k + 1) ++ (K ++ (s'.G d ((steps.getD k idS) M').2 ++ H))))) :
    Tri Tryz.prog 47 #[pt jb, .slice fa fs.length fc] W0 (jG jb d dir rv size down there :: (X 0 ++ (K ++ (s.G d M ++ H)))) (fun v H' => v = .int .i64 (tryM steps M).1 ∧ ∃ s' : DS, s'.ok (tryM steps M).2 ∧ H' = jG jb d dir rv size (if (tryM steps M).1 != 0 then down || ((tryM steps M).1 != 61) else down) there :: (K ++ (s'.G d (tryM steps M).2 ++ H))) := by
  have := try_ (σ := TS) (fun x => x.2.2 ++ (K ++ (x.1.G d x.2.1 ++ H))) fa fc fs S hrd hl jb d dir rv size down there W0 H
    (fun x y o h => by
      rcases hS y o h with h | h
      · exact .inl h
      · exact .inr (by simp only [List.flatten_append, List.mem_append]; exact .inr (.inl h)))
    (fun k x => x.1.ok x.2.1 ∧ tryM steps M = tryM (steps.drop k) x.2.1 ∧ P k x.2.1 ∧ x.2.2 = X k)
    (fun e x => x.1.ok x.2.1 ∧ tryM steps M = (e, x.2.1))
    (fun k x hk ⟨h1, h2, h3, h4⟩ => by
      obtain ⟨f, fst, caps, fn, hv, hf, hnm, hb, ht⟩ := hcall k x.1 x.2.1 hk h3 h1
      have hd := drop_getD (l := steps) idS (show k < steps.length by omega)
      refine ⟨f, fst, caps, fn, hv, hf, hnm, hb, ?_⟩
      rw [← h4] at ht
      refine Tri.mono ht fun v H1 ⟨hv1, s', hs', hH⟩ => ⟨((steps.getD k idS) x.2.1).1, (s', ((steps.getD k idS) x.2.1).2, X (k + 1)), hv1, fun h0 => ⟨hs', ?_, hPs k _ hk h3 h0, rfl⟩, fun hne => ⟨hs', ?_⟩, hH⟩
      · rw [h2, hd, tryM_cons, h0]; rfl
      · rw [h2, hd, tryM_cons, if_pos (by simpa using hne)])
    (s, M, X 0) ⟨hs, rfl, hP0, rfl⟩
  refine Tri.post this fun v H1 h => ?_
  rcases h with ⟨x, ⟨h1, h2, h3, h4⟩, rfl, rfl⟩ | ⟨e, x, hne, ⟨h1, h2⟩, rfl, rfl⟩
  · have e : tryM steps M = (0, x.2.1) := by rw [h2, hn, List.drop_length]; rfl
    rw [e]
    exact ⟨_, ⟨rfl, x.1, h1, rfl⟩, fun w hw => sat_dropMid (K := [_]) hw⟩
  · rw [h2]
    refine ⟨_, ⟨rfl, x.1, h1, rfl⟩, fun w hw => ?_⟩
    rw [if_pos (by simpa using hne)]
    exact sat_dropMid (K := [_]) hw
end Go.Proofs.YtlaoeiaaeifidaaGreat
namespace Go.Proofs.YtlaoeiaaeifidaaGreat
open Go.Sw Go.Lib Go.Vf Go.Sha Go.Jr Go.RowKit
theorem at_lit {W0 : World} {K : List Grp} {b : Nat} {o : Obj} (h : At W0 K b o) : ∀ y o', inG [(b, o)] y o' → At W0 K y o' := fun y o' hy => by
  have := List.mem_singleton.1 hy
  simp only [Prod.mk.injEq] at this
  obtain ⟨rfl, rfl⟩ := this; exact h
def TryR (steps : List (DM → Int × DM)) (M : DM) (jb d : Nat) (dir : ByteArray) (rv : Value) (size : Int) (down there : Bool) (K : List Grp) (H : List Grp) : Value → List Grp → Prop := fun v H' =>
  v = .int .i64 (tryM steps M).1 ∧ ∃ s' : DS, s'.ok (tryM steps M).2 ∧ H' = jG jb d dir rv size (if (tryM steps M).1 != 0 then down || ((tryM steps M).1 != 61) else down) there :: (K ++ (s'.G d (tryM steps M).2 ++ H))
def stApp (dir l : ByteArray) : List (DM → Int × DM) := [fun M => appendM M (pathJ dir logB) l, fun M => syncM M (pathJ dir logB)]
def stWri (dir l : ByteArray) : List (DM → Int × DM) := [fun M => writeM M (pathJ dir logB) l, fun M => syncM M (pathJ dir logB), fun M => syncDirM M dir]
theorem three_le {dir : ByteArray} : dir.size ≤ 1000000 → logB.size ≤ 1000 := fun _ => by show 3 ≤ 1000; omega
theorem tryApp {s : DS} {M : DM} (hs : s.ok M) (dir l : ByteArray) (hl : l.size ≤ 1000000000) (hdir : dir.size ≤ 1000000) (hm : Small M) (hm1 : Small (appendM M (pathJ dir logB) l).2)
    (jb d bj bl bj2 bn b : Nat) (rv : Value) (size : Int) (down there : Bool) (K : List Grp) (W0 : World) (H : List Grp)
    (hb : At W0 K b (.cells #[.func (.func 48) #[] #[pt bj, pt bl], .func (.func 85) #[] #[pt bj2, pt bn]] 91 (0, 0)))
    (hbj : At W0 K bj (.cells #[pt jb] 28 (0, 0))) (hbl : At W0 K bl (.cells #[.string l] 9 (0, 0))) (hbj2 : At W0 K bj2 (.cells #[pt jb] 28 (0, 0))) (hbn : At W0 K bn (.cells #[.string logB] 9 (0, 0))) :
    Tri Tryz.prog 47 #[pt jb, .slice (some ⟨b, 0, none⟩) 2 2] W0 (jG jb d dir rv size down there :: (K ++ (s.G d M ++ H))) (TryR (stApp dir l) M jb d dir rv size down there K H) :=
  tryJ hs (stApp dir l) (fun k M' => (k = 0 → M' = M) ∧ (k = 1 → M' = (appendM M (pathJ dir logB) l).2)) (fun _ => []) (some ⟨b, 0, none⟩) 2 _ _ (Rd.lit (c := [.func (.func 48) #[] #[pt bj, pt bl], .func (.func 85) #[] #[pt bj2, pt bn]])) rfl (by show 2 ≤ 1000; omega) jb d dir rv size down there K W0 H (at_lit hb)
    ⟨fun _ => rfl, fun h => absurd h (by omega)⟩
    (fun k M' hk hP h0 => ⟨fun h => absurd h (by omega), fun h => by
      have : k = 0 := by omega
      subst this; rw [hP.1 rfl]; rfl⟩)
    (fun k s1 M' hk hP hs1 => by
      have hk2 : k < 2 := hk
      match k, hk2 with
      | 0, _ => obtain rfl := hP.1 rfl; exact FV.of Tryz.func48 rfl rfl (cAppJ hs1 hm (jG jb d dir rv size down there :: K) jb d dir rv size down there hdir bj bl l hl W0 H (At.grp 0 0 rfl rfl) (At.cons hbj) (At.cons hbl))
      | 1, _ => obtain rfl := hP.2 rfl; exact FV.of Tryz.func85 rfl rfl (cSyncJ hs1 hm1 (jG jb d dir rv size down there :: K) jb d dir rv size down there hdir bj2 bn logB (three_le hdir) W0 H (At.grp 0 0 rfl rfl) (At.cons hbj2) (At.cons hbn)))
theorem tryWri {s : DS} {M : DM} (hs : s.ok M) (dir l : ByteArray) (hl : l.size ≤ 1000000000) (hdir : dir.size ≤ 1000000) (hm : Small M) (hm1 : Small (writeM M (pathJ dir logB) l).2) (hm2 : Small (syncM (writeM M (pathJ dir logB) l).2 (pathJ dir logB)).2)
    (jb d bj bl bj2 bn b : Nat) (rv : Value) (size : Int) (down there : Bool) (K : List Grp) (W0 : World) (H : List Grp)
    (hb : At W0 K b (.cells #[.func (.func 50) #[] #[pt bj, pt bl], .func (.func 85) #[] #[pt bj2, pt bn], .func (.func 51) #[pt jb] #[]] 91 (0, 0)))
    (hbj : At W0 K bj (.cells #[pt jb] 28 (0, 0))) (hbl : At W0 K bl (.cells #[.string l] 9 (0, 0))) (hbj2 : At W0 K bj2 (.cells #[pt jb] 28 (0, 0))) (hbn : At W0 K bn (.cells #[.string logB] 9 (0, 0))) :
    Tri Tryz.prog 47 #[pt jb, .slice (some ⟨b, 0, none⟩) 3 3] W0 (jG jb d dir rv size down there :: (K ++ (s.G d M ++ H))) (TryR (stWri dir l) M jb d dir rv size down there K H) :=
  tryJ hs (stWri dir l) (fun k M' => (k = 0 → M' = M) ∧ (k = 1 → M' = (writeM M (pathJ dir logB) l).2) ∧ (k = 2 → M' = (syncM (writeM M (pathJ dir logB) l).2 (pathJ dir logB)).2)) (fun _ => []) (some ⟨b, 0, none⟩) 3 _ _
    (Rd.lit (c := [.func (.func 50) #[] #[pt bj, pt bl], .func (.func 85) #[] #[pt bj2, pt bn], .func (.func 51) #[pt jb] #[]])) rfl (by show 3 ≤ 1000; omega) jb d dir rv size down there K W0 H (at_lit hb)
    ⟨fun _ => rfl, fun h => absurd h (by omega), fun h => absurd h (by omega)⟩
    (fun k M' hk hP h0 => by
      have hk2 : k < 3 := hk
      match k, hk2 with
      | 0, _ => exact ⟨fun h => absurd h (by omega), fun _ => by rw [hP.1 rfl]; rfl, fun h => absurd h (by omega)⟩
      | 1, _ => exact ⟨fun h => absurd h (by omega), fun h => absurd h (by omega), fun _ => by rw [hP.2.1 rfl]; rfl⟩
      | 2, _ => exact ⟨fun h => absurd h (by omega), fun h => absurd h (by omega), fun h => absurd h (by omega)⟩)
    (fun k s1 M' hk hP hs1 => by
      have hk2 : k < 3 := hk
      match k, hk2 with
      | 0, _ => obtain rfl := hP.1 rfl; exact FV.of Tryz.func50 rfl rfl (cWriJ hs1 hm (jG jb d dir rv size down there :: K) jb d dir rv size down there hdir bj bl l hl W0 H (At.grp 0 0 rfl rfl) (At.cons hbj) (At.cons hbl))
      | 1, _ => obtain rfl := hP.2.1 rfl; exact FV.of Tryz.func85 rfl rfl (cSyncJ hs1 hm1 (jG jb d dir rv size down there :: K) jb d dir rv size down there hdir bj2 bn logB (three_le hdir) W0 H (At.grp 0 0 rfl rfl) (At.cons hbj2) (At.cons hbn))
      | 2, _ => obtain rfl := hP.2.2 rfl; exact FV.of Tryz.func51 rfl rfl (cSyncDirJ hs1 hm2 (jG jb d dir rv size down there :: K) jb d dir rv size down there hdir W0 H (At.grp 0 0 rfl rfl)))
theorem tryRep {s : DS} {M : DM} (hs : s.ok M) (dir l : ByteArray) (hl : l.size ≤ 1000000000) (hdir : dir.size ≤ 1000000) (hm : Small M) (hm1 : Small (writeM M (pathJ dir newB) l).2) (hm2 : Small (syncM (writeM M (pathJ dir newB) l).2 (pathJ dir newB)).2)
    (hm3 : Small (renameM (syncM (writeM M (pathJ dir newB) l).2 (pathJ dir newB)).2 (pathJ dir newB) (pathJ dir logB)).2)
    (jb d bj bb bj2 bn b : Nat) (p v : Value) (g : Grp) (hv : BOwn v g l) (rv : Value) (size : Int) (down there : Bool) (K : List Grp) (W0 : World) (H : List Grp)
    (hb : At W0 K b (.cells #[.func (.func 53) #[] #[pt bj, pt bb], .func (.func 85) #[] #[pt bj2, pt bn], .func (.func 55) #[] #[pt bj], .func (.func 51) #[pt jb] #[]] 91 (0, 0)))
    (hbj : At W0 K bj (.cells #[pt jb] 28 (0, 0))) (hbj2 : At W0 K bj2 (.cells #[pt jb] 28 (0, 0))) (hbn : At W0 K bn (.cells #[.string newB] 9 (0, 0))) :
    Tri Tryz.prog 47 #[pt jb, .slice (some ⟨b, 0, none⟩) 4 4] W0 (jG jb d dir rv size down there :: g :: (bldG bb p v :: K ++ (s.G d M ++ H))) (TryR (repSteps dir l) M jb d dir rv size down there (bldG bb p v :: K) H) :=
  tryJ hs (repSteps dir l) (fun k M' => (k = 0 → M' = M) ∧ (k = 1 → M' = (writeM M (pathJ dir newB) l).2) ∧ (k = 2 → M' = (syncM (writeM M (pathJ dir newB) l).2 (pathJ dir newB)).2) ∧ (k = 3 → M' = (renameM (syncM (writeM M (pathJ dir newB) l).2 (pathJ dir newB)).2 (pathJ dir newB) (pathJ dir logB)).2))
    (fun k => if k = 0 then [g] else []) (some ⟨b, 0, none⟩) 4 _ _
    (Rd.lit (c := [.func (.func 53) #[] #[pt bj, pt bb], .func (.func 85) #[] #[pt bj2, pt bn], .func (.func 55) #[] #[pt bj], .func (.func 51) #[pt jb] #[]])) rfl (by show 4 ≤ 1000; omega) jb d dir rv size down there (bldG bb p v :: K) W0 H (fun y o h => At.cons (at_lit hb y o h))
    ⟨fun _ => rfl, fun h => absurd h (by omega), fun h => absurd h (by omega), fun h => absurd h (by omega)⟩
    (fun k M' hk hP h0 => by
      have hk2 : k < 4 := hk
      match k, hk2 with
      | 0, _ => exact ⟨fun h => absurd h (by omega), fun _ => by rw [hP.1 rfl]; rfl, fun h => absurd h (by omega), fun h => absurd h (by omega)⟩
      | 1, _ => exact ⟨fun h => absurd h (by omega), fun h => absurd h (by omega), fun _ => by rw [hP.2.1 rfl]; rfl, fun h => absurd h (by omega)⟩
      | 2, _ => exact ⟨fun h => absurd h (by omega), fun h => absurd h (by omega), fun h => absurd h (by omega), fun _ => by rw [hP.2.2.1 rfl]; rfl⟩
      | 3, _ => exact ⟨fun h => absurd h (by omega), fun h => absurd h (by omega), fun h => absurd h (by omega), fun h => absurd h (by omega)⟩)
    (fun k s1 M' hk hP hs1 => by
      have hk2 : k < 4 := hk
      match k, hk2 with
      | 0, _ =>
        obtain rfl := hP.1 rfl
        refine FV.of Tryz.func53 rfl rfl ?_
        refine Tri.heap (H' := bldG bb p v :: g :: ((jG jb d dir rv size down there :: K) ++ (s1.G d M' ++ H))) (fun w hw => sat_cnt hw fun _ x => ?_) (Tri.post (cWriR hs1 hm (jG jb d dir rv size down there :: K) jb d dir rv size down there hdir bj bb p v g l hv hl W0 H (At.grp 0 0 rfl rfl) (At.cons hbj)) fun v1 H1 ⟨h1, s', h2, h3⟩ => ⟨jG jb d dir rv size down there :: (([] : List Grp) ++ ((bldG bb p v :: K) ++ (s'.G d (writeM M' (pathJ dir newB) l).2 ++ H))), ⟨h1, s', h2, rfl⟩, fun w hw => by
          rw [h3] at hw
          refine sat_cnt hw fun _ x => ?_
          simp only [List.flatten_append, List.flatten_cons, List.count_append, List.cons_append, List.nil_append]; omega⟩)
        simp only [if_pos, List.flatten_append, List.flatten_cons, List.count_append, List.cons_append, List.nil_append]; omega
      | 1, _ => obtain rfl := hP.2.1 rfl; exact FV.of Tryz.func85 rfl rfl (cSyncJ hs1 hm1 (jG jb d dir rv size down there :: bldG bb p v :: K) jb d dir rv size down there hdir bj2 bn newB (three_le hdir) W0 H (At.grp 0 0 rfl rfl) (At.cons (At.cons hbj2)) (At.cons (At.cons hbn)))
      | 2, _ => obtain rfl := hP.2.2.1 rfl; exact FV.of Tryz.func55 rfl rfl (cRenJ hs1 hm2 (jG jb d dir rv size down there :: bldG bb p v :: K) jb d dir rv size down there hdir bj W0 H (At.grp 0 0 rfl rfl) (At.cons (At.cons hbj)))
      | 3, _ => obtain rfl := hP.2.2.2 rfl; exact FV.of Tryz.func51 rfl rfl (cSyncDirJ hs1 hm3 (jG jb d dir rv size down there :: bldG bb p v :: K) jb d dir rv size down there hdir W0 H (At.grp 0 0 rfl rfl)))
end Go.Proofs.YtlaoeiaaeifidaaGreat
namespace Go.Proofs.YtlaoeiaaeifidaaGreat
open Go.Sw Go.Lib Go.Vf Go.Sha Go.Jr Go.RowKit
def CallR (r : Int × JM × DM) (jb d : Nat) (K H : List Grp) : Value → List Grp → Prop := fun v H' =>
  ∃ (rv' : Value) (rg' : Grp) (s' : DS), v = .int .i64 r.1 ∧ Go.Sw.Own 9 1 rv' rg' r.2.1.L.length (strs r.2.1.L) ∧ s'.ok r.2.2 ∧ H' = jG jb d r.2.1.dir rv' r.2.1.size r.2.1.down r.2.1.there :: rg' :: (K ++ (s'.G d r.2.2 ++ H))
theorem mayI_no {ts : List ByteArray} {down : Bool} (h : ¬ (mayI ts down != 0) = true) : ts.any (fun t => !rightJ t) = false ∧ down = false := by
  unfold mayI at h
  split at h
  · simp at h
  · rename_i h1
    split at h
    · simp at h
    · rename_i h2; exact ⟨by simpa using h1, by simpa using h2⟩
theorem mayI_add {dir : ByteArray} {L : List ByteArray} {size : Int} {down there : Bool} {M : DM} {t : ByteArray} (h : (mayI [t] down != 0) = true) : addM ⟨dir, L, size, down, there⟩ M t = (mayI [t] down, ⟨dir, L, size, down, there⟩, M) := by
  unfold addM mayI at *
  cases hr : rightJ t <;> cases down <;> simp_all
theorem addM_go {dir : ByteArray} {L : List ByteArray} {size : Int} {down there : Bool} {M : DM} {t : ByteArray} (h : ¬ (mayI [t] down != 0) = true) :
    addM ⟨dir, L, size, down, there⟩ M t = if (tryM (addSteps ⟨dir, L, size, down, there⟩ (lineB t)) M).1 != 0 then ((tryM (addSteps ⟨dir, L, size, down, there⟩ (lineB t)) M).1, failJ ⟨dir, L, size, down, there⟩ (tryM (addSteps ⟨dir, L, size, down, there⟩ (lineB t)) M).1, (tryM (addSteps ⟨dir, L, size, down, there⟩ (lineB t)) M).2)
      else (0, ⟨dir, L ++ [t], size + ((lineB t).size : Int), down, true⟩, (tryM (addSteps ⟨dir, L, size, down, there⟩ (lineB t)) M).2) := by
  obtain ⟨h1, h2⟩ := mayI_no h
  have h3 : rightJ t = true := by simpa using h1
  unfold addM
  rw [h3, if_neg (by decide), if_neg (by rw [show (JM.mk dir L size down there).down = down from rfl, h2]; decide)]
theorem add_err {dir : ByteArray} {L : List ByteArray} {size : Int} {down there : Bool} {M : DM} {t : ByteArray} {st : List (DM → Int × DM)} (h : ¬ (mayI [t] down != 0) = true) (hst : addSteps ⟨dir, L, size, down, there⟩ (lineB t) = st) (he : ((tryM st M).1 != 0) = true) :
    addM ⟨dir, L, size, down, there⟩ M t = ((tryM st M).1, ⟨dir, L, size, down || ((tryM st M).1 != 61), there⟩, (tryM st M).2) := by
  rw [addM_go h, hst, if_pos he]; rfl
theorem add_ok {dir : ByteArray} {L : List ByteArray} {size : Int} {down there : Bool} {M : DM} {t : ByteArray} {st : List (DM → Int × DM)} (h : ¬ (mayI [t] down != 0) = true) (hst : addSteps ⟨dir, L, size, down, there⟩ (lineB t) = st) (he : ¬ ((tryM st M).1 != 0) = true) :
    addM ⟨dir, L, size, down, there⟩ M t = (0, ⟨dir, L ++ [t], size + ((lineB t).size : Int), down, true⟩, (tryM st M).2) := by
  rw [addM_go h, hst, if_neg he]
theorem mayI_rep {dir : ByteArray} {L ts : List ByteArray} {size : Int} {down there : Bool} {M : DM} (h : (mayI ts down != 0) = true) : replaceM ⟨dir, L, size, down, there⟩ M ts = (mayI ts down, ⟨dir, L, size, down, there⟩, M) := by
  unfold replaceM mayI at *
  cases hr : ts.any (fun t => !rightJ t) <;> cases down <;> simp_all
theorem repM_go {dir : ByteArray} {L ts : List ByteArray} {size : Int} {down there : Bool} {M : DM} (h : ¬ (mayI ts down != 0) = true) :
    replaceM ⟨dir, L, size, down, there⟩ M ts = if (tryM (repSteps dir (linesB ts)) M).1 != 0 then ((tryM (repSteps dir (linesB ts)) M).1, failJ ⟨dir, L, size, down, there⟩ (tryM (repSteps dir (linesB ts)) M).1, (tryM (repSteps dir (linesB ts)) M).2)
      else (0, ⟨dir, ts, ((linesB ts).size : Int), down, true⟩, (tryM (repSteps dir (linesB ts)) M).2) := by
  obtain ⟨h1, h2⟩ := mayI_no h
  unfold replaceM
  rw [h1, if_neg (by decide), if_neg (by rw [show (JM.mk dir L size down there).down = down from rfl, h2]; decide)]
theorem rep_err {dir : ByteArray} {L ts : List ByteArray} {size : Int} {down there : Bool} {M : DM} (h : ¬ (mayI ts down != 0) = true) (he : ((tryM (repSteps dir (linesB ts)) M).1 != 0) = true) :
    replaceM ⟨dir, L, size, down, there⟩ M ts = ((tryM (repSteps dir (linesB ts)) M).1, ⟨dir, L, size, down || ((tryM (repSteps dir (linesB ts)) M).1 != 61), there⟩, (tryM (repSteps dir (linesB ts)) M).2) := by
  rw [repM_go h, if_pos he]; rfl
theorem rep_ok {dir : ByteArray} {L ts : List ByteArray} {size : Int} {down there : Bool} {M : DM} (h : ¬ (mayI ts down != 0) = true) (he : ¬ ((tryM (repSteps dir (linesB ts)) M).1 != 0) = true) :
    replaceM ⟨dir, L, size, down, there⟩ M ts = (0, ⟨dir, ts, ((linesB ts).size : Int), down, true⟩, (tryM (repSteps dir (linesB ts)) M).2) := by
  rw [repM_go h, if_neg he]
theorem linesB_app : ∀ (a b : List ByteArray), linesB (a ++ b) = linesB a ++ linesB b
  | [], b => by show _ = ByteArray.empty ++ _; rw [ByteArray.empty_append]; rfl
  | x :: a, b => by show lineB x ++ linesB (a ++ b) = (lineB x ++ linesB a) ++ _; rw [linesB_app a b, ByteArray.append_assoc]
theorem linesB_one (t : ByteArray) : linesB [t] = lineB t := by show lineB t ++ ByteArray.empty = _; rw [ByteArray.append_empty]
theorem linesB_succ {ts : List ByteArray} {k : Nat} (h : k < ts.length) : linesB (ts.take (k + 1)) = linesB (ts.take k) ++ lineB (ts.getD k default) := by
  rw [List.take_add_one, List.getElem?_eq_getElem h, linesB_app, List.getD, List.getElem?_eq_getElem h]
  show _ ++ linesB [_] = _
  rw [linesB_one]; rfl
theorem linesB_le {ts : List ByteArray} (k : Nat) : (linesB (ts.take k)).size ≤ (linesB ts).size := by
  conv => rhs; rw [← List.take_append_drop k ts, linesB_app, ByteArray.size_append]
  omega
theorem lines_at {ts : List ByteArray} {k : Nat} (h : k < ts.length) : (linesB (ts.take k)).size + (lineB (ts.getD k default)).size ≤ (linesB ts).size := by
  have := linesB_le (ts := ts) (k + 1)
  rw [linesB_succ h, ByteArray.size_append] at this; exact this
theorem bown_succ {v : Value} {g : Grp} {ts : List ByteArray} {k : Nat} (h : BOwn v g (linesB (ts.take k) ++ lineB (ts.getD k default))) (hk : k < ts.length) : BOwn v g (linesB (ts.take (k + 1))) := by rw [linesB_succ hk]; exact h
theorem bown_all {v : Value} {g : Grp} {ts : List ByteArray} {k : Nat} (h : BOwn v g (linesB (ts.take k))) (hk : ts.length ≤ k) : BOwn v g (linesB ts) := by rw [List.take_of_length_le hk] at h; exact h
theorem own_add {e : TypeId} {v : Value} {g : Grp} {L : List ByteArray} {t : ByteArray} (h : Go.Sw.Own e 1 v g (L.length + 1) (strs L ++ [.string t])) : Go.Sw.Own e 1 v g (L ++ [t]).length (strs (L ++ [t])) := by
  have e1 : strs (L ++ [t]) = strs L ++ [.string t] := by simp [strs]
  rw [e1, List.length_append]; exact h
theorem At.sub {W0 : World} {K K' : List Grp} {b : Nat} {o : Obj} (h : At W0 K b o) (hs : ∀ p ∈ K.flatten, p ∈ K'.flatten) : At W0 K' b o := by
  rcases h with h | h
  · exact .inl h
  · exact .inr (hs _ h)
end Go.Proofs.YtlaoeiaaeifidaaGreat
namespace Go.Vf
open Go.Sw Go.RowKit Go.Proofs Go.Proofs.YtlaoeiaaeifidaaGreat
structure OpV where
  kind : Int
  path : ByteArray
  to : ByteArray
  ba : Option Addr
  bc : Nat
  b : ByteArray
  n : Int
  ka : Option Addr
  kc : Nat
  k : List Int
instance : Inhabited OpV := ⟨⟨0, ByteArray.mk #[], ByteArray.mk #[], none, 0, ByteArray.mk #[], 0, none, 0, []⟩⟩
def kindU (o : OpV) : Int := Int.tmod (IntKind.wrap .u64 o.kind) 8
def tryM (M : DM) (o : OpV) : Int × DM :=
  if kindU o = 0 then writeM M o.path o.b else if kindU o = 1 then appendM M o.path o.b else if kindU o = 2 then renameM M o.path o.to
  else if kindU o = 3 then removeM M o.path else if kindU o = 4 then syncM M o.path else syncDirM M o.path
end Go.Vf
namespace Go.Vf
open Go.Sw Go.Proofs.YtlaoeiaaeifidaaGreat
def p0 : ByteArray := ByteArray.mk #[]
theorem err_ok {M : DM} {r : Bool} (hr : r = true) (hf : M.fails = false) : errM M r = 0 ∧ callM M r = M := by
  subst hr
  unfold errM callM callS
  rw [hf]
  refine ⟨rfl, ?_⟩
  cases M; simp only at hf; subst hf; rfl
theorem sz {a : ByteArray} (ha : a.size ≤ 1000) : a.size ≤ 10000000 ∧ a.size ≤ a.size := by omega
end Go.Vf
namespace Go.Vf
open Go.Sw Go.Proofs.YtlaoeiaaeifidaaGreat
def fa : ByteArray := ByteArray.mk #[97]
theorem fc : -9223372036854775808 ≤ (0 : Int) ∧ (0 : Int) ≤ 9223372036854775807 := by omega
end Go.Vf
namespace Go.Vf
open Go.Sw Go.Proofs.YtlaoeiaaeifidaaGreat
def adds (l : List Nm) : Nat := (l.filter fun x => decide (0 ≤ x.2)).length
def addsC (cs : List Ch) : Nat := (cs.map fun c => adds c.l).sum
def addsL (ls : List (List Nm)) : Nat := (ls.map adds).sum
theorem with_len (l : List Nm) (x : Nm) : (withN l x).length ≤ l.length + (if 0 ≤ x.2 then 1 else 0) := by
  unfold withN
  rw [List.length_append]
  have := List.length_filter_le (fun n : Nm => !(x.1 == n.1)) l
  split <;> simp <;> omega
theorem apply_len : ∀ (c l : List Nm), (applyN l c).length ≤ l.length + adds c
  | [], l => Nat.le_refl _
  | x :: c, l => by
    have h1 := apply_len c (withN l x)
    have h2 := with_len l x
    unfold adds at h1 ⊢
    rw [List.filter_cons]
    show (applyN (withN l x) c).length ≤ _
    split
    · rename_i h
      rw [decide_eq_true_eq] at h
      rw [if_pos h] at h2
      rw [List.length_cons]; omega
    · rename_i h
      rw [decide_eq_true_eq] at h
      rw [if_neg h] at h2
      omega
theorem fold_len : ∀ (ls : List (List Nm)) (l : List Nm), (ls.foldl applyN l).length ≤ l.length + addsL ls
  | [], l => Nat.le_refl _
  | c :: ls, l => by
    have h1 := fold_len ls (applyN l c)
    have h2 := apply_len c l
    unfold addsL at h1 ⊢
    rw [List.map_cons, List.sum_cons]
    show (ls.foldl applyN (applyN l c)).length ≤ _
    omega
theorem addsC_app (a b : List Ch) : addsC (a ++ b) = addsC a + addsC b := by unfold addsC; rw [List.map_append, List.sum_append]
theorem addsC_split (l : List Ch) (d : ByteArray) : addsC l = addsL (chOf l d) + addsC (l.filter fun c => !(d == c.dir)) := by
  unfold addsC addsL chOf
  induction l with
  | nil => rfl
  | cons c l ih =>
    rw [List.filter_cons, List.filter_cons]
    cases d == c.dir
    · simp only [Bool.not_false, if_true, Bool.false_eq_true, if_false, List.map_cons, List.sum_cons]; omega
    · simp only [Bool.not_true, Bool.false_eq_true, if_false, if_true, List.map_cons, List.sum_cons]; omega
def RightL (l : List Nm) : Prop := ∀ x ∈ l, rightB x.1 = true
theorem right_apply {c l : List Nm} (h : RightL l) (hc : RightL c) : RightL (applyN l c) := fun y hy => by
  rcases mem_apply hy with h1 | h1
  · exact h y h1
  · exact hc y h1.1
theorem right_fold : ∀ {ls : List (List Nm)} {l : List Nm}, RightL l → (∀ c ∈ ls, RightL c) → RightL (ls.foldl applyN l)
  | [], _, h, _ => h
  | c :: ls, l, h, hc => right_fold (ls := ls) (right_apply h (hc c List.mem_cons_self)) fun x hx => hc x (List.mem_cons_of_mem _ hx)
theorem chOf_mem {l : List Ch} {d : ByteArray} {x : List Nm} (h : x ∈ chOf l d) : ∃ c ∈ l, c.l = x := by
  unfold chOf at h
  obtain ⟨c, hc, rfl⟩ := List.mem_map.1 h
  exact ⟨c, (List.mem_filter.1 hc).1, rfl⟩
theorem part_size {s : ByteArray} (h : partB s = true) : s.size ≤ 80 := by
  unfold partB at h
  simp only [Bool.and_eq_true, decide_eq_true_eq] at h
  omega
theorem right_size {s : ByteArray} (h : rightB s = true) : s.size ≤ 161 := by
  unfold rightB at h
  split at h
  · have := part_size h; omega
  · rename_i hs
    rw [Bool.and_eq_true] at h
    obtain ⟨h1, h2, h3⟩ := slash_facts hs
    have a1 := part_size h.1
    have a2 := part_size h.2
    omega
theorem dir_size (s : ByteArray) : (dirB s).size ≤ s.size := by
  unfold dirB
  split
  · exact Nat.zero_le _
  · rw [ByteArray.size_extract]; omega
structure CalI (w a r i j : Nat) (M : DM) : Prop where
  room : M.room = 1048576
  fails : M.fails = false
  calls : M.calls = 0
  bodies : M.bodies.length ≤ j
  size : ∀ B ∈ M.bodies, B.now.size ≤ 999 * (a + 1) + r ∧ B.kept.size ≤ B.now.size
  names : M.names.length ≤ w
  kept : M.kept.length + addsC M.changes ≤ w
  changes : M.changes.length ≤ i
  rn : RightL M.names
  rk : RightL M.kept
  rc : ∀ c ∈ M.changes, RightL c.l ∧ c.dir.size ≤ 161
theorem CalI.small {w a r i j : Nat} {M : DM} (h : CalI w a r i j M) (hw : w + a ≤ 60) (hr : r ≤ 8 * w) (hi : i ≤ 60) (hj : j ≤ 60) : Small M := by
  refine ⟨by have := h.bodies; omega, fun B hB => ?_, by have := h.names; omega, by have := h.changes; omega, by rw [h.calls]; omega, fun x hx => by have := right_size (h.rn x hx); omega, fun c hc => by have := (h.rc c hc).2; omega⟩
  obtain ⟨h1, h2⟩ := h.size B hB
  exact ⟨by have : 999 * (a + 1) + r ≤ 10000000 := by omega
            omega, h2⟩
theorem err_right {M : DM} {r : Bool} (h : errM M r = 0) : r = true := by
  cases r
  · exact absurd (show (2 : Int) = 0 from h) (by decide)
  · rfl
def Cal (i : Nat) (M : DM) : Prop := ∃ w a, w + a ≤ i ∧ CalI w a 0 i i M
theorem Cal.small {i : Nat} {M : DM} (h : Cal i M) (hi : i ≤ 60) : Small M := by
  obtain ⟨w, a, h1, h2⟩ := h
  exact h2.small (by omega) (Nat.zero_le _) hi hi
end Go.Vf
namespace Go.Sw
open Go.RowKit
theorem own_rd {t : TypeId} {k : Nat} {a : Option Addr} {n c : Nat} {g : Grp} {cs : List Value} (h : Own t k (.slice a n c) g n cs) : Rd (inG g) a cs := by
  obtain ⟨a', c', he, _, hr⟩ := h.shape
  injection he with e1 e2 e3
  subst e1; exact hr
end Go.Sw
namespace Go.Vf
open Go.Sw Go.RowKit
structure RS where
  bn : Nat
  ba : Option Addr
  bc : Nat
  bg : Grp
  nn : Nat
  na : Option Addr
  nc : Nat
  kn : Nat
  ka : Option Addr
  kc : Nat
  cn : Nat
  ca : Option Addr
  cc : Nat
  cg : Grp
  cs : List CR
  Z : List Grp
def rkO (M : DM) (s : RS) : Obj := .cells #[.int .i64 M.room, .slice s.ba s.bn s.bc, .slice s.na s.nn s.nc, .slice s.ka s.kn s.kc, .slice s.ca s.cn s.cc, .bool M.fails, .bool M.once, .int .i64 M.calls] 106 (0, 0)
def RS.G (s : RS) (x : Nat) (M : DM) : List Grp := [(x, rkO M s)] :: s.bg :: s.cg :: s.Z
structure Well (M : DM) : Prop where
  names : ∀ y ∈ M.names, 0 ≤ y.2 ∧ y.2.toNat < M.bodies.length
  kept : ∀ y ∈ M.kept, 0 ≤ y.2 ∧ y.2.toNat < M.bodies.length
  chs : ∀ c ∈ M.changes, ∀ y ∈ c.l, 0 ≤ y.2 → y.2.toNat < M.bodies.length
  pre : ∀ B ∈ M.bodies, B.kept.size ≤ B.now.size ∧ B.kept = B.now.extract 0 B.kept.size
structure CRok (Z : List Grp) (c : CR) (C : Ch) : Prop where
  dir : c.dir = C.dir
  l : c.l = C.l
  rd : Rd (inZ Z) c.a (nmC c.l)
structure RS.ok (s : RS) (M : DM) : Prop where
  bn : s.bn = M.bodies.length
  own : Go.Sw.Own 113 2 (.slice s.ba s.bn s.bc) s.bg s.bn (bdC M.bodies)
  nn : s.nn = M.names.length
  names : Rd (inZ s.Z) s.na (nmC M.names)
  kn : s.kn = M.kept.length
  kept : Rd (inZ s.Z) s.ka (nmC M.kept)
  cn : s.cn = s.cs.length
  own2 : Go.Sw.Own 123 2 (.slice s.ca s.cn s.cc) s.cg s.cn (chC s.cs)
  chs : All2 (CRok s.Z) s.cs M.changes
  well : Well M
structure SmallR (M : DM) : Prop where
  small : Small M
  kept : M.kept.length + addsC M.changes ≤ 10000
  chs : ∀ c ∈ M.changes, c.l.length ≤ 2
theorem CRok.mono {Z Z2 : List Grp} (hz : ∀ y o, inZ Z y o → inZ Z2 y o) {c : CR} {C : Ch} (h : CRok Z c C) : CRok Z2 c C := ⟨h.dir, h.l, h.rd.mono hz⟩
theorem callS_rng {f o r : Bool} {c : Int} (hc : -9223372036854775808 ≤ c ∧ c ≤ 9223372036854775807) : -9223372036854775808 ≤ (callS f o c r).2.2 ∧ (callS f o c r).2.2 ≤ 9223372036854775807 := by
  unfold callS
  split
  · exact hc
  · split
    · exact hc
    · split
      · show -9223372036854775808 ≤ c - 1 ∧ c - 1 ≤ 9223372036854775807; omega
      · exact hc
end Go.Vf
namespace Go.Vf
open Go.Sw Go.Proofs.YtlaoeiaaeifidaaGreat
structure ScrI (s w j : Nat) (M : DM) : Prop where
  bodies : M.bodies.length ≤ j
  size : ∀ B ∈ M.bodies, B.now.size ≤ s ∧ B.kept.size ≤ B.now.size
  names : M.names.length ≤ w
  kept : M.kept.length + addsC M.changes ≤ w
  changes : M.changes.length ≤ w
  calls : -9223372036854775808 ≤ M.calls ∧ M.calls ≤ 9223372036854775807
  rn : RightL M.names
  rk : RightL M.kept
  rc : ∀ c ∈ M.changes, RightL c.l ∧ c.dir.size ≤ 161 ∧ c.l.length ≤ 2
def Scr (z i : Nat) (M : DM) : Prop := ScrI (z * i) i i M
theorem ScrI.small {s w j : Nat} {M : DM} (h : ScrI s w j M) (hs : s ≤ 10000000) (hw : w ≤ 10000) (hj : j ≤ 10000) : SmallR M := by
  refine ⟨⟨by have := h.bodies; omega, fun B hB => ⟨Nat.le_trans (h.size B hB).1 hs, (h.size B hB).2⟩, by have := h.names; omega, by have := h.changes; omega, h.calls, fun x hx => by have := right_size (h.rn x hx); omega, fun c hc => by have := (h.rc c hc).2.1; omega⟩, by have := h.kept; omega, fun c hc => (h.rc c hc).2.2⟩
theorem Scr.small {z i : Nat} {M : DM} (h : Scr z i M) (hi : i ≤ 100) (hz : z ≤ 5000) : SmallR M :=
  ScrI.small h (by have := Nat.mul_le_mul hz hi; omega) (by omega) (by omega)
theorem ScrI.up {s s' w w' j j' : Nat} {M : DM} (h : ScrI s w j M) (hs : s ≤ s') (hw : w ≤ w') (hj : j ≤ j') : ScrI s' w' j' M :=
  ⟨Nat.le_trans h.bodies hj, fun B hB => ⟨Nat.le_trans (h.size B hB).1 hs, (h.size B hB).2⟩, Nat.le_trans h.names hw, Nat.le_trans h.kept hw, Nat.le_trans h.changes hw, h.calls, h.rn, h.rk, h.rc⟩
theorem scr_call {s w j : Nat} {M : DM} (h : ScrI s w j M) (r : Bool) : ScrI s w j (callM M r) :=
  ⟨h.bodies, h.size, h.names, h.kept, h.changes, callS_rng h.calls, h.rn, h.rk, h.rc⟩
theorem scr_change {s w j : Nat} {M : DM} (h : ScrI s w j M) {d : ByteArray} {l : List Nm} (hl : adds l ≤ 1) (hll : l.length ≤ 2) (hr : RightL l) (hd : d.size ≤ 161) : ScrI s (w + 1) j (changeM M d l) := by
  refine ⟨h.bodies, h.size, ?_, ?_, ?_, h.calls, right_apply h.rn hr, h.rk, fun c hc => ?_⟩
  · have h1 := apply_len l M.names
    have h2 := h.names
    show (applyN M.names l).length ≤ _
    omega
  · have h2 := h.kept
    show M.kept.length + addsC (M.changes ++ [⟨d, l⟩]) ≤ _
    rw [addsC_app]
    have : addsC [⟨d, l⟩] = adds l := by simp [addsC]
    omega
  · have h2 := h.changes
    show (M.changes ++ [_]).length ≤ _
    rw [List.length_append]; simp; omega
  · rcases List.mem_append.1 (show c ∈ M.changes ++ [⟨d, l⟩] from hc) with hc | hc
    · exact h.rc c hc
    · rw [List.mem_singleton.1 hc]; exact ⟨hr, hd, hll⟩
theorem scr_body {s w j : Nat} {M : DM} (h : ScrI s w j M) {b : ByteArray} (hb : b.size ≤ s) : ScrI s w (j + 1) { M with bodies := M.bodies ++ [⟨b, ByteArray.mk #[]⟩] } :=
  ⟨by have := h.bodies; show (M.bodies ++ [_]).length ≤ _; rw [List.length_append]; simp; omega, fun B hB => by
    rcases List.mem_append.1 (show B ∈ M.bodies ++ [⟨b, ByteArray.mk #[]⟩] from hB) with hB | hB
    · exact h.size B hB
    · rw [List.mem_singleton.1 hB]; exact ⟨hb, Nat.zero_le _⟩, h.names, h.kept, h.changes, h.calls, h.rn, h.rk, h.rc⟩
theorem scr_at {s w j : Nat} {M : DM} (h : ScrI s w j M) (k : Int) : (bodyAt M k).now.size ≤ s ∧ (bodyAt M k).kept.size ≤ (bodyAt M k).now.size := by
  unfold bodyAt
  rw [List.getD_eq_getElem?_getD]
  by_cases hk : k.toNat < M.bodies.length
  · rw [List.getElem?_eq_getElem hk]; exact h.size _ (List.getElem_mem hk)
  · rw [List.getElem?_eq_none (by omega)]; exact ⟨Nat.zero_le _, Nat.zero_le _⟩
theorem scr_set {s w j : Nat} {M : DM} (h : ScrI s w j M) (k : Int) {B : Body} (hB : B.now.size ≤ s ∧ B.kept.size ≤ B.now.size) : ScrI s w j (setBody M k B) :=
  ⟨by show (M.bodies.set _ _).length ≤ _; rw [List.length_set]; exact h.bodies, fun x hx => by
    rcases List.mem_or_eq_of_mem_set (show x ∈ M.bodies.set k.toNat B from hx) with hx | rfl
    · exact h.size x hx
    · exact hB, h.names, h.kept, h.changes, h.calls, h.rn, h.rk, h.rc⟩
theorem Scr.mono {z i k : Nat} {M : DM} (h : Scr z i M) (hk : i ≤ k) : Scr z k M := ScrI.up h (Nat.mul_le_mul_left _ hk) hk hk
theorem scr_new (z : Nat) (room : Int) : Scr z 0 (newM room) :=
  ⟨Nat.le_refl _, fun B hB => absurd hB List.not_mem_nil, Nat.le_refl _, Nat.le_refl _, Nat.le_refl _, by show (-9223372036854775808 : Int) ≤ 0 ∧ (0 : Int) ≤ 9223372036854775807; omega, fun x hx => absurd hx List.not_mem_nil, fun x hx => absurd hx List.not_mem_nil, fun c hc => absurd hc List.not_mem_nil⟩
end Go.Vf
namespace Go.Proofs.YtlaoeiaaeifidaaGreat
open Go.Sw Go.Lib Go.Vf Go.Sha Go.Jr Go.RowKit
theorem own_addS {e : TypeId} {a : Option Addr} {c : Nat} {g : Grp} {L : List ByteArray} {t : ByteArray} (h : Go.Sw.Own e 1 (.slice a (L.length + 1) c) g (L.length + 1) (strs L ++ [.string t])) : Go.Sw.Own e 1 (.slice a (L ++ [t]).length c) g (L ++ [t]).length (strs (L ++ [t])) := by
  have e1 : strs (L ++ [t]) = strs L ++ [.string t] := by simp [strs]
  rw [e1, List.length_append]; exact h
theorem ok_line {s : ByteArray} (h : okB s = true) : lineB (textB s) = s ++ ByteArray.mk #[10] ∧ rightJ (textB s) = true := by
  unfold okB at h
  unfold textB
  split at h
  · simp at h
  · rename_i h1
    rw [if_neg h1]
    simp only [Bool.and_eq_true, beq_iff_eq] at h
    refine ⟨?_, h.1⟩
    have := h.2
    rw [toList_data, toList_data] at this
    exact ByteArray.ext (Array.toList_inj.1 this)
theorem ok_size {s : ByteArray} (h : okB s = true) : (lineB (textB s)).size = s.size + 1 := by
  rw [(ok_line h).1, ByteArray.size_append]; rfl
theorem cut_none1 {all : ByteArray} (h : lf all < 0) : cutL all = none := by unfold cutL; rw [if_pos h]
theorem cut_none2 {all : ByteArray} (h : ¬ lf all < 0) (hk : okB (all.extract 0 (lf all).toNat) = false) : cutL all = none := by unfold cutL; rw [if_neg h, hk]; rfl
theorem cut_some {all : ByteArray} (h : ¬ lf all < 0) (hk : okB (all.extract 0 (lf all).toNat) = true) : cutL all = some (textB (all.extract 0 (lf all).toNat), all.extract ((lf all).toNat + 1) all.size) := by unfold cutL; rw [if_neg h, hk]; rfl
structure Parsed (full : ByteArray) (ts : List ByteArray) (all : ByteArray) : Prop where
  eq : parseB full = (ts ++ (parseB all).1, (parseB all).2)
  sz : (linesB ts).size + all.size = full.size
  len : 18 * ts.length ≤ (linesB ts).size
theorem parsed0 (full : ByteArray) : Parsed full [] full := ⟨by simp, by show 0 + _ = _; omega, by show 18 * 0 ≤ _; omega⟩
theorem linesB_snoc (ts : List ByteArray) (t : ByteArray) : linesB (ts ++ [t]) = linesB ts ++ lineB t := by rw [linesB_app, linesB_one]
theorem parsed1 {full all : ByteArray} {ts : List ByteArray} (h : Parsed full ts all) (h1 : ¬ lf all < 0) (hk : okB (all.extract 0 (lf all).toNat) = true) :
    Parsed full (ts ++ [textB (all.extract 0 (lf all).toNat)]) (all.extract ((lf all).toNat + 1) all.size) := by
  have hf := lf_facts h1
  have hz := ok_size hk
  refine ⟨?_, ?_, ?_⟩
  · rw [h.eq, parseB_some (cut_some h1 hk)]; simp
  · rw [linesB_snoc, ByteArray.size_append, hz, ← h.sz]; omega
  · rw [linesB_snoc, ByteArray.size_append, List.length_append, lineB_size]; have := h.len; simp; omega
theorem parsed_end {full all : ByteArray} {ts : List ByteArray} (h : Parsed full ts all) (hc : cutL all = none) : parseB full = (ts, all) := by
  rw [h.eq, parseB_none hc]; simp
theorem size_step {ts : List ByteArray} {s : ByteArray} (h : okB s = true) : ((linesB ts).size : Int) + ((s.size : Int) + 1) = (((linesB (ts ++ [textB s])).size : Nat) : Int) := by
  rw [linesB_snoc, ByteArray.size_append, ok_size h]; omega
def OpenR (r : Int × Option JM × DM) (d : Nat) (K H : List Grp) : Value → List Grp → Prop := fun v H' =>
  match r.2.1 with
  | none => v = .tuple #[.pointer none, .int .i64 r.1] ∧ ∃ s' : DS, s'.ok r.2.2 ∧ H' = K ++ (s'.G d r.2.2 ++ H)
  | some j => ∃ (jb : Nat) (rv' : Value) (rg' : Grp) (s' : DS), v = .tuple #[pt jb, .int .i64 r.1] ∧ Go.Sw.Own 9 1 rv' rg' j.L.length (strs j.L) ∧ s'.ok r.2.2 ∧ H' = jG jb d j.dir rv' j.size j.down j.there :: rg' :: (K ++ (s'.G d r.2.2 ++ H))
theorem open_bad {M : DM} {dir : ByteArray} (h : (!rightB dir || decide (slash dir ≥ 0)) = true) : openM M dir = (2, none, M) := by unfold openM; rw [if_pos h]
theorem open_no {M : DM} {dir : ByteArray} (h : (!rightB dir || decide (slash dir ≥ 0)) = false) (he : ((readM M (pathJ dir logB)).2 != 0) = true) : openM M dir = (0, some ⟨dir, [], 0, false, false⟩, M) := by
  unfold openM; rw [h, if_neg (by decide), if_pos he]
theorem open_whole {M : DM} {dir all : ByteArray} {ts : List ByteArray} (h : (!rightB dir || decide (slash dir ≥ 0)) = false) (he : ((readM M (pathJ dir logB)).2 != 0) = false) (hp : parseB (readM M (pathJ dir logB)).1 = (ts, all)) (ha : (!(all.toList == (ByteArray.mk #[]).toList)) = false) :
    openM M dir = (0, some ⟨dir, ts, ((linesB ts).size : Int), false, true⟩, M) := by
  unfold openM; rw [h, if_neg (by decide), he, if_neg (by decide)]; simp only [hp]
  rw [if_neg (by simpa using ha)]
theorem open_err {M : DM} {dir all : ByteArray} {ts : List ByteArray} (h : (!rightB dir || decide (slash dir ≥ 0)) = false) (he : ((readM M (pathJ dir logB)).2 != 0) = false) (hp : parseB (readM M (pathJ dir logB)).1 = (ts, all)) (ha : (!(all.toList == (ByteArray.mk #[]).toList)) = true)
    (hr : ((replaceM ⟨dir, ts, ((linesB ts).size : Int), false, true⟩ M ts).1 != 0) = true) :
    openM M dir = ((replaceM ⟨dir, ts, ((linesB ts).size : Int), false, true⟩ M ts).1, none, (replaceM ⟨dir, ts, ((linesB ts).size : Int), false, true⟩ M ts).2.2) := by
  unfold openM; rw [h, if_neg (by decide), he, if_neg (by decide)]; simp only [hp]
  rw [if_pos (by simpa using ha), if_pos hr]
theorem open_ok {M : DM} {dir all : ByteArray} {ts : List ByteArray} (h : (!rightB dir || decide (slash dir ≥ 0)) = false) (he : ((readM M (pathJ dir logB)).2 != 0) = false) (hp : parseB (readM M (pathJ dir logB)).1 = (ts, all)) (ha : (!(all.toList == (ByteArray.mk #[]).toList)) = true)
    (hr : ((replaceM ⟨dir, ts, ((linesB ts).size : Int), false, true⟩ M ts).1 != 0) = false) :
    openM M dir = (0, some (replaceM ⟨dir, ts, ((linesB ts).size : Int), false, true⟩ M ts).2.1, (replaceM ⟨dir, ts, ((linesB ts).size : Int), false, true⟩ M ts).2.2) := by
  unfold openM; rw [h, if_neg (by decide), he, if_neg (by decide)]; simp only [hp]
  rw [if_pos (by simpa using ha), hr]; rfl
theorem sI_write {z w i : Nat} {M : DM} (h : ScrI z w i M) (p : ByteArray) {b : ByteArray} (hb : b.size ≤ z) : ScrI z (w + 1) (i + 1) (writeM M p b).2 := by
  have hc := scr_call h (rightB p)
  by_cases he : errM M (rightB p) = 0
  · have hr := err_right he
    by_cases hroom : (usedM M : Int) - (wasM M p : Int) + (b.size : Int) > M.room
    · rw [writeM_full he hroom]; exact ScrI.up hc (Nat.le_refl _) (by omega) (by omega)
    · rw [writeM_ok he hroom]
      exact scr_change (w := w) (scr_body hc hb) (by unfold adds; exact Nat.le_trans (List.length_filter_le _ _) (Nat.le_refl 1)) (Nat.le_of_ble_eq_true rfl) (fun x hx => by rw [List.mem_singleton.1 hx]; exact hr) (by have := dir_size p; have := right_size hr; omega)
  · rw [writeM_err he]; exact ScrI.up hc (Nat.le_refl _) (by omega) (by omega)
theorem sI_append {z w i : Nat} {M : DM} (h : ScrI z w i M) (p b : ByteArray) : ScrI (z + b.size) w i (appendM M p b).2 := by
  have hc := ScrI.up (scr_call h (rightB p)) (show z ≤ z + b.size by omega) (Nat.le_refl _) (Nat.le_refl _)
  by_cases he : errM M (rightB p) = 0
  · cases hl : lookN M.names p with
    | none => rw [appendM_no he hl]; exact hc
    | some k =>
      by_cases hroom : (usedM M : Int) + (b.size : Int) > M.room
      · rw [appendM_full he hl hroom]; exact hc
      · rw [appendM_ok he hl hroom]
        obtain ⟨s1, s2⟩ := scr_at h k
        exact scr_set hc k (by simp only [ByteArray.size_append]; omega)
  · rw [appendM_err he]; exact hc
theorem sI_rename {z w i : Nat} {M : DM} (h : ScrI z w i M) (p q : ByteArray) : ScrI z (w + 1) i (renameM M p q).2 := by
  have hc := ScrI.up (scr_call h (renR p q)) (Nat.le_refl _) (show w ≤ w + 1 by omega) (Nat.le_refl _)
  by_cases he : errM M (renR p q) = 0
  · have hr := err_right he
    have hpq : rightB p = true ∧ rightB q = true := by
      unfold renR at hr
      simp only [Bool.and_eq_true] at hr
      exact hr.1
    cases hl : lookN M.names p with
    | none => rw [renameM_no he hl]; exact hc
    | some k =>
      cases hs : p == q with
      | true => rw [renameM_same he hl hs]; exact hc
      | false =>
        rw [renameM_ok he hl hs]
        exact scr_change (w := w) (scr_call h (renR p q)) (by
          unfold adds
          rw [List.filter_cons, if_neg (by show ¬ decide ((0 : Int) ≤ -1) = true; decide)]
          exact Nat.le_trans (List.length_filter_le _ _) (Nat.le_refl 1)) (Nat.le_of_ble_eq_true rfl) (fun x hx => by
          rcases List.mem_cons.1 hx with rfl | hx
          · exact hpq.1
          · rw [List.mem_singleton.1 hx]; exact hpq.2) (by have := dir_size q; have := right_size hpq.2; omega)
  · rw [renameM_err he]; exact hc
theorem sI_sync {z w i : Nat} {M : DM} (h : ScrI z w i M) (p : ByteArray) : ScrI z w i (syncM M p).2 := by
  have hc := scr_call h (rightB p)
  by_cases he : errM M (rightB p) = 0
  · cases hl : lookN M.names p with
    | none => rw [syncM_no he hl]; exact hc
    | some k => rw [syncM_ok he hl]; exact scr_set hc k ⟨(scr_at h k).1, Nat.le_refl _⟩
  · rw [syncM_err he]; exact hc
end Go.Proofs.YtlaoeiaaeifidaaGreat
