/- What the laws of JSON's values stand on. (and what it stands on) -/
import Derived.Test.YtppgfiklmfoaeaaGreatDoorZ3
import Derived.RangeFuncNested
import Derived.RangeFuncBound
import Derived.RangeFuncLeaves
import Derived.TacticsIn
import Derived.OrdersIn
import Derived.RangeFuncCalls
import Derived.Shelf.Abstract
import Derived.Shelf.RegionOpen
import Derived.WalkKit
import Derived.OwnWalkIn
import Derived.TacticsInMore
import Derived.LoopNIn
import Derived.LoopIn
import Derived.BigRegionIn
import Derived.Deep.DeepHandedRow
import Derived.JoinedCond
namespace Go.Proofs.YtppgfiklmfoaeaaGreatDoor
open Go.Sw Go.Sha Go.Esc Go.RowKit
theorem rjson_ (s:ByteArray) (hs:s.size≤1000000) (W0:World) (H:List Grp):Tri Tryz.prog 56 #[.string s] W0 H (fun v H'=>v=.string ⟨(G6 s.data.toList).toArray⟩∧H'=H):=by
 have hrl:=runes_len s.data.toList
 rw [E0] at hrl
 refine C6 (args:=[.string s]) (n:=94) Tryz.func56 rfl rfl (Nat.le_of_ble_eq_true rfl) ?_
 refine A1 (B7 (E':=[⟨0,[],.string s⟩]) [0] [0] (k:=?_))
 refine A0 (A1 ?_)
 refine G_p [0] [0,3] (k:=A0 ?_)
 refine A1 (A1 ?_)
 refine A2 (A4 (j:=1) [0] (k:=?_))
 refine D8 Tryz.func75 (fixed_ s (by omega) _ _) ?_
 rintro _ _ ⟨iaf0,icf0,igf0,rfl,iOf0,rfl⟩
 refine B0 [0,0] [3,8,9,10] (k:=A0 ?_)
 refine B9 (I6 (EI:=(fun ξ:Nat × ByteArray=>[⟨3,[],.string ξ.2⟩,⟨8,[],.slice iaf0 ((A6 s.data.toList).length) icf0⟩,⟨9,[],.int .i64 (((A6 s.data.toList).length:Nat):Int)⟩,⟨10,[],.int .i64 ((ξ.1:Nat):Int)⟩])) (HI:=(fun ξ:Nat × ByteArray=>(igf0::H))) (Φ:=(fun ξ:Nat × ByteArray=>(ξ.1≤(A6 s.data.toList).length)∧(ξ.2.data.toList=34::((A6 s.data.toList).take ξ.1).flatMap H6))) (μ:=(fun ξ:Nat × ByteArray=>(A6 s.data.toList).length - ξ.1)) (s0:=(0,(ByteArray.mk #[34]))) [3,8,9,10] kr rfl ⟨(by omega),rfl⟩ ?_)
 rintro ⟨k,t⟩ ⟨hk,hT⟩
 dsimp only at hk hT
 have ht:t.size≤6 * (A6 s.data.toList).length+1:=by
  have h1:=flat_len jsonP_len ((A6 s.data.toList).take k)
  have h2:=congrArg List.length hT
  rw [E0,List.length_cons] at h2; rw [List.length_take] at h1; omega
 refine A1 (G_p [0] [3,8,9,10,11] (k:=?_))
 refine A0 (A1 ?_)
 refine B2 (b:=decide (((k:Nat):Int)<(((A6 s.data.toList).length:Nat):Int))) kr (fun hc2=>?_) (fun hc2=>?_)
 ·
  simp only [decide_eq_true_eq] at hc2
  have hlt:k<(A6 s.data.toList).length:=by omega
  have hel:=enc_len ((A6 s.data.toList).getD k 0)
  have hpr:=runes_isR s.data.toList _ (memI hlt)
  unfold isR at hpr
  refine A8 (A0 ?_)
  refine A1 (B9 ?_)
  refine A1 (A2 ?_)
  refine D0 (ch:=[]) (a:=iaf0) (len:=(A6 s.data.toList).length) (cap:=icf0) (kd:=.i64) (j:=((k:Nat):Int)) (e:=3) (sz:=1) (S:=(inG igf0)) (cs:=(intV (A6 s.data.toList))) (hrd:=own_rd iOf0) (hb:=(fun _=>by exact ⟨by omega,by omega,iv_ne (by omega)⟩)) (k:=I1 (ch:=[]) (a:=iaf0) (q:=k * 1) (S:=(inG igf0)) (cs:=(intV (A6 s.data.toList))) (v:=.int .i64 ((A6 s.data.toList).getD k 0)) (hrd:=own_rd iOf0) (hS:=F9 0 rfl) (hv:=(fun _=>(by rw [Nat.mul_one]; exact iv_at (ps:=(A6 s.data.toList)) (k:=k) (by omega)))) (k:=?_))
  refine B0 [0] [3,5,8,9,10] (k:=A0 ?_)
  refine B9 (A1 ?_)
  refine G_p [0,0,0] [3,5,8,9,10,19] (k:=A0 ?_)
  refine B2 (b:=((A6 s.data.toList).getD k 0)==34) kr (fun hc3=>?_) (fun hc3=>?_)
  ·
   simp only [beq_iff_eq] at hc3
   have hpe:=hc3
   have hj:H6 ((A6 s.data.toList).getD k 0)=[92,34]:=by unfold H6; rw [if_pos (by omega),hpe]; decide +kernel
   refine A2 (A4 (j:=1) [0] (k:=?_))
   refine E5 (ch:=[]) (s:=t) (u:=(ByteArray.mk #[92,34])) (hb:=(by intro _; show t.size+2≤_; omega)) (k:=B0 [0] [3,8,9,10] (k:=?_))
   refine B8 (B8 ?_)
   refine A0 (A2 ?_)
   refine A4 (j:=1) [0] (k:=D5 91 (((k:Nat):Int)+1) (by omega) (by omega) kr ?_)
   refine B0 [0] [3,8,9,10] (k:=E6 (s':=(k+1,t++(ByteArray.mk #[92,34]))) [3,8,9,10] kr rfl ⟨(by dsimp only; omega),(by dsimp only; rw [O4 hlt,← List.cons_append,← hT,hj]; exact D9 _ _)⟩ (by dsimp only; omega))
  ·
   simp only [beq_eq_false_iff_ne,ne_eq] at hc3
   refine A1 (G_p [0,0,0] [3,5,8,9,10,24] (k:=?_))
   refine A0 (B2 (b:=((A6 s.data.toList).getD k 0)==92) kr (fun hc5=>?_) (fun hc5=>?_))
   ·
    simp only [beq_iff_eq] at hc5
    have hpe:=hc5
    have hj:H6 ((A6 s.data.toList).getD k 0)=[92,92]:=by unfold H6; rw [if_pos (by omega),hpe]; decide +kernel
    refine A2 (A4 (j:=1) [0] (k:=?_))
    refine E5 (ch:=[]) (s:=t) (u:=(ByteArray.mk #[92,92])) (hb:=(by intro _; show t.size+2≤_; omega)) (k:=B0 [0] [3,8,9,10] (k:=?_))
    refine B8 (B8 ?_)
    refine A0 (A2 ?_)
    refine A4 (j:=1) [0] (k:=D5 91 (((k:Nat):Int)+1) (by omega) (by omega) kr ?_)
    refine B1 (E':=[⟨3,[],.string (t++(ByteArray.mk #[92,92]))⟩,⟨8,[],.slice iaf0 ((A6 s.data.toList).length) icf0⟩,⟨9,[],.int .i64 (((A6 s.data.toList).length:Nat):Int)⟩,⟨10,[],.int .i64 (((k:Nat):Int)+1)⟩]) [0] [3,8,9,10] (k:=E6 (s':=(k+1,t++(ByteArray.mk #[92,92]))) [3,8,9,10] kr rfl ⟨(by dsimp only; omega),(by dsimp only; rw [O4 hlt,← List.cons_append,← hT,hj]; exact D9 _ _)⟩ (by dsimp only; omega))
   ·
    simp only [beq_eq_false_iff_ne,ne_eq] at hc5
    refine A1 (G_p [0,0,0] [3,5,8,9,10,29] (k:=?_))
    refine A0 (B2 (b:=((A6 s.data.toList).getD k 0)==10) kr (fun hc7=>?_) (fun hc7=>?_))
    ·
     simp only [beq_iff_eq] at hc7
     have hj:H6 ((A6 s.data.toList).getD k 0)=[92,110]:=by unfold H6; rw [if_neg (by omega),if_pos (by omega)]
     refine A2 (A4 (j:=1) [0] (k:=?_))
     refine E5 (ch:=[]) (s:=t) (u:=(ByteArray.mk #[92,110])) (hb:=(by intro _; show t.size+2≤_; omega)) (k:=B1 (E':=[⟨3,[],.string (t++(ByteArray.mk #[92,110]))⟩,⟨8,[],.slice iaf0 ((A6 s.data.toList).length) icf0⟩,⟨9,[],.int .i64 (((A6 s.data.toList).length:Nat):Int)⟩,⟨10,[],.int .i64 ((k:Nat):Int)⟩]) [0] [3,8,9,10] (k:=?_))
     refine B8 (B8 ?_)
     refine A0 (A2 ?_)
     refine A4 (j:=1) [0] (k:=D5 91 (((k:Nat):Int)+1) (by omega) (by omega) kr ?_)
     refine B0 [0] [3,8,9,10] (k:=E6 (s':=(k+1,t++(ByteArray.mk #[92,110]))) [3,8,9,10] kr rfl ⟨(by dsimp only; omega),(by dsimp only; rw [O4 hlt,← List.cons_append,← hT,hj]; exact D9 _ _)⟩ (by dsimp only; omega))
    ·
     simp only [beq_eq_false_iff_ne,ne_eq] at hc7
     refine A1 (B7 (E':=[⟨3,[],.string t⟩,⟨5,[],.int .i64 ((A6 s.data.toList).getD k 0)⟩,⟨8,[],.slice iaf0 ((A6 s.data.toList).length) icf0⟩,⟨9,[],.int .i64 (((A6 s.data.toList).length:Nat):Int)⟩,⟨10,[],.int .i64 ((k:Nat):Int)⟩,⟨34,[],.bool (((A6 s.data.toList).getD k 0)==13)⟩]) [0,0,0] [3,5,8,9,10,34] (k:=?_))
     refine A0 (B2 (b:=((A6 s.data.toList).getD k 0)==13) kr (fun hc9=>?_) (fun hc9=>?_))
     ·
      simp only [beq_iff_eq] at hc9
      have hj:H6 ((A6 s.data.toList).getD k 0)=[92,114]:=by unfold H6; rw [if_neg (by omega),if_neg (by omega),if_pos (by omega)]
      refine A2 (A4 (j:=1) [0] (k:=?_))
      refine E5 (ch:=[]) (s:=t) (u:=(ByteArray.mk #[92,114])) (hb:=(by intro _; show t.size+2≤_; omega)) (k:=B0 [0] [3,8,9,10] (k:=?_))
      refine B8 (B8 ?_)
      refine A0 (A2 ?_)
      refine A4 (j:=1) [0] (k:=D5 91 (((k:Nat):Int)+1) (by omega) (by omega) kr ?_)
      refine B0 [0] [3,8,9,10] (k:=E6 (s':=(k+1,t++(ByteArray.mk #[92,114]))) [3,8,9,10] kr rfl ⟨(by dsimp only; omega),(by dsimp only; rw [O4 hlt,← List.cons_append,← hT,hj]; exact D9 _ _)⟩ (by dsimp only; omega))
     ·
      simp only [beq_eq_false_iff_ne,ne_eq] at hc9
      refine A1 (G_p [0,0,0] [3,5,8,9,10,39] (k:=?_))
      refine A0 (B2 (b:=((A6 s.data.toList).getD k 0)==9) kr (fun hc11=>?_) (fun hc11=>?_))
      ·
       simp only [beq_iff_eq] at hc11
       have hj:H6 ((A6 s.data.toList).getD k 0)=[92,116]:=by unfold H6; rw [if_neg (by omega),if_neg (by omega),if_neg (by omega),if_pos (by omega)]
       refine A2 (A4 (j:=1) [0] (k:=?_))
       refine E5 (ch:=[]) (s:=t) (u:=(ByteArray.mk #[92,116])) (hb:=(by intro _; show t.size+2≤_; omega)) (k:=B0 [0] [3,8,9,10] (k:=?_))
       refine B8 (B8 ?_)
       refine A0 (A2 ?_)
       refine A4 (j:=1) [0] (k:=D5 91 (((k:Nat):Int)+1) (by omega) (by omega) kr ?_)
       refine B0 [0] [3,8,9,10] (k:=E6 (s':=(k+1,t++(ByteArray.mk #[92,116]))) [3,8,9,10] kr rfl ⟨(by dsimp only; omega),(by dsimp only; rw [O4 hlt,← List.cons_append,← hT,hj]; exact D9 _ _)⟩ (by dsimp only; omega))
      ·
       simp only [beq_eq_false_iff_ne,ne_eq] at hc11
       refine A1 (G_p [0,0,0,0,0,5,0,0,0,5,0,0,0,5,0,0,0,5,0,0,0,5,0,0,0,5,0] [3,5,8,9,10,44] (k:=?_))
       refine A0 (B2 (b:=((((((decide (((A6 s.data.toList).getD k 0)<32))||(((A6 s.data.toList).getD k 0)==127))||(((A6 s.data.toList).getD k 0)==8232))||(((A6 s.data.toList).getD k 0)==8233))||(((A6 s.data.toList).getD k 0)==60))||(((A6 s.data.toList).getD k 0)==62))||(((A6 s.data.toList).getD k 0)==38)) kr (fun hc13=>?_) (fun hc13=>?_))
       ·
        simp only [Bool.or_eq_true,decide_eq_true_eq,beq_iff_eq] at hc13
        have hj:H6 ((A6 s.data.toList).getD k 0)=92::117::hex4 (Int.toNat ((A6 s.data.toList).getD k 0)):=by unfold H6; rw [if_neg (by omega),if_neg (by omega),if_neg (by omega),if_neg (by omega),if_pos (by omega)]
        have hsL:(ByteArray.mk #[48,49,50,51,52,53,54,55,56,57,97,98,99,100,101,102]).size=16:=rfl
        have hs92:(ByteArray.mk #[92,117]).size=2:=rfl
        have hz4096:=sizeL (a:=((A6 s.data.toList).getD k 0) / 4096 % 16) (b:=((A6 s.data.toList).getD k 0) / 4096 % 16+1) (by omega) (by omega) rfl
        have hz256:=sizeL (a:=((A6 s.data.toList).getD k 0) / 256 % 16) (b:=((A6 s.data.toList).getD k 0) / 256 % 16+1) (by omega) (by omega) rfl
        have hz16:=sizeL (a:=((A6 s.data.toList).getD k 0) / 16 % 16) (b:=((A6 s.data.toList).getD k 0) / 16 % 16+1) (by omega) (by omega) rfl
        have hz1:=sizeL (a:=((A6 s.data.toList).getD k 0) / 1 % 16) (b:=((A6 s.data.toList).getD k 0) / 1 % 16+1) (by omega) (by omega) rfl
        refine A1 (A2 ?_)
        refine A4 (j:=1) [0] (k:=E5 (ch:=[]) (s:=t) (u:=(ByteArray.mk #[92,117])) (hb:=(by intro _; show t.size+2≤_; omega)) (k:=?_))
        refine B0 [0] [3,5,8,9,10] (k:=A0 ?_)
        refine A1 (G_p [0] [3,5,6,8,9,10] (k:=?_))
        refine A0 (B9 ?_)
        refine G_rounds 5 (I2 ?_)
        refine A1 (A1 ?_)
        refine G_p [0,0] [3,5,6,8,9,10,74] (k:=A0 ?_)
        refine E8 kr (A8 ?_)
        refine A0 (A1 ?_)
        refine B9 (A2 ?_)
        refine C0 (E':=[⟨81,[],.int .i64 (Int.fdiv ((A6 s.data.toList).getD k 0) (2 ^ 12))⟩,⟨77,[],.string (t++(ByteArray.mk #[92,117]))⟩,⟨3,[],.string (t++(ByteArray.mk #[92,117]))⟩,⟨5,[],.int .i64 ((A6 s.data.toList).getD k 0)⟩,⟨6,[],.int .i64 12⟩,⟨8,[],.slice iaf0 ((A6 s.data.toList).length) icf0⟩,⟨9,[],.int .i64 (((A6 s.data.toList).length:Nat):Int)⟩,⟨10,[],.int .i64 ((k:Nat):Int)⟩]) (j:=5) [0,0,0,0,0] (k:=C4 (E':=[⟨81,[],.int .i64 (((A6 s.data.toList).getD k 0) / 4096)⟩,⟨77,[],.string (t++(ByteArray.mk #[92,117]))⟩,⟨3,[],.string (t++(ByteArray.mk #[92,117]))⟩,⟨5,[],.int .i64 ((A6 s.data.toList).getD k 0)⟩,⟨6,[],.int .i64 12⟩,⟨8,[],.slice iaf0 ((A6 s.data.toList).length) icf0⟩,⟨9,[],.int .i64 (((A6 s.data.toList).length:Nat):Int)⟩,⟨10,[],.int .i64 ((k:Nat):Int)⟩]) (by rw [fd12]) ?_)
        refine A4 (j:=6) [0] (k:=?_)
        have hw14:Int.tmod (((A6 s.data.toList).getD k 0) / 4096) 16=(((A6 s.data.toList).getD k 0) / 4096) % 16:=r64 (by omega)
        refine GL_w 82 hw14 kr (C0 (E':=[⟨86,[],.int .i64 (Int.fdiv ((A6 s.data.toList).getD k 0) (2 ^ 12))⟩,⟨82,[],.int .i64 ((((A6 s.data.toList).getD k 0) / 4096) % 16)⟩,⟨77,[],.string (t++(ByteArray.mk #[92,117]))⟩,⟨3,[],.string (t++(ByteArray.mk #[92,117]))⟩,⟨5,[],.int .i64 ((A6 s.data.toList).getD k 0)⟩,⟨6,[],.int .i64 12⟩,⟨8,[],.slice iaf0 ((A6 s.data.toList).length) icf0⟩,⟨9,[],.int .i64 (((A6 s.data.toList).length:Nat):Int)⟩,⟨10,[],.int .i64 ((k:Nat):Int)⟩]) (j:=10) [0,0,0,0] (k:=?_))
        refine C4 (E':=[⟨86,[],.int .i64 (((A6 s.data.toList).getD k 0) / 4096)⟩,⟨82,[],.int .i64 ((((A6 s.data.toList).getD k 0) / 4096) % 16)⟩,⟨77,[],.string (t++(ByteArray.mk #[92,117]))⟩,⟨3,[],.string (t++(ByteArray.mk #[92,117]))⟩,⟨5,[],.int .i64 ((A6 s.data.toList).getD k 0)⟩,⟨6,[],.int .i64 12⟩,⟨8,[],.slice iaf0 ((A6 s.data.toList).length) icf0⟩,⟨9,[],.int .i64 (((A6 s.data.toList).length:Nat):Int)⟩,⟨10,[],.int .i64 ((k:Nat):Int)⟩]) (by rw [fd12]) (A4 (j:=11) [0] (k:=?_))
        have hw15:Int.tmod (((A6 s.data.toList).getD k 0) / 4096) 16=(((A6 s.data.toList).getD k 0) / 4096) % 16:=r64 (by omega)
        refine GL_w 87 hw15 kr (A4 (j:=12) [0] (k:=?_))
        refine D5 88 (((((A6 s.data.toList).getD k 0) / 4096) % 16)+1) (by omega) (by omega) kr (F6 (ch:=[]) (s:=(ByteArray.mk #[48,49,50,51,52,53,54,55,56,57,97,98,99,100,101,102])) (vl:=(some (.int .i64 ((((A6 s.data.toList).getD k 0) / 4096) % 16)))) (vh:=(some (.int .i64 (((((A6 s.data.toList).getD k 0) / 4096) % 16)+1)))) (l:=(((A6 s.data.toList).getD k 0) / 4096) % 16) (h:=((((A6 s.data.toList).getD k 0) / 4096) % 16)+1) (hb:=(fun _=>by (try simp only [F3]); omega)) (k:=?_))
        refine E5 (ch:=[]) (s:=t++(ByteArray.mk #[92,117])) (u:=(ByteArray.mk #[48,49,50,51,52,53,54,55,56,57,97,98,99,100,101,102]).extract (Int.toNat ((((A6 s.data.toList).getD k 0) / 4096) % 16)) (Int.toNat (((((A6 s.data.toList).getD k 0) / 4096) % 16)+1))) (hb:=(fun _=>by (try simp only [F3]); omega)) (k:=B1 (E':=[⟨3,[],.string ((t++(ByteArray.mk #[92,117]))++((ByteArray.mk #[48,49,50,51,52,53,54,55,56,57,97,98,99,100,101,102]).extract (Int.toNat ((((A6 s.data.toList).getD k 0) / 4096) % 16)) (Int.toNat (((((A6 s.data.toList).getD k 0) / 4096) % 16)+1))))⟩,⟨5,[],.int .i64 ((A6 s.data.toList).getD k 0)⟩,⟨6,[],.int .i64 12⟩,⟨8,[],.slice iaf0 ((A6 s.data.toList).length) icf0⟩,⟨9,[],.int .i64 (((A6 s.data.toList).length:Nat):Int)⟩,⟨10,[],.int .i64 ((k:Nat):Int)⟩]) [0] [3,5,6,8,9,10] (k:=?_))
        refine B8 (A0 ?_)
        refine G_p [0,0,0] [3,5,6,8,9,10] (k:=N_rd ?_)
        refine I2 (A1 ?_)
        refine A1 (G_p [0,0] [3,5,6,8,9,10,74] (k:=?_))
        refine A0 (E8 kr ?_)
        refine A8 (A0 ?_)
        refine A1 (B9 ?_)
        refine A2 (C0 (E':=[⟨81,[],.int .i64 (Int.fdiv ((A6 s.data.toList).getD k 0) (2 ^ 8))⟩,⟨77,[],.string ((t++(ByteArray.mk #[92,117]))++((ByteArray.mk #[48,49,50,51,52,53,54,55,56,57,97,98,99,100,101,102]).extract (Int.toNat ((((A6 s.data.toList).getD k 0) / 4096) % 16)) (Int.toNat (((((A6 s.data.toList).getD k 0) / 4096) % 16)+1))))⟩,⟨3,[],.string ((t++(ByteArray.mk #[92,117]))++((ByteArray.mk #[48,49,50,51,52,53,54,55,56,57,97,98,99,100,101,102]).extract (Int.toNat ((((A6 s.data.toList).getD k 0) / 4096) % 16)) (Int.toNat (((((A6 s.data.toList).getD k 0) / 4096) % 16)+1))))⟩,⟨5,[],.int .i64 ((A6 s.data.toList).getD k 0)⟩,⟨6,[],.int .i64 8⟩,⟨8,[],.slice iaf0 ((A6 s.data.toList).length) icf0⟩,⟨9,[],.int .i64 (((A6 s.data.toList).length:Nat):Int)⟩,⟨10,[],.int .i64 ((k:Nat):Int)⟩]) (j:=5) [0,0,0,0,0] (k:=?_))
        refine C4 (E':=[⟨81,[],.int .i64 (((A6 s.data.toList).getD k 0) / 256)⟩,⟨77,[],.string ((t++(ByteArray.mk #[92,117]))++((ByteArray.mk #[48,49,50,51,52,53,54,55,56,57,97,98,99,100,101,102]).extract (Int.toNat ((((A6 s.data.toList).getD k 0) / 4096) % 16)) (Int.toNat (((((A6 s.data.toList).getD k 0) / 4096) % 16)+1))))⟩,⟨3,[],.string ((t++(ByteArray.mk #[92,117]))++((ByteArray.mk #[48,49,50,51,52,53,54,55,56,57,97,98,99,100,101,102]).extract (Int.toNat ((((A6 s.data.toList).getD k 0) / 4096) % 16)) (Int.toNat (((((A6 s.data.toList).getD k 0) / 4096) % 16)+1))))⟩,⟨5,[],.int .i64 ((A6 s.data.toList).getD k 0)⟩,⟨6,[],.int .i64 8⟩,⟨8,[],.slice iaf0 ((A6 s.data.toList).length) icf0⟩,⟨9,[],.int .i64 (((A6 s.data.toList).length:Nat):Int)⟩,⟨10,[],.int .i64 ((k:Nat):Int)⟩]) (by rw [fd8]) (A4 (j:=6) [0] (k:=?_))
        have hw17:Int.tmod (((A6 s.data.toList).getD k 0) / 256) 16=(((A6 s.data.toList).getD k 0) / 256) % 16:=r64 (by omega)
        refine GL_w 82 hw17 kr (C0 (E':=[⟨86,[],.int .i64 (Int.fdiv ((A6 s.data.toList).getD k 0) (2 ^ 8))⟩,⟨82,[],.int .i64 ((((A6 s.data.toList).getD k 0) / 256) % 16)⟩,⟨77,[],.string ((t++(ByteArray.mk #[92,117]))++((ByteArray.mk #[48,49,50,51,52,53,54,55,56,57,97,98,99,100,101,102]).extract (Int.toNat ((((A6 s.data.toList).getD k 0) / 4096) % 16)) (Int.toNat (((((A6 s.data.toList).getD k 0) / 4096) % 16)+1))))⟩,⟨3,[],.string ((t++(ByteArray.mk #[92,117]))++((ByteArray.mk #[48,49,50,51,52,53,54,55,56,57,97,98,99,100,101,102]).extract (Int.toNat ((((A6 s.data.toList).getD k 0) / 4096) % 16)) (Int.toNat (((((A6 s.data.toList).getD k 0) / 4096) % 16)+1))))⟩,⟨5,[],.int .i64 ((A6 s.data.toList).getD k 0)⟩,⟨6,[],.int .i64 8⟩,⟨8,[],.slice iaf0 ((A6 s.data.toList).length) icf0⟩,⟨9,[],.int .i64 (((A6 s.data.toList).length:Nat):Int)⟩,⟨10,[],.int .i64 ((k:Nat):Int)⟩]) (j:=10) [0,0,0,0] (k:=?_))
        refine C4 (E':=[⟨86,[],.int .i64 (((A6 s.data.toList).getD k 0) / 256)⟩,⟨82,[],.int .i64 ((((A6 s.data.toList).getD k 0) / 256) % 16)⟩,⟨77,[],.string ((t++(ByteArray.mk #[92,117]))++((ByteArray.mk #[48,49,50,51,52,53,54,55,56,57,97,98,99,100,101,102]).extract (Int.toNat ((((A6 s.data.toList).getD k 0) / 4096) % 16)) (Int.toNat (((((A6 s.data.toList).getD k 0) / 4096) % 16)+1))))⟩,⟨3,[],.string ((t++(ByteArray.mk #[92,117]))++((ByteArray.mk #[48,49,50,51,52,53,54,55,56,57,97,98,99,100,101,102]).extract (Int.toNat ((((A6 s.data.toList).getD k 0) / 4096) % 16)) (Int.toNat (((((A6 s.data.toList).getD k 0) / 4096) % 16)+1))))⟩,⟨5,[],.int .i64 ((A6 s.data.toList).getD k 0)⟩,⟨6,[],.int .i64 8⟩,⟨8,[],.slice iaf0 ((A6 s.data.toList).length) icf0⟩,⟨9,[],.int .i64 (((A6 s.data.toList).length:Nat):Int)⟩,⟨10,[],.int .i64 ((k:Nat):Int)⟩]) (by rw [fd8]) (A4 (j:=11) [0] (k:=?_))
        have hw18:Int.tmod (((A6 s.data.toList).getD k 0) / 256) 16=(((A6 s.data.toList).getD k 0) / 256) % 16:=r64 (by omega)
        refine GL_w 87 hw18 kr (A4 (j:=12) [0] (k:=?_))
        refine D5 88 (((((A6 s.data.toList).getD k 0) / 256) % 16)+1) (by omega) (by omega) kr (F6 (ch:=[]) (s:=(ByteArray.mk #[48,49,50,51,52,53,54,55,56,57,97,98,99,100,101,102])) (vl:=(some (.int .i64 ((((A6 s.data.toList).getD k 0) / 256) % 16)))) (vh:=(some (.int .i64 (((((A6 s.data.toList).getD k 0) / 256) % 16)+1)))) (l:=(((A6 s.data.toList).getD k 0) / 256) % 16) (h:=((((A6 s.data.toList).getD k 0) / 256) % 16)+1) (hb:=(fun _=>by (try simp only [F3]); omega)) (k:=?_))
        refine E5 (ch:=[]) (s:=(t++(ByteArray.mk #[92,117]))++((ByteArray.mk #[48,49,50,51,52,53,54,55,56,57,97,98,99,100,101,102]).extract (Int.toNat ((((A6 s.data.toList).getD k 0) / 4096) % 16)) (Int.toNat (((((A6 s.data.toList).getD k 0) / 4096) % 16)+1)))) (u:=(ByteArray.mk #[48,49,50,51,52,53,54,55,56,57,97,98,99,100,101,102]).extract (Int.toNat ((((A6 s.data.toList).getD k 0) / 256) % 16)) (Int.toNat (((((A6 s.data.toList).getD k 0) / 256) % 16)+1))) (hb:=(fun _=>by (try simp only [F3]); omega)) (k:=B0 [0] [3,5,6,8,9,10] (k:=?_))
        refine B8 (A0 ?_)
        refine G_p [0,0,0] [3,5,6,8,9,10] (k:=N_rd ?_)
        refine I2 (A1 ?_)
        refine A1 (G_p [0,0] [3,5,6,8,9,10,74] (k:=?_))
        refine A0 (E8 kr ?_)
        refine A8 (A0 ?_)
        refine A1 (B9 ?_)
        refine A2 (C0 (E':=[⟨81,[],.int .i64 (Int.fdiv ((A6 s.data.toList).getD k 0) (2 ^ 4))⟩,⟨77,[],.string (((t++(ByteArray.mk #[92,117]))++((ByteArray.mk #[48,49,50,51,52,53,54,55,56,57,97,98,99,100,101,102]).extract (Int.toNat ((((A6 s.data.toList).getD k 0) / 4096) % 16)) (Int.toNat (((((A6 s.data.toList).getD k 0) / 4096) % 16)+1))))++((ByteArray.mk #[48,49,50,51,52,53,54,55,56,57,97,98,99,100,101,102]).extract (Int.toNat ((((A6 s.data.toList).getD k 0) / 256) % 16)) (Int.toNat (((((A6 s.data.toList).getD k 0) / 256) % 16)+1))))⟩,⟨3,[],.string (((t++(ByteArray.mk #[92,117]))++((ByteArray.mk #[48,49,50,51,52,53,54,55,56,57,97,98,99,100,101,102]).extract (Int.toNat ((((A6 s.data.toList).getD k 0) / 4096) % 16)) (Int.toNat (((((A6 s.data.toList).getD k 0) / 4096) % 16)+1))))++((ByteArray.mk #[48,49,50,51,52,53,54,55,56,57,97,98,99,100,101,102]).extract (Int.toNat ((((A6 s.data.toList).getD k 0) / 256) % 16)) (Int.toNat (((((A6 s.data.toList).getD k 0) / 256) % 16)+1))))⟩,⟨5,[],.int .i64 ((A6 s.data.toList).getD k 0)⟩,⟨6,[],.int .i64 4⟩,⟨8,[],.slice iaf0 ((A6 s.data.toList).length) icf0⟩,⟨9,[],.int .i64 (((A6 s.data.toList).length:Nat):Int)⟩,⟨10,[],.int .i64 ((k:Nat):Int)⟩]) (j:=5) [0,0,0,0,0] (k:=?_))
        refine C4 (E':=[⟨81,[],.int .i64 (((A6 s.data.toList).getD k 0) / 16)⟩,⟨77,[],.string (((t++(ByteArray.mk #[92,117]))++((ByteArray.mk #[48,49,50,51,52,53,54,55,56,57,97,98,99,100,101,102]).extract (Int.toNat ((((A6 s.data.toList).getD k 0) / 4096) % 16)) (Int.toNat (((((A6 s.data.toList).getD k 0) / 4096) % 16)+1))))++((ByteArray.mk #[48,49,50,51,52,53,54,55,56,57,97,98,99,100,101,102]).extract (Int.toNat ((((A6 s.data.toList).getD k 0) / 256) % 16)) (Int.toNat (((((A6 s.data.toList).getD k 0) / 256) % 16)+1))))⟩,⟨3,[],.string (((t++(ByteArray.mk #[92,117]))++((ByteArray.mk #[48,49,50,51,52,53,54,55,56,57,97,98,99,100,101,102]).extract (Int.toNat ((((A6 s.data.toList).getD k 0) / 4096) % 16)) (Int.toNat (((((A6 s.data.toList).getD k 0) / 4096) % 16)+1))))++((ByteArray.mk #[48,49,50,51,52,53,54,55,56,57,97,98,99,100,101,102]).extract (Int.toNat ((((A6 s.data.toList).getD k 0) / 256) % 16)) (Int.toNat (((((A6 s.data.toList).getD k 0) / 256) % 16)+1))))⟩,⟨5,[],.int .i64 ((A6 s.data.toList).getD k 0)⟩,⟨6,[],.int .i64 4⟩,⟨8,[],.slice iaf0 ((A6 s.data.toList).length) icf0⟩,⟨9,[],.int .i64 (((A6 s.data.toList).length:Nat):Int)⟩,⟨10,[],.int .i64 ((k:Nat):Int)⟩]) (by rw [fd4]) (A4 (j:=6) [0] (k:=?_))
        have hw20:Int.tmod (((A6 s.data.toList).getD k 0) / 16) 16=(((A6 s.data.toList).getD k 0) / 16) % 16:=r64 (by omega)
        refine GL_w 82 hw20 kr (C0 (E':=[⟨86,[],.int .i64 (Int.fdiv ((A6 s.data.toList).getD k 0) (2 ^ 4))⟩,⟨82,[],.int .i64 ((((A6 s.data.toList).getD k 0) / 16) % 16)⟩,⟨77,[],.string (((t++(ByteArray.mk #[92,117]))++((ByteArray.mk #[48,49,50,51,52,53,54,55,56,57,97,98,99,100,101,102]).extract (Int.toNat ((((A6 s.data.toList).getD k 0) / 4096) % 16)) (Int.toNat (((((A6 s.data.toList).getD k 0) / 4096) % 16)+1))))++((ByteArray.mk #[48,49,50,51,52,53,54,55,56,57,97,98,99,100,101,102]).extract (Int.toNat ((((A6 s.data.toList).getD k 0) / 256) % 16)) (Int.toNat (((((A6 s.data.toList).getD k 0) / 256) % 16)+1))))⟩,⟨3,[],.string (((t++(ByteArray.mk #[92,117]))++((ByteArray.mk #[48,49,50,51,52,53,54,55,56,57,97,98,99,100,101,102]).extract (Int.toNat ((((A6 s.data.toList).getD k 0) / 4096) % 16)) (Int.toNat (((((A6 s.data.toList).getD k 0) / 4096) % 16)+1))))++((ByteArray.mk #[48,49,50,51,52,53,54,55,56,57,97,98,99,100,101,102]).extract (Int.toNat ((((A6 s.data.toList).getD k 0) / 256) % 16)) (Int.toNat (((((A6 s.data.toList).getD k 0) / 256) % 16)+1))))⟩,⟨5,[],.int .i64 ((A6 s.data.toList).getD k 0)⟩,⟨6,[],.int .i64 4⟩,⟨8,[],.slice iaf0 ((A6 s.data.toList).length) icf0⟩,⟨9,[],.int .i64 (((A6 s.data.toList).length:Nat):Int)⟩,⟨10,[],.int .i64 ((k:Nat):Int)⟩]) (j:=10) [0,0,0,0] (k:=?_))
        refine C4 (E':=[⟨86,[],.int .i64 (((A6 s.data.toList).getD k 0) / 16)⟩,⟨82,[],.int .i64 ((((A6 s.data.toList).getD k 0) / 16) % 16)⟩,⟨77,[],.string (((t++(ByteArray.mk #[92,117]))++((ByteArray.mk #[48,49,50,51,52,53,54,55,56,57,97,98,99,100,101,102]).extract (Int.toNat ((((A6 s.data.toList).getD k 0) / 4096) % 16)) (Int.toNat (((((A6 s.data.toList).getD k 0) / 4096) % 16)+1))))++((ByteArray.mk #[48,49,50,51,52,53,54,55,56,57,97,98,99,100,101,102]).extract (Int.toNat ((((A6 s.data.toList).getD k 0) / 256) % 16)) (Int.toNat (((((A6 s.data.toList).getD k 0) / 256) % 16)+1))))⟩,⟨3,[],.string (((t++(ByteArray.mk #[92,117]))++((ByteArray.mk #[48,49,50,51,52,53,54,55,56,57,97,98,99,100,101,102]).extract (Int.toNat ((((A6 s.data.toList).getD k 0) / 4096) % 16)) (Int.toNat (((((A6 s.data.toList).getD k 0) / 4096) % 16)+1))))++((ByteArray.mk #[48,49,50,51,52,53,54,55,56,57,97,98,99,100,101,102]).extract (Int.toNat ((((A6 s.data.toList).getD k 0) / 256) % 16)) (Int.toNat (((((A6 s.data.toList).getD k 0) / 256) % 16)+1))))⟩,⟨5,[],.int .i64 ((A6 s.data.toList).getD k 0)⟩,⟨6,[],.int .i64 4⟩,⟨8,[],.slice iaf0 ((A6 s.data.toList).length) icf0⟩,⟨9,[],.int .i64 (((A6 s.data.toList).length:Nat):Int)⟩,⟨10,[],.int .i64 ((k:Nat):Int)⟩]) (by rw [fd4]) (A4 (j:=11) [0] (k:=?_))
        have hw21:Int.tmod (((A6 s.data.toList).getD k 0) / 16) 16=(((A6 s.data.toList).getD k 0) / 16) % 16:=r64 (by omega)
        refine GL_w 87 hw21 kr (A4 (j:=12) [0] (k:=?_))
        refine D5 88 (((((A6 s.data.toList).getD k 0) / 16) % 16)+1) (by omega) (by omega) kr (F6 (ch:=[]) (s:=(ByteArray.mk #[48,49,50,51,52,53,54,55,56,57,97,98,99,100,101,102])) (vl:=(some (.int .i64 ((((A6 s.data.toList).getD k 0) / 16) % 16)))) (vh:=(some (.int .i64 (((((A6 s.data.toList).getD k 0) / 16) % 16)+1)))) (l:=(((A6 s.data.toList).getD k 0) / 16) % 16) (h:=((((A6 s.data.toList).getD k 0) / 16) % 16)+1) (hb:=(fun _=>by (try simp only [F3]); omega)) (k:=?_))
        refine E5 (ch:=[]) (s:=((t++(ByteArray.mk #[92,117]))++((ByteArray.mk #[48,49,50,51,52,53,54,55,56,57,97,98,99,100,101,102]).extract (Int.toNat ((((A6 s.data.toList).getD k 0) / 4096) % 16)) (Int.toNat (((((A6 s.data.toList).getD k 0) / 4096) % 16)+1))))++((ByteArray.mk #[48,49,50,51,52,53,54,55,56,57,97,98,99,100,101,102]).extract (Int.toNat ((((A6 s.data.toList).getD k 0) / 256) % 16)) (Int.toNat (((((A6 s.data.toList).getD k 0) / 256) % 16)+1)))) (u:=(ByteArray.mk #[48,49,50,51,52,53,54,55,56,57,97,98,99,100,101,102]).extract (Int.toNat ((((A6 s.data.toList).getD k 0) / 16) % 16)) (Int.toNat (((((A6 s.data.toList).getD k 0) / 16) % 16)+1))) (hb:=(fun _=>by (try simp only [F3]); omega)) (k:=B1 (E':=[⟨3,[],.string ((((t++(ByteArray.mk #[92,117]))++((ByteArray.mk #[48,49,50,51,52,53,54,55,56,57,97,98,99,100,101,102]).extract (Int.toNat ((((A6 s.data.toList).getD k 0) / 4096) % 16)) (Int.toNat (((((A6 s.data.toList).getD k 0) / 4096) % 16)+1))))++((ByteArray.mk #[48,49,50,51,52,53,54,55,56,57,97,98,99,100,101,102]).extract (Int.toNat ((((A6 s.data.toList).getD k 0) / 256) % 16)) (Int.toNat (((((A6 s.data.toList).getD k 0) / 256) % 16)+1))))++((ByteArray.mk #[48,49,50,51,52,53,54,55,56,57,97,98,99,100,101,102]).extract (Int.toNat ((((A6 s.data.toList).getD k 0) / 16) % 16)) (Int.toNat (((((A6 s.data.toList).getD k 0) / 16) % 16)+1))))⟩,⟨5,[],.int .i64 ((A6 s.data.toList).getD k 0)⟩,⟨6,[],.int .i64 4⟩,⟨8,[],.slice iaf0 ((A6 s.data.toList).length) icf0⟩,⟨9,[],.int .i64 (((A6 s.data.toList).length:Nat):Int)⟩,⟨10,[],.int .i64 ((k:Nat):Int)⟩]) [0] [3,5,6,8,9,10] (k:=?_))
        refine B8 (A0 ?_)
        refine G_p [0,0,0] [3,5,6,8,9,10] (k:=N_rd ?_)
        refine I2 (A1 ?_)
        refine A1 (G_p [0,0] [3,5,6,8,9,10,74] (k:=?_))
        refine A0 (E8 kr ?_)
        refine A8 (A0 ?_)
        refine A1 (B9 ?_)
        refine A2 (C0 (E':=[⟨81,[],.int .i64 (Int.fdiv ((A6 s.data.toList).getD k 0) (2 ^ 0))⟩,⟨77,[],.string ((((t++(ByteArray.mk #[92,117]))++((ByteArray.mk #[48,49,50,51,52,53,54,55,56,57,97,98,99,100,101,102]).extract (Int.toNat ((((A6 s.data.toList).getD k 0) / 4096) % 16)) (Int.toNat (((((A6 s.data.toList).getD k 0) / 4096) % 16)+1))))++((ByteArray.mk #[48,49,50,51,52,53,54,55,56,57,97,98,99,100,101,102]).extract (Int.toNat ((((A6 s.data.toList).getD k 0) / 256) % 16)) (Int.toNat (((((A6 s.data.toList).getD k 0) / 256) % 16)+1))))++((ByteArray.mk #[48,49,50,51,52,53,54,55,56,57,97,98,99,100,101,102]).extract (Int.toNat ((((A6 s.data.toList).getD k 0) / 16) % 16)) (Int.toNat (((((A6 s.data.toList).getD k 0) / 16) % 16)+1))))⟩,⟨3,[],.string ((((t++(ByteArray.mk #[92,117]))++((ByteArray.mk #[48,49,50,51,52,53,54,55,56,57,97,98,99,100,101,102]).extract (Int.toNat ((((A6 s.data.toList).getD k 0) / 4096) % 16)) (Int.toNat (((((A6 s.data.toList).getD k 0) / 4096) % 16)+1))))++((ByteArray.mk #[48,49,50,51,52,53,54,55,56,57,97,98,99,100,101,102]).extract (Int.toNat ((((A6 s.data.toList).getD k 0) / 256) % 16)) (Int.toNat (((((A6 s.data.toList).getD k 0) / 256) % 16)+1))))++((ByteArray.mk #[48,49,50,51,52,53,54,55,56,57,97,98,99,100,101,102]).extract (Int.toNat ((((A6 s.data.toList).getD k 0) / 16) % 16)) (Int.toNat (((((A6 s.data.toList).getD k 0) / 16) % 16)+1))))⟩,⟨5,[],.int .i64 ((A6 s.data.toList).getD k 0)⟩,⟨6,[],.int .i64 0⟩,⟨8,[],.slice iaf0 ((A6 s.data.toList).length) icf0⟩,⟨9,[],.int .i64 (((A6 s.data.toList).length:Nat):Int)⟩,⟨10,[],.int .i64 ((k:Nat):Int)⟩]) (j:=5) [0,0,0,0,0] (k:=?_))
        refine C4 (E':=[⟨81,[],.int .i64 (((A6 s.data.toList).getD k 0) / 1)⟩,⟨77,[],.string ((((t++(ByteArray.mk #[92,117]))++((ByteArray.mk #[48,49,50,51,52,53,54,55,56,57,97,98,99,100,101,102]).extract (Int.toNat ((((A6 s.data.toList).getD k 0) / 4096) % 16)) (Int.toNat (((((A6 s.data.toList).getD k 0) / 4096) % 16)+1))))++((ByteArray.mk #[48,49,50,51,52,53,54,55,56,57,97,98,99,100,101,102]).extract (Int.toNat ((((A6 s.data.toList).getD k 0) / 256) % 16)) (Int.toNat (((((A6 s.data.toList).getD k 0) / 256) % 16)+1))))++((ByteArray.mk #[48,49,50,51,52,53,54,55,56,57,97,98,99,100,101,102]).extract (Int.toNat ((((A6 s.data.toList).getD k 0) / 16) % 16)) (Int.toNat (((((A6 s.data.toList).getD k 0) / 16) % 16)+1))))⟩,⟨3,[],.string ((((t++(ByteArray.mk #[92,117]))++((ByteArray.mk #[48,49,50,51,52,53,54,55,56,57,97,98,99,100,101,102]).extract (Int.toNat ((((A6 s.data.toList).getD k 0) / 4096) % 16)) (Int.toNat (((((A6 s.data.toList).getD k 0) / 4096) % 16)+1))))++((ByteArray.mk #[48,49,50,51,52,53,54,55,56,57,97,98,99,100,101,102]).extract (Int.toNat ((((A6 s.data.toList).getD k 0) / 256) % 16)) (Int.toNat (((((A6 s.data.toList).getD k 0) / 256) % 16)+1))))++((ByteArray.mk #[48,49,50,51,52,53,54,55,56,57,97,98,99,100,101,102]).extract (Int.toNat ((((A6 s.data.toList).getD k 0) / 16) % 16)) (Int.toNat (((((A6 s.data.toList).getD k 0) / 16) % 16)+1))))⟩,⟨5,[],.int .i64 ((A6 s.data.toList).getD k 0)⟩,⟨6,[],.int .i64 0⟩,⟨8,[],.slice iaf0 ((A6 s.data.toList).length) icf0⟩,⟨9,[],.int .i64 (((A6 s.data.toList).length:Nat):Int)⟩,⟨10,[],.int .i64 ((k:Nat):Int)⟩]) (by rw [fd0]) (A4 (j:=6) [0] (k:=?_))
        have hw23:Int.tmod (((A6 s.data.toList).getD k 0) / 1) 16=(((A6 s.data.toList).getD k 0) / 1) % 16:=r64 (by omega)
        refine GL_w 82 hw23 kr (C0 (E':=[⟨86,[],.int .i64 (Int.fdiv ((A6 s.data.toList).getD k 0) (2 ^ 0))⟩,⟨82,[],.int .i64 ((((A6 s.data.toList).getD k 0) / 1) % 16)⟩,⟨77,[],.string ((((t++(ByteArray.mk #[92,117]))++((ByteArray.mk #[48,49,50,51,52,53,54,55,56,57,97,98,99,100,101,102]).extract (Int.toNat ((((A6 s.data.toList).getD k 0) / 4096) % 16)) (Int.toNat (((((A6 s.data.toList).getD k 0) / 4096) % 16)+1))))++((ByteArray.mk #[48,49,50,51,52,53,54,55,56,57,97,98,99,100,101,102]).extract (Int.toNat ((((A6 s.data.toList).getD k 0) / 256) % 16)) (Int.toNat (((((A6 s.data.toList).getD k 0) / 256) % 16)+1))))++((ByteArray.mk #[48,49,50,51,52,53,54,55,56,57,97,98,99,100,101,102]).extract (Int.toNat ((((A6 s.data.toList).getD k 0) / 16) % 16)) (Int.toNat (((((A6 s.data.toList).getD k 0) / 16) % 16)+1))))⟩,⟨3,[],.string ((((t++(ByteArray.mk #[92,117]))++((ByteArray.mk #[48,49,50,51,52,53,54,55,56,57,97,98,99,100,101,102]).extract (Int.toNat ((((A6 s.data.toList).getD k 0) / 4096) % 16)) (Int.toNat (((((A6 s.data.toList).getD k 0) / 4096) % 16)+1))))++((ByteArray.mk #[48,49,50,51,52,53,54,55,56,57,97,98,99,100,101,102]).extract (Int.toNat ((((A6 s.data.toList).getD k 0) / 256) % 16)) (Int.toNat (((((A6 s.data.toList).getD k 0) / 256) % 16)+1))))++((ByteArray.mk #[48,49,50,51,52,53,54,55,56,57,97,98,99,100,101,102]).extract (Int.toNat ((((A6 s.data.toList).getD k 0) / 16) % 16)) (Int.toNat (((((A6 s.data.toList).getD k 0) / 16) % 16)+1))))⟩,⟨5,[],.int .i64 ((A6 s.data.toList).getD k 0)⟩,⟨6,[],.int .i64 0⟩,⟨8,[],.slice iaf0 ((A6 s.data.toList).length) icf0⟩,⟨9,[],.int .i64 (((A6 s.data.toList).length:Nat):Int)⟩,⟨10,[],.int .i64 ((k:Nat):Int)⟩]) (j:=10) [0,0,0,0] (k:=?_))
        refine C4 (E':=[⟨86,[],.int .i64 (((A6 s.data.toList).getD k 0) / 1)⟩,⟨82,[],.int .i64 ((((A6 s.data.toList).getD k 0) / 1) % 16)⟩,⟨77,[],.string ((((t++(ByteArray.mk #[92,117]))++((ByteArray.mk #[48,49,50,51,52,53,54,55,56,57,97,98,99,100,101,102]).extract (Int.toNat ((((A6 s.data.toList).getD k 0) / 4096) % 16)) (Int.toNat (((((A6 s.data.toList).getD k 0) / 4096) % 16)+1))))++((ByteArray.mk #[48,49,50,51,52,53,54,55,56,57,97,98,99,100,101,102]).extract (Int.toNat ((((A6 s.data.toList).getD k 0) / 256) % 16)) (Int.toNat (((((A6 s.data.toList).getD k 0) / 256) % 16)+1))))++((ByteArray.mk #[48,49,50,51,52,53,54,55,56,57,97,98,99,100,101,102]).extract (Int.toNat ((((A6 s.data.toList).getD k 0) / 16) % 16)) (Int.toNat (((((A6 s.data.toList).getD k 0) / 16) % 16)+1))))⟩,⟨3,[],.string ((((t++(ByteArray.mk #[92,117]))++((ByteArray.mk #[48,49,50,51,52,53,54,55,56,57,97,98,99,100,101,102]).extract (Int.toNat ((((A6 s.data.toList).getD k 0) / 4096) % 16)) (Int.toNat (((((A6 s.data.toList).getD k 0) / 4096) % 16)+1))))++((ByteArray.mk #[48,49,50,51,52,53,54,55,56,57,97,98,99,100,101,102]).extract (Int.toNat ((((A6 s.data.toList).getD k 0) / 256) % 16)) (Int.toNat (((((A6 s.data.toList).getD k 0) / 256) % 16)+1))))++((ByteArray.mk #[48,49,50,51,52,53,54,55,56,57,97,98,99,100,101,102]).extract (Int.toNat ((((A6 s.data.toList).getD k 0) / 16) % 16)) (Int.toNat (((((A6 s.data.toList).getD k 0) / 16) % 16)+1))))⟩,⟨5,[],.int .i64 ((A6 s.data.toList).getD k 0)⟩,⟨6,[],.int .i64 0⟩,⟨8,[],.slice iaf0 ((A6 s.data.toList).length) icf0⟩,⟨9,[],.int .i64 (((A6 s.data.toList).length:Nat):Int)⟩,⟨10,[],.int .i64 ((k:Nat):Int)⟩]) (by rw [fd0]) (A4 (j:=11) [0] (k:=?_))
        have hw24:Int.tmod (((A6 s.data.toList).getD k 0) / 1) 16=(((A6 s.data.toList).getD k 0) / 1) % 16:=r64 (by omega)
        refine GL_w 87 hw24 kr (A4 (j:=12) [0] (k:=?_))
        refine D5 88 (((((A6 s.data.toList).getD k 0) / 1) % 16)+1) (by omega) (by omega) kr (F6 (ch:=[]) (s:=(ByteArray.mk #[48,49,50,51,52,53,54,55,56,57,97,98,99,100,101,102])) (vl:=(some (.int .i64 ((((A6 s.data.toList).getD k 0) / 1) % 16)))) (vh:=(some (.int .i64 (((((A6 s.data.toList).getD k 0) / 1) % 16)+1)))) (l:=(((A6 s.data.toList).getD k 0) / 1) % 16) (h:=((((A6 s.data.toList).getD k 0) / 1) % 16)+1) (hb:=(fun _=>by (try simp only [F3]); omega)) (k:=?_))
        refine E5 (ch:=[]) (s:=(((t++(ByteArray.mk #[92,117]))++((ByteArray.mk #[48,49,50,51,52,53,54,55,56,57,97,98,99,100,101,102]).extract (Int.toNat ((((A6 s.data.toList).getD k 0) / 4096) % 16)) (Int.toNat (((((A6 s.data.toList).getD k 0) / 4096) % 16)+1))))++((ByteArray.mk #[48,49,50,51,52,53,54,55,56,57,97,98,99,100,101,102]).extract (Int.toNat ((((A6 s.data.toList).getD k 0) / 256) % 16)) (Int.toNat (((((A6 s.data.toList).getD k 0) / 256) % 16)+1))))++((ByteArray.mk #[48,49,50,51,52,53,54,55,56,57,97,98,99,100,101,102]).extract (Int.toNat ((((A6 s.data.toList).getD k 0) / 16) % 16)) (Int.toNat (((((A6 s.data.toList).getD k 0) / 16) % 16)+1)))) (u:=(ByteArray.mk #[48,49,50,51,52,53,54,55,56,57,97,98,99,100,101,102]).extract (Int.toNat ((((A6 s.data.toList).getD k 0) / 1) % 16)) (Int.toNat (((((A6 s.data.toList).getD k 0) / 1) % 16)+1))) (hb:=(fun _=>by (try simp only [F3]); omega)) (k:=B0 [0] [3,5,6,8,9,10] (k:=?_))
        refine B8 (A0 ?_)
        refine G_p [0,0,0] [3,5,6,8,9,10] (k:=N_rd ?_)
        refine I2 (A1 ?_)
        refine A1 (G_p [0,0] [3,5,6,8,9,10,74] (k:=?_))
        refine A0 (C2 kr ?_)
        refine G3 (A9 ?_)
        refine A9 (C5 ?_)
        refine B8 (B8 ?_)
        refine A0 (A2 ?_)
        refine A4 (j:=1) [0] (k:=D5 91 (((k:Nat):Int)+1) (by omega) (by omega) kr ?_)
        refine B1 (E':=[⟨3,[],.string (((((t++(ByteArray.mk #[92,117]))++((ByteArray.mk #[48,49,50,51,52,53,54,55,56,57,97,98,99,100,101,102]).extract (Int.toNat ((((A6 s.data.toList).getD k 0) / 4096) % 16)) (Int.toNat (((((A6 s.data.toList).getD k 0) / 4096) % 16)+1))))++((ByteArray.mk #[48,49,50,51,52,53,54,55,56,57,97,98,99,100,101,102]).extract (Int.toNat ((((A6 s.data.toList).getD k 0) / 256) % 16)) (Int.toNat (((((A6 s.data.toList).getD k 0) / 256) % 16)+1))))++((ByteArray.mk #[48,49,50,51,52,53,54,55,56,57,97,98,99,100,101,102]).extract (Int.toNat ((((A6 s.data.toList).getD k 0) / 16) % 16)) (Int.toNat (((((A6 s.data.toList).getD k 0) / 16) % 16)+1))))++((ByteArray.mk #[48,49,50,51,52,53,54,55,56,57,97,98,99,100,101,102]).extract (Int.toNat ((((A6 s.data.toList).getD k 0) / 1) % 16)) (Int.toNat (((((A6 s.data.toList).getD k 0) / 1) % 16)+1))))⟩,⟨8,[],.slice iaf0 ((A6 s.data.toList).length) icf0⟩,⟨9,[],.int .i64 (((A6 s.data.toList).length:Nat):Int)⟩,⟨10,[],.int .i64 (((k:Nat):Int)+1)⟩]) [0] [3,8,9,10] (k:=E6 (s':=(k+1,((((t++(ByteArray.mk #[92,117]))++((ByteArray.mk #[48,49,50,51,52,53,54,55,56,57,97,98,99,100,101,102]).extract (Int.toNat ((((A6 s.data.toList).getD k 0) / 4096) % 16)) (Int.toNat (((((A6 s.data.toList).getD k 0) / 4096) % 16)+1))))++((ByteArray.mk #[48,49,50,51,52,53,54,55,56,57,97,98,99,100,101,102]).extract (Int.toNat ((((A6 s.data.toList).getD k 0) / 256) % 16)) (Int.toNat (((((A6 s.data.toList).getD k 0) / 256) % 16)+1))))++((ByteArray.mk #[48,49,50,51,52,53,54,55,56,57,97,98,99,100,101,102]).extract (Int.toNat ((((A6 s.data.toList).getD k 0) / 16) % 16)) (Int.toNat (((((A6 s.data.toList).getD k 0) / 16) % 16)+1))))++((ByteArray.mk #[48,49,50,51,52,53,54,55,56,57,97,98,99,100,101,102]).extract (Int.toNat ((((A6 s.data.toList).getD k 0) / 1) % 16)) (Int.toNat (((((A6 s.data.toList).getD k 0) / 1) % 16)+1))))) [3,8,9,10] kr rfl ⟨(by dsimp only; omega),(by dsimp only; rw [O4 hlt,← List.cons_append,← hT,hj]; rw [D9,D9,D9,D9,D9,extL (by omega) (by omega) rfl,extL (by omega) (by omega) rfl,extL (by omega) (by omega) rfl,extL (by omega) (by omega) rfl,hex4_doc hpr.1]; simp only [List.append_assoc]; rfl)⟩ (by dsimp only; omega))
       ·
        simp only [Bool.or_eq_false_iff,decide_eq_false_iff_not,beq_eq_false_iff_ne,ne_eq] at hc13
        have hj:H6 ((A6 s.data.toList).getD k 0)=Lib.encodeRune ((A6 s.data.toList).getD k 0):=by unfold H6; rw [if_neg (by omega),if_neg (by omega),if_neg (by omega),if_neg (by omega),if_neg (by omega)]
        refine A2 (A4 (j:=2) [0,0] (k:=?_))
        refine C9 (ch:=[]) (e:=3) (l:=[(0,.int .i64 ((A6 s.data.toList).getD k 0))]) (c:=[.int .i64 ((A6 s.data.toList).getD k 0)]) (k:=(fun b27=>?_))
        refine D8 (vs:=[.slice (some ⟨b27,0,none⟩) 1 1]) Tryz.func76 (text_ (some ⟨b27,0,none⟩) 1 ([((A6 s.data.toList).getD k 0)]) (inG [(b27,.cells #[.int .i64 ((A6 s.data.toList).getD k 0)] 3 (0,0))]) Rd.lit (fun p hp=>List.mem_singleton.1 hp ▸ runes_isR s.data.toList _ (memI hlt)) (Nat.le_of_ble_eq_true rfl) _ _ (F9 0 rfl)) ?_
        rintro _ _ ⟨rfl,rfl⟩
        refine E5 (ch:=[]) (s:=t) (u:=(bk (encL ([((A6 s.data.toList).getD k 0)])))) (hb:=(by intro _; rw [C3]; show t.size+(Lib.encodeRune _++[]).length≤_; rw [List.append_nil]; omega)) (k:=B0 [0] [3,8,9,10] (k:=?_))
        refine B8 (B8 ?_)
        refine A0 (A2 ?_)
        refine A4 (j:=1) [0] (k:=D5 91 (((k:Nat):Int)+1) (by omega) (by omega) kr ?_)
        refine B0 [0] [3,8,9,10] (k:=C1 (H':=(igf0::H)) (fun w h=>(h.erase 0)) ?_)
        refine E6 (s':=(k+1,t++(bk (encL ([((A6 s.data.toList).getD k 0)]))))) [3,8,9,10] kr rfl ⟨(by dsimp only; omega),(by dsimp only; rw [O4 hlt,← List.cons_append,← hT,hj]; rw [D9]; congr 1; exact List.append_nil _)⟩ (by dsimp only; omega)
 ·
  simp only [decide_eq_false_iff_not] at hc2
  refine G3 (A9 ?_)
  refine A9 (C5 ?_)
  refine A0 (A1 ?_)
  refine A2 (A4 (j:=1) [0] (k:=?_))
  refine E5 (ch:=[]) (s:=t) (u:=(ByteArray.mk #[34])) (hb:=(by intro _; show t.size+1≤_; omega)) (k:=B0 [0] [2] (k:=?_))
  refine A0 (B5 ?_)
  refine C1 (H':=H) (fun w h=>(h.erase 0)) (B6 [.tmp 2] [.string (t++(ByteArray.mk #[34]))] (k:=?_))
  exact ⟨congrArg Value.string (ba_eq (by rw [D9,hT,List.take_of_length_le (by omega)]; rfl)),rfl⟩
end Go.Proofs.YtppgfiklmfoaeaaGreatDoor
namespace Go.Proofs.YtppgfiklmfoaeaaGreatDoor
open Go.Sw Go.Sha Go.Esc Go.RowKit Go.Json
theorem rprint0_ (x:JV) (an:Option Addr) (cn:Nat) (al:Option Addr) (cl:Nat) (cs:List Value) (S:Nat→Obj→Prop) (_:Rd S an (E7 x.names)) (_:Rd S al cs) (_:JRdL S x.list cs) (_:Nat) (hk6:x.kind=0) (_:wtJ x≤100000)  (W0:World) (H:List Grp) (_:∀ y o,S y o→At W0 H y o):Tri Tryz.prog 24 #[.agg #[.int .i64 0,.string (bk x.text),.slice an x.names.length cn,.slice al x.list.length cl]] W0 H (fun v H'=>v=.string (bk (prP x))∧H'=H):=by
 have hxl:=H8 x
 have hcw:=K9 x
 have hxt:x.text.length<wtJ x:=by rw [M7 x]; omega
 have hbz:=C3 x.text
 refine C6 (args:=[.agg #[.int .i64 0,.string (bk x.text),.slice an x.names.length cn,.slice al x.list.length cl]]) (n:=63) Tryz.func24 rfl rfl (Nat.le_of_ble_eq_true rfl) ?_
 refine A1 (A2 ?_)
 refine G7 (ch:=[]) (v:=.agg #[.int .i64 0,.string (bk x.text),.slice an x.names.length cn,.slice al x.list.length cl]) (k:=(fun b1=>?_))
 refine B1 (E':=[⟨1,[],pt b1⟩]) [0] [1] (k:=A0 ?_)
 refine A1 (A1 ?_)
 refine A2 (A4 (j:=1) [0] (k:=?_))
 refine A5 (ch:=[]) (b:=b1) (off:=0) (v:=.int .i64 0) (hA:=At.grp 0 0 rfl rfl) (k:=B1 (E':=[⟨1,[],pt b1⟩,⟨8,[],.bool true⟩]) [0] [1,8] (k:=?_))
 refine A0 (E8 kr ?_)
 refine A1 (A2 ?_)
 refine C9 (ch:=[]) (e:=9) (l:=[(0,.string (ByteArray.mk #[110,117,108,108])),(1,.string (ByteArray.mk #[102,97,108,115,101])),(2,.string (ByteArray.mk #[116,114,117,101]))]) (c:=[.string (ByteArray.mk #[110,117,108,108]),.string (ByteArray.mk #[102,97,108,115,101]),.string (ByteArray.mk #[116,114,117,101])]) (k:=(fun b2=>?_))
 refine A4 (j:=2) [0] (k:=A5 (ch:=[]) (b:=b1) (off:=0) (v:=.int .i64 0) (hA:=At.grp 1 0 rfl rfl) (k:=?_))
 refine D0 (ch:=[]) (a:=(some ⟨b2,0,none⟩)) (len:=3) (cap:=3) (kd:=.i64) (j:=0) (e:=9) (sz:=1) (S:=(inG [(b2,.cells #[.string (ByteArray.mk #[110,117,108,108]),.string (ByteArray.mk #[102,97,108,115,101]),.string (ByteArray.mk #[116,114,117,101])] 9 (0,0))])) (cs:=[.string (ByteArray.mk #[110,117,108,108]),.string (ByteArray.mk #[102,97,108,115,101]),.string (ByteArray.mk #[116,114,117,101])]) (hrd:=Rd.lit) (hb:=(fun _=>by first | exact ⟨by omega,by omega,hrc.ne hlt⟩ | exact ⟨by omega,by omega,I4 hnl⟩ | exact ⟨by decide,by decide,List.cons_ne_nil _ _⟩)) (k:=I1 (ch:=[]) (a:=(some ⟨b2,0,none⟩)) (q:=0 * 1) (S:=(inG [(b2,.cells #[.string (ByteArray.mk #[110,117,108,108]),.string (ByteArray.mk #[102,97,108,115,101]),.string (ByteArray.mk #[116,114,117,101])] 9 (0,0))])) (cs:=[.string (ByteArray.mk #[110,117,108,108]),.string (ByteArray.mk #[102,97,108,115,101]),.string (ByteArray.mk #[116,114,117,101])]) (v:=.string (ByteArray.mk #[110,117,108,108])) (hrd:=Rd.lit) (hS:=F9 0 rfl) (hv:=(fun _=>rfl)) (k:=?_))
 refine B0 [0] [2] (k:=A0 ?_)
 refine B5 (A3 ?_)
 refine C1 (H':=H) (fun w h=>((h.erase 1).erase 0)) (B6 [.tmp 2] [.string (ByteArray.mk #[110,117,108,108])] (k:=?_))
 exact ⟨congrArg Value.string (N5 (by rw [P2 hk6 (by decide)]; rfl)),rfl⟩
theorem rprint1_ (x:JV) (an:Option Addr) (cn:Nat) (al:Option Addr) (cl:Nat) (cs:List Value) (S:Nat→Obj→Prop) (_:Rd S an (E7 x.names)) (_:Rd S al cs) (_:JRdL S x.list cs) (_:Nat) (hk6:x.kind=1) (_:wtJ x≤100000)  (W0:World) (H:List Grp) (_:∀ y o,S y o→At W0 H y o):Tri Tryz.prog 24 #[.agg #[.int .i64 1,.string (bk x.text),.slice an x.names.length cn,.slice al x.list.length cl]] W0 H (fun v H'=>v=.string (bk (prP x))∧H'=H):=by
 have hxl:=H8 x
 have hcw:=K9 x
 have hxt:x.text.length<wtJ x:=by rw [M7 x]; omega
 have hbz:=C3 x.text
 refine C6 (args:=[.agg #[.int .i64 1,.string (bk x.text),.slice an x.names.length cn,.slice al x.list.length cl]]) (n:=63) Tryz.func24 rfl rfl (Nat.le_of_ble_eq_true rfl) ?_
 refine A1 (A2 ?_)
 refine G7 (ch:=[]) (v:=.agg #[.int .i64 1,.string (bk x.text),.slice an x.names.length cn,.slice al x.list.length cl]) (k:=(fun b1=>?_))
 refine B1 (E':=[⟨1,[],pt b1⟩]) [0] [1] (k:=A0 ?_)
 refine A1 (A1 ?_)
 refine A2 (A4 (j:=1) [0] (k:=?_))
 refine A5 (ch:=[]) (b:=b1) (off:=0) (v:=.int .i64 1) (hA:=At.grp 0 0 rfl rfl) (k:=B1 (E':=[⟨1,[],pt b1⟩,⟨8,[],.bool true⟩]) [0] [1,8] (k:=?_))
 refine A0 (E8 kr ?_)
 refine A1 (A2 ?_)
 refine C9 (ch:=[]) (e:=9) (l:=[(0,.string (ByteArray.mk #[110,117,108,108])),(1,.string (ByteArray.mk #[102,97,108,115,101])),(2,.string (ByteArray.mk #[116,114,117,101]))]) (c:=[.string (ByteArray.mk #[110,117,108,108]),.string (ByteArray.mk #[102,97,108,115,101]),.string (ByteArray.mk #[116,114,117,101])]) (k:=(fun b2=>?_))
 refine A4 (j:=2) [0] (k:=A5 (ch:=[]) (b:=b1) (off:=0) (v:=.int .i64 1) (hA:=At.grp 1 0 rfl rfl) (k:=?_))
 refine D0 (ch:=[]) (a:=(some ⟨b2,0,none⟩)) (len:=3) (cap:=3) (kd:=.i64) (j:=1) (e:=9) (sz:=1) (S:=(inG [(b2,.cells #[.string (ByteArray.mk #[110,117,108,108]),.string (ByteArray.mk #[102,97,108,115,101]),.string (ByteArray.mk #[116,114,117,101])] 9 (0,0))])) (cs:=[.string (ByteArray.mk #[110,117,108,108]),.string (ByteArray.mk #[102,97,108,115,101]),.string (ByteArray.mk #[116,114,117,101])]) (hrd:=Rd.lit) (hb:=(fun _=>by first | exact ⟨by omega,by omega,hrc.ne hlt⟩ | exact ⟨by omega,by omega,I4 hnl⟩ | exact ⟨by decide,by decide,List.cons_ne_nil _ _⟩)) (k:=I1 (ch:=[]) (a:=(some ⟨b2,0,none⟩)) (q:=1 * 1) (S:=(inG [(b2,.cells #[.string (ByteArray.mk #[110,117,108,108]),.string (ByteArray.mk #[102,97,108,115,101]),.string (ByteArray.mk #[116,114,117,101])] 9 (0,0))])) (cs:=[.string (ByteArray.mk #[110,117,108,108]),.string (ByteArray.mk #[102,97,108,115,101]),.string (ByteArray.mk #[116,114,117,101])]) (v:=.string (ByteArray.mk #[102,97,108,115,101])) (hrd:=Rd.lit) (hS:=F9 0 rfl) (hv:=(fun _=>rfl)) (k:=?_))
 refine B0 [0] [2] (k:=A0 ?_)
 refine B5 (A3 ?_)
 refine C1 (H':=H) (fun w h=>((h.erase 1).erase 0)) (B6 [.tmp 2] [.string (ByteArray.mk #[102,97,108,115,101])] (k:=?_))
 exact ⟨congrArg Value.string (N5 (by rw [P2 hk6 (by decide)]; rfl)),rfl⟩
theorem rprint2_ (x:JV) (an:Option Addr) (cn:Nat) (al:Option Addr) (cl:Nat) (cs:List Value) (S:Nat→Obj→Prop) (_:Rd S an (E7 x.names)) (_:Rd S al cs) (_:JRdL S x.list cs) (_:Nat) (hk6:x.kind=2) (_:wtJ x≤100000)  (W0:World) (H:List Grp) (_:∀ y o,S y o→At W0 H y o):Tri Tryz.prog 24 #[.agg #[.int .i64 2,.string (bk x.text),.slice an x.names.length cn,.slice al x.list.length cl]] W0 H (fun v H'=>v=.string (bk (prP x))∧H'=H):=by
 have hxl:=H8 x
 have hcw:=K9 x
 have hxt:x.text.length<wtJ x:=by rw [M7 x]; omega
 have hbz:=C3 x.text
 refine C6 (args:=[.agg #[.int .i64 2,.string (bk x.text),.slice an x.names.length cn,.slice al x.list.length cl]]) (n:=63) Tryz.func24 rfl rfl (Nat.le_of_ble_eq_true rfl) ?_
 refine A1 (A2 ?_)
 refine G7 (ch:=[]) (v:=.agg #[.int .i64 2,.string (bk x.text),.slice an x.names.length cn,.slice al x.list.length cl]) (k:=(fun b1=>?_))
 refine B1 (E':=[⟨1,[],pt b1⟩]) [0] [1] (k:=A0 ?_)
 refine A1 (A1 ?_)
 refine A2 (A4 (j:=1) [0] (k:=?_))
 refine A5 (ch:=[]) (b:=b1) (off:=0) (v:=.int .i64 2) (hA:=At.grp 0 0 rfl rfl) (k:=B1 (E':=[⟨1,[],pt b1⟩,⟨8,[],.bool true⟩]) [0] [1,8] (k:=?_))
 refine A0 (E8 kr ?_)
 refine A1 (A2 ?_)
 refine C9 (ch:=[]) (e:=9) (l:=[(0,.string (ByteArray.mk #[110,117,108,108])),(1,.string (ByteArray.mk #[102,97,108,115,101])),(2,.string (ByteArray.mk #[116,114,117,101]))]) (c:=[.string (ByteArray.mk #[110,117,108,108]),.string (ByteArray.mk #[102,97,108,115,101]),.string (ByteArray.mk #[116,114,117,101])]) (k:=(fun b2=>?_))
 refine A4 (j:=2) [0] (k:=A5 (ch:=[]) (b:=b1) (off:=0) (v:=.int .i64 2) (hA:=At.grp 1 0 rfl rfl) (k:=?_))
 refine D0 (ch:=[]) (a:=(some ⟨b2,0,none⟩)) (len:=3) (cap:=3) (kd:=.i64) (j:=2) (e:=9) (sz:=1) (S:=(inG [(b2,.cells #[.string (ByteArray.mk #[110,117,108,108]),.string (ByteArray.mk #[102,97,108,115,101]),.string (ByteArray.mk #[116,114,117,101])] 9 (0,0))])) (cs:=[.string (ByteArray.mk #[110,117,108,108]),.string (ByteArray.mk #[102,97,108,115,101]),.string (ByteArray.mk #[116,114,117,101])]) (hrd:=Rd.lit) (hb:=(fun _=>by first | exact ⟨by omega,by omega,hrc.ne hlt⟩ | exact ⟨by omega,by omega,I4 hnl⟩ | exact ⟨by decide,by decide,List.cons_ne_nil _ _⟩)) (k:=I1 (ch:=[]) (a:=(some ⟨b2,0,none⟩)) (q:=2 * 1) (S:=(inG [(b2,.cells #[.string (ByteArray.mk #[110,117,108,108]),.string (ByteArray.mk #[102,97,108,115,101]),.string (ByteArray.mk #[116,114,117,101])] 9 (0,0))])) (cs:=[.string (ByteArray.mk #[110,117,108,108]),.string (ByteArray.mk #[102,97,108,115,101]),.string (ByteArray.mk #[116,114,117,101])]) (v:=.string (ByteArray.mk #[116,114,117,101])) (hrd:=Rd.lit) (hS:=F9 0 rfl) (hv:=(fun _=>rfl)) (k:=?_))
 refine B0 [0] [2] (k:=A0 ?_)
 refine B5 (A3 ?_)
 refine C1 (H':=H) (fun w h=>((h.erase 1).erase 0)) (B6 [.tmp 2] [.string (ByteArray.mk #[116,114,117,101])] (k:=?_))
 exact ⟨congrArg Value.string (N5 (by rw [P2 hk6 (by decide)]; rfl)),rfl⟩
theorem rprint3_ (x:JV) (an:Option Addr) (cn:Nat) (al:Option Addr) (cl:Nat) (cs:List Value) (S:Nat→Obj→Prop) (_:Rd S an (E7 x.names)) (_:Rd S al cs) (_:JRdL S x.list cs) (_:Nat) (hk6:x.kind=3) (_:wtJ x≤100000)  (W0:World) (H:List Grp) (_:∀ y o,S y o→At W0 H y o):Tri Tryz.prog 24 #[.agg #[.int .i64 3,.string (bk x.text),.slice an x.names.length cn,.slice al x.list.length cl]] W0 H (fun v H'=>v=.string (bk (prP x))∧H'=H):=by
 have hxl:=H8 x
 have hcw:=K9 x
 have hxt:x.text.length<wtJ x:=by rw [M7 x]; omega
 have hbz:=C3 x.text
 refine C6 (args:=[.agg #[.int .i64 3,.string (bk x.text),.slice an x.names.length cn,.slice al x.list.length cl]]) (n:=63) Tryz.func24 rfl rfl (Nat.le_of_ble_eq_true rfl) ?_
 refine A1 (A2 ?_)
 refine G7 (ch:=[]) (v:=.agg #[.int .i64 3,.string (bk x.text),.slice an x.names.length cn,.slice al x.list.length cl]) (k:=(fun b1=>?_))
 refine B1 (E':=[⟨1,[],pt b1⟩]) [0] [1] (k:=A0 ?_)
 refine A1 (A1 ?_)
 refine A2 (A4 (j:=1) [0] (k:=?_))
 refine A5 (ch:=[]) (b:=b1) (off:=0) (v:=.int .i64 3) (hA:=At.grp 0 0 rfl rfl) (k:=B1 (E':=[⟨1,[],pt b1⟩,⟨8,[],.bool false⟩]) [0] [1,8] (k:=?_))
 refine A0 (C2 kr ?_)
 refine A8 (A0 ?_)
 refine A1 (A1 ?_)
 refine A2 (A4 (j:=1) [0] (k:=?_))
 refine A5 (ch:=[]) (b:=b1) (off:=0) (v:=.int .i64 3) (hA:=At.grp 0 0 rfl rfl) (k:=B1 (E':=[⟨1,[],pt b1⟩,⟨16,[],.bool true⟩]) [0] [1,16] (k:=?_))
 refine A0 (E8 kr ?_)
 refine A1 (A2 ?_)
 refine A4 (j:=1) [0] (k:=A5 (ch:=[]) (b:=b1) (off:=1) (v:=.string (bk x.text)) (hA:=At.grp 0 0 rfl rfl) (k:=?_))
 refine B1 (E':=[⟨2,[],.string (bk x.text)⟩]) [0] [2] (k:=A0 ?_)
 refine B5 (A3 ?_)
 refine C1 (H':=H) (fun w h=>(h.erase 0)) (B6 [.tmp 2] [.string (bk x.text)] (k:=?_))
 exact ⟨congrArg Value.string (N5 (by rw [P2 hk6 (by decide)]; rfl)),rfl⟩
theorem rprint4_ (x:JV) (an:Option Addr) (cn:Nat) (al:Option Addr) (cl:Nat) (cs:List Value) (S:Nat→Obj→Prop) (_:Rd S an (E7 x.names)) (_:Rd S al cs) (_:JRdL S x.list cs) (_:Nat) (hk6:x.kind=4) (hw:wtJ x≤100000)  (W0:World) (H:List Grp) (_:∀ y o,S y o→At W0 H y o):Tri Tryz.prog 24 #[.agg #[.int .i64 4,.string (bk x.text),.slice an x.names.length cn,.slice al x.list.length cl]] W0 H (fun v H'=>v=.string (bk (prP x))∧H'=H):=by
 have hxl:=H8 x
 have hcw:=K9 x
 have hxt:x.text.length<wtJ x:=by rw [M7 x]; omega
 have hbz:=C3 x.text
 refine C6 (args:=[.agg #[.int .i64 4,.string (bk x.text),.slice an x.names.length cn,.slice al x.list.length cl]]) (n:=63) Tryz.func24 rfl rfl (Nat.le_of_ble_eq_true rfl) ?_
 refine A1 (A2 ?_)
 refine G7 (ch:=[]) (v:=.agg #[.int .i64 4,.string (bk x.text),.slice an x.names.length cn,.slice al x.list.length cl]) (k:=(fun b1=>?_))
 refine B1 (E':=[⟨1,[],pt b1⟩]) [0] [1] (k:=A0 ?_)
 refine A1 (A1 ?_)
 refine A2 (A4 (j:=1) [0] (k:=?_))
 refine A5 (ch:=[]) (b:=b1) (off:=0) (v:=.int .i64 4) (hA:=At.grp 0 0 rfl rfl) (k:=B1 (E':=[⟨1,[],pt b1⟩,⟨8,[],.bool false⟩]) [0] [1,8] (k:=?_))
 refine A0 (C2 kr ?_)
 refine A8 (A0 ?_)
 refine A1 (A1 ?_)
 refine A2 (A4 (j:=1) [0] (k:=?_))
 refine A5 (ch:=[]) (b:=b1) (off:=0) (v:=.int .i64 4) (hA:=At.grp 0 0 rfl rfl) (k:=B1 (E':=[⟨1,[],pt b1⟩,⟨16,[],.bool false⟩]) [0] [1,16] (k:=?_))
 refine A0 (C2 kr ?_)
 refine A8 (A0 ?_)
 refine A1 (A1 ?_)
 refine A2 (A4 (j:=1) [0] (k:=?_))
 refine A5 (ch:=[]) (b:=b1) (off:=0) (v:=.int .i64 4) (hA:=At.grp 0 0 rfl rfl) (k:=B1 (E':=[⟨1,[],pt b1⟩,⟨21,[],.bool true⟩]) [0] [1,21] (k:=?_))
 refine A0 (E8 kr ?_)
 refine A1 (A2 ?_)
 refine A4 (j:=1) [0] (k:=A5 (ch:=[]) (b:=b1) (off:=1) (v:=.string (bk x.text)) (hA:=At.grp 0 0 rfl rfl) (k:=?_))
 refine H4 Tryz.func56 (rjson_ (bk x.text) (by omega) _ _) (B1 (E':=[⟨2,[],.string (bk (G6 x.text))⟩]) [0] [2] (k:=?_))
 refine A0 (B5 ?_)
 refine A3 (C1 (H':=H) (fun w h=>(h.erase 0)) ?_)
 refine B6 [.tmp 2] [.string (bk (G6 x.text))] (k:=?_)
 exact ⟨congrArg Value.string (N5 (by rw [P2 hk6 (by decide)]; rfl)),rfl⟩
theorem rprint5_ (x:JV) (an:Option Addr) (cn:Nat) (al:Option Addr) (cl:Nat) (cs:List Value) (S:Nat→Obj→Prop) (_:Rd S an (E7 x.names)) (hrl:Rd S al cs) (hrc:JRdL S x.list cs) (m:Nat) (hk6:x.kind=5) (hrt:rtL m x.list=true) (hno:false=true→x.names.length=x.list.length) (hw:wtJ x≤100000) (hrec:∀ (y:JV),szJ y<szJ x→wtJ y≤100000→∀ (m:Nat),rtP m y=true→∀ (an:Option Addr) (cn:Nat) (al:Option Addr) (cl:Nat) (cs:List Value),Rd S an (E7 y.names)→Rd S al cs→JRdL S y.list cs→∀ (W0:World) (H:List Grp),(∀ z o,S z o→At W0 H z o)→Tri Tryz.prog 24 #[.agg (jvC y an cn al cl).toArray] W0 H (fun v H'=>v=.string (bk (prP y))∧H'=H)) (W0:World) (H:List Grp) (hS:∀ y o,S y o→At W0 H y o):Tri Tryz.prog 24 #[.agg #[.int .i64 5,.string (bk x.text),.slice an x.names.length cn,.slice al x.list.length cl]] W0 H (fun v H'=>v=.string (bk (prP x))∧H'=H):=by
 have hxl:=H8 x
 have hcw:=K9 x
 have hxt:x.text.length<wtJ x:=by rw [M7 x]; omega
 have hbz:=C3 x.text
 have hwx:=M7 x
 refine C6 (args:=[.agg #[.int .i64 5,.string (bk x.text),.slice an x.names.length cn,.slice al x.list.length cl]]) (n:=63) Tryz.func24 rfl rfl (Nat.le_of_ble_eq_true rfl) ?_
 refine A1 (A2 ?_)
 refine G7 (ch:=[]) (v:=.agg #[.int .i64 5,.string (bk x.text),.slice an x.names.length cn,.slice al x.list.length cl]) (k:=(fun b1=>?_))
 refine B1 (E':=[⟨1,[],pt b1⟩]) [0] [1] (k:=A0 ?_)
 refine A1 (A1 ?_)
 refine A2 (A4 (j:=1) [0] (k:=?_))
 refine A5 (ch:=[]) (b:=b1) (off:=0) (v:=.int .i64 5) (hA:=At.grp 0 0 rfl rfl) (k:=B1 (E':=[⟨1,[],pt b1⟩,⟨8,[],.bool false⟩]) [0] [1,8] (k:=?_))
 refine A0 (C2 kr ?_)
 refine A8 (A0 ?_)
 refine A1 (A1 ?_)
 refine A2 (A4 (j:=1) [0] (k:=?_))
 refine A5 (ch:=[]) (b:=b1) (off:=0) (v:=.int .i64 5) (hA:=At.grp 0 0 rfl rfl) (k:=B1 (E':=[⟨1,[],pt b1⟩,⟨16,[],.bool false⟩]) [0] [1,16] (k:=?_))
 refine A0 (C2 kr ?_)
 refine A8 (A0 ?_)
 refine A1 (A1 ?_)
 refine A2 (A4 (j:=1) [0] (k:=?_))
 refine A5 (ch:=[]) (b:=b1) (off:=0) (v:=.int .i64 5) (hA:=At.grp 0 0 rfl rfl) (k:=B1 (E':=[⟨1,[],pt b1⟩,⟨21,[],.bool false⟩]) [0] [1,21] (k:=?_))
 refine A0 (C2 kr ?_)
 refine A8 (A0 ?_)
 refine A1 (G_p [0] [1,3] (k:=?_))
 refine A0 (A1 ?_)
 refine A1 (A2 ?_)
 refine A4 (j:=1) [0] (k:=A5 (ch:=[]) (b:=b1) (off:=3) (v:=.slice al x.list.length cl) (hA:=At.grp 0 0 rfl rfl) (k:=?_))
 refine B0 [0,0] [1,3,26,27,28] (k:=A0 ?_)
 refine B9 (I6 (EI:=(fun ξ:Nat × ByteArray=>[⟨1,[],pt b1⟩,⟨3,[],.string ξ.2⟩,⟨26,[],.slice al x.list.length cl⟩,⟨27,[],.int .i64 ((x.list.length:Nat):Int)⟩,⟨28,[],.int .i64 ((ξ.1:Nat):Int)⟩])) (HI:=(fun ξ:Nat × ByteArray=>([(b1,.cells #[.int .i64 5,.string (bk x.text),.slice an x.names.length cn,.slice al x.list.length cl] 28 (0,0))]::H))) (Φ:=(fun ξ:Nat × ByteArray=>(ξ.1≤x.list.length)∧(ξ.2.data.toList=prL false true (x.names.take ξ.1) (x.list.take ξ.1)))) (μ:=(fun ξ:Nat × ByteArray=>x.list.length - ξ.1)) (s0:=(0,(ByteArray.mk #[]))) [1,3,26,27,28] kr rfl ⟨(Nat.zero_le _),(by rw [List.take_zero,List.take_zero,K8])⟩ ?_)
 rintro ⟨k,t⟩ ⟨hk,hT⟩
 try dsimp only at hk hT
 have hwx:=M7 x
 have hts:t.size≤10 * (wtN (x.names.take k)+wtL (x.list.take k)):=by
  have h1:=congrArg List.length hT
  have h2:=prL_len false true (x.names.take k) (x.list.take k)
  rw [E0] at h1
  omega
 refine A1 (G_p [0] [1,3,26,27,28,29] (k:=?_))
 refine A0 (A1 ?_)
 refine B2 (b:=decide (((k:Nat):Int)<((x.list.length:Nat):Int))) kr (fun hc2=>?_) (fun hc2=>?_)
 ·
  simp only [decide_eq_true_eq] at hc2
  have hlt:k<x.list.length:=by omega
  obtain ⟨y,yan,ycn,yal,ycl,ycs,hyx,hye,hyn,hyl,hyc⟩:=hrc.get hlt
  have hysz:szJ y<szJ x:=by rw [hyx]; exact szJ_lt hlt
  have hyr:rtP m y=true:=by rw [hyx]; exact rtL_get hrt hlt
  have hyw:wtJ y<wtJ x:=by rw [hyx]; exact wt_sub hlt
  have hpl:=pr_len y
  have hwl:=wtL_step hlt
  rw [← hyx] at hwl
  have hwn:=N6 x.names k
  refine A8 (A0 ?_)
  refine A1 (B9 ?_)
  refine A1 (A2 ?_)
  refine A4 (j:=1) [0] (k:=D0 (ch:=[]) (a:=al) (len:=x.list.length) (cap:=cl) (kd:=.i64) (j:=((k:Nat):Int)) (e:=28) (sz:=4) (S:=S) (cs:=cs) (hrd:=hrl) (hb:=(fun _=>by first | exact ⟨by omega,by omega,hrc.ne hlt⟩ | exact ⟨by omega,by omega,I4 hnl⟩ | exact ⟨by decide,by decide,List.cons_ne_nil _ _⟩)) (k:=?_))
  refine I7 (ch:=[]) (a:=al) (q:=k * 4) (S:=S) (cs:=cs) (l:=[.int .i64 y.kind,.string (bk y.text),.slice yan y.names.length ycn,.slice yal y.list.length ycl]) (hrd:=hrl) (hS:=(fun y o h=>(At.cons (hS y o h)))) (hl:=List.cons_ne_nil _ _) (hv:=(fun _=>(elt4 hye))) (k:=F5 (ch:=[]) (z:=.agg #[.int .i64 0,.string (ByteArray.mk #[]),.slice none 0 0,.slice none 0 0]) (k:=(fun b3=>?_)))
  refine A4 (j:=5) [0] (k:=E9 (ch:=[]) (b:=b3) (off:=0) (v:=.agg #[.int .i64 y.kind,.string (bk y.text),.slice yan y.names.length ycn,.slice yal y.list.length ycl]) (j:=0) ([(b3,.cells #[.int .i64 y.kind,.string (bk y.text),.slice yan y.names.length ycn,.slice yal y.list.length ycl] 28 (0,0))]::[(b1,.cells #[.int .i64 5,.string (bk x.text),.slice an x.names.length cn,.slice al x.list.length cl] 28 (0,0))]::H) (hoff:=Nat.le_of_ble_eq_true rfl) (hfz:=(fun _ _=>E3)) (k:=?_))
  refine B0 [] [1,3,4,5,26,27,28] (k:=A0 ?_)
  refine A1 (A1 ?_)
  refine G_p [0,0] [1,3,4,5,26,27,28,34] (k:=A0 ?_)
  refine B2 (b:=decide (((k:Nat):Int) > 0)) kr (fun hc4=>?_) (fun hc4=>?_)
  ·
   simp only [decide_eq_true_eq,gt_iff_lt] at hc4
   have hk0:¬ k=0:=by omega
   refine A2 (A4 (j:=1) [0] (k:=?_))
   refine E5 (ch:=[]) (s:=t) (u:=(ByteArray.mk #[44])) (hb:=(fun _=>by (try simp only [C3,List.length_cons,List.length_nil]); omega)) (k:=B0 [0] [1,3,4,5,26,27,28] (k:=?_))
   refine A0 (A1 ?_)
   refine A1 (A2 ?_)
   refine A4 (j:=1) [0] (k:=A5 (ch:=[]) (b:=b1) (off:=0) (v:=.int .i64 5) (hA:=At.grp 1 0 rfl rfl) (k:=?_))
   refine B0 [0] [1,3,4,5,26,27,28,39] (k:=A0 ?_)
   refine C2 kr (A8 ?_)
   refine A0 (A2 ?_)
   refine A4 (j:=1) [0] (k:=D3 (ch:=[]) (b:=b3) (off:=0) (l:=[.int .i64 y.kind,.string (bk y.text),.slice yan y.names.length ycn,.slice yal y.list.length ycl]) (hA:=At.grp 0 0 rfl rfl) (k:=?_))
   refine H4 (vs:=[.agg #[.int .i64 y.kind,.string (bk y.text),.slice yan y.names.length ycn,.slice yal y.list.length ycl]]) Tryz.func24 (hrec y hysz (by omega) m hyr yan ycn yal ycl ycs hyn hyl hyc _ _ (fun y o h=>At.cons (At.cons (hS y o h)))) (E5 (ch:=[]) (s:=t++(ByteArray.mk #[44])) (u:=(bk (prP y))) (hb:=(fun _=>by (try simp only [ByteArray.size_append,C3,List.length_cons,List.length_nil]); omega)) (k:=?_))
   refine B1 (E':=[⟨1,[],pt b1⟩,⟨3,[],.string ((t++(ByteArray.mk #[44]))++(bk (prP y)))⟩,⟨26,[],.slice al x.list.length cl⟩,⟨27,[],.int .i64 ((x.list.length:Nat):Int)⟩,⟨28,[],.int .i64 ((k:Nat):Int)⟩]) [0] [1,3,26,27,28] (k:=B8 ?_)
   refine A0 ?_
   have hw5:IntKind.wrap .i64 (((k:Nat):Int)+1)=((k:Nat):Int)+1:=w64 (by omega) (by omega)
   refine A2 (C0 (E':=[⟨53,[],.int .i64 (((k:Nat):Int)+1)⟩,⟨1,[],pt b1⟩,⟨3,[],.string ((t++(ByteArray.mk #[44]))++(bk (prP y)))⟩,⟨26,[],.slice al x.list.length cl⟩,⟨27,[],.int .i64 ((x.list.length:Nat):Int)⟩,⟨28,[],.int .i64 ((k:Nat):Int)⟩]) [0] (Eq.trans (b:=some [⟨53,[],.int .i64 (IntKind.wrap .i64 (((k:Nat):Int)+1))⟩,⟨1,[],pt b1⟩,⟨3,[],.string ((t++(ByteArray.mk #[44]))++(bk (prP y)))⟩,⟨26,[],.slice al x.list.length cl⟩,⟨27,[],.int .i64 ((x.list.length:Nat):Int)⟩,⟨28,[],.int .i64 ((k:Nat):Int)⟩]) kr (by simp only [hw5])) (j:=1) rfl ?_)
   refine C4 (E':=[⟨53,[],.int .i64 ((k+1:Nat):Int)⟩,⟨1,[],pt b1⟩,⟨3,[],.string ((t++(ByteArray.mk #[44]))++(bk (prP y)))⟩,⟨26,[],.slice al x.list.length cl⟩,⟨27,[],.int .i64 ((x.list.length:Nat):Int)⟩,⟨28,[],.int .i64 ((k:Nat):Int)⟩]) (by rw [show ((k:Nat):Int)+1=((k+1:Nat):Int) by omega]) (B0 [0] [1,3,26,27,28] (k:=?_))
   refine C1 (H':=([(b1,.cells #[.int .i64 5,.string (bk x.text),.slice an x.names.length cn,.slice al x.list.length cl] 28 (0,0))]::H)) (fun w h=>(h.erase 0)) (E6 (s':=((k+1),(t++(ByteArray.mk #[44]))++(bk (prP y)))) [1,3,26,27,28] kr rfl ⟨(by (try dsimp only); omega),(by (try dsimp only); rw [prL_step false hlt hno,← hyx,← hT]; (first | rw [if_pos hk0] | rw [if_neg hk0]); (try (simp only [D9,List.append_assoc,if_false,Bool.false_eq_true,List.nil_append] <;> (try rfl))))⟩ (by (try dsimp only); omega))
  ·
   simp only [decide_eq_false_iff_not,gt_iff_lt] at hc4
   have hk0:k=0:=by omega
   refine A8 (A0 ?_)
   refine A1 (A1 ?_)
   refine A2 (A4 (j:=1) [0] (k:=?_))
   refine A5 (ch:=[]) (b:=b1) (off:=0) (v:=.int .i64 5) (hA:=At.grp 1 0 rfl rfl) (k:=B0 [0] [1,3,4,5,26,27,28,39] (k:=?_))
   refine A0 (C2 kr ?_)
   refine A8 (A0 ?_)
   refine A2 (A4 (j:=1) [0] (k:=?_))
   refine D3 (ch:=[]) (b:=b3) (off:=0) (l:=[.int .i64 y.kind,.string (bk y.text),.slice yan y.names.length ycn,.slice yal y.list.length ycl]) (hA:=At.grp 0 0 rfl rfl) (k:=H4 (vs:=[.agg #[.int .i64 y.kind,.string (bk y.text),.slice yan y.names.length ycn,.slice yal y.list.length ycl]]) Tryz.func24 (hrec y hysz (by omega) m hyr yan ycn yal ycl ycs hyn hyl hyc _ _ (fun y o h=>At.cons (At.cons (hS y o h)))) ?_)
   refine E5 (ch:=[]) (s:=t) (u:=(bk (prP y))) (hb:=(fun _=>by (try simp only [C3]); omega)) (k:=B0 [0] [1,3,26,27,28] (k:=?_))
   refine B8 (A0 ?_)
   have hw6:IntKind.wrap .i64 (((k:Nat):Int)+1)=((k:Nat):Int)+1:=w64 (by omega) (by omega)
   refine A2 (C0 (E':=[⟨53,[],.int .i64 (((k:Nat):Int)+1)⟩,⟨1,[],pt b1⟩,⟨3,[],.string (t++(bk (prP y)))⟩,⟨26,[],.slice al x.list.length cl⟩,⟨27,[],.int .i64 ((x.list.length:Nat):Int)⟩,⟨28,[],.int .i64 ((k:Nat):Int)⟩]) [0] (Eq.trans (b:=some [⟨53,[],.int .i64 (IntKind.wrap .i64 (((k:Nat):Int)+1))⟩,⟨1,[],pt b1⟩,⟨3,[],.string (t++(bk (prP y)))⟩,⟨26,[],.slice al x.list.length cl⟩,⟨27,[],.int .i64 ((x.list.length:Nat):Int)⟩,⟨28,[],.int .i64 ((k:Nat):Int)⟩]) kr (by simp only [hw6])) (j:=1) rfl ?_)
   refine C4 (E':=[⟨53,[],.int .i64 ((k+1:Nat):Int)⟩,⟨1,[],pt b1⟩,⟨3,[],.string (t++(bk (prP y)))⟩,⟨26,[],.slice al x.list.length cl⟩,⟨27,[],.int .i64 ((x.list.length:Nat):Int)⟩,⟨28,[],.int .i64 ((k:Nat):Int)⟩]) (by rw [show ((k:Nat):Int)+1=((k+1:Nat):Int) by omega]) (B1 (E':=[⟨1,[],pt b1⟩,⟨3,[],.string (t++(bk (prP y)))⟩,⟨26,[],.slice al x.list.length cl⟩,⟨27,[],.int .i64 ((x.list.length:Nat):Int)⟩,⟨28,[],.int .i64 ((k+1:Nat):Int)⟩]) [0] [1,3,26,27,28] (k:=?_))
   refine C1 (H':=([(b1,.cells #[.int .i64 5,.string (bk x.text),.slice an x.names.length cn,.slice al x.list.length cl] 28 (0,0))]::H)) (fun w h=>(h.erase 0)) (E6 (s':=((k+1),t++(bk (prP y)))) [1,3,26,27,28] kr rfl ⟨(by (try dsimp only); omega),(by (try dsimp only); rw [prL_step false hlt hno,← hyx,← hT]; (first | rw [if_pos hk0] | rw [if_neg hk0]); (try (simp only [D9,if_false,Bool.false_eq_true,List.nil_append] <;> (try rfl))))⟩ (by (try dsimp only); omega))
 ·
  simp only [decide_eq_false_iff_not] at hc2
  have hwl:=wtL_take x.list k
  have hwn:=N6 x.names k
  have ha1:x.list.take k=x.list:=List.take_of_length_le (by omega)
  refine G3 (A9 ?_)
  refine A9 (C5 ?_)
  refine A0 (A1 ?_)
  refine A1 (A2 ?_)
  refine A4 (j:=1) [0] (k:=A5 (ch:=[]) (b:=b1) (off:=0) (v:=.int .i64 5) (hA:=At.grp 0 0 rfl rfl) (k:=?_))
  refine B0 [0] [3,56] (k:=A0 ?_)
  refine E8 kr (A1 ?_)
  refine A2 (A4 (j:=1) [0] (k:=?_))
  refine E5 (ch:=[]) (s:=(ByteArray.mk #[91])) (u:=t) (hb:=(fun _=>by (try simp only [C3,List.length_cons,List.length_nil]); omega)) (k:=E5 (ch:=[]) (s:=(ByteArray.mk #[91])++t) (u:=(ByteArray.mk #[93])) (hb:=(fun _=>by (try simp only [ByteArray.size_append,C3,List.length_cons,List.length_nil]); omega)) (k:=?_))
  refine B0 [0] [2] (k:=A0 ?_)
  refine B5 (A3 ?_)
  refine C1 (H':=H) (fun w h=>(h.erase 0)) (B6 [.tmp 2] [.string (((ByteArray.mk #[91])++t)++(ByteArray.mk #[93]))] (k:=?_))
  exact ⟨congrArg Value.string (N5 (by rw [D9,D9,hT,ha1,prL_any,M0,pr_many false hk6]; rw [prL_any true x.names x.list]; rfl)),rfl⟩
theorem rprint6_ (x:JV) (an:Option Addr) (cn:Nat) (al:Option Addr) (cl:Nat) (cs:List Value) (S:Nat→Obj→Prop) (hrn:Rd S an (E7 x.names)) (hrl:Rd S al cs) (hrc:JRdL S x.list cs) (m:Nat) (hk6:x.kind=6) (hrt:rtL m x.list=true) (hno:true=true→x.names.length=x.list.length) (hw:wtJ x≤100000) (hrec:∀ (y:JV),szJ y<szJ x→wtJ y≤100000→∀ (m:Nat),rtP m y=true→∀ (an:Option Addr) (cn:Nat) (al:Option Addr) (cl:Nat) (cs:List Value),Rd S an (E7 y.names)→Rd S al cs→JRdL S y.list cs→∀ (W0:World) (H:List Grp),(∀ z o,S z o→At W0 H z o)→Tri Tryz.prog 24 #[.agg (jvC y an cn al cl).toArray] W0 H (fun v H'=>v=.string (bk (prP y))∧H'=H)) (W0:World) (H:List Grp) (hS:∀ y o,S y o→At W0 H y o):Tri Tryz.prog 24 #[.agg #[.int .i64 6,.string (bk x.text),.slice an x.names.length cn,.slice al x.list.length cl]] W0 H (fun v H'=>v=.string (bk (prP x))∧H'=H):=by
 have hxl:=H8 x
 have hcw:=K9 x
 have hxt:x.text.length<wtJ x:=by rw [M7 x]; omega
 have hbz:=C3 x.text
 have hwx:=M7 x
 refine C6 (args:=[.agg #[.int .i64 6,.string (bk x.text),.slice an x.names.length cn,.slice al x.list.length cl]]) (n:=63) Tryz.func24 rfl rfl (Nat.le_of_ble_eq_true rfl) ?_
 refine A1 (A2 ?_)
 refine G7 (ch:=[]) (v:=.agg #[.int .i64 6,.string (bk x.text),.slice an x.names.length cn,.slice al x.list.length cl]) (k:=(fun b1=>?_))
 refine B1 (E':=[⟨1,[],pt b1⟩]) [0] [1] (k:=A0 ?_)
 refine A1 (A1 ?_)
 refine A2 (A4 (j:=1) [0] (k:=?_))
 refine A5 (ch:=[]) (b:=b1) (off:=0) (v:=.int .i64 6) (hA:=At.grp 0 0 rfl rfl) (k:=B1 (E':=[⟨1,[],pt b1⟩,⟨8,[],.bool false⟩]) [0] [1,8] (k:=?_))
 refine A0 (C2 kr ?_)
 refine A8 (A0 ?_)
 refine A1 (A1 ?_)
 refine A2 (A4 (j:=1) [0] (k:=?_))
 refine A5 (ch:=[]) (b:=b1) (off:=0) (v:=.int .i64 6) (hA:=At.grp 0 0 rfl rfl) (k:=B1 (E':=[⟨1,[],pt b1⟩,⟨16,[],.bool false⟩]) [0] [1,16] (k:=?_))
 refine A0 (C2 kr ?_)
 refine A8 (A0 ?_)
 refine A1 (A1 ?_)
 refine A2 (A4 (j:=1) [0] (k:=?_))
 refine A5 (ch:=[]) (b:=b1) (off:=0) (v:=.int .i64 6) (hA:=At.grp 0 0 rfl rfl) (k:=B1 (E':=[⟨1,[],pt b1⟩,⟨21,[],.bool false⟩]) [0] [1,21] (k:=?_))
 refine A0 (C2 kr ?_)
 refine A8 (A0 ?_)
 refine A1 (G_p [0] [1,3] (k:=?_))
 refine A0 (A1 ?_)
 refine A1 (A2 ?_)
 refine A4 (j:=1) [0] (k:=A5 (ch:=[]) (b:=b1) (off:=3) (v:=.slice al x.list.length cl) (hA:=At.grp 0 0 rfl rfl) (k:=?_))
 refine B0 [0,0] [1,3,26,27,28] (k:=A0 ?_)
 refine B9 (I6 (EI:=(fun ξ:Nat × ByteArray=>[⟨1,[],pt b1⟩,⟨3,[],.string ξ.2⟩,⟨26,[],.slice al x.list.length cl⟩,⟨27,[],.int .i64 ((x.list.length:Nat):Int)⟩,⟨28,[],.int .i64 ((ξ.1:Nat):Int)⟩])) (HI:=(fun ξ:Nat × ByteArray=>([(b1,.cells #[.int .i64 6,.string (bk x.text),.slice an x.names.length cn,.slice al x.list.length cl] 28 (0,0))]::H))) (Φ:=(fun ξ:Nat × ByteArray=>(ξ.1≤x.list.length)∧(ξ.2.data.toList=prL true true (x.names.take ξ.1) (x.list.take ξ.1)))) (μ:=(fun ξ:Nat × ByteArray=>x.list.length - ξ.1)) (s0:=(0,(ByteArray.mk #[]))) [1,3,26,27,28] kr rfl ⟨(Nat.zero_le _),(by rw [List.take_zero,List.take_zero,K8])⟩ ?_)
 rintro ⟨k,t⟩ ⟨hk,hT⟩
 try dsimp only at hk hT
 have hwx:=M7 x
 have hts:t.size≤10 * (wtN (x.names.take k)+wtL (x.list.take k)):=by
  have h1:=congrArg List.length hT
  have h2:=prL_len true true (x.names.take k) (x.list.take k)
  rw [E0] at h1
  omega
 refine A1 (G_p [0] [1,3,26,27,28,29] (k:=?_))
 refine A0 (A1 ?_)
 refine B2 (b:=decide (((k:Nat):Int)<((x.list.length:Nat):Int))) kr (fun hc2=>?_) (fun hc2=>?_)
 ·
  simp only [decide_eq_true_eq] at hc2
  have hlt:k<x.list.length:=by omega
  obtain ⟨y,yan,ycn,yal,ycl,ycs,hyx,hye,hyn,hyl,hyc⟩:=hrc.get hlt
  have hysz:szJ y<szJ x:=by rw [hyx]; exact szJ_lt hlt
  have hyr:rtP m y=true:=by rw [hyx]; exact rtL_get hrt hlt
  have hyw:wtJ y<wtJ x:=by rw [hyx]; exact wt_sub hlt
  have hpl:=pr_len y
  have hwl:=wtL_step hlt
  rw [← hyx] at hwl
  have hwn:=N6 x.names k
  have hnl:k<x.names.length:=by have:=hno rfl; omega
  obtain ⟨nm,hnm⟩:∃ nm,nm=x.names[k]'hnl:=⟨_,rfl⟩
  have hnw:nm.length<wtJ x:=by rw [hnm]; exact wt_name hnl
  have hjn:=K5 nm
  have hwn2:=wtN_step hnl
  rw [← hnm] at hwn2
  have hnz:=C3 nm
  have hjz:=C3 (G6 nm)
  refine A8 (A0 ?_)
  refine A1 (B9 ?_)
  refine A1 (A2 ?_)
  refine A4 (j:=1) [0] (k:=D0 (ch:=[]) (a:=al) (len:=x.list.length) (cap:=cl) (kd:=.i64) (j:=((k:Nat):Int)) (e:=28) (sz:=4) (S:=S) (cs:=cs) (hrd:=hrl) (hb:=(fun _=>by first | exact ⟨by omega,by omega,hrc.ne hlt⟩ | exact ⟨by omega,by omega,I4 hnl⟩ | exact ⟨by decide,by decide,List.cons_ne_nil _ _⟩)) (k:=?_))
  refine I7 (ch:=[]) (a:=al) (q:=k * 4) (S:=S) (cs:=cs) (l:=[.int .i64 y.kind,.string (bk y.text),.slice yan y.names.length ycn,.slice yal y.list.length ycl]) (hrd:=hrl) (hS:=(fun y o h=>(At.cons (hS y o h)))) (hl:=List.cons_ne_nil _ _) (hv:=(fun _=>(elt4 hye))) (k:=F5 (ch:=[]) (z:=.agg #[.int .i64 0,.string (ByteArray.mk #[]),.slice none 0 0,.slice none 0 0]) (k:=(fun b3=>?_)))
  refine A4 (j:=5) [0] (k:=E9 (ch:=[]) (b:=b3) (off:=0) (v:=.agg #[.int .i64 y.kind,.string (bk y.text),.slice yan y.names.length ycn,.slice yal y.list.length ycl]) (j:=0) ([(b3,.cells #[.int .i64 y.kind,.string (bk y.text),.slice yan y.names.length ycn,.slice yal y.list.length ycl] 28 (0,0))]::[(b1,.cells #[.int .i64 6,.string (bk x.text),.slice an x.names.length cn,.slice al x.list.length cl] 28 (0,0))]::H) (hoff:=Nat.le_of_ble_eq_true rfl) (hfz:=(fun _ _=>E3)) (k:=?_))
  refine B0 [] [1,3,4,5,26,27,28] (k:=A0 ?_)
  refine A1 (A1 ?_)
  refine G_p [0,0] [1,3,4,5,26,27,28,34] (k:=A0 ?_)
  refine B2 (b:=decide (((k:Nat):Int) > 0)) kr (fun hc4=>?_) (fun hc4=>?_)
  ·
   simp only [decide_eq_true_eq,gt_iff_lt] at hc4
   have hk0:¬ k=0:=by omega
   refine A2 (A4 (j:=1) [0] (k:=?_))
   refine E5 (ch:=[]) (s:=t) (u:=(ByteArray.mk #[44])) (hb:=(fun _=>by (try simp only [C3,List.length_cons,List.length_nil]); omega)) (k:=B0 [0] [1,3,4,5,26,27,28] (k:=?_))
   refine A0 (A1 ?_)
   refine A1 (A2 ?_)
   refine A4 (j:=1) [0] (k:=A5 (ch:=[]) (b:=b1) (off:=0) (v:=.int .i64 6) (hA:=At.grp 1 0 rfl rfl) (k:=?_))
   refine B0 [0] [1,3,4,5,26,27,28,39] (k:=A0 ?_)
   refine E8 kr (A2 ?_)
   refine A4 (j:=2) [0,0] (k:=A5 (ch:=[]) (b:=b1) (off:=2) (v:=.slice an x.names.length cn) (hA:=At.grp 1 0 rfl rfl) (k:=?_))
   refine A4 (j:=4) [0] (k:=D0 (ch:=[]) (a:=an) (len:=x.names.length) (cap:=cn) (kd:=.i64) (j:=((k:Nat):Int)) (e:=9) (sz:=1) (S:=S) (cs:=(E7 x.names)) (hrd:=hrn) (hb:=(fun _=>by first | exact ⟨by omega,by omega,hrc.ne hlt⟩ | exact ⟨by omega,by omega,I4 hnl⟩ | exact ⟨by decide,by decide,List.cons_ne_nil _ _⟩)) (k:=?_))
   refine I1 (ch:=[]) (a:=an) (q:=k * 1) (S:=S) (cs:=(E7 x.names)) (v:=.string (bk nm)) (hrd:=hrn) (hS:=(fun y o h=>(At.cons (At.cons (hS y o h))))) (hv:=(fun _=>(L7 hnl hnm))) (k:=H4 Tryz.func56 (rjson_ (bk nm) (by omega) _ _) ?_)
   refine E5 (ch:=[]) (s:=(bk (G6 nm))) (u:=(ByteArray.mk #[58])) (hb:=(fun _=>by (try simp only [C3,List.length_cons,List.length_nil]); omega)) (k:=E5 (ch:=[]) (s:=t++(ByteArray.mk #[44])) (u:=(bk (G6 nm))++(ByteArray.mk #[58])) (hb:=(fun _=>by (try simp only [ByteArray.size_append,C3,List.length_cons,List.length_nil]); omega)) (k:=?_))
   refine B1 (E':=[⟨1,[],pt b1⟩,⟨3,[],.string ((t++(ByteArray.mk #[44]))++((bk (G6 nm))++(ByteArray.mk #[58])))⟩,⟨5,[],pt b3⟩,⟨26,[],.slice al x.list.length cl⟩,⟨27,[],.int .i64 ((x.list.length:Nat):Int)⟩,⟨28,[],.int .i64 ((k:Nat):Int)⟩]) [0] [1,3,5,26,27,28] (k:=A0 ?_)
   refine A2 (A4 (j:=1) [0] (k:=?_))
   refine D3 (ch:=[]) (b:=b3) (off:=0) (l:=[.int .i64 y.kind,.string (bk y.text),.slice yan y.names.length ycn,.slice yal y.list.length ycl]) (hA:=At.grp 0 0 rfl rfl) (k:=H4 (vs:=[.agg #[.int .i64 y.kind,.string (bk y.text),.slice yan y.names.length ycn,.slice yal y.list.length ycl]]) Tryz.func24 (hrec y hysz (by omega) m hyr yan ycn yal ycl ycs hyn hyl hyc _ _ (fun y o h=>At.cons (At.cons (hS y o h)))) ?_)
   refine E5 (ch:=[]) (s:=(t++(ByteArray.mk #[44]))++((bk (G6 nm))++(ByteArray.mk #[58]))) (u:=(bk (prP y))) (hb:=(fun _=>by (try simp only [ByteArray.size_append,C3,List.length_cons,List.length_nil]); omega)) (k:=B0 [0] [1,3,26,27,28] (k:=?_))
   refine B8 (A0 ?_)
   have hw5:IntKind.wrap .i64 (((k:Nat):Int)+1)=((k:Nat):Int)+1:=w64 (by omega) (by omega)
   refine A2 (C0 (E':=[⟨53,[],.int .i64 (((k:Nat):Int)+1)⟩,⟨1,[],pt b1⟩,⟨3,[],.string (((t++(ByteArray.mk #[44]))++((bk (G6 nm))++(ByteArray.mk #[58])))++(bk (prP y)))⟩,⟨26,[],.slice al x.list.length cl⟩,⟨27,[],.int .i64 ((x.list.length:Nat):Int)⟩,⟨28,[],.int .i64 ((k:Nat):Int)⟩]) [0] (Eq.trans (b:=some [⟨53,[],.int .i64 (IntKind.wrap .i64 (((k:Nat):Int)+1))⟩,⟨1,[],pt b1⟩,⟨3,[],.string (((t++(ByteArray.mk #[44]))++((bk (G6 nm))++(ByteArray.mk #[58])))++(bk (prP y)))⟩,⟨26,[],.slice al x.list.length cl⟩,⟨27,[],.int .i64 ((x.list.length:Nat):Int)⟩,⟨28,[],.int .i64 ((k:Nat):Int)⟩]) kr (by simp only [hw5])) (j:=1) rfl ?_)
   refine C4 (E':=[⟨53,[],.int .i64 ((k+1:Nat):Int)⟩,⟨1,[],pt b1⟩,⟨3,[],.string (((t++(ByteArray.mk #[44]))++((bk (G6 nm))++(ByteArray.mk #[58])))++(bk (prP y)))⟩,⟨26,[],.slice al x.list.length cl⟩,⟨27,[],.int .i64 ((x.list.length:Nat):Int)⟩,⟨28,[],.int .i64 ((k:Nat):Int)⟩]) (by rw [show ((k:Nat):Int)+1=((k+1:Nat):Int) by omega]) (B0 [0] [1,3,26,27,28] (k:=?_))
   refine C1 (H':=([(b1,.cells #[.int .i64 6,.string (bk x.text),.slice an x.names.length cn,.slice al x.list.length cl] 28 (0,0))]::H)) (fun w h=>(h.erase 0)) (E6 (s':=((k+1),((t++(ByteArray.mk #[44]))++((bk (G6 nm))++(ByteArray.mk #[58])))++(bk (prP y)))) [1,3,26,27,28] kr rfl ⟨(by (try dsimp only); omega),(by (try dsimp only); rw [prL_step true hlt hno,← hyx,← hT]; (first | rw [if_pos hk0] | rw [if_neg hk0]); rw [name_get hnl,← hnm]; (try (simp only [D9,List.append_assoc,if_true] <;> (try rfl))))⟩ (by (try dsimp only); omega))
  ·
   simp only [decide_eq_false_iff_not,gt_iff_lt] at hc4
   have hk0:k=0:=by omega
   refine A8 (A0 ?_)
   refine A1 (A1 ?_)
   refine A2 (A4 (j:=1) [0] (k:=?_))
   refine A5 (ch:=[]) (b:=b1) (off:=0) (v:=.int .i64 6) (hA:=At.grp 1 0 rfl rfl) (k:=B0 [0] [1,3,4,5,26,27,28,39] (k:=?_))
   refine A0 (E8 kr ?_)
   refine A2 (A4 (j:=2) [0,0] (k:=?_))
   refine A5 (ch:=[]) (b:=b1) (off:=2) (v:=.slice an x.names.length cn) (hA:=At.grp 1 0 rfl rfl) (k:=A4 (j:=4) [0] (k:=?_))
   refine D0 (ch:=[]) (a:=an) (len:=x.names.length) (cap:=cn) (kd:=.i64) (j:=((k:Nat):Int)) (e:=9) (sz:=1) (S:=S) (cs:=(E7 x.names)) (hrd:=hrn) (hb:=(fun _=>by first | exact ⟨by omega,by omega,hrc.ne hlt⟩ | exact ⟨by omega,by omega,I4 hnl⟩ | exact ⟨by decide,by decide,List.cons_ne_nil _ _⟩)) (k:=I1 (ch:=[]) (a:=an) (q:=k * 1) (S:=S) (cs:=(E7 x.names)) (v:=.string (bk nm)) (hrd:=hrn) (hS:=(fun y o h=>(At.cons (At.cons (hS y o h))))) (hv:=(fun _=>(L7 hnl hnm))) (k:=?_))
   refine H4 Tryz.func56 (rjson_ (bk nm) (by omega) _ _) (E5 (ch:=[]) (s:=(bk (G6 nm))) (u:=(ByteArray.mk #[58])) (hb:=(fun _=>by (try simp only [C3,List.length_cons,List.length_nil]); omega)) (k:=?_))
   refine E5 (ch:=[]) (s:=t) (u:=(bk (G6 nm))++(ByteArray.mk #[58])) (hb:=(fun _=>by (try simp only [ByteArray.size_append,C3,List.length_cons,List.length_nil]); omega)) (k:=B0 [0] [1,3,5,26,27,28] (k:=?_))
   refine A0 (A2 ?_)
   refine A4 (j:=1) [0] (k:=D3 (ch:=[]) (b:=b3) (off:=0) (l:=[.int .i64 y.kind,.string (bk y.text),.slice yan y.names.length ycn,.slice yal y.list.length ycl]) (hA:=At.grp 0 0 rfl rfl) (k:=?_))
   refine H4 (vs:=[.agg #[.int .i64 y.kind,.string (bk y.text),.slice yan y.names.length ycn,.slice yal y.list.length ycl]]) Tryz.func24 (hrec y hysz (by omega) m hyr yan ycn yal ycl ycs hyn hyl hyc _ _ (fun y o h=>At.cons (At.cons (hS y o h)))) (E5 (ch:=[]) (s:=t++((bk (G6 nm))++(ByteArray.mk #[58]))) (u:=(bk (prP y))) (hb:=(fun _=>by (try simp only [ByteArray.size_append,C3,List.length_cons,List.length_nil]); omega)) (k:=?_))
   refine B1 (E':=[⟨1,[],pt b1⟩,⟨3,[],.string ((t++((bk (G6 nm))++(ByteArray.mk #[58])))++(bk (prP y)))⟩,⟨26,[],.slice al x.list.length cl⟩,⟨27,[],.int .i64 ((x.list.length:Nat):Int)⟩,⟨28,[],.int .i64 ((k:Nat):Int)⟩]) [0] [1,3,26,27,28] (k:=B8 ?_)
   refine A0 ?_
   have hw6:IntKind.wrap .i64 (((k:Nat):Int)+1)=((k:Nat):Int)+1:=w64 (by omega) (by omega)
   refine A2 (C0 (E':=[⟨53,[],.int .i64 (((k:Nat):Int)+1)⟩,⟨1,[],pt b1⟩,⟨3,[],.string ((t++((bk (G6 nm))++(ByteArray.mk #[58])))++(bk (prP y)))⟩,⟨26,[],.slice al x.list.length cl⟩,⟨27,[],.int .i64 ((x.list.length:Nat):Int)⟩,⟨28,[],.int .i64 ((k:Nat):Int)⟩]) [0] (Eq.trans (b:=some [⟨53,[],.int .i64 (IntKind.wrap .i64 (((k:Nat):Int)+1))⟩,⟨1,[],pt b1⟩,⟨3,[],.string ((t++((bk (G6 nm))++(ByteArray.mk #[58])))++(bk (prP y)))⟩,⟨26,[],.slice al x.list.length cl⟩,⟨27,[],.int .i64 ((x.list.length:Nat):Int)⟩,⟨28,[],.int .i64 ((k:Nat):Int)⟩]) kr (by simp only [hw6])) (j:=1) rfl ?_)
   refine C4 (E':=[⟨53,[],.int .i64 ((k+1:Nat):Int)⟩,⟨1,[],pt b1⟩,⟨3,[],.string ((t++((bk (G6 nm))++(ByteArray.mk #[58])))++(bk (prP y)))⟩,⟨26,[],.slice al x.list.length cl⟩,⟨27,[],.int .i64 ((x.list.length:Nat):Int)⟩,⟨28,[],.int .i64 ((k:Nat):Int)⟩]) (by rw [show ((k:Nat):Int)+1=((k+1:Nat):Int) by omega]) (B0 [0] [1,3,26,27,28] (k:=?_))
   refine C1 (H':=([(b1,.cells #[.int .i64 6,.string (bk x.text),.slice an x.names.length cn,.slice al x.list.length cl] 28 (0,0))]::H)) (fun w h=>(h.erase 0)) (E6 (s':=((k+1),(t++((bk (G6 nm))++(ByteArray.mk #[58])))++(bk (prP y)))) [1,3,26,27,28] kr rfl ⟨(by (try dsimp only); omega),(by (try dsimp only); rw [prL_step true hlt hno,← hyx,← hT]; (first | rw [if_pos hk0] | rw [if_neg hk0]); rw [name_get hnl,← hnm]; (try (simp only [D9,List.append_assoc,if_true,List.nil_append] <;> (try rfl))))⟩ (by (try dsimp only); omega))
 ·
  simp only [decide_eq_false_iff_not] at hc2
  have hwl:=wtL_take x.list k
  have hwn:=N6 x.names k
  have ha1:x.list.take k=x.list:=List.take_of_length_le (by omega)
  have ha2:x.names.take k=x.names:=List.take_of_length_le (by have:=hno rfl; omega)
  refine G3 (A9 ?_)
  refine A9 (C5 ?_)
  refine A0 (A1 ?_)
  refine A1 (A2 ?_)
  refine A4 (j:=1) [0] (k:=A5 (ch:=[]) (b:=b1) (off:=0) (v:=.int .i64 6) (hA:=At.grp 0 0 rfl rfl) (k:=?_))
  refine B0 [0] [3,56] (k:=A0 ?_)
  refine C2 kr (A8 ?_)
  refine A0 (A1 ?_)
  refine A2 (A4 (j:=1) [0] (k:=?_))
  refine E5 (ch:=[]) (s:=(ByteArray.mk #[123])) (u:=t) (hb:=(fun _=>by (try simp only [C3,List.length_cons,List.length_nil]); omega)) (k:=E5 (ch:=[]) (s:=(ByteArray.mk #[123])++t) (u:=(ByteArray.mk #[125])) (hb:=(fun _=>by (try simp only [ByteArray.size_append,C3,List.length_cons,List.length_nil]); omega)) (k:=?_))
  refine B0 [0] [2] (k:=A0 ?_)
  refine B5 (C1 (H':=H) (fun w h=>(h.erase 0)) ?_)
  refine B6 [.tmp 2] [.string (((ByteArray.mk #[123])++t)++(ByteArray.mk #[125]))] (k:=?_)
  exact ⟨congrArg Value.string (N5 (by rw [D9,D9,hT,ha1,ha2,M0,pr_many true hk6]; rfl)),rfl⟩
theorem rprint_:∀ (n:Nat) (x:JV),szJ x≤n→wtJ x≤100000→∀ (m:Nat),rtP m x=true→∀ (an:Option Addr) (cn:Nat) (al:Option Addr) (cl:Nat) (cs:List Value) (S:Nat→Obj→Prop),Rd S an (E7 x.names)→Rd S al cs→JRdL S x.list cs→∀ (W0:World) (H:List Grp),(∀ z o,S z o→At W0 H z o)→Tri Tryz.prog 24 #[.agg (jvC x an cn al cl).toArray] W0 H (fun v H'=>v=.string (bk (prP x))∧H'=H)
  | 0,x,h,_,_,_,_,_,_,_,_,_,_,_,_,_,_,_=>absurd (szJ_pos x) (by omega)
  | n+1,x,hz,hw,m,hr,an,cn,al,cl,cs,S,h1,h2,h3,W0,H,hS=>by
    obtain ⟨hB,hn6,hm⟩:=rt_kind hr
    have hr0:=hB.rng
    have hrec:=fun (y:JV) (hy:szJ y<szJ x) (hwy:wtJ y≤100000) (m:Nat) (hm:rtP m y=true) (an:Option Addr) (cn:Nat) (al:Option Addr) (cl:Nat) (cs:List Value) (h1:Rd S an (E7 y.names)) (h2:Rd S al cs) (h3:JRdL S y.list cs)=>rprint_ n y (by omega) hwy m hm an cn al cl cs S h1 h2 h3
    rcases (show x.kind=0∨x.kind=1∨x.kind=2∨x.kind=3∨x.kind=4∨x.kind=5∨x.kind=6 by omega) with h | h | h | h | h | h | h
    · rw [I9 h an cn al cl]; exact rprint0_ x an cn al cl cs S h1 h2 h3 m h hw W0 H hS
    · rw [I9 h an cn al cl]; exact rprint1_ x an cn al cl cs S h1 h2 h3 m h hw W0 H hS
    · rw [I9 h an cn al cl]; exact rprint2_ x an cn al cl cs S h1 h2 h3 m h hw W0 H hS
    · rw [I9 h an cn al cl]; exact rprint3_ x an cn al cl cs S h1 h2 h3 m h hw W0 H hS
    · rw [I9 h an cn al cl]; exact rprint4_ x an cn al cl cs S h1 h2 h3 m h hw W0 H hS
    · obtain ⟨k,_,hk⟩:=hm (.inl h)
      rw [I9 h an cn al cl]; exact rprint5_ x an cn al cl cs S h1 h2 h3 k h hk (fun h=>by cases h) hw hrec W0 H hS
    · obtain ⟨k,_,hk⟩:=hm (.inr h)
      rw [I9 h an cn al cl]; exact rprint6_ x an cn al cl cs S h1 h2 h3 k h hk (fun _=>hn6 h) hw hrec W0 H hS
end Go.Proofs.YtppgfiklmfoaeaaGreatDoor
namespace Go.Sw
open Go.RowKit
abbrev RF (r:Nat):Fence:=Fence.wide.inRound r
theorem upon_in {P:Program} {o:Oper} {a:Act} {next next':Act→World→Prop} {Q:D6} {r n:Nat} (hn:∀ a w,next a w→next' a w) {x:Result Next}
    (h:o.upon P a next Q x):o.uponIn (RF r) n P a next' Q x:=by
  cases x with
  | ok v w =>
    cases v with
    | value v=>exact hn _ _ h
    | skip=>exact hn _ _ h
    | defer d=>exact hn _ _ h
    | enter f args =>
      refine ⟨fun e=>(by cases e),?_⟩
      have h1:CallsIn (RF r) (n - 1) P f args w _:=(callsIn_wide (n:=n - 1)).2 h
      refine h1.mono (fun e w' he=>?_)
      cases e with
      | returned v=>exact hn _ _ he
      | panicked c=>exact he
      | outgrown=>exact he
    | row row args =>
      refine ⟨fun e=>(by cases e),fun c cs _=>?_⟩
      obtain ⟨v,w',hv,hst⟩:=h c cs
      exact ⟨v,w',hn _ _ hv,stepsIn_wide.2 hst⟩
    | _=>exact absurd h (by intro h; exact h)
  | halt s w=>cases s with
    | panic v=>exact h
    | _=>exact absurd h (by intro h; exact h)
def noDefer (l:List Oper):Bool:=l.all fun o=>match o.op with | .defer _=>false | _=>true
theorem list_in {P:Program} {ops:Array Oper} {Q:D6} {r n:Nat} (hLO:∀ a w,¬ Q .outgrown a w):∀ (l:List Oper),noDefer l=true→∀ a w,wpList P ops Q l a w→wpListIn (RF r) n P ops Q l a w
  | [],_,_,_,h=>h
  | o::l,hd,a,w,h=>by
    simp only [noDefer,List.all_cons,Bool.and_eq_true] at hd
    have ih:=list_in (n:=n) (r:=r) (P:=P) (ops:=ops) (Q:=Q) hLO l hd.2
    unfold wpList at h
    unfold wpListIn
    by_cases hw:Region.wanted o (yielded ops a.tmps)=true
    · rw [if_pos hw] at h ⊢
      rcases h with h | ⟨_,a0,w0,hq⟩
      · refine ⟨fun _ _=>trivial,?_⟩
        rw [show Oper.semAt (RF r).round a.eval o=execOp a.eval o from Oper.semAt_some r _ _ (fun c e=>by have h1:=hd.1; rw [e] at h1; exact Bool.noConfusion h1)]
        exact upon_in ih h
      · exact absurd hq (hLO _ _)
    · rw [if_neg hw] at h ⊢
      exact ⟨fun _ _=>trivial,ih _ _ h⟩
def GR (r m:Nat) (P:Program) (c:Code) (Q:D6) (n:Fr) (E:Env) (W0:World) (H:List Grp):Prop :=
  ∀ a w,Ag n E a→Sat W0 H w→c.wpIn (RF r) m P Q a w
section
variable {r m : Nat} {P : Program} {Q : D6} {n : Fr} {E : Env} {W0 : World} {H : List Grp}
theorem GR_region {id:Nat} {ops:Array Oper} (hd:noDefer ops.toList=true:=by exact rfl) (hLO:∀ a w,¬ Q .outgrown a w) (k:GL false P ops 0 Q n E W0 H):GR r m P (.region id ops false) Q n E W0 H :=
  fun a w ha hs=>wpIn_region_list (list_in hLO _ hd _ _ (by have:=k a w ha hs; simpa using this))
theorem GR_seq {x y:Code} (k:GR r m P x (Exit.then (y.wpIn (RF r) m P Q) Q) n E W0 H):GR r m P (.seq x y) Q n E W0 H:=fun a w ha hs=>wpIn_seq (k a w ha hs)
theorem NR_then {y:Code} (k:GR r m P y Q n E W0 H):N (Exit.then (y.wpIn (RF r) m P Q) Q) .normal n E W0 H:=k
theorem GR_block {id:Nat} {c:Code} (k:GR r m P c (Exit.inBlock id Q) n E W0 H):GR r m P (.block id c) Q n E W0 H:=fun a w ha hs=>wpIn_block (k a w ha hs)
theorem GR_skip (k:N Q .normal n E W0 H):GR r m P .skip Q n E W0 H:=fun a w ha hs=>wpIn_skip (k a w ha hs)
theorem GR_ret (k:N Q .ret n E W0 H):GR r m P .ret Q n E W0 H:=fun a w ha hs=>wpIn_ret (k a w ha hs)
theorem GR_cond {c:Operand} {x y:Code} {b:Bool}
    (hc:evO E [] c=some (.bool b)) (ht:b=true→GR r m P x Q n E W0 H) (hf:b=false→GR r m P y Q n E W0 H):GR r m P (.cond c x y) Q n E W0 H :=
  fun a w ha hs=>wpIn_cond_split (ha.eval hc) (fun h=>ht h a w ha hs) (fun h=>hf h a w ha hs)
end
def KeepG (K:List Grp) (W W':World):Prop:=∀ p,p∈K.flatten→W.heap[p.1]? = some p.2→W'.heap[p.1]? = some p.2
def putAll:List (Nat × Value)→List Sl→List Sl
  | [],E=>E
  | (t,v)::r,E=>putAll r (Env.put E (some t) [] v)
theorem Ag.puts {n:Fr}:∀ (l:List (Nat × Value)) {E:Env} {a:Act},Ag n E a→(∀ p,p∈l→p.1<n.k)→Ag n (putAll l E) { a with tmps:=l.foldl (fun t p=>t.setIfInBounds p.1 p.2) a.tmps }
  | [],_,_,h,_=>h
  | (t,v)::r,E,a,h,hl=>by
    obtain ⟨β,hβ,hat⟩:=h.at_
    have h1:=h.put hβ hat (d:=some t) (ch:=[]) (by simp [H7,freeOf]; exact hl (t,v) List.mem_cons_self) v
    exact Ag.puts r h1 (fun p hp=>hl p (List.mem_cons_of_mem _ hp))
def Calm0 (H H':List Grp):Prop:=∀ p,p∈H'.flatten→p.2.isCells=true∨p∈H.flatten
theorem Sat.lt {W0:World} {H:List Grp} {w:World} (h:Sat W0 H w) {p:Nat × Obj} (hp:p∈H.flatten):p.1<w.heap.size:=(Array.getElem?_eq_some_iff.1 (h.has p hp)).1
theorem Sat.grown {W0:World} {H':List Grp} {W W':World} {row:Option Nat} (h:Sat W0 H' W) (hg:W.grownBy W' row)
    (hr:∀ r,row=some r→W0.heap.size≤r∧∀ p,p∈H'.flatten→p.1≠r):Sat W0 H' W':=by
  refine ⟨h.below.grown hg h.below.size (fun k e=>(hr k e).1),h.nodup,fun p hp=>?_,h.high⟩
  rw [hg.block p.1 (h.lt hp) (fun e=>(hr _ e.symm).2 p hp rfl)]
  exact h.has p hp
theorem putObj_wr {w:World} {b:Nat} {o o':Obj} (h:w.heap[b]? = some o):Wr b o' w (w.putObj b o') :=
  ⟨rfl,rfl,rfl,by simp,World.putObj_heap_same (Array.getElem?_eq_some_iff.1 h).1,fun _ hk=>World.putObj_heap_other hk⟩
theorem Sat.put0 {W0:World} {H:List Grp} {w:World} {b:Nat} {o:Obj} (h:Sat W0 ([(b,o)]::H) w) (o':Obj):Sat W0 ([(b,o')]::H) (w.putObj b o') :=
  h.wr (j:=0) (i:=0) rfl rfl (putObj_wr (h.has (b,o) (by simp)))
theorem ds_none {n:Fr} (h:n.dl=[]):n.ds=[]:=by unfold Fr.ds; rw [h]
def BodyM (P:Program) (fn:Func) (W0:World) (R:Value→List Grp→Prop):D6 :=
  bodyPostM Fence.wide 9 P fn fun e w'=>∃ v H',e=.returned v∧R v H'∧Sat W0 H' w'
theorem Tri_ofM {P:Program} {f:FuncId} {fn:Func} {c:Code} {args:List Value} {n:Fr} {W0:World} {H:List Grp} {R:Value→List Grp→Prop}
    (hf:P.funcs[f]? = some fn) (hb:fn.body=some c) (hn:fn.ntmps=n.k) (hle:args.length≤n.k)
    (k:G P c (BodyM P fn W0 R) n (argEnv 0 args) W0 H) (hz:n.dl=[]:=by rfl):Tri P f args.toArray W0 H R:=by
  intro w hs
  refine callsIn_wide.1 (callsIn_of_wp_marks (F:=Fence.wide) (n:=9) hf hb trivial ((wpIn_wide (n:=9)).2 (k _ w ?_ hs)) rfl)
  refine ⟨by unfold Fr.ds; rw [hz],by simp [hn]; omega,fun u w=>match args[u]? with | some v=>O6 v==some w | none=>false,?_,?_⟩
  · intro s hs w
    obtain ⟨h1,h2,h3⟩:=P8 args 0 s hs
    simp only [Nat.sub_zero] at h3
    simp only [h3]
  · intro s hs
    obtain ⟨h1,h2,h3⟩:=P8 args 0 s hs
    simp only [Nat.sub_zero] at h3
    rw [h1]
    simp only [chT,List.all_nil,if_true]
    have hlt:s.t<args.length:=by
      rcases Nat.lt_or_ge s.t args.length with h | h
      · exact h
      · simp [List.getElem?_eq_none h] at h3
    rw [Array.getElem?_append_left (by simpa using hlt)]
    simpa using h3
theorem results_run {P:Program} {fn:Func} {E:Env} {W0:World} {H:List Grp} {n:Fr} {a:Act} {w:World} (ha:Ag n E a) (hs:Sat W0 H w) {rs:List ResultVar} {l:List Value}
    (hr:fn.results=rs.toArray) (h:RVs P E W0 H rs l):(results fn a.tmps).run P w=.ok (packV l) w:=by
  have e2:=h.run (P:=P) ha hs
  have e3:((rs.toArray).mapM (resOne a.tmps)).run P w=.ok l.toArray w:=by
    rw [Array.mapM_eq_mapM_toList,Sem.run_map,e2]; rfl
  rw [results_eq,hr,Sem.run_bind,e3]
  simp only [Result.andThen_ok,Sem.run_pure]
  congr 1
  cases l with
  | nil=>rfl
  | cons v l=>cases l with
    | nil=>rfl
    | cons u l=>simp [packV]
theorem N_retM {P:Program} {fn:Func} {n:Fr} {E:Env} {W0:World} {H:List Grp} {R:Value→List Grp→Prop} {x:Exit} {D:Nat} (rs:List ResultVar) (l:List Value)
    (hm:n.dl=mkD D) (hr:fn.results=rs.toArray) (h:RVs P E W0 H rs l) (hx:(match x with | .normal=>true | .ret=>true | _=>false)=true)
    (k:∃ H',R (packV l) H'∧∀ w,Sat W0 H w→Sat W0 H' w):N (BodyM P fn W0 R) x n E W0 ([(D,.deferred (some []))]::H):=by
  intro a w ha hs
  obtain ⟨H',hR,hH⟩:=k
  have h1:a.defers=[{ target:=.collected D,args:=#[] }]:=by rw [ha.defers]; unfold Fr.ds; rw [hm]
  have hs2:=(hs.put0 (.deferred none)).tail
  have key:LeavesInM Fence.wide 9 P fn a.tmps (fun e w'=>∃ v H',e=.returned v∧R v H'∧Sat W0 H' w') a.defers .returning w:=by
    rw [h1]
    exact ⟨by simp,.inl ⟨D,_,rfl,run_takeDeferred (hs.has (D,_) (by simp)),_,results_run ha hs2 hr h,packV l,H',rfl,hR,hH _ hs2⟩⟩
  cases x <;> simp at hx
  · exact key
  · exact key
theorem N_retM0 {P:Program} {fn:Func} {n:Fr} {E:Env} {W0:World} {H:List Grp} {R:Value→List Grp→Prop} {x:Exit} (rs:List ResultVar) (l:List Value)
    (hr:fn.results=rs.toArray) (h:RVs P E W0 H rs l) (hx:(match x with | .normal=>true | .ret=>true | _=>false)=true)
    (k:∃ H',R (packV l) H'∧∀ w,Sat W0 H w→Sat W0 H' w) (hz:n.dl=[]:=by rfl):N (BodyM P fn W0 R) x n E W0 H:=by
  intro a w ha hs
  obtain ⟨H',hR,hH⟩:=k
  have h1:a.defers=[]:=by rw [ha.defers]; unfold Fr.ds; rw [hz]
  have key:LeavesInM Fence.wide 9 P fn a.tmps (fun e w'=>∃ v H',e=.returned v∧R v H'∧Sat W0 H' w') a.defers .returning w:=by
    rw [h1]
    exact ⟨_,results_run ha hs hr h,packV l,H',rfl,hR,hH _ hs⟩
  cases x <;> simp at hx
  · exact key
  · exact key
end Go.Sw
namespace Go.Sw
open Go.RowKit
theorem op_in {P:Program} {ops:Array Oper} {Q:D6} {r n:Nat} (hLO:∀ a w,¬ Q .outgrown a w) (hd:noDefer ops.toList=true) {i:Nat} {K K':Act→World→Prop} (hK:∀ a w,K a w→K' a w) {a:Act} {w:World}
    (h:wpOp P ops Q i K a w):wpOpIn (RF r) n P ops Q i K' a w:=by
  unfold wpOp at h
  unfold wpOpIn
  cases ho:ops[i]? with
  | none=>rw [ho] at h; exact hK _ _ h
  | some o =>
    rw [ho] at h
    dsimp only at h ⊢
    by_cases hw:Region.wanted o (yielded ops a.tmps)=true
    · rw [if_pos hw] at h ⊢
      rcases h with h | ⟨_,a0,w0,hq⟩
      · refine ⟨fun _ _=>trivial,?_⟩
        have hm:o∈ops.toList:=by
          obtain ⟨h1,h2⟩:=Array.getElem?_eq_some_iff.1 ho
          rw [← h2]; exact Array.getElem_mem_toList h1
        have h1:=List.all_eq_true.1 hd o hm
        rw [show Oper.semAt (RF r).round a.eval o=execOp a.eval o from Oper.semAt_some r _ _ (fun c e=>by rw [e] at h1; exact Bool.noConfusion h1)]
        exact upon_in hK h
      · exact absurd hq (hLO _ _)
    · rw [if_neg hw] at h ⊢
      exact ⟨fun _ _=>trivial,hK _ _ h⟩
theorem any_in {P:Program} {ops:Array Oper} {Q:D6} {r n:Nat} (hLO:∀ a w,¬ Q .outgrown a w) (hd:noDefer ops.toList=true):∀ (fuel:Nat) (listed:Array Bool) (a:Act) (w:World),wpAny P .any ops Q fuel listed a w→wpAnyIn (RF r) n P .any ops Q fuel listed a w
  | 0,_,_,_,h=>h
  | fuel+1,_,_,_,h=>⟨h.1,fun i hi=>op_in hLO hd (fun _ _ h=>any_in hLO hd fuel _ _ _ h) (h.2 i hi)⟩
theorem GR_regionD {r m:Nat} {P:Program} {Q:D6} {n:Fr} {E:Env} {W0:World} {H:List Grp} {id:Nat} {ops:Array Oper} (hm:P.follows .mixedOrders=true) (hB:Region.lexB .any ops=true) (hd:noDefer ops.toList=true) (hLO:∀ a w,¬ Q .outgrown a w)
    (k:GL true P ops 0 Q n E W0 H):GR r m P (.region id ops true) Q n E W0 H:=by
  intro a w ha hs
  have h:wpQuiet P ops (Sat W0 H) (fun a'=>∀ w',Sat W0 H w'→Q .normal a' w') ops.toList a:=by have:=k a ha; simpa using this
  simp only [Region.lexB,Bool.and_eq_true] at hB
  refine wpIn_region_any hm (any_in hLO hd _ _ _ _ (wpAny_of_quiet (Q:=fun a'=>∀ w',Sat W0 H w'→Q .normal a' w') (fun _ w' hw' h=>h w' hw') _ _ _ _ hs.drew ?_))
  have:=wpAnyQ_lex (C:=Sat W0 H) (md:=.any) hB.1 ops.toList 0 (Array.replicate ops.size false) a (by simp) (by simpa using hB.2) h
  simpa using this
def KeepB (W0:World) (K:List Grp) (W W':World):Prop:=KeepG K W W'∧∀ b o,b<W0.heap.size→W0.heap[b]? = some o→W'.heap[b]? = some o
def RQ2 {α:Type} (W0:World) (L:Grp) (D:Grp) (I:List α→Prop) (HI:List α→List Grp) (X:Code→List α→List Grp→Prop) (xs:List α):D6
  | .normal,_,w=>I xs∧Sat W0 (L::D::HI xs) w
  | .ret,_,w=>∃ H',X .ret xs H'∧Sat W0 (L::D::H') w
  | .exit id,_,w=>∃ H',X (.exit id) xs H'∧Sat W0 (L::D::H') w
  | _,_,_=>False
theorem G_rangeFunc2 {P:Program} {g:Operand} {ps:Array Tmp} {assign body:Code} {Q:D6} {n:Fr} {E:Env} {W0:World} {H:List Grp} {α β:Type} {gf:Nat} {lb:Array Value} {encs:α→Array Value} {S Sp:List α→Prop} {N0:Nat}
    (hz:n.dl=[]) (hg:evO E [] g=some (.func (.func gf) #[] lb)) (eg:∀ args w,(callFunc gf args).run P w=.ok (.enter gf args) w)
    (Kg:List Grp) (_:∀ p,p∈Kg.flatten→p∈H.flatten) (hseq:∀ w,Sat W0 H w→SeqStopsK Fence.wide 8 P gf lb encs (KeepB W0 Kg) S Sp N0 w)
    (HI:List α→List Grp) (X:Code→List α→List Grp→Prop) (h0:HI []=H) (I:List α→Prop) (hI0:I []) (hKI:∀ xs p,p∈Kg.flatten→p∈(HI xs).flatten)
    (hid:∀ xs,Calm0 H (HI xs)) (hidx:∀ c xs H',X c xs H'→Calm0 H H')
    (hps:∀ x,(encs x).size=ps.size) (hpn:∀ t,t∈ps→t<n.k) (EI:α→β→Env) (HA:α→β→List α→List Grp)
    (hassign:∀ r L D pre x,I pre→GR r 7 P assign (fun e a w=>e=.normal∧∃ y:β,Ag n (EI x y) a∧Sat W0 (L::D::HA x y pre) w) n (putAll (ps.zip (encs x)).toList E) W0 (L::D::HI pre))
    (hbody:∀ r L D pre x y,pre.length<N0→I pre→GR r 7 P body (RQ2 W0 L D I HI X (pre++[x])) n (EI x y) W0 (L::D::HA x y pre))
    (hdone:∀ D xs,S xs→I xs→N Q .normal ⟨n.k,mkD D⟩ E W0 ([(D,.deferred (some []))]::HI xs))
    (hstop:∀ D c pre H',Sp pre→X c pre H'→G P c Q ⟨n.k,mkD D⟩ E W0 ([(D,.deferred (some []))]::H')) :
    G P (.rangeFunc g ps assign body) Q n E W0 H:=by
  intro a w ha hs
  refine (wpIn_wide (n:=9)).1 (wpIn_rangeFunc fun fn hfn=>?_)
  obtain ⟨rec,hrec⟩:∃ rec:LoopState→Option Code→Loop,rec=fun st pe=>{ state:=st,pending:=pe,fn,tmps:=a.tmps,params:=ps,assign,body,defers:=w.heap.size }:=⟨_,rfl⟩
  obtain ⟨l,hl⟩:∃ l,l=w.heap.size+1:=⟨_,rfl⟩
  have hs0:Sat W0 ([(w.heap.size,.deferred (some []))]::H) (w.alloc (.deferred (some []))):=hs.new rfl rfl rfl rfl
  obtain ⟨W1,hW1⟩:∃ W1,(w.alloc (.deferred (some []))).alloc (.loop (rec .ready none))=W1:=⟨_,rfl⟩
  have hs1:Sat W0 ([(l,.loop (rec .ready none))]::[(w.heap.size,.deferred (some []))]::H) W1:=by
    have h1:Sat W0 ([((w.alloc (.deferred (some []))).heap.size,.loop (rec .ready none))]::[(w.heap.size,.deferred (some []))]::H) W1:=hs0.new (by rw [← hW1]; rfl) (by rw [← hW1]; rfl) (by rw [← hW1]; rfl) (by rw [← hW1]; rfl)
    rwa [show (w.alloc (.deferred (some []))).heap.size=l by rw [World.size_alloc,hl]] at h1
  have hsz:W1.heap.size=w.heap.size+2:=by rw [← hW1]; simp
  have hbel:Below w.heap.size w W1:=by rw [← hW1]; exact ((Below.refl _ w).alloc (Nat.le_refl _) _).alloc (by simp) _
  have hlow:∀ {H':List Grp} {D:List Grp},Calm0 H H'→(∀ p,p∈D.flatten→p.1<w.heap.size+2)→∀ {W:World} {r:Nat},Sat W0 (D++H') W→w.heap.size+2≤r→(∃ o:Obj,W.heap[r]? = some o∧o.isWalk=true) →
      ∀ p,p∈(D++H').flatten→p.1≠r:=by
    intro H' D hc hD W r hS hr ⟨o,ho,hw⟩ p hp e
    have hp':=hS.has p hp
    rw [List.flatten_append,List.mem_append] at hp
    rcases hp with hp | hp
    · have:=hD p hp; omega
    · rcases hc p hp with h | h
      · rw [e,ho] at hp'
        injection hp' with hp'
        rw [← hp',Obj.not_cells_of_walk hw] at h
        exact absurd h (by decide)
      · have:=hs.lt h; omega
  have hDD:∀ (x:Obj) (y:Obj) (p:Nat × Obj),p∈([[(l,x)],[(w.heap.size,y)]]:List Grp).flatten→p.1<w.heap.size+2:=by
    intro x y p hp
    simp at hp
    rcases hp with rfl | rfl <;> simp <;> omega
  have hbase:W0.heap.size≤w.heap.size:=hs.below.size
  refine ⟨l,[{ target:=.collected w.heap.size,args:=#[] }],W1,{ target:=.fn (.func gf) lb,args:=#[.func (.yield l) #[] #[]] },W1,gf,#[.func (.yield l) #[] #[]]++lb,W1,?_,?_,?_,?_,fun e=>(by cases e),?_⟩
  · rw [← hW1,hrec,hl]; exact run_enterLoop_outer _ _ _ _ _
  · simp only [resolve,ha.eval hg]
    simp [go_sem]
  · exact fun _ _=>trivial
  · simp [invoke,go_sem,eg]
  refine (hseq w hs l
    (fun pre W=>I pre∧Sat W0 ([(l,.loop (rec .ready none))]::[(w.heap.size,.deferred (some []))]::HI pre) W)
    (fun pre W=>∃ c H',X c pre H'∧Sat W0 ([(l,.loop (rec .done (some c)))]::[(w.heap.size,.deferred (some []))]::H') W)
    W1 hbel ?_ ?_ ?_ ⟨hI0,by rw [h0]; exact hs1⟩).mono ?_
  · rintro s A B row ⟨hI,hS⟩ hgr hr
    exact ⟨hI,hS.grown hgr (fun r e=>⟨by have:=(hr r e).1; omega,hlow (D:=[_,_]) (hid s) (hDD _ _) hS (by have:=(hr r e).1; omega) (hr r e).2⟩)⟩
  · rintro s A B row ⟨c,H',hX,hS⟩ hgr hr
    exact ⟨c,H',hX,hS.grown hgr (fun r e=>⟨by have:=(hr r e).1; omega,hlow (D:=[_,_]) (hidx _ _ _ hX) (hDD _ _) hS (by have:=(hr r e).1; omega) (hr r e).2⟩)⟩
  · rintro pre x W ⟨hI,hS⟩ hlen
    have hlk:W.heap[l]? = some (.loop (rec .ready none)):=hS.has (l,_) (by simp)
    have hy:=run_yield (P:=P) (args:=encs x) hlk (by rw [hrec]; exact hps x)
    rw [hrec] at hy
    refine ⟨fn,_,assign,body,hy,roundIn_of_wpIn hfn ?_⟩
    have ha1:Ag n E { tmps:=a.tmps,defers:=[] }:=by
      obtain ⟨h1,h2,h3⟩:=ha
      exact ⟨(ds_none hz).symm,h2,h3⟩
    have ha2:=Ag.puts (ps.zip (encs x)).toList ha1 (fun p hp=>hpn p.1 (by
      rw [Array.toList_zip] at hp
      have:=(List.of_mem_zip (a:=p.1) (b:=p.2) hp).1
      simpa using this))
    rw [Array.foldl_toList] at ha2
    refine wpIn_mono (hassign l _ _ pre x hI _ W ha2 hS) ?_
    rintro e a1 W2 ⟨rfl,y,ha3,hS2⟩
    have hlk2:W2.heap[l]? = some (.loop (rec .ready none)):=hS2.has (l,_) (by simp)
    refine ⟨_,run_beginRound hlk2 (by rw [hrec]),?_⟩
    refine wpIn_mono (hbody l _ _ pre x y hlen hI a1 _ ha3 (hS2.put0 (.loop { rec .ready none with state:=.busy }))) ?_
    have fin:∀ (jump:Option Code) (W3:World) (H3:List Grp),Sat W0 ([(l,.loop { rec .ready none with state:=.busy })]::[(w.heap.size,.deferred (some []))]::H3) W3 →
        (Instr.endRound l jump).run P W3=.ok (.bool jump.isNone) (W3.putObj l (.loop (rec (if jump.isNone then .ready else .done) jump))):=fun jump W3 H3 h3=>by
      have hl3:W3.heap[l]? = some (.loop { rec .ready none with state:=.busy }):=h3.has (l,.loop { rec .ready none with state:=.busy }) (by simp)
      have:=run_endRound (P:=P) jump hl3
      rw [hrec] at this ⊢
      exact this
    rintro e a3 W3 hp
    cases e with
    | normal =>
      obtain ⟨hI3,hp⟩:=hp
      refine ⟨_,_,fin none W3 _ hp,.inl ⟨rfl,⟨hI3,hp.put0 _⟩,?_⟩⟩
      have h5:Sat W0 ([(l,.loop (rec .ready none))]::[(w.heap.size,.deferred (some []))]::HI (pre++[x])) _:=hp.put0 (.loop (rec .ready none))
      exact ⟨fun p hpK hpW=>h5.has p (by simp only [List.flatten_cons,List.mem_append]; exact .inr (.inr (hKI _ p hpK))),fun b o hb ho=>(h5.below.block b hb).trans ho⟩
    | ret =>
      obtain ⟨H',hX,hS3⟩:=hp
      exact ⟨_,_,fin (some .ret) W3 _ hS3,.inr ⟨rfl,.ret,H',hX,hS3.put0 _⟩⟩
    | exit id =>
      obtain ⟨H',hX,hS3⟩:=hp
      exact ⟨_,_,fin (some (.exit id)) W3 _ hS3,.inr ⟨rfl,.exit id,H',hX,hS3.put0 _⟩⟩
    | goto t=>exact hp.elim
    | panic ch=>exact hp.elim
    | outgrown=>exact hp.elim
  · have hA:Ag ⟨n.k,mkD w.heap.size⟩ E { a with defers:=[{ target:=.collected w.heap.size,args:=#[] }]++a.defers }:=by
      obtain ⟨h1,h2,h3⟩:=ha
      exact ⟨by rw [h1,ds_none hz]; rfl,h2,h3⟩
    rintro e W2 ⟨⟨v,rfl⟩,(⟨xs,hS,hI3,hi⟩ | ⟨pre,hSp,c,H',hX,hi⟩)⟩
    · have hlk:=hi.has (l,.loop (rec .ready none)) (by simp)
      refine ⟨none,_,by have:=run_endLoop (P:=P) hlk (by rw [hrec]; simp); rw [hrec] at this; exact this,?_⟩
      have h6:=(hi.put0 (.loop { rec .ready none with state:=.exhausted })).tail
      rw [hrec] at h6
      exact hdone _ xs hS hI3 _ _ hA h6
    · have hlk:=hi.has (l,.loop (rec .done (some c))) (by simp)
      refine ⟨some c,_,by have:=run_endLoop (P:=P) hlk (by rw [hrec]; simp); rw [hrec] at this; exact this,?_⟩
      have h6:=(hi.put0 (.loop { rec .done (some c) with state:=.exhausted })).tail
      rw [hrec] at h6
      exact (wpIn_wide (n:=9)).2 (hstop _ c pre H' hSp hX _ _ hA h6)
end Go.Sw
namespace Go.Proofs.YtppgfiklmfoaeaaGreatDoor
open Go.Sw Go.RowKit Go.Shelf Go.Json
attribute [local go_sem] Oper.semAt_some
def downF {m:Nat} (k:Nat):List (Fin m):=((List.finRange m).reverse).take k
theorem downF_len {m:Nat} (k:Nat) (hk:k≤m):(downF (m:=m) k).length=k:=by simp [downF]; omega
theorem P7 {m:Nat} (k:Nat) (hk:k<m):downF (m:=m) (k+1)=downF k++[⟨m - 1 - k,by omega⟩]:=by
  unfold downF
  rw [List.take_add_one]
  congr 1
  rw [List.getElem?_eq_getElem (by simpa using hk)]
  simp
set_option maxRecDepth 100000 in
set_option maxHeartbeats 2000000 in
theorem backw_in (kb:Nat) (a:Option Addr) (b off m cap:Nat) (hm:m≤1000000000) (hcap:m≤cap) (el:Nat→Value × Value × Value × Value) (l:Nat) (J Jx:List (Fin m)→World→Prop)
    (hJk:∀ pre W,J pre W→W.heap[kb]? = some (.cells #[.slice a m cap] 26)∧∀ i,i<m→a=some ⟨b,off,none⟩∧W.cell? ⟨b,off+i * 4,none⟩=some (el i).1∧W.cell? ⟨b,off+i * 4+1,none⟩=some (el i).2.1∧W.cell? ⟨b,off+i * 4+2,none⟩=some (el i).2.2.1∧W.cell? ⟨b,off+i * 4+3,none⟩=some (el i).2.2.2)
    (hY:∀ pre x W,J pre W→pre.length<m→YieldAt Fence.wide 7 Tryz.prog l #[.int .i64 (x.1:Int),.agg #[(el x.1).1,(el x.1).2.1,(el x.1).2.2.1,(el x.1).2.2.2]] W fun e W' =>
      (e=.returned (.bool true)∧J (pre++[x]) W')∨(e=.returned (.bool false)∧Jx (pre++[x]) W'))
    (W:World) (h0:J [] W) :
    CallsIn Fence.wide 8 Tryz.prog 95 #[.func (.yield l) #[] #[],.pointer (some ⟨kb,0,none⟩)] W fun e W'=>(∃ v,e=.returned v) ∧
      ((∃ ys,ys=downF m∧J ys W')∨(∃ pre,(∃ k,k≤m∧pre=downF k)∧Jx pre W')):=by
  have hc0:=(hJk _ _ h0).1
  have hcx0:W.cell? ⟨kb,0,none⟩=some (.slice a m cap):=by unfold World.cell?; rw [hc0]; rfl
  refine callsIn_of_wp Tryz.func95 rfl trivial ?_ rfl
  simp only [Tryz.ntmps95,List.size_toArray,List.length_cons,List.length_nil,Nat.reduceAdd,Nat.reduceSub,Array.replicate_succ,Array.replicate_zero,List.push_toArray,List.append_toArray,List.nil_append,List.cons_append]
  gi_wp2
  gi_loopw [3] (fun i wr=>∃ (k:Nat),k≤m∧i=.int .i64 ((m:Int) - 1 - (k:Int))∧J (downF k) wr)
    (fun i _=>(intOf i+1).toNat)
  case atStart=>exact ⟨0,Nat.zero_le _,by simp,by simpa [downF] using h0⟩
  case round =>
    obtain ⟨k,hk,rfl,hJs⟩:=hrel
    obtain ⟨hc1,hel⟩:=hJk _ _ hJs
    have hcx:wr.cell? ⟨kb,0,none⟩=some (.slice a m cap):=by unfold World.cell?; rw [hc1]; rfl
    by_cases hlt:k<m
    · obtain ⟨rfl,e0,e1,e2,e3⟩:=hel (m - 1 - k) (by omega)
      obtain ⟨fn,tmps,assign,body,hy,hR⟩:=hY _ ⟨m - 1 - k,by omega⟩ wr hJs (by rw [downF_len _ hk]; exact hlt)
      dsimp only at hy
      rw [show ((m - 1 - k:Nat):Int)=(m:Int) - 1 - (k:Int) by omega] at hy
      gi_wp2
      refine hR.mono ?_
      rintro e W3 (⟨rfl,hJ3⟩ | ⟨rfl,hJx3⟩)
      · gi_wp2
        go_roundw
        case rel=>exact ⟨k+1,hlt,by rw [Int.natCast_add]; congr 1; omega,by rw [P7 k hlt]; exact hJ3⟩
        case measure=>simp [intOf]; omega
      · gi_wp2
        refine bodyPost_ret (results_none rfl _ _ _) rfl ?_
        exact ⟨⟨_,rfl⟩,.inr ⟨_,⟨k+1,hlt,(P7 k hlt).symm⟩,hJx3⟩⟩
    · obtain rfl:k=m:=by omega
      gi_wp2
      go_end0
      exact ⟨⟨_,rfl⟩,.inl ⟨_,rfl,hJs⟩⟩
def elC (cs:List Value) (i:Nat):Value × Value × Value × Value:=(cs.getD (i * 4) undef,cs.getD (i * 4+1) undef,cs.getD (i * 4+2) undef,cs.getD (i * 4+3) undef)
theorem backw_stops (kb:Nat) (a:Option Addr) (m cap:Nat) (hm:m≤1000000000) (hcap:m≤cap) (cs:List Value) (S:Nat→Obj→Prop) (hrd:Rd S a cs) (hlen:m * 4≤cs.length) (W0:World) (H:List Grp) (hS:∀ y o,S y o→At W0 H y o)
    (hk:(kb,Obj.cells #[.slice a m cap] 26 (0,0))∈H.flatten) (w:World) (hs:Sat W0 H w) :
    SeqStopsK Fence.wide 8 Tryz.prog 95 #[.pointer (some ⟨kb,0,none⟩)] (fun x:Fin m=>#[.int .i64 (x.1:Int),.agg #[(elC cs x.1).1,(elC cs x.1).2.1,(elC cs x.1).2.2.1,(elC cs x.1).2.2.2]])
      (KeepB W0 H) (fun xs=>xs=downF m) (fun pre=>∃ k,k≤m∧pre=downF k) m w:=by
  intro l J Jx W hW hJ hJx hY h0
  have at_:∀ y o,At W0 H y o→W.heap[y]? = some o:=by
    intro y o h
    rcases h with ⟨h1,h2⟩ | h
    · have h3:w.heap[y]? = some o:=(hs.below.block y h1).trans h2
      exact (hW.block y (Array.getElem?_eq_some_iff.1 h3).1).trans h3
    · have h3:=hs.has _ h
      exact (hW.block y (Array.getElem?_eq_some_iff.1 h3).1).trans h3
  have keep:∀ W1 W2:World,KeepB W0 H W1 W2→(∀ y o,At W0 H y o→W1.heap[y]? = some o)→∀ y o,At W0 H y o→W2.heap[y]? = some o:=by
    rintro W1 W2 ⟨k1,k2⟩ h1 y o h
    rcases h with ⟨a1,a2⟩ | h
    · exact k2 y o a1 a2
    · exact k1 (y,o) h (h1 y o (.inr h))
  have hb:∃ b off,∀ W':World,(∀ y o,At W0 H y o→W'.heap[y]? = some o)→∀ i,i<m→a=some ⟨b,off,none⟩∧W'.cell? ⟨b,off+i * 4,none⟩=some (elC cs i).1∧W'.cell? ⟨b,off+i * 4+1,none⟩=some (elC cs i).2.1∧W'.cell? ⟨b,off+i * 4+2,none⟩=some (elC cs i).2.2.1∧W'.cell? ⟨b,off+i * 4+3,none⟩=some (elC cs i).2.2.2:=by
    rcases hrd with hn | ⟨b,off,c,t,z,rfl,h2,h3⟩
    · refine ⟨0,0,fun W' _ i hi=>?_⟩
      rw [hn,List.length_nil] at hlen; omega
    · refine ⟨b,off,fun W' hW' i hi=>?_⟩
      have h4:=hW' b _ (hS b _ h2)
      have cell:∀ j,j<m * 4→W'.cell? ⟨b,off+j,none⟩=some (cs.getD j undef):=by
        intro j hj
        have hjl:j<cs.length:=by omega
        have h5:=h3 j (cs.getD j undef) (by rw [List.getD_eq_getElem?_getD,List.getElem?_eq_getElem hjl]; rfl)
        unfold World.cell?; rw [show (⟨b,off+j,none⟩:Addr).block=b from rfl,h4]; exact h5
      exact ⟨rfl,cell _ (by omega),cell (i * 4+1) (by omega),cell (i * 4+2) (by omega),cell (i * 4+3) (by omega)⟩
  obtain ⟨b,off,hel⟩:=hb
  have hkey:=backw_in kb a b off m cap hm hcap (elC cs) l (fun pre W=>J pre W∧∀ y o,At W0 H y o→W.heap[y]? = some o) Jx
    (fun pre W h=>⟨h.2 kb _ (.inr hk),hel W h.2⟩)
    (fun pre x W h hlen=>by
      obtain ⟨fn,tmps,assign,body,h1,h2⟩:=hY pre x W h.1 hlen
      refine ⟨fn,tmps,assign,body,h1,h2.mono ?_⟩
      rintro e W' (⟨he,hJ',hK⟩ | hx)
      · exact .inl ⟨he,hJ',keep W W' hK h.2⟩
      · exact .inr hx)
    W ⟨h0,at_⟩
  refine hkey.mono ?_
  rintro e W' ⟨h1,h2 | h2⟩
  · obtain ⟨ys,e1,e2,_⟩:=h2
    exact ⟨h1,.inl ⟨ys,e1,e2⟩⟩
  · exact ⟨h1,.inr h2⟩
end Go.Proofs.YtppgfiklmfoaeaaGreatDoor
namespace Go.Proofs.YtppgfiklmfoaeaaGreatDoor
open Go.Sw Go.Sha Go.Esc Go.RowKit Go.Json
theorem getM_down {name:List UInt8} {ns:List (List UInt8)} {l:List JV} {m:Nat} (hm:m≤ns.length) (hl:m≤l.length):∀ (k:Nat),k≤m→(∀ q:Fin m,q∈downF (m:=m) k→ns.getD q.1 []≠name)→getM name (ns.take m) (l.take m)=getM name (ns.take (m - k)) (l.take (m - k))
  | 0,_,_=>rfl
  | k+1,hk,h=>by
    rw [getM_down hm hl k (by omega) (fun q hq=>h q (by rw [P7 k hk]; exact List.mem_append_left _ hq))]
    have h1:=h ⟨m - 1 - k,by omega⟩ (by rw [P7 k hk]; exact List.mem_append_right _ (List.mem_singleton.2 rfl))
    rw [show m - k=m - 1 - k+1 by omega,P5 name (show m - 1 - k<ns.length by omega) (show m - 1 - k<l.length by omega),if_neg,show m - (k+1)=m - 1 - k by omega]
    have h2:m - 1 - k<ns.length:=by omega
    simpa [List.getD,h2] using h1
theorem getP_no {x:JV} (h:x.kind≠6) (name:List UInt8):getP x name=none:=by unfold getP; rw [if_neg h]
theorem getP_all {x:JV} (h:x.kind=6) (name:List UInt8) {m:Nat} (hm:m=min x.list.length x.names.length):getP x name=getM name (x.names.take m) (x.list.take m):=by
  unfold getP; rw [if_pos h,getM_take name x.names x.list,hm,Nat.min_comm]
theorem getP_none {x:JV} (h:x.kind=6) {name:List UInt8} {m:Nat} (hm:m=min x.list.length x.names.length) (hn:∀ q:Fin m,q∈downF (m:=m) m→x.names.getD q.1 []≠name):getP x name=none:=by
  rw [getP_all h name hm,getM_down (by omega) (by omega) m (Nat.le_refl _) hn,Nat.sub_self]; rfl
theorem getP_some {x:JV} (h:x.kind=6) {name:List UInt8} {m:Nat} (hm:m=min x.list.length x.names.length) {pre pre0:List (Fin m)} {z:Fin m} {k:Nat} (hk:k≤m) (hp:pre=downF k) (h0:pre=pre0++[z]) (hn:∀ q∈pre0,x.names.getD q.1 []≠name) (hz:x.names.getD z.1 []=name) (hlt:z.1<x.list.length):getP x name=some x.list[z.1]:=by
  have hz0:=z.2
  cases k with
  | zero =>
    have:=congrArg List.length (hp.symm.trans h0)
    rw [downF_len _ hk] at this; simp at this
  | succ j =>
    rw [hp,P7 j hk] at h0
    obtain ⟨e1,e2⟩:=List.append_inj h0 (by
      have:=congrArg List.length h0
      simpa using this)
    injection e2 with e2 _
    have e3:z.1=m - 1 - j:=by rw [← e2]
    rw [getP_all h name hm,getM_down (by omega) (by omega) j (by omega) (fun q hq=>hn q (by rw [← e1]; exact hq)),show m - j=z.1+1 by omega,P5 name (show z.1<x.names.length by omega) hlt,if_pos]
    have h2:z.1<x.names.length:=by omega
    simpa [List.getD,h2] using hz
theorem cutA_zero (a:Option Addr) (cap sz:Nat):cutA a cap 0 sz=a:=by
  unfold cutA
  split
  · rfl
  · cases a with
    | none=>rfl
    | some a=>simp [Addr.add]
theorem elC_take {cs:List Value} {i:Nat} {a b c d:Value} (h:(cs.drop (i * 4)).take 4=[a,b,c,d]):elC cs i=(a,b,c,d):=by
  have h2:=elt4 h
  have g:∀ m (hm:m<4),cs.getD (i * 4+m) undef=[a,b,c,d].getD m undef:=by
    intro m hm
    have:=h2 m hm
    rw [List.getD_eq_getElem?_getD,this,List.getD_eq_getElem?_getD,List.getElem?_eq_getElem hm]
  have g0:=g 0 (by decide)
  have g1:=g 1 (by decide)
  have g2:=g 2 (by decide)
  have g3:=g 3 (by decide)
  unfold elC
  rw [Nat.add_zero] at g0
  rw [g0,g1,g2,g3]; rfl
theorem backward_ (a:Option Addr) (n c:Nat) (W0:World) (H:List Grp):Tri Tryz.prog 57 #[.slice a n c] W0 H (fun v H'=>∃ kb,v=.func (.func 95) #[] #[pt kb]∧H'=[(kb,.cells #[.slice a n c] 26 (0,0))]::H):=by
 refine C6 (args:=[.slice a n c]) (n:=4) Tryz.func57 rfl rfl (Nat.le_of_ble_eq_true rfl) ?_
 refine A1 (A2 ?_)
 refine G7 (ch:=[]) (v:=.slice a n c) (k:=(fun b1=>?_))
 refine B1 (E':=[⟨1,[],pt b1⟩]) [0] [1] (k:=A0 ?_)
 refine A1 (B7 (E':=[⟨2,[],.func (.func 95) #[] #[pt b1]⟩]) [0,0] [2] (k:=?_))
 refine A0 (B5 ?_)
 refine B6 [.tmp 2] [.func (.func 95) #[] #[pt b1]] (k:=?_)
 exact ⟨b1,rfl,rfl⟩
theorem perm3 {α:Type} (a b c:α) (l:List α):(c::a::b::l).Perm (a::b::c::l):=((List.Perm.swap a c (b::l)).trans ((List.Perm.swap b c l).cons a))
theorem jrd_nul {S:Nat→Obj→Prop}:JRd S nul [.int .i64 0,.string (ByteArray.mk #[]),.slice none 0 0,.slice none 0 0]:=.mk (ns:=[]) (l:=[]) (.inl rfl) (.inl rfl) .nil
theorem jrd_mk {S:Nat→Obj→Prop} {y:JV} {an al:Option Addr} {cn cl:Nat} {cs:List Value} (h1:Rd S an (E7 y.names)) (h2:Rd S al cs) (h3:JRdL S y.list cs):JRd S y (jvC y an cn al cl):=by
  cases y; exact .mk h1 h2 h3
theorem jget_ (x:JV) (an:Option Addr) (cn:Nat) (al:Option Addr) (cl:Nat) (cs:List Value) (S:Nat→Obj→Prop) (hrn:Rd S an (E7 x.names)) (hrl:Rd S al cs) (hrc:JRdL S x.list cs) (hcl:x.list.length≤cl) (hcn:cnJ x≤1000000000) (name:List UInt8) (W0:World) (H:List Grp) (hS:∀ y o,S y o→At W0 H y o):Tri Tryz.prog 25 #[.agg #[.int .i64 x.kind,.string (bk x.text),.slice an x.names.length cn,.slice al x.list.length cl],.string (bk name)] W0 H (fun v H'=>∃ c0 c1 c2 c3,JRd S ((getP x name).getD nul) [c0,c1,c2,c3]∧v=.tuple #[.agg #[c0,c1,c2,c3],.bool (getP x name).isSome]∧H'=H):=by
  have hxl:=H8 x
  refine Tri_ofM (args:=[.agg #[.int .i64 x.kind,.string (bk x.text),.slice an x.names.length cn,.slice al x.list.length cl],.string (bk name)]) (n:=34) Tryz.func25 rfl rfl (Nat.le_of_ble_eq_true rfl) ?_
  refine A1 (A2 ?_)
  refine G7 (ch:=[]) (v:=.agg #[.int .i64 x.kind,.string (bk x.text),.slice an x.names.length cn,.slice al x.list.length cl]) (k:=(fun b1=>?_))
  refine G7 (ch:=[]) (v:=.string (bk name)) (k:=(fun b2=>?_))
  refine F5 (ch:=[]) (z:=.agg #[.int .i64 0,.string (ByteArray.mk #[]),.slice none 0 0,.slice none 0 0]) (k:=(fun b3=>?_))
  refine F5 (ch:=[]) (z:=.bool false) (k:=(fun b4=>?_))
  refine B0 [] [2,3,4,5] (k:=A0 ?_)
  refine A1 (A1 ?_)
  refine A2 (A4 (j:=1) [0] (k:=?_))
  refine A5 (ch:=[]) (b:=b1) (off:=0) (v:=.int .i64 x.kind) (hA:=At.grp 3 0 rfl rfl) (k:=B0 [0] [2,3,4,5,10] (k:=?_))
  refine A0 (B2 (b:=x.kind != 6) kr (fun hc5=>?_) (fun hc5=>?_))
  ·
    simp only [bne_iff_ne,ne_eq] at hc5
    have hG:=getP_no hc5 name
    refine A1 (A2 ?_)
    refine A4 (j:=1) [0] (k:=E9 (ch:=[]) (b:=b3) (off:=0) (v:=.agg #[.int .i64 0,.string (ByteArray.mk #[]),.slice none 0 0,.slice none 0 0]) (j:=1) ([(b4,.cells #[.bool false] 4 (0,0))]::[(b3,.cells #[.int .i64 0,.string (ByteArray.mk #[]),.slice none 0 0,.slice none 0 0] 28 (0,0))]::[(b2,.cells #[.string (bk name)] 9 (0,0))]::[(b1,.cells #[.int .i64 x.kind,.string (bk x.text),.slice an x.names.length cn,.slice al x.list.length cl] 28 (0,0))]::H) (hoff:=Nat.le_of_ble_eq_true rfl) (hfz:=(fun _ _=>E3)) (k:=?_))
    refine E9 (ch:=[]) (b:=b4) (off:=0) (v:=.bool false) (j:=0) ([(b4,.cells #[.bool false] 4 (0,0))]::[(b3,.cells #[.int .i64 0,.string (ByteArray.mk #[]),.slice none 0 0,.slice none 0 0] 28 (0,0))]::[(b2,.cells #[.string (bk name)] 9 (0,0))]::[(b1,.cells #[.int .i64 x.kind,.string (bk x.text),.slice an x.names.length cn,.slice al x.list.length cl] 28 (0,0))]::H) (hoff:=Nat.le_of_ble_eq_true rfl) (hfz:=(fun _ _=>E3)) (k:=B1 (E':=[⟨4,[],pt b3⟩,⟨5,[],pt b4⟩]) [] [4,5] (k:=?_))
    refine A0 (B5 ?_)
    refine A3 (N_retM0 [.cell 4 28,.cell 5 4] [.agg #[.int .i64 0,.string (ByteArray.mk #[]),.slice none 0 0,.slice none 0 0],.bool false] rfl (.cons (.agg (b:=b3) (off:=0) (l:=[.int .i64 0,.string (ByteArray.mk #[]),.slice none 0 0,.slice none 0 0]) kr kr kr (At.grp 1 0 rfl rfl) kr) (.cons (.one (b:=b4) (off:=0) kr kr (At.grp 0 0 rfl rfl) rfl) (.nil))) rfl ⟨H,?_,fun w h=>((((h.erase 0).erase 0).erase 0).erase 0)⟩)
    rw [hG]; exact ⟨_,_,_,_,jrd_nul,rfl,rfl⟩
  ·
    simp only [bne_eq_false_iff_eq] at hc5
    have hk6:x.kind=6:=hc5
    obtain ⟨m,hm⟩:∃ m,m=min x.list.length x.names.length:=⟨_,rfl⟩
    refine A8 (A0 ?_)
    refine A1 (A1 ?_)
    refine A2 (A4 (j:=1) [0] (k:=?_))
    refine A5 (ch:=[]) (b:=b1) (off:=3) (v:=.slice al x.list.length cl) (hA:=At.grp 3 0 rfl rfl) (k:=A4 (j:=3) [0] (k:=?_))
    refine A5 (ch:=[]) (b:=b1) (off:=3) (v:=.slice al x.list.length cl) (hA:=At.grp 3 0 rfl rfl) (k:=A4 (j:=6) [0,0] (k:=?_))
    refine A5 (ch:=[]) (b:=b1) (off:=2) (v:=.slice an x.names.length cn) (hA:=At.grp 3 0 rfl rfl) (k:=C0 (E':=[⟨20,[],.int .i64 (if ((x.names.length:Nat):Int)<((x.list.length:Nat):Int) then ((x.names.length:Nat):Int) else ((x.list.length:Nat):Int))⟩,⟨13,[],.slice al x.list.length cl⟩,⟨2,[],pt b1⟩,⟨3,[],pt b2⟩,⟨4,[],pt b3⟩,⟨5,[],pt b4⟩]) (j:=9) [0,0] (k:=?_))
    refine C4 (E':=[⟨20,[],.int .i64 ((m:Nat):Int)⟩,⟨13,[],.slice al x.list.length cl⟩,⟨2,[],pt b1⟩,⟨3,[],pt b2⟩,⟨4,[],pt b3⟩,⟨5,[],pt b4⟩]) (by rw [show (if ((x.names.length:Nat):Int)<((x.list.length:Nat):Int) then ((x.names.length:Nat):Int) else ((x.list.length:Nat):Int))=((m:Nat):Int) by (split <;> omega)]) (GL_sliceL (i:=9) (ch:=[]) (a:=al) (len:=x.list.length) (cap:=cl) (e:=28) (sz:=4) (vl:=none) (vh:=(some (.int .i64 ((m:Nat):Int)))) (l:=0) (h:=((m:Nat):Int)) rfl rfl kr kr kr kr kr kr kr kr kr kr (by intro _; exact ⟨by omega,by omega,by omega⟩) ?_)
    refine C4 (E':=[⟨21,[],.slice al m cl⟩,⟨20,[],.int .i64 ((m:Nat):Int)⟩,⟨13,[],.slice al x.list.length cl⟩,⟨2,[],pt b1⟩,⟨3,[],pt b2⟩,⟨4,[],pt b3⟩,⟨5,[],pt b4⟩]) (by have hz:([⟨21,[],.slice (cutA al cl 0 4) (m - 0) (cl - 0)⟩,⟨20,[],.int .i64 ((m:Nat):Int)⟩,⟨13,[],.slice al x.list.length cl⟩,⟨2,[],pt b1⟩,⟨3,[],pt b2⟩,⟨4,[],pt b3⟩,⟨5,[],pt b4⟩]:List Sl)=[⟨21,[],.slice al m cl⟩,⟨20,[],.int .i64 ((m:Nat):Int)⟩,⟨13,[],.slice al x.list.length cl⟩,⟨2,[],pt b1⟩,⟨3,[],pt b2⟩,⟨4,[],pt b3⟩,⟨5,[],pt b4⟩]:=(by rw [cutA_zero]; rfl); exact Eq.trans kr hz) (D8 Tryz.func57 (backward_ al m cl _ _) ?_)
    rintro _ _ ⟨kb6,rfl,rfl⟩
    refine B0 [] [2,3,4,5,22] (k:=A0 ?_)
    refine B9 (G_env (E':=[⟨2,[],pt b1⟩,⟨3,[],pt b2⟩,⟨4,[],pt b3⟩,⟨5,[],pt b4⟩,⟨22,[],.func (.func 95) #[] #[pt kb6]⟩]) kr ?_)
    have hHm:((kb6,Obj.cells #[.slice al m cl] 26 (0,0)):Nat × Obj)∈(([(kb6,.cells #[.slice al m cl] 26 (0,0))]::[(b4,.cells #[.bool false] 4 (0,0))]::[(b3,.cells #[.int .i64 0,.string (ByteArray.mk #[]),.slice none 0 0,.slice none 0 0] 28 (0,0))]::[(b2,.cells #[.string (bk name)] 9 (0,0))]::[(b1,.cells #[.int .i64 x.kind,.string (bk x.text),.slice an x.names.length cn,.slice al x.list.length cl] 28 (0,0))]::H):List Grp).flatten:=List.mem_flatten.2 ⟨_,List.mem_of_getElem? (i:=0) rfl,List.mem_singleton.2 rfl⟩
    refine G_rangeFunc2 (α:=Fin m) (β:=Nat) (gf:=95) (lb:=#[pt kb6]) (encs:=fun z:Fin m=>#[.int .i64 (z.1:Int),.agg #[(elC cs z.1).1,(elC cs z.1).2.1,(elC cs z.1).2.2.1,(elC cs z.1).2.2.2]]) (S:=fun xs=>xs=downF m) (Sp:=fun pre=>∃ k,k≤m∧pre=downF k) (N0:=m) rfl kr (enters_of Tryz.func95 kr rfl) ([(kb6,.cells #[.slice al m cl] 26 (0,0))]::[(b4,.cells #[.bool false] 4 (0,0))]::[(b3,.cells #[.int .i64 0,.string (ByteArray.mk #[]),.slice none 0 0,.slice none 0 0] 28 (0,0))]::[(b2,.cells #[.string (bk name)] 9 (0,0))]::[(b1,.cells #[.int .i64 x.kind,.string (bk x.text),.slice an x.names.length cn,.slice al x.list.length cl] 28 (0,0))]::H) (fun _ hp=>hp) (fun w hs=>backw_stops kb6 al m cl (by omega) (by omega) cs S hrl (by rw [hrc.len]; omega) W0 ([(kb6,.cells #[.slice al m cl] 26 (0,0))]::[(b4,.cells #[.bool false] 4 (0,0))]::[(b3,.cells #[.int .i64 0,.string (ByteArray.mk #[]),.slice none 0 0,.slice none 0 0] 28 (0,0))]::[(b2,.cells #[.string (bk name)] 9 (0,0))]::[(b1,.cells #[.int .i64 x.kind,.string (bk x.text),.slice an x.names.length cn,.slice al x.list.length cl] 28 (0,0))]::H) (fun y o h=>At.cons (At.cons (At.cons (At.cons (At.cons (hS y o h)))))) hHm w hs) (fun _=>([(kb6,.cells #[.slice al m cl] 26 (0,0))]::[(b4,.cells #[.bool false] 4 (0,0))]::[(b3,.cells #[.int .i64 0,.string (ByteArray.mk #[]),.slice none 0 0,.slice none 0 0] 28 (0,0))]::[(b2,.cells #[.string (bk name)] 9 (0,0))]::[(b1,.cells #[.int .i64 x.kind,.string (bk x.text),.slice an x.names.length cn,.slice al x.list.length cl] 28 (0,0))]::H)) (fun c pre H'=>c=.ret∧∃ pre0 z,pre=pre0++[z]∧(fun pre:List (Fin m)=>∀ q∈pre,x.names.getD q.1 []≠name) pre0∧x.names.getD z.1 []=name∧H'=([(kb6,.cells #[.slice al m cl] 26 (0,0))]::[(b4,.cells #[.bool true] 4 (0,0))]::[(b3,.cells #[(elC cs z.1).1,(elC cs z.1).2.1,(elC cs z.1).2.2.1,(elC cs z.1).2.2.2] 28 (0,0))]::[(b2,.cells #[.string (bk name)] 9 (0,0))]::[(b1,.cells #[.int .i64 x.kind,.string (bk x.text),.slice an x.names.length cn,.slice al x.list.length cl] 28 (0,0))]::H)) rfl (fun pre:List (Fin m)=>∀ q∈pre,x.names.getD q.1 []≠name) (fun q hq=>by cases hq) (fun _ _ hp=>hp) (fun _ _ hp=>.inr hp) ?_ (fun _=>rfl) (fun t ht=>by rcases (by simpa using ht:t=23∨t=24) with rfl | rfl <;> exact Nat.le_of_ble_eq_true rfl) (fun z y7=>[⟨2,[],pt b1⟩,⟨3,[],pt b2⟩,⟨4,[],pt b3⟩,⟨5,[],pt b4⟩,⟨6,[],.int .i64 (z.1:Int)⟩,⟨7,[],pt y7⟩]) (fun z y7 _=>([(y7,.cells #[(elC cs z.1).1,(elC cs z.1).2.1,(elC cs z.1).2.2.1,(elC cs z.1).2.2.2] 28 (0,0))]::([(kb6,.cells #[.slice al m cl] 26 (0,0))]::[(b4,.cells #[.bool false] 4 (0,0))]::[(b3,.cells #[.int .i64 0,.string (ByteArray.mk #[]),.slice none 0 0,.slice none 0 0] 28 (0,0))]::[(b2,.cells #[.string (bk name)] 9 (0,0))]::[(b1,.cells #[.int .i64 x.kind,.string (bk x.text),.slice an x.names.length cn,.slice al x.list.length cl] 28 (0,0))]::H))) ?_ ?_ ?_ ?_
    ·
      rintro c xs H' ⟨_,pre0,z,_,_,_,rfl⟩ p hp
      simp only [List.flatten_cons,List.mem_append,List.mem_singleton] at hp
      rcases hp with rfl | rfl | rfl | rfl | rfl | hp
      · exact .inl rfl
      · exact .inl rfl
      · exact .inl rfl
      · exact .inl rfl
      · exact .inl rfl
      · exact .inr (by simp only [List.flatten_cons,List.mem_append]; exact .inr (.inr (.inr (.inr (.inr (hp))))))
    ·
      intro r L D pre z hI
      have hzm9:z.1<x.list.length:=by have:=z.2; omega
      obtain ⟨y9,yan9,ycn9,yal9,ycl9,ycs9,hyx9,hye9,_,_,_⟩:=hrc.get hzm9
      have hE9:=elC_take hye9
      have h1c:((Value.agg #[(elC cs z.1).1,(elC cs z.1).2.1,(elC cs z.1).2.2.1,(elC cs z.1).2.2.2]).cells.toList.all Value.oneCell')=true:=by rw [hE9]; rfl
      refine GR_seq (GR_region rfl (fun _ _ h=>by cases h.1) ?_)
      refine B1 (E':=[⟨2,[],pt b1⟩,⟨3,[],pt b2⟩,⟨4,[],pt b3⟩,⟨5,[],pt b4⟩,⟨6,[],.int .i64 (z.1:Int)⟩,⟨24,[],(.agg #[(elC cs z.1).1,(elC cs z.1).2.1,(elC cs z.1).2.2.1,(elC cs z.1).2.2.2])⟩]) [0] [2,3,4,5,6,24] (k:=NR_then ?_)
      refine GR_region rfl (fun _ _ h=>by cases h.1) (F5 (ch:=[]) (z:=.agg #[.int .i64 0,.string (ByteArray.mk #[]),.slice none 0 0,.slice none 0 0]) (k:=(fun y7=>?_)))
      refine M6 (ch:=[]) (b:=y7) (off:=0) (v:=.agg #[(elC cs z.1).1,(elC cs z.1).2.1,(elC cs z.1).2.2.1,(elC cs z.1).2.2.2]) (c:=#[.int .i64 0,.string (ByteArray.mk #[]),.slice none 0 0,.slice none 0 0]) (c':=#[(elC cs z.1).1,(elC cs z.1).2.1,(elC cs z.1).2.2.1,(elC cs z.1).2.2.2]) (j:=0) (m:=0) (H':=([(y7,.cells #[(elC cs z.1).1,(elC cs z.1).2.1,(elC cs z.1).2.2.1,(elC cs z.1).2.2.2] 28 (0,0))]::L::D::[(kb6,.cells #[.slice al m cl] 26 (0,0))]::[(b4,.cells #[.bool false] 4 (0,0))]::[(b3,.cells #[.int .i64 0,.string (ByteArray.mk #[]),.slice none 0 0,.slice none 0 0] 28 (0,0))]::[(b2,.cells #[.string (bk name)] 9 (0,0))]::[(b1,.cells #[.int .i64 x.kind,.string (bk x.text),.slice an x.names.length cn,.slice al x.list.length cl] 28 (0,0))]::H)) (h1:=h1c) (hoff:=Nat.le_of_ble_eq_true rfl) (hfz:=(fun _ _=>E3)) (hc':=kr) (k:=B0 [] [2,3,4,5,6,7] (k:=?_))
      exact fun a w ha hs=>⟨rfl,y7,ha,hs.perm (by exact perm3 _ _ _ _)⟩
    ·
      intro r L D pre z y7 hlen hI
      have hzm:=z.2
      have hzn:z.1<x.names.length:=by omega
      have hzl:z.1<x.list.length:=by omega
      obtain ⟨nm,hnm⟩:∃ nm,nm=x.names[z.1]'hzn:=⟨_,rfl⟩
      have hnmD:x.names.getD z.1 []=nm:=by rw [hnm]; simp [List.getD,hzn]
      have hzm9:z.1<x.list.length:=by have:=z.2; omega
      obtain ⟨y9,yan9,ycn9,yal9,ycl9,ycs9,hyx9,hye9,_,_,_⟩:=hrc.get hzm9
      have hE9:=elC_take hye9
      have h1c:((Value.agg #[(elC cs z.1).1,(elC cs z.1).2.1,(elC cs z.1).2.2.1,(elC cs z.1).2.2.2]).cells.toList.all Value.oneCell')=true:=by rw [hE9]; rfl
      refine GR_block (GR_seq ?_)
      refine GR_regionD (by kernel_rfl) (by kernel_rfl) rfl (fun _ _ h=>h) (A4 (j:=1) [0] (k:=?_))
      refine A5 (ch:=[]) (b:=b1) (off:=2) (v:=.slice an x.names.length cn) (hA:=At.grp 7 0 rfl rfl) (k:=A4 (j:=3) [0] (k:=?_))
      refine D0 (ch:=[]) (a:=an) (len:=x.names.length) (cap:=cn) (kd:=.i64) (j:=(z.1:Int)) (e:=9) (sz:=1) (S:=S) (cs:=(E7 x.names)) (hrd:=hrn) (hb:=(fun _=>by exact ⟨by omega,by omega,I4 hzn⟩)) (k:=I1 (ch:=[]) (a:=an) (q:=(Int.toNat (z.1:Int)) * 1) (S:=S) (cs:=(E7 x.names)) (v:=.string (bk nm)) (hrd:=hrn) (hS:=(fun y o h=>(At.cons (At.cons (At.cons (At.cons (At.cons (At.cons (At.cons (At.cons (hS y o h))))))))))) (hv:=(fun _=>(L7 hzn hnm))) (k:=?_))
      refine A5 (ch:=[]) (b:=b2) (off:=0) (v:=.string (bk name)) (hA:=At.grp 6 0 rfl rfl) (k:=B0 [0] [2,3,4,5,6,7,31] (k:=?_))
      refine NR_then (GR_cond (b:=(bk nm).toList==(bk name).toList) (by kernel_rfl) (fun hc=>?_) (fun hc=>?_))
      ·
        have hz:x.names.getD z.1 []=name:=by rw [hnmD]; exact (eqB (bk nm) (bk name)).1 hc
        refine GR_seq (GR_region rfl (fun _ _ h=>h) ?_)
        refine D3 (ch:=[]) (b:=y7) (off:=0) (l:=[(elC cs z.1).1,(elC cs z.1).2.1,(elC cs z.1).2.2.1,(elC cs z.1).2.2.2]) (hA:=At.grp 2 0 rfl rfl) (k:=M6 (ch:=[]) (b:=b3) (off:=0) (v:=.agg #[(elC cs z.1).1,(elC cs z.1).2.1,(elC cs z.1).2.2.1,(elC cs z.1).2.2.2]) (c:=#[.int .i64 0,.string (ByteArray.mk #[]),.slice none 0 0,.slice none 0 0]) (c':=#[(elC cs z.1).1,(elC cs z.1).2.1,(elC cs z.1).2.2.1,(elC cs z.1).2.2.2]) (j:=5) (m:=0) (H':=(L::D::[(y7,.cells #[(elC cs z.1).1,(elC cs z.1).2.1,(elC cs z.1).2.2.1,(elC cs z.1).2.2.2] 28 (0,0))]::[(kb6,.cells #[.slice al m cl] 26 (0,0))]::[(b4,.cells #[.bool false] 4 (0,0))]::[(b3,.cells #[(elC cs z.1).1,(elC cs z.1).2.1,(elC cs z.1).2.2.1,(elC cs z.1).2.2.2] 28 (0,0))]::[(b2,.cells #[.string (bk name)] 9 (0,0))]::[(b1,.cells #[.int .i64 x.kind,.string (bk x.text),.slice an x.names.length cn,.slice al x.list.length cl] 28 (0,0))]::H)) (h1:=h1c) (hoff:=Nat.le_of_ble_eq_true rfl) (hfz:=(fun _ _=>E3)) (hc':=kr) (k:=?_))
        refine E9 (ch:=[]) (b:=b4) (off:=0) (v:=.bool true) (j:=4) (L::D::[(y7,.cells #[(elC cs z.1).1,(elC cs z.1).2.1,(elC cs z.1).2.2.1,(elC cs z.1).2.2.2] 28 (0,0))]::[(kb6,.cells #[.slice al m cl] 26 (0,0))]::[(b4,.cells #[.bool true] 4 (0,0))]::[(b3,.cells #[(elC cs z.1).1,(elC cs z.1).2.1,(elC cs z.1).2.2.1,(elC cs z.1).2.2.2] 28 (0,0))]::[(b2,.cells #[.string (bk name)] 9 (0,0))]::[(b1,.cells #[.int .i64 x.kind,.string (bk x.text),.slice an x.names.length cn,.slice al x.list.length cl] 28 (0,0))]::H) (hoff:=Nat.le_of_ble_eq_true rfl) (hfz:=(fun _ _=>E3)) (k:=B1 (E':=[]) [] [] (k:=?_))
        refine NR_then (GR_ret ?_)
        exact fun a w ha hs=>⟨_,⟨rfl,pre,z,rfl,hI,hz,rfl⟩,(hs.erase 2)⟩
      ·
        have hz:¬ x.names.getD z.1 []=name:=by rw [hnmD]; exact (eqBf (bk nm) (bk name)).1 hc
        refine GR_skip ?_
        exact fun a w ha hs=>⟨fun q hq=>by rcases List.mem_append.1 hq with hq | hq; exact hI q hq; rw [List.mem_singleton.1 hq]; exact hz,(hs.erase 2)⟩
    ·
      rintro D1 xs rfl hI
      have hG:getP x name=none:=getP_none hk6 hm hI
      refine B8 (A0 ?_)
      refine A1 (A2 ?_)
      refine A4 (j:=1) [0] (k:=E9 (ch:=[]) (b:=b3) (off:=0) (v:=.agg #[.int .i64 0,.string (ByteArray.mk #[]),.slice none 0 0,.slice none 0 0]) (j:=3) ([(D1,.deferred (some []))]::[(kb6,.cells #[.slice al m cl] 26 (0,0))]::[(b4,.cells #[.bool false] 4 (0,0))]::[(b3,.cells #[.int .i64 0,.string (ByteArray.mk #[]),.slice none 0 0,.slice none 0 0] 28 (0,0))]::[(b2,.cells #[.string (bk name)] 9 (0,0))]::[(b1,.cells #[.int .i64 x.kind,.string (bk x.text),.slice an x.names.length cn,.slice al x.list.length cl] 28 (0,0))]::H) (hoff:=Nat.le_of_ble_eq_true rfl) (hfz:=(fun _ _=>E3)) (k:=?_))
      refine E9 (ch:=[]) (b:=b4) (off:=0) (v:=.bool false) (j:=2) ([(D1,.deferred (some []))]::[(kb6,.cells #[.slice al m cl] 26 (0,0))]::[(b4,.cells #[.bool false] 4 (0,0))]::[(b3,.cells #[.int .i64 0,.string (ByteArray.mk #[]),.slice none 0 0,.slice none 0 0] 28 (0,0))]::[(b2,.cells #[.string (bk name)] 9 (0,0))]::[(b1,.cells #[.int .i64 x.kind,.string (bk x.text),.slice an x.names.length cn,.slice al x.list.length cl] 28 (0,0))]::H) (hoff:=Nat.le_of_ble_eq_true rfl) (hfz:=(fun _ _=>E3)) (k:=B1 (E':=[⟨4,[],pt b3⟩,⟨5,[],pt b4⟩]) [] [4,5] (k:=?_))
      refine A0 (B5 ?_)
      refine N_retM [.cell 4 28,.cell 5 4] [.agg #[.int .i64 0,.string (ByteArray.mk #[]),.slice none 0 0,.slice none 0 0],.bool false] rfl rfl (.cons (.agg (b:=b3) (off:=0) (l:=[.int .i64 0,.string (ByteArray.mk #[]),.slice none 0 0,.slice none 0 0]) kr kr kr (At.grp 2 0 rfl rfl) kr) (.cons (.one (b:=b4) (off:=0) kr kr (At.grp 1 0 rfl rfl) rfl) (.nil))) rfl ⟨H,?_,fun w h=>(((((h.erase 0).erase 0).erase 0).erase 0).erase 0)⟩
      rw [hG]; exact ⟨_,_,_,_,jrd_nul,rfl,rfl⟩
    ·
      rintro D1 c pre H' ⟨k,hk,hp⟩ ⟨rfl,pre0,z,h0,hI,hz,rfl⟩
      have hzm:=z.2
      have hzl:z.1<x.list.length:=by omega
      have hG:=getP_some hk6 hm hk hp h0 hI hz hzl
      obtain ⟨y,yan,ycn,yal,ycl,ycs,hyx,hye,hyn,hyl,hyc⟩:=hrc.get hzl
      have hE:=elC_take hye
      refine G_heap (H':=([(D1,.deferred (some []))]::[(kb6,.cells #[.slice al m cl] 26 (0,0))]::[(b4,.cells #[.bool true] 4 (0,0))]::[(b3,.cells #[.int .i64 y.kind,.string (bk y.text),.slice yan y.names.length ycn,.slice yal y.list.length ycl] 28 (0,0))]::[(b2,.cells #[.string (bk name)] 9 (0,0))]::[(b1,.cells #[.int .i64 x.kind,.string (bk x.text),.slice an x.names.length cn,.slice al x.list.length cl] 28 (0,0))]::H)) (fun w h=>by rw [hE] at h; exact h) (B5 ?_)
      refine B4 (A3 ?_)
      refine N_retM [.cell 4 28,.cell 5 4] [.agg #[.int .i64 y.kind,.string (bk y.text),.slice yan y.names.length ycn,.slice yal y.list.length ycl],.bool true] rfl rfl (.cons (.agg (b:=b3) (off:=0) (l:=[.int .i64 y.kind,.string (bk y.text),.slice yan y.names.length ycn,.slice yal y.list.length ycl]) kr kr kr (At.grp 2 0 rfl rfl) kr) (.cons (.one (b:=b4) (off:=0) kr kr (At.grp 1 0 rfl rfl) rfl) (.nil))) rfl ⟨H,?_,fun w h=>(((((h.erase 0).erase 0).erase 0).erase 0).erase 0)⟩
      rw [hG]; refine ⟨_,_,_,_,?_,rfl,rfl⟩; show JRd S x.list[z.1] _; rw [← hyx]; exact jrd_mk hyn hyl hyc
end Go.Proofs.YtppgfiklmfoaeaaGreatDoor
namespace Go.Sw
theorem GL_max3 {d:Bool} {P:Program} {ops:Array Oper} {i:Nat} {Q:D6} {n:Fr} {E:Env} {W0:World} {H:List Grp} {o:Oper} {ch:List (Nat × Bool)} {c:Call} {ka kb ke:IntKind} {a b e:Int}
    (ho:ops[i]? = some o) (hop:o.op=.call c) (hce:c.callee=.builtin .max) (hargs:evL (evO E ch) c.args.toList=some [.int ka a,.int kb b,.int ke e])
    (hch:F1 ops E o.guard=some ch) (hd:H7 n ch o.dst=true) (hk:I0 E ch=true)
    (k:GL d P ops (i+1) Q n (Env.put E o.dst ch (.int ka (if e > (if b > a then b else a) then e else (if b > a then b else a)))) W0 H):GL d P ops i Q n E W0 H:=by
  refine G5 ho hch hd hk (fun r hr hcb w _=>?_) k
  have hrun:(execOp r o).run P w=.ok (.value (.int ka (if e > (if b > a then b else a) then e else (if b > a then b else a)))) w:=by
    simp [execOp,hop,resolve,hce,invoke,Go.builtin,L0 hr hargs,Builtin.max_,Builtin.max2]
  rw [hrun]
  exact ⟨rfl,rfl⟩
end Go.Sw
namespace Go.Proofs.YtppgfiklmfoaeaaGreatDoor
open Go.Sw Go.Sha Go.Esc Go.RowKit Go.Json
def parV:Except Int JV→JV × Int
  | .ok v=>(v,0)
  | .error e=>(nul,e)
theorem parV_R (l:List UInt8):parV (parP l)=parR l:=by
  have h:=parR_ok l
  cases hp:parP l with
  | error e=>rw [hp] at h; rw [h.2]; rfl
  | ok v=>rw [hp] at h; rw [h]; rfl
theorem rdepthW_ (x:JV) (an:Option Addr) (cn:Nat) (al:Option Addr) (cl:Nat) (cs:List Value) (S:Nat→Obj→Prop) (_:Rd S an (E7 x.names)) (hrl:Rd S al cs) (hrc:JRdL S x.list cs) (hd:cnJ x≤1000000000) (hrec:∀ (y:JV),szJ y<szJ x→cnJ y≤1000000000→∀ (an:Option Addr) (cn:Nat) (al:Option Addr) (cl:Nat) (cs:List Value),Rd S an (E7 y.names)→Rd S al cs→JRdL S y.list cs→∀ (W0:World) (H:List Grp),(∀ z o,S z o→At W0 H z o)→Tri Tryz.prog 20 #[.agg (jvC y an cn al cl).toArray] W0 H (fun v H'=>v=.int .i64 (dpP y:Int)∧H'=H)) (W0:World) (H:List Grp) (hS:∀ y o,S y o→At W0 H y o):Tri Tryz.prog 20 #[.agg #[.int .i64 x.kind,.string (bk x.text),.slice an x.names.length cn,.slice al x.list.length cl]] W0 H (fun v H'=>v=.int .i64 (dpP x:Int)∧H'=H):=by
 have hxl:=H8 x
 have hxd:=dp_cn x
 refine C6 (args:=[.agg #[.int .i64 x.kind,.string (bk x.text),.slice an x.names.length cn,.slice al x.list.length cl]]) (n:=28) Tryz.func20 rfl rfl (Nat.le_of_ble_eq_true rfl) ?_
 refine A1 (A2 ?_)
 refine G7 (ch:=[]) (v:=.agg #[.int .i64 x.kind,.string (bk x.text),.slice an x.names.length cn,.slice al x.list.length cl]) (k:=(fun b1=>?_))
 refine B1 (E':=[⟨1,[],pt b1⟩]) [0] [1] (k:=A0 ?_)
 refine A1 (A1 ?_)
 refine A2 (A4 (j:=1) [0] (k:=?_))
 refine A5 (ch:=[]) (b:=b1) (off:=0) (v:=.int .i64 x.kind) (hA:=At.grp 0 0 rfl rfl) (k:=A4 (j:=5) [0,0,0] (k:=?_))
 refine A5 (ch:=[(9,true)]) (b:=b1) (off:=0) (v:=.int .i64 x.kind) (hA:=At.grp 0 0 rfl rfl) (k:=B0 [0,6] [1,13] (k:=?_))
 refine A0 (B2 (b:=(x.kind != 5)&&(x.kind != 6)) kr (fun hc2=>?_) (fun hc2=>?_))
 ·
  simp only [Bool.and_eq_true,bne_iff_ne,ne_eq] at hc2
  have hk0:=hc2
  refine A1 (B7 (E':=[⟨2,[],.int .i64 0⟩]) [0] [2] (k:=?_))
  refine A0 (B5 ?_)
  refine A3 (C1 (H':=H) (fun w h=>(h.erase 0)) ?_)
  refine B6 [.tmp 2] [.int .i64 0] (k:=?_)
  exact ⟨congrArg (fun n:Nat=>Value.int .i64 (n:Int)) (dp_no (by omega)).symm,rfl⟩
 ·
  simp only [Bool.and_eq_false_iff,bne_eq_false_iff_eq] at hc2
  have hk0:x.kind=5∨x.kind=6:=by omega
  have hdx:=dp_yes hk0
  refine A8 (A0 ?_)
  refine A1 (B7 (E':=[⟨1,[],pt b1⟩,⟨3,[],.int .i64 0⟩]) [0] [1,3] (k:=?_))
  refine A0 (A1 ?_)
  refine A1 (A2 ?_)
  refine A4 (j:=1) [0] (k:=A5 (ch:=[]) (b:=b1) (off:=3) (v:=.slice al x.list.length cl) (hA:=At.grp 0 0 rfl rfl) (k:=?_))
  refine B0 [0,0] [3,15,16,17] (k:=A0 ?_)
  refine B9 (I6 (EI:=(fun ξ:Nat × Nat=>[⟨3,[],.int .i64 ((ξ.2:Nat):Int)⟩,⟨15,[],.slice al x.list.length cl⟩,⟨16,[],.int .i64 ((x.list.length:Nat):Int)⟩,⟨17,[],.int .i64 ((ξ.1:Nat):Int)⟩])) (HI:=(fun ξ:Nat × Nat=>([(b1,.cells #[.int .i64 x.kind,.string (bk x.text),.slice an x.names.length cn,.slice al x.list.length cl] 28 (0,0))]::H))) (Φ:=(fun ξ:Nat × Nat=>(ξ.1≤x.list.length)∧(ξ.2=dpL (x.list.take ξ.1)))) (μ:=(fun ξ:Nat × Nat=>x.list.length - ξ.1)) (s0:=(0,0)) [3,15,16,17] kr rfl ⟨(Nat.zero_le _),(by rw [List.take_zero,dpL_nil])⟩ ?_)
  rintro ⟨k,n⟩ ⟨hk,hn⟩
  dsimp only at hk hn
  refine A1 (G_p [0] [3,15,16,17,18] (k:=?_))
  refine A0 (A1 ?_)
  refine B2 (b:=decide (((k:Nat):Int)<((x.list.length:Nat):Int))) kr (fun hc3=>?_) (fun hc3=>?_)
  ·
   simp only [decide_eq_true_eq] at hc3
   have hlt:k<x.list.length:=by omega
   obtain ⟨y,yan,ycn,yal,ycl,ycs,hyx,hye,hyn,hyl,hyc⟩:=hrc.get hlt
   have hysz:szJ y<szJ x:=by rw [hyx]; exact szJ_lt hlt
   refine A8 (A0 ?_)
   refine A1 (B9 ?_)
   refine A1 (A2 ?_)
   refine D0 (ch:=[]) (a:=al) (len:=x.list.length) (cap:=cl) (kd:=.i64) (j:=((k:Nat):Int)) (e:=28) (sz:=4) (S:=S) (cs:=cs) (hrd:=hrl) (hb:=(fun _=>by exact ⟨by omega,by omega,hrc.ne hlt⟩)) (k:=I7 (ch:=[]) (a:=al) (q:=k * 4) (S:=S) (cs:=cs) (l:=[.int .i64 y.kind,.string (bk y.text),.slice yan y.names.length ycn,.slice yal y.list.length ycl]) (hrd:=hrl) (hS:=(fun y o h=>(At.cons (hS y o h)))) (hl:=List.cons_ne_nil _ _) (hv:=(fun _=>(elt4 hye))) (k:=?_))
   refine F5 (ch:=[]) (z:=.agg #[.int .i64 0,.string (ByteArray.mk #[]),.slice none 0 0,.slice none 0 0]) (k:=(fun b4=>?_))
   refine E9 (ch:=[]) (b:=b4) (off:=0) (v:=.agg #[.int .i64 y.kind,.string (bk y.text),.slice yan y.names.length ycn,.slice yal y.list.length ycl]) (j:=0) ([(b4,.cells #[.int .i64 y.kind,.string (bk y.text),.slice yan y.names.length ycn,.slice yal y.list.length ycl] 28 (0,0))]::[(b1,.cells #[.int .i64 x.kind,.string (bk x.text),.slice an x.names.length cn,.slice al x.list.length cl] 28 (0,0))]::H) (hoff:=Nat.le_of_ble_eq_true rfl) (hfz:=(fun _ _=>E3)) (k:=B0 [] [3,5,15,16,17] (k:=?_))
   refine A0 (A2 ?_)
   refine A4 (j:=1) [0] (k:=D3 (ch:=[]) (b:=b4) (off:=0) (l:=[.int .i64 y.kind,.string (bk y.text),.slice yan y.names.length ycn,.slice yal y.list.length ycl]) (hA:=At.grp 0 0 rfl rfl) (k:=?_))
   refine H4 Tryz.func20 (hrec y hysz (by rw [hyx]; have:=cn_sub hlt; omega) yan ycn yal ycl ycs hyn hyl hyc _ _ (fun y o h=>At.cons (At.cons (hS y o h)))) (C0 (E':=[⟨24,[],.int .i64 (if (dpP y:Int) > ((n:Nat):Int) then (dpP y:Int) else ((n:Nat):Int))⟩,⟨3,[],.int .i64 ((n:Nat):Int)⟩,⟨15,[],.slice al x.list.length cl⟩,⟨16,[],.int .i64 ((x.list.length:Nat):Int)⟩,⟨17,[],.int .i64 ((k:Nat):Int)⟩]) (j:=4) [0] (k:=?_))
   refine C4 (E':=[⟨24,[],.int .i64 ((max n (dpP y):Nat):Int)⟩,⟨3,[],.int .i64 ((n:Nat):Int)⟩,⟨15,[],.slice al x.list.length cl⟩,⟨16,[],.int .i64 ((x.list.length:Nat):Int)⟩,⟨17,[],.int .i64 ((k:Nat):Int)⟩]) (by rw [max_cast]) (B0 [0] [3,15,16,17] (k:=?_))
   refine B8 (A0 ?_)
   have hw5:IntKind.wrap .i64 (((k:Nat):Int)+1)=((k:Nat):Int)+1:=w64 (by omega) (by omega)
   refine A2 (C0 (E':=[⟨25,[],.int .i64 (((k:Nat):Int)+1)⟩,⟨3,[],.int .i64 ((max n (dpP y):Nat):Int)⟩,⟨15,[],.slice al x.list.length cl⟩,⟨16,[],.int .i64 ((x.list.length:Nat):Int)⟩,⟨17,[],.int .i64 ((k:Nat):Int)⟩]) [0] (Eq.trans (b:=some [⟨25,[],.int .i64 (IntKind.wrap .i64 (((k:Nat):Int)+1))⟩,⟨3,[],.int .i64 ((max n (dpP y):Nat):Int)⟩,⟨15,[],.slice al x.list.length cl⟩,⟨16,[],.int .i64 ((x.list.length:Nat):Int)⟩,⟨17,[],.int .i64 ((k:Nat):Int)⟩]) kr (by simp only [hw5])) (j:=1) rfl ?_)
   refine C4 (E':=[⟨25,[],.int .i64 ((k+1:Nat):Int)⟩,⟨3,[],.int .i64 ((max n (dpP y):Nat):Int)⟩,⟨15,[],.slice al x.list.length cl⟩,⟨16,[],.int .i64 ((x.list.length:Nat):Int)⟩,⟨17,[],.int .i64 ((k:Nat):Int)⟩]) (by rw [show ((k:Nat):Int)+1=((k+1:Nat):Int) by omega]) (B0 [0] [3,15,16,17] (k:=?_))
   refine C1 (H':=([(b1,.cells #[.int .i64 x.kind,.string (bk x.text),.slice an x.names.length cn,.slice al x.list.length cl] 28 (0,0))]::H)) (fun w h=>(h.erase 0)) (E6 (s':=(k+1,max n (dpP y))) [3,15,16,17] kr rfl ⟨(by dsimp only; omega),(by dsimp only; rw [hn,hyx,dpL_take hlt])⟩ (by dsimp only; omega))
  ·
   simp only [decide_eq_false_iff_not] at hc3
   have hall:x.list.take k=x.list:=List.take_of_length_le (by omega)
   rw [hall] at hn
   refine G3 (A9 ?_)
   refine A9 (C5 ?_)
   refine A0 (A1 ?_)
   have hw6:IntKind.wrap .i64 (((n:Nat):Int)+1)=((n:Nat):Int)+1:=w64 (by omega) (by omega)
   refine A2 (C0 (E':=[⟨27,[],.int .i64 (((n:Nat):Int)+1)⟩]) [0,0] (Eq.trans (b:=some [⟨27,[],.int .i64 (IntKind.wrap .i64 (((n:Nat):Int)+1))⟩]) kr (by simp only [hw6])) (j:=2) rfl ?_)
   refine C4 (E':=[⟨27,[],.int .i64 ((dpP x:Nat):Int)⟩]) (by rw [show ((n:Nat):Int)+1=((dpP x:Nat):Int) by omega]) (B0 [0] [2] (k:=?_))
   refine A0 (B5 ?_)
   refine C1 (H':=H) (fun w h=>(h.erase 0)) (B6 [.tmp 2] [.int .i64 ((dpP x:Nat):Int)] (k:=?_))
   exact ⟨rfl,rfl⟩
theorem rdepth_:∀ (n:Nat) (x:JV),szJ x≤n→cnJ x≤1000000000→∀ (an:Option Addr) (cn:Nat) (al:Option Addr) (cl:Nat) (cs:List Value) (S:Nat→Obj→Prop),Rd S an (E7 x.names)→Rd S al cs→JRdL S x.list cs→∀ (W0:World) (H:List Grp),(∀ z o,S z o→At W0 H z o)→Tri Tryz.prog 20 #[.agg (jvC x an cn al cl).toArray] W0 H (fun v H'=>v=.int .i64 (dpP x:Int)∧H'=H)
  | 0,x,h,_,_,_,_,_,_,_,_,_,_,_,_,_=>absurd (szJ_pos x) (by omega)
  | n+1,x,h,hd,an,cn,al,cl,cs,S,h1,h2,h3,W0,H,hS=>rdepthW_ x an cn al cl cs S h1 h2 h3 hd (fun y hy hdy an cn al cl cs h1 h2 h3 W0 H hS=>rdepth_ n y (by omega) hdy an cn al cl cs S h1 h2 h3 W0 H hS) W0 H hS
theorem rsameW_ (x:JV) (an:Option Addr) (cn:Nat) (al:Option Addr) (cl:Nat) (cs:List Value) (S:Nat→Obj→Prop) (hrn:Rd S an (E7 x.names)) (hrl:Rd S al cs) (hrc:JRdL S x.list cs) (an2:Option Addr) (cn2:Nat) (al2:Option Addr) (cl2:Nat) (cs2:List Value) (S2:Nat→Obj→Prop) (hrn2:Rd S2 an2 (E7 x.names)) (hrl2:Rd S2 al2 cs2) (hrc2:JRdL S2 x.list cs2) (hd:cnJ x≤1000000000) (hrec:∀ (y:JV),szJ y<szJ x→cnJ y≤1000000000→∀ (an:Option Addr) (cn:Nat) (al:Option Addr) (cl:Nat) (cs:List Value),Rd S an (E7 y.names)→Rd S al cs→JRdL S y.list cs→∀ (an2:Option Addr) (cn2:Nat) (al2:Option Addr) (cl2:Nat) (cs2:List Value),Rd S2 an2 (E7 y.names)→Rd S2 al2 cs2→JRdL S2 y.list cs2→∀ (W0:World) (H:List Grp),(∀ z o,S z o→At W0 H z o)→(∀ z o,S2 z o→At W0 H z o)→Tri Tryz.prog 18 #[.agg (jvC y an cn al cl).toArray,.agg (jvC y an2 cn2 al2 cl2).toArray] W0 H (fun v H'=>v=.bool true∧H'=H)) (W0:World) (H:List Grp) (hS:∀ y o,S y o→At W0 H y o) (hS2:∀ y o,S2 y o→At W0 H y o):Tri Tryz.prog 18 #[.agg #[.int .i64 x.kind,.string (bk x.text),.slice an x.names.length cn,.slice al x.list.length cl],.agg #[.int .i64 x.kind,.string (bk x.text),.slice an2 x.names.length cn2,.slice al2 x.list.length cl2]] W0 H (fun v H'=>v=.bool true∧H'=H):=by
 have hxl:=H8 x
 refine C6 (args:=[.agg #[.int .i64 x.kind,.string (bk x.text),.slice an x.names.length cn,.slice al x.list.length cl],.agg #[.int .i64 x.kind,.string (bk x.text),.slice an2 x.names.length cn2,.slice al2 x.list.length cl2]]) (n:=74) Tryz.func18 rfl rfl (Nat.le_of_ble_eq_true rfl) ?_
 refine A1 (A2 ?_)
 refine G7 (ch:=[]) (v:=.agg #[.int .i64 x.kind,.string (bk x.text),.slice an x.names.length cn,.slice al x.list.length cl]) (k:=(fun b1=>?_))
 refine G7 (ch:=[]) (v:=.agg #[.int .i64 x.kind,.string (bk x.text),.slice an2 x.names.length cn2,.slice al2 x.list.length cl2]) (k:=(fun b2=>?_))
 refine B1 (E':=[⟨2,[],pt b1⟩,⟨3,[],pt b2⟩]) [0] [2,3] (k:=A0 ?_)
 refine A1 (A1 ?_)
 refine A2 (A4 (j:=1) [0] (k:=?_))
 refine A5 (ch:=[]) (b:=b1) (off:=0) (v:=.int .i64 x.kind) (hA:=At.grp 1 0 rfl rfl) (k:=A4 (j:=3) [0] (k:=?_))
 refine A5 (ch:=[]) (b:=b2) (off:=0) (v:=.int .i64 x.kind) (hA:=At.grp 0 0 rfl rfl) (k:=A4 (j:=7) [0,0,0] (k:=?_))
 refine A5 (ch:=[(12,false)]) (b:=b1) (off:=1) (v:=.string (bk x.text)) (hA:=At.grp 1 0 rfl rfl) (k:=A4 (j:=9) [0] (k:=?_))
 refine A5 (ch:=[(12,false)]) (b:=b2) (off:=1) (v:=.string (bk x.text)) (hA:=At.grp 0 0 rfl rfl) (k:=A4 (j:=14) [0,5,0,0] (k:=?_))
 refine A5 (ch:=[(19,false)]) (b:=b1) (off:=2) (v:=.slice an x.names.length cn) (hA:=At.grp 1 0 rfl rfl) (k:=A4 (j:=17) [0,0] (k:=?_))
 refine A5 (ch:=[(19,false)]) (b:=b2) (off:=2) (v:=.slice an2 x.names.length cn2) (hA:=At.grp 0 0 rfl rfl) (k:=A4 (j:=23) [0,0,5,0,0] (k:=?_))
 refine A5 (ch:=[(28,false)]) (b:=b1) (off:=3) (v:=.slice al x.list.length cl) (hA:=At.grp 1 0 rfl rfl) (k:=A4 (j:=26) [0,0] (k:=?_))
 refine A5 (ch:=[(28,false)]) (b:=b2) (off:=3) (v:=.slice al2 x.list.length cl2) (hA:=At.grp 0 0 rfl rfl) (k:=B0 [0,0,5] [2,3,36] (k:=?_))
 refine A0 (B2 (b:=(((x.kind != x.kind)||(!((bk x.text).toList==(bk x.text).toList)))||(((x.names.length:Nat):Int) != ((x.names.length:Nat):Int)))||(((x.list.length:Nat):Int) != ((x.list.length:Nat):Int))) kr (fun hc3=>?_) (fun hc3=>?_))
 ·
  simp at hc3
 ·
  skip
  refine A8 (A0 ?_)
  refine A1 (A1 ?_)
  refine A2 (A4 (j:=1) [0] (k:=?_))
  refine A5 (ch:=[]) (b:=b1) (off:=2) (v:=.slice an x.names.length cn) (hA:=At.grp 1 0 rfl rfl) (k:=B0 [0,0] [2,3,39,40] (k:=?_))
  refine A0 (B9 ?_)
  refine I6 (EI:=(fun ξ:Nat=>[⟨2,[],pt b1⟩,⟨3,[],pt b2⟩,⟨39,[],.int .i64 ((x.names.length:Nat):Int)⟩,⟨40,[],.int .i64 ((ξ:Nat):Int)⟩])) (HI:=(fun ξ:Nat=>([(b2,.cells #[.int .i64 x.kind,.string (bk x.text),.slice an2 x.names.length cn2,.slice al2 x.list.length cl2] 28 (0,0))]::[(b1,.cells #[.int .i64 x.kind,.string (bk x.text),.slice an x.names.length cn,.slice al x.list.length cl] 28 (0,0))]::H))) (Φ:=(fun ξ:Nat=>(ξ≤x.names.length))) (μ:=(fun ξ:Nat=>x.names.length - ξ)) (s0:=(0)) [2,3,39,40] kr rfl (Nat.zero_le _) ?_
  rintro k hk
  refine A1 (G_p [0] [2,3,39,40,41] (k:=?_))
  refine A0 (A1 ?_)
  refine B2 (b:=decide (((k:Nat):Int)<((x.names.length:Nat):Int))) kr (fun hc4=>?_) (fun hc4=>?_)
  ·
   simp only [decide_eq_true_eq] at hc4
   have hnl:k<x.names.length:=by omega
   obtain ⟨nm,hnm⟩:∃ nm,nm=x.names[k]'hnl:=⟨_,rfl⟩
   refine A8 (A0 ?_)
   refine A1 (B9 ?_)
   refine A1 (G_p [0,0] [2,3,5,39,40] (k:=?_))
   refine A0 (A1 ?_)
   refine M1 (k:=A4 (j:=1) [0] (k:=?_))
   refine A5 (ch:=[]) (b:=b1) (off:=2) (v:=.slice an x.names.length cn) (hA:=At.grp 1 0 rfl rfl) (k:=A4 (j:=3) [0] (k:=?_))
   refine D0 (ch:=[]) (a:=an) (len:=x.names.length) (cap:=cn) (kd:=.i64) (j:=((k:Nat):Int)) (e:=9) (sz:=1) (S:=S) (cs:=(E7 x.names)) (hrd:=hrn) (hb:=(fun _=>by first | exact ⟨by omega,by omega,I4 hnl⟩ | exact ⟨by omega,by omega,hrc.ne hlt⟩ | exact ⟨by omega,by omega,hrc2.ne hlt⟩)) (k:=I1 (ch:=[]) (a:=an) (q:=k * 1) (S:=S) (cs:=(E7 x.names)) (v:=.string (bk nm)) (hrd:=hrn) (hS:=(fun y o h=>(At.cons (At.cons (hS y o h))))) (hv:=(fun _=>(L7 hnl hnm))) (k:=?_))
   refine A4 (j:=6) [0] (k:=A5 (ch:=[]) (b:=b2) (off:=2) (v:=.slice an2 x.names.length cn2) (hA:=At.grp 0 0 rfl rfl) (k:=?_))
   refine A4 (j:=8) [0] (k:=D0 (ch:=[]) (a:=an2) (len:=x.names.length) (cap:=cn2) (kd:=.i64) (j:=((k:Nat):Int)) (e:=9) (sz:=1) (S:=S2) (cs:=(E7 x.names)) (hrd:=hrn2) (hb:=(fun _=>by first | exact ⟨by omega,by omega,I4 hnl⟩ | exact ⟨by omega,by omega,hrc.ne hlt⟩ | exact ⟨by omega,by omega,hrc2.ne hlt⟩)) (k:=?_))
   refine I1 (ch:=[]) (a:=an2) (q:=k * 1) (S:=S2) (cs:=(E7 x.names)) (v:=.string (bk nm)) (hrd:=hrn2) (hS:=(fun y o h=>(At.cons (At.cons (hS2 y o h))))) (hv:=(fun _=>(L7 hnl hnm))) (k:=B0 [0] [2,3,39,40,53] (k:=?_))
   refine A0 (B2 (b:=!((bk nm).toList==(bk nm).toList)) kr (fun hc5=>?_) (fun hc5=>?_))
   ·
    simp at hc5
   ·
    skip
    refine A8 (B8 ?_)
    refine A0 ?_
    have hw6:IntKind.wrap .i64 (((k:Nat):Int)+1)=((k:Nat):Int)+1:=w64 (by omega) (by omega)
    refine A2 (C0 (E':=[⟨54,[],.int .i64 (((k:Nat):Int)+1)⟩,⟨2,[],pt b1⟩,⟨3,[],pt b2⟩,⟨39,[],.int .i64 ((x.names.length:Nat):Int)⟩,⟨40,[],.int .i64 ((k:Nat):Int)⟩]) [0] (Eq.trans (b:=some [⟨54,[],.int .i64 (IntKind.wrap .i64 (((k:Nat):Int)+1))⟩,⟨2,[],pt b1⟩,⟨3,[],pt b2⟩,⟨39,[],.int .i64 ((x.names.length:Nat):Int)⟩,⟨40,[],.int .i64 ((k:Nat):Int)⟩]) kr (by simp only [hw6])) (j:=1) rfl ?_)
    refine C4 (E':=[⟨54,[],.int .i64 ((k+1:Nat):Int)⟩,⟨2,[],pt b1⟩,⟨3,[],pt b2⟩,⟨39,[],.int .i64 ((x.names.length:Nat):Int)⟩,⟨40,[],.int .i64 ((k:Nat):Int)⟩]) (by rw [show ((k:Nat):Int)+1=((k+1:Nat):Int) by omega]) (B0 [0] [2,3,39,40] (k:=?_))
    refine E6 (s':=(k+1)) [2,3,39,40] kr rfl (by omega) (by omega)
  ·
   skip
   refine G3 (A9 ?_)
   refine A9 (C5 ?_)
   refine A0 (A1 ?_)
   refine A1 (A2 ?_)
   refine A4 (j:=1) [0] (k:=A5 (ch:=[]) (b:=b1) (off:=3) (v:=.slice al x.list.length cl) (hA:=At.grp 1 0 rfl rfl) (k:=?_))
   refine B0 [0,0] [2,3,57,58] (k:=A0 ?_)
   refine B9 (I6 (EI:=(fun ξ:Nat=>[⟨2,[],pt b1⟩,⟨3,[],pt b2⟩,⟨57,[],.int .i64 ((x.list.length:Nat):Int)⟩,⟨58,[],.int .i64 ((ξ:Nat):Int)⟩])) (HI:=(fun ξ:Nat=>([(b2,.cells #[.int .i64 x.kind,.string (bk x.text),.slice an2 x.names.length cn2,.slice al2 x.list.length cl2] 28 (0,0))]::[(b1,.cells #[.int .i64 x.kind,.string (bk x.text),.slice an x.names.length cn,.slice al x.list.length cl] 28 (0,0))]::H))) (Φ:=(fun ξ:Nat=>(ξ≤x.list.length))) (μ:=(fun ξ:Nat=>x.list.length - ξ)) (s0:=(0)) [2,3,57,58] kr rfl (Nat.zero_le _) ?_)
   rintro k hk
   refine A1 (G_p [0] [2,3,57,58,59] (k:=?_))
   refine A0 (A1 ?_)
   refine B2 (b:=decide (((k:Nat):Int)<((x.list.length:Nat):Int))) kr (fun hc7=>?_) (fun hc7=>?_)
   ·
    simp only [decide_eq_true_eq] at hc7
    have hlt:k<x.list.length:=by omega
    obtain ⟨y,yan,ycn,yal,ycl,ycs,hyx,hye,hyn,hyl,hyc⟩:=hrc.get hlt
    have hysz:szJ y<szJ x:=by rw [hyx]; exact szJ_lt hlt
    obtain ⟨y2,yan2,ycn2,yal2,ycl2,ycs2,hyx2,hye2,hyn2,hyl2,hyc2⟩:=hrc2.get hlt
    have hyy:y2=y:=hyx2.trans hyx.symm
    rw [hyy] at hye2 hyn2 hyc2
    refine A8 (A0 ?_)
    refine A1 (B9 ?_)
    refine A1 (G_p [0,0] [2,3,6,57,58] (k:=?_))
    refine A0 (A1 ?_)
    refine M1 (k:=A4 (j:=1) [0] (k:=?_))
    refine A5 (ch:=[]) (b:=b1) (off:=3) (v:=.slice al x.list.length cl) (hA:=At.grp 1 0 rfl rfl) (k:=A4 (j:=3) [0] (k:=?_))
    refine D0 (ch:=[]) (a:=al) (len:=x.list.length) (cap:=cl) (kd:=.i64) (j:=((k:Nat):Int)) (e:=28) (sz:=4) (S:=S) (cs:=cs) (hrd:=hrl) (hb:=(fun _=>by first | exact ⟨by omega,by omega,I4 hnl⟩ | exact ⟨by omega,by omega,hrc.ne hlt⟩ | exact ⟨by omega,by omega,hrc2.ne hlt⟩)) (k:=I7 (ch:=[]) (a:=al) (q:=k * 4) (S:=S) (cs:=cs) (l:=[.int .i64 y.kind,.string (bk y.text),.slice yan y.names.length ycn,.slice yal y.list.length ycl]) (hrd:=hrl) (hS:=(fun y o h=>(At.cons (At.cons (hS y o h))))) (hl:=List.cons_ne_nil _ _) (hv:=(fun _=>(elt4 hye))) (k:=?_))
    refine A4 (j:=6) [0] (k:=A5 (ch:=[]) (b:=b2) (off:=3) (v:=.slice al2 x.list.length cl2) (hA:=At.grp 0 0 rfl rfl) (k:=?_))
    refine A4 (j:=8) [0] (k:=D0 (ch:=[]) (a:=al2) (len:=x.list.length) (cap:=cl2) (kd:=.i64) (j:=((k:Nat):Int)) (e:=28) (sz:=4) (S:=S2) (cs:=cs2) (hrd:=hrl2) (hb:=(fun _=>by first | exact ⟨by omega,by omega,I4 hnl⟩ | exact ⟨by omega,by omega,hrc.ne hlt⟩ | exact ⟨by omega,by omega,hrc2.ne hlt⟩)) (k:=?_))
    refine I7 (ch:=[]) (a:=al2) (q:=k * 4) (S:=S2) (cs:=cs2) (l:=[.int .i64 y.kind,.string (bk y.text),.slice yan2 y.names.length ycn2,.slice yal2 y.list.length ycl2]) (hrd:=hrl2) (hS:=(fun y o h=>(At.cons (At.cons (hS2 y o h))))) (hl:=List.cons_ne_nil _ _) (hv:=(fun _=>(elt4 hye2))) (k:=H4 Tryz.func18 (hrec y hysz (by rw [hyx]; have:=cn_sub hlt; omega) yan ycn yal ycl ycs hyn hyl hyc yan2 ycn2 yal2 ycl2 ycs2 hyn2 hyl2 hyc2 _ _ (fun y o h=>At.cons (At.cons (hS y o h))) (fun y o h=>At.cons (At.cons (hS2 y o h)))) ?_)
    refine B0 [0] [2,3,57,58,72] (k:=A0 ?_)
    refine C2 kr (A8 ?_)
    refine B8 (A0 ?_)
    have hw8:IntKind.wrap .i64 (((k:Nat):Int)+1)=((k:Nat):Int)+1:=w64 (by omega) (by omega)
    refine A2 (C0 (E':=[⟨73,[],.int .i64 (((k:Nat):Int)+1)⟩,⟨2,[],pt b1⟩,⟨3,[],pt b2⟩,⟨57,[],.int .i64 ((x.list.length:Nat):Int)⟩,⟨58,[],.int .i64 ((k:Nat):Int)⟩]) [0] (Eq.trans (b:=some [⟨73,[],.int .i64 (IntKind.wrap .i64 (((k:Nat):Int)+1))⟩,⟨2,[],pt b1⟩,⟨3,[],pt b2⟩,⟨57,[],.int .i64 ((x.list.length:Nat):Int)⟩,⟨58,[],.int .i64 ((k:Nat):Int)⟩]) kr (by simp only [hw8])) (j:=1) rfl ?_)
    refine C4 (E':=[⟨73,[],.int .i64 ((k+1:Nat):Int)⟩,⟨2,[],pt b1⟩,⟨3,[],pt b2⟩,⟨57,[],.int .i64 ((x.list.length:Nat):Int)⟩,⟨58,[],.int .i64 ((k:Nat):Int)⟩]) (by rw [show ((k:Nat):Int)+1=((k+1:Nat):Int) by omega]) (B0 [0] [2,3,57,58] (k:=?_))
    refine E6 (s':=(k+1)) [2,3,57,58] kr rfl (by omega) (by omega)
   ·
    skip
    refine G3 (A9 ?_)
    refine A9 (C5 ?_)
    refine A0 (A1 ?_)
    refine B7 (E':=[⟨4,[],.bool true⟩]) [0] [4] (k:=A0 ?_)
    refine B5 (C1 (H':=H) (fun w h=>((h.erase 1).erase 0)) ?_)
    refine B6 [.tmp 4] [.bool true] (k:=?_)
    exact ⟨rfl,rfl⟩
theorem rsame_:∀ (n:Nat) (x:JV),szJ x≤n→cnJ x≤1000000000→∀ (an:Option Addr) (cn:Nat) (al:Option Addr) (cl:Nat) (cs:List Value) (S:Nat→Obj→Prop),Rd S an (E7 x.names)→Rd S al cs→JRdL S x.list cs→∀ (an2:Option Addr) (cn2:Nat) (al2:Option Addr) (cl2:Nat) (cs2:List Value) (S2:Nat→Obj→Prop),Rd S2 an2 (E7 x.names)→Rd S2 al2 cs2→JRdL S2 x.list cs2→∀ (W0:World) (H:List Grp),(∀ z o,S z o→At W0 H z o)→(∀ z o,S2 z o→At W0 H z o)→Tri Tryz.prog 18 #[.agg (jvC x an cn al cl).toArray,.agg (jvC x an2 cn2 al2 cl2).toArray] W0 H (fun v H'=>v=.bool true∧H'=H)
  | 0,x,h,_,_,_,_,_,_,_,_,_,_,_,_,_,_,_,_,_,_,_,_,_,_,_=>absurd (szJ_pos x) (by omega)
  | n+1,x,h,hd,an,cn,al,cl,cs,S,h1,h2,h3,an2,cn2,al2,cl2,cs2,S2,k1,k2,k3,W0,H,hS,hS2=>rsameW_ x an cn al cl cs S h1 h2 h3 an2 cn2 al2 cl2 cs2 S2 k1 k2 k3 hd (fun y hy hdy an cn al cl cs h1 h2 h3 an2 cn2 al2 cl2 cs2 k1 k2 k3 W0 H hS hS2=>rsame_ n y (by omega) hdy an cn al cl cs S h1 h2 h3 an2 cn2 al2 cl2 cs2 S2 k1 k2 k3 W0 H hS hS2) W0 H hS hS2
theorem rsameC (x:JV) (hd:cnJ x≤1000000000) (c c2:List Value) (S S2:Nat→Obj→Prop) (h:JRd S x c) (h2:JRd S2 x c2) (W0:World) (H:List Grp) (hS:∀ z o,S z o→At W0 H z o) (hS2:∀ z o,S2 z o→At W0 H z o):Tri Tryz.prog 18 #[.agg c.toArray,.agg c2.toArray] W0 H (fun v H'=>v=.bool true∧H'=H):=by
  obtain ⟨an,al,cn,cl,cs,rfl,a1,a2,a3⟩:=h.shape
  obtain ⟨an2,al2,cn2,cl2,cs2,rfl,b1,b2,b3⟩:=h2.shape
  exact rsame_ (szJ x) x (Nat.le_refl _) hd an cn al cl cs S a1 a2 a3 an2 cn2 al2 cl2 cs2 S2 b1 b2 b3 W0 H hS hS2
theorem rsizeW_ (x:JV) (an:Option Addr) (cn:Nat) (al:Option Addr) (cl:Nat) (cs:List Value) (S:Nat→Obj→Prop) (hrn:Rd S an (E7 x.names)) (hrl:Rd S al cs) (hrc:JRdL S x.list cs) (m0:Nat) (d:Int) (hd:d=(m0:Int)) (hm0:m0≤100) (hrec:∀ (y:JV),szJ y<szJ x→∀ (m:Nat),m0=m+1→∀ (an:Option Addr) (cn:Nat) (al:Option Addr) (cl:Nat) (cs:List Value),Rd S an (E7 y.names)→Rd S al cs→JRdL S y.list cs→∀ (W0:World) (H:List Grp),(∀ z o,S z o→At W0 H z o)→Tri Tryz.prog 21 #[.agg (jvC y an cn al cl).toArray,.int .i64 (d - 1)] W0 H (fun v H'=>v=.int .i64 (szP m y)∧H'=H)) (W0:World) (H:List Grp) (hS:∀ y o,S y o→At W0 H y o):Tri Tryz.prog 21 #[.agg #[.int .i64 x.kind,.string (bk x.text),.slice an x.names.length cn,.slice al x.list.length cl],.int .i64 d] W0 H (fun v H'=>v=.int .i64 (szP m0 x)∧H'=H):=by
  refine C6 (args:=[.agg #[.int .i64 x.kind,.string (bk x.text),.slice an x.names.length cn,.slice al x.list.length cl],.int .i64 d]) (n:=66) Tryz.func21 rfl rfl (Nat.le_of_ble_eq_true rfl) ?_
  refine A1 (A2 ?_)
  refine G7 (ch:=[]) (v:=.agg #[.int .i64 x.kind,.string (bk x.text),.slice an x.names.length cn,.slice al x.list.length cl]) (k:=(fun b1=>?_))
  refine B1 (E':=[⟨1,[],.int .i64 d⟩,⟨2,[],pt b1⟩]) [0] [1,2] (k:=A0 ?_)
  refine A1 (A1 ?_)
  refine A2 (A4 (j:=4) [0,0,0,0] (k:=?_))
  refine A5 (ch:=[(12,false)]) (b:=b1) (off:=1) (v:=.string (bk x.text)) (hA:=At.grp 0 0 rfl rfl) (k:=A4 (j:=7) [0,0] (k:=?_))
  refine A5 (ch:=[(12,false)]) (b:=b1) (off:=2) (v:=.slice an x.names.length cn) (hA:=At.grp 0 0 rfl rfl) (k:=A4 (j:=10) [0,0] (k:=?_))
  refine A5 (ch:=[(12,false)]) (b:=b1) (off:=3) (v:=.slice al x.list.length cl) (hA:=At.grp 0 0 rfl rfl) (k:=A4 (j:=12) [0] (k:=?_))
  refine GL_max3 (i:=12) (ch:=[(12,false)]) (ka:=.i64) (kb:=.i64) (ke:=.i64) (a:=((bk x.text).size:Int)) (b:=((x.names.length:Nat):Int)) (e:=((x.list.length:Nat):Int)) rfl rfl rfl kr kr kr kr (B0 [0,5] [1,2,24] (k:=?_))
  refine A0 (B2 (b:=(d==0)||(decide ((if ((x.list.length:Nat):Int) > (if ((x.names.length:Nat):Int) > ((bk x.text).size:Int) then ((x.names.length:Nat):Int) else ((bk x.text).size:Int)) then ((x.list.length:Nat):Int) else (if ((x.names.length:Nat):Int) > ((bk x.text).size:Int) then ((x.names.length:Nat):Int) else ((bk x.text).size:Int))) > 100000))) kr (fun hc2=>?_) (fun hc2=>?_))
  ·
    simp only [Bool.or_eq_true,decide_eq_true_eq,beq_iff_eq,gt_iff_lt] at hc2
    have hZ:szP m0 x=100001:=by
      cases x with
      | mk k t ns l =>
        cases m0 with
        | zero=>unfold szP; rfl
        | succ m =>
          unfold szP
          rw [if_pos]
          rcases hc2 with h | h
          · omega
          · change (100000:Int)<_ at h; rw [C3] at h; dsimp only [JV.text,JV.names,JV.list] at h; (repeat' split at h) <;> omega
    refine A1 (B7 (E':=[⟨4,[],.int .i64 100001⟩]) [0] [4] (k:=?_))
    refine A0 (B5 ?_)
    refine A3 (C1 (H':=H) (fun w h=>(h.erase 0)) ?_)
    refine B6 [.tmp 4] [.int .i64 100001] (k:=?_)
    exact ⟨congrArg (Value.int .i64) hZ.symm,rfl⟩
  ·
    simp only [Bool.or_eq_false_iff,decide_eq_false_iff_not,beq_eq_false_iff_ne,ne_eq,gt_iff_lt] at hc2
    obtain ⟨m,hdm⟩:∃ m,m0=m+1:=⟨m0 - 1,by omega⟩
    have hmx:x.text.length≤100000∧x.names.length≤100000∧x.list.length≤100000:=by
      have h:=hc2.2
      rw [C3] at h
      (repeat' split at h) <;> omega
    have hZ:szP m0 x=match szN x.names (1+(x.text.length:Int)) with | none=>100001 | some n=>(szF (szP m) x.list n).getD 100001:=by
      rw [hdm]; cases x with
      | mk k t ns l=>rw [szP,if_neg (by rintro (h | h | h); exact absurd hmx.1 (by show ¬ t.length≤100000; omega); exact absurd hmx.2.1 (by show ¬ ns.length≤100000; omega); exact absurd hmx.2.2 (by show ¬ l.length≤100000; omega))]; rfl
    have hbt:=C3 x.text
    refine A8 (A0 ?_)
    refine A1 (A2 ?_)
    refine A4 (j:=1) [0] (k:=A5 (ch:=[]) (b:=b1) (off:=1) (v:=.string (bk x.text)) (hA:=At.grp 0 0 rfl rfl) (k:=?_))
    refine A4 (j:=4) [0,0] (k:=D5 28 (1+((bk x.text).size:Int)) (by omega) (by omega) kr ?_)
    refine B0 [0] [1,2,5] (k:=A0 ?_)
    refine A1 (A1 ?_)
    refine A2 (A4 (j:=1) [0] (k:=?_))
    refine A5 (ch:=[]) (b:=b1) (off:=2) (v:=.slice an x.names.length cn) (hA:=At.grp 0 0 rfl rfl) (k:=B0 [0,0] [1,2,5,30,31,32] (k:=?_))
    refine A0 (B9 ?_)
    refine I6 (EI:=(fun ξ:Nat × Int=>[⟨1,[],.int .i64 d⟩,⟨2,[],pt b1⟩,⟨5,[],.int .i64 ξ.2⟩,⟨30,[],.slice an x.names.length cn⟩,⟨31,[],.int .i64 ((x.names.length:Nat):Int)⟩,⟨32,[],.int .i64 ((ξ.1:Nat):Int)⟩])) (HI:=(fun ξ:Nat × Int=>([(b1,.cells #[.int .i64 x.kind,.string (bk x.text),.slice an x.names.length cn,.slice al x.list.length cl] 28 (0,0))]::H))) (Φ:=(fun ξ:Nat × Int=>(ξ.1≤x.names.length)∧(0≤ξ.2∧ξ.2≤200001)∧(szN x.names (1+(x.text.length:Int))=szN (x.names.drop ξ.1) ξ.2))) (μ:=(fun ξ:Nat × Int=>x.names.length - ξ.1)) (s0:=(0,1+((bk x.text).size:Int))) [1,2,5,30,31,32] kr rfl ⟨(Nat.zero_le _),(by rw [C3]; exact ⟨by omega,by omega⟩),(by rw [List.drop_zero,C3])⟩ ?_
    rintro ⟨k,n⟩ ⟨hk,hn0,hT⟩
    dsimp only at hk hn0 hT
    refine A1 (G_p [0] [1,2,5,30,31,32,33] (k:=?_))
    refine A0 (A1 ?_)
    refine B2 (b:=decide (((k:Nat):Int)<((x.names.length:Nat):Int))) kr (fun hc4=>?_) (fun hc4=>?_)
    ·
      simp only [decide_eq_true_eq] at hc4
      have hnl:k<x.names.length:=by omega
      obtain ⟨nm,hnm⟩:∃ nm,nm=x.names[k]'hnl:=⟨_,rfl⟩
      have hbn:=C3 nm
      refine A8 (A0 ?_)
      refine A1 (B9 ?_)
      refine A1 (A2 ?_)
      refine D0 (ch:=[]) (a:=an) (len:=x.names.length) (cap:=cn) (kd:=.i64) (j:=((k:Nat):Int)) (e:=9) (sz:=1) (S:=S) (cs:=(E7 x.names)) (hrd:=hrn) (hb:=(fun _=>by first | exact ⟨by omega,by omega,I4 hnl⟩ | exact ⟨by omega,by omega,hrc.ne hlt⟩)) (k:=I1 (ch:=[]) (a:=an) (q:=k * 1) (S:=S) (cs:=(E7 x.names)) (v:=.string (bk nm)) (hrd:=hrn) (hS:=(fun y o h=>(At.cons (hS y o h)))) (hv:=(fun _=>(L7 hnl hnm))) (k:=?_))
      refine B0 [0] [1,2,5,7,30,31,32] (k:=A0 ?_)
      refine A1 (A1 ?_)
      refine G_p [0,0,0,0,0,0,5] [1,2,5,7,30,31,32,42] (k:=A0 ?_)
      refine B2 (b:=(decide (n > 100000))||(decide (((bk nm).size:Int) > 100000))) kr (fun hc5=>?_) (fun hc5=>?_)
      ·
        simp only [Bool.or_eq_true,decide_eq_true_eq,gt_iff_lt] at hc5
        have hT1:szN x.names (1+(x.text.length:Int))=none:=by rw [hT,szN_step hnl,← hnm,if_pos (by omega)]
        rw [hT1] at hZ
        refine A1 (B7 (E':=[⟨4,[],.int .i64 100001⟩]) [0] [4] (k:=?_))
        refine A0 (B5 ?_)
        refine A3 (B4 ?_)
        refine A3 (A3 ?_)
        refine B4 (A3 ?_)
        refine C1 (H':=H) (fun w h=>(h.erase 0)) (B6 [.tmp 4] [.int .i64 100001] (k:=?_))
        exact ⟨congrArg (Value.int .i64) hZ.symm,rfl⟩
      ·
        simp only [Bool.or_eq_false_iff,decide_eq_false_iff_not,gt_iff_lt] at hc5
        refine A8 (A0 ?_)
        refine A2 (A4 (j:=4) [0,0,0,0] (k:=?_))
        refine D5 46 (((bk nm).size:Int)+1) (by omega) (by omega) kr (A4 (j:=5) [0] (k:=?_))
        refine D5 47 (n+(((bk nm).size:Int)+1)) (by omega) (by omega) kr (B0 [0] [1,2,5,30,31,32] (k:=?_))
        refine B8 (A0 ?_)
        have hw8:IntKind.wrap .i64 (((k:Nat):Int)+1)=((k:Nat):Int)+1:=w64 (by omega) (by omega)
        refine A2 (C0 (E':=[⟨48,[],.int .i64 (((k:Nat):Int)+1)⟩,⟨1,[],.int .i64 d⟩,⟨2,[],pt b1⟩,⟨5,[],.int .i64 (n+(((bk nm).size:Int)+1))⟩,⟨30,[],.slice an x.names.length cn⟩,⟨31,[],.int .i64 ((x.names.length:Nat):Int)⟩,⟨32,[],.int .i64 ((k:Nat):Int)⟩]) [0] (Eq.trans (b:=some [⟨48,[],.int .i64 (IntKind.wrap .i64 (((k:Nat):Int)+1))⟩,⟨1,[],.int .i64 d⟩,⟨2,[],pt b1⟩,⟨5,[],.int .i64 (n+(((bk nm).size:Int)+1))⟩,⟨30,[],.slice an x.names.length cn⟩,⟨31,[],.int .i64 ((x.names.length:Nat):Int)⟩,⟨32,[],.int .i64 ((k:Nat):Int)⟩]) kr (by simp only [hw8])) (j:=1) rfl ?_)
        refine C4 (E':=[⟨48,[],.int .i64 ((k+1:Nat):Int)⟩,⟨1,[],.int .i64 d⟩,⟨2,[],pt b1⟩,⟨5,[],.int .i64 (n+(((bk nm).size:Int)+1))⟩,⟨30,[],.slice an x.names.length cn⟩,⟨31,[],.int .i64 ((x.names.length:Nat):Int)⟩,⟨32,[],.int .i64 ((k:Nat):Int)⟩]) (by rw [show ((k:Nat):Int)+1=((k+1:Nat):Int) by omega]) (B0 [0] [1,2,5,30,31,32] (k:=?_))
        refine E6 (s':=(k+1,n+(((bk nm).size:Int)+1))) [1,2,5,30,31,32] kr rfl ⟨(by dsimp only; omega),(by dsimp only; omega),(by dsimp only; rw [hT,szN_step hnl,← hnm,if_neg (by omega),C3])⟩ (by dsimp only; omega)
    ·
      simp only [decide_eq_false_iff_not] at hc4
      have hT1:szN x.names (1+(x.text.length:Int))=some n:=by rw [hT,List.drop_eq_nil_of_le (by omega)]; rfl
      rw [hT1] at hZ
      dsimp only at hZ
      refine G3 (A9 ?_)
      refine A9 (C5 ?_)
      refine A0 (A1 ?_)
      refine A1 (A2 ?_)
      refine A4 (j:=1) [0] (k:=A5 (ch:=[]) (b:=b1) (off:=3) (v:=.slice al x.list.length cl) (hA:=At.grp 0 0 rfl rfl) (k:=?_))
      refine B0 [0,0] [1,5,50,51,52] (k:=A0 ?_)
      refine B9 (I6 (EI:=(fun ξ:Nat × Int=>[⟨1,[],.int .i64 d⟩,⟨5,[],.int .i64 ξ.2⟩,⟨50,[],.slice al x.list.length cl⟩,⟨51,[],.int .i64 ((x.list.length:Nat):Int)⟩,⟨52,[],.int .i64 ((ξ.1:Nat):Int)⟩])) (HI:=(fun ξ:Nat × Int=>([(b1,.cells #[.int .i64 x.kind,.string (bk x.text),.slice an x.names.length cn,.slice al x.list.length cl] 28 (0,0))]::H))) (Φ:=(fun ξ:Nat × Int=>(ξ.1≤x.list.length)∧(0≤ξ.2∧ξ.2≤200001+200001 * (d+1))∧(szF (szP m) x.list n=szF (szP m) (x.list.drop ξ.1) ξ.2))) (μ:=(fun ξ:Nat × Int=>x.list.length - ξ.1)) (s0:=(0,n)) [1,5,50,51,52] kr rfl ⟨(Nat.zero_le _),(by dsimp only; omega),(by rw [List.drop_zero])⟩ ?_)
      rintro ⟨k,z⟩ ⟨hk,hn1,hL⟩
      dsimp only at hk hn1 hL
      refine A1 (G_p [0] [1,5,50,51,52,53] (k:=?_))
      refine A0 (A1 ?_)
      refine B2 (b:=decide (((k:Nat):Int)<((x.list.length:Nat):Int))) kr (fun hc9=>?_) (fun hc9=>?_)
      ·
        simp only [decide_eq_true_eq] at hc9
        have hlt:k<x.list.length:=by omega
        obtain ⟨y,yan,ycn,yal,ycl,ycs,hyx,hye,hyn,hyl,hyc⟩:=hrc.get hlt
        have hysz:szJ y<szJ x:=by rw [hyx]; exact szJ_lt hlt
        have hzr:=szP_rng m y
        refine A8 (A0 ?_)
        refine A1 (B9 ?_)
        refine A1 (A2 ?_)
        refine D0 (ch:=[]) (a:=al) (len:=x.list.length) (cap:=cl) (kd:=.i64) (j:=((k:Nat):Int)) (e:=28) (sz:=4) (S:=S) (cs:=cs) (hrd:=hrl) (hb:=(fun _=>by first | exact ⟨by omega,by omega,I4 hnl⟩ | exact ⟨by omega,by omega,hrc.ne hlt⟩)) (k:=I7 (ch:=[]) (a:=al) (q:=k * 4) (S:=S) (cs:=cs) (l:=[.int .i64 y.kind,.string (bk y.text),.slice yan y.names.length ycn,.slice yal y.list.length ycl]) (hrd:=hrl) (hS:=(fun y o h=>(At.cons (hS y o h)))) (hl:=List.cons_ne_nil _ _) (hv:=(fun _=>(elt4 hye))) (k:=?_))
        refine F5 (ch:=[]) (z:=.agg #[.int .i64 0,.string (ByteArray.mk #[]),.slice none 0 0,.slice none 0 0]) (k:=(fun b10=>?_))
        refine E9 (ch:=[]) (b:=b10) (off:=0) (v:=.agg #[.int .i64 y.kind,.string (bk y.text),.slice yan y.names.length ycn,.slice yal y.list.length ycl]) (j:=0) ([(b10,.cells #[.int .i64 y.kind,.string (bk y.text),.slice yan y.names.length ycn,.slice yal y.list.length ycl] 28 (0,0))]::[(b1,.cells #[.int .i64 x.kind,.string (bk x.text),.slice an x.names.length cn,.slice al x.list.length cl] 28 (0,0))]::H) (hoff:=Nat.le_of_ble_eq_true rfl) (hfz:=(fun _ _=>E3)) (k:=B0 [] [1,5,9,50,51,52] (k:=?_))
        refine A0 (A1 ?_)
        refine A1 (G_p [0,0] [1,5,9,50,51,52,57] (k:=?_))
        refine A0 (B2 (b:=decide (z > 100000)) kr (fun hc11=>?_) (fun hc11=>?_))
        ·
          simp only [decide_eq_true_eq,gt_iff_lt] at hc11
          have hL1:szF (szP m) x.list n=none:=by rw [hL,szF_step hlt,if_pos (by omega)]
          rw [hL1] at hZ
          refine A1 (B7 (E':=[⟨4,[],.int .i64 100001⟩]) [0] [4] (k:=?_))
          refine A0 (B5 ?_)
          refine A3 (B4 ?_)
          refine A3 (A3 ?_)
          refine B4 (A3 ?_)
          refine C1 (H':=H) (fun w h=>((h.erase 1).erase 0)) (B6 [.tmp 4] [.int .i64 100001] (k:=?_))
          exact ⟨congrArg (Value.int .i64) hZ.symm,rfl⟩
        ·
          simp only [decide_eq_false_iff_not,gt_iff_lt] at hc11
          refine A8 (A0 ?_)
          refine A2 (A4 (j:=1) [0] (k:=?_))
          refine D3 (ch:=[]) (b:=b10) (off:=0) (l:=[.int .i64 y.kind,.string (bk y.text),.slice yan y.names.length ycn,.slice yal y.list.length ycl]) (hA:=At.grp 0 0 rfl rfl) (k:=A4 (j:=4) [0,0] (k:=?_))
          refine D5 61 (d - 1) (by omega) (by omega) kr (H4 Tryz.func21 (hrec y hysz m hdm yan ycn yal ycl ycs hyn hyl hyc _ _ (fun y o h=>At.cons (At.cons (hS y o h)))) ?_)
          refine A4 (j:=6) [0] (k:=D5 63 (z+(szP m y)) (by omega) (by omega) kr ?_)
          refine B0 [0] [1,5,50,51,52] (k:=B8 ?_)
          refine A0 ?_
          have hw14:IntKind.wrap .i64 (((k:Nat):Int)+1)=((k:Nat):Int)+1:=w64 (by omega) (by omega)
          refine A2 (C0 (E':=[⟨64,[],.int .i64 (((k:Nat):Int)+1)⟩,⟨1,[],.int .i64 d⟩,⟨5,[],.int .i64 (z+(szP m y))⟩,⟨50,[],.slice al x.list.length cl⟩,⟨51,[],.int .i64 ((x.list.length:Nat):Int)⟩,⟨52,[],.int .i64 ((k:Nat):Int)⟩]) [0] (Eq.trans (b:=some [⟨64,[],.int .i64 (IntKind.wrap .i64 (((k:Nat):Int)+1))⟩,⟨1,[],.int .i64 d⟩,⟨5,[],.int .i64 (z+(szP m y))⟩,⟨50,[],.slice al x.list.length cl⟩,⟨51,[],.int .i64 ((x.list.length:Nat):Int)⟩,⟨52,[],.int .i64 ((k:Nat):Int)⟩]) kr (by simp only [hw14])) (j:=1) rfl ?_)
          refine C4 (E':=[⟨64,[],.int .i64 ((k+1:Nat):Int)⟩,⟨1,[],.int .i64 d⟩,⟨5,[],.int .i64 (z+(szP m y))⟩,⟨50,[],.slice al x.list.length cl⟩,⟨51,[],.int .i64 ((x.list.length:Nat):Int)⟩,⟨52,[],.int .i64 ((k:Nat):Int)⟩]) (by rw [show ((k:Nat):Int)+1=((k+1:Nat):Int) by omega]) (B0 [0] [1,5,50,51,52] (k:=?_))
          refine C1 (H':=([(b1,.cells #[.int .i64 x.kind,.string (bk x.text),.slice an x.names.length cn,.slice al x.list.length cl] 28 (0,0))]::H)) (fun w h=>(h.erase 0)) (E6 (s':=(k+1,z+(szP m y))) [1,5,50,51,52] kr rfl ⟨(by dsimp only; omega),(by dsimp only; omega),(by dsimp only; rw [hL,szF_step hlt,← hyx,if_neg (by omega)])⟩ (by dsimp only; omega))
      ·
        simp only [decide_eq_false_iff_not] at hc9
        have hL1:szF (szP m) x.list n=some z:=by rw [hL,List.drop_eq_nil_of_le (by omega)]; rfl
        rw [hL1] at hZ
        refine G3 (A9 ?_)
        refine A9 (C5 ?_)
        refine A0 (A1 ?_)
        refine B7 (E':=[⟨4,[],.int .i64 z⟩]) [0,0] [4] (k:=A0 ?_)
        refine B5 (C1 (H':=H) (fun w h=>(h.erase 0)) ?_)
        refine B6 [.tmp 4] [.int .i64 z] (k:=?_)
        exact ⟨congrArg (Value.int .i64) hZ.symm,rfl⟩
theorem rsize_:∀ (n:Nat) (x:JV),szJ x≤n→∀ (m0:Nat),m0≤100→∀ (d:Int),d=(m0:Int)→∀ (an:Option Addr) (cn:Nat) (al:Option Addr) (cl:Nat) (cs:List Value) (S:Nat→Obj→Prop),Rd S an (E7 x.names)→Rd S al cs→JRdL S x.list cs→∀ (W0:World) (H:List Grp),(∀ z o,S z o→At W0 H z o)→Tri Tryz.prog 21 #[.agg (jvC x an cn al cl).toArray,.int .i64 d] W0 H (fun v H'=>v=.int .i64 (szP m0 x)∧H'=H)
  | 0,x,h,_,_,_,_,_,_,_,_,_,_,_,_,_,_,_,_=>absurd (szJ_pos x) (by omega)
  | n+1,x,h,m0,hm,d,hd,an,cn,al,cl,cs,S,h1,h2,h3,W0,H,hS=>rsizeW_ x an cn al cl cs S h1 h2 h3 m0 d hd hm (fun y hy m hdm an cn al cl cs h1 h2 h3 W0 H hS=>rsize_ n y (by omega) m (by omega) (d - 1) (by omega) an cn al cl cs S h1 h2 h3 W0 H hS) W0 H hS
end Go.Proofs.YtppgfiklmfoaeaaGreatDoor
namespace Go.Proofs.YtppgfiklmfoaeaaGreatDoor
open Go.Sw Go.Sha Go.Esc Go.RowKit Go.Json
theorem rd_cast {S:Nat→Obj→Prop} {a:Option Addr} {cs cs':List Value} (h:Rd S a cs) (he:cs=cs'):Rd S a cs':=he ▸ h
theorem jparseV (a:Option Addr) (c:Nat) (l:List UInt8) (S:Nat→Obj→Prop) (hrd:Rd S a (u8s l)) (x:JV) (e:Int) (hp:parR l=(x,e)) (W0:World) (H:List Grp) (hS:∀ y o,S y o→At W0 H y o) (hW:F2 W0):Tri Tryz.prog 16 #[.slice a l.length c] W0 H (fun v H2=>∃ c g,JRep 9 28 x c g∧v=.tuple #[.agg c.toArray,.int .i64 e]∧H2=g::H):=by
  have h:=jparse_ a c l S hrd W0 H hS hW
  rw [hp] at h; exact h
theorem jdepthC (x:JV) (c:List Value) (S:Nat→Obj→Prop) (h:JRd S x c) (hd:cnJ x≤1000000000) (n:Nat) (hn:dpP x=n) (W0:World) (H:List Grp) (hS:∀ z o,S z o→At W0 H z o):Tri Tryz.prog 19 #[.agg c.toArray] W0 H (fun v H'=>v=.int .i64 (n:Int)∧H'=H):=by
  obtain ⟨an,al,cn,cl,cs,rfl,a1,a2,a3⟩:=h.shape
  subst hn
  exact jdepth_ (szJ x) x (Nat.le_refl _) hd an cn al cl cs S a1 a2 a3 W0 H hS
theorem rdepthC (x:JV) (c:List Value) (S:Nat→Obj→Prop) (h:JRd S x c) (hd:cnJ x≤1000000000) (W0:World) (H:List Grp) (hS:∀ z o,S z o→At W0 H z o):Tri Tryz.prog 20 #[.agg c.toArray] W0 H (fun v H'=>v=.int .i64 (dpP x:Int)∧H'=H):=by
  obtain ⟨an,al,cn,cl,cs,rfl,a1,a2,a3⟩:=h.shape
  exact rdepth_ (szJ x) x (Nat.le_refl _) hd an cn al cl cs S a1 a2 a3 W0 H hS
theorem jprintC (x:JV) (c:List Value) (S:Nat→Obj→Prop) (h:JRd S x c) (hw:wtJ x≤100000000) (u:Value) (hu:(if rtP 24 x then .tuple #[.string (bk (prP x)),.int .i64 0] else .tuple #[.string (ByteArray.mk #[]),.int .i64 2])=u) (W0:World) (H:List Grp) (hS:∀ z o,S z o→At W0 H z o) (hW:F2 W0):Tri Tryz.prog 22 #[.agg c.toArray] W0 H (fun v H'=>v=u∧H'=H):=by
  obtain ⟨an,al,cn,cl,cs,rfl,a1,a2,a3⟩:=h.shape
  subst hu
  exact jprint_ x an cn al cl cs S a1 a2 a3 hw W0 H hS hW
theorem jgetC (x:JV) (an:Option Addr) (cn:Nat) (al:Option Addr) (cl:Nat) (S:Nat→Obj→Prop) (h:JRd S x (jvC x an cn al cl)) (hcl:x.list.length≤cl) (hcn:cnJ x≤1000000000) (name:ByteArray) (y:Option JV) (hy:getP x name.data.toList=y) (W0:World) (H:List Grp) (hS:∀ y o,S y o→At W0 H y o):Tri Tryz.prog 25 #[.agg (jvC x an cn al cl).toArray,.string name] W0 H (fun v H'=>∃ c0 c1 c2 c3,JRd S (y.getD nul) [c0,c1,c2,c3]∧v=.tuple #[.agg #[c0,c1,c2,c3],.bool y.isSome]∧H'=H):=by
  obtain ⟨an',al',cn',cl',cs,e,a1,a2,a3⟩:=h.shape
  subst hy
  unfold jvC at e
  injection e with _ e; injection e with _ e; injection e with e1 e; injection e with e2 _; injection e1 with e1 _ e1'; injection e2 with e2 _ e2'
  subst e1 e1' e2 e2'
  have:=jget_ x an cn al cl cs S a1 a2 a3 hcl hcn name.data.toList W0 H hS
  rwa [show bk name.data.toList=name from rfl] at this
def V1:JV:=.mk 6 [] [[97],[97]] [.mk 5 [] [] [.mk 3 [49] [] [],.mk 4 [120] [] []],.mk 0 [] [] []]
theorem v1_shape {ts tj:TypeId} {c:List Value} {g:Grp} (h:JRep ts tj V1 c g):∃ an cn al cl,c=[.int .i64 6,.string (ByteArray.mk #[]),.slice an 2 cn,.slice al 2 cl]∧2≤cl:=by
  cases h with
  | mk h1 h2 h3=>exact ⟨_,_,_,_,rfl,own_cap h2⟩
theorem first_  (W0:World) (H:List Grp) (hW:F2 W0):Tri Tryz.prog 15 #[] W0 H (fun v H'=>v=.bool true∧H'=H):=by
 refine C6 (args:=[]) (n:=64) Tryz.func15 rfl rfl (Nat.le_of_ble_eq_true rfl) ?_
 refine A1 (B7 (E':=[]) [0] [] (k:=?_))
 refine A0 (A1 ?_)
 refine A2 (C9 (ch:=[]) (e:=5) (l:=[(0,.int .u8 32),(1,.int .u8 123),(2,.int .u8 34),(3,.int .u8 97),(4,.int .u8 34),(5,.int .u8 58),(6,.int .u8 91),(7,.int .u8 49),(8,.int .u8 44),(9,.int .u8 34),(10,.int .u8 120),(11,.int .u8 34),(12,.int .u8 93),(13,.int .u8 44),(14,.int .u8 34),(15,.int .u8 97),(16,.int .u8 34),(17,.int .u8 58),(18,.int .u8 110),(19,.int .u8 117),(20,.int .u8 108),(21,.int .u8 108),(22,.int .u8 125),(23,.int .u8 32)]) (c:=[.int .u8 32,.int .u8 123,.int .u8 34,.int .u8 97,.int .u8 34,.int .u8 58,.int .u8 91,.int .u8 49,.int .u8 44,.int .u8 34,.int .u8 120,.int .u8 34,.int .u8 93,.int .u8 44,.int .u8 34,.int .u8 97,.int .u8 34,.int .u8 58,.int .u8 110,.int .u8 117,.int .u8 108,.int .u8 108,.int .u8 125,.int .u8 32]) (k:=(fun b1=>?_)))
 refine GL_sameBytes (i:=1) (ch:=[]) (t:=22) (e:=5) (b:=b1) (off:=0) (l:=24) (cap:=24) (j:=0) (m:=0) rfl rfl kr kr kr kr kr kr rfl rfl (by rfl) (D8 Tryz.func16 (jparseV (some ⟨b1,0,none⟩) 24 ([32,123,34,97,34,58,91,49,44,34,120,34,93,44,34,97,34,58,110,117,108,108,125,32]:List UInt8) (inG [(b1,.cells #[.int .u8 32,.int .u8 123,.int .u8 34,.int .u8 97,.int .u8 34,.int .u8 58,.int .u8 91,.int .u8 49,.int .u8 44,.int .u8 34,.int .u8 120,.int .u8 34,.int .u8 93,.int .u8 44,.int .u8 34,.int .u8 97,.int .u8 34,.int .u8 58,.int .u8 110,.int .u8 117,.int .u8 108,.int .u8 108,.int .u8 125,.int .u8 32] 5 (24,24+1))]) (rd_cast (cs:=[.int .u8 32,.int .u8 123,.int .u8 34,.int .u8 97,.int .u8 34,.int .u8 58,.int .u8 91,.int .u8 49,.int .u8 44,.int .u8 34,.int .u8 120,.int .u8 34,.int .u8 93,.int .u8 44,.int .u8 34,.int .u8 97,.int .u8 34,.int .u8 58,.int .u8 110,.int .u8 117,.int .u8 108,.int .u8 108,.int .u8 125,.int .u8 32]) Rd.lit kr) V1 0 kr _ _ (F9 0 rfl) hW) ?_)
 rintro _ _ ⟨c2,gp2,hJ2,rfl,rfl⟩
 obtain ⟨van2,vcn2,val2,vcl2,rfl,hcl2⟩:=v1_shape hJ2
 refine A4 (j:=6) [0,0,0] (k:=F5 (ch:=[]) (z:=.agg #[.int .i64 0,.string (ByteArray.mk #[]),.slice none 0 0,.slice none 0 0]) (k:=(fun b3=>?_)))
 refine E9 (ch:=[]) (b:=b3) (off:=0) (v:=.agg #[.int .i64 6,.string (ByteArray.mk #[]),.slice van2 2 vcn2,.slice val2 2 vcl2]) (j:=0) ([(b3,.cells #[.int .i64 6,.string (ByteArray.mk #[]),.slice van2 2 vcn2,.slice val2 2 vcl2] 28 (0,0))]::gp2::[(b1,.cells #[.int .u8 32,.int .u8 123,.int .u8 34,.int .u8 97,.int .u8 34,.int .u8 58,.int .u8 91,.int .u8 49,.int .u8 44,.int .u8 34,.int .u8 120,.int .u8 34,.int .u8 93,.int .u8 44,.int .u8 34,.int .u8 97,.int .u8 34,.int .u8 58,.int .u8 110,.int .u8 117,.int .u8 108,.int .u8 108,.int .u8 125,.int .u8 32] 5 (24,24+1))]::H) (hoff:=Nat.le_of_ble_eq_true rfl) (hfz:=(fun _ _=>E3)) (k:=B1 (E':=[⟨1,[],pt b3⟩,⟨2,[],.int .i64 0⟩]) [0] [1,2] (k:=?_))
 refine A0 (A1 ?_)
 refine A2 (D3 (ch:=[]) (b:=b3) (off:=0) (l:=[.int .i64 6,.string (ByteArray.mk #[]),.slice van2 2 vcn2,.slice val2 2 vcl2]) (hA:=At.grp 0 0 rfl rfl) (k:=?_))
 refine D8 (vs:=[.agg #[.int .i64 6,.string (ByteArray.mk #[]),.slice van2 2 vcn2,.slice val2 2 vcl2],.string (ByteArray.mk #[97])]) Tryz.func25 (jgetC V1 van2 vcn2 val2 vcl2 (inG gp2) (hJ2.rd (fun _ _ h=>h)) hcl2 (Nat.le_of_ble_eq_true kr) (ByteArray.mk #[97]) (some nul) kr _ _ (F9 1 rfl)) ?_
 rintro _ _ ⟨d04,d14,d24,d34,hG4,rfl,rfl⟩
 obtain ⟨van4,val4,vcn4,vcl4,ds4,he4,_,_,_⟩:=JRd.shape (v:=nul) hG4
 injection he4 with e1 he4; injection he4 with e2 he4; injection he4 with e3 he4; injection he4 with e4 _
 subst e1 e2 e3 e4
 refine A4 (j:=5) [0,0,0] (k:=F5 (ch:=[]) (z:=.agg #[.int .i64 0,.string (ByteArray.mk #[]),.slice none 0 0,.slice none 0 0]) (k:=(fun b5=>?_)))
 refine E9 (ch:=[]) (b:=b5) (off:=0) (v:=.agg #[.int .i64 0,.string (ByteArray.mk #[]),.slice van4 0 vcn4,.slice val4 0 vcl4]) (j:=0) ([(b5,.cells #[.int .i64 0,.string (ByteArray.mk #[]),.slice van4 0 vcn4,.slice val4 0 vcl4] 28 (0,0))]::[(b3,.cells #[.int .i64 6,.string (ByteArray.mk #[]),.slice van2 2 vcn2,.slice val2 2 vcl2] 28 (0,0))]::gp2::[(b1,.cells #[.int .u8 32,.int .u8 123,.int .u8 34,.int .u8 97,.int .u8 34,.int .u8 58,.int .u8 91,.int .u8 49,.int .u8 44,.int .u8 34,.int .u8 120,.int .u8 34,.int .u8 93,.int .u8 44,.int .u8 34,.int .u8 97,.int .u8 34,.int .u8 58,.int .u8 110,.int .u8 117,.int .u8 108,.int .u8 108,.int .u8 125,.int .u8 32] 5 (24,24+1))]::H) (hoff:=Nat.le_of_ble_eq_true rfl) (hfz:=(fun _ _=>E3)) (k:=B0 [0] [1,2,3,4] (k:=?_))
 refine A0 (A1 ?_)
 refine A2 (C9 (ch:=[]) (e:=5) (l:=[(0,.int .u8 91),(1,.int .u8 49),(2,.int .u8 44),(3,.int .u8 93)]) (c:=[.int .u8 91,.int .u8 49,.int .u8 44,.int .u8 93]) (k:=(fun b6=>?_)))
 refine GL_sameBytes (i:=1) (ch:=[]) (t:=22) (e:=5) (b:=b6) (off:=0) (l:=4) (cap:=4) (j:=0) (m:=0) rfl rfl kr kr kr kr kr kr rfl rfl (by rfl) (D8 Tryz.func16 (jparseV (some ⟨b6,0,none⟩) 4 ([91,49,44,93]:List UInt8) (inG [(b6,.cells #[.int .u8 91,.int .u8 49,.int .u8 44,.int .u8 93] 5 (4,4+1))]) (rd_cast (cs:=[.int .u8 91,.int .u8 49,.int .u8 44,.int .u8 93]) Rd.lit kr) ((parR [91,49,44,93]).1) 70 kr _ _ (F9 0 rfl) hW) ?_)
 rintro _ _ ⟨c7,gp7,hJ7,rfl,rfl⟩
 obtain ⟨vk7,vt7,van7,vn7,vcn7,val7,vm7,vcl7,rfl⟩:=hJ7.shape
 refine A4 (j:=6) [0,0,0] (k:=F5 (ch:=[]) (z:=.agg #[.int .i64 0,.string (ByteArray.mk #[]),.slice none 0 0,.slice none 0 0]) (k:=(fun b8=>?_)))
 refine E9 (ch:=[]) (b:=b8) (off:=0) (v:=.agg #[.int .i64 vk7,.string vt7,.slice van7 vn7 vcn7,.slice val7 vm7 vcl7]) (j:=0) ([(b8,.cells #[.int .i64 vk7,.string vt7,.slice van7 vn7 vcn7,.slice val7 vm7 vcl7] 28 (0,0))]::gp7::[(b6,.cells #[.int .u8 91,.int .u8 49,.int .u8 44,.int .u8 93] 5 (4,4+1))]::[(b5,.cells #[.int .i64 0,.string (ByteArray.mk #[]),.slice van4 0 vcn4,.slice val4 0 vcl4] 28 (0,0))]::[(b3,.cells #[.int .i64 6,.string (ByteArray.mk #[]),.slice van2 2 vcn2,.slice val2 2 vcl2] 28 (0,0))]::gp2::[(b1,.cells #[.int .u8 32,.int .u8 123,.int .u8 34,.int .u8 97,.int .u8 34,.int .u8 58,.int .u8 91,.int .u8 49,.int .u8 44,.int .u8 34,.int .u8 120,.int .u8 34,.int .u8 93,.int .u8 44,.int .u8 34,.int .u8 97,.int .u8 34,.int .u8 58,.int .u8 110,.int .u8 117,.int .u8 108,.int .u8 108,.int .u8 125,.int .u8 32] 5 (24,24+1))]::H) (hoff:=Nat.le_of_ble_eq_true rfl) (hfz:=(fun _ _=>E3)) (k:=B0 [0] [1,2,3,4,6] (k:=?_))
 refine A0 (A1 ?_)
 refine A2 (D3 (ch:=[]) (b:=b3) (off:=0) (l:=[.int .i64 6,.string (ByteArray.mk #[]),.slice van2 2 vcn2,.slice val2 2 vcl2]) (hA:=At.grp 4 0 rfl rfl) (k:=?_))
 refine H4 (vs:=[.agg #[.int .i64 6,.string (ByteArray.mk #[]),.slice van2 2 vcn2,.slice val2 2 vcl2]]) Tryz.func22 (jprintC V1 [.int .i64 6,.string (ByteArray.mk #[]),.slice van2 2 vcn2,.slice val2 2 vcl2] (inG gp2) (hJ2.rd (fun _ _ h=>h)) (Nat.le_of_ble_eq_true kr) (.tuple #[.string (ByteArray.mk #[123,34,97,34,58,91,49,44,34,120,34,93,44,34,97,34,58,110,117,108,108,125]),.int .i64 0]) kr _ _ (F9 5 rfl) hW) (B0 [0,0,0,0,0] [1,2,3,4,6,7,8] (k:=?_))
 refine A0 (A1 ?_)
 refine A2 (A4 (j:=4) [0,0,0,0] (k:=?_))
 refine A5 (ch:=[(33,true)]) (b:=b3) (off:=3) (v:=.slice val2 2 vcl2) (hA:=At.grp 4 0 rfl rfl) (k:=A4 (j:=13) [0,0,2,0,0,2,0,0] (k:=?_))
 refine A5 (ch:=[(42,true)]) (b:=b5) (off:=0) (v:=.int .i64 0) (hA:=At.grp 3 0 rfl rfl) (k:=A4 (j:=29) [0,2,0,0,0,2,0,0,0,2,0,0,0,2,0] (k:=?_))
 refine D3 (ch:=[(59,true)]) (b:=b3) (off:=0) (l:=[.int .i64 6,.string (ByteArray.mk #[]),.slice van2 2 vcn2,.slice val2 2 vcl2]) (hA:=At.grp 4 0 rfl rfl) (k:=F7 (ch:=[(59,true)]) (f:=19) (fst:=#[]) (caps:=#[]) (vs:=[.agg #[.int .i64 6,.string (ByteArray.mk #[]),.slice van2 2 vcn2,.slice val2 2 vcl2]]) (v:=.int .i64 2) (hf:=Tryz.func19) (hc:=(fun hc=>jdepthC V1 [.int .i64 6,.string (ByteArray.mk #[]),.slice van2 2 vcn2,.slice val2 2 vcl2] (inG gp2) (hJ2.rd (fun _ _ h=>h)) (Nat.le_of_ble_eq_true kr) 2 kr _ _ (F9 5 rfl))) (k:=?_))
 refine B0 [0,6,0] [0] (k:=A0 ?_)
 refine B5 (C1 (H':=H) (fun w h=>(((((((h.erase 6).erase 5).erase 4).erase 3).erase 2).erase 1).erase 0)) ?_)
 refine B6 [.tmp 0] [.bool (((ByteArray.mk #[123,34,97,34,58,91,49,44,34,120,34,93,44,34,97,34,58,110,117,108,108,125]).toList==(ByteArray.mk #[123,34,97,34,58,91,49,44,34,120,34,93,44,34,97,34,58,110,117,108,108,125]).toList)&&true)] (k:=?_)
 exact ⟨congrArg Value.bool (by rw [(eqB _ _).2 rfl]; rfl),rfl⟩
end Go.Proofs.YtppgfiklmfoaeaaGreatDoor
namespace Go.Proofs.YtppgfiklmfoaeaaGreatDoor
open Go.Sw Go.Sha Go.Esc Go.RowKit Go.Json
theorem getP_at {x:JV} (name:List UInt8) {k:Nat} (hn:k≤x.names.length) (hl:k≤x.list.length) (h6:x.kind=6∨k=0) (h:¬ (x.kind=6∧k<x.names.length∧k<x.list.length)):getM name (x.names.take k) (x.list.take k)=getP x name:=by
  by_cases h':x.kind=6
  · rw [getP_all h' name (m:=k) (by omega)]
  · rw [getP_no h',show k=0 by omega,List.take_zero]; rfl
def gtxt (g:JV):ByteArray:=if g.kind=4∨g.kind=3 then bk g.text else ByteArray.mk #[]
theorem rget_ (x:JV) (an:Option Addr) (cn:Nat) (al:Option Addr) (cl:Nat) (cs:List Value) (S:Nat→Obj→Prop) (hrn:Rd S an (E7 x.names)) (hrl:Rd S al cs) (hrc:JRdL S x.list cs) (hcn:cnJ x≤1000000000) (name:List UInt8) (W0:World) (H:List Grp) (hS:∀ y o,S y o→At W0 H y o):Tri Tryz.prog 26 #[.agg #[.int .i64 x.kind,.string (bk x.text),.slice an x.names.length cn,.slice al x.list.length cl],.string (bk name)] W0 H (fun v H'=>∃ c0 c1 c2 c3,JRd S ((getP x name).getD nul) [c0,c1,c2,c3]∧v=.tuple #[.agg #[c0,c1,c2,c3],.bool (getP x name).isSome]∧H'=H):=by
 have hxl:=H8 x
 refine C6 (args:=[.agg #[.int .i64 x.kind,.string (bk x.text),.slice an x.names.length cn,.slice al x.list.length cl],.string (bk name)]) (n:=42) Tryz.func26 rfl rfl (Nat.le_of_ble_eq_true rfl) ?_
 refine A1 (A2 ?_)
 refine G7 (ch:=[]) (v:=.agg #[.int .i64 x.kind,.string (bk x.text),.slice an x.names.length cn,.slice al x.list.length cl]) (k:=(fun b1=>?_))
 refine F5 (ch:=[]) (z:=.agg #[.int .i64 0,.string (ByteArray.mk #[]),.slice none 0 0,.slice none 0 0]) (k:=(fun b2=>?_))
 refine B0 [0] [1,2,4] (k:=A0 ?_)
 refine A1 (A2 ?_)
 refine F5 (ch:=[]) (z:=.agg #[.int .i64 0,.string (ByteArray.mk #[]),.slice none 0 0,.slice none 0 0]) (k:=(fun b3=>?_))
 refine B0 [] [1,2,4,6] (k:=A0 ?_)
 refine A1 (G_p [0] [1,2,4,6,7] (k:=?_))
 refine A0 (A1 ?_)
 refine A1 (G_p [0] [1,2,4,6,7,8] (k:=?_))
 refine A0 (B9 ?_)
 refine I6 (EI:=(fun ξ:Nat × Bool × Int × ByteArray × Option Addr × Nat × Nat × Option Addr × Nat × Nat=>[⟨1,[],.string (bk name)⟩,⟨2,[],pt b1⟩,⟨4,[],pt b2⟩,⟨6,[],pt b3⟩,⟨7,[],.bool ξ.2.1⟩,⟨8,[],.int .i64 ((ξ.1:Nat):Int)⟩])) (HI:=(fun ξ:Nat × Bool × Int × ByteArray × Option Addr × Nat × Nat × Option Addr × Nat × Nat=>([(b3,.cells #[.int .i64 ξ.2.2.1,.string ξ.2.2.2.1,.slice ξ.2.2.2.2.1 ξ.2.2.2.2.2.1 ξ.2.2.2.2.2.2.1,.slice ξ.2.2.2.2.2.2.2.1 ξ.2.2.2.2.2.2.2.2.1 ξ.2.2.2.2.2.2.2.2.2] 28 (0,0))]::[(b2,.cells #[.int .i64 0,.string (ByteArray.mk #[]),.slice none 0 0,.slice none 0 0] 28 (0,0))]::[(b1,.cells #[.int .i64 x.kind,.string (bk x.text),.slice an x.names.length cn,.slice al x.list.length cl] 28 (0,0))]::H))) (Φ:=(fun ξ:Nat × Bool × Int × ByteArray × Option Addr × Nat × Nat × Option Addr × Nat × Nat=>(ξ.1≤x.names.length)∧(ξ.1≤x.list.length)∧(x.kind=6∨ξ.1=0)∧(ξ.2.1=(getM name (x.names.take ξ.1) (x.list.take ξ.1)).isSome)∧(JRd S ((getM name (x.names.take ξ.1) (x.list.take ξ.1)).getD nul) [.int .i64 ξ.2.2.1,.string ξ.2.2.2.1,.slice ξ.2.2.2.2.1 ξ.2.2.2.2.2.1 ξ.2.2.2.2.2.2.1,.slice ξ.2.2.2.2.2.2.2.1 ξ.2.2.2.2.2.2.2.2.1 ξ.2.2.2.2.2.2.2.2.2]))) (μ:=(fun ξ:Nat × Bool × Int × ByteArray × Option Addr × Nat × Nat × Option Addr × Nat × Nat=>x.list.length - ξ.1)) (s0:=(0,false,0,(ByteArray.mk #[]),none,0,0,none,0,0)) [1,2,4,6,7,8] kr rfl ⟨(Nat.zero_le _),(Nat.zero_le _),(.inr rfl),rfl,jrd_nul⟩ ?_
 rintro ⟨k,fb,gk,gt,gan,gn,gcn,gal,gm,gcl⟩ ⟨hkn,hkl,hk6,hf,hJ⟩
 try dsimp only at hkn hkl hk6 hf hJ
 refine A1 (A1 ?_)
 refine A2 (A4 (j:=1) [0] (k:=?_))
 refine A5 (ch:=[]) (b:=b1) (off:=0) (v:=.int .i64 x.kind) (hA:=At.grp 2 0 rfl rfl) (k:=A4 (j:=6) [0,0,0,0] (k:=?_))
 refine A5 (ch:=[(12,true)]) (b:=b1) (off:=2) (v:=.slice an x.names.length cn) (hA:=At.grp 2 0 rfl rfl) (k:=A4 (j:=13) [0,0,6,0,0,0] (k:=?_))
 refine A5 (ch:=[(19,true)]) (b:=b1) (off:=3) (v:=.slice al x.list.length cl) (hA:=At.grp 2 0 rfl rfl) (k:=B0 [0,0,6] [1,2,4,6,7,8,25] (k:=?_))
 refine A0 (B2 (b:=((x.kind==6)&&(decide (((k:Nat):Int)<((x.names.length:Nat):Int))))&&(decide (((k:Nat):Int)<((x.list.length:Nat):Int)))) kr (fun hc4=>?_) (fun hc4=>?_))
 ·
  simp only [Bool.and_eq_true,decide_eq_true_eq,beq_iff_eq] at hc4
  obtain ⟨hx6,hnl',hlt'⟩:x.kind=6∧k<x.names.length∧k<x.list.length:=by omega
  have hnl:k<x.names.length:=hnl'
  have hlt:k<x.list.length:=hlt'
  obtain ⟨y,yan,ycn,yal,ycl,ycs,hyx,hye,hyn,hyl,hyc⟩:=hrc.get hlt
  have hysz:szJ y<szJ x:=by rw [hyx]; exact szJ_lt hlt
  obtain ⟨nm,hnm⟩:∃ nm,nm=x.names[k]'hnl:=⟨_,rfl⟩
  refine A8 (A0 ?_)
  refine A1 (B9 ?_)
  refine A1 (A2 ?_)
  refine A4 (j:=1) [0] (k:=A5 (ch:=[]) (b:=b1) (off:=2) (v:=.slice an x.names.length cn) (hA:=At.grp 2 0 rfl rfl) (k:=?_))
  refine A4 (j:=3) [0] (k:=D0 (ch:=[]) (a:=an) (len:=x.names.length) (cap:=cn) (kd:=.i64) (j:=((k:Nat):Int)) (e:=9) (sz:=1) (S:=S) (cs:=(E7 x.names)) (hrd:=hrn) (hb:=(fun _=>by first | exact ⟨by omega,by omega,I4 hnl⟩ | exact ⟨by omega,by omega,hrc.ne hlt⟩)) (k:=?_))
  refine I1 (ch:=[]) (a:=an) (q:=k * 1) (S:=S) (cs:=(E7 x.names)) (v:=.string (bk nm)) (hrd:=hrn) (hS:=(fun y o h=>(At.cons (At.cons (At.cons (hS y o h)))))) (hv:=(fun _=>(L7 hnl hnm))) (k:=B0 [0,0] [1,2,4,6,7,8,34] (k:=?_))
  refine A0 (B2 (b:=(bk nm).toList==(bk name).toList) kr (fun hc5=>?_) (fun hc5=>?_))
  ·
   have hnq:x.names[k]=name:=hnm.symm.trans ((eqB (bk nm) (bk name)).1 hc5)
   refine A1 (A2 ?_)
   refine A4 (j:=1) [0] (k:=A5 (ch:=[]) (b:=b1) (off:=3) (v:=.slice al x.list.length cl) (hA:=At.grp 2 0 rfl rfl) (k:=?_))
   refine A4 (j:=3) [0] (k:=D0 (ch:=[]) (a:=al) (len:=x.list.length) (cap:=cl) (kd:=.i64) (j:=((k:Nat):Int)) (e:=28) (sz:=4) (S:=S) (cs:=cs) (hrd:=hrl) (hb:=(fun _=>by first | exact ⟨by omega,by omega,I4 hnl⟩ | exact ⟨by omega,by omega,hrc.ne hlt⟩)) (k:=?_))
   refine I7 (ch:=[]) (a:=al) (q:=k * 4) (S:=S) (cs:=cs) (l:=[.int .i64 y.kind,.string (bk y.text),.slice yan y.names.length ycn,.slice yal y.list.length ycl]) (hrd:=hrl) (hS:=(fun y o h=>(At.cons (At.cons (At.cons (hS y o h)))))) (hl:=List.cons_ne_nil _ _) (hv:=(fun _=>(elt4 hye))) (k:=E9 (ch:=[]) (b:=b3) (off:=0) (v:=.agg #[.int .i64 y.kind,.string (bk y.text),.slice yan y.names.length ycn,.slice yal y.list.length ycl]) (j:=0) ([(b3,.cells #[.int .i64 y.kind,.string (bk y.text),.slice yan y.names.length ycn,.slice yal y.list.length ycl] 28 (0,0))]::[(b2,.cells #[.int .i64 0,.string (ByteArray.mk #[]),.slice none 0 0,.slice none 0 0] 28 (0,0))]::[(b1,.cells #[.int .i64 x.kind,.string (bk x.text),.slice an x.names.length cn,.slice al x.list.length cl] 28 (0,0))]::H) (hoff:=Nat.le_of_ble_eq_true rfl) (hfz:=(fun _ _=>E3)) (k:=?_))
   refine B0 [] [1,2,4,6,8] (k:=A0 ?_)
   refine G_p [0] [1,2,4,6,7,8] (k:=B8 ?_)
   refine A0 ?_
   have hw6:IntKind.wrap .i64 (((k:Nat):Int)+1)=((k:Nat):Int)+1:=w64 (by omega) (by omega)
   refine A2 (C0 (E':=[⟨27,[],.int .i64 (((k:Nat):Int)+1)⟩,⟨1,[],.string (bk name)⟩,⟨2,[],pt b1⟩,⟨4,[],pt b2⟩,⟨6,[],pt b3⟩,⟨7,[],.bool true⟩,⟨8,[],.int .i64 ((k:Nat):Int)⟩]) [0,0] (Eq.trans (b:=some [⟨27,[],.int .i64 (IntKind.wrap .i64 (((k:Nat):Int)+1))⟩,⟨1,[],.string (bk name)⟩,⟨2,[],pt b1⟩,⟨4,[],pt b2⟩,⟨6,[],pt b3⟩,⟨7,[],.bool true⟩,⟨8,[],.int .i64 ((k:Nat):Int)⟩]) kr (by simp only [hw6])) (j:=2) rfl ?_)
   refine C4 (E':=[⟨27,[],.int .i64 ((k+1:Nat):Int)⟩,⟨1,[],.string (bk name)⟩,⟨2,[],pt b1⟩,⟨4,[],pt b2⟩,⟨6,[],pt b3⟩,⟨7,[],.bool true⟩,⟨8,[],.int .i64 ((k:Nat):Int)⟩]) (by rw [show ((k:Nat):Int)+1=((k+1:Nat):Int) by omega]) (B0 [0] [1,2,4,6,7,8] (k:=?_))
   refine E6 (s':=((k+1),true,y.kind,(bk y.text),yan,y.names.length,ycn,yal,y.list.length,ycl)) [1,2,4,6,7,8] kr rfl ⟨(by (try dsimp only); omega),(by (try dsimp only); omega),(.inl hx6),(by (try dsimp only); rw [P5 name hnl hlt,if_pos hnq]; rfl),(by (try dsimp only); rw [P5 name hnl hlt,if_pos hnq]; show JRd S x.list[k] _; rw [← hyx]; exact jrd_mk hyn hyl hyc)⟩ (by (try dsimp only); omega)
  ·
   have hnq:¬ x.names[k]=name:=fun hq=>(eqBf (bk nm) (bk name)).1 hc5 (hnm.trans hq)
   refine A8 (B8 ?_)
   refine A0 ?_
   have hw7:IntKind.wrap .i64 (((k:Nat):Int)+1)=((k:Nat):Int)+1:=w64 (by omega) (by omega)
   refine A2 (C0 (E':=[⟨27,[],.int .i64 (((k:Nat):Int)+1)⟩,⟨1,[],.string (bk name)⟩,⟨2,[],pt b1⟩,⟨4,[],pt b2⟩,⟨6,[],pt b3⟩,⟨7,[],.bool fb⟩,⟨8,[],.int .i64 ((k:Nat):Int)⟩]) [0,0] (Eq.trans (b:=some [⟨27,[],.int .i64 (IntKind.wrap .i64 (((k:Nat):Int)+1))⟩,⟨1,[],.string (bk name)⟩,⟨2,[],pt b1⟩,⟨4,[],pt b2⟩,⟨6,[],pt b3⟩,⟨7,[],.bool fb⟩,⟨8,[],.int .i64 ((k:Nat):Int)⟩]) kr (by simp only [hw7])) (j:=2) rfl ?_)
   refine C4 (E':=[⟨27,[],.int .i64 ((k+1:Nat):Int)⟩,⟨1,[],.string (bk name)⟩,⟨2,[],pt b1⟩,⟨4,[],pt b2⟩,⟨6,[],pt b3⟩,⟨7,[],.bool fb⟩,⟨8,[],.int .i64 ((k:Nat):Int)⟩]) (by rw [show ((k:Nat):Int)+1=((k+1:Nat):Int) by omega]) (B0 [0] [1,2,4,6,7,8] (k:=?_))
   refine E6 (s':=((k+1),fb,gk,gt,gan,gn,gcn,gal,gm,gcl)) [1,2,4,6,7,8] kr rfl ⟨(by (try dsimp only); omega),(by (try dsimp only); omega),(.inl hx6),(by (try dsimp only); rw [P5 name hnl hlt,if_neg hnq]; exact hf),(by (try dsimp only); rw [P5 name hnl hlt,if_neg hnq]; exact hJ)⟩ (by (try dsimp only); omega)
 ·
  simp only [Bool.and_eq_false_iff,decide_eq_false_iff_not,beq_eq_false_iff_ne,ne_eq] at hc4
  have hG:=getP_at name hkn hkl hk6 (by omega)
  rw [hG] at hf hJ
  refine G3 (A9 ?_)
  refine A9 (C5 ?_)
  refine A0 (A1 ?_)
  refine A2 (D3 (ch:=[]) (b:=b3) (off:=0) (l:=[.int .i64 gk,.string gt,.slice gan gn gcn,.slice gal gm gcl]) (hA:=At.grp 0 0 rfl rfl) (k:=?_))
  refine A4 (j:=2) [0] (k:=E9 (ch:=[]) (b:=b2) (off:=0) (v:=.agg #[.int .i64 gk,.string gt,.slice gan gn gcn,.slice gal gm gcl]) (j:=1) ([(b3,.cells #[.int .i64 gk,.string gt,.slice gan gn gcn,.slice gal gm gcl] 28 (0,0))]::[(b2,.cells #[.int .i64 gk,.string gt,.slice gan gn gcn,.slice gal gm gcl] 28 (0,0))]::[(b1,.cells #[.int .i64 x.kind,.string (bk x.text),.slice an x.names.length cn,.slice al x.list.length cl] 28 (0,0))]::H) (hoff:=Nat.le_of_ble_eq_true rfl) (hfz:=(fun _ _=>E3)) (k:=?_))
  refine B1 (E':=[⟨4,[],pt b2⟩,⟨5,[],.bool fb⟩]) [0] [4,5] (k:=A0 ?_)
  refine B5 (L5 [.cell 4 28,.tmp 5] [.agg #[.int .i64 gk,.string gt,.slice gan gn gcn,.slice gal gm gcl],.bool fb] rfl (.cons (.agg (b:=b2) (off:=0) (l:=[.int .i64 gk,.string gt,.slice gan gn gcn,.slice gal gm gcl]) kr kr kr (At.grp 1 0 rfl rfl) kr) (.cons (.tmp kr) (.nil))) rfl ⟨H,?_,fun w h=>(((h.erase 2).erase 1).erase 0)⟩)
  exact ⟨_,_,_,_,hJ,by rw [← hf]; rfl,rfl⟩
theorem jmtext_ (x:JV) (an:Option Addr) (cn:Nat) (al:Option Addr) (cl:Nat) (cs:List Value) (S:Nat→Obj→Prop) (hrn:Rd S an (E7 x.names)) (hrl:Rd S al cs) (hrc:JRdL S x.list cs) (hcl:x.list.length≤cl) (hcn:cnJ x≤1000000000) (name:List UInt8) (W0:World) (H:List Grp) (hS:∀ y o,S y o→At W0 H y o):Tri Tryz.prog 27 #[.agg #[.int .i64 x.kind,.string (bk x.text),.slice an x.names.length cn,.slice al x.list.length cl],.string (bk name)] W0 H (fun v H'=>v=.string (gtxt ((getP x name).getD nul))∧H'=H):=by
 have hxl:=H8 x
 refine C6 (args:=[.agg #[.int .i64 x.kind,.string (bk x.text),.slice an x.names.length cn,.slice al x.list.length cl],.string (bk name)]) (n:=23) Tryz.func27 rfl rfl (Nat.le_of_ble_eq_true rfl) ?_
 refine A1 (A2 ?_)
 refine G7 (ch:=[]) (v:=.agg #[.int .i64 x.kind,.string (bk x.text),.slice an x.names.length cn,.slice al x.list.length cl]) (k:=(fun b1=>?_))
 refine B0 [0] [1,2] (k:=A0 ?_)
 refine A1 (A2 ?_)
 refine D3 (ch:=[]) (b:=b1) (off:=0) (l:=[.int .i64 x.kind,.string (bk x.text),.slice an x.names.length cn,.slice al x.list.length cl]) (hA:=At.grp 0 0 rfl rfl) (k:=A4 (j:=2) [0] (k:=?_))
 refine D8 Tryz.func25 (jget_ x an cn al cl cs S hrn hrl hrc hcl hcn name _ _ (fun y o h=>At.cons (hS y o h))) ?_
 rintro _ _ ⟨d0,d1,d2,d3,hG,rfl,rfl⟩
 obtain ⟨g,hg⟩:∃ g,g=(getP x name).getD nul:=⟨_,rfl⟩
 rw [← hg] at hG
 obtain ⟨gan,gal,gcn,gcl,ds,he,_,_,_⟩:=hG.shape
 injection he with e1 he; injection he with e2 he; injection he with e3 he; injection he with e4 _
 subst e1 e2 e3 e4
 refine A4 (j:=6) [0,0,0] (k:=F5 (ch:=[]) (z:=.agg #[.int .i64 0,.string (ByteArray.mk #[]),.slice none 0 0,.slice none 0 0]) (k:=(fun b2=>?_)))
 refine E9 (ch:=[]) (b:=b2) (off:=0) (v:=.agg #[.int .i64 g.kind,.string (bk g.text),.slice gan g.names.length gcn,.slice gal g.list.length gcl]) (j:=0) ([(b2,.cells #[.int .i64 g.kind,.string (bk g.text),.slice gan g.names.length gcn,.slice gal g.list.length gcl] 28 (0,0))]::[(b1,.cells #[.int .i64 x.kind,.string (bk x.text),.slice an x.names.length cn,.slice al x.list.length cl] 28 (0,0))]::H) (hoff:=Nat.le_of_ble_eq_true rfl) (hfz:=(fun _ _=>E3)) (k:=B1 (E':=[⟨5,[],pt b2⟩]) [0] [5] (k:=?_))
 refine A0 (A1 ?_)
 refine A1 (A2 ?_)
 refine A4 (j:=1) [0] (k:=A5 (ch:=[]) (b:=b2) (off:=0) (v:=.int .i64 g.kind) (hA:=At.grp 0 0 rfl rfl) (k:=?_))
 refine A4 (j:=5) [0,0,0] (k:=A5 (ch:=[(16,true)]) (b:=b2) (off:=0) (v:=.int .i64 g.kind) (hA:=At.grp 0 0 rfl rfl) (k:=?_))
 refine B0 [0,6] [5,20] (k:=A0 ?_)
 refine B2 (b:=(g.kind != 4)&&(g.kind != 3)) kr (fun hc3=>?_) (fun hc3=>?_)
 ·
  simp only [Bool.and_eq_true,bne_iff_ne,ne_eq] at hc3
  have hT:gtxt g=ByteArray.mk #[]:=if_neg (by omega)
  refine A1 (B7 (E':=[⟨4,[],.string (ByteArray.mk #[])⟩]) [0] [4] (k:=?_))
  refine A0 (B5 ?_)
  refine A3 (C1 (H':=H) (fun w h=>((h.erase 1).erase 0)) ?_)
  refine B6 [.tmp 4] [.string (ByteArray.mk #[])] (k:=?_)
  exact ⟨congrArg Value.string (by rw [← hg,hT]),rfl⟩
 ·
  simp only [Bool.and_eq_false_iff,bne_eq_false_iff_eq] at hc3
  have hT:gtxt g=bk g.text:=if_pos (by omega)
  refine A8 (A0 ?_)
  refine A1 (A2 ?_)
  refine A4 (j:=1) [0] (k:=A5 (ch:=[]) (b:=b2) (off:=1) (v:=.string (bk g.text)) (hA:=At.grp 0 0 rfl rfl) (k:=?_))
  refine B1 (E':=[⟨4,[],.string (bk g.text)⟩]) [0] [4] (k:=A0 ?_)
  refine B5 (C1 (H':=H) (fun w h=>((h.erase 1).erase 0)) ?_)
  refine B6 [.tmp 4] [.string (bk g.text)] (k:=?_)
  exact ⟨congrArg Value.string (by rw [← hg,hT]),rfl⟩
end Go.Proofs.YtppgfiklmfoaeaaGreatDoor
namespace Go.Proofs.YtppgfiklmfoaeaaGreatDoor
open Go.Sw Go.Sha Go.Esc Go.RowKit Go.Json
theorem rsizeC (x:JV) (c:List Value) (S:Nat→Obj→Prop) (h:JRd S x c) (W0:World) (H:List Grp) (hS:∀ z o,S z o→At W0 H z o):Tri Tryz.prog 21 #[.agg c.toArray,.int .i64 40] W0 H (fun v H'=>v=.int .i64 (szP 40 x)∧H'=H):=by
  obtain ⟨an,al,cn,cl,cs,rfl,a1,a2,a3⟩:=h.shape
  exact rsize_ (szJ x) x (Nat.le_refl _) 40 (by decide) 40 (by decide) an cn al cl cs S a1 a2 a3 W0 H hS
theorem rrightC (x:JV) (c:List Value) (S:Nat→Obj→Prop) (h:JRd S x c) (hw:wtJ x≤1000000000) (r:Bool) (hr:rtP 24 x=r) (W0:World) (H:List Grp) (hS:∀ z o,S z o→At W0 H z o):Tri Tryz.prog 23 #[.agg c.toArray,.int .i64 0] W0 H (fun v H'=>v=.bool r∧H'=H):=by
  obtain ⟨an,al,cn,cl,cs,rfl,a1,a2,a3⟩:=h.shape
  subst hr
  exact rright_ (szJ x) x (Nat.le_refl _) hw 24 (Nat.le_refl _) 0 (by decide) an cn al cl cs S a1 a2 a3 W0 H hS
theorem rprintC (x:JV) (c:List Value) (S:Nat→Obj→Prop) (h:JRd S x c) (hw:wtJ x≤100000) (hr:rtP 24 x=true) (W0:World) (H:List Grp) (hS:∀ z o,S z o→At W0 H z o):Tri Tryz.prog 24 #[.agg c.toArray] W0 H (fun v H'=>v=.string (bk (prP x))∧H'=H):=by
  obtain ⟨an,al,cn,cl,cs,rfl,a1,a2,a3⟩:=h.shape
  exact rprint_ (szJ x) x (Nat.le_refl _) hw 24 hr an cn al cl cs S a1 a2 a3 W0 H hS
theorem rgetC (x:JV) (c:List Value) (S:Nat→Obj→Prop) (h:JRd S x c) (hcn:cnJ x≤1000000000) (name:List UInt8) (W0:World) (H:List Grp) (hS:∀ z o,S z o→At W0 H z o):Tri Tryz.prog 26 #[.agg c.toArray,.string (bk name)] W0 H (fun v H'=>∃ c0 c1 c2 c3,JRd S ((getP x name).getD nul) [c0,c1,c2,c3]∧v=.tuple #[.agg #[c0,c1,c2,c3],.bool (getP x name).isSome]∧H'=H):=by
  obtain ⟨an,al,cn,cl,cs,rfl,a1,a2,a3⟩:=h.shape
  exact rget_ x an cn al cl cs S a1 a2 a3 hcn name W0 H hS
theorem sz_small {x:JV} (h:¬ 5000<szP 40 x):wtJ x≤5000:=by
  have:=szP_wt 40 x (by omega)
  omega
theorem parR_back {x:JV} (h:rtP 24 x=true) (hl:(prP x).length≤65536):parR (prP x)=(x,0):=by rw [← parV_R,parP_back h hl]; rfl
theorem jsonPrintsT_ (x:JV) (an:Option Addr) (cn:Nat) (al:Option Addr) (cl:Nat) (S:Nat→Obj→Prop) (hx:JRd S x (jvC x an cn al cl)) (_:x.list.length≤cl) (hr:rtP 24 x=true) (W0:World) (H:List Grp) (hS:∀ y o,S y o→At W0 H y o) (hW:F2 W0):Tri Tryz.prog 5 #[.agg #[.int .i64 x.kind,.string (bk x.text),.slice an x.names.length cn,.slice al x.list.length cl]] W0 H (fun v H'=>v=.bool true∧H'=H):=by
 refine C6 (args:=[.agg #[.int .i64 x.kind,.string (bk x.text),.slice an x.names.length cn,.slice al x.list.length cl]]) (n:=54) Tryz.func5 rfl rfl (Nat.le_of_ble_eq_true rfl) ?_
 refine A1 (A2 ?_)
 refine G7 (ch:=[]) (v:=.agg #[.int .i64 x.kind,.string (bk x.text),.slice an x.names.length cn,.slice al x.list.length cl]) (k:=(fun b1=>?_))
 refine B1 (E':=[⟨1,[],pt b1⟩]) [0] [1] (k:=A0 ?_)
 refine A1 (A1 ?_)
 refine A2 (H4 Tryz.func15 (first_ _ _ hW) ?_)
 refine B1 (E':=[⟨1,[],pt b1⟩,⟨8,[],.bool false⟩]) [0] [1,8] (k:=A0 ?_)
 refine C2 kr (A8 ?_)
 refine A0 (A1 ?_)
 refine A1 (A2 ?_)
 refine D3 (ch:=[]) (b:=b1) (off:=0) (l:=[.int .i64 x.kind,.string (bk x.text),.slice an x.names.length cn,.slice al x.list.length cl]) (hA:=At.grp 0 0 rfl rfl) (k:=H4 Tryz.func21 (rsizeC x [.int .i64 x.kind,.string (bk x.text),.slice an x.names.length cn,.slice al x.list.length cl] S hx _ _ (fun y o h=>At.cons (hS y o h))) ?_)
 refine B0 [0] [1,11] (k:=A0 ?_)
 refine B2 (b:=decide ((szP 40 x) > 5000)) kr (fun hc2=>?_) (fun hc2=>?_)
 ·
  skip
  refine A1 (B7 (E':=[⟨2,[],.bool true⟩]) [0] [2] (k:=?_))
  refine A0 (B5 ?_)
  refine A3 (C1 (H':=H) (fun w h=>(h.erase 0)) ?_)
  refine B6 [.tmp 2] [.bool true] (k:=?_)
  first | exact ⟨rfl,rfl⟩ | exact ⟨congrArg Value.bool (by rw [(eqB _ _).2 rfl,decide_eq_false (show ¬ ((bk (prP x)).size:Int) > 65536 by omega)]; rfl),rfl⟩
 ·
  have hw:=sz_small (x:=x) (by simpa using hc2)
  have hpl:=pr_len x
  have hpz:=C3 (prP x)
  have hPx:parR ((bk (prP x)).data.toList)=(x,0):=parR_back hr (by omega)
  refine A8 (A0 ?_)
  refine A1 (A2 ?_)
  refine D3 (ch:=[]) (b:=b1) (off:=0) (l:=[.int .i64 x.kind,.string (bk x.text),.slice an x.names.length cn,.slice al x.list.length cl]) (hA:=At.grp 0 0 rfl rfl) (k:=H4 Tryz.func22 (jprintC x [.int .i64 x.kind,.string (bk x.text),.slice an x.names.length cn,.slice al x.list.length cl] S hx (by omega) (.tuple #[.string (bk (prP x)),.int .i64 0]) (by rw [hr]; rfl) _ _ (fun y o h=>At.cons (hS y o h)) hW) ?_)
  refine B0 [0,0,0,0,0] [1,3,4] (k:=A0 ?_)
  refine A1 (A1 ?_)
  refine A2 (D3 (ch:=[]) (b:=b1) (off:=0) (l:=[.int .i64 x.kind,.string (bk x.text),.slice an x.names.length cn,.slice al x.list.length cl]) (hA:=At.grp 0 0 rfl rfl) (k:=?_))
  refine H4 Tryz.func23 (rrightC x [.int .i64 x.kind,.string (bk x.text),.slice an x.names.length cn,.slice al x.list.length cl] S hx (by omega) true hr _ _ (fun y o h=>At.cons (hS y o h))) (B0 [0] [1,3,4,19] (k:=?_))
  refine A0 (C2 kr ?_)
  refine A8 (A0 ?_)
  refine A1 (A2 ?_)
  refine A4 (j:=1) [0] (k:=GL_strBytes (ch:=[]) (src:=9) (dst:=22) (e:=5) (s:=(bk (prP x))) (k:=(fun b3 cap4 g5 hcap6 hrd7=>?_)))
  refine D8 Tryz.func16 (jparseV (some ⟨b3,0,none⟩) cap4 ((bk (prP x)).data.toList) (inG g5) hrd7 x 0 hPx _ _ (F9 0 rfl) hW) ?_
  rintro _ _ ⟨c8,gp8,hJ8,rfl,rfl⟩
  obtain ⟨vk8,vt8,van8,vn8,vcn8,val8,vm8,vcl8,rfl⟩:=hJ8.shape
  refine A4 (j:=6) [0,0,0] (k:=F5 (ch:=[]) (z:=.agg #[.int .i64 0,.string (ByteArray.mk #[]),.slice none 0 0,.slice none 0 0]) (k:=(fun b9=>?_)))
  refine E9 (ch:=[]) (b:=b9) (off:=0) (v:=.agg #[.int .i64 vk8,.string vt8,.slice van8 vn8 vcn8,.slice val8 vm8 vcl8]) (j:=0) ([(b9,.cells #[.int .i64 vk8,.string vt8,.slice van8 vn8 vcn8,.slice val8 vm8 vcl8] 28 (0,0))]::gp8::g5::[(b1,.cells #[.int .i64 x.kind,.string (bk x.text),.slice an x.names.length cn,.slice al x.list.length cl] 28 (0,0))]::H) (hoff:=Nat.le_of_ble_eq_true rfl) (hfz:=(fun _ _=>E3)) (k:=B0 [0] [1,3,4,5,6] (k:=?_))
  refine A0 (A1 ?_)
  refine A2 (A4 (j:=4) [0,0,0,0] (k:=?_))
  refine D3 (ch:=[(34,true)]) (b:=b1) (off:=0) (l:=[.int .i64 x.kind,.string (bk x.text),.slice an x.names.length cn,.slice al x.list.length cl]) (hA:=At.grp 3 0 rfl rfl) (k:=F7 (ch:=[(34,true)]) (f:=24) (fst:=#[]) (caps:=#[]) (vs:=[.agg #[.int .i64 x.kind,.string (bk x.text),.slice an x.names.length cn,.slice al x.list.length cl]]) (v:=.string (bk (prP x))) (hf:=Tryz.func24) (hc:=(fun hc=>rprintC x [.int .i64 x.kind,.string (bk x.text),.slice an x.names.length cn,.slice al x.list.length cl] S hx (by omega) hr _ _ (fun y o h=>At.cons (At.cons (At.cons (At.cons (hS y o h))))))) (k:=?_))
  refine A4 (j:=16) [0,2,0,0,0,0,0,0,0,0] (k:=D3 (ch:=[(47,true),(44,false),(40,true)]) (b:=b9) (off:=0) (l:=[.int .i64 vk8,.string vt8,.slice van8 vn8 vcn8,.slice val8 vm8 vcl8]) (hA:=At.grp 0 0 rfl rfl) (k:=?_))
  refine D3 (ch:=[(47,true),(44,false),(40,true)]) (b:=b1) (off:=0) (l:=[.int .i64 x.kind,.string (bk x.text),.slice an x.names.length cn,.slice al x.list.length cl]) (hA:=At.grp 3 0 rfl rfl) (k:=F7 (ch:=[(47,true),(44,false),(40,true)]) (f:=18) (fst:=#[]) (caps:=#[]) (vs:=[.agg #[.int .i64 vk8,.string vt8,.slice van8 vn8 vcn8,.slice val8 vm8 vcl8],.agg #[.int .i64 x.kind,.string (bk x.text),.slice an x.names.length cn,.slice al x.list.length cl]]) (v:=.bool true) (hf:=Tryz.func18) (hc:=(fun hc=>rsameC x (by have:=K9 x; omega) [.int .i64 vk8,.string vt8,.slice van8 vn8 vcn8,.slice val8 vm8 vcl8] [.int .i64 x.kind,.string (bk x.text),.slice an x.names.length cn,.slice al x.list.length cl] (inG gp8) S (hJ8.rd (fun _ _ h=>h)) hx _ _ (F9 1 rfl) (fun y o h=>At.cons (At.cons (At.cons (At.cons (hS y o h))))))) (k:=?_))
  refine B0 [2,5,6,0] [2] (k:=A0 ?_)
  refine B5 (C1 (H':=H) (fun w h=>((((h.erase 3).erase 2).erase 1).erase 0)) ?_)
  refine B6 [.tmp 2] [.bool (((bk (prP x)).toList==(bk (prP x)).toList)&&((decide (((bk (prP x)).size:Int) > 65536))||true))] (k:=?_)
  first | exact ⟨rfl,rfl⟩ | exact ⟨congrArg Value.bool (by rw [(eqB _ _).2 rfl,decide_eq_false (show ¬ ((bk (prP x)).size:Int) > 65536 by omega)]; rfl),rfl⟩
theorem jsonPrintsF_ (x:JV) (an:Option Addr) (cn:Nat) (al:Option Addr) (cl:Nat) (S:Nat→Obj→Prop) (hx:JRd S x (jvC x an cn al cl)) (_:x.list.length≤cl) (hr:rtP 24 x=false) (W0:World) (H:List Grp) (hS:∀ y o,S y o→At W0 H y o) (hW:F2 W0):Tri Tryz.prog 5 #[.agg #[.int .i64 x.kind,.string (bk x.text),.slice an x.names.length cn,.slice al x.list.length cl]] W0 H (fun v H'=>v=.bool true∧H'=H):=by
 refine C6 (args:=[.agg #[.int .i64 x.kind,.string (bk x.text),.slice an x.names.length cn,.slice al x.list.length cl]]) (n:=54) Tryz.func5 rfl rfl (Nat.le_of_ble_eq_true rfl) ?_
 refine A1 (A2 ?_)
 refine G7 (ch:=[]) (v:=.agg #[.int .i64 x.kind,.string (bk x.text),.slice an x.names.length cn,.slice al x.list.length cl]) (k:=(fun b1=>?_))
 refine B1 (E':=[⟨1,[],pt b1⟩]) [0] [1] (k:=A0 ?_)
 refine A1 (A1 ?_)
 refine A2 (H4 Tryz.func15 (first_ _ _ hW) ?_)
 refine B1 (E':=[⟨1,[],pt b1⟩,⟨8,[],.bool false⟩]) [0] [1,8] (k:=A0 ?_)
 refine C2 kr (A8 ?_)
 refine A0 (A1 ?_)
 refine A1 (A2 ?_)
 refine D3 (ch:=[]) (b:=b1) (off:=0) (l:=[.int .i64 x.kind,.string (bk x.text),.slice an x.names.length cn,.slice al x.list.length cl]) (hA:=At.grp 0 0 rfl rfl) (k:=H4 Tryz.func21 (rsizeC x [.int .i64 x.kind,.string (bk x.text),.slice an x.names.length cn,.slice al x.list.length cl] S hx _ _ (fun y o h=>At.cons (hS y o h))) ?_)
 refine B0 [0] [1,11] (k:=A0 ?_)
 refine B2 (b:=decide ((szP 40 x) > 5000)) kr (fun hc2=>?_) (fun hc2=>?_)
 ·
  skip
  refine A1 (B7 (E':=[⟨2,[],.bool true⟩]) [0] [2] (k:=?_))
  refine A0 (B5 ?_)
  refine A3 (C1 (H':=H) (fun w h=>(h.erase 0)) ?_)
  refine B6 [.tmp 2] [.bool true] (k:=?_)
  first | exact ⟨rfl,rfl⟩ | exact ⟨congrArg Value.bool (by rw [(eqB _ _).2 rfl]),rfl⟩
 ·
  have hw:=sz_small (x:=x) (by simpa using hc2)
  refine A8 (A0 ?_)
  refine A1 (A2 ?_)
  refine D3 (ch:=[]) (b:=b1) (off:=0) (l:=[.int .i64 x.kind,.string (bk x.text),.slice an x.names.length cn,.slice al x.list.length cl]) (hA:=At.grp 0 0 rfl rfl) (k:=H4 Tryz.func22 (jprintC x [.int .i64 x.kind,.string (bk x.text),.slice an x.names.length cn,.slice al x.list.length cl] S hx (by omega) (.tuple #[.string (ByteArray.mk #[]),.int .i64 2]) (by rw [hr]; rfl) _ _ (fun y o h=>At.cons (hS y o h)) hW) ?_)
  refine B0 [0,0,0,0,0] [1,3,4] (k:=A0 ?_)
  refine A1 (A1 ?_)
  refine A2 (D3 (ch:=[]) (b:=b1) (off:=0) (l:=[.int .i64 x.kind,.string (bk x.text),.slice an x.names.length cn,.slice al x.list.length cl]) (hA:=At.grp 0 0 rfl rfl) (k:=?_))
  refine H4 Tryz.func23 (rrightC x [.int .i64 x.kind,.string (bk x.text),.slice an x.names.length cn,.slice al x.list.length cl] S hx (by omega) false hr _ _ (fun y o h=>At.cons (hS y o h))) (B0 [0] [1,3,4,19] (k:=?_))
  refine A0 (E8 kr ?_)
  refine A1 (G_p [0,0,0,0,0,2,0] [2] (k:=?_))
  refine A0 (B5 ?_)
  refine A3 (C1 (H':=H) (fun w h=>(h.erase 0)) ?_)
  refine B6 [.tmp 2] [.bool ((ByteArray.mk #[]).toList==(ByteArray.mk #[]).toList)] (k:=?_)
  first | exact ⟨rfl,rfl⟩ | exact ⟨congrArg Value.bool (by rw [(eqB _ _).2 rfl]),rfl⟩
theorem jsonPrints_ (x:JV) (an:Option Addr) (cn:Nat) (al:Option Addr) (cl:Nat) (S:Nat→Obj→Prop) (hx:JRd S x (jvC x an cn al cl)) (hcl:x.list.length≤cl) (W0:World) (H:List Grp) (hS:∀ y o,S y o→At W0 H y o) (hW:F2 W0):Tri Tryz.prog 5 #[.agg (jvC x an cn al cl).toArray] W0 H (fun v H'=>v=.bool true∧H'=H):=by
  cases hr:rtP 24 x with
  | true=>exact jsonPrintsT_ x an cn al cl S hx hcl hr W0 H hS hW
  | false=>exact jsonPrintsF_ x an cn al cl S hx hcl hr W0 H hS hW
end Go.Proofs.YtppgfiklmfoaeaaGreatDoor
namespace Go.Proofs.YtppgfiklmfoaeaaGreatDoor
open Go.Sw Go.Sha Go.Esc Go.RowKit Go.Json
theorem jmtextC (x:JV) (an:Option Addr) (cn:Nat) (al:Option Addr) (cl:Nat) (S:Nat→Obj→Prop) (h:JRd S x (jvC x an cn al cl)) (hcl:x.list.length≤cl) (hcn:cnJ x≤1000000000) (name:List UInt8) (W0:World) (H:List Grp) (hS:∀ y o,S y o→At W0 H y o):Tri Tryz.prog 27 #[.agg (jvC x an cn al cl).toArray,.string (bk name)] W0 H (fun v H'=>v=.string (gtxt ((getP x name).getD nul))∧H'=H):=by
  obtain ⟨an',al',cn',cl',cs,e,a1,a2,a3⟩:=h.shape
  unfold jvC at e
  injection e with _ e; injection e with _ e; injection e with e1 e; injection e with e2 _; injection e1 with e1 _ e1'; injection e2 with e2 _ e2'
  subst e1 e1' e2 e2'
  exact jmtext_ x an cn al cl cs S a1 a2 a3 hcl hcn name W0 H hS
theorem getM_cn (name:List UInt8):∀ (ns:List (List UInt8)) (l:List JV) (v:JV),getM name ns l=some v→cnJ v≤cnL l
  | [],_,_,h=>by simp [getM] at h
  | _::_,[],_,h=>by simp [getM] at h
  | n::ns,u::l,v,h=>by
    rw [cnL_cons]
    rw [getM] at h
    cases hq:getM name ns l with
    | some z=>rw [hq] at h; have:=getM_cn name ns l z hq; injection h with h; subst h; omega
    | none =>
      rw [hq] at h
      by_cases hn:n=name
      · simp only [if_pos hn,Option.some.injEq] at h; subst h; omega
      · simp only [if_neg hn] at h; cases h
theorem getP_cn (x:JV) (name:List UInt8):cnJ ((getP x name).getD nul)≤cnJ x:=by
  unfold getP
  split
  · cases h:getM name x.names x.list with
    | some v=>have:=getM_cn name _ _ _ h; have:=cnJ_pr x; show cnJ v≤_; omega
    | none=>show cnJ nul≤_; unfold nul; rw [cn_atom]; exact cnJ_pos x
  · show cnJ nul≤_; unfold nul; rw [cn_atom]; exact cnJ_pos x
theorem jsonGets_ (x:JV) (an:Option Addr) (cn:Nat) (al:Option Addr) (cl:Nat) (S:Nat→Obj→Prop) (hx:JRd S x (jvC x an cn al cl)) (hcl:x.list.length≤cl) (name:List UInt8) (W0:World) (H:List Grp) (hS:∀ y o,S y o→At W0 H y o) (hW:F2 W0):Tri Tryz.prog 8 #[.agg #[.int .i64 x.kind,.string (bk x.text),.slice an x.names.length cn,.slice al x.list.length cl],.string (bk name)] W0 H (fun v H'=>v=.bool true∧H'=H):=by
 refine C6 (args:=[.agg #[.int .i64 x.kind,.string (bk x.text),.slice an x.names.length cn,.slice al x.list.length cl],.string (bk name)]) (n:=59) Tryz.func8 rfl rfl (Nat.le_of_ble_eq_true rfl) ?_
 refine A1 (A2 ?_)
 refine G7 (ch:=[]) (v:=.agg #[.int .i64 x.kind,.string (bk x.text),.slice an x.names.length cn,.slice al x.list.length cl]) (k:=(fun b1=>?_))
 refine B0 [0] [1,2] (k:=A0 ?_)
 refine A1 (A1 ?_)
 refine A2 (H4 Tryz.func15 (first_ _ _ hW) ?_)
 refine B0 [0] [1,2,11] (k:=A0 ?_)
 refine C2 kr (A8 ?_)
 refine A0 (A1 ?_)
 refine A1 (A2 ?_)
 refine D3 (ch:=[]) (b:=b1) (off:=0) (l:=[.int .i64 x.kind,.string (bk x.text),.slice an x.names.length cn,.slice al x.list.length cl]) (hA:=At.grp 0 0 rfl rfl) (k:=H4 Tryz.func21 (rsizeC x [.int .i64 x.kind,.string (bk x.text),.slice an x.names.length cn,.slice al x.list.length cl] S hx _ _ (fun y o h=>At.cons (hS y o h))) ?_)
 refine B0 [0] [1,2,14] (k:=A0 ?_)
 refine B2 (b:=decide ((szP 40 x) > 5000)) kr (fun hc2=>?_) (fun hc2=>?_)
 ·
  skip
  refine A1 (B7 (E':=[⟨4,[],.bool true⟩]) [0] [4] (k:=?_))
  refine A0 (B5 ?_)
  refine A3 (C1 (H':=H) (fun w h=>(h.erase 0)) ?_)
  refine B6 [.tmp 4] [.bool true] (k:=?_)
  first | exact ⟨rfl,rfl⟩ | exact ⟨congrArg Value.bool (by rw [hT,(eqB _ _).2 rfl]; simp),rfl⟩
 ·
  have hw:=sz_small (x:=x) (by simpa using hc2)
  obtain ⟨g,hg⟩:∃ g,g=(getP x name).getD nul:=⟨_,rfl⟩
  have hgc:cnJ ((getP x name).getD nul)≤1000000000:=by have:=getP_cn x name; have:=K9 x; omega
  refine A8 (A0 ?_)
  refine A1 (A2 ?_)
  refine D3 (ch:=[]) (b:=b1) (off:=0) (l:=[.int .i64 x.kind,.string (bk x.text),.slice an x.names.length cn,.slice al x.list.length cl]) (hA:=At.grp 0 0 rfl rfl) (k:=A4 (j:=2) [0] (k:=?_))
  refine D8 Tryz.func25 (jgetC x an cn al cl S hx hcl (by have:=K9 x; omega) (bk name) (getP x name) rfl _ _ (fun y o h=>At.cons (hS y o h))) ?_
  rintro _ _ ⟨d03,d13,d23,d33,hG3,rfl,rfl⟩
  rw [← hg] at hG3
  obtain ⟨gan3,gal3,gcn3,gcl3,ds3,he3,_,_,_⟩:=hG3.shape
  injection he3 with e1 he3; injection he3 with e2 he3; injection he3 with e3 he3; injection he3 with e4 _
  subst e1 e2 e3 e4
  refine A4 (j:=6) [0,0,0] (k:=F5 (ch:=[]) (z:=.agg #[.int .i64 0,.string (ByteArray.mk #[]),.slice none 0 0,.slice none 0 0]) (k:=(fun b4=>?_)))
  refine E9 (ch:=[]) (b:=b4) (off:=0) (v:=.agg #[.int .i64 g.kind,.string (bk g.text),.slice gan3 g.names.length gcn3,.slice gal3 g.list.length gcl3]) (j:=0) ([(b4,.cells #[.int .i64 g.kind,.string (bk g.text),.slice gan3 g.names.length gcn3,.slice gal3 g.list.length gcl3] 28 (0,0))]::[(b1,.cells #[.int .i64 x.kind,.string (bk x.text),.slice an x.names.length cn,.slice al x.list.length cl] 28 (0,0))]::H) (hoff:=Nat.le_of_ble_eq_true rfl) (hfz:=(fun _ _=>E3)) (k:=B0 [0] [1,2,5,6] (k:=?_))
  refine A0 (A1 ?_)
  refine A2 (D3 (ch:=[]) (b:=b1) (off:=0) (l:=[.int .i64 x.kind,.string (bk x.text),.slice an x.names.length cn,.slice al x.list.length cl]) (hA:=At.grp 1 0 rfl rfl) (k:=?_))
  refine A4 (j:=2) [0] (k:=D8 Tryz.func26 (rgetC x [.int .i64 x.kind,.string (bk x.text),.slice an x.names.length cn,.slice al x.list.length cl] S hx (by have:=K9 x; omega) name _ _ (fun y o h=>At.cons (At.cons (hS y o h)))) ?_)
  rintro _ _ ⟨d05,d15,d25,d35,hG5,rfl,rfl⟩
  rw [← hg] at hG5
  obtain ⟨gan5,gal5,gcn5,gcl5,ds5,he5,_,_,_⟩:=hG5.shape
  injection he5 with e1 he5; injection he5 with e2 he5; injection he5 with e3 he5; injection he5 with e4 _
  subst e1 e2 e3 e4
  refine A4 (j:=6) [0,0,0] (k:=F5 (ch:=[]) (z:=.agg #[.int .i64 0,.string (ByteArray.mk #[]),.slice none 0 0,.slice none 0 0]) (k:=(fun b6=>?_)))
  refine E9 (ch:=[]) (b:=b6) (off:=0) (v:=.agg #[.int .i64 g.kind,.string (bk g.text),.slice gan5 g.names.length gcn5,.slice gal5 g.list.length gcl5]) (j:=0) ([(b6,.cells #[.int .i64 g.kind,.string (bk g.text),.slice gan5 g.names.length gcn5,.slice gal5 g.list.length gcl5] 28 (0,0))]::[(b4,.cells #[.int .i64 g.kind,.string (bk g.text),.slice gan3 g.names.length gcn3,.slice gal3 g.list.length gcl3] 28 (0,0))]::[(b1,.cells #[.int .i64 x.kind,.string (bk x.text),.slice an x.names.length cn,.slice al x.list.length cl] 28 (0,0))]::H) (hoff:=Nat.le_of_ble_eq_true rfl) (hfz:=(fun _ _=>E3)) (k:=B0 [0] [1,2,5,6,7,8] (k:=?_))
  refine A0 (A1 ?_)
  refine B7 (E':=[⟨1,[],.string (bk name)⟩,⟨2,[],pt b1⟩,⟨5,[],pt b4⟩,⟨6,[],.bool ((getP x name).isSome)⟩,⟨7,[],pt b6⟩,⟨8,[],.bool ((getP x name).isSome)⟩,⟨9,[],.string (ByteArray.mk #[])⟩]) [0] [1,2,5,6,7,8,9] (k:=A0 ?_)
  refine A1 (A1 ?_)
  refine A2 (A4 (j:=1) [0] (k:=?_))
  refine A5 (ch:=[]) (b:=b6) (off:=0) (v:=.int .i64 g.kind) (hA:=At.grp 0 0 rfl rfl) (k:=A4 (j:=5) [0,0,0] (k:=?_))
  refine A5 (ch:=[(30,false)]) (b:=b6) (off:=0) (v:=.int .i64 g.kind) (hA:=At.grp 0 0 rfl rfl) (k:=B0 [0,5] [1,2,5,6,7,8,9,34] (k:=?_))
  refine A0 (B2 (b:=(g.kind==4)||(g.kind==3)) kr (fun hc7=>?_) (fun hc7=>?_))
  ·
   simp only [Bool.or_eq_true,beq_iff_eq] at hc7
   have hT:gtxt ((getP x name).getD nul)=bk g.text:=by rw [← hg]; exact if_pos (by omega)
   refine A2 (A4 (j:=1) [0] (k:=?_))
   refine A5 (ch:=[]) (b:=b6) (off:=1) (v:=.string (bk g.text)) (hA:=At.grp 0 0 rfl rfl) (k:=B0 [0] [1,2,5,6,7,8,9] (k:=?_))
   refine A0 (A1 ?_)
   refine M1 (k:=A4 (j:=4) [0,0,0,0] (k:=?_))
   refine D3 (ch:=[(40,true)]) (b:=b4) (off:=0) (l:=[.int .i64 g.kind,.string (bk g.text),.slice gan3 g.names.length gcn3,.slice gal3 g.list.length gcl3]) (hA:=At.grp 1 0 rfl rfl) (k:=D3 (ch:=[(40,true)]) (b:=b6) (off:=0) (l:=[.int .i64 g.kind,.string (bk g.text),.slice gan5 g.names.length gcn5,.slice gal5 g.list.length gcl5]) (hA:=At.grp 0 0 rfl rfl) (k:=?_))
   refine F7 (ch:=[(40,true)]) (f:=18) (fst:=#[]) (caps:=#[]) (vs:=[.agg #[.int .i64 g.kind,.string (bk g.text),.slice gan3 g.names.length gcn3,.slice gal3 g.list.length gcl3],.agg #[.int .i64 g.kind,.string (bk g.text),.slice gan5 g.names.length gcn5,.slice gal5 g.list.length gcl5]]) (v:=.bool true) (hf:=Tryz.func18) (hc:=(fun hc=>rsameC g (by rw [hg]; exact hgc) [.int .i64 g.kind,.string (bk g.text),.slice gan3 g.names.length gcn3,.slice gal3 g.list.length gcl3] [.int .i64 g.kind,.string (bk g.text),.slice gan5 g.names.length gcn5,.slice gal5 g.list.length gcl5] S S hG3 hG5 _ _ (fun y o h=>At.cons (At.cons (At.cons (hS y o h)))) (fun y o h=>At.cons (At.cons (At.cons (hS y o h)))))) (k:=A4 (j:=9) [6,0] (k:=?_))
   refine D3 (ch:=[(45,true)]) (b:=b1) (off:=0) (l:=[.int .i64 x.kind,.string (bk x.text),.slice an x.names.length cn,.slice al x.list.length cl]) (hA:=At.grp 2 0 rfl rfl) (k:=A4 (j:=11) [0] (k:=?_))
   refine F7 (ch:=[(45,true)]) (f:=27) (fst:=#[]) (caps:=#[]) (vs:=[.agg #[.int .i64 x.kind,.string (bk x.text),.slice an x.names.length cn,.slice al x.list.length cl],.string (bk name)]) (v:=.string (gtxt ((getP x name).getD nul))) (hf:=Tryz.func27) (hc:=(fun hc=>jmtextC x an cn al cl S hx hcl (by have:=K9 x; omega) name _ _ (fun y o h=>At.cons (At.cons (At.cons (hS y o h)))))) (k:=A4 (j:=16) [0,0,6,0] (k:=?_))
   refine D3 (ch:=[(52,true)]) (b:=b1) (off:=0) (l:=[.int .i64 x.kind,.string (bk x.text),.slice an x.names.length cn,.slice al x.list.length cl]) (hA:=At.grp 2 0 rfl rfl) (k:=F7 (ch:=[(52,true)]) (f:=19) (fst:=#[]) (caps:=#[]) (vs:=[.agg #[.int .i64 x.kind,.string (bk x.text),.slice an x.names.length cn,.slice al x.list.length cl]]) (v:=.int .i64 (dpP x:Int)) (hf:=Tryz.func19) (hc:=(fun hc=>jdepthC x [.int .i64 x.kind,.string (bk x.text),.slice an x.names.length cn,.slice al x.list.length cl] S hx (by have:=K9 x; omega) _ rfl _ _ (fun y o h=>At.cons (At.cons (At.cons (hS y o h)))))) (k:=?_))
   refine D3 (ch:=[(52,true)]) (b:=b1) (off:=0) (l:=[.int .i64 x.kind,.string (bk x.text),.slice an x.names.length cn,.slice al x.list.length cl]) (hA:=At.grp 2 0 rfl rfl) (k:=F7 (ch:=[(52,true)]) (f:=20) (fst:=#[]) (caps:=#[]) (vs:=[.agg #[.int .i64 x.kind,.string (bk x.text),.slice an x.names.length cn,.slice al x.list.length cl]]) (v:=.int .i64 (dpP x:Int)) (hf:=Tryz.func20) (hc:=(fun hc=>rdepthC x [.int .i64 x.kind,.string (bk x.text),.slice an x.names.length cn,.slice al x.list.length cl] S hx (by have:=K9 x; omega) _ _ (fun y o h=>At.cons (At.cons (At.cons (hS y o h)))))) (k:=?_))
   refine B0 [0,6,0] [4] (k:=A0 ?_)
   refine B5 (C1 (H':=H) (fun w h=>(((h.erase 2).erase 1).erase 0)) ?_)
   refine B6 [.tmp 4] [.bool ((((((getP x name).isSome)==((getP x name).isSome))&&true)&&((gtxt ((getP x name).getD nul)).toList==(bk g.text).toList))&&((dpP x:Int)==(dpP x:Int)))] (k:=?_)
   first | exact ⟨rfl,rfl⟩ | exact ⟨congrArg Value.bool (by rw [hT,(eqB _ _).2 rfl]; simp),rfl⟩
  ·
   simp only [Bool.or_eq_false_iff,beq_eq_false_iff_ne,ne_eq] at hc7
   have hT:gtxt ((getP x name).getD nul)=ByteArray.mk #[]:=by rw [← hg]; exact if_neg (by omega)
   refine A8 (A0 ?_)
   refine A1 (M1 (k:=?_))
   refine A4 (j:=4) [0,0,0,0] (k:=D3 (ch:=[(40,true)]) (b:=b4) (off:=0) (l:=[.int .i64 g.kind,.string (bk g.text),.slice gan3 g.names.length gcn3,.slice gal3 g.list.length gcl3]) (hA:=At.grp 1 0 rfl rfl) (k:=?_))
   refine D3 (ch:=[(40,true)]) (b:=b6) (off:=0) (l:=[.int .i64 g.kind,.string (bk g.text),.slice gan5 g.names.length gcn5,.slice gal5 g.list.length gcl5]) (hA:=At.grp 0 0 rfl rfl) (k:=F7 (ch:=[(40,true)]) (f:=18) (fst:=#[]) (caps:=#[]) (vs:=[.agg #[.int .i64 g.kind,.string (bk g.text),.slice gan3 g.names.length gcn3,.slice gal3 g.list.length gcl3],.agg #[.int .i64 g.kind,.string (bk g.text),.slice gan5 g.names.length gcn5,.slice gal5 g.list.length gcl5]]) (v:=.bool true) (hf:=Tryz.func18) (hc:=(fun hc=>rsameC g (by rw [hg]; exact hgc) [.int .i64 g.kind,.string (bk g.text),.slice gan3 g.names.length gcn3,.slice gal3 g.list.length gcl3] [.int .i64 g.kind,.string (bk g.text),.slice gan5 g.names.length gcn5,.slice gal5 g.list.length gcl5] S S hG3 hG5 _ _ (fun y o h=>At.cons (At.cons (At.cons (hS y o h)))) (fun y o h=>At.cons (At.cons (At.cons (hS y o h)))))) (k:=?_))
   refine A4 (j:=9) [6,0] (k:=D3 (ch:=[(45,true)]) (b:=b1) (off:=0) (l:=[.int .i64 x.kind,.string (bk x.text),.slice an x.names.length cn,.slice al x.list.length cl]) (hA:=At.grp 2 0 rfl rfl) (k:=?_))
   refine A4 (j:=11) [0] (k:=F7 (ch:=[(45,true)]) (f:=27) (fst:=#[]) (caps:=#[]) (vs:=[.agg #[.int .i64 x.kind,.string (bk x.text),.slice an x.names.length cn,.slice al x.list.length cl],.string (bk name)]) (v:=.string (gtxt ((getP x name).getD nul))) (hf:=Tryz.func27) (hc:=(fun hc=>jmtextC x an cn al cl S hx hcl (by have:=K9 x; omega) name _ _ (fun y o h=>At.cons (At.cons (At.cons (hS y o h)))))) (k:=?_))
   refine A4 (j:=16) [0,0,6,0] (k:=D3 (ch:=[(52,true)]) (b:=b1) (off:=0) (l:=[.int .i64 x.kind,.string (bk x.text),.slice an x.names.length cn,.slice al x.list.length cl]) (hA:=At.grp 2 0 rfl rfl) (k:=?_))
   refine F7 (ch:=[(52,true)]) (f:=19) (fst:=#[]) (caps:=#[]) (vs:=[.agg #[.int .i64 x.kind,.string (bk x.text),.slice an x.names.length cn,.slice al x.list.length cl]]) (v:=.int .i64 (dpP x:Int)) (hf:=Tryz.func19) (hc:=(fun hc=>jdepthC x [.int .i64 x.kind,.string (bk x.text),.slice an x.names.length cn,.slice al x.list.length cl] S hx (by have:=K9 x; omega) _ rfl _ _ (fun y o h=>At.cons (At.cons (At.cons (hS y o h)))))) (k:=D3 (ch:=[(52,true)]) (b:=b1) (off:=0) (l:=[.int .i64 x.kind,.string (bk x.text),.slice an x.names.length cn,.slice al x.list.length cl]) (hA:=At.grp 2 0 rfl rfl) (k:=?_))
   refine F7 (ch:=[(52,true)]) (f:=20) (fst:=#[]) (caps:=#[]) (vs:=[.agg #[.int .i64 x.kind,.string (bk x.text),.slice an x.names.length cn,.slice al x.list.length cl]]) (v:=.int .i64 (dpP x:Int)) (hf:=Tryz.func20) (hc:=(fun hc=>rdepthC x [.int .i64 x.kind,.string (bk x.text),.slice an x.names.length cn,.slice al x.list.length cl] S hx (by have:=K9 x; omega) _ _ (fun y o h=>At.cons (At.cons (At.cons (hS y o h)))))) (k:=B0 [0,6,0] [4] (k:=?_))
   refine A0 (B5 ?_)
   refine C1 (H':=H) (fun w h=>(((h.erase 2).erase 1).erase 0)) (B6 [.tmp 4] [.bool ((((((getP x name).isSome)==((getP x name).isSome))&&true)&&((gtxt ((getP x name).getD nul)).toList==(ByteArray.mk #[]).toList))&&((dpP x:Int)==(dpP x:Int)))] (k:=?_))
   first | exact ⟨rfl,rfl⟩ | exact ⟨congrArg Value.bool (by rw [hT,(eqB _ _).2 rfl]; simp),rfl⟩
end Go.Proofs.YtppgfiklmfoaeaaGreatDoor
namespace Go.Json
open Go.Sw Go.Esc
mutual
theorem JRd.mono {S S':Nat→Obj→Prop} (hs:∀ b o,S b o→S' b o):∀ {v:JV} {c:List Value},JRd S v c→JRd S' v c
  | .mk _ _ _ _,_,.mk h1 h2 h3=>.mk (rd_mono h1 hs) (rd_mono h2 hs) (JRdL.mono hs h3)
theorem JRdL.mono {S S':Nat→Obj→Prop} (hs:∀ b o,S b o→S' b o):∀ {l:List JV} {c:List Value},JRdL S l c→JRdL S' l c
  | [],_,.nil=>.nil
  | _::_,_,.cons h1 h2=>.cons (JRd.mono hs h1) (JRdL.mono hs h2)
end
theorem JRdL.snoc {S:Nat→Obj→Prop}:∀ {l:List JV} {cs:List Value} {v:JV} {c:List Value},JRdL S l cs→JRd S v c→JRdL S (l++[v]) (cs++c)
  | [],_,v,c,h,hv=>by
    cases h
    have:=JRdL.cons hv .nil
    rw [List.append_nil] at this
    exact this
  | x::l,_,v,c,h,hv=>by
    cases h with
    | cons h1 h2 =>
      rw [List.cons_append,List.append_assoc]
      exact .cons h1 (JRdL.snoc h2 hv)
theorem wtL_le {m:Nat}:∀ {l:List JV},(∀ v∈l,wtJ v≤m)→wtL l≤m * l.length
  | [],_=>by simp [wtL]
  | v::l,h=>by
    have h1:=h v List.mem_cons_self
    have h2:=wtL_le (l:=l) fun u hu=>h u (List.mem_cons_of_mem _ hu)
    rw [K0,List.length_cons,Nat.mul_add]; omega
end Go.Json
namespace Go.Proofs.YtppgfiklmfoaeaaGreatDoor
open Go.Sw Go.Sha Go.Esc Go.RowKit Go.Json
def ptx (x:JV):ByteArray:=if rtP 24 x then bk (prP x) else ByteArray.mk #[]
def pte (x:JV):Int:=if rtP 24 x then 0 else 2
theorem pte_ok {x:JV} (h:pte x=0):rtP 24 x=true∧ptx x=bk (prP x):=by
  unfold pte at h; unfold ptx
  split at h
  · rename_i h1; exact ⟨h1,if_pos h1⟩
  · cases h
theorem pt_eq (x:JV):(if rtP 24 x then Value.tuple #[.string (bk (prP x)),.int .i64 0] else .tuple #[.string (ByteArray.mk #[]),.int .i64 2])=.tuple #[.string (ptx x),.int .i64 (pte x)]:=by unfold ptx pte; split <;> rfl
theorem rsizeD (x:JV) (c:List Value) (S:Nat→Obj→Prop) (h:JRd S x c) (W0:World) (H:List Grp) (hS:∀ z o,S z o→At W0 H z o):Tri Tryz.prog 21 #[.agg c.toArray,.int .i64 30] W0 H (fun v H'=>v=.int .i64 (szP 30 x)∧H'=H):=by
  obtain ⟨an,al,cn,cl,cs,rfl,a1,a2,a3⟩:=h.shape
  exact rsize_ (szJ x) x (Nat.le_refl _) 30 (by decide) 30 (by decide) an cn al cl cs S a1 a2 a3 W0 H hS
theorem rsameE {x x':JV} (he:x=x') (hd:cnJ x'≤1000000000) (c c2:List Value) (S S2:Nat→Obj→Prop) (h:JRd S x c) (h2:JRd S2 x' c2) (W0:World) (H:List Grp) (hS:∀ z o,S z o→At W0 H z o) (hS2:∀ z o,S2 z o→At W0 H z o):Tri Tryz.prog 18 #[.agg c.toArray,.agg c2.toArray] W0 H (fun v H'=>v=.bool true∧H'=H):=by
  subst he; exact rsameC x hd c c2 S S2 h h2 W0 H hS hS2
theorem jsonLists_ (l:List JV) (a:Option Addr) (c:Nat) (cs0:List Value) (S:Nat→Obj→Prop) (hrl0:Rd S a cs0) (hrc:JRdL S l cs0) (hll:l.length≤1048576) (hwl:∀ (i:Nat) (h:i<l.length),wtJ (l[i]'h)≤1048576) (W0:World) (H:List Grp) (hS:∀ y o,S y o→At W0 H y o) (hW:F2 W0):Tri Tryz.prog 7 #[.slice a l.length c] W0 H (fun v H'=>v=.bool true∧H'=H):=by
 refine C6 (args:=[.slice a l.length c]) (n:=91) Tryz.func7 rfl rfl (Nat.le_of_ble_eq_true rfl) ?_
 refine A1 (B7 (E':=[⟨0,[],.slice a l.length c⟩]) [0] [0] (k:=?_))
 refine A0 (A1 ?_)
 refine A1 (A2 ?_)
 refine H4 Tryz.func15 (first_ _ _ hW) (B0 [0] [0,14] (k:=?_))
 refine A0 (C2 kr ?_)
 refine A8 (A0 ?_)
 refine A1 (G_p [0] [0,3] (k:=?_))
 refine A0 (A1 ?_)
 refine G_p [0] [0,3,4] (k:=A0 ?_)
 refine A1 (A1 ?_)
 refine G_p [0,0,0] [3,4,15,16,17] (k:=A0 ?_)
 refine B9 (G_heap (H':=([]::H)) (fun w h=>h.flat (List.Perm.refl _)) ?_)
 refine I6 (EI:=(fun ξ:Nat × ByteArray × List JV × Nat × Option Addr × Nat × Grp × List Value=>[⟨3,[],.string ξ.2.1⟩,⟨4,[],.slice ξ.2.2.2.2.1 ξ.2.2.2.1 ξ.2.2.2.2.2.1⟩,⟨15,[],.slice a l.length c⟩,⟨16,[],.int .i64 ((l.length:Nat):Int)⟩,⟨17,[],.int .i64 ((ξ.1:Nat):Int)⟩])) (HI:=(fun ξ:Nat × ByteArray × List JV × Nat × Option Addr × Nat × Grp × List Value=>(ξ.2.2.2.2.2.2.1::H))) (Φ:=(fun ξ:Nat × ByteArray × List JV × Nat × Option Addr × Nat × Grp × List Value=>(ξ.1≤l.length)∧(Go.Sw.Own 28 4 (.slice ξ.2.2.2.2.1 ξ.2.2.2.1 ξ.2.2.2.2.2.1) ξ.2.2.2.2.2.2.1 ξ.2.2.2.1 ξ.2.2.2.2.2.2.2)∧(ξ.2.2.2.1=ξ.2.2.1.length)∧(JRdL S ξ.2.2.1 ξ.2.2.2.2.2.2.2)∧(ξ.2.2.2.1≤20)∧(∀ v∈ξ.2.2.1,(rtP 24 v=true∧dpP v<24)∧wtJ v≤500)∧(ξ.2.1.data.toList=91::prL false true [] ξ.2.2.1))) (μ:=(fun ξ:Nat × ByteArray × List JV × Nat × Option Addr × Nat × Grp × List Value=>l.length - ξ.1)) (s0:=(0,(ByteArray.mk #[91]),[],0,none,0,[],[])) [3,4,15,16,17] kr rfl ⟨(Nat.zero_le _),Go.Sw.Own.nil,rfl,.nil,(Nat.zero_le _),(fun v h=>absurd h List.not_mem_nil),(by rw [K8])⟩ ?_
 rintro ⟨k,t,rs,rn,ra,rc,rg,cs1⟩ ⟨hk,hO,hrn,hC,h20,hA,hT⟩
 dsimp only at hk hO hrn hC h20 hA hT
 have hwL:=wtL_le (fun v hv=>(hA v hv).2)
 have hts:t.size≤100001:=by
  have h1:=congrArg List.length hT
  have h2:=prL_len false true [] rs
  rw [List.length_cons,E0] at h1
  have h3:wtN ([]:List (List UInt8))=0:=rfl
  omega
 refine A1 (G_p [0] [3,4,15,16,17,18] (k:=?_))
 refine A0 (A1 ?_)
 refine B2 (b:=decide (((k:Nat):Int)<((l.length:Nat):Int))) kr (fun hc1=>?_) (fun hc1=>?_)
 ·
  simp only [decide_eq_true_eq] at hc1
  have hlt:k<l.length:=by omega
  obtain ⟨y,yan,ycn,yal,ycl,ycs,hyx,hye,hyn,hyl,hyc⟩:=hrc.get hlt
  have hyw:wtJ y≤1048576:=by rw [hyx]; exact hwl k hlt
  have hyc2:=K9 y
  refine A8 (A0 ?_)
  refine A1 (B9 ?_)
  refine A1 (A2 ?_)
  refine D0 (ch:=[]) (a:=a) (len:=l.length) (cap:=c) (kd:=.i64) (j:=((k:Nat):Int)) (e:=28) (sz:=4) (S:=S) (cs:=cs0) (hrd:=hrl0) (hb:=(fun _=>by exact ⟨by omega,by omega,hrc.ne hlt⟩)) (k:=I7 (ch:=[]) (a:=a) (q:=k * 4) (S:=S) (cs:=cs0) (l:=[.int .i64 y.kind,.string (bk y.text),.slice yan y.names.length ycn,.slice yal y.list.length ycl]) (hrd:=hrl0) (hS:=(fun y o h=>(At.cons (hS y o h)))) (hl:=List.cons_ne_nil _ _) (hv:=(fun _=>(elt4 hye))) (k:=?_))
  refine F5 (ch:=[]) (z:=.agg #[.int .i64 0,.string (ByteArray.mk #[]),.slice none 0 0,.slice none 0 0]) (k:=(fun b2=>?_))
  refine E9 (ch:=[]) (b:=b2) (off:=0) (v:=.agg #[.int .i64 y.kind,.string (bk y.text),.slice yan y.names.length ycn,.slice yal y.list.length ycl]) (j:=0) ([(b2,.cells #[.int .i64 y.kind,.string (bk y.text),.slice yan y.names.length ycn,.slice yal y.list.length ycl] 28 (0,0))]::rg::H) (hoff:=Nat.le_of_ble_eq_true rfl) (hfz:=(fun _ _=>E3)) (k:=B0 [] [3,4,6,15,16,17] (k:=?_))
  refine A0 (A1 ?_)
  refine A2 (D3 (ch:=[]) (b:=b2) (off:=0) (l:=[.int .i64 y.kind,.string (bk y.text),.slice yan y.names.length ycn,.slice yal y.list.length ycl]) (hA:=At.grp 0 0 rfl rfl) (k:=?_))
  refine H4 Tryz.func22 (jprintC y [.int .i64 y.kind,.string (bk y.text),.slice yan y.names.length ycn,.slice yal y.list.length ycl] S (jrd_mk hyn hyl hyc) (by omega) (.tuple #[.string (ptx y),.int .i64 (pte y)]) (pt_eq y) _ _ (fun y o h=>At.cons (At.cons (hS y o h))) hW) (B0 [0,0,0,0,0] [3,4,6,7,8,15,16,17] (k:=?_))
  refine A0 (A1 ?_)
  refine A1 (A2 ?_)
  refine A4 (j:=4) [0,0,0,0] (k:=D3 (ch:=[(29,false)]) (b:=b2) (off:=0) (l:=[.int .i64 y.kind,.string (bk y.text),.slice yan y.names.length ycn,.slice yal y.list.length ycl]) (hA:=At.grp 0 0 rfl rfl) (k:=?_))
  refine F7 (ch:=[(29,false)]) (f:=21) (fst:=#[]) (caps:=#[]) (vs:=[.agg #[.int .i64 y.kind,.string (bk y.text),.slice yan y.names.length ycn,.slice yal y.list.length ycl],.int .i64 30]) (v:=.int .i64 (szP 30 y)) (hf:=Tryz.func21) (hc:=(fun hc=>rsizeD y [.int .i64 y.kind,.string (bk y.text),.slice yan y.names.length ycn,.slice yal y.list.length ycl] S (jrd_mk hyn hyl hyc) _ _ (fun y o h=>At.cons (At.cons (hS y o h))))) (k:=A4 (j:=13) [0,5,0,0,0,5,0] (k:=?_))
  refine D3 (ch:=[(38,false)]) (b:=b2) (off:=0) (l:=[.int .i64 y.kind,.string (bk y.text),.slice yan y.names.length ycn,.slice yal y.list.length ycl]) (hA:=At.grp 0 0 rfl rfl) (k:=F7 (ch:=[(38,false)]) (f:=19) (fst:=#[]) (caps:=#[]) (vs:=[.agg #[.int .i64 y.kind,.string (bk y.text),.slice yan y.names.length ycn,.slice yal y.list.length ycl]]) (v:=.int .i64 (dpP y:Int)) (hf:=Tryz.func19) (hc:=(fun hc=>jdepthC y [.int .i64 y.kind,.string (bk y.text),.slice yan y.names.length ycn,.slice yal y.list.length ycl] S (jrd_mk hyn hyl hyc) (by omega) _ rfl _ _ (fun y o h=>At.cons (At.cons (hS y o h))))) (k:=?_))
  refine B0 [0,5] [3,4,6,7,15,16,17,42] (k:=A0 ?_)
  refine B2 (b:=(((decide (((rn:Nat):Int) ≥ 20))||(decide ((szP 30 y) > 500)))||((pte y) != 0))||(decide ((dpP y:Int) ≥ 24))) kr (fun hc3=>?_) (fun hc3=>?_)
  ·
   skip
   refine G3 (A9 ?_)
   refine C5 (A0 ?_)
   have hw4:IntKind.wrap .i64 (((k:Nat):Int)+1)=((k:Nat):Int)+1:=w64 (by omega) (by omega)
   refine A2 (C0 (E':=[⟨55,[],.int .i64 (((k:Nat):Int)+1)⟩,⟨3,[],.string t⟩,⟨4,[],.slice ra rn rc⟩,⟨15,[],.slice a l.length c⟩,⟨16,[],.int .i64 ((l.length:Nat):Int)⟩,⟨17,[],.int .i64 ((k:Nat):Int)⟩]) [0] (Eq.trans (b:=some [⟨55,[],.int .i64 (IntKind.wrap .i64 (((k:Nat):Int)+1))⟩,⟨3,[],.string t⟩,⟨4,[],.slice ra rn rc⟩,⟨15,[],.slice a l.length c⟩,⟨16,[],.int .i64 ((l.length:Nat):Int)⟩,⟨17,[],.int .i64 ((k:Nat):Int)⟩]) kr (by simp only [hw4])) (j:=1) rfl ?_)
   refine C4 (E':=[⟨55,[],.int .i64 ((k+1:Nat):Int)⟩,⟨3,[],.string t⟩,⟨4,[],.slice ra rn rc⟩,⟨15,[],.slice a l.length c⟩,⟨16,[],.int .i64 ((l.length:Nat):Int)⟩,⟨17,[],.int .i64 ((k:Nat):Int)⟩]) (by rw [show ((k:Nat):Int)+1=((k+1:Nat):Int) by omega]) (B0 [0] [3,4,15,16,17] (k:=?_))
   refine C1 (H':=(rg::H)) (fun w h=>(h.erase 0)) (E6 (s':=((k+1),t,rs,rn,ra,rc,rg,cs1)) [3,4,15,16,17] kr rfl ⟨(by (try dsimp only); omega),hO,hrn,hC,h20,hA,hT⟩ (by (try dsimp only); omega))
  ·
   simp only [Bool.or_eq_false_iff,decide_eq_false_iff_not,bne_eq_false_iff_eq,ge_iff_le,gt_iff_lt] at hc3
   have hy5:wtJ y≤500:=by have:=szP_wt 30 y (by omega); omega
   have hyr:=pte_ok (x:=y) (by omega)
   have hpl:=pr_len y
   have hpz:=C3 (prP y)
   refine A8 (A0 ?_)
   refine A1 (A1 ?_)
   refine G_p [0,0,0] [3,4,6,7,15,16,17,45] (k:=A0 ?_)
   refine B2 (b:=decide (((rn:Nat):Int) > 0)) kr (fun hc5=>?_) (fun hc5=>?_)
   ·
    simp only [decide_eq_true_eq,gt_iff_lt] at hc5
    have hrs:¬ rs=[]:=by intro h; rw [h] at hrn; simp at hrn; omega
    refine A2 (A4 (j:=1) [0] (k:=?_))
    refine E5 (ch:=[]) (s:=t) (u:=(ByteArray.mk #[44])) (hb:=(fun _=>by (try simp only [hyr.2]); (try simp only [C3,List.length_cons,List.length_nil]); omega)) (k:=B1 (E':=[⟨3,[],.string (t++(ByteArray.mk #[44]))⟩,⟨4,[],.slice ra rn rc⟩,⟨6,[],pt b2⟩,⟨7,[],.string (ptx y)⟩,⟨15,[],.slice a l.length c⟩,⟨16,[],.int .i64 ((l.length:Nat):Int)⟩,⟨17,[],.int .i64 ((k:Nat):Int)⟩]) [0] [3,4,6,7,15,16,17] (k:=?_))
    refine A0 (A1 ?_)
    refine A2 (A4 (j:=2) [0,0] (k:=?_))
    refine E5 (ch:=[]) (s:=t++(ByteArray.mk #[44])) (u:=(ptx y)) (hb:=(fun _=>by (try simp only [hyr.2]); (try simp only [ByteArray.size_append,C3,List.length_cons,List.length_nil]); omega)) (k:=B0 [0] [3,4,6,15,16,17] (k:=?_))
    refine A0 (A2 ?_)
    refine A4 (j:=1) [0] (k:=D3 (ch:=[]) (b:=b2) (off:=0) (l:=[.int .i64 y.kind,.string (bk y.text),.slice yan y.names.length ycn,.slice yal y.list.length ycl]) (hA:=At.grp 0 0 rfl rfl) (k:=?_))
    refine C9 (ch:=[]) (e:=28) (l:=[(0,.agg #[.int .i64 y.kind,.string (bk y.text),.slice yan y.names.length ycn,.slice yal y.list.length ycl])]) (c:=[.int .i64 y.kind,.string (bk y.text),.slice yan y.names.length ycn,.slice yal y.list.length ycl]) (k:=(fun b6=>?_))
    refine G0 (i:=3) (ch:=[]) (t:=26) (tx:=26) (e:=28) (inf:=Tryz.t28) (s:=.slice ra rn rc) (x:=.slice (some ⟨b6,0,none⟩) 1 1) (n:=rn) (m:=1) (j:=2) (cs:=cs1) (news:=[.int .i64 y.kind,.string (bk y.text),.slice yan y.names.length ycn,.slice yal y.list.length ycl]) (g:=rg) (S:=(inG [(b6,.cells #[.int .i64 y.kind,.string (bk y.text),.slice yan y.names.length ycn,.slice yal y.list.length ycl] 28 (0,0))])) rfl rfl rfl rfl kr kr kr rfl rfl (.inl ⟨28,kr⟩) (fun ⟨_,h⟩=>by cases h) (fun _=>⟨28,kr⟩) kr kr kr rfl hO (SrcOf.slice _ _ _ _ Rd.lit (fun h=>by cases h)) (F9 0 rfl) kr (by intro u hu; simp only [List.mem_cons,List.not_mem_nil,or_false] at hu; rcases hu with rfl | rfl | rfl | rfl <;> rfl) (by omega) (by show (rn+1) * 72≤140737488355328; omega) (fun v7 g8 hO9=>?_)
    obtain ⟨a10,cap11,rfl,hcap12,hrd13⟩:=hO9.shape
    refine B0 [0] [3,4,15,16,17] (k:=B8 ?_)
    refine A0 ?_
    have hw14:IntKind.wrap .i64 (((k:Nat):Int)+1)=((k:Nat):Int)+1:=w64 (by omega) (by omega)
    refine A2 (C0 (E':=[⟨55,[],.int .i64 (((k:Nat):Int)+1)⟩,⟨3,[],.string ((t++(ByteArray.mk #[44]))++(ptx y))⟩,⟨4,[],.slice a10 (rn+1) cap11⟩,⟨15,[],.slice a l.length c⟩,⟨16,[],.int .i64 ((l.length:Nat):Int)⟩,⟨17,[],.int .i64 ((k:Nat):Int)⟩]) [0] (Eq.trans (b:=some [⟨55,[],.int .i64 (IntKind.wrap .i64 (((k:Nat):Int)+1))⟩,⟨3,[],.string ((t++(ByteArray.mk #[44]))++(ptx y))⟩,⟨4,[],.slice a10 (rn+1) cap11⟩,⟨15,[],.slice a l.length c⟩,⟨16,[],.int .i64 ((l.length:Nat):Int)⟩,⟨17,[],.int .i64 ((k:Nat):Int)⟩]) kr (by simp only [hw14])) (j:=1) rfl ?_)
    refine C4 (E':=[⟨55,[],.int .i64 ((k+1:Nat):Int)⟩,⟨3,[],.string ((t++(ByteArray.mk #[44]))++(ptx y))⟩,⟨4,[],.slice a10 (rn+1) cap11⟩,⟨15,[],.slice a l.length c⟩,⟨16,[],.int .i64 ((l.length:Nat):Int)⟩,⟨17,[],.int .i64 ((k:Nat):Int)⟩]) (by rw [show ((k:Nat):Int)+1=((k+1:Nat):Int) by omega]) (B0 [0] [3,4,15,16,17] (k:=?_))
    refine C1 (H':=(g8::H)) (fun w h=>((h.erase 1).erase 0)) (E6 (s':=((k+1),(t++(ByteArray.mk #[44]))++(ptx y),(rs++[y]),(rn+1),a10,cap11,g8,(cs1++jvC y yan ycn yal ycl))) [3,4,15,16,17] kr rfl ⟨(by (try dsimp only); omega),hO9,(by (try dsimp only); rw [List.length_append,hrn]; rfl),(hC.snoc (jrd_mk hyn hyl hyc)),(by (try dsimp only); omega),(fun v hv=>by rcases List.mem_append.1 hv with hv | hv; exact hA v hv; rw [List.mem_singleton.1 hv]; exact ⟨⟨hyr.1,by omega⟩,hy5⟩),(by (try dsimp only); rw [prL_snoc]; simp only [D9,hT,hyr.2]; simp [hrs])⟩ (by (try dsimp only); omega))
   ·
    simp only [decide_eq_false_iff_not,gt_iff_lt] at hc5
    have hrs:rs=[]:=List.eq_nil_of_length_eq_zero (by omega)
    refine A8 (A0 ?_)
    refine A1 (A2 ?_)
    refine A4 (j:=2) [0,0] (k:=E5 (ch:=[]) (s:=t) (u:=(ptx y)) (hb:=(fun _=>by (try simp only [hyr.2]); (try simp only [C3]); omega)) (k:=?_))
    refine B1 (E':=[⟨3,[],.string (t++(ptx y))⟩,⟨4,[],.slice ra rn rc⟩,⟨6,[],pt b2⟩,⟨15,[],.slice a l.length c⟩,⟨16,[],.int .i64 ((l.length:Nat):Int)⟩,⟨17,[],.int .i64 ((k:Nat):Int)⟩]) [0] [3,4,6,15,16,17] (k:=A0 ?_)
    refine A2 (A4 (j:=1) [0] (k:=?_))
    refine D3 (ch:=[]) (b:=b2) (off:=0) (l:=[.int .i64 y.kind,.string (bk y.text),.slice yan y.names.length ycn,.slice yal y.list.length ycl]) (hA:=At.grp 0 0 rfl rfl) (k:=C9 (ch:=[]) (e:=28) (l:=[(0,.agg #[.int .i64 y.kind,.string (bk y.text),.slice yan y.names.length ycn,.slice yal y.list.length ycl])]) (c:=[.int .i64 y.kind,.string (bk y.text),.slice yan y.names.length ycn,.slice yal y.list.length ycl]) (k:=(fun b15=>?_)))
    refine G0 (i:=3) (ch:=[]) (t:=26) (tx:=26) (e:=28) (inf:=Tryz.t28) (s:=.slice ra rn rc) (x:=.slice (some ⟨b15,0,none⟩) 1 1) (n:=rn) (m:=1) (j:=2) (cs:=cs1) (news:=[.int .i64 y.kind,.string (bk y.text),.slice yan y.names.length ycn,.slice yal y.list.length ycl]) (g:=rg) (S:=(inG [(b15,.cells #[.int .i64 y.kind,.string (bk y.text),.slice yan y.names.length ycn,.slice yal y.list.length ycl] 28 (0,0))])) rfl rfl rfl rfl kr kr kr rfl rfl (.inl ⟨28,kr⟩) (fun ⟨_,h⟩=>by cases h) (fun _=>⟨28,kr⟩) kr kr kr rfl hO (SrcOf.slice _ _ _ _ Rd.lit (fun h=>by cases h)) (F9 0 rfl) kr (by intro u hu; simp only [List.mem_cons,List.not_mem_nil,or_false] at hu; rcases hu with rfl | rfl | rfl | rfl <;> rfl) (by omega) (by show (rn+1) * 72≤140737488355328; omega) (fun v16 g17 hO18=>?_)
    obtain ⟨a19,cap20,rfl,hcap21,hrd22⟩:=hO18.shape
    refine B0 [0] [3,4,15,16,17] (k:=B8 ?_)
    refine A0 ?_
    have hw23:IntKind.wrap .i64 (((k:Nat):Int)+1)=((k:Nat):Int)+1:=w64 (by omega) (by omega)
    refine A2 (C0 (E':=[⟨55,[],.int .i64 (((k:Nat):Int)+1)⟩,⟨3,[],.string (t++(ptx y))⟩,⟨4,[],.slice a19 (rn+1) cap20⟩,⟨15,[],.slice a l.length c⟩,⟨16,[],.int .i64 ((l.length:Nat):Int)⟩,⟨17,[],.int .i64 ((k:Nat):Int)⟩]) [0] (Eq.trans (b:=some [⟨55,[],.int .i64 (IntKind.wrap .i64 (((k:Nat):Int)+1))⟩,⟨3,[],.string (t++(ptx y))⟩,⟨4,[],.slice a19 (rn+1) cap20⟩,⟨15,[],.slice a l.length c⟩,⟨16,[],.int .i64 ((l.length:Nat):Int)⟩,⟨17,[],.int .i64 ((k:Nat):Int)⟩]) kr (by simp only [hw23])) (j:=1) rfl ?_)
    refine C4 (E':=[⟨55,[],.int .i64 ((k+1:Nat):Int)⟩,⟨3,[],.string (t++(ptx y))⟩,⟨4,[],.slice a19 (rn+1) cap20⟩,⟨15,[],.slice a l.length c⟩,⟨16,[],.int .i64 ((l.length:Nat):Int)⟩,⟨17,[],.int .i64 ((k:Nat):Int)⟩]) (by rw [show ((k:Nat):Int)+1=((k+1:Nat):Int) by omega]) (B0 [0] [3,4,15,16,17] (k:=?_))
    refine C1 (H':=(g17::H)) (fun w h=>((h.erase 1).erase 0)) (E6 (s':=((k+1),t++(ptx y),(rs++[y]),(rn+1),a19,cap20,g17,(cs1++jvC y yan ycn yal ycl))) [3,4,15,16,17] kr rfl ⟨(by (try dsimp only); omega),hO18,(by (try dsimp only); rw [List.length_append,hrn]; rfl),(hC.snoc (jrd_mk hyn hyl hyc)),(by (try dsimp only); omega),(fun v hv=>by rcases List.mem_append.1 hv with hv | hv; exact hA v hv; rw [List.mem_singleton.1 hv]; exact ⟨⟨hyr.1,by omega⟩,hy5⟩),(by (try dsimp only); rw [prL_snoc]; simp only [D9,hT,hyr.2]; simp [hrs])⟩ (by (try dsimp only); omega))
 ·
  simp only [decide_eq_false_iff_not] at hc1
  have hVr:rtP 24 (.mk 5 [] [] rs)=true:=rt_list (fun v hv=>(hA v hv).1)
  have hVw:wtJ (.mk 5 [] [] rs)≤10001:=by rw [wtJ_eq]; show 1+0+0+wtL rs≤_; rw [← hrn] at hwL; omega
  have hVc:=K9 (.mk 5 [] [] rs)
  have hVl:=pr_len (.mk 5 [] [] rs)
  have hVz:=C3 (prP (.mk 5 [] [] rs))
  have hPx:(prP (.mk 5 [] [] rs)).length≤65536→parR ((bk (prP (.mk 5 [] [] rs))).data.toList)=((.mk 5 [] [] rs),0):=fun h=>parR_back hVr h
  have hVt:bk (prP (.mk 5 [] [] rs))=t++(ByteArray.mk #[93]):=N5 (by rw [D9,hT,prP_list]; rfl)
  have hV:JRd (fun b o=>S b o∨inG rg b o) (.mk 5 [] [] rs) [.int .i64 5,.string (ByteArray.mk #[]),.slice none 0 0,.slice ra rn rc]:=by
   rw [hrn]
   exact .mk (ns:=[]) (.inl rfl) (rd_mono (own_rd hO) (fun b o h=>.inr h)) (JRdL.mono (fun b o h=>.inl h) hC)
  refine G3 (A9 ?_)
  refine A9 (C5 ?_)
  refine A0 (A1 ?_)
  refine A2 (A4 (j:=2) [0,0] (k:=?_))
  refine H4 Tryz.func22 (jprintC (.mk 5 [] [] rs) [.int .i64 5,.string (ByteArray.mk #[]),.slice none 0 0,.slice ra rn rc] (fun b o=>S b o∨inG rg b o) hV (by omega) (.tuple #[.string (bk (prP (.mk 5 [] [] rs))),.int .i64 0]) (by rw [hVr]; rfl) _ _ (fun y o h=>h.elim (fun h=>At.cons (hS y o h)) (F9 0 rfl y o)) hW) (B0 [0,0,0,0,0] [3,4,9,10] (k:=?_))
  refine A0 (A1 ?_)
  refine A2 (A4 (j:=1) [0] (k:=?_))
  refine GL_strBytes (ch:=[]) (src:=9) (dst:=22) (e:=5) (s:=(bk (prP (.mk 5 [] [] rs)))) (k:=(fun b24 cap25 g26 hcap27 hrd28=>?_))
  refine D8 Tryz.func16 (jparseV (some ⟨b24,0,none⟩) cap25 ((bk (prP (.mk 5 [] [] rs))).data.toList) (inG g26) hrd28 ((parR ((bk (prP (.mk 5 [] [] rs))).data.toList)).1) ((parR ((bk (prP (.mk 5 [] [] rs))).data.toList)).2) rfl _ _ (F9 0 rfl) hW) ?_
  rintro _ _ ⟨c29,gp29,hJ29,rfl,rfl⟩
  obtain ⟨vk29,vt29,van29,vn29,vcn29,val29,vm29,vcl29,rfl⟩:=hJ29.shape
  refine A4 (j:=6) [0,0,0] (k:=F5 (ch:=[]) (z:=.agg #[.int .i64 0,.string (ByteArray.mk #[]),.slice none 0 0,.slice none 0 0]) (k:=(fun b30=>?_)))
  refine E9 (ch:=[]) (b:=b30) (off:=0) (v:=.agg #[.int .i64 vk29,.string vt29,.slice van29 vn29 vcn29,.slice val29 vm29 vcl29]) (j:=0) ([(b30,.cells #[.int .i64 vk29,.string vt29,.slice van29 vn29 vcn29,.slice val29 vm29 vcl29] 28 (0,0))]::gp29::g26::rg::H) (hoff:=Nat.le_of_ble_eq_true rfl) (hfz:=(fun _ _=>E3)) (k:=B0 [0] [3,4,9,10,11,12] (k:=?_))
  refine A0 (A1 ?_)
  refine A2 (A4 (j:=5) [0,0,0,0,0] (k:=?_))
  refine E5 (ch:=[(70,true)]) (s:=t) (u:=(ByteArray.mk #[93])) (hb:=(fun hc=>by have hg0:=I5 (t:=70) (c:=[]) (b:=true) hc kr; (try simp at hg0); (try simp only [hyr.2]); (try simp only [C3,List.length_cons,List.length_nil]); omega)) (k:=A4 (j:=16) [0,2,0,0,0,0,0,0,0,0] (k:=?_))
  refine D3 (ch:=[(83,true),(80,false),(76,true)]) (b:=b30) (off:=0) (l:=[.int .i64 vk29,.string vt29,.slice van29 vn29 vcn29,.slice val29 vm29 vcl29]) (hA:=At.grp 0 0 rfl rfl) (k:=A4 (j:=19) [0,0] (k:=?_))
  refine F7 (ch:=[(83,true),(80,false),(76,true)]) (f:=18) (fst:=#[]) (caps:=#[]) (vs:=[.agg #[.int .i64 vk29,.string vt29,.slice van29 vn29 vcn29,.slice val29 vm29 vcl29],.agg #[.int .i64 5,.string (ByteArray.mk #[]),.slice none 0 0,.slice ra rn rc]]) (v:=.bool true) (hf:=Tryz.func18) (hc:=(fun hc=>rsameE (x:=(parR ((bk (prP (.mk 5 [] [] rs))).data.toList)).1) (x':=(.mk 5 [] [] rs)) (by have hg0:=I5 (t:=83) (c:=[(80,false),(76,true)]) (b:=((parR ((bk (prP (.mk 5 [] [] rs))).data.toList)).2)==0) hc kr; have hg1:=I5 (t:=80) (c:=[(76,true)]) (b:=decide (((bk (prP (.mk 5 [] [] rs))).size:Int) > 65536)) (chB_tl hc) kr; have hg2:=I5 (t:=76) (c:=[]) (b:=(bk (prP (.mk 5 [] [] rs))).toList==(t++(ByteArray.mk #[93])).toList) (chB_tl (chB_tl hc)) kr; (try simp at hg0 hg1 hg2); exact congrArg Prod.fst (hPx (by omega))) (by omega) [.int .i64 vk29,.string vt29,.slice van29 vn29 vcn29,.slice val29 vm29 vcl29] [.int .i64 5,.string (ByteArray.mk #[]),.slice none 0 0,.slice ra rn rc] (inG gp29) (fun b o=>S b o∨inG rg b o) (hJ29.rd (fun _ _ h=>h)) hV _ _ (F9 1 rfl) (fun y o h=>h.elim (fun h=>At.cons (At.cons (At.cons (At.cons (hS y o h))))) (F9 3 rfl y o)))) (k:=B0 [6,5,6,0] [2] (k:=?_))
  refine A0 (B5 ?_)
  refine C1 (H':=H) (fun w h=>((((h.erase 3).erase 2).erase 1).erase 0)) (B6 [.tmp 2] [.bool (((bk (prP (.mk 5 [] [] rs))).toList==(t++(ByteArray.mk #[93])).toList)&&((decide (((bk (prP (.mk 5 [] [] rs))).size:Int) > 65536))||((((parR ((bk (prP (.mk 5 [] [] rs))).data.toList)).2)==0)&&true)))] (k:=?_))
  first | exact ⟨rfl,rfl⟩ | exact ⟨congrArg Value.bool (by rw [← hVt,(eqB _ _).2 rfl]; rcases Nat.lt_or_ge 65536 (prP (.mk 5 [] [] rs)).length with h | h; (rw [decide_eq_true (show ((bk (prP (.mk 5 [] [] rs))).size:Int) > 65536 by omega)]; rfl); (rw [hPx h]; simp)),rfl⟩
end Go.Proofs.YtppgfiklmfoaeaaGreatDoor
namespace Go.Proofs.YtppgfiklmfoaeaaGreatDoor
theorem jsonRoots2:True:=by
  -- jsonPrints_ jsonGets_ jsonLists_ open_json open_jsons wtL_at wtL_count base_of sat_nil post_below sw_at SW laidOut_ and_tt cl_may cl_lift cl_make cl_heard cl_keys ok_one okWide_bool_mk shut_bool trodAll_mk1
  trivial
end Go.Proofs.YtppgfiklmfoaeaaGreatDoor
