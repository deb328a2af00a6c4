/- The document's Unhtml and Unjson, step by step, in a string from a place on: the same as the model. Plain. (and what it stands on) -/
import Derived.Test.YtbnfbffiehoapaaGreatDoorZ2
namespace Go.Proofs.YtbnfbffiehoapaaGreatDoor
open Go.Sw Go.Sha Go.Esc Go.RowKit
theorem shl10 {x:Int} (h0:0≤x) (h1:x≤1000000):IntKind.wrap .i64 (x * 2 ^ 10)=x * 1024:=by
  rw [show (2:Int) ^ 10=1024 by decide]; exact w64 (by omega) (by omega)
theorem unit_ (s:ByteArray) (hs:s.size≤1000000000000) (W0:World) (H:List Grp) (hW:I2 W0):Tri Tryz.prog 56 #[.string s] W0 H (fun v H'=>v=.int .i64 (C5 s.data.toList)∧H'=H):=by
 refine D1 (args:=[.string s]) (n:=28) Tryz.func56 rfl rfl (Nat.le_of_ble_eq_true rfl) ?_
 refine A1 (B3 (E':=[⟨0,[],.string s⟩]) [0] [0] (k:=?_))
 refine A0 (A1 ?_)
 refine A1 (A2 ?_)
 refine A6 (j:=5) [0,0,0,0,0] (k:=C0 (ch:=[(8,false)]) (s:=s) (kd:=.i64) (j:=0) (hb:=(fun hc=>by have hg0:=K0 (t:=8) (c:=[]) (b:=decide ((s.size:Int)<6)) hc kr; (try simp at hg0); omega)) (k:=?_))
 have hb1:=C7 s 0
 refine A6 (j:=10) [0,5,0,0] (k:=C0 (ch:=[(13,false)]) (s:=s) (kd:=.i64) (j:=1) (hb:=(fun hc=>by have hg0:=K0 (t:=13) (c:=[]) (b:=(decide ((s.size:Int)<6))||((A5 s 0) != 92)) hc kr; (try simp at hg0); omega)) (k:=?_))
 have hb2:=C7 s 1
 refine B0 [0,5] [0,17] (k:=A0 ?_)
 refine B1 (b:=((decide ((s.size:Int)<6))||((A5 s 0) != 92))||((A5 s 1) != 117)) kr (fun hc3=>?_) (fun hc3=>?_)
 ·
  simp only [Bool.or_eq_true,decide_eq_true_eq,bne_iff_ne,ne_eq] at hc3
  refine A1 (B3 (E':=[⟨2,[],.int .i64 (-1)⟩]) [0] [2] (k:=?_))
  refine A0 (B6 ?_)
  refine A3 (B5 [.tmp 2] [.int .i64 (-1)] (k:=?_))
  exact ⟨congrArg (Value.int .i64) (unit_no (by omega)).symm,rfl⟩
 ·
  simp only [Bool.or_eq_false_iff,decide_eq_false_iff_not,bne_eq_false_iff_eq] at hc3
  obtain ⟨⟨hc1,hc2⟩,hc3⟩:=hc3
  refine A7 (A0 ?_)
  refine A1 (A2 ?_)
  refine A6 (j:=1) [0] (k:=E8 (ch:=[]) (s:=s) (vl:=(some (.int .i64 2))) (vh:=(some (.int .i64 6))) (l:=2) (h:=6) (hb:=(by omega)) (k:=?_))
  have hz:(s.extract 2 6).size=4:=by rw [ByteArray.size_extract]; omega
  refine F2 Tryz.func63 (parse16_ (s.extract 2 6) (by omega) (by omega) _ _ hW) ?_
  rintro _ _ ⟨⟨n,hV,hn0,hn1,rfl⟩ | ⟨hV,N,rfl⟩,rfl⟩
  ·
   have hp:=pow16 (show (s.extract 2 6).size≤7 by omega)
   refine B0 [0,0,0,0,0] [3,4] (k:=A0 ?_)
   refine A1 (A1 ?_)
   refine A2 (A6 (j:=1) [0] (k:=?_))
   refine K7 (ch:=[]) (v:=.nilIface) (e:=true) true (hv:=.inl ⟨rfl,rfl⟩) (k:=B0 [] [3,25] (k:=?_))
   refine A0 (D7 kr ?_)
   refine A7 (A0 ?_)
   refine A1 (A2 ?_)
   refine A6 (j:=2) [0,0] (k:=C3 27 n (by omega) (by omega) kr ?_)
   refine B8 (E':=[⟨2,[],.int .i64 n⟩]) [0] [2] (k:=A0 ?_)
   refine B6 (B5 [.tmp 2] [.int .i64 n] (k:=?_))
   exact ⟨congrArg (Value.int .i64) (by rw [unit_yes (by omega) hc2 hc3,hV]; rfl),rfl⟩
  ·
   refine B0 [0,0,0,0,0] [3,4] (k:=A0 ?_)
   refine A1 (A1 ?_)
   refine A2 (A6 (j:=1) [0] (k:=?_))
   refine K7 (ch:=[]) (v:=.iface 139 (pt N)) (e:=false) true (hv:=.inr ⟨⟨_,_,rfl⟩,rfl⟩) (k:=B0 [] [3,25] (k:=?_))
   refine A0 (C6 kr ?_)
   refine A1 (B3 (E':=[⟨2,[],.int .i64 (-1)⟩]) [0] [2] (k:=?_))
   refine A0 (B6 ?_)
   refine A3 (B5 [.tmp 2] [.int .i64 (-1)] (k:=?_))
   exact ⟨congrArg (Value.int .i64) (by rw [unit_yes (by omega) hc2 hc3,hV]; rfl),rfl⟩
theorem escape_ (s:ByteArray) (hs:s.size≤1000000000000) (W0:World) (H:List Grp) (hW:I2 W0):Tri Tryz.prog 37 #[.string s] W0 H (fun v H'=>v=.tuple #[.int .i64 (F1 s.data.toList).1,.int .i64 ((F1 s.data.toList).2:Int)]∧H'=H):=by
 refine D1 (args:=[.string s]) (n:=51) Tryz.func37 rfl rfl (Nat.le_of_ble_eq_true rfl) ?_
 refine A1 (B3 (E':=[⟨0,[],.string s⟩]) [0,0] [0] (k:=?_))
 refine A0 (A1 ?_)
 refine A1 (G_p [0,0,0] [0,9] (k:=?_))
 refine A0 (B1 (b:=decide ((s.size:Int)<2)) kr (fun hc1=>?_) (fun hc1=>?_))
 ·
  simp only [decide_eq_true_eq] at hc1
  refine A1 (G_p [0,0] [2,3] (k:=?_))
  refine A0 (B6 ?_)
  refine A3 (B5 [.tmp 2,.tmp 3] [.int .i64 (-1),.int .i64 0] (k:=?_))
  exact ⟨by rw [show F1 s.data.toList=(-1,0) from by unfold F1; rw [if_pos (by rw [B7]; omega)]]; rfl,rfl⟩
 ·
  simp only [decide_eq_false_iff_not] at hc1
  obtain ⟨b,hb⟩:∃ b:UInt8,b=s.data.toList.getD 1 0:=⟨_,rfl⟩
  have hbyte:A5 s 1=(b.toNat:Int):=by rw [byte1,hb]
  have h8:=one_at b
  refine A7 (A0 ?_)
  refine A1 (A1 ?_)
  refine A2 (A6 (j:=1) [0] (k:=?_))
  refine C0 (ch:=[]) (s:=s) (kd:=.i64) (j:=1) (hb:=(fun _=>by omega)) (k:=?_)
  have hb2:=C7 s 1
  refine C8 (E':=[⟨11,[],.int .u8 (b.toNat:Int)⟩,⟨10,[],.string s⟩,⟨0,[],.string s⟩,⟨9,[],.bool (decide ((s.size:Int)<2))⟩]) (by have hz:([⟨11,[],.int .u8 (A5 s 1)⟩,⟨10,[],.string s⟩,⟨0,[],.string s⟩,⟨9,[],.bool (decide ((s.size:Int)<2))⟩]:List Sl)=[⟨11,[],.int .u8 (b.toNat:Int)⟩,⟨10,[],.string s⟩,⟨0,[],.string s⟩,⟨9,[],.bool (decide ((s.size:Int)<2))⟩]:=(by rw [hbyte]); exact Eq.trans kr hz) (G4 Tryz.func27 (idx_ (ByteArray.mk #[34,92,47,98,102,110,114,116]) (b.toNat:Int) _ _) ?_)
  refine B0 [0] [0,4] (k:=A0 ?_)
  refine A1 (G_p [0,0] [0,4,14] (k:=?_))
  refine A0 (B1 (b:=decide ((bIdx (ByteArray.mk #[34,92,47,98,102,110,114,116]) (b.toNat:Int)) ≥ 0)) kr (fun hc3=>?_) (fun hc3=>?_))
  ·
   simp only [decide_eq_true_eq,ge_iff_le] at hc3
   have h9:=h8.2.1 hc3
   refine A1 (A2 ?_)
   refine A6 (j:=1) [0] (k:=C0 (ch:=[]) (s:=(ByteArray.mk #[34,92,47,8,12,10,13,9])) (kd:=.i64) (j:=bIdx (ByteArray.mk #[34,92,47,98,102,110,114,116]) (b.toNat:Int)) (hb:=(by intro _; exact ⟨by omega,by show _<(8:Int); omega⟩)) (k:=?_))
   have hb4:=C7 (ByteArray.mk #[34,92,47,8,12,10,13,9]) (bIdx (ByteArray.mk #[34,92,47,98,102,110,114,116]) (b.toNat:Int))
   refine A6 (j:=3) [0] (k:=C3 17 (A5 (ByteArray.mk #[34,92,47,8,12,10,13,9]) (bIdx (ByteArray.mk #[34,92,47,98,102,110,114,116]) (b.toNat:Int))) (by omega) (by omega) kr ?_)
   refine B0 [0,0] [2,3] (k:=A0 ?_)
   refine B6 (A3 ?_)
   refine B5 [.tmp 2,.tmp 3] [.int .i64 (A5 (ByteArray.mk #[34,92,47,8,12,10,13,9]) (bIdx (ByteArray.mk #[34,92,47,98,102,110,114,116]) (b.toNat:Int))),.int .i64 2] (k:=?_)
   exact ⟨by rw [show F1 s.data.toList=(G5 b,2) from by unfold F1; rw [if_neg (by rw [B7]; omega),← hb,if_pos h9.2],h9.1]; rfl,rfl⟩
  ·
   simp only [decide_eq_false_iff_not,ge_iff_le] at hc3
   have h9:=h8.2.2 hc3
   refine A7 (A0 ?_)
   refine A1 (A2 ?_)
   refine A6 (j:=1) [0] (k:=F2 Tryz.func56 (unit_ s (by (try simp only [ByteArray.size_extract]); omega) _ _ hW) ?_)
   rintro _ _ ⟨rfl,rfl⟩
   have hu133:=M4 s.data.toList
   refine B0 [0] [0,5] (k:=A0 ?_)
   refine A1 (B4 ?_)
   refine A1 (G_p [0,0,0,0,0,6,0] [0,5,20] (k:=?_))
   refine A0 (B1 (b:=(decide ((C5 s.data.toList) ≥ 55296))&&(decide ((C5 s.data.toList)<56320))) kr (fun hc6=>?_) (fun hc6=>?_))
   ·
    simp only [Bool.and_eq_true,decide_eq_true_eq,ge_iff_le] at hc6
    have hl6:=unitM_len (l:=s.data.toList) (by omega)
    rw [B7] at hl6
    refine A1 (A2 ?_)
    refine A6 (j:=1) [0] (k:=E8 (ch:=[]) (s:=s) (vl:=(some (.int .i64 6))) (vh:=none) (l:=6) (h:=(s.size:Int)) (hb:=(fun _=>by omega)) (k:=?_))
    refine F2 Tryz.func56 (unit_ (s.extract 6 s.size) (by (try simp only [ByteArray.size_extract]); omega) _ _ hW) ?_
    rintro _ _ ⟨rfl,rfl⟩
    have hu136:=M4 (s.extract 6 s.size).data.toList
    refine B8 (E':=[⟨5,[],.int .i64 (C5 s.data.toList)⟩,⟨6,[],.int .i64 (C5 (s.extract 6 s.size).data.toList)⟩]) [0] [5,6] (k:=A0 ?_)
    refine A1 (A1 ?_)
    refine G_p [0,0,0,0,0,5] [5,6,35] (k:=A0 ?_)
    refine B1 (b:=(decide ((C5 (s.extract 6 s.size).data.toList)<56320))||(decide ((C5 (s.extract 6 s.size).data.toList) > 57343))) kr (fun hc7=>?_) (fun hc7=>?_)
    ·
     simp only [Bool.or_eq_true,decide_eq_true_eq,gt_iff_lt] at hc7
     refine A1 (G_p [0,0] [2,3] (k:=?_))
     refine A0 (B6 ?_)
     refine A3 (A9 ?_)
     refine A3 (B5 [.tmp 2,.tmp 3] [.int .i64 (-1),.int .i64 0] (k:=?_))
     exact ⟨by rw [show F1 s.data.toList=(-1,0) from by unfold F1; rw [if_neg (by rw [B7]; omega),← hb,if_neg (by omega),if_pos (by omega),← F4,if_pos (by omega)]]; rfl,rfl⟩
    ·
     simp only [Bool.or_eq_false_iff,decide_eq_false_iff_not,gt_iff_lt] at hc7
     refine A7 (A0 ?_)
     refine A1 (A2 ?_)
     refine A6 (j:=2) [0,0] (k:=C3 37 ((C5 s.data.toList) - 55296) (by omega) (by omega) kr ?_)
     refine C1 (E':=[⟨38,[],.int .i64 (IntKind.wrap .i64 (((C5 s.data.toList) - 55296) * 2 ^ 10))⟩,⟨6,[],.int .i64 (C5 (s.extract 6 s.size).data.toList)⟩]) (j:=3) [0] (k:=C8 (E':=[⟨38,[],.int .i64 (((C5 s.data.toList) - 55296) * 1024)⟩,⟨6,[],.int .i64 (C5 (s.extract 6 s.size).data.toList)⟩]) (by rw [shl10 (by omega) (by omega)]) ?_)
     refine A6 (j:=4) [0] (k:=C3 39 (65536+(((C5 s.data.toList) - 55296) * 1024)) (by omega) (by omega) kr ?_)
     refine A6 (j:=6) [0,0] (k:=C3 41 ((65536+(((C5 s.data.toList) - 55296) * 1024))+(C5 (s.extract 6 s.size).data.toList)) (by omega) (by omega) kr ?_)
     refine A6 (j:=7) [0] (k:=C3 42 (((65536+(((C5 s.data.toList) - 55296) * 1024))+(C5 (s.extract 6 s.size).data.toList)) - 56320) (by omega) (by omega) kr ?_)
     refine B0 [0,0] [2,3] (k:=A0 ?_)
     refine B6 (A9 ?_)
     refine A3 (B5 [.tmp 2,.tmp 3] [.int .i64 (((65536+(((C5 s.data.toList) - 55296) * 1024))+(C5 (s.extract 6 s.size).data.toList)) - 56320),.int .i64 12] (k:=?_))
     exact ⟨by rw [show F1 s.data.toList=(65536+((C5 s.data.toList) - 55296) * 1024+C5 (s.extract 6 s.size).data.toList - 56320,12) from by unfold F1; rw [if_neg (by rw [B7]; omega),← hb,if_neg (by omega),if_pos (by omega),← F4,if_neg (by omega)]]; rfl,rfl⟩
   ·
    simp only [Bool.and_eq_false_iff,decide_eq_false_iff_not,ge_iff_le] at hc6
    refine A1 (B3 (E':=[⟨5,[],.int .i64 (C5 s.data.toList)⟩,⟨43,[],.bool ((decide ((C5 s.data.toList) ≥ 56320))&&(decide ((C5 s.data.toList)<57344)))⟩]) [0,0,0,0,0,6,0] [5,43] (k:=?_))
    refine A0 (B1 (b:=(decide ((C5 s.data.toList) ≥ 56320))&&(decide ((C5 s.data.toList)<57344))) kr (fun hc12=>?_) (fun hc12=>?_))
    ·
     simp only [Bool.and_eq_true,decide_eq_true_eq,ge_iff_le] at hc12
     refine A1 (G_p [0,0] [2,3] (k:=?_))
     refine A0 (B6 ?_)
     refine A9 (A3 ?_)
     refine B5 [.tmp 2,.tmp 3] [.int .i64 (-1),.int .i64 0] (k:=?_)
     exact ⟨by rw [show F1 s.data.toList=(-1,0) from by unfold F1; rw [if_neg (by rw [B7]; omega),← hb,if_neg (by omega),if_neg (by omega),if_pos (by omega)]]; rfl,rfl⟩
    ·
     simp only [Bool.and_eq_false_iff,decide_eq_false_iff_not,ge_iff_le] at hc12
     refine A7 (B2 ?_)
     refine A0 (A1 ?_)
     refine G_p [0,0,0] [2,3] (k:=A0 ?_)
     refine B6 (B5 [.tmp 2,.tmp 3] [.int .i64 (C5 s.data.toList),.int .i64 6] (k:=?_))
     exact ⟨by rw [show F1 s.data.toList=((C5 s.data.toList),6) from by unfold F1; rw [if_neg (by rw [B7]; omega),← hb,if_neg (by omega),if_neg (by omega),if_neg (by omega)]]; rfl,rfl⟩
theorem valid_ (s:ByteArray) (hs:s.size≤1000000000000) (W0:World) (H:List Grp) (hW:I2 W0):Tri Tryz.prog 36 #[.string s] W0 H (fun v H'=>v=.bool (G9 s.data.toList)∧H'=H):=by
 refine D1 (args:=[.string s]) (n:=5) Tryz.func36 rfl rfl (Nat.le_of_ble_eq_true rfl) ?_
 refine A1 (B3 (E':=[⟨0,[],.string s⟩]) [0] [0] (k:=?_))
 refine A0 (A1 ?_)
 refine A2 (A6 (j:=1) [0] (k:=?_))
 refine F2 Tryz.func55 (validStr s (by omega) _ _ hW) ?_
 rintro _ _ ⟨rfl,rfl⟩
 refine B8 (E':=[⟨2,[],.bool (G9 s.data.toList)⟩]) [0] [2] (k:=A0 ?_)
 refine B6 (B5 [.tmp 2] [.bool (G9 s.data.toList)] (k:=?_))
 exact ⟨rfl,rfl⟩
theorem unjson_ (s:ByteArray) (hs:s.size≤10000000000) (W0:World) (H:List Grp) (hW:I2 W0):Tri Tryz.prog 16 #[.string s] W0 H (fun v H'=>v=unjV (unjM s.data.toList)∧H'=H):=by
 refine D1 (args:=[.string s]) (n:=67) Tryz.func16 rfl rfl (Nat.le_of_ble_eq_true rfl) ?_
 refine A1 (B3 (E':=[⟨0,[],.string s⟩]) [0,0] [0] (k:=?_))
 refine A0 (A1 ?_)
 refine A1 (A2 ?_)
 refine A6 (j:=5) [0,0,0,0,0] (k:=C0 (ch:=[(11,false)]) (s:=s) (kd:=.i64) (j:=0) (hb:=(fun hc=>by have hg0:=K0 (t:=11) (c:=[]) (b:=decide ((s.size:Int)<2)) hc kr; (try simp at hg0); omega)) (k:=?_))
 have hb1:=C7 s 0
 have hw2:IntKind.wrap .i64 ((s.size:Int) - 1)=(s.size:Int) - 1:=w64 (by omega) (by omega)
 refine C1 (E':=[⟨20,[(16,false)],.int .i64 ((s.size:Int) - 1)⟩,⟨17,[(16,false)],.string s⟩,⟨16,[],.bool ((decide ((s.size:Int)<2))||((A5 s 0) != 34))⟩,⟨0,[],.string s⟩]) [0,5,0,0,0,0,0] (Eq.trans (b:=some [⟨20,[(16,false)],.int .i64 (IntKind.wrap .i64 ((s.size:Int) - 1))⟩,⟨17,[(16,false)],.string s⟩,⟨16,[],.bool ((decide ((s.size:Int)<2))||((A5 s 0) != 34))⟩,⟨0,[],.string s⟩]) kr (by simp only [hw2])) (j:=13) rfl (C0 (ch:=[(16,false)]) (s:=s) (kd:=.i64) (j:=(s.size:Int) - 1) (hb:=(fun hc=>by have hg0:=K0 (t:=16) (c:=[]) (b:=(decide ((s.size:Int)<2))||((A5 s 0) != 34)) hc kr; (try simp at hg0); omega)) (k:=?_))
 have hb3:=C7 s ((s.size:Int) - 1)
 refine A6 (j:=18) [0,5,0,0] (k:=F6 (ch:=[(24,false)]) (f:=36) (fst:=#[]) (caps:=#[]) (vs:=[.string s]) (v:=.bool (G9 s.data.toList)) (hf:=Tryz.func36) (hc:=(fun hc=>valid_ s (by omega) _ _ hW)) (k:=?_))
 refine B0 [0,5] [0,28] (k:=A0 ?_)
 refine B1 (b:=(((decide ((s.size:Int)<2))||((A5 s 0) != 34))||((A5 s ((s.size:Int) - 1)) != 34))||(!(G9 s.data.toList))) kr (fun hc4=>?_) (fun hc4=>?_)
 ·
  simp only [Bool.or_eq_true,Bool.not_eq_true',decide_eq_true_eq,bne_iff_ne,ne_eq] at hc4
  refine A1 (G_p [0,0] [2,3] (k:=?_))
  refine A0 (B6 ?_)
  refine A3 (B5 [.tmp 2,.tmp 3] [.string (ByteArray.mk #[]),.int .i64 20] (k:=?_))
  exact ⟨by rw [unj_no (by assumption)]; rfl,rfl⟩
 ·
  simp only [Bool.or_eq_false_iff,Bool.not_eq_false',decide_eq_false_iff_not,bne_eq_false_iff_eq] at hc4
  obtain ⟨⟨⟨hq1,hq2⟩,hq3⟩,hq4⟩:=hc4
  have hU0:=unj_yes hq1 hq2 hq3 hq4
  refine A7 (A0 ?_)
  refine A1 (A2 ?_)
  refine A6 (j:=4) [0,0,0,0] (k:=C3 32 ((s.size:Int) - 1) (by omega) (by omega) kr ?_)
  refine E8 (ch:=[]) (s:=s) (vl:=(some (.int .i64 1))) (vh:=(some (.int .i64 ((s.size:Int) - 1)))) (l:=1) (h:=(s.size:Int) - 1) (hb:=(fun _=>by omega)) (k:=B0 [0] [0] (k:=?_))
  refine A0 (A1 ?_)
  refine A2 (O7 (ch:=[]) (z:=.agg #[.pointer none,.slice none 0 0]) (k:=(fun b6=>?_)))
  refine GL_heap rfl (H':=([(b6,.cells #[.pointer none,.slice none 0 0] 39 (0,0))]::[]::H)) (fun w h=>h.flat (List.Perm.refl _)) (B0 [] [0,4] (k:=?_))
  refine A0 (A1 ?_)
  refine B4 (I8 (EI:=(fun ξ:Value × Value × Grp × ByteArray × ByteArray=>[⟨0,[],.string ξ.2.2.2.2⟩,⟨4,[],pt b6⟩])) (HI:=(fun ξ:Value × Value × Grp × ByteArray × ByteArray=>([(b6,.cells #[ξ.1,ξ.2.1] 39 (0,0))]::ξ.2.2.1::H))) (Φ:=(fun ξ:Value × Value × Grp × ByteArray × ByteArray=>(Bld b6 ξ.1)∧(BOwn ξ.2.1 ξ.2.2.1 ξ.2.2.2.1)∧(ξ.2.2.2.2.size≤s.size)∧(ξ.2.2.2.1.size+4 * ξ.2.2.2.2.size≤4 * s.size)∧(unjM s.data.toList=(ujL ξ.2.2.2.2.data.toList).map (ξ.2.2.2.1.data.toList++·)))) (μ:=(fun ξ:Value × Value × Grp × ByteArray × ByteArray=>ξ.2.2.2.2.size)) (s0:=(.pointer none,.slice none 0 0,[],.empty,(s.extract 1 (Int.toNat (((s.size:Nat):Int) - 1))))) [0,4] kr rfl ⟨bld0,bown0,(by show (s.extract 1 _).size≤_; rw [ByteArray.size_extract]; omega),(by show 0+4 * (s.extract 1 _).size≤_; rw [ByteArray.size_extract]; omega),(by exact hU0)⟩ ?_)
  rintro ⟨p,v,g,t,sv⟩ ⟨hbp,hB,hz,hts,hT⟩
  dsimp only at hbp hB hz hts hT
  refine A1 (A1 ?_)
  refine G_p [0,0,0] [0,4,36] (k:=A0 ?_)
  refine B1 (b:=decide ((sv.size:Int) > 0)) kr (fun hc7=>?_) (fun hc7=>?_)
  ·
   simp only [decide_eq_true_eq,gt_iff_lt] at hc7
   have hpos:0<sv.size:=by omega
   obtain ⟨b,hb⟩:∃ b:UInt8,b=sv.data.toList.getD 0 0:=⟨_,rfl⟩
   have hbyte:A5 sv 0=(b.toNat:Int):=by rw [byte0,hb]
   refine A7 (A0 ?_)
   refine B4 (A1 ?_)
   refine A2 (A6 (j:=1) [0] (k:=?_))
   refine C0 (ch:=[]) (s:=sv) (kd:=.i64) (j:=0) (hb:=(fun _=>by omega)) (k:=?_)
   have hb8:=C7 sv 0
   refine C8 (E':=[⟨38,[],.int .u8 (b.toNat:Int)⟩,⟨37,[],.string sv⟩,⟨0,[],.string sv⟩,⟨4,[],pt b6⟩,⟨36,[],.bool (decide ((sv.size:Int) > 0))⟩]) (by have hz:([⟨38,[],.int .u8 (A5 sv 0)⟩,⟨37,[],.string sv⟩,⟨0,[],.string sv⟩,⟨4,[],pt b6⟩,⟨36,[],.bool (decide ((sv.size:Int) > 0))⟩]:List Sl)=[⟨38,[],.int .u8 (b.toNat:Int)⟩,⟨37,[],.string sv⟩,⟨0,[],.string sv⟩,⟨4,[],pt b6⟩,⟨36,[],.bool (decide ((sv.size:Int) > 0))⟩]:=(by rw [hbyte]); exact Eq.trans kr hz) (B0 [0] [0,4,5] (k:=?_))
   refine A0 (B4 ?_)
   refine A1 (G_p [0,0,0,0,0,5,0] [0,4,5,52] (k:=?_))
   refine A0 (B1 (b:=(decide ((b.toNat:Int)<32))||((b.toNat:Int)==34)) kr (fun hc9=>?_) (fun hc9=>?_))
   ·
    simp only [Bool.or_eq_true,decide_eq_true_eq,beq_iff_eq] at hc9
    refine A1 (G_p [0,0] [2,3] (k:=?_))
    refine A0 (B6 ?_)
    refine A9 (A9 ?_)
    refine A3 (A9 ?_)
    refine A3 (C9 (H':=H) (fun w h=>((h.erase 1).erase 0)) ?_)
    refine B5 [.tmp 2,.tmp 3] [.string (ByteArray.mk #[]),.int .i64 20] (k:=?_)
    exact ⟨by rw [hT,ujA hpos hb (by omega)]; rfl,rfl⟩
   ·
    simp only [Bool.or_eq_false_iff,decide_eq_false_iff_not,beq_eq_false_iff_ne,ne_eq] at hc9
    have hno:¬ ((b.toNat:Int)<32∨(b.toNat:Int)=34):=by omega
    refine A1 (G_p [0,0,0] [0,4,5,59] (k:=?_))
    refine A0 (B1 (b:=(b.toNat:Int) != 92) kr (fun hc10=>?_) (fun hc10=>?_))
    ·
     simp only [bne_iff_ne,ne_eq] at hc10
     have hne:=hc10
     refine A1 (A2 ?_)
     refine A6 (j:=1) [0] (k:=F2 Tryz.func31 (I6 b6 (p) (v) g t b hbp hB (by omega) _ _) ?_)
     rintro _ _ ⟨v11,g12,hB13,rfl⟩
     refine B8 (E':=[⟨0,[],.string sv⟩,⟨4,[],pt b6⟩]) [] [0,4] (k:=A0 ?_)
     refine A2 (A6 (j:=1) [0] (k:=?_))
     refine E8 (ch:=[]) (s:=sv) (vl:=(some (.int .i64 1))) (vh:=none) (l:=1) (h:=(sv.size:Int)) (hb:=(fun _=>by omega)) (k:=B0 [0] [0,4] (k:=?_))
     refine B2 (B2 ?_)
     refine D8 (s':=(pt b6,v11,g12,(t++⟨#[b]⟩),sv.extract 1 sv.size)) [0,4] kr rfl ⟨bld1,hB13,(by dsimp only; rw [O0]; omega),(by dsimp only; simp only [E5,sz1]; have h3:=O0 sv 1; omega),(by dsimp only; rw [hT,ujB hpos hb hno hne,map_one (c:=(t++⟨#[b]⟩).data.toList) (D4 _ _)])⟩ (by dsimp only; rw [O0]; omega)
    ·
     simp only [bne_eq_false_iff_eq] at hc10
     have he92:=hc10
     refine A1 (A2 ?_)
     refine A6 (j:=1) [0] (k:=F2 Tryz.func37 (escape_ sv (by omega) _ _ hW) ?_)
     rintro _ _ ⟨rfl,rfl⟩
     refine B0 [0,0,0,0,0] [0,4,6,7] (k:=A0 ?_)
     refine A1 (A1 ?_)
     refine B3 (E':=[⟨0,[],.string sv⟩,⟨4,[],pt b6⟩,⟨6,[],.int .i64 ((F1 sv.data.toList).1)⟩,⟨7,[],.int .i64 ((F1 sv.data.toList).2:Int)⟩,⟨45,[],.bool (decide (((F1 sv.data.toList).1)<0))⟩]) [0,0] [0,4,6,7,45] (k:=A0 ?_)
     refine B1 (b:=decide (((F1 sv.data.toList).1)<0)) kr (fun hc14=>?_) (fun hc14=>?_)
     ·
      simp only [decide_eq_true_eq] at hc14
      refine A1 (G_p [0,0] [2,3] (k:=?_))
      refine A0 (B6 ?_)
      refine A3 (A9 ?_)
      refine A9 (A3 ?_)
      refine A9 (A3 ?_)
      refine C9 (H':=H) (fun w h=>((h.erase 1).erase 0)) (B5 [.tmp 2,.tmp 3] [.string (ByteArray.mk #[]),.int .i64 20] (k:=?_))
      exact ⟨by rw [hT,(ujC hpos hb he92).1 (by omega)]; rfl,rfl⟩
     ·
      simp only [decide_eq_false_iff_not] at hc14
      have hep:=escM_pos (l:=sv.data.toList) (by omega)
      have hep2:=hep.2.1
      rw [B7] at hep2
      have hri:=hep.2.2
      unfold isR at hri
      refine A7 (A0 ?_)
      refine A1 (A2 ?_)
      refine C1 (E':=[⟨47,[],.int .i32 (IntKind.wrap .i32 ((F1 sv.data.toList).1))⟩,⟨0,[],.string sv⟩,⟨4,[],pt b6⟩,⟨7,[],.int .i64 ((F1 sv.data.toList).2:Int)⟩]) (j:=2) [0,0] (k:=C8 (E':=[⟨47,[],.int .i32 ((F1 sv.data.toList).1)⟩,⟨0,[],.string sv⟩,⟨4,[],pt b6⟩,⟨7,[],.int .i64 ((F1 sv.data.toList).2:Int)⟩]) (by rw [w32i (by omega) (by omega)]) ?_)
      refine F2 Tryz.func32 (writeRune b6 (p) (v) g t ((F1 sv.data.toList).1) hbp hB hep.2.2 (by omega) _ _) ?_
      rintro _ _ ⟨v15,g16,hB17,rfl⟩
      refine B0 [] [0,4,7] (k:=A0 ?_)
      refine A2 (A6 (j:=2) [0,0] (k:=?_))
      refine E8 (ch:=[]) (s:=sv) (vl:=(some (.int .i64 ((F1 sv.data.toList).2:Int)))) (vh:=none) (l:=((F1 sv.data.toList).2:Int)) (h:=(sv.size:Int)) (hb:=(fun _=>by omega)) (k:=C8 (E':=[⟨51,[],.string (sv.extract (F1 sv.data.toList).2 sv.size)⟩,⟨50,[],.int .i64 ((F1 sv.data.toList).2:Int)⟩,⟨49,[],.string sv⟩,⟨0,[],.string sv⟩,⟨4,[],pt b6⟩,⟨7,[],.int .i64 ((F1 sv.data.toList).2:Int)⟩]) (by have hz:([⟨51,[],.string (sv.extract (Int.toNat ((F1 sv.data.toList).2:Int)) sv.size)⟩,⟨50,[],.int .i64 ((F1 sv.data.toList).2:Int)⟩,⟨49,[],.string sv⟩,⟨0,[],.string sv⟩,⟨4,[],pt b6⟩,⟨7,[],.int .i64 ((F1 sv.data.toList).2:Int)⟩]:List Sl)=[⟨51,[],.string (sv.extract (F1 sv.data.toList).2 sv.size)⟩,⟨50,[],.int .i64 ((F1 sv.data.toList).2:Int)⟩,⟨49,[],.string sv⟩,⟨0,[],.string sv⟩,⟨4,[],pt b6⟩,⟨7,[],.int .i64 ((F1 sv.data.toList).2:Int)⟩]:=(by rw [Int.toNat_natCast]); exact Eq.trans kr hz) ?_)
      refine B0 [0] [0,4] (k:=B2 ?_)
      refine B2 (D8 (s':=(pt b6,v15,g16,(t++encB ((F1 sv.data.toList).1)),sv.extract (F1 sv.data.toList).2 sv.size)) [0,4] kr rfl ⟨bld1,hB17,(by dsimp only; rw [O0]; omega),(by dsimp only; simp only [E5]; have h3:=O0 sv (F1 sv.data.toList).2; have h4:=encB_size (F1 sv.data.toList).1; omega),(by dsimp only; rw [hT,(ujC hpos hb he92).2 (by omega),map_app (c:=(t++encB (F1 sv.data.toList).1).data.toList) (by rw [D4,H3])])⟩ (by dsimp only; rw [O0]; omega))
  ·
   simp only [decide_eq_false_iff_not,gt_iff_lt] at hc7
   refine F7 (A8 ?_)
   refine A8 (C2 ?_)
   refine A0 (A1 ?_)
   refine A2 (F2 Tryz.func29 (J8 b6 (p) (v) g t hB (by omega) _ _) ?_)
   rintro _ _ ⟨rfl,rfl⟩
   refine B0 [0,0] [2,3] (k:=A0 ?_)
   refine B6 (C9 (H':=H) (fun w h=>(h.erase 0)) ?_)
   refine B5 [.tmp 2,.tmp 3] [.string t,.int .i64 0] (k:=?_)
   exact ⟨by rw [hT,List.eq_nil_of_length_eq_zero (show sv.data.toList.length=0 by rw [B7]; omega),ujL_nil]; show _=unjV (some (t.data.toList++[])); rw [List.append_nil]; rfl,rfl⟩
end Go.Proofs.YtbnfbffiehoapaaGreatDoor
namespace Go.Proofs.YtbnfbffiehoapaaGreatDoor
open Go.Sw Go.Sha Go.Esc Go.RowKit
theorem first_  (W0:World) (H:List Grp) (hW:I2 W0):Tri Tryz.prog 9 #[] W0 H (fun v H'=>v=.bool true∧H'=H):=by
 refine D1 (args:=[]) (n:=39) Tryz.func9 rfl rfl (Nat.le_of_ble_eq_true rfl) ?_
 refine A1 (B3 (E':=[]) [0] [] (k:=?_))
 refine A0 (A1 ?_)
 refine A2 (G4 (vs:=[.string (ByteArray.mk #[34,92,117,48,48,52,49,92,117,100,56,51,100,92,117,100,101,48,48,34])]) Tryz.func16 ((Tri.post (unjson_ (ByteArray.mk #[34,92,117,48,48,52,49,92,117,100,56,51,100,92,117,100,101,48,48,34]) (Nat.le_of_ble_eq_true rfl) _ _ hW) fun v H1 h=>⟨H1,by rw [show unjM (ByteArray.mk #[34,92,117,48,48,52,49,92,117,100,56,51,100,92,117,100,101,48,48,34]).data.toList=some [65,240,159,152,128] by decide +kernel] at h; exact h,fun _ h=>h⟩)) ?_)
 refine B0 [0,0,0,0,0] [1,2] (k:=A0 ?_)
 refine A1 (A2 ?_)
 refine G4 (vs:=[.string (ByteArray.mk #[34,92,117,100,56,51,100,34])]) Tryz.func16 ((Tri.post (unjson_ (ByteArray.mk #[34,92,117,100,56,51,100,34]) (Nat.le_of_ble_eq_true rfl) _ _ hW) fun v H1 h=>⟨H1,by rw [show unjM (ByteArray.mk #[34,92,117,100,56,51,100,34]).data.toList=none by decide +kernel] at h; exact h,fun _ h=>h⟩)) (B0 [0,0,0,0,0] [1,2,4] (k:=?_))
 refine A0 (A1 ?_)
 refine A2 (G4 Tryz.func10 (html_ (ByteArray.mk #[60,97,32,98,61,39,49,39,62]) (by first | exact Nat.le_of_ble_eq_true rfl | (simp only [I7,E5]; omega)) _ _) ?_)
 refine A6 (j:=3) [0,0] (k:=F6 (ch:=[(15,true)]) (f:=12) (fst:=#[]) (caps:=#[]) (vs:=[.string (ByteArray.mk #[38,35,120,52,49,59,38,35,54,54,59,38,97,109,112,59,38,110,111,112,101,59])]) (v:=.string (bk (unL (ByteArray.mk #[38,35,120,52,49,59,38,35,54,54,59,38,97,109,112,59,38,110,111,112,101,59]).data.toList))) (hf:=Tryz.func12) (hc:=(fun hc=>unhtml_ (ByteArray.mk #[38,35,120,52,49,59,38,35,54,54,59,38,97,109,112,59,38,110,111,112,101,59]) (by first | exact Nat.le_of_ble_eq_true rfl | (simp only [I7,E5]; omega)) _ _ hW)) (k:=?_))
 refine A6 (j:=7) [0,6,0] (k:=F6 (ch:=[(19,true)]) (f:=14) (fst:=#[]) (caps:=#[]) (vs:=[.string (ByteArray.mk #[97,60,10])]) (v:=.string (bk (H5 (ByteArray.mk #[97,60,10]).data.toList))) (hf:=Tryz.func14) (hc:=(fun hc=>json_ (ByteArray.mk #[97,60,10]) (by first | exact Nat.le_of_ble_eq_true rfl | (simp only [I7,E5]; omega)) _ _ hW)) (k:=?_))
 refine A6 (j:=23) [0,6,0,0,0,6,0,0,0,6,0,0,0,6,0] (k:=F6 (ch:=[(35,true)]) (f:=21) (fst:=#[]) (caps:=#[]) (vs:=[.string (ByteArray.mk #[97,32,47])]) (v:=.string (bk (percL (ByteArray.mk #[97,32,47]).data.toList))) (hf:=Tryz.func21) (hc:=(fun hc=>percent_ (ByteArray.mk #[97,32,47]) (by first | exact Nat.le_of_ble_eq_true rfl | (simp only [I7,E5]; omega)) _ _)) (k:=?_))
 refine B0 [0,6,0] [0] (k:=A0 ?_)
 refine B6 (B5 [.tmp 0] [.bool ((((((((bk (H8 (ByteArray.mk #[60,97,32,98,61,39,49,39,62]).data.toList)).toList==(ByteArray.mk #[38,108,116,59,97,32,98,61,38,35,51,57,59,49,38,35,51,57,59,38,103,116,59]).toList)&&((bk (unL (ByteArray.mk #[38,35,120,52,49,59,38,35,54,54,59,38,97,109,112,59,38,110,111,112,101,59]).data.toList)).toList==(ByteArray.mk #[65,66,38,38,110,111,112,101,59]).toList))&&((bk (H5 (ByteArray.mk #[97,60,10]).data.toList)).toList==(ByteArray.mk #[34,97,92,117,48,48,51,99,92,110,34]).toList))&&true)&&((ByteArray.mk #[65,240,159,152,128]).toList==(ByteArray.mk #[65,240,159,152,128]).toList))&&true)&&((bk (percL (ByteArray.mk #[97,32,47]).data.toList)).toList==(ByteArray.mk #[97,37,50,48,37,50,70]).toList))] (k:=?_))
 have q0:((bk (H8 (ByteArray.mk #[60,97,32,98,61,39,49,39,62]).data.toList)).toList==(ByteArray.mk #[38,108,116,59,97,32,98,61,38,35,51,57,59,49,38,35,51,57,59,38,103,116,59]).toList)=true:=(eqB _ _).2 (by decide +kernel)
 have q1:((bk (unL (ByteArray.mk #[38,35,120,52,49,59,38,35,54,54,59,38,97,109,112,59,38,110,111,112,101,59]).data.toList)).toList==(ByteArray.mk #[65,66,38,38,110,111,112,101,59]).toList)=true:=(eqB _ _).2 (by decide +kernel)
 have q2:((bk (H5 (ByteArray.mk #[97,60,10]).data.toList)).toList==(ByteArray.mk #[34,97,92,117,48,48,51,99,92,110,34]).toList)=true:=(eqB _ _).2 (by decide +kernel)
 have q3:((bk (percL (ByteArray.mk #[97,32,47]).data.toList)).toList==(ByteArray.mk #[97,37,50,48,37,50,70]).toList)=true:=(eqB _ _).2 (by decide +kernel)
 have q4:((ByteArray.mk #[65,240,159,152,128]).toList==(ByteArray.mk #[65,240,159,152,128]).toList)=true:=(eqB _ _).2 rfl
 exact ⟨congrArg Value.bool (by simp only [q0,q1,q2,q3,q4,Bool.and_true]),rfl⟩
end Go.Proofs.YtbnfbffiehoapaaGreatDoor
namespace Go.Esc
open Go.Lib Go.Sw
theorem enc_byte {p:Int} (h:isR p):(p≤127∧encodeRune p=[p.toNat.toUInt8])∨(128≤p∧∀ b∈encodeRune p,128≤b.toNat):=by
  unfold isR at h
  by_cases h1:p≤127
  · exact .inl ⟨h1,enc_one h.1 h1⟩
  refine .inr ⟨by omega,fun b hb=>?_⟩
  unfold encodeRune at hb
  obtain ⟨x,hx,rfl⟩:=List.mem_map.1 hb
  have hr:=encodeRuneZ_byte p x hx
  rw [byteZ x hr.1 hr.2]
  unfold encodeRuneZ at hx
  rw [if_neg (by omega)] at hx
  split at hx
  · simp only [List.mem_cons,List.not_mem_nil,or_false] at hx; omega
  split at hx
  · simp only [List.mem_cons,List.not_mem_nil,or_false] at hx; omega
  split at hx
  · simp only [List.mem_cons,List.not_mem_nil,or_false] at hx; omega
  · simp only [List.mem_cons,List.not_mem_nil,or_false] at hx; omega
theorem u8_ne {p:Int} (h0:0≤p) (h1:p≤127) {c:Nat} (hc:c<256) (h:p≠(c:Int)):p.toNat.toUInt8≠UInt8.ofNat c:=by
  intro he
  have:=congrArg UInt8.toNat he
  rw [byteZ p h0 (by omega)] at this
  simp [UInt8.toNat_ofNat',Nat.mod_eq_of_lt hc] at this
  omega
theorem htmlR_none {b:UInt8} (h:b≠38∧b≠60∧b≠62∧b≠34∧b≠39):B9 b=none:=by
  unfold B9; rw [if_neg h.1,if_neg h.2.1,if_neg h.2.2.1,if_neg h.2.2.2.1,if_neg h.2.2.2.2]
theorem out_enc {p:Int} (h:isR p):D3 B9 (encodeRune p)=L8 p:=by
  have h0:=h.1
  unfold L8
  by_cases e1:p=38
  · subst e1; decide +kernel
  by_cases e2:p=60
  · subst e2; decide +kernel
  by_cases e3:p=62
  · subst e3; decide +kernel
  by_cases e4:p=34
  · subst e4; decide +kernel
  by_cases e5:p=39
  · subst e5; decide +kernel
  rw [if_neg e1,if_neg e2,if_neg e3,if_neg e4,if_neg e5]
  refine outR_same _ _ fun b hb=>htmlR_none ?_
  rcases enc_byte h with ⟨h1,he⟩ | ⟨h1,he⟩
  · rw [he] at hb
    obtain rfl:=List.mem_singleton.1 hb
    exact ⟨u8_ne h0 h1 (c:=38) (by decide) e1,u8_ne h0 h1 (c:=60) (by decide) e2,u8_ne h0 h1 (c:=62) (by decide) e3,u8_ne h0 h1 (c:=34) (by decide) e4,u8_ne h0 h1 (c:=39) (by decide) e5⟩
  · have:=he b hb
    refine ⟨?_,?_,?_,?_,?_⟩ <;> (rintro rfl; exact absurd this (by decide))
theorem out_encL:∀ {ps:List Int},(∀ p∈ps,isR p)→D3 B9 (encL ps)=ps.flatMap L8
  | [],_=>rfl
  | p::ps,h=>by rw [M8,L7,out_enc (h p List.mem_cons_self),out_encL (fun q hq=>h q (List.mem_cons_of_mem _ hq)),List.flatMap_cons]
def keepL (l:List UInt8):List Int:=(A4 l).filter plainR
theorem keep_isR (l:List UInt8):∀ p∈keepL l,isR p:=fun p hp=>K9 l p (List.mem_filter.1 hp).1
theorem htmlL_eq (l:List UInt8):H8 l=(keepL l).flatMap L8:=out_encL (keep_isR l)
theorem enc_no {p:Int} (h:isR p) {c:Nat} (hc:c<128) (hp:p≠(c:Int)):∀ b∈encodeRune p,b≠UInt8.ofNat c:=by
  intro b hb
  rcases enc_byte h with ⟨h1,he⟩ | ⟨h1,he⟩
  · rw [he] at hb
    obtain rfl:=List.mem_singleton.1 hb
    exact u8_ne h.1 h1 (by omega) hp
  · have:=he b hb
    intro hx; rw [hx] at this
    simp [UInt8.toNat_ofNat',Nat.mod_eq_of_lt (show c<256 by omega)] at this
    omega
theorem un_lit {p t:List UInt8} {q:Int} (hr:refM p=q) (hq:0≤q) (h:∀ b∈p,b≠59):unL (38::(p++59::t))=encodeRune q++unL t:=by
  have:=un_good (pre:=[]) (p:=p) (t:=t) (by intro b hb; cases hb) h (by omega)
  rw [List.nil_append,List.nil_append,hr] at this; exact this
theorem un_html {p:Int} (h:isR p) (t:List UInt8):unL (L8 p++t)=encodeRune p++unL t:=by
  unfold L8
  by_cases e1:p=38
  · subst e1; exact un_lit (p:=[97,109,112]) (by decide +kernel) (by decide) (by decide)
  rw [if_neg e1]
  by_cases e2:p=60
  · subst e2; exact un_lit (p:=[108,116]) (by decide +kernel) (by decide) (by decide)
  rw [if_neg e2]
  by_cases e3:p=62
  · subst e3; exact un_lit (p:=[103,116]) (by decide +kernel) (by decide) (by decide)
  rw [if_neg e3]
  by_cases e4:p=34
  · subst e4; exact un_lit (p:=[113,117,111,116]) (by decide +kernel) (by decide) (by decide)
  rw [if_neg e4]
  by_cases e5:p=39
  · subst e5; exact un_lit (p:=[35,51,57]) (by decide +kernel) (by decide) (by decide)
  rw [if_neg e5]
  exact unL_app _ _ (enc_no h (c:=38) (by decide) e1)
theorem un_htmls:∀ {ps:List Int},(∀ p∈ps,isR p)→unL (ps.flatMap L8)=encL ps
  | [],_=>rfl
  | p::ps,h=>by rw [List.flatMap_cons,un_html (h p List.mem_cons_self),un_htmls (fun q hq=>h q (List.mem_cons_of_mem _ hq)),M8]
theorem un_htmlL (l:List UInt8):unL (H8 l)=D5 l:=by rw [htmlL_eq,un_htmls (keep_isR l)]; rfl
theorem html_len (l:List UInt8):(H8 l).length≤24 * l.length:=by
  have h1:=plain_len l
  have h2:∀ m:List UInt8,(D3 B9 m).length≤6 * m.length:=by
    intro m
    induction m with
    | nil=>exact Nat.le_refl _
    | cons b m ih =>
      rw [outR_cons,List.length_append,List.length_cons]
      have:((B9 b).getD [b]).length≤6:=by
        unfold B9; (repeat' split) <;> simp
      omega
  have h3:=h2 (D5 l)
  unfold H8; omega
theorem un_len (l:List UInt8):(unL l).length≤4 * l.length:=by
  suffices ∀ n (l:List UInt8),l.length≤n→(unL l).length≤4 * l.length from this l.length l (Nat.le_refl _)
  intro n
  induction n with
  | zero=>intro l hl; rw [List.eq_nil_of_length_eq_zero (by omega:l.length=0)]; exact Nat.le_refl _
  | succ n ih =>
    intro l hl
    cases l with
    | nil=>exact Nat.le_refl _
    | cons b t =>
      rw [List.length_cons] at hl
      rw [unL_cons,List.length_cons]
      split
      · have:=ih t (by omega); rw [List.length_cons]; omega
      split
      · have:=ih t (by omega); rw [List.length_cons]; omega
      · have h1:=ih (t.drop (refC t).2) (by rw [List.length_drop]; omega)
        have h2:=(N4 (refC t).1).2
        rw [List.length_drop] at h1
        rw [List.length_append]; omega
end Go.Esc
namespace Go.Esc
open Go.Lib Go.Sw
def rdP (l:List UInt8):Int × Nat:=if badL l then (-1,1) else (((decodeL l).1:Int),(decodeL l).2)
theorem K3 {l:List UInt8} (h:decodeN l.length (l.getD 0 0).toNat (l.getD 1 0).toNat (l.getD 2 0).toNat (l.getD 3 0).toNat=(65533,1)):rdP l=(-1,1):=by
  have e:decodeL l=(65533,1):=by rw [decodeL_N,h]
  unfold rdP; rw [if_pos (show badL l by unfold badL; rw [e]; exact ⟨rfl,rfl⟩)]
theorem rdP_ok {l:List UInt8} {p m:Nat} (h:decodeN l.length (l.getD 0 0).toNat (l.getD 1 0).toNat (l.getD 2 0).toNat (l.getD 3 0).toNat=(p,m)) (hb:p≠65533∨m≠1):rdP l=((p:Int),m):=by
  have e:decodeL l=(p,m):=by rw [decodeL_N,h]
  unfold rdP; rw [if_neg (show ¬ badL l by unfold badL; rw [e]; dsimp only; omega),e]
def bt (s:ByteArray) (k:Nat):Nat:=(s.data.toList.getD k 0).toNat
theorem bt_eq (s:ByteArray) (k:Nat):A5 s (k:Int)=(bt s k:Int):=E7 s k
theorem K4 {n b0 b1 b2 b3:Nat} (h:¬ b0<128∧¬ (194≤b0∧b0<224∧1<n∧b1 / 64=2)∧¬ (224≤b0∧b0<240∧2<n∧b1 / 64=2∧b2 / 64=2∧2048≤b0 % 16 * 4096+b1 % 64 * 64+b2 % 64∧(b0 % 16 * 4096+b1 % 64 * 64+b2 % 64<55296∨57344≤b0 % 16 * 4096+b1 % 64 * 64+b2 % 64)) ∧
    ¬ (240≤b0∧b0<245∧3<n∧b1 / 64=2∧b2 / 64=2∧b3 / 64=2∧65536≤b0 % 8 * 262144+b1 % 64 * 4096+b2 % 64 * 64+b3 % 64∧b0 % 8 * 262144+b1 % 64 * 4096+b2 % 64 * 64+b3 % 64≤1114111)):decodeN n b0 b1 b2 b3=(65533,1):=by
  obtain ⟨h1,h2,h3,h4⟩:=h
  rcases decodeN_shape n b0 b1 b2 b3 with ⟨c,e⟩ | ⟨c1,c2,c3,cv,e⟩ | ⟨c1,c2,c3,c4,cv,cs,e⟩ | ⟨c1,c2,c3,c4,c5,cv,cw,e⟩ | e
  · exact absurd c h1
  · exact absurd ⟨by omega,by omega,c2,c3⟩ h2
  · exact absurd ⟨by omega,by omega,c2,c3,c4,cv,cs⟩ h3
  · exact absurd ⟨by omega,by omega,c2,c3,c4,c5,cv,cw⟩ h4
  · exact e
theorem dec1 {n b0 b1 b2 b3:Nat} (h:b0<128):decodeN n b0 b1 b2 b3=(b0,1):=by unfold decodeN; rw [if_pos h]
theorem dec2 {n b0 b1 b2 b3:Nat} (h:194≤b0∧b0<224∧1<n∧b1 / 64=2):decodeN n b0 b1 b2 b3=(b0 % 32 * 64+b1 % 64,2):=by
  unfold decodeN; rw [if_neg (by omega),if_pos ⟨by omega,by omega,by omega⟩,if_pos (by omega)]
theorem dec3 {n b0 b1 b2 b3:Nat} (h:224≤b0∧b0<240∧2<n∧b1 / 64=2∧b2 / 64=2∧2048≤b0 % 16 * 4096+b1 % 64 * 64+b2 % 64∧(b0 % 16 * 4096+b1 % 64 * 64+b2 % 64<55296∨57344≤b0 % 16 * 4096+b1 % 64 * 64+b2 % 64)):decodeN n b0 b1 b2 b3=(b0 % 16 * 4096+b1 % 64 * 64+b2 % 64,3):=by
  unfold decodeN; rw [if_neg (by omega),if_neg (by omega),if_pos (by omega),if_pos (by omega)]
theorem dec4 {n b0 b1 b2 b3:Nat} (h:240≤b0∧b0<245∧3<n∧b1 / 64=2∧b2 / 64=2∧b3 / 64=2∧65536≤b0 % 8 * 262144+b1 % 64 * 4096+b2 % 64 * 64+b3 % 64∧b0 % 8 * 262144+b1 % 64 * 4096+b2 % 64 * 64+b3 % 64≤1114111):decodeN n b0 b1 b2 b3=(b0 % 8 * 262144+b1 % 64 * 4096+b2 % 64 * 64+b3 % 64,4):=by
  unfold decodeN; rw [if_neg (by omega),if_neg (by omega),if_neg (by omega),if_pos (by omega),if_pos (by omega)]
theorem rdP_step (l:List UInt8) (hne:l≠[]):pts l=(rdP l).1::pts (l.drop (rdP l).2):=by
  rw [pts_step l hne]
  unfold rdP
  split
  · rename_i h; rw [h.2]
  · rfl
theorem rdP_w (l:List UInt8) (hne:l≠[]):1≤(rdP l).2∧(rdP l).2≤l.length∧-1≤(rdP l).1∧(rdP l).1≤1114111:=by
  have h1:=decodeL_width l
  have h2:=decodeL_le l hne
  have h3:=decodeL_rune l
  have h4:=List.length_pos_iff.2 hne
  unfold rdP; split <;> dsimp only <;> omega
def intV (ps:List Int):List Value:=ps.map (Value.int .i64)
theorem iv_len (ps:List Int):(intV ps).length=ps.length:=List.length_map _
theorem iv_app (a b:List Int):intV (a++b)=intV a++intV b:=List.map_append
theorem iv_at {ps:List Int} {k:Nat} (h:k<ps.length):(intV ps)[k]? = some (.int .i64 (ps.getD k 0)):=by
  unfold intV; rw [List.getElem?_map,List.getElem?_eq_getElem h]; simp [List.getD,h]
theorem getDI_get (l:List Int) {j:Nat} (h:j<l.length):l.getD j 0=l[j]:=by simp [List.getD,h]
theorem takeI (l:List Int) {k:Nat} (h:k<l.length):l.take (k+1)=l.take k++[l.getD k 0]:=by
  rw [List.take_succ_eq_append_getElem h,getDI_get _ h]
theorem memI {l:List Int} {k:Nat} (h:k<l.length):l.getD k 0∈l:=by rw [getDI_get _ h]; exact List.getElem_mem _
theorem iv_ne {ps:List Int} {k:Nat} (h:k<ps.length):intV ps≠[]:=by
  intro h0; have:=congrArg List.length h0; rw [iv_len,List.length_nil] at this; omega
theorem pts_len (l:List UInt8):(pts l).length≤l.length:=by
  have:=N6 l
  rw [runes_pts,List.length_map] at this; exact this
theorem I4 {et:TypeId} {sz:Nat} {a:Option Addr} {c:Nat} {g:Grp} {n n':Nat} {cs cs':List Value} (h:Sw.Own et sz (.slice a n c) g n cs) (hn:n=n') (hc:cs=cs'):Sw.Own et sz (.slice a n' c) g n' cs':=hn ▸ hc ▸ h
theorem dropR_ne {s:ByteArray} {q:Nat} (h:q<s.size):s.data.toList.drop q≠[]:=by
  intro h0; have:=congrArg List.length h0; rw [List.length_drop,B7,List.length_nil] at this; omega
theorem F8 (s:ByteArray) (k:Nat):(s.extract k s.size).size=s.size - k:=by rw [ByteArray.size_extract,Nat.min_self]
theorem pts_next {s:ByteArray} {i:Nat} (h:i<s.size):pts (s.data.toList.drop i)=(rdP (s.extract i s.size).data.toList).1::pts (s.data.toList.drop (i+(rdP (s.extract i s.size).data.toList).2)):=by
  rw [F4,rdP_step _ (dropR_ne h),List.drop_drop]
end Go.Esc
namespace Go.Esc
open Go.Lib Go.Sw
theorem pts_plain (l:List UInt8):pts (D5 l)=keepL l:=pts_enc0 (keep_isR l)
theorem pplain_isR (l:List UInt8):∀ p∈pts (D5 l),isR p:=by rw [pts_plain]; exact keep_isR l
theorem html_doc (l:List UInt8):(pts (D5 l)).flatMap L8=H8 l:=by rw [pts_plain,htmlL_eq]
theorem htmlP_len (p:Int):(L8 p).length≤6:=by
  have:=(N4 p).2
  unfold L8
  (repeat' split) <;> (try simp only [List.length_cons,List.length_nil]) <;> omega
theorem I1 {f:Int→List UInt8} {l:List Int} {k:Nat} (h:k<l.length):(l.take (k+1)).flatMap f=(l.take k).flatMap f++f (l.getD k 0):=by
  rw [takeI _ h,List.flatMap_append]; congr 1; simp
theorem ext_one {s:ByteArray} {k:Nat} (h:k<s.size):(s.extract k (k+1)).data.toList=[s.data.toList.getD k 0]:=by
  rw [ext_list,G0 _ (by rw [B7]; exact h),show k+1 - k=1 by omega]; rfl
theorem size_one {s:ByteArray} {k:Nat} (h:k<s.size):(s.extract k (k+1)).size=1:=by rw [ByteArray.size_extract]; omega
def digU:ByteArray:=ByteArray.mk #[48,49,50,51,52,53,54,55,56,57,65,66,67,68,69,70]
def digL:ByteArray:=ByteArray.mk #[48,49,50,51,52,53,54,55,56,57,97,98,99,100,101,102]
theorem digU_at:∀ n:Fin 16,digU.data.toList.getD n.val 0=hexU n.val:=by decide +kernel
theorem digL_at:∀ n:Fin 16,digL.data.toList.getD n.val 0=hexl n.val:=by decide +kernel
theorem extU {a b:Int} (h0:0≤a) (h1:a<16) (hb:b=a+1):((ByteArray.mk #[48,49,50,51,52,53,54,55,56,57,65,66,67,68,69,70]).extract (Int.toNat a) (Int.toNat b)).data.toList=[hexU a.toNat]:=by
  subst hb
  rw [show Int.toNat (a+1)=a.toNat+1 by omega,ext_one (show a.toNat<16 by omega)]
  exact congrArg (fun x=>[x]) (digU_at ⟨a.toNat,by omega⟩)
theorem extL {a b:Int} (h0:0≤a) (h1:a<16) (hb:b=a+1):((ByteArray.mk #[48,49,50,51,52,53,54,55,56,57,97,98,99,100,101,102]).extract (Int.toNat a) (Int.toNat b)).data.toList=[hexl a.toNat]:=by
  subst hb
  rw [show Int.toNat (a+1)=a.toNat+1 by omega,ext_one (show a.toNat<16 by omega)]
  exact congrArg (fun x=>[x]) (digL_at ⟨a.toNat,by omega⟩)
theorem sizeU {a b:Int} (h0:0≤a) (h1:a<16) (hb:b=a+1):((ByteArray.mk #[48,49,50,51,52,53,54,55,56,57,65,66,67,68,69,70]).extract (Int.toNat a) (Int.toNat b)).size=1:=by
  rw [← B7,extU h0 h1 hb]; rfl
theorem sizeL {a b:Int} (h0:0≤a) (h1:a<16) (hb:b=a+1):((ByteArray.mk #[48,49,50,51,52,53,54,55,56,57,97,98,99,100,101,102]).extract (Int.toNat a) (Int.toNat b)).size=1:=by
  rw [← B7,extL h0 h1 hb]; rfl
theorem pc_doc {b:UInt8} (h:unresI (b.toNat:Int)=false):pcB b=[37,hexU (b.toNat / 16),hexU (b.toNat % 16)]:=by unfold pcB; rw [h]; rfl
theorem hex4_doc {p:Int} (h:0≤p):hex4 p.toNat=[hexl (p / 4096 % 16).toNat,hexl (p / 256 % 16).toNat,hexl (p / 16 % 16).toNat,hexl (p / 1 % 16).toNat]:=by
  unfold hex4
  rw [show p.toNat / 4096 % 16=(p / 4096 % 16).toNat by omega,show p.toNat / 256 % 16=(p / 256 % 16).toNat by omega,show p.toNat / 16 % 16=(p / 16 % 16).toNat by omega,show p.toNat % 16=(p / 1 % 16).toNat by omega]
theorem fd12 (x:Int):Int.fdiv x (2 ^ 12)=x / 4096:=by rw [Int.fdiv_eq_ediv_of_nonneg _ (by decide)]; rfl
theorem fd8 (x:Int):Int.fdiv x (2 ^ 8)=x / 256:=by rw [Int.fdiv_eq_ediv_of_nonneg _ (by decide)]; rfl
theorem fd4 (x:Int):Int.fdiv x (2 ^ 4)=x / 16:=by rw [Int.fdiv_eq_ediv_of_nonneg _ (by decide)]; rfl
theorem fd0 (x:Int):Int.fdiv x (2 ^ 0)=x / 1:=by rw [Int.fdiv_eq_ediv_of_nonneg _ (by decide)]; rfl
end Go.Esc
namespace Go.Proofs.YtbnfbffiehoapaaGreatDoor
open Go.Sw Go.Sha Go.Esc Go.RowKit
theorem w8i {x:Int} (h0:0≤x) (h1:x<256):IntKind.wrap .u8 x=x:=by rw [w8m]; omega
theorem is_ (n:Int) (W0:World) (H:List Grp):Tri Tryz.prog 40 #[.int .i64 n] W0 H (fun v H'=>v=.bool (isB n)∧H'=H):=by
 refine D1 (args:=[.int .i64 n]) (n:=17) Tryz.func40 rfl rfl (Nat.le_of_ble_eq_true rfl) ?_
 refine A1 (B3 (E':=[⟨0,[],.int .i64 n⟩]) [0] [0] (k:=?_))
 refine A0 (A1 ?_)
 refine G_p [0,0,0,0,0,6,0,0,0,0,0,0,5,6,0] [2] (k:=A0 ?_)
 refine B6 (B5 [.tmp 2] [.bool (((decide (n ≥ 0))&&(decide (n≤1114111)))&&((decide (n<55296))||(decide (n > 57343))))] (k:=?_))
 exact ⟨by unfold isB; rfl,rfl⟩
theorem read_ (s:ByteArray) (h0:0<s.size) (hs:s.size≤1000000000000) (W0:World) (H:List Grp):Tri Tryz.prog 45 #[.string s] W0 H (fun v H'=>v=.tuple #[.int .i64 (rdP s.data.toList).1,.int .i64 ((rdP s.data.toList).2:Int)]∧H'=H):=by
 have e0:=bt_eq s 0
 have e1:=bt_eq s 1
 have e2:=bt_eq s 2
 have e3:=bt_eq s 3
 have g0:bt s 0<256:=UInt8.toNat_lt _
 have g1:bt s 1<256:=UInt8.toNat_lt _
 have g2:bt s 2<256:=UInt8.toNat_lt _
 have g3:bt s 3<256:=UInt8.toNat_lt _
 have hl:=B7 s
 simp only [Int.cast_ofNat_Int] at e0 e1 e2 e3
 refine D1 (args:=[.string s]) (n:=77) Tryz.func45 rfl rfl (Nat.le_of_ble_eq_true rfl) ?_
 refine A1 (B3 (E':=[⟨0,[],.string s⟩]) [0,0] [0] (k:=?_))
 refine A0 (A1 ?_)
 refine A2 (A6 (j:=1) [0] (k:=?_))
 refine C0 (ch:=[]) (s:=s) (kd:=.i64) (j:=0) (hb:=(fun _=>by omega)) (k:=?_)
 have hb1:=C7 s 0
 refine A6 (j:=3) [0] (k:=C3 11 (A5 s 0) (by omega) (by omega) kr ?_)
 refine B0 [0] [0,4] (k:=A0 ?_)
 refine A1 (G_p [0,0] [0,4] (k:=?_))
 refine A0 (A1 ?_)
 refine B4 (A1 ?_)
 refine G_p [0,0,0] [0,4,12] (k:=A0 ?_)
 refine B1 (b:=decide ((A5 s 0)<128)) kr (fun hc3=>?_) (fun hc3=>?_)
 ·
  simp only [decide_eq_true_eq] at hc3
  refine A1 (G_p [0,0,0] [2,3] (k:=?_))
  refine A0 (B6 ?_)
  refine A9 (A3 ?_)
  refine B5 [.tmp 2,.tmp 3] [.int .i64 (A5 s 0),.int .i64 1] (k:=?_)
  exact ⟨by rw [rdP_ok (l:=s.data.toList) (dec1 (b0:=bt s 0) (b1:=bt s 1) (b2:=bt s 2) (b3:=bt s 3) (by (try rw [hl]); omega)) (by omega)]; exact congrArg (fun x=>Value.tuple #[.int .i64 x,.int .i64 1]) (by omega),rfl⟩
 ·
  simp only [decide_eq_false_iff_not] at hc3
  refine A1 (G_p [0,0,0,0,0,6,0] [0,4,16] (k:=?_))
  refine A0 (B1 (b:=(decide ((A5 s 0) ≥ 194))&&(decide ((A5 s 0)<224))) kr (fun hc4=>?_) (fun hc4=>?_))
  ·
   simp only [Bool.and_eq_true,decide_eq_true_eq,ge_iff_le] at hc4
   refine A2 (A6 (j:=2) [0,0] (k:=?_))
   refine C3 24 ((A5 s 0) - 192) (by omega) (by omega) kr (B0 [0,0,0] [0,4,5,6] (k:=?_))
   refine B2 (A0 ?_)
   refine A1 (A1 ?_)
   refine B3 (E':=[⟨0,[],.string s⟩,⟨4,[],.int .i64 ((A5 s 0) - 192)⟩,⟨5,[],.int .i64 2⟩,⟨6,[],.int .i64 128⟩,⟨46,[],.bool (decide ((s.size:Int)<2))⟩]) [0,0,0,0] [0,4,5,6,46] (k:=A0 ?_)
   refine B1 (b:=decide ((s.size:Int)<2)) kr (fun hc6=>?_) (fun hc6=>?_)
   ·
    simp only [decide_eq_true_eq] at hc6
    refine A1 (G_p [0,0] [2,3] (k:=?_))
    refine A0 (B6 ?_)
    refine A3 (B5 [.tmp 2,.tmp 3] [.int .i64 (-1),.int .i64 1] (k:=?_))
    exact ⟨by rw [K3 (l:=s.data.toList) (K4 (b0:=bt s 0) (b1:=bt s 1) (b2:=bt s 2) (b3:=bt s 3) (by rw [hl]; omega))]; rfl,rfl⟩
   ·
    simp only [decide_eq_false_iff_not] at hc6
    refine A7 (A0 ?_)
    refine A1 (A1 ?_)
    refine G_p [0] [0,4,5,6,7] (k:=A0 ?_)
    refine B4 (L9 4 ?_)
    refine E4 (A1 ?_)
    refine A1 (G_p [0,0,0] [0,4,5,6,7,49] (k:=?_))
    refine A0 (C6 kr ?_)
    refine A7 (A0 ?_)
    refine A1 (B4 ?_)
    refine A1 (A2 ?_)
    refine A6 (j:=2) [0,0] (k:=C0 (ch:=[]) (s:=s) (kd:=.i64) (j:=1) (hb:=(fun _=>by omega)) (k:=?_))
    have hb7:=C7 s 1
    refine A6 (j:=4) [0] (k:=C3 55 (A5 s 1) (by omega) (by omega) kr ?_)
    refine B0 [0] [0,4,5,6,7,8] (k:=A0 ?_)
    refine A1 (A1 ?_)
    refine G_p [0,0,0,0,0,5] [0,4,5,6,7,8,61] (k:=A0 ?_)
    refine B1 (b:=(decide ((A5 s 1)<128))||(decide ((A5 s 1) ≥ 192))) kr (fun hc9=>?_) (fun hc9=>?_)
    ·
     simp only [Bool.or_eq_true,decide_eq_true_eq,ge_iff_le] at hc9
     refine A1 (G_p [0,0] [2,3] (k:=?_))
     refine A0 (B6 ?_)
     refine A3 (A9 ?_)
     refine A3 (A3 ?_)
     refine A9 (A3 ?_)
     refine B5 [.tmp 2,.tmp 3] [.int .i64 (-1),.int .i64 1] (k:=?_)
     exact ⟨by rw [K3 (l:=s.data.toList) (K4 (b0:=bt s 0) (b1:=bt s 1) (b2:=bt s 2) (b3:=bt s 3) (by rw [hl]; omega))]; rfl,rfl⟩
    ·
     simp only [Bool.or_eq_false_iff,decide_eq_false_iff_not,ge_iff_le] at hc9
     refine A7 (A0 ?_)
     refine A2 (A6 (j:=2) [0,0] (k:=?_))
     refine C3 63 (64 * ((A5 s 0) - 192)) (by omega) (by omega) kr (A6 (j:=4) [0,0] (k:=?_))
     refine C3 65 ((64 * ((A5 s 0) - 192))+(A5 s 1)) (by omega) (by omega) kr (A6 (j:=5) [0] (k:=?_))
     refine C3 66 (((64 * ((A5 s 0) - 192))+(A5 s 1)) - 128) (by omega) (by omega) kr (B0 [0] [0,4,5,6,7] (k:=?_))
     refine B2 (A0 ?_)
     refine B3 (E':=[⟨0,[],.string s⟩,⟨4,[],.int .i64 (((64 * ((A5 s 0) - 192))+(A5 s 1)) - 128)⟩,⟨5,[],.int .i64 2⟩,⟨6,[],.int .i64 128⟩,⟨7,[],.int .i64 2⟩]) [0,0,0] [0,4,5,6,7] (k:=N_rd ?_)
     refine E4 (A1 ?_)
     refine A1 (G_p [0,0,0] [0,4,5,6,7,49] (k:=?_))
     refine A0 (D7 kr ?_)
     refine F7 (A8 ?_)
     refine A8 (C2 ?_)
     refine A0 (A1 ?_)
     refine A1 (A2 ?_)
     refine A6 (j:=5) [0,0,0,0,0] (k:=F6 (ch:=[(70,false)]) (f:=40) (fst:=#[]) (caps:=#[]) (vs:=[.int .i64 (((64 * ((A5 s 0) - 192))+(A5 s 1)) - 128)]) (v:=.bool (isB (((64 * ((A5 s 0) - 192))+(A5 s 1)) - 128))) (hf:=Tryz.func40) (hc:=(fun hc=>is_ (((64 * ((A5 s 0) - 192))+(A5 s 1)) - 128) _ _)) (k:=?_))
     refine B0 [0,5] [4,5,74] (k:=A0 ?_)
     refine B1 (b:=(decide ((((64 * ((A5 s 0) - 192))+(A5 s 1)) - 128)<128))||(!(isB (((64 * ((A5 s 0) - 192))+(A5 s 1)) - 128)))) kr (fun hc13=>?_) (fun hc13=>?_)
     ·
      simp only [Bool.or_eq_true,Bool.not_eq_true',decide_eq_true_eq,isBf_iff,isR] at hc13
      refine A1 (G_p [0,0] [2,3] (k:=?_))
      refine A0 (B6 ?_)
      refine A3 (B5 [.tmp 2,.tmp 3] [.int .i64 (-1),.int .i64 1] (k:=?_))
      exact ⟨by rw [K3 (l:=s.data.toList) (K4 (b0:=bt s 0) (b1:=bt s 1) (b2:=bt s 2) (b3:=bt s 3) (by rw [hl]; omega))]; rfl,rfl⟩
     ·
      simp only [Bool.or_eq_false_iff,Bool.not_eq_false',decide_eq_false_iff_not,isB_iff,isR] at hc13
      refine A7 (A0 ?_)
      refine A1 (G_p [0,0,0,0] [2,3] (k:=?_))
      refine A0 (B6 ?_)
      refine B5 [.tmp 2,.tmp 3] [.int .i64 (((64 * ((A5 s 0) - 192))+(A5 s 1)) - 128),.int .i64 2] (k:=?_)
      exact ⟨by rw [rdP_ok (l:=s.data.toList) (dec2 (b0:=bt s 0) (b1:=bt s 1) (b2:=bt s 2) (b3:=bt s 3) (by (try rw [hl]); omega)) (by omega)]; exact congrArg (fun x=>Value.tuple #[.int .i64 x,.int .i64 2]) (by omega),rfl⟩
  ·
   simp only [Bool.and_eq_false_iff,decide_eq_false_iff_not,ge_iff_le] at hc4
   refine A1 (G_p [0,0,0,0,0,6,0] [0,4,25] (k:=?_))
   refine A0 (B1 (b:=(decide ((A5 s 0) ≥ 224))&&(decide ((A5 s 0)<240))) kr (fun hc14=>?_) (fun hc14=>?_))
   ·
    simp only [Bool.and_eq_true,decide_eq_true_eq,ge_iff_le] at hc14
    refine A2 (A6 (j:=2) [0,0] (k:=?_))
    refine C3 33 ((A5 s 0) - 224) (by omega) (by omega) kr (B8 (E':=[⟨0,[],.string s⟩,⟨4,[],.int .i64 ((A5 s 0) - 224)⟩,⟨5,[],.int .i64 3⟩,⟨6,[],.int .i64 2048⟩]) [0,0,0] [0,4,5,6] (k:=?_))
    refine B2 (A0 ?_)
    refine A1 (A1 ?_)
    refine G_p [0,0,0,0] [0,4,5,6,46] (k:=A0 ?_)
    refine B1 (b:=decide ((s.size:Int)<3)) kr (fun hc16=>?_) (fun hc16=>?_)
    ·
     simp only [decide_eq_true_eq] at hc16
     refine A1 (G_p [0,0] [2,3] (k:=?_))
     refine A0 (B6 ?_)
     refine A3 (B5 [.tmp 2,.tmp 3] [.int .i64 (-1),.int .i64 1] (k:=?_))
     exact ⟨by rw [K3 (l:=s.data.toList) (K4 (b0:=bt s 0) (b1:=bt s 1) (b2:=bt s 2) (b3:=bt s 3) (by rw [hl]; omega))]; rfl,rfl⟩
    ·
     simp only [decide_eq_false_iff_not] at hc16
     refine A7 (A0 ?_)
     refine A1 (A1 ?_)
     refine G_p [0] [0,4,5,6,7] (k:=A0 ?_)
     refine B4 (L9 4 ?_)
     refine E4 (A1 ?_)
     refine A1 (G_p [0,0,0] [0,4,5,6,7,49] (k:=?_))
     refine A0 (C6 kr ?_)
     refine A7 (A0 ?_)
     refine A1 (B4 ?_)
     refine A1 (A2 ?_)
     refine A6 (j:=2) [0,0] (k:=C0 (ch:=[]) (s:=s) (kd:=.i64) (j:=1) (hb:=(fun _=>by omega)) (k:=?_))
     have hb17:=C7 s 1
     refine A6 (j:=4) [0] (k:=C3 55 (A5 s 1) (by omega) (by omega) kr ?_)
     refine B0 [0] [0,4,5,6,7,8] (k:=A0 ?_)
     refine A1 (A1 ?_)
     refine G_p [0,0,0,0,0,5] [0,4,5,6,7,8,61] (k:=A0 ?_)
     refine B1 (b:=(decide ((A5 s 1)<128))||(decide ((A5 s 1) ≥ 192))) kr (fun hc19=>?_) (fun hc19=>?_)
     ·
      simp only [Bool.or_eq_true,decide_eq_true_eq,ge_iff_le] at hc19
      refine A1 (B3 (E':=[⟨2,[],.int .i64 (-1)⟩,⟨3,[],.int .i64 1⟩]) [0,0] [2,3] (k:=?_))
      refine A0 (B6 ?_)
      refine A3 (A9 ?_)
      refine A3 (A3 ?_)
      refine A9 (A3 ?_)
      refine B5 [.tmp 2,.tmp 3] [.int .i64 (-1),.int .i64 1] (k:=?_)
      exact ⟨by rw [K3 (l:=s.data.toList) (K4 (b0:=bt s 0) (b1:=bt s 1) (b2:=bt s 2) (b3:=bt s 3) (by rw [hl]; omega))]; rfl,rfl⟩
     ·
      simp only [Bool.or_eq_false_iff,decide_eq_false_iff_not,ge_iff_le] at hc19
      refine A7 (A0 ?_)
      refine A2 (A6 (j:=2) [0,0] (k:=?_))
      refine C3 63 (64 * ((A5 s 0) - 224)) (by omega) (by omega) kr (A6 (j:=4) [0,0] (k:=?_))
      refine C3 65 ((64 * ((A5 s 0) - 224))+(A5 s 1)) (by omega) (by omega) kr (A6 (j:=5) [0] (k:=?_))
      refine C3 66 (((64 * ((A5 s 0) - 224))+(A5 s 1)) - 128) (by omega) (by omega) kr (B8 (E':=[⟨0,[],.string s⟩,⟨4,[],.int .i64 (((64 * ((A5 s 0) - 224))+(A5 s 1)) - 128)⟩,⟨5,[],.int .i64 3⟩,⟨6,[],.int .i64 2048⟩,⟨7,[],.int .i64 1⟩]) [0] [0,4,5,6,7] (k:=?_))
      refine B2 (A0 ?_)
      refine G_p [0,0,0] [0,4,5,6,7] (k:=N_rd ?_)
      refine E4 (A1 ?_)
      refine A1 (G_p [0,0,0] [0,4,5,6,7,49] (k:=?_))
      refine A0 (C6 kr ?_)
      refine A7 (A0 ?_)
      refine A1 (B4 ?_)
      refine A1 (A2 ?_)
      refine A6 (j:=2) [0,0] (k:=C0 (ch:=[]) (s:=s) (kd:=.i64) (j:=2) (hb:=(fun _=>by omega)) (k:=?_))
      have hb23:=C7 s 2
      refine A6 (j:=4) [0] (k:=C3 55 (A5 s 2) (by omega) (by omega) kr ?_)
      refine B0 [0] [0,4,5,6,7,8] (k:=A0 ?_)
      refine A1 (A1 ?_)
      refine G_p [0,0,0,0,0,5] [0,4,5,6,7,8,61] (k:=A0 ?_)
      refine B1 (b:=(decide ((A5 s 2)<128))||(decide ((A5 s 2) ≥ 192))) kr (fun hc25=>?_) (fun hc25=>?_)
      ·
       simp only [Bool.or_eq_true,decide_eq_true_eq,ge_iff_le] at hc25
       refine A1 (G_p [0,0] [2,3] (k:=?_))
       refine A0 (B6 ?_)
       refine A3 (A9 ?_)
       refine A3 (A3 ?_)
       refine A9 (A3 ?_)
       refine B5 [.tmp 2,.tmp 3] [.int .i64 (-1),.int .i64 1] (k:=?_)
       exact ⟨by rw [K3 (l:=s.data.toList) (K4 (b0:=bt s 0) (b1:=bt s 1) (b2:=bt s 2) (b3:=bt s 3) (by rw [hl]; omega))]; rfl,rfl⟩
      ·
       simp only [Bool.or_eq_false_iff,decide_eq_false_iff_not,ge_iff_le] at hc25
       refine A7 (A0 ?_)
       refine A2 (A6 (j:=2) [0,0] (k:=?_))
       refine C3 63 (64 * (((64 * ((A5 s 0) - 224))+(A5 s 1)) - 128)) (by omega) (by omega) kr (A6 (j:=4) [0,0] (k:=?_))
       refine C3 65 ((64 * (((64 * ((A5 s 0) - 224))+(A5 s 1)) - 128))+(A5 s 2)) (by omega) (by omega) kr (A6 (j:=5) [0] (k:=?_))
       refine C3 66 (((64 * (((64 * ((A5 s 0) - 224))+(A5 s 1)) - 128))+(A5 s 2)) - 128) (by omega) (by omega) kr (B0 [0] [0,4,5,6,7] (k:=?_))
       refine B2 (A0 ?_)
       refine B3 (E':=[⟨0,[],.string s⟩,⟨4,[],.int .i64 (((64 * (((64 * ((A5 s 0) - 224))+(A5 s 1)) - 128))+(A5 s 2)) - 128)⟩,⟨5,[],.int .i64 3⟩,⟨6,[],.int .i64 2048⟩,⟨7,[],.int .i64 3⟩]) [0,0,0] [0,4,5,6,7] (k:=N_rd ?_)
       refine E4 (A1 ?_)
       refine A1 (G_p [0,0,0] [0,4,5,6,7,49] (k:=?_))
       refine A0 (D7 kr ?_)
       refine F7 (A8 ?_)
       refine A8 (C2 ?_)
       refine A0 (A1 ?_)
       refine A1 (A2 ?_)
       refine A6 (j:=5) [0,0,0,0,0] (k:=F6 (ch:=[(70,false)]) (f:=40) (fst:=#[]) (caps:=#[]) (vs:=[.int .i64 (((64 * (((64 * ((A5 s 0) - 224))+(A5 s 1)) - 128))+(A5 s 2)) - 128)]) (v:=.bool (isB (((64 * (((64 * ((A5 s 0) - 224))+(A5 s 1)) - 128))+(A5 s 2)) - 128))) (hf:=Tryz.func40) (hc:=(fun hc=>is_ (((64 * (((64 * ((A5 s 0) - 224))+(A5 s 1)) - 128))+(A5 s 2)) - 128) _ _)) (k:=?_))
       refine B0 [0,5] [4,5,74] (k:=A0 ?_)
       refine B1 (b:=(decide ((((64 * (((64 * ((A5 s 0) - 224))+(A5 s 1)) - 128))+(A5 s 2)) - 128)<2048))||(!(isB (((64 * (((64 * ((A5 s 0) - 224))+(A5 s 1)) - 128))+(A5 s 2)) - 128)))) kr (fun hc29=>?_) (fun hc29=>?_)
       ·
        simp only [Bool.or_eq_true,Bool.not_eq_true',decide_eq_true_eq,isBf_iff,isR] at hc29
        refine A1 (G_p [0,0] [2,3] (k:=?_))
        refine A0 (B6 ?_)
        refine A3 (B5 [.tmp 2,.tmp 3] [.int .i64 (-1),.int .i64 1] (k:=?_))
        exact ⟨by rw [K3 (l:=s.data.toList) (K4 (b0:=bt s 0) (b1:=bt s 1) (b2:=bt s 2) (b3:=bt s 3) (by rw [hl]; omega))]; rfl,rfl⟩
       ·
        simp only [Bool.or_eq_false_iff,Bool.not_eq_false',decide_eq_false_iff_not,isB_iff,isR] at hc29
        refine A7 (A0 ?_)
        refine A1 (G_p [0,0,0,0] [2,3] (k:=?_))
        refine A0 (B6 ?_)
        refine B5 [.tmp 2,.tmp 3] [.int .i64 (((64 * (((64 * ((A5 s 0) - 224))+(A5 s 1)) - 128))+(A5 s 2)) - 128),.int .i64 3] (k:=?_)
        exact ⟨by rw [rdP_ok (l:=s.data.toList) (dec3 (b0:=bt s 0) (b1:=bt s 1) (b2:=bt s 2) (b3:=bt s 3) (by (try rw [hl]); omega)) (by omega)]; exact congrArg (fun x=>Value.tuple #[.int .i64 x,.int .i64 3]) (by omega),rfl⟩
   ·
    simp only [Bool.and_eq_false_iff,decide_eq_false_iff_not,ge_iff_le] at hc14
    refine A1 (B3 (E':=[⟨0,[],.string s⟩,⟨4,[],.int .i64 (A5 s 0)⟩,⟨34,[],.bool ((decide ((A5 s 0) ≥ 240))&&(decide ((A5 s 0)<245)))⟩]) [0,0,0,0,0,6,0] [0,4,34] (k:=?_))
    refine A0 (B1 (b:=(decide ((A5 s 0) ≥ 240))&&(decide ((A5 s 0)<245))) kr (fun hc30=>?_) (fun hc30=>?_))
    ·
     simp only [Bool.and_eq_true,decide_eq_true_eq,ge_iff_le] at hc30
     refine A2 (A6 (j:=2) [0,0] (k:=?_))
     refine C3 42 ((A5 s 0) - 240) (by omega) (by omega) kr (B0 [0,0,0] [0,4,5,6] (k:=?_))
     refine B2 (A0 ?_)
     refine A1 (A1 ?_)
     refine G_p [0,0,0,0] [0,4,5,6,46] (k:=A0 ?_)
     refine B1 (b:=decide ((s.size:Int)<4)) kr (fun hc32=>?_) (fun hc32=>?_)
     ·
      simp only [decide_eq_true_eq] at hc32
      refine A1 (G_p [0,0] [2,3] (k:=?_))
      refine A0 (B6 ?_)
      refine A3 (B5 [.tmp 2,.tmp 3] [.int .i64 (-1),.int .i64 1] (k:=?_))
      exact ⟨by rw [K3 (l:=s.data.toList) (K4 (b0:=bt s 0) (b1:=bt s 1) (b2:=bt s 2) (b3:=bt s 3) (by rw [hl]; omega))]; rfl,rfl⟩
     ·
      simp only [decide_eq_false_iff_not] at hc32
      refine A7 (A0 ?_)
      refine A1 (A1 ?_)
      refine G_p [0] [0,4,5,6,7] (k:=A0 ?_)
      refine B4 (L9 4 ?_)
      refine E4 (A1 ?_)
      refine A1 (G_p [0,0,0] [0,4,5,6,7,49] (k:=?_))
      refine A0 (C6 kr ?_)
      refine A7 (A0 ?_)
      refine A1 (B4 ?_)
      refine A1 (A2 ?_)
      refine A6 (j:=2) [0,0] (k:=C0 (ch:=[]) (s:=s) (kd:=.i64) (j:=1) (hb:=(fun _=>by omega)) (k:=?_))
      have hb33:=C7 s 1
      refine A6 (j:=4) [0] (k:=C3 55 (A5 s 1) (by omega) (by omega) kr ?_)
      refine B0 [0] [0,4,5,6,7,8] (k:=A0 ?_)
      refine A1 (A1 ?_)
      refine B3 (E':=[⟨0,[],.string s⟩,⟨4,[],.int .i64 ((A5 s 0) - 240)⟩,⟨5,[],.int .i64 4⟩,⟨6,[],.int .i64 65536⟩,⟨7,[],.int .i64 1⟩,⟨8,[],.int .i64 (A5 s 1)⟩,⟨61,[],.bool ((decide ((A5 s 1)<128))||(decide ((A5 s 1) ≥ 192)))⟩]) [0,0,0,0,0,5] [0,4,5,6,7,8,61] (k:=A0 ?_)
      refine B1 (b:=(decide ((A5 s 1)<128))||(decide ((A5 s 1) ≥ 192))) kr (fun hc35=>?_) (fun hc35=>?_)
      ·
       simp only [Bool.or_eq_true,decide_eq_true_eq,ge_iff_le] at hc35
       refine A1 (G_p [0,0] [2,3] (k:=?_))
       refine A0 (B6 ?_)
       refine A3 (A9 ?_)
       refine A3 (A3 ?_)
       refine A9 (A3 ?_)
       refine B5 [.tmp 2,.tmp 3] [.int .i64 (-1),.int .i64 1] (k:=?_)
       exact ⟨by rw [K3 (l:=s.data.toList) (K4 (b0:=bt s 0) (b1:=bt s 1) (b2:=bt s 2) (b3:=bt s 3) (by rw [hl]; omega))]; rfl,rfl⟩
      ·
       simp only [Bool.or_eq_false_iff,decide_eq_false_iff_not,ge_iff_le] at hc35
       refine A7 (A0 ?_)
       refine A2 (A6 (j:=2) [0,0] (k:=?_))
       refine C3 63 (64 * ((A5 s 0) - 240)) (by omega) (by omega) kr (A6 (j:=4) [0,0] (k:=?_))
       refine C3 65 ((64 * ((A5 s 0) - 240))+(A5 s 1)) (by omega) (by omega) kr (A6 (j:=5) [0] (k:=?_))
       refine C3 66 (((64 * ((A5 s 0) - 240))+(A5 s 1)) - 128) (by omega) (by omega) kr (B0 [0] [0,4,5,6,7] (k:=?_))
       refine B2 (A0 ?_)
       refine G_p [0,0,0] [0,4,5,6,7] (k:=N_rd ?_)
       refine E4 (A1 ?_)
       refine A1 (G_p [0,0,0] [0,4,5,6,7,49] (k:=?_))
       refine A0 (C6 kr ?_)
       refine A7 (A0 ?_)
       refine A1 (B4 ?_)
       refine A1 (A2 ?_)
       refine A6 (j:=2) [0,0] (k:=C0 (ch:=[]) (s:=s) (kd:=.i64) (j:=2) (hb:=(fun _=>by omega)) (k:=?_))
       have hb39:=C7 s 2
       refine A6 (j:=4) [0] (k:=C3 55 (A5 s 2) (by omega) (by omega) kr ?_)
       refine B0 [0] [0,4,5,6,7,8] (k:=A0 ?_)
       refine A1 (A1 ?_)
       refine G_p [0,0,0,0,0,5] [0,4,5,6,7,8,61] (k:=A0 ?_)
       refine B1 (b:=(decide ((A5 s 2)<128))||(decide ((A5 s 2) ≥ 192))) kr (fun hc41=>?_) (fun hc41=>?_)
       ·
        simp only [Bool.or_eq_true,decide_eq_true_eq,ge_iff_le] at hc41
        refine A1 (B3 (E':=[⟨2,[],.int .i64 (-1)⟩,⟨3,[],.int .i64 1⟩]) [0,0] [2,3] (k:=?_))
        refine A0 (B6 ?_)
        refine A3 (A9 ?_)
        refine A3 (A3 ?_)
        refine A9 (A3 ?_)
        refine B5 [.tmp 2,.tmp 3] [.int .i64 (-1),.int .i64 1] (k:=?_)
        exact ⟨by rw [K3 (l:=s.data.toList) (K4 (b0:=bt s 0) (b1:=bt s 1) (b2:=bt s 2) (b3:=bt s 3) (by rw [hl]; omega))]; rfl,rfl⟩
       ·
        simp only [Bool.or_eq_false_iff,decide_eq_false_iff_not,ge_iff_le] at hc41
        refine A7 (A0 ?_)
        refine A2 (A6 (j:=2) [0,0] (k:=?_))
        refine C3 63 (64 * (((64 * ((A5 s 0) - 240))+(A5 s 1)) - 128)) (by omega) (by omega) kr (A6 (j:=4) [0,0] (k:=?_))
        refine C3 65 ((64 * (((64 * ((A5 s 0) - 240))+(A5 s 1)) - 128))+(A5 s 2)) (by omega) (by omega) kr (A6 (j:=5) [0] (k:=?_))
        refine C3 66 (((64 * (((64 * ((A5 s 0) - 240))+(A5 s 1)) - 128))+(A5 s 2)) - 128) (by omega) (by omega) kr (B8 (E':=[⟨0,[],.string s⟩,⟨4,[],.int .i64 (((64 * (((64 * ((A5 s 0) - 240))+(A5 s 1)) - 128))+(A5 s 2)) - 128)⟩,⟨5,[],.int .i64 4⟩,⟨6,[],.int .i64 65536⟩,⟨7,[],.int .i64 2⟩]) [0] [0,4,5,6,7] (k:=?_))
        refine B2 (A0 ?_)
        refine G_p [0,0,0] [0,4,5,6,7] (k:=N_rd ?_)
        refine E4 (A1 ?_)
        refine A1 (G_p [0,0,0] [0,4,5,6,7,49] (k:=?_))
        refine A0 (C6 kr ?_)
        refine A7 (A0 ?_)
        refine A1 (B4 ?_)
        refine A1 (A2 ?_)
        refine A6 (j:=2) [0,0] (k:=C0 (ch:=[]) (s:=s) (kd:=.i64) (j:=3) (hb:=(fun _=>by omega)) (k:=?_))
        have hb45:=C7 s 3
        refine A6 (j:=4) [0] (k:=C3 55 (A5 s 3) (by omega) (by omega) kr ?_)
        refine B0 [0] [0,4,5,6,7,8] (k:=A0 ?_)
        refine A1 (A1 ?_)
        refine G_p [0,0,0,0,0,5] [0,4,5,6,7,8,61] (k:=A0 ?_)
        refine B1 (b:=(decide ((A5 s 3)<128))||(decide ((A5 s 3) ≥ 192))) kr (fun hc47=>?_) (fun hc47=>?_)
        ·
         simp only [Bool.or_eq_true,decide_eq_true_eq,ge_iff_le] at hc47
         refine A1 (G_p [0,0] [2,3] (k:=?_))
         refine A0 (B6 ?_)
         refine A3 (A9 ?_)
         refine A3 (A3 ?_)
         refine A9 (A3 ?_)
         refine B5 [.tmp 2,.tmp 3] [.int .i64 (-1),.int .i64 1] (k:=?_)
         exact ⟨by rw [K3 (l:=s.data.toList) (K4 (b0:=bt s 0) (b1:=bt s 1) (b2:=bt s 2) (b3:=bt s 3) (by rw [hl]; omega))]; rfl,rfl⟩
        ·
         simp only [Bool.or_eq_false_iff,decide_eq_false_iff_not,ge_iff_le] at hc47
         refine A7 (A0 ?_)
         refine A2 (A6 (j:=2) [0,0] (k:=?_))
         refine C3 63 (64 * (((64 * (((64 * ((A5 s 0) - 240))+(A5 s 1)) - 128))+(A5 s 2)) - 128)) (by omega) (by omega) kr (A6 (j:=4) [0,0] (k:=?_))
         refine C3 65 ((64 * (((64 * (((64 * ((A5 s 0) - 240))+(A5 s 1)) - 128))+(A5 s 2)) - 128))+(A5 s 3)) (by omega) (by omega) kr (A6 (j:=5) [0] (k:=?_))
         refine C3 66 (((64 * (((64 * (((64 * ((A5 s 0) - 240))+(A5 s 1)) - 128))+(A5 s 2)) - 128))+(A5 s 3)) - 128) (by omega) (by omega) kr (B0 [0] [0,4,5,6,7] (k:=?_))
         refine B2 (A0 ?_)
         refine B3 (E':=[⟨0,[],.string s⟩,⟨4,[],.int .i64 (((64 * (((64 * (((64 * ((A5 s 0) - 240))+(A5 s 1)) - 128))+(A5 s 2)) - 128))+(A5 s 3)) - 128)⟩,⟨5,[],.int .i64 4⟩,⟨6,[],.int .i64 65536⟩,⟨7,[],.int .i64 4⟩]) [0,0,0] [0,4,5,6,7] (k:=N_rd ?_)
         refine E4 (A1 ?_)
         refine A1 (G_p [0,0,0] [0,4,5,6,7,49] (k:=?_))
         refine A0 (D7 kr ?_)
         refine F7 (A8 ?_)
         refine A8 (C2 ?_)
         refine A0 (A1 ?_)
         refine A1 (A2 ?_)
         refine A6 (j:=5) [0,0,0,0,0] (k:=F6 (ch:=[(70,false)]) (f:=40) (fst:=#[]) (caps:=#[]) (vs:=[.int .i64 (((64 * (((64 * (((64 * ((A5 s 0) - 240))+(A5 s 1)) - 128))+(A5 s 2)) - 128))+(A5 s 3)) - 128)]) (v:=.bool (isB (((64 * (((64 * (((64 * ((A5 s 0) - 240))+(A5 s 1)) - 128))+(A5 s 2)) - 128))+(A5 s 3)) - 128))) (hf:=Tryz.func40) (hc:=(fun hc=>is_ (((64 * (((64 * (((64 * ((A5 s 0) - 240))+(A5 s 1)) - 128))+(A5 s 2)) - 128))+(A5 s 3)) - 128) _ _)) (k:=?_))
         refine B0 [0,5] [4,5,74] (k:=A0 ?_)
         refine B1 (b:=(decide ((((64 * (((64 * (((64 * ((A5 s 0) - 240))+(A5 s 1)) - 128))+(A5 s 2)) - 128))+(A5 s 3)) - 128)<65536))||(!(isB (((64 * (((64 * (((64 * ((A5 s 0) - 240))+(A5 s 1)) - 128))+(A5 s 2)) - 128))+(A5 s 3)) - 128)))) kr (fun hc51=>?_) (fun hc51=>?_)
         ·
          simp only [Bool.or_eq_true,Bool.not_eq_true',decide_eq_true_eq,isBf_iff,isR] at hc51
          refine A1 (G_p [0,0] [2,3] (k:=?_))
          refine A0 (B6 ?_)
          refine A3 (B5 [.tmp 2,.tmp 3] [.int .i64 (-1),.int .i64 1] (k:=?_))
          exact ⟨by rw [K3 (l:=s.data.toList) (K4 (b0:=bt s 0) (b1:=bt s 1) (b2:=bt s 2) (b3:=bt s 3) (by rw [hl]; omega))]; rfl,rfl⟩
         ·
          simp only [Bool.or_eq_false_iff,Bool.not_eq_false',decide_eq_false_iff_not,isB_iff,isR] at hc51
          refine A7 (A0 ?_)
          refine A1 (G_p [0,0,0,0] [2,3] (k:=?_))
          refine A0 (B6 ?_)
          refine B5 [.tmp 2,.tmp 3] [.int .i64 (((64 * (((64 * (((64 * ((A5 s 0) - 240))+(A5 s 1)) - 128))+(A5 s 2)) - 128))+(A5 s 3)) - 128),.int .i64 4] (k:=?_)
          exact ⟨by rw [rdP_ok (l:=s.data.toList) (dec4 (b0:=bt s 0) (b1:=bt s 1) (b2:=bt s 2) (b3:=bt s 3) (by (try rw [hl]); omega)) (by omega)]; exact congrArg (fun x=>Value.tuple #[.int .i64 x,.int .i64 4]) (by omega),rfl⟩
    ·
     simp only [Bool.and_eq_false_iff,decide_eq_false_iff_not,ge_iff_le] at hc30
     refine A1 (G_p [0,0] [2,3] (k:=?_))
     refine A0 (B6 ?_)
     refine A9 (A3 ?_)
     refine B5 [.tmp 2,.tmp 3] [.int .i64 (-1),.int .i64 1] (k:=?_)
     exact ⟨by rw [K3 (l:=s.data.toList) (K4 (b0:=bt s 0) (b1:=bt s 1) (b2:=bt s 2) (b3:=bt s 3) (by rw [hl]; omega))]; rfl,rfl⟩
theorem one_ (p:Int) (hp:isR p) (W0:World) (H:List Grp):Tri Tryz.prog 34 #[.int .i64 p] W0 H (fun v H'=>∃ b,v=.slice (some ⟨b,0,none⟩) (Lib.encodeRune p).length (Lib.encodeRune p).length∧H'=[(b,.cells (u8s (Lib.encodeRune p)).toArray 5 (0,0))]::H):=by
 obtain ⟨hp0,hp1,hp2⟩:=hp
 refine D1 (args:=[.int .i64 p]) (n:=57) Tryz.func34 rfl rfl (Nat.le_of_ble_eq_true rfl) ?_
 refine A1 (B3 (E':=[⟨0,[],.int .i64 p⟩]) [0] [0] (k:=?_))
 refine A0 (A1 ?_)
 refine B4 (A1 ?_)
 refine G_p [0,0,0] [0,3] (k:=A0 ?_)
 refine B1 (b:=decide (p<128)) kr (fun hc1=>?_) (fun hc1=>?_)
 ·
  simp only [decide_eq_true_eq] at hc1
  refine A1 (A2 ?_)
  refine C1 (E':=[⟨7,[],.int .u8 (IntKind.wrap .u8 p)⟩]) (j:=2) [0,0] (k:=C8 (E':=[⟨7,[],.int .u8 p⟩]) (by rw [w8i (x:=p) (by omega) (by omega)]) ?_)
  refine D0 (ch:=[]) (e:=5) (l:=[(0,.int .u8 p)]) (c:=[.int .u8 p]) (k:=(fun b2=>?_))
  refine B0 [0] [2] (k:=A0 ?_)
  refine B6 (A9 ?_)
  refine A3 (B5 [.tmp 2] [.slice (some ⟨b2,0,none⟩) 1 1] (k:=?_))
  exact ⟨b2,by rw [show (Lib.encodeRune p).length=1 by unfold Lib.encodeRune; rw [Lib.encodeRuneZ_one (r:=p) (by omega) (by omega)]; rfl]; rfl,by rw [N9,Lib.encodeRuneZ_one (r:=p) (by omega) (by omega)]; rfl⟩
 ·
  simp only [decide_eq_false_iff_not] at hc1
  refine A1 (G_p [0,0,0] [0,9] (k:=?_))
  refine A0 (B1 (b:=decide (p<2048)) kr (fun hc3=>?_) (fun hc3=>?_))
  ·
   simp only [decide_eq_true_eq] at hc3
   refine A1 (A2 ?_)
   refine A6 (j:=2) [0,0] (k:=?_)
   have hw4:IntKind.wrap .i64 (Int.tdiv p 64)=p / 64:=q64 (by omega) (by omega) (by decide)
   refine GL_w 13 hw4 kr (A6 (j:=3) [0] (k:=?_))
   refine C3 14 (192+(p / 64)) (by omega) (by omega) kr (C1 (E':=[⟨15,[],.int .u8 (IntKind.wrap .u8 (192+(p / 64)))⟩,⟨0,[],.int .i64 p⟩]) (j:=4) [0] (k:=?_))
   refine C8 (E':=[⟨15,[],.int .u8 (192+(p / 64))⟩,⟨0,[],.int .i64 p⟩]) (by rw [w8i (x:=(192+(p / 64))) (by omega) (by omega)]) (A6 (j:=6) [0,0] (k:=?_))
   have hw6:Int.tmod p 64=p % 64:=r64 (by omega)
   refine GL_w 17 hw6 kr (A6 (j:=7) [0] (k:=?_))
   refine C3 18 (128+(p % 64)) (by omega) (by omega) kr (C1 (E':=[⟨19,[],.int .u8 (IntKind.wrap .u8 (128+(p % 64)))⟩,⟨15,[],.int .u8 (192+(p / 64))⟩]) (j:=8) [0] (k:=?_))
   refine C8 (E':=[⟨19,[],.int .u8 (128+(p % 64))⟩,⟨15,[],.int .u8 (192+(p / 64))⟩]) (by rw [w8i (x:=(128+(p % 64))) (by omega) (by omega)]) (D0 (ch:=[]) (e:=5) (l:=[(0,.int .u8 (192+(p / 64))),(1,.int .u8 (128+(p % 64)))]) (c:=[.int .u8 (192+(p / 64)),.int .u8 (128+(p % 64))]) (k:=(fun b8=>?_)))
   refine B0 [0] [2] (k:=A0 ?_)
   refine B6 (A9 ?_)
   refine A3 (B5 [.tmp 2] [.slice (some ⟨b8,0,none⟩) 2 2] (k:=?_))
   exact ⟨b8,by rw [show (Lib.encodeRune p).length=2 by unfold Lib.encodeRune; rw [Lib.encodeRuneZ_two (r:=p) (by omega) (by omega)]; rfl]; rfl,by rw [N9,Lib.encodeRuneZ_two (r:=p) (by omega) (by omega)]; rfl⟩
  ·
   simp only [decide_eq_false_iff_not] at hc3
   refine A1 (G_p [0,0,0] [0,21] (k:=?_))
   refine A0 (B1 (b:=decide (p<65536)) kr (fun hc9=>?_) (fun hc9=>?_))
   ·
    simp only [decide_eq_true_eq] at hc9
    refine A1 (A2 ?_)
    refine A6 (j:=2) [0,0] (k:=?_)
    have hw10:IntKind.wrap .i64 (Int.tdiv p 4096)=p / 4096:=q64 (by omega) (by omega) (by decide)
    refine GL_w 25 hw10 kr (A6 (j:=3) [0] (k:=?_))
    refine C3 26 (224+(p / 4096)) (by omega) (by omega) kr (C1 (E':=[⟨27,[],.int .u8 (IntKind.wrap .u8 (224+(p / 4096)))⟩,⟨0,[],.int .i64 p⟩]) (j:=4) [0] (k:=?_))
    refine C8 (E':=[⟨27,[],.int .u8 (224+(p / 4096))⟩,⟨0,[],.int .i64 p⟩]) (by rw [w8i (x:=(224+(p / 4096))) (by omega) (by omega)]) (A6 (j:=6) [0,0] (k:=?_))
    have hw12:IntKind.wrap .i64 (Int.tdiv p 64)=p / 64:=q64 (by omega) (by omega) (by decide)
    refine GL_w 29 hw12 kr (A6 (j:=7) [0] (k:=?_))
    have hw13:Int.tmod (p / 64) 64=(p / 64) % 64:=r64 (by omega)
    refine GL_w 30 hw13 kr (A6 (j:=8) [0] (k:=?_))
    refine C3 31 (128+((p / 64) % 64)) (by omega) (by omega) kr (C1 (E':=[⟨32,[],.int .u8 (IntKind.wrap .u8 (128+((p / 64) % 64)))⟩,⟨27,[],.int .u8 (224+(p / 4096))⟩,⟨0,[],.int .i64 p⟩]) (j:=9) [0] (k:=?_))
    refine C8 (E':=[⟨32,[],.int .u8 (128+((p / 64) % 64))⟩,⟨27,[],.int .u8 (224+(p / 4096))⟩,⟨0,[],.int .i64 p⟩]) (by rw [w8i (x:=(128+((p / 64) % 64))) (by omega) (by omega)]) (A6 (j:=11) [0,0] (k:=?_))
    have hw15:Int.tmod p 64=p % 64:=r64 (by omega)
    refine GL_w 34 hw15 kr (A6 (j:=12) [0] (k:=?_))
    refine C3 35 (128+(p % 64)) (by omega) (by omega) kr (C1 (E':=[⟨36,[],.int .u8 (IntKind.wrap .u8 (128+(p % 64)))⟩,⟨32,[],.int .u8 (128+((p / 64) % 64))⟩,⟨27,[],.int .u8 (224+(p / 4096))⟩]) (j:=13) [0] (k:=?_))
    refine C8 (E':=[⟨36,[],.int .u8 (128+(p % 64))⟩,⟨32,[],.int .u8 (128+((p / 64) % 64))⟩,⟨27,[],.int .u8 (224+(p / 4096))⟩]) (by rw [w8i (x:=(128+(p % 64))) (by omega) (by omega)]) (D0 (ch:=[]) (e:=5) (l:=[(0,.int .u8 (224+(p / 4096))),(1,.int .u8 (128+((p / 64) % 64))),(2,.int .u8 (128+(p % 64)))]) (c:=[.int .u8 (224+(p / 4096)),.int .u8 (128+((p / 64) % 64)),.int .u8 (128+(p % 64))]) (k:=(fun b17=>?_)))
    refine B0 [0] [2] (k:=A0 ?_)
    refine B6 (A9 ?_)
    refine A3 (B5 [.tmp 2] [.slice (some ⟨b17,0,none⟩) 3 3] (k:=?_))
    exact ⟨b17,by rw [show (Lib.encodeRune p).length=3 by unfold Lib.encodeRune; rw [Lib.encodeRuneZ_three (r:=p) (by omega)]; rfl]; rfl,by rw [N9,Lib.encodeRuneZ_three (r:=p) (by omega)]; rfl⟩
   ·
    simp only [decide_eq_false_iff_not] at hc9
    refine A7 (B2 ?_)
    refine A0 (A1 ?_)
    refine A2 (A6 (j:=2) [0,0] (k:=?_))
    have hw18:IntKind.wrap .i64 (Int.tdiv p 262144)=p / 262144:=q64 (by omega) (by omega) (by decide)
    refine GL_w 39 hw18 kr (A6 (j:=3) [0] (k:=?_))
    refine C3 40 (240+(p / 262144)) (by omega) (by omega) kr (C1 (E':=[⟨41,[],.int .u8 (IntKind.wrap .u8 (240+(p / 262144)))⟩,⟨0,[],.int .i64 p⟩]) (j:=4) [0] (k:=?_))
    refine C8 (E':=[⟨41,[],.int .u8 (240+(p / 262144))⟩,⟨0,[],.int .i64 p⟩]) (by rw [w8i (x:=(240+(p / 262144))) (by omega) (by omega)]) (A6 (j:=6) [0,0] (k:=?_))
    have hw20:IntKind.wrap .i64 (Int.tdiv p 4096)=p / 4096:=q64 (by omega) (by omega) (by decide)
    refine GL_w 43 hw20 kr (A6 (j:=7) [0] (k:=?_))
    have hw21:Int.tmod (p / 4096) 64=(p / 4096) % 64:=r64 (by omega)
    refine GL_w 44 hw21 kr (A6 (j:=8) [0] (k:=?_))
    refine C3 45 (128+((p / 4096) % 64)) (by omega) (by omega) kr (C1 (E':=[⟨46,[],.int .u8 (IntKind.wrap .u8 (128+((p / 4096) % 64)))⟩,⟨41,[],.int .u8 (240+(p / 262144))⟩,⟨0,[],.int .i64 p⟩]) (j:=9) [0] (k:=?_))
    refine C8 (E':=[⟨46,[],.int .u8 (128+((p / 4096) % 64))⟩,⟨41,[],.int .u8 (240+(p / 262144))⟩,⟨0,[],.int .i64 p⟩]) (by rw [w8i (x:=(128+((p / 4096) % 64))) (by omega) (by omega)]) (A6 (j:=11) [0,0] (k:=?_))
    have hw23:IntKind.wrap .i64 (Int.tdiv p 64)=p / 64:=q64 (by omega) (by omega) (by decide)
    refine GL_w 48 hw23 kr (A6 (j:=12) [0] (k:=?_))
    have hw24:Int.tmod (p / 64) 64=(p / 64) % 64:=r64 (by omega)
    refine GL_w 49 hw24 kr (A6 (j:=13) [0] (k:=?_))
    refine C3 50 (128+((p / 64) % 64)) (by omega) (by omega) kr (C1 (E':=[⟨51,[],.int .u8 (IntKind.wrap .u8 (128+((p / 64) % 64)))⟩,⟨46,[],.int .u8 (128+((p / 4096) % 64))⟩,⟨41,[],.int .u8 (240+(p / 262144))⟩,⟨0,[],.int .i64 p⟩]) (j:=14) [0] (k:=?_))
    refine C8 (E':=[⟨51,[],.int .u8 (128+((p / 64) % 64))⟩,⟨46,[],.int .u8 (128+((p / 4096) % 64))⟩,⟨41,[],.int .u8 (240+(p / 262144))⟩,⟨0,[],.int .i64 p⟩]) (by rw [w8i (x:=(128+((p / 64) % 64))) (by omega) (by omega)]) (A6 (j:=16) [0,0] (k:=?_))
    have hw26:Int.tmod p 64=p % 64:=r64 (by omega)
    refine GL_w 53 hw26 kr (A6 (j:=17) [0] (k:=?_))
    refine C3 54 (128+(p % 64)) (by omega) (by omega) kr (C1 (E':=[⟨55,[],.int .u8 (IntKind.wrap .u8 (128+(p % 64)))⟩,⟨51,[],.int .u8 (128+((p / 64) % 64))⟩,⟨46,[],.int .u8 (128+((p / 4096) % 64))⟩,⟨41,[],.int .u8 (240+(p / 262144))⟩]) (j:=18) [0] (k:=?_))
    refine C8 (E':=[⟨55,[],.int .u8 (128+(p % 64))⟩,⟨51,[],.int .u8 (128+((p / 64) % 64))⟩,⟨46,[],.int .u8 (128+((p / 4096) % 64))⟩,⟨41,[],.int .u8 (240+(p / 262144))⟩]) (by rw [w8i (x:=(128+(p % 64))) (by omega) (by omega)]) (D0 (ch:=[]) (e:=5) (l:=[(0,.int .u8 (240+(p / 262144))),(1,.int .u8 (128+((p / 4096) % 64))),(2,.int .u8 (128+((p / 64) % 64))),(3,.int .u8 (128+(p % 64)))]) (c:=[.int .u8 (240+(p / 262144)),.int .u8 (128+((p / 4096) % 64)),.int .u8 (128+((p / 64) % 64)),.int .u8 (128+(p % 64))]) (k:=(fun b28=>?_)))
    refine B0 [0] [2] (k:=A0 ?_)
    refine B6 (B5 [.tmp 2] [.slice (some ⟨b28,0,none⟩) 4 4] (k:=?_))
    exact ⟨b28,by rw [show (Lib.encodeRune p).length=4 by unfold Lib.encodeRune; rw [Lib.encodeRuneZ_four (r:=p) (by omega) (by omega)]; rfl]; rfl,by rw [N9,Lib.encodeRuneZ_four (r:=p) (by omega) (by omega)]; rfl⟩
theorem points_ (s:ByteArray) (hs:s.size≤1000000000) (W0:World) (H:List Grp):Tri Tryz.prog 26 #[.string s] W0 H (fun v H'=>∃ a c g,v=.slice a (pts s.data.toList).length c∧Go.Sw.Own 3 1 (.slice a (pts s.data.toList).length c) g (pts s.data.toList).length (intV (pts s.data.toList))∧H'=g::H):=by
 refine D1 (args:=[.string s]) (n:=26) Tryz.func26 rfl rfl (Nat.le_of_ble_eq_true rfl) ?_
 refine A1 (B3 (E':=[⟨0,[],.string s⟩]) [0] [0] (k:=?_))
 refine A0 (A1 ?_)
 refine G_p [0] [0,3] (k:=A0 ?_)
 refine A1 (A1 ?_)
 refine G_p [0] [0,3,4] (k:=A0 ?_)
 refine B4 (G_heap (H':=([]::H)) (fun w h=>h.flat (List.Perm.refl _)) ?_)
 refine I8 (EI:=(fun ξ:Option Addr × Nat × Grp × List Int × Nat=>[⟨0,[],.string s⟩,⟨3,[],.slice ξ.1 ξ.2.2.2.1.length ξ.2.1⟩,⟨4,[],.int .i64 ((ξ.2.2.2.2:Nat):Int)⟩])) (HI:=(fun ξ:Option Addr × Nat × Grp × List Int × Nat=>(ξ.2.2.1::H))) (Φ:=(fun ξ:Option Addr × Nat × Grp × List Int × Nat=>(Go.Sw.Own 3 1 (.slice ξ.1 ξ.2.2.2.1.length ξ.2.1) ξ.2.2.1 ξ.2.2.2.1.length (intV ξ.2.2.2.1))∧(ξ.2.2.2.2≤s.size)∧(ξ.2.2.2.1++pts (s.data.toList.drop ξ.2.2.2.2)=pts s.data.toList))) (μ:=(fun ξ:Option Addr × Nat × Grp × List Int × Nat=>s.size - ξ.2.2.2.2)) (s0:=(none,0,[],[],0)) [0,3,4] kr rfl ⟨Go.Sw.Own.nil,(by (try dsimp only); omega),rfl⟩ ?_
 rintro ⟨ra,rc,rg,l1,i⟩ ⟨hO,hi,hT⟩
 dsimp only at hO hi hT
 have hll:l1.length≤s.size:=by
  have h1:=congrArg List.length hT
  have h2:=pts_len s.data.toList
  rw [List.length_append] at h1; rw [B7] at h2; omega
 refine A1 (A1 ?_)
 refine G_p [0,0,0,0] [0,3,4,10] (k:=A0 ?_)
 refine B1 (b:=decide (((i:Nat):Int)<(s.size:Int))) kr (fun hc1=>?_) (fun hc1=>?_)
 ·
  simp only [decide_eq_true_eq] at hc1
  have hlt:i<s.size:=by omega
  have hw:=rdP_w (s.data.toList.drop i) (dropR_ne (by omega))
  rw [← F4,B7,F8] at hw
  refine A7 (A0 ?_)
  refine B4 (A1 ?_)
  refine A2 (A6 (j:=2) [0,0] (k:=?_))
  refine E8 (ch:=[]) (s:=s) (vl:=(some (.int .i64 ((i:Nat):Int)))) (vh:=none) (l:=((i:Nat):Int)) (h:=(s.size:Int)) (hb:=(fun _=>by omega)) (k:=G4 Tryz.func45 (read_ (s.extract i s.size) (by first | omega | (rw [F8]; omega)) (by first | omega | (rw [F8]; omega)) _ _) ?_)
  refine B0 [0,0,0,0,0] [0,3,4,5,6] (k:=A0 ?_)
  refine A1 (A2 ?_)
  refine A6 (j:=2) [0,0] (k:=D0 (ch:=[]) (e:=3) (l:=[(0,.int .i64 ((rdP (s.extract i s.size).data.toList).1))]) (c:=[.int .i64 ((rdP (s.extract i s.size).data.toList).1)]) (k:=(fun b2=>?_)))
  refine F3 (i:=3) (ch:=[]) (t:=31) (tx:=31) (e:=3) (inf:=Tryz.t3) (s:=.slice ra l1.length rc) (x:=.slice (some ⟨b2,0,none⟩) 1 1) (n:=l1.length) (m:=1) (j:=1) (cs:=(intV l1)) (news:=[.int .i64 ((rdP (s.extract i s.size).data.toList).1)]) (g:=rg) (S:=(inG [(b2,.cells #[.int .i64 ((rdP (s.extract i s.size).data.toList).1)] 3 (0,0))])) rfl rfl rfl rfl kr kr kr rfl rfl (.inl ⟨3,kr⟩) (fun ⟨_,h⟩=>by cases h) (fun _=>⟨3,kr⟩) kr kr kr rfl hO (SrcOf.slice _ _ _ _ Rd.lit (fun h=>by cases h)) (D2 0 rfl) kr (by intro u hu; rcases List.mem_singleton.1 hu with rfl; rfl) (by omega) (by show (l1.length+1) * 8≤140737488355328; omega) (fun v3 g4 hO5=>?_)
  obtain ⟨a6,cap7,rfl,hcap8,hrd9⟩:=hO5.shape
  refine B0 [0] [0,3,4,6] (k:=A0 ?_)
  have hw10:IntKind.wrap .i64 (((i:Nat):Int)+((rdP (s.extract i s.size).data.toList).2:Int))=((i:Nat):Int)+((rdP (s.extract i s.size).data.toList).2:Int):=w64 (by omega) (by omega)
  refine A2 (C1 (E':=[⟨24,[],.int .i64 (((i:Nat):Int)+((rdP (s.extract i s.size).data.toList).2:Int))⟩,⟨0,[],.string s⟩,⟨3,[],.slice a6 (l1.length+1) cap7⟩,⟨4,[],.int .i64 ((i:Nat):Int)⟩]) [0,0,0] (Eq.trans (b:=some [⟨24,[],.int .i64 (IntKind.wrap .i64 (((i:Nat):Int)+((rdP (s.extract i s.size).data.toList).2:Int)))⟩,⟨0,[],.string s⟩,⟨3,[],.slice a6 (l1.length+1) cap7⟩,⟨4,[],.int .i64 ((i:Nat):Int)⟩]) kr (by simp only [hw10])) (j:=3) rfl ?_)
  refine C8 (E':=[⟨24,[],.int .i64 ((i+(rdP (s.extract i s.size).data.toList).2:Nat):Int)⟩,⟨0,[],.string s⟩,⟨3,[],.slice a6 (l1.length+1) cap7⟩,⟨4,[],.int .i64 ((i:Nat):Int)⟩]) (by rw [Int.natCast_add]) (B0 [0] [0,3,4] (k:=?_))
  refine B2 ?_
  have hln:(l1.length+1)=(l1++[((rdP (s.extract i s.size).data.toList).1)]).length:=by first | exact List.length_append.symm | (rw [List.length_append]; rfl)
  refine L5 (E':=[⟨0,[],.string s⟩,⟨3,[],.slice a6 (l1.length+1) cap7⟩,⟨4,[],.int .i64 ((i+(rdP (s.extract i s.size).data.toList).2:Nat):Int)⟩]) kr (L5 (E':=[⟨0,[],.string s⟩,⟨3,[],.slice a6 ((l1++[((rdP (s.extract i s.size).data.toList).1)]).length) cap7⟩,⟨4,[],.int .i64 ((i+(rdP (s.extract i s.size).data.toList).2:Nat):Int)⟩]) (by rw [hln]) ?_)
  refine C9 (H':=(g4::H)) (fun w h=>(h.erase 0)) (D8 (s':=(a6,cap7,g4,(l1++[((rdP (s.extract i s.size).data.toList).1)]),i+(rdP (s.extract i s.size).data.toList).2)) [0,3,4] kr rfl ⟨(I4 hO5 hln (by dsimp only; first | exact (iv_app _ _).symm | (rw [iv_app]; rfl))),(by dsimp only; omega),(by dsimp only; rw [List.append_assoc,List.singleton_append,← pts_next hlt]; exact hT)⟩ (by dsimp only; omega))
 ·
  simp only [decide_eq_false_iff_not] at hc1
  refine F7 (A8 ?_)
  refine A8 (C2 ?_)
  refine A0 (A1 ?_)
  refine B3 (E':=[⟨2,[],.slice ra l1.length rc⟩]) [0,0] [2] (k:=A0 ?_)
  refine B6 (B5 [.tmp 2] [.slice ra l1.length rc] (k:=?_))
  have he:l1=pts s.data.toList:=by rw [← hT,List.drop_eq_nil_of_le (by rw [B7]; omega)]; exact (List.append_nil _).symm
  rw [he] at hO ⊢
  exact ⟨_,_,_,rfl,hO,rfl⟩
end Go.Proofs.YtbnfbffiehoapaaGreatDoor
namespace Go.Sw
open Go.RowKit
theorem GL_bytesB {d:Bool} {P:Program} {ops:Array Oper} {i:Nat} {Q:D9} {n:Fr} {E:Env} {W0:World} {H:List Grp} {o:Oper} {ch:List (Nat × Bool)} {src dst e:TypeId} {x:Operand} {a:Option Addr} {cap:Nat} {S:Nat→Obj→Prop} (b:ByteArray)
    (ho:ops[i]? = some o:=by exact rfl) (hop:o.op=.convert src dst x:=by exact rfl) (hx:evO E ch x=some (.slice a b.size cap):=by kernel_rfl) (hs:P.underlying src=some (.slice e):=by kernel_rfl) (he:P.underlying e=some (.int .u8):=by kernel_rfl) (hds:P.underlying dst=some .string:=by kernel_rfl)
    (hch:E3 ops E o.guard=some ch:=by kernel_rfl) (hd:F9 n ch o.dst=true:=by kernel_rfl) (hk:H7 E ch=true:=by kernel_rfl)
    (hrd:Rd S a (u8s b.data.toList)) (hS:∀ b o,S b o→At W0 H b o)
    (k:GL d P ops (i+1) Q n (Env.put E o.dst ch (.string b)) W0 H):GL d P ops i Q n E W0 H:=by
  cases a with
  | some a =>
    refine H4 (cap:=cap) b.data.toList ho hop ?_ hs he hds hch hd hk hrd hS ?_
    · rw [hx,show b.data.toList.length=b.size from Array.length_toList]
    · have:(⟨b.data.toList.toArray⟩:ByteArray)=b:=by cases b; simp
      rw [this]; exact k
  | none =>
    have h0:b=ByteArray.empty:=by
      rcases hrd with h | ⟨_,_,_,_,_,h,_⟩
      · have h1:=congrArg List.length h
        unfold u8s at h1
        rw [List.length_map] at h1
        cases b with | mk d =>
        have:d=#[]:=Array.eq_empty_of_size_eq_zero (by simpa using h1)
        rw [this]; rfl
      · cases h
    refine G3 ho hch hd hk (fun r hr _ w _=>?_) k
    unfold execOp
    simp only [hop]
    rw [hr _ _ hx,h0]
    have:=run_convert_bytes_string (P:=P) w src dst e none ByteArray.empty.size cap hs he hds
    simp only [Sem.run_bind,this]
    exact ⟨rfl,rfl⟩
end Go.Sw
namespace Go.Proofs.YtbnfbffiehoapaaGreatDoor
open Go.Sw Go.Sha Go.Esc Go.RowKit
theorem text_ (a:Option Addr) (c:Nat) (ps:List Int) (S:Nat→Obj→Prop) (hrd:Rd S a (intV ps)) (hps:∀ p∈ps,isR p) (hl:ps.length≤1000000000) (W0:World) (H:List Grp) (hS:∀ y o,S y o→At W0 H y o):Tri Tryz.prog 19 #[.slice a ps.length c] W0 H (fun v H'=>v=.string ⟨(encL ps).toArray⟩∧H'=H):=by
 refine D1 (args:=[.slice a ps.length c]) (n:=19) Tryz.func19 rfl rfl (Nat.le_of_ble_eq_true rfl) ?_
 refine A1 (B3 (E':=[⟨0,[],.slice a ps.length c⟩]) [0] [0] (k:=?_))
 refine A0 (A1 ?_)
 refine G_p [0] [0,3] (k:=A0 ?_)
 refine A1 (A1 ?_)
 refine G_p [0,0,0] [3,6,7,8] (k:=A0 ?_)
 refine B4 (G_heap (H':=([]::H)) (fun w h=>h.flat (List.Perm.refl _)) ?_)
 refine I8 (EI:=(fun ξ:Option Addr × Nat × Grp × List UInt8 × Nat=>[⟨3,[],.slice ξ.1 ξ.2.2.2.1.length ξ.2.1⟩,⟨6,[],.slice a ps.length c⟩,⟨7,[],.int .i64 ((ps.length:Nat):Int)⟩,⟨8,[],.int .i64 ((ξ.2.2.2.2:Nat):Int)⟩])) (HI:=(fun ξ:Option Addr × Nat × Grp × List UInt8 × Nat=>(ξ.2.2.1::H))) (Φ:=(fun ξ:Option Addr × Nat × Grp × List UInt8 × Nat=>(Go.Sw.Own 5 1 (.slice ξ.1 ξ.2.2.2.1.length ξ.2.1) ξ.2.2.1 ξ.2.2.2.1.length (u8s ξ.2.2.2.1))∧(ξ.2.2.2.2≤ps.length)∧(ξ.2.2.2.1=encL (ps.take ξ.2.2.2.2)))) (μ:=(fun ξ:Option Addr × Nat × Grp × List UInt8 × Nat=>ps.length - ξ.2.2.2.2)) (s0:=(none,0,[],[],0)) [3,6,7,8] kr rfl ⟨Go.Sw.Own.nil,(by (try dsimp only); omega),rfl⟩ ?_
 rintro ⟨ra,rc,rg,l1,k⟩ ⟨hO,hk,hT⟩
 dsimp only at hO hk hT
 have hll:l1.length≤4 * ps.length:=by
  rw [hT]; have:=encL_len (ps.take k); rw [List.length_take] at this; omega
 refine A1 (G_p [0] [3,6,7,8,9] (k:=?_))
 refine A0 (A1 ?_)
 refine B1 (b:=decide (((k:Nat):Int)<((ps.length:Nat):Int))) kr (fun hc1=>?_) (fun hc1=>?_)
 ·
  simp only [decide_eq_true_eq] at hc1
  have hlt:k<ps.length:=by omega
  have hel:=N4 (ps.getD k 0)
  refine A7 (A0 ?_)
  refine A1 (B4 ?_)
  refine A1 (A2 ?_)
  refine C4 (ch:=[]) (a:=a) (len:=ps.length) (cap:=c) (kd:=.i64) (j:=((k:Nat):Int)) (e:=3) (sz:=1) (S:=S) (cs:=(intV ps)) (hrd:=hrd) (hb:=(fun _=>by exact ⟨by omega,by omega,iv_ne (by omega)⟩)) (k:=E6 (ch:=[]) (a:=a) (q:=k * 1) (S:=S) (cs:=(intV ps)) (v:=.int .i64 (ps.getD k 0)) (hrd:=hrd) (hS:=(fun y o h=>(At.cons (hS y o h)))) (hv:=(fun _=>(by rw [Nat.mul_one]; exact iv_at (ps:=ps) (k:=k) (by omega)))) (k:=?_))
  refine B0 [0] [3,5,6,7,8] (k:=A0 ?_)
  refine A2 (A6 (j:=2) [0,0] (k:=?_))
  refine F2 (vs:=[.int .i64 (ps.getD k 0)]) Tryz.func34 (one_ (ps.getD k 0) (hps _ (memI hlt)) _ _) ?_
  rintro _ _ ⟨ob2,rfl,rfl⟩
  refine F3 (i:=3) (ch:=[]) (t:=37) (tx:=37) (e:=5) (inf:=Tryz.t5) (s:=.slice ra l1.length rc) (x:=.slice (some ⟨ob2,0,none⟩) ((Lib.encodeRune (ps.getD k 0)).length) ((Lib.encodeRune (ps.getD k 0)).length)) (n:=l1.length) (m:=(Lib.encodeRune (ps.getD k 0)).length) (j:=1) (cs:=(u8s l1)) (news:=(u8s (Lib.encodeRune (ps.getD k 0)))) (g:=rg) (S:=(inG [(ob2,.cells (u8s (Lib.encodeRune (ps.getD k 0))).toArray 5 (0,0))])) rfl rfl rfl rfl kr kr kr rfl rfl (.inl ⟨5,kr⟩) (fun ⟨_,h⟩=>by cases h) (fun _=>⟨5,kr⟩) kr kr kr rfl hO (SrcOf.slice _ _ _ _ Rd.lit (fun h=>by cases h)) (D2 0 rfl) (by rw [show (u8s (Lib.encodeRune _)).length=_ from List.length_map _]; exact (Nat.mul_one _).symm) Go.Sha.u8_one (by omega) (by show (l1.length+(Lib.encodeRune (ps.getD k 0)).length) * 1≤140737488355328; omega) (fun v3 g4 hO5=>?_)
  obtain ⟨a6,cap7,rfl,hcap8,hrd9⟩:=hO5.shape
  refine B0 [0] [3,6,7,8] (k:=B2 ?_)
  refine A0 (A2 ?_)
  refine A6 (j:=1) [0] (k:=C3 16 (((k:Nat):Int)+1) (by omega) (by omega) kr ?_)
  refine B0 [0] [3,6,7,8] (k:=?_)
  have hln:(l1.length+(Lib.encodeRune (ps.getD k 0)).length)=(l1++(Lib.encodeRune (ps.getD k 0))).length:=by first | exact List.length_append.symm | (rw [List.length_append]; rfl)
  refine L5 (E':=[⟨3,[],.slice a6 (l1.length+(Lib.encodeRune (ps.getD k 0)).length) cap7⟩,⟨6,[],.slice a ps.length c⟩,⟨7,[],.int .i64 ((ps.length:Nat):Int)⟩,⟨8,[],.int .i64 (((k:Nat):Int)+1)⟩]) kr (L5 (E':=[⟨3,[],.slice a6 ((l1++(Lib.encodeRune (ps.getD k 0))).length) cap7⟩,⟨6,[],.slice a ps.length c⟩,⟨7,[],.int .i64 ((ps.length:Nat):Int)⟩,⟨8,[],.int .i64 (((k:Nat):Int)+1)⟩]) (by rw [hln]) ?_)
  refine C9 (H':=(g4::H)) (fun w h=>(h.erase 0)) (D8 (s':=(a6,cap7,g4,(l1++(Lib.encodeRune (ps.getD k 0))),k+1)) [3,6,7,8] kr rfl ⟨(I4 hO5 hln (by dsimp only; first | exact (Go.Sha.u8s_append _ _).symm | (rw [Go.Sha.u8s_append]; rfl))),(by (try dsimp only); omega),(by dsimp only; rw [takeI _ hlt,encL_app,← hT]; congr 1; exact (List.append_nil _).symm)⟩ (by (try dsimp only); omega))
 ·
  simp only [decide_eq_false_iff_not] at hc1
  refine F7 (A8 ?_)
  refine A8 (C2 ?_)
  refine A0 (A1 ?_)
  refine A2 (A6 (j:=1) [0] (k:=?_))
  refine GL_bytesB (ch:=[]) (a:=ra) (cap:=rc) (e:=5) (S:=(inG rg)) (bk l1) (hrd:=M7 hO) (hS:=D2 0 rfl) (k:=B8 (E':=[⟨2,[],.string (bk l1)⟩]) [0] [2] (k:=?_))
  refine A0 (B6 ?_)
  refine C9 (H':=H) (fun w h=>(h.erase 0)) (B5 [.tmp 2] [.string (bk l1)] (k:=?_))
  exact ⟨congrArg Value.string (by rw [hT,List.take_of_length_le (by omega)]),rfl⟩
theorem fixed_ (s:ByteArray) (hs:s.size≤1000000000) (W0:World) (H:List Grp):Tri Tryz.prog 20 #[.string s] W0 H (fun v H'=>∃ a c g,v=.slice a (A4 s.data.toList).length c∧Go.Sw.Own 3 1 (.slice a (A4 s.data.toList).length c) g (A4 s.data.toList).length (intV (A4 s.data.toList))∧H'=g::H):=by
 refine D1 (args:=[.string s]) (n:=21) Tryz.func20 rfl rfl (Nat.le_of_ble_eq_true rfl) ?_
 refine A1 (B3 (E':=[⟨0,[],.string s⟩]) [0] [0] (k:=?_))
 refine A0 (A1 ?_)
 refine G_p [0] [0,3] (k:=A0 ?_)
 refine A1 (A1 ?_)
 refine A2 (A6 (j:=1) [0] (k:=?_))
 refine F2 Tryz.func26 (points_ s (by omega) _ _) ?_
 rintro _ _ ⟨iap0,icp0,igp0,rfl,iOp0,rfl⟩
 refine B0 [0,0] [3,7,8,9] (k:=A0 ?_)
 refine B4 (G_heap (H':=([]::igp0::H)) (fun w h=>h.flat (List.Perm.refl _)) ?_)
 refine I8 (EI:=(fun ξ:Option Addr × Nat × Grp × List Int × Nat=>[⟨3,[],.slice ξ.1 ξ.2.2.2.1.length ξ.2.1⟩,⟨7,[],.slice iap0 ((pts s.data.toList).length) icp0⟩,⟨8,[],.int .i64 (((pts s.data.toList).length:Nat):Int)⟩,⟨9,[],.int .i64 ((ξ.2.2.2.2:Nat):Int)⟩])) (HI:=(fun ξ:Option Addr × Nat × Grp × List Int × Nat=>(ξ.2.2.1::igp0::H))) (Φ:=(fun ξ:Option Addr × Nat × Grp × List Int × Nat=>(Go.Sw.Own 3 1 (.slice ξ.1 ξ.2.2.2.1.length ξ.2.1) ξ.2.2.1 ξ.2.2.2.1.length (intV ξ.2.2.2.1))∧(ξ.2.2.2.2≤(pts s.data.toList).length)∧(ξ.2.2.2.1=((pts s.data.toList).take ξ.2.2.2.2).map fixP))) (μ:=(fun ξ:Option Addr × Nat × Grp × List Int × Nat=>(pts s.data.toList).length - ξ.2.2.2.2)) (s0:=(none,0,[],[],0)) [3,7,8,9] kr rfl ⟨Go.Sw.Own.nil,(by (try dsimp only); omega),rfl⟩ ?_
 rintro ⟨ra,rc,rg,l1,k⟩ ⟨hO,hk,hT⟩
 dsimp only at hO hk hT
 have hpl:=pts_len s.data.toList
 rw [B7] at hpl
 have hll:l1.length≤s.size:=by
  rw [hT,List.length_map,List.length_take]; omega
 refine A1 (G_p [0] [3,7,8,9,10] (k:=?_))
 refine A0 (A1 ?_)
 refine B1 (b:=decide (((k:Nat):Int)<(((pts s.data.toList).length:Nat):Int))) kr (fun hc2=>?_) (fun hc2=>?_)
 ·
  simp only [decide_eq_true_eq] at hc2
  have hlt:k<(pts s.data.toList).length:=by omega
  refine A7 (A0 ?_)
  refine A1 (B4 ?_)
  refine A1 (A2 ?_)
  refine C4 (ch:=[]) (a:=iap0) (len:=(pts s.data.toList).length) (cap:=icp0) (kd:=.i64) (j:=((k:Nat):Int)) (e:=3) (sz:=1) (S:=(inG igp0)) (cs:=(intV (pts s.data.toList))) (hrd:=M7 iOp0) (hb:=(fun _=>by exact ⟨by omega,by omega,iv_ne (by omega)⟩)) (k:=E6 (ch:=[]) (a:=iap0) (q:=k * 1) (S:=(inG igp0)) (cs:=(intV (pts s.data.toList))) (v:=.int .i64 ((pts s.data.toList).getD k 0)) (hrd:=M7 iOp0) (hS:=D2 1 rfl) (hv:=(fun _=>(by rw [Nat.mul_one]; exact iv_at (ps:=(pts s.data.toList)) (k:=k) (by omega)))) (k:=?_))
  refine B0 [0] [3,5,7,8,9] (k:=A0 ?_)
  refine A1 (A1 ?_)
  refine G_p [0,0] [3,5,7,8,9,14] (k:=A0 ?_)
  refine B1 (b:=decide (((pts s.data.toList).getD k 0)<0)) kr (fun hc3=>?_) (fun hc3=>?_)
  ·
   simp only [decide_eq_true_eq] at hc3
   refine G_p [0] [3,5,7,8,9] (k:=A0 ?_)
   refine A2 (A6 (j:=2) [0,0] (k:=?_))
   refine D0 (ch:=[]) (e:=3) (l:=[(0,.int .i64 65533)]) (c:=[.int .i64 65533]) (k:=(fun b4=>?_))
   refine F3 (i:=3) (ch:=[]) (t:=31) (tx:=31) (e:=3) (inf:=Tryz.t3) (s:=.slice ra l1.length rc) (x:=.slice (some ⟨b4,0,none⟩) 1 1) (n:=l1.length) (m:=1) (j:=1) (cs:=(intV l1)) (news:=[.int .i64 65533]) (g:=rg) (S:=(inG [(b4,.cells #[.int .i64 65533] 3 (0,0))])) rfl rfl rfl rfl kr kr kr rfl rfl (.inl ⟨3,kr⟩) (fun ⟨_,h⟩=>by cases h) (fun _=>⟨3,kr⟩) kr kr kr rfl hO (SrcOf.slice _ _ _ _ Rd.lit (fun h=>by cases h)) (D2 0 rfl) kr (by intro u hu; rcases List.mem_singleton.1 hu with rfl; rfl) (by omega) (by show (l1.length+1) * 8≤140737488355328; omega) (fun v5 g6 hO7=>?_)
   obtain ⟨a8,cap9,rfl,hcap10,hrd11⟩:=hO7.shape
   refine B0 [0] [3,7,8,9] (k:=B2 ?_)
   refine A0 (A2 ?_)
   refine A6 (j:=1) [0] (k:=C3 19 (((k:Nat):Int)+1) (by omega) (by omega) kr ?_)
   refine B8 (E':=[⟨3,[],.slice a8 (l1.length+1) cap9⟩,⟨7,[],.slice iap0 ((pts s.data.toList).length) icp0⟩,⟨8,[],.int .i64 (((pts s.data.toList).length:Nat):Int)⟩,⟨9,[],.int .i64 (((k:Nat):Int)+1)⟩]) [0] [3,7,8,9] (k:=?_)
   have hln:(l1.length+1)=(l1++[65533]).length:=by first | exact List.length_append.symm | (rw [List.length_append]; rfl)
   refine L5 (E':=[⟨3,[],.slice a8 ((l1++[65533]).length) cap9⟩,⟨7,[],.slice iap0 ((pts s.data.toList).length) icp0⟩,⟨8,[],.int .i64 (((pts s.data.toList).length:Nat):Int)⟩,⟨9,[],.int .i64 (((k:Nat):Int)+1)⟩]) (by rw [hln]) (C9 (H':=(g6::igp0::H)) (fun w h=>(h.erase 0)) ?_)
   refine D8 (s':=(a8,cap9,g6,(l1++[65533]),k+1)) [3,7,8,9] kr rfl ⟨(I4 hO7 hln (by dsimp only; first | exact (iv_app _ _).symm | (rw [iv_app]; rfl))),(by (try dsimp only); omega),(by dsimp only; rw [takeI _ hlt,List.map_append,← hT]; unfold fixP; simp only [List.map_cons,List.map_nil]; first | rw [if_pos (by omega)] | rw [if_neg (by omega)])⟩ (by (try dsimp only); omega)
  ·
   simp only [decide_eq_false_iff_not] at hc3
   refine A7 (A0 ?_)
   refine A2 (A6 (j:=2) [0,0] (k:=?_))
   refine D0 (ch:=[]) (e:=3) (l:=[(0,.int .i64 ((pts s.data.toList).getD k 0))]) (c:=[.int .i64 ((pts s.data.toList).getD k 0)]) (k:=(fun b13=>?_))
   refine F3 (i:=3) (ch:=[]) (t:=31) (tx:=31) (e:=3) (inf:=Tryz.t3) (s:=.slice ra l1.length rc) (x:=.slice (some ⟨b13,0,none⟩) 1 1) (n:=l1.length) (m:=1) (j:=1) (cs:=(intV l1)) (news:=[.int .i64 ((pts s.data.toList).getD k 0)]) (g:=rg) (S:=(inG [(b13,.cells #[.int .i64 ((pts s.data.toList).getD k 0)] 3 (0,0))])) rfl rfl rfl rfl kr kr kr rfl rfl (.inl ⟨3,kr⟩) (fun ⟨_,h⟩=>by cases h) (fun _=>⟨3,kr⟩) kr kr kr rfl hO (SrcOf.slice _ _ _ _ Rd.lit (fun h=>by cases h)) (D2 0 rfl) kr (by intro u hu; rcases List.mem_singleton.1 hu with rfl; rfl) (by omega) (by show (l1.length+1) * 8≤140737488355328; omega) (fun v14 g15 hO16=>?_)
   obtain ⟨a17,cap18,rfl,hcap19,hrd20⟩:=hO16.shape
   refine B0 [0] [3,7,8,9] (k:=B2 ?_)
   refine A0 (A2 ?_)
   refine A6 (j:=1) [0] (k:=C3 19 (((k:Nat):Int)+1) (by omega) (by omega) kr ?_)
   refine B0 [0] [3,7,8,9] (k:=?_)
   have hln:(l1.length+1)=(l1++[((pts s.data.toList).getD k 0)]).length:=by first | exact List.length_append.symm | (rw [List.length_append]; rfl)
   refine L5 (E':=[⟨3,[],.slice a17 (l1.length+1) cap18⟩,⟨7,[],.slice iap0 ((pts s.data.toList).length) icp0⟩,⟨8,[],.int .i64 (((pts s.data.toList).length:Nat):Int)⟩,⟨9,[],.int .i64 (((k:Nat):Int)+1)⟩]) kr (L5 (E':=[⟨3,[],.slice a17 ((l1++[((pts s.data.toList).getD k 0)]).length) cap18⟩,⟨7,[],.slice iap0 ((pts s.data.toList).length) icp0⟩,⟨8,[],.int .i64 (((pts s.data.toList).length:Nat):Int)⟩,⟨9,[],.int .i64 (((k:Nat):Int)+1)⟩]) (by rw [hln]) ?_)
   refine C9 (H':=(g15::igp0::H)) (fun w h=>(h.erase 0)) (D8 (s':=(a17,cap18,g15,(l1++[((pts s.data.toList).getD k 0)]),k+1)) [3,7,8,9] kr rfl ⟨(I4 hO16 hln (by dsimp only; first | exact (iv_app _ _).symm | (rw [iv_app]; rfl))),(by (try dsimp only); omega),(by dsimp only; rw [takeI _ hlt,List.map_append,← hT]; unfold fixP; simp only [List.map_cons,List.map_nil]; first | rw [if_pos (by omega)] | rw [if_neg (by omega)])⟩ (by (try dsimp only); omega))
 ·
  simp only [decide_eq_false_iff_not] at hc2
  refine F7 (A8 ?_)
  refine A8 (C2 ?_)
  refine A0 (A1 ?_)
  refine B3 (E':=[⟨2,[],.slice ra l1.length rc⟩]) [0,0] [2] (k:=A0 ?_)
  refine B6 (C9 (H':=(rg::H)) (fun w h=>(h.erase 1)) ?_)
  refine B5 [.tmp 2] [.slice ra l1.length rc] (k:=?_)
  have he:l1=A4 s.data.toList:=by rw [hT,List.take_of_length_le (by omega),runes_pts]
  rw [he] at hO ⊢
  exact ⟨_,_,_,rfl,hO,rfl⟩
theorem valid_no {l:List UInt8} {k:Nat} (h:k<(pts l).length) (hn:(pts l).getD k 0<0):G9 l=false:=by
  unfold G9
  rw [List.all_eq_false]
  exact ⟨_,memI h,by rw [decide_eq_true_eq]; omega⟩
theorem rvalid_ (s:ByteArray) (hs:s.size≤1000000000) (W0:World) (H:List Grp):Tri Tryz.prog 38 #[.string s] W0 H (fun v H'=>v=.bool (G9 s.data.toList)∧H'=H):=by
 have hpl:=pts_len s.data.toList
 rw [B7] at hpl
 refine D1 (args:=[.string s]) (n:=15) Tryz.func38 rfl rfl (Nat.le_of_ble_eq_true rfl) ?_
 refine A1 (B3 (E':=[⟨0,[],.string s⟩]) [0] [0] (k:=?_))
 refine A0 (A1 ?_)
 refine A1 (A2 ?_)
 refine A6 (j:=1) [0] (k:=F2 Tryz.func26 (points_ s (by omega) _ _) ?_)
 rintro _ _ ⟨iap0,icp0,igp0,rfl,iOp0,rfl⟩
 refine B0 [0,0] [6,7,8] (k:=A0 ?_)
 refine B4 (I8 (EI:=(fun ξ:Nat=>[⟨6,[],.slice iap0 ((pts s.data.toList).length) icp0⟩,⟨7,[],.int .i64 (((pts s.data.toList).length:Nat):Int)⟩,⟨8,[],.int .i64 ((ξ:Nat):Int)⟩])) (HI:=(fun ξ:Nat=>(igp0::H))) (Φ:=(fun ξ:Nat=>(ξ≤(pts s.data.toList).length)∧(((pts s.data.toList).take ξ).all (fun p=>decide (0≤p))=true))) (μ:=(fun ξ:Nat=>(pts s.data.toList).length - ξ)) (s0:=(0)) [6,7,8] kr rfl ⟨(by omega),rfl⟩ ?_)
 rintro k ⟨hk,hT⟩
 refine A1 (G_p [0] [6,7,8,9] (k:=?_))
 refine A0 (A1 ?_)
 refine B1 (b:=decide (((k:Nat):Int)<(((pts s.data.toList).length:Nat):Int))) kr (fun hc2=>?_) (fun hc2=>?_)
 ·
  simp only [decide_eq_true_eq] at hc2
  have hlt:k<(pts s.data.toList).length:=by omega
  refine A7 (A0 ?_)
  refine A1 (B4 ?_)
  refine A1 (A2 ?_)
  refine C4 (ch:=[]) (a:=iap0) (len:=(pts s.data.toList).length) (cap:=icp0) (kd:=.i64) (j:=((k:Nat):Int)) (e:=3) (sz:=1) (S:=(inG igp0)) (cs:=(intV (pts s.data.toList))) (hrd:=M7 iOp0) (hb:=(fun _=>by exact ⟨by omega,by omega,iv_ne (by omega)⟩)) (k:=E6 (ch:=[]) (a:=iap0) (q:=k * 1) (S:=(inG igp0)) (cs:=(intV (pts s.data.toList))) (v:=.int .i64 ((pts s.data.toList).getD k 0)) (hrd:=M7 iOp0) (hS:=D2 0 rfl) (hv:=(fun _=>(by rw [Nat.mul_one]; exact iv_at (ps:=(pts s.data.toList)) (k:=k) (by omega)))) (k:=?_))
  refine B0 [0] [4,6,7,8] (k:=A0 ?_)
  refine A1 (G_p [0,0] [6,7,8,13] (k:=?_))
  refine A0 (B1 (b:=decide (((pts s.data.toList).getD k 0)<0)) kr (fun hc3=>?_) (fun hc3=>?_))
  ·
   simp only [decide_eq_true_eq] at hc3
   refine A1 (B3 (E':=[⟨2,[],.bool false⟩]) [0] [2] (k:=?_))
   refine A0 (B6 ?_)
   refine A9 (A3 ?_)
   refine A3 (A9 ?_)
   refine A3 (C9 (H':=H) (fun w h=>(h.erase 0)) ?_)
   refine B5 [.tmp 2] [.bool false] (k:=?_)
   exact ⟨congrArg Value.bool (valid_no hlt (by omega)).symm,rfl⟩
  ·
   simp only [decide_eq_false_iff_not] at hc3
   refine A7 (B2 ?_)
   refine A0 (A2 ?_)
   refine A6 (j:=1) [0] (k:=C3 14 (((k:Nat):Int)+1) (by omega) (by omega) kr ?_)
   refine B0 [0] [6,7,8] (k:=D8 (s':=(k+1)) [6,7,8] kr rfl ⟨(by omega),(by rw [takeI _ hlt,List.all_append,hT]; simp only [List.all_cons,List.all_nil,Bool.true_and,Bool.and_true,decide_eq_true_eq]; omega)⟩ (by omega))
 ·
  simp only [decide_eq_false_iff_not] at hc2
  refine F7 (A8 ?_)
  refine A8 (C2 ?_)
  refine A0 (A1 ?_)
  refine B3 (E':=[⟨2,[],.bool true⟩]) [0] [2] (k:=A0 ?_)
  refine B6 (C9 (H':=H) (fun w h=>(h.erase 0)) ?_)
  refine B5 [.tmp 2] [.bool true] (k:=?_)
  exact ⟨congrArg Value.bool (by unfold G9; rw [List.take_of_length_le (by omega)] at hT; exact hT.symm),rfl⟩
theorem rplain_ (s:ByteArray) (hs:s.size≤1000000000) (W0:World) (H:List Grp):Tri Tryz.prog 18 #[.string s] W0 H (fun v H'=>v=.string ⟨(D5 s.data.toList).toArray⟩∧H'=H):=by
 refine D1 (args:=[.string s]) (n:=42) Tryz.func18 rfl rfl (Nat.le_of_ble_eq_true rfl) ?_
 refine A1 (B3 (E':=[⟨0,[],.string s⟩]) [0] [0] (k:=?_))
 refine A0 (A1 ?_)
 refine G_p [0] [0,3] (k:=A0 ?_)
 refine A1 (A1 ?_)
 refine A2 (A6 (j:=1) [0] (k:=?_))
 refine F2 Tryz.func20 (fixed_ s (by omega) _ _) ?_
 rintro _ _ ⟨iaf0,icf0,igf0,rfl,iOf0,rfl⟩
 refine B0 [0,0] [3,7,8,9] (k:=A0 ?_)
 refine B4 (G_heap (H':=([]::igf0::H)) (fun w h=>h.flat (List.Perm.refl _)) ?_)
 refine I8 (EI:=(fun ξ:Option Addr × Nat × Grp × List Int × Nat=>[⟨3,[],.slice ξ.1 ξ.2.2.2.1.length ξ.2.1⟩,⟨7,[],.slice iaf0 ((A4 s.data.toList).length) icf0⟩,⟨8,[],.int .i64 (((A4 s.data.toList).length:Nat):Int)⟩,⟨9,[],.int .i64 ((ξ.2.2.2.2:Nat):Int)⟩])) (HI:=(fun ξ:Option Addr × Nat × Grp × List Int × Nat=>(ξ.2.2.1::igf0::H))) (Φ:=(fun ξ:Option Addr × Nat × Grp × List Int × Nat=>(Go.Sw.Own 3 1 (.slice ξ.1 ξ.2.2.2.1.length ξ.2.1) ξ.2.2.1 ξ.2.2.2.1.length (intV ξ.2.2.2.1))∧(ξ.2.2.2.2≤(A4 s.data.toList).length)∧(ξ.2.2.2.1=((A4 s.data.toList).take ξ.2.2.2.2).filter plainR))) (μ:=(fun ξ:Option Addr × Nat × Grp × List Int × Nat=>(A4 s.data.toList).length - ξ.2.2.2.2)) (s0:=(none,0,[],[],0)) [3,7,8,9] kr rfl ⟨Go.Sw.Own.nil,(by (try dsimp only); omega),rfl⟩ ?_
 rintro ⟨ra,rc,rg,l1,k⟩ ⟨hO,hk,hT⟩
 dsimp only at hO hk hT
 have hpn:=N6 s.data.toList
 rw [B7] at hpn
 have hll:l1.length≤s.size:=by
  have h1:=List.length_filter_le plainR ((A4 s.data.toList).take k)
  rw [← hT,List.length_take] at h1; omega
 refine A1 (G_p [0] [3,7,8,9,10] (k:=?_))
 refine A0 (A1 ?_)
 refine B1 (b:=decide (((k:Nat):Int)<(((A4 s.data.toList).length:Nat):Int))) kr (fun hc2=>?_) (fun hc2=>?_)
 ·
  simp only [decide_eq_true_eq] at hc2
  have hlt:k<(A4 s.data.toList).length:=by omega
  refine A7 (A0 ?_)
  refine A1 (B4 ?_)
  refine A1 (A2 ?_)
  refine C4 (ch:=[]) (a:=iaf0) (len:=(A4 s.data.toList).length) (cap:=icf0) (kd:=.i64) (j:=((k:Nat):Int)) (e:=3) (sz:=1) (S:=(inG igf0)) (cs:=(intV (A4 s.data.toList))) (hrd:=M7 iOf0) (hb:=(fun _=>by exact ⟨by omega,by omega,iv_ne (by omega)⟩)) (k:=E6 (ch:=[]) (a:=iaf0) (q:=k * 1) (S:=(inG igf0)) (cs:=(intV (A4 s.data.toList))) (v:=.int .i64 ((A4 s.data.toList).getD k 0)) (hrd:=M7 iOf0) (hS:=D2 1 rfl) (hv:=(fun _=>(by rw [Nat.mul_one]; exact iv_at (ps:=(A4 s.data.toList)) (k:=k) (by omega)))) (k:=?_))
  refine B0 [0] [3,5,7,8,9] (k:=A0 ?_)
  refine A1 (G_p [0,0,0,0,0,6,0,0,0,6,0,0,0,5,0,0,0,5,0,0,0,5] [3,5,7,8,9,34] (k:=?_))
  refine A0 (B1 (b:=(((((decide (((A4 s.data.toList).getD k 0) ≥ 32))&&(((A4 s.data.toList).getD k 0) != 65534))&&(((A4 s.data.toList).getD k 0) != 65535))||(((A4 s.data.toList).getD k 0)==9))||(((A4 s.data.toList).getD k 0)==10))||(((A4 s.data.toList).getD k 0)==13)) kr (fun hc3=>?_) (fun hc3=>?_))
  ·
   have hpl:plainR ((A4 s.data.toList).getD k 0)=true:=hc3
   refine A2 (A6 (j:=2) [0,0] (k:=?_))
   refine D0 (ch:=[]) (e:=3) (l:=[(0,.int .i64 ((A4 s.data.toList).getD k 0))]) (c:=[.int .i64 ((A4 s.data.toList).getD k 0)]) (k:=(fun b4=>?_))
   refine F3 (i:=3) (ch:=[]) (t:=31) (tx:=31) (e:=3) (inf:=Tryz.t3) (s:=.slice ra l1.length rc) (x:=.slice (some ⟨b4,0,none⟩) 1 1) (n:=l1.length) (m:=1) (j:=1) (cs:=(intV l1)) (news:=[.int .i64 ((A4 s.data.toList).getD k 0)]) (g:=rg) (S:=(inG [(b4,.cells #[.int .i64 ((A4 s.data.toList).getD k 0)] 3 (0,0))])) rfl rfl rfl rfl kr kr kr rfl rfl (.inl ⟨3,kr⟩) (fun ⟨_,h⟩=>by cases h) (fun _=>⟨3,kr⟩) kr kr kr rfl hO (SrcOf.slice _ _ _ _ Rd.lit (fun h=>by cases h)) (D2 0 rfl) kr (by intro u hu; rcases List.mem_singleton.1 hu with rfl; rfl) (by omega) (by show (l1.length+1) * 8≤140737488355328; omega) (fun v5 g6 hO7=>?_)
   obtain ⟨a8,cap9,rfl,hcap10,hrd11⟩:=hO7.shape
   refine B0 [0] [3,7,8,9] (k:=B2 ?_)
   refine A0 (A2 ?_)
   refine A6 (j:=1) [0] (k:=C3 39 (((k:Nat):Int)+1) (by omega) (by omega) kr ?_)
   refine B0 [0] [3,7,8,9] (k:=?_)
   have hln:(l1.length+1)=(l1++[((A4 s.data.toList).getD k 0)]).length:=by first | exact List.length_append.symm | (rw [List.length_append]; rfl)
   refine L5 (E':=[⟨3,[],.slice a8 (l1.length+1) cap9⟩,⟨7,[],.slice iaf0 ((A4 s.data.toList).length) icf0⟩,⟨8,[],.int .i64 (((A4 s.data.toList).length:Nat):Int)⟩,⟨9,[],.int .i64 (((k:Nat):Int)+1)⟩]) kr (L5 (E':=[⟨3,[],.slice a8 ((l1++[((A4 s.data.toList).getD k 0)]).length) cap9⟩,⟨7,[],.slice iaf0 ((A4 s.data.toList).length) icf0⟩,⟨8,[],.int .i64 (((A4 s.data.toList).length:Nat):Int)⟩,⟨9,[],.int .i64 (((k:Nat):Int)+1)⟩]) (by rw [hln]) ?_)
   refine C9 (H':=(g6::igf0::H)) (fun w h=>(h.erase 0)) (D8 (s':=(a8,cap9,g6,(l1++[((A4 s.data.toList).getD k 0)]),k+1)) [3,7,8,9] kr rfl ⟨(I4 hO7 hln (by dsimp only; first | exact (iv_app _ _).symm | (rw [iv_app]; rfl))),(by (try dsimp only); omega),(by dsimp only; rw [takeI _ hlt,List.filter_append,← hT]; simp only [List.filter_cons,List.filter_nil,hpl,if_true])⟩ (by (try dsimp only); omega))
  ·
   have hpl:plainR ((A4 s.data.toList).getD k 0)=false:=hc3
   refine A7 (B2 ?_)
   refine A0 (A2 ?_)
   refine A6 (j:=1) [0] (k:=C3 39 (((k:Nat):Int)+1) (by omega) (by omega) kr ?_)
   refine B0 [0] [3,7,8,9] (k:=D8 (s':=(ra,rc,rg,l1,k+1)) [3,7,8,9] kr rfl ⟨hO,(by (try dsimp only); omega),(by dsimp only; rw [takeI _ hlt,List.filter_append,← hT]; simp only [List.filter_cons,List.filter_nil,hpl,Bool.false_eq_true,if_false,List.append_nil])⟩ (by (try dsimp only); omega))
 ·
  simp only [decide_eq_false_iff_not] at hc2
  refine F7 (A8 ?_)
  refine A8 (C2 ?_)
  refine A0 (A1 ?_)
  refine A2 (A6 (j:=1) [0] (k:=?_))
  refine F2 Tryz.func19 (text_ ra rc l1 (inG rg) (M7 hO) (by rw [hT]; intro p hp; exact K9 s.data.toList p (List.mem_of_mem_take (List.mem_filter.1 hp).1)) (by omega) _ _ (D2 0 rfl)) ?_
  rintro _ _ ⟨rfl,rfl⟩
  refine B8 (E':=[⟨2,[],.string (bk (encL l1))⟩]) [0] [2] (k:=A0 ?_)
  refine B6 (C9 (H':=H) (fun w h=>((h.erase 1).erase 0)) ?_)
  refine B5 [.tmp 2] [.string (bk (encL l1))] (k:=?_)
  exact ⟨congrArg Value.string (by rw [hT,List.take_of_length_le (by omega)]; rfl),rfl⟩
end Go.Proofs.YtbnfbffiehoapaaGreatDoor
namespace Go.Proofs.YtbnfbffiehoapaaGreatDoor
open Go.Sw Go.Sha Go.Esc Go.RowKit
theorem w8q {x:Int} (h0:0≤x) (h1:x<256):IntKind.wrap .u8 (Int.tdiv x 16)=x / 16:=by
  rw [Int.tdiv_eq_ediv_of_nonneg h0]; exact w8i (by omega) (by omega)
theorem t16 {x:Int} (h0:0≤x):Int.tmod x 16=x % 16:=Int.tmod_eq_emod_of_nonneg h0
theorem toNat1R (m:Nat):Int.toNat ((m:Int)+1)=m+1:=by omega
theorem byte_rngR (b:UInt8):0≤(b.toNat:Int)∧(b.toNat:Int)<256:=⟨Int.natCast_nonneg _,by have:=b.toNat_lt; omega⟩
theorem rhtml_ (s:ByteArray) (hs:s.size≤1000000) (W0:World) (H:List Grp):Tri Tryz.prog 11 #[.string s] W0 H (fun v H'=>v=.string ⟨(H8 s.data.toList).toArray⟩∧H'=H):=by
 have hpl:=plain_len s.data.toList
 rw [B7] at hpl
 have hbk:=I7 (D5 s.data.toList)
 have hpp:=pts_len (D5 s.data.toList)
 refine D1 (args:=[.string s]) (n:=42) Tryz.func11 rfl rfl (Nat.le_of_ble_eq_true rfl) ?_
 refine A1 (B3 (E':=[⟨0,[],.string s⟩]) [0] [0] (k:=?_))
 refine A0 (A1 ?_)
 refine G_p [0] [0,3] (k:=A0 ?_)
 refine A1 (A1 ?_)
 refine A2 (A6 (j:=1) [0] (k:=?_))
 refine G4 Tryz.func18 (rplain_ s (by omega) _ _) (F2 Tryz.func26 (points_ (bk (D5 s.data.toList)) (by omega) _ _) ?_)
 rintro _ _ ⟨iap0,icp0,igp0,rfl,iOp0,rfl⟩
 refine B0 [0,0] [3,8,9,10] (k:=A0 ?_)
 refine B4 (I8 (EI:=(fun ξ:Nat × ByteArray=>[⟨3,[],.string ξ.2⟩,⟨8,[],.slice iap0 ((pts (D5 s.data.toList)).length) icp0⟩,⟨9,[],.int .i64 (((pts (D5 s.data.toList)).length:Nat):Int)⟩,⟨10,[],.int .i64 ((ξ.1:Nat):Int)⟩])) (HI:=(fun ξ:Nat × ByteArray=>(igp0::H))) (Φ:=(fun ξ:Nat × ByteArray=>(ξ.1≤(pts (D5 s.data.toList)).length)∧(ξ.2.data.toList=((pts (D5 s.data.toList)).take ξ.1).flatMap L8))) (μ:=(fun ξ:Nat × ByteArray=>(pts (D5 s.data.toList)).length - ξ.1)) (s0:=(0,(ByteArray.mk #[]))) [3,8,9,10] kr rfl ⟨(by omega),rfl⟩ ?_)
 rintro ⟨k,t⟩ ⟨hk,hT⟩
 dsimp only at hk hT
 have ht:t.size≤6 * (pts (D5 s.data.toList)).length:=by
  have h1:=flat_len htmlP_len ((pts (D5 s.data.toList)).take k)
  rw [← hT,B7,List.length_take] at h1; omega
 refine A1 (G_p [0] [3,8,9,10,11] (k:=?_))
 refine A0 (A1 ?_)
 refine B1 (b:=decide (((k:Nat):Int)<(((pts (D5 s.data.toList)).length:Nat):Int))) kr (fun hc2=>?_) (fun hc2=>?_)
 ·
  simp only [decide_eq_true_eq] at hc2
  have hlt:k<(pts (D5 s.data.toList)).length:=by omega
  have hel:=N4 ((pts (D5 s.data.toList)).getD k 0)
  refine A7 (A0 ?_)
  refine A1 (B4 ?_)
  refine A1 (A2 ?_)
  refine C4 (ch:=[]) (a:=iap0) (len:=(pts (D5 s.data.toList)).length) (cap:=icp0) (kd:=.i64) (j:=((k:Nat):Int)) (e:=3) (sz:=1) (S:=(inG igp0)) (cs:=(intV (pts (D5 s.data.toList)))) (hrd:=M7 iOp0) (hb:=(fun _=>by exact ⟨by omega,by omega,iv_ne (by omega)⟩)) (k:=E6 (ch:=[]) (a:=iap0) (q:=k * 1) (S:=(inG igp0)) (cs:=(intV (pts (D5 s.data.toList)))) (v:=.int .i64 ((pts (D5 s.data.toList)).getD k 0)) (hrd:=M7 iOp0) (hS:=D2 0 rfl) (hv:=(fun _=>(by rw [Nat.mul_one]; exact iv_at (ps:=(pts (D5 s.data.toList))) (k:=k) (by omega)))) (k:=?_))
  refine B0 [0] [3,5,8,9,10] (k:=A0 ?_)
  refine A1 (G_p [0] [3,5,8,9,10,14] (k:=?_))
  refine A0 (B4 ?_)
  refine A1 (G_p [0,0] [3,5,8,9,10,14,20] (k:=?_))
  refine A0 (B1 (b:=((pts (D5 s.data.toList)).getD k 0)==38) kr (fun hc3=>?_) (fun hc3=>?_))
  ·
   simp only [beq_iff_eq] at hc3
   have hj:L8 ((pts (D5 s.data.toList)).getD k 0)=[38,97,109,112,59]:=by unfold L8; rw [if_pos (by omega)]
   refine A2 (A6 (j:=1) [0] (k:=?_))
   refine F5 (ch:=[]) (s:=t) (u:=(ByteArray.mk #[38,97,109,112,59])) (hb:=(by intro _; show t.size+5≤_; omega)) (k:=B0 [0] [3,8,9,10] (k:=?_))
   refine B2 (B2 ?_)
   refine A0 (A2 ?_)
   refine A6 (j:=1) [0] (k:=C3 40 (((k:Nat):Int)+1) (by omega) (by omega) kr ?_)
   refine B8 (E':=[⟨3,[],.string (t++(ByteArray.mk #[38,97,109,112,59]))⟩,⟨8,[],.slice iap0 ((pts (D5 s.data.toList)).length) icp0⟩,⟨9,[],.int .i64 (((pts (D5 s.data.toList)).length:Nat):Int)⟩,⟨10,[],.int .i64 (((k:Nat):Int)+1)⟩]) [0] [3,8,9,10] (k:=D8 (s':=(k+1,t++(ByteArray.mk #[38,97,109,112,59]))) [3,8,9,10] kr rfl ⟨(by dsimp only; omega),(by dsimp only; rw [I1 hlt,← hT,hj]; first | exact D4 _ _ | (rw [D4]; congr 1; exact List.append_nil _))⟩ (by dsimp only; omega))
  ·
   simp only [beq_eq_false_iff_ne,ne_eq] at hc3
   refine A1 (G_p [0,0] [3,5,8,9,10,14,24] (k:=?_))
   refine A0 (B1 (b:=((pts (D5 s.data.toList)).getD k 0)==60) kr (fun hc5=>?_) (fun hc5=>?_))
   ·
    simp only [beq_iff_eq] at hc5
    have hj:L8 ((pts (D5 s.data.toList)).getD k 0)=[38,108,116,59]:=by unfold L8; rw [if_neg (by omega),if_pos (by omega)]
    refine A2 (A6 (j:=1) [0] (k:=?_))
    refine F5 (ch:=[]) (s:=t) (u:=(ByteArray.mk #[38,108,116,59])) (hb:=(by intro _; show t.size+4≤_; omega)) (k:=B8 (E':=[⟨3,[],.string (t++(ByteArray.mk #[38,108,116,59]))⟩,⟨8,[],.slice iap0 ((pts (D5 s.data.toList)).length) icp0⟩,⟨9,[],.int .i64 (((pts (D5 s.data.toList)).length:Nat):Int)⟩,⟨10,[],.int .i64 ((k:Nat):Int)⟩]) [0] [3,8,9,10] (k:=?_))
    refine B2 (B2 ?_)
    refine A0 (A2 ?_)
    refine A6 (j:=1) [0] (k:=C3 40 (((k:Nat):Int)+1) (by omega) (by omega) kr ?_)
    refine B0 [0] [3,8,9,10] (k:=D8 (s':=(k+1,t++(ByteArray.mk #[38,108,116,59]))) [3,8,9,10] kr rfl ⟨(by dsimp only; omega),(by dsimp only; rw [I1 hlt,← hT,hj]; first | exact D4 _ _ | (rw [D4]; congr 1; exact List.append_nil _))⟩ (by dsimp only; omega))
   ·
    simp only [beq_eq_false_iff_ne,ne_eq] at hc5
    refine A1 (B3 (E':=[⟨3,[],.string t⟩,⟨5,[],.int .i64 ((pts (D5 s.data.toList)).getD k 0)⟩,⟨8,[],.slice iap0 ((pts (D5 s.data.toList)).length) icp0⟩,⟨9,[],.int .i64 (((pts (D5 s.data.toList)).length:Nat):Int)⟩,⟨10,[],.int .i64 ((k:Nat):Int)⟩,⟨14,[],.int .i64 ((pts (D5 s.data.toList)).getD k 0)⟩,⟨28,[],.bool (((pts (D5 s.data.toList)).getD k 0)==62)⟩]) [0,0] [3,5,8,9,10,14,28] (k:=?_))
    refine A0 (B1 (b:=((pts (D5 s.data.toList)).getD k 0)==62) kr (fun hc7=>?_) (fun hc7=>?_))
    ·
     simp only [beq_iff_eq] at hc7
     have hj:L8 ((pts (D5 s.data.toList)).getD k 0)=[38,103,116,59]:=by unfold L8; rw [if_neg (by omega),if_neg (by omega),if_pos (by omega)]
     refine A2 (A6 (j:=1) [0] (k:=?_))
     refine F5 (ch:=[]) (s:=t) (u:=(ByteArray.mk #[38,103,116,59])) (hb:=(by intro _; show t.size+4≤_; omega)) (k:=B0 [0] [3,8,9,10] (k:=?_))
     refine B2 (B2 ?_)
     refine A0 (A2 ?_)
     refine A6 (j:=1) [0] (k:=C3 40 (((k:Nat):Int)+1) (by omega) (by omega) kr ?_)
     refine B0 [0] [3,8,9,10] (k:=D8 (s':=(k+1,t++(ByteArray.mk #[38,103,116,59]))) [3,8,9,10] kr rfl ⟨(by dsimp only; omega),(by dsimp only; rw [I1 hlt,← hT,hj]; first | exact D4 _ _ | (rw [D4]; congr 1; exact List.append_nil _))⟩ (by dsimp only; omega))
    ·
     simp only [beq_eq_false_iff_ne,ne_eq] at hc7
     refine A1 (G_p [0,0] [3,5,8,9,10,14,32] (k:=?_))
     refine A0 (B1 (b:=((pts (D5 s.data.toList)).getD k 0)==34) kr (fun hc9=>?_) (fun hc9=>?_))
     ·
      simp only [beq_iff_eq] at hc9
      have hj:L8 ((pts (D5 s.data.toList)).getD k 0)=[38,113,117,111,116,59]:=by unfold L8; rw [if_neg (by omega),if_neg (by omega),if_neg (by omega),if_pos (by omega)]
      refine A2 (A6 (j:=1) [0] (k:=?_))
      refine F5 (ch:=[]) (s:=t) (u:=(ByteArray.mk #[38,113,117,111,116,59])) (hb:=(by intro _; show t.size+6≤_; omega)) (k:=B0 [0] [3,8,9,10] (k:=?_))
      refine B2 (B2 ?_)
      refine A0 (A2 ?_)
      refine A6 (j:=1) [0] (k:=C3 40 (((k:Nat):Int)+1) (by omega) (by omega) kr ?_)
      refine B0 [0] [3,8,9,10] (k:=D8 (s':=(k+1,t++(ByteArray.mk #[38,113,117,111,116,59]))) [3,8,9,10] kr rfl ⟨(by dsimp only; omega),(by dsimp only; rw [I1 hlt,← hT,hj]; first | exact D4 _ _ | (rw [D4]; congr 1; exact List.append_nil _))⟩ (by dsimp only; omega))
     ·
      simp only [beq_eq_false_iff_ne,ne_eq] at hc9
      refine A1 (G_p [0,0] [3,5,8,9,10,36] (k:=?_))
      refine A0 (B1 (b:=((pts (D5 s.data.toList)).getD k 0)==39) kr (fun hc11=>?_) (fun hc11=>?_))
      ·
       simp only [beq_iff_eq] at hc11
       have hj:L8 ((pts (D5 s.data.toList)).getD k 0)=[38,35,51,57,59]:=by unfold L8; rw [if_neg (by omega),if_neg (by omega),if_neg (by omega),if_neg (by omega),if_pos (by omega)]
       refine A2 (A6 (j:=1) [0] (k:=?_))
       refine F5 (ch:=[]) (s:=t) (u:=(ByteArray.mk #[38,35,51,57,59])) (hb:=(by intro _; show t.size+5≤_; omega)) (k:=B0 [0] [3,8,9,10] (k:=?_))
       refine B2 (B2 ?_)
       refine A0 (A2 ?_)
       refine A6 (j:=1) [0] (k:=C3 40 (((k:Nat):Int)+1) (by omega) (by omega) kr ?_)
       refine B0 [0] [3,8,9,10] (k:=D8 (s':=(k+1,t++(ByteArray.mk #[38,35,51,57,59]))) [3,8,9,10] kr rfl ⟨(by dsimp only; omega),(by dsimp only; rw [I1 hlt,← hT,hj]; first | exact D4 _ _ | (rw [D4]; congr 1; exact List.append_nil _))⟩ (by dsimp only; omega))
      ·
       simp only [beq_eq_false_iff_ne,ne_eq] at hc11
       have hj:L8 ((pts (D5 s.data.toList)).getD k 0)=Lib.encodeRune ((pts (D5 s.data.toList)).getD k 0):=by unfold L8; rw [if_neg (by omega),if_neg (by omega),if_neg (by omega),if_neg (by omega),if_neg (by omega)]
       refine A2 (A6 (j:=2) [0,0] (k:=?_))
       refine D0 (ch:=[]) (e:=3) (l:=[(0,.int .i64 ((pts (D5 s.data.toList)).getD k 0))]) (c:=[.int .i64 ((pts (D5 s.data.toList)).getD k 0)]) (k:=(fun b13=>?_))
       refine F2 (vs:=[.slice (some ⟨b13,0,none⟩) 1 1]) Tryz.func19 (text_ (some ⟨b13,0,none⟩) 1 ([((pts (D5 s.data.toList)).getD k 0)]) (inG [(b13,.cells #[.int .i64 ((pts (D5 s.data.toList)).getD k 0)] 3 (0,0))]) Rd.lit (fun p hp=>List.mem_singleton.1 hp ▸ pplain_isR s.data.toList _ (memI hlt)) (Nat.le_of_ble_eq_true rfl) _ _ (D2 0 rfl)) ?_
       rintro _ _ ⟨rfl,rfl⟩
       refine F5 (ch:=[]) (s:=t) (u:=(bk (encL ([((pts (D5 s.data.toList)).getD k 0)])))) (hb:=(by intro _; rw [I7]; show t.size+(Lib.encodeRune _++[]).length≤_; rw [List.append_nil]; omega)) (k:=B0 [0] [3,8,9,10] (k:=?_))
       refine B2 (B2 ?_)
       refine A0 (A2 ?_)
       refine A6 (j:=1) [0] (k:=C3 40 (((k:Nat):Int)+1) (by omega) (by omega) kr ?_)
       refine B0 [0] [3,8,9,10] (k:=C9 (H':=(igp0::H)) (fun w h=>(h.erase 0)) ?_)
       refine D8 (s':=(k+1,t++(bk (encL ([((pts (D5 s.data.toList)).getD k 0)]))))) [3,8,9,10] kr rfl ⟨(by dsimp only; omega),(by dsimp only; rw [I1 hlt,← hT,hj]; first | exact D4 _ _ | (rw [D4]; congr 1; exact List.append_nil _))⟩ (by dsimp only; omega)
 ·
  simp only [decide_eq_false_iff_not] at hc2
  refine F7 (A8 ?_)
  refine A8 (C2 ?_)
  refine A0 (A1 ?_)
  refine B3 (E':=[⟨2,[],.string t⟩]) [0,0] [2] (k:=A0 ?_)
  refine B6 (C9 (H':=H) (fun w h=>(h.erase 0)) ?_)
  refine B5 [.tmp 2] [.string t] (k:=?_)
  exact ⟨congrArg Value.string (ba_eq (by rw [hT,List.take_of_length_le (by omega),html_doc])),rfl⟩
theorem rpercent_ (s:ByteArray) (hs:s.size≤1000000000) (W0:World) (H:List Grp):Tri Tryz.prog 22 #[.string s] W0 H (fun v H'=>v=.string ⟨(percL s.data.toList).toArray⟩∧H'=H):=by
 refine D1 (args:=[.string s]) (n:=80) Tryz.func22 rfl rfl (Nat.le_of_ble_eq_true rfl) ?_
 refine A1 (B3 (E':=[⟨0,[],.string s⟩]) [0] [0] (k:=?_))
 refine A0 (A1 ?_)
 refine G_p [0] [0,3] (k:=A0 ?_)
 refine A1 (A1 ?_)
 refine G_p [0] [0,3,4] (k:=A0 ?_)
 refine B4 (I8 (EI:=(fun ξ:Nat × ByteArray=>[⟨0,[],.string s⟩,⟨3,[],.string ξ.2⟩,⟨4,[],.int .i64 ((ξ.1:Nat):Int)⟩])) (HI:=(fun ξ:Nat × ByteArray=>H)) (Φ:=(fun ξ:Nat × ByteArray=>(ξ.1≤s.size)∧(ξ.2.data.toList++percL (s.data.toList.drop ξ.1)=percL s.data.toList))) (μ:=(fun ξ:Nat × ByteArray=>s.size - ξ.1)) (s0:=(0,(ByteArray.mk #[]))) [0,3,4] kr rfl ⟨(by omega),rfl⟩ ?_)
 rintro ⟨i,t⟩ ⟨hi,hT⟩
 dsimp only at hi hT
 obtain ⟨b,hb⟩:∃ b:UInt8,b=s.data.toList.getD i 0:=⟨_,rfl⟩
 have hbyte:A5 s (i:Int)=(b.toNat:Int):=by rw [E7,hb]
 have hbr:=byte_rngR b
 have ht:t.size≤3 * s.size:=by
  have h1:=congrArg List.length hT
  have h2:=perc_len s.data.toList
  rw [List.length_append,B7] at h1
  rw [B7] at h2
  omega
 refine A1 (A1 ?_)
 refine G_p [0,0,0,0] [0,3,4,10] (k:=A0 ?_)
 refine B1 (b:=decide (((i:Nat):Int)<(s.size:Int))) kr (fun hc1=>?_) (fun hc1=>?_)
 ·
  simp only [decide_eq_true_eq] at hc1
  have hlt:i<s.size:=by omega
  have hz1:=size_one hlt
  refine A7 (A0 ?_)
  refine A1 (B4 ?_)
  refine A1 (A2 ?_)
  refine A6 (j:=2) [0,0] (k:=C0 (ch:=[]) (s:=s) (kd:=.i64) (j:=((i:Nat):Int)) (hb:=(fun _=>by (try simp only [E5]); (try have h1:(ByteArray.mk #[37]).size=1:=rfl); omega)) (k:=?_))
  have hb2:=C7 s ((i:Nat):Int)
  refine C8 (E':=[⟨15,[],.int .u8 (b.toNat:Int)⟩,⟨14,[],.int .i64 ((i:Nat):Int)⟩,⟨13,[],.string s⟩,⟨0,[],.string s⟩,⟨3,[],.string t⟩,⟨4,[],.int .i64 ((i:Nat):Int)⟩,⟨10,[],.bool (decide (((i:Nat):Int)<(s.size:Int)))⟩]) (by have hz:([⟨15,[],.int .u8 (A5 s ((i:Nat):Int))⟩,⟨14,[],.int .i64 ((i:Nat):Int)⟩,⟨13,[],.string s⟩,⟨0,[],.string s⟩,⟨3,[],.string t⟩,⟨4,[],.int .i64 ((i:Nat):Int)⟩,⟨10,[],.bool (decide (((i:Nat):Int)<(s.size:Int)))⟩]:List Sl)=[⟨15,[],.int .u8 (b.toNat:Int)⟩,⟨14,[],.int .i64 ((i:Nat):Int)⟩,⟨13,[],.string s⟩,⟨0,[],.string s⟩,⟨3,[],.string t⟩,⟨4,[],.int .i64 ((i:Nat):Int)⟩,⟨10,[],.bool (decide (((i:Nat):Int)<(s.size:Int)))⟩]:=(by rw [hbyte]); exact Eq.trans kr hz) (B0 [0] [0,3,4,5] (k:=?_))
  refine A0 (A1 ?_)
  refine G_p [0,0,0,0,0,6,0,0,0,0,0,0,6,5,0,0,0,0,0,0,6,5,0,0,0,5,0,0,0,5,0,0,0,5,0,0,0,5] [0,3,4,5,53] (k:=A0 ?_)
  refine B1 (b:=(((((((decide ((b.toNat:Int) ≥ 97))&&(decide ((b.toNat:Int)≤122)))||((decide ((b.toNat:Int) ≥ 65))&&(decide ((b.toNat:Int)≤90))))||((decide ((b.toNat:Int) ≥ 48))&&(decide ((b.toNat:Int)≤57))))||((b.toNat:Int)==45))||((b.toNat:Int)==46))||((b.toNat:Int)==95))||((b.toNat:Int)==126)) kr (fun hc3=>?_) (fun hc3=>?_)
  ·
   simp only [Bool.and_eq_true,Bool.or_eq_true,decide_eq_true_eq,beq_iff_eq,ge_iff_le] at hc3
   have hpc:=pc_same (b:=b) (by unfold unresI; simp only [Bool.and_eq_true,Bool.or_eq_true,decide_eq_true_eq]; omega)
   refine A2 (A6 (j:=5) [0,0,0,0,0] (k:=?_))
   refine C3 58 (((i:Nat):Int)+1) (by omega) (by omega) kr (E8 (ch:=[]) (s:=s) (vl:=(some (.int .i64 ((i:Nat):Int)))) (vh:=(some (.int .i64 (((i:Nat):Int)+1)))) (l:=((i:Nat):Int)) (h:=((i:Nat):Int)+1) (hb:=(fun _=>by (try simp only [E5]); (try have h1:(ByteArray.mk #[37]).size=1:=rfl); omega)) (k:=?_))
   refine C8 (E':=[⟨59,[],.string (s.extract i (i+1))⟩,⟨58,[],.int .i64 (((i:Nat):Int)+1)⟩,⟨57,[],.int .i64 ((i:Nat):Int)⟩,⟨56,[],.int .i64 ((i:Nat):Int)⟩,⟨55,[],.string s⟩,⟨54,[],.string t⟩,⟨0,[],.string s⟩,⟨3,[],.string t⟩,⟨4,[],.int .i64 ((i:Nat):Int)⟩,⟨5,[],.int .u8 (b.toNat:Int)⟩,⟨53,[],.bool ((((((((decide ((b.toNat:Int) ≥ 97))&&(decide ((b.toNat:Int)≤122)))||((decide ((b.toNat:Int) ≥ 65))&&(decide ((b.toNat:Int)≤90))))||((decide ((b.toNat:Int) ≥ 48))&&(decide ((b.toNat:Int)≤57))))||((b.toNat:Int)==45))||((b.toNat:Int)==46))||((b.toNat:Int)==95))||((b.toNat:Int)==126))⟩]) (by have hz:([⟨59,[],.string (s.extract i (Int.toNat (((i:Nat):Int)+1)))⟩,⟨58,[],.int .i64 (((i:Nat):Int)+1)⟩,⟨57,[],.int .i64 ((i:Nat):Int)⟩,⟨56,[],.int .i64 ((i:Nat):Int)⟩,⟨55,[],.string s⟩,⟨54,[],.string t⟩,⟨0,[],.string s⟩,⟨3,[],.string t⟩,⟨4,[],.int .i64 ((i:Nat):Int)⟩,⟨5,[],.int .u8 (b.toNat:Int)⟩,⟨53,[],.bool ((((((((decide ((b.toNat:Int) ≥ 97))&&(decide ((b.toNat:Int)≤122)))||((decide ((b.toNat:Int) ≥ 65))&&(decide ((b.toNat:Int)≤90))))||((decide ((b.toNat:Int) ≥ 48))&&(decide ((b.toNat:Int)≤57))))||((b.toNat:Int)==45))||((b.toNat:Int)==46))||((b.toNat:Int)==95))||((b.toNat:Int)==126))⟩]:List Sl)=[⟨59,[],.string (s.extract i (i+1))⟩,⟨58,[],.int .i64 (((i:Nat):Int)+1)⟩,⟨57,[],.int .i64 ((i:Nat):Int)⟩,⟨56,[],.int .i64 ((i:Nat):Int)⟩,⟨55,[],.string s⟩,⟨54,[],.string t⟩,⟨0,[],.string s⟩,⟨3,[],.string t⟩,⟨4,[],.int .i64 ((i:Nat):Int)⟩,⟨5,[],.int .u8 (b.toNat:Int)⟩,⟨53,[],.bool ((((((((decide ((b.toNat:Int) ≥ 97))&&(decide ((b.toNat:Int)≤122)))||((decide ((b.toNat:Int) ≥ 65))&&(decide ((b.toNat:Int)≤90))))||((decide ((b.toNat:Int) ≥ 48))&&(decide ((b.toNat:Int)≤57))))||((b.toNat:Int)==45))||((b.toNat:Int)==46))||((b.toNat:Int)==95))||((b.toNat:Int)==126))⟩]:=(by rw [toNat1R]); exact Eq.trans kr hz) (F5 (ch:=[]) (s:=t) (u:=s.extract i (i+1)) (hb:=(fun _=>by (try simp only [E5]); (try have h1:(ByteArray.mk #[37]).size=1:=rfl); omega)) (k:=?_))
   refine B0 [0] [0,3,4] (k:=B2 ?_)
   refine A0 (A2 ?_)
   refine A6 (j:=2) [0,0] (k:=C3 12 (((i:Nat):Int)+1) (by omega) (by omega) kr ?_)
   refine B0 [0] [0,3,4] (k:=D8 (s':=(i+1,t++(s.extract i (i+1)))) [0,3,4] kr rfl ⟨(by dsimp only; omega),(by dsimp only; rw [← hT,G0 _ (show i<s.data.toList.length by rw [B7]; omega),percL_cons,← hb,hpc]; first | (rw [D4,ext_one hlt,← hb,List.append_assoc]) | (rw [D4,D4,D4,extU (by omega) (by omega) rfl,extU (by omega) (by omega) rfl]; simp only [List.append_assoc]; rfl))⟩ (by dsimp only; omega))
  ·
   simp only [Bool.and_eq_false_iff,Bool.or_eq_false_iff,decide_eq_false_iff_not,beq_eq_false_iff_ne,ne_eq,ge_iff_le] at hc3
   have hpc:=pc_doc (b:=b) (by unfold unresI; simp only [Bool.and_eq_false_iff,Bool.or_eq_false_iff,decide_eq_false_iff_not]; omega)
   have hsU:(ByteArray.mk #[48,49,50,51,52,53,54,55,56,57,65,66,67,68,69,70]).size=16:=rfl
   have hz2:=sizeU (a:=(b.toNat:Int) / 16) (b:=(b.toNat:Int) / 16+1) (by omega) (by omega) rfl
   have hz3:=sizeU (a:=(b.toNat:Int) % 16) (b:=(b.toNat:Int) % 16+1) (by omega) (by omega) rfl
   refine A1 (G_p [0] [0,3,4,5,6] (k:=?_))
   refine A0 (L2 (k:=?_))
   refine C1 (E':=[⟨64,[],.int .u8 (IntKind.wrap .u8 (Int.tdiv (b.toNat:Int) 16))⟩,⟨62,[],.string (ByteArray.mk #[48,49,50,51,52,53,54,55,56,57,65,66,67,68,69,70])⟩,⟨61,[],.string t⟩,⟨0,[],.string s⟩,⟨3,[],.string t⟩,⟨4,[],.int .i64 ((i:Nat):Int)⟩,⟨5,[],.int .u8 (b.toNat:Int)⟩,⟨6,[],.string (ByteArray.mk #[48,49,50,51,52,53,54,55,56,57,65,66,67,68,69,70])⟩]) (j:=4) [0,0,0,0] (k:=C8 (E':=[⟨64,[],.int .u8 ((b.toNat:Int) / 16)⟩,⟨62,[],.string (ByteArray.mk #[48,49,50,51,52,53,54,55,56,57,65,66,67,68,69,70])⟩,⟨61,[],.string t⟩,⟨0,[],.string s⟩,⟨3,[],.string t⟩,⟨4,[],.int .i64 ((i:Nat):Int)⟩,⟨5,[],.int .u8 (b.toNat:Int)⟩,⟨6,[],.string (ByteArray.mk #[48,49,50,51,52,53,54,55,56,57,65,66,67,68,69,70])⟩]) (by rw [w8q (by omega) (by omega)]) ?_)
   refine C1 (E':=[⟨66,[],.int .u8 (IntKind.wrap .u8 (Int.tdiv (b.toNat:Int) 16))⟩,⟨64,[],.int .u8 ((b.toNat:Int) / 16)⟩,⟨62,[],.string (ByteArray.mk #[48,49,50,51,52,53,54,55,56,57,65,66,67,68,69,70])⟩,⟨61,[],.string t⟩,⟨0,[],.string s⟩,⟨3,[],.string t⟩,⟨4,[],.int .i64 ((i:Nat):Int)⟩,⟨5,[],.int .u8 (b.toNat:Int)⟩,⟨6,[],.string (ByteArray.mk #[48,49,50,51,52,53,54,55,56,57,65,66,67,68,69,70])⟩]) (j:=6) [0,0] (k:=C8 (E':=[⟨66,[],.int .u8 ((b.toNat:Int) / 16)⟩,⟨64,[],.int .u8 ((b.toNat:Int) / 16)⟩,⟨62,[],.string (ByteArray.mk #[48,49,50,51,52,53,54,55,56,57,65,66,67,68,69,70])⟩,⟨61,[],.string t⟩,⟨0,[],.string s⟩,⟨3,[],.string t⟩,⟨4,[],.int .i64 ((i:Nat):Int)⟩,⟨5,[],.int .u8 (b.toNat:Int)⟩,⟨6,[],.string (ByteArray.mk #[48,49,50,51,52,53,54,55,56,57,65,66,67,68,69,70])⟩]) (by rw [w8q (by omega) (by omega)]) ?_)
   refine C1 (E':=[⟨67,[],.int .u8 (IntKind.wrap .u8 (((b.toNat:Int) / 16)+1))⟩,⟨64,[],.int .u8 ((b.toNat:Int) / 16)⟩,⟨62,[],.string (ByteArray.mk #[48,49,50,51,52,53,54,55,56,57,65,66,67,68,69,70])⟩,⟨61,[],.string t⟩,⟨0,[],.string s⟩,⟨3,[],.string t⟩,⟨4,[],.int .i64 ((i:Nat):Int)⟩,⟨5,[],.int .u8 (b.toNat:Int)⟩,⟨6,[],.string (ByteArray.mk #[48,49,50,51,52,53,54,55,56,57,65,66,67,68,69,70])⟩]) (j:=7) [0] (k:=C8 (E':=[⟨67,[],.int .u8 (((b.toNat:Int) / 16)+1)⟩,⟨64,[],.int .u8 ((b.toNat:Int) / 16)⟩,⟨62,[],.string (ByteArray.mk #[48,49,50,51,52,53,54,55,56,57,65,66,67,68,69,70])⟩,⟨61,[],.string t⟩,⟨0,[],.string s⟩,⟨3,[],.string t⟩,⟨4,[],.int .i64 ((i:Nat):Int)⟩,⟨5,[],.int .u8 (b.toNat:Int)⟩,⟨6,[],.string (ByteArray.mk #[48,49,50,51,52,53,54,55,56,57,65,66,67,68,69,70])⟩]) (by rw [w8i (x:=(((b.toNat:Int) / 16)+1)) (by omega) (by omega)]) ?_)
   refine E8 (ch:=[]) (s:=(ByteArray.mk #[48,49,50,51,52,53,54,55,56,57,65,66,67,68,69,70])) (vl:=(some (.int .u8 ((b.toNat:Int) / 16)))) (vh:=(some (.int .u8 (((b.toNat:Int) / 16)+1)))) (l:=((b.toNat:Int) / 16)) (h:=(((b.toNat:Int) / 16)+1)) (hb:=(fun _=>by (try simp only [E5]); (try have h1:(ByteArray.mk #[37]).size=1:=rfl); omega)) (k:=F5 (ch:=[]) (s:=(ByteArray.mk #[37])) (u:=(ByteArray.mk #[48,49,50,51,52,53,54,55,56,57,65,66,67,68,69,70]).extract (Int.toNat ((b.toNat:Int) / 16)) (Int.toNat (((b.toNat:Int) / 16)+1))) (hb:=(fun _=>by (try simp only [E5]); (try have h1:(ByteArray.mk #[37]).size=1:=rfl); omega)) (k:=?_))
   refine C1 (E':=[⟨72,[],.int .u8 (Int.tmod (b.toNat:Int) 16)⟩,⟨70,[],.string (ByteArray.mk #[48,49,50,51,52,53,54,55,56,57,65,66,67,68,69,70])⟩,⟨69,[],.string ((ByteArray.mk #[37])++((ByteArray.mk #[48,49,50,51,52,53,54,55,56,57,65,66,67,68,69,70]).extract (Int.toNat ((b.toNat:Int) / 16)) (Int.toNat (((b.toNat:Int) / 16)+1))))⟩,⟨61,[],.string t⟩,⟨0,[],.string s⟩,⟨3,[],.string t⟩,⟨4,[],.int .i64 ((i:Nat):Int)⟩,⟨5,[],.int .u8 (b.toNat:Int)⟩]) (j:=12) [0,0,0] (k:=C8 (E':=[⟨72,[],.int .u8 ((b.toNat:Int) % 16)⟩,⟨70,[],.string (ByteArray.mk #[48,49,50,51,52,53,54,55,56,57,65,66,67,68,69,70])⟩,⟨69,[],.string ((ByteArray.mk #[37])++((ByteArray.mk #[48,49,50,51,52,53,54,55,56,57,65,66,67,68,69,70]).extract (Int.toNat ((b.toNat:Int) / 16)) (Int.toNat (((b.toNat:Int) / 16)+1))))⟩,⟨61,[],.string t⟩,⟨0,[],.string s⟩,⟨3,[],.string t⟩,⟨4,[],.int .i64 ((i:Nat):Int)⟩,⟨5,[],.int .u8 (b.toNat:Int)⟩]) (by rw [t16 (by omega)]) ?_)
   refine C1 (E':=[⟨74,[],.int .u8 (Int.tmod (b.toNat:Int) 16)⟩,⟨72,[],.int .u8 ((b.toNat:Int) % 16)⟩,⟨70,[],.string (ByteArray.mk #[48,49,50,51,52,53,54,55,56,57,65,66,67,68,69,70])⟩,⟨69,[],.string ((ByteArray.mk #[37])++((ByteArray.mk #[48,49,50,51,52,53,54,55,56,57,65,66,67,68,69,70]).extract (Int.toNat ((b.toNat:Int) / 16)) (Int.toNat (((b.toNat:Int) / 16)+1))))⟩,⟨61,[],.string t⟩,⟨0,[],.string s⟩,⟨3,[],.string t⟩,⟨4,[],.int .i64 ((i:Nat):Int)⟩]) (j:=14) [0,0] (k:=C8 (E':=[⟨74,[],.int .u8 ((b.toNat:Int) % 16)⟩,⟨72,[],.int .u8 ((b.toNat:Int) % 16)⟩,⟨70,[],.string (ByteArray.mk #[48,49,50,51,52,53,54,55,56,57,65,66,67,68,69,70])⟩,⟨69,[],.string ((ByteArray.mk #[37])++((ByteArray.mk #[48,49,50,51,52,53,54,55,56,57,65,66,67,68,69,70]).extract (Int.toNat ((b.toNat:Int) / 16)) (Int.toNat (((b.toNat:Int) / 16)+1))))⟩,⟨61,[],.string t⟩,⟨0,[],.string s⟩,⟨3,[],.string t⟩,⟨4,[],.int .i64 ((i:Nat):Int)⟩]) (by rw [t16 (by omega)]) ?_)
   refine C1 (E':=[⟨75,[],.int .u8 (IntKind.wrap .u8 (((b.toNat:Int) % 16)+1))⟩,⟨72,[],.int .u8 ((b.toNat:Int) % 16)⟩,⟨70,[],.string (ByteArray.mk #[48,49,50,51,52,53,54,55,56,57,65,66,67,68,69,70])⟩,⟨69,[],.string ((ByteArray.mk #[37])++((ByteArray.mk #[48,49,50,51,52,53,54,55,56,57,65,66,67,68,69,70]).extract (Int.toNat ((b.toNat:Int) / 16)) (Int.toNat (((b.toNat:Int) / 16)+1))))⟩,⟨61,[],.string t⟩,⟨0,[],.string s⟩,⟨3,[],.string t⟩,⟨4,[],.int .i64 ((i:Nat):Int)⟩]) (j:=15) [0] (k:=C8 (E':=[⟨75,[],.int .u8 (((b.toNat:Int) % 16)+1)⟩,⟨72,[],.int .u8 ((b.toNat:Int) % 16)⟩,⟨70,[],.string (ByteArray.mk #[48,49,50,51,52,53,54,55,56,57,65,66,67,68,69,70])⟩,⟨69,[],.string ((ByteArray.mk #[37])++((ByteArray.mk #[48,49,50,51,52,53,54,55,56,57,65,66,67,68,69,70]).extract (Int.toNat ((b.toNat:Int) / 16)) (Int.toNat (((b.toNat:Int) / 16)+1))))⟩,⟨61,[],.string t⟩,⟨0,[],.string s⟩,⟨3,[],.string t⟩,⟨4,[],.int .i64 ((i:Nat):Int)⟩]) (by rw [w8i (x:=(((b.toNat:Int) % 16)+1)) (by omega) (by omega)]) ?_)
   refine E8 (ch:=[]) (s:=(ByteArray.mk #[48,49,50,51,52,53,54,55,56,57,65,66,67,68,69,70])) (vl:=(some (.int .u8 ((b.toNat:Int) % 16)))) (vh:=(some (.int .u8 (((b.toNat:Int) % 16)+1)))) (l:=((b.toNat:Int) % 16)) (h:=(((b.toNat:Int) % 16)+1)) (hb:=(fun _=>by (try simp only [E5]); (try have h1:(ByteArray.mk #[37]).size=1:=rfl); omega)) (k:=F5 (ch:=[]) (s:=(ByteArray.mk #[37])++((ByteArray.mk #[48,49,50,51,52,53,54,55,56,57,65,66,67,68,69,70]).extract (Int.toNat ((b.toNat:Int) / 16)) (Int.toNat (((b.toNat:Int) / 16)+1)))) (u:=(ByteArray.mk #[48,49,50,51,52,53,54,55,56,57,65,66,67,68,69,70]).extract (Int.toNat ((b.toNat:Int) % 16)) (Int.toNat (((b.toNat:Int) % 16)+1))) (hb:=(fun _=>by (try simp only [E5]); (try have h1:(ByteArray.mk #[37]).size=1:=rfl); omega)) (k:=?_))
   refine F5 (ch:=[]) (s:=t) (u:=((ByteArray.mk #[37])++((ByteArray.mk #[48,49,50,51,52,53,54,55,56,57,65,66,67,68,69,70]).extract (Int.toNat ((b.toNat:Int) / 16)) (Int.toNat (((b.toNat:Int) / 16)+1))))++((ByteArray.mk #[48,49,50,51,52,53,54,55,56,57,65,66,67,68,69,70]).extract (Int.toNat ((b.toNat:Int) % 16)) (Int.toNat (((b.toNat:Int) % 16)+1)))) (hb:=(fun _=>by (try simp only [E5]); (try have h1:(ByteArray.mk #[37]).size=1:=rfl); omega)) (k:=B0 [0] [0,3,4] (k:=?_))
   refine B2 (A0 ?_)
   refine A2 (A6 (j:=2) [0,0] (k:=?_))
   refine C3 12 (((i:Nat):Int)+1) (by omega) (by omega) kr (B8 (E':=[⟨0,[],.string s⟩,⟨3,[],.string (t++(((ByteArray.mk #[37])++((ByteArray.mk #[48,49,50,51,52,53,54,55,56,57,65,66,67,68,69,70]).extract (Int.toNat ((b.toNat:Int) / 16)) (Int.toNat (((b.toNat:Int) / 16)+1))))++((ByteArray.mk #[48,49,50,51,52,53,54,55,56,57,65,66,67,68,69,70]).extract (Int.toNat ((b.toNat:Int) % 16)) (Int.toNat (((b.toNat:Int) % 16)+1)))))⟩,⟨4,[],.int .i64 (((i:Nat):Int)+1)⟩]) [0] [0,3,4] (k:=?_))
   refine D8 (s':=(i+1,t++(((ByteArray.mk #[37])++((ByteArray.mk #[48,49,50,51,52,53,54,55,56,57,65,66,67,68,69,70]).extract (Int.toNat ((b.toNat:Int) / 16)) (Int.toNat (((b.toNat:Int) / 16)+1))))++((ByteArray.mk #[48,49,50,51,52,53,54,55,56,57,65,66,67,68,69,70]).extract (Int.toNat ((b.toNat:Int) % 16)) (Int.toNat (((b.toNat:Int) % 16)+1)))))) [0,3,4] kr rfl ⟨(by dsimp only; omega),(by dsimp only; rw [← hT,G0 _ (show i<s.data.toList.length by rw [B7]; omega),percL_cons,← hb,hpc]; first | (rw [D4,ext_one hlt,← hb,List.append_assoc]) | (rw [D4,D4,D4,extU (by omega) (by omega) rfl,extU (by omega) (by omega) rfl]; simp only [List.append_assoc]; rfl))⟩ (by dsimp only; omega)
 ·
  simp only [decide_eq_false_iff_not] at hc1
  refine F7 (A8 ?_)
  refine A8 (C2 ?_)
  refine A0 (A1 ?_)
  refine B3 (E':=[⟨2,[],.string t⟩]) [0,0] [2] (k:=A0 ?_)
  refine B6 (B5 [.tmp 2] [.string t] (k:=?_))
  exact ⟨congrArg Value.string (ba_eq (by rw [← hT,List.drop_eq_nil_of_le (by rw [B7]; omega)]; exact (List.append_nil _).symm)),rfl⟩
end Go.Proofs.YtbnfbffiehoapaaGreatDoor
namespace Go.Proofs.YtbnfbffiehoapaaGreatDoor
open Go.Sw Go.Sha Go.Esc Go.RowKit
theorem escHtml_ (a:ByteArray) (W0:World) (H:List Grp) (hW:I2 W0):Tri Tryz.prog 3 #[.string a] W0 H (fun v H'=>v=.bool true∧H'=H):=by
 refine D1 (args:=[.string a]) (n:=15) Tryz.func3 rfl rfl (Nat.le_of_ble_eq_true rfl) ?_
 refine A1 (B3 (E':=[⟨0,[],.string a⟩]) [0] [0] (k:=?_))
 refine A0 (A1 ?_)
 refine A1 (A2 ?_)
 refine G4 Tryz.func9 (first_ _ _ hW) (B0 [0] [0,4] (k:=?_))
 refine A0 (D7 kr ?_)
 refine A7 (A0 ?_)
 refine A1 (A2 ?_)
 refine A6 (j:=5) [0,0,0,0,0] (k:=F6 (ch:=[(8,false)]) (f:=10) (fst:=#[]) (caps:=#[]) (vs:=[.string a]) (v:=.string (bk (H8 a.data.toList))) (hf:=Tryz.func10) (hc:=(fun hc=>html_ a (by have hg0:=K0 (t:=8) (c:=[]) (b:=decide ((a.size:Int) > 3000)) hc kr; (try simp at hg0); omega) _ _)) (k:=?_))
 refine A6 (j:=7) [0] (k:=F6 (ch:=[(8,false)]) (f:=11) (fst:=#[]) (caps:=#[]) (vs:=[.string a]) (v:=.string (bk (H8 a.data.toList))) (hf:=Tryz.func11) (hc:=(fun hc=>rhtml_ a (by have hg0:=K0 (t:=8) (c:=[]) (b:=decide ((a.size:Int) > 3000)) hc kr; (try simp at hg0); omega) _ _)) (k:=?_))
 refine B0 [0,5,0] [2] (k:=A0 ?_)
 refine B6 (B5 [.tmp 2] [.bool ((decide ((a.size:Int) > 3000))||((bk (H8 a.data.toList)).toList==(bk (H8 a.data.toList)).toList))] (k:=?_))
 exact ⟨congrArg Value.bool (by rw [(eqB _ _).2 rfl,Bool.or_true]),rfl⟩
end Go.Proofs.YtbnfbffiehoapaaGreatDoor
namespace Go.Proofs.YtbnfbffiehoapaaGreatDoor
open Go.Sw Go.Sha Go.Esc Go.RowKit
theorem rjson_ (s:ByteArray) (hs:s.size≤1000000) (W0:World) (H:List Grp):Tri Tryz.prog 15 #[.string s] W0 H (fun v H'=>v=.string ⟨(H5 s.data.toList).toArray⟩∧H'=H):=by
 have hrl:=N6 s.data.toList
 rw [B7] at hrl
 refine D1 (args:=[.string s]) (n:=94) Tryz.func15 rfl rfl (Nat.le_of_ble_eq_true rfl) ?_
 refine A1 (B3 (E':=[⟨0,[],.string s⟩]) [0] [0] (k:=?_))
 refine A0 (A1 ?_)
 refine G_p [0] [0,3] (k:=A0 ?_)
 refine A1 (A1 ?_)
 refine A2 (A6 (j:=1) [0] (k:=?_))
 refine F2 Tryz.func20 (fixed_ s (by omega) _ _) ?_
 rintro _ _ ⟨iaf0,icf0,igf0,rfl,iOf0,rfl⟩
 refine B0 [0,0] [3,8,9,10] (k:=A0 ?_)
 refine B4 (I8 (EI:=(fun ξ:Nat × ByteArray=>[⟨3,[],.string ξ.2⟩,⟨8,[],.slice iaf0 ((A4 s.data.toList).length) icf0⟩,⟨9,[],.int .i64 (((A4 s.data.toList).length:Nat):Int)⟩,⟨10,[],.int .i64 ((ξ.1:Nat):Int)⟩])) (HI:=(fun ξ:Nat × ByteArray=>(igf0::H))) (Φ:=(fun ξ:Nat × ByteArray=>(ξ.1≤(A4 s.data.toList).length)∧(ξ.2.data.toList=34::((A4 s.data.toList).take ξ.1).flatMap I0))) (μ:=(fun ξ:Nat × ByteArray=>(A4 s.data.toList).length - ξ.1)) (s0:=(0,(ByteArray.mk #[34]))) [3,8,9,10] kr rfl ⟨(by omega),rfl⟩ ?_)
 rintro ⟨k,t⟩ ⟨hk,hT⟩
 dsimp only at hk hT
 have ht:t.size≤6 * (A4 s.data.toList).length+1:=by
  have h1:=flat_len jsonP_len ((A4 s.data.toList).take k)
  have h2:=congrArg List.length hT
  rw [B7,List.length_cons] at h2; rw [List.length_take] at h1; omega
 refine A1 (G_p [0] [3,8,9,10,11] (k:=?_))
 refine A0 (A1 ?_)
 refine B1 (b:=decide (((k:Nat):Int)<(((A4 s.data.toList).length:Nat):Int))) kr (fun hc2=>?_) (fun hc2=>?_)
 ·
  simp only [decide_eq_true_eq] at hc2
  have hlt:k<(A4 s.data.toList).length:=by omega
  have hel:=N4 ((A4 s.data.toList).getD k 0)
  have hpr:=K9 s.data.toList _ (memI hlt)
  unfold isR at hpr
  refine A7 (A0 ?_)
  refine A1 (B4 ?_)
  refine A1 (A2 ?_)
  refine C4 (ch:=[]) (a:=iaf0) (len:=(A4 s.data.toList).length) (cap:=icf0) (kd:=.i64) (j:=((k:Nat):Int)) (e:=3) (sz:=1) (S:=(inG igf0)) (cs:=(intV (A4 s.data.toList))) (hrd:=M7 iOf0) (hb:=(fun _=>by exact ⟨by omega,by omega,iv_ne (by omega)⟩)) (k:=E6 (ch:=[]) (a:=iaf0) (q:=k * 1) (S:=(inG igf0)) (cs:=(intV (A4 s.data.toList))) (v:=.int .i64 ((A4 s.data.toList).getD k 0)) (hrd:=M7 iOf0) (hS:=D2 0 rfl) (hv:=(fun _=>(by rw [Nat.mul_one]; exact iv_at (ps:=(A4 s.data.toList)) (k:=k) (by omega)))) (k:=?_))
  refine B0 [0] [3,5,8,9,10] (k:=A0 ?_)
  refine B4 (A1 ?_)
  refine G_p [0,0,0] [3,5,8,9,10,19] (k:=A0 ?_)
  refine B1 (b:=((A4 s.data.toList).getD k 0)==34) kr (fun hc3=>?_) (fun hc3=>?_)
  ·
   simp only [beq_iff_eq] at hc3
   have hpe:=hc3
   have hj:I0 ((A4 s.data.toList).getD k 0)=[92,34]:=by unfold I0; rw [if_pos (by omega),hpe]; decide +kernel
   refine A2 (A6 (j:=1) [0] (k:=?_))
   refine F5 (ch:=[]) (s:=t) (u:=(ByteArray.mk #[92,34])) (hb:=(by intro _; show t.size+2≤_; omega)) (k:=B0 [0] [3,8,9,10] (k:=?_))
   refine B2 (B2 ?_)
   refine A0 (A2 ?_)
   refine A6 (j:=1) [0] (k:=C3 91 (((k:Nat):Int)+1) (by omega) (by omega) kr ?_)
   refine B0 [0] [3,8,9,10] (k:=D8 (s':=(k+1,t++(ByteArray.mk #[92,34]))) [3,8,9,10] kr rfl ⟨(by dsimp only; omega),(by dsimp only; rw [I1 hlt,← List.cons_append,← hT,hj]; exact D4 _ _)⟩ (by dsimp only; omega))
  ·
   simp only [beq_eq_false_iff_ne,ne_eq] at hc3
   refine A1 (G_p [0,0,0] [3,5,8,9,10,24] (k:=?_))
   refine A0 (B1 (b:=((A4 s.data.toList).getD k 0)==92) kr (fun hc5=>?_) (fun hc5=>?_))
   ·
    simp only [beq_iff_eq] at hc5
    have hpe:=hc5
    have hj:I0 ((A4 s.data.toList).getD k 0)=[92,92]:=by unfold I0; rw [if_pos (by omega),hpe]; decide +kernel
    refine A2 (A6 (j:=1) [0] (k:=?_))
    refine F5 (ch:=[]) (s:=t) (u:=(ByteArray.mk #[92,92])) (hb:=(by intro _; show t.size+2≤_; omega)) (k:=B0 [0] [3,8,9,10] (k:=?_))
    refine B2 (B2 ?_)
    refine A0 (A2 ?_)
    refine A6 (j:=1) [0] (k:=C3 91 (((k:Nat):Int)+1) (by omega) (by omega) kr ?_)
    refine B8 (E':=[⟨3,[],.string (t++(ByteArray.mk #[92,92]))⟩,⟨8,[],.slice iaf0 ((A4 s.data.toList).length) icf0⟩,⟨9,[],.int .i64 (((A4 s.data.toList).length:Nat):Int)⟩,⟨10,[],.int .i64 (((k:Nat):Int)+1)⟩]) [0] [3,8,9,10] (k:=D8 (s':=(k+1,t++(ByteArray.mk #[92,92]))) [3,8,9,10] kr rfl ⟨(by dsimp only; omega),(by dsimp only; rw [I1 hlt,← List.cons_append,← hT,hj]; exact D4 _ _)⟩ (by dsimp only; omega))
   ·
    simp only [beq_eq_false_iff_ne,ne_eq] at hc5
    refine A1 (G_p [0,0,0] [3,5,8,9,10,29] (k:=?_))
    refine A0 (B1 (b:=((A4 s.data.toList).getD k 0)==10) kr (fun hc7=>?_) (fun hc7=>?_))
    ·
     simp only [beq_iff_eq] at hc7
     have hj:I0 ((A4 s.data.toList).getD k 0)=[92,110]:=by unfold I0; rw [if_neg (by omega),if_pos (by omega)]
     refine A2 (A6 (j:=1) [0] (k:=?_))
     refine F5 (ch:=[]) (s:=t) (u:=(ByteArray.mk #[92,110])) (hb:=(by intro _; show t.size+2≤_; omega)) (k:=B8 (E':=[⟨3,[],.string (t++(ByteArray.mk #[92,110]))⟩,⟨8,[],.slice iaf0 ((A4 s.data.toList).length) icf0⟩,⟨9,[],.int .i64 (((A4 s.data.toList).length:Nat):Int)⟩,⟨10,[],.int .i64 ((k:Nat):Int)⟩]) [0] [3,8,9,10] (k:=?_))
     refine B2 (B2 ?_)
     refine A0 (A2 ?_)
     refine A6 (j:=1) [0] (k:=C3 91 (((k:Nat):Int)+1) (by omega) (by omega) kr ?_)
     refine B0 [0] [3,8,9,10] (k:=D8 (s':=(k+1,t++(ByteArray.mk #[92,110]))) [3,8,9,10] kr rfl ⟨(by dsimp only; omega),(by dsimp only; rw [I1 hlt,← List.cons_append,← hT,hj]; exact D4 _ _)⟩ (by dsimp only; omega))
    ·
     simp only [beq_eq_false_iff_ne,ne_eq] at hc7
     refine A1 (B3 (E':=[⟨3,[],.string t⟩,⟨5,[],.int .i64 ((A4 s.data.toList).getD k 0)⟩,⟨8,[],.slice iaf0 ((A4 s.data.toList).length) icf0⟩,⟨9,[],.int .i64 (((A4 s.data.toList).length:Nat):Int)⟩,⟨10,[],.int .i64 ((k:Nat):Int)⟩,⟨34,[],.bool (((A4 s.data.toList).getD k 0)==13)⟩]) [0,0,0] [3,5,8,9,10,34] (k:=?_))
     refine A0 (B1 (b:=((A4 s.data.toList).getD k 0)==13) kr (fun hc9=>?_) (fun hc9=>?_))
     ·
      simp only [beq_iff_eq] at hc9
      have hj:I0 ((A4 s.data.toList).getD k 0)=[92,114]:=by unfold I0; rw [if_neg (by omega),if_neg (by omega),if_pos (by omega)]
      refine A2 (A6 (j:=1) [0] (k:=?_))
      refine F5 (ch:=[]) (s:=t) (u:=(ByteArray.mk #[92,114])) (hb:=(by intro _; show t.size+2≤_; omega)) (k:=B0 [0] [3,8,9,10] (k:=?_))
      refine B2 (B2 ?_)
      refine A0 (A2 ?_)
      refine A6 (j:=1) [0] (k:=C3 91 (((k:Nat):Int)+1) (by omega) (by omega) kr ?_)
      refine B0 [0] [3,8,9,10] (k:=D8 (s':=(k+1,t++(ByteArray.mk #[92,114]))) [3,8,9,10] kr rfl ⟨(by dsimp only; omega),(by dsimp only; rw [I1 hlt,← List.cons_append,← hT,hj]; exact D4 _ _)⟩ (by dsimp only; omega))
     ·
      simp only [beq_eq_false_iff_ne,ne_eq] at hc9
      refine A1 (G_p [0,0,0] [3,5,8,9,10,39] (k:=?_))
      refine A0 (B1 (b:=((A4 s.data.toList).getD k 0)==9) kr (fun hc11=>?_) (fun hc11=>?_))
      ·
       simp only [beq_iff_eq] at hc11
       have hj:I0 ((A4 s.data.toList).getD k 0)=[92,116]:=by unfold I0; rw [if_neg (by omega),if_neg (by omega),if_neg (by omega),if_pos (by omega)]
       refine A2 (A6 (j:=1) [0] (k:=?_))
       refine F5 (ch:=[]) (s:=t) (u:=(ByteArray.mk #[92,116])) (hb:=(by intro _; show t.size+2≤_; omega)) (k:=B0 [0] [3,8,9,10] (k:=?_))
       refine B2 (B2 ?_)
       refine A0 (A2 ?_)
       refine A6 (j:=1) [0] (k:=C3 91 (((k:Nat):Int)+1) (by omega) (by omega) kr ?_)
       refine B0 [0] [3,8,9,10] (k:=D8 (s':=(k+1,t++(ByteArray.mk #[92,116]))) [3,8,9,10] kr rfl ⟨(by dsimp only; omega),(by dsimp only; rw [I1 hlt,← List.cons_append,← hT,hj]; exact D4 _ _)⟩ (by dsimp only; omega))
      ·
       simp only [beq_eq_false_iff_ne,ne_eq] at hc11
       refine A1 (G_p [0,0,0,0,0,5,0,0,0,5,0,0,0,5,0,0,0,5,0,0,0,5,0,0,0,5,0] [3,5,8,9,10,44] (k:=?_))
       refine A0 (B1 (b:=((((((decide (((A4 s.data.toList).getD k 0)<32))||(((A4 s.data.toList).getD k 0)==127))||(((A4 s.data.toList).getD k 0)==8232))||(((A4 s.data.toList).getD k 0)==8233))||(((A4 s.data.toList).getD k 0)==60))||(((A4 s.data.toList).getD k 0)==62))||(((A4 s.data.toList).getD k 0)==38)) kr (fun hc13=>?_) (fun hc13=>?_))
       ·
        simp only [Bool.or_eq_true,decide_eq_true_eq,beq_iff_eq] at hc13
        have hj:I0 ((A4 s.data.toList).getD k 0)=92::117::hex4 (Int.toNat ((A4 s.data.toList).getD k 0)):=by unfold I0; rw [if_neg (by omega),if_neg (by omega),if_neg (by omega),if_neg (by omega),if_pos (by omega)]
        have hsL:(ByteArray.mk #[48,49,50,51,52,53,54,55,56,57,97,98,99,100,101,102]).size=16:=rfl
        have hs92:(ByteArray.mk #[92,117]).size=2:=rfl
        have hz4096:=sizeL (a:=((A4 s.data.toList).getD k 0) / 4096 % 16) (b:=((A4 s.data.toList).getD k 0) / 4096 % 16+1) (by omega) (by omega) rfl
        have hz256:=sizeL (a:=((A4 s.data.toList).getD k 0) / 256 % 16) (b:=((A4 s.data.toList).getD k 0) / 256 % 16+1) (by omega) (by omega) rfl
        have hz16:=sizeL (a:=((A4 s.data.toList).getD k 0) / 16 % 16) (b:=((A4 s.data.toList).getD k 0) / 16 % 16+1) (by omega) (by omega) rfl
        have hz1:=sizeL (a:=((A4 s.data.toList).getD k 0) / 1 % 16) (b:=((A4 s.data.toList).getD k 0) / 1 % 16+1) (by omega) (by omega) rfl
        refine A1 (A2 ?_)
        refine A6 (j:=1) [0] (k:=F5 (ch:=[]) (s:=t) (u:=(ByteArray.mk #[92,117])) (hb:=(by intro _; show t.size+2≤_; omega)) (k:=?_))
        refine B0 [0] [3,5,8,9,10] (k:=A0 ?_)
        refine A1 (G_p [0] [3,5,6,8,9,10] (k:=?_))
        refine A0 (B4 ?_)
        refine L9 5 (E4 ?_)
        refine A1 (A1 ?_)
        refine G_p [0,0] [3,5,6,8,9,10,74] (k:=A0 ?_)
        refine C6 kr (A7 ?_)
        refine A0 (A1 ?_)
        refine B4 (A2 ?_)
        refine C1 (E':=[⟨81,[],.int .i64 (Int.fdiv ((A4 s.data.toList).getD k 0) (2 ^ 12))⟩,⟨77,[],.string (t++(ByteArray.mk #[92,117]))⟩,⟨3,[],.string (t++(ByteArray.mk #[92,117]))⟩,⟨5,[],.int .i64 ((A4 s.data.toList).getD k 0)⟩,⟨6,[],.int .i64 12⟩,⟨8,[],.slice iaf0 ((A4 s.data.toList).length) icf0⟩,⟨9,[],.int .i64 (((A4 s.data.toList).length:Nat):Int)⟩,⟨10,[],.int .i64 ((k:Nat):Int)⟩]) (j:=5) [0,0,0,0,0] (k:=C8 (E':=[⟨81,[],.int .i64 (((A4 s.data.toList).getD k 0) / 4096)⟩,⟨77,[],.string (t++(ByteArray.mk #[92,117]))⟩,⟨3,[],.string (t++(ByteArray.mk #[92,117]))⟩,⟨5,[],.int .i64 ((A4 s.data.toList).getD k 0)⟩,⟨6,[],.int .i64 12⟩,⟨8,[],.slice iaf0 ((A4 s.data.toList).length) icf0⟩,⟨9,[],.int .i64 (((A4 s.data.toList).length:Nat):Int)⟩,⟨10,[],.int .i64 ((k:Nat):Int)⟩]) (by rw [fd12]) ?_)
        refine A6 (j:=6) [0] (k:=?_)
        have hw14:Int.tmod (((A4 s.data.toList).getD k 0) / 4096) 16=(((A4 s.data.toList).getD k 0) / 4096) % 16:=r64 (by omega)
        refine GL_w 82 hw14 kr (C1 (E':=[⟨86,[],.int .i64 (Int.fdiv ((A4 s.data.toList).getD k 0) (2 ^ 12))⟩,⟨82,[],.int .i64 ((((A4 s.data.toList).getD k 0) / 4096) % 16)⟩,⟨77,[],.string (t++(ByteArray.mk #[92,117]))⟩,⟨3,[],.string (t++(ByteArray.mk #[92,117]))⟩,⟨5,[],.int .i64 ((A4 s.data.toList).getD k 0)⟩,⟨6,[],.int .i64 12⟩,⟨8,[],.slice iaf0 ((A4 s.data.toList).length) icf0⟩,⟨9,[],.int .i64 (((A4 s.data.toList).length:Nat):Int)⟩,⟨10,[],.int .i64 ((k:Nat):Int)⟩]) (j:=10) [0,0,0,0] (k:=?_))
        refine C8 (E':=[⟨86,[],.int .i64 (((A4 s.data.toList).getD k 0) / 4096)⟩,⟨82,[],.int .i64 ((((A4 s.data.toList).getD k 0) / 4096) % 16)⟩,⟨77,[],.string (t++(ByteArray.mk #[92,117]))⟩,⟨3,[],.string (t++(ByteArray.mk #[92,117]))⟩,⟨5,[],.int .i64 ((A4 s.data.toList).getD k 0)⟩,⟨6,[],.int .i64 12⟩,⟨8,[],.slice iaf0 ((A4 s.data.toList).length) icf0⟩,⟨9,[],.int .i64 (((A4 s.data.toList).length:Nat):Int)⟩,⟨10,[],.int .i64 ((k:Nat):Int)⟩]) (by rw [fd12]) (A6 (j:=11) [0] (k:=?_))
        have hw15:Int.tmod (((A4 s.data.toList).getD k 0) / 4096) 16=(((A4 s.data.toList).getD k 0) / 4096) % 16:=r64 (by omega)
        refine GL_w 87 hw15 kr (A6 (j:=12) [0] (k:=?_))
        refine C3 88 (((((A4 s.data.toList).getD k 0) / 4096) % 16)+1) (by omega) (by omega) kr (E8 (ch:=[]) (s:=(ByteArray.mk #[48,49,50,51,52,53,54,55,56,57,97,98,99,100,101,102])) (vl:=(some (.int .i64 ((((A4 s.data.toList).getD k 0) / 4096) % 16)))) (vh:=(some (.int .i64 (((((A4 s.data.toList).getD k 0) / 4096) % 16)+1)))) (l:=(((A4 s.data.toList).getD k 0) / 4096) % 16) (h:=((((A4 s.data.toList).getD k 0) / 4096) % 16)+1) (hb:=(fun _=>by (try simp only [E5]); omega)) (k:=?_))
        refine F5 (ch:=[]) (s:=t++(ByteArray.mk #[92,117])) (u:=(ByteArray.mk #[48,49,50,51,52,53,54,55,56,57,97,98,99,100,101,102]).extract (Int.toNat ((((A4 s.data.toList).getD k 0) / 4096) % 16)) (Int.toNat (((((A4 s.data.toList).getD k 0) / 4096) % 16)+1))) (hb:=(fun _=>by (try simp only [E5]); omega)) (k:=B8 (E':=[⟨3,[],.string ((t++(ByteArray.mk #[92,117]))++((ByteArray.mk #[48,49,50,51,52,53,54,55,56,57,97,98,99,100,101,102]).extract (Int.toNat ((((A4 s.data.toList).getD k 0) / 4096) % 16)) (Int.toNat (((((A4 s.data.toList).getD k 0) / 4096) % 16)+1))))⟩,⟨5,[],.int .i64 ((A4 s.data.toList).getD k 0)⟩,⟨6,[],.int .i64 12⟩,⟨8,[],.slice iaf0 ((A4 s.data.toList).length) icf0⟩,⟨9,[],.int .i64 (((A4 s.data.toList).length:Nat):Int)⟩,⟨10,[],.int .i64 ((k:Nat):Int)⟩]) [0] [3,5,6,8,9,10] (k:=?_))
        refine B2 (A0 ?_)
        refine G_p [0,0,0] [3,5,6,8,9,10] (k:=N_rd ?_)
        refine E4 (A1 ?_)
        refine A1 (G_p [0,0] [3,5,6,8,9,10,74] (k:=?_))
        refine A0 (C6 kr ?_)
        refine A7 (A0 ?_)
        refine A1 (B4 ?_)
        refine A2 (C1 (E':=[⟨81,[],.int .i64 (Int.fdiv ((A4 s.data.toList).getD k 0) (2 ^ 8))⟩,⟨77,[],.string ((t++(ByteArray.mk #[92,117]))++((ByteArray.mk #[48,49,50,51,52,53,54,55,56,57,97,98,99,100,101,102]).extract (Int.toNat ((((A4 s.data.toList).getD k 0) / 4096) % 16)) (Int.toNat (((((A4 s.data.toList).getD k 0) / 4096) % 16)+1))))⟩,⟨3,[],.string ((t++(ByteArray.mk #[92,117]))++((ByteArray.mk #[48,49,50,51,52,53,54,55,56,57,97,98,99,100,101,102]).extract (Int.toNat ((((A4 s.data.toList).getD k 0) / 4096) % 16)) (Int.toNat (((((A4 s.data.toList).getD k 0) / 4096) % 16)+1))))⟩,⟨5,[],.int .i64 ((A4 s.data.toList).getD k 0)⟩,⟨6,[],.int .i64 8⟩,⟨8,[],.slice iaf0 ((A4 s.data.toList).length) icf0⟩,⟨9,[],.int .i64 (((A4 s.data.toList).length:Nat):Int)⟩,⟨10,[],.int .i64 ((k:Nat):Int)⟩]) (j:=5) [0,0,0,0,0] (k:=?_))
        refine C8 (E':=[⟨81,[],.int .i64 (((A4 s.data.toList).getD k 0) / 256)⟩,⟨77,[],.string ((t++(ByteArray.mk #[92,117]))++((ByteArray.mk #[48,49,50,51,52,53,54,55,56,57,97,98,99,100,101,102]).extract (Int.toNat ((((A4 s.data.toList).getD k 0) / 4096) % 16)) (Int.toNat (((((A4 s.data.toList).getD k 0) / 4096) % 16)+1))))⟩,⟨3,[],.string ((t++(ByteArray.mk #[92,117]))++((ByteArray.mk #[48,49,50,51,52,53,54,55,56,57,97,98,99,100,101,102]).extract (Int.toNat ((((A4 s.data.toList).getD k 0) / 4096) % 16)) (Int.toNat (((((A4 s.data.toList).getD k 0) / 4096) % 16)+1))))⟩,⟨5,[],.int .i64 ((A4 s.data.toList).getD k 0)⟩,⟨6,[],.int .i64 8⟩,⟨8,[],.slice iaf0 ((A4 s.data.toList).length) icf0⟩,⟨9,[],.int .i64 (((A4 s.data.toList).length:Nat):Int)⟩,⟨10,[],.int .i64 ((k:Nat):Int)⟩]) (by rw [fd8]) (A6 (j:=6) [0] (k:=?_))
        have hw17:Int.tmod (((A4 s.data.toList).getD k 0) / 256) 16=(((A4 s.data.toList).getD k 0) / 256) % 16:=r64 (by omega)
        refine GL_w 82 hw17 kr (C1 (E':=[⟨86,[],.int .i64 (Int.fdiv ((A4 s.data.toList).getD k 0) (2 ^ 8))⟩,⟨82,[],.int .i64 ((((A4 s.data.toList).getD k 0) / 256) % 16)⟩,⟨77,[],.string ((t++(ByteArray.mk #[92,117]))++((ByteArray.mk #[48,49,50,51,52,53,54,55,56,57,97,98,99,100,101,102]).extract (Int.toNat ((((A4 s.data.toList).getD k 0) / 4096) % 16)) (Int.toNat (((((A4 s.data.toList).getD k 0) / 4096) % 16)+1))))⟩,⟨3,[],.string ((t++(ByteArray.mk #[92,117]))++((ByteArray.mk #[48,49,50,51,52,53,54,55,56,57,97,98,99,100,101,102]).extract (Int.toNat ((((A4 s.data.toList).getD k 0) / 4096) % 16)) (Int.toNat (((((A4 s.data.toList).getD k 0) / 4096) % 16)+1))))⟩,⟨5,[],.int .i64 ((A4 s.data.toList).getD k 0)⟩,⟨6,[],.int .i64 8⟩,⟨8,[],.slice iaf0 ((A4 s.data.toList).length) icf0⟩,⟨9,[],.int .i64 (((A4 s.data.toList).length:Nat):Int)⟩,⟨10,[],.int .i64 ((k:Nat):Int)⟩]) (j:=10) [0,0,0,0] (k:=?_))
        refine C8 (E':=[⟨86,[],.int .i64 (((A4 s.data.toList).getD k 0) / 256)⟩,⟨82,[],.int .i64 ((((A4 s.data.toList).getD k 0) / 256) % 16)⟩,⟨77,[],.string ((t++(ByteArray.mk #[92,117]))++((ByteArray.mk #[48,49,50,51,52,53,54,55,56,57,97,98,99,100,101,102]).extract (Int.toNat ((((A4 s.data.toList).getD k 0) / 4096) % 16)) (Int.toNat (((((A4 s.data.toList).getD k 0) / 4096) % 16)+1))))⟩,⟨3,[],.string ((t++(ByteArray.mk #[92,117]))++((ByteArray.mk #[48,49,50,51,52,53,54,55,56,57,97,98,99,100,101,102]).extract (Int.toNat ((((A4 s.data.toList).getD k 0) / 4096) % 16)) (Int.toNat (((((A4 s.data.toList).getD k 0) / 4096) % 16)+1))))⟩,⟨5,[],.int .i64 ((A4 s.data.toList).getD k 0)⟩,⟨6,[],.int .i64 8⟩,⟨8,[],.slice iaf0 ((A4 s.data.toList).length) icf0⟩,⟨9,[],.int .i64 (((A4 s.data.toList).length:Nat):Int)⟩,⟨10,[],.int .i64 ((k:Nat):Int)⟩]) (by rw [fd8]) (A6 (j:=11) [0] (k:=?_))
        have hw18:Int.tmod (((A4 s.data.toList).getD k 0) / 256) 16=(((A4 s.data.toList).getD k 0) / 256) % 16:=r64 (by omega)
        refine GL_w 87 hw18 kr (A6 (j:=12) [0] (k:=?_))
        refine C3 88 (((((A4 s.data.toList).getD k 0) / 256) % 16)+1) (by omega) (by omega) kr (E8 (ch:=[]) (s:=(ByteArray.mk #[48,49,50,51,52,53,54,55,56,57,97,98,99,100,101,102])) (vl:=(some (.int .i64 ((((A4 s.data.toList).getD k 0) / 256) % 16)))) (vh:=(some (.int .i64 (((((A4 s.data.toList).getD k 0) / 256) % 16)+1)))) (l:=(((A4 s.data.toList).getD k 0) / 256) % 16) (h:=((((A4 s.data.toList).getD k 0) / 256) % 16)+1) (hb:=(fun _=>by (try simp only [E5]); omega)) (k:=?_))
        refine F5 (ch:=[]) (s:=(t++(ByteArray.mk #[92,117]))++((ByteArray.mk #[48,49,50,51,52,53,54,55,56,57,97,98,99,100,101,102]).extract (Int.toNat ((((A4 s.data.toList).getD k 0) / 4096) % 16)) (Int.toNat (((((A4 s.data.toList).getD k 0) / 4096) % 16)+1)))) (u:=(ByteArray.mk #[48,49,50,51,52,53,54,55,56,57,97,98,99,100,101,102]).extract (Int.toNat ((((A4 s.data.toList).getD k 0) / 256) % 16)) (Int.toNat (((((A4 s.data.toList).getD k 0) / 256) % 16)+1))) (hb:=(fun _=>by (try simp only [E5]); omega)) (k:=B0 [0] [3,5,6,8,9,10] (k:=?_))
        refine B2 (A0 ?_)
        refine G_p [0,0,0] [3,5,6,8,9,10] (k:=N_rd ?_)
        refine E4 (A1 ?_)
        refine A1 (G_p [0,0] [3,5,6,8,9,10,74] (k:=?_))
        refine A0 (C6 kr ?_)
        refine A7 (A0 ?_)
        refine A1 (B4 ?_)
        refine A2 (C1 (E':=[⟨81,[],.int .i64 (Int.fdiv ((A4 s.data.toList).getD k 0) (2 ^ 4))⟩,⟨77,[],.string (((t++(ByteArray.mk #[92,117]))++((ByteArray.mk #[48,49,50,51,52,53,54,55,56,57,97,98,99,100,101,102]).extract (Int.toNat ((((A4 s.data.toList).getD k 0) / 4096) % 16)) (Int.toNat (((((A4 s.data.toList).getD k 0) / 4096) % 16)+1))))++((ByteArray.mk #[48,49,50,51,52,53,54,55,56,57,97,98,99,100,101,102]).extract (Int.toNat ((((A4 s.data.toList).getD k 0) / 256) % 16)) (Int.toNat (((((A4 s.data.toList).getD k 0) / 256) % 16)+1))))⟩,⟨3,[],.string (((t++(ByteArray.mk #[92,117]))++((ByteArray.mk #[48,49,50,51,52,53,54,55,56,57,97,98,99,100,101,102]).extract (Int.toNat ((((A4 s.data.toList).getD k 0) / 4096) % 16)) (Int.toNat (((((A4 s.data.toList).getD k 0) / 4096) % 16)+1))))++((ByteArray.mk #[48,49,50,51,52,53,54,55,56,57,97,98,99,100,101,102]).extract (Int.toNat ((((A4 s.data.toList).getD k 0) / 256) % 16)) (Int.toNat (((((A4 s.data.toList).getD k 0) / 256) % 16)+1))))⟩,⟨5,[],.int .i64 ((A4 s.data.toList).getD k 0)⟩,⟨6,[],.int .i64 4⟩,⟨8,[],.slice iaf0 ((A4 s.data.toList).length) icf0⟩,⟨9,[],.int .i64 (((A4 s.data.toList).length:Nat):Int)⟩,⟨10,[],.int .i64 ((k:Nat):Int)⟩]) (j:=5) [0,0,0,0,0] (k:=?_))
        refine C8 (E':=[⟨81,[],.int .i64 (((A4 s.data.toList).getD k 0) / 16)⟩,⟨77,[],.string (((t++(ByteArray.mk #[92,117]))++((ByteArray.mk #[48,49,50,51,52,53,54,55,56,57,97,98,99,100,101,102]).extract (Int.toNat ((((A4 s.data.toList).getD k 0) / 4096) % 16)) (Int.toNat (((((A4 s.data.toList).getD k 0) / 4096) % 16)+1))))++((ByteArray.mk #[48,49,50,51,52,53,54,55,56,57,97,98,99,100,101,102]).extract (Int.toNat ((((A4 s.data.toList).getD k 0) / 256) % 16)) (Int.toNat (((((A4 s.data.toList).getD k 0) / 256) % 16)+1))))⟩,⟨3,[],.string (((t++(ByteArray.mk #[92,117]))++((ByteArray.mk #[48,49,50,51,52,53,54,55,56,57,97,98,99,100,101,102]).extract (Int.toNat ((((A4 s.data.toList).getD k 0) / 4096) % 16)) (Int.toNat (((((A4 s.data.toList).getD k 0) / 4096) % 16)+1))))++((ByteArray.mk #[48,49,50,51,52,53,54,55,56,57,97,98,99,100,101,102]).extract (Int.toNat ((((A4 s.data.toList).getD k 0) / 256) % 16)) (Int.toNat (((((A4 s.data.toList).getD k 0) / 256) % 16)+1))))⟩,⟨5,[],.int .i64 ((A4 s.data.toList).getD k 0)⟩,⟨6,[],.int .i64 4⟩,⟨8,[],.slice iaf0 ((A4 s.data.toList).length) icf0⟩,⟨9,[],.int .i64 (((A4 s.data.toList).length:Nat):Int)⟩,⟨10,[],.int .i64 ((k:Nat):Int)⟩]) (by rw [fd4]) (A6 (j:=6) [0] (k:=?_))
        have hw20:Int.tmod (((A4 s.data.toList).getD k 0) / 16) 16=(((A4 s.data.toList).getD k 0) / 16) % 16:=r64 (by omega)
        refine GL_w 82 hw20 kr (C1 (E':=[⟨86,[],.int .i64 (Int.fdiv ((A4 s.data.toList).getD k 0) (2 ^ 4))⟩,⟨82,[],.int .i64 ((((A4 s.data.toList).getD k 0) / 16) % 16)⟩,⟨77,[],.string (((t++(ByteArray.mk #[92,117]))++((ByteArray.mk #[48,49,50,51,52,53,54,55,56,57,97,98,99,100,101,102]).extract (Int.toNat ((((A4 s.data.toList).getD k 0) / 4096) % 16)) (Int.toNat (((((A4 s.data.toList).getD k 0) / 4096) % 16)+1))))++((ByteArray.mk #[48,49,50,51,52,53,54,55,56,57,97,98,99,100,101,102]).extract (Int.toNat ((((A4 s.data.toList).getD k 0) / 256) % 16)) (Int.toNat (((((A4 s.data.toList).getD k 0) / 256) % 16)+1))))⟩,⟨3,[],.string (((t++(ByteArray.mk #[92,117]))++((ByteArray.mk #[48,49,50,51,52,53,54,55,56,57,97,98,99,100,101,102]).extract (Int.toNat ((((A4 s.data.toList).getD k 0) / 4096) % 16)) (Int.toNat (((((A4 s.data.toList).getD k 0) / 4096) % 16)+1))))++((ByteArray.mk #[48,49,50,51,52,53,54,55,56,57,97,98,99,100,101,102]).extract (Int.toNat ((((A4 s.data.toList).getD k 0) / 256) % 16)) (Int.toNat (((((A4 s.data.toList).getD k 0) / 256) % 16)+1))))⟩,⟨5,[],.int .i64 ((A4 s.data.toList).getD k 0)⟩,⟨6,[],.int .i64 4⟩,⟨8,[],.slice iaf0 ((A4 s.data.toList).length) icf0⟩,⟨9,[],.int .i64 (((A4 s.data.toList).length:Nat):Int)⟩,⟨10,[],.int .i64 ((k:Nat):Int)⟩]) (j:=10) [0,0,0,0] (k:=?_))
        refine C8 (E':=[⟨86,[],.int .i64 (((A4 s.data.toList).getD k 0) / 16)⟩,⟨82,[],.int .i64 ((((A4 s.data.toList).getD k 0) / 16) % 16)⟩,⟨77,[],.string (((t++(ByteArray.mk #[92,117]))++((ByteArray.mk #[48,49,50,51,52,53,54,55,56,57,97,98,99,100,101,102]).extract (Int.toNat ((((A4 s.data.toList).getD k 0) / 4096) % 16)) (Int.toNat (((((A4 s.data.toList).getD k 0) / 4096) % 16)+1))))++((ByteArray.mk #[48,49,50,51,52,53,54,55,56,57,97,98,99,100,101,102]).extract (Int.toNat ((((A4 s.data.toList).getD k 0) / 256) % 16)) (Int.toNat (((((A4 s.data.toList).getD k 0) / 256) % 16)+1))))⟩,⟨3,[],.string (((t++(ByteArray.mk #[92,117]))++((ByteArray.mk #[48,49,50,51,52,53,54,55,56,57,97,98,99,100,101,102]).extract (Int.toNat ((((A4 s.data.toList).getD k 0) / 4096) % 16)) (Int.toNat (((((A4 s.data.toList).getD k 0) / 4096) % 16)+1))))++((ByteArray.mk #[48,49,50,51,52,53,54,55,56,57,97,98,99,100,101,102]).extract (Int.toNat ((((A4 s.data.toList).getD k 0) / 256) % 16)) (Int.toNat (((((A4 s.data.toList).getD k 0) / 256) % 16)+1))))⟩,⟨5,[],.int .i64 ((A4 s.data.toList).getD k 0)⟩,⟨6,[],.int .i64 4⟩,⟨8,[],.slice iaf0 ((A4 s.data.toList).length) icf0⟩,⟨9,[],.int .i64 (((A4 s.data.toList).length:Nat):Int)⟩,⟨10,[],.int .i64 ((k:Nat):Int)⟩]) (by rw [fd4]) (A6 (j:=11) [0] (k:=?_))
        have hw21:Int.tmod (((A4 s.data.toList).getD k 0) / 16) 16=(((A4 s.data.toList).getD k 0) / 16) % 16:=r64 (by omega)
        refine GL_w 87 hw21 kr (A6 (j:=12) [0] (k:=?_))
        refine C3 88 (((((A4 s.data.toList).getD k 0) / 16) % 16)+1) (by omega) (by omega) kr (E8 (ch:=[]) (s:=(ByteArray.mk #[48,49,50,51,52,53,54,55,56,57,97,98,99,100,101,102])) (vl:=(some (.int .i64 ((((A4 s.data.toList).getD k 0) / 16) % 16)))) (vh:=(some (.int .i64 (((((A4 s.data.toList).getD k 0) / 16) % 16)+1)))) (l:=(((A4 s.data.toList).getD k 0) / 16) % 16) (h:=((((A4 s.data.toList).getD k 0) / 16) % 16)+1) (hb:=(fun _=>by (try simp only [E5]); omega)) (k:=?_))
        refine F5 (ch:=[]) (s:=((t++(ByteArray.mk #[92,117]))++((ByteArray.mk #[48,49,50,51,52,53,54,55,56,57,97,98,99,100,101,102]).extract (Int.toNat ((((A4 s.data.toList).getD k 0) / 4096) % 16)) (Int.toNat (((((A4 s.data.toList).getD k 0) / 4096) % 16)+1))))++((ByteArray.mk #[48,49,50,51,52,53,54,55,56,57,97,98,99,100,101,102]).extract (Int.toNat ((((A4 s.data.toList).getD k 0) / 256) % 16)) (Int.toNat (((((A4 s.data.toList).getD k 0) / 256) % 16)+1)))) (u:=(ByteArray.mk #[48,49,50,51,52,53,54,55,56,57,97,98,99,100,101,102]).extract (Int.toNat ((((A4 s.data.toList).getD k 0) / 16) % 16)) (Int.toNat (((((A4 s.data.toList).getD k 0) / 16) % 16)+1))) (hb:=(fun _=>by (try simp only [E5]); omega)) (k:=B8 (E':=[⟨3,[],.string ((((t++(ByteArray.mk #[92,117]))++((ByteArray.mk #[48,49,50,51,52,53,54,55,56,57,97,98,99,100,101,102]).extract (Int.toNat ((((A4 s.data.toList).getD k 0) / 4096) % 16)) (Int.toNat (((((A4 s.data.toList).getD k 0) / 4096) % 16)+1))))++((ByteArray.mk #[48,49,50,51,52,53,54,55,56,57,97,98,99,100,101,102]).extract (Int.toNat ((((A4 s.data.toList).getD k 0) / 256) % 16)) (Int.toNat (((((A4 s.data.toList).getD k 0) / 256) % 16)+1))))++((ByteArray.mk #[48,49,50,51,52,53,54,55,56,57,97,98,99,100,101,102]).extract (Int.toNat ((((A4 s.data.toList).getD k 0) / 16) % 16)) (Int.toNat (((((A4 s.data.toList).getD k 0) / 16) % 16)+1))))⟩,⟨5,[],.int .i64 ((A4 s.data.toList).getD k 0)⟩,⟨6,[],.int .i64 4⟩,⟨8,[],.slice iaf0 ((A4 s.data.toList).length) icf0⟩,⟨9,[],.int .i64 (((A4 s.data.toList).length:Nat):Int)⟩,⟨10,[],.int .i64 ((k:Nat):Int)⟩]) [0] [3,5,6,8,9,10] (k:=?_))
        refine B2 (A0 ?_)
        refine G_p [0,0,0] [3,5,6,8,9,10] (k:=N_rd ?_)
        refine E4 (A1 ?_)
        refine A1 (G_p [0,0] [3,5,6,8,9,10,74] (k:=?_))
        refine A0 (C6 kr ?_)
        refine A7 (A0 ?_)
        refine A1 (B4 ?_)
        refine A2 (C1 (E':=[⟨81,[],.int .i64 (Int.fdiv ((A4 s.data.toList).getD k 0) (2 ^ 0))⟩,⟨77,[],.string ((((t++(ByteArray.mk #[92,117]))++((ByteArray.mk #[48,49,50,51,52,53,54,55,56,57,97,98,99,100,101,102]).extract (Int.toNat ((((A4 s.data.toList).getD k 0) / 4096) % 16)) (Int.toNat (((((A4 s.data.toList).getD k 0) / 4096) % 16)+1))))++((ByteArray.mk #[48,49,50,51,52,53,54,55,56,57,97,98,99,100,101,102]).extract (Int.toNat ((((A4 s.data.toList).getD k 0) / 256) % 16)) (Int.toNat (((((A4 s.data.toList).getD k 0) / 256) % 16)+1))))++((ByteArray.mk #[48,49,50,51,52,53,54,55,56,57,97,98,99,100,101,102]).extract (Int.toNat ((((A4 s.data.toList).getD k 0) / 16) % 16)) (Int.toNat (((((A4 s.data.toList).getD k 0) / 16) % 16)+1))))⟩,⟨3,[],.string ((((t++(ByteArray.mk #[92,117]))++((ByteArray.mk #[48,49,50,51,52,53,54,55,56,57,97,98,99,100,101,102]).extract (Int.toNat ((((A4 s.data.toList).getD k 0) / 4096) % 16)) (Int.toNat (((((A4 s.data.toList).getD k 0) / 4096) % 16)+1))))++((ByteArray.mk #[48,49,50,51,52,53,54,55,56,57,97,98,99,100,101,102]).extract (Int.toNat ((((A4 s.data.toList).getD k 0) / 256) % 16)) (Int.toNat (((((A4 s.data.toList).getD k 0) / 256) % 16)+1))))++((ByteArray.mk #[48,49,50,51,52,53,54,55,56,57,97,98,99,100,101,102]).extract (Int.toNat ((((A4 s.data.toList).getD k 0) / 16) % 16)) (Int.toNat (((((A4 s.data.toList).getD k 0) / 16) % 16)+1))))⟩,⟨5,[],.int .i64 ((A4 s.data.toList).getD k 0)⟩,⟨6,[],.int .i64 0⟩,⟨8,[],.slice iaf0 ((A4 s.data.toList).length) icf0⟩,⟨9,[],.int .i64 (((A4 s.data.toList).length:Nat):Int)⟩,⟨10,[],.int .i64 ((k:Nat):Int)⟩]) (j:=5) [0,0,0,0,0] (k:=?_))
        refine C8 (E':=[⟨81,[],.int .i64 (((A4 s.data.toList).getD k 0) / 1)⟩,⟨77,[],.string ((((t++(ByteArray.mk #[92,117]))++((ByteArray.mk #[48,49,50,51,52,53,54,55,56,57,97,98,99,100,101,102]).extract (Int.toNat ((((A4 s.data.toList).getD k 0) / 4096) % 16)) (Int.toNat (((((A4 s.data.toList).getD k 0) / 4096) % 16)+1))))++((ByteArray.mk #[48,49,50,51,52,53,54,55,56,57,97,98,99,100,101,102]).extract (Int.toNat ((((A4 s.data.toList).getD k 0) / 256) % 16)) (Int.toNat (((((A4 s.data.toList).getD k 0) / 256) % 16)+1))))++((ByteArray.mk #[48,49,50,51,52,53,54,55,56,57,97,98,99,100,101,102]).extract (Int.toNat ((((A4 s.data.toList).getD k 0) / 16) % 16)) (Int.toNat (((((A4 s.data.toList).getD k 0) / 16) % 16)+1))))⟩,⟨3,[],.string ((((t++(ByteArray.mk #[92,117]))++((ByteArray.mk #[48,49,50,51,52,53,54,55,56,57,97,98,99,100,101,102]).extract (Int.toNat ((((A4 s.data.toList).getD k 0) / 4096) % 16)) (Int.toNat (((((A4 s.data.toList).getD k 0) / 4096) % 16)+1))))++((ByteArray.mk #[48,49,50,51,52,53,54,55,56,57,97,98,99,100,101,102]).extract (Int.toNat ((((A4 s.data.toList).getD k 0) / 256) % 16)) (Int.toNat (((((A4 s.data.toList).getD k 0) / 256) % 16)+1))))++((ByteArray.mk #[48,49,50,51,52,53,54,55,56,57,97,98,99,100,101,102]).extract (Int.toNat ((((A4 s.data.toList).getD k 0) / 16) % 16)) (Int.toNat (((((A4 s.data.toList).getD k 0) / 16) % 16)+1))))⟩,⟨5,[],.int .i64 ((A4 s.data.toList).getD k 0)⟩,⟨6,[],.int .i64 0⟩,⟨8,[],.slice iaf0 ((A4 s.data.toList).length) icf0⟩,⟨9,[],.int .i64 (((A4 s.data.toList).length:Nat):Int)⟩,⟨10,[],.int .i64 ((k:Nat):Int)⟩]) (by rw [fd0]) (A6 (j:=6) [0] (k:=?_))
        have hw23:Int.tmod (((A4 s.data.toList).getD k 0) / 1) 16=(((A4 s.data.toList).getD k 0) / 1) % 16:=r64 (by omega)
        refine GL_w 82 hw23 kr (C1 (E':=[⟨86,[],.int .i64 (Int.fdiv ((A4 s.data.toList).getD k 0) (2 ^ 0))⟩,⟨82,[],.int .i64 ((((A4 s.data.toList).getD k 0) / 1) % 16)⟩,⟨77,[],.string ((((t++(ByteArray.mk #[92,117]))++((ByteArray.mk #[48,49,50,51,52,53,54,55,56,57,97,98,99,100,101,102]).extract (Int.toNat ((((A4 s.data.toList).getD k 0) / 4096) % 16)) (Int.toNat (((((A4 s.data.toList).getD k 0) / 4096) % 16)+1))))++((ByteArray.mk #[48,49,50,51,52,53,54,55,56,57,97,98,99,100,101,102]).extract (Int.toNat ((((A4 s.data.toList).getD k 0) / 256) % 16)) (Int.toNat (((((A4 s.data.toList).getD k 0) / 256) % 16)+1))))++((ByteArray.mk #[48,49,50,51,52,53,54,55,56,57,97,98,99,100,101,102]).extract (Int.toNat ((((A4 s.data.toList).getD k 0) / 16) % 16)) (Int.toNat (((((A4 s.data.toList).getD k 0) / 16) % 16)+1))))⟩,⟨3,[],.string ((((t++(ByteArray.mk #[92,117]))++((ByteArray.mk #[48,49,50,51,52,53,54,55,56,57,97,98,99,100,101,102]).extract (Int.toNat ((((A4 s.data.toList).getD k 0) / 4096) % 16)) (Int.toNat (((((A4 s.data.toList).getD k 0) / 4096) % 16)+1))))++((ByteArray.mk #[48,49,50,51,52,53,54,55,56,57,97,98,99,100,101,102]).extract (Int.toNat ((((A4 s.data.toList).getD k 0) / 256) % 16)) (Int.toNat (((((A4 s.data.toList).getD k 0) / 256) % 16)+1))))++((ByteArray.mk #[48,49,50,51,52,53,54,55,56,57,97,98,99,100,101,102]).extract (Int.toNat ((((A4 s.data.toList).getD k 0) / 16) % 16)) (Int.toNat (((((A4 s.data.toList).getD k 0) / 16) % 16)+1))))⟩,⟨5,[],.int .i64 ((A4 s.data.toList).getD k 0)⟩,⟨6,[],.int .i64 0⟩,⟨8,[],.slice iaf0 ((A4 s.data.toList).length) icf0⟩,⟨9,[],.int .i64 (((A4 s.data.toList).length:Nat):Int)⟩,⟨10,[],.int .i64 ((k:Nat):Int)⟩]) (j:=10) [0,0,0,0] (k:=?_))
        refine C8 (E':=[⟨86,[],.int .i64 (((A4 s.data.toList).getD k 0) / 1)⟩,⟨82,[],.int .i64 ((((A4 s.data.toList).getD k 0) / 1) % 16)⟩,⟨77,[],.string ((((t++(ByteArray.mk #[92,117]))++((ByteArray.mk #[48,49,50,51,52,53,54,55,56,57,97,98,99,100,101,102]).extract (Int.toNat ((((A4 s.data.toList).getD k 0) / 4096) % 16)) (Int.toNat (((((A4 s.data.toList).getD k 0) / 4096) % 16)+1))))++((ByteArray.mk #[48,49,50,51,52,53,54,55,56,57,97,98,99,100,101,102]).extract (Int.toNat ((((A4 s.data.toList).getD k 0) / 256) % 16)) (Int.toNat (((((A4 s.data.toList).getD k 0) / 256) % 16)+1))))++((ByteArray.mk #[48,49,50,51,52,53,54,55,56,57,97,98,99,100,101,102]).extract (Int.toNat ((((A4 s.data.toList).getD k 0) / 16) % 16)) (Int.toNat (((((A4 s.data.toList).getD k 0) / 16) % 16)+1))))⟩,⟨3,[],.string ((((t++(ByteArray.mk #[92,117]))++((ByteArray.mk #[48,49,50,51,52,53,54,55,56,57,97,98,99,100,101,102]).extract (Int.toNat ((((A4 s.data.toList).getD k 0) / 4096) % 16)) (Int.toNat (((((A4 s.data.toList).getD k 0) / 4096) % 16)+1))))++((ByteArray.mk #[48,49,50,51,52,53,54,55,56,57,97,98,99,100,101,102]).extract (Int.toNat ((((A4 s.data.toList).getD k 0) / 256) % 16)) (Int.toNat (((((A4 s.data.toList).getD k 0) / 256) % 16)+1))))++((ByteArray.mk #[48,49,50,51,52,53,54,55,56,57,97,98,99,100,101,102]).extract (Int.toNat ((((A4 s.data.toList).getD k 0) / 16) % 16)) (Int.toNat (((((A4 s.data.toList).getD k 0) / 16) % 16)+1))))⟩,⟨5,[],.int .i64 ((A4 s.data.toList).getD k 0)⟩,⟨6,[],.int .i64 0⟩,⟨8,[],.slice iaf0 ((A4 s.data.toList).length) icf0⟩,⟨9,[],.int .i64 (((A4 s.data.toList).length:Nat):Int)⟩,⟨10,[],.int .i64 ((k:Nat):Int)⟩]) (by rw [fd0]) (A6 (j:=11) [0] (k:=?_))
        have hw24:Int.tmod (((A4 s.data.toList).getD k 0) / 1) 16=(((A4 s.data.toList).getD k 0) / 1) % 16:=r64 (by omega)
        refine GL_w 87 hw24 kr (A6 (j:=12) [0] (k:=?_))
        refine C3 88 (((((A4 s.data.toList).getD k 0) / 1) % 16)+1) (by omega) (by omega) kr (E8 (ch:=[]) (s:=(ByteArray.mk #[48,49,50,51,52,53,54,55,56,57,97,98,99,100,101,102])) (vl:=(some (.int .i64 ((((A4 s.data.toList).getD k 0) / 1) % 16)))) (vh:=(some (.int .i64 (((((A4 s.data.toList).getD k 0) / 1) % 16)+1)))) (l:=(((A4 s.data.toList).getD k 0) / 1) % 16) (h:=((((A4 s.data.toList).getD k 0) / 1) % 16)+1) (hb:=(fun _=>by (try simp only [E5]); omega)) (k:=?_))
        refine F5 (ch:=[]) (s:=(((t++(ByteArray.mk #[92,117]))++((ByteArray.mk #[48,49,50,51,52,53,54,55,56,57,97,98,99,100,101,102]).extract (Int.toNat ((((A4 s.data.toList).getD k 0) / 4096) % 16)) (Int.toNat (((((A4 s.data.toList).getD k 0) / 4096) % 16)+1))))++((ByteArray.mk #[48,49,50,51,52,53,54,55,56,57,97,98,99,100,101,102]).extract (Int.toNat ((((A4 s.data.toList).getD k 0) / 256) % 16)) (Int.toNat (((((A4 s.data.toList).getD k 0) / 256) % 16)+1))))++((ByteArray.mk #[48,49,50,51,52,53,54,55,56,57,97,98,99,100,101,102]).extract (Int.toNat ((((A4 s.data.toList).getD k 0) / 16) % 16)) (Int.toNat (((((A4 s.data.toList).getD k 0) / 16) % 16)+1)))) (u:=(ByteArray.mk #[48,49,50,51,52,53,54,55,56,57,97,98,99,100,101,102]).extract (Int.toNat ((((A4 s.data.toList).getD k 0) / 1) % 16)) (Int.toNat (((((A4 s.data.toList).getD k 0) / 1) % 16)+1))) (hb:=(fun _=>by (try simp only [E5]); omega)) (k:=B0 [0] [3,5,6,8,9,10] (k:=?_))
        refine B2 (A0 ?_)
        refine G_p [0,0,0] [3,5,6,8,9,10] (k:=N_rd ?_)
        refine E4 (A1 ?_)
        refine A1 (G_p [0,0] [3,5,6,8,9,10,74] (k:=?_))
        refine A0 (D7 kr ?_)
        refine F7 (A8 ?_)
        refine A8 (C2 ?_)
        refine B2 (B2 ?_)
        refine A0 (A2 ?_)
        refine A6 (j:=1) [0] (k:=C3 91 (((k:Nat):Int)+1) (by omega) (by omega) kr ?_)
        refine B8 (E':=[⟨3,[],.string (((((t++(ByteArray.mk #[92,117]))++((ByteArray.mk #[48,49,50,51,52,53,54,55,56,57,97,98,99,100,101,102]).extract (Int.toNat ((((A4 s.data.toList).getD k 0) / 4096) % 16)) (Int.toNat (((((A4 s.data.toList).getD k 0) / 4096) % 16)+1))))++((ByteArray.mk #[48,49,50,51,52,53,54,55,56,57,97,98,99,100,101,102]).extract (Int.toNat ((((A4 s.data.toList).getD k 0) / 256) % 16)) (Int.toNat (((((A4 s.data.toList).getD k 0) / 256) % 16)+1))))++((ByteArray.mk #[48,49,50,51,52,53,54,55,56,57,97,98,99,100,101,102]).extract (Int.toNat ((((A4 s.data.toList).getD k 0) / 16) % 16)) (Int.toNat (((((A4 s.data.toList).getD k 0) / 16) % 16)+1))))++((ByteArray.mk #[48,49,50,51,52,53,54,55,56,57,97,98,99,100,101,102]).extract (Int.toNat ((((A4 s.data.toList).getD k 0) / 1) % 16)) (Int.toNat (((((A4 s.data.toList).getD k 0) / 1) % 16)+1))))⟩,⟨8,[],.slice iaf0 ((A4 s.data.toList).length) icf0⟩,⟨9,[],.int .i64 (((A4 s.data.toList).length:Nat):Int)⟩,⟨10,[],.int .i64 (((k:Nat):Int)+1)⟩]) [0] [3,8,9,10] (k:=D8 (s':=(k+1,((((t++(ByteArray.mk #[92,117]))++((ByteArray.mk #[48,49,50,51,52,53,54,55,56,57,97,98,99,100,101,102]).extract (Int.toNat ((((A4 s.data.toList).getD k 0) / 4096) % 16)) (Int.toNat (((((A4 s.data.toList).getD k 0) / 4096) % 16)+1))))++((ByteArray.mk #[48,49,50,51,52,53,54,55,56,57,97,98,99,100,101,102]).extract (Int.toNat ((((A4 s.data.toList).getD k 0) / 256) % 16)) (Int.toNat (((((A4 s.data.toList).getD k 0) / 256) % 16)+1))))++((ByteArray.mk #[48,49,50,51,52,53,54,55,56,57,97,98,99,100,101,102]).extract (Int.toNat ((((A4 s.data.toList).getD k 0) / 16) % 16)) (Int.toNat (((((A4 s.data.toList).getD k 0) / 16) % 16)+1))))++((ByteArray.mk #[48,49,50,51,52,53,54,55,56,57,97,98,99,100,101,102]).extract (Int.toNat ((((A4 s.data.toList).getD k 0) / 1) % 16)) (Int.toNat (((((A4 s.data.toList).getD k 0) / 1) % 16)+1))))) [3,8,9,10] kr rfl ⟨(by dsimp only; omega),(by dsimp only; rw [I1 hlt,← List.cons_append,← hT,hj]; rw [D4,D4,D4,D4,D4,extL (by omega) (by omega) rfl,extL (by omega) (by omega) rfl,extL (by omega) (by omega) rfl,extL (by omega) (by omega) rfl,hex4_doc hpr.1]; simp only [List.append_assoc]; rfl)⟩ (by dsimp only; omega))
       ·
        simp only [Bool.or_eq_false_iff,decide_eq_false_iff_not,beq_eq_false_iff_ne,ne_eq] at hc13
        have hj:I0 ((A4 s.data.toList).getD k 0)=Lib.encodeRune ((A4 s.data.toList).getD k 0):=by unfold I0; rw [if_neg (by omega),if_neg (by omega),if_neg (by omega),if_neg (by omega),if_neg (by omega)]
        refine A2 (A6 (j:=2) [0,0] (k:=?_))
        refine D0 (ch:=[]) (e:=3) (l:=[(0,.int .i64 ((A4 s.data.toList).getD k 0))]) (c:=[.int .i64 ((A4 s.data.toList).getD k 0)]) (k:=(fun b27=>?_))
        refine F2 (vs:=[.slice (some ⟨b27,0,none⟩) 1 1]) Tryz.func19 (text_ (some ⟨b27,0,none⟩) 1 ([((A4 s.data.toList).getD k 0)]) (inG [(b27,.cells #[.int .i64 ((A4 s.data.toList).getD k 0)] 3 (0,0))]) Rd.lit (fun p hp=>List.mem_singleton.1 hp ▸ K9 s.data.toList _ (memI hlt)) (Nat.le_of_ble_eq_true rfl) _ _ (D2 0 rfl)) ?_
        rintro _ _ ⟨rfl,rfl⟩
        refine F5 (ch:=[]) (s:=t) (u:=(bk (encL ([((A4 s.data.toList).getD k 0)])))) (hb:=(by intro _; rw [I7]; show t.size+(Lib.encodeRune _++[]).length≤_; rw [List.append_nil]; omega)) (k:=B0 [0] [3,8,9,10] (k:=?_))
        refine B2 (B2 ?_)
        refine A0 (A2 ?_)
        refine A6 (j:=1) [0] (k:=C3 91 (((k:Nat):Int)+1) (by omega) (by omega) kr ?_)
        refine B0 [0] [3,8,9,10] (k:=C9 (H':=(igf0::H)) (fun w h=>(h.erase 0)) ?_)
        refine D8 (s':=(k+1,t++(bk (encL ([((A4 s.data.toList).getD k 0)]))))) [3,8,9,10] kr rfl ⟨(by dsimp only; omega),(by dsimp only; rw [I1 hlt,← List.cons_append,← hT,hj]; rw [D4]; congr 1; exact List.append_nil _)⟩ (by dsimp only; omega)
 ·
  simp only [decide_eq_false_iff_not] at hc2
  refine F7 (A8 ?_)
  refine A8 (C2 ?_)
  refine A0 (A1 ?_)
  refine A2 (A6 (j:=1) [0] (k:=?_))
  refine F5 (ch:=[]) (s:=t) (u:=(ByteArray.mk #[34])) (hb:=(by intro _; show t.size+1≤_; omega)) (k:=B0 [0] [2] (k:=?_))
  refine A0 (B6 ?_)
  refine C9 (H':=H) (fun w h=>(h.erase 0)) (B5 [.tmp 2] [.string (t++(ByteArray.mk #[34]))] (k:=?_))
  exact ⟨congrArg Value.string (ba_eq (by rw [D4,hT,List.take_of_length_le (by omega)]; rfl)),rfl⟩
end Go.Proofs.YtbnfbffiehoapaaGreatDoor
namespace Go.Proofs.YtbnfbffiehoapaaGreatDoor
open Go.Sw Go.Sha Go.Esc Go.RowKit
theorem escJson_ (a:ByteArray) (W0:World) (H:List Grp) (hW:I2 W0):Tri Tryz.prog 5 #[.string a] W0 H (fun v H'=>v=.bool true∧H'=H):=by
 refine D1 (args:=[.string a]) (n:=15) Tryz.func5 rfl rfl (Nat.le_of_ble_eq_true rfl) ?_
 refine A1 (B3 (E':=[⟨0,[],.string a⟩]) [0] [0] (k:=?_))
 refine A0 (A1 ?_)
 refine A1 (A2 ?_)
 refine G4 Tryz.func9 (first_ _ _ hW) (B0 [0] [0,4] (k:=?_))
 refine A0 (D7 kr ?_)
 refine A7 (A0 ?_)
 refine A1 (A2 ?_)
 refine A6 (j:=5) [0,0,0,0,0] (k:=F6 (ch:=[(8,false)]) (f:=14) (fst:=#[]) (caps:=#[]) (vs:=[.string a]) (v:=.string (bk (H5 a.data.toList))) (hf:=Tryz.func14) (hc:=(fun hc=>json_ a (by have hg0:=K0 (t:=8) (c:=[]) (b:=decide ((a.size:Int) > 3000)) hc kr; (try simp at hg0); omega) _ _ hW)) (k:=?_))
 refine A6 (j:=7) [0] (k:=F6 (ch:=[(8,false)]) (f:=15) (fst:=#[]) (caps:=#[]) (vs:=[.string a]) (v:=.string (bk (H5 a.data.toList))) (hf:=Tryz.func15) (hc:=(fun hc=>rjson_ a (by have hg0:=K0 (t:=8) (c:=[]) (b:=decide ((a.size:Int) > 3000)) hc kr; (try simp at hg0); omega) _ _)) (k:=?_))
 refine B0 [0,5,0] [2] (k:=A0 ?_)
 refine B6 (B5 [.tmp 2] [.bool ((decide ((a.size:Int) > 3000))||((bk (H5 a.data.toList)).toList==(bk (H5 a.data.toList)).toList))] (k:=?_))
 exact ⟨congrArg Value.bool (by rw [(eqB _ _).2 rfl,Bool.or_true]),rfl⟩
end Go.Proofs.YtbnfbffiehoapaaGreatDoor
namespace Go.Esc
open Go.Lib Go.Sw
theorem N5 {M:UInt8→Prop} [DecidablePred M] {l:List UInt8} (h:(l.all fun b=>decide (M b))=true) {b:UInt8} (hb:b∈l):M b:=by
  rw [List.all_eq_true] at h; simpa using h b hb
theorem html_bytes (l:List UInt8):∀ b∈H8 l,b≠60∧b≠62∧b≠34∧b≠39:=by
  rw [htmlL_eq]
  intro b hb
  obtain ⟨p,hp,hb⟩:=List.mem_flatMap.1 hb
  have h:=keep_isR l p hp
  unfold L8 at hb
  split at hb
  · exact N5 (M:=fun b=>b≠60∧b≠62∧b≠34∧b≠39) (by decide) hb
  split at hb
  · exact N5 (M:=fun b=>b≠60∧b≠62∧b≠34∧b≠39) (by decide) hb
  split at hb
  · exact N5 (M:=fun b=>b≠60∧b≠62∧b≠34∧b≠39) (by decide) hb
  split at hb
  · exact N5 (M:=fun b=>b≠60∧b≠62∧b≠34∧b≠39) (by decide) hb
  split at hb
  · exact N5 (M:=fun b=>b≠60∧b≠62∧b≠34∧b≠39) (by decide) hb
  exact ⟨enc_no h (c:=60) (by decide) (by assumption) b hb,enc_no h (c:=62) (by decide) (by assumption) b hb,enc_no h (c:=34) (by decide) (by assumption) b hb,enc_no h (c:=39) (by decide) (by assumption) b hb⟩
theorem hexl_ok:∀ n:Fin 16,¬ hexl n.val<32∧hexl n.val≠60∧hexl n.val≠62∧hexl n.val≠38∧(hexl n.val).toNat<128∧J9 ((hexl n.val).toNat:Int) 16=(n.val:Int):=by decide +kernel
theorem hexl_lt {n:Nat} (h:n<16):¬ hexl n<32∧hexl n≠60∧hexl n≠62∧hexl n≠38∧(hexl n).toNat<128∧J9 ((hexl n).toNat:Int) 16=(n:Int):=hexl_ok ⟨n,h⟩
theorem hex4_mem {n:Nat} {b:UInt8} (h:b∈hex4 n):¬ b<32∧b≠60∧b≠62∧b≠38∧b.toNat<128:=by
  unfold hex4 at h
  simp only [List.mem_cons,List.not_mem_nil,or_false] at h
  rcases h with rfl | rfl | rfl | rfl
  · have:=hexl_lt (n:=n / 4096 % 16) (by omega); exact ⟨this.1,this.2.1,this.2.2.1,this.2.2.2.1,this.2.2.2.2.1⟩
  · have:=hexl_lt (n:=n / 256 % 16) (by omega); exact ⟨this.1,this.2.1,this.2.2.1,this.2.2.2.1,this.2.2.2.2.1⟩
  · have:=hexl_lt (n:=n / 16 % 16) (by omega); exact ⟨this.1,this.2.1,this.2.2.1,this.2.2.2.1,this.2.2.2.2.1⟩
  · have:=hexl_lt (n:=n % 16) (by omega); exact ⟨this.1,this.2.1,this.2.2.1,this.2.2.2.1,this.2.2.2.2.1⟩
theorem enc_ge {p:Int} (h:isR p) (h32:¬ p<32):∀ b∈encodeRune p,¬ b<32:=by
  intro b hb hlt
  have hlt:=UInt8.lt_iff_toNat_lt.1 hlt
  have hlt:b.toNat<32:=hlt
  rcases enc_byte h with ⟨h1,he⟩ | ⟨h1,he⟩
  · rw [he] at hb
    obtain rfl:=List.mem_singleton.1 hb
    rw [byteZ p h.1 (by omega)] at hlt; omega
  · have:=he b hb; omega
theorem json_bytes (l:List UInt8):∀ b∈H5 l,¬ b<32∧b≠60∧b≠62∧b≠38:=by
  unfold H5
  intro b hb
  rcases List.mem_cons.1 hb with rfl | hb
  · decide
  rcases List.mem_append.1 hb with hb | hb
  · obtain ⟨p,hp,hb⟩:=List.mem_flatMap.1 hb
    have h:=K9 l p hp
    unfold I0 at hb
    split at hb
    · rename_i hq
      rcases hq with rfl | rfl
      · rw [show encodeRune 34=[34] by decide +kernel] at hb; exact N5 (M:=fun b=>¬ b<32∧b≠60∧b≠62∧b≠38) (by decide) hb
      · rw [show encodeRune 92=[92] by decide +kernel] at hb; exact N5 (M:=fun b=>¬ b<32∧b≠60∧b≠62∧b≠38) (by decide) hb
    split at hb
    · exact N5 (M:=fun b=>¬ b<32∧b≠60∧b≠62∧b≠38) (by decide) hb
    split at hb
    · exact N5 (M:=fun b=>¬ b<32∧b≠60∧b≠62∧b≠38) (by decide) hb
    split at hb
    · exact N5 (M:=fun b=>¬ b<32∧b≠60∧b≠62∧b≠38) (by decide) hb
    split at hb
    · rcases List.mem_cons.1 hb with rfl | hb
      · decide
      rcases List.mem_cons.1 hb with rfl | hb
      · decide
      have:=hex4_mem hb; exact ⟨this.1,this.2.1,this.2.2.1,this.2.2.2.1⟩
    · rename_i hn
      exact ⟨enc_ge h (by omega) b hb,enc_no h (c:=60) (by decide) (by omega) b hb,enc_no h (c:=62) (by decide) (by omega) b hb,enc_no h (c:=38) (by decide) (by omega) b hb⟩
  · obtain rfl:=List.mem_singleton.1 hb; decide
theorem ujL_app:∀ {p:List UInt8} (t:List UInt8),(∀ b∈p,¬ (b<32∨b=34)∧b≠92)→ujL (p++t)=(ujL t).map (p++·)
  | [],t,_=>by rw [List.nil_append]; cases ujL t <;> rfl
  | b::p,t,h=>by
    have hb:=h b List.mem_cons_self
    rw [List.cons_append,J5,if_neg hb.1,if_pos hb.2,ujL_app t (fun x hx=>h x (List.mem_cons_of_mem _ hx))]
    cases ujL t <;> rfl
theorem uj_two {c:UInt8} {q:Int} (t:List UInt8) (ho:G5 c=q) (hq:0≤q):ujL (92::c::t)=(ujL t).map (encodeRune q++·):=by
  have he:F1 (92::c::t)=(q,2):=by
    unfold F1
    rw [if_neg (by simp),show (92::c::t).getD 1 0=c from rfl,ho,if_pos hq]
  rw [J5,if_neg (by decide),if_neg (by decide),he,if_neg (by dsimp only; omega)]
  rfl
theorem num_hex4 {n:Nat} (h:n<65536):numV 16 0 (hex4 n)=some (n:Int):=by
  have h1:=(hexl_lt (n:=n / 4096 % 16) (by omega)).2.2.2.2.2
  have h2:=(hexl_lt (n:=n / 256 % 16) (by omega)).2.2.2.2.2
  have h3:=(hexl_lt (n:=n / 16 % 16) (by omega)).2.2.2.2.2
  have h4:=(hexl_lt (n:=n % 16) (by omega)).2.2.2.2.2
  unfold hex4
  rw [H9,h1,if_neg (by omega),H9,h2,if_neg (by omega),H9,h3,if_neg (by omega),H9,h4,if_neg (by omega),O3]
  congr 1; omega
theorem uj_hex {n:Nat} (h:n<55296) (t:List UInt8):ujL (92::117::(hex4 n++t))=(ujL t).map (encodeRune (n:Int)++·):=by
  have hl:(hex4 n).length=4:=rfl
  have hu:C5 (92::117::(hex4 n++t))=(n:Int):=by
    unfold C5
    rw [if_neg (by
      rintro (h1 | h1)
      · simp only [List.length_cons,List.length_append,hl] at h1; omega
      · exact h1 rfl)]
    rw [show ((92::117::(hex4 n++t)).drop 2).take 4=hex4 n from rfl,num_hex4 (by omega)]; rfl
  have he:F1 (92::117::(hex4 n++t))=((n:Int),6):=by
    unfold F1
    rw [if_neg (by simp),show (92::117::(hex4 n++t)).getD 1 0=117 from rfl,if_neg (by decide),hu,if_neg (by omega),if_neg (by omega)]
  rw [J5,if_neg (by decide),if_neg (by decide),he,if_neg (by dsimp only; omega)]
  rfl
theorem uj_json {p:Int} (h:isR p) (t:List UInt8):ujL (I0 p++t)=(ujL t).map (encodeRune p++·):=by
  have h0:=h.1
  unfold I0
  split
  · rename_i hq
    rcases hq with rfl | rfl
    · rw [show encodeRune 34=[34] by decide +kernel]
      have:=uj_two (c:=34) (q:=34) t (by decide) (by decide); rw [show encodeRune 34=[34] by decide +kernel] at this; exact this
    · rw [show encodeRune 92=[92] by decide +kernel]
      have:=uj_two (c:=92) (q:=92) t (by decide) (by decide); rw [show encodeRune 92=[92] by decide +kernel] at this; exact this
  split
  · subst_vars; exact uj_two (c:=110) (q:=10) t (by decide) (by decide)
  split
  · subst_vars; exact uj_two (c:=114) (q:=13) t (by decide) (by decide)
  split
  · subst_vars; exact uj_two (c:=116) (q:=9) t (by decide) (by decide)
  split
  · have:=uj_hex (n:=p.toNat) (by omega) t
    rw [show ((p.toNat:Nat):Int)=p by omega] at this
    exact this
  · refine ujL_app t fun b hb=>⟨?_,enc_no h (c:=92) (by decide) (by omega) b hb⟩
    rintro (h1 | h1)
    · exact enc_ge h (by omega) b hb h1
    · exact enc_no h (c:=34) (by decide) (by omega) b hb h1
theorem uj_jsons:∀ {ps:List Int},(∀ p∈ps,isR p)→ujL (ps.flatMap I0)=some (encL ps)
  | [],_=>rfl
  | p::ps,h=>by rw [List.flatMap_cons,uj_json (h p List.mem_cons_self),uj_jsons (fun q hq=>h q (List.mem_cons_of_mem _ hq))]; rfl
theorem K8:∀ {p:List UInt8} (t:List UInt8),(∀ b∈p,b.toNat<128)→G9 (p++t)=G9 t
  | [],_,_=>rfl
  | b::p,t,h=>by
    rw [List.cons_append,validP_D,validD_cons b _ (h b List.mem_cons_self),← validP_D]
    exact K8 t (fun x hx=>h x (List.mem_cons_of_mem _ hx))
theorem valid_json {p:Int} (h:isR p) (t:List UInt8):G9 (I0 p++t)=G9 t:=by
  unfold I0
  split
  · rename_i hq
    rcases hq with rfl | rfl
    · rw [show encodeRune 34=[34] by decide +kernel]; exact K8 t (by decide)
    · rw [show encodeRune 92=[92] by decide +kernel]; exact K8 t (by decide)
  split
  · exact K8 t (by decide)
  split
  · exact K8 t (by decide)
  split
  · exact K8 t (by decide)
  split
  · refine K8 t fun b hb=>?_
    rcases List.mem_cons.1 hb with rfl | hb
    · decide
    rcases List.mem_cons.1 hb with rfl | hb
    · decide
    exact (hex4_mem hb).2.2.2.2
  · have:=validP_enc (ps:=[p]) (by intro q hq; obtain rfl:=List.mem_singleton.1 hq; exact h) t
    rw [M8,encL_nil,List.append_nil] at this; exact this
theorem valid_jsons:∀ {ps:List Int} (t:List UInt8),(∀ p∈ps,isR p)→G9 (ps.flatMap I0++t)=G9 t
  | [],_,_=>rfl
  | p::ps,t,h=>by rw [List.flatMap_cons,List.append_assoc,valid_json (h p List.mem_cons_self),valid_jsons t (fun q hq=>h q (List.mem_cons_of_mem _ hq))]
theorem unj_json (l:List UInt8):unjM (H5 l)=some (fixL l):=by
  unfold unjM H5
  have hv:G9 (34::((A4 l).flatMap I0++[34]))=true:=by
    have:=K8 (p:=[34]) ((A4 l).flatMap I0++[34]) (by decide)
    rw [List.singleton_append] at this
    rw [this,valid_jsons _ (K9 l)]; decide +kernel
  generalize hX:(A4 l).flatMap I0=X at hv
  rw [if_neg]
  · rw [show (34::(X++[34])).drop 1=X++[34] from rfl,show (34::(X++[34])).length - 2=X.length by simp,List.take_left,← hX,uj_jsons (K9 l)]; rfl
  · rintro (h | h | h | h)
    · simp only [List.length_cons,List.length_append,List.length_nil] at h; omega
    · exact h rfl
    · apply h
      rw [show (34::(X++[34])).length - 1=(34::X).length by simp,← List.cons_append]
      simp [List.getD]
    · rw [hv] at h; cases h
end Go.Esc
namespace Go.Proofs.YtbnfbffiehoapaaGreatDoor
open Go.Sw Go.Sha Go.Esc Go.RowKit
theorem byte_bk (l:List UInt8) (i:Nat):A5 (bk l) (i:Int)=((l.getD i 0).toNat:Int):=E7 (bk l) i
theorem getD_mem {l:List UInt8} {i:Nat} (h:i<l.length):l.getD i 0∈l:=by rw [getD_get _ h]; exact List.getElem_mem _
theorem nat_ne {b:UInt8} {k:Nat} (hk:k<256) (h:b≠UInt8.ofNat k):b.toNat≠k:=by
  intro he; apply h; apply UInt8.toNat_inj.1; rw [he,UInt8.toNat_ofNat',Nat.mod_eq_of_lt hk]
theorem html_no {l:List UInt8} {i:Nat} (h:i<(H8 l).length):((H8 l).getD i 0).toNat≠60∧((H8 l).getD i 0).toNat≠62∧((H8 l).getD i 0).toNat≠34∧((H8 l).getD i 0).toNat≠39:=by
  have:=html_bytes l _ (getD_mem h)
  exact ⟨nat_ne (by decide) this.1,nat_ne (by decide) this.2.1,nat_ne (by decide) this.2.2.1,nat_ne (by decide) this.2.2.2⟩
theorem json_no {l:List UInt8} {i:Nat} (h:i<(H5 l).length):¬ ((H5 l).getD i 0).toNat<32∧((H5 l).getD i 0).toNat≠60∧((H5 l).getD i 0).toNat≠62∧((H5 l).getD i 0).toNat≠38:=by
  have:=json_bytes l _ (getD_mem h)
  exact ⟨fun h=>this.1 (UInt8.lt_iff_toNat_lt.2 h),nat_ne (by decide) this.2.1,nat_ne (by decide) this.2.2.1,nat_ne (by decide) this.2.2.2⟩
theorem escBack_ (a:ByteArray) (W0:World) (H:List Grp) (hW:I2 W0):Tri Tryz.prog 7 #[.string a] W0 H (fun v H'=>v=.bool true∧H'=H):=by
 refine D1 (args:=[.string a]) (n:=102) Tryz.func7 rfl rfl (Nat.le_of_ble_eq_true rfl) ?_
 refine A1 (B3 (E':=[⟨0,[],.string a⟩]) [0] [0] (k:=?_))
 refine A0 (A1 ?_)
 refine A1 (A2 ?_)
 refine G4 Tryz.func9 (first_ _ _ hW) (B0 [0] [0,10] (k:=?_))
 refine A0 (D7 kr ?_)
 refine A7 (A0 ?_)
 refine A1 (A1 ?_)
 refine G_p [0,0,0] [0,13] (k:=A0 ?_)
 refine B1 (b:=decide ((a.size:Int) > 3000)) kr (fun hc1=>?_) (fun hc1=>?_)
 ·
  skip
  refine A1 (B3 (E':=[⟨2,[],.bool true⟩]) [0] [2] (k:=?_))
  refine A0 (B6 ?_)
  refine A3 (B5 [.tmp 2] [.bool true] (k:=?_))
  exact ⟨rfl,rfl⟩
 ·
  simp only [gt_iff_lt,decide_eq_false_iff_not] at hc1
  have hla:=B7 a
  have hra:=N6 a.data.toList
  have hea:=encL_len (A4 a.data.toList)
  have hh1:=html_len a.data.toList
  have hj1:=json_len a.data.toList
  have hbh:=I7 (H8 a.data.toList)
  have hbj:=I7 (H5 a.data.toList)
  refine A7 (A0 ?_)
  refine A1 (A2 ?_)
  refine A6 (j:=1) [0] (k:=G4 Tryz.func10 (html_ a (by (try simp only [I7]); omega) _ _) ?_)
  refine A6 (j:=3) [0] (k:=G4 Tryz.func14 (json_ a (by (try simp only [I7]); omega) _ _ hW) ?_)
  refine B0 [0,0] [0,3,4] (k:=A0 ?_)
  refine A1 (A2 ?_)
  refine A6 (j:=1) [0] (k:=G4 (vs:=[.string (bk (H5 a.data.toList))]) Tryz.func16 ((Tri.post (unjson_ (bk (H5 a.data.toList)) (by rw [I7]; omega) _ _ hW) fun v H1 h=>⟨H1,by rw [show (bk (H5 a.data.toList)).data.toList=H5 a.data.toList from rfl,unj_json] at h; exact h,fun _ h=>h⟩)) ?_)
  refine B0 [0,0,0,0,0] [0,3,4,5,6] (k:=A0 ?_)
  refine A1 (A1 ?_)
  refine G_p [0,0,0] [0,3,4,5,6,24,25] (k:=A0 ?_)
  refine B4 (I8 (EI:=(fun ξ:Nat=>[⟨0,[],.string a⟩,⟨3,[],.string (bk (H8 a.data.toList))⟩,⟨4,[],.string (bk (H5 a.data.toList))⟩,⟨5,[],.string (bk (encL (A4 a.data.toList)))⟩,⟨6,[],.int .i64 0⟩,⟨24,[],.int .i64 ((bk (H8 a.data.toList)).size:Int)⟩,⟨25,[],.int .i64 ((ξ:Nat):Int)⟩])) (HI:=(fun ξ:Nat=>H)) (Φ:=(fun ξ:Nat=>(ξ≤(H8 a.data.toList).length))) (μ:=(fun ξ:Nat=>(H8 a.data.toList).length - ξ)) (s0:=(0)) [0,3,4,5,6,24,25] kr rfl (by omega) ?_)
  rintro i hi
  have hbx:=byte_bk (H8 a.data.toList) i
  refine A1 (G_p [0] [0,3,4,5,6,24,25,26] (k:=?_))
  refine A0 (A1 ?_)
  refine B1 (b:=decide (((i:Nat):Int)<((bk (H8 a.data.toList)).size:Int))) kr (fun hc2=>?_) (fun hc2=>?_)
  ·
   simp only [decide_eq_true_eq] at hc2
   refine A7 (A0 ?_)
   refine A1 (B4 ?_)
   refine A1 (G_p [0,0] [0,3,4,5,6,7,24,25] (k:=?_))
   refine A0 (A1 ?_)
   refine A2 (A6 (j:=2) [0,0] (k:=?_))
   refine C0 (ch:=[]) (s:=(bk (H8 a.data.toList))) (kd:=.i64) (j:=((i:Nat):Int)) (hb:=(by omega)) (k:=?_)
   have hb3:=C7 (bk (H8 a.data.toList)) ((i:Nat):Int)
   refine A6 (j:=7) [0,0,0,0] (k:=C0 (ch:=[(32,false)]) (s:=(bk (H8 a.data.toList))) (kd:=.i64) (j:=((i:Nat):Int)) (hb:=(fun hc=>by omega)) (k:=?_))
   have hb4:=C7 (bk (H8 a.data.toList)) ((i:Nat):Int)
   refine A6 (j:=13) [0,5,0,0,0] (k:=C0 (ch:=[(38,false)]) (s:=(bk (H8 a.data.toList))) (kd:=.i64) (j:=((i:Nat):Int)) (hb:=(fun hc=>by omega)) (k:=?_))
   have hb5:=C7 (bk (H8 a.data.toList)) ((i:Nat):Int)
   refine A6 (j:=19) [0,5,0,0,0] (k:=C0 (ch:=[(44,false)]) (s:=(bk (H8 a.data.toList))) (kd:=.i64) (j:=((i:Nat):Int)) (hb:=(fun hc=>by omega)) (k:=?_))
   have hb6:=C7 (bk (H8 a.data.toList)) ((i:Nat):Int)
   refine B0 [0,5] [0,3,4,5,6,24,25,49] (k:=A0 ?_)
   refine B1 (b:=((((A5 (bk (H8 a.data.toList)) ((i:Nat):Int))==60)||((A5 (bk (H8 a.data.toList)) ((i:Nat):Int))==62))||((A5 (bk (H8 a.data.toList)) ((i:Nat):Int))==34))||((A5 (bk (H8 a.data.toList)) ((i:Nat):Int))==39)) kr (fun hc7=>?_) (fun hc7=>?_)
   ·
    simp only [Bool.or_eq_true,beq_iff_eq] at hc7
    have hq:=html_no (l:=a.data.toList) (show i<(H8 a.data.toList).length by omega)
    omega
   ·
    skip
    refine A7 (B2 ?_)
    refine A0 (A2 ?_)
    refine A6 (j:=1) [0] (k:=C3 50 (((i:Nat):Int)+1) (by omega) (by omega) kr ?_)
    refine B0 [0] [0,3,4,5,6,24,25] (k:=D8 (s':=(i+1)) [0,3,4,5,6,24,25] kr rfl (by omega) (by omega))
  ·
   simp only [decide_eq_false_iff_not] at hc2
   refine F7 (A8 ?_)
   refine A8 (C2 ?_)
   refine A0 (A1 ?_)
   refine A1 (G_p [0,0,0] [0,3,4,5,6,52,53] (k:=?_))
   refine A0 (B4 ?_)
   refine I8 (EI:=(fun ξ:Nat=>[⟨0,[],.string a⟩,⟨3,[],.string (bk (H8 a.data.toList))⟩,⟨4,[],.string (bk (H5 a.data.toList))⟩,⟨5,[],.string (bk (encL (A4 a.data.toList)))⟩,⟨6,[],.int .i64 0⟩,⟨52,[],.int .i64 ((bk (H5 a.data.toList)).size:Int)⟩,⟨53,[],.int .i64 ((ξ:Nat):Int)⟩])) (HI:=(fun ξ:Nat=>H)) (Φ:=(fun ξ:Nat=>(ξ≤(H5 a.data.toList).length))) (μ:=(fun ξ:Nat=>(H5 a.data.toList).length - ξ)) (s0:=(0)) [0,3,4,5,6,52,53] kr rfl (by omega) ?_
   rintro i hi
   have hbx:=byte_bk (H5 a.data.toList) i
   refine A1 (G_p [0] [0,3,4,5,6,52,53,54] (k:=?_))
   refine A0 (A1 ?_)
   refine B1 (b:=decide (((i:Nat):Int)<((bk (H5 a.data.toList)).size:Int))) kr (fun hc9=>?_) (fun hc9=>?_)
   ·
    simp only [decide_eq_true_eq] at hc9
    refine A7 (A0 ?_)
    refine A1 (B4 ?_)
    refine A1 (G_p [0,0] [0,3,4,5,6,8,52,53] (k:=?_))
    refine A0 (A1 ?_)
    refine A2 (A6 (j:=2) [0,0] (k:=?_))
    refine C0 (ch:=[]) (s:=(bk (H5 a.data.toList))) (kd:=.i64) (j:=((i:Nat):Int)) (hb:=(by omega)) (k:=?_)
    have hb10:=C7 (bk (H5 a.data.toList)) ((i:Nat):Int)
    refine A6 (j:=7) [0,0,0,0] (k:=C0 (ch:=[(60,false)]) (s:=(bk (H5 a.data.toList))) (kd:=.i64) (j:=((i:Nat):Int)) (hb:=(fun hc=>by omega)) (k:=?_))
    have hb11:=C7 (bk (H5 a.data.toList)) ((i:Nat):Int)
    refine A6 (j:=13) [0,5,0,0,0] (k:=C0 (ch:=[(66,false)]) (s:=(bk (H5 a.data.toList))) (kd:=.i64) (j:=((i:Nat):Int)) (hb:=(fun hc=>by omega)) (k:=?_))
    have hb12:=C7 (bk (H5 a.data.toList)) ((i:Nat):Int)
    refine A6 (j:=19) [0,5,0,0,0] (k:=C0 (ch:=[(72,false)]) (s:=(bk (H5 a.data.toList))) (kd:=.i64) (j:=((i:Nat):Int)) (hb:=(fun hc=>by omega)) (k:=?_))
    have hb13:=C7 (bk (H5 a.data.toList)) ((i:Nat):Int)
    refine B0 [0,5] [0,3,4,5,6,52,53,77] (k:=A0 ?_)
    refine B1 (b:=(((decide ((A5 (bk (H5 a.data.toList)) ((i:Nat):Int))<32))||((A5 (bk (H5 a.data.toList)) ((i:Nat):Int))==60))||((A5 (bk (H5 a.data.toList)) ((i:Nat):Int))==62))||((A5 (bk (H5 a.data.toList)) ((i:Nat):Int))==38)) kr (fun hc14=>?_) (fun hc14=>?_)
    ·
     simp only [Bool.or_eq_true,decide_eq_true_eq,beq_iff_eq] at hc14
     have hq:=json_no (l:=a.data.toList) (show i<(H5 a.data.toList).length by omega)
     omega
    ·
     skip
     refine A7 (B2 ?_)
     refine A0 (A2 ?_)
     refine A6 (j:=1) [0] (k:=C3 78 (((i:Nat):Int)+1) (by omega) (by omega) kr ?_)
     refine B0 [0] [0,3,4,5,6,52,53] (k:=D8 (s':=(i+1)) [0,3,4,5,6,52,53] kr rfl (by omega) (by omega))
   ·
    simp only [decide_eq_false_iff_not] at hc9
    refine F7 (A8 ?_)
    refine A8 (C2 ?_)
    refine A0 (A1 ?_)
    refine A2 (A6 (j:=1) [0] (k:=?_))
    refine G4 Tryz.func12 (unhtml_ (bk (H8 a.data.toList)) (by (try simp only [I7]); omega) _ _ hW) (A6 (j:=3) [0] (k:=?_))
    refine G4 Tryz.func18 (rplain_ a (by (try simp only [I7]); omega) _ _) (C1 (E':=[⟨83,[],.bool ((bk (unL (H8 a.data.toList))).toList==(bk (D5 a.data.toList)).toList)⟩,⟨0,[],.string a⟩,⟨5,[],.string (bk (encL (A4 a.data.toList)))⟩,⟨6,[],.int .i64 0⟩]) (j:=5) [0] (k:=?_))
    refine C8 (E':=[⟨83,[],.bool true⟩,⟨0,[],.string a⟩,⟨5,[],.string (bk (encL (A4 a.data.toList)))⟩,⟨6,[],.int .i64 0⟩]) (by rw [(eqB _ _).2 (un_htmlL _)]) (A6 (j:=12) [0,0,0,2,0,0,0] (k:=?_))
    refine GL_call (ch:=[(88,true)]) (f:=20) (fst:=#[]) (caps:=#[]) (vs:=[.string a]) (hf:=Tryz.func20) (hsure:=chSure_of kr) (hc:=fixed_ a (by omega) _ _) (k:=?_)
    rintro _ _ ⟨iaf15,icf15,igf15,rfl,iOf15,rfl⟩
    refine GL_call (ch:=[(88,true)]) (f:=19) (fst:=#[]) (caps:=#[]) (vs:=[.slice iaf15 ((A4 a.data.toList).length) icf15]) (hf:=Tryz.func19) (hsure:=chSure_of kr) (hc:=text_ iaf15 icf15 (A4 a.data.toList) (inG igf15) (M7 iOf15) (K9 _) (by omega) _ _ (D2 0 rfl)) (k:=?_)
    rintro _ _ ⟨rfl,rfl⟩
    refine C1 (E':=[⟨93,[(88,true)],.bool ((bk (encL (A4 a.data.toList))).toList==(bk (encL (A4 a.data.toList))).toList)⟩,⟨88,[],.bool true⟩,⟨0,[],.string a⟩]) (j:=15) [0] (k:=C8 (E':=[⟨93,[(88,true)],.bool true⟩,⟨88,[],.bool true⟩,⟨0,[],.string a⟩]) (by rw [(eqB _ _).2 rfl]) ?_)
    refine A6 (j:=18) [2,0,0] (k:=F6 (ch:=[(95,true)]) (f:=21) (fst:=#[]) (caps:=#[]) (vs:=[.string a]) (v:=.string (bk (percL a.data.toList))) (hf:=Tryz.func21) (hc:=(fun hc=>percent_ a (by (try simp only [I7]); omega) _ _)) (k:=?_))
    refine A6 (j:=20) [0] (k:=F6 (ch:=[(95,true)]) (f:=22) (fst:=#[]) (caps:=#[]) (vs:=[.string a]) (v:=.string (bk (percL a.data.toList))) (hf:=Tryz.func22) (hc:=(fun hc=>rpercent_ a (by (try simp only [I7]); omega) _ _)) (k:=?_))
    refine B0 [0,2,0] [2] (k:=A0 ?_)
    refine B6 (C9 (H':=H) (fun w h=>(h.erase 0)) ?_)
    refine B5 [.tmp 2] [.bool ((bk (percL a.data.toList)).toList==(bk (percL a.data.toList)).toList)] (k:=?_)
    refine ⟨congrArg Value.bool ?_,rfl⟩
    exact (eqB _ _).2 rfl
end Go.Proofs.YtbnfbffiehoapaaGreatDoor
namespace Go.Esc
open Go.Lib Go.Sw
def D6 (base:Int):Nat→Int→List UInt8→Int × Nat
  | 0,a,_=>(a,0)
  | _+1,a,[]=>(a,0)
  | m+1,a,c::t=>if J9 (c.toNat:Int) base<0 then (a,0) else ((D6 base m (base * a+J9 (c.toNat:Int) base) t).1,(D6 base m (base * a+J9 (c.toNat:Int) base) t).2+1)
theorem numD_le (base:Int):∀ (m:Nat) (a:Int) (l:List UInt8),(D6 base m a l).2≤m∧(D6 base m a l).2≤l.length
  | 0,_,_=>⟨Nat.le_refl _,Nat.zero_le _⟩
  | _+1,_,[]=>⟨Nat.zero_le _,Nat.le_refl _⟩
  | m+1,a,c::t=>by
    unfold D6
    split
    · exact ⟨Nat.zero_le _,Nat.zero_le _⟩
    · have:=numD_le base m (base * a+J9 (c.toNat:Int) base) t
      rw [List.length_cons]; dsimp only; omega
theorem numD_all (base:Int):∀ (m:Nat) (a v:Int) (d t:List UInt8),numV base a d=some v→d.length=m∨(d.length<m∧∀ c t',t=c::t'→J9 (c.toNat:Int) base<0)→D6 base m a (d++t)=(v,d.length)
  | 0,a,v,d,t,hv,hm=>by
    obtain rfl:d=[]:=List.eq_nil_of_length_eq_zero (by omega)
    rw [O3] at hv; injection hv with hv; subst hv; rfl
  | m+1,a,v,[],t,hv,hm=>by
    rw [O3] at hv; injection hv with hv; subst hv
    rw [List.nil_append]
    cases t with
    | nil=>rfl
    | cons c t' =>
      rcases hm with hm | hm
      · simp at hm
      · unfold D6; rw [if_pos (hm.2 c t' rfl)]; rfl
  | m+1,a,v,c::d,t,hv,hm=>by
    rw [H9] at hv
    split at hv
    · cases hv
    · rename_i hc
      rw [List.length_cons] at hm
      have hm':d.length=m∨(d.length<m∧∀ c t',t=c::t'→J9 (c.toNat:Int) base<0):=by
        rcases hm with h | h
        · exact .inl (by omega)
        · exact .inr ⟨by omega,h.2⟩
      rw [List.cons_append,D6,if_neg hc,numD_all base m _ v d t hv hm']
      rfl
theorem numD_part (base:Int):∀ (m:Nat) (a:Int) (d t:List UInt8),(∀ c t',t=c::t'→J9 (c.toNat:Int) base<0)→(D6 base m a (d++t)).2=d.length→d.length≤m∧numV base a d=some (D6 base m a (d++t)).1
  | 0,a,d,t,ht,h=>by
    have:d.length=0:=by rw [← h]; rfl
    obtain rfl:=List.eq_nil_of_length_eq_zero this
    exact ⟨Nat.le_refl _,rfl⟩
  | m+1,a,[],t,ht,h=>by
    refine ⟨Nat.zero_le _,?_⟩
    rw [O3,List.nil_append]
    cases t with
    | nil=>rfl
    | cons c t'=>unfold D6; rw [if_pos (ht c t' rfl)]
  | m+1,a,c::d,t,ht,h=>by
    rw [List.cons_append,List.length_cons] at h ⊢
    unfold D6 at h ⊢
    split at h
    · simp at h
    · rename_i hc
      rw [if_neg hc]
      dsimp only at h ⊢
      obtain ⟨h1,h2⟩:=numD_part base m (base * a+J9 (c.toNat:Int) base) d t ht (by omega)
      exact ⟨by omega,by rw [H9,if_neg hc]; exact h2⟩
theorem numD_le' (base:Int) (hb:base≤16):∀ (m:Nat) (a:Int) (d t:List UInt8),(∀ c t',t=c::t'→J9 (c.toNat:Int) base<0)→(D6 base m a (d++t)).2≤d.length
  | 0,_,_,_,_=>Nat.zero_le _
  | m+1,a,[],t,ht=>by
    rw [List.nil_append]
    cases t with
    | nil=>exact Nat.le_refl _
    | cons c t'=>unfold D6; rw [if_pos (ht c t' rfl)]; exact Nat.le_refl _
  | m+1,a,c::d,t,ht=>by
    rw [List.cons_append,List.length_cons]
    unfold D6
    split
    · exact Nat.zero_le _
    · have:=numD_le' base hb m (base * a+J9 (c.toNat:Int) base) d t ht
      dsimp only; omega
theorem d59 (base:Int) (u:List UInt8):∀ c t',(59::u:List UInt8)=c::t'→J9 (c.toNat:Int) base<0:=by
  intro c t' h
  injection h with h1 h2
  subst h1
  have:digC ((59:UInt8).toNat:Int)=-1:=by decide
  unfold J9; rw [this]; split <;> decide
def refN (at_:Nat) (r:Int × Nat) (l:List UInt8):Int × Nat :=
  if r.2=0∨l.length≤at_+r.2∨l.getD (at_+r.2) 0≠59∨r.1=0∨isB r.1=false then (-1,0) else (r.1,at_+r.2+1)
def F0 (l:List UInt8):Int × Nat :=
  if l.take 5=[38,97,109,112,59] then (38,5) else if l.take 4=[38,108,116,59] then (60,4) else if l.take 4=[38,103,116,59] then (62,4) else if l.take 6=[38,113,117,111,116,59] then (34,6) else if l.take 6=[38,97,112,111,115,59] then (39,6)
  else if l.take 3=[38,35,120]∨l.take 3=[38,35,88] then refN 3 (D6 16 6 0 (l.drop 3)) l else if l.take 2=[38,35] then refN 2 (D6 10 7 0 (l.drop 2)) l else (-1,0)
theorem take_no {q p u:List UInt8} (hq:∀ b∈q,b≠59) (hp:∀ b∈p,b≠59):(p++59::u).take (q.length+1)=q++[59] ↔ p=q:=by
  constructor
  · intro h
    induction q generalizing p with
    | nil =>
      cases p with
      | nil=>rfl
      | cons b p=>simp at h; exact absurd h (hp b List.mem_cons_self)
    | cons c q ih =>
      cases p with
      | nil=>simp at h; exact absurd h.1.symm (hq c List.mem_cons_self)
      | cons b p =>
        simp only [List.cons_append,List.length_cons,List.take_succ_cons,List.cons.injEq] at h
        rw [h.1,ih (fun x hx=>hq x (List.mem_cons_of_mem _ hx)) (fun x hx=>hp x (List.mem_cons_of_mem _ hx)) h.2]
  · rintro rfl
    rw [show p.length+1=(p++[59]).length by simp,show p++59::u=(p++[59])++u by simp,List.take_left]
theorem take_pre {q p u:List UInt8} (hq:∀ b∈q,b≠59):(p++59::u).take q.length=q ↔ p.take q.length=q:=by
  induction q generalizing p with
  | nil=>simp
  | cons c q ih =>
    cases p with
    | nil=>simp only [List.nil_append,List.length_cons,List.take_succ_cons,List.cons.injEq,List.take_nil]; exact ⟨fun h=>absurd h.1.symm (hq c List.mem_cons_self),fun h=>by cases h⟩
    | cons b p=>simp only [List.cons_append,List.length_cons,List.take_succ_cons,List.cons.injEq,ih (fun x hx=>hq x (List.mem_cons_of_mem _ hx))]
theorem take_all {q t:List UInt8} (hq:59∈q) (ht:∀ b∈t,b≠59) {n:Nat}:(t.take n)≠q:=by
  rintro rfl; exact ht 59 (List.mem_of_mem_take hq) rfl
theorem getD_in {l:List UInt8} {k:Nat} (h:k<l.length):l.getD k 0∈l:=by rw [getD_get _ h]; exact List.getElem_mem _
theorem refN_eq {pre d u:List UInt8} {base:Int} {m:Nat} (hb:base≤16) (hd:∀ b∈d,b≠59) :
    refN pre.length (D6 base m 0 (d++59::u)) (pre++(d++59::u))=if G2 d base m<0 then (-1,0) else (G2 d base m,pre.length+d.length+1):=by
  have hk:=numD_le base m 0 (d++59::u)
  have hk2:=numD_le' base hb m 0 d (59::u) (d59 base u)
  have hlen:(pre++(d++59::u)).length=pre.length+d.length+1+u.length:=by simp; omega
  have hget:∀ k,(pre++(d++59::u)).getD (pre.length+k) 0=(d++59::u).getD k 0:=by
    intro k; simp only [List.getD]; rw [List.getElem?_append_right (Nat.le_add_right _ _),Nat.add_sub_cancel_left]
  by_cases hall:(D6 base m 0 (d++59::u)).2=d.length
  · obtain ⟨h1,h2⟩:=numD_part base m 0 d (59::u) (d59 base u) hall
    have h59:(d++59::u).getD d.length 0=59:=by simp [List.getD]
    unfold refN G2
    rw [hall,hlen,hget,h59,h2]
    dsimp only
    by_cases h0:d.length=0
    · rw [if_pos (show d.length=0∨_ from .inl h0)]; rw [if_pos (show d.length=0∨m<d.length from .inl h0)]; rw [if_pos (by decide)]
    rw [if_neg (show ¬ (d.length=0∨m<d.length) by omega)]
    by_cases hn:(D6 base m 0 (d++59::u)).1=0∨isB (D6 base m 0 (d++59::u)).1=false
    · rw [if_pos hn,if_pos (by right; right; right; exact hn),if_pos (by decide)]
    · rw [if_neg hn]
      have hr:isR (D6 base m 0 (d++59::u)).1:=isB_iff.1 (by cases hq:isB (D6 base m 0 (d++59::u)).1 with | true=>rfl | false=>exact absurd (.inr hq) hn)
      have:=hr.1
      rw [if_neg (by
        rintro (h | h | h | h)
        · exact h0 h
        · omega
        · exact h rfl
        · exact hn h),if_neg (by omega)]
  · have hlt:(D6 base m 0 (d++59::u)).2<d.length:=by omega
    have hne:(d++59::u).getD (D6 base m 0 (d++59::u)).2 0≠59:=by
      have e:(d++59::u).getD (D6 base m 0 (d++59::u)).2 0=d.getD (D6 base m 0 (d++59::u)).2 0:=by
        simp only [List.getD,List.getElem?_append_left hlt]
      rw [e]; exact hd _ (getD_in hlt)
    have hnum:G2 d base m<0:=by
      unfold G2
      split
      · decide
      · rename_i hc
        cases hv:numV base 0 d with
        | none=>decide
        | some v =>
          have:=numD_all base m 0 v d (59::u) hv (by
            rcases Nat.lt_or_ge d.length m with h | h
            · exact .inr ⟨h,d59 base u⟩
            · exact .inl (by omega))
          rw [this] at hlt; exact absurd hlt (Nat.lt_irrefl _)
    unfold refN
    rw [hget,if_pos (.inr (.inr (.inl hne))),if_pos hnum]
theorem find59:∀ t:List UInt8,¬ (∀ b∈t,b≠59)→∃ p u,t=p++59::u∧∀ b∈p,b≠59
  | [],h=>absurd (fun b hb=>by cases hb) h
  | b::t,h=>by
    by_cases hb:b=59
    · exact ⟨[],t,by rw [hb]; rfl,by intro x hx; cases hx⟩
    · obtain ⟨p,u,e,hp⟩:=find59 t (fun h2=>h fun x hx=>by
        rcases List.mem_cons.1 hx with hx | hx
        · rw [hx]; exact hb
        · exact h2 x hx)
      exact ⟨b::p,u,by rw [e]; rfl,fun x hx=>by
        rcases List.mem_cons.1 hx with hx | hx
        · rw [hx]; exact hb
        · exact hp x hx⟩
theorem refD_eq (t:List UInt8):F0 (38::t)=if (refC t).1<0 then (-1,0) else ((refC t).1,(refC t).2+1):=by
  by_cases h59:∀ b∈t,b≠59
  · -- no end in sight
    have h38:∀ b∈(38::t),b≠59:=by
      intro b hb; rcases List.mem_cons.1 hb with rfl | hb
      · decide
      · exact h59 b hb
    have hc:refC t=(-1,0):=by unfold refC; rw [idxL_none h59,if_neg (Nat.lt_irrefl _)]
    have hN:∀ k r,refN k r (38::t)=(-1,0):=by
      intro k r
      unfold refN
      by_cases hl:(38::t).length≤k+r.2
      · rw [if_pos (.inr (.inl hl))]
      · rw [if_pos (.inr (.inr (.inl (h38 _ (getD_in (by omega))))))]
    rw [hc,if_pos (by decide)]
    unfold F0
    rw [if_neg (take_all (by decide) h38),if_neg (take_all (by decide) h38),if_neg (take_all (by decide) h38),if_neg (take_all (by decide) h38),if_neg (take_all (by decide) h38),hN,hN]
    split
    · rfl
    split <;> rfl
  · -- t=p++59::u
    obtain ⟨p,u,rfl,hp⟩:=find59 t h59
    rw [refC_at hp]
    dsimp only
    have nm:∀ q:List UInt8,(∀ b∈q,b≠59)→((38::(p++59::u)).take (q.length+2)=38::(q++[59]) ↔ p=q):=by
      intro q hq
      rw [List.take_succ_cons,List.cons.injEq,take_no hq hp]; simp
    have pr:∀ q:List UInt8,(∀ b∈q,b≠59)→((38::(p++59::u)).take (q.length+1)=38::q ↔ p.take q.length=q):=by
      intro q hq
      rw [List.take_succ_cons,List.cons.injEq,take_pre hq]; simp
    have n1:(38::(p++59::u)).take 5=[38,97,109,112,59] ↔ p=[97,109,112]:=nm [97,109,112] (by decide)
    have n2:(38::(p++59::u)).take 4=[38,108,116,59] ↔ p=[108,116]:=nm [108,116] (by decide)
    have n3:(38::(p++59::u)).take 4=[38,103,116,59] ↔ p=[103,116]:=nm [103,116] (by decide)
    have n4:(38::(p++59::u)).take 6=[38,113,117,111,116,59] ↔ p=[113,117,111,116]:=nm [113,117,111,116] (by decide)
    have n5:(38::(p++59::u)).take 6=[38,97,112,111,115,59] ↔ p=[97,112,111,115]:=nm [97,112,111,115] (by decide)
    have p1:(38::(p++59::u)).take 3=[38,35,120] ↔ p.take 2=[35,120]:=pr [35,120] (by decide)
    have p2:(38::(p++59::u)).take 3=[38,35,88] ↔ p.take 2=[35,88]:=pr [35,88] (by decide)
    have p3:(38::(p++59::u)).take 2=[38,35] ↔ p.take 1=[35]:=pr [35] (by decide)
    unfold F0 refM
    by_cases c1:p=[97,109,112]
    · rw [if_pos (n1.2 c1),if_pos c1,c1]; rfl
    rw [if_neg (fun h=>c1 (n1.1 h)),if_neg c1]
    by_cases c2:p=[108,116]
    · rw [if_pos (n2.2 c2),if_pos c2,c2]; rfl
    rw [if_neg (fun h=>c2 (n2.1 h)),if_neg c2]
    by_cases c3:p=[103,116]
    · rw [if_pos (n3.2 c3),if_pos c3,c3]; rfl
    rw [if_neg (fun h=>c3 (n3.1 h)),if_neg c3]
    by_cases c4:p=[113,117,111,116]
    · rw [if_pos (n4.2 c4),if_pos c4,c4]; rfl
    rw [if_neg (fun h=>c4 (n4.1 h)),if_neg c4]
    by_cases c5:p=[97,112,111,115]
    · rw [if_pos (n5.2 c5),if_pos c5,c5]; rfl
    rw [if_neg (fun h=>c5 (n5.1 h)),if_neg c5]
    have split2:∀ {a b:UInt8},p.take 2=[a,b]→p=a::b::p.drop 2:=fun h=>by
      have:=List.take_append_drop 2 p; rw [h] at this; exact this.symm
    have go:∀ {a b:UInt8} {base:Int} {m:Nat},base≤16→p.take 2=[a,b]→refN 3 (D6 base m 0 ((38::(p++59::u)).drop 3)) (38::(p++59::u))=if G2 (p.drop 2) base m<0 then (-1,0) else (G2 (p.drop 2) base m,p.length+1+1):=by
      intro a b base m hb h
      have e:=split2 h
      have hd:∀ x∈p.drop 2,x≠59:=fun x hx=>hp x (List.mem_of_mem_drop hx)
      have:=refN_eq (pre:=[38,a,b]) (d:=p.drop 2) (u:=u) (base:=base) (m:=m) hb hd
      have e1:[38,a,b]++(p.drop 2++59::u)=38::(p++59::u):=by
        rw [show [38,a,b]++(p.drop 2++59::u)=38::((a::b::p.drop 2)++59::u) from rfl,← e]
      have e2:(38::(p++59::u)).drop 3=p.drop 2++59::u:=by rw [← e1]; rfl
      have e3:[38,a,b].length+(p.drop 2).length+1=p.length+1+1:=by
        have:=congrArg List.length e; simp only [List.length_cons] at this; simp only [List.length_cons,List.length_nil]; omega
      rw [e1,e3] at this
      rw [e2]; exact this
    by_cases d1:p.take 2=[35,120]
    · rw [if_pos (.inl (p1.2 d1)),if_pos d1,go (by decide) d1]
    by_cases d2:p.take 2=[35,88]
    · rw [if_pos (.inr (p2.2 d2)),if_neg d1,if_pos d2,go (by decide) d2]
    rw [if_neg (by rintro (h | h); exact d1 (p1.1 h); exact d2 (p2.1 h)),if_neg d1,if_neg d2]
    by_cases d3:p.take 1=[35]
    · rw [if_pos (p3.2 d3),if_pos d3]
      have e:p=35::p.drop 1:=by have:=List.take_append_drop 1 p; rw [d3] at this; exact this.symm
      have hd:∀ x∈p.drop 1,x≠59:=fun x hx=>hp x (List.mem_of_mem_drop hx)
      have:=refN_eq (pre:=[38,35]) (d:=p.drop 1) (u:=u) (base:=10) (m:=7) (by decide) hd
      have e1:[38,35]++(p.drop 1++59::u)=38::(p++59::u):=by
        rw [show [38,35]++(p.drop 1++59::u)=38::((35::p.drop 1)++59::u) from rfl,← e]
      have e2:(38::(p++59::u)).drop 2=p.drop 1++59::u:=by rw [← e1]; rfl
      have e3:([38,35]:List UInt8).length+(p.drop 1).length+1=p.length+1+1:=by
        have:=congrArg List.length e; simp only [List.length_cons] at this; simp only [List.length_cons,List.length_nil]; omega
      rw [e1,e3] at this
      rw [e2]; exact this
    · rw [if_neg (fun h=>d3 (p3.1 h)),if_neg d3,if_pos (by decide)]
theorem unD_cons (c:UInt8) (t:List UInt8):unL (c::t)=if c≠38 then c::unL t else if (F0 (c::t)).1<0 then c::unL t else encodeRune (F0 (c::t)).1++unL ((c::t).drop (F0 (c::t)).2):=by
  rw [unL_cons]
  by_cases h:c=38
  · subst h
    simp only [ne_eq,not_true_eq_false,if_false]
    rw [refD_eq]
    by_cases hr:(refC t).1<0
    · simp only [if_pos hr]; rw [if_pos (by decide)]
    · simp only [if_neg hr]; rfl
  · rw [if_pos h,if_pos h]
theorem refD_rng (t:List UInt8):(¬ (F0 (38::t)).1<0→isR (F0 (38::t)).1)∧(F0 (38::t)).2≤t.length+1∧(¬ (F0 (38::t)).1<0→1≤(F0 (38::t)).2)∧-1≤(F0 (38::t)).1:=by
  have hc:(refC t).2≤t.length∧(¬ (refC t).1<0→isR (refC t).1):=by
    unfold refC
    dsimp only
    split
    · rename_i h; exact ⟨by dsimp only; omega,fun hr=>refM_isR hr⟩
    · exact ⟨Nat.zero_le _,fun h=>absurd (by decide) h⟩
  rw [refD_eq]
  by_cases hr:(refC t).1<0
  · rw [if_pos hr]; exact ⟨fun h=>absurd (by decide) h,Nat.zero_le _,fun h=>absurd (by decide) h,by decide⟩
  · rw [if_neg hr]; exact ⟨fun _=>hc.2 hr,by dsimp only; omega,fun _=>by dsimp only; omega,by dsimp only; omega⟩
theorem numD_take (base:Int):∀ (m:Nat) (a:Int) (x:List UInt8),(D6 base m a x).2=m→m≤x.length∧numV base a (x.take m)=some (D6 base m a x).1
  | 0,a,x,_=>⟨Nat.zero_le _,rfl⟩
  | m+1,a,[],h=>by simp [D6] at h
  | m+1,a,c::t,h=>by
    unfold D6 at h ⊢
    split at h
    · simp at h
    · rename_i hc
      dsimp only at h
      obtain ⟨h1,h2⟩:=numD_take base m (base * a+J9 (c.toNat:Int) base) t (by omega)
      rw [if_neg hc,List.take_succ_cons,H9,if_neg hc]
      exact ⟨by rw [List.length_cons]; omega,h2⟩
def unitD (l:List UInt8):Int:=if l.take 2≠[92,117] then -1 else if (D6 16 4 0 (l.drop 2)).2<4 then -1 else (D6 16 4 0 (l.drop 2)).1
theorem unitD_eq (l:List UInt8):unitD l=C5 l:=by
  unfold unitD C5
  by_cases h:l.take 2=[92,117]
  · rw [if_neg (fun hn=>hn h)]
    by_cases hk:(D6 16 4 0 (l.drop 2)).2<4
    · rw [if_pos hk]
      by_cases hl:l.length<6
      · rw [if_pos (.inl hl)]
      · rw [if_neg (by rintro (h1 | h1); exact hl h1; exact h1 h)]
        cases hv:numV 16 0 ((l.drop 2).take 4) with
        | none=>rfl
        | some v =>
          have:=numD_all 16 4 0 v ((l.drop 2).take 4) ((l.drop 2).drop 4) hv (.inl (by rw [List.length_take,List.length_drop]; omega))
          rw [List.take_append_drop] at this
          rw [this,List.length_take,List.length_drop] at hk; omega
    · have h4:=numD_take 16 4 0 (l.drop 2) (by have:=(numD_le 16 4 0 (l.drop 2)).1; omega)
      rw [List.length_drop] at h4
      rw [if_neg hk,if_neg (by rintro (h1 | h1); omega; exact h1 h),h4.2]; rfl
  · rw [if_pos h,if_pos (.inr h)]
end Go.Esc
namespace Go.Esc
open Go.Lib Go.Sw
theorem numD_step {base n:Int} {m k:Nat} {l:List UInt8} (hk:k<l.length) (hm:k<m) (h:0≤J9 ((l.getD k 0).toNat:Int) base) (hT:D6 base m 0 l=((D6 base (m - k) n (l.drop k)).1,(D6 base (m - k) n (l.drop k)).2+k)) :
    D6 base m 0 l=((D6 base (m - (k+1)) (base * n+J9 ((l.getD k 0).toNat:Int) base) (l.drop (k+1))).1,(D6 base (m - (k+1)) (base * n+J9 ((l.getD k 0).toNat:Int) base) (l.drop (k+1))).2+(k+1)):=by
  rw [hT,G0 _ hk,show m - k=(m - (k+1))+1 by omega,D6,if_neg (by omega)]
  refine Prod.ext rfl ?_
  show _+1+k=_+(k+1)
  omega
theorem numD_stop {base n:Int} {m k:Nat} {l:List UInt8} (h:l.length≤k∨m≤k∨J9 ((l.getD k 0).toNat:Int) base<0) (hT:D6 base m 0 l=((D6 base (m - k) n (l.drop k)).1,(D6 base (m - k) n (l.drop k)).2+k)):D6 base m 0 l=(n,k):=by
  have e:D6 base (m - k) n (l.drop k)=(n,0):=by
    by_cases hm:m≤k
    · rw [show m - k=0 by omega,D6]
    by_cases hl:l.length≤k
    · rw [List.drop_eq_nil_of_le hl,show m - k=(m - k - 1)+1 by omega,D6]
    have h3:J9 ((l.getD k 0).toNat:Int) base<0:=by
      rcases h with h | h | h
      · exact absurd h hl
      · exact absurd h hm
      · exact h
    rw [G0 _ (by omega),show m - k=(m - k - 1)+1 by omega,D6,if_pos h3]
  rw [hT,e]; exact Prod.ext rfl (Nat.zero_add _)
theorem b38 {b:UInt8} (h:(b.toNat:Int)=38):b=38:=UInt8.toNat_inj.1 (by show b.toNat=38; omega)
theorem b92 {b:UInt8} (h:(b.toNat:Int)=92):b=92:=UInt8.toNat_inj.1 (by show b.toNat=92; omega)
theorem un_keep {l t:List UInt8} {b:UInt8} (hL:l=b::t) (h:(b.toNat:Int)≠38∨(F0 l).1<0):unL l=b::unL t:=by
  subst hL
  rw [unD_cons]
  by_cases hc:b=38
  · rw [if_neg (fun hn=>hn hc),if_pos]
    rcases h with h | h
    · exact absurd (by rw [hc]; rfl) h
    · exact h
  · rw [if_pos hc]
theorem un_ref {l t:List UInt8} {b:UInt8} (hL:l=b::t) (hb:(b.toNat:Int)=38) (h:¬ (F0 l).1<0):unL l=encodeRune (F0 l).1++unL (l.drop (F0 l).2):=by
  subst hL
  rw [unD_cons,if_neg (fun hn=>hn (b38 hb)),if_neg h]
theorem ref_rng {l t:List UInt8} {b:UInt8} (hL:l=b::t) (hb:(b.toNat:Int)=38):(¬ (F0 l).1<0→isR (F0 l).1)∧(F0 l).2≤l.length∧(¬ (F0 l).1<0→1≤(F0 l).2)∧-1≤(F0 l).1:=by
  subst hL
  have:=b38 hb
  subst this
  exact refD_rng t
theorem djA {l t:List UInt8} {b:UInt8} (hL:l=b::t) (hc:(b.toNat:Int)<32∨(b.toNat:Int)=34):ujL l=none:=by
  subst hL
  rw [J5,if_pos]
  rcases hc with hc | hc
  · exact .inl (UInt8.lt_iff_toNat_lt.2 (by show b.toNat<32; omega))
  · exact .inr (UInt8.toNat_inj.1 (by show b.toNat=34; omega))
theorem djB {l t:List UInt8} {b:UInt8} (hL:l=b::t) (hc:¬ ((b.toNat:Int)<32∨(b.toNat:Int)=34)) (h2:(b.toNat:Int)≠92):ujL l=(ujL t).map ([b]++·):=by
  subst hL
  rw [J5,if_neg (uj_no hc),if_pos (by rintro rfl; exact h2 rfl)]; rfl
theorem djC {l t:List UInt8} {b:UInt8} (hL:l=b::t) (h2:(b.toNat:Int)=92):((F1 l).1<0→ujL l=none)∧(¬ (F1 l).1<0→ujL l=(ujL (l.drop (F1 l).2)).map (encodeRune (F1 l).1++·)):=by
  subst hL
  have:=b92 h2
  subst this
  have hn:¬ ((92:UInt8)<32∨(92:UInt8)=34):=by decide
  refine ⟨fun hr=>?_,fun hr=>?_⟩
  · rw [J5,if_neg hn,if_neg (by decide),if_pos hr]
  · rw [J5,if_neg hn,if_neg (by decide),if_neg hr]
theorem dj_end {l:List UInt8} (h:l.length<2):F1 l=(-1,0):=by unfold F1; rw [if_pos h]
theorem dj_one {l:List UInt8} (h:¬ l.length<2) (ho:0≤G5 (l.getD 1 0)):F1 l=(G5 (l.getD 1 0),2):=by unfold F1; rw [if_neg h,if_pos ho]
theorem dj_hi {l:List UInt8} (h:¬ l.length<2) (ho:¬ 0≤G5 (l.getD 1 0)) (hs:¬ (55296≤C5 l∧C5 l<56320)) (hi:isR (C5 l)):F1 l=(C5 l,6):=by
  unfold isR at hi
  unfold F1; rw [if_neg h,if_neg ho,if_neg hs,if_neg (by omega)]
theorem dj_lo {l:List UInt8} (h:¬ l.length<2) (ho:¬ 0≤G5 (l.getD 1 0)) (hs:¬ (55296≤C5 l∧C5 l<56320)) (hi:¬ isR (C5 l)):(F1 l).1<0:=by
  have hr:=M4 l
  unfold F1; rw [if_neg h,if_neg ho,if_neg hs]
  split
  · decide
  · show C5 l<0; unfold isR at hi; omega
theorem dj_pairN {l:List UInt8} (h:¬ l.length<2) (ho:¬ 0≤G5 (l.getD 1 0)) (hs:55296≤C5 l∧C5 l<56320) (hm:C5 (l.drop 6)<56320∨57343<C5 (l.drop 6)):F1 l=(-1,0):=by
  unfold F1; rw [if_neg h,if_neg ho,if_pos hs,if_pos hm]
theorem dj_pair {l:List UInt8} (h:¬ l.length<2) (ho:¬ 0≤G5 (l.getD 1 0)) (hs:55296≤C5 l∧C5 l<56320) (hm:¬ (C5 (l.drop 6)<56320∨57343<C5 (l.drop 6))):F1 l=(65536+(C5 l - 55296) * 1024+C5 (l.drop 6) - 56320,12):=by
  unfold F1; rw [if_neg h,if_neg ho,if_pos hs,if_neg hm]
def nameK (k:Nat):UInt8:=[34,92,47,98,102,110,114,116].getD k 0
def valK (k:Nat):UInt8:=[34,92,47,8,12,10,13,9].getD k 0
def oneK:Nat→UInt8→Int
  | 0,_=>-1
  | k+1,b=>if b=nameK k then ((valK k).toNat:Int) else oneK k b
theorem oneK8:∀ n:Fin 256,oneK 8 (UInt8.ofNat n.val)=G5 (UInt8.ofNat n.val)∧(0≤G5 (UInt8.ofNat n.val)→encodeRune (G5 (UInt8.ofNat n.val))=[UInt8.ofNat (G5 (UInt8.ofNat n.val)).toNat]∧G5 (UInt8.ofNat n.val)<256):=by decide +kernel
theorem oneK_eq (b:UInt8):oneK 8 b=G5 b∧(0≤G5 b→encodeRune (G5 b)=[UInt8.ofNat (G5 b).toNat]∧G5 b<256):=by
  have:=oneK8 ⟨b.toNat,b.toNat_lt⟩
  simpa using this
theorem nameK_at {k:Nat} (h:k<8):([.int .u8 34,.int .u8 92,.int .u8 47,.int .u8 98,.int .u8 102,.int .u8 110,.int .u8 114,.int .u8 116]:List Value)[k]? = some (.int .u8 ((nameK k).toNat:Int)):=by
  rcases k with _ | _ | _ | _ | _ | _ | _ | _ | k
  all_goals first | rfl | omega
theorem valK_at {k:Nat} (h:k<8):([.int .u8 34,.int .u8 92,.int .u8 47,.int .u8 8,.int .u8 12,.int .u8 10,.int .u8 13,.int .u8 9]:List Value)[k]? = some (.int .u8 ((valK k).toNat:Int)):=by
  rcases k with _ | _ | _ | _ | _ | _ | _ | _ | k
  all_goals first | rfl | omega
theorem oneK_yes {k:Nat} {b:UInt8} (h:(b.toNat:Int)=((nameK k).toNat:Int)):((valK k).toNat:Int)=oneK (k+1) b:=by
  rw [oneK,if_pos (UInt8.toNat_inj.1 (by omega))]
theorem oneK_no {k:Nat} {b:UInt8} (h:¬ (b.toNat:Int)=((nameK k).toNat:Int)):oneK k b=oneK (k+1) b:=by
  rw [oneK,if_neg (fun hb=>h (by rw [hb]))]
def unjW:Option (List UInt8)→Value
  | some t=>.tuple #[.string (bk t),.bool true]
  | none=>.tuple #[.string (ByteArray.mk #[]),.bool false]
end Go.Esc
