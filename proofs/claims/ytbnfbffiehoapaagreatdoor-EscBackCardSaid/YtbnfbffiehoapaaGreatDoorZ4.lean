/- What the laws of texts written out and read back stand on. (and what it stands on) -/
import Derived.Test.YtbnfbffiehoapaaGreatDoorZ3
import Derived.ChangeMaps5
namespace Go.Proofs.YtbnfbffiehoapaaGreatDoor
open Go.Sw Go.Sha Go.Esc Go.RowKit
theorem pow16R {k:Nat} (h:k≤7):(16:Int) ^ k≤268435456:=by
  have:(16:Nat) ^ k≤16 ^ 7:=Nat.pow_le_pow_right (by decide) h
  have e:((16 ^ k:Nat):Int)=(16:Int) ^ k:=by simp
  rw [← e]; omega
theorem refN_no {s:ByteArray} {a:Nat} {A:Int} {r:Int × Nat} (hA:A=(a:Int)) (h:(r.2:Int)=0∨(s.size:Int)≤A+(r.2:Int)∨¬ A5 s (A+(r.2:Int))=59∨r.1=0∨¬ isR r.1):refN a r s.data.toList=(-1,0):=by
  unfold refN
  rw [if_pos]
  rw [hA,← Int.natCast_add,E7] at h
  rw [B7]
  rcases h with h | h | h | h | h
  · exact .inl (by omega)
  · exact .inr (.inl (by omega))
  · exact .inr (.inr (.inl (by intro he; rw [he] at h; exact h rfl)))
  · exact .inr (.inr (.inr (.inl h)))
  · exact .inr (.inr (.inr (.inr (isBf_iff.2 h))))
theorem refN_yes {s:ByteArray} {a:Nat} {A:Int} {r:Int × Nat} (hA:A=(a:Int)) (h0:¬ (r.2:Int)=0) (h1:¬ (s.size:Int)≤A+(r.2:Int)) (h2:A5 s (A+(r.2:Int))=59) (h3:¬ r.1=0) (h4:isR r.1):refN a r s.data.toList=(r.1,a+r.2+1):=by
  unfold refN
  rw [hA,← Int.natCast_add,E7] at h2
  rw [if_neg]
  rw [B7]
  rintro (h | h | h | h | h)
  · omega
  · omega
  · exact h (UInt8.toNat_inj.1 (by show _=59; omega))
  · exact h3 h
  · exact isBf_iff.1 h h4
theorem tk_len3 {s:ByteArray} (h:s.data.toList.take 3=[38,35,120]∨s.data.toList.take 3=[38,35,88]):3≤s.size:=by
  rw [← B7]
  rcases h with h | h
  · have:=congrArg List.length h; rw [List.length_take] at this; simp only [List.length_cons,List.length_nil] at this; omega
  · have:=congrArg List.length h; rw [List.length_take] at this; simp only [List.length_cons,List.length_nil] at this; omega
theorem tk_len2 {s:ByteArray} {a b:UInt8} (h:s.data.toList.take 2=[a,b]):2≤s.size:=by
  rw [← B7]
  have:=congrArg List.length h; rw [List.length_take] at this; simp only [List.length_cons,List.length_nil] at this; omega
theorem digit_ (x base:Int) (h0:0≤x) (h1:x≤255) (W0:World) (H:List Grp):Tri Tryz.prog 66 #[.int .u8 x,.int .i64 base] W0 H (fun v H'=>v=.int .i64 (J9 x base)∧H'=H):=by
 refine D1 (args:=[.int .u8 x,.int .i64 base]) (n:=42) Tryz.func66 rfl rfl (Nat.le_of_ble_eq_true rfl) ?_
 refine A1 (G_p [0] [0,1] (k:=?_))
 refine A0 (A1 ?_)
 refine G_p [0] [0,1,5] (k:=A0 ?_)
 refine A1 (B4 ?_)
 refine A1 (G_p [0,0,0,0,0,6,0] [0,1,5,6] (k:=?_))
 refine A0 (B1 (b:=(decide (x ≥ 48))&&(decide (x≤57))) kr (fun hc1=>?_) (fun hc1=>?_))
 ·
  simp only [Bool.and_eq_true,decide_eq_true_eq] at hc1
  refine A2 (C1 (E':=[⟨14,[],.int .u8 (IntKind.wrap .u8 (x - 48))⟩,⟨1,[],.int .i64 base⟩,⟨5,[],.int .i64 (-1)⟩]) (j:=2) [0,0] (k:=?_))
  refine C8 (E':=[⟨14,[],.int .u8 (x - 48)⟩,⟨1,[],.int .i64 base⟩,⟨5,[],.int .i64 (-1)⟩]) (by rw [w8i (by omega) (by omega)]) (A6 (j:=3) [0] (k:=?_))
  refine C3 15 (x - 48) (by omega) (by omega) kr (B0 [0] [1,5] (k:=?_))
  refine B2 (A0 ?_)
  refine A1 (A1 ?_)
  refine G_p [0,0,0] [5,40] (k:=A0 ?_)
  refine B1 (b:=decide ((x - 48) ≥ base)) kr (fun hc3=>?_) (fun hc3=>?_)
  ·
   simp only [decide_eq_true_eq] at hc3
   refine A1 (B3 (E':=[⟨4,[],.int .i64 (-1)⟩]) [0] [4] (k:=?_))
   refine A0 (B6 ?_)
   refine A3 (B5 [.tmp 4] [.int .i64 (-1)] (k:=?_))
   refine ⟨congrArg (Value.int .i64) ?_,rfl⟩
   unfold J9 digC
   (repeat split) <;> omega
  ·
   simp only [decide_eq_false_iff_not] at hc3
   refine A7 (A0 ?_)
   refine A1 (B3 (E':=[⟨4,[],.int .i64 (x - 48)⟩]) [0,0] [4] (k:=?_))
   refine A0 (B6 ?_)
   refine B5 [.tmp 4] [.int .i64 (x - 48)] (k:=?_)
   refine ⟨congrArg (Value.int .i64) ?_,rfl⟩
   unfold J9 digC
   (repeat split) <;> omega
 ·
  simp only [Bool.and_eq_false_iff,decide_eq_false_iff_not] at hc1
  refine A1 (G_p [0,0,0,0,0,6,0] [0,1,5,16] (k:=?_))
  refine A0 (B1 (b:=(decide (x ≥ 97))&&(decide (x≤102))) kr (fun hc4=>?_) (fun hc4=>?_))
  ·
   simp only [Bool.and_eq_true,decide_eq_true_eq] at hc4
   refine A2 (C1 (E':=[⟨24,[],.int .u8 (IntKind.wrap .u8 (x - 97))⟩,⟨1,[],.int .i64 base⟩,⟨5,[],.int .i64 (-1)⟩]) (j:=2) [0,0] (k:=?_))
   refine C8 (E':=[⟨24,[],.int .u8 (x - 97)⟩,⟨1,[],.int .i64 base⟩,⟨5,[],.int .i64 (-1)⟩]) (by rw [w8i (by omega) (by omega)]) (A6 (j:=3) [0] (k:=?_))
   refine C3 25 (x - 97) (by omega) (by omega) kr (A6 (j:=4) [0] (k:=?_))
   refine C3 26 ((x - 97)+10) (by omega) (by omega) kr (B0 [0] [1,5] (k:=?_))
   refine B2 (A0 ?_)
   refine A1 (A1 ?_)
   refine B3 (E':=[⟨5,[],.int .i64 ((x - 97)+10)⟩,⟨40,[],.bool (decide (((x - 97)+10) ≥ base))⟩]) [0,0,0] [5,40] (k:=A0 ?_)
   refine B1 (b:=decide (((x - 97)+10) ≥ base)) kr (fun hc7=>?_) (fun hc7=>?_)
   ·
    simp only [decide_eq_true_eq] at hc7
    refine A1 (B3 (E':=[⟨4,[],.int .i64 (-1)⟩]) [0] [4] (k:=?_))
    refine A0 (B6 ?_)
    refine A3 (B5 [.tmp 4] [.int .i64 (-1)] (k:=?_))
    refine ⟨congrArg (Value.int .i64) ?_,rfl⟩
    unfold J9 digC
    (repeat split) <;> omega
   ·
    simp only [decide_eq_false_iff_not] at hc7
    refine A7 (A0 ?_)
    refine A1 (B3 (E':=[⟨4,[],.int .i64 ((x - 97)+10)⟩]) [0,0] [4] (k:=?_))
    refine A0 (B6 ?_)
    refine B5 [.tmp 4] [.int .i64 ((x - 97)+10)] (k:=?_)
    refine ⟨congrArg (Value.int .i64) ?_,rfl⟩
    unfold J9 digC
    (repeat split) <;> omega
  ·
   simp only [Bool.and_eq_false_iff,decide_eq_false_iff_not] at hc4
   refine A1 (G_p [0,0,0,0,0,6,0] [0,1,5,27] (k:=?_))
   refine A0 (B1 (b:=(decide (x ≥ 65))&&(decide (x≤70))) kr (fun hc8=>?_) (fun hc8=>?_))
   ·
    simp only [Bool.and_eq_true,decide_eq_true_eq] at hc8
    refine A2 (C1 (E':=[⟨35,[],.int .u8 (IntKind.wrap .u8 (x - 65))⟩,⟨1,[],.int .i64 base⟩,⟨5,[],.int .i64 (-1)⟩]) (j:=2) [0,0] (k:=?_))
    refine C8 (E':=[⟨35,[],.int .u8 (x - 65)⟩,⟨1,[],.int .i64 base⟩,⟨5,[],.int .i64 (-1)⟩]) (by rw [w8i (by omega) (by omega)]) (A6 (j:=3) [0] (k:=?_))
    refine C3 36 (x - 65) (by omega) (by omega) kr (A6 (j:=4) [0] (k:=?_))
    refine C3 37 ((x - 65)+10) (by omega) (by omega) kr (B8 (E':=[⟨1,[],.int .i64 base⟩,⟨5,[],.int .i64 ((x - 65)+10)⟩]) [0] [1,5] (k:=?_))
    refine B2 (A0 ?_)
    refine A1 (A1 ?_)
    refine G_p [0,0,0] [5,40] (k:=A0 ?_)
    refine B1 (b:=decide (((x - 65)+10) ≥ base)) kr (fun hc11=>?_) (fun hc11=>?_)
    ·
     simp only [decide_eq_true_eq] at hc11
     refine A1 (B3 (E':=[⟨4,[],.int .i64 (-1)⟩]) [0] [4] (k:=?_))
     refine A0 (B6 ?_)
     refine A3 (B5 [.tmp 4] [.int .i64 (-1)] (k:=?_))
     refine ⟨congrArg (Value.int .i64) ?_,rfl⟩
     unfold J9 digC
     (repeat split) <;> omega
    ·
     simp only [decide_eq_false_iff_not] at hc11
     refine A7 (A0 ?_)
     refine A1 (B3 (E':=[⟨4,[],.int .i64 ((x - 65)+10)⟩]) [0,0] [4] (k:=?_))
     refine A0 (B6 ?_)
     refine B5 [.tmp 4] [.int .i64 ((x - 65)+10)] (k:=?_)
     refine ⟨congrArg (Value.int .i64) ?_,rfl⟩
     unfold J9 digC
     (repeat split) <;> omega
   ·
    simp only [Bool.and_eq_false_iff,decide_eq_false_iff_not] at hc8
    refine A7 (B2 ?_)
    refine A0 (A1 ?_)
    refine A1 (B3 (E':=[⟨5,[],.int .i64 (-1)⟩,⟨40,[],.bool (decide ((-1) ≥ base))⟩]) [0,0,0] [5,40] (k:=?_))
    refine A0 (B1 (b:=decide ((-1) ≥ base)) kr (fun hc12=>?_) (fun hc12=>?_))
    ·
     simp only [decide_eq_true_eq] at hc12
     refine A1 (B3 (E':=[⟨4,[],.int .i64 (-1)⟩]) [0] [4] (k:=?_))
     refine A0 (B6 ?_)
     refine A3 (B5 [.tmp 4] [.int .i64 (-1)] (k:=?_))
     refine ⟨congrArg (Value.int .i64) ?_,rfl⟩
     unfold J9 digC
     (repeat split) <;> omega
    ·
     simp only [decide_eq_false_iff_not] at hc12
     refine A7 (A0 ?_)
     refine A1 (B3 (E':=[⟨4,[],.int .i64 (-1)⟩]) [0,0] [4] (k:=?_))
     refine A0 (B6 ?_)
     refine B5 [.tmp 4] [.int .i64 (-1)] (k:=?_)
     refine ⟨congrArg (Value.int .i64) ?_,rfl⟩
     unfold J9 digC
     (repeat split) <;> omega
theorem O1 (s t:ByteArray) (_:s.size≤1000000000000) (ht:t.size≤1000000000000) (W0:World) (H:List Grp):Tri Tryz.prog 51 #[.string s,.string t] W0 H (fun v H'=>v=.bool (G1 s t)∧H'=H):=by
 refine D1 (args:=[.string s,.string t]) (n:=18) Tryz.func51 rfl rfl (Nat.le_of_ble_eq_true rfl) ?_
 refine A1 (B3 (E':=[⟨0,[],.string s⟩,⟨1,[],.string t⟩]) [0] [0,1] (k:=?_))
 refine A0 (A1 ?_)
 refine A2 (A6 (j:=9) [0,0,0,0,0,0,0,0,0] (k:=?_))
 refine E8 (ch:=[(10,true)]) (s:=s) (vl:=none) (vh:=(some (.int .i64 (t.size:Int)))) (l:=0) (h:=(t.size:Int)) (hb:=(fun hc=>by have hg0:=K0 (t:=10) (c:=[]) (b:=decide ((s.size:Int) ≥ (t.size:Int))) hc kr; (try simp at hg0); omega)) (k:=B0 [0,0,6,0] [4] (k:=?_))
 refine A0 (B6 ?_)
 refine B5 [.tmp 4] [.bool ((decide ((s.size:Int) ≥ (t.size:Int)))&&((s.extract 0 t.size).toList==t.toList))] (k:=?_)
 exact ⟨by unfold G1; rfl,rfl⟩
theorem rnumber10_ (s:ByteArray) (m:Nat) (mi:Int) (hmi:mi=(m:Int)) (hm:m≤7) (hs:s.size≤1000000000000) (W0:World) (H:List Grp):Tri Tryz.prog 52 #[.string s,.int .i64 10,.int .i64 mi] W0 H (fun v H'=>v=.tuple #[.int .i64 (D6 10 m 0 s.data.toList).1,.int .i64 ((D6 10 m 0 s.data.toList).2:Int)]∧H'=H):=by
 refine D1 (args:=[.string s,.int .i64 10,.int .i64 mi]) (n:=40) Tryz.func52 rfl rfl (Nat.le_of_ble_eq_true rfl) ?_
 refine A1 (G_p [0,0] [0,1,2] (k:=?_))
 refine A0 (A1 ?_)
 refine G_p [0,0] [0,1,2,8,9] (k:=A0 ?_)
 refine A1 (B4 ?_)
 refine I8 (EI:=(fun ξ:Nat × Int=>[⟨0,[],.string s⟩,⟨1,[],.int .i64 10⟩,⟨2,[],.int .i64 mi⟩,⟨8,[],.int .i64 ξ.2⟩,⟨9,[],.int .i64 ((ξ.1:Nat):Int)⟩])) (HI:=(fun ξ:Nat × Int=>H)) (Φ:=(fun ξ:Nat × Int=>(ξ.1≤s.size)∧(ξ.1≤m)∧(0≤ξ.2)∧(ξ.2<16 ^ ξ.1)∧(D6 10 m 0 s.data.toList=((D6 10 (m - ξ.1) ξ.2 (s.data.toList.drop ξ.1)).1,(D6 10 (m - ξ.1) ξ.2 (s.data.toList.drop ξ.1)).2+ξ.1)))) (μ:=(fun ξ:Nat × Int=>s.size - ξ.1)) (s0:=(0,0)) [0,1,2,8,9] kr rfl ⟨(by omega),(by omega),(by decide),(by decide),rfl⟩ ?_
 rintro ⟨k,n⟩ ⟨hk,hkm,hn0,hn1,hT⟩
 dsimp only at hk hkm hn0 hn1 hT
 have hp:=pow16R (show k≤7 by omega)
 have hcr:=byte_rngR (s.data.toList.getD k 0)
 have hdr:=digB_rng ((s.data.toList.getD k 0).toNat:Int) 10 (by decide)
 have hbyte:A5 s (k:Int)=((s.data.toList.getD k 0).toNat:Int):=E7 s k
 refine A1 (A1 ?_)
 refine A2 (A6 (j:=12) [0,0,0,0,0,0,0,0,6,0,0,0] (k:=?_))
 refine C0 (ch:=[(19,true)]) (s:=s) (kd:=.i64) (j:=((k:Nat):Int)) (hb:=(fun hc=>by have hg0:=K0 (t:=19) (c:=[]) (b:=(decide (((k:Nat):Int)<(s.size:Int)))&&(decide (((k:Nat):Int)<mi))) hc kr; (try simp at hg0); omega)) (k:=?_)
 have hb1:=C7 s ((k:Nat):Int)
 refine C8 (E':=[⟨22,[(19,true)],.int .u8 ((s.data.toList.getD k 0).toNat:Int)⟩,⟨21,[(19,true)],.int .i64 ((k:Nat):Int)⟩,⟨20,[(19,true)],.string s⟩,⟨19,[],.bool ((decide (((k:Nat):Int)<(s.size:Int)))&&(decide (((k:Nat):Int)<mi)))⟩,⟨18,[],.bool ((decide (((k:Nat):Int)<(s.size:Int)))&&(decide (((k:Nat):Int)<mi)))⟩,⟨17,[(14,true)],.bool (decide (((k:Nat):Int)<mi))⟩,⟨16,[(14,true)],.int .i64 mi⟩,⟨15,[(14,true)],.int .i64 ((k:Nat):Int)⟩,⟨14,[],.bool (decide (((k:Nat):Int)<(s.size:Int)))⟩,⟨13,[],.bool (decide (((k:Nat):Int)<(s.size:Int)))⟩,⟨12,[],.int .i64 (s.size:Int)⟩,⟨11,[],.string s⟩,⟨10,[],.int .i64 ((k:Nat):Int)⟩,⟨0,[],.string s⟩,⟨1,[],.int .i64 10⟩,⟨2,[],.int .i64 mi⟩,⟨8,[],.int .i64 n⟩,⟨9,[],.int .i64 ((k:Nat):Int)⟩]) (by have hz:([⟨22,[(19,true)],.int .u8 (A5 s ((k:Nat):Int))⟩,⟨21,[(19,true)],.int .i64 ((k:Nat):Int)⟩,⟨20,[(19,true)],.string s⟩,⟨19,[],.bool ((decide (((k:Nat):Int)<(s.size:Int)))&&(decide (((k:Nat):Int)<mi)))⟩,⟨18,[],.bool ((decide (((k:Nat):Int)<(s.size:Int)))&&(decide (((k:Nat):Int)<mi)))⟩,⟨17,[(14,true)],.bool (decide (((k:Nat):Int)<mi))⟩,⟨16,[(14,true)],.int .i64 mi⟩,⟨15,[(14,true)],.int .i64 ((k:Nat):Int)⟩,⟨14,[],.bool (decide (((k:Nat):Int)<(s.size:Int)))⟩,⟨13,[],.bool (decide (((k:Nat):Int)<(s.size:Int)))⟩,⟨12,[],.int .i64 (s.size:Int)⟩,⟨11,[],.string s⟩,⟨10,[],.int .i64 ((k:Nat):Int)⟩,⟨0,[],.string s⟩,⟨1,[],.int .i64 10⟩,⟨2,[],.int .i64 mi⟩,⟨8,[],.int .i64 n⟩,⟨9,[],.int .i64 ((k:Nat):Int)⟩]:List Sl)=[⟨22,[(19,true)],.int .u8 ((s.data.toList.getD k 0).toNat:Int)⟩,⟨21,[(19,true)],.int .i64 ((k:Nat):Int)⟩,⟨20,[(19,true)],.string s⟩,⟨19,[],.bool ((decide (((k:Nat):Int)<(s.size:Int)))&&(decide (((k:Nat):Int)<mi)))⟩,⟨18,[],.bool ((decide (((k:Nat):Int)<(s.size:Int)))&&(decide (((k:Nat):Int)<mi)))⟩,⟨17,[(14,true)],.bool (decide (((k:Nat):Int)<mi))⟩,⟨16,[(14,true)],.int .i64 mi⟩,⟨15,[(14,true)],.int .i64 ((k:Nat):Int)⟩,⟨14,[],.bool (decide (((k:Nat):Int)<(s.size:Int)))⟩,⟨13,[],.bool (decide (((k:Nat):Int)<(s.size:Int)))⟩,⟨12,[],.int .i64 (s.size:Int)⟩,⟨11,[],.string s⟩,⟨10,[],.int .i64 ((k:Nat):Int)⟩,⟨0,[],.string s⟩,⟨1,[],.int .i64 10⟩,⟨2,[],.int .i64 mi⟩,⟨8,[],.int .i64 n⟩,⟨9,[],.int .i64 ((k:Nat):Int)⟩]:=(by rw [hbyte]); exact Eq.trans kr hz) (A6 (j:=14) [0] (k:=?_))
 refine F6 (ch:=[(19,true)]) (f:=66) (fst:=#[]) (caps:=#[]) (vs:=[.int .u8 ((s.data.toList.getD k 0).toNat:Int),.int .i64 10]) (v:=.int .i64 (J9 ((s.data.toList.getD k 0).toNat:Int) 10)) (hf:=Tryz.func66) (hc:=(fun hc=>digit_ ((s.data.toList.getD k 0).toNat:Int) 10 (by omega) (by omega) _ _)) (k:=B0 [0,6] [0,1,2,8,9,26] (k:=?_))
 refine A0 (B1 (b:=((decide (((k:Nat):Int)<(s.size:Int)))&&(decide (((k:Nat):Int)<mi)))&&(decide ((J9 ((s.data.toList.getD k 0).toNat:Int) 10) ≥ 0))) kr (fun hc2=>?_) (fun hc2=>?_))
 ·
  simp only [Bool.and_eq_true,decide_eq_true_eq,ge_iff_le] at hc2
  refine A7 (A0 ?_)
  refine B4 (A1 ?_)
  refine A2 (A6 (j:=3) [0,0,0] (k:=?_))
  refine C3 29 (10 * n) (by omega) (by omega) kr (A6 (j:=5) [0,0] (k:=?_))
  refine C0 (ch:=[]) (s:=s) (kd:=.i64) (j:=((k:Nat):Int)) (hb:=(fun _=>by omega)) (k:=?_)
  have hb4:=C7 s ((k:Nat):Int)
  refine C8 (E':=[⟨32,[],.int .u8 ((s.data.toList.getD k 0).toNat:Int)⟩,⟨31,[],.int .i64 ((k:Nat):Int)⟩,⟨30,[],.string s⟩,⟨29,[],.int .i64 (10 * n)⟩,⟨28,[],.int .i64 n⟩,⟨27,[],.int .i64 10⟩,⟨0,[],.string s⟩,⟨1,[],.int .i64 10⟩,⟨2,[],.int .i64 mi⟩,⟨8,[],.int .i64 n⟩,⟨9,[],.int .i64 ((k:Nat):Int)⟩,⟨26,[],.bool (((decide (((k:Nat):Int)<(s.size:Int)))&&(decide (((k:Nat):Int)<mi)))&&(decide ((J9 ((s.data.toList.getD k 0).toNat:Int) 10) ≥ 0)))⟩]) (by have hz:([⟨32,[],.int .u8 (A5 s ((k:Nat):Int))⟩,⟨31,[],.int .i64 ((k:Nat):Int)⟩,⟨30,[],.string s⟩,⟨29,[],.int .i64 (10 * n)⟩,⟨28,[],.int .i64 n⟩,⟨27,[],.int .i64 10⟩,⟨0,[],.string s⟩,⟨1,[],.int .i64 10⟩,⟨2,[],.int .i64 mi⟩,⟨8,[],.int .i64 n⟩,⟨9,[],.int .i64 ((k:Nat):Int)⟩,⟨26,[],.bool (((decide (((k:Nat):Int)<(s.size:Int)))&&(decide (((k:Nat):Int)<mi)))&&(decide ((J9 ((s.data.toList.getD k 0).toNat:Int) 10) ≥ 0)))⟩]:List Sl)=[⟨32,[],.int .u8 ((s.data.toList.getD k 0).toNat:Int)⟩,⟨31,[],.int .i64 ((k:Nat):Int)⟩,⟨30,[],.string s⟩,⟨29,[],.int .i64 (10 * n)⟩,⟨28,[],.int .i64 n⟩,⟨27,[],.int .i64 10⟩,⟨0,[],.string s⟩,⟨1,[],.int .i64 10⟩,⟨2,[],.int .i64 mi⟩,⟨8,[],.int .i64 n⟩,⟨9,[],.int .i64 ((k:Nat):Int)⟩,⟨26,[],.bool (((decide (((k:Nat):Int)<(s.size:Int)))&&(decide (((k:Nat):Int)<mi)))&&(decide ((J9 ((s.data.toList.getD k 0).toNat:Int) 10) ≥ 0)))⟩]:=(by rw [hbyte]); exact Eq.trans kr hz) (A6 (j:=7) [0] (k:=?_))
  refine G4 Tryz.func66 (digit_ ((s.data.toList.getD k 0).toNat:Int) 10 (by omega) (by omega) _ _) (A6 (j:=9) [0] (k:=?_))
  refine C3 35 ((10 * n)+(J9 ((s.data.toList.getD k 0).toNat:Int) 10)) (by omega) (by omega) kr (B0 [0] [0,1,2,8,9] (k:=?_))
  refine A0 (A2 ?_)
  refine A6 (j:=2) [0,0] (k:=C3 37 (((k:Nat):Int)+1) (by omega) (by omega) kr ?_)
  refine B0 [0] [0,1,2,8,9] (k:=B2 ?_)
  refine D8 (s':=(k+1,(10 * n)+(J9 ((s.data.toList.getD k 0).toNat:Int) 10))) [0,1,2,8,9] kr rfl ⟨(by dsimp only; omega),(by dsimp only; omega),(by dsimp only; omega),(by dsimp only; rw [Int.pow_succ]; omega),(by dsimp only; exact numD_step (by rw [B7]; omega) (by omega) (by omega) hT)⟩ (by dsimp only; omega)
 ·
  simp only [Bool.and_eq_false_iff,decide_eq_false_iff_not,ge_iff_le] at hc2
  refine F7 (A8 ?_)
  refine A8 (C2 ?_)
  refine A0 (A1 ?_)
  refine G_p [0,0,0,0] [6,7] (k:=A0 ?_)
  refine B6 (B5 [.tmp 6,.tmp 7] [.int .i64 n,.int .i64 ((k:Nat):Int)] (k:=?_))
  have he:=numD_stop (l:=s.data.toList) (m:=m) (k:=k) (base:=10) (n:=n) (by rw [B7]; omega) hT
  exact ⟨by rw [he]; rfl,rfl⟩
theorem rnumber16_ (s:ByteArray) (m:Nat) (mi:Int) (hmi:mi=(m:Int)) (hm:m≤7) (hs:s.size≤1000000000000) (W0:World) (H:List Grp):Tri Tryz.prog 52 #[.string s,.int .i64 16,.int .i64 mi] W0 H (fun v H'=>v=.tuple #[.int .i64 (D6 16 m 0 s.data.toList).1,.int .i64 ((D6 16 m 0 s.data.toList).2:Int)]∧H'=H):=by
 refine D1 (args:=[.string s,.int .i64 16,.int .i64 mi]) (n:=40) Tryz.func52 rfl rfl (Nat.le_of_ble_eq_true rfl) ?_
 refine A1 (G_p [0,0] [0,1,2] (k:=?_))
 refine A0 (A1 ?_)
 refine G_p [0,0] [0,1,2,8,9] (k:=A0 ?_)
 refine A1 (B4 ?_)
 refine I8 (EI:=(fun ξ:Nat × Int=>[⟨0,[],.string s⟩,⟨1,[],.int .i64 16⟩,⟨2,[],.int .i64 mi⟩,⟨8,[],.int .i64 ξ.2⟩,⟨9,[],.int .i64 ((ξ.1:Nat):Int)⟩])) (HI:=(fun ξ:Nat × Int=>H)) (Φ:=(fun ξ:Nat × Int=>(ξ.1≤s.size)∧(ξ.1≤m)∧(0≤ξ.2)∧(ξ.2<16 ^ ξ.1)∧(D6 16 m 0 s.data.toList=((D6 16 (m - ξ.1) ξ.2 (s.data.toList.drop ξ.1)).1,(D6 16 (m - ξ.1) ξ.2 (s.data.toList.drop ξ.1)).2+ξ.1)))) (μ:=(fun ξ:Nat × Int=>s.size - ξ.1)) (s0:=(0,0)) [0,1,2,8,9] kr rfl ⟨(by omega),(by omega),(by decide),(by decide),rfl⟩ ?_
 rintro ⟨k,n⟩ ⟨hk,hkm,hn0,hn1,hT⟩
 dsimp only at hk hkm hn0 hn1 hT
 have hp:=pow16R (show k≤7 by omega)
 have hcr:=byte_rngR (s.data.toList.getD k 0)
 have hdr:=digB_rng ((s.data.toList.getD k 0).toNat:Int) 16 (by decide)
 have hbyte:A5 s (k:Int)=((s.data.toList.getD k 0).toNat:Int):=E7 s k
 refine A1 (A1 ?_)
 refine A2 (A6 (j:=12) [0,0,0,0,0,0,0,0,6,0,0,0] (k:=?_))
 refine C0 (ch:=[(19,true)]) (s:=s) (kd:=.i64) (j:=((k:Nat):Int)) (hb:=(fun hc=>by have hg0:=K0 (t:=19) (c:=[]) (b:=(decide (((k:Nat):Int)<(s.size:Int)))&&(decide (((k:Nat):Int)<mi))) hc kr; (try simp at hg0); omega)) (k:=?_)
 have hb1:=C7 s ((k:Nat):Int)
 refine C8 (E':=[⟨22,[(19,true)],.int .u8 ((s.data.toList.getD k 0).toNat:Int)⟩,⟨21,[(19,true)],.int .i64 ((k:Nat):Int)⟩,⟨20,[(19,true)],.string s⟩,⟨19,[],.bool ((decide (((k:Nat):Int)<(s.size:Int)))&&(decide (((k:Nat):Int)<mi)))⟩,⟨18,[],.bool ((decide (((k:Nat):Int)<(s.size:Int)))&&(decide (((k:Nat):Int)<mi)))⟩,⟨17,[(14,true)],.bool (decide (((k:Nat):Int)<mi))⟩,⟨16,[(14,true)],.int .i64 mi⟩,⟨15,[(14,true)],.int .i64 ((k:Nat):Int)⟩,⟨14,[],.bool (decide (((k:Nat):Int)<(s.size:Int)))⟩,⟨13,[],.bool (decide (((k:Nat):Int)<(s.size:Int)))⟩,⟨12,[],.int .i64 (s.size:Int)⟩,⟨11,[],.string s⟩,⟨10,[],.int .i64 ((k:Nat):Int)⟩,⟨0,[],.string s⟩,⟨1,[],.int .i64 16⟩,⟨2,[],.int .i64 mi⟩,⟨8,[],.int .i64 n⟩,⟨9,[],.int .i64 ((k:Nat):Int)⟩]) (by have hz:([⟨22,[(19,true)],.int .u8 (A5 s ((k:Nat):Int))⟩,⟨21,[(19,true)],.int .i64 ((k:Nat):Int)⟩,⟨20,[(19,true)],.string s⟩,⟨19,[],.bool ((decide (((k:Nat):Int)<(s.size:Int)))&&(decide (((k:Nat):Int)<mi)))⟩,⟨18,[],.bool ((decide (((k:Nat):Int)<(s.size:Int)))&&(decide (((k:Nat):Int)<mi)))⟩,⟨17,[(14,true)],.bool (decide (((k:Nat):Int)<mi))⟩,⟨16,[(14,true)],.int .i64 mi⟩,⟨15,[(14,true)],.int .i64 ((k:Nat):Int)⟩,⟨14,[],.bool (decide (((k:Nat):Int)<(s.size:Int)))⟩,⟨13,[],.bool (decide (((k:Nat):Int)<(s.size:Int)))⟩,⟨12,[],.int .i64 (s.size:Int)⟩,⟨11,[],.string s⟩,⟨10,[],.int .i64 ((k:Nat):Int)⟩,⟨0,[],.string s⟩,⟨1,[],.int .i64 16⟩,⟨2,[],.int .i64 mi⟩,⟨8,[],.int .i64 n⟩,⟨9,[],.int .i64 ((k:Nat):Int)⟩]:List Sl)=[⟨22,[(19,true)],.int .u8 ((s.data.toList.getD k 0).toNat:Int)⟩,⟨21,[(19,true)],.int .i64 ((k:Nat):Int)⟩,⟨20,[(19,true)],.string s⟩,⟨19,[],.bool ((decide (((k:Nat):Int)<(s.size:Int)))&&(decide (((k:Nat):Int)<mi)))⟩,⟨18,[],.bool ((decide (((k:Nat):Int)<(s.size:Int)))&&(decide (((k:Nat):Int)<mi)))⟩,⟨17,[(14,true)],.bool (decide (((k:Nat):Int)<mi))⟩,⟨16,[(14,true)],.int .i64 mi⟩,⟨15,[(14,true)],.int .i64 ((k:Nat):Int)⟩,⟨14,[],.bool (decide (((k:Nat):Int)<(s.size:Int)))⟩,⟨13,[],.bool (decide (((k:Nat):Int)<(s.size:Int)))⟩,⟨12,[],.int .i64 (s.size:Int)⟩,⟨11,[],.string s⟩,⟨10,[],.int .i64 ((k:Nat):Int)⟩,⟨0,[],.string s⟩,⟨1,[],.int .i64 16⟩,⟨2,[],.int .i64 mi⟩,⟨8,[],.int .i64 n⟩,⟨9,[],.int .i64 ((k:Nat):Int)⟩]:=(by rw [hbyte]); exact Eq.trans kr hz) (A6 (j:=14) [0] (k:=?_))
 refine F6 (ch:=[(19,true)]) (f:=66) (fst:=#[]) (caps:=#[]) (vs:=[.int .u8 ((s.data.toList.getD k 0).toNat:Int),.int .i64 16]) (v:=.int .i64 (J9 ((s.data.toList.getD k 0).toNat:Int) 16)) (hf:=Tryz.func66) (hc:=(fun hc=>digit_ ((s.data.toList.getD k 0).toNat:Int) 16 (by omega) (by omega) _ _)) (k:=B0 [0,6] [0,1,2,8,9,26] (k:=?_))
 refine A0 (B1 (b:=((decide (((k:Nat):Int)<(s.size:Int)))&&(decide (((k:Nat):Int)<mi)))&&(decide ((J9 ((s.data.toList.getD k 0).toNat:Int) 16) ≥ 0))) kr (fun hc2=>?_) (fun hc2=>?_))
 ·
  simp only [Bool.and_eq_true,decide_eq_true_eq,ge_iff_le] at hc2
  refine A7 (A0 ?_)
  refine B4 (A1 ?_)
  refine A2 (A6 (j:=3) [0,0,0] (k:=?_))
  refine C3 29 (16 * n) (by omega) (by omega) kr (A6 (j:=5) [0,0] (k:=?_))
  refine C0 (ch:=[]) (s:=s) (kd:=.i64) (j:=((k:Nat):Int)) (hb:=(fun _=>by omega)) (k:=?_)
  have hb4:=C7 s ((k:Nat):Int)
  refine C8 (E':=[⟨32,[],.int .u8 ((s.data.toList.getD k 0).toNat:Int)⟩,⟨31,[],.int .i64 ((k:Nat):Int)⟩,⟨30,[],.string s⟩,⟨29,[],.int .i64 (16 * n)⟩,⟨28,[],.int .i64 n⟩,⟨27,[],.int .i64 16⟩,⟨0,[],.string s⟩,⟨1,[],.int .i64 16⟩,⟨2,[],.int .i64 mi⟩,⟨8,[],.int .i64 n⟩,⟨9,[],.int .i64 ((k:Nat):Int)⟩,⟨26,[],.bool (((decide (((k:Nat):Int)<(s.size:Int)))&&(decide (((k:Nat):Int)<mi)))&&(decide ((J9 ((s.data.toList.getD k 0).toNat:Int) 16) ≥ 0)))⟩]) (by have hz:([⟨32,[],.int .u8 (A5 s ((k:Nat):Int))⟩,⟨31,[],.int .i64 ((k:Nat):Int)⟩,⟨30,[],.string s⟩,⟨29,[],.int .i64 (16 * n)⟩,⟨28,[],.int .i64 n⟩,⟨27,[],.int .i64 16⟩,⟨0,[],.string s⟩,⟨1,[],.int .i64 16⟩,⟨2,[],.int .i64 mi⟩,⟨8,[],.int .i64 n⟩,⟨9,[],.int .i64 ((k:Nat):Int)⟩,⟨26,[],.bool (((decide (((k:Nat):Int)<(s.size:Int)))&&(decide (((k:Nat):Int)<mi)))&&(decide ((J9 ((s.data.toList.getD k 0).toNat:Int) 16) ≥ 0)))⟩]:List Sl)=[⟨32,[],.int .u8 ((s.data.toList.getD k 0).toNat:Int)⟩,⟨31,[],.int .i64 ((k:Nat):Int)⟩,⟨30,[],.string s⟩,⟨29,[],.int .i64 (16 * n)⟩,⟨28,[],.int .i64 n⟩,⟨27,[],.int .i64 16⟩,⟨0,[],.string s⟩,⟨1,[],.int .i64 16⟩,⟨2,[],.int .i64 mi⟩,⟨8,[],.int .i64 n⟩,⟨9,[],.int .i64 ((k:Nat):Int)⟩,⟨26,[],.bool (((decide (((k:Nat):Int)<(s.size:Int)))&&(decide (((k:Nat):Int)<mi)))&&(decide ((J9 ((s.data.toList.getD k 0).toNat:Int) 16) ≥ 0)))⟩]:=(by rw [hbyte]); exact Eq.trans kr hz) (A6 (j:=7) [0] (k:=?_))
  refine G4 Tryz.func66 (digit_ ((s.data.toList.getD k 0).toNat:Int) 16 (by omega) (by omega) _ _) (A6 (j:=9) [0] (k:=?_))
  refine C3 35 ((16 * n)+(J9 ((s.data.toList.getD k 0).toNat:Int) 16)) (by omega) (by omega) kr (B0 [0] [0,1,2,8,9] (k:=?_))
  refine A0 (A2 ?_)
  refine A6 (j:=2) [0,0] (k:=C3 37 (((k:Nat):Int)+1) (by omega) (by omega) kr ?_)
  refine B0 [0] [0,1,2,8,9] (k:=B2 ?_)
  refine D8 (s':=(k+1,(16 * n)+(J9 ((s.data.toList.getD k 0).toNat:Int) 16))) [0,1,2,8,9] kr rfl ⟨(by dsimp only; omega),(by dsimp only; omega),(by dsimp only; omega),(by dsimp only; rw [Int.pow_succ]; omega),(by dsimp only; exact numD_step (by rw [B7]; omega) (by omega) (by omega) hT)⟩ (by dsimp only; omega)
 ·
  simp only [Bool.and_eq_false_iff,decide_eq_false_iff_not,ge_iff_le] at hc2
  refine F7 (A8 ?_)
  refine A8 (C2 ?_)
  refine A0 (A1 ?_)
  refine G_p [0,0,0,0] [6,7] (k:=A0 ?_)
  refine B6 (B5 [.tmp 6,.tmp 7] [.int .i64 n,.int .i64 ((k:Nat):Int)] (k:=?_))
  have he:=numD_stop (l:=s.data.toList) (m:=m) (k:=k) (base:=16) (n:=n) (by rw [B7]; omega) hT
  exact ⟨by rw [he]; rfl,rfl⟩
theorem rreference_ (s:ByteArray) (hs:s.size≤1000000000000) (W0:World) (H:List Grp):Tri Tryz.prog 33 #[.string s] W0 H (fun v H'=>v=.tuple #[.int .i64 (F0 s.data.toList).1,.int .i64 ((F0 s.data.toList).2:Int)]∧H'=H):=by
  refine D1 (args:=[.string s]) (n:=81) Tryz.func33 rfl rfl (Nat.le_of_ble_eq_true rfl) ?_
  refine A1 (B3 (E':=[⟨0,[],.string s⟩]) [0,0] [0] (k:=?_))
  refine A0 (A1 ?_)
  refine A2 (D0 (ch:=[]) (e:=9) (l:=[(0,.string (ByteArray.mk #[38,97,109,112,59])),(1,.string (ByteArray.mk #[38,108,116,59])),(2,.string (ByteArray.mk #[38,103,116,59])),(3,.string (ByteArray.mk #[38,113,117,111,116,59])),(4,.string (ByteArray.mk #[38,97,112,111,115,59]))]) (c:=[.string (ByteArray.mk #[38,97,109,112,59]),.string (ByteArray.mk #[38,108,116,59]),.string (ByteArray.mk #[38,103,116,59]),.string (ByteArray.mk #[38,113,117,111,116,59]),.string (ByteArray.mk #[38,97,112,111,115,59])]) (k:=(fun b1=>?_)))
  refine B0 [0] [0,4] (k:=A0 ?_)
  refine A1 (A1 ?_)
  refine G_p [0,0,0] [0,11,12,13] (k:=A0 ?_)
  refine B4 (L9 6 ?_)
  refine E4 (A1 ?_)
  refine G_p [0] [0,11,12,13,14] (k:=A0 ?_)
  refine A1 (C6 kr ?_)
  refine A7 (A0 ?_)
  refine A1 (B4 ?_)
  refine A1 (A2 ?_)
  refine A6 (j:=1) [0] (k:=C4 (ch:=[]) (a:=(some ⟨b1,0,none⟩)) (len:=5) (cap:=5) (kd:=.i64) (j:=0) (e:=9) (sz:=1) (S:=(inG [(b1,.cells #[.string (ByteArray.mk #[38,97,109,112,59]),.string (ByteArray.mk #[38,108,116,59]),.string (ByteArray.mk #[38,103,116,59]),.string (ByteArray.mk #[38,113,117,111,116,59]),.string (ByteArray.mk #[38,97,112,111,115,59])] 9 (0,0))])) (cs:=[.string (ByteArray.mk #[38,97,109,112,59]),.string (ByteArray.mk #[38,108,116,59]),.string (ByteArray.mk #[38,103,116,59]),.string (ByteArray.mk #[38,113,117,111,116,59]),.string (ByteArray.mk #[38,97,112,111,115,59])]) (hrd:=Rd.lit) (hb:=(fun _=>by exact ⟨by omega,by omega,by first | exact List.cons_ne_nil _ _ | (intro h; simp [strs] at h; simp [h] at *; omega)⟩)) (k:=?_))
  refine E6 (ch:=[]) (a:=(some ⟨b1,0,none⟩)) (q:=0 * 1) (S:=(inG [(b1,.cells #[.string (ByteArray.mk #[38,97,109,112,59]),.string (ByteArray.mk #[38,108,116,59]),.string (ByteArray.mk #[38,103,116,59]),.string (ByteArray.mk #[38,113,117,111,116,59]),.string (ByteArray.mk #[38,97,112,111,115,59])] 9 (0,0))])) (cs:=[.string (ByteArray.mk #[38,97,109,112,59]),.string (ByteArray.mk #[38,108,116,59]),.string (ByteArray.mk #[38,103,116,59]),.string (ByteArray.mk #[38,113,117,111,116,59]),.string (ByteArray.mk #[38,97,112,111,115,59])]) (v:=.string (ByteArray.mk #[38,97,109,112,59])) (hrd:=Rd.lit) (hS:=D2 0 rfl) (hv:=(fun _=>rfl)) (k:=B0 [0,0] [0,5,6,11,12,13] (k:=?_))
  refine A0 (A1 ?_)
  refine A2 (A6 (j:=2) [0,0] (k:=?_))
  refine G4 Tryz.func51 (O1 s (ByteArray.mk #[38,97,109,112,59]) (by (try rw [F8]); omega) (Nat.le_of_ble_eq_true rfl) _ _) (B0 [] [0,5,6,11,12,13,20] (k:=?_))
  refine A0 (B1 (b:=G1 s (ByteArray.mk #[38,97,109,112,59])) kr (fun hc2=>?_) (fun hc2=>?_))
  ·
    have c0:s.data.toList.take 5=[38,97,109,112,59]:=(G8 _ _).1 hc2
    refine A1 (A2 ?_)
    refine A6 (j:=1) [0] (k:=C0 (ch:=[]) (s:=(ByteArray.mk #[38,60,62,34,39])) (kd:=.i64) (j:=0) (hb:=(fun _=>by decide)) (k:=?_))
    refine B8 (E':=[⟨2,[],.int .i64 38⟩,⟨3,[],.int .i64 5⟩]) [0,0,0,0,0] [2,3] (k:=A0 ?_)
    refine B6 (A9 ?_)
    refine A3 (A3 ?_)
    refine A9 (A3 ?_)
    refine C9 (H':=H) (fun w h=>(h.erase 0)) (B5 [.tmp 2,.tmp 3] [.int .i64 38,.int .i64 5] (k:=?_))
    have he:F0 s.data.toList=(38,5):=by unfold F0; rw [if_pos c0]
    exact ⟨by rw [he]; rfl,rfl⟩
  ·
    have c0:¬ s.data.toList.take 5=[38,97,109,112,59]:=(G7 _ _).1 hc2
    refine A7 (B2 ?_)
    refine A0 (B3 (E':=[⟨0,[],.string s⟩,⟨11,[],.slice (some ⟨b1,0,none⟩) 5 5⟩,⟨12,[],.int .i64 5⟩,⟨13,[],.int .i64 1⟩]) [0,0] [0,11,12,13] (k:=?_))
    refine N_rd (E4 ?_)
    refine A1 (G_p [0] [0,11,12,13,14] (k:=?_))
    refine A0 (A1 ?_)
    refine C6 kr (A7 ?_)
    refine A0 (A1 ?_)
    refine B4 (A1 ?_)
    refine A2 (A6 (j:=1) [0] (k:=?_))
    refine C4 (ch:=[]) (a:=(some ⟨b1,0,none⟩)) (len:=5) (cap:=5) (kd:=.i64) (j:=1) (e:=9) (sz:=1) (S:=(inG [(b1,.cells #[.string (ByteArray.mk #[38,97,109,112,59]),.string (ByteArray.mk #[38,108,116,59]),.string (ByteArray.mk #[38,103,116,59]),.string (ByteArray.mk #[38,113,117,111,116,59]),.string (ByteArray.mk #[38,97,112,111,115,59])] 9 (0,0))])) (cs:=[.string (ByteArray.mk #[38,97,109,112,59]),.string (ByteArray.mk #[38,108,116,59]),.string (ByteArray.mk #[38,103,116,59]),.string (ByteArray.mk #[38,113,117,111,116,59]),.string (ByteArray.mk #[38,97,112,111,115,59])]) (hrd:=Rd.lit) (hb:=(fun _=>by exact ⟨by omega,by omega,by first | exact List.cons_ne_nil _ _ | (intro h; simp [strs] at h; simp [h] at *; omega)⟩)) (k:=E6 (ch:=[]) (a:=(some ⟨b1,0,none⟩)) (q:=1 * 1) (S:=(inG [(b1,.cells #[.string (ByteArray.mk #[38,97,109,112,59]),.string (ByteArray.mk #[38,108,116,59]),.string (ByteArray.mk #[38,103,116,59]),.string (ByteArray.mk #[38,113,117,111,116,59]),.string (ByteArray.mk #[38,97,112,111,115,59])] 9 (0,0))])) (cs:=[.string (ByteArray.mk #[38,97,109,112,59]),.string (ByteArray.mk #[38,108,116,59]),.string (ByteArray.mk #[38,103,116,59]),.string (ByteArray.mk #[38,113,117,111,116,59]),.string (ByteArray.mk #[38,97,112,111,115,59])]) (v:=.string (ByteArray.mk #[38,108,116,59])) (hrd:=Rd.lit) (hS:=D2 0 rfl) (hv:=(fun _=>rfl)) (k:=?_))
    refine B0 [0,0] [0,5,6,11,12,13] (k:=A0 ?_)
    refine A1 (A2 ?_)
    refine A6 (j:=2) [0,0] (k:=G4 Tryz.func51 (O1 s (ByteArray.mk #[38,108,116,59]) (by (try rw [F8]); omega) (Nat.le_of_ble_eq_true rfl) _ _) ?_)
    refine B0 [] [0,5,6,11,12,13,20] (k:=A0 ?_)
    refine B1 (b:=G1 s (ByteArray.mk #[38,108,116,59])) kr (fun hc3=>?_) (fun hc3=>?_)
    ·
      have c1:s.data.toList.take 4=[38,108,116,59]:=(G8 _ _).1 hc3
      refine A1 (A2 ?_)
      refine A6 (j:=1) [0] (k:=C0 (ch:=[]) (s:=(ByteArray.mk #[38,60,62,34,39])) (kd:=.i64) (j:=1) (hb:=(fun _=>by decide)) (k:=?_))
      refine B0 [0,0,0,0,0] [2,3] (k:=A0 ?_)
      refine B6 (A9 ?_)
      refine A3 (A3 ?_)
      refine A9 (A3 ?_)
      refine C9 (H':=H) (fun w h=>(h.erase 0)) (B5 [.tmp 2,.tmp 3] [.int .i64 60,.int .i64 4] (k:=?_))
      have he:F0 s.data.toList=(60,4):=by unfold F0; rw [if_neg c0,if_pos c1]
      exact ⟨by rw [he]; rfl,rfl⟩
    ·
      have c1:¬ s.data.toList.take 4=[38,108,116,59]:=(G7 _ _).1 hc3
      refine A7 (B2 ?_)
      refine A0 (G_p [0,0] [0,11,12,13] (k:=?_))
      refine N_rd (E4 ?_)
      refine A1 (G_p [0] [0,11,12,13,14] (k:=?_))
      refine A0 (A1 ?_)
      refine C6 kr (A7 ?_)
      refine A0 (A1 ?_)
      refine B4 (A1 ?_)
      refine A2 (A6 (j:=1) [0] (k:=?_))
      refine C4 (ch:=[]) (a:=(some ⟨b1,0,none⟩)) (len:=5) (cap:=5) (kd:=.i64) (j:=2) (e:=9) (sz:=1) (S:=(inG [(b1,.cells #[.string (ByteArray.mk #[38,97,109,112,59]),.string (ByteArray.mk #[38,108,116,59]),.string (ByteArray.mk #[38,103,116,59]),.string (ByteArray.mk #[38,113,117,111,116,59]),.string (ByteArray.mk #[38,97,112,111,115,59])] 9 (0,0))])) (cs:=[.string (ByteArray.mk #[38,97,109,112,59]),.string (ByteArray.mk #[38,108,116,59]),.string (ByteArray.mk #[38,103,116,59]),.string (ByteArray.mk #[38,113,117,111,116,59]),.string (ByteArray.mk #[38,97,112,111,115,59])]) (hrd:=Rd.lit) (hb:=(fun _=>by exact ⟨by omega,by omega,by first | exact List.cons_ne_nil _ _ | (intro h; simp [strs] at h; simp [h] at *; omega)⟩)) (k:=E6 (ch:=[]) (a:=(some ⟨b1,0,none⟩)) (q:=2 * 1) (S:=(inG [(b1,.cells #[.string (ByteArray.mk #[38,97,109,112,59]),.string (ByteArray.mk #[38,108,116,59]),.string (ByteArray.mk #[38,103,116,59]),.string (ByteArray.mk #[38,113,117,111,116,59]),.string (ByteArray.mk #[38,97,112,111,115,59])] 9 (0,0))])) (cs:=[.string (ByteArray.mk #[38,97,109,112,59]),.string (ByteArray.mk #[38,108,116,59]),.string (ByteArray.mk #[38,103,116,59]),.string (ByteArray.mk #[38,113,117,111,116,59]),.string (ByteArray.mk #[38,97,112,111,115,59])]) (v:=.string (ByteArray.mk #[38,103,116,59])) (hrd:=Rd.lit) (hS:=D2 0 rfl) (hv:=(fun _=>rfl)) (k:=?_))
      refine B8 (E':=[⟨0,[],.string s⟩,⟨5,[],.int .i64 2⟩,⟨6,[],.string (ByteArray.mk #[38,103,116,59])⟩,⟨11,[],.slice (some ⟨b1,0,none⟩) 5 5⟩,⟨12,[],.int .i64 5⟩,⟨13,[],.int .i64 2⟩]) [0,0] [0,5,6,11,12,13] (k:=A0 ?_)
      refine A1 (A2 ?_)
      refine A6 (j:=2) [0,0] (k:=G4 Tryz.func51 (O1 s (ByteArray.mk #[38,103,116,59]) (by (try rw [F8]); omega) (Nat.le_of_ble_eq_true rfl) _ _) ?_)
      refine B0 [] [0,5,6,11,12,13,20] (k:=A0 ?_)
      refine B1 (b:=G1 s (ByteArray.mk #[38,103,116,59])) kr (fun hc4=>?_) (fun hc4=>?_)
      ·
        have c2:s.data.toList.take 4=[38,103,116,59]:=(G8 _ _).1 hc4
        refine A1 (A2 ?_)
        refine A6 (j:=1) [0] (k:=C0 (ch:=[]) (s:=(ByteArray.mk #[38,60,62,34,39])) (kd:=.i64) (j:=2) (hb:=(fun _=>by decide)) (k:=?_))
        refine B0 [0,0,0,0,0] [2,3] (k:=A0 ?_)
        refine B6 (A9 ?_)
        refine A3 (A3 ?_)
        refine A9 (A3 ?_)
        refine C9 (H':=H) (fun w h=>(h.erase 0)) (B5 [.tmp 2,.tmp 3] [.int .i64 62,.int .i64 4] (k:=?_))
        have he:F0 s.data.toList=(62,4):=by unfold F0; rw [if_neg c0,if_neg c1,if_pos c2]
        exact ⟨by rw [he]; rfl,rfl⟩
      ·
        have c2:¬ s.data.toList.take 4=[38,103,116,59]:=(G7 _ _).1 hc4
        refine A7 (B2 ?_)
        refine A0 (G_p [0,0] [0,11,12,13] (k:=?_))
        refine N_rd (E4 ?_)
        refine A1 (G_p [0] [0,11,12,13,14] (k:=?_))
        refine A0 (A1 ?_)
        refine C6 kr (A7 ?_)
        refine A0 (A1 ?_)
        refine B4 (A1 ?_)
        refine A2 (A6 (j:=1) [0] (k:=?_))
        refine C4 (ch:=[]) (a:=(some ⟨b1,0,none⟩)) (len:=5) (cap:=5) (kd:=.i64) (j:=3) (e:=9) (sz:=1) (S:=(inG [(b1,.cells #[.string (ByteArray.mk #[38,97,109,112,59]),.string (ByteArray.mk #[38,108,116,59]),.string (ByteArray.mk #[38,103,116,59]),.string (ByteArray.mk #[38,113,117,111,116,59]),.string (ByteArray.mk #[38,97,112,111,115,59])] 9 (0,0))])) (cs:=[.string (ByteArray.mk #[38,97,109,112,59]),.string (ByteArray.mk #[38,108,116,59]),.string (ByteArray.mk #[38,103,116,59]),.string (ByteArray.mk #[38,113,117,111,116,59]),.string (ByteArray.mk #[38,97,112,111,115,59])]) (hrd:=Rd.lit) (hb:=(fun _=>by exact ⟨by omega,by omega,by first | exact List.cons_ne_nil _ _ | (intro h; simp [strs] at h; simp [h] at *; omega)⟩)) (k:=E6 (ch:=[]) (a:=(some ⟨b1,0,none⟩)) (q:=3 * 1) (S:=(inG [(b1,.cells #[.string (ByteArray.mk #[38,97,109,112,59]),.string (ByteArray.mk #[38,108,116,59]),.string (ByteArray.mk #[38,103,116,59]),.string (ByteArray.mk #[38,113,117,111,116,59]),.string (ByteArray.mk #[38,97,112,111,115,59])] 9 (0,0))])) (cs:=[.string (ByteArray.mk #[38,97,109,112,59]),.string (ByteArray.mk #[38,108,116,59]),.string (ByteArray.mk #[38,103,116,59]),.string (ByteArray.mk #[38,113,117,111,116,59]),.string (ByteArray.mk #[38,97,112,111,115,59])]) (v:=.string (ByteArray.mk #[38,113,117,111,116,59])) (hrd:=Rd.lit) (hS:=D2 0 rfl) (hv:=(fun _=>rfl)) (k:=?_))
        refine B0 [0,0] [0,5,6,11,12,13] (k:=A0 ?_)
        refine A1 (A2 ?_)
        refine A6 (j:=2) [0,0] (k:=G4 Tryz.func51 (O1 s (ByteArray.mk #[38,113,117,111,116,59]) (by (try rw [F8]); omega) (Nat.le_of_ble_eq_true rfl) _ _) ?_)
        refine B0 [] [0,5,6,11,12,13,20] (k:=A0 ?_)
        refine B1 (b:=G1 s (ByteArray.mk #[38,113,117,111,116,59])) kr (fun hc5=>?_) (fun hc5=>?_)
        ·
          have c3:s.data.toList.take 6=[38,113,117,111,116,59]:=(G8 _ _).1 hc5
          refine A1 (A2 ?_)
          refine A6 (j:=1) [0] (k:=C0 (ch:=[]) (s:=(ByteArray.mk #[38,60,62,34,39])) (kd:=.i64) (j:=3) (hb:=(fun _=>by decide)) (k:=?_))
          refine B8 (E':=[⟨2,[],.int .i64 34⟩,⟨3,[],.int .i64 6⟩]) [0,0,0,0,0] [2,3] (k:=A0 ?_)
          refine B6 (A9 ?_)
          refine A3 (A3 ?_)
          refine A9 (A3 ?_)
          refine C9 (H':=H) (fun w h=>(h.erase 0)) (B5 [.tmp 2,.tmp 3] [.int .i64 34,.int .i64 6] (k:=?_))
          have he:F0 s.data.toList=(34,6):=by unfold F0; rw [if_neg c0,if_neg c1,if_neg c2,if_pos c3]
          exact ⟨by rw [he]; rfl,rfl⟩
        ·
          have c3:¬ s.data.toList.take 6=[38,113,117,111,116,59]:=(G7 _ _).1 hc5
          refine A7 (B2 ?_)
          refine A0 (B3 (E':=[⟨0,[],.string s⟩,⟨11,[],.slice (some ⟨b1,0,none⟩) 5 5⟩,⟨12,[],.int .i64 5⟩,⟨13,[],.int .i64 4⟩]) [0,0] [0,11,12,13] (k:=?_))
          refine N_rd (E4 ?_)
          refine A1 (G_p [0] [0,11,12,13,14] (k:=?_))
          refine A0 (A1 ?_)
          refine C6 kr (A7 ?_)
          refine A0 (A1 ?_)
          refine B4 (A1 ?_)
          refine A2 (A6 (j:=1) [0] (k:=?_))
          refine C4 (ch:=[]) (a:=(some ⟨b1,0,none⟩)) (len:=5) (cap:=5) (kd:=.i64) (j:=4) (e:=9) (sz:=1) (S:=(inG [(b1,.cells #[.string (ByteArray.mk #[38,97,109,112,59]),.string (ByteArray.mk #[38,108,116,59]),.string (ByteArray.mk #[38,103,116,59]),.string (ByteArray.mk #[38,113,117,111,116,59]),.string (ByteArray.mk #[38,97,112,111,115,59])] 9 (0,0))])) (cs:=[.string (ByteArray.mk #[38,97,109,112,59]),.string (ByteArray.mk #[38,108,116,59]),.string (ByteArray.mk #[38,103,116,59]),.string (ByteArray.mk #[38,113,117,111,116,59]),.string (ByteArray.mk #[38,97,112,111,115,59])]) (hrd:=Rd.lit) (hb:=(fun _=>by exact ⟨by omega,by omega,by first | exact List.cons_ne_nil _ _ | (intro h; simp [strs] at h; simp [h] at *; omega)⟩)) (k:=E6 (ch:=[]) (a:=(some ⟨b1,0,none⟩)) (q:=4 * 1) (S:=(inG [(b1,.cells #[.string (ByteArray.mk #[38,97,109,112,59]),.string (ByteArray.mk #[38,108,116,59]),.string (ByteArray.mk #[38,103,116,59]),.string (ByteArray.mk #[38,113,117,111,116,59]),.string (ByteArray.mk #[38,97,112,111,115,59])] 9 (0,0))])) (cs:=[.string (ByteArray.mk #[38,97,109,112,59]),.string (ByteArray.mk #[38,108,116,59]),.string (ByteArray.mk #[38,103,116,59]),.string (ByteArray.mk #[38,113,117,111,116,59]),.string (ByteArray.mk #[38,97,112,111,115,59])]) (v:=.string (ByteArray.mk #[38,97,112,111,115,59])) (hrd:=Rd.lit) (hS:=D2 0 rfl) (hv:=(fun _=>rfl)) (k:=?_))
          refine B0 [0,0] [0,5,6,11,12,13] (k:=A0 ?_)
          refine A1 (A2 ?_)
          refine A6 (j:=2) [0,0] (k:=G4 Tryz.func51 (O1 s (ByteArray.mk #[38,97,112,111,115,59]) (by (try rw [F8]); omega) (Nat.le_of_ble_eq_true rfl) _ _) ?_)
          refine B0 [] [0,5,6,11,12,13,20] (k:=A0 ?_)
          refine B1 (b:=G1 s (ByteArray.mk #[38,97,112,111,115,59])) kr (fun hc6=>?_) (fun hc6=>?_)
          ·
            have c4:s.data.toList.take 6=[38,97,112,111,115,59]:=(G8 _ _).1 hc6
            refine A1 (A2 ?_)
            refine A6 (j:=1) [0] (k:=C0 (ch:=[]) (s:=(ByteArray.mk #[38,60,62,34,39])) (kd:=.i64) (j:=4) (hb:=(fun _=>by decide)) (k:=?_))
            refine B0 [0,0,0,0,0] [2,3] (k:=A0 ?_)
            refine B6 (A9 ?_)
            refine A3 (A3 ?_)
            refine A9 (A3 ?_)
            refine C9 (H':=H) (fun w h=>(h.erase 0)) (B5 [.tmp 2,.tmp 3] [.int .i64 39,.int .i64 6] (k:=?_))
            have he:F0 s.data.toList=(39,6):=by unfold F0; rw [if_neg c0,if_neg c1,if_neg c2,if_neg c3,if_pos c4]
            exact ⟨by rw [he]; rfl,rfl⟩
          ·
            have c4:¬ s.data.toList.take 6=[38,97,112,111,115,59]:=(G7 _ _).1 hc6
            refine A7 (B2 ?_)
            refine A0 (G_p [0,0] [0,11,12,13] (k:=?_))
            refine N_rd (E4 ?_)
            refine A1 (G_p [0] [0,11,12,13,14] (k:=?_))
            refine A0 (A1 ?_)
            refine D7 kr (F7 ?_)
            refine A8 (A8 ?_)
            refine C2 (A0 ?_)
            refine A1 (B3 (E':=[⟨0,[],.string s⟩,⟨7,[],.int .i64 0⟩,⟨8,[],.int .i64 0⟩,⟨9,[],.int .i64 2⟩]) [0,0,0] [0,7,8,9] (k:=?_))
            refine A0 (A1 ?_)
            refine B4 (A1 ?_)
            refine A2 (A6 (j:=1) [0] (k:=?_))
            refine G4 Tryz.func51 (O1 s (ByteArray.mk #[38,35,120]) (by (try rw [F8]); omega) (Nat.le_of_ble_eq_true rfl) _ _) (A6 (j:=4) [0,0] (k:=?_))
            refine F6 (ch:=[(30,false)]) (f:=51) (fst:=#[]) (caps:=#[]) (vs:=[.string s,.string (ByteArray.mk #[38,35,88])]) (v:=.bool (G1 s (ByteArray.mk #[38,35,88]))) (hf:=Tryz.func51) (hc:=(fun hc=>O1 s (ByteArray.mk #[38,35,88]) (by (try rw [F8]); omega) (Nat.le_of_ble_eq_true rfl) _ _)) (k:=B0 [5,0] [0,7,8,9,27] (k:=?_))
            refine A0 (B1 (b:=(G1 s (ByteArray.mk #[38,35,120]))||(G1 s (ByteArray.mk #[38,35,88]))) kr (fun hc7=>?_) (fun hc7=>?_))
            ·
              have c5:s.data.toList.take 3=[38,35,120]∨s.data.toList.take 3=[38,35,88]:=by
                rw [Bool.or_eq_true] at hc7
                exact Or.imp (G8 _ _).1 (G8 _ _).1 hc7
              have hz:=tk_len3 c5
              have hnd:=numD_le 16 6 0 (s.extract 3 s.size).data.toList
              refine A1 (G_p [0] [0,9] (k:=?_))
              refine A0 (A2 ?_)
              refine A6 (j:=1) [0] (k:=E8 (ch:=[]) (s:=s) (vl:=(some (.int .i64 3))) (vh:=none) (l:=3) (h:=(s.size:Int)) (hb:=(fun _=>by omega)) (k:=?_))
              refine G4 Tryz.func52 (rnumber16_ (s.extract 3 s.size) 6 6 rfl (by decide) (by (try rw [F8]); omega) _ _) (B0 [0,0,0,0,0] [0,7,8,9] (k:=?_))
              refine B2 (A0 ?_)
              refine A1 (A1 ?_)
              have hw8:IntKind.wrap .i64 (3+((D6 16 6 0 (s.extract 3 s.size).data.toList).2:Int))=3+((D6 16 6 0 (s.extract 3 s.size).data.toList).2:Int):=w64 (by omega) (by omega)
              have hw9:IntKind.wrap .i64 (3+((D6 16 6 0 (s.extract 3 s.size).data.toList).2:Int))=3+((D6 16 6 0 (s.extract 3 s.size).data.toList).2:Int):=w64 (by omega) (by omega)
              refine A2 (C1 (E':=[⟨63,[(59,false)],.int .i64 (3+((D6 16 6 0 (s.extract 3 s.size).data.toList).2:Int))⟩,⟨60,[(59,false)],.string s⟩,⟨59,[],.bool ((((D6 16 6 0 (s.extract 3 s.size).data.toList).2:Int)==0)||(decide ((3+((D6 16 6 0 (s.extract 3 s.size).data.toList).2:Int)) ≥ (s.size:Int))))⟩,⟨7,[],.int .i64 ((D6 16 6 0 (s.extract 3 s.size).data.toList).1)⟩,⟨8,[],.int .i64 ((D6 16 6 0 (s.extract 3 s.size).data.toList).2:Int)⟩,⟨9,[],.int .i64 3⟩]) [0,0,0,0,0,0,0,0,0,5,0,0,0,0,0] (Eq.trans (b:=some [⟨63,[(59,false)],.int .i64 (IntKind.wrap .i64 (3+((D6 16 6 0 (s.extract 3 s.size).data.toList).2:Int)))⟩,⟨60,[(59,false)],.string s⟩,⟨59,[],.bool ((((D6 16 6 0 (s.extract 3 s.size).data.toList).2:Int)==0)||(decide ((IntKind.wrap .i64 (3+((D6 16 6 0 (s.extract 3 s.size).data.toList).2:Int))) ≥ (s.size:Int))))⟩,⟨7,[],.int .i64 ((D6 16 6 0 (s.extract 3 s.size).data.toList).1)⟩,⟨8,[],.int .i64 ((D6 16 6 0 (s.extract 3 s.size).data.toList).2:Int)⟩,⟨9,[],.int .i64 3⟩]) kr (by simp only [hw8])) (j:=15) rfl ?_)
              refine C0 (ch:=[(59,false)]) (s:=s) (kd:=.i64) (j:=3+((D6 16 6 0 (s.extract 3 s.size).data.toList).2:Int)) (hb:=(fun hc=>by have hg0:=K0 (t:=59) (c:=[]) (b:=(((D6 16 6 0 (s.extract 3 s.size).data.toList).2:Int)==0)||(decide ((3+((D6 16 6 0 (s.extract 3 s.size).data.toList).2:Int)) ≥ (s.size:Int)))) hc kr; simp only [Bool.or_eq_false_iff,beq_eq_false_iff_ne,decide_eq_false_iff_not,ne_eq,ge_iff_le] at hg0; omega)) (k:=?_)
              have hb10:=C7 s (3+((D6 16 6 0 (s.extract 3 s.size).data.toList).2:Int))
              refine A6 (j:=24) [0,5,0,0,0,5,0,0] (k:=F6 (ch:=[(71,false)]) (f:=40) (fst:=#[]) (caps:=#[]) (vs:=[.int .i64 ((D6 16 6 0 (s.extract 3 s.size).data.toList).1)]) (v:=.bool (isB ((D6 16 6 0 (s.extract 3 s.size).data.toList).1))) (hf:=Tryz.func40) (hc:=(fun hc=>is_ ((D6 16 6 0 (s.extract 3 s.size).data.toList).1) _ _)) (k:=?_))
              refine B0 [0,5] [7,8,9,75] (k:=A0 ?_)
              refine B1 (b:=((((((D6 16 6 0 (s.extract 3 s.size).data.toList).2:Int)==0)||(decide ((3+((D6 16 6 0 (s.extract 3 s.size).data.toList).2:Int)) ≥ (s.size:Int))))||((A5 s (3+((D6 16 6 0 (s.extract 3 s.size).data.toList).2:Int))) != 59))||(((D6 16 6 0 (s.extract 3 s.size).data.toList).1)==0))||(!(isB ((D6 16 6 0 (s.extract 3 s.size).data.toList).1)))) kr (fun hc11=>?_) (fun hc11=>?_)
              ·
                simp only [Bool.or_eq_true,Bool.not_eq_true',decide_eq_true_eq,beq_iff_eq,bne_iff_ne,ne_eq,ge_iff_le,isBf_iff,isR] at hc11
                refine A1 (G_p [0,0] [2,3] (k:=?_))
                refine A0 (B6 ?_)
                refine A3 (C9 (H':=H) (fun w h=>(h.erase 0)) ?_)
                refine B5 [.tmp 2,.tmp 3] [.int .i64 (-1),.int .i64 0] (k:=?_)
                have he:F0 s.data.toList=refN 3 (D6 16 6 0 (s.extract 3 s.size).data.toList) s.data.toList:=by unfold F0; rw [if_neg c0,if_neg c1,if_neg c2,if_neg c3,if_neg c4,if_pos c5,F4]
                exact ⟨by rw [he,refN_no (A:=3) rfl (by unfold isR; omega)]; rfl,rfl⟩
              ·
                simp only [Bool.or_eq_false_iff,Bool.not_eq_false',decide_eq_false_iff_not,beq_eq_false_iff_ne,bne_eq_false_iff_eq,ne_eq,ge_iff_le,isB_iff,isR] at hc11
                refine A7 (A0 ?_)
                refine A1 (A2 ?_)
                refine A6 (j:=4) [0,0,0,0] (k:=C3 79 (3+((D6 16 6 0 (s.extract 3 s.size).data.toList).2:Int)) (by omega) (by omega) kr ?_)
                refine A6 (j:=5) [0] (k:=C3 80 ((3+((D6 16 6 0 (s.extract 3 s.size).data.toList).2:Int))+1) (by omega) (by omega) kr ?_)
                refine B0 [0,0] [2,3] (k:=A0 ?_)
                refine B6 (C9 (H':=H) (fun w h=>(h.erase 0)) ?_)
                refine B5 [.tmp 2,.tmp 3] [.int .i64 ((D6 16 6 0 (s.extract 3 s.size).data.toList).1),.int .i64 ((3+((D6 16 6 0 (s.extract 3 s.size).data.toList).2:Int))+1)] (k:=?_)
                have he:F0 s.data.toList=refN 3 (D6 16 6 0 (s.extract 3 s.size).data.toList) s.data.toList:=by unfold F0; rw [if_neg c0,if_neg c1,if_neg c2,if_neg c3,if_neg c4,if_pos c5,F4]
                exact ⟨by rw [he,refN_yes (A:=3) rfl (by omega) (by omega) (by omega) (by omega) (by unfold isR; omega)]; rfl,rfl⟩
            ·
              have c5:¬ (s.data.toList.take 3=[38,35,120]∨s.data.toList.take 3=[38,35,88]):=by
                rw [Bool.or_eq_false_iff] at hc7
                rintro (h | h)
                · exact (G7 _ _).1 hc7.1 h
                · exact (G7 _ _).1 hc7.2 h
              refine A1 (A2 ?_)
              refine A6 (j:=1) [0] (k:=G4 Tryz.func51 (O1 s (ByteArray.mk #[38,35]) (by (try rw [F8]); omega) (Nat.le_of_ble_eq_true rfl) _ _) ?_)
              refine B0 [0] [0,7,8,9,40] (k:=A0 ?_)
              refine B1 (b:=G1 s (ByteArray.mk #[38,35])) kr (fun hc14=>?_) (fun hc14=>?_)
              ·
                have c6:s.data.toList.take 2=[38,35]:=(G8 _ _).1 hc14
                have hz:=tk_len2 c6
                have hnd:=numD_le 10 7 0 (s.extract 2 s.size).data.toList
                refine A2 (A6 (j:=1) [0] (k:=?_))
                refine E8 (ch:=[]) (s:=s) (vl:=(some (.int .i64 2))) (vh:=none) (l:=2) (h:=(s.size:Int)) (hb:=(fun _=>by omega)) (k:=G4 Tryz.func52 (rnumber10_ (s.extract 2 s.size) 7 7 rfl (by decide) (by (try rw [F8]); omega) _ _) ?_)
                refine B0 [0,0,0,0,0] [0,7,8,9] (k:=B2 ?_)
                refine A0 (A1 ?_)
                refine A1 ?_
                have hw15:IntKind.wrap .i64 (2+((D6 10 7 0 (s.extract 2 s.size).data.toList).2:Int))=2+((D6 10 7 0 (s.extract 2 s.size).data.toList).2:Int):=w64 (by omega) (by omega)
                have hw16:IntKind.wrap .i64 (2+((D6 10 7 0 (s.extract 2 s.size).data.toList).2:Int))=2+((D6 10 7 0 (s.extract 2 s.size).data.toList).2:Int):=w64 (by omega) (by omega)
                refine A2 (C1 (E':=[⟨63,[(59,false)],.int .i64 (2+((D6 10 7 0 (s.extract 2 s.size).data.toList).2:Int))⟩,⟨60,[(59,false)],.string s⟩,⟨59,[],.bool ((((D6 10 7 0 (s.extract 2 s.size).data.toList).2:Int)==0)||(decide ((2+((D6 10 7 0 (s.extract 2 s.size).data.toList).2:Int)) ≥ (s.size:Int))))⟩,⟨7,[],.int .i64 ((D6 10 7 0 (s.extract 2 s.size).data.toList).1)⟩,⟨8,[],.int .i64 ((D6 10 7 0 (s.extract 2 s.size).data.toList).2:Int)⟩,⟨9,[],.int .i64 2⟩]) [0,0,0,0,0,0,0,0,0,5,0,0,0,0,0] (Eq.trans (b:=some [⟨63,[(59,false)],.int .i64 (IntKind.wrap .i64 (2+((D6 10 7 0 (s.extract 2 s.size).data.toList).2:Int)))⟩,⟨60,[(59,false)],.string s⟩,⟨59,[],.bool ((((D6 10 7 0 (s.extract 2 s.size).data.toList).2:Int)==0)||(decide ((IntKind.wrap .i64 (2+((D6 10 7 0 (s.extract 2 s.size).data.toList).2:Int))) ≥ (s.size:Int))))⟩,⟨7,[],.int .i64 ((D6 10 7 0 (s.extract 2 s.size).data.toList).1)⟩,⟨8,[],.int .i64 ((D6 10 7 0 (s.extract 2 s.size).data.toList).2:Int)⟩,⟨9,[],.int .i64 2⟩]) kr (by simp only [hw15])) (j:=15) rfl ?_)
                refine C0 (ch:=[(59,false)]) (s:=s) (kd:=.i64) (j:=2+((D6 10 7 0 (s.extract 2 s.size).data.toList).2:Int)) (hb:=(fun hc=>by have hg0:=K0 (t:=59) (c:=[]) (b:=(((D6 10 7 0 (s.extract 2 s.size).data.toList).2:Int)==0)||(decide ((2+((D6 10 7 0 (s.extract 2 s.size).data.toList).2:Int)) ≥ (s.size:Int)))) hc kr; simp only [Bool.or_eq_false_iff,beq_eq_false_iff_ne,decide_eq_false_iff_not,ne_eq,ge_iff_le] at hg0; omega)) (k:=?_)
                have hb17:=C7 s (2+((D6 10 7 0 (s.extract 2 s.size).data.toList).2:Int))
                refine A6 (j:=24) [0,5,0,0,0,5,0,0] (k:=F6 (ch:=[(71,false)]) (f:=40) (fst:=#[]) (caps:=#[]) (vs:=[.int .i64 ((D6 10 7 0 (s.extract 2 s.size).data.toList).1)]) (v:=.bool (isB ((D6 10 7 0 (s.extract 2 s.size).data.toList).1))) (hf:=Tryz.func40) (hc:=(fun hc=>is_ ((D6 10 7 0 (s.extract 2 s.size).data.toList).1) _ _)) (k:=?_))
                refine B0 [0,5] [7,8,9,75] (k:=A0 ?_)
                refine B1 (b:=((((((D6 10 7 0 (s.extract 2 s.size).data.toList).2:Int)==0)||(decide ((2+((D6 10 7 0 (s.extract 2 s.size).data.toList).2:Int)) ≥ (s.size:Int))))||((A5 s (2+((D6 10 7 0 (s.extract 2 s.size).data.toList).2:Int))) != 59))||(((D6 10 7 0 (s.extract 2 s.size).data.toList).1)==0))||(!(isB ((D6 10 7 0 (s.extract 2 s.size).data.toList).1)))) kr (fun hc18=>?_) (fun hc18=>?_)
                ·
                  simp only [Bool.or_eq_true,Bool.not_eq_true',decide_eq_true_eq,beq_iff_eq,bne_iff_ne,ne_eq,ge_iff_le,isBf_iff,isR] at hc18
                  refine A1 (G_p [0,0] [2,3] (k:=?_))
                  refine A0 (B6 ?_)
                  refine A3 (C9 (H':=H) (fun w h=>(h.erase 0)) ?_)
                  refine B5 [.tmp 2,.tmp 3] [.int .i64 (-1),.int .i64 0] (k:=?_)
                  have he:F0 s.data.toList=refN 2 (D6 10 7 0 (s.extract 2 s.size).data.toList) s.data.toList:=by unfold F0; rw [if_neg c0,if_neg c1,if_neg c2,if_neg c3,if_neg c4,if_neg c5,if_pos c6,F4]
                  exact ⟨by rw [he,refN_no (A:=2) rfl (by unfold isR; omega)]; rfl,rfl⟩
                ·
                  simp only [Bool.or_eq_false_iff,Bool.not_eq_false',decide_eq_false_iff_not,beq_eq_false_iff_ne,bne_eq_false_iff_eq,ne_eq,ge_iff_le,isB_iff,isR] at hc18
                  refine A7 (A0 ?_)
                  refine A1 (A2 ?_)
                  refine A6 (j:=4) [0,0,0,0] (k:=C3 79 (2+((D6 10 7 0 (s.extract 2 s.size).data.toList).2:Int)) (by omega) (by omega) kr ?_)
                  refine A6 (j:=5) [0] (k:=C3 80 ((2+((D6 10 7 0 (s.extract 2 s.size).data.toList).2:Int))+1) (by omega) (by omega) kr ?_)
                  refine B0 [0,0] [2,3] (k:=A0 ?_)
                  refine B6 (C9 (H':=H) (fun w h=>(h.erase 0)) ?_)
                  refine B5 [.tmp 2,.tmp 3] [.int .i64 ((D6 10 7 0 (s.extract 2 s.size).data.toList).1),.int .i64 ((2+((D6 10 7 0 (s.extract 2 s.size).data.toList).2:Int))+1)] (k:=?_)
                  have he:F0 s.data.toList=refN 2 (D6 10 7 0 (s.extract 2 s.size).data.toList) s.data.toList:=by unfold F0; rw [if_neg c0,if_neg c1,if_neg c2,if_neg c3,if_neg c4,if_neg c5,if_pos c6,F4]
                  exact ⟨by rw [he,refN_yes (A:=2) rfl (by omega) (by omega) (by omega) (by omega) (by unfold isR; omega)]; rfl,rfl⟩
              ·
                have c6:¬ s.data.toList.take 2=[38,35]:=(G7 _ _).1 hc14
                refine A7 (B2 ?_)
                refine A0 (A1 ?_)
                refine A1 (G_p [0,0,0,1,1,1,1,1,1,2,0,1,1,1,1,1,1,2,0,1,1,2,0,1,1,1,2] [7,8,9,75] (k:=?_))
                refine A0 (C6 kr ?_)
                refine A1 (G_p [0,0] [2,3] (k:=?_))
                refine A0 (B6 ?_)
                refine A3 (C9 (H':=H) (fun w h=>(h.erase 0)) ?_)
                refine B5 [.tmp 2,.tmp 3] [.int .i64 (-1),.int .i64 0] (k:=?_)
                have he:F0 s.data.toList=(-1,0):=by unfold F0; rw [if_neg c0,if_neg c1,if_neg c2,if_neg c3,if_neg c4,if_neg c5,if_neg c6]
                exact ⟨by rw [he]; rfl,rfl⟩
theorem runhtml_ (s:ByteArray) (hs:s.size≤100000000) (W0:World) (H:List Grp):Tri Tryz.prog 13 #[.string s] W0 H (fun v H'=>v=.string ⟨(unL s.data.toList).toArray⟩∧H'=H):=by
 refine D1 (args:=[.string s]) (n:=41) Tryz.func13 rfl rfl (Nat.le_of_ble_eq_true rfl) ?_
 refine A1 (B3 (E':=[⟨0,[],.string s⟩]) [0] [0] (k:=?_))
 refine A0 (A1 ?_)
 refine G_p [0] [0,3] (k:=A0 ?_)
 refine A1 (A1 ?_)
 refine G_p [0] [0,3,4] (k:=A0 ?_)
 refine B4 (G_heap (H':=([]::H)) (fun w h=>h.flat (List.Perm.refl _)) ?_)
 refine I8 (EI:=(fun ξ:Option Addr × Nat × Grp × List UInt8 × Nat=>[⟨0,[],.string s⟩,⟨3,[],.slice ξ.1 ξ.2.2.2.1.length ξ.2.1⟩,⟨4,[],.int .i64 ((ξ.2.2.2.2:Nat):Int)⟩])) (HI:=(fun ξ:Option Addr × Nat × Grp × List UInt8 × Nat=>(ξ.2.2.1::H))) (Φ:=(fun ξ:Option Addr × Nat × Grp × List UInt8 × Nat=>(Go.Sw.Own 5 1 (.slice ξ.1 ξ.2.2.2.1.length ξ.2.1) ξ.2.2.1 ξ.2.2.2.1.length (u8s ξ.2.2.2.1))∧(ξ.2.2.2.2≤s.size)∧(ξ.2.2.2.1++unL (s.data.toList.drop ξ.2.2.2.2)=unL s.data.toList))) (μ:=(fun ξ:Option Addr × Nat × Grp × List UInt8 × Nat=>s.size - ξ.2.2.2.2)) (s0:=(none,0,[],[],0)) [0,3,4] kr rfl ⟨Go.Sw.Own.nil,(by (try dsimp only); omega),rfl⟩ ?_
 rintro ⟨ra,rc,rg,l1,i⟩ ⟨hO,hi,hT⟩
 dsimp only at hO hi hT
 have hll:l1.length≤4 * s.size:=by
  have h1:=congrArg List.length hT
  have h2:=un_len s.data.toList
  rw [List.length_append] at h1; rw [B7] at h2; omega
 obtain ⟨b,hb⟩:∃ b:UInt8,b=s.data.toList.getD i 0:=⟨_,rfl⟩
 have hbyte:A5 s (i:Int)=(b.toNat:Int):=by rw [E7,hb]
 refine A1 (A1 ?_)
 refine G_p [0,0,0,0] [0,3,4,10] (k:=A0 ?_)
 refine B1 (b:=decide (((i:Nat):Int)<(s.size:Int))) kr (fun hc1=>?_) (fun hc1=>?_)
 ·
  simp only [decide_eq_true_eq] at hc1
  have hlt:i<s.size:=by omega
  have hL:(s.extract i s.size).data.toList=b::s.data.toList.drop (i+1):=by rw [F4,G0 _ (show i<s.data.toList.length by rw [B7]; omega),hb]
  have hD:s.data.toList.drop i=(s.extract i s.size).data.toList:=(F4 _ _).symm
  refine A7 (A0 ?_)
  refine B4 (A1 ?_)
  refine G_p [0,0] [0,3,4,5,6] (k:=A0 ?_)
  refine A1 (A1 ?_)
  refine A2 (A6 (j:=2) [0,0] (k:=?_))
  refine C0 (ch:=[]) (s:=s) (kd:=.i64) (j:=((i:Nat):Int)) (hb:=(fun _=>by omega)) (k:=?_)
  have hb2:=C7 s ((i:Nat):Int)
  refine C8 (E':=[⟨13,[],.int .u8 (b.toNat:Int)⟩,⟨12,[],.int .i64 ((i:Nat):Int)⟩,⟨11,[],.string s⟩,⟨0,[],.string s⟩,⟨3,[],.slice ra l1.length rc⟩,⟨4,[],.int .i64 ((i:Nat):Int)⟩,⟨5,[],.int .i64 (-1)⟩,⟨6,[],.int .i64 0⟩]) (by have hz:([⟨13,[],.int .u8 (A5 s ((i:Nat):Int))⟩,⟨12,[],.int .i64 ((i:Nat):Int)⟩,⟨11,[],.string s⟩,⟨0,[],.string s⟩,⟨3,[],.slice ra l1.length rc⟩,⟨4,[],.int .i64 ((i:Nat):Int)⟩,⟨5,[],.int .i64 (-1)⟩,⟨6,[],.int .i64 0⟩]:List Sl)=[⟨13,[],.int .u8 (b.toNat:Int)⟩,⟨12,[],.int .i64 ((i:Nat):Int)⟩,⟨11,[],.string s⟩,⟨0,[],.string s⟩,⟨3,[],.slice ra l1.length rc⟩,⟨4,[],.int .i64 ((i:Nat):Int)⟩,⟨5,[],.int .i64 (-1)⟩,⟨6,[],.int .i64 0⟩]:=(by rw [hbyte]); exact Eq.trans kr hz) (B0 [0] [0,3,4,5,6,14] (k:=?_))
  refine A0 (B1 (b:=(b.toNat:Int)==38) kr (fun hc3=>?_) (fun hc3=>?_))
  ·
   simp only [beq_iff_eq] at hc3
   have hrr:=ref_rng hL hc3
   have hrl:=hrr.2.1
   rw [B7,F8] at hrl
   refine A2 (A6 (j:=2) [0,0] (k:=?_))
   refine E8 (ch:=[]) (s:=s) (vl:=(some (.int .i64 ((i:Nat):Int)))) (vh:=none) (l:=((i:Nat):Int)) (h:=(s.size:Int)) (hb:=(fun _=>by omega)) (k:=G4 Tryz.func33 (rreference_ (s.extract i s.size) (by (try rw [F8]); omega) _ _) ?_)
   refine B0 [0,0,0,0,0] [0,3,4,5,6] (k:=A0 ?_)
   refine A1 (A1 ?_)
   refine G_p [0,0] [0,3,4,5,6,23] (k:=A0 ?_)
   refine B1 (b:=decide (((F0 (s.extract i s.size).data.toList).1)<0)) kr (fun hc4=>?_) (fun hc4=>?_)
   ·
    simp only [decide_eq_true_eq] at hc4
    have hun:unL (s.data.toList.drop i)=[b]++unL (s.data.toList.drop (i+1)):=by rw [hD]; exact un_keep hL (.inr hc4)
    refine A1 (A2 ?_)
    refine A6 (j:=3) [0,0,0] (k:=C0 (ch:=[]) (s:=s) (kd:=.i64) (j:=((i:Nat):Int)) (hb:=(fun _=>by omega)) (k:=?_))
    have hb5:=C7 s ((i:Nat):Int)
    refine C8 (E':=[⟨27,[],.int .u8 (b.toNat:Int)⟩,⟨26,[],.int .i64 ((i:Nat):Int)⟩,⟨25,[],.string s⟩,⟨24,[],.slice ra l1.length rc⟩,⟨0,[],.string s⟩,⟨3,[],.slice ra l1.length rc⟩,⟨4,[],.int .i64 ((i:Nat):Int)⟩,⟨5,[],.int .i64 ((F0 (s.extract i s.size).data.toList).1)⟩,⟨6,[],.int .i64 ((F0 (s.extract i s.size).data.toList).2:Int)⟩,⟨23,[],.bool (decide (((F0 (s.extract i s.size).data.toList).1)<0))⟩]) (by have hz:([⟨27,[],.int .u8 (A5 s ((i:Nat):Int))⟩,⟨26,[],.int .i64 ((i:Nat):Int)⟩,⟨25,[],.string s⟩,⟨24,[],.slice ra l1.length rc⟩,⟨0,[],.string s⟩,⟨3,[],.slice ra l1.length rc⟩,⟨4,[],.int .i64 ((i:Nat):Int)⟩,⟨5,[],.int .i64 ((F0 (s.extract i s.size).data.toList).1)⟩,⟨6,[],.int .i64 ((F0 (s.extract i s.size).data.toList).2:Int)⟩,⟨23,[],.bool (decide (((F0 (s.extract i s.size).data.toList).1)<0))⟩]:List Sl)=[⟨27,[],.int .u8 (b.toNat:Int)⟩,⟨26,[],.int .i64 ((i:Nat):Int)⟩,⟨25,[],.string s⟩,⟨24,[],.slice ra l1.length rc⟩,⟨0,[],.string s⟩,⟨3,[],.slice ra l1.length rc⟩,⟨4,[],.int .i64 ((i:Nat):Int)⟩,⟨5,[],.int .i64 ((F0 (s.extract i s.size).data.toList).1)⟩,⟨6,[],.int .i64 ((F0 (s.extract i s.size).data.toList).2:Int)⟩,⟨23,[],.bool (decide (((F0 (s.extract i s.size).data.toList).1)<0))⟩]:=(by rw [hbyte]); exact Eq.trans kr hz) (D0 (ch:=[]) (e:=5) (l:=[(0,.int .u8 (b.toNat:Int))]) (c:=[.int .u8 (b.toNat:Int)]) (k:=(fun b6=>?_)))
    refine F3 (i:=5) (ch:=[]) (t:=37) (tx:=37) (e:=5) (inf:=Tryz.t5) (s:=.slice ra l1.length rc) (x:=.slice (some ⟨b6,0,none⟩) 1 1) (n:=l1.length) (m:=1) (j:=1) (cs:=(u8s l1)) (news:=[.int .u8 (b.toNat:Int)]) (g:=rg) (S:=(inG [(b6,.cells #[.int .u8 (b.toNat:Int)] 5 (0,0))])) rfl rfl rfl rfl kr kr kr rfl rfl (.inl ⟨5,kr⟩) (fun ⟨_,h⟩=>by cases h) (fun _=>⟨5,kr⟩) kr kr kr rfl hO (SrcOf.slice _ _ _ _ Rd.lit (fun h=>by cases h)) (D2 0 rfl) kr (by intro u hu; rcases List.mem_singleton.1 hu with rfl; rfl) (by omega) (by show (l1.length+1) * 1≤140737488355328; omega) (fun v7 g8 hO9=>?_)
    obtain ⟨a10,cap11,rfl,hcap12,hrd13⟩:=hO9.shape
    refine B8 (E':=[⟨0,[],.string s⟩,⟨3,[],.slice a10 (l1.length+1) cap11⟩,⟨4,[],.int .i64 ((i:Nat):Int)⟩]) [0] [0,3,4] (k:=A0 ?_)
    refine A1 (A2 ?_)
    refine A6 (j:=2) [0,0] (k:=C3 31 (((i:Nat):Int)+1) (by omega) (by omega) kr ?_)
    refine B0 [0] [0,3,4] (k:=A0 ?_)
    refine F7 (A8 ?_)
    refine C2 ?_
    have hln:(l1.length+1)=(l1++[b]).length:=by first | exact List.length_append.symm | (rw [List.length_append]; rfl)
    refine L5 (E':=[⟨0,[],.string s⟩,⟨3,[],.slice a10 (l1.length+1) cap11⟩,⟨4,[],.int .i64 (((i:Nat):Int)+1)⟩]) kr (L5 (E':=[⟨0,[],.string s⟩,⟨3,[],.slice a10 ((l1++[b]).length) cap11⟩,⟨4,[],.int .i64 (((i:Nat):Int)+1)⟩]) (by rw [hln]) ?_)
    refine C9 (H':=(g8::H)) (fun w h=>(h.erase 0)) (D8 (s':=(a10,cap11,g8,(l1++[b]),i+1)) [0,3,4] kr rfl ⟨(I4 hO9 hln (by dsimp only; first | exact (Go.Sha.u8s_append _ _).symm | (rw [Go.Sha.u8s_append]; rfl))),(by dsimp only; omega),(by dsimp only; rw [List.append_assoc,← hun]; exact hT)⟩ (by dsimp only; omega))
   ·
    simp only [decide_eq_false_iff_not] at hc4
    have hnn:¬ (F0 (s.extract i s.size).data.toList).1<0:=by omega
    have hisr:=hrr.1 hnn
    have hr1:=hrr.2.2.1 hnn
    have hun:unL (s.data.toList.drop i)=Lib.encodeRune (F0 (s.extract i s.size).data.toList).1++unL (s.data.toList.drop (i+(F0 (s.extract i s.size).data.toList).2)):=by rw [hD,un_ref hL (by assumption) hnn,← hD,List.drop_drop]
    have hel:=N4 (F0 (s.extract i s.size).data.toList).1
    refine A7 (A0 ?_)
    refine A1 (A2 ?_)
    refine A6 (j:=2) [0,0] (k:=F2 Tryz.func34 (one_ ((F0 (s.extract i s.size).data.toList).1) hisr _ _) ?_)
    rintro _ _ ⟨ob15,rfl,rfl⟩
    refine F3 (i:=3) (ch:=[]) (t:=37) (tx:=37) (e:=5) (inf:=Tryz.t5) (s:=.slice ra l1.length rc) (x:=.slice (some ⟨ob15,0,none⟩) ((Lib.encodeRune ((F0 (s.extract i s.size).data.toList).1)).length) ((Lib.encodeRune ((F0 (s.extract i s.size).data.toList).1)).length)) (n:=l1.length) (m:=(Lib.encodeRune ((F0 (s.extract i s.size).data.toList).1)).length) (j:=1) (cs:=(u8s l1)) (news:=(u8s (Lib.encodeRune ((F0 (s.extract i s.size).data.toList).1)))) (g:=rg) (S:=(inG [(ob15,.cells (u8s (Lib.encodeRune ((F0 (s.extract i s.size).data.toList).1))).toArray 5 (0,0))])) rfl rfl rfl rfl kr kr kr rfl rfl (.inl ⟨5,kr⟩) (fun ⟨_,h⟩=>by cases h) (fun _=>⟨5,kr⟩) kr kr kr rfl hO (SrcOf.slice _ _ _ _ Rd.lit (fun h=>by cases h)) (D2 0 rfl) (by rw [show (u8s (Lib.encodeRune _)).length=_ from List.length_map _]; exact (Nat.mul_one _).symm) Go.Sha.u8_one (by omega) (by show (l1.length+(Lib.encodeRune ((F0 (s.extract i s.size).data.toList).1)).length) * 1≤140737488355328; omega) (fun v16 g17 hO18=>?_)
    obtain ⟨a19,cap20,rfl,hcap21,hrd22⟩:=hO18.shape
    refine B8 (E':=[⟨0,[],.string s⟩,⟨3,[],.slice a19 (l1.length+(Lib.encodeRune ((F0 (s.extract i s.size).data.toList).1)).length) cap20⟩,⟨4,[],.int .i64 ((i:Nat):Int)⟩,⟨6,[],.int .i64 ((F0 (s.extract i s.size).data.toList).2:Int)⟩]) [0] [0,3,4,6] (k:=A0 ?_)
    have hw23:IntKind.wrap .i64 (((i:Nat):Int)+((F0 (s.extract i s.size).data.toList).2:Int))=((i:Nat):Int)+((F0 (s.extract i s.size).data.toList).2:Int):=w64 (by omega) (by omega)
    refine A2 (C1 (E':=[⟨38,[],.int .i64 (((i:Nat):Int)+((F0 (s.extract i s.size).data.toList).2:Int))⟩,⟨0,[],.string s⟩,⟨3,[],.slice a19 (l1.length+(Lib.encodeRune ((F0 (s.extract i s.size).data.toList).1)).length) cap20⟩,⟨4,[],.int .i64 ((i:Nat):Int)⟩]) [0,0,0] (Eq.trans (b:=some [⟨38,[],.int .i64 (IntKind.wrap .i64 (((i:Nat):Int)+((F0 (s.extract i s.size).data.toList).2:Int)))⟩,⟨0,[],.string s⟩,⟨3,[],.slice a19 (l1.length+(Lib.encodeRune ((F0 (s.extract i s.size).data.toList).1)).length) cap20⟩,⟨4,[],.int .i64 ((i:Nat):Int)⟩]) kr (by simp only [hw23])) (j:=3) rfl ?_)
    refine C8 (E':=[⟨38,[],.int .i64 ((i+(F0 (s.extract i s.size).data.toList).2:Nat):Int)⟩,⟨0,[],.string s⟩,⟨3,[],.slice a19 (l1.length+(Lib.encodeRune ((F0 (s.extract i s.size).data.toList).1)).length) cap20⟩,⟨4,[],.int .i64 ((i:Nat):Int)⟩]) (by rw [Int.natCast_add]) (B0 [0] [0,3,4] (k:=?_))
    refine B2 ?_
    have hln:(l1.length+(Lib.encodeRune ((F0 (s.extract i s.size).data.toList).1)).length)=(l1++(Lib.encodeRune ((F0 (s.extract i s.size).data.toList).1))).length:=by first | exact List.length_append.symm | (rw [List.length_append]; rfl)
    refine L5 (E':=[⟨0,[],.string s⟩,⟨3,[],.slice a19 (l1.length+(Lib.encodeRune ((F0 (s.extract i s.size).data.toList).1)).length) cap20⟩,⟨4,[],.int .i64 ((i+(F0 (s.extract i s.size).data.toList).2:Nat):Int)⟩]) kr (L5 (E':=[⟨0,[],.string s⟩,⟨3,[],.slice a19 ((l1++(Lib.encodeRune ((F0 (s.extract i s.size).data.toList).1))).length) cap20⟩,⟨4,[],.int .i64 ((i+(F0 (s.extract i s.size).data.toList).2:Nat):Int)⟩]) (by rw [hln]) ?_)
    refine C9 (H':=(g17::H)) (fun w h=>(h.erase 0)) (D8 (s':=(a19,cap20,g17,(l1++(Lib.encodeRune ((F0 (s.extract i s.size).data.toList).1))),i+(F0 (s.extract i s.size).data.toList).2)) [0,3,4] kr rfl ⟨(I4 hO18 hln (by dsimp only; first | exact (Go.Sha.u8s_append _ _).symm | (rw [Go.Sha.u8s_append]; rfl))),(by dsimp only; omega),(by dsimp only; rw [List.append_assoc,← hun]; exact hT)⟩ (by dsimp only; omega))
  ·
   simp only [beq_eq_false_iff_ne,ne_eq] at hc3
   have hun:unL (s.data.toList.drop i)=[b]++unL (s.data.toList.drop (i+1)):=by rw [hD]; exact un_keep hL (.inl hc3)
   refine A7 (A0 ?_)
   refine A1 (A1 ?_)
   refine G_p [0,0] [0,3,4,5,6,23] (k:=A0 ?_)
   refine C6 kr (A1 ?_)
   refine A2 (A6 (j:=3) [0,0,0] (k:=?_))
   refine C0 (ch:=[]) (s:=s) (kd:=.i64) (j:=((i:Nat):Int)) (hb:=(fun _=>by omega)) (k:=?_)
   have hb24:=C7 s ((i:Nat):Int)
   refine C8 (E':=[⟨27,[],.int .u8 (b.toNat:Int)⟩,⟨26,[],.int .i64 ((i:Nat):Int)⟩,⟨25,[],.string s⟩,⟨24,[],.slice ra l1.length rc⟩,⟨0,[],.string s⟩,⟨3,[],.slice ra l1.length rc⟩,⟨4,[],.int .i64 ((i:Nat):Int)⟩,⟨5,[],.int .i64 (-1)⟩,⟨6,[],.int .i64 0⟩,⟨23,[],.bool true⟩]) (by have hz:([⟨27,[],.int .u8 (A5 s ((i:Nat):Int))⟩,⟨26,[],.int .i64 ((i:Nat):Int)⟩,⟨25,[],.string s⟩,⟨24,[],.slice ra l1.length rc⟩,⟨0,[],.string s⟩,⟨3,[],.slice ra l1.length rc⟩,⟨4,[],.int .i64 ((i:Nat):Int)⟩,⟨5,[],.int .i64 (-1)⟩,⟨6,[],.int .i64 0⟩,⟨23,[],.bool true⟩]:List Sl)=[⟨27,[],.int .u8 (b.toNat:Int)⟩,⟨26,[],.int .i64 ((i:Nat):Int)⟩,⟨25,[],.string s⟩,⟨24,[],.slice ra l1.length rc⟩,⟨0,[],.string s⟩,⟨3,[],.slice ra l1.length rc⟩,⟨4,[],.int .i64 ((i:Nat):Int)⟩,⟨5,[],.int .i64 (-1)⟩,⟨6,[],.int .i64 0⟩,⟨23,[],.bool true⟩]:=(by rw [hbyte]); exact Eq.trans kr hz) (D0 (ch:=[]) (e:=5) (l:=[(0,.int .u8 (b.toNat:Int))]) (c:=[.int .u8 (b.toNat:Int)]) (k:=(fun b25=>?_)))
   refine F3 (i:=5) (ch:=[]) (t:=37) (tx:=37) (e:=5) (inf:=Tryz.t5) (s:=.slice ra l1.length rc) (x:=.slice (some ⟨b25,0,none⟩) 1 1) (n:=l1.length) (m:=1) (j:=1) (cs:=(u8s l1)) (news:=[.int .u8 (b.toNat:Int)]) (g:=rg) (S:=(inG [(b25,.cells #[.int .u8 (b.toNat:Int)] 5 (0,0))])) rfl rfl rfl rfl kr kr kr rfl rfl (.inl ⟨5,kr⟩) (fun ⟨_,h⟩=>by cases h) (fun _=>⟨5,kr⟩) kr kr kr rfl hO (SrcOf.slice _ _ _ _ Rd.lit (fun h=>by cases h)) (D2 0 rfl) kr (by intro u hu; rcases List.mem_singleton.1 hu with rfl; rfl) (by omega) (by show (l1.length+1) * 1≤140737488355328; omega) (fun v26 g27 hO28=>?_)
   obtain ⟨a29,cap30,rfl,hcap31,hrd32⟩:=hO28.shape
   refine B0 [0] [0,3,4] (k:=A0 ?_)
   refine A1 (A2 ?_)
   refine A6 (j:=2) [0,0] (k:=C3 31 (((i:Nat):Int)+1) (by omega) (by omega) kr ?_)
   refine B8 (E':=[⟨0,[],.string s⟩,⟨3,[],.slice a29 (l1.length+1) cap30⟩,⟨4,[],.int .i64 (((i:Nat):Int)+1)⟩]) [0] [0,3,4] (k:=A0 ?_)
   refine F7 (A8 ?_)
   refine C2 ?_
   have hln:(l1.length+1)=(l1++[b]).length:=by first | exact List.length_append.symm | (rw [List.length_append]; rfl)
   refine L5 (E':=[⟨0,[],.string s⟩,⟨3,[],.slice a29 ((l1++[b]).length) cap30⟩,⟨4,[],.int .i64 (((i:Nat):Int)+1)⟩]) (by rw [hln]) (C9 (H':=(g27::H)) (fun w h=>(h.erase 0)) ?_)
   refine D8 (s':=(a29,cap30,g27,(l1++[b]),i+1)) [0,3,4] kr rfl ⟨(I4 hO28 hln (by dsimp only; first | exact (Go.Sha.u8s_append _ _).symm | (rw [Go.Sha.u8s_append]; rfl))),(by dsimp only; omega),(by dsimp only; rw [List.append_assoc,← hun]; exact hT)⟩ (by dsimp only; omega)
 ·
  simp only [decide_eq_false_iff_not] at hc1
  refine F7 (A8 ?_)
  refine A8 (C2 ?_)
  refine A0 (A1 ?_)
  refine A2 (A6 (j:=1) [0] (k:=?_))
  refine GL_bytesB (ch:=[]) (a:=ra) (cap:=rc) (e:=5) (S:=(inG rg)) (bk l1) (hrd:=M7 hO) (hS:=D2 0 rfl) (k:=B8 (E':=[⟨2,[],.string (bk l1)⟩]) [0] [2] (k:=?_))
  refine A0 (B6 ?_)
  refine C9 (H':=H) (fun w h=>(h.erase 0)) (B5 [.tmp 2] [.string (bk l1)] (k:=?_))
  have he:l1=unL s.data.toList:=by rw [← hT,List.drop_eq_nil_of_le (by rw [B7]; omega)]; exact (List.append_nil _).symm
  exact ⟨congrArg Value.string (by rw [he]),rfl⟩
end Go.Proofs.YtbnfbffiehoapaaGreatDoor
namespace Go.Proofs.YtbnfbffiehoapaaGreatDoor
open Go.Sw Go.Sha Go.Esc Go.RowKit
theorem escUnhtml_ (a:ByteArray) (W0:World) (H:List Grp) (hW:I2 W0):Tri Tryz.prog 4 #[.string a] W0 H (fun v H'=>v=.bool true∧H'=H):=by
 refine D1 (args:=[.string a]) (n:=15) Tryz.func4 rfl rfl (Nat.le_of_ble_eq_true rfl) ?_
 refine A1 (B3 (E':=[⟨0,[],.string a⟩]) [0] [0] (k:=?_))
 refine A0 (A1 ?_)
 refine A1 (A2 ?_)
 refine G4 Tryz.func9 (first_ _ _ hW) (B0 [0] [0,4] (k:=?_))
 refine A0 (D7 kr ?_)
 refine A7 (A0 ?_)
 refine A1 (A2 ?_)
 refine A6 (j:=5) [0,0,0,0,0] (k:=F6 (ch:=[(8,false)]) (f:=12) (fst:=#[]) (caps:=#[]) (vs:=[.string a]) (v:=.string (bk (unL a.data.toList))) (hf:=Tryz.func12) (hc:=(fun hc=>unhtml_ a (by have hg0:=K0 (t:=8) (c:=[]) (b:=decide ((a.size:Int) > 3000)) hc kr; (try simp at hg0); omega) _ _ hW)) (k:=?_))
 refine A6 (j:=7) [0] (k:=F6 (ch:=[(8,false)]) (f:=13) (fst:=#[]) (caps:=#[]) (vs:=[.string a]) (v:=.string (bk (unL a.data.toList))) (hf:=Tryz.func13) (hc:=(fun hc=>runhtml_ a (by have hg0:=K0 (t:=8) (c:=[]) (b:=decide ((a.size:Int) > 3000)) hc kr; (try simp at hg0); omega) _ _)) (k:=?_))
 refine B0 [0,5,0] [2] (k:=A0 ?_)
 refine B6 (B5 [.tmp 2] [.bool ((decide ((a.size:Int) > 3000))||((bk (unL a.data.toList)).toList==(bk (unL a.data.toList)).toList))] (k:=?_))
 exact ⟨congrArg Value.bool (by rw [(eqB _ _).2 rfl,Bool.or_true]),rfl⟩
end Go.Proofs.YtbnfbffiehoapaaGreatDoor
namespace Go.Proofs.YtbnfbffiehoapaaGreatDoor
open Go.Sw Go.Sha Go.Esc Go.RowKit
theorem dj_go {sv:ByteArray} {i m:Nat} {b:UInt8} {t:List UInt8} {p:Int} (hL:(sv.extract i sv.size).data.toList=b::t) (h92:(b.toNat:Int)=92) (he:F1 (sv.extract i sv.size).data.toList=(p,m)) (hq:¬ p<0):ujL (sv.data.toList.drop i)=(ujL (sv.data.toList.drop (i+m))).map (Lib.encodeRune p++·):=by
  have h:=(djC hL h92).2 (by rw [he]; exact hq)
  rw [he] at h
  dsimp only at h
  rw [F4] at h
  rw [h,List.drop_drop]
theorem dj_pos {sv:ByteArray} {i m:Nat} {p:Int} (hi:i<sv.size) (he:F1 (sv.extract i sv.size).data.toList=(p,m)) (hq:¬ p<0):i+m≤sv.size:=by
  have:=(escM_pos (l:=(sv.extract i sv.size).data.toList) (by rw [he]; show 0≤p; omega)).2.1
  rw [he,B7,F8] at this; dsimp only at this; omega
theorem dj_six {sv:ByteArray} {i:Nat} (hi:i<sv.size) (h:0≤C5 (sv.extract i sv.size).data.toList):i+6≤sv.size:=by
  have:=unitM_len h
  rw [B7,F8] at this; omega
theorem runit_ (s:ByteArray) (hs:s.size≤1000000000000) (W0:World) (H:List Grp):Tri Tryz.prog 39 #[.string s] W0 H (fun v H'=>v=.int .i64 (C5 s.data.toList)∧H'=H):=by
 refine D1 (args:=[.string s]) (n:=17) Tryz.func39 rfl rfl (Nat.le_of_ble_eq_true rfl) ?_
 refine A1 (B3 (E':=[⟨0,[],.string s⟩]) [0] [0] (k:=?_))
 refine A0 (A1 ?_)
 refine A1 (A2 ?_)
 refine A6 (j:=1) [0] (k:=G4 Tryz.func51 (O1 s (ByteArray.mk #[92,117]) (by (try rw [F8]); omega) (Nat.le_of_ble_eq_true rfl) _ _) ?_)
 refine B0 [0] [0,7] (k:=A0 ?_)
 refine B1 (b:=!(G1 s (ByteArray.mk #[92,117]))) kr (fun hc1=>?_) (fun hc1=>?_)
 ·
  simp only [Bool.not_eq_true'] at hc1
  have hc:¬ s.data.toList.take 2=[92,117]:=(G7 _ _).1 hc1
  refine A1 (B3 (E':=[⟨2,[],.int .i64 (-1)⟩]) [0] [2] (k:=?_))
  refine A0 (B6 ?_)
  refine A3 (B5 [.tmp 2] [.int .i64 (-1)] (k:=?_))
  exact ⟨congrArg (Value.int .i64) (by rw [← unitD_eq]; unfold unitD; rw [if_pos hc]),rfl⟩
 ·
  simp only [Bool.not_eq_false'] at hc1
  have hc:s.data.toList.take 2=[92,117]:=(G8 _ _).1 hc1
  have hz:=tk_len2 hc
  have hnd:=numD_le 16 4 0 (s.extract 2 s.size).data.toList
  refine A7 (A0 ?_)
  refine A1 (A2 ?_)
  refine A6 (j:=1) [0] (k:=E8 (ch:=[]) (s:=s) (vl:=(some (.int .i64 2))) (vh:=none) (l:=2) (h:=(s.size:Int)) (hb:=(fun _=>by omega)) (k:=?_))
  refine G4 Tryz.func52 (rnumber16_ (s.extract 2 s.size) 4 4 rfl (by decide) (by (try rw [F8]); omega) _ _) (B0 [0,0,0,0,0] [3,4] (k:=?_))
  refine A0 (A1 ?_)
  refine A1 (G_p [0,0] [3,15] (k:=?_))
  refine A0 (B1 (b:=decide (((D6 16 4 0 (s.extract 2 s.size).data.toList).2:Int)<4)) kr (fun hc2=>?_) (fun hc2=>?_))
  ·
   simp only [decide_eq_true_eq] at hc2
   refine A1 (B3 (E':=[⟨2,[],.int .i64 (-1)⟩]) [0] [2] (k:=?_))
   refine A0 (B6 ?_)
   refine A3 (B5 [.tmp 2] [.int .i64 (-1)] (k:=?_))
   exact ⟨congrArg (Value.int .i64) (by rw [← unitD_eq]; unfold unitD; rw [if_neg (fun hn=>hn hc),← F4,if_pos (by omega)]),rfl⟩
  ·
   simp only [decide_eq_false_iff_not] at hc2
   refine A7 (A0 ?_)
   refine A1 (G_p [0,0] [2] (k:=?_))
   refine A0 (B6 ?_)
   refine B5 [.tmp 2] [.int .i64 ((D6 16 4 0 (s.extract 2 s.size).data.toList).1)] (k:=?_)
   exact ⟨congrArg (Value.int .i64) (by rw [← unitD_eq]; unfold unitD; rw [if_neg (fun hn=>hn hc),← F4,if_neg (by omega)]),rfl⟩
set_option maxHeartbeats 1000000 in
theorem runjson_ (s:ByteArray) (hs:s.size≤100000000) (W0:World) (H:List Grp):Tri Tryz.prog 17 #[.string s] W0 H (fun v H'=>v=unjW (unjM s.data.toList)∧H'=H):=by
 refine D1 (args:=[.string s]) (n:=137) Tryz.func17 rfl rfl (Nat.le_of_ble_eq_true rfl) ?_
 refine A1 (B3 (E':=[⟨0,[],.string s⟩]) [0,0] [0] (k:=?_))
 refine A0 (A1 ?_)
 refine A1 (A2 ?_)
 refine A6 (j:=5) [0,0,0,0,0] (k:=C0 (ch:=[(15,false)]) (s:=s) (kd:=.i64) (j:=0) (hb:=(fun hc=>by have hg0:=K0 (t:=15) (c:=[]) (b:=decide ((s.size:Int)<2)) hc kr; (try simp at hg0); omega)) (k:=?_))
 have hb1:=C7 s 0
 have hw2:IntKind.wrap .i64 ((s.size:Int) - 1)=(s.size:Int) - 1:=w64 (by omega) (by omega)
 refine C1 (E':=[⟨24,[(20,false)],.int .i64 ((s.size:Int) - 1)⟩,⟨21,[(20,false)],.string s⟩,⟨20,[],.bool ((decide ((s.size:Int)<2))||((A5 s 0) != 34))⟩,⟨0,[],.string s⟩]) [0,5,0,0,0,0,0] (Eq.trans (b:=some [⟨24,[(20,false)],.int .i64 (IntKind.wrap .i64 ((s.size:Int) - 1))⟩,⟨21,[(20,false)],.string s⟩,⟨20,[],.bool ((decide ((s.size:Int)<2))||((A5 s 0) != 34))⟩,⟨0,[],.string s⟩]) kr (by simp only [hw2])) (j:=13) rfl (C0 (ch:=[(20,false)]) (s:=s) (kd:=.i64) (j:=(s.size:Int) - 1) (hb:=(fun hc=>by have hg0:=K0 (t:=20) (c:=[]) (b:=(decide ((s.size:Int)<2))||((A5 s 0) != 34)) hc kr; (try simp at hg0); omega)) (k:=?_))
 have hb3:=C7 s ((s.size:Int) - 1)
 refine A6 (j:=18) [0,5,0,0] (k:=F6 (ch:=[(28,false)]) (f:=38) (fst:=#[]) (caps:=#[]) (vs:=[.string s]) (v:=.bool (G9 s.data.toList)) (hf:=Tryz.func38) (hc:=(fun hc=>rvalid_ s (by omega) _ _)) (k:=?_))
 refine B0 [0,5] [0,32] (k:=A0 ?_)
 refine B1 (b:=(((decide ((s.size:Int)<2))||((A5 s 0) != 34))||((A5 s ((s.size:Int) - 1)) != 34))||(!(G9 s.data.toList))) kr (fun hc4=>?_) (fun hc4=>?_)
 ·
  simp only [Bool.or_eq_true,Bool.not_eq_true',decide_eq_true_eq,bne_iff_ne,ne_eq] at hc4
  refine A1 (G_p [0,0] [2,3] (k:=?_))
  refine A0 (B6 ?_)
  refine A3 (B5 [.tmp 2,.tmp 3] [.string (ByteArray.mk #[]),.bool false] (k:=?_))
  exact ⟨by rw [unj_no (by assumption)]; rfl,rfl⟩
 ·
  simp only [Bool.or_eq_false_iff,Bool.not_eq_false',decide_eq_false_iff_not,bne_eq_false_iff_eq] at hc4
  obtain ⟨⟨⟨hq1,hq2⟩,hq3⟩,hq4⟩:=hc4
  have hU0:=unj_yes hq1 hq2 hq3 hq4
  obtain ⟨sv,hsv⟩:∃ sv:ByteArray,sv=s.extract 1 (Int.toNat (((s.size:Nat):Int) - 1)):=⟨_,rfl⟩
  have hsz:sv.size≤s.size:=by rw [hsv,ByteArray.size_extract]; omega
  rw [← hsv] at hU0
  refine A7 (A0 ?_)
  refine A1 (A2 ?_)
  refine A6 (j:=4) [0,0,0,0] (k:=C3 36 ((s.size:Int) - 1) (by omega) (by omega) kr ?_)
  refine E8 (ch:=[]) (s:=s) (vl:=(some (.int .i64 1))) (vh:=(some (.int .i64 ((s.size:Int) - 1)))) (l:=1) (h:=(s.size:Int) - 1) (hb:=(fun _=>by omega)) (k:=C8 (E':=[⟨37,[],.string sv⟩,⟨36,[],.int .i64 ((s.size:Int) - 1)⟩,⟨35,[],.int .i64 (s.size:Int)⟩,⟨34,[],.string s⟩,⟨33,[],.string s⟩,⟨0,[],.string s⟩,⟨32,[],.bool ((((decide ((s.size:Int)<2))||((A5 s 0) != 34))||((A5 s ((s.size:Int) - 1)) != 34))||(!(G9 s.data.toList)))⟩]) (by have hz:([⟨37,[],.string (s.extract 1 (Int.toNat ((s.size:Int) - 1)))⟩,⟨36,[],.int .i64 ((s.size:Int) - 1)⟩,⟨35,[],.int .i64 (s.size:Int)⟩,⟨34,[],.string s⟩,⟨33,[],.string s⟩,⟨0,[],.string s⟩,⟨32,[],.bool ((((decide ((s.size:Int)<2))||((A5 s 0) != 34))||((A5 s ((s.size:Int) - 1)) != 34))||(!(G9 s.data.toList)))⟩]:List Sl)=[⟨37,[],.string sv⟩,⟨36,[],.int .i64 ((s.size:Int) - 1)⟩,⟨35,[],.int .i64 (s.size:Int)⟩,⟨34,[],.string s⟩,⟨33,[],.string s⟩,⟨0,[],.string s⟩,⟨32,[],.bool ((((decide ((s.size:Int)<2))||((A5 s 0) != 34))||((A5 s ((s.size:Int) - 1)) != 34))||(!(G9 s.data.toList)))⟩]:=(by rw [hsv]); exact Eq.trans kr hz) ?_)
  refine B8 (E':=[⟨0,[],.string sv⟩]) [0] [0] (k:=A0 ?_)
  refine A1 (G_p [0] [0,4] (k:=?_))
  refine A0 (A1 ?_)
  refine A1 (G_p [0] [0,4,5] (k:=?_))
  refine A0 (B4 ?_)
  refine G_heap (H':=([]::H)) (fun w h=>h.flat (List.Perm.refl _)) (I8 (EI:=(fun ξ:Option Addr × Nat × Grp × List UInt8 × Nat=>[⟨0,[],.string sv⟩,⟨4,[],.slice ξ.1 ξ.2.2.2.1.length ξ.2.1⟩,⟨5,[],.int .i64 ((ξ.2.2.2.2:Nat):Int)⟩])) (HI:=(fun ξ:Option Addr × Nat × Grp × List UInt8 × Nat=>(ξ.2.2.1::H))) (Φ:=(fun ξ:Option Addr × Nat × Grp × List UInt8 × Nat=>(Go.Sw.Own 5 1 (.slice ξ.1 ξ.2.2.2.1.length ξ.2.1) ξ.2.2.1 ξ.2.2.2.1.length (u8s ξ.2.2.2.1))∧(ξ.2.2.2.2≤sv.size)∧(ξ.2.2.2.1.length≤4 * ξ.2.2.2.2)∧(unjM s.data.toList=(ujL (sv.data.toList.drop ξ.2.2.2.2)).map (ξ.2.2.2.1++·)))) (μ:=(fun ξ:Option Addr × Nat × Grp × List UInt8 × Nat=>sv.size - ξ.2.2.2.2)) (s0:=(none,0,[],[],0)) [0,4,5] kr rfl ⟨Go.Sw.Own.nil,(Nat.zero_le _),(Nat.le_refl _),(by rw [List.drop_zero]; exact hU0)⟩ ?_)
  rintro ⟨ra,rc,rg,l1,i⟩ ⟨hO,hi,hl,hT⟩
  dsimp only at hO hi hl hT
  obtain ⟨b,hb⟩:∃ b:UInt8,b=sv.data.toList.getD i 0:=⟨_,rfl⟩
  have hbyte:A5 sv (i:Int)=(b.toNat:Int):=by rw [E7,hb]
  refine A1 (A1 ?_)
  refine G_p [0,0,0,0] [0,4,5,41] (k:=A0 ?_)
  refine B1 (b:=decide (((i:Nat):Int)<(sv.size:Int))) kr (fun hc6=>?_) (fun hc6=>?_)
  ·
   simp only [decide_eq_true_eq] at hc6
   have hlt:i<sv.size:=by omega
   have hD:sv.data.toList.drop i=(sv.extract i sv.size).data.toList:=(F4 _ _).symm
   have hL:(sv.extract i sv.size).data.toList=b::sv.data.toList.drop (i+1):=by rw [F4,G0 _ (show i<sv.data.toList.length by rw [B7]; omega),hb]
   refine A7 (A0 ?_)
   refine B4 (A1 ?_)
   refine A2 (A6 (j:=2) [0,0] (k:=?_))
   refine C0 (ch:=[]) (s:=sv) (kd:=.i64) (j:=((i:Nat):Int)) (hb:=(fun _=>by omega)) (k:=?_)
   have hb7:=C7 sv ((i:Nat):Int)
   refine C8 (E':=[⟨44,[],.int .u8 (b.toNat:Int)⟩,⟨43,[],.int .i64 ((i:Nat):Int)⟩,⟨42,[],.string sv⟩,⟨0,[],.string sv⟩,⟨4,[],.slice ra l1.length rc⟩,⟨5,[],.int .i64 ((i:Nat):Int)⟩,⟨41,[],.bool (decide (((i:Nat):Int)<(sv.size:Int)))⟩]) (by have hz:([⟨44,[],.int .u8 (A5 sv ((i:Nat):Int))⟩,⟨43,[],.int .i64 ((i:Nat):Int)⟩,⟨42,[],.string sv⟩,⟨0,[],.string sv⟩,⟨4,[],.slice ra l1.length rc⟩,⟨5,[],.int .i64 ((i:Nat):Int)⟩,⟨41,[],.bool (decide (((i:Nat):Int)<(sv.size:Int)))⟩]:List Sl)=[⟨44,[],.int .u8 (b.toNat:Int)⟩,⟨43,[],.int .i64 ((i:Nat):Int)⟩,⟨42,[],.string sv⟩,⟨0,[],.string sv⟩,⟨4,[],.slice ra l1.length rc⟩,⟨5,[],.int .i64 ((i:Nat):Int)⟩,⟨41,[],.bool (decide (((i:Nat):Int)<(sv.size:Int)))⟩]:=(by rw [hbyte]); exact Eq.trans kr hz) (B0 [0] [0,4,5,6] (k:=?_))
   refine A0 (A1 ?_)
   refine A1 (G_p [0,0,0,0,0,5] [0,4,5,6,50] (k:=?_))
   refine A0 (B1 (b:=(decide ((b.toNat:Int)<32))||((b.toNat:Int)==34)) kr (fun hc8=>?_) (fun hc8=>?_))
   ·
    simp only [Bool.or_eq_true,decide_eq_true_eq,beq_iff_eq] at hc8
    have hbad:ujL (sv.data.toList.drop i)=none:=by rw [hD]; exact djA hL (by omega)
    refine A1 (G_p [0,0] [2,3] (k:=?_))
    refine A0 (B6 ?_)
    refine A3 (A9 ?_)
    refine A3 (A9 ?_)
    refine A3 (C9 (H':=H) (fun w h=>(h.erase 0)) ?_)
    refine B5 [.tmp 2,.tmp 3] [.string (ByteArray.mk #[]),.bool false] (k:=?_)
    exact ⟨by rw [hT,hbad]; rfl,rfl⟩
   ·
    simp only [Bool.or_eq_false_iff,decide_eq_false_iff_not,beq_eq_false_iff_ne,ne_eq] at hc8
    refine A7 (A0 ?_)
    refine A1 (A1 ?_)
    refine G_p [0,0] [0,4,5,6,52] (k:=A0 ?_)
    refine B1 (b:=(b.toNat:Int) != 92) kr (fun hc9=>?_) (fun hc9=>?_)
    ·
     simp only [bne_iff_ne,ne_eq] at hc9
     have hun:ujL (sv.data.toList.drop i)=(ujL (sv.data.toList.drop (i+1))).map ([b]++·):=by rw [hD]; exact djB hL (by omega) (by omega)
     refine A1 (A2 ?_)
     refine A6 (j:=2) [0,0] (k:=D0 (ch:=[]) (e:=5) (l:=[(0,.int .u8 (b.toNat:Int))]) (c:=[.int .u8 (b.toNat:Int)]) (k:=(fun b10=>?_)))
     refine F3 (i:=3) (ch:=[]) (t:=37) (tx:=37) (e:=5) (inf:=Tryz.t5) (s:=.slice ra l1.length rc) (x:=.slice (some ⟨b10,0,none⟩) 1 1) (n:=l1.length) (m:=1) (j:=1) (cs:=(u8s l1)) (news:=[.int .u8 (b.toNat:Int)]) (g:=rg) (S:=(inG [(b10,.cells #[.int .u8 (b.toNat:Int)] 5 (0,0))])) rfl rfl rfl rfl kr kr kr rfl rfl (.inl ⟨5,kr⟩) (fun ⟨_,h⟩=>by cases h) (fun _=>⟨5,kr⟩) kr kr kr rfl hO (SrcOf.slice _ _ _ _ Rd.lit (fun h=>by cases h)) (D2 0 rfl) kr (by intro u hu; rcases List.mem_singleton.1 hu with rfl; rfl) (by omega) (by show (l1.length+1) * 1≤140737488355328; omega) (fun v11 g12 hO13=>?_)
     obtain ⟨a14,cap15,rfl,hcap16,hrd17⟩:=hO13.shape
     refine B0 [0] [0,4,5] (k:=A0 ?_)
     refine A1 (A2 ?_)
     refine A6 (j:=2) [0,0] (k:=C3 58 (((i:Nat):Int)+1) (by omega) (by omega) kr ?_)
     refine B8 (E':=[⟨0,[],.string sv⟩,⟨4,[],.slice a14 (l1.length+1) cap15⟩,⟨5,[],.int .i64 (((i:Nat):Int)+1)⟩]) [0] [0,4,5] (k:=A0 ?_)
     refine F7 (A8 ?_)
     refine C2 ?_
     have hln:(l1.length+1)=(l1++[b]).length:=by first | exact List.length_append.symm | (rw [List.length_append]; rfl)
     refine L5 (E':=[⟨0,[],.string sv⟩,⟨4,[],.slice a14 ((l1++[b]).length) cap15⟩,⟨5,[],.int .i64 (((i:Nat):Int)+1)⟩]) (by rw [hln]) (C9 (H':=(g12::H)) (fun w h=>(h.erase 0)) ?_)
     refine D8 (s':=(a14,cap15,g12,(l1++[b]),i+1)) [0,4,5] kr rfl ⟨(I4 hO13 hln (by dsimp only; first | exact (Go.Sha.u8s_append _ _).symm | (rw [Go.Sha.u8s_append]; rfl))),(by dsimp only; omega),(by dsimp only; simp only [List.length_append,List.length_cons,List.length_nil]; omega),(by dsimp only; rw [hT,hun]; exact map_app rfl)⟩ (by dsimp only; omega)
    ·
     simp only [bne_eq_false_iff_eq] at hc9
     have h92:(b.toNat:Int)=92:=by omega
     refine A7 (A0 ?_)
     refine A1 (A1 ?_)
     refine A2 (A6 (j:=2) [0,0] (k:=?_))
     refine C3 60 (((i:Nat):Int)+1) (by omega) (by omega) kr (B0 [0,0,0] [0,4,5,63] (k:=?_))
     refine A0 (B1 (b:=(((i:Nat):Int)+1)==(sv.size:Int)) kr (fun hc20=>?_) (fun hc20=>?_))
     ·
      simp only [beq_iff_eq] at hc20
      have hbad:ujL (sv.data.toList.drop i)=none:=by rw [hD]; exact (djC hL h92).1 (by rw [dj_end (by rw [B7,F8]; omega)]; decide)
      refine A1 (B3 (E':=[⟨2,[],.string (ByteArray.mk #[])⟩,⟨3,[],.bool false⟩]) [0,0] [2,3] (k:=?_))
      refine A0 (B6 ?_)
      refine A3 (A9 ?_)
      refine A3 (A9 ?_)
      refine A3 (C9 (H':=H) (fun w h=>(h.erase 0)) ?_)
      refine B5 [.tmp 2,.tmp 3] [.string (ByteArray.mk #[]),.bool false] (k:=?_)
      exact ⟨by rw [hT,hbad]; rfl,rfl⟩
     ·
      simp only [beq_eq_false_iff_ne,ne_eq] at hc20
      obtain ⟨c,hc⟩:∃ c:UInt8,c=sv.data.toList.getD (i+1) 0:=⟨_,rfl⟩
      have hbyte2:A5 sv ((i:Int)+1)=(c.toNat:Int):=by rw [hc]; exact E7 sv (i+1)
      have hl2:¬ (sv.extract i sv.size).data.toList.length<2:=by rw [B7,F8]; omega
      have hc1:(sv.extract i sv.size).data.toList.getD 1 0=c:=by rw [hc,F4]; simp only [List.getD,List.getElem?_drop]
      refine A7 (A0 ?_)
      refine A1 (B3 (E':=[⟨0,[],.string sv⟩,⟨4,[],.slice ra l1.length rc⟩,⟨5,[],.int .i64 ((i:Nat):Int)⟩,⟨7,[],.int .i64 (-1)⟩]) [0] [0,4,5,7] (k:=?_))
      refine A0 (A1 ?_)
      refine A1 (A2 ?_)
      refine D0 (ch:=[]) (e:=5) (l:=[(0,.int .u8 34),(1,.int .u8 92),(2,.int .u8 47),(3,.int .u8 98),(4,.int .u8 102),(5,.int .u8 110),(6,.int .u8 114),(7,.int .u8 116)]) (c:=[.int .u8 34,.int .u8 92,.int .u8 47,.int .u8 98,.int .u8 102,.int .u8 110,.int .u8 114,.int .u8 116]) (k:=(fun b21=>?_))
      refine GL_sameBytes (i:=1) (ch:=[]) (t:=37) (e:=5) (b:=b21) (off:=0) (l:=8) (cap:=8) (j:=0) (m:=0) rfl rfl kr kr kr kr kr kr rfl rfl (by rfl) (B0 [0,0] [0,4,5,7,65,66,67] (k:=?_))
      refine A0 (B4 ?_)
      refine I8 (EI:=(fun ξ:Nat × Int=>[⟨0,[],.string sv⟩,⟨4,[],.slice ra l1.length rc⟩,⟨5,[],.int .i64 ((i:Nat):Int)⟩,⟨7,[],.int .i64 ξ.2⟩,⟨65,[],.slice (some ⟨b21,0,none⟩) 8 8⟩,⟨66,[],.int .i64 8⟩,⟨67,[],.int .i64 ((ξ.1:Nat):Int)⟩])) (HI:=(fun ξ:Nat × Int=>([(b21,.cells #[.int .u8 34,.int .u8 92,.int .u8 47,.int .u8 98,.int .u8 102,.int .u8 110,.int .u8 114,.int .u8 116] 5 (8,8+1))]::rg::H))) (Φ:=(fun ξ:Nat × Int=>(ξ.1≤8)∧(ξ.2=oneK ξ.1 c))) (μ:=(fun ξ:Nat × Int=>8 - ξ.1)) (s0:=(0,(-1))) [0,4,5,7,65,66,67] kr rfl ⟨(by decide),rfl⟩ ?_
      rintro ⟨k,o⟩ ⟨hk,hQ⟩
      dsimp only at hk hQ
      refine A1 (G_p [0] [0,4,5,7,65,66,67,68] (k:=?_))
      refine A0 (A1 ?_)
      refine B1 (b:=decide (((k:Nat):Int)<8)) kr (fun hc22=>?_) (fun hc22=>?_)
      ·
       simp only [decide_eq_true_eq] at hc22
       have hnk:=(nameK k).toNat_lt
       have hvk:=(valK k).toNat_lt
       refine A7 (A0 ?_)
       refine A1 (B4 ?_)
       refine A1 (A2 ?_)
       refine A6 (j:=1) [0] (k:=C4 (ch:=[]) (a:=(some ⟨b21,0,none⟩)) (len:=8) (cap:=8) (kd:=.i64) (j:=((k:Nat):Int)) (e:=5) (sz:=1) (S:=(inG [(b21,.cells #[.int .u8 34,.int .u8 92,.int .u8 47,.int .u8 98,.int .u8 102,.int .u8 110,.int .u8 114,.int .u8 116] 5 (8,8+1))])) (cs:=[.int .u8 34,.int .u8 92,.int .u8 47,.int .u8 98,.int .u8 102,.int .u8 110,.int .u8 114,.int .u8 116]) (hrd:=Rd.lit) (hb:=(fun _=>by exact ⟨by omega,by omega,fun h=>by cases h⟩)) (k:=?_))
       refine E6 (ch:=[]) (a:=(some ⟨b21,0,none⟩)) (q:=k * 1) (S:=(inG [(b21,.cells #[.int .u8 34,.int .u8 92,.int .u8 47,.int .u8 98,.int .u8 102,.int .u8 110,.int .u8 114,.int .u8 116] 5 (8,8+1))])) (cs:=[.int .u8 34,.int .u8 92,.int .u8 47,.int .u8 98,.int .u8 102,.int .u8 110,.int .u8 114,.int .u8 116]) (v:=.int .u8 ((nameK k).toNat:Int)) (hrd:=Rd.lit) (hS:=D2 0 rfl) (hv:=(fun _=>(by rw [Nat.mul_one]; exact nameK_at (by omega)))) (k:=B0 [0,0] [0,4,5,7,8,9,65,66,67] (k:=?_))
       refine A0 (A1 ?_)
       refine A2 (A6 (j:=3) [0,0,0] (k:=?_))
       refine C3 74 (((i:Nat):Int)+1) (by omega) (by omega) kr (C0 (ch:=[]) (s:=sv) (kd:=.i64) (j:=((i:Nat):Int)+1) (hb:=(fun _=>by omega)) (k:=?_))
       have hb24:=C7 sv (((i:Nat):Int)+1)
       refine C8 (E':=[⟨75,[],.int .u8 (c.toNat:Int)⟩,⟨74,[],.int .i64 (((i:Nat):Int)+1)⟩,⟨73,[],.int .i64 ((i:Nat):Int)⟩,⟨72,[],.string sv⟩,⟨0,[],.string sv⟩,⟨4,[],.slice ra l1.length rc⟩,⟨5,[],.int .i64 ((i:Nat):Int)⟩,⟨7,[],.int .i64 o⟩,⟨8,[],.int .i64 ((k:Nat):Int)⟩,⟨9,[],.int .u8 ((nameK k).toNat:Int)⟩,⟨65,[],.slice (some ⟨b21,0,none⟩) 8 8⟩,⟨66,[],.int .i64 8⟩,⟨67,[],.int .i64 ((k:Nat):Int)⟩]) (by have hz:([⟨75,[],.int .u8 (A5 sv (((i:Nat):Int)+1))⟩,⟨74,[],.int .i64 (((i:Nat):Int)+1)⟩,⟨73,[],.int .i64 ((i:Nat):Int)⟩,⟨72,[],.string sv⟩,⟨0,[],.string sv⟩,⟨4,[],.slice ra l1.length rc⟩,⟨5,[],.int .i64 ((i:Nat):Int)⟩,⟨7,[],.int .i64 o⟩,⟨8,[],.int .i64 ((k:Nat):Int)⟩,⟨9,[],.int .u8 ((nameK k).toNat:Int)⟩,⟨65,[],.slice (some ⟨b21,0,none⟩) 8 8⟩,⟨66,[],.int .i64 8⟩,⟨67,[],.int .i64 ((k:Nat):Int)⟩]:List Sl)=[⟨75,[],.int .u8 (c.toNat:Int)⟩,⟨74,[],.int .i64 (((i:Nat):Int)+1)⟩,⟨73,[],.int .i64 ((i:Nat):Int)⟩,⟨72,[],.string sv⟩,⟨0,[],.string sv⟩,⟨4,[],.slice ra l1.length rc⟩,⟨5,[],.int .i64 ((i:Nat):Int)⟩,⟨7,[],.int .i64 o⟩,⟨8,[],.int .i64 ((k:Nat):Int)⟩,⟨9,[],.int .u8 ((nameK k).toNat:Int)⟩,⟨65,[],.slice (some ⟨b21,0,none⟩) 8 8⟩,⟨66,[],.int .i64 8⟩,⟨67,[],.int .i64 ((k:Nat):Int)⟩]:=(by rw [hbyte2]); exact Eq.trans kr hz) (B0 [0,0] [0,4,5,7,8,65,66,67,77] (k:=?_))
       refine A0 (B1 (b:=(c.toNat:Int)==((nameK k).toNat:Int)) kr (fun hc25=>?_) (fun hc25=>?_))
       ·
        simp only [beq_iff_eq] at hc25
        have hon:=oneK_yes (k:=k) (b:=c) (by omega)
        refine A2 (D0 (ch:=[]) (e:=5) (l:=[(0,.int .u8 34),(1,.int .u8 92),(2,.int .u8 47),(3,.int .u8 8),(4,.int .u8 12),(5,.int .u8 10),(6,.int .u8 13),(7,.int .u8 9)]) (c:=[.int .u8 34,.int .u8 92,.int .u8 47,.int .u8 8,.int .u8 12,.int .u8 10,.int .u8 13,.int .u8 9]) (k:=(fun b26=>?_)))
        refine A6 (j:=2) [0] (k:=C4 (ch:=[]) (a:=(some ⟨b26,0,none⟩)) (len:=8) (cap:=8) (kd:=.i64) (j:=((k:Nat):Int)) (e:=5) (sz:=1) (S:=(inG [(b26,.cells #[.int .u8 34,.int .u8 92,.int .u8 47,.int .u8 8,.int .u8 12,.int .u8 10,.int .u8 13,.int .u8 9] 5 (0,0))])) (cs:=[.int .u8 34,.int .u8 92,.int .u8 47,.int .u8 8,.int .u8 12,.int .u8 10,.int .u8 13,.int .u8 9]) (hrd:=Rd.lit) (hb:=(fun _=>by exact ⟨by omega,by omega,fun h=>by cases h⟩)) (k:=?_))
        refine E6 (ch:=[]) (a:=(some ⟨b26,0,none⟩)) (q:=k * 1) (S:=(inG [(b26,.cells #[.int .u8 34,.int .u8 92,.int .u8 47,.int .u8 8,.int .u8 12,.int .u8 10,.int .u8 13,.int .u8 9] 5 (0,0))])) (cs:=[.int .u8 34,.int .u8 92,.int .u8 47,.int .u8 8,.int .u8 12,.int .u8 10,.int .u8 13,.int .u8 9]) (v:=.int .u8 ((valK k).toNat:Int)) (hrd:=Rd.lit) (hS:=D2 0 rfl) (hv:=(fun _=>(by rw [Nat.mul_one]; exact valK_at (by omega)))) (k:=A6 (j:=5) [0] (k:=?_))
        refine C3 82 ((valK k).toNat:Int) (by omega) (by omega) kr (B0 [0] [0,4,5,7,65,66,67] (k:=?_))
        refine B2 (A0 ?_)
        refine A2 (A6 (j:=1) [0] (k:=?_))
        refine C3 83 (((k:Nat):Int)+1) (by omega) (by omega) kr (B0 [0] [0,4,5,7,65,66,67] (k:=?_))
        refine C9 (H':=([(b21,.cells #[.int .u8 34,.int .u8 92,.int .u8 47,.int .u8 98,.int .u8 102,.int .u8 110,.int .u8 114,.int .u8 116] 5 (8,8+1))]::rg::H)) (fun w h=>(h.erase 0)) (D8 (s':=(k+1,((valK k).toNat:Int))) [0,4,5,7,65,66,67] kr rfl ⟨(by dsimp only; omega),(by dsimp only; exact hon)⟩ (by dsimp only; omega))
       ·
        simp only [beq_eq_false_iff_ne,ne_eq] at hc25
        have hon:=hQ.trans (oneK_no (k:=k) (b:=c) (by omega))
        refine A7 (B2 ?_)
        refine A0 (A2 ?_)
        refine A6 (j:=1) [0] (k:=C3 83 (((k:Nat):Int)+1) (by omega) (by omega) kr ?_)
        refine B0 [0] [0,4,5,7,65,66,67] (k:=D8 (s':=(k+1,o)) [0,4,5,7,65,66,67] kr rfl ⟨(by dsimp only; omega),(by dsimp only; exact hon)⟩ (by dsimp only; omega))
      ·
       simp only [decide_eq_false_iff_not] at hc22
       have ho8:o=G5 c:=by rw [hQ,show k=8 by omega]; exact (oneK_eq c).1
       rw [← hc1] at ho8
       refine F7 (A8 ?_)
       refine A8 (C2 ?_)
       refine A0 (A1 ?_)
       refine A1 (G_p [0,0] [0,4,5,7,85] (k:=?_))
       refine A0 (B1 (b:=decide (o ≥ 0)) kr (fun hc30=>?_) (fun hc30=>?_))
       ·
        simp only [decide_eq_true_eq,ge_iff_le] at hc30
        have hoe:=(oneK_eq ((sv.extract i sv.size).data.toList.getD 1 0)).2 (by omega)
        obtain ⟨d,hd⟩:∃ d:UInt8,d=UInt8.ofNat (G5 ((sv.extract i sv.size).data.toList.getD 1 0)).toNat:=⟨_,rfl⟩
        rw [← hd] at hoe
        have hdn:(d.toNat:Int)=o:=by rw [hd,UInt8.toNat_ofNat',Nat.mod_eq_of_lt (by omega)]; omega
        have he:F1 (sv.extract i sv.size).data.toList=(G5 ((sv.extract i sv.size).data.toList.getD 1 0),2):=dj_one hl2 (by omega)
        have hdp:=dj_pos hlt he (by omega)
        have hun:ujL (sv.data.toList.drop i)=(ujL (sv.data.toList.drop (i+2))).map ([d]++·):=by
         have h:=dj_go hL h92 he (by omega)
         rw [hoe.1] at h; exact h
        refine A1 (A2 ?_)
        refine C1 (E':=[⟨88,[],.int .u8 (IntKind.wrap .u8 o)⟩,⟨86,[],.slice ra l1.length rc⟩,⟨0,[],.string sv⟩,⟨4,[],.slice ra l1.length rc⟩,⟨5,[],.int .i64 ((i:Nat):Int)⟩]) (j:=3) [0,0,0] (k:=C8 (E':=[⟨88,[],.int .u8 (d.toNat:Int)⟩,⟨86,[],.slice ra l1.length rc⟩,⟨0,[],.string sv⟩,⟨4,[],.slice ra l1.length rc⟩,⟨5,[],.int .i64 ((i:Nat):Int)⟩]) (by rw [w8i (x:=o) (by omega) (by omega),hdn]) ?_)
        refine D0 (ch:=[]) (e:=5) (l:=[(0,.int .u8 (d.toNat:Int))]) (c:=[.int .u8 (d.toNat:Int)]) (k:=(fun b31=>?_))
        refine F3 (i:=4) (ch:=[]) (t:=37) (tx:=37) (e:=5) (inf:=Tryz.t5) (s:=.slice ra l1.length rc) (x:=.slice (some ⟨b31,0,none⟩) 1 1) (n:=l1.length) (m:=1) (j:=2) (cs:=(u8s l1)) (news:=[.int .u8 (d.toNat:Int)]) (g:=rg) (S:=(inG [(b31,.cells #[.int .u8 (d.toNat:Int)] 5 (0,0))])) rfl rfl rfl rfl kr kr kr rfl rfl (.inl ⟨5,kr⟩) (fun ⟨_,h⟩=>by cases h) (fun _=>⟨5,kr⟩) kr kr kr rfl hO (SrcOf.slice _ _ _ _ Rd.lit (fun h=>by cases h)) (D2 0 rfl) kr (by intro u hu; rcases List.mem_singleton.1 hu with rfl; rfl) (by omega) (by show (l1.length+1) * 1≤140737488355328; omega) (fun v32 g33 hO34=>?_)
        obtain ⟨a35,cap36,rfl,hcap37,hrd38⟩:=hO34.shape
        refine B0 [0] [0,4,5] (k:=A0 ?_)
        refine A1 (A2 ?_)
        refine A6 (j:=2) [0,0] (k:=C3 92 (((i:Nat):Int)+2) (by omega) (by omega) kr ?_)
        refine B0 [0] [0,4,5] (k:=A0 ?_)
        refine F7 (A8 ?_)
        refine C2 ?_
        have hln:(l1.length+1)=(l1++[d]).length:=by first | exact List.length_append.symm | (rw [List.length_append]; rfl)
        refine L5 (E':=[⟨0,[],.string sv⟩,⟨4,[],.slice a35 (l1.length+1) cap36⟩,⟨5,[],.int .i64 (((i:Nat):Int)+2)⟩]) kr (L5 (E':=[⟨0,[],.string sv⟩,⟨4,[],.slice a35 ((l1++[d]).length) cap36⟩,⟨5,[],.int .i64 (((i:Nat):Int)+2)⟩]) (by rw [hln]) ?_)
        refine C9 (H':=(g33::H)) (fun w h=>((h.erase 1).erase 0)) (D8 (s':=(a35,cap36,g33,(l1++[d]),i+2)) [0,4,5] kr rfl ⟨(I4 hO34 hln (by dsimp only; first | exact (Go.Sha.u8s_append _ _).symm | (rw [Go.Sha.u8s_append]; rfl))),(by dsimp only; omega),(by dsimp only; simp only [List.length_append,List.length_cons,List.length_nil]; omega),(by dsimp only; rw [hT,hun]; exact map_app rfl)⟩ (by dsimp only; omega))
       ·
        simp only [decide_eq_false_iff_not,ge_iff_le] at hc30
        have hno:¬ 0≤G5 ((sv.extract i sv.size).data.toList.getD 1 0):=by omega
        have hu1:=M4 (sv.extract i sv.size).data.toList
        have hD2:(sv.extract i sv.size).data.toList.drop 6=(sv.extract (i+6) sv.size).data.toList:=by rw [F4,F4,List.drop_drop]
        have hu2:=M4 (sv.extract (i+6) sv.size).data.toList
        refine A7 (A0 ?_)
        refine A1 (A2 ?_)
        refine A6 (j:=2) [0,0] (k:=E8 (ch:=[]) (s:=sv) (vl:=(some (.int .i64 ((i:Nat):Int)))) (vh:=none) (l:=((i:Nat):Int)) (h:=(sv.size:Int)) (hb:=(fun _=>by omega)) (k:=?_))
        refine G4 Tryz.func39 (runit_ (sv.extract i sv.size) (by (try rw [F8]); omega) _ _) (B0 [0] [0,4,5,10] (k:=?_))
        refine A0 (A1 ?_)
        have hw40:IntKind.wrap .i64 (((i:Nat):Int)+6)=((i:Nat):Int)+6:=w64 (by omega) (by omega)
        refine A2 (C1 (E':=[⟨98,[],.int .i64 (((i:Nat):Int)+6)⟩,⟨0,[],.string sv⟩,⟨4,[],.slice ra l1.length rc⟩,⟨5,[],.int .i64 ((i:Nat):Int)⟩,⟨10,[],.int .i64 (C5 (sv.extract i sv.size).data.toList)⟩]) [0,0] (Eq.trans (b:=some [⟨98,[],.int .i64 (IntKind.wrap .i64 (((i:Nat):Int)+6))⟩,⟨0,[],.string sv⟩,⟨4,[],.slice ra l1.length rc⟩,⟨5,[],.int .i64 ((i:Nat):Int)⟩,⟨10,[],.int .i64 (C5 (sv.extract i sv.size).data.toList)⟩]) kr (by simp only [hw40])) (j:=2) rfl ?_)
        refine C8 (E':=[⟨98,[],.int .i64 ((i+6:Nat):Int)⟩,⟨0,[],.string sv⟩,⟨4,[],.slice ra l1.length rc⟩,⟨5,[],.int .i64 ((i:Nat):Int)⟩,⟨10,[],.int .i64 (C5 (sv.extract i sv.size).data.toList)⟩]) (by rw [Int.natCast_add]; rfl) (B0 [0] [0,4,5,10] (k:=?_))
        refine A0 (A1 ?_)
        refine A1 (G_p [0,0,0,0,0,6] [0,4,5,10,104] (k:=?_))
        refine A0 (B1 (b:=(decide ((C5 (sv.extract i sv.size).data.toList) ≥ 55296))&&(decide ((C5 (sv.extract i sv.size).data.toList)<56320))) kr (fun hc41=>?_) (fun hc41=>?_))
        ·
         simp only [Bool.and_eq_true,decide_eq_true_eq,ge_iff_le] at hc41
         have h6:=dj_six hlt (by omega)
         refine A1 (B3 (E':=[⟨0,[],.string sv⟩,⟨4,[],.slice ra l1.length rc⟩,⟨5,[],.int .i64 ((i+6:Nat):Int)⟩,⟨10,[],.int .i64 (C5 (sv.extract i sv.size).data.toList)⟩,⟨11,[],.int .i64 (-1)⟩]) [0] [0,4,5,10,11] (k:=?_))
         refine A0 (A1 ?_)
         refine A1 (G_p [0,0,0,0] [0,4,5,10,11,108] (k:=?_))
         refine A0 (B1 (b:=decide (((i+6:Nat):Int)≤(sv.size:Int))) kr (fun hc42=>?_) (fun hc42=>?_))
         ·
          simp only [decide_eq_true_eq] at hc42
          refine A2 (A6 (j:=2) [0,0] (k:=?_))
          refine E8 (ch:=[]) (s:=sv) (vl:=(some (.int .i64 ((i+6:Nat):Int)))) (vh:=none) (l:=((i+6:Nat):Int)) (h:=(sv.size:Int)) (hb:=(fun _=>by omega)) (k:=C8 (E':=[⟨111,[],.string (sv.extract (i+6) sv.size)⟩,⟨110,[],.int .i64 ((i+6:Nat):Int)⟩,⟨109,[],.string sv⟩,⟨0,[],.string sv⟩,⟨4,[],.slice ra l1.length rc⟩,⟨5,[],.int .i64 ((i+6:Nat):Int)⟩,⟨10,[],.int .i64 (C5 (sv.extract i sv.size).data.toList)⟩,⟨11,[],.int .i64 (-1)⟩,⟨108,[],.bool (decide (((i+6:Nat):Int)≤(sv.size:Int)))⟩]) (by have hz:([⟨111,[],.string (sv.extract (Int.toNat ((i+6:Nat):Int)) sv.size)⟩,⟨110,[],.int .i64 ((i+6:Nat):Int)⟩,⟨109,[],.string sv⟩,⟨0,[],.string sv⟩,⟨4,[],.slice ra l1.length rc⟩,⟨5,[],.int .i64 ((i+6:Nat):Int)⟩,⟨10,[],.int .i64 (C5 (sv.extract i sv.size).data.toList)⟩,⟨11,[],.int .i64 (-1)⟩,⟨108,[],.bool (decide (((i+6:Nat):Int)≤(sv.size:Int)))⟩]:List Sl)=[⟨111,[],.string (sv.extract (i+6) sv.size)⟩,⟨110,[],.int .i64 ((i+6:Nat):Int)⟩,⟨109,[],.string sv⟩,⟨0,[],.string sv⟩,⟨4,[],.slice ra l1.length rc⟩,⟨5,[],.int .i64 ((i+6:Nat):Int)⟩,⟨10,[],.int .i64 (C5 (sv.extract i sv.size).data.toList)⟩,⟨11,[],.int .i64 (-1)⟩,⟨108,[],.bool (decide (((i+6:Nat):Int)≤(sv.size:Int)))⟩]:=(by rw [Int.toNat_natCast]); exact Eq.trans kr hz) ?_)
          refine G4 Tryz.func39 (runit_ (sv.extract (i+6) sv.size) (by (try rw [F8]); omega) _ _) (B0 [0] [0,4,5,10,11] (k:=?_))
          refine A0 (A1 ?_)
          refine A1 (G_p [0,0,0,0,0,5] [0,4,5,10,11,118] (k:=?_))
          refine A0 (B1 (b:=(decide ((C5 (sv.extract (i+6) sv.size).data.toList)<56320))||(decide ((C5 (sv.extract (i+6) sv.size).data.toList) > 57343))) kr (fun hc43=>?_) (fun hc43=>?_))
          ·
           simp only [Bool.or_eq_true,decide_eq_true_eq,gt_iff_lt] at hc43
           have hbad:ujL (sv.data.toList.drop i)=none:=by rw [hD]; exact (djC hL h92).1 (by rw [dj_pairN hl2 hno (by omega) (by rw [hD2]; omega)]; decide)
           refine A1 (G_p [0,0] [2,3] (k:=?_))
           refine A0 (B6 ?_)
           refine A3 (A3 ?_)
           refine A9 (A3 ?_)
           refine A9 (A3 ?_)
           refine C9 (H':=H) (fun w h=>((h.erase 1).erase 0)) (B5 [.tmp 2,.tmp 3] [.string (ByteArray.mk #[]),.bool false] (k:=?_))
           exact ⟨by rw [hT,hbad]; rfl,rfl⟩
          ·
           simp only [Bool.or_eq_false_iff,decide_eq_false_iff_not,gt_iff_lt] at hc43
           obtain ⟨p,hpp⟩:∃ p:Int,p=(65536+((C5 (sv.extract i sv.size).data.toList) - 55296) * 1024+(C5 (sv.extract (i+6) sv.size).data.toList) - 56320):=⟨_,rfl⟩
           refine A7 (A0 ?_)
           refine A1 (A2 ?_)
           refine A6 (j:=2) [0,0] (k:=C3 120 ((C5 (sv.extract i sv.size).data.toList) - 55296) (by omega) (by omega) kr ?_)
           refine A6 (j:=3) [0] (k:=C3 121 (((C5 (sv.extract i sv.size).data.toList) - 55296) * 1024) (by omega) (by omega) kr ?_)
           refine A6 (j:=4) [0] (k:=C3 122 (65536+(((C5 (sv.extract i sv.size).data.toList) - 55296) * 1024)) (by omega) (by omega) kr ?_)
           refine A6 (j:=6) [0,0] (k:=C3 124 ((65536+(((C5 (sv.extract i sv.size).data.toList) - 55296) * 1024))+(C5 (sv.extract (i+6) sv.size).data.toList)) (by omega) (by omega) kr ?_)
           have hw48:IntKind.wrap .i64 (((65536+(((C5 (sv.extract i sv.size).data.toList) - 55296) * 1024))+(C5 (sv.extract (i+6) sv.size).data.toList)) - 56320)=((65536+(((C5 (sv.extract i sv.size).data.toList) - 55296) * 1024))+(C5 (sv.extract (i+6) sv.size).data.toList)) - 56320:=w64 (by omega) (by omega)
           refine C1 (E':=[⟨125,[],.int .i64 (((65536+(((C5 (sv.extract i sv.size).data.toList) - 55296) * 1024))+(C5 (sv.extract (i+6) sv.size).data.toList)) - 56320)⟩,⟨0,[],.string sv⟩,⟨4,[],.slice ra l1.length rc⟩,⟨5,[],.int .i64 ((i+6:Nat):Int)⟩,⟨10,[],.int .i64 (C5 (sv.extract i sv.size).data.toList)⟩]) [0] (Eq.trans (b:=some [⟨125,[],.int .i64 (IntKind.wrap .i64 (((65536+(((C5 (sv.extract i sv.size).data.toList) - 55296) * 1024))+(C5 (sv.extract (i+6) sv.size).data.toList)) - 56320))⟩,⟨0,[],.string sv⟩,⟨4,[],.slice ra l1.length rc⟩,⟨5,[],.int .i64 ((i+6:Nat):Int)⟩,⟨10,[],.int .i64 (C5 (sv.extract i sv.size).data.toList)⟩]) kr (by simp only [hw48])) (j:=7) rfl (C8 (E':=[⟨125,[],.int .i64 p⟩,⟨0,[],.string sv⟩,⟨4,[],.slice ra l1.length rc⟩,⟨5,[],.int .i64 ((i+6:Nat):Int)⟩,⟨10,[],.int .i64 (C5 (sv.extract i sv.size).data.toList)⟩]) (by rw [hpp]) ?_)
           refine B0 [0] [0,4,5,10] (k:=A0 ?_)
           have hw49:IntKind.wrap .i64 (((i+6:Nat):Int)+6)=((i+6:Nat):Int)+6:=w64 (by omega) (by omega)
           refine A2 (C1 (E':=[⟨127,[],.int .i64 (((i+6:Nat):Int)+6)⟩,⟨0,[],.string sv⟩,⟨4,[],.slice ra l1.length rc⟩,⟨5,[],.int .i64 ((i+6:Nat):Int)⟩,⟨10,[],.int .i64 p⟩]) [0,0] (Eq.trans (b:=some [⟨127,[],.int .i64 (IntKind.wrap .i64 (((i+6:Nat):Int)+6))⟩,⟨0,[],.string sv⟩,⟨4,[],.slice ra l1.length rc⟩,⟨5,[],.int .i64 ((i+6:Nat):Int)⟩,⟨10,[],.int .i64 p⟩]) kr (by simp only [hw49])) (j:=2) rfl ?_)
           refine C8 (E':=[⟨127,[],.int .i64 ((i+12:Nat):Int)⟩,⟨0,[],.string sv⟩,⟨4,[],.slice ra l1.length rc⟩,⟨5,[],.int .i64 ((i+6:Nat):Int)⟩,⟨10,[],.int .i64 p⟩]) (by rw [Int.natCast_add,Int.natCast_add,Int.add_assoc]; rfl) (B0 [0] [0,4,5,10] (k:=?_))
           refine A0 (A1 ?_)
           refine A1 (A2 ?_)
           refine A6 (j:=1) [0] (k:=G4 Tryz.func40 (is_ p _ _) ?_)
           refine B8 (E':=[⟨0,[],.string sv⟩,⟨4,[],.slice ra l1.length rc⟩,⟨5,[],.int .i64 ((i+12:Nat):Int)⟩,⟨10,[],.int .i64 p⟩,⟨130,[],.bool (!(isB p))⟩]) [0] [0,4,5,10,130] (k:=A0 ?_)
           refine B1 (b:=!(isB p)) kr (fun hc50=>?_) (fun hc50=>?_)
           ·
            simp only [Bool.not_eq_true',isBf_iff] at hc50
            unfold isR at hc50; omega
           ·
            simp only [Bool.not_eq_false',isB_iff] at hc50
            have hisr:=hc50
            have hir:=hisr.1
            have hel:=N4 p
            have he:F1 (sv.extract i sv.size).data.toList=(p,12):=by rw [hpp,← hD2]; exact dj_pair hl2 hno (by omega) (by rw [hD2]; omega)
            have hdp:=dj_pos hlt he (by omega)
            have hun:ujL (sv.data.toList.drop i)=(ujL (sv.data.toList.drop (i+12))).map (Lib.encodeRune p++·):=dj_go hL h92 he (by omega)
            refine A7 (A0 ?_)
            refine A2 (A6 (j:=2) [0,0] (k:=?_))
            refine F2 Tryz.func34 (one_ p hisr _ _) ?_
            rintro _ _ ⟨ob51,rfl,rfl⟩
            refine F3 (i:=3) (ch:=[]) (t:=37) (tx:=37) (e:=5) (inf:=Tryz.t5) (s:=.slice ra l1.length rc) (x:=.slice (some ⟨ob51,0,none⟩) ((Lib.encodeRune p).length) ((Lib.encodeRune p).length)) (n:=l1.length) (m:=(Lib.encodeRune p).length) (j:=2) (cs:=(u8s l1)) (news:=(u8s (Lib.encodeRune p))) (g:=rg) (S:=(inG [(ob51,.cells (u8s (Lib.encodeRune p)).toArray 5 (0,0))])) rfl rfl rfl rfl kr kr kr rfl rfl (.inl ⟨5,kr⟩) (fun ⟨_,h⟩=>by cases h) (fun _=>⟨5,kr⟩) kr kr kr rfl hO (SrcOf.slice _ _ _ _ Rd.lit (fun h=>by cases h)) (D2 0 rfl) (by rw [show (u8s (Lib.encodeRune _)).length=_ from List.length_map _]; exact (Nat.mul_one _).symm) Go.Sha.u8_one (by omega) (by show (l1.length+(Lib.encodeRune p).length) * 1≤140737488355328; omega) (fun v52 g53 hO54=>?_)
            obtain ⟨a55,cap56,rfl,hcap57,hrd58⟩:=hO54.shape
            refine B0 [0] [0,4,5] (k:=B2 ?_)
            have hln:(l1.length+(Lib.encodeRune p).length)=(l1++(Lib.encodeRune p)).length:=by first | exact List.length_append.symm | (rw [List.length_append]; rfl)
            refine L5 (E':=[⟨0,[],.string sv⟩,⟨4,[],.slice a55 (l1.length+(Lib.encodeRune p).length) cap56⟩,⟨5,[],.int .i64 ((i+12:Nat):Int)⟩]) kr (L5 (E':=[⟨0,[],.string sv⟩,⟨4,[],.slice a55 ((l1++(Lib.encodeRune p)).length) cap56⟩,⟨5,[],.int .i64 ((i+12:Nat):Int)⟩]) (by rw [hln]) ?_)
            refine C9 (H':=(g53::H)) (fun w h=>((h.erase 1).erase 0)) (D8 (s':=(a55,cap56,g53,(l1++(Lib.encodeRune p)),i+12)) [0,4,5] kr rfl ⟨(I4 hO54 hln (by dsimp only; first | exact (Go.Sha.u8s_append _ _).symm | (rw [Go.Sha.u8s_append]; rfl))),(by dsimp only; omega),(by dsimp only; simp only [List.length_append]; omega),(by dsimp only; rw [hT,hun]; exact map_app rfl)⟩ (by dsimp only; omega))
         ·
          simp only [decide_eq_false_iff_not] at hc42
          omega
        ·
         simp only [Bool.and_eq_false_iff,decide_eq_false_iff_not,ge_iff_le] at hc41
         refine A7 (A0 ?_)
         refine A1 (A1 ?_)
         refine A2 (A6 (j:=1) [0] (k:=?_))
         refine G4 Tryz.func40 (is_ (C5 (sv.extract i sv.size).data.toList) _ _) (B8 (E':=[⟨0,[],.string sv⟩,⟨4,[],.slice ra l1.length rc⟩,⟨5,[],.int .i64 ((i+6:Nat):Int)⟩,⟨10,[],.int .i64 (C5 (sv.extract i sv.size).data.toList)⟩,⟨130,[],.bool (!(isB (C5 (sv.extract i sv.size).data.toList)))⟩]) [0] [0,4,5,10,130] (k:=?_))
         refine A0 (B1 (b:=!(isB (C5 (sv.extract i sv.size).data.toList))) kr (fun hc59=>?_) (fun hc59=>?_))
         ·
          simp only [Bool.not_eq_true',isBf_iff] at hc59
          have hbad:ujL (sv.data.toList.drop i)=none:=by rw [hD]; exact (djC hL h92).1 (dj_lo hl2 hno (by omega) hc59)
          refine A1 (G_p [0,0] [2,3] (k:=?_))
          refine A0 (B6 ?_)
          refine A3 (A9 ?_)
          refine A3 (A9 ?_)
          refine A3 (C9 (H':=H) (fun w h=>((h.erase 1).erase 0)) ?_)
          refine B5 [.tmp 2,.tmp 3] [.string (ByteArray.mk #[]),.bool false] (k:=?_)
          exact ⟨by rw [hT,hbad]; rfl,rfl⟩
         ·
          simp only [Bool.not_eq_false',isB_iff] at hc59
          have hisr:=hc59
          have hir:=hisr.1
          have hel:=N4 (C5 (sv.extract i sv.size).data.toList)
          have he:F1 (sv.extract i sv.size).data.toList=((C5 (sv.extract i sv.size).data.toList),6):=dj_hi hl2 hno (by omega) hisr
          have hdp:=dj_pos hlt he (by omega)
          have hun:ujL (sv.data.toList.drop i)=(ujL (sv.data.toList.drop (i+6))).map (Lib.encodeRune (C5 (sv.extract i sv.size).data.toList)++·):=dj_go hL h92 he (by omega)
          refine A7 (A0 ?_)
          refine A2 (A6 (j:=2) [0,0] (k:=?_))
          refine F2 Tryz.func34 (one_ (C5 (sv.extract i sv.size).data.toList) hisr _ _) ?_
          rintro _ _ ⟨ob60,rfl,rfl⟩
          refine F3 (i:=3) (ch:=[]) (t:=37) (tx:=37) (e:=5) (inf:=Tryz.t5) (s:=.slice ra l1.length rc) (x:=.slice (some ⟨ob60,0,none⟩) ((Lib.encodeRune (C5 (sv.extract i sv.size).data.toList)).length) ((Lib.encodeRune (C5 (sv.extract i sv.size).data.toList)).length)) (n:=l1.length) (m:=(Lib.encodeRune (C5 (sv.extract i sv.size).data.toList)).length) (j:=2) (cs:=(u8s l1)) (news:=(u8s (Lib.encodeRune (C5 (sv.extract i sv.size).data.toList)))) (g:=rg) (S:=(inG [(ob60,.cells (u8s (Lib.encodeRune (C5 (sv.extract i sv.size).data.toList))).toArray 5 (0,0))])) rfl rfl rfl rfl kr kr kr rfl rfl (.inl ⟨5,kr⟩) (fun ⟨_,h⟩=>by cases h) (fun _=>⟨5,kr⟩) kr kr kr rfl hO (SrcOf.slice _ _ _ _ Rd.lit (fun h=>by cases h)) (D2 0 rfl) (by rw [show (u8s (Lib.encodeRune _)).length=_ from List.length_map _]; exact (Nat.mul_one _).symm) Go.Sha.u8_one (by omega) (by show (l1.length+(Lib.encodeRune (C5 (sv.extract i sv.size).data.toList)).length) * 1≤140737488355328; omega) (fun v61 g62 hO63=>?_)
          obtain ⟨a64,cap65,rfl,hcap66,hrd67⟩:=hO63.shape
          refine B0 [0] [0,4,5] (k:=B2 ?_)
          have hln:(l1.length+(Lib.encodeRune (C5 (sv.extract i sv.size).data.toList)).length)=(l1++(Lib.encodeRune (C5 (sv.extract i sv.size).data.toList))).length:=by first | exact List.length_append.symm | (rw [List.length_append]; rfl)
          refine L5 (E':=[⟨0,[],.string sv⟩,⟨4,[],.slice a64 (l1.length+(Lib.encodeRune (C5 (sv.extract i sv.size).data.toList)).length) cap65⟩,⟨5,[],.int .i64 ((i+6:Nat):Int)⟩]) kr (L5 (E':=[⟨0,[],.string sv⟩,⟨4,[],.slice a64 ((l1++(Lib.encodeRune (C5 (sv.extract i sv.size).data.toList))).length) cap65⟩,⟨5,[],.int .i64 ((i+6:Nat):Int)⟩]) (by rw [hln]) ?_)
          refine C9 (H':=(g62::H)) (fun w h=>((h.erase 1).erase 0)) (D8 (s':=(a64,cap65,g62,(l1++(Lib.encodeRune (C5 (sv.extract i sv.size).data.toList))),i+6)) [0,4,5] kr rfl ⟨(I4 hO63 hln (by dsimp only; first | exact (Go.Sha.u8s_append _ _).symm | (rw [Go.Sha.u8s_append]; rfl))),(by dsimp only; omega),(by dsimp only; simp only [List.length_append]; omega),(by dsimp only; rw [hT,hun]; exact map_app rfl)⟩ (by dsimp only; omega))
  ·
   simp only [decide_eq_false_iff_not] at hc6
   refine F7 (A8 ?_)
   refine A8 (C2 ?_)
   refine A0 (A1 ?_)
   refine A2 (A6 (j:=1) [0] (k:=?_))
   refine GL_bytesB (ch:=[]) (a:=ra) (cap:=rc) (e:=5) (S:=(inG rg)) (bk l1) (hrd:=M7 hO) (hS:=D2 0 rfl) (k:=B0 [0,0] [2,3] (k:=?_))
   refine A0 (B6 ?_)
   refine C9 (H':=H) (fun w h=>(h.erase 0)) (B5 [.tmp 2,.tmp 3] [.string (bk l1),.bool true] (k:=?_))
   exact ⟨by rw [hT,List.drop_eq_nil_of_le (by rw [B7]; omega),ujL_nil]; show _=unjW (some (l1++[])); rw [List.append_nil]; rfl,rfl⟩
end Go.Proofs.YtbnfbffiehoapaaGreatDoor
namespace Go.Proofs.YtbnfbffiehoapaaGreatDoor
open Go.Sw Go.Sha Go.Esc Go.RowKit
theorem uj_cases {l:List UInt8} {v:Value} {H1 H:List Grp} (h:v=unjV (unjM l)∧H1=H):((∃ t,unjM l=some t∧v=.tuple #[.string (bk t),.int .i64 0])∨(unjM l=none∧v=.tuple #[.string (ByteArray.mk #[]),.int .i64 20]))∧H1=H:=by
  refine ⟨?_,h.2⟩
  have h1:=h.1
  cases hq:unjM l with
  | none=>rw [hq] at h1; exact .inr ⟨rfl,h1⟩
  | some t=>rw [hq] at h1; exact .inl ⟨t,rfl,h1⟩
theorem escUnjson_ (a:ByteArray) (W0:World) (H:List Grp) (hW:I2 W0):Tri Tryz.prog 6 #[.string a] W0 H (fun v H'=>v=.bool true∧H'=H):=by
 refine D1 (args:=[.string a]) (n:=42) Tryz.func6 rfl rfl (Nat.le_of_ble_eq_true rfl) ?_
 refine A1 (B3 (E':=[⟨0,[],.string a⟩]) [0] [0] (k:=?_))
 refine A0 (A1 ?_)
 refine A1 (A2 ?_)
 refine G4 Tryz.func9 (first_ _ _ hW) (B0 [0] [0,8] (k:=?_))
 refine A0 (D7 kr ?_)
 refine A7 (A0 ?_)
 refine A1 (A1 ?_)
 refine G_p [0,0,0] [0,11] (k:=A0 ?_)
 refine B1 (b:=decide ((a.size:Int) > 3000)) kr (fun hc1=>?_) (fun hc1=>?_)
 ·
  skip
  refine A1 (B3 (E':=[⟨2,[],.bool true⟩]) [0] [2] (k:=?_))
  refine A0 (B6 ?_)
  refine A3 (B5 [.tmp 2] [.bool true] (k:=?_))
  exact ⟨rfl,rfl⟩
 ·
  simp only [gt_iff_lt,decide_eq_false_iff_not] at hc1
  refine A7 (A0 ?_)
  refine A1 (A2 ?_)
  refine A6 (j:=1) [0] (k:=F2 (vs:=[.string a]) Tryz.func16 ((Tri.post (unjson_ a (by omega) _ _ hW) fun v H1 h=>⟨H1,uj_cases h,fun _ h=>h⟩)) ?_)
  rintro _ _ ⟨⟨t,hV,rfl⟩ | ⟨hV,rfl⟩,rfl⟩
  ·
   refine B0 [0,0,0,0,0] [0,3,4] (k:=A0 ?_)
   refine A1 (A2 ?_)
   refine A6 (j:=1) [0] (k:=G4 (vs:=[.string a]) Tryz.func17 ((Tri.post (runjson_ a (by omega) _ _) fun v H1 h=>⟨H1,by rw [hV] at h; exact h,fun _ h=>h⟩)) ?_)
   refine B0 [0,0,0,0,0] [3,4,5,6] (k:=A0 ?_)
   refine A1 (G_p [0,0,0,0,0,0,0,0,6,0,0,0,1,1,1,1,1,1,2,6,0] [2] (k:=?_))
   refine A0 (B6 ?_)
   refine B5 [.tmp 2] [.bool ((((bk t).toList==(bk t).toList)&&true)&&true)] (k:=?_)
   exact ⟨congrArg Value.bool (by rw [(eqB _ _).2 rfl]; rfl),rfl⟩
  ·
   refine B0 [0,0,0,0,0] [0,3,4] (k:=A0 ?_)
   refine A1 (A2 ?_)
   refine A6 (j:=1) [0] (k:=G4 (vs:=[.string a]) Tryz.func17 ((Tri.post (runjson_ a (by omega) _ _) fun v H1 h=>⟨H1,by rw [hV] at h; exact h,fun _ h=>h⟩)) ?_)
   refine B0 [0,0,0,0,0] [3,4,5,6] (k:=A0 ?_)
   refine A1 (G_p [0,0,0,0,0,0,0,0,6,0,0,0,0,0,0,0,0,2,3,6,0] [2] (k:=?_))
   refine A0 (B6 ?_)
   refine B5 [.tmp 2] [.bool ((((ByteArray.mk #[]).toList==(ByteArray.mk #[]).toList)&&true)&&((ByteArray.mk #[]).toList==(ByteArray.mk #[]).toList))] (k:=?_)
   exact ⟨congrArg Value.bool (by rw [(eqB _ _).2 rfl]; rfl),rfl⟩
end Go.Proofs.YtbnfbffiehoapaaGreatDoor
namespace Go.Proofs.YtbnfbffiehoapaaGreatDoor
theorem escRoots:True:=by
  -- escHtml_ escJson_ escBack_ escUnhtml_ escUnjson_ base_of sat_nil post_below ok_one okWide_bool_mk shut_bool trodAll_mk1
  trivial
end Go.Proofs.YtbnfbffiehoapaaGreatDoor
