/- What the laws of XML's reading stand on. (and what it stands on) -/
import Derived.Test.YtppgfiklmfoaeaaGreatDoorZ5
namespace Go.Proofs.YtppgfiklmfoaeaaGreatDoor
open Go.Sw Go.Sha Go.Esc Go.RowKit Go.Json Go.Xml
theorem rd_cut3 {S:Nat→Obj→Prop} {a:Option Addr} {l:List UInt8} (h:Rd S a (u8s l)):Rd S a (u8s (l.take 3)):=by
  have h1:=rd_take h 3
  rwa [show (u8s l).take 3=u8s (l.take 3) from by unfold u8s; rw [List.map_take]] at h1
structure RmkI (k:Nat) (A B:ByteArray):Prop where
  a:Amb A.data.toList
  b:Amb B.data.toList
  la:A.size≤10 * k
  lb:B.size≤10 * k
  hd:A.data.toList=[]∨A.data.toList.head?≠some 239
theorem rmkI_0:RmkI 0 eB eB:=⟨Amb.nil,Amb.nil,Nat.le_refl _,Nat.le_refl _,.inl rfl⟩
theorem rmk_h (i:Nat):(rmks.getD i []).head?≠some 239:=by
  match i with
  | 0=>decide
  | 1=>decide
  | 2=>decide
  | 3=>decide
  | 4=>decide
  | i+5=>intro h; cases h
theorem rmkI_s {k:Nat} {A B x:ByteArray} (i:Nat) (h:RmkI k A B) (hx:x=bk (rmks.getD i [])):RmkI (k+1) (A++x) (x++B):=by
  subst hx
  have hl:=rmk_len i
  have hz:=D9 (rmks.getD i [])
  refine ⟨?_,?_,?_,?_,?_⟩
  · rw [J4]; exact h.a.app (rmk_amb i)
  · rw [J4]; exact (rmk_amb i).app h.b
  · have:=h.la; rw [ByteArray.size_append,hz]; omega
  · have:=h.lb; rw [ByteArray.size_append,hz]; omega
  · rw [J4]
    rcases h.hd with h0 | h0
    · rw [h0,List.nil_append]; exact .inr (rmk_h i)
    · cases hA:A.data.toList with
      | nil=>rw [List.nil_append]; exact .inr (rmk_h i)
      | cons b u=>rw [hA] at h0; exact .inr h0
theorem bom3 {l:List UInt8} (h:¬ l.take 3=[239,187,191]):¬ [239,187,191].isPrefixOf l=true:=by
  intro h9; apply h
  obtain ⟨t,rfl⟩:=List.isPrefixOf_iff_prefix.1 h9
  rfl
theorem bom3_s {l:List UInt8} (h:l.length<3):¬ [239,187,191].isPrefixOf l=true:=by
  intro h9
  have:=(List.isPrefixOf_iff_prefix.1 h9).length_le
  simp only [List.length_cons,List.length_nil] at this; omega
theorem rmk_at (k:Nat):([.string (mB #[32]),.string (mB #[60,33,45,45,32,114,32,45,45,62]),.string (mB #[60,63,105,32,100,63,62]),.string (mB #[10]),.string (mB #[60,33,45,45,45,45,62])]:List Value)[(Int.toNat (((k:Nat):Int) % 5)) * 1]? = some (.string (bk (rmks.getD (k % 5) []))):=by
  rw [Nat.mul_one,show Int.toNat (((k:Nat):Int) % 5)=k % 5 by omega]
  rcases (show k % 5=0∨k % 5=1∨k % 5=2∨k % 5=3∨k % 5=4 by omega) with h | h | h | h | h <;> (rw [h]; rfl)
structure RmkA (l:List UInt8) (A:ByteArray):Prop where
  a:Amb A.data.toList
  la:A.size≤200
  hd:A.data.toList=[]∨(A.data.toList.head?≠some 239∧¬ [239,187,191].isPrefixOf l=true)
theorem rmkX {l:List UInt8} {A B:ByteArray} (hA:RmkA l A) (hB:Amb B.data.toList) (lb:B.size≤200) (hl:l.length≤3000) (he:(D8 l).2=0):D8 (((A++bk l)++B).data.toList)=((D8 l).1,0):=by
  rw [J4,J4,par_ok,par_ok]
  rw [par_ok] at he
  have h1:A.data.toList.length=A.size:=Array.length_toList
  have h2:B.data.toList.length=B.size:=Array.length_toList
  have:=hA.la
  exact rmk_law (l:=l) (x:=(parE l).1) (by rw [← he]) hA.a hB (by show (A.data.toList++l++B.data.toList).length≤_; rw [List.length_append,List.length_append]; omega) hA.hd
theorem rmkY {l:List UInt8} (hl:l.length≤3000) (he:(D8 l).2=0):D8 ((bk l++ByteArray.mk #[60,122,47,62]).data.toList)=((D8 ((bk l++ByteArray.mk #[60,122,47,62]).data.toList)).1,70):=by
  have h:(D8 ((bk l++ByteArray.mk #[60,122,47,62]).data.toList)).2=70:=by
    rw [J4,par_ok]
    rw [par_ok] at he
    exact rmk_second (l:=l) (x:=(parE l).1) (by rw [← he]) (by omega)
  rw [← h]
theorem xmlRemarks_ (a:Option Addr) (c:Nat) (l:List UInt8) (S:Nat→Obj→Prop) (hrd:Rd S a (u8s l)) (hcap:l.length≤c) (n:Int) (hn0:0≤n) (_:n≤255) (W0:World) (H:List Grp) (hS:∀ y o,S y o→At W0 H y o) (hX:R2 W0):Tri Tryz.prog 13 #[.slice a l.length c,.int .u8 n] W0 H (fun v H'=>v=.bool true∧H'=H):=by
 obtain ⟨a3,ha3⟩:∃ a3,a3=a:=⟨_,rfl⟩
 refine D0 (args:=[.slice a l.length c,.int .u8 n]) (n:=84) Tryz.func13 rfl rfl (Nat.le_of_ble_eq_true rfl) ?_
 refine A1 (G_p [0] [0,1] (k:=?_))
 refine A0 (A1 ?_)
 refine A1 (A3 ?_)
 refine M5 Tryz.func28 (firstX_ _ _ hX) (B1 [0] [0,1,16] (k:=?_))
 refine A0 (D3 kr ?_)
 refine B4 (A0 ?_)
 refine A1 (A1 ?_)
 refine G_p [0,0,0] [0,1,19] (k:=A0 ?_)
 refine B7 (b:=decide (((l.length:Nat):Int) > 3000)) kr (fun hc1=>?_) (fun hc1=>?_)
 ·
  simp only [decide_eq_true_eq,gt_iff_lt] at hc1
  refine A1 (C3 (E':=[⟨4,[],.bool true⟩]) [0] [4] (k:=?_))
  refine A0 (C5 ?_)
  refine B2 (B9 [.tmp 4] [.bool true] (k:=?_))
  exact ⟨rfl,rfl⟩
 ·
  simp only [decide_eq_false_iff_not,gt_iff_lt] at hc1
  refine B4 (A0 ?_)
  refine A1 (G_p [0,0] [0,1,5,6] (k:=?_))
  refine A0 (A1 ?_)
  refine A1 (A3 ?_)
  refine G5 (E':=[⟨21,[],.int .u8 (Int.tmod n 9)⟩,⟨0,[],.slice a l.length c⟩,⟨5,[],.string eB⟩,⟨6,[],.string eB⟩]) (j:=2) [0,0] (k:=F0 (E':=[⟨21,[],.int .u8 (n % 9)⟩,⟨0,[],.slice a l.length c⟩,⟨5,[],.string eB⟩,⟨6,[],.string eB⟩]) (by rw [r64 hn0]) ?_)
  refine A4 (j:=3) [0] (k:=F6 22 (n % 9) (by omega) (by omega) kr ?_)
  refine B1 [0] [0,5,6,22,23] (k:=A0 ?_)
  refine B8 (L4 (EI:=(fun ξ:Nat × ByteArray × ByteArray=>[⟨0,[],.slice a l.length c⟩,⟨5,[],.string ξ.2.1⟩,⟨6,[],.string ξ.2.2⟩,⟨22,[],.int .i64 (n % 9)⟩,⟨23,[],.int .i64 ((ξ.1:Nat):Int)⟩])) (HI:=(fun ξ:Nat × ByteArray × ByteArray=>H)) (Φ:=(fun ξ:Nat × ByteArray × ByteArray=>(ξ.1≤9)∧(RmkI ξ.1 ξ.2.1 ξ.2.2))) (μ:=(fun ξ:Nat × ByteArray × ByteArray=>9 - ξ.1)) (s0:=(0,eB,eB)) [0,5,6,22,23] kr rfl ⟨(by dsimp only; omega),rmkI_0⟩ ?_)
  rintro ⟨k,A,B⟩ ⟨hk,hI⟩
  dsimp only at hk hI
  have hla:=hI.la
  have hlb:=hI.lb
  have hrl:=rmk_len (k % 5)
  refine A1 (G_p [0] [0,5,6,22,23,24] (k:=?_))
  refine A0 (A1 ?_)
  refine B7 (b:=decide (((k:Nat):Int)<(n % 9))) kr (fun hc3=>?_) (fun hc3=>?_)
  ·
   simp only [decide_eq_true_eq] at hc3
   refine B4 (A0 ?_)
   refine A1 (B8 ?_)
   refine A1 (G_p [0,0] [0,5,6,7,22,23] (k:=?_))
   refine A0 (A1 ?_)
   refine A3 (D5 (ch:=[]) (e:=9) (l:=[(0,.string (mB #[32])),(1,.string (mB #[60,33,45,45,32,114,32,45,45,62])),(2,.string (mB #[60,63,105,32,100,63,62])),(3,.string (mB #[10])),(4,.string (mB #[60,33,45,45,45,45,62]))]) (c:=[.string (mB #[32]),.string (mB #[60,33,45,45,32,114,32,45,45,62]),.string (mB #[60,63,105,32,100,63,62]),.string (mB #[10]),.string (mB #[60,33,45,45,45,45,62])]) (k:=(fun b4=>?_)))
   refine A4 (j:=3) [0,0] (k:=?_)
   have hw5:Int.tmod ((k:Nat):Int) 5=((k:Nat):Int) % 5:=r64 (by omega)
   refine GL_w 28 hw5 kr (A9 (ch:=[]) (a:=(some ⟨b4,0,none⟩)) (len:=5) (cap:=5) (kd:=.i64) (j:=((k:Nat):Int) % 5) (e:=9) (sz:=1) (S:=(inG [(b4,.cells #[.string (mB #[32]),.string (mB #[60,33,45,45,32,114,32,45,45,62]),.string (mB #[60,63,105,32,100,63,62]),.string (mB #[10]),.string (mB #[60,33,45,45,45,45,62])] 9 (0,0))])) (cs:=[.string (mB #[32]),.string (mB #[60,33,45,45,32,114,32,45,45,62]),.string (mB #[60,63,105,32,100,63,62]),.string (mB #[10]),.string (mB #[60,33,45,45,45,45,62])]) (hrd:=Rd.lit) (hb:=(fun _=>by exact ⟨by omega,by omega,by simp⟩)) (k:=?_))
   refine F4 (ch:=[]) (a:=(some ⟨b4,0,none⟩)) (q:=(Int.toNat (((k:Nat):Int) % 5)) * 1) (S:=(inG [(b4,.cells #[.string (mB #[32]),.string (mB #[60,33,45,45,32,114,32,45,45,62]),.string (mB #[60,63,105,32,100,63,62]),.string (mB #[10]),.string (mB #[60,33,45,45,45,45,62])] 9 (0,0))])) (cs:=[.string (mB #[32]),.string (mB #[60,33,45,45,32,114,32,45,45,62]),.string (mB #[60,63,105,32,100,63,62]),.string (mB #[10]),.string (mB #[60,33,45,45,45,45,62])]) (v:=.string (bk (rmks.getD (k % 5) []))) (hrd:=Rd.lit) (hS:=D4 0 rfl) (hv:=(fun _=>(rmk_at k))) (k:=B1 [0] [0,5,6,8,22,23] (k:=?_))
   refine A0 (A3 ?_)
   refine A4 (j:=2) [0,0] (k:=I9 (ch:=[]) (s:=A) (u:=(bk (rmks.getD (k % 5) []))) (hb:=(fun _=>by (try simp only [D9]); omega)) (k:=?_))
   refine A4 (j:=5) [0,0] (k:=I9 (ch:=[]) (s:=(bk (rmks.getD (k % 5) []))) (u:=B) (hb:=(fun _=>by (try simp only [D9]); omega)) (k:=?_))
   refine B1 [0,0] [0,5,6,22,23] (k:=C6 ?_)
   refine A0 (A3 ?_)
   refine A4 (j:=1) [0] (k:=F6 37 (((k:Nat):Int)+1) (by omega) (by omega) kr ?_)
   refine B1 [0] [0,5,6,22,23] (k:=C1 (H':=H) (fun w h=>(h.erase 0)) ?_)
   refine E9 (s':=((k+1),A++(bk (rmks.getD (k % 5) [])),(bk (rmks.getD (k % 5) []))++B)) [0,5,6,22,23] kr rfl ⟨(by dsimp only; omega),(rmkI_s (k % 5) hI rfl)⟩ (by dsimp only; omega)
  ·
   simp only [decide_eq_false_iff_not] at hc3
   refine H7 (B0 ?_)
   refine B0 (C7 ?_)
   refine A0 (A1 ?_)
   refine A1 ?_
   by_cases h3:3≤l.length
   ·
    have h31:=h3
    refine A3 (G5 (E':=[⟨40,[],.bool (decide (((l.length:Nat):Int) ≥ 3))⟩,⟨0,[],.slice a l.length c⟩,⟨5,[],.string A⟩,⟨6,[],.string B⟩]) (j:=3) [0,0,0] (k:=?_))
    refine F0 (E':=[⟨40,[],.bool true⟩,⟨0,[],.slice a l.length c⟩,⟨5,[],.string A⟩,⟨6,[],.string B⟩]) (by rw [show decide (((l.length:Nat):Int) ≥ 3)=true from decide_eq_true (by omega)]) (A4 (j:=5) [0,0] (k:=?_))
    refine GL_sliceL (ch:=[(41,true)]) (a:=a) (len:=l.length) (cap:=c) (e:=5) (sz:=1) (vl:=none) (vh:=(some (.int .i64 3))) (l:=0) (h:=3) (hb:=(fun hc=>by (try intro _); (repeat' apply And.intro) <;> omega)) (k:=F0 (E':=[⟨43,[(41,true)],.slice a3 ((l.take 3).length) c⟩,⟨42,[(41,true)],.slice a l.length c⟩,⟨41,[],.bool true⟩,⟨40,[],.bool true⟩,⟨0,[],.slice a l.length c⟩,⟨5,[],.string A⟩,⟨6,[],.string B⟩]) (by have hz:([⟨43,[(41,true)],.slice (cutA a c 0 1) (3 - 0) (c - 0)⟩,⟨42,[(41,true)],.slice a l.length c⟩,⟨41,[],.bool true⟩,⟨40,[],.bool true⟩,⟨0,[],.slice a l.length c⟩,⟨5,[],.string A⟩,⟨6,[],.string B⟩]:List Sl)=[⟨43,[(41,true)],.slice a3 ((l.take 3).length) c⟩,⟨42,[(41,true)],.slice a l.length c⟩,⟨41,[],.bool true⟩,⟨40,[],.bool true⟩,⟨0,[],.slice a l.length c⟩,⟨5,[],.string A⟩,⟨6,[],.string B⟩]:=(by rw [cutA_z,← ha3,show (l.take 3).length=3 from List.length_take_of_le h3]; rfl); exact Eq.trans kr hz) ?_)
    refine T0 (ch:=[(41,true)]) (a:=a3) (cap:=c) (e:=5) (S:=S) (bk (l.take 3)) (hrd:=ha3 ▸ rd_cut3 hrd) (hS:=(fun y o h=>hS y o h)) (k:=B1 [0,2] [0,5,6,46] (k:=?_))
    refine A0 (Q7 (T:=ByteArray) (fun ξ:ByteArray=>[⟨0,[],.slice a l.length c⟩,⟨5,[],.string ξ⟩,⟨6,[],.string B⟩]) (fun ξ:ByteArray=>H) (fun ξ:ByteArray=>(RmkA l ξ)) ?_ ?_)
    ·
     refine B7 (b:=(bk (l.take 3)).toList==(mB #[239,187,191]).toList) kr (fun hc7=>?_) (fun hc7=>?_)
     ·
      skip
      refine G_p [0] [0,5,6] (k:=H0 (eB) [0,5,6] kr (fun w h=>h) ⟨Amb.nil,Nat.zero_le _,.inl rfl⟩)
     ·
      have hbom:¬ [239,187,191].isPrefixOf l=true:=bom3 ((eqBf (bk (l.take 3)) (mB #[239,187,191])).1 hc7)
      refine B4 (H0 (A) [0,5,6] kr (fun w h=>h) ⟨hI.a,by have:=hI.la; omega,hI.hd.imp id (fun h=>⟨h,hbom⟩)⟩)
    ·
     rintro A2 hA2
     try dsimp only at hA2
     have hla2:=hA2.la
     have hbz:=D9 l
     refine A0 (A1 ?_)
     refine A3 (A4 (j:=1) [0] (k:=?_))
     refine E7 Tryz.func29 (xparseV a c l S hrd ((D8 l).1) ((D8 l).2) rfl _ _ (fun y o h=>hS y o h) hX) ?_
     rintro _ _ ⟨c8,gp8,hJ8,rfl,rfl⟩
     obtain ⟨van8,vcn8,val8,vcl8,rfl⟩:=hJ8.shape
     refine A4 (j:=5) [0,0,0] (k:=H5 (ch:=[]) (z:=.agg zN.toArray) (k:=(fun b9=>?_)))
     refine E2 (ch:=[]) (b:=b9) (off:=0) (v:=.agg #[.string (bk (D8 l).1.space),.string (bk (D8 l).1.name),.slice van8 ((D8 l).1.attrs.length) vcn8,.slice val8 ((D8 l).1.kids.length) vcl8,.string (bk (D8 l).1.text)]) (j:=0) ([(b9,.cells #[.string (bk (D8 l).1.space),.string (bk (D8 l).1.name),.slice van8 ((D8 l).1.attrs.length) vcn8,.slice val8 ((D8 l).1.kids.length) vcl8,.string (bk (D8 l).1.text)] 55 (0,0))]::gp8::H) (hoff:=Nat.le_of_ble_eq_true rfl) (hfz:=(fun _ _=>E0)) (k:=B1 [0] [0,5,6,9,10] (k:=?_))
     refine A0 (A1 ?_)
     refine A1 (G_p [0,0] [0,5,6,9,53] (k:=?_))
     refine A0 (B7 (b:=((D8 l).2) != 0) kr (fun hc10=>?_) (fun hc10=>?_))
     ·
      skip
      refine A1 (C3 (E':=[⟨4,[],.bool true⟩]) [0] [4] (k:=?_))
      refine A0 (C5 ?_)
      refine B2 (C1 (H':=H) (fun w h=>((h.erase 1).erase 0)) ?_)
      refine B9 [.tmp 4] [.bool true] (k:=?_)
      exact ⟨rfl,rfl⟩
     ·
      have he:(D8 l).2=0:=by simpa using hc10
      refine B4 (A0 ?_)
      refine A1 (A3 ?_)
      refine A4 (j:=2) [0,0] (k:=T0 (ch:=[]) (a:=a) (cap:=c) (e:=5) (S:=S) (bk l) (hrd:=hrd) (hS:=(fun y o h=>At.cons (At.cons (hS y o h)))) (k:=?_))
      refine I9 (ch:=[]) (s:=A2) (u:=(bk l)) (hb:=(fun _=>by (try simp only [D9]); omega)) (k:=A4 (j:=5) [0] (k:=?_))
      refine I9 (ch:=[]) (s:=A2++(bk l)) (u:=B) (hb:=(fun _=>by (try simp only [ByteArray.size_append,D9]); omega)) (k:=K4 (ch:=[]) (src:=9) (dst:=22) (e:=5) (s:=(A2++(bk l))++B) (k:=(fun b11 cap12 g13 hcap14 hrd15=>?_)))
      refine E7 Tryz.func29 (xparseV (some ⟨b11,0,none⟩) cap12 (((A2++(bk l))++B).data.toList) (inG g13) hrd15 ((D8 l).1) 0 (rmkX hA2 hI.b (by have:=hI.lb; omega) (by omega) he) _ _ (D4 0 rfl) hX) ?_
      rintro _ _ ⟨c16,gp16,hJ16,rfl,rfl⟩
      obtain ⟨van16,vcn16,val16,vcl16,rfl⟩:=hJ16.shape
      refine A4 (j:=11) [0,0,0] (k:=H5 (ch:=[]) (z:=.agg zN.toArray) (k:=(fun b17=>?_)))
      refine E2 (ch:=[]) (b:=b17) (off:=0) (v:=.agg #[.string (bk (D8 l).1.space),.string (bk (D8 l).1.name),.slice van16 ((D8 l).1.attrs.length) vcn16,.slice val16 ((D8 l).1.kids.length) vcl16,.string (bk (D8 l).1.text)]) (j:=0) ([(b17,.cells #[.string (bk (D8 l).1.space),.string (bk (D8 l).1.name),.slice van16 ((D8 l).1.attrs.length) vcn16,.slice val16 ((D8 l).1.kids.length) vcl16,.string (bk (D8 l).1.text)] 55 (0,0))]::gp16::g13::[(b9,.cells #[.string (bk (D8 l).1.space),.string (bk (D8 l).1.name),.slice van8 ((D8 l).1.attrs.length) vcn8,.slice val8 ((D8 l).1.kids.length) vcl8,.string (bk (D8 l).1.text)] 55 (0,0))]::gp8::H) (hoff:=Nat.le_of_ble_eq_true rfl) (hfz:=(fun _ _=>E0)) (k:=B1 [0] [0,9,11,12] (k:=?_))
      refine A0 (A1 ?_)
      refine A3 (A4 (j:=1) [0] (k:=?_))
      refine T0 (ch:=[]) (a:=a) (cap:=c) (e:=5) (S:=S) (bk l) (hrd:=hrd) (hS:=(fun y o h=>At.cons (At.cons (At.cons (At.cons (At.cons (hS y o h))))))) (k:=I9 (ch:=[]) (s:=(bk l)) (u:=(mB #[60,122,47,62])) (hb:=(fun _=>by (try simp only [D9,List.length_cons,List.length_nil]); omega)) (k:=?_))
      refine K4 (ch:=[]) (src:=9) (dst:=22) (e:=5) (s:=(bk l)++(mB #[60,122,47,62])) (k:=(fun b18 cap19 g20 hcap21 hrd22=>?_))
      refine E7 Tryz.func29 (xparseV (some ⟨b18,0,none⟩) cap19 (((bk l)++(mB #[60,122,47,62])).data.toList) (inG g20) hrd22 ((D8 ((bk l++ByteArray.mk #[60,122,47,62]).data.toList)).1) 70 (rmkY (by omega) he) _ _ (D4 0 rfl) hX) ?_
      rintro _ _ ⟨c23,gp23,hJ23,rfl,rfl⟩
      obtain ⟨van23,vcn23,val23,vcl23,rfl⟩:=hJ23.shape
      refine A4 (j:=8) [0,0,0] (k:=H5 (ch:=[]) (z:=.agg zN.toArray) (k:=(fun b24=>?_)))
      refine E2 (ch:=[]) (b:=b24) (off:=0) (v:=.agg #[.string (bk (D8 ((bk l++ByteArray.mk #[60,122,47,62]).data.toList)).1.space),.string (bk (D8 ((bk l++ByteArray.mk #[60,122,47,62]).data.toList)).1.name),.slice van23 ((D8 ((bk l++ByteArray.mk #[60,122,47,62]).data.toList)).1.attrs.length) vcn23,.slice val23 ((D8 ((bk l++ByteArray.mk #[60,122,47,62]).data.toList)).1.kids.length) vcl23,.string (bk (D8 ((bk l++ByteArray.mk #[60,122,47,62]).data.toList)).1.text)]) (j:=0) ([(b24,.cells #[.string (bk (D8 ((bk l++ByteArray.mk #[60,122,47,62]).data.toList)).1.space),.string (bk (D8 ((bk l++ByteArray.mk #[60,122,47,62]).data.toList)).1.name),.slice van23 ((D8 ((bk l++ByteArray.mk #[60,122,47,62]).data.toList)).1.attrs.length) vcn23,.slice val23 ((D8 ((bk l++ByteArray.mk #[60,122,47,62]).data.toList)).1.kids.length) vcl23,.string (bk (D8 ((bk l++ByteArray.mk #[60,122,47,62]).data.toList)).1.text)] 55 (0,0))]::gp23::g20::[(b17,.cells #[.string (bk (D8 l).1.space),.string (bk (D8 l).1.name),.slice van16 ((D8 l).1.attrs.length) vcn16,.slice val16 ((D8 l).1.kids.length) vcl16,.string (bk (D8 l).1.text)] 55 (0,0))]::gp16::g13::[(b9,.cells #[.string (bk (D8 l).1.space),.string (bk (D8 l).1.name),.slice van8 ((D8 l).1.attrs.length) vcn8,.slice val8 ((D8 l).1.kids.length) vcl8,.string (bk (D8 l).1.text)] 55 (0,0))]::gp8::H) (hoff:=Nat.le_of_ble_eq_true rfl) (hfz:=(fun _ _=>E0)) (k:=B1 [0] [9,11,12,14] (k:=?_))
      refine A0 (A1 ?_)
      refine A3 (A4 (j:=3) [0,0,0] (k:=?_))
      refine I5 (ch:=[(75,true)]) (b:=b9) (off:=0) (l:=[.string (bk (D8 l).1.space),.string (bk (D8 l).1.name),.slice van8 ((D8 l).1.attrs.length) vcn8,.slice val8 ((D8 l).1.kids.length) vcl8,.string (bk (D8 l).1.text)]) (hA:=At.grp 6 0 rfl rfl) (k:=I5 (ch:=[(75,true)]) (b:=b17) (off:=0) (l:=[.string (bk (D8 l).1.space),.string (bk (D8 l).1.name),.slice van16 ((D8 l).1.attrs.length) vcn16,.slice val16 ((D8 l).1.kids.length) vcl16,.string (bk (D8 l).1.text)]) (hA:=At.grp 3 0 rfl rfl) (k:=?_))
      refine J7 (ch:=[(75,true)]) (f:=31) (fst:=#[]) (caps:=#[]) (vs:=[.agg #[.string (bk (D8 l).1.space),.string (bk (D8 l).1.name),.slice van8 ((D8 l).1.attrs.length) vcn8,.slice val8 ((D8 l).1.kids.length) vcl8,.string (bk (D8 l).1.text)],.agg #[.string (bk (D8 l).1.space),.string (bk (D8 l).1.name),.slice van16 ((D8 l).1.attrs.length) vcn16,.slice val16 ((D8 l).1.kids.length) vcl16,.string (bk (D8 l).1.text)]]) (v:=.bool true) (hf:=Tryz.func31) (hc:=(fun hc=>xsameC ((D8 l).1) (by have h9:=parX_cn l; omega) [.string (bk (D8 l).1.space),.string (bk (D8 l).1.name),.slice van8 ((D8 l).1.attrs.length) vcn8,.slice val8 ((D8 l).1.kids.length) vcl8,.string (bk (D8 l).1.text)] [.string (bk (D8 l).1.space),.string (bk (D8 l).1.name),.slice van16 ((D8 l).1.attrs.length) vcn16,.slice val16 ((D8 l).1.kids.length) vcl16,.string (bk (D8 l).1.text)] (inG gp8) (inG gp16) (hJ8.rd (fun _ _ h=>h)) (hJ16.rd (fun _ _ h=>h)) _ _ (D4 7 rfl) (D4 4 rfl))) (k:=B5 (E':=[⟨4,[],.bool true⟩]) [2,0,0,0,2,0] [4] (k:=?_))
      refine A0 (C5 ?_)
      refine C1 (H':=H) (fun w h=>((((((((h.erase 7).erase 6).erase 5).erase 4).erase 3).erase 2).erase 1).erase 0)) (B9 [.tmp 4] [.bool true] (k:=?_))
      exact ⟨rfl,rfl⟩
   ·
    have hA2:RmkA l A:=⟨hI.a,by omega,hI.hd.imp id (fun h=>⟨h,bom3_s (by omega)⟩)⟩
    have hla2:=hA2.la
    have hbz:=D9 l
    refine A3 (G5 (E':=[⟨40,[],.bool (decide (((l.length:Nat):Int) ≥ 3))⟩,⟨0,[],.slice a l.length c⟩,⟨5,[],.string A⟩,⟨6,[],.string B⟩]) (j:=3) [0,0,0] (k:=?_))
    refine F0 (E':=[⟨40,[],.bool false⟩,⟨0,[],.slice a l.length c⟩,⟨5,[],.string A⟩,⟨6,[],.string B⟩]) (by rw [show decide (((l.length:Nat):Int) ≥ 3)=false from decide_eq_false (by omega)]) (B1 [0,1,1,1,1,3] [0,5,6,46] (k:=?_))
    refine A0 (D3 kr ?_)
    refine B4 (A0 ?_)
    refine A1 (A3 ?_)
    refine A4 (j:=1) [0] (k:=E7 Tryz.func29 (xparseV a c l S hrd ((D8 l).1) ((D8 l).2) rfl _ _ (fun y o h=>hS y o h) hX) ?_)
    rintro _ _ ⟨c25,gp25,hJ25,rfl,rfl⟩
    obtain ⟨van25,vcn25,val25,vcl25,rfl⟩:=hJ25.shape
    refine A4 (j:=5) [0,0,0] (k:=H5 (ch:=[]) (z:=.agg zN.toArray) (k:=(fun b26=>?_)))
    refine E2 (ch:=[]) (b:=b26) (off:=0) (v:=.agg #[.string (bk (D8 l).1.space),.string (bk (D8 l).1.name),.slice van25 ((D8 l).1.attrs.length) vcn25,.slice val25 ((D8 l).1.kids.length) vcl25,.string (bk (D8 l).1.text)]) (j:=0) ([(b26,.cells #[.string (bk (D8 l).1.space),.string (bk (D8 l).1.name),.slice van25 ((D8 l).1.attrs.length) vcn25,.slice val25 ((D8 l).1.kids.length) vcl25,.string (bk (D8 l).1.text)] 55 (0,0))]::gp25::H) (hoff:=Nat.le_of_ble_eq_true rfl) (hfz:=(fun _ _=>E0)) (k:=B1 [0] [0,5,6,9,10] (k:=?_))
    refine A0 (A1 ?_)
    refine A1 (G_p [0,0] [0,5,6,9,53] (k:=?_))
    refine A0 (B7 (b:=((D8 l).2) != 0) kr (fun hc27=>?_) (fun hc27=>?_))
    ·
     skip
     refine A1 (C3 (E':=[⟨4,[],.bool true⟩]) [0] [4] (k:=?_))
     refine A0 (C5 ?_)
     refine B2 (C1 (H':=H) (fun w h=>((h.erase 1).erase 0)) ?_)
     refine B9 [.tmp 4] [.bool true] (k:=?_)
     exact ⟨rfl,rfl⟩
    ·
     have he:(D8 l).2=0:=by simpa using hc27
     refine B4 (A0 ?_)
     refine A1 (A3 ?_)
     refine A4 (j:=2) [0,0] (k:=T0 (ch:=[]) (a:=a) (cap:=c) (e:=5) (S:=S) (bk l) (hrd:=hrd) (hS:=(fun y o h=>At.cons (At.cons (hS y o h)))) (k:=?_))
     refine I9 (ch:=[]) (s:=A) (u:=(bk l)) (hb:=(fun _=>by (try simp only [D9]); omega)) (k:=A4 (j:=5) [0] (k:=?_))
     refine I9 (ch:=[]) (s:=A++(bk l)) (u:=B) (hb:=(fun _=>by (try simp only [ByteArray.size_append,D9]); omega)) (k:=K4 (ch:=[]) (src:=9) (dst:=22) (e:=5) (s:=(A++(bk l))++B) (k:=(fun b28 cap29 g30 hcap31 hrd32=>?_)))
     refine E7 Tryz.func29 (xparseV (some ⟨b28,0,none⟩) cap29 (((A++(bk l))++B).data.toList) (inG g30) hrd32 ((D8 l).1) 0 (rmkX hA2 hI.b (by have:=hI.lb; omega) (by omega) he) _ _ (D4 0 rfl) hX) ?_
     rintro _ _ ⟨c33,gp33,hJ33,rfl,rfl⟩
     obtain ⟨van33,vcn33,val33,vcl33,rfl⟩:=hJ33.shape
     refine A4 (j:=11) [0,0,0] (k:=H5 (ch:=[]) (z:=.agg zN.toArray) (k:=(fun b34=>?_)))
     refine E2 (ch:=[]) (b:=b34) (off:=0) (v:=.agg #[.string (bk (D8 l).1.space),.string (bk (D8 l).1.name),.slice van33 ((D8 l).1.attrs.length) vcn33,.slice val33 ((D8 l).1.kids.length) vcl33,.string (bk (D8 l).1.text)]) (j:=0) ([(b34,.cells #[.string (bk (D8 l).1.space),.string (bk (D8 l).1.name),.slice van33 ((D8 l).1.attrs.length) vcn33,.slice val33 ((D8 l).1.kids.length) vcl33,.string (bk (D8 l).1.text)] 55 (0,0))]::gp33::g30::[(b26,.cells #[.string (bk (D8 l).1.space),.string (bk (D8 l).1.name),.slice van25 ((D8 l).1.attrs.length) vcn25,.slice val25 ((D8 l).1.kids.length) vcl25,.string (bk (D8 l).1.text)] 55 (0,0))]::gp25::H) (hoff:=Nat.le_of_ble_eq_true rfl) (hfz:=(fun _ _=>E0)) (k:=B1 [0] [0,9,11,12] (k:=?_))
     refine A0 (A1 ?_)
     refine A3 (A4 (j:=1) [0] (k:=?_))
     refine T0 (ch:=[]) (a:=a) (cap:=c) (e:=5) (S:=S) (bk l) (hrd:=hrd) (hS:=(fun y o h=>At.cons (At.cons (At.cons (At.cons (At.cons (hS y o h))))))) (k:=I9 (ch:=[]) (s:=(bk l)) (u:=(mB #[60,122,47,62])) (hb:=(fun _=>by (try simp only [D9,List.length_cons,List.length_nil]); omega)) (k:=?_))
     refine K4 (ch:=[]) (src:=9) (dst:=22) (e:=5) (s:=(bk l)++(mB #[60,122,47,62])) (k:=(fun b35 cap36 g37 hcap38 hrd39=>?_))
     refine E7 Tryz.func29 (xparseV (some ⟨b35,0,none⟩) cap36 (((bk l)++(mB #[60,122,47,62])).data.toList) (inG g37) hrd39 ((D8 ((bk l++ByteArray.mk #[60,122,47,62]).data.toList)).1) 70 (rmkY (by omega) he) _ _ (D4 0 rfl) hX) ?_
     rintro _ _ ⟨c40,gp40,hJ40,rfl,rfl⟩
     obtain ⟨van40,vcn40,val40,vcl40,rfl⟩:=hJ40.shape
     refine A4 (j:=8) [0,0,0] (k:=H5 (ch:=[]) (z:=.agg zN.toArray) (k:=(fun b41=>?_)))
     refine E2 (ch:=[]) (b:=b41) (off:=0) (v:=.agg #[.string (bk (D8 ((bk l++ByteArray.mk #[60,122,47,62]).data.toList)).1.space),.string (bk (D8 ((bk l++ByteArray.mk #[60,122,47,62]).data.toList)).1.name),.slice van40 ((D8 ((bk l++ByteArray.mk #[60,122,47,62]).data.toList)).1.attrs.length) vcn40,.slice val40 ((D8 ((bk l++ByteArray.mk #[60,122,47,62]).data.toList)).1.kids.length) vcl40,.string (bk (D8 ((bk l++ByteArray.mk #[60,122,47,62]).data.toList)).1.text)]) (j:=0) ([(b41,.cells #[.string (bk (D8 ((bk l++ByteArray.mk #[60,122,47,62]).data.toList)).1.space),.string (bk (D8 ((bk l++ByteArray.mk #[60,122,47,62]).data.toList)).1.name),.slice van40 ((D8 ((bk l++ByteArray.mk #[60,122,47,62]).data.toList)).1.attrs.length) vcn40,.slice val40 ((D8 ((bk l++ByteArray.mk #[60,122,47,62]).data.toList)).1.kids.length) vcl40,.string (bk (D8 ((bk l++ByteArray.mk #[60,122,47,62]).data.toList)).1.text)] 55 (0,0))]::gp40::g37::[(b34,.cells #[.string (bk (D8 l).1.space),.string (bk (D8 l).1.name),.slice van33 ((D8 l).1.attrs.length) vcn33,.slice val33 ((D8 l).1.kids.length) vcl33,.string (bk (D8 l).1.text)] 55 (0,0))]::gp33::g30::[(b26,.cells #[.string (bk (D8 l).1.space),.string (bk (D8 l).1.name),.slice van25 ((D8 l).1.attrs.length) vcn25,.slice val25 ((D8 l).1.kids.length) vcl25,.string (bk (D8 l).1.text)] 55 (0,0))]::gp25::H) (hoff:=Nat.le_of_ble_eq_true rfl) (hfz:=(fun _ _=>E0)) (k:=B5 (E':=[⟨9,[],pt b26⟩,⟨11,[],pt b34⟩,⟨12,[],.int .i64 0⟩,⟨14,[],.int .i64 70⟩]) [0] [9,11,12,14] (k:=?_))
     refine A0 (A1 ?_)
     refine A3 (A4 (j:=3) [0,0,0] (k:=?_))
     refine I5 (ch:=[(75,true)]) (b:=b26) (off:=0) (l:=[.string (bk (D8 l).1.space),.string (bk (D8 l).1.name),.slice van25 ((D8 l).1.attrs.length) vcn25,.slice val25 ((D8 l).1.kids.length) vcl25,.string (bk (D8 l).1.text)]) (hA:=At.grp 6 0 rfl rfl) (k:=I5 (ch:=[(75,true)]) (b:=b34) (off:=0) (l:=[.string (bk (D8 l).1.space),.string (bk (D8 l).1.name),.slice van33 ((D8 l).1.attrs.length) vcn33,.slice val33 ((D8 l).1.kids.length) vcl33,.string (bk (D8 l).1.text)]) (hA:=At.grp 3 0 rfl rfl) (k:=?_))
     refine J7 (ch:=[(75,true)]) (f:=31) (fst:=#[]) (caps:=#[]) (vs:=[.agg #[.string (bk (D8 l).1.space),.string (bk (D8 l).1.name),.slice van25 ((D8 l).1.attrs.length) vcn25,.slice val25 ((D8 l).1.kids.length) vcl25,.string (bk (D8 l).1.text)],.agg #[.string (bk (D8 l).1.space),.string (bk (D8 l).1.name),.slice van33 ((D8 l).1.attrs.length) vcn33,.slice val33 ((D8 l).1.kids.length) vcl33,.string (bk (D8 l).1.text)]]) (v:=.bool true) (hf:=Tryz.func31) (hc:=(fun hc=>xsameC ((D8 l).1) (by have h9:=parX_cn l; omega) [.string (bk (D8 l).1.space),.string (bk (D8 l).1.name),.slice van25 ((D8 l).1.attrs.length) vcn25,.slice val25 ((D8 l).1.kids.length) vcl25,.string (bk (D8 l).1.text)] [.string (bk (D8 l).1.space),.string (bk (D8 l).1.name),.slice van33 ((D8 l).1.attrs.length) vcn33,.slice val33 ((D8 l).1.kids.length) vcl33,.string (bk (D8 l).1.text)] (inG gp25) (inG gp33) (hJ25.rd (fun _ _ h=>h)) (hJ33.rd (fun _ _ h=>h)) _ _ (D4 7 rfl) (D4 4 rfl))) (k:=B5 (E':=[⟨4,[],.bool true⟩]) [2,0,0,0,2,0] [4] (k:=?_))
     refine A0 (C5 ?_)
     refine C1 (H':=H) (fun w h=>((((((((h.erase 7).erase 6).erase 5).erase 4).erase 3).erase 2).erase 1).erase 0)) (B9 [.tmp 4] [.bool true] (k:=?_))
     exact ⟨rfl,rfl⟩
end Go.Proofs.YtppgfiklmfoaeaaGreatDoor
namespace Go.Proofs.YtppgfiklmfoaeaaGreatDoor
theorem xmlRoots:True:=by
  -- xmlRemarks_ baseX_of returnsIn_shaped base_of sat_nil post_below open_bytesL wf_u8 sw_at SW laidOut_ and_tt cl_may cl_lift cl_make cl_heard cl_keys ok_one okWide_bool_mk shut_bool trodAll_mk1
  trivial
end Go.Proofs.YtppgfiklmfoaeaaGreatDoor
