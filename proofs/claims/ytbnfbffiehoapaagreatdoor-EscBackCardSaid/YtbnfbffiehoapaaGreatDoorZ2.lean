/- A text in quotes, step by step. No condition. (and what it stands on) -/
import Derived.Test.YtbnfbffiehoapaaGreatDoorZ1
import Derived.Lib.Bytealg
import Derived.Lib.CountLaws
import Derived.Lib.Builder
import Derived.Lib.UnsafeStr
import Derived.Shelf.Strings.Repeat
import Derived.Shelf.Strconv.SyntaxError
import Derived.Shelf.LaysM
import Derived.Shelf.Unicode.DecodeSlow
import Derived.Test.YtbnfbffiehoapaaGreatDoorCards
import Derived.Test.YtbnfbffiehoapaaGreatDoorTie
import Derived.ProofKit
import Derived.OpenShut
import Derived.LaidMore
import Derived.Lay
import Derived.SevenTiedAt
import Derived.Stop.Joined
import Derived.Stop.LaidErr
import Derived.LaidLaws
import Derived.Lib.LaidTab
import Derived.Lib.LaidU8T
namespace Go.Proofs.YtbnfbffiehoapaaGreatDoor
open Go.Sw Go.Esc
theorem run_cnt {P:Program} (s:ByteArray) (k:Nat) (w:World):(Extern.BytealgCount.count #[.string s,.int .u8 (k:Int)]).run P w=.ok (.int .i64 (s.data.toList.count k.toUInt8:Int)) w:=by
  rw [Lib.run_countString]; rfl
theorem tab_row {a38 c38 a60 c60 a62 c62 a34 c34 a39 c39:Nat} {g38 g60 g62 g34 g39:Grp} (h:Rd (inG g38) (some ⟨a38,0,none⟩) (u8s (ByteArray.mk #[38,97,109,112,59]).data.toList)∧Rd (inG g60) (some ⟨a60,0,none⟩) (u8s (ByteArray.mk #[38,108,116,59]).data.toList)∧Rd (inG g62) (some ⟨a62,0,none⟩) (u8s (ByteArray.mk #[38,103,116,59]).data.toList)∧Rd (inG g34) (some ⟨a34,0,none⟩) (u8s (ByteArray.mk #[38,113,117,111,116,59]).data.toList)∧Rd (inG g39) (some ⟨a39,0,none⟩) (u8s (ByteArray.mk #[38,35,51,57,59]).data.toList)) {A L C:Nat} {u:List UInt8} (hm:(A,L,C,u)∈[(a38,5,c38,([38,97,109,112,59]:List UInt8)),(a60,4,c60,[38,108,116,59]),(a62,4,c62,[38,103,116,59]),(a34,6,c34,[38,113,117,111,116,59]),(a39,5,c39,[38,35,51,57,59])]) (W0:World) (X Y Z:Grp) (H:List Grp) :
    ∃ Q,Rd Q (some ⟨A,0,none⟩) (u8s u)∧∀ y o,Q y o→At W0 (X::Y::Z::([g38,g60,g62,g34,g39]++H)) y o:=by
  obtain ⟨h1,h2,h3,h4,h5⟩:=h
  have at5:∀ g,g∈[g38,g60,g62,g34,g39]→∀ y o,inG g y o→At W0 (X::Y::Z::([g38,g60,g62,g34,g39]++H)) y o:=fun g hg y o h=>At.mem (List.mem_cons_of_mem _ (List.mem_cons_of_mem _ (List.mem_cons_of_mem _ (List.mem_append_left H hg)))) h
  simp only [List.mem_cons,List.not_mem_nil,or_false,Prod.mk.injEq] at hm
  rcases hm with ⟨rfl,rfl,rfl,rfl⟩ | ⟨rfl,rfl,rfl,rfl⟩ | ⟨rfl,rfl,rfl,rfl⟩ | ⟨rfl,rfl,rfl,rfl⟩ | ⟨rfl,rfl,rfl,rfl⟩
  · exact ⟨_,h1,at5 _ (by simp)⟩
  · exact ⟨_,h2,at5 _ (by simp)⟩
  · exact ⟨_,h3,at5 _ (by simp)⟩
  · exact ⟨_,h4,at5 _ (by simp)⟩
  · exact ⟨_,h5,at5 _ (by simp)⟩
theorem J6 (l:List UInt8) {i:Nat} (h:i<l.length):l.take (i+1)=l.take i++[l.getD i 0]:=by
  rw [List.take_succ_eq_append_getElem h]; congr 2; simp [List.getD,h]
def anyR (l:List UInt8):Bool:=l.any fun b=>(B9 b).isSome
theorem anyR_snoc (l:List UInt8) (b:UInt8):anyR (l++[b])=(anyR l||(B9 b).isSome):=by simp [anyR]
theorem N2 (b:UInt8) {u:List UInt8} (h:B9 b=some u):D3 B9 [b]=u:=by simp [D3,h]
theorem L0 (b:UInt8) (h:B9 b=none):D3 B9 [b]=[b]:=by simp [D3,h]
theorem anyR_same (l:List UInt8) (h:anyR l=false):D3 B9 l=l:=by
  refine outR_same _ _ fun b hb=>?_
  unfold anyR at h
  rw [List.any_eq_false] at h
  have:=h b hb
  cases hr:B9 b with
  | none=>rfl
  | some u=>rw [hr] at this; exact absurd rfl this
theorem byteAt_getD (s:ByteArray) (i:Nat):A5 s (i:Int)=((s.data.toList.getD i 0).toNat:Int):=by unfold A5; rw [Int.toNat_natCast,List.getD_eq_getElem?_getD]
theorem outR_split (l:List UInt8) {i:Nat} (h:i<l.length):D3 B9 l=D3 B9 (l.take i)++(D3 B9 [l.getD i 0]++D3 B9 (l.drop (i+1))):=by
  rw [← L7,← L7,← List.append_assoc,← J6 l h,List.take_append_drop]
theorem u_pos {b:UInt8} {u:List UInt8} (h:B9 b=some u):4≤u.length∧u.length≤6:=by
  unfold B9 at h
  (repeat' split at h) <;> first | (injection h with h; subst h; exact ⟨by decide,by decide⟩) | cases h
theorem outR_le6 (l:List UInt8):l.length≤(D3 B9 l).length∧(D3 B9 l).length≤6 * l.length:=by
  induction l with
  | nil=>exact ⟨Nat.le_refl _,Nat.le_refl _⟩
  | cons b l ih =>
    rw [outR_cons,List.length_append,List.length_cons]
    have:1≤((B9 b).getD [b]).length∧((B9 b).getD [b]).length≤6:=by
      cases h:B9 b with
      | none=>exact ⟨Nat.le_refl _,by show 1≤6; decide⟩
      | some u=>have:=u_pos h; show 1≤u.length∧u.length≤6; omega
    omega
theorem cell_ix (s:ByteArray) (i:Nat):0+Int.toNat (A5 s (i:Int)) * 1=(s.data.toList.getD i 0).toNat:=by rw [byteAt_getD,Int.toNat_natCast]; omega
theorem row_rd {b:Nat} (l:List UInt8) (k:Nat):Rd (inG [(b,.cells (rowZ l k) 5 (0,0))]) (some ⟨b,0,none⟩) (rowZ l k).toList:=by
  have:Rd (inG [(b,.cells (rowZ l k).toList.toArray 5 (0,0))]) (some ⟨b,0,none⟩) (rowZ l k).toList:=Rd.lit
  rwa [Array.toArray_toList] at this
theorem u8s_one (u:List UInt8):((u8s u).all Value.oneCell')=true:=by
  rw [List.all_eq_true]; intro x hx; obtain ⟨b,_,rfl⟩:=List.mem_map.1 hx; rfl
theorem count_39 (s:ByteArray) (W0:World) (H:List Grp):Tri Tryz.prog 157 #[.string s,.string (ByteArray.mk #[39])] W0 H (fun v H'=>v=.int .i64 (s.data.toList.count 39:Int)∧H'=H):=by
 refine D1 (args:=[.string s,.string (ByteArray.mk #[39])]) (n:=34) Tryz.func157 rfl rfl (Nat.le_of_ble_eq_true rfl) ?_
 refine A1 (G_p [0] [0,1] (k:=?_))
 refine A0 (A1 ?_)
 refine A1 (G_p [0,0,0] [0,1,9] (k:=?_))
 refine A0 (D7 kr ?_)
 refine A7 (A0 ?_)
 refine A1 (A1 ?_)
 refine G_p [0,0,0] [0,1,15] (k:=A0 ?_)
 refine C6 kr (A1 ?_)
 refine A2 (A6 (j:=2) [0,0] (k:=?_))
 refine C0 (ch:=[]) (s:=(ByteArray.mk #[39])) (kd:=.i64) (j:=0) (hb:=(fun _=>by decide)) (k:=N0 (ch:=[]) (f:=159) (vs:=[.string s,.int .u8 39]) (v:=.int .i64 (s.data.toList.count 39:Int)) (e:=Extern.BytealgCount.count) (hf:=Tryz.func159) (hrun:=(fun w=>run_cnt s 39 w)) (k:=?_))
 refine B0 [0] [4] (k:=A0 ?_)
 refine B6 (A3 ?_)
 refine B5 [.tmp 4] [.int .i64 (s.data.toList.count 39:Int)] (k:=?_)
 exact ⟨rfl,rfl⟩
theorem count_34 (s:ByteArray) (W0:World) (H:List Grp):Tri Tryz.prog 157 #[.string s,.string (ByteArray.mk #[34])] W0 H (fun v H'=>v=.int .i64 (s.data.toList.count 34:Int)∧H'=H):=by
 refine D1 (args:=[.string s,.string (ByteArray.mk #[34])]) (n:=34) Tryz.func157 rfl rfl (Nat.le_of_ble_eq_true rfl) ?_
 refine A1 (G_p [0] [0,1] (k:=?_))
 refine A0 (A1 ?_)
 refine A1 (G_p [0,0,0] [0,1,9] (k:=?_))
 refine A0 (D7 kr ?_)
 refine A7 (A0 ?_)
 refine A1 (A1 ?_)
 refine G_p [0,0,0] [0,1,15] (k:=A0 ?_)
 refine C6 kr (A1 ?_)
 refine A2 (A6 (j:=2) [0,0] (k:=?_))
 refine C0 (ch:=[]) (s:=(ByteArray.mk #[34])) (kd:=.i64) (j:=0) (hb:=(fun _=>by decide)) (k:=N0 (ch:=[]) (f:=159) (vs:=[.string s,.int .u8 34]) (v:=.int .i64 (s.data.toList.count 34:Int)) (e:=Extern.BytealgCount.count) (hf:=Tryz.func159) (hrun:=(fun w=>run_cnt s 34 w)) (k:=?_))
 refine B0 [0] [4] (k:=A0 ?_)
 refine B6 (A3 ?_)
 refine B5 [.tmp 4] [.int .i64 (s.data.toList.count 34:Int)] (k:=?_)
 exact ⟨rfl,rfl⟩
theorem count_62 (s:ByteArray) (W0:World) (H:List Grp):Tri Tryz.prog 157 #[.string s,.string (ByteArray.mk #[62])] W0 H (fun v H'=>v=.int .i64 (s.data.toList.count 62:Int)∧H'=H):=by
 refine D1 (args:=[.string s,.string (ByteArray.mk #[62])]) (n:=34) Tryz.func157 rfl rfl (Nat.le_of_ble_eq_true rfl) ?_
 refine A1 (G_p [0] [0,1] (k:=?_))
 refine A0 (A1 ?_)
 refine A1 (G_p [0,0,0] [0,1,9] (k:=?_))
 refine A0 (D7 kr ?_)
 refine A7 (A0 ?_)
 refine A1 (A1 ?_)
 refine G_p [0,0,0] [0,1,15] (k:=A0 ?_)
 refine C6 kr (A1 ?_)
 refine A2 (A6 (j:=2) [0,0] (k:=?_))
 refine C0 (ch:=[]) (s:=(ByteArray.mk #[62])) (kd:=.i64) (j:=0) (hb:=(fun _=>by decide)) (k:=N0 (ch:=[]) (f:=159) (vs:=[.string s,.int .u8 62]) (v:=.int .i64 (s.data.toList.count 62:Int)) (e:=Extern.BytealgCount.count) (hf:=Tryz.func159) (hrun:=(fun w=>run_cnt s 62 w)) (k:=?_))
 refine B0 [0] [4] (k:=A0 ?_)
 refine B6 (A3 ?_)
 refine B5 [.tmp 4] [.int .i64 (s.data.toList.count 62:Int)] (k:=?_)
 exact ⟨rfl,rfl⟩
theorem count_60 (s:ByteArray) (W0:World) (H:List Grp):Tri Tryz.prog 157 #[.string s,.string (ByteArray.mk #[60])] W0 H (fun v H'=>v=.int .i64 (s.data.toList.count 60:Int)∧H'=H):=by
 refine D1 (args:=[.string s,.string (ByteArray.mk #[60])]) (n:=34) Tryz.func157 rfl rfl (Nat.le_of_ble_eq_true rfl) ?_
 refine A1 (G_p [0] [0,1] (k:=?_))
 refine A0 (A1 ?_)
 refine A1 (G_p [0,0,0] [0,1,9] (k:=?_))
 refine A0 (D7 kr ?_)
 refine A7 (A0 ?_)
 refine A1 (A1 ?_)
 refine G_p [0,0,0] [0,1,15] (k:=A0 ?_)
 refine C6 kr (A1 ?_)
 refine A2 (A6 (j:=2) [0,0] (k:=?_))
 refine C0 (ch:=[]) (s:=(ByteArray.mk #[60])) (kd:=.i64) (j:=0) (hb:=(fun _=>by decide)) (k:=N0 (ch:=[]) (f:=159) (vs:=[.string s,.int .u8 60]) (v:=.int .i64 (s.data.toList.count 60:Int)) (e:=Extern.BytealgCount.count) (hf:=Tryz.func159) (hrun:=(fun w=>run_cnt s 60 w)) (k:=?_))
 refine B0 [0] [4] (k:=A0 ?_)
 refine B6 (A3 ?_)
 refine B5 [.tmp 4] [.int .i64 (s.data.toList.count 60:Int)] (k:=?_)
 exact ⟨rfl,rfl⟩
theorem count_38 (s:ByteArray) (W0:World) (H:List Grp):Tri Tryz.prog 157 #[.string s,.string (ByteArray.mk #[38])] W0 H (fun v H'=>v=.int .i64 (s.data.toList.count 38:Int)∧H'=H):=by
 refine D1 (args:=[.string s,.string (ByteArray.mk #[38])]) (n:=34) Tryz.func157 rfl rfl (Nat.le_of_ble_eq_true rfl) ?_
 refine A1 (G_p [0] [0,1] (k:=?_))
 refine A0 (A1 ?_)
 refine A1 (G_p [0,0,0] [0,1,9] (k:=?_))
 refine A0 (D7 kr ?_)
 refine A7 (A0 ?_)
 refine A1 (A1 ?_)
 refine G_p [0,0,0] [0,1,15] (k:=A0 ?_)
 refine C6 kr (A1 ?_)
 refine A2 (A6 (j:=2) [0,0] (k:=?_))
 refine C0 (ch:=[]) (s:=(ByteArray.mk #[38])) (kd:=.i64) (j:=0) (hb:=(fun _=>by decide)) (k:=N0 (ch:=[]) (f:=159) (vs:=[.string s,.int .u8 38]) (v:=.int .i64 (s.data.toList.count 38:Int)) (e:=Extern.BytealgCount.count) (hf:=Tryz.func159) (hrun:=(fun w=>run_cnt s 38 w)) (k:=?_))
 refine B0 [0] [4] (k:=A0 ?_)
 refine B6 (A3 ?_)
 refine B5 [.tmp 4] [.int .i64 (s.data.toList.count 38:Int)] (k:=?_)
 exact ⟨rfl,rfl⟩
theorem tabReplace_ (c c38 c60 c62 c34 c39:Nat) (aT:Option Addr) (cT:Nat) (gT:Grp) (a38 a60 a62 a34 a39:Nat) (g38 g60 g62 g34 g39:Grp) (s:ByteArray) (hs:s.size≤2000000) (hT:Go.Sw.Own 9 1 (.slice aT 5 cT) gT 5 I3) (hR:Rd (inG g38) (some ⟨a38,0,none⟩) (u8s (ByteArray.mk #[38,97,109,112,59]).data.toList)∧Rd (inG g60) (some ⟨a60,0,none⟩) (u8s (ByteArray.mk #[38,108,116,59]).data.toList)∧Rd (inG g62) (some ⟨a62,0,none⟩) (u8s (ByteArray.mk #[38,103,116,59]).data.toList)∧Rd (inG g34) (some ⟨a34,0,none⟩) (u8s (ByteArray.mk #[38,113,117,111,116,59]).data.toList)∧Rd (inG g39) (some ⟨a39,0,none⟩) (u8s (ByteArray.mk #[38,35,51,57,59]).data.toList)) (W0:World) (H:List Grp):Tri Tryz.prog 155 #[pt c,.string s] W0 ([(c,.cells (bsr [(34,.slice (some ⟨a34,0,none⟩) 6 c34),(38,.slice (some ⟨a38,0,none⟩) 5 c38),(39,.slice (some ⟨a39,0,none⟩) 5 c39),(60,.slice (some ⟨a60,0,none⟩) 4 c60),(62,.slice (some ⟨a62,0,none⟩) 4 c62)] (.slice aT 5 cT)) 111 (0,0))]::gT::g38::g60::g62::g34::g39::H) (fun v H'=>v=.string ⟨(D3 B9 s.data.toList).toArray⟩∧H'=([(c,.cells (bsr [(34,.slice (some ⟨a34,0,none⟩) 6 c34),(38,.slice (some ⟨a38,0,none⟩) 5 c38),(39,.slice (some ⟨a39,0,none⟩) 5 c39),(60,.slice (some ⟨a60,0,none⟩) 4 c60),(62,.slice (some ⟨a62,0,none⟩) 4 c62)] (.slice aT 5 cT)) 111 (0,0))]::gT::g38::g60::g62::g34::g39::H)):=by
 have hrT:Rd (inG gT) aT I3:=by
  obtain ⟨a',c',he,_,hr⟩:=hT.shape
  injection he with h1 h2 h3; subst h1; exact hr
 have ho6:=outR_le6 s.data.toList
 rw [show s.data.toList.length=s.size from Array.length_toList] at ho6
 have hlen:s.data.toList.length=s.size:=Array.length_toList
 have hcnt38:=List.count_le_length (a:=(38:UInt8)) (l:=s.data.toList)
 have hcnt60:=List.count_le_length (a:=(60:UInt8)) (l:=s.data.toList)
 have hcnt62:=List.count_le_length (a:=(62:UInt8)) (l:=s.data.toList)
 have hcnt34:=List.count_le_length (a:=(34:UInt8)) (l:=s.data.toList)
 have hcnt39:=List.count_le_length (a:=(39:UInt8)) (l:=s.data.toList)
 refine D1 (args:=[pt c,.string s]) (n:=122) Tryz.func155 rfl rfl (Nat.le_of_ble_eq_true rfl) ?_
 refine A1 (B3 (E':=[⟨0,[],pt c⟩,⟨1,[],.string s⟩]) [0] [0,1] (k:=?_))
 refine A0 (A1 ?_)
 refine G_p [0,0,0] [0,1,5] (k:=A0 ?_)
 refine A1 (G_p [0] [0,1,5,6] (k:=?_))
 refine A0 (A1 ?_)
 refine A1 (A2 ?_)
 refine A6 (j:=3) [0,0,0] (k:=E9 (ch:=[]) (b:=c) (off:=256) (v:=.slice aT 5 cT) (hA:=At.grp 0 0 rfl rfl) (k:=?_))
 refine B0 [0,0,0,0,0] [0,1,5,6,26] (k:=A0 ?_)
 refine G_join (T:=Int × Bool) (fun ξ:Int × Bool=>[⟨0,[],pt c⟩,⟨1,[],.string s⟩,⟨5,[],.int .i64 ξ.1⟩,⟨6,[],.bool ξ.2⟩]) (fun ξ:Int × Bool=>([(c,.cells (bsr [(34,.slice (some ⟨a34,0,none⟩) 6 c34),(38,.slice (some ⟨a38,0,none⟩) 5 c38),(39,.slice (some ⟨a39,0,none⟩) 5 c39),(60,.slice (some ⟨a60,0,none⟩) 4 c60),(62,.slice (some ⟨a62,0,none⟩) 4 c62)] (.slice aT 5 cT)) 111 (0,0))]::gT::g38::g60::g62::g34::g39::H)) (fun ξ:Int × Bool=>(ξ.1=((D3 B9 s.data.toList).length:Int))∧(ξ.2=false→(D3 B9 s.data.toList)=s.data.toList)) ?_ ?_
 ·
  refine B1 (b:=decide (40≤(s.size:Int))) kr (fun hc1=>?_) (fun hc1=>?_)
  ·
   try simp only [decide_eq_true_eq] at hc1
   refine A1 (A2 ?_)
   refine A6 (j:=3) [0,0,0] (k:=E9 (ch:=[]) (b:=c) (off:=256) (v:=.slice aT 5 cT) (hA:=At.grp 0 0 rfl rfl) (k:=?_))
   refine B0 [0,0] [0,1,5,6,30,31,32] (k:=A0 ?_)
   refine B4 (L9 6 ?_)
   refine E4 (A1 ?_)
   refine G_p [0] [0,1,5,6,30,31,32,33] (k:=A0 ?_)
   refine A1 (C6 kr ?_)
   refine A7 (A0 ?_)
   refine A1 (B4 ?_)
   refine A1 (A2 ?_)
   refine C4 (ch:=[]) (a:=aT) (len:=5) (cap:=cT) (kd:=.i64) (j:=0) (e:=9) (sz:=1) (S:=(inG gT)) (cs:=I3) (hrd:=hrT) (hb:=(fun _=>by exact ⟨by decide,by decide,by intro h; cases h⟩)) (k:=E6 (ch:=[]) (a:=aT) (q:=0 * 1) (S:=(inG gT)) (cs:=I3) (v:=.string (ByteArray.mk #[39])) (hrd:=hrT) (hS:=D2 1 rfl) (hv:=(fun _=>rfl)) (k:=?_))
   refine B8 (E':=[⟨0,[],pt c⟩,⟨1,[],.string s⟩,⟨5,[],.int .i64 (s.size:Int)⟩,⟨6,[],.bool false⟩,⟨8,[],.string (ByteArray.mk #[39])⟩,⟨30,[],.slice aT 5 cT⟩,⟨31,[],.int .i64 5⟩,⟨32,[],.int .i64 0⟩]) [0] [0,1,5,6,8,30,31,32] (k:=A0 ?_)
   refine A1 (A2 ?_)
   refine A6 (j:=2) [0,0] (k:=G4 Tryz.func157 (count_39 s _ _) ?_)
   refine B0 [0] [0,1,5,6,8,9,30,31,32] (k:=A0 ?_)
   refine A1 (G_p [0,0] [0,1,5,6,8,9,30,31,32,40] (k:=?_))
   refine A0 (G_join (T:=Int × Bool) (fun ξ:Int × Bool=>[⟨0,[],pt c⟩,⟨1,[],.string s⟩,⟨5,[],.int .i64 ξ.1⟩,⟨6,[],.bool ξ.2⟩,⟨30,[],.slice aT 5 cT⟩,⟨31,[],.int .i64 5⟩,⟨32,[],.int .i64 0⟩]) (fun ξ:Int × Bool=>([(c,.cells (bsr [(34,.slice (some ⟨a34,0,none⟩) 6 c34),(38,.slice (some ⟨a38,0,none⟩) 5 c38),(39,.slice (some ⟨a39,0,none⟩) 5 c39),(60,.slice (some ⟨a60,0,none⟩) 4 c60),(62,.slice (some ⟨a62,0,none⟩) 4 c62)] (.slice aT 5 cT)) 111 (0,0))]::gT::g38::g60::g62::g34::g39::H)) (fun ξ:Int × Bool=>(ξ.1=(s.size:Int)+(s.data.toList.count 39:Int) * 4)∧(ξ.2=false→false=false∧s.data.toList.count 39=0)) ?_ ?_)
   ·
    refine B1 (b:=(s.data.toList.count 39:Int) != 0) kr (fun hc2=>?_) (fun hc2=>?_)
    ·
     try simp only [decide_eq_true_eq,decide_eq_false_iff_not] at hc2
     refine A1 (L2 (k:=?_))
     refine A6 (j:=4) [0,0,0,0] (k:=C0 (ch:=[]) (s:=(ByteArray.mk #[39])) (kd:=.i64) (j:=0) (hb:=(fun _=>by decide)) (k:=?_))
     refine A6 (j:=7) [0,0] (k:=E0 (ch:=[]) (b:=c) (off:=0) (len:=256) (sz:=1) (e:=37) (kd:=.u8) (j:=39) (hb:=(fun _=>⟨by decide,by decide⟩)) (k:=?_))
     refine E9 (ch:=[]) (b:=c) (off:=39) (v:=.slice (some ⟨a39,0,none⟩) 5 c39) (hA:=At.grp 0 0 rfl rfl) (k:=A6 (j:=12) [0,0,0] (k:=?_))
     refine C3 52 ((s.data.toList.count 39:Int) * 4) (by omega) (by omega) kr (A6 (j:=13) [0] (k:=?_))
     refine C3 53 ((s.size:Int)+((s.data.toList.count 39:Int) * 4)) (by omega) (by omega) kr (B0 [0] [0,1,5,30,31,32] (k:=?_))
     refine A0 (G_p [0] [0,1,5,6,30,31,32] (k:=?_))
     refine N_join ((s.size:Int)+((s.data.toList.count 39:Int) * 4),true) [0,1,5,6,30,31,32] kr (fun w h=>h) ⟨(by first | rfl | (simp only [bne_eq_false_iff_eq] at *; omega)),(by intro h; dsimp only at h; first | exact Bool.noConfusion h | (simp only [bne_eq_false_iff_eq] at *; exact ⟨h,by omega⟩))⟩
    ·
     try simp only [decide_eq_true_eq,decide_eq_false_iff_not] at hc2
     refine A7 (N_join ((s.size:Int),false) [0,1,5,6,30,31,32] kr (fun w h=>h) ⟨(by first | rfl | (simp only [bne_eq_false_iff_eq] at *; omega)),(by intro h; dsimp only at h; first | exact Bool.noConfusion h | (simp only [bne_eq_false_iff_eq] at *; exact ⟨h,by omega⟩))⟩)
   ·
    rintro ⟨n1,b1⟩ ⟨hn1,hb1⟩
    refine B2 (A0 ?_)
    refine G_p [0,0] [0,1,5,6,30,31,32] (k:=N_rd ?_)
    refine E4 (A1 ?_)
    refine G_p [0] [0,1,5,6,30,31,32,33] (k:=A0 ?_)
    refine A1 (C6 kr ?_)
    refine A7 (A0 ?_)
    refine A1 (B4 ?_)
    refine A1 (A2 ?_)
    refine C4 (ch:=[]) (a:=aT) (len:=5) (cap:=cT) (kd:=.i64) (j:=1) (e:=9) (sz:=1) (S:=(inG gT)) (cs:=I3) (hrd:=hrT) (hb:=(fun _=>by exact ⟨by decide,by decide,by intro h; cases h⟩)) (k:=E6 (ch:=[]) (a:=aT) (q:=1 * 1) (S:=(inG gT)) (cs:=I3) (v:=.string (ByteArray.mk #[34])) (hrd:=hrT) (hS:=D2 1 rfl) (hv:=(fun _=>rfl)) (k:=?_))
    refine B0 [0] [0,1,5,6,8,30,31,32] (k:=A0 ?_)
    refine A1 (A2 ?_)
    refine A6 (j:=2) [0,0] (k:=G4 Tryz.func157 (count_34 s _ _) ?_)
    refine B0 [0] [0,1,5,6,8,9,30,31,32] (k:=A0 ?_)
    refine A1 (G_p [0,0] [0,1,5,6,8,9,30,31,32,40] (k:=?_))
    refine A0 (G_join (T:=Int × Bool) (fun ξ:Int × Bool=>[⟨0,[],pt c⟩,⟨1,[],.string s⟩,⟨5,[],.int .i64 ξ.1⟩,⟨6,[],.bool ξ.2⟩,⟨30,[],.slice aT 5 cT⟩,⟨31,[],.int .i64 5⟩,⟨32,[],.int .i64 1⟩]) (fun ξ:Int × Bool=>([(c,.cells (bsr [(34,.slice (some ⟨a34,0,none⟩) 6 c34),(38,.slice (some ⟨a38,0,none⟩) 5 c38),(39,.slice (some ⟨a39,0,none⟩) 5 c39),(60,.slice (some ⟨a60,0,none⟩) 4 c60),(62,.slice (some ⟨a62,0,none⟩) 4 c62)] (.slice aT 5 cT)) 111 (0,0))]::gT::g38::g60::g62::g34::g39::H)) (fun ξ:Int × Bool=>(ξ.1=n1+(s.data.toList.count 34:Int) * 5)∧(ξ.2=false→b1=false∧s.data.toList.count 34=0)) ?_ ?_)
    ·
     refine B1 (b:=(s.data.toList.count 34:Int) != 0) kr (fun hc5=>?_) (fun hc5=>?_)
     ·
      try simp only [decide_eq_true_eq,decide_eq_false_iff_not] at hc5
      refine A1 (L2 (k:=?_))
      refine A6 (j:=4) [0,0,0,0] (k:=C0 (ch:=[]) (s:=(ByteArray.mk #[34])) (kd:=.i64) (j:=0) (hb:=(fun _=>by decide)) (k:=?_))
      refine A6 (j:=7) [0,0] (k:=E0 (ch:=[]) (b:=c) (off:=0) (len:=256) (sz:=1) (e:=37) (kd:=.u8) (j:=34) (hb:=(fun _=>⟨by decide,by decide⟩)) (k:=?_))
      refine E9 (ch:=[]) (b:=c) (off:=34) (v:=.slice (some ⟨a34,0,none⟩) 6 c34) (hA:=At.grp 0 0 rfl rfl) (k:=A6 (j:=12) [0,0,0] (k:=?_))
      refine C3 52 ((s.data.toList.count 34:Int) * 5) (by omega) (by omega) kr (A6 (j:=13) [0] (k:=?_))
      refine C3 53 (n1+((s.data.toList.count 34:Int) * 5)) (by omega) (by omega) kr (B8 (E':=[⟨0,[],pt c⟩,⟨1,[],.string s⟩,⟨5,[],.int .i64 (n1+((s.data.toList.count 34:Int) * 5))⟩,⟨30,[],.slice aT 5 cT⟩,⟨31,[],.int .i64 5⟩,⟨32,[],.int .i64 1⟩]) [0] [0,1,5,30,31,32] (k:=?_))
      refine A0 (G_p [0] [0,1,5,6,30,31,32] (k:=?_))
      refine N_join (n1+((s.data.toList.count 34:Int) * 5),true) [0,1,5,6,30,31,32] kr (fun w h=>h) ⟨(by first | rfl | (simp only [bne_eq_false_iff_eq] at *; omega)),(by intro h; dsimp only at h; first | exact Bool.noConfusion h | (simp only [bne_eq_false_iff_eq] at *; exact ⟨h,by omega⟩))⟩
     ·
      try simp only [decide_eq_true_eq,decide_eq_false_iff_not] at hc5
      refine A7 (N_join (n1,b1) [0,1,5,6,30,31,32] kr (fun w h=>h) ⟨(by first | rfl | (simp only [bne_eq_false_iff_eq] at *; omega)),(by intro h; dsimp only at h; first | exact Bool.noConfusion h | (simp only [bne_eq_false_iff_eq] at *; exact ⟨h,by omega⟩))⟩)
    ·
     rintro ⟨n2,b2⟩ ⟨hn2,hb2⟩
     refine B2 (A0 ?_)
     refine G_p [0,0] [0,1,5,6,30,31,32] (k:=N_rd ?_)
     refine E4 (A1 ?_)
     refine G_p [0] [0,1,5,6,30,31,32,33] (k:=A0 ?_)
     refine A1 (C6 kr ?_)
     refine A7 (A0 ?_)
     refine A1 (B4 ?_)
     refine A1 (A2 ?_)
     refine C4 (ch:=[]) (a:=aT) (len:=5) (cap:=cT) (kd:=.i64) (j:=2) (e:=9) (sz:=1) (S:=(inG gT)) (cs:=I3) (hrd:=hrT) (hb:=(fun _=>by exact ⟨by decide,by decide,by intro h; cases h⟩)) (k:=E6 (ch:=[]) (a:=aT) (q:=2 * 1) (S:=(inG gT)) (cs:=I3) (v:=.string (ByteArray.mk #[62])) (hrd:=hrT) (hS:=D2 1 rfl) (hv:=(fun _=>rfl)) (k:=?_))
     refine B0 [0] [0,1,5,6,8,30,31,32] (k:=A0 ?_)
     refine A1 (A2 ?_)
     refine A6 (j:=2) [0,0] (k:=G4 Tryz.func157 (count_62 s _ _) ?_)
     refine B0 [0] [0,1,5,6,8,9,30,31,32] (k:=A0 ?_)
     refine A1 (G_p [0,0] [0,1,5,6,8,9,30,31,32,40] (k:=?_))
     refine A0 (G_join (T:=Int × Bool) (fun ξ:Int × Bool=>[⟨0,[],pt c⟩,⟨1,[],.string s⟩,⟨5,[],.int .i64 ξ.1⟩,⟨6,[],.bool ξ.2⟩,⟨30,[],.slice aT 5 cT⟩,⟨31,[],.int .i64 5⟩,⟨32,[],.int .i64 2⟩]) (fun ξ:Int × Bool=>([(c,.cells (bsr [(34,.slice (some ⟨a34,0,none⟩) 6 c34),(38,.slice (some ⟨a38,0,none⟩) 5 c38),(39,.slice (some ⟨a39,0,none⟩) 5 c39),(60,.slice (some ⟨a60,0,none⟩) 4 c60),(62,.slice (some ⟨a62,0,none⟩) 4 c62)] (.slice aT 5 cT)) 111 (0,0))]::gT::g38::g60::g62::g34::g39::H)) (fun ξ:Int × Bool=>(ξ.1=n2+(s.data.toList.count 62:Int) * 3)∧(ξ.2=false→b2=false∧s.data.toList.count 62=0)) ?_ ?_)
     ·
      refine B1 (b:=(s.data.toList.count 62:Int) != 0) kr (fun hc8=>?_) (fun hc8=>?_)
      ·
       try simp only [decide_eq_true_eq,decide_eq_false_iff_not] at hc8
       refine A1 (L2 (k:=?_))
       refine A6 (j:=4) [0,0,0,0] (k:=C0 (ch:=[]) (s:=(ByteArray.mk #[62])) (kd:=.i64) (j:=0) (hb:=(fun _=>by decide)) (k:=?_))
       refine A6 (j:=7) [0,0] (k:=E0 (ch:=[]) (b:=c) (off:=0) (len:=256) (sz:=1) (e:=37) (kd:=.u8) (j:=62) (hb:=(fun _=>⟨by decide,by decide⟩)) (k:=?_))
       refine E9 (ch:=[]) (b:=c) (off:=62) (v:=.slice (some ⟨a62,0,none⟩) 4 c62) (hA:=At.grp 0 0 rfl rfl) (k:=A6 (j:=12) [0,0,0] (k:=?_))
       refine C3 52 ((s.data.toList.count 62:Int) * 3) (by omega) (by omega) kr (A6 (j:=13) [0] (k:=?_))
       refine C3 53 (n2+((s.data.toList.count 62:Int) * 3)) (by omega) (by omega) kr (B8 (E':=[⟨0,[],pt c⟩,⟨1,[],.string s⟩,⟨5,[],.int .i64 (n2+((s.data.toList.count 62:Int) * 3))⟩,⟨30,[],.slice aT 5 cT⟩,⟨31,[],.int .i64 5⟩,⟨32,[],.int .i64 2⟩]) [0] [0,1,5,30,31,32] (k:=?_))
       refine A0 (G_p [0] [0,1,5,6,30,31,32] (k:=?_))
       refine N_join (n2+((s.data.toList.count 62:Int) * 3),true) [0,1,5,6,30,31,32] kr (fun w h=>h) ⟨(by first | rfl | (simp only [bne_eq_false_iff_eq] at *; omega)),(by intro h; dsimp only at h; first | exact Bool.noConfusion h | (simp only [bne_eq_false_iff_eq] at *; exact ⟨h,by omega⟩))⟩
      ·
       try simp only [decide_eq_true_eq,decide_eq_false_iff_not] at hc8
       refine A7 (N_join (n2,b2) [0,1,5,6,30,31,32] kr (fun w h=>h) ⟨(by first | rfl | (simp only [bne_eq_false_iff_eq] at *; omega)),(by intro h; dsimp only at h; first | exact Bool.noConfusion h | (simp only [bne_eq_false_iff_eq] at *; exact ⟨h,by omega⟩))⟩)
     ·
      rintro ⟨n3,b3⟩ ⟨hn3,hb3⟩
      refine B2 (A0 ?_)
      refine G_p [0,0] [0,1,5,6,30,31,32] (k:=N_rd ?_)
      refine E4 (A1 ?_)
      refine G_p [0] [0,1,5,6,30,31,32,33] (k:=A0 ?_)
      refine A1 (C6 kr ?_)
      refine A7 (A0 ?_)
      refine A1 (B4 ?_)
      refine A1 (A2 ?_)
      refine C4 (ch:=[]) (a:=aT) (len:=5) (cap:=cT) (kd:=.i64) (j:=3) (e:=9) (sz:=1) (S:=(inG gT)) (cs:=I3) (hrd:=hrT) (hb:=(fun _=>by exact ⟨by decide,by decide,by intro h; cases h⟩)) (k:=E6 (ch:=[]) (a:=aT) (q:=3 * 1) (S:=(inG gT)) (cs:=I3) (v:=.string (ByteArray.mk #[60])) (hrd:=hrT) (hS:=D2 1 rfl) (hv:=(fun _=>rfl)) (k:=?_))
      refine B0 [0] [0,1,5,6,8,30,31,32] (k:=A0 ?_)
      refine A1 (A2 ?_)
      refine A6 (j:=2) [0,0] (k:=G4 Tryz.func157 (count_60 s _ _) ?_)
      refine B0 [0] [0,1,5,6,8,9,30,31,32] (k:=A0 ?_)
      refine A1 (G_p [0,0] [0,1,5,6,8,9,30,31,32,40] (k:=?_))
      refine A0 (G_join (T:=Int × Bool) (fun ξ:Int × Bool=>[⟨0,[],pt c⟩,⟨1,[],.string s⟩,⟨5,[],.int .i64 ξ.1⟩,⟨6,[],.bool ξ.2⟩,⟨30,[],.slice aT 5 cT⟩,⟨31,[],.int .i64 5⟩,⟨32,[],.int .i64 3⟩]) (fun ξ:Int × Bool=>([(c,.cells (bsr [(34,.slice (some ⟨a34,0,none⟩) 6 c34),(38,.slice (some ⟨a38,0,none⟩) 5 c38),(39,.slice (some ⟨a39,0,none⟩) 5 c39),(60,.slice (some ⟨a60,0,none⟩) 4 c60),(62,.slice (some ⟨a62,0,none⟩) 4 c62)] (.slice aT 5 cT)) 111 (0,0))]::gT::g38::g60::g62::g34::g39::H)) (fun ξ:Int × Bool=>(ξ.1=n3+(s.data.toList.count 60:Int) * 3)∧(ξ.2=false→b3=false∧s.data.toList.count 60=0)) ?_ ?_)
      ·
       refine B1 (b:=(s.data.toList.count 60:Int) != 0) kr (fun hc11=>?_) (fun hc11=>?_)
       ·
        try simp only [decide_eq_true_eq,decide_eq_false_iff_not] at hc11
        refine A1 (L2 (k:=?_))
        refine A6 (j:=4) [0,0,0,0] (k:=C0 (ch:=[]) (s:=(ByteArray.mk #[60])) (kd:=.i64) (j:=0) (hb:=(fun _=>by decide)) (k:=?_))
        refine A6 (j:=7) [0,0] (k:=E0 (ch:=[]) (b:=c) (off:=0) (len:=256) (sz:=1) (e:=37) (kd:=.u8) (j:=60) (hb:=(fun _=>⟨by decide,by decide⟩)) (k:=?_))
        refine E9 (ch:=[]) (b:=c) (off:=60) (v:=.slice (some ⟨a60,0,none⟩) 4 c60) (hA:=At.grp 0 0 rfl rfl) (k:=A6 (j:=12) [0,0,0] (k:=?_))
        refine C3 52 ((s.data.toList.count 60:Int) * 3) (by omega) (by omega) kr (A6 (j:=13) [0] (k:=?_))
        refine C3 53 (n3+((s.data.toList.count 60:Int) * 3)) (by omega) (by omega) kr (B8 (E':=[⟨0,[],pt c⟩,⟨1,[],.string s⟩,⟨5,[],.int .i64 (n3+((s.data.toList.count 60:Int) * 3))⟩,⟨30,[],.slice aT 5 cT⟩,⟨31,[],.int .i64 5⟩,⟨32,[],.int .i64 3⟩]) [0] [0,1,5,30,31,32] (k:=?_))
        refine A0 (G_p [0] [0,1,5,6,30,31,32] (k:=?_))
        refine N_join (n3+((s.data.toList.count 60:Int) * 3),true) [0,1,5,6,30,31,32] kr (fun w h=>h) ⟨(by first | rfl | (simp only [bne_eq_false_iff_eq] at *; omega)),(by intro h; dsimp only at h; first | exact Bool.noConfusion h | (simp only [bne_eq_false_iff_eq] at *; exact ⟨h,by omega⟩))⟩
       ·
        try simp only [decide_eq_true_eq,decide_eq_false_iff_not] at hc11
        refine A7 (N_join (n3,b3) [0,1,5,6,30,31,32] kr (fun w h=>h) ⟨(by first | rfl | (simp only [bne_eq_false_iff_eq] at *; omega)),(by intro h; dsimp only at h; first | exact Bool.noConfusion h | (simp only [bne_eq_false_iff_eq] at *; exact ⟨h,by omega⟩))⟩)
      ·
       rintro ⟨n4,b4⟩ ⟨hn4,hb4⟩
       refine B2 (A0 ?_)
       refine G_p [0,0] [0,1,5,6,30,31,32] (k:=N_rd ?_)
       refine E4 (A1 ?_)
       refine G_p [0] [0,1,5,6,30,31,32,33] (k:=A0 ?_)
       refine A1 (C6 kr ?_)
       refine A7 (A0 ?_)
       refine A1 (B4 ?_)
       refine A1 (A2 ?_)
       refine C4 (ch:=[]) (a:=aT) (len:=5) (cap:=cT) (kd:=.i64) (j:=4) (e:=9) (sz:=1) (S:=(inG gT)) (cs:=I3) (hrd:=hrT) (hb:=(fun _=>by exact ⟨by decide,by decide,by intro h; cases h⟩)) (k:=E6 (ch:=[]) (a:=aT) (q:=4 * 1) (S:=(inG gT)) (cs:=I3) (v:=.string (ByteArray.mk #[38])) (hrd:=hrT) (hS:=D2 1 rfl) (hv:=(fun _=>rfl)) (k:=?_))
       refine B0 [0] [0,1,5,6,8,30,31,32] (k:=A0 ?_)
       refine A1 (A2 ?_)
       refine A6 (j:=2) [0,0] (k:=G4 Tryz.func157 (count_38 s _ _) ?_)
       refine B0 [0] [0,1,5,6,8,9,30,31,32] (k:=A0 ?_)
       refine A1 (G_p [0,0] [0,1,5,6,8,9,30,31,32,40] (k:=?_))
       refine A0 (G_join (T:=Int × Bool) (fun ξ:Int × Bool=>[⟨0,[],pt c⟩,⟨1,[],.string s⟩,⟨5,[],.int .i64 ξ.1⟩,⟨6,[],.bool ξ.2⟩,⟨30,[],.slice aT 5 cT⟩,⟨31,[],.int .i64 5⟩,⟨32,[],.int .i64 4⟩]) (fun ξ:Int × Bool=>([(c,.cells (bsr [(34,.slice (some ⟨a34,0,none⟩) 6 c34),(38,.slice (some ⟨a38,0,none⟩) 5 c38),(39,.slice (some ⟨a39,0,none⟩) 5 c39),(60,.slice (some ⟨a60,0,none⟩) 4 c60),(62,.slice (some ⟨a62,0,none⟩) 4 c62)] (.slice aT 5 cT)) 111 (0,0))]::gT::g38::g60::g62::g34::g39::H)) (fun ξ:Int × Bool=>(ξ.1=n4+(s.data.toList.count 38:Int) * 4)∧(ξ.2=false→b4=false∧s.data.toList.count 38=0)) ?_ ?_)
       ·
        refine B1 (b:=(s.data.toList.count 38:Int) != 0) kr (fun hc14=>?_) (fun hc14=>?_)
        ·
         try simp only [decide_eq_true_eq,decide_eq_false_iff_not] at hc14
         refine A1 (L2 (k:=?_))
         refine A6 (j:=4) [0,0,0,0] (k:=C0 (ch:=[]) (s:=(ByteArray.mk #[38])) (kd:=.i64) (j:=0) (hb:=(fun _=>by decide)) (k:=?_))
         refine A6 (j:=7) [0,0] (k:=E0 (ch:=[]) (b:=c) (off:=0) (len:=256) (sz:=1) (e:=37) (kd:=.u8) (j:=38) (hb:=(fun _=>⟨by decide,by decide⟩)) (k:=?_))
         refine E9 (ch:=[]) (b:=c) (off:=38) (v:=.slice (some ⟨a38,0,none⟩) 5 c38) (hA:=At.grp 0 0 rfl rfl) (k:=A6 (j:=12) [0,0,0] (k:=?_))
         refine C3 52 ((s.data.toList.count 38:Int) * 4) (by omega) (by omega) kr (A6 (j:=13) [0] (k:=?_))
         refine C3 53 (n4+((s.data.toList.count 38:Int) * 4)) (by omega) (by omega) kr (B8 (E':=[⟨0,[],pt c⟩,⟨1,[],.string s⟩,⟨5,[],.int .i64 (n4+((s.data.toList.count 38:Int) * 4))⟩,⟨30,[],.slice aT 5 cT⟩,⟨31,[],.int .i64 5⟩,⟨32,[],.int .i64 4⟩]) [0] [0,1,5,30,31,32] (k:=?_))
         refine A0 (G_p [0] [0,1,5,6,30,31,32] (k:=?_))
         refine N_join (n4+((s.data.toList.count 38:Int) * 4),true) [0,1,5,6,30,31,32] kr (fun w h=>h) ⟨(by first | rfl | (simp only [bne_eq_false_iff_eq] at *; omega)),(by intro h; dsimp only at h; first | exact Bool.noConfusion h | (simp only [bne_eq_false_iff_eq] at *; exact ⟨h,by omega⟩))⟩
        ·
         try simp only [decide_eq_true_eq,decide_eq_false_iff_not] at hc14
         refine A7 (N_join (n4,b4) [0,1,5,6,30,31,32] kr (fun w h=>h) ⟨(by first | rfl | (simp only [bne_eq_false_iff_eq] at *; omega)),(by intro h; dsimp only at h; first | exact Bool.noConfusion h | (simp only [bne_eq_false_iff_eq] at *; exact ⟨h,by omega⟩))⟩)
       ·
        rintro ⟨n5,b5⟩ ⟨hn5,hb5⟩
        refine B2 (A0 ?_)
        refine G_p [0,0] [0,1,5,6,30,31,32] (k:=N_rd ?_)
        refine E4 (A1 ?_)
        refine G_p [0] [0,1,5,6,30,31,32,33] (k:=A0 ?_)
        refine A1 (D7 kr ?_)
        refine F7 (A8 ?_)
        refine A8 (C2 ?_)
        refine N_join (n5,b5) [0,1,5,6] kr (fun w h=>h) ⟨(by rw [htmlR_count,show s.data.toList.length=s.size from Array.length_toList]; omega),(by intro h; obtain ⟨h1,h2⟩:=hb5 h; obtain ⟨h3,h4⟩:=hb4 h1; obtain ⟨h5,h6⟩:=hb3 h3; obtain ⟨h7,h8⟩:=hb2 h5; obtain ⟨_,h10⟩:=hb1 h7; exact htmlR_same _ h10 h8 h6 h4 h2)⟩
  ·
   try simp only [decide_eq_false_iff_not] at hc1
   refine A1 (G_p [0] [0,1,5,6,10] (k:=?_))
   refine A0 (B4 ?_)
   refine I8 (EI:=(fun ξ:Nat × Int × Bool=>[⟨0,[],pt c⟩,⟨1,[],.string s⟩,⟨5,[],.int .i64 ξ.2.1⟩,⟨6,[],.bool ξ.2.2⟩,⟨10,[],.int .i64 (ξ.1:Int)⟩])) (HI:=(fun ξ:Nat × Int × Bool=>([(c,.cells (bsr [(34,.slice (some ⟨a34,0,none⟩) 6 c34),(38,.slice (some ⟨a38,0,none⟩) 5 c38),(39,.slice (some ⟨a39,0,none⟩) 5 c39),(60,.slice (some ⟨a60,0,none⟩) 4 c60),(62,.slice (some ⟨a62,0,none⟩) 4 c62)] (.slice aT 5 cT)) 111 (0,0))]::gT::g38::g60::g62::g34::g39::H))) (Φ:=(fun ξ:Nat × Int × Bool=>(ξ.1≤s.size)∧(ξ.2.1=((D3 B9 (s.data.toList.take ξ.1)).length:Int)+s.size - ξ.1)∧(ξ.2.2=anyR (s.data.toList.take ξ.1)))) (μ:=(fun ξ:Nat × Int × Bool=>s.size - ξ.1)) (s0:=(0,(s.size:Int),false)) [0,1,5,6,10] kr rfl ⟨(by omega),(by dsimp only; simp [outR_nil]),rfl⟩ ?_
   rintro ⟨i,ns,ac⟩ ⟨hi,hns,hac⟩
   dsimp only at hi hns hac
   have hto:=outR_le6 (s.data.toList.take i)
   rw [List.length_take,hlen,Nat.min_eq_left hi] at hto
   refine A1 (A1 ?_)
   refine G_p [0,0,0,0] [0,1,5,6,10,58] (k:=A0 ?_)
   refine B1 (b:=decide ((i:Int)<(s.size:Int))) kr (fun hc17=>?_) (fun hc17=>?_)
   ·
    try simp only [decide_eq_true_eq] at hc17
    refine A7 (A0 ?_)
    refine A1 (B4 ?_)
    refine A1 (A2 ?_)
    refine A6 (j:=2) [0,0] (k:=C0 (ch:=[]) (s:=s) (kd:=.i64) (j:=(i:Int)) (hb:=(fun _=>by omega)) (k:=?_))
    have hb18:=C7 s (i:Int)
    refine B0 [0] [0,1,5,6,10,11] (k:=A0 ?_)
    refine A1 (A2 ?_)
    refine A6 (j:=4) [0,0,0,0] (k:=E0 (ch:=[]) (b:=c) (off:=0) (len:=256) (sz:=1) (e:=37) (kd:=.u8) (j:=A5 s (i:Int)) (hb:=(fun _=>by have hbx:=C7 s (i:Int); exact ⟨by omega,by omega⟩)) (k:=?_))
    rcases tab_case (.slice aT 5 cT) a38 a60 a62 a34 a39 c38 c60 c62 c34 c39 (s.data.toList.getD i 0) with ⟨A,L,C,u,hmem,hu,hL,hcell⟩ | ⟨hu,hcell⟩
    ·
     have hu4:=u_pos hu
     have hsp:=congrArg List.length (outR_split s.data.toList (show i<s.data.toList.length by omega))
     rw [N2 _ hu] at hsp
     simp only [List.length_append] at hsp
     refine E9 (ch:=[]) (b:=c) (off:=0+Int.toNat (A5 s (i:Int)) * 1) (v:=.slice (some ⟨A,0,none⟩) L C) (hA:=At.grp 0 0 rfl rfl) (hv:=(by rw [cell_ix]; exact hcell)) (k:=B0 [0] [0,1,5,6,10,11,70] (k:=?_))
     refine A0 (C6 kr ?_)
     refine A1 (A2 ?_)
     refine A6 (j:=5) [0,0,0,0,0] (k:=E0 (ch:=[]) (b:=c) (off:=0) (len:=256) (sz:=1) (e:=37) (kd:=.u8) (j:=A5 s (i:Int)) (hb:=(fun _=>by have hbx:=C7 s (i:Int); exact ⟨by omega,by omega⟩)) (k:=?_))
     refine E9 (ch:=[]) (b:=c) (off:=0+Int.toNat (A5 s (i:Int)) * 1) (v:=.slice (some ⟨A,0,none⟩) L C) (hA:=At.grp 0 0 rfl rfl) (hv:=(by rw [cell_ix]; exact hcell)) (k:=A6 (j:=9) [0,0] (k:=?_))
     refine C3 79 (((L:Nat):Int) - 1) (by omega) (by omega) kr (A6 (j:=10) [0] (k:=?_))
     refine C3 80 (ns+(((L:Nat):Int) - 1)) (by omega) (by omega) kr (B0 [0] [0,1,5,10] (k:=?_))
     refine A0 (G_p [0] [0,1,5,6,10] (k:=?_))
     refine B2 (A0 ?_)
     refine A2 (A6 (j:=2) [0,0] (k:=?_))
     refine C3 60 ((i:Int)+1) (by omega) (by omega) kr (B8 (E':=[⟨0,[],pt c⟩,⟨1,[],.string s⟩,⟨5,[],.int .i64 (ns+(((L:Nat):Int) - 1))⟩,⟨6,[],.bool true⟩,⟨10,[],.int .i64 ((i:Int)+1)⟩]) [0] [0,1,5,6,10] (k:=?_))
     refine D8 (s':=(i+1,ns+(((L:Nat):Int) - 1),true)) [0,1,5,6,10] kr rfl ⟨(by omega),(by dsimp only; rw [J6 _ (show i<s.data.toList.length by omega),L7,List.length_append]; first | (rw [N2 _ hu]; omega) | (rw [L0 _ hu]; simp only [List.length_cons,List.length_nil]; omega)),(by dsimp only; rw [J6 _ (show i<s.data.toList.length by omega),anyR_snoc,hu]; simp [])⟩ (by omega)
    ·
     have hsp:=congrArg List.length (outR_split s.data.toList (show i<s.data.toList.length by omega))
     rw [L0 _ hu] at hsp
     simp only [List.length_append,List.length_cons,List.length_nil] at hsp
     refine E9 (ch:=[]) (b:=c) (off:=0+Int.toNat (A5 s (i:Int)) * 1) (v:=.slice none 0 0) (hA:=At.grp 0 0 rfl rfl) (hv:=(by rw [cell_ix]; exact hcell)) (k:=B0 [0] [0,1,5,6,10,11,70] (k:=?_))
     refine A0 (D7 kr ?_)
     refine A7 (B2 ?_)
     refine A0 (A2 ?_)
     refine A6 (j:=2) [0,0] (k:=C3 60 ((i:Int)+1) (by omega) (by omega) kr ?_)
     refine B0 [0] [0,1,5,6,10] (k:=D8 (s':=(i+1,ns,ac)) [0,1,5,6,10] kr rfl ⟨(by omega),(by dsimp only; rw [J6 _ (show i<s.data.toList.length by omega),L7,List.length_append]; first | (rw [N2 _ hu]; omega) | (rw [L0 _ hu]; simp only [List.length_cons,List.length_nil]; omega)),(by dsimp only; rw [J6 _ (show i<s.data.toList.length by omega),anyR_snoc,hu]; simp [hac])⟩ (by omega))
   ·
    try simp only [decide_eq_false_iff_not] at hc17
    refine F7 (A8 ?_)
    refine A8 (C2 ?_)
    refine N_join (ns,ac) [0,1,5,6] kr (fun w h=>h) ⟨(by rw [show i=s.data.toList.length by rw [show s.data.toList.length=s.size from Array.length_toList]; omega] at hns; rw [List.take_length] at hns; omega),(by intro h; rw [show i=s.data.toList.length by rw [show s.data.toList.length=s.size from Array.length_toList]; omega] at hac; rw [List.take_length] at hac; exact anyR_same _ (by rw [← hac]; exact h))⟩
 ·
  rintro ⟨ns,ac⟩ ⟨hN,hA⟩
  dsimp only at hN hA
  refine L5 (E':=[⟨0,[],pt c⟩,⟨1,[],.string s⟩,⟨5,[],.int .i64 ((D3 B9 s.data.toList).length:Int)⟩,⟨6,[],.bool ac⟩]) (by dsimp only; rw [hN]) (A0 ?_)
  refine A1 (A1 ?_)
  refine G_p [0,0] [0,1,5,82] (k:=A0 ?_)
  refine B1 (b:=!ac) kr (fun hc23=>?_) (fun hc23=>?_)
  ·
   try simp only [decide_eq_true_eq,decide_eq_false_iff_not] at hc23
   refine A1 (B3 (E':=[⟨4,[],.string s⟩]) [0,0] [4] (k:=?_))
   refine A0 (B6 ?_)
   refine A3 (B5 [.tmp 4] [.string s] (k:=?_))
   exact ⟨congrArg Value.string (by rw [hA (by first | assumption | simp_all)]),rfl⟩
  ·
   try simp only [decide_eq_true_eq,decide_eq_false_iff_not] at hc23
   refine A7 (A0 ?_)
   refine A1 (A2 ?_)
   refine A6 (j:=1) [0] (k:=GL_makeS (i:=1) (ch:=[]) (t:=37) (e:=5) (inf:=Tryz.t5) (l:=(D3 B9 s.data.toList).length) (c:=(rowZ [] (D3 B9 s.data.toList).length).toList) rfl rfl kr kr kr kr rfl (by show (1:Int) * _≤_; omega) (by omega) (by show (D3 B9 s.data.toList).length * 1≤16777216; omega) (by rw [Array.toArray_toList]; exact madeZ _) kr kr kr (fun B=>?_))
   refine B0 [0] [0,1,12] (k:=A0 ?_)
   refine A1 (G_p [0] [0,1,12,13] (k:=?_))
   refine A0 (A1 ?_)
   refine A1 (G_p [0] [0,1,12,13,14] (k:=?_))
   refine A0 (B4 ?_)
   refine G_heap (H':=([(B,.cells (rowZ [] ((D3 B9 s.data.toList).length)) 5 (0,0))]::[(c,.cells (bsr [(34,.slice (some ⟨a34,0,none⟩) 6 c34),(38,.slice (some ⟨a38,0,none⟩) 5 c38),(39,.slice (some ⟨a39,0,none⟩) 5 c39),(60,.slice (some ⟨a60,0,none⟩) 4 c60),(62,.slice (some ⟨a62,0,none⟩) 4 c62)] (.slice aT 5 cT)) 111 (0,0))]::gT::g38::g60::g62::g34::g39::H)) (fun w h=>by rw [Array.toArray_toList] at h; exact h) (I8 (EI:=(fun ξ:Nat × Nat=>[⟨0,[],pt c⟩,⟨1,[],.string s⟩,⟨12,[],.slice (some ⟨B,0,none⟩) ((D3 B9 s.data.toList).length) ((D3 B9 s.data.toList).length)⟩,⟨13,[],.int .i64 ((D3 B9 (s.data.toList.take ξ.1)).length:Int)⟩,⟨14,[],.int .i64 (ξ.1:Int)⟩])) (HI:=(fun ξ:Nat × Nat=>([(B,.cells (rowZ (D3 B9 (s.data.toList.take ξ.1)) (ξ.2)) 5 (0,0))]::[(c,.cells (bsr [(34,.slice (some ⟨a34,0,none⟩) 6 c34),(38,.slice (some ⟨a38,0,none⟩) 5 c38),(39,.slice (some ⟨a39,0,none⟩) 5 c39),(60,.slice (some ⟨a60,0,none⟩) 4 c60),(62,.slice (some ⟨a62,0,none⟩) 4 c62)] (.slice aT 5 cT)) 111 (0,0))]::gT::g38::g60::g62::g34::g39::H))) (Φ:=(fun ξ:Nat × Nat=>(ξ.1≤s.size)∧(ξ.2+(D3 B9 (s.data.toList.take ξ.1)).length=(D3 B9 s.data.toList).length))) (μ:=(fun ξ:Nat × Nat=>s.size - ξ.1)) (s0:=(0,(D3 B9 s.data.toList).length)) [0,1,12,13,14] kr rfl ⟨(by omega),(by simp [outR_nil])⟩ ?_)
   rintro ⟨i,k⟩ ⟨hi,hk⟩
   dsimp only at hi hk
   have hto:=outR_le6 (s.data.toList.take i)
   rw [List.length_take,hlen,Nat.min_eq_left hi] at hto
   have hto2:=outR_le6 (s.data.toList.drop (i+1))
   refine A1 (A1 ?_)
   refine G_p [0,0,0,0] [0,1,12,13,14,89] (k:=A0 ?_)
   refine B1 (b:=decide ((i:Int)<(s.size:Int))) kr (fun hc24=>?_) (fun hc24=>?_)
   ·
    try simp only [decide_eq_true_eq] at hc24
    refine A7 (A0 ?_)
    refine A1 (B4 ?_)
    refine A1 (A2 ?_)
    refine A6 (j:=2) [0,0] (k:=C0 (ch:=[]) (s:=s) (kd:=.i64) (j:=(i:Int)) (hb:=(fun _=>by omega)) (k:=?_))
    have hb25:=C7 s (i:Int)
    refine B0 [0] [0,1,12,13,14,15] (k:=A0 ?_)
    refine A1 (A2 ?_)
    refine A6 (j:=4) [0,0,0,0] (k:=E0 (ch:=[]) (b:=c) (off:=0) (len:=256) (sz:=1) (e:=37) (kd:=.u8) (j:=A5 s (i:Int)) (hb:=(fun _=>by have hbx:=C7 s (i:Int); exact ⟨by omega,by omega⟩)) (k:=?_))
    rcases tab_case (.slice aT 5 cT) a38 a60 a62 a34 a39 c38 c60 c62 c34 c39 (s.data.toList.getD i 0) with ⟨A,L,C,u,hmem,hu,hL,hcell⟩ | ⟨hu,hcell⟩
    ·
     have hu4:=u_pos hu
     have hsp:=congrArg List.length (outR_split s.data.toList (show i<s.data.toList.length by omega))
     rw [N2 _ hu] at hsp
     simp only [List.length_append] at hsp
     refine E9 (ch:=[]) (b:=c) (off:=0+Int.toNat (A5 s (i:Int)) * 1) (v:=.slice (some ⟨A,0,none⟩) L C) (hA:=At.grp 1 0 rfl rfl) (hv:=(by rw [cell_ix]; exact hcell)) (k:=B0 [0] [0,1,12,13,14,15,101] (k:=?_))
     refine A0 (C6 kr ?_)
     refine G_regionH ([(c,.cells (bsr [(34,.slice (some ⟨a34,0,none⟩) 6 c34),(38,.slice (some ⟨a38,0,none⟩) 5 c38),(39,.slice (some ⟨a39,0,none⟩) 5 c39),(60,.slice (some ⟨a60,0,none⟩) 4 c60),(62,.slice (some ⟨a62,0,none⟩) 4 c62)] (.slice aT 5 cT)) 111 (0,0))]::gT::g38::g60::g62::g34::g39::H) kr (GH_p (fuel:=10) [(0,0),(1,0),(2,0)] (fun w h=>(h.erase 0)) (k:=?_))
     refine O8 (E':=[⟨105,[],.slice (cutA (some ⟨B,0,none⟩) ((D3 B9 s.data.toList).length) (Int.toNat ((D3 B9 (s.data.toList.take i)).length:Int)) 1) ((Int.toNat (((D3 B9 s.data.toList).length:Nat):Int)) - (Int.toNat ((D3 B9 (s.data.toList.take i)).length:Int))) ((D3 B9 s.data.toList).length - (Int.toNat ((D3 B9 (s.data.toList.take i)).length:Int)))⟩,⟨104,[],.int .i64 ((D3 B9 (s.data.toList.take i)).length:Int)⟩,⟨103,[],.slice (some ⟨B,0,none⟩) ((D3 B9 s.data.toList).length) ((D3 B9 s.data.toList).length)⟩,⟨102,[],.int .i64 ((D3 B9 (s.data.toList.take i)).length:Int)⟩,⟨0,[],pt c⟩,⟨1,[],.string s⟩,⟨12,[],.slice (some ⟨B,0,none⟩) ((D3 B9 s.data.toList).length) ((D3 B9 s.data.toList).length)⟩,⟨13,[],.int .i64 ((D3 B9 (s.data.toList.take i)).length:Int)⟩,⟨14,[],.int .i64 (i:Int)⟩,⟨15,[],.int .u8 (A5 s (i:Int))⟩,⟨101,[],.bool true⟩]) 3 kr (fun w h=>(h.erase 0)) ?_ ?_
     ·
      exact GL_sliceL (i:=3) (ch:=[]) (a:=(some ⟨B,0,none⟩)) (len:=(D3 B9 s.data.toList).length) (cap:=(D3 B9 s.data.toList).length) (e:=5) (sz:=1) (vl:=(some (.int .i64 ((D3 B9 (s.data.toList.take i)).length:Int)))) (vh:=none) (l:=((D3 B9 (s.data.toList.take i)).length:Int)) (h:=(((D3 B9 s.data.toList).length:Nat):Int)) rfl rfl kr kr kr kr kr kr kr kr kr kr (fun _=>by omega) (GL_yend kr kr)
     refine GH_env (E':=[⟨105,[],.slice (some ⟨B,(D3 B9 (s.data.toList.take i)).length,none⟩) ((D3 B9 s.data.toList).length - (D3 B9 (s.data.toList.take i)).length) ((D3 B9 s.data.toList).length - (D3 B9 (s.data.toList.take i)).length)⟩,⟨104,[],.int .i64 ((D3 B9 (s.data.toList.take i)).length:Int)⟩,⟨103,[],.slice (some ⟨B,0,none⟩) ((D3 B9 s.data.toList).length) ((D3 B9 s.data.toList).length)⟩,⟨102,[],.int .i64 ((D3 B9 (s.data.toList.take i)).length:Int)⟩,⟨0,[],pt c⟩,⟨1,[],.string s⟩,⟨12,[],.slice (some ⟨B,0,none⟩) ((D3 B9 s.data.toList).length) ((D3 B9 s.data.toList).length)⟩,⟨13,[],.int .i64 ((D3 B9 (s.data.toList.take i)).length:Int)⟩,⟨14,[],.int .i64 (i:Int)⟩,⟨15,[],.int .u8 (A5 s (i:Int))⟩,⟨101,[],.bool true⟩]) (by rw [Int.toNat_natCast,Int.toNat_natCast,cut_some (by omega)]) (GH_p (fuel:=7) [(4,0),(5,0)] (fun w h=>(h.erase 0)) (k:=?_))
     refine GH_nil (ad:=⟨c,0,none⟩) 6 (hL:=(fun w h=>(h.erase 0))) (k:=GH_p (fuel:=5) [(7,0)] (fun w h=>(h.erase 0)) (k:=?_))
     refine O8 8 (hL:=(fun w h=>(h.erase 0))) (hy:=E0 (i:=8) (ch:=[]) (b:=c) (off:=0) (len:=256) (sz:=1) (e:=37) (kd:=.u8) (j:=A5 s (i:Int)) (hb:=(fun _=>by have hbx:=C7 s (i:Int); exact ⟨by omega,by omega⟩)) (k:=GL_yend kr rfl)) (k:=O8 9 kr (fun w h=>(h.erase 0)) (E9 (i:=9) (ch:=[]) (b:=c) (off:=0+Int.toNat (A5 s (i:Int)) * 1) (v:=.slice (some ⟨A,0,none⟩) L C) rfl rfl kr kr kr kr kr (At.grp 0 0 rfl rfl) (by rw [cell_ix]; exact hcell) (GL_yend kr rfl)) ?_)
     refine GH_eff 10 (k:=?_)
     obtain ⟨Q,hrd,hQ⟩:=tab_row hR hmem W0 [(B,.cells (rowZ (D3 B9 (s.data.toList.take i)) (k)) 5 (0,0))] [(c,.cells (bsr [(34,.slice (some ⟨a34,0,none⟩) 6 c34),(38,.slice (some ⟨a38,0,none⟩) 5 c38),(39,.slice (some ⟨a39,0,none⟩) 5 c39),(60,.slice (some ⟨a60,0,none⟩) 4 c60),(62,.slice (some ⟨a62,0,none⟩) 4 c62)] (.slice aT 5 cT)) 111 (0,0))] gT H
     refine GL_copy (i:=10) (ch:=[]) (dT:=37) (sT:=37) (el:=5) (b:=B) (o1:=(D3 B9 (s.data.toList.take i)).length) (n1:=((D3 B9 s.data.toList).length - (D3 B9 (s.data.toList.take i)).length)) (c1:=((D3 B9 s.data.toList).length - (D3 B9 (s.data.toList.take i)).length)) (a:=⟨A,0,none⟩) (n2:=L) (c2:=C) (c:=rowZ (D3 B9 (s.data.toList.take i)) k) (c':=rowZ (D3 B9 (s.data.toList.take i)++u) (k - u.length)) (j:=0) (m:=0) (H':=([(B,.cells (rowZ (D3 B9 (s.data.toList.take i)++u) (k - u.length)) 5 (0,0))]::[(c,.cells (bsr [(34,.slice (some ⟨a34,0,none⟩) 6 c34),(38,.slice (some ⟨a38,0,none⟩) 5 c38),(39,.slice (some ⟨a39,0,none⟩) 5 c39),(60,.slice (some ⟨a60,0,none⟩) 4 c60),(62,.slice (some ⟨a62,0,none⟩) 4 c62)] (.slice aT 5 cT)) 111 (0,0))]::gT::g38::g60::g62::g34::g39::H)) (u8s u) rfl rfl kr kr kr kr kr kr kr rfl rfl (by rw [show (u8s u).length=u.length from List.length_map _,hL]; exact (Nat.min_eq_left (by omega)).symm) (rd_cell hrd hQ) (by rw [rowZ_size,show (u8s u).length=u.length from List.length_map _]; omega) (u8s_one u) (rowZ_copy _ _ _ (by omega)) kr ?_
     have hul:(u8s u).length=u.length:=List.length_map _
     refine GH_back kr (fun w h=>(h.erase 0)) (GH_p (fuel:=1) [(11,0)] (fun w h=>(h.erase 0)) (k:=?_))
     refine GH_wi 113 (((D3 B9 (s.data.toList.take i)).length:Int)+((u8s u).length:Int)) (by omega) (by omega) kr (GH_p (fuel:=0) [(12,0)] (fun w h=>(h.erase 0)) (k:=?_))
     refine GH_done (E':=[⟨0,[],pt c⟩,⟨1,[],.string s⟩,⟨12,[],.slice (some ⟨B,0,none⟩) ((D3 B9 s.data.toList).length) ((D3 B9 s.data.toList).length)⟩,⟨13,[],.int .i64 (((D3 B9 (s.data.toList.take i)).length:Int)+((u8s u).length:Int))⟩,⟨14,[],.int .i64 (i:Int)⟩]) [0,1,12,13,14] (k:=B2 ?_)
     refine A0 (A2 ?_)
     refine A6 (j:=2) [0,0] (k:=C3 91 ((i:Int)+1) (by omega) (by omega) kr ?_)
     refine B0 [0] [0,1,12,13,14] (k:=?_)
     have hj2:((D3 B9 (s.data.toList.take i)).length:Int)+((u8s u).length:Int)=((D3 B9 (s.data.toList.take (i+1))).length:Int):=by rw [J6 _ (show i<s.data.toList.length by omega),L7,List.length_append]; first | (rw [N2 _ hu,show (u8s u).length=u.length from List.length_map _]; omega) | (rw [L0 _ hu]; simp only [List.length_cons,List.length_nil]; omega)
     refine L5 (E':=[⟨0,[],pt c⟩,⟨1,[],.string s⟩,⟨12,[],.slice (some ⟨B,0,none⟩) ((D3 B9 s.data.toList).length) ((D3 B9 s.data.toList).length)⟩,⟨13,[],.int .i64 (((D3 B9 (s.data.toList.take i)).length:Int)+((u8s u).length:Int))⟩,⟨14,[],.int .i64 ((i:Int)+1)⟩]) kr (L5 (E':=[⟨0,[],pt c⟩,⟨1,[],.string s⟩,⟨12,[],.slice (some ⟨B,0,none⟩) ((D3 B9 s.data.toList).length) ((D3 B9 s.data.toList).length)⟩,⟨13,[],.int .i64 ((D3 B9 (s.data.toList.take (i+1))).length:Int)⟩,⟨14,[],.int .i64 ((i:Int)+1)⟩]) (by rw [hj2]) ?_)
     have hl2:(D3 B9 (s.data.toList.take i)++u)=D3 B9 (s.data.toList.take (i+1)):=by rw [J6 _ (show i<s.data.toList.length by omega),L7]; first | rw [N2 _ hu] | rw [L0 _ hu]
     refine N_heq (H':=([(B,.cells (rowZ (D3 B9 (s.data.toList.take (i+1))) (k - u.length)) 5 (0,0))]::[(c,.cells (bsr [(34,.slice (some ⟨a34,0,none⟩) 6 c34),(38,.slice (some ⟨a38,0,none⟩) 5 c38),(39,.slice (some ⟨a39,0,none⟩) 5 c39),(60,.slice (some ⟨a60,0,none⟩) 4 c60),(62,.slice (some ⟨a62,0,none⟩) 4 c62)] (.slice aT 5 cT)) 111 (0,0))]::gT::g38::g60::g62::g34::g39::H)) (by rw [hl2]) (D8 (s':=(i+1,k - u.length)) [0,1,12,13,14] kr rfl ⟨(by omega),(by dsimp only; rw [← hl2,List.length_append]; first | omega | (simp only [List.length_cons,List.length_nil]; omega))⟩ (by omega))
    ·
     have hsp:=congrArg List.length (outR_split s.data.toList (show i<s.data.toList.length by omega))
     rw [L0 _ hu] at hsp
     simp only [List.length_append,List.length_cons,List.length_nil] at hsp
     refine E9 (ch:=[]) (b:=c) (off:=0+Int.toNat (A5 s (i:Int)) * 1) (v:=.slice none 0 0) (hA:=At.grp 1 0 rfl rfl) (hv:=(by rw [cell_ix]; exact hcell)) (k:=B0 [0] [0,1,12,13,14,15,101] (k:=?_))
     refine A0 (D7 kr ?_)
     refine A1 (A2 ?_)
     refine A6 (j:=3) [0,0,0] (k:=C4 (ch:=[]) (a:=(some ⟨B,0,none⟩)) (len:=(D3 B9 s.data.toList).length) (cap:=(D3 B9 s.data.toList).length) (kd:=.i64) (j:=((D3 B9 (s.data.toList.take i)).length:Int)) (e:=5) (sz:=1) (S:=inG [(B,.cells (rowZ (D3 B9 (s.data.toList.take i)) (k)) 5 (0,0))]) (cs:=(rowZ (D3 B9 (s.data.toList.take i)) k).toList) (hrd:=row_rd _ _) (hb:=(fun _=>⟨by omega,by omega,by intro h; have:=congrArg List.length h; rw [Array.length_toList,rowZ_size] at this; simp only [List.length_nil] at this; omega⟩)) (k:=?_))
     refine C8 (E':=[⟨117,[],.pointer (some ⟨B,0+Int.toNat ((D3 B9 (s.data.toList.take i)).length:Int) * 1,none⟩)⟩,⟨116,[],.int .u8 (A5 s (i:Int))⟩,⟨115,[],.int .i64 ((D3 B9 (s.data.toList.take i)).length:Int)⟩,⟨114,[],.slice (some ⟨B,0,none⟩) ((D3 B9 s.data.toList).length) ((D3 B9 s.data.toList).length)⟩,⟨0,[],pt c⟩,⟨1,[],.string s⟩,⟨12,[],.slice (some ⟨B,0,none⟩) ((D3 B9 s.data.toList).length) ((D3 B9 s.data.toList).length)⟩,⟨13,[],.int .i64 ((D3 B9 (s.data.toList.take i)).length:Int)⟩,⟨14,[],.int .i64 (i:Int)⟩,⟨15,[],.int .u8 (A5 s (i:Int))⟩,⟨101,[],.bool false⟩]) (by have hz:([⟨117,[],.pointer (some (eltA (some ⟨B,0,none⟩) (Int.toNat ((D3 B9 (s.data.toList.take i)).length:Int) * 1)))⟩,⟨116,[],.int .u8 (A5 s (i:Int))⟩,⟨115,[],.int .i64 ((D3 B9 (s.data.toList.take i)).length:Int)⟩,⟨114,[],.slice (some ⟨B,0,none⟩) ((D3 B9 s.data.toList).length) ((D3 B9 s.data.toList).length)⟩,⟨0,[],pt c⟩,⟨1,[],.string s⟩,⟨12,[],.slice (some ⟨B,0,none⟩) ((D3 B9 s.data.toList).length) ((D3 B9 s.data.toList).length)⟩,⟨13,[],.int .i64 ((D3 B9 (s.data.toList.take i)).length:Int)⟩,⟨14,[],.int .i64 (i:Int)⟩,⟨15,[],.int .u8 (A5 s (i:Int))⟩,⟨101,[],.bool false⟩]:List Sl)=[⟨117,[],.pointer (some ⟨B,0+Int.toNat ((D3 B9 (s.data.toList.take i)).length:Int) * 1,none⟩)⟩,⟨116,[],.int .u8 (A5 s (i:Int))⟩,⟨115,[],.int .i64 ((D3 B9 (s.data.toList.take i)).length:Int)⟩,⟨114,[],.slice (some ⟨B,0,none⟩) ((D3 B9 s.data.toList).length) ((D3 B9 s.data.toList).length)⟩,⟨0,[],pt c⟩,⟨1,[],.string s⟩,⟨12,[],.slice (some ⟨B,0,none⟩) ((D3 B9 s.data.toList).length) ((D3 B9 s.data.toList).length)⟩,⟨13,[],.int .i64 ((D3 B9 (s.data.toList.take i)).length:Int)⟩,⟨14,[],.int .i64 (i:Int)⟩,⟨15,[],.int .u8 (A5 s (i:Int))⟩,⟨101,[],.bool false⟩]:=(by rw [show Go.Sw.eltA (some ⟨B,0,none⟩) (Int.toNat ((D3 B9 (s.data.toList.take i)).length:Int) * 1)=⟨B,0+Int.toNat ((D3 B9 (s.data.toList.take i)).length:Int) * 1,none⟩ from J1 _ _ _]); exact Eq.trans kr hz) (M0 (ch:=[]) (b:=B) (off:=0+Int.toNat ((D3 B9 (s.data.toList.take i)).length:Int) * 1) (v:=.int .u8 (A5 s (i:Int))) (c:=(rowZ (D3 B9 (s.data.toList.take i)) (k))) (c':=(rowZ (D3 B9 (s.data.toList.take i)++[s.data.toList.getD i 0]) (k - 1))) (j:=0) (m:=0) (H':=([(B,.cells (rowZ (D3 B9 (s.data.toList.take i)++[s.data.toList.getD i 0]) (k - 1)) 5 (0,0))]::[(c,.cells (bsr [(34,.slice (some ⟨a34,0,none⟩) 6 c34),(38,.slice (some ⟨a38,0,none⟩) 5 c38),(39,.slice (some ⟨a39,0,none⟩) 5 c39),(60,.slice (some ⟨a60,0,none⟩) 4 c60),(62,.slice (some ⟨a62,0,none⟩) 4 c62)] (.slice aT 5 cT)) 111 (0,0))]::gT::g38::g60::g62::g34::g39::H)) (hoff:=(by rw [rowZ_size]; show 0+_ * 1+1≤_; rw [Int.toNat_natCast]; omega)) (hfz:=(fun _ _=>L3)) (hc':=(by obtain ⟨k',rfl⟩:∃ k',k=k'+1:=⟨k - 1,by omega⟩; rw [Nat.add_sub_cancel]; show setRow _ _ [.int .u8 (A5 s (i:Int))]=_; rw [byteAt_getD]; exact rowZ_set _ _ _ (by rw [Int.toNat_natCast]; omega))) (k:=?_))
     refine B0 [] [0,1,12,13,14] (k:=A0 ?_)
     refine A2 (A6 (j:=2) [0,0] (k:=?_))
     refine C3 119 (((D3 B9 (s.data.toList.take i)).length:Int)+1) (by omega) (by omega) kr (B0 [0] [0,1,12,13,14] (k:=?_))
     refine B2 (A0 ?_)
     refine A2 (A6 (j:=2) [0,0] (k:=?_))
     refine C3 91 ((i:Int)+1) (by omega) (by omega) kr (B8 (E':=[⟨0,[],pt c⟩,⟨1,[],.string s⟩,⟨12,[],.slice (some ⟨B,0,none⟩) ((D3 B9 s.data.toList).length) ((D3 B9 s.data.toList).length)⟩,⟨13,[],.int .i64 (((D3 B9 (s.data.toList.take i)).length:Int)+1)⟩,⟨14,[],.int .i64 ((i:Int)+1)⟩]) [0] [0,1,12,13,14] (k:=?_))
     have hj2:((D3 B9 (s.data.toList.take i)).length:Int)+1=((D3 B9 (s.data.toList.take (i+1))).length:Int):=by rw [J6 _ (show i<s.data.toList.length by omega),L7,List.length_append]; first | (rw [N2 _ hu,show (u8s u).length=u.length from List.length_map _]; omega) | (rw [L0 _ hu]; simp only [List.length_cons,List.length_nil]; omega)
     refine L5 (E':=[⟨0,[],pt c⟩,⟨1,[],.string s⟩,⟨12,[],.slice (some ⟨B,0,none⟩) ((D3 B9 s.data.toList).length) ((D3 B9 s.data.toList).length)⟩,⟨13,[],.int .i64 ((D3 B9 (s.data.toList.take (i+1))).length:Int)⟩,⟨14,[],.int .i64 ((i:Int)+1)⟩]) (by rw [hj2]) ?_
     have hl2:(D3 B9 (s.data.toList.take i)++[s.data.toList.getD i 0])=D3 B9 (s.data.toList.take (i+1)):=by rw [J6 _ (show i<s.data.toList.length by omega),L7]; first | rw [N2 _ hu] | rw [L0 _ hu]
     refine N_heq (H':=([(B,.cells (rowZ (D3 B9 (s.data.toList.take (i+1))) (k - 1)) 5 (0,0))]::[(c,.cells (bsr [(34,.slice (some ⟨a34,0,none⟩) 6 c34),(38,.slice (some ⟨a38,0,none⟩) 5 c38),(39,.slice (some ⟨a39,0,none⟩) 5 c39),(60,.slice (some ⟨a60,0,none⟩) 4 c60),(62,.slice (some ⟨a62,0,none⟩) 4 c62)] (.slice aT 5 cT)) 111 (0,0))]::gT::g38::g60::g62::g34::g39::H)) (by rw [hl2]) (D8 (s':=(i+1,k - 1)) [0,1,12,13,14] kr rfl ⟨(by omega),(by dsimp only; rw [← hl2,List.length_append]; first | omega | (simp only [List.length_cons,List.length_nil]; omega))⟩ (by omega))
   ·
    try simp only [decide_eq_false_iff_not] at hc24
    refine F7 (A8 ?_)
    refine A8 (C2 ?_)
    refine A0 (A1 ?_)
    refine A2 (A6 (j:=1) [0] (k:=?_))
    refine H4 (ch:=[]) (a:=⟨B,0,none⟩) (cap:=(D3 B9 s.data.toList).length) (e:=5) (S:=(inG [(B,.cells (rowZ (D3 B9 (s.data.toList.take i)) (k)) 5 (0,0))])) (D3 B9 s.data.toList) (hrd:=(by have e1:s.data.toList.take i=s.data.toList:=List.take_of_length_le (by omega); have e2:k=0:=(by rw [e1] at hk; omega); rw [e1,e2]; exact rowZ_rd _ rfl)) (hS:=D2 0 rfl) (k:=B0 [0] [4] (k:=?_))
    refine A0 (B6 ?_)
    refine C9 (H':=([(c,.cells (bsr [(34,.slice (some ⟨a34,0,none⟩) 6 c34),(38,.slice (some ⟨a38,0,none⟩) 5 c38),(39,.slice (some ⟨a39,0,none⟩) 5 c39),(60,.slice (some ⟨a60,0,none⟩) 4 c60),(62,.slice (some ⟨a62,0,none⟩) 4 c62)] (.slice aT 5 cT)) 111 (0,0))]::gT::g38::g60::g62::g34::g39::H)) (fun w h=>(h.erase 0)) (B5 [.tmp 4] [.string ⟨(D3 B9 s.data.toList).toArray⟩] (k:=?_))
    exact ⟨rfl,rfl⟩
end Go.Proofs.YtbnfbffiehoapaaGreatDoor
namespace Go.Sw
open Go.RowKit
theorem shape_of {w:World} {b:Nat} {c:Array Value} {e:TypeId} {fz:Nat × Nat} (h:w.heap[b]? = some (.cells c e fz)):w.shape? b=some (e,c.size):=by simp [World.shape?,h]
theorem GL_toUnsafe {d:Bool} {P:Program} {ops:Array Oper} {i:Nat} {Q:D9} {n:Fr} {E:Env} {W0:World} {H:List Grp} {o:Oper} {ch:List (Nat × Bool)} {src dst t e:TypeId} {x:Operand} {inf:TypeInfo} {b:Nat} {c:Array Value} {fz:Nat × Nat}
    (ho:ops[i]? = some o) (hop:o.op=.convert src dst x) (hx:evO E ch x=some (.pointer (some ⟨b,0,none⟩))) (hs:P.underlying src=some (.pointer t)) (hdd:P.underlying dst=some .unsafePointer) (ht:P.info? t=some inf) (hj:(inf.size != 0)=true)
    (hch:E3 ops E o.guard=some ch) (hd:F9 n ch o.dst=true) (hk:H7 E ch=true)
    (hA:At W0 H b (.cells c e fz)) (hc:(c.size != 0)=true)
    (k:GL d P ops (i+1) Q n (Env.put E o.dst ch (.pointer (some ⟨b,0,none⟩))) W0 H):GL d P ops i Q n E W0 H:=by
  refine G3 ho hch hd hk (fun r hr _ w hsat=>?_) k
  unfold execOp
  simp only [hop]
  rw [hr _ _ hx]
  have:=Go.Lib.run_to_unsafe (P:=P) w ⟨b,0,none⟩ hs hdd ht (by simpa using hj) (shape_of (hsat.at hA)) (Nat.pos_of_ne_zero (by simpa using hc))
  simp only [Sem.run_bind,this,Result.andThen_ok]
  exact ⟨rfl,rfl⟩
theorem GL_fromUnsafe {d:Bool} {P:Program} {ops:Array Oper} {i:Nat} {Q:D9} {n:Fr} {E:Env} {W0:World} {H:List Grp} {o:Oper} {ch:List (Nat × Bool)} {src dst u e:TypeId} {x:Operand} {inf:TypeInfo} {b:Nat} {c:Array Value} {fz:Nat × Nat}
    (ho:ops[i]? = some o) (hop:o.op=.convert src dst x) (hx:evO E ch x=some (.pointer (some ⟨b,0,none⟩))) (hs:P.underlying src=some .unsafePointer) (hdd:P.underlying dst=some (.pointer u)) (ht:P.info? u=some inf)
    (hch:E3 ops E o.guard=some ch) (hd:F9 n ch o.dst=true) (hk:H7 E ch=true)
    (hA:At W0 H b (.cells c e fz)) (hlies:liesAt P P.depth e (c.size / P.cellsOf e) 0 u 1=true)
    (k:GL d P ops (i+1) Q n (Env.put E o.dst ch (.pointer (some ⟨b,0,none⟩))) W0 H):GL d P ops i Q n E W0 H:=by
  refine G3 ho hch hd hk (fun r hr _ w hsat=>?_) k
  unfold execOp
  simp only [hop]
  rw [hr _ _ hx]
  have:=Go.Lib.run_from_unsafe (P:=P) w ⟨b,0,none⟩ hs hdd ht (shape_of (hsat.at hA)) hlies
  simp only [Sem.run_bind,this,Result.andThen_ok]
  exact ⟨rfl,rfl⟩
theorem GL_neqPtr {d:Bool} {P:Program} {ops:Array Oper} {i:Nat} {Q:D9} {n:Fr} {E:Env} {W0:World} {H:List Grp} {o:Oper} {ch:List (Nat × Bool)} {tp te:TypeId} {x y:Operand} {inf:TypeInfo} {a:Addr}
    (ho:ops[i]? = some o) (hop:o.op=.binOp .neq tp x y tp) (hx:evO E ch x=some (.pointer (some a))) (hy:evO E ch y=some (.pointer (some a))) (hp:P.underlying tp=some (.pointer te)) (ht:P.info? te=some inf)
    (hch:E3 ops E o.guard=some ch) (hd:F9 n ch o.dst=true) (hk:H7 E ch=true)
    (k:GL d P ops (i+1) Q n (Env.put E o.dst ch (.bool false)) W0 H):GL d P ops i Q n E W0 H:=by
  refine G3 ho hch hd hk (fun r hr _ w hsat=>?_) k
  unfold execOp
  simp only [hop]
  rw [hr _ _ hx,hr _ _ hy]
  have:=Go.Lib.run_neq_ptr_same (P:=P) w a hp ht
  have hg:(eqGuard .neq tp x y (.pointer (some a)) (.pointer (some a))).run P w=.ok () w:=rfl
  simp only [Sem.run_bind,hg,this,Result.andThen_ok]
  exact ⟨rfl,rfl⟩
theorem GL_sliceData {d:Bool} {P:Program} {ops:Array Oper} {i:Nat} {Q:D9} {n:Fr} {E:Env} {W0:World} {H:List Grp} {o:Oper} {ch:List (Nat × Bool)} {c:Call} {a:Option Addr} {l cap:Nat}
    (ho:ops[i]? = some o:=by exact rfl) (hop:o.op=.call c:=by exact rfl) (hce:c.callee=.builtin .unsafeSliceData:=by exact rfl) (hargs:evL (evO E ch) c.args.toList=some [.slice a l cap]:=by kernel_rfl) (hc:a=none∨cap≠0)
    (hch:E3 ops E o.guard=some ch:=by kernel_rfl) (hd:F9 n ch o.dst=true:=by kernel_rfl) (hk:H7 E ch=true:=by kernel_rfl)
    (k:GL d P ops (i+1) Q n (Env.put E o.dst ch (.pointer a)) W0 H):GL d P ops i Q n E W0 H:=by
  refine G3 ho hch hd hk (fun r hr _ w hsat=>?_) k
  unfold execOp
  have hrun:(Builtin.unsafeSliceData_ c.argTypes o.type #[.slice a l cap]).run P w=.ok (.pointer a) w:=by
    cases a with
    | none=>exact Go.Lib.run_unsafeSliceData_nil (P:=P) w _ _ l cap
    | some a=>exact Go.Lib.run_unsafeSliceData_row (P:=P) w _ _ a l cap (by simpa using hc)
  simp only [hop,resolve,hce,J0 hr hargs,Sem.run_bind,Sem.run_pure,Result.andThen_ok,invoke,Go.builtin,hrun]
  exact ⟨rfl,rfl⟩
theorem GL_sliceData0 {P:Program} {ops:Array Oper} {i:Nat} {Q:D9} {n:Fr} {E:Env} {W0:World} {H:List Grp} {o:Oper} {ch:List (Nat × Bool)} {c:Call} {b:Nat} {l:Nat} {e:TypeId} {cs:Array Value} {et:TypeId} {fz:Nat × Nat}
    (ho:ops[i]? = some o) (hop:o.op=.call c) (hce:c.callee=.builtin .unsafeSliceData) (hargs:evL (evO E ch) c.args.toList=some [.slice (some ⟨b,0,none⟩) l 0]) (hp:P.underlying o.type=some (.pointer e))
    (hch:E3 ops E o.guard=some ch) (hd:F9 n ch o.dst=true) (hsure:I5 E ch=true) (hA:At W0 H b (.cells cs et fz))
    (k:∀ v,GL false P ops (i+1) Q n (Env.put E o.dst ch (.pointer (some ⟨v,0,none⟩))) W0 ([(v,.view ⟨b,0,none⟩ e)]::H)):GL false P ops i Q n E W0 H:=by
  refine GL_eff (R:=fun v H1=>∃ q,v=.pointer (some ⟨q,0,none⟩)∧H1=[(q,.view ⟨b,0,none⟩ e)]::H) ho hch hd hsure (fun r hr w hs=>?_) (by rintro v H1 ⟨q,rfl,rfl⟩; exact k q)
  have hrun:=Go.Lib.run_unsafeSliceData_zero (P:=P) w c.argTypes o.type e hp ⟨b,0,none⟩ l _ (shape_of (hs.at hA))
  refine ⟨_,w.alloc (.view ⟨b,0,none⟩ e),_,⟨w.heap.size,rfl,rfl⟩,hs.new rfl rfl rfl rfl,.inl ?_⟩
  unfold execOp
  simp only [hop,resolve,hce,J0 hr hargs,Sem.run_bind,Sem.run_pure,Result.andThen_ok,invoke,Go.builtin,hrun]
theorem O5 {d:Bool} {P:Program} {ops:Array Oper} {i:Nat} {Q:D9} {n:Fr} {E:Env} {W0:World} {H:List Grp} {o:Oper} {ch:List (Nat × Bool)} {c:Call} {p:Option Addr} {pt it:TypeId}
    (ho:ops[i]? = some o:=by exact rfl) (hop:o.op=.call c:=by exact rfl) (hce:c.callee=.builtin .unsafeString:=by exact rfl) (hat:c.argTypes=#[pt,it]:=by exact rfl) (hargs:evL (evO E ch) c.args.toList=some [.pointer p,.int .i64 0]:=by kernel_rfl)
    (hch:E3 ops E o.guard=some ch:=by kernel_rfl) (hd:F9 n ch o.dst=true:=by kernel_rfl) (hk:H7 E ch=true:=by kernel_rfl)
    (k:GL d P ops (i+1) Q n (Env.put E o.dst ch (.string .empty)) W0 H):GL d P ops i Q n E W0 H:=by
  refine G3 ho hch hd hk (fun r hr _ w hsat=>?_) k
  unfold execOp
  simp only [hop,resolve,hce,hat,J0 hr hargs,Sem.run_bind,Sem.run_pure,Result.andThen_ok,invoke,Go.builtin,Go.Lib.run_unsafeString_none]
  exact ⟨rfl,rfl⟩
theorem freeze_wr {w:World} {b n:Nat} {c:Array Value} {e:TypeId} (h:w.heap[b]? = some (.cells c e (0,0))) (hn:n≠0):Wr b (.cells c e (0,n)) w (w.freeze ⟨b,0,none⟩ n):=by
  have hb:b<w.heap.size:=by
    rcases Nat.lt_or_ge b w.heap.size with h' | h'
    · exact h'
    · simp [Array.getElem?_eq_none h'] at h
  unfold World.freeze
  rw [if_neg hn]
  refine ⟨rfl,rfl,rfl,by simp,?_,fun k hk=>?_⟩
  · simp only [Array.getElem?_modify,h]
    simp
  · simp only [Array.getElem?_modify]
    rw [if_neg (Ne.symm hk)]
theorem GL_unsafeStr {P:Program} {ops:Array Oper} {i:Nat} {Q:D9} {n:Fr} {E:Env} {W0:World} {H:List Grp} {o:Oper} {ch:List (Nat × Bool)} {c:Call} {b j:Nat} {pt it e:TypeId} {cs:Array Value} {l:List UInt8}
    (ho:ops[i]? = some o) (hop:o.op=.call c) (hce:c.callee=.builtin .unsafeString) (hat:c.argTypes=#[pt,it]) (hargs:evL (evO E ch) c.args.toList=some [.pointer (some ⟨b,0,none⟩),.int .i64 (l.length:Int)])
    (hp:P.underlying pt=some (.pointer e)) (hc1:(P.cellsOf e==1)=true)
    (hch:E3 ops E o.guard=some ch) (hd:F9 n ch o.dst=true) (hsure:I5 E ch=true)
    (hj:H[j]? = some [(b,.cells cs e (0,0))]) (h0:l≠[]) (hlc:l.length≤cs.size) (hmax:l.length≤9223372036854775807) (hcell:∀ (k:Nat) x,l[k]? = some x→cs[k]? = some (.int .u8 (x.toNat:Int)))
    (k:GL false P ops (i+1) Q n (Env.put E o.dst ch (.string ⟨l.toArray⟩)) W0 (H.set j [(b,.cells cs e (0,l.length))])):GL false P ops i Q n E W0 H:=by
  refine GL_eff (R:=fun v H1=>v=.string ⟨l.toArray⟩∧H1=H.set j [(b,.cells cs e (0,l.length))]) ho hch hd hsure (fun r hr w hs=>?_) (by rintro v H1 ⟨rfl,rfl⟩; exact k)
  have hi:([(b,Obj.cells cs e (0,0))]:Grp)[0]? = some (b,.cells cs e (0,0)):=rfl
  have hblk:=hs.has _ (List.mem_flatten.2 ⟨_,List.mem_of_getElem? hj,List.mem_of_getElem? hi⟩)
  have hrun:=Go.Lib.run_unsafeString_row (P:=P) w pt it o.type e hp (by simpa using hc1) b cs.size (shape_of hblk) l h0 hlc hmax (fun k x hx=>by
    have:=hcell k x hx
    rw [J1,Nat.zero_add]
    exact L4 hblk this)
  refine ⟨_,_,_,⟨rfl,rfl⟩,hs.wr hj hi (freeze_wr hblk (by simpa using h0)),.inl ?_⟩
  unfold execOp
  simp only [hop,resolve,hce,hat,J0 hr hargs,Sem.run_bind,Sem.run_pure,Result.andThen_ok,invoke,Go.builtin,hrun]
def Bld (b:Nat) (p:Value):Prop:=p=.pointer none∨p=.pointer (some ⟨b,0,none⟩)
theorem bld0 {b:Nat}:Bld b (.pointer none):=.inl rfl
theorem bld1 {b:Nat}:Bld b (.pointer (some ⟨b,0,none⟩)):=.inr rfl
end Go.Sw
namespace Go.Sha
open Go.Sw
structure S8 where
  a:Int
  b:Int
  c:Int
  d:Int
  e:Int
  f:Int
  g:Int
  h:Int
theorem u8s_at {l:List UInt8} {k:Nat} (h:k<l.length):(u8s l)[k]? = some (.int .u8 ((l.getD k 0).toNat:Int)):=by
  simp [u8s,h,List.getD]
def S8.v (s:S8):Value:=.agg #[.int .u32 s.a,.int .u32 s.b,.int .u32 s.c,.int .u32 s.d,.int .u32 s.e,.int .u32 s.f,.int .u32 s.g,.int .u32 s.h]
def b8 (y:Int):UInt8:=UInt8.ofNat (y % 256).toNat
def wd (s:S8) (k:Nat):Int:=[s.a,s.b,s.c,s.d,s.e,s.f,s.g,s.h].getD k 0
theorem u8s_append (a b:List UInt8):u8s (a++b)=u8s a++u8s b:=by simp [u8s]
def digs:ByteArray:=ByteArray.mk #[48,49,50,51,52,53,54,55,56,57,97,98,99,100,101,102]
def hd (i:Int):UInt8:=UInt8.ofNat (A5 digs i).toNat
theorem u8_one {l:List UInt8}:∀ u∈u8s l,u.oneCell'=true:=by
  intro u hu
  obtain ⟨b,_,rfl⟩:=List.mem_map.1 hu
  rfl
end Go.Sha
namespace Go.Proofs.YtbnfbffiehoapaaGreatDoor
open Go.Sw Go.Sha
theorem bytes_len (t:ByteArray):(u8s t.data.toList).length=t.size:=by
  rw [show (u8s t.data.toList).length=_ from List.length_map _,Array.length_toList]; rfl
theorem own_text {v:Value} {g:Grp} {n m:Nat} {t s:ByteArray} (h:Go.Sw.Own 5 1 v g n (u8s t.data.toList++u8s s.data.toList)) (hn:n=m) (hm:m=(t++s).size):Go.Sw.Own 5 1 v g (t++s).size (u8s (t++s).data.toList):=by
  have e:u8s (t++s).data.toList=u8s t.data.toList++u8s s.data.toList:=by rw [ByteArray.data_append,Array.toList_append]; exact List.map_append
  rw [← hm,← hn,e]; exact h
def bldG (b:Nat) (p v:Value):Grp:=[(b,.cells #[p,v] 39 (0,0))]
def BOwn (v:Value) (g:Grp) (t:ByteArray):Prop:=Go.Sw.Own 5 1 v g t.size (u8s t.data.toList)
theorem cc0 (b:Nat) (v:Value) (W0:World) (H:List Grp):Tri Tryz.prog 47 #[pt b] W0 ([(b,.cells #[.pointer none,v] 39 (0,0))]::H) (fun r H'=>r=.tuple #[]∧H'=bldG b (.pointer (some ⟨b,0,none⟩)) v::H):=by
 refine D1 (args:=[pt b]) (n:=20) Tryz.func47 rfl rfl (Nat.le_of_ble_eq_true rfl) ?_
 refine A1 (A2 ?_)
 refine A6 (j:=3) [0,0,0] (k:=E9 (ch:=[]) (b:=b) (off:=0) (v:=.pointer none) (hA:=At.grp 0 0 rfl rfl) (hv:=rfl) (k:=?_))
 refine B8 (E':=[⟨0,[],pt b⟩,⟨6,[],.bool true⟩]) [0] [0,6] (k:=A0 ?_)
 refine C6 kr (A2 ?_)
 refine A6 (j:=2) [0,0] (k:=GL_toUnsafe (i:=2) (ch:=[]) (inf:=Tryz.t39) (t:=39) (e:=39) (b:=b) rfl rfl kr kr kr kr kr kr kr kr (At.grp 0 0 rfl rfl) rfl ?_)
 refine N0 (ch:=[]) (f:=61) (vs:=[pt b]) (v:=pt b) (e:=Extern.AbiNoEscape.same) (hf:=Tryz.func61) (hrun:=(fun w=>Go.Lib.run_noEscape w _)) (k:=GL_fromUnsafe (i:=4) (ch:=[]) (inf:=Tryz.t39) (u:=39) (e:=39) (b:=b) rfl rfl kr kr kr kr kr kr kr (At.grp 0 0 rfl rfl) kr ?_)
 refine A6 (j:=7) [0,0] (k:=GL_st (ch:=[]) (b:=b) (off:=0) (v:=pt b) (j:=0) ([(b,.cells #[pt b,v] 39 (0,0))]::H) (hoff:=Nat.le_of_ble_eq_true rfl) (hfz:=(fun _ _=>L3)) (k:=?_))
 refine B8 (E':=[]) [] [] (k:=B5 [] [] (k:=?_))
 exact ⟨rfl,rfl⟩
theorem cc1 (b:Nat) (v:Value) (W0:World) (H:List Grp):Tri Tryz.prog 47 #[pt b] W0 ([(b,.cells #[pt b,v] 39 (0,0))]::H) (fun r H'=>r=.tuple #[]∧H'=bldG b (.pointer (some ⟨b,0,none⟩)) v::H):=by
 refine D1 (args:=[pt b]) (n:=20) Tryz.func47 rfl rfl (Nat.le_of_ble_eq_true rfl) ?_
 refine A1 (A2 ?_)
 refine A6 (j:=3) [0,0,0] (k:=E9 (ch:=[]) (b:=b) (off:=0) (v:=pt b) (hA:=At.grp 0 0 rfl rfl) (hv:=rfl) (k:=?_))
 refine B8 (E':=[⟨0,[],pt b⟩,⟨6,[],.bool false⟩]) [0] [0,6] (k:=A0 ?_)
 refine D7 kr (A1 ?_)
 refine A2 (A6 (j:=3) [0,0,0] (k:=?_))
 refine E9 (ch:=[]) (b:=b) (off:=0) (v:=pt b) (hA:=At.grp 0 0 rfl rfl) (hv:=rfl) (k:=A6 (j:=5) [0] (k:=?_))
 refine GL_neqPtr (i:=5) (ch:=[]) (inf:=Tryz.t39) (te:=39) (a:=⟨b,0,none⟩) rfl rfl kr kr kr kr kr kr kr (B8 (E':=[⟨19,[],.bool false⟩]) [] [19] (k:=?_))
 refine A0 (D7 kr ?_)
 refine A7 (B5 [] [] (k:=?_))
 exact ⟨rfl,rfl⟩
theorem copyCheck_ (b:Nat) (p v:Value) (hp:Bld b p) (W0:World) (H:List Grp):Tri Tryz.prog 47 #[pt b] W0 (bldG b p v::H) (fun r H'=>r=.tuple #[]∧H'=bldG b (.pointer (some ⟨b,0,none⟩)) v::H):=by
  rcases hp with rfl | rfl
  · exact cc0 b v W0 H
  · exact cc1 b v W0 H
theorem writeString_ (b:Nat) (p v:Value) (g:Grp) (t s:ByteArray) (hp:Bld b p) (hv:BOwn v g t) (hs:t.size+s.size≤140737488355328) (W0:World) (H:List Grp):Tri Tryz.prog 28 #[pt b,.string s] W0 ([(b,.cells #[p,v] 39 (0,0))]::g::H) (fun r H'=>r=.tuple #[.int .i64 (s.size:Int),.nilIface]∧∃ v' g',BOwn v' g' (t++s)∧H'=bldG b (.pointer (some ⟨b,0,none⟩)) v'::g'::H):=by
 refine D1 (args:=[pt b,.string s]) (n:=19) Tryz.func28 rfl rfl (Nat.le_of_ble_eq_true rfl) ?_
 refine A1 (B3 (E':=[⟨0,[],pt b⟩,⟨1,[],.string s⟩]) [0,0] [0,1] (k:=?_))
 refine A0 (A1 ?_)
 refine A2 (A6 (j:=1) [0] (k:=?_))
 refine F2 Tryz.func47 (copyCheck_ b (p) (v) hp _ _) ?_
 rintro r H' ⟨rfl,rfl⟩
 refine B8 (E':=[⟨0,[],pt b⟩,⟨1,[],.string s⟩]) [] [0,1] (k:=A0 ?_)
 refine A1 (A2 ?_)
 refine A6 (j:=4) [0,0,0,0] (k:=E9 (ch:=[]) (b:=b) (off:=1) (v:=v) (hA:=At.grp 0 0 rfl rfl) (hv:=rfl) (k:=?_))
 refine A6 (j:=6) [0] (k:=F3 (i:=6) (ch:=[]) (t:=37) (tx:=9) (e:=5) (inf:=Tryz.t5) (s:=v) (x:=.string s) (n:=t.size) (m:=s.size) (j:=1) (cs:=(u8s t.data.toList)) (news:=(u8s s.data.toList)) (g:=g) (S:=(inB W0)) rfl rfl rfl rfl kr kr kr rfl rfl (.inr ⟨kr,rfl⟩) (fun _=>⟨rfl,kr⟩) (fun ⟨_,_,_,h⟩=>by cases h) kr kr kr rfl hv (SrcOf.str s) at_inB (by rw [show (u8s s.data.toList).length=_ from List.length_map _,Array.length_toList]; exact (Nat.mul_one _).symm) u8_one (by omega) (by show (t.size+s.size) * 1≤140737488355328; omega) (fun v1 g2 hO3=>?_))
 obtain ⟨a4,cap5,rfl,hcap6,hrd7⟩:=hO3.shape
 refine A6 (j:=9) [0,0] (k:=GL_st (ch:=[]) (b:=b) (off:=1) (v:=.slice a4 (t.size+s.size) cap5) (j:=0) ([(b,.cells #[pt b,.slice a4 (t.size+s.size) cap5] 39 (0,0))]::g2::H) (hoff:=Nat.le_of_ble_eq_true rfl) (hfz:=(fun _ _=>L3)) (k:=?_))
 refine B8 (E':=[⟨1,[],.string s⟩]) [] [1] (k:=A0 ?_)
 refine A1 (G_p [0,0,0,0] [4,5] (k:=?_))
 refine A0 (B6 ?_)
 refine B5 [.tmp 4,.tmp 5] [.int .i64 (s.size:Int),.nilIface] (k:=?_)
 exact ⟨rfl,_,_,own_text hO3 rfl (by simp [ByteArray.size_append]),rfl⟩
theorem writeString (b:Nat) (p v:Value) (g:Grp) (t s:ByteArray) (hp:Bld b p) (hv:BOwn v g t) (hs:t.size+s.size≤140737488355328) (W0:World) (H:List Grp):Tri Tryz.prog 28 #[pt b,.string s] W0 (bldG b p v::g::H) (fun r H'=>r=.tuple #[.int .i64 (s.size:Int),.nilIface]∧∃ v' g',BOwn v' g' (t++s)∧H'=bldG b (.pointer (some ⟨b,0,none⟩)) v'::g'::H):=writeString_ b p v g t s hp hv hs W0 H
theorem bStr0 (b:Nat) (p:Value) (W0:World) (H:List Grp):Tri Tryz.prog 29 #[pt b] W0 ([(b,.cells #[p,.slice none 0 0] 39 (0,0))]::H) (fun v H'=>v=.string .empty∧H'=bldG b p (.slice none 0 0)::H):=by
 refine D1 (args:=[pt b]) (n:=14) Tryz.func29 rfl rfl (Nat.le_of_ble_eq_true rfl) ?_
 refine A1 (B3 (E':=[⟨0,[],pt b⟩]) [0] [0] (k:=?_))
 refine A0 (A1 ?_)
 refine L2 (k:=A6 (j:=3) [0,0,0] (k:=?_))
 refine E9 (ch:=[]) (b:=b) (off:=1) (v:=.slice none 0 0) (hA:=At.grp 0 0 rfl rfl) (hv:=rfl) (k:=GL_sliceData (ch:=[]) (a:=none) (l:=0) (cap:=0) (hc:=.inl rfl) (k:=?_))
 refine A6 (j:=8) [0,0,0] (k:=E9 (ch:=[]) (b:=b) (off:=1) (v:=.slice none 0 0) (hA:=At.grp 0 0 rfl rfl) (hv:=rfl) (k:=?_))
 refine A6 (j:=10) [0] (k:=O5 (ch:=[]) (p:=none) (pt:=75) (it:=3) (k:=?_))
 refine B8 (E':=[⟨2,[],.string .empty⟩]) [0] [2] (k:=A0 ?_)
 refine B6 (B5 [.tmp 2] [.string .empty] (k:=?_))
 exact ⟨rfl,rfl⟩
theorem bStr1 (b:Nat) (p:Value) (a:Nat) (cs:Array Value) (W0:World) (H:List Grp):Tri Tryz.prog 29 #[pt b] W0 ([(b,.cells #[p,.slice (some ⟨a,0,none⟩) 0 0] 39 (0,0))]::[(a,.cells cs 5 (0,0))]::H) (fun v H'=>v=.string .empty∧∃ x,H'=x::bldG b p (.slice (some ⟨a,0,none⟩) 0 0)::[(a,.cells cs 5 (0,0))]::H):=by
 refine D1 (args:=[pt b]) (n:=14) Tryz.func29 rfl rfl (Nat.le_of_ble_eq_true rfl) ?_
 refine A1 (B3 (E':=[⟨0,[],pt b⟩]) [0] [0] (k:=?_))
 refine A0 (A1 ?_)
 refine G_regionH ([(b,.cells #[p,.slice (some ⟨a,0,none⟩) 0 0] 39 (0,0))]::[(a,.cells cs 5 (0,0))]::H) kr (GH_p (fuel:=11) [(0,0)] (fun w h=>h) (k:=?_))
 refine GH_nil (ad:=⟨b,0,none⟩) 1 (hL:=(fun w h=>h)) (k:=GH_p (fuel:=9) [(2,0)] (fun w h=>h) (k:=?_))
 refine O8 3 kr (fun w h=>h) (E9 (i:=3) (ch:=[]) (b:=b) (off:=1) (v:=.slice (some ⟨a,0,none⟩) 0 0) rfl rfl kr kr kr kr kr (At.grp 0 0 rfl rfl) rfl (GL_yend kr rfl)) (GH_p (fuel:=7) [(5,0)] (fun w h=>h) (k:=?_))
 refine GH_nil (ad:=⟨b,0,none⟩) 6 (hL:=(fun w h=>h)) (k:=GH_p (fuel:=5) [(7,0)] (fun w h=>h) (k:=?_))
 refine O8 8 kr (fun w h=>h) (E9 (i:=8) (ch:=[]) (b:=b) (off:=1) (v:=.slice (some ⟨a,0,none⟩) 0 0) rfl rfl kr kr kr kr kr (At.grp 0 0 rfl rfl) rfl (GL_yend kr rfl)) (GH_pev (v:=.int .i64 0) 9 rfl rfl kr kr kr kr kr (fun w h=>h) ?_)
 refine GH_eff 4 (k:=GL_sliceData0 (i:=4) (ch:=[]) (b:=a) (l:=0) (e:=5) rfl rfl rfl kr kr kr kr kr (At.grp 1 0 rfl rfl) (fun b1=>?_))
 refine GH_back kr (fun w h=>(h.erase 0)) (GH_more ([(b1,.view ⟨a,0,none⟩ 5)]::[(b,.cells #[p,.slice (some ⟨a,0,none⟩) 0 0] 39 (0,0))]::[(a,.cells cs 5 (0,0))]::H) (fun w h=>(h.erase 0)) ?_)
 refine GH_eff 10 (k:=O5 (ch:=[]) (p:=some ⟨b1,0,none⟩) (pt:=75) (it:=3) (k:=?_))
 refine GH_back kr (fun w h=>h) (GH_p (fuel:=0) [(11,0)] (fun w h=>h) (k:=?_))
 refine GH_done (E':=[⟨2,[],.string .empty⟩]) [2] (k:=A0 ?_)
 refine B6 (B5 [.tmp 2] [.string .empty] (k:=?_))
 exact ⟨rfl,_,rfl⟩
theorem bStr2 (b:Nat) (p:Value) (a:Nat) (cs:Array Value) (c:Nat) (hc:c≠0) (W0:World) (H:List Grp):Tri Tryz.prog 29 #[pt b] W0 ([(b,.cells #[p,.slice (some ⟨a,0,none⟩) 0 c] 39 (0,0))]::[(a,.cells cs 5 (0,0))]::H) (fun v H'=>v=.string .empty∧H'=bldG b p (.slice (some ⟨a,0,none⟩) 0 c)::[(a,.cells cs 5 (0,0))]::H):=by
 refine D1 (args:=[pt b]) (n:=14) Tryz.func29 rfl rfl (Nat.le_of_ble_eq_true rfl) ?_
 refine A1 (B3 (E':=[⟨0,[],pt b⟩]) [0] [0] (k:=?_))
 refine A0 (A1 ?_)
 refine L2 (k:=A6 (j:=3) [0,0,0] (k:=?_))
 refine E9 (ch:=[]) (b:=b) (off:=1) (v:=.slice (some ⟨a,0,none⟩) 0 c) (hA:=At.grp 0 0 rfl rfl) (hv:=rfl) (k:=GL_sliceData (ch:=[]) (a:=(some ⟨a,0,none⟩)) (l:=0) (cap:=c) (hc:=.inr hc) (k:=?_))
 refine A6 (j:=8) [0,0,0] (k:=E9 (ch:=[]) (b:=b) (off:=1) (v:=.slice (some ⟨a,0,none⟩) 0 c) (hA:=At.grp 0 0 rfl rfl) (hv:=rfl) (k:=?_))
 refine A6 (j:=10) [0] (k:=O5 (ch:=[]) (p:=some ⟨a,0,none⟩) (pt:=75) (it:=3) (k:=?_))
 refine B8 (E':=[⟨2,[],.string .empty⟩]) [0] [2] (k:=A0 ?_)
 refine B6 (B5 [.tmp 2] [.string .empty] (k:=?_))
 exact ⟨rfl,rfl⟩
theorem bStr3 (b:Nat) (p:Value) (a:Nat) (cs:Array Value) (c:Nat) (l:List UInt8) (hc:c≠0) (h0:l≠[]) (hlc:l.length≤cs.size) (hmax:l.length≤9223372036854775807) (hcell:∀ (k:Nat) x,l[k]? = some x→cs[k]? = some (.int .u8 (x.toNat:Int))) (W0:World) (H:List Grp):Tri Tryz.prog 29 #[pt b] W0 ([(b,.cells #[p,.slice (some ⟨a,0,none⟩) l.length c] 39 (0,0))]::[(a,.cells cs 5 (0,0))]::H) (fun v H'=>v=.string ⟨l.toArray⟩∧H'=bldG b p (.slice (some ⟨a,0,none⟩) l.length c)::[(a,.cells cs 5 (0,l.length))]::H):=by
 refine D1 (args:=[pt b]) (n:=14) Tryz.func29 rfl rfl (Nat.le_of_ble_eq_true rfl) ?_
 refine A1 (B3 (E':=[⟨0,[],pt b⟩]) [0] [0] (k:=?_))
 refine A0 (A1 ?_)
 refine G_regionH ([(b,.cells #[p,.slice (some ⟨a,0,none⟩) l.length c] 39 (0,0))]::H) kr (GH_p (fuel:=11) [(0,0)] (fun w h=>(h.erase 1)) (k:=?_))
 refine GH_nil (ad:=⟨b,0,none⟩) 1 (hL:=(fun w h=>(h.erase 1))) (k:=GH_p (fuel:=9) [(2,0)] (fun w h=>(h.erase 1)) (k:=?_))
 refine O8 3 kr (fun w h=>(h.erase 1)) (E9 (i:=3) (ch:=[]) (b:=b) (off:=1) (v:=.slice (some ⟨a,0,none⟩) l.length c) rfl rfl kr kr kr kr kr (At.grp 0 0 rfl rfl) rfl (GL_yend kr rfl)) (GH_p (fuel:=7) [(5,0)] (fun w h=>(h.erase 1)) (k:=?_))
 refine GH_nil (ad:=⟨b,0,none⟩) 6 (hL:=(fun w h=>(h.erase 1))) (k:=GH_p (fuel:=5) [(7,0)] (fun w h=>(h.erase 1)) (k:=?_))
 refine O8 8 kr (fun w h=>(h.erase 1)) (E9 (i:=8) (ch:=[]) (b:=b) (off:=1) (v:=.slice (some ⟨a,0,none⟩) l.length c) rfl rfl kr kr kr kr kr (At.grp 0 0 rfl rfl) rfl (GL_yend kr rfl)) (GH_pev (v:=.int .i64 ((l.length:Nat):Int)) 9 rfl rfl kr kr kr kr kr (fun w h=>(h.erase 1)) ?_)
 refine GH_eff 4 (k:=GL_sliceData (ch:=[]) (a:=(some ⟨a,0,none⟩)) (l:=l.length) (cap:=c) (hc:=.inr hc) (k:=?_))
 refine GH_back kr (fun w h=>(h.erase 1)) (GH_eff 10 (k:=?_))
 refine GL_unsafeStr (i:=10) (ch:=[]) (b:=a) (j:=1) (pt:=75) (it:=3) (e:=5) (cs:=cs) (l:=l) rfl rfl rfl rfl kr kr kr kr kr kr rfl h0 hlc hmax hcell (GH_back kr (fun w h=>(h.erase 1)) ?_)
 refine GH_p (fuel:=0) [(11,0)] (fun w h=>(h.erase 1)) (k:=GH_done (E':=[⟨2,[],.string ⟨l.toArray⟩⟩]) [2] (k:=?_))
 refine A0 (B6 ?_)
 refine B5 [.tmp 2] [.string ⟨l.toArray⟩] (k:=?_)
 exact ⟨rfl,rfl⟩
theorem u8_at (t:ByteArray) (junk:List Value) (k:Nat) (x:UInt8) (h:t.data.toList[k]? = some x):((u8s t.data.toList++junk).toArray)[k]? = some (.int .u8 (x.toNat:Int)):=by
  obtain ⟨hk,hx⟩:=List.getElem?_eq_some_iff.1 h
  rw [List.getElem?_toArray,List.getElem?_append_left (by simpa [u8s] using hk)]
  simp [u8s,h]
theorem J8 (b:Nat) (p v:Value) (g:Grp) (t:ByteArray) (hv:BOwn v g t) (hs:t.size≤140737488355328) (W0:World) (H:List Grp):Tri Tryz.prog 29 #[pt b] W0 (bldG b p v::g::H) (fun r H'=>r=.string t∧H'=bldG b p v::H):=by
  obtain ⟨hl,⟨rfl,rfl,h0⟩ | ⟨a,cap,junk,rfl,rfl,hcap,hj⟩⟩:=hv
  · have ht:t=.empty:=by cases t with | mk d=>(have:d=#[]:=Array.eq_empty_of_size_eq_zero h0); rw [this]; rfl
    subst ht
    exact Tri.heap (fun _ h=>h.erase 1) (bStr0 b p W0 H)
  · by_cases h0:t.size=0
    · have ht:t=.empty:=by cases t with | mk d=>(have:d=#[]:=Array.eq_empty_of_size_eq_zero h0); rw [this]; rfl
      by_cases hc:cap=0
      · subst hc; subst ht
        exact Tri.post (bStr1 b p a _ W0 H) fun v H' ⟨h1,x,h2⟩=>⟨_,⟨h1,rfl⟩,fun w hw=>by rw [h2] at hw; exact (hw.erase 2).erase 0⟩
      · subst ht
        exact Tri.post (bStr2 b p a _ cap hc W0 H) fun v H' ⟨h1,h2⟩=>⟨_,⟨h1,rfl⟩,fun w hw=>by rw [h2] at hw; exact hw.erase 1⟩
    · have hcap0:cap≠0:=by omega
      have hlen:t.data.toList.length=t.size:=Array.length_toList
      have:=bStr3 b p a (u8s t.data.toList++junk).toArray cap t.data.toList hcap0 (fun h=>h0 (by rw [← hlen,h]; rfl)) (by rw [List.size_toArray,List.length_append,bytes_len,hlen]; omega) (by omega) (u8_at t junk) W0 H
      rw [hlen] at this
      exact Tri.post this fun v H' ⟨h1,h2⟩=>⟨_,⟨by rw [h1],rfl⟩,fun w hw=>by rw [h2] at hw; exact hw.erase 1⟩
end Go.Proofs.YtbnfbffiehoapaaGreatDoor
namespace Go.Proofs.YtbnfbffiehoapaaGreatDoor
open Go.Sw Go.Sha Go.Esc
theorem w8m (x:Int):IntKind.wrap .u8 x=x % 256:=by first | rfl | simp [IntKind.wrap,IntKind.bits,IntKind.signed]
theorem w32u {x:Int} (h0:0≤x) (h1:x<4294967296):IntKind.wrap .u32 x=x:=by
  rw [show IntKind.wrap .u32 x=x % 4294967296 from by first | rfl | simp [IntKind.wrap,IntKind.bits,IntKind.signed]]; omega
theorem or192 {y:Int} (h0:0≤y) (h1:y<32):IntKind.wrap .u8 ((BitVec.ofInt (IntKind.bits .u8) 192 ||| BitVec.ofInt (IntKind.bits .u8) y).toNat)=192+y:=by
  have h:∀ n:Fin 32,IntKind.wrap .u8 ((BitVec.ofInt (IntKind.bits .u8) 192 ||| BitVec.ofInt (IntKind.bits .u8) (n.val:Int)).toNat)=192+(n.val:Int):=by decide +kernel
  have:=h ⟨y.toNat,by omega⟩
  simpa [show ((y.toNat:Nat):Int)=y by omega] using this
theorem or224 {y:Int} (h0:0≤y) (h1:y<16):IntKind.wrap .u8 ((BitVec.ofInt (IntKind.bits .u8) 224 ||| BitVec.ofInt (IntKind.bits .u8) y).toNat)=224+y:=by
  have h:∀ n:Fin 16,IntKind.wrap .u8 ((BitVec.ofInt (IntKind.bits .u8) 224 ||| BitVec.ofInt (IntKind.bits .u8) (n.val:Int)).toNat)=224+(n.val:Int):=by decide +kernel
  have:=h ⟨y.toNat,by omega⟩
  simpa [show ((y.toNat:Nat):Int)=y by omega] using this
theorem or240 {y:Int} (h0:0≤y) (h1:y<8):IntKind.wrap .u8 ((BitVec.ofInt (IntKind.bits .u8) 240 ||| BitVec.ofInt (IntKind.bits .u8) y).toNat)=240+y:=by
  have h:∀ n:Fin 8,IntKind.wrap .u8 ((BitVec.ofInt (IntKind.bits .u8) 240 ||| BitVec.ofInt (IntKind.bits .u8) (n.val:Int)).toNat)=240+(n.val:Int):=by decide +kernel
  have:=h ⟨y.toNat,by omega⟩
  simpa [show ((y.toNat:Nat):Int)=y by omega] using this
theorem lo63 {y:Int} (h0:0≤y) (h1:y<256):IntKind.wrap .u8 ((BitVec.ofInt (IntKind.bits .u8) 128 ||| BitVec.ofInt (IntKind.bits .u8) (IntKind.wrap .u8 ((BitVec.ofInt (IntKind.bits .u8) y &&& BitVec.ofInt (IntKind.bits .u8) 63).toNat))).toNat)=128+y % 64:=by
  have h:∀ n:Fin 256,IntKind.wrap .u8 ((BitVec.ofInt (IntKind.bits .u8) 128 ||| BitVec.ofInt (IntKind.bits .u8) (IntKind.wrap .u8 ((BitVec.ofInt (IntKind.bits .u8) (n.val:Int) &&& BitVec.ofInt (IntKind.bits .u8) 63).toNat))).toNat)=128+(n.val:Int) % 64:=by decide +kernel
  have:=h ⟨y.toNat,by omega⟩
  simpa [show ((y.toNat:Nat):Int)=y by omega] using this
theorem hi2 {r:Int} (h0:128≤r) (h1:r≤2047):IntKind.wrap .u8 ((BitVec.ofInt (IntKind.bits .u8) 192 ||| BitVec.ofInt (IntKind.bits .u8) (IntKind.wrap .u8 (Int.fdiv r (2 ^ 6)))).toNat)=192+r / 64:=by
  rw [w8m (Int.fdiv r (2 ^ 6)),Int.fdiv_eq_ediv_of_nonneg _ (by decide),or192 (by omega) (by omega)]; omega
theorem hi3 {r:Int} (h0:2048≤r) (h1:r≤65535):IntKind.wrap .u8 ((BitVec.ofInt (IntKind.bits .u8) 224 ||| BitVec.ofInt (IntKind.bits .u8) (IntKind.wrap .u8 (Int.fdiv r (2 ^ 12)))).toNat)=224+r / 4096:=by
  rw [w8m (Int.fdiv r (2 ^ 12)),Int.fdiv_eq_ediv_of_nonneg _ (by decide),or224 (by omega) (by omega)]; omega
theorem hi4 {r:Int} (h0:65536≤r) (h1:r≤1114111):IntKind.wrap .u8 ((BitVec.ofInt (IntKind.bits .u8) 240 ||| BitVec.ofInt (IntKind.bits .u8) (IntKind.wrap .u8 (Int.fdiv r (2 ^ 18)))).toNat)=240+r / 262144:=by
  rw [w8m (Int.fdiv r (2 ^ 18)),Int.fdiv_eq_ediv_of_nonneg _ (by decide),or240 (by omega) (by omega)]; omega
theorem lo0 {r:Int} (_:0≤r):IntKind.wrap .u8 ((BitVec.ofInt (IntKind.bits .u8) 128 ||| BitVec.ofInt (IntKind.bits .u8) (IntKind.wrap .u8 ((BitVec.ofInt (IntKind.bits .u8) (IntKind.wrap .u8 r) &&& BitVec.ofInt (IntKind.bits .u8) 63).toNat))).toNat)=128+r % 64:=by
  rw [w8m r,lo63 (by omega) (by omega)]; omega
theorem lo6 {r:Int} (_:0≤r):IntKind.wrap .u8 ((BitVec.ofInt (IntKind.bits .u8) 128 ||| BitVec.ofInt (IntKind.bits .u8) (IntKind.wrap .u8 ((BitVec.ofInt (IntKind.bits .u8) (IntKind.wrap .u8 (Int.fdiv r (2 ^ 6))) &&& BitVec.ofInt (IntKind.bits .u8) 63).toNat))).toNat)=128+r / 64 % 64:=by
  rw [w8m (Int.fdiv r (2 ^ 6)),Int.fdiv_eq_ediv_of_nonneg _ (by decide),lo63 (by omega) (by omega)]; omega
theorem lo12 {r:Int} (_:0≤r):IntKind.wrap .u8 ((BitVec.ofInt (IntKind.bits .u8) 128 ||| BitVec.ofInt (IntKind.bits .u8) (IntKind.wrap .u8 ((BitVec.ofInt (IntKind.bits .u8) (IntKind.wrap .u8 (Int.fdiv r (2 ^ 12))) &&& BitVec.ofInt (IntKind.bits .u8) 63).toNat))).toNat)=128+r / 4096 % 64:=by
  rw [w8m (Int.fdiv r (2 ^ 12)),Int.fdiv_eq_ediv_of_nonneg _ (by decide),lo63 (by omega) (by omega)]; omega
def encB (r:Int):ByteArray:=⟨(Lib.encodeRune r).toArray⟩
theorem H3 (r:Int):(encB r).data.toList=Lib.encodeRune r:=by simp [encB]
theorem encB_size (r:Int):1≤(encB r).size∧(encB r).size≤4:=by
  have:=Lib.encodeRuneZ_length r
  have e:(encB r).size=(Lib.encodeRuneZ r).length:=by simp [encB,ByteArray.size,Lib.encodeRune]
  omega
theorem N9 (r:Int):u8s (Lib.encodeRune r)=(Lib.encodeRuneZ r).map (Value.int .u8):=by
  unfold u8s Lib.encodeRune
  rw [List.map_map]
  refine List.map_congr_left fun x hx=>?_
  have:=Lib.encodeRuneZ_byte r x hx
  show Value.int .u8 ((x.toNat.toUInt8.toNat:Nat):Int)=_
  rw [byteZ x this.1 this.2]; congr 1; omega
theorem own_put {v:Value} {g:Grp} {n m:Nat} {t s:ByteArray} {cs:List Value} (h:Go.Sw.Own 5 1 v g (n+m) (u8s t.data.toList++cs)) (hn:n=t.size) (hc:cs=u8s s.data.toList) (hm:m=s.size):BOwn v g (t++s):=by
  subst hc; subst hn; subst hm
  exact own_text h rfl (by simp)
theorem appNon_ (v:Value) (g:Grp) (t:ByteArray) (r:Int) (hv:BOwn v g t) (hr:isR r) (hna:128≤r) (hs:t.size+4≤140737488355328) (W0:World) (H:List Grp):Tri Tryz.prog 65 #[v,.int .i32 r] W0 (g::H) (fun x H'=>∃ v' g',x=v'∧BOwn v' g' (t++encB r)∧H'=g'::H):=by
 obtain ⟨hr0,hr1,hr2⟩:=hr
 refine D1 (args:=[v,.int .i32 r]) (n:=78) Tryz.func65 rfl rfl (Nat.le_of_ble_eq_true rfl) ?_
 refine A1 (B3 (E':=[⟨0,[],v⟩,⟨1,[],.int .i32 r⟩]) [0] [0,1] (k:=?_))
 refine A0 (A1 ?_)
 have hw1:IntKind.wrap .u32 r=r:=w32u (by omega) (by omega)
 refine B3 (E':=[⟨0,[],v⟩,⟨1,[],.int .i32 r⟩,⟨5,[],.int .u32 r⟩]) [0,0,0] [0,1,5] rfl (Eq.trans (b:=some [⟨0,[],v⟩,⟨1,[],.int .i32 r⟩,⟨5,[],.int .u32 (IntKind.wrap .u32 r)⟩]) kr (by simp only [hw1])) (A0 ?_)
 refine B4 (A1 ?_)
 refine G_p [0,0,0] [0,1,5,11] (k:=A0 ?_)
 refine B1 (b:=decide (r≤2047)) kr (fun hc2=>?_) (fun hc2=>?_)
 ·
  simp only [decide_eq_true_eq] at hc2
  refine A1 (A2 ?_)
  refine C1 (E':=[⟨18,[],.int .u8 (IntKind.wrap .u8 ((BitVec.ofInt (IntKind.bits .u8) 192 ||| BitVec.ofInt (IntKind.bits .u8) (IntKind.wrap .u8 (Int.fdiv r (2 ^ 6)))).toNat))⟩,⟨14,[],v⟩,⟨1,[],.int .i32 r⟩]) (j:=5) [0,0,0,0,0] (k:=C8 (E':=[⟨18,[],.int .u8 (192+r / 64)⟩,⟨14,[],v⟩,⟨1,[],.int .i32 r⟩]) (by rw [hi2 (by omega) (by omega)]) ?_)
  refine C1 (E':=[⟨22,[],.int .u8 (IntKind.wrap .u8 ((BitVec.ofInt (IntKind.bits .u8) 128 ||| BitVec.ofInt (IntKind.bits .u8) (IntKind.wrap .u8 ((BitVec.ofInt (IntKind.bits .u8) (IntKind.wrap .u8 r) &&& BitVec.ofInt (IntKind.bits .u8) 63).toNat))).toNat))⟩,⟨18,[],.int .u8 (192+r / 64)⟩,⟨14,[],v⟩]) (j:=9) [0,0,0,0] (k:=C8 (E':=[⟨22,[],.int .u8 (128+r % 64)⟩,⟨18,[],.int .u8 (192+r / 64)⟩,⟨14,[],v⟩]) (by rw [lo0 (by omega)]) ?_)
  refine D0 (ch:=[]) (e:=5) (l:=[(0,.int .u8 (192+r / 64)),(1,.int .u8 (128+r % 64))]) (c:=[.int .u8 (192+r / 64),.int .u8 (128+r % 64)]) (k:=(fun b3=>?_))
  refine F3 (i:=10) (ch:=[]) (t:=37) (tx:=37) (e:=5) (inf:=Tryz.t5) (s:=v) (x:=.slice (some ⟨b3,0,none⟩) 2 2) (n:=t.size) (m:=2) (j:=1) (cs:=(u8s t.data.toList)) (news:=[.int .u8 (192+r / 64),.int .u8 (128+r % 64)]) (g:=g) (S:=(inG [(b3,.cells #[.int .u8 (192+r / 64),.int .u8 (128+r % 64)] 5 (0,0))])) rfl rfl rfl rfl kr kr kr rfl rfl (.inl ⟨5,kr⟩) (fun ⟨_,h⟩=>by cases h) (fun _=>⟨5,kr⟩) kr kr kr rfl hv (SrcOf.slice _ _ _ _ Rd.lit (fun h=>by cases h)) (D2 0 rfl) kr (by intro u hu; simp only [List.mem_cons,List.not_mem_nil,or_false] at hu; (first | (rcases hu with rfl | rfl | rfl | rfl) | (rcases hu with rfl | rfl | rfl) | (rcases hu with rfl | rfl) | subst hu) <;> rfl) (by omega) (by show (t.size+2) * 1≤140737488355328; omega) (fun v4 g5 hO6=>?_)
  obtain ⟨a7,cap8,rfl,hcap9,hrd10⟩:=hO6.shape
  refine B8 (E':=[⟨4,[],.slice a7 (t.size+2) cap8⟩]) [0] [4] (k:=A0 ?_)
  refine B6 (A9 ?_)
  refine C9 (H':=(g5::H)) (fun w h=>(h.erase 0)) (B5 [.tmp 4] [.slice a7 (t.size+2) cap8] (k:=?_))
  exact ⟨_,_,rfl,own_put hO6 rfl (by rw [H3,N9,Lib.encodeRuneZ_two (r:=r) (by omega) (by omega)]; rfl) (by simp [encB,ByteArray.size,Lib.encodeRune,Lib.encodeRuneZ_two (r:=r) (by omega) (by omega)]),rfl⟩
 ·
  simp only [decide_eq_false_iff_not] at hc2
  refine A1 (A1 ?_)
  refine G_p [0,0,0] [0,1,5,25] (k:=A0 ?_)
  refine B1 (b:=decide (r<55296)) kr (fun hc11=>?_) (fun hc11=>?_)
  ·
   simp only [decide_eq_true_eq] at hc11
   refine A7 (A0 ?_)
   refine B1 (b:=decide (r<55296)) kr (fun hc12=>?_) (fun hc12=>?_)
   ·
    simp only [decide_eq_true_eq] at hc12
    refine A1 (A2 ?_)
    refine C1 (E':=[⟨38,[],.int .u8 (IntKind.wrap .u8 ((BitVec.ofInt (IntKind.bits .u8) 224 ||| BitVec.ofInt (IntKind.bits .u8) (IntKind.wrap .u8 (Int.fdiv r (2 ^ 12)))).toNat))⟩,⟨34,[],v⟩,⟨1,[],.int .i32 r⟩]) (j:=5) [0,0,0,0,0] (k:=C8 (E':=[⟨38,[],.int .u8 (224+r / 4096)⟩,⟨34,[],v⟩,⟨1,[],.int .i32 r⟩]) (by rw [hi3 (by omega) (by omega)]) ?_)
    refine C1 (E':=[⟨43,[],.int .u8 (IntKind.wrap .u8 ((BitVec.ofInt (IntKind.bits .u8) 128 ||| BitVec.ofInt (IntKind.bits .u8) (IntKind.wrap .u8 ((BitVec.ofInt (IntKind.bits .u8) (IntKind.wrap .u8 (Int.fdiv r (2 ^ 6))) &&& BitVec.ofInt (IntKind.bits .u8) 63).toNat))).toNat))⟩,⟨38,[],.int .u8 (224+r / 4096)⟩,⟨34,[],v⟩,⟨1,[],.int .i32 r⟩]) (j:=10) [0,0,0,0,0] (k:=C8 (E':=[⟨43,[],.int .u8 (128+r / 64 % 64)⟩,⟨38,[],.int .u8 (224+r / 4096)⟩,⟨34,[],v⟩,⟨1,[],.int .i32 r⟩]) (by rw [lo6 (by omega)]) ?_)
    refine C1 (E':=[⟨47,[],.int .u8 (IntKind.wrap .u8 ((BitVec.ofInt (IntKind.bits .u8) 128 ||| BitVec.ofInt (IntKind.bits .u8) (IntKind.wrap .u8 ((BitVec.ofInt (IntKind.bits .u8) (IntKind.wrap .u8 r) &&& BitVec.ofInt (IntKind.bits .u8) 63).toNat))).toNat))⟩,⟨43,[],.int .u8 (128+r / 64 % 64)⟩,⟨38,[],.int .u8 (224+r / 4096)⟩,⟨34,[],v⟩]) (j:=14) [0,0,0,0] (k:=C8 (E':=[⟨47,[],.int .u8 (128+r % 64)⟩,⟨43,[],.int .u8 (128+r / 64 % 64)⟩,⟨38,[],.int .u8 (224+r / 4096)⟩,⟨34,[],v⟩]) (by rw [lo0 (by omega)]) ?_)
    refine D0 (ch:=[]) (e:=5) (l:=[(0,.int .u8 (224+r / 4096)),(1,.int .u8 (128+r / 64 % 64)),(2,.int .u8 (128+r % 64))]) (c:=[.int .u8 (224+r / 4096),.int .u8 (128+r / 64 % 64),.int .u8 (128+r % 64)]) (k:=(fun b13=>?_))
    refine F3 (i:=15) (ch:=[]) (t:=37) (tx:=37) (e:=5) (inf:=Tryz.t5) (s:=v) (x:=.slice (some ⟨b13,0,none⟩) 3 3) (n:=t.size) (m:=3) (j:=1) (cs:=(u8s t.data.toList)) (news:=[.int .u8 (224+r / 4096),.int .u8 (128+r / 64 % 64),.int .u8 (128+r % 64)]) (g:=g) (S:=(inG [(b13,.cells #[.int .u8 (224+r / 4096),.int .u8 (128+r / 64 % 64),.int .u8 (128+r % 64)] 5 (0,0))])) rfl rfl rfl rfl kr kr kr rfl rfl (.inl ⟨5,kr⟩) (fun ⟨_,h⟩=>by cases h) (fun _=>⟨5,kr⟩) kr kr kr rfl hv (SrcOf.slice _ _ _ _ Rd.lit (fun h=>by cases h)) (D2 0 rfl) kr (by intro u hu; simp only [List.mem_cons,List.not_mem_nil,or_false] at hu; (first | (rcases hu with rfl | rfl | rfl | rfl) | (rcases hu with rfl | rfl | rfl) | (rcases hu with rfl | rfl) | subst hu) <;> rfl) (by omega) (by show (t.size+3) * 1≤140737488355328; omega) (fun v14 g15 hO16=>?_)
    obtain ⟨a17,cap18,rfl,hcap19,hrd20⟩:=hO16.shape
    refine B8 (E':=[⟨4,[],.slice a17 (t.size+3) cap18⟩]) [0] [4] (k:=A0 ?_)
    refine B6 (A9 ?_)
    refine C9 (H':=(g15::H)) (fun w h=>(h.erase 0)) (B5 [.tmp 4] [.slice a17 (t.size+3) cap18] (k:=?_))
    exact ⟨_,_,rfl,own_put hO16 rfl (by rw [H3,N9,Lib.encodeRuneZ_three (r:=r) (by omega)]; rfl) (by simp [encB,ByteArray.size,Lib.encodeRune,Lib.encodeRuneZ_three (r:=r) (by omega)]),rfl⟩
   ·
    simp only [decide_eq_false_iff_not] at hc12; omega
  ·
   simp only [decide_eq_false_iff_not] at hc11
   refine G_p [0,0,0,0,0,6,0] [0,1,5,25] (k:=A0 ?_)
   refine B1 (b:=(decide (57343<r))&&(decide (r≤65535))) kr (fun hc21=>?_) (fun hc21=>?_)
   ·
    simp only [Bool.and_eq_true,decide_eq_true_eq] at hc21
    refine A1 (A2 ?_)
    refine C1 (E':=[⟨38,[],.int .u8 (IntKind.wrap .u8 ((BitVec.ofInt (IntKind.bits .u8) 224 ||| BitVec.ofInt (IntKind.bits .u8) (IntKind.wrap .u8 (Int.fdiv r (2 ^ 12)))).toNat))⟩,⟨34,[],v⟩,⟨1,[],.int .i32 r⟩]) (j:=5) [0,0,0,0,0] (k:=C8 (E':=[⟨38,[],.int .u8 (224+r / 4096)⟩,⟨34,[],v⟩,⟨1,[],.int .i32 r⟩]) (by rw [hi3 (by omega) (by omega)]) ?_)
    refine C1 (E':=[⟨43,[],.int .u8 (IntKind.wrap .u8 ((BitVec.ofInt (IntKind.bits .u8) 128 ||| BitVec.ofInt (IntKind.bits .u8) (IntKind.wrap .u8 ((BitVec.ofInt (IntKind.bits .u8) (IntKind.wrap .u8 (Int.fdiv r (2 ^ 6))) &&& BitVec.ofInt (IntKind.bits .u8) 63).toNat))).toNat))⟩,⟨38,[],.int .u8 (224+r / 4096)⟩,⟨34,[],v⟩,⟨1,[],.int .i32 r⟩]) (j:=10) [0,0,0,0,0] (k:=C8 (E':=[⟨43,[],.int .u8 (128+r / 64 % 64)⟩,⟨38,[],.int .u8 (224+r / 4096)⟩,⟨34,[],v⟩,⟨1,[],.int .i32 r⟩]) (by rw [lo6 (by omega)]) ?_)
    refine C1 (E':=[⟨47,[],.int .u8 (IntKind.wrap .u8 ((BitVec.ofInt (IntKind.bits .u8) 128 ||| BitVec.ofInt (IntKind.bits .u8) (IntKind.wrap .u8 ((BitVec.ofInt (IntKind.bits .u8) (IntKind.wrap .u8 r) &&& BitVec.ofInt (IntKind.bits .u8) 63).toNat))).toNat))⟩,⟨43,[],.int .u8 (128+r / 64 % 64)⟩,⟨38,[],.int .u8 (224+r / 4096)⟩,⟨34,[],v⟩]) (j:=14) [0,0,0,0] (k:=C8 (E':=[⟨47,[],.int .u8 (128+r % 64)⟩,⟨43,[],.int .u8 (128+r / 64 % 64)⟩,⟨38,[],.int .u8 (224+r / 4096)⟩,⟨34,[],v⟩]) (by rw [lo0 (by omega)]) ?_)
    refine D0 (ch:=[]) (e:=5) (l:=[(0,.int .u8 (224+r / 4096)),(1,.int .u8 (128+r / 64 % 64)),(2,.int .u8 (128+r % 64))]) (c:=[.int .u8 (224+r / 4096),.int .u8 (128+r / 64 % 64),.int .u8 (128+r % 64)]) (k:=(fun b22=>?_))
    refine F3 (i:=15) (ch:=[]) (t:=37) (tx:=37) (e:=5) (inf:=Tryz.t5) (s:=v) (x:=.slice (some ⟨b22,0,none⟩) 3 3) (n:=t.size) (m:=3) (j:=1) (cs:=(u8s t.data.toList)) (news:=[.int .u8 (224+r / 4096),.int .u8 (128+r / 64 % 64),.int .u8 (128+r % 64)]) (g:=g) (S:=(inG [(b22,.cells #[.int .u8 (224+r / 4096),.int .u8 (128+r / 64 % 64),.int .u8 (128+r % 64)] 5 (0,0))])) rfl rfl rfl rfl kr kr kr rfl rfl (.inl ⟨5,kr⟩) (fun ⟨_,h⟩=>by cases h) (fun _=>⟨5,kr⟩) kr kr kr rfl hv (SrcOf.slice _ _ _ _ Rd.lit (fun h=>by cases h)) (D2 0 rfl) kr (by intro u hu; simp only [List.mem_cons,List.not_mem_nil,or_false] at hu; (first | (rcases hu with rfl | rfl | rfl | rfl) | (rcases hu with rfl | rfl | rfl) | (rcases hu with rfl | rfl) | subst hu) <;> rfl) (by omega) (by show (t.size+3) * 1≤140737488355328; omega) (fun v23 g24 hO25=>?_)
    obtain ⟨a26,cap27,rfl,hcap28,hrd29⟩:=hO25.shape
    refine B8 (E':=[⟨4,[],.slice a26 (t.size+3) cap27⟩]) [0] [4] (k:=A0 ?_)
    refine B6 (A9 ?_)
    refine C9 (H':=(g24::H)) (fun w h=>(h.erase 0)) (B5 [.tmp 4] [.slice a26 (t.size+3) cap27] (k:=?_))
    exact ⟨_,_,rfl,own_put hO25 rfl (by rw [H3,N9,Lib.encodeRuneZ_three (r:=r) (by omega)]; rfl) (by simp [encB,ByteArray.size,Lib.encodeRune,Lib.encodeRuneZ_three (r:=r) (by omega)]),rfl⟩
   ·
    simp only [Bool.and_eq_false_iff,decide_eq_false_iff_not] at hc21
    refine A1 (G_p [0,0,0,0,0,6,0] [0,1,50] (k:=?_))
    refine A0 (B1 (b:=(decide (r > 65535))&&(decide (r≤1114111))) kr (fun hc30=>?_) (fun hc30=>?_))
    ·
     simp only [Bool.and_eq_true,decide_eq_true_eq,gt_iff_lt] at hc30
     refine A1 (A2 ?_)
     refine C1 (E':=[⟨61,[],.int .u8 (IntKind.wrap .u8 ((BitVec.ofInt (IntKind.bits .u8) 240 ||| BitVec.ofInt (IntKind.bits .u8) (IntKind.wrap .u8 (Int.fdiv r (2 ^ 18)))).toNat))⟩,⟨57,[],v⟩,⟨1,[],.int .i32 r⟩]) (j:=5) [0,0,0,0,0] (k:=C8 (E':=[⟨61,[],.int .u8 (240+r / 262144)⟩,⟨57,[],v⟩,⟨1,[],.int .i32 r⟩]) (by rw [hi4 (by omega) (by omega)]) ?_)
     refine C1 (E':=[⟨66,[],.int .u8 (IntKind.wrap .u8 ((BitVec.ofInt (IntKind.bits .u8) 128 ||| BitVec.ofInt (IntKind.bits .u8) (IntKind.wrap .u8 ((BitVec.ofInt (IntKind.bits .u8) (IntKind.wrap .u8 (Int.fdiv r (2 ^ 12))) &&& BitVec.ofInt (IntKind.bits .u8) 63).toNat))).toNat))⟩,⟨61,[],.int .u8 (240+r / 262144)⟩,⟨57,[],v⟩,⟨1,[],.int .i32 r⟩]) (j:=10) [0,0,0,0,0] (k:=C8 (E':=[⟨66,[],.int .u8 (128+r / 4096 % 64)⟩,⟨61,[],.int .u8 (240+r / 262144)⟩,⟨57,[],v⟩,⟨1,[],.int .i32 r⟩]) (by rw [lo12 (by omega)]) ?_)
     refine C1 (E':=[⟨71,[],.int .u8 (IntKind.wrap .u8 ((BitVec.ofInt (IntKind.bits .u8) 128 ||| BitVec.ofInt (IntKind.bits .u8) (IntKind.wrap .u8 ((BitVec.ofInt (IntKind.bits .u8) (IntKind.wrap .u8 (Int.fdiv r (2 ^ 6))) &&& BitVec.ofInt (IntKind.bits .u8) 63).toNat))).toNat))⟩,⟨66,[],.int .u8 (128+r / 4096 % 64)⟩,⟨61,[],.int .u8 (240+r / 262144)⟩,⟨57,[],v⟩,⟨1,[],.int .i32 r⟩]) (j:=15) [0,0,0,0,0] (k:=C8 (E':=[⟨71,[],.int .u8 (128+r / 64 % 64)⟩,⟨66,[],.int .u8 (128+r / 4096 % 64)⟩,⟨61,[],.int .u8 (240+r / 262144)⟩,⟨57,[],v⟩,⟨1,[],.int .i32 r⟩]) (by rw [lo6 (by omega)]) ?_)
     refine C1 (E':=[⟨75,[],.int .u8 (IntKind.wrap .u8 ((BitVec.ofInt (IntKind.bits .u8) 128 ||| BitVec.ofInt (IntKind.bits .u8) (IntKind.wrap .u8 ((BitVec.ofInt (IntKind.bits .u8) (IntKind.wrap .u8 r) &&& BitVec.ofInt (IntKind.bits .u8) 63).toNat))).toNat))⟩,⟨71,[],.int .u8 (128+r / 64 % 64)⟩,⟨66,[],.int .u8 (128+r / 4096 % 64)⟩,⟨61,[],.int .u8 (240+r / 262144)⟩,⟨57,[],v⟩]) (j:=19) [0,0,0,0] (k:=C8 (E':=[⟨75,[],.int .u8 (128+r % 64)⟩,⟨71,[],.int .u8 (128+r / 64 % 64)⟩,⟨66,[],.int .u8 (128+r / 4096 % 64)⟩,⟨61,[],.int .u8 (240+r / 262144)⟩,⟨57,[],v⟩]) (by rw [lo0 (by omega)]) ?_)
     refine D0 (ch:=[]) (e:=5) (l:=[(0,.int .u8 (240+r / 262144)),(1,.int .u8 (128+r / 4096 % 64)),(2,.int .u8 (128+r / 64 % 64)),(3,.int .u8 (128+r % 64))]) (c:=[.int .u8 (240+r / 262144),.int .u8 (128+r / 4096 % 64),.int .u8 (128+r / 64 % 64),.int .u8 (128+r % 64)]) (k:=(fun b31=>?_))
     refine F3 (i:=20) (ch:=[]) (t:=37) (tx:=37) (e:=5) (inf:=Tryz.t5) (s:=v) (x:=.slice (some ⟨b31,0,none⟩) 4 4) (n:=t.size) (m:=4) (j:=1) (cs:=(u8s t.data.toList)) (news:=[.int .u8 (240+r / 262144),.int .u8 (128+r / 4096 % 64),.int .u8 (128+r / 64 % 64),.int .u8 (128+r % 64)]) (g:=g) (S:=(inG [(b31,.cells #[.int .u8 (240+r / 262144),.int .u8 (128+r / 4096 % 64),.int .u8 (128+r / 64 % 64),.int .u8 (128+r % 64)] 5 (0,0))])) rfl rfl rfl rfl kr kr kr rfl rfl (.inl ⟨5,kr⟩) (fun ⟨_,h⟩=>by cases h) (fun _=>⟨5,kr⟩) kr kr kr rfl hv (SrcOf.slice _ _ _ _ Rd.lit (fun h=>by cases h)) (D2 0 rfl) kr (by intro u hu; simp only [List.mem_cons,List.not_mem_nil,or_false] at hu; (first | (rcases hu with rfl | rfl | rfl | rfl) | (rcases hu with rfl | rfl | rfl) | (rcases hu with rfl | rfl) | subst hu) <;> rfl) (by omega) (by show (t.size+4) * 1≤140737488355328; omega) (fun v32 g33 hO34=>?_)
     obtain ⟨a35,cap36,rfl,hcap37,hrd38⟩:=hO34.shape
     refine B8 (E':=[⟨4,[],.slice a35 (t.size+4) cap36⟩]) [0] [4] (k:=A0 ?_)
     refine B6 (A9 ?_)
     refine C9 (H':=(g33::H)) (fun w h=>(h.erase 0)) (B5 [.tmp 4] [.slice a35 (t.size+4) cap36] (k:=?_))
     exact ⟨_,_,rfl,own_put hO34 rfl (by rw [H3,N9,Lib.encodeRuneZ_four (r:=r) (by omega) (by omega)]; rfl) (by simp [encB,ByteArray.size,Lib.encodeRune,Lib.encodeRuneZ_four (r:=r) (by omega) (by omega)]),rfl⟩
    ·
     simp only [Bool.and_eq_false_iff,decide_eq_false_iff_not,gt_iff_lt] at hc30; omega
theorem appRune_ (v:Value) (g:Grp) (t:ByteArray) (r:Int) (hv:BOwn v g t) (hr:isR r) (hs:t.size+4≤140737488355328) (W0:World) (H:List Grp):Tri Tryz.prog 50 #[v,.int .i32 r] W0 (g::H) (fun x H'=>∃ v' g',x=v'∧BOwn v' g' (t++encB r)∧H'=g'::H):=by
 obtain ⟨hr0,hr1,hr2⟩:=hr
 refine D1 (args:=[v,.int .i32 r]) (n:=16) Tryz.func50 rfl rfl (Nat.le_of_ble_eq_true rfl) ?_
 refine A1 (B3 (E':=[⟨0,[],v⟩,⟨1,[],.int .i32 r⟩]) [0] [0,1] (k:=?_))
 refine A0 (A1 ?_)
 refine A1 ?_
 have hw1:IntKind.wrap .u32 r=r:=w32u (by omega) (by omega)
 refine B3 (E':=[⟨0,[],v⟩,⟨1,[],.int .i32 r⟩,⟨7,[],.bool (decide (r≤127))⟩]) [0,0,0] [0,1,7] rfl (Eq.trans (b:=some [⟨0,[],v⟩,⟨1,[],.int .i32 r⟩,⟨7,[],.bool (decide ((IntKind.wrap .u32 r)≤127))⟩]) kr (by simp only [hw1])) (A0 ?_)
 refine B1 (b:=decide (r≤127)) kr (fun hc2=>?_) (fun hc2=>?_)
 ·
  simp only [decide_eq_true_eq] at hc2
  refine A1 ?_
  have hw3:IntKind.wrap .u8 r=r:=(by rw [w8m]; omega)
  refine A2 (C1 (E':=[⟨10,[],.int .u8 r⟩,⟨8,[],v⟩]) [0,0,0] (Eq.trans (b:=some [⟨10,[],.int .u8 (IntKind.wrap .u8 r)⟩,⟨8,[],v⟩]) kr (by simp only [hw3])) (j:=3) rfl ?_)
  refine D0 (ch:=[]) (e:=5) (l:=[(0,.int .u8 r)]) (c:=[.int .u8 r]) (k:=(fun b4=>?_))
  refine F3 (i:=4) (ch:=[]) (t:=37) (tx:=37) (e:=5) (inf:=Tryz.t5) (s:=v) (x:=.slice (some ⟨b4,0,none⟩) 1 1) (n:=t.size) (m:=1) (j:=1) (cs:=(u8s t.data.toList)) (news:=[.int .u8 r]) (g:=g) (S:=(inG [(b4,.cells #[.int .u8 r] 5 (0,0))])) rfl rfl rfl rfl kr kr kr rfl rfl (.inl ⟨5,kr⟩) (fun ⟨_,h⟩=>by cases h) (fun _=>⟨5,kr⟩) kr kr kr rfl hv (SrcOf.slice _ _ _ _ Rd.lit (fun h=>by cases h)) (D2 0 rfl) kr (by intro u hu; simp only [List.mem_cons,List.not_mem_nil,or_false] at hu; (first | (rcases hu with rfl | rfl | rfl | rfl) | (rcases hu with rfl | rfl | rfl) | (rcases hu with rfl | rfl) | subst hu) <;> rfl) (by omega) (by show (t.size+1) * 1≤140737488355328; omega) (fun v5 g6 hO7=>?_)
  obtain ⟨a8,cap9,rfl,hcap10,hrd11⟩:=hO7.shape
  refine B8 (E':=[⟨4,[],.slice a8 (t.size+1) cap9⟩]) [0] [4] (k:=A0 ?_)
  refine B6 (A3 ?_)
  refine C9 (H':=(g6::H)) (fun w h=>(h.erase 0)) (B5 [.tmp 4] [.slice a8 (t.size+1) cap9] (k:=?_))
  exact ⟨_,_,rfl,own_put hO7 rfl (by rw [H3,N9,Lib.encodeRuneZ_one (r:=r) (by omega) (by omega)]; rfl) (by simp [encB,ByteArray.size,Lib.encodeRune,Lib.encodeRuneZ_one (r:=r) (by omega) (by omega)]),rfl⟩
 ·
  simp only [decide_eq_false_iff_not] at hc2
  refine A7 (A0 ?_)
  refine A1 (A2 ?_)
  refine A6 (j:=2) [0,0] (k:=F2 Tryz.func65 (appNon_ v g t r hv ⟨hr0,hr1,hr2⟩ (by omega) (by omega) _ _) ?_)
  rintro v12 _ ⟨_,g13,rfl,hO14,rfl⟩
  refine B8 (E':=[⟨4,[],v12⟩]) [0] [4] (k:=A0 ?_)
  refine B6 (B5 [.tmp 4] [v12] (k:=?_))
  exact ⟨_,_,rfl,hO14,rfl⟩
theorem writeRune_ (b:Nat) (p:Value) (a:Option Addr) (cap:Nat) (g:Grp) (t:ByteArray) (r:Int) (hp:Bld b p) (hv:BOwn (.slice a t.size cap) g t) (hr:isR r) (hs:t.size+4≤140737488355328) (W0:World) (H:List Grp):Tri Tryz.prog 32 #[pt b,.int .i32 r] W0 ([(b,.cells #[p,.slice a t.size cap] 39 (0,0))]::g::H) (fun x H'=>∃ n,x=.tuple #[.int .i64 n,.nilIface]∧∃ v' g',BOwn v' g' (t++encB r)∧H'=bldG b (.pointer (some ⟨b,0,none⟩)) v'::g'::H):=by
 obtain ⟨hr0,hr1,hr2⟩:=hr
 refine D1 (args:=[pt b,.int .i32 r]) (n:=30) Tryz.func32 rfl rfl (Nat.le_of_ble_eq_true rfl) ?_
 refine A1 (B3 (E':=[⟨0,[],pt b⟩,⟨1,[],.int .i32 r⟩]) [0,0] [0,1] (k:=?_))
 refine A0 (A1 ?_)
 refine A2 (A6 (j:=1) [0] (k:=?_))
 refine F2 Tryz.func47 (copyCheck_ b (p) (.slice a t.size cap) hp _ _) ?_
 rintro r H' ⟨rfl,rfl⟩
 refine B8 (E':=[⟨0,[],pt b⟩,⟨1,[],.int .i32 r⟩]) [] [0,1] (k:=A0 ?_)
 refine A1 (A2 ?_)
 refine A6 (j:=3) [0,0,0] (k:=E9 (ch:=[]) (b:=b) (off:=1) (v:=.slice a t.size cap) (hA:=At.grp 0 0 rfl rfl) (hv:=rfl) (k:=?_))
 refine B0 [0,0] [0,1,6] (k:=A0 ?_)
 refine A1 (A2 ?_)
 refine A6 (j:=4) [0,0,0,0] (k:=E9 (ch:=[]) (b:=b) (off:=1) (v:=.slice a t.size cap) (hA:=At.grp 0 0 rfl rfl) (hv:=rfl) (k:=?_))
 refine A6 (j:=6) [0] (k:=GL_heap rfl (H':=(g::[(b,.cells #[pt b,.slice a t.size cap] 39 (0,0))]::H)) (fun w h=>(h.front (j:=1) rfl)) ?_)
 refine F2 Tryz.func50 (appRune_ (.slice a t.size cap) g t r hv ⟨hr0,hr1,hr2⟩ (by omega) _ _) ?_
 rintro v1 _ ⟨_,g2,rfl,hO3,rfl⟩
 obtain ⟨a4,cap5,rfl,-,-⟩:=hO3.shape
 refine A6 (j:=9) [0,0] (k:=GL_st (ch:=[]) (b:=b) (off:=1) (v:=.slice a4 ((t++encB r).size) cap5) (j:=1) (g2::[(b,.cells #[pt b,.slice a4 ((t++encB r).size) cap5] 39 (0,0))]::H) (hoff:=Nat.le_of_ble_eq_true rfl) (hfz:=(fun _ _=>L3)) (k:=?_))
 refine B0 [] [0,6] (k:=A0 ?_)
 refine A1 (A2 ?_)
 refine A6 (j:=3) [0,0,0] (k:=E9 (ch:=[]) (b:=b) (off:=1) (v:=.slice a4 ((t++encB r).size) cap5) (hA:=At.grp 1 0 rfl rfl) (hv:=rfl) (k:=?_))
 refine B0 [0,0,0,0,0] [4,5] (k:=A0 ?_)
 refine B6 (C9 (H':=([(b,.cells #[pt b,.slice a4 ((t++encB r).size) cap5] 39 (0,0))]::g2::H)) (fun w h=>(h.front (j:=1) rfl)) ?_)
 refine B5 [.tmp 4,.tmp 5] [.int .i64 (IntKind.wrap .i64 ((((t++encB r).size:Nat):Int) - ((t.size:Nat):Int))),.nilIface] (k:=?_)
 exact ⟨_,rfl,_,_,hO3,rfl⟩
theorem writeRune (b:Nat) (p v:Value) (g:Grp) (t:ByteArray) (r:Int) (hp:Bld b p) (hv:BOwn v g t) (hr:isR r) (hs:t.size+4≤140737488355328) (W0:World) (H:List Grp):Tri Tryz.prog 32 #[pt b,.int .i32 r] W0 (bldG b p v::g::H) (fun _ H'=>∃ v' g',BOwn v' g' (t++encB r)∧H'=bldG b (.pointer (some ⟨b,0,none⟩)) v'::g'::H):=by
  obtain ⟨a,cap,rfl,_,_⟩:=Go.Sw.Own.shape hv
  exact (writeRune_ b p a cap g t r hp hv hr hs W0 H).post fun v H' ⟨_,_,v',g',h1,h2⟩=>⟨H',⟨v',g',h1,h2⟩,fun _ h=>h⟩
theorem writeByte_ (b:Nat) (p v:Value) (g:Grp) (t:ByteArray) (c:UInt8) (hp:Bld b p) (hv:BOwn v g t) (hs:t.size+1≤140737488355328) (W0:World) (H:List Grp):Tri Tryz.prog 31 #[pt b,.int .u8 (c.toNat:Int)] W0 ([(b,.cells #[p,v] 39 (0,0))]::g::H) (fun x H'=>x=.nilIface∧∃ v' g',BOwn v' g' (t++⟨#[c]⟩)∧H'=bldG b (.pointer (some ⟨b,0,none⟩)) v'::g'::H):=by
 refine D1 (args:=[pt b,.int .u8 (c.toNat:Int)]) (n:=17) Tryz.func31 rfl rfl (Nat.le_of_ble_eq_true rfl) ?_
 refine A1 (G_p [0] [0,1] (k:=?_))
 refine A0 (A1 ?_)
 refine A2 (A6 (j:=1) [0] (k:=?_))
 refine F2 Tryz.func47 (copyCheck_ b (p) (v) hp _ _) ?_
 rintro r H' ⟨rfl,rfl⟩
 refine B0 [] [0,1] (k:=A0 ?_)
 refine A1 (A2 ?_)
 refine A6 (j:=4) [0,0,0,0] (k:=E9 (ch:=[]) (b:=b) (off:=1) (v:=v) (hA:=At.grp 0 0 rfl rfl) (hv:=rfl) (k:=?_))
 refine A6 (j:=6) [0] (k:=D0 (ch:=[]) (e:=5) (l:=[(0,.int .u8 (c.toNat:Int))]) (c:=[.int .u8 (c.toNat:Int)]) (k:=(fun b1=>?_)))
 refine F3 (i:=7) (ch:=[]) (t:=37) (tx:=37) (e:=5) (inf:=Tryz.t5) (s:=v) (x:=.slice (some ⟨b1,0,none⟩) 1 1) (n:=t.size) (m:=1) (j:=2) (cs:=(u8s t.data.toList)) (news:=[.int .u8 (c.toNat:Int)]) (g:=g) (S:=(inG [(b1,.cells #[.int .u8 (c.toNat:Int)] 5 (0,0))])) rfl rfl rfl rfl kr kr kr rfl rfl (.inl ⟨5,kr⟩) (fun ⟨_,h⟩=>by cases h) (fun _=>⟨5,kr⟩) kr kr kr rfl hv (SrcOf.slice _ _ _ _ Rd.lit (fun h=>by cases h)) (D2 0 rfl) kr (by intro u hu; simp only [List.mem_cons,List.not_mem_nil,or_false] at hu; (first | (rcases hu with rfl | rfl | rfl | rfl) | (rcases hu with rfl | rfl | rfl) | (rcases hu with rfl | rfl) | subst hu) <;> rfl) (by omega) (by show (t.size+1) * 1≤140737488355328; omega) (fun v2 g3 hO4=>?_)
 obtain ⟨a5,cap6,rfl,hcap7,hrd8⟩:=hO4.shape
 refine A6 (j:=10) [0,0] (k:=GL_st (ch:=[]) (b:=b) (off:=1) (v:=.slice a5 (t.size+1) cap6) (j:=1) ([(b1,.cells #[.int .u8 (c.toNat:Int)] 5 (0,0))]::[(b,.cells #[pt b,.slice a5 (t.size+1) cap6] 39 (0,0))]::g3::H) (hoff:=Nat.le_of_ble_eq_true rfl) (hfz:=(fun _ _=>L3)) (k:=?_))
 refine B8 (E':=[]) [] [] (k:=A0 ?_)
 refine A1 (B3 (E':=[⟨4,[],.nilIface⟩]) [0] [4] (k:=?_))
 refine A0 (B6 ?_)
 refine C9 (H':=([(b,.cells #[pt b,.slice a5 (t.size+1) cap6] 39 (0,0))]::g3::H)) (fun w h=>(h.erase 0)) (B5 [.tmp 4] [.nilIface] (k:=?_))
 exact ⟨rfl,_,_,own_put (s:=⟨#[c]⟩) hO4 rfl rfl rfl,rfl⟩
end Go.Proofs.YtbnfbffiehoapaaGreatDoor
namespace Go.Sw
open Go.RowKit
def dcR (s:ByteArray) (i:Nat):Int:=((Utf8.decode s i).1:Int)
def dcW (s:ByteArray) (i:Nat):Nat:=(Utf8.decode s i).2
theorem dc_rng (s:ByteArray) (i:Nat):0≤dcR s i∧dcR s i≤1114111∧1≤dcW s i∧dcW s i≤4:=by
  have hb:∀ k,(s.get! k).toNat<256:=fun k=>UInt8.toNat_lt _
  unfold dcR dcW Utf8.decode
  dsimp only
  have h0:=hb (i+0); have h1:=hb (i+1); have h2:=hb (i+2); have h3:=hb (i+3)
  simp only [Utf8.runeError]
  split
  · refine ⟨by omega,by omega,by omega,by omega⟩
  split
  · split <;> refine ⟨by omega,by omega,by omega,by omega⟩
  split
  · split <;> refine ⟨by omega,by omega,by omega,by omega⟩
  split
  · split
    · rename_i hv
      simp only [Utf8.valid,Bool.and_eq_true,decide_eq_true_eq,Bool.or_eq_true] at hv
      refine ⟨by omega,by omega,by omega,by omega⟩
    · refine ⟨by omega,by omega,by omega,by omega⟩
  · refine ⟨by omega,by omega,by omega,by omega⟩
theorem GL_rangeS {P:Program} {ops:Array Oper} {i:Nat} {Q:D9} {n:Fr} {E:Env} {W0:World} {H:List Grp} {o:Oper} {ch:List (Nat × Bool)} {t:TypeId} {x:Operand} {s:ByteArray}
    (ho:ops[i]? = some o) (hop:o.op=.range t x) (hx:evO E ch x=some (.string s)) (hu:P.underlying t=some .string)
    (hch:E3 ops E o.guard=some ch) (hd:F9 n ch o.dst=true) (hsure:I5 E ch=true)
    (kk:∀ b,GL false P ops (i+1) Q n (Env.put E o.dst ch (.pointer (some ⟨b,0,none⟩))) W0 ([(b,.stringIter s 0)]::H)):GL false P ops i Q n E W0 H :=
  GL_new (f:=fun b=>.pointer (some ⟨b,0,none⟩)) ho hch hd hsure (fun r hr w=>by
    unfold execOp; simp only [hop]; rw [hr _ _ hx]
    simp only [Instr.range,Sem.run_bind,run_underlying hu,Result.andThen_ok,Sem.run_pure,run_newObj]; rfl) kk
theorem GL_nextS {P:Program} {ops:Array Oper} {i:Nat} {Q:D9} {n:Fr} {E:Env} {W0:World} {H:List Grp} {o:Oper} {ch:List (Nat × Bool)} {x:Operand} {it p j:Nat} {s:ByteArray}
    (ho:ops[i]? = some o) (hop:o.op=.next x true) (hx:evO E ch x=some (.pointer (some ⟨it,0,none⟩)))
    (hch:E3 ops E o.guard=some ch) (hd:F9 n ch o.dst=true) (hsure:I5 E ch=true)
    (hj:H[j]? = some [(it,.stringIter s p)])
    (kEnd:¬ p<s.size→GL false P ops (i+1) Q n (Env.put E o.dst ch (.tuple #[.bool false])) W0 H)
    (kMore:p<s.size→GL false P ops (i+1) Q n (Env.put E o.dst ch (.tuple #[.bool true,.int .i64 ((p:Nat):Int),.int .i32 (dcR s p)])) W0 (H.set j [(it,.stringIter s (p+dcW s p))])) :
    GL false P ops i Q n E W0 H:=by
  refine GL_eff (R:=fun v H1=>(¬ p<s.size∧v=.tuple #[.bool false]∧H1=H)∨(p<s.size∧v=.tuple #[.bool true,.int .i64 ((p:Nat):Int),.int .i32 (dcR s p)]∧H1=H.set j [(it,.stringIter s (p+dcW s p))]))
    ho hch hd hsure (fun rr hr w hs=>?_) (by
      rintro v H1 (⟨h1,rfl,rfl⟩ | ⟨h1,rfl,rfl⟩)
      · exact kEnd h1
      · exact kMore h1)
  have hi:([(it,Obj.stringIter s p)]:Grp)[0]? = some (it,.stringIter s p):=rfl
  have hblk:=hs.has _ (List.mem_flatten.2 ⟨_,List.mem_of_getElem? hj,List.mem_of_getElem? hi⟩)
  have hit:=run_getObj_iter (P:=P) hblk rfl
  have hexec:(execOp rr o).run P w=((Instr.next (.pointer (some ⟨it,0,none⟩)) true o.type).run P w).andThen fun v w'=>.ok (.value v) w':=by
    unfold execOp
    simp only [hop]
    rw [hr _ _ hx]
    simp only [Sem.run_bind,Sem.run_pure]
  by_cases hp:p<s.size
  · obtain ⟨w',hr',hw'⟩:=Wr_setObj (P:=P) hblk (o':=.stringIter s (p+dcW s p)) rfl
    refine ⟨_,w',_,.inr ⟨hp,rfl,rfl⟩,hs.wr hj hi hw',.inl ?_⟩
    rw [hexec]
    have e:(Instr.next (.pointer (some ⟨it,0,none⟩)) true o.type).run P w=.ok (.tuple #[.bool true,.int .i64 ((p:Nat):Int),.int .i32 (dcR s p)]) w':=by
      have hr2:(setObj it (.stringIter s (p+(Utf8.decode s p).2))).run P w=.ok () w':=hr'
      simp only [Instr.next,Sem.run_bind,hit,Result.andThen_ok,if_pos hp]
      cases hd:Utf8.decode s p with
      | mk c wd =>
        rw [hd] at hr2
        simp only [hr2,Result.andThen_ok,Sem.run_pure]
        unfold dcR
        rw [hd]; rfl
    rw [e]; rfl
  · refine ⟨_,w,_,.inl ⟨hp,rfl,rfl⟩,hs,.inl ?_⟩
    rw [hexec]
    simp only [Instr.next,Sem.run_bind,hit,Result.andThen_ok,if_neg hp,Sem.run_pure]
end Go.Sw
namespace Go.Proofs.YtbnfbffiehoapaaGreatDoor
open Go.Sw Go.Sha Go.Esc
theorem bown0:BOwn (.slice none 0 0) [] .empty:=by simpa [BOwn,u8s] using Go.Sw.Own.nil
theorem J3 (b:Nat) (p v:Value) (g:Grp) (t s:ByteArray) (hp:Bld b p) (hv:BOwn v g t) (hs:t.size+s.size≤140737488355328) (W0:World) (H:List Grp):Tri Tryz.prog 28 #[pt b,.string s] W0 (bldG b p v::g::H) (fun _ H'=>∃ v' g',BOwn v' g' (t++s)∧H'=bldG b (.pointer (some ⟨b,0,none⟩)) v'::g'::H) :=
  (writeString b p v g t s hp hv hs W0 H).post fun _ H' ⟨_,v',g',h1,h2⟩=>⟨H',⟨v',g',h1,h2⟩,fun _ h=>h⟩
theorem I6 (b:Nat) (p v:Value) (g:Grp) (t:ByteArray) (c:UInt8) (hp:Bld b p) (hv:BOwn v g t) (hs:t.size+1≤140737488355328) (W0:World) (H:List Grp):Tri Tryz.prog 31 #[pt b,.int .u8 (c.toNat:Int)] W0 (bldG b p v::g::H) (fun _ H'=>∃ v' g',BOwn v' g' (t++⟨#[c]⟩)∧H'=bldG b (.pointer (some ⟨b,0,none⟩)) v'::g'::H) :=
  (writeByte_ b p v g t c hp hv hs W0 H).post fun _ H' ⟨_,v',g',h1,h2⟩=>⟨H',⟨v',g',h1,h2⟩,fun _ h=>h⟩
theorem isR_dc (s:ByteArray) (q:Nat):isR (dcR s q):=by unfold dcR; rw [← Lib.decodeL_drop]; exact decodeL_isR _
theorem drop_ne {s:ByteArray} {q:Nat} (h:q<s.size):s.data.toList.drop q≠[]:=by
  intro h0; have:=congrArg List.length h0; rw [List.length_drop,Array.length_toList] at this
  have e:s.size=s.data.size:=rfl
  simp only [List.length_nil] at this; omega
theorem N1 {s:ByteArray} {q:Nat} (h:q<s.size):A4 (s.data.toList.drop q)=dcR s q::A4 (s.data.toList.drop (q+dcW s q)):=by
  rw [runes_step _ (drop_ne h),List.drop_drop]; unfold dcR dcW; rw [Lib.decodeL_drop]
theorem dcW_le {s:ByteArray} {q:Nat} (h:q<s.size):q+dcW s q≤s.size:=by
  have:=Lib.decodeL_le _ (drop_ne h)
  rw [Lib.decodeL_drop,List.length_drop,Array.length_toList] at this
  have e:s.size=s.data.size:=rfl
  unfold dcW; omega
theorem runes_end {s:ByteArray} {q:Nat} (h:s.size≤q):A4 (s.data.toList.drop q)=[]:=by
  rw [List.drop_eq_nil_of_le (by rw [Array.length_toList]; exact h)]; rfl
theorem sz1 (b:UInt8):(⟨#[b]⟩:ByteArray).size=1:=rfl
theorem ls1 (b:UInt8):(⟨#[b]⟩:ByteArray).data.toList=[b]:=rfl
theorem ba_eq {o:ByteArray} {l:List UInt8} (h:o.data.toList=l):o=⟨l.toArray⟩:=by subst h; rfl
theorem D4 (a b:ByteArray):(a++b).data.toList=a.data.toList++b.data.toList:=by rw [ByteArray.data_append,Array.toList_append]
theorem E5 (a b:ByteArray):(a++b).size=a.size+b.size:=by simp
theorem plainF_ (r:Int) (W0:World) (H:List Grp):Tri Tryz.prog 44 #[.int .i32 r] W0 H (fun v H'=>v=.bool (plainR r)∧H'=H):=by
 refine D1 (args:=[.int .i32 r]) (n:=25) Tryz.func44 rfl rfl (Nat.le_of_ble_eq_true rfl) ?_
 refine A1 (B3 (E':=[⟨0,[],.int .i32 r⟩]) [0] [0] (k:=?_))
 refine A0 (A1 ?_)
 refine G_p [0,0,0,0,0,6,0,0,0,6,0,0,0,5,0,0,0,5,0,0,0,5,0] [2] (k:=A0 ?_)
 refine B6 (B5 [.tmp 2] [.bool ((((((decide (r ≥ 32))&&(r != 65534))&&(r != 65535))||(r==9))||(r==10))||(r==13))] (k:=?_))
 refine ⟨congrArg Value.bool ?_,rfl⟩
 unfold plainR; rfl
theorem keepPlain_ (s:ByteArray) (hs:s.size≤1000000000000) (W0:World) (H:List Grp):Tri Tryz.prog 43 #[.string s,.func (.func 44) #[] #[]] W0 H (fun v H'=>v=.string ⟨(D5 s.data.toList).toArray⟩∧H'=H):=by
 refine D1 (args:=[.string s,.func (.func 44) #[] #[]]) (n:=19) Tryz.func43 rfl rfl (Nat.le_of_ble_eq_true rfl) ?_
 refine A1 (G_p [0] [0,1] (k:=?_))
 refine A0 (A1 ?_)
 refine A2 (O7 (ch:=[]) (z:=.agg #[.pointer none,.slice none 0 0]) (k:=(fun b1=>?_)))
 refine GL_heap rfl (H':=([(b1,.cells #[.pointer none,.slice none 0 0] 39 (0,0))]::[]::H)) (fun w h=>h.flat (List.Perm.refl _)) (B0 [] [0,1,5] (k:=?_))
 refine A0 (A1 ?_)
 refine A1 (A2 ?_)
 refine A6 (j:=1) [0] (k:=GL_rangeS (i:=1) (ch:=[]) (s:=s) rfl rfl kr kr kr kr kr (fun it2=>?_))
 refine B0 [] [1,5,9] (k:=A0 ?_)
 refine B4 (G_heap (H':=([(b1,.cells #[.pointer none,.slice none 0 0] 39 (0,0))]::[]::[(it2,.stringIter s 0)]::H)) (fun w h=>((h.front (j:=2) rfl).front (j:=2) rfl)) ?_)
 refine I8 (EI:=(fun ξ:Value × Value × Grp × ByteArray × Nat=>[⟨1,[],.func (.func 44) #[] #[]⟩,⟨5,[],pt b1⟩,⟨9,[],pt it2⟩])) (HI:=(fun ξ:Value × Value × Grp × ByteArray × Nat=>([(b1,.cells #[ξ.1,ξ.2.1] 39 (0,0))]::ξ.2.2.1::[(it2,.stringIter s ξ.2.2.2.2)]::H))) (Φ:=(fun ξ:Value × Value × Grp × ByteArray × Nat=>(Bld b1 ξ.1)∧(BOwn ξ.2.1 ξ.2.2.1 ξ.2.2.2.1)∧(ξ.2.2.2.2≤s.size)∧(ξ.2.2.2.1.size≤4 * ξ.2.2.2.2)∧(ξ.2.2.2.1.data.toList++encL ((A4 (s.data.toList.drop ξ.2.2.2.2)).filter plainR)=D5 s.data.toList))) (μ:=(fun ξ:Value × Value × Grp × ByteArray × Nat=>s.size - ξ.2.2.2.2)) (s0:=(.pointer none,.slice none 0 0,[],.empty,0)) [1,5,9] kr rfl ⟨bld0,bown0,(by (try dsimp only); omega),(Nat.zero_le _),(by rfl)⟩ ?_
 rintro ⟨p,v,g,t,q⟩ ⟨hbp,hB,hq,ht,hT⟩
 dsimp only at hbp hB hq ht hT
 refine A1 (A2 ?_)
 refine GL_nextS (i:=0) (ch:=[]) (it:=it2) (p:=q) (s:=s) (j:=2) rfl rfl kr kr kr kr rfl (fun hend3=>?_) (fun hmore4=>?_)
 ·
  have hxe:=hend3
  refine B0 [0] [1,5,9,10,11] (k:=A0 ?_)
  refine A1 (D7 kr ?_)
  refine F7 (A8 ?_)
  refine A8 (C2 ?_)
  refine A0 (A1 ?_)
  refine A2 (F2 Tryz.func29 (J8 b1 (p) (v) g t hB (by omega) _ _) ?_)
  rintro _ _ ⟨rfl,rfl⟩
  refine B8 (E':=[⟨4,[],.string t⟩]) [0] [4] (k:=A0 ?_)
  refine B6 (C9 (H':=H) (fun w h=>((h.erase 1).erase 0)) ?_)
  refine B5 [.tmp 4] [.string t] (k:=?_)
  exact ⟨congrArg Value.string (ba_eq (by rw [← hT,runes_end (by omega),List.filter_nil,encL_nil,List.append_nil])),rfl⟩
 ·
  have hdc:=dc_rng s q
  have hxm:=hmore4
  refine B0 [0] [1,5,9,10,11] (k:=A0 ?_)
  refine A1 (C6 kr ?_)
  refine A7 (A0 ?_)
  refine B4 (A1 ?_)
  refine G_p [0,0] [1,5,7,9] (k:=A0 ?_)
  refine A1 (A2 ?_)
  refine A6 (j:=2) [0,0] (k:=G4 Tryz.func44 (plainF_ (dcR s q) _ _) ?_)
  refine B0 [] [1,5,7,9,15] (k:=A0 ?_)
  refine B1 (b:=plainR (dcR s q)) kr (fun hc5=>?_) (fun hc5=>?_)
  ·
   have hc:=hc5
   refine A2 (A6 (j:=1) [0] (k:=?_))
   refine F2 (vs:=[pt b1,.int .i32 (dcR s q)]) Tryz.func32 (writeRune b1 (p) (v) g t (dcR s q) hbp hB (isR_dc _ _) (by omega) _ _) ?_
   rintro _ _ ⟨v6,g7,hB8,rfl⟩
   refine B0 [] [1,5,9] (k:=B2 ?_)
   refine D8 (s':=(pt b1,v6,g7,(t++encB (dcR s q)),q+dcW s q)) [1,5,9] kr rfl ⟨bld1,hB8,(dcW_le hxm),(by dsimp only; first | (have:=encB_size (dcR s q); rw [E5]; omega) | omega),(by dsimp only; rw [← hT,N1 hxm,List.filter_cons]; first | (rw [if_pos hc,M8,D4,H3,List.append_assoc]) | (rw [if_neg (by rw [hc]; decide)]))⟩ (by (try dsimp only); omega)
  ·
   have hc:=hc5
   refine A7 (B2 ?_)
   refine D8 (s':=(p,v,g,t,q+dcW s q)) [1,5,9] kr rfl ⟨hbp,hB,(dcW_le hxm),(by dsimp only; first | (have:=encB_size (dcR s q); rw [E5]; omega) | omega),(by dsimp only; rw [← hT,N1 hxm,List.filter_cons]; first | (rw [if_pos hc,M8,D4,H3,List.append_assoc]) | (rw [if_neg (by rw [hc]; decide)]))⟩ (by (try dsimp only); omega)
theorem plain_ (s:ByteArray) (hs:s.size≤1000000000000) (W0:World) (H:List Grp):Tri Tryz.prog 25 #[.string s] W0 H (fun v H'=>v=.string (bk (D5 s.data.toList))∧H'=H):=by
 refine D1 (args:=[.string s]) (n:=5) Tryz.func25 rfl rfl (Nat.le_of_ble_eq_true rfl) ?_
 refine A1 (B3 (E':=[⟨0,[],.string s⟩]) [0] [0] (k:=?_))
 refine A0 (A1 ?_)
 refine A2 (A6 (j:=1) [0] (k:=?_))
 refine G4 Tryz.func43 (keepPlain_ s (by omega) _ _) (B0 [0] [2] (k:=?_))
 refine A0 (B6 ?_)
 refine B5 [.tmp 2] [.string (bk (D5 s.data.toList))] (k:=?_)
 exact ⟨rfl,rfl⟩
end Go.Proofs.YtbnfbffiehoapaaGreatDoor
namespace Go.Proofs
open Go.Shelf
def Tryz.laysM279_ren:Go.Shelf.Ren:=⟨fun | 279=>97 | 316=>116 | n=>n,fun | 9=>9 | 168=>139 | 75=>42 | 210=>158 | 3=>3 | 4=>4 | 37=>37 | 0=>0 | 127=>75 | 80=>45 | 5=>5 | n=>n,fun | 15=>4 | n=>n⟩
theorem Tryz.laysM279:Go.Proofs.LaysM.n279 Tryz.prog Tryz.laysM279_ren:={
  mixed:=by kernel_rfl
  f279:=Tryz.func97.trans (congrArg some (by kernel_rfl))
  f316:=Tryz.func116.trans (congrArg some (by kernel_rfl))
  t0:=Tryz.underlying0
  a0:=Tryz.isAgg0
  z0:=Tryz.sizeOf0
  v0:=Tryz.zeroValue0
  t3:=Tryz.underlying3
  a3:=Tryz.isAgg3
  z3:=Tryz.sizeOf3
  v3:=Tryz.zeroValue3
  t4:=Tryz.underlying4
  a4:=Tryz.isAgg4
  z4:=Tryz.sizeOf4
  v4:=Tryz.zeroValue4
  t9:=Tryz.underlying9
  a9:=Tryz.isAgg9
  z9:=Tryz.sizeOf9
  v9:=Tryz.zeroValue9
  t37:=Tryz.underlying37
  a37:=Tryz.isAgg37
  z37:=Tryz.sizeOf37
  v37:=Tryz.zeroValue37
  t75:=Tryz.underlying42
  a75:=Tryz.isAgg42
  z75:=Tryz.sizeOf42
  v75:=Tryz.zeroValue42
  t127:=Tryz.underlying75
  a127:=Tryz.isAgg75
  z127:=Tryz.sizeOf75
  v127:=Tryz.zeroValue75
  t168:=Tryz.underlying139
  a168:=Tryz.isAgg139
  z168:=Tryz.sizeOf139
  v168:=Tryz.zeroValue139
  t210:=Tryz.underlying158
  a210:=Tryz.isAgg158
  z210:=Tryz.sizeOf158
  v210:=Tryz.zeroValue158
  g15:=by kernel_rfl
  t5:=Tryz.underlying5
  a5:=Tryz.isAgg5
  z5:=Tryz.sizeOf5
  v5:=Tryz.zeroValue5
  t80:=Tryz.underlying45
  a80:=Tryz.isAgg45
  z80:=Tryz.sizeOf45
  v80:=Tryz.zeroValue45
  i0:=by kernel_rfl
  i3:=by kernel_rfl
  i4:=by kernel_rfl
  i5:=by kernel_rfl
  i9:=by kernel_rfl
  i37:=by kernel_rfl
  i75:=by kernel_rfl
  i80:=by kernel_rfl
  i127:=by kernel_rfl
  i168:=by kernel_rfl
  i210:=by kernel_rfl
  m15:=by kernel_rfl }
open Go.RowKit in
theorem Tryz.strconv_syntaxError (fn s:ByteArray) (ev:Value) (w:World) (hlim:s.size≤281474976710656) (hv:w.cell? ⟨4,0,none⟩=some ev) (hev:ev=.nilIface∨∃ te pe,ev=.iface te pe) :
    Calls Tryz.prog 97 #[.string fn,.string s] w fun e w'=>∃ N,e=.returned (.pointer (some ⟨N,0,none⟩))∧w.heap.size≤N∧w'.heap[N]? = some (.cells #[.string fn,.string s,ev] 158 (0,0))∧Below w.heap.size w w':=Any.strconv_syntaxError Tryz.laysM279 fn s ev w hlim hv hev
def Tryz.lays105_ren:Go.Shelf.Ren:=⟨fun | 105=>54 | 212=>68 | 99=>69 | 165=>70 | 166=>28 | 170=>71 | 169=>29 | 263=>86 | 264=>87 | 206=>79 | 240=>47 | 241=>88 | 276=>61 | 277=>106 | n=>n,fun | 9=>9 | 3=>3 | 4=>4 | 20=>20 | 0=>0 | 46=>53 | 109=>90 | 5=>5 | 72=>39 | 76=>43 | 51=>59 | 146=>119 | 53=>86 | 148=>121 | 70=>36 | 37=>37 | 75=>42 | 127=>75 | 164=>84 | 80=>45 | n=>n,fun | n=>n⟩
theorem Tryz.lays105:Go.Proofs.Lays.n105 Tryz.prog Tryz.lays105_ren:={
  mixed:=by kernel_rfl
  f99:=Tryz.func69.trans (congrArg some (by kernel_rfl))
  f105:=Tryz.func54.trans (congrArg some (by kernel_rfl))
  f165:=Tryz.func70.trans (congrArg some (by kernel_rfl))
  f166:=Tryz.func28.trans (congrArg some (by kernel_rfl))
  f169:=Tryz.func29.trans (congrArg some (by kernel_rfl))
  f170:=Tryz.func71.trans (congrArg some (by kernel_rfl))
  f206:=Tryz.func79.trans (congrArg some (by kernel_rfl))
  f212:=Tryz.func68.trans (congrArg some (by kernel_rfl))
  f240:=Tryz.func47.trans (congrArg some (by kernel_rfl))
  f241:=Tryz.func88.trans (congrArg some (by kernel_rfl))
  f263:=Tryz.func86.trans (congrArg some (by kernel_rfl))
  f264:=Tryz.func87.trans (congrArg some (by kernel_rfl))
  f276:=Tryz.func61.trans (congrArg some (by kernel_rfl))
  f277:=Tryz.func106.trans (congrArg some (by kernel_rfl))
  t0:=Tryz.underlying0
  a0:=Tryz.isAgg0
  z0:=Tryz.sizeOf0
  v0:=Tryz.zeroValue0
  t3:=Tryz.underlying3
  a3:=Tryz.isAgg3
  z3:=Tryz.sizeOf3
  v3:=Tryz.zeroValue3
  t4:=Tryz.underlying4
  a4:=Tryz.isAgg4
  z4:=Tryz.sizeOf4
  v4:=Tryz.zeroValue4
  t5:=Tryz.underlying5
  a5:=Tryz.isAgg5
  z5:=Tryz.sizeOf5
  v5:=Tryz.zeroValue5
  t9:=Tryz.underlying9
  a9:=Tryz.isAgg9
  z9:=Tryz.sizeOf9
  v9:=Tryz.zeroValue9
  t20:=Tryz.underlying20
  a20:=Tryz.isAgg20
  z20:=Tryz.sizeOf20
  v20:=Tryz.zeroValue20
  t37:=Tryz.underlying37
  a37:=Tryz.isAgg37
  z37:=Tryz.sizeOf37
  v37:=Tryz.zeroValue37
  t46:=Tryz.underlying53
  a46:=Tryz.isAgg53
  z46:=Tryz.sizeOf53
  v46:=Tryz.zeroValue53
  t51:=Tryz.underlying59
  a51:=Tryz.isAgg59
  z51:=Tryz.sizeOf59
  v51:=Tryz.zeroValue59
  t53:=Tryz.underlying86
  a53:=Tryz.isAgg86
  z53:=Tryz.sizeOf86
  v53:=Tryz.zeroValue86
  t70:=Tryz.underlying36
  a70:=Tryz.isAgg36
  z70:=Tryz.sizeOf36
  v70:=Tryz.zeroValue36
  t72:=Tryz.underlying39
  a72:=Tryz.isAgg39
  z72:=Tryz.sizeOf39
  v72:=Tryz.zeroValue39
  t75:=Tryz.underlying42
  a75:=Tryz.isAgg42
  z75:=Tryz.sizeOf42
  v75:=Tryz.zeroValue42
  t76:=Tryz.underlying43
  a76:=Tryz.isAgg43
  z76:=Tryz.sizeOf43
  v76:=Tryz.zeroValue43
  t109:=Tryz.underlying90
  a109:=Tryz.isAgg90
  z109:=Tryz.sizeOf90
  v109:=Tryz.zeroValue90
  t127:=Tryz.underlying75
  a127:=Tryz.isAgg75
  z127:=Tryz.sizeOf75
  v127:=Tryz.zeroValue75
  t146:=Tryz.underlying119
  a146:=Tryz.isAgg119
  z146:=Tryz.sizeOf119
  v146:=Tryz.zeroValue119
  t148:=Tryz.underlying121
  a148:=Tryz.isAgg121
  z148:=Tryz.sizeOf121
  v148:=Tryz.zeroValue121
  t164:=Tryz.underlying84
  a164:=Tryz.isAgg84
  z164:=Tryz.sizeOf84
  v164:=Tryz.zeroValue84 }
theorem Tryz.Builder_Extra_105:Builder.Extra Tryz.prog Tryz.lays105_ren:={
  sizeBuilder:=by kernel_rfl
  liesBuilder:=by kernel_rfl
  t5:=Tryz.underlying5
  a5:=Tryz.isAgg5
  z5:=Tryz.sizeOf5
  v5:=Tryz.zeroValue5
  infoByte:=by kernel_rfl
  cellsByte:=by kernel_rfl
  sizeByte:=by kernel_rfl
  neB5:=by decide }
open Go.RowKit Go.Lib in
theorem Tryz.strings_Repeat (s:ByteArray) (c:Nat) (w:World) (hc:c≤9223372036854775807) (hlen:s.size * c≤140737488355328) :
    Calls Tryz.prog 54 #[.string s,.int .i64 c] w fun e w'=>e=.returned (.string ⟨(Lib.repeatL s.data.toList c).toArray⟩)∧Below w.heap.size w w':=Any.strings_Repeat Tryz.lays105 Tryz.Builder_Extra_105 s c w hc hlen
end Go.Proofs
namespace Go.Proofs.YtbnfbffiehoapaaGreatDoor
open Go.Sw Go.Sha Go.Esc
theorem lowC:∀ n:Fin 256,(digC (n.val:Int)=if 48≤(n.val:Int)∧(n.val:Int)≤57 then (n.val:Int) - 48 else if 97≤IntKind.wrap .u8 ((BitVec.ofInt (IntKind.bits .u8) (n.val:Int) ||| BitVec.ofInt (IntKind.bits .u8) 32).toNat)∧IntKind.wrap .u8 ((BitVec.ofInt (IntKind.bits .u8) (n.val:Int) ||| BitVec.ofInt (IntKind.bits .u8) 32).toNat)≤102 then IntKind.wrap .u8 ((BitVec.ofInt (IntKind.bits .u8) (n.val:Int) ||| BitVec.ofInt (IntKind.bits .u8) 32).toNat) - 87 else -1)∧0≤IntKind.wrap .u8 ((BitVec.ofInt (IntKind.bits .u8) (n.val:Int) ||| BitVec.ofInt (IntKind.bits .u8) 32).toNat)∧IntKind.wrap .u8 ((BitVec.ofInt (IntKind.bits .u8) (n.val:Int) ||| BitVec.ofInt (IntKind.bits .u8) 32).toNat)<256:=by decide +kernel
def lowI (c:Int):Int:=IntKind.wrap .u8 ((BitVec.ofInt (IntKind.bits .u8) c ||| BitVec.ofInt (IntKind.bits .u8) 32).toNat)
theorem low_dig {c:Int} (h0:0≤c) (h1:c<256):(digC c=if 48≤c∧c≤57 then c - 48 else if 97≤lowI c∧lowI c≤102 then lowI c - 87 else -1)∧0≤lowI c∧lowI c<256:=by
  have:=lowC ⟨c.toNat,by omega⟩
  simp only [show ((c.toNat:Nat):Int)=c by omega] at this
  exact this
def dgI (c:Int):Int:=if 48≤c∧c≤57 then c - 48 else lowI c - 87
theorem dgI1 {c:Int} (h:48≤c∧c≤57):IntKind.wrap .u8 (c - 48)=dgI c:=by rw [w8m]; unfold dgI; rw [if_pos h]; omega
theorem dgI2 {c:Int} (h0:¬ (48≤c∧c≤57)) (h:97≤lowI c∧lowI c≤122):IntKind.wrap .u8 (IntKind.wrap .u8 (lowI c - 97)+10)=dgI c:=by rw [w8m,w8m]; unfold dgI; rw [if_neg h0]; omega
theorem dg_ok {c base:Int} (h:(48≤c∧c≤57)∨(97≤lowI c∧lowI c≤122)) (hc:0≤c∧c<256) (hb:10≤base∧base≤16):(dgI c<base→J9 c base=dgI c∧0≤dgI c)∧(base≤dgI c→J9 c base<0):=by
  have hl:=low_dig hc.1 hc.2
  have h1:=hl.1; have h2:=hl.2
  unfold dgI J9; rw [h1]
  refine ⟨fun h3=>?_,fun h3=>?_⟩ <;> (repeat' split) <;> (try split at h3) <;> omega
theorem dg_no {c base:Int} (h0:¬ (48≤c∧c≤57)) (h:¬ (97≤lowI c∧lowI c≤122)) (hc:0≤c∧c<256) (hb:10≤base):J9 c base<0:=by
  have hl:=low_dig hc.1 hc.2
  have h1:=hl.1
  unfold J9; rw [h1]; (repeat' split) <;> omega
theorem byte_rng (b:UInt8):0≤(b.toNat:Int)∧(b.toNat:Int)<256:=⟨Int.natCast_nonneg _,by have:=b.toNat_lt; omega⟩
theorem size0 {s:ByteArray} (h:(s.toList==(ByteArray.mk #[]).toList)=true):s.size=0:=by
  rw [beq_iff_eq,Lib.toList_data,Lib.toList_data] at h
  have:=congrArg List.length h
  rw [Array.length_toList] at this; exact this
theorem pow16 {k:Nat} (h:k≤7):(16:Int) ^ k≤268435456:=by
  have:(16:Nat) ^ k≤16 ^ 7:=Nat.pow_le_pow_right (by decide) h
  have e:((16 ^ k:Nat):Int)=(16:Int) ^ k:=by simp
  rw [← e]; omega
theorem w64u {x:Int} (h0:0≤x) (h1:x<18446744073709551616):IntKind.wrap .u64 x=x:=by
  rw [show IntKind.wrap .u64 x=x % 18446744073709551616 from by first | rfl | simp [IntKind.wrap,IntKind.bits,IntKind.signed]]; omega
theorem N7 {base a n:Int} {l:List UInt8} {k:Nat} (hV:numV base a l=numV base n (l.drop k)) (hk:k<l.length) (h:J9 ((l.getD k 0).toNat:Int) base<0):numV base a l=none:=by
  rw [hV,G0 _ hk,H9,if_pos h]
theorem lower_ (c:Int) (W0:World) (H:List Grp):Tri Tryz.prog 95 #[.int .u8 c] W0 H (fun v H'=>v=.int .u8 (lowI c)∧H'=H):=by
 refine D1 (args:=[.int .u8 c]) (n:=5) Tryz.func95 rfl rfl (Nat.le_of_ble_eq_true rfl) ?_
 refine A1 (B3 (E':=[⟨0,[],.int .u8 c⟩]) [0] [0] (k:=?_))
 refine A0 (A1 ?_)
 refine G_p [0,0,0] [2] (k:=A0 ?_)
 refine B6 (B5 [.tmp 2] [.int .u8 (IntKind.wrap .u8 ((BitVec.ofInt (IntKind.bits .u8) c ||| BitVec.ofInt (IntKind.bits .u8) 32).toNat))] (k:=?_))
 exact ⟨rfl,rfl⟩
theorem inner10_ (s:ByteArray) (h0:0<s.size) (hs:s.size≤7) (W0:World) (H:List Grp):Tri Tryz.prog 80 #[.string s,.int .i64 10,.int .i64 32] W0 H (fun v H'=>((∃ n,numV 10 0 s.data.toList=some n∧0≤n∧n<16 ^ s.size∧v=.tuple #[.int .u64 n,.nilIface])∨(numV 10 0 s.data.toList=none∧v=.tuple #[.int .u64 0,.iface 137 (.int .i64 2)]))∧H'=H):=by
 have hlen:s.data.toList.length=s.size:=Array.length_toList
 refine D1 (args:=[.string s,.int .i64 10,.int .i64 32]) (n:=172) Tryz.func80 rfl rfl (Nat.le_of_ble_eq_true rfl) ?_
 refine A1 (G_p [0,0] [0,1,2] (k:=?_))
 refine A0 (A1 ?_)
 refine A1 (G_p [0,0] [0,1,2,19] (k:=?_))
 refine A0 (B1 (b:=s.toList==(ByteArray.mk #[]).toList) kr (fun hc1=>?_) (fun hc1=>?_))
 ·
  exact absurd (size0 hc1) (by omega)
 ·
  skip
  refine A7 (A0 ?_)
  refine A1 (G_p [0,0,0] [0,1,2,8] (k:=?_))
  refine A0 (A1 ?_)
  refine G_p [0,0] [0,1,2,8,9] (k:=A0 ?_)
  refine A1 (B4 ?_)
  refine A1 (G_p [0,0,0,0,0,2,0] [0,1,2,8,9,25] (k:=?_))
  refine A0 (C6 kr ?_)
  refine A7 (B2 ?_)
  refine A0 (A1 ?_)
  refine A1 (B3 (E':=[⟨0,[],.string s⟩,⟨1,[],.int .i64 10⟩,⟨2,[],.int .i64 32⟩,⟨8,[],.bool false⟩,⟨9,[],.string s⟩,⟨77,[],.bool false⟩]) [0,0] [0,1,2,8,9,77] (k:=?_))
  refine A0 (D7 kr ?_)
  refine A1 (G_p [0,0,0,0,0,3] [0,1,2,8,9,83] (k:=?_))
  refine A0 (D7 kr ?_)
  refine A7 (A0 ?_)
  refine A1 (G_p [0] [0,1,2,8,9] (k:=?_))
  refine A0 (A1 ?_)
  refine A1 (G_p [0] [0,1,2,8,9,85] (k:=?_))
  refine A0 (B4 ?_)
  refine A1 (G_p [0,0] [0,1,2,8,9,85,90] (k:=?_))
  refine A0 (C6 kr ?_)
  refine G_p [0] [0,1,2,8,9,10] (k:=B2 ?_)
  refine A0 (A1 ?_)
  refine B3 (E':=[⟨0,[],.string s⟩,⟨1,[],.int .i64 10⟩,⟨8,[],.bool false⟩,⟨9,[],.string s⟩,⟨10,[],.int .u64 1844674407370955162⟩,⟨11,[],.int .u64 4294967295⟩]) [0,0,0,0,0] [0,1,8,9,10,11] (k:=A0 ?_)
  refine A1 (G_p [0] [0,1,8,9,10,11,12] (k:=?_))
  refine A0 (A1 ?_)
  refine G_p [0] [0,1,8,9,10,11,12,13] (k:=A0 ?_)
  refine A1 (A1 ?_)
  refine A2 (A6 (j:=1) [0] (k:=?_))
  refine J2 (ch:=[]) (src:=9) (dst:=37) (e:=5) (s:=s) (k:=(fun b2 cap3 g4 hcap5 hrd6=>?_))
  refine B0 [0,0] [1,8,9,10,11,12,13,99,100,101] (k:=A0 ?_)
  refine B4 (I8 (EI:=(fun ξ:Nat × Int=>[⟨1,[],.int .i64 10⟩,⟨8,[],.bool false⟩,⟨9,[],.string s⟩,⟨10,[],.int .u64 1844674407370955162⟩,⟨11,[],.int .u64 4294967295⟩,⟨12,[],.bool false⟩,⟨13,[],.int .u64 ξ.2⟩,⟨99,[],.slice (some ⟨b2,0,none⟩) s.size cap3⟩,⟨100,[],.int .i64 ((s.size:Nat):Int)⟩,⟨101,[],.int .i64 (ξ.1:Int)⟩])) (HI:=(fun ξ:Nat × Int=>(g4::H))) (Φ:=(fun ξ:Nat × Int=>(ξ.1≤s.size)∧(0≤ξ.2)∧(ξ.2<16 ^ ξ.1)∧(numV 10 0 s.data.toList=numV 10 ξ.2 (s.data.toList.drop ξ.1)))) (μ:=(fun ξ:Nat × Int=>s.size - ξ.1)) (s0:=(0,0)) [1,8,9,10,11,12,13,99,100,101] kr rfl ⟨(by omega),(Int.le_refl _),(by decide),rfl⟩ ?_)
  rintro ⟨k,n⟩ ⟨hk,hn0,hn1,hV⟩
  dsimp only at hk hn0 hn1 hV
  have hp:=pow16 (show k≤7 by omega)
  have hcr:=byte_rng (s.data.toList.getD k 0)
  refine A1 (G_p [0] [1,8,9,10,11,12,13,99,100,101,102] (k:=?_))
  refine A0 (A1 ?_)
  refine B1 (b:=decide ((k:Int)<((s.size:Nat):Int))) kr (fun hc7=>?_) (fun hc7=>?_)
  ·
   simp only [decide_eq_true_eq] at hc7
   refine A7 (A0 ?_)
   refine A1 (B4 ?_)
   refine A1 (A2 ?_)
   refine C4 (ch:=[]) (a:=(some ⟨b2,0,none⟩)) (len:=s.size) (cap:=cap3) (kd:=.i64) (j:=(k:Int)) (e:=5) (sz:=1) (S:=(inG g4)) (cs:=(u8s s.data.toList)) (hrd:=hrd6) (hb:=(fun _=>by exact ⟨by omega,by omega,by intro h; have:=congrArg List.length h; rw [show (Go.Sw.u8s s.data.toList).length=s.size from (List.length_map _).trans hlen] at this; simp only [List.length_nil] at this; omega⟩)) (k:=E6 (ch:=[]) (a:=(some ⟨b2,0,none⟩)) (q:=(Int.toNat (k:Int)) * 1) (S:=(inG g4)) (cs:=(u8s s.data.toList)) (v:=.int .u8 ((s.data.toList.getD k 0).toNat:Int)) (hrd:=hrd6) (hS:=D2 0 rfl) (hv:=(fun _=>(by rw [Nat.mul_one,Int.toNat_natCast]; exact Go.Sha.u8s_at (by rw [hlen]; omega)))) (k:=?_))
   refine B0 [0] [1,8,9,10,11,12,13,15,99,100,101] (k:=A0 ?_)
   refine A1 (G_p [0] [1,8,9,10,11,12,13,15,99,100,101] (k:=?_))
   refine A0 (A1 ?_)
   refine B4 (A1 ?_)
   refine G_p [0,0,0,0,6,0] [1,8,9,10,11,12,13,15,99,100,101,106] (k:=A0 ?_)
   refine B1 (b:=(((s.data.toList.getD k 0).toNat:Int)==95)&&false) kr (fun hc8=>?_) (fun hc8=>?_)
   ·
    simp at hc8
   ·
    skip
    refine A1 (G_p [0,0,0,0,0,6,0] [1,8,9,10,11,12,13,15,99,100,101,112] (k:=?_))
    refine A0 (B1 (b:=(decide (48≤((s.data.toList.getD k 0).toNat:Int)))&&(decide (((s.data.toList.getD k 0).toNat:Int)≤57))) kr (fun hc9=>?_) (fun hc9=>?_))
    ·
     simp only [Bool.and_eq_true,decide_eq_true_eq] at hc9
     refine A2 (C1 (E':=[⟨120,[],.int .u8 (IntKind.wrap .u8 (((s.data.toList.getD k 0).toNat:Int) - 48))⟩,⟨1,[],.int .i64 10⟩,⟨8,[],.bool false⟩,⟨9,[],.string s⟩,⟨10,[],.int .u64 1844674407370955162⟩,⟨11,[],.int .u64 4294967295⟩,⟨12,[],.bool false⟩,⟨13,[],.int .u64 n⟩,⟨99,[],.slice (some ⟨b2,0,none⟩) s.size cap3⟩,⟨100,[],.int .i64 ((s.size:Nat):Int)⟩,⟨101,[],.int .i64 (k:Int)⟩]) (j:=2) [0,0] (k:=?_))
     refine C8 (E':=[⟨120,[],.int .u8 (dgI ((s.data.toList.getD k 0).toNat:Int))⟩,⟨1,[],.int .i64 10⟩,⟨8,[],.bool false⟩,⟨9,[],.string s⟩,⟨10,[],.int .u64 1844674407370955162⟩,⟨11,[],.int .u64 4294967295⟩,⟨12,[],.bool false⟩,⟨13,[],.int .u64 n⟩,⟨99,[],.slice (some ⟨b2,0,none⟩) s.size cap3⟩,⟨100,[],.int .i64 ((s.size:Nat):Int)⟩,⟨101,[],.int .i64 (k:Int)⟩]) (by rw [dgI1 (c:=((s.data.toList.getD k 0).toNat:Int)) (by omega)]) (B8 (E':=[⟨1,[],.int .i64 10⟩,⟨8,[],.bool false⟩,⟨9,[],.string s⟩,⟨10,[],.int .u64 1844674407370955162⟩,⟨11,[],.int .u64 4294967295⟩,⟨12,[],.bool false⟩,⟨13,[],.int .u64 n⟩,⟨16,[],.int .u8 (dgI ((s.data.toList.getD k 0).toNat:Int))⟩,⟨99,[],.slice (some ⟨b2,0,none⟩) s.size cap3⟩,⟨100,[],.int .i64 ((s.size:Nat):Int)⟩,⟨101,[],.int .i64 (k:Int)⟩]) [0] [1,8,9,10,11,12,13,16,99,100,101] (k:=?_))
     refine B2 (A0 ?_)
     refine A1 (A1 ?_)
     refine G_p [0,0,0,0] [1,8,9,10,11,12,13,16,99,100,101,137] (k:=A0 ?_)
     refine B1 (b:=decide ((dgI ((s.data.toList.getD k 0).toNat:Int)) ≥ 10)) kr (fun hc10=>?_) (fun hc10=>?_)
     ·
      simp only [ge_iff_le,decide_eq_true_eq] at hc10
      have hdg:=(dg_ok (c:=((s.data.toList.getD k 0).toNat:Int)) (base:=10) (by omega) hcr (by omega)).2 (by omega)
      refine A1 (G_p [0,0,0] [6,7] (k:=?_))
      refine A0 (B6 ?_)
      refine A3 (A9 ?_)
      refine A3 (A3 ?_)
      refine A9 (A3 ?_)
      refine C9 (H':=H) (fun w h=>(h.erase 0)) (B5 [.tmp 6,.tmp 7] [.int .u64 0,.iface 137 (.int .i64 2)] (k:=?_))
      exact ⟨.inr ⟨N7 hV (show k<s.data.toList.length by rw [hlen]; omega) hdg,rfl⟩,rfl⟩
     ·
      simp only [ge_iff_le,decide_eq_false_iff_not] at hc10
      have hdg:=(dg_ok (c:=((s.data.toList.getD k 0).toNat:Int)) (base:=10) (by omega) hcr (by omega)).1 (by omega)
      refine A7 (A0 ?_)
      refine A1 (A1 ?_)
      refine G_p [0,0,0] [1,8,9,10,11,12,13,16,99,100,101,141] (k:=A0 ?_)
      refine B1 (b:=decide (n ≥ 1844674407370955162)) kr (fun hc11=>?_) (fun hc11=>?_)
      ·
       simp only [ge_iff_le,decide_eq_true_eq] at hc11; omega
      ·
       simp only [ge_iff_le,decide_eq_false_iff_not] at hc11
       refine A7 (A0 ?_)
       refine A1 (A2 ?_)
       refine C1 (E':=[⟨147,[],.int .u64 (IntKind.wrap .u64 (n * 10))⟩,⟨1,[],.int .i64 10⟩,⟨8,[],.bool false⟩,⟨9,[],.string s⟩,⟨10,[],.int .u64 1844674407370955162⟩,⟨11,[],.int .u64 4294967295⟩,⟨12,[],.bool false⟩,⟨13,[],.int .u64 n⟩,⟨16,[],.int .u8 (dgI ((s.data.toList.getD k 0).toNat:Int))⟩,⟨99,[],.slice (some ⟨b2,0,none⟩) s.size cap3⟩,⟨100,[],.int .i64 ((s.size:Nat):Int)⟩,⟨101,[],.int .i64 (k:Int)⟩]) (j:=4) [0,0,0,0] (k:=C8 (E':=[⟨147,[],.int .u64 (n * 10)⟩,⟨1,[],.int .i64 10⟩,⟨8,[],.bool false⟩,⟨9,[],.string s⟩,⟨10,[],.int .u64 1844674407370955162⟩,⟨11,[],.int .u64 4294967295⟩,⟨12,[],.bool false⟩,⟨13,[],.int .u64 n⟩,⟨16,[],.int .u8 (dgI ((s.data.toList.getD k 0).toNat:Int))⟩,⟨99,[],.slice (some ⟨b2,0,none⟩) s.size cap3⟩,⟨100,[],.int .i64 ((s.size:Nat):Int)⟩,⟨101,[],.int .i64 (k:Int)⟩]) (by rw [w64u (x:=n * 10) (by omega) (by omega)]) ?_)
       refine B0 [0] [1,8,9,10,11,12,13,16,99,100,101] (k:=A0 ?_)
       refine A1 ?_
       have hw12:IntKind.wrap .u64 (dgI ((s.data.toList.getD k 0).toNat:Int))=(dgI ((s.data.toList.getD k 0).toNat:Int)):=w64u (by omega) (by omega)
       refine A2 (C1 (E':=[⟨151,[],.int .u64 (IntKind.wrap .u64 ((n * 10)+(dgI ((s.data.toList.getD k 0).toNat:Int))))⟩,⟨1,[],.int .i64 10⟩,⟨8,[],.bool false⟩,⟨9,[],.string s⟩,⟨10,[],.int .u64 1844674407370955162⟩,⟨11,[],.int .u64 4294967295⟩,⟨12,[],.bool false⟩,⟨13,[],.int .u64 (n * 10)⟩,⟨99,[],.slice (some ⟨b2,0,none⟩) s.size cap3⟩,⟨100,[],.int .i64 ((s.size:Nat):Int)⟩,⟨101,[],.int .i64 (k:Int)⟩]) [0,0,0,0] (Eq.trans (b:=some [⟨151,[],.int .u64 (IntKind.wrap .u64 ((n * 10)+(IntKind.wrap .u64 (dgI ((s.data.toList.getD k 0).toNat:Int)))))⟩,⟨1,[],.int .i64 10⟩,⟨8,[],.bool false⟩,⟨9,[],.string s⟩,⟨10,[],.int .u64 1844674407370955162⟩,⟨11,[],.int .u64 4294967295⟩,⟨12,[],.bool false⟩,⟨13,[],.int .u64 (n * 10)⟩,⟨99,[],.slice (some ⟨b2,0,none⟩) s.size cap3⟩,⟨100,[],.int .i64 ((s.size:Nat):Int)⟩,⟨101,[],.int .i64 (k:Int)⟩]) kr (by simp only [hw12])) (j:=4) rfl ?_)
       refine C8 (E':=[⟨151,[],.int .u64 (n * 10+dgI ((s.data.toList.getD k 0).toNat:Int))⟩,⟨1,[],.int .i64 10⟩,⟨8,[],.bool false⟩,⟨9,[],.string s⟩,⟨10,[],.int .u64 1844674407370955162⟩,⟨11,[],.int .u64 4294967295⟩,⟨12,[],.bool false⟩,⟨13,[],.int .u64 (n * 10)⟩,⟨99,[],.slice (some ⟨b2,0,none⟩) s.size cap3⟩,⟨100,[],.int .i64 ((s.size:Nat):Int)⟩,⟨101,[],.int .i64 (k:Int)⟩]) (by rw [w64u (x:=n * 10+dgI ((s.data.toList.getD k 0).toNat:Int)) (by omega) (by omega)]) (B0 [0] [1,8,9,10,11,12,13,17,99,100,101] (k:=?_))
       refine A0 (A1 ?_)
       refine A1 (G_p [0,0,0,0,0,0,0,5] [1,8,9,10,11,12,17,99,100,101,159] (k:=?_))
       refine A0 (B1 (b:=(decide ((n * 10+dgI ((s.data.toList.getD k 0).toNat:Int))<(n * 10)))||(decide ((n * 10+dgI ((s.data.toList.getD k 0).toNat:Int)) > 4294967295))) kr (fun hc13=>?_) (fun hc13=>?_))
       ·
        simp only [gt_iff_lt,Bool.or_eq_true,decide_eq_true_eq] at hc13; omega
       ·
        simp only [gt_iff_lt,Bool.or_eq_false_iff,decide_eq_false_iff_not] at hc13
        refine A7 (A0 ?_)
        refine B3 (E':=[⟨1,[],.int .i64 10⟩,⟨8,[],.bool false⟩,⟨9,[],.string s⟩,⟨10,[],.int .u64 1844674407370955162⟩,⟨11,[],.int .u64 4294967295⟩,⟨12,[],.bool false⟩,⟨13,[],.int .u64 (n * 10+dgI ((s.data.toList.getD k 0).toNat:Int))⟩,⟨99,[],.slice (some ⟨b2,0,none⟩) s.size cap3⟩,⟨100,[],.int .i64 ((s.size:Nat):Int)⟩,⟨101,[],.int .i64 (k:Int)⟩]) [0,0] [1,8,9,10,11,12,13,99,100,101] (k:=B2 ?_)
        refine A0 (A2 ?_)
        refine A6 (j:=1) [0] (k:=C3 163 ((k:Int)+1) (by omega) (by omega) kr ?_)
        refine B0 [0] [1,8,9,10,11,12,13,99,100,101] (k:=D8 (s':=(k+1,(n * 10+dgI ((s.data.toList.getD k 0).toNat:Int)))) [1,8,9,10,11,12,13,99,100,101] kr rfl ⟨(by dsimp only; omega),(by dsimp only; omega),(by dsimp only; rw [Int.pow_succ]; omega),(by dsimp only; rw [hV,G0 _ (show k<s.data.toList.length by rw [hlen]; omega),H9,hdg.1,if_neg (by omega),Int.mul_comm])⟩ (by dsimp only; omega))
    ·
     simp only [Bool.and_eq_false_iff,decide_eq_false_iff_not] at hc9
     refine A1 (A2 ?_)
     refine A6 (j:=1) [0] (k:=G4 Tryz.func95 (lower_ ((s.data.toList.getD k 0).toNat:Int) _ _) ?_)
     refine A6 (j:=5) [0,0,0] (k:=F6 (ch:=[(125,true)]) (f:=95) (fst:=#[]) (caps:=#[]) (vs:=[.int .u8 ((s.data.toList.getD k 0).toNat:Int)]) (v:=.int .u8 (lowI ((s.data.toList.getD k 0).toNat:Int))) (hf:=Tryz.func95) (hc:=(fun hc=>lower_ ((s.data.toList.getD k 0).toNat:Int) _ _)) (k:=?_))
     refine B8 (E':=[⟨1,[],.int .i64 10⟩,⟨8,[],.bool false⟩,⟨9,[],.string s⟩,⟨10,[],.int .u64 1844674407370955162⟩,⟨11,[],.int .u64 4294967295⟩,⟨12,[],.bool false⟩,⟨13,[],.int .u64 n⟩,⟨15,[],.int .u8 ((s.data.toList.getD k 0).toNat:Int)⟩,⟨99,[],.slice (some ⟨b2,0,none⟩) s.size cap3⟩,⟨100,[],.int .i64 ((s.size:Nat):Int)⟩,⟨101,[],.int .i64 (k:Int)⟩,⟨121,[],.bool ((decide (97≤(lowI ((s.data.toList.getD k 0).toNat:Int))))&&(decide ((lowI ((s.data.toList.getD k 0).toNat:Int))≤122)))⟩]) [0,6,0] [1,8,9,10,11,12,13,15,99,100,101,121] (k:=A0 ?_)
     refine B1 (b:=(decide (97≤(lowI ((s.data.toList.getD k 0).toNat:Int))))&&(decide ((lowI ((s.data.toList.getD k 0).toNat:Int))≤122))) kr (fun hc15=>?_) (fun hc15=>?_)
     ·
      simp only [Bool.and_eq_true,decide_eq_true_eq] at hc15
      refine A2 (A6 (j:=1) [0] (k:=?_))
      refine G4 Tryz.func95 (lower_ ((s.data.toList.getD k 0).toNat:Int) _ _) (C1 (E':=[⟨133,[],.int .u8 (IntKind.wrap .u8 ((IntKind.wrap .u8 ((lowI ((s.data.toList.getD k 0).toNat:Int)) - 97))+10))⟩,⟨1,[],.int .i64 10⟩,⟨8,[],.bool false⟩,⟨9,[],.string s⟩,⟨10,[],.int .u64 1844674407370955162⟩,⟨11,[],.int .u64 4294967295⟩,⟨12,[],.bool false⟩,⟨13,[],.int .u64 n⟩,⟨99,[],.slice (some ⟨b2,0,none⟩) s.size cap3⟩,⟨100,[],.int .i64 ((s.size:Nat):Int)⟩,⟨101,[],.int .i64 (k:Int)⟩]) (j:=4) [0,0] (k:=?_))
      refine C8 (E':=[⟨133,[],.int .u8 (dgI ((s.data.toList.getD k 0).toNat:Int))⟩,⟨1,[],.int .i64 10⟩,⟨8,[],.bool false⟩,⟨9,[],.string s⟩,⟨10,[],.int .u64 1844674407370955162⟩,⟨11,[],.int .u64 4294967295⟩,⟨12,[],.bool false⟩,⟨13,[],.int .u64 n⟩,⟨99,[],.slice (some ⟨b2,0,none⟩) s.size cap3⟩,⟨100,[],.int .i64 ((s.size:Nat):Int)⟩,⟨101,[],.int .i64 (k:Int)⟩]) (by rw [dgI2 (c:=((s.data.toList.getD k 0).toNat:Int)) (by omega) (by omega)]) (B0 [0] [1,8,9,10,11,12,13,16,99,100,101] (k:=?_))
      refine B2 (A0 ?_)
      refine A1 (A1 ?_)
      refine G_p [0,0,0,0] [1,8,9,10,11,12,13,16,99,100,101,137] (k:=A0 ?_)
      refine B1 (b:=decide ((dgI ((s.data.toList.getD k 0).toNat:Int)) ≥ 10)) kr (fun hc16=>?_) (fun hc16=>?_)
      ·
       simp only [ge_iff_le,decide_eq_true_eq] at hc16
       have hdg:=(dg_ok (c:=((s.data.toList.getD k 0).toNat:Int)) (base:=10) (by omega) hcr (by omega)).2 (by omega)
       refine A1 (G_p [0,0,0] [6,7] (k:=?_))
       refine A0 (B6 ?_)
       refine A3 (A9 ?_)
       refine A3 (A3 ?_)
       refine A9 (A3 ?_)
       refine C9 (H':=H) (fun w h=>(h.erase 0)) (B5 [.tmp 6,.tmp 7] [.int .u64 0,.iface 137 (.int .i64 2)] (k:=?_))
       exact ⟨.inr ⟨N7 hV (show k<s.data.toList.length by rw [hlen]; omega) hdg,rfl⟩,rfl⟩
      ·
       simp only [ge_iff_le,decide_eq_false_iff_not] at hc16
       have hdg:=(dg_ok (c:=((s.data.toList.getD k 0).toNat:Int)) (base:=10) (by omega) hcr (by omega)).1 (by omega)
       refine A7 (A0 ?_)
       refine A1 (A1 ?_)
       refine G_p [0,0,0] [1,8,9,10,11,12,13,16,99,100,101,141] (k:=A0 ?_)
       refine B1 (b:=decide (n ≥ 1844674407370955162)) kr (fun hc17=>?_) (fun hc17=>?_)
       ·
        simp only [ge_iff_le,decide_eq_true_eq] at hc17; omega
       ·
        simp only [ge_iff_le,decide_eq_false_iff_not] at hc17
        refine A7 (A0 ?_)
        refine A1 (A2 ?_)
        refine C1 (E':=[⟨147,[],.int .u64 (IntKind.wrap .u64 (n * 10))⟩,⟨1,[],.int .i64 10⟩,⟨8,[],.bool false⟩,⟨9,[],.string s⟩,⟨10,[],.int .u64 1844674407370955162⟩,⟨11,[],.int .u64 4294967295⟩,⟨12,[],.bool false⟩,⟨13,[],.int .u64 n⟩,⟨16,[],.int .u8 (dgI ((s.data.toList.getD k 0).toNat:Int))⟩,⟨99,[],.slice (some ⟨b2,0,none⟩) s.size cap3⟩,⟨100,[],.int .i64 ((s.size:Nat):Int)⟩,⟨101,[],.int .i64 (k:Int)⟩]) (j:=4) [0,0,0,0] (k:=C8 (E':=[⟨147,[],.int .u64 (n * 10)⟩,⟨1,[],.int .i64 10⟩,⟨8,[],.bool false⟩,⟨9,[],.string s⟩,⟨10,[],.int .u64 1844674407370955162⟩,⟨11,[],.int .u64 4294967295⟩,⟨12,[],.bool false⟩,⟨13,[],.int .u64 n⟩,⟨16,[],.int .u8 (dgI ((s.data.toList.getD k 0).toNat:Int))⟩,⟨99,[],.slice (some ⟨b2,0,none⟩) s.size cap3⟩,⟨100,[],.int .i64 ((s.size:Nat):Int)⟩,⟨101,[],.int .i64 (k:Int)⟩]) (by rw [w64u (x:=n * 10) (by omega) (by omega)]) ?_)
        refine B0 [0] [1,8,9,10,11,12,13,16,99,100,101] (k:=A0 ?_)
        refine A1 ?_
        have hw18:IntKind.wrap .u64 (dgI ((s.data.toList.getD k 0).toNat:Int))=(dgI ((s.data.toList.getD k 0).toNat:Int)):=w64u (by omega) (by omega)
        refine A2 (C1 (E':=[⟨151,[],.int .u64 (IntKind.wrap .u64 ((n * 10)+(dgI ((s.data.toList.getD k 0).toNat:Int))))⟩,⟨1,[],.int .i64 10⟩,⟨8,[],.bool false⟩,⟨9,[],.string s⟩,⟨10,[],.int .u64 1844674407370955162⟩,⟨11,[],.int .u64 4294967295⟩,⟨12,[],.bool false⟩,⟨13,[],.int .u64 (n * 10)⟩,⟨99,[],.slice (some ⟨b2,0,none⟩) s.size cap3⟩,⟨100,[],.int .i64 ((s.size:Nat):Int)⟩,⟨101,[],.int .i64 (k:Int)⟩]) [0,0,0,0] (Eq.trans (b:=some [⟨151,[],.int .u64 (IntKind.wrap .u64 ((n * 10)+(IntKind.wrap .u64 (dgI ((s.data.toList.getD k 0).toNat:Int)))))⟩,⟨1,[],.int .i64 10⟩,⟨8,[],.bool false⟩,⟨9,[],.string s⟩,⟨10,[],.int .u64 1844674407370955162⟩,⟨11,[],.int .u64 4294967295⟩,⟨12,[],.bool false⟩,⟨13,[],.int .u64 (n * 10)⟩,⟨99,[],.slice (some ⟨b2,0,none⟩) s.size cap3⟩,⟨100,[],.int .i64 ((s.size:Nat):Int)⟩,⟨101,[],.int .i64 (k:Int)⟩]) kr (by simp only [hw18])) (j:=4) rfl ?_)
        refine C8 (E':=[⟨151,[],.int .u64 (n * 10+dgI ((s.data.toList.getD k 0).toNat:Int))⟩,⟨1,[],.int .i64 10⟩,⟨8,[],.bool false⟩,⟨9,[],.string s⟩,⟨10,[],.int .u64 1844674407370955162⟩,⟨11,[],.int .u64 4294967295⟩,⟨12,[],.bool false⟩,⟨13,[],.int .u64 (n * 10)⟩,⟨99,[],.slice (some ⟨b2,0,none⟩) s.size cap3⟩,⟨100,[],.int .i64 ((s.size:Nat):Int)⟩,⟨101,[],.int .i64 (k:Int)⟩]) (by rw [w64u (x:=n * 10+dgI ((s.data.toList.getD k 0).toNat:Int)) (by omega) (by omega)]) (B0 [0] [1,8,9,10,11,12,13,17,99,100,101] (k:=?_))
        refine A0 (A1 ?_)
        refine A1 (B3 (E':=[⟨1,[],.int .i64 10⟩,⟨8,[],.bool false⟩,⟨9,[],.string s⟩,⟨10,[],.int .u64 1844674407370955162⟩,⟨11,[],.int .u64 4294967295⟩,⟨12,[],.bool false⟩,⟨17,[],.int .u64 (n * 10+dgI ((s.data.toList.getD k 0).toNat:Int))⟩,⟨99,[],.slice (some ⟨b2,0,none⟩) s.size cap3⟩,⟨100,[],.int .i64 ((s.size:Nat):Int)⟩,⟨101,[],.int .i64 (k:Int)⟩,⟨159,[],.bool ((decide ((n * 10+dgI ((s.data.toList.getD k 0).toNat:Int))<(n * 10)))||(decide ((n * 10+dgI ((s.data.toList.getD k 0).toNat:Int)) > 4294967295)))⟩]) [0,0,0,0,0,0,0,5] [1,8,9,10,11,12,17,99,100,101,159] (k:=?_))
        refine A0 (B1 (b:=(decide ((n * 10+dgI ((s.data.toList.getD k 0).toNat:Int))<(n * 10)))||(decide ((n * 10+dgI ((s.data.toList.getD k 0).toNat:Int)) > 4294967295))) kr (fun hc19=>?_) (fun hc19=>?_))
        ·
         simp only [gt_iff_lt,Bool.or_eq_true,decide_eq_true_eq] at hc19; omega
        ·
         simp only [gt_iff_lt,Bool.or_eq_false_iff,decide_eq_false_iff_not] at hc19
         refine A7 (A0 ?_)
         refine G_p [0,0] [1,8,9,10,11,12,13,99,100,101] (k:=B2 ?_)
         refine A0 (A2 ?_)
         refine A6 (j:=1) [0] (k:=C3 163 ((k:Int)+1) (by omega) (by omega) kr ?_)
         refine B0 [0] [1,8,9,10,11,12,13,99,100,101] (k:=D8 (s':=(k+1,(n * 10+dgI ((s.data.toList.getD k 0).toNat:Int)))) [1,8,9,10,11,12,13,99,100,101] kr rfl ⟨(by dsimp only; omega),(by dsimp only; omega),(by dsimp only; rw [Int.pow_succ]; omega),(by dsimp only; rw [hV,G0 _ (show k<s.data.toList.length by rw [hlen]; omega),H9,hdg.1,if_neg (by omega),Int.mul_comm])⟩ (by dsimp only; omega))
     ·
      simp only [Bool.and_eq_false_iff,decide_eq_false_iff_not] at hc15
      refine A1 (G_p [0,0,0] [6,7] (k:=?_))
      refine A0 (B6 ?_)
      refine A9 (A3 ?_)
      refine A9 (A3 ?_)
      refine A3 (A9 ?_)
      refine A3 (C9 (H':=H) (fun w h=>(h.erase 0)) ?_)
      refine B5 [.tmp 6,.tmp 7] [.int .u64 0,.iface 137 (.int .i64 2)] (k:=?_)
      exact ⟨.inr ⟨N7 hV (show k<s.data.toList.length by rw [hlen]; omega) (dg_no (by omega) (by omega) hcr (by decide)),rfl⟩,rfl⟩
  ·
   simp only [decide_eq_false_iff_not] at hc7
   refine F7 (A8 ?_)
   refine A8 (C2 ?_)
   refine A0 (A1 ?_)
   refine A1 (G_p [0,0,1,1,1,3] [13,169] (k:=?_))
   refine A0 (D7 kr ?_)
   refine A7 (A0 ?_)
   refine A1 (G_p [0,0,0] [6,7] (k:=?_))
   refine A0 (B6 ?_)
   refine C9 (H':=H) (fun w h=>(h.erase 0)) (B5 [.tmp 6,.tmp 7] [.int .u64 n,.nilIface] (k:=?_))
   exact ⟨.inl ⟨n,by rw [hV,List.drop_eq_nil_of_le (by rw [hlen]; omega),O3],hn0,by rw [show s.size=k by omega]; exact hn1,rfl⟩,rfl⟩
theorem inner16_ (s:ByteArray) (h0:0<s.size) (hs:s.size≤7) (W0:World) (H:List Grp):Tri Tryz.prog 80 #[.string s,.int .i64 16,.int .i64 32] W0 H (fun v H'=>((∃ n,numV 16 0 s.data.toList=some n∧0≤n∧n<16 ^ s.size∧v=.tuple #[.int .u64 n,.nilIface])∨(numV 16 0 s.data.toList=none∧v=.tuple #[.int .u64 0,.iface 137 (.int .i64 2)]))∧H'=H):=by
 have hlen:s.data.toList.length=s.size:=Array.length_toList
 refine D1 (args:=[.string s,.int .i64 16,.int .i64 32]) (n:=172) Tryz.func80 rfl rfl (Nat.le_of_ble_eq_true rfl) ?_
 refine A1 (G_p [0,0] [0,1,2] (k:=?_))
 refine A0 (A1 ?_)
 refine A1 (G_p [0,0] [0,1,2,19] (k:=?_))
 refine A0 (B1 (b:=s.toList==(ByteArray.mk #[]).toList) kr (fun hc1=>?_) (fun hc1=>?_))
 ·
  exact absurd (size0 hc1) (by omega)
 ·
  skip
  refine A7 (A0 ?_)
  refine A1 (G_p [0,0,0] [0,1,2,8] (k:=?_))
  refine A0 (A1 ?_)
  refine G_p [0,0] [0,1,2,8,9] (k:=A0 ?_)
  refine A1 (B4 ?_)
  refine A1 (G_p [0,0,0,0,0,2,0] [0,1,2,8,9,25] (k:=?_))
  refine A0 (C6 kr ?_)
  refine A7 (B2 ?_)
  refine A0 (A1 ?_)
  refine A1 (B3 (E':=[⟨0,[],.string s⟩,⟨1,[],.int .i64 16⟩,⟨2,[],.int .i64 32⟩,⟨8,[],.bool false⟩,⟨9,[],.string s⟩,⟨77,[],.bool false⟩]) [0,0] [0,1,2,8,9,77] (k:=?_))
  refine A0 (D7 kr ?_)
  refine A1 (G_p [0,0,0,0,0,3] [0,1,2,8,9,83] (k:=?_))
  refine A0 (D7 kr ?_)
  refine A7 (A0 ?_)
  refine A1 (G_p [0] [0,1,2,8,9] (k:=?_))
  refine A0 (A1 ?_)
  refine A1 (G_p [0] [0,1,2,8,9,85] (k:=?_))
  refine A0 (B4 ?_)
  refine A1 (G_p [0,0] [0,1,2,8,9,85,90] (k:=?_))
  refine A0 (D7 kr ?_)
  refine A1 (G_p [0,0] [0,1,2,8,9,92] (k:=?_))
  refine A0 (C6 kr ?_)
  refine B3 (E':=[⟨0,[],.string s⟩,⟨1,[],.int .i64 16⟩,⟨2,[],.int .i64 32⟩,⟨8,[],.bool false⟩,⟨9,[],.string s⟩,⟨10,[],.int .u64 1152921504606846976⟩]) [0] [0,1,2,8,9,10] (k:=B2 ?_)
  refine A0 (A1 ?_)
  refine G_p [0,0,0,0,0] [0,1,8,9,10,11] (k:=A0 ?_)
  refine A1 (G_p [0] [0,1,8,9,10,11,12] (k:=?_))
  refine A0 (A1 ?_)
  refine G_p [0] [0,1,8,9,10,11,12,13] (k:=A0 ?_)
  refine A1 (A1 ?_)
  refine A2 (A6 (j:=1) [0] (k:=?_))
  refine J2 (ch:=[]) (src:=9) (dst:=37) (e:=5) (s:=s) (k:=(fun b2 cap3 g4 hcap5 hrd6=>?_))
  refine B0 [0,0] [1,8,9,10,11,12,13,99,100,101] (k:=A0 ?_)
  refine B4 (I8 (EI:=(fun ξ:Nat × Int=>[⟨1,[],.int .i64 16⟩,⟨8,[],.bool false⟩,⟨9,[],.string s⟩,⟨10,[],.int .u64 1152921504606846976⟩,⟨11,[],.int .u64 4294967295⟩,⟨12,[],.bool false⟩,⟨13,[],.int .u64 ξ.2⟩,⟨99,[],.slice (some ⟨b2,0,none⟩) s.size cap3⟩,⟨100,[],.int .i64 ((s.size:Nat):Int)⟩,⟨101,[],.int .i64 (ξ.1:Int)⟩])) (HI:=(fun ξ:Nat × Int=>(g4::H))) (Φ:=(fun ξ:Nat × Int=>(ξ.1≤s.size)∧(0≤ξ.2)∧(ξ.2<16 ^ ξ.1)∧(numV 16 0 s.data.toList=numV 16 ξ.2 (s.data.toList.drop ξ.1)))) (μ:=(fun ξ:Nat × Int=>s.size - ξ.1)) (s0:=(0,0)) [1,8,9,10,11,12,13,99,100,101] kr rfl ⟨(by omega),(Int.le_refl _),(by decide),rfl⟩ ?_)
  rintro ⟨k,n⟩ ⟨hk,hn0,hn1,hV⟩
  dsimp only at hk hn0 hn1 hV
  have hp:=pow16 (show k≤7 by omega)
  have hcr:=byte_rng (s.data.toList.getD k 0)
  refine A1 (G_p [0] [1,8,9,10,11,12,13,99,100,101,102] (k:=?_))
  refine A0 (A1 ?_)
  refine B1 (b:=decide ((k:Int)<((s.size:Nat):Int))) kr (fun hc7=>?_) (fun hc7=>?_)
  ·
   simp only [decide_eq_true_eq] at hc7
   refine A7 (A0 ?_)
   refine A1 (B4 ?_)
   refine A1 (A2 ?_)
   refine C4 (ch:=[]) (a:=(some ⟨b2,0,none⟩)) (len:=s.size) (cap:=cap3) (kd:=.i64) (j:=(k:Int)) (e:=5) (sz:=1) (S:=(inG g4)) (cs:=(u8s s.data.toList)) (hrd:=hrd6) (hb:=(fun _=>by exact ⟨by omega,by omega,by intro h; have:=congrArg List.length h; rw [show (Go.Sw.u8s s.data.toList).length=s.size from (List.length_map _).trans hlen] at this; simp only [List.length_nil] at this; omega⟩)) (k:=E6 (ch:=[]) (a:=(some ⟨b2,0,none⟩)) (q:=(Int.toNat (k:Int)) * 1) (S:=(inG g4)) (cs:=(u8s s.data.toList)) (v:=.int .u8 ((s.data.toList.getD k 0).toNat:Int)) (hrd:=hrd6) (hS:=D2 0 rfl) (hv:=(fun _=>(by rw [Nat.mul_one,Int.toNat_natCast]; exact Go.Sha.u8s_at (by rw [hlen]; omega)))) (k:=?_))
   refine B0 [0] [1,8,9,10,11,12,13,15,99,100,101] (k:=A0 ?_)
   refine A1 (G_p [0] [1,8,9,10,11,12,13,15,99,100,101] (k:=?_))
   refine A0 (A1 ?_)
   refine B4 (A1 ?_)
   refine G_p [0,0,0,0,6,0] [1,8,9,10,11,12,13,15,99,100,101,106] (k:=A0 ?_)
   refine B1 (b:=(((s.data.toList.getD k 0).toNat:Int)==95)&&false) kr (fun hc8=>?_) (fun hc8=>?_)
   ·
    simp at hc8
   ·
    skip
    refine A1 (G_p [0,0,0,0,0,6,0] [1,8,9,10,11,12,13,15,99,100,101,112] (k:=?_))
    refine A0 (B1 (b:=(decide (48≤((s.data.toList.getD k 0).toNat:Int)))&&(decide (((s.data.toList.getD k 0).toNat:Int)≤57))) kr (fun hc9=>?_) (fun hc9=>?_))
    ·
     simp only [Bool.and_eq_true,decide_eq_true_eq] at hc9
     refine A2 (C1 (E':=[⟨120,[],.int .u8 (IntKind.wrap .u8 (((s.data.toList.getD k 0).toNat:Int) - 48))⟩,⟨1,[],.int .i64 16⟩,⟨8,[],.bool false⟩,⟨9,[],.string s⟩,⟨10,[],.int .u64 1152921504606846976⟩,⟨11,[],.int .u64 4294967295⟩,⟨12,[],.bool false⟩,⟨13,[],.int .u64 n⟩,⟨99,[],.slice (some ⟨b2,0,none⟩) s.size cap3⟩,⟨100,[],.int .i64 ((s.size:Nat):Int)⟩,⟨101,[],.int .i64 (k:Int)⟩]) (j:=2) [0,0] (k:=?_))
     refine C8 (E':=[⟨120,[],.int .u8 (dgI ((s.data.toList.getD k 0).toNat:Int))⟩,⟨1,[],.int .i64 16⟩,⟨8,[],.bool false⟩,⟨9,[],.string s⟩,⟨10,[],.int .u64 1152921504606846976⟩,⟨11,[],.int .u64 4294967295⟩,⟨12,[],.bool false⟩,⟨13,[],.int .u64 n⟩,⟨99,[],.slice (some ⟨b2,0,none⟩) s.size cap3⟩,⟨100,[],.int .i64 ((s.size:Nat):Int)⟩,⟨101,[],.int .i64 (k:Int)⟩]) (by rw [dgI1 (c:=((s.data.toList.getD k 0).toNat:Int)) (by omega)]) (B8 (E':=[⟨1,[],.int .i64 16⟩,⟨8,[],.bool false⟩,⟨9,[],.string s⟩,⟨10,[],.int .u64 1152921504606846976⟩,⟨11,[],.int .u64 4294967295⟩,⟨12,[],.bool false⟩,⟨13,[],.int .u64 n⟩,⟨16,[],.int .u8 (dgI ((s.data.toList.getD k 0).toNat:Int))⟩,⟨99,[],.slice (some ⟨b2,0,none⟩) s.size cap3⟩,⟨100,[],.int .i64 ((s.size:Nat):Int)⟩,⟨101,[],.int .i64 (k:Int)⟩]) [0] [1,8,9,10,11,12,13,16,99,100,101] (k:=?_))
     refine B2 (A0 ?_)
     refine A1 (A1 ?_)
     refine G_p [0,0,0,0] [1,8,9,10,11,12,13,16,99,100,101,137] (k:=A0 ?_)
     refine B1 (b:=decide ((dgI ((s.data.toList.getD k 0).toNat:Int)) ≥ 16)) kr (fun hc10=>?_) (fun hc10=>?_)
     ·
      simp only [ge_iff_le,decide_eq_true_eq] at hc10
      have hdg:=(dg_ok (c:=((s.data.toList.getD k 0).toNat:Int)) (base:=16) (by omega) hcr (by omega)).2 (by omega)
      refine A1 (G_p [0,0,0] [6,7] (k:=?_))
      refine A0 (B6 ?_)
      refine A3 (A9 ?_)
      refine A3 (A3 ?_)
      refine A9 (A3 ?_)
      refine C9 (H':=H) (fun w h=>(h.erase 0)) (B5 [.tmp 6,.tmp 7] [.int .u64 0,.iface 137 (.int .i64 2)] (k:=?_))
      exact ⟨.inr ⟨N7 hV (show k<s.data.toList.length by rw [hlen]; omega) hdg,rfl⟩,rfl⟩
     ·
      simp only [ge_iff_le,decide_eq_false_iff_not] at hc10
      have hdg:=(dg_ok (c:=((s.data.toList.getD k 0).toNat:Int)) (base:=16) (by omega) hcr (by omega)).1 (by omega)
      refine A7 (A0 ?_)
      refine A1 (A1 ?_)
      refine G_p [0,0,0] [1,8,9,10,11,12,13,16,99,100,101,141] (k:=A0 ?_)
      refine B1 (b:=decide (n ≥ 1152921504606846976)) kr (fun hc11=>?_) (fun hc11=>?_)
      ·
       simp only [ge_iff_le,decide_eq_true_eq] at hc11; omega
      ·
       simp only [ge_iff_le,decide_eq_false_iff_not] at hc11
       refine A7 (A0 ?_)
       refine A1 (A2 ?_)
       refine C1 (E':=[⟨147,[],.int .u64 (IntKind.wrap .u64 (n * 16))⟩,⟨1,[],.int .i64 16⟩,⟨8,[],.bool false⟩,⟨9,[],.string s⟩,⟨10,[],.int .u64 1152921504606846976⟩,⟨11,[],.int .u64 4294967295⟩,⟨12,[],.bool false⟩,⟨13,[],.int .u64 n⟩,⟨16,[],.int .u8 (dgI ((s.data.toList.getD k 0).toNat:Int))⟩,⟨99,[],.slice (some ⟨b2,0,none⟩) s.size cap3⟩,⟨100,[],.int .i64 ((s.size:Nat):Int)⟩,⟨101,[],.int .i64 (k:Int)⟩]) (j:=4) [0,0,0,0] (k:=C8 (E':=[⟨147,[],.int .u64 (n * 16)⟩,⟨1,[],.int .i64 16⟩,⟨8,[],.bool false⟩,⟨9,[],.string s⟩,⟨10,[],.int .u64 1152921504606846976⟩,⟨11,[],.int .u64 4294967295⟩,⟨12,[],.bool false⟩,⟨13,[],.int .u64 n⟩,⟨16,[],.int .u8 (dgI ((s.data.toList.getD k 0).toNat:Int))⟩,⟨99,[],.slice (some ⟨b2,0,none⟩) s.size cap3⟩,⟨100,[],.int .i64 ((s.size:Nat):Int)⟩,⟨101,[],.int .i64 (k:Int)⟩]) (by rw [w64u (x:=n * 16) (by omega) (by omega)]) ?_)
       refine B0 [0] [1,8,9,10,11,12,13,16,99,100,101] (k:=A0 ?_)
       refine A1 ?_
       have hw12:IntKind.wrap .u64 (dgI ((s.data.toList.getD k 0).toNat:Int))=(dgI ((s.data.toList.getD k 0).toNat:Int)):=w64u (by omega) (by omega)
       refine A2 (C1 (E':=[⟨151,[],.int .u64 (IntKind.wrap .u64 ((n * 16)+(dgI ((s.data.toList.getD k 0).toNat:Int))))⟩,⟨1,[],.int .i64 16⟩,⟨8,[],.bool false⟩,⟨9,[],.string s⟩,⟨10,[],.int .u64 1152921504606846976⟩,⟨11,[],.int .u64 4294967295⟩,⟨12,[],.bool false⟩,⟨13,[],.int .u64 (n * 16)⟩,⟨99,[],.slice (some ⟨b2,0,none⟩) s.size cap3⟩,⟨100,[],.int .i64 ((s.size:Nat):Int)⟩,⟨101,[],.int .i64 (k:Int)⟩]) [0,0,0,0] (Eq.trans (b:=some [⟨151,[],.int .u64 (IntKind.wrap .u64 ((n * 16)+(IntKind.wrap .u64 (dgI ((s.data.toList.getD k 0).toNat:Int)))))⟩,⟨1,[],.int .i64 16⟩,⟨8,[],.bool false⟩,⟨9,[],.string s⟩,⟨10,[],.int .u64 1152921504606846976⟩,⟨11,[],.int .u64 4294967295⟩,⟨12,[],.bool false⟩,⟨13,[],.int .u64 (n * 16)⟩,⟨99,[],.slice (some ⟨b2,0,none⟩) s.size cap3⟩,⟨100,[],.int .i64 ((s.size:Nat):Int)⟩,⟨101,[],.int .i64 (k:Int)⟩]) kr (by simp only [hw12])) (j:=4) rfl ?_)
       refine C8 (E':=[⟨151,[],.int .u64 (n * 16+dgI ((s.data.toList.getD k 0).toNat:Int))⟩,⟨1,[],.int .i64 16⟩,⟨8,[],.bool false⟩,⟨9,[],.string s⟩,⟨10,[],.int .u64 1152921504606846976⟩,⟨11,[],.int .u64 4294967295⟩,⟨12,[],.bool false⟩,⟨13,[],.int .u64 (n * 16)⟩,⟨99,[],.slice (some ⟨b2,0,none⟩) s.size cap3⟩,⟨100,[],.int .i64 ((s.size:Nat):Int)⟩,⟨101,[],.int .i64 (k:Int)⟩]) (by rw [w64u (x:=n * 16+dgI ((s.data.toList.getD k 0).toNat:Int)) (by omega) (by omega)]) (B0 [0] [1,8,9,10,11,12,13,17,99,100,101] (k:=?_))
       refine A0 (A1 ?_)
       refine A1 (G_p [0,0,0,0,0,0,0,5] [1,8,9,10,11,12,17,99,100,101,159] (k:=?_))
       refine A0 (B1 (b:=(decide ((n * 16+dgI ((s.data.toList.getD k 0).toNat:Int))<(n * 16)))||(decide ((n * 16+dgI ((s.data.toList.getD k 0).toNat:Int)) > 4294967295))) kr (fun hc13=>?_) (fun hc13=>?_))
       ·
        simp only [gt_iff_lt,Bool.or_eq_true,decide_eq_true_eq] at hc13; omega
       ·
        simp only [gt_iff_lt,Bool.or_eq_false_iff,decide_eq_false_iff_not] at hc13
        refine A7 (A0 ?_)
        refine B3 (E':=[⟨1,[],.int .i64 16⟩,⟨8,[],.bool false⟩,⟨9,[],.string s⟩,⟨10,[],.int .u64 1152921504606846976⟩,⟨11,[],.int .u64 4294967295⟩,⟨12,[],.bool false⟩,⟨13,[],.int .u64 (n * 16+dgI ((s.data.toList.getD k 0).toNat:Int))⟩,⟨99,[],.slice (some ⟨b2,0,none⟩) s.size cap3⟩,⟨100,[],.int .i64 ((s.size:Nat):Int)⟩,⟨101,[],.int .i64 (k:Int)⟩]) [0,0] [1,8,9,10,11,12,13,99,100,101] (k:=B2 ?_)
        refine A0 (A2 ?_)
        refine A6 (j:=1) [0] (k:=C3 163 ((k:Int)+1) (by omega) (by omega) kr ?_)
        refine B0 [0] [1,8,9,10,11,12,13,99,100,101] (k:=D8 (s':=(k+1,(n * 16+dgI ((s.data.toList.getD k 0).toNat:Int)))) [1,8,9,10,11,12,13,99,100,101] kr rfl ⟨(by dsimp only; omega),(by dsimp only; omega),(by dsimp only; rw [Int.pow_succ]; omega),(by dsimp only; rw [hV,G0 _ (show k<s.data.toList.length by rw [hlen]; omega),H9,hdg.1,if_neg (by omega),Int.mul_comm])⟩ (by dsimp only; omega))
    ·
     simp only [Bool.and_eq_false_iff,decide_eq_false_iff_not] at hc9
     refine A1 (A2 ?_)
     refine A6 (j:=1) [0] (k:=G4 Tryz.func95 (lower_ ((s.data.toList.getD k 0).toNat:Int) _ _) ?_)
     refine A6 (j:=5) [0,0,0] (k:=F6 (ch:=[(125,true)]) (f:=95) (fst:=#[]) (caps:=#[]) (vs:=[.int .u8 ((s.data.toList.getD k 0).toNat:Int)]) (v:=.int .u8 (lowI ((s.data.toList.getD k 0).toNat:Int))) (hf:=Tryz.func95) (hc:=(fun hc=>lower_ ((s.data.toList.getD k 0).toNat:Int) _ _)) (k:=?_))
     refine B8 (E':=[⟨1,[],.int .i64 16⟩,⟨8,[],.bool false⟩,⟨9,[],.string s⟩,⟨10,[],.int .u64 1152921504606846976⟩,⟨11,[],.int .u64 4294967295⟩,⟨12,[],.bool false⟩,⟨13,[],.int .u64 n⟩,⟨15,[],.int .u8 ((s.data.toList.getD k 0).toNat:Int)⟩,⟨99,[],.slice (some ⟨b2,0,none⟩) s.size cap3⟩,⟨100,[],.int .i64 ((s.size:Nat):Int)⟩,⟨101,[],.int .i64 (k:Int)⟩,⟨121,[],.bool ((decide (97≤(lowI ((s.data.toList.getD k 0).toNat:Int))))&&(decide ((lowI ((s.data.toList.getD k 0).toNat:Int))≤122)))⟩]) [0,6,0] [1,8,9,10,11,12,13,15,99,100,101,121] (k:=A0 ?_)
     refine B1 (b:=(decide (97≤(lowI ((s.data.toList.getD k 0).toNat:Int))))&&(decide ((lowI ((s.data.toList.getD k 0).toNat:Int))≤122))) kr (fun hc15=>?_) (fun hc15=>?_)
     ·
      simp only [Bool.and_eq_true,decide_eq_true_eq] at hc15
      refine A2 (A6 (j:=1) [0] (k:=?_))
      refine G4 Tryz.func95 (lower_ ((s.data.toList.getD k 0).toNat:Int) _ _) (C1 (E':=[⟨133,[],.int .u8 (IntKind.wrap .u8 ((IntKind.wrap .u8 ((lowI ((s.data.toList.getD k 0).toNat:Int)) - 97))+10))⟩,⟨1,[],.int .i64 16⟩,⟨8,[],.bool false⟩,⟨9,[],.string s⟩,⟨10,[],.int .u64 1152921504606846976⟩,⟨11,[],.int .u64 4294967295⟩,⟨12,[],.bool false⟩,⟨13,[],.int .u64 n⟩,⟨99,[],.slice (some ⟨b2,0,none⟩) s.size cap3⟩,⟨100,[],.int .i64 ((s.size:Nat):Int)⟩,⟨101,[],.int .i64 (k:Int)⟩]) (j:=4) [0,0] (k:=?_))
      refine C8 (E':=[⟨133,[],.int .u8 (dgI ((s.data.toList.getD k 0).toNat:Int))⟩,⟨1,[],.int .i64 16⟩,⟨8,[],.bool false⟩,⟨9,[],.string s⟩,⟨10,[],.int .u64 1152921504606846976⟩,⟨11,[],.int .u64 4294967295⟩,⟨12,[],.bool false⟩,⟨13,[],.int .u64 n⟩,⟨99,[],.slice (some ⟨b2,0,none⟩) s.size cap3⟩,⟨100,[],.int .i64 ((s.size:Nat):Int)⟩,⟨101,[],.int .i64 (k:Int)⟩]) (by rw [dgI2 (c:=((s.data.toList.getD k 0).toNat:Int)) (by omega) (by omega)]) (B0 [0] [1,8,9,10,11,12,13,16,99,100,101] (k:=?_))
      refine B2 (A0 ?_)
      refine A1 (A1 ?_)
      refine G_p [0,0,0,0] [1,8,9,10,11,12,13,16,99,100,101,137] (k:=A0 ?_)
      refine B1 (b:=decide ((dgI ((s.data.toList.getD k 0).toNat:Int)) ≥ 16)) kr (fun hc16=>?_) (fun hc16=>?_)
      ·
       simp only [ge_iff_le,decide_eq_true_eq] at hc16
       have hdg:=(dg_ok (c:=((s.data.toList.getD k 0).toNat:Int)) (base:=16) (by omega) hcr (by omega)).2 (by omega)
       refine A1 (G_p [0,0,0] [6,7] (k:=?_))
       refine A0 (B6 ?_)
       refine A3 (A9 ?_)
       refine A3 (A3 ?_)
       refine A9 (A3 ?_)
       refine C9 (H':=H) (fun w h=>(h.erase 0)) (B5 [.tmp 6,.tmp 7] [.int .u64 0,.iface 137 (.int .i64 2)] (k:=?_))
       exact ⟨.inr ⟨N7 hV (show k<s.data.toList.length by rw [hlen]; omega) hdg,rfl⟩,rfl⟩
      ·
       simp only [ge_iff_le,decide_eq_false_iff_not] at hc16
       have hdg:=(dg_ok (c:=((s.data.toList.getD k 0).toNat:Int)) (base:=16) (by omega) hcr (by omega)).1 (by omega)
       refine A7 (A0 ?_)
       refine A1 (A1 ?_)
       refine G_p [0,0,0] [1,8,9,10,11,12,13,16,99,100,101,141] (k:=A0 ?_)
       refine B1 (b:=decide (n ≥ 1152921504606846976)) kr (fun hc17=>?_) (fun hc17=>?_)
       ·
        simp only [ge_iff_le,decide_eq_true_eq] at hc17; omega
       ·
        simp only [ge_iff_le,decide_eq_false_iff_not] at hc17
        refine A7 (A0 ?_)
        refine A1 (A2 ?_)
        refine C1 (E':=[⟨147,[],.int .u64 (IntKind.wrap .u64 (n * 16))⟩,⟨1,[],.int .i64 16⟩,⟨8,[],.bool false⟩,⟨9,[],.string s⟩,⟨10,[],.int .u64 1152921504606846976⟩,⟨11,[],.int .u64 4294967295⟩,⟨12,[],.bool false⟩,⟨13,[],.int .u64 n⟩,⟨16,[],.int .u8 (dgI ((s.data.toList.getD k 0).toNat:Int))⟩,⟨99,[],.slice (some ⟨b2,0,none⟩) s.size cap3⟩,⟨100,[],.int .i64 ((s.size:Nat):Int)⟩,⟨101,[],.int .i64 (k:Int)⟩]) (j:=4) [0,0,0,0] (k:=C8 (E':=[⟨147,[],.int .u64 (n * 16)⟩,⟨1,[],.int .i64 16⟩,⟨8,[],.bool false⟩,⟨9,[],.string s⟩,⟨10,[],.int .u64 1152921504606846976⟩,⟨11,[],.int .u64 4294967295⟩,⟨12,[],.bool false⟩,⟨13,[],.int .u64 n⟩,⟨16,[],.int .u8 (dgI ((s.data.toList.getD k 0).toNat:Int))⟩,⟨99,[],.slice (some ⟨b2,0,none⟩) s.size cap3⟩,⟨100,[],.int .i64 ((s.size:Nat):Int)⟩,⟨101,[],.int .i64 (k:Int)⟩]) (by rw [w64u (x:=n * 16) (by omega) (by omega)]) ?_)
        refine B0 [0] [1,8,9,10,11,12,13,16,99,100,101] (k:=A0 ?_)
        refine A1 ?_
        have hw18:IntKind.wrap .u64 (dgI ((s.data.toList.getD k 0).toNat:Int))=(dgI ((s.data.toList.getD k 0).toNat:Int)):=w64u (by omega) (by omega)
        refine A2 (C1 (E':=[⟨151,[],.int .u64 (IntKind.wrap .u64 ((n * 16)+(dgI ((s.data.toList.getD k 0).toNat:Int))))⟩,⟨1,[],.int .i64 16⟩,⟨8,[],.bool false⟩,⟨9,[],.string s⟩,⟨10,[],.int .u64 1152921504606846976⟩,⟨11,[],.int .u64 4294967295⟩,⟨12,[],.bool false⟩,⟨13,[],.int .u64 (n * 16)⟩,⟨99,[],.slice (some ⟨b2,0,none⟩) s.size cap3⟩,⟨100,[],.int .i64 ((s.size:Nat):Int)⟩,⟨101,[],.int .i64 (k:Int)⟩]) [0,0,0,0] (Eq.trans (b:=some [⟨151,[],.int .u64 (IntKind.wrap .u64 ((n * 16)+(IntKind.wrap .u64 (dgI ((s.data.toList.getD k 0).toNat:Int)))))⟩,⟨1,[],.int .i64 16⟩,⟨8,[],.bool false⟩,⟨9,[],.string s⟩,⟨10,[],.int .u64 1152921504606846976⟩,⟨11,[],.int .u64 4294967295⟩,⟨12,[],.bool false⟩,⟨13,[],.int .u64 (n * 16)⟩,⟨99,[],.slice (some ⟨b2,0,none⟩) s.size cap3⟩,⟨100,[],.int .i64 ((s.size:Nat):Int)⟩,⟨101,[],.int .i64 (k:Int)⟩]) kr (by simp only [hw18])) (j:=4) rfl ?_)
        refine C8 (E':=[⟨151,[],.int .u64 (n * 16+dgI ((s.data.toList.getD k 0).toNat:Int))⟩,⟨1,[],.int .i64 16⟩,⟨8,[],.bool false⟩,⟨9,[],.string s⟩,⟨10,[],.int .u64 1152921504606846976⟩,⟨11,[],.int .u64 4294967295⟩,⟨12,[],.bool false⟩,⟨13,[],.int .u64 (n * 16)⟩,⟨99,[],.slice (some ⟨b2,0,none⟩) s.size cap3⟩,⟨100,[],.int .i64 ((s.size:Nat):Int)⟩,⟨101,[],.int .i64 (k:Int)⟩]) (by rw [w64u (x:=n * 16+dgI ((s.data.toList.getD k 0).toNat:Int)) (by omega) (by omega)]) (B0 [0] [1,8,9,10,11,12,13,17,99,100,101] (k:=?_))
        refine A0 (A1 ?_)
        refine A1 (B3 (E':=[⟨1,[],.int .i64 16⟩,⟨8,[],.bool false⟩,⟨9,[],.string s⟩,⟨10,[],.int .u64 1152921504606846976⟩,⟨11,[],.int .u64 4294967295⟩,⟨12,[],.bool false⟩,⟨17,[],.int .u64 (n * 16+dgI ((s.data.toList.getD k 0).toNat:Int))⟩,⟨99,[],.slice (some ⟨b2,0,none⟩) s.size cap3⟩,⟨100,[],.int .i64 ((s.size:Nat):Int)⟩,⟨101,[],.int .i64 (k:Int)⟩,⟨159,[],.bool ((decide ((n * 16+dgI ((s.data.toList.getD k 0).toNat:Int))<(n * 16)))||(decide ((n * 16+dgI ((s.data.toList.getD k 0).toNat:Int)) > 4294967295)))⟩]) [0,0,0,0,0,0,0,5] [1,8,9,10,11,12,17,99,100,101,159] (k:=?_))
        refine A0 (B1 (b:=(decide ((n * 16+dgI ((s.data.toList.getD k 0).toNat:Int))<(n * 16)))||(decide ((n * 16+dgI ((s.data.toList.getD k 0).toNat:Int)) > 4294967295))) kr (fun hc19=>?_) (fun hc19=>?_))
        ·
         simp only [gt_iff_lt,Bool.or_eq_true,decide_eq_true_eq] at hc19; omega
        ·
         simp only [gt_iff_lt,Bool.or_eq_false_iff,decide_eq_false_iff_not] at hc19
         refine A7 (A0 ?_)
         refine G_p [0,0] [1,8,9,10,11,12,13,99,100,101] (k:=B2 ?_)
         refine A0 (A2 ?_)
         refine A6 (j:=1) [0] (k:=C3 163 ((k:Int)+1) (by omega) (by omega) kr ?_)
         refine B0 [0] [1,8,9,10,11,12,13,99,100,101] (k:=D8 (s':=(k+1,(n * 16+dgI ((s.data.toList.getD k 0).toNat:Int)))) [1,8,9,10,11,12,13,99,100,101] kr rfl ⟨(by dsimp only; omega),(by dsimp only; omega),(by dsimp only; rw [Int.pow_succ]; omega),(by dsimp only; rw [hV,G0 _ (show k<s.data.toList.length by rw [hlen]; omega),H9,hdg.1,if_neg (by omega),Int.mul_comm])⟩ (by dsimp only; omega))
     ·
      simp only [Bool.and_eq_false_iff,decide_eq_false_iff_not] at hc15
      refine A1 (G_p [0,0,0] [6,7] (k:=?_))
      refine A0 (B6 ?_)
      refine A9 (A3 ?_)
      refine A9 (A3 ?_)
      refine A3 (A9 ?_)
      refine A3 (C9 (H':=H) (fun w h=>(h.erase 0)) ?_)
      refine B5 [.tmp 6,.tmp 7] [.int .u64 0,.iface 137 (.int .i64 2)] (k:=?_)
      exact ⟨.inr ⟨N7 hV (show k<s.data.toList.length by rw [hlen]; omega) (dg_no (by omega) (by omega) hcr (by decide)),rfl⟩,rfl⟩
  ·
   simp only [decide_eq_false_iff_not] at hc7
   refine F7 (A8 ?_)
   refine A8 (C2 ?_)
   refine A0 (A1 ?_)
   refine A1 (G_p [0,0,1,1,1,3] [13,169] (k:=?_))
   refine A0 (D7 kr ?_)
   refine A7 (A0 ?_)
   refine A1 (G_p [0,0,0] [6,7] (k:=?_))
   refine A0 (B6 ?_)
   refine C9 (H':=H) (fun w h=>(h.erase 0)) (B5 [.tmp 6,.tmp 7] [.int .u64 n,.nilIface] (k:=?_))
   exact ⟨.inl ⟨n,by rw [hV,List.drop_eq_nil_of_le (by rw [hlen]; omega),O3],hn0,by rw [show s.size=k by omega]; exact hn1,rfl⟩,rfl⟩
end Go.Proofs.YtbnfbffiehoapaaGreatDoor
namespace Go.Sw
def isIfT (P:Program) (t:TypeId):Bool:=match P.underlying t with | some (.interface _)=>true | _=>false
theorem isIfT_ms {P:Program} {t:TypeId} (h:isIfT P t=true):∃ ms,P.underlying t=some (.interface ms):=by
  unfold isIfT at h; split at h
  · rename_i ms he; exact ⟨ms,he⟩
  · cases h
def isIntT (P:Program) (t:TypeId):Bool:=match P.underlying t with | some (.int _)=>true | _=>false
theorem isIntT_k {P:Program} {t:TypeId} (h:isIntT P t=true):∃ k,P.underlying t=some (.int k):=by
  unfold isIntT at h; split at h
  · rename_i k he; exact ⟨k,he⟩
  · cases h
theorem run_ifNil {P:Program} (w:World) {t:TypeId} {ms:Array (String × TypeId)} {v:Value} {e ne:Bool} (ht:P.underlying t=some (.interface ms)) (hv:(v=.nilIface∧e=true)∨((∃ a b,v=.iface a b)∧e=false)) :
    (binOp (if ne then .neq else .eql) t v .nilIface).run P w=.ok (.bool (ne ^^ e)) w:=by
  have h:∀ d:Nat,(Op.equalIn (d+1) t v .nilIface).run P w=.ok e w:=fun d=>by
    rcases hv with ⟨rfl,rfl⟩ | ⟨⟨a,b,rfl⟩,rfl⟩ <;> simp [Op.equalIn,run_underlying ht]
  cases ne
  · show (binOp .eql t v .nilIface).run P w=_
    rcases hv with ⟨rfl,rfl⟩ | ⟨⟨a,b,rfl⟩,rfl⟩ <;> (simp only [binOp]; simp [Op.equal,Op.maxDepth,h 9999])
  · show (binOp .neq t v .nilIface).run P w=_
    rcases hv with ⟨rfl,rfl⟩ | ⟨⟨a,b,rfl⟩,rfl⟩ <;> (simp only [binOp]; simp [Op.equal,Op.maxDepth,h 9999])
theorem K7 {d:Bool} {P:Program} {ops:Array Oper} {i:Nat} {Q:D9} {n:Fr} {E:Env} {W0:World} {H:List Grp} {o:Oper} {ch:List (Nat × Bool)} {t t2:TypeId} {x:Operand} {v:Value} {e:Bool} (ne:Bool)
    (ho:ops[i]? = some o:=by exact rfl) (hop:o.op=.binOp (if ne then .neq else .eql) t x (.const .nilIface) t2:=by exact rfl) (hx:evO E ch x=some v:=by kernel_rfl) (ht:isIfT P t=true:=by kernel_rfl) (hv:(v=.nilIface∧e=true)∨((∃ a b,v=.iface a b)∧e=false))
    (hch:E3 ops E o.guard=some ch:=by kernel_rfl) (hd:F9 n ch o.dst=true:=by kernel_rfl) (hk:H7 E ch=true:=by kernel_rfl)
    (k:GL d P ops (i+1) Q n (Env.put E o.dst ch (.bool (ne ^^ e))) W0 H):GL d P ops i Q n E W0 H:=by
  refine G3 ho hch hd hk (fun r hr _ w hsat=>?_) k
  unfold execOp
  simp only [hop]
  rw [hr _ _ hx,hr (.const .nilIface) .nilIface rfl]
  obtain ⟨ms,ht⟩:=isIfT_ms ht
  have:=run_ifNil (P:=P) w (ne:=ne) ht hv
  have hg:(eqGuard (if ne then .neq else .eql) t x (.const .nilIface) v .nilIface).run P w=.ok () w:=by
    rcases hv with ⟨rfl,rfl⟩ | ⟨⟨a,b,rfl⟩,rfl⟩ <;> cases ne <;> cases x <;> rfl
  simp only [Sem.run_bind,hg,this,Result.andThen_ok]
  exact ⟨rfl,rfl⟩
theorem run_ifInt {P:Program} (w:World) {t tx:TypeId} {ms:Array (String × TypeId)} {k q:IntKind} (a b:Int)
    (ht:P.underlying t=some (.interface ms)) (hc:(P.info? tx).map (·.comparable)=some true) (hx:P.underlying tx=some (.int q)) :
    (binOp .eql t (.iface tx (.int k a)) (.iface tx (.int k b))).run P w=.ok (.bool (a==b)) w:=by
  cases hi:P.info? tx with
  | none=>simp [hi] at hc
  | some i =>
    have hcc:i.comparable=true:=by simpa [hi] using hc
    have h:∀ d:Nat,(Op.equalIn (d+2) t (.iface tx (.int k a)) (.iface tx (.int k b))).run P w=.ok (a==b) w:=fun d=>by
      simp [Op.equalIn,run_underlying ht,run_underlying hx,typeInfo,hi,hcc]
    simp only [binOp]
    simp [Op.equal,Op.maxDepth,h 9998]
theorem GL_ifInt {d:Bool} {P:Program} {ops:Array Oper} {i:Nat} {Q:D9} {n:Fr} {E:Env} {W0:World} {H:List Grp} {o:Oper} {ch:List (Nat × Bool)} {t t2 tx:TypeId} {x y:Operand} {kd:IntKind} {a b:Int}
    (ho:ops[i]? = some o) (hop:o.op=.binOp .eql t x y t2) (hx:evO E ch x=some (.iface tx (.int kd a))) (hy:evO E ch y=some (.iface tx (.int kd b))) (ht:isIfT P t=true) (hc:(P.info? tx).map (·.comparable)=some true) (hq:isIntT P tx=true)
    (hch:E3 ops E o.guard=some ch) (hd:F9 n ch o.dst=true) (hk:H7 E ch=true)
    (k:GL d P ops (i+1) Q n (Env.put E o.dst ch (.bool (a==b))) W0 H):GL d P ops i Q n E W0 H:=by
  refine G3 ho hch hd hk (fun r hr _ w hsat=>?_) k
  unfold execOp
  simp only [hop]
  rw [hr _ _ hx,hr _ _ hy]
  obtain ⟨ms,ht⟩:=isIfT_ms ht
  obtain ⟨q,hq⟩:=isIntT_k hq
  have:=run_ifInt (P:=P) w a b ht hc hq (k:=kd)
  have hg:(eqGuard .eql t x y (.iface tx (.int kd a)) (.iface tx (.int kd b))).run P w=.ok () w:=rfl
  simp only [Sem.run_bind,hg,this,Result.andThen_ok]
  exact ⟨rfl,rfl⟩
end Go.Sw
namespace Go.Esc
open Go.Lib Go.Sw
theorem eqB (s t:ByteArray):(s.toList==t.toList)=true ↔ s.data.toList=t.data.toList:=by rw [beq_iff_eq,Lib.toList_data,Lib.toList_data]
theorem eqBf (s t:ByteArray):(s.toList==t.toList)=false ↔ ¬ s.data.toList=t.data.toList:=by rw [← eqB,Bool.not_eq_true]
def G1 (s t:ByteArray):Bool:=decide ((s.size:Int) ≥ (t.size:Int))&&((s.extract 0 t.size).toList==t.toList)
theorem ext_list (s:ByteArray) (a b:Nat):(s.extract a b).data.toList=(s.data.toList.drop a).take (b - a):=by
  rw [ByteArray.data_extract,Array.toList_extract,List.extract_eq_take_drop]
theorem F4 (s:ByteArray) (a:Nat):(s.extract a s.size).data.toList=s.data.toList.drop a:=by
  rw [ext_list,List.take_of_length_le]
  rw [List.length_drop,Array.length_toList]; exact Nat.le_refl _
theorem ext_take (s:ByteArray) (b:Nat):(s.extract 0 b).data.toList=s.data.toList.take b:=by rw [ext_list,List.drop_zero,Nat.sub_zero]
theorem B7 (s:ByteArray):s.data.toList.length=s.size:=Array.length_toList
theorem G8 (s t:ByteArray):G1 s t=true ↔ s.data.toList.take t.size=t.data.toList:=by
  unfold G1
  rw [Bool.and_eq_true,decide_eq_true_eq,eqB,ext_take]
  refine ⟨fun h=>h.2,fun h=>⟨?_,h⟩⟩
  have:=congrArg List.length h
  rw [List.length_take,B7,B7] at this
  omega
theorem G7 (s t:ByteArray):G1 s t=false ↔ ¬ s.data.toList.take t.size=t.data.toList:=by rw [← G8,Bool.not_eq_true]
theorem E7 (s:ByteArray) (k:Nat):A5 s (k:Int)=((s.data.toList.getD k 0).toNat:Int):=by unfold A5; rw [Int.toNat_natCast,List.getD_eq_getElem?_getD]
theorem getD_get (l:List UInt8) {j:Nat} (h:j<l.length):l.getD j 0=l[j]:=by simp [List.getD,h]
theorem noB_list {s:ByteArray} {c:UInt8} {k:Nat} (hk:k≤s.size):noB s (c.toNat:Int) k ↔ ∀ b∈s.data.toList.take k,b≠c:=by
  constructor
  · intro h b hb
    obtain ⟨j,hj,rfl⟩:=List.getElem_of_mem hb
    rw [List.length_take,B7] at hj
    have:=h j (by omega)
    rw [E7] at this
    rintro he
    apply this
    rw [List.getElem_take] at he
    rw [← he,getD_get _ (by rw [B7]; omega)]
  · intro h j hj he
    rw [E7] at he
    have hjl:j<s.data.toList.length:=by rw [B7]; omega
    refine h (s.data.toList.getD j 0) ?_ (UInt8.toNat_inj.1 (by omega))
    have e:s.data.toList.getD j 0=(s.data.toList.take k)[j]'(by rw [List.length_take]; omega):=by rw [getD_get _ hjl,List.getElem_take]
    rw [e]; exact List.getElem_mem _
theorem at_list {s:ByteArray} {c:UInt8} {k:Nat} (hk:k<s.size) (h:A5 s (k:Int)=(c.toNat:Int)):s.data.toList.drop k=c::s.data.toList.drop (k+1):=by
  rw [G0 _ (by rw [B7]; exact hk)]
  rw [E7] at h
  rw [show s.data.toList.getD k 0=c from UInt8.toNat_inj.1 (by omega)]
theorem idxL_eq {c:UInt8}:∀ {p t:List UInt8},(∀ b∈p,b≠c)→idxL c (p++c::t)=p.length
  | [],t,_=>by simp [idxL,List.findIdx_cons]
  | b::p,t,h=>by
    have:=idxL_eq (p:=p) (t:=t) (fun x hx=>h x (List.mem_cons_of_mem _ hx))
    unfold idxL at this ⊢
    rw [List.cons_append,List.findIdx_cons,beq_eq_false_iff_ne.2 (h b List.mem_cons_self),this]; rfl
theorem idxL_none {c:UInt8} {l:List UInt8} (h:∀ b∈l,b≠c):idxL c l=l.length:=by
  unfold idxL; rw [List.findIdx_eq_length]; intro x hx; exact beq_eq_false_iff_ne.2 (h x hx)
theorem un_none {pre t:List UInt8} (hp:∀ b∈pre,b≠38) (ht:∀ b∈t,b≠59):unL (pre++38::t)=pre++(38::unL t):=by
  rw [unL_app _ _ hp,unL_cons,if_neg (by decide),if_pos]
  unfold refC
  rw [idxL_none ht,if_neg (Nat.lt_irrefl _)]
  decide
theorem refC_at {p t:List UInt8} (h:∀ b∈p,b≠59):refC (p++59::t)=(refM p,p.length+1):=by
  unfold refC
  rw [idxL_eq h]
  dsimp only
  rw [if_pos (by rw [List.length_append,List.length_cons]; omega),List.take_left]
theorem un_bad {pre p t:List UInt8} (hp:∀ b∈pre,b≠38) (h:∀ b∈p,b≠59) (hr:refM p<0):unL (pre++38::(p++59::t))=pre++(38::unL (p++59::t)):=by
  rw [unL_app _ _ hp,unL_cons,if_neg (by decide),if_pos (by rw [refC_at h]; exact hr)]
theorem un_good {pre p t:List UInt8} (hp:∀ b∈pre,b≠38) (h:∀ b∈p,b≠59) (hr:¬ refM p<0):unL (pre++38::(p++59::t))=pre++(encodeRune (refM p)++unL t):=by
  rw [unL_app _ _ hp,unL_cons,if_neg (by decide),if_neg (by rw [refC_at h]; exact hr),refC_at h]
  dsimp only
  rw [show (p++59::t).drop (p.length+1)=t by rw [← List.drop_drop,List.drop_left]; rfl]
theorem numberM_isR {t:List UInt8} {base:Int} {most:Nat} (h:¬ G2 t base most<0):isR (G2 t base most):=by
  unfold G2 at h ⊢
  split at h
  · exact absurd (by decide) h
  · split at h
    · exact absurd (by decide) h
    · rename_i n hn
      rw [if_neg ‹_›]
      (try rw [hn]); (try dsimp only)
      split at h
      · exact absurd (by decide) h
      · rename_i hb
        rw [if_neg hb]
        exact isB_iff.1 (by cases hq:isB n with | true=>rfl | false=>exact absurd (.inr hq) hb)
theorem refM_isR {t:List UInt8} (h:¬ refM t<0):isR (refM t):=by
  unfold refM at h ⊢
  split at h
  · rw [if_pos ‹_›]; unfold isR; omega
  rw [if_neg ‹_›]
  split at h
  · rw [if_pos ‹_›]; unfold isR; omega
  rw [if_neg ‹_›]
  split at h
  · rw [if_pos ‹_›]; unfold isR; omega
  rw [if_neg ‹_›]
  split at h
  · rw [if_pos ‹_›]; unfold isR; omega
  rw [if_neg ‹_›]
  split at h
  · rw [if_pos ‹_›]; unfold isR; omega
  rw [if_neg ‹_›]
  split at h
  · rw [if_pos ‹_›]; exact numberM_isR h
  rw [if_neg ‹_›]
  split at h
  · rw [if_pos ‹_›]; exact numberM_isR h
  rw [if_neg ‹_›]
  split at h
  · rw [if_pos ‹_›]; exact numberM_isR h
  · exact absurd (by decide) h
theorem unA {s:ByteArray} {k:Nat} (hk:k<s.size) (hb:A5 s (k:Int)=38) (hn:noB s 38 k) (hm:noB (s.extract k s.size) 59 (s.extract k s.size).size) :
    unL s.data.toList=s.data.toList.take k++(38::unL ((s.extract k s.size).extract 1 (s.extract k s.size).size).data.toList):=by
  have h1:=(noB_list (c:=38) (Nat.le_of_lt hk)).1 hn
  have h2:=(noB_list (c:=59) (Nat.le_refl _)).1 hm
  rw [List.take_of_length_le (by rw [B7]; exact Nat.le_refl _),F4,at_list (c:=38) hk hb] at h2
  rw [F4,F4,List.drop_drop,← un_none h1 fun b hb=>h2 b (List.mem_cons_of_mem _ hb),← at_list (c:=38) hk hb,List.take_append_drop]
theorem unB {s:ByteArray} {k m:Nat} (hk:k<s.size) (hb:A5 s (k:Int)=38) (hn:noB s 38 k) (hm:m<(s.extract k s.size).size) (hbm:A5 (s.extract k s.size) (m:Int)=59) (hnm:noB (s.extract k s.size) 59 m) (h0:0<m) :
    (refM ((s.extract k s.size).extract 1 m).data.toList<0→unL s.data.toList=s.data.toList.take k++(38::unL ((s.extract k s.size).extract 1 (s.extract k s.size).size).data.toList)) ∧
    (¬ refM ((s.extract k s.size).extract 1 m).data.toList<0→unL s.data.toList=s.data.toList.take k++(encodeRune (refM ((s.extract k s.size).extract 1 m).data.toList)++unL ((s.extract k s.size).extract (m+1) (s.extract k s.size).size).data.toList)):=by
  have h1:=(noB_list (c:=38) (Nat.le_of_lt hk)).1 hn
  have h2:=(noB_list (c:=59) (Nat.le_of_lt hm)).1 hnm
  have h3:=at_list (c:=59) hm hbm
  have e1:s.data.toList=s.data.toList.take k++38::s.data.toList.drop (k+1):=by rw [← at_list (c:=38) hk hb,List.take_append_drop]
  have e2:(s.extract k s.size).data.toList=38::s.data.toList.drop (k+1):=by rw [F4,at_list (c:=38) hk hb]
  have e3:((s.extract k s.size).extract 1 m).data.toList=(s.data.toList.drop (k+1)).take (m - 1):=by rw [ext_list,e2]; rfl
  have e4:s.data.toList.drop (k+1)=(s.data.toList.drop (k+1)).take (m - 1)++59::(s.data.toList.drop (k+1)).drop m:=by
    rw [e2] at h3
    obtain ⟨m',rfl⟩:∃ m',m=m'+1:=⟨m - 1,by omega⟩
    rw [List.drop_succ_cons,List.drop_succ_cons] at h3
    rw [Nat.add_sub_cancel,← h3,List.take_append_drop]
  have h4:∀ b∈(s.data.toList.drop (k+1)).take (m - 1),b≠59:=by
    intro b hb'
    refine h2 b ?_
    rw [e2]
    obtain ⟨m',rfl⟩:∃ m',m=m'+1:=⟨m - 1,by omega⟩
    rw [List.take_succ_cons]
    exact List.mem_cons_of_mem _ hb'
  rw [e3]
  have e5:((s.extract k s.size).extract 1 (s.extract k s.size).size).data.toList=s.data.toList.drop (k+1):=by rw [F4,e2]; rfl
  have e6:((s.extract k s.size).extract (m+1) (s.extract k s.size).size).data.toList=(s.data.toList.drop (k+1)).drop m:=by rw [F4,e2]; rfl
  rw [e5,e6]
  refine ⟨fun hr=>?_,fun hr=>?_⟩
  · have:=un_bad (t:=(s.data.toList.drop (k+1)).drop m) h1 h4 hr
    rw [← e4,← e1] at this; exact this
  · have:=un_good (t:=(s.data.toList.drop (k+1)).drop m) h1 h4 hr
    rw [← e4,← e1] at this; exact this
theorem unC {s:ByteArray} (hn:noB s 38 s.size):unL s.data.toList=s.data.toList:=by
  have h1:=(noB_list (c:=38) (Nat.le_refl _)).1 hn
  rw [List.take_of_length_le (by rw [B7]; exact Nat.le_refl _)] at h1
  have:=unL_app s.data.toList [] h1
  rwa [List.append_nil,unL_nil,List.append_nil] at this
theorem m_pos {s:ByteArray} {k m:Nat} (hk:k<s.size) (hb:A5 s (k:Int)=38) (hbm:A5 (s.extract k s.size) (m:Int)=59):0<m:=by
  rcases Nat.eq_zero_or_pos m with rfl | h
  · have e2:(s.extract k s.size).data.toList=38::s.data.toList.drop (k+1):=by rw [F4,at_list (c:=38) hk hb]
    rw [E7,e2] at hbm; exact absurd (show (38:Int)=59 from hbm) (by decide)
  · exact h
end Go.Esc
namespace Go.Proofs.YtbnfbffiehoapaaGreatDoor
open Go.Sw Go.Sha Go.Esc Go.RowKit
theorem Tri_ex {P:Program} {f:FuncId} {args:Array Value} {W0:World} {H:List Grp} {K:Value→Prop}
    (h:∀ w,Sat W0 H w→Calls P f args w fun e w'=>(∃ v,e=.returned v∧K v)∧Below w.heap.size w w'):Tri P f args W0 H (fun u H'=>K u∧H'=H) :=
  fun w hs=>(h w hs).mono fun e w' ⟨⟨v,he,hk⟩,hb⟩=>⟨v,H,he,⟨hk,rfl⟩,by
    have hlt:∀ p,p∈H.flatten→p.1<w.heap.size:=fun p hp=>by
      have:=hs.has p hp
      rcases Nat.lt_or_ge p.1 w.heap.size with h' | h'
      · exact h'
      · simp [Array.getElem?_eq_none h'] at this
    exact ⟨hs.below.trans (hb.mono hs.below.size),hs.nodup,fun p hp=>by rw [hb.block _ (hlt p hp)]; exact hs.has p hp,hs.high⟩⟩
structure I2 (W0:World):Prop where
  err:∃ ev,4<W0.heap.size∧W0.cell? ⟨4,0,none⟩=some ev∧(ev=.nilIface∨∃ te pe,ev=.iface te pe)
  tz:∃ c e fz,7<W0.heap.size∧W0.heap[7]? = some (.cells c e fz)∧c[15]? = some (.int .u8 4)
  utf:Lib.Utf8Tabs 0 1 W0
theorem cell_base {W0:World} {H:List Grp} {w:World} (hs:Sat W0 H w) {b off:Nat} {v:Value} (hb:b<W0.heap.size) (h:W0.cell? ⟨b,off,none⟩=some v):w.cell? ⟨b,off,none⟩=some v:=by
  rw [← h]; unfold World.cell?; simp only [hs.below.block b hb]
theorem synErr (fn s:ByteArray) (hs:s.size≤281474976710656) (W0:World) (H:List Grp) (hW:I2 W0):Tri Tryz.prog 97 #[.string fn,.string s] W0 H (fun v H'=>(∃ N,v=pt N)∧H'=H) :=
  Tri_ex (fun w hw=>by
    obtain ⟨ev,h1,h2,h3⟩:=hW.err
    exact (Tryz.strconv_syntaxError fn s ev w hs (cell_base hw h1 h2) h3).mono fun e w' ⟨N,h1,_,_,h4⟩=>⟨⟨_,h1,N,rfl⟩,h4⟩)
theorem toErr_ (fn s:ByteArray) (hs:s.size≤1000000000000) (b c:Int) (W0:World) (H:List Grp) (hW:I2 W0):Tri Tryz.prog 81 #[.string fn,.string s,.int .i64 b,.int .i64 c,.iface 137 (.int .i64 2)] W0 H (fun v H'=>(∃ N,v=.iface 139 (pt N))∧H'=H):=by
 refine D1 (args:=[.string fn,.string s,.int .i64 b,.int .i64 c,.iface 137 (.int .i64 2)]) (n:=43) Tryz.func81 rfl rfl (Nat.le_of_ble_eq_true rfl) ?_
 refine A1 (G_p [0] [0,1,2,3,4] (k:=?_))
 refine A0 (A1 ?_)
 refine A1 (G_p [0] [0,1,2,3,4,11] (k:=?_))
 refine A0 (B4 ?_)
 refine A1 (A2 ?_)
 refine A6 (j:=1) [0] (k:=GL_ifInt (i:=1) (ch:=[]) (tx:=137) (kd:=.i64) (a:=2) (b:=2) rfl rfl kr kr kr kr kr kr kr kr ?_)
 refine B0 [0] [0,1,2,3,4,11,12] (k:=A0 ?_)
 refine C6 kr (A1 ?_)
 refine A2 (A6 (j:=2) [0,0] (k:=?_))
 refine F2 Tryz.func97 (synErr fn s (by omega) _ _ hW) ?_
 rintro _ _ ⟨⟨N,rfl⟩,rfl⟩
 refine B8 (E':=[⟨10,[],.iface 139 (pt N)⟩]) [0,0] [10] (k:=A0 ?_)
 refine B6 (A9 ?_)
 refine A3 (B5 [.tmp 10] [.iface 139 (pt N)] (k:=?_))
 exact ⟨⟨N,rfl⟩,rfl⟩
theorem parse10_ (s:ByteArray) (h0:0<s.size) (hs:s.size≤7) (W0:World) (H:List Grp) (hW:I2 W0):Tri Tryz.prog 63 #[.string s,.int .i64 10,.int .i64 32] W0 H (fun v H'=>((∃ n,numV 10 0 s.data.toList=some n∧0≤n∧n<16 ^ s.size∧v=.tuple #[.int .u64 n,.nilIface])∨(numV 10 0 s.data.toList=none∧∃ N,v=.tuple #[.int .u64 0,.iface 139 (pt N)]))∧H'=H):=by
 refine D1 (args:=[.string s,.int .i64 10,.int .i64 32]) (n:=26) Tryz.func63 rfl rfl (Nat.le_of_ble_eq_true rfl) ?_
 refine A1 (G_p [0,0] [0,1,2] (k:=?_))
 refine A0 (A1 ?_)
 refine A2 (A6 (j:=3) [0,0,0] (k:=?_))
 refine F2 Tryz.func80 (inner10_ s h0 hs _ _) ?_
 rintro _ _ ⟨⟨n,hV,hn0,hn1,rfl⟩ | ⟨hV,rfl⟩,rfl⟩
 ·
  refine B0 [0,0,0,0,0] [0,1,2,8,9] (k:=A0 ?_)
  refine A1 (A1 ?_)
  refine A2 (A6 (j:=1) [0] (k:=?_))
  refine K7 (ch:=[]) (v:=.nilIface) (e:=true) true (hv:=.inl ⟨rfl,rfl⟩) (k:=B0 [] [0,1,2,8,9,18] (k:=?_))
  refine A0 (D7 kr ?_)
  refine A7 (A0 ?_)
  refine A1 (G_p [0,0,0] [6,7] (k:=?_))
  refine A0 (B6 ?_)
  refine B5 [.tmp 6,.tmp 7] [.int .u64 n,.nilIface] (k:=?_)
  exact ⟨.inl ⟨n,hV,hn0,hn1,rfl⟩,rfl⟩
 ·
  refine B0 [0,0,0,0,0] [0,1,2,8,9] (k:=A0 ?_)
  refine A1 (A1 ?_)
  refine A2 (A6 (j:=1) [0] (k:=?_))
  refine K7 (ch:=[]) (v:=.iface 137 (.int .i64 2)) (e:=false) true (hv:=.inr ⟨⟨_,_,rfl⟩,rfl⟩) (k:=B0 [] [0,1,2,8,9,18] (k:=?_))
  refine A0 (C6 kr ?_)
  refine A1 (A2 ?_)
  refine A6 (j:=5) [0,0,0,0,0] (k:=F2 Tryz.func81 (toErr_ (ByteArray.mk #[80,97,114,115,101,85,105,110,116]) s (by omega) 10 32 _ _ hW) ?_)
  rintro _ _ ⟨⟨N,rfl⟩,rfl⟩
  refine B0 [0,0] [6,7] (k:=A0 ?_)
  refine B6 (A3 ?_)
  refine B5 [.tmp 6,.tmp 7] [.int .u64 0,.iface 139 (pt N)] (k:=?_)
  exact ⟨.inr ⟨hV,N,rfl⟩,rfl⟩
theorem parse16_ (s:ByteArray) (h0:0<s.size) (hs:s.size≤7) (W0:World) (H:List Grp) (hW:I2 W0):Tri Tryz.prog 63 #[.string s,.int .i64 16,.int .i64 32] W0 H (fun v H'=>((∃ n,numV 16 0 s.data.toList=some n∧0≤n∧n<16 ^ s.size∧v=.tuple #[.int .u64 n,.nilIface])∨(numV 16 0 s.data.toList=none∧∃ N,v=.tuple #[.int .u64 0,.iface 139 (pt N)]))∧H'=H):=by
 refine D1 (args:=[.string s,.int .i64 16,.int .i64 32]) (n:=26) Tryz.func63 rfl rfl (Nat.le_of_ble_eq_true rfl) ?_
 refine A1 (G_p [0,0] [0,1,2] (k:=?_))
 refine A0 (A1 ?_)
 refine A2 (A6 (j:=3) [0,0,0] (k:=?_))
 refine F2 Tryz.func80 (inner16_ s h0 hs _ _) ?_
 rintro _ _ ⟨⟨n,hV,hn0,hn1,rfl⟩ | ⟨hV,rfl⟩,rfl⟩
 ·
  refine B0 [0,0,0,0,0] [0,1,2,8,9] (k:=A0 ?_)
  refine A1 (A1 ?_)
  refine A2 (A6 (j:=1) [0] (k:=?_))
  refine K7 (ch:=[]) (v:=.nilIface) (e:=true) true (hv:=.inl ⟨rfl,rfl⟩) (k:=B0 [] [0,1,2,8,9,18] (k:=?_))
  refine A0 (D7 kr ?_)
  refine A7 (A0 ?_)
  refine A1 (G_p [0,0,0] [6,7] (k:=?_))
  refine A0 (B6 ?_)
  refine B5 [.tmp 6,.tmp 7] [.int .u64 n,.nilIface] (k:=?_)
  exact ⟨.inl ⟨n,hV,hn0,hn1,rfl⟩,rfl⟩
 ·
  refine B0 [0,0,0,0,0] [0,1,2,8,9] (k:=A0 ?_)
  refine A1 (A1 ?_)
  refine A2 (A6 (j:=1) [0] (k:=?_))
  refine K7 (ch:=[]) (v:=.iface 137 (.int .i64 2)) (e:=false) true (hv:=.inr ⟨⟨_,_,rfl⟩,rfl⟩) (k:=B0 [] [0,1,2,8,9,18] (k:=?_))
  refine A0 (C6 kr ?_)
  refine A1 (A2 ?_)
  refine A6 (j:=5) [0,0,0,0,0] (k:=F2 Tryz.func81 (toErr_ (ByteArray.mk #[80,97,114,115,101,85,105,110,116]) s (by omega) 16 32 _ _ hW) ?_)
  rintro _ _ ⟨⟨N,rfl⟩,rfl⟩
  refine B0 [0,0] [6,7] (k:=A0 ?_)
  refine B6 (A3 ?_)
  refine B5 [.tmp 6,.tmp 7] [.int .u64 0,.iface 139 (pt N)] (k:=?_)
  exact ⟨.inr ⟨hV,N,rfl⟩,rfl⟩
theorem vRune_ (r:Int) (W0:World) (H:List Grp):Tri Tryz.prog 64 #[.int .i32 r] W0 H (fun v H'=>v=.bool (isB r)∧H'=H):=by
 refine D1 (args:=[.int .i32 r]) (n:=17) Tryz.func64 rfl rfl (Nat.le_of_ble_eq_true rfl) ?_
 refine A1 (B3 (E':=[⟨0,[],.int .i32 r⟩]) [0] [0] (k:=?_))
 refine A0 (A1 ?_)
 refine B4 (A1 ?_)
 refine G_p [0,0,0,0,0,6,0] [0,3] (k:=A0 ?_)
 refine B1 (b:=(decide (0≤r))&&(decide (r<55296))) kr (fun hc1=>?_) (fun hc1=>?_)
 ·
  simp only [Bool.and_eq_true,decide_eq_true_eq] at hc1
  refine A1 (B3 (E':=[⟨2,[],.bool true⟩]) [0] [2] (k:=?_))
  refine A0 (B6 ?_)
  refine A9 (A3 ?_)
  refine B5 [.tmp 2] [.bool true] (k:=?_)
  refine ⟨congrArg Value.bool ?_,rfl⟩
  first | (symm; rw [isB_iff]; unfold isR; omega) | (symm; rw [← Bool.not_eq_true,isB_iff]; unfold isR; omega)
 ·
  simp only [Bool.and_eq_false_iff,decide_eq_false_iff_not] at hc1
  refine A1 (G_p [0,0,0,0,0,6,0] [10] (k:=?_))
  refine A0 (B1 (b:=(decide (57343<r))&&(decide (r≤1114111))) kr (fun hc2=>?_) (fun hc2=>?_))
  ·
   simp only [Bool.and_eq_true,decide_eq_true_eq] at hc2
   refine A1 (B3 (E':=[⟨2,[],.bool true⟩]) [0] [2] (k:=?_))
   refine A0 (B6 ?_)
   refine A9 (A3 ?_)
   refine B5 [.tmp 2] [.bool true] (k:=?_)
   refine ⟨congrArg Value.bool ?_,rfl⟩
   first | (symm; rw [isB_iff]; unfold isR; omega) | (symm; rw [← Bool.not_eq_true,isB_iff]; unfold isR; omega)
  ·
   simp only [Bool.and_eq_false_iff,decide_eq_false_iff_not] at hc2
   refine A7 (B2 ?_)
   refine A0 (A1 ?_)
   refine B3 (E':=[⟨2,[],.bool false⟩]) [0] [2] (k:=A0 ?_)
   refine B6 (B5 [.tmp 2] [.bool false] (k:=?_))
   refine ⟨congrArg Value.bool ?_,rfl⟩
   first | (symm; rw [isB_iff]; unfold isR; omega) | (symm; rw [← Bool.not_eq_true,isB_iff]; unfold isR; omega)
theorem hasP_ (s t:ByteArray) (_:s.size≤1000000000000) (ht:t.size≤1000000000000) (W0:World) (H:List Grp):Tri Tryz.prog 79 #[.string s,.string t] W0 H (fun v H'=>v=.bool (G1 s t)∧H'=H):=by
 refine D1 (args:=[.string s,.string t]) (n:=18) Tryz.func79 rfl rfl (Nat.le_of_ble_eq_true rfl) ?_
 refine A1 (B3 (E':=[⟨0,[],.string s⟩,⟨1,[],.string t⟩]) [0] [0,1] (k:=?_))
 refine A0 (A1 ?_)
 refine A2 (A6 (j:=9) [0,0,0,0,0,0,0,0,0] (k:=?_))
 refine E8 (ch:=[(10,true)]) (s:=s) (vl:=none) (vh:=(some (.int .i64 (t.size:Int)))) (l:=0) (h:=(t.size:Int)) (hb:=(fun hc=>by have hg0:=K0 (t:=10) (c:=[]) (b:=decide ((s.size:Int) ≥ (t.size:Int))) hc kr; (try simp at hg0); omega)) (k:=B0 [0,0,6,0] [4] (k:=?_))
 refine A0 (B6 ?_)
 refine B5 [.tmp 4] [.bool ((decide ((s.size:Int) ≥ (t.size:Int)))&&((s.extract 0 t.size).toList==t.toList))] (k:=?_)
 exact ⟨by unfold G1; rfl,rfl⟩
theorem cutP0_ (s t:ByteArray) (hs:s.size≤1000000000000) (ht:t.size≤1000000000000) (W0:World) (H:List Grp):Tri Tryz.prog 62 #[.string s,.string t] W0 H (fun v H'=>v=(if G1 s t then .tuple #[.string (s.extract t.size s.size),.bool true] else .tuple #[.string s,.bool false])∧H'=H):=by
 refine D1 (args:=[.string s,.string t]) (n:=15) Tryz.func62 rfl rfl (Nat.le_of_ble_eq_true rfl) ?_
 refine A1 (B3 (E':=[⟨0,[],.string s⟩,⟨1,[],.string t⟩]) [0,0] [0,1] (k:=?_))
 refine A0 (A1 ?_)
 refine A1 (A2 ?_)
 refine A6 (j:=2) [0,0] (k:=G4 Tryz.func79 (hasP_ s t (by omega) (by first | omega | decide) _ _) ?_)
 refine B0 [0] [0,1,9] (k:=A0 ?_)
 refine B1 (b:=!(G1 s t)) kr (fun hc1=>?_) (fun hc1=>?_)
 ·
  have hsp:G1 s t=false:=by simpa using hc1
  refine A1 (G_p [0,0,0] [4,5] (k:=?_))
  refine A0 (B6 ?_)
  refine A3 (B5 [.tmp 4,.tmp 5] [.string s,.bool false] (k:=?_))
  exact ⟨by rw [if_neg (by rw [hsp]; decide)]; rfl,rfl⟩
 ·
  have hsp:G1 s t=true:=by simpa using hc1
  have hle:t.size≤s.size:=by unfold G1 at hsp; simp only [Bool.and_eq_true,decide_eq_true_eq] at hsp; omega
  refine A7 (A0 ?_)
  refine A1 (A2 ?_)
  refine A6 (j:=3) [0,0,0] (k:=E8 (ch:=[]) (s:=s) (vl:=(some (.int .i64 (t.size:Int)))) (vh:=none) (l:=(t.size:Int)) (h:=(s.size:Int)) (hb:=(fun _=>by omega)) (k:=?_))
  refine B0 [0,0] [4,5] (k:=A0 ?_)
  refine B6 (B5 [.tmp 4,.tmp 5] [.string (s.extract t.size s.size),.bool true] (k:=?_))
  exact ⟨by rw [if_pos hsp]; rfl,rfl⟩
theorem cutP_ (s t:ByteArray) (hs:s.size≤1000000000000) (ht:t.size≤1000000000000) (W0:World) (H:List Grp):Tri Tryz.prog 48 #[.string s,.string t] W0 H (fun v H'=>v=(if G1 s t then .tuple #[.string (s.extract t.size s.size),.bool true] else .tuple #[.string s,.bool false])∧H'=H):=by
 refine D1 (args:=[.string s,.string t]) (n:=11) Tryz.func48 rfl rfl (Nat.le_of_ble_eq_true rfl) ?_
 refine A1 (B3 (E':=[⟨0,[],.string s⟩,⟨1,[],.string t⟩]) [0,0] [0,1] (k:=?_))
 refine A0 (A1 ?_)
 refine A2 (A6 (j:=2) [0,0] (k:=?_))
 refine F2 Tryz.func62 (cutP0_ s t (by omega) (by first | omega | decide) _ _) ?_
 rintro _ _ ⟨rfl,rfl⟩
 cases hsp:G1 s t
 all_goals simp only [Bool.false_eq_true,if_false,if_true]
 ·
  refine B0 [0,0,0,0] [4,5] (k:=A0 ?_)
  refine B6 (B5 [.tmp 4,.tmp 5] [.string s,.bool false] (k:=?_))
  exact ⟨rfl,rfl⟩
 ·
  refine B0 [0,0,0,0] [4,5] (k:=A0 ?_)
  refine B6 (B5 [.tmp 4,.tmp 5] [.string (s.extract t.size s.size),.bool true] (k:=?_))
  exact ⟨rfl,rfl⟩
theorem idx0_ (s:ByteArray) (c:Int) (W0:World) (H:List Grp):Tri Tryz.prog 46 #[.string s,.int .u8 c] W0 H (fun v H'=>v=.int .i64 (bIdx s c)∧H'=H):=by
 refine D1 (args:=[.string s,.int .u8 c]) (n:=8) Tryz.func46 rfl rfl (Nat.le_of_ble_eq_true rfl) ?_
 refine A1 (G_p [0] [0,1] (k:=?_))
 refine A0 (A1 ?_)
 refine A2 (A6 (j:=2) [0,0] (k:=?_))
 refine N0 (ch:=[]) (f:=60) (vs:=[.string s,.int .u8 c]) (v:=.int .i64 (bIdx s c)) (e:=Extern.BytealgIndexByte.indexByte) (hf:=Tryz.func60) (hrun:=(fun w=>run_indexByte_string s c w)) (k:=B8 (E':=[⟨4,[],.int .i64 (bIdx s c)⟩]) [0] [4] (k:=?_))
 refine A0 (B6 ?_)
 refine B5 [.tmp 4] [.int .i64 (bIdx s c)] (k:=?_)
 exact ⟨rfl,rfl⟩
theorem idx_ (s:ByteArray) (c:Int) (W0:World) (H:List Grp):Tri Tryz.prog 27 #[.string s,.int .u8 c] W0 H (fun v H'=>v=.int .i64 (bIdx s c)∧H'=H):=by
 refine D1 (args:=[.string s,.int .u8 c]) (n:=8) Tryz.func27 rfl rfl (Nat.le_of_ble_eq_true rfl) ?_
 refine A1 (G_p [0] [0,1] (k:=?_))
 refine A0 (A1 ?_)
 refine A2 (A6 (j:=2) [0,0] (k:=?_))
 refine G4 Tryz.func46 (idx0_ s c _ _) (B8 (E':=[⟨4,[],.int .i64 (bIdx s c)⟩]) [0] [4] (k:=?_))
 refine A0 (B6 ?_)
 refine B5 [.tmp 4] [.int .i64 (bIdx s c)] (k:=?_)
 exact ⟨rfl,rfl⟩
end Go.Proofs.YtbnfbffiehoapaaGreatDoor
namespace Go.Proofs.YtbnfbffiehoapaaGreatDoor
open Go.Sw Go.Esc Go.RowKit
theorem cell_lt {w:World} {b off:Nat} {v:Value} (h:w.cell? ⟨b,off,none⟩=some v):b<w.heap.size:=by
  rcases Nat.lt_or_ge b w.heap.size with h' | h'
  · exact h'
  · unfold World.cell? at h
    simp only [Array.getElem?_eq_none h'] at h
    cases h
theorem tabs_sat {W0:World} {H:List Grp} {w:World} {g3 g4:Nat} (h:Lib.Utf8Tabs g3 g4 W0) (hs:Sat W0 H w):Lib.Utf8Tabs g3 g4 w:=by
  have c:∀ {b off:Nat} {v:Value},W0.cell? ⟨b,off,none⟩=some v→w.cell? ⟨b,off,none⟩=some v:=fun h=>cell_base hs (cell_lt h) h
  exact ⟨fun q hq=>c (h.1 q hq),fun i hi=>⟨c (h.2 i hi).1,c (h.2 i hi).2⟩⟩
theorem validStr (s:ByteArray) (hs:s.size≤1000000000000) (W0:World) (H:List Grp) (hW:I2 W0):Tri Tryz.prog 55 #[.string s] W0 H (fun v H'=>v=.bool (G9 s.data.toList)∧H'=H):=by
  rw [validP_D]
  exact Tri_below (fun w hw=>Any.utf8_ValidString Tryz.laysValid s w (by omega) (tabs_sat hW.utf hw))
end Go.Proofs.YtbnfbffiehoapaaGreatDoor
namespace Go.Proofs.YtbnfbffiehoapaaGreatDoor
open Go Go.ChangeShapes Go.WideShapes Go.ChangeAt Go.RowKit Go.Sw Go.Lib Go.Shelf Go.Proofs
theorem frozen_below {W W':World} (h:Below W.heap.size W W') {a:Addr} (ha:a.block<W.heap.size):W'.frozen? a=W.frozen? a:=by
  unfold World.frozen?
  rw [h.block _ ha]
theorem post_below {H:Type} {enc:TypeId × Value→H} {P:Program} {f:Func} {s:ChangeSpec} {apart fresh handsOn again:Bool} {W W':World} {args:Array Value} {v:Value} {ds gs:List (DataW H)} {before pa pv:List MemPlace}
    (hW:DataW.Whole enc P f.params.toList s.vars apart W args.toList ds gs before)
    (hres:∀ (b:Nat) (sp:Nat→Bool) (hd:Bool),DataW.TrodAll enc P W' b sp hd f.resultTypes.toList (v.resultList f.resultTypes.size) (s.fn H (ds++gs)).results [])
    (hargs:∀ sp:Nat→Bool,(∀ p∈before,sp p.block=true)→DataW.TrodAll enc P W' 0 sp true f.params.toList args.toList (s.fn H (ds++gs)).args pa)
    (hvars:∀ sp:Nat→Bool,(∀ p∈before,sp p.block=true)→DataW.TrodVars enc P W' sp s.vars (s.fn H (ds++gs)).vars pv)
    (hps:before=pa++pv) (hb:Below W.heap.size W W')
    (hok:∀ (j:Nat) (t:TypeId) (r:Value),f.resultTypes[j]? = some t→(v.resultList f.resultTypes.size)[j]? = some r→Value.okWide P W' .any 0 t r) :
    s.post enc P f apart fresh handsOn again W args v W':=by
  have hold:∀ p∈before,(fun b=>decide (b<W.heap.size)) p.block=true:=fun p hp=>by simpa using hW.lt p hp
  have hlt:=hW.lt
  refine ⟨ds,gs,before,[],pa,pv,hW,hres _ _ _,hargs _ hold,hvars _ hold,hb.frame _,fun _=>?_⟩
  obtain ⟨_,_,_,_,_,hz,hn⟩:=hW
  refine ⟨hok,_,_,([]++pa)++pv,⟨[]++pa,pv,trodAll_append (hargs _ (fun _ _=>rfl)) (hres _ _ _),hvars _ (fun _ _=>rfl),rfl,?_,?_⟩,?_⟩
  · intro b off hp
    have hp':MemPlace.cell b off∈before:=by rw [hps]; simpa using hp
    rw [frozen_below hb (hlt _ hp')]
    exact hz b off hp'
  · intro ha
    have:=hn ha
    rw [hps] at this
    simpa using this
  · intro p hp _
    rw [hps]
    simpa using hp
theorem L1 {P:Program} {x:String × DataW Unit} {r:List (String × DataW Unit)} {W:World} (h:laidMet P (x::r) W):laidMet P r W:=by
  obtain ⟨ps,⟨g,t,cs,fuel,p,q,_,_,_,_,h5,h6⟩,hn,hc⟩:=h
  subst h6
  exact ⟨q,h5,(List.nodup_append.1 hn).2.1,fun b off hm=>hc b off (List.mem_append_right _ hm)⟩
theorem sat_nil (W:World):Sat W [] W:=⟨Below.refl _ _,by simp,by simp,by simp⟩
theorem eStar : "*" ++ "errors.errorString" = "*errors.errorString" := by decide
theorem eRow (u : TypeId) (h : Tryz.prog.typeName? 3 u = some "*errors.errorString") : u = 164 :=
  typeName_ptr_named (nm := "errors.errorString") (by rw [eStar]; kernel_rfl) (by kernel_rfl) (by decide) u (by rw [eStar]; exact h)
theorem eGlob : Tryz.prog.globalNamed "strconv.ErrSyntax" = some 4 := by kernel_rfl
theorem eU8:U8Extra Tryz.prog Tryz.laysValid_ren:={ n3:=by kernel_rfl,n4:=by kernel_rfl,y3:=by kernel_rfl,y4:=by kernel_rfl,c5:=by kernel_rfl,c119:=by kernel_rfl,c138:=by kernel_rfl }
def de64:List Int:=[0,1,56,2,57,49,28,3,61,58,42,50,38,29,17,4,62,47,59,36,45,43,51,22,53,39,33,30,24,18,12,5,63,55,48,27,60,41,37,16,46,35,44,21,52,32,23,11,54,26,40,15,34,20,31,10,25,14,19,9,13,8,7,6]
theorem eTz : Tryz.prog.globalNamed "math/bits.deBruijn64tab" = some 7 := by kernel_rfl
theorem base_of {W : World} (h : laidMet Tryz.prog [("math/bits.deBruijn32tab", Rows.laid_math_bits_deBruijn32tab), ("math/bits.deBruijn64tab", Rows.laid_math_bits_deBruijn64tab), ("internal/strconv.uint64pow10", Rows.laid_internal_strconv_uint64pow10), ("unicode/utf8.acceptRanges", Rows.laid_unicode_utf8_acceptRanges), ("strconv.ErrRange", Rows.laid_strconv_ErrRange), ("strconv.ErrSyntax", Rows.laid_strconv_ErrSyntax), ("unicode/utf8.first", Rows.laid_unicode_utf8_first)] W) : I2 W := by
  have h2:=L1 h
  have h6:=L1 (L1 (L1 (L1 h2)))
  refine ⟨?_,?_,?_⟩
  · obtain ⟨a0,s0,hv0,-,-,-⟩:=laid_sentinel h6 eGlob (ti:=42) (tp:=164) (te:=166) (ts:=9) (by kernel_rfl) Tryz.underlying42 eRow Tryz.underlying164 Tryz.underlying166 rfl rfl Tryz.underlying9 (by kernel_rfl) (by kernel_rfl)
    have hc:W.cell? ⟨4,0,none⟩=some (.iface 164 (.pointer (some a0))):=by
      have h0:=World.var?_cell eGlob hv0 0; simpa using h0
    exact ⟨_,cell_lt hc,hc,.inr ⟨_,_,rfl⟩⟩
  · have hT : Lib.TabIs Tryz.prog W "math/bits.deBruijn64tab" .u8 de64 := by
      rw [show Rows.laid_math_bits_deBruijn64tab=Lib.tabData .u8 de64 from by kernel_rfl] at h2
      exact Lib.tabIs_of_head (t:=168) (e:=5) (n:=64) eTz (by kernel_rfl) (by kernel_rfl) (by kernel_rfl) (by kernel_rfl) (by kernel_rfl) h2
    unfold Lib.TabIs World.var? at hT
    rw [eTz] at hT
    simp only [Option.bind_some] at hT
    cases hb:W.heap[7]? with
    | none=>rw [hb] at hT; cases hT
    | some ob =>
      rw [hb] at hT
      cases ob with
      | cells c e fz =>
        have hlt:7<W.heap.size:=(Array.getElem?_eq_some_iff.1 hb).1
        simp only [Option.some.injEq] at hT
        subst hT
        exact ⟨_,_,_,hlt,rfl,by rfl⟩
      | _=>cases hT
  · have h3 := laidMet.reads h (n := "unicode/utf8.first") (d := Rows.laid_unicode_utf8_first) (by simp)
    have h4 := laidMet.reads h (n := "unicode/utf8.acceptRanges") (d := Rows.laid_unicode_utf8_acceptRanges) (by simp)
    rw [show Rows.laid_unicode_utf8_first=Lib.firstData from by kernel_rfl] at h3
    rw [show Rows.laid_unicode_utf8_acceptRanges=Lib.acceptData from by kernel_rfl] at h4
    exact utf8Tabs_of_readsT (U8Types.of196 Tryz.laysValid) eU8 h3 h4
end Go.Proofs.YtbnfbffiehoapaaGreatDoor
namespace Go.Proofs.YtbnfbffiehoapaaGreatDoor
open Go.Sw Go.Sha Go.Esc
theorem html_ (s:ByteArray) (hs:s.size≤400000) (W0:World) (H:List Grp):Tri Tryz.prog 10 #[.string s] W0 H (fun v H'=>v=.string ⟨(H8 s.data.toList).toArray⟩∧H'=H):=by
 have hps:ByteArray.size ⟨(D5 s.data.toList).toArray⟩≤2000000:=by
  have:=plain_len s.data.toList
  rw [show s.data.toList.length=s.size from Array.length_toList] at this
  show (D5 s.data.toList).toArray.size≤_
  rw [List.size_toArray]; omega
 refine D1 (args:=[.string s]) (n:=8) Tryz.func10 rfl rfl (Nat.le_of_ble_eq_true rfl) ?_
 refine A1 (B3 (E':=[⟨0,[],.string s⟩]) [0] [0] (k:=?_))
 refine A0 (A1 ?_)
 refine A2 (D0 (ch:=[]) (e:=9) (l:=[(0,.string (ByteArray.mk #[38])),(1,.string (ByteArray.mk #[38,97,109,112,59])),(2,.string (ByteArray.mk #[60])),(3,.string (ByteArray.mk #[38,108,116,59])),(4,.string (ByteArray.mk #[62])),(5,.string (ByteArray.mk #[38,103,116,59])),(6,.string (ByteArray.mk #[34])),(7,.string (ByteArray.mk #[38,113,117,111,116,59])),(8,.string (ByteArray.mk #[39])),(9,.string (ByteArray.mk #[38,35,51,57,59]))]) (c:=[.string (ByteArray.mk #[38]),.string (ByteArray.mk #[38,97,109,112,59]),.string (ByteArray.mk #[60]),.string (ByteArray.mk #[38,108,116,59]),.string (ByteArray.mk #[62]),.string (ByteArray.mk #[38,103,116,59]),.string (ByteArray.mk #[34]),.string (ByteArray.mk #[38,113,117,111,116,59]),.string (ByteArray.mk #[39]),.string (ByteArray.mk #[38,35,51,57,59])]) (k:=(fun b1=>?_)))
 refine F2 Tryz.func23 (newRep_ b1 _ _) ?_
 rintro _ _ ⟨rb,ra,rcap,rg,rfl,hOwn,rfl⟩
 have hRT:Rd (inG rg) ra H6:=by
  obtain ⟨a2,c2,e,_,h⟩:=hOwn.shape
  injection e with e1; subst e1; exact h
 refine A6 (j:=3) [0] (k:=G4 Tryz.func25 (plain_ s (by omega) _ _) ?_)
 refine F2 Tryz.func24 (repReplace_ rb ra rcap rg hRT (bk (D5 s.data.toList)) (bk (H8 s.data.toList)) (fun c aT cT gT a38 c38 g38 a60 c60 g60 a62 c62 g62 a34 c34 g34 a39 c39 g39 W1 H1 hT hR=>tabReplace_ c c38 c60 c62 c34 c39 aT cT gT a38 a60 a62 a34 a39 g38 g60 g62 g34 g39 (bk (D5 s.data.toList)) hps hT hR W1 H1) _ _) ?_
 rintro _ _ ⟨rfl,rfl⟩
 refine B0 [0] [2] (k:=A0 ?_)
 refine B6 (C9 (H':=H) (fun w h=>(h.erase 0)) ?_)
 refine B5 [.tmp 2] [.string (bk (H8 s.data.toList))] (k:=?_)
 exact ⟨rfl,rfl⟩
end Go.Proofs.YtbnfbffiehoapaaGreatDoor
namespace Go.Proofs.YtbnfbffiehoapaaGreatDoor
open Go.Sw Go.Sha Go.Esc Go.RowKit
theorem lit38:(⟨#[Nat.toUInt8 38]⟩:ByteArray).data.toList=[38]:=rfl
theorem sz38:(⟨#[Nat.toUInt8 38]⟩:ByteArray).size=1:=rfl
theorem toNat1 (m:Nat):Int.toNat ((m:Int)+1)=m+1:=by omega
theorem O0 (s:ByteArray) (k:Nat):(s.extract k s.size).size=s.size - k:=by rw [ByteArray.size_extract,Nat.min_self]
theorem w32i {x:Int} (h0:0≤x) (h1:x≤2147483647):IntKind.wrap .i32 x=x:=by
  have e:∀ y,IntKind.wrap .i32 y=if y % 4294967296<2147483648 then y % 4294967296 else y % 4294967296 - 4294967296:=by intro y; first | rfl | (simp [IntKind.wrap,IntKind.bits,IntKind.signed]; split <;> split <;> omega)
  rw [e]; split <;> omega
theorem number10_ (s:ByteArray) (hs:s.size≤1000000000000) (W0:World) (H:List Grp) (hW:I2 W0):Tri Tryz.prog 49 #[.string s,.int .i64 10,.int .i64 7] W0 H (fun v H'=>v=.int .i64 (G2 s.data.toList 10 7)∧H'=H):=by
 refine D1 (args:=[.string s,.int .i64 10,.int .i64 7]) (n:=42) Tryz.func49 rfl rfl (Nat.le_of_ble_eq_true rfl) ?_
 refine A1 (G_p [0] [0,1,2] (k:=?_))
 refine A0 (A1 ?_)
 refine A1 (G_p [0,0,0,0,0,0,0,0,5] [0,1,17] (k:=?_))
 refine A0 (B1 (b:=((s.size:Int)==0)||(decide ((s.size:Int) > 7))) kr (fun hc1=>?_) (fun hc1=>?_))
 ·
  simp only [Bool.or_eq_true,decide_eq_true_eq,beq_iff_eq,gt_iff_lt] at hc1
  refine A1 (B3 (E':=[⟨6,[],.int .i64 (-1)⟩]) [0] [6] (k:=?_))
  refine A0 (B6 ?_)
  refine A3 (B5 [.tmp 6] [.int .i64 (-1)] (k:=?_))
  exact ⟨congrArg (Value.int .i64) (by unfold G2; rw [if_pos (by rw [B7]; omega)]),rfl⟩
 ·
  simp only [Bool.or_eq_false_iff,decide_eq_false_iff_not,beq_eq_false_iff_ne,gt_iff_lt] at hc1
  refine A7 (A0 ?_)
  refine A1 (A2 ?_)
  refine A6 (j:=2) [0,0] (k:=F2 Tryz.func63 (parse10_ s (by omega) (by omega) _ _ hW) ?_)
  rintro _ _ ⟨⟨n,hV,hn0,hn1,rfl⟩ | ⟨hV,N,rfl⟩,rfl⟩
  ·
   have hp:=pow16 (show s.size≤7 by omega)
   refine B0 [0,0,0,0,0] [7,8] (k:=A0 ?_)
   refine A1 (A1 ?_)
   refine A2 (A6 (j:=1) [0] (k:=?_))
   refine K7 (ch:=[]) (v:=.nilIface) (e:=true) true (hv:=.inl ⟨rfl,rfl⟩) (k:=A6 (j:=13) [0,0,0,3,0,0,0,5,0,0,0] (k:=?_))
   refine F6 (ch:=[(34,false)]) (f:=64) (fst:=#[]) (caps:=#[]) (vs:=[.int .i32 (IntKind.wrap .i32 n)]) (v:=.bool (isB (IntKind.wrap .i32 n))) (hf:=Tryz.func64) (hc:=(fun hc=>vRune_ (IntKind.wrap .i32 n) _ _)) (k:=B0 [0,5] [7,39] (k:=?_))
   refine A0 (B1 (b:=((n==0)||(decide (n > 1114111)))||(!(isB (IntKind.wrap .i32 n)))) kr (fun hc2=>?_) (fun hc2=>?_))
   ·
    simp only [Bool.or_eq_true,decide_eq_true_eq,beq_iff_eq,gt_iff_lt,Bool.not_eq_true'] at hc2
    have hbad:=hc2
    refine A1 (B3 (E':=[⟨6,[],.int .i64 (-1)⟩]) [0] [6] (k:=?_))
    refine A0 (B6 ?_)
    refine A3 (B5 [.tmp 6] [.int .i64 (-1)] (k:=?_))
    exact ⟨congrArg (Value.int .i64) (by unfold G2; rw [if_neg (by rw [B7]; omega),hV]; dsimp only; rw [if_pos]; unfold isB; by_cases hn:n=0; exact .inl hn; right; rw [← Bool.not_eq_true]; intro hb; have hr:=isB_iff.1 hb; unfold isR at hr; rcases hbad with (h | h) | h; exact hn h; omega; rw [w32i (by omega) (by omega)] at h; rw [show isB n=true from hb] at h; cases h),rfl⟩
   ·
    simp only [Bool.or_eq_false_iff,decide_eq_false_iff_not,beq_eq_false_iff_ne,gt_iff_lt,Bool.not_eq_false'] at hc2
    have hok:=hc2
    refine A7 (A0 ?_)
    refine A1 (A2 ?_)
    refine A6 (j:=2) [0,0] (k:=C3 41 n (by omega) (by omega) kr ?_)
    refine B8 (E':=[⟨6,[],.int .i64 n⟩]) [0] [6] (k:=A0 ?_)
    refine B6 (B5 [.tmp 6] [.int .i64 n] (k:=?_))
    exact ⟨congrArg (Value.int .i64) (by unfold G2; rw [if_neg (by rw [B7]; omega),hV]; dsimp only; rw [if_neg]; rintro (h | h); exact hok.1.1 h; have h2:=hok.2; rw [w32i (by omega) (by omega),h] at h2; cases h2),rfl⟩
  ·
   refine B0 [0,0,0,0,0] [7,8] (k:=A0 ?_)
   refine A1 (A1 ?_)
   refine A2 (A6 (j:=1) [0] (k:=?_))
   refine K7 (ch:=[]) (v:=.iface 139 (pt N)) (e:=false) true (hv:=.inr ⟨⟨_,_,rfl⟩,rfl⟩) (k:=B0 [0,1,1,2,0,1,1,2,0,1,1,1,1,2] [7,39] (k:=?_))
   refine A0 (C6 kr ?_)
   refine A1 (B3 (E':=[⟨6,[],.int .i64 (-1)⟩]) [0] [6] (k:=?_))
   refine A0 (B6 ?_)
   refine A3 (B5 [.tmp 6] [.int .i64 (-1)] (k:=?_))
   exact ⟨congrArg (Value.int .i64) (by unfold G2; rw [if_neg (by rw [B7]; omega),hV]),rfl⟩
theorem number16_ (s:ByteArray) (hs:s.size≤1000000000000) (W0:World) (H:List Grp) (hW:I2 W0):Tri Tryz.prog 49 #[.string s,.int .i64 16,.int .i64 6] W0 H (fun v H'=>v=.int .i64 (G2 s.data.toList 16 6)∧H'=H):=by
 refine D1 (args:=[.string s,.int .i64 16,.int .i64 6]) (n:=42) Tryz.func49 rfl rfl (Nat.le_of_ble_eq_true rfl) ?_
 refine A1 (G_p [0] [0,1,2] (k:=?_))
 refine A0 (A1 ?_)
 refine A1 (G_p [0,0,0,0,0,0,0,0,5] [0,1,17] (k:=?_))
 refine A0 (B1 (b:=((s.size:Int)==0)||(decide ((s.size:Int) > 6))) kr (fun hc1=>?_) (fun hc1=>?_))
 ·
  simp only [Bool.or_eq_true,decide_eq_true_eq,beq_iff_eq,gt_iff_lt] at hc1
  refine A1 (B3 (E':=[⟨6,[],.int .i64 (-1)⟩]) [0] [6] (k:=?_))
  refine A0 (B6 ?_)
  refine A3 (B5 [.tmp 6] [.int .i64 (-1)] (k:=?_))
  exact ⟨congrArg (Value.int .i64) (by unfold G2; rw [if_pos (by rw [B7]; omega)]),rfl⟩
 ·
  simp only [Bool.or_eq_false_iff,decide_eq_false_iff_not,beq_eq_false_iff_ne,gt_iff_lt] at hc1
  refine A7 (A0 ?_)
  refine A1 (A2 ?_)
  refine A6 (j:=2) [0,0] (k:=F2 Tryz.func63 (parse16_ s (by omega) (by omega) _ _ hW) ?_)
  rintro _ _ ⟨⟨n,hV,hn0,hn1,rfl⟩ | ⟨hV,N,rfl⟩,rfl⟩
  ·
   have hp:=pow16 (show s.size≤7 by omega)
   refine B0 [0,0,0,0,0] [7,8] (k:=A0 ?_)
   refine A1 (A1 ?_)
   refine A2 (A6 (j:=1) [0] (k:=?_))
   refine K7 (ch:=[]) (v:=.nilIface) (e:=true) true (hv:=.inl ⟨rfl,rfl⟩) (k:=A6 (j:=13) [0,0,0,3,0,0,0,5,0,0,0] (k:=?_))
   refine F6 (ch:=[(34,false)]) (f:=64) (fst:=#[]) (caps:=#[]) (vs:=[.int .i32 (IntKind.wrap .i32 n)]) (v:=.bool (isB (IntKind.wrap .i32 n))) (hf:=Tryz.func64) (hc:=(fun hc=>vRune_ (IntKind.wrap .i32 n) _ _)) (k:=B0 [0,5] [7,39] (k:=?_))
   refine A0 (B1 (b:=((n==0)||(decide (n > 1114111)))||(!(isB (IntKind.wrap .i32 n)))) kr (fun hc2=>?_) (fun hc2=>?_))
   ·
    simp only [Bool.or_eq_true,decide_eq_true_eq,beq_iff_eq,gt_iff_lt,Bool.not_eq_true'] at hc2
    have hbad:=hc2
    refine A1 (B3 (E':=[⟨6,[],.int .i64 (-1)⟩]) [0] [6] (k:=?_))
    refine A0 (B6 ?_)
    refine A3 (B5 [.tmp 6] [.int .i64 (-1)] (k:=?_))
    exact ⟨congrArg (Value.int .i64) (by unfold G2; rw [if_neg (by rw [B7]; omega),hV]; dsimp only; rw [if_pos]; unfold isB; by_cases hn:n=0; exact .inl hn; right; rw [← Bool.not_eq_true]; intro hb; have hr:=isB_iff.1 hb; unfold isR at hr; rcases hbad with (h | h) | h; exact hn h; omega; rw [w32i (by omega) (by omega)] at h; rw [show isB n=true from hb] at h; cases h),rfl⟩
   ·
    simp only [Bool.or_eq_false_iff,decide_eq_false_iff_not,beq_eq_false_iff_ne,gt_iff_lt,Bool.not_eq_false'] at hc2
    have hok:=hc2
    refine A7 (A0 ?_)
    refine A1 (A2 ?_)
    refine A6 (j:=2) [0,0] (k:=C3 41 n (by omega) (by omega) kr ?_)
    refine B8 (E':=[⟨6,[],.int .i64 n⟩]) [0] [6] (k:=A0 ?_)
    refine B6 (B5 [.tmp 6] [.int .i64 n] (k:=?_))
    exact ⟨congrArg (Value.int .i64) (by unfold G2; rw [if_neg (by rw [B7]; omega),hV]; dsimp only; rw [if_neg]; rintro (h | h); exact hok.1.1 h; have h2:=hok.2; rw [w32i (by omega) (by omega),h] at h2; cases h2),rfl⟩
  ·
   refine B0 [0,0,0,0,0] [7,8] (k:=A0 ?_)
   refine A1 (A1 ?_)
   refine A2 (A6 (j:=1) [0] (k:=?_))
   refine K7 (ch:=[]) (v:=.iface 139 (pt N)) (e:=false) true (hv:=.inr ⟨⟨_,_,rfl⟩,rfl⟩) (k:=B0 [0,1,1,2,0,1,1,2,0,1,1,1,1,2] [7,39] (k:=?_))
   refine A0 (C6 kr ?_)
   refine A1 (B3 (E':=[⟨6,[],.int .i64 (-1)⟩]) [0] [6] (k:=?_))
   refine A0 (B6 ?_)
   refine A3 (B5 [.tmp 6] [.int .i64 (-1)] (k:=?_))
   exact ⟨congrArg (Value.int .i64) (by unfold G2; rw [if_neg (by rw [B7]; omega),hV]),rfl⟩
theorem reference_ (s:ByteArray) (hs:s.size≤1000000000000) (W0:World) (H:List Grp) (hW:I2 W0):Tri Tryz.prog 30 #[.string s] W0 H (fun v H'=>v=.int .i64 (refM s.data.toList)∧H'=H):=by
 refine D1 (args:=[.string s]) (n:=44) Tryz.func30 rfl rfl (Nat.le_of_ble_eq_true rfl) ?_
 refine A1 (B3 (E':=[⟨0,[],.string s⟩]) [0] [0] (k:=?_))
 refine A0 (A1 ?_)
 refine A1 (B3 (E':=[⟨0,[],.string s⟩,⟨9,[],.string s⟩]) [0] [0,9] (k:=?_))
 refine A0 (B4 ?_)
 refine A1 (G_p [0,0] [0,9,10] (k:=?_))
 refine A0 (B1 (b:=s.toList==(ByteArray.mk #[97,109,112]).toList) kr (fun hc1=>?_) (fun hc1=>?_))
 ·
  have e0:=(eqB _ _).1 hc1
  refine A1 (B3 (E':=[⟨2,[],.int .i64 38⟩]) [0] [2] (k:=?_))
  refine A0 (B6 ?_)
  refine A9 (A3 ?_)
  refine B5 [.tmp 2] [.int .i64 38] (k:=?_)
  exact ⟨congrArg (Value.int .i64) (by unfold refM; rw [if_pos e0]),rfl⟩
 ·
  have e0:=(eqBf _ _).1 hc1
  refine A1 (G_p [0,0] [0,9,12] (k:=?_))
  refine A0 (B1 (b:=s.toList==(ByteArray.mk #[108,116]).toList) kr (fun hc2=>?_) (fun hc2=>?_))
  ·
   have e1:=(eqB _ _).1 hc2
   refine A1 (B3 (E':=[⟨2,[],.int .i64 60⟩]) [0] [2] (k:=?_))
   refine A0 (B6 ?_)
   refine A9 (A3 ?_)
   refine B5 [.tmp 2] [.int .i64 60] (k:=?_)
   exact ⟨congrArg (Value.int .i64) (by unfold refM; rw [if_neg e0,if_pos e1]),rfl⟩
  ·
   have e1:=(eqBf _ _).1 hc2
   refine A1 (G_p [0,0] [0,9,14] (k:=?_))
   refine A0 (B1 (b:=s.toList==(ByteArray.mk #[103,116]).toList) kr (fun hc3=>?_) (fun hc3=>?_))
   ·
    have e2:=(eqB _ _).1 hc3
    refine A1 (B3 (E':=[⟨2,[],.int .i64 62⟩]) [0] [2] (k:=?_))
    refine A0 (B6 ?_)
    refine A9 (A3 ?_)
    refine B5 [.tmp 2] [.int .i64 62] (k:=?_)
    exact ⟨congrArg (Value.int .i64) (by unfold refM; rw [if_neg e0,if_neg e1,if_pos e2]),rfl⟩
   ·
    have e2:=(eqBf _ _).1 hc3
    refine A1 (G_p [0,0] [0,9,16] (k:=?_))
    refine A0 (B1 (b:=s.toList==(ByteArray.mk #[113,117,111,116]).toList) kr (fun hc4=>?_) (fun hc4=>?_))
    ·
     have e3:=(eqB _ _).1 hc4
     refine A1 (B3 (E':=[⟨2,[],.int .i64 34⟩]) [0] [2] (k:=?_))
     refine A0 (B6 ?_)
     refine A9 (A3 ?_)
     refine B5 [.tmp 2] [.int .i64 34] (k:=?_)
     exact ⟨congrArg (Value.int .i64) (by unfold refM; rw [if_neg e0,if_neg e1,if_neg e2,if_pos e3]),rfl⟩
    ·
     have e3:=(eqBf _ _).1 hc4
     refine A1 (G_p [0,0] [0,18] (k:=?_))
     refine A0 (B1 (b:=s.toList==(ByteArray.mk #[97,112,111,115]).toList) kr (fun hc5=>?_) (fun hc5=>?_))
     ·
      have e4:=(eqB _ _).1 hc5
      refine A1 (B3 (E':=[⟨2,[],.int .i64 39⟩]) [0] [2] (k:=?_))
      refine A0 (B6 ?_)
      refine A9 (A3 ?_)
      refine B5 [.tmp 2] [.int .i64 39] (k:=?_)
      exact ⟨congrArg (Value.int .i64) (by unfold refM; rw [if_neg e0,if_neg e1,if_neg e2,if_neg e3,if_pos e4]),rfl⟩
     ·
      have e4:=(eqBf _ _).1 hc5
      refine A7 (B2 ?_)
      refine A0 (A1 ?_)
      refine A1 (A2 ?_)
      refine A6 (j:=1) [0] (k:=F2 Tryz.func48 (cutP_ s (ByteArray.mk #[35,120]) (by omega) (by first | omega | decide) _ _) ?_)
      rintro _ _ ⟨rfl,rfl⟩
      cases hsp:G1 s (ByteArray.mk #[35,120])
      all_goals simp only [Bool.false_eq_true,if_false,if_true]
      ·
       have hp44:¬ s.data.toList.take 2=[35,120]:=(G7 _ _).1 hsp
       refine B8 (E':=[⟨0,[],.string s⟩,⟨3,[],.string s⟩,⟨4,[],.bool false⟩]) [0,0,0,0,0] [0,3,4] (k:=A0 ?_)
       refine A1 (G_p [0] [0,3,25] (k:=?_))
       refine A0 (D7 kr ?_)
       refine A7 (A0 ?_)
       refine A1 (A1 ?_)
       refine A2 (A6 (j:=1) [0] (k:=?_))
       refine F2 Tryz.func48 (cutP_ s (ByteArray.mk #[35,88]) (by omega) (by first | omega | decide) _ _) ?_
       rintro _ _ ⟨rfl,rfl⟩
       cases hsp:G1 s (ByteArray.mk #[35,88])
       all_goals simp only [Bool.false_eq_true,if_false,if_true]
       ·
        have hp47:¬ s.data.toList.take 2=[35,88]:=(G7 _ _).1 hsp
        refine B0 [0,0,0,0,0] [0,5,6] (k:=A0 ?_)
        refine A1 (G_p [0] [0,5,33] (k:=?_))
        refine A0 (D7 kr ?_)
        refine A7 (A0 ?_)
        refine A1 (A1 ?_)
        refine A2 (A6 (j:=1) [0] (k:=?_))
        refine F2 Tryz.func48 (cutP_ s (ByteArray.mk #[35]) (by omega) (by first | omega | decide) _ _) ?_
        rintro _ _ ⟨rfl,rfl⟩
        cases hsp:G1 s (ByteArray.mk #[35])
        all_goals simp only [Bool.false_eq_true,if_false,if_true]
        ·
         have hp50:¬ s.data.toList.take 1=[35]:=(G7 _ _).1 hsp
         refine B0 [0,0,0,0,0] [7,8] (k:=A0 ?_)
         refine A1 (G_p [0] [7,41] (k:=?_))
         refine A0 (D7 kr ?_)
         refine A7 (A0 ?_)
         refine A1 (B3 (E':=[⟨2,[],.int .i64 (-1)⟩]) [0] [2] (k:=?_))
         refine A0 (B6 ?_)
         refine B5 [.tmp 2] [.int .i64 (-1)] (k:=?_)
         exact ⟨congrArg (Value.int .i64) (by unfold refM; rw [if_neg e0,if_neg e1,if_neg e2,if_neg e3,if_neg e4,if_neg hp44,if_neg hp47,if_neg hp50]),rfl⟩
        ·
         have hp50:s.data.toList.take 1=[35]:=(G8 _ _).1 hsp
         refine B0 [0,0,0,0,0] [7,8] (k:=A0 ?_)
         refine A1 (G_p [0] [7,41] (k:=?_))
         refine A0 (C6 kr ?_)
         refine A1 (A2 ?_)
         refine A6 (j:=1) [0] (k:=F2 Tryz.func49 (number10_ (s.extract (ByteArray.mk #[35]).size s.size) (by first | omega | (rw [ByteArray.size_extract]; omega)) _ _ hW) ?_)
         rintro _ _ ⟨rfl,rfl⟩
         refine B8 (E':=[⟨2,[],.int .i64 (G2 (s.extract (ByteArray.mk #[35]).size s.size).data.toList 10 7)⟩]) [0] [2] (k:=A0 ?_)
         refine B6 (A3 ?_)
         refine B5 [.tmp 2] [.int .i64 (G2 (s.extract (ByteArray.mk #[35]).size s.size).data.toList 10 7)] (k:=?_)
         exact ⟨congrArg (Value.int .i64) (by unfold refM; rw [if_neg e0,if_neg e1,if_neg e2,if_neg e3,if_neg e4,if_neg hp44,if_neg hp47,if_pos hp50,F4]; rfl),rfl⟩
       ·
        have hp47:s.data.toList.take 2=[35,88]:=(G8 _ _).1 hsp
        refine B0 [0,0,0,0,0] [0,5,6] (k:=A0 ?_)
        refine A1 (G_p [0] [0,5,33] (k:=?_))
        refine A0 (C6 kr ?_)
        refine A1 (A2 ?_)
        refine A6 (j:=1) [0] (k:=F2 Tryz.func49 (number16_ (s.extract (ByteArray.mk #[35,88]).size s.size) (by first | omega | (rw [ByteArray.size_extract]; omega)) _ _ hW) ?_)
        rintro _ _ ⟨rfl,rfl⟩
        refine B0 [0] [2] (k:=A0 ?_)
        refine B6 (A3 ?_)
        refine B5 [.tmp 2] [.int .i64 (G2 (s.extract (ByteArray.mk #[35,88]).size s.size).data.toList 16 6)] (k:=?_)
        exact ⟨congrArg (Value.int .i64) (by unfold refM; rw [if_neg e0,if_neg e1,if_neg e2,if_neg e3,if_neg e4,if_neg hp44,if_pos hp47,F4]; rfl),rfl⟩
      ·
       have hp44:s.data.toList.take 2=[35,120]:=(G8 _ _).1 hsp
       refine B8 (E':=[⟨0,[],.string s⟩,⟨3,[],.string (s.extract (ByteArray.mk #[35,120]).size s.size)⟩,⟨4,[],.bool true⟩]) [0,0,0,0,0] [0,3,4] (k:=A0 ?_)
       refine A1 (G_p [0] [0,3,25] (k:=?_))
       refine A0 (C6 kr ?_)
       refine A1 (A2 ?_)
       refine A6 (j:=1) [0] (k:=F2 Tryz.func49 (number16_ (s.extract (ByteArray.mk #[35,120]).size s.size) (by first | omega | (rw [ByteArray.size_extract]; omega)) _ _ hW) ?_)
       rintro _ _ ⟨rfl,rfl⟩
       refine B0 [0] [2] (k:=A0 ?_)
       refine B6 (A3 ?_)
       refine B5 [.tmp 2] [.int .i64 (G2 (s.extract (ByteArray.mk #[35,120]).size s.size).data.toList 16 6)] (k:=?_)
       exact ⟨congrArg (Value.int .i64) (by unfold refM; rw [if_neg e0,if_neg e1,if_neg e2,if_neg e3,if_neg e4,if_pos hp44,F4]; rfl),rfl⟩
theorem unhtml_ (s:ByteArray) (hs:s.size≤10000000000) (W0:World) (H:List Grp) (hW:I2 W0):Tri Tryz.prog 12 #[.string s] W0 H (fun v H'=>v=.string ⟨(unL s.data.toList).toArray⟩∧H'=H):=by
 refine D1 (args:=[.string s]) (n:=41) Tryz.func12 rfl rfl (Nat.le_of_ble_eq_true rfl) ?_
 refine A1 (B3 (E':=[⟨0,[],.string s⟩]) [0] [0] (k:=?_))
 refine A0 (A1 ?_)
 refine A2 (O7 (ch:=[]) (z:=.agg #[.pointer none,.slice none 0 0]) (k:=(fun b1=>?_)))
 refine GL_heap rfl (H':=([(b1,.cells #[.pointer none,.slice none 0 0] 39 (0,0))]::[]::H)) (fun w h=>h.flat (List.Perm.refl _)) (B8 (E':=[⟨0,[],.string s⟩,⟨3,[],pt b1⟩]) [] [0,3] (k:=?_))
 refine A0 (B4 ?_)
 refine I8 (EI:=(fun ξ:Value × Value × Grp × ByteArray × ByteArray=>[⟨0,[],.string ξ.2.2.2.2⟩,⟨3,[],pt b1⟩])) (HI:=(fun ξ:Value × Value × Grp × ByteArray × ByteArray=>([(b1,.cells #[ξ.1,ξ.2.1] 39 (0,0))]::ξ.2.2.1::H))) (Φ:=(fun ξ:Value × Value × Grp × ByteArray × ByteArray=>(Bld b1 ξ.1)∧(BOwn ξ.2.1 ξ.2.2.1 ξ.2.2.2.1)∧(ξ.2.2.2.2.size≤s.size)∧(ξ.2.2.2.1.size+4 * ξ.2.2.2.2.size≤4 * s.size)∧(ξ.2.2.2.1.data.toList++unL ξ.2.2.2.2.data.toList=unL s.data.toList))) (μ:=(fun ξ:Value × Value × Grp × ByteArray × ByteArray=>ξ.2.2.2.2.size)) (s0:=(.pointer none,.slice none 0 0,[],.empty,s)) [0,3] kr rfl ⟨bld0,bown0,(Nat.le_refl _),(by show 0+4 * s.size≤4 * s.size; omega),(by rfl)⟩ ?_
 rintro ⟨p,v,g,t,sv⟩ ⟨hbp,hB,hz,hts,hT⟩
 dsimp only at hbp hB hz hts hT
 refine B4 (A1 ?_)
 refine A2 (A6 (j:=1) [0] (k:=?_))
 refine F2 Tryz.func27 (idx_ sv 38 _ _) ?_
 rintro _ _ ⟨rfl,rfl⟩
 rcases bIdx_spec sv (c:=38) (by decide) (by decide) with ⟨k,hk,hik,hbk,hnk⟩ | ⟨hik,hnk⟩
 all_goals rw [hik]
 ·
  have hz1:(sv.extract k sv.size).size=sv.size - k:=O0 sv k
  have hz0:(sv.extract 0 k).size=k:=by rw [ByteArray.size_extract]; omega
  have hz4:((sv.extract k sv.size).extract 1 (sv.extract k sv.size).size).size=sv.size - k - 1:=by rw [O0,hz1]
  refine B0 [0] [0,3,4] (k:=A0 ?_)
  refine A1 (A1 ?_)
  refine G_p [0,0] [0,3,4,10] (k:=A0 ?_)
  refine B1 (b:=decide (((k:Nat):Int)<0)) kr (fun hc2=>?_) (fun hc2=>?_)
  ·
   simp only [decide_eq_true_eq] at hc2; omega
  ·
   skip
   refine A7 (A0 ?_)
   refine A1 (A2 ?_)
   refine A6 (j:=2) [0,0] (k:=E8 (ch:=[]) (s:=sv) (vl:=none) (vh:=(some (.int .i64 ((k:Nat):Int)))) (l:=0) (h:=((k:Nat):Int)) (hb:=(by omega)) (k:=?_))
   refine F2 Tryz.func28 (J3 b1 (p) (v) g t (sv.extract 0 k) hbp hB (by (try simp only [E5]); omega) _ _) ?_
   rintro _ _ ⟨v3,g4,hB5,rfl⟩
   refine B0 [] [0,3,4] (k:=A0 ?_)
   refine A1 (A2 ?_)
   refine A6 (j:=2) [0,0] (k:=E8 (ch:=[]) (s:=sv) (vl:=(some (.int .i64 ((k:Nat):Int)))) (vh:=none) (l:=((k:Nat):Int)) (h:=(sv.size:Int)) (hb:=(by omega)) (k:=?_))
   refine B0 [0] [0,3] (k:=A0 ?_)
   refine A1 (G_p [0] [0,3,5] (k:=?_))
   refine A0 (A1 ?_)
   refine A2 (A6 (j:=1) [0] (k:=?_))
   refine F2 Tryz.func27 (idx_ (sv.extract k sv.size) 59 _ _) ?_
   rintro _ _ ⟨rfl,rfl⟩
   rcases bIdx_spec (sv.extract k sv.size) (c:=59) (by decide) (by decide) with ⟨m,hm,him,hbm,hnm⟩ | ⟨him,hnm⟩
   all_goals rw [him]
   ·
    have hz2:((sv.extract k sv.size).extract (m+1) (sv.extract k sv.size).size).size=sv.size - k - (m+1):=by rw [O0,hz1]
    have hz3:((sv.extract k sv.size).extract 1 m).size=m - 1:=by rw [ByteArray.size_extract]; omega
    refine B8 (E':=[⟨0,[],.string (sv.extract k sv.size)⟩,⟨3,[],pt b1⟩,⟨5,[],.int .i64 (-1)⟩,⟨6,[],.int .i64 ((m:Nat):Int)⟩]) [0] [0,3,5,6] (k:=A0 ?_)
    refine A1 (A1 ?_)
    refine G_p [0,0] [0,3,5,6,24] (k:=A0 ?_)
    refine B1 (b:=decide (((m:Nat):Int) > 0)) kr (fun hc6=>?_) (fun hc6=>?_)
    ·
     have hm0:=m_pos hk hbk hbm
     refine A2 (A6 (j:=2) [0,0] (k:=?_))
     refine E8 (ch:=[]) (s:=sv.extract k sv.size) (vl:=(some (.int .i64 1))) (vh:=(some (.int .i64 ((m:Nat):Int)))) (l:=1) (h:=((m:Nat):Int)) (hb:=(by omega)) (k:=F2 Tryz.func30 (reference_ ((sv.extract k sv.size).extract 1 m) (by omega) _ _ hW) ?_)
     rintro _ _ ⟨rfl,rfl⟩
     refine B0 [0] [0,3,5,6] (k:=A0 ?_)
     refine A1 (A1 ?_)
     refine G_p [0,0] [0,3,5,6,30] (k:=A0 ?_)
     refine B1 (b:=decide ((refM ((sv.extract k sv.size).extract 1 m).data.toList)<0)) kr (fun hc7=>?_) (fun hc7=>?_)
     ·
      simp only [decide_eq_true_eq] at hc7
      refine A1 (A2 ?_)
      refine F2 Tryz.func31 (I6 b1 (pt b1) (v3) g4 (t++(sv.extract 0 k)) (Nat.toUInt8 38) bld1 hB5 (by (try simp only [E5]); omega) _ _) ?_
      rintro _ _ ⟨v8,g9,hB10,rfl⟩
      refine B0 [] [0,3] (k:=A0 ?_)
      refine A1 (A2 ?_)
      refine A6 (j:=1) [0] (k:=E8 (ch:=[]) (s:=sv.extract k sv.size) (vl:=(some (.int .i64 1))) (vh:=none) (l:=1) (h:=((sv.extract k sv.size).size:Int)) (hb:=(by omega)) (k:=?_))
      refine B0 [0] [0,3] (k:=A0 ?_)
      refine F7 (A8 ?_)
      refine C2 (D8 (s':=(pt b1,v8,g9,((t++(sv.extract 0 k))++⟨#[Nat.toUInt8 38]⟩),(sv.extract k sv.size).extract 1 (sv.extract k sv.size).size)) [0,3] kr rfl ⟨bld1,hB10,(by dsimp only; omega),(by dsimp only; simp only [E5,sz38]; omega),(by dsimp only; rw [← hT,(unB hk hbk hnk hm hbm hnm hm0).1 (by omega),D4,D4,ext_take,lit38]; simp only [List.append_assoc,List.cons_append,List.nil_append])⟩ (by dsimp only; omega))
     ·
      simp only [decide_eq_false_iff_not] at hc7
      have hri:=refM_isR (t:=((sv.extract k sv.size).extract 1 m).data.toList) (by omega)
      unfold isR at hri
      refine A7 (A0 ?_)
      refine A1 (A2 ?_)
      refine C1 (E':=[⟨35,[],.int .i32 (IntKind.wrap .i32 (refM ((sv.extract k sv.size).extract 1 m).data.toList))⟩,⟨0,[],.string (sv.extract k sv.size)⟩,⟨3,[],pt b1⟩,⟨6,[],.int .i64 ((m:Nat):Int)⟩]) (j:=2) [0,0] (k:=C8 (E':=[⟨35,[],.int .i32 (refM ((sv.extract k sv.size).extract 1 m).data.toList)⟩,⟨0,[],.string (sv.extract k sv.size)⟩,⟨3,[],pt b1⟩,⟨6,[],.int .i64 ((m:Nat):Int)⟩]) (by rw [w32i (by omega) (by omega)]) ?_)
      refine F2 Tryz.func32 (writeRune b1 (pt b1) (v3) g4 (t++(sv.extract 0 k)) (refM ((sv.extract k sv.size).extract 1 m).data.toList) bld1 hB5 (refM_isR (by omega)) (by (try simp only [E5]); omega) _ _) ?_
      rintro _ _ ⟨v11,g12,hB13,rfl⟩
      refine B0 [] [0,3,6] (k:=A0 ?_)
      refine A2 (A6 (j:=3) [0,0,0] (k:=?_))
      refine C3 39 (((m:Nat):Int)+1) (by omega) (by omega) kr (E8 (ch:=[]) (s:=sv.extract k sv.size) (vl:=(some (.int .i64 (((m:Nat):Int)+1)))) (vh:=none) (l:=((m:Nat):Int)+1) (h:=((sv.extract k sv.size).size:Int)) (hb:=(by omega)) (k:=?_))
      refine C8 (E':=[⟨40,[],.string ((sv.extract k sv.size).extract (m+1) (sv.extract k sv.size).size)⟩,⟨39,[],.int .i64 (((m:Nat):Int)+1)⟩,⟨38,[],.int .i64 ((m:Nat):Int)⟩,⟨37,[],.string (sv.extract k sv.size)⟩,⟨0,[],.string (sv.extract k sv.size)⟩,⟨3,[],pt b1⟩,⟨6,[],.int .i64 ((m:Nat):Int)⟩]) (by have hz:([⟨40,[],.string ((sv.extract k sv.size).extract (Int.toNat (((m:Nat):Int)+1)) (sv.extract k sv.size).size)⟩,⟨39,[],.int .i64 (((m:Nat):Int)+1)⟩,⟨38,[],.int .i64 ((m:Nat):Int)⟩,⟨37,[],.string (sv.extract k sv.size)⟩,⟨0,[],.string (sv.extract k sv.size)⟩,⟨3,[],pt b1⟩,⟨6,[],.int .i64 ((m:Nat):Int)⟩]:List Sl)=[⟨40,[],.string ((sv.extract k sv.size).extract (m+1) (sv.extract k sv.size).size)⟩,⟨39,[],.int .i64 (((m:Nat):Int)+1)⟩,⟨38,[],.int .i64 ((m:Nat):Int)⟩,⟨37,[],.string (sv.extract k sv.size)⟩,⟨0,[],.string (sv.extract k sv.size)⟩,⟨3,[],pt b1⟩,⟨6,[],.int .i64 ((m:Nat):Int)⟩]:=(by rw [toNat1]); exact Eq.trans kr hz) (B0 [0] [0,3] (k:=?_))
      refine B2 (D8 (s':=(pt b1,v11,g12,((t++(sv.extract 0 k))++encB (refM ((sv.extract k sv.size).extract 1 m).data.toList)),(sv.extract k sv.size).extract (m+1) (sv.extract k sv.size).size)) [0,3] kr rfl ⟨bld1,hB13,(by dsimp only; omega),(by dsimp only; have he:=encB_size (refM ((sv.extract k sv.size).extract 1 m).data.toList); simp only [E5]; omega),(by dsimp only; rw [← hT,(unB hk hbk hnk hm hbm hnm hm0).2 (by omega),D4,D4,H3,ext_take]; simp only [List.append_assoc])⟩ (by dsimp only; omega))
    ·
     exact absurd (m_pos hk hbk hbm) (by simp only [gt_iff_lt,decide_eq_false_iff_not] at hc6; omega)
   ·
    refine B8 (E':=[⟨0,[],.string (sv.extract k sv.size)⟩,⟨3,[],pt b1⟩,⟨5,[],.int .i64 (-1)⟩,⟨6,[],.int .i64 (-1)⟩]) [0] [0,3,5,6] (k:=A0 ?_)
    refine A1 (A1 ?_)
    refine G_p [0,0] [0,3,5,6,24] (k:=A0 ?_)
    refine D7 kr (A7 ?_)
    refine A0 (A1 ?_)
    refine A1 (G_p [0,0] [0,3,5,6,30] (k:=?_))
    refine A0 (C6 kr ?_)
    refine A1 (A2 ?_)
    refine F2 Tryz.func31 (I6 b1 (pt b1) (v3) g4 (t++(sv.extract 0 k)) (Nat.toUInt8 38) bld1 hB5 (by (try simp only [E5]); omega) _ _) ?_
    rintro _ _ ⟨v15,g16,hB17,rfl⟩
    refine B0 [] [0,3] (k:=A0 ?_)
    refine A1 (A2 ?_)
    refine A6 (j:=1) [0] (k:=E8 (ch:=[]) (s:=sv.extract k sv.size) (vl:=(some (.int .i64 1))) (vh:=none) (l:=1) (h:=((sv.extract k sv.size).size:Int)) (hb:=(by omega)) (k:=?_))
    refine B0 [0] [0,3] (k:=A0 ?_)
    refine F7 (A8 ?_)
    refine C2 (D8 (s':=(pt b1,v15,g16,((t++(sv.extract 0 k))++⟨#[Nat.toUInt8 38]⟩),(sv.extract k sv.size).extract 1 (sv.extract k sv.size).size)) [0,3] kr rfl ⟨bld1,hB17,(by dsimp only; omega),(by dsimp only; simp only [E5,sz38]; omega),(by dsimp only; rw [← hT,unA hk hbk hnk hnm,D4,D4,ext_take,lit38]; simp only [List.append_assoc,List.cons_append,List.nil_append])⟩ (by dsimp only; omega))
 ·
  refine B0 [0] [0,3,4] (k:=A0 ?_)
  refine A1 (A1 ?_)
  refine G_p [0,0] [0,3,4,10] (k:=A0 ?_)
  refine C6 kr (A1 ?_)
  refine A2 (A6 (j:=1) [0] (k:=?_))
  refine F2 Tryz.func28 (J3 b1 (p) (v) g t sv hbp hB (by (try simp only [E5]); omega) _ _) ?_
  rintro _ _ ⟨v18,g19,hB20,rfl⟩
  refine B8 (E':=[⟨3,[],pt b1⟩]) [] [3] (k:=A0 ?_)
  refine A1 (A2 ?_)
  refine F2 Tryz.func29 (J8 b1 (pt b1) (v18) g19 (t++sv) hB20 (by (try simp only [E5]); omega) _ _) ?_
  rintro _ _ ⟨rfl,rfl⟩
  refine B8 (E':=[⟨2,[],.string (t++sv)⟩]) [0] [2] (k:=A0 ?_)
  refine B6 (A3 ?_)
  refine A9 (A3 ?_)
  refine A9 (C9 (H':=H) (fun w h=>(h.erase 0)) ?_)
  refine B5 [.tmp 2] [.string (t++sv)] (k:=?_)
  exact ⟨congrArg Value.string (ba_eq (by rw [← hT,unC hnk,D4])),rfl⟩
end Go.Proofs.YtbnfbffiehoapaaGreatDoor
namespace Go.Sw
open Go.Esc
def dig36:ByteArray:=ByteArray.mk #[48,49,50,51,52,53,54,55,56,57,97,98,99,100,101,102,103,104,105,106,107,108,109,110,111,112,113,114,115,116,117,118,119,120,121,122]
def E2 (u:Int):UInt8:=(dig36.data.toList)[u.toNat]?.getD 0
theorem K6 {u:Int} (h0:0≤u) (h1:u<16):E2 u=hexl u.toNat:=by
  have h:∀ n:Fin 16,E2 (n.val:Int)=hexl n.val:=by decide +kernel
  have:=h ⟨u.toNat,by omega⟩
  simpa [show ((u.toNat:Nat):Int)=u by omega] using this
def rowH (l:List UInt8):Array Value:=(List.replicate (65 - l.length) (Value.int .u8 0)++u8s l).toArray
theorem M6 {l:List UInt8} (h:l.length≤65):(rowH l).size=65:=by simp [rowH,u8s]; omega
theorem O2 (b:UInt8) (l:List UInt8) (h:l.length<65):setRow (rowH l) (64 - l.length) [.int .u8 (b.toNat:Int)]=rowH (b::l):=by
  have:=setRow_mid [.int .u8 (b.toNat:Int)] (List.replicate (64 - l.length) (Value.int .u8 0)) (u8s l) [.int .u8 0] rfl
  rw [List.length_replicate] at this
  unfold rowH
  rw [show 65 - l.length=(64 - l.length)+1 by omega,List.replicate_succ',this]
  simp [u8s]
theorem rowH_rd {b:Nat} {t:TypeId} (l:List UInt8) (h0:0<l.length) (h:l.length<65):Rd (inG [(b,.cells (rowH l) t (0,0))]) (some ⟨b,65 - l.length,none⟩) (u8s l):=by
  have h1:Rd (inG [(b,.cells (rowH l).toList.toArray t (0,0))]) (some ⟨b,0,none⟩) (rowH l).toList:=Rd.lit
  rw [Array.toArray_toList] at h1
  have h2:=h1.cut (cap:=65) (l:=65 - l.length) (sz:=1) (m:=l.length) (by omega)
  rw [show cutA (some ⟨b,0,none⟩) 65 (65 - l.length) 1=some ⟨b,65 - l.length,none⟩ from cut_some (by omega)] at h2
  have e:((rowH l).toList.drop ((65 - l.length) * 1)).take l.length=u8s l:=by
    unfold rowH
    rw [Nat.mul_one]
    have e2:(u8s l).length=l.length:=List.length_map _
    show ((List.replicate (65 - l.length) (Value.int .u8 0)++u8s l).drop (65 - l.length)).take l.length=_
    rw [List.drop_append,List.length_replicate,Nat.sub_self,List.drop_zero,List.drop_eq_nil_of_le (by rw [List.length_replicate]; exact Nat.le_refl _),List.nil_append,← e2,List.take_length]
  rw [e] at h2; exact h2
theorem and15 {x:Int} (h0:0≤x) (h1:x<18446744073709551616):IntKind.wrap .u64 ((BitVec.ofInt (IntKind.bits .u64) x &&& BitVec.ofInt (IntKind.bits .u64) 15).toNat)=x % 16:=by
  obtain ⟨n,rfl⟩:=Int.eq_ofNat_of_zero_le h0
  have e:(BitVec.ofInt (IntKind.bits .u64) (n:Int) &&& BitVec.ofInt (IntKind.bits .u64) 15).toNat=n % 16:=by
    rw [BitVec.toNat_and]
    have a:(BitVec.ofInt (IntKind.bits .u64) (n:Int)).toNat=n:=by
      show (BitVec.ofInt 64 (n:Int)).toNat=n
      rw [BitVec.toNat_ofInt]; omega
    have b:(BitVec.ofInt (IntKind.bits .u64) 15).toNat=15:=rfl
    rw [a,b]
    exact Nat.and_two_pow_sub_one_eq_mod n 4
  rw [e,show IntKind.wrap .u64 ((n % 16:Nat):Int)=((n % 16:Nat):Int) % 18446744073709551616 from by first | rfl | simp [IntKind.wrap,IntKind.bits,IntKind.signed]]
  omega
theorem fdiv16 (x:Int):Int.fdiv x (2 ^ 4)=x / 16:=by rw [Int.fdiv_eq_ediv_of_nonneg _ (by decide)]; rfl
def O4 (n:Int):List UInt8 :=
  if n<16 then [E2 n] else if n<256 then [E2 (n / 16),E2 (n % 16)] else if n<4096 then [E2 (n / 16 / 16),E2 (n / 16 % 16),E2 (n % 16)] else [E2 (n / 16 / 16 / 16),E2 (n / 16 / 16 % 16),E2 (n / 16 % 16),E2 (n % 16)]
theorem hexD_len (n:Int):1≤(O4 n).length∧(O4 n).length≤4:=by unfold O4; (repeat' split) <;> simp
theorem hexD_pad {n:Int} (h0:0≤n) (h1:n<65536):List.replicate (4 - (O4 n).length) 48++O4 n=hex4 n.toNat:=by
  have z:(48:UInt8)=hexl 0:=by decide
  unfold O4 hex4
  split
  · rw [K6 (by omega) (by omega)]
    simp only [List.length_cons,List.length_nil,Nat.reduceSub,Nat.reduceAdd,List.replicate,List.cons_append,List.nil_append]
    rw [show n.toNat / 4096 % 16=0 by omega,show n.toNat / 256 % 16=0 by omega,show n.toNat / 16 % 16=0 by omega,show n.toNat % 16=n.toNat by omega,← z]
  split
  · rw [K6 (by omega) (by omega),K6 (by omega) (by omega)]
    simp only [List.length_cons,List.length_nil,Nat.reduceSub,Nat.reduceAdd,List.replicate,List.cons_append,List.nil_append]
    rw [show n.toNat / 4096 % 16=0 by omega,show n.toNat / 256 % 16=0 by omega,show n.toNat / 16 % 16=(n / 16).toNat by omega,show n.toNat % 16=(n % 16).toNat by omega,← z]
  split
  · rw [K6 (by omega) (by omega),K6 (by omega) (by omega),K6 (by omega) (by omega)]
    simp only [List.length_cons,List.length_nil,Nat.reduceSub,Nat.reduceAdd,List.replicate,List.cons_append,List.nil_append]
    rw [show n.toNat / 4096 % 16=0 by omega,show n.toNat / 256 % 16=(n / 16 / 16).toNat by omega,show n.toNat / 16 % 16=(n / 16 % 16).toNat by omega,show n.toNat % 16=(n % 16).toNat by omega,← z]
  · rw [K6 (by omega) (by omega),K6 (by omega) (by omega),K6 (by omega) (by omega),K6 (by omega) (by omega)]
    simp only [List.length_cons,List.length_nil,Nat.reduceSub,Nat.reduceAdd,List.replicate,List.nil_append]
    rw [show n.toNat / 4096 % 16=(n / 16 / 16 / 16).toNat by omega,show n.toNat / 256 % 16=(n / 16 / 16 % 16).toNat by omega,show n.toNat / 16 % 16=(n / 16 % 16).toNat by omega,show n.toNat % 16=(n % 16).toNat by omega]
end Go.Sw
namespace Go.Proofs.YtbnfbffiehoapaaGreatDoor
open Go.Sw Go.Sha Go.Esc Go.RowKit
theorem pow2_  (W0:World) (H:List Grp):Tri Tryz.prog 104 #[.int .i64 16] W0 H (fun v H'=>v=.bool true∧H'=H):=by
 refine D1 (args:=[.int .i64 16]) (n:=8) Tryz.func104 rfl rfl (Nat.le_of_ble_eq_true rfl) ?_
 refine A1 (B3 (E':=[⟨0,[],.int .i64 16⟩]) [0] [0] (k:=?_))
 refine A0 (A1 ?_)
 refine B3 (E':=[⟨2,[],.bool true⟩]) [0,0,0,0,0,0] [2] (k:=A0 ?_)
 refine B6 (B5 [.tmp 2] [.bool true] (k:=?_))
 exact ⟨rfl,rfl⟩
theorem tz64_  (W0:World) (H:List Grp) (hW:I2 W0):Tri Tryz.prog 120 #[.int .u64 16] W0 H (fun v H'=>v=.int .i64 4∧H'=H):=by
 refine D1 (args:=[.int .u64 16]) (n:=14) Tryz.func120 rfl rfl (Nat.le_of_ble_eq_true rfl) ?_
 refine A1 (B3 (E':=[⟨0,[],.int .u64 16⟩]) [0] [0] (k:=?_))
 refine A0 (A1 ?_)
 refine A1 (G_p [0,0] [0,4] (k:=?_))
 refine A0 (D7 kr ?_)
 refine A7 (A0 ?_)
 refine A1 (A2 ?_)
 refine A6 (j:=6) [0,0,0,0,0,0] (k:=E0 (ch:=[]) (b:=7) (off:=0) (len:=64) (sz:=1) (e:=5) (kd:=.u64) (j:=15) (hb:=(fun _=>⟨by decide,by decide⟩)) (k:=?_))
 obtain ⟨tc,te,tf,tz1,tz2,tz3⟩:=hW.tz
 refine E9 (ch:=[]) (b:=7) (off:=15) (v:=.int .u8 4) (hA:=.inl ⟨tz1,tz2⟩) (hv:=tz3) (k:=B8 (E':=[⟨2,[],.int .i64 4⟩]) [0,0] [2] (k:=?_))
 refine A0 (B6 ?_)
 refine B5 [.tmp 2] [.int .i64 4] (k:=?_)
 exact ⟨rfl,rfl⟩
theorem tz_  (W0:World) (H:List Grp) (hW:I2 W0):Tri Tryz.prog 105 #[.int .u64 16] W0 H (fun v H'=>v=.int .i64 4∧H'=H):=by
 refine D1 (args:=[.int .u64 16]) (n:=8) Tryz.func105 rfl rfl (Nat.le_of_ble_eq_true rfl) ?_
 refine A1 (B3 (E':=[⟨0,[],.int .u64 16⟩]) [0] [0] (k:=?_))
 refine A0 (A1 ?_)
 refine D7 kr (A7 ?_)
 refine A0 (A1 ?_)
 refine A2 (A6 (j:=1) [0] (k:=?_))
 refine F2 Tryz.func120 (tz64_ _ _ hW) ?_
 rintro _ _ ⟨rfl,rfl⟩
 refine B8 (E':=[⟨2,[],.int .i64 4⟩]) [0] [2] (k:=A0 ?_)
 refine B6 (B5 [.tmp 2] [.int .i64 4] (k:=?_))
 exact ⟨rfl,rfl⟩
theorem fbits_ (n:Int) (h0:0≤n) (h1:n<65536) (W0:World) (H:List Grp) (hW:I2 W0):Tri Tryz.prog 85 #[.slice none 0 0,.int .u64 n,.int .i64 16,.bool false,.bool false] W0 H (fun v H'=>v=.tuple #[.slice none 0 0,.string ⟨(O4 n).toArray⟩]∧H'=H):=by
 refine D1 (args:=[.slice none 0 0,.int .u64 n,.int .i64 16,.bool false,.bool false]) (n:=102) Tryz.func85 rfl rfl (Nat.le_of_ble_eq_true rfl) ?_
 refine A1 (G_p [0,0] [0,1,2,3,4,10,11] (k:=?_))
 refine A0 (A1 ?_)
 refine A1 (G_p [0,0,0,0,0,3,0,0,0,3] [0,1,2,3,4,10,11,28] (k:=?_))
 refine A0 (D7 kr ?_)
 refine A7 (A0 ?_)
 refine A1 (A2 ?_)
 refine O7 (ch:=[]) (z:=.agg (rowH [])) (k:=(fun B=>?_))
 refine B0 [] [0,1,2,3,4,10,11,12] (k:=A0 ?_)
 refine A1 (G_p [0] [0,1,2,3,4,10,11,12,13] (k:=?_))
 refine A0 (A1 ?_)
 refine A1 (G_p [0] [0,1,2,3,4,10,11,12,13,30] (k:=?_))
 refine A0 (D7 kr ?_)
 refine A7 (A0 ?_)
 refine A1 (A1 ?_)
 refine A2 (A6 (j:=1) [0] (k:=?_))
 refine G4 Tryz.func104 (pow2_ _ _) (B8 (E':=[⟨0,[],.slice none 0 0⟩,⟨1,[],.int .u64 n⟩,⟨2,[],.int .i64 16⟩,⟨3,[],.bool false⟩,⟨4,[],.bool false⟩,⟨10,[],.slice none 0 0⟩,⟨11,[],.string (ByteArray.mk #[])⟩,⟨12,[],pt B⟩,⟨13,[],.int .i64 65⟩,⟨34,[],.bool true⟩]) [] [0,1,2,3,4,10,11,12,13,34] (k:=?_))
 refine A0 (C6 kr ?_)
 refine A1 (A2 ?_)
 refine A6 (j:=2) [0,0] (k:=F2 Tryz.func105 (tz_ _ _ hW) ?_)
 rintro _ _ ⟨rfl,rfl⟩
 refine B0 [0,0] [0,1,2,3,4,10,11,12,13,14] (k:=A0 ?_)
 refine A1 (G_p [0,0,0] [0,1,2,3,4,10,11,12,13,14,15] (k:=?_))
 refine A0 (A1 ?_)
 refine G_p [0,0,0,0] [0,1,3,4,10,11,12,13,14,15,16] (k:=A0 ?_)
 refine A1 (B4 ?_)
 refine L9 4 (E4 ?_)
 refine A1 (A1 ?_)
 refine G_p [0,0,0] [0,1,3,4,10,11,12,13,14,15,16,46] (k:=A0 ?_)
 refine B1 (b:=decide (n ≥ 16)) kr (fun hc1=>?_) (fun hc1=>?_)
 ·
  simp only [ge_iff_le,decide_eq_true_eq] at hc1
  refine A7 (A0 ?_)
  refine B4 (A1 ?_)
  refine G_p [0,0,0] [0,1,3,4,10,11,12,13,14,15,16] (k:=A0 ?_)
  refine A1 (A2 ?_)
  refine C1 (E':=[⟨52,[],.int .u64 (IntKind.wrap .u64 ((BitVec.ofInt (IntKind.bits .u64) n &&& BitVec.ofInt (IntKind.bits .u64) 15).toNat))⟩,⟨49,[],.int .i64 64⟩,⟨0,[],.slice none 0 0⟩,⟨1,[],.int .u64 n⟩,⟨3,[],.bool false⟩,⟨4,[],.bool false⟩,⟨10,[],.slice none 0 0⟩,⟨11,[],.string (ByteArray.mk #[])⟩,⟨12,[],pt B⟩,⟨13,[],.int .i64 64⟩,⟨14,[],.int .u64 4⟩,⟨15,[],.int .u64 16⟩,⟨16,[],.int .u64 15⟩]) (j:=4) [0,0,0,0] (k:=C8 (E':=[⟨52,[],.int .u64 (n % 16)⟩,⟨49,[],.int .i64 64⟩,⟨0,[],.slice none 0 0⟩,⟨1,[],.int .u64 n⟩,⟨3,[],.bool false⟩,⟨4,[],.bool false⟩,⟨10,[],.slice none 0 0⟩,⟨11,[],.string (ByteArray.mk #[])⟩,⟨12,[],pt B⟩,⟨13,[],.int .i64 64⟩,⟨14,[],.int .u64 4⟩,⟨15,[],.int .u64 16⟩,⟨16,[],.int .u64 15⟩]) (by rw [and15 (by omega) (by omega)]) ?_)
  refine C0 (ch:=[]) (s:=(ByteArray.mk #[48,49,50,51,52,53,54,55,56,57,97,98,99,100,101,102,103,104,105,106,107,108,109,110,111,112,113,114,115,116,117,118,119,120,121,122])) (kd:=.u64) (j:=(n % 16)) (hb:=(by intro _; exact ⟨by omega,by show _<(36:Int); omega⟩)) (k:=?_)
  have hb2:=C7 (ByteArray.mk #[48,49,50,51,52,53,54,55,56,57,97,98,99,100,101,102,103,104,105,106,107,108,109,110,111,112,113,114,115,116,117,118,119,120,121,122]) (n % 16)
  refine E0 (ch:=[]) (b:=B) (off:=0) (len:=65) (sz:=1) (e:=5) (kd:=.i64) (j:=64) (hb:=(fun _=>⟨by decide,by decide⟩)) (k:=M0 (ch:=[]) (b:=B) (off:=64) (v:=.int .u8 ((E2 (n % 16)).toNat:Int)) (c:=rowH []) (c':=rowH [E2 (n % 16)]) (j:=0) (m:=0) (H':=([(B,.cells (rowH [E2 (n % 16)]) 145 (0,0))]::H)) (hoff:=(by rw [M6 (by simp)]; exact Nat.le_of_ble_eq_true rfl)) (hfz:=(fun _ _=>L3)) (hc':=O2 _ [] (by simp)) (k:=?_))
  refine B8 (E':=[⟨0,[],.slice none 0 0⟩,⟨1,[],.int .u64 n⟩,⟨3,[],.bool false⟩,⟨4,[],.bool false⟩,⟨10,[],.slice none 0 0⟩,⟨11,[],.string (ByteArray.mk #[])⟩,⟨12,[],pt B⟩,⟨13,[],.int .i64 64⟩,⟨14,[],.int .u64 4⟩,⟨15,[],.int .u64 16⟩,⟨16,[],.int .u64 15⟩]) [] [0,1,3,4,10,11,12,13,14,15,16] (k:=A0 ?_)
  refine A2 (C1 (E':=[⟨57,[],.int .u64 (Int.fdiv n (2 ^ 4))⟩,⟨0,[],.slice none 0 0⟩,⟨1,[],.int .u64 n⟩,⟨3,[],.bool false⟩,⟨4,[],.bool false⟩,⟨10,[],.slice none 0 0⟩,⟨11,[],.string (ByteArray.mk #[])⟩,⟨12,[],pt B⟩,⟨13,[],.int .i64 64⟩,⟨14,[],.int .u64 4⟩,⟨15,[],.int .u64 16⟩,⟨16,[],.int .u64 15⟩]) (j:=3) [0,0,0] (k:=?_))
  refine C8 (E':=[⟨57,[],.int .u64 (n / 16)⟩,⟨0,[],.slice none 0 0⟩,⟨1,[],.int .u64 n⟩,⟨3,[],.bool false⟩,⟨4,[],.bool false⟩,⟨10,[],.slice none 0 0⟩,⟨11,[],.string (ByteArray.mk #[])⟩,⟨12,[],pt B⟩,⟨13,[],.int .i64 64⟩,⟨14,[],.int .u64 4⟩,⟨15,[],.int .u64 16⟩,⟨16,[],.int .u64 15⟩]) (by rw [fdiv16]) (B0 [0] [0,1,3,4,10,11,12,13,14,15,16] (k:=?_))
  refine B2 (N_rd ?_)
  refine E4 (A1 ?_)
  refine A1 (G_p [0,0,0] [0,1,3,4,10,11,12,13,14,15,16,46] (k:=?_))
  refine A0 (B1 (b:=decide ((n / 16) ≥ 16)) kr (fun hc3=>?_) (fun hc3=>?_))
  ·
   simp only [ge_iff_le,decide_eq_true_eq] at hc3
   refine A7 (A0 ?_)
   refine B4 (A1 ?_)
   refine G_p [0,0,0] [0,1,3,4,10,11,12,13,14,15,16] (k:=A0 ?_)
   refine A1 (A2 ?_)
   refine C1 (E':=[⟨52,[],.int .u64 (IntKind.wrap .u64 ((BitVec.ofInt (IntKind.bits .u64) (n / 16) &&& BitVec.ofInt (IntKind.bits .u64) 15).toNat))⟩,⟨49,[],.int .i64 63⟩,⟨0,[],.slice none 0 0⟩,⟨1,[],.int .u64 (n / 16)⟩,⟨3,[],.bool false⟩,⟨4,[],.bool false⟩,⟨10,[],.slice none 0 0⟩,⟨11,[],.string (ByteArray.mk #[])⟩,⟨12,[],pt B⟩,⟨13,[],.int .i64 63⟩,⟨14,[],.int .u64 4⟩,⟨15,[],.int .u64 16⟩,⟨16,[],.int .u64 15⟩]) (j:=4) [0,0,0,0] (k:=C8 (E':=[⟨52,[],.int .u64 ((n / 16) % 16)⟩,⟨49,[],.int .i64 63⟩,⟨0,[],.slice none 0 0⟩,⟨1,[],.int .u64 (n / 16)⟩,⟨3,[],.bool false⟩,⟨4,[],.bool false⟩,⟨10,[],.slice none 0 0⟩,⟨11,[],.string (ByteArray.mk #[])⟩,⟨12,[],pt B⟩,⟨13,[],.int .i64 63⟩,⟨14,[],.int .u64 4⟩,⟨15,[],.int .u64 16⟩,⟨16,[],.int .u64 15⟩]) (by rw [and15 (by omega) (by omega)]) ?_)
   refine C0 (ch:=[]) (s:=(ByteArray.mk #[48,49,50,51,52,53,54,55,56,57,97,98,99,100,101,102,103,104,105,106,107,108,109,110,111,112,113,114,115,116,117,118,119,120,121,122])) (kd:=.u64) (j:=((n / 16) % 16)) (hb:=(by intro _; exact ⟨by omega,by show _<(36:Int); omega⟩)) (k:=?_)
   have hb4:=C7 (ByteArray.mk #[48,49,50,51,52,53,54,55,56,57,97,98,99,100,101,102,103,104,105,106,107,108,109,110,111,112,113,114,115,116,117,118,119,120,121,122]) ((n / 16) % 16)
   refine E0 (ch:=[]) (b:=B) (off:=0) (len:=65) (sz:=1) (e:=5) (kd:=.i64) (j:=63) (hb:=(fun _=>⟨by decide,by decide⟩)) (k:=M0 (ch:=[]) (b:=B) (off:=63) (v:=.int .u8 ((E2 ((n / 16) % 16)).toNat:Int)) (c:=rowH [E2 (n % 16)]) (c':=rowH [E2 ((n / 16) % 16),E2 (n % 16)]) (j:=0) (m:=0) (H':=([(B,.cells (rowH [E2 ((n / 16) % 16),E2 (n % 16)]) 145 (0,0))]::H)) (hoff:=(by rw [M6 (by simp)]; exact Nat.le_of_ble_eq_true rfl)) (hfz:=(fun _ _=>L3)) (hc':=O2 _ [E2 (n % 16)] (by simp)) (k:=?_))
   refine B0 [] [0,1,3,4,10,11,12,13,14,15,16] (k:=A0 ?_)
   refine A2 (C1 (E':=[⟨57,[],.int .u64 (Int.fdiv (n / 16) (2 ^ 4))⟩,⟨0,[],.slice none 0 0⟩,⟨1,[],.int .u64 (n / 16)⟩,⟨3,[],.bool false⟩,⟨4,[],.bool false⟩,⟨10,[],.slice none 0 0⟩,⟨11,[],.string (ByteArray.mk #[])⟩,⟨12,[],pt B⟩,⟨13,[],.int .i64 63⟩,⟨14,[],.int .u64 4⟩,⟨15,[],.int .u64 16⟩,⟨16,[],.int .u64 15⟩]) (j:=3) [0,0,0] (k:=?_))
   refine C8 (E':=[⟨57,[],.int .u64 ((n / 16) / 16)⟩,⟨0,[],.slice none 0 0⟩,⟨1,[],.int .u64 (n / 16)⟩,⟨3,[],.bool false⟩,⟨4,[],.bool false⟩,⟨10,[],.slice none 0 0⟩,⟨11,[],.string (ByteArray.mk #[])⟩,⟨12,[],pt B⟩,⟨13,[],.int .i64 63⟩,⟨14,[],.int .u64 4⟩,⟨15,[],.int .u64 16⟩,⟨16,[],.int .u64 15⟩]) (by rw [fdiv16]) (B0 [0] [0,1,3,4,10,11,12,13,14,15,16] (k:=?_))
   refine B2 (N_rd ?_)
   refine E4 (A1 ?_)
   refine A1 (B3 (E':=[⟨0,[],.slice none 0 0⟩,⟨1,[],.int .u64 ((n / 16) / 16)⟩,⟨3,[],.bool false⟩,⟨4,[],.bool false⟩,⟨10,[],.slice none 0 0⟩,⟨11,[],.string (ByteArray.mk #[])⟩,⟨12,[],pt B⟩,⟨13,[],.int .i64 63⟩,⟨14,[],.int .u64 4⟩,⟨15,[],.int .u64 16⟩,⟨16,[],.int .u64 15⟩,⟨46,[],.bool (decide (((n / 16) / 16) ≥ 16))⟩]) [0,0,0] [0,1,3,4,10,11,12,13,14,15,16,46] (k:=?_))
   refine A0 (B1 (b:=decide (((n / 16) / 16) ≥ 16)) kr (fun hc5=>?_) (fun hc5=>?_))
   ·
    simp only [ge_iff_le,decide_eq_true_eq] at hc5
    refine A7 (A0 ?_)
    refine B4 (A1 ?_)
    refine G_p [0,0,0] [0,1,3,4,10,11,12,13,14,15,16] (k:=A0 ?_)
    refine A1 (A2 ?_)
    refine C1 (E':=[⟨52,[],.int .u64 (IntKind.wrap .u64 ((BitVec.ofInt (IntKind.bits .u64) ((n / 16) / 16) &&& BitVec.ofInt (IntKind.bits .u64) 15).toNat))⟩,⟨49,[],.int .i64 62⟩,⟨0,[],.slice none 0 0⟩,⟨1,[],.int .u64 ((n / 16) / 16)⟩,⟨3,[],.bool false⟩,⟨4,[],.bool false⟩,⟨10,[],.slice none 0 0⟩,⟨11,[],.string (ByteArray.mk #[])⟩,⟨12,[],pt B⟩,⟨13,[],.int .i64 62⟩,⟨14,[],.int .u64 4⟩,⟨15,[],.int .u64 16⟩,⟨16,[],.int .u64 15⟩]) (j:=4) [0,0,0,0] (k:=C8 (E':=[⟨52,[],.int .u64 (((n / 16) / 16) % 16)⟩,⟨49,[],.int .i64 62⟩,⟨0,[],.slice none 0 0⟩,⟨1,[],.int .u64 ((n / 16) / 16)⟩,⟨3,[],.bool false⟩,⟨4,[],.bool false⟩,⟨10,[],.slice none 0 0⟩,⟨11,[],.string (ByteArray.mk #[])⟩,⟨12,[],pt B⟩,⟨13,[],.int .i64 62⟩,⟨14,[],.int .u64 4⟩,⟨15,[],.int .u64 16⟩,⟨16,[],.int .u64 15⟩]) (by rw [and15 (by omega) (by omega)]) ?_)
    refine C0 (ch:=[]) (s:=(ByteArray.mk #[48,49,50,51,52,53,54,55,56,57,97,98,99,100,101,102,103,104,105,106,107,108,109,110,111,112,113,114,115,116,117,118,119,120,121,122])) (kd:=.u64) (j:=(((n / 16) / 16) % 16)) (hb:=(by intro _; exact ⟨by omega,by show _<(36:Int); omega⟩)) (k:=?_)
    have hb6:=C7 (ByteArray.mk #[48,49,50,51,52,53,54,55,56,57,97,98,99,100,101,102,103,104,105,106,107,108,109,110,111,112,113,114,115,116,117,118,119,120,121,122]) (((n / 16) / 16) % 16)
    refine E0 (ch:=[]) (b:=B) (off:=0) (len:=65) (sz:=1) (e:=5) (kd:=.i64) (j:=62) (hb:=(fun _=>⟨by decide,by decide⟩)) (k:=M0 (ch:=[]) (b:=B) (off:=62) (v:=.int .u8 ((E2 (((n / 16) / 16) % 16)).toNat:Int)) (c:=rowH [E2 ((n / 16) % 16),E2 (n % 16)]) (c':=rowH [E2 (((n / 16) / 16) % 16),E2 ((n / 16) % 16),E2 (n % 16)]) (j:=0) (m:=0) (H':=([(B,.cells (rowH [E2 (((n / 16) / 16) % 16),E2 ((n / 16) % 16),E2 (n % 16)]) 145 (0,0))]::H)) (hoff:=(by rw [M6 (by simp)]; exact Nat.le_of_ble_eq_true rfl)) (hfz:=(fun _ _=>L3)) (hc':=O2 _ [E2 ((n / 16) % 16),E2 (n % 16)] (by simp)) (k:=?_))
    refine B0 [] [0,1,3,4,10,11,12,13,14,15,16] (k:=A0 ?_)
    refine A2 (C1 (E':=[⟨57,[],.int .u64 (Int.fdiv ((n / 16) / 16) (2 ^ 4))⟩,⟨0,[],.slice none 0 0⟩,⟨1,[],.int .u64 ((n / 16) / 16)⟩,⟨3,[],.bool false⟩,⟨4,[],.bool false⟩,⟨10,[],.slice none 0 0⟩,⟨11,[],.string (ByteArray.mk #[])⟩,⟨12,[],pt B⟩,⟨13,[],.int .i64 62⟩,⟨14,[],.int .u64 4⟩,⟨15,[],.int .u64 16⟩,⟨16,[],.int .u64 15⟩]) (j:=3) [0,0,0] (k:=?_))
    refine C8 (E':=[⟨57,[],.int .u64 (((n / 16) / 16) / 16)⟩,⟨0,[],.slice none 0 0⟩,⟨1,[],.int .u64 ((n / 16) / 16)⟩,⟨3,[],.bool false⟩,⟨4,[],.bool false⟩,⟨10,[],.slice none 0 0⟩,⟨11,[],.string (ByteArray.mk #[])⟩,⟨12,[],pt B⟩,⟨13,[],.int .i64 62⟩,⟨14,[],.int .u64 4⟩,⟨15,[],.int .u64 16⟩,⟨16,[],.int .u64 15⟩]) (by rw [fdiv16]) (B0 [0] [0,1,3,4,10,11,12,13,14,15,16] (k:=?_))
    refine B2 (N_rd ?_)
    refine E4 (A1 ?_)
    refine A1 (G_p [0,0,0] [0,1,3,4,10,11,12,13,14,15,16,46] (k:=?_))
    refine A0 (B1 (b:=decide ((((n / 16) / 16) / 16) ≥ 16)) kr (fun hc7=>?_) (fun hc7=>?_))
    ·
     simp only [ge_iff_le,decide_eq_true_eq] at hc7; omega
    ·
     simp only [ge_iff_le,decide_eq_false_iff_not] at hc7
     refine F7 (A8 ?_)
     refine A8 (C2 ?_)
     refine A0 (A1 ?_)
     refine G_p [0,0,0] [0,1,3,4,10,11,12,13] (k:=A0 ?_)
     refine A2 (A6 (j:=2) [0,0] (k:=?_))
     refine C0 (ch:=[]) (s:=(ByteArray.mk #[48,49,50,51,52,53,54,55,56,57,97,98,99,100,101,102,103,104,105,106,107,108,109,110,111,112,113,114,115,116,117,118,119,120,121,122])) (kd:=.u64) (j:=(((n / 16) / 16) / 16)) (hb:=(by intro _; exact ⟨by omega,by show _<(36:Int); omega⟩)) (k:=?_)
     have hb8:=C7 (ByteArray.mk #[48,49,50,51,52,53,54,55,56,57,97,98,99,100,101,102,103,104,105,106,107,108,109,110,111,112,113,114,115,116,117,118,119,120,121,122]) (((n / 16) / 16) / 16)
     refine E0 (ch:=[]) (b:=B) (off:=0) (len:=65) (sz:=1) (e:=5) (kd:=.i64) (j:=61) (hb:=(fun _=>⟨by decide,by decide⟩)) (k:=M0 (ch:=[]) (b:=B) (off:=61) (v:=.int .u8 ((E2 (((n / 16) / 16) / 16)).toNat:Int)) (c:=rowH [E2 (((n / 16) / 16) % 16),E2 ((n / 16) % 16),E2 (n % 16)]) (c':=rowH [E2 (((n / 16) / 16) / 16),E2 (((n / 16) / 16) % 16),E2 ((n / 16) % 16),E2 (n % 16)]) (j:=0) (m:=0) (H':=([(B,.cells (rowH [E2 (((n / 16) / 16) / 16),E2 (((n / 16) / 16) % 16),E2 ((n / 16) % 16),E2 (n % 16)]) 145 (0,0))]::H)) (hoff:=(by rw [M6 (by simp)]; exact Nat.le_of_ble_eq_true rfl)) (hfz:=(fun _ _=>L3)) (hc':=O2 _ [E2 (((n / 16) / 16) % 16),E2 ((n / 16) % 16),E2 (n % 16)] (by simp)) (k:=?_))
     refine B8 (E':=[⟨0,[],.slice none 0 0⟩,⟨3,[],.bool false⟩,⟨4,[],.bool false⟩,⟨10,[],.slice none 0 0⟩,⟨11,[],.string (ByteArray.mk #[])⟩,⟨12,[],pt B⟩,⟨13,[],.int .i64 61⟩]) [] [0,3,4,10,11,12,13] (k:=A0 ?_)
     refine A1 (A1 ?_)
     refine G_p [0] [0,4,10,11,12,13,89] (k:=A0 ?_)
     refine D7 kr (A7 ?_)
     refine A0 (A1 ?_)
     refine A1 (G_p [0] [0,10,11,12,13,94] (k:=?_))
     refine A0 (D7 kr ?_)
     refine A7 (A0 ?_)
     refine A1 (A2 ?_)
     refine A6 (j:=1) [0] (k:=O6 (ch:=[]) (b:=B) (off:=0) (len:=65) (sz:=1) (e:=5) (vl:=(some (.int .i64 61))) (vh:=none) (l:=61) (h:=65) (hb:=(fun _=>by decide)) (k:=?_))
     refine H4 (ch:=[]) (a:=⟨B,61,none⟩) (cap:=4) (e:=5) (S:=inG [(B,.cells (rowH [E2 (((n / 16) / 16) / 16),E2 (((n / 16) / 16) % 16),E2 ((n / 16) % 16),E2 (n % 16)]) 145 (0,0))]) [E2 (((n / 16) / 16) / 16),E2 (((n / 16) / 16) % 16),E2 ((n / 16) % 16),E2 (n % 16)] (hrd:=rowH_rd [E2 (((n / 16) / 16) / 16),E2 (((n / 16) / 16) % 16),E2 ((n / 16) % 16),E2 (n % 16)] (by simp) (by simp)) (hS:=D2 0 rfl) (k:=B0 [0] [10,11] (k:=?_))
     refine A0 (B6 ?_)
     refine C9 (H':=H) (fun w h=>(h.erase 0)) (B5 [.tmp 10,.tmp 11] [.slice none 0 0,.string ⟨[E2 (((n / 16) / 16) / 16),E2 (((n / 16) / 16) % 16),E2 ((n / 16) % 16),E2 (n % 16)].toArray⟩] (k:=?_))
     exact ⟨by unfold O4; rw [if_neg (by omega),if_neg (by omega),if_neg (by omega)]; rfl,rfl⟩
   ·
    simp only [ge_iff_le,decide_eq_false_iff_not] at hc5
    refine F7 (A8 ?_)
    refine A8 (C2 ?_)
    refine A0 (A1 ?_)
    refine G_p [0,0,0] [0,1,3,4,10,11,12,13] (k:=A0 ?_)
    refine A2 (A6 (j:=2) [0,0] (k:=?_))
    refine C0 (ch:=[]) (s:=(ByteArray.mk #[48,49,50,51,52,53,54,55,56,57,97,98,99,100,101,102,103,104,105,106,107,108,109,110,111,112,113,114,115,116,117,118,119,120,121,122])) (kd:=.u64) (j:=((n / 16) / 16)) (hb:=(by intro _; exact ⟨by omega,by show _<(36:Int); omega⟩)) (k:=?_)
    have hb9:=C7 (ByteArray.mk #[48,49,50,51,52,53,54,55,56,57,97,98,99,100,101,102,103,104,105,106,107,108,109,110,111,112,113,114,115,116,117,118,119,120,121,122]) ((n / 16) / 16)
    refine E0 (ch:=[]) (b:=B) (off:=0) (len:=65) (sz:=1) (e:=5) (kd:=.i64) (j:=62) (hb:=(fun _=>⟨by decide,by decide⟩)) (k:=M0 (ch:=[]) (b:=B) (off:=62) (v:=.int .u8 ((E2 ((n / 16) / 16)).toNat:Int)) (c:=rowH [E2 ((n / 16) % 16),E2 (n % 16)]) (c':=rowH [E2 ((n / 16) / 16),E2 ((n / 16) % 16),E2 (n % 16)]) (j:=0) (m:=0) (H':=([(B,.cells (rowH [E2 ((n / 16) / 16),E2 ((n / 16) % 16),E2 (n % 16)]) 145 (0,0))]::H)) (hoff:=(by rw [M6 (by simp)]; exact Nat.le_of_ble_eq_true rfl)) (hfz:=(fun _ _=>L3)) (hc':=O2 _ [E2 ((n / 16) % 16),E2 (n % 16)] (by simp)) (k:=?_))
    refine B0 [] [0,3,4,10,11,12,13] (k:=A0 ?_)
    refine A1 (A1 ?_)
    refine G_p [0] [0,4,10,11,12,13,89] (k:=A0 ?_)
    refine D7 kr (A7 ?_)
    refine A0 (A1 ?_)
    refine A1 (G_p [0] [0,10,11,12,13,94] (k:=?_))
    refine A0 (D7 kr ?_)
    refine A7 (A0 ?_)
    refine A1 (A2 ?_)
    refine A6 (j:=1) [0] (k:=O6 (ch:=[]) (b:=B) (off:=0) (len:=65) (sz:=1) (e:=5) (vl:=(some (.int .i64 62))) (vh:=none) (l:=62) (h:=65) (hb:=(fun _=>by decide)) (k:=?_))
    refine H4 (ch:=[]) (a:=⟨B,62,none⟩) (cap:=3) (e:=5) (S:=inG [(B,.cells (rowH [E2 ((n / 16) / 16),E2 ((n / 16) % 16),E2 (n % 16)]) 145 (0,0))]) [E2 ((n / 16) / 16),E2 ((n / 16) % 16),E2 (n % 16)] (hrd:=rowH_rd [E2 ((n / 16) / 16),E2 ((n / 16) % 16),E2 (n % 16)] (by simp) (by simp)) (hS:=D2 0 rfl) (k:=B0 [0] [10,11] (k:=?_))
    refine A0 (B6 ?_)
    refine C9 (H':=H) (fun w h=>(h.erase 0)) (B5 [.tmp 10,.tmp 11] [.slice none 0 0,.string ⟨[E2 ((n / 16) / 16),E2 ((n / 16) % 16),E2 (n % 16)].toArray⟩] (k:=?_))
    exact ⟨by unfold O4; rw [if_neg (by omega),if_neg (by omega),if_pos (by omega)]; rfl,rfl⟩
  ·
   simp only [ge_iff_le,decide_eq_false_iff_not] at hc3
   refine F7 (A8 ?_)
   refine A8 (C2 ?_)
   refine A0 (A1 ?_)
   refine G_p [0,0,0] [0,1,3,4,10,11,12,13] (k:=A0 ?_)
   refine A2 (A6 (j:=2) [0,0] (k:=?_))
   refine C0 (ch:=[]) (s:=(ByteArray.mk #[48,49,50,51,52,53,54,55,56,57,97,98,99,100,101,102,103,104,105,106,107,108,109,110,111,112,113,114,115,116,117,118,119,120,121,122])) (kd:=.u64) (j:=(n / 16)) (hb:=(by intro _; exact ⟨by omega,by show _<(36:Int); omega⟩)) (k:=?_)
   have hb10:=C7 (ByteArray.mk #[48,49,50,51,52,53,54,55,56,57,97,98,99,100,101,102,103,104,105,106,107,108,109,110,111,112,113,114,115,116,117,118,119,120,121,122]) (n / 16)
   refine E0 (ch:=[]) (b:=B) (off:=0) (len:=65) (sz:=1) (e:=5) (kd:=.i64) (j:=63) (hb:=(fun _=>⟨by decide,by decide⟩)) (k:=M0 (ch:=[]) (b:=B) (off:=63) (v:=.int .u8 ((E2 (n / 16)).toNat:Int)) (c:=rowH [E2 (n % 16)]) (c':=rowH [E2 (n / 16),E2 (n % 16)]) (j:=0) (m:=0) (H':=([(B,.cells (rowH [E2 (n / 16),E2 (n % 16)]) 145 (0,0))]::H)) (hoff:=(by rw [M6 (by simp)]; exact Nat.le_of_ble_eq_true rfl)) (hfz:=(fun _ _=>L3)) (hc':=O2 _ [E2 (n % 16)] (by simp)) (k:=?_))
   refine B0 [] [0,3,4,10,11,12,13] (k:=A0 ?_)
   refine A1 (A1 ?_)
   refine G_p [0] [0,4,10,11,12,13,89] (k:=A0 ?_)
   refine D7 kr (A7 ?_)
   refine A0 (A1 ?_)
   refine A1 (B3 (E':=[⟨0,[],.slice none 0 0⟩,⟨10,[],.slice none 0 0⟩,⟨11,[],.string (ByteArray.mk #[])⟩,⟨12,[],pt B⟩,⟨13,[],.int .i64 63⟩,⟨94,[],.bool false⟩]) [0] [0,10,11,12,13,94] (k:=?_))
   refine A0 (D7 kr ?_)
   refine A7 (A0 ?_)
   refine A1 (A2 ?_)
   refine A6 (j:=1) [0] (k:=O6 (ch:=[]) (b:=B) (off:=0) (len:=65) (sz:=1) (e:=5) (vl:=(some (.int .i64 63))) (vh:=none) (l:=63) (h:=65) (hb:=(fun _=>by decide)) (k:=?_))
   refine H4 (ch:=[]) (a:=⟨B,63,none⟩) (cap:=2) (e:=5) (S:=inG [(B,.cells (rowH [E2 (n / 16),E2 (n % 16)]) 145 (0,0))]) [E2 (n / 16),E2 (n % 16)] (hrd:=rowH_rd [E2 (n / 16),E2 (n % 16)] (by simp) (by simp)) (hS:=D2 0 rfl) (k:=B0 [0] [10,11] (k:=?_))
   refine A0 (B6 ?_)
   refine C9 (H':=H) (fun w h=>(h.erase 0)) (B5 [.tmp 10,.tmp 11] [.slice none 0 0,.string ⟨[E2 (n / 16),E2 (n % 16)].toArray⟩] (k:=?_))
   exact ⟨by unfold O4; rw [if_neg (by omega),if_pos (by omega)]; rfl,rfl⟩
 ·
  simp only [ge_iff_le,decide_eq_false_iff_not] at hc1
  refine F7 (A8 ?_)
  refine A8 (C2 ?_)
  refine A0 (A1 ?_)
  refine G_p [0,0,0] [0,1,3,4,10,11,12,13] (k:=A0 ?_)
  refine A2 (A6 (j:=2) [0,0] (k:=?_))
  refine C0 (ch:=[]) (s:=(ByteArray.mk #[48,49,50,51,52,53,54,55,56,57,97,98,99,100,101,102,103,104,105,106,107,108,109,110,111,112,113,114,115,116,117,118,119,120,121,122])) (kd:=.u64) (j:=n) (hb:=(by intro _; exact ⟨by omega,by show _<(36:Int); omega⟩)) (k:=?_)
  have hb11:=C7 (ByteArray.mk #[48,49,50,51,52,53,54,55,56,57,97,98,99,100,101,102,103,104,105,106,107,108,109,110,111,112,113,114,115,116,117,118,119,120,121,122]) n
  refine E0 (ch:=[]) (b:=B) (off:=0) (len:=65) (sz:=1) (e:=5) (kd:=.i64) (j:=64) (hb:=(fun _=>⟨by decide,by decide⟩)) (k:=M0 (ch:=[]) (b:=B) (off:=64) (v:=.int .u8 ((E2 n).toNat:Int)) (c:=rowH []) (c':=rowH [E2 n]) (j:=0) (m:=0) (H':=([(B,.cells (rowH [E2 n]) 145 (0,0))]::H)) (hoff:=(by rw [M6 (by simp)]; exact Nat.le_of_ble_eq_true rfl)) (hfz:=(fun _ _=>L3)) (hc':=O2 _ [] (by simp)) (k:=?_))
  refine B8 (E':=[⟨0,[],.slice none 0 0⟩,⟨3,[],.bool false⟩,⟨4,[],.bool false⟩,⟨10,[],.slice none 0 0⟩,⟨11,[],.string (ByteArray.mk #[])⟩,⟨12,[],pt B⟩,⟨13,[],.int .i64 64⟩]) [] [0,3,4,10,11,12,13] (k:=A0 ?_)
  refine A1 (A1 ?_)
  refine G_p [0] [0,4,10,11,12,13,89] (k:=A0 ?_)
  refine D7 kr (A7 ?_)
  refine A0 (A1 ?_)
  refine A1 (G_p [0] [0,10,11,12,13,94] (k:=?_))
  refine A0 (D7 kr ?_)
  refine A7 (A0 ?_)
  refine A1 (A2 ?_)
  refine A6 (j:=1) [0] (k:=O6 (ch:=[]) (b:=B) (off:=0) (len:=65) (sz:=1) (e:=5) (vl:=(some (.int .i64 64))) (vh:=none) (l:=64) (h:=65) (hb:=(fun _=>by decide)) (k:=?_))
  refine H4 (ch:=[]) (a:=⟨B,64,none⟩) (cap:=1) (e:=5) (S:=inG [(B,.cells (rowH [E2 n]) 145 (0,0))]) [E2 n] (hrd:=rowH_rd [E2 n] (by simp) (by simp)) (hS:=D2 0 rfl) (k:=B0 [0] [10,11] (k:=?_))
  refine A0 (B6 ?_)
  refine C9 (H':=H) (fun w h=>(h.erase 0)) (B5 [.tmp 10,.tmp 11] [.slice none 0 0,.string ⟨[E2 n].toArray⟩] (k:=?_))
  exact ⟨by unfold O4; rw [if_pos (by omega)]; rfl,rfl⟩
theorem fint0_ (n:Int) (h0:0≤n) (h1:n<65536) (W0:World) (H:List Grp) (hW:I2 W0):Tri Tryz.prog 67 #[.int .i64 n,.int .i64 16] W0 H (fun v H'=>v=.string ⟨(O4 n).toArray⟩∧H'=H):=by
 refine D1 (args:=[.int .i64 n,.int .i64 16]) (n:=54) Tryz.func67 rfl rfl (Nat.le_of_ble_eq_true rfl) ?_
 refine A1 (G_p [0] [0,1] (k:=?_))
 refine A0 (A1 ?_)
 refine A1 (G_p [0,0] [0,1,11] (k:=?_))
 refine A0 (D7 kr ?_)
 refine A7 (A0 ?_)
 refine A1 ?_
 have hw1:IntKind.wrap .u64 n=n:=w64u (by omega) (by omega)
 refine A2 (C1 (E':=[⟨49,[],.bool (decide (n<0))⟩,⟨47,[],.int .i64 16⟩,⟨46,[],.int .u64 n⟩]) [0,0,0,0,0] (Eq.trans (b:=some [⟨49,[],.bool (decide (n<0))⟩,⟨47,[],.int .i64 16⟩,⟨46,[],.int .u64 (IntKind.wrap .u64 n)⟩]) kr (by simp only [hw1])) (j:=5) rfl ?_)
 refine C8 (E':=[⟨49,[],.bool false⟩,⟨47,[],.int .i64 16⟩,⟨46,[],.int .u64 n⟩]) (by rw [show decide (n<0)=false from decide_eq_false (by omega)]) (F2 Tryz.func85 (fbits_ n (by omega) (by omega) _ _ hW) ?_)
 rintro _ _ ⟨rfl,rfl⟩
 refine B8 (E':=[⟨9,[],.string (bk (O4 n))⟩]) [0,0,0,0,0] [9] (k:=A0 ?_)
 refine A1 (B3 (E':=[⟨4,[],.string (bk (O4 n))⟩]) [0,0] [4] (k:=?_))
 refine A0 (B6 ?_)
 refine B5 [.tmp 4] [.string (bk (O4 n))] (k:=?_)
 exact ⟨rfl,rfl⟩
theorem fint_ (n:Int) (h0:0≤n) (h1:n<65536) (W0:World) (H:List Grp) (hW:I2 W0):Tri Tryz.prog 53 #[.int .i64 n,.int .i64 16] W0 H (fun v H'=>v=.string ⟨(O4 n).toArray⟩∧H'=H):=by
 refine D1 (args:=[.int .i64 n,.int .i64 16]) (n:=8) Tryz.func53 rfl rfl (Nat.le_of_ble_eq_true rfl) ?_
 refine A1 (G_p [0] [0,1] (k:=?_))
 refine A0 (A1 ?_)
 refine A2 (A6 (j:=2) [0,0] (k:=?_))
 refine F2 Tryz.func67 (fint0_ n (by omega) (by omega) _ _ hW) ?_
 rintro _ _ ⟨rfl,rfl⟩
 refine B8 (E':=[⟨4,[],.string (bk (O4 n))⟩]) [0] [4] (k:=A0 ?_)
 refine B6 (B5 [.tmp 4] [.string (bk (O4 n))] (k:=?_))
 exact ⟨rfl,rfl⟩
theorem rep0 (s:ByteArray) (c:Nat) (hs:s.size=1) (hc:c≤1000) (W0:World) (H:List Grp):Tri Tryz.prog 54 #[.string s,.int .i64 c] W0 H (fun v H'=>v=.string ⟨(Lib.repeatL s.data.toList c).toArray⟩∧H'=H) :=
  Tri_below (fun w _=>Tryz.strings_Repeat s c w (by omega) (by rw [hs]; omega))
theorem rep48 (c:Nat):Lib.repeatL [48] c=List.replicate c 48:=by
  induction c with
  | zero=>rfl
  | succ c ih=>first | (rw [List.replicate_succ,← ih]; rfl) | (simp [Lib.repeatL] at ih ⊢; try exact ih)
theorem hexD_size (n:Int):(bk (O4 n)).size=(O4 n).length:=by simp [ByteArray.size]
theorem four_ (n:Int) (h0:0≤n) (h1:n<65536) (W0:World) (H:List Grp) (hW:I2 W0):Tri Tryz.prog 35 #[.int .i64 n] W0 H (fun v H'=>v=.string ⟨(92::117::hex4 n.toNat).toArray⟩∧H'=H):=by
 have hhl:=hexD_len n
 have hsz:=hexD_size n
 have hsub:(4:Int) - ((bk (O4 n)).size:Int)=((4 - (O4 n).length:Nat):Int):=by rw [hsz]; omega
 have hz2:(bk (Lib.repeatL (ByteArray.mk #[48]).data.toList (4 - (O4 n).length))).size=4 - (O4 n).length:=by rw [I7,show (ByteArray.mk #[48]).data.toList=[48] from rfl,rep48,List.length_replicate]
 have hz3:(ByteArray.mk #[92,117]).size=2:=rfl
 refine D1 (args:=[.int .i64 n]) (n:=13) Tryz.func35 rfl rfl (Nat.le_of_ble_eq_true rfl) ?_
 refine A1 (B3 (E':=[⟨0,[],.int .i64 n⟩]) [0] [0] (k:=?_))
 refine A0 (A1 ?_)
 refine A2 (A6 (j:=1) [0] (k:=?_))
 refine F2 Tryz.func53 (fint_ n (by omega) (by omega) _ _ hW) ?_
 rintro _ _ ⟨rfl,rfl⟩
 refine B8 (E':=[⟨3,[],.string (bk (O4 n))⟩]) [0] [3] (k:=A0 ?_)
 refine A1 ?_
 have hw1:IntKind.wrap .i64 (4 - ((bk (O4 n)).size:Int))=4 - ((bk (O4 n)).size:Int):=w64 (by omega) (by omega)
 refine A2 (C1 (E':=[⟨8,[],.int .i64 (4 - ((bk (O4 n)).size:Int))⟩,⟨3,[],.string (bk (O4 n))⟩]) [0,0,0] (Eq.trans (b:=some [⟨8,[],.int .i64 (IntKind.wrap .i64 (4 - ((bk (O4 n)).size:Int)))⟩,⟨3,[],.string (bk (O4 n))⟩]) kr (by simp only [hw1])) (j:=3) rfl ?_)
 refine C8 (E':=[⟨8,[],.int .i64 ((4 - (O4 n).length:Nat):Int)⟩,⟨3,[],.string (bk (O4 n))⟩]) (by rw [hsub]) (F2 Tryz.func54 (rep0 (ByteArray.mk #[48]) (4 - (O4 n).length) rfl (by omega) _ _) ?_)
 rintro _ _ ⟨rfl,rfl⟩
 refine F5 (ch:=[]) (s:=(ByteArray.mk #[92,117])) (u:=⟨(Lib.repeatL (ByteArray.mk #[48]).data.toList (4 - (O4 n).length)).toArray⟩) (hb:=(by intro _; simp only [hz2,hz3]; omega)) (k:=A6 (j:=6) [0] (k:=?_))
 refine F5 (ch:=[]) (s:=(ByteArray.mk #[92,117])++⟨(Lib.repeatL (ByteArray.mk #[48]).data.toList (4 - (O4 n).length)).toArray⟩) (u:=(bk (O4 n))) (hb:=(by intro _; simp only [E5,hz2,hz3,hsz]; omega)) (k:=B0 [0] [2] (k:=?_))
 refine A0 (B6 ?_)
 refine B5 [.tmp 2] [.string (((ByteArray.mk #[92,117])++⟨(Lib.repeatL (ByteArray.mk #[48]).data.toList (4 - (O4 n).length)).toArray⟩)++(bk (O4 n)))] (k:=?_)
 exact ⟨congrArg Value.string (ba_eq (by rw [D4,D4,← hexD_pad h0 h1,← rep48]; rfl)),rfl⟩
end Go.Proofs.YtbnfbffiehoapaaGreatDoor
namespace Go.Proofs.YtbnfbffiehoapaaGreatDoor
open Go.Sw Go.Sha Go.Esc Go.RowKit
theorem idx4:∀ n:Fin 256,decide (bIdx (ByteArray.mk #[45,46,95,126]) (n.val:Int) ≥ 0)=(decide (n.val=45)||decide (n.val=46)||decide (n.val=95)||decide (n.val=126)):=by decide +kernel
theorem idx4_iff (b:UInt8):bIdx (ByteArray.mk #[45,46,95,126]) (b.toNat:Int) ≥ 0 ↔ ((b.toNat:Int)=45∨(b.toNat:Int)=46∨(b.toNat:Int)=95∨(b.toNat:Int)=126):=by
  have:=idx4 ⟨b.toNat,b.toNat_lt⟩
  dsimp only at this
  have h:=congrArg (·=true) this
  simp only [decide_eq_true_eq,Bool.or_eq_true,eq_iff_iff] at h
  rw [h]; omega
theorem and15b:∀ n:Fin 256,IntKind.wrap .u8 ((BitVec.ofInt (IntKind.bits .u8) (n.val:Int) &&& BitVec.ofInt (IntKind.bits .u8) 15).toNat)=(n.val:Int) % 16:=by decide +kernel
theorem and15c (b:UInt8):IntKind.wrap .u8 ((BitVec.ofInt (IntKind.bits .u8) (b.toNat:Int) &&& BitVec.ofInt (IntKind.bits .u8) 15).toNat)=(b.toNat:Int) % 16:=and15b ⟨b.toNat,b.toNat_lt⟩
theorem json_ (s:ByteArray) (hs:s.size≤1000000000) (W0:World) (H:List Grp) (hW:I2 W0):Tri Tryz.prog 14 #[.string s] W0 H (fun v H'=>v=.string ⟨(H5 s.data.toList).toArray⟩∧H'=H):=by
 refine D1 (args:=[.string s]) (n:=69) Tryz.func14 rfl rfl (Nat.le_of_ble_eq_true rfl) ?_
 refine A1 (B3 (E':=[⟨0,[],.string s⟩]) [0] [0] (k:=?_))
 refine A0 (A1 ?_)
 refine A2 (O7 (ch:=[]) (z:=.agg #[.pointer none,.slice none 0 0]) (k:=(fun b1=>?_)))
 refine GL_heap rfl (H':=([(b1,.cells #[.pointer none,.slice none 0 0] 39 (0,0))]::[]::H)) (fun w h=>h.flat (List.Perm.refl _)) (B8 (E':=[⟨0,[],.string s⟩,⟨3,[],pt b1⟩]) [] [0,3] (k:=?_))
 refine A0 (A1 ?_)
 refine A2 (F2 (vs:=[pt b1,.int .u8 34]) Tryz.func31 (I6 b1 (.pointer none) (.slice none 0 0) [] .empty (Nat.toUInt8 34) bld0 bown0 (by show 0+1≤_; omega) _ _) ?_)
 rintro _ _ ⟨v2,g3,hB4,rfl⟩
 refine B8 (E':=[⟨0,[],.string s⟩,⟨3,[],pt b1⟩]) [] [0,3] (k:=A0 ?_)
 refine A1 (A1 ?_)
 refine A2 (A6 (j:=1) [0] (k:=?_))
 refine GL_rangeS (i:=1) (ch:=[]) (s:=s) rfl rfl kr kr kr kr kr (fun it5=>B8 (E':=[⟨3,[],pt b1⟩,⟨8,[],pt it5⟩]) [] [3,8] (k:=?_))
 refine A0 (B4 ?_)
 refine G_heap (H':=([(b1,.cells #[pt b1,v2] 39 (0,0))]::g3::[(it5,.stringIter s 0)]::H)) (fun w h=>((h.front (j:=2) rfl).front (j:=2) rfl)) (I8 (EI:=(fun ξ:Value × Value × Grp × ByteArray × Nat=>[⟨3,[],pt b1⟩,⟨8,[],pt it5⟩])) (HI:=(fun ξ:Value × Value × Grp × ByteArray × Nat=>([(b1,.cells #[ξ.1,ξ.2.1] 39 (0,0))]::ξ.2.2.1::[(it5,.stringIter s ξ.2.2.2.2)]::H))) (Φ:=(fun ξ:Value × Value × Grp × ByteArray × Nat=>(Bld b1 ξ.1)∧(BOwn ξ.2.1 ξ.2.2.1 ξ.2.2.2.1)∧(ξ.2.2.2.2≤s.size)∧(ξ.2.2.2.1.data.toList++((A4 (s.data.toList.drop ξ.2.2.2.2)).flatMap I0++[34])=H5 s.data.toList))) (μ:=(fun ξ:Value × Value × Grp × ByteArray × Nat=>s.size - ξ.2.2.2.2)) (s0:=(pt b1,v2,g3,(.empty++⟨#[Nat.toUInt8 34]⟩),0)) [3,8] kr rfl ⟨bld1,hB4,(by (try dsimp only); omega),(by rfl)⟩ ?_)
 rintro ⟨p,v,g,t,q⟩ ⟨hbp,hB,hq,hT⟩
 dsimp only at hbp hB hq hT
 have ht:t.size≤6 * s.size+2:=by
  have h1:=congrArg List.length hT
  have h2:=json_len s.data.toList
  rw [List.length_append,B7] at h1
  rw [B7] at h2
  omega
 refine A1 (A2 ?_)
 refine GL_nextS (i:=0) (ch:=[]) (it:=it5) (p:=q) (s:=s) (j:=2) rfl rfl kr kr kr kr rfl (fun hend6=>?_) (fun hmore7=>?_)
 ·
  have hxe:=hend6
  refine B0 [0] [3,8,9,10] (k:=A0 ?_)
  refine A1 (D7 kr ?_)
  refine F7 (A8 ?_)
  refine A8 (C2 ?_)
  refine A0 (A1 ?_)
  refine A2 (F2 Tryz.func31 (I6 b1 (p) (v) g t (Nat.toUInt8 34) hbp hB (by omega) _ _) ?_)
  rintro _ _ ⟨v8,g9,hB10,rfl⟩
  refine B8 (E':=[⟨3,[],pt b1⟩]) [] [3] (k:=A0 ?_)
  refine A1 (A2 ?_)
  refine F2 Tryz.func29 (J8 b1 (pt b1) (v8) g9 (t++⟨#[Nat.toUInt8 34]⟩) hB10 (by (try simp only [E5,sz1]); omega) _ _) ?_
  rintro _ _ ⟨rfl,rfl⟩
  refine B0 [0] [2] (k:=A0 ?_)
  refine B6 (C9 (H':=H) (fun w h=>((h.erase 1).erase 0)) ?_)
  refine B5 [.tmp 2] [.string (t++⟨#[Nat.toUInt8 34]⟩)] (k:=?_)
  exact ⟨congrArg Value.string (ba_eq (by rw [D4,← hT,runes_end (by omega)]; rfl)),rfl⟩
 ·
  have hdc:=dc_rng s q
  have hxm:=hmore7
  refine B0 [0] [3,8,9,10] (k:=A0 ?_)
  refine A1 (C6 kr ?_)
  refine A7 (A0 ?_)
  refine B4 (A1 ?_)
  refine G_p [0,0] [3,5,8] (k:=A0 ?_)
  refine B4 (A1 ?_)
  refine G_p [0,0,0,0,0,5,0] [3,5,8,14] (k:=A0 ?_)
  refine B1 (b:=((dcR s q)==34)||((dcR s q)==92)) kr (fun hc11=>?_) (fun hc11=>?_)
  ·
   simp only [Bool.or_eq_true,beq_iff_eq] at hc11
   have hj:I0 (dcR s q)=92::Lib.encodeRune (dcR s q):=by unfold I0; rw [if_pos (by omega)]
   refine A1 (A2 ?_)
   refine F2 Tryz.func31 (I6 b1 (p) (v) g t (Nat.toUInt8 92) hbp hB (by omega) _ _) ?_
   rintro _ _ ⟨v12,g13,hB14,rfl⟩
   refine B0 [] [3,5,8] (k:=A0 ?_)
   refine A2 (A6 (j:=1) [0] (k:=?_))
   refine F2 (vs:=[pt b1,.int .i32 (dcR s q)]) Tryz.func32 (writeRune b1 (pt b1) (v12) g13 (t++⟨#[Nat.toUInt8 92]⟩) (dcR s q) bld1 hB14 (isR_dc _ _) (by simp only [E5]; have h2:(⟨#[Nat.toUInt8 92]⟩:ByteArray).size=1:=rfl; omega) _ _) ?_
   rintro _ _ ⟨v15,g16,hB17,rfl⟩
   refine B8 (E':=[⟨3,[],pt b1⟩,⟨8,[],pt it5⟩]) [] [3,8] (k:=B2 ?_)
   refine B2 (D8 (s':=(pt b1,v15,g16,((t++⟨#[Nat.toUInt8 92]⟩)++encB (dcR s q)),q+dcW s q)) [3,8] kr rfl ⟨bld1,hB17,(dcW_le hxm),(by dsimp only; rw [← hT,N1 hxm,List.flatMap_cons,hj]; (try simp only [D4,H3,List.append_assoc]) <;> rfl)⟩ (by (try dsimp only); omega))
  ·
   simp only [Bool.or_eq_false_iff,beq_eq_false_iff_ne] at hc11
   refine A1 (G_p [0,0,0] [3,5,8,24] (k:=?_))
   refine A0 (B1 (b:=(dcR s q)==10) kr (fun hc18=>?_) (fun hc18=>?_))
   ·
    simp only [beq_iff_eq] at hc18
    have hj:I0 (dcR s q)=[92,110]:=by unfold I0; rw [if_neg (by omega),if_pos (by omega)]
    refine A2 (F2 Tryz.func28 (J3 b1 (p) (v) g t (ByteArray.mk #[92,110]) hbp hB (by have h2:(ByteArray.mk #[92,110]).size=2:=rfl; omega) _ _) ?_)
    rintro _ _ ⟨v19,g20,hB21,rfl⟩
    refine B8 (E':=[⟨3,[],pt b1⟩,⟨8,[],pt it5⟩]) [] [3,8] (k:=B2 ?_)
    refine B2 (D8 (s':=(pt b1,v19,g20,(t++(ByteArray.mk #[92,110])),q+dcW s q)) [3,8] kr rfl ⟨bld1,hB21,(dcW_le hxm),(by dsimp only; rw [← hT,N1 hxm,List.flatMap_cons,hj]; (try simp only [D4,List.append_assoc]) <;> rfl)⟩ (by (try dsimp only); omega))
   ·
    simp only [beq_eq_false_iff_ne] at hc18
    refine A1 (G_p [0,0,0] [3,5,8,28] (k:=?_))
    refine A0 (B1 (b:=(dcR s q)==13) kr (fun hc22=>?_) (fun hc22=>?_))
    ·
     simp only [beq_iff_eq] at hc22
     have hj:I0 (dcR s q)=[92,114]:=by unfold I0; rw [if_neg (by omega),if_neg (by omega),if_pos (by omega)]
     refine A2 (F2 Tryz.func28 (J3 b1 (p) (v) g t (ByteArray.mk #[92,114]) hbp hB (by have h2:(ByteArray.mk #[92,114]).size=2:=rfl; omega) _ _) ?_)
     rintro _ _ ⟨v23,g24,hB25,rfl⟩
     refine B8 (E':=[⟨3,[],pt b1⟩,⟨8,[],pt it5⟩]) [] [3,8] (k:=B2 ?_)
     refine B2 (D8 (s':=(pt b1,v23,g24,(t++(ByteArray.mk #[92,114])),q+dcW s q)) [3,8] kr rfl ⟨bld1,hB25,(dcW_le hxm),(by dsimp only; rw [← hT,N1 hxm,List.flatMap_cons,hj]; (try simp only [D4,List.append_assoc]) <;> rfl)⟩ (by (try dsimp only); omega))
    ·
     simp only [beq_eq_false_iff_ne] at hc22
     refine A1 (B3 (E':=[⟨3,[],pt b1⟩,⟨5,[],.int .i32 (dcR s q)⟩,⟨8,[],pt it5⟩,⟨32,[],.bool ((dcR s q)==9)⟩]) [0,0,0] [3,5,8,32] (k:=?_))
     refine A0 (B1 (b:=(dcR s q)==9) kr (fun hc26=>?_) (fun hc26=>?_))
     ·
      simp only [beq_iff_eq] at hc26
      have hj:I0 (dcR s q)=[92,116]:=by unfold I0; rw [if_neg (by omega),if_neg (by omega),if_neg (by omega),if_pos (by omega)]
      refine A2 (F2 Tryz.func28 (J3 b1 (p) (v) g t (ByteArray.mk #[92,116]) hbp hB (by have h2:(ByteArray.mk #[92,116]).size=2:=rfl; omega) _ _) ?_)
      rintro _ _ ⟨v27,g28,hB29,rfl⟩
      refine B8 (E':=[⟨3,[],pt b1⟩,⟨8,[],pt it5⟩]) [] [3,8] (k:=B2 ?_)
      refine B2 (D8 (s':=(pt b1,v27,g28,(t++(ByteArray.mk #[92,116])),q+dcW s q)) [3,8] kr rfl ⟨bld1,hB29,(dcW_le hxm),(by dsimp only; rw [← hT,N1 hxm,List.flatMap_cons,hj]; (try simp only [D4,List.append_assoc]) <;> rfl)⟩ (by (try dsimp only); omega))
     ·
      simp only [beq_eq_false_iff_ne] at hc26
      refine A1 (G_p [0,0,0,0,0,5,0,0,0,5,0,0,0,5,0,0,0,5,0,0,0,5,0,0,0,5,0] [3,5,8,36] (k:=?_))
      refine A0 (B1 (b:=((((((decide ((dcR s q)<32))||((dcR s q)==127))||((dcR s q)==8232))||((dcR s q)==8233))||((dcR s q)==60))||((dcR s q)==62))||((dcR s q)==38)) kr (fun hc30=>?_) (fun hc30=>?_))
      ·
       simp only [Bool.or_eq_true,decide_eq_true_eq,beq_iff_eq] at hc30
       have hj:I0 (dcR s q)=92::117::hex4 (Int.toNat (dcR s q)):=by unfold I0; rw [if_neg (by omega),if_neg (by omega),if_neg (by omega),if_neg (by omega),if_pos (by omega)]
       refine A2 (A6 (j:=2) [0,0] (k:=?_))
       refine C3 64 (dcR s q) (by omega) (by omega) kr (F2 Tryz.func35 (four_ (dcR s q) (by omega) (by omega) _ _ hW) ?_)
       rintro _ _ ⟨rfl,rfl⟩
       refine F2 (vs:=[pt b1,.string (bk (92::117::hex4 (Int.toNat (dcR s q))))]) Tryz.func28 (J3 b1 (p) (v) g t (bk (92::117::hex4 (Int.toNat (dcR s q)))) hbp hB (by have h6:(bk (92::117::hex4 (Int.toNat (dcR s q)))).size=6:=(I7 _).trans rfl; omega) _ _) ?_
       rintro _ _ ⟨v32,g33,hB34,rfl⟩
       refine B8 (E':=[⟨3,[],pt b1⟩,⟨8,[],pt it5⟩]) [] [3,8] (k:=B2 ?_)
       refine B2 (D8 (s':=(pt b1,v32,g33,(t++(bk (92::117::hex4 (Int.toNat (dcR s q))))),q+dcW s q)) [3,8] kr rfl ⟨bld1,hB34,(dcW_le hxm),(by dsimp only; rw [← hT,N1 hxm,List.flatMap_cons,hj]; (try simp only [D4,List.append_assoc]) <;> rfl)⟩ (by (try dsimp only); omega))
      ·
       simp only [Bool.or_eq_false_iff,decide_eq_false_iff_not,beq_eq_false_iff_ne] at hc30
       have hj:I0 (dcR s q)=Lib.encodeRune (dcR s q):=by unfold I0; rw [if_neg (by omega),if_neg (by omega),if_neg (by omega),if_neg (by omega),if_neg (by omega)]
       refine A2 (A6 (j:=1) [0] (k:=?_))
       refine F2 (vs:=[pt b1,.int .i32 (dcR s q)]) Tryz.func32 (writeRune b1 (p) (v) g t (dcR s q) hbp hB (isR_dc _ _) (by omega) _ _) ?_
       rintro _ _ ⟨v35,g36,hB37,rfl⟩
       refine B8 (E':=[⟨3,[],pt b1⟩,⟨8,[],pt it5⟩]) [] [3,8] (k:=B2 ?_)
       refine B2 (D8 (s':=(pt b1,v35,g36,(t++encB (dcR s q)),q+dcW s q)) [3,8] kr rfl ⟨bld1,hB37,(dcW_le hxm),(by dsimp only; rw [← hT,N1 hxm,List.flatMap_cons,hj]; (try simp only [D4,H3,List.append_assoc]) <;> rfl)⟩ (by (try dsimp only); omega))
theorem percent_ (s:ByteArray) (hs:s.size≤1000000000) (W0:World) (H:List Grp):Tri Tryz.prog 21 #[.string s] W0 H (fun v H'=>v=.string ⟨(percL s.data.toList).toArray⟩∧H'=H):=by
 refine D1 (args:=[.string s]) (n:=54) Tryz.func21 rfl rfl (Nat.le_of_ble_eq_true rfl) ?_
 refine A1 (B3 (E':=[⟨0,[],.string s⟩]) [0] [0] (k:=?_))
 refine A0 (A1 ?_)
 refine A2 (O7 (ch:=[]) (z:=.agg #[.pointer none,.slice none 0 0]) (k:=(fun b1=>?_)))
 refine GL_heap rfl (H':=([(b1,.cells #[.pointer none,.slice none 0 0] 39 (0,0))]::[]::H)) (fun w h=>h.flat (List.Perm.refl _)) (B8 (E':=[⟨0,[],.string s⟩,⟨3,[],pt b1⟩]) [] [0,3] (k:=?_))
 refine A0 (A1 ?_)
 refine A1 (G_p [0,0,0] [0,3,7,8] (k:=?_))
 refine A0 (B4 ?_)
 refine I8 (EI:=(fun ξ:Value × Value × Grp × ByteArray × Nat=>[⟨0,[],.string s⟩,⟨3,[],pt b1⟩,⟨7,[],.int .i64 (s.size:Int)⟩,⟨8,[],.int .i64 (ξ.2.2.2.2:Int)⟩])) (HI:=(fun ξ:Value × Value × Grp × ByteArray × Nat=>([(b1,.cells #[ξ.1,ξ.2.1] 39 (0,0))]::ξ.2.2.1::H))) (Φ:=(fun ξ:Value × Value × Grp × ByteArray × Nat=>(Bld b1 ξ.1)∧(BOwn ξ.2.1 ξ.2.2.1 ξ.2.2.2.1)∧(ξ.2.2.2.2≤s.size)∧(ξ.2.2.2.1.data.toList++percL (s.data.toList.drop ξ.2.2.2.2)=percL s.data.toList))) (μ:=(fun ξ:Value × Value × Grp × ByteArray × Nat=>s.size - ξ.2.2.2.2)) (s0:=(.pointer none,.slice none 0 0,[],.empty,0)) [0,3,7,8] kr rfl ⟨bld0,bown0,(by (try dsimp only); omega),(by rfl)⟩ ?_
 rintro ⟨p,v,g,t,i⟩ ⟨hbp,hB,hi,hT⟩
 dsimp only at hbp hB hi hT
 obtain ⟨b,hb⟩:∃ b:UInt8,b=s.data.toList.getD i 0:=⟨_,rfl⟩
 have hbyte:A5 s (i:Int)=(b.toNat:Int):=by rw [E7,hb]
 have hbr:=byte_rng b
 have hb4:=idx4_iff b
 have ht:t.size≤3 * s.size:=by
  have h1:=congrArg List.length hT
  have h2:=perc_len s.data.toList
  rw [List.length_append,B7] at h1
  rw [B7] at h2
  omega
 refine A1 (G_p [0] [0,3,7,8,9] (k:=?_))
 refine A0 (A1 ?_)
 refine B1 (b:=decide ((i:Int)<(s.size:Int))) kr (fun hc2=>?_) (fun hc2=>?_)
 ·
  simp at hc2
  refine A7 (A0 ?_)
  refine A1 (B4 ?_)
  refine A1 (G_p [0,0] [0,3,4,7,8] (k:=?_))
  refine A0 (A1 ?_)
  refine A2 (A6 (j:=2) [0,0] (k:=?_))
  refine C0 (ch:=[]) (s:=s) (kd:=.i64) (j:=(i:Int)) (hb:=(fun _=>by omega)) (k:=?_)
  have hb3:=C7 s (i:Int)
  refine C8 (E':=[⟨13,[],.int .u8 (b.toNat:Int)⟩,⟨12,[],.int .i64 (i:Int)⟩,⟨11,[],.string s⟩,⟨0,[],.string s⟩,⟨3,[],pt b1⟩,⟨4,[],.int .i64 (i:Int)⟩,⟨7,[],.int .i64 (s.size:Int)⟩,⟨8,[],.int .i64 (i:Int)⟩]) (by have hz:([⟨13,[],.int .u8 (A5 s (i:Int))⟩,⟨12,[],.int .i64 (i:Int)⟩,⟨11,[],.string s⟩,⟨0,[],.string s⟩,⟨3,[],pt b1⟩,⟨4,[],.int .i64 (i:Int)⟩,⟨7,[],.int .i64 (s.size:Int)⟩,⟨8,[],.int .i64 (i:Int)⟩]:List Sl)=[⟨13,[],.int .u8 (b.toNat:Int)⟩,⟨12,[],.int .i64 (i:Int)⟩,⟨11,[],.string s⟩,⟨0,[],.string s⟩,⟨3,[],pt b1⟩,⟨4,[],.int .i64 (i:Int)⟩,⟨7,[],.int .i64 (s.size:Int)⟩,⟨8,[],.int .i64 (i:Int)⟩]:=(by rw [hbyte]); exact Eq.trans kr hz) (B0 [0] [0,3,5,7,8] (k:=?_))
  refine A0 (A1 ?_)
  refine A1 (A2 ?_)
  refine A6 (j:=24) [0,0,0,0,0,6,0,0,0,0,0,0,6,5,0,0,0,0,0,0,6,5,0,0] (k:=F6 (ch:=[(36,false)]) (f:=27) (fst:=#[]) (caps:=#[]) (vs:=[.string (ByteArray.mk #[45,46,95,126]),.int .u8 (b.toNat:Int)]) (v:=.int .i64 (bIdx (ByteArray.mk #[45,46,95,126]) (b.toNat:Int))) (hf:=Tryz.func27) (hc:=(fun hc=>idx_ (ByteArray.mk #[45,46,95,126]) (b.toNat:Int) _ _)) (k:=?_))
  refine B0 [0,5] [0,3,5,7,8,40] (k:=A0 ?_)
  refine B1 (b:=((((decide ((b.toNat:Int) ≥ 97))&&(decide ((b.toNat:Int)≤122)))||((decide ((b.toNat:Int) ≥ 65))&&(decide ((b.toNat:Int)≤90))))||((decide ((b.toNat:Int) ≥ 48))&&(decide ((b.toNat:Int)≤57))))||(decide ((bIdx (ByteArray.mk #[45,46,95,126]) (b.toNat:Int)) ≥ 0))) kr (fun hc4=>?_) (fun hc4=>?_)
  ·
   simp only [Bool.and_eq_true,Bool.or_eq_true,decide_eq_true_eq,hb4] at hc4
   have hpc:=pc_same (b:=b) (by unfold unresI; simp only [Bool.and_eq_true,Bool.or_eq_true,decide_eq_true_eq]; omega)
   refine A1 (A2 ?_)
   refine A6 (j:=1) [0] (k:=F2 Tryz.func31 (I6 b1 (p) (v) g t b hbp hB (by (try simp only [E5,sz1]); omega) _ _) ?_)
   rintro _ _ ⟨v5,g6,hB7,rfl⟩
   refine B0 [] [0,3,7,8] (k:=A0 ?_)
   refine F7 (A8 ?_)
   refine C2 (A0 ?_)
   refine A2 (A6 (j:=1) [0] (k:=?_))
   refine C3 52 ((i:Int)+1) (by omega) (by omega) kr (B8 (E':=[⟨0,[],.string s⟩,⟨3,[],pt b1⟩,⟨7,[],.int .i64 (s.size:Int)⟩,⟨8,[],.int .i64 ((i:Int)+1)⟩]) [0] [0,3,7,8] (k:=?_))
   refine D8 (s':=(pt b1,v5,g6,(t++⟨#[b]⟩),i+1)) [0,3,7,8] kr rfl ⟨bld1,hB7,(by (try dsimp only); omega),(by dsimp only; rw [← hT,G0 _ (show i<s.data.toList.length by rw [B7]; omega),percL_cons,← hb,hpc]; (try simp only [D4,List.append_assoc]) <;> rfl)⟩ (by (try dsimp only); omega)
  ·
   simp only [Bool.and_eq_false_iff,Bool.or_eq_false_iff,decide_eq_false_iff_not,hb4] at hc4
   have hpc:=pc_esc (b:=b) (by unfold unresI; simp only [Bool.and_eq_false_iff,Bool.or_eq_false_iff,decide_eq_false_iff_not]; omega)
   refine A7 (A0 ?_)
   refine A1 (A2 ?_)
   refine F2 Tryz.func31 (I6 b1 (p) (v) g t (Nat.toUInt8 37) hbp hB (by (try simp only [E5,sz1]); omega) _ _) ?_
   rintro _ _ ⟨v9,g10,hB11,rfl⟩
   refine B0 [] [0,3,5,7,8] (k:=A0 ?_)
   refine A1 (A2 ?_)
   refine C1 (E':=[⟨45,[],.int .u8 (Int.fdiv (b.toNat:Int) (2 ^ 4))⟩,⟨0,[],.string s⟩,⟨3,[],pt b1⟩,⟨5,[],.int .u8 (b.toNat:Int)⟩,⟨7,[],.int .i64 (s.size:Int)⟩,⟨8,[],.int .i64 (i:Int)⟩]) (j:=2) [0,0] (k:=C8 (E':=[⟨45,[],.int .u8 ((b.toNat:Int) / 16)⟩,⟨0,[],.string s⟩,⟨3,[],pt b1⟩,⟨5,[],.int .u8 (b.toNat:Int)⟩,⟨7,[],.int .i64 (s.size:Int)⟩,⟨8,[],.int .i64 (i:Int)⟩]) (by rw [fdiv16]) ?_)
   refine C0 (ch:=[]) (s:=(ByteArray.mk #[48,49,50,51,52,53,54,55,56,57,65,66,67,68,69,70])) (kd:=.u8) (j:=((b.toNat:Int) / 16)) (hb:=(by intro _; exact ⟨by omega,by show _<(16:Int); omega⟩)) (k:=?_)
   have hb12:=C7 (ByteArray.mk #[48,49,50,51,52,53,54,55,56,57,65,66,67,68,69,70]) ((b.toNat:Int) / 16)
   refine F2 Tryz.func31 (I6 b1 (pt b1) (v9) g10 (t++⟨#[Nat.toUInt8 37]⟩) (litU[Int.toNat ((b.toNat:Int) / 16)]?.getD 0) bld1 hB11 (by (try simp only [E5,sz1]); omega) _ _) ?_
   rintro _ _ ⟨v13,g14,hB15,rfl⟩
   refine B8 (E':=[⟨0,[],.string s⟩,⟨3,[],pt b1⟩,⟨5,[],.int .u8 (b.toNat:Int)⟩,⟨7,[],.int .i64 (s.size:Int)⟩,⟨8,[],.int .i64 (i:Int)⟩]) [] [0,3,5,7,8] (k:=A0 ?_)
   refine A2 (C1 (E':=[⟨49,[],.int .u8 (IntKind.wrap .u8 ((BitVec.ofInt (IntKind.bits .u8) (b.toNat:Int) &&& BitVec.ofInt (IntKind.bits .u8) 15).toNat))⟩,⟨0,[],.string s⟩,⟨3,[],pt b1⟩,⟨7,[],.int .i64 (s.size:Int)⟩,⟨8,[],.int .i64 (i:Int)⟩]) (j:=2) [0,0] (k:=?_))
   refine C8 (E':=[⟨49,[],.int .u8 ((b.toNat:Int) % 16)⟩,⟨0,[],.string s⟩,⟨3,[],pt b1⟩,⟨7,[],.int .i64 (s.size:Int)⟩,⟨8,[],.int .i64 (i:Int)⟩]) (by rw [and15c]) (C0 (ch:=[]) (s:=(ByteArray.mk #[48,49,50,51,52,53,54,55,56,57,65,66,67,68,69,70])) (kd:=.u8) (j:=((b.toNat:Int) % 16)) (hb:=(by intro _; exact ⟨by omega,by show _<(16:Int); omega⟩)) (k:=?_))
   have hb16:=C7 (ByteArray.mk #[48,49,50,51,52,53,54,55,56,57,65,66,67,68,69,70]) ((b.toNat:Int) % 16)
   refine F2 Tryz.func31 (I6 b1 (pt b1) (v13) g14 ((t++⟨#[Nat.toUInt8 37]⟩)++⟨#[(litU[Int.toNat ((b.toNat:Int) / 16)]?.getD 0)]⟩) (litU[Int.toNat ((b.toNat:Int) % 16)]?.getD 0) bld1 hB15 (by (try simp only [E5,sz1]); omega) _ _) ?_
   rintro _ _ ⟨v17,g18,hB19,rfl⟩
   refine B0 [] [0,3,7,8] (k:=B2 ?_)
   refine A0 (A2 ?_)
   refine A6 (j:=1) [0] (k:=C3 52 ((i:Int)+1) (by omega) (by omega) kr ?_)
   refine B0 [0] [0,3,7,8] (k:=D8 (s':=(pt b1,v17,g18,(((t++⟨#[Nat.toUInt8 37]⟩)++⟨#[(litU[Int.toNat ((b.toNat:Int) / 16)]?.getD 0)]⟩)++⟨#[(litU[Int.toNat ((b.toNat:Int) % 16)]?.getD 0)]⟩),i+1)) [0,3,7,8] kr rfl ⟨bld1,hB19,(by (try dsimp only); omega),(by dsimp only; rw [← hT,G0 _ (show i<s.data.toList.length by rw [B7]; omega),percL_cons,← hb,hpc]; (try simp only [D4,List.append_assoc]) <;> rfl)⟩ (by (try dsimp only); omega))
 ·
  simp at hc2
  refine F7 (A8 ?_)
  refine A8 (C2 ?_)
  refine A0 (A1 ?_)
  refine A2 (F2 Tryz.func29 (J8 b1 (p) (v) g t hB (by omega) _ _) ?_)
  rintro _ _ ⟨rfl,rfl⟩
  refine B8 (E':=[⟨2,[],.string t⟩]) [0] [2] (k:=A0 ?_)
  refine B6 (C9 (H':=H) (fun w h=>(h.erase 0)) ?_)
  refine B5 [.tmp 2] [.string t] (k:=?_)
  exact ⟨congrArg Value.string (ba_eq (by rw [← hT,List.drop_eq_nil_of_le (by rw [B7]; omega)]; exact (List.append_nil _).symm)),rfl⟩
end Go.Proofs.YtbnfbffiehoapaaGreatDoor
namespace Go.Esc
open Go.Lib Go.Sw
theorem numV_rng {base:Int} (hb:10≤base∧base≤16):∀ (l:List UInt8) (a n:Int),0≤a→numV base a l=some n→0≤n∧n<(a+1) * 16 ^ l.length
  | [],a,n,ha,h=>by
    rw [O3] at h; injection h with h; subst h
    simp only [List.length_nil,Int.pow_zero]; omega
  | c::t,a,n,ha,h=>by
    rw [H9] at h
    split at h
    · cases h
    · rename_i hd
      have hr:=digB_rng (c.toNat:Int) base (by omega)
      have h1:0≤base * a:=Int.mul_nonneg (by omega) ha
      have h2:base * a≤16 * a:=Int.mul_le_mul_of_nonneg_right (by omega) ha
      obtain ⟨h3,h4⟩:=numV_rng hb t _ n (by omega) h
      refine ⟨h3,Int.lt_of_lt_of_le h4 ?_⟩
      rw [List.length_cons,Int.pow_succ,Int.mul_comm (16 ^ t.length) 16,← Int.mul_assoc]
      exact Int.mul_le_mul_of_nonneg_right (by omega) (Int.pow_nonneg (by decide))
theorem M4 (l:List UInt8):-1≤C5 l∧C5 l≤65535:=by
  unfold C5
  split
  · exact ⟨by decide,by decide⟩
  · cases h:numV 16 0 ((l.drop 2).take 4) with
    | none=>exact ⟨by decide,by decide⟩
    | some n =>
      obtain ⟨h1,h2⟩:=numV_rng (by decide) _ _ _ (Int.le_refl 0) h
      have h3:(16:Int) ^ ((l.drop 2).take 4).length≤16 ^ 4:=by
        have:(16:Nat) ^ ((l.drop 2).take 4).length≤16 ^ 4:=Nat.pow_le_pow_right (by decide) (by rw [List.length_take]; omega)
        have e:∀ k:Nat,((16 ^ k:Nat):Int)=(16:Int) ^ k:=fun k=>by simp
        rw [← e,← e]; exact Int.ofNat_le.2 this
      show -1≤n∧n≤65535
      have h4:(16:Int) ^ 4=65536:=by decide
      rw [h4] at h3
      omega
theorem unitM_len {l:List UInt8} (h:0≤C5 l):6≤l.length:=by
  unfold C5 at h
  split at h
  · exact absurd h (by decide)
  · rename_i hn
    rcases Nat.lt_or_ge l.length 6 with h6 | h6
    · exact absurd (.inl h6) hn
    · exact h6
theorem oneEsc_rng (c:UInt8):-1≤G5 c∧G5 c≤92:=by unfold G5; (repeat' split) <;> omega
theorem escM_pos {l:List UInt8} (h:0≤(F1 l).1):2≤(F1 l).2∧(F1 l).2≤l.length∧isR (F1 l).1:=by
  have hu:=M4 l
  have hv:=M4 (l.drop 6)
  have ho:=oneEsc_rng (l.getD 1 0)
  unfold F1 at h ⊢
  by_cases c1:l.length<2
  · rw [if_pos c1] at h; exact absurd h (by decide)
  rw [if_neg c1] at h ⊢
  by_cases c2:0≤G5 (l.getD 1 0)
  · rw [if_pos c2]; unfold isR; exact ⟨Nat.le_refl _,by omega,by dsimp only; omega,by dsimp only; omega,by dsimp only; omega⟩
  rw [if_neg c2] at h ⊢
  by_cases c3:55296≤C5 l∧C5 l<56320
  · rw [if_pos c3] at h ⊢
    by_cases c4:C5 (l.drop 6)<56320∨57343<C5 (l.drop 6)
    · rw [if_pos c4] at h; exact absurd h (by decide)
    · rw [if_neg c4]
      have h6:=unitM_len (l:=l.drop 6) (by omega)
      rw [List.length_drop] at h6
      unfold isR
      exact ⟨by dsimp only; omega,by dsimp only; omega,by dsimp only; omega,by dsimp only; omega,by dsimp only; omega⟩
  rw [if_neg c3] at h ⊢
  by_cases c5:56320≤C5 l∧C5 l<57344
  · rw [if_pos c5] at h; exact absurd h (by decide)
  rw [if_neg c5] at h ⊢
  have h6:=unitM_len (l:=l) h
  unfold isR
  exact ⟨by dsimp only; omega,by dsimp only; omega,by dsimp only; omega,by dsimp only; omega,by dsimp only; omega⟩
theorem ujF_nil:∀ n,ujF n []=some []
  | 0=>rfl
  | _+1=>rfl
theorem ujF_fuel:∀ (n m:Nat) (l:List UInt8),l.length≤n→l.length≤m→ujF n l=ujF m l
  | _,_,[],_,_=>by rw [ujF_nil,ujF_nil]
  | 0,_,_::_,h,_=>by simp at h
  | _+1,0,_::_,_,h=>by simp at h
  | n+1,m+1,c::t,hn,hm=>by
    simp only [List.length_cons] at hn hm
    simp only [ujF]
    rw [ujF_fuel n m t (by omega) (by omega)]
    by_cases hp:(F1 (c::t)).1<0
    · rw [if_pos hp,if_pos hp]
    · have:=escM_pos (l:=c::t) (by omega)
      rw [if_neg hp,if_neg hp,ujF_fuel n m ((c::t).drop (F1 (c::t)).2) (by rw [List.length_drop,List.length_cons]; omega) (by rw [List.length_drop,List.length_cons]; omega)]
theorem ujL_nil:ujL []=some []:=rfl
theorem J5 (c:UInt8) (t:List UInt8):ujL (c::t)=if c<32∨c=34 then none else if c≠92 then (ujL t).map (c::·) else if (F1 (c::t)).1<0 then none else (ujL ((c::t).drop (F1 (c::t)).2)).map (encodeRune (F1 (c::t)).1++·):=by
  show ujF (t.length+1) (c::t)=_
  simp only [ujF]
  by_cases hp:(F1 (c::t)).1<0
  · rw [if_pos hp,if_pos hp]; rfl
  · have:=escM_pos (l:=c::t) (by omega)
    rw [if_neg hp,if_neg hp,ujF_fuel t.length ((c::t).drop (F1 (c::t)).2).length _ (by rw [List.length_drop,List.length_cons]; omega) (Nat.le_refl _)]; rfl
def unjM (l:List UInt8):Option (List UInt8) :=
  if l.length<2∨l.getD 0 0≠34∨l.getD (l.length - 1) 0≠34∨G9 l=false then none else ujL ((l.drop 1).take (l.length - 2))
def unjV:Option (List UInt8)→Value
  | some t=>.tuple #[.string (bk t),.int .i64 0]
  | none=>.tuple #[.string (ByteArray.mk #[]),.int .i64 20]
theorem drop0 {s:ByteArray} {b:UInt8} (h:0<s.size) (hb:b=s.data.toList.getD 0 0):s.data.toList=b::s.data.toList.drop 1:=by
  have:=G0 s.data.toList (k:=0) (by rw [B7]; exact h)
  rw [List.drop_zero] at this; rw [hb]; exact this
theorem ujA {s:ByteArray} {b:UInt8} (h:0<s.size) (hb:b=s.data.toList.getD 0 0) (hc:(b.toNat:Int)<32∨(b.toNat:Int)=34):ujL s.data.toList=none:=by
  rw [drop0 h hb,J5,if_pos]
  rcases hc with hc | hc
  · exact .inl (UInt8.lt_iff_toNat_lt.2 (by show b.toNat<32; omega))
  · exact .inr (UInt8.toNat_inj.1 (by show b.toNat=34; omega))
theorem uj_no {b:UInt8} (hc:¬ ((b.toNat:Int)<32∨(b.toNat:Int)=34)):¬ (b<32∨b=34):=by
  rintro (h | h)
  · have:=UInt8.lt_iff_toNat_lt.1 h; exact hc (.inl (by have:b.toNat<32:=this; omega))
  · subst h; exact hc (.inr rfl)
theorem ujB {s:ByteArray} {b:UInt8} (h:0<s.size) (hb:b=s.data.toList.getD 0 0) (hc:¬ ((b.toNat:Int)<32∨(b.toNat:Int)=34)) (h2:(b.toNat:Int)≠92):ujL s.data.toList=(ujL (s.extract 1 s.size).data.toList).map (b::·):=by
  rw [F4]
  conv=>lhs; rw [drop0 h hb]
  rw [J5,if_neg (uj_no hc),if_pos (by rintro rfl; exact h2 rfl)]
theorem ujC {s:ByteArray} {b:UInt8} (h:0<s.size) (hb:b=s.data.toList.getD 0 0) (h2:(b.toNat:Int)=92) :
    ((F1 s.data.toList).1<0→ujL s.data.toList=none)∧(¬ (F1 s.data.toList).1<0→ujL s.data.toList=(ujL (s.extract (F1 s.data.toList).2 s.size).data.toList).map (encodeRune (F1 s.data.toList).1++·)):=by
  have hb92:b=92:=UInt8.toNat_inj.1 (by show b.toNat=92; omega)
  have e:=drop0 h hb
  rw [F4]
  generalize s.data.toList=l at e ⊢
  subst hb92
  have hn:¬ ((92:UInt8)<32∨(92:UInt8)=34):=by decide
  refine ⟨fun hr=>?_,fun hr=>?_⟩
  · rw [e] at hr ⊢
    rw [J5,if_neg hn,if_neg (by decide),if_pos hr]
  · rw [e] at hr ⊢
    rw [J5,if_neg hn,if_neg (by decide),if_neg hr]
theorem map_app {o:Option (List UInt8)} {a b c:List UInt8} (h:c=a++b):(o.map (b++·)).map (a++·)=o.map (c++·):=by subst h; cases o <;> simp
theorem map_one {o:Option (List UInt8)} {a c:List UInt8} {b:UInt8} (h:c=a++[b]):(o.map (b::·)).map (a++·)=o.map (c++·):=by subst h; cases o <;> simp
theorem takeTwo {s:ByteArray} (h:2≤s.size):s.data.toList.take 2=[s.data.toList.getD 0 0,s.data.toList.getD 1 0]:=by
  have h1:=G0 s.data.toList (k:=0) (by rw [B7]; omega)
  have h2:=G0 s.data.toList (k:=1) (by rw [B7]; omega)
  rw [List.drop_zero] at h1
  conv=>lhs; rw [h1,h2]
  rfl
theorem byte0 (s:ByteArray):A5 s 0=((s.data.toList.getD 0 0).toNat:Int):=E7 s 0
theorem byte1 (s:ByteArray):A5 s 1=((s.data.toList.getD 1 0).toNat:Int):=E7 s 1
theorem unit_no {s:ByteArray} (h:(s.size:Int)<6∨A5 s 0≠92∨A5 s 1≠117):C5 s.data.toList=-1:=by
  unfold C5
  rw [if_pos]
  rw [B7]
  by_cases h6:s.size<6
  · exact .inl h6
  · refine .inr ?_
    rw [takeTwo (by omega)]
    intro he
    injection he with h1 h2; injection h2 with h2 _
    rw [byte0,byte1,h1,h2] at h
    rcases h with h | h | h
    · omega
    · exact h rfl
    · exact h rfl
theorem unit_yes {s:ByteArray} (h6:¬ (s.size:Int)<6) (h0:A5 s 0=92) (h1:A5 s 1=117):C5 s.data.toList=(numV 16 0 (s.extract 2 6).data.toList).getD (-1):=by
  unfold C5
  rw [if_neg,ext_list]
  rw [B7]
  rintro (h | h)
  · omega
  · apply h
    rw [takeTwo (by omega),show s.data.toList.getD 0 0=92 from UInt8.toNat_inj.1 (by rw [byte0] at h0; show _=92; omega),show s.data.toList.getD 1 0=117 from UInt8.toNat_inj.1 (by rw [byte1] at h1; show _=117; omega)]
theorem one8:∀ n:Fin 256,bIdx (ByteArray.mk #[34,92,47,98,102,110,114,116]) (n.val:Int)<8∧(0≤bIdx (ByteArray.mk #[34,92,47,98,102,110,114,116]) (n.val:Int)→A5 (ByteArray.mk #[34,92,47,8,12,10,13,9]) (bIdx (ByteArray.mk #[34,92,47,98,102,110,114,116]) (n.val:Int))=G5 (UInt8.ofNat n.val)∧0≤G5 (UInt8.ofNat n.val))∧(¬ 0≤bIdx (ByteArray.mk #[34,92,47,98,102,110,114,116]) (n.val:Int)→G5 (UInt8.ofNat n.val)=-1):=by decide +kernel
theorem one_at (b:UInt8):bIdx (ByteArray.mk #[34,92,47,98,102,110,114,116]) (b.toNat:Int)<8∧(0≤bIdx (ByteArray.mk #[34,92,47,98,102,110,114,116]) (b.toNat:Int)→A5 (ByteArray.mk #[34,92,47,8,12,10,13,9]) (bIdx (ByteArray.mk #[34,92,47,98,102,110,114,116]) (b.toNat:Int))=G5 b∧0≤G5 b)∧(¬ 0≤bIdx (ByteArray.mk #[34,92,47,98,102,110,114,116]) (b.toNat:Int)→G5 b=-1):=by
  have:=one8 ⟨b.toNat,b.toNat_lt⟩
  simpa using this
theorem byteL {s:ByteArray} (h:2≤s.size):A5 s ((s.size:Int) - 1)=((s.data.toList.getD (s.data.toList.length - 1) 0).toNat:Int):=by
  rw [show (s.size:Int) - 1=((s.size - 1:Nat):Int) by omega,E7,B7]
theorem unj_no {s:ByteArray} (h:(((s.size:Int)<2∨¬ A5 s 0=34)∨¬ A5 s ((s.size:Int) - 1)=34)∨G9 s.data.toList=false):unjM s.data.toList=none:=by
  unfold unjM
  rw [if_pos]
  rcases Nat.lt_or_ge s.size 2 with h2 | h2
  · left; rw [B7]; exact h2
  rw [byte0,byteL h2] at h
  rcases h with ((h | h) | h) | h
  · omega
  · exact .inr (.inl fun he=>h (by rw [he]; rfl))
  · exact .inr (.inr (.inl fun he=>h (by rw [he]; rfl)))
  · exact .inr (.inr (.inr h))
theorem unj_yes {s:ByteArray} (h2:¬ (s.size:Int)<2) (h0:A5 s 0=34) (hl:A5 s ((s.size:Int) - 1)=34) (hv:G9 s.data.toList=true):unjM s.data.toList=(ujL (s.extract 1 (Int.toNat ((s.size:Int) - 1))).data.toList).map (ByteArray.empty.data.toList++·):=by
  have h2':2≤s.size:=by omega
  rw [byte0] at h0; rw [byteL h2'] at hl
  unfold unjM
  rw [if_neg,ext_list,show Int.toNat ((s.size:Int) - 1) - 1=s.data.toList.length - 2 by rw [B7]; omega]
  · cases ujL ((s.data.toList.drop 1).take (s.data.toList.length - 2)) <;> rfl
  · rintro (h | h | h | h)
    · rw [B7] at h; omega
    · exact h (UInt8.toNat_inj.1 (by show _=34; omega))
    · exact h (UInt8.toNat_inj.1 (by show _=34; omega))
    · rw [hv] at h; cases h
end Go.Esc
