/- Texts come back from HTML; texts one behind the other. Plain. (and what it stands on) -/
import Derived.Test.YtbnfbffiehoapaaGreatDoorZ2
import Derived.Shelf.Unicode.DecodeSlow
import Derived.Test.YtbnfbffiehoapaaGreatDoorCards
import Derived.Test.YtbnfbffiehoapaaGreatDoorTie
import Derived.ProofKit
import Derived.OpenShut
import Derived.LaidMore
import Derived.Lay
import Derived.SevenTiedAt
import Derived.Stop.Joined
import Derived.Stop.LaidErr
import Derived.LaidLaws
import Derived.Lib.LaidTab
import Derived.Lib.LaidU8T
namespace Go.Esc
open Go.Lib Go.Sw
theorem eqB (s t:ByteArray):(s.toList==t.toList)=true ↔ s.data.toList=t.data.toList:=by rw [beq_iff_eq,Lib.toList_data,Lib.toList_data]
theorem eqBf (s t:ByteArray):(s.toList==t.toList)=false ↔ ¬ s.data.toList=t.data.toList:=by rw [← eqB,Bool.not_eq_true]
def H8 (s t:ByteArray):Bool:=decide ((s.size:Int) ≥ (t.size:Int))&&((s.extract 0 t.size).toList==t.toList)
theorem ext_list (s:ByteArray) (a b:Nat):(s.extract a b).data.toList=(s.data.toList.drop a).take (b - a):=by
  rw [ByteArray.data_extract,Array.toList_extract,List.extract_eq_take_drop]
theorem G4 (s:ByteArray) (a:Nat):(s.extract a s.size).data.toList=s.data.toList.drop a:=by
  rw [ext_list,List.take_of_length_le]
  rw [List.length_drop,Array.length_toList]; exact Nat.le_refl _
theorem ext_take (s:ByteArray) (b:Nat):(s.extract 0 b).data.toList=s.data.toList.take b:=by rw [ext_list,List.drop_zero,Nat.sub_zero]
theorem C5 (s:ByteArray):s.data.toList.length=s.size:=Array.length_toList
theorem starts_iff (s t:ByteArray):H8 s t=true ↔ s.data.toList.take t.size=t.data.toList:=by
  unfold H8
  rw [Bool.and_eq_true,decide_eq_true_eq,eqB,ext_take]
  refine ⟨fun h=>h.2,fun h=>⟨?_,h⟩⟩
  have:=congrArg List.length h
  rw [List.length_take,C5,C5] at this
  omega
theorem starts_iffF (s t:ByteArray):H8 s t=false ↔ ¬ s.data.toList.take t.size=t.data.toList:=by rw [← starts_iff,Bool.not_eq_true]
theorem F7 (s:ByteArray) (k:Nat):A3 s (k:Int)=((s.data.toList.getD k 0).toNat:Int):=by unfold A3; rw [Int.toNat_natCast,List.getD_eq_getElem?_getD]
theorem getD_get (l:List UInt8) {j:Nat} (h:j<l.length):l.getD j 0=l[j]:=by simp [List.getD,h]
theorem noB_list {s:ByteArray} {c:UInt8} {k:Nat} (hk:k≤s.size):noB s (c.toNat:Int) k ↔ ∀ b∈s.data.toList.take k,b≠c:=by
  constructor
  · intro h b hb
    obtain ⟨j,hj,rfl⟩:=List.getElem_of_mem hb
    rw [List.length_take,C5] at hj
    have:=h j (by omega)
    rw [F7] at this
    rintro he
    apply this
    rw [List.getElem_take] at he
    rw [← he,getD_get _ (by rw [C5]; omega)]
  · intro h j hj he
    rw [F7] at he
    have hjl:j<s.data.toList.length:=by rw [C5]; omega
    refine h (s.data.toList.getD j 0) ?_ (UInt8.toNat_inj.1 (by omega))
    have e:s.data.toList.getD j 0=(s.data.toList.take k)[j]'(by rw [List.length_take]; omega):=by rw [getD_get _ hjl,List.getElem_take]
    rw [e]; exact List.getElem_mem _
theorem at_list {s:ByteArray} {c:UInt8} {k:Nat} (hk:k<s.size) (h:A3 s (k:Int)=(c.toNat:Int)):s.data.toList.drop k=c::s.data.toList.drop (k+1):=by
  rw [H5 _ (by rw [C5]; exact hk)]
  rw [F7] at h
  rw [show s.data.toList.getD k 0=c from UInt8.toNat_inj.1 (by omega)]
theorem idxL_eq {c:UInt8}:∀ {p t:List UInt8},(∀ b∈p,b≠c)→idxL c (p++c::t)=p.length
  | [],t,_=>by simp [idxL,List.findIdx_cons]
  | b::p,t,h=>by
    have:=idxL_eq (p:=p) (t:=t) (fun x hx=>h x (List.mem_cons_of_mem _ hx))
    unfold idxL at this ⊢
    rw [List.cons_append,List.findIdx_cons,beq_eq_false_iff_ne.2 (h b List.mem_cons_self),this]; rfl
theorem idxL_none {c:UInt8} {l:List UInt8} (h:∀ b∈l,b≠c):idxL c l=l.length:=by
  unfold idxL; rw [List.findIdx_eq_length]; intro x hx; exact beq_eq_false_iff_ne.2 (h x hx)
theorem un_none {pre t:List UInt8} (hp:∀ b∈pre,b≠38) (ht:∀ b∈t,b≠59):unL (pre++38::t)=pre++(38::unL t):=by
  rw [unL_app _ _ hp,unL_cons,if_neg (by decide),if_pos]
  unfold refC
  rw [idxL_none ht,if_neg (Nat.lt_irrefl _)]
  decide
theorem refC_at {p t:List UInt8} (h:∀ b∈p,b≠59):refC (p++59::t)=(refM p,p.length+1):=by
  unfold refC
  rw [idxL_eq h]
  dsimp only
  rw [if_pos (by rw [List.length_append,List.length_cons]; omega),List.take_left]
theorem un_bad {pre p t:List UInt8} (hp:∀ b∈pre,b≠38) (h:∀ b∈p,b≠59) (hr:refM p<0):unL (pre++38::(p++59::t))=pre++(38::unL (p++59::t)):=by
  rw [unL_app _ _ hp,unL_cons,if_neg (by decide),if_pos (by rw [refC_at h]; exact hr)]
theorem un_good {pre p t:List UInt8} (hp:∀ b∈pre,b≠38) (h:∀ b∈p,b≠59) (hr:¬ refM p<0):unL (pre++38::(p++59::t))=pre++(encodeRune (refM p)++unL t):=by
  rw [unL_app _ _ hp,unL_cons,if_neg (by decide),if_neg (by rw [refC_at h]; exact hr),refC_at h]
  dsimp only
  rw [show (p++59::t).drop (p.length+1)=t by rw [← List.drop_drop,List.drop_left]; rfl]
theorem numberM_isR {t:List UInt8} {base:Int} {most:Nat} (h:¬ G6 t base most<0):isR (G6 t base most):=by
  unfold G6 at h ⊢
  split at h
  · exact absurd (by decide) h
  · split at h
    · exact absurd (by decide) h
    · rename_i n hn
      rw [if_neg ‹_›]
      (try rw [hn]); (try dsimp only)
      split at h
      · exact absurd (by decide) h
      · rename_i hb
        rw [if_neg hb]
        exact isB_iff.1 (by cases hq:isB n with | true=>rfl | false=>exact absurd (.inr hq) hb)
theorem refM_isR {t:List UInt8} (h:¬ refM t<0):isR (refM t):=by
  unfold refM at h ⊢
  split at h
  · rw [if_pos ‹_›]; unfold isR; omega
  rw [if_neg ‹_›]
  split at h
  · rw [if_pos ‹_›]; unfold isR; omega
  rw [if_neg ‹_›]
  split at h
  · rw [if_pos ‹_›]; unfold isR; omega
  rw [if_neg ‹_›]
  split at h
  · rw [if_pos ‹_›]; unfold isR; omega
  rw [if_neg ‹_›]
  split at h
  · rw [if_pos ‹_›]; unfold isR; omega
  rw [if_neg ‹_›]
  split at h
  · rw [if_pos ‹_›]; exact numberM_isR h
  rw [if_neg ‹_›]
  split at h
  · rw [if_pos ‹_›]; exact numberM_isR h
  rw [if_neg ‹_›]
  split at h
  · rw [if_pos ‹_›]; exact numberM_isR h
  · exact absurd (by decide) h
theorem unA {s:ByteArray} {k:Nat} (hk:k<s.size) (hb:A3 s (k:Int)=38) (hn:noB s 38 k) (hm:noB (s.extract k s.size) 59 (s.extract k s.size).size) :
    unL s.data.toList=s.data.toList.take k++(38::unL ((s.extract k s.size).extract 1 (s.extract k s.size).size).data.toList):=by
  have h1:=(noB_list (c:=38) (Nat.le_of_lt hk)).1 hn
  have h2:=(noB_list (c:=59) (Nat.le_refl _)).1 hm
  rw [List.take_of_length_le (by rw [C5]; exact Nat.le_refl _),G4,at_list (c:=38) hk hb] at h2
  rw [G4,G4,List.drop_drop,← un_none h1 fun b hb=>h2 b (List.mem_cons_of_mem _ hb),← at_list (c:=38) hk hb,List.take_append_drop]
theorem unB {s:ByteArray} {k m:Nat} (hk:k<s.size) (hb:A3 s (k:Int)=38) (hn:noB s 38 k) (hm:m<(s.extract k s.size).size) (hbm:A3 (s.extract k s.size) (m:Int)=59) (hnm:noB (s.extract k s.size) 59 m) (h0:0<m) :
    (refM ((s.extract k s.size).extract 1 m).data.toList<0→unL s.data.toList=s.data.toList.take k++(38::unL ((s.extract k s.size).extract 1 (s.extract k s.size).size).data.toList)) ∧
    (¬ refM ((s.extract k s.size).extract 1 m).data.toList<0→unL s.data.toList=s.data.toList.take k++(encodeRune (refM ((s.extract k s.size).extract 1 m).data.toList)++unL ((s.extract k s.size).extract (m+1) (s.extract k s.size).size).data.toList)):=by
  have h1:=(noB_list (c:=38) (Nat.le_of_lt hk)).1 hn
  have h2:=(noB_list (c:=59) (Nat.le_of_lt hm)).1 hnm
  have h3:=at_list (c:=59) hm hbm
  have e1:s.data.toList=s.data.toList.take k++38::s.data.toList.drop (k+1):=by rw [← at_list (c:=38) hk hb,List.take_append_drop]
  have e2:(s.extract k s.size).data.toList=38::s.data.toList.drop (k+1):=by rw [G4,at_list (c:=38) hk hb]
  have e3:((s.extract k s.size).extract 1 m).data.toList=(s.data.toList.drop (k+1)).take (m - 1):=by rw [ext_list,e2]; rfl
  have e4:s.data.toList.drop (k+1)=(s.data.toList.drop (k+1)).take (m - 1)++59::(s.data.toList.drop (k+1)).drop m:=by
    rw [e2] at h3
    obtain ⟨m',rfl⟩:∃ m',m=m'+1:=⟨m - 1,by omega⟩
    rw [List.drop_succ_cons,List.drop_succ_cons] at h3
    rw [Nat.add_sub_cancel,← h3,List.take_append_drop]
  have h4:∀ b∈(s.data.toList.drop (k+1)).take (m - 1),b≠59:=by
    intro b hb'
    refine h2 b ?_
    rw [e2]
    obtain ⟨m',rfl⟩:∃ m',m=m'+1:=⟨m - 1,by omega⟩
    rw [List.take_succ_cons]
    exact List.mem_cons_of_mem _ hb'
  rw [e3]
  have e5:((s.extract k s.size).extract 1 (s.extract k s.size).size).data.toList=s.data.toList.drop (k+1):=by rw [G4,e2]; rfl
  have e6:((s.extract k s.size).extract (m+1) (s.extract k s.size).size).data.toList=(s.data.toList.drop (k+1)).drop m:=by rw [G4,e2]; rfl
  rw [e5,e6]
  refine ⟨fun hr=>?_,fun hr=>?_⟩
  · have:=un_bad (t:=(s.data.toList.drop (k+1)).drop m) h1 h4 hr
    rw [← e4,← e1] at this; exact this
  · have:=un_good (t:=(s.data.toList.drop (k+1)).drop m) h1 h4 hr
    rw [← e4,← e1] at this; exact this
theorem unC {s:ByteArray} (hn:noB s 38 s.size):unL s.data.toList=s.data.toList:=by
  have h1:=(noB_list (c:=38) (Nat.le_refl _)).1 hn
  rw [List.take_of_length_le (by rw [C5]; exact Nat.le_refl _)] at h1
  have:=unL_app s.data.toList [] h1
  rwa [List.append_nil,unL_nil,List.append_nil] at this
theorem m_pos {s:ByteArray} {k m:Nat} (hk:k<s.size) (hb:A3 s (k:Int)=38) (hbm:A3 (s.extract k s.size) (m:Int)=59):0<m:=by
  rcases Nat.eq_zero_or_pos m with rfl | h
  · have e2:(s.extract k s.size).data.toList=38::s.data.toList.drop (k+1):=by rw [G4,at_list (c:=38) hk hb]
    rw [F7,e2] at hbm; exact absurd (show (38:Int)=59 from hbm) (by decide)
  · exact h
end Go.Esc
namespace Go.Proofs.YtbnfbffiehoapaaGreatDoor
open Go.Sw Go.Sha Go.Esc Go.RowKit
theorem Tri_ex {P:Program} {f:FuncId} {args:Array Value} {W0:World} {H:List Grp} {K:Value→Prop}
    (h:∀ w,Sat W0 H w→Calls P f args w fun e w'=>(∃ v,e=.returned v∧K v)∧Below w.heap.size w w'):Tri P f args W0 H (fun u H'=>K u∧H'=H) :=
  fun w hs=>(h w hs).mono fun e w' ⟨⟨v,he,hk⟩,hb⟩=>⟨v,H,he,⟨hk,rfl⟩,by
    have hlt:∀ p,p∈H.flatten→p.1<w.heap.size:=fun p hp=>by
      have:=hs.has p hp
      rcases Nat.lt_or_ge p.1 w.heap.size with h' | h'
      · exact h'
      · simp [Array.getElem?_eq_none h'] at this
    exact ⟨hs.below.trans (hb.mono hs.below.size),hs.nodup,fun p hp=>by rw [hb.block _ (hlt p hp)]; exact hs.has p hp,hs.high⟩⟩
structure H3 (W0:World):Prop where
  err:∃ ev,4<W0.heap.size∧W0.cell? ⟨4,0,none⟩=some ev∧(ev=.nilIface∨∃ te pe,ev=.iface te pe)
  tz:∃ c e fz,7<W0.heap.size∧W0.heap[7]? = some (.cells c e fz)∧c[15]? = some (.int .u8 4)
  utf:Lib.Utf8Tabs 0 1 W0
theorem cell_base {W0:World} {H:List Grp} {w:World} (hs:Sat W0 H w) {b off:Nat} {v:Value} (hb:b<W0.heap.size) (h:W0.cell? ⟨b,off,none⟩=some v):w.cell? ⟨b,off,none⟩=some v:=by
  rw [← h]; unfold World.cell?; simp only [hs.below.block b hb]
theorem synErr (fn s:ByteArray) (hs:s.size≤281474976710656) (W0:World) (H:List Grp) (hW:H3 W0):Tri Tryz.prog 97 #[.string fn,.string s] W0 H (fun v H'=>(∃ N,v=pt N)∧H'=H) :=
  Tri_ex (fun w hw=>by
    obtain ⟨ev,h1,h2,h3⟩:=hW.err
    exact (Tryz.strconv_syntaxError fn s ev w hs (cell_base hw h1 h2) h3).mono fun e w' ⟨N,h1,_,_,h4⟩=>⟨⟨_,h1,N,rfl⟩,h4⟩)
theorem toErr_ (fn s:ByteArray) (hs:s.size≤1000000000000) (b c:Int) (W0:World) (H:List Grp) (hW:H3 W0):Tri Tryz.prog 81 #[.string fn,.string s,.int .i64 b,.int .i64 c,.iface 137 (.int .i64 2)] W0 H (fun v H'=>(∃ N,v=.iface 139 (pt N))∧H'=H):=by
 refine C2 (args:=[.string fn,.string s,.int .i64 b,.int .i64 c,.iface 137 (.int .i64 2)]) (n:=43) Tryz.func81 rfl rfl (Nat.le_of_ble_eq_true rfl) ?_
 refine A1 (G_p [0] [0,1,2,3,4] (k:=?_))
 refine A0 (A1 ?_)
 refine A1 (G_p [0] [0,1,2,3,4,11] (k:=?_))
 refine A0 (B8 ?_)
 refine A1 (A2 ?_)
 refine A5 (j:=1) [0] (k:=GL_ifInt (i:=1) (ch:=[]) (tx:=137) (kd:=.i64) (a:=2) (b:=2) rfl rfl kr kr kr kr kr kr kr kr ?_)
 refine A9 [0] [0,1,2,3,4,11,12] (k:=A0 ?_)
 refine B9 kr (A1 ?_)
 refine A2 (A5 (j:=2) [0,0] (k:=?_))
 refine E5 Tryz.func97 (synErr fn s (by omega) _ _ hW) ?_
 rintro _ _ ⟨⟨N,rfl⟩,rfl⟩
 refine B4 (E':=[⟨10,[],.iface 139 (pt N)⟩]) [0,0] [10] (k:=A0 ?_)
 refine B6 (B0 ?_)
 refine A4 (B2 [.tmp 10] [.iface 139 (pt N)] (k:=?_))
 exact ⟨⟨N,rfl⟩,rfl⟩
theorem parse10_ (s:ByteArray) (h0:0<s.size) (hs:s.size≤7) (W0:World) (H:List Grp) (hW:H3 W0):Tri Tryz.prog 63 #[.string s,.int .i64 10,.int .i64 32] W0 H (fun v H'=>((∃ n,numV 10 0 s.data.toList=some n∧0≤n∧n<16 ^ s.size∧v=.tuple #[.int .u64 n,.nilIface])∨(numV 10 0 s.data.toList=none∧∃ N,v=.tuple #[.int .u64 0,.iface 139 (pt N)]))∧H'=H):=by
 refine C2 (args:=[.string s,.int .i64 10,.int .i64 32]) (n:=26) Tryz.func63 rfl rfl (Nat.le_of_ble_eq_true rfl) ?_
 refine A1 (G_p [0,0] [0,1,2] (k:=?_))
 refine A0 (A1 ?_)
 refine A2 (A5 (j:=3) [0,0,0] (k:=?_))
 refine E5 Tryz.func80 (inner10_ s h0 hs _ _) ?_
 rintro _ _ ⟨⟨n,hV,hn0,hn1,rfl⟩ | ⟨hV,rfl⟩,rfl⟩
 ·
  refine A9 [0,0,0,0,0] [0,1,2,8,9] (k:=A0 ?_)
  refine A1 (A1 ?_)
  refine A2 (A5 (j:=1) [0] (k:=?_))
  refine J1 (ch:=[]) (v:=.nilIface) (e:=true) true (hv:=.inl ⟨rfl,rfl⟩) (k:=A9 [] [0,1,2,8,9,18] (k:=?_))
  refine A0 (D6 kr ?_)
  refine A7 (A0 ?_)
  refine A1 (G_p [0,0,0] [6,7] (k:=?_))
  refine A0 (B6 ?_)
  refine B2 [.tmp 6,.tmp 7] [.int .u64 n,.nilIface] (k:=?_)
  exact ⟨.inl ⟨n,hV,hn0,hn1,rfl⟩,rfl⟩
 ·
  refine A9 [0,0,0,0,0] [0,1,2,8,9] (k:=A0 ?_)
  refine A1 (A1 ?_)
  refine A2 (A5 (j:=1) [0] (k:=?_))
  refine J1 (ch:=[]) (v:=.iface 137 (.int .i64 2)) (e:=false) true (hv:=.inr ⟨⟨_,_,rfl⟩,rfl⟩) (k:=A9 [] [0,1,2,8,9,18] (k:=?_))
  refine A0 (B9 kr ?_)
  refine A1 (A2 ?_)
  refine A5 (j:=5) [0,0,0,0,0] (k:=E5 Tryz.func81 (toErr_ (ByteArray.mk #[80,97,114,115,101,85,105,110,116]) s (by omega) 10 32 _ _ hW) ?_)
  rintro _ _ ⟨⟨N,rfl⟩,rfl⟩
  refine A9 [0,0] [6,7] (k:=A0 ?_)
  refine B6 (A4 ?_)
  refine B2 [.tmp 6,.tmp 7] [.int .u64 0,.iface 139 (pt N)] (k:=?_)
  exact ⟨.inr ⟨hV,N,rfl⟩,rfl⟩
theorem parse16_ (s:ByteArray) (h0:0<s.size) (hs:s.size≤7) (W0:World) (H:List Grp) (hW:H3 W0):Tri Tryz.prog 63 #[.string s,.int .i64 16,.int .i64 32] W0 H (fun v H'=>((∃ n,numV 16 0 s.data.toList=some n∧0≤n∧n<16 ^ s.size∧v=.tuple #[.int .u64 n,.nilIface])∨(numV 16 0 s.data.toList=none∧∃ N,v=.tuple #[.int .u64 0,.iface 139 (pt N)]))∧H'=H):=by
 refine C2 (args:=[.string s,.int .i64 16,.int .i64 32]) (n:=26) Tryz.func63 rfl rfl (Nat.le_of_ble_eq_true rfl) ?_
 refine A1 (G_p [0,0] [0,1,2] (k:=?_))
 refine A0 (A1 ?_)
 refine A2 (A5 (j:=3) [0,0,0] (k:=?_))
 refine E5 Tryz.func80 (inner16_ s h0 hs _ _) ?_
 rintro _ _ ⟨⟨n,hV,hn0,hn1,rfl⟩ | ⟨hV,rfl⟩,rfl⟩
 ·
  refine A9 [0,0,0,0,0] [0,1,2,8,9] (k:=A0 ?_)
  refine A1 (A1 ?_)
  refine A2 (A5 (j:=1) [0] (k:=?_))
  refine J1 (ch:=[]) (v:=.nilIface) (e:=true) true (hv:=.inl ⟨rfl,rfl⟩) (k:=A9 [] [0,1,2,8,9,18] (k:=?_))
  refine A0 (D6 kr ?_)
  refine A7 (A0 ?_)
  refine A1 (G_p [0,0,0] [6,7] (k:=?_))
  refine A0 (B6 ?_)
  refine B2 [.tmp 6,.tmp 7] [.int .u64 n,.nilIface] (k:=?_)
  exact ⟨.inl ⟨n,hV,hn0,hn1,rfl⟩,rfl⟩
 ·
  refine A9 [0,0,0,0,0] [0,1,2,8,9] (k:=A0 ?_)
  refine A1 (A1 ?_)
  refine A2 (A5 (j:=1) [0] (k:=?_))
  refine J1 (ch:=[]) (v:=.iface 137 (.int .i64 2)) (e:=false) true (hv:=.inr ⟨⟨_,_,rfl⟩,rfl⟩) (k:=A9 [] [0,1,2,8,9,18] (k:=?_))
  refine A0 (B9 kr ?_)
  refine A1 (A2 ?_)
  refine A5 (j:=5) [0,0,0,0,0] (k:=E5 Tryz.func81 (toErr_ (ByteArray.mk #[80,97,114,115,101,85,105,110,116]) s (by omega) 16 32 _ _ hW) ?_)
  rintro _ _ ⟨⟨N,rfl⟩,rfl⟩
  refine A9 [0,0] [6,7] (k:=A0 ?_)
  refine B6 (A4 ?_)
  refine B2 [.tmp 6,.tmp 7] [.int .u64 0,.iface 139 (pt N)] (k:=?_)
  exact ⟨.inr ⟨hV,N,rfl⟩,rfl⟩
theorem vRune_ (r:Int) (W0:World) (H:List Grp):Tri Tryz.prog 64 #[.int .i32 r] W0 H (fun v H'=>v=.bool (isB r)∧H'=H):=by
 refine C2 (args:=[.int .i32 r]) (n:=17) Tryz.func64 rfl rfl (Nat.le_of_ble_eq_true rfl) ?_
 refine A1 (B3 (E':=[⟨0,[],.int .i32 r⟩]) [0] [0] (k:=?_))
 refine A0 (A1 ?_)
 refine B8 (A1 ?_)
 refine G_p [0,0,0,0,0,6,0] [0,3] (k:=A0 ?_)
 refine B1 (b:=(decide (0≤r))&&(decide (r<55296))) kr (fun hc1=>?_) (fun hc1=>?_)
 ·
  simp only [Bool.and_eq_true,decide_eq_true_eq] at hc1
  refine A1 (B3 (E':=[⟨2,[],.bool true⟩]) [0] [2] (k:=?_))
  refine A0 (B6 ?_)
  refine B0 (A4 ?_)
  refine B2 [.tmp 2] [.bool true] (k:=?_)
  refine ⟨congrArg Value.bool ?_,rfl⟩
  first | (symm; rw [isB_iff]; unfold isR; omega) | (symm; rw [← Bool.not_eq_true,isB_iff]; unfold isR; omega)
 ·
  simp only [Bool.and_eq_false_iff,decide_eq_false_iff_not] at hc1
  refine A1 (G_p [0,0,0,0,0,6,0] [10] (k:=?_))
  refine A0 (B1 (b:=(decide (57343<r))&&(decide (r≤1114111))) kr (fun hc2=>?_) (fun hc2=>?_))
  ·
   simp only [Bool.and_eq_true,decide_eq_true_eq] at hc2
   refine A1 (B3 (E':=[⟨2,[],.bool true⟩]) [0] [2] (k:=?_))
   refine A0 (B6 ?_)
   refine B0 (A4 ?_)
   refine B2 [.tmp 2] [.bool true] (k:=?_)
   refine ⟨congrArg Value.bool ?_,rfl⟩
   first | (symm; rw [isB_iff]; unfold isR; omega) | (symm; rw [← Bool.not_eq_true,isB_iff]; unfold isR; omega)
  ·
   simp only [Bool.and_eq_false_iff,decide_eq_false_iff_not] at hc2
   refine A7 (B7 ?_)
   refine A0 (A1 ?_)
   refine B3 (E':=[⟨2,[],.bool false⟩]) [0] [2] (k:=A0 ?_)
   refine B6 (B2 [.tmp 2] [.bool false] (k:=?_))
   refine ⟨congrArg Value.bool ?_,rfl⟩
   first | (symm; rw [isB_iff]; unfold isR; omega) | (symm; rw [← Bool.not_eq_true,isB_iff]; unfold isR; omega)
theorem hasP_ (s t:ByteArray) (hs:s.size≤1000000000000) (ht:t.size≤1000000000000) (W0:World) (H:List Grp):Tri Tryz.prog 79 #[.string s,.string t] W0 H (fun v H'=>v=.bool (H8 s t)∧H'=H):=by
 refine C2 (args:=[.string s,.string t]) (n:=18) Tryz.func79 rfl rfl (Nat.le_of_ble_eq_true rfl) ?_
 refine A1 (B3 (E':=[⟨0,[],.string s⟩,⟨1,[],.string t⟩]) [0] [0,1] (k:=?_))
 refine A0 (A1 ?_)
 refine A2 (A5 (j:=9) [0,0,0,0,0,0,0,0,0] (k:=?_))
 refine F6 (ch:=[(10,true)]) (s:=s) (vl:=none) (vh:=(some (.int .i64 (t.size:Int)))) (l:=0) (h:=(t.size:Int)) (hb:=(fun hc=>by have hg0:=chB_hd (t:=10) (c:=[]) (b:=decide ((s.size:Int) ≥ (t.size:Int))) hc kr; (try simp at hg0); omega)) (k:=A9 [0,0,6,0] [4] (k:=?_))
 refine A0 (B6 ?_)
 refine B2 [.tmp 4] [.bool ((decide ((s.size:Int) ≥ (t.size:Int)))&&((s.extract 0 t.size).toList==t.toList))] (k:=?_)
 exact ⟨by unfold H8; rfl,rfl⟩
theorem cutP0_ (s t:ByteArray) (hs:s.size≤1000000000000) (ht:t.size≤1000000000000) (W0:World) (H:List Grp):Tri Tryz.prog 62 #[.string s,.string t] W0 H (fun v H'=>v=(if H8 s t then .tuple #[.string (s.extract t.size s.size),.bool true] else .tuple #[.string s,.bool false])∧H'=H):=by
 refine C2 (args:=[.string s,.string t]) (n:=15) Tryz.func62 rfl rfl (Nat.le_of_ble_eq_true rfl) ?_
 refine A1 (B3 (E':=[⟨0,[],.string s⟩,⟨1,[],.string t⟩]) [0,0] [0,1] (k:=?_))
 refine A0 (A1 ?_)
 refine A1 (A2 ?_)
 refine A5 (j:=2) [0,0] (k:=I2 Tryz.func79 (hasP_ s t (by omega) (by first | omega | decide) _ _) ?_)
 refine A9 [0] [0,1,9] (k:=A0 ?_)
 refine B1 (b:=!(H8 s t)) kr (fun hc1=>?_) (fun hc1=>?_)
 ·
  have hsp:H8 s t=false:=by simpa using hc1
  refine A1 (G_p [0,0,0] [4,5] (k:=?_))
  refine A0 (B6 ?_)
  refine A4 (B2 [.tmp 4,.tmp 5] [.string s,.bool false] (k:=?_))
  exact ⟨by rw [if_neg (by rw [hsp]; decide)]; rfl,rfl⟩
 ·
  have hsp:H8 s t=true:=by simpa using hc1
  have hle:t.size≤s.size:=by unfold H8 at hsp; simp only [Bool.and_eq_true,decide_eq_true_eq] at hsp; omega
  refine A7 (A0 ?_)
  refine A1 (A2 ?_)
  refine A5 (j:=3) [0,0,0] (k:=F6 (ch:=[]) (s:=s) (vl:=(some (.int .i64 (t.size:Int)))) (vh:=none) (l:=(t.size:Int)) (h:=(s.size:Int)) (hb:=(fun _=>by omega)) (k:=?_))
  refine A9 [0,0] [4,5] (k:=A0 ?_)
  refine B6 (B2 [.tmp 4,.tmp 5] [.string (s.extract t.size s.size),.bool true] (k:=?_))
  exact ⟨by rw [if_pos hsp]; rfl,rfl⟩
theorem cutP_ (s t:ByteArray) (hs:s.size≤1000000000000) (ht:t.size≤1000000000000) (W0:World) (H:List Grp):Tri Tryz.prog 48 #[.string s,.string t] W0 H (fun v H'=>v=(if H8 s t then .tuple #[.string (s.extract t.size s.size),.bool true] else .tuple #[.string s,.bool false])∧H'=H):=by
 refine C2 (args:=[.string s,.string t]) (n:=11) Tryz.func48 rfl rfl (Nat.le_of_ble_eq_true rfl) ?_
 refine A1 (B3 (E':=[⟨0,[],.string s⟩,⟨1,[],.string t⟩]) [0,0] [0,1] (k:=?_))
 refine A0 (A1 ?_)
 refine A2 (A5 (j:=2) [0,0] (k:=?_))
 refine E5 Tryz.func62 (cutP0_ s t (by omega) (by first | omega | decide) _ _) ?_
 rintro _ _ ⟨rfl,rfl⟩
 cases hsp:H8 s t
 all_goals simp only [Bool.false_eq_true,if_false,if_true]
 ·
  refine A9 [0,0,0,0] [4,5] (k:=A0 ?_)
  refine B6 (B2 [.tmp 4,.tmp 5] [.string s,.bool false] (k:=?_))
  exact ⟨rfl,rfl⟩
 ·
  refine A9 [0,0,0,0] [4,5] (k:=A0 ?_)
  refine B6 (B2 [.tmp 4,.tmp 5] [.string (s.extract t.size s.size),.bool true] (k:=?_))
  exact ⟨rfl,rfl⟩
theorem idx0_ (s:ByteArray) (c:Int) (W0:World) (H:List Grp):Tri Tryz.prog 46 #[.string s,.int .u8 c] W0 H (fun v H'=>v=.int .i64 (bIdx s c)∧H'=H):=by
 refine C2 (args:=[.string s,.int .u8 c]) (n:=8) Tryz.func46 rfl rfl (Nat.le_of_ble_eq_true rfl) ?_
 refine A1 (G_p [0] [0,1] (k:=?_))
 refine A0 (A1 ?_)
 refine A2 (A5 (j:=2) [0,0] (k:=?_))
 refine L2 (ch:=[]) (f:=60) (vs:=[.string s,.int .u8 c]) (v:=.int .i64 (bIdx s c)) (e:=Extern.BytealgIndexByte.indexByte) (hf:=Tryz.func60) (hrun:=(fun w=>run_indexByte_string s c w)) (k:=B4 (E':=[⟨4,[],.int .i64 (bIdx s c)⟩]) [0] [4] (k:=?_))
 refine A0 (B6 ?_)
 refine B2 [.tmp 4] [.int .i64 (bIdx s c)] (k:=?_)
 exact ⟨rfl,rfl⟩
theorem idx_ (s:ByteArray) (c:Int) (W0:World) (H:List Grp):Tri Tryz.prog 27 #[.string s,.int .u8 c] W0 H (fun v H'=>v=.int .i64 (bIdx s c)∧H'=H):=by
 refine C2 (args:=[.string s,.int .u8 c]) (n:=8) Tryz.func27 rfl rfl (Nat.le_of_ble_eq_true rfl) ?_
 refine A1 (G_p [0] [0,1] (k:=?_))
 refine A0 (A1 ?_)
 refine A2 (A5 (j:=2) [0,0] (k:=?_))
 refine I2 Tryz.func46 (idx0_ s c _ _) (B4 (E':=[⟨4,[],.int .i64 (bIdx s c)⟩]) [0] [4] (k:=?_))
 refine A0 (B6 ?_)
 refine B2 [.tmp 4] [.int .i64 (bIdx s c)] (k:=?_)
 exact ⟨rfl,rfl⟩
end Go.Proofs.YtbnfbffiehoapaaGreatDoor
namespace Go.Proofs.YtbnfbffiehoapaaGreatDoor
open Go.Sw Go.Esc Go.RowKit
theorem cell_lt {w:World} {b off:Nat} {v:Value} (h:w.cell? ⟨b,off,none⟩=some v):b<w.heap.size:=by
  rcases Nat.lt_or_ge b w.heap.size with h' | h'
  · exact h'
  · unfold World.cell? at h
    simp only [Array.getElem?_eq_none h'] at h
    cases h
theorem tabs_sat {W0:World} {H:List Grp} {w:World} {g3 g4:Nat} (h:Lib.Utf8Tabs g3 g4 W0) (hs:Sat W0 H w):Lib.Utf8Tabs g3 g4 w:=by
  have c:∀ {b off:Nat} {v:Value},W0.cell? ⟨b,off,none⟩=some v→w.cell? ⟨b,off,none⟩=some v:=fun h=>cell_base hs (cell_lt h) h
  exact ⟨fun q hq=>c (h.1 q hq),fun i hi=>⟨c (h.2 i hi).1,c (h.2 i hi).2⟩⟩
theorem validStr (s:ByteArray) (hs:s.size≤1000000000000) (W0:World) (H:List Grp) (hW:H3 W0):Tri Tryz.prog 55 #[.string s] W0 H (fun v H'=>v=.bool (validP s.data.toList)∧H'=H):=by
  rw [validP_D]
  exact Tri_below (fun w hw=>Any.utf8_ValidString Tryz.laysValid s w (by omega) (tabs_sat hW.utf hw))
end Go.Proofs.YtbnfbffiehoapaaGreatDoor
namespace Go.Proofs.YtbnfbffiehoapaaGreatDoor
open Go Go.ChangeShapes Go.WideShapes Go.ChangeAt Go.RowKit Go.Sw Go.Lib Go.Shelf Go.Proofs
theorem frozen_below {W W':World} (h:Below W.heap.size W W') {a:Addr} (ha:a.block<W.heap.size):W'.frozen? a=W.frozen? a:=by
  unfold World.frozen?
  rw [h.block _ ha]
theorem post_below {H:Type} {enc:TypeId × Value→H} {P:Program} {f:Func} {s:ChangeSpec} {apart fresh handsOn again:Bool} {W W':World} {args:Array Value} {v:Value} {ds gs:List (DataW H)} {before pa pv:List MemPlace}
    (hW:DataW.Whole enc P f.params.toList s.vars apart W args.toList ds gs before)
    (hres:∀ (b:Nat) (sp:Nat→Bool) (hd:Bool),DataW.TrodAll enc P W' b sp hd f.resultTypes.toList (v.resultList f.resultTypes.size) (s.fn H (ds++gs)).results [])
    (hargs:∀ sp:Nat→Bool,(∀ p∈before,sp p.block=true)→DataW.TrodAll enc P W' 0 sp true f.params.toList args.toList (s.fn H (ds++gs)).args pa)
    (hvars:∀ sp:Nat→Bool,(∀ p∈before,sp p.block=true)→DataW.TrodVars enc P W' sp s.vars (s.fn H (ds++gs)).vars pv)
    (hps:before=pa++pv) (hb:Below W.heap.size W W')
    (hok:∀ (j:Nat) (t:TypeId) (r:Value),f.resultTypes[j]? = some t→(v.resultList f.resultTypes.size)[j]? = some r→Value.okWide P W' .any 0 t r) :
    s.post enc P f apart fresh handsOn again W args v W':=by
  have hold:∀ p∈before,(fun b=>decide (b<W.heap.size)) p.block=true:=fun p hp=>by simpa using hW.lt p hp
  have hlt:=hW.lt
  refine ⟨ds,gs,before,[],pa,pv,hW,hres _ _ _,hargs _ hold,hvars _ hold,hb.frame _,fun _=>?_⟩
  obtain ⟨_,_,_,_,_,hz,hn⟩:=hW
  refine ⟨hok,_,_,([]++pa)++pv,⟨[]++pa,pv,trodAll_append (hargs _ (fun _ _=>rfl)) (hres _ _ _),hvars _ (fun _ _=>rfl),rfl,?_,?_⟩,?_⟩
  · intro b off hp
    have hp':MemPlace.cell b off∈before:=by rw [hps]; simpa using hp
    rw [frozen_below hb (hlt _ hp')]
    exact hz b off hp'
  · intro ha
    have:=hn ha
    rw [hps] at this
    simpa using this
  · intro p hp _
    rw [hps]
    simpa using hp
theorem J3 {P:Program} {x:String × DataW Unit} {r:List (String × DataW Unit)} {W:World} (h:laidMet P (x::r) W):laidMet P r W:=by
  obtain ⟨ps,⟨g,t,cs,fuel,p,q,_,_,_,_,h5,h6⟩,hn,hc⟩:=h
  subst h6
  exact ⟨q,h5,(List.nodup_append.1 hn).2.1,fun b off hm=>hc b off (List.mem_append_right _ hm)⟩
theorem sat_nil (W:World):Sat W [] W:=⟨Below.refl _ _,by simp,by simp,by simp⟩
theorem eStar : "*" ++ "errors.errorString" = "*errors.errorString" := by decide
theorem eRow (u : TypeId) (h : Tryz.prog.typeName? 3 u = some "*errors.errorString") : u = 164 :=
  typeName_ptr_named (nm := "errors.errorString") (by rw [eStar]; kernel_rfl) (by kernel_rfl) (by decide) u (by rw [eStar]; exact h)
theorem eGlob : Tryz.prog.globalNamed "strconv.ErrSyntax" = some 4 := by kernel_rfl
theorem eU8:U8Extra Tryz.prog Tryz.laysValid_ren:={ n3:=by kernel_rfl,n4:=by kernel_rfl,y3:=by kernel_rfl,y4:=by kernel_rfl,c5:=by kernel_rfl,c119:=by kernel_rfl,c138:=by kernel_rfl }
def de64:List Int:=[0,1,56,2,57,49,28,3,61,58,42,50,38,29,17,4,62,47,59,36,45,43,51,22,53,39,33,30,24,18,12,5,63,55,48,27,60,41,37,16,46,35,44,21,52,32,23,11,54,26,40,15,34,20,31,10,25,14,19,9,13,8,7,6]
theorem eTz : Tryz.prog.globalNamed "math/bits.deBruijn64tab" = some 7 := by kernel_rfl
theorem base_of {W : World} (h : laidMet Tryz.prog [("math/bits.deBruijn32tab", Rows.laid_math_bits_deBruijn32tab), ("math/bits.deBruijn64tab", Rows.laid_math_bits_deBruijn64tab), ("internal/strconv.uint64pow10", Rows.laid_internal_strconv_uint64pow10), ("unicode/utf8.acceptRanges", Rows.laid_unicode_utf8_acceptRanges), ("strconv.ErrRange", Rows.laid_strconv_ErrRange), ("strconv.ErrSyntax", Rows.laid_strconv_ErrSyntax), ("unicode/utf8.first", Rows.laid_unicode_utf8_first)] W) : H3 W := by
  have h2:=J3 h
  have h6:=J3 (J3 (J3 (J3 h2)))
  refine ⟨?_,?_,?_⟩
  · obtain ⟨a0,s0,hv0,-,-,-⟩:=laid_sentinel h6 eGlob (ti:=42) (tp:=164) (te:=166) (ts:=9) (by kernel_rfl) Tryz.underlying42 eRow Tryz.underlying164 Tryz.underlying166 rfl rfl Tryz.underlying9 (by kernel_rfl) (by kernel_rfl)
    have hc:W.cell? ⟨4,0,none⟩=some (.iface 164 (.pointer (some a0))):=by
      have h0:=World.var?_cell eGlob hv0 0; simpa using h0
    exact ⟨_,cell_lt hc,hc,.inr ⟨_,_,rfl⟩⟩
  · have hT : Lib.TabIs Tryz.prog W "math/bits.deBruijn64tab" .u8 de64 := by
      rw [show Rows.laid_math_bits_deBruijn64tab=Lib.tabData .u8 de64 from by kernel_rfl] at h2
      exact Lib.tabIs_of_head (t:=168) (e:=5) (n:=64) eTz (by kernel_rfl) (by kernel_rfl) (by kernel_rfl) (by kernel_rfl) (by kernel_rfl) h2
    unfold Lib.TabIs World.var? at hT
    rw [eTz] at hT
    simp only [Option.bind_some] at hT
    cases hb:W.heap[7]? with
    | none=>rw [hb] at hT; cases hT
    | some ob =>
      rw [hb] at hT
      cases ob with
      | cells c e fz =>
        have hlt:7<W.heap.size:=(Array.getElem?_eq_some_iff.1 hb).1
        simp only [Option.some.injEq] at hT
        subst hT
        exact ⟨_,_,_,hlt,rfl,by rfl⟩
      | _=>cases hT
  · have h3 := laidMet.reads h (n := "unicode/utf8.first") (d := Rows.laid_unicode_utf8_first) (by simp)
    have h4 := laidMet.reads h (n := "unicode/utf8.acceptRanges") (d := Rows.laid_unicode_utf8_acceptRanges) (by simp)
    rw [show Rows.laid_unicode_utf8_first=Lib.firstData from by kernel_rfl] at h3
    rw [show Rows.laid_unicode_utf8_acceptRanges=Lib.acceptData from by kernel_rfl] at h4
    exact utf8Tabs_of_readsT (U8Types.of196 Tryz.laysValid) eU8 h3 h4
end Go.Proofs.YtbnfbffiehoapaaGreatDoor
namespace Go.Proofs.YtbnfbffiehoapaaGreatDoor
open Go.Sw Go.Sha Go.Esc
theorem html_ (s:ByteArray) (hs:s.size≤400000) (W0:World) (H:List Grp):Tri Tryz.prog 10 #[.string s] W0 H (fun v H'=>v=.string ⟨(C8 s.data.toList).toArray⟩∧H'=H):=by
 have hps:ByteArray.size ⟨(G5 s.data.toList).toArray⟩≤2000000:=by
  have:=plain_len s.data.toList
  rw [show s.data.toList.length=s.size from Array.length_toList] at this
  show (G5 s.data.toList).toArray.size≤_
  rw [List.size_toArray]; omega
 refine C2 (args:=[.string s]) (n:=8) Tryz.func10 rfl rfl (Nat.le_of_ble_eq_true rfl) ?_
 refine A1 (B3 (E':=[⟨0,[],.string s⟩]) [0] [0] (k:=?_))
 refine A0 (A1 ?_)
 refine A2 (C4 (ch:=[]) (e:=9) (l:=[(0,.string (ByteArray.mk #[38])),(1,.string (ByteArray.mk #[38,97,109,112,59])),(2,.string (ByteArray.mk #[60])),(3,.string (ByteArray.mk #[38,108,116,59])),(4,.string (ByteArray.mk #[62])),(5,.string (ByteArray.mk #[38,103,116,59])),(6,.string (ByteArray.mk #[34])),(7,.string (ByteArray.mk #[38,113,117,111,116,59])),(8,.string (ByteArray.mk #[39])),(9,.string (ByteArray.mk #[38,35,51,57,59]))]) (c:=[.string (ByteArray.mk #[38]),.string (ByteArray.mk #[38,97,109,112,59]),.string (ByteArray.mk #[60]),.string (ByteArray.mk #[38,108,116,59]),.string (ByteArray.mk #[62]),.string (ByteArray.mk #[38,103,116,59]),.string (ByteArray.mk #[34]),.string (ByteArray.mk #[38,113,117,111,116,59]),.string (ByteArray.mk #[39]),.string (ByteArray.mk #[38,35,51,57,59])]) (k:=(fun b1=>?_)))
 refine E5 Tryz.func23 (newRep_ b1 _ _) ?_
 rintro _ _ ⟨rb,ra,rcap,rg,rfl,hOwn,rfl⟩
 have hRT:Rd (inG rg) ra G2:=by
  obtain ⟨a2,c2,e,_,h⟩:=hOwn.shape
  injection e with e1; subst e1; exact h
 refine A5 (j:=3) [0] (k:=I2 Tryz.func25 (plain_ s (by omega) _ _) ?_)
 refine E5 Tryz.func24 (repReplace_ rb ra rcap rg hRT (bk (G5 s.data.toList)) (bk (C8 s.data.toList)) (fun c aT cT gT a38 c38 g38 a60 c60 g60 a62 c62 g62 a34 c34 g34 a39 c39 g39 W1 H1 hT hR=>tabReplace_ c c38 c60 c62 c34 c39 aT cT gT a38 a60 a62 a34 a39 g38 g60 g62 g34 g39 (bk (G5 s.data.toList)) hps hT hR W1 H1) _ _) ?_
 rintro _ _ ⟨rfl,rfl⟩
 refine A9 [0] [2] (k:=A0 ?_)
 refine B6 (D9 (H':=H) (fun w h=>(h.erase 0)) ?_)
 refine B2 [.tmp 2] [.string (bk (C8 s.data.toList))] (k:=?_)
 exact ⟨rfl,rfl⟩
end Go.Proofs.YtbnfbffiehoapaaGreatDoor
namespace Go.Proofs.YtbnfbffiehoapaaGreatDoor
open Go.Sw Go.Sha Go.Esc Go.RowKit
theorem lit38:(⟨#[Nat.toUInt8 38]⟩:ByteArray).data.toList=[38]:=rfl
theorem sz38:(⟨#[Nat.toUInt8 38]⟩:ByteArray).size=1:=rfl
theorem toNat1 (m:Nat):Int.toNat ((m:Int)+1)=m+1:=by omega
theorem M5 (s:ByteArray) (k:Nat):(s.extract k s.size).size=s.size - k:=by rw [ByteArray.size_extract,Nat.min_self]
theorem w32i {x:Int} (h0:0≤x) (h1:x≤2147483647):IntKind.wrap .i32 x=x:=by
  have e:∀ y,IntKind.wrap .i32 y=if y % 4294967296<2147483648 then y % 4294967296 else y % 4294967296 - 4294967296:=by intro y; first | rfl | (simp [IntKind.wrap,IntKind.bits,IntKind.signed]; split <;> split <;> omega)
  rw [e]; split <;> omega
theorem number10_ (s:ByteArray) (hs:s.size≤1000000000000) (W0:World) (H:List Grp) (hW:H3 W0):Tri Tryz.prog 49 #[.string s,.int .i64 10,.int .i64 7] W0 H (fun v H'=>v=.int .i64 (G6 s.data.toList 10 7)∧H'=H):=by
 refine C2 (args:=[.string s,.int .i64 10,.int .i64 7]) (n:=42) Tryz.func49 rfl rfl (Nat.le_of_ble_eq_true rfl) ?_
 refine A1 (G_p [0] [0,1,2] (k:=?_))
 refine A0 (A1 ?_)
 refine A1 (G_p [0,0,0,0,0,0,0,0,5] [0,1,17] (k:=?_))
 refine A0 (B1 (b:=((s.size:Int)==0)||(decide ((s.size:Int) > 7))) kr (fun hc1=>?_) (fun hc1=>?_))
 ·
  simp only [Bool.or_eq_true,decide_eq_true_eq,beq_iff_eq,gt_iff_lt] at hc1
  refine A1 (B3 (E':=[⟨6,[],.int .i64 (-1)⟩]) [0] [6] (k:=?_))
  refine A0 (B6 ?_)
  refine A4 (B2 [.tmp 6] [.int .i64 (-1)] (k:=?_))
  exact ⟨congrArg (Value.int .i64) (by unfold G6; rw [if_pos (by rw [C5]; omega)]),rfl⟩
 ·
  simp only [Bool.or_eq_false_iff,decide_eq_false_iff_not,beq_eq_false_iff_ne,gt_iff_lt] at hc1
  refine A7 (A0 ?_)
  refine A1 (A2 ?_)
  refine A5 (j:=2) [0,0] (k:=E5 Tryz.func63 (parse10_ s (by omega) (by omega) _ _ hW) ?_)
  rintro _ _ ⟨⟨n,hV,hn0,hn1,rfl⟩ | ⟨hV,N,rfl⟩,rfl⟩
  ·
   have hp:=pow16 (show s.size≤7 by omega)
   refine A9 [0,0,0,0,0] [7,8] (k:=A0 ?_)
   refine A1 (A1 ?_)
   refine A2 (A5 (j:=1) [0] (k:=?_))
   refine J1 (ch:=[]) (v:=.nilIface) (e:=true) true (hv:=.inl ⟨rfl,rfl⟩) (k:=A5 (j:=13) [0,0,0,3,0,0,0,5,0,0,0] (k:=?_))
   refine F8 (ch:=[(34,false)]) (f:=64) (fst:=#[]) (caps:=#[]) (vs:=[.int .i32 (IntKind.wrap .i32 n)]) (v:=.bool (isB (IntKind.wrap .i32 n))) (hf:=Tryz.func64) (hc:=(fun hc=>vRune_ (IntKind.wrap .i32 n) _ _)) (k:=A9 [0,5] [7,39] (k:=?_))
   refine A0 (B1 (b:=((n==0)||(decide (n > 1114111)))||(!(isB (IntKind.wrap .i32 n)))) kr (fun hc2=>?_) (fun hc2=>?_))
   ·
    simp only [Bool.or_eq_true,decide_eq_true_eq,beq_iff_eq,gt_iff_lt,Bool.not_eq_true'] at hc2
    have hbad:=hc2
    refine A1 (B3 (E':=[⟨6,[],.int .i64 (-1)⟩]) [0] [6] (k:=?_))
    refine A0 (B6 ?_)
    refine A4 (B2 [.tmp 6] [.int .i64 (-1)] (k:=?_))
    exact ⟨congrArg (Value.int .i64) (by unfold G6; rw [if_neg (by rw [C5]; omega),hV]; dsimp only; rw [if_pos]; unfold isB; by_cases hn:n=0; exact .inl hn; right; rw [← Bool.not_eq_true]; intro hb; have hr:=isB_iff.1 hb; unfold isR at hr; rcases hbad with (h | h) | h; exact hn h; omega; rw [w32i (by omega) (by omega)] at h; rw [show isB n=true from hb] at h; cases h),rfl⟩
   ·
    simp only [Bool.or_eq_false_iff,decide_eq_false_iff_not,beq_eq_false_iff_ne,gt_iff_lt,Bool.not_eq_false'] at hc2
    have hok:=hc2
    refine A7 (A0 ?_)
    refine A1 (A2 ?_)
    refine A5 (j:=2) [0,0] (k:=D1 41 n (by omega) (by omega) kr ?_)
    refine B4 (E':=[⟨6,[],.int .i64 n⟩]) [0] [6] (k:=A0 ?_)
    refine B6 (B2 [.tmp 6] [.int .i64 n] (k:=?_))
    exact ⟨congrArg (Value.int .i64) (by unfold G6; rw [if_neg (by rw [C5]; omega),hV]; dsimp only; rw [if_neg]; rintro (h | h); exact hok.1.1 h; have h2:=hok.2; rw [w32i (by omega) (by omega),h] at h2; cases h2),rfl⟩
  ·
   refine A9 [0,0,0,0,0] [7,8] (k:=A0 ?_)
   refine A1 (A1 ?_)
   refine A2 (A5 (j:=1) [0] (k:=?_))
   refine J1 (ch:=[]) (v:=.iface 139 (pt N)) (e:=false) true (hv:=.inr ⟨⟨_,_,rfl⟩,rfl⟩) (k:=A9 [0,1,1,2,0,1,1,2,0,1,1,1,1,2] [7,39] (k:=?_))
   refine A0 (B9 kr ?_)
   refine A1 (B3 (E':=[⟨6,[],.int .i64 (-1)⟩]) [0] [6] (k:=?_))
   refine A0 (B6 ?_)
   refine A4 (B2 [.tmp 6] [.int .i64 (-1)] (k:=?_))
   exact ⟨congrArg (Value.int .i64) (by unfold G6; rw [if_neg (by rw [C5]; omega),hV]),rfl⟩
theorem number16_ (s:ByteArray) (hs:s.size≤1000000000000) (W0:World) (H:List Grp) (hW:H3 W0):Tri Tryz.prog 49 #[.string s,.int .i64 16,.int .i64 6] W0 H (fun v H'=>v=.int .i64 (G6 s.data.toList 16 6)∧H'=H):=by
 refine C2 (args:=[.string s,.int .i64 16,.int .i64 6]) (n:=42) Tryz.func49 rfl rfl (Nat.le_of_ble_eq_true rfl) ?_
 refine A1 (G_p [0] [0,1,2] (k:=?_))
 refine A0 (A1 ?_)
 refine A1 (G_p [0,0,0,0,0,0,0,0,5] [0,1,17] (k:=?_))
 refine A0 (B1 (b:=((s.size:Int)==0)||(decide ((s.size:Int) > 6))) kr (fun hc1=>?_) (fun hc1=>?_))
 ·
  simp only [Bool.or_eq_true,decide_eq_true_eq,beq_iff_eq,gt_iff_lt] at hc1
  refine A1 (B3 (E':=[⟨6,[],.int .i64 (-1)⟩]) [0] [6] (k:=?_))
  refine A0 (B6 ?_)
  refine A4 (B2 [.tmp 6] [.int .i64 (-1)] (k:=?_))
  exact ⟨congrArg (Value.int .i64) (by unfold G6; rw [if_pos (by rw [C5]; omega)]),rfl⟩
 ·
  simp only [Bool.or_eq_false_iff,decide_eq_false_iff_not,beq_eq_false_iff_ne,gt_iff_lt] at hc1
  refine A7 (A0 ?_)
  refine A1 (A2 ?_)
  refine A5 (j:=2) [0,0] (k:=E5 Tryz.func63 (parse16_ s (by omega) (by omega) _ _ hW) ?_)
  rintro _ _ ⟨⟨n,hV,hn0,hn1,rfl⟩ | ⟨hV,N,rfl⟩,rfl⟩
  ·
   have hp:=pow16 (show s.size≤7 by omega)
   refine A9 [0,0,0,0,0] [7,8] (k:=A0 ?_)
   refine A1 (A1 ?_)
   refine A2 (A5 (j:=1) [0] (k:=?_))
   refine J1 (ch:=[]) (v:=.nilIface) (e:=true) true (hv:=.inl ⟨rfl,rfl⟩) (k:=A5 (j:=13) [0,0,0,3,0,0,0,5,0,0,0] (k:=?_))
   refine F8 (ch:=[(34,false)]) (f:=64) (fst:=#[]) (caps:=#[]) (vs:=[.int .i32 (IntKind.wrap .i32 n)]) (v:=.bool (isB (IntKind.wrap .i32 n))) (hf:=Tryz.func64) (hc:=(fun hc=>vRune_ (IntKind.wrap .i32 n) _ _)) (k:=A9 [0,5] [7,39] (k:=?_))
   refine A0 (B1 (b:=((n==0)||(decide (n > 1114111)))||(!(isB (IntKind.wrap .i32 n)))) kr (fun hc2=>?_) (fun hc2=>?_))
   ·
    simp only [Bool.or_eq_true,decide_eq_true_eq,beq_iff_eq,gt_iff_lt,Bool.not_eq_true'] at hc2
    have hbad:=hc2
    refine A1 (B3 (E':=[⟨6,[],.int .i64 (-1)⟩]) [0] [6] (k:=?_))
    refine A0 (B6 ?_)
    refine A4 (B2 [.tmp 6] [.int .i64 (-1)] (k:=?_))
    exact ⟨congrArg (Value.int .i64) (by unfold G6; rw [if_neg (by rw [C5]; omega),hV]; dsimp only; rw [if_pos]; unfold isB; by_cases hn:n=0; exact .inl hn; right; rw [← Bool.not_eq_true]; intro hb; have hr:=isB_iff.1 hb; unfold isR at hr; rcases hbad with (h | h) | h; exact hn h; omega; rw [w32i (by omega) (by omega)] at h; rw [show isB n=true from hb] at h; cases h),rfl⟩
   ·
    simp only [Bool.or_eq_false_iff,decide_eq_false_iff_not,beq_eq_false_iff_ne,gt_iff_lt,Bool.not_eq_false'] at hc2
    have hok:=hc2
    refine A7 (A0 ?_)
    refine A1 (A2 ?_)
    refine A5 (j:=2) [0,0] (k:=D1 41 n (by omega) (by omega) kr ?_)
    refine B4 (E':=[⟨6,[],.int .i64 n⟩]) [0] [6] (k:=A0 ?_)
    refine B6 (B2 [.tmp 6] [.int .i64 n] (k:=?_))
    exact ⟨congrArg (Value.int .i64) (by unfold G6; rw [if_neg (by rw [C5]; omega),hV]; dsimp only; rw [if_neg]; rintro (h | h); exact hok.1.1 h; have h2:=hok.2; rw [w32i (by omega) (by omega),h] at h2; cases h2),rfl⟩
  ·
   refine A9 [0,0,0,0,0] [7,8] (k:=A0 ?_)
   refine A1 (A1 ?_)
   refine A2 (A5 (j:=1) [0] (k:=?_))
   refine J1 (ch:=[]) (v:=.iface 139 (pt N)) (e:=false) true (hv:=.inr ⟨⟨_,_,rfl⟩,rfl⟩) (k:=A9 [0,1,1,2,0,1,1,2,0,1,1,1,1,2] [7,39] (k:=?_))
   refine A0 (B9 kr ?_)
   refine A1 (B3 (E':=[⟨6,[],.int .i64 (-1)⟩]) [0] [6] (k:=?_))
   refine A0 (B6 ?_)
   refine A4 (B2 [.tmp 6] [.int .i64 (-1)] (k:=?_))
   exact ⟨congrArg (Value.int .i64) (by unfold G6; rw [if_neg (by rw [C5]; omega),hV]),rfl⟩
theorem reference_ (s:ByteArray) (hs:s.size≤1000000000000) (W0:World) (H:List Grp) (hW:H3 W0):Tri Tryz.prog 30 #[.string s] W0 H (fun v H'=>v=.int .i64 (refM s.data.toList)∧H'=H):=by
 refine C2 (args:=[.string s]) (n:=44) Tryz.func30 rfl rfl (Nat.le_of_ble_eq_true rfl) ?_
 refine A1 (B3 (E':=[⟨0,[],.string s⟩]) [0] [0] (k:=?_))
 refine A0 (A1 ?_)
 refine A1 (B3 (E':=[⟨0,[],.string s⟩,⟨9,[],.string s⟩]) [0] [0,9] (k:=?_))
 refine A0 (B8 ?_)
 refine A1 (G_p [0,0] [0,9,10] (k:=?_))
 refine A0 (B1 (b:=s.toList==(ByteArray.mk #[97,109,112]).toList) kr (fun hc1=>?_) (fun hc1=>?_))
 ·
  have e0:=(eqB _ _).1 hc1
  refine A1 (B3 (E':=[⟨2,[],.int .i64 38⟩]) [0] [2] (k:=?_))
  refine A0 (B6 ?_)
  refine B0 (A4 ?_)
  refine B2 [.tmp 2] [.int .i64 38] (k:=?_)
  exact ⟨congrArg (Value.int .i64) (by unfold refM; rw [if_pos e0]),rfl⟩
 ·
  have e0:=(eqBf _ _).1 hc1
  refine A1 (G_p [0,0] [0,9,12] (k:=?_))
  refine A0 (B1 (b:=s.toList==(ByteArray.mk #[108,116]).toList) kr (fun hc2=>?_) (fun hc2=>?_))
  ·
   have e1:=(eqB _ _).1 hc2
   refine A1 (B3 (E':=[⟨2,[],.int .i64 60⟩]) [0] [2] (k:=?_))
   refine A0 (B6 ?_)
   refine B0 (A4 ?_)
   refine B2 [.tmp 2] [.int .i64 60] (k:=?_)
   exact ⟨congrArg (Value.int .i64) (by unfold refM; rw [if_neg e0,if_pos e1]),rfl⟩
  ·
   have e1:=(eqBf _ _).1 hc2
   refine A1 (G_p [0,0] [0,9,14] (k:=?_))
   refine A0 (B1 (b:=s.toList==(ByteArray.mk #[103,116]).toList) kr (fun hc3=>?_) (fun hc3=>?_))
   ·
    have e2:=(eqB _ _).1 hc3
    refine A1 (B3 (E':=[⟨2,[],.int .i64 62⟩]) [0] [2] (k:=?_))
    refine A0 (B6 ?_)
    refine B0 (A4 ?_)
    refine B2 [.tmp 2] [.int .i64 62] (k:=?_)
    exact ⟨congrArg (Value.int .i64) (by unfold refM; rw [if_neg e0,if_neg e1,if_pos e2]),rfl⟩
   ·
    have e2:=(eqBf _ _).1 hc3
    refine A1 (G_p [0,0] [0,9,16] (k:=?_))
    refine A0 (B1 (b:=s.toList==(ByteArray.mk #[113,117,111,116]).toList) kr (fun hc4=>?_) (fun hc4=>?_))
    ·
     have e3:=(eqB _ _).1 hc4
     refine A1 (B3 (E':=[⟨2,[],.int .i64 34⟩]) [0] [2] (k:=?_))
     refine A0 (B6 ?_)
     refine B0 (A4 ?_)
     refine B2 [.tmp 2] [.int .i64 34] (k:=?_)
     exact ⟨congrArg (Value.int .i64) (by unfold refM; rw [if_neg e0,if_neg e1,if_neg e2,if_pos e3]),rfl⟩
    ·
     have e3:=(eqBf _ _).1 hc4
     refine A1 (G_p [0,0] [0,18] (k:=?_))
     refine A0 (B1 (b:=s.toList==(ByteArray.mk #[97,112,111,115]).toList) kr (fun hc5=>?_) (fun hc5=>?_))
     ·
      have e4:=(eqB _ _).1 hc5
      refine A1 (B3 (E':=[⟨2,[],.int .i64 39⟩]) [0] [2] (k:=?_))
      refine A0 (B6 ?_)
      refine B0 (A4 ?_)
      refine B2 [.tmp 2] [.int .i64 39] (k:=?_)
      exact ⟨congrArg (Value.int .i64) (by unfold refM; rw [if_neg e0,if_neg e1,if_neg e2,if_neg e3,if_pos e4]),rfl⟩
     ·
      have e4:=(eqBf _ _).1 hc5
      refine A7 (B7 ?_)
      refine A0 (A1 ?_)
      refine A1 (A2 ?_)
      refine A5 (j:=1) [0] (k:=E5 Tryz.func48 (cutP_ s (ByteArray.mk #[35,120]) (by omega) (by first | omega | decide) _ _) ?_)
      rintro _ _ ⟨rfl,rfl⟩
      cases hsp:H8 s (ByteArray.mk #[35,120])
      all_goals simp only [Bool.false_eq_true,if_false,if_true]
      ·
       have hp44:¬ s.data.toList.take 2=[35,120]:=(starts_iffF _ _).1 hsp
       refine B4 (E':=[⟨0,[],.string s⟩,⟨3,[],.string s⟩,⟨4,[],.bool false⟩]) [0,0,0,0,0] [0,3,4] (k:=A0 ?_)
       refine A1 (G_p [0] [0,3,25] (k:=?_))
       refine A0 (D6 kr ?_)
       refine A7 (A0 ?_)
       refine A1 (A1 ?_)
       refine A2 (A5 (j:=1) [0] (k:=?_))
       refine E5 Tryz.func48 (cutP_ s (ByteArray.mk #[35,88]) (by omega) (by first | omega | decide) _ _) ?_
       rintro _ _ ⟨rfl,rfl⟩
       cases hsp:H8 s (ByteArray.mk #[35,88])
       all_goals simp only [Bool.false_eq_true,if_false,if_true]
       ·
        have hp47:¬ s.data.toList.take 2=[35,88]:=(starts_iffF _ _).1 hsp
        refine A9 [0,0,0,0,0] [0,5,6] (k:=A0 ?_)
        refine A1 (G_p [0] [0,5,33] (k:=?_))
        refine A0 (D6 kr ?_)
        refine A7 (A0 ?_)
        refine A1 (A1 ?_)
        refine A2 (A5 (j:=1) [0] (k:=?_))
        refine E5 Tryz.func48 (cutP_ s (ByteArray.mk #[35]) (by omega) (by first | omega | decide) _ _) ?_
        rintro _ _ ⟨rfl,rfl⟩
        cases hsp:H8 s (ByteArray.mk #[35])
        all_goals simp only [Bool.false_eq_true,if_false,if_true]
        ·
         have hp50:¬ s.data.toList.take 1=[35]:=(starts_iffF _ _).1 hsp
         refine A9 [0,0,0,0,0] [7,8] (k:=A0 ?_)
         refine A1 (G_p [0] [7,41] (k:=?_))
         refine A0 (D6 kr ?_)
         refine A7 (A0 ?_)
         refine A1 (B3 (E':=[⟨2,[],.int .i64 (-1)⟩]) [0] [2] (k:=?_))
         refine A0 (B6 ?_)
         refine B2 [.tmp 2] [.int .i64 (-1)] (k:=?_)
         exact ⟨congrArg (Value.int .i64) (by unfold refM; rw [if_neg e0,if_neg e1,if_neg e2,if_neg e3,if_neg e4,if_neg hp44,if_neg hp47,if_neg hp50]),rfl⟩
        ·
         have hp50:s.data.toList.take 1=[35]:=(starts_iff _ _).1 hsp
         refine A9 [0,0,0,0,0] [7,8] (k:=A0 ?_)
         refine A1 (G_p [0] [7,41] (k:=?_))
         refine A0 (B9 kr ?_)
         refine A1 (A2 ?_)
         refine A5 (j:=1) [0] (k:=E5 Tryz.func49 (number10_ (s.extract (ByteArray.mk #[35]).size s.size) (by first | omega | (rw [ByteArray.size_extract]; omega)) _ _ hW) ?_)
         rintro _ _ ⟨rfl,rfl⟩
         refine B4 (E':=[⟨2,[],.int .i64 (G6 (s.extract (ByteArray.mk #[35]).size s.size).data.toList 10 7)⟩]) [0] [2] (k:=A0 ?_)
         refine B6 (A4 ?_)
         refine B2 [.tmp 2] [.int .i64 (G6 (s.extract (ByteArray.mk #[35]).size s.size).data.toList 10 7)] (k:=?_)
         exact ⟨congrArg (Value.int .i64) (by unfold refM; rw [if_neg e0,if_neg e1,if_neg e2,if_neg e3,if_neg e4,if_neg hp44,if_neg hp47,if_pos hp50,G4]; rfl),rfl⟩
       ·
        have hp47:s.data.toList.take 2=[35,88]:=(starts_iff _ _).1 hsp
        refine A9 [0,0,0,0,0] [0,5,6] (k:=A0 ?_)
        refine A1 (G_p [0] [0,5,33] (k:=?_))
        refine A0 (B9 kr ?_)
        refine A1 (A2 ?_)
        refine A5 (j:=1) [0] (k:=E5 Tryz.func49 (number16_ (s.extract (ByteArray.mk #[35,88]).size s.size) (by first | omega | (rw [ByteArray.size_extract]; omega)) _ _ hW) ?_)
        rintro _ _ ⟨rfl,rfl⟩
        refine A9 [0] [2] (k:=A0 ?_)
        refine B6 (A4 ?_)
        refine B2 [.tmp 2] [.int .i64 (G6 (s.extract (ByteArray.mk #[35,88]).size s.size).data.toList 16 6)] (k:=?_)
        exact ⟨congrArg (Value.int .i64) (by unfold refM; rw [if_neg e0,if_neg e1,if_neg e2,if_neg e3,if_neg e4,if_neg hp44,if_pos hp47,G4]; rfl),rfl⟩
      ·
       have hp44:s.data.toList.take 2=[35,120]:=(starts_iff _ _).1 hsp
       refine B4 (E':=[⟨0,[],.string s⟩,⟨3,[],.string (s.extract (ByteArray.mk #[35,120]).size s.size)⟩,⟨4,[],.bool true⟩]) [0,0,0,0,0] [0,3,4] (k:=A0 ?_)
       refine A1 (G_p [0] [0,3,25] (k:=?_))
       refine A0 (B9 kr ?_)
       refine A1 (A2 ?_)
       refine A5 (j:=1) [0] (k:=E5 Tryz.func49 (number16_ (s.extract (ByteArray.mk #[35,120]).size s.size) (by first | omega | (rw [ByteArray.size_extract]; omega)) _ _ hW) ?_)
       rintro _ _ ⟨rfl,rfl⟩
       refine A9 [0] [2] (k:=A0 ?_)
       refine B6 (A4 ?_)
       refine B2 [.tmp 2] [.int .i64 (G6 (s.extract (ByteArray.mk #[35,120]).size s.size).data.toList 16 6)] (k:=?_)
       exact ⟨congrArg (Value.int .i64) (by unfold refM; rw [if_neg e0,if_neg e1,if_neg e2,if_neg e3,if_neg e4,if_pos hp44,G4]; rfl),rfl⟩
theorem unhtml_ (s:ByteArray) (hs:s.size≤10000000000) (W0:World) (H:List Grp) (hW:H3 W0):Tri Tryz.prog 12 #[.string s] W0 H (fun v H'=>v=.string ⟨(unL s.data.toList).toArray⟩∧H'=H):=by
 refine C2 (args:=[.string s]) (n:=41) Tryz.func12 rfl rfl (Nat.le_of_ble_eq_true rfl) ?_
 refine A1 (B3 (E':=[⟨0,[],.string s⟩]) [0] [0] (k:=?_))
 refine A0 (A1 ?_)
 refine A2 (N1 (ch:=[]) (z:=.agg #[.pointer none,.slice none 0 0]) (k:=(fun b1=>?_)))
 refine GL_heap rfl (H':=([(b1,.cells #[.pointer none,.slice none 0 0] 39 (0,0))]::[]::H)) (fun w h=>h.flat (List.Perm.refl _)) (B4 (E':=[⟨0,[],.string s⟩,⟨3,[],pt b1⟩]) [] [0,3] (k:=?_))
 refine A0 (B8 ?_)
 refine M2 (EI:=(fun ξ:Value × Value × Grp × ByteArray × ByteArray=>[⟨0,[],.string ξ.2.2.2.2⟩,⟨3,[],pt b1⟩])) (HI:=(fun ξ:Value × Value × Grp × ByteArray × ByteArray=>([(b1,.cells #[ξ.1,ξ.2.1] 39 (0,0))]::ξ.2.2.1::H))) (Φ:=(fun ξ:Value × Value × Grp × ByteArray × ByteArray=>(Bld b1 ξ.1)∧(BOwn ξ.2.1 ξ.2.2.1 ξ.2.2.2.1)∧(ξ.2.2.2.2.size≤s.size)∧(ξ.2.2.2.1.size+4 * ξ.2.2.2.2.size≤4 * s.size)∧(ξ.2.2.2.1.data.toList++unL ξ.2.2.2.2.data.toList=unL s.data.toList))) (μ:=(fun ξ:Value × Value × Grp × ByteArray × ByteArray=>ξ.2.2.2.2.size)) (s0:=(.pointer none,.slice none 0 0,[],.empty,s)) [0,3] kr rfl ⟨bld0,bown0,(Nat.le_refl _),(by show 0+4 * s.size≤4 * s.size; omega),(by rfl)⟩ ?_
 rintro ⟨p,v,g,t,sv⟩ ⟨hbp,hB,hz,hts,hT⟩
 dsimp only at hbp hB hz hts hT
 refine B8 (A1 ?_)
 refine A2 (A5 (j:=1) [0] (k:=?_))
 refine E5 Tryz.func27 (idx_ sv 38 _ _) ?_
 rintro _ _ ⟨rfl,rfl⟩
 rcases bIdx_spec sv (c:=38) (by decide) (by decide) with ⟨k,hk,hik,hbk,hnk⟩ | ⟨hik,hnk⟩
 all_goals rw [hik]
 ·
  have hz1:(sv.extract k sv.size).size=sv.size - k:=M5 sv k
  have hz0:(sv.extract 0 k).size=k:=by rw [ByteArray.size_extract]; omega
  have hz4:((sv.extract k sv.size).extract 1 (sv.extract k sv.size).size).size=sv.size - k - 1:=by rw [M5,hz1]
  refine A9 [0] [0,3,4] (k:=A0 ?_)
  refine A1 (A1 ?_)
  refine G_p [0,0] [0,3,4,10] (k:=A0 ?_)
  refine B1 (b:=decide (((k:Nat):Int)<0)) kr (fun hc2=>?_) (fun hc2=>?_)
  ·
   simp only [decide_eq_true_eq] at hc2; omega
  ·
   skip
   refine A7 (A0 ?_)
   refine A1 (A2 ?_)
   refine A5 (j:=2) [0,0] (k:=F6 (ch:=[]) (s:=sv) (vl:=none) (vh:=(some (.int .i64 ((k:Nat):Int)))) (l:=0) (h:=((k:Nat):Int)) (hb:=(by omega)) (k:=?_))
   refine E5 Tryz.func28 (I0 b1 (p) (v) g t (sv.extract 0 k) hbp hB (by (try simp only [C6]); omega) _ _) ?_
   rintro _ _ ⟨v3,g4,hB5,rfl⟩
   refine A9 [] [0,3,4] (k:=A0 ?_)
   refine A1 (A2 ?_)
   refine A5 (j:=2) [0,0] (k:=F6 (ch:=[]) (s:=sv) (vl:=(some (.int .i64 ((k:Nat):Int)))) (vh:=none) (l:=((k:Nat):Int)) (h:=(sv.size:Int)) (hb:=(by omega)) (k:=?_))
   refine A9 [0] [0,3] (k:=A0 ?_)
   refine A1 (G_p [0] [0,3,5] (k:=?_))
   refine A0 (A1 ?_)
   refine A2 (A5 (j:=1) [0] (k:=?_))
   refine E5 Tryz.func27 (idx_ (sv.extract k sv.size) 59 _ _) ?_
   rintro _ _ ⟨rfl,rfl⟩
   rcases bIdx_spec (sv.extract k sv.size) (c:=59) (by decide) (by decide) with ⟨m,hm,him,hbm,hnm⟩ | ⟨him,hnm⟩
   all_goals rw [him]
   ·
    have hz2:((sv.extract k sv.size).extract (m+1) (sv.extract k sv.size).size).size=sv.size - k - (m+1):=by rw [M5,hz1]
    have hz3:((sv.extract k sv.size).extract 1 m).size=m - 1:=by rw [ByteArray.size_extract]; omega
    refine B4 (E':=[⟨0,[],.string (sv.extract k sv.size)⟩,⟨3,[],pt b1⟩,⟨5,[],.int .i64 (-1)⟩,⟨6,[],.int .i64 ((m:Nat):Int)⟩]) [0] [0,3,5,6] (k:=A0 ?_)
    refine A1 (A1 ?_)
    refine G_p [0,0] [0,3,5,6,24] (k:=A0 ?_)
    refine B1 (b:=decide (((m:Nat):Int) > 0)) kr (fun hc6=>?_) (fun hc6=>?_)
    ·
     have hm0:=m_pos hk hbk hbm
     refine A2 (A5 (j:=2) [0,0] (k:=?_))
     refine F6 (ch:=[]) (s:=sv.extract k sv.size) (vl:=(some (.int .i64 1))) (vh:=(some (.int .i64 ((m:Nat):Int)))) (l:=1) (h:=((m:Nat):Int)) (hb:=(by omega)) (k:=E5 Tryz.func30 (reference_ ((sv.extract k sv.size).extract 1 m) (by omega) _ _ hW) ?_)
     rintro _ _ ⟨rfl,rfl⟩
     refine A9 [0] [0,3,5,6] (k:=A0 ?_)
     refine A1 (A1 ?_)
     refine G_p [0,0] [0,3,5,6,30] (k:=A0 ?_)
     refine B1 (b:=decide ((refM ((sv.extract k sv.size).extract 1 m).data.toList)<0)) kr (fun hc7=>?_) (fun hc7=>?_)
     ·
      simp only [decide_eq_true_eq] at hc7
      refine A1 (A2 ?_)
      refine E5 Tryz.func31 (G9 b1 (pt b1) (v3) g4 (t++(sv.extract 0 k)) (Nat.toUInt8 38) bld1 hB5 (by (try simp only [C6]); omega) _ _) ?_
      rintro _ _ ⟨v8,g9,hB10,rfl⟩
      refine A9 [] [0,3] (k:=A0 ?_)
      refine A1 (A2 ?_)
      refine A5 (j:=1) [0] (k:=F6 (ch:=[]) (s:=sv.extract k sv.size) (vl:=(some (.int .i64 1))) (vh:=none) (l:=1) (h:=((sv.extract k sv.size).size:Int)) (hb:=(by omega)) (k:=?_))
      refine A9 [0] [0,3] (k:=A0 ?_)
      refine G8 (B5 ?_)
      refine C9 (E9 (s':=(pt b1,v8,g9,((t++(sv.extract 0 k))++⟨#[Nat.toUInt8 38]⟩),(sv.extract k sv.size).extract 1 (sv.extract k sv.size).size)) [0,3] kr rfl ⟨bld1,hB10,(by dsimp only; omega),(by dsimp only; simp only [C6,sz38]; omega),(by dsimp only; rw [← hT,(unB hk hbk hnk hm hbm hnm hm0).1 (by omega),E7,E7,ext_take,lit38]; simp only [List.append_assoc,List.cons_append,List.nil_append])⟩ (by dsimp only; omega))
     ·
      simp only [decide_eq_false_iff_not] at hc7
      have hri:=refM_isR (t:=((sv.extract k sv.size).extract 1 m).data.toList) (by omega)
      unfold isR at hri
      refine A7 (A0 ?_)
      refine A1 (A2 ?_)
      refine D7 (E':=[⟨35,[],.int .i32 (IntKind.wrap .i32 (refM ((sv.extract k sv.size).extract 1 m).data.toList))⟩,⟨0,[],.string (sv.extract k sv.size)⟩,⟨3,[],pt b1⟩,⟨6,[],.int .i64 ((m:Nat):Int)⟩]) (j:=2) [0,0] (k:=E3 (E':=[⟨35,[],.int .i32 (refM ((sv.extract k sv.size).extract 1 m).data.toList)⟩,⟨0,[],.string (sv.extract k sv.size)⟩,⟨3,[],pt b1⟩,⟨6,[],.int .i64 ((m:Nat):Int)⟩]) (by rw [w32i (by omega) (by omega)]) ?_)
      refine E5 Tryz.func32 (writeRune b1 (pt b1) (v3) g4 (t++(sv.extract 0 k)) (refM ((sv.extract k sv.size).extract 1 m).data.toList) bld1 hB5 (refM_isR (by omega)) (by (try simp only [C6]); omega) _ _) ?_
      rintro _ _ ⟨v11,g12,hB13,rfl⟩
      refine A9 [] [0,3,6] (k:=A0 ?_)
      refine A2 (A5 (j:=3) [0,0,0] (k:=?_))
      refine D1 39 (((m:Nat):Int)+1) (by omega) (by omega) kr (F6 (ch:=[]) (s:=sv.extract k sv.size) (vl:=(some (.int .i64 (((m:Nat):Int)+1)))) (vh:=none) (l:=((m:Nat):Int)+1) (h:=((sv.extract k sv.size).size:Int)) (hb:=(by omega)) (k:=?_))
      refine E3 (E':=[⟨40,[],.string ((sv.extract k sv.size).extract (m+1) (sv.extract k sv.size).size)⟩,⟨39,[],.int .i64 (((m:Nat):Int)+1)⟩,⟨38,[],.int .i64 ((m:Nat):Int)⟩,⟨37,[],.string (sv.extract k sv.size)⟩,⟨0,[],.string (sv.extract k sv.size)⟩,⟨3,[],pt b1⟩,⟨6,[],.int .i64 ((m:Nat):Int)⟩]) (by have hz:([⟨40,[],.string ((sv.extract k sv.size).extract (Int.toNat (((m:Nat):Int)+1)) (sv.extract k sv.size).size)⟩,⟨39,[],.int .i64 (((m:Nat):Int)+1)⟩,⟨38,[],.int .i64 ((m:Nat):Int)⟩,⟨37,[],.string (sv.extract k sv.size)⟩,⟨0,[],.string (sv.extract k sv.size)⟩,⟨3,[],pt b1⟩,⟨6,[],.int .i64 ((m:Nat):Int)⟩]:List Sl)=[⟨40,[],.string ((sv.extract k sv.size).extract (m+1) (sv.extract k sv.size).size)⟩,⟨39,[],.int .i64 (((m:Nat):Int)+1)⟩,⟨38,[],.int .i64 ((m:Nat):Int)⟩,⟨37,[],.string (sv.extract k sv.size)⟩,⟨0,[],.string (sv.extract k sv.size)⟩,⟨3,[],pt b1⟩,⟨6,[],.int .i64 ((m:Nat):Int)⟩]:=(by rw [toNat1]); exact Eq.trans kr hz) (A9 [0] [0,3] (k:=?_))
      refine B7 (E9 (s':=(pt b1,v11,g12,((t++(sv.extract 0 k))++encB (refM ((sv.extract k sv.size).extract 1 m).data.toList)),(sv.extract k sv.size).extract (m+1) (sv.extract k sv.size).size)) [0,3] kr rfl ⟨bld1,hB13,(by dsimp only; omega),(by dsimp only; have he:=encB_size (refM ((sv.extract k sv.size).extract 1 m).data.toList); simp only [C6]; omega),(by dsimp only; rw [← hT,(unB hk hbk hnk hm hbm hnm hm0).2 (by omega),E7,E7,G0,ext_take]; simp only [List.append_assoc])⟩ (by dsimp only; omega))
    ·
     exact absurd (m_pos hk hbk hbm) (by simp only [gt_iff_lt,decide_eq_false_iff_not] at hc6; omega)
   ·
    refine B4 (E':=[⟨0,[],.string (sv.extract k sv.size)⟩,⟨3,[],pt b1⟩,⟨5,[],.int .i64 (-1)⟩,⟨6,[],.int .i64 (-1)⟩]) [0] [0,3,5,6] (k:=A0 ?_)
    refine A1 (A1 ?_)
    refine G_p [0,0] [0,3,5,6,24] (k:=A0 ?_)
    refine D6 kr (A7 ?_)
    refine A0 (A1 ?_)
    refine A1 (G_p [0,0] [0,3,5,6,30] (k:=?_))
    refine A0 (B9 kr ?_)
    refine A1 (A2 ?_)
    refine E5 Tryz.func31 (G9 b1 (pt b1) (v3) g4 (t++(sv.extract 0 k)) (Nat.toUInt8 38) bld1 hB5 (by (try simp only [C6]); omega) _ _) ?_
    rintro _ _ ⟨v15,g16,hB17,rfl⟩
    refine A9 [] [0,3] (k:=A0 ?_)
    refine A1 (A2 ?_)
    refine A5 (j:=1) [0] (k:=F6 (ch:=[]) (s:=sv.extract k sv.size) (vl:=(some (.int .i64 1))) (vh:=none) (l:=1) (h:=((sv.extract k sv.size).size:Int)) (hb:=(by omega)) (k:=?_))
    refine A9 [0] [0,3] (k:=A0 ?_)
    refine G8 (B5 ?_)
    refine C9 (E9 (s':=(pt b1,v15,g16,((t++(sv.extract 0 k))++⟨#[Nat.toUInt8 38]⟩),(sv.extract k sv.size).extract 1 (sv.extract k sv.size).size)) [0,3] kr rfl ⟨bld1,hB17,(by dsimp only; omega),(by dsimp only; simp only [C6,sz38]; omega),(by dsimp only; rw [← hT,unA hk hbk hnk hnm,E7,E7,ext_take,lit38]; simp only [List.append_assoc,List.cons_append,List.nil_append])⟩ (by dsimp only; omega))
 ·
  refine A9 [0] [0,3,4] (k:=A0 ?_)
  refine A1 (A1 ?_)
  refine G_p [0,0] [0,3,4,10] (k:=A0 ?_)
  refine B9 kr (A1 ?_)
  refine A2 (A5 (j:=1) [0] (k:=?_))
  refine E5 Tryz.func28 (I0 b1 (p) (v) g t sv hbp hB (by (try simp only [C6]); omega) _ _) ?_
  rintro _ _ ⟨v18,g19,hB20,rfl⟩
  refine B4 (E':=[⟨3,[],pt b1⟩]) [] [3] (k:=A0 ?_)
  refine A1 (A2 ?_)
  refine E5 Tryz.func29 (I5 b1 (pt b1) (v18) g19 (t++sv) hB20 (by (try simp only [C6]); omega) _ _) ?_
  rintro _ _ ⟨rfl,rfl⟩
  refine B4 (E':=[⟨2,[],.string (t++sv)⟩]) [0] [2] (k:=A0 ?_)
  refine B6 (A4 ?_)
  refine B0 (A4 ?_)
  refine B0 (D9 (H':=H) (fun w h=>(h.erase 0)) ?_)
  refine B2 [.tmp 2] [.string (t++sv)] (k:=?_)
  exact ⟨congrArg Value.string (ba_eq (by rw [← hT,unC hnk,E7])),rfl⟩
end Go.Proofs.YtbnfbffiehoapaaGreatDoor
namespace Go.Sw
open Go.Esc
def dig36:ByteArray:=ByteArray.mk #[48,49,50,51,52,53,54,55,56,57,97,98,99,100,101,102,103,104,105,106,107,108,109,110,111,112,113,114,115,116,117,118,119,120,121,122]
def D3 (u:Int):UInt8:=(dig36.data.toList)[u.toNat]?.getD 0
theorem J0 {u:Int} (h0:0≤u) (h1:u<16):D3 u=hexl u.toNat:=by
  have h:∀ n:Fin 16,D3 (n.val:Int)=hexl n.val:=by decide +kernel
  have:=h ⟨u.toNat,by omega⟩
  simpa [show ((u.toNat:Nat):Int)=u by omega] using this
def rowH (l:List UInt8):Array Value:=(List.replicate (65 - l.length) (Value.int .u8 0)++u8s l).toArray
theorem K8 {l:List UInt8} (h:l.length≤65):(rowH l).size=65:=by simp [rowH,u8s]; omega
theorem M6 (b:UInt8) (l:List UInt8) (h:l.length<65):setRow (rowH l) (64 - l.length) [.int .u8 (b.toNat:Int)]=rowH (b::l):=by
  have:=setRow_mid [.int .u8 (b.toNat:Int)] (List.replicate (64 - l.length) (Value.int .u8 0)) (u8s l) [.int .u8 0] rfl
  rw [List.length_replicate] at this
  unfold rowH
  rw [show 65 - l.length=(64 - l.length)+1 by omega,List.replicate_succ',this]
  simp [u8s]
theorem rowH_rd {b:Nat} {t:TypeId} (l:List UInt8) (h0:0<l.length) (h:l.length<65):Rd (inG [(b,.cells (rowH l) t (0,0))]) (some ⟨b,65 - l.length,none⟩) (u8s l):=by
  have h1:Rd (inG [(b,.cells (rowH l).toList.toArray t (0,0))]) (some ⟨b,0,none⟩) (rowH l).toList:=Rd.lit
  rw [Array.toArray_toList] at h1
  have h2:=h1.cut (cap:=65) (l:=65 - l.length) (sz:=1) (m:=l.length) (by omega)
  rw [show cutA (some ⟨b,0,none⟩) 65 (65 - l.length) 1=some ⟨b,65 - l.length,none⟩ from cut_some (by omega)] at h2
  have e:((rowH l).toList.drop ((65 - l.length) * 1)).take l.length=u8s l:=by
    unfold rowH
    rw [Nat.mul_one]
    have e2:(u8s l).length=l.length:=List.length_map _
    show ((List.replicate (65 - l.length) (Value.int .u8 0)++u8s l).drop (65 - l.length)).take l.length=_
    rw [List.drop_append,List.length_replicate,Nat.sub_self,List.drop_zero,List.drop_eq_nil_of_le (by rw [List.length_replicate]; exact Nat.le_refl _),List.nil_append,← e2,List.take_length]
  rw [e] at h2; exact h2
theorem and15 {x:Int} (h0:0≤x) (h1:x<18446744073709551616):IntKind.wrap .u64 ((BitVec.ofInt (IntKind.bits .u64) x &&& BitVec.ofInt (IntKind.bits .u64) 15).toNat)=x % 16:=by
  obtain ⟨n,rfl⟩:=Int.eq_ofNat_of_zero_le h0
  have e:(BitVec.ofInt (IntKind.bits .u64) (n:Int) &&& BitVec.ofInt (IntKind.bits .u64) 15).toNat=n % 16:=by
    rw [BitVec.toNat_and]
    have a:(BitVec.ofInt (IntKind.bits .u64) (n:Int)).toNat=n:=by
      show (BitVec.ofInt 64 (n:Int)).toNat=n
      rw [BitVec.toNat_ofInt]; omega
    have b:(BitVec.ofInt (IntKind.bits .u64) 15).toNat=15:=rfl
    rw [a,b]
    exact Nat.and_two_pow_sub_one_eq_mod n 4
  rw [e,show IntKind.wrap .u64 ((n % 16:Nat):Int)=((n % 16:Nat):Int) % 18446744073709551616 from by first | rfl | simp [IntKind.wrap,IntKind.bits,IntKind.signed]]
  omega
theorem fdiv16 (x:Int):Int.fdiv x (2 ^ 4)=x / 16:=by rw [Int.fdiv_eq_ediv_of_nonneg _ (by decide)]; rfl
def M7 (n:Int):List UInt8 :=
  if n<16 then [D3 n] else if n<256 then [D3 (n / 16),D3 (n % 16)] else if n<4096 then [D3 (n / 16 / 16),D3 (n / 16 % 16),D3 (n % 16)] else [D3 (n / 16 / 16 / 16),D3 (n / 16 / 16 % 16),D3 (n / 16 % 16),D3 (n % 16)]
theorem hexD_len (n:Int):1≤(M7 n).length∧(M7 n).length≤4:=by unfold M7; (repeat' split) <;> simp
theorem hexD_pad {n:Int} (h0:0≤n) (h1:n<65536):List.replicate (4 - (M7 n).length) 48++M7 n=hex4 n.toNat:=by
  have z:(48:UInt8)=hexl 0:=by decide
  unfold M7 hex4
  split
  · rw [J0 (by omega) (by omega)]
    simp only [List.length_cons,List.length_nil,Nat.reduceSub,Nat.reduceAdd,List.replicate,List.cons_append,List.nil_append]
    rw [show n.toNat / 4096 % 16=0 by omega,show n.toNat / 256 % 16=0 by omega,show n.toNat / 16 % 16=0 by omega,show n.toNat % 16=n.toNat by omega,← z]
  split
  · rw [J0 (by omega) (by omega),J0 (by omega) (by omega)]
    simp only [List.length_cons,List.length_nil,Nat.reduceSub,Nat.reduceAdd,List.replicate,List.cons_append,List.nil_append]
    rw [show n.toNat / 4096 % 16=0 by omega,show n.toNat / 256 % 16=0 by omega,show n.toNat / 16 % 16=(n / 16).toNat by omega,show n.toNat % 16=(n % 16).toNat by omega,← z]
  split
  · rw [J0 (by omega) (by omega),J0 (by omega) (by omega),J0 (by omega) (by omega)]
    simp only [List.length_cons,List.length_nil,Nat.reduceSub,Nat.reduceAdd,List.replicate,List.cons_append,List.nil_append]
    rw [show n.toNat / 4096 % 16=0 by omega,show n.toNat / 256 % 16=(n / 16 / 16).toNat by omega,show n.toNat / 16 % 16=(n / 16 % 16).toNat by omega,show n.toNat % 16=(n % 16).toNat by omega,← z]
  · rw [J0 (by omega) (by omega),J0 (by omega) (by omega),J0 (by omega) (by omega),J0 (by omega) (by omega)]
    simp only [List.length_cons,List.length_nil,Nat.reduceSub,Nat.reduceAdd,List.replicate,List.nil_append]
    rw [show n.toNat / 4096 % 16=(n / 16 / 16 / 16).toNat by omega,show n.toNat / 256 % 16=(n / 16 / 16 % 16).toNat by omega,show n.toNat / 16 % 16=(n / 16 % 16).toNat by omega,show n.toNat % 16=(n % 16).toNat by omega]
end Go.Sw
namespace Go.Proofs.YtbnfbffiehoapaaGreatDoor
open Go.Sw Go.Sha Go.Esc Go.RowKit
theorem pow2_  (W0:World) (H:List Grp):Tri Tryz.prog 104 #[.int .i64 16] W0 H (fun v H'=>v=.bool true∧H'=H):=by
 refine C2 (args:=[.int .i64 16]) (n:=8) Tryz.func104 rfl rfl (Nat.le_of_ble_eq_true rfl) ?_
 refine A1 (B3 (E':=[⟨0,[],.int .i64 16⟩]) [0] [0] (k:=?_))
 refine A0 (A1 ?_)
 refine B3 (E':=[⟨2,[],.bool true⟩]) [0,0,0,0,0,0] [2] (k:=A0 ?_)
 refine B6 (B2 [.tmp 2] [.bool true] (k:=?_))
 exact ⟨rfl,rfl⟩
theorem tz64_  (W0:World) (H:List Grp) (hW:H3 W0):Tri Tryz.prog 120 #[.int .u64 16] W0 H (fun v H'=>v=.int .i64 4∧H'=H):=by
 refine C2 (args:=[.int .u64 16]) (n:=14) Tryz.func120 rfl rfl (Nat.le_of_ble_eq_true rfl) ?_
 refine A1 (B3 (E':=[⟨0,[],.int .u64 16⟩]) [0] [0] (k:=?_))
 refine A0 (A1 ?_)
 refine A1 (G_p [0,0] [0,4] (k:=?_))
 refine A0 (D6 kr ?_)
 refine A7 (A0 ?_)
 refine A1 (A2 ?_)
 refine A5 (j:=6) [0,0,0,0,0,0] (k:=D2 (ch:=[]) (b:=7) (off:=0) (len:=64) (sz:=1) (e:=5) (kd:=.u64) (j:=15) (hb:=(fun _=>⟨by decide,by decide⟩)) (k:=?_))
 obtain ⟨tc,te,tf,tz1,tz2,tz3⟩:=hW.tz
 refine E0 (ch:=[]) (b:=7) (off:=15) (v:=.int .u8 4) (hA:=.inl ⟨tz1,tz2⟩) (hv:=tz3) (k:=B4 (E':=[⟨2,[],.int .i64 4⟩]) [0,0] [2] (k:=?_))
 refine A0 (B6 ?_)
 refine B2 [.tmp 2] [.int .i64 4] (k:=?_)
 exact ⟨rfl,rfl⟩
theorem tz_  (W0:World) (H:List Grp) (hW:H3 W0):Tri Tryz.prog 105 #[.int .u64 16] W0 H (fun v H'=>v=.int .i64 4∧H'=H):=by
 refine C2 (args:=[.int .u64 16]) (n:=8) Tryz.func105 rfl rfl (Nat.le_of_ble_eq_true rfl) ?_
 refine A1 (B3 (E':=[⟨0,[],.int .u64 16⟩]) [0] [0] (k:=?_))
 refine A0 (A1 ?_)
 refine D6 kr (A7 ?_)
 refine A0 (A1 ?_)
 refine A2 (A5 (j:=1) [0] (k:=?_))
 refine E5 Tryz.func120 (tz64_ _ _ hW) ?_
 rintro _ _ ⟨rfl,rfl⟩
 refine B4 (E':=[⟨2,[],.int .i64 4⟩]) [0] [2] (k:=A0 ?_)
 refine B6 (B2 [.tmp 2] [.int .i64 4] (k:=?_))
 exact ⟨rfl,rfl⟩
theorem fbits_ (n:Int) (h0:0≤n) (h1:n<65536) (W0:World) (H:List Grp) (hW:H3 W0):Tri Tryz.prog 85 #[.slice none 0 0,.int .u64 n,.int .i64 16,.bool false,.bool false] W0 H (fun v H'=>v=.tuple #[.slice none 0 0,.string ⟨(M7 n).toArray⟩]∧H'=H):=by
 refine C2 (args:=[.slice none 0 0,.int .u64 n,.int .i64 16,.bool false,.bool false]) (n:=102) Tryz.func85 rfl rfl (Nat.le_of_ble_eq_true rfl) ?_
 refine A1 (G_p [0,0] [0,1,2,3,4,10,11] (k:=?_))
 refine A0 (A1 ?_)
 refine A1 (G_p [0,0,0,0,0,3,0,0,0,3] [0,1,2,3,4,10,11,28] (k:=?_))
 refine A0 (D6 kr ?_)
 refine A7 (A0 ?_)
 refine A1 (A2 ?_)
 refine N1 (ch:=[]) (z:=.agg (rowH [])) (k:=(fun B=>?_))
 refine A9 [] [0,1,2,3,4,10,11,12] (k:=A0 ?_)
 refine A1 (G_p [0] [0,1,2,3,4,10,11,12,13] (k:=?_))
 refine A0 (A1 ?_)
 refine A1 (G_p [0] [0,1,2,3,4,10,11,12,13,30] (k:=?_))
 refine A0 (D6 kr ?_)
 refine A7 (A0 ?_)
 refine A1 (A1 ?_)
 refine A2 (A5 (j:=1) [0] (k:=?_))
 refine I2 Tryz.func104 (pow2_ _ _) (B4 (E':=[⟨0,[],.slice none 0 0⟩,⟨1,[],.int .u64 n⟩,⟨2,[],.int .i64 16⟩,⟨3,[],.bool false⟩,⟨4,[],.bool false⟩,⟨10,[],.slice none 0 0⟩,⟨11,[],.string (ByteArray.mk #[])⟩,⟨12,[],pt B⟩,⟨13,[],.int .i64 65⟩,⟨34,[],.bool true⟩]) [] [0,1,2,3,4,10,11,12,13,34] (k:=?_))
 refine A0 (B9 kr ?_)
 refine A1 (A2 ?_)
 refine A5 (j:=2) [0,0] (k:=E5 Tryz.func105 (tz_ _ _ hW) ?_)
 rintro _ _ ⟨rfl,rfl⟩
 refine A9 [0,0] [0,1,2,3,4,10,11,12,13,14] (k:=A0 ?_)
 refine A1 (G_p [0,0,0] [0,1,2,3,4,10,11,12,13,14,15] (k:=?_))
 refine A0 (A1 ?_)
 refine G_p [0,0,0,0] [0,1,3,4,10,11,12,13,14,15,16] (k:=A0 ?_)
 refine A1 (B8 ?_)
 refine M8 4 (E4 ?_)
 refine A1 (A1 ?_)
 refine G_p [0,0,0] [0,1,3,4,10,11,12,13,14,15,16,46] (k:=A0 ?_)
 refine B1 (b:=decide (n ≥ 16)) kr (fun hc1=>?_) (fun hc1=>?_)
 ·
  simp only [ge_iff_le,decide_eq_true_eq] at hc1
  refine A7 (A0 ?_)
  refine B8 (A1 ?_)
  refine G_p [0,0,0] [0,1,3,4,10,11,12,13,14,15,16] (k:=A0 ?_)
  refine A1 (A2 ?_)
  refine D7 (E':=[⟨52,[],.int .u64 (IntKind.wrap .u64 ((BitVec.ofInt (IntKind.bits .u64) n &&& BitVec.ofInt (IntKind.bits .u64) 15).toNat))⟩,⟨49,[],.int .i64 64⟩,⟨0,[],.slice none 0 0⟩,⟨1,[],.int .u64 n⟩,⟨3,[],.bool false⟩,⟨4,[],.bool false⟩,⟨10,[],.slice none 0 0⟩,⟨11,[],.string (ByteArray.mk #[])⟩,⟨12,[],pt B⟩,⟨13,[],.int .i64 64⟩,⟨14,[],.int .u64 4⟩,⟨15,[],.int .u64 16⟩,⟨16,[],.int .u64 15⟩]) (j:=4) [0,0,0,0] (k:=E3 (E':=[⟨52,[],.int .u64 (n % 16)⟩,⟨49,[],.int .i64 64⟩,⟨0,[],.slice none 0 0⟩,⟨1,[],.int .u64 n⟩,⟨3,[],.bool false⟩,⟨4,[],.bool false⟩,⟨10,[],.slice none 0 0⟩,⟨11,[],.string (ByteArray.mk #[])⟩,⟨12,[],pt B⟩,⟨13,[],.int .i64 64⟩,⟨14,[],.int .u64 4⟩,⟨15,[],.int .u64 16⟩,⟨16,[],.int .u64 15⟩]) (by rw [and15 (by omega) (by omega)]) ?_)
  refine D8 (ch:=[]) (s:=(ByteArray.mk #[48,49,50,51,52,53,54,55,56,57,97,98,99,100,101,102,103,104,105,106,107,108,109,110,111,112,113,114,115,116,117,118,119,120,121,122])) (kd:=.u64) (j:=(n % 16)) (hb:=(by intro _; exact ⟨by omega,by show _<(36:Int); omega⟩)) (k:=?_)
  have hb2:=D4 (ByteArray.mk #[48,49,50,51,52,53,54,55,56,57,97,98,99,100,101,102,103,104,105,106,107,108,109,110,111,112,113,114,115,116,117,118,119,120,121,122]) (n % 16)
  refine D2 (ch:=[]) (b:=B) (off:=0) (len:=65) (sz:=1) (e:=5) (kd:=.i64) (j:=64) (hb:=(fun _=>⟨by decide,by decide⟩)) (k:=K3 (ch:=[]) (b:=B) (off:=64) (v:=.int .u8 ((D3 (n % 16)).toNat:Int)) (c:=rowH []) (c':=rowH [D3 (n % 16)]) (j:=0) (m:=0) (H':=([(B,.cells (rowH [D3 (n % 16)]) 145 (0,0))]::H)) (hoff:=(by rw [K8 (by simp)]; exact Nat.le_of_ble_eq_true rfl)) (hfz:=(fun _ _=>J6)) (hc':=M6 _ [] (by simp)) (k:=?_))
  refine B4 (E':=[⟨0,[],.slice none 0 0⟩,⟨1,[],.int .u64 n⟩,⟨3,[],.bool false⟩,⟨4,[],.bool false⟩,⟨10,[],.slice none 0 0⟩,⟨11,[],.string (ByteArray.mk #[])⟩,⟨12,[],pt B⟩,⟨13,[],.int .i64 64⟩,⟨14,[],.int .u64 4⟩,⟨15,[],.int .u64 16⟩,⟨16,[],.int .u64 15⟩]) [] [0,1,3,4,10,11,12,13,14,15,16] (k:=A0 ?_)
  refine A2 (D7 (E':=[⟨57,[],.int .u64 (Int.fdiv n (2 ^ 4))⟩,⟨0,[],.slice none 0 0⟩,⟨1,[],.int .u64 n⟩,⟨3,[],.bool false⟩,⟨4,[],.bool false⟩,⟨10,[],.slice none 0 0⟩,⟨11,[],.string (ByteArray.mk #[])⟩,⟨12,[],pt B⟩,⟨13,[],.int .i64 64⟩,⟨14,[],.int .u64 4⟩,⟨15,[],.int .u64 16⟩,⟨16,[],.int .u64 15⟩]) (j:=3) [0,0,0] (k:=?_))
  refine E3 (E':=[⟨57,[],.int .u64 (n / 16)⟩,⟨0,[],.slice none 0 0⟩,⟨1,[],.int .u64 n⟩,⟨3,[],.bool false⟩,⟨4,[],.bool false⟩,⟨10,[],.slice none 0 0⟩,⟨11,[],.string (ByteArray.mk #[])⟩,⟨12,[],pt B⟩,⟨13,[],.int .i64 64⟩,⟨14,[],.int .u64 4⟩,⟨15,[],.int .u64 16⟩,⟨16,[],.int .u64 15⟩]) (by rw [fdiv16]) (A9 [0] [0,1,3,4,10,11,12,13,14,15,16] (k:=?_))
  refine B7 (N_rd ?_)
  refine E4 (A1 ?_)
  refine A1 (G_p [0,0,0] [0,1,3,4,10,11,12,13,14,15,16,46] (k:=?_))
  refine A0 (B1 (b:=decide ((n / 16) ≥ 16)) kr (fun hc3=>?_) (fun hc3=>?_))
  ·
   simp only [ge_iff_le,decide_eq_true_eq] at hc3
   refine A7 (A0 ?_)
   refine B8 (A1 ?_)
   refine G_p [0,0,0] [0,1,3,4,10,11,12,13,14,15,16] (k:=A0 ?_)
   refine A1 (A2 ?_)
   refine D7 (E':=[⟨52,[],.int .u64 (IntKind.wrap .u64 ((BitVec.ofInt (IntKind.bits .u64) (n / 16) &&& BitVec.ofInt (IntKind.bits .u64) 15).toNat))⟩,⟨49,[],.int .i64 63⟩,⟨0,[],.slice none 0 0⟩,⟨1,[],.int .u64 (n / 16)⟩,⟨3,[],.bool false⟩,⟨4,[],.bool false⟩,⟨10,[],.slice none 0 0⟩,⟨11,[],.string (ByteArray.mk #[])⟩,⟨12,[],pt B⟩,⟨13,[],.int .i64 63⟩,⟨14,[],.int .u64 4⟩,⟨15,[],.int .u64 16⟩,⟨16,[],.int .u64 15⟩]) (j:=4) [0,0,0,0] (k:=E3 (E':=[⟨52,[],.int .u64 ((n / 16) % 16)⟩,⟨49,[],.int .i64 63⟩,⟨0,[],.slice none 0 0⟩,⟨1,[],.int .u64 (n / 16)⟩,⟨3,[],.bool false⟩,⟨4,[],.bool false⟩,⟨10,[],.slice none 0 0⟩,⟨11,[],.string (ByteArray.mk #[])⟩,⟨12,[],pt B⟩,⟨13,[],.int .i64 63⟩,⟨14,[],.int .u64 4⟩,⟨15,[],.int .u64 16⟩,⟨16,[],.int .u64 15⟩]) (by rw [and15 (by omega) (by omega)]) ?_)
   refine D8 (ch:=[]) (s:=(ByteArray.mk #[48,49,50,51,52,53,54,55,56,57,97,98,99,100,101,102,103,104,105,106,107,108,109,110,111,112,113,114,115,116,117,118,119,120,121,122])) (kd:=.u64) (j:=((n / 16) % 16)) (hb:=(by intro _; exact ⟨by omega,by show _<(36:Int); omega⟩)) (k:=?_)
   have hb4:=D4 (ByteArray.mk #[48,49,50,51,52,53,54,55,56,57,97,98,99,100,101,102,103,104,105,106,107,108,109,110,111,112,113,114,115,116,117,118,119,120,121,122]) ((n / 16) % 16)
   refine D2 (ch:=[]) (b:=B) (off:=0) (len:=65) (sz:=1) (e:=5) (kd:=.i64) (j:=63) (hb:=(fun _=>⟨by decide,by decide⟩)) (k:=K3 (ch:=[]) (b:=B) (off:=63) (v:=.int .u8 ((D3 ((n / 16) % 16)).toNat:Int)) (c:=rowH [D3 (n % 16)]) (c':=rowH [D3 ((n / 16) % 16),D3 (n % 16)]) (j:=0) (m:=0) (H':=([(B,.cells (rowH [D3 ((n / 16) % 16),D3 (n % 16)]) 145 (0,0))]::H)) (hoff:=(by rw [K8 (by simp)]; exact Nat.le_of_ble_eq_true rfl)) (hfz:=(fun _ _=>J6)) (hc':=M6 _ [D3 (n % 16)] (by simp)) (k:=?_))
   refine A9 [] [0,1,3,4,10,11,12,13,14,15,16] (k:=A0 ?_)
   refine A2 (D7 (E':=[⟨57,[],.int .u64 (Int.fdiv (n / 16) (2 ^ 4))⟩,⟨0,[],.slice none 0 0⟩,⟨1,[],.int .u64 (n / 16)⟩,⟨3,[],.bool false⟩,⟨4,[],.bool false⟩,⟨10,[],.slice none 0 0⟩,⟨11,[],.string (ByteArray.mk #[])⟩,⟨12,[],pt B⟩,⟨13,[],.int .i64 63⟩,⟨14,[],.int .u64 4⟩,⟨15,[],.int .u64 16⟩,⟨16,[],.int .u64 15⟩]) (j:=3) [0,0,0] (k:=?_))
   refine E3 (E':=[⟨57,[],.int .u64 ((n / 16) / 16)⟩,⟨0,[],.slice none 0 0⟩,⟨1,[],.int .u64 (n / 16)⟩,⟨3,[],.bool false⟩,⟨4,[],.bool false⟩,⟨10,[],.slice none 0 0⟩,⟨11,[],.string (ByteArray.mk #[])⟩,⟨12,[],pt B⟩,⟨13,[],.int .i64 63⟩,⟨14,[],.int .u64 4⟩,⟨15,[],.int .u64 16⟩,⟨16,[],.int .u64 15⟩]) (by rw [fdiv16]) (A9 [0] [0,1,3,4,10,11,12,13,14,15,16] (k:=?_))
   refine B7 (N_rd ?_)
   refine E4 (A1 ?_)
   refine A1 (B3 (E':=[⟨0,[],.slice none 0 0⟩,⟨1,[],.int .u64 ((n / 16) / 16)⟩,⟨3,[],.bool false⟩,⟨4,[],.bool false⟩,⟨10,[],.slice none 0 0⟩,⟨11,[],.string (ByteArray.mk #[])⟩,⟨12,[],pt B⟩,⟨13,[],.int .i64 63⟩,⟨14,[],.int .u64 4⟩,⟨15,[],.int .u64 16⟩,⟨16,[],.int .u64 15⟩,⟨46,[],.bool (decide (((n / 16) / 16) ≥ 16))⟩]) [0,0,0] [0,1,3,4,10,11,12,13,14,15,16,46] (k:=?_))
   refine A0 (B1 (b:=decide (((n / 16) / 16) ≥ 16)) kr (fun hc5=>?_) (fun hc5=>?_))
   ·
    simp only [ge_iff_le,decide_eq_true_eq] at hc5
    refine A7 (A0 ?_)
    refine B8 (A1 ?_)
    refine G_p [0,0,0] [0,1,3,4,10,11,12,13,14,15,16] (k:=A0 ?_)
    refine A1 (A2 ?_)
    refine D7 (E':=[⟨52,[],.int .u64 (IntKind.wrap .u64 ((BitVec.ofInt (IntKind.bits .u64) ((n / 16) / 16) &&& BitVec.ofInt (IntKind.bits .u64) 15).toNat))⟩,⟨49,[],.int .i64 62⟩,⟨0,[],.slice none 0 0⟩,⟨1,[],.int .u64 ((n / 16) / 16)⟩,⟨3,[],.bool false⟩,⟨4,[],.bool false⟩,⟨10,[],.slice none 0 0⟩,⟨11,[],.string (ByteArray.mk #[])⟩,⟨12,[],pt B⟩,⟨13,[],.int .i64 62⟩,⟨14,[],.int .u64 4⟩,⟨15,[],.int .u64 16⟩,⟨16,[],.int .u64 15⟩]) (j:=4) [0,0,0,0] (k:=E3 (E':=[⟨52,[],.int .u64 (((n / 16) / 16) % 16)⟩,⟨49,[],.int .i64 62⟩,⟨0,[],.slice none 0 0⟩,⟨1,[],.int .u64 ((n / 16) / 16)⟩,⟨3,[],.bool false⟩,⟨4,[],.bool false⟩,⟨10,[],.slice none 0 0⟩,⟨11,[],.string (ByteArray.mk #[])⟩,⟨12,[],pt B⟩,⟨13,[],.int .i64 62⟩,⟨14,[],.int .u64 4⟩,⟨15,[],.int .u64 16⟩,⟨16,[],.int .u64 15⟩]) (by rw [and15 (by omega) (by omega)]) ?_)
    refine D8 (ch:=[]) (s:=(ByteArray.mk #[48,49,50,51,52,53,54,55,56,57,97,98,99,100,101,102,103,104,105,106,107,108,109,110,111,112,113,114,115,116,117,118,119,120,121,122])) (kd:=.u64) (j:=(((n / 16) / 16) % 16)) (hb:=(by intro _; exact ⟨by omega,by show _<(36:Int); omega⟩)) (k:=?_)
    have hb6:=D4 (ByteArray.mk #[48,49,50,51,52,53,54,55,56,57,97,98,99,100,101,102,103,104,105,106,107,108,109,110,111,112,113,114,115,116,117,118,119,120,121,122]) (((n / 16) / 16) % 16)
    refine D2 (ch:=[]) (b:=B) (off:=0) (len:=65) (sz:=1) (e:=5) (kd:=.i64) (j:=62) (hb:=(fun _=>⟨by decide,by decide⟩)) (k:=K3 (ch:=[]) (b:=B) (off:=62) (v:=.int .u8 ((D3 (((n / 16) / 16) % 16)).toNat:Int)) (c:=rowH [D3 ((n / 16) % 16),D3 (n % 16)]) (c':=rowH [D3 (((n / 16) / 16) % 16),D3 ((n / 16) % 16),D3 (n % 16)]) (j:=0) (m:=0) (H':=([(B,.cells (rowH [D3 (((n / 16) / 16) % 16),D3 ((n / 16) % 16),D3 (n % 16)]) 145 (0,0))]::H)) (hoff:=(by rw [K8 (by simp)]; exact Nat.le_of_ble_eq_true rfl)) (hfz:=(fun _ _=>J6)) (hc':=M6 _ [D3 ((n / 16) % 16),D3 (n % 16)] (by simp)) (k:=?_))
    refine A9 [] [0,1,3,4,10,11,12,13,14,15,16] (k:=A0 ?_)
    refine A2 (D7 (E':=[⟨57,[],.int .u64 (Int.fdiv ((n / 16) / 16) (2 ^ 4))⟩,⟨0,[],.slice none 0 0⟩,⟨1,[],.int .u64 ((n / 16) / 16)⟩,⟨3,[],.bool false⟩,⟨4,[],.bool false⟩,⟨10,[],.slice none 0 0⟩,⟨11,[],.string (ByteArray.mk #[])⟩,⟨12,[],pt B⟩,⟨13,[],.int .i64 62⟩,⟨14,[],.int .u64 4⟩,⟨15,[],.int .u64 16⟩,⟨16,[],.int .u64 15⟩]) (j:=3) [0,0,0] (k:=?_))
    refine E3 (E':=[⟨57,[],.int .u64 (((n / 16) / 16) / 16)⟩,⟨0,[],.slice none 0 0⟩,⟨1,[],.int .u64 ((n / 16) / 16)⟩,⟨3,[],.bool false⟩,⟨4,[],.bool false⟩,⟨10,[],.slice none 0 0⟩,⟨11,[],.string (ByteArray.mk #[])⟩,⟨12,[],pt B⟩,⟨13,[],.int .i64 62⟩,⟨14,[],.int .u64 4⟩,⟨15,[],.int .u64 16⟩,⟨16,[],.int .u64 15⟩]) (by rw [fdiv16]) (A9 [0] [0,1,3,4,10,11,12,13,14,15,16] (k:=?_))
    refine B7 (N_rd ?_)
    refine E4 (A1 ?_)
    refine A1 (G_p [0,0,0] [0,1,3,4,10,11,12,13,14,15,16,46] (k:=?_))
    refine A0 (B1 (b:=decide ((((n / 16) / 16) / 16) ≥ 16)) kr (fun hc7=>?_) (fun hc7=>?_))
    ·
     simp only [ge_iff_le,decide_eq_true_eq] at hc7; omega
    ·
     simp only [ge_iff_le,decide_eq_false_iff_not] at hc7
     refine G8 (B5 ?_)
     refine B5 (C9 ?_)
     refine A0 (A1 ?_)
     refine G_p [0,0,0] [0,1,3,4,10,11,12,13] (k:=A0 ?_)
     refine A2 (A5 (j:=2) [0,0] (k:=?_))
     refine D8 (ch:=[]) (s:=(ByteArray.mk #[48,49,50,51,52,53,54,55,56,57,97,98,99,100,101,102,103,104,105,106,107,108,109,110,111,112,113,114,115,116,117,118,119,120,121,122])) (kd:=.u64) (j:=(((n / 16) / 16) / 16)) (hb:=(by intro _; exact ⟨by omega,by show _<(36:Int); omega⟩)) (k:=?_)
     have hb8:=D4 (ByteArray.mk #[48,49,50,51,52,53,54,55,56,57,97,98,99,100,101,102,103,104,105,106,107,108,109,110,111,112,113,114,115,116,117,118,119,120,121,122]) (((n / 16) / 16) / 16)
     refine D2 (ch:=[]) (b:=B) (off:=0) (len:=65) (sz:=1) (e:=5) (kd:=.i64) (j:=61) (hb:=(fun _=>⟨by decide,by decide⟩)) (k:=K3 (ch:=[]) (b:=B) (off:=61) (v:=.int .u8 ((D3 (((n / 16) / 16) / 16)).toNat:Int)) (c:=rowH [D3 (((n / 16) / 16) % 16),D3 ((n / 16) % 16),D3 (n % 16)]) (c':=rowH [D3 (((n / 16) / 16) / 16),D3 (((n / 16) / 16) % 16),D3 ((n / 16) % 16),D3 (n % 16)]) (j:=0) (m:=0) (H':=([(B,.cells (rowH [D3 (((n / 16) / 16) / 16),D3 (((n / 16) / 16) % 16),D3 ((n / 16) % 16),D3 (n % 16)]) 145 (0,0))]::H)) (hoff:=(by rw [K8 (by simp)]; exact Nat.le_of_ble_eq_true rfl)) (hfz:=(fun _ _=>J6)) (hc':=M6 _ [D3 (((n / 16) / 16) % 16),D3 ((n / 16) % 16),D3 (n % 16)] (by simp)) (k:=?_))
     refine B4 (E':=[⟨0,[],.slice none 0 0⟩,⟨3,[],.bool false⟩,⟨4,[],.bool false⟩,⟨10,[],.slice none 0 0⟩,⟨11,[],.string (ByteArray.mk #[])⟩,⟨12,[],pt B⟩,⟨13,[],.int .i64 61⟩]) [] [0,3,4,10,11,12,13] (k:=A0 ?_)
     refine A1 (A1 ?_)
     refine G_p [0] [0,4,10,11,12,13,89] (k:=A0 ?_)
     refine D6 kr (A7 ?_)
     refine A0 (A1 ?_)
     refine A1 (G_p [0] [0,10,11,12,13,94] (k:=?_))
     refine A0 (D6 kr ?_)
     refine A7 (A0 ?_)
     refine A1 (A2 ?_)
     refine A5 (j:=1) [0] (k:=N0 (ch:=[]) (b:=B) (off:=0) (len:=65) (sz:=1) (e:=5) (vl:=(some (.int .i64 61))) (vh:=none) (l:=61) (h:=65) (hb:=(fun _=>by decide)) (k:=?_))
     refine G1 (ch:=[]) (a:=⟨B,61,none⟩) (cap:=4) (e:=5) (S:=inG [(B,.cells (rowH [D3 (((n / 16) / 16) / 16),D3 (((n / 16) / 16) % 16),D3 ((n / 16) % 16),D3 (n % 16)]) 145 (0,0))]) [D3 (((n / 16) / 16) / 16),D3 (((n / 16) / 16) % 16),D3 ((n / 16) % 16),D3 (n % 16)] (hrd:=rowH_rd [D3 (((n / 16) / 16) / 16),D3 (((n / 16) / 16) % 16),D3 ((n / 16) % 16),D3 (n % 16)] (by simp) (by simp)) (hS:=C7 0 rfl) (k:=A9 [0] [10,11] (k:=?_))
     refine A0 (B6 ?_)
     refine D9 (H':=H) (fun w h=>(h.erase 0)) (B2 [.tmp 10,.tmp 11] [.slice none 0 0,.string ⟨[D3 (((n / 16) / 16) / 16),D3 (((n / 16) / 16) % 16),D3 ((n / 16) % 16),D3 (n % 16)].toArray⟩] (k:=?_))
     exact ⟨by unfold M7; rw [if_neg (by omega),if_neg (by omega),if_neg (by omega)]; rfl,rfl⟩
   ·
    simp only [ge_iff_le,decide_eq_false_iff_not] at hc5
    refine G8 (B5 ?_)
    refine B5 (C9 ?_)
    refine A0 (A1 ?_)
    refine G_p [0,0,0] [0,1,3,4,10,11,12,13] (k:=A0 ?_)
    refine A2 (A5 (j:=2) [0,0] (k:=?_))
    refine D8 (ch:=[]) (s:=(ByteArray.mk #[48,49,50,51,52,53,54,55,56,57,97,98,99,100,101,102,103,104,105,106,107,108,109,110,111,112,113,114,115,116,117,118,119,120,121,122])) (kd:=.u64) (j:=((n / 16) / 16)) (hb:=(by intro _; exact ⟨by omega,by show _<(36:Int); omega⟩)) (k:=?_)
    have hb9:=D4 (ByteArray.mk #[48,49,50,51,52,53,54,55,56,57,97,98,99,100,101,102,103,104,105,106,107,108,109,110,111,112,113,114,115,116,117,118,119,120,121,122]) ((n / 16) / 16)
    refine D2 (ch:=[]) (b:=B) (off:=0) (len:=65) (sz:=1) (e:=5) (kd:=.i64) (j:=62) (hb:=(fun _=>⟨by decide,by decide⟩)) (k:=K3 (ch:=[]) (b:=B) (off:=62) (v:=.int .u8 ((D3 ((n / 16) / 16)).toNat:Int)) (c:=rowH [D3 ((n / 16) % 16),D3 (n % 16)]) (c':=rowH [D3 ((n / 16) / 16),D3 ((n / 16) % 16),D3 (n % 16)]) (j:=0) (m:=0) (H':=([(B,.cells (rowH [D3 ((n / 16) / 16),D3 ((n / 16) % 16),D3 (n % 16)]) 145 (0,0))]::H)) (hoff:=(by rw [K8 (by simp)]; exact Nat.le_of_ble_eq_true rfl)) (hfz:=(fun _ _=>J6)) (hc':=M6 _ [D3 ((n / 16) % 16),D3 (n % 16)] (by simp)) (k:=?_))
    refine A9 [] [0,3,4,10,11,12,13] (k:=A0 ?_)
    refine A1 (A1 ?_)
    refine G_p [0] [0,4,10,11,12,13,89] (k:=A0 ?_)
    refine D6 kr (A7 ?_)
    refine A0 (A1 ?_)
    refine A1 (G_p [0] [0,10,11,12,13,94] (k:=?_))
    refine A0 (D6 kr ?_)
    refine A7 (A0 ?_)
    refine A1 (A2 ?_)
    refine A5 (j:=1) [0] (k:=N0 (ch:=[]) (b:=B) (off:=0) (len:=65) (sz:=1) (e:=5) (vl:=(some (.int .i64 62))) (vh:=none) (l:=62) (h:=65) (hb:=(fun _=>by decide)) (k:=?_))
    refine G1 (ch:=[]) (a:=⟨B,62,none⟩) (cap:=3) (e:=5) (S:=inG [(B,.cells (rowH [D3 ((n / 16) / 16),D3 ((n / 16) % 16),D3 (n % 16)]) 145 (0,0))]) [D3 ((n / 16) / 16),D3 ((n / 16) % 16),D3 (n % 16)] (hrd:=rowH_rd [D3 ((n / 16) / 16),D3 ((n / 16) % 16),D3 (n % 16)] (by simp) (by simp)) (hS:=C7 0 rfl) (k:=A9 [0] [10,11] (k:=?_))
    refine A0 (B6 ?_)
    refine D9 (H':=H) (fun w h=>(h.erase 0)) (B2 [.tmp 10,.tmp 11] [.slice none 0 0,.string ⟨[D3 ((n / 16) / 16),D3 ((n / 16) % 16),D3 (n % 16)].toArray⟩] (k:=?_))
    exact ⟨by unfold M7; rw [if_neg (by omega),if_neg (by omega),if_pos (by omega)]; rfl,rfl⟩
  ·
   simp only [ge_iff_le,decide_eq_false_iff_not] at hc3
   refine G8 (B5 ?_)
   refine B5 (C9 ?_)
   refine A0 (A1 ?_)
   refine G_p [0,0,0] [0,1,3,4,10,11,12,13] (k:=A0 ?_)
   refine A2 (A5 (j:=2) [0,0] (k:=?_))
   refine D8 (ch:=[]) (s:=(ByteArray.mk #[48,49,50,51,52,53,54,55,56,57,97,98,99,100,101,102,103,104,105,106,107,108,109,110,111,112,113,114,115,116,117,118,119,120,121,122])) (kd:=.u64) (j:=(n / 16)) (hb:=(by intro _; exact ⟨by omega,by show _<(36:Int); omega⟩)) (k:=?_)
   have hb10:=D4 (ByteArray.mk #[48,49,50,51,52,53,54,55,56,57,97,98,99,100,101,102,103,104,105,106,107,108,109,110,111,112,113,114,115,116,117,118,119,120,121,122]) (n / 16)
   refine D2 (ch:=[]) (b:=B) (off:=0) (len:=65) (sz:=1) (e:=5) (kd:=.i64) (j:=63) (hb:=(fun _=>⟨by decide,by decide⟩)) (k:=K3 (ch:=[]) (b:=B) (off:=63) (v:=.int .u8 ((D3 (n / 16)).toNat:Int)) (c:=rowH [D3 (n % 16)]) (c':=rowH [D3 (n / 16),D3 (n % 16)]) (j:=0) (m:=0) (H':=([(B,.cells (rowH [D3 (n / 16),D3 (n % 16)]) 145 (0,0))]::H)) (hoff:=(by rw [K8 (by simp)]; exact Nat.le_of_ble_eq_true rfl)) (hfz:=(fun _ _=>J6)) (hc':=M6 _ [D3 (n % 16)] (by simp)) (k:=?_))
   refine A9 [] [0,3,4,10,11,12,13] (k:=A0 ?_)
   refine A1 (A1 ?_)
   refine G_p [0] [0,4,10,11,12,13,89] (k:=A0 ?_)
   refine D6 kr (A7 ?_)
   refine A0 (A1 ?_)
   refine A1 (B3 (E':=[⟨0,[],.slice none 0 0⟩,⟨10,[],.slice none 0 0⟩,⟨11,[],.string (ByteArray.mk #[])⟩,⟨12,[],pt B⟩,⟨13,[],.int .i64 63⟩,⟨94,[],.bool false⟩]) [0] [0,10,11,12,13,94] (k:=?_))
   refine A0 (D6 kr ?_)
   refine A7 (A0 ?_)
   refine A1 (A2 ?_)
   refine A5 (j:=1) [0] (k:=N0 (ch:=[]) (b:=B) (off:=0) (len:=65) (sz:=1) (e:=5) (vl:=(some (.int .i64 63))) (vh:=none) (l:=63) (h:=65) (hb:=(fun _=>by decide)) (k:=?_))
   refine G1 (ch:=[]) (a:=⟨B,63,none⟩) (cap:=2) (e:=5) (S:=inG [(B,.cells (rowH [D3 (n / 16),D3 (n % 16)]) 145 (0,0))]) [D3 (n / 16),D3 (n % 16)] (hrd:=rowH_rd [D3 (n / 16),D3 (n % 16)] (by simp) (by simp)) (hS:=C7 0 rfl) (k:=A9 [0] [10,11] (k:=?_))
   refine A0 (B6 ?_)
   refine D9 (H':=H) (fun w h=>(h.erase 0)) (B2 [.tmp 10,.tmp 11] [.slice none 0 0,.string ⟨[D3 (n / 16),D3 (n % 16)].toArray⟩] (k:=?_))
   exact ⟨by unfold M7; rw [if_neg (by omega),if_pos (by omega)]; rfl,rfl⟩
 ·
  simp only [ge_iff_le,decide_eq_false_iff_not] at hc1
  refine G8 (B5 ?_)
  refine B5 (C9 ?_)
  refine A0 (A1 ?_)
  refine G_p [0,0,0] [0,1,3,4,10,11,12,13] (k:=A0 ?_)
  refine A2 (A5 (j:=2) [0,0] (k:=?_))
  refine D8 (ch:=[]) (s:=(ByteArray.mk #[48,49,50,51,52,53,54,55,56,57,97,98,99,100,101,102,103,104,105,106,107,108,109,110,111,112,113,114,115,116,117,118,119,120,121,122])) (kd:=.u64) (j:=n) (hb:=(by intro _; exact ⟨by omega,by show _<(36:Int); omega⟩)) (k:=?_)
  have hb11:=D4 (ByteArray.mk #[48,49,50,51,52,53,54,55,56,57,97,98,99,100,101,102,103,104,105,106,107,108,109,110,111,112,113,114,115,116,117,118,119,120,121,122]) n
  refine D2 (ch:=[]) (b:=B) (off:=0) (len:=65) (sz:=1) (e:=5) (kd:=.i64) (j:=64) (hb:=(fun _=>⟨by decide,by decide⟩)) (k:=K3 (ch:=[]) (b:=B) (off:=64) (v:=.int .u8 ((D3 n).toNat:Int)) (c:=rowH []) (c':=rowH [D3 n]) (j:=0) (m:=0) (H':=([(B,.cells (rowH [D3 n]) 145 (0,0))]::H)) (hoff:=(by rw [K8 (by simp)]; exact Nat.le_of_ble_eq_true rfl)) (hfz:=(fun _ _=>J6)) (hc':=M6 _ [] (by simp)) (k:=?_))
  refine B4 (E':=[⟨0,[],.slice none 0 0⟩,⟨3,[],.bool false⟩,⟨4,[],.bool false⟩,⟨10,[],.slice none 0 0⟩,⟨11,[],.string (ByteArray.mk #[])⟩,⟨12,[],pt B⟩,⟨13,[],.int .i64 64⟩]) [] [0,3,4,10,11,12,13] (k:=A0 ?_)
  refine A1 (A1 ?_)
  refine G_p [0] [0,4,10,11,12,13,89] (k:=A0 ?_)
  refine D6 kr (A7 ?_)
  refine A0 (A1 ?_)
  refine A1 (G_p [0] [0,10,11,12,13,94] (k:=?_))
  refine A0 (D6 kr ?_)
  refine A7 (A0 ?_)
  refine A1 (A2 ?_)
  refine A5 (j:=1) [0] (k:=N0 (ch:=[]) (b:=B) (off:=0) (len:=65) (sz:=1) (e:=5) (vl:=(some (.int .i64 64))) (vh:=none) (l:=64) (h:=65) (hb:=(fun _=>by decide)) (k:=?_))
  refine G1 (ch:=[]) (a:=⟨B,64,none⟩) (cap:=1) (e:=5) (S:=inG [(B,.cells (rowH [D3 n]) 145 (0,0))]) [D3 n] (hrd:=rowH_rd [D3 n] (by simp) (by simp)) (hS:=C7 0 rfl) (k:=A9 [0] [10,11] (k:=?_))
  refine A0 (B6 ?_)
  refine D9 (H':=H) (fun w h=>(h.erase 0)) (B2 [.tmp 10,.tmp 11] [.slice none 0 0,.string ⟨[D3 n].toArray⟩] (k:=?_))
  exact ⟨by unfold M7; rw [if_pos (by omega)]; rfl,rfl⟩
theorem fint0_ (n:Int) (h0:0≤n) (h1:n<65536) (W0:World) (H:List Grp) (hW:H3 W0):Tri Tryz.prog 67 #[.int .i64 n,.int .i64 16] W0 H (fun v H'=>v=.string ⟨(M7 n).toArray⟩∧H'=H):=by
 refine C2 (args:=[.int .i64 n,.int .i64 16]) (n:=54) Tryz.func67 rfl rfl (Nat.le_of_ble_eq_true rfl) ?_
 refine A1 (G_p [0] [0,1] (k:=?_))
 refine A0 (A1 ?_)
 refine A1 (G_p [0,0] [0,1,11] (k:=?_))
 refine A0 (D6 kr ?_)
 refine A7 (A0 ?_)
 refine A1 ?_
 have hw1:IntKind.wrap .u64 n=n:=w64u (by omega) (by omega)
 refine A2 (D7 (E':=[⟨49,[],.bool (decide (n<0))⟩,⟨47,[],.int .i64 16⟩,⟨46,[],.int .u64 n⟩]) [0,0,0,0,0] (Eq.trans (b:=some [⟨49,[],.bool (decide (n<0))⟩,⟨47,[],.int .i64 16⟩,⟨46,[],.int .u64 (IntKind.wrap .u64 n)⟩]) kr (by simp only [hw1])) (j:=5) rfl ?_)
 refine E3 (E':=[⟨49,[],.bool false⟩,⟨47,[],.int .i64 16⟩,⟨46,[],.int .u64 n⟩]) (by rw [show decide (n<0)=false from decide_eq_false (by omega)]) (E5 Tryz.func85 (fbits_ n (by omega) (by omega) _ _ hW) ?_)
 rintro _ _ ⟨rfl,rfl⟩
 refine B4 (E':=[⟨9,[],.string (bk (M7 n))⟩]) [0,0,0,0,0] [9] (k:=A0 ?_)
 refine A1 (B3 (E':=[⟨4,[],.string (bk (M7 n))⟩]) [0,0] [4] (k:=?_))
 refine A0 (B6 ?_)
 refine B2 [.tmp 4] [.string (bk (M7 n))] (k:=?_)
 exact ⟨rfl,rfl⟩
theorem fint_ (n:Int) (h0:0≤n) (h1:n<65536) (W0:World) (H:List Grp) (hW:H3 W0):Tri Tryz.prog 53 #[.int .i64 n,.int .i64 16] W0 H (fun v H'=>v=.string ⟨(M7 n).toArray⟩∧H'=H):=by
 refine C2 (args:=[.int .i64 n,.int .i64 16]) (n:=8) Tryz.func53 rfl rfl (Nat.le_of_ble_eq_true rfl) ?_
 refine A1 (G_p [0] [0,1] (k:=?_))
 refine A0 (A1 ?_)
 refine A2 (A5 (j:=2) [0,0] (k:=?_))
 refine E5 Tryz.func67 (fint0_ n (by omega) (by omega) _ _ hW) ?_
 rintro _ _ ⟨rfl,rfl⟩
 refine B4 (E':=[⟨4,[],.string (bk (M7 n))⟩]) [0] [4] (k:=A0 ?_)
 refine B6 (B2 [.tmp 4] [.string (bk (M7 n))] (k:=?_))
 exact ⟨rfl,rfl⟩
theorem rep0 (s:ByteArray) (c:Nat) (hs:s.size=1) (hc:c≤1000) (W0:World) (H:List Grp):Tri Tryz.prog 54 #[.string s,.int .i64 c] W0 H (fun v H'=>v=.string ⟨(Lib.repeatL s.data.toList c).toArray⟩∧H'=H) :=
  Tri_below (fun w _=>Tryz.strings_Repeat s c w (by omega) (by rw [hs]; omega))
theorem rep48 (c:Nat):Lib.repeatL [48] c=List.replicate c 48:=by
  induction c with
  | zero=>rfl
  | succ c ih=>first | (rw [List.replicate_succ,← ih]; rfl) | (simp [Lib.repeatL] at ih ⊢; try exact ih)
theorem hexD_size (n:Int):(bk (M7 n)).size=(M7 n).length:=by simp [ByteArray.size]
theorem four_ (n:Int) (h0:0≤n) (h1:n<65536) (W0:World) (H:List Grp) (hW:H3 W0):Tri Tryz.prog 35 #[.int .i64 n] W0 H (fun v H'=>v=.string ⟨(92::117::hex4 n.toNat).toArray⟩∧H'=H):=by
 have hhl:=hexD_len n
 have hsz:=hexD_size n
 have hsub:(4:Int) - ((bk (M7 n)).size:Int)=((4 - (M7 n).length:Nat):Int):=by rw [hsz]; omega
 have hz2:(bk (Lib.repeatL (ByteArray.mk #[48]).data.toList (4 - (M7 n).length))).size=4 - (M7 n).length:=by rw [E8,show (ByteArray.mk #[48]).data.toList=[48] from rfl,rep48,List.length_replicate]
 have hz3:(ByteArray.mk #[92,117]).size=2:=rfl
 refine C2 (args:=[.int .i64 n]) (n:=13) Tryz.func35 rfl rfl (Nat.le_of_ble_eq_true rfl) ?_
 refine A1 (B3 (E':=[⟨0,[],.int .i64 n⟩]) [0] [0] (k:=?_))
 refine A0 (A1 ?_)
 refine A2 (A5 (j:=1) [0] (k:=?_))
 refine E5 Tryz.func53 (fint_ n (by omega) (by omega) _ _ hW) ?_
 rintro _ _ ⟨rfl,rfl⟩
 refine B4 (E':=[⟨3,[],.string (bk (M7 n))⟩]) [0] [3] (k:=A0 ?_)
 refine A1 ?_
 have hw1:IntKind.wrap .i64 (4 - ((bk (M7 n)).size:Int))=4 - ((bk (M7 n)).size:Int):=w64 (by omega) (by omega)
 refine A2 (D7 (E':=[⟨8,[],.int .i64 (4 - ((bk (M7 n)).size:Int))⟩,⟨3,[],.string (bk (M7 n))⟩]) [0,0,0] (Eq.trans (b:=some [⟨8,[],.int .i64 (IntKind.wrap .i64 (4 - ((bk (M7 n)).size:Int)))⟩,⟨3,[],.string (bk (M7 n))⟩]) kr (by simp only [hw1])) (j:=3) rfl ?_)
 refine E3 (E':=[⟨8,[],.int .i64 ((4 - (M7 n).length:Nat):Int)⟩,⟨3,[],.string (bk (M7 n))⟩]) (by rw [hsub]) (E5 Tryz.func54 (rep0 (ByteArray.mk #[48]) (4 - (M7 n).length) rfl (by omega) _ _) ?_)
 rintro _ _ ⟨rfl,rfl⟩
 refine J5 (ch:=[]) (s:=(ByteArray.mk #[92,117])) (u:=⟨(Lib.repeatL (ByteArray.mk #[48]).data.toList (4 - (M7 n).length)).toArray⟩) (hb:=(by intro _; simp only [hz2,hz3]; omega)) (k:=A5 (j:=6) [0] (k:=?_))
 refine J5 (ch:=[]) (s:=(ByteArray.mk #[92,117])++⟨(Lib.repeatL (ByteArray.mk #[48]).data.toList (4 - (M7 n).length)).toArray⟩) (u:=(bk (M7 n))) (hb:=(by intro _; simp only [C6,hz2,hz3,hsz]; omega)) (k:=A9 [0] [2] (k:=?_))
 refine A0 (B6 ?_)
 refine B2 [.tmp 2] [.string (((ByteArray.mk #[92,117])++⟨(Lib.repeatL (ByteArray.mk #[48]).data.toList (4 - (M7 n).length)).toArray⟩)++(bk (M7 n)))] (k:=?_)
 exact ⟨congrArg Value.string (ba_eq (by rw [E7,E7,← hexD_pad h0 h1,← rep48]; rfl)),rfl⟩
end Go.Proofs.YtbnfbffiehoapaaGreatDoor
namespace Go.Proofs.YtbnfbffiehoapaaGreatDoor
open Go.Sw Go.Sha Go.Esc Go.RowKit
theorem idx4:∀ n:Fin 256,decide (bIdx (ByteArray.mk #[45,46,95,126]) (n.val:Int) ≥ 0)=(decide (n.val=45)||decide (n.val=46)||decide (n.val=95)||decide (n.val=126)):=by decide +kernel
theorem idx4_iff (b:UInt8):bIdx (ByteArray.mk #[45,46,95,126]) (b.toNat:Int) ≥ 0 ↔ ((b.toNat:Int)=45∨(b.toNat:Int)=46∨(b.toNat:Int)=95∨(b.toNat:Int)=126):=by
  have:=idx4 ⟨b.toNat,b.toNat_lt⟩
  dsimp only at this
  have h:=congrArg (·=true) this
  simp only [decide_eq_true_eq,Bool.or_eq_true,eq_iff_iff] at h
  rw [h]; omega
theorem and15b:∀ n:Fin 256,IntKind.wrap .u8 ((BitVec.ofInt (IntKind.bits .u8) (n.val:Int) &&& BitVec.ofInt (IntKind.bits .u8) 15).toNat)=(n.val:Int) % 16:=by decide +kernel
theorem and15c (b:UInt8):IntKind.wrap .u8 ((BitVec.ofInt (IntKind.bits .u8) (b.toNat:Int) &&& BitVec.ofInt (IntKind.bits .u8) 15).toNat)=(b.toNat:Int) % 16:=and15b ⟨b.toNat,b.toNat_lt⟩
theorem json_ (s:ByteArray) (hs:s.size≤1000000000) (W0:World) (H:List Grp) (hW:H3 W0):Tri Tryz.prog 14 #[.string s] W0 H (fun v H'=>v=.string ⟨(F0 s.data.toList).toArray⟩∧H'=H):=by
 refine C2 (args:=[.string s]) (n:=69) Tryz.func14 rfl rfl (Nat.le_of_ble_eq_true rfl) ?_
 refine A1 (B3 (E':=[⟨0,[],.string s⟩]) [0] [0] (k:=?_))
 refine A0 (A1 ?_)
 refine A2 (N1 (ch:=[]) (z:=.agg #[.pointer none,.slice none 0 0]) (k:=(fun b1=>?_)))
 refine GL_heap rfl (H':=([(b1,.cells #[.pointer none,.slice none 0 0] 39 (0,0))]::[]::H)) (fun w h=>h.flat (List.Perm.refl _)) (B4 (E':=[⟨0,[],.string s⟩,⟨3,[],pt b1⟩]) [] [0,3] (k:=?_))
 refine A0 (A1 ?_)
 refine A2 (E5 (vs:=[pt b1,.int .u8 34]) Tryz.func31 (G9 b1 (.pointer none) (.slice none 0 0) [] .empty (Nat.toUInt8 34) bld0 bown0 (by show 0+1≤_; omega) _ _) ?_)
 rintro _ _ ⟨v2,g3,hB4,rfl⟩
 refine B4 (E':=[⟨0,[],.string s⟩,⟨3,[],pt b1⟩]) [] [0,3] (k:=A0 ?_)
 refine A1 (A1 ?_)
 refine A2 (A5 (j:=1) [0] (k:=?_))
 refine GL_rangeS (i:=1) (ch:=[]) (s:=s) rfl rfl kr kr kr kr kr (fun it5=>B4 (E':=[⟨3,[],pt b1⟩,⟨8,[],pt it5⟩]) [] [3,8] (k:=?_))
 refine A0 (B8 ?_)
 refine G_heap (H':=([(b1,.cells #[pt b1,v2] 39 (0,0))]::g3::[(it5,.stringIter s 0)]::H)) (fun w h=>((h.front (j:=2) rfl).front (j:=2) rfl)) (M2 (EI:=(fun ξ:Value × Value × Grp × ByteArray × Nat=>[⟨3,[],pt b1⟩,⟨8,[],pt it5⟩])) (HI:=(fun ξ:Value × Value × Grp × ByteArray × Nat=>([(b1,.cells #[ξ.1,ξ.2.1] 39 (0,0))]::ξ.2.2.1::[(it5,.stringIter s ξ.2.2.2.2)]::H))) (Φ:=(fun ξ:Value × Value × Grp × ByteArray × Nat=>(Bld b1 ξ.1)∧(BOwn ξ.2.1 ξ.2.2.1 ξ.2.2.2.1)∧(ξ.2.2.2.2≤s.size)∧(ξ.2.2.2.1.data.toList++((A6 (s.data.toList.drop ξ.2.2.2.2)).flatMap jsonP++[34])=F0 s.data.toList))) (μ:=(fun ξ:Value × Value × Grp × ByteArray × Nat=>s.size - ξ.2.2.2.2)) (s0:=(pt b1,v2,g3,(.empty++⟨#[Nat.toUInt8 34]⟩),0)) [3,8] kr rfl ⟨bld1,hB4,(by (try dsimp only); omega),(by rfl)⟩ ?_)
 rintro ⟨p,v,g,t,q⟩ ⟨hbp,hB,hq,hT⟩
 dsimp only at hbp hB hq hT
 have ht:t.size≤6 * s.size+2:=by
  have h1:=congrArg List.length hT
  have h2:=json_len s.data.toList
  rw [List.length_append,C5] at h1
  rw [C5] at h2
  omega
 refine A1 (A2 ?_)
 refine GL_nextS (i:=0) (ch:=[]) (it:=it5) (p:=q) (s:=s) (j:=2) rfl rfl kr kr kr kr rfl (fun hend6=>?_) (fun hmore7=>?_)
 ·
  have hxe:=hend6
  refine A9 [0] [3,8,9,10] (k:=A0 ?_)
  refine A1 (D6 kr ?_)
  refine G8 (B5 ?_)
  refine B5 (C9 ?_)
  refine A0 (A1 ?_)
  refine A2 (E5 Tryz.func31 (G9 b1 (p) (v) g t (Nat.toUInt8 34) hbp hB (by omega) _ _) ?_)
  rintro _ _ ⟨v8,g9,hB10,rfl⟩
  refine B4 (E':=[⟨3,[],pt b1⟩]) [] [3] (k:=A0 ?_)
  refine A1 (A2 ?_)
  refine E5 Tryz.func29 (I5 b1 (pt b1) (v8) g9 (t++⟨#[Nat.toUInt8 34]⟩) hB10 (by (try simp only [C6,sz1]); omega) _ _) ?_
  rintro _ _ ⟨rfl,rfl⟩
  refine A9 [0] [2] (k:=A0 ?_)
  refine B6 (D9 (H':=H) (fun w h=>((h.erase 1).erase 0)) ?_)
  refine B2 [.tmp 2] [.string (t++⟨#[Nat.toUInt8 34]⟩)] (k:=?_)
  exact ⟨congrArg Value.string (ba_eq (by rw [E7,← hT,runes_end (by omega)]; rfl)),rfl⟩
 ·
  have hdc:=dc_rng s q
  have hxm:=hmore7
  refine A9 [0] [3,8,9,10] (k:=A0 ?_)
  refine A1 (B9 kr ?_)
  refine A7 (A0 ?_)
  refine B8 (A1 ?_)
  refine G_p [0,0] [3,5,8] (k:=A0 ?_)
  refine B8 (A1 ?_)
  refine G_p [0,0,0,0,0,5,0] [3,5,8,14] (k:=A0 ?_)
  refine B1 (b:=((dcR s q)==34)||((dcR s q)==92)) kr (fun hc11=>?_) (fun hc11=>?_)
  ·
   simp only [Bool.or_eq_true,beq_iff_eq] at hc11
   have hj:jsonP (dcR s q)=92::Lib.encodeRune (dcR s q):=by unfold jsonP; rw [if_pos (by omega)]
   refine A1 (A2 ?_)
   refine E5 Tryz.func31 (G9 b1 (p) (v) g t (Nat.toUInt8 92) hbp hB (by omega) _ _) ?_
   rintro _ _ ⟨v12,g13,hB14,rfl⟩
   refine A9 [] [3,5,8] (k:=A0 ?_)
   refine A2 (A5 (j:=1) [0] (k:=?_))
   refine E5 (vs:=[pt b1,.int .i32 (dcR s q)]) Tryz.func32 (writeRune b1 (pt b1) (v12) g13 (t++⟨#[Nat.toUInt8 92]⟩) (dcR s q) bld1 hB14 (isR_dc _ _) (by simp only [C6]; have h2:(⟨#[Nat.toUInt8 92]⟩:ByteArray).size=1:=rfl; omega) _ _) ?_
   rintro _ _ ⟨v15,g16,hB17,rfl⟩
   refine B4 (E':=[⟨3,[],pt b1⟩,⟨8,[],pt it5⟩]) [] [3,8] (k:=B7 ?_)
   refine B7 (E9 (s':=(pt b1,v15,g16,((t++⟨#[Nat.toUInt8 92]⟩)++encB (dcR s q)),q+dcW s q)) [3,8] kr rfl ⟨bld1,hB17,(dcW_le hxm),(by dsimp only; rw [← hT,L3 hxm,List.flatMap_cons,hj]; (try simp only [E7,G0,List.append_assoc]) <;> rfl)⟩ (by (try dsimp only); omega))
  ·
   simp only [Bool.or_eq_false_iff,beq_eq_false_iff_ne] at hc11
   refine A1 (G_p [0,0,0] [3,5,8,24] (k:=?_))
   refine A0 (B1 (b:=(dcR s q)==10) kr (fun hc18=>?_) (fun hc18=>?_))
   ·
    simp only [beq_iff_eq] at hc18
    have hj:jsonP (dcR s q)=[92,110]:=by unfold jsonP; rw [if_neg (by omega),if_pos (by omega)]
    refine A2 (E5 Tryz.func28 (I0 b1 (p) (v) g t (ByteArray.mk #[92,110]) hbp hB (by have h2:(ByteArray.mk #[92,110]).size=2:=rfl; omega) _ _) ?_)
    rintro _ _ ⟨v19,g20,hB21,rfl⟩
    refine B4 (E':=[⟨3,[],pt b1⟩,⟨8,[],pt it5⟩]) [] [3,8] (k:=B7 ?_)
    refine B7 (E9 (s':=(pt b1,v19,g20,(t++(ByteArray.mk #[92,110])),q+dcW s q)) [3,8] kr rfl ⟨bld1,hB21,(dcW_le hxm),(by dsimp only; rw [← hT,L3 hxm,List.flatMap_cons,hj]; (try simp only [E7,List.append_assoc]) <;> rfl)⟩ (by (try dsimp only); omega))
   ·
    simp only [beq_eq_false_iff_ne] at hc18
    refine A1 (G_p [0,0,0] [3,5,8,28] (k:=?_))
    refine A0 (B1 (b:=(dcR s q)==13) kr (fun hc22=>?_) (fun hc22=>?_))
    ·
     simp only [beq_iff_eq] at hc22
     have hj:jsonP (dcR s q)=[92,114]:=by unfold jsonP; rw [if_neg (by omega),if_neg (by omega),if_pos (by omega)]
     refine A2 (E5 Tryz.func28 (I0 b1 (p) (v) g t (ByteArray.mk #[92,114]) hbp hB (by have h2:(ByteArray.mk #[92,114]).size=2:=rfl; omega) _ _) ?_)
     rintro _ _ ⟨v23,g24,hB25,rfl⟩
     refine B4 (E':=[⟨3,[],pt b1⟩,⟨8,[],pt it5⟩]) [] [3,8] (k:=B7 ?_)
     refine B7 (E9 (s':=(pt b1,v23,g24,(t++(ByteArray.mk #[92,114])),q+dcW s q)) [3,8] kr rfl ⟨bld1,hB25,(dcW_le hxm),(by dsimp only; rw [← hT,L3 hxm,List.flatMap_cons,hj]; (try simp only [E7,List.append_assoc]) <;> rfl)⟩ (by (try dsimp only); omega))
    ·
     simp only [beq_eq_false_iff_ne] at hc22
     refine A1 (B3 (E':=[⟨3,[],pt b1⟩,⟨5,[],.int .i32 (dcR s q)⟩,⟨8,[],pt it5⟩,⟨32,[],.bool ((dcR s q)==9)⟩]) [0,0,0] [3,5,8,32] (k:=?_))
     refine A0 (B1 (b:=(dcR s q)==9) kr (fun hc26=>?_) (fun hc26=>?_))
     ·
      simp only [beq_iff_eq] at hc26
      have hj:jsonP (dcR s q)=[92,116]:=by unfold jsonP; rw [if_neg (by omega),if_neg (by omega),if_neg (by omega),if_pos (by omega)]
      refine A2 (E5 Tryz.func28 (I0 b1 (p) (v) g t (ByteArray.mk #[92,116]) hbp hB (by have h2:(ByteArray.mk #[92,116]).size=2:=rfl; omega) _ _) ?_)
      rintro _ _ ⟨v27,g28,hB29,rfl⟩
      refine B4 (E':=[⟨3,[],pt b1⟩,⟨8,[],pt it5⟩]) [] [3,8] (k:=B7 ?_)
      refine B7 (E9 (s':=(pt b1,v27,g28,(t++(ByteArray.mk #[92,116])),q+dcW s q)) [3,8] kr rfl ⟨bld1,hB29,(dcW_le hxm),(by dsimp only; rw [← hT,L3 hxm,List.flatMap_cons,hj]; (try simp only [E7,List.append_assoc]) <;> rfl)⟩ (by (try dsimp only); omega))
     ·
      simp only [beq_eq_false_iff_ne] at hc26
      refine A1 (G_p [0,0,0,0,0,5,0,0,0,5,0,0,0,5,0,0,0,5,0,0,0,5,0,0,0,5,0] [3,5,8,36] (k:=?_))
      refine A0 (B1 (b:=((((((decide ((dcR s q)<32))||((dcR s q)==127))||((dcR s q)==8232))||((dcR s q)==8233))||((dcR s q)==60))||((dcR s q)==62))||((dcR s q)==38)) kr (fun hc30=>?_) (fun hc30=>?_))
      ·
       simp only [Bool.or_eq_true,decide_eq_true_eq,beq_iff_eq] at hc30
       have hj:jsonP (dcR s q)=92::117::hex4 (Int.toNat (dcR s q)):=by unfold jsonP; rw [if_neg (by omega),if_neg (by omega),if_neg (by omega),if_neg (by omega),if_pos (by omega)]
       refine A2 (A5 (j:=2) [0,0] (k:=?_))
       refine D1 64 (dcR s q) (by omega) (by omega) kr (E5 Tryz.func35 (four_ (dcR s q) (by omega) (by omega) _ _ hW) ?_)
       rintro _ _ ⟨rfl,rfl⟩
       refine E5 (vs:=[pt b1,.string (bk (92::117::hex4 (Int.toNat (dcR s q))))]) Tryz.func28 (I0 b1 (p) (v) g t (bk (92::117::hex4 (Int.toNat (dcR s q)))) hbp hB (by have h6:(bk (92::117::hex4 (Int.toNat (dcR s q)))).size=6:=(E8 _).trans rfl; omega) _ _) ?_
       rintro _ _ ⟨v32,g33,hB34,rfl⟩
       refine B4 (E':=[⟨3,[],pt b1⟩,⟨8,[],pt it5⟩]) [] [3,8] (k:=B7 ?_)
       refine B7 (E9 (s':=(pt b1,v32,g33,(t++(bk (92::117::hex4 (Int.toNat (dcR s q))))),q+dcW s q)) [3,8] kr rfl ⟨bld1,hB34,(dcW_le hxm),(by dsimp only; rw [← hT,L3 hxm,List.flatMap_cons,hj]; (try simp only [E7,List.append_assoc]) <;> rfl)⟩ (by (try dsimp only); omega))
      ·
       simp only [Bool.or_eq_false_iff,decide_eq_false_iff_not,beq_eq_false_iff_ne] at hc30
       have hj:jsonP (dcR s q)=Lib.encodeRune (dcR s q):=by unfold jsonP; rw [if_neg (by omega),if_neg (by omega),if_neg (by omega),if_neg (by omega),if_neg (by omega)]
       refine A2 (A5 (j:=1) [0] (k:=?_))
       refine E5 (vs:=[pt b1,.int .i32 (dcR s q)]) Tryz.func32 (writeRune b1 (p) (v) g t (dcR s q) hbp hB (isR_dc _ _) (by omega) _ _) ?_
       rintro _ _ ⟨v35,g36,hB37,rfl⟩
       refine B4 (E':=[⟨3,[],pt b1⟩,⟨8,[],pt it5⟩]) [] [3,8] (k:=B7 ?_)
       refine B7 (E9 (s':=(pt b1,v35,g36,(t++encB (dcR s q)),q+dcW s q)) [3,8] kr rfl ⟨bld1,hB37,(dcW_le hxm),(by dsimp only; rw [← hT,L3 hxm,List.flatMap_cons,hj]; (try simp only [E7,G0,List.append_assoc]) <;> rfl)⟩ (by (try dsimp only); omega))
theorem percent_ (s:ByteArray) (hs:s.size≤1000000000) (W0:World) (H:List Grp):Tri Tryz.prog 21 #[.string s] W0 H (fun v H'=>v=.string ⟨(J7 s.data.toList).toArray⟩∧H'=H):=by
 refine C2 (args:=[.string s]) (n:=54) Tryz.func21 rfl rfl (Nat.le_of_ble_eq_true rfl) ?_
 refine A1 (B3 (E':=[⟨0,[],.string s⟩]) [0] [0] (k:=?_))
 refine A0 (A1 ?_)
 refine A2 (N1 (ch:=[]) (z:=.agg #[.pointer none,.slice none 0 0]) (k:=(fun b1=>?_)))
 refine GL_heap rfl (H':=([(b1,.cells #[.pointer none,.slice none 0 0] 39 (0,0))]::[]::H)) (fun w h=>h.flat (List.Perm.refl _)) (B4 (E':=[⟨0,[],.string s⟩,⟨3,[],pt b1⟩]) [] [0,3] (k:=?_))
 refine A0 (A1 ?_)
 refine A1 (G_p [0,0,0] [0,3,7,8] (k:=?_))
 refine A0 (B8 ?_)
 refine M2 (EI:=(fun ξ:Value × Value × Grp × ByteArray × Nat=>[⟨0,[],.string s⟩,⟨3,[],pt b1⟩,⟨7,[],.int .i64 (s.size:Int)⟩,⟨8,[],.int .i64 (ξ.2.2.2.2:Int)⟩])) (HI:=(fun ξ:Value × Value × Grp × ByteArray × Nat=>([(b1,.cells #[ξ.1,ξ.2.1] 39 (0,0))]::ξ.2.2.1::H))) (Φ:=(fun ξ:Value × Value × Grp × ByteArray × Nat=>(Bld b1 ξ.1)∧(BOwn ξ.2.1 ξ.2.2.1 ξ.2.2.2.1)∧(ξ.2.2.2.2≤s.size)∧(ξ.2.2.2.1.data.toList++J7 (s.data.toList.drop ξ.2.2.2.2)=J7 s.data.toList))) (μ:=(fun ξ:Value × Value × Grp × ByteArray × Nat=>s.size - ξ.2.2.2.2)) (s0:=(.pointer none,.slice none 0 0,[],.empty,0)) [0,3,7,8] kr rfl ⟨bld0,bown0,(by (try dsimp only); omega),(by rfl)⟩ ?_
 rintro ⟨p,v,g,t,i⟩ ⟨hbp,hB,hi,hT⟩
 dsimp only at hbp hB hi hT
 obtain ⟨b,hb⟩:∃ b:UInt8,b=s.data.toList.getD i 0:=⟨_,rfl⟩
 have hbyte:A3 s (i:Int)=(b.toNat:Int):=by rw [F7,hb]
 have hbr:=byte_rng b
 have hb4:=idx4_iff b
 have ht:t.size≤3 * s.size:=by
  have h1:=congrArg List.length hT
  have h2:=perc_len s.data.toList
  rw [List.length_append,C5] at h1
  rw [C5] at h2
  omega
 refine A1 (G_p [0] [0,3,7,8,9] (k:=?_))
 refine A0 (A1 ?_)
 refine B1 (b:=decide ((i:Int)<(s.size:Int))) kr (fun hc2=>?_) (fun hc2=>?_)
 ·
  simp at hc2
  refine A7 (A0 ?_)
  refine A1 (B8 ?_)
  refine A1 (G_p [0,0] [0,3,4,7,8] (k:=?_))
  refine A0 (A1 ?_)
  refine A2 (A5 (j:=2) [0,0] (k:=?_))
  refine D8 (ch:=[]) (s:=s) (kd:=.i64) (j:=(i:Int)) (hb:=(fun _=>by omega)) (k:=?_)
  have hb3:=D4 s (i:Int)
  refine E3 (E':=[⟨13,[],.int .u8 (b.toNat:Int)⟩,⟨12,[],.int .i64 (i:Int)⟩,⟨11,[],.string s⟩,⟨0,[],.string s⟩,⟨3,[],pt b1⟩,⟨4,[],.int .i64 (i:Int)⟩,⟨7,[],.int .i64 (s.size:Int)⟩,⟨8,[],.int .i64 (i:Int)⟩]) (by have hz:([⟨13,[],.int .u8 (A3 s (i:Int))⟩,⟨12,[],.int .i64 (i:Int)⟩,⟨11,[],.string s⟩,⟨0,[],.string s⟩,⟨3,[],pt b1⟩,⟨4,[],.int .i64 (i:Int)⟩,⟨7,[],.int .i64 (s.size:Int)⟩,⟨8,[],.int .i64 (i:Int)⟩]:List Sl)=[⟨13,[],.int .u8 (b.toNat:Int)⟩,⟨12,[],.int .i64 (i:Int)⟩,⟨11,[],.string s⟩,⟨0,[],.string s⟩,⟨3,[],pt b1⟩,⟨4,[],.int .i64 (i:Int)⟩,⟨7,[],.int .i64 (s.size:Int)⟩,⟨8,[],.int .i64 (i:Int)⟩]:=(by rw [hbyte]); exact Eq.trans kr hz) (A9 [0] [0,3,5,7,8] (k:=?_))
  refine A0 (A1 ?_)
  refine A1 (A2 ?_)
  refine A5 (j:=24) [0,0,0,0,0,6,0,0,0,0,0,0,6,5,0,0,0,0,0,0,6,5,0,0] (k:=F8 (ch:=[(36,false)]) (f:=27) (fst:=#[]) (caps:=#[]) (vs:=[.string (ByteArray.mk #[45,46,95,126]),.int .u8 (b.toNat:Int)]) (v:=.int .i64 (bIdx (ByteArray.mk #[45,46,95,126]) (b.toNat:Int))) (hf:=Tryz.func27) (hc:=(fun hc=>idx_ (ByteArray.mk #[45,46,95,126]) (b.toNat:Int) _ _)) (k:=?_))
  refine A9 [0,5] [0,3,5,7,8,40] (k:=A0 ?_)
  refine B1 (b:=((((decide ((b.toNat:Int) ≥ 97))&&(decide ((b.toNat:Int)≤122)))||((decide ((b.toNat:Int) ≥ 65))&&(decide ((b.toNat:Int)≤90))))||((decide ((b.toNat:Int) ≥ 48))&&(decide ((b.toNat:Int)≤57))))||(decide ((bIdx (ByteArray.mk #[45,46,95,126]) (b.toNat:Int)) ≥ 0))) kr (fun hc4=>?_) (fun hc4=>?_)
  ·
   simp only [Bool.and_eq_true,Bool.or_eq_true,decide_eq_true_eq,hb4] at hc4
   have hpc:=pc_same (b:=b) (by unfold unresI; simp only [Bool.and_eq_true,Bool.or_eq_true,decide_eq_true_eq]; omega)
   refine A1 (A2 ?_)
   refine A5 (j:=1) [0] (k:=E5 Tryz.func31 (G9 b1 (p) (v) g t b hbp hB (by (try simp only [C6,sz1]); omega) _ _) ?_)
   rintro _ _ ⟨v5,g6,hB7,rfl⟩
   refine A9 [] [0,3,7,8] (k:=A0 ?_)
   refine G8 (B5 ?_)
   refine C9 (A0 ?_)
   refine A2 (A5 (j:=1) [0] (k:=?_))
   refine D1 52 ((i:Int)+1) (by omega) (by omega) kr (B4 (E':=[⟨0,[],.string s⟩,⟨3,[],pt b1⟩,⟨7,[],.int .i64 (s.size:Int)⟩,⟨8,[],.int .i64 ((i:Int)+1)⟩]) [0] [0,3,7,8] (k:=?_))
   refine E9 (s':=(pt b1,v5,g6,(t++⟨#[b]⟩),i+1)) [0,3,7,8] kr rfl ⟨bld1,hB7,(by (try dsimp only); omega),(by dsimp only; rw [← hT,H5 _ (show i<s.data.toList.length by rw [C5]; omega),percL_cons,← hb,hpc]; (try simp only [E7,List.append_assoc]) <;> rfl)⟩ (by (try dsimp only); omega)
  ·
   simp only [Bool.and_eq_false_iff,Bool.or_eq_false_iff,decide_eq_false_iff_not,hb4] at hc4
   have hpc:=pc_esc (b:=b) (by unfold unresI; simp only [Bool.and_eq_false_iff,Bool.or_eq_false_iff,decide_eq_false_iff_not]; omega)
   refine A7 (A0 ?_)
   refine A1 (A2 ?_)
   refine E5 Tryz.func31 (G9 b1 (p) (v) g t (Nat.toUInt8 37) hbp hB (by (try simp only [C6,sz1]); omega) _ _) ?_
   rintro _ _ ⟨v9,g10,hB11,rfl⟩
   refine A9 [] [0,3,5,7,8] (k:=A0 ?_)
   refine A1 (A2 ?_)
   refine D7 (E':=[⟨45,[],.int .u8 (Int.fdiv (b.toNat:Int) (2 ^ 4))⟩,⟨0,[],.string s⟩,⟨3,[],pt b1⟩,⟨5,[],.int .u8 (b.toNat:Int)⟩,⟨7,[],.int .i64 (s.size:Int)⟩,⟨8,[],.int .i64 (i:Int)⟩]) (j:=2) [0,0] (k:=E3 (E':=[⟨45,[],.int .u8 ((b.toNat:Int) / 16)⟩,⟨0,[],.string s⟩,⟨3,[],pt b1⟩,⟨5,[],.int .u8 (b.toNat:Int)⟩,⟨7,[],.int .i64 (s.size:Int)⟩,⟨8,[],.int .i64 (i:Int)⟩]) (by rw [fdiv16]) ?_)
   refine D8 (ch:=[]) (s:=(ByteArray.mk #[48,49,50,51,52,53,54,55,56,57,65,66,67,68,69,70])) (kd:=.u8) (j:=((b.toNat:Int) / 16)) (hb:=(by intro _; exact ⟨by omega,by show _<(16:Int); omega⟩)) (k:=?_)
   have hb12:=D4 (ByteArray.mk #[48,49,50,51,52,53,54,55,56,57,65,66,67,68,69,70]) ((b.toNat:Int) / 16)
   refine E5 Tryz.func31 (G9 b1 (pt b1) (v9) g10 (t++⟨#[Nat.toUInt8 37]⟩) (litU[Int.toNat ((b.toNat:Int) / 16)]?.getD 0) bld1 hB11 (by (try simp only [C6,sz1]); omega) _ _) ?_
   rintro _ _ ⟨v13,g14,hB15,rfl⟩
   refine B4 (E':=[⟨0,[],.string s⟩,⟨3,[],pt b1⟩,⟨5,[],.int .u8 (b.toNat:Int)⟩,⟨7,[],.int .i64 (s.size:Int)⟩,⟨8,[],.int .i64 (i:Int)⟩]) [] [0,3,5,7,8] (k:=A0 ?_)
   refine A2 (D7 (E':=[⟨49,[],.int .u8 (IntKind.wrap .u8 ((BitVec.ofInt (IntKind.bits .u8) (b.toNat:Int) &&& BitVec.ofInt (IntKind.bits .u8) 15).toNat))⟩,⟨0,[],.string s⟩,⟨3,[],pt b1⟩,⟨7,[],.int .i64 (s.size:Int)⟩,⟨8,[],.int .i64 (i:Int)⟩]) (j:=2) [0,0] (k:=?_))
   refine E3 (E':=[⟨49,[],.int .u8 ((b.toNat:Int) % 16)⟩,⟨0,[],.string s⟩,⟨3,[],pt b1⟩,⟨7,[],.int .i64 (s.size:Int)⟩,⟨8,[],.int .i64 (i:Int)⟩]) (by rw [and15c]) (D8 (ch:=[]) (s:=(ByteArray.mk #[48,49,50,51,52,53,54,55,56,57,65,66,67,68,69,70])) (kd:=.u8) (j:=((b.toNat:Int) % 16)) (hb:=(by intro _; exact ⟨by omega,by show _<(16:Int); omega⟩)) (k:=?_))
   have hb16:=D4 (ByteArray.mk #[48,49,50,51,52,53,54,55,56,57,65,66,67,68,69,70]) ((b.toNat:Int) % 16)
   refine E5 Tryz.func31 (G9 b1 (pt b1) (v13) g14 ((t++⟨#[Nat.toUInt8 37]⟩)++⟨#[(litU[Int.toNat ((b.toNat:Int) / 16)]?.getD 0)]⟩) (litU[Int.toNat ((b.toNat:Int) % 16)]?.getD 0) bld1 hB15 (by (try simp only [C6,sz1]); omega) _ _) ?_
   rintro _ _ ⟨v17,g18,hB19,rfl⟩
   refine A9 [] [0,3,7,8] (k:=B7 ?_)
   refine A0 (A2 ?_)
   refine A5 (j:=1) [0] (k:=D1 52 ((i:Int)+1) (by omega) (by omega) kr ?_)
   refine A9 [0] [0,3,7,8] (k:=E9 (s':=(pt b1,v17,g18,(((t++⟨#[Nat.toUInt8 37]⟩)++⟨#[(litU[Int.toNat ((b.toNat:Int) / 16)]?.getD 0)]⟩)++⟨#[(litU[Int.toNat ((b.toNat:Int) % 16)]?.getD 0)]⟩),i+1)) [0,3,7,8] kr rfl ⟨bld1,hB19,(by (try dsimp only); omega),(by dsimp only; rw [← hT,H5 _ (show i<s.data.toList.length by rw [C5]; omega),percL_cons,← hb,hpc]; (try simp only [E7,List.append_assoc]) <;> rfl)⟩ (by (try dsimp only); omega))
 ·
  simp at hc2
  refine G8 (B5 ?_)
  refine B5 (C9 ?_)
  refine A0 (A1 ?_)
  refine A2 (E5 Tryz.func29 (I5 b1 (p) (v) g t hB (by omega) _ _) ?_)
  rintro _ _ ⟨rfl,rfl⟩
  refine B4 (E':=[⟨2,[],.string t⟩]) [0] [2] (k:=A0 ?_)
  refine B6 (D9 (H':=H) (fun w h=>(h.erase 0)) ?_)
  refine B2 [.tmp 2] [.string t] (k:=?_)
  exact ⟨congrArg Value.string (ba_eq (by rw [← hT,List.drop_eq_nil_of_le (by rw [C5]; omega)]; exact (List.append_nil _).symm)),rfl⟩
end Go.Proofs.YtbnfbffiehoapaaGreatDoor
namespace Go.Esc
open Go.Lib Go.Sw
theorem numV_rng {base:Int} (hb:10≤base∧base≤16):∀ (l:List UInt8) (a n:Int),0≤a→numV base a l=some n→0≤n∧n<(a+1) * 16 ^ l.length
  | [],a,n,ha,h=>by
    rw [numV_nil] at h; injection h with h; subst h
    simp only [List.length_nil,Int.pow_zero]; omega
  | c::t,a,n,ha,h=>by
    rw [M1] at h
    split at h
    · cases h
    · rename_i hd
      have hr:=digB_rng (c.toNat:Int) base (by omega)
      have h1:0≤base * a:=Int.mul_nonneg (by omega) ha
      have h2:base * a≤16 * a:=Int.mul_le_mul_of_nonneg_right (by omega) ha
      obtain ⟨h3,h4⟩:=numV_rng hb t _ n (by omega) h
      refine ⟨h3,Int.lt_of_lt_of_le h4 ?_⟩
      rw [List.length_cons,Int.pow_succ,Int.mul_comm (16 ^ t.length) 16,← Int.mul_assoc]
      exact Int.mul_le_mul_of_nonneg_right (by omega) (Int.pow_nonneg (by decide))
theorem unitM_rng (l:List UInt8):-1≤F4 l∧F4 l≤65535:=by
  unfold F4
  split
  · exact ⟨by decide,by decide⟩
  · cases h:numV 16 0 ((l.drop 2).take 4) with
    | none=>exact ⟨by decide,by decide⟩
    | some n =>
      obtain ⟨h1,h2⟩:=numV_rng (by decide) _ _ _ (Int.le_refl 0) h
      have h3:(16:Int) ^ ((l.drop 2).take 4).length≤16 ^ 4:=by
        have:(16:Nat) ^ ((l.drop 2).take 4).length≤16 ^ 4:=Nat.pow_le_pow_right (by decide) (by rw [List.length_take]; omega)
        have e:∀ k:Nat,((16 ^ k:Nat):Int)=(16:Int) ^ k:=fun k=>by simp
        rw [← e,← e]; exact Int.ofNat_le.2 this
      show -1≤n∧n≤65535
      have h4:(16:Int) ^ 4=65536:=by decide
      rw [h4] at h3
      omega
theorem unitM_len {l:List UInt8} (h:0≤F4 l):6≤l.length:=by
  unfold F4 at h
  split at h
  · exact absurd h (by decide)
  · rename_i hn
    rcases Nat.lt_or_ge l.length 6 with h6 | h6
    · exact absurd (.inl h6) hn
    · exact h6
theorem oneEsc_rng (c:UInt8):-1≤L9 c∧L9 c≤92:=by unfold L9; (repeat' split) <;> omega
theorem escM_pos {l:List UInt8} (h:0≤(I6 l).1):2≤(I6 l).2∧(I6 l).2≤l.length∧isR (I6 l).1:=by
  have hu:=unitM_rng l
  have hv:=unitM_rng (l.drop 6)
  have ho:=oneEsc_rng (l.getD 1 0)
  unfold I6 at h ⊢
  by_cases c1:l.length<2
  · rw [if_pos c1] at h; exact absurd h (by decide)
  rw [if_neg c1] at h ⊢
  by_cases c2:0≤L9 (l.getD 1 0)
  · rw [if_pos c2]; unfold isR; exact ⟨Nat.le_refl _,by omega,by dsimp only; omega,by dsimp only; omega,by dsimp only; omega⟩
  rw [if_neg c2] at h ⊢
  by_cases c3:55296≤F4 l∧F4 l<56320
  · rw [if_pos c3] at h ⊢
    by_cases c4:F4 (l.drop 6)<56320∨57343<F4 (l.drop 6)
    · rw [if_pos c4] at h; exact absurd h (by decide)
    · rw [if_neg c4]
      have h6:=unitM_len (l:=l.drop 6) (by omega)
      rw [List.length_drop] at h6
      unfold isR
      exact ⟨by dsimp only; omega,by dsimp only; omega,by dsimp only; omega,by dsimp only; omega,by dsimp only; omega⟩
  rw [if_neg c3] at h ⊢
  by_cases c5:56320≤F4 l∧F4 l<57344
  · rw [if_pos c5] at h; exact absurd h (by decide)
  rw [if_neg c5] at h ⊢
  have h6:=unitM_len (l:=l) h
  unfold isR
  exact ⟨by dsimp only; omega,by dsimp only; omega,by dsimp only; omega,by dsimp only; omega,by dsimp only; omega⟩
theorem ujF_nil:∀ n,ujF n []=some []
  | 0=>rfl
  | _+1=>rfl
theorem ujF_fuel:∀ (n m:Nat) (l:List UInt8),l.length≤n→l.length≤m→ujF n l=ujF m l
  | _,_,[],_,_=>by rw [ujF_nil,ujF_nil]
  | 0,_,_::_,h,_=>by simp at h
  | _+1,0,_::_,_,h=>by simp at h
  | n+1,m+1,c::t,hn,hm=>by
    simp only [List.length_cons] at hn hm
    simp only [ujF]
    rw [ujF_fuel n m t (by omega) (by omega)]
    by_cases hp:(I6 (c::t)).1<0
    · rw [if_pos hp,if_pos hp]
    · have:=escM_pos (l:=c::t) (by omega)
      rw [if_neg hp,if_neg hp,ujF_fuel n m ((c::t).drop (I6 (c::t)).2) (by rw [List.length_drop,List.length_cons]; omega) (by rw [List.length_drop,List.length_cons]; omega)]
theorem ujL_nil:ujL []=some []:=rfl
theorem ujL_cons (c:UInt8) (t:List UInt8):ujL (c::t)=if c<32∨c=34 then none else if c≠92 then (ujL t).map (c::·) else if (I6 (c::t)).1<0 then none else (ujL ((c::t).drop (I6 (c::t)).2)).map (encodeRune (I6 (c::t)).1++·):=by
  show ujF (t.length+1) (c::t)=_
  simp only [ujF]
  by_cases hp:(I6 (c::t)).1<0
  · rw [if_pos hp,if_pos hp]; rfl
  · have:=escM_pos (l:=c::t) (by omega)
    rw [if_neg hp,if_neg hp,ujF_fuel t.length ((c::t).drop (I6 (c::t)).2).length _ (by rw [List.length_drop,List.length_cons]; omega) (Nat.le_refl _)]; rfl
def unjM (l:List UInt8):Option (List UInt8) :=
  if l.length<2∨l.getD 0 0≠34∨l.getD (l.length - 1) 0≠34∨validP l=false then none else ujL ((l.drop 1).take (l.length - 2))
def unjV:Option (List UInt8)→Value
  | some t=>.tuple #[.string (bk t),.int .i64 0]
  | none=>.tuple #[.string (ByteArray.mk #[]),.int .i64 20]
theorem drop0 {s:ByteArray} {b:UInt8} (h:0<s.size) (hb:b=s.data.toList.getD 0 0):s.data.toList=b::s.data.toList.drop 1:=by
  have:=H5 s.data.toList (k:=0) (by rw [C5]; exact h)
  rw [List.drop_zero] at this; rw [hb]; exact this
theorem ujA {s:ByteArray} {b:UInt8} (h:0<s.size) (hb:b=s.data.toList.getD 0 0) (hc:(b.toNat:Int)<32∨(b.toNat:Int)=34):ujL s.data.toList=none:=by
  rw [drop0 h hb,ujL_cons,if_pos]
  rcases hc with hc | hc
  · exact .inl (UInt8.lt_iff_toNat_lt.2 (by show b.toNat<32; omega))
  · exact .inr (UInt8.toNat_inj.1 (by show b.toNat=34; omega))
theorem uj_no {b:UInt8} (hc:¬ ((b.toNat:Int)<32∨(b.toNat:Int)=34)):¬ (b<32∨b=34):=by
  rintro (h | h)
  · have:=UInt8.lt_iff_toNat_lt.1 h; exact hc (.inl (by have:b.toNat<32:=this; omega))
  · subst h; exact hc (.inr rfl)
theorem ujB {s:ByteArray} {b:UInt8} (h:0<s.size) (hb:b=s.data.toList.getD 0 0) (hc:¬ ((b.toNat:Int)<32∨(b.toNat:Int)=34)) (h2:(b.toNat:Int)≠92):ujL s.data.toList=(ujL (s.extract 1 s.size).data.toList).map (b::·):=by
  rw [G4]
  conv=>lhs; rw [drop0 h hb]
  rw [ujL_cons,if_neg (uj_no hc),if_pos (by rintro rfl; exact h2 rfl)]
theorem ujC {s:ByteArray} {b:UInt8} (h:0<s.size) (hb:b=s.data.toList.getD 0 0) (h2:(b.toNat:Int)=92) :
    ((I6 s.data.toList).1<0→ujL s.data.toList=none)∧(¬ (I6 s.data.toList).1<0→ujL s.data.toList=(ujL (s.extract (I6 s.data.toList).2 s.size).data.toList).map (encodeRune (I6 s.data.toList).1++·)):=by
  have hb92:b=92:=UInt8.toNat_inj.1 (by show b.toNat=92; omega)
  have e:=drop0 h hb
  rw [G4]
  generalize s.data.toList=l at e ⊢
  subst hb92
  have hn:¬ ((92:UInt8)<32∨(92:UInt8)=34):=by decide
  refine ⟨fun hr=>?_,fun hr=>?_⟩
  · rw [e] at hr ⊢
    rw [ujL_cons,if_neg hn,if_neg (by decide),if_pos hr]
  · rw [e] at hr ⊢
    rw [ujL_cons,if_neg hn,if_neg (by decide),if_neg hr]
theorem map_app {o:Option (List UInt8)} {a b c:List UInt8} (h:c=a++b):(o.map (b++·)).map (a++·)=o.map (c++·):=by subst h; cases o <;> simp
theorem map_one {o:Option (List UInt8)} {a c:List UInt8} {b:UInt8} (h:c=a++[b]):(o.map (b::·)).map (a++·)=o.map (c++·):=by subst h; cases o <;> simp
theorem takeTwo {s:ByteArray} (h:2≤s.size):s.data.toList.take 2=[s.data.toList.getD 0 0,s.data.toList.getD 1 0]:=by
  have h1:=H5 s.data.toList (k:=0) (by rw [C5]; omega)
  have h2:=H5 s.data.toList (k:=1) (by rw [C5]; omega)
  rw [List.drop_zero] at h1
  conv=>lhs; rw [h1,h2]
  rfl
theorem byte0 (s:ByteArray):A3 s 0=((s.data.toList.getD 0 0).toNat:Int):=F7 s 0
theorem byte1 (s:ByteArray):A3 s 1=((s.data.toList.getD 1 0).toNat:Int):=F7 s 1
theorem unit_no {s:ByteArray} (h:(s.size:Int)<6∨A3 s 0≠92∨A3 s 1≠117):F4 s.data.toList=-1:=by
  unfold F4
  rw [if_pos]
  rw [C5]
  by_cases h6:s.size<6
  · exact .inl h6
  · refine .inr ?_
    rw [takeTwo (by omega)]
    intro he
    injection he with h1 h2; injection h2 with h2 _
    rw [byte0,byte1,h1,h2] at h
    rcases h with h | h | h
    · omega
    · exact h rfl
    · exact h rfl
theorem unit_yes {s:ByteArray} (h6:¬ (s.size:Int)<6) (h0:A3 s 0=92) (h1:A3 s 1=117):F4 s.data.toList=(numV 16 0 (s.extract 2 6).data.toList).getD (-1):=by
  unfold F4
  rw [if_neg,ext_list]
  rw [C5]
  rintro (h | h)
  · omega
  · apply h
    rw [takeTwo (by omega),show s.data.toList.getD 0 0=92 from UInt8.toNat_inj.1 (by rw [byte0] at h0; show _=92; omega),show s.data.toList.getD 1 0=117 from UInt8.toNat_inj.1 (by rw [byte1] at h1; show _=117; omega)]
theorem one8:∀ n:Fin 256,bIdx (ByteArray.mk #[34,92,47,98,102,110,114,116]) (n.val:Int)<8∧(0≤bIdx (ByteArray.mk #[34,92,47,98,102,110,114,116]) (n.val:Int)→A3 (ByteArray.mk #[34,92,47,8,12,10,13,9]) (bIdx (ByteArray.mk #[34,92,47,98,102,110,114,116]) (n.val:Int))=L9 (UInt8.ofNat n.val)∧0≤L9 (UInt8.ofNat n.val))∧(¬ 0≤bIdx (ByteArray.mk #[34,92,47,98,102,110,114,116]) (n.val:Int)→L9 (UInt8.ofNat n.val)=-1):=by decide +kernel
theorem one_at (b:UInt8):bIdx (ByteArray.mk #[34,92,47,98,102,110,114,116]) (b.toNat:Int)<8∧(0≤bIdx (ByteArray.mk #[34,92,47,98,102,110,114,116]) (b.toNat:Int)→A3 (ByteArray.mk #[34,92,47,8,12,10,13,9]) (bIdx (ByteArray.mk #[34,92,47,98,102,110,114,116]) (b.toNat:Int))=L9 b∧0≤L9 b)∧(¬ 0≤bIdx (ByteArray.mk #[34,92,47,98,102,110,114,116]) (b.toNat:Int)→L9 b=-1):=by
  have:=one8 ⟨b.toNat,b.toNat_lt⟩
  simpa using this
theorem byteL {s:ByteArray} (h:2≤s.size):A3 s ((s.size:Int) - 1)=((s.data.toList.getD (s.data.toList.length - 1) 0).toNat:Int):=by
  rw [show (s.size:Int) - 1=((s.size - 1:Nat):Int) by omega,F7,C5]
theorem unj_no {s:ByteArray} (h:(((s.size:Int)<2∨¬ A3 s 0=34)∨¬ A3 s ((s.size:Int) - 1)=34)∨validP s.data.toList=false):unjM s.data.toList=none:=by
  unfold unjM
  rw [if_pos]
  rcases Nat.lt_or_ge s.size 2 with h2 | h2
  · left; rw [C5]; exact h2
  rw [byte0,byteL h2] at h
  rcases h with ((h | h) | h) | h
  · omega
  · exact .inr (.inl fun he=>h (by rw [he]; rfl))
  · exact .inr (.inr (.inl fun he=>h (by rw [he]; rfl)))
  · exact .inr (.inr (.inr h))
theorem unj_yes {s:ByteArray} (h2:¬ (s.size:Int)<2) (h0:A3 s 0=34) (hl:A3 s ((s.size:Int) - 1)=34) (hv:validP s.data.toList=true):unjM s.data.toList=(ujL (s.extract 1 (Int.toNat ((s.size:Int) - 1))).data.toList).map (ByteArray.empty.data.toList++·):=by
  have h2':2≤s.size:=by omega
  rw [byte0] at h0; rw [byteL h2'] at hl
  unfold unjM
  rw [if_neg,ext_list,show Int.toNat ((s.size:Int) - 1) - 1=s.data.toList.length - 2 by rw [C5]; omega]
  · cases ujL ((s.data.toList.drop 1).take (s.data.toList.length - 2)) <;> rfl
  · rintro (h | h | h | h)
    · rw [C5] at h; omega
    · exact h (UInt8.toNat_inj.1 (by show _=34; omega))
    · exact h (UInt8.toNat_inj.1 (by show _=34; omega))
    · rw [hv] at h; cases h
end Go.Esc
namespace Go.Proofs.YtbnfbffiehoapaaGreatDoor
open Go.Sw Go.Sha Go.Esc Go.RowKit
theorem shl10 {x:Int} (h0:0≤x) (h1:x≤1000000):IntKind.wrap .i64 (x * 2 ^ 10)=x * 1024:=by
  rw [show (2:Int) ^ 10=1024 by decide]; exact w64 (by omega) (by omega)
theorem unit_ (s:ByteArray) (hs:s.size≤1000000000000) (W0:World) (H:List Grp) (hW:H3 W0):Tri Tryz.prog 56 #[.string s] W0 H (fun v H'=>v=.int .i64 (F4 s.data.toList)∧H'=H):=by
 refine C2 (args:=[.string s]) (n:=28) Tryz.func56 rfl rfl (Nat.le_of_ble_eq_true rfl) ?_
 refine A1 (B3 (E':=[⟨0,[],.string s⟩]) [0] [0] (k:=?_))
 refine A0 (A1 ?_)
 refine A1 (A2 ?_)
 refine A5 (j:=5) [0,0,0,0,0] (k:=D8 (ch:=[(8,false)]) (s:=s) (kd:=.i64) (j:=0) (hb:=(fun hc=>by have hg0:=chB_hd (t:=8) (c:=[]) (b:=decide ((s.size:Int)<6)) hc kr; (try simp at hg0); omega)) (k:=?_))
 have hb1:=D4 s 0
 refine A5 (j:=10) [0,5,0,0] (k:=D8 (ch:=[(13,false)]) (s:=s) (kd:=.i64) (j:=1) (hb:=(fun hc=>by have hg0:=chB_hd (t:=13) (c:=[]) (b:=(decide ((s.size:Int)<6))||((A3 s 0) != 92)) hc kr; (try simp at hg0); omega)) (k:=?_))
 have hb2:=D4 s 1
 refine A9 [0,5] [0,17] (k:=A0 ?_)
 refine B1 (b:=((decide ((s.size:Int)<6))||((A3 s 0) != 92))||((A3 s 1) != 117)) kr (fun hc3=>?_) (fun hc3=>?_)
 ·
  simp only [Bool.or_eq_true,decide_eq_true_eq,bne_iff_ne,ne_eq] at hc3
  refine A1 (B3 (E':=[⟨2,[],.int .i64 (-1)⟩]) [0] [2] (k:=?_))
  refine A0 (B6 ?_)
  refine A4 (B2 [.tmp 2] [.int .i64 (-1)] (k:=?_))
  exact ⟨congrArg (Value.int .i64) (unit_no (by omega)).symm,rfl⟩
 ·
  simp only [Bool.or_eq_false_iff,decide_eq_false_iff_not,bne_eq_false_iff_eq] at hc3
  obtain ⟨⟨hc1,hc2⟩,hc3⟩:=hc3
  refine A7 (A0 ?_)
  refine A1 (A2 ?_)
  refine A5 (j:=1) [0] (k:=F6 (ch:=[]) (s:=s) (vl:=(some (.int .i64 2))) (vh:=(some (.int .i64 6))) (l:=2) (h:=6) (hb:=(by omega)) (k:=?_))
  have hz:(s.extract 2 6).size=4:=by rw [ByteArray.size_extract]; omega
  refine E5 Tryz.func63 (parse16_ (s.extract 2 6) (by omega) (by omega) _ _ hW) ?_
  rintro _ _ ⟨⟨n,hV,hn0,hn1,rfl⟩ | ⟨hV,N,rfl⟩,rfl⟩
  ·
   have hp:=pow16 (show (s.extract 2 6).size≤7 by omega)
   refine A9 [0,0,0,0,0] [3,4] (k:=A0 ?_)
   refine A1 (A1 ?_)
   refine A2 (A5 (j:=1) [0] (k:=?_))
   refine J1 (ch:=[]) (v:=.nilIface) (e:=true) true (hv:=.inl ⟨rfl,rfl⟩) (k:=A9 [] [3,25] (k:=?_))
   refine A0 (D6 kr ?_)
   refine A7 (A0 ?_)
   refine A1 (A2 ?_)
   refine A5 (j:=2) [0,0] (k:=D1 27 n (by omega) (by omega) kr ?_)
   refine B4 (E':=[⟨2,[],.int .i64 n⟩]) [0] [2] (k:=A0 ?_)
   refine B6 (B2 [.tmp 2] [.int .i64 n] (k:=?_))
   exact ⟨congrArg (Value.int .i64) (by rw [unit_yes (by omega) hc2 hc3,hV]; rfl),rfl⟩
  ·
   refine A9 [0,0,0,0,0] [3,4] (k:=A0 ?_)
   refine A1 (A1 ?_)
   refine A2 (A5 (j:=1) [0] (k:=?_))
   refine J1 (ch:=[]) (v:=.iface 139 (pt N)) (e:=false) true (hv:=.inr ⟨⟨_,_,rfl⟩,rfl⟩) (k:=A9 [] [3,25] (k:=?_))
   refine A0 (B9 kr ?_)
   refine A1 (B3 (E':=[⟨2,[],.int .i64 (-1)⟩]) [0] [2] (k:=?_))
   refine A0 (B6 ?_)
   refine A4 (B2 [.tmp 2] [.int .i64 (-1)] (k:=?_))
   exact ⟨congrArg (Value.int .i64) (by rw [unit_yes (by omega) hc2 hc3,hV]; rfl),rfl⟩
theorem escape_ (s:ByteArray) (hs:s.size≤1000000000000) (W0:World) (H:List Grp) (hW:H3 W0):Tri Tryz.prog 37 #[.string s] W0 H (fun v H'=>v=.tuple #[.int .i64 (I6 s.data.toList).1,.int .i64 ((I6 s.data.toList).2:Int)]∧H'=H):=by
 refine C2 (args:=[.string s]) (n:=51) Tryz.func37 rfl rfl (Nat.le_of_ble_eq_true rfl) ?_
 refine A1 (B3 (E':=[⟨0,[],.string s⟩]) [0,0] [0] (k:=?_))
 refine A0 (A1 ?_)
 refine A1 (G_p [0,0,0] [0,9] (k:=?_))
 refine A0 (B1 (b:=decide ((s.size:Int)<2)) kr (fun hc1=>?_) (fun hc1=>?_))
 ·
  simp only [decide_eq_true_eq] at hc1
  refine A1 (G_p [0,0] [2,3] (k:=?_))
  refine A0 (B6 ?_)
  refine A4 (B2 [.tmp 2,.tmp 3] [.int .i64 (-1),.int .i64 0] (k:=?_))
  exact ⟨by rw [show I6 s.data.toList=(-1,0) from by unfold I6; rw [if_pos (by rw [C5]; omega)]]; rfl,rfl⟩
 ·
  simp only [decide_eq_false_iff_not] at hc1
  obtain ⟨b,hb⟩:∃ b:UInt8,b=s.data.toList.getD 1 0:=⟨_,rfl⟩
  have hbyte:A3 s 1=(b.toNat:Int):=by rw [byte1,hb]
  have h8:=one_at b
  refine A7 (A0 ?_)
  refine A1 (A1 ?_)
  refine A2 (A5 (j:=1) [0] (k:=?_))
  refine D8 (ch:=[]) (s:=s) (kd:=.i64) (j:=1) (hb:=(fun _=>by omega)) (k:=?_)
  have hb2:=D4 s 1
  refine E3 (E':=[⟨11,[],.int .u8 (b.toNat:Int)⟩,⟨10,[],.string s⟩,⟨0,[],.string s⟩,⟨9,[],.bool (decide ((s.size:Int)<2))⟩]) (by have hz:([⟨11,[],.int .u8 (A3 s 1)⟩,⟨10,[],.string s⟩,⟨0,[],.string s⟩,⟨9,[],.bool (decide ((s.size:Int)<2))⟩]:List Sl)=[⟨11,[],.int .u8 (b.toNat:Int)⟩,⟨10,[],.string s⟩,⟨0,[],.string s⟩,⟨9,[],.bool (decide ((s.size:Int)<2))⟩]:=(by rw [hbyte]); exact Eq.trans kr hz) (I2 Tryz.func27 (idx_ (ByteArray.mk #[34,92,47,98,102,110,114,116]) (b.toNat:Int) _ _) ?_)
  refine A9 [0] [0,4] (k:=A0 ?_)
  refine A1 (G_p [0,0] [0,4,14] (k:=?_))
  refine A0 (B1 (b:=decide ((bIdx (ByteArray.mk #[34,92,47,98,102,110,114,116]) (b.toNat:Int)) ≥ 0)) kr (fun hc3=>?_) (fun hc3=>?_))
  ·
   simp only [decide_eq_true_eq,ge_iff_le] at hc3
   have h9:=h8.2.1 hc3
   refine A1 (A2 ?_)
   refine A5 (j:=1) [0] (k:=D8 (ch:=[]) (s:=(ByteArray.mk #[34,92,47,8,12,10,13,9])) (kd:=.i64) (j:=bIdx (ByteArray.mk #[34,92,47,98,102,110,114,116]) (b.toNat:Int)) (hb:=(by intro _; exact ⟨by omega,by show _<(8:Int); omega⟩)) (k:=?_))
   have hb4:=D4 (ByteArray.mk #[34,92,47,8,12,10,13,9]) (bIdx (ByteArray.mk #[34,92,47,98,102,110,114,116]) (b.toNat:Int))
   refine A5 (j:=3) [0] (k:=D1 17 (A3 (ByteArray.mk #[34,92,47,8,12,10,13,9]) (bIdx (ByteArray.mk #[34,92,47,98,102,110,114,116]) (b.toNat:Int))) (by omega) (by omega) kr ?_)
   refine A9 [0,0] [2,3] (k:=A0 ?_)
   refine B6 (A4 ?_)
   refine B2 [.tmp 2,.tmp 3] [.int .i64 (A3 (ByteArray.mk #[34,92,47,8,12,10,13,9]) (bIdx (ByteArray.mk #[34,92,47,98,102,110,114,116]) (b.toNat:Int))),.int .i64 2] (k:=?_)
   exact ⟨by rw [show I6 s.data.toList=(L9 b,2) from by unfold I6; rw [if_neg (by rw [C5]; omega),← hb,if_pos h9.2],h9.1]; rfl,rfl⟩
  ·
   simp only [decide_eq_false_iff_not,ge_iff_le] at hc3
   have h9:=h8.2.2 hc3
   refine A7 (A0 ?_)
   refine A1 (A2 ?_)
   refine A5 (j:=1) [0] (k:=E5 Tryz.func56 (unit_ s (by (try simp only [ByteArray.size_extract]); omega) _ _ hW) ?_)
   rintro _ _ ⟨rfl,rfl⟩
   have hu133:=unitM_rng s.data.toList
   refine A9 [0] [0,5] (k:=A0 ?_)
   refine A1 (B8 ?_)
   refine A1 (G_p [0,0,0,0,0,6,0] [0,5,20] (k:=?_))
   refine A0 (B1 (b:=(decide ((F4 s.data.toList) ≥ 55296))&&(decide ((F4 s.data.toList)<56320))) kr (fun hc6=>?_) (fun hc6=>?_))
   ·
    simp only [Bool.and_eq_true,decide_eq_true_eq,ge_iff_le] at hc6
    have hl6:=unitM_len (l:=s.data.toList) (by omega)
    rw [C5] at hl6
    refine A1 (A2 ?_)
    refine A5 (j:=1) [0] (k:=F6 (ch:=[]) (s:=s) (vl:=(some (.int .i64 6))) (vh:=none) (l:=6) (h:=(s.size:Int)) (hb:=(fun _=>by omega)) (k:=?_))
    refine E5 Tryz.func56 (unit_ (s.extract 6 s.size) (by (try simp only [ByteArray.size_extract]); omega) _ _ hW) ?_
    rintro _ _ ⟨rfl,rfl⟩
    have hu136:=unitM_rng (s.extract 6 s.size).data.toList
    refine B4 (E':=[⟨5,[],.int .i64 (F4 s.data.toList)⟩,⟨6,[],.int .i64 (F4 (s.extract 6 s.size).data.toList)⟩]) [0] [5,6] (k:=A0 ?_)
    refine A1 (A1 ?_)
    refine G_p [0,0,0,0,0,5] [5,6,35] (k:=A0 ?_)
    refine B1 (b:=(decide ((F4 (s.extract 6 s.size).data.toList)<56320))||(decide ((F4 (s.extract 6 s.size).data.toList) > 57343))) kr (fun hc7=>?_) (fun hc7=>?_)
    ·
     simp only [Bool.or_eq_true,decide_eq_true_eq,gt_iff_lt] at hc7
     refine A1 (G_p [0,0] [2,3] (k:=?_))
     refine A0 (B6 ?_)
     refine A4 (B0 ?_)
     refine A4 (B2 [.tmp 2,.tmp 3] [.int .i64 (-1),.int .i64 0] (k:=?_))
     exact ⟨by rw [show I6 s.data.toList=(-1,0) from by unfold I6; rw [if_neg (by rw [C5]; omega),← hb,if_neg (by omega),if_pos (by omega),← G4,if_pos (by omega)]]; rfl,rfl⟩
    ·
     simp only [Bool.or_eq_false_iff,decide_eq_false_iff_not,gt_iff_lt] at hc7
     refine A7 (A0 ?_)
     refine A1 (A2 ?_)
     refine A5 (j:=2) [0,0] (k:=D1 37 ((F4 s.data.toList) - 55296) (by omega) (by omega) kr ?_)
     refine D7 (E':=[⟨38,[],.int .i64 (IntKind.wrap .i64 (((F4 s.data.toList) - 55296) * 2 ^ 10))⟩,⟨6,[],.int .i64 (F4 (s.extract 6 s.size).data.toList)⟩]) (j:=3) [0] (k:=E3 (E':=[⟨38,[],.int .i64 (((F4 s.data.toList) - 55296) * 1024)⟩,⟨6,[],.int .i64 (F4 (s.extract 6 s.size).data.toList)⟩]) (by rw [shl10 (by omega) (by omega)]) ?_)
     refine A5 (j:=4) [0] (k:=D1 39 (65536+(((F4 s.data.toList) - 55296) * 1024)) (by omega) (by omega) kr ?_)
     refine A5 (j:=6) [0,0] (k:=D1 41 ((65536+(((F4 s.data.toList) - 55296) * 1024))+(F4 (s.extract 6 s.size).data.toList)) (by omega) (by omega) kr ?_)
     refine A5 (j:=7) [0] (k:=D1 42 (((65536+(((F4 s.data.toList) - 55296) * 1024))+(F4 (s.extract 6 s.size).data.toList)) - 56320) (by omega) (by omega) kr ?_)
     refine A9 [0,0] [2,3] (k:=A0 ?_)
     refine B6 (B0 ?_)
     refine A4 (B2 [.tmp 2,.tmp 3] [.int .i64 (((65536+(((F4 s.data.toList) - 55296) * 1024))+(F4 (s.extract 6 s.size).data.toList)) - 56320),.int .i64 12] (k:=?_))
     exact ⟨by rw [show I6 s.data.toList=(65536+((F4 s.data.toList) - 55296) * 1024+F4 (s.extract 6 s.size).data.toList - 56320,12) from by unfold I6; rw [if_neg (by rw [C5]; omega),← hb,if_neg (by omega),if_pos (by omega),← G4,if_neg (by omega)]]; rfl,rfl⟩
   ·
    simp only [Bool.and_eq_false_iff,decide_eq_false_iff_not,ge_iff_le] at hc6
    refine A1 (B3 (E':=[⟨5,[],.int .i64 (F4 s.data.toList)⟩,⟨43,[],.bool ((decide ((F4 s.data.toList) ≥ 56320))&&(decide ((F4 s.data.toList)<57344)))⟩]) [0,0,0,0,0,6,0] [5,43] (k:=?_))
    refine A0 (B1 (b:=(decide ((F4 s.data.toList) ≥ 56320))&&(decide ((F4 s.data.toList)<57344))) kr (fun hc12=>?_) (fun hc12=>?_))
    ·
     simp only [Bool.and_eq_true,decide_eq_true_eq,ge_iff_le] at hc12
     refine A1 (G_p [0,0] [2,3] (k:=?_))
     refine A0 (B6 ?_)
     refine B0 (A4 ?_)
     refine B2 [.tmp 2,.tmp 3] [.int .i64 (-1),.int .i64 0] (k:=?_)
     exact ⟨by rw [show I6 s.data.toList=(-1,0) from by unfold I6; rw [if_neg (by rw [C5]; omega),← hb,if_neg (by omega),if_neg (by omega),if_pos (by omega)]]; rfl,rfl⟩
    ·
     simp only [Bool.and_eq_false_iff,decide_eq_false_iff_not,ge_iff_le] at hc12
     refine A7 (B7 ?_)
     refine A0 (A1 ?_)
     refine G_p [0,0,0] [2,3] (k:=A0 ?_)
     refine B6 (B2 [.tmp 2,.tmp 3] [.int .i64 (F4 s.data.toList),.int .i64 6] (k:=?_))
     exact ⟨by rw [show I6 s.data.toList=((F4 s.data.toList),6) from by unfold I6; rw [if_neg (by rw [C5]; omega),← hb,if_neg (by omega),if_neg (by omega),if_neg (by omega)]]; rfl,rfl⟩
theorem valid_ (s:ByteArray) (hs:s.size≤1000000000000) (W0:World) (H:List Grp) (hW:H3 W0):Tri Tryz.prog 36 #[.string s] W0 H (fun v H'=>v=.bool (validP s.data.toList)∧H'=H):=by
 refine C2 (args:=[.string s]) (n:=5) Tryz.func36 rfl rfl (Nat.le_of_ble_eq_true rfl) ?_
 refine A1 (B3 (E':=[⟨0,[],.string s⟩]) [0] [0] (k:=?_))
 refine A0 (A1 ?_)
 refine A2 (A5 (j:=1) [0] (k:=?_))
 refine E5 Tryz.func55 (validStr s (by omega) _ _ hW) ?_
 rintro _ _ ⟨rfl,rfl⟩
 refine B4 (E':=[⟨2,[],.bool (validP s.data.toList)⟩]) [0] [2] (k:=A0 ?_)
 refine B6 (B2 [.tmp 2] [.bool (validP s.data.toList)] (k:=?_))
 exact ⟨rfl,rfl⟩
theorem unjson_ (s:ByteArray) (hs:s.size≤10000000000) (W0:World) (H:List Grp) (hW:H3 W0):Tri Tryz.prog 16 #[.string s] W0 H (fun v H'=>v=unjV (unjM s.data.toList)∧H'=H):=by
 refine C2 (args:=[.string s]) (n:=67) Tryz.func16 rfl rfl (Nat.le_of_ble_eq_true rfl) ?_
 refine A1 (B3 (E':=[⟨0,[],.string s⟩]) [0,0] [0] (k:=?_))
 refine A0 (A1 ?_)
 refine A1 (A2 ?_)
 refine A5 (j:=5) [0,0,0,0,0] (k:=D8 (ch:=[(11,false)]) (s:=s) (kd:=.i64) (j:=0) (hb:=(fun hc=>by have hg0:=chB_hd (t:=11) (c:=[]) (b:=decide ((s.size:Int)<2)) hc kr; (try simp at hg0); omega)) (k:=?_))
 have hb1:=D4 s 0
 have hw2:IntKind.wrap .i64 ((s.size:Int) - 1)=(s.size:Int) - 1:=w64 (by omega) (by omega)
 refine D7 (E':=[⟨20,[(16,false)],.int .i64 ((s.size:Int) - 1)⟩,⟨17,[(16,false)],.string s⟩,⟨16,[],.bool ((decide ((s.size:Int)<2))||((A3 s 0) != 34))⟩,⟨0,[],.string s⟩]) [0,5,0,0,0,0,0] (Eq.trans (b:=some [⟨20,[(16,false)],.int .i64 (IntKind.wrap .i64 ((s.size:Int) - 1))⟩,⟨17,[(16,false)],.string s⟩,⟨16,[],.bool ((decide ((s.size:Int)<2))||((A3 s 0) != 34))⟩,⟨0,[],.string s⟩]) kr (by simp only [hw2])) (j:=13) rfl (D8 (ch:=[(16,false)]) (s:=s) (kd:=.i64) (j:=(s.size:Int) - 1) (hb:=(fun hc=>by have hg0:=chB_hd (t:=16) (c:=[]) (b:=(decide ((s.size:Int)<2))||((A3 s 0) != 34)) hc kr; (try simp at hg0); omega)) (k:=?_))
 have hb3:=D4 s ((s.size:Int) - 1)
 refine A5 (j:=18) [0,5,0,0] (k:=F8 (ch:=[(24,false)]) (f:=36) (fst:=#[]) (caps:=#[]) (vs:=[.string s]) (v:=.bool (validP s.data.toList)) (hf:=Tryz.func36) (hc:=(fun hc=>valid_ s (by omega) _ _ hW)) (k:=?_))
 refine A9 [0,5] [0,28] (k:=A0 ?_)
 refine B1 (b:=(((decide ((s.size:Int)<2))||((A3 s 0) != 34))||((A3 s ((s.size:Int) - 1)) != 34))||(!(validP s.data.toList))) kr (fun hc4=>?_) (fun hc4=>?_)
 ·
  simp only [Bool.or_eq_true,Bool.not_eq_true',decide_eq_true_eq,bne_iff_ne,ne_eq] at hc4
  refine A1 (G_p [0,0] [2,3] (k:=?_))
  refine A0 (B6 ?_)
  refine A4 (B2 [.tmp 2,.tmp 3] [.string (ByteArray.mk #[]),.int .i64 20] (k:=?_))
  exact ⟨by rw [unj_no (by assumption)]; rfl,rfl⟩
 ·
  simp only [Bool.or_eq_false_iff,Bool.not_eq_false',decide_eq_false_iff_not,bne_eq_false_iff_eq] at hc4
  obtain ⟨⟨⟨hq1,hq2⟩,hq3⟩,hq4⟩:=hc4
  have hU0:=unj_yes hq1 hq2 hq3 hq4
  refine A7 (A0 ?_)
  refine A1 (A2 ?_)
  refine A5 (j:=4) [0,0,0,0] (k:=D1 32 ((s.size:Int) - 1) (by omega) (by omega) kr ?_)
  refine F6 (ch:=[]) (s:=s) (vl:=(some (.int .i64 1))) (vh:=(some (.int .i64 ((s.size:Int) - 1)))) (l:=1) (h:=(s.size:Int) - 1) (hb:=(fun _=>by omega)) (k:=A9 [0] [0] (k:=?_))
  refine A0 (A1 ?_)
  refine A2 (N1 (ch:=[]) (z:=.agg #[.pointer none,.slice none 0 0]) (k:=(fun b6=>?_)))
  refine GL_heap rfl (H':=([(b6,.cells #[.pointer none,.slice none 0 0] 39 (0,0))]::[]::H)) (fun w h=>h.flat (List.Perm.refl _)) (A9 [] [0,4] (k:=?_))
  refine A0 (A1 ?_)
  refine B8 (M2 (EI:=(fun ξ:Value × Value × Grp × ByteArray × ByteArray=>[⟨0,[],.string ξ.2.2.2.2⟩,⟨4,[],pt b6⟩])) (HI:=(fun ξ:Value × Value × Grp × ByteArray × ByteArray=>([(b6,.cells #[ξ.1,ξ.2.1] 39 (0,0))]::ξ.2.2.1::H))) (Φ:=(fun ξ:Value × Value × Grp × ByteArray × ByteArray=>(Bld b6 ξ.1)∧(BOwn ξ.2.1 ξ.2.2.1 ξ.2.2.2.1)∧(ξ.2.2.2.2.size≤s.size)∧(ξ.2.2.2.1.size+4 * ξ.2.2.2.2.size≤4 * s.size)∧(unjM s.data.toList=(ujL ξ.2.2.2.2.data.toList).map (ξ.2.2.2.1.data.toList++·)))) (μ:=(fun ξ:Value × Value × Grp × ByteArray × ByteArray=>ξ.2.2.2.2.size)) (s0:=(.pointer none,.slice none 0 0,[],.empty,(s.extract 1 (Int.toNat (((s.size:Nat):Int) - 1))))) [0,4] kr rfl ⟨bld0,bown0,(by show (s.extract 1 _).size≤_; rw [ByteArray.size_extract]; omega),(by show 0+4 * (s.extract 1 _).size≤_; rw [ByteArray.size_extract]; omega),(by exact hU0)⟩ ?_)
  rintro ⟨p,v,g,t,sv⟩ ⟨hbp,hB,hz,hts,hT⟩
  dsimp only at hbp hB hz hts hT
  refine A1 (A1 ?_)
  refine G_p [0,0,0] [0,4,36] (k:=A0 ?_)
  refine B1 (b:=decide ((sv.size:Int) > 0)) kr (fun hc7=>?_) (fun hc7=>?_)
  ·
   simp only [decide_eq_true_eq,gt_iff_lt] at hc7
   have hpos:0<sv.size:=by omega
   obtain ⟨b,hb⟩:∃ b:UInt8,b=sv.data.toList.getD 0 0:=⟨_,rfl⟩
   have hbyte:A3 sv 0=(b.toNat:Int):=by rw [byte0,hb]
   refine A7 (A0 ?_)
   refine B8 (A1 ?_)
   refine A2 (A5 (j:=1) [0] (k:=?_))
   refine D8 (ch:=[]) (s:=sv) (kd:=.i64) (j:=0) (hb:=(fun _=>by omega)) (k:=?_)
   have hb8:=D4 sv 0
   refine E3 (E':=[⟨38,[],.int .u8 (b.toNat:Int)⟩,⟨37,[],.string sv⟩,⟨0,[],.string sv⟩,⟨4,[],pt b6⟩,⟨36,[],.bool (decide ((sv.size:Int) > 0))⟩]) (by have hz:([⟨38,[],.int .u8 (A3 sv 0)⟩,⟨37,[],.string sv⟩,⟨0,[],.string sv⟩,⟨4,[],pt b6⟩,⟨36,[],.bool (decide ((sv.size:Int) > 0))⟩]:List Sl)=[⟨38,[],.int .u8 (b.toNat:Int)⟩,⟨37,[],.string sv⟩,⟨0,[],.string sv⟩,⟨4,[],pt b6⟩,⟨36,[],.bool (decide ((sv.size:Int) > 0))⟩]:=(by rw [hbyte]); exact Eq.trans kr hz) (A9 [0] [0,4,5] (k:=?_))
   refine A0 (B8 ?_)
   refine A1 (G_p [0,0,0,0,0,5,0] [0,4,5,52] (k:=?_))
   refine A0 (B1 (b:=(decide ((b.toNat:Int)<32))||((b.toNat:Int)==34)) kr (fun hc9=>?_) (fun hc9=>?_))
   ·
    simp only [Bool.or_eq_true,decide_eq_true_eq,beq_iff_eq] at hc9
    refine A1 (G_p [0,0] [2,3] (k:=?_))
    refine A0 (B6 ?_)
    refine B0 (B0 ?_)
    refine A4 (B0 ?_)
    refine A4 (D9 (H':=H) (fun w h=>((h.erase 1).erase 0)) ?_)
    refine B2 [.tmp 2,.tmp 3] [.string (ByteArray.mk #[]),.int .i64 20] (k:=?_)
    exact ⟨by rw [hT,ujA hpos hb (by omega)]; rfl,rfl⟩
   ·
    simp only [Bool.or_eq_false_iff,decide_eq_false_iff_not,beq_eq_false_iff_ne,ne_eq] at hc9
    have hno:¬ ((b.toNat:Int)<32∨(b.toNat:Int)=34):=by omega
    refine A1 (G_p [0,0,0] [0,4,5,59] (k:=?_))
    refine A0 (B1 (b:=(b.toNat:Int) != 92) kr (fun hc10=>?_) (fun hc10=>?_))
    ·
     simp only [bne_iff_ne,ne_eq] at hc10
     have hne:=hc10
     refine A1 (A2 ?_)
     refine A5 (j:=1) [0] (k:=E5 Tryz.func31 (G9 b6 (p) (v) g t b hbp hB (by omega) _ _) ?_)
     rintro _ _ ⟨v11,g12,hB13,rfl⟩
     refine B4 (E':=[⟨0,[],.string sv⟩,⟨4,[],pt b6⟩]) [] [0,4] (k:=A0 ?_)
     refine A2 (A5 (j:=1) [0] (k:=?_))
     refine F6 (ch:=[]) (s:=sv) (vl:=(some (.int .i64 1))) (vh:=none) (l:=1) (h:=(sv.size:Int)) (hb:=(fun _=>by omega)) (k:=A9 [0] [0,4] (k:=?_))
     refine B7 (B7 ?_)
     refine E9 (s':=(pt b6,v11,g12,(t++⟨#[b]⟩),sv.extract 1 sv.size)) [0,4] kr rfl ⟨bld1,hB13,(by dsimp only; rw [M5]; omega),(by dsimp only; simp only [C6,sz1]; have h3:=M5 sv 1; omega),(by dsimp only; rw [hT,ujB hpos hb hno hne,map_one (c:=(t++⟨#[b]⟩).data.toList) (E7 _ _)])⟩ (by dsimp only; rw [M5]; omega)
    ·
     simp only [bne_eq_false_iff_eq] at hc10
     have he92:=hc10
     refine A1 (A2 ?_)
     refine A5 (j:=1) [0] (k:=E5 Tryz.func37 (escape_ sv (by omega) _ _ hW) ?_)
     rintro _ _ ⟨rfl,rfl⟩
     refine A9 [0,0,0,0,0] [0,4,6,7] (k:=A0 ?_)
     refine A1 (A1 ?_)
     refine B3 (E':=[⟨0,[],.string sv⟩,⟨4,[],pt b6⟩,⟨6,[],.int .i64 ((I6 sv.data.toList).1)⟩,⟨7,[],.int .i64 ((I6 sv.data.toList).2:Int)⟩,⟨45,[],.bool (decide (((I6 sv.data.toList).1)<0))⟩]) [0,0] [0,4,6,7,45] (k:=A0 ?_)
     refine B1 (b:=decide (((I6 sv.data.toList).1)<0)) kr (fun hc14=>?_) (fun hc14=>?_)
     ·
      simp only [decide_eq_true_eq] at hc14
      refine A1 (G_p [0,0] [2,3] (k:=?_))
      refine A0 (B6 ?_)
      refine A4 (B0 ?_)
      refine B0 (A4 ?_)
      refine B0 (A4 ?_)
      refine D9 (H':=H) (fun w h=>((h.erase 1).erase 0)) (B2 [.tmp 2,.tmp 3] [.string (ByteArray.mk #[]),.int .i64 20] (k:=?_))
      exact ⟨by rw [hT,(ujC hpos hb he92).1 (by omega)]; rfl,rfl⟩
     ·
      simp only [decide_eq_false_iff_not] at hc14
      have hep:=escM_pos (l:=sv.data.toList) (by omega)
      have hep2:=hep.2.1
      rw [C5] at hep2
      have hri:=hep.2.2
      unfold isR at hri
      refine A7 (A0 ?_)
      refine A1 (A2 ?_)
      refine D7 (E':=[⟨47,[],.int .i32 (IntKind.wrap .i32 ((I6 sv.data.toList).1))⟩,⟨0,[],.string sv⟩,⟨4,[],pt b6⟩,⟨7,[],.int .i64 ((I6 sv.data.toList).2:Int)⟩]) (j:=2) [0,0] (k:=E3 (E':=[⟨47,[],.int .i32 ((I6 sv.data.toList).1)⟩,⟨0,[],.string sv⟩,⟨4,[],pt b6⟩,⟨7,[],.int .i64 ((I6 sv.data.toList).2:Int)⟩]) (by rw [w32i (by omega) (by omega)]) ?_)
      refine E5 Tryz.func32 (writeRune b6 (p) (v) g t ((I6 sv.data.toList).1) hbp hB hep.2.2 (by omega) _ _) ?_
      rintro _ _ ⟨v15,g16,hB17,rfl⟩
      refine A9 [] [0,4,7] (k:=A0 ?_)
      refine A2 (A5 (j:=2) [0,0] (k:=?_))
      refine F6 (ch:=[]) (s:=sv) (vl:=(some (.int .i64 ((I6 sv.data.toList).2:Int)))) (vh:=none) (l:=((I6 sv.data.toList).2:Int)) (h:=(sv.size:Int)) (hb:=(fun _=>by omega)) (k:=E3 (E':=[⟨51,[],.string (sv.extract (I6 sv.data.toList).2 sv.size)⟩,⟨50,[],.int .i64 ((I6 sv.data.toList).2:Int)⟩,⟨49,[],.string sv⟩,⟨0,[],.string sv⟩,⟨4,[],pt b6⟩,⟨7,[],.int .i64 ((I6 sv.data.toList).2:Int)⟩]) (by have hz:([⟨51,[],.string (sv.extract (Int.toNat ((I6 sv.data.toList).2:Int)) sv.size)⟩,⟨50,[],.int .i64 ((I6 sv.data.toList).2:Int)⟩,⟨49,[],.string sv⟩,⟨0,[],.string sv⟩,⟨4,[],pt b6⟩,⟨7,[],.int .i64 ((I6 sv.data.toList).2:Int)⟩]:List Sl)=[⟨51,[],.string (sv.extract (I6 sv.data.toList).2 sv.size)⟩,⟨50,[],.int .i64 ((I6 sv.data.toList).2:Int)⟩,⟨49,[],.string sv⟩,⟨0,[],.string sv⟩,⟨4,[],pt b6⟩,⟨7,[],.int .i64 ((I6 sv.data.toList).2:Int)⟩]:=(by rw [Int.toNat_natCast]); exact Eq.trans kr hz) ?_)
      refine A9 [0] [0,4] (k:=B7 ?_)
      refine B7 (E9 (s':=(pt b6,v15,g16,(t++encB ((I6 sv.data.toList).1)),sv.extract (I6 sv.data.toList).2 sv.size)) [0,4] kr rfl ⟨bld1,hB17,(by dsimp only; rw [M5]; omega),(by dsimp only; simp only [C6]; have h3:=M5 sv (I6 sv.data.toList).2; have h4:=encB_size (I6 sv.data.toList).1; omega),(by dsimp only; rw [hT,(ujC hpos hb he92).2 (by omega),map_app (c:=(t++encB (I6 sv.data.toList).1).data.toList) (by rw [E7,G0])])⟩ (by dsimp only; rw [M5]; omega))
  ·
   simp only [decide_eq_false_iff_not,gt_iff_lt] at hc7
   refine G8 (B5 ?_)
   refine B5 (C9 ?_)
   refine A0 (A1 ?_)
   refine A2 (E5 Tryz.func29 (I5 b6 (p) (v) g t hB (by omega) _ _) ?_)
   rintro _ _ ⟨rfl,rfl⟩
   refine A9 [0,0] [2,3] (k:=A0 ?_)
   refine B6 (D9 (H':=H) (fun w h=>(h.erase 0)) ?_)
   refine B2 [.tmp 2,.tmp 3] [.string t,.int .i64 0] (k:=?_)
   exact ⟨by rw [hT,List.eq_nil_of_length_eq_zero (show sv.data.toList.length=0 by rw [C5]; omega),ujL_nil]; show _=unjV (some (t.data.toList++[])); rw [List.append_nil]; rfl,rfl⟩
end Go.Proofs.YtbnfbffiehoapaaGreatDoor
namespace Go.Proofs.YtbnfbffiehoapaaGreatDoor
open Go.Sw Go.Sha Go.Esc Go.RowKit
theorem first_  (W0:World) (H:List Grp) (hW:H3 W0):Tri Tryz.prog 9 #[] W0 H (fun v H'=>v=.bool true∧H'=H):=by
 refine C2 (args:=[]) (n:=39) Tryz.func9 rfl rfl (Nat.le_of_ble_eq_true rfl) ?_
 refine A1 (B3 (E':=[]) [0] [] (k:=?_))
 refine A0 (A1 ?_)
 refine A2 (I2 (vs:=[.string (ByteArray.mk #[34,92,117,48,48,52,49,92,117,100,56,51,100,92,117,100,101,48,48,34])]) Tryz.func16 ((Tri.post (unjson_ (ByteArray.mk #[34,92,117,48,48,52,49,92,117,100,56,51,100,92,117,100,101,48,48,34]) (Nat.le_of_ble_eq_true rfl) _ _ hW) fun v H1 h=>⟨H1,by rw [show unjM (ByteArray.mk #[34,92,117,48,48,52,49,92,117,100,56,51,100,92,117,100,101,48,48,34]).data.toList=some [65,240,159,152,128] by decide +kernel] at h; exact h,fun _ h=>h⟩)) ?_)
 refine A9 [0,0,0,0,0] [1,2] (k:=A0 ?_)
 refine A1 (A2 ?_)
 refine I2 (vs:=[.string (ByteArray.mk #[34,92,117,100,56,51,100,34])]) Tryz.func16 ((Tri.post (unjson_ (ByteArray.mk #[34,92,117,100,56,51,100,34]) (Nat.le_of_ble_eq_true rfl) _ _ hW) fun v H1 h=>⟨H1,by rw [show unjM (ByteArray.mk #[34,92,117,100,56,51,100,34]).data.toList=none by decide +kernel] at h; exact h,fun _ h=>h⟩)) (A9 [0,0,0,0,0] [1,2,4] (k:=?_))
 refine A0 (A1 ?_)
 refine A2 (I2 Tryz.func10 (html_ (ByteArray.mk #[60,97,32,98,61,39,49,39,62]) (by first | exact Nat.le_of_ble_eq_true rfl | (simp only [E8,C6]; omega)) _ _) ?_)
 refine A5 (j:=3) [0,0] (k:=F8 (ch:=[(15,true)]) (f:=12) (fst:=#[]) (caps:=#[]) (vs:=[.string (ByteArray.mk #[38,35,120,52,49,59,38,35,54,54,59,38,97,109,112,59,38,110,111,112,101,59])]) (v:=.string (bk (unL (ByteArray.mk #[38,35,120,52,49,59,38,35,54,54,59,38,97,109,112,59,38,110,111,112,101,59]).data.toList))) (hf:=Tryz.func12) (hc:=(fun hc=>unhtml_ (ByteArray.mk #[38,35,120,52,49,59,38,35,54,54,59,38,97,109,112,59,38,110,111,112,101,59]) (by first | exact Nat.le_of_ble_eq_true rfl | (simp only [E8,C6]; omega)) _ _ hW)) (k:=?_))
 refine A5 (j:=7) [0,6,0] (k:=F8 (ch:=[(19,true)]) (f:=14) (fst:=#[]) (caps:=#[]) (vs:=[.string (ByteArray.mk #[97,60,10])]) (v:=.string (bk (F0 (ByteArray.mk #[97,60,10]).data.toList))) (hf:=Tryz.func14) (hc:=(fun hc=>json_ (ByteArray.mk #[97,60,10]) (by first | exact Nat.le_of_ble_eq_true rfl | (simp only [E8,C6]; omega)) _ _ hW)) (k:=?_))
 refine A5 (j:=23) [0,6,0,0,0,6,0,0,0,6,0,0,0,6,0] (k:=F8 (ch:=[(35,true)]) (f:=21) (fst:=#[]) (caps:=#[]) (vs:=[.string (ByteArray.mk #[97,32,47])]) (v:=.string (bk (J7 (ByteArray.mk #[97,32,47]).data.toList))) (hf:=Tryz.func21) (hc:=(fun hc=>percent_ (ByteArray.mk #[97,32,47]) (by first | exact Nat.le_of_ble_eq_true rfl | (simp only [E8,C6]; omega)) _ _)) (k:=?_))
 refine A9 [0,6,0] [0] (k:=A0 ?_)
 refine B6 (B2 [.tmp 0] [.bool ((((((((bk (C8 (ByteArray.mk #[60,97,32,98,61,39,49,39,62]).data.toList)).toList==(ByteArray.mk #[38,108,116,59,97,32,98,61,38,35,51,57,59,49,38,35,51,57,59,38,103,116,59]).toList)&&((bk (unL (ByteArray.mk #[38,35,120,52,49,59,38,35,54,54,59,38,97,109,112,59,38,110,111,112,101,59]).data.toList)).toList==(ByteArray.mk #[65,66,38,38,110,111,112,101,59]).toList))&&((bk (F0 (ByteArray.mk #[97,60,10]).data.toList)).toList==(ByteArray.mk #[34,97,92,117,48,48,51,99,92,110,34]).toList))&&true)&&((ByteArray.mk #[65,240,159,152,128]).toList==(ByteArray.mk #[65,240,159,152,128]).toList))&&true)&&((bk (J7 (ByteArray.mk #[97,32,47]).data.toList)).toList==(ByteArray.mk #[97,37,50,48,37,50,70]).toList))] (k:=?_))
 have q0:((bk (C8 (ByteArray.mk #[60,97,32,98,61,39,49,39,62]).data.toList)).toList==(ByteArray.mk #[38,108,116,59,97,32,98,61,38,35,51,57,59,49,38,35,51,57,59,38,103,116,59]).toList)=true:=(eqB _ _).2 (by decide +kernel)
 have q1:((bk (unL (ByteArray.mk #[38,35,120,52,49,59,38,35,54,54,59,38,97,109,112,59,38,110,111,112,101,59]).data.toList)).toList==(ByteArray.mk #[65,66,38,38,110,111,112,101,59]).toList)=true:=(eqB _ _).2 (by decide +kernel)
 have q2:((bk (F0 (ByteArray.mk #[97,60,10]).data.toList)).toList==(ByteArray.mk #[34,97,92,117,48,48,51,99,92,110,34]).toList)=true:=(eqB _ _).2 (by decide +kernel)
 have q3:((bk (J7 (ByteArray.mk #[97,32,47]).data.toList)).toList==(ByteArray.mk #[97,37,50,48,37,50,70]).toList)=true:=(eqB _ _).2 (by decide +kernel)
 have q4:((ByteArray.mk #[65,240,159,152,128]).toList==(ByteArray.mk #[65,240,159,152,128]).toList)=true:=(eqB _ _).2 rfl
 exact ⟨congrArg Value.bool (by simp only [q0,q1,q2,q3,q4,Bool.and_true]),rfl⟩
end Go.Proofs.YtbnfbffiehoapaaGreatDoor
namespace Go.Esc
open Go.Lib Go.Sw
def rdP (l:List UInt8):Int × Nat:=if badL l then (-1,1) else (((decodeL l).1:Int),(decodeL l).2)
theorem I7 {l:List UInt8} (h:decodeN l.length (l.getD 0 0).toNat (l.getD 1 0).toNat (l.getD 2 0).toNat (l.getD 3 0).toNat=(65533,1)):rdP l=(-1,1):=by
  have e:decodeL l=(65533,1):=by rw [decodeL_N,h]
  unfold rdP; rw [if_pos (show badL l by unfold badL; rw [e]; exact ⟨rfl,rfl⟩)]
theorem rdP_ok {l:List UInt8} {p m:Nat} (h:decodeN l.length (l.getD 0 0).toNat (l.getD 1 0).toNat (l.getD 2 0).toNat (l.getD 3 0).toNat=(p,m)) (hb:p≠65533∨m≠1):rdP l=((p:Int),m):=by
  have e:decodeL l=(p,m):=by rw [decodeL_N,h]
  unfold rdP; rw [if_neg (show ¬ badL l by unfold badL; rw [e]; dsimp only; omega),e]
def bt (s:ByteArray) (k:Nat):Nat:=(s.data.toList.getD k 0).toNat
theorem bt_eq (s:ByteArray) (k:Nat):A3 s (k:Int)=(bt s k:Int):=F7 s k
theorem I8 {n b0 b1 b2 b3:Nat} (h:¬ b0<128∧¬ (194≤b0∧b0<224∧1<n∧b1 / 64=2)∧¬ (224≤b0∧b0<240∧2<n∧b1 / 64=2∧b2 / 64=2∧2048≤b0 % 16 * 4096+b1 % 64 * 64+b2 % 64∧(b0 % 16 * 4096+b1 % 64 * 64+b2 % 64<55296∨57344≤b0 % 16 * 4096+b1 % 64 * 64+b2 % 64)) ∧
    ¬ (240≤b0∧b0<245∧3<n∧b1 / 64=2∧b2 / 64=2∧b3 / 64=2∧65536≤b0 % 8 * 262144+b1 % 64 * 4096+b2 % 64 * 64+b3 % 64∧b0 % 8 * 262144+b1 % 64 * 4096+b2 % 64 * 64+b3 % 64≤1114111)):decodeN n b0 b1 b2 b3=(65533,1):=by
  obtain ⟨h1,h2,h3,h4⟩:=h
  rcases decodeN_shape n b0 b1 b2 b3 with ⟨c,e⟩ | ⟨c1,c2,c3,cv,e⟩ | ⟨c1,c2,c3,c4,cv,cs,e⟩ | ⟨c1,c2,c3,c4,c5,cv,cw,e⟩ | e
  · exact absurd c h1
  · exact absurd ⟨by omega,by omega,c2,c3⟩ h2
  · exact absurd ⟨by omega,by omega,c2,c3,c4,cv,cs⟩ h3
  · exact absurd ⟨by omega,by omega,c2,c3,c4,c5,cv,cw⟩ h4
  · exact e
theorem dec1 {n b0 b1 b2 b3:Nat} (h:b0<128):decodeN n b0 b1 b2 b3=(b0,1):=by unfold decodeN; rw [if_pos h]
theorem dec2 {n b0 b1 b2 b3:Nat} (h:194≤b0∧b0<224∧1<n∧b1 / 64=2):decodeN n b0 b1 b2 b3=(b0 % 32 * 64+b1 % 64,2):=by
  unfold decodeN; rw [if_neg (by omega),if_pos ⟨by omega,by omega,by omega⟩,if_pos (by omega)]
theorem dec3 {n b0 b1 b2 b3:Nat} (h:224≤b0∧b0<240∧2<n∧b1 / 64=2∧b2 / 64=2∧2048≤b0 % 16 * 4096+b1 % 64 * 64+b2 % 64∧(b0 % 16 * 4096+b1 % 64 * 64+b2 % 64<55296∨57344≤b0 % 16 * 4096+b1 % 64 * 64+b2 % 64)):decodeN n b0 b1 b2 b3=(b0 % 16 * 4096+b1 % 64 * 64+b2 % 64,3):=by
  unfold decodeN; rw [if_neg (by omega),if_neg (by omega),if_pos (by omega),if_pos (by omega)]
theorem dec4 {n b0 b1 b2 b3:Nat} (h:240≤b0∧b0<245∧3<n∧b1 / 64=2∧b2 / 64=2∧b3 / 64=2∧65536≤b0 % 8 * 262144+b1 % 64 * 4096+b2 % 64 * 64+b3 % 64∧b0 % 8 * 262144+b1 % 64 * 4096+b2 % 64 * 64+b3 % 64≤1114111):decodeN n b0 b1 b2 b3=(b0 % 8 * 262144+b1 % 64 * 4096+b2 % 64 * 64+b3 % 64,4):=by
  unfold decodeN; rw [if_neg (by omega),if_neg (by omega),if_neg (by omega),if_pos (by omega),if_pos (by omega)]
theorem rdP_step (l:List UInt8) (hne:l≠[]):pts l=(rdP l).1::pts (l.drop (rdP l).2):=by
  rw [pts_step l hne]
  unfold rdP
  split
  · rename_i h; rw [h.2]
  · rfl
theorem rdP_w (l:List UInt8) (hne:l≠[]):1≤(rdP l).2∧(rdP l).2≤l.length∧-1≤(rdP l).1∧(rdP l).1≤1114111:=by
  have h1:=decodeL_width l
  have h2:=decodeL_le l hne
  have h3:=decodeL_rune l
  have h4:=List.length_pos_iff.2 hne
  unfold rdP; split <;> dsimp only <;> omega
def intV (ps:List Int):List Value:=ps.map (Value.int .i64)
theorem iv_len (ps:List Int):(intV ps).length=ps.length:=List.length_map _
theorem iv_app (a b:List Int):intV (a++b)=intV a++intV b:=List.map_append
theorem iv_at {ps:List Int} {k:Nat} (h:k<ps.length):(intV ps)[k]? = some (.int .i64 (ps.getD k 0)):=by
  unfold intV; rw [List.getElem?_map,List.getElem?_eq_getElem h]; simp [List.getD,h]
theorem getDI_get (l:List Int) {j:Nat} (h:j<l.length):l.getD j 0=l[j]:=by simp [List.getD,h]
theorem takeI (l:List Int) {k:Nat} (h:k<l.length):l.take (k+1)=l.take k++[l.getD k 0]:=by
  rw [List.take_succ_eq_append_getElem h,getDI_get _ h]
theorem memI {l:List Int} {k:Nat} (h:k<l.length):l.getD k 0∈l:=by rw [getDI_get _ h]; exact List.getElem_mem _
theorem iv_ne {ps:List Int} {k:Nat} (h:k<ps.length):intV ps≠[]:=by
  intro h0; have:=congrArg List.length h0; rw [iv_len,List.length_nil] at this; omega
theorem pts_len (l:List UInt8):(pts l).length≤l.length:=by
  have:=L7 l
  rw [runes_pts,List.length_map] at this; exact this
theorem own_castS {et:TypeId} {sz:Nat} {a:Option Addr} {c:Nat} {g:Grp} {n n':Nat} {cs cs':List Value} (h:Sw.Own et sz (.slice a n c) g n cs) (hn:n=n') (hc:cs=cs'):Sw.Own et sz (.slice a n' c) g n' cs':=hn ▸ hc ▸ h
theorem dropR_ne {s:ByteArray} {q:Nat} (h:q<s.size):s.data.toList.drop q≠[]:=by
  intro h0; have:=congrArg List.length h0; rw [List.length_drop,C5,List.length_nil] at this; omega
theorem sz_dropR (s:ByteArray) (k:Nat):(s.extract k s.size).size=s.size - k:=by rw [ByteArray.size_extract,Nat.min_self]
theorem pts_next {s:ByteArray} {i:Nat} (h:i<s.size):pts (s.data.toList.drop i)=(rdP (s.extract i s.size).data.toList).1::pts (s.data.toList.drop (i+(rdP (s.extract i s.size).data.toList).2)):=by
  rw [G4,rdP_step _ (dropR_ne h),List.drop_drop]
end Go.Esc
namespace Go.Proofs.YtbnfbffiehoapaaGreatDoor
open Go.Sw Go.Sha Go.Esc Go.RowKit
theorem w8i {x:Int} (h0:0≤x) (h1:x<256):IntKind.wrap .u8 x=x:=by rw [w8m]; omega
theorem is_ (n:Int) (W0:World) (H:List Grp):Tri Tryz.prog 40 #[.int .i64 n] W0 H (fun v H'=>v=.bool (isB n)∧H'=H):=by
 refine C2 (args:=[.int .i64 n]) (n:=17) Tryz.func40 rfl rfl (Nat.le_of_ble_eq_true rfl) ?_
 refine A1 (B3 (E':=[⟨0,[],.int .i64 n⟩]) [0] [0] (k:=?_))
 refine A0 (A1 ?_)
 refine G_p [0,0,0,0,0,6,0,0,0,0,0,0,5,6,0] [2] (k:=A0 ?_)
 refine B6 (B2 [.tmp 2] [.bool (((decide (n ≥ 0))&&(decide (n≤1114111)))&&((decide (n<55296))||(decide (n > 57343))))] (k:=?_))
 exact ⟨by unfold isB; rfl,rfl⟩
theorem read_ (s:ByteArray) (h0:0<s.size) (hs:s.size≤1000000000000) (W0:World) (H:List Grp):Tri Tryz.prog 45 #[.string s] W0 H (fun v H'=>v=.tuple #[.int .i64 (rdP s.data.toList).1,.int .i64 ((rdP s.data.toList).2:Int)]∧H'=H):=by
 have e0:=bt_eq s 0
 have e1:=bt_eq s 1
 have e2:=bt_eq s 2
 have e3:=bt_eq s 3
 have g0:bt s 0<256:=UInt8.toNat_lt _
 have g1:bt s 1<256:=UInt8.toNat_lt _
 have g2:bt s 2<256:=UInt8.toNat_lt _
 have g3:bt s 3<256:=UInt8.toNat_lt _
 have hl:=C5 s
 simp only [Int.cast_ofNat_Int] at e0 e1 e2 e3
 refine C2 (args:=[.string s]) (n:=77) Tryz.func45 rfl rfl (Nat.le_of_ble_eq_true rfl) ?_
 refine A1 (B3 (E':=[⟨0,[],.string s⟩]) [0,0] [0] (k:=?_))
 refine A0 (A1 ?_)
 refine A2 (A5 (j:=1) [0] (k:=?_))
 refine D8 (ch:=[]) (s:=s) (kd:=.i64) (j:=0) (hb:=(fun _=>by omega)) (k:=?_)
 have hb1:=D4 s 0
 refine A5 (j:=3) [0] (k:=D1 11 (A3 s 0) (by omega) (by omega) kr ?_)
 refine A9 [0] [0,4] (k:=A0 ?_)
 refine A1 (G_p [0,0] [0,4] (k:=?_))
 refine A0 (A1 ?_)
 refine B8 (A1 ?_)
 refine G_p [0,0,0] [0,4,12] (k:=A0 ?_)
 refine B1 (b:=decide ((A3 s 0)<128)) kr (fun hc3=>?_) (fun hc3=>?_)
 ·
  simp only [decide_eq_true_eq] at hc3
  refine A1 (G_p [0,0,0] [2,3] (k:=?_))
  refine A0 (B6 ?_)
  refine B0 (A4 ?_)
  refine B2 [.tmp 2,.tmp 3] [.int .i64 (A3 s 0),.int .i64 1] (k:=?_)
  exact ⟨by rw [rdP_ok (l:=s.data.toList) (dec1 (b0:=bt s 0) (b1:=bt s 1) (b2:=bt s 2) (b3:=bt s 3) (by (try rw [hl]); omega)) (by omega)]; exact congrArg (fun x=>Value.tuple #[.int .i64 x,.int .i64 1]) (by omega),rfl⟩
 ·
  simp only [decide_eq_false_iff_not] at hc3
  refine A1 (G_p [0,0,0,0,0,6,0] [0,4,16] (k:=?_))
  refine A0 (B1 (b:=(decide ((A3 s 0) ≥ 194))&&(decide ((A3 s 0)<224))) kr (fun hc4=>?_) (fun hc4=>?_))
  ·
   simp only [Bool.and_eq_true,decide_eq_true_eq,ge_iff_le] at hc4
   refine A2 (A5 (j:=2) [0,0] (k:=?_))
   refine D1 24 ((A3 s 0) - 192) (by omega) (by omega) kr (A9 [0,0,0] [0,4,5,6] (k:=?_))
   refine B7 (A0 ?_)
   refine A1 (A1 ?_)
   refine B3 (E':=[⟨0,[],.string s⟩,⟨4,[],.int .i64 ((A3 s 0) - 192)⟩,⟨5,[],.int .i64 2⟩,⟨6,[],.int .i64 128⟩,⟨46,[],.bool (decide ((s.size:Int)<2))⟩]) [0,0,0,0] [0,4,5,6,46] (k:=A0 ?_)
   refine B1 (b:=decide ((s.size:Int)<2)) kr (fun hc6=>?_) (fun hc6=>?_)
   ·
    simp only [decide_eq_true_eq] at hc6
    refine A1 (G_p [0,0] [2,3] (k:=?_))
    refine A0 (B6 ?_)
    refine A4 (B2 [.tmp 2,.tmp 3] [.int .i64 (-1),.int .i64 1] (k:=?_))
    exact ⟨by rw [I7 (l:=s.data.toList) (I8 (b0:=bt s 0) (b1:=bt s 1) (b2:=bt s 2) (b3:=bt s 3) (by rw [hl]; omega))]; rfl,rfl⟩
   ·
    simp only [decide_eq_false_iff_not] at hc6
    refine A7 (A0 ?_)
    refine A1 (A1 ?_)
    refine G_p [0] [0,4,5,6,7] (k:=A0 ?_)
    refine B8 (M8 4 ?_)
    refine E4 (A1 ?_)
    refine A1 (G_p [0,0,0] [0,4,5,6,7,49] (k:=?_))
    refine A0 (B9 kr ?_)
    refine A7 (A0 ?_)
    refine A1 (B8 ?_)
    refine A1 (A2 ?_)
    refine A5 (j:=2) [0,0] (k:=D8 (ch:=[]) (s:=s) (kd:=.i64) (j:=1) (hb:=(fun _=>by omega)) (k:=?_))
    have hb7:=D4 s 1
    refine A5 (j:=4) [0] (k:=D1 55 (A3 s 1) (by omega) (by omega) kr ?_)
    refine A9 [0] [0,4,5,6,7,8] (k:=A0 ?_)
    refine A1 (A1 ?_)
    refine G_p [0,0,0,0,0,5] [0,4,5,6,7,8,61] (k:=A0 ?_)
    refine B1 (b:=(decide ((A3 s 1)<128))||(decide ((A3 s 1) ≥ 192))) kr (fun hc9=>?_) (fun hc9=>?_)
    ·
     simp only [Bool.or_eq_true,decide_eq_true_eq,ge_iff_le] at hc9
     refine A1 (G_p [0,0] [2,3] (k:=?_))
     refine A0 (B6 ?_)
     refine A4 (B0 ?_)
     refine A4 (A4 ?_)
     refine B0 (A4 ?_)
     refine B2 [.tmp 2,.tmp 3] [.int .i64 (-1),.int .i64 1] (k:=?_)
     exact ⟨by rw [I7 (l:=s.data.toList) (I8 (b0:=bt s 0) (b1:=bt s 1) (b2:=bt s 2) (b3:=bt s 3) (by rw [hl]; omega))]; rfl,rfl⟩
    ·
     simp only [Bool.or_eq_false_iff,decide_eq_false_iff_not,ge_iff_le] at hc9
     refine A7 (A0 ?_)
     refine A2 (A5 (j:=2) [0,0] (k:=?_))
     refine D1 63 (64 * ((A3 s 0) - 192)) (by omega) (by omega) kr (A5 (j:=4) [0,0] (k:=?_))
     refine D1 65 ((64 * ((A3 s 0) - 192))+(A3 s 1)) (by omega) (by omega) kr (A5 (j:=5) [0] (k:=?_))
     refine D1 66 (((64 * ((A3 s 0) - 192))+(A3 s 1)) - 128) (by omega) (by omega) kr (A9 [0] [0,4,5,6,7] (k:=?_))
     refine B7 (A0 ?_)
     refine B3 (E':=[⟨0,[],.string s⟩,⟨4,[],.int .i64 (((64 * ((A3 s 0) - 192))+(A3 s 1)) - 128)⟩,⟨5,[],.int .i64 2⟩,⟨6,[],.int .i64 128⟩,⟨7,[],.int .i64 2⟩]) [0,0,0] [0,4,5,6,7] (k:=N_rd ?_)
     refine E4 (A1 ?_)
     refine A1 (G_p [0,0,0] [0,4,5,6,7,49] (k:=?_))
     refine A0 (D6 kr ?_)
     refine G8 (B5 ?_)
     refine B5 (C9 ?_)
     refine A0 (A1 ?_)
     refine A1 (A2 ?_)
     refine A5 (j:=5) [0,0,0,0,0] (k:=F8 (ch:=[(70,false)]) (f:=40) (fst:=#[]) (caps:=#[]) (vs:=[.int .i64 (((64 * ((A3 s 0) - 192))+(A3 s 1)) - 128)]) (v:=.bool (isB (((64 * ((A3 s 0) - 192))+(A3 s 1)) - 128))) (hf:=Tryz.func40) (hc:=(fun hc=>is_ (((64 * ((A3 s 0) - 192))+(A3 s 1)) - 128) _ _)) (k:=?_))
     refine A9 [0,5] [4,5,74] (k:=A0 ?_)
     refine B1 (b:=(decide ((((64 * ((A3 s 0) - 192))+(A3 s 1)) - 128)<128))||(!(isB (((64 * ((A3 s 0) - 192))+(A3 s 1)) - 128)))) kr (fun hc13=>?_) (fun hc13=>?_)
     ·
      simp only [Bool.or_eq_true,Bool.not_eq_true',decide_eq_true_eq,E2,isR] at hc13
      refine A1 (G_p [0,0] [2,3] (k:=?_))
      refine A0 (B6 ?_)
      refine A4 (B2 [.tmp 2,.tmp 3] [.int .i64 (-1),.int .i64 1] (k:=?_))
      exact ⟨by rw [I7 (l:=s.data.toList) (I8 (b0:=bt s 0) (b1:=bt s 1) (b2:=bt s 2) (b3:=bt s 3) (by rw [hl]; omega))]; rfl,rfl⟩
     ·
      simp only [Bool.or_eq_false_iff,Bool.not_eq_false',decide_eq_false_iff_not,isB_iff,isR] at hc13
      refine A7 (A0 ?_)
      refine A1 (G_p [0,0,0,0] [2,3] (k:=?_))
      refine A0 (B6 ?_)
      refine B2 [.tmp 2,.tmp 3] [.int .i64 (((64 * ((A3 s 0) - 192))+(A3 s 1)) - 128),.int .i64 2] (k:=?_)
      exact ⟨by rw [rdP_ok (l:=s.data.toList) (dec2 (b0:=bt s 0) (b1:=bt s 1) (b2:=bt s 2) (b3:=bt s 3) (by (try rw [hl]); omega)) (by omega)]; exact congrArg (fun x=>Value.tuple #[.int .i64 x,.int .i64 2]) (by omega),rfl⟩
  ·
   simp only [Bool.and_eq_false_iff,decide_eq_false_iff_not,ge_iff_le] at hc4
   refine A1 (G_p [0,0,0,0,0,6,0] [0,4,25] (k:=?_))
   refine A0 (B1 (b:=(decide ((A3 s 0) ≥ 224))&&(decide ((A3 s 0)<240))) kr (fun hc14=>?_) (fun hc14=>?_))
   ·
    simp only [Bool.and_eq_true,decide_eq_true_eq,ge_iff_le] at hc14
    refine A2 (A5 (j:=2) [0,0] (k:=?_))
    refine D1 33 ((A3 s 0) - 224) (by omega) (by omega) kr (B4 (E':=[⟨0,[],.string s⟩,⟨4,[],.int .i64 ((A3 s 0) - 224)⟩,⟨5,[],.int .i64 3⟩,⟨6,[],.int .i64 2048⟩]) [0,0,0] [0,4,5,6] (k:=?_))
    refine B7 (A0 ?_)
    refine A1 (A1 ?_)
    refine G_p [0,0,0,0] [0,4,5,6,46] (k:=A0 ?_)
    refine B1 (b:=decide ((s.size:Int)<3)) kr (fun hc16=>?_) (fun hc16=>?_)
    ·
     simp only [decide_eq_true_eq] at hc16
     refine A1 (G_p [0,0] [2,3] (k:=?_))
     refine A0 (B6 ?_)
     refine A4 (B2 [.tmp 2,.tmp 3] [.int .i64 (-1),.int .i64 1] (k:=?_))
     exact ⟨by rw [I7 (l:=s.data.toList) (I8 (b0:=bt s 0) (b1:=bt s 1) (b2:=bt s 2) (b3:=bt s 3) (by rw [hl]; omega))]; rfl,rfl⟩
    ·
     simp only [decide_eq_false_iff_not] at hc16
     refine A7 (A0 ?_)
     refine A1 (A1 ?_)
     refine G_p [0] [0,4,5,6,7] (k:=A0 ?_)
     refine B8 (M8 4 ?_)
     refine E4 (A1 ?_)
     refine A1 (G_p [0,0,0] [0,4,5,6,7,49] (k:=?_))
     refine A0 (B9 kr ?_)
     refine A7 (A0 ?_)
     refine A1 (B8 ?_)
     refine A1 (A2 ?_)
     refine A5 (j:=2) [0,0] (k:=D8 (ch:=[]) (s:=s) (kd:=.i64) (j:=1) (hb:=(fun _=>by omega)) (k:=?_))
     have hb17:=D4 s 1
     refine A5 (j:=4) [0] (k:=D1 55 (A3 s 1) (by omega) (by omega) kr ?_)
     refine A9 [0] [0,4,5,6,7,8] (k:=A0 ?_)
     refine A1 (A1 ?_)
     refine G_p [0,0,0,0,0,5] [0,4,5,6,7,8,61] (k:=A0 ?_)
     refine B1 (b:=(decide ((A3 s 1)<128))||(decide ((A3 s 1) ≥ 192))) kr (fun hc19=>?_) (fun hc19=>?_)
     ·
      simp only [Bool.or_eq_true,decide_eq_true_eq,ge_iff_le] at hc19
      refine A1 (B3 (E':=[⟨2,[],.int .i64 (-1)⟩,⟨3,[],.int .i64 1⟩]) [0,0] [2,3] (k:=?_))
      refine A0 (B6 ?_)
      refine A4 (B0 ?_)
      refine A4 (A4 ?_)
      refine B0 (A4 ?_)
      refine B2 [.tmp 2,.tmp 3] [.int .i64 (-1),.int .i64 1] (k:=?_)
      exact ⟨by rw [I7 (l:=s.data.toList) (I8 (b0:=bt s 0) (b1:=bt s 1) (b2:=bt s 2) (b3:=bt s 3) (by rw [hl]; omega))]; rfl,rfl⟩
     ·
      simp only [Bool.or_eq_false_iff,decide_eq_false_iff_not,ge_iff_le] at hc19
      refine A7 (A0 ?_)
      refine A2 (A5 (j:=2) [0,0] (k:=?_))
      refine D1 63 (64 * ((A3 s 0) - 224)) (by omega) (by omega) kr (A5 (j:=4) [0,0] (k:=?_))
      refine D1 65 ((64 * ((A3 s 0) - 224))+(A3 s 1)) (by omega) (by omega) kr (A5 (j:=5) [0] (k:=?_))
      refine D1 66 (((64 * ((A3 s 0) - 224))+(A3 s 1)) - 128) (by omega) (by omega) kr (B4 (E':=[⟨0,[],.string s⟩,⟨4,[],.int .i64 (((64 * ((A3 s 0) - 224))+(A3 s 1)) - 128)⟩,⟨5,[],.int .i64 3⟩,⟨6,[],.int .i64 2048⟩,⟨7,[],.int .i64 1⟩]) [0] [0,4,5,6,7] (k:=?_))
      refine B7 (A0 ?_)
      refine G_p [0,0,0] [0,4,5,6,7] (k:=N_rd ?_)
      refine E4 (A1 ?_)
      refine A1 (G_p [0,0,0] [0,4,5,6,7,49] (k:=?_))
      refine A0 (B9 kr ?_)
      refine A7 (A0 ?_)
      refine A1 (B8 ?_)
      refine A1 (A2 ?_)
      refine A5 (j:=2) [0,0] (k:=D8 (ch:=[]) (s:=s) (kd:=.i64) (j:=2) (hb:=(fun _=>by omega)) (k:=?_))
      have hb23:=D4 s 2
      refine A5 (j:=4) [0] (k:=D1 55 (A3 s 2) (by omega) (by omega) kr ?_)
      refine A9 [0] [0,4,5,6,7,8] (k:=A0 ?_)
      refine A1 (A1 ?_)
      refine G_p [0,0,0,0,0,5] [0,4,5,6,7,8,61] (k:=A0 ?_)
      refine B1 (b:=(decide ((A3 s 2)<128))||(decide ((A3 s 2) ≥ 192))) kr (fun hc25=>?_) (fun hc25=>?_)
      ·
       simp only [Bool.or_eq_true,decide_eq_true_eq,ge_iff_le] at hc25
       refine A1 (G_p [0,0] [2,3] (k:=?_))
       refine A0 (B6 ?_)
       refine A4 (B0 ?_)
       refine A4 (A4 ?_)
       refine B0 (A4 ?_)
       refine B2 [.tmp 2,.tmp 3] [.int .i64 (-1),.int .i64 1] (k:=?_)
       exact ⟨by rw [I7 (l:=s.data.toList) (I8 (b0:=bt s 0) (b1:=bt s 1) (b2:=bt s 2) (b3:=bt s 3) (by rw [hl]; omega))]; rfl,rfl⟩
      ·
       simp only [Bool.or_eq_false_iff,decide_eq_false_iff_not,ge_iff_le] at hc25
       refine A7 (A0 ?_)
       refine A2 (A5 (j:=2) [0,0] (k:=?_))
       refine D1 63 (64 * (((64 * ((A3 s 0) - 224))+(A3 s 1)) - 128)) (by omega) (by omega) kr (A5 (j:=4) [0,0] (k:=?_))
       refine D1 65 ((64 * (((64 * ((A3 s 0) - 224))+(A3 s 1)) - 128))+(A3 s 2)) (by omega) (by omega) kr (A5 (j:=5) [0] (k:=?_))
       refine D1 66 (((64 * (((64 * ((A3 s 0) - 224))+(A3 s 1)) - 128))+(A3 s 2)) - 128) (by omega) (by omega) kr (A9 [0] [0,4,5,6,7] (k:=?_))
       refine B7 (A0 ?_)
       refine B3 (E':=[⟨0,[],.string s⟩,⟨4,[],.int .i64 (((64 * (((64 * ((A3 s 0) - 224))+(A3 s 1)) - 128))+(A3 s 2)) - 128)⟩,⟨5,[],.int .i64 3⟩,⟨6,[],.int .i64 2048⟩,⟨7,[],.int .i64 3⟩]) [0,0,0] [0,4,5,6,7] (k:=N_rd ?_)
       refine E4 (A1 ?_)
       refine A1 (G_p [0,0,0] [0,4,5,6,7,49] (k:=?_))
       refine A0 (D6 kr ?_)
       refine G8 (B5 ?_)
       refine B5 (C9 ?_)
       refine A0 (A1 ?_)
       refine A1 (A2 ?_)
       refine A5 (j:=5) [0,0,0,0,0] (k:=F8 (ch:=[(70,false)]) (f:=40) (fst:=#[]) (caps:=#[]) (vs:=[.int .i64 (((64 * (((64 * ((A3 s 0) - 224))+(A3 s 1)) - 128))+(A3 s 2)) - 128)]) (v:=.bool (isB (((64 * (((64 * ((A3 s 0) - 224))+(A3 s 1)) - 128))+(A3 s 2)) - 128))) (hf:=Tryz.func40) (hc:=(fun hc=>is_ (((64 * (((64 * ((A3 s 0) - 224))+(A3 s 1)) - 128))+(A3 s 2)) - 128) _ _)) (k:=?_))
       refine A9 [0,5] [4,5,74] (k:=A0 ?_)
       refine B1 (b:=(decide ((((64 * (((64 * ((A3 s 0) - 224))+(A3 s 1)) - 128))+(A3 s 2)) - 128)<2048))||(!(isB (((64 * (((64 * ((A3 s 0) - 224))+(A3 s 1)) - 128))+(A3 s 2)) - 128)))) kr (fun hc29=>?_) (fun hc29=>?_)
       ·
        simp only [Bool.or_eq_true,Bool.not_eq_true',decide_eq_true_eq,E2,isR] at hc29
        refine A1 (G_p [0,0] [2,3] (k:=?_))
        refine A0 (B6 ?_)
        refine A4 (B2 [.tmp 2,.tmp 3] [.int .i64 (-1),.int .i64 1] (k:=?_))
        exact ⟨by rw [I7 (l:=s.data.toList) (I8 (b0:=bt s 0) (b1:=bt s 1) (b2:=bt s 2) (b3:=bt s 3) (by rw [hl]; omega))]; rfl,rfl⟩
       ·
        simp only [Bool.or_eq_false_iff,Bool.not_eq_false',decide_eq_false_iff_not,isB_iff,isR] at hc29
        refine A7 (A0 ?_)
        refine A1 (G_p [0,0,0,0] [2,3] (k:=?_))
        refine A0 (B6 ?_)
        refine B2 [.tmp 2,.tmp 3] [.int .i64 (((64 * (((64 * ((A3 s 0) - 224))+(A3 s 1)) - 128))+(A3 s 2)) - 128),.int .i64 3] (k:=?_)
        exact ⟨by rw [rdP_ok (l:=s.data.toList) (dec3 (b0:=bt s 0) (b1:=bt s 1) (b2:=bt s 2) (b3:=bt s 3) (by (try rw [hl]); omega)) (by omega)]; exact congrArg (fun x=>Value.tuple #[.int .i64 x,.int .i64 3]) (by omega),rfl⟩
   ·
    simp only [Bool.and_eq_false_iff,decide_eq_false_iff_not,ge_iff_le] at hc14
    refine A1 (B3 (E':=[⟨0,[],.string s⟩,⟨4,[],.int .i64 (A3 s 0)⟩,⟨34,[],.bool ((decide ((A3 s 0) ≥ 240))&&(decide ((A3 s 0)<245)))⟩]) [0,0,0,0,0,6,0] [0,4,34] (k:=?_))
    refine A0 (B1 (b:=(decide ((A3 s 0) ≥ 240))&&(decide ((A3 s 0)<245))) kr (fun hc30=>?_) (fun hc30=>?_))
    ·
     simp only [Bool.and_eq_true,decide_eq_true_eq,ge_iff_le] at hc30
     refine A2 (A5 (j:=2) [0,0] (k:=?_))
     refine D1 42 ((A3 s 0) - 240) (by omega) (by omega) kr (A9 [0,0,0] [0,4,5,6] (k:=?_))
     refine B7 (A0 ?_)
     refine A1 (A1 ?_)
     refine G_p [0,0,0,0] [0,4,5,6,46] (k:=A0 ?_)
     refine B1 (b:=decide ((s.size:Int)<4)) kr (fun hc32=>?_) (fun hc32=>?_)
     ·
      simp only [decide_eq_true_eq] at hc32
      refine A1 (G_p [0,0] [2,3] (k:=?_))
      refine A0 (B6 ?_)
      refine A4 (B2 [.tmp 2,.tmp 3] [.int .i64 (-1),.int .i64 1] (k:=?_))
      exact ⟨by rw [I7 (l:=s.data.toList) (I8 (b0:=bt s 0) (b1:=bt s 1) (b2:=bt s 2) (b3:=bt s 3) (by rw [hl]; omega))]; rfl,rfl⟩
     ·
      simp only [decide_eq_false_iff_not] at hc32
      refine A7 (A0 ?_)
      refine A1 (A1 ?_)
      refine G_p [0] [0,4,5,6,7] (k:=A0 ?_)
      refine B8 (M8 4 ?_)
      refine E4 (A1 ?_)
      refine A1 (G_p [0,0,0] [0,4,5,6,7,49] (k:=?_))
      refine A0 (B9 kr ?_)
      refine A7 (A0 ?_)
      refine A1 (B8 ?_)
      refine A1 (A2 ?_)
      refine A5 (j:=2) [0,0] (k:=D8 (ch:=[]) (s:=s) (kd:=.i64) (j:=1) (hb:=(fun _=>by omega)) (k:=?_))
      have hb33:=D4 s 1
      refine A5 (j:=4) [0] (k:=D1 55 (A3 s 1) (by omega) (by omega) kr ?_)
      refine A9 [0] [0,4,5,6,7,8] (k:=A0 ?_)
      refine A1 (A1 ?_)
      refine B3 (E':=[⟨0,[],.string s⟩,⟨4,[],.int .i64 ((A3 s 0) - 240)⟩,⟨5,[],.int .i64 4⟩,⟨6,[],.int .i64 65536⟩,⟨7,[],.int .i64 1⟩,⟨8,[],.int .i64 (A3 s 1)⟩,⟨61,[],.bool ((decide ((A3 s 1)<128))||(decide ((A3 s 1) ≥ 192)))⟩]) [0,0,0,0,0,5] [0,4,5,6,7,8,61] (k:=A0 ?_)
      refine B1 (b:=(decide ((A3 s 1)<128))||(decide ((A3 s 1) ≥ 192))) kr (fun hc35=>?_) (fun hc35=>?_)
      ·
       simp only [Bool.or_eq_true,decide_eq_true_eq,ge_iff_le] at hc35
       refine A1 (G_p [0,0] [2,3] (k:=?_))
       refine A0 (B6 ?_)
       refine A4 (B0 ?_)
       refine A4 (A4 ?_)
       refine B0 (A4 ?_)
       refine B2 [.tmp 2,.tmp 3] [.int .i64 (-1),.int .i64 1] (k:=?_)
       exact ⟨by rw [I7 (l:=s.data.toList) (I8 (b0:=bt s 0) (b1:=bt s 1) (b2:=bt s 2) (b3:=bt s 3) (by rw [hl]; omega))]; rfl,rfl⟩
      ·
       simp only [Bool.or_eq_false_iff,decide_eq_false_iff_not,ge_iff_le] at hc35
       refine A7 (A0 ?_)
       refine A2 (A5 (j:=2) [0,0] (k:=?_))
       refine D1 63 (64 * ((A3 s 0) - 240)) (by omega) (by omega) kr (A5 (j:=4) [0,0] (k:=?_))
       refine D1 65 ((64 * ((A3 s 0) - 240))+(A3 s 1)) (by omega) (by omega) kr (A5 (j:=5) [0] (k:=?_))
       refine D1 66 (((64 * ((A3 s 0) - 240))+(A3 s 1)) - 128) (by omega) (by omega) kr (A9 [0] [0,4,5,6,7] (k:=?_))
       refine B7 (A0 ?_)
       refine G_p [0,0,0] [0,4,5,6,7] (k:=N_rd ?_)
       refine E4 (A1 ?_)
       refine A1 (G_p [0,0,0] [0,4,5,6,7,49] (k:=?_))
       refine A0 (B9 kr ?_)
       refine A7 (A0 ?_)
       refine A1 (B8 ?_)
       refine A1 (A2 ?_)
       refine A5 (j:=2) [0,0] (k:=D8 (ch:=[]) (s:=s) (kd:=.i64) (j:=2) (hb:=(fun _=>by omega)) (k:=?_))
       have hb39:=D4 s 2
       refine A5 (j:=4) [0] (k:=D1 55 (A3 s 2) (by omega) (by omega) kr ?_)
       refine A9 [0] [0,4,5,6,7,8] (k:=A0 ?_)
       refine A1 (A1 ?_)
       refine G_p [0,0,0,0,0,5] [0,4,5,6,7,8,61] (k:=A0 ?_)
       refine B1 (b:=(decide ((A3 s 2)<128))||(decide ((A3 s 2) ≥ 192))) kr (fun hc41=>?_) (fun hc41=>?_)
       ·
        simp only [Bool.or_eq_true,decide_eq_true_eq,ge_iff_le] at hc41
        refine A1 (B3 (E':=[⟨2,[],.int .i64 (-1)⟩,⟨3,[],.int .i64 1⟩]) [0,0] [2,3] (k:=?_))
        refine A0 (B6 ?_)
        refine A4 (B0 ?_)
        refine A4 (A4 ?_)
        refine B0 (A4 ?_)
        refine B2 [.tmp 2,.tmp 3] [.int .i64 (-1),.int .i64 1] (k:=?_)
        exact ⟨by rw [I7 (l:=s.data.toList) (I8 (b0:=bt s 0) (b1:=bt s 1) (b2:=bt s 2) (b3:=bt s 3) (by rw [hl]; omega))]; rfl,rfl⟩
       ·
        simp only [Bool.or_eq_false_iff,decide_eq_false_iff_not,ge_iff_le] at hc41
        refine A7 (A0 ?_)
        refine A2 (A5 (j:=2) [0,0] (k:=?_))
        refine D1 63 (64 * (((64 * ((A3 s 0) - 240))+(A3 s 1)) - 128)) (by omega) (by omega) kr (A5 (j:=4) [0,0] (k:=?_))
        refine D1 65 ((64 * (((64 * ((A3 s 0) - 240))+(A3 s 1)) - 128))+(A3 s 2)) (by omega) (by omega) kr (A5 (j:=5) [0] (k:=?_))
        refine D1 66 (((64 * (((64 * ((A3 s 0) - 240))+(A3 s 1)) - 128))+(A3 s 2)) - 128) (by omega) (by omega) kr (B4 (E':=[⟨0,[],.string s⟩,⟨4,[],.int .i64 (((64 * (((64 * ((A3 s 0) - 240))+(A3 s 1)) - 128))+(A3 s 2)) - 128)⟩,⟨5,[],.int .i64 4⟩,⟨6,[],.int .i64 65536⟩,⟨7,[],.int .i64 2⟩]) [0] [0,4,5,6,7] (k:=?_))
        refine B7 (A0 ?_)
        refine G_p [0,0,0] [0,4,5,6,7] (k:=N_rd ?_)
        refine E4 (A1 ?_)
        refine A1 (G_p [0,0,0] [0,4,5,6,7,49] (k:=?_))
        refine A0 (B9 kr ?_)
        refine A7 (A0 ?_)
        refine A1 (B8 ?_)
        refine A1 (A2 ?_)
        refine A5 (j:=2) [0,0] (k:=D8 (ch:=[]) (s:=s) (kd:=.i64) (j:=3) (hb:=(fun _=>by omega)) (k:=?_))
        have hb45:=D4 s 3
        refine A5 (j:=4) [0] (k:=D1 55 (A3 s 3) (by omega) (by omega) kr ?_)
        refine A9 [0] [0,4,5,6,7,8] (k:=A0 ?_)
        refine A1 (A1 ?_)
        refine G_p [0,0,0,0,0,5] [0,4,5,6,7,8,61] (k:=A0 ?_)
        refine B1 (b:=(decide ((A3 s 3)<128))||(decide ((A3 s 3) ≥ 192))) kr (fun hc47=>?_) (fun hc47=>?_)
        ·
         simp only [Bool.or_eq_true,decide_eq_true_eq,ge_iff_le] at hc47
         refine A1 (G_p [0,0] [2,3] (k:=?_))
         refine A0 (B6 ?_)
         refine A4 (B0 ?_)
         refine A4 (A4 ?_)
         refine B0 (A4 ?_)
         refine B2 [.tmp 2,.tmp 3] [.int .i64 (-1),.int .i64 1] (k:=?_)
         exact ⟨by rw [I7 (l:=s.data.toList) (I8 (b0:=bt s 0) (b1:=bt s 1) (b2:=bt s 2) (b3:=bt s 3) (by rw [hl]; omega))]; rfl,rfl⟩
        ·
         simp only [Bool.or_eq_false_iff,decide_eq_false_iff_not,ge_iff_le] at hc47
         refine A7 (A0 ?_)
         refine A2 (A5 (j:=2) [0,0] (k:=?_))
         refine D1 63 (64 * (((64 * (((64 * ((A3 s 0) - 240))+(A3 s 1)) - 128))+(A3 s 2)) - 128)) (by omega) (by omega) kr (A5 (j:=4) [0,0] (k:=?_))
         refine D1 65 ((64 * (((64 * (((64 * ((A3 s 0) - 240))+(A3 s 1)) - 128))+(A3 s 2)) - 128))+(A3 s 3)) (by omega) (by omega) kr (A5 (j:=5) [0] (k:=?_))
         refine D1 66 (((64 * (((64 * (((64 * ((A3 s 0) - 240))+(A3 s 1)) - 128))+(A3 s 2)) - 128))+(A3 s 3)) - 128) (by omega) (by omega) kr (A9 [0] [0,4,5,6,7] (k:=?_))
         refine B7 (A0 ?_)
         refine B3 (E':=[⟨0,[],.string s⟩,⟨4,[],.int .i64 (((64 * (((64 * (((64 * ((A3 s 0) - 240))+(A3 s 1)) - 128))+(A3 s 2)) - 128))+(A3 s 3)) - 128)⟩,⟨5,[],.int .i64 4⟩,⟨6,[],.int .i64 65536⟩,⟨7,[],.int .i64 4⟩]) [0,0,0] [0,4,5,6,7] (k:=N_rd ?_)
         refine E4 (A1 ?_)
         refine A1 (G_p [0,0,0] [0,4,5,6,7,49] (k:=?_))
         refine A0 (D6 kr ?_)
         refine G8 (B5 ?_)
         refine B5 (C9 ?_)
         refine A0 (A1 ?_)
         refine A1 (A2 ?_)
         refine A5 (j:=5) [0,0,0,0,0] (k:=F8 (ch:=[(70,false)]) (f:=40) (fst:=#[]) (caps:=#[]) (vs:=[.int .i64 (((64 * (((64 * (((64 * ((A3 s 0) - 240))+(A3 s 1)) - 128))+(A3 s 2)) - 128))+(A3 s 3)) - 128)]) (v:=.bool (isB (((64 * (((64 * (((64 * ((A3 s 0) - 240))+(A3 s 1)) - 128))+(A3 s 2)) - 128))+(A3 s 3)) - 128))) (hf:=Tryz.func40) (hc:=(fun hc=>is_ (((64 * (((64 * (((64 * ((A3 s 0) - 240))+(A3 s 1)) - 128))+(A3 s 2)) - 128))+(A3 s 3)) - 128) _ _)) (k:=?_))
         refine A9 [0,5] [4,5,74] (k:=A0 ?_)
         refine B1 (b:=(decide ((((64 * (((64 * (((64 * ((A3 s 0) - 240))+(A3 s 1)) - 128))+(A3 s 2)) - 128))+(A3 s 3)) - 128)<65536))||(!(isB (((64 * (((64 * (((64 * ((A3 s 0) - 240))+(A3 s 1)) - 128))+(A3 s 2)) - 128))+(A3 s 3)) - 128)))) kr (fun hc51=>?_) (fun hc51=>?_)
         ·
          simp only [Bool.or_eq_true,Bool.not_eq_true',decide_eq_true_eq,E2,isR] at hc51
          refine A1 (G_p [0,0] [2,3] (k:=?_))
          refine A0 (B6 ?_)
          refine A4 (B2 [.tmp 2,.tmp 3] [.int .i64 (-1),.int .i64 1] (k:=?_))
          exact ⟨by rw [I7 (l:=s.data.toList) (I8 (b0:=bt s 0) (b1:=bt s 1) (b2:=bt s 2) (b3:=bt s 3) (by rw [hl]; omega))]; rfl,rfl⟩
         ·
          simp only [Bool.or_eq_false_iff,Bool.not_eq_false',decide_eq_false_iff_not,isB_iff,isR] at hc51
          refine A7 (A0 ?_)
          refine A1 (G_p [0,0,0,0] [2,3] (k:=?_))
          refine A0 (B6 ?_)
          refine B2 [.tmp 2,.tmp 3] [.int .i64 (((64 * (((64 * (((64 * ((A3 s 0) - 240))+(A3 s 1)) - 128))+(A3 s 2)) - 128))+(A3 s 3)) - 128),.int .i64 4] (k:=?_)
          exact ⟨by rw [rdP_ok (l:=s.data.toList) (dec4 (b0:=bt s 0) (b1:=bt s 1) (b2:=bt s 2) (b3:=bt s 3) (by (try rw [hl]); omega)) (by omega)]; exact congrArg (fun x=>Value.tuple #[.int .i64 x,.int .i64 4]) (by omega),rfl⟩
    ·
     simp only [Bool.and_eq_false_iff,decide_eq_false_iff_not,ge_iff_le] at hc30
     refine A1 (G_p [0,0] [2,3] (k:=?_))
     refine A0 (B6 ?_)
     refine B0 (A4 ?_)
     refine B2 [.tmp 2,.tmp 3] [.int .i64 (-1),.int .i64 1] (k:=?_)
     exact ⟨by rw [I7 (l:=s.data.toList) (I8 (b0:=bt s 0) (b1:=bt s 1) (b2:=bt s 2) (b3:=bt s 3) (by rw [hl]; omega))]; rfl,rfl⟩
theorem one_ (p:Int) (hp:isR p) (W0:World) (H:List Grp):Tri Tryz.prog 34 #[.int .i64 p] W0 H (fun v H'=>∃ b,v=.slice (some ⟨b,0,none⟩) (Lib.encodeRune p).length (Lib.encodeRune p).length∧H'=[(b,.cells (u8s (Lib.encodeRune p)).toArray 5 (0,0))]::H):=by
 obtain ⟨hp0,hp1,hp2⟩:=hp
 refine C2 (args:=[.int .i64 p]) (n:=57) Tryz.func34 rfl rfl (Nat.le_of_ble_eq_true rfl) ?_
 refine A1 (B3 (E':=[⟨0,[],.int .i64 p⟩]) [0] [0] (k:=?_))
 refine A0 (A1 ?_)
 refine B8 (A1 ?_)
 refine G_p [0,0,0] [0,3] (k:=A0 ?_)
 refine B1 (b:=decide (p<128)) kr (fun hc1=>?_) (fun hc1=>?_)
 ·
  simp only [decide_eq_true_eq] at hc1
  refine A1 (A2 ?_)
  refine D7 (E':=[⟨7,[],.int .u8 (IntKind.wrap .u8 p)⟩]) (j:=2) [0,0] (k:=E3 (E':=[⟨7,[],.int .u8 p⟩]) (by rw [w8i (x:=p) (by omega) (by omega)]) ?_)
  refine C4 (ch:=[]) (e:=5) (l:=[(0,.int .u8 p)]) (c:=[.int .u8 p]) (k:=(fun b2=>?_))
  refine A9 [0] [2] (k:=A0 ?_)
  refine B6 (B0 ?_)
  refine A4 (B2 [.tmp 2] [.slice (some ⟨b2,0,none⟩) 1 1] (k:=?_))
  exact ⟨b2,by rw [show (Lib.encodeRune p).length=1 by unfold Lib.encodeRune; rw [Lib.encodeRuneZ_one (r:=p) (by omega) (by omega)]; rfl]; rfl,by rw [M4,Lib.encodeRuneZ_one (r:=p) (by omega) (by omega)]; rfl⟩
 ·
  simp only [decide_eq_false_iff_not] at hc1
  refine A1 (G_p [0,0,0] [0,9] (k:=?_))
  refine A0 (B1 (b:=decide (p<2048)) kr (fun hc3=>?_) (fun hc3=>?_))
  ·
   simp only [decide_eq_true_eq] at hc3
   refine A1 (A2 ?_)
   refine A5 (j:=2) [0,0] (k:=?_)
   have hw4:IntKind.wrap .i64 (Int.tdiv p 64)=p / 64:=q64 (by omega) (by omega) (by decide)
   refine GL_w 13 hw4 kr (A5 (j:=3) [0] (k:=?_))
   refine D1 14 (192+(p / 64)) (by omega) (by omega) kr (D7 (E':=[⟨15,[],.int .u8 (IntKind.wrap .u8 (192+(p / 64)))⟩,⟨0,[],.int .i64 p⟩]) (j:=4) [0] (k:=?_))
   refine E3 (E':=[⟨15,[],.int .u8 (192+(p / 64))⟩,⟨0,[],.int .i64 p⟩]) (by rw [w8i (x:=(192+(p / 64))) (by omega) (by omega)]) (A5 (j:=6) [0,0] (k:=?_))
   have hw6:Int.tmod p 64=p % 64:=r64 (by omega)
   refine GL_w 17 hw6 kr (A5 (j:=7) [0] (k:=?_))
   refine D1 18 (128+(p % 64)) (by omega) (by omega) kr (D7 (E':=[⟨19,[],.int .u8 (IntKind.wrap .u8 (128+(p % 64)))⟩,⟨15,[],.int .u8 (192+(p / 64))⟩]) (j:=8) [0] (k:=?_))
   refine E3 (E':=[⟨19,[],.int .u8 (128+(p % 64))⟩,⟨15,[],.int .u8 (192+(p / 64))⟩]) (by rw [w8i (x:=(128+(p % 64))) (by omega) (by omega)]) (C4 (ch:=[]) (e:=5) (l:=[(0,.int .u8 (192+(p / 64))),(1,.int .u8 (128+(p % 64)))]) (c:=[.int .u8 (192+(p / 64)),.int .u8 (128+(p % 64))]) (k:=(fun b8=>?_)))
   refine A9 [0] [2] (k:=A0 ?_)
   refine B6 (B0 ?_)
   refine A4 (B2 [.tmp 2] [.slice (some ⟨b8,0,none⟩) 2 2] (k:=?_))
   exact ⟨b8,by rw [show (Lib.encodeRune p).length=2 by unfold Lib.encodeRune; rw [Lib.encodeRuneZ_two (r:=p) (by omega) (by omega)]; rfl]; rfl,by rw [M4,Lib.encodeRuneZ_two (r:=p) (by omega) (by omega)]; rfl⟩
  ·
   simp only [decide_eq_false_iff_not] at hc3
   refine A1 (G_p [0,0,0] [0,21] (k:=?_))
   refine A0 (B1 (b:=decide (p<65536)) kr (fun hc9=>?_) (fun hc9=>?_))
   ·
    simp only [decide_eq_true_eq] at hc9
    refine A1 (A2 ?_)
    refine A5 (j:=2) [0,0] (k:=?_)
    have hw10:IntKind.wrap .i64 (Int.tdiv p 4096)=p / 4096:=q64 (by omega) (by omega) (by decide)
    refine GL_w 25 hw10 kr (A5 (j:=3) [0] (k:=?_))
    refine D1 26 (224+(p / 4096)) (by omega) (by omega) kr (D7 (E':=[⟨27,[],.int .u8 (IntKind.wrap .u8 (224+(p / 4096)))⟩,⟨0,[],.int .i64 p⟩]) (j:=4) [0] (k:=?_))
    refine E3 (E':=[⟨27,[],.int .u8 (224+(p / 4096))⟩,⟨0,[],.int .i64 p⟩]) (by rw [w8i (x:=(224+(p / 4096))) (by omega) (by omega)]) (A5 (j:=6) [0,0] (k:=?_))
    have hw12:IntKind.wrap .i64 (Int.tdiv p 64)=p / 64:=q64 (by omega) (by omega) (by decide)
    refine GL_w 29 hw12 kr (A5 (j:=7) [0] (k:=?_))
    have hw13:Int.tmod (p / 64) 64=(p / 64) % 64:=r64 (by omega)
    refine GL_w 30 hw13 kr (A5 (j:=8) [0] (k:=?_))
    refine D1 31 (128+((p / 64) % 64)) (by omega) (by omega) kr (D7 (E':=[⟨32,[],.int .u8 (IntKind.wrap .u8 (128+((p / 64) % 64)))⟩,⟨27,[],.int .u8 (224+(p / 4096))⟩,⟨0,[],.int .i64 p⟩]) (j:=9) [0] (k:=?_))
    refine E3 (E':=[⟨32,[],.int .u8 (128+((p / 64) % 64))⟩,⟨27,[],.int .u8 (224+(p / 4096))⟩,⟨0,[],.int .i64 p⟩]) (by rw [w8i (x:=(128+((p / 64) % 64))) (by omega) (by omega)]) (A5 (j:=11) [0,0] (k:=?_))
    have hw15:Int.tmod p 64=p % 64:=r64 (by omega)
    refine GL_w 34 hw15 kr (A5 (j:=12) [0] (k:=?_))
    refine D1 35 (128+(p % 64)) (by omega) (by omega) kr (D7 (E':=[⟨36,[],.int .u8 (IntKind.wrap .u8 (128+(p % 64)))⟩,⟨32,[],.int .u8 (128+((p / 64) % 64))⟩,⟨27,[],.int .u8 (224+(p / 4096))⟩]) (j:=13) [0] (k:=?_))
    refine E3 (E':=[⟨36,[],.int .u8 (128+(p % 64))⟩,⟨32,[],.int .u8 (128+((p / 64) % 64))⟩,⟨27,[],.int .u8 (224+(p / 4096))⟩]) (by rw [w8i (x:=(128+(p % 64))) (by omega) (by omega)]) (C4 (ch:=[]) (e:=5) (l:=[(0,.int .u8 (224+(p / 4096))),(1,.int .u8 (128+((p / 64) % 64))),(2,.int .u8 (128+(p % 64)))]) (c:=[.int .u8 (224+(p / 4096)),.int .u8 (128+((p / 64) % 64)),.int .u8 (128+(p % 64))]) (k:=(fun b17=>?_)))
    refine A9 [0] [2] (k:=A0 ?_)
    refine B6 (B0 ?_)
    refine A4 (B2 [.tmp 2] [.slice (some ⟨b17,0,none⟩) 3 3] (k:=?_))
    exact ⟨b17,by rw [show (Lib.encodeRune p).length=3 by unfold Lib.encodeRune; rw [Lib.encodeRuneZ_three (r:=p) (by omega)]; rfl]; rfl,by rw [M4,Lib.encodeRuneZ_three (r:=p) (by omega)]; rfl⟩
   ·
    simp only [decide_eq_false_iff_not] at hc9
    refine A7 (B7 ?_)
    refine A0 (A1 ?_)
    refine A2 (A5 (j:=2) [0,0] (k:=?_))
    have hw18:IntKind.wrap .i64 (Int.tdiv p 262144)=p / 262144:=q64 (by omega) (by omega) (by decide)
    refine GL_w 39 hw18 kr (A5 (j:=3) [0] (k:=?_))
    refine D1 40 (240+(p / 262144)) (by omega) (by omega) kr (D7 (E':=[⟨41,[],.int .u8 (IntKind.wrap .u8 (240+(p / 262144)))⟩,⟨0,[],.int .i64 p⟩]) (j:=4) [0] (k:=?_))
    refine E3 (E':=[⟨41,[],.int .u8 (240+(p / 262144))⟩,⟨0,[],.int .i64 p⟩]) (by rw [w8i (x:=(240+(p / 262144))) (by omega) (by omega)]) (A5 (j:=6) [0,0] (k:=?_))
    have hw20:IntKind.wrap .i64 (Int.tdiv p 4096)=p / 4096:=q64 (by omega) (by omega) (by decide)
    refine GL_w 43 hw20 kr (A5 (j:=7) [0] (k:=?_))
    have hw21:Int.tmod (p / 4096) 64=(p / 4096) % 64:=r64 (by omega)
    refine GL_w 44 hw21 kr (A5 (j:=8) [0] (k:=?_))
    refine D1 45 (128+((p / 4096) % 64)) (by omega) (by omega) kr (D7 (E':=[⟨46,[],.int .u8 (IntKind.wrap .u8 (128+((p / 4096) % 64)))⟩,⟨41,[],.int .u8 (240+(p / 262144))⟩,⟨0,[],.int .i64 p⟩]) (j:=9) [0] (k:=?_))
    refine E3 (E':=[⟨46,[],.int .u8 (128+((p / 4096) % 64))⟩,⟨41,[],.int .u8 (240+(p / 262144))⟩,⟨0,[],.int .i64 p⟩]) (by rw [w8i (x:=(128+((p / 4096) % 64))) (by omega) (by omega)]) (A5 (j:=11) [0,0] (k:=?_))
    have hw23:IntKind.wrap .i64 (Int.tdiv p 64)=p / 64:=q64 (by omega) (by omega) (by decide)
    refine GL_w 48 hw23 kr (A5 (j:=12) [0] (k:=?_))
    have hw24:Int.tmod (p / 64) 64=(p / 64) % 64:=r64 (by omega)
    refine GL_w 49 hw24 kr (A5 (j:=13) [0] (k:=?_))
    refine D1 50 (128+((p / 64) % 64)) (by omega) (by omega) kr (D7 (E':=[⟨51,[],.int .u8 (IntKind.wrap .u8 (128+((p / 64) % 64)))⟩,⟨46,[],.int .u8 (128+((p / 4096) % 64))⟩,⟨41,[],.int .u8 (240+(p / 262144))⟩,⟨0,[],.int .i64 p⟩]) (j:=14) [0] (k:=?_))
    refine E3 (E':=[⟨51,[],.int .u8 (128+((p / 64) % 64))⟩,⟨46,[],.int .u8 (128+((p / 4096) % 64))⟩,⟨41,[],.int .u8 (240+(p / 262144))⟩,⟨0,[],.int .i64 p⟩]) (by rw [w8i (x:=(128+((p / 64) % 64))) (by omega) (by omega)]) (A5 (j:=16) [0,0] (k:=?_))
    have hw26:Int.tmod p 64=p % 64:=r64 (by omega)
    refine GL_w 53 hw26 kr (A5 (j:=17) [0] (k:=?_))
    refine D1 54 (128+(p % 64)) (by omega) (by omega) kr (D7 (E':=[⟨55,[],.int .u8 (IntKind.wrap .u8 (128+(p % 64)))⟩,⟨51,[],.int .u8 (128+((p / 64) % 64))⟩,⟨46,[],.int .u8 (128+((p / 4096) % 64))⟩,⟨41,[],.int .u8 (240+(p / 262144))⟩]) (j:=18) [0] (k:=?_))
    refine E3 (E':=[⟨55,[],.int .u8 (128+(p % 64))⟩,⟨51,[],.int .u8 (128+((p / 64) % 64))⟩,⟨46,[],.int .u8 (128+((p / 4096) % 64))⟩,⟨41,[],.int .u8 (240+(p / 262144))⟩]) (by rw [w8i (x:=(128+(p % 64))) (by omega) (by omega)]) (C4 (ch:=[]) (e:=5) (l:=[(0,.int .u8 (240+(p / 262144))),(1,.int .u8 (128+((p / 4096) % 64))),(2,.int .u8 (128+((p / 64) % 64))),(3,.int .u8 (128+(p % 64)))]) (c:=[.int .u8 (240+(p / 262144)),.int .u8 (128+((p / 4096) % 64)),.int .u8 (128+((p / 64) % 64)),.int .u8 (128+(p % 64))]) (k:=(fun b28=>?_)))
    refine A9 [0] [2] (k:=A0 ?_)
    refine B6 (B2 [.tmp 2] [.slice (some ⟨b28,0,none⟩) 4 4] (k:=?_))
    exact ⟨b28,by rw [show (Lib.encodeRune p).length=4 by unfold Lib.encodeRune; rw [Lib.encodeRuneZ_four (r:=p) (by omega) (by omega)]; rfl]; rfl,by rw [M4,Lib.encodeRuneZ_four (r:=p) (by omega) (by omega)]; rfl⟩
theorem points_ (s:ByteArray) (hs:s.size≤1000000000) (W0:World) (H:List Grp):Tri Tryz.prog 26 #[.string s] W0 H (fun v H'=>∃ a c g,v=.slice a (pts s.data.toList).length c∧Go.Sw.Own 3 1 (.slice a (pts s.data.toList).length c) g (pts s.data.toList).length (intV (pts s.data.toList))∧H'=g::H):=by
 refine C2 (args:=[.string s]) (n:=26) Tryz.func26 rfl rfl (Nat.le_of_ble_eq_true rfl) ?_
 refine A1 (B3 (E':=[⟨0,[],.string s⟩]) [0] [0] (k:=?_))
 refine A0 (A1 ?_)
 refine G_p [0] [0,3] (k:=A0 ?_)
 refine A1 (A1 ?_)
 refine G_p [0] [0,3,4] (k:=A0 ?_)
 refine B8 (G_heap (H':=([]::H)) (fun w h=>h.flat (List.Perm.refl _)) ?_)
 refine M2 (EI:=(fun ξ:Option Addr × Nat × Grp × List Int × Nat=>[⟨0,[],.string s⟩,⟨3,[],.slice ξ.1 ξ.2.2.2.1.length ξ.2.1⟩,⟨4,[],.int .i64 ((ξ.2.2.2.2:Nat):Int)⟩])) (HI:=(fun ξ:Option Addr × Nat × Grp × List Int × Nat=>(ξ.2.2.1::H))) (Φ:=(fun ξ:Option Addr × Nat × Grp × List Int × Nat=>(Go.Sw.Own 3 1 (.slice ξ.1 ξ.2.2.2.1.length ξ.2.1) ξ.2.2.1 ξ.2.2.2.1.length (intV ξ.2.2.2.1))∧(ξ.2.2.2.2≤s.size)∧(ξ.2.2.2.1++pts (s.data.toList.drop ξ.2.2.2.2)=pts s.data.toList))) (μ:=(fun ξ:Option Addr × Nat × Grp × List Int × Nat=>s.size - ξ.2.2.2.2)) (s0:=(none,0,[],[],0)) [0,3,4] kr rfl ⟨Go.Sw.Own.nil,(by (try dsimp only); omega),rfl⟩ ?_
 rintro ⟨ra,rc,rg,l1,i⟩ ⟨hO,hi,hT⟩
 dsimp only at hO hi hT
 have hll:l1.length≤s.size:=by
  have h1:=congrArg List.length hT
  have h2:=pts_len s.data.toList
  rw [List.length_append] at h1; rw [C5] at h2; omega
 refine A1 (A1 ?_)
 refine G_p [0,0,0,0] [0,3,4,10] (k:=A0 ?_)
 refine B1 (b:=decide (((i:Nat):Int)<(s.size:Int))) kr (fun hc1=>?_) (fun hc1=>?_)
 ·
  simp only [decide_eq_true_eq] at hc1
  have hlt:i<s.size:=by omega
  have hw:=rdP_w (s.data.toList.drop i) (dropR_ne (by omega))
  rw [← G4,C5,sz_dropR] at hw
  refine A7 (A0 ?_)
  refine B8 (A1 ?_)
  refine A2 (A5 (j:=2) [0,0] (k:=?_))
  refine F6 (ch:=[]) (s:=s) (vl:=(some (.int .i64 ((i:Nat):Int)))) (vh:=none) (l:=((i:Nat):Int)) (h:=(s.size:Int)) (hb:=(fun _=>by omega)) (k:=I2 Tryz.func45 (read_ (s.extract i s.size) (by first | omega | (rw [sz_dropR]; omega)) (by first | omega | (rw [sz_dropR]; omega)) _ _) ?_)
  refine A9 [0,0,0,0,0] [0,3,4,5,6] (k:=A0 ?_)
  refine A1 (A2 ?_)
  refine A5 (j:=2) [0,0] (k:=C4 (ch:=[]) (e:=3) (l:=[(0,.int .i64 ((rdP (s.extract i s.size).data.toList).1))]) (c:=[.int .i64 ((rdP (s.extract i s.size).data.toList).1)]) (k:=(fun b2=>?_)))
  refine F2 (i:=3) (ch:=[]) (t:=31) (tx:=31) (e:=3) (inf:=Tryz.t3) (s:=.slice ra l1.length rc) (x:=.slice (some ⟨b2,0,none⟩) 1 1) (n:=l1.length) (m:=1) (j:=1) (cs:=(intV l1)) (news:=[.int .i64 ((rdP (s.extract i s.size).data.toList).1)]) (g:=rg) (S:=(inG [(b2,.cells #[.int .i64 ((rdP (s.extract i s.size).data.toList).1)] 3 (0,0))])) rfl rfl rfl rfl kr kr kr rfl rfl (.inl ⟨3,kr⟩) (fun ⟨_,h⟩=>by cases h) (fun _=>⟨3,kr⟩) kr kr kr rfl hO (SrcOf.slice _ _ _ _ Rd.lit (fun h=>by cases h)) (C7 0 rfl) kr (by intro u hu; rcases List.mem_singleton.1 hu with rfl; rfl) (by omega) (by show (l1.length+1) * 8≤140737488355328; omega) (fun v3 g4 hO5=>?_)
  obtain ⟨a6,cap7,rfl,hcap8,hrd9⟩:=hO5.shape
  refine A9 [0] [0,3,4,6] (k:=A0 ?_)
  have hw10:IntKind.wrap .i64 (((i:Nat):Int)+((rdP (s.extract i s.size).data.toList).2:Int))=((i:Nat):Int)+((rdP (s.extract i s.size).data.toList).2:Int):=w64 (by omega) (by omega)
  refine A2 (D7 (E':=[⟨24,[],.int .i64 (((i:Nat):Int)+((rdP (s.extract i s.size).data.toList).2:Int))⟩,⟨0,[],.string s⟩,⟨3,[],.slice a6 (l1.length+1) cap7⟩,⟨4,[],.int .i64 ((i:Nat):Int)⟩]) [0,0,0] (Eq.trans (b:=some [⟨24,[],.int .i64 (IntKind.wrap .i64 (((i:Nat):Int)+((rdP (s.extract i s.size).data.toList).2:Int)))⟩,⟨0,[],.string s⟩,⟨3,[],.slice a6 (l1.length+1) cap7⟩,⟨4,[],.int .i64 ((i:Nat):Int)⟩]) kr (by simp only [hw10])) (j:=3) rfl ?_)
  refine E3 (E':=[⟨24,[],.int .i64 ((i+(rdP (s.extract i s.size).data.toList).2:Nat):Int)⟩,⟨0,[],.string s⟩,⟨3,[],.slice a6 (l1.length+1) cap7⟩,⟨4,[],.int .i64 ((i:Nat):Int)⟩]) (by rw [Int.natCast_add]) (A9 [0] [0,3,4] (k:=?_))
  refine B7 ?_
  have hln:(l1.length+1)=(l1++[((rdP (s.extract i s.size).data.toList).1)]).length:=by first | exact List.length_append.symm | (rw [List.length_append]; rfl)
  refine N_env (E':=[⟨0,[],.string s⟩,⟨3,[],.slice a6 (l1.length+1) cap7⟩,⟨4,[],.int .i64 ((i+(rdP (s.extract i s.size).data.toList).2:Nat):Int)⟩]) kr (N_env (E':=[⟨0,[],.string s⟩,⟨3,[],.slice a6 ((l1++[((rdP (s.extract i s.size).data.toList).1)]).length) cap7⟩,⟨4,[],.int .i64 ((i+(rdP (s.extract i s.size).data.toList).2:Nat):Int)⟩]) (by rw [hln]) ?_)
  refine D9 (H':=(g4::H)) (fun w h=>(h.erase 0)) (E9 (s':=(a6,cap7,g4,(l1++[((rdP (s.extract i s.size).data.toList).1)]),i+(rdP (s.extract i s.size).data.toList).2)) [0,3,4] kr rfl ⟨(own_castS hO5 hln (by dsimp only; first | exact (iv_app _ _).symm | (rw [iv_app]; rfl))),(by dsimp only; omega),(by dsimp only; rw [List.append_assoc,List.singleton_append,← pts_next hlt]; exact hT)⟩ (by dsimp only; omega))
 ·
  simp only [decide_eq_false_iff_not] at hc1
  refine G8 (B5 ?_)
  refine B5 (C9 ?_)
  refine A0 (A1 ?_)
  refine B3 (E':=[⟨2,[],.slice ra l1.length rc⟩]) [0,0] [2] (k:=A0 ?_)
  refine B6 (B2 [.tmp 2] [.slice ra l1.length rc] (k:=?_))
  have he:l1=pts s.data.toList:=by rw [← hT,List.drop_eq_nil_of_le (by rw [C5]; omega)]; exact (List.append_nil _).symm
  rw [he] at hO ⊢
  exact ⟨_,_,_,rfl,hO,rfl⟩
end Go.Proofs.YtbnfbffiehoapaaGreatDoor
namespace Go.Sw
open Go.RowKit
theorem GL_bytesB {d:Bool} {P:Program} {ops:Array Oper} {i:Nat} {Q:D0} {n:Fr} {E:Env} {W0:World} {H:List Grp} {o:Oper} {ch:List (Nat × Bool)} {src dst e:TypeId} {x:Operand} {a:Option Addr} {cap:Nat} {S:Nat→Obj→Prop} (b:ByteArray)
    (ho:ops[i]? = some o) (hop:o.op=.convert src dst x) (hx:evO E ch x=some (.slice a b.size cap)) (hs:P.underlying src=some (.slice e)) (he:P.underlying e=some (.int .u8)) (hds:P.underlying dst=some .string)
    (hch:D5 ops E o.guard=some ch) (hd:F1 n ch o.dst=true) (hk:G3 E ch=true)
    (hrd:Rd S a (u8s b.data.toList)) (hS:∀ b o,S b o→At W0 H b o)
    (k:GL d P ops (i+1) Q n (Env.put E o.dst ch (.string b)) W0 H):GL d P ops i Q n E W0 H:=by
  cases a with
  | some a =>
    refine G1 (cap:=cap) b.data.toList ho hop ?_ hs he hds hch hd hk hrd hS ?_
    · rw [hx,show b.data.toList.length=b.size from Array.length_toList]
    · have:(⟨b.data.toList.toArray⟩:ByteArray)=b:=by cases b; simp
      rw [this]; exact k
  | none =>
    have h0:b=ByteArray.empty:=by
      rcases hrd with h | ⟨_,_,_,_,_,h,_⟩
      · have h1:=congrArg List.length h
        unfold u8s at h1
        rw [List.length_map] at h1
        cases b with | mk d =>
        have:d=#[]:=Array.eq_empty_of_size_eq_zero (by simpa using h1)
        rw [this]; rfl
      · cases h
    refine F3 ho hch hd hk (fun r hr _ w _=>?_) k
    unfold execOp
    simp only [hop]
    rw [hr _ _ hx,h0]
    have:=run_convert_bytes_string (P:=P) w src dst e none ByteArray.empty.size cap hs he hds
    simp only [Sem.run_bind,this]
    exact ⟨rfl,rfl⟩
end Go.Sw
namespace Go.Proofs.YtbnfbffiehoapaaGreatDoor
open Go.Sw Go.Sha Go.Esc Go.RowKit
theorem text_ (a:Option Addr) (c:Nat) (ps:List Int) (S:Nat→Obj→Prop) (hrd:Rd S a (intV ps)) (hps:∀ p∈ps,isR p) (hl:ps.length≤1000000000) (W0:World) (H:List Grp) (hS:∀ y o,S y o→At W0 H y o):Tri Tryz.prog 19 #[.slice a ps.length c] W0 H (fun v H'=>v=.string ⟨(C3 ps).toArray⟩∧H'=H):=by
 refine C2 (args:=[.slice a ps.length c]) (n:=19) Tryz.func19 rfl rfl (Nat.le_of_ble_eq_true rfl) ?_
 refine A1 (B3 (E':=[⟨0,[],.slice a ps.length c⟩]) [0] [0] (k:=?_))
 refine A0 (A1 ?_)
 refine G_p [0] [0,3] (k:=A0 ?_)
 refine A1 (A1 ?_)
 refine G_p [0,0,0] [3,6,7,8] (k:=A0 ?_)
 refine B8 (G_heap (H':=([]::H)) (fun w h=>h.flat (List.Perm.refl _)) ?_)
 refine M2 (EI:=(fun ξ:Option Addr × Nat × Grp × List UInt8 × Nat=>[⟨3,[],.slice ξ.1 ξ.2.2.2.1.length ξ.2.1⟩,⟨6,[],.slice a ps.length c⟩,⟨7,[],.int .i64 ((ps.length:Nat):Int)⟩,⟨8,[],.int .i64 ((ξ.2.2.2.2:Nat):Int)⟩])) (HI:=(fun ξ:Option Addr × Nat × Grp × List UInt8 × Nat=>(ξ.2.2.1::H))) (Φ:=(fun ξ:Option Addr × Nat × Grp × List UInt8 × Nat=>(Go.Sw.Own 5 1 (.slice ξ.1 ξ.2.2.2.1.length ξ.2.1) ξ.2.2.1 ξ.2.2.2.1.length (u8s ξ.2.2.2.1))∧(ξ.2.2.2.2≤ps.length)∧(ξ.2.2.2.1=C3 (ps.take ξ.2.2.2.2)))) (μ:=(fun ξ:Option Addr × Nat × Grp × List UInt8 × Nat=>ps.length - ξ.2.2.2.2)) (s0:=(none,0,[],[],0)) [3,6,7,8] kr rfl ⟨Go.Sw.Own.nil,(by (try dsimp only); omega),rfl⟩ ?_
 rintro ⟨ra,rc,rg,l1,k⟩ ⟨hO,hk,hT⟩
 dsimp only at hO hk hT
 have hll:l1.length≤4 * ps.length:=by
  rw [hT]; have:=encL_len (ps.take k); rw [List.length_take] at this; omega
 refine A1 (G_p [0] [3,6,7,8,9] (k:=?_))
 refine A0 (A1 ?_)
 refine B1 (b:=decide (((k:Nat):Int)<((ps.length:Nat):Int))) kr (fun hc1=>?_) (fun hc1=>?_)
 ·
  simp only [decide_eq_true_eq] at hc1
  have hlt:k<ps.length:=by omega
  have hel:=enc_len (ps.getD k 0)
  refine A7 (A0 ?_)
  refine A1 (B8 ?_)
  refine A1 (A2 ?_)
  refine C1 (ch:=[]) (a:=a) (len:=ps.length) (cap:=c) (kd:=.i64) (j:=((k:Nat):Int)) (e:=3) (sz:=1) (S:=S) (cs:=(intV ps)) (hrd:=hrd) (hb:=(fun _=>by exact ⟨by omega,by omega,iv_ne (by omega)⟩)) (k:=E6 (ch:=[]) (a:=a) (q:=k * 1) (S:=S) (cs:=(intV ps)) (v:=.int .i64 (ps.getD k 0)) (hrd:=hrd) (hS:=(fun y o h=>(At.cons (hS y o h)))) (hv:=(fun _=>(by rw [Nat.mul_one]; exact iv_at (ps:=ps) (k:=k) (by omega)))) (k:=?_))
  refine A9 [0] [3,5,6,7,8] (k:=A0 ?_)
  refine A2 (A5 (j:=2) [0,0] (k:=?_))
  refine E5 (vs:=[.int .i64 (ps.getD k 0)]) Tryz.func34 (one_ (ps.getD k 0) (hps _ (memI hlt)) _ _) ?_
  rintro _ _ ⟨ob2,rfl,rfl⟩
  refine F2 (i:=3) (ch:=[]) (t:=37) (tx:=37) (e:=5) (inf:=Tryz.t5) (s:=.slice ra l1.length rc) (x:=.slice (some ⟨ob2,0,none⟩) ((Lib.encodeRune (ps.getD k 0)).length) ((Lib.encodeRune (ps.getD k 0)).length)) (n:=l1.length) (m:=(Lib.encodeRune (ps.getD k 0)).length) (j:=1) (cs:=(u8s l1)) (news:=(u8s (Lib.encodeRune (ps.getD k 0)))) (g:=rg) (S:=(inG [(ob2,.cells (u8s (Lib.encodeRune (ps.getD k 0))).toArray 5 (0,0))])) rfl rfl rfl rfl kr kr kr rfl rfl (.inl ⟨5,kr⟩) (fun ⟨_,h⟩=>by cases h) (fun _=>⟨5,kr⟩) kr kr kr rfl hO (SrcOf.slice _ _ _ _ Rd.lit (fun h=>by cases h)) (C7 0 rfl) (by rw [show (u8s (Lib.encodeRune _)).length=_ from List.length_map _]; exact (Nat.mul_one _).symm) Go.Sha.u8_one (by omega) (by show (l1.length+(Lib.encodeRune (ps.getD k 0)).length) * 1≤140737488355328; omega) (fun v3 g4 hO5=>?_)
  obtain ⟨a6,cap7,rfl,hcap8,hrd9⟩:=hO5.shape
  refine A9 [0] [3,6,7,8] (k:=B7 ?_)
  refine A0 (A2 ?_)
  refine A5 (j:=1) [0] (k:=D1 16 (((k:Nat):Int)+1) (by omega) (by omega) kr ?_)
  refine A9 [0] [3,6,7,8] (k:=?_)
  have hln:(l1.length+(Lib.encodeRune (ps.getD k 0)).length)=(l1++(Lib.encodeRune (ps.getD k 0))).length:=by first | exact List.length_append.symm | (rw [List.length_append]; rfl)
  refine N_env (E':=[⟨3,[],.slice a6 (l1.length+(Lib.encodeRune (ps.getD k 0)).length) cap7⟩,⟨6,[],.slice a ps.length c⟩,⟨7,[],.int .i64 ((ps.length:Nat):Int)⟩,⟨8,[],.int .i64 (((k:Nat):Int)+1)⟩]) kr (N_env (E':=[⟨3,[],.slice a6 ((l1++(Lib.encodeRune (ps.getD k 0))).length) cap7⟩,⟨6,[],.slice a ps.length c⟩,⟨7,[],.int .i64 ((ps.length:Nat):Int)⟩,⟨8,[],.int .i64 (((k:Nat):Int)+1)⟩]) (by rw [hln]) ?_)
  refine D9 (H':=(g4::H)) (fun w h=>(h.erase 0)) (E9 (s':=(a6,cap7,g4,(l1++(Lib.encodeRune (ps.getD k 0))),k+1)) [3,6,7,8] kr rfl ⟨(own_castS hO5 hln (by dsimp only; first | exact (Go.Sha.u8s_append _ _).symm | (rw [Go.Sha.u8s_append]; rfl))),(by (try dsimp only); omega),(by dsimp only; rw [takeI _ hlt,encL_app,← hT]; congr 1; exact (List.append_nil _).symm)⟩ (by (try dsimp only); omega))
 ·
  simp only [decide_eq_false_iff_not] at hc1
  refine G8 (B5 ?_)
  refine B5 (C9 ?_)
  refine A0 (A1 ?_)
  refine A2 (A5 (j:=1) [0] (k:=?_))
  refine GL_bytesB (i:=1) (ch:=[]) (a:=ra) (cap:=rc) (e:=5) (S:=(inG rg)) (bk l1) rfl rfl kr kr kr kr kr kr kr (own_rd hO) (C7 0 rfl) (B4 (E':=[⟨2,[],.string (bk l1)⟩]) [0] [2] (k:=?_))
  refine A0 (B6 ?_)
  refine D9 (H':=H) (fun w h=>(h.erase 0)) (B2 [.tmp 2] [.string (bk l1)] (k:=?_))
  exact ⟨congrArg Value.string (by rw [hT,List.take_of_length_le (by omega)]),rfl⟩
theorem fixed_ (s:ByteArray) (hs:s.size≤1000000000) (W0:World) (H:List Grp):Tri Tryz.prog 20 #[.string s] W0 H (fun v H'=>∃ a c g,v=.slice a (A6 s.data.toList).length c∧Go.Sw.Own 3 1 (.slice a (A6 s.data.toList).length c) g (A6 s.data.toList).length (intV (A6 s.data.toList))∧H'=g::H):=by
 refine C2 (args:=[.string s]) (n:=21) Tryz.func20 rfl rfl (Nat.le_of_ble_eq_true rfl) ?_
 refine A1 (B3 (E':=[⟨0,[],.string s⟩]) [0] [0] (k:=?_))
 refine A0 (A1 ?_)
 refine G_p [0] [0,3] (k:=A0 ?_)
 refine A1 (A1 ?_)
 refine A2 (A5 (j:=1) [0] (k:=?_))
 refine E5 Tryz.func26 (points_ s (by omega) _ _) ?_
 rintro _ _ ⟨iap0,icp0,igp0,rfl,iOp0,rfl⟩
 refine A9 [0,0] [3,7,8,9] (k:=A0 ?_)
 refine B8 (G_heap (H':=([]::igp0::H)) (fun w h=>h.flat (List.Perm.refl _)) ?_)
 refine M2 (EI:=(fun ξ:Option Addr × Nat × Grp × List Int × Nat=>[⟨3,[],.slice ξ.1 ξ.2.2.2.1.length ξ.2.1⟩,⟨7,[],.slice iap0 ((pts s.data.toList).length) icp0⟩,⟨8,[],.int .i64 (((pts s.data.toList).length:Nat):Int)⟩,⟨9,[],.int .i64 ((ξ.2.2.2.2:Nat):Int)⟩])) (HI:=(fun ξ:Option Addr × Nat × Grp × List Int × Nat=>(ξ.2.2.1::igp0::H))) (Φ:=(fun ξ:Option Addr × Nat × Grp × List Int × Nat=>(Go.Sw.Own 3 1 (.slice ξ.1 ξ.2.2.2.1.length ξ.2.1) ξ.2.2.1 ξ.2.2.2.1.length (intV ξ.2.2.2.1))∧(ξ.2.2.2.2≤(pts s.data.toList).length)∧(ξ.2.2.2.1=((pts s.data.toList).take ξ.2.2.2.2).map fixP))) (μ:=(fun ξ:Option Addr × Nat × Grp × List Int × Nat=>(pts s.data.toList).length - ξ.2.2.2.2)) (s0:=(none,0,[],[],0)) [3,7,8,9] kr rfl ⟨Go.Sw.Own.nil,(by (try dsimp only); omega),rfl⟩ ?_
 rintro ⟨ra,rc,rg,l1,k⟩ ⟨hO,hk,hT⟩
 dsimp only at hO hk hT
 have hpl:=pts_len s.data.toList
 rw [C5] at hpl
 have hll:l1.length≤s.size:=by
  rw [hT,List.length_map,List.length_take]; omega
 refine A1 (G_p [0] [3,7,8,9,10] (k:=?_))
 refine A0 (A1 ?_)
 refine B1 (b:=decide (((k:Nat):Int)<(((pts s.data.toList).length:Nat):Int))) kr (fun hc2=>?_) (fun hc2=>?_)
 ·
  simp only [decide_eq_true_eq] at hc2
  have hlt:k<(pts s.data.toList).length:=by omega
  refine A7 (A0 ?_)
  refine A1 (B8 ?_)
  refine A1 (A2 ?_)
  refine C1 (ch:=[]) (a:=iap0) (len:=(pts s.data.toList).length) (cap:=icp0) (kd:=.i64) (j:=((k:Nat):Int)) (e:=3) (sz:=1) (S:=(inG igp0)) (cs:=(intV (pts s.data.toList))) (hrd:=own_rd iOp0) (hb:=(fun _=>by exact ⟨by omega,by omega,iv_ne (by omega)⟩)) (k:=E6 (ch:=[]) (a:=iap0) (q:=k * 1) (S:=(inG igp0)) (cs:=(intV (pts s.data.toList))) (v:=.int .i64 ((pts s.data.toList).getD k 0)) (hrd:=own_rd iOp0) (hS:=C7 1 rfl) (hv:=(fun _=>(by rw [Nat.mul_one]; exact iv_at (ps:=(pts s.data.toList)) (k:=k) (by omega)))) (k:=?_))
  refine A9 [0] [3,5,7,8,9] (k:=A0 ?_)
  refine A1 (A1 ?_)
  refine G_p [0,0] [3,5,7,8,9,14] (k:=A0 ?_)
  refine B1 (b:=decide (((pts s.data.toList).getD k 0)<0)) kr (fun hc3=>?_) (fun hc3=>?_)
  ·
   simp only [decide_eq_true_eq] at hc3
   refine G_p [0] [3,5,7,8,9] (k:=A0 ?_)
   refine A2 (A5 (j:=2) [0,0] (k:=?_))
   refine C4 (ch:=[]) (e:=3) (l:=[(0,.int .i64 65533)]) (c:=[.int .i64 65533]) (k:=(fun b4=>?_))
   refine F2 (i:=3) (ch:=[]) (t:=31) (tx:=31) (e:=3) (inf:=Tryz.t3) (s:=.slice ra l1.length rc) (x:=.slice (some ⟨b4,0,none⟩) 1 1) (n:=l1.length) (m:=1) (j:=1) (cs:=(intV l1)) (news:=[.int .i64 65533]) (g:=rg) (S:=(inG [(b4,.cells #[.int .i64 65533] 3 (0,0))])) rfl rfl rfl rfl kr kr kr rfl rfl (.inl ⟨3,kr⟩) (fun ⟨_,h⟩=>by cases h) (fun _=>⟨3,kr⟩) kr kr kr rfl hO (SrcOf.slice _ _ _ _ Rd.lit (fun h=>by cases h)) (C7 0 rfl) kr (by intro u hu; rcases List.mem_singleton.1 hu with rfl; rfl) (by omega) (by show (l1.length+1) * 8≤140737488355328; omega) (fun v5 g6 hO7=>?_)
   obtain ⟨a8,cap9,rfl,hcap10,hrd11⟩:=hO7.shape
   refine A9 [0] [3,7,8,9] (k:=B7 ?_)
   refine A0 (A2 ?_)
   refine A5 (j:=1) [0] (k:=D1 19 (((k:Nat):Int)+1) (by omega) (by omega) kr ?_)
   refine B4 (E':=[⟨3,[],.slice a8 (l1.length+1) cap9⟩,⟨7,[],.slice iap0 ((pts s.data.toList).length) icp0⟩,⟨8,[],.int .i64 (((pts s.data.toList).length:Nat):Int)⟩,⟨9,[],.int .i64 (((k:Nat):Int)+1)⟩]) [0] [3,7,8,9] (k:=?_)
   have hln:(l1.length+1)=(l1++[65533]).length:=by first | exact List.length_append.symm | (rw [List.length_append]; rfl)
   refine N_env (E':=[⟨3,[],.slice a8 ((l1++[65533]).length) cap9⟩,⟨7,[],.slice iap0 ((pts s.data.toList).length) icp0⟩,⟨8,[],.int .i64 (((pts s.data.toList).length:Nat):Int)⟩,⟨9,[],.int .i64 (((k:Nat):Int)+1)⟩]) (by rw [hln]) (D9 (H':=(g6::igp0::H)) (fun w h=>(h.erase 0)) ?_)
   refine E9 (s':=(a8,cap9,g6,(l1++[65533]),k+1)) [3,7,8,9] kr rfl ⟨(own_castS hO7 hln (by dsimp only; first | exact (iv_app _ _).symm | (rw [iv_app]; rfl))),(by (try dsimp only); omega),(by dsimp only; rw [takeI _ hlt,List.map_append,← hT]; unfold fixP; simp only [List.map_cons,List.map_nil]; first | rw [if_pos (by omega)] | rw [if_neg (by omega)])⟩ (by (try dsimp only); omega)
  ·
   simp only [decide_eq_false_iff_not] at hc3
   refine A7 (A0 ?_)
   refine A2 (A5 (j:=2) [0,0] (k:=?_))
   refine C4 (ch:=[]) (e:=3) (l:=[(0,.int .i64 ((pts s.data.toList).getD k 0))]) (c:=[.int .i64 ((pts s.data.toList).getD k 0)]) (k:=(fun b13=>?_))
   refine F2 (i:=3) (ch:=[]) (t:=31) (tx:=31) (e:=3) (inf:=Tryz.t3) (s:=.slice ra l1.length rc) (x:=.slice (some ⟨b13,0,none⟩) 1 1) (n:=l1.length) (m:=1) (j:=1) (cs:=(intV l1)) (news:=[.int .i64 ((pts s.data.toList).getD k 0)]) (g:=rg) (S:=(inG [(b13,.cells #[.int .i64 ((pts s.data.toList).getD k 0)] 3 (0,0))])) rfl rfl rfl rfl kr kr kr rfl rfl (.inl ⟨3,kr⟩) (fun ⟨_,h⟩=>by cases h) (fun _=>⟨3,kr⟩) kr kr kr rfl hO (SrcOf.slice _ _ _ _ Rd.lit (fun h=>by cases h)) (C7 0 rfl) kr (by intro u hu; rcases List.mem_singleton.1 hu with rfl; rfl) (by omega) (by show (l1.length+1) * 8≤140737488355328; omega) (fun v14 g15 hO16=>?_)
   obtain ⟨a17,cap18,rfl,hcap19,hrd20⟩:=hO16.shape
   refine A9 [0] [3,7,8,9] (k:=B7 ?_)
   refine A0 (A2 ?_)
   refine A5 (j:=1) [0] (k:=D1 19 (((k:Nat):Int)+1) (by omega) (by omega) kr ?_)
   refine A9 [0] [3,7,8,9] (k:=?_)
   have hln:(l1.length+1)=(l1++[((pts s.data.toList).getD k 0)]).length:=by first | exact List.length_append.symm | (rw [List.length_append]; rfl)
   refine N_env (E':=[⟨3,[],.slice a17 (l1.length+1) cap18⟩,⟨7,[],.slice iap0 ((pts s.data.toList).length) icp0⟩,⟨8,[],.int .i64 (((pts s.data.toList).length:Nat):Int)⟩,⟨9,[],.int .i64 (((k:Nat):Int)+1)⟩]) kr (N_env (E':=[⟨3,[],.slice a17 ((l1++[((pts s.data.toList).getD k 0)]).length) cap18⟩,⟨7,[],.slice iap0 ((pts s.data.toList).length) icp0⟩,⟨8,[],.int .i64 (((pts s.data.toList).length:Nat):Int)⟩,⟨9,[],.int .i64 (((k:Nat):Int)+1)⟩]) (by rw [hln]) ?_)
   refine D9 (H':=(g15::igp0::H)) (fun w h=>(h.erase 0)) (E9 (s':=(a17,cap18,g15,(l1++[((pts s.data.toList).getD k 0)]),k+1)) [3,7,8,9] kr rfl ⟨(own_castS hO16 hln (by dsimp only; first | exact (iv_app _ _).symm | (rw [iv_app]; rfl))),(by (try dsimp only); omega),(by dsimp only; rw [takeI _ hlt,List.map_append,← hT]; unfold fixP; simp only [List.map_cons,List.map_nil]; first | rw [if_pos (by omega)] | rw [if_neg (by omega)])⟩ (by (try dsimp only); omega))
 ·
  simp only [decide_eq_false_iff_not] at hc2
  refine G8 (B5 ?_)
  refine B5 (C9 ?_)
  refine A0 (A1 ?_)
  refine B3 (E':=[⟨2,[],.slice ra l1.length rc⟩]) [0,0] [2] (k:=A0 ?_)
  refine B6 (D9 (H':=(rg::H)) (fun w h=>(h.erase 1)) ?_)
  refine B2 [.tmp 2] [.slice ra l1.length rc] (k:=?_)
  have he:l1=A6 s.data.toList:=by rw [hT,List.take_of_length_le (by omega),runes_pts]
  rw [he] at hO ⊢
  exact ⟨_,_,_,rfl,hO,rfl⟩
theorem rplain_ (s:ByteArray) (hs:s.size≤1000000000) (W0:World) (H:List Grp):Tri Tryz.prog 18 #[.string s] W0 H (fun v H'=>v=.string ⟨(G5 s.data.toList).toArray⟩∧H'=H):=by
 refine C2 (args:=[.string s]) (n:=42) Tryz.func18 rfl rfl (Nat.le_of_ble_eq_true rfl) ?_
 refine A1 (B3 (E':=[⟨0,[],.string s⟩]) [0] [0] (k:=?_))
 refine A0 (A1 ?_)
 refine G_p [0] [0,3] (k:=A0 ?_)
 refine A1 (A1 ?_)
 refine A2 (A5 (j:=1) [0] (k:=?_))
 refine E5 Tryz.func20 (fixed_ s (by omega) _ _) ?_
 rintro _ _ ⟨iaf0,icf0,igf0,rfl,iOf0,rfl⟩
 refine A9 [0,0] [3,7,8,9] (k:=A0 ?_)
 refine B8 (G_heap (H':=([]::igf0::H)) (fun w h=>h.flat (List.Perm.refl _)) ?_)
 refine M2 (EI:=(fun ξ:Option Addr × Nat × Grp × List Int × Nat=>[⟨3,[],.slice ξ.1 ξ.2.2.2.1.length ξ.2.1⟩,⟨7,[],.slice iaf0 ((A6 s.data.toList).length) icf0⟩,⟨8,[],.int .i64 (((A6 s.data.toList).length:Nat):Int)⟩,⟨9,[],.int .i64 ((ξ.2.2.2.2:Nat):Int)⟩])) (HI:=(fun ξ:Option Addr × Nat × Grp × List Int × Nat=>(ξ.2.2.1::igf0::H))) (Φ:=(fun ξ:Option Addr × Nat × Grp × List Int × Nat=>(Go.Sw.Own 3 1 (.slice ξ.1 ξ.2.2.2.1.length ξ.2.1) ξ.2.2.1 ξ.2.2.2.1.length (intV ξ.2.2.2.1))∧(ξ.2.2.2.2≤(A6 s.data.toList).length)∧(ξ.2.2.2.1=((A6 s.data.toList).take ξ.2.2.2.2).filter K9))) (μ:=(fun ξ:Option Addr × Nat × Grp × List Int × Nat=>(A6 s.data.toList).length - ξ.2.2.2.2)) (s0:=(none,0,[],[],0)) [3,7,8,9] kr rfl ⟨Go.Sw.Own.nil,(by (try dsimp only); omega),rfl⟩ ?_
 rintro ⟨ra,rc,rg,l1,k⟩ ⟨hO,hk,hT⟩
 dsimp only at hO hk hT
 have hpn:=L7 s.data.toList
 rw [C5] at hpn
 have hll:l1.length≤s.size:=by
  have h1:=List.length_filter_le K9 ((A6 s.data.toList).take k)
  rw [← hT,List.length_take] at h1; omega
 refine A1 (G_p [0] [3,7,8,9,10] (k:=?_))
 refine A0 (A1 ?_)
 refine B1 (b:=decide (((k:Nat):Int)<(((A6 s.data.toList).length:Nat):Int))) kr (fun hc2=>?_) (fun hc2=>?_)
 ·
  simp only [decide_eq_true_eq] at hc2
  have hlt:k<(A6 s.data.toList).length:=by omega
  refine A7 (A0 ?_)
  refine A1 (B8 ?_)
  refine A1 (A2 ?_)
  refine C1 (ch:=[]) (a:=iaf0) (len:=(A6 s.data.toList).length) (cap:=icf0) (kd:=.i64) (j:=((k:Nat):Int)) (e:=3) (sz:=1) (S:=(inG igf0)) (cs:=(intV (A6 s.data.toList))) (hrd:=own_rd iOf0) (hb:=(fun _=>by exact ⟨by omega,by omega,iv_ne (by omega)⟩)) (k:=E6 (ch:=[]) (a:=iaf0) (q:=k * 1) (S:=(inG igf0)) (cs:=(intV (A6 s.data.toList))) (v:=.int .i64 ((A6 s.data.toList).getD k 0)) (hrd:=own_rd iOf0) (hS:=C7 1 rfl) (hv:=(fun _=>(by rw [Nat.mul_one]; exact iv_at (ps:=(A6 s.data.toList)) (k:=k) (by omega)))) (k:=?_))
  refine A9 [0] [3,5,7,8,9] (k:=A0 ?_)
  refine A1 (G_p [0,0,0,0,0,6,0,0,0,6,0,0,0,5,0,0,0,5,0,0,0,5] [3,5,7,8,9,34] (k:=?_))
  refine A0 (B1 (b:=(((((decide (((A6 s.data.toList).getD k 0) ≥ 32))&&(((A6 s.data.toList).getD k 0) != 65534))&&(((A6 s.data.toList).getD k 0) != 65535))||(((A6 s.data.toList).getD k 0)==9))||(((A6 s.data.toList).getD k 0)==10))||(((A6 s.data.toList).getD k 0)==13)) kr (fun hc3=>?_) (fun hc3=>?_))
  ·
   have hpl:K9 ((A6 s.data.toList).getD k 0)=true:=hc3
   refine A2 (A5 (j:=2) [0,0] (k:=?_))
   refine C4 (ch:=[]) (e:=3) (l:=[(0,.int .i64 ((A6 s.data.toList).getD k 0))]) (c:=[.int .i64 ((A6 s.data.toList).getD k 0)]) (k:=(fun b4=>?_))
   refine F2 (i:=3) (ch:=[]) (t:=31) (tx:=31) (e:=3) (inf:=Tryz.t3) (s:=.slice ra l1.length rc) (x:=.slice (some ⟨b4,0,none⟩) 1 1) (n:=l1.length) (m:=1) (j:=1) (cs:=(intV l1)) (news:=[.int .i64 ((A6 s.data.toList).getD k 0)]) (g:=rg) (S:=(inG [(b4,.cells #[.int .i64 ((A6 s.data.toList).getD k 0)] 3 (0,0))])) rfl rfl rfl rfl kr kr kr rfl rfl (.inl ⟨3,kr⟩) (fun ⟨_,h⟩=>by cases h) (fun _=>⟨3,kr⟩) kr kr kr rfl hO (SrcOf.slice _ _ _ _ Rd.lit (fun h=>by cases h)) (C7 0 rfl) kr (by intro u hu; rcases List.mem_singleton.1 hu with rfl; rfl) (by omega) (by show (l1.length+1) * 8≤140737488355328; omega) (fun v5 g6 hO7=>?_)
   obtain ⟨a8,cap9,rfl,hcap10,hrd11⟩:=hO7.shape
   refine A9 [0] [3,7,8,9] (k:=B7 ?_)
   refine A0 (A2 ?_)
   refine A5 (j:=1) [0] (k:=D1 39 (((k:Nat):Int)+1) (by omega) (by omega) kr ?_)
   refine A9 [0] [3,7,8,9] (k:=?_)
   have hln:(l1.length+1)=(l1++[((A6 s.data.toList).getD k 0)]).length:=by first | exact List.length_append.symm | (rw [List.length_append]; rfl)
   refine N_env (E':=[⟨3,[],.slice a8 (l1.length+1) cap9⟩,⟨7,[],.slice iaf0 ((A6 s.data.toList).length) icf0⟩,⟨8,[],.int .i64 (((A6 s.data.toList).length:Nat):Int)⟩,⟨9,[],.int .i64 (((k:Nat):Int)+1)⟩]) kr (N_env (E':=[⟨3,[],.slice a8 ((l1++[((A6 s.data.toList).getD k 0)]).length) cap9⟩,⟨7,[],.slice iaf0 ((A6 s.data.toList).length) icf0⟩,⟨8,[],.int .i64 (((A6 s.data.toList).length:Nat):Int)⟩,⟨9,[],.int .i64 (((k:Nat):Int)+1)⟩]) (by rw [hln]) ?_)
   refine D9 (H':=(g6::igf0::H)) (fun w h=>(h.erase 0)) (E9 (s':=(a8,cap9,g6,(l1++[((A6 s.data.toList).getD k 0)]),k+1)) [3,7,8,9] kr rfl ⟨(own_castS hO7 hln (by dsimp only; first | exact (iv_app _ _).symm | (rw [iv_app]; rfl))),(by (try dsimp only); omega),(by dsimp only; rw [takeI _ hlt,List.filter_append,← hT]; simp only [List.filter_cons,List.filter_nil,hpl,if_true])⟩ (by (try dsimp only); omega))
  ·
   have hpl:K9 ((A6 s.data.toList).getD k 0)=false:=hc3
   refine A7 (B7 ?_)
   refine A0 (A2 ?_)
   refine A5 (j:=1) [0] (k:=D1 39 (((k:Nat):Int)+1) (by omega) (by omega) kr ?_)
   refine A9 [0] [3,7,8,9] (k:=E9 (s':=(ra,rc,rg,l1,k+1)) [3,7,8,9] kr rfl ⟨hO,(by (try dsimp only); omega),(by dsimp only; rw [takeI _ hlt,List.filter_append,← hT]; simp only [List.filter_cons,List.filter_nil,hpl,Bool.false_eq_true,if_false,List.append_nil])⟩ (by (try dsimp only); omega))
 ·
  simp only [decide_eq_false_iff_not] at hc2
  refine G8 (B5 ?_)
  refine B5 (C9 ?_)
  refine A0 (A1 ?_)
  refine A2 (A5 (j:=1) [0] (k:=?_))
  refine E5 Tryz.func19 (text_ ra rc l1 (inG rg) (own_rd hO) (by rw [hT]; intro p hp; exact L8 s.data.toList p (List.mem_of_mem_take (List.mem_filter.1 hp).1)) (by omega) _ _ (C7 0 rfl)) ?_
  rintro _ _ ⟨rfl,rfl⟩
  refine B4 (E':=[⟨2,[],.string (bk (C3 l1))⟩]) [0] [2] (k:=A0 ?_)
  refine B6 (D9 (H':=H) (fun w h=>((h.erase 1).erase 0)) ?_)
  refine B2 [.tmp 2] [.string (bk (C3 l1))] (k:=?_)
  exact ⟨congrArg Value.string (by rw [hT,List.take_of_length_le (by omega)]; rfl),rfl⟩
end Go.Proofs.YtbnfbffiehoapaaGreatDoor
namespace Go.Esc
open Go.Lib Go.Sw
theorem enc_byte {p:Int} (h:isR p):(p≤127∧encodeRune p=[p.toNat.toUInt8])∨(128≤p∧∀ b∈encodeRune p,128≤b.toNat):=by
  unfold isR at h
  by_cases h1:p≤127
  · exact .inl ⟨h1,enc_one h.1 h1⟩
  refine .inr ⟨by omega,fun b hb=>?_⟩
  unfold encodeRune at hb
  obtain ⟨x,hx,rfl⟩:=List.mem_map.1 hb
  have hr:=encodeRuneZ_byte p x hx
  rw [byteZ x hr.1 hr.2]
  unfold encodeRuneZ at hx
  rw [if_neg (by omega)] at hx
  split at hx
  · simp only [List.mem_cons,List.not_mem_nil,or_false] at hx; omega
  split at hx
  · simp only [List.mem_cons,List.not_mem_nil,or_false] at hx; omega
  split at hx
  · simp only [List.mem_cons,List.not_mem_nil,or_false] at hx; omega
  · simp only [List.mem_cons,List.not_mem_nil,or_false] at hx; omega
theorem u8_ne {p:Int} (h0:0≤p) (h1:p≤127) {c:Nat} (hc:c<256) (h:p≠(c:Int)):p.toNat.toUInt8≠UInt8.ofNat c:=by
  intro he
  have:=congrArg UInt8.toNat he
  rw [byteZ p h0 (by omega)] at this
  simp [UInt8.toNat_ofNat',Nat.mod_eq_of_lt hc] at this
  omega
theorem htmlR_none {b:UInt8} (h:b≠38∧b≠60∧b≠62∧b≠34∧b≠39):A8 b=none:=by
  unfold A8; rw [if_neg h.1,if_neg h.2.1,if_neg h.2.2.1,if_neg h.2.2.2.1,if_neg h.2.2.2.2]
theorem out_enc {p:Int} (h:isR p):C0 A8 (encodeRune p)=htmlP p:=by
  have h0:=h.1
  unfold htmlP
  by_cases e1:p=38
  · subst e1; decide +kernel
  by_cases e2:p=60
  · subst e2; decide +kernel
  by_cases e3:p=62
  · subst e3; decide +kernel
  by_cases e4:p=34
  · subst e4; decide +kernel
  by_cases e5:p=39
  · subst e5; decide +kernel
  rw [if_neg e1,if_neg e2,if_neg e3,if_neg e4,if_neg e5]
  refine outR_same _ _ fun b hb=>htmlR_none ?_
  rcases enc_byte h with ⟨h1,he⟩ | ⟨h1,he⟩
  · rw [he] at hb
    obtain rfl:=List.mem_singleton.1 hb
    exact ⟨u8_ne h0 h1 (c:=38) (by decide) e1,u8_ne h0 h1 (c:=60) (by decide) e2,u8_ne h0 h1 (c:=62) (by decide) e3,u8_ne h0 h1 (c:=34) (by decide) e4,u8_ne h0 h1 (c:=39) (by decide) e5⟩
  · have:=he b hb
    refine ⟨?_,?_,?_,?_,?_⟩ <;> (rintro rfl; exact absurd this (by decide))
theorem out_encL:∀ {ps:List Int},(∀ p∈ps,isR p)→C0 A8 (C3 ps)=ps.flatMap htmlP
  | [],_=>rfl
  | p::ps,h=>by rw [L0,K0,out_enc (h p List.mem_cons_self),out_encL (fun q hq=>h q (List.mem_cons_of_mem _ hq)),List.flatMap_cons]
def keepL (l:List UInt8):List Int:=(A6 l).filter K9
theorem keep_isR (l:List UInt8):∀ p∈keepL l,isR p:=fun p hp=>L8 l p (List.mem_filter.1 hp).1
theorem htmlL_eq (l:List UInt8):C8 l=(keepL l).flatMap htmlP:=out_encL (keep_isR l)
theorem enc_no {p:Int} (h:isR p) {c:Nat} (hc:c<128) (hp:p≠(c:Int)):∀ b∈encodeRune p,b≠UInt8.ofNat c:=by
  intro b hb
  rcases enc_byte h with ⟨h1,he⟩ | ⟨h1,he⟩
  · rw [he] at hb
    obtain rfl:=List.mem_singleton.1 hb
    exact u8_ne h.1 h1 (by omega) hp
  · have:=he b hb
    intro hx; rw [hx] at this
    simp [UInt8.toNat_ofNat',Nat.mod_eq_of_lt (show c<256 by omega)] at this
    omega
theorem un_lit {p t:List UInt8} {q:Int} (hr:refM p=q) (hq:0≤q) (h:∀ b∈p,b≠59):unL (38::(p++59::t))=encodeRune q++unL t:=by
  have:=un_good (pre:=[]) (p:=p) (t:=t) (by intro b hb; cases hb) h (by omega)
  rw [List.nil_append,List.nil_append,hr] at this; exact this
theorem un_html {p:Int} (h:isR p) (t:List UInt8):unL (htmlP p++t)=encodeRune p++unL t:=by
  unfold htmlP
  by_cases e1:p=38
  · subst e1; exact un_lit (p:=[97,109,112]) (by decide +kernel) (by decide) (by decide)
  rw [if_neg e1]
  by_cases e2:p=60
  · subst e2; exact un_lit (p:=[108,116]) (by decide +kernel) (by decide) (by decide)
  rw [if_neg e2]
  by_cases e3:p=62
  · subst e3; exact un_lit (p:=[103,116]) (by decide +kernel) (by decide) (by decide)
  rw [if_neg e3]
  by_cases e4:p=34
  · subst e4; exact un_lit (p:=[113,117,111,116]) (by decide +kernel) (by decide) (by decide)
  rw [if_neg e4]
  by_cases e5:p=39
  · subst e5; exact un_lit (p:=[35,51,57]) (by decide +kernel) (by decide) (by decide)
  rw [if_neg e5]
  exact unL_app _ _ (enc_no h (c:=38) (by decide) e1)
theorem un_htmls:∀ {ps:List Int},(∀ p∈ps,isR p)→unL (ps.flatMap htmlP)=C3 ps
  | [],_=>rfl
  | p::ps,h=>by rw [List.flatMap_cons,un_html (h p List.mem_cons_self),un_htmls (fun q hq=>h q (List.mem_cons_of_mem _ hq)),L0]
theorem un_htmlL (l:List UInt8):unL (C8 l)=G5 l:=by rw [htmlL_eq,un_htmls (keep_isR l)]; rfl
def htmlQ (p:Int):List Int:=if p=38 then [38,97,109,112,59] else if p=60 then [38,108,116,59] else if p=62 then [38,103,116,59] else if p=34 then [38,113,117,111,116,59] else if p=39 then [38,35,51,57,59] else [p]
theorem htmlQ_enc (p:Int):C3 (htmlQ p)=htmlP p:=by
  unfold htmlQ htmlP
  (repeat' split) <;> first | (simp only [L0,encL_nil,List.append_nil]; done) | decide +kernel
theorem htmlQ_ok {p:Int} (h:isR p) (hp:K9 p=true):∀ q∈htmlQ p,isR q∧K9 q=true:=by
  unfold htmlQ
  (repeat' split) <;> intro q hq <;> simp only [List.mem_cons,List.not_mem_nil,or_false] at hq
  · rcases hq with rfl | rfl | rfl | rfl | rfl <;> exact ⟨by unfold isR; omega,by decide⟩
  · rcases hq with rfl | rfl | rfl | rfl <;> exact ⟨by unfold isR; omega,by decide⟩
  · rcases hq with rfl | rfl | rfl | rfl <;> exact ⟨by unfold isR; omega,by decide⟩
  · rcases hq with rfl | rfl | rfl | rfl | rfl | rfl <;> exact ⟨by unfold isR; omega,by decide⟩
  · rcases hq with rfl | rfl | rfl | rfl | rfl <;> exact ⟨by unfold isR; omega,by decide⟩
  · subst hq; exact ⟨h,hp⟩
theorem encL_flat (f:Int→List Int):∀ ps:List Int,C3 (ps.flatMap f)=ps.flatMap fun p=>C3 (f p)
  | []=>rfl
  | p::ps=>by rw [List.flatMap_cons,List.flatMap_cons,encL_app,encL_flat f ps]
theorem html_plain (l:List UInt8):G5 (C8 l)=C8 l:=by
  have e:C8 l=C3 ((keepL l).flatMap htmlQ):=by rw [htmlL_eq,encL_flat]; congr 1; funext p; exact (htmlQ_enc p).symm
  have hq:∀ q∈(keepL l).flatMap htmlQ,isR q∧K9 q=true:=by
    intro q hq
    obtain ⟨p,hp,hq⟩:=List.mem_flatMap.1 hq
    exact htmlQ_ok (keep_isR l p hp) (List.mem_filter.1 hp).2 q hq
  rw [e]
  unfold G5
  rw [runes_enc0 (fun q h=>(hq q h).1),List.filter_eq_self.2 (fun q h=>(hq q h).2)]
theorem html_twice (l:List UInt8):unL (unL (C8 (C8 l)))=G5 l:=by rw [un_htmlL,html_plain,un_htmlL]
theorem runes_fix (a:List UInt8):A6 (fixL a)=A6 a:=runes_enc0 (L8 a)
theorem runes_fix2 (a b:List UInt8):A6 (fixL a++fixL b)=A6 a++A6 b:=by
  rw [show fixL a=C3 (A6 a) from rfl,runes_enc (L8 a),runes_fix]
theorem html_app (a b:List UInt8):C8 (fixL a++fixL b)=C8 (fixL a)++C8 (fixL b):=by
  rw [htmlL_eq,htmlL_eq,htmlL_eq]
  unfold keepL
  rw [runes_fix2,runes_fix,runes_fix,List.filter_append,List.flatMap_append]
theorem json_app (a b:List UInt8):F0 (fixL a++fixL b)=(F0 (fixL a)).take ((F0 (fixL a)).length - 1)++(F0 (fixL b)).drop 1:=by
  unfold F0
  rw [runes_fix2,runes_fix,runes_fix,List.flatMap_append]
  have e:(34::(List.flatMap jsonP (A6 a)++[34])).length - 1=(34::List.flatMap jsonP (A6 a)).length:=by simp
  rw [e]
  conv=>rhs; rw [← List.cons_append,List.take_left,List.drop_succ_cons,List.drop_zero]
  rw [List.cons_append,List.append_assoc]
theorem perc_app (a b:List UInt8):J7 (a++b)=J7 a++J7 b:=List.flatMap_append
theorem html_len (l:List UInt8):(C8 l).length≤24 * l.length:=by
  have h1:=plain_len l
  have h2:∀ m:List UInt8,(C0 A8 m).length≤6 * m.length:=by
    intro m
    induction m with
    | nil=>exact Nat.le_refl _
    | cons b m ih =>
      rw [outR_cons,List.length_append,List.length_cons]
      have:((A8 b).getD [b]).length≤6:=by
        unfold A8; (repeat' split) <;> simp
      omega
  have h3:=h2 (G5 l)
  unfold C8; omega
theorem un_len (l:List UInt8):(unL l).length≤4 * l.length:=by
  suffices ∀ n (l:List UInt8),l.length≤n→(unL l).length≤4 * l.length from this l.length l (Nat.le_refl _)
  intro n
  induction n with
  | zero=>intro l hl; rw [List.eq_nil_of_length_eq_zero (by omega:l.length=0)]; exact Nat.le_refl _
  | succ n ih =>
    intro l hl
    cases l with
    | nil=>exact Nat.le_refl _
    | cons b t =>
      rw [List.length_cons] at hl
      rw [unL_cons,List.length_cons]
      split
      · have:=ih t (by omega); rw [List.length_cons]; omega
      split
      · have:=ih t (by omega); rw [List.length_cons]; omega
      · have h1:=ih (t.drop (refC t).2) (by rw [List.length_drop]; omega)
        have h2:=(enc_len (refC t).1).2
        rw [List.length_drop] at h1
        rw [List.length_append]; omega
end Go.Esc
