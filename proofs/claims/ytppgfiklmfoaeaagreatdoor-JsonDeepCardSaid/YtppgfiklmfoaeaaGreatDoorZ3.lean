/- The document's numbers of JSON, texts in quotes. Conditions: sizes. (and what it stands on) -/
import Derived.Test.YtppgfiklmfoaeaaGreatDoorZ2
import Derived.RangeFuncNested
import Derived.RangeFuncBound
import Derived.RangeFuncLeaves
import Derived.TacticsIn
import Derived.OrdersIn
import Derived.RangeFuncCalls
import Derived.Shelf.Abstract
import Derived.Shelf.RegionOpen
import Derived.WalkKit
import Derived.OwnWalkIn
import Derived.TacticsInMore
import Derived.LoopNIn
import Derived.LoopIn
import Derived.BigRegionIn
namespace Go.Proofs.YtppgfiklmfoaeaaGreatDoor
open Go.Sw Go.Sha Go.Esc Go.RowKit Go.Json
theorem num_bool (t:List UInt8):((!((bk t).toList==(ByteArray.mk #[]).toList))&&(((E3 t:Nat):Int)==((bk t).size:Int)))=decide (t≠[]∧E3 t=t.length):=by
  rw [Bool.eq_iff_iff,Bool.and_eq_true,Bool.not_eq_true',nil_strF,beq_iff_eq,decide_eq_true_eq,D3]
  constructor
  · rintro ⟨h1,h2⟩; exact ⟨h1,by omega⟩
  · rintro ⟨h1,h2⟩; exact ⟨h1,by omega⟩
theorem nil_eq (l:List UInt8):((bk l).toList=(ByteArray.mk #[]).toList) ↔ l=[]:=by rw [← beq_iff_eq]; exact nil_str l
theorem wt_pr (x:JV):wtJ x=1+x.text.length+wtN x.names+wtL x.list:=by cases x; exact wtJ_eq _ _ _ _
theorem wt_sub {x:JV} {i:Nat} (h:i<x.list.length):wtJ x.list[i]<wtJ x:=by
  have:=wtL_at h
  rw [wt_pr x]; omega
theorem wt_name {x:JV} {i:Nat} (h:i<x.names.length):x.names[i].length<wtJ x:=by
  have:=wtN_at h
  rw [wt_pr x]; omega
theorem strV_elt {ns:List (List UInt8)} {k:Nat} {y:List UInt8} (h:k<ns.length) (hy:y=ns[k]):(G4 ns)[k * 1]? = some (.string (bk y)):=by rw [Nat.mul_one,hy]; exact strV_at h
theorem strV_ne {ns:List (List UInt8)} {k:Nat} (h:k<ns.length):G4 ns≠[]:=by
  intro h0; have:=congrArg List.length h0; rw [strV_len,List.length_nil] at this; omega
theorem jr1_ (n:List UInt8) (hn:n.length≤1000000000) (W0:World) (H:List Grp) (hW:F6 W0):Tri Tryz.prog 87 #[.string (bk n)] W0 H (fun v H'=>v=.bool (!D6 n)∧H'=H):=by
 refine C5 (args:=[.string (bk n)]) (n:=6) Tryz.func87 rfl rfl (Nat.le_of_ble_eq_true rfl) ?_
 refine A1 (B7 (E':=[⟨0,[],.string (bk n)⟩]) [0] [0] (k:=?_))
 refine A0 (A1 ?_)
 refine A2 (A4 (j:=1) [0] (k:=?_))
 refine J1 Tryz.func59 (valid_ (bk n) (by rw [D3]; omega) _ _ hW) (B2 (E':=[⟨2,[],.bool (!(D6 n))⟩]) [0,0] [2] (k:=?_))
 refine A0 (B4 ?_)
 refine B6 [.tmp 2] [.bool (!(D6 n))] (k:=?_)
 exact ⟨rfl,rfl⟩
theorem jixS_ (ns:List (List UInt8)) (an:Option Addr) (cn:Nat) (S:Nat→Obj→Prop) (hrn:Rd S an (G4 ns)) (hns:ns.length≤1000000000) (hz:∀ (i:Nat) (h:i<ns.length),ns[i].length≤1000000000) (W0:World) (H:List Grp) (hS:∀ y o,S y o→At W0 H y o) (hW:F6 W0):Tri Tryz.prog 133 #[.slice an ns.length cn,.func (.func 87) #[] #[]] W0 H (fun v H'=>((ns.all D6=false∧∃ i:Nat,v=.int .i64 (i:Int))∨(ns.all D6=true∧v=.int .i64 (-1)))∧H'=H):=by
 refine C5 (args:=[.slice an ns.length cn,.func (.func 87) #[] #[]]) (n:=19) Tryz.func133 rfl rfl (Nat.le_of_ble_eq_true rfl) ?_
 refine A1 (G_p [0] [0,1] (k:=?_))
 refine A0 (A1 ?_)
 refine A1 (G_p [0,0,0] [0,1,7,8] (k:=?_))
 refine A0 (B9 ?_)
 refine J5 (EI:=(fun ξ:Nat=>[⟨0,[],.slice an ns.length cn⟩,⟨1,[],.func (.func 87) #[] #[]⟩,⟨7,[],.int .i64 ((ns.length:Nat):Int)⟩,⟨8,[],.int .i64 ((ξ:Nat):Int)⟩])) (HI:=(fun ξ:Nat=>H)) (Φ:=(fun ξ:Nat=>(ξ≤ns.length)∧((ns.take ξ).all D6=true))) (μ:=(fun ξ:Nat=>ns.length - ξ)) (s0:=(0)) [0,1,7,8] kr rfl ⟨(Nat.zero_le _),rfl⟩ ?_
 rintro k ⟨hk,hT⟩
 refine A1 (G_p [0] [0,1,7,8,9] (k:=?_))
 refine A0 (A1 ?_)
 refine B0 (b:=decide (((k:Nat):Int)<((ns.length:Nat):Int))) kr (fun hc1=>?_) (fun hc1=>?_)
 ·
  simp only [decide_eq_true_eq] at hc1
  have hlt:k<ns.length:=by omega
  obtain ⟨y,hy⟩:∃ y,y=ns[k]'hlt:=⟨_,rfl⟩
  refine A8 (A0 ?_)
  refine A1 (B9 ?_)
  refine A1 (G_p [0,0] [0,1,5,7,8] (k:=?_))
  refine A0 (A1 ?_)
  refine A2 (A4 (j:=3) [0,0,0] (k:=?_))
  refine F2 (ch:=[]) (a:=an) (len:=ns.length) (cap:=cn) (kd:=.i64) (j:=((k:Nat):Int)) (e:=9) (sz:=1) (S:=S) (cs:=(G4 ns)) (hrd:=hrn) (hb:=(fun _=>by exact ⟨by omega,by omega,strV_ne hlt⟩)) (k:=M4 (ch:=[]) (a:=an) (q:=k * 1) (S:=S) (cs:=(G4 ns)) (v:=.string (bk y)) (hrd:=hrn) (hS:=(fun y o h=>(hS y o h))) (hv:=(fun _=>(strV_elt hlt hy))) (k:=?_))
  refine J1 Tryz.func87 (jr1_ y (by rw [hy]; exact hz k hlt) _ _ hW) (A9 [] [0,1,5,7,8,16] (k:=?_))
  refine A0 (B0 (b:=!D6 y) kr (fun hc2=>?_) (fun hc2=>?_))
  ·
   have hyv:D6 y=false:=by simpa using hc2
   refine A1 (B7 (E':=[⟨4,[],.int .i64 ((k:Nat):Int)⟩]) [0,0] [4] (k:=?_))
   refine A0 (B4 ?_)
   refine A7 (A3 ?_)
   refine A3 (A7 ?_)
   refine A3 (B6 [.tmp 4] [.int .i64 ((k:Nat):Int)] (k:=?_))
   exact ⟨.inl ⟨all_no hlt (by rw [← hy]; exact hyv),_,rfl⟩,rfl⟩
  ·
   have hyv:D6 y=true:=by simpa using hc2
   refine A8 (C0 ?_)
   refine A0 ?_
   have hw3:IntKind.wrap .i64 (((k:Nat):Int)+1)=((k:Nat):Int)+1:=w64 (by omega) (by omega)
   refine A2 (B5 (E':=[⟨18,[],.int .i64 (((k:Nat):Int)+1)⟩,⟨0,[],.slice an ns.length cn⟩,⟨1,[],.func (.func 87) #[] #[]⟩,⟨7,[],.int .i64 ((ns.length:Nat):Int)⟩,⟨8,[],.int .i64 ((k:Nat):Int)⟩]) [0] (Eq.trans (b:=some [⟨18,[],.int .i64 (IntKind.wrap .i64 (((k:Nat):Int)+1))⟩,⟨0,[],.slice an ns.length cn⟩,⟨1,[],.func (.func 87) #[] #[]⟩,⟨7,[],.int .i64 ((ns.length:Nat):Int)⟩,⟨8,[],.int .i64 ((k:Nat):Int)⟩]) kr (by simp only [hw3])) (j:=1) rfl ?_)
   refine B8 (E':=[⟨18,[],.int .i64 ((k+1:Nat):Int)⟩,⟨0,[],.slice an ns.length cn⟩,⟨1,[],.func (.func 87) #[] #[]⟩,⟨7,[],.int .i64 ((ns.length:Nat):Int)⟩,⟨8,[],.int .i64 ((k:Nat):Int)⟩]) (by rw [show ((k:Nat):Int)+1=((k+1:Nat):Int) by omega]) (A9 [0] [0,1,7,8] (k:=?_))
   refine F3 (s':=(k+1)) [0,1,7,8] kr rfl ⟨(by omega),(all_take hlt hT (by rw [← hy]; exact hyv))⟩ (by omega)
 ·
  simp only [decide_eq_false_iff_not] at hc1
  rw [List.take_of_length_le (by omega)] at hT
  refine H5 (B1 ?_)
  refine B1 (C7 ?_)
  refine A0 (A1 ?_)
  refine B7 (E':=[⟨4,[],.int .i64 (-1)⟩]) [0] [4] (k:=A0 ?_)
  refine B4 (B6 [.tmp 4] [.int .i64 (-1)] (k:=?_))
  exact ⟨.inr ⟨hT,rfl⟩,rfl⟩
theorem jcontS_ (ns:List (List UInt8)) (an:Option Addr) (cn:Nat) (S:Nat→Obj→Prop) (hrn:Rd S an (G4 ns)) (hns:ns.length≤1000000000) (hz:∀ (i:Nat) (h:i<ns.length),ns[i].length≤1000000000) (W0:World) (H:List Grp) (hS:∀ y o,S y o→At W0 H y o) (hW:F6 W0):Tri Tryz.prog 86 #[.slice an ns.length cn,.func (.func 87) #[] #[]] W0 H (fun v H'=>v=.bool (!ns.all D6)∧H'=H):=by
 refine C5 (args:=[.slice an ns.length cn,.func (.func 87) #[] #[]]) (n:=9) Tryz.func86 rfl rfl (Nat.le_of_ble_eq_true rfl) ?_
 refine A1 (G_p [0] [0,1] (k:=?_))
 refine A0 (A1 ?_)
 refine A2 (A4 (j:=2) [0,0] (k:=?_))
 refine D5 Tryz.func133 (jixS_ ns an cn S hrn hns hz _ _ hS hW) ?_
 rintro _ _ ⟨⟨hv,i,rfl⟩ | ⟨hv,rfl⟩,rfl⟩
 ·
  refine A9 [0,0] [4] (k:=A0 ?_)
  refine B4 (B6 [.tmp 4] [.bool (decide ((i:Int) ≥ 0))] (k:=?_))
  exact ⟨by rw [hv]; exact congrArg Value.bool (decide_eq_true (Int.natCast_nonneg _)),rfl⟩
 ·
  refine B2 (E':=[⟨4,[],.bool false⟩]) [0,0] [4] (k:=A0 ?_)
  refine B4 (B6 [.tmp 4] [.bool false] (k:=?_))
  exact ⟨by rw [hv]; rfl,rfl⟩
theorem jr2_ (x:JV) (an:Option Addr) (cn:Nat) (al:Option Addr) (cl:Nat) (cs:List Value) (S:Nat→Obj→Prop) (_:Rd S an (G4 x.names)) (_:Rd S al cs) (_:JRdL S x.list cs) (bd:Nat) (d:Int) (hd:0≤d∧d≤24) (m:Nat) (hy:∀ (W0:World) (H:List Grp),(∀ z o,S z o→At W0 H z o)→F6 W0→Tri Tryz.prog 51 #[.agg (jvC x an cn al cl).toArray,.int .i64 (d+1)] W0 H (fun v H'=>v=.bool (rtP m x)∧H'=H)) (W0:World) (H:List Grp) (hS:∀ y o,S y o→At W0 H y o) (hW:F6 W0):Tri Tryz.prog 89 #[.agg #[.int .i64 x.kind,.string (bk x.text),.slice an x.names.length cn,.slice al x.list.length cl],pt bd] W0 ([(bd,.cells #[.int .i64 d] 3 (0,0))]::H) (fun v H'=>v=.bool (!rtP m x)∧H'=[(bd,.cells #[.int .i64 d] 3 (0,0))]::H):=by
 refine C5 (args:=[.agg #[.int .i64 x.kind,.string (bk x.text),.slice an x.names.length cn,.slice al x.list.length cl],pt bd]) (n:=9) Tryz.func89 rfl rfl (Nat.le_of_ble_eq_true rfl) ?_
 refine A1 (A2 ?_)
 refine K7 (ch:=[]) (v:=.agg #[.int .i64 x.kind,.string (bk x.text),.slice an x.names.length cn,.slice al x.list.length cl]) (k:=(fun b1=>?_))
 refine B2 (E':=[⟨1,[],pt bd⟩,⟨2,[],pt b1⟩]) [0] [1,2] (k:=A0 ?_)
 refine A1 (A2 ?_)
 refine E8 (ch:=[]) (b:=b1) (off:=0) (l:=[.int .i64 x.kind,.string (bk x.text),.slice an x.names.length cn,.slice al x.list.length cl]) (hA:=At.grp 0 0 rfl rfl) (k:=A6 (ch:=[]) (b:=bd) (off:=0) (v:=.int .i64 d) (hA:=At.grp 1 0 rfl rfl) (k:=?_))
 refine A4 (j:=3) [0] (k:=D8 6 (d+1) (by omega) (by omega) kr ?_)
 refine J1 Tryz.func51 (hy _ _ (fun y o h=>At.cons (At.cons (hS y o h))) hW) (B2 (E':=[⟨3,[],.bool (!(rtP m x))⟩]) [0,0] [3] (k:=?_))
 refine A0 (B4 ?_)
 refine C1 (H':=([(bd,.cells #[.int .i64 d] 3 (0,0))]::H)) (fun w h=>(h.erase 0)) (B6 [.tmp 3] [.bool (!(rtP m x))] (k:=?_))
 exact ⟨rfl,rfl⟩
theorem jixJ_ (l:List JV) (al:Option Addr) (cl:Nat) (cs:List Value) (S:Nat→Obj→Prop) (hrl:Rd S al cs) (hrc:JRdL S l cs) (hll:l.length≤1000000000) (bd:Nat) (d:Int) (hd:0≤d∧d≤24) (m:Nat) (hrec:∀ (k:Nat) (hk:k<l.length) (an:Option Addr) (cn:Nat) (al:Option Addr) (cl:Nat) (cs:List Value),Rd S an (G4 (l[k]'hk).names)→Rd S al cs→JRdL S (l[k]'hk).list cs→∀ (W0:World) (H:List Grp),(∀ z o,S z o→At W0 H z o)→F6 W0→Tri Tryz.prog 51 #[.agg (jvC (l[k]'hk) an cn al cl).toArray,.int .i64 (d+1)] W0 H (fun v H'=>v=.bool (rtP m (l[k]'hk))∧H'=H)) (W0:World) (H:List Grp) (hS:∀ y o,S y o→At W0 H y o) (hW:F6 W0):Tri Tryz.prog 134 #[.slice al l.length cl,.func (.func 89) #[] #[pt bd]] W0 ([(bd,.cells #[.int .i64 d] 3 (0,0))]::H) (fun v H'=>((rtL m l=false∧∃ i:Nat,v=.int .i64 (i:Int))∨(rtL m l=true∧v=.int .i64 (-1)))∧H'=[(bd,.cells #[.int .i64 d] 3 (0,0))]::H):=by
 refine C5 (args:=[.slice al l.length cl,.func (.func 89) #[] #[pt bd]]) (n:=19) Tryz.func134 rfl rfl (Nat.le_of_ble_eq_true rfl) ?_
 refine A1 (G_p [0] [0,1] (k:=?_))
 refine A0 (A1 ?_)
 refine A1 (G_p [0,0,0] [0,1,7,8] (k:=?_))
 refine A0 (B9 ?_)
 refine J5 (EI:=(fun ξ:Nat=>[⟨0,[],.slice al l.length cl⟩,⟨1,[],.func (.func 89) #[] #[pt bd]⟩,⟨7,[],.int .i64 ((l.length:Nat):Int)⟩,⟨8,[],.int .i64 ((ξ:Nat):Int)⟩])) (HI:=(fun ξ:Nat=>([(bd,.cells #[.int .i64 d] 3 (0,0))]::H))) (Φ:=(fun ξ:Nat=>(ξ≤l.length)∧(rtL m (l.take ξ)=true))) (μ:=(fun ξ:Nat=>l.length - ξ)) (s0:=(0)) [0,1,7,8] kr rfl ⟨(Nat.zero_le _),(by rw [List.take_zero]; unfold rtL; rfl)⟩ ?_
 rintro k ⟨hk,hT⟩
 refine A1 (G_p [0] [0,1,7,8,9] (k:=?_))
 refine A0 (A1 ?_)
 refine B0 (b:=decide (((k:Nat):Int)<((l.length:Nat):Int))) kr (fun hc1=>?_) (fun hc1=>?_)
 ·
  simp only [decide_eq_true_eq] at hc1
  have hlt:k<l.length:=by omega
  obtain ⟨y,yan,ycn,yal,ycl,ycs,hyx,hye,hyn,hyl,hyc⟩:=hrc.get hlt
  refine A8 (A0 ?_)
  refine A1 (B9 ?_)
  refine A1 (G_p [0,0] [0,1,5,7,8] (k:=?_))
  refine A0 (A1 ?_)
  refine A2 (A4 (j:=3) [0,0,0] (k:=?_))
  refine F2 (ch:=[]) (a:=al) (len:=l.length) (cap:=cl) (kd:=.i64) (j:=((k:Nat):Int)) (e:=28) (sz:=4) (S:=S) (cs:=cs) (hrd:=hrl) (hb:=(fun _=>by exact ⟨by omega,by omega,hrc.ne hlt⟩)) (k:=P4 (ch:=[]) (a:=al) (q:=k * 4) (S:=S) (cs:=cs) (l:=[.int .i64 y.kind,.string (bk y.text),.slice yan y.names.length ycn,.slice yal y.list.length ycl]) (hrd:=hrl) (hS:=(fun y o h=>(At.cons (hS y o h)))) (hl:=List.cons_ne_nil _ _) (hv:=(fun _=>(elt4 hye))) (k:=?_))
  refine GL_call (i:=5) (ch:=[]) (f:=89) (fst:=#[]) (caps:=#[pt bd]) (vs:=[.agg #[.int .i64 y.kind,.string (bk y.text),.slice yan y.names.length ycn,.slice yal y.list.length ycl]]) rfl rfl rfl kr kr Tryz.func89 rfl rfl kr kr (chSure_of kr) (jr2_ y yan ycn yal ycl ycs S hyn hyl hyc bd d hd m (by subst hyx; exact hrec k hlt yan ycn yal ycl ycs hyn hyl hyc) _ _ (fun y o h=>hS y o h) hW) ?_
  rintro _ _ ⟨rfl,rfl⟩
  refine A9 [] [0,1,5,7,8,16] (k:=A0 ?_)
  refine B0 (b:=!rtP m y) kr (fun hc2=>?_) (fun hc2=>?_)
  ·
   have hyv:rtP m y=false:=by simpa using hc2
   refine A1 (B7 (E':=[⟨4,[],.int .i64 ((k:Nat):Int)⟩]) [0,0] [4] (k:=?_))
   refine A0 (B4 ?_)
   refine A7 (A3 ?_)
   refine A3 (A7 ?_)
   refine A3 (B6 [.tmp 4] [.int .i64 ((k:Nat):Int)] (k:=?_))
   exact ⟨.inl ⟨rtL_no hlt (by rw [← hyx]; exact hyv),_,rfl⟩,rfl⟩
  ·
   have hyv:rtP m y=true:=by simpa using hc2
   refine A8 (C0 ?_)
   refine A0 ?_
   have hw3:IntKind.wrap .i64 (((k:Nat):Int)+1)=((k:Nat):Int)+1:=w64 (by omega) (by omega)
   refine A2 (B5 (E':=[⟨18,[],.int .i64 (((k:Nat):Int)+1)⟩,⟨0,[],.slice al l.length cl⟩,⟨1,[],.func (.func 89) #[] #[pt bd]⟩,⟨7,[],.int .i64 ((l.length:Nat):Int)⟩,⟨8,[],.int .i64 ((k:Nat):Int)⟩]) [0] (Eq.trans (b:=some [⟨18,[],.int .i64 (IntKind.wrap .i64 (((k:Nat):Int)+1))⟩,⟨0,[],.slice al l.length cl⟩,⟨1,[],.func (.func 89) #[] #[pt bd]⟩,⟨7,[],.int .i64 ((l.length:Nat):Int)⟩,⟨8,[],.int .i64 ((k:Nat):Int)⟩]) kr (by simp only [hw3])) (j:=1) rfl ?_)
   refine B8 (E':=[⟨18,[],.int .i64 ((k+1:Nat):Int)⟩,⟨0,[],.slice al l.length cl⟩,⟨1,[],.func (.func 89) #[] #[pt bd]⟩,⟨7,[],.int .i64 ((l.length:Nat):Int)⟩,⟨8,[],.int .i64 ((k:Nat):Int)⟩]) (by rw [show ((k:Nat):Int)+1=((k+1:Nat):Int) by omega]) (A9 [0] [0,1,7,8] (k:=?_))
   refine F3 (s':=(k+1)) [0,1,7,8] kr rfl ⟨(by omega),(rtL_take hlt hT (by rw [← hyx]; exact hyv))⟩ (by omega)
 ·
  simp only [decide_eq_false_iff_not] at hc1
  rw [List.take_of_length_le (by omega)] at hT
  refine H5 (B1 ?_)
  refine B1 (C7 ?_)
  refine A0 (A1 ?_)
  refine B7 (E':=[⟨4,[],.int .i64 (-1)⟩]) [0] [4] (k:=A0 ?_)
  refine B4 (B6 [.tmp 4] [.int .i64 (-1)] (k:=?_))
  exact ⟨.inr ⟨hT,rfl⟩,rfl⟩
theorem jcontJ_ (l:List JV) (al:Option Addr) (cl:Nat) (cs:List Value) (S:Nat→Obj→Prop) (hrl:Rd S al cs) (hrc:JRdL S l cs) (hll:l.length≤1000000000) (bd:Nat) (d:Int) (hd:0≤d∧d≤24) (m:Nat) (hrec:∀ (k:Nat) (hk:k<l.length) (an:Option Addr) (cn:Nat) (al:Option Addr) (cl:Nat) (cs:List Value),Rd S an (G4 (l[k]'hk).names)→Rd S al cs→JRdL S (l[k]'hk).list cs→∀ (W0:World) (H:List Grp),(∀ z o,S z o→At W0 H z o)→F6 W0→Tri Tryz.prog 51 #[.agg (jvC (l[k]'hk) an cn al cl).toArray,.int .i64 (d+1)] W0 H (fun v H'=>v=.bool (rtP m (l[k]'hk))∧H'=H)) (W0:World) (H:List Grp) (hS:∀ y o,S y o→At W0 H y o) (hW:F6 W0):Tri Tryz.prog 88 #[.slice al l.length cl,.func (.func 89) #[] #[pt bd]] W0 ([(bd,.cells #[.int .i64 d] 3 (0,0))]::H) (fun v H'=>v=.bool (!rtL m l)∧H'=[(bd,.cells #[.int .i64 d] 3 (0,0))]::H):=by
 refine C5 (args:=[.slice al l.length cl,.func (.func 89) #[] #[pt bd]]) (n:=9) Tryz.func88 rfl rfl (Nat.le_of_ble_eq_true rfl) ?_
 refine A1 (G_p [0] [0,1] (k:=?_))
 refine A0 (A1 ?_)
 refine A2 (A4 (j:=2) [0,0] (k:=?_))
 refine D5 Tryz.func134 (jixJ_ l al cl cs S hrl hrc hll bd d hd m hrec _ _ hS hW) ?_
 rintro _ _ ⟨⟨hv,i,rfl⟩ | ⟨hv,rfl⟩,rfl⟩
 ·
  refine A9 [0,0] [4] (k:=A0 ?_)
  refine B4 (B6 [.tmp 4] [.bool (decide ((i:Int) ≥ 0))] (k:=?_))
  exact ⟨by rw [hv]; exact congrArg Value.bool (decide_eq_true (Int.natCast_nonneg _)),rfl⟩
 ·
  refine B2 (E':=[⟨4,[],.bool false⟩]) [0,0] [4] (k:=A0 ?_)
  refine B4 (B6 [.tmp 4] [.bool false] (k:=?_))
  exact ⟨by rw [hv]; rfl,rfl⟩
theorem jrightW_ (x:JV) (an:Option Addr) (cn:Nat) (al:Option Addr) (cl:Nat) (cs:List Value) (S:Nat→Obj→Prop) (hrn:Rd S an (G4 x.names)) (hrl:Rd S al cs) (hrc:JRdL S x.list cs) (lv:Nat) (hlv:lv≤24) (d:Int) (hd:d=24 - (lv:Int)) (hw:wtJ x≤1000000000) (hrec:∀ (y:JV),szJ y<szJ x→wtJ y≤1000000000→∀ (m:Nat),lv=m+1→∀ (an:Option Addr) (cn:Nat) (al:Option Addr) (cl:Nat) (cs:List Value),Rd S an (G4 y.names)→Rd S al cs→JRdL S y.list cs→∀ (W0:World) (H:List Grp),(∀ z o,S z o→At W0 H z o)→F6 W0→Tri Tryz.prog 51 #[.agg (jvC y an cn al cl).toArray,.int .i64 (d+1)] W0 H (fun v H'=>v=.bool (rtP m y)∧H'=H)) (W0:World) (H:List Grp) (hS:∀ y o,S y o→At W0 H y o) (hW:F6 W0):Tri Tryz.prog 51 #[.agg #[.int .i64 x.kind,.string (bk x.text),.slice an x.names.length cn,.slice al x.list.length cl],.int .i64 d] W0 H (fun v H'=>v=.bool (rtP lv x)∧H'=H):=by
  have hxl:=O0 x
  have hcw:=cn_wt x
  have hxt:x.text.length<wtJ x:=by rw [wt_pr x]; omega
  refine C5 (args:=[.agg #[.int .i64 x.kind,.string (bk x.text),.slice an x.names.length cn,.slice al x.list.length cl],.int .i64 d]) (n:=104) Tryz.func51 rfl rfl (Nat.le_of_ble_eq_true rfl) ?_
  refine A1 (A2 ?_)
  refine K7 (ch:=[]) (v:=.agg #[.int .i64 x.kind,.string (bk x.text),.slice an x.names.length cn,.slice al x.list.length cl]) (k:=(fun b1=>?_))
  refine K7 (ch:=[]) (v:=.int .i64 d) (k:=(fun b2=>?_))
  refine B2 (E':=[⟨2,[],pt b1⟩,⟨3,[],pt b2⟩]) [0] [2,3] (k:=A0 ?_)
  refine A1 (J4 (k:=?_))
  refine A4 (j:=1) [0] (k:=A6 (ch:=[]) (b:=b1) (off:=0) (v:=.int .i64 x.kind) (hA:=At.grp 1 0 rfl rfl) (k:=?_))
  refine A4 (j:=4) [0,0] (k:=A6 (ch:=[]) (b:=b1) (off:=0) (v:=.int .i64 x.kind) (hA:=At.grp 1 0 rfl rfl) (k:=?_))
  refine A9 [0,0,0] [2,3,5,6] (k:=A0 ?_)
  refine A1 (B9 ?_)
  refine A1 (A2 ?_)
  refine A4 (j:=1) [0] (k:=A6 (ch:=[]) (b:=b1) (off:=0) (v:=.int .i64 x.kind) (hA:=At.grp 1 0 rfl rfl) (k:=?_))
  refine A4 (j:=5) [0,0,0] (k:=A6 (ch:=[(17,false)]) (b:=b1) (off:=0) (v:=.int .i64 x.kind) (hA:=At.grp 1 0 rfl rfl) (k:=?_))
  refine A4 (j:=17) [0,5,0,0,0,0,0,0,6,0,0] (k:=A6 (ch:=[(29,true),(22,false)]) (b:=b1) (off:=3) (v:=.slice al x.list.length cl) (hA:=At.grp 1 0 rfl rfl) (k:=?_))
  refine A4 (j:=27) [0,0,6,5,0,0,0,0,0] (k:=A6 (ch:=[(39,true),(36,false)]) (b:=b1) (off:=2) (v:=.slice an x.names.length cn) (hA:=At.grp 1 0 rfl rfl) (k:=?_))
  refine A9 [0,0,6,5,0] [2,3,5,6,13] (k:=A0 ?_)
  refine B0 (b:=(((decide (x.kind<0))||(decide (x.kind > 6)))||(((!(x.kind==5))&&(!(x.kind==6)))&&(decide (((x.list.length:Nat):Int) > 0))))||((!(x.kind==6))&&(decide (((x.names.length:Nat):Int) > 0)))) kr (fun hc3=>?_) (fun hc3=>?_)
  ·
    simp only [Bool.and_eq_true,Bool.or_eq_true,Bool.not_eq_true',decide_eq_true_eq,beq_eq_false_iff_ne,ne_eq,gt_iff_lt] at hc3
    have hz:=hc3
    refine A1 (B7 (E':=[⟨4,[],.bool false⟩]) [0] [4] (k:=?_))
    refine A0 (B4 ?_)
    refine A7 (A3 ?_)
    refine C1 (H':=H) (fun w h=>((h.erase 1).erase 0)) (B6 [.tmp 4] [.bool false] (k:=?_))
    exact ⟨congrArg Value.bool (rt_A (by omega)).symm,rfl⟩
  ·
    simp only [Bool.and_eq_false_iff,Bool.or_eq_false_iff,Bool.not_eq_false',decide_eq_false_iff_not,beq_iff_eq,gt_iff_lt] at hc3
    have hz:=hc3
    have hB:RtB x:=rt_B (by omega) (by omega) (by omega)
    refine A1 (A2 ?_)
    refine A4 (j:=3) [0,0,0] (k:=A6 (ch:=[(48,true)]) (b:=b1) (off:=2) (v:=.slice an x.names.length cn) (hA:=At.grp 1 0 rfl rfl) (k:=?_))
    refine A4 (j:=6) [0,0] (k:=A6 (ch:=[(48,true)]) (b:=b1) (off:=3) (v:=.slice al x.list.length cl) (hA:=At.grp 1 0 rfl rfl) (k:=?_))
    refine A4 (j:=16) [0,0,6,0,0,0,0,5,0] (k:=A6 (ch:=[(62,true),(57,false)]) (b:=b2) (off:=0) (v:=.int .i64 d) (hA:=At.grp 0 0 rfl rfl) (k:=?_))
    refine A9 [0,6,5,0] [2,3,46] (k:=A0 ?_)
    refine B0 (b:=((x.kind==6)&&(((x.names.length:Nat):Int) != ((x.list.length:Nat):Int)))||(((x.kind==5)||(x.kind==6))&&(decide (d ≥ 24)))) kr (fun hc4=>?_) (fun hc4=>?_)
    ·
      simp only [Bool.and_eq_true,Bool.or_eq_true,decide_eq_true_eq,beq_iff_eq,bne_iff_ne,ne_eq,ge_iff_le] at hc4
      have hz:=hc4
      refine A1 (B7 (E':=[⟨4,[],.bool false⟩]) [0] [4] (k:=?_))
      refine A0 (B4 ?_)
      refine A7 (A3 ?_)
      refine C1 (H':=H) (fun w h=>((h.erase 1).erase 0)) (B6 [.tmp 4] [.bool false] (k:=?_))
      exact ⟨congrArg Value.bool (rt_C hB (by omega)).symm,rfl⟩
    ·
      simp only [Bool.and_eq_false_iff,Bool.or_eq_false_iff,decide_eq_false_iff_not,beq_eq_false_iff_ne,bne_eq_false_iff_eq,ne_eq,ge_iff_le] at hc4
      have hz:=hc4
      have h6:¬ (x.kind=6∧x.names.length≠x.list.length):=by omega
      have h56:¬ ((x.kind=5∨x.kind=6)∧lv=0):=by omega
      have hlvp:x.list≠[]→0<lv:=by
        intro hne
        rcases Nat.eq_zero_or_pos lv with h0 | h0
        · exact absurd (hB.list (by omega) (by omega)) hne
        · exact h0
      refine A1 (A2 ?_)
      refine A4 (j:=1) [0] (k:=A6 (ch:=[]) (b:=b1) (off:=0) (v:=.int .i64 x.kind) (hA:=At.grp 1 0 rfl rfl) (k:=?_))
      refine A9 [0,0] [2,3,67] (k:=A0 ?_)
      refine B0 (b:=x.kind==3) kr (fun hc5=>?_) (fun hc5=>?_)
      ·
        simp only [beq_iff_eq] at hc5
        have hz:=hc5
        refine A1 (J4 (k:=?_))
        refine A4 (j:=1) [0] (k:=A6 (ch:=[]) (b:=b1) (off:=1) (v:=.string (bk x.text)) (hA:=At.grp 1 0 rfl rfl) (k:=?_))
        refine A4 (j:=5) [0,0,0] (k:=A6 (ch:=[(74,true)]) (b:=b1) (off:=1) (v:=.string (bk x.text)) (hA:=At.grp 1 0 rfl rfl) (k:=?_))
        refine I7 (ch:=[(74,true)]) (f:=81) (fst:=#[]) (caps:=#[]) (vs:=[.string (bk x.text)]) (v:=.int .i64 (E3 x.text:Int)) (hf:=Tryz.func81) (hc:=(fun hc=>jnumber_ x.text (by omega) _ _)) (k:=A4 (j:=8) [0] (k:=?_))
        refine A6 (ch:=[(74,true)]) (b:=b1) (off:=1) (v:=.string (bk x.text)) (hA:=At.grp 1 0 rfl rfl) (k:=A9 [0,0,6,0] [4] (k:=?_))
        refine A0 (B4 ?_)
        refine A7 (A3 ?_)
        refine C1 (H':=H) (fun w h=>((h.erase 1).erase 0)) (B6 [.tmp 4] [.bool ((!((bk x.text).toList==(ByteArray.mk #[]).toList))&&((E3 x.text:Int)==((bk x.text).size:Int)))] (k:=?_))
        exact ⟨congrArg Value.bool ((rt_num hB (by omega)).trans (num_bool _).symm).symm,rfl⟩
      ·
        simp only [beq_eq_false_iff_ne,ne_eq] at hc5
        have hz:=hc5
        have h3:x.kind≠3:=by omega
        refine A1 (A2 ?_)
        refine A4 (j:=1) [0] (k:=A6 (ch:=[]) (b:=b1) (off:=0) (v:=.int .i64 x.kind) (hA:=At.grp 1 0 rfl rfl) (k:=?_))
        refine A9 [0,0] [2,3,83] (k:=A0 ?_)
        refine B0 (b:=x.kind==4) kr (fun hc6=>?_) (fun hc6=>?_)
        ·
          simp only [beq_iff_eq] at hc6
          have hz:=hc6
          refine A1 (A2 ?_)
          refine A4 (j:=1) [0] (k:=A6 (ch:=[]) (b:=b1) (off:=1) (v:=.string (bk x.text)) (hA:=At.grp 1 0 rfl rfl) (k:=?_))
          refine J1 Tryz.func59 (valid_ (bk x.text) (by rw [D3]; omega) _ _ hW) (B2 (E':=[⟨4,[],.bool (D6 x.text)⟩]) [0] [4] (k:=?_))
          refine A0 (B4 ?_)
          refine A7 (A3 ?_)
          refine C1 (H':=H) (fun w h=>((h.erase 1).erase 0)) (B6 [.tmp 4] [.bool (D6 x.text)] (k:=?_))
          exact ⟨congrArg Value.bool (rt_text hB (by omega)).symm,rfl⟩
        ·
          simp only [beq_eq_false_iff_ne,ne_eq] at hc6
          have hz:=hc6
          have h4:x.kind≠4:=by omega
          refine A1 (A2 ?_)
          refine A4 (j:=1) [0] (k:=A6 (ch:=[]) (b:=b1) (off:=1) (v:=.string (bk x.text)) (hA:=At.grp 1 0 rfl rfl) (k:=?_))
          refine A4 (j:=5) [0,0,0] (k:=A6 (ch:=[(94,false)]) (b:=b1) (off:=2) (v:=.slice an x.names.length cn) (hA:=At.grp 1 0 rfl rfl) (k:=?_))
          refine I7 (ch:=[(94,false)]) (f:=86) (fst:=#[]) (caps:=#[]) (vs:=[.slice an x.names.length cn,.func (.func 87) #[] #[]]) (v:=.bool (!(x.names.all D6))) (hf:=Tryz.func86) (hc:=(fun hc=>jcontS_ x.names an cn S hrn (by omega) (fun i h=>by have:=wt_name h; omega) _ _ (fun y o h=>At.cons (At.cons (hS y o h))) hW)) (k:=B2 (E':=[⟨2,[],pt b1⟩,⟨3,[],pt b2⟩,⟨90,[],.bool ((!((bk x.text).toList==(ByteArray.mk #[]).toList))||(!(x.names.all D6)))⟩]) [5,0] [2,3,90] (k:=?_))
          refine A0 (B0 (b:=(!((bk x.text).toList==(ByteArray.mk #[]).toList))||(!(x.names.all D6))) kr (fun hc7=>?_) (fun hc7=>?_))
          ·
            simp only [Bool.or_eq_true,Bool.not_eq_true',beq_eq_false_iff_ne,ne_eq,nil_eq] at hc7
            have hz:=hc7
            refine A1 (B7 (E':=[⟨4,[],.bool false⟩]) [0] [4] (k:=?_))
            refine A0 (B4 ?_)
            refine A7 (A3 ?_)
            refine C1 (H':=H) (fun w h=>((h.erase 1).erase 0)) (B6 [.tmp 4] [.bool false] (k:=?_))
            exact ⟨congrArg Value.bool (rt_bad hB h6 h3 h4 hz).symm,rfl⟩
          ·
            simp only [Bool.or_eq_false_iff,Bool.not_eq_false',beq_iff_eq,nil_eq] at hc7
            have hz:=hc7
            refine A8 (C0 ?_)
            refine A0 (A1 ?_)
            refine A2 (A4 (j:=1) [0] (k:=?_))
            refine A6 (ch:=[]) (b:=b1) (off:=3) (v:=.slice al x.list.length cl) (hA:=At.grp 1 0 rfl rfl) (k:=A4 (j:=3) [0] (k:=?_))
            refine D5 (vs:=[.slice al x.list.length cl,.func (.func 89) #[] #[pt b2]]) Tryz.func88 (jcontJ_ x.list al cl cs S hrl hrc (by omega) b2 d (by omega) (lv - 1) (fun k hk an cn al cl cs h1 h2 h3 W0 H hS hW=>hrec (x.list[k]'hk) (szJ_lt hk) (by have:=wt_sub hk; omega) (lv - 1) (by have:=hlvp (by intro h0; rw [h0] at hk; exact absurd hk (Nat.not_lt_zero _)); omega) an cn al cl cs h1 h2 h3 W0 H hS hW) _ _ (fun y o h=>At.cons (hS y o h)) hW) ?_
            rintro _ _ ⟨rfl,rfl⟩
            refine A9 [0,0] [4] (k:=A0 ?_)
            refine B4 (C1 (H':=H) (fun w h=>((h.erase 1).erase 0)) ?_)
            refine B6 [.tmp 4] [.bool (!(!rtL (lv - 1) x.list))] (k:=?_)
            exact ⟨congrArg Value.bool (by rw [Bool.not_not]; exact (rt_many hB h6 h3 h4 h56 hz.1 hz.2).symm),rfl⟩
theorem jright_:∀ (n:Nat) (x:JV),szJ x≤n→wtJ x≤1000000000→∀ (lv:Nat),lv≤24→∀ (d:Int),d=24 - (lv:Int)→∀ (an:Option Addr) (cn:Nat) (al:Option Addr) (cl:Nat) (cs:List Value) (S:Nat→Obj→Prop),Rd S an (G4 x.names)→Rd S al cs→JRdL S x.list cs→∀ (W0:World) (H:List Grp),(∀ z o,S z o→At W0 H z o)→F6 W0→Tri Tryz.prog 51 #[.agg (jvC x an cn al cl).toArray,.int .i64 d] W0 H (fun v H'=>v=.bool (rtP lv x)∧H'=H)
  | 0,x,h,_,_,_,_,_,_,_,_,_,_,_,_,_,_,_,_,_,_=>absurd (szJ_pos x) (by omega)
  | n+1,x,h,hw,lv,hlv,d,hd,an,cn,al,cl,cs,S,h1,h2,h3,W0,H,hS,hW=>jrightW_ x an cn al cl cs S h1 h2 h3 lv hlv d hd hw (fun y hy hwy m hm an cn al cl cs h1 h2 h3 W0 H hS hW=>jright_ n y (by omega) hwy m (by omega) (d+1) (by omega) an cn al cl cs S h1 h2 h3 W0 H hS hW) W0 H hS hW
end Go.Proofs.YtppgfiklmfoaeaaGreatDoor
namespace Go.Sw
open Go.RowKit
abbrev RF (r:Nat):Fence:=Fence.wide.inRound r
theorem upon_in {P:Program} {o:Oper} {a:Act} {next next':Act→World→Prop} {Q:D9} {r n:Nat} (hn:∀ a w,next a w→next' a w) {x:Result Next}
    (h:o.upon P a next Q x):o.uponIn (RF r) n P a next' Q x:=by
  cases x with
  | ok v w =>
    cases v with
    | value v=>exact hn _ _ h
    | skip=>exact hn _ _ h
    | defer d=>exact hn _ _ h
    | enter f args =>
      refine ⟨fun e=>(by cases e),?_⟩
      have h1:CallsIn (RF r) (n - 1) P f args w _:=(callsIn_wide (n:=n - 1)).2 h
      refine h1.mono (fun e w' he=>?_)
      cases e with
      | returned v=>exact hn _ _ he
      | panicked c=>exact he
      | outgrown=>exact he
    | row row args =>
      refine ⟨fun e=>(by cases e),fun c cs _=>?_⟩
      obtain ⟨v,w',hv,hst⟩:=h c cs
      exact ⟨v,w',hn _ _ hv,stepsIn_wide.2 hst⟩
    | _=>exact absurd h (by intro h; exact h)
  | halt s w=>cases s with
    | panic v=>exact h
    | _=>exact absurd h (by intro h; exact h)
def noDefer (l:List Oper):Bool:=l.all fun o=>match o.op with | .defer _=>false | _=>true
theorem list_in {P:Program} {ops:Array Oper} {Q:D9} {r n:Nat} (hLO:∀ a w,¬ Q .outgrown a w):∀ (l:List Oper),noDefer l=true→∀ a w,wpList P ops Q l a w→wpListIn (RF r) n P ops Q l a w
  | [],_,_,_,h=>h
  | o::l,hd,a,w,h=>by
    simp only [noDefer,List.all_cons,Bool.and_eq_true] at hd
    have ih:=list_in (n:=n) (r:=r) (P:=P) (ops:=ops) (Q:=Q) hLO l hd.2
    unfold wpList at h
    unfold wpListIn
    by_cases hw:Region.wanted o (yielded ops a.tmps)=true
    · rw [if_pos hw] at h ⊢
      rcases h with h | ⟨_,a0,w0,hq⟩
      · refine ⟨fun _ _=>trivial,?_⟩
        rw [show Oper.semAt (RF r).round a.eval o=execOp a.eval o from Oper.semAt_some r _ _ (fun c e=>by have h1:=hd.1; rw [e] at h1; exact Bool.noConfusion h1)]
        exact upon_in ih h
      · exact absurd hq (hLO _ _)
    · rw [if_neg hw] at h ⊢
      exact ⟨fun _ _=>trivial,ih _ _ h⟩
def GR (r m:Nat) (P:Program) (c:Code) (Q:D9) (n:Fr) (E:Env) (W0:World) (H:List Grp):Prop :=
  ∀ a w,Ag n E a→Sat W0 H w→c.wpIn (RF r) m P Q a w
section
variable {r m : Nat} {P : Program} {Q : D9} {n : Fr} {E : Env} {W0 : World} {H : List Grp}
theorem GR_region {id:Nat} {ops:Array Oper} (hd:noDefer ops.toList=true:=by exact rfl) (hLO:∀ a w,¬ Q .outgrown a w) (k:GL false P ops 0 Q n E W0 H):GR r m P (.region id ops false) Q n E W0 H :=
  fun a w ha hs=>wpIn_region_list (list_in hLO _ hd _ _ (by have:=k a w ha hs; simpa using this))
theorem GR_seq {x y:Code} (k:GR r m P x (Exit.then (y.wpIn (RF r) m P Q) Q) n E W0 H):GR r m P (.seq x y) Q n E W0 H:=fun a w ha hs=>wpIn_seq (k a w ha hs)
theorem NR_then {y:Code} (k:GR r m P y Q n E W0 H):N (Exit.then (y.wpIn (RF r) m P Q) Q) .normal n E W0 H:=k
theorem GR_block {id:Nat} {c:Code} (k:GR r m P c (Exit.inBlock id Q) n E W0 H):GR r m P (.block id c) Q n E W0 H:=fun a w ha hs=>wpIn_block (k a w ha hs)
theorem GR_skip (k:N Q .normal n E W0 H):GR r m P .skip Q n E W0 H:=fun a w ha hs=>wpIn_skip (k a w ha hs)
theorem GR_ret (k:N Q .ret n E W0 H):GR r m P .ret Q n E W0 H:=fun a w ha hs=>wpIn_ret (k a w ha hs)
theorem GR_cond {c:Operand} {x y:Code} {b:Bool}
    (hc:evO E [] c=some (.bool b)) (ht:b=true→GR r m P x Q n E W0 H) (hf:b=false→GR r m P y Q n E W0 H):GR r m P (.cond c x y) Q n E W0 H :=
  fun a w ha hs=>wpIn_cond_split (ha.eval hc) (fun h=>ht h a w ha hs) (fun h=>hf h a w ha hs)
end
def KeepG (K:List Grp) (W W':World):Prop:=∀ p,p∈K.flatten→W.heap[p.1]? = some p.2→W'.heap[p.1]? = some p.2
def putAll:List (Nat × Value)→List Sl→List Sl
  | [],E=>E
  | (t,v)::r,E=>putAll r (Env.put E (some t) [] v)
theorem Ag.puts {n:Fr}:∀ (l:List (Nat × Value)) {E:Env} {a:Act},Ag n E a→(∀ p,p∈l→p.1<n.k)→Ag n (putAll l E) { a with tmps:=l.foldl (fun t p=>t.setIfInBounds p.1 p.2) a.tmps }
  | [],_,_,h,_=>h
  | (t,v)::r,E,a,h,hl=>by
    obtain ⟨β,hβ,hat⟩:=h.at_
    have h1:=h.put hβ hat (d:=some t) (ch:=[]) (by simp [I4,freeOf]; exact hl (t,v) List.mem_cons_self) v
    exact Ag.puts r h1 (fun p hp=>hl p (List.mem_cons_of_mem _ hp))
def Calm0 (H H':List Grp):Prop:=∀ p,p∈H'.flatten→p.2.isCells=true∨p∈H.flatten
theorem Sat.lt {W0:World} {H:List Grp} {w:World} (h:Sat W0 H w) {p:Nat × Obj} (hp:p∈H.flatten):p.1<w.heap.size:=(Array.getElem?_eq_some_iff.1 (h.has p hp)).1
theorem Sat.grown {W0:World} {H':List Grp} {W W':World} {row:Option Nat} (h:Sat W0 H' W) (hg:W.grownBy W' row)
    (hr:∀ r,row=some r→W0.heap.size≤r∧∀ p,p∈H'.flatten→p.1≠r):Sat W0 H' W':=by
  refine ⟨h.below.grown hg h.below.size (fun k e=>(hr k e).1),h.nodup,fun p hp=>?_,h.high⟩
  rw [hg.block p.1 (h.lt hp) (fun e=>(hr _ e.symm).2 p hp rfl)]
  exact h.has p hp
theorem putObj_wr {w:World} {b:Nat} {o o':Obj} (h:w.heap[b]? = some o):Wr b o' w (w.putObj b o') :=
  ⟨rfl,rfl,rfl,by simp,World.putObj_heap_same (Array.getElem?_eq_some_iff.1 h).1,fun _ hk=>World.putObj_heap_other hk⟩
theorem Sat.put0 {W0:World} {H:List Grp} {w:World} {b:Nat} {o:Obj} (h:Sat W0 ([(b,o)]::H) w) (o':Obj):Sat W0 ([(b,o')]::H) (w.putObj b o') :=
  h.wr (j:=0) (i:=0) rfl rfl (putObj_wr (h.has (b,o) (by simp)))
theorem ds_none {n:Fr} (h:n.dl=[]):n.ds=[]:=by unfold Fr.ds; rw [h]
def BodyM (P:Program) (fn:Func) (W0:World) (R:Value→List Grp→Prop):D9 :=
  bodyPostM Fence.wide 9 P fn fun e w'=>∃ v H',e=.returned v∧R v H'∧Sat W0 H' w'
theorem Tri_ofM {P:Program} {f:FuncId} {fn:Func} {c:Code} {args:List Value} {n:Fr} {W0:World} {H:List Grp} {R:Value→List Grp→Prop}
    (hf:P.funcs[f]? = some fn) (hb:fn.body=some c) (hn:fn.ntmps=n.k) (hle:args.length≤n.k)
    (k:G P c (BodyM P fn W0 R) n (argEnv 0 args) W0 H) (hz:n.dl=[]:=by rfl):Tri P f args.toArray W0 H R:=by
  intro w hs
  refine callsIn_wide.1 (callsIn_of_wp_marks (F:=Fence.wide) (n:=9) hf hb trivial ((wpIn_wide (n:=9)).2 (k _ w ?_ hs)) rfl)
  refine ⟨by unfold Fr.ds; rw [hz],by simp [hn]; omega,fun u w=>match args[u]? with | some v=>P3 v==some w | none=>false,?_,?_⟩
  · intro s hs w
    obtain ⟨h1,h2,h3⟩:=Q6 args 0 s hs
    simp only [Nat.sub_zero] at h3
    simp only [h3]
  · intro s hs
    obtain ⟨h1,h2,h3⟩:=Q6 args 0 s hs
    simp only [Nat.sub_zero] at h3
    rw [h1]
    simp only [chT,List.all_nil,if_true]
    have hlt:s.t<args.length:=by
      rcases Nat.lt_or_ge s.t args.length with h | h
      · exact h
      · simp [List.getElem?_eq_none h] at h3
    rw [Array.getElem?_append_left (by simpa using hlt)]
    simpa using h3
theorem results_run {P:Program} {fn:Func} {E:Env} {W0:World} {H:List Grp} {n:Fr} {a:Act} {w:World} (ha:Ag n E a) (hs:Sat W0 H w) {rs:List ResultVar} {l:List Value}
    (hr:fn.results=rs.toArray) (h:RVs P E W0 H rs l):(results fn a.tmps).run P w=.ok (packV l) w:=by
  have e2:=h.run (P:=P) ha hs
  have e3:((rs.toArray).mapM (resOne a.tmps)).run P w=.ok l.toArray w:=by
    rw [Array.mapM_eq_mapM_toList,Sem.run_map,e2]; rfl
  rw [results_eq,hr,Sem.run_bind,e3]
  simp only [Result.andThen_ok,Sem.run_pure]
  congr 1
  cases l with
  | nil=>rfl
  | cons v l=>cases l with
    | nil=>rfl
    | cons u l=>simp [packV]
theorem N_retM {P:Program} {fn:Func} {n:Fr} {E:Env} {W0:World} {H:List Grp} {R:Value→List Grp→Prop} {x:Exit} {D:Nat} (rs:List ResultVar) (l:List Value)
    (hm:n.dl=mkD D) (hr:fn.results=rs.toArray) (h:RVs P E W0 H rs l) (hx:(match x with | .normal=>true | .ret=>true | _=>false)=true)
    (k:∃ H',R (packV l) H'∧∀ w,Sat W0 H w→Sat W0 H' w):N (BodyM P fn W0 R) x n E W0 ([(D,.deferred (some []))]::H):=by
  intro a w ha hs
  obtain ⟨H',hR,hH⟩:=k
  have h1:a.defers=[{ target:=.collected D,args:=#[] }]:=by rw [ha.defers]; unfold Fr.ds; rw [hm]
  have hs2:=(hs.put0 (.deferred none)).tail
  have key:LeavesInM Fence.wide 9 P fn a.tmps (fun e w'=>∃ v H',e=.returned v∧R v H'∧Sat W0 H' w') a.defers .returning w:=by
    rw [h1]
    exact ⟨by simp,.inl ⟨D,_,rfl,run_takeDeferred (hs.has (D,_) (by simp)),_,results_run ha hs2 hr h,packV l,H',rfl,hR,hH _ hs2⟩⟩
  cases x <;> simp at hx
  · exact key
  · exact key
theorem N_retM0 {P:Program} {fn:Func} {n:Fr} {E:Env} {W0:World} {H:List Grp} {R:Value→List Grp→Prop} {x:Exit} (rs:List ResultVar) (l:List Value)
    (hr:fn.results=rs.toArray) (h:RVs P E W0 H rs l) (hx:(match x with | .normal=>true | .ret=>true | _=>false)=true)
    (k:∃ H',R (packV l) H'∧∀ w,Sat W0 H w→Sat W0 H' w) (hz:n.dl=[]:=by rfl):N (BodyM P fn W0 R) x n E W0 H:=by
  intro a w ha hs
  obtain ⟨H',hR,hH⟩:=k
  have h1:a.defers=[]:=by rw [ha.defers]; unfold Fr.ds; rw [hz]
  have key:LeavesInM Fence.wide 9 P fn a.tmps (fun e w'=>∃ v H',e=.returned v∧R v H'∧Sat W0 H' w') a.defers .returning w:=by
    rw [h1]
    exact ⟨_,results_run ha hs hr h,packV l,H',rfl,hR,hH _ hs⟩
  cases x <;> simp at hx
  · exact key
  · exact key
end Go.Sw
namespace Go.Sw
open Go.RowKit
theorem op_in {P:Program} {ops:Array Oper} {Q:D9} {r n:Nat} (hLO:∀ a w,¬ Q .outgrown a w) (hd:noDefer ops.toList=true) {i:Nat} {K K':Act→World→Prop} (hK:∀ a w,K a w→K' a w) {a:Act} {w:World}
    (h:wpOp P ops Q i K a w):wpOpIn (RF r) n P ops Q i K' a w:=by
  unfold wpOp at h
  unfold wpOpIn
  cases ho:ops[i]? with
  | none=>rw [ho] at h; exact hK _ _ h
  | some o =>
    rw [ho] at h
    dsimp only at h ⊢
    by_cases hw:Region.wanted o (yielded ops a.tmps)=true
    · rw [if_pos hw] at h ⊢
      rcases h with h | ⟨_,a0,w0,hq⟩
      · refine ⟨fun _ _=>trivial,?_⟩
        have hm:o∈ops.toList:=by
          obtain ⟨h1,h2⟩:=Array.getElem?_eq_some_iff.1 ho
          rw [← h2]; exact Array.getElem_mem_toList h1
        have h1:=List.all_eq_true.1 hd o hm
        rw [show Oper.semAt (RF r).round a.eval o=execOp a.eval o from Oper.semAt_some r _ _ (fun c e=>by rw [e] at h1; exact Bool.noConfusion h1)]
        exact upon_in hK h
      · exact absurd hq (hLO _ _)
    · rw [if_neg hw] at h ⊢
      exact ⟨fun _ _=>trivial,hK _ _ h⟩
theorem any_in {P:Program} {ops:Array Oper} {Q:D9} {r n:Nat} (hLO:∀ a w,¬ Q .outgrown a w) (hd:noDefer ops.toList=true):∀ (fuel:Nat) (listed:Array Bool) (a:Act) (w:World),wpAny P .any ops Q fuel listed a w→wpAnyIn (RF r) n P .any ops Q fuel listed a w
  | 0,_,_,_,h=>h
  | fuel+1,_,_,_,h=>⟨h.1,fun i hi=>op_in hLO hd (fun _ _ h=>any_in hLO hd fuel _ _ _ h) (h.2 i hi)⟩
theorem GR_regionD {r m:Nat} {P:Program} {Q:D9} {n:Fr} {E:Env} {W0:World} {H:List Grp} {id:Nat} {ops:Array Oper} (hm:P.follows .mixedOrders=true) (hB:Region.lexB .any ops=true) (hd:noDefer ops.toList=true) (hLO:∀ a w,¬ Q .outgrown a w)
    (k:GL true P ops 0 Q n E W0 H):GR r m P (.region id ops true) Q n E W0 H:=by
  intro a w ha hs
  have h:wpQuiet P ops (Sat W0 H) (fun a'=>∀ w',Sat W0 H w'→Q .normal a' w') ops.toList a:=by have:=k a ha; simpa using this
  simp only [Region.lexB,Bool.and_eq_true] at hB
  refine wpIn_region_any hm (any_in hLO hd _ _ _ _ (wpAny_of_quiet (Q:=fun a'=>∀ w',Sat W0 H w'→Q .normal a' w') (fun _ w' hw' h=>h w' hw') _ _ _ _ hs.drew ?_))
  have:=wpAnyQ_lex (C:=Sat W0 H) (md:=.any) hB.1 ops.toList 0 (Array.replicate ops.size false) a (by simp) (by simpa using hB.2) h
  simpa using this
def KeepB (W0:World) (K:List Grp) (W W':World):Prop:=KeepG K W W'∧∀ b o,b<W0.heap.size→W0.heap[b]? = some o→W'.heap[b]? = some o
def RQ2 {α:Type} (W0:World) (L:Grp) (D:Grp) (I:List α→Prop) (HI:List α→List Grp) (X:Code→List α→List Grp→Prop) (xs:List α):D9
  | .normal,_,w=>I xs∧Sat W0 (L::D::HI xs) w
  | .ret,_,w=>∃ H',X .ret xs H'∧Sat W0 (L::D::H') w
  | .exit id,_,w=>∃ H',X (.exit id) xs H'∧Sat W0 (L::D::H') w
  | _,_,_=>False
theorem G_rangeFunc2 {P:Program} {g:Operand} {ps:Array Tmp} {assign body:Code} {Q:D9} {n:Fr} {E:Env} {W0:World} {H:List Grp} {α β:Type} {gf:Nat} {lb:Array Value} {encs:α→Array Value} {S Sp:List α→Prop} {N0:Nat}
    (hz:n.dl=[]) (hg:evO E [] g=some (.func (.func gf) #[] lb)) (eg:∀ args w,(callFunc gf args).run P w=.ok (.enter gf args) w)
    (Kg:List Grp) (_:∀ p,p∈Kg.flatten→p∈H.flatten) (hseq:∀ w,Sat W0 H w→SeqStopsK Fence.wide 8 P gf lb encs (KeepB W0 Kg) S Sp N0 w)
    (HI:List α→List Grp) (X:Code→List α→List Grp→Prop) (h0:HI []=H) (I:List α→Prop) (hI0:I []) (hKI:∀ xs p,p∈Kg.flatten→p∈(HI xs).flatten)
    (hid:∀ xs,Calm0 H (HI xs)) (hidx:∀ c xs H',X c xs H'→Calm0 H H')
    (hps:∀ x,(encs x).size=ps.size) (hpn:∀ t,t∈ps→t<n.k) (EI:α→β→Env) (HA:α→β→List α→List Grp)
    (hassign:∀ r L D pre x,I pre→GR r 7 P assign (fun e a w=>e=.normal∧∃ y:β,Ag n (EI x y) a∧Sat W0 (L::D::HA x y pre) w) n (putAll (ps.zip (encs x)).toList E) W0 (L::D::HI pre))
    (hbody:∀ r L D pre x y,pre.length<N0→I pre→GR r 7 P body (RQ2 W0 L D I HI X (pre++[x])) n (EI x y) W0 (L::D::HA x y pre))
    (hdone:∀ D xs,S xs→I xs→N Q .normal ⟨n.k,mkD D⟩ E W0 ([(D,.deferred (some []))]::HI xs))
    (hstop:∀ D c pre H',Sp pre→X c pre H'→G P c Q ⟨n.k,mkD D⟩ E W0 ([(D,.deferred (some []))]::H')) :
    G P (.rangeFunc g ps assign body) Q n E W0 H:=by
  intro a w ha hs
  refine (wpIn_wide (n:=9)).1 (wpIn_rangeFunc fun fn hfn=>?_)
  obtain ⟨rec,hrec⟩:∃ rec:LoopState→Option Code→Loop,rec=fun st pe=>{ state:=st,pending:=pe,fn,tmps:=a.tmps,params:=ps,assign,body,defers:=w.heap.size }:=⟨_,rfl⟩
  obtain ⟨l,hl⟩:∃ l,l=w.heap.size+1:=⟨_,rfl⟩
  have hs0:Sat W0 ([(w.heap.size,.deferred (some []))]::H) (w.alloc (.deferred (some []))):=hs.new rfl rfl rfl rfl
  obtain ⟨W1,hW1⟩:∃ W1,(w.alloc (.deferred (some []))).alloc (.loop (rec .ready none))=W1:=⟨_,rfl⟩
  have hs1:Sat W0 ([(l,.loop (rec .ready none))]::[(w.heap.size,.deferred (some []))]::H) W1:=by
    have h1:Sat W0 ([((w.alloc (.deferred (some []))).heap.size,.loop (rec .ready none))]::[(w.heap.size,.deferred (some []))]::H) W1:=hs0.new (by rw [← hW1]; rfl) (by rw [← hW1]; rfl) (by rw [← hW1]; rfl) (by rw [← hW1]; rfl)
    rwa [show (w.alloc (.deferred (some []))).heap.size=l by rw [World.size_alloc,hl]] at h1
  have hsz:W1.heap.size=w.heap.size+2:=by rw [← hW1]; simp
  have hbel:Below w.heap.size w W1:=by rw [← hW1]; exact ((Below.refl _ w).alloc (Nat.le_refl _) _).alloc (by simp) _
  have hlow:∀ {H':List Grp} {D:List Grp},Calm0 H H'→(∀ p,p∈D.flatten→p.1<w.heap.size+2)→∀ {W:World} {r:Nat},Sat W0 (D++H') W→w.heap.size+2≤r→(∃ o:Obj,W.heap[r]? = some o∧o.isWalk=true) →
      ∀ p,p∈(D++H').flatten→p.1≠r:=by
    intro H' D hc hD W r hS hr ⟨o,ho,hw⟩ p hp e
    have hp':=hS.has p hp
    rw [List.flatten_append,List.mem_append] at hp
    rcases hp with hp | hp
    · have:=hD p hp; omega
    · rcases hc p hp with h | h
      · rw [e,ho] at hp'
        injection hp' with hp'
        rw [← hp',Obj.not_cells_of_walk hw] at h
        exact absurd h (by decide)
      · have:=hs.lt h; omega
  have hDD:∀ (x:Obj) (y:Obj) (p:Nat × Obj),p∈([[(l,x)],[(w.heap.size,y)]]:List Grp).flatten→p.1<w.heap.size+2:=by
    intro x y p hp
    simp at hp
    rcases hp with rfl | rfl <;> simp <;> omega
  have hbase:W0.heap.size≤w.heap.size:=hs.below.size
  refine ⟨l,[{ target:=.collected w.heap.size,args:=#[] }],W1,{ target:=.fn (.func gf) lb,args:=#[.func (.yield l) #[] #[]] },W1,gf,#[.func (.yield l) #[] #[]]++lb,W1,?_,?_,?_,?_,fun e=>(by cases e),?_⟩
  · rw [← hW1,hrec,hl]; exact run_enterLoop_outer _ _ _ _ _
  · simp only [resolve,ha.eval hg]
    simp [go_sem]
  · exact fun _ _=>trivial
  · simp [invoke,go_sem,eg]
  refine (hseq w hs l
    (fun pre W=>I pre∧Sat W0 ([(l,.loop (rec .ready none))]::[(w.heap.size,.deferred (some []))]::HI pre) W)
    (fun pre W=>∃ c H',X c pre H'∧Sat W0 ([(l,.loop (rec .done (some c)))]::[(w.heap.size,.deferred (some []))]::H') W)
    W1 hbel ?_ ?_ ?_ ⟨hI0,by rw [h0]; exact hs1⟩).mono ?_
  · rintro s A B row ⟨hI,hS⟩ hgr hr
    exact ⟨hI,hS.grown hgr (fun r e=>⟨by have:=(hr r e).1; omega,hlow (D:=[_,_]) (hid s) (hDD _ _) hS (by have:=(hr r e).1; omega) (hr r e).2⟩)⟩
  · rintro s A B row ⟨c,H',hX,hS⟩ hgr hr
    exact ⟨c,H',hX,hS.grown hgr (fun r e=>⟨by have:=(hr r e).1; omega,hlow (D:=[_,_]) (hidx _ _ _ hX) (hDD _ _) hS (by have:=(hr r e).1; omega) (hr r e).2⟩)⟩
  · rintro pre x W ⟨hI,hS⟩ hlen
    have hlk:W.heap[l]? = some (.loop (rec .ready none)):=hS.has (l,_) (by simp)
    have hy:=run_yield (P:=P) (args:=encs x) hlk (by rw [hrec]; exact hps x)
    rw [hrec] at hy
    refine ⟨fn,_,assign,body,hy,roundIn_of_wpIn hfn ?_⟩
    have ha1:Ag n E { tmps:=a.tmps,defers:=[] }:=by
      obtain ⟨h1,h2,h3⟩:=ha
      exact ⟨(ds_none hz).symm,h2,h3⟩
    have ha2:=Ag.puts (ps.zip (encs x)).toList ha1 (fun p hp=>hpn p.1 (by
      rw [Array.toList_zip] at hp
      have:=(List.of_mem_zip (a:=p.1) (b:=p.2) hp).1
      simpa using this))
    rw [Array.foldl_toList] at ha2
    refine wpIn_mono (hassign l _ _ pre x hI _ W ha2 hS) ?_
    rintro e a1 W2 ⟨rfl,y,ha3,hS2⟩
    have hlk2:W2.heap[l]? = some (.loop (rec .ready none)):=hS2.has (l,_) (by simp)
    refine ⟨_,run_beginRound hlk2 (by rw [hrec]),?_⟩
    refine wpIn_mono (hbody l _ _ pre x y hlen hI a1 _ ha3 (hS2.put0 (.loop { rec .ready none with state:=.busy }))) ?_
    have fin:∀ (jump:Option Code) (W3:World) (H3:List Grp),Sat W0 ([(l,.loop { rec .ready none with state:=.busy })]::[(w.heap.size,.deferred (some []))]::H3) W3 →
        (Instr.endRound l jump).run P W3=.ok (.bool jump.isNone) (W3.putObj l (.loop (rec (if jump.isNone then .ready else .done) jump))):=fun jump W3 H3 h3=>by
      have hl3:W3.heap[l]? = some (.loop { rec .ready none with state:=.busy }):=h3.has (l,.loop { rec .ready none with state:=.busy }) (by simp)
      have:=run_endRound (P:=P) jump hl3
      rw [hrec] at this ⊢
      exact this
    rintro e a3 W3 hp
    cases e with
    | normal =>
      obtain ⟨hI3,hp⟩:=hp
      refine ⟨_,_,fin none W3 _ hp,.inl ⟨rfl,⟨hI3,hp.put0 _⟩,?_⟩⟩
      have h5:Sat W0 ([(l,.loop (rec .ready none))]::[(w.heap.size,.deferred (some []))]::HI (pre++[x])) _:=hp.put0 (.loop (rec .ready none))
      exact ⟨fun p hpK hpW=>h5.has p (by simp only [List.flatten_cons,List.mem_append]; exact .inr (.inr (hKI _ p hpK))),fun b o hb ho=>(h5.below.block b hb).trans ho⟩
    | ret =>
      obtain ⟨H',hX,hS3⟩:=hp
      exact ⟨_,_,fin (some .ret) W3 _ hS3,.inr ⟨rfl,.ret,H',hX,hS3.put0 _⟩⟩
    | exit id =>
      obtain ⟨H',hX,hS3⟩:=hp
      exact ⟨_,_,fin (some (.exit id)) W3 _ hS3,.inr ⟨rfl,.exit id,H',hX,hS3.put0 _⟩⟩
    | goto t=>exact hp.elim
    | panic ch=>exact hp.elim
    | outgrown=>exact hp.elim
  · have hA:Ag ⟨n.k,mkD w.heap.size⟩ E { a with defers:=[{ target:=.collected w.heap.size,args:=#[] }]++a.defers }:=by
      obtain ⟨h1,h2,h3⟩:=ha
      exact ⟨by rw [h1,ds_none hz]; rfl,h2,h3⟩
    rintro e W2 ⟨⟨v,rfl⟩,(⟨xs,hS,hI3,hi⟩ | ⟨pre,hSp,c,H',hX,hi⟩)⟩
    · have hlk:=hi.has (l,.loop (rec .ready none)) (by simp)
      refine ⟨none,_,by have:=run_endLoop (P:=P) hlk (by rw [hrec]; simp); rw [hrec] at this; exact this,?_⟩
      have h6:=(hi.put0 (.loop { rec .ready none with state:=.exhausted })).tail
      rw [hrec] at h6
      exact hdone _ xs hS hI3 _ _ hA h6
    · have hlk:=hi.has (l,.loop (rec .done (some c))) (by simp)
      refine ⟨some c,_,by have:=run_endLoop (P:=P) hlk (by rw [hrec]; simp); rw [hrec] at this; exact this,?_⟩
      have h6:=(hi.put0 (.loop { rec .done (some c) with state:=.exhausted })).tail
      rw [hrec] at h6
      exact (wpIn_wide (n:=9)).2 (hstop _ c pre H' hSp hX _ _ hA h6)
end Go.Sw
namespace Go.Proofs.YtppgfiklmfoaeaaGreatDoor
open Go.Sw Go.RowKit Go.Shelf Go.Json
attribute [local go_sem] Oper.semAt_some
def downF {m:Nat} (k:Nat):List (Fin m):=((List.finRange m).reverse).take k
theorem downF_len {m:Nat} (k:Nat) (hk:k≤m):(downF (m:=m) k).length=k:=by simp [downF]; omega
theorem Q5 {m:Nat} (k:Nat) (hk:k<m):downF (m:=m) (k+1)=downF k++[⟨m - 1 - k,by omega⟩]:=by
  unfold downF
  rw [List.take_add_one]
  congr 1
  rw [List.getElem?_eq_getElem (by simpa using hk)]
  simp
set_option maxRecDepth 100000 in
set_option maxHeartbeats 2000000 in
theorem backw_in (kb:Nat) (a:Option Addr) (b off m cap:Nat) (hm:m≤1000000000) (hcap:m≤cap) (el:Nat→Value × Value × Value × Value) (l:Nat) (J Jx:List (Fin m)→World→Prop)
    (hJk:∀ pre W,J pre W→W.heap[kb]? = some (.cells #[.slice a m cap] 26)∧∀ i,i<m→a=some ⟨b,off,none⟩∧W.cell? ⟨b,off+i * 4,none⟩=some (el i).1∧W.cell? ⟨b,off+i * 4+1,none⟩=some (el i).2.1∧W.cell? ⟨b,off+i * 4+2,none⟩=some (el i).2.2.1∧W.cell? ⟨b,off+i * 4+3,none⟩=some (el i).2.2.2)
    (hY:∀ pre x W,J pre W→pre.length<m→YieldAt Fence.wide 7 Tryz.prog l #[.int .i64 (x.1:Int),.agg #[(el x.1).1,(el x.1).2.1,(el x.1).2.2.1,(el x.1).2.2.2]] W fun e W' =>
      (e=.returned (.bool true)∧J (pre++[x]) W')∨(e=.returned (.bool false)∧Jx (pre++[x]) W'))
    (W:World) (h0:J [] W) :
    CallsIn Fence.wide 8 Tryz.prog 95 #[.func (.yield l) #[] #[],.pointer (some ⟨kb,0,none⟩)] W fun e W'=>(∃ v,e=.returned v) ∧
      ((∃ ys,ys=downF m∧J ys W')∨(∃ pre,(∃ k,k≤m∧pre=downF k)∧Jx pre W')):=by
  have hc0:=(hJk _ _ h0).1
  have hcx0:W.cell? ⟨kb,0,none⟩=some (.slice a m cap):=by unfold World.cell?; rw [hc0]; rfl
  refine callsIn_of_wp Tryz.func95 rfl trivial ?_ rfl
  simp only [Tryz.ntmps95,List.size_toArray,List.length_cons,List.length_nil,Nat.reduceAdd,Nat.reduceSub,Array.replicate_succ,Array.replicate_zero,List.push_toArray,List.append_toArray,List.nil_append,List.cons_append]
  gi_wp2
  gi_loopw [3] (fun i wr=>∃ (k:Nat),k≤m∧i=.int .i64 ((m:Int) - 1 - (k:Int))∧J (downF k) wr)
    (fun i _=>(intOf i+1).toNat)
  case atStart=>exact ⟨0,Nat.zero_le _,by simp,by simpa [downF] using h0⟩
  case round =>
    obtain ⟨k,hk,rfl,hJs⟩:=hrel
    obtain ⟨hc1,hel⟩:=hJk _ _ hJs
    have hcx:wr.cell? ⟨kb,0,none⟩=some (.slice a m cap):=by unfold World.cell?; rw [hc1]; rfl
    by_cases hlt:k<m
    · obtain ⟨rfl,e0,e1,e2,e3⟩:=hel (m - 1 - k) (by omega)
      obtain ⟨fn,tmps,assign,body,hy,hR⟩:=hY _ ⟨m - 1 - k,by omega⟩ wr hJs (by rw [downF_len _ hk]; exact hlt)
      dsimp only at hy
      rw [show ((m - 1 - k:Nat):Int)=(m:Int) - 1 - (k:Int) by omega] at hy
      gi_wp2
      refine hR.mono ?_
      rintro e W3 (⟨rfl,hJ3⟩ | ⟨rfl,hJx3⟩)
      · gi_wp2
        go_roundw
        case rel=>exact ⟨k+1,hlt,by rw [Int.natCast_add]; congr 1; omega,by rw [Q5 k hlt]; exact hJ3⟩
        case measure=>simp [intOf]; omega
      · gi_wp2
        refine bodyPost_ret (results_none rfl _ _ _) rfl ?_
        exact ⟨⟨_,rfl⟩,.inr ⟨_,⟨k+1,hlt,(Q5 k hlt).symm⟩,hJx3⟩⟩
    · obtain rfl:k=m:=by omega
      gi_wp2
      go_end0
      exact ⟨⟨_,rfl⟩,.inl ⟨_,rfl,hJs⟩⟩
def elC (cs:List Value) (i:Nat):Value × Value × Value × Value:=(cs.getD (i * 4) undef,cs.getD (i * 4+1) undef,cs.getD (i * 4+2) undef,cs.getD (i * 4+3) undef)
theorem backw_stops (kb:Nat) (a:Option Addr) (m cap:Nat) (hm:m≤1000000000) (hcap:m≤cap) (cs:List Value) (S:Nat→Obj→Prop) (hrd:Rd S a cs) (hlen:m * 4≤cs.length) (W0:World) (H:List Grp) (hS:∀ y o,S y o→At W0 H y o)
    (hk:(kb,Obj.cells #[.slice a m cap] 26 (0,0))∈H.flatten) (w:World) (hs:Sat W0 H w) :
    SeqStopsK Fence.wide 8 Tryz.prog 95 #[.pointer (some ⟨kb,0,none⟩)] (fun x:Fin m=>#[.int .i64 (x.1:Int),.agg #[(elC cs x.1).1,(elC cs x.1).2.1,(elC cs x.1).2.2.1,(elC cs x.1).2.2.2]])
      (KeepB W0 H) (fun xs=>xs=downF m) (fun pre=>∃ k,k≤m∧pre=downF k) m w:=by
  intro l J Jx W hW hJ hJx hY h0
  have at_:∀ y o,At W0 H y o→W.heap[y]? = some o:=by
    intro y o h
    rcases h with ⟨h1,h2⟩ | h
    · have h3:w.heap[y]? = some o:=(hs.below.block y h1).trans h2
      exact (hW.block y (Array.getElem?_eq_some_iff.1 h3).1).trans h3
    · have h3:=hs.has _ h
      exact (hW.block y (Array.getElem?_eq_some_iff.1 h3).1).trans h3
  have keep:∀ W1 W2:World,KeepB W0 H W1 W2→(∀ y o,At W0 H y o→W1.heap[y]? = some o)→∀ y o,At W0 H y o→W2.heap[y]? = some o:=by
    rintro W1 W2 ⟨k1,k2⟩ h1 y o h
    rcases h with ⟨a1,a2⟩ | h
    · exact k2 y o a1 a2
    · exact k1 (y,o) h (h1 y o (.inr h))
  have hb:∃ b off,∀ W':World,(∀ y o,At W0 H y o→W'.heap[y]? = some o)→∀ i,i<m→a=some ⟨b,off,none⟩∧W'.cell? ⟨b,off+i * 4,none⟩=some (elC cs i).1∧W'.cell? ⟨b,off+i * 4+1,none⟩=some (elC cs i).2.1∧W'.cell? ⟨b,off+i * 4+2,none⟩=some (elC cs i).2.2.1∧W'.cell? ⟨b,off+i * 4+3,none⟩=some (elC cs i).2.2.2:=by
    rcases hrd with hn | ⟨b,off,c,t,z,rfl,h2,h3⟩
    · refine ⟨0,0,fun W' _ i hi=>?_⟩
      rw [hn,List.length_nil] at hlen; omega
    · refine ⟨b,off,fun W' hW' i hi=>?_⟩
      have h4:=hW' b _ (hS b _ h2)
      have cell:∀ j,j<m * 4→W'.cell? ⟨b,off+j,none⟩=some (cs.getD j undef):=by
        intro j hj
        have hjl:j<cs.length:=by omega
        have h5:=h3 j (cs.getD j undef) (by rw [List.getD_eq_getElem?_getD,List.getElem?_eq_getElem hjl]; rfl)
        unfold World.cell?; rw [show (⟨b,off+j,none⟩:Addr).block=b from rfl,h4]; exact h5
      exact ⟨rfl,cell _ (by omega),cell (i * 4+1) (by omega),cell (i * 4+2) (by omega),cell (i * 4+3) (by omega)⟩
  obtain ⟨b,off,hel⟩:=hb
  have hkey:=backw_in kb a b off m cap hm hcap (elC cs) l (fun pre W=>J pre W∧∀ y o,At W0 H y o→W.heap[y]? = some o) Jx
    (fun pre W h=>⟨h.2 kb _ (.inr hk),hel W h.2⟩)
    (fun pre x W h hlen=>by
      obtain ⟨fn,tmps,assign,body,h1,h2⟩:=hY pre x W h.1 hlen
      refine ⟨fn,tmps,assign,body,h1,h2.mono ?_⟩
      rintro e W' (⟨he,hJ',hK⟩ | hx)
      · exact .inl ⟨he,hJ',keep W W' hK h.2⟩
      · exact .inr hx)
    W ⟨h0,at_⟩
  refine hkey.mono ?_
  rintro e W' ⟨h1,h2 | h2⟩
  · obtain ⟨ys,e1,e2,_⟩:=h2
    exact ⟨h1,.inl ⟨ys,e1,e2⟩⟩
  · exact ⟨h1,.inr h2⟩
end Go.Proofs.YtppgfiklmfoaeaaGreatDoor
namespace Go.Proofs.YtppgfiklmfoaeaaGreatDoor
open Go.Sw Go.Sha Go.Esc Go.RowKit Go.Json
theorem getM_down {name:List UInt8} {ns:List (List UInt8)} {l:List JV} {m:Nat} (hm:m≤ns.length) (hl:m≤l.length):∀ (k:Nat),k≤m→(∀ q:Fin m,q∈downF (m:=m) k→ns.getD q.1 []≠name)→getM name (ns.take m) (l.take m)=getM name (ns.take (m - k)) (l.take (m - k))
  | 0,_,_=>rfl
  | k+1,hk,h=>by
    rw [getM_down hm hl k (by omega) (fun q hq=>h q (by rw [Q5 k hk]; exact List.mem_append_left _ hq))]
    have h1:=h ⟨m - 1 - k,by omega⟩ (by rw [Q5 k hk]; exact List.mem_append_right _ (List.mem_singleton.2 rfl))
    rw [show m - k=m - 1 - k+1 by omega,getM_step name (show m - 1 - k<ns.length by omega) (show m - 1 - k<l.length by omega),if_neg,show m - (k+1)=m - 1 - k by omega]
    have h2:m - 1 - k<ns.length:=by omega
    simpa [List.getD,h2] using h1
theorem getP_no {x:JV} (h:x.kind≠6) (name:List UInt8):getP x name=none:=by unfold getP; rw [if_neg h]
theorem getP_all {x:JV} (h:x.kind=6) (name:List UInt8) {m:Nat} (hm:m=min x.list.length x.names.length):getP x name=getM name (x.names.take m) (x.list.take m):=by
  unfold getP; rw [if_pos h,getM_take name x.names x.list,hm,Nat.min_comm]
theorem getP_none {x:JV} (h:x.kind=6) {name:List UInt8} {m:Nat} (hm:m=min x.list.length x.names.length) (hn:∀ q:Fin m,q∈downF (m:=m) m→x.names.getD q.1 []≠name):getP x name=none:=by
  rw [getP_all h name hm,getM_down (by omega) (by omega) m (Nat.le_refl _) hn,Nat.sub_self]; rfl
theorem getP_some {x:JV} (h:x.kind=6) {name:List UInt8} {m:Nat} (hm:m=min x.list.length x.names.length) {pre pre0:List (Fin m)} {z:Fin m} {k:Nat} (hk:k≤m) (hp:pre=downF k) (h0:pre=pre0++[z]) (hn:∀ q∈pre0,x.names.getD q.1 []≠name) (hz:x.names.getD z.1 []=name) (hlt:z.1<x.list.length):getP x name=some x.list[z.1]:=by
  have hz0:=z.2
  cases k with
  | zero =>
    have:=congrArg List.length (hp.symm.trans h0)
    rw [downF_len _ hk] at this; simp at this
  | succ j =>
    rw [hp,Q5 j hk] at h0
    obtain ⟨e1,e2⟩:=List.append_inj h0 (by
      have:=congrArg List.length h0
      simpa using this)
    injection e2 with e2 _
    have e3:z.1=m - 1 - j:=by rw [← e2]
    rw [getP_all h name hm,getM_down (by omega) (by omega) j (by omega) (fun q hq=>hn q (by rw [← e1]; exact hq)),show m - j=z.1+1 by omega,getM_step name (show z.1<x.names.length by omega) hlt,if_pos]
    have h2:z.1<x.names.length:=by omega
    simpa [List.getD,h2] using hz
theorem cutA_zero (a:Option Addr) (cap sz:Nat):cutA a cap 0 sz=a:=by
  unfold cutA
  split
  · rfl
  · cases a with
    | none=>rfl
    | some a=>simp [Addr.add]
theorem elC_take {cs:List Value} {i:Nat} {a b c d:Value} (h:(cs.drop (i * 4)).take 4=[a,b,c,d]):elC cs i=(a,b,c,d):=by
  have h2:=elt4 h
  have g:∀ m (hm:m<4),cs.getD (i * 4+m) undef=[a,b,c,d].getD m undef:=by
    intro m hm
    have:=h2 m hm
    rw [List.getD_eq_getElem?_getD,this,List.getD_eq_getElem?_getD,List.getElem?_eq_getElem hm]
  have g0:=g 0 (by decide)
  have g1:=g 1 (by decide)
  have g2:=g 2 (by decide)
  have g3:=g 3 (by decide)
  unfold elC
  rw [Nat.add_zero] at g0
  rw [g0,g1,g2,g3]; rfl
theorem backward_ (a:Option Addr) (n c:Nat) (W0:World) (H:List Grp):Tri Tryz.prog 57 #[.slice a n c] W0 H (fun v H'=>∃ kb,v=.func (.func 95) #[] #[pt kb]∧H'=[(kb,.cells #[.slice a n c] 26 (0,0))]::H):=by
 refine C5 (args:=[.slice a n c]) (n:=4) Tryz.func57 rfl rfl (Nat.le_of_ble_eq_true rfl) ?_
 refine A1 (A2 ?_)
 refine K7 (ch:=[]) (v:=.slice a n c) (k:=(fun b1=>?_))
 refine B2 (E':=[⟨1,[],pt b1⟩]) [0] [1] (k:=A0 ?_)
 refine A1 (B7 (E':=[⟨2,[],.func (.func 95) #[] #[pt b1]⟩]) [0,0] [2] (k:=?_))
 refine A0 (B4 ?_)
 refine B6 [.tmp 2] [.func (.func 95) #[] #[pt b1]] (k:=?_)
 exact ⟨b1,rfl,rfl⟩
theorem perm3 {α:Type} (a b c:α) (l:List α):(c::a::b::l).Perm (a::b::c::l):=((List.Perm.swap a c (b::l)).trans ((List.Perm.swap b c l).cons a))
theorem jrd_nul {S:Nat→Obj→Prop}:JRd S nul [.int .i64 0,.string (ByteArray.mk #[]),.slice none 0 0,.slice none 0 0]:=.mk (ns:=[]) (l:=[]) (.inl rfl) (.inl rfl) .nil
theorem jrd_mk {S:Nat→Obj→Prop} {y:JV} {an al:Option Addr} {cn cl:Nat} {cs:List Value} (h1:Rd S an (G4 y.names)) (h2:Rd S al cs) (h3:JRdL S y.list cs):JRd S y (jvC y an cn al cl):=by
  cases y; exact .mk h1 h2 h3
theorem jget_ (x:JV) (an:Option Addr) (cn:Nat) (al:Option Addr) (cl:Nat) (cs:List Value) (S:Nat→Obj→Prop) (hrn:Rd S an (G4 x.names)) (hrl:Rd S al cs) (hrc:JRdL S x.list cs) (hcl:x.list.length≤cl) (hcn:cnJ x≤1000000000) (name:List UInt8) (W0:World) (H:List Grp) (hS:∀ y o,S y o→At W0 H y o):Tri Tryz.prog 25 #[.agg #[.int .i64 x.kind,.string (bk x.text),.slice an x.names.length cn,.slice al x.list.length cl],.string (bk name)] W0 H (fun v H'=>∃ c0 c1 c2 c3,JRd S ((getP x name).getD nul) [c0,c1,c2,c3]∧v=.tuple #[.agg #[c0,c1,c2,c3],.bool (getP x name).isSome]∧H'=H):=by
  have hxl:=O0 x
  refine Tri_ofM (args:=[.agg #[.int .i64 x.kind,.string (bk x.text),.slice an x.names.length cn,.slice al x.list.length cl],.string (bk name)]) (n:=34) Tryz.func25 rfl rfl (Nat.le_of_ble_eq_true rfl) ?_
  refine A1 (A2 ?_)
  refine K7 (ch:=[]) (v:=.agg #[.int .i64 x.kind,.string (bk x.text),.slice an x.names.length cn,.slice al x.list.length cl]) (k:=(fun b1=>?_))
  refine K7 (ch:=[]) (v:=.string (bk name)) (k:=(fun b2=>?_))
  refine F0 (ch:=[]) (z:=.agg #[.int .i64 0,.string (ByteArray.mk #[]),.slice none 0 0,.slice none 0 0]) (k:=(fun b3=>?_))
  refine F0 (ch:=[]) (z:=.bool false) (k:=(fun b4=>?_))
  refine A9 [] [2,3,4,5] (k:=A0 ?_)
  refine A1 (A1 ?_)
  refine A2 (A4 (j:=1) [0] (k:=?_))
  refine A6 (ch:=[]) (b:=b1) (off:=0) (v:=.int .i64 x.kind) (hA:=At.grp 3 0 rfl rfl) (k:=A9 [0] [2,3,4,5,10] (k:=?_))
  refine A0 (B0 (b:=x.kind != 6) kr (fun hc5=>?_) (fun hc5=>?_))
  ·
    simp only [bne_iff_ne,ne_eq] at hc5
    have hG:=getP_no hc5 name
    refine A1 (A2 ?_)
    refine A4 (j:=1) [0] (k:=D2 (ch:=[]) (b:=b3) (off:=0) (v:=.agg #[.int .i64 0,.string (ByteArray.mk #[]),.slice none 0 0,.slice none 0 0]) (j:=1) ([(b4,.cells #[.bool false] 4 (0,0))]::[(b3,.cells #[.int .i64 0,.string (ByteArray.mk #[]),.slice none 0 0,.slice none 0 0] 28 (0,0))]::[(b2,.cells #[.string (bk name)] 9 (0,0))]::[(b1,.cells #[.int .i64 x.kind,.string (bk x.text),.slice an x.names.length cn,.slice al x.list.length cl] 28 (0,0))]::H) (hoff:=Nat.le_of_ble_eq_true rfl) (hfz:=(fun _ _=>C6)) (k:=?_))
    refine D2 (ch:=[]) (b:=b4) (off:=0) (v:=.bool false) (j:=0) ([(b4,.cells #[.bool false] 4 (0,0))]::[(b3,.cells #[.int .i64 0,.string (ByteArray.mk #[]),.slice none 0 0,.slice none 0 0] 28 (0,0))]::[(b2,.cells #[.string (bk name)] 9 (0,0))]::[(b1,.cells #[.int .i64 x.kind,.string (bk x.text),.slice an x.names.length cn,.slice al x.list.length cl] 28 (0,0))]::H) (hoff:=Nat.le_of_ble_eq_true rfl) (hfz:=(fun _ _=>C6)) (k:=B2 (E':=[⟨4,[],pt b3⟩,⟨5,[],pt b4⟩]) [] [4,5] (k:=?_))
    refine A0 (B4 ?_)
    refine A3 (N_retM0 [.cell 4 28,.cell 5 4] [.agg #[.int .i64 0,.string (ByteArray.mk #[]),.slice none 0 0,.slice none 0 0],.bool false] rfl (.cons (.agg (b:=b3) (off:=0) (l:=[.int .i64 0,.string (ByteArray.mk #[]),.slice none 0 0,.slice none 0 0]) kr kr kr (At.grp 1 0 rfl rfl) kr) (.cons (.one (b:=b4) (off:=0) kr kr (At.grp 0 0 rfl rfl) rfl) (.nil))) rfl ⟨H,?_,fun w h=>((((h.erase 0).erase 0).erase 0).erase 0)⟩)
    rw [hG]; exact ⟨_,_,_,_,jrd_nul,rfl,rfl⟩
  ·
    simp only [bne_eq_false_iff_eq] at hc5
    have hk6:x.kind=6:=hc5
    obtain ⟨m,hm⟩:∃ m,m=min x.list.length x.names.length:=⟨_,rfl⟩
    refine A8 (A0 ?_)
    refine A1 (A1 ?_)
    refine A2 (A4 (j:=1) [0] (k:=?_))
    refine A6 (ch:=[]) (b:=b1) (off:=3) (v:=.slice al x.list.length cl) (hA:=At.grp 3 0 rfl rfl) (k:=A4 (j:=3) [0] (k:=?_))
    refine A6 (ch:=[]) (b:=b1) (off:=3) (v:=.slice al x.list.length cl) (hA:=At.grp 3 0 rfl rfl) (k:=A4 (j:=6) [0,0] (k:=?_))
    refine A6 (ch:=[]) (b:=b1) (off:=2) (v:=.slice an x.names.length cn) (hA:=At.grp 3 0 rfl rfl) (k:=B5 (E':=[⟨20,[],.int .i64 (if ((x.names.length:Nat):Int)<((x.list.length:Nat):Int) then ((x.names.length:Nat):Int) else ((x.list.length:Nat):Int))⟩,⟨13,[],.slice al x.list.length cl⟩,⟨2,[],pt b1⟩,⟨3,[],pt b2⟩,⟨4,[],pt b3⟩,⟨5,[],pt b4⟩]) [0,0] kr (j:=9) rfl ?_)
    refine B8 (E':=[⟨20,[],.int .i64 ((m:Nat):Int)⟩,⟨13,[],.slice al x.list.length cl⟩,⟨2,[],pt b1⟩,⟨3,[],pt b2⟩,⟨4,[],pt b3⟩,⟨5,[],pt b4⟩]) (by rw [show (if ((x.names.length:Nat):Int)<((x.list.length:Nat):Int) then ((x.names.length:Nat):Int) else ((x.list.length:Nat):Int))=((m:Nat):Int) by (split <;> omega)]) (GL_sliceL (i:=9) (ch:=[]) (a:=al) (len:=x.list.length) (cap:=cl) (e:=28) (sz:=4) (vl:=none) (vh:=(some (.int .i64 ((m:Nat):Int)))) (l:=0) (h:=((m:Nat):Int)) rfl rfl kr kr kr kr kr kr kr kr kr kr (by intro _; exact ⟨by omega,by omega,by omega⟩) ?_)
    refine B8 (E':=[⟨21,[],.slice al m cl⟩,⟨20,[],.int .i64 ((m:Nat):Int)⟩,⟨13,[],.slice al x.list.length cl⟩,⟨2,[],pt b1⟩,⟨3,[],pt b2⟩,⟨4,[],pt b3⟩,⟨5,[],pt b4⟩]) (by have hz:([⟨21,[],.slice (cutA al cl 0 4) (m - 0) (cl - 0)⟩,⟨20,[],.int .i64 ((m:Nat):Int)⟩,⟨13,[],.slice al x.list.length cl⟩,⟨2,[],pt b1⟩,⟨3,[],pt b2⟩,⟨4,[],pt b3⟩,⟨5,[],pt b4⟩]:List Sl)=[⟨21,[],.slice al m cl⟩,⟨20,[],.int .i64 ((m:Nat):Int)⟩,⟨13,[],.slice al x.list.length cl⟩,⟨2,[],pt b1⟩,⟨3,[],pt b2⟩,⟨4,[],pt b3⟩,⟨5,[],pt b4⟩]:=(by rw [cutA_zero]; rfl); exact Eq.trans kr hz) (D5 Tryz.func57 (backward_ al m cl _ _) ?_)
    rintro _ _ ⟨kb6,rfl,rfl⟩
    refine A9 [] [2,3,4,5,22] (k:=A0 ?_)
    refine B9 (G_env (E':=[⟨2,[],pt b1⟩,⟨3,[],pt b2⟩,⟨4,[],pt b3⟩,⟨5,[],pt b4⟩,⟨22,[],.func (.func 95) #[] #[pt kb6]⟩]) kr ?_)
    have hHm:((kb6,Obj.cells #[.slice al m cl] 26 (0,0)):Nat × Obj)∈(([(kb6,.cells #[.slice al m cl] 26 (0,0))]::[(b4,.cells #[.bool false] 4 (0,0))]::[(b3,.cells #[.int .i64 0,.string (ByteArray.mk #[]),.slice none 0 0,.slice none 0 0] 28 (0,0))]::[(b2,.cells #[.string (bk name)] 9 (0,0))]::[(b1,.cells #[.int .i64 x.kind,.string (bk x.text),.slice an x.names.length cn,.slice al x.list.length cl] 28 (0,0))]::H):List Grp).flatten:=List.mem_flatten.2 ⟨_,List.mem_of_getElem? (i:=0) rfl,List.mem_singleton.2 rfl⟩
    refine G_rangeFunc2 (α:=Fin m) (β:=Nat) (gf:=95) (lb:=#[pt kb6]) (encs:=fun z:Fin m=>#[.int .i64 (z.1:Int),.agg #[(elC cs z.1).1,(elC cs z.1).2.1,(elC cs z.1).2.2.1,(elC cs z.1).2.2.2]]) (S:=fun xs=>xs=downF m) (Sp:=fun pre=>∃ k,k≤m∧pre=downF k) (N0:=m) rfl kr (enters_of Tryz.func95 kr rfl) ([(kb6,.cells #[.slice al m cl] 26 (0,0))]::[(b4,.cells #[.bool false] 4 (0,0))]::[(b3,.cells #[.int .i64 0,.string (ByteArray.mk #[]),.slice none 0 0,.slice none 0 0] 28 (0,0))]::[(b2,.cells #[.string (bk name)] 9 (0,0))]::[(b1,.cells #[.int .i64 x.kind,.string (bk x.text),.slice an x.names.length cn,.slice al x.list.length cl] 28 (0,0))]::H) (fun _ hp=>hp) (fun w hs=>backw_stops kb6 al m cl (by omega) (by omega) cs S hrl (by rw [hrc.len]; omega) W0 ([(kb6,.cells #[.slice al m cl] 26 (0,0))]::[(b4,.cells #[.bool false] 4 (0,0))]::[(b3,.cells #[.int .i64 0,.string (ByteArray.mk #[]),.slice none 0 0,.slice none 0 0] 28 (0,0))]::[(b2,.cells #[.string (bk name)] 9 (0,0))]::[(b1,.cells #[.int .i64 x.kind,.string (bk x.text),.slice an x.names.length cn,.slice al x.list.length cl] 28 (0,0))]::H) (fun y o h=>At.cons (At.cons (At.cons (At.cons (At.cons (hS y o h)))))) hHm w hs) (fun _=>([(kb6,.cells #[.slice al m cl] 26 (0,0))]::[(b4,.cells #[.bool false] 4 (0,0))]::[(b3,.cells #[.int .i64 0,.string (ByteArray.mk #[]),.slice none 0 0,.slice none 0 0] 28 (0,0))]::[(b2,.cells #[.string (bk name)] 9 (0,0))]::[(b1,.cells #[.int .i64 x.kind,.string (bk x.text),.slice an x.names.length cn,.slice al x.list.length cl] 28 (0,0))]::H)) (fun c pre H'=>c=.ret∧∃ pre0 z,pre=pre0++[z]∧(fun pre:List (Fin m)=>∀ q∈pre,x.names.getD q.1 []≠name) pre0∧x.names.getD z.1 []=name∧H'=([(kb6,.cells #[.slice al m cl] 26 (0,0))]::[(b4,.cells #[.bool true] 4 (0,0))]::[(b3,.cells #[(elC cs z.1).1,(elC cs z.1).2.1,(elC cs z.1).2.2.1,(elC cs z.1).2.2.2] 28 (0,0))]::[(b2,.cells #[.string (bk name)] 9 (0,0))]::[(b1,.cells #[.int .i64 x.kind,.string (bk x.text),.slice an x.names.length cn,.slice al x.list.length cl] 28 (0,0))]::H)) rfl (fun pre:List (Fin m)=>∀ q∈pre,x.names.getD q.1 []≠name) (fun q hq=>by cases hq) (fun _ _ hp=>hp) (fun _ _ hp=>.inr hp) ?_ (fun _=>rfl) (fun t ht=>by rcases (by simpa using ht:t=23∨t=24) with rfl | rfl <;> exact Nat.le_of_ble_eq_true rfl) (fun z y7=>[⟨2,[],pt b1⟩,⟨3,[],pt b2⟩,⟨4,[],pt b3⟩,⟨5,[],pt b4⟩,⟨6,[],.int .i64 (z.1:Int)⟩,⟨7,[],pt y7⟩]) (fun z y7 _=>([(y7,.cells #[(elC cs z.1).1,(elC cs z.1).2.1,(elC cs z.1).2.2.1,(elC cs z.1).2.2.2] 28 (0,0))]::([(kb6,.cells #[.slice al m cl] 26 (0,0))]::[(b4,.cells #[.bool false] 4 (0,0))]::[(b3,.cells #[.int .i64 0,.string (ByteArray.mk #[]),.slice none 0 0,.slice none 0 0] 28 (0,0))]::[(b2,.cells #[.string (bk name)] 9 (0,0))]::[(b1,.cells #[.int .i64 x.kind,.string (bk x.text),.slice an x.names.length cn,.slice al x.list.length cl] 28 (0,0))]::H))) ?_ ?_ ?_ ?_
    ·
      rintro c xs H' ⟨_,pre0,z,_,_,_,rfl⟩ p hp
      simp only [List.flatten_cons,List.mem_append,List.mem_singleton] at hp
      rcases hp with rfl | rfl | rfl | rfl | rfl | hp
      · exact .inl rfl
      · exact .inl rfl
      · exact .inl rfl
      · exact .inl rfl
      · exact .inl rfl
      · exact .inr (by simp only [List.flatten_cons,List.mem_append]; exact .inr (.inr (.inr (.inr (.inr (hp))))))
    ·
      intro r L D pre z hI
      have hzm9:z.1<x.list.length:=by have:=z.2; omega
      obtain ⟨y9,yan9,ycn9,yal9,ycl9,ycs9,hyx9,hye9,_,_,_⟩:=hrc.get hzm9
      have hE9:=elC_take hye9
      have h1c:((Value.agg #[(elC cs z.1).1,(elC cs z.1).2.1,(elC cs z.1).2.2.1,(elC cs z.1).2.2.2]).cells.toList.all Value.oneCell')=true:=by rw [hE9]; rfl
      refine GR_seq (GR_region rfl (fun _ _ h=>by cases h.1) ?_)
      refine B2 (E':=[⟨2,[],pt b1⟩,⟨3,[],pt b2⟩,⟨4,[],pt b3⟩,⟨5,[],pt b4⟩,⟨6,[],.int .i64 (z.1:Int)⟩,⟨24,[],(.agg #[(elC cs z.1).1,(elC cs z.1).2.1,(elC cs z.1).2.2.1,(elC cs z.1).2.2.2])⟩]) [0] [2,3,4,5,6,24] (k:=NR_then ?_)
      refine GR_region rfl (fun _ _ h=>by cases h.1) (F0 (ch:=[]) (z:=.agg #[.int .i64 0,.string (ByteArray.mk #[]),.slice none 0 0,.slice none 0 0]) (k:=(fun y7=>?_)))
      refine M3 (ch:=[]) (b:=y7) (off:=0) (v:=.agg #[(elC cs z.1).1,(elC cs z.1).2.1,(elC cs z.1).2.2.1,(elC cs z.1).2.2.2]) (c:=#[.int .i64 0,.string (ByteArray.mk #[]),.slice none 0 0,.slice none 0 0]) (c':=#[(elC cs z.1).1,(elC cs z.1).2.1,(elC cs z.1).2.2.1,(elC cs z.1).2.2.2]) (j:=0) (m:=0) (H':=([(y7,.cells #[(elC cs z.1).1,(elC cs z.1).2.1,(elC cs z.1).2.2.1,(elC cs z.1).2.2.2] 28 (0,0))]::L::D::[(kb6,.cells #[.slice al m cl] 26 (0,0))]::[(b4,.cells #[.bool false] 4 (0,0))]::[(b3,.cells #[.int .i64 0,.string (ByteArray.mk #[]),.slice none 0 0,.slice none 0 0] 28 (0,0))]::[(b2,.cells #[.string (bk name)] 9 (0,0))]::[(b1,.cells #[.int .i64 x.kind,.string (bk x.text),.slice an x.names.length cn,.slice al x.list.length cl] 28 (0,0))]::H)) (h1:=h1c) (hoff:=Nat.le_of_ble_eq_true rfl) (hfz:=(fun _ _=>C6)) (hc':=kr) (k:=A9 [] [2,3,4,5,6,7] (k:=?_))
      exact fun a w ha hs=>⟨rfl,y7,ha,hs.perm (by exact perm3 _ _ _ _)⟩
    ·
      intro r L D pre z y7 hlen hI
      have hzm:=z.2
      have hzn:z.1<x.names.length:=by omega
      have hzl:z.1<x.list.length:=by omega
      obtain ⟨nm,hnm⟩:∃ nm,nm=x.names[z.1]'hzn:=⟨_,rfl⟩
      have hnmD:x.names.getD z.1 []=nm:=by rw [hnm]; simp [List.getD,hzn]
      have hzm9:z.1<x.list.length:=by have:=z.2; omega
      obtain ⟨y9,yan9,ycn9,yal9,ycl9,ycs9,hyx9,hye9,_,_,_⟩:=hrc.get hzm9
      have hE9:=elC_take hye9
      have h1c:((Value.agg #[(elC cs z.1).1,(elC cs z.1).2.1,(elC cs z.1).2.2.1,(elC cs z.1).2.2.2]).cells.toList.all Value.oneCell')=true:=by rw [hE9]; rfl
      refine GR_block (GR_seq ?_)
      refine GR_regionD (by kernel_rfl) (by kernel_rfl) rfl (fun _ _ h=>h) (A4 (j:=1) [0] (k:=?_))
      refine A6 (ch:=[]) (b:=b1) (off:=2) (v:=.slice an x.names.length cn) (hA:=At.grp 7 0 rfl rfl) (k:=A4 (j:=3) [0] (k:=?_))
      refine F2 (ch:=[]) (a:=an) (len:=x.names.length) (cap:=cn) (kd:=.i64) (j:=(z.1:Int)) (e:=9) (sz:=1) (S:=S) (cs:=(G4 x.names)) (hrd:=hrn) (hb:=(fun _=>by exact ⟨by omega,by omega,strV_ne hzn⟩)) (k:=M4 (ch:=[]) (a:=an) (q:=(Int.toNat (z.1:Int)) * 1) (S:=S) (cs:=(G4 x.names)) (v:=.string (bk nm)) (hrd:=hrn) (hS:=(fun y o h=>(At.cons (At.cons (At.cons (At.cons (At.cons (At.cons (At.cons (At.cons (hS y o h))))))))))) (hv:=(fun _=>(strV_elt hzn hnm))) (k:=?_))
      refine A6 (ch:=[]) (b:=b2) (off:=0) (v:=.string (bk name)) (hA:=At.grp 6 0 rfl rfl) (k:=A9 [0] [2,3,4,5,6,7,31] (k:=?_))
      refine NR_then (GR_cond (b:=(bk nm).toList==(bk name).toList) (by kernel_rfl) (fun hc=>?_) (fun hc=>?_))
      ·
        have hz:x.names.getD z.1 []=name:=by rw [hnmD]; exact (eqB (bk nm) (bk name)).1 hc
        refine GR_seq (GR_region rfl (fun _ _ h=>h) ?_)
        refine E8 (ch:=[]) (b:=y7) (off:=0) (l:=[(elC cs z.1).1,(elC cs z.1).2.1,(elC cs z.1).2.2.1,(elC cs z.1).2.2.2]) (hA:=At.grp 2 0 rfl rfl) (k:=M3 (ch:=[]) (b:=b3) (off:=0) (v:=.agg #[(elC cs z.1).1,(elC cs z.1).2.1,(elC cs z.1).2.2.1,(elC cs z.1).2.2.2]) (c:=#[.int .i64 0,.string (ByteArray.mk #[]),.slice none 0 0,.slice none 0 0]) (c':=#[(elC cs z.1).1,(elC cs z.1).2.1,(elC cs z.1).2.2.1,(elC cs z.1).2.2.2]) (j:=5) (m:=0) (H':=(L::D::[(y7,.cells #[(elC cs z.1).1,(elC cs z.1).2.1,(elC cs z.1).2.2.1,(elC cs z.1).2.2.2] 28 (0,0))]::[(kb6,.cells #[.slice al m cl] 26 (0,0))]::[(b4,.cells #[.bool false] 4 (0,0))]::[(b3,.cells #[(elC cs z.1).1,(elC cs z.1).2.1,(elC cs z.1).2.2.1,(elC cs z.1).2.2.2] 28 (0,0))]::[(b2,.cells #[.string (bk name)] 9 (0,0))]::[(b1,.cells #[.int .i64 x.kind,.string (bk x.text),.slice an x.names.length cn,.slice al x.list.length cl] 28 (0,0))]::H)) (h1:=h1c) (hoff:=Nat.le_of_ble_eq_true rfl) (hfz:=(fun _ _=>C6)) (hc':=kr) (k:=?_))
        refine D2 (ch:=[]) (b:=b4) (off:=0) (v:=.bool true) (j:=4) (L::D::[(y7,.cells #[(elC cs z.1).1,(elC cs z.1).2.1,(elC cs z.1).2.2.1,(elC cs z.1).2.2.2] 28 (0,0))]::[(kb6,.cells #[.slice al m cl] 26 (0,0))]::[(b4,.cells #[.bool true] 4 (0,0))]::[(b3,.cells #[(elC cs z.1).1,(elC cs z.1).2.1,(elC cs z.1).2.2.1,(elC cs z.1).2.2.2] 28 (0,0))]::[(b2,.cells #[.string (bk name)] 9 (0,0))]::[(b1,.cells #[.int .i64 x.kind,.string (bk x.text),.slice an x.names.length cn,.slice al x.list.length cl] 28 (0,0))]::H) (hoff:=Nat.le_of_ble_eq_true rfl) (hfz:=(fun _ _=>C6)) (k:=B2 (E':=[]) [] [] (k:=?_))
        refine NR_then (GR_ret ?_)
        exact fun a w ha hs=>⟨_,⟨rfl,pre,z,rfl,hI,hz,rfl⟩,(hs.erase 2)⟩
      ·
        have hz:¬ x.names.getD z.1 []=name:=by rw [hnmD]; exact (eqBf (bk nm) (bk name)).1 hc
        refine GR_skip ?_
        exact fun a w ha hs=>⟨fun q hq=>by rcases List.mem_append.1 hq with hq | hq; exact hI q hq; rw [List.mem_singleton.1 hq]; exact hz,(hs.erase 2)⟩
    ·
      rintro D1 xs rfl hI
      have hG:getP x name=none:=getP_none hk6 hm hI
      refine C0 (A0 ?_)
      refine A1 (A2 ?_)
      refine A4 (j:=1) [0] (k:=D2 (ch:=[]) (b:=b3) (off:=0) (v:=.agg #[.int .i64 0,.string (ByteArray.mk #[]),.slice none 0 0,.slice none 0 0]) (j:=3) ([(D1,.deferred (some []))]::[(kb6,.cells #[.slice al m cl] 26 (0,0))]::[(b4,.cells #[.bool false] 4 (0,0))]::[(b3,.cells #[.int .i64 0,.string (ByteArray.mk #[]),.slice none 0 0,.slice none 0 0] 28 (0,0))]::[(b2,.cells #[.string (bk name)] 9 (0,0))]::[(b1,.cells #[.int .i64 x.kind,.string (bk x.text),.slice an x.names.length cn,.slice al x.list.length cl] 28 (0,0))]::H) (hoff:=Nat.le_of_ble_eq_true rfl) (hfz:=(fun _ _=>C6)) (k:=?_))
      refine D2 (ch:=[]) (b:=b4) (off:=0) (v:=.bool false) (j:=2) ([(D1,.deferred (some []))]::[(kb6,.cells #[.slice al m cl] 26 (0,0))]::[(b4,.cells #[.bool false] 4 (0,0))]::[(b3,.cells #[.int .i64 0,.string (ByteArray.mk #[]),.slice none 0 0,.slice none 0 0] 28 (0,0))]::[(b2,.cells #[.string (bk name)] 9 (0,0))]::[(b1,.cells #[.int .i64 x.kind,.string (bk x.text),.slice an x.names.length cn,.slice al x.list.length cl] 28 (0,0))]::H) (hoff:=Nat.le_of_ble_eq_true rfl) (hfz:=(fun _ _=>C6)) (k:=B2 (E':=[⟨4,[],pt b3⟩,⟨5,[],pt b4⟩]) [] [4,5] (k:=?_))
      refine A0 (B4 ?_)
      refine N_retM [.cell 4 28,.cell 5 4] [.agg #[.int .i64 0,.string (ByteArray.mk #[]),.slice none 0 0,.slice none 0 0],.bool false] rfl rfl (.cons (.agg (b:=b3) (off:=0) (l:=[.int .i64 0,.string (ByteArray.mk #[]),.slice none 0 0,.slice none 0 0]) kr kr kr (At.grp 2 0 rfl rfl) kr) (.cons (.one (b:=b4) (off:=0) kr kr (At.grp 1 0 rfl rfl) rfl) (.nil))) rfl ⟨H,?_,fun w h=>(((((h.erase 0).erase 0).erase 0).erase 0).erase 0)⟩
      rw [hG]; exact ⟨_,_,_,_,jrd_nul,rfl,rfl⟩
    ·
      rintro D1 c pre H' ⟨k,hk,hp⟩ ⟨rfl,pre0,z,h0,hI,hz,rfl⟩
      have hzm:=z.2
      have hzl:z.1<x.list.length:=by omega
      have hG:=getP_some hk6 hm hk hp h0 hI hz hzl
      obtain ⟨y,yan,ycn,yal,ycl,ycs,hyx,hye,hyn,hyl,hyc⟩:=hrc.get hzl
      have hE:=elC_take hye
      refine G_heap (H':=([(D1,.deferred (some []))]::[(kb6,.cells #[.slice al m cl] 26 (0,0))]::[(b4,.cells #[.bool true] 4 (0,0))]::[(b3,.cells #[.int .i64 y.kind,.string (bk y.text),.slice yan y.names.length ycn,.slice yal y.list.length ycl] 28 (0,0))]::[(b2,.cells #[.string (bk name)] 9 (0,0))]::[(b1,.cells #[.int .i64 x.kind,.string (bk x.text),.slice an x.names.length cn,.slice al x.list.length cl] 28 (0,0))]::H)) (fun w h=>by rw [hE] at h; exact h) (B4 ?_)
      refine A7 (A3 ?_)
      refine N_retM [.cell 4 28,.cell 5 4] [.agg #[.int .i64 y.kind,.string (bk y.text),.slice yan y.names.length ycn,.slice yal y.list.length ycl],.bool true] rfl rfl (.cons (.agg (b:=b3) (off:=0) (l:=[.int .i64 y.kind,.string (bk y.text),.slice yan y.names.length ycn,.slice yal y.list.length ycl]) kr kr kr (At.grp 2 0 rfl rfl) kr) (.cons (.one (b:=b4) (off:=0) kr kr (At.grp 1 0 rfl rfl) rfl) (.nil))) rfl ⟨H,?_,fun w h=>(((((h.erase 0).erase 0).erase 0).erase 0).erase 0)⟩
      rw [hG]; refine ⟨_,_,_,_,?_,rfl,rfl⟩; show JRd S x.list[z.1] _; rw [← hyx]; exact jrd_mk hyn hyl hyc
end Go.Proofs.YtppgfiklmfoaeaaGreatDoor
namespace Go.Json
open Go.Lib Go.Esc Go.Sw
section
variable {val : List UInt8 → PR} {obj : Bool} {ns ns2 : List (List UInt8)} {vs : List JV} {l l2 l3 l4 : List UInt8} {v : JV} {e : Int} {c : UInt8}
theorem memL_1 (hd:Dec val) (h:J6 obj ns l=none):memL val obj ns vs l=.error 70:=by rw [Q1 hd,h]
theorem memL_2 (hd:Dec val) (h:J6 obj ns l=some (ns2,l2)) (hw:val l2=.error e):memL val obj ns vs l=.error e:=by rw [Q1 hd,h]; dsimp only; rw [hw]
theorem memL_3 (hd:Dec val) (h:J6 obj ns l=some (ns2,l2)) (hw:val l2=.ok (v,l3)) (hb:blk l3=[]):memL val obj ns vs l=.error 70:=by rw [Q1 hd,h]; dsimp only; rw [hw]; dsimp only; rw [hb]
theorem memL_4 (hd:Dec val) (h:J6 obj ns l=some (ns2,l2)) (hw:val l2=.ok (v,l3)) (hb:blk l3=c::l4) (hc:c=P5 obj):memL val obj ns vs l=.ok (.mk (kindB obj) [] ns2 (vs++[v]),l4):=by
  rw [Q1 hd,h]; dsimp only; rw [hw]; dsimp only; rw [hb]; dsimp only; rw [if_pos hc]; rfl
theorem memL_5 (hd:Dec val) (h:J6 obj ns l=some (ns2,l2)) (hw:val l2=.ok (v,l3)) (hb:blk l3=c::l4) (hc:¬ c=P5 obj) (hc2:c=44):memL val obj ns vs l=memL val obj ns2 (vs++[v]) l4:=by
  rw [Q1 hd,h]; dsimp only; rw [hw]; dsimp only; rw [hb]; dsimp only; rw [if_neg hc,if_pos hc2]
theorem memL_6 (hd:Dec val) (h:J6 obj ns l=some (ns2,l2)) (hw:val l2=.ok (v,l3)) (hb:blk l3=c::l4) (hc:¬ c=P5 obj) (hc2:¬ c=44):memL val obj ns vs l=.error 70:=by
  rw [Q1 hd,h]; dsimp only; rw [hw]; dsimp only; rw [hb]; dsimp only; rw [if_neg hc,if_neg hc2]
end
theorem nameP_no1 {ns:List (List UInt8)} {l:List UInt8} (h:J3 (blk l)=none):J6 true ns l=none:=by unfold J6; simp only [if_true]; rw [h]; rfl
theorem nameP_no2 {ns:List (List UInt8)} {l x r:List UInt8} (h:J3 (blk l)=some (x,r)) (hc:(blk r).getD 0 0≠58):J6 true ns l=none:=by
  unfold J6
  simp only [if_true]
  rw [h,Option.bind_some]
  dsimp only
  cases hb:blk r with
  | nil=>rfl
  | cons c t=>rw [hb] at hc; dsimp only; rw [if_neg (show ¬ c=58 from hc)]
theorem nameP_yes {ns:List (List UInt8)} {l x r:List UInt8} (h:J3 (blk l)=some (x,r)) (hc:(blk r).getD 0 0=58):J6 true ns l=some (ns++[x],(blk r).drop 1):=by
  unfold J6
  simp only [if_true]
  rw [h,Option.bind_some]
  dsimp only
  cases hb:blk r with
  | nil=>rw [hb] at hc; exact absurd hc (by decide)
  | cons c t=>rw [hb] at hc; dsimp only; rw [if_pos (show c=58 from hc)]; rfl
theorem nameP_list (ns:List (List UInt8)) (l:List UInt8):J6 false ns l=some (ns,l):=by unfold J6; rfl
theorem valD_atom {lv:Nat} {l:List UInt8} (h:¬ M8 (blk l)):G1 lv l=K9 (blk l):=by
  have h:¬ ((blk l).getD 0 0=91∨(blk l).getD 0 0=123):=h
  cases lv with
  | zero=>unfold G1; dsimp only; rw [if_neg h]
  | succ n=>unfold G1; dsimp only; rw [if_neg h]
theorem valD_deep {l:List UInt8} (h:M8 (blk l)):G1 0 l=.error 71:=by unfold G1; dsimp only; rw [if_pos (show (blk l).getD 0 0=91∨(blk l).getD 0 0=123 from h)]
theorem valD_nil {n:Nat} (obj:Bool) {l:List UInt8} (h:(blk l).getD 0 0=if obj then 123 else 91) (he:(blk ((blk l).drop 1)).getD 0 0=P5 obj):G1 (n+1) l=.ok (.mk (kindB obj) [] [] [],(blk ((blk l).drop 1)).drop 1):=by
  unfold G1
  dsimp only
  cases obj with
  | false =>
    have h:(blk l).getD 0 0=91:=h
    rw [if_pos (.inl h),h]
    rw [show ((91:UInt8)==123)=false from rfl,if_pos he]; rfl
  | true =>
    have h:(blk l).getD 0 0=123:=h
    rw [if_pos (.inr h),h]
    rw [show ((123:UInt8)==123)=true from rfl,if_pos he]; rfl
theorem valD_many {n:Nat} (obj:Bool) {l:List UInt8} (h:(blk l).getD 0 0=if obj then 123 else 91) (he:¬ (blk ((blk l).drop 1)).getD 0 0=P5 obj):G1 (n+1) l=memL (G1 n) obj [] [] (blk ((blk l).drop 1)):=by
  conv=>lhs; unfold G1
  dsimp only
  cases obj with
  | false =>
    have h:(blk l).getD 0 0=91:=h
    rw [if_pos (.inl h),h]
    rw [show ((91:UInt8)==123)=false from rfl,if_neg he]; rfl
  | true =>
    have h:(blk l).getD 0 0=123:=h
    rw [if_pos (.inr h),h]
    rw [show ((123:UInt8)==123)=true from rfl,if_neg he]; rfl
theorem atom_null {l:List UInt8} (c1:l.take 4=[110,117,108,108]):K9 l=.ok (nul,l.drop 4):=by unfold K9; rw [if_pos c1]
theorem atom_false {l:List UInt8} (c1:¬ l.take 4=[110,117,108,108]) (c2:l.take 5=[102,97,108,115,101]):K9 l=.ok (.mk 1 [] [] [],l.drop 5):=by unfold K9; rw [if_neg c1,if_pos c2]
theorem atom_true {l:List UInt8} (c1:¬ l.take 4=[110,117,108,108]) (c2:¬ l.take 5=[102,97,108,115,101]) (c3:l.take 4=[116,114,117,101]):K9 l=.ok (.mk 2 [] [] [],l.drop 4):=by unfold K9; rw [if_neg c1,if_neg c2,if_pos c3]
section
variable {l : List UInt8} (c1 : ¬ l.take 4 = [110, 117, 108, 108]) (c2 : ¬ l.take 5 = [102, 97, 108, 115, 101]) (c3 : ¬ l.take 4 = [116, 114, 117, 101])
include c1 c2 c3
theorem atom_text {x r:List UInt8} (c4:l.getD 0 0=34) (ht:J3 l=some (x,r)):K9 l=.ok (.mk 4 x [] [],r):=by unfold K9; rw [if_neg c1,if_neg c2,if_neg c3,if_pos c4,ht]
theorem atom_text0 (c4:l.getD 0 0=34) (ht:J3 l=none):K9 l=.error 70:=by unfold K9; rw [if_neg c1,if_neg c2,if_neg c3,if_pos c4,ht]
theorem atom_none (c4:¬ l.getD 0 0=34) (hn:E3 l=0):K9 l=.error 70:=by unfold K9; rw [if_neg c1,if_neg c2,if_neg c3,if_neg c4,if_pos hn]
theorem atom_num (c4:¬ l.getD 0 0=34) (hn:¬ E3 l=0):K9 l=.ok (.mk 3 (l.take (E3 l)) [] [],l.drop (E3 l)):=by unfold K9; rw [if_neg c1,if_neg c2,if_neg c3,if_neg c4,if_neg hn]
end
theorem opens_34 {l:List UInt8} (h:l.getD 0 0=34):¬ M8 l:=by rintro (h1 | h1) <;> (rw [h] at h1; cases h1)
theorem G3 (l:List UInt8) (i:Nat):(l.drop i).getD 0 0=l.getD i 0:=by rw [List.getD_eq_getElem?_getD,List.getElem?_drop,Nat.add_zero,← List.getD_eq_getElem?_getD]
theorem Q4 {l:List UInt8} {i:Nat} (h:i<l.length):l.drop i=l.getD i 0::l.drop (i+1):=by rw [List.drop_eq_getElem_cons h,List.getD_eq_getElem?_getD,List.getElem?_eq_getElem h]; rfl
theorem drop_none {l:List UInt8} {i:Nat} (h:l.length≤i):l.getD i 0=0:=by rw [List.getD_eq_getElem?_getD,List.getElem?_eq_none h]; rfl
theorem textP_no {l:List UInt8} (h:¬ l.getD 0 0=34):J3 l=none:=by unfold J3; rw [if_neg (fun hn=>h hn.1)]
theorem textP_out {l:List UInt8} {k:Nat} (hk:1+qL (l.drop 1)=k) (h:l.length≤k):J3 l=none:=by unfold J3; rw [if_neg (fun hn=>by omega)]
theorem textP_some {l t:List UInt8} {k:Nat} (hk:1+qL (l.drop 1)=k) (h0:l.getD 0 0=34) (h:k<l.length) (ht:unjM (l.take (k+1))=some t):J3 l=some (t,l.drop (k+1)):=by
  unfold J3; rw [if_pos ⟨h0,by omega⟩,show qL (l.drop 1)+2=k+1 by omega,ht]; rfl
theorem textP_bad {l:List UInt8} {k:Nat} (hk:1+qL (l.drop 1)=k) (_:k<l.length) (ht:unjM (l.take (k+1))=none):J3 l=none:=by
  unfold J3
  split
  · rw [show qL (l.drop 1)+2=k+1 by omega,ht]; rfl
  · rfl
end Go.Json
namespace Go.Esc
open Go.Lib Go.Sw
def rdP (l:List UInt8):Int × Nat:=if badL l then (-1,1) else (((decodeL l).1:Int),(decodeL l).2)
theorem M7 {l:List UInt8} (h:decodeN l.length (l.getD 0 0).toNat (l.getD 1 0).toNat (l.getD 2 0).toNat (l.getD 3 0).toNat=(65533,1)):rdP l=(-1,1):=by
  have e:decodeL l=(65533,1):=by rw [decodeL_N,h]
  unfold rdP; rw [if_pos (show badL l by unfold badL; rw [e]; exact ⟨rfl,rfl⟩)]
theorem rdP_ok {l:List UInt8} {p m:Nat} (h:decodeN l.length (l.getD 0 0).toNat (l.getD 1 0).toNat (l.getD 2 0).toNat (l.getD 3 0).toNat=(p,m)) (hb:p≠65533∨m≠1):rdP l=((p:Int),m):=by
  have e:decodeL l=(p,m):=by rw [decodeL_N,h]
  unfold rdP; rw [if_neg (show ¬ badL l by unfold badL; rw [e]; dsimp only; omega),e]
def bt (s:ByteArray) (k:Nat):Nat:=(s.data.toList.getD k 0).toNat
theorem bt_eq (s:ByteArray) (k:Nat):A5 s (k:Int)=(bt s k:Int):=H8 s k
theorem N1 {n b0 b1 b2 b3:Nat} (h:¬ b0<128∧¬ (194≤b0∧b0<224∧1<n∧b1 / 64=2)∧¬ (224≤b0∧b0<240∧2<n∧b1 / 64=2∧b2 / 64=2∧2048≤b0 % 16 * 4096+b1 % 64 * 64+b2 % 64∧(b0 % 16 * 4096+b1 % 64 * 64+b2 % 64<55296∨57344≤b0 % 16 * 4096+b1 % 64 * 64+b2 % 64)) ∧
    ¬ (240≤b0∧b0<245∧3<n∧b1 / 64=2∧b2 / 64=2∧b3 / 64=2∧65536≤b0 % 8 * 262144+b1 % 64 * 4096+b2 % 64 * 64+b3 % 64∧b0 % 8 * 262144+b1 % 64 * 4096+b2 % 64 * 64+b3 % 64≤1114111)):decodeN n b0 b1 b2 b3=(65533,1):=by
  obtain ⟨h1,h2,h3,h4⟩:=h
  rcases decodeN_shape n b0 b1 b2 b3 with ⟨c,e⟩ | ⟨c1,c2,c3,cv,e⟩ | ⟨c1,c2,c3,c4,cv,cs,e⟩ | ⟨c1,c2,c3,c4,c5,cv,cw,e⟩ | e
  · exact absurd c h1
  · exact absurd ⟨by omega,by omega,c2,c3⟩ h2
  · exact absurd ⟨by omega,by omega,c2,c3,c4,cv,cs⟩ h3
  · exact absurd ⟨by omega,by omega,c2,c3,c4,c5,cv,cw⟩ h4
  · exact e
theorem dec1 {n b0 b1 b2 b3:Nat} (h:b0<128):decodeN n b0 b1 b2 b3=(b0,1):=by unfold decodeN; rw [if_pos h]
theorem dec2 {n b0 b1 b2 b3:Nat} (h:194≤b0∧b0<224∧1<n∧b1 / 64=2):decodeN n b0 b1 b2 b3=(b0 % 32 * 64+b1 % 64,2):=by
  unfold decodeN; rw [if_neg (by omega),if_pos ⟨by omega,by omega,by omega⟩,if_pos (by omega)]
theorem dec3 {n b0 b1 b2 b3:Nat} (h:224≤b0∧b0<240∧2<n∧b1 / 64=2∧b2 / 64=2∧2048≤b0 % 16 * 4096+b1 % 64 * 64+b2 % 64∧(b0 % 16 * 4096+b1 % 64 * 64+b2 % 64<55296∨57344≤b0 % 16 * 4096+b1 % 64 * 64+b2 % 64)):decodeN n b0 b1 b2 b3=(b0 % 16 * 4096+b1 % 64 * 64+b2 % 64,3):=by
  unfold decodeN; rw [if_neg (by omega),if_neg (by omega),if_pos (by omega),if_pos (by omega)]
theorem dec4 {n b0 b1 b2 b3:Nat} (h:240≤b0∧b0<245∧3<n∧b1 / 64=2∧b2 / 64=2∧b3 / 64=2∧65536≤b0 % 8 * 262144+b1 % 64 * 4096+b2 % 64 * 64+b3 % 64∧b0 % 8 * 262144+b1 % 64 * 4096+b2 % 64 * 64+b3 % 64≤1114111):decodeN n b0 b1 b2 b3=(b0 % 8 * 262144+b1 % 64 * 4096+b2 % 64 * 64+b3 % 64,4):=by
  unfold decodeN; rw [if_neg (by omega),if_neg (by omega),if_neg (by omega),if_pos (by omega),if_pos (by omega)]
theorem rdP_step (l:List UInt8) (hne:l≠[]):pts l=(rdP l).1::pts (l.drop (rdP l).2):=by
  rw [pts_step l hne]
  unfold rdP
  split
  · rename_i h; rw [h.2]
  · rfl
theorem rdP_w (l:List UInt8) (hne:l≠[]):1≤(rdP l).2∧(rdP l).2≤l.length∧-1≤(rdP l).1∧(rdP l).1≤1114111:=by
  have h1:=decodeL_width l
  have h2:=decodeL_le l hne
  have h3:=decodeL_rune l
  have h4:=List.length_pos_iff.2 hne
  unfold rdP; split <;> dsimp only <;> omega
def intV (ps:List Int):List Value:=ps.map (Value.int .i64)
theorem iv_len (ps:List Int):(intV ps).length=ps.length:=List.length_map _
theorem iv_app (a b:List Int):intV (a++b)=intV a++intV b:=List.map_append
theorem iv_at {ps:List Int} {k:Nat} (h:k<ps.length):(intV ps)[k]? = some (.int .i64 (ps.getD k 0)):=by
  unfold intV; rw [List.getElem?_map,List.getElem?_eq_getElem h]; simp [List.getD,h]
theorem getDI_get (l:List Int) {j:Nat} (h:j<l.length):l.getD j 0=l[j]:=by simp [List.getD,h]
theorem takeI (l:List Int) {k:Nat} (h:k<l.length):l.take (k+1)=l.take k++[l.getD k 0]:=by
  rw [List.take_succ_eq_append_getElem h,getDI_get _ h]
theorem memI {l:List Int} {k:Nat} (h:k<l.length):l.getD k 0∈l:=by rw [getDI_get _ h]; exact List.getElem_mem _
theorem iv_ne {ps:List Int} {k:Nat} (h:k<ps.length):intV ps≠[]:=by
  intro h0; have:=congrArg List.length h0; rw [iv_len,List.length_nil] at this; omega
theorem pts_len (l:List UInt8):(pts l).length≤l.length:=by
  have:=runes_len l
  rw [runes_pts,List.length_map] at this; exact this
theorem own_castS {et:TypeId} {sz:Nat} {a:Option Addr} {c:Nat} {g:Grp} {n n':Nat} {cs cs':List Value} (h:Sw.Own et sz (.slice a n c) g n cs) (hn:n=n') (hc:cs=cs'):Sw.Own et sz (.slice a n' c) g n' cs':=hn ▸ hc ▸ h
theorem dropR_ne {s:ByteArray} {q:Nat} (h:q<s.size):s.data.toList.drop q≠[]:=by
  intro h0; have:=congrArg List.length h0; rw [List.length_drop,E0,List.length_nil] at this; omega
theorem L8 (s:ByteArray) (k:Nat):(s.extract k s.size).size=s.size - k:=by rw [ByteArray.size_extract,Nat.min_self]
theorem pts_next {s:ByteArray} {i:Nat} (h:i<s.size):pts (s.data.toList.drop i)=(rdP (s.extract i s.size).data.toList).1::pts (s.data.toList.drop (i+(rdP (s.extract i s.size).data.toList).2)):=by
  rw [I5,rdP_step _ (dropR_ne h),List.drop_drop]
end Go.Esc
namespace Go.Sw
open Go.Esc
def dig36:ByteArray:=ByteArray.mk #[48,49,50,51,52,53,54,55,56,57,97,98,99,100,101,102,103,104,105,106,107,108,109,110,111,112,113,114,115,116,117,118,119,120,121,122]
def E4 (u:Int):UInt8:=(dig36.data.toList)[u.toNat]?.getD 0
theorem N4 {u:Int} (h0:0≤u) (h1:u<16):E4 u=hexl u.toNat:=by
  have h:∀ n:Fin 16,E4 (n.val:Int)=hexl n.val:=by decide +kernel
  have:=h ⟨u.toNat,by omega⟩
  simpa [show ((u.toNat:Nat):Int)=u by omega] using this
def rowH (l:List UInt8):Array Value:=(List.replicate (65 - l.length) (Value.int .u8 0)++u8s l).toArray
theorem P1 {l:List UInt8} (h:l.length≤65):(rowH l).size=65:=by simp [rowH,u8s]; omega
theorem R1 (b:UInt8) (l:List UInt8) (h:l.length<65):setRow (rowH l) (64 - l.length) [.int .u8 (b.toNat:Int)]=rowH (b::l):=by
  have:=setRow_mid [.int .u8 (b.toNat:Int)] (List.replicate (64 - l.length) (Value.int .u8 0)) (u8s l) [.int .u8 0] rfl
  rw [List.length_replicate] at this
  unfold rowH
  rw [show 65 - l.length=(64 - l.length)+1 by omega,List.replicate_succ',this]
  simp [u8s]
theorem rowH_rd {b:Nat} {t:TypeId} (l:List UInt8) (h0:0<l.length) (h:l.length<65):Rd (inG [(b,.cells (rowH l) t (0,0))]) (some ⟨b,65 - l.length,none⟩) (u8s l):=by
  have h1:Rd (inG [(b,.cells (rowH l).toList.toArray t (0,0))]) (some ⟨b,0,none⟩) (rowH l).toList:=Rd.lit
  rw [Array.toArray_toList] at h1
  have h2:=h1.cut (cap:=65) (l:=65 - l.length) (sz:=1) (m:=l.length) (by omega)
  rw [show cutA (some ⟨b,0,none⟩) 65 (65 - l.length) 1=some ⟨b,65 - l.length,none⟩ from cut_some (by omega)] at h2
  have e:((rowH l).toList.drop ((65 - l.length) * 1)).take l.length=u8s l:=by
    unfold rowH
    rw [Nat.mul_one]
    have e2:(u8s l).length=l.length:=List.length_map _
    show ((List.replicate (65 - l.length) (Value.int .u8 0)++u8s l).drop (65 - l.length)).take l.length=_
    rw [List.drop_append,List.length_replicate,Nat.sub_self,List.drop_zero,List.drop_eq_nil_of_le (by rw [List.length_replicate]; exact Nat.le_refl _),List.nil_append,← e2,List.take_length]
  rw [e] at h2; exact h2
theorem and15 {x:Int} (h0:0≤x) (h1:x<18446744073709551616):IntKind.wrap .u64 ((BitVec.ofInt (IntKind.bits .u64) x &&& BitVec.ofInt (IntKind.bits .u64) 15).toNat)=x % 16:=by
  obtain ⟨n,rfl⟩:=Int.eq_ofNat_of_zero_le h0
  have e:(BitVec.ofInt (IntKind.bits .u64) (n:Int) &&& BitVec.ofInt (IntKind.bits .u64) 15).toNat=n % 16:=by
    rw [BitVec.toNat_and]
    have a:(BitVec.ofInt (IntKind.bits .u64) (n:Int)).toNat=n:=by
      show (BitVec.ofInt 64 (n:Int)).toNat=n
      rw [BitVec.toNat_ofInt]; omega
    have b:(BitVec.ofInt (IntKind.bits .u64) 15).toNat=15:=rfl
    rw [a,b]
    exact Nat.and_two_pow_sub_one_eq_mod n 4
  rw [e,show IntKind.wrap .u64 ((n % 16:Nat):Int)=((n % 16:Nat):Int) % 18446744073709551616 from by first | rfl | simp [IntKind.wrap,IntKind.bits,IntKind.signed]]
  omega
theorem fdiv16 (x:Int):Int.fdiv x (2 ^ 4)=x / 16:=by rw [Int.fdiv_eq_ediv_of_nonneg _ (by decide)]; rfl
def R5 (n:Int):List UInt8 :=
  if n<16 then [E4 n] else if n<256 then [E4 (n / 16),E4 (n % 16)] else if n<4096 then [E4 (n / 16 / 16),E4 (n / 16 % 16),E4 (n % 16)] else [E4 (n / 16 / 16 / 16),E4 (n / 16 / 16 % 16),E4 (n / 16 % 16),E4 (n % 16)]
theorem hexD_len (n:Int):1≤(R5 n).length∧(R5 n).length≤4:=by unfold R5; (repeat' split) <;> simp
theorem hexD_pad {n:Int} (h0:0≤n) (h1:n<65536):List.replicate (4 - (R5 n).length) 48++R5 n=hex4 n.toNat:=by
  have z:(48:UInt8)=hexl 0:=by decide
  unfold R5 hex4
  split
  · rw [N4 (by omega) (by omega)]
    simp only [List.length_cons,List.length_nil,Nat.reduceSub,Nat.reduceAdd,List.replicate,List.cons_append,List.nil_append]
    rw [show n.toNat / 4096 % 16=0 by omega,show n.toNat / 256 % 16=0 by omega,show n.toNat / 16 % 16=0 by omega,show n.toNat % 16=n.toNat by omega,← z]
  split
  · rw [N4 (by omega) (by omega),N4 (by omega) (by omega)]
    simp only [List.length_cons,List.length_nil,Nat.reduceSub,Nat.reduceAdd,List.replicate,List.cons_append,List.nil_append]
    rw [show n.toNat / 4096 % 16=0 by omega,show n.toNat / 256 % 16=0 by omega,show n.toNat / 16 % 16=(n / 16).toNat by omega,show n.toNat % 16=(n % 16).toNat by omega,← z]
  split
  · rw [N4 (by omega) (by omega),N4 (by omega) (by omega),N4 (by omega) (by omega)]
    simp only [List.length_cons,List.length_nil,Nat.reduceSub,Nat.reduceAdd,List.replicate,List.cons_append,List.nil_append]
    rw [show n.toNat / 4096 % 16=0 by omega,show n.toNat / 256 % 16=(n / 16 / 16).toNat by omega,show n.toNat / 16 % 16=(n / 16 % 16).toNat by omega,show n.toNat % 16=(n % 16).toNat by omega,← z]
  · rw [N4 (by omega) (by omega),N4 (by omega) (by omega),N4 (by omega) (by omega),N4 (by omega) (by omega)]
    simp only [List.length_cons,List.length_nil,Nat.reduceSub,Nat.reduceAdd,List.replicate,List.nil_append]
    rw [show n.toNat / 4096 % 16=(n / 16 / 16 / 16).toNat by omega,show n.toNat / 256 % 16=(n / 16 / 16 % 16).toNat by omega,show n.toNat / 16 % 16=(n / 16 % 16).toNat by omega,show n.toNat % 16=(n % 16).toNat by omega]
end Go.Sw
namespace Go.Esc
open Go.Lib Go.Sw
def numD (base:Int):Nat→Int→List UInt8→Int × Nat
  | 0,a,_=>(a,0)
  | _+1,a,[]=>(a,0)
  | m+1,a,c::t=>if M9 (c.toNat:Int) base<0 then (a,0) else ((numD base m (base * a+M9 (c.toNat:Int) base) t).1,(numD base m (base * a+M9 (c.toNat:Int) base) t).2+1)
theorem numD_le (base:Int):∀ (m:Nat) (a:Int) (l:List UInt8),(numD base m a l).2≤m∧(numD base m a l).2≤l.length
  | 0,_,_=>⟨Nat.le_refl _,Nat.zero_le _⟩
  | _+1,_,[]=>⟨Nat.zero_le _,Nat.le_refl _⟩
  | m+1,a,c::t=>by
    unfold numD
    split
    · exact ⟨Nat.zero_le _,Nat.zero_le _⟩
    · have:=numD_le base m (base * a+M9 (c.toNat:Int) base) t
      rw [List.length_cons]; dsimp only; omega
theorem numD_all (base:Int):∀ (m:Nat) (a v:Int) (d t:List UInt8),numV base a d=some v→d.length=m∨(d.length<m∧∀ c t',t=c::t'→M9 (c.toNat:Int) base<0)→numD base m a (d++t)=(v,d.length)
  | 0,a,v,d,t,hv,hm=>by
    obtain rfl:d=[]:=List.eq_nil_of_length_eq_zero (by omega)
    rw [numV_nil] at hv; injection hv with hv; subst hv; rfl
  | m+1,a,v,[],t,hv,hm=>by
    rw [numV_nil] at hv; injection hv with hv; subst hv
    rw [List.nil_append]
    cases t with
    | nil=>rfl
    | cons c t' =>
      rcases hm with hm | hm
      · simp at hm
      · unfold numD; rw [if_pos (hm.2 c t' rfl)]; rfl
  | m+1,a,v,c::d,t,hv,hm=>by
    rw [L0] at hv
    split at hv
    · cases hv
    · rename_i hc
      rw [List.length_cons] at hm
      have hm':d.length=m∨(d.length<m∧∀ c t',t=c::t'→M9 (c.toNat:Int) base<0):=by
        rcases hm with h | h
        · exact .inl (by omega)
        · exact .inr ⟨by omega,h.2⟩
      rw [List.cons_append,numD,if_neg hc,numD_all base m _ v d t hv hm']
      rfl
theorem numD_take (base:Int):∀ (m:Nat) (a:Int) (x:List UInt8),(numD base m a x).2=m→m≤x.length∧numV base a (x.take m)=some (numD base m a x).1
  | 0,a,x,_=>⟨Nat.zero_le _,rfl⟩
  | m+1,a,[],h=>by simp [numD] at h
  | m+1,a,c::t,h=>by
    unfold numD at h ⊢
    split at h
    · simp at h
    · rename_i hc
      dsimp only at h
      obtain ⟨h1,h2⟩:=numD_take base m (base * a+M9 (c.toNat:Int) base) t (by omega)
      rw [if_neg hc,List.take_succ_cons,L0,if_neg hc]
      exact ⟨by rw [List.length_cons]; omega,h2⟩
def unitD (l:List UInt8):Int:=if l.take 2≠[92,117] then -1 else if (numD 16 4 0 (l.drop 2)).2<4 then -1 else (numD 16 4 0 (l.drop 2)).1
theorem unitD_eq (l:List UInt8):unitD l=C3 l:=by
  unfold unitD C3
  by_cases h:l.take 2=[92,117]
  · rw [if_neg (fun hn=>hn h)]
    by_cases hk:(numD 16 4 0 (l.drop 2)).2<4
    · rw [if_pos hk]
      by_cases hl:l.length<6
      · rw [if_pos (.inl hl)]
      · rw [if_neg (by rintro (h1 | h1); exact hl h1; exact h1 h)]
        cases hv:numV 16 0 ((l.drop 2).take 4) with
        | none=>rfl
        | some v =>
          have:=numD_all 16 4 0 v ((l.drop 2).take 4) ((l.drop 2).drop 4) hv (.inl (by rw [List.length_take,List.length_drop]; omega))
          rw [List.take_append_drop] at this
          rw [this,List.length_take,List.length_drop] at hk; omega
    · have h4:=numD_take 16 4 0 (l.drop 2) (by have:=(numD_le 16 4 0 (l.drop 2)).1; omega)
      rw [List.length_drop] at h4
      rw [if_neg hk,if_neg (by rintro (h1 | h1); omega; exact h1 h),h4.2]; rfl
  · rw [if_pos h,if_pos (.inr h)]
end Go.Esc
namespace Go.Esc
open Go.Lib Go.Sw
theorem numD_step {base n:Int} {m k:Nat} {l:List UInt8} (hk:k<l.length) (hm:k<m) (h:0≤M9 ((l.getD k 0).toNat:Int) base) (hT:numD base m 0 l=((numD base (m - k) n (l.drop k)).1,(numD base (m - k) n (l.drop k)).2+k)) :
    numD base m 0 l=((numD base (m - (k+1)) (base * n+M9 ((l.getD k 0).toNat:Int) base) (l.drop (k+1))).1,(numD base (m - (k+1)) (base * n+M9 ((l.getD k 0).toNat:Int) base) (l.drop (k+1))).2+(k+1)):=by
  rw [hT,I3 _ hk,show m - k=(m - (k+1))+1 by omega,numD,if_neg (by omega)]
  refine Prod.ext rfl ?_
  show _+1+k=_+(k+1)
  omega
theorem numD_stop {base n:Int} {m k:Nat} {l:List UInt8} (h:l.length≤k∨m≤k∨M9 ((l.getD k 0).toNat:Int) base<0) (hT:numD base m 0 l=((numD base (m - k) n (l.drop k)).1,(numD base (m - k) n (l.drop k)).2+k)):numD base m 0 l=(n,k):=by
  have e:numD base (m - k) n (l.drop k)=(n,0):=by
    by_cases hm:m≤k
    · rw [show m - k=0 by omega,numD]
    by_cases hl:l.length≤k
    · rw [List.drop_eq_nil_of_le hl,show m - k=(m - k - 1)+1 by omega,numD]
    have h3:M9 ((l.getD k 0).toNat:Int) base<0:=by
      rcases h with h | h | h
      · exact absurd h hl
      · exact absurd h hm
      · exact h
    rw [I3 _ (by omega),show m - k=(m - k - 1)+1 by omega,numD,if_pos h3]
  rw [hT,e]; exact Prod.ext rfl (Nat.zero_add _)
theorem b92 {b:UInt8} (h:(b.toNat:Int)=92):b=92:=UInt8.toNat_inj.1 (by show b.toNat=92; omega)
theorem djA {l t:List UInt8} {b:UInt8} (hL:l=b::t) (hc:(b.toNat:Int)<32∨(b.toNat:Int)=34):ujL l=none:=by
  subst hL
  rw [L7,if_pos]
  rcases hc with hc | hc
  · exact .inl (UInt8.lt_iff_toNat_lt.2 (by show b.toNat<32; omega))
  · exact .inr (UInt8.toNat_inj.1 (by show b.toNat=34; omega))
theorem djB {l t:List UInt8} {b:UInt8} (hL:l=b::t) (hc:¬ ((b.toNat:Int)<32∨(b.toNat:Int)=34)) (h2:(b.toNat:Int)≠92):ujL l=(ujL t).map ([b]++·):=by
  subst hL
  rw [L7,if_neg (uj_no hc),if_pos (by rintro rfl; exact h2 rfl)]; rfl
theorem djC {l t:List UInt8} {b:UInt8} (hL:l=b::t) (h2:(b.toNat:Int)=92):((F4 l).1<0→ujL l=none)∧(¬ (F4 l).1<0→ujL l=(ujL (l.drop (F4 l).2)).map (encodeRune (F4 l).1++·)):=by
  subst hL
  have:=b92 h2
  subst this
  have hn:¬ ((92:UInt8)<32∨(92:UInt8)=34):=by decide
  refine ⟨fun hr=>?_,fun hr=>?_⟩
  · rw [L7,if_neg hn,if_neg (by decide),if_pos hr]
  · rw [L7,if_neg hn,if_neg (by decide),if_neg hr]
theorem dj_end {l:List UInt8} (h:l.length<2):F4 l=(-1,0):=by unfold F4; rw [if_pos h]
theorem dj_one {l:List UInt8} (h:¬ l.length<2) (ho:0≤I2 (l.getD 1 0)):F4 l=(I2 (l.getD 1 0),2):=by unfold F4; rw [if_neg h,if_pos ho]
theorem dj_hi {l:List UInt8} (h:¬ l.length<2) (ho:¬ 0≤I2 (l.getD 1 0)) (hs:¬ (55296≤C3 l∧C3 l<56320)) (hi:isR (C3 l)):F4 l=(C3 l,6):=by
  unfold isR at hi
  unfold F4; rw [if_neg h,if_neg ho,if_neg hs,if_neg (by omega)]
theorem dj_lo {l:List UInt8} (h:¬ l.length<2) (ho:¬ 0≤I2 (l.getD 1 0)) (hs:¬ (55296≤C3 l∧C3 l<56320)) (hi:¬ isR (C3 l)):(F4 l).1<0:=by
  have hr:=O9 l
  unfold F4; rw [if_neg h,if_neg ho,if_neg hs]
  split
  · decide
  · show C3 l<0; unfold isR at hi; omega
theorem dj_pairN {l:List UInt8} (h:¬ l.length<2) (ho:¬ 0≤I2 (l.getD 1 0)) (hs:55296≤C3 l∧C3 l<56320) (hm:C3 (l.drop 6)<56320∨57343<C3 (l.drop 6)):F4 l=(-1,0):=by
  unfold F4; rw [if_neg h,if_neg ho,if_pos hs,if_pos hm]
theorem dj_pair {l:List UInt8} (h:¬ l.length<2) (ho:¬ 0≤I2 (l.getD 1 0)) (hs:55296≤C3 l∧C3 l<56320) (hm:¬ (C3 (l.drop 6)<56320∨57343<C3 (l.drop 6))):F4 l=(65536+(C3 l - 55296) * 1024+C3 (l.drop 6) - 56320,12):=by
  unfold F4; rw [if_neg h,if_neg ho,if_pos hs,if_neg hm]
def nameK (k:Nat):UInt8:=[34,92,47,98,102,110,114,116].getD k 0
def valK (k:Nat):UInt8:=[34,92,47,8,12,10,13,9].getD k 0
def oneK:Nat→UInt8→Int
  | 0,_=>-1
  | k+1,b=>if b=nameK k then ((valK k).toNat:Int) else oneK k b
theorem oneK8:∀ n:Fin 256,oneK 8 (UInt8.ofNat n.val)=I2 (UInt8.ofNat n.val)∧(0≤I2 (UInt8.ofNat n.val)→encodeRune (I2 (UInt8.ofNat n.val))=[UInt8.ofNat (I2 (UInt8.ofNat n.val)).toNat]∧I2 (UInt8.ofNat n.val)<256):=by decide +kernel
theorem oneK_eq (b:UInt8):oneK 8 b=I2 b∧(0≤I2 b→encodeRune (I2 b)=[UInt8.ofNat (I2 b).toNat]∧I2 b<256):=by
  have:=oneK8 ⟨b.toNat,b.toNat_lt⟩
  simpa using this
theorem nameK_at {k:Nat} (h:k<8):([.int .u8 34,.int .u8 92,.int .u8 47,.int .u8 98,.int .u8 102,.int .u8 110,.int .u8 114,.int .u8 116]:List Value)[k]? = some (.int .u8 ((nameK k).toNat:Int)):=by
  rcases k with _ | _ | _ | _ | _ | _ | _ | _ | k
  all_goals first | rfl | omega
theorem valK_at {k:Nat} (h:k<8):([.int .u8 34,.int .u8 92,.int .u8 47,.int .u8 8,.int .u8 12,.int .u8 10,.int .u8 13,.int .u8 9]:List Value)[k]? = some (.int .u8 ((valK k).toNat:Int)):=by
  rcases k with _ | _ | _ | _ | _ | _ | _ | _ | k
  all_goals first | rfl | omega
theorem oneK_yes {k:Nat} {b:UInt8} (h:(b.toNat:Int)=((nameK k).toNat:Int)):((valK k).toNat:Int)=oneK (k+1) b:=by
  rw [oneK,if_pos (UInt8.toNat_inj.1 (by omega))]
theorem oneK_no {k:Nat} {b:UInt8} (h:¬ (b.toNat:Int)=((nameK k).toNat:Int)):oneK k b=oneK (k+1) b:=by
  rw [oneK,if_neg (fun hb=>h (by rw [hb]))]
def unjW:Option (List UInt8)→Value
  | some t=>.tuple #[.string (bk t),.bool true]
  | none=>.tuple #[.string (ByteArray.mk #[]),.bool false]
end Go.Esc
namespace Go.Proofs.YtppgfiklmfoaeaaGreatDoor
open Go.Sw Go.Sha Go.Esc Go.RowKit
theorem w8i {x:Int} (h0:0≤x) (h1:x<256):IntKind.wrap .u8 x=x:=by rw [w8m]; omega
theorem is_ (n:Int) (W0:World) (H:List Grp):Tri Tryz.prog 161 #[.int .i64 n] W0 H (fun v H'=>v=.bool (isB n)∧H'=H):=by
 refine C5 (args:=[.int .i64 n]) (n:=17) Tryz.func161 rfl rfl (Nat.le_of_ble_eq_true rfl) ?_
 refine A1 (B7 (E':=[⟨0,[],.int .i64 n⟩]) [0] [0] (k:=?_))
 refine A0 (A1 ?_)
 refine G_p [0,0,0,0,0,6,0,0,0,0,0,0,5,6,0] [2] (k:=A0 ?_)
 refine B4 (B6 [.tmp 2] [.bool (((decide (n ≥ 0))&&(decide (n≤1114111)))&&((decide (n<55296))||(decide (n > 57343))))] (k:=?_))
 exact ⟨by unfold isB; rfl,rfl⟩
theorem read_ (s:ByteArray) (h0:0<s.size) (hs:s.size≤1000000000000) (W0:World) (H:List Grp):Tri Tryz.prog 139 #[.string s] W0 H (fun v H'=>v=.tuple #[.int .i64 (rdP s.data.toList).1,.int .i64 ((rdP s.data.toList).2:Int)]∧H'=H):=by
 have e0:=bt_eq s 0
 have e1:=bt_eq s 1
 have e2:=bt_eq s 2
 have e3:=bt_eq s 3
 have g0:bt s 0<256:=UInt8.toNat_lt _
 have g1:bt s 1<256:=UInt8.toNat_lt _
 have g2:bt s 2<256:=UInt8.toNat_lt _
 have g3:bt s 3<256:=UInt8.toNat_lt _
 have hl:=E0 s
 simp only [Int.cast_ofNat_Int] at e0 e1 e2 e3
 refine C5 (args:=[.string s]) (n:=77) Tryz.func139 rfl rfl (Nat.le_of_ble_eq_true rfl) ?_
 refine A1 (B7 (E':=[⟨0,[],.string s⟩]) [0,0] [0] (k:=?_))
 refine A0 (A1 ?_)
 refine A2 (A4 (j:=1) [0] (k:=?_))
 refine D4 (ch:=[]) (s:=s) (kd:=.i64) (j:=0) (hb:=(fun _=>by omega)) (k:=?_)
 have hb1:=C2 s 0
 refine A4 (j:=3) [0] (k:=D8 11 (A5 s 0) (by omega) (by omega) kr ?_)
 refine A9 [0] [0,4] (k:=A0 ?_)
 refine A1 (G_p [0,0] [0,4] (k:=?_))
 refine A0 (A1 ?_)
 refine B9 (A1 ?_)
 refine G_p [0,0,0] [0,4,12] (k:=A0 ?_)
 refine B0 (b:=decide ((A5 s 0)<128)) kr (fun hc3=>?_) (fun hc3=>?_)
 ·
  simp only [decide_eq_true_eq] at hc3
  refine A1 (G_p [0,0,0] [2,3] (k:=?_))
  refine A0 (B4 ?_)
  refine A7 (A3 ?_)
  refine B6 [.tmp 2,.tmp 3] [.int .i64 (A5 s 0),.int .i64 1] (k:=?_)
  exact ⟨by rw [rdP_ok (l:=s.data.toList) (dec1 (b0:=bt s 0) (b1:=bt s 1) (b2:=bt s 2) (b3:=bt s 3) (by (try rw [hl]); omega)) (by omega)]; exact congrArg (fun x=>Value.tuple #[.int .i64 x,.int .i64 1]) (by omega),rfl⟩
 ·
  simp only [decide_eq_false_iff_not] at hc3
  refine A1 (G_p [0,0,0,0,0,6,0] [0,4,16] (k:=?_))
  refine A0 (B0 (b:=(decide ((A5 s 0) ≥ 194))&&(decide ((A5 s 0)<224))) kr (fun hc4=>?_) (fun hc4=>?_))
  ·
   simp only [Bool.and_eq_true,decide_eq_true_eq,ge_iff_le] at hc4
   refine A2 (A4 (j:=2) [0,0] (k:=?_))
   refine D8 24 ((A5 s 0) - 192) (by omega) (by omega) kr (A9 [0,0,0] [0,4,5,6] (k:=?_))
   refine C0 (A0 ?_)
   refine A1 (A1 ?_)
   refine B7 (E':=[⟨0,[],.string s⟩,⟨4,[],.int .i64 ((A5 s 0) - 192)⟩,⟨5,[],.int .i64 2⟩,⟨6,[],.int .i64 128⟩,⟨46,[],.bool (decide ((s.size:Int)<2))⟩]) [0,0,0,0] [0,4,5,6,46] (k:=A0 ?_)
   refine B0 (b:=decide ((s.size:Int)<2)) kr (fun hc6=>?_) (fun hc6=>?_)
   ·
    simp only [decide_eq_true_eq] at hc6
    refine A1 (G_p [0,0] [2,3] (k:=?_))
    refine A0 (B4 ?_)
    refine A3 (B6 [.tmp 2,.tmp 3] [.int .i64 (-1),.int .i64 1] (k:=?_))
    exact ⟨by rw [M7 (l:=s.data.toList) (N1 (b0:=bt s 0) (b1:=bt s 1) (b2:=bt s 2) (b3:=bt s 3) (by rw [hl]; omega))]; rfl,rfl⟩
   ·
    simp only [decide_eq_false_iff_not] at hc6
    refine A8 (A0 ?_)
    refine A1 (A1 ?_)
    refine G_p [0] [0,4,5,6,7] (k:=A0 ?_)
    refine B9 (G_rounds 4 ?_)
    refine K6 (A1 ?_)
    refine A1 (G_p [0,0,0] [0,4,5,6,7,49] (k:=?_))
    refine A0 (F5 kr ?_)
    refine A8 (A0 ?_)
    refine A1 (B9 ?_)
    refine A1 (A2 ?_)
    refine A4 (j:=2) [0,0] (k:=D4 (ch:=[]) (s:=s) (kd:=.i64) (j:=1) (hb:=(fun _=>by omega)) (k:=?_))
    have hb7:=C2 s 1
    refine A4 (j:=4) [0] (k:=D8 55 (A5 s 1) (by omega) (by omega) kr ?_)
    refine A9 [0] [0,4,5,6,7,8] (k:=A0 ?_)
    refine A1 (A1 ?_)
    refine G_p [0,0,0,0,0,5] [0,4,5,6,7,8,61] (k:=A0 ?_)
    refine B0 (b:=(decide ((A5 s 1)<128))||(decide ((A5 s 1) ≥ 192))) kr (fun hc9=>?_) (fun hc9=>?_)
    ·
     simp only [Bool.or_eq_true,decide_eq_true_eq,ge_iff_le] at hc9
     refine A1 (G_p [0,0] [2,3] (k:=?_))
     refine A0 (B4 ?_)
     refine A3 (A7 ?_)
     refine A3 (A3 ?_)
     refine A7 (A3 ?_)
     refine B6 [.tmp 2,.tmp 3] [.int .i64 (-1),.int .i64 1] (k:=?_)
     exact ⟨by rw [M7 (l:=s.data.toList) (N1 (b0:=bt s 0) (b1:=bt s 1) (b2:=bt s 2) (b3:=bt s 3) (by rw [hl]; omega))]; rfl,rfl⟩
    ·
     simp only [Bool.or_eq_false_iff,decide_eq_false_iff_not,ge_iff_le] at hc9
     refine A8 (A0 ?_)
     refine A2 (A4 (j:=2) [0,0] (k:=?_))
     refine D8 63 (64 * ((A5 s 0) - 192)) (by omega) (by omega) kr (A4 (j:=4) [0,0] (k:=?_))
     refine D8 65 ((64 * ((A5 s 0) - 192))+(A5 s 1)) (by omega) (by omega) kr (A4 (j:=5) [0] (k:=?_))
     refine D8 66 (((64 * ((A5 s 0) - 192))+(A5 s 1)) - 128) (by omega) (by omega) kr (A9 [0] [0,4,5,6,7] (k:=?_))
     refine C0 (A0 ?_)
     refine B7 (E':=[⟨0,[],.string s⟩,⟨4,[],.int .i64 (((64 * ((A5 s 0) - 192))+(A5 s 1)) - 128)⟩,⟨5,[],.int .i64 2⟩,⟨6,[],.int .i64 128⟩,⟨7,[],.int .i64 2⟩]) [0,0,0] [0,4,5,6,7] (k:=N_rd ?_)
     refine K6 (A1 ?_)
     refine A1 (G_p [0,0,0] [0,4,5,6,7,49] (k:=?_))
     refine A0 (C4 kr ?_)
     refine H5 (B1 ?_)
     refine B1 (C7 ?_)
     refine A0 (A1 ?_)
     refine A1 (A2 ?_)
     refine A4 (j:=5) [0,0,0,0,0] (k:=I7 (ch:=[(70,false)]) (f:=161) (fst:=#[]) (caps:=#[]) (vs:=[.int .i64 (((64 * ((A5 s 0) - 192))+(A5 s 1)) - 128)]) (v:=.bool (isB (((64 * ((A5 s 0) - 192))+(A5 s 1)) - 128))) (hf:=Tryz.func161) (hc:=(fun hc=>is_ (((64 * ((A5 s 0) - 192))+(A5 s 1)) - 128) _ _)) (k:=?_))
     refine A9 [0,5] [4,5,74] (k:=A0 ?_)
     refine B0 (b:=(decide ((((64 * ((A5 s 0) - 192))+(A5 s 1)) - 128)<128))||(!(isB (((64 * ((A5 s 0) - 192))+(A5 s 1)) - 128)))) kr (fun hc13=>?_) (fun hc13=>?_)
     ·
      simp only [Bool.or_eq_true,Bool.not_eq_true',decide_eq_true_eq,E9,isR] at hc13
      refine A1 (G_p [0,0] [2,3] (k:=?_))
      refine A0 (B4 ?_)
      refine A3 (B6 [.tmp 2,.tmp 3] [.int .i64 (-1),.int .i64 1] (k:=?_))
      exact ⟨by rw [M7 (l:=s.data.toList) (N1 (b0:=bt s 0) (b1:=bt s 1) (b2:=bt s 2) (b3:=bt s 3) (by rw [hl]; omega))]; rfl,rfl⟩
     ·
      simp only [Bool.or_eq_false_iff,Bool.not_eq_false',decide_eq_false_iff_not,F9,isR] at hc13
      refine A8 (A0 ?_)
      refine A1 (G_p [0,0,0,0] [2,3] (k:=?_))
      refine A0 (B4 ?_)
      refine B6 [.tmp 2,.tmp 3] [.int .i64 (((64 * ((A5 s 0) - 192))+(A5 s 1)) - 128),.int .i64 2] (k:=?_)
      exact ⟨by rw [rdP_ok (l:=s.data.toList) (dec2 (b0:=bt s 0) (b1:=bt s 1) (b2:=bt s 2) (b3:=bt s 3) (by (try rw [hl]); omega)) (by omega)]; exact congrArg (fun x=>Value.tuple #[.int .i64 x,.int .i64 2]) (by omega),rfl⟩
  ·
   simp only [Bool.and_eq_false_iff,decide_eq_false_iff_not,ge_iff_le] at hc4
   refine A1 (G_p [0,0,0,0,0,6,0] [0,4,25] (k:=?_))
   refine A0 (B0 (b:=(decide ((A5 s 0) ≥ 224))&&(decide ((A5 s 0)<240))) kr (fun hc14=>?_) (fun hc14=>?_))
   ·
    simp only [Bool.and_eq_true,decide_eq_true_eq,ge_iff_le] at hc14
    refine A2 (A4 (j:=2) [0,0] (k:=?_))
    refine D8 33 ((A5 s 0) - 224) (by omega) (by omega) kr (B2 (E':=[⟨0,[],.string s⟩,⟨4,[],.int .i64 ((A5 s 0) - 224)⟩,⟨5,[],.int .i64 3⟩,⟨6,[],.int .i64 2048⟩]) [0,0,0] [0,4,5,6] (k:=?_))
    refine C0 (A0 ?_)
    refine A1 (A1 ?_)
    refine G_p [0,0,0,0] [0,4,5,6,46] (k:=A0 ?_)
    refine B0 (b:=decide ((s.size:Int)<3)) kr (fun hc16=>?_) (fun hc16=>?_)
    ·
     simp only [decide_eq_true_eq] at hc16
     refine A1 (G_p [0,0] [2,3] (k:=?_))
     refine A0 (B4 ?_)
     refine A3 (B6 [.tmp 2,.tmp 3] [.int .i64 (-1),.int .i64 1] (k:=?_))
     exact ⟨by rw [M7 (l:=s.data.toList) (N1 (b0:=bt s 0) (b1:=bt s 1) (b2:=bt s 2) (b3:=bt s 3) (by rw [hl]; omega))]; rfl,rfl⟩
    ·
     simp only [decide_eq_false_iff_not] at hc16
     refine A8 (A0 ?_)
     refine A1 (A1 ?_)
     refine G_p [0] [0,4,5,6,7] (k:=A0 ?_)
     refine B9 (G_rounds 4 ?_)
     refine K6 (A1 ?_)
     refine A1 (G_p [0,0,0] [0,4,5,6,7,49] (k:=?_))
     refine A0 (F5 kr ?_)
     refine A8 (A0 ?_)
     refine A1 (B9 ?_)
     refine A1 (A2 ?_)
     refine A4 (j:=2) [0,0] (k:=D4 (ch:=[]) (s:=s) (kd:=.i64) (j:=1) (hb:=(fun _=>by omega)) (k:=?_))
     have hb17:=C2 s 1
     refine A4 (j:=4) [0] (k:=D8 55 (A5 s 1) (by omega) (by omega) kr ?_)
     refine A9 [0] [0,4,5,6,7,8] (k:=A0 ?_)
     refine A1 (A1 ?_)
     refine G_p [0,0,0,0,0,5] [0,4,5,6,7,8,61] (k:=A0 ?_)
     refine B0 (b:=(decide ((A5 s 1)<128))||(decide ((A5 s 1) ≥ 192))) kr (fun hc19=>?_) (fun hc19=>?_)
     ·
      simp only [Bool.or_eq_true,decide_eq_true_eq,ge_iff_le] at hc19
      refine A1 (B7 (E':=[⟨2,[],.int .i64 (-1)⟩,⟨3,[],.int .i64 1⟩]) [0,0] [2,3] (k:=?_))
      refine A0 (B4 ?_)
      refine A3 (A7 ?_)
      refine A3 (A3 ?_)
      refine A7 (A3 ?_)
      refine B6 [.tmp 2,.tmp 3] [.int .i64 (-1),.int .i64 1] (k:=?_)
      exact ⟨by rw [M7 (l:=s.data.toList) (N1 (b0:=bt s 0) (b1:=bt s 1) (b2:=bt s 2) (b3:=bt s 3) (by rw [hl]; omega))]; rfl,rfl⟩
     ·
      simp only [Bool.or_eq_false_iff,decide_eq_false_iff_not,ge_iff_le] at hc19
      refine A8 (A0 ?_)
      refine A2 (A4 (j:=2) [0,0] (k:=?_))
      refine D8 63 (64 * ((A5 s 0) - 224)) (by omega) (by omega) kr (A4 (j:=4) [0,0] (k:=?_))
      refine D8 65 ((64 * ((A5 s 0) - 224))+(A5 s 1)) (by omega) (by omega) kr (A4 (j:=5) [0] (k:=?_))
      refine D8 66 (((64 * ((A5 s 0) - 224))+(A5 s 1)) - 128) (by omega) (by omega) kr (B2 (E':=[⟨0,[],.string s⟩,⟨4,[],.int .i64 (((64 * ((A5 s 0) - 224))+(A5 s 1)) - 128)⟩,⟨5,[],.int .i64 3⟩,⟨6,[],.int .i64 2048⟩,⟨7,[],.int .i64 1⟩]) [0] [0,4,5,6,7] (k:=?_))
      refine C0 (A0 ?_)
      refine G_p [0,0,0] [0,4,5,6,7] (k:=N_rd ?_)
      refine K6 (A1 ?_)
      refine A1 (G_p [0,0,0] [0,4,5,6,7,49] (k:=?_))
      refine A0 (F5 kr ?_)
      refine A8 (A0 ?_)
      refine A1 (B9 ?_)
      refine A1 (A2 ?_)
      refine A4 (j:=2) [0,0] (k:=D4 (ch:=[]) (s:=s) (kd:=.i64) (j:=2) (hb:=(fun _=>by omega)) (k:=?_))
      have hb23:=C2 s 2
      refine A4 (j:=4) [0] (k:=D8 55 (A5 s 2) (by omega) (by omega) kr ?_)
      refine A9 [0] [0,4,5,6,7,8] (k:=A0 ?_)
      refine A1 (A1 ?_)
      refine G_p [0,0,0,0,0,5] [0,4,5,6,7,8,61] (k:=A0 ?_)
      refine B0 (b:=(decide ((A5 s 2)<128))||(decide ((A5 s 2) ≥ 192))) kr (fun hc25=>?_) (fun hc25=>?_)
      ·
       simp only [Bool.or_eq_true,decide_eq_true_eq,ge_iff_le] at hc25
       refine A1 (G_p [0,0] [2,3] (k:=?_))
       refine A0 (B4 ?_)
       refine A3 (A7 ?_)
       refine A3 (A3 ?_)
       refine A7 (A3 ?_)
       refine B6 [.tmp 2,.tmp 3] [.int .i64 (-1),.int .i64 1] (k:=?_)
       exact ⟨by rw [M7 (l:=s.data.toList) (N1 (b0:=bt s 0) (b1:=bt s 1) (b2:=bt s 2) (b3:=bt s 3) (by rw [hl]; omega))]; rfl,rfl⟩
      ·
       simp only [Bool.or_eq_false_iff,decide_eq_false_iff_not,ge_iff_le] at hc25
       refine A8 (A0 ?_)
       refine A2 (A4 (j:=2) [0,0] (k:=?_))
       refine D8 63 (64 * (((64 * ((A5 s 0) - 224))+(A5 s 1)) - 128)) (by omega) (by omega) kr (A4 (j:=4) [0,0] (k:=?_))
       refine D8 65 ((64 * (((64 * ((A5 s 0) - 224))+(A5 s 1)) - 128))+(A5 s 2)) (by omega) (by omega) kr (A4 (j:=5) [0] (k:=?_))
       refine D8 66 (((64 * (((64 * ((A5 s 0) - 224))+(A5 s 1)) - 128))+(A5 s 2)) - 128) (by omega) (by omega) kr (A9 [0] [0,4,5,6,7] (k:=?_))
       refine C0 (A0 ?_)
       refine B7 (E':=[⟨0,[],.string s⟩,⟨4,[],.int .i64 (((64 * (((64 * ((A5 s 0) - 224))+(A5 s 1)) - 128))+(A5 s 2)) - 128)⟩,⟨5,[],.int .i64 3⟩,⟨6,[],.int .i64 2048⟩,⟨7,[],.int .i64 3⟩]) [0,0,0] [0,4,5,6,7] (k:=N_rd ?_)
       refine K6 (A1 ?_)
       refine A1 (G_p [0,0,0] [0,4,5,6,7,49] (k:=?_))
       refine A0 (C4 kr ?_)
       refine H5 (B1 ?_)
       refine B1 (C7 ?_)
       refine A0 (A1 ?_)
       refine A1 (A2 ?_)
       refine A4 (j:=5) [0,0,0,0,0] (k:=I7 (ch:=[(70,false)]) (f:=161) (fst:=#[]) (caps:=#[]) (vs:=[.int .i64 (((64 * (((64 * ((A5 s 0) - 224))+(A5 s 1)) - 128))+(A5 s 2)) - 128)]) (v:=.bool (isB (((64 * (((64 * ((A5 s 0) - 224))+(A5 s 1)) - 128))+(A5 s 2)) - 128))) (hf:=Tryz.func161) (hc:=(fun hc=>is_ (((64 * (((64 * ((A5 s 0) - 224))+(A5 s 1)) - 128))+(A5 s 2)) - 128) _ _)) (k:=?_))
       refine A9 [0,5] [4,5,74] (k:=A0 ?_)
       refine B0 (b:=(decide ((((64 * (((64 * ((A5 s 0) - 224))+(A5 s 1)) - 128))+(A5 s 2)) - 128)<2048))||(!(isB (((64 * (((64 * ((A5 s 0) - 224))+(A5 s 1)) - 128))+(A5 s 2)) - 128)))) kr (fun hc29=>?_) (fun hc29=>?_)
       ·
        simp only [Bool.or_eq_true,Bool.not_eq_true',decide_eq_true_eq,E9,isR] at hc29
        refine A1 (G_p [0,0] [2,3] (k:=?_))
        refine A0 (B4 ?_)
        refine A3 (B6 [.tmp 2,.tmp 3] [.int .i64 (-1),.int .i64 1] (k:=?_))
        exact ⟨by rw [M7 (l:=s.data.toList) (N1 (b0:=bt s 0) (b1:=bt s 1) (b2:=bt s 2) (b3:=bt s 3) (by rw [hl]; omega))]; rfl,rfl⟩
       ·
        simp only [Bool.or_eq_false_iff,Bool.not_eq_false',decide_eq_false_iff_not,F9,isR] at hc29
        refine A8 (A0 ?_)
        refine A1 (G_p [0,0,0,0] [2,3] (k:=?_))
        refine A0 (B4 ?_)
        refine B6 [.tmp 2,.tmp 3] [.int .i64 (((64 * (((64 * ((A5 s 0) - 224))+(A5 s 1)) - 128))+(A5 s 2)) - 128),.int .i64 3] (k:=?_)
        exact ⟨by rw [rdP_ok (l:=s.data.toList) (dec3 (b0:=bt s 0) (b1:=bt s 1) (b2:=bt s 2) (b3:=bt s 3) (by (try rw [hl]); omega)) (by omega)]; exact congrArg (fun x=>Value.tuple #[.int .i64 x,.int .i64 3]) (by omega),rfl⟩
   ·
    simp only [Bool.and_eq_false_iff,decide_eq_false_iff_not,ge_iff_le] at hc14
    refine A1 (B7 (E':=[⟨0,[],.string s⟩,⟨4,[],.int .i64 (A5 s 0)⟩,⟨34,[],.bool ((decide ((A5 s 0) ≥ 240))&&(decide ((A5 s 0)<245)))⟩]) [0,0,0,0,0,6,0] [0,4,34] (k:=?_))
    refine A0 (B0 (b:=(decide ((A5 s 0) ≥ 240))&&(decide ((A5 s 0)<245))) kr (fun hc30=>?_) (fun hc30=>?_))
    ·
     simp only [Bool.and_eq_true,decide_eq_true_eq,ge_iff_le] at hc30
     refine A2 (A4 (j:=2) [0,0] (k:=?_))
     refine D8 42 ((A5 s 0) - 240) (by omega) (by omega) kr (A9 [0,0,0] [0,4,5,6] (k:=?_))
     refine C0 (A0 ?_)
     refine A1 (A1 ?_)
     refine G_p [0,0,0,0] [0,4,5,6,46] (k:=A0 ?_)
     refine B0 (b:=decide ((s.size:Int)<4)) kr (fun hc32=>?_) (fun hc32=>?_)
     ·
      simp only [decide_eq_true_eq] at hc32
      refine A1 (G_p [0,0] [2,3] (k:=?_))
      refine A0 (B4 ?_)
      refine A3 (B6 [.tmp 2,.tmp 3] [.int .i64 (-1),.int .i64 1] (k:=?_))
      exact ⟨by rw [M7 (l:=s.data.toList) (N1 (b0:=bt s 0) (b1:=bt s 1) (b2:=bt s 2) (b3:=bt s 3) (by rw [hl]; omega))]; rfl,rfl⟩
     ·
      simp only [decide_eq_false_iff_not] at hc32
      refine A8 (A0 ?_)
      refine A1 (A1 ?_)
      refine G_p [0] [0,4,5,6,7] (k:=A0 ?_)
      refine B9 (G_rounds 4 ?_)
      refine K6 (A1 ?_)
      refine A1 (G_p [0,0,0] [0,4,5,6,7,49] (k:=?_))
      refine A0 (F5 kr ?_)
      refine A8 (A0 ?_)
      refine A1 (B9 ?_)
      refine A1 (A2 ?_)
      refine A4 (j:=2) [0,0] (k:=D4 (ch:=[]) (s:=s) (kd:=.i64) (j:=1) (hb:=(fun _=>by omega)) (k:=?_))
      have hb33:=C2 s 1
      refine A4 (j:=4) [0] (k:=D8 55 (A5 s 1) (by omega) (by omega) kr ?_)
      refine A9 [0] [0,4,5,6,7,8] (k:=A0 ?_)
      refine A1 (A1 ?_)
      refine B7 (E':=[⟨0,[],.string s⟩,⟨4,[],.int .i64 ((A5 s 0) - 240)⟩,⟨5,[],.int .i64 4⟩,⟨6,[],.int .i64 65536⟩,⟨7,[],.int .i64 1⟩,⟨8,[],.int .i64 (A5 s 1)⟩,⟨61,[],.bool ((decide ((A5 s 1)<128))||(decide ((A5 s 1) ≥ 192)))⟩]) [0,0,0,0,0,5] [0,4,5,6,7,8,61] (k:=A0 ?_)
      refine B0 (b:=(decide ((A5 s 1)<128))||(decide ((A5 s 1) ≥ 192))) kr (fun hc35=>?_) (fun hc35=>?_)
      ·
       simp only [Bool.or_eq_true,decide_eq_true_eq,ge_iff_le] at hc35
       refine A1 (G_p [0,0] [2,3] (k:=?_))
       refine A0 (B4 ?_)
       refine A3 (A7 ?_)
       refine A3 (A3 ?_)
       refine A7 (A3 ?_)
       refine B6 [.tmp 2,.tmp 3] [.int .i64 (-1),.int .i64 1] (k:=?_)
       exact ⟨by rw [M7 (l:=s.data.toList) (N1 (b0:=bt s 0) (b1:=bt s 1) (b2:=bt s 2) (b3:=bt s 3) (by rw [hl]; omega))]; rfl,rfl⟩
      ·
       simp only [Bool.or_eq_false_iff,decide_eq_false_iff_not,ge_iff_le] at hc35
       refine A8 (A0 ?_)
       refine A2 (A4 (j:=2) [0,0] (k:=?_))
       refine D8 63 (64 * ((A5 s 0) - 240)) (by omega) (by omega) kr (A4 (j:=4) [0,0] (k:=?_))
       refine D8 65 ((64 * ((A5 s 0) - 240))+(A5 s 1)) (by omega) (by omega) kr (A4 (j:=5) [0] (k:=?_))
       refine D8 66 (((64 * ((A5 s 0) - 240))+(A5 s 1)) - 128) (by omega) (by omega) kr (A9 [0] [0,4,5,6,7] (k:=?_))
       refine C0 (A0 ?_)
       refine G_p [0,0,0] [0,4,5,6,7] (k:=N_rd ?_)
       refine K6 (A1 ?_)
       refine A1 (G_p [0,0,0] [0,4,5,6,7,49] (k:=?_))
       refine A0 (F5 kr ?_)
       refine A8 (A0 ?_)
       refine A1 (B9 ?_)
       refine A1 (A2 ?_)
       refine A4 (j:=2) [0,0] (k:=D4 (ch:=[]) (s:=s) (kd:=.i64) (j:=2) (hb:=(fun _=>by omega)) (k:=?_))
       have hb39:=C2 s 2
       refine A4 (j:=4) [0] (k:=D8 55 (A5 s 2) (by omega) (by omega) kr ?_)
       refine A9 [0] [0,4,5,6,7,8] (k:=A0 ?_)
       refine A1 (A1 ?_)
       refine G_p [0,0,0,0,0,5] [0,4,5,6,7,8,61] (k:=A0 ?_)
       refine B0 (b:=(decide ((A5 s 2)<128))||(decide ((A5 s 2) ≥ 192))) kr (fun hc41=>?_) (fun hc41=>?_)
       ·
        simp only [Bool.or_eq_true,decide_eq_true_eq,ge_iff_le] at hc41
        refine A1 (B7 (E':=[⟨2,[],.int .i64 (-1)⟩,⟨3,[],.int .i64 1⟩]) [0,0] [2,3] (k:=?_))
        refine A0 (B4 ?_)
        refine A3 (A7 ?_)
        refine A3 (A3 ?_)
        refine A7 (A3 ?_)
        refine B6 [.tmp 2,.tmp 3] [.int .i64 (-1),.int .i64 1] (k:=?_)
        exact ⟨by rw [M7 (l:=s.data.toList) (N1 (b0:=bt s 0) (b1:=bt s 1) (b2:=bt s 2) (b3:=bt s 3) (by rw [hl]; omega))]; rfl,rfl⟩
       ·
        simp only [Bool.or_eq_false_iff,decide_eq_false_iff_not,ge_iff_le] at hc41
        refine A8 (A0 ?_)
        refine A2 (A4 (j:=2) [0,0] (k:=?_))
        refine D8 63 (64 * (((64 * ((A5 s 0) - 240))+(A5 s 1)) - 128)) (by omega) (by omega) kr (A4 (j:=4) [0,0] (k:=?_))
        refine D8 65 ((64 * (((64 * ((A5 s 0) - 240))+(A5 s 1)) - 128))+(A5 s 2)) (by omega) (by omega) kr (A4 (j:=5) [0] (k:=?_))
        refine D8 66 (((64 * (((64 * ((A5 s 0) - 240))+(A5 s 1)) - 128))+(A5 s 2)) - 128) (by omega) (by omega) kr (B2 (E':=[⟨0,[],.string s⟩,⟨4,[],.int .i64 (((64 * (((64 * ((A5 s 0) - 240))+(A5 s 1)) - 128))+(A5 s 2)) - 128)⟩,⟨5,[],.int .i64 4⟩,⟨6,[],.int .i64 65536⟩,⟨7,[],.int .i64 2⟩]) [0] [0,4,5,6,7] (k:=?_))
        refine C0 (A0 ?_)
        refine G_p [0,0,0] [0,4,5,6,7] (k:=N_rd ?_)
        refine K6 (A1 ?_)
        refine A1 (G_p [0,0,0] [0,4,5,6,7,49] (k:=?_))
        refine A0 (F5 kr ?_)
        refine A8 (A0 ?_)
        refine A1 (B9 ?_)
        refine A1 (A2 ?_)
        refine A4 (j:=2) [0,0] (k:=D4 (ch:=[]) (s:=s) (kd:=.i64) (j:=3) (hb:=(fun _=>by omega)) (k:=?_))
        have hb45:=C2 s 3
        refine A4 (j:=4) [0] (k:=D8 55 (A5 s 3) (by omega) (by omega) kr ?_)
        refine A9 [0] [0,4,5,6,7,8] (k:=A0 ?_)
        refine A1 (A1 ?_)
        refine G_p [0,0,0,0,0,5] [0,4,5,6,7,8,61] (k:=A0 ?_)
        refine B0 (b:=(decide ((A5 s 3)<128))||(decide ((A5 s 3) ≥ 192))) kr (fun hc47=>?_) (fun hc47=>?_)
        ·
         simp only [Bool.or_eq_true,decide_eq_true_eq,ge_iff_le] at hc47
         refine A1 (G_p [0,0] [2,3] (k:=?_))
         refine A0 (B4 ?_)
         refine A3 (A7 ?_)
         refine A3 (A3 ?_)
         refine A7 (A3 ?_)
         refine B6 [.tmp 2,.tmp 3] [.int .i64 (-1),.int .i64 1] (k:=?_)
         exact ⟨by rw [M7 (l:=s.data.toList) (N1 (b0:=bt s 0) (b1:=bt s 1) (b2:=bt s 2) (b3:=bt s 3) (by rw [hl]; omega))]; rfl,rfl⟩
        ·
         simp only [Bool.or_eq_false_iff,decide_eq_false_iff_not,ge_iff_le] at hc47
         refine A8 (A0 ?_)
         refine A2 (A4 (j:=2) [0,0] (k:=?_))
         refine D8 63 (64 * (((64 * (((64 * ((A5 s 0) - 240))+(A5 s 1)) - 128))+(A5 s 2)) - 128)) (by omega) (by omega) kr (A4 (j:=4) [0,0] (k:=?_))
         refine D8 65 ((64 * (((64 * (((64 * ((A5 s 0) - 240))+(A5 s 1)) - 128))+(A5 s 2)) - 128))+(A5 s 3)) (by omega) (by omega) kr (A4 (j:=5) [0] (k:=?_))
         refine D8 66 (((64 * (((64 * (((64 * ((A5 s 0) - 240))+(A5 s 1)) - 128))+(A5 s 2)) - 128))+(A5 s 3)) - 128) (by omega) (by omega) kr (A9 [0] [0,4,5,6,7] (k:=?_))
         refine C0 (A0 ?_)
         refine B7 (E':=[⟨0,[],.string s⟩,⟨4,[],.int .i64 (((64 * (((64 * (((64 * ((A5 s 0) - 240))+(A5 s 1)) - 128))+(A5 s 2)) - 128))+(A5 s 3)) - 128)⟩,⟨5,[],.int .i64 4⟩,⟨6,[],.int .i64 65536⟩,⟨7,[],.int .i64 4⟩]) [0,0,0] [0,4,5,6,7] (k:=N_rd ?_)
         refine K6 (A1 ?_)
         refine A1 (G_p [0,0,0] [0,4,5,6,7,49] (k:=?_))
         refine A0 (C4 kr ?_)
         refine H5 (B1 ?_)
         refine B1 (C7 ?_)
         refine A0 (A1 ?_)
         refine A1 (A2 ?_)
         refine A4 (j:=5) [0,0,0,0,0] (k:=I7 (ch:=[(70,false)]) (f:=161) (fst:=#[]) (caps:=#[]) (vs:=[.int .i64 (((64 * (((64 * (((64 * ((A5 s 0) - 240))+(A5 s 1)) - 128))+(A5 s 2)) - 128))+(A5 s 3)) - 128)]) (v:=.bool (isB (((64 * (((64 * (((64 * ((A5 s 0) - 240))+(A5 s 1)) - 128))+(A5 s 2)) - 128))+(A5 s 3)) - 128))) (hf:=Tryz.func161) (hc:=(fun hc=>is_ (((64 * (((64 * (((64 * ((A5 s 0) - 240))+(A5 s 1)) - 128))+(A5 s 2)) - 128))+(A5 s 3)) - 128) _ _)) (k:=?_))
         refine A9 [0,5] [4,5,74] (k:=A0 ?_)
         refine B0 (b:=(decide ((((64 * (((64 * (((64 * ((A5 s 0) - 240))+(A5 s 1)) - 128))+(A5 s 2)) - 128))+(A5 s 3)) - 128)<65536))||(!(isB (((64 * (((64 * (((64 * ((A5 s 0) - 240))+(A5 s 1)) - 128))+(A5 s 2)) - 128))+(A5 s 3)) - 128)))) kr (fun hc51=>?_) (fun hc51=>?_)
         ·
          simp only [Bool.or_eq_true,Bool.not_eq_true',decide_eq_true_eq,E9,isR] at hc51
          refine A1 (G_p [0,0] [2,3] (k:=?_))
          refine A0 (B4 ?_)
          refine A3 (B6 [.tmp 2,.tmp 3] [.int .i64 (-1),.int .i64 1] (k:=?_))
          exact ⟨by rw [M7 (l:=s.data.toList) (N1 (b0:=bt s 0) (b1:=bt s 1) (b2:=bt s 2) (b3:=bt s 3) (by rw [hl]; omega))]; rfl,rfl⟩
         ·
          simp only [Bool.or_eq_false_iff,Bool.not_eq_false',decide_eq_false_iff_not,F9,isR] at hc51
          refine A8 (A0 ?_)
          refine A1 (G_p [0,0,0,0] [2,3] (k:=?_))
          refine A0 (B4 ?_)
          refine B6 [.tmp 2,.tmp 3] [.int .i64 (((64 * (((64 * (((64 * ((A5 s 0) - 240))+(A5 s 1)) - 128))+(A5 s 2)) - 128))+(A5 s 3)) - 128),.int .i64 4] (k:=?_)
          exact ⟨by rw [rdP_ok (l:=s.data.toList) (dec4 (b0:=bt s 0) (b1:=bt s 1) (b2:=bt s 2) (b3:=bt s 3) (by (try rw [hl]); omega)) (by omega)]; exact congrArg (fun x=>Value.tuple #[.int .i64 x,.int .i64 4]) (by omega),rfl⟩
    ·
     simp only [Bool.and_eq_false_iff,decide_eq_false_iff_not,ge_iff_le] at hc30
     refine A1 (G_p [0,0] [2,3] (k:=?_))
     refine A0 (B4 ?_)
     refine A7 (A3 ?_)
     refine B6 [.tmp 2,.tmp 3] [.int .i64 (-1),.int .i64 1] (k:=?_)
     exact ⟨by rw [M7 (l:=s.data.toList) (N1 (b0:=bt s 0) (b1:=bt s 1) (b2:=bt s 2) (b3:=bt s 3) (by rw [hl]; omega))]; rfl,rfl⟩
theorem one_ (p:Int) (hp:isR p) (W0:World) (H:List Grp):Tri Tryz.prog 122 #[.int .i64 p] W0 H (fun v H'=>∃ b,v=.slice (some ⟨b,0,none⟩) (Lib.encodeRune p).length (Lib.encodeRune p).length∧H'=[(b,.cells (u8s (Lib.encodeRune p)).toArray 5 (0,0))]::H):=by
 obtain ⟨hp0,hp1,hp2⟩:=hp
 refine C5 (args:=[.int .i64 p]) (n:=57) Tryz.func122 rfl rfl (Nat.le_of_ble_eq_true rfl) ?_
 refine A1 (B7 (E':=[⟨0,[],.int .i64 p⟩]) [0] [0] (k:=?_))
 refine A0 (A1 ?_)
 refine B9 (A1 ?_)
 refine G_p [0,0,0] [0,3] (k:=A0 ?_)
 refine B0 (b:=decide (p<128)) kr (fun hc1=>?_) (fun hc1=>?_)
 ·
  simp only [decide_eq_true_eq] at hc1
  refine A1 (A2 ?_)
  refine B5 (E':=[⟨7,[],.int .u8 (IntKind.wrap .u8 p)⟩]) [0,0] kr (j:=2) rfl (B8 (E':=[⟨7,[],.int .u8 p⟩]) (by rw [w8i (x:=p) (by omega) (by omega)]) ?_)
  refine D0 (ch:=[]) (e:=5) (l:=[(0,.int .u8 p)]) (c:=[.int .u8 p]) (k:=(fun b2=>?_))
  refine A9 [0] [2] (k:=A0 ?_)
  refine B4 (A7 ?_)
  refine A3 (B6 [.tmp 2] [.slice (some ⟨b2,0,none⟩) 1 1] (k:=?_))
  exact ⟨b2,by rw [show (Lib.encodeRune p).length=1 by unfold Lib.encodeRune; rw [Lib.encodeRuneZ_one (r:=p) (by omega) (by omega)]; rfl]; rfl,by rw [R0,Lib.encodeRuneZ_one (r:=p) (by omega) (by omega)]; rfl⟩
 ·
  simp only [decide_eq_false_iff_not] at hc1
  refine A1 (G_p [0,0,0] [0,9] (k:=?_))
  refine A0 (B0 (b:=decide (p<2048)) kr (fun hc3=>?_) (fun hc3=>?_))
  ·
   simp only [decide_eq_true_eq] at hc3
   refine A1 (A2 ?_)
   refine A4 (j:=2) [0,0] (k:=?_)
   have hw4:IntKind.wrap .i64 (Int.tdiv p 64)=p / 64:=q64 (by omega) (by omega) (by decide)
   refine GL_w 13 hw4 kr (A4 (j:=3) [0] (k:=?_))
   refine D8 14 (192+(p / 64)) (by omega) (by omega) kr (B5 (E':=[⟨15,[],.int .u8 (IntKind.wrap .u8 (192+(p / 64)))⟩,⟨0,[],.int .i64 p⟩]) [0] kr (j:=4) rfl ?_)
   refine B8 (E':=[⟨15,[],.int .u8 (192+(p / 64))⟩,⟨0,[],.int .i64 p⟩]) (by rw [w8i (x:=(192+(p / 64))) (by omega) (by omega)]) (A4 (j:=6) [0,0] (k:=?_))
   have hw6:Int.tmod p 64=p % 64:=r64 (by omega)
   refine GL_w 17 hw6 kr (A4 (j:=7) [0] (k:=?_))
   refine D8 18 (128+(p % 64)) (by omega) (by omega) kr (B5 (E':=[⟨19,[],.int .u8 (IntKind.wrap .u8 (128+(p % 64)))⟩,⟨15,[],.int .u8 (192+(p / 64))⟩]) [0] kr (j:=8) rfl ?_)
   refine B8 (E':=[⟨19,[],.int .u8 (128+(p % 64))⟩,⟨15,[],.int .u8 (192+(p / 64))⟩]) (by rw [w8i (x:=(128+(p % 64))) (by omega) (by omega)]) (D0 (ch:=[]) (e:=5) (l:=[(0,.int .u8 (192+(p / 64))),(1,.int .u8 (128+(p % 64)))]) (c:=[.int .u8 (192+(p / 64)),.int .u8 (128+(p % 64))]) (k:=(fun b8=>?_)))
   refine A9 [0] [2] (k:=A0 ?_)
   refine B4 (A7 ?_)
   refine A3 (B6 [.tmp 2] [.slice (some ⟨b8,0,none⟩) 2 2] (k:=?_))
   exact ⟨b8,by rw [show (Lib.encodeRune p).length=2 by unfold Lib.encodeRune; rw [Lib.encodeRuneZ_two (r:=p) (by omega) (by omega)]; rfl]; rfl,by rw [R0,Lib.encodeRuneZ_two (r:=p) (by omega) (by omega)]; rfl⟩
  ·
   simp only [decide_eq_false_iff_not] at hc3
   refine A1 (G_p [0,0,0] [0,21] (k:=?_))
   refine A0 (B0 (b:=decide (p<65536)) kr (fun hc9=>?_) (fun hc9=>?_))
   ·
    simp only [decide_eq_true_eq] at hc9
    refine A1 (A2 ?_)
    refine A4 (j:=2) [0,0] (k:=?_)
    have hw10:IntKind.wrap .i64 (Int.tdiv p 4096)=p / 4096:=q64 (by omega) (by omega) (by decide)
    refine GL_w 25 hw10 kr (A4 (j:=3) [0] (k:=?_))
    refine D8 26 (224+(p / 4096)) (by omega) (by omega) kr (B5 (E':=[⟨27,[],.int .u8 (IntKind.wrap .u8 (224+(p / 4096)))⟩,⟨0,[],.int .i64 p⟩]) [0] kr (j:=4) rfl ?_)
    refine B8 (E':=[⟨27,[],.int .u8 (224+(p / 4096))⟩,⟨0,[],.int .i64 p⟩]) (by rw [w8i (x:=(224+(p / 4096))) (by omega) (by omega)]) (A4 (j:=6) [0,0] (k:=?_))
    have hw12:IntKind.wrap .i64 (Int.tdiv p 64)=p / 64:=q64 (by omega) (by omega) (by decide)
    refine GL_w 29 hw12 kr (A4 (j:=7) [0] (k:=?_))
    have hw13:Int.tmod (p / 64) 64=(p / 64) % 64:=r64 (by omega)
    refine GL_w 30 hw13 kr (A4 (j:=8) [0] (k:=?_))
    refine D8 31 (128+((p / 64) % 64)) (by omega) (by omega) kr (B5 (E':=[⟨32,[],.int .u8 (IntKind.wrap .u8 (128+((p / 64) % 64)))⟩,⟨27,[],.int .u8 (224+(p / 4096))⟩,⟨0,[],.int .i64 p⟩]) [0] kr (j:=9) rfl ?_)
    refine B8 (E':=[⟨32,[],.int .u8 (128+((p / 64) % 64))⟩,⟨27,[],.int .u8 (224+(p / 4096))⟩,⟨0,[],.int .i64 p⟩]) (by rw [w8i (x:=(128+((p / 64) % 64))) (by omega) (by omega)]) (A4 (j:=11) [0,0] (k:=?_))
    have hw15:Int.tmod p 64=p % 64:=r64 (by omega)
    refine GL_w 34 hw15 kr (A4 (j:=12) [0] (k:=?_))
    refine D8 35 (128+(p % 64)) (by omega) (by omega) kr (B5 (E':=[⟨36,[],.int .u8 (IntKind.wrap .u8 (128+(p % 64)))⟩,⟨32,[],.int .u8 (128+((p / 64) % 64))⟩,⟨27,[],.int .u8 (224+(p / 4096))⟩]) [0] kr (j:=13) rfl ?_)
    refine B8 (E':=[⟨36,[],.int .u8 (128+(p % 64))⟩,⟨32,[],.int .u8 (128+((p / 64) % 64))⟩,⟨27,[],.int .u8 (224+(p / 4096))⟩]) (by rw [w8i (x:=(128+(p % 64))) (by omega) (by omega)]) (D0 (ch:=[]) (e:=5) (l:=[(0,.int .u8 (224+(p / 4096))),(1,.int .u8 (128+((p / 64) % 64))),(2,.int .u8 (128+(p % 64)))]) (c:=[.int .u8 (224+(p / 4096)),.int .u8 (128+((p / 64) % 64)),.int .u8 (128+(p % 64))]) (k:=(fun b17=>?_)))
    refine A9 [0] [2] (k:=A0 ?_)
    refine B4 (A7 ?_)
    refine A3 (B6 [.tmp 2] [.slice (some ⟨b17,0,none⟩) 3 3] (k:=?_))
    exact ⟨b17,by rw [show (Lib.encodeRune p).length=3 by unfold Lib.encodeRune; rw [Lib.encodeRuneZ_three (r:=p) (by omega)]; rfl]; rfl,by rw [R0,Lib.encodeRuneZ_three (r:=p) (by omega)]; rfl⟩
   ·
    simp only [decide_eq_false_iff_not] at hc9
    refine A8 (C0 ?_)
    refine A0 (A1 ?_)
    refine A2 (A4 (j:=2) [0,0] (k:=?_))
    have hw18:IntKind.wrap .i64 (Int.tdiv p 262144)=p / 262144:=q64 (by omega) (by omega) (by decide)
    refine GL_w 39 hw18 kr (A4 (j:=3) [0] (k:=?_))
    refine D8 40 (240+(p / 262144)) (by omega) (by omega) kr (B5 (E':=[⟨41,[],.int .u8 (IntKind.wrap .u8 (240+(p / 262144)))⟩,⟨0,[],.int .i64 p⟩]) [0] kr (j:=4) rfl ?_)
    refine B8 (E':=[⟨41,[],.int .u8 (240+(p / 262144))⟩,⟨0,[],.int .i64 p⟩]) (by rw [w8i (x:=(240+(p / 262144))) (by omega) (by omega)]) (A4 (j:=6) [0,0] (k:=?_))
    have hw20:IntKind.wrap .i64 (Int.tdiv p 4096)=p / 4096:=q64 (by omega) (by omega) (by decide)
    refine GL_w 43 hw20 kr (A4 (j:=7) [0] (k:=?_))
    have hw21:Int.tmod (p / 4096) 64=(p / 4096) % 64:=r64 (by omega)
    refine GL_w 44 hw21 kr (A4 (j:=8) [0] (k:=?_))
    refine D8 45 (128+((p / 4096) % 64)) (by omega) (by omega) kr (B5 (E':=[⟨46,[],.int .u8 (IntKind.wrap .u8 (128+((p / 4096) % 64)))⟩,⟨41,[],.int .u8 (240+(p / 262144))⟩,⟨0,[],.int .i64 p⟩]) [0] kr (j:=9) rfl ?_)
    refine B8 (E':=[⟨46,[],.int .u8 (128+((p / 4096) % 64))⟩,⟨41,[],.int .u8 (240+(p / 262144))⟩,⟨0,[],.int .i64 p⟩]) (by rw [w8i (x:=(128+((p / 4096) % 64))) (by omega) (by omega)]) (A4 (j:=11) [0,0] (k:=?_))
    have hw23:IntKind.wrap .i64 (Int.tdiv p 64)=p / 64:=q64 (by omega) (by omega) (by decide)
    refine GL_w 48 hw23 kr (A4 (j:=12) [0] (k:=?_))
    have hw24:Int.tmod (p / 64) 64=(p / 64) % 64:=r64 (by omega)
    refine GL_w 49 hw24 kr (A4 (j:=13) [0] (k:=?_))
    refine D8 50 (128+((p / 64) % 64)) (by omega) (by omega) kr (B5 (E':=[⟨51,[],.int .u8 (IntKind.wrap .u8 (128+((p / 64) % 64)))⟩,⟨46,[],.int .u8 (128+((p / 4096) % 64))⟩,⟨41,[],.int .u8 (240+(p / 262144))⟩,⟨0,[],.int .i64 p⟩]) [0] kr (j:=14) rfl ?_)
    refine B8 (E':=[⟨51,[],.int .u8 (128+((p / 64) % 64))⟩,⟨46,[],.int .u8 (128+((p / 4096) % 64))⟩,⟨41,[],.int .u8 (240+(p / 262144))⟩,⟨0,[],.int .i64 p⟩]) (by rw [w8i (x:=(128+((p / 64) % 64))) (by omega) (by omega)]) (A4 (j:=16) [0,0] (k:=?_))
    have hw26:Int.tmod p 64=p % 64:=r64 (by omega)
    refine GL_w 53 hw26 kr (A4 (j:=17) [0] (k:=?_))
    refine D8 54 (128+(p % 64)) (by omega) (by omega) kr (B5 (E':=[⟨55,[],.int .u8 (IntKind.wrap .u8 (128+(p % 64)))⟩,⟨51,[],.int .u8 (128+((p / 64) % 64))⟩,⟨46,[],.int .u8 (128+((p / 4096) % 64))⟩,⟨41,[],.int .u8 (240+(p / 262144))⟩]) [0] kr (j:=18) rfl ?_)
    refine B8 (E':=[⟨55,[],.int .u8 (128+(p % 64))⟩,⟨51,[],.int .u8 (128+((p / 64) % 64))⟩,⟨46,[],.int .u8 (128+((p / 4096) % 64))⟩,⟨41,[],.int .u8 (240+(p / 262144))⟩]) (by rw [w8i (x:=(128+(p % 64))) (by omega) (by omega)]) (D0 (ch:=[]) (e:=5) (l:=[(0,.int .u8 (240+(p / 262144))),(1,.int .u8 (128+((p / 4096) % 64))),(2,.int .u8 (128+((p / 64) % 64))),(3,.int .u8 (128+(p % 64)))]) (c:=[.int .u8 (240+(p / 262144)),.int .u8 (128+((p / 4096) % 64)),.int .u8 (128+((p / 64) % 64)),.int .u8 (128+(p % 64))]) (k:=(fun b28=>?_)))
    refine A9 [0] [2] (k:=A0 ?_)
    refine B4 (B6 [.tmp 2] [.slice (some ⟨b28,0,none⟩) 4 4] (k:=?_))
    exact ⟨b28,by rw [show (Lib.encodeRune p).length=4 by unfold Lib.encodeRune; rw [Lib.encodeRuneZ_four (r:=p) (by omega) (by omega)]; rfl]; rfl,by rw [R0,Lib.encodeRuneZ_four (r:=p) (by omega) (by omega)]; rfl⟩
theorem points_ (s:ByteArray) (hs:s.size≤1000000000) (W0:World) (H:List Grp):Tri Tryz.prog 94 #[.string s] W0 H (fun v H'=>∃ a c g,v=.slice a (pts s.data.toList).length c∧Go.Sw.Own 3 1 (.slice a (pts s.data.toList).length c) g (pts s.data.toList).length (intV (pts s.data.toList))∧H'=g::H):=by
 refine C5 (args:=[.string s]) (n:=26) Tryz.func94 rfl rfl (Nat.le_of_ble_eq_true rfl) ?_
 refine A1 (B7 (E':=[⟨0,[],.string s⟩]) [0] [0] (k:=?_))
 refine A0 (A1 ?_)
 refine G_p [0] [0,3] (k:=A0 ?_)
 refine A1 (A1 ?_)
 refine G_p [0] [0,3,4] (k:=A0 ?_)
 refine B9 (G_heap (H':=([]::H)) (fun w h=>h.flat (List.Perm.refl _)) ?_)
 refine J5 (EI:=(fun ξ:Option Addr × Nat × Grp × List Int × Nat=>[⟨0,[],.string s⟩,⟨3,[],.slice ξ.1 ξ.2.2.2.1.length ξ.2.1⟩,⟨4,[],.int .i64 ((ξ.2.2.2.2:Nat):Int)⟩])) (HI:=(fun ξ:Option Addr × Nat × Grp × List Int × Nat=>(ξ.2.2.1::H))) (Φ:=(fun ξ:Option Addr × Nat × Grp × List Int × Nat=>(Go.Sw.Own 3 1 (.slice ξ.1 ξ.2.2.2.1.length ξ.2.1) ξ.2.2.1 ξ.2.2.2.1.length (intV ξ.2.2.2.1))∧(ξ.2.2.2.2≤s.size)∧(ξ.2.2.2.1++pts (s.data.toList.drop ξ.2.2.2.2)=pts s.data.toList))) (μ:=(fun ξ:Option Addr × Nat × Grp × List Int × Nat=>s.size - ξ.2.2.2.2)) (s0:=(none,0,[],[],0)) [0,3,4] kr rfl ⟨Go.Sw.Own.nil,(by (try dsimp only); omega),rfl⟩ ?_
 rintro ⟨ra,rc,rg,l1,i⟩ ⟨hO,hi,hT⟩
 dsimp only at hO hi hT
 have hll:l1.length≤s.size:=by
  have h1:=congrArg List.length hT
  have h2:=pts_len s.data.toList
  rw [List.length_append] at h1; rw [E0] at h2; omega
 refine A1 (A1 ?_)
 refine G_p [0,0,0,0] [0,3,4,10] (k:=A0 ?_)
 refine B0 (b:=decide (((i:Nat):Int)<(s.size:Int))) kr (fun hc1=>?_) (fun hc1=>?_)
 ·
  simp only [decide_eq_true_eq] at hc1
  have hlt:i<s.size:=by omega
  have hw:=rdP_w (s.data.toList.drop i) (dropR_ne (by omega))
  rw [← I5,E0,L8] at hw
  refine A8 (A0 ?_)
  refine B9 (A1 ?_)
  refine A2 (A4 (j:=2) [0,0] (k:=?_))
  refine F1 (ch:=[]) (s:=s) (vl:=(some (.int .i64 ((i:Nat):Int)))) (vh:=none) (l:=((i:Nat):Int)) (h:=(s.size:Int)) (hb:=(fun _=>by omega)) (k:=J1 Tryz.func139 (read_ (s.extract i s.size) (by first | omega | (rw [L8]; omega)) (by first | omega | (rw [L8]; omega)) _ _) ?_)
  refine A9 [0,0,0,0,0] [0,3,4,5,6] (k:=A0 ?_)
  refine A1 (A2 ?_)
  refine A4 (j:=2) [0,0] (k:=D0 (ch:=[]) (e:=3) (l:=[(0,.int .i64 ((rdP (s.extract i s.size).data.toList).1))]) (c:=[.int .i64 ((rdP (s.extract i s.size).data.toList).1)]) (k:=(fun b2=>?_)))
  refine F8 (i:=3) (ch:=[]) (t:=109) (tx:=109) (e:=3) (inf:=Tryz.t3) (s:=.slice ra l1.length rc) (x:=.slice (some ⟨b2,0,none⟩) 1 1) (n:=l1.length) (m:=1) (j:=1) (cs:=(intV l1)) (news:=[.int .i64 ((rdP (s.extract i s.size).data.toList).1)]) (g:=rg) (S:=(inG [(b2,.cells #[.int .i64 ((rdP (s.extract i s.size).data.toList).1)] 3 (0,0))])) rfl rfl rfl rfl kr kr kr rfl rfl (.inl ⟨3,kr⟩) (fun ⟨_,h⟩=>by cases h) (fun _=>⟨3,kr⟩) kr kr kr rfl hO (SrcOf.slice _ _ _ _ Rd.lit (fun h=>by cases h)) (F7 0 rfl) kr (by intro u hu; rcases List.mem_singleton.1 hu with rfl; rfl) (by omega) (by show (l1.length+1) * 8≤140737488355328; omega) (fun v3 g4 hO5=>?_)
  obtain ⟨a6,cap7,rfl,hcap8,hrd9⟩:=hO5.shape
  refine A9 [0] [0,3,4,6] (k:=A0 ?_)
  have hw10:IntKind.wrap .i64 (((i:Nat):Int)+((rdP (s.extract i s.size).data.toList).2:Int))=((i:Nat):Int)+((rdP (s.extract i s.size).data.toList).2:Int):=w64 (by omega) (by omega)
  refine A2 (B5 (E':=[⟨24,[],.int .i64 (((i:Nat):Int)+((rdP (s.extract i s.size).data.toList).2:Int))⟩,⟨0,[],.string s⟩,⟨3,[],.slice a6 (l1.length+1) cap7⟩,⟨4,[],.int .i64 ((i:Nat):Int)⟩]) [0,0,0] (Eq.trans (b:=some [⟨24,[],.int .i64 (IntKind.wrap .i64 (((i:Nat):Int)+((rdP (s.extract i s.size).data.toList).2:Int)))⟩,⟨0,[],.string s⟩,⟨3,[],.slice a6 (l1.length+1) cap7⟩,⟨4,[],.int .i64 ((i:Nat):Int)⟩]) kr (by simp only [hw10])) (j:=3) rfl ?_)
  refine B8 (E':=[⟨24,[],.int .i64 ((i+(rdP (s.extract i s.size).data.toList).2:Nat):Int)⟩,⟨0,[],.string s⟩,⟨3,[],.slice a6 (l1.length+1) cap7⟩,⟨4,[],.int .i64 ((i:Nat):Int)⟩]) (by rw [Int.natCast_add]) (A9 [0] [0,3,4] (k:=?_))
  refine C0 ?_
  have hln:(l1.length+1)=(l1++[((rdP (s.extract i s.size).data.toList).1)]).length:=by first | exact List.length_append.symm | (rw [List.length_append]; rfl)
  refine N_env (E':=[⟨0,[],.string s⟩,⟨3,[],.slice a6 (l1.length+1) cap7⟩,⟨4,[],.int .i64 ((i+(rdP (s.extract i s.size).data.toList).2:Nat):Int)⟩]) kr (N_env (E':=[⟨0,[],.string s⟩,⟨3,[],.slice a6 ((l1++[((rdP (s.extract i s.size).data.toList).1)]).length) cap7⟩,⟨4,[],.int .i64 ((i+(rdP (s.extract i s.size).data.toList).2:Nat):Int)⟩]) (by rw [hln]) ?_)
  refine C1 (H':=(g4::H)) (fun w h=>(h.erase 0)) (F3 (s':=(a6,cap7,g4,(l1++[((rdP (s.extract i s.size).data.toList).1)]),i+(rdP (s.extract i s.size).data.toList).2)) [0,3,4] kr rfl ⟨(own_castS hO5 hln (by dsimp only; first | exact (iv_app _ _).symm | (rw [iv_app]; rfl))),(by dsimp only; omega),(by dsimp only; rw [List.append_assoc,List.singleton_append,← pts_next hlt]; exact hT)⟩ (by dsimp only; omega))
 ·
  simp only [decide_eq_false_iff_not] at hc1
  refine H5 (B1 ?_)
  refine B1 (C7 ?_)
  refine A0 (A1 ?_)
  refine B7 (E':=[⟨2,[],.slice ra l1.length rc⟩]) [0,0] [2] (k:=A0 ?_)
  refine B4 (B6 [.tmp 2] [.slice ra l1.length rc] (k:=?_))
  have he:l1=pts s.data.toList:=by rw [← hT,List.drop_eq_nil_of_le (by rw [E0]; omega)]; exact (List.append_nil _).symm
  rw [he] at hO ⊢
  exact ⟨_,_,_,rfl,hO,rfl⟩
end Go.Proofs.YtppgfiklmfoaeaaGreatDoor
namespace Go.Proofs.YtppgfiklmfoaeaaGreatDoor
open Go.Sw Go.Sha Go.Esc Go.RowKit
theorem valid_no {l:List UInt8} {k:Nat} (h:k<(pts l).length) (hn:(pts l).getD k 0<0):D6 l=false:=by
  unfold D6
  rw [List.all_eq_false]
  exact ⟨_,memI h,by rw [decide_eq_true_eq]; omega⟩
theorem rvalid_ (s:ByteArray) (hs:s.size≤1000000000) (W0:World) (H:List Grp):Tri Tryz.prog 55 #[.string s] W0 H (fun v H'=>v=.bool (D6 s.data.toList)∧H'=H):=by
 have hpl:=pts_len s.data.toList
 rw [E0] at hpl
 refine C5 (args:=[.string s]) (n:=15) Tryz.func55 rfl rfl (Nat.le_of_ble_eq_true rfl) ?_
 refine A1 (B7 (E':=[⟨0,[],.string s⟩]) [0] [0] (k:=?_))
 refine A0 (A1 ?_)
 refine A1 (A2 ?_)
 refine A4 (j:=1) [0] (k:=D5 Tryz.func94 (points_ s (by omega) _ _) ?_)
 rintro _ _ ⟨iap0,icp0,igp0,rfl,iOp0,rfl⟩
 refine A9 [0,0] [6,7,8] (k:=A0 ?_)
 refine B9 (J5 (EI:=(fun ξ:Nat=>[⟨6,[],.slice iap0 ((pts s.data.toList).length) icp0⟩,⟨7,[],.int .i64 (((pts s.data.toList).length:Nat):Int)⟩,⟨8,[],.int .i64 ((ξ:Nat):Int)⟩])) (HI:=(fun ξ:Nat=>(igp0::H))) (Φ:=(fun ξ:Nat=>(ξ≤(pts s.data.toList).length)∧(((pts s.data.toList).take ξ).all (fun p=>decide (0≤p))=true))) (μ:=(fun ξ:Nat=>(pts s.data.toList).length - ξ)) (s0:=(0)) [6,7,8] kr rfl ⟨(by omega),rfl⟩ ?_)
 rintro k ⟨hk,hT⟩
 refine A1 (G_p [0] [6,7,8,9] (k:=?_))
 refine A0 (A1 ?_)
 refine B0 (b:=decide (((k:Nat):Int)<(((pts s.data.toList).length:Nat):Int))) kr (fun hc2=>?_) (fun hc2=>?_)
 ·
  simp only [decide_eq_true_eq] at hc2
  have hlt:k<(pts s.data.toList).length:=by omega
  refine A8 (A0 ?_)
  refine A1 (B9 ?_)
  refine A1 (A2 ?_)
  refine F2 (ch:=[]) (a:=iap0) (len:=(pts s.data.toList).length) (cap:=icp0) (kd:=.i64) (j:=((k:Nat):Int)) (e:=3) (sz:=1) (S:=(inG igp0)) (cs:=(intV (pts s.data.toList))) (hrd:=own_rd iOp0) (hb:=(fun _=>by exact ⟨by omega,by omega,iv_ne (by omega)⟩)) (k:=M4 (ch:=[]) (a:=iap0) (q:=k * 1) (S:=(inG igp0)) (cs:=(intV (pts s.data.toList))) (v:=.int .i64 ((pts s.data.toList).getD k 0)) (hrd:=own_rd iOp0) (hS:=F7 0 rfl) (hv:=(fun _=>(by rw [Nat.mul_one]; exact iv_at (ps:=(pts s.data.toList)) (k:=k) (by omega)))) (k:=?_))
  refine A9 [0] [4,6,7,8] (k:=A0 ?_)
  refine A1 (G_p [0,0] [6,7,8,13] (k:=?_))
  refine A0 (B0 (b:=decide (((pts s.data.toList).getD k 0)<0)) kr (fun hc3=>?_) (fun hc3=>?_))
  ·
   simp only [decide_eq_true_eq] at hc3
   refine A1 (B7 (E':=[⟨2,[],.bool false⟩]) [0] [2] (k:=?_))
   refine A0 (B4 ?_)
   refine A7 (A3 ?_)
   refine A3 (A7 ?_)
   refine A3 (C1 (H':=H) (fun w h=>(h.erase 0)) ?_)
   refine B6 [.tmp 2] [.bool false] (k:=?_)
   exact ⟨congrArg Value.bool (valid_no hlt (by omega)).symm,rfl⟩
  ·
   simp only [decide_eq_false_iff_not] at hc3
   refine A8 (C0 ?_)
   refine A0 (A2 ?_)
   refine A4 (j:=1) [0] (k:=D8 14 (((k:Nat):Int)+1) (by omega) (by omega) kr ?_)
   refine A9 [0] [6,7,8] (k:=F3 (s':=(k+1)) [6,7,8] kr rfl ⟨(by omega),(by rw [takeI _ hlt,List.all_append,hT]; simp only [List.all_cons,List.all_nil,Bool.true_and,Bool.and_true,decide_eq_true_eq]; omega)⟩ (by omega))
 ·
  simp only [decide_eq_false_iff_not] at hc2
  refine H5 (B1 ?_)
  refine B1 (C7 ?_)
  refine A0 (A1 ?_)
  refine B7 (E':=[⟨2,[],.bool true⟩]) [0] [2] (k:=A0 ?_)
  refine B4 (C1 (H':=H) (fun w h=>(h.erase 0)) ?_)
  refine B6 [.tmp 2] [.bool true] (k:=?_)
  exact ⟨congrArg Value.bool (by unfold D6; rw [List.take_of_length_le (by omega)] at hT; exact hT.symm),rfl⟩
end Go.Proofs.YtppgfiklmfoaeaaGreatDoor
namespace Go.Proofs.YtppgfiklmfoaeaaGreatDoor
open Go.Sw Go.Sha Go.Esc Go.RowKit
theorem byte_rngR (b:UInt8):0≤(b.toNat:Int)∧(b.toNat:Int)<256:=⟨Int.natCast_nonneg _,by have:=b.toNat_lt; omega⟩
end Go.Proofs.YtppgfiklmfoaeaaGreatDoor
namespace Go.Proofs.YtppgfiklmfoaeaaGreatDoor
open Go.Sw Go.Sha Go.Esc Go.RowKit
theorem pow16R {k:Nat} (h:k≤7):(16:Int) ^ k≤268435456:=by
  have:(16:Nat) ^ k≤16 ^ 7:=Nat.pow_le_pow_right (by decide) h
  have e:((16 ^ k:Nat):Int)=(16:Int) ^ k:=by simp
  rw [← e]; omega
theorem tk_len2 {s:ByteArray} {a b:UInt8} (h:s.data.toList.take 2=[a,b]):2≤s.size:=by
  rw [← E0]
  have:=congrArg List.length h; rw [List.length_take] at this; simp only [List.length_cons,List.length_nil] at this; omega
theorem digit_ (x base:Int) (h0:0≤x) (h1:x≤255) (W0:World) (H:List Grp):Tri Tryz.prog 138 #[.int .u8 x,.int .i64 base] W0 H (fun v H'=>v=.int .i64 (M9 x base)∧H'=H):=by
 refine C5 (args:=[.int .u8 x,.int .i64 base]) (n:=42) Tryz.func138 rfl rfl (Nat.le_of_ble_eq_true rfl) ?_
 refine A1 (G_p [0] [0,1] (k:=?_))
 refine A0 (A1 ?_)
 refine G_p [0] [0,1,5] (k:=A0 ?_)
 refine A1 (B9 ?_)
 refine A1 (G_p [0,0,0,0,0,6,0] [0,1,5,6] (k:=?_))
 refine A0 (B0 (b:=(decide (x ≥ 48))&&(decide (x≤57))) kr (fun hc1=>?_) (fun hc1=>?_))
 ·
  simp only [Bool.and_eq_true,decide_eq_true_eq] at hc1
  refine A2 (B5 (E':=[⟨14,[],.int .u8 (IntKind.wrap .u8 (x - 48))⟩,⟨1,[],.int .i64 base⟩,⟨5,[],.int .i64 (-1)⟩]) [0,0] kr (j:=2) rfl ?_)
  refine B8 (E':=[⟨14,[],.int .u8 (x - 48)⟩,⟨1,[],.int .i64 base⟩,⟨5,[],.int .i64 (-1)⟩]) (by rw [w8i (by omega) (by omega)]) (A4 (j:=3) [0] (k:=?_))
  refine D8 15 (x - 48) (by omega) (by omega) kr (A9 [0] [1,5] (k:=?_))
  refine C0 (A0 ?_)
  refine A1 (A1 ?_)
  refine G_p [0,0,0] [5,40] (k:=A0 ?_)
  refine B0 (b:=decide ((x - 48) ≥ base)) kr (fun hc3=>?_) (fun hc3=>?_)
  ·
   simp only [decide_eq_true_eq] at hc3
   refine A1 (B7 (E':=[⟨4,[],.int .i64 (-1)⟩]) [0] [4] (k:=?_))
   refine A0 (B4 ?_)
   refine A3 (B6 [.tmp 4] [.int .i64 (-1)] (k:=?_))
   refine ⟨congrArg (Value.int .i64) ?_,rfl⟩
   unfold M9 digC
   (repeat split) <;> omega
  ·
   simp only [decide_eq_false_iff_not] at hc3
   refine A8 (A0 ?_)
   refine A1 (B7 (E':=[⟨4,[],.int .i64 (x - 48)⟩]) [0,0] [4] (k:=?_))
   refine A0 (B4 ?_)
   refine B6 [.tmp 4] [.int .i64 (x - 48)] (k:=?_)
   refine ⟨congrArg (Value.int .i64) ?_,rfl⟩
   unfold M9 digC
   (repeat split) <;> omega
 ·
  simp only [Bool.and_eq_false_iff,decide_eq_false_iff_not] at hc1
  refine A1 (G_p [0,0,0,0,0,6,0] [0,1,5,16] (k:=?_))
  refine A0 (B0 (b:=(decide (x ≥ 97))&&(decide (x≤102))) kr (fun hc4=>?_) (fun hc4=>?_))
  ·
   simp only [Bool.and_eq_true,decide_eq_true_eq] at hc4
   refine A2 (B5 (E':=[⟨24,[],.int .u8 (IntKind.wrap .u8 (x - 97))⟩,⟨1,[],.int .i64 base⟩,⟨5,[],.int .i64 (-1)⟩]) [0,0] kr (j:=2) rfl ?_)
   refine B8 (E':=[⟨24,[],.int .u8 (x - 97)⟩,⟨1,[],.int .i64 base⟩,⟨5,[],.int .i64 (-1)⟩]) (by rw [w8i (by omega) (by omega)]) (A4 (j:=3) [0] (k:=?_))
   refine D8 25 (x - 97) (by omega) (by omega) kr (A4 (j:=4) [0] (k:=?_))
   refine D8 26 ((x - 97)+10) (by omega) (by omega) kr (A9 [0] [1,5] (k:=?_))
   refine C0 (A0 ?_)
   refine A1 (A1 ?_)
   refine B7 (E':=[⟨5,[],.int .i64 ((x - 97)+10)⟩,⟨40,[],.bool (decide (((x - 97)+10) ≥ base))⟩]) [0,0,0] [5,40] (k:=A0 ?_)
   refine B0 (b:=decide (((x - 97)+10) ≥ base)) kr (fun hc7=>?_) (fun hc7=>?_)
   ·
    simp only [decide_eq_true_eq] at hc7
    refine A1 (B7 (E':=[⟨4,[],.int .i64 (-1)⟩]) [0] [4] (k:=?_))
    refine A0 (B4 ?_)
    refine A3 (B6 [.tmp 4] [.int .i64 (-1)] (k:=?_))
    refine ⟨congrArg (Value.int .i64) ?_,rfl⟩
    unfold M9 digC
    (repeat split) <;> omega
   ·
    simp only [decide_eq_false_iff_not] at hc7
    refine A8 (A0 ?_)
    refine A1 (B7 (E':=[⟨4,[],.int .i64 ((x - 97)+10)⟩]) [0,0] [4] (k:=?_))
    refine A0 (B4 ?_)
    refine B6 [.tmp 4] [.int .i64 ((x - 97)+10)] (k:=?_)
    refine ⟨congrArg (Value.int .i64) ?_,rfl⟩
    unfold M9 digC
    (repeat split) <;> omega
  ·
   simp only [Bool.and_eq_false_iff,decide_eq_false_iff_not] at hc4
   refine A1 (G_p [0,0,0,0,0,6,0] [0,1,5,27] (k:=?_))
   refine A0 (B0 (b:=(decide (x ≥ 65))&&(decide (x≤70))) kr (fun hc8=>?_) (fun hc8=>?_))
   ·
    simp only [Bool.and_eq_true,decide_eq_true_eq] at hc8
    refine A2 (B5 (E':=[⟨35,[],.int .u8 (IntKind.wrap .u8 (x - 65))⟩,⟨1,[],.int .i64 base⟩,⟨5,[],.int .i64 (-1)⟩]) [0,0] kr (j:=2) rfl ?_)
    refine B8 (E':=[⟨35,[],.int .u8 (x - 65)⟩,⟨1,[],.int .i64 base⟩,⟨5,[],.int .i64 (-1)⟩]) (by rw [w8i (by omega) (by omega)]) (A4 (j:=3) [0] (k:=?_))
    refine D8 36 (x - 65) (by omega) (by omega) kr (A4 (j:=4) [0] (k:=?_))
    refine D8 37 ((x - 65)+10) (by omega) (by omega) kr (B2 (E':=[⟨1,[],.int .i64 base⟩,⟨5,[],.int .i64 ((x - 65)+10)⟩]) [0] [1,5] (k:=?_))
    refine C0 (A0 ?_)
    refine A1 (A1 ?_)
    refine G_p [0,0,0] [5,40] (k:=A0 ?_)
    refine B0 (b:=decide (((x - 65)+10) ≥ base)) kr (fun hc11=>?_) (fun hc11=>?_)
    ·
     simp only [decide_eq_true_eq] at hc11
     refine A1 (B7 (E':=[⟨4,[],.int .i64 (-1)⟩]) [0] [4] (k:=?_))
     refine A0 (B4 ?_)
     refine A3 (B6 [.tmp 4] [.int .i64 (-1)] (k:=?_))
     refine ⟨congrArg (Value.int .i64) ?_,rfl⟩
     unfold M9 digC
     (repeat split) <;> omega
    ·
     simp only [decide_eq_false_iff_not] at hc11
     refine A8 (A0 ?_)
     refine A1 (B7 (E':=[⟨4,[],.int .i64 ((x - 65)+10)⟩]) [0,0] [4] (k:=?_))
     refine A0 (B4 ?_)
     refine B6 [.tmp 4] [.int .i64 ((x - 65)+10)] (k:=?_)
     refine ⟨congrArg (Value.int .i64) ?_,rfl⟩
     unfold M9 digC
     (repeat split) <;> omega
   ·
    simp only [Bool.and_eq_false_iff,decide_eq_false_iff_not] at hc8
    refine A8 (C0 ?_)
    refine A0 (A1 ?_)
    refine A1 (B7 (E':=[⟨5,[],.int .i64 (-1)⟩,⟨40,[],.bool (decide ((-1) ≥ base))⟩]) [0,0,0] [5,40] (k:=?_))
    refine A0 (B0 (b:=decide ((-1) ≥ base)) kr (fun hc12=>?_) (fun hc12=>?_))
    ·
     simp only [decide_eq_true_eq] at hc12
     refine A1 (B7 (E':=[⟨4,[],.int .i64 (-1)⟩]) [0] [4] (k:=?_))
     refine A0 (B4 ?_)
     refine A3 (B6 [.tmp 4] [.int .i64 (-1)] (k:=?_))
     refine ⟨congrArg (Value.int .i64) ?_,rfl⟩
     unfold M9 digC
     (repeat split) <;> omega
    ·
     simp only [decide_eq_false_iff_not] at hc12
     refine A8 (A0 ?_)
     refine A1 (B7 (E':=[⟨4,[],.int .i64 (-1)⟩]) [0,0] [4] (k:=?_))
     refine A0 (B4 ?_)
     refine B6 [.tmp 4] [.int .i64 (-1)] (k:=?_)
     refine ⟨congrArg (Value.int .i64) ?_,rfl⟩
     unfold M9 digC
     (repeat split) <;> omega
theorem starts_ (s t:ByteArray) (_:s.size≤1000000000000) (ht:t.size≤1000000000000) (W0:World) (H:List Grp):Tri Tryz.prog 178 #[.string s,.string t] W0 H (fun v H'=>v=.bool (G5 s t)∧H'=H):=by
 refine C5 (args:=[.string s,.string t]) (n:=18) Tryz.func178 rfl rfl (Nat.le_of_ble_eq_true rfl) ?_
 refine A1 (B7 (E':=[⟨0,[],.string s⟩,⟨1,[],.string t⟩]) [0] [0,1] (k:=?_))
 refine A0 (A1 ?_)
 refine A2 (A4 (j:=9) [0,0,0,0,0,0,0,0,0] (k:=?_))
 refine F1 (ch:=[(10,true)]) (s:=s) (vl:=none) (vh:=(some (.int .i64 (t.size:Int)))) (l:=0) (h:=(t.size:Int)) (hb:=(fun hc=>by have hg0:=H0 (t:=10) (c:=[]) (b:=decide ((s.size:Int) ≥ (t.size:Int))) hc kr; (try simp at hg0); omega)) (k:=A9 [0,0,6,0] [4] (k:=?_))
 refine A0 (B4 ?_)
 refine B6 [.tmp 4] [.bool ((decide ((s.size:Int) ≥ (t.size:Int)))&&((s.extract 0 t.size).toList==t.toList))] (k:=?_)
 exact ⟨by unfold G5; rfl,rfl⟩
theorem rnumber16_ (s:ByteArray) (m:Nat) (mi:Int) (hmi:mi=(m:Int)) (hm:m≤7) (hs:s.size≤1000000000000) (W0:World) (H:List Grp):Tri Tryz.prog 93 #[.string s,.int .i64 16,.int .i64 mi] W0 H (fun v H'=>v=.tuple #[.int .i64 (numD 16 m 0 s.data.toList).1,.int .i64 ((numD 16 m 0 s.data.toList).2:Int)]∧H'=H):=by
 refine C5 (args:=[.string s,.int .i64 16,.int .i64 mi]) (n:=40) Tryz.func93 rfl rfl (Nat.le_of_ble_eq_true rfl) ?_
 refine A1 (G_p [0,0] [0,1,2] (k:=?_))
 refine A0 (A1 ?_)
 refine G_p [0,0] [0,1,2,8,9] (k:=A0 ?_)
 refine A1 (B9 ?_)
 refine J5 (EI:=(fun ξ:Nat × Int=>[⟨0,[],.string s⟩,⟨1,[],.int .i64 16⟩,⟨2,[],.int .i64 mi⟩,⟨8,[],.int .i64 ξ.2⟩,⟨9,[],.int .i64 ((ξ.1:Nat):Int)⟩])) (HI:=(fun ξ:Nat × Int=>H)) (Φ:=(fun ξ:Nat × Int=>(ξ.1≤s.size)∧(ξ.1≤m)∧(0≤ξ.2)∧(ξ.2<16 ^ ξ.1)∧(numD 16 m 0 s.data.toList=((numD 16 (m - ξ.1) ξ.2 (s.data.toList.drop ξ.1)).1,(numD 16 (m - ξ.1) ξ.2 (s.data.toList.drop ξ.1)).2+ξ.1)))) (μ:=(fun ξ:Nat × Int=>s.size - ξ.1)) (s0:=(0,0)) [0,1,2,8,9] kr rfl ⟨(by omega),(by omega),(by decide),(by decide),rfl⟩ ?_
 rintro ⟨k,n⟩ ⟨hk,hkm,hn0,hn1,hT⟩
 dsimp only at hk hkm hn0 hn1 hT
 have hp:=pow16R (show k≤7 by omega)
 have hcr:=byte_rngR (s.data.toList.getD k 0)
 have hdr:=digB_rng ((s.data.toList.getD k 0).toNat:Int) 16 (by decide)
 have hbyte:A5 s (k:Int)=((s.data.toList.getD k 0).toNat:Int):=H8 s k
 refine A1 (A1 ?_)
 refine A2 (A4 (j:=12) [0,0,0,0,0,0,0,0,6,0,0,0] (k:=?_))
 refine D4 (ch:=[(19,true)]) (s:=s) (kd:=.i64) (j:=((k:Nat):Int)) (hb:=(fun hc=>by have hg0:=H0 (t:=19) (c:=[]) (b:=(decide (((k:Nat):Int)<(s.size:Int)))&&(decide (((k:Nat):Int)<mi))) hc kr; (try simp at hg0); omega)) (k:=?_)
 have hb1:=C2 s ((k:Nat):Int)
 refine B8 (E':=[⟨22,[(19,true)],.int .u8 ((s.data.toList.getD k 0).toNat:Int)⟩,⟨21,[(19,true)],.int .i64 ((k:Nat):Int)⟩,⟨20,[(19,true)],.string s⟩,⟨19,[],.bool ((decide (((k:Nat):Int)<(s.size:Int)))&&(decide (((k:Nat):Int)<mi)))⟩,⟨18,[],.bool ((decide (((k:Nat):Int)<(s.size:Int)))&&(decide (((k:Nat):Int)<mi)))⟩,⟨17,[(14,true)],.bool (decide (((k:Nat):Int)<mi))⟩,⟨16,[(14,true)],.int .i64 mi⟩,⟨15,[(14,true)],.int .i64 ((k:Nat):Int)⟩,⟨14,[],.bool (decide (((k:Nat):Int)<(s.size:Int)))⟩,⟨13,[],.bool (decide (((k:Nat):Int)<(s.size:Int)))⟩,⟨12,[],.int .i64 (s.size:Int)⟩,⟨11,[],.string s⟩,⟨10,[],.int .i64 ((k:Nat):Int)⟩,⟨0,[],.string s⟩,⟨1,[],.int .i64 16⟩,⟨2,[],.int .i64 mi⟩,⟨8,[],.int .i64 n⟩,⟨9,[],.int .i64 ((k:Nat):Int)⟩]) (by have hz:([⟨22,[(19,true)],.int .u8 (A5 s ((k:Nat):Int))⟩,⟨21,[(19,true)],.int .i64 ((k:Nat):Int)⟩,⟨20,[(19,true)],.string s⟩,⟨19,[],.bool ((decide (((k:Nat):Int)<(s.size:Int)))&&(decide (((k:Nat):Int)<mi)))⟩,⟨18,[],.bool ((decide (((k:Nat):Int)<(s.size:Int)))&&(decide (((k:Nat):Int)<mi)))⟩,⟨17,[(14,true)],.bool (decide (((k:Nat):Int)<mi))⟩,⟨16,[(14,true)],.int .i64 mi⟩,⟨15,[(14,true)],.int .i64 ((k:Nat):Int)⟩,⟨14,[],.bool (decide (((k:Nat):Int)<(s.size:Int)))⟩,⟨13,[],.bool (decide (((k:Nat):Int)<(s.size:Int)))⟩,⟨12,[],.int .i64 (s.size:Int)⟩,⟨11,[],.string s⟩,⟨10,[],.int .i64 ((k:Nat):Int)⟩,⟨0,[],.string s⟩,⟨1,[],.int .i64 16⟩,⟨2,[],.int .i64 mi⟩,⟨8,[],.int .i64 n⟩,⟨9,[],.int .i64 ((k:Nat):Int)⟩]:List Sl)=[⟨22,[(19,true)],.int .u8 ((s.data.toList.getD k 0).toNat:Int)⟩,⟨21,[(19,true)],.int .i64 ((k:Nat):Int)⟩,⟨20,[(19,true)],.string s⟩,⟨19,[],.bool ((decide (((k:Nat):Int)<(s.size:Int)))&&(decide (((k:Nat):Int)<mi)))⟩,⟨18,[],.bool ((decide (((k:Nat):Int)<(s.size:Int)))&&(decide (((k:Nat):Int)<mi)))⟩,⟨17,[(14,true)],.bool (decide (((k:Nat):Int)<mi))⟩,⟨16,[(14,true)],.int .i64 mi⟩,⟨15,[(14,true)],.int .i64 ((k:Nat):Int)⟩,⟨14,[],.bool (decide (((k:Nat):Int)<(s.size:Int)))⟩,⟨13,[],.bool (decide (((k:Nat):Int)<(s.size:Int)))⟩,⟨12,[],.int .i64 (s.size:Int)⟩,⟨11,[],.string s⟩,⟨10,[],.int .i64 ((k:Nat):Int)⟩,⟨0,[],.string s⟩,⟨1,[],.int .i64 16⟩,⟨2,[],.int .i64 mi⟩,⟨8,[],.int .i64 n⟩,⟨9,[],.int .i64 ((k:Nat):Int)⟩]:=(by rw [hbyte]); exact Eq.trans kr hz) (A4 (j:=14) [0] (k:=?_))
 refine I7 (ch:=[(19,true)]) (f:=138) (fst:=#[]) (caps:=#[]) (vs:=[.int .u8 ((s.data.toList.getD k 0).toNat:Int),.int .i64 16]) (v:=.int .i64 (M9 ((s.data.toList.getD k 0).toNat:Int) 16)) (hf:=Tryz.func138) (hc:=(fun hc=>digit_ ((s.data.toList.getD k 0).toNat:Int) 16 (by omega) (by omega) _ _)) (k:=A9 [0,6] [0,1,2,8,9,26] (k:=?_))
 refine A0 (B0 (b:=((decide (((k:Nat):Int)<(s.size:Int)))&&(decide (((k:Nat):Int)<mi)))&&(decide ((M9 ((s.data.toList.getD k 0).toNat:Int) 16) ≥ 0))) kr (fun hc2=>?_) (fun hc2=>?_))
 ·
  simp only [Bool.and_eq_true,decide_eq_true_eq,ge_iff_le] at hc2
  refine A8 (A0 ?_)
  refine B9 (A1 ?_)
  refine A2 (A4 (j:=3) [0,0,0] (k:=?_))
  refine D8 29 (16 * n) (by omega) (by omega) kr (A4 (j:=5) [0,0] (k:=?_))
  refine D4 (ch:=[]) (s:=s) (kd:=.i64) (j:=((k:Nat):Int)) (hb:=(fun _=>by omega)) (k:=?_)
  have hb4:=C2 s ((k:Nat):Int)
  refine B8 (E':=[⟨32,[],.int .u8 ((s.data.toList.getD k 0).toNat:Int)⟩,⟨31,[],.int .i64 ((k:Nat):Int)⟩,⟨30,[],.string s⟩,⟨29,[],.int .i64 (16 * n)⟩,⟨28,[],.int .i64 n⟩,⟨27,[],.int .i64 16⟩,⟨0,[],.string s⟩,⟨1,[],.int .i64 16⟩,⟨2,[],.int .i64 mi⟩,⟨8,[],.int .i64 n⟩,⟨9,[],.int .i64 ((k:Nat):Int)⟩,⟨26,[],.bool (((decide (((k:Nat):Int)<(s.size:Int)))&&(decide (((k:Nat):Int)<mi)))&&(decide ((M9 ((s.data.toList.getD k 0).toNat:Int) 16) ≥ 0)))⟩]) (by have hz:([⟨32,[],.int .u8 (A5 s ((k:Nat):Int))⟩,⟨31,[],.int .i64 ((k:Nat):Int)⟩,⟨30,[],.string s⟩,⟨29,[],.int .i64 (16 * n)⟩,⟨28,[],.int .i64 n⟩,⟨27,[],.int .i64 16⟩,⟨0,[],.string s⟩,⟨1,[],.int .i64 16⟩,⟨2,[],.int .i64 mi⟩,⟨8,[],.int .i64 n⟩,⟨9,[],.int .i64 ((k:Nat):Int)⟩,⟨26,[],.bool (((decide (((k:Nat):Int)<(s.size:Int)))&&(decide (((k:Nat):Int)<mi)))&&(decide ((M9 ((s.data.toList.getD k 0).toNat:Int) 16) ≥ 0)))⟩]:List Sl)=[⟨32,[],.int .u8 ((s.data.toList.getD k 0).toNat:Int)⟩,⟨31,[],.int .i64 ((k:Nat):Int)⟩,⟨30,[],.string s⟩,⟨29,[],.int .i64 (16 * n)⟩,⟨28,[],.int .i64 n⟩,⟨27,[],.int .i64 16⟩,⟨0,[],.string s⟩,⟨1,[],.int .i64 16⟩,⟨2,[],.int .i64 mi⟩,⟨8,[],.int .i64 n⟩,⟨9,[],.int .i64 ((k:Nat):Int)⟩,⟨26,[],.bool (((decide (((k:Nat):Int)<(s.size:Int)))&&(decide (((k:Nat):Int)<mi)))&&(decide ((M9 ((s.data.toList.getD k 0).toNat:Int) 16) ≥ 0)))⟩]:=(by rw [hbyte]); exact Eq.trans kr hz) (A4 (j:=7) [0] (k:=?_))
  refine J1 Tryz.func138 (digit_ ((s.data.toList.getD k 0).toNat:Int) 16 (by omega) (by omega) _ _) (A4 (j:=9) [0] (k:=?_))
  refine D8 35 ((16 * n)+(M9 ((s.data.toList.getD k 0).toNat:Int) 16)) (by omega) (by omega) kr (A9 [0] [0,1,2,8,9] (k:=?_))
  refine A0 (A2 ?_)
  refine A4 (j:=2) [0,0] (k:=D8 37 (((k:Nat):Int)+1) (by omega) (by omega) kr ?_)
  refine A9 [0] [0,1,2,8,9] (k:=C0 ?_)
  refine F3 (s':=(k+1,(16 * n)+(M9 ((s.data.toList.getD k 0).toNat:Int) 16))) [0,1,2,8,9] kr rfl ⟨(by dsimp only; omega),(by dsimp only; omega),(by dsimp only; omega),(by dsimp only; rw [Int.pow_succ]; omega),(by dsimp only; exact numD_step (by rw [E0]; omega) (by omega) (by omega) hT)⟩ (by dsimp only; omega)
 ·
  simp only [Bool.and_eq_false_iff,decide_eq_false_iff_not,ge_iff_le] at hc2
  refine H5 (B1 ?_)
  refine B1 (C7 ?_)
  refine A0 (A1 ?_)
  refine G_p [0,0,0,0] [6,7] (k:=A0 ?_)
  refine B4 (B6 [.tmp 6,.tmp 7] [.int .i64 n,.int .i64 ((k:Nat):Int)] (k:=?_))
  have he:=numD_stop (l:=s.data.toList) (m:=m) (k:=k) (base:=16) (n:=n) (by rw [E0]; omega) hT
  exact ⟨by rw [he]; rfl,rfl⟩
end Go.Proofs.YtppgfiklmfoaeaaGreatDoor
namespace Go.Proofs.YtppgfiklmfoaeaaGreatDoor
open Go.Sw Go.Sha Go.Esc Go.RowKit Go.Json
def tapeG (t:Nat) (l:List UInt8) (z:Int):Grp:=[(t,.cells #[.string (bk l),.int .i64 z] 83 (0,0))]
theorem wrap_succ {k:Nat} (h:k≤1000000000000):IntKind.wrap .i64 ((k:Int)+1)=((k+1:Nat):Int):=by rw [w64 (by omega) (by omega),Int.natCast_add]; rfl
theorem ws_iff {b:UInt8}:wsB b=true ↔ (b.toNat:Int)=32∨(b.toNat:Int)=9∨(b.toNat:Int)=10∨(b.toNat:Int)=13:=by
  unfold wsB
  simp only [Bool.or_eq_true,beq_iff_eq]
  have h1:(b.toNat:Int)=32 ↔ b=32:=M6 (n:=32) (by decide)
  have h2:(b.toNat:Int)=9 ↔ b=9:=M6 (n:=9) (by decide)
  have h3:(b.toNat:Int)=10 ↔ b=10:=M6 (n:=10) (by decide)
  have h4:(b.toNat:Int)=13 ↔ b=13:=M6 (n:=13) (by decide)
  rw [h1,h2,h3,h4]
  constructor
  · rintro (((h | h) | h) | h)
    · exact .inl h
    · exact .inr (.inl h)
    · exact .inr (.inr (.inl h))
    · exact .inr (.inr (.inr h))
  · rintro (h | h | h | h)
    · exact .inl (.inl (.inl h))
    · exact .inl (.inl (.inr h))
    · exact .inl (.inr h)
    · exact .inr h
theorem ext_mid (l:List UInt8) (i j:Nat):(bk l).extract i j=bk ((l.drop i).take (j - i)):=ByteArray.ext (Array.ext' (ext_list (bk l) i j))
theorem rcount_ (s:ByteArray) (mi:Int) (hmi:(s.size:Int)≤mi) (hs:s.size≤1000000000000) (W0:World) (H:List Grp):Tri Tryz.prog 93 #[.string s,.int .i64 10,.int .i64 mi] W0 H (fun v H'=>(∃ n:Int,v=.tuple #[.int .i64 n,.int .i64 (digs s.data.toList:Int)])∧H'=H):=by
 refine C5 (args:=[.string s,.int .i64 10,.int .i64 mi]) (n:=40) Tryz.func93 rfl rfl (Nat.le_of_ble_eq_true rfl) ?_
 refine A1 (G_p [0,0] [0,1,2] (k:=?_))
 refine A0 (A1 ?_)
 refine G_p [0,0] [0,1,2,8,9] (k:=A0 ?_)
 refine A1 (B9 ?_)
 refine J5 (EI:=(fun ξ:Nat × Int=>[⟨0,[],.string s⟩,⟨1,[],.int .i64 10⟩,⟨2,[],.int .i64 mi⟩,⟨8,[],.int .i64 ξ.2⟩,⟨9,[],.int .i64 ((ξ.1:Nat):Int)⟩])) (HI:=(fun ξ:Nat × Int=>H)) (Φ:=(fun ξ:Nat × Int=>(ξ.1≤s.size)∧(digs s.data.toList=ξ.1+digs (s.data.toList.drop ξ.1)))) (μ:=(fun ξ:Nat × Int=>s.size - ξ.1)) (s0:=(0,0)) [0,1,2,8,9] kr rfl ⟨(Nat.zero_le _),(by rw [List.drop_zero,Nat.zero_add])⟩ ?_
 rintro ⟨k,n⟩ ⟨hk,hT⟩
 dsimp only at hk hT
 have hbyte:A5 s (k:Int)=((s.data.toList.getD k 0).toNat:Int):=H8 s k
 have hcr:=byte_rngR (s.data.toList.getD k 0)
 refine A1 (A1 ?_)
 refine A2 (A4 (j:=12) [0,0,0,0,0,0,0,0,6,0,0,0] (k:=?_))
 refine D4 (ch:=[(19,true)]) (s:=s) (kd:=.i64) (j:=((k:Nat):Int)) (hb:=(fun hc=>by have hg0:=H0 (t:=19) (c:=[]) (b:=(decide (((k:Nat):Int)<(s.size:Int)))&&(decide (((k:Nat):Int)<mi))) hc kr; (try simp at hg0); omega)) (k:=?_)
 have hb1:=C2 s ((k:Nat):Int)
 refine B8 (E':=[⟨22,[(19,true)],.int .u8 ((s.data.toList.getD k 0).toNat:Int)⟩,⟨21,[(19,true)],.int .i64 ((k:Nat):Int)⟩,⟨20,[(19,true)],.string s⟩,⟨19,[],.bool ((decide (((k:Nat):Int)<(s.size:Int)))&&(decide (((k:Nat):Int)<mi)))⟩,⟨18,[],.bool ((decide (((k:Nat):Int)<(s.size:Int)))&&(decide (((k:Nat):Int)<mi)))⟩,⟨17,[(14,true)],.bool (decide (((k:Nat):Int)<mi))⟩,⟨16,[(14,true)],.int .i64 mi⟩,⟨15,[(14,true)],.int .i64 ((k:Nat):Int)⟩,⟨14,[],.bool (decide (((k:Nat):Int)<(s.size:Int)))⟩,⟨13,[],.bool (decide (((k:Nat):Int)<(s.size:Int)))⟩,⟨12,[],.int .i64 (s.size:Int)⟩,⟨11,[],.string s⟩,⟨10,[],.int .i64 ((k:Nat):Int)⟩,⟨0,[],.string s⟩,⟨1,[],.int .i64 10⟩,⟨2,[],.int .i64 mi⟩,⟨8,[],.int .i64 n⟩,⟨9,[],.int .i64 ((k:Nat):Int)⟩]) (by have hz:([⟨22,[(19,true)],.int .u8 (A5 s ((k:Nat):Int))⟩,⟨21,[(19,true)],.int .i64 ((k:Nat):Int)⟩,⟨20,[(19,true)],.string s⟩,⟨19,[],.bool ((decide (((k:Nat):Int)<(s.size:Int)))&&(decide (((k:Nat):Int)<mi)))⟩,⟨18,[],.bool ((decide (((k:Nat):Int)<(s.size:Int)))&&(decide (((k:Nat):Int)<mi)))⟩,⟨17,[(14,true)],.bool (decide (((k:Nat):Int)<mi))⟩,⟨16,[(14,true)],.int .i64 mi⟩,⟨15,[(14,true)],.int .i64 ((k:Nat):Int)⟩,⟨14,[],.bool (decide (((k:Nat):Int)<(s.size:Int)))⟩,⟨13,[],.bool (decide (((k:Nat):Int)<(s.size:Int)))⟩,⟨12,[],.int .i64 (s.size:Int)⟩,⟨11,[],.string s⟩,⟨10,[],.int .i64 ((k:Nat):Int)⟩,⟨0,[],.string s⟩,⟨1,[],.int .i64 10⟩,⟨2,[],.int .i64 mi⟩,⟨8,[],.int .i64 n⟩,⟨9,[],.int .i64 ((k:Nat):Int)⟩]:List Sl)=[⟨22,[(19,true)],.int .u8 ((s.data.toList.getD k 0).toNat:Int)⟩,⟨21,[(19,true)],.int .i64 ((k:Nat):Int)⟩,⟨20,[(19,true)],.string s⟩,⟨19,[],.bool ((decide (((k:Nat):Int)<(s.size:Int)))&&(decide (((k:Nat):Int)<mi)))⟩,⟨18,[],.bool ((decide (((k:Nat):Int)<(s.size:Int)))&&(decide (((k:Nat):Int)<mi)))⟩,⟨17,[(14,true)],.bool (decide (((k:Nat):Int)<mi))⟩,⟨16,[(14,true)],.int .i64 mi⟩,⟨15,[(14,true)],.int .i64 ((k:Nat):Int)⟩,⟨14,[],.bool (decide (((k:Nat):Int)<(s.size:Int)))⟩,⟨13,[],.bool (decide (((k:Nat):Int)<(s.size:Int)))⟩,⟨12,[],.int .i64 (s.size:Int)⟩,⟨11,[],.string s⟩,⟨10,[],.int .i64 ((k:Nat):Int)⟩,⟨0,[],.string s⟩,⟨1,[],.int .i64 10⟩,⟨2,[],.int .i64 mi⟩,⟨8,[],.int .i64 n⟩,⟨9,[],.int .i64 ((k:Nat):Int)⟩]:=(by rw [hbyte]); exact Eq.trans kr hz) (A4 (j:=14) [0] (k:=?_))
 refine I7 (ch:=[(19,true)]) (f:=138) (fst:=#[]) (caps:=#[]) (vs:=[.int .u8 ((s.data.toList.getD k 0).toNat:Int),.int .i64 10]) (v:=.int .i64 (M9 ((s.data.toList.getD k 0).toNat:Int) 10)) (hf:=Tryz.func138) (hc:=(fun hc=>digit_ ((s.data.toList.getD k 0).toNat:Int) 10 (by omega) (by omega) _ _)) (k:=A9 [0,6] [0,1,2,8,9,26] (k:=?_))
 refine A0 (B0 (b:=((decide (((k:Nat):Int)<(s.size:Int)))&&(decide (((k:Nat):Int)<mi)))&&(decide ((M9 ((s.data.toList.getD k 0).toNat:Int) 10) ≥ 0))) kr (fun hc2=>?_) (fun hc2=>?_))
 ·
  simp only [Bool.and_eq_true,decide_eq_true_eq,ge_iff_le] at hc2
  refine A8 (A0 ?_)
  refine B9 (A1 ?_)
  refine A2 (A4 (j:=5) [0,0,0,0,0] (k:=?_))
  refine D4 (ch:=[]) (s:=s) (kd:=.i64) (j:=((k:Nat):Int)) (hb:=(fun _=>by omega)) (k:=?_)
  have hb3:=C2 s ((k:Nat):Int)
  refine B8 (E':=[⟨32,[],.int .u8 ((s.data.toList.getD k 0).toNat:Int)⟩,⟨31,[],.int .i64 ((k:Nat):Int)⟩,⟨30,[],.string s⟩,⟨29,[],.int .i64 (IntKind.wrap .i64 (10 * n))⟩,⟨28,[],.int .i64 n⟩,⟨27,[],.int .i64 10⟩,⟨0,[],.string s⟩,⟨1,[],.int .i64 10⟩,⟨2,[],.int .i64 mi⟩,⟨8,[],.int .i64 n⟩,⟨9,[],.int .i64 ((k:Nat):Int)⟩,⟨26,[],.bool (((decide (((k:Nat):Int)<(s.size:Int)))&&(decide (((k:Nat):Int)<mi)))&&(decide ((M9 ((s.data.toList.getD k 0).toNat:Int) 10) ≥ 0)))⟩]) (by have hz:([⟨32,[],.int .u8 (A5 s ((k:Nat):Int))⟩,⟨31,[],.int .i64 ((k:Nat):Int)⟩,⟨30,[],.string s⟩,⟨29,[],.int .i64 (IntKind.wrap .i64 (10 * n))⟩,⟨28,[],.int .i64 n⟩,⟨27,[],.int .i64 10⟩,⟨0,[],.string s⟩,⟨1,[],.int .i64 10⟩,⟨2,[],.int .i64 mi⟩,⟨8,[],.int .i64 n⟩,⟨9,[],.int .i64 ((k:Nat):Int)⟩,⟨26,[],.bool (((decide (((k:Nat):Int)<(s.size:Int)))&&(decide (((k:Nat):Int)<mi)))&&(decide ((M9 ((s.data.toList.getD k 0).toNat:Int) 10) ≥ 0)))⟩]:List Sl)=[⟨32,[],.int .u8 ((s.data.toList.getD k 0).toNat:Int)⟩,⟨31,[],.int .i64 ((k:Nat):Int)⟩,⟨30,[],.string s⟩,⟨29,[],.int .i64 (IntKind.wrap .i64 (10 * n))⟩,⟨28,[],.int .i64 n⟩,⟨27,[],.int .i64 10⟩,⟨0,[],.string s⟩,⟨1,[],.int .i64 10⟩,⟨2,[],.int .i64 mi⟩,⟨8,[],.int .i64 n⟩,⟨9,[],.int .i64 ((k:Nat):Int)⟩,⟨26,[],.bool (((decide (((k:Nat):Int)<(s.size:Int)))&&(decide (((k:Nat):Int)<mi)))&&(decide ((M9 ((s.data.toList.getD k 0).toNat:Int) 10) ≥ 0)))⟩]:=(by rw [hbyte]); exact Eq.trans kr hz) (A4 (j:=7) [0] (k:=?_))
  refine J1 Tryz.func138 (digit_ ((s.data.toList.getD k 0).toNat:Int) 10 (by omega) (by omega) _ _) (A9 [0,0] [0,1,2,8,9] (k:=?_))
  refine A0 (A2 ?_)
  refine B5 (E':=[⟨37,[],.int .i64 (IntKind.wrap .i64 (((k:Nat):Int)+1))⟩,⟨0,[],.string s⟩,⟨1,[],.int .i64 10⟩,⟨2,[],.int .i64 mi⟩,⟨8,[],.int .i64 (IntKind.wrap .i64 ((IntKind.wrap .i64 (10 * n))+(M9 ((s.data.toList.getD k 0).toNat:Int) 10)))⟩,⟨9,[],.int .i64 ((k:Nat):Int)⟩]) [0,0] kr (j:=2) rfl (B8 (E':=[⟨37,[],.int .i64 ((k+1:Nat):Int)⟩,⟨0,[],.string s⟩,⟨1,[],.int .i64 10⟩,⟨2,[],.int .i64 mi⟩,⟨8,[],.int .i64 (IntKind.wrap .i64 ((IntKind.wrap .i64 (10 * n))+(M9 ((s.data.toList.getD k 0).toNat:Int) 10)))⟩,⟨9,[],.int .i64 ((k:Nat):Int)⟩]) (by rw [wrap_succ (by omega)]) ?_)
  refine A9 [0] [0,1,2,8,9] (k:=C0 ?_)
  refine F3 (s':=(k+1,IntKind.wrap .i64 ((IntKind.wrap .i64 (10 * n))+(M9 ((s.data.toList.getD k 0).toNat:Int) 10)))) [0,1,2,8,9] kr rfl ⟨(by dsimp only; omega),(by dsimp only; exact digs_loop (by rw [E0]; omega) (by omega) hT)⟩ (by dsimp only; omega)
 ·
  simp only [Bool.and_eq_false_iff,decide_eq_false_iff_not,ge_iff_le] at hc2
  refine H5 (B1 ?_)
  refine B1 (C7 ?_)
  refine A0 (A1 ?_)
  refine G_p [0,0,0,0] [6,7] (k:=A0 ?_)
  refine B4 (B6 [.tmp 6,.tmp 7] [.int .i64 n,.int .i64 ((k:Nat):Int)] (k:=?_))
  have he:=digs_end (l:=s.data.toList) (k:=k) (by rw [E0]; omega) hT
  exact ⟨⟨_,by rw [he]; rfl⟩,rfl⟩
theorem rcountX_ (l:List UInt8) (k:Nat) (mi:Int) (hmi:(l.length:Int)≤mi) (hl:l.length≤1000000000000) (W0:World) (H:List Grp):Tri Tryz.prog 93 #[.string ((bk l).extract k (bk l).size),.int .i64 10,.int .i64 mi] W0 H (fun v H'=>(∃ n:Int,v=.tuple #[.int .i64 n,.int .i64 (digs (l.drop k):Int)])∧H'=H):=by
  have h:=rcount_ ((bk l).extract k (bk l).size) mi (by rw [ext_bk,D3,List.length_drop]; omega) (by rw [ext_bk,D3,List.length_drop]; omega) W0 H
  rwa [I5] at h
theorem O5 (t:Nat) (l:List UInt8) (i:Nat) (hl:l.length≤1000000) (hi:i≤l.length) (W0:World) (H:List Grp):Tri Tryz.prog 50 #[pt t] W0 ([(t,.cells #[.string (bk l),.int .i64 ((i:Nat):Int)] 83 (0,0))]::H) (fun _ H'=>∃ j,l.drop j=blk (l.drop i)∧j≤l.length∧H'=tapeG t l (j:Int)::H):=by
  have hbz:=D3 l
  refine C5 (args:=[pt t]) (n:=67) Tryz.func50 rfl rfl (Nat.le_of_ble_eq_true rfl) ?_
  refine B9 (J5 (EI:=(fun ξ:Nat=>[⟨0,[],pt t⟩])) (HI:=(fun ξ:Nat=>([(t,.cells #[.string (bk l),.int .i64 ((ξ:Nat):Int)] 83 (0,0))]::H))) (Φ:=(fun ξ:Nat=>(ξ≤l.length)∧(blk (l.drop ξ)=blk (l.drop i)))) (μ:=(fun ξ:Nat=>l.length - ξ)) (s0:=(i)) [0] kr rfl ⟨hi,rfl⟩ ?_)
  rintro j ⟨hj,hT⟩
  refine A1 (A1 ?_)
  refine J4 (k:=A4 (j:=3) [0,0,0] (k:=?_))
  refine A6 (ch:=[]) (b:=t) (off:=1) (v:=.int .i64 ((j:Nat):Int)) (hA:=At.grp 0 0 rfl rfl) (k:=A4 (j:=7) [0,0,0] (k:=?_))
  refine A6 (ch:=[]) (b:=t) (off:=0) (v:=.string (bk l)) (hA:=At.grp 0 0 rfl rfl) (k:=A4 (j:=14) [0,0,0,0,0,0] (k:=?_))
  refine A6 (ch:=[(12,true)]) (b:=t) (off:=0) (v:=.string (bk l)) (hA:=At.grp 0 0 rfl rfl) (k:=A4 (j:=18) [0,0,0] (k:=?_))
  refine A6 (ch:=[(12,true)]) (b:=t) (off:=1) (v:=.int .i64 ((j:Nat):Int)) (hA:=At.grp 0 0 rfl rfl) (k:=D4 (ch:=[(12,true)]) (s:=(bk l)) (kd:=.i64) (j:=((j:Nat):Int)) (hb:=(fun hc=>by have hg0:=H0 (t:=12) (c:=[]) (b:=decide (((j:Nat):Int)<((bk l).size:Int))) hc kr; (try simp at hg0); omega)) (k:=?_))
  have hb1:=C2 (bk l) ((j:Nat):Int)
  refine A4 (j:=25) [0,0,0,0,0] (k:=A6 (ch:=[(23,false),(12,true)]) (b:=t) (off:=0) (v:=.string (bk l)) (hA:=At.grp 0 0 rfl rfl) (k:=?_))
  refine A4 (j:=29) [0,0,0] (k:=A6 (ch:=[(23,false),(12,true)]) (b:=t) (off:=1) (v:=.int .i64 ((j:Nat):Int)) (hA:=At.grp 0 0 rfl rfl) (k:=?_))
  refine D4 (ch:=[(23,false),(12,true)]) (s:=(bk l)) (kd:=.i64) (j:=((j:Nat):Int)) (hb:=(fun hc=>by have hg0:=H0 (t:=23) (c:=[(12,true)]) (b:=(A5 (bk l) ((j:Nat):Int))==32) hc kr; have hg1:=H0 (t:=12) (c:=[]) (b:=decide (((j:Nat):Int)<((bk l).size:Int))) (chB_tl hc) kr; (try simp at hg0 hg1); omega)) (k:=?_)
  have hb2:=C2 (bk l) ((j:Nat):Int)
  refine A4 (j:=37) [0,5,0,0,0,0] (k:=A6 (ch:=[(35,false),(12,true)]) (b:=t) (off:=0) (v:=.string (bk l)) (hA:=At.grp 0 0 rfl rfl) (k:=?_))
  refine A4 (j:=41) [0,0,0] (k:=A6 (ch:=[(35,false),(12,true)]) (b:=t) (off:=1) (v:=.int .i64 ((j:Nat):Int)) (hA:=At.grp 0 0 rfl rfl) (k:=?_))
  refine D4 (ch:=[(35,false),(12,true)]) (s:=(bk l)) (kd:=.i64) (j:=((j:Nat):Int)) (hb:=(fun hc=>by have hg0:=H0 (t:=35) (c:=[(12,true)]) (b:=((A5 (bk l) ((j:Nat):Int))==32)||((A5 (bk l) ((j:Nat):Int))==9)) hc kr; have hg1:=H0 (t:=12) (c:=[]) (b:=decide (((j:Nat):Int)<((bk l).size:Int))) (chB_tl hc) kr; (try simp at hg0 hg1); omega)) (k:=?_)
  have hb3:=C2 (bk l) ((j:Nat):Int)
  refine A4 (j:=49) [0,5,0,0,0,0] (k:=A6 (ch:=[(47,false),(12,true)]) (b:=t) (off:=0) (v:=.string (bk l)) (hA:=At.grp 0 0 rfl rfl) (k:=?_))
  refine A4 (j:=53) [0,0,0] (k:=A6 (ch:=[(47,false),(12,true)]) (b:=t) (off:=1) (v:=.int .i64 ((j:Nat):Int)) (hA:=At.grp 0 0 rfl rfl) (k:=?_))
  refine D4 (ch:=[(47,false),(12,true)]) (s:=(bk l)) (kd:=.i64) (j:=((j:Nat):Int)) (hb:=(fun hc=>by have hg0:=H0 (t:=47) (c:=[(12,true)]) (b:=(((A5 (bk l) ((j:Nat):Int))==32)||((A5 (bk l) ((j:Nat):Int))==9))||((A5 (bk l) ((j:Nat):Int))==10)) hc kr; have hg1:=H0 (t:=12) (c:=[]) (b:=decide (((j:Nat):Int)<((bk l).size:Int))) (chB_tl hc) kr; (try simp at hg0 hg1); omega)) (k:=?_)
  have hb4:=C2 (bk l) ((j:Nat):Int)
  refine A9 [0,5,6] [0,59] (k:=A0 ?_)
  refine B0 (b:=(decide (((j:Nat):Int)<((bk l).size:Int)))&&(((((A5 (bk l) ((j:Nat):Int))==32)||((A5 (bk l) ((j:Nat):Int))==9))||((A5 (bk l) ((j:Nat):Int))==10))||((A5 (bk l) ((j:Nat):Int))==13))) kr (fun hc5=>?_) (fun hc5=>?_)
  ·
    simp only [Bool.and_eq_true,Bool.or_eq_true,decide_eq_true_eq,beq_iff_eq,E5] at hc5
    have hw:wsB (l.getD j 0)=true:=ws_iff.2 (by omega)
    refine A8 (A0 ?_)
    refine B9 (A2 ?_)
    refine A4 (j:=3) [0,0,0] (k:=A6 (ch:=[]) (b:=t) (off:=1) (v:=.int .i64 ((j:Nat):Int)) (hA:=At.grp 0 0 rfl rfl) (k:=?_))
    have hw6:IntKind.wrap .i64 (((j:Nat):Int)+1)=((j:Nat):Int)+1:=w64 (by omega) (by omega)
    refine B5 (E':=[⟨64,[],.int .i64 (((j:Nat):Int)+1)⟩,⟨60,[],pt t⟩,⟨0,[],pt t⟩]) [0] (Eq.trans (b:=some [⟨64,[],.int .i64 (IntKind.wrap .i64 (((j:Nat):Int)+1))⟩,⟨60,[],pt t⟩,⟨0,[],pt t⟩]) kr (by simp only [hw6])) (j:=5) rfl (B8 (E':=[⟨64,[],.int .i64 ((j+1:Nat):Int)⟩,⟨60,[],pt t⟩,⟨0,[],pt t⟩]) (by rw [show ((j:Nat):Int)+1=((j+1:Nat):Int) by omega]) ?_)
    refine A4 (j:=7) [0,0] (k:=D2 (ch:=[]) (b:=t) (off:=1) (v:=.int .i64 ((j+1:Nat):Int)) (j:=0) ([(t,.cells #[.string (bk l),.int .i64 ((j+1:Nat):Int)] 83 (0,0))]::H) (hoff:=Nat.le_of_ble_eq_true rfl) (hfz:=(fun _ _=>C6)) (k:=?_))
    refine B2 (E':=[⟨0,[],pt t⟩]) [] [0] (k:=C0 ?_)
    refine F3 (s':=(j+1)) [0] kr rfl ⟨(by omega),((blk_yes (by omega) hw).symm.trans hT)⟩ (by omega)
  ·
    simp only [Bool.and_eq_false_iff,Bool.or_eq_false_iff,decide_eq_false_iff_not,beq_eq_false_iff_ne,ne_eq,E5] at hc5
    have hw:l.length≤j∨wsB (l.getD j 0)=false:=by
      rcases Nat.lt_or_ge j l.length with h | h
      · right; rw [← Bool.not_eq_true]; intro hn; have:=ws_iff.1 hn; omega
      · exact .inl h
    refine H5 (B1 ?_)
    refine B1 (C7 ?_)
    refine B6 [] [] (k:=?_)
    exact ⟨j,(blk_no hw).symm.trans hT,hj,rfl⟩
theorem rnext_ (t:Nat) (l:List UInt8) (i:Nat) (W0:World) (H:List Grp):Tri Tryz.prog 83 #[pt t] W0 ([(t,.cells #[.string (bk l),.int .i64 ((i:Nat):Int)] 83 (0,0))]::H) (fun v H'=>v=.int .u8 ((l.getD i 0).toNat:Int)∧H'=tapeG t l (i:Int)::H):=by
 have hbz:=D3 l
 refine C5 (args:=[pt t]) (n:=22) Tryz.func83 rfl rfl (Nat.le_of_ble_eq_true rfl) ?_
 refine A1 (B7 (E':=[⟨0,[],pt t⟩]) [0] [0] (k:=?_))
 refine A0 (A1 ?_)
 refine A1 (J4 (k:=?_))
 refine A4 (j:=3) [0,0,0] (k:=A6 (ch:=[]) (b:=t) (off:=1) (v:=.int .i64 ((i:Nat):Int)) (hA:=At.grp 0 0 rfl rfl) (k:=?_))
 refine A4 (j:=7) [0,0,0] (k:=A6 (ch:=[]) (b:=t) (off:=0) (v:=.string (bk l)) (hA:=At.grp 0 0 rfl rfl) (k:=?_))
 refine A9 [0,0] [0,12] (k:=A0 ?_)
 refine B0 (b:=decide (((i:Nat):Int)<((bk l).size:Int))) kr (fun hc1=>?_) (fun hc1=>?_)
 ·
  simp only [decide_eq_true_eq] at hc1
  refine A1 (J4 (k:=?_))
  refine A4 (j:=3) [0,0,0] (k:=A6 (ch:=[]) (b:=t) (off:=0) (v:=.string (bk l)) (hA:=At.grp 0 0 rfl rfl) (k:=?_))
  refine A4 (j:=7) [0,0,0] (k:=A6 (ch:=[]) (b:=t) (off:=1) (v:=.int .i64 ((i:Nat):Int)) (hA:=At.grp 0 0 rfl rfl) (k:=?_))
  refine D4 (ch:=[]) (s:=(bk l)) (kd:=.i64) (j:=((i:Nat):Int)) (hb:=(fun _=>by omega)) (k:=?_)
  have hb2:=C2 (bk l) ((i:Nat):Int)
  refine A9 [0] [2] (k:=A0 ?_)
  refine B4 (A3 ?_)
  refine B6 [.tmp 2] [.int .u8 (A5 (bk l) ((i:Nat):Int))] (k:=?_)
  exact ⟨congrArg (Value.int .u8) (E5 _ _),rfl⟩
 ·
  simp only [decide_eq_false_iff_not] at hc1
  refine A8 (A0 ?_)
  refine A1 (B7 (E':=[⟨2,[],.int .u8 0⟩]) [0] [2] (k:=?_))
  refine A0 (B4 ?_)
  refine B6 [.tmp 2] [.int .u8 0] (k:=?_)
  exact ⟨by rw [drop_none (by omega)]; rfl,rfl⟩
theorem toNatA (i k:Nat):Int.toNat ((i:Int)+(k:Int))=i+k:=by omega
theorem rword_ (t:Nat) (l:List UInt8) (i:Nat) (hl:l.length≤1000000) (w:ByteArray) (hw0:w.size≤100) (hi:i≤l.length) (W0:World) (H:List Grp):Tri Tryz.prog 84 #[pt t,.string w] W0 ([(t,.cells #[.string (bk l),.int .i64 ((i:Nat):Int)] 83 (0,0))]::H) (fun v H'=>((l.drop i).take w.size=w.data.toList∧i+w.size≤l.length∧v=.bool true∧H'=tapeG t l ((i+w.size:Nat):Int)::H)∨(¬ (l.drop i).take w.size=w.data.toList∧v=.bool false∧H'=tapeG t l (i:Int)::H)):=by
  have hbz:=D3 l
  refine C5 (args:=[pt t,.string w]) (n:=47) Tryz.func84 rfl rfl (Nat.le_of_ble_eq_true rfl) ?_
  refine A1 (B7 (E':=[⟨0,[],pt t⟩,⟨1,[],.string w⟩]) [0] [0,1] (k:=?_))
  refine A0 (A1 ?_)
  refine A1 (J4 (k:=?_))
  refine A4 (j:=3) [0,0,0] (k:=A6 (ch:=[]) (b:=t) (off:=0) (v:=.string (bk l)) (hA:=At.grp 0 0 rfl rfl) (k:=?_))
  refine A4 (j:=8) [0,0,0,0] (k:=A6 (ch:=[]) (b:=t) (off:=1) (v:=.int .i64 ((i:Nat):Int)) (hA:=At.grp 0 0 rfl rfl) (k:=?_))
  refine A4 (j:=10) [0] (k:=D8 14 (((bk l).size:Int) - ((i:Nat):Int)) (by omega) (by omega) kr ?_)
  refine A4 (j:=17) [0,0,0,0,0,0,0] (k:=A6 (ch:=[(18,false)]) (b:=t) (off:=0) (v:=.string (bk l)) (hA:=At.grp 0 0 rfl rfl) (k:=?_))
  refine A4 (j:=21) [0,0,0] (k:=A6 (ch:=[(18,false)]) (b:=t) (off:=1) (v:=.int .i64 ((i:Nat):Int)) (hA:=At.grp 0 0 rfl rfl) (k:=?_))
  refine A4 (j:=25) [0,0,0] (k:=A6 (ch:=[(18,false)]) (b:=t) (off:=1) (v:=.int .i64 ((i:Nat):Int)) (hA:=At.grp 0 0 rfl rfl) (k:=?_))
  have hw2:IntKind.wrap .i64 (((i:Nat):Int)+(w.size:Int))=((i:Nat):Int)+(w.size:Int):=w64 (by omega) (by omega)
  refine B5 (E':=[⟨33,[(18,false)],.int .i64 (((i:Nat):Int)+(w.size:Int))⟩,⟨26,[(18,false)],.int .i64 ((i:Nat):Int)⟩,⟨22,[(18,false)],.string (bk l)⟩,⟨18,[],.bool (decide ((((bk l).size:Int) - ((i:Nat):Int))<(w.size:Int)))⟩,⟨0,[],pt t⟩,⟨1,[],.string w⟩]) [0,0,0] (Eq.trans (b:=some [⟨33,[(18,false)],.int .i64 (IntKind.wrap .i64 (((i:Nat):Int)+(w.size:Int)))⟩,⟨26,[(18,false)],.int .i64 ((i:Nat):Int)⟩,⟨22,[(18,false)],.string (bk l)⟩,⟨18,[],.bool (decide ((((bk l).size:Int) - ((i:Nat):Int))<(w.size:Int)))⟩,⟨0,[],pt t⟩,⟨1,[],.string w⟩]) kr (by simp only [hw2])) (j:=29) rfl (F1 (ch:=[(18,false)]) (s:=(bk l)) (vl:=(some (.int .i64 ((i:Nat):Int)))) (vh:=(some (.int .i64 (((i:Nat):Int)+(w.size:Int))))) (l:=((i:Nat):Int)) (h:=((i:Nat):Int)+(w.size:Int)) (hb:=(fun hc=>by have hg0:=H0 (t:=18) (c:=[]) (b:=decide ((((bk l).size:Int) - ((i:Nat):Int))<(w.size:Int))) hc kr; (try simp at hg0); omega)) (k:=?_))
  refine B8 (E':=[⟨34,[(18,false)],.string (bk ((l.drop i).take w.size))⟩,⟨33,[(18,false)],.int .i64 (((i:Nat):Int)+(w.size:Int))⟩,⟨26,[(18,false)],.int .i64 ((i:Nat):Int)⟩,⟨22,[(18,false)],.string (bk l)⟩,⟨18,[],.bool (decide ((((bk l).size:Int) - ((i:Nat):Int))<(w.size:Int)))⟩,⟨0,[],pt t⟩,⟨1,[],.string w⟩]) (by have hz:([⟨34,[(18,false)],.string ((bk l).extract i (Int.toNat (((i:Nat):Int)+(w.size:Int))))⟩,⟨33,[(18,false)],.int .i64 (((i:Nat):Int)+(w.size:Int))⟩,⟨26,[(18,false)],.int .i64 ((i:Nat):Int)⟩,⟨22,[(18,false)],.string (bk l)⟩,⟨18,[],.bool (decide ((((bk l).size:Int) - ((i:Nat):Int))<(w.size:Int)))⟩,⟨0,[],pt t⟩,⟨1,[],.string w⟩]:List Sl)=[⟨34,[(18,false)],.string (bk ((l.drop i).take w.size))⟩,⟨33,[(18,false)],.int .i64 (((i:Nat):Int)+(w.size:Int))⟩,⟨26,[(18,false)],.int .i64 ((i:Nat):Int)⟩,⟨22,[(18,false)],.string (bk l)⟩,⟨18,[],.bool (decide ((((bk l).size:Int) - ((i:Nat):Int))<(w.size:Int)))⟩,⟨0,[],pt t⟩,⟨1,[],.string w⟩]:=(by rw [toNatA,ext_mid,Nat.add_sub_cancel_left]); exact Eq.trans kr hz) (A9 [0,0,5] [0,1,37] (k:=?_))
  refine A0 (B0 (b:=(decide ((((bk l).size:Int) - ((i:Nat):Int))<(w.size:Int)))||(!((bk ((l.drop i).take w.size)).toList==w.toList))) kr (fun hc3=>?_) (fun hc3=>?_))
  ·
    simp only [Bool.or_eq_true,Bool.not_eq_true',decide_eq_true_eq,beq_eq_false_iff_ne,ne_eq] at hc3
    have hz:¬ (l.drop i).take w.size=w.data.toList:=by
      rcases hc3 with h | h
      · intro hn; have:=congrArg List.length hn; rw [List.length_take,List.length_drop,E0] at this; omega
      · exact (eqBf (bk ((l.drop i).take w.size)) w).1 (by rw [beq_eq_false_iff_ne]; exact h)
    refine A1 (B7 (E':=[⟨4,[],.bool false⟩]) [0] [4] (k:=?_))
    refine A0 (B4 ?_)
    refine A3 (B6 [.tmp 4] [.bool false] (k:=?_))
    exact .inr ⟨hz,rfl,rfl⟩
  ·
    simp only [Bool.or_eq_false_iff,Bool.not_eq_false',decide_eq_false_iff_not,beq_iff_eq] at hc3
    have hz:(l.drop i).take w.size=w.data.toList:=(eqB (bk ((l.drop i).take w.size)) w).1 (by rw [beq_iff_eq]; exact hc3.2)
    refine A8 (A0 ?_)
    refine A1 (A2 ?_)
    refine A4 (j:=3) [0,0,0] (k:=A6 (ch:=[]) (b:=t) (off:=1) (v:=.int .i64 ((i:Nat):Int)) (hA:=At.grp 0 0 rfl rfl) (k:=?_))
    have hw4:IntKind.wrap .i64 (((i:Nat):Int)+(w.size:Int))=((i:Nat):Int)+(w.size:Int):=w64 (by omega) (by omega)
    refine B5 (E':=[⟨44,[],.int .i64 (((i:Nat):Int)+(w.size:Int))⟩,⟨38,[],pt t⟩]) [0,0,0] (Eq.trans (b:=some [⟨44,[],.int .i64 (IntKind.wrap .i64 (((i:Nat):Int)+(w.size:Int)))⟩,⟨38,[],pt t⟩]) kr (by simp only [hw4])) (j:=7) rfl (B8 (E':=[⟨44,[],.int .i64 ((i+w.size:Nat):Int)⟩,⟨38,[],pt t⟩]) (by rw [show ((i:Nat):Int)+(w.size:Int)=((i+w.size:Nat):Int) by omega]) ?_)
    refine A4 (j:=9) [0,0] (k:=D2 (ch:=[]) (b:=t) (off:=1) (v:=.int .i64 ((i+w.size:Nat):Int)) (j:=0) ([(t,.cells #[.string (bk l),.int .i64 ((i+w.size:Nat):Int)] 83 (0,0))]::H) (hoff:=Nat.le_of_ble_eq_true rfl) (hfz:=(fun _ _=>C6)) (k:=?_))
    refine B2 (E':=[]) [] [] (k:=A0 ?_)
    refine A1 (B7 (E':=[⟨4,[],.bool true⟩]) [0] [4] (k:=?_))
    refine A0 (B4 ?_)
    refine B6 [.tmp 4] [.bool true] (k:=?_)
    exact .inl ⟨hz,by omega,rfl,rfl⟩
end Go.Proofs.YtppgfiklmfoaeaaGreatDoor
namespace Go.Proofs.YtppgfiklmfoaeaaGreatDoor
open Go.Sw Go.Sha Go.Esc Go.RowKit
theorem dj_go {sv:ByteArray} {i m:Nat} {b:UInt8} {t:List UInt8} {p:Int} (hL:(sv.extract i sv.size).data.toList=b::t) (h92:(b.toNat:Int)=92) (he:F4 (sv.extract i sv.size).data.toList=(p,m)) (hq:¬ p<0):ujL (sv.data.toList.drop i)=(ujL (sv.data.toList.drop (i+m))).map (Lib.encodeRune p++·):=by
  have h:=(djC hL h92).2 (by rw [he]; exact hq)
  rw [he] at h
  dsimp only at h
  rw [I5] at h
  rw [h,List.drop_drop]
theorem dj_pos {sv:ByteArray} {i m:Nat} {p:Int} (hi:i<sv.size) (he:F4 (sv.extract i sv.size).data.toList=(p,m)) (hq:¬ p<0):i+m≤sv.size:=by
  have:=(escM_pos (l:=(sv.extract i sv.size).data.toList) (by rw [he]; show 0≤p; omega)).2.1
  rw [he,E0,L8] at this; dsimp only at this; omega
theorem dj_six {sv:ByteArray} {i:Nat} (hi:i<sv.size) (h:0≤C3 (sv.extract i sv.size).data.toList):i+6≤sv.size:=by
  have:=unitM_len h
  rw [E0,L8] at this; omega
theorem runit_ (s:ByteArray) (hs:s.size≤1000000000000) (W0:World) (H:List Grp):Tri Tryz.prog 160 #[.string s] W0 H (fun v H'=>v=.int .i64 (C3 s.data.toList)∧H'=H):=by
 refine C5 (args:=[.string s]) (n:=17) Tryz.func160 rfl rfl (Nat.le_of_ble_eq_true rfl) ?_
 refine A1 (B7 (E':=[⟨0,[],.string s⟩]) [0] [0] (k:=?_))
 refine A0 (A1 ?_)
 refine A1 (A2 ?_)
 refine A4 (j:=1) [0] (k:=J1 Tryz.func178 (starts_ s (ByteArray.mk #[92,117]) (by (try rw [L8]); omega) (Nat.le_of_ble_eq_true rfl) _ _) ?_)
 refine A9 [0] [0,7] (k:=A0 ?_)
 refine B0 (b:=!(G5 s (ByteArray.mk #[92,117]))) kr (fun hc1=>?_) (fun hc1=>?_)
 ·
  simp only [Bool.not_eq_true'] at hc1
  have hc:¬ s.data.toList.take 2=[92,117]:=(K2 _ _).1 hc1
  refine A1 (B7 (E':=[⟨2,[],.int .i64 (-1)⟩]) [0] [2] (k:=?_))
  refine A0 (B4 ?_)
  refine A3 (B6 [.tmp 2] [.int .i64 (-1)] (k:=?_))
  exact ⟨congrArg (Value.int .i64) (by rw [← unitD_eq]; unfold unitD; rw [if_pos hc]),rfl⟩
 ·
  simp only [Bool.not_eq_false'] at hc1
  have hc:s.data.toList.take 2=[92,117]:=(K5 _ _).1 hc1
  have hz:=tk_len2 hc
  have hnd:=numD_le 16 4 0 (s.extract 2 s.size).data.toList
  refine A8 (A0 ?_)
  refine A1 (A2 ?_)
  refine A4 (j:=1) [0] (k:=F1 (ch:=[]) (s:=s) (vl:=(some (.int .i64 2))) (vh:=none) (l:=2) (h:=(s.size:Int)) (hb:=(fun _=>by omega)) (k:=?_))
  refine J1 Tryz.func93 (rnumber16_ (s.extract 2 s.size) 4 4 rfl (by decide) (by (try rw [L8]); omega) _ _) (A9 [0,0,0,0,0] [3,4] (k:=?_))
  refine A0 (A1 ?_)
  refine A1 (G_p [0,0] [3,15] (k:=?_))
  refine A0 (B0 (b:=decide (((numD 16 4 0 (s.extract 2 s.size).data.toList).2:Int)<4)) kr (fun hc2=>?_) (fun hc2=>?_))
  ·
   simp only [decide_eq_true_eq] at hc2
   refine A1 (B7 (E':=[⟨2,[],.int .i64 (-1)⟩]) [0] [2] (k:=?_))
   refine A0 (B4 ?_)
   refine A3 (B6 [.tmp 2] [.int .i64 (-1)] (k:=?_))
   exact ⟨congrArg (Value.int .i64) (by rw [← unitD_eq]; unfold unitD; rw [if_neg (fun hn=>hn hc),← I5,if_pos (by omega)]),rfl⟩
  ·
   simp only [decide_eq_false_iff_not] at hc2
   refine A8 (A0 ?_)
   refine A1 (G_p [0,0] [2] (k:=?_))
   refine A0 (B4 ?_)
   refine B6 [.tmp 2] [.int .i64 ((numD 16 4 0 (s.extract 2 s.size).data.toList).1)] (k:=?_)
   exact ⟨congrArg (Value.int .i64) (by rw [← unitD_eq]; unfold unitD; rw [if_neg (fun hn=>hn hc),← I5,if_neg (by omega)]),rfl⟩
set_option maxHeartbeats 1000000 in
theorem runjson_ (s:ByteArray) (hs:s.size≤100000000) (W0:World) (H:List Grp):Tri Tryz.prog 132 #[.string s] W0 H (fun v H'=>v=unjW (unjM s.data.toList)∧H'=H):=by
 refine C5 (args:=[.string s]) (n:=137) Tryz.func132 rfl rfl (Nat.le_of_ble_eq_true rfl) ?_
 refine A1 (B7 (E':=[⟨0,[],.string s⟩]) [0,0] [0] (k:=?_))
 refine A0 (A1 ?_)
 refine A1 (A2 ?_)
 refine A4 (j:=5) [0,0,0,0,0] (k:=D4 (ch:=[(15,false)]) (s:=s) (kd:=.i64) (j:=0) (hb:=(fun hc=>by have hg0:=H0 (t:=15) (c:=[]) (b:=decide ((s.size:Int)<2)) hc kr; (try simp at hg0); omega)) (k:=?_))
 have hb1:=C2 s 0
 have hw2:IntKind.wrap .i64 ((s.size:Int) - 1)=(s.size:Int) - 1:=w64 (by omega) (by omega)
 refine B5 (E':=[⟨24,[(20,false)],.int .i64 ((s.size:Int) - 1)⟩,⟨21,[(20,false)],.string s⟩,⟨20,[],.bool ((decide ((s.size:Int)<2))||((A5 s 0) != 34))⟩,⟨0,[],.string s⟩]) [0,5,0,0,0,0,0] (Eq.trans (b:=some [⟨24,[(20,false)],.int .i64 (IntKind.wrap .i64 ((s.size:Int) - 1))⟩,⟨21,[(20,false)],.string s⟩,⟨20,[],.bool ((decide ((s.size:Int)<2))||((A5 s 0) != 34))⟩,⟨0,[],.string s⟩]) kr (by simp only [hw2])) (j:=13) rfl (D4 (ch:=[(20,false)]) (s:=s) (kd:=.i64) (j:=(s.size:Int) - 1) (hb:=(fun hc=>by have hg0:=H0 (t:=20) (c:=[]) (b:=(decide ((s.size:Int)<2))||((A5 s 0) != 34)) hc kr; (try simp at hg0); omega)) (k:=?_))
 have hb3:=C2 s ((s.size:Int) - 1)
 refine A4 (j:=18) [0,5,0,0] (k:=I7 (ch:=[(28,false)]) (f:=55) (fst:=#[]) (caps:=#[]) (vs:=[.string s]) (v:=.bool (D6 s.data.toList)) (hf:=Tryz.func55) (hc:=(fun hc=>rvalid_ s (by omega) _ _)) (k:=?_))
 refine A9 [0,5] [0,32] (k:=A0 ?_)
 refine B0 (b:=(((decide ((s.size:Int)<2))||((A5 s 0) != 34))||((A5 s ((s.size:Int) - 1)) != 34))||(!(D6 s.data.toList))) kr (fun hc4=>?_) (fun hc4=>?_)
 ·
  simp only [Bool.or_eq_true,Bool.not_eq_true',decide_eq_true_eq,bne_iff_ne,ne_eq] at hc4
  refine A1 (G_p [0,0] [2,3] (k:=?_))
  refine A0 (B4 ?_)
  refine A3 (B6 [.tmp 2,.tmp 3] [.string (ByteArray.mk #[]),.bool false] (k:=?_))
  exact ⟨by rw [unj_no (by assumption)]; rfl,rfl⟩
 ·
  simp only [Bool.or_eq_false_iff,Bool.not_eq_false',decide_eq_false_iff_not,bne_eq_false_iff_eq] at hc4
  obtain ⟨⟨⟨hq1,hq2⟩,hq3⟩,hq4⟩:=hc4
  have hU0:=unj_yes hq1 hq2 hq3 hq4
  obtain ⟨sv,hsv⟩:∃ sv:ByteArray,sv=s.extract 1 (Int.toNat (((s.size:Nat):Int) - 1)):=⟨_,rfl⟩
  have hsz:sv.size≤s.size:=by rw [hsv,ByteArray.size_extract]; omega
  rw [← hsv] at hU0
  refine A8 (A0 ?_)
  refine A1 (A2 ?_)
  refine A4 (j:=4) [0,0,0,0] (k:=D8 36 ((s.size:Int) - 1) (by omega) (by omega) kr ?_)
  refine F1 (ch:=[]) (s:=s) (vl:=(some (.int .i64 1))) (vh:=(some (.int .i64 ((s.size:Int) - 1)))) (l:=1) (h:=(s.size:Int) - 1) (hb:=(fun _=>by omega)) (k:=B8 (E':=[⟨37,[],.string sv⟩,⟨36,[],.int .i64 ((s.size:Int) - 1)⟩,⟨35,[],.int .i64 (s.size:Int)⟩,⟨34,[],.string s⟩,⟨33,[],.string s⟩,⟨0,[],.string s⟩,⟨32,[],.bool ((((decide ((s.size:Int)<2))||((A5 s 0) != 34))||((A5 s ((s.size:Int) - 1)) != 34))||(!(D6 s.data.toList)))⟩]) (by have hz:([⟨37,[],.string (s.extract 1 (Int.toNat ((s.size:Int) - 1)))⟩,⟨36,[],.int .i64 ((s.size:Int) - 1)⟩,⟨35,[],.int .i64 (s.size:Int)⟩,⟨34,[],.string s⟩,⟨33,[],.string s⟩,⟨0,[],.string s⟩,⟨32,[],.bool ((((decide ((s.size:Int)<2))||((A5 s 0) != 34))||((A5 s ((s.size:Int) - 1)) != 34))||(!(D6 s.data.toList)))⟩]:List Sl)=[⟨37,[],.string sv⟩,⟨36,[],.int .i64 ((s.size:Int) - 1)⟩,⟨35,[],.int .i64 (s.size:Int)⟩,⟨34,[],.string s⟩,⟨33,[],.string s⟩,⟨0,[],.string s⟩,⟨32,[],.bool ((((decide ((s.size:Int)<2))||((A5 s 0) != 34))||((A5 s ((s.size:Int) - 1)) != 34))||(!(D6 s.data.toList)))⟩]:=(by rw [hsv]); exact Eq.trans kr hz) ?_)
  refine B2 (E':=[⟨0,[],.string sv⟩]) [0] [0] (k:=A0 ?_)
  refine A1 (G_p [0] [0,4] (k:=?_))
  refine A0 (A1 ?_)
  refine A1 (G_p [0] [0,4,5] (k:=?_))
  refine A0 (B9 ?_)
  refine G_heap (H':=([]::H)) (fun w h=>h.flat (List.Perm.refl _)) (J5 (EI:=(fun ξ:Option Addr × Nat × Grp × List UInt8 × Nat=>[⟨0,[],.string sv⟩,⟨4,[],.slice ξ.1 ξ.2.2.2.1.length ξ.2.1⟩,⟨5,[],.int .i64 ((ξ.2.2.2.2:Nat):Int)⟩])) (HI:=(fun ξ:Option Addr × Nat × Grp × List UInt8 × Nat=>(ξ.2.2.1::H))) (Φ:=(fun ξ:Option Addr × Nat × Grp × List UInt8 × Nat=>(Go.Sw.Own 5 1 (.slice ξ.1 ξ.2.2.2.1.length ξ.2.1) ξ.2.2.1 ξ.2.2.2.1.length (u8s ξ.2.2.2.1))∧(ξ.2.2.2.2≤sv.size)∧(ξ.2.2.2.1.length≤4 * ξ.2.2.2.2)∧(unjM s.data.toList=(ujL (sv.data.toList.drop ξ.2.2.2.2)).map (ξ.2.2.2.1++·)))) (μ:=(fun ξ:Option Addr × Nat × Grp × List UInt8 × Nat=>sv.size - ξ.2.2.2.2)) (s0:=(none,0,[],[],0)) [0,4,5] kr rfl ⟨Go.Sw.Own.nil,(Nat.zero_le _),(Nat.le_refl _),(by rw [List.drop_zero]; exact hU0)⟩ ?_)
  rintro ⟨ra,rc,rg,l1,i⟩ ⟨hO,hi,hl,hT⟩
  dsimp only at hO hi hl hT
  obtain ⟨b,hb⟩:∃ b:UInt8,b=sv.data.toList.getD i 0:=⟨_,rfl⟩
  have hbyte:A5 sv (i:Int)=(b.toNat:Int):=by rw [H8,hb]
  refine A1 (A1 ?_)
  refine G_p [0,0,0,0] [0,4,5,41] (k:=A0 ?_)
  refine B0 (b:=decide (((i:Nat):Int)<(sv.size:Int))) kr (fun hc6=>?_) (fun hc6=>?_)
  ·
   simp only [decide_eq_true_eq] at hc6
   have hlt:i<sv.size:=by omega
   have hD:sv.data.toList.drop i=(sv.extract i sv.size).data.toList:=(I5 _ _).symm
   have hL:(sv.extract i sv.size).data.toList=b::sv.data.toList.drop (i+1):=by rw [I5,I3 _ (show i<sv.data.toList.length by rw [E0]; omega),hb]
   refine A8 (A0 ?_)
   refine B9 (A1 ?_)
   refine A2 (A4 (j:=2) [0,0] (k:=?_))
   refine D4 (ch:=[]) (s:=sv) (kd:=.i64) (j:=((i:Nat):Int)) (hb:=(fun _=>by omega)) (k:=?_)
   have hb7:=C2 sv ((i:Nat):Int)
   refine B8 (E':=[⟨44,[],.int .u8 (b.toNat:Int)⟩,⟨43,[],.int .i64 ((i:Nat):Int)⟩,⟨42,[],.string sv⟩,⟨0,[],.string sv⟩,⟨4,[],.slice ra l1.length rc⟩,⟨5,[],.int .i64 ((i:Nat):Int)⟩,⟨41,[],.bool (decide (((i:Nat):Int)<(sv.size:Int)))⟩]) (by have hz:([⟨44,[],.int .u8 (A5 sv ((i:Nat):Int))⟩,⟨43,[],.int .i64 ((i:Nat):Int)⟩,⟨42,[],.string sv⟩,⟨0,[],.string sv⟩,⟨4,[],.slice ra l1.length rc⟩,⟨5,[],.int .i64 ((i:Nat):Int)⟩,⟨41,[],.bool (decide (((i:Nat):Int)<(sv.size:Int)))⟩]:List Sl)=[⟨44,[],.int .u8 (b.toNat:Int)⟩,⟨43,[],.int .i64 ((i:Nat):Int)⟩,⟨42,[],.string sv⟩,⟨0,[],.string sv⟩,⟨4,[],.slice ra l1.length rc⟩,⟨5,[],.int .i64 ((i:Nat):Int)⟩,⟨41,[],.bool (decide (((i:Nat):Int)<(sv.size:Int)))⟩]:=(by rw [hbyte]); exact Eq.trans kr hz) (A9 [0] [0,4,5,6] (k:=?_))
   refine A0 (A1 ?_)
   refine A1 (G_p [0,0,0,0,0,5] [0,4,5,6,50] (k:=?_))
   refine A0 (B0 (b:=(decide ((b.toNat:Int)<32))||((b.toNat:Int)==34)) kr (fun hc8=>?_) (fun hc8=>?_))
   ·
    simp only [Bool.or_eq_true,decide_eq_true_eq,beq_iff_eq] at hc8
    have hbad:ujL (sv.data.toList.drop i)=none:=by rw [hD]; exact djA hL (by omega)
    refine A1 (G_p [0,0] [2,3] (k:=?_))
    refine A0 (B4 ?_)
    refine A3 (A7 ?_)
    refine A3 (A7 ?_)
    refine A3 (C1 (H':=H) (fun w h=>(h.erase 0)) ?_)
    refine B6 [.tmp 2,.tmp 3] [.string (ByteArray.mk #[]),.bool false] (k:=?_)
    exact ⟨by rw [hT,hbad]; rfl,rfl⟩
   ·
    simp only [Bool.or_eq_false_iff,decide_eq_false_iff_not,beq_eq_false_iff_ne,ne_eq] at hc8
    refine A8 (A0 ?_)
    refine A1 (A1 ?_)
    refine G_p [0,0] [0,4,5,6,52] (k:=A0 ?_)
    refine B0 (b:=(b.toNat:Int) != 92) kr (fun hc9=>?_) (fun hc9=>?_)
    ·
     simp only [bne_iff_ne,ne_eq] at hc9
     have hun:ujL (sv.data.toList.drop i)=(ujL (sv.data.toList.drop (i+1))).map ([b]++·):=by rw [hD]; exact djB hL (by omega) (by omega)
     refine A1 (A2 ?_)
     refine A4 (j:=2) [0,0] (k:=D0 (ch:=[]) (e:=5) (l:=[(0,.int .u8 (b.toNat:Int))]) (c:=[.int .u8 (b.toNat:Int)]) (k:=(fun b10=>?_)))
     refine F8 (i:=3) (ch:=[]) (t:=22) (tx:=22) (e:=5) (inf:=Tryz.t5) (s:=.slice ra l1.length rc) (x:=.slice (some ⟨b10,0,none⟩) 1 1) (n:=l1.length) (m:=1) (j:=1) (cs:=(u8s l1)) (news:=[.int .u8 (b.toNat:Int)]) (g:=rg) (S:=(inG [(b10,.cells #[.int .u8 (b.toNat:Int)] 5 (0,0))])) rfl rfl rfl rfl kr kr kr rfl rfl (.inl ⟨5,kr⟩) (fun ⟨_,h⟩=>by cases h) (fun _=>⟨5,kr⟩) kr kr kr rfl hO (SrcOf.slice _ _ _ _ Rd.lit (fun h=>by cases h)) (F7 0 rfl) kr (by intro u hu; rcases List.mem_singleton.1 hu with rfl; rfl) (by omega) (by show (l1.length+1) * 1≤140737488355328; omega) (fun v11 g12 hO13=>?_)
     obtain ⟨a14,cap15,rfl,hcap16,hrd17⟩:=hO13.shape
     refine A9 [0] [0,4,5] (k:=A0 ?_)
     refine A1 (A2 ?_)
     refine A4 (j:=2) [0,0] (k:=D8 58 (((i:Nat):Int)+1) (by omega) (by omega) kr ?_)
     refine B2 (E':=[⟨0,[],.string sv⟩,⟨4,[],.slice a14 (l1.length+1) cap15⟩,⟨5,[],.int .i64 (((i:Nat):Int)+1)⟩]) [0] [0,4,5] (k:=A0 ?_)
     refine H5 (B1 ?_)
     refine C7 ?_
     have hln:(l1.length+1)=(l1++[b]).length:=by first | exact List.length_append.symm | (rw [List.length_append]; rfl)
     refine N_env (E':=[⟨0,[],.string sv⟩,⟨4,[],.slice a14 ((l1++[b]).length) cap15⟩,⟨5,[],.int .i64 (((i:Nat):Int)+1)⟩]) (by rw [hln]) (C1 (H':=(g12::H)) (fun w h=>(h.erase 0)) ?_)
     refine F3 (s':=(a14,cap15,g12,(l1++[b]),i+1)) [0,4,5] kr rfl ⟨(own_castS hO13 hln (by dsimp only; first | exact (Go.Sha.u8s_append _ _).symm | (rw [Go.Sha.u8s_append]; rfl))),(by dsimp only; omega),(by dsimp only; simp only [List.length_append,List.length_cons,List.length_nil]; omega),(by dsimp only; rw [hT,hun]; exact map_app rfl)⟩ (by dsimp only; omega)
    ·
     simp only [bne_eq_false_iff_eq] at hc9
     have h92:(b.toNat:Int)=92:=by omega
     refine A8 (A0 ?_)
     refine A1 (A1 ?_)
     refine A2 (A4 (j:=2) [0,0] (k:=?_))
     refine D8 60 (((i:Nat):Int)+1) (by omega) (by omega) kr (A9 [0,0,0] [0,4,5,63] (k:=?_))
     refine A0 (B0 (b:=(((i:Nat):Int)+1)==(sv.size:Int)) kr (fun hc20=>?_) (fun hc20=>?_))
     ·
      simp only [beq_iff_eq] at hc20
      have hbad:ujL (sv.data.toList.drop i)=none:=by rw [hD]; exact (djC hL h92).1 (by rw [dj_end (by rw [E0,L8]; omega)]; decide)
      refine A1 (B7 (E':=[⟨2,[],.string (ByteArray.mk #[])⟩,⟨3,[],.bool false⟩]) [0,0] [2,3] (k:=?_))
      refine A0 (B4 ?_)
      refine A3 (A7 ?_)
      refine A3 (A7 ?_)
      refine A3 (C1 (H':=H) (fun w h=>(h.erase 0)) ?_)
      refine B6 [.tmp 2,.tmp 3] [.string (ByteArray.mk #[]),.bool false] (k:=?_)
      exact ⟨by rw [hT,hbad]; rfl,rfl⟩
     ·
      simp only [beq_eq_false_iff_ne,ne_eq] at hc20
      obtain ⟨c,hc⟩:∃ c:UInt8,c=sv.data.toList.getD (i+1) 0:=⟨_,rfl⟩
      have hbyte2:A5 sv ((i:Int)+1)=(c.toNat:Int):=by rw [hc]; exact H8 sv (i+1)
      have hl2:¬ (sv.extract i sv.size).data.toList.length<2:=by rw [E0,L8]; omega
      have hc1:(sv.extract i sv.size).data.toList.getD 1 0=c:=by rw [hc,I5]; simp only [List.getD,List.getElem?_drop]
      refine A8 (A0 ?_)
      refine A1 (B7 (E':=[⟨0,[],.string sv⟩,⟨4,[],.slice ra l1.length rc⟩,⟨5,[],.int .i64 ((i:Nat):Int)⟩,⟨7,[],.int .i64 (-1)⟩]) [0] [0,4,5,7] (k:=?_))
      refine A0 (A1 ?_)
      refine A1 (A2 ?_)
      refine D0 (ch:=[]) (e:=5) (l:=[(0,.int .u8 34),(1,.int .u8 92),(2,.int .u8 47),(3,.int .u8 98),(4,.int .u8 102),(5,.int .u8 110),(6,.int .u8 114),(7,.int .u8 116)]) (c:=[.int .u8 34,.int .u8 92,.int .u8 47,.int .u8 98,.int .u8 102,.int .u8 110,.int .u8 114,.int .u8 116]) (k:=(fun b21=>?_))
      refine GL_sameBytes (ch:=[]) (t:=22) (e:=5) (b:=b21) (off:=0) (l:=8) (cap:=8) (j:=0) (m:=0) (hH':=(by rfl)) (k:=A9 [0,0] [0,4,5,7,65,66,67] (k:=?_))
      refine A0 (B9 ?_)
      refine J5 (EI:=(fun ξ:Nat × Int=>[⟨0,[],.string sv⟩,⟨4,[],.slice ra l1.length rc⟩,⟨5,[],.int .i64 ((i:Nat):Int)⟩,⟨7,[],.int .i64 ξ.2⟩,⟨65,[],.slice (some ⟨b21,0,none⟩) 8 8⟩,⟨66,[],.int .i64 8⟩,⟨67,[],.int .i64 ((ξ.1:Nat):Int)⟩])) (HI:=(fun ξ:Nat × Int=>([(b21,.cells #[.int .u8 34,.int .u8 92,.int .u8 47,.int .u8 98,.int .u8 102,.int .u8 110,.int .u8 114,.int .u8 116] 5 (8,8+1))]::rg::H))) (Φ:=(fun ξ:Nat × Int=>(ξ.1≤8)∧(ξ.2=oneK ξ.1 c))) (μ:=(fun ξ:Nat × Int=>8 - ξ.1)) (s0:=(0,(-1))) [0,4,5,7,65,66,67] kr rfl ⟨(by decide),rfl⟩ ?_
      rintro ⟨k,o⟩ ⟨hk,hQ⟩
      dsimp only at hk hQ
      refine A1 (G_p [0] [0,4,5,7,65,66,67,68] (k:=?_))
      refine A0 (A1 ?_)
      refine B0 (b:=decide (((k:Nat):Int)<8)) kr (fun hc22=>?_) (fun hc22=>?_)
      ·
       simp only [decide_eq_true_eq] at hc22
       have hnk:=(nameK k).toNat_lt
       have hvk:=(valK k).toNat_lt
       refine A8 (A0 ?_)
       refine A1 (B9 ?_)
       refine A1 (A2 ?_)
       refine A4 (j:=1) [0] (k:=F2 (ch:=[]) (a:=(some ⟨b21,0,none⟩)) (len:=8) (cap:=8) (kd:=.i64) (j:=((k:Nat):Int)) (e:=5) (sz:=1) (S:=(inG [(b21,.cells #[.int .u8 34,.int .u8 92,.int .u8 47,.int .u8 98,.int .u8 102,.int .u8 110,.int .u8 114,.int .u8 116] 5 (8,8+1))])) (cs:=[.int .u8 34,.int .u8 92,.int .u8 47,.int .u8 98,.int .u8 102,.int .u8 110,.int .u8 114,.int .u8 116]) (hrd:=Rd.lit) (hb:=(fun _=>by exact ⟨by omega,by omega,fun h=>by cases h⟩)) (k:=?_))
       refine M4 (ch:=[]) (a:=(some ⟨b21,0,none⟩)) (q:=k * 1) (S:=(inG [(b21,.cells #[.int .u8 34,.int .u8 92,.int .u8 47,.int .u8 98,.int .u8 102,.int .u8 110,.int .u8 114,.int .u8 116] 5 (8,8+1))])) (cs:=[.int .u8 34,.int .u8 92,.int .u8 47,.int .u8 98,.int .u8 102,.int .u8 110,.int .u8 114,.int .u8 116]) (v:=.int .u8 ((nameK k).toNat:Int)) (hrd:=Rd.lit) (hS:=F7 0 rfl) (hv:=(fun _=>(by rw [Nat.mul_one]; exact nameK_at (by omega)))) (k:=A9 [0,0] [0,4,5,7,8,9,65,66,67] (k:=?_))
       refine A0 (A1 ?_)
       refine A2 (A4 (j:=3) [0,0,0] (k:=?_))
       refine D8 74 (((i:Nat):Int)+1) (by omega) (by omega) kr (D4 (ch:=[]) (s:=sv) (kd:=.i64) (j:=((i:Nat):Int)+1) (hb:=(fun _=>by omega)) (k:=?_))
       have hb24:=C2 sv (((i:Nat):Int)+1)
       refine B8 (E':=[⟨75,[],.int .u8 (c.toNat:Int)⟩,⟨74,[],.int .i64 (((i:Nat):Int)+1)⟩,⟨73,[],.int .i64 ((i:Nat):Int)⟩,⟨72,[],.string sv⟩,⟨0,[],.string sv⟩,⟨4,[],.slice ra l1.length rc⟩,⟨5,[],.int .i64 ((i:Nat):Int)⟩,⟨7,[],.int .i64 o⟩,⟨8,[],.int .i64 ((k:Nat):Int)⟩,⟨9,[],.int .u8 ((nameK k).toNat:Int)⟩,⟨65,[],.slice (some ⟨b21,0,none⟩) 8 8⟩,⟨66,[],.int .i64 8⟩,⟨67,[],.int .i64 ((k:Nat):Int)⟩]) (by have hz:([⟨75,[],.int .u8 (A5 sv (((i:Nat):Int)+1))⟩,⟨74,[],.int .i64 (((i:Nat):Int)+1)⟩,⟨73,[],.int .i64 ((i:Nat):Int)⟩,⟨72,[],.string sv⟩,⟨0,[],.string sv⟩,⟨4,[],.slice ra l1.length rc⟩,⟨5,[],.int .i64 ((i:Nat):Int)⟩,⟨7,[],.int .i64 o⟩,⟨8,[],.int .i64 ((k:Nat):Int)⟩,⟨9,[],.int .u8 ((nameK k).toNat:Int)⟩,⟨65,[],.slice (some ⟨b21,0,none⟩) 8 8⟩,⟨66,[],.int .i64 8⟩,⟨67,[],.int .i64 ((k:Nat):Int)⟩]:List Sl)=[⟨75,[],.int .u8 (c.toNat:Int)⟩,⟨74,[],.int .i64 (((i:Nat):Int)+1)⟩,⟨73,[],.int .i64 ((i:Nat):Int)⟩,⟨72,[],.string sv⟩,⟨0,[],.string sv⟩,⟨4,[],.slice ra l1.length rc⟩,⟨5,[],.int .i64 ((i:Nat):Int)⟩,⟨7,[],.int .i64 o⟩,⟨8,[],.int .i64 ((k:Nat):Int)⟩,⟨9,[],.int .u8 ((nameK k).toNat:Int)⟩,⟨65,[],.slice (some ⟨b21,0,none⟩) 8 8⟩,⟨66,[],.int .i64 8⟩,⟨67,[],.int .i64 ((k:Nat):Int)⟩]:=(by rw [hbyte2]); exact Eq.trans kr hz) (A9 [0,0] [0,4,5,7,8,65,66,67,77] (k:=?_))
       refine A0 (B0 (b:=(c.toNat:Int)==((nameK k).toNat:Int)) kr (fun hc25=>?_) (fun hc25=>?_))
       ·
        simp only [beq_iff_eq] at hc25
        have hon:=oneK_yes (k:=k) (b:=c) (by omega)
        refine A2 (D0 (ch:=[]) (e:=5) (l:=[(0,.int .u8 34),(1,.int .u8 92),(2,.int .u8 47),(3,.int .u8 8),(4,.int .u8 12),(5,.int .u8 10),(6,.int .u8 13),(7,.int .u8 9)]) (c:=[.int .u8 34,.int .u8 92,.int .u8 47,.int .u8 8,.int .u8 12,.int .u8 10,.int .u8 13,.int .u8 9]) (k:=(fun b26=>?_)))
        refine A4 (j:=2) [0] (k:=F2 (ch:=[]) (a:=(some ⟨b26,0,none⟩)) (len:=8) (cap:=8) (kd:=.i64) (j:=((k:Nat):Int)) (e:=5) (sz:=1) (S:=(inG [(b26,.cells #[.int .u8 34,.int .u8 92,.int .u8 47,.int .u8 8,.int .u8 12,.int .u8 10,.int .u8 13,.int .u8 9] 5 (0,0))])) (cs:=[.int .u8 34,.int .u8 92,.int .u8 47,.int .u8 8,.int .u8 12,.int .u8 10,.int .u8 13,.int .u8 9]) (hrd:=Rd.lit) (hb:=(fun _=>by exact ⟨by omega,by omega,fun h=>by cases h⟩)) (k:=?_))
        refine M4 (ch:=[]) (a:=(some ⟨b26,0,none⟩)) (q:=k * 1) (S:=(inG [(b26,.cells #[.int .u8 34,.int .u8 92,.int .u8 47,.int .u8 8,.int .u8 12,.int .u8 10,.int .u8 13,.int .u8 9] 5 (0,0))])) (cs:=[.int .u8 34,.int .u8 92,.int .u8 47,.int .u8 8,.int .u8 12,.int .u8 10,.int .u8 13,.int .u8 9]) (v:=.int .u8 ((valK k).toNat:Int)) (hrd:=Rd.lit) (hS:=F7 0 rfl) (hv:=(fun _=>(by rw [Nat.mul_one]; exact valK_at (by omega)))) (k:=A4 (j:=5) [0] (k:=?_))
        refine D8 82 ((valK k).toNat:Int) (by omega) (by omega) kr (A9 [0] [0,4,5,7,65,66,67] (k:=?_))
        refine C0 (A0 ?_)
        refine A2 (A4 (j:=1) [0] (k:=?_))
        refine D8 83 (((k:Nat):Int)+1) (by omega) (by omega) kr (A9 [0] [0,4,5,7,65,66,67] (k:=?_))
        refine C1 (H':=([(b21,.cells #[.int .u8 34,.int .u8 92,.int .u8 47,.int .u8 98,.int .u8 102,.int .u8 110,.int .u8 114,.int .u8 116] 5 (8,8+1))]::rg::H)) (fun w h=>(h.erase 0)) (F3 (s':=(k+1,((valK k).toNat:Int))) [0,4,5,7,65,66,67] kr rfl ⟨(by dsimp only; omega),(by dsimp only; exact hon)⟩ (by dsimp only; omega))
       ·
        simp only [beq_eq_false_iff_ne,ne_eq] at hc25
        have hon:=hQ.trans (oneK_no (k:=k) (b:=c) (by omega))
        refine A8 (C0 ?_)
        refine A0 (A2 ?_)
        refine A4 (j:=1) [0] (k:=D8 83 (((k:Nat):Int)+1) (by omega) (by omega) kr ?_)
        refine A9 [0] [0,4,5,7,65,66,67] (k:=F3 (s':=(k+1,o)) [0,4,5,7,65,66,67] kr rfl ⟨(by dsimp only; omega),(by dsimp only; exact hon)⟩ (by dsimp only; omega))
      ·
       simp only [decide_eq_false_iff_not] at hc22
       have ho8:o=I2 c:=by rw [hQ,show k=8 by omega]; exact (oneK_eq c).1
       rw [← hc1] at ho8
       refine H5 (B1 ?_)
       refine B1 (C7 ?_)
       refine A0 (A1 ?_)
       refine A1 (G_p [0,0] [0,4,5,7,85] (k:=?_))
       refine A0 (B0 (b:=decide (o ≥ 0)) kr (fun hc30=>?_) (fun hc30=>?_))
       ·
        simp only [decide_eq_true_eq,ge_iff_le] at hc30
        have hoe:=(oneK_eq ((sv.extract i sv.size).data.toList.getD 1 0)).2 (by omega)
        obtain ⟨d,hd⟩:∃ d:UInt8,d=UInt8.ofNat (I2 ((sv.extract i sv.size).data.toList.getD 1 0)).toNat:=⟨_,rfl⟩
        rw [← hd] at hoe
        have hdn:(d.toNat:Int)=o:=by rw [hd,UInt8.toNat_ofNat',Nat.mod_eq_of_lt (by omega)]; omega
        have he:F4 (sv.extract i sv.size).data.toList=(I2 ((sv.extract i sv.size).data.toList.getD 1 0),2):=dj_one hl2 (by omega)
        have hdp:=dj_pos hlt he (by omega)
        have hun:ujL (sv.data.toList.drop i)=(ujL (sv.data.toList.drop (i+2))).map ([d]++·):=by
         have h:=dj_go hL h92 he (by omega)
         rw [hoe.1] at h; exact h
        refine A1 (A2 ?_)
        refine B5 (E':=[⟨88,[],.int .u8 (IntKind.wrap .u8 o)⟩,⟨86,[],.slice ra l1.length rc⟩,⟨0,[],.string sv⟩,⟨4,[],.slice ra l1.length rc⟩,⟨5,[],.int .i64 ((i:Nat):Int)⟩]) [0,0,0] kr (j:=3) rfl (B8 (E':=[⟨88,[],.int .u8 (d.toNat:Int)⟩,⟨86,[],.slice ra l1.length rc⟩,⟨0,[],.string sv⟩,⟨4,[],.slice ra l1.length rc⟩,⟨5,[],.int .i64 ((i:Nat):Int)⟩]) (by rw [w8i (x:=o) (by omega) (by omega),hdn]) ?_)
        refine D0 (ch:=[]) (e:=5) (l:=[(0,.int .u8 (d.toNat:Int))]) (c:=[.int .u8 (d.toNat:Int)]) (k:=(fun b31=>?_))
        refine F8 (i:=4) (ch:=[]) (t:=22) (tx:=22) (e:=5) (inf:=Tryz.t5) (s:=.slice ra l1.length rc) (x:=.slice (some ⟨b31,0,none⟩) 1 1) (n:=l1.length) (m:=1) (j:=2) (cs:=(u8s l1)) (news:=[.int .u8 (d.toNat:Int)]) (g:=rg) (S:=(inG [(b31,.cells #[.int .u8 (d.toNat:Int)] 5 (0,0))])) rfl rfl rfl rfl kr kr kr rfl rfl (.inl ⟨5,kr⟩) (fun ⟨_,h⟩=>by cases h) (fun _=>⟨5,kr⟩) kr kr kr rfl hO (SrcOf.slice _ _ _ _ Rd.lit (fun h=>by cases h)) (F7 0 rfl) kr (by intro u hu; rcases List.mem_singleton.1 hu with rfl; rfl) (by omega) (by show (l1.length+1) * 1≤140737488355328; omega) (fun v32 g33 hO34=>?_)
        obtain ⟨a35,cap36,rfl,hcap37,hrd38⟩:=hO34.shape
        refine A9 [0] [0,4,5] (k:=A0 ?_)
        refine A1 (A2 ?_)
        refine A4 (j:=2) [0,0] (k:=D8 92 (((i:Nat):Int)+2) (by omega) (by omega) kr ?_)
        refine A9 [0] [0,4,5] (k:=A0 ?_)
        refine H5 (B1 ?_)
        refine C7 ?_
        have hln:(l1.length+1)=(l1++[d]).length:=by first | exact List.length_append.symm | (rw [List.length_append]; rfl)
        refine N_env (E':=[⟨0,[],.string sv⟩,⟨4,[],.slice a35 (l1.length+1) cap36⟩,⟨5,[],.int .i64 (((i:Nat):Int)+2)⟩]) kr (N_env (E':=[⟨0,[],.string sv⟩,⟨4,[],.slice a35 ((l1++[d]).length) cap36⟩,⟨5,[],.int .i64 (((i:Nat):Int)+2)⟩]) (by rw [hln]) ?_)
        refine C1 (H':=(g33::H)) (fun w h=>((h.erase 1).erase 0)) (F3 (s':=(a35,cap36,g33,(l1++[d]),i+2)) [0,4,5] kr rfl ⟨(own_castS hO34 hln (by dsimp only; first | exact (Go.Sha.u8s_append _ _).symm | (rw [Go.Sha.u8s_append]; rfl))),(by dsimp only; omega),(by dsimp only; simp only [List.length_append,List.length_cons,List.length_nil]; omega),(by dsimp only; rw [hT,hun]; exact map_app rfl)⟩ (by dsimp only; omega))
       ·
        simp only [decide_eq_false_iff_not,ge_iff_le] at hc30
        have hno:¬ 0≤I2 ((sv.extract i sv.size).data.toList.getD 1 0):=by omega
        have hu1:=O9 (sv.extract i sv.size).data.toList
        have hD2:(sv.extract i sv.size).data.toList.drop 6=(sv.extract (i+6) sv.size).data.toList:=by rw [I5,I5,List.drop_drop]
        have hu2:=O9 (sv.extract (i+6) sv.size).data.toList
        refine A8 (A0 ?_)
        refine A1 (A2 ?_)
        refine A4 (j:=2) [0,0] (k:=F1 (ch:=[]) (s:=sv) (vl:=(some (.int .i64 ((i:Nat):Int)))) (vh:=none) (l:=((i:Nat):Int)) (h:=(sv.size:Int)) (hb:=(fun _=>by omega)) (k:=?_))
        refine J1 Tryz.func160 (runit_ (sv.extract i sv.size) (by (try rw [L8]); omega) _ _) (A9 [0] [0,4,5,10] (k:=?_))
        refine A0 (A1 ?_)
        have hw40:IntKind.wrap .i64 (((i:Nat):Int)+6)=((i:Nat):Int)+6:=w64 (by omega) (by omega)
        refine A2 (B5 (E':=[⟨98,[],.int .i64 (((i:Nat):Int)+6)⟩,⟨0,[],.string sv⟩,⟨4,[],.slice ra l1.length rc⟩,⟨5,[],.int .i64 ((i:Nat):Int)⟩,⟨10,[],.int .i64 (C3 (sv.extract i sv.size).data.toList)⟩]) [0,0] (Eq.trans (b:=some [⟨98,[],.int .i64 (IntKind.wrap .i64 (((i:Nat):Int)+6))⟩,⟨0,[],.string sv⟩,⟨4,[],.slice ra l1.length rc⟩,⟨5,[],.int .i64 ((i:Nat):Int)⟩,⟨10,[],.int .i64 (C3 (sv.extract i sv.size).data.toList)⟩]) kr (by simp only [hw40])) (j:=2) rfl ?_)
        refine B8 (E':=[⟨98,[],.int .i64 ((i+6:Nat):Int)⟩,⟨0,[],.string sv⟩,⟨4,[],.slice ra l1.length rc⟩,⟨5,[],.int .i64 ((i:Nat):Int)⟩,⟨10,[],.int .i64 (C3 (sv.extract i sv.size).data.toList)⟩]) (by rw [Int.natCast_add]; rfl) (A9 [0] [0,4,5,10] (k:=?_))
        refine A0 (A1 ?_)
        refine A1 (G_p [0,0,0,0,0,6] [0,4,5,10,104] (k:=?_))
        refine A0 (B0 (b:=(decide ((C3 (sv.extract i sv.size).data.toList) ≥ 55296))&&(decide ((C3 (sv.extract i sv.size).data.toList)<56320))) kr (fun hc41=>?_) (fun hc41=>?_))
        ·
         simp only [Bool.and_eq_true,decide_eq_true_eq,ge_iff_le] at hc41
         have h6:=dj_six hlt (by omega)
         refine A1 (B7 (E':=[⟨0,[],.string sv⟩,⟨4,[],.slice ra l1.length rc⟩,⟨5,[],.int .i64 ((i+6:Nat):Int)⟩,⟨10,[],.int .i64 (C3 (sv.extract i sv.size).data.toList)⟩,⟨11,[],.int .i64 (-1)⟩]) [0] [0,4,5,10,11] (k:=?_))
         refine A0 (A1 ?_)
         refine A1 (G_p [0,0,0,0] [0,4,5,10,11,108] (k:=?_))
         refine A0 (B0 (b:=decide (((i+6:Nat):Int)≤(sv.size:Int))) kr (fun hc42=>?_) (fun hc42=>?_))
         ·
          simp only [decide_eq_true_eq] at hc42
          refine A2 (A4 (j:=2) [0,0] (k:=?_))
          refine F1 (ch:=[]) (s:=sv) (vl:=(some (.int .i64 ((i+6:Nat):Int)))) (vh:=none) (l:=((i+6:Nat):Int)) (h:=(sv.size:Int)) (hb:=(fun _=>by omega)) (k:=B8 (E':=[⟨111,[],.string (sv.extract (i+6) sv.size)⟩,⟨110,[],.int .i64 ((i+6:Nat):Int)⟩,⟨109,[],.string sv⟩,⟨0,[],.string sv⟩,⟨4,[],.slice ra l1.length rc⟩,⟨5,[],.int .i64 ((i+6:Nat):Int)⟩,⟨10,[],.int .i64 (C3 (sv.extract i sv.size).data.toList)⟩,⟨11,[],.int .i64 (-1)⟩,⟨108,[],.bool (decide (((i+6:Nat):Int)≤(sv.size:Int)))⟩]) (by have hz:([⟨111,[],.string (sv.extract (Int.toNat ((i+6:Nat):Int)) sv.size)⟩,⟨110,[],.int .i64 ((i+6:Nat):Int)⟩,⟨109,[],.string sv⟩,⟨0,[],.string sv⟩,⟨4,[],.slice ra l1.length rc⟩,⟨5,[],.int .i64 ((i+6:Nat):Int)⟩,⟨10,[],.int .i64 (C3 (sv.extract i sv.size).data.toList)⟩,⟨11,[],.int .i64 (-1)⟩,⟨108,[],.bool (decide (((i+6:Nat):Int)≤(sv.size:Int)))⟩]:List Sl)=[⟨111,[],.string (sv.extract (i+6) sv.size)⟩,⟨110,[],.int .i64 ((i+6:Nat):Int)⟩,⟨109,[],.string sv⟩,⟨0,[],.string sv⟩,⟨4,[],.slice ra l1.length rc⟩,⟨5,[],.int .i64 ((i+6:Nat):Int)⟩,⟨10,[],.int .i64 (C3 (sv.extract i sv.size).data.toList)⟩,⟨11,[],.int .i64 (-1)⟩,⟨108,[],.bool (decide (((i+6:Nat):Int)≤(sv.size:Int)))⟩]:=(by rw [Int.toNat_natCast]); exact Eq.trans kr hz) ?_)
          refine J1 Tryz.func160 (runit_ (sv.extract (i+6) sv.size) (by (try rw [L8]); omega) _ _) (A9 [0] [0,4,5,10,11] (k:=?_))
          refine A0 (A1 ?_)
          refine A1 (G_p [0,0,0,0,0,5] [0,4,5,10,11,118] (k:=?_))
          refine A0 (B0 (b:=(decide ((C3 (sv.extract (i+6) sv.size).data.toList)<56320))||(decide ((C3 (sv.extract (i+6) sv.size).data.toList) > 57343))) kr (fun hc43=>?_) (fun hc43=>?_))
          ·
           simp only [Bool.or_eq_true,decide_eq_true_eq,gt_iff_lt] at hc43
           have hbad:ujL (sv.data.toList.drop i)=none:=by rw [hD]; exact (djC hL h92).1 (by rw [dj_pairN hl2 hno (by omega) (by rw [hD2]; omega)]; decide)
           refine A1 (G_p [0,0] [2,3] (k:=?_))
           refine A0 (B4 ?_)
           refine A3 (A3 ?_)
           refine A7 (A3 ?_)
           refine A7 (A3 ?_)
           refine C1 (H':=H) (fun w h=>((h.erase 1).erase 0)) (B6 [.tmp 2,.tmp 3] [.string (ByteArray.mk #[]),.bool false] (k:=?_))
           exact ⟨by rw [hT,hbad]; rfl,rfl⟩
          ·
           simp only [Bool.or_eq_false_iff,decide_eq_false_iff_not,gt_iff_lt] at hc43
           obtain ⟨p,hpp⟩:∃ p:Int,p=(65536+((C3 (sv.extract i sv.size).data.toList) - 55296) * 1024+(C3 (sv.extract (i+6) sv.size).data.toList) - 56320):=⟨_,rfl⟩
           refine A8 (A0 ?_)
           refine A1 (A2 ?_)
           refine A4 (j:=2) [0,0] (k:=D8 120 ((C3 (sv.extract i sv.size).data.toList) - 55296) (by omega) (by omega) kr ?_)
           refine A4 (j:=3) [0] (k:=D8 121 (((C3 (sv.extract i sv.size).data.toList) - 55296) * 1024) (by omega) (by omega) kr ?_)
           refine A4 (j:=4) [0] (k:=D8 122 (65536+(((C3 (sv.extract i sv.size).data.toList) - 55296) * 1024)) (by omega) (by omega) kr ?_)
           refine A4 (j:=6) [0,0] (k:=D8 124 ((65536+(((C3 (sv.extract i sv.size).data.toList) - 55296) * 1024))+(C3 (sv.extract (i+6) sv.size).data.toList)) (by omega) (by omega) kr ?_)
           have hw48:IntKind.wrap .i64 (((65536+(((C3 (sv.extract i sv.size).data.toList) - 55296) * 1024))+(C3 (sv.extract (i+6) sv.size).data.toList)) - 56320)=((65536+(((C3 (sv.extract i sv.size).data.toList) - 55296) * 1024))+(C3 (sv.extract (i+6) sv.size).data.toList)) - 56320:=w64 (by omega) (by omega)
           refine B5 (E':=[⟨125,[],.int .i64 (((65536+(((C3 (sv.extract i sv.size).data.toList) - 55296) * 1024))+(C3 (sv.extract (i+6) sv.size).data.toList)) - 56320)⟩,⟨0,[],.string sv⟩,⟨4,[],.slice ra l1.length rc⟩,⟨5,[],.int .i64 ((i+6:Nat):Int)⟩,⟨10,[],.int .i64 (C3 (sv.extract i sv.size).data.toList)⟩]) [0] (Eq.trans (b:=some [⟨125,[],.int .i64 (IntKind.wrap .i64 (((65536+(((C3 (sv.extract i sv.size).data.toList) - 55296) * 1024))+(C3 (sv.extract (i+6) sv.size).data.toList)) - 56320))⟩,⟨0,[],.string sv⟩,⟨4,[],.slice ra l1.length rc⟩,⟨5,[],.int .i64 ((i+6:Nat):Int)⟩,⟨10,[],.int .i64 (C3 (sv.extract i sv.size).data.toList)⟩]) kr (by simp only [hw48])) (j:=7) rfl (B8 (E':=[⟨125,[],.int .i64 p⟩,⟨0,[],.string sv⟩,⟨4,[],.slice ra l1.length rc⟩,⟨5,[],.int .i64 ((i+6:Nat):Int)⟩,⟨10,[],.int .i64 (C3 (sv.extract i sv.size).data.toList)⟩]) (by rw [hpp]) ?_)
           refine A9 [0] [0,4,5,10] (k:=A0 ?_)
           have hw49:IntKind.wrap .i64 (((i+6:Nat):Int)+6)=((i+6:Nat):Int)+6:=w64 (by omega) (by omega)
           refine A2 (B5 (E':=[⟨127,[],.int .i64 (((i+6:Nat):Int)+6)⟩,⟨0,[],.string sv⟩,⟨4,[],.slice ra l1.length rc⟩,⟨5,[],.int .i64 ((i+6:Nat):Int)⟩,⟨10,[],.int .i64 p⟩]) [0,0] (Eq.trans (b:=some [⟨127,[],.int .i64 (IntKind.wrap .i64 (((i+6:Nat):Int)+6))⟩,⟨0,[],.string sv⟩,⟨4,[],.slice ra l1.length rc⟩,⟨5,[],.int .i64 ((i+6:Nat):Int)⟩,⟨10,[],.int .i64 p⟩]) kr (by simp only [hw49])) (j:=2) rfl ?_)
           refine B8 (E':=[⟨127,[],.int .i64 ((i+12:Nat):Int)⟩,⟨0,[],.string sv⟩,⟨4,[],.slice ra l1.length rc⟩,⟨5,[],.int .i64 ((i+6:Nat):Int)⟩,⟨10,[],.int .i64 p⟩]) (by rw [Int.natCast_add,Int.natCast_add,Int.add_assoc]; rfl) (A9 [0] [0,4,5,10] (k:=?_))
           refine A0 (A1 ?_)
           refine A1 (A2 ?_)
           refine A4 (j:=1) [0] (k:=J1 Tryz.func161 (is_ p _ _) ?_)
           refine B2 (E':=[⟨0,[],.string sv⟩,⟨4,[],.slice ra l1.length rc⟩,⟨5,[],.int .i64 ((i+12:Nat):Int)⟩,⟨10,[],.int .i64 p⟩,⟨130,[],.bool (!(isB p))⟩]) [0] [0,4,5,10,130] (k:=A0 ?_)
           refine B0 (b:=!(isB p)) kr (fun hc50=>?_) (fun hc50=>?_)
           ·
            simp only [Bool.not_eq_true',E9] at hc50
            unfold isR at hc50; omega
           ·
            simp only [Bool.not_eq_false',F9] at hc50
            have hisr:=hc50
            have hir:=hisr.1
            have hel:=enc_len p
            have he:F4 (sv.extract i sv.size).data.toList=(p,12):=by rw [hpp,← hD2]; exact dj_pair hl2 hno (by omega) (by rw [hD2]; omega)
            have hdp:=dj_pos hlt he (by omega)
            have hun:ujL (sv.data.toList.drop i)=(ujL (sv.data.toList.drop (i+12))).map (Lib.encodeRune p++·):=dj_go hL h92 he (by omega)
            refine A8 (A0 ?_)
            refine A2 (A4 (j:=2) [0,0] (k:=?_))
            refine D5 Tryz.func122 (one_ p hisr _ _) ?_
            rintro _ _ ⟨ob51,rfl,rfl⟩
            refine F8 (i:=3) (ch:=[]) (t:=22) (tx:=22) (e:=5) (inf:=Tryz.t5) (s:=.slice ra l1.length rc) (x:=.slice (some ⟨ob51,0,none⟩) ((Lib.encodeRune p).length) ((Lib.encodeRune p).length)) (n:=l1.length) (m:=(Lib.encodeRune p).length) (j:=2) (cs:=(u8s l1)) (news:=(u8s (Lib.encodeRune p))) (g:=rg) (S:=(inG [(ob51,.cells (u8s (Lib.encodeRune p)).toArray 5 (0,0))])) rfl rfl rfl rfl kr kr kr rfl rfl (.inl ⟨5,kr⟩) (fun ⟨_,h⟩=>by cases h) (fun _=>⟨5,kr⟩) kr kr kr rfl hO (SrcOf.slice _ _ _ _ Rd.lit (fun h=>by cases h)) (F7 0 rfl) (by rw [show (u8s (Lib.encodeRune _)).length=_ from List.length_map _]; exact (Nat.mul_one _).symm) Go.Sha.u8_one (by omega) (by show (l1.length+(Lib.encodeRune p).length) * 1≤140737488355328; omega) (fun v52 g53 hO54=>?_)
            obtain ⟨a55,cap56,rfl,hcap57,hrd58⟩:=hO54.shape
            refine A9 [0] [0,4,5] (k:=C0 ?_)
            have hln:(l1.length+(Lib.encodeRune p).length)=(l1++(Lib.encodeRune p)).length:=by first | exact List.length_append.symm | (rw [List.length_append]; rfl)
            refine N_env (E':=[⟨0,[],.string sv⟩,⟨4,[],.slice a55 (l1.length+(Lib.encodeRune p).length) cap56⟩,⟨5,[],.int .i64 ((i+12:Nat):Int)⟩]) kr (N_env (E':=[⟨0,[],.string sv⟩,⟨4,[],.slice a55 ((l1++(Lib.encodeRune p)).length) cap56⟩,⟨5,[],.int .i64 ((i+12:Nat):Int)⟩]) (by rw [hln]) ?_)
            refine C1 (H':=(g53::H)) (fun w h=>((h.erase 1).erase 0)) (F3 (s':=(a55,cap56,g53,(l1++(Lib.encodeRune p)),i+12)) [0,4,5] kr rfl ⟨(own_castS hO54 hln (by dsimp only; first | exact (Go.Sha.u8s_append _ _).symm | (rw [Go.Sha.u8s_append]; rfl))),(by dsimp only; omega),(by dsimp only; simp only [List.length_append]; omega),(by dsimp only; rw [hT,hun]; exact map_app rfl)⟩ (by dsimp only; omega))
         ·
          simp only [decide_eq_false_iff_not] at hc42
          omega
        ·
         simp only [Bool.and_eq_false_iff,decide_eq_false_iff_not,ge_iff_le] at hc41
         refine A8 (A0 ?_)
         refine A1 (A1 ?_)
         refine A2 (A4 (j:=1) [0] (k:=?_))
         refine J1 Tryz.func161 (is_ (C3 (sv.extract i sv.size).data.toList) _ _) (B2 (E':=[⟨0,[],.string sv⟩,⟨4,[],.slice ra l1.length rc⟩,⟨5,[],.int .i64 ((i+6:Nat):Int)⟩,⟨10,[],.int .i64 (C3 (sv.extract i sv.size).data.toList)⟩,⟨130,[],.bool (!(isB (C3 (sv.extract i sv.size).data.toList)))⟩]) [0] [0,4,5,10,130] (k:=?_))
         refine A0 (B0 (b:=!(isB (C3 (sv.extract i sv.size).data.toList))) kr (fun hc59=>?_) (fun hc59=>?_))
         ·
          simp only [Bool.not_eq_true',E9] at hc59
          have hbad:ujL (sv.data.toList.drop i)=none:=by rw [hD]; exact (djC hL h92).1 (dj_lo hl2 hno (by omega) hc59)
          refine A1 (G_p [0,0] [2,3] (k:=?_))
          refine A0 (B4 ?_)
          refine A3 (A7 ?_)
          refine A3 (A7 ?_)
          refine A3 (C1 (H':=H) (fun w h=>((h.erase 1).erase 0)) ?_)
          refine B6 [.tmp 2,.tmp 3] [.string (ByteArray.mk #[]),.bool false] (k:=?_)
          exact ⟨by rw [hT,hbad]; rfl,rfl⟩
         ·
          simp only [Bool.not_eq_false',F9] at hc59
          have hisr:=hc59
          have hir:=hisr.1
          have hel:=enc_len (C3 (sv.extract i sv.size).data.toList)
          have he:F4 (sv.extract i sv.size).data.toList=((C3 (sv.extract i sv.size).data.toList),6):=dj_hi hl2 hno (by omega) hisr
          have hdp:=dj_pos hlt he (by omega)
          have hun:ujL (sv.data.toList.drop i)=(ujL (sv.data.toList.drop (i+6))).map (Lib.encodeRune (C3 (sv.extract i sv.size).data.toList)++·):=dj_go hL h92 he (by omega)
          refine A8 (A0 ?_)
          refine A2 (A4 (j:=2) [0,0] (k:=?_))
          refine D5 Tryz.func122 (one_ (C3 (sv.extract i sv.size).data.toList) hisr _ _) ?_
          rintro _ _ ⟨ob60,rfl,rfl⟩
          refine F8 (i:=3) (ch:=[]) (t:=22) (tx:=22) (e:=5) (inf:=Tryz.t5) (s:=.slice ra l1.length rc) (x:=.slice (some ⟨ob60,0,none⟩) ((Lib.encodeRune (C3 (sv.extract i sv.size).data.toList)).length) ((Lib.encodeRune (C3 (sv.extract i sv.size).data.toList)).length)) (n:=l1.length) (m:=(Lib.encodeRune (C3 (sv.extract i sv.size).data.toList)).length) (j:=2) (cs:=(u8s l1)) (news:=(u8s (Lib.encodeRune (C3 (sv.extract i sv.size).data.toList)))) (g:=rg) (S:=(inG [(ob60,.cells (u8s (Lib.encodeRune (C3 (sv.extract i sv.size).data.toList))).toArray 5 (0,0))])) rfl rfl rfl rfl kr kr kr rfl rfl (.inl ⟨5,kr⟩) (fun ⟨_,h⟩=>by cases h) (fun _=>⟨5,kr⟩) kr kr kr rfl hO (SrcOf.slice _ _ _ _ Rd.lit (fun h=>by cases h)) (F7 0 rfl) (by rw [show (u8s (Lib.encodeRune _)).length=_ from List.length_map _]; exact (Nat.mul_one _).symm) Go.Sha.u8_one (by omega) (by show (l1.length+(Lib.encodeRune (C3 (sv.extract i sv.size).data.toList)).length) * 1≤140737488355328; omega) (fun v61 g62 hO63=>?_)
          obtain ⟨a64,cap65,rfl,hcap66,hrd67⟩:=hO63.shape
          refine A9 [0] [0,4,5] (k:=C0 ?_)
          have hln:(l1.length+(Lib.encodeRune (C3 (sv.extract i sv.size).data.toList)).length)=(l1++(Lib.encodeRune (C3 (sv.extract i sv.size).data.toList))).length:=by first | exact List.length_append.symm | (rw [List.length_append]; rfl)
          refine N_env (E':=[⟨0,[],.string sv⟩,⟨4,[],.slice a64 (l1.length+(Lib.encodeRune (C3 (sv.extract i sv.size).data.toList)).length) cap65⟩,⟨5,[],.int .i64 ((i+6:Nat):Int)⟩]) kr (N_env (E':=[⟨0,[],.string sv⟩,⟨4,[],.slice a64 ((l1++(Lib.encodeRune (C3 (sv.extract i sv.size).data.toList))).length) cap65⟩,⟨5,[],.int .i64 ((i+6:Nat):Int)⟩]) (by rw [hln]) ?_)
          refine C1 (H':=(g62::H)) (fun w h=>((h.erase 1).erase 0)) (F3 (s':=(a64,cap65,g62,(l1++(Lib.encodeRune (C3 (sv.extract i sv.size).data.toList))),i+6)) [0,4,5] kr rfl ⟨(own_castS hO63 hln (by dsimp only; first | exact (Go.Sha.u8s_append _ _).symm | (rw [Go.Sha.u8s_append]; rfl))),(by dsimp only; omega),(by dsimp only; simp only [List.length_append]; omega),(by dsimp only; rw [hT,hun]; exact map_app rfl)⟩ (by dsimp only; omega))
  ·
   simp only [decide_eq_false_iff_not] at hc6
   refine H5 (B1 ?_)
   refine B1 (C7 ?_)
   refine A0 (A1 ?_)
   refine A2 (A4 (j:=1) [0] (k:=?_))
   refine Q7 (ch:=[]) (a:=ra) (cap:=rc) (e:=5) (S:=(inG rg)) (bk l1) (hrd:=own_rd hO) (hS:=F7 0 rfl) (k:=A9 [0,0] [2,3] (k:=?_))
   refine A0 (B4 ?_)
   refine C1 (H':=H) (fun w h=>(h.erase 0)) (B6 [.tmp 2,.tmp 3] [.string (bk l1),.bool true] (k:=?_))
   exact ⟨by rw [hT,List.drop_eq_nil_of_le (by rw [E0]; omega),ujL_nil]; show _=unjW (some (l1++[])); rw [List.append_nil]; rfl,rfl⟩
end Go.Proofs.YtppgfiklmfoaeaaGreatDoor
namespace Go.Proofs.YtppgfiklmfoaeaaGreatDoor
open Go.Sw Go.Sha Go.Esc Go.RowKit Go.Json
theorem get_no {l:List UInt8} {j:Nat} {c:UInt8} (hc:c≠0) (h:¬ ((j:Int)<((bk l).size:Int))∨¬ l.getD j 0=c):¬ l.getD j 0=c:=by
  rcases h with h | h
  · rw [drop_none (by rw [D3] at h; omega)]; exact fun hn=>hc hn.symm
  · exact h
theorem unw_cases {l:List UInt8} {v:Value} {H1 H:List Grp} (h:v=unjW (unjM l)∧H1=H):((∃ t,unjM l=some t∧v=.tuple #[.string (bk t),.bool true])∨(unjM l=none∧v=.tuple #[.string (ByteArray.mk #[]),.bool false]))∧H1=H:=by
  refine ⟨?_,h.2⟩
  have h1:=h.1
  cases hq:unjM l with
  | none=>rw [hq] at h1; exact .inr ⟨rfl,h1⟩
  | some t=>rw [hq] at h1; exact .inl ⟨t,rfl,h1⟩
theorem rnum_ (l:List UInt8) (hl:l.length≤1000000000000) (W0:World) (H:List Grp):Tri Tryz.prog 54 #[.string (bk l)] W0 H (fun v H'=>v=.int .i64 (E3 l:Int)∧H'=H):=by
 have hbz:=D3 l
 refine C5 (args:=[.string (bk l)]) (n:=119) Tryz.func54 rfl rfl (Nat.le_of_ble_eq_true rfl) ?_
 refine A1 (B7 (E':=[⟨0,[],.string (bk l)⟩]) [0] [0] (k:=?_))
 refine A0 (A1 ?_)
 refine G_p [0] [0,3] (k:=A0 ?_)
 refine A1 (A1 ?_)
 refine A2 (A4 (j:=7) [0,0,0,0,0,0,0] (k:=?_))
 refine D4 (ch:=[(10,true)]) (s:=(bk l)) (kd:=.i64) (j:=0) (hb:=(fun hc=>by have hg0:=H0 (t:=10) (c:=[]) (b:=decide (0<((bk l).size:Int))) hc kr; (try simp at hg0); omega)) (k:=?_)
 have hb1:=C2 (bk l) 0
 refine A9 [0,6] [0,3,15] (k:=A0 ?_)
 refine G_join (T:=Nat) (fun ξ:Nat=>[⟨0,[],.string (bk l)⟩,⟨3,[],.int .i64 ((ξ:Nat):Int)⟩]) (fun ξ:Nat=>H) (fun ξ:Nat=>(ξ=sgn l)) ?_ ?_
 ·
  refine B0 (b:=(decide (0<((bk l).size:Int)))&&((A5 (bk l) 0)==45)) kr (fun hc2=>?_) (fun hc2=>?_)
  ·
   simp only [Bool.and_eq_true,decide_eq_true_eq,beq_iff_eq,D7,u45] at hc2
   have hm:l.getD 0 0=45:=hc2.2
   refine G_p [0,0,0] [0,3] (k:=L1 (1) [0,3] kr (fun w h=>h) (by first | exact (if_pos hm).symm | exact (if_neg hm).symm))
  ·
   simp only [Bool.and_eq_false_iff,decide_eq_false_iff_not,beq_eq_false_iff_ne,ne_eq,D7,u45] at hc2
   have hm:¬ l.getD 0 0=45:=get_no (j:=0) (by decide) hc2
   refine A8 (L1 (0) [0,3] kr (fun w h=>h) (by first | exact (if_pos hm).symm | exact (if_neg hm).symm))
 ·
  rintro i hi
  have hil:i≤l.length:=by rw [hi]; exact sgn_le
  have hidl:=K3 l hil
  refine A0 (A1 ?_)
  refine A2 (A4 (j:=2) [0,0] (k:=?_))
  refine F1 (ch:=[]) (s:=(bk l)) (vl:=(some (.int .i64 ((i:Nat):Int)))) (vh:=none) (l:=((i:Nat):Int)) (h:=((bk l).size:Int)) (hb:=(fun _=>by omega)) (k:=A4 (j:=5) [0,0] (k:=?_))
  refine D5 Tryz.func93 (rcountX_ l i ((bk l).size:Int) (by rw [D3]; omega) (by omega) _ _) ?_
  rintro _ H9 ⟨⟨n3,rfl⟩,hH9⟩
  subst H9
  refine A9 [0,0,0,0,0] [0,3,5] (k:=A0 ?_)
  refine A1 (A1 ?_)
  refine A2 (A4 (j:=5) [0,0,0,0,0] (k:=?_))
  refine D4 (ch:=[(29,false)]) (s:=(bk l)) (kd:=.i64) (j:=((i:Nat):Int)) (hb:=(fun hc=>by have hg0:=H0 (t:=29) (c:=[]) (b:=(digs (l.drop i):Int)==0) hc kr; (try simp at hg0); omega)) (k:=?_)
  have hb4:=C2 (bk l) ((i:Nat):Int)
  refine A9 [0,0,0,0,6,5] [0,3,5,38] (k:=A0 ?_)
  refine B0 (b:=((digs (l.drop i):Int)==0)||(((A5 (bk l) ((i:Nat):Int))==48)&&(decide ((digs (l.drop i):Int) > 1)))) kr (fun hc5=>?_) (fun hc5=>?_)
  ·
   simp only [Bool.and_eq_true,Bool.or_eq_true,decide_eq_true_eq,beq_iff_eq,gt_iff_lt,E5,u48] at hc5
   have hz:=hc5
   refine A1 (B7 (E':=[⟨2,[],.int .i64 0⟩]) [0] [2] (k:=?_))
   refine A0 (B4 ?_)
   refine A3 (B6 [.tmp 2] [.int .i64 0] (k:=?_))
   exact ⟨congrArg (fun n:Nat=>Value.int .i64 (n:Int)) (num_int hi (by rcases hz with h | h; exact .inl (by omega); exact .inr ⟨by omega,h.1⟩)).symm,rfl⟩
  ·
   simp only [Bool.and_eq_false_iff,Bool.or_eq_false_iff,decide_eq_false_iff_not,beq_eq_false_iff_ne,ne_eq,gt_iff_lt,E5,u48] at hc5
   have hz:=hc5
   obtain ⟨j,hj⟩:∃ j:Nat,j=i+digs (l.drop i):=⟨_,rfl⟩
   have hI:intP l=j:=int_ok hi hj (by omega) (by rintro ⟨h1,h2⟩; rcases hz.2 with h | h; exact h h2; omega)
   have hjl:=K3 l hil
   rw [← hj] at hjl
   have hj0:j≠0:=by omega
   refine A8 (A0 ?_)
   refine A1 ?_
   have hw6:IntKind.wrap .i64 (((i:Nat):Int)+(digs (l.drop i):Int))=((i:Nat):Int)+(digs (l.drop i):Int):=w64 (by omega) (by omega)
   refine A2 (B5 (E':=[⟨41,[],.int .i64 (((i:Nat):Int)+(digs (l.drop i):Int))⟩,⟨0,[],.string (bk l)⟩,⟨3,[],.int .i64 ((i:Nat):Int)⟩]) [0,0,0] (Eq.trans (b:=some [⟨41,[],.int .i64 (IntKind.wrap .i64 (((i:Nat):Int)+(digs (l.drop i):Int)))⟩,⟨0,[],.string (bk l)⟩,⟨3,[],.int .i64 ((i:Nat):Int)⟩]) kr (by simp only [hw6])) (j:=3) rfl ?_)
   refine B8 (E':=[⟨41,[],.int .i64 ((j:Nat):Int)⟩,⟨0,[],.string (bk l)⟩,⟨3,[],.int .i64 ((i:Nat):Int)⟩]) (by rw [show ((i:Nat):Int)+(digs (l.drop i):Int)=((j:Nat):Int) by omega]) (A9 [0] [0,3] (k:=?_))
   refine A0 (A1 ?_)
   refine A1 (A2 ?_)
   refine A4 (j:=7) [0,0,0,0,0,0,0] (k:=D4 (ch:=[(46,true)]) (s:=(bk l)) (kd:=.i64) (j:=((j:Nat):Int)) (hb:=(fun hc=>by have hg0:=H0 (t:=46) (c:=[]) (b:=decide (((j:Nat):Int)<((bk l).size:Int))) hc kr; (try simp at hg0); omega)) (k:=?_))
   have hb7:=C2 (bk l) ((j:Nat):Int)
   refine A9 [0,6] [0,3,51] (k:=A0 ?_)
   refine G_joinR (T:=Nat) (fun ξ:Nat=>[⟨0,[],.string (bk l)⟩,⟨3,[],.int .i64 ((ξ:Nat):Int)⟩]) (fun ξ:Nat=>H) (fun ξ:Nat=>(ξ=R6 l j)∧(ξ≠0)∧(ξ≤l.length)) ?_ ?_
   ·
    refine B0 (b:=(decide (((j:Nat):Int)<((bk l).size:Int)))&&((A5 (bk l) ((j:Nat):Int))==46)) kr (fun hc8=>?_) (fun hc8=>?_)
    ·
     simp only [Bool.and_eq_true,decide_eq_true_eq,beq_iff_eq,E5,u46] at hc8
     have hd:l.getD j 0=46:=hc8.2
     have hjlt:=Q2 hd (by decide)
     refine A1 (A2 ?_)
     refine A4 (j:=3) [0,0,0] (k:=D8 55 (((j:Nat):Int)+1) (by omega) (by omega) kr ?_)
     refine F1 (ch:=[]) (s:=(bk l)) (vl:=(some (.int .i64 (((j:Nat):Int)+1)))) (vh:=none) (l:=((j:Nat):Int)+1) (h:=((bk l).size:Int)) (hb:=(fun _=>by omega)) (k:=B8 (E':=[⟨56,[],.string ((bk l).extract (j+1) (bk l).size)⟩,⟨55,[],.int .i64 (((j:Nat):Int)+1)⟩,⟨54,[],.int .i64 ((j:Nat):Int)⟩,⟨53,[],.string (bk l)⟩,⟨0,[],.string (bk l)⟩,⟨3,[],.int .i64 ((j:Nat):Int)⟩,⟨51,[],.bool ((decide (((j:Nat):Int)<((bk l).size:Int)))&&((A5 (bk l) ((j:Nat):Int))==46))⟩]) (by have hz:([⟨56,[],.string ((bk l).extract (Int.toNat (((j:Nat):Int)+1)) (bk l).size)⟩,⟨55,[],.int .i64 (((j:Nat):Int)+1)⟩,⟨54,[],.int .i64 ((j:Nat):Int)⟩,⟨53,[],.string (bk l)⟩,⟨0,[],.string (bk l)⟩,⟨3,[],.int .i64 ((j:Nat):Int)⟩,⟨51,[],.bool ((decide (((j:Nat):Int)<((bk l).size:Int)))&&((A5 (bk l) ((j:Nat):Int))==46))⟩]:List Sl)=[⟨56,[],.string ((bk l).extract (j+1) (bk l).size)⟩,⟨55,[],.int .i64 (((j:Nat):Int)+1)⟩,⟨54,[],.int .i64 ((j:Nat):Int)⟩,⟨53,[],.string (bk l)⟩,⟨0,[],.string (bk l)⟩,⟨3,[],.int .i64 ((j:Nat):Int)⟩,⟨51,[],.bool ((decide (((j:Nat):Int)<((bk l).size:Int)))&&((A5 (bk l) ((j:Nat):Int))==46))⟩]:=(by rw [toNatJ]); exact Eq.trans kr hz) ?_)
     refine A4 (j:=6) [0,0] (k:=D5 Tryz.func93 (rcountX_ l (j+1) ((bk l).size:Int) (by rw [D3]; omega) (by omega) _ _) ?_)
     rintro _ H9 ⟨⟨n10,rfl⟩,hH9⟩
     subst H9
     refine A9 [0,0,0,0] [0,3,5] (k:=A0 ?_)
     refine A1 (A1 ?_)
     refine B7 (E':=[⟨0,[],.string (bk l)⟩,⟨3,[],.int .i64 ((j:Nat):Int)⟩,⟨5,[],.int .i64 (digs (l.drop (j+1)):Int)⟩,⟨63,[],.bool ((digs (l.drop (j+1)):Int)==0)⟩]) [0,0] [0,3,5,63] (k:=A0 ?_)
     refine B0 (b:=(digs (l.drop (j+1)):Int)==0) kr (fun hc11=>?_) (fun hc11=>?_)
     ·
      simp only [beq_iff_eq] at hc11
      have hz:=hc11
      refine A1 (B7 (E':=[⟨2,[],.int .i64 0⟩]) [0] [2] (k:=?_))
      refine A0 (B4 ?_)
      refine A3 (N_joinRet ?_)
      refine A3 (B6 [.tmp 2] [.int .i64 0] (k:=?_))
      exact ⟨congrArg (fun n:Nat=>Value.int .i64 (n:Int)) (num_frac hI (frac_bad hd (by omega))).symm,rfl⟩
     ·
      simp only [beq_eq_false_iff_ne,ne_eq] at hc11
      have hz:=hc11
      have hjlt:=Q2 hd (by decide)
      obtain ⟨k,hjk⟩:∃ k:Nat,k=j+1+digs (l.drop (j+1)):=⟨_,rfl⟩
      have hkle:=K3 l (k:=j+1) (by omega)
      rw [← hjk] at hkle
      refine A8 (A0 ?_)
      refine A2 (A4 (j:=3) [0,0,0] (k:=?_))
      refine D8 66 ((digs (l.drop (j+1)):Int)+1) (by omega) (by omega) kr ?_
      have hw13:IntKind.wrap .i64 (((j:Nat):Int)+((digs (l.drop (j+1)):Int)+1))=((j:Nat):Int)+((digs (l.drop (j+1)):Int)+1):=w64 (by omega) (by omega)
      refine B5 (E':=[⟨67,[],.int .i64 (((j:Nat):Int)+((digs (l.drop (j+1)):Int)+1))⟩,⟨0,[],.string (bk l)⟩,⟨3,[],.int .i64 ((j:Nat):Int)⟩]) [0] (Eq.trans (b:=some [⟨67,[],.int .i64 (IntKind.wrap .i64 (((j:Nat):Int)+((digs (l.drop (j+1)):Int)+1)))⟩,⟨0,[],.string (bk l)⟩,⟨3,[],.int .i64 ((j:Nat):Int)⟩]) kr (by simp only [hw13])) (j:=4) rfl (B8 (E':=[⟨67,[],.int .i64 ((k:Nat):Int)⟩,⟨0,[],.string (bk l)⟩,⟨3,[],.int .i64 ((j:Nat):Int)⟩]) (by rw [show ((j:Nat):Int)+((digs (l.drop (j+1)):Int)+1)=((k:Nat):Int) by omega]) ?_)
      refine A9 [0] [0,3] (k:=N_joinR (k) [0,3] kr (fun w h=>h) ⟨(by first | exact (frac_no hd).symm | exact hjk.trans (frac_ok hd (by omega)).symm),(by omega),(by omega)⟩)
    ·
     simp only [Bool.and_eq_false_iff,decide_eq_false_iff_not,beq_eq_false_iff_ne,ne_eq,E5,u46] at hc8
     have hd:¬ l.getD j 0=46:=get_no (by decide) hc8
     refine A8 (N_joinR (j) [0,3] kr (fun w h=>h) ⟨(by first | exact (frac_no hd).symm | exact hjk.trans (frac_ok hd (by omega)).symm),(by omega),(by omega)⟩)
   ·
    rintro k ⟨hk,hk0,hkl⟩
    refine A0 (A1 ?_)
    refine A1 (A2 ?_)
    refine A4 (j:=7) [0,0,0,0,0,0,0] (k:=D4 (ch:=[(72,true)]) (s:=(bk l)) (kd:=.i64) (j:=((k:Nat):Int)) (hb:=(fun hc=>by have hg0:=H0 (t:=72) (c:=[]) (b:=decide (((k:Nat):Int)<((bk l).size:Int))) hc kr; (try simp at hg0); omega)) (k:=?_))
    have hb14:=C2 (bk l) ((k:Nat):Int)
    refine A4 (j:=12) [0,0,0,0] (k:=D4 (ch:=[(77,false),(72,true)]) (s:=(bk l)) (kd:=.i64) (j:=((k:Nat):Int)) (hb:=(fun hc=>by have hg0:=H0 (t:=77) (c:=[(72,true)]) (b:=(A5 (bk l) ((k:Nat):Int))==101) hc kr; have hg1:=H0 (t:=72) (c:=[]) (b:=decide (((k:Nat):Int)<((bk l).size:Int))) (chB_tl hc) kr; (try simp at hg0 hg1); omega)) (k:=?_))
    have hb15:=C2 (bk l) ((k:Nat):Int)
    refine A9 [0,5,6] [0,3,83] (k:=A0 ?_)
    refine B0 (b:=(decide (((k:Nat):Int)<((bk l).size:Int)))&&(((A5 (bk l) ((k:Nat):Int))==101)||((A5 (bk l) ((k:Nat):Int))==69))) kr (fun hc16=>?_) (fun hc16=>?_)
    ·
     simp only [Bool.and_eq_true,Bool.or_eq_true,decide_eq_true_eq,beq_iff_eq,E5,G6,u69] at hc16
     have hz:=hc16
     refine A1 ?_
     have hw17:IntKind.wrap .i64 (((k:Nat):Int)+1)=((k:Nat):Int)+1:=w64 (by omega) (by omega)
     refine A2 (B5 (E':=[⟨85,[],.int .i64 (((k:Nat):Int)+1)⟩,⟨0,[],.string (bk l)⟩,⟨3,[],.int .i64 ((k:Nat):Int)⟩]) [0,0] (Eq.trans (b:=some [⟨85,[],.int .i64 (IntKind.wrap .i64 (((k:Nat):Int)+1))⟩,⟨0,[],.string (bk l)⟩,⟨3,[],.int .i64 ((k:Nat):Int)⟩]) kr (by simp only [hw17])) (j:=2) rfl ?_)
     refine B8 (E':=[⟨85,[],.int .i64 ((k+1:Nat):Int)⟩,⟨0,[],.string (bk l)⟩,⟨3,[],.int .i64 ((k:Nat):Int)⟩]) (by rw [show ((k:Nat):Int)+1=((k+1:Nat):Int) by omega]) (A9 [0] [0,3] (k:=?_))
     refine A0 (A1 ?_)
     refine A1 (A2 ?_)
     refine A4 (j:=7) [0,0,0,0,0,0,0] (k:=D4 (ch:=[(90,true)]) (s:=(bk l)) (kd:=.i64) (j:=((k+1:Nat):Int)) (hb:=(fun hc=>by have hg0:=H0 (t:=90) (c:=[]) (b:=decide (((k+1:Nat):Int)<((bk l).size:Int))) hc kr; (try simp at hg0); omega)) (k:=?_))
     have hb18:=C2 (bk l) ((k+1:Nat):Int)
     refine A4 (j:=12) [0,0,0,0] (k:=D4 (ch:=[(95,false),(90,true)]) (s:=(bk l)) (kd:=.i64) (j:=((k+1:Nat):Int)) (hb:=(fun hc=>by have hg0:=H0 (t:=95) (c:=[(90,true)]) (b:=(A5 (bk l) ((k+1:Nat):Int))==43) hc kr; have hg1:=H0 (t:=90) (c:=[]) (b:=decide (((k+1:Nat):Int)<((bk l).size:Int))) (chB_tl hc) kr; (try simp at hg0 hg1); omega)) (k:=?_))
     have hb19:=C2 (bk l) ((k+1:Nat):Int)
     refine A9 [0,5,6] [0,3,101] (k:=A0 ?_)
     refine G_join (T:=Nat) (fun ξ:Nat=>[⟨0,[],.string (bk l)⟩,⟨3,[],.int .i64 ((ξ:Nat):Int)⟩]) (fun ξ:Nat=>H) (fun ξ:Nat=>(ξ=sgn2 l (k+1))∧(ξ≤l.length)) ?_ ?_
     ·
      refine B0 (b:=(decide (((k+1:Nat):Int)<((bk l).size:Int)))&&(((A5 (bk l) ((k+1:Nat):Int))==43)||((A5 (bk l) ((k+1:Nat):Int))==45))) kr (fun hc20=>?_) (fun hc20=>?_)
      ·
       simp only [Bool.and_eq_true,Bool.or_eq_true,decide_eq_true_eq,beq_iff_eq,E5,u45,u43] at hc20
       have h5:=hc20
       have hw21:IntKind.wrap .i64 (((k+1:Nat):Int)+1)=((k+1:Nat):Int)+1:=w64 (by omega) (by omega)
       refine A2 (B5 (E':=[⟨103,[],.int .i64 (((k+1:Nat):Int)+1)⟩,⟨0,[],.string (bk l)⟩,⟨3,[],.int .i64 ((k+1:Nat):Int)⟩]) [0,0] (Eq.trans (b:=some [⟨103,[],.int .i64 (IntKind.wrap .i64 (((k+1:Nat):Int)+1))⟩,⟨0,[],.string (bk l)⟩,⟨3,[],.int .i64 ((k+1:Nat):Int)⟩]) kr (by simp only [hw21])) (j:=2) rfl ?_)
       refine B8 (E':=[⟨103,[],.int .i64 ((k+2:Nat):Int)⟩,⟨0,[],.string (bk l)⟩,⟨3,[],.int .i64 ((k+1:Nat):Int)⟩]) (by rw [show ((k+1:Nat):Int)+1=((k+2:Nat):Int) by omega]) (A9 [0] [0,3] (k:=?_))
       refine L1 (k+2) [0,3] kr (fun w h=>h) ⟨(by first | exact (sgn2_yes h5.2).symm | exact (sgn2_no (by rcases h5 with h | h; exact .inl (by omega); exact .inr (by rintro (h1 | h1); exact h.1 h1; exact h.2 h1))).symm),(by omega)⟩
      ·
       simp only [Bool.and_eq_false_iff,Bool.or_eq_false_iff,decide_eq_false_iff_not,beq_eq_false_iff_ne,ne_eq,E5,u45,u43] at hc20
       have h5:=hc20
       refine A8 (L1 (k+1) [0,3] kr (fun w h=>h) ⟨(by first | exact (sgn2_yes h5.2).symm | exact (sgn2_no (by rcases h5 with h | h; exact .inl (by omega); exact .inr (by rintro (h1 | h1); exact h.1 h1; exact h.2 h1))).symm),(by omega)⟩)
     ·
      rintro m ⟨hm2,hml⟩
      refine A0 (A1 ?_)
      refine A2 (A4 (j:=2) [0,0] (k:=?_))
      refine F1 (ch:=[]) (s:=(bk l)) (vl:=(some (.int .i64 ((m:Nat):Int)))) (vh:=none) (l:=((m:Nat):Int)) (h:=((bk l).size:Int)) (hb:=(fun _=>by omega)) (k:=A4 (j:=5) [0,0] (k:=?_))
      refine D5 Tryz.func93 (rcountX_ l m ((bk l).size:Int) (by rw [D3]; omega) (by omega) _ _) ?_
      rintro _ H9 ⟨⟨n22,rfl⟩,hH9⟩
      subst H9
      refine A9 [0,0,0,0] [3,5] (k:=A0 ?_)
      refine A1 (A1 ?_)
      refine G_p [0,0] [3,5,114] (k:=A0 ?_)
      refine B0 (b:=(digs (l.drop m):Int)==0) kr (fun hc23=>?_) (fun hc23=>?_)
      ·
       simp only [beq_iff_eq] at hc23
       have h6:=hc23
       refine A1 (B7 (E':=[⟨2,[],.int .i64 0⟩]) [0] [2] (k:=?_))
       refine A0 (B4 ?_)
       refine A3 (A3 ?_)
       refine B6 [.tmp 2] [.int .i64 0] (k:=?_)
       exact ⟨congrArg (fun n:Nat=>Value.int .i64 (n:Int)) ((num_exp hI hj0 hk hk0).trans (exp_bad hz.2 hm2 (by omega))).symm,rfl⟩
      ·
       simp only [beq_eq_false_iff_ne,ne_eq] at hc23
       obtain ⟨n,hn⟩:∃ n:Nat,n=m+digs (l.drop m):=⟨_,rfl⟩
       have hnl:=K3 l hml
       rw [← hn] at hnl
       have h6:=hc23
       refine A8 (A0 ?_)
       have hw24:IntKind.wrap .i64 (((m:Nat):Int)+(digs (l.drop m):Int))=((m:Nat):Int)+(digs (l.drop m):Int):=w64 (by omega) (by omega)
       refine A2 (B5 (E':=[⟨117,[],.int .i64 (((m:Nat):Int)+(digs (l.drop m):Int))⟩,⟨3,[],.int .i64 ((m:Nat):Int)⟩]) [0,0,0] (Eq.trans (b:=some [⟨117,[],.int .i64 (IntKind.wrap .i64 (((m:Nat):Int)+(digs (l.drop m):Int)))⟩,⟨3,[],.int .i64 ((m:Nat):Int)⟩]) kr (by simp only [hw24])) (j:=3) rfl ?_)
       refine B8 (E':=[⟨117,[],.int .i64 ((n:Nat):Int)⟩,⟨3,[],.int .i64 ((m:Nat):Int)⟩]) (by rw [show ((m:Nat):Int)+(digs (l.drop m):Int)=((n:Nat):Int) by omega]) (B2 (E':=[⟨3,[],.int .i64 ((n:Nat):Int)⟩]) [0] [3] (k:=?_))
       refine A0 (A1 ?_)
       refine B7 (E':=[⟨2,[],.int .i64 ((n:Nat):Int)⟩]) [0,0] [2] (k:=A0 ?_)
       refine B4 (B6 [.tmp 2] [.int .i64 ((n:Nat):Int)] (k:=?_))
       exact ⟨congrArg (fun n:Nat=>Value.int .i64 (n:Int)) ((num_exp hI hj0 hk hk0).trans ((exp_ok hz.2 hm2 (by omega)).trans hn.symm)).symm,rfl⟩
    ·
     simp only [Bool.and_eq_false_iff,Bool.or_eq_false_iff,decide_eq_false_iff_not,beq_eq_false_iff_ne,ne_eq,E5,G6,u69] at hc16
     have hz:=hc16
     refine A8 (A0 ?_)
     refine A1 (B7 (E':=[⟨2,[],.int .i64 ((k:Nat):Int)⟩]) [0,0] [2] (k:=?_))
     refine A0 (B4 ?_)
     refine B6 [.tmp 2] [.int .i64 ((k:Nat):Int)] (k:=?_)
     exact ⟨congrArg (fun n:Nat=>Value.int .i64 (n:Int)) ((num_exp hI hj0 hk hk0).trans (exp_no (by rcases hz with h | h; exact .inl (by omega); exact .inr (by rintro (h1 | h1); exact h.1 h1; exact h.2 h1)))).symm,rfl⟩
theorem rtext_ (t:Nat) (l:List UInt8) (i:Nat) (hl:l.length≤1000000) (hi:i≤l.length) (W0:World) (H:List Grp):Tri Tryz.prog 85 #[pt t] W0 ([(t,.cells #[.string (bk l),.int .i64 ((i:Nat):Int)] 83 (0,0))]::H) (fun v H'=>(∃ x r j,J3 (l.drop i)=some (x,r)∧l.drop j=r∧j≤l.length∧v=.tuple #[.string (bk x),.bool true]∧H'=tapeG t l (j:Int)::H)∨(J3 (l.drop i)=none∧∃ j,j≤l.length∧v=.tuple #[.string (ByteArray.mk #[]),.bool false]∧H'=tapeG t l (j:Int)::H)):=by
  have hbz:=D3 l
  refine C5 (args:=[pt t]) (n:=71) Tryz.func85 rfl rfl (Nat.le_of_ble_eq_true rfl) ?_
  refine A1 (B7 (E':=[⟨0,[],pt t⟩]) [0,0] [0] (k:=?_))
  refine A0 (A1 ?_)
  refine A1 (A2 ?_)
  refine A4 (j:=1) [0] (k:=D5 Tryz.func83 (rnext_ t l i _ _) ?_)
  rintro _ _ ⟨rfl,rfl⟩
  refine A9 [0] [0,9] (k:=A0 ?_)
  refine B0 (b:=((l.getD i 0).toNat:Int) != 34) kr (fun hc1=>?_) (fun hc1=>?_)
  ·
    simp only [bne_iff_ne,ne_eq,u34] at hc1
    have hq:¬ (l.drop i).getD 0 0=34:=by rw [G3]; exact hc1
    refine A1 (G_p [0,0] [2,3] (k:=?_))
    refine A0 (B4 ?_)
    refine A3 (B6 [.tmp 2,.tmp 3] [.string (ByteArray.mk #[]),.bool false] (k:=?_))
    exact .inr ⟨textP_no hq,i,hi,rfl,rfl⟩
  ·
    simp only [bne_eq_false_iff_eq,u34] at hc1
    have hq:(l.drop i).getD 0 0=34:=by rw [G3]; exact hc1
    have hilt:=Q2 hc1 (by decide)
    refine A8 (A0 ?_)
    refine A1 (A2 ?_)
    refine A4 (j:=3) [0,0,0] (k:=A6 (ch:=[]) (b:=t) (off:=1) (v:=.int .i64 ((i:Nat):Int)) (hA:=At.grp 0 0 rfl rfl) (k:=?_))
    have hw2:IntKind.wrap .i64 (((i:Nat):Int)+1)=((i:Nat):Int)+1:=w64 (by omega) (by omega)
    refine B5 (E':=[⟨14,[],.int .i64 (((i:Nat):Int)+1)⟩,⟨0,[],pt t⟩]) [0] (Eq.trans (b:=some [⟨14,[],.int .i64 (IntKind.wrap .i64 (((i:Nat):Int)+1))⟩,⟨0,[],pt t⟩]) kr (by simp only [hw2])) (j:=5) rfl (B8 (E':=[⟨14,[],.int .i64 ((i+1:Nat):Int)⟩,⟨0,[],pt t⟩]) (by rw [show ((i:Nat):Int)+1=((i+1:Nat):Int) by omega]) ?_)
    refine A9 [0] [0,4] (k:=A0 ?_)
    refine A1 (B9 ?_)
    refine J5 (EI:=(fun ξ:Nat=>[⟨0,[],pt t⟩,⟨4,[],.int .i64 ((ξ:Nat):Int)⟩])) (HI:=(fun ξ:Nat=>([(t,.cells #[.string (bk l),.int .i64 ((i:Nat):Int)] 83 (0,0))]::H))) (Φ:=(fun ξ:Nat=>(i+1≤ξ)∧(ξ≤l.length+2)∧(1+qL (l.drop (i+1))=(ξ - i)+qL (l.drop ξ)))) (μ:=(fun ξ:Nat=>l.length+2 - ξ)) (s0:=(i+1)) [0,4] kr rfl ⟨(Nat.le_refl _),(by omega),(by rw [Nat.add_sub_cancel_left])⟩ ?_
    rintro e ⟨he1,hel,hT⟩
    refine A1 (A1 ?_)
    refine A2 (A4 (j:=4) [0,0,0,0] (k:=?_))
    refine A6 (ch:=[]) (b:=t) (off:=0) (v:=.string (bk l)) (hA:=At.grp 0 0 rfl rfl) (k:=A4 (j:=11) [0,0,0,0,0,0] (k:=?_))
    refine A6 (ch:=[(22,true)]) (b:=t) (off:=0) (v:=.string (bk l)) (hA:=At.grp 0 0 rfl rfl) (k:=A4 (j:=13) [0] (k:=?_))
    refine D4 (ch:=[(22,true)]) (s:=(bk l)) (kd:=.i64) (j:=((e:Nat):Int)) (hb:=(fun hc=>by have hg0:=H0 (t:=22) (c:=[]) (b:=decide (((e:Nat):Int)<((bk l).size:Int))) hc kr; (try simp at hg0); omega)) (k:=?_)
    have hb3:=C2 (bk l) ((e:Nat):Int)
    refine A9 [0,6] [0,4,30] (k:=A0 ?_)
    refine B0 (b:=(decide (((e:Nat):Int)<((bk l).size:Int)))&&((A5 (bk l) ((e:Nat):Int)) != 34)) kr (fun hc4=>?_) (fun hc4=>?_)
    ·
      simp only [Bool.and_eq_true,decide_eq_true_eq,bne_iff_ne,ne_eq,E5,u34] at hc4
      have h1:=hc4
      refine A8 (A0 ?_)
      refine B9 (A1 ?_)
      refine A1 (A2 ?_)
      refine A4 (j:=3) [0,0,0] (k:=A6 (ch:=[]) (b:=t) (off:=0) (v:=.string (bk l)) (hA:=At.grp 0 0 rfl rfl) (k:=?_))
      refine A4 (j:=5) [0] (k:=D4 (ch:=[]) (s:=(bk l)) (kd:=.i64) (j:=((e:Nat):Int)) (hb:=(fun _=>by omega)) (k:=?_))
      have hb5:=C2 (bk l) ((e:Nat):Int)
      refine A9 [0] [0,4,37] (k:=A0 ?_)
      refine B0 (b:=(A5 (bk l) ((e:Nat):Int))==92) kr (fun hc6=>?_) (fun hc6=>?_)
      ·
        simp only [beq_iff_eq,E5,u92] at hc6
        have h2:=hc6
        have hw7:IntKind.wrap .i64 (((e:Nat):Int)+1)=((e:Nat):Int)+1:=w64 (by omega) (by omega)
        refine A2 (B5 (E':=[⟨39,[],.int .i64 (((e:Nat):Int)+1)⟩,⟨0,[],pt t⟩,⟨4,[],.int .i64 ((e:Nat):Int)⟩]) [0,0] (Eq.trans (b:=some [⟨39,[],.int .i64 (IntKind.wrap .i64 (((e:Nat):Int)+1))⟩,⟨0,[],pt t⟩,⟨4,[],.int .i64 ((e:Nat):Int)⟩]) kr (by simp only [hw7])) (j:=2) rfl ?_)
        refine B8 (E':=[⟨39,[],.int .i64 ((e+1:Nat):Int)⟩,⟨0,[],pt t⟩,⟨4,[],.int .i64 ((e:Nat):Int)⟩]) (by rw [show ((e:Nat):Int)+1=((e+1:Nat):Int) by omega]) (A9 [0] [0,4] (k:=?_))
        refine A0 ?_
        have hw8:IntKind.wrap .i64 (((e+1:Nat):Int)+1)=((e+1:Nat):Int)+1:=w64 (by omega) (by omega)
        refine A2 (B5 (E':=[⟨41,[],.int .i64 (((e+1:Nat):Int)+1)⟩,⟨0,[],pt t⟩,⟨4,[],.int .i64 ((e+1:Nat):Int)⟩]) [0,0] (Eq.trans (b:=some [⟨41,[],.int .i64 (IntKind.wrap .i64 (((e+1:Nat):Int)+1))⟩,⟨0,[],pt t⟩,⟨4,[],.int .i64 ((e+1:Nat):Int)⟩]) kr (by simp only [hw8])) (j:=2) rfl ?_)
        refine B8 (E':=[⟨41,[],.int .i64 ((e+2:Nat):Int)⟩,⟨0,[],pt t⟩,⟨4,[],.int .i64 ((e+1:Nat):Int)⟩]) (by rw [show ((e+1:Nat):Int)+1=((e+2:Nat):Int) by omega]) (A9 [0] [0,4] (k:=?_))
        refine C0 (F3 (s':=(e+2)) [0,4] kr rfl ⟨(by omega),(by omega),(by first | (rw [hT,qL_two (by omega) h2]; omega) | (rw [hT,qL_one (by omega) h1.2 h2]; omega))⟩ (by omega))
      ·
        simp only [beq_eq_false_iff_ne,ne_eq,E5,u92] at hc6
        have h2:=hc6
        refine A8 (A0 ?_)
        have hw9:IntKind.wrap .i64 (((e:Nat):Int)+1)=((e:Nat):Int)+1:=w64 (by omega) (by omega)
        refine A2 (B5 (E':=[⟨41,[],.int .i64 (((e:Nat):Int)+1)⟩,⟨0,[],pt t⟩,⟨4,[],.int .i64 ((e:Nat):Int)⟩]) [0,0] (Eq.trans (b:=some [⟨41,[],.int .i64 (IntKind.wrap .i64 (((e:Nat):Int)+1))⟩,⟨0,[],pt t⟩,⟨4,[],.int .i64 ((e:Nat):Int)⟩]) kr (by simp only [hw9])) (j:=2) rfl ?_)
        refine B8 (E':=[⟨41,[],.int .i64 ((e+1:Nat):Int)⟩,⟨0,[],pt t⟩,⟨4,[],.int .i64 ((e:Nat):Int)⟩]) (by rw [show ((e:Nat):Int)+1=((e+1:Nat):Int) by omega]) (A9 [0] [0,4] (k:=?_))
        refine C0 (F3 (s':=(e+1)) [0,4] kr rfl ⟨(by omega),(by omega),(by first | (rw [hT,qL_two (by omega) h2]; omega) | (rw [hT,qL_one (by omega) h1.2 h2]; omega))⟩ (by omega))
    ·
      simp only [Bool.and_eq_false_iff,decide_eq_false_iff_not,bne_eq_false_iff_eq,E5,u34] at hc4
      have h1:=hc4
      have hE:1+qL ((l.drop i).drop 1)=e - i:=by
        rw [List.drop_drop,hT]
        rcases h1 with h | h
        · rw [qL_out (by omega)]; omega
        · rcases Nat.lt_or_ge e l.length with h3 | h3
          · rw [qL_quote h3 h]; omega
          · rw [qL_out h3]; omega
      refine H5 (B1 ?_)
      refine B1 (C7 ?_)
      refine A0 (A1 ?_)
      refine A1 (A2 ?_)
      refine A4 (j:=4) [0,0,0,0] (k:=A6 (ch:=[]) (b:=t) (off:=0) (v:=.string (bk l)) (hA:=At.grp 0 0 rfl rfl) (k:=?_))
      refine A9 [0,0] [0,4,48] (k:=A0 ?_)
      refine B0 (b:=decide (((e:Nat):Int) ≥ ((bk l).size:Int))) kr (fun hc10=>?_) (fun hc10=>?_)
      ·
        simp only [decide_eq_true_eq,ge_iff_le] at hc10
        have hz:=hc10
        refine A1 (G_p [0,0] [2,3] (k:=?_))
        refine A0 (B4 ?_)
        refine A3 (B6 [.tmp 2,.tmp 3] [.string (ByteArray.mk #[]),.bool false] (k:=?_))
        exact .inr ⟨textP_out hE (by rw [List.length_drop]; omega),i,hi,rfl,rfl⟩
      ·
        simp only [decide_eq_false_iff_not,ge_iff_le] at hc10
        have hz:=hc10
        refine A8 (A0 ?_)
        refine A1 (N8 ([(t,.cells #[.string (bk l),.int .i64 ((i:Nat):Int)] 83 (0,0))]::H) kr ?_)
        refine Q8 (fuel:=16) [(0,0)] (fun w h=>h) (k:=GH_nil (ad:=⟨t,0,none⟩) 1 (hL:=(fun w h=>h)) (k:=?_))
        refine Q8 (fuel:=14) [(2,0)] (fun w h=>h) (k:=L3 3 (hL:=(fun w h=>h)) (hy:=A6 (i:=3) (ch:=[]) (b:=t) (off:=0) (v:=.string (bk l)) (hA:=At.grp 0 0 rfl rfl) (k:=N2 kr rfl)) (k:=?_))
        refine Q8 (fuel:=12) [(4,0)] (fun w h=>h) (k:=GH_nil (ad:=⟨t,0,none⟩) 5 (hL:=(fun w h=>h)) (k:=?_))
        refine Q8 (fuel:=10) [(6,0)] (fun w h=>h) (k:=L3 7 (hL:=(fun w h=>h)) (hy:=A6 (i:=7) (ch:=[]) (b:=t) (off:=1) (v:=.int .i64 ((i:Nat):Int)) (hA:=At.grp 0 0 rfl rfl) (k:=N2 kr rfl)) (k:=?_))
        refine Q8 (fuel:=7) [(8,0),(9,0)] (fun w h=>h) (k:=GH_wi 59 (((e:Nat):Int)+1) (by omega) (by omega) kr ?_)
        refine L3 (E':=[⟨60,[],.string ((bk l).extract i (Int.toNat (((e:Nat):Int)+1)))⟩,⟨59,[],.int .i64 (((e:Nat):Int)+1)⟩,⟨58,[],.int .i64 ((e:Nat):Int)⟩,⟨57,[],.int .i64 ((i:Nat):Int)⟩,⟨56,[],.pointer (some ⟨t,1,none⟩)⟩,⟨55,[],pt t⟩,⟨54,[],pt t⟩,⟨53,[],.string (bk l)⟩,⟨52,[],pt t⟩,⟨51,[],pt t⟩,⟨50,[],pt t⟩,⟨0,[],pt t⟩,⟨4,[],.int .i64 ((e:Nat):Int)⟩,⟨48,[],.bool (decide (((e:Nat):Int) ≥ ((bk l).size:Int)))⟩]) 10 kr (fun w h=>h) ?_ ?_
        ·
          exact F1 (ch:=[]) (s:=(bk l)) (vl:=(some (.int .i64 ((i:Nat):Int)))) (vh:=(some (.int .i64 (((e:Nat):Int)+1)))) (l:=((i:Nat):Int)) (h:=((e:Nat):Int)+1) (hb:=(fun _=>by omega)) (k:=N2 kr kr)
        refine GH_env (E':=[⟨60,[],.string (bk ((l.drop i).take (e+1 - i)))⟩,⟨59,[],.int .i64 (((e:Nat):Int)+1)⟩,⟨58,[],.int .i64 ((e:Nat):Int)⟩,⟨57,[],.int .i64 ((i:Nat):Int)⟩,⟨56,[],.pointer (some ⟨t,1,none⟩)⟩,⟨55,[],pt t⟩,⟨54,[],pt t⟩,⟨53,[],.string (bk l)⟩,⟨52,[],pt t⟩,⟨51,[],pt t⟩,⟨50,[],pt t⟩,⟨0,[],pt t⟩,⟨4,[],.int .i64 ((e:Nat):Int)⟩,⟨48,[],.bool (decide (((e:Nat):Int) ≥ ((bk l).size:Int)))⟩]) (by rw [toNatJ,ext_mid]) (H6 11 (k:=?_))
        refine D5 (vs:=[.string (bk ((l.drop i).take (e+1 - i)))]) Tryz.func132 ((Tri.post (runjson_ (bk ((l.drop i).take (e+1 - i))) (by rw [D3,List.length_take,List.length_drop]; omega) _ _) fun v H1 h=>⟨H1,unw_cases h,fun _ h=>h⟩)) ?_
        rintro _ _ ⟨⟨x0,hV,rfl⟩ | ⟨hV,rfl⟩,rfl⟩
        ·
          refine E6 kr (fun w h=>h) (Q8 (fuel:=0) [(12,0),(13,0),(14,0),(15,0),(16,0)] (fun w h=>h) (k:=?_))
          refine L4 (E':=[⟨0,[],pt t⟩,⟨4,[],.int .i64 ((e:Nat):Int)⟩,⟨5,[],.string (bk x0)⟩,⟨6,[],.bool true⟩]) [0,4,5,6] (k:=A0 ?_)
          refine A1 ?_
          have hw12:IntKind.wrap .i64 (((e:Nat):Int)+1)=((e:Nat):Int)+1:=w64 (by omega) (by omega)
          refine A2 (B5 (E':=[⟨66,[],.int .i64 (((e:Nat):Int)+1)⟩,⟨64,[],pt t⟩,⟨5,[],.string (bk x0)⟩,⟨6,[],.bool true⟩]) [0,0,0] (Eq.trans (b:=some [⟨66,[],.int .i64 (IntKind.wrap .i64 (((e:Nat):Int)+1))⟩,⟨64,[],pt t⟩,⟨5,[],.string (bk x0)⟩,⟨6,[],.bool true⟩]) kr (by simp only [hw12])) (j:=3) rfl ?_)
          refine B8 (E':=[⟨66,[],.int .i64 ((e+1:Nat):Int)⟩,⟨64,[],pt t⟩,⟨5,[],.string (bk x0)⟩,⟨6,[],.bool true⟩]) (by rw [show ((e:Nat):Int)+1=((e+1:Nat):Int) by omega]) (A4 (j:=5) [0,0] (k:=?_))
          refine D2 (ch:=[]) (b:=t) (off:=1) (v:=.int .i64 ((e+1:Nat):Int)) (j:=0) ([(t,.cells #[.string (bk l),.int .i64 ((e+1:Nat):Int)] 83 (0,0))]::H) (hoff:=Nat.le_of_ble_eq_true rfl) (hfz:=(fun _ _=>C6)) (k:=A9 [] [5,6] (k:=?_))
          refine A0 (A1 ?_)
          refine G_p [0,0,0,0] [2,3] (k:=A0 ?_)
          refine B4 (B6 [.tmp 2,.tmp 3] [.string (bk x0),.bool true] (k:=?_))
          exact .inl ⟨_,_,e+1,textP_some hE hq (by rw [List.length_drop]; omega) (by rw [show e - i+1=e+1 - i by omega]; exact hV),by rw [List.drop_drop]; congr 1; omega,by omega,rfl,rfl⟩
        ·
          refine E6 kr (fun w h=>h) (Q8 (fuel:=0) [(12,0),(13,0),(14,0),(15,0),(16,0)] (fun w h=>h) (k:=?_))
          refine L4 (E':=[⟨0,[],pt t⟩,⟨4,[],.int .i64 ((e:Nat):Int)⟩,⟨5,[],.string (ByteArray.mk #[])⟩,⟨6,[],.bool false⟩]) [0,4,5,6] (k:=A0 ?_)
          refine A1 ?_
          have hw13:IntKind.wrap .i64 (((e:Nat):Int)+1)=((e:Nat):Int)+1:=w64 (by omega) (by omega)
          refine A2 (B5 (E':=[⟨66,[],.int .i64 (((e:Nat):Int)+1)⟩,⟨64,[],pt t⟩,⟨5,[],.string (ByteArray.mk #[])⟩,⟨6,[],.bool false⟩]) [0,0,0] (Eq.trans (b:=some [⟨66,[],.int .i64 (IntKind.wrap .i64 (((e:Nat):Int)+1))⟩,⟨64,[],pt t⟩,⟨5,[],.string (ByteArray.mk #[])⟩,⟨6,[],.bool false⟩]) kr (by simp only [hw13])) (j:=3) rfl ?_)
          refine B8 (E':=[⟨66,[],.int .i64 ((e+1:Nat):Int)⟩,⟨64,[],pt t⟩,⟨5,[],.string (ByteArray.mk #[])⟩,⟨6,[],.bool false⟩]) (by rw [show ((e:Nat):Int)+1=((e+1:Nat):Int) by omega]) (A4 (j:=5) [0,0] (k:=?_))
          refine D2 (ch:=[]) (b:=t) (off:=1) (v:=.int .i64 ((e+1:Nat):Int)) (j:=0) ([(t,.cells #[.string (bk l),.int .i64 ((e+1:Nat):Int)] 83 (0,0))]::H) (hoff:=Nat.le_of_ble_eq_true rfl) (hfz:=(fun _ _=>C6)) (k:=A9 [] [5,6] (k:=?_))
          refine A0 (A1 ?_)
          refine G_p [0,0,0,0] [2,3] (k:=A0 ?_)
          refine B4 (B6 [.tmp 2,.tmp 3] [.string (ByteArray.mk #[]),.bool false] (k:=?_))
          exact .inr ⟨textP_bad hE (by rw [List.length_drop]; omega) (by rw [show e - i+1=e+1 - i by omega]; exact hV),e+1,by omega,rfl,rfl⟩
end Go.Proofs.YtppgfiklmfoaeaaGreatDoor
