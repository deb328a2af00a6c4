/- The document's Right. Conditions: its weight. (and what it stands on) -/
import Derived.Test.YtppgfiklmfoaeaaGreatDoorZ2
namespace Go.Proofs.YtppgfiklmfoaeaaGreatDoor
open Go.Sw Go.Sha Go.Esc Go.RowKit Go.Json
theorem J1 (t:List UInt8):((!((bk t).toList==(ByteArray.mk #[]).toList))&&(((F8 t:Nat):Int)==((bk t).size:Int)))=decide (t≠[]∧F8 t=t.length):=by
  rw [Bool.eq_iff_iff,Bool.and_eq_true,Bool.not_eq_true',nil_strF,beq_iff_eq,decide_eq_true_eq,C3]
  constructor
  · rintro ⟨h1,h2⟩; exact ⟨h1,by omega⟩
  · rintro ⟨h1,h2⟩; exact ⟨h1,by omega⟩
theorem L3 (l:List UInt8):((bk l).toList=(ByteArray.mk #[]).toList) ↔ l=[]:=by rw [← beq_iff_eq]; exact nil_str l
theorem M7 (x:JV):wtJ x=1+x.text.length+wtN x.names+wtL x.list:=by cases x; exact wtJ_eq _ _ _ _
theorem wt_sub {x:JV} {i:Nat} (h:i<x.list.length):wtJ x.list[i]<wtJ x:=by
  have:=wtL_at h
  rw [M7 x]; omega
theorem wt_name {x:JV} {i:Nat} (h:i<x.names.length):x.names[i].length<wtJ x:=by
  have:=wtN_at h
  rw [M7 x]; omega
theorem L7 {ns:List (List UInt8)} {k:Nat} {y:List UInt8} (h:k<ns.length) (hy:y=ns[k]):(E7 ns)[k * 1]? = some (.string (bk y)):=by rw [Nat.mul_one,hy]; exact strV_at h
theorem I4 {ns:List (List UInt8)} {k:Nat} (h:k<ns.length):E7 ns≠[]:=by
  intro h0; have:=congrArg List.length h0; rw [strV_len,List.length_nil] at this; omega
theorem jr1_ (n:List UInt8) (hn:n.length≤1000000000) (W0:World) (H:List Grp) (hW:F2 W0):Tri Tryz.prog 87 #[.string (bk n)] W0 H (fun v H'=>v=.bool (!D2 n)∧H'=H):=by
 refine C6 (args:=[.string (bk n)]) (n:=6) Tryz.func87 rfl rfl (Nat.le_of_ble_eq_true rfl) ?_
 refine A1 (B7 (E':=[⟨0,[],.string (bk n)⟩]) [0] [0] (k:=?_))
 refine A0 (A1 ?_)
 refine A2 (A4 (j:=1) [0] (k:=?_))
 refine H4 Tryz.func59 (valid_ (bk n) (by rw [C3]; omega) _ _ hW) (B1 (E':=[⟨2,[],.bool (!(D2 n))⟩]) [0,0] [2] (k:=?_))
 refine A0 (B5 ?_)
 refine B6 [.tmp 2] [.bool (!(D2 n))] (k:=?_)
 exact ⟨rfl,rfl⟩
theorem jixS_ (ns:List (List UInt8)) (an:Option Addr) (cn:Nat) (S:Nat→Obj→Prop) (hrn:Rd S an (E7 ns)) (hns:ns.length≤1000000000) (hz:∀ (i:Nat) (h:i<ns.length),ns[i].length≤1000000000) (W0:World) (H:List Grp) (hS:∀ y o,S y o→At W0 H y o) (hW:F2 W0):Tri Tryz.prog 133 #[.slice an ns.length cn,.func (.func 87) #[] #[]] W0 H (fun v H'=>((ns.all D2=false∧∃ i:Nat,v=.int .i64 (i:Int))∨(ns.all D2=true∧v=.int .i64 (-1)))∧H'=H):=by
 refine C6 (args:=[.slice an ns.length cn,.func (.func 87) #[] #[]]) (n:=19) Tryz.func133 rfl rfl (Nat.le_of_ble_eq_true rfl) ?_
 refine A1 (G_p [0] [0,1] (k:=?_))
 refine A0 (A1 ?_)
 refine A1 (G_p [0,0,0] [0,1,7,8] (k:=?_))
 refine A0 (B9 ?_)
 refine I6 (EI:=(fun ξ:Nat=>[⟨0,[],.slice an ns.length cn⟩,⟨1,[],.func (.func 87) #[] #[]⟩,⟨7,[],.int .i64 ((ns.length:Nat):Int)⟩,⟨8,[],.int .i64 ((ξ:Nat):Int)⟩])) (HI:=(fun ξ:Nat=>H)) (Φ:=(fun ξ:Nat=>(ξ≤ns.length)∧((ns.take ξ).all D2=true))) (μ:=(fun ξ:Nat=>ns.length - ξ)) (s0:=(0)) [0,1,7,8] kr rfl ⟨(Nat.zero_le _),rfl⟩ ?_
 rintro k ⟨hk,hT⟩
 refine A1 (G_p [0] [0,1,7,8,9] (k:=?_))
 refine A0 (A1 ?_)
 refine B2 (b:=decide (((k:Nat):Int)<((ns.length:Nat):Int))) kr (fun hc1=>?_) (fun hc1=>?_)
 ·
  simp only [decide_eq_true_eq] at hc1
  have hlt:k<ns.length:=by omega
  obtain ⟨y,hy⟩:∃ y,y=ns[k]'hlt:=⟨_,rfl⟩
  refine A8 (A0 ?_)
  refine A1 (B9 ?_)
  refine A1 (G_p [0,0] [0,1,5,7,8] (k:=?_))
  refine A0 (A1 ?_)
  refine A2 (A4 (j:=3) [0,0,0] (k:=?_))
  refine D0 (ch:=[]) (a:=an) (len:=ns.length) (cap:=cn) (kd:=.i64) (j:=((k:Nat):Int)) (e:=9) (sz:=1) (S:=S) (cs:=(E7 ns)) (hrd:=hrn) (hb:=(fun _=>by exact ⟨by omega,by omega,I4 hlt⟩)) (k:=I1 (ch:=[]) (a:=an) (q:=k * 1) (S:=S) (cs:=(E7 ns)) (v:=.string (bk y)) (hrd:=hrn) (hS:=(fun y o h=>(hS y o h))) (hv:=(fun _=>(L7 hlt hy))) (k:=?_))
  refine H4 Tryz.func87 (jr1_ y (by rw [hy]; exact hz k hlt) _ _ hW) (B0 [] [0,1,5,7,8,16] (k:=?_))
  refine A0 (B2 (b:=!D2 y) kr (fun hc2=>?_) (fun hc2=>?_))
  ·
   have hyv:D2 y=false:=by simpa using hc2
   refine A1 (B7 (E':=[⟨4,[],.int .i64 ((k:Nat):Int)⟩]) [0,0] [4] (k:=?_))
   refine A0 (B5 ?_)
   refine B4 (A3 ?_)
   refine A3 (B4 ?_)
   refine A3 (B6 [.tmp 4] [.int .i64 ((k:Nat):Int)] (k:=?_))
   exact ⟨.inl ⟨all_no hlt (by rw [← hy]; exact hyv),_,rfl⟩,rfl⟩
  ·
   have hyv:D2 y=true:=by simpa using hc2
   refine A8 (B8 ?_)
   refine A0 ?_
   have hw3:IntKind.wrap .i64 (((k:Nat):Int)+1)=((k:Nat):Int)+1:=w64 (by omega) (by omega)
   refine A2 (C0 (E':=[⟨18,[],.int .i64 (((k:Nat):Int)+1)⟩,⟨0,[],.slice an ns.length cn⟩,⟨1,[],.func (.func 87) #[] #[]⟩,⟨7,[],.int .i64 ((ns.length:Nat):Int)⟩,⟨8,[],.int .i64 ((k:Nat):Int)⟩]) [0] (Eq.trans (b:=some [⟨18,[],.int .i64 (IntKind.wrap .i64 (((k:Nat):Int)+1))⟩,⟨0,[],.slice an ns.length cn⟩,⟨1,[],.func (.func 87) #[] #[]⟩,⟨7,[],.int .i64 ((ns.length:Nat):Int)⟩,⟨8,[],.int .i64 ((k:Nat):Int)⟩]) kr (by simp only [hw3])) (j:=1) rfl ?_)
   refine C4 (E':=[⟨18,[],.int .i64 ((k+1:Nat):Int)⟩,⟨0,[],.slice an ns.length cn⟩,⟨1,[],.func (.func 87) #[] #[]⟩,⟨7,[],.int .i64 ((ns.length:Nat):Int)⟩,⟨8,[],.int .i64 ((k:Nat):Int)⟩]) (by rw [show ((k:Nat):Int)+1=((k+1:Nat):Int) by omega]) (B0 [0] [0,1,7,8] (k:=?_))
   refine E6 (s':=(k+1)) [0,1,7,8] kr rfl ⟨(by omega),(all_take hlt hT (by rw [← hy]; exact hyv))⟩ (by omega)
 ·
  simp only [decide_eq_false_iff_not] at hc1
  rw [List.take_of_length_le (by omega)] at hT
  refine G3 (A9 ?_)
  refine A9 (C5 ?_)
  refine A0 (A1 ?_)
  refine B7 (E':=[⟨4,[],.int .i64 (-1)⟩]) [0] [4] (k:=A0 ?_)
  refine B5 (B6 [.tmp 4] [.int .i64 (-1)] (k:=?_))
  exact ⟨.inr ⟨hT,rfl⟩,rfl⟩
theorem jcontS_ (ns:List (List UInt8)) (an:Option Addr) (cn:Nat) (S:Nat→Obj→Prop) (hrn:Rd S an (E7 ns)) (hns:ns.length≤1000000000) (hz:∀ (i:Nat) (h:i<ns.length),ns[i].length≤1000000000) (W0:World) (H:List Grp) (hS:∀ y o,S y o→At W0 H y o) (hW:F2 W0):Tri Tryz.prog 86 #[.slice an ns.length cn,.func (.func 87) #[] #[]] W0 H (fun v H'=>v=.bool (!ns.all D2)∧H'=H):=by
 refine C6 (args:=[.slice an ns.length cn,.func (.func 87) #[] #[]]) (n:=9) Tryz.func86 rfl rfl (Nat.le_of_ble_eq_true rfl) ?_
 refine A1 (G_p [0] [0,1] (k:=?_))
 refine A0 (A1 ?_)
 refine A2 (A4 (j:=2) [0,0] (k:=?_))
 refine D8 Tryz.func133 (jixS_ ns an cn S hrn hns hz _ _ hS hW) ?_
 rintro _ _ ⟨⟨hv,i,rfl⟩ | ⟨hv,rfl⟩,rfl⟩
 ·
  refine B0 [0,0] [4] (k:=A0 ?_)
  refine B5 (B6 [.tmp 4] [.bool (decide ((i:Int) ≥ 0))] (k:=?_))
  exact ⟨by rw [hv]; exact congrArg Value.bool (decide_eq_true (Int.natCast_nonneg _)),rfl⟩
 ·
  refine B1 (E':=[⟨4,[],.bool false⟩]) [0,0] [4] (k:=A0 ?_)
  refine B5 (B6 [.tmp 4] [.bool false] (k:=?_))
  exact ⟨by rw [hv]; rfl,rfl⟩
theorem jr2_ (x:JV) (an:Option Addr) (cn:Nat) (al:Option Addr) (cl:Nat) (cs:List Value) (S:Nat→Obj→Prop) (_:Rd S an (E7 x.names)) (_:Rd S al cs) (_:JRdL S x.list cs) (bd:Nat) (d:Int) (hd:0≤d∧d≤24) (m:Nat) (hy:∀ (W0:World) (H:List Grp),(∀ z o,S z o→At W0 H z o)→F2 W0→Tri Tryz.prog 51 #[.agg (jvC x an cn al cl).toArray,.int .i64 (d+1)] W0 H (fun v H'=>v=.bool (rtP m x)∧H'=H)) (W0:World) (H:List Grp) (hS:∀ y o,S y o→At W0 H y o) (hW:F2 W0):Tri Tryz.prog 89 #[.agg #[.int .i64 x.kind,.string (bk x.text),.slice an x.names.length cn,.slice al x.list.length cl],pt bd] W0 ([(bd,.cells #[.int .i64 d] 3 (0,0))]::H) (fun v H'=>v=.bool (!rtP m x)∧H'=[(bd,.cells #[.int .i64 d] 3 (0,0))]::H):=by
 refine C6 (args:=[.agg #[.int .i64 x.kind,.string (bk x.text),.slice an x.names.length cn,.slice al x.list.length cl],pt bd]) (n:=9) Tryz.func89 rfl rfl (Nat.le_of_ble_eq_true rfl) ?_
 refine A1 (A2 ?_)
 refine G7 (ch:=[]) (v:=.agg #[.int .i64 x.kind,.string (bk x.text),.slice an x.names.length cn,.slice al x.list.length cl]) (k:=(fun b1=>?_))
 refine B1 (E':=[⟨1,[],pt bd⟩,⟨2,[],pt b1⟩]) [0] [1,2] (k:=A0 ?_)
 refine A1 (A2 ?_)
 refine D3 (ch:=[]) (b:=b1) (off:=0) (l:=[.int .i64 x.kind,.string (bk x.text),.slice an x.names.length cn,.slice al x.list.length cl]) (hA:=At.grp 0 0 rfl rfl) (k:=A5 (ch:=[]) (b:=bd) (off:=0) (v:=.int .i64 d) (hA:=At.grp 1 0 rfl rfl) (k:=?_))
 refine A4 (j:=3) [0] (k:=D5 6 (d+1) (by omega) (by omega) kr ?_)
 refine H4 Tryz.func51 (hy _ _ (fun y o h=>At.cons (At.cons (hS y o h))) hW) (B1 (E':=[⟨3,[],.bool (!(rtP m x))⟩]) [0,0] [3] (k:=?_))
 refine A0 (B5 ?_)
 refine C1 (H':=([(bd,.cells #[.int .i64 d] 3 (0,0))]::H)) (fun w h=>(h.erase 0)) (B6 [.tmp 3] [.bool (!(rtP m x))] (k:=?_))
 exact ⟨rfl,rfl⟩
theorem jixJ_ (l:List JV) (al:Option Addr) (cl:Nat) (cs:List Value) (S:Nat→Obj→Prop) (hrl:Rd S al cs) (hrc:JRdL S l cs) (hll:l.length≤1000000000) (bd:Nat) (d:Int) (hd:0≤d∧d≤24) (m:Nat) (hrec:∀ (k:Nat) (hk:k<l.length) (an:Option Addr) (cn:Nat) (al:Option Addr) (cl:Nat) (cs:List Value),Rd S an (E7 (l[k]'hk).names)→Rd S al cs→JRdL S (l[k]'hk).list cs→∀ (W0:World) (H:List Grp),(∀ z o,S z o→At W0 H z o)→F2 W0→Tri Tryz.prog 51 #[.agg (jvC (l[k]'hk) an cn al cl).toArray,.int .i64 (d+1)] W0 H (fun v H'=>v=.bool (rtP m (l[k]'hk))∧H'=H)) (W0:World) (H:List Grp) (hS:∀ y o,S y o→At W0 H y o) (hW:F2 W0):Tri Tryz.prog 134 #[.slice al l.length cl,.func (.func 89) #[] #[pt bd]] W0 ([(bd,.cells #[.int .i64 d] 3 (0,0))]::H) (fun v H'=>((rtL m l=false∧∃ i:Nat,v=.int .i64 (i:Int))∨(rtL m l=true∧v=.int .i64 (-1)))∧H'=[(bd,.cells #[.int .i64 d] 3 (0,0))]::H):=by
 refine C6 (args:=[.slice al l.length cl,.func (.func 89) #[] #[pt bd]]) (n:=19) Tryz.func134 rfl rfl (Nat.le_of_ble_eq_true rfl) ?_
 refine A1 (G_p [0] [0,1] (k:=?_))
 refine A0 (A1 ?_)
 refine A1 (G_p [0,0,0] [0,1,7,8] (k:=?_))
 refine A0 (B9 ?_)
 refine I6 (EI:=(fun ξ:Nat=>[⟨0,[],.slice al l.length cl⟩,⟨1,[],.func (.func 89) #[] #[pt bd]⟩,⟨7,[],.int .i64 ((l.length:Nat):Int)⟩,⟨8,[],.int .i64 ((ξ:Nat):Int)⟩])) (HI:=(fun ξ:Nat=>([(bd,.cells #[.int .i64 d] 3 (0,0))]::H))) (Φ:=(fun ξ:Nat=>(ξ≤l.length)∧(rtL m (l.take ξ)=true))) (μ:=(fun ξ:Nat=>l.length - ξ)) (s0:=(0)) [0,1,7,8] kr rfl ⟨(Nat.zero_le _),(by rw [List.take_zero]; unfold rtL; rfl)⟩ ?_
 rintro k ⟨hk,hT⟩
 refine A1 (G_p [0] [0,1,7,8,9] (k:=?_))
 refine A0 (A1 ?_)
 refine B2 (b:=decide (((k:Nat):Int)<((l.length:Nat):Int))) kr (fun hc1=>?_) (fun hc1=>?_)
 ·
  simp only [decide_eq_true_eq] at hc1
  have hlt:k<l.length:=by omega
  obtain ⟨y,yan,ycn,yal,ycl,ycs,hyx,hye,hyn,hyl,hyc⟩:=hrc.get hlt
  refine A8 (A0 ?_)
  refine A1 (B9 ?_)
  refine A1 (G_p [0,0] [0,1,5,7,8] (k:=?_))
  refine A0 (A1 ?_)
  refine A2 (A4 (j:=3) [0,0,0] (k:=?_))
  refine D0 (ch:=[]) (a:=al) (len:=l.length) (cap:=cl) (kd:=.i64) (j:=((k:Nat):Int)) (e:=28) (sz:=4) (S:=S) (cs:=cs) (hrd:=hrl) (hb:=(fun _=>by exact ⟨by omega,by omega,hrc.ne hlt⟩)) (k:=I7 (ch:=[]) (a:=al) (q:=k * 4) (S:=S) (cs:=cs) (l:=[.int .i64 y.kind,.string (bk y.text),.slice yan y.names.length ycn,.slice yal y.list.length ycl]) (hrd:=hrl) (hS:=(fun y o h=>(At.cons (hS y o h)))) (hl:=List.cons_ne_nil _ _) (hv:=(fun _=>(elt4 hye))) (k:=?_))
  refine GL_call (i:=5) (ch:=[]) (f:=89) (fst:=#[]) (caps:=#[pt bd]) (vs:=[.agg #[.int .i64 y.kind,.string (bk y.text),.slice yan y.names.length ycn,.slice yal y.list.length ycl]]) rfl rfl rfl kr kr Tryz.func89 rfl rfl kr kr (chSure_of kr) (jr2_ y yan ycn yal ycl ycs S hyn hyl hyc bd d hd m (by subst hyx; exact hrec k hlt yan ycn yal ycl ycs hyn hyl hyc) _ _ (fun y o h=>hS y o h) hW) ?_
  rintro _ _ ⟨rfl,rfl⟩
  refine B0 [] [0,1,5,7,8,16] (k:=A0 ?_)
  refine B2 (b:=!rtP m y) kr (fun hc2=>?_) (fun hc2=>?_)
  ·
   have hyv:rtP m y=false:=by simpa using hc2
   refine A1 (B7 (E':=[⟨4,[],.int .i64 ((k:Nat):Int)⟩]) [0,0] [4] (k:=?_))
   refine A0 (B5 ?_)
   refine B4 (A3 ?_)
   refine A3 (B4 ?_)
   refine A3 (B6 [.tmp 4] [.int .i64 ((k:Nat):Int)] (k:=?_))
   exact ⟨.inl ⟨rtL_no hlt (by rw [← hyx]; exact hyv),_,rfl⟩,rfl⟩
  ·
   have hyv:rtP m y=true:=by simpa using hc2
   refine A8 (B8 ?_)
   refine A0 ?_
   have hw3:IntKind.wrap .i64 (((k:Nat):Int)+1)=((k:Nat):Int)+1:=w64 (by omega) (by omega)
   refine A2 (C0 (E':=[⟨18,[],.int .i64 (((k:Nat):Int)+1)⟩,⟨0,[],.slice al l.length cl⟩,⟨1,[],.func (.func 89) #[] #[pt bd]⟩,⟨7,[],.int .i64 ((l.length:Nat):Int)⟩,⟨8,[],.int .i64 ((k:Nat):Int)⟩]) [0] (Eq.trans (b:=some [⟨18,[],.int .i64 (IntKind.wrap .i64 (((k:Nat):Int)+1))⟩,⟨0,[],.slice al l.length cl⟩,⟨1,[],.func (.func 89) #[] #[pt bd]⟩,⟨7,[],.int .i64 ((l.length:Nat):Int)⟩,⟨8,[],.int .i64 ((k:Nat):Int)⟩]) kr (by simp only [hw3])) (j:=1) rfl ?_)
   refine C4 (E':=[⟨18,[],.int .i64 ((k+1:Nat):Int)⟩,⟨0,[],.slice al l.length cl⟩,⟨1,[],.func (.func 89) #[] #[pt bd]⟩,⟨7,[],.int .i64 ((l.length:Nat):Int)⟩,⟨8,[],.int .i64 ((k:Nat):Int)⟩]) (by rw [show ((k:Nat):Int)+1=((k+1:Nat):Int) by omega]) (B0 [0] [0,1,7,8] (k:=?_))
   refine E6 (s':=(k+1)) [0,1,7,8] kr rfl ⟨(by omega),(rtL_take hlt hT (by rw [← hyx]; exact hyv))⟩ (by omega)
 ·
  simp only [decide_eq_false_iff_not] at hc1
  rw [List.take_of_length_le (by omega)] at hT
  refine G3 (A9 ?_)
  refine A9 (C5 ?_)
  refine A0 (A1 ?_)
  refine B7 (E':=[⟨4,[],.int .i64 (-1)⟩]) [0] [4] (k:=A0 ?_)
  refine B5 (B6 [.tmp 4] [.int .i64 (-1)] (k:=?_))
  exact ⟨.inr ⟨hT,rfl⟩,rfl⟩
theorem jcontJ_ (l:List JV) (al:Option Addr) (cl:Nat) (cs:List Value) (S:Nat→Obj→Prop) (hrl:Rd S al cs) (hrc:JRdL S l cs) (hll:l.length≤1000000000) (bd:Nat) (d:Int) (hd:0≤d∧d≤24) (m:Nat) (hrec:∀ (k:Nat) (hk:k<l.length) (an:Option Addr) (cn:Nat) (al:Option Addr) (cl:Nat) (cs:List Value),Rd S an (E7 (l[k]'hk).names)→Rd S al cs→JRdL S (l[k]'hk).list cs→∀ (W0:World) (H:List Grp),(∀ z o,S z o→At W0 H z o)→F2 W0→Tri Tryz.prog 51 #[.agg (jvC (l[k]'hk) an cn al cl).toArray,.int .i64 (d+1)] W0 H (fun v H'=>v=.bool (rtP m (l[k]'hk))∧H'=H)) (W0:World) (H:List Grp) (hS:∀ y o,S y o→At W0 H y o) (hW:F2 W0):Tri Tryz.prog 88 #[.slice al l.length cl,.func (.func 89) #[] #[pt bd]] W0 ([(bd,.cells #[.int .i64 d] 3 (0,0))]::H) (fun v H'=>v=.bool (!rtL m l)∧H'=[(bd,.cells #[.int .i64 d] 3 (0,0))]::H):=by
 refine C6 (args:=[.slice al l.length cl,.func (.func 89) #[] #[pt bd]]) (n:=9) Tryz.func88 rfl rfl (Nat.le_of_ble_eq_true rfl) ?_
 refine A1 (G_p [0] [0,1] (k:=?_))
 refine A0 (A1 ?_)
 refine A2 (A4 (j:=2) [0,0] (k:=?_))
 refine D8 Tryz.func134 (jixJ_ l al cl cs S hrl hrc hll bd d hd m hrec _ _ hS hW) ?_
 rintro _ _ ⟨⟨hv,i,rfl⟩ | ⟨hv,rfl⟩,rfl⟩
 ·
  refine B0 [0,0] [4] (k:=A0 ?_)
  refine B5 (B6 [.tmp 4] [.bool (decide ((i:Int) ≥ 0))] (k:=?_))
  exact ⟨by rw [hv]; exact congrArg Value.bool (decide_eq_true (Int.natCast_nonneg _)),rfl⟩
 ·
  refine B1 (E':=[⟨4,[],.bool false⟩]) [0,0] [4] (k:=A0 ?_)
  refine B5 (B6 [.tmp 4] [.bool false] (k:=?_))
  exact ⟨by rw [hv]; rfl,rfl⟩
theorem jrightW_ (x:JV) (an:Option Addr) (cn:Nat) (al:Option Addr) (cl:Nat) (cs:List Value) (S:Nat→Obj→Prop) (hrn:Rd S an (E7 x.names)) (hrl:Rd S al cs) (hrc:JRdL S x.list cs) (lv:Nat) (hlv:lv≤24) (d:Int) (hd:d=24 - (lv:Int)) (hw:wtJ x≤1000000000) (hrec:∀ (y:JV),szJ y<szJ x→wtJ y≤1000000000→∀ (m:Nat),lv=m+1→∀ (an:Option Addr) (cn:Nat) (al:Option Addr) (cl:Nat) (cs:List Value),Rd S an (E7 y.names)→Rd S al cs→JRdL S y.list cs→∀ (W0:World) (H:List Grp),(∀ z o,S z o→At W0 H z o)→F2 W0→Tri Tryz.prog 51 #[.agg (jvC y an cn al cl).toArray,.int .i64 (d+1)] W0 H (fun v H'=>v=.bool (rtP m y)∧H'=H)) (W0:World) (H:List Grp) (hS:∀ y o,S y o→At W0 H y o) (hW:F2 W0):Tri Tryz.prog 51 #[.agg #[.int .i64 x.kind,.string (bk x.text),.slice an x.names.length cn,.slice al x.list.length cl],.int .i64 d] W0 H (fun v H'=>v=.bool (rtP lv x)∧H'=H):=by
  have hxl:=H8 x
  have hcw:=K9 x
  have hxt:x.text.length<wtJ x:=by rw [M7 x]; omega
  refine C6 (args:=[.agg #[.int .i64 x.kind,.string (bk x.text),.slice an x.names.length cn,.slice al x.list.length cl],.int .i64 d]) (n:=104) Tryz.func51 rfl rfl (Nat.le_of_ble_eq_true rfl) ?_
  refine A1 (A2 ?_)
  refine G7 (ch:=[]) (v:=.agg #[.int .i64 x.kind,.string (bk x.text),.slice an x.names.length cn,.slice al x.list.length cl]) (k:=(fun b1=>?_))
  refine G7 (ch:=[]) (v:=.int .i64 d) (k:=(fun b2=>?_))
  refine B1 (E':=[⟨2,[],pt b1⟩,⟨3,[],pt b2⟩]) [0] [2,3] (k:=A0 ?_)
  refine A1 (M1 (k:=?_))
  refine A4 (j:=1) [0] (k:=A5 (ch:=[]) (b:=b1) (off:=0) (v:=.int .i64 x.kind) (hA:=At.grp 1 0 rfl rfl) (k:=?_))
  refine A4 (j:=4) [0,0] (k:=A5 (ch:=[]) (b:=b1) (off:=0) (v:=.int .i64 x.kind) (hA:=At.grp 1 0 rfl rfl) (k:=?_))
  refine B0 [0,0,0] [2,3,5,6] (k:=A0 ?_)
  refine A1 (B9 ?_)
  refine A1 (A2 ?_)
  refine A4 (j:=1) [0] (k:=A5 (ch:=[]) (b:=b1) (off:=0) (v:=.int .i64 x.kind) (hA:=At.grp 1 0 rfl rfl) (k:=?_))
  refine A4 (j:=5) [0,0,0] (k:=A5 (ch:=[(17,false)]) (b:=b1) (off:=0) (v:=.int .i64 x.kind) (hA:=At.grp 1 0 rfl rfl) (k:=?_))
  refine A4 (j:=17) [0,5,0,0,0,0,0,0,6,0,0] (k:=A5 (ch:=[(29,true),(22,false)]) (b:=b1) (off:=3) (v:=.slice al x.list.length cl) (hA:=At.grp 1 0 rfl rfl) (k:=?_))
  refine A4 (j:=27) [0,0,6,5,0,0,0,0,0] (k:=A5 (ch:=[(39,true),(36,false)]) (b:=b1) (off:=2) (v:=.slice an x.names.length cn) (hA:=At.grp 1 0 rfl rfl) (k:=?_))
  refine B0 [0,0,6,5,0] [2,3,5,6,13] (k:=A0 ?_)
  refine B2 (b:=(((decide (x.kind<0))||(decide (x.kind > 6)))||(((!(x.kind==5))&&(!(x.kind==6)))&&(decide (((x.list.length:Nat):Int) > 0))))||((!(x.kind==6))&&(decide (((x.names.length:Nat):Int) > 0)))) kr (fun hc3=>?_) (fun hc3=>?_)
  ·
    simp only [Bool.and_eq_true,Bool.or_eq_true,Bool.not_eq_true',decide_eq_true_eq,beq_eq_false_iff_ne,ne_eq,gt_iff_lt] at hc3
    have hz:=hc3
    refine A1 (B7 (E':=[⟨4,[],.bool false⟩]) [0] [4] (k:=?_))
    refine A0 (B5 ?_)
    refine B4 (A3 ?_)
    refine C1 (H':=H) (fun w h=>((h.erase 1).erase 0)) (B6 [.tmp 4] [.bool false] (k:=?_))
    exact ⟨congrArg Value.bool (rt_A (by omega)).symm,rfl⟩
  ·
    simp only [Bool.and_eq_false_iff,Bool.or_eq_false_iff,Bool.not_eq_false',decide_eq_false_iff_not,beq_iff_eq,gt_iff_lt] at hc3
    have hz:=hc3
    have hB:RtB x:=rt_B (by omega) (by omega) (by omega)
    refine A1 (A2 ?_)
    refine A4 (j:=3) [0,0,0] (k:=A5 (ch:=[(48,true)]) (b:=b1) (off:=2) (v:=.slice an x.names.length cn) (hA:=At.grp 1 0 rfl rfl) (k:=?_))
    refine A4 (j:=6) [0,0] (k:=A5 (ch:=[(48,true)]) (b:=b1) (off:=3) (v:=.slice al x.list.length cl) (hA:=At.grp 1 0 rfl rfl) (k:=?_))
    refine A4 (j:=16) [0,0,6,0,0,0,0,5,0] (k:=A5 (ch:=[(62,true),(57,false)]) (b:=b2) (off:=0) (v:=.int .i64 d) (hA:=At.grp 0 0 rfl rfl) (k:=?_))
    refine B0 [0,6,5,0] [2,3,46] (k:=A0 ?_)
    refine B2 (b:=((x.kind==6)&&(((x.names.length:Nat):Int) != ((x.list.length:Nat):Int)))||(((x.kind==5)||(x.kind==6))&&(decide (d ≥ 24)))) kr (fun hc4=>?_) (fun hc4=>?_)
    ·
      simp only [Bool.and_eq_true,Bool.or_eq_true,decide_eq_true_eq,beq_iff_eq,bne_iff_ne,ne_eq,ge_iff_le] at hc4
      have hz:=hc4
      refine A1 (B7 (E':=[⟨4,[],.bool false⟩]) [0] [4] (k:=?_))
      refine A0 (B5 ?_)
      refine B4 (A3 ?_)
      refine C1 (H':=H) (fun w h=>((h.erase 1).erase 0)) (B6 [.tmp 4] [.bool false] (k:=?_))
      exact ⟨congrArg Value.bool (rt_C hB (by omega)).symm,rfl⟩
    ·
      simp only [Bool.and_eq_false_iff,Bool.or_eq_false_iff,decide_eq_false_iff_not,beq_eq_false_iff_ne,bne_eq_false_iff_eq,ne_eq,ge_iff_le] at hc4
      have hz:=hc4
      have h6:¬ (x.kind=6∧x.names.length≠x.list.length):=by omega
      have h56:¬ ((x.kind=5∨x.kind=6)∧lv=0):=by omega
      have hlvp:x.list≠[]→0<lv:=by
        intro hne
        rcases Nat.eq_zero_or_pos lv with h0 | h0
        · exact absurd (hB.list (by omega) (by omega)) hne
        · exact h0
      refine A1 (A2 ?_)
      refine A4 (j:=1) [0] (k:=A5 (ch:=[]) (b:=b1) (off:=0) (v:=.int .i64 x.kind) (hA:=At.grp 1 0 rfl rfl) (k:=?_))
      refine B0 [0,0] [2,3,67] (k:=A0 ?_)
      refine B2 (b:=x.kind==3) kr (fun hc5=>?_) (fun hc5=>?_)
      ·
        simp only [beq_iff_eq] at hc5
        have hz:=hc5
        refine A1 (M1 (k:=?_))
        refine A4 (j:=1) [0] (k:=A5 (ch:=[]) (b:=b1) (off:=1) (v:=.string (bk x.text)) (hA:=At.grp 1 0 rfl rfl) (k:=?_))
        refine A4 (j:=5) [0,0,0] (k:=A5 (ch:=[(74,true)]) (b:=b1) (off:=1) (v:=.string (bk x.text)) (hA:=At.grp 1 0 rfl rfl) (k:=?_))
        refine F7 (ch:=[(74,true)]) (f:=81) (fst:=#[]) (caps:=#[]) (vs:=[.string (bk x.text)]) (v:=.int .i64 (F8 x.text:Int)) (hf:=Tryz.func81) (hc:=(fun hc=>jnumber_ x.text (by omega) _ _)) (k:=A4 (j:=8) [0] (k:=?_))
        refine A5 (ch:=[(74,true)]) (b:=b1) (off:=1) (v:=.string (bk x.text)) (hA:=At.grp 1 0 rfl rfl) (k:=B0 [0,0,6,0] [4] (k:=?_))
        refine A0 (B5 ?_)
        refine B4 (A3 ?_)
        refine C1 (H':=H) (fun w h=>((h.erase 1).erase 0)) (B6 [.tmp 4] [.bool ((!((bk x.text).toList==(ByteArray.mk #[]).toList))&&((F8 x.text:Int)==((bk x.text).size:Int)))] (k:=?_))
        exact ⟨congrArg Value.bool ((O1 hB (by omega)).trans (J1 _).symm).symm,rfl⟩
      ·
        simp only [beq_eq_false_iff_ne,ne_eq] at hc5
        have hz:=hc5
        have h3:x.kind≠3:=by omega
        refine A1 (A2 ?_)
        refine A4 (j:=1) [0] (k:=A5 (ch:=[]) (b:=b1) (off:=0) (v:=.int .i64 x.kind) (hA:=At.grp 1 0 rfl rfl) (k:=?_))
        refine B0 [0,0] [2,3,83] (k:=A0 ?_)
        refine B2 (b:=x.kind==4) kr (fun hc6=>?_) (fun hc6=>?_)
        ·
          simp only [beq_iff_eq] at hc6
          have hz:=hc6
          refine A1 (A2 ?_)
          refine A4 (j:=1) [0] (k:=A5 (ch:=[]) (b:=b1) (off:=1) (v:=.string (bk x.text)) (hA:=At.grp 1 0 rfl rfl) (k:=?_))
          refine H4 Tryz.func59 (valid_ (bk x.text) (by rw [C3]; omega) _ _ hW) (B1 (E':=[⟨4,[],.bool (D2 x.text)⟩]) [0] [4] (k:=?_))
          refine A0 (B5 ?_)
          refine B4 (A3 ?_)
          refine C1 (H':=H) (fun w h=>((h.erase 1).erase 0)) (B6 [.tmp 4] [.bool (D2 x.text)] (k:=?_))
          exact ⟨congrArg Value.bool (K7 hB (by omega)).symm,rfl⟩
        ·
          simp only [beq_eq_false_iff_ne,ne_eq] at hc6
          have hz:=hc6
          have h4:x.kind≠4:=by omega
          refine A1 (A2 ?_)
          refine A4 (j:=1) [0] (k:=A5 (ch:=[]) (b:=b1) (off:=1) (v:=.string (bk x.text)) (hA:=At.grp 1 0 rfl rfl) (k:=?_))
          refine A4 (j:=5) [0,0,0] (k:=A5 (ch:=[(94,false)]) (b:=b1) (off:=2) (v:=.slice an x.names.length cn) (hA:=At.grp 1 0 rfl rfl) (k:=?_))
          refine F7 (ch:=[(94,false)]) (f:=86) (fst:=#[]) (caps:=#[]) (vs:=[.slice an x.names.length cn,.func (.func 87) #[] #[]]) (v:=.bool (!(x.names.all D2))) (hf:=Tryz.func86) (hc:=(fun hc=>jcontS_ x.names an cn S hrn (by omega) (fun i h=>by have:=wt_name h; omega) _ _ (fun y o h=>At.cons (At.cons (hS y o h))) hW)) (k:=B1 (E':=[⟨2,[],pt b1⟩,⟨3,[],pt b2⟩,⟨90,[],.bool ((!((bk x.text).toList==(ByteArray.mk #[]).toList))||(!(x.names.all D2)))⟩]) [5,0] [2,3,90] (k:=?_))
          refine A0 (B2 (b:=(!((bk x.text).toList==(ByteArray.mk #[]).toList))||(!(x.names.all D2))) kr (fun hc7=>?_) (fun hc7=>?_))
          ·
            simp only [Bool.or_eq_true,Bool.not_eq_true',beq_eq_false_iff_ne,ne_eq,L3] at hc7
            have hz:=hc7
            refine A1 (B7 (E':=[⟨4,[],.bool false⟩]) [0] [4] (k:=?_))
            refine A0 (B5 ?_)
            refine B4 (A3 ?_)
            refine C1 (H':=H) (fun w h=>((h.erase 1).erase 0)) (B6 [.tmp 4] [.bool false] (k:=?_))
            exact ⟨congrArg Value.bool (rt_bad hB h6 h3 h4 hz).symm,rfl⟩
          ·
            simp only [Bool.or_eq_false_iff,Bool.not_eq_false',beq_iff_eq,L3] at hc7
            have hz:=hc7
            refine A8 (B8 ?_)
            refine A0 (A1 ?_)
            refine A2 (A4 (j:=1) [0] (k:=?_))
            refine A5 (ch:=[]) (b:=b1) (off:=3) (v:=.slice al x.list.length cl) (hA:=At.grp 1 0 rfl rfl) (k:=A4 (j:=3) [0] (k:=?_))
            refine D8 (vs:=[.slice al x.list.length cl,.func (.func 89) #[] #[pt b2]]) Tryz.func88 (jcontJ_ x.list al cl cs S hrl hrc (by omega) b2 d (by omega) (lv - 1) (fun k hk an cn al cl cs h1 h2 h3 W0 H hS hW=>hrec (x.list[k]'hk) (szJ_lt hk) (by have:=wt_sub hk; omega) (lv - 1) (by have:=hlvp (by intro h0; rw [h0] at hk; exact absurd hk (Nat.not_lt_zero _)); omega) an cn al cl cs h1 h2 h3 W0 H hS hW) _ _ (fun y o h=>At.cons (hS y o h)) hW) ?_
            rintro _ _ ⟨rfl,rfl⟩
            refine B0 [0,0] [4] (k:=A0 ?_)
            refine B5 (C1 (H':=H) (fun w h=>((h.erase 1).erase 0)) ?_)
            refine B6 [.tmp 4] [.bool (!(!rtL (lv - 1) x.list))] (k:=?_)
            exact ⟨congrArg Value.bool (by rw [Bool.not_not]; exact (rt_many hB h6 h3 h4 h56 hz.1 hz.2).symm),rfl⟩
theorem jright_:∀ (n:Nat) (x:JV),szJ x≤n→wtJ x≤1000000000→∀ (lv:Nat),lv≤24→∀ (d:Int),d=24 - (lv:Int)→∀ (an:Option Addr) (cn:Nat) (al:Option Addr) (cl:Nat) (cs:List Value) (S:Nat→Obj→Prop),Rd S an (E7 x.names)→Rd S al cs→JRdL S x.list cs→∀ (W0:World) (H:List Grp),(∀ z o,S z o→At W0 H z o)→F2 W0→Tri Tryz.prog 51 #[.agg (jvC x an cn al cl).toArray,.int .i64 d] W0 H (fun v H'=>v=.bool (rtP lv x)∧H'=H)
  | 0,x,h,_,_,_,_,_,_,_,_,_,_,_,_,_,_,_,_,_,_=>absurd (szJ_pos x) (by omega)
  | n+1,x,h,hw,lv,hlv,d,hd,an,cn,al,cl,cs,S,h1,h2,h3,W0,H,hS,hW=>jrightW_ x an cn al cl cs S h1 h2 h3 lv hlv d hd hw (fun y hy hwy m hm an cn al cl cs h1 h2 h3 W0 H hS hW=>jright_ n y (by omega) hwy m (by omega) (d+1) (by omega) an cn al cl cs S h1 h2 h3 W0 H hS hW) W0 H hS hW
end Go.Proofs.YtppgfiklmfoaeaaGreatDoor
namespace Go.Json
open Go.Lib Go.Esc Go.Sw
theorem N6:∀ (ns:List (List UInt8)) (k:Nat),wtN (ns.take k)≤wtN ns
  | [],_=>by rw [List.take_nil]; exact Nat.le_refl _
  | _::_,0=>by rw [List.take_zero]; exact Nat.zero_le _
  | x::r,k+1=>by
    have:=N6 r k
    rw [List.take_succ_cons]; show x.length+1+wtN (r.take k)≤x.length+1+wtN r; omega
theorem wtL_take:∀ (l:List JV) (k:Nat),wtL (l.take k)≤wtL l
  | [],_=>by rw [List.take_nil]; exact Nat.le_refl _
  | _::_,0=>by rw [List.take_zero,wtL_nil]; exact Nat.zero_le _
  | x::r,k+1=>by
    have:=wtL_take r k
    rw [List.take_succ_cons,K0,K0]; omega
theorem wtL_step:∀ {l:List JV} {k:Nat} (h:k<l.length),wtL (l.take k)+wtJ l[k]≤wtL l
  | [],_,h=>absurd h (Nat.not_lt_zero _)
  | v::l,0,_=>by rw [List.take_zero,wtL_nil,K0]; show 0+wtJ v≤_; omega
  | v::l,k+1,h=>by
    have hi:k<l.length:=by simpa using h
    have:=wtL_step hi
    rw [List.take_succ_cons,K0,K0]; show wtJ v+wtL (l.take k)+wtJ l[k]≤_; omega
theorem wtN_step:∀ {ns:List (List UInt8)} {k:Nat} (h:k<ns.length),wtN (ns.take k)+ns[k].length+1≤wtN ns
  | [],_,h=>absurd h (Nat.not_lt_zero _)
  | v::l,0,_=>by rw [List.take_zero]; show 0+v.length+1≤v.length+1+wtN l; omega
  | v::l,k+1,h=>by
    have hi:k<l.length:=by simpa using h
    have:=wtN_step hi
    rw [List.take_succ_cons]; show v.length+1+wtN (l.take k)+l[k].length+1≤v.length+1+wtN l; omega
mutual
theorem pr_len:∀ x:JV,(prP x).length+4≤10 * wtJ x
  | .mk k t ns l=>by
    have h1:=prL_len (k==6) true ns l
    have h2:=K5 t
    rw [wtJ_eq,prP]
    split
    · simp only [List.length_cons,List.length_nil]; omega
    split
    · simp only [List.length_cons,List.length_nil]; omega
    split
    · simp only [List.length_cons,List.length_nil]; omega
    split
    · omega
    split
    · omega
    · simp only [List.length_cons,List.length_append,List.length_nil]; omega
theorem prL_len:∀ (obj fst:Bool) (ns:List (List UInt8)) (l:List JV),(prL obj fst ns l).length≤10 * (wtN ns+wtL l)
  | _,_,_,[]=>by rw [K8]; exact Nat.zero_le _
  | obj,fst,ns,v::l=>by
    have h1:=pr_len v
    have h2:=prL_len obj false ns.tail l
    rw [K2,K0]
    have h3:(if fst then ([]:List UInt8) else [44]).length≤1:=by split <;> simp
    have h4:(if obj then G6 (ns.headD [])++[58] else ([]:List UInt8)).length≤6 * (ns.headD []).length+3:=by
      have h5:=K5 (ns.headD [])
      split
      · rw [List.length_append,List.length_singleton]; omega
      · exact Nat.zero_le _
    have h6:(ns.headD []).length+wtN ns.tail≤wtN ns:=by
      cases ns with
      | nil=>exact Nat.le_refl _
      | cons n r=>show n.length+wtN r≤n.length+1+wtN r; omega
    simp only [List.length_append]
    omega
end
theorem pr_round (obj:Bool) {x y:JV} {k:Nat} {T P:List UInt8} {ob:UInt8} (hlt:k<x.list.length) (hyx:y=x.list[k]) (hn:obj=true→x.names.length=x.list.length) (hT:T=P++(ob::prL obj true (x.names.take k) (x.list.take k))) :
    P++(ob::prL obj true (x.names.take (k+1)) (x.list.take (k+1)))=T++((if k=0 then [] else [44])++((if obj then G6 (x.names.getD k [])++[58] else [])++prP y)):=by
  rw [hT,prL_step obj hlt hn,← hyx]; simp
theorem pr_many {x:JV} (obj:Bool) (h:x.kind=kindB obj):prP x=(if obj then 123 else 91)::(prL obj true x.names x.list++[Q0 obj]):=by
  cases x with
  | mk k t ns l =>
    change k=kindB obj at h
    subst h
    cases obj <;> (rw [prP_many (by decide)]; rfl)
theorem P2 {x:JV} {k:Int} (h:x.kind=k) (hk:0≤k∧k<5):prP x=if k=0 then [110,117,108,108] else if k=1 then [102,97,108,115,101] else if k=2 then [116,114,117,101] else if k=3 then x.text else G6 x.text:=by
  cases x with
  | mk k' t ns l =>
    change k'=k at h
    subst h
    show prP (.mk k' t ns l)=if k'=0 then [110,117,108,108] else if k'=1 then [102,97,108,115,101] else if k'=2 then [116,114,117,101] else if k'=3 then t else G6 t
    unfold prP
    by_cases h4:k'=4
    · subst h4; rfl
    · rw [if_neg h4]
      by_cases h0:k'=0
      · rw [if_pos h0,if_pos h0]
      by_cases h1:k'=1
      · rw [if_neg h0,if_pos h1,if_neg h0,if_pos h1]
      by_cases h2:k'=2
      · rw [if_neg h0,if_neg h1,if_pos h2,if_neg h0,if_neg h1,if_pos h2]
      by_cases h3:k'=3
      · rw [if_neg h0,if_neg h1,if_neg h2,if_pos h3,if_neg h0,if_neg h1,if_neg h2,if_pos h3]
      · omega
theorem rt_kind {lv:Nat} {x:JV} (h:rtP lv x=true):RtB x∧(x.kind=6→x.names.length=x.list.length)∧((x.kind=5∨x.kind=6)→∃ m,lv=m+1∧rtL m x.list=true):=by
  by_cases hA:(x.kind<0∨6<x.kind)∨(x.kind≠5∧x.kind≠6∧0<x.list.length)∨(x.kind≠6∧0<x.names.length)
  · rw [rt_A hA] at h; cases h
  have hB:RtB x:=rt_B (fun a=>hA (.inl a)) (fun a=>hA (.inr (.inl a))) (fun a=>hA (.inr (.inr a)))
  refine ⟨hB,fun h6=>?_,fun h5=>?_⟩
  · rcases Nat.decEq x.names.length x.list.length with hd | hd
    · rw [rt_C hB (.inl ⟨h6,hd⟩)] at h; cases h
    · exact hd
  · cases lv with
    | zero=>rw [rt_C hB (.inr ⟨h5,rfl⟩)] at h; cases h
    | succ m =>
      refine ⟨m,rfl,?_⟩
      rw [rt_step hB] at h
      split at h
      · cases h
      rw [if_neg (by omega),if_neg (by omega)] at h
      split at h
      · cases h
      · rw [Bool.and_eq_true] at h; exact h.2
theorem rtL_get {m:Nat} {l:List JV} {k:Nat} (h:rtL m l=true) (hk:k<l.length):rtP m l[k]=true:=(rtL_iff m l).1 h _ (List.getElem_mem hk)
end Go.Json
namespace Go.Sw
open Go.Esc
def dig36:ByteArray:=ByteArray.mk #[48,49,50,51,52,53,54,55,56,57,97,98,99,100,101,102,103,104,105,106,107,108,109,110,111,112,113,114,115,116,117,118,119,120,121,122]
def E2 (u:Int):UInt8:=(dig36.data.toList)[u.toNat]?.getD 0
theorem M5 {u:Int} (h0:0≤u) (h1:u<16):E2 u=hexl u.toNat:=by
  have h:∀ n:Fin 16,E2 (n.val:Int)=hexl n.val:=by decide +kernel
  have:=h ⟨u.toNat,by omega⟩
  simpa [show ((u.toNat:Nat):Int)=u by omega] using this
def rowH (l:List UInt8):Array Value:=(List.replicate (65 - l.length) (Value.int .u8 0)++u8s l).toArray
theorem O2 {l:List UInt8} (h:l.length≤65):(rowH l).size=65:=by simp [rowH,u8s]; omega
theorem Q4 (b:UInt8) (l:List UInt8) (h:l.length<65):setRow (rowH l) (64 - l.length) [.int .u8 (b.toNat:Int)]=rowH (b::l):=by
  have:=setRow_mid [.int .u8 (b.toNat:Int)] (List.replicate (64 - l.length) (Value.int .u8 0)) (u8s l) [.int .u8 0] rfl
  rw [List.length_replicate] at this
  unfold rowH
  rw [show 65 - l.length=(64 - l.length)+1 by omega,List.replicate_succ',this]
  simp [u8s]
theorem rowH_rd {b:Nat} {t:TypeId} (l:List UInt8) (h0:0<l.length) (h:l.length<65):Rd (inG [(b,.cells (rowH l) t (0,0))]) (some ⟨b,65 - l.length,none⟩) (u8s l):=by
  have h1:Rd (inG [(b,.cells (rowH l).toList.toArray t (0,0))]) (some ⟨b,0,none⟩) (rowH l).toList:=Rd.lit
  rw [Array.toArray_toList] at h1
  have h2:=h1.cut (cap:=65) (l:=65 - l.length) (sz:=1) (m:=l.length) (by omega)
  rw [show cutA (some ⟨b,0,none⟩) 65 (65 - l.length) 1=some ⟨b,65 - l.length,none⟩ from cut_some (by omega)] at h2
  have e:((rowH l).toList.drop ((65 - l.length) * 1)).take l.length=u8s l:=by
    unfold rowH
    rw [Nat.mul_one]
    have e2:(u8s l).length=l.length:=List.length_map _
    show ((List.replicate (65 - l.length) (Value.int .u8 0)++u8s l).drop (65 - l.length)).take l.length=_
    rw [List.drop_append,List.length_replicate,Nat.sub_self,List.drop_zero,List.drop_eq_nil_of_le (by rw [List.length_replicate]; exact Nat.le_refl _),List.nil_append,← e2,List.take_length]
  rw [e] at h2; exact h2
theorem and15 {x:Int} (h0:0≤x) (h1:x<18446744073709551616):IntKind.wrap .u64 ((BitVec.ofInt (IntKind.bits .u64) x &&& BitVec.ofInt (IntKind.bits .u64) 15).toNat)=x % 16:=by
  obtain ⟨n,rfl⟩:=Int.eq_ofNat_of_zero_le h0
  have e:(BitVec.ofInt (IntKind.bits .u64) (n:Int) &&& BitVec.ofInt (IntKind.bits .u64) 15).toNat=n % 16:=by
    rw [BitVec.toNat_and]
    have a:(BitVec.ofInt (IntKind.bits .u64) (n:Int)).toNat=n:=by
      show (BitVec.ofInt 64 (n:Int)).toNat=n
      rw [BitVec.toNat_ofInt]; omega
    have b:(BitVec.ofInt (IntKind.bits .u64) 15).toNat=15:=rfl
    rw [a,b]
    exact Nat.and_two_pow_sub_one_eq_mod n 4
  rw [e,show IntKind.wrap .u64 ((n % 16:Nat):Int)=((n % 16:Nat):Int) % 18446744073709551616 from by first | rfl | simp [IntKind.wrap,IntKind.bits,IntKind.signed]]
  omega
theorem fdiv16 (x:Int):Int.fdiv x (2 ^ 4)=x / 16:=by rw [Int.fdiv_eq_ediv_of_nonneg _ (by decide)]; rfl
def Q6 (n:Int):List UInt8 :=
  if n<16 then [E2 n] else if n<256 then [E2 (n / 16),E2 (n % 16)] else if n<4096 then [E2 (n / 16 / 16),E2 (n / 16 % 16),E2 (n % 16)] else [E2 (n / 16 / 16 / 16),E2 (n / 16 / 16 % 16),E2 (n / 16 % 16),E2 (n % 16)]
theorem hexD_len (n:Int):1≤(Q6 n).length∧(Q6 n).length≤4:=by unfold Q6; (repeat' split) <;> simp
theorem hexD_pad {n:Int} (h0:0≤n) (h1:n<65536):List.replicate (4 - (Q6 n).length) 48++Q6 n=hex4 n.toNat:=by
  have z:(48:UInt8)=hexl 0:=by decide
  unfold Q6 hex4
  split
  · rw [M5 (by omega) (by omega)]
    simp only [List.length_cons,List.length_nil,Nat.reduceSub,Nat.reduceAdd,List.replicate,List.cons_append,List.nil_append]
    rw [show n.toNat / 4096 % 16=0 by omega,show n.toNat / 256 % 16=0 by omega,show n.toNat / 16 % 16=0 by omega,show n.toNat % 16=n.toNat by omega,← z]
  split
  · rw [M5 (by omega) (by omega),M5 (by omega) (by omega)]
    simp only [List.length_cons,List.length_nil,Nat.reduceSub,Nat.reduceAdd,List.replicate,List.cons_append,List.nil_append]
    rw [show n.toNat / 4096 % 16=0 by omega,show n.toNat / 256 % 16=0 by omega,show n.toNat / 16 % 16=(n / 16).toNat by omega,show n.toNat % 16=(n % 16).toNat by omega,← z]
  split
  · rw [M5 (by omega) (by omega),M5 (by omega) (by omega),M5 (by omega) (by omega)]
    simp only [List.length_cons,List.length_nil,Nat.reduceSub,Nat.reduceAdd,List.replicate,List.cons_append,List.nil_append]
    rw [show n.toNat / 4096 % 16=0 by omega,show n.toNat / 256 % 16=(n / 16 / 16).toNat by omega,show n.toNat / 16 % 16=(n / 16 % 16).toNat by omega,show n.toNat % 16=(n % 16).toNat by omega,← z]
  · rw [M5 (by omega) (by omega),M5 (by omega) (by omega),M5 (by omega) (by omega),M5 (by omega) (by omega)]
    simp only [List.length_cons,List.length_nil,Nat.reduceSub,Nat.reduceAdd,List.replicate,List.nil_append]
    rw [show n.toNat / 4096 % 16=(n / 16 / 16 / 16).toNat by omega,show n.toNat / 256 % 16=(n / 16 / 16 % 16).toNat by omega,show n.toNat / 16 % 16=(n / 16 % 16).toNat by omega,show n.toNat % 16=(n % 16).toNat by omega]
end Go.Sw
namespace Go.Proofs.YtppgfiklmfoaeaaGreatDoor
open Go.Sw Go.Sha Go.Esc Go.RowKit
theorem pow2_  (W0:World) (H:List Grp):Tri Tryz.prog 218 #[.int .i64 16] W0 H (fun v H'=>v=.bool true∧H'=H):=by
 refine C6 (args:=[.int .i64 16]) (n:=8) Tryz.func218 rfl rfl (Nat.le_of_ble_eq_true rfl) ?_
 refine A1 (B7 (E':=[⟨0,[],.int .i64 16⟩]) [0] [0] (k:=?_))
 refine A0 (A1 ?_)
 refine B7 (E':=[⟨2,[],.bool true⟩]) [0,0,0,0,0,0] [2] (k:=A0 ?_)
 refine B5 (B6 [.tmp 2] [.bool true] (k:=?_))
 exact ⟨rfl,rfl⟩
theorem tz64_  (W0:World) (H:List Grp) (hW:F2 W0):Tri Tryz.prog 237 #[.int .u64 16] W0 H (fun v H'=>v=.int .i64 4∧H'=H):=by
 refine C6 (args:=[.int .u64 16]) (n:=14) Tryz.func237 rfl rfl (Nat.le_of_ble_eq_true rfl) ?_
 refine A1 (B7 (E':=[⟨0,[],.int .u64 16⟩]) [0] [0] (k:=?_))
 refine A0 (A1 ?_)
 refine A1 (G_p [0,0] [0,4] (k:=?_))
 refine A0 (C2 kr ?_)
 refine A8 (A0 ?_)
 refine A1 (A2 ?_)
 refine A4 (j:=6) [0,0,0,0,0,0] (k:=J9 (ch:=[]) (b:=7) (off:=0) (len:=64) (sz:=1) (e:=5) (kd:=.u64) (j:=15) (hb:=(fun _=>⟨by decide,by decide⟩)) (k:=?_))
 obtain ⟨tc,te,tf,tz1,tz2,tz3⟩:=hW.tz
 refine A5 (ch:=[]) (b:=7) (off:=15) (v:=.int .u8 4) (hA:=.inl ⟨tz1,tz2⟩) (hv:=tz3) (k:=B1 (E':=[⟨2,[],.int .i64 4⟩]) [0,0] [2] (k:=?_))
 refine A0 (B5 ?_)
 refine B6 [.tmp 2] [.int .i64 4] (k:=?_)
 exact ⟨rfl,rfl⟩
theorem tz_  (W0:World) (H:List Grp) (hW:F2 W0):Tri Tryz.prog 219 #[.int .u64 16] W0 H (fun v H'=>v=.int .i64 4∧H'=H):=by
 refine C6 (args:=[.int .u64 16]) (n:=8) Tryz.func219 rfl rfl (Nat.le_of_ble_eq_true rfl) ?_
 refine A1 (B7 (E':=[⟨0,[],.int .u64 16⟩]) [0] [0] (k:=?_))
 refine A0 (A1 ?_)
 refine C2 kr (A8 ?_)
 refine A0 (A1 ?_)
 refine A2 (A4 (j:=1) [0] (k:=?_))
 refine D8 Tryz.func237 (tz64_ _ _ hW) ?_
 rintro _ _ ⟨rfl,rfl⟩
 refine B1 (E':=[⟨2,[],.int .i64 4⟩]) [0] [2] (k:=A0 ?_)
 refine B5 (B6 [.tmp 2] [.int .i64 4] (k:=?_))
 exact ⟨rfl,rfl⟩
theorem fbits_ (n:Int) (h0:0≤n) (h1:n<65536) (W0:World) (H:List Grp) (hW:F2 W0):Tri Tryz.prog 198 #[.slice none 0 0,.int .u64 n,.int .i64 16,.bool false,.bool false] W0 H (fun v H'=>v=.tuple #[.slice none 0 0,.string ⟨(Q6 n).toArray⟩]∧H'=H):=by
 refine C6 (args:=[.slice none 0 0,.int .u64 n,.int .i64 16,.bool false,.bool false]) (n:=102) Tryz.func198 rfl rfl (Nat.le_of_ble_eq_true rfl) ?_
 refine A1 (G_p [0,0] [0,1,2,3,4,10,11] (k:=?_))
 refine A0 (A1 ?_)
 refine A1 (G_p [0,0,0,0,0,3,0,0,0,3] [0,1,2,3,4,10,11,28] (k:=?_))
 refine A0 (C2 kr ?_)
 refine A8 (A0 ?_)
 refine A1 (A2 ?_)
 refine F5 (ch:=[]) (z:=.agg (rowH [])) (k:=(fun B=>?_))
 refine B0 [] [0,1,2,3,4,10,11,12] (k:=A0 ?_)
 refine A1 (G_p [0] [0,1,2,3,4,10,11,12,13] (k:=?_))
 refine A0 (A1 ?_)
 refine A1 (G_p [0] [0,1,2,3,4,10,11,12,13,30] (k:=?_))
 refine A0 (C2 kr ?_)
 refine A8 (A0 ?_)
 refine A1 (A1 ?_)
 refine A2 (A4 (j:=1) [0] (k:=?_))
 refine H4 Tryz.func218 (pow2_ _ _) (B1 (E':=[⟨0,[],.slice none 0 0⟩,⟨1,[],.int .u64 n⟩,⟨2,[],.int .i64 16⟩,⟨3,[],.bool false⟩,⟨4,[],.bool false⟩,⟨10,[],.slice none 0 0⟩,⟨11,[],.string (ByteArray.mk #[])⟩,⟨12,[],pt B⟩,⟨13,[],.int .i64 65⟩,⟨34,[],.bool true⟩]) [] [0,1,2,3,4,10,11,12,13,34] (k:=?_))
 refine A0 (E8 kr ?_)
 refine A1 (A2 ?_)
 refine A4 (j:=2) [0,0] (k:=D8 Tryz.func219 (tz_ _ _ hW) ?_)
 rintro _ _ ⟨rfl,rfl⟩
 refine B0 [0,0] [0,1,2,3,4,10,11,12,13,14] (k:=A0 ?_)
 refine A1 (G_p [0,0,0] [0,1,2,3,4,10,11,12,13,14,15] (k:=?_))
 refine A0 (A1 ?_)
 refine G_p [0,0,0,0] [0,1,3,4,10,11,12,13,14,15,16] (k:=A0 ?_)
 refine A1 (B9 ?_)
 refine G_rounds 4 (I2 ?_)
 refine A1 (A1 ?_)
 refine G_p [0,0,0] [0,1,3,4,10,11,12,13,14,15,16,46] (k:=A0 ?_)
 refine B2 (b:=decide (n ≥ 16)) kr (fun hc1=>?_) (fun hc1=>?_)
 ·
  simp only [ge_iff_le,decide_eq_true_eq] at hc1
  refine A8 (A0 ?_)
  refine B9 (A1 ?_)
  refine G_p [0,0,0] [0,1,3,4,10,11,12,13,14,15,16] (k:=A0 ?_)
  refine A1 (A2 ?_)
  refine C0 (E':=[⟨52,[],.int .u64 (IntKind.wrap .u64 ((BitVec.ofInt (IntKind.bits .u64) n &&& BitVec.ofInt (IntKind.bits .u64) 15).toNat))⟩,⟨49,[],.int .i64 64⟩,⟨0,[],.slice none 0 0⟩,⟨1,[],.int .u64 n⟩,⟨3,[],.bool false⟩,⟨4,[],.bool false⟩,⟨10,[],.slice none 0 0⟩,⟨11,[],.string (ByteArray.mk #[])⟩,⟨12,[],pt B⟩,⟨13,[],.int .i64 64⟩,⟨14,[],.int .u64 4⟩,⟨15,[],.int .u64 16⟩,⟨16,[],.int .u64 15⟩]) (j:=4) [0,0,0,0] (k:=C4 (E':=[⟨52,[],.int .u64 (n % 16)⟩,⟨49,[],.int .i64 64⟩,⟨0,[],.slice none 0 0⟩,⟨1,[],.int .u64 n⟩,⟨3,[],.bool false⟩,⟨4,[],.bool false⟩,⟨10,[],.slice none 0 0⟩,⟨11,[],.string (ByteArray.mk #[])⟩,⟨12,[],pt B⟩,⟨13,[],.int .i64 64⟩,⟨14,[],.int .u64 4⟩,⟨15,[],.int .u64 16⟩,⟨16,[],.int .u64 15⟩]) (by rw [and15 (by omega) (by omega)]) ?_)
  refine E4 (ch:=[]) (s:=(ByteArray.mk #[48,49,50,51,52,53,54,55,56,57,97,98,99,100,101,102,103,104,105,106,107,108,109,110,111,112,113,114,115,116,117,118,119,120,121,122])) (kd:=.u64) (j:=(n % 16)) (hb:=(by intro _; exact ⟨by omega,by show _<(36:Int); omega⟩)) (k:=?_)
  have hb2:=D4 (ByteArray.mk #[48,49,50,51,52,53,54,55,56,57,97,98,99,100,101,102,103,104,105,106,107,108,109,110,111,112,113,114,115,116,117,118,119,120,121,122]) (n % 16)
  refine J9 (ch:=[]) (b:=B) (off:=0) (len:=65) (sz:=1) (e:=5) (kd:=.i64) (j:=64) (hb:=(fun _=>⟨by decide,by decide⟩)) (k:=M6 (ch:=[]) (b:=B) (off:=64) (v:=.int .u8 ((E2 (n % 16)).toNat:Int)) (c:=rowH []) (c':=rowH [E2 (n % 16)]) (j:=0) (m:=0) (H':=([(B,.cells (rowH [E2 (n % 16)]) 253 (0,0))]::H)) (hoff:=(by rw [O2 (by simp)]; exact Nat.le_of_ble_eq_true rfl)) (hfz:=(fun _ _=>E3)) (hc':=Q4 _ [] (by simp)) (k:=?_))
  refine B1 (E':=[⟨0,[],.slice none 0 0⟩,⟨1,[],.int .u64 n⟩,⟨3,[],.bool false⟩,⟨4,[],.bool false⟩,⟨10,[],.slice none 0 0⟩,⟨11,[],.string (ByteArray.mk #[])⟩,⟨12,[],pt B⟩,⟨13,[],.int .i64 64⟩,⟨14,[],.int .u64 4⟩,⟨15,[],.int .u64 16⟩,⟨16,[],.int .u64 15⟩]) [] [0,1,3,4,10,11,12,13,14,15,16] (k:=A0 ?_)
  refine A2 (C0 (E':=[⟨57,[],.int .u64 (Int.fdiv n (2 ^ 4))⟩,⟨0,[],.slice none 0 0⟩,⟨1,[],.int .u64 n⟩,⟨3,[],.bool false⟩,⟨4,[],.bool false⟩,⟨10,[],.slice none 0 0⟩,⟨11,[],.string (ByteArray.mk #[])⟩,⟨12,[],pt B⟩,⟨13,[],.int .i64 64⟩,⟨14,[],.int .u64 4⟩,⟨15,[],.int .u64 16⟩,⟨16,[],.int .u64 15⟩]) (j:=3) [0,0,0] (k:=?_))
  refine C4 (E':=[⟨57,[],.int .u64 (n / 16)⟩,⟨0,[],.slice none 0 0⟩,⟨1,[],.int .u64 n⟩,⟨3,[],.bool false⟩,⟨4,[],.bool false⟩,⟨10,[],.slice none 0 0⟩,⟨11,[],.string (ByteArray.mk #[])⟩,⟨12,[],pt B⟩,⟨13,[],.int .i64 64⟩,⟨14,[],.int .u64 4⟩,⟨15,[],.int .u64 16⟩,⟨16,[],.int .u64 15⟩]) (by rw [fdiv16]) (B0 [0] [0,1,3,4,10,11,12,13,14,15,16] (k:=?_))
  refine B8 (N_rd ?_)
  refine I2 (A1 ?_)
  refine A1 (G_p [0,0,0] [0,1,3,4,10,11,12,13,14,15,16,46] (k:=?_))
  refine A0 (B2 (b:=decide ((n / 16) ≥ 16)) kr (fun hc3=>?_) (fun hc3=>?_))
  ·
   simp only [ge_iff_le,decide_eq_true_eq] at hc3
   refine A8 (A0 ?_)
   refine B9 (A1 ?_)
   refine G_p [0,0,0] [0,1,3,4,10,11,12,13,14,15,16] (k:=A0 ?_)
   refine A1 (A2 ?_)
   refine C0 (E':=[⟨52,[],.int .u64 (IntKind.wrap .u64 ((BitVec.ofInt (IntKind.bits .u64) (n / 16) &&& BitVec.ofInt (IntKind.bits .u64) 15).toNat))⟩,⟨49,[],.int .i64 63⟩,⟨0,[],.slice none 0 0⟩,⟨1,[],.int .u64 (n / 16)⟩,⟨3,[],.bool false⟩,⟨4,[],.bool false⟩,⟨10,[],.slice none 0 0⟩,⟨11,[],.string (ByteArray.mk #[])⟩,⟨12,[],pt B⟩,⟨13,[],.int .i64 63⟩,⟨14,[],.int .u64 4⟩,⟨15,[],.int .u64 16⟩,⟨16,[],.int .u64 15⟩]) (j:=4) [0,0,0,0] (k:=C4 (E':=[⟨52,[],.int .u64 ((n / 16) % 16)⟩,⟨49,[],.int .i64 63⟩,⟨0,[],.slice none 0 0⟩,⟨1,[],.int .u64 (n / 16)⟩,⟨3,[],.bool false⟩,⟨4,[],.bool false⟩,⟨10,[],.slice none 0 0⟩,⟨11,[],.string (ByteArray.mk #[])⟩,⟨12,[],pt B⟩,⟨13,[],.int .i64 63⟩,⟨14,[],.int .u64 4⟩,⟨15,[],.int .u64 16⟩,⟨16,[],.int .u64 15⟩]) (by rw [and15 (by omega) (by omega)]) ?_)
   refine E4 (ch:=[]) (s:=(ByteArray.mk #[48,49,50,51,52,53,54,55,56,57,97,98,99,100,101,102,103,104,105,106,107,108,109,110,111,112,113,114,115,116,117,118,119,120,121,122])) (kd:=.u64) (j:=((n / 16) % 16)) (hb:=(by intro _; exact ⟨by omega,by show _<(36:Int); omega⟩)) (k:=?_)
   have hb4:=D4 (ByteArray.mk #[48,49,50,51,52,53,54,55,56,57,97,98,99,100,101,102,103,104,105,106,107,108,109,110,111,112,113,114,115,116,117,118,119,120,121,122]) ((n / 16) % 16)
   refine J9 (ch:=[]) (b:=B) (off:=0) (len:=65) (sz:=1) (e:=5) (kd:=.i64) (j:=63) (hb:=(fun _=>⟨by decide,by decide⟩)) (k:=M6 (ch:=[]) (b:=B) (off:=63) (v:=.int .u8 ((E2 ((n / 16) % 16)).toNat:Int)) (c:=rowH [E2 (n % 16)]) (c':=rowH [E2 ((n / 16) % 16),E2 (n % 16)]) (j:=0) (m:=0) (H':=([(B,.cells (rowH [E2 ((n / 16) % 16),E2 (n % 16)]) 253 (0,0))]::H)) (hoff:=(by rw [O2 (by simp)]; exact Nat.le_of_ble_eq_true rfl)) (hfz:=(fun _ _=>E3)) (hc':=Q4 _ [E2 (n % 16)] (by simp)) (k:=?_))
   refine B0 [] [0,1,3,4,10,11,12,13,14,15,16] (k:=A0 ?_)
   refine A2 (C0 (E':=[⟨57,[],.int .u64 (Int.fdiv (n / 16) (2 ^ 4))⟩,⟨0,[],.slice none 0 0⟩,⟨1,[],.int .u64 (n / 16)⟩,⟨3,[],.bool false⟩,⟨4,[],.bool false⟩,⟨10,[],.slice none 0 0⟩,⟨11,[],.string (ByteArray.mk #[])⟩,⟨12,[],pt B⟩,⟨13,[],.int .i64 63⟩,⟨14,[],.int .u64 4⟩,⟨15,[],.int .u64 16⟩,⟨16,[],.int .u64 15⟩]) (j:=3) [0,0,0] (k:=?_))
   refine C4 (E':=[⟨57,[],.int .u64 ((n / 16) / 16)⟩,⟨0,[],.slice none 0 0⟩,⟨1,[],.int .u64 (n / 16)⟩,⟨3,[],.bool false⟩,⟨4,[],.bool false⟩,⟨10,[],.slice none 0 0⟩,⟨11,[],.string (ByteArray.mk #[])⟩,⟨12,[],pt B⟩,⟨13,[],.int .i64 63⟩,⟨14,[],.int .u64 4⟩,⟨15,[],.int .u64 16⟩,⟨16,[],.int .u64 15⟩]) (by rw [fdiv16]) (B0 [0] [0,1,3,4,10,11,12,13,14,15,16] (k:=?_))
   refine B8 (N_rd ?_)
   refine I2 (A1 ?_)
   refine A1 (B7 (E':=[⟨0,[],.slice none 0 0⟩,⟨1,[],.int .u64 ((n / 16) / 16)⟩,⟨3,[],.bool false⟩,⟨4,[],.bool false⟩,⟨10,[],.slice none 0 0⟩,⟨11,[],.string (ByteArray.mk #[])⟩,⟨12,[],pt B⟩,⟨13,[],.int .i64 63⟩,⟨14,[],.int .u64 4⟩,⟨15,[],.int .u64 16⟩,⟨16,[],.int .u64 15⟩,⟨46,[],.bool (decide (((n / 16) / 16) ≥ 16))⟩]) [0,0,0] [0,1,3,4,10,11,12,13,14,15,16,46] (k:=?_))
   refine A0 (B2 (b:=decide (((n / 16) / 16) ≥ 16)) kr (fun hc5=>?_) (fun hc5=>?_))
   ·
    simp only [ge_iff_le,decide_eq_true_eq] at hc5
    refine A8 (A0 ?_)
    refine B9 (A1 ?_)
    refine G_p [0,0,0] [0,1,3,4,10,11,12,13,14,15,16] (k:=A0 ?_)
    refine A1 (A2 ?_)
    refine C0 (E':=[⟨52,[],.int .u64 (IntKind.wrap .u64 ((BitVec.ofInt (IntKind.bits .u64) ((n / 16) / 16) &&& BitVec.ofInt (IntKind.bits .u64) 15).toNat))⟩,⟨49,[],.int .i64 62⟩,⟨0,[],.slice none 0 0⟩,⟨1,[],.int .u64 ((n / 16) / 16)⟩,⟨3,[],.bool false⟩,⟨4,[],.bool false⟩,⟨10,[],.slice none 0 0⟩,⟨11,[],.string (ByteArray.mk #[])⟩,⟨12,[],pt B⟩,⟨13,[],.int .i64 62⟩,⟨14,[],.int .u64 4⟩,⟨15,[],.int .u64 16⟩,⟨16,[],.int .u64 15⟩]) (j:=4) [0,0,0,0] (k:=C4 (E':=[⟨52,[],.int .u64 (((n / 16) / 16) % 16)⟩,⟨49,[],.int .i64 62⟩,⟨0,[],.slice none 0 0⟩,⟨1,[],.int .u64 ((n / 16) / 16)⟩,⟨3,[],.bool false⟩,⟨4,[],.bool false⟩,⟨10,[],.slice none 0 0⟩,⟨11,[],.string (ByteArray.mk #[])⟩,⟨12,[],pt B⟩,⟨13,[],.int .i64 62⟩,⟨14,[],.int .u64 4⟩,⟨15,[],.int .u64 16⟩,⟨16,[],.int .u64 15⟩]) (by rw [and15 (by omega) (by omega)]) ?_)
    refine E4 (ch:=[]) (s:=(ByteArray.mk #[48,49,50,51,52,53,54,55,56,57,97,98,99,100,101,102,103,104,105,106,107,108,109,110,111,112,113,114,115,116,117,118,119,120,121,122])) (kd:=.u64) (j:=(((n / 16) / 16) % 16)) (hb:=(by intro _; exact ⟨by omega,by show _<(36:Int); omega⟩)) (k:=?_)
    have hb6:=D4 (ByteArray.mk #[48,49,50,51,52,53,54,55,56,57,97,98,99,100,101,102,103,104,105,106,107,108,109,110,111,112,113,114,115,116,117,118,119,120,121,122]) (((n / 16) / 16) % 16)
    refine J9 (ch:=[]) (b:=B) (off:=0) (len:=65) (sz:=1) (e:=5) (kd:=.i64) (j:=62) (hb:=(fun _=>⟨by decide,by decide⟩)) (k:=M6 (ch:=[]) (b:=B) (off:=62) (v:=.int .u8 ((E2 (((n / 16) / 16) % 16)).toNat:Int)) (c:=rowH [E2 ((n / 16) % 16),E2 (n % 16)]) (c':=rowH [E2 (((n / 16) / 16) % 16),E2 ((n / 16) % 16),E2 (n % 16)]) (j:=0) (m:=0) (H':=([(B,.cells (rowH [E2 (((n / 16) / 16) % 16),E2 ((n / 16) % 16),E2 (n % 16)]) 253 (0,0))]::H)) (hoff:=(by rw [O2 (by simp)]; exact Nat.le_of_ble_eq_true rfl)) (hfz:=(fun _ _=>E3)) (hc':=Q4 _ [E2 ((n / 16) % 16),E2 (n % 16)] (by simp)) (k:=?_))
    refine B0 [] [0,1,3,4,10,11,12,13,14,15,16] (k:=A0 ?_)
    refine A2 (C0 (E':=[⟨57,[],.int .u64 (Int.fdiv ((n / 16) / 16) (2 ^ 4))⟩,⟨0,[],.slice none 0 0⟩,⟨1,[],.int .u64 ((n / 16) / 16)⟩,⟨3,[],.bool false⟩,⟨4,[],.bool false⟩,⟨10,[],.slice none 0 0⟩,⟨11,[],.string (ByteArray.mk #[])⟩,⟨12,[],pt B⟩,⟨13,[],.int .i64 62⟩,⟨14,[],.int .u64 4⟩,⟨15,[],.int .u64 16⟩,⟨16,[],.int .u64 15⟩]) (j:=3) [0,0,0] (k:=?_))
    refine C4 (E':=[⟨57,[],.int .u64 (((n / 16) / 16) / 16)⟩,⟨0,[],.slice none 0 0⟩,⟨1,[],.int .u64 ((n / 16) / 16)⟩,⟨3,[],.bool false⟩,⟨4,[],.bool false⟩,⟨10,[],.slice none 0 0⟩,⟨11,[],.string (ByteArray.mk #[])⟩,⟨12,[],pt B⟩,⟨13,[],.int .i64 62⟩,⟨14,[],.int .u64 4⟩,⟨15,[],.int .u64 16⟩,⟨16,[],.int .u64 15⟩]) (by rw [fdiv16]) (B0 [0] [0,1,3,4,10,11,12,13,14,15,16] (k:=?_))
    refine B8 (N_rd ?_)
    refine I2 (A1 ?_)
    refine A1 (G_p [0,0,0] [0,1,3,4,10,11,12,13,14,15,16,46] (k:=?_))
    refine A0 (B2 (b:=decide ((((n / 16) / 16) / 16) ≥ 16)) kr (fun hc7=>?_) (fun hc7=>?_))
    ·
     simp only [ge_iff_le,decide_eq_true_eq] at hc7; omega
    ·
     simp only [ge_iff_le,decide_eq_false_iff_not] at hc7
     refine G3 (A9 ?_)
     refine A9 (C5 ?_)
     refine A0 (A1 ?_)
     refine G_p [0,0,0] [0,1,3,4,10,11,12,13] (k:=A0 ?_)
     refine A2 (A4 (j:=2) [0,0] (k:=?_))
     refine E4 (ch:=[]) (s:=(ByteArray.mk #[48,49,50,51,52,53,54,55,56,57,97,98,99,100,101,102,103,104,105,106,107,108,109,110,111,112,113,114,115,116,117,118,119,120,121,122])) (kd:=.u64) (j:=(((n / 16) / 16) / 16)) (hb:=(by intro _; exact ⟨by omega,by show _<(36:Int); omega⟩)) (k:=?_)
     have hb8:=D4 (ByteArray.mk #[48,49,50,51,52,53,54,55,56,57,97,98,99,100,101,102,103,104,105,106,107,108,109,110,111,112,113,114,115,116,117,118,119,120,121,122]) (((n / 16) / 16) / 16)
     refine J9 (ch:=[]) (b:=B) (off:=0) (len:=65) (sz:=1) (e:=5) (kd:=.i64) (j:=61) (hb:=(fun _=>⟨by decide,by decide⟩)) (k:=M6 (ch:=[]) (b:=B) (off:=61) (v:=.int .u8 ((E2 (((n / 16) / 16) / 16)).toNat:Int)) (c:=rowH [E2 (((n / 16) / 16) % 16),E2 ((n / 16) % 16),E2 (n % 16)]) (c':=rowH [E2 (((n / 16) / 16) / 16),E2 (((n / 16) / 16) % 16),E2 ((n / 16) % 16),E2 (n % 16)]) (j:=0) (m:=0) (H':=([(B,.cells (rowH [E2 (((n / 16) / 16) / 16),E2 (((n / 16) / 16) % 16),E2 ((n / 16) % 16),E2 (n % 16)]) 253 (0,0))]::H)) (hoff:=(by rw [O2 (by simp)]; exact Nat.le_of_ble_eq_true rfl)) (hfz:=(fun _ _=>E3)) (hc':=Q4 _ [E2 (((n / 16) / 16) % 16),E2 ((n / 16) % 16),E2 (n % 16)] (by simp)) (k:=?_))
     refine B1 (E':=[⟨0,[],.slice none 0 0⟩,⟨3,[],.bool false⟩,⟨4,[],.bool false⟩,⟨10,[],.slice none 0 0⟩,⟨11,[],.string (ByteArray.mk #[])⟩,⟨12,[],pt B⟩,⟨13,[],.int .i64 61⟩]) [] [0,3,4,10,11,12,13] (k:=A0 ?_)
     refine A1 (A1 ?_)
     refine G_p [0] [0,4,10,11,12,13,89] (k:=A0 ?_)
     refine C2 kr (A8 ?_)
     refine A0 (A1 ?_)
     refine A1 (G_p [0] [0,10,11,12,13,94] (k:=?_))
     refine A0 (C2 kr ?_)
     refine A8 (A0 ?_)
     refine A1 (A2 ?_)
     refine A4 (j:=1) [0] (k:=R3 (ch:=[]) (b:=B) (off:=0) (len:=65) (sz:=1) (e:=5) (vl:=(some (.int .i64 61))) (vh:=none) (l:=61) (h:=65) (hb:=(fun _=>by decide)) (k:=?_))
     refine O7 (ch:=[]) (a:=⟨B,61,none⟩) (cap:=4) (e:=5) (S:=inG [(B,.cells (rowH [E2 (((n / 16) / 16) / 16),E2 (((n / 16) / 16) % 16),E2 ((n / 16) % 16),E2 (n % 16)]) 253 (0,0))]) [E2 (((n / 16) / 16) / 16),E2 (((n / 16) / 16) % 16),E2 ((n / 16) % 16),E2 (n % 16)] (hrd:=rowH_rd [E2 (((n / 16) / 16) / 16),E2 (((n / 16) / 16) % 16),E2 ((n / 16) % 16),E2 (n % 16)] (by simp) (by simp)) (hS:=F9 0 rfl) (k:=B0 [0] [10,11] (k:=?_))
     refine A0 (B5 ?_)
     refine C1 (H':=H) (fun w h=>(h.erase 0)) (B6 [.tmp 10,.tmp 11] [.slice none 0 0,.string ⟨[E2 (((n / 16) / 16) / 16),E2 (((n / 16) / 16) % 16),E2 ((n / 16) % 16),E2 (n % 16)].toArray⟩] (k:=?_))
     exact ⟨by unfold Q6; rw [if_neg (by omega),if_neg (by omega),if_neg (by omega)]; rfl,rfl⟩
   ·
    simp only [ge_iff_le,decide_eq_false_iff_not] at hc5
    refine G3 (A9 ?_)
    refine A9 (C5 ?_)
    refine A0 (A1 ?_)
    refine G_p [0,0,0] [0,1,3,4,10,11,12,13] (k:=A0 ?_)
    refine A2 (A4 (j:=2) [0,0] (k:=?_))
    refine E4 (ch:=[]) (s:=(ByteArray.mk #[48,49,50,51,52,53,54,55,56,57,97,98,99,100,101,102,103,104,105,106,107,108,109,110,111,112,113,114,115,116,117,118,119,120,121,122])) (kd:=.u64) (j:=((n / 16) / 16)) (hb:=(by intro _; exact ⟨by omega,by show _<(36:Int); omega⟩)) (k:=?_)
    have hb9:=D4 (ByteArray.mk #[48,49,50,51,52,53,54,55,56,57,97,98,99,100,101,102,103,104,105,106,107,108,109,110,111,112,113,114,115,116,117,118,119,120,121,122]) ((n / 16) / 16)
    refine J9 (ch:=[]) (b:=B) (off:=0) (len:=65) (sz:=1) (e:=5) (kd:=.i64) (j:=62) (hb:=(fun _=>⟨by decide,by decide⟩)) (k:=M6 (ch:=[]) (b:=B) (off:=62) (v:=.int .u8 ((E2 ((n / 16) / 16)).toNat:Int)) (c:=rowH [E2 ((n / 16) % 16),E2 (n % 16)]) (c':=rowH [E2 ((n / 16) / 16),E2 ((n / 16) % 16),E2 (n % 16)]) (j:=0) (m:=0) (H':=([(B,.cells (rowH [E2 ((n / 16) / 16),E2 ((n / 16) % 16),E2 (n % 16)]) 253 (0,0))]::H)) (hoff:=(by rw [O2 (by simp)]; exact Nat.le_of_ble_eq_true rfl)) (hfz:=(fun _ _=>E3)) (hc':=Q4 _ [E2 ((n / 16) % 16),E2 (n % 16)] (by simp)) (k:=?_))
    refine B0 [] [0,3,4,10,11,12,13] (k:=A0 ?_)
    refine A1 (A1 ?_)
    refine G_p [0] [0,4,10,11,12,13,89] (k:=A0 ?_)
    refine C2 kr (A8 ?_)
    refine A0 (A1 ?_)
    refine A1 (G_p [0] [0,10,11,12,13,94] (k:=?_))
    refine A0 (C2 kr ?_)
    refine A8 (A0 ?_)
    refine A1 (A2 ?_)
    refine A4 (j:=1) [0] (k:=R3 (ch:=[]) (b:=B) (off:=0) (len:=65) (sz:=1) (e:=5) (vl:=(some (.int .i64 62))) (vh:=none) (l:=62) (h:=65) (hb:=(fun _=>by decide)) (k:=?_))
    refine O7 (ch:=[]) (a:=⟨B,62,none⟩) (cap:=3) (e:=5) (S:=inG [(B,.cells (rowH [E2 ((n / 16) / 16),E2 ((n / 16) % 16),E2 (n % 16)]) 253 (0,0))]) [E2 ((n / 16) / 16),E2 ((n / 16) % 16),E2 (n % 16)] (hrd:=rowH_rd [E2 ((n / 16) / 16),E2 ((n / 16) % 16),E2 (n % 16)] (by simp) (by simp)) (hS:=F9 0 rfl) (k:=B0 [0] [10,11] (k:=?_))
    refine A0 (B5 ?_)
    refine C1 (H':=H) (fun w h=>(h.erase 0)) (B6 [.tmp 10,.tmp 11] [.slice none 0 0,.string ⟨[E2 ((n / 16) / 16),E2 ((n / 16) % 16),E2 (n % 16)].toArray⟩] (k:=?_))
    exact ⟨by unfold Q6; rw [if_neg (by omega),if_neg (by omega),if_pos (by omega)]; rfl,rfl⟩
  ·
   simp only [ge_iff_le,decide_eq_false_iff_not] at hc3
   refine G3 (A9 ?_)
   refine A9 (C5 ?_)
   refine A0 (A1 ?_)
   refine G_p [0,0,0] [0,1,3,4,10,11,12,13] (k:=A0 ?_)
   refine A2 (A4 (j:=2) [0,0] (k:=?_))
   refine E4 (ch:=[]) (s:=(ByteArray.mk #[48,49,50,51,52,53,54,55,56,57,97,98,99,100,101,102,103,104,105,106,107,108,109,110,111,112,113,114,115,116,117,118,119,120,121,122])) (kd:=.u64) (j:=(n / 16)) (hb:=(by intro _; exact ⟨by omega,by show _<(36:Int); omega⟩)) (k:=?_)
   have hb10:=D4 (ByteArray.mk #[48,49,50,51,52,53,54,55,56,57,97,98,99,100,101,102,103,104,105,106,107,108,109,110,111,112,113,114,115,116,117,118,119,120,121,122]) (n / 16)
   refine J9 (ch:=[]) (b:=B) (off:=0) (len:=65) (sz:=1) (e:=5) (kd:=.i64) (j:=63) (hb:=(fun _=>⟨by decide,by decide⟩)) (k:=M6 (ch:=[]) (b:=B) (off:=63) (v:=.int .u8 ((E2 (n / 16)).toNat:Int)) (c:=rowH [E2 (n % 16)]) (c':=rowH [E2 (n / 16),E2 (n % 16)]) (j:=0) (m:=0) (H':=([(B,.cells (rowH [E2 (n / 16),E2 (n % 16)]) 253 (0,0))]::H)) (hoff:=(by rw [O2 (by simp)]; exact Nat.le_of_ble_eq_true rfl)) (hfz:=(fun _ _=>E3)) (hc':=Q4 _ [E2 (n % 16)] (by simp)) (k:=?_))
   refine B0 [] [0,3,4,10,11,12,13] (k:=A0 ?_)
   refine A1 (A1 ?_)
   refine G_p [0] [0,4,10,11,12,13,89] (k:=A0 ?_)
   refine C2 kr (A8 ?_)
   refine A0 (A1 ?_)
   refine A1 (B7 (E':=[⟨0,[],.slice none 0 0⟩,⟨10,[],.slice none 0 0⟩,⟨11,[],.string (ByteArray.mk #[])⟩,⟨12,[],pt B⟩,⟨13,[],.int .i64 63⟩,⟨94,[],.bool false⟩]) [0] [0,10,11,12,13,94] (k:=?_))
   refine A0 (C2 kr ?_)
   refine A8 (A0 ?_)
   refine A1 (A2 ?_)
   refine A4 (j:=1) [0] (k:=R3 (ch:=[]) (b:=B) (off:=0) (len:=65) (sz:=1) (e:=5) (vl:=(some (.int .i64 63))) (vh:=none) (l:=63) (h:=65) (hb:=(fun _=>by decide)) (k:=?_))
   refine O7 (ch:=[]) (a:=⟨B,63,none⟩) (cap:=2) (e:=5) (S:=inG [(B,.cells (rowH [E2 (n / 16),E2 (n % 16)]) 253 (0,0))]) [E2 (n / 16),E2 (n % 16)] (hrd:=rowH_rd [E2 (n / 16),E2 (n % 16)] (by simp) (by simp)) (hS:=F9 0 rfl) (k:=B0 [0] [10,11] (k:=?_))
   refine A0 (B5 ?_)
   refine C1 (H':=H) (fun w h=>(h.erase 0)) (B6 [.tmp 10,.tmp 11] [.slice none 0 0,.string ⟨[E2 (n / 16),E2 (n % 16)].toArray⟩] (k:=?_))
   exact ⟨by unfold Q6; rw [if_neg (by omega),if_pos (by omega)]; rfl,rfl⟩
 ·
  simp only [ge_iff_le,decide_eq_false_iff_not] at hc1
  refine G3 (A9 ?_)
  refine A9 (C5 ?_)
  refine A0 (A1 ?_)
  refine G_p [0,0,0] [0,1,3,4,10,11,12,13] (k:=A0 ?_)
  refine A2 (A4 (j:=2) [0,0] (k:=?_))
  refine E4 (ch:=[]) (s:=(ByteArray.mk #[48,49,50,51,52,53,54,55,56,57,97,98,99,100,101,102,103,104,105,106,107,108,109,110,111,112,113,114,115,116,117,118,119,120,121,122])) (kd:=.u64) (j:=n) (hb:=(by intro _; exact ⟨by omega,by show _<(36:Int); omega⟩)) (k:=?_)
  have hb11:=D4 (ByteArray.mk #[48,49,50,51,52,53,54,55,56,57,97,98,99,100,101,102,103,104,105,106,107,108,109,110,111,112,113,114,115,116,117,118,119,120,121,122]) n
  refine J9 (ch:=[]) (b:=B) (off:=0) (len:=65) (sz:=1) (e:=5) (kd:=.i64) (j:=64) (hb:=(fun _=>⟨by decide,by decide⟩)) (k:=M6 (ch:=[]) (b:=B) (off:=64) (v:=.int .u8 ((E2 n).toNat:Int)) (c:=rowH []) (c':=rowH [E2 n]) (j:=0) (m:=0) (H':=([(B,.cells (rowH [E2 n]) 253 (0,0))]::H)) (hoff:=(by rw [O2 (by simp)]; exact Nat.le_of_ble_eq_true rfl)) (hfz:=(fun _ _=>E3)) (hc':=Q4 _ [] (by simp)) (k:=?_))
  refine B1 (E':=[⟨0,[],.slice none 0 0⟩,⟨3,[],.bool false⟩,⟨4,[],.bool false⟩,⟨10,[],.slice none 0 0⟩,⟨11,[],.string (ByteArray.mk #[])⟩,⟨12,[],pt B⟩,⟨13,[],.int .i64 64⟩]) [] [0,3,4,10,11,12,13] (k:=A0 ?_)
  refine A1 (A1 ?_)
  refine G_p [0] [0,4,10,11,12,13,89] (k:=A0 ?_)
  refine C2 kr (A8 ?_)
  refine A0 (A1 ?_)
  refine A1 (G_p [0] [0,10,11,12,13,94] (k:=?_))
  refine A0 (C2 kr ?_)
  refine A8 (A0 ?_)
  refine A1 (A2 ?_)
  refine A4 (j:=1) [0] (k:=R3 (ch:=[]) (b:=B) (off:=0) (len:=65) (sz:=1) (e:=5) (vl:=(some (.int .i64 64))) (vh:=none) (l:=64) (h:=65) (hb:=(fun _=>by decide)) (k:=?_))
  refine O7 (ch:=[]) (a:=⟨B,64,none⟩) (cap:=1) (e:=5) (S:=inG [(B,.cells (rowH [E2 n]) 253 (0,0))]) [E2 n] (hrd:=rowH_rd [E2 n] (by simp) (by simp)) (hS:=F9 0 rfl) (k:=B0 [0] [10,11] (k:=?_))
  refine A0 (B5 ?_)
  refine C1 (H':=H) (fun w h=>(h.erase 0)) (B6 [.tmp 10,.tmp 11] [.slice none 0 0,.string ⟨[E2 n].toArray⟩] (k:=?_))
  exact ⟨by unfold Q6; rw [if_pos (by omega)]; rfl,rfl⟩
theorem fint0_ (n:Int) (h0:0≤n) (h1:n<65536) (W0:World) (H:List Grp) (hW:F2 W0):Tri Tryz.prog 180 #[.int .i64 n,.int .i64 16] W0 H (fun v H'=>v=.string ⟨(Q6 n).toArray⟩∧H'=H):=by
 refine C6 (args:=[.int .i64 n,.int .i64 16]) (n:=54) Tryz.func180 rfl rfl (Nat.le_of_ble_eq_true rfl) ?_
 refine A1 (G_p [0] [0,1] (k:=?_))
 refine A0 (A1 ?_)
 refine A1 (G_p [0,0] [0,1,11] (k:=?_))
 refine A0 (C2 kr ?_)
 refine A8 (A0 ?_)
 refine A1 ?_
 have hw1:IntKind.wrap .u64 n=n:=w64u (by omega) (by omega)
 refine A2 (C0 (E':=[⟨49,[],.bool (decide (n<0))⟩,⟨47,[],.int .i64 16⟩,⟨46,[],.int .u64 n⟩]) [0,0,0,0,0] (Eq.trans (b:=some [⟨49,[],.bool (decide (n<0))⟩,⟨47,[],.int .i64 16⟩,⟨46,[],.int .u64 (IntKind.wrap .u64 n)⟩]) kr (by simp only [hw1])) (j:=5) rfl ?_)
 refine C4 (E':=[⟨49,[],.bool false⟩,⟨47,[],.int .i64 16⟩,⟨46,[],.int .u64 n⟩]) (by rw [show decide (n<0)=false from decide_eq_false (by omega)]) (D8 Tryz.func198 (fbits_ n (by omega) (by omega) _ _ hW) ?_)
 rintro _ _ ⟨rfl,rfl⟩
 refine B1 (E':=[⟨9,[],.string (bk (Q6 n))⟩]) [0,0,0,0,0] [9] (k:=A0 ?_)
 refine A1 (B7 (E':=[⟨4,[],.string (bk (Q6 n))⟩]) [0,0] [4] (k:=?_))
 refine A0 (B5 ?_)
 refine B6 [.tmp 4] [.string (bk (Q6 n))] (k:=?_)
 exact ⟨rfl,rfl⟩
theorem fint_ (n:Int) (h0:0≤n) (h1:n<65536) (W0:World) (H:List Grp) (hW:F2 W0):Tri Tryz.prog 164 #[.int .i64 n,.int .i64 16] W0 H (fun v H'=>v=.string ⟨(Q6 n).toArray⟩∧H'=H):=by
 refine C6 (args:=[.int .i64 n,.int .i64 16]) (n:=8) Tryz.func164 rfl rfl (Nat.le_of_ble_eq_true rfl) ?_
 refine A1 (G_p [0] [0,1] (k:=?_))
 refine A0 (A1 ?_)
 refine A2 (A4 (j:=2) [0,0] (k:=?_))
 refine D8 Tryz.func180 (fint0_ n (by omega) (by omega) _ _ hW) ?_
 rintro _ _ ⟨rfl,rfl⟩
 refine B1 (E':=[⟨4,[],.string (bk (Q6 n))⟩]) [0] [4] (k:=A0 ?_)
 refine B5 (B6 [.tmp 4] [.string (bk (Q6 n))] (k:=?_))
 exact ⟨rfl,rfl⟩
theorem rep0 (s:ByteArray) (c:Nat) (hs:s.size=1) (hc:c≤1000) (W0:World) (H:List Grp):Tri Tryz.prog 165 #[.string s,.int .i64 c] W0 H (fun v H'=>v=.string ⟨(Lib.repeatL s.data.toList c).toArray⟩∧H'=H) :=
  Tri_below (fun w _=>Tryz.strings_Repeat s c w (by omega) (by rw [hs]; omega))
theorem rep48 (c:Nat):Lib.repeatL [48] c=List.replicate c 48:=by
  induction c with
  | zero=>rfl
  | succ c ih=>first | (rw [List.replicate_succ,← ih]; rfl) | (simp [Lib.repeatL] at ih ⊢; try exact ih)
theorem hexD_size (n:Int):(bk (Q6 n)).size=(Q6 n).length:=by simp [ByteArray.size]
theorem four_ (n:Int) (h0:0≤n) (h1:n<65536) (W0:World) (H:List Grp) (hW:F2 W0):Tri Tryz.prog 137 #[.int .i64 n] W0 H (fun v H'=>v=.string ⟨(92::117::hex4 n.toNat).toArray⟩∧H'=H):=by
 have hhl:=hexD_len n
 have hsz:=hexD_size n
 have hsub:(4:Int) - ((bk (Q6 n)).size:Int)=((4 - (Q6 n).length:Nat):Int):=by rw [hsz]; omega
 have hz2:(bk (Lib.repeatL (ByteArray.mk #[48]).data.toList (4 - (Q6 n).length))).size=4 - (Q6 n).length:=by rw [C3,show (ByteArray.mk #[48]).data.toList=[48] from rfl,rep48,List.length_replicate]
 have hz3:(ByteArray.mk #[92,117]).size=2:=rfl
 refine C6 (args:=[.int .i64 n]) (n:=13) Tryz.func137 rfl rfl (Nat.le_of_ble_eq_true rfl) ?_
 refine A1 (B7 (E':=[⟨0,[],.int .i64 n⟩]) [0] [0] (k:=?_))
 refine A0 (A1 ?_)
 refine A2 (A4 (j:=1) [0] (k:=?_))
 refine D8 Tryz.func164 (fint_ n (by omega) (by omega) _ _ hW) ?_
 rintro _ _ ⟨rfl,rfl⟩
 refine B1 (E':=[⟨3,[],.string (bk (Q6 n))⟩]) [0] [3] (k:=A0 ?_)
 refine A1 ?_
 have hw1:IntKind.wrap .i64 (4 - ((bk (Q6 n)).size:Int))=4 - ((bk (Q6 n)).size:Int):=w64 (by omega) (by omega)
 refine A2 (C0 (E':=[⟨8,[],.int .i64 (4 - ((bk (Q6 n)).size:Int))⟩,⟨3,[],.string (bk (Q6 n))⟩]) [0,0,0] (Eq.trans (b:=some [⟨8,[],.int .i64 (IntKind.wrap .i64 (4 - ((bk (Q6 n)).size:Int)))⟩,⟨3,[],.string (bk (Q6 n))⟩]) kr (by simp only [hw1])) (j:=3) rfl ?_)
 refine C4 (E':=[⟨8,[],.int .i64 ((4 - (Q6 n).length:Nat):Int)⟩,⟨3,[],.string (bk (Q6 n))⟩]) (by rw [hsub]) (D8 Tryz.func165 (rep0 (ByteArray.mk #[48]) (4 - (Q6 n).length) rfl (by omega) _ _) ?_)
 rintro _ _ ⟨rfl,rfl⟩
 refine E5 (ch:=[]) (s:=(ByteArray.mk #[92,117])) (u:=⟨(Lib.repeatL (ByteArray.mk #[48]).data.toList (4 - (Q6 n).length)).toArray⟩) (hb:=(by intro _; simp only [hz2,hz3]; omega)) (k:=A4 (j:=6) [0] (k:=?_))
 refine E5 (ch:=[]) (s:=(ByteArray.mk #[92,117])++⟨(Lib.repeatL (ByteArray.mk #[48]).data.toList (4 - (Q6 n).length)).toArray⟩) (u:=(bk (Q6 n))) (hb:=(by intro _; simp only [F3,hz2,hz3,hsz]; omega)) (k:=B0 [0] [2] (k:=?_))
 refine A0 (B5 ?_)
 refine B6 [.tmp 2] [.string (((ByteArray.mk #[92,117])++⟨(Lib.repeatL (ByteArray.mk #[48]).data.toList (4 - (Q6 n).length)).toArray⟩)++(bk (Q6 n)))] (k:=?_)
 exact ⟨congrArg Value.string (ba_eq (by rw [D9,D9,← hexD_pad h0 h1,← rep48]; rfl)),rfl⟩
end Go.Proofs.YtppgfiklmfoaeaaGreatDoor
namespace Go.Proofs.YtppgfiklmfoaeaaGreatDoor
open Go.Sw Go.Sha Go.Esc Go.RowKit
theorem json_ (s:ByteArray) (hs:s.size≤1000000000) (W0:World) (H:List Grp) (hW:F2 W0):Tri Tryz.prog 91 #[.string s] W0 H (fun v H'=>v=.string ⟨(G6 s.data.toList).toArray⟩∧H'=H):=by
 refine C6 (args:=[.string s]) (n:=69) Tryz.func91 rfl rfl (Nat.le_of_ble_eq_true rfl) ?_
 refine A1 (B7 (E':=[⟨0,[],.string s⟩]) [0] [0] (k:=?_))
 refine A0 (A1 ?_)
 refine A2 (F5 (ch:=[]) (z:=.agg #[.pointer none,.slice none 0 0]) (k:=(fun b1=>?_)))
 refine J3 rfl (H':=([(b1,.cells #[.pointer none,.slice none 0 0] 87 (0,0))]::[]::H)) (fun w h=>h.flat (List.Perm.refl _)) (B1 (E':=[⟨0,[],.string s⟩,⟨3,[],pt b1⟩]) [] [0,3] (k:=?_))
 refine A0 (A1 ?_)
 refine A2 (D8 (vs:=[pt b1,.int .u8 34]) Tryz.func92 (J6 b1 (.pointer none) (.slice none 0 0) [] .empty (Nat.toUInt8 34) bld0 bown0 (by show 0+1≤_; omega) _ _) ?_)
 rintro _ _ ⟨v2,g3,hB4,rfl⟩
 refine B1 (E':=[⟨0,[],.string s⟩,⟨3,[],pt b1⟩]) [] [0,3] (k:=A0 ?_)
 refine A1 (A1 ?_)
 refine A2 (A4 (j:=1) [0] (k:=?_))
 refine GL_rangeS (i:=1) (ch:=[]) (s:=s) rfl rfl kr kr kr kr kr (fun it5=>B1 (E':=[⟨3,[],pt b1⟩,⟨8,[],pt it5⟩]) [] [3,8] (k:=?_))
 refine A0 (B9 ?_)
 refine G_heap (H':=([(b1,.cells #[pt b1,v2] 87 (0,0))]::g3::[(it5,.stringIter s 0)]::H)) (fun w h=>((h.front (j:=2) rfl).front (j:=2) rfl)) (I6 (EI:=(fun ξ:Value × Value × Grp × ByteArray × Nat=>[⟨3,[],pt b1⟩,⟨8,[],pt it5⟩])) (HI:=(fun ξ:Value × Value × Grp × ByteArray × Nat=>([(b1,.cells #[ξ.1,ξ.2.1] 87 (0,0))]::ξ.2.2.1::[(it5,.stringIter s ξ.2.2.2.2)]::H))) (Φ:=(fun ξ:Value × Value × Grp × ByteArray × Nat=>(Bld b1 ξ.1)∧(O8 ξ.2.1 ξ.2.2.1 ξ.2.2.2.1)∧(ξ.2.2.2.2≤s.size)∧(ξ.2.2.2.1.data.toList++((A6 (s.data.toList.drop ξ.2.2.2.2)).flatMap H6++[34])=G6 s.data.toList))) (μ:=(fun ξ:Value × Value × Grp × ByteArray × Nat=>s.size - ξ.2.2.2.2)) (s0:=(pt b1,v2,g3,(.empty++⟨#[Nat.toUInt8 34]⟩),0)) [3,8] kr rfl ⟨bld1,hB4,(by (try dsimp only); omega),(by rfl)⟩ ?_)
 rintro ⟨p,v,g,t,q⟩ ⟨hbp,hB,hq,hT⟩
 dsimp only at hbp hB hq hT
 have ht:t.size≤6 * s.size+2:=by
  have h1:=congrArg List.length hT
  have h2:=K5 s.data.toList
  rw [List.length_append,E0] at h1
  rw [E0] at h2
  omega
 refine A1 (A2 ?_)
 refine GL_nextS (i:=0) (ch:=[]) (it:=it5) (p:=q) (s:=s) (j:=2) rfl rfl kr kr kr kr rfl (fun hend6=>?_) (fun hmore7=>?_)
 ·
  have hxe:=hend6
  refine B0 [0] [3,8,9,10] (k:=A0 ?_)
  refine A1 (C2 kr ?_)
  refine G3 (A9 ?_)
  refine A9 (C5 ?_)
  refine A0 (A1 ?_)
  refine A2 (D8 Tryz.func92 (J6 b1 (p) (v) g t (Nat.toUInt8 34) hbp hB (by omega) _ _) ?_)
  rintro _ _ ⟨v8,g9,hB10,rfl⟩
  refine B1 (E':=[⟨3,[],pt b1⟩]) [] [3] (k:=A0 ?_)
  refine A1 (A2 ?_)
  refine D8 Tryz.func53 (Q9 b1 (pt b1) (v8) g9 (t++⟨#[Nat.toUInt8 34]⟩) hB10 (by (try simp only [F3,sz1]); omega) _ _) ?_
  rintro _ _ ⟨rfl,rfl⟩
  refine B0 [0] [2] (k:=A0 ?_)
  refine B5 (C1 (H':=H) (fun w h=>((h.erase 1).erase 0)) ?_)
  refine B6 [.tmp 2] [.string (t++⟨#[Nat.toUInt8 34]⟩)] (k:=?_)
  exact ⟨congrArg Value.string (ba_eq (by rw [D9,← hT,runes_end (by omega)]; rfl)),rfl⟩
 ·
  have hdc:=dc_rng s q
  have hxm:=hmore7
  refine B0 [0] [3,8,9,10] (k:=A0 ?_)
  refine A1 (E8 kr ?_)
  refine A8 (A0 ?_)
  refine B9 (A1 ?_)
  refine G_p [0,0] [3,5,8] (k:=A0 ?_)
  refine B9 (A1 ?_)
  refine G_p [0,0,0,0,0,5,0] [3,5,8,14] (k:=A0 ?_)
  refine B2 (b:=((dcR s q)==34)||((dcR s q)==92)) kr (fun hc11=>?_) (fun hc11=>?_)
  ·
   simp only [Bool.or_eq_true,beq_iff_eq] at hc11
   have hj:H6 (dcR s q)=92::Lib.encodeRune (dcR s q):=by unfold H6; rw [if_pos (by omega)]
   refine A1 (A2 ?_)
   refine D8 Tryz.func92 (J6 b1 (p) (v) g t (Nat.toUInt8 92) hbp hB (by omega) _ _) ?_
   rintro _ _ ⟨v12,g13,hB14,rfl⟩
   refine B0 [] [3,5,8] (k:=A0 ?_)
   refine A2 (A4 (j:=1) [0] (k:=?_))
   refine D8 (vs:=[pt b1,.int .i32 (dcR s q)]) Tryz.func136 (writeRune b1 (pt b1) (v12) g13 (t++⟨#[Nat.toUInt8 92]⟩) (dcR s q) bld1 hB14 (isR_dc _ _) (by simp only [F3]; have h2:(⟨#[Nat.toUInt8 92]⟩:ByteArray).size=1:=rfl; omega) _ _) ?_
   rintro _ _ ⟨v15,g16,hB17,rfl⟩
   refine B1 (E':=[⟨3,[],pt b1⟩,⟨8,[],pt it5⟩]) [] [3,8] (k:=B8 ?_)
   refine B8 (E6 (s':=(pt b1,v15,g16,((t++⟨#[Nat.toUInt8 92]⟩)++encB (dcR s q)),q+dcW s q)) [3,8] kr rfl ⟨bld1,hB17,(dcW_le hxm),(by dsimp only; rw [← hT,runes_at hxm,List.flatMap_cons,hj]; (try simp only [D9,J5,List.append_assoc]) <;> rfl)⟩ (by (try dsimp only); omega))
  ·
   simp only [Bool.or_eq_false_iff,beq_eq_false_iff_ne] at hc11
   refine A1 (G_p [0,0,0] [3,5,8,24] (k:=?_))
   refine A0 (B2 (b:=(dcR s q)==10) kr (fun hc18=>?_) (fun hc18=>?_))
   ·
    simp only [beq_iff_eq] at hc18
    have hj:H6 (dcR s q)=[92,110]:=by unfold H6; rw [if_neg (by omega),if_pos (by omega)]
    refine A2 (D8 Tryz.func90 (H0 b1 (p) (v) g t (ByteArray.mk #[92,110]) hbp hB (by have h2:(ByteArray.mk #[92,110]).size=2:=rfl; omega) _ _) ?_)
    rintro _ _ ⟨v19,g20,hB21,rfl⟩
    refine B1 (E':=[⟨3,[],pt b1⟩,⟨8,[],pt it5⟩]) [] [3,8] (k:=B8 ?_)
    refine B8 (E6 (s':=(pt b1,v19,g20,(t++(ByteArray.mk #[92,110])),q+dcW s q)) [3,8] kr rfl ⟨bld1,hB21,(dcW_le hxm),(by dsimp only; rw [← hT,runes_at hxm,List.flatMap_cons,hj]; (try simp only [D9,List.append_assoc]) <;> rfl)⟩ (by (try dsimp only); omega))
   ·
    simp only [beq_eq_false_iff_ne] at hc18
    refine A1 (G_p [0,0,0] [3,5,8,28] (k:=?_))
    refine A0 (B2 (b:=(dcR s q)==13) kr (fun hc22=>?_) (fun hc22=>?_))
    ·
     simp only [beq_iff_eq] at hc22
     have hj:H6 (dcR s q)=[92,114]:=by unfold H6; rw [if_neg (by omega),if_neg (by omega),if_pos (by omega)]
     refine A2 (D8 Tryz.func90 (H0 b1 (p) (v) g t (ByteArray.mk #[92,114]) hbp hB (by have h2:(ByteArray.mk #[92,114]).size=2:=rfl; omega) _ _) ?_)
     rintro _ _ ⟨v23,g24,hB25,rfl⟩
     refine B1 (E':=[⟨3,[],pt b1⟩,⟨8,[],pt it5⟩]) [] [3,8] (k:=B8 ?_)
     refine B8 (E6 (s':=(pt b1,v23,g24,(t++(ByteArray.mk #[92,114])),q+dcW s q)) [3,8] kr rfl ⟨bld1,hB25,(dcW_le hxm),(by dsimp only; rw [← hT,runes_at hxm,List.flatMap_cons,hj]; (try simp only [D9,List.append_assoc]) <;> rfl)⟩ (by (try dsimp only); omega))
    ·
     simp only [beq_eq_false_iff_ne] at hc22
     refine A1 (B7 (E':=[⟨3,[],pt b1⟩,⟨5,[],.int .i32 (dcR s q)⟩,⟨8,[],pt it5⟩,⟨32,[],.bool ((dcR s q)==9)⟩]) [0,0,0] [3,5,8,32] (k:=?_))
     refine A0 (B2 (b:=(dcR s q)==9) kr (fun hc26=>?_) (fun hc26=>?_))
     ·
      simp only [beq_iff_eq] at hc26
      have hj:H6 (dcR s q)=[92,116]:=by unfold H6; rw [if_neg (by omega),if_neg (by omega),if_neg (by omega),if_pos (by omega)]
      refine A2 (D8 Tryz.func90 (H0 b1 (p) (v) g t (ByteArray.mk #[92,116]) hbp hB (by have h2:(ByteArray.mk #[92,116]).size=2:=rfl; omega) _ _) ?_)
      rintro _ _ ⟨v27,g28,hB29,rfl⟩
      refine B1 (E':=[⟨3,[],pt b1⟩,⟨8,[],pt it5⟩]) [] [3,8] (k:=B8 ?_)
      refine B8 (E6 (s':=(pt b1,v27,g28,(t++(ByteArray.mk #[92,116])),q+dcW s q)) [3,8] kr rfl ⟨bld1,hB29,(dcW_le hxm),(by dsimp only; rw [← hT,runes_at hxm,List.flatMap_cons,hj]; (try simp only [D9,List.append_assoc]) <;> rfl)⟩ (by (try dsimp only); omega))
     ·
      simp only [beq_eq_false_iff_ne] at hc26
      refine A1 (G_p [0,0,0,0,0,5,0,0,0,5,0,0,0,5,0,0,0,5,0,0,0,5,0,0,0,5,0] [3,5,8,36] (k:=?_))
      refine A0 (B2 (b:=((((((decide ((dcR s q)<32))||((dcR s q)==127))||((dcR s q)==8232))||((dcR s q)==8233))||((dcR s q)==60))||((dcR s q)==62))||((dcR s q)==38)) kr (fun hc30=>?_) (fun hc30=>?_))
      ·
       simp only [Bool.or_eq_true,decide_eq_true_eq,beq_iff_eq] at hc30
       have hj:H6 (dcR s q)=92::117::hex4 (Int.toNat (dcR s q)):=by unfold H6; rw [if_neg (by omega),if_neg (by omega),if_neg (by omega),if_neg (by omega),if_pos (by omega)]
       refine A2 (A4 (j:=2) [0,0] (k:=?_))
       refine D5 64 (dcR s q) (by omega) (by omega) kr (D8 Tryz.func137 (four_ (dcR s q) (by omega) (by omega) _ _ hW) ?_)
       rintro _ _ ⟨rfl,rfl⟩
       refine D8 (vs:=[pt b1,.string (bk (92::117::hex4 (Int.toNat (dcR s q))))]) Tryz.func90 (H0 b1 (p) (v) g t (bk (92::117::hex4 (Int.toNat (dcR s q)))) hbp hB (by have h6:(bk (92::117::hex4 (Int.toNat (dcR s q)))).size=6:=(C3 _).trans rfl; omega) _ _) ?_
       rintro _ _ ⟨v32,g33,hB34,rfl⟩
       refine B1 (E':=[⟨3,[],pt b1⟩,⟨8,[],pt it5⟩]) [] [3,8] (k:=B8 ?_)
       refine B8 (E6 (s':=(pt b1,v32,g33,(t++(bk (92::117::hex4 (Int.toNat (dcR s q))))),q+dcW s q)) [3,8] kr rfl ⟨bld1,hB34,(dcW_le hxm),(by dsimp only; rw [← hT,runes_at hxm,List.flatMap_cons,hj]; (try simp only [D9,List.append_assoc]) <;> rfl)⟩ (by (try dsimp only); omega))
      ·
       simp only [Bool.or_eq_false_iff,decide_eq_false_iff_not,beq_eq_false_iff_ne] at hc30
       have hj:H6 (dcR s q)=Lib.encodeRune (dcR s q):=by unfold H6; rw [if_neg (by omega),if_neg (by omega),if_neg (by omega),if_neg (by omega),if_neg (by omega)]
       refine A2 (A4 (j:=1) [0] (k:=?_))
       refine D8 (vs:=[pt b1,.int .i32 (dcR s q)]) Tryz.func136 (writeRune b1 (p) (v) g t (dcR s q) hbp hB (isR_dc _ _) (by omega) _ _) ?_
       rintro _ _ ⟨v35,g36,hB37,rfl⟩
       refine B1 (E':=[⟨3,[],pt b1⟩,⟨8,[],pt it5⟩]) [] [3,8] (k:=B8 ?_)
       refine B8 (E6 (s':=(pt b1,v35,g36,(t++encB (dcR s q)),q+dcW s q)) [3,8] kr rfl ⟨bld1,hB37,(dcW_le hxm),(by dsimp only; rw [← hT,runes_at hxm,List.flatMap_cons,hj]; (try simp only [D9,J5,List.append_assoc]) <;> rfl)⟩ (by (try dsimp only); omega))
end Go.Proofs.YtppgfiklmfoaeaaGreatDoor
namespace Go.Proofs.YtppgfiklmfoaeaaGreatDoor
open Go.Sw Go.Sha Go.Esc Go.RowKit Go.Json
theorem bko (l:List UInt8) (t:ByteArray):(t++bk l).data.toList=t.data.toList++l:=D9 _ _
theorem N5 {s t:ByteArray} (h:s.data.toList=t.data.toList):s=t:=ByteArray.ext (Array.ext' h)
theorem name_get {ns:List (List UInt8)} {k:Nat} (h:k<ns.length):ns.getD k []=ns[k]:=by simp [List.getD,h]
theorem jwrite0_ (x:JV) (an:Option Addr) (cn:Nat) (al:Option Addr) (cl:Nat) (cs:List Value) (S:Nat→Obj→Prop) (_:Rd S an (E7 x.names)) (_:Rd S al cs) (_:JRdL S x.list cs) (_:Nat) (hk6:x.kind=0) (b:Nat) (p v:Value) (g:Grp) (t0:ByteArray) (hp:Bld b p) (hv:O8 v g t0) (hs:t0.size+20 * wtJ x≤10000000000)  (W0:World) (H:List Grp) (_:∀ y o,S y o→At W0 H y o) (_:F2 W0):Tri Tryz.prog 52 #[pt b,.agg #[.int .i64 0,.string (bk x.text),.slice an x.names.length cn,.slice al x.list.length cl]] W0 ([(b,.cells #[p,v] 87 (0,0))]::g::H) (fun _ H'=>∃ v' g',O8 v' g' (t0++bk (prP x))∧H'=bldG b (.pointer (some ⟨b,0,none⟩)) v'::g'::H):=by
 have hxl:=H8 x
 have hcw:=K9 x
 have hxt:x.text.length<wtJ x:=by rw [M7 x]; omega
 have hjl:=K5 x.text
 refine C6 (args:=[pt b,.agg #[.int .i64 0,.string (bk x.text),.slice an x.names.length cn,.slice al x.list.length cl]]) (n:=73) Tryz.func52 rfl rfl (Nat.le_of_ble_eq_true rfl) ?_
 refine A1 (A2 ?_)
 refine G7 (ch:=[]) (v:=.agg #[.int .i64 0,.string (bk x.text),.slice an x.names.length cn,.slice al x.list.length cl]) (k:=(fun b1=>?_))
 refine B1 (E':=[⟨0,[],pt b⟩,⟨3,[],pt b1⟩]) [] [0,3] (k:=A0 ?_)
 refine A1 (A2 ?_)
 refine A4 (j:=1) [0] (k:=A5 (ch:=[]) (b:=b1) (off:=0) (v:=.int .i64 0) (hA:=At.grp 0 0 rfl rfl) (k:=?_))
 refine B0 [] [0,3,8] (k:=A0 ?_)
 refine B9 (A1 ?_)
 refine G_p [0,0] [0,3,8,48] (k:=A0 ?_)
 refine E8 kr (A2 ?_)
 refine A4 (j:=1) [0] (k:=J3 rfl (H':=([(b,.cells #[p,v] 87 (0,0))]::g::[(b1,.cells #[.int .i64 0,.string (bk x.text),.slice an x.names.length cn,.slice al x.list.length cl] 28 (0,0))]::H)) (fun w h=>((h.front (j:=2) rfl).front (j:=2) rfl)) ?_)
 refine D8 Tryz.func90 (H0 b (p) (v) g t0 (ByteArray.mk #[110,117,108,108]) hp hv (by (try simp only [C3,List.length_cons,List.length_nil]); omega) _ _) ?_
 rintro _ _ ⟨v2,g3,hB4,rfl⟩
 refine B1 (E':=[]) [] [] (k:=B8 ?_)
 refine C1 (H':=([(b,.cells #[pt b,v2] 87 (0,0))]::g3::H)) (fun w h=>(h.erase 2)) (B6 [] [] (k:=?_))
 exact ⟨_,_,(by rw [show t0++bk (prP x)=(t0++(ByteArray.mk #[110,117,108,108])) from (N5 (by rw [P2 hk6 (by decide)]; rfl)).symm]; exact hB4),rfl⟩
theorem jwrite1_ (x:JV) (an:Option Addr) (cn:Nat) (al:Option Addr) (cl:Nat) (cs:List Value) (S:Nat→Obj→Prop) (_:Rd S an (E7 x.names)) (_:Rd S al cs) (_:JRdL S x.list cs) (_:Nat) (hk6:x.kind=1) (b:Nat) (p v:Value) (g:Grp) (t0:ByteArray) (hp:Bld b p) (hv:O8 v g t0) (hs:t0.size+20 * wtJ x≤10000000000)  (W0:World) (H:List Grp) (_:∀ y o,S y o→At W0 H y o) (_:F2 W0):Tri Tryz.prog 52 #[pt b,.agg #[.int .i64 1,.string (bk x.text),.slice an x.names.length cn,.slice al x.list.length cl]] W0 ([(b,.cells #[p,v] 87 (0,0))]::g::H) (fun _ H'=>∃ v' g',O8 v' g' (t0++bk (prP x))∧H'=bldG b (.pointer (some ⟨b,0,none⟩)) v'::g'::H):=by
 have hxl:=H8 x
 have hcw:=K9 x
 have hxt:x.text.length<wtJ x:=by rw [M7 x]; omega
 have hjl:=K5 x.text
 refine C6 (args:=[pt b,.agg #[.int .i64 1,.string (bk x.text),.slice an x.names.length cn,.slice al x.list.length cl]]) (n:=73) Tryz.func52 rfl rfl (Nat.le_of_ble_eq_true rfl) ?_
 refine A1 (A2 ?_)
 refine G7 (ch:=[]) (v:=.agg #[.int .i64 1,.string (bk x.text),.slice an x.names.length cn,.slice al x.list.length cl]) (k:=(fun b1=>?_))
 refine B1 (E':=[⟨0,[],pt b⟩,⟨3,[],pt b1⟩]) [] [0,3] (k:=A0 ?_)
 refine A1 (A2 ?_)
 refine A4 (j:=1) [0] (k:=A5 (ch:=[]) (b:=b1) (off:=0) (v:=.int .i64 1) (hA:=At.grp 0 0 rfl rfl) (k:=?_))
 refine B0 [] [0,3,8] (k:=A0 ?_)
 refine B9 (A1 ?_)
 refine G_p [0,0] [0,3,8,48] (k:=A0 ?_)
 refine C2 kr (A1 ?_)
 refine G_p [0,0] [0,3,8,52] (k:=A0 ?_)
 refine E8 kr (A2 ?_)
 refine A4 (j:=1) [0] (k:=J3 rfl (H':=([(b,.cells #[p,v] 87 (0,0))]::g::[(b1,.cells #[.int .i64 1,.string (bk x.text),.slice an x.names.length cn,.slice al x.list.length cl] 28 (0,0))]::H)) (fun w h=>((h.front (j:=2) rfl).front (j:=2) rfl)) ?_)
 refine D8 Tryz.func90 (H0 b (p) (v) g t0 (ByteArray.mk #[102,97,108,115,101]) hp hv (by (try simp only [C3,List.length_cons,List.length_nil]); omega) _ _) ?_
 rintro _ _ ⟨v2,g3,hB4,rfl⟩
 refine B1 (E':=[]) [] [] (k:=B8 ?_)
 refine C1 (H':=([(b,.cells #[pt b,v2] 87 (0,0))]::g3::H)) (fun w h=>(h.erase 2)) (B6 [] [] (k:=?_))
 exact ⟨_,_,(by rw [show t0++bk (prP x)=(t0++(ByteArray.mk #[102,97,108,115,101])) from (N5 (by rw [P2 hk6 (by decide)]; rfl)).symm]; exact hB4),rfl⟩
theorem jwrite2_ (x:JV) (an:Option Addr) (cn:Nat) (al:Option Addr) (cl:Nat) (cs:List Value) (S:Nat→Obj→Prop) (_:Rd S an (E7 x.names)) (_:Rd S al cs) (_:JRdL S x.list cs) (_:Nat) (hk6:x.kind=2) (b:Nat) (p v:Value) (g:Grp) (t0:ByteArray) (hp:Bld b p) (hv:O8 v g t0) (hs:t0.size+20 * wtJ x≤10000000000)  (W0:World) (H:List Grp) (_:∀ y o,S y o→At W0 H y o) (_:F2 W0):Tri Tryz.prog 52 #[pt b,.agg #[.int .i64 2,.string (bk x.text),.slice an x.names.length cn,.slice al x.list.length cl]] W0 ([(b,.cells #[p,v] 87 (0,0))]::g::H) (fun _ H'=>∃ v' g',O8 v' g' (t0++bk (prP x))∧H'=bldG b (.pointer (some ⟨b,0,none⟩)) v'::g'::H):=by
 have hxl:=H8 x
 have hcw:=K9 x
 have hxt:x.text.length<wtJ x:=by rw [M7 x]; omega
 have hjl:=K5 x.text
 refine C6 (args:=[pt b,.agg #[.int .i64 2,.string (bk x.text),.slice an x.names.length cn,.slice al x.list.length cl]]) (n:=73) Tryz.func52 rfl rfl (Nat.le_of_ble_eq_true rfl) ?_
 refine A1 (A2 ?_)
 refine G7 (ch:=[]) (v:=.agg #[.int .i64 2,.string (bk x.text),.slice an x.names.length cn,.slice al x.list.length cl]) (k:=(fun b1=>?_))
 refine B1 (E':=[⟨0,[],pt b⟩,⟨3,[],pt b1⟩]) [] [0,3] (k:=A0 ?_)
 refine A1 (A2 ?_)
 refine A4 (j:=1) [0] (k:=A5 (ch:=[]) (b:=b1) (off:=0) (v:=.int .i64 2) (hA:=At.grp 0 0 rfl rfl) (k:=?_))
 refine B0 [] [0,3,8] (k:=A0 ?_)
 refine B9 (A1 ?_)
 refine G_p [0,0] [0,3,8,48] (k:=A0 ?_)
 refine C2 kr (A1 ?_)
 refine G_p [0,0] [0,3,8,52] (k:=A0 ?_)
 refine C2 kr (A1 ?_)
 refine G_p [0,0] [0,3,8,56] (k:=A0 ?_)
 refine E8 kr (A2 ?_)
 refine A4 (j:=1) [0] (k:=J3 rfl (H':=([(b,.cells #[p,v] 87 (0,0))]::g::[(b1,.cells #[.int .i64 2,.string (bk x.text),.slice an x.names.length cn,.slice al x.list.length cl] 28 (0,0))]::H)) (fun w h=>((h.front (j:=2) rfl).front (j:=2) rfl)) ?_)
 refine D8 Tryz.func90 (H0 b (p) (v) g t0 (ByteArray.mk #[116,114,117,101]) hp hv (by (try simp only [C3,List.length_cons,List.length_nil]); omega) _ _) ?_
 rintro _ _ ⟨v2,g3,hB4,rfl⟩
 refine B1 (E':=[]) [] [] (k:=B8 ?_)
 refine C1 (H':=([(b,.cells #[pt b,v2] 87 (0,0))]::g3::H)) (fun w h=>(h.erase 2)) (B6 [] [] (k:=?_))
 exact ⟨_,_,(by rw [show t0++bk (prP x)=(t0++(ByteArray.mk #[116,114,117,101])) from (N5 (by rw [P2 hk6 (by decide)]; rfl)).symm]; exact hB4),rfl⟩
theorem jwrite3_ (x:JV) (an:Option Addr) (cn:Nat) (al:Option Addr) (cl:Nat) (cs:List Value) (S:Nat→Obj→Prop) (_:Rd S an (E7 x.names)) (_:Rd S al cs) (_:JRdL S x.list cs) (_:Nat) (hk6:x.kind=3) (b:Nat) (p v:Value) (g:Grp) (t0:ByteArray) (hp:Bld b p) (hv:O8 v g t0) (hs:t0.size+20 * wtJ x≤10000000000)  (W0:World) (H:List Grp) (_:∀ y o,S y o→At W0 H y o) (_:F2 W0):Tri Tryz.prog 52 #[pt b,.agg #[.int .i64 3,.string (bk x.text),.slice an x.names.length cn,.slice al x.list.length cl]] W0 ([(b,.cells #[p,v] 87 (0,0))]::g::H) (fun _ H'=>∃ v' g',O8 v' g' (t0++bk (prP x))∧H'=bldG b (.pointer (some ⟨b,0,none⟩)) v'::g'::H):=by
 have hxl:=H8 x
 have hcw:=K9 x
 have hxt:x.text.length<wtJ x:=by rw [M7 x]; omega
 have hjl:=K5 x.text
 refine C6 (args:=[pt b,.agg #[.int .i64 3,.string (bk x.text),.slice an x.names.length cn,.slice al x.list.length cl]]) (n:=73) Tryz.func52 rfl rfl (Nat.le_of_ble_eq_true rfl) ?_
 refine A1 (A2 ?_)
 refine G7 (ch:=[]) (v:=.agg #[.int .i64 3,.string (bk x.text),.slice an x.names.length cn,.slice al x.list.length cl]) (k:=(fun b1=>?_))
 refine B1 (E':=[⟨0,[],pt b⟩,⟨3,[],pt b1⟩]) [] [0,3] (k:=A0 ?_)
 refine A1 (A2 ?_)
 refine A4 (j:=1) [0] (k:=A5 (ch:=[]) (b:=b1) (off:=0) (v:=.int .i64 3) (hA:=At.grp 0 0 rfl rfl) (k:=?_))
 refine B0 [] [0,3,8] (k:=A0 ?_)
 refine B9 (A1 ?_)
 refine G_p [0,0] [0,3,8,48] (k:=A0 ?_)
 refine C2 kr (A1 ?_)
 refine G_p [0,0] [0,3,8,52] (k:=A0 ?_)
 refine C2 kr (A1 ?_)
 refine G_p [0,0] [0,3,8,56] (k:=A0 ?_)
 refine C2 kr (A1 ?_)
 refine G_p [0,0] [0,3,8,60] (k:=A0 ?_)
 refine E8 kr (A2 ?_)
 refine A4 (j:=2) [0,0] (k:=A5 (ch:=[]) (b:=b1) (off:=1) (v:=.string (bk x.text)) (hA:=At.grp 0 0 rfl rfl) (k:=?_))
 refine J3 rfl (H':=([(b,.cells #[p,v] 87 (0,0))]::g::[(b1,.cells #[.int .i64 3,.string (bk x.text),.slice an x.names.length cn,.slice al x.list.length cl] 28 (0,0))]::H)) (fun w h=>((h.front (j:=2) rfl).front (j:=2) rfl)) (D8 Tryz.func90 (H0 b (p) (v) g t0 (bk x.text) hp hv (by (try simp only [C3]); omega) _ _) ?_)
 rintro _ _ ⟨v2,g3,hB4,rfl⟩
 refine B1 (E':=[]) [] [] (k:=B8 ?_)
 refine C1 (H':=([(b,.cells #[pt b,v2] 87 (0,0))]::g3::H)) (fun w h=>(h.erase 2)) (B6 [] [] (k:=?_))
 exact ⟨_,_,(by rw [show t0++bk (prP x)=(t0++(bk x.text)) from (N5 (by rw [P2 hk6 (by decide)]; rfl)).symm]; exact hB4),rfl⟩
theorem jwrite4_ (x:JV) (an:Option Addr) (cn:Nat) (al:Option Addr) (cl:Nat) (cs:List Value) (S:Nat→Obj→Prop) (_:Rd S an (E7 x.names)) (_:Rd S al cs) (_:JRdL S x.list cs) (_:Nat) (hk6:x.kind=4) (b:Nat) (p v:Value) (g:Grp) (t0:ByteArray) (hp:Bld b p) (hv:O8 v g t0) (hs:t0.size+20 * wtJ x≤10000000000)  (W0:World) (H:List Grp) (_:∀ y o,S y o→At W0 H y o) (hW:F2 W0):Tri Tryz.prog 52 #[pt b,.agg #[.int .i64 4,.string (bk x.text),.slice an x.names.length cn,.slice al x.list.length cl]] W0 ([(b,.cells #[p,v] 87 (0,0))]::g::H) (fun _ H'=>∃ v' g',O8 v' g' (t0++bk (prP x))∧H'=bldG b (.pointer (some ⟨b,0,none⟩)) v'::g'::H):=by
 have hxl:=H8 x
 have hcw:=K9 x
 have hxt:x.text.length<wtJ x:=by rw [M7 x]; omega
 have hjl:=K5 x.text
 refine C6 (args:=[pt b,.agg #[.int .i64 4,.string (bk x.text),.slice an x.names.length cn,.slice al x.list.length cl]]) (n:=73) Tryz.func52 rfl rfl (Nat.le_of_ble_eq_true rfl) ?_
 refine A1 (A2 ?_)
 refine G7 (ch:=[]) (v:=.agg #[.int .i64 4,.string (bk x.text),.slice an x.names.length cn,.slice al x.list.length cl]) (k:=(fun b1=>?_))
 refine B1 (E':=[⟨0,[],pt b⟩,⟨3,[],pt b1⟩]) [] [0,3] (k:=A0 ?_)
 refine A1 (A2 ?_)
 refine A4 (j:=1) [0] (k:=A5 (ch:=[]) (b:=b1) (off:=0) (v:=.int .i64 4) (hA:=At.grp 0 0 rfl rfl) (k:=?_))
 refine B0 [] [0,3,8] (k:=A0 ?_)
 refine B9 (A1 ?_)
 refine G_p [0,0] [0,3,8,48] (k:=A0 ?_)
 refine C2 kr (A1 ?_)
 refine G_p [0,0] [0,3,8,52] (k:=A0 ?_)
 refine C2 kr (A1 ?_)
 refine G_p [0,0] [0,3,8,56] (k:=A0 ?_)
 refine C2 kr (A1 ?_)
 refine G_p [0,0] [0,3,8,60] (k:=A0 ?_)
 refine C2 kr (A1 ?_)
 refine B7 (E':=[⟨0,[],pt b⟩,⟨3,[],pt b1⟩,⟨66,[],.bool true⟩]) [0,0] [0,3,66] (k:=A0 ?_)
 refine E8 kr (A2 ?_)
 refine A4 (j:=2) [0,0] (k:=A5 (ch:=[]) (b:=b1) (off:=1) (v:=.string (bk x.text)) (hA:=At.grp 0 0 rfl rfl) (k:=?_))
 refine H4 Tryz.func91 (json_ (bk x.text) (by rw [C3]; omega) _ _ hW) (J3 rfl (H':=([(b,.cells #[p,v] 87 (0,0))]::g::[(b1,.cells #[.int .i64 4,.string (bk x.text),.slice an x.names.length cn,.slice al x.list.length cl] 28 (0,0))]::H)) (fun w h=>((h.front (j:=2) rfl).front (j:=2) rfl)) ?_)
 refine D8 Tryz.func90 (H0 b (p) (v) g t0 (bk (G6 x.text)) hp hv (by (try simp only [C3]); omega) _ _) ?_
 rintro _ _ ⟨v2,g3,hB4,rfl⟩
 refine B1 (E':=[]) [] [] (k:=B8 ?_)
 refine C1 (H':=([(b,.cells #[pt b,v2] 87 (0,0))]::g3::H)) (fun w h=>(h.erase 2)) (B6 [] [] (k:=?_))
 exact ⟨_,_,(by rw [show t0++bk (prP x)=(t0++(bk (G6 x.text))) from (N5 (by rw [P2 hk6 (by decide)]; rfl)).symm]; exact hB4),rfl⟩
theorem jwrite5_ (x:JV) (an:Option Addr) (cn:Nat) (al:Option Addr) (cl:Nat) (cs:List Value) (S:Nat→Obj→Prop) (_:Rd S an (E7 x.names)) (hrl:Rd S al cs) (hrc:JRdL S x.list cs) (m:Nat) (hk6:x.kind=5) (hrt:rtL m x.list=true) (hno:false=true→x.names.length=x.list.length) (b:Nat) (p v:Value) (g:Grp) (t0:ByteArray) (hp:Bld b p) (hv:O8 v g t0) (hs:t0.size+20 * wtJ x≤10000000000) (hrec:∀ (y:JV),szJ y<szJ x→∀ (m:Nat),rtP m y=true→∀ (an:Option Addr) (cn:Nat) (al:Option Addr) (cl:Nat) (cs:List Value),Rd S an (E7 y.names)→Rd S al cs→JRdL S y.list cs→∀ (b:Nat) (p v:Value) (g:Grp) (t:ByteArray) (_:Bld b p) (_:O8 v g t) (_:t.size+20 * wtJ y≤10000000000) (W0:World) (H:List Grp),(∀ z o,S z o→At W0 H z o)→F2 W0→Tri Tryz.prog 52 #[pt b,.agg (jvC y an cn al cl).toArray] W0 (bldG b p v::g::H) (fun _ H'=>∃ v' g',O8 v' g' (t++bk (prP y))∧H'=bldG b (.pointer (some ⟨b,0,none⟩)) v'::g'::H)) (W0:World) (H:List Grp) (hS:∀ y o,S y o→At W0 H y o) (hW:F2 W0):Tri Tryz.prog 52 #[pt b,.agg #[.int .i64 5,.string (bk x.text),.slice an x.names.length cn,.slice al x.list.length cl]] W0 ([(b,.cells #[p,v] 87 (0,0))]::g::H) (fun _ H'=>∃ v' g',O8 v' g' (t0++bk (prP x))∧H'=bldG b (.pointer (some ⟨b,0,none⟩)) v'::g'::H):=by
 have hxl:=H8 x
 have hcw:=K9 x
 have hxt:x.text.length<wtJ x:=by rw [M7 x]; omega
 have hjl:=K5 x.text
 refine C6 (args:=[pt b,.agg #[.int .i64 5,.string (bk x.text),.slice an x.names.length cn,.slice al x.list.length cl]]) (n:=73) Tryz.func52 rfl rfl (Nat.le_of_ble_eq_true rfl) ?_
 refine A1 (A2 ?_)
 refine G7 (ch:=[]) (v:=.agg #[.int .i64 5,.string (bk x.text),.slice an x.names.length cn,.slice al x.list.length cl]) (k:=(fun b1=>?_))
 refine B1 (E':=[⟨0,[],pt b⟩,⟨3,[],pt b1⟩]) [] [0,3] (k:=A0 ?_)
 refine A1 (A2 ?_)
 refine A4 (j:=1) [0] (k:=A5 (ch:=[]) (b:=b1) (off:=0) (v:=.int .i64 5) (hA:=At.grp 0 0 rfl rfl) (k:=?_))
 refine B0 [] [0,3,8] (k:=A0 ?_)
 refine B9 (A1 ?_)
 refine G_p [0,0] [0,3,8,48] (k:=A0 ?_)
 refine C2 kr (A1 ?_)
 refine G_p [0,0] [0,3,8,52] (k:=A0 ?_)
 refine C2 kr (A1 ?_)
 refine G_p [0,0] [0,3,8,56] (k:=A0 ?_)
 refine C2 kr (A1 ?_)
 refine G_p [0,0] [0,3,8,60] (k:=A0 ?_)
 refine C2 kr (A1 ?_)
 refine B7 (E':=[⟨0,[],pt b⟩,⟨3,[],pt b1⟩,⟨66,[],.bool false⟩]) [0,0] [0,3,66] (k:=A0 ?_)
 refine C2 kr (A1 ?_)
 refine G_p [0] [0,3,4] (k:=A0 ?_)
 refine A1 (A1 ?_)
 refine A2 (A4 (j:=1) [0] (k:=?_))
 refine A5 (ch:=[]) (b:=b1) (off:=0) (v:=.int .i64 5) (hA:=At.grp 0 0 rfl rfl) (k:=B0 [0] [0,3,4,11] (k:=?_))
 refine A0 (C2 kr ?_)
 refine A8 (A0 ?_)
 refine A1 (A2 ?_)
 refine A4 (j:=2) [0,0] (k:=E4 (ch:=[]) (s:=(ByteArray.mk #[91,93])) (kd:=.i64) (j:=0) (hb:=(fun _=>by decide)) (k:=?_))
 refine J3 rfl (H':=([(b,.cells #[p,v] 87 (0,0))]::g::[(b1,.cells #[.int .i64 5,.string (bk x.text),.slice an x.names.length cn,.slice al x.list.length cl] 28 (0,0))]::H)) (fun w h=>((h.front (j:=2) rfl).front (j:=2) rfl)) (D8 Tryz.func92 (J6 b (p) (v) g t0 (Nat.toUInt8 91) hp hv (by (try simp only [F3,C3,sz1,List.length_cons,List.length_nil]); omega) _ _) ?_)
 rintro _ _ ⟨v2,g3,hB4,rfl⟩
 refine B0 [] [0,3,4] (k:=A0 ?_)
 refine A1 (A1 ?_)
 refine A2 (A4 (j:=1) [0] (k:=?_))
 refine A5 (ch:=[]) (b:=b1) (off:=3) (v:=.slice al x.list.length cl) (hA:=At.grp 2 0 rfl rfl) (k:=B0 [0,0] [0,3,4,17,18,19] (k:=?_))
 refine A0 (B9 ?_)
 refine I6 (EI:=(fun ξ:Value × Value × Grp × ByteArray × Nat=>[⟨0,[],pt b⟩,⟨3,[],pt b1⟩,⟨4,[],.string (ByteArray.mk #[91,93])⟩,⟨17,[],.slice al x.list.length cl⟩,⟨18,[],.int .i64 ((x.list.length:Nat):Int)⟩,⟨19,[],.int .i64 ((ξ.2.2.2.2:Nat):Int)⟩])) (HI:=(fun ξ:Value × Value × Grp × ByteArray × Nat=>([(b,.cells #[ξ.1,ξ.2.1] 87 (0,0))]::ξ.2.2.1::[(b1,.cells #[.int .i64 5,.string (bk x.text),.slice an x.names.length cn,.slice al x.list.length cl] 28 (0,0))]::H))) (Φ:=(fun ξ:Value × Value × Grp × ByteArray × Nat=>(Bld b ξ.1)∧(O8 ξ.2.1 ξ.2.2.1 ξ.2.2.2.1)∧(ξ.2.2.2.2≤x.list.length)∧(ξ.2.2.2.1.data.toList=t0.data.toList++(91::prL false true (x.names.take ξ.2.2.2.2) (x.list.take ξ.2.2.2.2))))) (μ:=(fun ξ:Value × Value × Grp × ByteArray × Nat=>x.list.length - ξ.2.2.2.2)) (s0:=(pt b,v2,g3,(t0++⟨#[Nat.toUInt8 91]⟩),0)) [0,3,4,17,18,19] kr rfl ⟨bld1,hB4,(Nat.zero_le _),(by show (t0++_).data.toList=_; rw [D9,List.take_zero,List.take_zero,K8]; rfl)⟩ ?_
 rintro ⟨p,v,g,t,k⟩ ⟨hbp,hB,hk,hT⟩
 dsimp only at hbp hB hk hT
 have hwx:=M7 x
 have hts:t.size≤t0.size+1+10 * (wtN (x.names.take k)+wtL (x.list.take k)):=by
  have h1:=congrArg List.length hT
  have h2:=prL_len false true (x.names.take k) (x.list.take k)
  rw [List.length_append,List.length_cons,E0,E0] at h1
  omega
 refine A1 (G_p [0] [0,3,4,17,18,19,20] (k:=?_))
 refine A0 (A1 ?_)
 refine B2 (b:=decide (((k:Nat):Int)<((x.list.length:Nat):Int))) kr (fun hc5=>?_) (fun hc5=>?_)
 ·
  simp only [decide_eq_true_eq] at hc5
  have hlt:k<x.list.length:=by omega
  obtain ⟨y,yan,ycn,yal,ycl,ycs,hyx,hye,hyn,hyl,hyc⟩:=hrc.get hlt
  have hysz:szJ y<szJ x:=by rw [hyx]; exact szJ_lt hlt
  have hyr:rtP m y=true:=by rw [hyx]; exact rtL_get hrt hlt
  have hyw:wtJ y<wtJ x:=by rw [hyx]; exact wt_sub hlt
  have hpl:=pr_len y
  have hwl:=wtL_step hlt
  rw [← hyx] at hwl
  have hwn:=N6 x.names k
  refine A8 (A0 ?_)
  refine A1 (B9 ?_)
  refine A1 (A2 ?_)
  refine A4 (j:=1) [0] (k:=D0 (ch:=[]) (a:=al) (len:=x.list.length) (cap:=cl) (kd:=.i64) (j:=((k:Nat):Int)) (e:=28) (sz:=4) (S:=S) (cs:=cs) (hrd:=hrl) (hb:=(fun _=>by exact ⟨by omega,by omega,hrc.ne hlt⟩)) (k:=?_))
  refine I7 (ch:=[]) (a:=al) (q:=k * 4) (S:=S) (cs:=cs) (l:=[.int .i64 y.kind,.string (bk y.text),.slice yan y.names.length ycn,.slice yal y.list.length ycl]) (hrd:=hrl) (hS:=(fun y o h=>(At.cons (At.cons (At.cons (hS y o h)))))) (hl:=List.cons_ne_nil _ _) (hv:=(fun _=>(elt4 hye))) (k:=F5 (ch:=[]) (z:=.agg #[.int .i64 0,.string (ByteArray.mk #[]),.slice none 0 0,.slice none 0 0]) (k:=(fun b6=>?_)))
  refine A4 (j:=5) [0] (k:=E9 (ch:=[]) (b:=b6) (off:=0) (v:=.agg #[.int .i64 y.kind,.string (bk y.text),.slice yan y.names.length ycn,.slice yal y.list.length ycl]) (j:=0) ([(b6,.cells #[.int .i64 y.kind,.string (bk y.text),.slice yan y.names.length ycn,.slice yal y.list.length ycl] 28 (0,0))]::[(b,.cells #[p,v] 87 (0,0))]::g::[(b1,.cells #[.int .i64 5,.string (bk x.text),.slice an x.names.length cn,.slice al x.list.length cl] 28 (0,0))]::H) (hoff:=Nat.le_of_ble_eq_true rfl) (hfz:=(fun _ _=>E3)) (k:=?_))
  refine B0 [] [0,3,4,5,6,17,18,19] (k:=A0 ?_)
  refine A1 (A1 ?_)
  refine G_p [0,0] [0,3,4,5,6,17,18,19,25] (k:=A0 ?_)
  refine B2 (b:=decide (((k:Nat):Int) > 0)) kr (fun hc7=>?_) (fun hc7=>?_)
  ·
   simp only [decide_eq_true_eq,gt_iff_lt] at hc7
   have hk0:¬ k=0:=by omega
   refine A2 (A4 (j:=1) [0] (k:=?_))
   refine J3 rfl (H':=([(b,.cells #[p,v] 87 (0,0))]::g::[(b6,.cells #[.int .i64 y.kind,.string (bk y.text),.slice yan y.names.length ycn,.slice yal y.list.length ycl] 28 (0,0))]::[(b1,.cells #[.int .i64 5,.string (bk x.text),.slice an x.names.length cn,.slice al x.list.length cl] 28 (0,0))]::H)) (fun w h=>((h.front (j:=2) rfl).front (j:=2) rfl)) (D8 Tryz.func92 (J6 b (p) (v) g t (Nat.toUInt8 44) hbp hB (by (try simp only [F3,C3,sz1,List.length_cons,List.length_nil]); omega) _ _) ?_)
   rintro _ _ ⟨v8,g9,hB10,rfl⟩
   refine B0 [] [0,3,4,5,6,17,18,19] (k:=A0 ?_)
   refine A1 (A1 ?_)
   refine A2 (A4 (j:=1) [0] (k:=?_))
   refine A5 (ch:=[]) (b:=b1) (off:=0) (v:=.int .i64 5) (hA:=At.grp 3 0 rfl rfl) (k:=B0 [0] [0,3,4,5,6,17,18,19,30] (k:=?_))
   refine A0 (C2 kr ?_)
   refine A8 (A0 ?_)
   refine A2 (A4 (j:=1) [0] (k:=?_))
   refine D3 (ch:=[]) (b:=b6) (off:=0) (l:=[.int .i64 y.kind,.string (bk y.text),.slice yan y.names.length ycn,.slice yal y.list.length ycl]) (hA:=At.grp 2 0 rfl rfl) (k:=D8 (vs:=[pt b,.agg #[.int .i64 y.kind,.string (bk y.text),.slice yan y.names.length ycn,.slice yal y.list.length ycl]]) Tryz.func52 (hrec y hysz m hyr yan ycn yal ycl ycs hyn hyl hyc b (pt b) (v8) g9 (t++⟨#[Nat.toUInt8 44]⟩) bld1 hB10 (by (try simp only [F3,C3,List.length_cons,List.length_nil]); omega) _ _ (fun y o h=>At.cons (At.cons (hS y o h))) hW) ?_)
   rintro _ _ ⟨v11,g12,hB13,rfl⟩
   refine B1 (E':=[⟨0,[],pt b⟩,⟨3,[],pt b1⟩,⟨4,[],.string (ByteArray.mk #[91,93])⟩,⟨17,[],.slice al x.list.length cl⟩,⟨18,[],.int .i64 ((x.list.length:Nat):Int)⟩,⟨19,[],.int .i64 ((k:Nat):Int)⟩]) [] [0,3,4,17,18,19] (k:=B8 ?_)
   refine A0 ?_
   have hw14:IntKind.wrap .i64 (((k:Nat):Int)+1)=((k:Nat):Int)+1:=w64 (by omega) (by omega)
   refine A2 (C0 (E':=[⟨43,[],.int .i64 (((k:Nat):Int)+1)⟩,⟨0,[],pt b⟩,⟨3,[],pt b1⟩,⟨4,[],.string (ByteArray.mk #[91,93])⟩,⟨17,[],.slice al x.list.length cl⟩,⟨18,[],.int .i64 ((x.list.length:Nat):Int)⟩,⟨19,[],.int .i64 ((k:Nat):Int)⟩]) [0] (Eq.trans (b:=some [⟨43,[],.int .i64 (IntKind.wrap .i64 (((k:Nat):Int)+1))⟩,⟨0,[],pt b⟩,⟨3,[],pt b1⟩,⟨4,[],.string (ByteArray.mk #[91,93])⟩,⟨17,[],.slice al x.list.length cl⟩,⟨18,[],.int .i64 ((x.list.length:Nat):Int)⟩,⟨19,[],.int .i64 ((k:Nat):Int)⟩]) kr (by simp only [hw14])) (j:=1) rfl ?_)
   refine C4 (E':=[⟨43,[],.int .i64 ((k+1:Nat):Int)⟩,⟨0,[],pt b⟩,⟨3,[],pt b1⟩,⟨4,[],.string (ByteArray.mk #[91,93])⟩,⟨17,[],.slice al x.list.length cl⟩,⟨18,[],.int .i64 ((x.list.length:Nat):Int)⟩,⟨19,[],.int .i64 ((k:Nat):Int)⟩]) (by rw [show ((k:Nat):Int)+1=((k+1:Nat):Int) by omega]) (B0 [0] [0,3,4,17,18,19] (k:=?_))
   refine C1 (H':=([(b,.cells #[pt b,v11] 87 (0,0))]::g12::[(b1,.cells #[.int .i64 5,.string (bk x.text),.slice an x.names.length cn,.slice al x.list.length cl] 28 (0,0))]::H)) (fun w h=>(h.erase 2)) (E6 (s':=(pt b,v11,g12,((t++⟨#[Nat.toUInt8 44]⟩)++bk (prP y)),k+1)) [0,3,4,17,18,19] kr rfl ⟨bld1,hB13,(by dsimp only; omega),(by dsimp only; rw [pr_round false hlt hyx hno hT]; (first | rw [if_pos hk0] | rw [if_neg hk0]); simp only [D9,List.append_assoc,if_false,Bool.false_eq_true,List.nil_append] <;> rfl)⟩ (by dsimp only; omega))
  ·
   simp only [decide_eq_false_iff_not,gt_iff_lt] at hc7
   have hk0:k=0:=by omega
   refine A8 (A0 ?_)
   refine A1 (A1 ?_)
   refine A2 (A4 (j:=1) [0] (k:=?_))
   refine A5 (ch:=[]) (b:=b1) (off:=0) (v:=.int .i64 5) (hA:=At.grp 3 0 rfl rfl) (k:=B0 [0] [0,3,4,5,6,17,18,19,30] (k:=?_))
   refine A0 (C2 kr ?_)
   refine A8 (A0 ?_)
   refine A2 (A4 (j:=1) [0] (k:=?_))
   refine D3 (ch:=[]) (b:=b6) (off:=0) (l:=[.int .i64 y.kind,.string (bk y.text),.slice yan y.names.length ycn,.slice yal y.list.length ycl]) (hA:=At.grp 0 0 rfl rfl) (k:=J3 rfl (H':=([(b,.cells #[p,v] 87 (0,0))]::g::[(b6,.cells #[.int .i64 y.kind,.string (bk y.text),.slice yan y.names.length ycn,.slice yal y.list.length ycl] 28 (0,0))]::[(b1,.cells #[.int .i64 5,.string (bk x.text),.slice an x.names.length cn,.slice al x.list.length cl] 28 (0,0))]::H)) (fun w h=>((h.front (j:=2) rfl).front (j:=2) rfl)) ?_)
   refine D8 (vs:=[pt b,.agg #[.int .i64 y.kind,.string (bk y.text),.slice yan y.names.length ycn,.slice yal y.list.length ycl]]) Tryz.func52 (hrec y hysz m hyr yan ycn yal ycl ycs hyn hyl hyc b (p) (v) g t hbp hB (by (try simp only [F3,C3,sz1,List.length_cons,List.length_nil]); omega) _ _ (fun y o h=>At.cons (At.cons (hS y o h))) hW) ?_
   rintro _ _ ⟨v15,g16,hB17,rfl⟩
   refine B0 [] [0,3,4,17,18,19] (k:=B8 ?_)
   refine A0 ?_
   have hw18:IntKind.wrap .i64 (((k:Nat):Int)+1)=((k:Nat):Int)+1:=w64 (by omega) (by omega)
   refine A2 (C0 (E':=[⟨43,[],.int .i64 (((k:Nat):Int)+1)⟩,⟨0,[],pt b⟩,⟨3,[],pt b1⟩,⟨4,[],.string (ByteArray.mk #[91,93])⟩,⟨17,[],.slice al x.list.length cl⟩,⟨18,[],.int .i64 ((x.list.length:Nat):Int)⟩,⟨19,[],.int .i64 ((k:Nat):Int)⟩]) [0] (Eq.trans (b:=some [⟨43,[],.int .i64 (IntKind.wrap .i64 (((k:Nat):Int)+1))⟩,⟨0,[],pt b⟩,⟨3,[],pt b1⟩,⟨4,[],.string (ByteArray.mk #[91,93])⟩,⟨17,[],.slice al x.list.length cl⟩,⟨18,[],.int .i64 ((x.list.length:Nat):Int)⟩,⟨19,[],.int .i64 ((k:Nat):Int)⟩]) kr (by simp only [hw18])) (j:=1) rfl ?_)
   refine C4 (E':=[⟨43,[],.int .i64 ((k+1:Nat):Int)⟩,⟨0,[],pt b⟩,⟨3,[],pt b1⟩,⟨4,[],.string (ByteArray.mk #[91,93])⟩,⟨17,[],.slice al x.list.length cl⟩,⟨18,[],.int .i64 ((x.list.length:Nat):Int)⟩,⟨19,[],.int .i64 ((k:Nat):Int)⟩]) (by rw [show ((k:Nat):Int)+1=((k+1:Nat):Int) by omega]) (B1 (E':=[⟨0,[],pt b⟩,⟨3,[],pt b1⟩,⟨4,[],.string (ByteArray.mk #[91,93])⟩,⟨17,[],.slice al x.list.length cl⟩,⟨18,[],.int .i64 ((x.list.length:Nat):Int)⟩,⟨19,[],.int .i64 ((k+1:Nat):Int)⟩]) [0] [0,3,4,17,18,19] (k:=?_))
   refine C1 (H':=([(b,.cells #[pt b,v15] 87 (0,0))]::g16::[(b1,.cells #[.int .i64 5,.string (bk x.text),.slice an x.names.length cn,.slice al x.list.length cl] 28 (0,0))]::H)) (fun w h=>(h.erase 2)) (E6 (s':=(pt b,v15,g16,(t++bk (prP y)),k+1)) [0,3,4,17,18,19] kr rfl ⟨bld1,hB17,(by dsimp only; omega),(by dsimp only; rw [pr_round false hlt hyx hno hT]; (first | rw [if_pos hk0] | rw [if_neg hk0]); simp only [D9,if_false,Bool.false_eq_true,List.nil_append] <;> rfl)⟩ (by dsimp only; omega))
 ·
  simp only [decide_eq_false_iff_not] at hc5
  have hwl:=wtL_take x.list k
  have hwn:=N6 x.names k
  have ha1:x.list.take k=x.list:=List.take_of_length_le (by omega)
  refine G3 (A9 ?_)
  refine A9 (C5 ?_)
  refine A0 (A2 ?_)
  refine A4 (j:=2) [0,0] (k:=E4 (ch:=[]) (s:=(ByteArray.mk #[91,93])) (kd:=.i64) (j:=1) (hb:=(fun _=>by decide)) (k:=?_))
  refine D8 Tryz.func92 (J6 b (p) (v) g t (Nat.toUInt8 93) hbp hB (by (try simp only [F3,C3,sz1,List.length_cons,List.length_nil]); omega) _ _) ?_
  rintro _ _ ⟨v19,g20,hB21,rfl⟩
  refine B1 (E':=[]) [] [] (k:=B8 ?_)
  refine C1 (H':=([(b,.cells #[pt b,v19] 87 (0,0))]::g20::H)) (fun w h=>(h.erase 2)) (B6 [] [] (k:=?_))
  exact ⟨_,_,(by rw [show t0++bk (prP x)=(t++⟨#[Nat.toUInt8 93]⟩) from (N5 (by rw [D9,hT,ha1,prL_any,bko,pr_many false hk6]; rw [prL_any true x.names x.list]; simp only [List.append_assoc,List.cons_append]; rfl)).symm]; exact hB21),rfl⟩
theorem jwrite6_ (x:JV) (an:Option Addr) (cn:Nat) (al:Option Addr) (cl:Nat) (cs:List Value) (S:Nat→Obj→Prop) (hrn:Rd S an (E7 x.names)) (hrl:Rd S al cs) (hrc:JRdL S x.list cs) (m:Nat) (hk6:x.kind=6) (hrt:rtL m x.list=true) (hno:true=true→x.names.length=x.list.length) (b:Nat) (p v:Value) (g:Grp) (t0:ByteArray) (hp:Bld b p) (hv:O8 v g t0) (hs:t0.size+20 * wtJ x≤10000000000) (hrec:∀ (y:JV),szJ y<szJ x→∀ (m:Nat),rtP m y=true→∀ (an:Option Addr) (cn:Nat) (al:Option Addr) (cl:Nat) (cs:List Value),Rd S an (E7 y.names)→Rd S al cs→JRdL S y.list cs→∀ (b:Nat) (p v:Value) (g:Grp) (t:ByteArray) (_:Bld b p) (_:O8 v g t) (_:t.size+20 * wtJ y≤10000000000) (W0:World) (H:List Grp),(∀ z o,S z o→At W0 H z o)→F2 W0→Tri Tryz.prog 52 #[pt b,.agg (jvC y an cn al cl).toArray] W0 (bldG b p v::g::H) (fun _ H'=>∃ v' g',O8 v' g' (t++bk (prP y))∧H'=bldG b (.pointer (some ⟨b,0,none⟩)) v'::g'::H)) (W0:World) (H:List Grp) (hS:∀ y o,S y o→At W0 H y o) (hW:F2 W0):Tri Tryz.prog 52 #[pt b,.agg #[.int .i64 6,.string (bk x.text),.slice an x.names.length cn,.slice al x.list.length cl]] W0 ([(b,.cells #[p,v] 87 (0,0))]::g::H) (fun _ H'=>∃ v' g',O8 v' g' (t0++bk (prP x))∧H'=bldG b (.pointer (some ⟨b,0,none⟩)) v'::g'::H):=by
 have hxl:=H8 x
 have hcw:=K9 x
 have hxt:x.text.length<wtJ x:=by rw [M7 x]; omega
 have hjl:=K5 x.text
 refine C6 (args:=[pt b,.agg #[.int .i64 6,.string (bk x.text),.slice an x.names.length cn,.slice al x.list.length cl]]) (n:=73) Tryz.func52 rfl rfl (Nat.le_of_ble_eq_true rfl) ?_
 refine A1 (A2 ?_)
 refine G7 (ch:=[]) (v:=.agg #[.int .i64 6,.string (bk x.text),.slice an x.names.length cn,.slice al x.list.length cl]) (k:=(fun b1=>?_))
 refine B1 (E':=[⟨0,[],pt b⟩,⟨3,[],pt b1⟩]) [] [0,3] (k:=A0 ?_)
 refine A1 (A2 ?_)
 refine A4 (j:=1) [0] (k:=A5 (ch:=[]) (b:=b1) (off:=0) (v:=.int .i64 6) (hA:=At.grp 0 0 rfl rfl) (k:=?_))
 refine B0 [] [0,3,8] (k:=A0 ?_)
 refine B9 (A1 ?_)
 refine G_p [0,0] [0,3,8,48] (k:=A0 ?_)
 refine C2 kr (A1 ?_)
 refine G_p [0,0] [0,3,8,52] (k:=A0 ?_)
 refine C2 kr (A1 ?_)
 refine G_p [0,0] [0,3,8,56] (k:=A0 ?_)
 refine C2 kr (A1 ?_)
 refine G_p [0,0] [0,3,8,60] (k:=A0 ?_)
 refine C2 kr (A1 ?_)
 refine B7 (E':=[⟨0,[],pt b⟩,⟨3,[],pt b1⟩,⟨66,[],.bool false⟩]) [0,0] [0,3,66] (k:=A0 ?_)
 refine C2 kr (A1 ?_)
 refine G_p [0] [0,3,4] (k:=A0 ?_)
 refine A1 (A1 ?_)
 refine A2 (A4 (j:=1) [0] (k:=?_))
 refine A5 (ch:=[]) (b:=b1) (off:=0) (v:=.int .i64 6) (hA:=At.grp 0 0 rfl rfl) (k:=B0 [0] [0,3,4,11] (k:=?_))
 refine A0 (E8 kr ?_)
 refine G_p [0] [0,3,4] (k:=A0 ?_)
 refine A1 (A2 ?_)
 refine A4 (j:=2) [0,0] (k:=E4 (ch:=[]) (s:=(ByteArray.mk #[123,125])) (kd:=.i64) (j:=0) (hb:=(fun _=>by decide)) (k:=?_))
 refine J3 rfl (H':=([(b,.cells #[p,v] 87 (0,0))]::g::[(b1,.cells #[.int .i64 6,.string (bk x.text),.slice an x.names.length cn,.slice al x.list.length cl] 28 (0,0))]::H)) (fun w h=>((h.front (j:=2) rfl).front (j:=2) rfl)) (D8 Tryz.func92 (J6 b (p) (v) g t0 (Nat.toUInt8 123) hp hv (by (try simp only [F3,C3,sz1,List.length_cons,List.length_nil]); omega) _ _) ?_)
 rintro _ _ ⟨v2,g3,hB4,rfl⟩
 refine B0 [] [0,3,4] (k:=A0 ?_)
 refine A1 (A1 ?_)
 refine A2 (A4 (j:=1) [0] (k:=?_))
 refine A5 (ch:=[]) (b:=b1) (off:=3) (v:=.slice al x.list.length cl) (hA:=At.grp 2 0 rfl rfl) (k:=B0 [0,0] [0,3,4,17,18,19] (k:=?_))
 refine A0 (B9 ?_)
 refine I6 (EI:=(fun ξ:Value × Value × Grp × ByteArray × Nat=>[⟨0,[],pt b⟩,⟨3,[],pt b1⟩,⟨4,[],.string (ByteArray.mk #[123,125])⟩,⟨17,[],.slice al x.list.length cl⟩,⟨18,[],.int .i64 ((x.list.length:Nat):Int)⟩,⟨19,[],.int .i64 ((ξ.2.2.2.2:Nat):Int)⟩])) (HI:=(fun ξ:Value × Value × Grp × ByteArray × Nat=>([(b,.cells #[ξ.1,ξ.2.1] 87 (0,0))]::ξ.2.2.1::[(b1,.cells #[.int .i64 6,.string (bk x.text),.slice an x.names.length cn,.slice al x.list.length cl] 28 (0,0))]::H))) (Φ:=(fun ξ:Value × Value × Grp × ByteArray × Nat=>(Bld b ξ.1)∧(O8 ξ.2.1 ξ.2.2.1 ξ.2.2.2.1)∧(ξ.2.2.2.2≤x.list.length)∧(ξ.2.2.2.1.data.toList=t0.data.toList++(123::prL true true (x.names.take ξ.2.2.2.2) (x.list.take ξ.2.2.2.2))))) (μ:=(fun ξ:Value × Value × Grp × ByteArray × Nat=>x.list.length - ξ.2.2.2.2)) (s0:=(pt b,v2,g3,(t0++⟨#[Nat.toUInt8 123]⟩),0)) [0,3,4,17,18,19] kr rfl ⟨bld1,hB4,(Nat.zero_le _),(by show (t0++_).data.toList=_; rw [D9,List.take_zero,List.take_zero,K8]; rfl)⟩ ?_
 rintro ⟨p,v,g,t,k⟩ ⟨hbp,hB,hk,hT⟩
 dsimp only at hbp hB hk hT
 have hwx:=M7 x
 have hts:t.size≤t0.size+1+10 * (wtN (x.names.take k)+wtL (x.list.take k)):=by
  have h1:=congrArg List.length hT
  have h2:=prL_len true true (x.names.take k) (x.list.take k)
  rw [List.length_append,List.length_cons,E0,E0] at h1
  omega
 refine A1 (G_p [0] [0,3,4,17,18,19,20] (k:=?_))
 refine A0 (A1 ?_)
 refine B2 (b:=decide (((k:Nat):Int)<((x.list.length:Nat):Int))) kr (fun hc5=>?_) (fun hc5=>?_)
 ·
  simp only [decide_eq_true_eq] at hc5
  have hlt:k<x.list.length:=by omega
  obtain ⟨y,yan,ycn,yal,ycl,ycs,hyx,hye,hyn,hyl,hyc⟩:=hrc.get hlt
  have hysz:szJ y<szJ x:=by rw [hyx]; exact szJ_lt hlt
  have hyr:rtP m y=true:=by rw [hyx]; exact rtL_get hrt hlt
  have hyw:wtJ y<wtJ x:=by rw [hyx]; exact wt_sub hlt
  have hpl:=pr_len y
  have hwl:=wtL_step hlt
  rw [← hyx] at hwl
  have hwn:=N6 x.names k
  have hnl:k<x.names.length:=by have:=hno rfl; omega
  obtain ⟨nm,hnm⟩:∃ nm,nm=x.names[k]'hnl:=⟨_,rfl⟩
  have hnw:nm.length<wtJ x:=by rw [hnm]; exact wt_name hnl
  have hjn:=K5 nm
  have hwn2:=wtN_step hnl
  rw [← hnm] at hwn2
  refine A8 (A0 ?_)
  refine A1 (B9 ?_)
  refine A1 (A2 ?_)
  refine A4 (j:=1) [0] (k:=D0 (ch:=[]) (a:=al) (len:=x.list.length) (cap:=cl) (kd:=.i64) (j:=((k:Nat):Int)) (e:=28) (sz:=4) (S:=S) (cs:=cs) (hrd:=hrl) (hb:=(fun _=>by exact ⟨by omega,by omega,hrc.ne hlt⟩)) (k:=?_))
  refine I7 (ch:=[]) (a:=al) (q:=k * 4) (S:=S) (cs:=cs) (l:=[.int .i64 y.kind,.string (bk y.text),.slice yan y.names.length ycn,.slice yal y.list.length ycl]) (hrd:=hrl) (hS:=(fun y o h=>(At.cons (At.cons (At.cons (hS y o h)))))) (hl:=List.cons_ne_nil _ _) (hv:=(fun _=>(elt4 hye))) (k:=F5 (ch:=[]) (z:=.agg #[.int .i64 0,.string (ByteArray.mk #[]),.slice none 0 0,.slice none 0 0]) (k:=(fun b6=>?_)))
  refine A4 (j:=5) [0] (k:=E9 (ch:=[]) (b:=b6) (off:=0) (v:=.agg #[.int .i64 y.kind,.string (bk y.text),.slice yan y.names.length ycn,.slice yal y.list.length ycl]) (j:=0) ([(b6,.cells #[.int .i64 y.kind,.string (bk y.text),.slice yan y.names.length ycn,.slice yal y.list.length ycl] 28 (0,0))]::[(b,.cells #[p,v] 87 (0,0))]::g::[(b1,.cells #[.int .i64 6,.string (bk x.text),.slice an x.names.length cn,.slice al x.list.length cl] 28 (0,0))]::H) (hoff:=Nat.le_of_ble_eq_true rfl) (hfz:=(fun _ _=>E3)) (k:=?_))
  refine B0 [] [0,3,4,5,6,17,18,19] (k:=A0 ?_)
  refine A1 (A1 ?_)
  refine G_p [0,0] [0,3,4,5,6,17,18,19,25] (k:=A0 ?_)
  refine B2 (b:=decide (((k:Nat):Int) > 0)) kr (fun hc7=>?_) (fun hc7=>?_)
  ·
   simp only [decide_eq_true_eq,gt_iff_lt] at hc7
   have hk0:¬ k=0:=by omega
   refine A2 (A4 (j:=1) [0] (k:=?_))
   refine J3 rfl (H':=([(b,.cells #[p,v] 87 (0,0))]::g::[(b6,.cells #[.int .i64 y.kind,.string (bk y.text),.slice yan y.names.length ycn,.slice yal y.list.length ycl] 28 (0,0))]::[(b1,.cells #[.int .i64 6,.string (bk x.text),.slice an x.names.length cn,.slice al x.list.length cl] 28 (0,0))]::H)) (fun w h=>((h.front (j:=2) rfl).front (j:=2) rfl)) (D8 Tryz.func92 (J6 b (p) (v) g t (Nat.toUInt8 44) hbp hB (by (try simp only [F3,C3,sz1,List.length_cons,List.length_nil]); omega) _ _) ?_)
   rintro _ _ ⟨v8,g9,hB10,rfl⟩
   refine B0 [] [0,3,4,5,6,17,18,19] (k:=A0 ?_)
   refine A1 (A1 ?_)
   refine A2 (A4 (j:=1) [0] (k:=?_))
   refine A5 (ch:=[]) (b:=b1) (off:=0) (v:=.int .i64 6) (hA:=At.grp 3 0 rfl rfl) (k:=B0 [0] [0,3,4,5,6,17,18,19,30] (k:=?_))
   refine A0 (E8 kr ?_)
   refine A2 (A4 (j:=2) [0,0] (k:=?_))
   refine A5 (ch:=[]) (b:=b1) (off:=2) (v:=.slice an x.names.length cn) (hA:=At.grp 3 0 rfl rfl) (k:=A4 (j:=4) [0] (k:=?_))
   refine D0 (ch:=[]) (a:=an) (len:=x.names.length) (cap:=cn) (kd:=.i64) (j:=((k:Nat):Int)) (e:=9) (sz:=1) (S:=S) (cs:=(E7 x.names)) (hrd:=hrn) (hb:=(fun _=>by exact ⟨by omega,by omega,I4 hnl⟩)) (k:=I1 (ch:=[]) (a:=an) (q:=k * 1) (S:=S) (cs:=(E7 x.names)) (v:=.string (bk nm)) (hrd:=hrn) (hS:=(fun y o h=>(At.cons (At.cons (At.cons (At.cons (hS y o h))))))) (hv:=(fun _=>(L7 hnl hnm))) (k:=?_))
   refine H4 Tryz.func91 (json_ (bk nm) (by rw [C3]; omega) _ _ hW) (E5 (ch:=[]) (s:=(bk (G6 nm))) (u:=(ByteArray.mk #[58])) (hb:=(by intro _; rw [C3]; show _+1≤_; omega)) (k:=?_))
   refine D8 Tryz.func90 (H0 b (pt b) (v8) g9 (t++⟨#[Nat.toUInt8 44]⟩) ((bk (G6 nm))++(ByteArray.mk #[58])) bld1 hB10 (by (try simp only [F3,C3,List.length_cons,List.length_nil]); omega) _ _) ?_
   rintro _ _ ⟨v11,g12,hB13,rfl⟩
   refine B1 (E':=[⟨0,[],pt b⟩,⟨3,[],pt b1⟩,⟨4,[],.string (ByteArray.mk #[123,125])⟩,⟨6,[],pt b6⟩,⟨17,[],.slice al x.list.length cl⟩,⟨18,[],.int .i64 ((x.list.length:Nat):Int)⟩,⟨19,[],.int .i64 ((k:Nat):Int)⟩]) [] [0,3,4,6,17,18,19] (k:=A0 ?_)
   refine A2 (A4 (j:=1) [0] (k:=?_))
   refine D3 (ch:=[]) (b:=b6) (off:=0) (l:=[.int .i64 y.kind,.string (bk y.text),.slice yan y.names.length ycn,.slice yal y.list.length ycl]) (hA:=At.grp 2 0 rfl rfl) (k:=D8 (vs:=[pt b,.agg #[.int .i64 y.kind,.string (bk y.text),.slice yan y.names.length ycn,.slice yal y.list.length ycl]]) Tryz.func52 (hrec y hysz m hyr yan ycn yal ycl ycs hyn hyl hyc b (pt b) (v11) g12 ((t++⟨#[Nat.toUInt8 44]⟩)++((bk (G6 nm))++(ByteArray.mk #[58]))) bld1 hB13 (by (try simp only [F3,C3,List.length_cons,List.length_nil]); omega) _ _ (fun y o h=>At.cons (At.cons (hS y o h))) hW) ?_)
   rintro _ _ ⟨v14,g15,hB16,rfl⟩
   refine B0 [] [0,3,4,17,18,19] (k:=B8 ?_)
   refine A0 ?_
   have hw17:IntKind.wrap .i64 (((k:Nat):Int)+1)=((k:Nat):Int)+1:=w64 (by omega) (by omega)
   refine A2 (C0 (E':=[⟨43,[],.int .i64 (((k:Nat):Int)+1)⟩,⟨0,[],pt b⟩,⟨3,[],pt b1⟩,⟨4,[],.string (ByteArray.mk #[123,125])⟩,⟨17,[],.slice al x.list.length cl⟩,⟨18,[],.int .i64 ((x.list.length:Nat):Int)⟩,⟨19,[],.int .i64 ((k:Nat):Int)⟩]) [0] (Eq.trans (b:=some [⟨43,[],.int .i64 (IntKind.wrap .i64 (((k:Nat):Int)+1))⟩,⟨0,[],pt b⟩,⟨3,[],pt b1⟩,⟨4,[],.string (ByteArray.mk #[123,125])⟩,⟨17,[],.slice al x.list.length cl⟩,⟨18,[],.int .i64 ((x.list.length:Nat):Int)⟩,⟨19,[],.int .i64 ((k:Nat):Int)⟩]) kr (by simp only [hw17])) (j:=1) rfl ?_)
   refine C4 (E':=[⟨43,[],.int .i64 ((k+1:Nat):Int)⟩,⟨0,[],pt b⟩,⟨3,[],pt b1⟩,⟨4,[],.string (ByteArray.mk #[123,125])⟩,⟨17,[],.slice al x.list.length cl⟩,⟨18,[],.int .i64 ((x.list.length:Nat):Int)⟩,⟨19,[],.int .i64 ((k:Nat):Int)⟩]) (by rw [show ((k:Nat):Int)+1=((k+1:Nat):Int) by omega]) (B0 [0] [0,3,4,17,18,19] (k:=?_))
   refine C1 (H':=([(b,.cells #[pt b,v14] 87 (0,0))]::g15::[(b1,.cells #[.int .i64 6,.string (bk x.text),.slice an x.names.length cn,.slice al x.list.length cl] 28 (0,0))]::H)) (fun w h=>(h.erase 2)) (E6 (s':=(pt b,v14,g15,(((t++⟨#[Nat.toUInt8 44]⟩)++((bk (G6 nm))++(ByteArray.mk #[58])))++bk (prP y)),k+1)) [0,3,4,17,18,19] kr rfl ⟨bld1,hB16,(by dsimp only; omega),(by dsimp only; rw [pr_round true hlt hyx hno hT]; (first | rw [if_pos hk0] | rw [if_neg hk0]); rw [name_get hnl,← hnm]; simp only [D9,List.append_assoc,if_true] <;> rfl)⟩ (by dsimp only; omega))
  ·
   simp only [decide_eq_false_iff_not,gt_iff_lt] at hc7
   have hk0:k=0:=by omega
   refine A8 (A0 ?_)
   refine A1 (A1 ?_)
   refine A2 (A4 (j:=1) [0] (k:=?_))
   refine A5 (ch:=[]) (b:=b1) (off:=0) (v:=.int .i64 6) (hA:=At.grp 3 0 rfl rfl) (k:=B0 [0] [0,3,4,5,6,17,18,19,30] (k:=?_))
   refine A0 (E8 kr ?_)
   refine A2 (A4 (j:=2) [0,0] (k:=?_))
   refine A5 (ch:=[]) (b:=b1) (off:=2) (v:=.slice an x.names.length cn) (hA:=At.grp 3 0 rfl rfl) (k:=A4 (j:=4) [0] (k:=?_))
   refine D0 (ch:=[]) (a:=an) (len:=x.names.length) (cap:=cn) (kd:=.i64) (j:=((k:Nat):Int)) (e:=9) (sz:=1) (S:=S) (cs:=(E7 x.names)) (hrd:=hrn) (hb:=(fun _=>by exact ⟨by omega,by omega,I4 hnl⟩)) (k:=I1 (ch:=[]) (a:=an) (q:=k * 1) (S:=S) (cs:=(E7 x.names)) (v:=.string (bk nm)) (hrd:=hrn) (hS:=(fun y o h=>(At.cons (At.cons (At.cons (At.cons (hS y o h))))))) (hv:=(fun _=>(L7 hnl hnm))) (k:=?_))
   refine H4 Tryz.func91 (json_ (bk nm) (by rw [C3]; omega) _ _ hW) (E5 (ch:=[]) (s:=(bk (G6 nm))) (u:=(ByteArray.mk #[58])) (hb:=(by intro _; rw [C3]; show _+1≤_; omega)) (k:=?_))
   refine J3 rfl (H':=([(b,.cells #[p,v] 87 (0,0))]::g::[(b6,.cells #[.int .i64 y.kind,.string (bk y.text),.slice yan y.names.length ycn,.slice yal y.list.length ycl] 28 (0,0))]::[(b1,.cells #[.int .i64 6,.string (bk x.text),.slice an x.names.length cn,.slice al x.list.length cl] 28 (0,0))]::H)) (fun w h=>((h.front (j:=2) rfl).front (j:=2) rfl)) (D8 Tryz.func90 (H0 b (p) (v) g t ((bk (G6 nm))++(ByteArray.mk #[58])) hbp hB (by (try simp only [F3,C3,List.length_cons,List.length_nil]); omega) _ _) ?_)
   rintro _ _ ⟨v18,g19,hB20,rfl⟩
   refine B0 [] [0,3,4,6,17,18,19] (k:=A0 ?_)
   refine A2 (A4 (j:=1) [0] (k:=?_))
   refine D3 (ch:=[]) (b:=b6) (off:=0) (l:=[.int .i64 y.kind,.string (bk y.text),.slice yan y.names.length ycn,.slice yal y.list.length ycl]) (hA:=At.grp 2 0 rfl rfl) (k:=D8 (vs:=[pt b,.agg #[.int .i64 y.kind,.string (bk y.text),.slice yan y.names.length ycn,.slice yal y.list.length ycl]]) Tryz.func52 (hrec y hysz m hyr yan ycn yal ycl ycs hyn hyl hyc b (pt b) (v18) g19 (t++((bk (G6 nm))++(ByteArray.mk #[58]))) bld1 hB20 (by (try simp only [F3,C3,List.length_cons,List.length_nil]); omega) _ _ (fun y o h=>At.cons (At.cons (hS y o h))) hW) ?_)
   rintro _ _ ⟨v21,g22,hB23,rfl⟩
   refine B1 (E':=[⟨0,[],pt b⟩,⟨3,[],pt b1⟩,⟨4,[],.string (ByteArray.mk #[123,125])⟩,⟨17,[],.slice al x.list.length cl⟩,⟨18,[],.int .i64 ((x.list.length:Nat):Int)⟩,⟨19,[],.int .i64 ((k:Nat):Int)⟩]) [] [0,3,4,17,18,19] (k:=B8 ?_)
   refine A0 ?_
   have hw24:IntKind.wrap .i64 (((k:Nat):Int)+1)=((k:Nat):Int)+1:=w64 (by omega) (by omega)
   refine A2 (C0 (E':=[⟨43,[],.int .i64 (((k:Nat):Int)+1)⟩,⟨0,[],pt b⟩,⟨3,[],pt b1⟩,⟨4,[],.string (ByteArray.mk #[123,125])⟩,⟨17,[],.slice al x.list.length cl⟩,⟨18,[],.int .i64 ((x.list.length:Nat):Int)⟩,⟨19,[],.int .i64 ((k:Nat):Int)⟩]) [0] (Eq.trans (b:=some [⟨43,[],.int .i64 (IntKind.wrap .i64 (((k:Nat):Int)+1))⟩,⟨0,[],pt b⟩,⟨3,[],pt b1⟩,⟨4,[],.string (ByteArray.mk #[123,125])⟩,⟨17,[],.slice al x.list.length cl⟩,⟨18,[],.int .i64 ((x.list.length:Nat):Int)⟩,⟨19,[],.int .i64 ((k:Nat):Int)⟩]) kr (by simp only [hw24])) (j:=1) rfl ?_)
   refine C4 (E':=[⟨43,[],.int .i64 ((k+1:Nat):Int)⟩,⟨0,[],pt b⟩,⟨3,[],pt b1⟩,⟨4,[],.string (ByteArray.mk #[123,125])⟩,⟨17,[],.slice al x.list.length cl⟩,⟨18,[],.int .i64 ((x.list.length:Nat):Int)⟩,⟨19,[],.int .i64 ((k:Nat):Int)⟩]) (by rw [show ((k:Nat):Int)+1=((k+1:Nat):Int) by omega]) (B0 [0] [0,3,4,17,18,19] (k:=?_))
   refine C1 (H':=([(b,.cells #[pt b,v21] 87 (0,0))]::g22::[(b1,.cells #[.int .i64 6,.string (bk x.text),.slice an x.names.length cn,.slice al x.list.length cl] 28 (0,0))]::H)) (fun w h=>(h.erase 2)) (E6 (s':=(pt b,v21,g22,((t++((bk (G6 nm))++(ByteArray.mk #[58])))++bk (prP y)),k+1)) [0,3,4,17,18,19] kr rfl ⟨bld1,hB23,(by dsimp only; omega),(by dsimp only; rw [pr_round true hlt hyx hno hT]; (first | rw [if_pos hk0] | rw [if_neg hk0]); rw [name_get hnl,← hnm]; simp only [D9,List.append_assoc,if_true,List.nil_append] <;> rfl)⟩ (by dsimp only; omega))
 ·
  simp only [decide_eq_false_iff_not] at hc5
  have hwl:=wtL_take x.list k
  have hwn:=N6 x.names k
  have ha1:x.list.take k=x.list:=List.take_of_length_le (by omega)
  have ha2:x.names.take k=x.names:=List.take_of_length_le (by have:=hno rfl; omega)
  refine G3 (A9 ?_)
  refine A9 (C5 ?_)
  refine A0 (A2 ?_)
  refine A4 (j:=2) [0,0] (k:=E4 (ch:=[]) (s:=(ByteArray.mk #[123,125])) (kd:=.i64) (j:=1) (hb:=(fun _=>by decide)) (k:=?_))
  refine D8 Tryz.func92 (J6 b (p) (v) g t (Nat.toUInt8 125) hbp hB (by (try simp only [F3,C3,sz1,List.length_cons,List.length_nil]); omega) _ _) ?_
  rintro _ _ ⟨v25,g26,hB27,rfl⟩
  refine B1 (E':=[]) [] [] (k:=B8 ?_)
  refine C1 (H':=([(b,.cells #[pt b,v25] 87 (0,0))]::g26::H)) (fun w h=>(h.erase 2)) (B6 [] [] (k:=?_))
  exact ⟨_,_,(by rw [show t0++bk (prP x)=(t++⟨#[Nat.toUInt8 125]⟩) from (N5 (by rw [D9,hT,ha1,ha2,bko,pr_many true hk6]; simp only [List.append_assoc,List.cons_append]; rfl)).symm]; exact hB27),rfl⟩
end Go.Proofs.YtppgfiklmfoaeaaGreatDoor
namespace Go.Proofs.YtppgfiklmfoaeaaGreatDoor
open Go.Sw Go.Sha Go.Esc Go.RowKit Go.Json
theorem I9 {x:JV} {k:Int} (h:x.kind=k) (an:Option Addr) (cn:Nat) (al:Option Addr) (cl:Nat):jvC x an cn al cl=[.int .i64 k,.string (bk x.text),.slice an x.names.length cn,.slice al x.list.length cl]:=by unfold jvC; rw [h]
theorem jwrite_:∀ (n:Nat) (x:JV),szJ x≤n→∀ (m:Nat),rtP m x=true→∀ (an:Option Addr) (cn:Nat) (al:Option Addr) (cl:Nat) (cs:List Value) (S:Nat→Obj→Prop),Rd S an (E7 x.names)→Rd S al cs→JRdL S x.list cs→∀ (b:Nat) (p v:Value) (g:Grp) (t:ByteArray) (_:Bld b p) (_:O8 v g t) (_:t.size+20 * wtJ x≤10000000000) (W0:World) (H:List Grp),(∀ z o,S z o→At W0 H z o)→F2 W0→Tri Tryz.prog 52 #[pt b,.agg (jvC x an cn al cl).toArray] W0 (bldG b p v::g::H) (fun _ H'=>∃ v' g',O8 v' g' (t++bk (prP x))∧H'=bldG b (.pointer (some ⟨b,0,none⟩)) v'::g'::H)
  | 0,x,h,_,_,_,_,_,_,_,_,_,_,_,_,_,_,_,_,_,_,_,_,_,_,_=>absurd (szJ_pos x) (by omega)
  | n+1,x,hz,m,hr,an,cn,al,cl,cs,S,h1,h2,h3,b,p,v,g,t,hp,hv,hs,W0,H,hS,hW=>by
    obtain ⟨hB,hn6,hm⟩:=rt_kind hr
    have hr0:=hB.rng
    have hrec:=fun (y:JV) (hy:szJ y<szJ x) (m:Nat) (hm:rtP m y=true) (an:Option Addr) (cn:Nat) (al:Option Addr) (cl:Nat) (cs:List Value) (h1:Rd S an (E7 y.names)) (h2:Rd S al cs) (h3:JRdL S y.list cs)=>jwrite_ n y (by omega) m hm an cn al cl cs S h1 h2 h3
    rcases (show x.kind=0∨x.kind=1∨x.kind=2∨x.kind=3∨x.kind=4∨x.kind=5∨x.kind=6 by omega) with h | h | h | h | h | h | h
    · rw [I9 h an cn al cl]; exact jwrite0_ x an cn al cl cs S h1 h2 h3 m h b p v g t hp hv hs W0 H hS hW
    · rw [I9 h an cn al cl]; exact jwrite1_ x an cn al cl cs S h1 h2 h3 m h b p v g t hp hv hs W0 H hS hW
    · rw [I9 h an cn al cl]; exact jwrite2_ x an cn al cl cs S h1 h2 h3 m h b p v g t hp hv hs W0 H hS hW
    · rw [I9 h an cn al cl]; exact jwrite3_ x an cn al cl cs S h1 h2 h3 m h b p v g t hp hv hs W0 H hS hW
    · rw [I9 h an cn al cl]; exact jwrite4_ x an cn al cl cs S h1 h2 h3 m h b p v g t hp hv hs W0 H hS hW
    · obtain ⟨k,_,hk⟩:=hm (.inl h)
      rw [I9 h an cn al cl]; exact jwrite5_ x an cn al cl cs S h1 h2 h3 k h hk (fun h=>by cases h) b p v g t hp hv hs hrec W0 H hS hW
    · obtain ⟨k,_,hk⟩:=hm (.inr h)
      rw [I9 h an cn al cl]; exact jwrite6_ x an cn al cl cs S h1 h2 h3 k h hk (fun _=>hn6 h) b p v g t hp hv hs hrec W0 H hS hW
theorem jprint_ (x:JV) (an:Option Addr) (cn:Nat) (al:Option Addr) (cl:Nat) (cs:List Value) (S:Nat→Obj→Prop) (hrn:Rd S an (E7 x.names)) (hrl:Rd S al cs) (hrc:JRdL S x.list cs) (hw:wtJ x≤100000000) (W0:World) (H:List Grp) (hS:∀ y o,S y o→At W0 H y o) (hW:F2 W0):Tri Tryz.prog 22 #[.agg #[.int .i64 x.kind,.string (bk x.text),.slice an x.names.length cn,.slice al x.list.length cl]] W0 H (fun v H'=>v=(if rtP 24 x then .tuple #[.string (bk (prP x)),.int .i64 0] else .tuple #[.string (ByteArray.mk #[]),.int .i64 2])∧H'=H):=by
 have hpl:=pr_len x
 refine C6 (args:=[.agg #[.int .i64 x.kind,.string (bk x.text),.slice an x.names.length cn,.slice al x.list.length cl]]) (n:=11) Tryz.func22 rfl rfl (Nat.le_of_ble_eq_true rfl) ?_
 refine A1 (A2 ?_)
 refine G7 (ch:=[]) (v:=.agg #[.int .i64 x.kind,.string (bk x.text),.slice an x.names.length cn,.slice al x.list.length cl]) (k:=(fun b1=>?_))
 refine B1 (E':=[⟨1,[],pt b1⟩]) [0,0] [1] (k:=A0 ?_)
 refine A1 (A1 ?_)
 refine A2 (D3 (ch:=[]) (b:=b1) (off:=0) (l:=[.int .i64 x.kind,.string (bk x.text),.slice an x.names.length cn,.slice al x.list.length cl]) (hA:=At.grp 0 0 rfl rfl) (k:=?_))
 refine H4 (vs:=[.agg #[.int .i64 x.kind,.string (bk x.text),.slice an x.names.length cn,.slice al x.list.length cl],.int .i64 0]) Tryz.func51 (jright_ (szJ x) x (Nat.le_refl _) (by omega) 24 (Nat.le_refl _) 0 (by decide) an cn al cl cs S hrn hrl hrc _ _ (fun y o h=>At.cons (hS y o h)) hW) (B0 [0] [1,7] (k:=?_))
 refine A0 (B2 (b:=!(rtP 24 x)) kr (fun hc2=>?_) (fun hc2=>?_))
 ·
  have hr:rtP 24 x=false:=by simpa using hc2
  refine A1 (G_p [0,0] [2,3] (k:=?_))
  refine A0 (B5 ?_)
  refine A3 (C1 (H':=H) (fun w h=>(h.erase 0)) ?_)
  refine B6 [.tmp 2,.tmp 3] [.string (ByteArray.mk #[]),.int .i64 2] (k:=?_)
  exact ⟨by rw [hr]; rfl,rfl⟩
 ·
  have hr:rtP 24 x=true:=by simpa using hc2
  refine A8 (A0 ?_)
  refine A1 (A2 ?_)
  refine F5 (ch:=[]) (z:=.agg #[.pointer none,.slice none 0 0]) (k:=(fun b3=>?_))
  refine J3 rfl (H':=([(b3,.cells #[.pointer none,.slice none 0 0] 87 (0,0))]::[]::[(b1,.cells #[.int .i64 x.kind,.string (bk x.text),.slice an x.names.length cn,.slice al x.list.length cl] 28 (0,0))]::H)) (fun w h=>h.flat (List.Perm.refl _)) (B1 (E':=[⟨1,[],pt b1⟩,⟨4,[],pt b3⟩]) [] [1,4] (k:=?_))
  refine A0 (A1 ?_)
  refine A2 (D3 (ch:=[]) (b:=b1) (off:=0) (l:=[.int .i64 x.kind,.string (bk x.text),.slice an x.names.length cn,.slice al x.list.length cl]) (hA:=At.grp 2 0 rfl rfl) (k:=?_))
  refine D8 (vs:=[pt b3,.agg #[.int .i64 x.kind,.string (bk x.text),.slice an x.names.length cn,.slice al x.list.length cl]]) Tryz.func52 (jwrite_ (szJ x) x (Nat.le_refl _) 24 hr an cn al cl cs S hrn hrl hrc b3 (.pointer none) (.slice none 0 0) [] .empty bld0 bown0 (by show 0+_≤_; omega) _ _ (fun y o h=>At.cons (hS y o h)) hW) ?_
  rintro _ _ ⟨v4,g5,hB6,rfl⟩
  refine B1 (E':=[⟨4,[],pt b3⟩]) [] [4] (k:=A0 ?_)
  refine A1 (A2 ?_)
  refine D8 (vs:=[pt b3]) Tryz.func53 (Q9 b3 (pt b3) (v4) g5 (.empty++bk (prP x)) hB6 (by (try simp only [F3,C3]); show 0+_≤_; omega) _ _) ?_
  rintro _ _ ⟨rfl,rfl⟩
  refine B0 [0,0] [2,3] (k:=A0 ?_)
  refine B5 (C1 (H':=H) (fun w h=>((h.erase 1).erase 0)) ?_)
  refine B6 [.tmp 2,.tmp 3] [.string (.empty++bk (prP x)),.int .i64 0] (k:=?_)
  exact ⟨by rw [hr]; exact congrArg (fun t=>Value.tuple #[.string t,.int .i64 0]) (N5 (D9 _ _)),rfl⟩
end Go.Proofs.YtppgfiklmfoaeaaGreatDoor
namespace Go.Json
open Go.Lib Go.Esc Go.Sw
section
variable {val : List UInt8 → PR} {obj : Bool} {ns ns2 : List (List UInt8)} {vs : List JV} {l l2 l3 l4 : List UInt8} {v : JV} {e : Int} {c : UInt8}
end
section
variable {l : List UInt8} (c1 : ¬ l.take 4 = [110, 117, 108, 108]) (c2 : ¬ l.take 5 = [102, 97, 108, 115, 101]) (c3 : ¬ l.take 4 = [116, 114, 117, 101])
include c1 c2 c3
end
theorem drop_none {l:List UInt8} {i:Nat} (h:l.length≤i):l.getD i 0=0:=by rw [List.getD_eq_getElem?_getD,List.getElem?_eq_none h]; rfl
end Go.Json
namespace Go.Esc
open Go.Lib Go.Sw
def rdP (l:List UInt8):Int × Nat:=if badL l then (-1,1) else (((decodeL l).1:Int),(decodeL l).2)
theorem M3 {l:List UInt8} (h:decodeN l.length (l.getD 0 0).toNat (l.getD 1 0).toNat (l.getD 2 0).toNat (l.getD 3 0).toNat=(65533,1)):rdP l=(-1,1):=by
  have e:decodeL l=(65533,1):=by rw [decodeL_N,h]
  unfold rdP; rw [if_pos (show badL l by unfold badL; rw [e]; exact ⟨rfl,rfl⟩)]
theorem rdP_ok {l:List UInt8} {p m:Nat} (h:decodeN l.length (l.getD 0 0).toNat (l.getD 1 0).toNat (l.getD 2 0).toNat (l.getD 3 0).toNat=(p,m)) (hb:p≠65533∨m≠1):rdP l=((p:Int),m):=by
  have e:decodeL l=(p,m):=by rw [decodeL_N,h]
  unfold rdP; rw [if_neg (show ¬ badL l by unfold badL; rw [e]; dsimp only; omega),e]
def bt (s:ByteArray) (k:Nat):Nat:=(s.data.toList.getD k 0).toNat
theorem bt_eq (s:ByteArray) (k:Nat):A7 s (k:Int)=(bt s k:Int):=J2 s k
theorem M4 {n b0 b1 b2 b3:Nat} (h:¬ b0<128∧¬ (194≤b0∧b0<224∧1<n∧b1 / 64=2)∧¬ (224≤b0∧b0<240∧2<n∧b1 / 64=2∧b2 / 64=2∧2048≤b0 % 16 * 4096+b1 % 64 * 64+b2 % 64∧(b0 % 16 * 4096+b1 % 64 * 64+b2 % 64<55296∨57344≤b0 % 16 * 4096+b1 % 64 * 64+b2 % 64)) ∧
    ¬ (240≤b0∧b0<245∧3<n∧b1 / 64=2∧b2 / 64=2∧b3 / 64=2∧65536≤b0 % 8 * 262144+b1 % 64 * 4096+b2 % 64 * 64+b3 % 64∧b0 % 8 * 262144+b1 % 64 * 4096+b2 % 64 * 64+b3 % 64≤1114111)):decodeN n b0 b1 b2 b3=(65533,1):=by
  obtain ⟨h1,h2,h3,h4⟩:=h
  rcases decodeN_shape n b0 b1 b2 b3 with ⟨c,e⟩ | ⟨c1,c2,c3,cv,e⟩ | ⟨c1,c2,c3,c4,cv,cs,e⟩ | ⟨c1,c2,c3,c4,c5,cv,cw,e⟩ | e
  · exact absurd c h1
  · exact absurd ⟨by omega,by omega,c2,c3⟩ h2
  · exact absurd ⟨by omega,by omega,c2,c3,c4,cv,cs⟩ h3
  · exact absurd ⟨by omega,by omega,c2,c3,c4,c5,cv,cw⟩ h4
  · exact e
theorem dec1 {n b0 b1 b2 b3:Nat} (h:b0<128):decodeN n b0 b1 b2 b3=(b0,1):=by unfold decodeN; rw [if_pos h]
theorem dec2 {n b0 b1 b2 b3:Nat} (h:194≤b0∧b0<224∧1<n∧b1 / 64=2):decodeN n b0 b1 b2 b3=(b0 % 32 * 64+b1 % 64,2):=by
  unfold decodeN; rw [if_neg (by omega),if_pos ⟨by omega,by omega,by omega⟩,if_pos (by omega)]
theorem dec3 {n b0 b1 b2 b3:Nat} (h:224≤b0∧b0<240∧2<n∧b1 / 64=2∧b2 / 64=2∧2048≤b0 % 16 * 4096+b1 % 64 * 64+b2 % 64∧(b0 % 16 * 4096+b1 % 64 * 64+b2 % 64<55296∨57344≤b0 % 16 * 4096+b1 % 64 * 64+b2 % 64)):decodeN n b0 b1 b2 b3=(b0 % 16 * 4096+b1 % 64 * 64+b2 % 64,3):=by
  unfold decodeN; rw [if_neg (by omega),if_neg (by omega),if_pos (by omega),if_pos (by omega)]
theorem dec4 {n b0 b1 b2 b3:Nat} (h:240≤b0∧b0<245∧3<n∧b1 / 64=2∧b2 / 64=2∧b3 / 64=2∧65536≤b0 % 8 * 262144+b1 % 64 * 4096+b2 % 64 * 64+b3 % 64∧b0 % 8 * 262144+b1 % 64 * 4096+b2 % 64 * 64+b3 % 64≤1114111):decodeN n b0 b1 b2 b3=(b0 % 8 * 262144+b1 % 64 * 4096+b2 % 64 * 64+b3 % 64,4):=by
  unfold decodeN; rw [if_neg (by omega),if_neg (by omega),if_neg (by omega),if_pos (by omega),if_pos (by omega)]
theorem rdP_step (l:List UInt8) (hne:l≠[]):pts l=(rdP l).1::pts (l.drop (rdP l).2):=by
  rw [pts_step l hne]
  unfold rdP
  split
  · rename_i h; rw [h.2]
  · rfl
theorem rdP_w (l:List UInt8) (hne:l≠[]):1≤(rdP l).2∧(rdP l).2≤l.length∧-1≤(rdP l).1∧(rdP l).1≤1114111:=by
  have h1:=decodeL_width l
  have h2:=decodeL_le l hne
  have h3:=decodeL_rune l
  have h4:=List.length_pos_iff.2 hne
  unfold rdP; split <;> dsimp only <;> omega
def intV (ps:List Int):List Value:=ps.map (Value.int .i64)
theorem iv_len (ps:List Int):(intV ps).length=ps.length:=List.length_map _
theorem iv_app (a b:List Int):intV (a++b)=intV a++intV b:=List.map_append
theorem iv_at {ps:List Int} {k:Nat} (h:k<ps.length):(intV ps)[k]? = some (.int .i64 (ps.getD k 0)):=by
  unfold intV; rw [List.getElem?_map,List.getElem?_eq_getElem h]; simp [List.getD,h]
theorem getDI_get (l:List Int) {j:Nat} (h:j<l.length):l.getD j 0=l[j]:=by simp [List.getD,h]
theorem takeI (l:List Int) {k:Nat} (h:k<l.length):l.take (k+1)=l.take k++[l.getD k 0]:=by
  rw [List.take_succ_eq_append_getElem h,getDI_get _ h]
theorem memI {l:List Int} {k:Nat} (h:k<l.length):l.getD k 0∈l:=by rw [getDI_get _ h]; exact List.getElem_mem _
theorem iv_ne {ps:List Int} {k:Nat} (h:k<ps.length):intV ps≠[]:=by
  intro h0; have:=congrArg List.length h0; rw [iv_len,List.length_nil] at this; omega
theorem pts_len (l:List UInt8):(pts l).length≤l.length:=by
  have:=runes_len l
  rw [runes_pts,List.length_map] at this; exact this
theorem own_castS {et:TypeId} {sz:Nat} {a:Option Addr} {c:Nat} {g:Grp} {n n':Nat} {cs cs':List Value} (h:Sw.Own et sz (.slice a n c) g n cs) (hn:n=n') (hc:cs=cs'):Sw.Own et sz (.slice a n' c) g n' cs':=hn ▸ hc ▸ h
theorem dropR_ne {s:ByteArray} {q:Nat} (h:q<s.size):s.data.toList.drop q≠[]:=by
  intro h0; have:=congrArg List.length h0; rw [List.length_drop,E0,List.length_nil] at this; omega
theorem sz_dropR (s:ByteArray) (k:Nat):(s.extract k s.size).size=s.size - k:=by rw [ByteArray.size_extract,Nat.min_self]
theorem pts_next {s:ByteArray} {i:Nat} (h:i<s.size):pts (s.data.toList.drop i)=(rdP (s.extract i s.size).data.toList).1::pts (s.data.toList.drop (i+(rdP (s.extract i s.size).data.toList).2)):=by
  rw [L9,rdP_step _ (dropR_ne h),List.drop_drop]
end Go.Esc
namespace Go.Esc
open Go.Lib Go.Sw
theorem O4 {f:Int→List UInt8} {l:List Int} {k:Nat} (h:k<l.length):(l.take (k+1)).flatMap f=(l.take k).flatMap f++f (l.getD k 0):=by
  rw [takeI _ h,List.flatMap_append]; congr 1; simp
theorem ext_one {s:ByteArray} {k:Nat} (h:k<s.size):(s.extract k (k+1)).data.toList=[s.data.toList.getD k 0]:=by
  rw [ext_list,J4 _ (by rw [E0]; exact h),show k+1 - k=1 by omega]; rfl
def digL:ByteArray:=ByteArray.mk #[48,49,50,51,52,53,54,55,56,57,97,98,99,100,101,102]
theorem digL_at:∀ n:Fin 16,digL.data.toList.getD n.val 0=hexl n.val:=by decide +kernel
theorem extL {a b:Int} (h0:0≤a) (h1:a<16) (hb:b=a+1):((ByteArray.mk #[48,49,50,51,52,53,54,55,56,57,97,98,99,100,101,102]).extract (Int.toNat a) (Int.toNat b)).data.toList=[hexl a.toNat]:=by
  subst hb
  rw [show Int.toNat (a+1)=a.toNat+1 by omega,ext_one (show a.toNat<16 by omega)]
  exact congrArg (fun x=>[x]) (digL_at ⟨a.toNat,by omega⟩)
theorem sizeL {a b:Int} (h0:0≤a) (h1:a<16) (hb:b=a+1):((ByteArray.mk #[48,49,50,51,52,53,54,55,56,57,97,98,99,100,101,102]).extract (Int.toNat a) (Int.toNat b)).size=1:=by
  rw [← E0,extL h0 h1 hb]; rfl
theorem hex4_doc {p:Int} (h:0≤p):hex4 p.toNat=[hexl (p / 4096 % 16).toNat,hexl (p / 256 % 16).toNat,hexl (p / 16 % 16).toNat,hexl (p / 1 % 16).toNat]:=by
  unfold hex4
  rw [show p.toNat / 4096 % 16=(p / 4096 % 16).toNat by omega,show p.toNat / 256 % 16=(p / 256 % 16).toNat by omega,show p.toNat / 16 % 16=(p / 16 % 16).toNat by omega,show p.toNat % 16=(p / 1 % 16).toNat by omega]
theorem fd12 (x:Int):Int.fdiv x (2 ^ 12)=x / 4096:=by rw [Int.fdiv_eq_ediv_of_nonneg _ (by decide)]; rfl
theorem fd8 (x:Int):Int.fdiv x (2 ^ 8)=x / 256:=by rw [Int.fdiv_eq_ediv_of_nonneg _ (by decide)]; rfl
theorem fd4 (x:Int):Int.fdiv x (2 ^ 4)=x / 16:=by rw [Int.fdiv_eq_ediv_of_nonneg _ (by decide)]; rfl
theorem fd0 (x:Int):Int.fdiv x (2 ^ 0)=x / 1:=by rw [Int.fdiv_eq_ediv_of_nonneg _ (by decide)]; rfl
end Go.Esc
namespace Go.Proofs.YtppgfiklmfoaeaaGreatDoor
open Go.Sw Go.Sha Go.Esc Go.RowKit
theorem w8i {x:Int} (h0:0≤x) (h1:x<256):IntKind.wrap .u8 x=x:=by rw [w8m]; omega
theorem is_ (n:Int) (W0:World) (H:List Grp):Tri Tryz.prog 161 #[.int .i64 n] W0 H (fun v H'=>v=.bool (isB n)∧H'=H):=by
 refine C6 (args:=[.int .i64 n]) (n:=17) Tryz.func161 rfl rfl (Nat.le_of_ble_eq_true rfl) ?_
 refine A1 (B7 (E':=[⟨0,[],.int .i64 n⟩]) [0] [0] (k:=?_))
 refine A0 (A1 ?_)
 refine G_p [0,0,0,0,0,6,0,0,0,0,0,0,5,6,0] [2] (k:=A0 ?_)
 refine B5 (B6 [.tmp 2] [.bool (((decide (n ≥ 0))&&(decide (n≤1114111)))&&((decide (n<55296))||(decide (n > 57343))))] (k:=?_))
 exact ⟨by unfold isB; rfl,rfl⟩
theorem read_ (s:ByteArray) (h0:0<s.size) (hs:s.size≤1000000000000) (W0:World) (H:List Grp):Tri Tryz.prog 139 #[.string s] W0 H (fun v H'=>v=.tuple #[.int .i64 (rdP s.data.toList).1,.int .i64 ((rdP s.data.toList).2:Int)]∧H'=H):=by
 have e0:=bt_eq s 0
 have e1:=bt_eq s 1
 have e2:=bt_eq s 2
 have e3:=bt_eq s 3
 have g0:bt s 0<256:=UInt8.toNat_lt _
 have g1:bt s 1<256:=UInt8.toNat_lt _
 have g2:bt s 2<256:=UInt8.toNat_lt _
 have g3:bt s 3<256:=UInt8.toNat_lt _
 have hl:=E0 s
 simp only [Int.cast_ofNat_Int] at e0 e1 e2 e3
 refine C6 (args:=[.string s]) (n:=77) Tryz.func139 rfl rfl (Nat.le_of_ble_eq_true rfl) ?_
 refine A1 (B7 (E':=[⟨0,[],.string s⟩]) [0,0] [0] (k:=?_))
 refine A0 (A1 ?_)
 refine A2 (A4 (j:=1) [0] (k:=?_))
 refine E4 (ch:=[]) (s:=s) (kd:=.i64) (j:=0) (hb:=(fun _=>by omega)) (k:=?_)
 have hb1:=D4 s 0
 refine A4 (j:=3) [0] (k:=D5 11 (A7 s 0) (by omega) (by omega) kr ?_)
 refine B0 [0] [0,4] (k:=A0 ?_)
 refine A1 (G_p [0,0] [0,4] (k:=?_))
 refine A0 (A1 ?_)
 refine B9 (A1 ?_)
 refine G_p [0,0,0] [0,4,12] (k:=A0 ?_)
 refine B2 (b:=decide ((A7 s 0)<128)) kr (fun hc3=>?_) (fun hc3=>?_)
 ·
  simp only [decide_eq_true_eq] at hc3
  refine A1 (G_p [0,0,0] [2,3] (k:=?_))
  refine A0 (B5 ?_)
  refine B4 (A3 ?_)
  refine B6 [.tmp 2,.tmp 3] [.int .i64 (A7 s 0),.int .i64 1] (k:=?_)
  exact ⟨by rw [rdP_ok (l:=s.data.toList) (dec1 (b0:=bt s 0) (b1:=bt s 1) (b2:=bt s 2) (b3:=bt s 3) (by (try rw [hl]); omega)) (by omega)]; exact congrArg (fun x=>Value.tuple #[.int .i64 x,.int .i64 1]) (by omega),rfl⟩
 ·
  simp only [decide_eq_false_iff_not] at hc3
  refine A1 (G_p [0,0,0,0,0,6,0] [0,4,16] (k:=?_))
  refine A0 (B2 (b:=(decide ((A7 s 0) ≥ 194))&&(decide ((A7 s 0)<224))) kr (fun hc4=>?_) (fun hc4=>?_))
  ·
   simp only [Bool.and_eq_true,decide_eq_true_eq,ge_iff_le] at hc4
   refine A2 (A4 (j:=2) [0,0] (k:=?_))
   refine D5 24 ((A7 s 0) - 192) (by omega) (by omega) kr (B0 [0,0,0] [0,4,5,6] (k:=?_))
   refine B8 (A0 ?_)
   refine A1 (A1 ?_)
   refine B7 (E':=[⟨0,[],.string s⟩,⟨4,[],.int .i64 ((A7 s 0) - 192)⟩,⟨5,[],.int .i64 2⟩,⟨6,[],.int .i64 128⟩,⟨46,[],.bool (decide ((s.size:Int)<2))⟩]) [0,0,0,0] [0,4,5,6,46] (k:=A0 ?_)
   refine B2 (b:=decide ((s.size:Int)<2)) kr (fun hc6=>?_) (fun hc6=>?_)
   ·
    simp only [decide_eq_true_eq] at hc6
    refine A1 (G_p [0,0] [2,3] (k:=?_))
    refine A0 (B5 ?_)
    refine A3 (B6 [.tmp 2,.tmp 3] [.int .i64 (-1),.int .i64 1] (k:=?_))
    exact ⟨by rw [M3 (l:=s.data.toList) (M4 (b0:=bt s 0) (b1:=bt s 1) (b2:=bt s 2) (b3:=bt s 3) (by rw [hl]; omega))]; rfl,rfl⟩
   ·
    simp only [decide_eq_false_iff_not] at hc6
    refine A8 (A0 ?_)
    refine A1 (A1 ?_)
    refine G_p [0] [0,4,5,6,7] (k:=A0 ?_)
    refine B9 (G_rounds 4 ?_)
    refine I2 (A1 ?_)
    refine A1 (G_p [0,0,0] [0,4,5,6,7,49] (k:=?_))
    refine A0 (E8 kr ?_)
    refine A8 (A0 ?_)
    refine A1 (B9 ?_)
    refine A1 (A2 ?_)
    refine A4 (j:=2) [0,0] (k:=E4 (ch:=[]) (s:=s) (kd:=.i64) (j:=1) (hb:=(fun _=>by omega)) (k:=?_))
    have hb7:=D4 s 1
    refine A4 (j:=4) [0] (k:=D5 55 (A7 s 1) (by omega) (by omega) kr ?_)
    refine B0 [0] [0,4,5,6,7,8] (k:=A0 ?_)
    refine A1 (A1 ?_)
    refine G_p [0,0,0,0,0,5] [0,4,5,6,7,8,61] (k:=A0 ?_)
    refine B2 (b:=(decide ((A7 s 1)<128))||(decide ((A7 s 1) ≥ 192))) kr (fun hc9=>?_) (fun hc9=>?_)
    ·
     simp only [Bool.or_eq_true,decide_eq_true_eq,ge_iff_le] at hc9
     refine A1 (G_p [0,0] [2,3] (k:=?_))
     refine A0 (B5 ?_)
     refine A3 (B4 ?_)
     refine A3 (A3 ?_)
     refine B4 (A3 ?_)
     refine B6 [.tmp 2,.tmp 3] [.int .i64 (-1),.int .i64 1] (k:=?_)
     exact ⟨by rw [M3 (l:=s.data.toList) (M4 (b0:=bt s 0) (b1:=bt s 1) (b2:=bt s 2) (b3:=bt s 3) (by rw [hl]; omega))]; rfl,rfl⟩
    ·
     simp only [Bool.or_eq_false_iff,decide_eq_false_iff_not,ge_iff_le] at hc9
     refine A8 (A0 ?_)
     refine A2 (A4 (j:=2) [0,0] (k:=?_))
     refine D5 63 (64 * ((A7 s 0) - 192)) (by omega) (by omega) kr (A4 (j:=4) [0,0] (k:=?_))
     refine D5 65 ((64 * ((A7 s 0) - 192))+(A7 s 1)) (by omega) (by omega) kr (A4 (j:=5) [0] (k:=?_))
     refine D5 66 (((64 * ((A7 s 0) - 192))+(A7 s 1)) - 128) (by omega) (by omega) kr (B0 [0] [0,4,5,6,7] (k:=?_))
     refine B8 (A0 ?_)
     refine B7 (E':=[⟨0,[],.string s⟩,⟨4,[],.int .i64 (((64 * ((A7 s 0) - 192))+(A7 s 1)) - 128)⟩,⟨5,[],.int .i64 2⟩,⟨6,[],.int .i64 128⟩,⟨7,[],.int .i64 2⟩]) [0,0,0] [0,4,5,6,7] (k:=N_rd ?_)
     refine I2 (A1 ?_)
     refine A1 (G_p [0,0,0] [0,4,5,6,7,49] (k:=?_))
     refine A0 (C2 kr ?_)
     refine G3 (A9 ?_)
     refine A9 (C5 ?_)
     refine A0 (A1 ?_)
     refine A1 (A2 ?_)
     refine A4 (j:=5) [0,0,0,0,0] (k:=F7 (ch:=[(70,false)]) (f:=161) (fst:=#[]) (caps:=#[]) (vs:=[.int .i64 (((64 * ((A7 s 0) - 192))+(A7 s 1)) - 128)]) (v:=.bool (isB (((64 * ((A7 s 0) - 192))+(A7 s 1)) - 128))) (hf:=Tryz.func161) (hc:=(fun hc=>is_ (((64 * ((A7 s 0) - 192))+(A7 s 1)) - 128) _ _)) (k:=?_))
     refine B0 [0,5] [4,5,74] (k:=A0 ?_)
     refine B2 (b:=(decide ((((64 * ((A7 s 0) - 192))+(A7 s 1)) - 128)<128))||(!(isB (((64 * ((A7 s 0) - 192))+(A7 s 1)) - 128)))) kr (fun hc13=>?_) (fun hc13=>?_)
     ·
      simp only [Bool.or_eq_true,Bool.not_eq_true',decide_eq_true_eq,F4,isR] at hc13
      refine A1 (G_p [0,0] [2,3] (k:=?_))
      refine A0 (B5 ?_)
      refine A3 (B6 [.tmp 2,.tmp 3] [.int .i64 (-1),.int .i64 1] (k:=?_))
      exact ⟨by rw [M3 (l:=s.data.toList) (M4 (b0:=bt s 0) (b1:=bt s 1) (b2:=bt s 2) (b3:=bt s 3) (by rw [hl]; omega))]; rfl,rfl⟩
     ·
      simp only [Bool.or_eq_false_iff,Bool.not_eq_false',decide_eq_false_iff_not,G1,isR] at hc13
      refine A8 (A0 ?_)
      refine A1 (G_p [0,0,0,0] [2,3] (k:=?_))
      refine A0 (B5 ?_)
      refine B6 [.tmp 2,.tmp 3] [.int .i64 (((64 * ((A7 s 0) - 192))+(A7 s 1)) - 128),.int .i64 2] (k:=?_)
      exact ⟨by rw [rdP_ok (l:=s.data.toList) (dec2 (b0:=bt s 0) (b1:=bt s 1) (b2:=bt s 2) (b3:=bt s 3) (by (try rw [hl]); omega)) (by omega)]; exact congrArg (fun x=>Value.tuple #[.int .i64 x,.int .i64 2]) (by omega),rfl⟩
  ·
   simp only [Bool.and_eq_false_iff,decide_eq_false_iff_not,ge_iff_le] at hc4
   refine A1 (G_p [0,0,0,0,0,6,0] [0,4,25] (k:=?_))
   refine A0 (B2 (b:=(decide ((A7 s 0) ≥ 224))&&(decide ((A7 s 0)<240))) kr (fun hc14=>?_) (fun hc14=>?_))
   ·
    simp only [Bool.and_eq_true,decide_eq_true_eq,ge_iff_le] at hc14
    refine A2 (A4 (j:=2) [0,0] (k:=?_))
    refine D5 33 ((A7 s 0) - 224) (by omega) (by omega) kr (B1 (E':=[⟨0,[],.string s⟩,⟨4,[],.int .i64 ((A7 s 0) - 224)⟩,⟨5,[],.int .i64 3⟩,⟨6,[],.int .i64 2048⟩]) [0,0,0] [0,4,5,6] (k:=?_))
    refine B8 (A0 ?_)
    refine A1 (A1 ?_)
    refine G_p [0,0,0,0] [0,4,5,6,46] (k:=A0 ?_)
    refine B2 (b:=decide ((s.size:Int)<3)) kr (fun hc16=>?_) (fun hc16=>?_)
    ·
     simp only [decide_eq_true_eq] at hc16
     refine A1 (G_p [0,0] [2,3] (k:=?_))
     refine A0 (B5 ?_)
     refine A3 (B6 [.tmp 2,.tmp 3] [.int .i64 (-1),.int .i64 1] (k:=?_))
     exact ⟨by rw [M3 (l:=s.data.toList) (M4 (b0:=bt s 0) (b1:=bt s 1) (b2:=bt s 2) (b3:=bt s 3) (by rw [hl]; omega))]; rfl,rfl⟩
    ·
     simp only [decide_eq_false_iff_not] at hc16
     refine A8 (A0 ?_)
     refine A1 (A1 ?_)
     refine G_p [0] [0,4,5,6,7] (k:=A0 ?_)
     refine B9 (G_rounds 4 ?_)
     refine I2 (A1 ?_)
     refine A1 (G_p [0,0,0] [0,4,5,6,7,49] (k:=?_))
     refine A0 (E8 kr ?_)
     refine A8 (A0 ?_)
     refine A1 (B9 ?_)
     refine A1 (A2 ?_)
     refine A4 (j:=2) [0,0] (k:=E4 (ch:=[]) (s:=s) (kd:=.i64) (j:=1) (hb:=(fun _=>by omega)) (k:=?_))
     have hb17:=D4 s 1
     refine A4 (j:=4) [0] (k:=D5 55 (A7 s 1) (by omega) (by omega) kr ?_)
     refine B0 [0] [0,4,5,6,7,8] (k:=A0 ?_)
     refine A1 (A1 ?_)
     refine G_p [0,0,0,0,0,5] [0,4,5,6,7,8,61] (k:=A0 ?_)
     refine B2 (b:=(decide ((A7 s 1)<128))||(decide ((A7 s 1) ≥ 192))) kr (fun hc19=>?_) (fun hc19=>?_)
     ·
      simp only [Bool.or_eq_true,decide_eq_true_eq,ge_iff_le] at hc19
      refine A1 (B7 (E':=[⟨2,[],.int .i64 (-1)⟩,⟨3,[],.int .i64 1⟩]) [0,0] [2,3] (k:=?_))
      refine A0 (B5 ?_)
      refine A3 (B4 ?_)
      refine A3 (A3 ?_)
      refine B4 (A3 ?_)
      refine B6 [.tmp 2,.tmp 3] [.int .i64 (-1),.int .i64 1] (k:=?_)
      exact ⟨by rw [M3 (l:=s.data.toList) (M4 (b0:=bt s 0) (b1:=bt s 1) (b2:=bt s 2) (b3:=bt s 3) (by rw [hl]; omega))]; rfl,rfl⟩
     ·
      simp only [Bool.or_eq_false_iff,decide_eq_false_iff_not,ge_iff_le] at hc19
      refine A8 (A0 ?_)
      refine A2 (A4 (j:=2) [0,0] (k:=?_))
      refine D5 63 (64 * ((A7 s 0) - 224)) (by omega) (by omega) kr (A4 (j:=4) [0,0] (k:=?_))
      refine D5 65 ((64 * ((A7 s 0) - 224))+(A7 s 1)) (by omega) (by omega) kr (A4 (j:=5) [0] (k:=?_))
      refine D5 66 (((64 * ((A7 s 0) - 224))+(A7 s 1)) - 128) (by omega) (by omega) kr (B1 (E':=[⟨0,[],.string s⟩,⟨4,[],.int .i64 (((64 * ((A7 s 0) - 224))+(A7 s 1)) - 128)⟩,⟨5,[],.int .i64 3⟩,⟨6,[],.int .i64 2048⟩,⟨7,[],.int .i64 1⟩]) [0] [0,4,5,6,7] (k:=?_))
      refine B8 (A0 ?_)
      refine G_p [0,0,0] [0,4,5,6,7] (k:=N_rd ?_)
      refine I2 (A1 ?_)
      refine A1 (G_p [0,0,0] [0,4,5,6,7,49] (k:=?_))
      refine A0 (E8 kr ?_)
      refine A8 (A0 ?_)
      refine A1 (B9 ?_)
      refine A1 (A2 ?_)
      refine A4 (j:=2) [0,0] (k:=E4 (ch:=[]) (s:=s) (kd:=.i64) (j:=2) (hb:=(fun _=>by omega)) (k:=?_))
      have hb23:=D4 s 2
      refine A4 (j:=4) [0] (k:=D5 55 (A7 s 2) (by omega) (by omega) kr ?_)
      refine B0 [0] [0,4,5,6,7,8] (k:=A0 ?_)
      refine A1 (A1 ?_)
      refine G_p [0,0,0,0,0,5] [0,4,5,6,7,8,61] (k:=A0 ?_)
      refine B2 (b:=(decide ((A7 s 2)<128))||(decide ((A7 s 2) ≥ 192))) kr (fun hc25=>?_) (fun hc25=>?_)
      ·
       simp only [Bool.or_eq_true,decide_eq_true_eq,ge_iff_le] at hc25
       refine A1 (G_p [0,0] [2,3] (k:=?_))
       refine A0 (B5 ?_)
       refine A3 (B4 ?_)
       refine A3 (A3 ?_)
       refine B4 (A3 ?_)
       refine B6 [.tmp 2,.tmp 3] [.int .i64 (-1),.int .i64 1] (k:=?_)
       exact ⟨by rw [M3 (l:=s.data.toList) (M4 (b0:=bt s 0) (b1:=bt s 1) (b2:=bt s 2) (b3:=bt s 3) (by rw [hl]; omega))]; rfl,rfl⟩
      ·
       simp only [Bool.or_eq_false_iff,decide_eq_false_iff_not,ge_iff_le] at hc25
       refine A8 (A0 ?_)
       refine A2 (A4 (j:=2) [0,0] (k:=?_))
       refine D5 63 (64 * (((64 * ((A7 s 0) - 224))+(A7 s 1)) - 128)) (by omega) (by omega) kr (A4 (j:=4) [0,0] (k:=?_))
       refine D5 65 ((64 * (((64 * ((A7 s 0) - 224))+(A7 s 1)) - 128))+(A7 s 2)) (by omega) (by omega) kr (A4 (j:=5) [0] (k:=?_))
       refine D5 66 (((64 * (((64 * ((A7 s 0) - 224))+(A7 s 1)) - 128))+(A7 s 2)) - 128) (by omega) (by omega) kr (B0 [0] [0,4,5,6,7] (k:=?_))
       refine B8 (A0 ?_)
       refine B7 (E':=[⟨0,[],.string s⟩,⟨4,[],.int .i64 (((64 * (((64 * ((A7 s 0) - 224))+(A7 s 1)) - 128))+(A7 s 2)) - 128)⟩,⟨5,[],.int .i64 3⟩,⟨6,[],.int .i64 2048⟩,⟨7,[],.int .i64 3⟩]) [0,0,0] [0,4,5,6,7] (k:=N_rd ?_)
       refine I2 (A1 ?_)
       refine A1 (G_p [0,0,0] [0,4,5,6,7,49] (k:=?_))
       refine A0 (C2 kr ?_)
       refine G3 (A9 ?_)
       refine A9 (C5 ?_)
       refine A0 (A1 ?_)
       refine A1 (A2 ?_)
       refine A4 (j:=5) [0,0,0,0,0] (k:=F7 (ch:=[(70,false)]) (f:=161) (fst:=#[]) (caps:=#[]) (vs:=[.int .i64 (((64 * (((64 * ((A7 s 0) - 224))+(A7 s 1)) - 128))+(A7 s 2)) - 128)]) (v:=.bool (isB (((64 * (((64 * ((A7 s 0) - 224))+(A7 s 1)) - 128))+(A7 s 2)) - 128))) (hf:=Tryz.func161) (hc:=(fun hc=>is_ (((64 * (((64 * ((A7 s 0) - 224))+(A7 s 1)) - 128))+(A7 s 2)) - 128) _ _)) (k:=?_))
       refine B0 [0,5] [4,5,74] (k:=A0 ?_)
       refine B2 (b:=(decide ((((64 * (((64 * ((A7 s 0) - 224))+(A7 s 1)) - 128))+(A7 s 2)) - 128)<2048))||(!(isB (((64 * (((64 * ((A7 s 0) - 224))+(A7 s 1)) - 128))+(A7 s 2)) - 128)))) kr (fun hc29=>?_) (fun hc29=>?_)
       ·
        simp only [Bool.or_eq_true,Bool.not_eq_true',decide_eq_true_eq,F4,isR] at hc29
        refine A1 (G_p [0,0] [2,3] (k:=?_))
        refine A0 (B5 ?_)
        refine A3 (B6 [.tmp 2,.tmp 3] [.int .i64 (-1),.int .i64 1] (k:=?_))
        exact ⟨by rw [M3 (l:=s.data.toList) (M4 (b0:=bt s 0) (b1:=bt s 1) (b2:=bt s 2) (b3:=bt s 3) (by rw [hl]; omega))]; rfl,rfl⟩
       ·
        simp only [Bool.or_eq_false_iff,Bool.not_eq_false',decide_eq_false_iff_not,G1,isR] at hc29
        refine A8 (A0 ?_)
        refine A1 (G_p [0,0,0,0] [2,3] (k:=?_))
        refine A0 (B5 ?_)
        refine B6 [.tmp 2,.tmp 3] [.int .i64 (((64 * (((64 * ((A7 s 0) - 224))+(A7 s 1)) - 128))+(A7 s 2)) - 128),.int .i64 3] (k:=?_)
        exact ⟨by rw [rdP_ok (l:=s.data.toList) (dec3 (b0:=bt s 0) (b1:=bt s 1) (b2:=bt s 2) (b3:=bt s 3) (by (try rw [hl]); omega)) (by omega)]; exact congrArg (fun x=>Value.tuple #[.int .i64 x,.int .i64 3]) (by omega),rfl⟩
   ·
    simp only [Bool.and_eq_false_iff,decide_eq_false_iff_not,ge_iff_le] at hc14
    refine A1 (B7 (E':=[⟨0,[],.string s⟩,⟨4,[],.int .i64 (A7 s 0)⟩,⟨34,[],.bool ((decide ((A7 s 0) ≥ 240))&&(decide ((A7 s 0)<245)))⟩]) [0,0,0,0,0,6,0] [0,4,34] (k:=?_))
    refine A0 (B2 (b:=(decide ((A7 s 0) ≥ 240))&&(decide ((A7 s 0)<245))) kr (fun hc30=>?_) (fun hc30=>?_))
    ·
     simp only [Bool.and_eq_true,decide_eq_true_eq,ge_iff_le] at hc30
     refine A2 (A4 (j:=2) [0,0] (k:=?_))
     refine D5 42 ((A7 s 0) - 240) (by omega) (by omega) kr (B0 [0,0,0] [0,4,5,6] (k:=?_))
     refine B8 (A0 ?_)
     refine A1 (A1 ?_)
     refine G_p [0,0,0,0] [0,4,5,6,46] (k:=A0 ?_)
     refine B2 (b:=decide ((s.size:Int)<4)) kr (fun hc32=>?_) (fun hc32=>?_)
     ·
      simp only [decide_eq_true_eq] at hc32
      refine A1 (G_p [0,0] [2,3] (k:=?_))
      refine A0 (B5 ?_)
      refine A3 (B6 [.tmp 2,.tmp 3] [.int .i64 (-1),.int .i64 1] (k:=?_))
      exact ⟨by rw [M3 (l:=s.data.toList) (M4 (b0:=bt s 0) (b1:=bt s 1) (b2:=bt s 2) (b3:=bt s 3) (by rw [hl]; omega))]; rfl,rfl⟩
     ·
      simp only [decide_eq_false_iff_not] at hc32
      refine A8 (A0 ?_)
      refine A1 (A1 ?_)
      refine G_p [0] [0,4,5,6,7] (k:=A0 ?_)
      refine B9 (G_rounds 4 ?_)
      refine I2 (A1 ?_)
      refine A1 (G_p [0,0,0] [0,4,5,6,7,49] (k:=?_))
      refine A0 (E8 kr ?_)
      refine A8 (A0 ?_)
      refine A1 (B9 ?_)
      refine A1 (A2 ?_)
      refine A4 (j:=2) [0,0] (k:=E4 (ch:=[]) (s:=s) (kd:=.i64) (j:=1) (hb:=(fun _=>by omega)) (k:=?_))
      have hb33:=D4 s 1
      refine A4 (j:=4) [0] (k:=D5 55 (A7 s 1) (by omega) (by omega) kr ?_)
      refine B0 [0] [0,4,5,6,7,8] (k:=A0 ?_)
      refine A1 (A1 ?_)
      refine B7 (E':=[⟨0,[],.string s⟩,⟨4,[],.int .i64 ((A7 s 0) - 240)⟩,⟨5,[],.int .i64 4⟩,⟨6,[],.int .i64 65536⟩,⟨7,[],.int .i64 1⟩,⟨8,[],.int .i64 (A7 s 1)⟩,⟨61,[],.bool ((decide ((A7 s 1)<128))||(decide ((A7 s 1) ≥ 192)))⟩]) [0,0,0,0,0,5] [0,4,5,6,7,8,61] (k:=A0 ?_)
      refine B2 (b:=(decide ((A7 s 1)<128))||(decide ((A7 s 1) ≥ 192))) kr (fun hc35=>?_) (fun hc35=>?_)
      ·
       simp only [Bool.or_eq_true,decide_eq_true_eq,ge_iff_le] at hc35
       refine A1 (G_p [0,0] [2,3] (k:=?_))
       refine A0 (B5 ?_)
       refine A3 (B4 ?_)
       refine A3 (A3 ?_)
       refine B4 (A3 ?_)
       refine B6 [.tmp 2,.tmp 3] [.int .i64 (-1),.int .i64 1] (k:=?_)
       exact ⟨by rw [M3 (l:=s.data.toList) (M4 (b0:=bt s 0) (b1:=bt s 1) (b2:=bt s 2) (b3:=bt s 3) (by rw [hl]; omega))]; rfl,rfl⟩
      ·
       simp only [Bool.or_eq_false_iff,decide_eq_false_iff_not,ge_iff_le] at hc35
       refine A8 (A0 ?_)
       refine A2 (A4 (j:=2) [0,0] (k:=?_))
       refine D5 63 (64 * ((A7 s 0) - 240)) (by omega) (by omega) kr (A4 (j:=4) [0,0] (k:=?_))
       refine D5 65 ((64 * ((A7 s 0) - 240))+(A7 s 1)) (by omega) (by omega) kr (A4 (j:=5) [0] (k:=?_))
       refine D5 66 (((64 * ((A7 s 0) - 240))+(A7 s 1)) - 128) (by omega) (by omega) kr (B0 [0] [0,4,5,6,7] (k:=?_))
       refine B8 (A0 ?_)
       refine G_p [0,0,0] [0,4,5,6,7] (k:=N_rd ?_)
       refine I2 (A1 ?_)
       refine A1 (G_p [0,0,0] [0,4,5,6,7,49] (k:=?_))
       refine A0 (E8 kr ?_)
       refine A8 (A0 ?_)
       refine A1 (B9 ?_)
       refine A1 (A2 ?_)
       refine A4 (j:=2) [0,0] (k:=E4 (ch:=[]) (s:=s) (kd:=.i64) (j:=2) (hb:=(fun _=>by omega)) (k:=?_))
       have hb39:=D4 s 2
       refine A4 (j:=4) [0] (k:=D5 55 (A7 s 2) (by omega) (by omega) kr ?_)
       refine B0 [0] [0,4,5,6,7,8] (k:=A0 ?_)
       refine A1 (A1 ?_)
       refine G_p [0,0,0,0,0,5] [0,4,5,6,7,8,61] (k:=A0 ?_)
       refine B2 (b:=(decide ((A7 s 2)<128))||(decide ((A7 s 2) ≥ 192))) kr (fun hc41=>?_) (fun hc41=>?_)
       ·
        simp only [Bool.or_eq_true,decide_eq_true_eq,ge_iff_le] at hc41
        refine A1 (B7 (E':=[⟨2,[],.int .i64 (-1)⟩,⟨3,[],.int .i64 1⟩]) [0,0] [2,3] (k:=?_))
        refine A0 (B5 ?_)
        refine A3 (B4 ?_)
        refine A3 (A3 ?_)
        refine B4 (A3 ?_)
        refine B6 [.tmp 2,.tmp 3] [.int .i64 (-1),.int .i64 1] (k:=?_)
        exact ⟨by rw [M3 (l:=s.data.toList) (M4 (b0:=bt s 0) (b1:=bt s 1) (b2:=bt s 2) (b3:=bt s 3) (by rw [hl]; omega))]; rfl,rfl⟩
       ·
        simp only [Bool.or_eq_false_iff,decide_eq_false_iff_not,ge_iff_le] at hc41
        refine A8 (A0 ?_)
        refine A2 (A4 (j:=2) [0,0] (k:=?_))
        refine D5 63 (64 * (((64 * ((A7 s 0) - 240))+(A7 s 1)) - 128)) (by omega) (by omega) kr (A4 (j:=4) [0,0] (k:=?_))
        refine D5 65 ((64 * (((64 * ((A7 s 0) - 240))+(A7 s 1)) - 128))+(A7 s 2)) (by omega) (by omega) kr (A4 (j:=5) [0] (k:=?_))
        refine D5 66 (((64 * (((64 * ((A7 s 0) - 240))+(A7 s 1)) - 128))+(A7 s 2)) - 128) (by omega) (by omega) kr (B1 (E':=[⟨0,[],.string s⟩,⟨4,[],.int .i64 (((64 * (((64 * ((A7 s 0) - 240))+(A7 s 1)) - 128))+(A7 s 2)) - 128)⟩,⟨5,[],.int .i64 4⟩,⟨6,[],.int .i64 65536⟩,⟨7,[],.int .i64 2⟩]) [0] [0,4,5,6,7] (k:=?_))
        refine B8 (A0 ?_)
        refine G_p [0,0,0] [0,4,5,6,7] (k:=N_rd ?_)
        refine I2 (A1 ?_)
        refine A1 (G_p [0,0,0] [0,4,5,6,7,49] (k:=?_))
        refine A0 (E8 kr ?_)
        refine A8 (A0 ?_)
        refine A1 (B9 ?_)
        refine A1 (A2 ?_)
        refine A4 (j:=2) [0,0] (k:=E4 (ch:=[]) (s:=s) (kd:=.i64) (j:=3) (hb:=(fun _=>by omega)) (k:=?_))
        have hb45:=D4 s 3
        refine A4 (j:=4) [0] (k:=D5 55 (A7 s 3) (by omega) (by omega) kr ?_)
        refine B0 [0] [0,4,5,6,7,8] (k:=A0 ?_)
        refine A1 (A1 ?_)
        refine G_p [0,0,0,0,0,5] [0,4,5,6,7,8,61] (k:=A0 ?_)
        refine B2 (b:=(decide ((A7 s 3)<128))||(decide ((A7 s 3) ≥ 192))) kr (fun hc47=>?_) (fun hc47=>?_)
        ·
         simp only [Bool.or_eq_true,decide_eq_true_eq,ge_iff_le] at hc47
         refine A1 (G_p [0,0] [2,3] (k:=?_))
         refine A0 (B5 ?_)
         refine A3 (B4 ?_)
         refine A3 (A3 ?_)
         refine B4 (A3 ?_)
         refine B6 [.tmp 2,.tmp 3] [.int .i64 (-1),.int .i64 1] (k:=?_)
         exact ⟨by rw [M3 (l:=s.data.toList) (M4 (b0:=bt s 0) (b1:=bt s 1) (b2:=bt s 2) (b3:=bt s 3) (by rw [hl]; omega))]; rfl,rfl⟩
        ·
         simp only [Bool.or_eq_false_iff,decide_eq_false_iff_not,ge_iff_le] at hc47
         refine A8 (A0 ?_)
         refine A2 (A4 (j:=2) [0,0] (k:=?_))
         refine D5 63 (64 * (((64 * (((64 * ((A7 s 0) - 240))+(A7 s 1)) - 128))+(A7 s 2)) - 128)) (by omega) (by omega) kr (A4 (j:=4) [0,0] (k:=?_))
         refine D5 65 ((64 * (((64 * (((64 * ((A7 s 0) - 240))+(A7 s 1)) - 128))+(A7 s 2)) - 128))+(A7 s 3)) (by omega) (by omega) kr (A4 (j:=5) [0] (k:=?_))
         refine D5 66 (((64 * (((64 * (((64 * ((A7 s 0) - 240))+(A7 s 1)) - 128))+(A7 s 2)) - 128))+(A7 s 3)) - 128) (by omega) (by omega) kr (B0 [0] [0,4,5,6,7] (k:=?_))
         refine B8 (A0 ?_)
         refine B7 (E':=[⟨0,[],.string s⟩,⟨4,[],.int .i64 (((64 * (((64 * (((64 * ((A7 s 0) - 240))+(A7 s 1)) - 128))+(A7 s 2)) - 128))+(A7 s 3)) - 128)⟩,⟨5,[],.int .i64 4⟩,⟨6,[],.int .i64 65536⟩,⟨7,[],.int .i64 4⟩]) [0,0,0] [0,4,5,6,7] (k:=N_rd ?_)
         refine I2 (A1 ?_)
         refine A1 (G_p [0,0,0] [0,4,5,6,7,49] (k:=?_))
         refine A0 (C2 kr ?_)
         refine G3 (A9 ?_)
         refine A9 (C5 ?_)
         refine A0 (A1 ?_)
         refine A1 (A2 ?_)
         refine A4 (j:=5) [0,0,0,0,0] (k:=F7 (ch:=[(70,false)]) (f:=161) (fst:=#[]) (caps:=#[]) (vs:=[.int .i64 (((64 * (((64 * (((64 * ((A7 s 0) - 240))+(A7 s 1)) - 128))+(A7 s 2)) - 128))+(A7 s 3)) - 128)]) (v:=.bool (isB (((64 * (((64 * (((64 * ((A7 s 0) - 240))+(A7 s 1)) - 128))+(A7 s 2)) - 128))+(A7 s 3)) - 128))) (hf:=Tryz.func161) (hc:=(fun hc=>is_ (((64 * (((64 * (((64 * ((A7 s 0) - 240))+(A7 s 1)) - 128))+(A7 s 2)) - 128))+(A7 s 3)) - 128) _ _)) (k:=?_))
         refine B0 [0,5] [4,5,74] (k:=A0 ?_)
         refine B2 (b:=(decide ((((64 * (((64 * (((64 * ((A7 s 0) - 240))+(A7 s 1)) - 128))+(A7 s 2)) - 128))+(A7 s 3)) - 128)<65536))||(!(isB (((64 * (((64 * (((64 * ((A7 s 0) - 240))+(A7 s 1)) - 128))+(A7 s 2)) - 128))+(A7 s 3)) - 128)))) kr (fun hc51=>?_) (fun hc51=>?_)
         ·
          simp only [Bool.or_eq_true,Bool.not_eq_true',decide_eq_true_eq,F4,isR] at hc51
          refine A1 (G_p [0,0] [2,3] (k:=?_))
          refine A0 (B5 ?_)
          refine A3 (B6 [.tmp 2,.tmp 3] [.int .i64 (-1),.int .i64 1] (k:=?_))
          exact ⟨by rw [M3 (l:=s.data.toList) (M4 (b0:=bt s 0) (b1:=bt s 1) (b2:=bt s 2) (b3:=bt s 3) (by rw [hl]; omega))]; rfl,rfl⟩
         ·
          simp only [Bool.or_eq_false_iff,Bool.not_eq_false',decide_eq_false_iff_not,G1,isR] at hc51
          refine A8 (A0 ?_)
          refine A1 (G_p [0,0,0,0] [2,3] (k:=?_))
          refine A0 (B5 ?_)
          refine B6 [.tmp 2,.tmp 3] [.int .i64 (((64 * (((64 * (((64 * ((A7 s 0) - 240))+(A7 s 1)) - 128))+(A7 s 2)) - 128))+(A7 s 3)) - 128),.int .i64 4] (k:=?_)
          exact ⟨by rw [rdP_ok (l:=s.data.toList) (dec4 (b0:=bt s 0) (b1:=bt s 1) (b2:=bt s 2) (b3:=bt s 3) (by (try rw [hl]); omega)) (by omega)]; exact congrArg (fun x=>Value.tuple #[.int .i64 x,.int .i64 4]) (by omega),rfl⟩
    ·
     simp only [Bool.and_eq_false_iff,decide_eq_false_iff_not,ge_iff_le] at hc30
     refine A1 (G_p [0,0] [2,3] (k:=?_))
     refine A0 (B5 ?_)
     refine B4 (A3 ?_)
     refine B6 [.tmp 2,.tmp 3] [.int .i64 (-1),.int .i64 1] (k:=?_)
     exact ⟨by rw [M3 (l:=s.data.toList) (M4 (b0:=bt s 0) (b1:=bt s 1) (b2:=bt s 2) (b3:=bt s 3) (by rw [hl]; omega))]; rfl,rfl⟩
theorem one_ (p:Int) (hp:isR p) (W0:World) (H:List Grp):Tri Tryz.prog 122 #[.int .i64 p] W0 H (fun v H'=>∃ b,v=.slice (some ⟨b,0,none⟩) (Lib.encodeRune p).length (Lib.encodeRune p).length∧H'=[(b,.cells (u8s (Lib.encodeRune p)).toArray 5 (0,0))]::H):=by
 obtain ⟨hp0,hp1,hp2⟩:=hp
 refine C6 (args:=[.int .i64 p]) (n:=57) Tryz.func122 rfl rfl (Nat.le_of_ble_eq_true rfl) ?_
 refine A1 (B7 (E':=[⟨0,[],.int .i64 p⟩]) [0] [0] (k:=?_))
 refine A0 (A1 ?_)
 refine B9 (A1 ?_)
 refine G_p [0,0,0] [0,3] (k:=A0 ?_)
 refine B2 (b:=decide (p<128)) kr (fun hc1=>?_) (fun hc1=>?_)
 ·
  simp only [decide_eq_true_eq] at hc1
  refine A1 (A2 ?_)
  refine C0 (E':=[⟨7,[],.int .u8 (IntKind.wrap .u8 p)⟩]) (j:=2) [0,0] (k:=C4 (E':=[⟨7,[],.int .u8 p⟩]) (by rw [w8i (x:=p) (by omega) (by omega)]) ?_)
  refine C9 (ch:=[]) (e:=5) (l:=[(0,.int .u8 p)]) (c:=[.int .u8 p]) (k:=(fun b2=>?_))
  refine B0 [0] [2] (k:=A0 ?_)
  refine B5 (B4 ?_)
  refine A3 (B6 [.tmp 2] [.slice (some ⟨b2,0,none⟩) 1 1] (k:=?_))
  exact ⟨b2,by rw [show (Lib.encodeRune p).length=1 by unfold Lib.encodeRune; rw [Lib.encodeRuneZ_one (r:=p) (by omega) (by omega)]; rfl]; rfl,by rw [Q3,Lib.encodeRuneZ_one (r:=p) (by omega) (by omega)]; rfl⟩
 ·
  simp only [decide_eq_false_iff_not] at hc1
  refine A1 (G_p [0,0,0] [0,9] (k:=?_))
  refine A0 (B2 (b:=decide (p<2048)) kr (fun hc3=>?_) (fun hc3=>?_))
  ·
   simp only [decide_eq_true_eq] at hc3
   refine A1 (A2 ?_)
   refine A4 (j:=2) [0,0] (k:=?_)
   have hw4:IntKind.wrap .i64 (Int.tdiv p 64)=p / 64:=q64 (by omega) (by omega) (by decide)
   refine GL_w 13 hw4 kr (A4 (j:=3) [0] (k:=?_))
   refine D5 14 (192+(p / 64)) (by omega) (by omega) kr (C0 (E':=[⟨15,[],.int .u8 (IntKind.wrap .u8 (192+(p / 64)))⟩,⟨0,[],.int .i64 p⟩]) (j:=4) [0] (k:=?_))
   refine C4 (E':=[⟨15,[],.int .u8 (192+(p / 64))⟩,⟨0,[],.int .i64 p⟩]) (by rw [w8i (x:=(192+(p / 64))) (by omega) (by omega)]) (A4 (j:=6) [0,0] (k:=?_))
   have hw6:Int.tmod p 64=p % 64:=r64 (by omega)
   refine GL_w 17 hw6 kr (A4 (j:=7) [0] (k:=?_))
   refine D5 18 (128+(p % 64)) (by omega) (by omega) kr (C0 (E':=[⟨19,[],.int .u8 (IntKind.wrap .u8 (128+(p % 64)))⟩,⟨15,[],.int .u8 (192+(p / 64))⟩]) (j:=8) [0] (k:=?_))
   refine C4 (E':=[⟨19,[],.int .u8 (128+(p % 64))⟩,⟨15,[],.int .u8 (192+(p / 64))⟩]) (by rw [w8i (x:=(128+(p % 64))) (by omega) (by omega)]) (C9 (ch:=[]) (e:=5) (l:=[(0,.int .u8 (192+(p / 64))),(1,.int .u8 (128+(p % 64)))]) (c:=[.int .u8 (192+(p / 64)),.int .u8 (128+(p % 64))]) (k:=(fun b8=>?_)))
   refine B0 [0] [2] (k:=A0 ?_)
   refine B5 (B4 ?_)
   refine A3 (B6 [.tmp 2] [.slice (some ⟨b8,0,none⟩) 2 2] (k:=?_))
   exact ⟨b8,by rw [show (Lib.encodeRune p).length=2 by unfold Lib.encodeRune; rw [Lib.encodeRuneZ_two (r:=p) (by omega) (by omega)]; rfl]; rfl,by rw [Q3,Lib.encodeRuneZ_two (r:=p) (by omega) (by omega)]; rfl⟩
  ·
   simp only [decide_eq_false_iff_not] at hc3
   refine A1 (G_p [0,0,0] [0,21] (k:=?_))
   refine A0 (B2 (b:=decide (p<65536)) kr (fun hc9=>?_) (fun hc9=>?_))
   ·
    simp only [decide_eq_true_eq] at hc9
    refine A1 (A2 ?_)
    refine A4 (j:=2) [0,0] (k:=?_)
    have hw10:IntKind.wrap .i64 (Int.tdiv p 4096)=p / 4096:=q64 (by omega) (by omega) (by decide)
    refine GL_w 25 hw10 kr (A4 (j:=3) [0] (k:=?_))
    refine D5 26 (224+(p / 4096)) (by omega) (by omega) kr (C0 (E':=[⟨27,[],.int .u8 (IntKind.wrap .u8 (224+(p / 4096)))⟩,⟨0,[],.int .i64 p⟩]) (j:=4) [0] (k:=?_))
    refine C4 (E':=[⟨27,[],.int .u8 (224+(p / 4096))⟩,⟨0,[],.int .i64 p⟩]) (by rw [w8i (x:=(224+(p / 4096))) (by omega) (by omega)]) (A4 (j:=6) [0,0] (k:=?_))
    have hw12:IntKind.wrap .i64 (Int.tdiv p 64)=p / 64:=q64 (by omega) (by omega) (by decide)
    refine GL_w 29 hw12 kr (A4 (j:=7) [0] (k:=?_))
    have hw13:Int.tmod (p / 64) 64=(p / 64) % 64:=r64 (by omega)
    refine GL_w 30 hw13 kr (A4 (j:=8) [0] (k:=?_))
    refine D5 31 (128+((p / 64) % 64)) (by omega) (by omega) kr (C0 (E':=[⟨32,[],.int .u8 (IntKind.wrap .u8 (128+((p / 64) % 64)))⟩,⟨27,[],.int .u8 (224+(p / 4096))⟩,⟨0,[],.int .i64 p⟩]) (j:=9) [0] (k:=?_))
    refine C4 (E':=[⟨32,[],.int .u8 (128+((p / 64) % 64))⟩,⟨27,[],.int .u8 (224+(p / 4096))⟩,⟨0,[],.int .i64 p⟩]) (by rw [w8i (x:=(128+((p / 64) % 64))) (by omega) (by omega)]) (A4 (j:=11) [0,0] (k:=?_))
    have hw15:Int.tmod p 64=p % 64:=r64 (by omega)
    refine GL_w 34 hw15 kr (A4 (j:=12) [0] (k:=?_))
    refine D5 35 (128+(p % 64)) (by omega) (by omega) kr (C0 (E':=[⟨36,[],.int .u8 (IntKind.wrap .u8 (128+(p % 64)))⟩,⟨32,[],.int .u8 (128+((p / 64) % 64))⟩,⟨27,[],.int .u8 (224+(p / 4096))⟩]) (j:=13) [0] (k:=?_))
    refine C4 (E':=[⟨36,[],.int .u8 (128+(p % 64))⟩,⟨32,[],.int .u8 (128+((p / 64) % 64))⟩,⟨27,[],.int .u8 (224+(p / 4096))⟩]) (by rw [w8i (x:=(128+(p % 64))) (by omega) (by omega)]) (C9 (ch:=[]) (e:=5) (l:=[(0,.int .u8 (224+(p / 4096))),(1,.int .u8 (128+((p / 64) % 64))),(2,.int .u8 (128+(p % 64)))]) (c:=[.int .u8 (224+(p / 4096)),.int .u8 (128+((p / 64) % 64)),.int .u8 (128+(p % 64))]) (k:=(fun b17=>?_)))
    refine B0 [0] [2] (k:=A0 ?_)
    refine B5 (B4 ?_)
    refine A3 (B6 [.tmp 2] [.slice (some ⟨b17,0,none⟩) 3 3] (k:=?_))
    exact ⟨b17,by rw [show (Lib.encodeRune p).length=3 by unfold Lib.encodeRune; rw [Lib.encodeRuneZ_three (r:=p) (by omega)]; rfl]; rfl,by rw [Q3,Lib.encodeRuneZ_three (r:=p) (by omega)]; rfl⟩
   ·
    simp only [decide_eq_false_iff_not] at hc9
    refine A8 (B8 ?_)
    refine A0 (A1 ?_)
    refine A2 (A4 (j:=2) [0,0] (k:=?_))
    have hw18:IntKind.wrap .i64 (Int.tdiv p 262144)=p / 262144:=q64 (by omega) (by omega) (by decide)
    refine GL_w 39 hw18 kr (A4 (j:=3) [0] (k:=?_))
    refine D5 40 (240+(p / 262144)) (by omega) (by omega) kr (C0 (E':=[⟨41,[],.int .u8 (IntKind.wrap .u8 (240+(p / 262144)))⟩,⟨0,[],.int .i64 p⟩]) (j:=4) [0] (k:=?_))
    refine C4 (E':=[⟨41,[],.int .u8 (240+(p / 262144))⟩,⟨0,[],.int .i64 p⟩]) (by rw [w8i (x:=(240+(p / 262144))) (by omega) (by omega)]) (A4 (j:=6) [0,0] (k:=?_))
    have hw20:IntKind.wrap .i64 (Int.tdiv p 4096)=p / 4096:=q64 (by omega) (by omega) (by decide)
    refine GL_w 43 hw20 kr (A4 (j:=7) [0] (k:=?_))
    have hw21:Int.tmod (p / 4096) 64=(p / 4096) % 64:=r64 (by omega)
    refine GL_w 44 hw21 kr (A4 (j:=8) [0] (k:=?_))
    refine D5 45 (128+((p / 4096) % 64)) (by omega) (by omega) kr (C0 (E':=[⟨46,[],.int .u8 (IntKind.wrap .u8 (128+((p / 4096) % 64)))⟩,⟨41,[],.int .u8 (240+(p / 262144))⟩,⟨0,[],.int .i64 p⟩]) (j:=9) [0] (k:=?_))
    refine C4 (E':=[⟨46,[],.int .u8 (128+((p / 4096) % 64))⟩,⟨41,[],.int .u8 (240+(p / 262144))⟩,⟨0,[],.int .i64 p⟩]) (by rw [w8i (x:=(128+((p / 4096) % 64))) (by omega) (by omega)]) (A4 (j:=11) [0,0] (k:=?_))
    have hw23:IntKind.wrap .i64 (Int.tdiv p 64)=p / 64:=q64 (by omega) (by omega) (by decide)
    refine GL_w 48 hw23 kr (A4 (j:=12) [0] (k:=?_))
    have hw24:Int.tmod (p / 64) 64=(p / 64) % 64:=r64 (by omega)
    refine GL_w 49 hw24 kr (A4 (j:=13) [0] (k:=?_))
    refine D5 50 (128+((p / 64) % 64)) (by omega) (by omega) kr (C0 (E':=[⟨51,[],.int .u8 (IntKind.wrap .u8 (128+((p / 64) % 64)))⟩,⟨46,[],.int .u8 (128+((p / 4096) % 64))⟩,⟨41,[],.int .u8 (240+(p / 262144))⟩,⟨0,[],.int .i64 p⟩]) (j:=14) [0] (k:=?_))
    refine C4 (E':=[⟨51,[],.int .u8 (128+((p / 64) % 64))⟩,⟨46,[],.int .u8 (128+((p / 4096) % 64))⟩,⟨41,[],.int .u8 (240+(p / 262144))⟩,⟨0,[],.int .i64 p⟩]) (by rw [w8i (x:=(128+((p / 64) % 64))) (by omega) (by omega)]) (A4 (j:=16) [0,0] (k:=?_))
    have hw26:Int.tmod p 64=p % 64:=r64 (by omega)
    refine GL_w 53 hw26 kr (A4 (j:=17) [0] (k:=?_))
    refine D5 54 (128+(p % 64)) (by omega) (by omega) kr (C0 (E':=[⟨55,[],.int .u8 (IntKind.wrap .u8 (128+(p % 64)))⟩,⟨51,[],.int .u8 (128+((p / 64) % 64))⟩,⟨46,[],.int .u8 (128+((p / 4096) % 64))⟩,⟨41,[],.int .u8 (240+(p / 262144))⟩]) (j:=18) [0] (k:=?_))
    refine C4 (E':=[⟨55,[],.int .u8 (128+(p % 64))⟩,⟨51,[],.int .u8 (128+((p / 64) % 64))⟩,⟨46,[],.int .u8 (128+((p / 4096) % 64))⟩,⟨41,[],.int .u8 (240+(p / 262144))⟩]) (by rw [w8i (x:=(128+(p % 64))) (by omega) (by omega)]) (C9 (ch:=[]) (e:=5) (l:=[(0,.int .u8 (240+(p / 262144))),(1,.int .u8 (128+((p / 4096) % 64))),(2,.int .u8 (128+((p / 64) % 64))),(3,.int .u8 (128+(p % 64)))]) (c:=[.int .u8 (240+(p / 262144)),.int .u8 (128+((p / 4096) % 64)),.int .u8 (128+((p / 64) % 64)),.int .u8 (128+(p % 64))]) (k:=(fun b28=>?_)))
    refine B0 [0] [2] (k:=A0 ?_)
    refine B5 (B6 [.tmp 2] [.slice (some ⟨b28,0,none⟩) 4 4] (k:=?_))
    exact ⟨b28,by rw [show (Lib.encodeRune p).length=4 by unfold Lib.encodeRune; rw [Lib.encodeRuneZ_four (r:=p) (by omega) (by omega)]; rfl]; rfl,by rw [Q3,Lib.encodeRuneZ_four (r:=p) (by omega) (by omega)]; rfl⟩
theorem points_ (s:ByteArray) (hs:s.size≤1000000000) (W0:World) (H:List Grp):Tri Tryz.prog 94 #[.string s] W0 H (fun v H'=>∃ a c g,v=.slice a (pts s.data.toList).length c∧Go.Sw.Own 3 1 (.slice a (pts s.data.toList).length c) g (pts s.data.toList).length (intV (pts s.data.toList))∧H'=g::H):=by
 refine C6 (args:=[.string s]) (n:=26) Tryz.func94 rfl rfl (Nat.le_of_ble_eq_true rfl) ?_
 refine A1 (B7 (E':=[⟨0,[],.string s⟩]) [0] [0] (k:=?_))
 refine A0 (A1 ?_)
 refine G_p [0] [0,3] (k:=A0 ?_)
 refine A1 (A1 ?_)
 refine G_p [0] [0,3,4] (k:=A0 ?_)
 refine B9 (G_heap (H':=([]::H)) (fun w h=>h.flat (List.Perm.refl _)) ?_)
 refine I6 (EI:=(fun ξ:Option Addr × Nat × Grp × List Int × Nat=>[⟨0,[],.string s⟩,⟨3,[],.slice ξ.1 ξ.2.2.2.1.length ξ.2.1⟩,⟨4,[],.int .i64 ((ξ.2.2.2.2:Nat):Int)⟩])) (HI:=(fun ξ:Option Addr × Nat × Grp × List Int × Nat=>(ξ.2.2.1::H))) (Φ:=(fun ξ:Option Addr × Nat × Grp × List Int × Nat=>(Go.Sw.Own 3 1 (.slice ξ.1 ξ.2.2.2.1.length ξ.2.1) ξ.2.2.1 ξ.2.2.2.1.length (intV ξ.2.2.2.1))∧(ξ.2.2.2.2≤s.size)∧(ξ.2.2.2.1++pts (s.data.toList.drop ξ.2.2.2.2)=pts s.data.toList))) (μ:=(fun ξ:Option Addr × Nat × Grp × List Int × Nat=>s.size - ξ.2.2.2.2)) (s0:=(none,0,[],[],0)) [0,3,4] kr rfl ⟨Go.Sw.Own.nil,(by (try dsimp only); omega),rfl⟩ ?_
 rintro ⟨ra,rc,rg,l1,i⟩ ⟨hO,hi,hT⟩
 dsimp only at hO hi hT
 have hll:l1.length≤s.size:=by
  have h1:=congrArg List.length hT
  have h2:=pts_len s.data.toList
  rw [List.length_append] at h1; rw [E0] at h2; omega
 refine A1 (A1 ?_)
 refine G_p [0,0,0,0] [0,3,4,10] (k:=A0 ?_)
 refine B2 (b:=decide (((i:Nat):Int)<(s.size:Int))) kr (fun hc1=>?_) (fun hc1=>?_)
 ·
  simp only [decide_eq_true_eq] at hc1
  have hlt:i<s.size:=by omega
  have hw:=rdP_w (s.data.toList.drop i) (dropR_ne (by omega))
  rw [← L9,E0,sz_dropR] at hw
  refine A8 (A0 ?_)
  refine B9 (A1 ?_)
  refine A2 (A4 (j:=2) [0,0] (k:=?_))
  refine F6 (ch:=[]) (s:=s) (vl:=(some (.int .i64 ((i:Nat):Int)))) (vh:=none) (l:=((i:Nat):Int)) (h:=(s.size:Int)) (hb:=(fun _=>by omega)) (k:=H4 Tryz.func139 (read_ (s.extract i s.size) (by first | omega | (rw [sz_dropR]; omega)) (by first | omega | (rw [sz_dropR]; omega)) _ _) ?_)
  refine B0 [0,0,0,0,0] [0,3,4,5,6] (k:=A0 ?_)
  refine A1 (A2 ?_)
  refine A4 (j:=2) [0,0] (k:=C9 (ch:=[]) (e:=3) (l:=[(0,.int .i64 ((rdP (s.extract i s.size).data.toList).1))]) (c:=[.int .i64 ((rdP (s.extract i s.size).data.toList).1)]) (k:=(fun b2=>?_)))
  refine G0 (i:=3) (ch:=[]) (t:=109) (tx:=109) (e:=3) (inf:=Tryz.t3) (s:=.slice ra l1.length rc) (x:=.slice (some ⟨b2,0,none⟩) 1 1) (n:=l1.length) (m:=1) (j:=1) (cs:=(intV l1)) (news:=[.int .i64 ((rdP (s.extract i s.size).data.toList).1)]) (g:=rg) (S:=(inG [(b2,.cells #[.int .i64 ((rdP (s.extract i s.size).data.toList).1)] 3 (0,0))])) rfl rfl rfl rfl kr kr kr rfl rfl (.inl ⟨3,kr⟩) (fun ⟨_,h⟩=>by cases h) (fun _=>⟨3,kr⟩) kr kr kr rfl hO (SrcOf.slice _ _ _ _ Rd.lit (fun h=>by cases h)) (F9 0 rfl) kr (by intro u hu; rcases List.mem_singleton.1 hu with rfl; rfl) (by omega) (by show (l1.length+1) * 8≤140737488355328; omega) (fun v3 g4 hO5=>?_)
  obtain ⟨a6,cap7,rfl,hcap8,hrd9⟩:=hO5.shape
  refine B0 [0] [0,3,4,6] (k:=A0 ?_)
  have hw10:IntKind.wrap .i64 (((i:Nat):Int)+((rdP (s.extract i s.size).data.toList).2:Int))=((i:Nat):Int)+((rdP (s.extract i s.size).data.toList).2:Int):=w64 (by omega) (by omega)
  refine A2 (C0 (E':=[⟨24,[],.int .i64 (((i:Nat):Int)+((rdP (s.extract i s.size).data.toList).2:Int))⟩,⟨0,[],.string s⟩,⟨3,[],.slice a6 (l1.length+1) cap7⟩,⟨4,[],.int .i64 ((i:Nat):Int)⟩]) [0,0,0] (Eq.trans (b:=some [⟨24,[],.int .i64 (IntKind.wrap .i64 (((i:Nat):Int)+((rdP (s.extract i s.size).data.toList).2:Int)))⟩,⟨0,[],.string s⟩,⟨3,[],.slice a6 (l1.length+1) cap7⟩,⟨4,[],.int .i64 ((i:Nat):Int)⟩]) kr (by simp only [hw10])) (j:=3) rfl ?_)
  refine C4 (E':=[⟨24,[],.int .i64 ((i+(rdP (s.extract i s.size).data.toList).2:Nat):Int)⟩,⟨0,[],.string s⟩,⟨3,[],.slice a6 (l1.length+1) cap7⟩,⟨4,[],.int .i64 ((i:Nat):Int)⟩]) (by rw [Int.natCast_add]) (B0 [0] [0,3,4] (k:=?_))
  refine B8 ?_
  have hln:(l1.length+1)=(l1++[((rdP (s.extract i s.size).data.toList).1)]).length:=by first | exact List.length_append.symm | (rw [List.length_append]; rfl)
  refine N_env (E':=[⟨0,[],.string s⟩,⟨3,[],.slice a6 (l1.length+1) cap7⟩,⟨4,[],.int .i64 ((i+(rdP (s.extract i s.size).data.toList).2:Nat):Int)⟩]) kr (N_env (E':=[⟨0,[],.string s⟩,⟨3,[],.slice a6 ((l1++[((rdP (s.extract i s.size).data.toList).1)]).length) cap7⟩,⟨4,[],.int .i64 ((i+(rdP (s.extract i s.size).data.toList).2:Nat):Int)⟩]) (by rw [hln]) ?_)
  refine C1 (H':=(g4::H)) (fun w h=>(h.erase 0)) (E6 (s':=(a6,cap7,g4,(l1++[((rdP (s.extract i s.size).data.toList).1)]),i+(rdP (s.extract i s.size).data.toList).2)) [0,3,4] kr rfl ⟨(own_castS hO5 hln (by dsimp only; first | exact (iv_app _ _).symm | (rw [iv_app]; rfl))),(by dsimp only; omega),(by dsimp only; rw [List.append_assoc,List.singleton_append,← pts_next hlt]; exact hT)⟩ (by dsimp only; omega))
 ·
  simp only [decide_eq_false_iff_not] at hc1
  refine G3 (A9 ?_)
  refine A9 (C5 ?_)
  refine A0 (A1 ?_)
  refine B7 (E':=[⟨2,[],.slice ra l1.length rc⟩]) [0,0] [2] (k:=A0 ?_)
  refine B5 (B6 [.tmp 2] [.slice ra l1.length rc] (k:=?_))
  have he:l1=pts s.data.toList:=by rw [← hT,List.drop_eq_nil_of_le (by rw [E0]; omega)]; exact (List.append_nil _).symm
  rw [he] at hO ⊢
  exact ⟨_,_,_,rfl,hO,rfl⟩
end Go.Proofs.YtppgfiklmfoaeaaGreatDoor
namespace Go.Proofs.YtppgfiklmfoaeaaGreatDoor
open Go.Sw Go.Sha Go.Esc Go.RowKit
theorem text_ (a:Option Addr) (c:Nat) (ps:List Int) (S:Nat→Obj→Prop) (hrd:Rd S a (intV ps)) (hps:∀ p∈ps,isR p) (hl:ps.length≤1000000000) (W0:World) (H:List Grp) (hS:∀ y o,S y o→At W0 H y o):Tri Tryz.prog 76 #[.slice a ps.length c] W0 H (fun v H'=>v=.string ⟨(encL ps).toArray⟩∧H'=H):=by
 refine C6 (args:=[.slice a ps.length c]) (n:=19) Tryz.func76 rfl rfl (Nat.le_of_ble_eq_true rfl) ?_
 refine A1 (B7 (E':=[⟨0,[],.slice a ps.length c⟩]) [0] [0] (k:=?_))
 refine A0 (A1 ?_)
 refine G_p [0] [0,3] (k:=A0 ?_)
 refine A1 (A1 ?_)
 refine G_p [0,0,0] [3,6,7,8] (k:=A0 ?_)
 refine B9 (G_heap (H':=([]::H)) (fun w h=>h.flat (List.Perm.refl _)) ?_)
 refine I6 (EI:=(fun ξ:Option Addr × Nat × Grp × List UInt8 × Nat=>[⟨3,[],.slice ξ.1 ξ.2.2.2.1.length ξ.2.1⟩,⟨6,[],.slice a ps.length c⟩,⟨7,[],.int .i64 ((ps.length:Nat):Int)⟩,⟨8,[],.int .i64 ((ξ.2.2.2.2:Nat):Int)⟩])) (HI:=(fun ξ:Option Addr × Nat × Grp × List UInt8 × Nat=>(ξ.2.2.1::H))) (Φ:=(fun ξ:Option Addr × Nat × Grp × List UInt8 × Nat=>(Go.Sw.Own 5 1 (.slice ξ.1 ξ.2.2.2.1.length ξ.2.1) ξ.2.2.1 ξ.2.2.2.1.length (u8s ξ.2.2.2.1))∧(ξ.2.2.2.2≤ps.length)∧(ξ.2.2.2.1=encL (ps.take ξ.2.2.2.2)))) (μ:=(fun ξ:Option Addr × Nat × Grp × List UInt8 × Nat=>ps.length - ξ.2.2.2.2)) (s0:=(none,0,[],[],0)) [3,6,7,8] kr rfl ⟨Go.Sw.Own.nil,(by (try dsimp only); omega),rfl⟩ ?_
 rintro ⟨ra,rc,rg,l1,k⟩ ⟨hO,hk,hT⟩
 dsimp only at hO hk hT
 have hll:l1.length≤4 * ps.length:=by
  rw [hT]; have:=encL_len (ps.take k); rw [List.length_take] at this; omega
 refine A1 (G_p [0] [3,6,7,8,9] (k:=?_))
 refine A0 (A1 ?_)
 refine B2 (b:=decide (((k:Nat):Int)<((ps.length:Nat):Int))) kr (fun hc1=>?_) (fun hc1=>?_)
 ·
  simp only [decide_eq_true_eq] at hc1
  have hlt:k<ps.length:=by omega
  have hel:=enc_len (ps.getD k 0)
  refine A8 (A0 ?_)
  refine A1 (B9 ?_)
  refine A1 (A2 ?_)
  refine D0 (ch:=[]) (a:=a) (len:=ps.length) (cap:=c) (kd:=.i64) (j:=((k:Nat):Int)) (e:=3) (sz:=1) (S:=S) (cs:=(intV ps)) (hrd:=hrd) (hb:=(fun _=>by exact ⟨by omega,by omega,iv_ne (by omega)⟩)) (k:=I1 (ch:=[]) (a:=a) (q:=k * 1) (S:=S) (cs:=(intV ps)) (v:=.int .i64 (ps.getD k 0)) (hrd:=hrd) (hS:=(fun y o h=>(At.cons (hS y o h)))) (hv:=(fun _=>(by rw [Nat.mul_one]; exact iv_at (ps:=ps) (k:=k) (by omega)))) (k:=?_))
  refine B0 [0] [3,5,6,7,8] (k:=A0 ?_)
  refine A2 (A4 (j:=2) [0,0] (k:=?_))
  refine D8 (vs:=[.int .i64 (ps.getD k 0)]) Tryz.func122 (one_ (ps.getD k 0) (hps _ (memI hlt)) _ _) ?_
  rintro _ _ ⟨ob2,rfl,rfl⟩
  refine G0 (i:=3) (ch:=[]) (t:=22) (tx:=22) (e:=5) (inf:=Tryz.t5) (s:=.slice ra l1.length rc) (x:=.slice (some ⟨ob2,0,none⟩) ((Lib.encodeRune (ps.getD k 0)).length) ((Lib.encodeRune (ps.getD k 0)).length)) (n:=l1.length) (m:=(Lib.encodeRune (ps.getD k 0)).length) (j:=1) (cs:=(u8s l1)) (news:=(u8s (Lib.encodeRune (ps.getD k 0)))) (g:=rg) (S:=(inG [(ob2,.cells (u8s (Lib.encodeRune (ps.getD k 0))).toArray 5 (0,0))])) rfl rfl rfl rfl kr kr kr rfl rfl (.inl ⟨5,kr⟩) (fun ⟨_,h⟩=>by cases h) (fun _=>⟨5,kr⟩) kr kr kr rfl hO (SrcOf.slice _ _ _ _ Rd.lit (fun h=>by cases h)) (F9 0 rfl) (by rw [show (u8s (Lib.encodeRune _)).length=_ from List.length_map _]; exact (Nat.mul_one _).symm) Go.Sha.u8_one (by omega) (by show (l1.length+(Lib.encodeRune (ps.getD k 0)).length) * 1≤140737488355328; omega) (fun v3 g4 hO5=>?_)
  obtain ⟨a6,cap7,rfl,hcap8,hrd9⟩:=hO5.shape
  refine B0 [0] [3,6,7,8] (k:=B8 ?_)
  refine A0 (A2 ?_)
  refine A4 (j:=1) [0] (k:=D5 16 (((k:Nat):Int)+1) (by omega) (by omega) kr ?_)
  refine B0 [0] [3,6,7,8] (k:=?_)
  have hln:(l1.length+(Lib.encodeRune (ps.getD k 0)).length)=(l1++(Lib.encodeRune (ps.getD k 0))).length:=by first | exact List.length_append.symm | (rw [List.length_append]; rfl)
  refine N_env (E':=[⟨3,[],.slice a6 (l1.length+(Lib.encodeRune (ps.getD k 0)).length) cap7⟩,⟨6,[],.slice a ps.length c⟩,⟨7,[],.int .i64 ((ps.length:Nat):Int)⟩,⟨8,[],.int .i64 (((k:Nat):Int)+1)⟩]) kr (N_env (E':=[⟨3,[],.slice a6 ((l1++(Lib.encodeRune (ps.getD k 0))).length) cap7⟩,⟨6,[],.slice a ps.length c⟩,⟨7,[],.int .i64 ((ps.length:Nat):Int)⟩,⟨8,[],.int .i64 (((k:Nat):Int)+1)⟩]) (by rw [hln]) ?_)
  refine C1 (H':=(g4::H)) (fun w h=>(h.erase 0)) (E6 (s':=(a6,cap7,g4,(l1++(Lib.encodeRune (ps.getD k 0))),k+1)) [3,6,7,8] kr rfl ⟨(own_castS hO5 hln (by dsimp only; first | exact (Go.Sha.u8s_append _ _).symm | (rw [Go.Sha.u8s_append]; rfl))),(by (try dsimp only); omega),(by dsimp only; rw [takeI _ hlt,encL_app,← hT]; congr 1; exact (List.append_nil _).symm)⟩ (by (try dsimp only); omega))
 ·
  simp only [decide_eq_false_iff_not] at hc1
  refine G3 (A9 ?_)
  refine A9 (C5 ?_)
  refine A0 (A1 ?_)
  refine A2 (A4 (j:=1) [0] (k:=?_))
  refine GL_bytesB (i:=1) (ch:=[]) (a:=ra) (cap:=rc) (e:=5) (S:=(inG rg)) (bk l1) rfl rfl kr kr kr kr kr kr kr (own_rd hO) (F9 0 rfl) (B1 (E':=[⟨2,[],.string (bk l1)⟩]) [0] [2] (k:=?_))
  refine A0 (B5 ?_)
  refine C1 (H':=H) (fun w h=>(h.erase 0)) (B6 [.tmp 2] [.string (bk l1)] (k:=?_))
  exact ⟨congrArg Value.string (by rw [hT,List.take_of_length_le (by omega)]),rfl⟩
theorem fixed_ (s:ByteArray) (hs:s.size≤1000000000) (W0:World) (H:List Grp):Tri Tryz.prog 75 #[.string s] W0 H (fun v H'=>∃ a c g,v=.slice a (A6 s.data.toList).length c∧Go.Sw.Own 3 1 (.slice a (A6 s.data.toList).length c) g (A6 s.data.toList).length (intV (A6 s.data.toList))∧H'=g::H):=by
 refine C6 (args:=[.string s]) (n:=21) Tryz.func75 rfl rfl (Nat.le_of_ble_eq_true rfl) ?_
 refine A1 (B7 (E':=[⟨0,[],.string s⟩]) [0] [0] (k:=?_))
 refine A0 (A1 ?_)
 refine G_p [0] [0,3] (k:=A0 ?_)
 refine A1 (A1 ?_)
 refine A2 (A4 (j:=1) [0] (k:=?_))
 refine D8 Tryz.func94 (points_ s (by omega) _ _) ?_
 rintro _ _ ⟨iap0,icp0,igp0,rfl,iOp0,rfl⟩
 refine B0 [0,0] [3,7,8,9] (k:=A0 ?_)
 refine B9 (G_heap (H':=([]::igp0::H)) (fun w h=>h.flat (List.Perm.refl _)) ?_)
 refine I6 (EI:=(fun ξ:Option Addr × Nat × Grp × List Int × Nat=>[⟨3,[],.slice ξ.1 ξ.2.2.2.1.length ξ.2.1⟩,⟨7,[],.slice iap0 ((pts s.data.toList).length) icp0⟩,⟨8,[],.int .i64 (((pts s.data.toList).length:Nat):Int)⟩,⟨9,[],.int .i64 ((ξ.2.2.2.2:Nat):Int)⟩])) (HI:=(fun ξ:Option Addr × Nat × Grp × List Int × Nat=>(ξ.2.2.1::igp0::H))) (Φ:=(fun ξ:Option Addr × Nat × Grp × List Int × Nat=>(Go.Sw.Own 3 1 (.slice ξ.1 ξ.2.2.2.1.length ξ.2.1) ξ.2.2.1 ξ.2.2.2.1.length (intV ξ.2.2.2.1))∧(ξ.2.2.2.2≤(pts s.data.toList).length)∧(ξ.2.2.2.1=((pts s.data.toList).take ξ.2.2.2.2).map fixP))) (μ:=(fun ξ:Option Addr × Nat × Grp × List Int × Nat=>(pts s.data.toList).length - ξ.2.2.2.2)) (s0:=(none,0,[],[],0)) [3,7,8,9] kr rfl ⟨Go.Sw.Own.nil,(by (try dsimp only); omega),rfl⟩ ?_
 rintro ⟨ra,rc,rg,l1,k⟩ ⟨hO,hk,hT⟩
 dsimp only at hO hk hT
 have hpl:=pts_len s.data.toList
 rw [E0] at hpl
 have hll:l1.length≤s.size:=by
  rw [hT,List.length_map,List.length_take]; omega
 refine A1 (G_p [0] [3,7,8,9,10] (k:=?_))
 refine A0 (A1 ?_)
 refine B2 (b:=decide (((k:Nat):Int)<(((pts s.data.toList).length:Nat):Int))) kr (fun hc2=>?_) (fun hc2=>?_)
 ·
  simp only [decide_eq_true_eq] at hc2
  have hlt:k<(pts s.data.toList).length:=by omega
  refine A8 (A0 ?_)
  refine A1 (B9 ?_)
  refine A1 (A2 ?_)
  refine D0 (ch:=[]) (a:=iap0) (len:=(pts s.data.toList).length) (cap:=icp0) (kd:=.i64) (j:=((k:Nat):Int)) (e:=3) (sz:=1) (S:=(inG igp0)) (cs:=(intV (pts s.data.toList))) (hrd:=own_rd iOp0) (hb:=(fun _=>by exact ⟨by omega,by omega,iv_ne (by omega)⟩)) (k:=I1 (ch:=[]) (a:=iap0) (q:=k * 1) (S:=(inG igp0)) (cs:=(intV (pts s.data.toList))) (v:=.int .i64 ((pts s.data.toList).getD k 0)) (hrd:=own_rd iOp0) (hS:=F9 1 rfl) (hv:=(fun _=>(by rw [Nat.mul_one]; exact iv_at (ps:=(pts s.data.toList)) (k:=k) (by omega)))) (k:=?_))
  refine B0 [0] [3,5,7,8,9] (k:=A0 ?_)
  refine A1 (A1 ?_)
  refine G_p [0,0] [3,5,7,8,9,14] (k:=A0 ?_)
  refine B2 (b:=decide (((pts s.data.toList).getD k 0)<0)) kr (fun hc3=>?_) (fun hc3=>?_)
  ·
   simp only [decide_eq_true_eq] at hc3
   refine G_p [0] [3,5,7,8,9] (k:=A0 ?_)
   refine A2 (A4 (j:=2) [0,0] (k:=?_))
   refine C9 (ch:=[]) (e:=3) (l:=[(0,.int .i64 65533)]) (c:=[.int .i64 65533]) (k:=(fun b4=>?_))
   refine G0 (i:=3) (ch:=[]) (t:=109) (tx:=109) (e:=3) (inf:=Tryz.t3) (s:=.slice ra l1.length rc) (x:=.slice (some ⟨b4,0,none⟩) 1 1) (n:=l1.length) (m:=1) (j:=1) (cs:=(intV l1)) (news:=[.int .i64 65533]) (g:=rg) (S:=(inG [(b4,.cells #[.int .i64 65533] 3 (0,0))])) rfl rfl rfl rfl kr kr kr rfl rfl (.inl ⟨3,kr⟩) (fun ⟨_,h⟩=>by cases h) (fun _=>⟨3,kr⟩) kr kr kr rfl hO (SrcOf.slice _ _ _ _ Rd.lit (fun h=>by cases h)) (F9 0 rfl) kr (by intro u hu; rcases List.mem_singleton.1 hu with rfl; rfl) (by omega) (by show (l1.length+1) * 8≤140737488355328; omega) (fun v5 g6 hO7=>?_)
   obtain ⟨a8,cap9,rfl,hcap10,hrd11⟩:=hO7.shape
   refine B0 [0] [3,7,8,9] (k:=B8 ?_)
   refine A0 (A2 ?_)
   refine A4 (j:=1) [0] (k:=D5 19 (((k:Nat):Int)+1) (by omega) (by omega) kr ?_)
   refine B1 (E':=[⟨3,[],.slice a8 (l1.length+1) cap9⟩,⟨7,[],.slice iap0 ((pts s.data.toList).length) icp0⟩,⟨8,[],.int .i64 (((pts s.data.toList).length:Nat):Int)⟩,⟨9,[],.int .i64 (((k:Nat):Int)+1)⟩]) [0] [3,7,8,9] (k:=?_)
   have hln:(l1.length+1)=(l1++[65533]).length:=by first | exact List.length_append.symm | (rw [List.length_append]; rfl)
   refine N_env (E':=[⟨3,[],.slice a8 ((l1++[65533]).length) cap9⟩,⟨7,[],.slice iap0 ((pts s.data.toList).length) icp0⟩,⟨8,[],.int .i64 (((pts s.data.toList).length:Nat):Int)⟩,⟨9,[],.int .i64 (((k:Nat):Int)+1)⟩]) (by rw [hln]) (C1 (H':=(g6::igp0::H)) (fun w h=>(h.erase 0)) ?_)
   refine E6 (s':=(a8,cap9,g6,(l1++[65533]),k+1)) [3,7,8,9] kr rfl ⟨(own_castS hO7 hln (by dsimp only; first | exact (iv_app _ _).symm | (rw [iv_app]; rfl))),(by (try dsimp only); omega),(by dsimp only; rw [takeI _ hlt,List.map_append,← hT]; unfold fixP; simp only [List.map_cons,List.map_nil]; first | rw [if_pos (by omega)] | rw [if_neg (by omega)])⟩ (by (try dsimp only); omega)
  ·
   simp only [decide_eq_false_iff_not] at hc3
   refine A8 (A0 ?_)
   refine A2 (A4 (j:=2) [0,0] (k:=?_))
   refine C9 (ch:=[]) (e:=3) (l:=[(0,.int .i64 ((pts s.data.toList).getD k 0))]) (c:=[.int .i64 ((pts s.data.toList).getD k 0)]) (k:=(fun b13=>?_))
   refine G0 (i:=3) (ch:=[]) (t:=109) (tx:=109) (e:=3) (inf:=Tryz.t3) (s:=.slice ra l1.length rc) (x:=.slice (some ⟨b13,0,none⟩) 1 1) (n:=l1.length) (m:=1) (j:=1) (cs:=(intV l1)) (news:=[.int .i64 ((pts s.data.toList).getD k 0)]) (g:=rg) (S:=(inG [(b13,.cells #[.int .i64 ((pts s.data.toList).getD k 0)] 3 (0,0))])) rfl rfl rfl rfl kr kr kr rfl rfl (.inl ⟨3,kr⟩) (fun ⟨_,h⟩=>by cases h) (fun _=>⟨3,kr⟩) kr kr kr rfl hO (SrcOf.slice _ _ _ _ Rd.lit (fun h=>by cases h)) (F9 0 rfl) kr (by intro u hu; rcases List.mem_singleton.1 hu with rfl; rfl) (by omega) (by show (l1.length+1) * 8≤140737488355328; omega) (fun v14 g15 hO16=>?_)
   obtain ⟨a17,cap18,rfl,hcap19,hrd20⟩:=hO16.shape
   refine B0 [0] [3,7,8,9] (k:=B8 ?_)
   refine A0 (A2 ?_)
   refine A4 (j:=1) [0] (k:=D5 19 (((k:Nat):Int)+1) (by omega) (by omega) kr ?_)
   refine B0 [0] [3,7,8,9] (k:=?_)
   have hln:(l1.length+1)=(l1++[((pts s.data.toList).getD k 0)]).length:=by first | exact List.length_append.symm | (rw [List.length_append]; rfl)
   refine N_env (E':=[⟨3,[],.slice a17 (l1.length+1) cap18⟩,⟨7,[],.slice iap0 ((pts s.data.toList).length) icp0⟩,⟨8,[],.int .i64 (((pts s.data.toList).length:Nat):Int)⟩,⟨9,[],.int .i64 (((k:Nat):Int)+1)⟩]) kr (N_env (E':=[⟨3,[],.slice a17 ((l1++[((pts s.data.toList).getD k 0)]).length) cap18⟩,⟨7,[],.slice iap0 ((pts s.data.toList).length) icp0⟩,⟨8,[],.int .i64 (((pts s.data.toList).length:Nat):Int)⟩,⟨9,[],.int .i64 (((k:Nat):Int)+1)⟩]) (by rw [hln]) ?_)
   refine C1 (H':=(g15::igp0::H)) (fun w h=>(h.erase 0)) (E6 (s':=(a17,cap18,g15,(l1++[((pts s.data.toList).getD k 0)]),k+1)) [3,7,8,9] kr rfl ⟨(own_castS hO16 hln (by dsimp only; first | exact (iv_app _ _).symm | (rw [iv_app]; rfl))),(by (try dsimp only); omega),(by dsimp only; rw [takeI _ hlt,List.map_append,← hT]; unfold fixP; simp only [List.map_cons,List.map_nil]; first | rw [if_pos (by omega)] | rw [if_neg (by omega)])⟩ (by (try dsimp only); omega))
 ·
  simp only [decide_eq_false_iff_not] at hc2
  refine G3 (A9 ?_)
  refine A9 (C5 ?_)
  refine A0 (A1 ?_)
  refine B7 (E':=[⟨2,[],.slice ra l1.length rc⟩]) [0,0] [2] (k:=A0 ?_)
  refine B5 (C1 (H':=(rg::H)) (fun w h=>(h.erase 1)) ?_)
  refine B6 [.tmp 2] [.slice ra l1.length rc] (k:=?_)
  have he:l1=A6 s.data.toList:=by rw [hT,List.take_of_length_le (by omega),runes_pts]
  rw [he] at hO ⊢
  exact ⟨_,_,_,rfl,hO,rfl⟩
theorem valid_no {l:List UInt8} {k:Nat} (h:k<(pts l).length) (hn:(pts l).getD k 0<0):D2 l=false:=by
  unfold D2
  rw [List.all_eq_false]
  exact ⟨_,memI h,by rw [decide_eq_true_eq]; omega⟩
theorem rvalid_ (s:ByteArray) (hs:s.size≤1000000000) (W0:World) (H:List Grp):Tri Tryz.prog 55 #[.string s] W0 H (fun v H'=>v=.bool (D2 s.data.toList)∧H'=H):=by
 have hpl:=pts_len s.data.toList
 rw [E0] at hpl
 refine C6 (args:=[.string s]) (n:=15) Tryz.func55 rfl rfl (Nat.le_of_ble_eq_true rfl) ?_
 refine A1 (B7 (E':=[⟨0,[],.string s⟩]) [0] [0] (k:=?_))
 refine A0 (A1 ?_)
 refine A1 (A2 ?_)
 refine A4 (j:=1) [0] (k:=D8 Tryz.func94 (points_ s (by omega) _ _) ?_)
 rintro _ _ ⟨iap0,icp0,igp0,rfl,iOp0,rfl⟩
 refine B0 [0,0] [6,7,8] (k:=A0 ?_)
 refine B9 (I6 (EI:=(fun ξ:Nat=>[⟨6,[],.slice iap0 ((pts s.data.toList).length) icp0⟩,⟨7,[],.int .i64 (((pts s.data.toList).length:Nat):Int)⟩,⟨8,[],.int .i64 ((ξ:Nat):Int)⟩])) (HI:=(fun ξ:Nat=>(igp0::H))) (Φ:=(fun ξ:Nat=>(ξ≤(pts s.data.toList).length)∧(((pts s.data.toList).take ξ).all (fun p=>decide (0≤p))=true))) (μ:=(fun ξ:Nat=>(pts s.data.toList).length - ξ)) (s0:=(0)) [6,7,8] kr rfl ⟨(by omega),rfl⟩ ?_)
 rintro k ⟨hk,hT⟩
 refine A1 (G_p [0] [6,7,8,9] (k:=?_))
 refine A0 (A1 ?_)
 refine B2 (b:=decide (((k:Nat):Int)<(((pts s.data.toList).length:Nat):Int))) kr (fun hc2=>?_) (fun hc2=>?_)
 ·
  simp only [decide_eq_true_eq] at hc2
  have hlt:k<(pts s.data.toList).length:=by omega
  refine A8 (A0 ?_)
  refine A1 (B9 ?_)
  refine A1 (A2 ?_)
  refine D0 (ch:=[]) (a:=iap0) (len:=(pts s.data.toList).length) (cap:=icp0) (kd:=.i64) (j:=((k:Nat):Int)) (e:=3) (sz:=1) (S:=(inG igp0)) (cs:=(intV (pts s.data.toList))) (hrd:=own_rd iOp0) (hb:=(fun _=>by exact ⟨by omega,by omega,iv_ne (by omega)⟩)) (k:=I1 (ch:=[]) (a:=iap0) (q:=k * 1) (S:=(inG igp0)) (cs:=(intV (pts s.data.toList))) (v:=.int .i64 ((pts s.data.toList).getD k 0)) (hrd:=own_rd iOp0) (hS:=F9 0 rfl) (hv:=(fun _=>(by rw [Nat.mul_one]; exact iv_at (ps:=(pts s.data.toList)) (k:=k) (by omega)))) (k:=?_))
  refine B0 [0] [4,6,7,8] (k:=A0 ?_)
  refine A1 (G_p [0,0] [6,7,8,13] (k:=?_))
  refine A0 (B2 (b:=decide (((pts s.data.toList).getD k 0)<0)) kr (fun hc3=>?_) (fun hc3=>?_))
  ·
   simp only [decide_eq_true_eq] at hc3
   refine A1 (B7 (E':=[⟨2,[],.bool false⟩]) [0] [2] (k:=?_))
   refine A0 (B5 ?_)
   refine B4 (A3 ?_)
   refine A3 (B4 ?_)
   refine A3 (C1 (H':=H) (fun w h=>(h.erase 0)) ?_)
   refine B6 [.tmp 2] [.bool false] (k:=?_)
   exact ⟨congrArg Value.bool (valid_no hlt (by omega)).symm,rfl⟩
  ·
   simp only [decide_eq_false_iff_not] at hc3
   refine A8 (B8 ?_)
   refine A0 (A2 ?_)
   refine A4 (j:=1) [0] (k:=D5 14 (((k:Nat):Int)+1) (by omega) (by omega) kr ?_)
   refine B0 [0] [6,7,8] (k:=E6 (s':=(k+1)) [6,7,8] kr rfl ⟨(by omega),(by rw [takeI _ hlt,List.all_append,hT]; simp only [List.all_cons,List.all_nil,Bool.true_and,Bool.and_true,decide_eq_true_eq]; omega)⟩ (by omega))
 ·
  simp only [decide_eq_false_iff_not] at hc2
  refine G3 (A9 ?_)
  refine A9 (C5 ?_)
  refine A0 (A1 ?_)
  refine B7 (E':=[⟨2,[],.bool true⟩]) [0] [2] (k:=A0 ?_)
  refine B5 (C1 (H':=H) (fun w h=>(h.erase 0)) ?_)
  refine B6 [.tmp 2] [.bool true] (k:=?_)
  exact ⟨congrArg Value.bool (by unfold D2; rw [List.take_of_length_le (by omega)] at hT; exact hT.symm),rfl⟩
end Go.Proofs.YtppgfiklmfoaeaaGreatDoor
namespace Go.Proofs.YtppgfiklmfoaeaaGreatDoor
open Go.Sw Go.Sha Go.Esc Go.RowKit
theorem byte_rngR (b:UInt8):0≤(b.toNat:Int)∧(b.toNat:Int)<256:=⟨Int.natCast_nonneg _,by have:=b.toNat_lt; omega⟩
end Go.Proofs.YtppgfiklmfoaeaaGreatDoor
namespace Go.Proofs.YtppgfiklmfoaeaaGreatDoor
open Go.Sw Go.Sha Go.Esc Go.RowKit
theorem digit_ (x base:Int) (h0:0≤x) (h1:x≤255) (W0:World) (H:List Grp):Tri Tryz.prog 138 #[.int .u8 x,.int .i64 base] W0 H (fun v H'=>v=.int .i64 (digB x base)∧H'=H):=by
 refine C6 (args:=[.int .u8 x,.int .i64 base]) (n:=42) Tryz.func138 rfl rfl (Nat.le_of_ble_eq_true rfl) ?_
 refine A1 (G_p [0] [0,1] (k:=?_))
 refine A0 (A1 ?_)
 refine G_p [0] [0,1,5] (k:=A0 ?_)
 refine A1 (B9 ?_)
 refine A1 (G_p [0,0,0,0,0,6,0] [0,1,5,6] (k:=?_))
 refine A0 (B2 (b:=(decide (x ≥ 48))&&(decide (x≤57))) kr (fun hc1=>?_) (fun hc1=>?_))
 ·
  simp only [Bool.and_eq_true,decide_eq_true_eq] at hc1
  refine A2 (C0 (E':=[⟨14,[],.int .u8 (IntKind.wrap .u8 (x - 48))⟩,⟨1,[],.int .i64 base⟩,⟨5,[],.int .i64 (-1)⟩]) (j:=2) [0,0] (k:=?_))
  refine C4 (E':=[⟨14,[],.int .u8 (x - 48)⟩,⟨1,[],.int .i64 base⟩,⟨5,[],.int .i64 (-1)⟩]) (by rw [w8i (by omega) (by omega)]) (A4 (j:=3) [0] (k:=?_))
  refine D5 15 (x - 48) (by omega) (by omega) kr (B0 [0] [1,5] (k:=?_))
  refine B8 (A0 ?_)
  refine A1 (A1 ?_)
  refine G_p [0,0,0] [5,40] (k:=A0 ?_)
  refine B2 (b:=decide ((x - 48) ≥ base)) kr (fun hc3=>?_) (fun hc3=>?_)
  ·
   simp only [decide_eq_true_eq] at hc3
   refine A1 (B7 (E':=[⟨4,[],.int .i64 (-1)⟩]) [0] [4] (k:=?_))
   refine A0 (B5 ?_)
   refine A3 (B6 [.tmp 4] [.int .i64 (-1)] (k:=?_))
   refine ⟨congrArg (Value.int .i64) ?_,rfl⟩
   unfold digB digC
   (repeat split) <;> omega
  ·
   simp only [decide_eq_false_iff_not] at hc3
   refine A8 (A0 ?_)
   refine A1 (B7 (E':=[⟨4,[],.int .i64 (x - 48)⟩]) [0,0] [4] (k:=?_))
   refine A0 (B5 ?_)
   refine B6 [.tmp 4] [.int .i64 (x - 48)] (k:=?_)
   refine ⟨congrArg (Value.int .i64) ?_,rfl⟩
   unfold digB digC
   (repeat split) <;> omega
 ·
  simp only [Bool.and_eq_false_iff,decide_eq_false_iff_not] at hc1
  refine A1 (G_p [0,0,0,0,0,6,0] [0,1,5,16] (k:=?_))
  refine A0 (B2 (b:=(decide (x ≥ 97))&&(decide (x≤102))) kr (fun hc4=>?_) (fun hc4=>?_))
  ·
   simp only [Bool.and_eq_true,decide_eq_true_eq] at hc4
   refine A2 (C0 (E':=[⟨24,[],.int .u8 (IntKind.wrap .u8 (x - 97))⟩,⟨1,[],.int .i64 base⟩,⟨5,[],.int .i64 (-1)⟩]) (j:=2) [0,0] (k:=?_))
   refine C4 (E':=[⟨24,[],.int .u8 (x - 97)⟩,⟨1,[],.int .i64 base⟩,⟨5,[],.int .i64 (-1)⟩]) (by rw [w8i (by omega) (by omega)]) (A4 (j:=3) [0] (k:=?_))
   refine D5 25 (x - 97) (by omega) (by omega) kr (A4 (j:=4) [0] (k:=?_))
   refine D5 26 ((x - 97)+10) (by omega) (by omega) kr (B0 [0] [1,5] (k:=?_))
   refine B8 (A0 ?_)
   refine A1 (A1 ?_)
   refine B7 (E':=[⟨5,[],.int .i64 ((x - 97)+10)⟩,⟨40,[],.bool (decide (((x - 97)+10) ≥ base))⟩]) [0,0,0] [5,40] (k:=A0 ?_)
   refine B2 (b:=decide (((x - 97)+10) ≥ base)) kr (fun hc7=>?_) (fun hc7=>?_)
   ·
    simp only [decide_eq_true_eq] at hc7
    refine A1 (B7 (E':=[⟨4,[],.int .i64 (-1)⟩]) [0] [4] (k:=?_))
    refine A0 (B5 ?_)
    refine A3 (B6 [.tmp 4] [.int .i64 (-1)] (k:=?_))
    refine ⟨congrArg (Value.int .i64) ?_,rfl⟩
    unfold digB digC
    (repeat split) <;> omega
   ·
    simp only [decide_eq_false_iff_not] at hc7
    refine A8 (A0 ?_)
    refine A1 (B7 (E':=[⟨4,[],.int .i64 ((x - 97)+10)⟩]) [0,0] [4] (k:=?_))
    refine A0 (B5 ?_)
    refine B6 [.tmp 4] [.int .i64 ((x - 97)+10)] (k:=?_)
    refine ⟨congrArg (Value.int .i64) ?_,rfl⟩
    unfold digB digC
    (repeat split) <;> omega
  ·
   simp only [Bool.and_eq_false_iff,decide_eq_false_iff_not] at hc4
   refine A1 (G_p [0,0,0,0,0,6,0] [0,1,5,27] (k:=?_))
   refine A0 (B2 (b:=(decide (x ≥ 65))&&(decide (x≤70))) kr (fun hc8=>?_) (fun hc8=>?_))
   ·
    simp only [Bool.and_eq_true,decide_eq_true_eq] at hc8
    refine A2 (C0 (E':=[⟨35,[],.int .u8 (IntKind.wrap .u8 (x - 65))⟩,⟨1,[],.int .i64 base⟩,⟨5,[],.int .i64 (-1)⟩]) (j:=2) [0,0] (k:=?_))
    refine C4 (E':=[⟨35,[],.int .u8 (x - 65)⟩,⟨1,[],.int .i64 base⟩,⟨5,[],.int .i64 (-1)⟩]) (by rw [w8i (by omega) (by omega)]) (A4 (j:=3) [0] (k:=?_))
    refine D5 36 (x - 65) (by omega) (by omega) kr (A4 (j:=4) [0] (k:=?_))
    refine D5 37 ((x - 65)+10) (by omega) (by omega) kr (B1 (E':=[⟨1,[],.int .i64 base⟩,⟨5,[],.int .i64 ((x - 65)+10)⟩]) [0] [1,5] (k:=?_))
    refine B8 (A0 ?_)
    refine A1 (A1 ?_)
    refine G_p [0,0,0] [5,40] (k:=A0 ?_)
    refine B2 (b:=decide (((x - 65)+10) ≥ base)) kr (fun hc11=>?_) (fun hc11=>?_)
    ·
     simp only [decide_eq_true_eq] at hc11
     refine A1 (B7 (E':=[⟨4,[],.int .i64 (-1)⟩]) [0] [4] (k:=?_))
     refine A0 (B5 ?_)
     refine A3 (B6 [.tmp 4] [.int .i64 (-1)] (k:=?_))
     refine ⟨congrArg (Value.int .i64) ?_,rfl⟩
     unfold digB digC
     (repeat split) <;> omega
    ·
     simp only [decide_eq_false_iff_not] at hc11
     refine A8 (A0 ?_)
     refine A1 (B7 (E':=[⟨4,[],.int .i64 ((x - 65)+10)⟩]) [0,0] [4] (k:=?_))
     refine A0 (B5 ?_)
     refine B6 [.tmp 4] [.int .i64 ((x - 65)+10)] (k:=?_)
     refine ⟨congrArg (Value.int .i64) ?_,rfl⟩
     unfold digB digC
     (repeat split) <;> omega
   ·
    simp only [Bool.and_eq_false_iff,decide_eq_false_iff_not] at hc8
    refine A8 (B8 ?_)
    refine A0 (A1 ?_)
    refine A1 (B7 (E':=[⟨5,[],.int .i64 (-1)⟩,⟨40,[],.bool (decide ((-1) ≥ base))⟩]) [0,0,0] [5,40] (k:=?_))
    refine A0 (B2 (b:=decide ((-1) ≥ base)) kr (fun hc12=>?_) (fun hc12=>?_))
    ·
     simp only [decide_eq_true_eq] at hc12
     refine A1 (B7 (E':=[⟨4,[],.int .i64 (-1)⟩]) [0] [4] (k:=?_))
     refine A0 (B5 ?_)
     refine A3 (B6 [.tmp 4] [.int .i64 (-1)] (k:=?_))
     refine ⟨congrArg (Value.int .i64) ?_,rfl⟩
     unfold digB digC
     (repeat split) <;> omega
    ·
     simp only [decide_eq_false_iff_not] at hc12
     refine A8 (A0 ?_)
     refine A1 (B7 (E':=[⟨4,[],.int .i64 (-1)⟩]) [0,0] [4] (k:=?_))
     refine A0 (B5 ?_)
     refine B6 [.tmp 4] [.int .i64 (-1)] (k:=?_)
     refine ⟨congrArg (Value.int .i64) ?_,rfl⟩
     unfold digB digC
     (repeat split) <;> omega
end Go.Proofs.YtppgfiklmfoaeaaGreatDoor
namespace Go.Proofs.YtppgfiklmfoaeaaGreatDoor
open Go.Sw Go.Sha Go.Esc Go.RowKit Go.Json
theorem wrap_succ {k:Nat} (h:k≤1000000000000):IntKind.wrap .i64 ((k:Int)+1)=((k+1:Nat):Int):=by rw [w64 (by omega) (by omega),Int.natCast_add]; rfl
theorem rcount_ (s:ByteArray) (mi:Int) (hmi:(s.size:Int)≤mi) (hs:s.size≤1000000000000) (W0:World) (H:List Grp):Tri Tryz.prog 93 #[.string s,.int .i64 10,.int .i64 mi] W0 H (fun v H'=>(∃ n:Int,v=.tuple #[.int .i64 n,.int .i64 (digs s.data.toList:Int)])∧H'=H):=by
 refine C6 (args:=[.string s,.int .i64 10,.int .i64 mi]) (n:=40) Tryz.func93 rfl rfl (Nat.le_of_ble_eq_true rfl) ?_
 refine A1 (G_p [0,0] [0,1,2] (k:=?_))
 refine A0 (A1 ?_)
 refine G_p [0,0] [0,1,2,8,9] (k:=A0 ?_)
 refine A1 (B9 ?_)
 refine I6 (EI:=(fun ξ:Nat × Int=>[⟨0,[],.string s⟩,⟨1,[],.int .i64 10⟩,⟨2,[],.int .i64 mi⟩,⟨8,[],.int .i64 ξ.2⟩,⟨9,[],.int .i64 ((ξ.1:Nat):Int)⟩])) (HI:=(fun ξ:Nat × Int=>H)) (Φ:=(fun ξ:Nat × Int=>(ξ.1≤s.size)∧(digs s.data.toList=ξ.1+digs (s.data.toList.drop ξ.1)))) (μ:=(fun ξ:Nat × Int=>s.size - ξ.1)) (s0:=(0,0)) [0,1,2,8,9] kr rfl ⟨(Nat.zero_le _),(by rw [List.drop_zero,Nat.zero_add])⟩ ?_
 rintro ⟨k,n⟩ ⟨hk,hT⟩
 dsimp only at hk hT
 have hbyte:A7 s (k:Int)=((s.data.toList.getD k 0).toNat:Int):=J2 s k
 have hcr:=byte_rngR (s.data.toList.getD k 0)
 refine A1 (A1 ?_)
 refine A2 (A4 (j:=12) [0,0,0,0,0,0,0,0,6,0,0,0] (k:=?_))
 refine E4 (ch:=[(19,true)]) (s:=s) (kd:=.i64) (j:=((k:Nat):Int)) (hb:=(fun hc=>by have hg0:=I5 (t:=19) (c:=[]) (b:=(decide (((k:Nat):Int)<(s.size:Int)))&&(decide (((k:Nat):Int)<mi))) hc kr; (try simp at hg0); omega)) (k:=?_)
 have hb1:=D4 s ((k:Nat):Int)
 refine C4 (E':=[⟨22,[(19,true)],.int .u8 ((s.data.toList.getD k 0).toNat:Int)⟩,⟨21,[(19,true)],.int .i64 ((k:Nat):Int)⟩,⟨20,[(19,true)],.string s⟩,⟨19,[],.bool ((decide (((k:Nat):Int)<(s.size:Int)))&&(decide (((k:Nat):Int)<mi)))⟩,⟨18,[],.bool ((decide (((k:Nat):Int)<(s.size:Int)))&&(decide (((k:Nat):Int)<mi)))⟩,⟨17,[(14,true)],.bool (decide (((k:Nat):Int)<mi))⟩,⟨16,[(14,true)],.int .i64 mi⟩,⟨15,[(14,true)],.int .i64 ((k:Nat):Int)⟩,⟨14,[],.bool (decide (((k:Nat):Int)<(s.size:Int)))⟩,⟨13,[],.bool (decide (((k:Nat):Int)<(s.size:Int)))⟩,⟨12,[],.int .i64 (s.size:Int)⟩,⟨11,[],.string s⟩,⟨10,[],.int .i64 ((k:Nat):Int)⟩,⟨0,[],.string s⟩,⟨1,[],.int .i64 10⟩,⟨2,[],.int .i64 mi⟩,⟨8,[],.int .i64 n⟩,⟨9,[],.int .i64 ((k:Nat):Int)⟩]) (by have hz:([⟨22,[(19,true)],.int .u8 (A7 s ((k:Nat):Int))⟩,⟨21,[(19,true)],.int .i64 ((k:Nat):Int)⟩,⟨20,[(19,true)],.string s⟩,⟨19,[],.bool ((decide (((k:Nat):Int)<(s.size:Int)))&&(decide (((k:Nat):Int)<mi)))⟩,⟨18,[],.bool ((decide (((k:Nat):Int)<(s.size:Int)))&&(decide (((k:Nat):Int)<mi)))⟩,⟨17,[(14,true)],.bool (decide (((k:Nat):Int)<mi))⟩,⟨16,[(14,true)],.int .i64 mi⟩,⟨15,[(14,true)],.int .i64 ((k:Nat):Int)⟩,⟨14,[],.bool (decide (((k:Nat):Int)<(s.size:Int)))⟩,⟨13,[],.bool (decide (((k:Nat):Int)<(s.size:Int)))⟩,⟨12,[],.int .i64 (s.size:Int)⟩,⟨11,[],.string s⟩,⟨10,[],.int .i64 ((k:Nat):Int)⟩,⟨0,[],.string s⟩,⟨1,[],.int .i64 10⟩,⟨2,[],.int .i64 mi⟩,⟨8,[],.int .i64 n⟩,⟨9,[],.int .i64 ((k:Nat):Int)⟩]:List Sl)=[⟨22,[(19,true)],.int .u8 ((s.data.toList.getD k 0).toNat:Int)⟩,⟨21,[(19,true)],.int .i64 ((k:Nat):Int)⟩,⟨20,[(19,true)],.string s⟩,⟨19,[],.bool ((decide (((k:Nat):Int)<(s.size:Int)))&&(decide (((k:Nat):Int)<mi)))⟩,⟨18,[],.bool ((decide (((k:Nat):Int)<(s.size:Int)))&&(decide (((k:Nat):Int)<mi)))⟩,⟨17,[(14,true)],.bool (decide (((k:Nat):Int)<mi))⟩,⟨16,[(14,true)],.int .i64 mi⟩,⟨15,[(14,true)],.int .i64 ((k:Nat):Int)⟩,⟨14,[],.bool (decide (((k:Nat):Int)<(s.size:Int)))⟩,⟨13,[],.bool (decide (((k:Nat):Int)<(s.size:Int)))⟩,⟨12,[],.int .i64 (s.size:Int)⟩,⟨11,[],.string s⟩,⟨10,[],.int .i64 ((k:Nat):Int)⟩,⟨0,[],.string s⟩,⟨1,[],.int .i64 10⟩,⟨2,[],.int .i64 mi⟩,⟨8,[],.int .i64 n⟩,⟨9,[],.int .i64 ((k:Nat):Int)⟩]:=(by rw [hbyte]); exact Eq.trans kr hz) (A4 (j:=14) [0] (k:=?_))
 refine F7 (ch:=[(19,true)]) (f:=138) (fst:=#[]) (caps:=#[]) (vs:=[.int .u8 ((s.data.toList.getD k 0).toNat:Int),.int .i64 10]) (v:=.int .i64 (digB ((s.data.toList.getD k 0).toNat:Int) 10)) (hf:=Tryz.func138) (hc:=(fun hc=>digit_ ((s.data.toList.getD k 0).toNat:Int) 10 (by omega) (by omega) _ _)) (k:=B0 [0,6] [0,1,2,8,9,26] (k:=?_))
 refine A0 (B2 (b:=((decide (((k:Nat):Int)<(s.size:Int)))&&(decide (((k:Nat):Int)<mi)))&&(decide ((digB ((s.data.toList.getD k 0).toNat:Int) 10) ≥ 0))) kr (fun hc2=>?_) (fun hc2=>?_))
 ·
  simp only [Bool.and_eq_true,decide_eq_true_eq,ge_iff_le] at hc2
  refine A8 (A0 ?_)
  refine B9 (A1 ?_)
  refine A2 (A4 (j:=5) [0,0,0,0,0] (k:=?_))
  refine E4 (ch:=[]) (s:=s) (kd:=.i64) (j:=((k:Nat):Int)) (hb:=(fun _=>by omega)) (k:=?_)
  have hb3:=D4 s ((k:Nat):Int)
  refine C4 (E':=[⟨32,[],.int .u8 ((s.data.toList.getD k 0).toNat:Int)⟩,⟨31,[],.int .i64 ((k:Nat):Int)⟩,⟨30,[],.string s⟩,⟨29,[],.int .i64 (IntKind.wrap .i64 (10 * n))⟩,⟨28,[],.int .i64 n⟩,⟨27,[],.int .i64 10⟩,⟨0,[],.string s⟩,⟨1,[],.int .i64 10⟩,⟨2,[],.int .i64 mi⟩,⟨8,[],.int .i64 n⟩,⟨9,[],.int .i64 ((k:Nat):Int)⟩,⟨26,[],.bool (((decide (((k:Nat):Int)<(s.size:Int)))&&(decide (((k:Nat):Int)<mi)))&&(decide ((digB ((s.data.toList.getD k 0).toNat:Int) 10) ≥ 0)))⟩]) (by have hz:([⟨32,[],.int .u8 (A7 s ((k:Nat):Int))⟩,⟨31,[],.int .i64 ((k:Nat):Int)⟩,⟨30,[],.string s⟩,⟨29,[],.int .i64 (IntKind.wrap .i64 (10 * n))⟩,⟨28,[],.int .i64 n⟩,⟨27,[],.int .i64 10⟩,⟨0,[],.string s⟩,⟨1,[],.int .i64 10⟩,⟨2,[],.int .i64 mi⟩,⟨8,[],.int .i64 n⟩,⟨9,[],.int .i64 ((k:Nat):Int)⟩,⟨26,[],.bool (((decide (((k:Nat):Int)<(s.size:Int)))&&(decide (((k:Nat):Int)<mi)))&&(decide ((digB ((s.data.toList.getD k 0).toNat:Int) 10) ≥ 0)))⟩]:List Sl)=[⟨32,[],.int .u8 ((s.data.toList.getD k 0).toNat:Int)⟩,⟨31,[],.int .i64 ((k:Nat):Int)⟩,⟨30,[],.string s⟩,⟨29,[],.int .i64 (IntKind.wrap .i64 (10 * n))⟩,⟨28,[],.int .i64 n⟩,⟨27,[],.int .i64 10⟩,⟨0,[],.string s⟩,⟨1,[],.int .i64 10⟩,⟨2,[],.int .i64 mi⟩,⟨8,[],.int .i64 n⟩,⟨9,[],.int .i64 ((k:Nat):Int)⟩,⟨26,[],.bool (((decide (((k:Nat):Int)<(s.size:Int)))&&(decide (((k:Nat):Int)<mi)))&&(decide ((digB ((s.data.toList.getD k 0).toNat:Int) 10) ≥ 0)))⟩]:=(by rw [hbyte]); exact Eq.trans kr hz) (A4 (j:=7) [0] (k:=?_))
  refine H4 Tryz.func138 (digit_ ((s.data.toList.getD k 0).toNat:Int) 10 (by omega) (by omega) _ _) (B0 [0,0] [0,1,2,8,9] (k:=?_))
  refine A0 (A2 ?_)
  refine C0 (E':=[⟨37,[],.int .i64 (IntKind.wrap .i64 (((k:Nat):Int)+1))⟩,⟨0,[],.string s⟩,⟨1,[],.int .i64 10⟩,⟨2,[],.int .i64 mi⟩,⟨8,[],.int .i64 (IntKind.wrap .i64 ((IntKind.wrap .i64 (10 * n))+(digB ((s.data.toList.getD k 0).toNat:Int) 10)))⟩,⟨9,[],.int .i64 ((k:Nat):Int)⟩]) (j:=2) [0,0] (k:=C4 (E':=[⟨37,[],.int .i64 ((k+1:Nat):Int)⟩,⟨0,[],.string s⟩,⟨1,[],.int .i64 10⟩,⟨2,[],.int .i64 mi⟩,⟨8,[],.int .i64 (IntKind.wrap .i64 ((IntKind.wrap .i64 (10 * n))+(digB ((s.data.toList.getD k 0).toNat:Int) 10)))⟩,⟨9,[],.int .i64 ((k:Nat):Int)⟩]) (by rw [wrap_succ (by omega)]) ?_)
  refine B0 [0] [0,1,2,8,9] (k:=B8 ?_)
  refine E6 (s':=(k+1,IntKind.wrap .i64 ((IntKind.wrap .i64 (10 * n))+(digB ((s.data.toList.getD k 0).toNat:Int) 10)))) [0,1,2,8,9] kr rfl ⟨(by dsimp only; omega),(by dsimp only; exact digs_loop (by rw [E0]; omega) (by omega) hT)⟩ (by dsimp only; omega)
 ·
  simp only [Bool.and_eq_false_iff,decide_eq_false_iff_not,ge_iff_le] at hc2
  refine G3 (A9 ?_)
  refine A9 (C5 ?_)
  refine A0 (A1 ?_)
  refine G_p [0,0,0,0] [6,7] (k:=A0 ?_)
  refine B5 (B6 [.tmp 6,.tmp 7] [.int .i64 n,.int .i64 ((k:Nat):Int)] (k:=?_))
  have he:=digs_end (l:=s.data.toList) (k:=k) (by rw [E0]; omega) hT
  exact ⟨⟨_,by rw [he]; rfl⟩,rfl⟩
theorem rcountX_ (l:List UInt8) (k:Nat) (mi:Int) (hmi:(l.length:Int)≤mi) (hl:l.length≤1000000000000) (W0:World) (H:List Grp):Tri Tryz.prog 93 #[.string ((bk l).extract k (bk l).size),.int .i64 10,.int .i64 mi] W0 H (fun v H'=>(∃ n:Int,v=.tuple #[.int .i64 n,.int .i64 (digs (l.drop k):Int)])∧H'=H):=by
  have h:=rcount_ ((bk l).extract k (bk l).size) mi (by rw [ext_bk,C3,List.length_drop]; omega) (by rw [ext_bk,C3,List.length_drop]; omega) W0 H
  rwa [L9] at h
end Go.Proofs.YtppgfiklmfoaeaaGreatDoor
namespace Go.Proofs.YtppgfiklmfoaeaaGreatDoor
open Go.Sw Go.Sha Go.Esc Go.RowKit Go.Json
theorem get_no {l:List UInt8} {j:Nat} {c:UInt8} (hc:c≠0) (h:¬ ((j:Int)<((bk l).size:Int))∨¬ l.getD j 0=c):¬ l.getD j 0=c:=by
  rcases h with h | h
  · rw [drop_none (by rw [C3] at h; omega)]; exact fun hn=>hc hn.symm
  · exact h
theorem rnum_ (l:List UInt8) (hl:l.length≤1000000000000) (W0:World) (H:List Grp):Tri Tryz.prog 54 #[.string (bk l)] W0 H (fun v H'=>v=.int .i64 (F8 l:Int)∧H'=H):=by
 have hbz:=C3 l
 refine C6 (args:=[.string (bk l)]) (n:=119) Tryz.func54 rfl rfl (Nat.le_of_ble_eq_true rfl) ?_
 refine A1 (B7 (E':=[⟨0,[],.string (bk l)⟩]) [0] [0] (k:=?_))
 refine A0 (A1 ?_)
 refine G_p [0] [0,3] (k:=A0 ?_)
 refine A1 (A1 ?_)
 refine A2 (A4 (j:=7) [0,0,0,0,0,0,0] (k:=?_))
 refine E4 (ch:=[(10,true)]) (s:=(bk l)) (kd:=.i64) (j:=0) (hb:=(fun hc=>by have hg0:=I5 (t:=10) (c:=[]) (b:=decide (0<((bk l).size:Int))) hc kr; (try simp at hg0); omega)) (k:=?_)
 have hb1:=D4 (bk l) 0
 refine B0 [0,6] [0,3,15] (k:=A0 ?_)
 refine G_join (T:=Nat) (fun ξ:Nat=>[⟨0,[],.string (bk l)⟩,⟨3,[],.int .i64 ((ξ:Nat):Int)⟩]) (fun ξ:Nat=>H) (fun ξ:Nat=>(ξ=sgn l)) ?_ ?_
 ·
  refine B2 (b:=(decide (0<((bk l).size:Int)))&&((A7 (bk l) 0)==45)) kr (fun hc2=>?_) (fun hc2=>?_)
  ·
   simp only [Bool.and_eq_true,decide_eq_true_eq,beq_iff_eq,I3,u45] at hc2
   have hm:l.getD 0 0=45:=hc2.2
   refine G_p [0,0,0] [0,3] (k:=K4 (1) [0,3] kr (fun w h=>h) (by first | exact (if_pos hm).symm | exact (if_neg hm).symm))
  ·
   simp only [Bool.and_eq_false_iff,decide_eq_false_iff_not,beq_eq_false_iff_ne,ne_eq,I3,u45] at hc2
   have hm:¬ l.getD 0 0=45:=get_no (j:=0) (by decide) hc2
   refine A8 (K4 (0) [0,3] kr (fun w h=>h) (by first | exact (if_pos hm).symm | exact (if_neg hm).symm))
 ·
  rintro i hi
  have hil:i≤l.length:=by rw [hi]; exact sgn_le
  have hidl:=J7 l hil
  refine A0 (A1 ?_)
  refine A2 (A4 (j:=2) [0,0] (k:=?_))
  refine F6 (ch:=[]) (s:=(bk l)) (vl:=(some (.int .i64 ((i:Nat):Int)))) (vh:=none) (l:=((i:Nat):Int)) (h:=((bk l).size:Int)) (hb:=(fun _=>by omega)) (k:=A4 (j:=5) [0,0] (k:=?_))
  refine D8 Tryz.func93 (rcountX_ l i ((bk l).size:Int) (by rw [C3]; omega) (by omega) _ _) ?_
  rintro _ H9 ⟨⟨n3,rfl⟩,hH9⟩
  subst H9
  refine B0 [0,0,0,0,0] [0,3,5] (k:=A0 ?_)
  refine A1 (A1 ?_)
  refine A2 (A4 (j:=5) [0,0,0,0,0] (k:=?_))
  refine E4 (ch:=[(29,false)]) (s:=(bk l)) (kd:=.i64) (j:=((i:Nat):Int)) (hb:=(fun hc=>by have hg0:=I5 (t:=29) (c:=[]) (b:=(digs (l.drop i):Int)==0) hc kr; (try simp at hg0); omega)) (k:=?_)
  have hb4:=D4 (bk l) ((i:Nat):Int)
  refine B0 [0,0,0,0,6,5] [0,3,5,38] (k:=A0 ?_)
  refine B2 (b:=((digs (l.drop i):Int)==0)||(((A7 (bk l) ((i:Nat):Int))==48)&&(decide ((digs (l.drop i):Int) > 1)))) kr (fun hc5=>?_) (fun hc5=>?_)
  ·
   simp only [Bool.and_eq_true,Bool.or_eq_true,decide_eq_true_eq,beq_iff_eq,gt_iff_lt,L6,u48] at hc5
   have hz:=hc5
   refine A1 (B7 (E':=[⟨2,[],.int .i64 0⟩]) [0] [2] (k:=?_))
   refine A0 (B5 ?_)
   refine A3 (B6 [.tmp 2] [.int .i64 0] (k:=?_))
   exact ⟨congrArg (fun n:Nat=>Value.int .i64 (n:Int)) (num_int hi (by rcases hz with h | h; exact .inl (by omega); exact .inr ⟨by omega,h.1⟩)).symm,rfl⟩
  ·
   simp only [Bool.and_eq_false_iff,Bool.or_eq_false_iff,decide_eq_false_iff_not,beq_eq_false_iff_ne,ne_eq,gt_iff_lt,L6,u48] at hc5
   have hz:=hc5
   obtain ⟨j,hj⟩:∃ j:Nat,j=i+digs (l.drop i):=⟨_,rfl⟩
   have hI:intP l=j:=int_ok hi hj (by omega) (by rintro ⟨h1,h2⟩; rcases hz.2 with h | h; exact h h2; omega)
   have hjl:=J7 l hil
   rw [← hj] at hjl
   have hj0:j≠0:=by omega
   refine A8 (A0 ?_)
   refine A1 ?_
   have hw6:IntKind.wrap .i64 (((i:Nat):Int)+(digs (l.drop i):Int))=((i:Nat):Int)+(digs (l.drop i):Int):=w64 (by omega) (by omega)
   refine A2 (C0 (E':=[⟨41,[],.int .i64 (((i:Nat):Int)+(digs (l.drop i):Int))⟩,⟨0,[],.string (bk l)⟩,⟨3,[],.int .i64 ((i:Nat):Int)⟩]) [0,0,0] (Eq.trans (b:=some [⟨41,[],.int .i64 (IntKind.wrap .i64 (((i:Nat):Int)+(digs (l.drop i):Int)))⟩,⟨0,[],.string (bk l)⟩,⟨3,[],.int .i64 ((i:Nat):Int)⟩]) kr (by simp only [hw6])) (j:=3) rfl ?_)
   refine C4 (E':=[⟨41,[],.int .i64 ((j:Nat):Int)⟩,⟨0,[],.string (bk l)⟩,⟨3,[],.int .i64 ((i:Nat):Int)⟩]) (by rw [show ((i:Nat):Int)+(digs (l.drop i):Int)=((j:Nat):Int) by omega]) (B0 [0] [0,3] (k:=?_))
   refine A0 (A1 ?_)
   refine A1 (A2 ?_)
   refine A4 (j:=7) [0,0,0,0,0,0,0] (k:=E4 (ch:=[(46,true)]) (s:=(bk l)) (kd:=.i64) (j:=((j:Nat):Int)) (hb:=(fun hc=>by have hg0:=I5 (t:=46) (c:=[]) (b:=decide (((j:Nat):Int)<((bk l).size:Int))) hc kr; (try simp at hg0); omega)) (k:=?_))
   have hb7:=D4 (bk l) ((j:Nat):Int)
   refine B0 [0,6] [0,3,51] (k:=A0 ?_)
   refine G_joinR (T:=Nat) (fun ξ:Nat=>[⟨0,[],.string (bk l)⟩,⟨3,[],.int .i64 ((ξ:Nat):Int)⟩]) (fun ξ:Nat=>H) (fun ξ:Nat=>(ξ=Q7 l j)∧(ξ≠0)∧(ξ≤l.length)) ?_ ?_
   ·
    refine B2 (b:=(decide (((j:Nat):Int)<((bk l).size:Int)))&&((A7 (bk l) ((j:Nat):Int))==46)) kr (fun hc8=>?_) (fun hc8=>?_)
    ·
     simp only [Bool.and_eq_true,decide_eq_true_eq,beq_iff_eq,L6,u46] at hc8
     have hd:l.getD j 0=46:=hc8.2
     have hjlt:=get_lt hd (by decide)
     refine A1 (A2 ?_)
     refine A4 (j:=3) [0,0,0] (k:=D5 55 (((j:Nat):Int)+1) (by omega) (by omega) kr ?_)
     refine F6 (ch:=[]) (s:=(bk l)) (vl:=(some (.int .i64 (((j:Nat):Int)+1)))) (vh:=none) (l:=((j:Nat):Int)+1) (h:=((bk l).size:Int)) (hb:=(fun _=>by omega)) (k:=C4 (E':=[⟨56,[],.string ((bk l).extract (j+1) (bk l).size)⟩,⟨55,[],.int .i64 (((j:Nat):Int)+1)⟩,⟨54,[],.int .i64 ((j:Nat):Int)⟩,⟨53,[],.string (bk l)⟩,⟨0,[],.string (bk l)⟩,⟨3,[],.int .i64 ((j:Nat):Int)⟩,⟨51,[],.bool ((decide (((j:Nat):Int)<((bk l).size:Int)))&&((A7 (bk l) ((j:Nat):Int))==46))⟩]) (by have hz:([⟨56,[],.string ((bk l).extract (Int.toNat (((j:Nat):Int)+1)) (bk l).size)⟩,⟨55,[],.int .i64 (((j:Nat):Int)+1)⟩,⟨54,[],.int .i64 ((j:Nat):Int)⟩,⟨53,[],.string (bk l)⟩,⟨0,[],.string (bk l)⟩,⟨3,[],.int .i64 ((j:Nat):Int)⟩,⟨51,[],.bool ((decide (((j:Nat):Int)<((bk l).size:Int)))&&((A7 (bk l) ((j:Nat):Int))==46))⟩]:List Sl)=[⟨56,[],.string ((bk l).extract (j+1) (bk l).size)⟩,⟨55,[],.int .i64 (((j:Nat):Int)+1)⟩,⟨54,[],.int .i64 ((j:Nat):Int)⟩,⟨53,[],.string (bk l)⟩,⟨0,[],.string (bk l)⟩,⟨3,[],.int .i64 ((j:Nat):Int)⟩,⟨51,[],.bool ((decide (((j:Nat):Int)<((bk l).size:Int)))&&((A7 (bk l) ((j:Nat):Int))==46))⟩]:=(by rw [toNatJ]); exact Eq.trans kr hz) ?_)
     refine A4 (j:=6) [0,0] (k:=D8 Tryz.func93 (rcountX_ l (j+1) ((bk l).size:Int) (by rw [C3]; omega) (by omega) _ _) ?_)
     rintro _ H9 ⟨⟨n10,rfl⟩,hH9⟩
     subst H9
     refine B0 [0,0,0,0] [0,3,5] (k:=A0 ?_)
     refine A1 (A1 ?_)
     refine B7 (E':=[⟨0,[],.string (bk l)⟩,⟨3,[],.int .i64 ((j:Nat):Int)⟩,⟨5,[],.int .i64 (digs (l.drop (j+1)):Int)⟩,⟨63,[],.bool ((digs (l.drop (j+1)):Int)==0)⟩]) [0,0] [0,3,5,63] (k:=A0 ?_)
     refine B2 (b:=(digs (l.drop (j+1)):Int)==0) kr (fun hc11=>?_) (fun hc11=>?_)
     ·
      simp only [beq_iff_eq] at hc11
      have hz:=hc11
      refine A1 (B7 (E':=[⟨2,[],.int .i64 0⟩]) [0] [2] (k:=?_))
      refine A0 (B5 ?_)
      refine A3 (N_joinRet ?_)
      refine A3 (B6 [.tmp 2] [.int .i64 0] (k:=?_))
      exact ⟨congrArg (fun n:Nat=>Value.int .i64 (n:Int)) (num_frac hI (frac_bad hd (by omega))).symm,rfl⟩
     ·
      simp only [beq_eq_false_iff_ne,ne_eq] at hc11
      have hz:=hc11
      have hjlt:=get_lt hd (by decide)
      obtain ⟨k,hjk⟩:∃ k:Nat,k=j+1+digs (l.drop (j+1)):=⟨_,rfl⟩
      have hkle:=J7 l (k:=j+1) (by omega)
      rw [← hjk] at hkle
      refine A8 (A0 ?_)
      refine A2 (A4 (j:=3) [0,0,0] (k:=?_))
      refine D5 66 ((digs (l.drop (j+1)):Int)+1) (by omega) (by omega) kr ?_
      have hw13:IntKind.wrap .i64 (((j:Nat):Int)+((digs (l.drop (j+1)):Int)+1))=((j:Nat):Int)+((digs (l.drop (j+1)):Int)+1):=w64 (by omega) (by omega)
      refine C0 (E':=[⟨67,[],.int .i64 (((j:Nat):Int)+((digs (l.drop (j+1)):Int)+1))⟩,⟨0,[],.string (bk l)⟩,⟨3,[],.int .i64 ((j:Nat):Int)⟩]) [0] (Eq.trans (b:=some [⟨67,[],.int .i64 (IntKind.wrap .i64 (((j:Nat):Int)+((digs (l.drop (j+1)):Int)+1)))⟩,⟨0,[],.string (bk l)⟩,⟨3,[],.int .i64 ((j:Nat):Int)⟩]) kr (by simp only [hw13])) (j:=4) rfl (C4 (E':=[⟨67,[],.int .i64 ((k:Nat):Int)⟩,⟨0,[],.string (bk l)⟩,⟨3,[],.int .i64 ((j:Nat):Int)⟩]) (by rw [show ((j:Nat):Int)+((digs (l.drop (j+1)):Int)+1)=((k:Nat):Int) by omega]) ?_)
      refine B0 [0] [0,3] (k:=N_joinR (k) [0,3] kr (fun w h=>h) ⟨(by first | exact (frac_no hd).symm | exact hjk.trans (frac_ok hd (by omega)).symm),(by omega),(by omega)⟩)
    ·
     simp only [Bool.and_eq_false_iff,decide_eq_false_iff_not,beq_eq_false_iff_ne,ne_eq,L6,u46] at hc8
     have hd:¬ l.getD j 0=46:=get_no (by decide) hc8
     refine A8 (N_joinR (j) [0,3] kr (fun w h=>h) ⟨(by first | exact (frac_no hd).symm | exact hjk.trans (frac_ok hd (by omega)).symm),(by omega),(by omega)⟩)
   ·
    rintro k ⟨hk,hk0,hkl⟩
    refine A0 (A1 ?_)
    refine A1 (A2 ?_)
    refine A4 (j:=7) [0,0,0,0,0,0,0] (k:=E4 (ch:=[(72,true)]) (s:=(bk l)) (kd:=.i64) (j:=((k:Nat):Int)) (hb:=(fun hc=>by have hg0:=I5 (t:=72) (c:=[]) (b:=decide (((k:Nat):Int)<((bk l).size:Int))) hc kr; (try simp at hg0); omega)) (k:=?_))
    have hb14:=D4 (bk l) ((k:Nat):Int)
    refine A4 (j:=12) [0,0,0,0] (k:=E4 (ch:=[(77,false),(72,true)]) (s:=(bk l)) (kd:=.i64) (j:=((k:Nat):Int)) (hb:=(fun hc=>by have hg0:=I5 (t:=77) (c:=[(72,true)]) (b:=(A7 (bk l) ((k:Nat):Int))==101) hc kr; have hg1:=I5 (t:=72) (c:=[]) (b:=decide (((k:Nat):Int)<((bk l).size:Int))) (chB_tl hc) kr; (try simp at hg0 hg1); omega)) (k:=?_))
    have hb15:=D4 (bk l) ((k:Nat):Int)
    refine B0 [0,5,6] [0,3,83] (k:=A0 ?_)
    refine B2 (b:=(decide (((k:Nat):Int)<((bk l).size:Int)))&&(((A7 (bk l) ((k:Nat):Int))==101)||((A7 (bk l) ((k:Nat):Int))==69))) kr (fun hc16=>?_) (fun hc16=>?_)
    ·
     simp only [Bool.and_eq_true,Bool.or_eq_true,decide_eq_true_eq,beq_iff_eq,L6,u101,u69] at hc16
     have hz:=hc16
     refine A1 ?_
     have hw17:IntKind.wrap .i64 (((k:Nat):Int)+1)=((k:Nat):Int)+1:=w64 (by omega) (by omega)
     refine A2 (C0 (E':=[⟨85,[],.int .i64 (((k:Nat):Int)+1)⟩,⟨0,[],.string (bk l)⟩,⟨3,[],.int .i64 ((k:Nat):Int)⟩]) [0,0] (Eq.trans (b:=some [⟨85,[],.int .i64 (IntKind.wrap .i64 (((k:Nat):Int)+1))⟩,⟨0,[],.string (bk l)⟩,⟨3,[],.int .i64 ((k:Nat):Int)⟩]) kr (by simp only [hw17])) (j:=2) rfl ?_)
     refine C4 (E':=[⟨85,[],.int .i64 ((k+1:Nat):Int)⟩,⟨0,[],.string (bk l)⟩,⟨3,[],.int .i64 ((k:Nat):Int)⟩]) (by rw [show ((k:Nat):Int)+1=((k+1:Nat):Int) by omega]) (B0 [0] [0,3] (k:=?_))
     refine A0 (A1 ?_)
     refine A1 (A2 ?_)
     refine A4 (j:=7) [0,0,0,0,0,0,0] (k:=E4 (ch:=[(90,true)]) (s:=(bk l)) (kd:=.i64) (j:=((k+1:Nat):Int)) (hb:=(fun hc=>by have hg0:=I5 (t:=90) (c:=[]) (b:=decide (((k+1:Nat):Int)<((bk l).size:Int))) hc kr; (try simp at hg0); omega)) (k:=?_))
     have hb18:=D4 (bk l) ((k+1:Nat):Int)
     refine A4 (j:=12) [0,0,0,0] (k:=E4 (ch:=[(95,false),(90,true)]) (s:=(bk l)) (kd:=.i64) (j:=((k+1:Nat):Int)) (hb:=(fun hc=>by have hg0:=I5 (t:=95) (c:=[(90,true)]) (b:=(A7 (bk l) ((k+1:Nat):Int))==43) hc kr; have hg1:=I5 (t:=90) (c:=[]) (b:=decide (((k+1:Nat):Int)<((bk l).size:Int))) (chB_tl hc) kr; (try simp at hg0 hg1); omega)) (k:=?_))
     have hb19:=D4 (bk l) ((k+1:Nat):Int)
     refine B0 [0,5,6] [0,3,101] (k:=A0 ?_)
     refine G_join (T:=Nat) (fun ξ:Nat=>[⟨0,[],.string (bk l)⟩,⟨3,[],.int .i64 ((ξ:Nat):Int)⟩]) (fun ξ:Nat=>H) (fun ξ:Nat=>(ξ=sgn2 l (k+1))∧(ξ≤l.length)) ?_ ?_
     ·
      refine B2 (b:=(decide (((k+1:Nat):Int)<((bk l).size:Int)))&&(((A7 (bk l) ((k+1:Nat):Int))==43)||((A7 (bk l) ((k+1:Nat):Int))==45))) kr (fun hc20=>?_) (fun hc20=>?_)
      ·
       simp only [Bool.and_eq_true,Bool.or_eq_true,decide_eq_true_eq,beq_iff_eq,L6,u45,u43] at hc20
       have h5:=hc20
       have hw21:IntKind.wrap .i64 (((k+1:Nat):Int)+1)=((k+1:Nat):Int)+1:=w64 (by omega) (by omega)
       refine A2 (C0 (E':=[⟨103,[],.int .i64 (((k+1:Nat):Int)+1)⟩,⟨0,[],.string (bk l)⟩,⟨3,[],.int .i64 ((k+1:Nat):Int)⟩]) [0,0] (Eq.trans (b:=some [⟨103,[],.int .i64 (IntKind.wrap .i64 (((k+1:Nat):Int)+1))⟩,⟨0,[],.string (bk l)⟩,⟨3,[],.int .i64 ((k+1:Nat):Int)⟩]) kr (by simp only [hw21])) (j:=2) rfl ?_)
       refine C4 (E':=[⟨103,[],.int .i64 ((k+2:Nat):Int)⟩,⟨0,[],.string (bk l)⟩,⟨3,[],.int .i64 ((k+1:Nat):Int)⟩]) (by rw [show ((k+1:Nat):Int)+1=((k+2:Nat):Int) by omega]) (B0 [0] [0,3] (k:=?_))
       refine K4 (k+2) [0,3] kr (fun w h=>h) ⟨(by first | exact (sgn2_yes h5.2).symm | exact (sgn2_no (by rcases h5 with h | h; exact .inl (by omega); exact .inr (by rintro (h1 | h1); exact h.1 h1; exact h.2 h1))).symm),(by omega)⟩
      ·
       simp only [Bool.and_eq_false_iff,Bool.or_eq_false_iff,decide_eq_false_iff_not,beq_eq_false_iff_ne,ne_eq,L6,u45,u43] at hc20
       have h5:=hc20
       refine A8 (K4 (k+1) [0,3] kr (fun w h=>h) ⟨(by first | exact (sgn2_yes h5.2).symm | exact (sgn2_no (by rcases h5 with h | h; exact .inl (by omega); exact .inr (by rintro (h1 | h1); exact h.1 h1; exact h.2 h1))).symm),(by omega)⟩)
     ·
      rintro m ⟨hm2,hml⟩
      refine A0 (A1 ?_)
      refine A2 (A4 (j:=2) [0,0] (k:=?_))
      refine F6 (ch:=[]) (s:=(bk l)) (vl:=(some (.int .i64 ((m:Nat):Int)))) (vh:=none) (l:=((m:Nat):Int)) (h:=((bk l).size:Int)) (hb:=(fun _=>by omega)) (k:=A4 (j:=5) [0,0] (k:=?_))
      refine D8 Tryz.func93 (rcountX_ l m ((bk l).size:Int) (by rw [C3]; omega) (by omega) _ _) ?_
      rintro _ H9 ⟨⟨n22,rfl⟩,hH9⟩
      subst H9
      refine B0 [0,0,0,0] [3,5] (k:=A0 ?_)
      refine A1 (A1 ?_)
      refine G_p [0,0] [3,5,114] (k:=A0 ?_)
      refine B2 (b:=(digs (l.drop m):Int)==0) kr (fun hc23=>?_) (fun hc23=>?_)
      ·
       simp only [beq_iff_eq] at hc23
       have h6:=hc23
       refine A1 (B7 (E':=[⟨2,[],.int .i64 0⟩]) [0] [2] (k:=?_))
       refine A0 (B5 ?_)
       refine A3 (A3 ?_)
       refine B6 [.tmp 2] [.int .i64 0] (k:=?_)
       exact ⟨congrArg (fun n:Nat=>Value.int .i64 (n:Int)) ((num_exp hI hj0 hk hk0).trans (exp_bad hz.2 hm2 (by omega))).symm,rfl⟩
      ·
       simp only [beq_eq_false_iff_ne,ne_eq] at hc23
       obtain ⟨n,hn⟩:∃ n:Nat,n=m+digs (l.drop m):=⟨_,rfl⟩
       have hnl:=J7 l hml
       rw [← hn] at hnl
       have h6:=hc23
       refine A8 (A0 ?_)
       have hw24:IntKind.wrap .i64 (((m:Nat):Int)+(digs (l.drop m):Int))=((m:Nat):Int)+(digs (l.drop m):Int):=w64 (by omega) (by omega)
       refine A2 (C0 (E':=[⟨117,[],.int .i64 (((m:Nat):Int)+(digs (l.drop m):Int))⟩,⟨3,[],.int .i64 ((m:Nat):Int)⟩]) [0,0,0] (Eq.trans (b:=some [⟨117,[],.int .i64 (IntKind.wrap .i64 (((m:Nat):Int)+(digs (l.drop m):Int)))⟩,⟨3,[],.int .i64 ((m:Nat):Int)⟩]) kr (by simp only [hw24])) (j:=3) rfl ?_)
       refine C4 (E':=[⟨117,[],.int .i64 ((n:Nat):Int)⟩,⟨3,[],.int .i64 ((m:Nat):Int)⟩]) (by rw [show ((m:Nat):Int)+(digs (l.drop m):Int)=((n:Nat):Int) by omega]) (B1 (E':=[⟨3,[],.int .i64 ((n:Nat):Int)⟩]) [0] [3] (k:=?_))
       refine A0 (A1 ?_)
       refine B7 (E':=[⟨2,[],.int .i64 ((n:Nat):Int)⟩]) [0,0] [2] (k:=A0 ?_)
       refine B5 (B6 [.tmp 2] [.int .i64 ((n:Nat):Int)] (k:=?_))
       exact ⟨congrArg (fun n:Nat=>Value.int .i64 (n:Int)) ((num_exp hI hj0 hk hk0).trans ((exp_ok hz.2 hm2 (by omega)).trans hn.symm)).symm,rfl⟩
    ·
     simp only [Bool.and_eq_false_iff,Bool.or_eq_false_iff,decide_eq_false_iff_not,beq_eq_false_iff_ne,ne_eq,L6,u101,u69] at hc16
     have hz:=hc16
     refine A8 (A0 ?_)
     refine A1 (B7 (E':=[⟨2,[],.int .i64 ((k:Nat):Int)⟩]) [0,0] [2] (k:=?_))
     refine A0 (B5 ?_)
     refine B6 [.tmp 2] [.int .i64 ((k:Nat):Int)] (k:=?_)
     exact ⟨congrArg (fun n:Nat=>Value.int .i64 (n:Int)) ((num_exp hI hj0 hk hk0).trans (exp_no (by rcases hz with h | h; exact .inl (by omega); exact .inr (by rintro (h1 | h1); exact h.1 h1; exact h.2 h1)))).symm,rfl⟩
end Go.Proofs.YtppgfiklmfoaeaaGreatDoor
namespace Go.Proofs.YtppgfiklmfoaeaaGreatDoor
open Go.Sw Go.Sha Go.Esc Go.RowKit Go.Json
theorem N4 {lv:Nat} {x:JV} (hB:RtB x) (h6:¬ (x.kind=6∧x.names.length≠x.list.length)) (h3:x.kind≠3) (h4:x.kind≠4) (h5:¬ (5≤x.kind∧lv=0)) (ht:x.text=[]):rtP lv x=(x.names.all D2&&rtL (lv - 1) x.list):=by
  rw [rt_step hB,if_neg h6,if_neg h3,if_neg h4,if_neg (by rintro (h | h); exact h ht; exact h5 h)]
theorem rt_AC {lv:Nat} {x:JV} (h0:0≤x.kind∧x.kind≤6) (h:(x.kind<5∧0<x.list.length)∨(x.kind≠6∧0<x.names.length)∨(x.kind=6∧x.names.length≠x.list.length)):rtP lv x=false:=by
  by_cases hA:(x.kind<0∨6<x.kind)∨(x.kind≠5∧x.kind≠6∧0<x.list.length)∨(x.kind≠6∧0<x.names.length)
  · exact rt_A hA
  · exact rt_C (rt_B (fun a=>hA (.inl a)) (fun a=>hA (.inr (.inl a))) (fun a=>hA (.inr (.inr a)))) (.inl (by omega))
theorem rt_B2 {x:JV} (h0:0≤x.kind∧x.kind≤6) (h:¬ ((x.kind<5∧0<x.list.length)∨(x.kind≠6∧0<x.names.length)∨(x.kind=6∧x.names.length≠x.list.length))):RtB x∧¬ (x.kind=6∧x.names.length≠x.list.length) :=
  ⟨rt_B (by omega) (by omega) (by omega),by omega⟩
theorem rright0_ (x:JV) (an:Option Addr) (cn:Nat) (al:Option Addr) (cl:Nat) (cs:List Value) (S:Nat→Obj→Prop) (_:Rd S an (E7 x.names)) (_:Rd S al cs) (_:JRdL S x.list cs) (hk6:x.kind≠5∧x.kind≠6) (lv:Nat) (_:lv≤24) (d:Int) (hd:d=24 - (lv:Int)) (hw:wtJ x≤1000000000)  (W0:World) (H:List Grp) (_:∀ y o,S y o→At W0 H y o):Tri Tryz.prog 23 #[.agg #[.int .i64 x.kind,.string (bk x.text),.slice an x.names.length cn,.slice al x.list.length cl],.int .i64 d] W0 H (fun v H'=>v=.bool (rtP lv x)∧H'=H):=by
  have hxl:=H8 x
  have hcw:=K9 x
  have hxt:x.text.length<wtJ x:=by rw [M7 x]; omega
  have hbz:=C3 x.text
  refine C6 (args:=[.agg #[.int .i64 x.kind,.string (bk x.text),.slice an x.names.length cn,.slice al x.list.length cl],.int .i64 d]) (n:=111) Tryz.func23 rfl rfl (Nat.le_of_ble_eq_true rfl) ?_
  refine A1 (A2 ?_)
  refine G7 (ch:=[]) (v:=.agg #[.int .i64 x.kind,.string (bk x.text),.slice an x.names.length cn,.slice al x.list.length cl]) (k:=(fun b1=>?_))
  refine B1 (E':=[⟨1,[],.int .i64 d⟩,⟨2,[],pt b1⟩]) [0] [1,2] (k:=A0 ?_)
  refine A1 (A1 ?_)
  refine A2 (A4 (j:=1) [0] (k:=?_))
  refine A5 (ch:=[]) (b:=b1) (off:=0) (v:=.int .i64 x.kind) (hA:=At.grp 0 0 rfl rfl) (k:=A4 (j:=5) [0,0,0] (k:=?_))
  refine A5 (ch:=[(9,false)]) (b:=b1) (off:=0) (v:=.int .i64 x.kind) (hA:=At.grp 0 0 rfl rfl) (k:=B0 [0,5] [1,2,13] (k:=?_))
  refine A0 (B2 (b:=(decide (x.kind<0))||(decide (x.kind > 6))) kr (fun hc2=>?_) (fun hc2=>?_))
  ·
    simp only [Bool.or_eq_true,decide_eq_true_eq,gt_iff_lt] at hc2
    refine A1 (B7 (E':=[⟨4,[],.bool false⟩]) [0] [4] (k:=?_))
    refine A0 (B5 ?_)
    refine A3 (C1 (H':=H) (fun w h=>(h.erase 0)) ?_)
    refine B6 [.tmp 4] [.bool false] (k:=?_)
    exact ⟨congrArg Value.bool (Eq.symm (by first | exact rt_A (.inl (by omega)) | exact rt_AC h06 (by omega) | exact (O1 hB (by omega)).trans (J1 _).symm | exact K7 hB (by omega) | exact hz80 | exact hz109 | exact (N4 hB h6 (by omega) (by omega) h5 ht).trans (by rw [hN1,hR1]; rfl))),rfl⟩
  ·
    simp only [Bool.or_eq_false_iff,decide_eq_false_iff_not,gt_iff_lt] at hc2
    have h06:0≤x.kind∧x.kind≤6:=by omega
    refine A8 (A0 ?_)
    refine A1 (A1 ?_)
    refine A2 (A4 (j:=1) [0] (k:=?_))
    refine A5 (ch:=[]) (b:=b1) (off:=0) (v:=.int .i64 x.kind) (hA:=At.grp 0 0 rfl rfl) (k:=A4 (j:=5) [0,0,0] (k:=?_))
    refine A5 (ch:=[(17,true)]) (b:=b1) (off:=3) (v:=.slice al x.list.length cl) (hA:=At.grp 0 0 rfl rfl) (k:=A4 (j:=11) [0,0,6,0,0] (k:=?_))
    refine A5 (ch:=[(23,false)]) (b:=b1) (off:=0) (v:=.int .i64 x.kind) (hA:=At.grp 0 0 rfl rfl) (k:=A4 (j:=15) [0,0,0] (k:=?_))
    refine A5 (ch:=[(27,true),(23,false)]) (b:=b1) (off:=2) (v:=.slice an x.names.length cn) (hA:=At.grp 0 0 rfl rfl) (k:=A4 (j:=22) [0,0,6,5,0,0] (k:=?_))
    refine A5 (ch:=[(34,false)]) (b:=b1) (off:=0) (v:=.int .i64 x.kind) (hA:=At.grp 0 0 rfl rfl) (k:=A4 (j:=26) [0,0,0] (k:=?_))
    refine A5 (ch:=[(38,true),(34,false)]) (b:=b1) (off:=2) (v:=.slice an x.names.length cn) (hA:=At.grp 0 0 rfl rfl) (k:=A4 (j:=29) [0,0] (k:=?_))
    refine A5 (ch:=[(38,true),(34,false)]) (b:=b1) (off:=3) (v:=.slice al x.list.length cl) (hA:=At.grp 0 0 rfl rfl) (k:=B0 [0,0,6,5] [1,2,47] (k:=?_))
    refine A0 (B2 (b:=(((decide (x.kind<5))&&(decide (((x.list.length:Nat):Int) > 0)))||((x.kind != 6)&&(decide (((x.names.length:Nat):Int) > 0))))||((x.kind==6)&&(((x.names.length:Nat):Int) != ((x.list.length:Nat):Int)))) kr (fun hc3=>?_) (fun hc3=>?_))
    ·
      simp only [Bool.and_eq_true,Bool.or_eq_true,decide_eq_true_eq,beq_iff_eq,bne_iff_ne,ne_eq,gt_iff_lt] at hc3
      refine A1 (B7 (E':=[⟨4,[],.bool false⟩]) [0] [4] (k:=?_))
      refine A0 (B5 ?_)
      refine A3 (C1 (H':=H) (fun w h=>(h.erase 0)) ?_)
      refine B6 [.tmp 4] [.bool false] (k:=?_)
      exact ⟨congrArg Value.bool (Eq.symm (by first | exact rt_A (.inl (by omega)) | exact rt_AC h06 (by omega) | exact (O1 hB (by omega)).trans (J1 _).symm | exact K7 hB (by omega) | exact hz80 | exact hz109 | exact (N4 hB h6 (by omega) (by omega) h5 ht).trans (by rw [hN1,hR1]; rfl))),rfl⟩
    ·
      simp only [Bool.and_eq_false_iff,Bool.or_eq_false_iff,decide_eq_false_iff_not,beq_eq_false_iff_ne,bne_eq_false_iff_eq,ne_eq,gt_iff_lt] at hc3
      obtain ⟨hB,h6⟩:=rt_B2 h06 (by omega)
      refine A8 (A0 ?_)
      refine A1 (A1 ?_)
      refine A2 (A4 (j:=1) [0] (k:=?_))
      refine A5 (ch:=[]) (b:=b1) (off:=0) (v:=.int .i64 x.kind) (hA:=At.grp 0 0 rfl rfl) (k:=B0 [0] [1,2,50] (k:=?_))
      refine A0 (B2 (b:=x.kind==3) kr (fun hc4=>?_) (fun hc4=>?_))
      ·
        simp only [beq_iff_eq] at hc4
        refine A1 (M1 (k:=?_))
        refine A4 (j:=1) [0] (k:=A5 (ch:=[]) (b:=b1) (off:=1) (v:=.string (bk x.text)) (hA:=At.grp 0 0 rfl rfl) (k:=?_))
        refine A4 (j:=5) [0,0,0] (k:=A5 (ch:=[(54,true)]) (b:=b1) (off:=1) (v:=.string (bk x.text)) (hA:=At.grp 0 0 rfl rfl) (k:=?_))
        refine F7 (ch:=[(54,true)]) (f:=54) (fst:=#[]) (caps:=#[]) (vs:=[.string (bk x.text)]) (v:=.int .i64 (F8 x.text:Int)) (hf:=Tryz.func54) (hc:=(fun hc=>rnum_ x.text (by omega) _ _)) (k:=A4 (j:=8) [0] (k:=?_))
        refine A5 (ch:=[(54,true)]) (b:=b1) (off:=1) (v:=.string (bk x.text)) (hA:=At.grp 0 0 rfl rfl) (k:=B0 [0,0,6,0] [4] (k:=?_))
        refine A0 (B5 ?_)
        refine A3 (C1 (H':=H) (fun w h=>(h.erase 0)) ?_)
        refine B6 [.tmp 4] [.bool ((!((bk x.text).toList==(ByteArray.mk #[]).toList))&&((F8 x.text:Int)==((bk x.text).size:Int)))] (k:=?_)
        exact ⟨congrArg Value.bool (Eq.symm (by first | exact rt_A (.inl (by omega)) | exact rt_AC h06 (by omega) | exact (O1 hB (by omega)).trans (J1 _).symm | exact K7 hB (by omega) | exact hz80 | exact hz109 | exact (N4 hB h6 (by omega) (by omega) h5 ht).trans (by rw [hN1,hR1]; rfl))),rfl⟩
      ·
        simp only [beq_eq_false_iff_ne,ne_eq] at hc4
        refine A8 (A0 ?_)
        refine A1 (A1 ?_)
        refine A2 (A4 (j:=1) [0] (k:=?_))
        refine A5 (ch:=[]) (b:=b1) (off:=0) (v:=.int .i64 x.kind) (hA:=At.grp 0 0 rfl rfl) (k:=B0 [0] [1,2,65] (k:=?_))
        refine A0 (B2 (b:=x.kind==4) kr (fun hc5=>?_) (fun hc5=>?_))
        ·
          simp only [beq_iff_eq] at hc5
          refine A1 (A2 ?_)
          refine A4 (j:=1) [0] (k:=A5 (ch:=[]) (b:=b1) (off:=1) (v:=.string (bk x.text)) (hA:=At.grp 0 0 rfl rfl) (k:=?_))
          refine H4 Tryz.func55 (rvalid_ (bk x.text) (by omega) _ _) (B0 [0] [4] (k:=?_))
          refine A0 (B5 ?_)
          refine A3 (C1 (H':=H) (fun w h=>(h.erase 0)) ?_)
          refine B6 [.tmp 4] [.bool (D2 (bk x.text).data.toList)] (k:=?_)
          exact ⟨congrArg Value.bool (Eq.symm (by first | exact rt_A (.inl (by omega)) | exact rt_AC h06 (by omega) | exact (O1 hB (by omega)).trans (J1 _).symm | exact K7 hB (by omega) | exact hz80 | exact hz109 | exact (N4 hB h6 (by omega) (by omega) h5 ht).trans (by rw [hN1,hR1]; rfl))),rfl⟩
        ·
          simp only [beq_eq_false_iff_ne,ne_eq] at hc5
          refine A8 (A0 ?_)
          refine A1 (A1 ?_)
          refine A2 (A4 (j:=1) [0] (k:=?_))
          refine A5 (ch:=[]) (b:=b1) (off:=1) (v:=.string (bk x.text)) (hA:=At.grp 0 0 rfl rfl) (k:=A4 (j:=5) [0,0,0] (k:=?_))
          refine A5 (ch:=[(72,false)]) (b:=b1) (off:=0) (v:=.int .i64 x.kind) (hA:=At.grp 0 0 rfl rfl) (k:=B0 [0,0,0,0,6,5] [1,2,80] (k:=?_))
          refine A0 (B2 (b:=(!((bk x.text).toList==(ByteArray.mk #[]).toList))||((decide (x.kind ≥ 5))&&(d==24))) kr (fun hc6=>?_) (fun hc6=>?_))
          ·
            simp only [Bool.and_eq_true,Bool.or_eq_true,Bool.not_eq_true',decide_eq_true_eq,beq_iff_eq,beq_eq_false_iff_ne,ne_eq,ge_iff_le,L3] at hc6
            have hz80:rtP lv x=false:=by
              rcases (show x.text≠[]∨(5≤x.kind∧d=24) by first | exact hc6 | (rcases hc6 with h | h; exact .inl h; exact .inr ⟨by omega,by omega⟩)) with h | h
              · exact rt_bad hB h6 (by omega) (by omega) (.inl h)
              · exact rt_C hB (.inr ⟨by omega,by omega⟩)
            refine A1 (B7 (E':=[⟨4,[],.bool false⟩]) [0] [4] (k:=?_))
            refine A0 (B5 ?_)
            refine A3 (C1 (H':=H) (fun w h=>(h.erase 0)) ?_)
            refine B6 [.tmp 4] [.bool false] (k:=?_)
            exact ⟨congrArg Value.bool (Eq.symm (by first | exact rt_A (.inl (by omega)) | exact rt_AC h06 (by omega) | exact (O1 hB (by omega)).trans (J1 _).symm | exact K7 hB (by omega) | exact hz80 | exact hz109 | exact (N4 hB h6 (by omega) (by omega) h5 ht).trans (by rw [hN1,hR1]; rfl))),rfl⟩
          ·
            simp only [Bool.and_eq_false_iff,Bool.or_eq_false_iff,Bool.not_eq_false',decide_eq_false_iff_not,beq_iff_eq,beq_eq_false_iff_ne,ne_eq,ge_iff_le,L3] at hc6
            have ht:x.text=[]:=by first | exact hc6.1 | exact hc6
            have h5:¬ (5≤x.kind∧lv=0):=by omega
            refine A8 (A0 ?_)
            refine A1 (A1 ?_)
            refine A2 (A4 (j:=1) [0] (k:=?_))
            refine A5 (ch:=[]) (b:=b1) (off:=3) (v:=.slice al x.list.length cl) (hA:=At.grp 0 0 rfl rfl) (k:=B1 (E':=[⟨1,[],.int .i64 d⟩,⟨2,[],pt b1⟩,⟨83,[],.int .i64 ((x.list.length:Nat):Int)⟩,⟨84,[],.int .i64 0⟩]) [0,0] [1,2,83,84] (k:=?_))
            refine A0 (B9 ?_)
            refine I6 (EI:=(fun ξ:Nat=>[⟨1,[],.int .i64 d⟩,⟨2,[],pt b1⟩,⟨83,[],.int .i64 ((x.list.length:Nat):Int)⟩,⟨84,[],.int .i64 ((ξ:Nat):Int)⟩])) (HI:=(fun ξ:Nat=>([(b1,.cells #[.int .i64 x.kind,.string (bk x.text),.slice an x.names.length cn,.slice al x.list.length cl] 28 (0,0))]::H))) (Φ:=(fun ξ:Nat=>(ξ≤x.list.length)∧(rtL (lv - 1) (x.list.take ξ)=true))) (μ:=(fun ξ:Nat=>x.list.length - ξ)) (s0:=(0)) [1,2,83,84] kr rfl ⟨(Nat.zero_le _),(by rw [List.take_zero]; unfold rtL; rfl)⟩ ?_
            rintro k ⟨hk,hR⟩
            try dsimp only at hk hR
            refine A1 (G_p [0] [1,2,83,84,85] (k:=?_))
            refine A0 (A1 ?_)
            refine B2 (b:=decide (((k:Nat):Int)<((x.list.length:Nat):Int))) kr (fun hc7=>?_) (fun hc7=>?_)
            ·
              simp only [decide_eq_true_eq] at hc7
              have:=congrArg List.length (hB.list hk6.1 hk6.2)
              rw [List.length_nil] at this
              omega
            ·
              simp only [decide_eq_false_iff_not] at hc7
              have hR1:rtL (lv - 1) x.list=true:=by rw [hB.list hk6.1 hk6.2]; unfold rtL; rfl
              have hN1:x.names.all D2=true:=by rw [hB.names hk6.2]; rfl
              refine G3 (A9 ?_)
              refine A9 (C5 ?_)
              refine A0 (A1 ?_)
              refine B7 (E':=[⟨4,[],.bool true⟩]) [0] [4] (k:=A0 ?_)
              refine B5 (C1 (H':=H) (fun w h=>(h.erase 0)) ?_)
              refine B6 [.tmp 4] [.bool true] (k:=?_)
              exact ⟨congrArg Value.bool (Eq.symm (by first | exact rt_A (.inl (by omega)) | exact rt_AC h06 (by omega) | exact (O1 hB (by omega)).trans (J1 _).symm | exact K7 hB (by omega) | exact hz80 | exact hz109 | exact (N4 hB h6 (by omega) (by omega) h5 ht).trans (by rw [hN1,hR1]; rfl))),rfl⟩
theorem rright5_ (x:JV) (an:Option Addr) (cn:Nat) (al:Option Addr) (cl:Nat) (cs:List Value) (S:Nat→Obj→Prop) (_:Rd S an (E7 x.names)) (hrl:Rd S al cs) (hrc:JRdL S x.list cs) (hk6:x.kind=5) (lv:Nat) (hlv:lv≤24) (d:Int) (hd:d=24 - (lv:Int)) (hw:wtJ x≤1000000000) (hrec:∀ (y:JV),szJ y<szJ x→wtJ y≤1000000000→∀ (m:Nat),lv=m+1→∀ (an:Option Addr) (cn:Nat) (al:Option Addr) (cl:Nat) (cs:List Value),Rd S an (E7 y.names)→Rd S al cs→JRdL S y.list cs→∀ (W0:World) (H:List Grp),(∀ z o,S z o→At W0 H z o)→Tri Tryz.prog 23 #[.agg (jvC y an cn al cl).toArray,.int .i64 (d+1)] W0 H (fun v H'=>v=.bool (rtP m y)∧H'=H)) (W0:World) (H:List Grp) (hS:∀ y o,S y o→At W0 H y o):Tri Tryz.prog 23 #[.agg #[.int .i64 5,.string (bk x.text),.slice an x.names.length cn,.slice al x.list.length cl],.int .i64 d] W0 H (fun v H'=>v=.bool (rtP lv x)∧H'=H):=by
  have hxl:=H8 x
  have hcw:=K9 x
  have hxt:x.text.length<wtJ x:=by rw [M7 x]; omega
  have hbz:=C3 x.text
  refine C6 (args:=[.agg #[.int .i64 5,.string (bk x.text),.slice an x.names.length cn,.slice al x.list.length cl],.int .i64 d]) (n:=111) Tryz.func23 rfl rfl (Nat.le_of_ble_eq_true rfl) ?_
  refine A1 (A2 ?_)
  refine G7 (ch:=[]) (v:=.agg #[.int .i64 5,.string (bk x.text),.slice an x.names.length cn,.slice al x.list.length cl]) (k:=(fun b1=>?_))
  refine B1 (E':=[⟨1,[],.int .i64 d⟩,⟨2,[],pt b1⟩]) [0] [1,2] (k:=A0 ?_)
  refine A1 (A1 ?_)
  refine A2 (A4 (j:=1) [0] (k:=?_))
  refine A5 (ch:=[]) (b:=b1) (off:=0) (v:=.int .i64 5) (hA:=At.grp 0 0 rfl rfl) (k:=A4 (j:=5) [0,0,0] (k:=?_))
  refine A5 (ch:=[(9,false)]) (b:=b1) (off:=0) (v:=.int .i64 5) (hA:=At.grp 0 0 rfl rfl) (k:=B0 [0,3] [1,2,13] (k:=?_))
  refine A0 (C2 kr ?_)
  refine A8 (A0 ?_)
  refine A1 (A1 ?_)
  refine A2 (A4 (j:=1) [0] (k:=?_))
  refine A5 (ch:=[]) (b:=b1) (off:=0) (v:=.int .i64 5) (hA:=At.grp 0 0 rfl rfl) (k:=A4 (j:=11) [0,0,1,1,1,1,3,0,0] (k:=?_))
  refine A5 (ch:=[(23,false)]) (b:=b1) (off:=0) (v:=.int .i64 5) (hA:=At.grp 0 0 rfl rfl) (k:=A4 (j:=15) [0,0,0] (k:=?_))
  refine A5 (ch:=[(27,true),(23,false)]) (b:=b1) (off:=2) (v:=.slice an x.names.length cn) (hA:=At.grp 0 0 rfl rfl) (k:=A4 (j:=22) [0,0,2,3,0,0] (k:=?_))
  refine A5 (ch:=[(34,false)]) (b:=b1) (off:=0) (v:=.int .i64 5) (hA:=At.grp 0 0 rfl rfl) (k:=B0 [0,0,1,1,1,1,1,1,1,3,5] [1,2,47] (k:=?_))
  refine A0 (B2 (b:=(decide (((x.names.length:Nat):Int) > 0))||false) kr (fun hc2=>?_) (fun hc2=>?_))
  ·
    have h06:0≤x.kind∧x.kind≤6:=by omega
    simp only [Bool.or_eq_true,decide_eq_true_eq,gt_iff_lt,Bool.false_eq_true,or_false] at hc2
    refine A1 (B7 (E':=[⟨4,[],.bool false⟩]) [0] [4] (k:=?_))
    refine A0 (B5 ?_)
    refine A3 (C1 (H':=H) (fun w h=>(h.erase 0)) ?_)
    refine B6 [.tmp 4] [.bool false] (k:=?_)
    exact ⟨congrArg Value.bool (Eq.symm (by first | exact rt_A (.inl (by omega)) | exact rt_AC h06 (by omega) | exact (O1 hB (by omega)).trans (J1 _).symm | exact K7 hB (by omega) | exact hz80 | exact hz109 | exact (N4 hB h6 (by omega) (by omega) h5 ht).trans (by rw [hN1,hR1]; rfl))),rfl⟩
  ·
    have h06:0≤x.kind∧x.kind≤6:=by omega
    simp only [Bool.or_eq_false_iff,decide_eq_false_iff_not,gt_iff_lt] at hc2
    obtain ⟨hB,h6⟩:=rt_B2 h06 (by omega)
    refine A8 (A0 ?_)
    refine A1 (A1 ?_)
    refine A2 (A4 (j:=1) [0] (k:=?_))
    refine A5 (ch:=[]) (b:=b1) (off:=0) (v:=.int .i64 5) (hA:=At.grp 0 0 rfl rfl) (k:=B0 [0] [1,2,50] (k:=?_))
    refine A0 (C2 kr ?_)
    refine A8 (A0 ?_)
    refine A1 (A1 ?_)
    refine A2 (A4 (j:=1) [0] (k:=?_))
    refine A5 (ch:=[]) (b:=b1) (off:=0) (v:=.int .i64 5) (hA:=At.grp 0 0 rfl rfl) (k:=B0 [0] [1,2,65] (k:=?_))
    refine A0 (C2 kr ?_)
    refine A8 (A0 ?_)
    refine A1 (A1 ?_)
    refine A2 (A4 (j:=1) [0] (k:=?_))
    refine A5 (ch:=[]) (b:=b1) (off:=1) (v:=.string (bk x.text)) (hA:=At.grp 0 0 rfl rfl) (k:=A4 (j:=5) [0,0,0] (k:=?_))
    refine A5 (ch:=[(72,false)]) (b:=b1) (off:=0) (v:=.int .i64 5) (hA:=At.grp 0 0 rfl rfl) (k:=B0 [0,0,0,0,2,5] [1,2,80] (k:=?_))
    refine A0 (B2 (b:=(!((bk x.text).toList==(ByteArray.mk #[]).toList))||(d==24)) kr (fun hc3=>?_) (fun hc3=>?_))
    ·
      simp only [Bool.or_eq_true,Bool.not_eq_true',beq_iff_eq,beq_eq_false_iff_ne,ne_eq,L3] at hc3
      have hz80:rtP lv x=false:=by
        rcases (show x.text≠[]∨(5≤x.kind∧d=24) by first | exact hc3 | (rcases hc3 with h | h; exact .inl h; exact .inr ⟨by omega,by omega⟩)) with h | h
        · exact rt_bad hB h6 (by omega) (by omega) (.inl h)
        · exact rt_C hB (.inr ⟨by omega,by omega⟩)
      refine A1 (B7 (E':=[⟨4,[],.bool false⟩]) [0] [4] (k:=?_))
      refine A0 (B5 ?_)
      refine A3 (C1 (H':=H) (fun w h=>(h.erase 0)) ?_)
      refine B6 [.tmp 4] [.bool false] (k:=?_)
      exact ⟨congrArg Value.bool (Eq.symm (by first | exact rt_A (.inl (by omega)) | exact rt_AC h06 (by omega) | exact (O1 hB (by omega)).trans (J1 _).symm | exact K7 hB (by omega) | exact hz80 | exact hz109 | exact (N4 hB h6 (by omega) (by omega) h5 ht).trans (by rw [hN1,hR1]; rfl))),rfl⟩
    ·
      simp only [Bool.or_eq_false_iff,Bool.not_eq_false',beq_iff_eq,beq_eq_false_iff_ne,ne_eq,L3] at hc3
      have ht:x.text=[]:=by first | exact hc3.1 | exact hc3
      have h5:¬ (5≤x.kind∧lv=0):=by omega
      refine A8 (A0 ?_)
      refine A1 (A1 ?_)
      refine A2 (A4 (j:=1) [0] (k:=?_))
      refine A5 (ch:=[]) (b:=b1) (off:=3) (v:=.slice al x.list.length cl) (hA:=At.grp 0 0 rfl rfl) (k:=B1 (E':=[⟨1,[],.int .i64 d⟩,⟨2,[],pt b1⟩,⟨83,[],.int .i64 ((x.list.length:Nat):Int)⟩,⟨84,[],.int .i64 0⟩]) [0,0] [1,2,83,84] (k:=?_))
      refine A0 (B9 ?_)
      refine I6 (EI:=(fun ξ:Nat=>[⟨1,[],.int .i64 d⟩,⟨2,[],pt b1⟩,⟨83,[],.int .i64 ((x.list.length:Nat):Int)⟩,⟨84,[],.int .i64 ((ξ:Nat):Int)⟩])) (HI:=(fun ξ:Nat=>([(b1,.cells #[.int .i64 5,.string (bk x.text),.slice an x.names.length cn,.slice al x.list.length cl] 28 (0,0))]::H))) (Φ:=(fun ξ:Nat=>(ξ≤x.list.length)∧(rtL (lv - 1) (x.list.take ξ)=true))) (μ:=(fun ξ:Nat=>x.list.length - ξ)) (s0:=(0)) [1,2,83,84] kr rfl ⟨(Nat.zero_le _),(by rw [List.take_zero]; unfold rtL; rfl)⟩ ?_
      rintro k ⟨hk,hR⟩
      try dsimp only at hk hR
      refine A1 (G_p [0] [1,2,83,84,85] (k:=?_))
      refine A0 (A1 ?_)
      refine B2 (b:=decide (((k:Nat):Int)<((x.list.length:Nat):Int))) kr (fun hc4=>?_) (fun hc4=>?_)
      ·
        simp only [decide_eq_true_eq] at hc4
        have hlt:k<x.list.length:=by omega
        obtain ⟨y,yan,ycn,yal,ycl,ycs,hyx,hye,hyn,hyl,hyc⟩:=hrc.get hlt
        have hysz:szJ y<szJ x:=by rw [hyx]; exact szJ_lt hlt
        have hyw:wtJ y≤1000000000:=by rw [hyx]; have:=wt_sub hlt; omega
        obtain ⟨m,hm⟩:∃ m,lv=m+1:=⟨lv - 1,by omega⟩
        have hm1:lv - 1=m:=by omega
        refine A8 (A0 ?_)
        refine A1 (B9 ?_)
        refine A1 (G_p [0,0] [1,2,5,83,84] (k:=?_))
        refine A0 (A1 ?_)
        refine A2 (A4 (j:=1) [0] (k:=?_))
        refine A5 (ch:=[]) (b:=b1) (off:=0) (v:=.int .i64 5) (hA:=At.grp 0 0 rfl rfl) (k:=A4 (j:=14) [0,0,1,1,1,1,1,1,1,3,0,0] (k:=?_))
        refine A5 (ch:=[(99,false)]) (b:=b1) (off:=3) (v:=.slice al x.list.length cl) (hA:=At.grp 0 0 rfl rfl) (k:=A4 (j:=16) [0] (k:=?_))
        refine D0 (ch:=[(99,false)]) (a:=al) (len:=x.list.length) (cap:=cl) (kd:=.i64) (j:=((k:Nat):Int)) (e:=28) (sz:=4) (S:=S) (cs:=cs) (hrd:=hrl) (hb:=(fun hc=>by first | exact ⟨by omega,by omega,I4 hnl⟩ | exact ⟨by omega,by omega,hrc.ne hlt⟩)) (k:=I7 (ch:=[(99,false)]) (a:=al) (q:=k * 4) (S:=S) (cs:=cs) (l:=[.int .i64 y.kind,.string (bk y.text),.slice yan y.names.length ycn,.slice yal y.list.length ycl]) (hrd:=hrl) (hS:=(fun y o h=>(At.cons (hS y o h)))) (hl:=List.cons_ne_nil _ _) (hv:=(fun hc=>(elt4 hye))) (k:=?_))
        have hw5:IntKind.wrap .i64 (d+1)=d+1:=w64 (by omega) (by omega)
        refine C0 (E':=[⟨106,[(99,false)],.int .i64 (d+1)⟩,⟨104,[(99,false)],.agg #[.int .i64 y.kind,.string (bk y.text),.slice yan y.names.length ycn,.slice yal y.list.length ycl]⟩,⟨99,[],.bool false⟩,⟨1,[],.int .i64 d⟩,⟨2,[],pt b1⟩,⟨83,[],.int .i64 ((x.list.length:Nat):Int)⟩,⟨84,[],.int .i64 ((k:Nat):Int)⟩]) [0,0] (Eq.trans (b:=some [⟨106,[(99,false)],.int .i64 (IntKind.wrap .i64 (d+1))⟩,⟨104,[(99,false)],.agg #[.int .i64 y.kind,.string (bk y.text),.slice yan y.names.length ycn,.slice yal y.list.length ycl]⟩,⟨99,[],.bool false⟩,⟨1,[],.int .i64 d⟩,⟨2,[],pt b1⟩,⟨83,[],.int .i64 ((x.list.length:Nat):Int)⟩,⟨84,[],.int .i64 ((k:Nat):Int)⟩]) kr (by simp only [hw5])) (j:=20) rfl (F7 (ch:=[(99,false)]) (f:=23) (fst:=#[]) (caps:=#[]) (vs:=[.agg #[.int .i64 y.kind,.string (bk y.text),.slice yan y.names.length ycn,.slice yal y.list.length ycl],.int .i64 (d+1)]) (v:=.bool (rtP m y)) (hf:=Tryz.func23) (hc:=(fun hc=>hrec y hysz hyw m hm yan ycn yal ycl ycs hyn hyl hyc _ _ (fun y o h=>At.cons (hS y o h)))) (k:=?_))
        refine B0 [0,3] [1,2,83,84,109] (k:=A0 ?_)
        refine B2 (b:=!(rtP m y)) kr (fun hc6=>?_) (fun hc6=>?_)
        ·
          simp only [Bool.not_eq_true'] at hc6
          have hz109:rtP lv x=false:=(N4 hB h6 (by omega) (by omega) h5 ht).trans (by rw [rtL_no hlt (by rw [hm1,← hyx]; exact hc6),Bool.and_false])
          refine A1 (B7 (E':=[⟨4,[],.bool false⟩]) [0] [4] (k:=?_))
          refine A0 (B5 ?_)
          refine B4 (A3 ?_)
          refine A3 (B4 ?_)
          refine A3 (C1 (H':=H) (fun w h=>(h.erase 0)) ?_)
          refine B6 [.tmp 4] [.bool false] (k:=?_)
          exact ⟨congrArg Value.bool (Eq.symm (by first | exact rt_A (.inl (by omega)) | exact rt_AC h06 (by omega) | exact (O1 hB (by omega)).trans (J1 _).symm | exact K7 hB (by omega) | exact hz80 | exact hz109 | exact (N4 hB h6 (by omega) (by omega) h5 ht).trans (by rw [hN1,hR1]; rfl))),rfl⟩
        ·
          simp only [Bool.not_eq_false'] at hc6
          have hyr:rtP m y=true:=hc6
          refine A8 (B8 ?_)
          refine A0 ?_
          have hw7:IntKind.wrap .i64 (((k:Nat):Int)+1)=((k:Nat):Int)+1:=w64 (by omega) (by omega)
          refine A2 (C0 (E':=[⟨110,[],.int .i64 (((k:Nat):Int)+1)⟩,⟨1,[],.int .i64 d⟩,⟨2,[],pt b1⟩,⟨83,[],.int .i64 ((x.list.length:Nat):Int)⟩,⟨84,[],.int .i64 ((k:Nat):Int)⟩]) [0] (Eq.trans (b:=some [⟨110,[],.int .i64 (IntKind.wrap .i64 (((k:Nat):Int)+1))⟩,⟨1,[],.int .i64 d⟩,⟨2,[],pt b1⟩,⟨83,[],.int .i64 ((x.list.length:Nat):Int)⟩,⟨84,[],.int .i64 ((k:Nat):Int)⟩]) kr (by simp only [hw7])) (j:=1) rfl ?_)
          refine C4 (E':=[⟨110,[],.int .i64 ((k+1:Nat):Int)⟩,⟨1,[],.int .i64 d⟩,⟨2,[],pt b1⟩,⟨83,[],.int .i64 ((x.list.length:Nat):Int)⟩,⟨84,[],.int .i64 ((k:Nat):Int)⟩]) (by rw [show ((k:Nat):Int)+1=((k+1:Nat):Int) by omega]) (B0 [0] [1,2,83,84] (k:=?_))
          refine E6 (s':=(k+1)) [1,2,83,84] kr rfl ⟨(by (try dsimp only); omega),(by (try dsimp only); exact rtL_take hlt hR (by rw [hm,← hyx]; exact hyr))⟩ (by (try dsimp only); omega)
      ·
        simp only [decide_eq_false_iff_not] at hc4
        have hR1:rtL (lv - 1) x.list=true:=by rw [List.take_of_length_le (by omega)] at hR; exact hR
        have hN1:x.names.all D2=true:=by rw [hB.names (by omega)]; rfl
        refine G3 (A9 ?_)
        refine A9 (C5 ?_)
        refine A0 (A1 ?_)
        refine B7 (E':=[⟨4,[],.bool true⟩]) [0] [4] (k:=A0 ?_)
        refine B5 (C1 (H':=H) (fun w h=>(h.erase 0)) ?_)
        refine B6 [.tmp 4] [.bool true] (k:=?_)
        exact ⟨congrArg Value.bool (Eq.symm (by first | exact rt_A (.inl (by omega)) | exact rt_AC h06 (by omega) | exact (O1 hB (by omega)).trans (J1 _).symm | exact K7 hB (by omega) | exact hz80 | exact hz109 | exact (N4 hB h6 (by omega) (by omega) h5 ht).trans (by rw [hN1,hR1]; rfl))),rfl⟩
theorem rright6_ (x:JV) (an:Option Addr) (cn:Nat) (al:Option Addr) (cl:Nat) (cs:List Value) (S:Nat→Obj→Prop) (hrn:Rd S an (E7 x.names)) (hrl:Rd S al cs) (hrc:JRdL S x.list cs) (hk6:x.kind=6) (lv:Nat) (hlv:lv≤24) (d:Int) (hd:d=24 - (lv:Int)) (hw:wtJ x≤1000000000) (hrec:∀ (y:JV),szJ y<szJ x→wtJ y≤1000000000→∀ (m:Nat),lv=m+1→∀ (an:Option Addr) (cn:Nat) (al:Option Addr) (cl:Nat) (cs:List Value),Rd S an (E7 y.names)→Rd S al cs→JRdL S y.list cs→∀ (W0:World) (H:List Grp),(∀ z o,S z o→At W0 H z o)→Tri Tryz.prog 23 #[.agg (jvC y an cn al cl).toArray,.int .i64 (d+1)] W0 H (fun v H'=>v=.bool (rtP m y)∧H'=H)) (W0:World) (H:List Grp) (hS:∀ y o,S y o→At W0 H y o):Tri Tryz.prog 23 #[.agg #[.int .i64 6,.string (bk x.text),.slice an x.names.length cn,.slice al x.list.length cl],.int .i64 d] W0 H (fun v H'=>v=.bool (rtP lv x)∧H'=H):=by
  have hxl:=H8 x
  have hcw:=K9 x
  have hxt:x.text.length<wtJ x:=by rw [M7 x]; omega
  have hbz:=C3 x.text
  refine C6 (args:=[.agg #[.int .i64 6,.string (bk x.text),.slice an x.names.length cn,.slice al x.list.length cl],.int .i64 d]) (n:=111) Tryz.func23 rfl rfl (Nat.le_of_ble_eq_true rfl) ?_
  refine A1 (A2 ?_)
  refine G7 (ch:=[]) (v:=.agg #[.int .i64 6,.string (bk x.text),.slice an x.names.length cn,.slice al x.list.length cl]) (k:=(fun b1=>?_))
  refine B1 (E':=[⟨1,[],.int .i64 d⟩,⟨2,[],pt b1⟩]) [0] [1,2] (k:=A0 ?_)
  refine A1 (A1 ?_)
  refine A2 (A4 (j:=1) [0] (k:=?_))
  refine A5 (ch:=[]) (b:=b1) (off:=0) (v:=.int .i64 6) (hA:=At.grp 0 0 rfl rfl) (k:=A4 (j:=5) [0,0,0] (k:=?_))
  refine A5 (ch:=[(9,false)]) (b:=b1) (off:=0) (v:=.int .i64 6) (hA:=At.grp 0 0 rfl rfl) (k:=B0 [0,3] [1,2,13] (k:=?_))
  refine A0 (C2 kr ?_)
  refine A8 (A0 ?_)
  refine A1 (A1 ?_)
  refine A2 (A4 (j:=1) [0] (k:=?_))
  refine A5 (ch:=[]) (b:=b1) (off:=0) (v:=.int .i64 6) (hA:=At.grp 0 0 rfl rfl) (k:=A4 (j:=11) [0,0,1,1,1,1,3,0,0] (k:=?_))
  refine A5 (ch:=[(23,false)]) (b:=b1) (off:=0) (v:=.int .i64 6) (hA:=At.grp 0 0 rfl rfl) (k:=A4 (j:=22) [0,0,1,1,1,1,3,3,0,0] (k:=?_))
  refine A5 (ch:=[(34,false)]) (b:=b1) (off:=0) (v:=.int .i64 6) (hA:=At.grp 0 0 rfl rfl) (k:=A4 (j:=26) [0,0,0] (k:=?_))
  refine A5 (ch:=[(38,true),(34,false)]) (b:=b1) (off:=2) (v:=.slice an x.names.length cn) (hA:=At.grp 0 0 rfl rfl) (k:=A4 (j:=29) [0,0] (k:=?_))
  refine A5 (ch:=[(38,true),(34,false)]) (b:=b1) (off:=3) (v:=.slice al x.list.length cl) (hA:=At.grp 0 0 rfl rfl) (k:=B0 [0,0,2,3] [1,2,47] (k:=?_))
  refine A0 (B2 (b:=((x.names.length:Nat):Int) != ((x.list.length:Nat):Int)) kr (fun hc2=>?_) (fun hc2=>?_))
  ·
    have h06:0≤x.kind∧x.kind≤6:=by omega
    simp only [bne_iff_ne,ne_eq] at hc2
    refine A1 (B7 (E':=[⟨4,[],.bool false⟩]) [0] [4] (k:=?_))
    refine A0 (B5 ?_)
    refine A3 (C1 (H':=H) (fun w h=>(h.erase 0)) ?_)
    refine B6 [.tmp 4] [.bool false] (k:=?_)
    exact ⟨congrArg Value.bool (Eq.symm (by first | exact rt_A (.inl (by omega)) | exact rt_AC h06 (by omega) | exact (O1 hB (by omega)).trans (J1 _).symm | exact K7 hB (by omega) | exact hz80 | exact hz109 | exact (N4 hB h6 (by omega) (by omega) h5 ht).trans (by rw [hN1,hR1]; rfl))),rfl⟩
  ·
    have h06:0≤x.kind∧x.kind≤6:=by omega
    simp only [bne_eq_false_iff_eq] at hc2
    obtain ⟨hB,h6⟩:=rt_B2 h06 (by omega)
    refine A8 (A0 ?_)
    refine A1 (A1 ?_)
    refine A2 (A4 (j:=1) [0] (k:=?_))
    refine A5 (ch:=[]) (b:=b1) (off:=0) (v:=.int .i64 6) (hA:=At.grp 0 0 rfl rfl) (k:=B0 [0] [1,2,50] (k:=?_))
    refine A0 (C2 kr ?_)
    refine A8 (A0 ?_)
    refine A1 (A1 ?_)
    refine A2 (A4 (j:=1) [0] (k:=?_))
    refine A5 (ch:=[]) (b:=b1) (off:=0) (v:=.int .i64 6) (hA:=At.grp 0 0 rfl rfl) (k:=B0 [0] [1,2,65] (k:=?_))
    refine A0 (C2 kr ?_)
    refine A8 (A0 ?_)
    refine A1 (A1 ?_)
    refine A2 (A4 (j:=1) [0] (k:=?_))
    refine A5 (ch:=[]) (b:=b1) (off:=1) (v:=.string (bk x.text)) (hA:=At.grp 0 0 rfl rfl) (k:=A4 (j:=5) [0,0,0] (k:=?_))
    refine A5 (ch:=[(72,false)]) (b:=b1) (off:=0) (v:=.int .i64 6) (hA:=At.grp 0 0 rfl rfl) (k:=B0 [0,0,0,0,2,5] [1,2,80] (k:=?_))
    refine A0 (B2 (b:=(!((bk x.text).toList==(ByteArray.mk #[]).toList))||(d==24)) kr (fun hc3=>?_) (fun hc3=>?_))
    ·
      simp only [Bool.or_eq_true,Bool.not_eq_true',beq_iff_eq,beq_eq_false_iff_ne,ne_eq,L3] at hc3
      have hz80:rtP lv x=false:=by
        rcases (show x.text≠[]∨(5≤x.kind∧d=24) by first | exact hc3 | (rcases hc3 with h | h; exact .inl h; exact .inr ⟨by omega,by omega⟩)) with h | h
        · exact rt_bad hB h6 (by omega) (by omega) (.inl h)
        · exact rt_C hB (.inr ⟨by omega,by omega⟩)
      refine A1 (B7 (E':=[⟨4,[],.bool false⟩]) [0] [4] (k:=?_))
      refine A0 (B5 ?_)
      refine A3 (C1 (H':=H) (fun w h=>(h.erase 0)) ?_)
      refine B6 [.tmp 4] [.bool false] (k:=?_)
      exact ⟨congrArg Value.bool (Eq.symm (by first | exact rt_A (.inl (by omega)) | exact rt_AC h06 (by omega) | exact (O1 hB (by omega)).trans (J1 _).symm | exact K7 hB (by omega) | exact hz80 | exact hz109 | exact (N4 hB h6 (by omega) (by omega) h5 ht).trans (by rw [hN1,hR1]; rfl))),rfl⟩
    ·
      simp only [Bool.or_eq_false_iff,Bool.not_eq_false',beq_iff_eq,beq_eq_false_iff_ne,ne_eq,L3] at hc3
      have ht:x.text=[]:=by first | exact hc3.1 | exact hc3
      have h5:¬ (5≤x.kind∧lv=0):=by omega
      refine A8 (A0 ?_)
      refine A1 (A1 ?_)
      refine A2 (A4 (j:=1) [0] (k:=?_))
      refine A5 (ch:=[]) (b:=b1) (off:=3) (v:=.slice al x.list.length cl) (hA:=At.grp 0 0 rfl rfl) (k:=B1 (E':=[⟨1,[],.int .i64 d⟩,⟨2,[],pt b1⟩,⟨83,[],.int .i64 ((x.list.length:Nat):Int)⟩,⟨84,[],.int .i64 0⟩]) [0,0] [1,2,83,84] (k:=?_))
      refine A0 (B9 ?_)
      refine I6 (EI:=(fun ξ:Nat=>[⟨1,[],.int .i64 d⟩,⟨2,[],pt b1⟩,⟨83,[],.int .i64 ((x.list.length:Nat):Int)⟩,⟨84,[],.int .i64 ((ξ:Nat):Int)⟩])) (HI:=(fun ξ:Nat=>([(b1,.cells #[.int .i64 6,.string (bk x.text),.slice an x.names.length cn,.slice al x.list.length cl] 28 (0,0))]::H))) (Φ:=(fun ξ:Nat=>(ξ≤x.list.length)∧((x.names.take ξ).all D2=true)∧(rtL (lv - 1) (x.list.take ξ)=true))) (μ:=(fun ξ:Nat=>x.list.length - ξ)) (s0:=(0)) [1,2,83,84] kr rfl ⟨(Nat.zero_le _),rfl,(by rw [List.take_zero]; unfold rtL; rfl)⟩ ?_
      rintro k ⟨hk,hN,hR⟩
      try dsimp only at hk hR hN
      refine A1 (G_p [0] [1,2,83,84,85] (k:=?_))
      refine A0 (A1 ?_)
      refine B2 (b:=decide (((k:Nat):Int)<((x.list.length:Nat):Int))) kr (fun hc4=>?_) (fun hc4=>?_)
      ·
        simp only [decide_eq_true_eq] at hc4
        have hlt:k<x.list.length:=by omega
        obtain ⟨y,yan,ycn,yal,ycl,ycs,hyx,hye,hyn,hyl,hyc⟩:=hrc.get hlt
        have hysz:szJ y<szJ x:=by rw [hyx]; exact szJ_lt hlt
        have hyw:wtJ y≤1000000000:=by rw [hyx]; have:=wt_sub hlt; omega
        obtain ⟨m,hm⟩:∃ m,lv=m+1:=⟨lv - 1,by omega⟩
        have hm1:lv - 1=m:=by omega
        have hnl:k<x.names.length:=by omega
        obtain ⟨nm,hnm⟩:∃ nm,nm=x.names[k]'hnl:=⟨_,rfl⟩
        have hnw:nm.length<wtJ x:=by rw [hnm]; exact wt_name hnl
        have hnz:=C3 nm
        refine A8 (A0 ?_)
        refine A1 (B9 ?_)
        refine A1 (G_p [0,0] [1,2,5,83,84] (k:=?_))
        refine A0 (A1 ?_)
        refine A2 (A4 (j:=1) [0] (k:=?_))
        refine A5 (ch:=[]) (b:=b1) (off:=0) (v:=.int .i64 6) (hA:=At.grp 0 0 rfl rfl) (k:=A4 (j:=5) [0,0,0] (k:=?_))
        refine A5 (ch:=[(90,true)]) (b:=b1) (off:=2) (v:=.slice an x.names.length cn) (hA:=At.grp 0 0 rfl rfl) (k:=A4 (j:=7) [0] (k:=?_))
        refine D0 (ch:=[(90,true)]) (a:=an) (len:=x.names.length) (cap:=cn) (kd:=.i64) (j:=((k:Nat):Int)) (e:=9) (sz:=1) (S:=S) (cs:=(E7 x.names)) (hrd:=hrn) (hb:=(fun hc=>by first | exact ⟨by omega,by omega,I4 hnl⟩ | exact ⟨by omega,by omega,hrc.ne hlt⟩)) (k:=I1 (ch:=[(90,true)]) (a:=an) (q:=k * 1) (S:=S) (cs:=(E7 x.names)) (v:=.string (bk nm)) (hrd:=hrn) (hS:=(fun y o h=>(At.cons (hS y o h)))) (hv:=(fun hc=>(L7 hnl hnm))) (k:=?_))
        refine F7 (ch:=[(90,true)]) (f:=55) (fst:=#[]) (caps:=#[]) (vs:=[.string (bk nm)]) (v:=.bool (D2 (bk nm).data.toList)) (hf:=Tryz.func55) (hc:=(fun hc=>rvalid_ (bk nm) (by omega) _ _)) (k:=A4 (j:=14) [0,2,0,0] (k:=?_))
        refine A5 (ch:=[(99,false)]) (b:=b1) (off:=3) (v:=.slice al x.list.length cl) (hA:=At.grp 0 0 rfl rfl) (k:=A4 (j:=16) [0] (k:=?_))
        refine D0 (ch:=[(99,false)]) (a:=al) (len:=x.list.length) (cap:=cl) (kd:=.i64) (j:=((k:Nat):Int)) (e:=28) (sz:=4) (S:=S) (cs:=cs) (hrd:=hrl) (hb:=(fun hc=>by first | exact ⟨by omega,by omega,I4 hnl⟩ | exact ⟨by omega,by omega,hrc.ne hlt⟩)) (k:=I7 (ch:=[(99,false)]) (a:=al) (q:=k * 4) (S:=S) (cs:=cs) (l:=[.int .i64 y.kind,.string (bk y.text),.slice yan y.names.length ycn,.slice yal y.list.length ycl]) (hrd:=hrl) (hS:=(fun y o h=>(At.cons (hS y o h)))) (hl:=List.cons_ne_nil _ _) (hv:=(fun hc=>(elt4 hye))) (k:=?_))
        have hw5:IntKind.wrap .i64 (d+1)=d+1:=w64 (by omega) (by omega)
        refine C0 (E':=[⟨106,[(99,false)],.int .i64 (d+1)⟩,⟨104,[(99,false)],.agg #[.int .i64 y.kind,.string (bk y.text),.slice yan y.names.length ycn,.slice yal y.list.length ycl]⟩,⟨99,[],.bool (!(D2 (bk nm).data.toList))⟩,⟨1,[],.int .i64 d⟩,⟨2,[],pt b1⟩,⟨83,[],.int .i64 ((x.list.length:Nat):Int)⟩,⟨84,[],.int .i64 ((k:Nat):Int)⟩]) [0,0] (Eq.trans (b:=some [⟨106,[(99,false)],.int .i64 (IntKind.wrap .i64 (d+1))⟩,⟨104,[(99,false)],.agg #[.int .i64 y.kind,.string (bk y.text),.slice yan y.names.length ycn,.slice yal y.list.length ycl]⟩,⟨99,[],.bool (!(D2 (bk nm).data.toList))⟩,⟨1,[],.int .i64 d⟩,⟨2,[],pt b1⟩,⟨83,[],.int .i64 ((x.list.length:Nat):Int)⟩,⟨84,[],.int .i64 ((k:Nat):Int)⟩]) kr (by simp only [hw5])) (j:=20) rfl (F7 (ch:=[(99,false)]) (f:=23) (fst:=#[]) (caps:=#[]) (vs:=[.agg #[.int .i64 y.kind,.string (bk y.text),.slice yan y.names.length ycn,.slice yal y.list.length ycl],.int .i64 (d+1)]) (v:=.bool (rtP m y)) (hf:=Tryz.func23) (hc:=(fun hc=>hrec y hysz hyw m hm yan ycn yal ycl ycs hyn hyl hyc _ _ (fun y o h=>At.cons (hS y o h)))) (k:=?_))
        refine B0 [0,5] [1,2,83,84,109] (k:=A0 ?_)
        refine B2 (b:=(!(D2 (bk nm).data.toList))||(!(rtP m y))) kr (fun hc6=>?_) (fun hc6=>?_)
        ·
          simp only [Bool.or_eq_true,Bool.not_eq_true'] at hc6
          have hz109:rtP lv x=false:=(N4 hB h6 (by omega) (by omega) h5 ht).trans (by rcases hc6 with h | h; (rw [all_no hnl (by rw [← hnm]; exact h)]; rfl); rw [rtL_no hlt (by rw [hm1,← hyx]; exact h),Bool.and_false])
          refine A1 (B7 (E':=[⟨4,[],.bool false⟩]) [0] [4] (k:=?_))
          refine A0 (B5 ?_)
          refine B4 (A3 ?_)
          refine A3 (B4 ?_)
          refine A3 (C1 (H':=H) (fun w h=>(h.erase 0)) ?_)
          refine B6 [.tmp 4] [.bool false] (k:=?_)
          exact ⟨congrArg Value.bool (Eq.symm (by first | exact rt_A (.inl (by omega)) | exact rt_AC h06 (by omega) | exact (O1 hB (by omega)).trans (J1 _).symm | exact K7 hB (by omega) | exact hz80 | exact hz109 | exact (N4 hB h6 (by omega) (by omega) h5 ht).trans (by rw [hN1,hR1]; rfl))),rfl⟩
        ·
          simp only [Bool.or_eq_false_iff,Bool.not_eq_false'] at hc6
          have hyr:rtP m y=true:=hc6.2
          have hyn1:D2 nm=true:=hc6.1
          refine A8 (B8 ?_)
          refine A0 ?_
          have hw7:IntKind.wrap .i64 (((k:Nat):Int)+1)=((k:Nat):Int)+1:=w64 (by omega) (by omega)
          refine A2 (C0 (E':=[⟨110,[],.int .i64 (((k:Nat):Int)+1)⟩,⟨1,[],.int .i64 d⟩,⟨2,[],pt b1⟩,⟨83,[],.int .i64 ((x.list.length:Nat):Int)⟩,⟨84,[],.int .i64 ((k:Nat):Int)⟩]) [0] (Eq.trans (b:=some [⟨110,[],.int .i64 (IntKind.wrap .i64 (((k:Nat):Int)+1))⟩,⟨1,[],.int .i64 d⟩,⟨2,[],pt b1⟩,⟨83,[],.int .i64 ((x.list.length:Nat):Int)⟩,⟨84,[],.int .i64 ((k:Nat):Int)⟩]) kr (by simp only [hw7])) (j:=1) rfl ?_)
          refine C4 (E':=[⟨110,[],.int .i64 ((k+1:Nat):Int)⟩,⟨1,[],.int .i64 d⟩,⟨2,[],pt b1⟩,⟨83,[],.int .i64 ((x.list.length:Nat):Int)⟩,⟨84,[],.int .i64 ((k:Nat):Int)⟩]) (by rw [show ((k:Nat):Int)+1=((k+1:Nat):Int) by omega]) (B0 [0] [1,2,83,84] (k:=?_))
          refine E6 (s':=(k+1)) [1,2,83,84] kr rfl ⟨(by (try dsimp only); omega),(by (try dsimp only); exact all_take hnl hN (by rw [← hnm]; exact hyn1)),(by (try dsimp only); exact rtL_take hlt hR (by rw [hm,← hyx]; exact hyr))⟩ (by (try dsimp only); omega)
      ·
        simp only [decide_eq_false_iff_not] at hc4
        have hR1:rtL (lv - 1) x.list=true:=by rw [List.take_of_length_le (by omega)] at hR; exact hR
        have hN1:x.names.all D2=true:=by rw [List.take_of_length_le (by omega)] at hN; exact hN
        refine G3 (A9 ?_)
        refine A9 (C5 ?_)
        refine A0 (A1 ?_)
        refine B7 (E':=[⟨4,[],.bool true⟩]) [0] [4] (k:=A0 ?_)
        refine B5 (C1 (H':=H) (fun w h=>(h.erase 0)) ?_)
        refine B6 [.tmp 4] [.bool true] (k:=?_)
        exact ⟨congrArg Value.bool (Eq.symm (by first | exact rt_A (.inl (by omega)) | exact rt_AC h06 (by omega) | exact (O1 hB (by omega)).trans (J1 _).symm | exact K7 hB (by omega) | exact hz80 | exact hz109 | exact (N4 hB h6 (by omega) (by omega) h5 ht).trans (by rw [hN1,hR1]; rfl))),rfl⟩
theorem rright_:∀ (n:Nat) (x:JV),szJ x≤n→wtJ x≤1000000000→∀ (lv:Nat),lv≤24→∀ (d:Int),d=24 - (lv:Int)→∀ (an:Option Addr) (cn:Nat) (al:Option Addr) (cl:Nat) (cs:List Value) (S:Nat→Obj→Prop),Rd S an (E7 x.names)→Rd S al cs→JRdL S x.list cs→∀ (W0:World) (H:List Grp),(∀ z o,S z o→At W0 H z o)→Tri Tryz.prog 23 #[.agg (jvC x an cn al cl).toArray,.int .i64 d] W0 H (fun v H'=>v=.bool (rtP lv x)∧H'=H)
  | 0,x,h,_,_,_,_,_,_,_,_,_,_,_,_,_,_,_,_,_=>absurd (szJ_pos x) (by omega)
  | n+1,x,h,hw,lv,hlv,d,hd,an,cn,al,cl,cs,S,h1,h2,h3,W0,H,hS=>by
    have hrec:=fun (y:JV) (hy:szJ y<szJ x) (hwy:wtJ y≤1000000000) (m:Nat) (hm:lv=m+1) (an:Option Addr) (cn:Nat) (al:Option Addr) (cl:Nat) (cs:List Value) (h1:Rd S an (E7 y.names)) (h2:Rd S al cs) (h3:JRdL S y.list cs) (W0:World) (H:List Grp) (hS:∀ z o,S z o→At W0 H z o)=>rright_ n y (by omega) hwy m (by omega) (d+1) (by omega) an cn al cl cs S h1 h2 h3 W0 H hS
    by_cases h5:x.kind=5
    · rw [I9 h5 an cn al cl]; exact rright5_ x an cn al cl cs S h1 h2 h3 h5 lv hlv d hd hw hrec W0 H hS
    · by_cases h6:x.kind=6
      · rw [I9 h6 an cn al cl]; exact rright6_ x an cn al cl cs S h1 h2 h3 h6 lv hlv d hd hw hrec W0 H hS
      · exact rright0_ x an cn al cl cs S h1 h2 h3 ⟨h5,h6⟩ lv hlv d hd hw W0 H hS
end Go.Proofs.YtppgfiklmfoaeaaGreatDoor
