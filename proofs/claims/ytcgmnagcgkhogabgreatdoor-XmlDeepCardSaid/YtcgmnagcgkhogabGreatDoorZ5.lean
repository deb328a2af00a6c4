/- The document's element: what it asks of its marks, step by step. Plain. (and what it stands on) -/
import Derived.Test.YtcgmnagcgkhogabGreatDoorZ4
namespace Go.Proofs.YtcgmnagcgkhogabGreatDoor
open Go.Sw Go.Sha Go.Esc Go.RowKit Go.Json Go.Xml
theorem xsameW_ (x:XN) (an:Option Addr) (cn:Nat) (al:Option Addr) (cl:Nat) (cs:List Value) (S:Nat→Obj→Prop) (hra:Rd S an (xaV x.attrs)) (hrl:Rd S al cs) (hrc:XRdL S x.kids cs) (an2:Option Addr) (cn2:Nat) (al2:Option Addr) (cl2:Nat) (cs2:List Value) (S2:Nat→Obj→Prop) (hra2:Rd S2 an2 (xaV x.attrs)) (hrl2:Rd S2 al2 cs2) (hrc2:XRdL S2 x.kids cs2) (hw:cnX x≤100000000) (hrec:∀ (y:XN),cnX y<cnX x→cnX y≤100000000→∀ (an:Option Addr) (cn:Nat) (al:Option Addr) (cl:Nat) (cs:List Value),Rd S an (xaV y.attrs)→Rd S al cs→XRdL S y.kids cs→∀ (an2:Option Addr) (cn2:Nat) (al2:Option Addr) (cl2:Nat) (cs2:List Value),Rd S2 an2 (xaV y.attrs)→Rd S2 al2 cs2→XRdL S2 y.kids cs2→∀ (W0:World) (H:List Grp),(∀ z o,S z o→At W0 H z o)→(∀ z o,S2 z o→At W0 H z o)→Tri Tryz.prog 7 #[.agg (xvC y an cn al cl).toArray,.agg (xvC y an2 cn2 al2 cl2).toArray] W0 H (fun v H'=>v=.bool true∧H'=H)) (W0:World) (H:List Grp) (hS:∀ y o,S y o→At W0 H y o) (hS2:∀ y o,S2 y o→At W0 H y o):Tri Tryz.prog 7 #[.agg #[.string (bk x.space),.string (bk x.name),.slice an x.attrs.length cn,.slice al x.kids.length cl,.string (bk x.text)],.agg #[.string (bk x.space),.string (bk x.name),.slice an2 x.attrs.length cn2,.slice al2 x.kids.length cl2,.string (bk x.text)]] W0 H (fun v H'=>v=.bool true∧H'=H):=by
 have hpx:=cnX_parts x
 refine D5 81 Tryz.func7 ?_
 refine A1 (A2 (V5 (.agg #[.string (bk x.space),.string (bk x.name),.slice an x.attrs.length cn,.slice al x.kids.length cl,.string (bk x.text)]) (fun b1=>V5 (.agg #[.string (bk x.space),.string (bk x.name),.slice an2 x.attrs.length cn2,.slice al2 x.kids.length cl2,.string (bk x.text)]) (fun b2=>?_))))
 refine C0 (E':=[⟨2,[],pt b1⟩,⟨3,[],pt b2⟩]) [0] [2,3] (k:=A0 (A1 (A1 (A2 (A3 (j:=1) [0] (k:=C1 1 0 rfl rfl (A3 (j:=3) [0] (k:=C1 0 0 rfl rfl ?_))))))))
 refine A3 (j:=7) [0,0,0] (k:=C2 (ch:=[(12,false)]) (b:=b1) (off:=1) (v:=.string (bk x.name)) (hA:=At.grp 1 0 rfl rfl) (k:=A3 (j:=9) [0] (k:=C2 (ch:=[(12,false)]) (b:=b2) (off:=1) (v:=.string (bk x.name)) (hA:=At.grp 0 0 rfl rfl) (k:=A3 (j:=14) [0,5,0,0] (k:=C2 (ch:=[(19,false)]) (b:=b1) (off:=4) (v:=.string (bk x.text)) (hA:=At.grp 1 0 rfl rfl) (k:=A3 (j:=16) [0] (k:=C2 (ch:=[(19,false)]) (b:=b2) (off:=4) (v:=.string (bk x.text)) (hA:=At.grp 0 0 rfl rfl) (k:=A3 (j:=21) [0,5,0,0] (k:=?_)))))))))
 refine C2 (ch:=[(26,false)]) (b:=b1) (off:=2) (v:=.slice an x.attrs.length cn) (hA:=At.grp 1 0 rfl rfl) (k:=A3 (j:=24) [0,0] (k:=C2 (ch:=[(26,false)]) (b:=b2) (off:=2) (v:=.slice an2 x.attrs.length cn2) (hA:=At.grp 0 0 rfl rfl) (k:=A3 (j:=30) [0,0,5,0,0] (k:=C2 (ch:=[(35,false)]) (b:=b1) (off:=3) (v:=.slice al x.kids.length cl) (hA:=At.grp 1 0 rfl rfl) (k:=A3 (j:=33) [0,0] (k:=C2 (ch:=[(35,false)]) (b:=b2) (off:=3) (v:=.slice al2 x.kids.length cl2) (hA:=At.grp 0 0 rfl rfl) (k:=A5 [0,0,5] [2,3,43] (k:=A0 ?_))))))))
 refine B1 (b:=((((!((bk x.space).toList==(bk x.space).toList))||(!((bk x.name).toList==(bk x.name).toList)))||(!((bk x.text).toList==(bk x.text).toList)))||(((x.attrs.length:Nat):Int) != ((x.attrs.length:Nat):Int)))||(((x.kids.length:Nat):Int) != ((x.kids.length:Nat):Int))) kr (fun hc3=>?_) (fun hc3=>?_)
 simp at hc3
 refine A7 (A0 (A1 (A1 (A2 (A3 (j:=1) [0] (k:=C1 1 2 rfl rfl (A5 [0,0] [2,3,46,47] (k:=A0 ?_))))))))
 refine B3 (I6 (EI:=(fun ξ:Nat=>[⟨2,[],pt b1⟩,⟨3,[],pt b2⟩,⟨46,[],.int .i64 ((x.attrs.length:Nat):Int)⟩,⟨47,[],.int .i64 ((ξ:Nat):Int)⟩])) (HI:=(fun ξ:Nat=>([(b2,.cells #[.string (bk x.space),.string (bk x.name),.slice an2 x.attrs.length cn2,.slice al2 x.kids.length cl2,.string (bk x.text)] 26 (0,0))]::[(b1,.cells #[.string (bk x.space),.string (bk x.name),.slice an x.attrs.length cn,.slice al x.kids.length cl,.string (bk x.text)] 26 (0,0))]::H))) (Φ:=(fun ξ:Nat=>(ξ≤x.attrs.length))) (μ:=(fun ξ:Nat=>x.attrs.length - ξ)) (s0:=(0)) [2,3,46,47] kr rfl (Nat.zero_le _) ?_)
 rintro k hkl
 refine A1 (G_p [0] [2,3,46,47,48] (k:=A0 (A1 (B1 (b:=decide (((k:Nat):Int)<((x.attrs.length:Nat):Int))) kr (fun hc4=>?_) (fun hc4=>?_)))))
 have hk:k<x.attrs.length:=by have:=hc4; simp only [decide_eq_true_eq] at this; omega
 obtain ⟨y,hy⟩:∃ y,y=x.attrs[k]'hk:=⟨_,rfl⟩
 refine A7 (A0 (A1 (B3 (A1 (G_p [0,0] [2,3,5,46,47] (k:=A0 (A1 (H5 (k:=?_)))))))))
 refine A3 (j:=1) [0] (k:=C1 1 2 rfl rfl (A3 (j:=3) [0] (k:=E4 x.attrs.length ((k:Nat):Int) 3 hra (by exact ⟨by omega,by omega,by intro h; have h2:=congrArg List.length h; rw [A0a] at h2; simp only [List.length_nil] at h2; omega⟩) (K0 (ch:=[]) (a:=an) (q:=k * 3) (S:=S) (cs:=(xaV x.attrs)) (l:=[.string (bk y.space),.string (bk y.name),.string (bk y.value)]) (hrd:=hra) (hS:=(fun y o h=>At.cons (At.cons ((hS y o h))))) (hl:=List.cons_ne_nil _ _) (hv:=(fun _=>(elt3 (by rw [hy]; exact xaV_at hk)))) (k:=A3 (j:=6) [0] (k:=C1 0 2 rfl rfl (A3 (j:=8) [0] (k:=E4 x.attrs.length ((k:Nat):Int) 3 hra2 (by exact ⟨by omega,by omega,by intro h; have h2:=congrArg List.length h; rw [A0a] at h2; simp only [List.length_nil] at h2; omega⟩) ?_))))))))
 refine K0 (ch:=[]) (a:=an2) (q:=k * 3) (S:=S2) (cs:=(xaV x.attrs)) (l:=[.string (bk y.space),.string (bk y.name),.string (bk y.value)]) (hrd:=hra2) (hS:=(fun y o h=>At.cons (At.cons ((hS2 y o h))))) (hl:=List.cons_ne_nil _ _) (hv:=(fun _=>(elt3 (by rw [hy]; exact xaV_at hk)))) (k:=GL_eqAgg (ch:=[]) (A:=[.string (bk y.space),.string (bk y.name),.string (bk y.value)]) (B:=[.string (bk y.space),.string (bk y.name),.string (bk y.value)]) (r:=false) true (hr:=(by rw [cellsEq_same]; rfl)) (k:=A5 [] [2,3,46,47,60] (k:=A0 (C5 kr (A7 (B8 (A0 (A2 ?_))))))))
 refine A3 (j:=1) [0] (k:=D1 61 (((k:Nat):Int)+1) (by omega) (by omega) kr (A5 [0] [2,3,46,47] (k:=D2 (s':=(k+1)) [2,3,46,47] kr rfl (by omega) (by omega))))
 have hk:x.attrs.length≤k:=by have:=hc4; simp only [decide_eq_false_iff_not] at this; omega
 refine E7 (A6 (A6 (B6 (A0 (A1 (A1 (A2 (A3 (j:=1) [0] (k:=?_)))))))))
 refine C1 1 3 rfl rfl (A5 [0,0] [2,3,64,65] (k:=A0 (B3 (I6 (EI:=(fun ξ:Nat=>[⟨2,[],pt b1⟩,⟨3,[],pt b2⟩,⟨64,[],.int .i64 ((x.kids.length:Nat):Int)⟩,⟨65,[],.int .i64 ((ξ:Nat):Int)⟩])) (HI:=(fun ξ:Nat=>([(b2,.cells #[.string (bk x.space),.string (bk x.name),.slice an2 x.attrs.length cn2,.slice al2 x.kids.length cl2,.string (bk x.text)] 26 (0,0))]::[(b1,.cells #[.string (bk x.space),.string (bk x.name),.slice an x.attrs.length cn,.slice al x.kids.length cl,.string (bk x.text)] 26 (0,0))]::H))) (Φ:=(fun ξ:Nat=>(ξ≤x.kids.length))) (μ:=(fun ξ:Nat=>x.kids.length - ξ)) (s0:=(0)) [2,3,64,65] kr rfl (Nat.zero_le _) ?_))))
 rintro k hkl
 refine A1 (G_p [0] [2,3,64,65,66] (k:=A0 (A1 (B1 (b:=decide (((k:Nat):Int)<((x.kids.length:Nat):Int))) kr (fun hc6=>?_) (fun hc6=>?_)))))
 have hk:k<x.kids.length:=by have:=hc6; simp only [decide_eq_true_eq] at this; omega
 obtain ⟨y,yan,ycn,yal,ycl,ycs,hyx,hye,hya,hyl,hyc,hycn⟩:=hrc.get hk
 have hyw:cnX y<cnX x:=by rw [hyx]; exact cnX_kid hk
 obtain ⟨y2,yan2,ycn2,yal2,ycl2,ycs2,hyx2,hye2,hya2,hyl2,hyc2,hycn2⟩:=hrc2.get hk
 have hyy:y2=y:=hyx2.trans hyx.symm
 rw [hyy] at hye2 hya2 hyc2
 refine A7 (A0 (A1 (B3 (A1 (G_p [0,0] [2,3,6,64,65] (k:=A0 (A1 (H5 (k:=?_)))))))))
 refine A3 (j:=1) [0] (k:=C1 1 3 rfl rfl (A3 (j:=3) [0] (k:=E4 x.kids.length ((k:Nat):Int) 5 hrl (by first | exact ⟨by omega,by omega,by intro h; have h2:=congrArg List.length h; rw [hrc.len] at h2; simp only [List.length_nil] at h2; omega⟩ | exact ⟨by omega,by omega,by intro h; have h2:=congrArg List.length h; rw [hrc2.len] at h2; simp only [List.length_nil] at h2; omega⟩) (K0 (ch:=[]) (a:=al) (q:=k * 5) (S:=S) (cs:=cs) (l:=[.string (bk y.space),.string (bk y.name),.slice yan y.attrs.length ycn,.slice yal y.kids.length ycl,.string (bk y.text)]) (hrd:=hrl) (hS:=(fun y o h=>At.cons (At.cons ((hS y o h))))) (hl:=List.cons_ne_nil _ _) (hv:=(fun _=>(elt5 hye))) (k:=A3 (j:=6) [0] (k:=C1 0 3 rfl rfl (A3 (j:=8) [0] (k:=E4 x.kids.length ((k:Nat):Int) 5 hrl2 (by first | exact ⟨by omega,by omega,by intro h; have h2:=congrArg List.length h; rw [hrc.len] at h2; simp only [List.length_nil] at h2; omega⟩ | exact ⟨by omega,by omega,by intro h; have h2:=congrArg List.length h; rw [hrc2.len] at h2; simp only [List.length_nil] at h2; omega⟩) ?_))))))))
 refine K0 (ch:=[]) (a:=al2) (q:=k * 5) (S:=S2) (cs:=cs2) (l:=[.string (bk y.space),.string (bk y.name),.slice yan2 y.attrs.length ycn2,.slice yal2 y.kids.length ycl2,.string (bk y.text)]) (hrd:=hrl2) (hS:=(fun y o h=>At.cons (At.cons ((hS2 y o h))))) (hl:=List.cons_ne_nil _ _) (hv:=(fun _=>(elt5 hye2))) (k:=H6 Tryz.func7 (hrec y hyw (by omega) yan ycn yal ycl ycs hya hyl hyc yan2 ycn2 yal2 ycl2 ycs2 hya2 hyl2 hyc2 _ _ (fun y o h=>At.cons (At.cons ((hS y o h)))) (fun y o h=>At.cons (At.cons ((hS2 y o h))))) (A5 [0] [2,3,64,65,79] (k:=A0 (C5 kr (A7 (B8 (A0 (A2 ?_))))))))
 refine A3 (j:=1) [0] (k:=D1 80 (((k:Nat):Int)+1) (by omega) (by omega) kr (A5 [0] [2,3,64,65] (k:=D2 (s':=(k+1)) [2,3,64,65] kr rfl (by omega) (by omega))))
 have hk:x.kids.length≤k:=by have:=hc6; simp only [decide_eq_false_iff_not] at this; omega
 refine E7 (A6 (A6 (B6 (A0 (A1 (C3 (E':=[⟨4,[],.bool true⟩]) [0] [4] (k:=A0 (B4 ?_))))))))
 refine F8 2 [] (B7 [.tmp 4] [.bool true] (k:=?_))
 exact ⟨rfl,rfl⟩
theorem xsame_:∀ (n:Nat) (x:XN),cnX x≤n→cnX x≤100000000→∀ (an:Option Addr) (cn:Nat) (al:Option Addr) (cl:Nat) (cs:List Value) (S:Nat→Obj→Prop),Rd S an (xaV x.attrs)→Rd S al cs→XRdL S x.kids cs→∀ (an2:Option Addr) (cn2:Nat) (al2:Option Addr) (cl2:Nat) (cs2:List Value) (S2:Nat→Obj→Prop),Rd S2 an2 (xaV x.attrs)→Rd S2 al2 cs2→XRdL S2 x.kids cs2→∀ (W0:World) (H:List Grp),(∀ z o,S z o→At W0 H z o)→(∀ z o,S2 z o→At W0 H z o)→Tri Tryz.prog 7 #[.agg (xvC x an cn al cl).toArray,.agg (xvC x an2 cn2 al2 cl2).toArray] W0 H (fun v H'=>v=.bool true∧H'=H)
 | 0,x,h,_,_,_,_,_,_,_,_,_,_,_,_,_,_,_,_,_,_,_,_,_,_,_=>absurd (cnX_pos x) (by omega)
 | n+1,x,h,hd,an,cn,al,cl,cs,S,h1,h2,h3,an2,cn2,al2,cl2,cs2,S2,k1,k2,k3,W0,H,hS,hS2=>xsameW_ x an cn al cl cs S h1 h2 h3 an2 cn2 al2 cl2 cs2 S2 k1 k2 k3 hd (fun y hy hdy an cn al cl cs h1 h2 h3 an2 cn2 al2 cl2 cs2 k1 k2 k3 W0 H hS hS2=>xsame_ n y (by omega) hdy an cn al cl cs S h1 h2 h3 an2 cn2 al2 cl2 cs2 S2 k1 k2 k3 W0 H hS hS2) W0 H hS hS2
theorem xsameC (x:XN) (hd:cnX x≤100000000) (c c2:List Value) (S S2:Nat→Obj→Prop) (h:XRd S x c) (h2:XRd S2 x c2) (W0:World) (H:List Grp) (hS:∀ z o,S z o→At W0 H z o) (hS2:∀ z o,S2 z o→At W0 H z o):Tri Tryz.prog 7 #[.agg c.toArray,.agg c2.toArray] W0 H (fun v H'=>v=.bool true∧H'=H):=by
 obtain ⟨an,al,cn,cl,cs,rfl,a1,a2,a3,_⟩:=h.shape
 obtain ⟨an2,al2,cn2,cl2,cs2,rfl,b1,b2,b3,_⟩:=h2.shape
 exact xsame_ (cnX x) x (Nat.le_refl _) hd an cn al cl cs S a1 a2 a3 an2 cn2 al2 cl2 cs2 S2 b1 b2 b3 W0 H hS hS2
end Go.Proofs.YtcgmnagcgkhogabGreatDoor
namespace Go.Esc
open Go.Lib Go.Sw
theorem numD_step {base n:Int} {m k:Nat} {l:List UInt8} (hk:k<l.length) (hm:k<m) (h:0≤X1 ((l.getD k 0).toNat:Int) base) (hT:H3 base m 0 l=((H3 base (m - k) n (l.drop k)).1,(H3 base (m - k) n (l.drop k)).2+k)) :
  H3 base m 0 l=((H3 base (m - (k+1)) (base * n+X1 ((l.getD k 0).toNat:Int) base) (l.drop (k+1))).1,(H3 base (m - (k+1)) (base * n+X1 ((l.getD k 0).toNat:Int) base) (l.drop (k+1))).2+(k+1)):=by
 rw [hT,M5 _ hk,show m - k=(m - (k+1))+1 by omega,H3,if_neg (by omega)]
 refine Prod.ext rfl ?_
 show _+1+k=_+(k+1)
 omega
theorem numD_stop {base n:Int} {m k:Nat} {l:List UInt8} (h:l.length≤k∨m≤k∨X1 ((l.getD k 0).toNat:Int) base<0) (hT:H3 base m 0 l=((H3 base (m - k) n (l.drop k)).1,(H3 base (m - k) n (l.drop k)).2+k)):H3 base m 0 l=(n,k):=by
 have e:H3 base (m - k) n (l.drop k)=(n,0):=by
  by_cases hm:m≤k
  rw [show m - k=0 by omega,H3]
  by_cases hl:l.length≤k
  rw [List.drop_eq_nil_of_le hl,show m - k=(m - k - 1)+1 by omega,H3]
  have h3:X1 ((l.getD k 0).toNat:Int) base<0:=by
   rcases h with h | h | h
   exact absurd h hl
   exact absurd h hm
   exact h
  rw [M5 _ (by omega),show m - k=(m - k - 1)+1 by omega,H3,if_pos h3]
 rw [hT,e]; exact Prod.ext rfl (Nat.zero_add _)
theorem b38 {b:UInt8} (h:(b.toNat:Int)=38):b=38:=UInt8.toNat_inj.1 (by show b.toNat=38; omega)
end Go.Esc
namespace Go.Proofs.YtcgmnagcgkhogabGreatDoor
open Go.Sw Go.Sha Go.Esc Go.RowKit
theorem w8i {x:Int} (h0:0≤x) (h1:x<256):IntKind.wrap .u8 x=x:=by rw [w8m]; omega
theorem is_ (n:Int) (W0:World) (H:List Grp):Tri Tryz.prog 100 #[.int .i64 n] W0 H (fun v H'=>v=.bool (isB n)∧H'=H):=by
 refine D5 17 Tryz.func100 ?_
 refine A1 (C3 (E':=[⟨0,[],.int .i64 n⟩]) [0] [0] (k:=A0 (A1 (G_p [0,0,0,0,0,6,0,0,0,0,0,0,5,6,0] [2] (k:=A0 (B4 (B7 [.tmp 2] [.bool (((decide (n ≥ 0))&&(decide (n≤1114111)))&&((decide (n<55296))||(decide (n > 57343))))] (k:=?_))))))))
 exact ⟨by unfold isB; rfl,rfl⟩
theorem read_ (s:ByteArray) (h0:0<s.size) (hs:s.size≤1000000000000) (W0:World) (H:List Grp):Tri Tryz.prog 81 #[.string s] W0 H (fun v H'=>v=.tuple #[.int .i64 (rdP s.data.toList).1,.int .i64 ((rdP s.data.toList).2:Int)]∧H'=H):=by
 have e0:=bt_eq s 0
 have e1:=bt_eq s 1
 have e2:=bt_eq s 2
 have e3:=bt_eq s 3
 have g0:bt s 0<256:=UInt8.toNat_lt _
 have g1:bt s 1<256:=UInt8.toNat_lt _
 have g2:bt s 2<256:=UInt8.toNat_lt _
 have g3:bt s 3<256:=UInt8.toNat_lt _
 have hl:=G7 s
 simp only [Int.cast_ofNat_Int] at e0 e1 e2 e3
 refine D5 77 Tryz.func81 ?_
 refine A1 (C3 (E':=[⟨0,[],.string s⟩]) [0,0] [0] (k:=A0 (A1 (A2 (A3 (j:=1) [0] (k:=G4 s 0 (fun _=>by omega) ?_))))))
 have hb1:=E5 s 0
 refine A3 (j:=3) [0] (k:=D1 11 (B2 s 0) (by omega) (by omega) kr (A5 [0] [0,4] (k:=A0 (A1 (G_p [0,0] [0,4] (k:=A0 (A1 (B3 ?_))))))))
 refine A1 (G_p [0,0,0] [0,4,12] (k:=A0 (B1 (b:=decide ((B2 s 0)<128)) kr (fun hc3=>?_) (fun hc3=>?_))))
 simp only [decide_eq_true_eq] at hc3
 refine A1 (G_p [0,0,0] [2,3] (k:=A0 (B4 (B0 (A4 (B7 [.tmp 2,.tmp 3] [.int .i64 (B2 s 0),.int .i64 1] (k:=?_)))))))
 exact ⟨by rw [rdP_ok (l:=s.data.toList) (dec1 (b0:=bt s 0) (b1:=bt s 1) (b2:=bt s 2) (b3:=bt s 3) (by (try rw [hl]); omega)) (by omega)]; exact congrArg (fun x=>Value.tuple #[.int .i64 x,.int .i64 1]) (by omega),rfl⟩
 simp only [decide_eq_false_iff_not] at hc3
 refine A1 (G_p [0,0,0,0,0,6,0] [0,4,16] (k:=A0 (B1 (b:=(decide ((B2 s 0) ≥ 194))&&(decide ((B2 s 0)<224))) kr (fun hc4=>?_) (fun hc4=>?_))))
 simp only [Bool.and_eq_true,decide_eq_true_eq,ge_iff_le] at hc4
 refine A2 (A3 (j:=2) [0,0] (k:=D1 24 ((B2 s 0) - 192) (by omega) (by omega) kr (A5 [0,0,0] [0,4,5,6] (k:=B8 (A0 (A1 (A1 (G_p [0,0,0,0] [0,4,5,6,46] (k:=?_)))))))))
 refine A0 (B1 (b:=decide ((s.size:Int)<2)) kr (fun hc6=>?_) (fun hc6=>?_))
 simp only [decide_eq_true_eq] at hc6
 refine A1 (G_p [0,0] [2,3] (k:=A0 (B4 (A4 (B7 [.tmp 2,.tmp 3] [.int .i64 (-1),.int .i64 1] (k:=?_))))))
 exact ⟨by rw [R8 (l:=s.data.toList) (S1 (b0:=bt s 0) (b1:=bt s 1) (b2:=bt s 2) (b3:=bt s 3) (by rw [hl]; omega))]; rfl,rfl⟩
 simp only [decide_eq_false_iff_not] at hc6
 refine A7 (A0 (A1 (A1 (G_p [0] [0,4,5,6,7] (k:=A0 (B3 (O0 4 (F5 ?_))))))))
 refine A1 (A1 (G_p [0,0,0] [0,4,5,6,7,49] (k:=A0 (B9 kr (A7 (A0 (A1 (B3 ?_))))))))
 refine A1 (A2 (A3 (j:=2) [0,0] (k:=G4 s 1 (fun _=>by omega) ?_)))
 have hb7:=E5 s 1
 refine A3 (j:=4) [0] (k:=D1 55 (B2 s 1) (by omega) (by omega) kr (A5 [0] [0,4,5,6,7,8] (k:=A0 (A1 (A1 (G_p [0,0,0,0,0,5] [0,4,5,6,7,8,61] (k:=A0 (B1 (b:=(decide ((B2 s 1)<128))||(decide ((B2 s 1) ≥ 192))) kr (fun hc9=>?_) (fun hc9=>?_)))))))))
 simp only [Bool.or_eq_true,decide_eq_true_eq,ge_iff_le] at hc9
 refine A1 (G_p [0,0] [2,3] (k:=A0 (B4 (A4 (B0 (A4 (A4 (B0 ?_))))))))
 refine A4 (B7 [.tmp 2,.tmp 3] [.int .i64 (-1),.int .i64 1] (k:=?_))
 exact ⟨by rw [R8 (l:=s.data.toList) (S1 (b0:=bt s 0) (b1:=bt s 1) (b2:=bt s 2) (b3:=bt s 3) (by rw [hl]; omega))]; rfl,rfl⟩
 simp only [Bool.or_eq_false_iff,decide_eq_false_iff_not,ge_iff_le] at hc9
 refine A7 (A0 (A2 (A3 (j:=2) [0,0] (k:=D1 63 (64 * ((B2 s 0) - 192)) (by omega) (by omega) kr (A3 (j:=4) [0,0] (k:=D1 65 ((64 * ((B2 s 0) - 192))+(B2 s 1)) (by omega) (by omega) kr (A3 (j:=5) [0] (k:=D1 66 (((64 * ((B2 s 0) - 192))+(B2 s 1)) - 128) (by omega) (by omega) kr ?_))))))))
 refine A5 [0] [0,4,5,6,7] (k:=B8 (A0 (G_p [0,0,0] [0,4,5,6,7] (k:=Z5 (F5 (A1 (A1 (G_p [0,0,0] [0,4,5,6,7,49] (k:=?_)))))))))
 refine A0 (C5 kr (E7 (A6 (A6 (B6 (A0 (A1 (A1 ?_))))))))
 refine A2 (A3 (j:=5) [0,0,0,0,0] (k:=P7 [(70,false)] Tryz.func100 (fun hc=>is_ (((64 * ((B2 s 0) - 192))+(B2 s 1)) - 128) _ _) (A5 [0,5] [4,5,74] (k:=A0 (B1 (b:=(decide ((((64 * ((B2 s 0) - 192))+(B2 s 1)) - 128)<128))||(!(isB (((64 * ((B2 s 0) - 192))+(B2 s 1)) - 128)))) kr (fun hc13=>?_) (fun hc13=>?_))))))
 simp only [Bool.or_eq_true,Bool.not_eq_true',decide_eq_true_eq,isBf_iff,isR] at hc13
 refine A1 (C3 (E':=[⟨2,[],.int .i64 (-1)⟩,⟨3,[],.int .i64 1⟩]) [0,0] [2,3] (k:=A0 (B4 (A4 (B7 [.tmp 2,.tmp 3] [.int .i64 (-1),.int .i64 1] (k:=?_))))))
 exact ⟨by rw [R8 (l:=s.data.toList) (S1 (b0:=bt s 0) (b1:=bt s 1) (b2:=bt s 2) (b3:=bt s 3) (by rw [hl]; omega))]; rfl,rfl⟩
 simp only [Bool.or_eq_false_iff,Bool.not_eq_false',decide_eq_false_iff_not,isB_iff,isR] at hc13
 refine A7 (A0 (A1 (C3 (E':=[⟨2,[],.int .i64 (((64 * ((B2 s 0) - 192))+(B2 s 1)) - 128)⟩,⟨3,[],.int .i64 2⟩]) [0,0,0,0] [2,3] (k:=A0 (B4 (B7 [.tmp 2,.tmp 3] [.int .i64 (((64 * ((B2 s 0) - 192))+(B2 s 1)) - 128),.int .i64 2] (k:=?_)))))))
 exact ⟨by rw [rdP_ok (l:=s.data.toList) (dec2 (b0:=bt s 0) (b1:=bt s 1) (b2:=bt s 2) (b3:=bt s 3) (by (try rw [hl]); omega)) (by omega)]; exact congrArg (fun x=>Value.tuple #[.int .i64 x,.int .i64 2]) (by omega),rfl⟩
 simp only [Bool.and_eq_false_iff,decide_eq_false_iff_not,ge_iff_le] at hc4
 refine A1 (G_p [0,0,0,0,0,6,0] [0,4,25] (k:=A0 (B1 (b:=(decide ((B2 s 0) ≥ 224))&&(decide ((B2 s 0)<240))) kr (fun hc14=>?_) (fun hc14=>?_))))
 simp only [Bool.and_eq_true,decide_eq_true_eq,ge_iff_le] at hc14
 refine A2 (A3 (j:=2) [0,0] (k:=D1 33 ((B2 s 0) - 224) (by omega) (by omega) kr (A5 [0,0,0] [0,4,5,6] (k:=B8 (A0 (A1 (A1 (G_p [0,0,0,0] [0,4,5,6,46] (k:=?_)))))))))
 refine A0 (B1 (b:=decide ((s.size:Int)<3)) kr (fun hc16=>?_) (fun hc16=>?_))
 simp only [decide_eq_true_eq] at hc16
 refine A1 (G_p [0,0] [2,3] (k:=A0 (B4 (A4 (B7 [.tmp 2,.tmp 3] [.int .i64 (-1),.int .i64 1] (k:=?_))))))
 exact ⟨by rw [R8 (l:=s.data.toList) (S1 (b0:=bt s 0) (b1:=bt s 1) (b2:=bt s 2) (b3:=bt s 3) (by rw [hl]; omega))]; rfl,rfl⟩
 simp only [decide_eq_false_iff_not] at hc16
 refine A7 (A0 (A1 (A1 (G_p [0] [0,4,5,6,7] (k:=A0 (B3 (O0 4 (F5 ?_))))))))
 refine A1 (A1 (G_p [0,0,0] [0,4,5,6,7,49] (k:=A0 (B9 kr (A7 (A0 (A1 (B3 ?_))))))))
 refine A1 (A2 (A3 (j:=2) [0,0] (k:=G4 s 1 (fun _=>by omega) ?_)))
 have hb17:=E5 s 1
 refine A3 (j:=4) [0] (k:=D1 55 (B2 s 1) (by omega) (by omega) kr (A5 [0] [0,4,5,6,7,8] (k:=A0 (A1 (A1 (G_p [0,0,0,0,0,5] [0,4,5,6,7,8,61] (k:=A0 (B1 (b:=(decide ((B2 s 1)<128))||(decide ((B2 s 1) ≥ 192))) kr (fun hc19=>?_) (fun hc19=>?_)))))))))
 simp only [Bool.or_eq_true,decide_eq_true_eq,ge_iff_le] at hc19
 refine A1 (G_p [0,0] [2,3] (k:=A0 (B4 (A4 (B0 (A4 (A4 (B0 ?_))))))))
 refine A4 (B7 [.tmp 2,.tmp 3] [.int .i64 (-1),.int .i64 1] (k:=?_))
 exact ⟨by rw [R8 (l:=s.data.toList) (S1 (b0:=bt s 0) (b1:=bt s 1) (b2:=bt s 2) (b3:=bt s 3) (by rw [hl]; omega))]; rfl,rfl⟩
 simp only [Bool.or_eq_false_iff,decide_eq_false_iff_not,ge_iff_le] at hc19
 refine A7 (A0 (A2 (A3 (j:=2) [0,0] (k:=D1 63 (64 * ((B2 s 0) - 224)) (by omega) (by omega) kr (A3 (j:=4) [0,0] (k:=D1 65 ((64 * ((B2 s 0) - 224))+(B2 s 1)) (by omega) (by omega) kr (A3 (j:=5) [0] (k:=D1 66 (((64 * ((B2 s 0) - 224))+(B2 s 1)) - 128) (by omega) (by omega) kr ?_))))))))
 refine A5 [0] [0,4,5,6,7] (k:=B8 (A0 (G_p [0,0,0] [0,4,5,6,7] (k:=Z5 (F5 (A1 (A1 (G_p [0,0,0] [0,4,5,6,7,49] (k:=?_)))))))))
 refine A0 (B9 kr (A7 (A0 (A1 (B3 (A1 (A2 (A3 (j:=2) [0,0] (k:=?_)))))))))
 refine G4 s 2 (fun _=>by omega) ?_
 have hb23:=E5 s 2
 refine A3 (j:=4) [0] (k:=D1 55 (B2 s 2) (by omega) (by omega) kr (C0 (E':=[⟨0,[],.string s⟩,⟨4,[],.int .i64 (((64 * ((B2 s 0) - 224))+(B2 s 1)) - 128)⟩,⟨5,[],.int .i64 3⟩,⟨6,[],.int .i64 2048⟩,⟨7,[],.int .i64 2⟩,⟨8,[],.int .i64 (B2 s 2)⟩]) [0] [0,4,5,6,7,8] (k:=A0 (A1 (A1 (G_p [0,0,0,0,0,5] [0,4,5,6,7,8,61] (k:=A0 (B1 (b:=(decide ((B2 s 2)<128))||(decide ((B2 s 2) ≥ 192))) kr (fun hc25=>?_) (fun hc25=>?_)))))))))
 simp only [Bool.or_eq_true,decide_eq_true_eq,ge_iff_le] at hc25
 refine A1 (G_p [0,0] [2,3] (k:=A0 (B4 (A4 (B0 (A4 (A4 (B0 ?_))))))))
 refine A4 (B7 [.tmp 2,.tmp 3] [.int .i64 (-1),.int .i64 1] (k:=?_))
 exact ⟨by rw [R8 (l:=s.data.toList) (S1 (b0:=bt s 0) (b1:=bt s 1) (b2:=bt s 2) (b3:=bt s 3) (by rw [hl]; omega))]; rfl,rfl⟩
 simp only [Bool.or_eq_false_iff,decide_eq_false_iff_not,ge_iff_le] at hc25
 refine A7 (A0 (A2 (A3 (j:=2) [0,0] (k:=D1 63 (64 * (((64 * ((B2 s 0) - 224))+(B2 s 1)) - 128)) (by omega) (by omega) kr (A3 (j:=4) [0,0] (k:=D1 65 ((64 * (((64 * ((B2 s 0) - 224))+(B2 s 1)) - 128))+(B2 s 2)) (by omega) (by omega) kr (A3 (j:=5) [0] (k:=D1 66 (((64 * (((64 * ((B2 s 0) - 224))+(B2 s 1)) - 128))+(B2 s 2)) - 128) (by omega) (by omega) kr ?_))))))))
 refine A5 [0] [0,4,5,6,7] (k:=B8 (A0 (G_p [0,0,0] [0,4,5,6,7] (k:=Z5 (F5 (A1 (A1 (G_p [0,0,0] [0,4,5,6,7,49] (k:=?_)))))))))
 refine A0 (C5 kr (E7 (A6 (A6 (B6 (A0 (A1 (A1 ?_))))))))
 refine A2 (A3 (j:=5) [0,0,0,0,0] (k:=P7 [(70,false)] Tryz.func100 (fun hc=>is_ (((64 * (((64 * ((B2 s 0) - 224))+(B2 s 1)) - 128))+(B2 s 2)) - 128) _ _) (A5 [0,5] [4,5,74] (k:=A0 (B1 (b:=(decide ((((64 * (((64 * ((B2 s 0) - 224))+(B2 s 1)) - 128))+(B2 s 2)) - 128)<2048))||(!(isB (((64 * (((64 * ((B2 s 0) - 224))+(B2 s 1)) - 128))+(B2 s 2)) - 128)))) kr (fun hc29=>?_) (fun hc29=>?_))))))
 simp only [Bool.or_eq_true,Bool.not_eq_true',decide_eq_true_eq,isBf_iff,isR] at hc29
 refine A1 (G_p [0,0] [2,3] (k:=A0 (B4 (A4 (B7 [.tmp 2,.tmp 3] [.int .i64 (-1),.int .i64 1] (k:=?_))))))
 exact ⟨by rw [R8 (l:=s.data.toList) (S1 (b0:=bt s 0) (b1:=bt s 1) (b2:=bt s 2) (b3:=bt s 3) (by rw [hl]; omega))]; rfl,rfl⟩
 simp only [Bool.or_eq_false_iff,Bool.not_eq_false',decide_eq_false_iff_not,isB_iff,isR] at hc29
 refine A7 (A0 (A1 (G_p [0,0,0,0] [2,3] (k:=A0 (B4 (B7 [.tmp 2,.tmp 3] [.int .i64 (((64 * (((64 * ((B2 s 0) - 224))+(B2 s 1)) - 128))+(B2 s 2)) - 128),.int .i64 3] (k:=?_)))))))
 exact ⟨by rw [rdP_ok (l:=s.data.toList) (dec3 (b0:=bt s 0) (b1:=bt s 1) (b2:=bt s 2) (b3:=bt s 3) (by (try rw [hl]); omega)) (by omega)]; exact congrArg (fun x=>Value.tuple #[.int .i64 x,.int .i64 3]) (by omega),rfl⟩
 simp only [Bool.and_eq_false_iff,decide_eq_false_iff_not,ge_iff_le] at hc14
 refine A1 (G_p [0,0,0,0,0,6,0] [0,4,34] (k:=A0 (B1 (b:=(decide ((B2 s 0) ≥ 240))&&(decide ((B2 s 0)<245))) kr (fun hc30=>?_) (fun hc30=>?_))))
 simp only [Bool.and_eq_true,decide_eq_true_eq,ge_iff_le] at hc30
 refine A2 (A3 (j:=2) [0,0] (k:=D1 42 ((B2 s 0) - 240) (by omega) (by omega) kr (A5 [0,0,0] [0,4,5,6] (k:=B8 (A0 (A1 (A1 (G_p [0,0,0,0] [0,4,5,6,46] (k:=?_)))))))))
 refine A0 (B1 (b:=decide ((s.size:Int)<4)) kr (fun hc32=>?_) (fun hc32=>?_))
 simp only [decide_eq_true_eq] at hc32
 refine A1 (G_p [0,0] [2,3] (k:=A0 (B4 (A4 (B7 [.tmp 2,.tmp 3] [.int .i64 (-1),.int .i64 1] (k:=?_))))))
 exact ⟨by rw [R8 (l:=s.data.toList) (S1 (b0:=bt s 0) (b1:=bt s 1) (b2:=bt s 2) (b3:=bt s 3) (by rw [hl]; omega))]; rfl,rfl⟩
 simp only [decide_eq_false_iff_not] at hc32
 refine A7 (A0 (A1 (A1 (G_p [0] [0,4,5,6,7] (k:=A0 (B3 (O0 4 (F5 ?_))))))))
 refine A1 (A1 (G_p [0,0,0] [0,4,5,6,7,49] (k:=A0 (B9 kr (A7 (A0 (A1 (B3 ?_))))))))
 refine A1 (A2 (A3 (j:=2) [0,0] (k:=G4 s 1 (fun _=>by omega) ?_)))
 have hb33:=E5 s 1
 refine A3 (j:=4) [0] (k:=D1 55 (B2 s 1) (by omega) (by omega) kr (A5 [0] [0,4,5,6,7,8] (k:=A0 (A1 (A1 (G_p [0,0,0,0,0,5] [0,4,5,6,7,8,61] (k:=A0 (B1 (b:=(decide ((B2 s 1)<128))||(decide ((B2 s 1) ≥ 192))) kr (fun hc35=>?_) (fun hc35=>?_)))))))))
 simp only [Bool.or_eq_true,decide_eq_true_eq,ge_iff_le] at hc35
 refine A1 (G_p [0,0] [2,3] (k:=A0 (B4 (A4 (B0 (A4 (A4 (B0 ?_))))))))
 refine A4 (B7 [.tmp 2,.tmp 3] [.int .i64 (-1),.int .i64 1] (k:=?_))
 exact ⟨by rw [R8 (l:=s.data.toList) (S1 (b0:=bt s 0) (b1:=bt s 1) (b2:=bt s 2) (b3:=bt s 3) (by rw [hl]; omega))]; rfl,rfl⟩
 simp only [Bool.or_eq_false_iff,decide_eq_false_iff_not,ge_iff_le] at hc35
 refine A7 (A0 (A2 (A3 (j:=2) [0,0] (k:=D1 63 (64 * ((B2 s 0) - 240)) (by omega) (by omega) kr (A3 (j:=4) [0,0] (k:=D1 65 ((64 * ((B2 s 0) - 240))+(B2 s 1)) (by omega) (by omega) kr (A3 (j:=5) [0] (k:=D1 66 (((64 * ((B2 s 0) - 240))+(B2 s 1)) - 128) (by omega) (by omega) kr ?_))))))))
 refine A5 [0] [0,4,5,6,7] (k:=B8 (A0 (G_p [0,0,0] [0,4,5,6,7] (k:=Z5 (F5 (A1 (A1 (C3 (E':=[⟨0,[],.string s⟩,⟨4,[],.int .i64 (((64 * ((B2 s 0) - 240))+(B2 s 1)) - 128)⟩,⟨5,[],.int .i64 4⟩,⟨6,[],.int .i64 65536⟩,⟨7,[],.int .i64 2⟩,⟨49,[],.bool true⟩]) [0,0,0] [0,4,5,6,7,49] (k:=?_)))))))))
 refine A0 (B9 kr (A7 (A0 (A1 (B3 (A1 (A2 (A3 (j:=2) [0,0] (k:=?_)))))))))
 refine G4 s 2 (fun _=>by omega) ?_
 have hb39:=E5 s 2
 refine A3 (j:=4) [0] (k:=D1 55 (B2 s 2) (by omega) (by omega) kr (A5 [0] [0,4,5,6,7,8] (k:=A0 (A1 (A1 (G_p [0,0,0,0,0,5] [0,4,5,6,7,8,61] (k:=A0 (B1 (b:=(decide ((B2 s 2)<128))||(decide ((B2 s 2) ≥ 192))) kr (fun hc41=>?_) (fun hc41=>?_)))))))))
 simp only [Bool.or_eq_true,decide_eq_true_eq,ge_iff_le] at hc41
 refine A1 (G_p [0,0] [2,3] (k:=A0 (B4 (A4 (B0 (A4 (A4 (B0 ?_))))))))
 refine A4 (B7 [.tmp 2,.tmp 3] [.int .i64 (-1),.int .i64 1] (k:=?_))
 exact ⟨by rw [R8 (l:=s.data.toList) (S1 (b0:=bt s 0) (b1:=bt s 1) (b2:=bt s 2) (b3:=bt s 3) (by rw [hl]; omega))]; rfl,rfl⟩
 simp only [Bool.or_eq_false_iff,decide_eq_false_iff_not,ge_iff_le] at hc41
 refine A7 (A0 (A2 (A3 (j:=2) [0,0] (k:=D1 63 (64 * (((64 * ((B2 s 0) - 240))+(B2 s 1)) - 128)) (by omega) (by omega) kr (A3 (j:=4) [0,0] (k:=D1 65 ((64 * (((64 * ((B2 s 0) - 240))+(B2 s 1)) - 128))+(B2 s 2)) (by omega) (by omega) kr (A3 (j:=5) [0] (k:=D1 66 (((64 * (((64 * ((B2 s 0) - 240))+(B2 s 1)) - 128))+(B2 s 2)) - 128) (by omega) (by omega) kr ?_))))))))
 refine A5 [0] [0,4,5,6,7] (k:=B8 (A0 (G_p [0,0,0] [0,4,5,6,7] (k:=Z5 (F5 (A1 (A1 (G_p [0,0,0] [0,4,5,6,7,49] (k:=?_)))))))))
 refine A0 (B9 kr (A7 (A0 (A1 (B3 (A1 (A2 (A3 (j:=2) [0,0] (k:=?_)))))))))
 refine G4 s 3 (fun _=>by omega) ?_
 have hb45:=E5 s 3
 refine A3 (j:=4) [0] (k:=D1 55 (B2 s 3) (by omega) (by omega) kr (A5 [0] [0,4,5,6,7,8] (k:=A0 (A1 (A1 (G_p [0,0,0,0,0,5] [0,4,5,6,7,8,61] (k:=A0 (B1 (b:=(decide ((B2 s 3)<128))||(decide ((B2 s 3) ≥ 192))) kr (fun hc47=>?_) (fun hc47=>?_)))))))))
 simp only [Bool.or_eq_true,decide_eq_true_eq,ge_iff_le] at hc47
 refine A1 (G_p [0,0] [2,3] (k:=A0 (B4 (A4 (B0 (A4 (A4 (B0 ?_))))))))
 refine A4 (B7 [.tmp 2,.tmp 3] [.int .i64 (-1),.int .i64 1] (k:=?_))
 exact ⟨by rw [R8 (l:=s.data.toList) (S1 (b0:=bt s 0) (b1:=bt s 1) (b2:=bt s 2) (b3:=bt s 3) (by rw [hl]; omega))]; rfl,rfl⟩
 simp only [Bool.or_eq_false_iff,decide_eq_false_iff_not,ge_iff_le] at hc47
 refine A7 (A0 (A2 (A3 (j:=2) [0,0] (k:=D1 63 (64 * (((64 * (((64 * ((B2 s 0) - 240))+(B2 s 1)) - 128))+(B2 s 2)) - 128)) (by omega) (by omega) kr (A3 (j:=4) [0,0] (k:=D1 65 ((64 * (((64 * (((64 * ((B2 s 0) - 240))+(B2 s 1)) - 128))+(B2 s 2)) - 128))+(B2 s 3)) (by omega) (by omega) kr (A3 (j:=5) [0] (k:=D1 66 (((64 * (((64 * (((64 * ((B2 s 0) - 240))+(B2 s 1)) - 128))+(B2 s 2)) - 128))+(B2 s 3)) - 128) (by omega) (by omega) kr ?_))))))))
 refine A5 [0] [0,4,5,6,7] (k:=B8 (A0 (G_p [0,0,0] [0,4,5,6,7] (k:=Z5 (F5 (A1 (A1 (G_p [0,0,0] [0,4,5,6,7,49] (k:=?_)))))))))
 refine A0 (C5 kr (E7 (A6 (A6 (B6 (A0 (A1 (A1 ?_))))))))
 refine A2 (A3 (j:=5) [0,0,0,0,0] (k:=P7 [(70,false)] Tryz.func100 (fun hc=>is_ (((64 * (((64 * (((64 * ((B2 s 0) - 240))+(B2 s 1)) - 128))+(B2 s 2)) - 128))+(B2 s 3)) - 128) _ _) (A5 [0,5] [4,5,74] (k:=A0 (B1 (b:=(decide ((((64 * (((64 * (((64 * ((B2 s 0) - 240))+(B2 s 1)) - 128))+(B2 s 2)) - 128))+(B2 s 3)) - 128)<65536))||(!(isB (((64 * (((64 * (((64 * ((B2 s 0) - 240))+(B2 s 1)) - 128))+(B2 s 2)) - 128))+(B2 s 3)) - 128)))) kr (fun hc51=>?_) (fun hc51=>?_))))))
 simp only [Bool.or_eq_true,Bool.not_eq_true',decide_eq_true_eq,isBf_iff,isR] at hc51
 refine A1 (G_p [0,0] [2,3] (k:=A0 (B4 (A4 (B7 [.tmp 2,.tmp 3] [.int .i64 (-1),.int .i64 1] (k:=?_))))))
 exact ⟨by rw [R8 (l:=s.data.toList) (S1 (b0:=bt s 0) (b1:=bt s 1) (b2:=bt s 2) (b3:=bt s 3) (by rw [hl]; omega))]; rfl,rfl⟩
 simp only [Bool.or_eq_false_iff,Bool.not_eq_false',decide_eq_false_iff_not,isB_iff,isR] at hc51
 refine A7 (A0 (A1 (G_p [0,0,0,0] [2,3] (k:=A0 (B4 (B7 [.tmp 2,.tmp 3] [.int .i64 (((64 * (((64 * (((64 * ((B2 s 0) - 240))+(B2 s 1)) - 128))+(B2 s 2)) - 128))+(B2 s 3)) - 128),.int .i64 4] (k:=?_)))))))
 exact ⟨by rw [rdP_ok (l:=s.data.toList) (dec4 (b0:=bt s 0) (b1:=bt s 1) (b2:=bt s 2) (b3:=bt s 3) (by (try rw [hl]); omega)) (by omega)]; exact congrArg (fun x=>Value.tuple #[.int .i64 x,.int .i64 4]) (by omega),rfl⟩
 simp only [Bool.and_eq_false_iff,decide_eq_false_iff_not,ge_iff_le] at hc30
 refine A1 (G_p [0,0] [2,3] (k:=A0 (B4 (B0 (A4 (B7 [.tmp 2,.tmp 3] [.int .i64 (-1),.int .i64 1] (k:=?_)))))))
 exact ⟨by rw [R8 (l:=s.data.toList) (S1 (b0:=bt s 0) (b1:=bt s 1) (b2:=bt s 2) (b3:=bt s 3) (by rw [hl]; omega))]; rfl,rfl⟩
theorem one_ (p:Int) (hp:isR p) (W0:World) (H:List Grp):Tri Tryz.prog 82 #[.int .i64 p] W0 H (fun v H'=>∃ b,v=.slice (some ⟨b,0,none⟩) (Lib.encodeRune p).length (Lib.encodeRune p).length∧H'=[(b,.cells (u8s (Lib.encodeRune p)).toArray 5 (0,0))]::H):=by
 obtain ⟨hp0,hp1,hp2⟩:=hp
 refine D5 57 Tryz.func82 ?_
 refine A1 (C3 (E':=[⟨0,[],.int .i64 p⟩]) [0] [0] (k:=A0 (A1 (B3 (A1 (G_p [0,0,0] [0,3] (k:=A0 (B1 (b:=decide (p<128)) kr (fun hc1=>?_) (fun hc1=>?_)))))))))
 simp only [decide_eq_true_eq] at hc1
 refine A1 (A2 (A3 (j:=2) [0,0] (k:=E3 7 (x:=.int .u8 (IntKind.wrap .u8 p)) (y:=.int .u8 p) (by rw [w8i (x:=p) (by omega) (by omega)]) (H0 5 1 [.int .u8 p] (fun b2=>A5 [0] [2] (k:=A0 (B4 (B0 ?_))))))))
 refine A4 (B7 [.tmp 2] [.slice (some ⟨b2,0,none⟩) 1 1] (k:=?_))
 exact ⟨b2,by rw [show (Lib.encodeRune p).length=1 by unfold Lib.encodeRune; rw [Lib.encodeRuneZ_one (r:=p) (by omega) (by omega)]; rfl]; rfl,by rw [A0b,Lib.encodeRuneZ_one (r:=p) (by omega) (by omega)]; rfl⟩
 simp only [decide_eq_false_iff_not] at hc1
 refine A1 (G_p [0,0,0] [0,9] (k:=A0 (B1 (b:=decide (p<2048)) kr (fun hc3=>?_) (fun hc3=>?_))))
 simp only [decide_eq_true_eq] at hc3
 refine A1 (A2 (A3 (j:=2) [0,0] (k:=?_)))
 have hw4:IntKind.wrap .i64 (Int.tdiv p 64)=p / 64:=q64 (by omega) (by omega) (by decide)
 refine GL_w 13 hw4 kr (A3 (j:=3) [0] (k:=D1 14 (192+(p / 64)) (by omega) (by omega) kr (A3 (j:=4) [0] (k:=E3 15 (x:=.int .u8 (IntKind.wrap .u8 (192+(p / 64)))) (y:=.int .u8 (192+(p / 64))) (by rw [w8i (x:=(192+(p / 64))) (by omega) (by omega)]) (A3 (j:=6) [0,0] (k:=?_))))))
 have hw6:Int.tmod p 64=p % 64:=r64 (by omega)
 refine GL_w 17 hw6 kr (A3 (j:=7) [0] (k:=D1 18 (128+(p % 64)) (by omega) (by omega) kr (A3 (j:=8) [0] (k:=E3 19 (x:=.int .u8 (IntKind.wrap .u8 (128+(p % 64)))) (y:=.int .u8 (128+(p % 64))) (by rw [w8i (x:=(128+(p % 64))) (by omega) (by omega)]) (H0 5 2 [.int .u8 (192+(p / 64)),.int .u8 (128+(p % 64))] (fun b8=>A5 [0] [2] (k:=A0 (B4 ?_))))))))
 refine B0 (A4 (B7 [.tmp 2] [.slice (some ⟨b8,0,none⟩) 2 2] (k:=?_)))
 exact ⟨b8,by rw [show (Lib.encodeRune p).length=2 by unfold Lib.encodeRune; rw [Lib.encodeRuneZ_two (r:=p) (by omega) (by omega)]; rfl]; rfl,by rw [A0b,Lib.encodeRuneZ_two (r:=p) (by omega) (by omega)]; rfl⟩
 simp only [decide_eq_false_iff_not] at hc3
 refine A1 (G_p [0,0,0] [0,21] (k:=A0 (B1 (b:=decide (p<65536)) kr (fun hc9=>?_) (fun hc9=>?_))))
 simp only [decide_eq_true_eq] at hc9
 refine A1 (A2 (A3 (j:=2) [0,0] (k:=?_)))
 have hw10:IntKind.wrap .i64 (Int.tdiv p 4096)=p / 4096:=q64 (by omega) (by omega) (by decide)
 refine GL_w 25 hw10 kr (A3 (j:=3) [0] (k:=D1 26 (224+(p / 4096)) (by omega) (by omega) kr (A3 (j:=4) [0] (k:=E3 27 (x:=.int .u8 (IntKind.wrap .u8 (224+(p / 4096)))) (y:=.int .u8 (224+(p / 4096))) (by rw [w8i (x:=(224+(p / 4096))) (by omega) (by omega)]) (A3 (j:=6) [0,0] (k:=?_))))))
 have hw12:IntKind.wrap .i64 (Int.tdiv p 64)=p / 64:=q64 (by omega) (by omega) (by decide)
 refine GL_w 29 hw12 kr (A3 (j:=7) [0] (k:=?_))
 have hw13:Int.tmod (p / 64) 64=(p / 64) % 64:=r64 (by omega)
 refine GL_w 30 hw13 kr (A3 (j:=8) [0] (k:=D1 31 (128+((p / 64) % 64)) (by omega) (by omega) kr (A3 (j:=9) [0] (k:=E3 32 (x:=.int .u8 (IntKind.wrap .u8 (128+((p / 64) % 64)))) (y:=.int .u8 (128+((p / 64) % 64))) (by rw [w8i (x:=(128+((p / 64) % 64))) (by omega) (by omega)]) (A3 (j:=11) [0,0] (k:=?_))))))
 have hw15:Int.tmod p 64=p % 64:=r64 (by omega)
 refine GL_w 34 hw15 kr (A3 (j:=12) [0] (k:=D1 35 (128+(p % 64)) (by omega) (by omega) kr (A3 (j:=13) [0] (k:=E3 36 (x:=.int .u8 (IntKind.wrap .u8 (128+(p % 64)))) (y:=.int .u8 (128+(p % 64))) (by rw [w8i (x:=(128+(p % 64))) (by omega) (by omega)]) (H0 5 3 [.int .u8 (224+(p / 4096)),.int .u8 (128+((p / 64) % 64)),.int .u8 (128+(p % 64))] (fun b17=>A5 [0] [2] (k:=A0 (B4 ?_))))))))
 refine B0 (A4 (B7 [.tmp 2] [.slice (some ⟨b17,0,none⟩) 3 3] (k:=?_)))
 exact ⟨b17,by rw [show (Lib.encodeRune p).length=3 by unfold Lib.encodeRune; rw [Lib.encodeRuneZ_three (r:=p) (by omega)]; rfl]; rfl,by rw [A0b,Lib.encodeRuneZ_three (r:=p) (by omega)]; rfl⟩
 simp only [decide_eq_false_iff_not] at hc9
 refine A7 (B8 (A0 (A1 (A2 (A3 (j:=2) [0,0] (k:=?_))))))
 have hw18:IntKind.wrap .i64 (Int.tdiv p 262144)=p / 262144:=q64 (by omega) (by omega) (by decide)
 refine GL_w 39 hw18 kr (A3 (j:=3) [0] (k:=D1 40 (240+(p / 262144)) (by omega) (by omega) kr (A3 (j:=4) [0] (k:=E3 41 (x:=.int .u8 (IntKind.wrap .u8 (240+(p / 262144)))) (y:=.int .u8 (240+(p / 262144))) (by rw [w8i (x:=(240+(p / 262144))) (by omega) (by omega)]) (A3 (j:=6) [0,0] (k:=?_))))))
 have hw20:IntKind.wrap .i64 (Int.tdiv p 4096)=p / 4096:=q64 (by omega) (by omega) (by decide)
 refine GL_w 43 hw20 kr (A3 (j:=7) [0] (k:=?_))
 have hw21:Int.tmod (p / 4096) 64=(p / 4096) % 64:=r64 (by omega)
 refine GL_w 44 hw21 kr (A3 (j:=8) [0] (k:=D1 45 (128+((p / 4096) % 64)) (by omega) (by omega) kr (A3 (j:=9) [0] (k:=E3 46 (x:=.int .u8 (IntKind.wrap .u8 (128+((p / 4096) % 64)))) (y:=.int .u8 (128+((p / 4096) % 64))) (by rw [w8i (x:=(128+((p / 4096) % 64))) (by omega) (by omega)]) (A3 (j:=11) [0,0] (k:=?_))))))
 have hw23:IntKind.wrap .i64 (Int.tdiv p 64)=p / 64:=q64 (by omega) (by omega) (by decide)
 refine GL_w 48 hw23 kr (A3 (j:=12) [0] (k:=?_))
 have hw24:Int.tmod (p / 64) 64=(p / 64) % 64:=r64 (by omega)
 refine GL_w 49 hw24 kr (A3 (j:=13) [0] (k:=D1 50 (128+((p / 64) % 64)) (by omega) (by omega) kr (A3 (j:=14) [0] (k:=E3 51 (x:=.int .u8 (IntKind.wrap .u8 (128+((p / 64) % 64)))) (y:=.int .u8 (128+((p / 64) % 64))) (by rw [w8i (x:=(128+((p / 64) % 64))) (by omega) (by omega)]) (A3 (j:=16) [0,0] (k:=?_))))))
 have hw26:Int.tmod p 64=p % 64:=r64 (by omega)
 refine GL_w 53 hw26 kr (A3 (j:=17) [0] (k:=D1 54 (128+(p % 64)) (by omega) (by omega) kr (A3 (j:=18) [0] (k:=E3 55 (x:=.int .u8 (IntKind.wrap .u8 (128+(p % 64)))) (y:=.int .u8 (128+(p % 64))) (by rw [w8i (x:=(128+(p % 64))) (by omega) (by omega)]) (H0 5 4 [.int .u8 (240+(p / 262144)),.int .u8 (128+((p / 4096) % 64)),.int .u8 (128+((p / 64) % 64)),.int .u8 (128+(p % 64))] (fun b28=>A5 [0] [2] (k:=A0 (B4 ?_))))))))
 refine B7 [.tmp 2] [.slice (some ⟨b28,0,none⟩) 4 4] (k:=?_)
 exact ⟨b28,by rw [show (Lib.encodeRune p).length=4 by unfold Lib.encodeRune; rw [Lib.encodeRuneZ_four (r:=p) (by omega) (by omega)]; rfl]; rfl,by rw [A0b,Lib.encodeRuneZ_four (r:=p) (by omega) (by omega)]; rfl⟩
theorem points_ (s:ByteArray) (hs:s.size≤1000000000) (W0:World) (H:List Grp):Tri Tryz.prog 50 #[.string s] W0 H (fun v H'=>∃ a c g,v=.slice a (pts s.data.toList).length c∧Go.Sw.Own 3 1 (.slice a (pts s.data.toList).length c) g (pts s.data.toList).length (intV (pts s.data.toList))∧H'=g::H):=by
 refine D5 26 Tryz.func50 ?_
 refine A1 (C3 (E':=[⟨0,[],.string s⟩]) [0] [0] (k:=A0 (A1 (G_p [0] [0,3] (k:=A0 (A1 (A1 (G_p [0] [0,3,4] (k:=?_)))))))))
 refine A0 (B3 (R1 (H':=([]::H)) (fun w h=>h.flat (List.Perm.refl _)) (I6 (EI:=(fun ξ:Option Addr × Nat × Grp × List Int × Nat=>[⟨0,[],.string s⟩,⟨3,[],.slice ξ.1 ξ.2.2.2.1.length ξ.2.1⟩,⟨4,[],.int .i64 ((ξ.2.2.2.2:Nat):Int)⟩])) (HI:=(fun ξ:Option Addr × Nat × Grp × List Int × Nat=>(ξ.2.2.1::H))) (Φ:=(fun ξ:Option Addr × Nat × Grp × List Int × Nat=>(Go.Sw.Own 3 1 (.slice ξ.1 ξ.2.2.2.1.length ξ.2.1) ξ.2.2.1 ξ.2.2.2.1.length (intV ξ.2.2.2.1))∧(ξ.2.2.2.2≤s.size)∧(ξ.2.2.2.1++pts (s.data.toList.drop ξ.2.2.2.2)=pts s.data.toList))) (μ:=(fun ξ:Option Addr × Nat × Grp × List Int × Nat=>s.size - ξ.2.2.2.2)) (s0:=(none,0,[],[],0)) [0,3,4] kr rfl ⟨Go.Sw.Own.nil,(by (try dsimp only); omega),rfl⟩ ?_)))
 rintro ⟨ra,rc,rg,l1,i⟩ ⟨hO,hi,hT⟩
 dsimp only at hO hi hT
 have hll:l1.length≤s.size:=by
  have h1:=congrArg List.length hT
  have h2:=pts_len s.data.toList
  rw [List.length_append] at h1; rw [G7] at h2; omega
 refine A1 (A1 (G_p [0,0,0,0] [0,3,4,10] (k:=A0 (B1 (b:=decide (((i:Nat):Int)<(s.size:Int))) kr (fun hc1=>?_) (fun hc1=>?_)))))
 simp only [decide_eq_true_eq] at hc1
 have hlt:i<s.size:=by omega
 have hw:=rdP_w (s.data.toList.drop i) (dropR_ne (by omega))
 rw [← N3,G7,P3] at hw
 refine A7 (A0 (B3 (A1 (A2 (A3 (j:=2) [0,0] (k:=M8 s ((i:Nat):Int) (s.size:Int) (fun _=>by omega) (H6 Tryz.func81 (read_ (s.extract i s.size) (by first | omega | (rw [P3]; omega)) (by first | omega | (rw [P3]; omega)) _ _) (A5 [0,0,0,0,0] [0,3,4,5,6] (k:=?_)))))))))
 refine A0 (A1 (A2 (A3 (j:=2) [0,0] (k:=H0 3 1 [.int .i64 ((rdP (s.extract i s.size).data.toList).1)] (fun b2=>L7 (inf:=Tryz.t3) 1 0 1 rfl rfl hO (by omega) (by show (l1.length+1) * 8≤140737488355328; omega) (fun v3 g4 hO5=>?_))))))
 obtain ⟨a6,cap7,rfl,hcap8,hrd9⟩:=hO5.shape
 refine A5 [0] [0,3,4,6] (k:=A0 ?_)
 have hw10:IntKind.wrap .i64 (((i:Nat):Int)+((rdP (s.extract i s.size).data.toList).2:Int))=((i:Nat):Int)+((rdP (s.extract i s.size).data.toList).2:Int):=w64 (by omega) (by omega)
 refine A2 (A3 (j:=3) [0,0,0] (k:=E3 24 (x:=.int .i64 (IntKind.wrap .i64 (((i:Nat):Int)+((rdP (s.extract i s.size).data.toList).2:Int)))) (y:=.int .i64 (((i:Nat):Int)+((rdP (s.extract i s.size).data.toList).2:Int))) (by simp only [hw10]) (E3 24 (x:=.int .i64 (((i:Nat):Int)+((rdP (s.extract i s.size).data.toList).2:Int))) (y:=.int .i64 ((i+(rdP (s.extract i s.size).data.toList).2:Nat):Int)) (by rw [Int.natCast_add]) (A5 [0] [0,3,4] (k:=B8 ?_)))))
 have hln:(l1.length+1)=(l1++[((rdP (s.extract i s.size).data.toList).1)]).length:=by first | exact List.length_append.symm | (rw [List.length_append]; rfl)
 refine L6 (E':=[⟨0,[],.string s⟩,⟨3,[],.slice a6 (l1.length+1) cap7⟩,⟨4,[],.int .i64 ((i+(rdP (s.extract i s.size).data.toList).2:Nat):Int)⟩]) kr (L6 (E':=[⟨0,[],.string s⟩,⟨3,[],.slice a6 ((l1++[((rdP (s.extract i s.size).data.toList).1)]).length) cap7⟩,⟨4,[],.int .i64 ((i+(rdP (s.extract i s.size).data.toList).2:Nat):Int)⟩]) (by rw [hln]) (F8 1 [1] (D2 (s':=(a6,cap7,g4,(l1++[((rdP (s.extract i s.size).data.toList).1)]),i+(rdP (s.extract i s.size).data.toList).2)) [0,3,4] kr kr ⟨(O2 hO5 hln (by dsimp only; first | exact (iv_app _ _).symm | (rw [iv_app]; rfl))),(by dsimp only; omega),(by dsimp only; rw [List.append_assoc,List.singleton_append,← pts_next hlt]; exact hT)⟩ (by dsimp only; omega))))
 simp only [decide_eq_false_iff_not] at hc1
 refine E7 (A6 (A6 (B6 (A0 (A1 (C3 (E':=[⟨2,[],.slice ra l1.length rc⟩]) [0,0] [2] (k:=A0 (B4 ?_))))))))
 refine B7 [.tmp 2] [.slice ra l1.length rc] (k:=?_)
 have he:l1=pts s.data.toList:=by rw [← hT,List.drop_eq_nil_of_le (by rw [G7]; omega)]; exact (List.append_nil _).symm
 rw [he] at hO ⊢
 exact ⟨_,_,_,rfl,hO,rfl⟩
end Go.Proofs.YtcgmnagcgkhogabGreatDoor
namespace Go.Proofs.YtcgmnagcgkhogabGreatDoor
open Go.Sw Go.Sha Go.Esc Go.RowKit
theorem text_ (a:Option Addr) (c:Nat) (ps:List Int) (S:Nat→Obj→Prop) (hrd:Rd S a (intV ps)) (hps:∀ p∈ps,isR p) (hl:ps.length≤1000000000) (W0:World) (H:List Grp) (hS:∀ y o,S y o→At W0 H y o):Tri Tryz.prog 52 #[.slice a ps.length c] W0 H (fun v H'=>v=.string ⟨(R7 ps).toArray⟩∧H'=H):=by
 refine D5 19 Tryz.func52 ?_
 refine A1 (C3 (E':=[⟨0,[],.slice a ps.length c⟩]) [0] [0] (k:=A0 (A1 (G_p [0] [0,3] (k:=A0 (A1 (A1 (G_p [0,0,0] [3,6,7,8] (k:=?_)))))))))
 refine A0 (B3 (R1 (H':=([]::H)) (fun w h=>h.flat (List.Perm.refl _)) (I6 (EI:=(fun ξ:Option Addr × Nat × Grp × List UInt8 × Nat=>[⟨3,[],.slice ξ.1 ξ.2.2.2.1.length ξ.2.1⟩,⟨6,[],.slice a ps.length c⟩,⟨7,[],.int .i64 ((ps.length:Nat):Int)⟩,⟨8,[],.int .i64 ((ξ.2.2.2.2:Nat):Int)⟩])) (HI:=(fun ξ:Option Addr × Nat × Grp × List UInt8 × Nat=>(ξ.2.2.1::H))) (Φ:=(fun ξ:Option Addr × Nat × Grp × List UInt8 × Nat=>(Go.Sw.Own 5 1 (.slice ξ.1 ξ.2.2.2.1.length ξ.2.1) ξ.2.2.1 ξ.2.2.2.1.length (u8s ξ.2.2.2.1))∧(ξ.2.2.2.2≤ps.length)∧(ξ.2.2.2.1=R7 (ps.take ξ.2.2.2.2)))) (μ:=(fun ξ:Option Addr × Nat × Grp × List UInt8 × Nat=>ps.length - ξ.2.2.2.2)) (s0:=(none,0,[],[],0)) [3,6,7,8] kr rfl ⟨Go.Sw.Own.nil,(by (try dsimp only); omega),rfl⟩ ?_)))
 rintro ⟨ra,rc,rg,l1,k⟩ ⟨hO,hk,hT⟩
 dsimp only at hO hk hT
 have hll:l1.length≤4 * ps.length:=by
  rw [hT]; have:=encL_len (ps.take k); rw [List.length_take] at this; omega
 refine A1 (G_p [0] [3,6,7,8,9] (k:=A0 (A1 (B1 (b:=decide (((k:Nat):Int)<((ps.length:Nat):Int))) kr (fun hc1=>?_) (fun hc1=>?_)))))
 simp only [decide_eq_true_eq] at hc1
 have hlt:k<ps.length:=by omega
 have hel:=enc_len (ps.getD k 0)
 refine A7 (A0 (A1 (B3 (A1 (A2 (E4 ps.length ((k:Nat):Int) 1 hrd (by exact ⟨by omega,by omega,iv_ne (by omega)⟩) (H9 (k * 1) (.int .i64 (ps.getD k 0)) hrd (fun y o h=>(At.cons (hS y o h))) (fun _=>(by rw [Nat.mul_one]; exact iv_at (ps:=ps) (k:=k) (by omega))) (A5 [0] [3,5,6,7,8] (k:=?_)))))))))
 refine A0 (A2 (A3 (j:=2) [0,0] (k:=D9 (vs:=[.int .i64 (ps.getD k 0)]) Tryz.func82 (one_ (ps.getD k 0) (hps _ (memI hlt)) _ _) ?_)))
 rintro _ _ ⟨ob2,rfl,rfl⟩
 refine Z9 (i:=3) (ch:=[]) (t:=30) (tx:=30) (e:=5) (inf:=Tryz.t5) (s:=.slice ra l1.length rc) (x:=.slice (some ⟨ob2,0,none⟩) ((Lib.encodeRune (ps.getD k 0)).length) ((Lib.encodeRune (ps.getD k 0)).length)) (n:=l1.length) (m:=(Lib.encodeRune (ps.getD k 0)).length) (j:=1) (cs:=(u8s l1)) (news:=(u8s (Lib.encodeRune (ps.getD k 0)))) (g:=rg) (S:=(inG [(ob2,.cells (u8s (Lib.encodeRune (ps.getD k 0))).toArray 5 (0,0))])) rfl rfl rfl rfl kr kr kr rfl rfl (.inl ⟨5,kr⟩) (fun ⟨_,h⟩=>by cases h) (fun _=>⟨5,kr⟩) kr kr kr rfl hO (SrcOf.slice _ _ _ _ Rd.lit (fun h=>by cases h)) (E0 0 rfl) (by rw [show (u8s (Lib.encodeRune _)).length=_ from List.length_map _]; exact (Nat.mul_one _).symm) Go.Sha.u8_one (by omega) (by show (l1.length+(Lib.encodeRune (ps.getD k 0)).length) * 1≤140737488355328; omega) (fun v3 g4 hO5=>?_)
 obtain ⟨a6,cap7,rfl,hcap8,hrd9⟩:=hO5.shape
 refine A5 [0] [3,6,7,8] (k:=B8 (A0 (A2 (A3 (j:=1) [0] (k:=D1 16 (((k:Nat):Int)+1) (by omega) (by omega) kr (A5 [0] [3,6,7,8] (k:=?_)))))))
 have hln:(l1.length+(Lib.encodeRune (ps.getD k 0)).length)=(l1++(Lib.encodeRune (ps.getD k 0))).length:=by first | exact List.length_append.symm | (rw [List.length_append]; rfl)
 refine L6 (E':=[⟨3,[],.slice a6 (l1.length+(Lib.encodeRune (ps.getD k 0)).length) cap7⟩,⟨6,[],.slice a ps.length c⟩,⟨7,[],.int .i64 ((ps.length:Nat):Int)⟩,⟨8,[],.int .i64 (((k:Nat):Int)+1)⟩]) kr (L6 (E':=[⟨3,[],.slice a6 ((l1++(Lib.encodeRune (ps.getD k 0))).length) cap7⟩,⟨6,[],.slice a ps.length c⟩,⟨7,[],.int .i64 ((ps.length:Nat):Int)⟩,⟨8,[],.int .i64 (((k:Nat):Int)+1)⟩]) (by rw [hln]) (F8 1 [1] (D2 (s':=(a6,cap7,g4,(l1++(Lib.encodeRune (ps.getD k 0))),k+1)) [3,6,7,8] kr kr ⟨(O2 hO5 hln (by dsimp only; first | exact (Go.Sha.u8s_append _ _).symm | (rw [Go.Sha.u8s_append]; rfl))),(by (try dsimp only); omega),(by dsimp only; rw [takeI _ hlt,encL_app,← hT]; congr 1; exact (List.append_nil _).symm)⟩ (by (try dsimp only); omega))))
 simp only [decide_eq_false_iff_not] at hc1
 refine E7 (A6 (A6 (B6 (A0 (A1 (A2 (A3 (j:=1) [0] (k:=Z8 (ch:=[]) (a:=ra) (cap:=rc) (e:=5) (S:=(inG rg)) (bk l1) (hrd:=F0 hO) (hS:=E0 0 rfl) (k:=?_)))))))))
 refine C0 (E':=[⟨2,[],.string (bk l1)⟩]) [0] [2] (k:=A0 (B4 (F8 1 [] (B7 [.tmp 2] [.string (bk l1)] (k:=?_)))))
 exact ⟨congrArg Value.string (by rw [hT,List.take_of_length_le (by omega)]),rfl⟩
theorem fixed_ (s:ByteArray) (hs:s.size≤1000000000) (W0:World) (H:List Grp):Tri Tryz.prog 51 #[.string s] W0 H (fun v H'=>∃ a c g,v=.slice a (K8 s.data.toList).length c∧Go.Sw.Own 3 1 (.slice a (K8 s.data.toList).length c) g (K8 s.data.toList).length (intV (K8 s.data.toList))∧H'=g::H):=by
 refine D5 21 Tryz.func51 ?_
 refine A1 (C3 (E':=[⟨0,[],.string s⟩]) [0] [0] (k:=A0 (A1 (G_p [0] [0,3] (k:=A0 (A1 (A1 (A2 ?_))))))))
 refine A3 (j:=1) [0] (k:=D9 Tryz.func50 (points_ s (by omega) _ _) ?_)
 rintro _ _ ⟨iap0,icp0,igp0,rfl,iOp0,rfl⟩
 refine A5 [0,0] [3,7,8,9] (k:=A0 (B3 (R1 (H':=([]::igp0::H)) (fun w h=>h.flat (List.Perm.refl _)) (I6 (EI:=(fun ξ:Option Addr × Nat × Grp × List Int × Nat=>[⟨3,[],.slice ξ.1 ξ.2.2.2.1.length ξ.2.1⟩,⟨7,[],.slice iap0 ((pts s.data.toList).length) icp0⟩,⟨8,[],.int .i64 (((pts s.data.toList).length:Nat):Int)⟩,⟨9,[],.int .i64 ((ξ.2.2.2.2:Nat):Int)⟩])) (HI:=(fun ξ:Option Addr × Nat × Grp × List Int × Nat=>(ξ.2.2.1::igp0::H))) (Φ:=(fun ξ:Option Addr × Nat × Grp × List Int × Nat=>(Go.Sw.Own 3 1 (.slice ξ.1 ξ.2.2.2.1.length ξ.2.1) ξ.2.2.1 ξ.2.2.2.1.length (intV ξ.2.2.2.1))∧(ξ.2.2.2.2≤(pts s.data.toList).length)∧(ξ.2.2.2.1=((pts s.data.toList).take ξ.2.2.2.2).map fixP))) (μ:=(fun ξ:Option Addr × Nat × Grp × List Int × Nat=>(pts s.data.toList).length - ξ.2.2.2.2)) (s0:=(none,0,[],[],0)) [3,7,8,9] kr rfl ⟨Go.Sw.Own.nil,(by (try dsimp only); omega),rfl⟩ ?_))))
 rintro ⟨ra,rc,rg,l1,k⟩ ⟨hO,hk,hT⟩
 dsimp only at hO hk hT
 have hpl:=pts_len s.data.toList
 rw [G7] at hpl
 have hll:l1.length≤s.size:=by
  rw [hT,List.length_map,List.length_take]; omega
 refine A1 (G_p [0] [3,7,8,9,10] (k:=A0 (A1 (B1 (b:=decide (((k:Nat):Int)<(((pts s.data.toList).length:Nat):Int))) kr (fun hc2=>?_) (fun hc2=>?_)))))
 simp only [decide_eq_true_eq] at hc2
 have hlt:k<(pts s.data.toList).length:=by omega
 refine A7 (A0 (A1 (B3 (A1 (A2 (E4 (a:=iap0) (S:=(inG igp0)) (cs:=(intV (pts s.data.toList))) ((pts s.data.toList).length) ((k:Nat):Int) 1 (F0 iOp0) (by exact ⟨by omega,by omega,iv_ne (by omega)⟩) (H9 (a:=iap0) (S:=(inG igp0)) (cs:=(intV (pts s.data.toList))) (k * 1) (.int .i64 ((pts s.data.toList).getD k 0)) (F0 iOp0) (E0 1 rfl) (fun _=>(by rw [Nat.mul_one]; exact iv_at (ps:=(pts s.data.toList)) (k:=k) (by omega))) (A5 [0] [3,5,7,8,9] (k:=?_)))))))))
 refine A0 (A1 (A1 (G_p [0,0] [3,5,7,8,9,14] (k:=A0 (B1 (b:=decide (((pts s.data.toList).getD k 0)<0)) kr (fun hc3=>?_) (fun hc3=>?_))))))
 simp only [decide_eq_true_eq] at hc3
 refine G_p [0] [3,5,7,8,9] (k:=A0 (A2 (A3 (j:=2) [0,0] (k:=H0 3 1 [.int .i64 65533] (fun b4=>L7 (inf:=Tryz.t3) 1 0 1 rfl rfl hO (by omega) (by show (l1.length+1) * 8≤140737488355328; omega) (fun v5 g6 hO7=>?_))))))
 obtain ⟨a8,cap9,rfl,hcap10,hrd11⟩:=hO7.shape
 refine A5 [0] [3,7,8,9] (k:=B8 (A0 (A2 (A3 (j:=1) [0] (k:=D1 19 (((k:Nat):Int)+1) (by omega) (by omega) kr (A5 [0] [3,7,8,9] (k:=?_)))))))
 have hln:(l1.length+1)=(l1++[65533]).length:=by first | exact List.length_append.symm | (rw [List.length_append]; rfl)
 refine L6 (E':=[⟨3,[],.slice a8 (l1.length+1) cap9⟩,⟨7,[],.slice iap0 ((pts s.data.toList).length) icp0⟩,⟨8,[],.int .i64 (((pts s.data.toList).length:Nat):Int)⟩,⟨9,[],.int .i64 (((k:Nat):Int)+1)⟩]) kr (L6 (E':=[⟨3,[],.slice a8 ((l1++[65533]).length) cap9⟩,⟨7,[],.slice iap0 ((pts s.data.toList).length) icp0⟩,⟨8,[],.int .i64 (((pts s.data.toList).length:Nat):Int)⟩,⟨9,[],.int .i64 (((k:Nat):Int)+1)⟩]) (by rw [hln]) (F8 1 [1,1] (D2 (s':=(a8,cap9,g6,(l1++[65533]),k+1)) [3,7,8,9] kr kr ⟨(O2 hO7 hln (by dsimp only; first | exact (iv_app _ _).symm | (rw [iv_app]; rfl))),(by (try dsimp only); omega),(by dsimp only; rw [takeI _ hlt,List.map_append,← hT]; unfold fixP; simp only [List.map_cons,List.map_nil]; first | rw [if_pos (by omega)] | rw [if_neg (by omega)])⟩ (by (try dsimp only); omega))))
 simp only [decide_eq_false_iff_not] at hc3
 refine A7 (A0 (A2 (A3 (j:=2) [0,0] (k:=H0 3 1 [.int .i64 ((pts s.data.toList).getD k 0)] (fun b13=>L7 (inf:=Tryz.t3) 1 0 1 rfl rfl hO (by omega) (by show (l1.length+1) * 8≤140737488355328; omega) (fun v14 g15 hO16=>?_))))))
 obtain ⟨a17,cap18,rfl,hcap19,hrd20⟩:=hO16.shape
 refine A5 [0] [3,7,8,9] (k:=B8 (A0 (A2 (A3 (j:=1) [0] (k:=D1 19 (((k:Nat):Int)+1) (by omega) (by omega) kr (A5 [0] [3,7,8,9] (k:=?_)))))))
 have hln:(l1.length+1)=(l1++[((pts s.data.toList).getD k 0)]).length:=by first | exact List.length_append.symm | (rw [List.length_append]; rfl)
 refine L6 (E':=[⟨3,[],.slice a17 (l1.length+1) cap18⟩,⟨7,[],.slice iap0 ((pts s.data.toList).length) icp0⟩,⟨8,[],.int .i64 (((pts s.data.toList).length:Nat):Int)⟩,⟨9,[],.int .i64 (((k:Nat):Int)+1)⟩]) kr (L6 (E':=[⟨3,[],.slice a17 ((l1++[((pts s.data.toList).getD k 0)]).length) cap18⟩,⟨7,[],.slice iap0 ((pts s.data.toList).length) icp0⟩,⟨8,[],.int .i64 (((pts s.data.toList).length:Nat):Int)⟩,⟨9,[],.int .i64 (((k:Nat):Int)+1)⟩]) (by rw [hln]) (F8 1 [1,1] (D2 (s':=(a17,cap18,g15,(l1++[((pts s.data.toList).getD k 0)]),k+1)) [3,7,8,9] kr kr ⟨(O2 hO16 hln (by dsimp only; first | exact (iv_app _ _).symm | (rw [iv_app]; rfl))),(by (try dsimp only); omega),(by dsimp only; rw [takeI _ hlt,List.map_append,← hT]; unfold fixP; simp only [List.map_cons,List.map_nil]; first | rw [if_pos (by omega)] | rw [if_neg (by omega)])⟩ (by (try dsimp only); omega))))
 simp only [decide_eq_false_iff_not] at hc2
 refine E7 (A6 (A6 (B6 (A0 (A1 (C3 (E':=[⟨2,[],.slice ra l1.length rc⟩]) [0,0] [2] (k:=A0 (B4 ?_))))))))
 refine F8 1 [0] (B7 [.tmp 2] [.slice ra l1.length rc] (k:=?_))
 have he:l1=K8 s.data.toList:=by rw [hT,List.take_of_length_le (by omega),runes_pts]
 rw [he] at hO ⊢
 exact ⟨_,_,_,rfl,hO,rfl⟩
theorem valid_no {l:List UInt8} {k:Nat} (h:k<(pts l).length) (hn:(pts l).getD k 0<0):J0 l=false:=by
 unfold J0
 rw [List.all_eq_false]
 exact ⟨_,memI h,by rw [decide_eq_true_eq]; omega⟩
theorem rvalid_ (s:ByteArray) (hs:s.size≤1000000000) (W0:World) (H:List Grp):Tri Tryz.prog 24 #[.string s] W0 H (fun v H'=>v=.bool (J0 s.data.toList)∧H'=H):=by
 have hpl:=pts_len s.data.toList
 rw [G7] at hpl
 refine D5 15 Tryz.func24 ?_
 refine A1 (C3 (E':=[⟨0,[],.string s⟩]) [0] [0] (k:=A0 (A1 (A1 (A2 (A3 (j:=1) [0] (k:=D9 Tryz.func50 (points_ s (by omega) _ _) ?_)))))))
 rintro _ _ ⟨iap0,icp0,igp0,rfl,iOp0,rfl⟩
 refine A5 [0,0] [6,7,8] (k:=A0 (B3 (I6 (EI:=(fun ξ:Nat=>[⟨6,[],.slice iap0 ((pts s.data.toList).length) icp0⟩,⟨7,[],.int .i64 (((pts s.data.toList).length:Nat):Int)⟩,⟨8,[],.int .i64 ((ξ:Nat):Int)⟩])) (HI:=(fun ξ:Nat=>(igp0::H))) (Φ:=(fun ξ:Nat=>(ξ≤(pts s.data.toList).length)∧(((pts s.data.toList).take ξ).all (fun p=>decide (0≤p))=true))) (μ:=(fun ξ:Nat=>(pts s.data.toList).length - ξ)) (s0:=(0)) [6,7,8] kr rfl ⟨(by omega),rfl⟩ ?_)))
 rintro k ⟨hk,hT⟩
 refine A1 (G_p [0] [6,7,8,9] (k:=A0 (A1 (B1 (b:=decide (((k:Nat):Int)<(((pts s.data.toList).length:Nat):Int))) kr (fun hc2=>?_) (fun hc2=>?_)))))
 simp only [decide_eq_true_eq] at hc2
 have hlt:k<(pts s.data.toList).length:=by omega
 refine A7 (A0 (A1 (B3 (A1 (A2 (E4 (a:=iap0) (S:=(inG igp0)) (cs:=(intV (pts s.data.toList))) ((pts s.data.toList).length) ((k:Nat):Int) 1 (F0 iOp0) (by exact ⟨by omega,by omega,iv_ne (by omega)⟩) (H9 (a:=iap0) (S:=(inG igp0)) (cs:=(intV (pts s.data.toList))) (k * 1) (.int .i64 ((pts s.data.toList).getD k 0)) (F0 iOp0) (E0 0 rfl) (fun _=>(by rw [Nat.mul_one]; exact iv_at (ps:=(pts s.data.toList)) (k:=k) (by omega))) (A5 [0] [4,6,7,8] (k:=?_)))))))))
 refine A0 (A1 (G_p [0,0] [6,7,8,13] (k:=A0 (B1 (b:=decide (((pts s.data.toList).getD k 0)<0)) kr (fun hc3=>?_) (fun hc3=>?_)))))
 simp only [decide_eq_true_eq] at hc3
 refine A1 (C3 (E':=[⟨2,[],.bool false⟩]) [0] [2] (k:=A0 (B4 (B0 (A4 (A4 (B0 (A4 ?_))))))))
 refine F8 1 [] (B7 [.tmp 2] [.bool false] (k:=?_))
 exact ⟨congrArg Value.bool (valid_no hlt (by omega)).symm,rfl⟩
 simp only [decide_eq_false_iff_not] at hc3
 refine A7 (B8 (A0 (A2 (A3 (j:=1) [0] (k:=D1 14 (((k:Nat):Int)+1) (by omega) (by omega) kr (A5 [0] [6,7,8] (k:=D2 (s':=(k+1)) [6,7,8] kr rfl ⟨(by omega),(by rw [takeI _ hlt,List.all_append,hT]; simp only [List.all_cons,List.all_nil,Bool.true_and,Bool.and_true,decide_eq_true_eq]; omega)⟩ (by omega))))))))
 simp only [decide_eq_false_iff_not] at hc2
 refine E7 (A6 (A6 (B6 (A0 (A1 (C3 (E':=[⟨2,[],.bool true⟩]) [0] [2] (k:=A0 (B4 ?_))))))))
 refine F8 1 [] (B7 [.tmp 2] [.bool true] (k:=?_))
 exact ⟨congrArg Value.bool (by unfold J0; rw [List.take_of_length_le (by omega)] at hT; exact hT.symm),rfl⟩
theorem rplain_ (s:ByteArray) (hs:s.size≤1000000000) (W0:World) (H:List Grp):Tri Tryz.prog 25 #[.string s] W0 H (fun v H'=>v=.string ⟨(F9 s.data.toList).toArray⟩∧H'=H):=by
 refine D5 42 Tryz.func25 ?_
 refine A1 (C3 (E':=[⟨0,[],.string s⟩]) [0] [0] (k:=A0 (A1 (G_p [0] [0,3] (k:=A0 (A1 (A1 (A2 ?_))))))))
 refine A3 (j:=1) [0] (k:=D9 Tryz.func51 (fixed_ s (by omega) _ _) ?_)
 rintro _ _ ⟨iaf0,icf0,igf0,rfl,iOf0,rfl⟩
 refine A5 [0,0] [3,7,8,9] (k:=A0 (B3 (R1 (H':=([]::igf0::H)) (fun w h=>h.flat (List.Perm.refl _)) (I6 (EI:=(fun ξ:Option Addr × Nat × Grp × List Int × Nat=>[⟨3,[],.slice ξ.1 ξ.2.2.2.1.length ξ.2.1⟩,⟨7,[],.slice iaf0 ((K8 s.data.toList).length) icf0⟩,⟨8,[],.int .i64 (((K8 s.data.toList).length:Nat):Int)⟩,⟨9,[],.int .i64 ((ξ.2.2.2.2:Nat):Int)⟩])) (HI:=(fun ξ:Option Addr × Nat × Grp × List Int × Nat=>(ξ.2.2.1::igf0::H))) (Φ:=(fun ξ:Option Addr × Nat × Grp × List Int × Nat=>(Go.Sw.Own 3 1 (.slice ξ.1 ξ.2.2.2.1.length ξ.2.1) ξ.2.2.1 ξ.2.2.2.1.length (intV ξ.2.2.2.1))∧(ξ.2.2.2.2≤(K8 s.data.toList).length)∧(ξ.2.2.2.1=((K8 s.data.toList).take ξ.2.2.2.2).filter N6))) (μ:=(fun ξ:Option Addr × Nat × Grp × List Int × Nat=>(K8 s.data.toList).length - ξ.2.2.2.2)) (s0:=(none,0,[],[],0)) [3,7,8,9] kr rfl ⟨Go.Sw.Own.nil,(by (try dsimp only); omega),rfl⟩ ?_))))
 rintro ⟨ra,rc,rg,l1,k⟩ ⟨hO,hk,hT⟩
 dsimp only at hO hk hT
 have hpn:=runes_len s.data.toList
 rw [G7] at hpn
 have hll:l1.length≤s.size:=by
  have h1:=List.length_filter_le N6 ((K8 s.data.toList).take k)
  rw [← hT,List.length_take] at h1; omega
 refine A1 (G_p [0] [3,7,8,9,10] (k:=A0 (A1 (B1 (b:=decide (((k:Nat):Int)<(((K8 s.data.toList).length:Nat):Int))) kr (fun hc2=>?_) (fun hc2=>?_)))))
 simp only [decide_eq_true_eq] at hc2
 have hlt:k<(K8 s.data.toList).length:=by omega
 refine A7 (A0 (A1 (B3 (A1 (A2 (E4 (a:=iaf0) (S:=(inG igf0)) (cs:=(intV (K8 s.data.toList))) ((K8 s.data.toList).length) ((k:Nat):Int) 1 (F0 iOf0) (by exact ⟨by omega,by omega,iv_ne (by omega)⟩) (H9 (a:=iaf0) (S:=(inG igf0)) (cs:=(intV (K8 s.data.toList))) (k * 1) (.int .i64 ((K8 s.data.toList).getD k 0)) (F0 iOf0) (E0 1 rfl) (fun _=>(by rw [Nat.mul_one]; exact iv_at (ps:=(K8 s.data.toList)) (k:=k) (by omega))) (A5 [0] [3,5,7,8,9] (k:=?_)))))))))
 refine A0 (A1 (G_p [0,0,0,0,0,6,0,0,0,6,0,0,0,5,0,0,0,5,0,0,0,5] [3,5,7,8,9,34] (k:=A0 (B1 (b:=(((((decide (((K8 s.data.toList).getD k 0) ≥ 32))&&(((K8 s.data.toList).getD k 0) != 65534))&&(((K8 s.data.toList).getD k 0) != 65535))||(((K8 s.data.toList).getD k 0)==9))||(((K8 s.data.toList).getD k 0)==10))||(((K8 s.data.toList).getD k 0)==13)) kr (fun hc3=>?_) (fun hc3=>?_)))))
 have hpl:N6 ((K8 s.data.toList).getD k 0)=true:=hc3
 refine A2 (A3 (j:=2) [0,0] (k:=H0 3 1 [.int .i64 ((K8 s.data.toList).getD k 0)] (fun b4=>L7 (inf:=Tryz.t3) 1 0 1 rfl rfl hO (by omega) (by show (l1.length+1) * 8≤140737488355328; omega) (fun v5 g6 hO7=>?_))))
 obtain ⟨a8,cap9,rfl,hcap10,hrd11⟩:=hO7.shape
 refine A5 [0] [3,7,8,9] (k:=B8 (A0 (A2 (A3 (j:=1) [0] (k:=D1 39 (((k:Nat):Int)+1) (by omega) (by omega) kr (A5 [0] [3,7,8,9] (k:=?_)))))))
 have hln:(l1.length+1)=(l1++[((K8 s.data.toList).getD k 0)]).length:=by first | exact List.length_append.symm | (rw [List.length_append]; rfl)
 refine L6 (E':=[⟨3,[],.slice a8 (l1.length+1) cap9⟩,⟨7,[],.slice iaf0 ((K8 s.data.toList).length) icf0⟩,⟨8,[],.int .i64 (((K8 s.data.toList).length:Nat):Int)⟩,⟨9,[],.int .i64 (((k:Nat):Int)+1)⟩]) kr (L6 (E':=[⟨3,[],.slice a8 ((l1++[((K8 s.data.toList).getD k 0)]).length) cap9⟩,⟨7,[],.slice iaf0 ((K8 s.data.toList).length) icf0⟩,⟨8,[],.int .i64 (((K8 s.data.toList).length:Nat):Int)⟩,⟨9,[],.int .i64 (((k:Nat):Int)+1)⟩]) (by rw [hln]) (F8 1 [1,1] (D2 (s':=(a8,cap9,g6,(l1++[((K8 s.data.toList).getD k 0)]),k+1)) [3,7,8,9] kr kr ⟨(O2 hO7 hln (by dsimp only; first | exact (iv_app _ _).symm | (rw [iv_app]; rfl))),(by (try dsimp only); omega),(by dsimp only; rw [takeI _ hlt,List.filter_append,← hT]; simp only [List.filter_cons,List.filter_nil,hpl,if_true])⟩ (by (try dsimp only); omega))))
 have hpl:N6 ((K8 s.data.toList).getD k 0)=false:=hc3
 refine A7 (B8 (A0 (A2 (A3 (j:=1) [0] (k:=D1 39 (((k:Nat):Int)+1) (by omega) (by omega) kr (A5 [0] [3,7,8,9] (k:=D2 (s':=(ra,rc,rg,l1,k+1)) [3,7,8,9] kr rfl ⟨hO,(by (try dsimp only); omega),(by dsimp only; rw [takeI _ hlt,List.filter_append,← hT]; simp only [List.filter_cons,List.filter_nil,hpl,Bool.false_eq_true,if_false,List.append_nil])⟩ (by (try dsimp only); omega))))))))
 simp only [decide_eq_false_iff_not] at hc2
 refine E7 (A6 (A6 (B6 (A0 (A1 (A2 (A3 (j:=1) [0] (k:=D9 Tryz.func52 (text_ ra rc l1 (inG rg) (F0 hO) (by rw [hT]; intro p hp; exact runes_isR s.data.toList p (List.mem_of_mem_take (List.mem_filter.1 hp).1)) (by omega) _ _ (E0 0 rfl)) ?_))))))))
 rintro _ _ ⟨rfl,rfl⟩
 refine C0 (E':=[⟨2,[],.string (bk (R7 l1))⟩]) [0] [2] (k:=A0 (B4 (F8 2 [] (B7 [.tmp 2] [.string (bk (R7 l1))] (k:=?_)))))
 exact ⟨congrArg Value.string (by rw [hT,List.take_of_length_le (by omega)]; rfl),rfl⟩
end Go.Proofs.YtcgmnagcgkhogabGreatDoor
namespace Go.Proofs.YtcgmnagcgkhogabGreatDoor
open Go.Sw Go.Sha Go.Esc Go.RowKit
theorem byte_rngR (b:UInt8):0≤(b.toNat:Int)∧(b.toNat:Int)<256:=⟨Int.natCast_nonneg _,by have:=b.toNat_lt; omega⟩
end Go.Proofs.YtcgmnagcgkhogabGreatDoor
namespace Go.Proofs.YtcgmnagcgkhogabGreatDoor
open Go.Sw Go.Sha Go.Esc Go.RowKit
theorem pow16R {k:Nat} (h:k≤7):(16:Int) ^ k≤268435456:=by
 have:(16:Nat) ^ k≤16 ^ 7:=Nat.pow_le_pow_right (by decide) h
 have e:((16 ^ k:Nat):Int)=(16:Int) ^ k:=by simp
 rw [← e]; omega
theorem refN_no {s:ByteArray} {a:Nat} {A:Int} {r:Int × Nat} (hA:A=(a:Int)) (h:(r.2:Int)=0∨(s.size:Int)≤A+(r.2:Int)∨¬ B2 s (A+(r.2:Int))=59∨r.1=0∨¬ isR r.1):refN a r s.data.toList=(-1,0):=by
 unfold refN
 rw [if_pos]
 rw [hA,← Int.natCast_add,I9] at h
 rw [G7]
 rcases h with h | h | h | h | h
 exact .inl (by omega)
 exact .inr (.inl (by omega))
 exact .inr (.inr (.inl (by intro he; rw [he] at h; exact h rfl)))
 exact .inr (.inr (.inr (.inl h)))
 exact .inr (.inr (.inr (.inr (isBf_iff.2 h))))
theorem refN_yes {s:ByteArray} {a:Nat} {A:Int} {r:Int × Nat} (hA:A=(a:Int)) (h0:¬ (r.2:Int)=0) (h1:¬ (s.size:Int)≤A+(r.2:Int)) (h2:B2 s (A+(r.2:Int))=59) (h3:¬ r.1=0) (h4:isR r.1):refN a r s.data.toList=(r.1,a+r.2+1):=by
 unfold refN
 rw [hA,← Int.natCast_add,I9] at h2
 rw [if_neg]
 rw [G7]
 rintro (h | h | h | h | h)
 omega
 omega
 exact h (UInt8.toNat_inj.1 (by show _=59; omega))
 exact h3 h
 exact isBf_iff.1 h h4
theorem tk_len3 {s:ByteArray} (h:s.data.toList.take 3=[38,35,120]∨s.data.toList.take 3=[38,35,88]):3≤s.size:=by
 rw [← G7]
 rcases h with h | h
 have:=congrArg List.length h; rw [List.length_take] at this; simp only [List.length_cons,List.length_nil] at this; omega
 have:=congrArg List.length h; rw [List.length_take] at this; simp only [List.length_cons,List.length_nil] at this; omega
theorem tk_len2 {s:ByteArray} {a b:UInt8} (h:s.data.toList.take 2=[a,b]):2≤s.size:=by
 rw [← G7]
 have:=congrArg List.length h; rw [List.length_take] at this; simp only [List.length_cons,List.length_nil] at this; omega
theorem digit_ (x base:Int) (h0:0≤x) (h1:x≤255) (W0:World) (H:List Grp):Tri Tryz.prog 130 #[.int .u8 x,.int .i64 base] W0 H (fun v H'=>v=.int .i64 (X1 x base)∧H'=H):=by
 refine D5 42 Tryz.func130 ?_
 refine A1 (G_p [0] [0,1] (k:=A0 (A1 (G_p [0] [0,1,5] (k:=A0 (A1 (B3 (A1 ?_))))))))
 refine G_p [0,0,0,0,0,6,0] [0,1,5,6] (k:=A0 (B1 (b:=(decide (x ≥ 48))&&(decide (x≤57))) kr (fun hc1=>?_) (fun hc1=>?_)))
 simp only [Bool.and_eq_true,decide_eq_true_eq] at hc1
 refine A2 (A3 (j:=2) [0,0] (k:=E3 14 (x:=.int .u8 (IntKind.wrap .u8 (x - 48))) (y:=.int .u8 (x - 48)) (by rw [w8i (by omega) (by omega)]) (A3 (j:=3) [0] (k:=D1 15 (x - 48) (by omega) (by omega) kr (A5 [0] [1,5] (k:=B8 (A0 (A1 ?_))))))))
 refine A1 (G_p [0,0,0] [5,40] (k:=A0 (B1 (b:=decide ((x - 48) ≥ base)) kr (fun hc3=>?_) (fun hc3=>?_))))
 simp only [decide_eq_true_eq] at hc3
 refine A1 (C3 (E':=[⟨4,[],.int .i64 (-1)⟩]) [0] [4] (k:=A0 (B4 (A4 (B7 [.tmp 4] [.int .i64 (-1)] (k:=?_))))))
 refine ⟨congrArg (Value.int .i64) ?_,rfl⟩
 unfold X1 digC
 (repeat split) <;> omega
 simp only [decide_eq_false_iff_not] at hc3
 refine A7 (A0 (A1 (C3 (E':=[⟨4,[],.int .i64 (x - 48)⟩]) [0,0] [4] (k:=A0 (B4 (B7 [.tmp 4] [.int .i64 (x - 48)] (k:=?_)))))))
 refine ⟨congrArg (Value.int .i64) ?_,rfl⟩
 unfold X1 digC
 (repeat split) <;> omega
 simp only [Bool.and_eq_false_iff,decide_eq_false_iff_not] at hc1
 refine A1 (G_p [0,0,0,0,0,6,0] [0,1,5,16] (k:=A0 (B1 (b:=(decide (x ≥ 97))&&(decide (x≤102))) kr (fun hc4=>?_) (fun hc4=>?_))))
 simp only [Bool.and_eq_true,decide_eq_true_eq] at hc4
 refine A2 (A3 (j:=2) [0,0] (k:=E3 24 (x:=.int .u8 (IntKind.wrap .u8 (x - 97))) (y:=.int .u8 (x - 97)) (by rw [w8i (by omega) (by omega)]) (A3 (j:=3) [0] (k:=D1 25 (x - 97) (by omega) (by omega) kr (A3 (j:=4) [0] (k:=D1 26 ((x - 97)+10) (by omega) (by omega) kr (A5 [0] [1,5] (k:=B8 ?_))))))))
 refine A0 (A1 (A1 (G_p [0,0,0] [5,40] (k:=A0 (B1 (b:=decide (((x - 97)+10) ≥ base)) kr (fun hc7=>?_) (fun hc7=>?_))))))
 simp only [decide_eq_true_eq] at hc7
 refine A1 (C3 (E':=[⟨4,[],.int .i64 (-1)⟩]) [0] [4] (k:=A0 (B4 (A4 (B7 [.tmp 4] [.int .i64 (-1)] (k:=?_))))))
 refine ⟨congrArg (Value.int .i64) ?_,rfl⟩
 unfold X1 digC
 (repeat split) <;> omega
 simp only [decide_eq_false_iff_not] at hc7
 refine A7 (A0 (A1 (C3 (E':=[⟨4,[],.int .i64 ((x - 97)+10)⟩]) [0,0] [4] (k:=A0 (B4 (B7 [.tmp 4] [.int .i64 ((x - 97)+10)] (k:=?_)))))))
 refine ⟨congrArg (Value.int .i64) ?_,rfl⟩
 unfold X1 digC
 (repeat split) <;> omega
 simp only [Bool.and_eq_false_iff,decide_eq_false_iff_not] at hc4
 refine A1 (G_p [0,0,0,0,0,6,0] [0,1,5,27] (k:=A0 (B1 (b:=(decide (x ≥ 65))&&(decide (x≤70))) kr (fun hc8=>?_) (fun hc8=>?_))))
 simp only [Bool.and_eq_true,decide_eq_true_eq] at hc8
 refine A2 (A3 (j:=2) [0,0] (k:=E3 35 (x:=.int .u8 (IntKind.wrap .u8 (x - 65))) (y:=.int .u8 (x - 65)) (by rw [w8i (by omega) (by omega)]) (A3 (j:=3) [0] (k:=D1 36 (x - 65) (by omega) (by omega) kr (A3 (j:=4) [0] (k:=D1 37 ((x - 65)+10) (by omega) (by omega) kr (A5 [0] [1,5] (k:=B8 ?_))))))))
 refine A0 (A1 (A1 (G_p [0,0,0] [5,40] (k:=A0 (B1 (b:=decide (((x - 65)+10) ≥ base)) kr (fun hc11=>?_) (fun hc11=>?_))))))
 simp only [decide_eq_true_eq] at hc11
 refine A1 (C3 (E':=[⟨4,[],.int .i64 (-1)⟩]) [0] [4] (k:=A0 (B4 (A4 (B7 [.tmp 4] [.int .i64 (-1)] (k:=?_))))))
 refine ⟨congrArg (Value.int .i64) ?_,rfl⟩
 unfold X1 digC
 (repeat split) <;> omega
 simp only [decide_eq_false_iff_not] at hc11
 refine A7 (A0 (A1 (C3 (E':=[⟨4,[],.int .i64 ((x - 65)+10)⟩]) [0,0] [4] (k:=A0 (B4 (B7 [.tmp 4] [.int .i64 ((x - 65)+10)] (k:=?_)))))))
 refine ⟨congrArg (Value.int .i64) ?_,rfl⟩
 unfold X1 digC
 (repeat split) <;> omega
 simp only [Bool.and_eq_false_iff,decide_eq_false_iff_not] at hc8
 refine A7 (B8 (A0 (A1 (A1 (G_p [0,0,0] [5,40] (k:=A0 (B1 (b:=decide ((-1) ≥ base)) kr (fun hc12=>?_) (fun hc12=>?_))))))))
 simp only [decide_eq_true_eq] at hc12
 refine A1 (C3 (E':=[⟨4,[],.int .i64 (-1)⟩]) [0] [4] (k:=A0 (B4 (A4 (B7 [.tmp 4] [.int .i64 (-1)] (k:=?_))))))
 refine ⟨congrArg (Value.int .i64) ?_,rfl⟩
 unfold X1 digC
 (repeat split) <;> omega
 simp only [decide_eq_false_iff_not] at hc12
 refine A7 (A0 (A1 (C3 (E':=[⟨4,[],.int .i64 (-1)⟩]) [0,0] [4] (k:=A0 (B4 (B7 [.tmp 4] [.int .i64 (-1)] (k:=?_)))))))
 refine ⟨congrArg (Value.int .i64) ?_,rfl⟩
 unfold X1 digC
 (repeat split) <;> omega
theorem starts_ (s t:ByteArray) (_:s.size≤1000000000000) (ht:t.size≤1000000000000) (W0:World) (H:List Grp):Tri Tryz.prog 113 #[.string s,.string t] W0 H (fun v H'=>v=.bool (I0 s t)∧H'=H):=by
 refine D5 18 Tryz.func113 ?_
 refine A1 (C3 (E':=[⟨0,[],.string s⟩,⟨1,[],.string t⟩]) [0] [0,1] (k:=A0 (A1 (A2 (A3 (j:=9) [0,0,0,0,0,0,0,0,0] (k:=X5 (ch:=[(10,true)]) (s:=s) (vl:=none) (vh:=(some (.int .i64 (t.size:Int)))) (l:=0) (h:=(t.size:Int)) (hb:=(fun hc=>by have hg0:=Q9 (t:=10) (c:=[]) (b:=decide ((s.size:Int) ≥ (t.size:Int))) hc kr; (try simp at hg0); omega)) (k:=A5 [0,0,6,0] [4] (k:=A0 ?_))))))))
 refine B4 (B7 [.tmp 4] [.bool ((decide ((s.size:Int) ≥ (t.size:Int)))&&((s.extract 0 t.size).toList==t.toList))] (k:=?_))
 exact ⟨by unfold I0; rfl,rfl⟩
theorem rnumber10_ (s:ByteArray) (m:Nat) (mi:Int) (hmi:mi=(m:Int)) (hm:m≤7) (hs:s.size≤1000000000000) (W0:World) (H:List Grp):Tri Tryz.prog 114 #[.string s,.int .i64 10,.int .i64 mi] W0 H (fun v H'=>v=.tuple #[.int .i64 (H3 10 m 0 s.data.toList).1,.int .i64 ((H3 10 m 0 s.data.toList).2:Int)]∧H'=H):=by
 refine D5 40 Tryz.func114 ?_
 refine A1 (G_p [0,0] [0,1,2] (k:=A0 (A1 (G_p [0,0] [0,1,2,8,9] (k:=A0 (A1 (B3 (I6 (EI:=(fun ξ:Nat × Int=>[⟨0,[],.string s⟩,⟨1,[],.int .i64 10⟩,⟨2,[],.int .i64 mi⟩,⟨8,[],.int .i64 ξ.2⟩,⟨9,[],.int .i64 ((ξ.1:Nat):Int)⟩])) (HI:=(fun ξ:Nat × Int=>H)) (Φ:=(fun ξ:Nat × Int=>(ξ.1≤s.size)∧(ξ.1≤m)∧(0≤ξ.2)∧(ξ.2<16 ^ ξ.1)∧(H3 10 m 0 s.data.toList=((H3 10 (m - ξ.1) ξ.2 (s.data.toList.drop ξ.1)).1,(H3 10 (m - ξ.1) ξ.2 (s.data.toList.drop ξ.1)).2+ξ.1)))) (μ:=(fun ξ:Nat × Int=>s.size - ξ.1)) (s0:=(0,0)) [0,1,2,8,9] kr rfl ⟨(by omega),(by omega),(by decide),(by decide),rfl⟩ ?_))))))))
 rintro ⟨k,n⟩ ⟨hk,hkm,hn0,hn1,hT⟩
 dsimp only at hk hkm hn0 hn1 hT
 have hp:=pow16R (show k≤7 by omega)
 have hcr:=byte_rngR (s.data.toList.getD k 0)
 have hdr:=digB_rng ((s.data.toList.getD k 0).toNat:Int) 10 (by decide)
 have hbyte:B2 s (k:Int)=((s.data.toList.getD k 0).toNat:Int):=I9 s k
 refine A1 (A1 (A2 (A3 (j:=12) [0,0,0,0,0,0,0,0,6,0,0,0] (k:=P4 (ch:=[(19,true)]) (s:=s) (kd:=.i64) (j:=((k:Nat):Int)) (hb:=(fun hc=>by have hg0:=Q9 (t:=19) (c:=[]) (b:=(decide (((k:Nat):Int)<(s.size:Int)))&&(decide (((k:Nat):Int)<mi))) hc kr; (try simp at hg0); omega)) (k:=?_)))))
 have hb1:=E5 s ((k:Nat):Int)
 refine N7 22 [(19,true)] (x:=.int .u8 (B2 s ((k:Nat):Int))) (y:=.int .u8 ((s.data.toList.getD k 0).toNat:Int)) (by rw [hbyte]) (A3 (j:=14) [0] (k:=P7 [(19,true)] Tryz.func130 (fun hc=>digit_ ((s.data.toList.getD k 0).toNat:Int) 10 (by omega) (by omega) _ _) (A5 [0,6] [0,1,2,8,9,26] (k:=A0 (B1 (b:=((decide (((k:Nat):Int)<(s.size:Int)))&&(decide (((k:Nat):Int)<mi)))&&(decide ((X1 ((s.data.toList.getD k 0).toNat:Int) 10) ≥ 0))) kr (fun hc2=>?_) (fun hc2=>?_))))))
 simp only [Bool.and_eq_true,decide_eq_true_eq,ge_iff_le] at hc2
 refine A7 (A0 (B3 (A1 (A2 (A3 (j:=3) [0,0,0] (k:=D1 29 (10 * n) (by omega) (by omega) kr (A3 (j:=5) [0,0] (k:=G4 s ((k:Nat):Int) (fun _=>by omega) ?_))))))))
 have hb4:=E5 s ((k:Nat):Int)
 refine E3 32 (x:=.int .u8 (B2 s ((k:Nat):Int))) (y:=.int .u8 ((s.data.toList.getD k 0).toNat:Int)) (by rw [hbyte]) (A3 (j:=7) [0] (k:=H6 Tryz.func130 (digit_ ((s.data.toList.getD k 0).toNat:Int) 10 (by omega) (by omega) _ _) (A3 (j:=9) [0] (k:=D1 35 ((10 * n)+(X1 ((s.data.toList.getD k 0).toNat:Int) 10)) (by omega) (by omega) kr (A5 [0] [0,1,2,8,9] (k:=A0 (A2 (A3 (j:=2) [0,0] (k:=?_)))))))))
 refine D1 37 (((k:Nat):Int)+1) (by omega) (by omega) kr (A5 [0] [0,1,2,8,9] (k:=B8 (D2 (s':=(k+1,(10 * n)+(X1 ((s.data.toList.getD k 0).toNat:Int) 10))) [0,1,2,8,9] kr rfl ⟨(by dsimp only; omega),(by dsimp only; omega),(by dsimp only; omega),(by dsimp only; rw [Int.pow_succ]; omega),(by dsimp only; exact numD_step (by rw [G7]; omega) (by omega) (by omega) hT)⟩ (by dsimp only; omega))))
 simp only [Bool.and_eq_false_iff,decide_eq_false_iff_not,ge_iff_le] at hc2
 refine E7 (A6 (A6 (B6 (A0 (A1 (G_p [0,0,0,0] [6,7] (k:=A0 (B4 ?_))))))))
 refine B7 [.tmp 6,.tmp 7] [.int .i64 n,.int .i64 ((k:Nat):Int)] (k:=?_)
 have he:=numD_stop (l:=s.data.toList) (m:=m) (k:=k) (base:=10) (n:=n) (by rw [G7]; omega) hT
 exact ⟨by rw [he]; rfl,rfl⟩
theorem rnumber16_ (s:ByteArray) (m:Nat) (mi:Int) (hmi:mi=(m:Int)) (hm:m≤7) (hs:s.size≤1000000000000) (W0:World) (H:List Grp):Tri Tryz.prog 114 #[.string s,.int .i64 16,.int .i64 mi] W0 H (fun v H'=>v=.tuple #[.int .i64 (H3 16 m 0 s.data.toList).1,.int .i64 ((H3 16 m 0 s.data.toList).2:Int)]∧H'=H):=by
 refine D5 40 Tryz.func114 ?_
 refine A1 (G_p [0,0] [0,1,2] (k:=A0 (A1 (G_p [0,0] [0,1,2,8,9] (k:=A0 (A1 (B3 (I6 (EI:=(fun ξ:Nat × Int=>[⟨0,[],.string s⟩,⟨1,[],.int .i64 16⟩,⟨2,[],.int .i64 mi⟩,⟨8,[],.int .i64 ξ.2⟩,⟨9,[],.int .i64 ((ξ.1:Nat):Int)⟩])) (HI:=(fun ξ:Nat × Int=>H)) (Φ:=(fun ξ:Nat × Int=>(ξ.1≤s.size)∧(ξ.1≤m)∧(0≤ξ.2)∧(ξ.2<16 ^ ξ.1)∧(H3 16 m 0 s.data.toList=((H3 16 (m - ξ.1) ξ.2 (s.data.toList.drop ξ.1)).1,(H3 16 (m - ξ.1) ξ.2 (s.data.toList.drop ξ.1)).2+ξ.1)))) (μ:=(fun ξ:Nat × Int=>s.size - ξ.1)) (s0:=(0,0)) [0,1,2,8,9] kr rfl ⟨(by omega),(by omega),(by decide),(by decide),rfl⟩ ?_))))))))
 rintro ⟨k,n⟩ ⟨hk,hkm,hn0,hn1,hT⟩
 dsimp only at hk hkm hn0 hn1 hT
 have hp:=pow16R (show k≤7 by omega)
 have hcr:=byte_rngR (s.data.toList.getD k 0)
 have hdr:=digB_rng ((s.data.toList.getD k 0).toNat:Int) 16 (by decide)
 have hbyte:B2 s (k:Int)=((s.data.toList.getD k 0).toNat:Int):=I9 s k
 refine A1 (A1 (A2 (A3 (j:=12) [0,0,0,0,0,0,0,0,6,0,0,0] (k:=P4 (ch:=[(19,true)]) (s:=s) (kd:=.i64) (j:=((k:Nat):Int)) (hb:=(fun hc=>by have hg0:=Q9 (t:=19) (c:=[]) (b:=(decide (((k:Nat):Int)<(s.size:Int)))&&(decide (((k:Nat):Int)<mi))) hc kr; (try simp at hg0); omega)) (k:=?_)))))
 have hb1:=E5 s ((k:Nat):Int)
 refine N7 22 [(19,true)] (x:=.int .u8 (B2 s ((k:Nat):Int))) (y:=.int .u8 ((s.data.toList.getD k 0).toNat:Int)) (by rw [hbyte]) (A3 (j:=14) [0] (k:=P7 [(19,true)] Tryz.func130 (fun hc=>digit_ ((s.data.toList.getD k 0).toNat:Int) 16 (by omega) (by omega) _ _) (A5 [0,6] [0,1,2,8,9,26] (k:=A0 (B1 (b:=((decide (((k:Nat):Int)<(s.size:Int)))&&(decide (((k:Nat):Int)<mi)))&&(decide ((X1 ((s.data.toList.getD k 0).toNat:Int) 16) ≥ 0))) kr (fun hc2=>?_) (fun hc2=>?_))))))
 simp only [Bool.and_eq_true,decide_eq_true_eq,ge_iff_le] at hc2
 refine A7 (A0 (B3 (A1 (A2 (A3 (j:=3) [0,0,0] (k:=D1 29 (16 * n) (by omega) (by omega) kr (A3 (j:=5) [0,0] (k:=G4 s ((k:Nat):Int) (fun _=>by omega) ?_))))))))
 have hb4:=E5 s ((k:Nat):Int)
 refine E3 32 (x:=.int .u8 (B2 s ((k:Nat):Int))) (y:=.int .u8 ((s.data.toList.getD k 0).toNat:Int)) (by rw [hbyte]) (A3 (j:=7) [0] (k:=H6 Tryz.func130 (digit_ ((s.data.toList.getD k 0).toNat:Int) 16 (by omega) (by omega) _ _) (A3 (j:=9) [0] (k:=D1 35 ((16 * n)+(X1 ((s.data.toList.getD k 0).toNat:Int) 16)) (by omega) (by omega) kr (A5 [0] [0,1,2,8,9] (k:=A0 (A2 (A3 (j:=2) [0,0] (k:=?_)))))))))
 refine D1 37 (((k:Nat):Int)+1) (by omega) (by omega) kr (A5 [0] [0,1,2,8,9] (k:=B8 (D2 (s':=(k+1,(16 * n)+(X1 ((s.data.toList.getD k 0).toNat:Int) 16))) [0,1,2,8,9] kr rfl ⟨(by dsimp only; omega),(by dsimp only; omega),(by dsimp only; omega),(by dsimp only; rw [Int.pow_succ]; omega),(by dsimp only; exact numD_step (by rw [G7]; omega) (by omega) (by omega) hT)⟩ (by dsimp only; omega))))
 simp only [Bool.and_eq_false_iff,decide_eq_false_iff_not,ge_iff_le] at hc2
 refine E7 (A6 (A6 (B6 (A0 (A1 (G_p [0,0,0,0] [6,7] (k:=A0 (B4 ?_))))))))
 refine B7 [.tmp 6,.tmp 7] [.int .i64 n,.int .i64 ((k:Nat):Int)] (k:=?_)
 have he:=numD_stop (l:=s.data.toList) (m:=m) (k:=k) (base:=16) (n:=n) (by rw [G7]; omega) hT
 exact ⟨by rw [he]; rfl,rfl⟩
abbrev _root_.Go.aF:=mB #[38,97,112,111,115,59]
theorem rreference_ (s:ByteArray) (hs:s.size≤1000000000000) (W0:World) (H:List Grp):Tri Tryz.prog 99 #[.string s] W0 H (fun v H'=>v=.tuple #[.int .i64 (I7 s.data.toList).1,.int .i64 ((I7 s.data.toList).2:Int)]∧H'=H):=by
 refine D5 81 Tryz.func99 ?_
 refine A1 (C3 (E':=[⟨0,[],.string s⟩]) [0,0] [0] (k:=A0 (A1 (A2 (H0 9 5 [.string aC,.string aE,.string aD,.string aB,.string aF] (fun b1=>A5 [0] [0,4] (k:=A0 (A1 ?_))))))))
 refine A1 (G_p [0,0,0] [0,11,12,13] (k:=A0 (B3 (O0 6 (F5 (A1 (G_p [0] [0,11,12,13,14] (k:=A0 ?_))))))))
 refine A1 (B9 kr (A7 (A0 (A1 (B3 (A1 (A2 (A3 (j:=1) [0] (k:=?_)))))))))
 refine E4 (a:=(some ⟨b1,0,none⟩)) (S:=(inG [(b1,.cells #[.string aC,.string aE,.string aD,.string aB,.string aF] 9 (0,0))])) (cs:=[.string aC,.string aE,.string aD,.string aB,.string aF]) 5 0 1 Rd.lit (by exact ⟨by omega,by omega,by first | exact List.cons_ne_nil _ _ | (intro h; simp [strs] at h; simp [h] at *; omega)⟩) (H9 (a:=(some ⟨b1,0,none⟩)) (S:=(inG [(b1,.cells #[.string aC,.string aE,.string aD,.string aB,.string aF] 9 (0,0))])) (cs:=[.string aC,.string aE,.string aD,.string aB,.string aF]) (0 * 1) (.string aC) Rd.lit (E0 0 rfl) (fun _=>rfl) (A5 [0,0] [0,5,6,11,12,13] (k:=A0 (A1 (A2 (A3 (j:=2) [0,0] (k:=H6 Tryz.func113 (starts_ s aC (by (try rw [P3]); omega) (Nat.le_of_ble_eq_true rfl) _ _) (A5 [] [0,5,6,11,12,13,20] (k:=?_)))))))))
 refine A0 (B1 (b:=I0 s aC) kr (fun hc2=>?_) (fun hc2=>?_))
 have c0:s.data.toList.take 5=[38,97,109,112,59]:=(J8 _ _).1 hc2
 refine A1 (A2 (A3 (j:=1) [0] (k:=G4 (mB #[38,60,62,34,39]) 0 (fun _=>by decide) (A5 [0,0,0,0,0] [2,3] (k:=A0 (B4 (B0 (A4 ?_))))))))
 refine A4 (B0 (A4 (F8 1 [] (B7 [.tmp 2,.tmp 3] [.int .i64 38,.int .i64 5] (k:=?_)))))
 have he:I7 s.data.toList=(38,5):=by unfold I7; rw [if_pos c0]
 exact ⟨by rw [he]; rfl,rfl⟩
 have c0:¬ s.data.toList.take 5=[38,97,109,112,59]:=(J5 _ _).1 hc2
 refine A7 (B8 (A0 (G_p [0,0] [0,11,12,13] (k:=Z5 (F5 (A1 (G_p [0] [0,11,12,13,14] (k:=A0 ?_))))))))
 refine A1 (B9 kr (A7 (A0 (A1 (B3 (A1 (A2 (A3 (j:=1) [0] (k:=?_)))))))))
 refine E4 (a:=(some ⟨b1,0,none⟩)) (S:=(inG [(b1,.cells #[.string aC,.string aE,.string aD,.string aB,.string aF] 9 (0,0))])) (cs:=[.string aC,.string aE,.string aD,.string aB,.string aF]) 5 1 1 Rd.lit (by exact ⟨by omega,by omega,by first | exact List.cons_ne_nil _ _ | (intro h; simp [strs] at h; simp [h] at *; omega)⟩) (H9 (a:=(some ⟨b1,0,none⟩)) (S:=(inG [(b1,.cells #[.string aC,.string aE,.string aD,.string aB,.string aF] 9 (0,0))])) (cs:=[.string aC,.string aE,.string aD,.string aB,.string aF]) (1 * 1) (.string aE) Rd.lit (E0 0 rfl) (fun _=>rfl) (A5 [0,0] [0,5,6,11,12,13] (k:=A0 (A1 (A2 (A3 (j:=2) [0,0] (k:=H6 Tryz.func113 (starts_ s aE (by (try rw [P3]); omega) (Nat.le_of_ble_eq_true rfl) _ _) (A5 [] [0,5,6,11,12,13,20] (k:=?_)))))))))
 refine A0 (B1 (b:=I0 s aE) kr (fun hc3=>?_) (fun hc3=>?_))
 have c1:s.data.toList.take 4=[38,108,116,59]:=(J8 _ _).1 hc3
 refine A1 (A2 (A3 (j:=1) [0] (k:=G4 (mB #[38,60,62,34,39]) 1 (fun _=>by decide) (A5 [0,0,0,0,0] [2,3] (k:=A0 (B4 (B0 (A4 ?_))))))))
 refine A4 (B0 (A4 (F8 1 [] (B7 [.tmp 2,.tmp 3] [.int .i64 60,.int .i64 4] (k:=?_)))))
 have he:I7 s.data.toList=(60,4):=by unfold I7; rw [if_neg c0,if_pos c1]
 exact ⟨by rw [he]; rfl,rfl⟩
 have c1:¬ s.data.toList.take 4=[38,108,116,59]:=(J5 _ _).1 hc3
 refine A7 (B8 (A0 (G_p [0,0] [0,11,12,13] (k:=Z5 (F5 (A1 (G_p [0] [0,11,12,13,14] (k:=A0 ?_))))))))
 refine A1 (B9 kr (A7 (A0 (A1 (B3 (A1 (A2 (A3 (j:=1) [0] (k:=?_)))))))))
 refine E4 (a:=(some ⟨b1,0,none⟩)) (S:=(inG [(b1,.cells #[.string aC,.string aE,.string aD,.string aB,.string aF] 9 (0,0))])) (cs:=[.string aC,.string aE,.string aD,.string aB,.string aF]) 5 2 1 Rd.lit (by exact ⟨by omega,by omega,by first | exact List.cons_ne_nil _ _ | (intro h; simp [strs] at h; simp [h] at *; omega)⟩) (H9 (a:=(some ⟨b1,0,none⟩)) (S:=(inG [(b1,.cells #[.string aC,.string aE,.string aD,.string aB,.string aF] 9 (0,0))])) (cs:=[.string aC,.string aE,.string aD,.string aB,.string aF]) (2 * 1) (.string aD) Rd.lit (E0 0 rfl) (fun _=>rfl) (A5 [0,0] [0,5,6,11,12,13] (k:=A0 (A1 (A2 (A3 (j:=2) [0,0] (k:=H6 Tryz.func113 (starts_ s aD (by (try rw [P3]); omega) (Nat.le_of_ble_eq_true rfl) _ _) (A5 [] [0,5,6,11,12,13,20] (k:=?_)))))))))
 refine A0 (B1 (b:=I0 s aD) kr (fun hc4=>?_) (fun hc4=>?_))
 have c2:s.data.toList.take 4=[38,103,116,59]:=(J8 _ _).1 hc4
 refine A1 (A2 (A3 (j:=1) [0] (k:=G4 (mB #[38,60,62,34,39]) 2 (fun _=>by decide) (A5 [0,0,0,0,0] [2,3] (k:=A0 (B4 (B0 (A4 ?_))))))))
 refine A4 (B0 (A4 (F8 1 [] (B7 [.tmp 2,.tmp 3] [.int .i64 62,.int .i64 4] (k:=?_)))))
 have he:I7 s.data.toList=(62,4):=by unfold I7; rw [if_neg c0,if_neg c1,if_pos c2]
 exact ⟨by rw [he]; rfl,rfl⟩
 have c2:¬ s.data.toList.take 4=[38,103,116,59]:=(J5 _ _).1 hc4
 refine A7 (B8 (A0 (G_p [0,0] [0,11,12,13] (k:=Z5 (F5 (A1 (C3 (E':=[⟨0,[],.string s⟩,⟨11,[],.slice (some ⟨b1,0,none⟩) 5 5⟩,⟨12,[],.int .i64 5⟩,⟨13,[],.int .i64 3⟩,⟨14,[],.bool true⟩]) [0] [0,11,12,13,14] (k:=A0 ?_))))))))
 refine A1 (B9 kr (A7 (A0 (A1 (B3 (A1 (A2 (A3 (j:=1) [0] (k:=?_)))))))))
 refine E4 (a:=(some ⟨b1,0,none⟩)) (S:=(inG [(b1,.cells #[.string aC,.string aE,.string aD,.string aB,.string aF] 9 (0,0))])) (cs:=[.string aC,.string aE,.string aD,.string aB,.string aF]) 5 3 1 Rd.lit (by exact ⟨by omega,by omega,by first | exact List.cons_ne_nil _ _ | (intro h; simp [strs] at h; simp [h] at *; omega)⟩) (H9 (a:=(some ⟨b1,0,none⟩)) (S:=(inG [(b1,.cells #[.string aC,.string aE,.string aD,.string aB,.string aF] 9 (0,0))])) (cs:=[.string aC,.string aE,.string aD,.string aB,.string aF]) (3 * 1) (.string aB) Rd.lit (E0 0 rfl) (fun _=>rfl) (A5 [0,0] [0,5,6,11,12,13] (k:=A0 (A1 (A2 (A3 (j:=2) [0,0] (k:=H6 Tryz.func113 (starts_ s aB (by (try rw [P3]); omega) (Nat.le_of_ble_eq_true rfl) _ _) (A5 [] [0,5,6,11,12,13,20] (k:=?_)))))))))
 refine A0 (B1 (b:=I0 s aB) kr (fun hc5=>?_) (fun hc5=>?_))
 have c3:s.data.toList.take 6=[38,113,117,111,116,59]:=(J8 _ _).1 hc5
 refine A1 (A2 (A3 (j:=1) [0] (k:=G4 (mB #[38,60,62,34,39]) 3 (fun _=>by decide) (A5 [0,0,0,0,0] [2,3] (k:=A0 (B4 (B0 (A4 ?_))))))))
 refine A4 (B0 (A4 (F8 1 [] (B7 [.tmp 2,.tmp 3] [.int .i64 34,.int .i64 6] (k:=?_)))))
 have he:I7 s.data.toList=(34,6):=by unfold I7; rw [if_neg c0,if_neg c1,if_neg c2,if_pos c3]
 exact ⟨by rw [he]; rfl,rfl⟩
 have c3:¬ s.data.toList.take 6=[38,113,117,111,116,59]:=(J5 _ _).1 hc5
 refine A7 (B8 (A0 (G_p [0,0] [0,11,12,13] (k:=Z5 (F5 (A1 (G_p [0] [0,11,12,13,14] (k:=A0 ?_))))))))
 refine A1 (B9 kr (A7 (A0 (A1 (B3 (A1 (A2 (A3 (j:=1) [0] (k:=?_)))))))))
 refine E4 (a:=(some ⟨b1,0,none⟩)) (S:=(inG [(b1,.cells #[.string aC,.string aE,.string aD,.string aB,.string aF] 9 (0,0))])) (cs:=[.string aC,.string aE,.string aD,.string aB,.string aF]) 5 4 1 Rd.lit (by exact ⟨by omega,by omega,by first | exact List.cons_ne_nil _ _ | (intro h; simp [strs] at h; simp [h] at *; omega)⟩) (H9 (a:=(some ⟨b1,0,none⟩)) (S:=(inG [(b1,.cells #[.string aC,.string aE,.string aD,.string aB,.string aF] 9 (0,0))])) (cs:=[.string aC,.string aE,.string aD,.string aB,.string aF]) (4 * 1) (.string aF) Rd.lit (E0 0 rfl) (fun _=>rfl) (A5 [0,0] [0,5,6,11,12,13] (k:=A0 (A1 (A2 (A3 (j:=2) [0,0] (k:=H6 Tryz.func113 (starts_ s aF (by (try rw [P3]); omega) (Nat.le_of_ble_eq_true rfl) _ _) (A5 [] [0,5,6,11,12,13,20] (k:=?_)))))))))
 refine A0 (B1 (b:=I0 s aF) kr (fun hc6=>?_) (fun hc6=>?_))
 have c4:s.data.toList.take 6=[38,97,112,111,115,59]:=(J8 _ _).1 hc6
 refine A1 (A2 (A3 (j:=1) [0] (k:=G4 (mB #[38,60,62,34,39]) 4 (fun _=>by decide) (A5 [0,0,0,0,0] [2,3] (k:=A0 (B4 (B0 (A4 ?_))))))))
 refine A4 (B0 (A4 (F8 1 [] (B7 [.tmp 2,.tmp 3] [.int .i64 39,.int .i64 6] (k:=?_)))))
 have he:I7 s.data.toList=(39,6):=by unfold I7; rw [if_neg c0,if_neg c1,if_neg c2,if_neg c3,if_pos c4]
 exact ⟨by rw [he]; rfl,rfl⟩
 have c4:¬ s.data.toList.take 6=[38,97,112,111,115,59]:=(J5 _ _).1 hc6
 refine A7 (B8 (A0 (G_p [0,0] [0,11,12,13] (k:=Z5 (F5 (A1 (G_p [0] [0,11,12,13,14] (k:=A0 ?_))))))))
 refine A1 (C5 kr (E7 (A6 (A6 (B6 (A0 (A1 (G_p [0,0,0] [0,7,8,9] (k:=?_)))))))))
 refine A0 (A1 (B3 (A1 (A2 (A3 (j:=1) [0] (k:=H6 Tryz.func113 (starts_ s (mB #[38,35,120]) (by (try rw [P3]); omega) (Nat.le_of_ble_eq_true rfl) _ _) (A3 (j:=4) [0,0] (k:=P7 [(30,false)] Tryz.func113 (fun hc=>starts_ s (mB #[38,35,88]) (by (try rw [P3]); omega) (Nat.le_of_ble_eq_true rfl) _ _) ?_))))))))
 refine A5 [5,0] [0,7,8,9,27] (k:=A0 (B1 (b:=(I0 s (mB #[38,35,120]))||(I0 s (mB #[38,35,88]))) kr (fun hc7=>?_) (fun hc7=>?_)))
 have c5:s.data.toList.take 3=[38,35,120]∨s.data.toList.take 3=[38,35,88]:=by
  rw [Bool.or_eq_true] at hc7
  exact Or.imp (J8 _ _).1 (J8 _ _).1 hc7
 have hz:=tk_len3 c5
 have hnd:=numD_le 16 6 0 (s.extract 3 s.size).data.toList
 refine A1 (G_p [0] [0,9] (k:=A0 (A2 (A3 (j:=1) [0] (k:=M8 s 3 (s.size:Int) (fun _=>by omega) (H6 Tryz.func114 (rnumber16_ (s.extract 3 s.size) 6 6 rfl (by decide) (by (try rw [P3]); omega) _ _) (A5 [0,0,0,0,0] [0,7,8,9] (k:=B8 ?_))))))))
 refine A0 (A1 (A1 ?_))
 have hw8:IntKind.wrap .i64 (3+((H3 16 6 0 (s.extract 3 s.size).data.toList).2:Int))=3+((H3 16 6 0 (s.extract 3 s.size).data.toList).2:Int):=w64 (by omega) (by omega)
 have hw9:IntKind.wrap .i64 (3+((H3 16 6 0 (s.extract 3 s.size).data.toList).2:Int))=3+((H3 16 6 0 (s.extract 3 s.size).data.toList).2:Int):=w64 (by omega) (by omega)
 refine A2 (A3 (j:=15) [0,0,0,0,0,0,0,0,0,5,0,0,0,0,0] (k:=N7 63 [(59,false)] (x:=.int .i64 (IntKind.wrap .i64 (3+((H3 16 6 0 (s.extract 3 s.size).data.toList).2:Int)))) (y:=.int .i64 (3+((H3 16 6 0 (s.extract 3 s.size).data.toList).2:Int))) (by simp only [hw8]) (E3 59 (x:=.bool ((((H3 16 6 0 (s.extract 3 s.size).data.toList).2:Int)==0)||(decide ((IntKind.wrap .i64 (3+((H3 16 6 0 (s.extract 3 s.size).data.toList).2:Int))) ≥ (s.size:Int))))) (y:=.bool ((((H3 16 6 0 (s.extract 3 s.size).data.toList).2:Int)==0)||(decide ((3+((H3 16 6 0 (s.extract 3 s.size).data.toList).2:Int)) ≥ (s.size:Int))))) (by simp only [hw8]) (P4 (ch:=[(59,false)]) (s:=s) (kd:=.i64) (j:=3+((H3 16 6 0 (s.extract 3 s.size).data.toList).2:Int)) (hb:=(fun hc=>by have hg0:=Q9 (t:=59) (c:=[]) (b:=(((H3 16 6 0 (s.extract 3 s.size).data.toList).2:Int)==0)||(decide ((3+((H3 16 6 0 (s.extract 3 s.size).data.toList).2:Int)) ≥ (s.size:Int)))) hc kr; simp only [Bool.or_eq_false_iff,beq_eq_false_iff_ne,decide_eq_false_iff_not,ne_eq,ge_iff_le] at hg0; omega)) (k:=?_)))))
 have hb10:=E5 s (3+((H3 16 6 0 (s.extract 3 s.size).data.toList).2:Int))
 refine A3 (j:=24) [0,5,0,0,0,5,0,0] (k:=P7 [(71,false)] Tryz.func100 (fun hc=>is_ ((H3 16 6 0 (s.extract 3 s.size).data.toList).1) _ _) (A5 [0,5] [7,8,9,75] (k:=A0 (B1 (b:=((((((H3 16 6 0 (s.extract 3 s.size).data.toList).2:Int)==0)||(decide ((3+((H3 16 6 0 (s.extract 3 s.size).data.toList).2:Int)) ≥ (s.size:Int))))||((B2 s (3+((H3 16 6 0 (s.extract 3 s.size).data.toList).2:Int))) != 59))||(((H3 16 6 0 (s.extract 3 s.size).data.toList).1)==0))||(!(isB ((H3 16 6 0 (s.extract 3 s.size).data.toList).1)))) kr (fun hc11=>?_) (fun hc11=>?_)))))
 simp only [Bool.or_eq_true,Bool.not_eq_true',decide_eq_true_eq,beq_iff_eq,bne_iff_ne,ne_eq,ge_iff_le,isBf_iff,isR] at hc11
 refine A1 (G_p [0,0] [2,3] (k:=A0 (B4 (A4 (F8 1 [] (B7 [.tmp 2,.tmp 3] [.int .i64 (-1),.int .i64 0] (k:=?_)))))))
 have he:I7 s.data.toList=refN 3 (H3 16 6 0 (s.extract 3 s.size).data.toList) s.data.toList:=by unfold I7; rw [if_neg c0,if_neg c1,if_neg c2,if_neg c3,if_neg c4,if_pos c5,N3]
 exact ⟨by rw [he,refN_no (A:=3) rfl (by unfold isR; omega)]; rfl,rfl⟩
 simp only [Bool.or_eq_false_iff,Bool.not_eq_false',decide_eq_false_iff_not,beq_eq_false_iff_ne,bne_eq_false_iff_eq,ne_eq,ge_iff_le,isB_iff,isR] at hc11
 refine A7 (A0 (A1 (A2 (A3 (j:=4) [0,0,0,0] (k:=D1 79 (3+((H3 16 6 0 (s.extract 3 s.size).data.toList).2:Int)) (by omega) (by omega) kr (A3 (j:=5) [0] (k:=D1 80 ((3+((H3 16 6 0 (s.extract 3 s.size).data.toList).2:Int))+1) (by omega) (by omega) kr (A5 [0,0] [2,3] (k:=?_)))))))))
 refine A0 (B4 (F8 1 [] (B7 [.tmp 2,.tmp 3] [.int .i64 ((H3 16 6 0 (s.extract 3 s.size).data.toList).1),.int .i64 ((3+((H3 16 6 0 (s.extract 3 s.size).data.toList).2:Int))+1)] (k:=?_))))
 have he:I7 s.data.toList=refN 3 (H3 16 6 0 (s.extract 3 s.size).data.toList) s.data.toList:=by unfold I7; rw [if_neg c0,if_neg c1,if_neg c2,if_neg c3,if_neg c4,if_pos c5,N3]
 exact ⟨by rw [he,refN_yes (A:=3) rfl (by omega) (by omega) (by omega) (by omega) (by unfold isR; omega)]; rfl,rfl⟩
 have c5:¬ (s.data.toList.take 3=[38,35,120]∨s.data.toList.take 3=[38,35,88]):=by
  rw [Bool.or_eq_false_iff] at hc7
  rintro (h | h)
  exact (J5 _ _).1 hc7.1 h
  exact (J5 _ _).1 hc7.2 h
 refine A1 (A2 (A3 (j:=1) [0] (k:=H6 Tryz.func113 (starts_ s (mB #[38,35]) (by (try rw [P3]); omega) (Nat.le_of_ble_eq_true rfl) _ _) (A5 [0] [0,7,8,9,40] (k:=A0 (B1 (b:=I0 s (mB #[38,35])) kr (fun hc14=>?_) (fun hc14=>?_)))))))
 have c6:s.data.toList.take 2=[38,35]:=(J8 _ _).1 hc14
 have hz:=tk_len2 c6
 have hnd:=numD_le 10 7 0 (s.extract 2 s.size).data.toList
 refine A2 (A3 (j:=1) [0] (k:=M8 s 2 (s.size:Int) (fun _=>by omega) (H6 Tryz.func114 (rnumber10_ (s.extract 2 s.size) 7 7 rfl (by decide) (by (try rw [P3]); omega) _ _) (A5 [0,0,0,0,0] [0,7,8,9] (k:=B8 (A0 (A1 (A1 ?_))))))))
 have hw15:IntKind.wrap .i64 (2+((H3 10 7 0 (s.extract 2 s.size).data.toList).2:Int))=2+((H3 10 7 0 (s.extract 2 s.size).data.toList).2:Int):=w64 (by omega) (by omega)
 have hw16:IntKind.wrap .i64 (2+((H3 10 7 0 (s.extract 2 s.size).data.toList).2:Int))=2+((H3 10 7 0 (s.extract 2 s.size).data.toList).2:Int):=w64 (by omega) (by omega)
 refine A2 (A3 (j:=15) [0,0,0,0,0,0,0,0,0,5,0,0,0,0,0] (k:=N7 63 [(59,false)] (x:=.int .i64 (IntKind.wrap .i64 (2+((H3 10 7 0 (s.extract 2 s.size).data.toList).2:Int)))) (y:=.int .i64 (2+((H3 10 7 0 (s.extract 2 s.size).data.toList).2:Int))) (by simp only [hw15]) (E3 59 (x:=.bool ((((H3 10 7 0 (s.extract 2 s.size).data.toList).2:Int)==0)||(decide ((IntKind.wrap .i64 (2+((H3 10 7 0 (s.extract 2 s.size).data.toList).2:Int))) ≥ (s.size:Int))))) (y:=.bool ((((H3 10 7 0 (s.extract 2 s.size).data.toList).2:Int)==0)||(decide ((2+((H3 10 7 0 (s.extract 2 s.size).data.toList).2:Int)) ≥ (s.size:Int))))) (by simp only [hw15]) (P4 (ch:=[(59,false)]) (s:=s) (kd:=.i64) (j:=2+((H3 10 7 0 (s.extract 2 s.size).data.toList).2:Int)) (hb:=(fun hc=>by have hg0:=Q9 (t:=59) (c:=[]) (b:=(((H3 10 7 0 (s.extract 2 s.size).data.toList).2:Int)==0)||(decide ((2+((H3 10 7 0 (s.extract 2 s.size).data.toList).2:Int)) ≥ (s.size:Int)))) hc kr; simp only [Bool.or_eq_false_iff,beq_eq_false_iff_ne,decide_eq_false_iff_not,ne_eq,ge_iff_le] at hg0; omega)) (k:=?_)))))
 have hb17:=E5 s (2+((H3 10 7 0 (s.extract 2 s.size).data.toList).2:Int))
 refine A3 (j:=24) [0,5,0,0,0,5,0,0] (k:=P7 [(71,false)] Tryz.func100 (fun hc=>is_ ((H3 10 7 0 (s.extract 2 s.size).data.toList).1) _ _) (A5 [0,5] [7,8,9,75] (k:=A0 (B1 (b:=((((((H3 10 7 0 (s.extract 2 s.size).data.toList).2:Int)==0)||(decide ((2+((H3 10 7 0 (s.extract 2 s.size).data.toList).2:Int)) ≥ (s.size:Int))))||((B2 s (2+((H3 10 7 0 (s.extract 2 s.size).data.toList).2:Int))) != 59))||(((H3 10 7 0 (s.extract 2 s.size).data.toList).1)==0))||(!(isB ((H3 10 7 0 (s.extract 2 s.size).data.toList).1)))) kr (fun hc18=>?_) (fun hc18=>?_)))))
 simp only [Bool.or_eq_true,Bool.not_eq_true',decide_eq_true_eq,beq_iff_eq,bne_iff_ne,ne_eq,ge_iff_le,isBf_iff,isR] at hc18
 refine A1 (G_p [0,0] [2,3] (k:=A0 (B4 (A4 (F8 1 [] (B7 [.tmp 2,.tmp 3] [.int .i64 (-1),.int .i64 0] (k:=?_)))))))
 have he:I7 s.data.toList=refN 2 (H3 10 7 0 (s.extract 2 s.size).data.toList) s.data.toList:=by unfold I7; rw [if_neg c0,if_neg c1,if_neg c2,if_neg c3,if_neg c4,if_neg c5,if_pos c6,N3]
 exact ⟨by rw [he,refN_no (A:=2) rfl (by unfold isR; omega)]; rfl,rfl⟩
 simp only [Bool.or_eq_false_iff,Bool.not_eq_false',decide_eq_false_iff_not,beq_eq_false_iff_ne,bne_eq_false_iff_eq,ne_eq,ge_iff_le,isB_iff,isR] at hc18
 refine A7 (A0 (A1 (A2 (A3 (j:=4) [0,0,0,0] (k:=D1 79 (2+((H3 10 7 0 (s.extract 2 s.size).data.toList).2:Int)) (by omega) (by omega) kr (A3 (j:=5) [0] (k:=D1 80 ((2+((H3 10 7 0 (s.extract 2 s.size).data.toList).2:Int))+1) (by omega) (by omega) kr (A5 [0,0] [2,3] (k:=?_)))))))))
 refine A0 (B4 (F8 1 [] (B7 [.tmp 2,.tmp 3] [.int .i64 ((H3 10 7 0 (s.extract 2 s.size).data.toList).1),.int .i64 ((2+((H3 10 7 0 (s.extract 2 s.size).data.toList).2:Int))+1)] (k:=?_))))
 have he:I7 s.data.toList=refN 2 (H3 10 7 0 (s.extract 2 s.size).data.toList) s.data.toList:=by unfold I7; rw [if_neg c0,if_neg c1,if_neg c2,if_neg c3,if_neg c4,if_neg c5,if_pos c6,N3]
 exact ⟨by rw [he,refN_yes (A:=2) rfl (by omega) (by omega) (by omega) (by omega) (by unfold isR; omega)]; rfl,rfl⟩
 have c6:¬ s.data.toList.take 2=[38,35]:=(J5 _ _).1 hc14
 refine A7 (B8 (A0 (A1 (A1 (G_p [0,0,0,1,1,1,1,1,1,2,0,1,1,1,1,1,1,2,0,1,1,2,0,1,1,1,2] [7,8,9,75] (k:=A0 (B9 kr (A1 ?_))))))))
 refine G_p [0,0] [2,3] (k:=A0 (B4 (A4 (F8 1 [] (B7 [.tmp 2,.tmp 3] [.int .i64 (-1),.int .i64 0] (k:=?_))))))
 have he:I7 s.data.toList=(-1,0):=by unfold I7; rw [if_neg c0,if_neg c1,if_neg c2,if_neg c3,if_neg c4,if_neg c5,if_neg c6]
 exact ⟨by rw [he]; rfl,rfl⟩
end Go.Proofs.YtcgmnagcgkhogabGreatDoor
namespace Go.Proofs.YtcgmnagcgkhogabGreatDoor
open Go.Sw Go.Sha Go.Esc Go.RowKit Go.Xml
theorem lines_skip {l:List UInt8} {i:Nat} (hi:i+1<l.length) (h0:l.getD i 0=13) (h1:l.getD (i+1) 0=10):B5 (l.drop i)=B5 (l.drop (i+1)):=by
 rw [drop_getD (show i<l.length by omega),drop_getD hi,h0,h1,lines_cr,lines_no (by decide)]
theorem lines_turn {l:List UInt8} {i:Nat} (hi:i<l.length) (h0:l.getD i 0=13) (h1:¬ (i+1<l.length∧l.getD (i+1) 0=10)):B5 (l.drop i)=[10]++B5 (l.drop (i+1)):=by
 rw [drop_getD hi,h0,lines_13]; rfl
 intro u hu
 by_cases h2:i+1<l.length
 rw [drop_getD h2] at hu; injection hu with hu _; exact h1 ⟨h2,hu⟩
 rw [List.drop_eq_nil_of_le (by omega)] at hu; cases hu
theorem lines_stay {l:List UInt8} {i:Nat} {b:UInt8} (hi:i<l.length) (hb:b=l.getD i 0) (h0:¬ b=13):B5 (l.drop i)=[b]++B5 (l.drop (i+1)):=by
 rw [drop_getD hi,← hb,lines_no h0]; rfl
theorem rlines_ (s:ByteArray) (hs:s.size≤100000000) (W0:World) (H:List Grp):Tri Tryz.prog 79 #[.string s] W0 H (fun v H'=>v=.string ⟨(B5 s.data.toList).toArray⟩∧H'=H):=by
 refine D5 44 Tryz.func79 ?_
 refine A1 (C3 (E':=[⟨0,[],.string s⟩]) [0] [0] (k:=A0 (A1 (G_p [0] [0,3] (k:=A0 (A1 (A1 (G_p [0] [0,3,4] (k:=?_)))))))))
 refine A0 (B3 (R1 (H':=([]::H)) (fun w h=>h.flat (List.Perm.refl _)) (I6 (EI:=(fun ξ:Option Addr × Nat × Grp × List UInt8 × Nat=>[⟨0,[],.string s⟩,⟨3,[],.slice ξ.1 ξ.2.2.2.1.length ξ.2.1⟩,⟨4,[],.int .i64 ((ξ.2.2.2.2:Nat):Int)⟩])) (HI:=(fun ξ:Option Addr × Nat × Grp × List UInt8 × Nat=>(ξ.2.2.1::H))) (Φ:=(fun ξ:Option Addr × Nat × Grp × List UInt8 × Nat=>(Go.Sw.Own 5 1 (.slice ξ.1 ξ.2.2.2.1.length ξ.2.1) ξ.2.2.1 ξ.2.2.2.1.length (u8s ξ.2.2.2.1))∧(ξ.2.2.2.2≤s.size)∧(ξ.2.2.2.1++B5 (s.data.toList.drop ξ.2.2.2.2)=B5 s.data.toList))) (μ:=(fun ξ:Option Addr × Nat × Grp × List UInt8 × Nat=>s.size - ξ.2.2.2.2)) (s0:=(none,0,[],[],0)) [0,3,4] kr rfl ⟨Go.Sw.Own.nil,(by (try dsimp only); omega),rfl⟩ ?_)))
 rintro ⟨ra,rc,rg,l1,i⟩ ⟨hO,hi,hT⟩
 dsimp only at hO hi hT
 have hll:l1.length≤s.size:=by
  have h1:=congrArg List.length hT
  have h2:=N2 s.data.toList
  rw [List.length_append] at h1; rw [G7] at h2; omega
 obtain ⟨b,hb⟩:∃ b:UInt8,b=s.data.toList.getD i 0:=⟨_,rfl⟩
 have hbyte:B2 s (i:Int)=(b.toNat:Int):=by rw [I9,hb]
 obtain ⟨d,hd⟩:∃ d:UInt8,d=s.data.toList.getD (i+1) 0:=⟨_,rfl⟩
 have hdyte:B2 s ((i:Int)+1)=(d.toNat:Int):=by rw [← Int.natCast_succ,I9,hd]
 refine A1 (A1 (G_p [0,0,0,0] [0,3,4,8] (k:=A0 (B1 (b:=decide (((i:Nat):Int)<(s.size:Int))) kr (fun hc1=>?_) (fun hc1=>?_)))))
 simp only [decide_eq_true_eq] at hc1
 have hlt:i<s.data.toList.length:=by rw [G7]; omega
 refine A7 (A0 (A1 (B3 (A1 (A1 ?_)))))
 rcases (show (b≠13)∨(b=13∧¬ i+1<s.size)∨(b=13∧i+1<s.size) from by by_cases h1:b=13 <;> by_cases h2:i+1<s.size <;> simp [h1,h2]) with h13 | h13 | h13
 have hn13:¬ (b.toNat:Int)=13:=by intro h; exact h13 (UInt8.toNat_inj.1 (by show b.toNat=13; omega))
 refine A2 (A3 (j:=2) [0,0] (k:=G4 s ((i:Nat):Int) (fun _=>by omega) ?_))
 have hb2:=E5 s ((i:Nat):Int)
 refine A3 (j:=4) [0] (k:=E3 14 (x:=.bool ((B2 s ((i:Nat):Int))==13)) (y:=.bool false) (by rw [hbyte,show ((b.toNat:Int)==13)=false from beq_eq_false_iff_ne.2 hn13]) (A5 [0,1,1,1,1,1,3,0,1,1,1,1,1,3] [0,3,4,28] (k:=A0 (C5 kr (A7 (A0 (A1 (A2 ?_))))))))
 refine A3 (j:=2) [0,0] (k:=G4 s ((i:Nat):Int) (fun _=>by omega) ?_)
 have hb3:=E5 s ((i:Nat):Int)
 refine E3 31 (x:=.int .u8 (B2 s ((i:Nat):Int))) (y:=.int .u8 (b.toNat:Int)) (by rw [hbyte]) (A5 [0] [0,3,4,32] (k:=A0 (B1 (b:=(b.toNat:Int)==13) kr (fun hc4=>?_) (fun hc4=>?_))))
 have hb13:b=13:=UInt8.toNat_inj.1 (by show b.toNat=13; have:=hc4; simp only [beq_iff_eq] at this; omega)
 have hst:B5 (s.data.toList.drop i)=[10]++B5 (s.data.toList.drop (i+1)):=by first | exact lines_turn hlt (by rw [← hb,hb13]) hno | exact absurd hb13 h13
 refine A2 (A3 (j:=1) [0] (k:=H0 5 1 [.int .u8 10] (fun b5=>L7 (inf:=Tryz.t5) 1 0 1 rfl rfl hO (by omega) (by show (l1.length+1) * 1≤140737488355328; omega) (fun v6 g7 hO8=>?_))))
 obtain ⟨a9,cap10,rfl,hcap11,hrd12⟩:=hO8.shape
 refine A5 [0] [0,3,4] (k:=B8 (A0 (A2 (A3 (j:=2) [0,0] (k:=D1 10 (((i:Nat):Int)+1) (by omega) (by omega) kr (A5 [0] [0,3,4] (k:=?_)))))))
 have hln:(l1.length+1)=(l1++[10]).length:=by first | exact List.length_append.symm | (rw [List.length_append]; rfl)
 refine L6 (E':=[⟨0,[],.string s⟩,⟨3,[],.slice a9 (l1.length+1) cap10⟩,⟨4,[],.int .i64 (((i:Nat):Int)+1)⟩]) kr (L6 (E':=[⟨0,[],.string s⟩,⟨3,[],.slice a9 ((l1++[10]).length) cap10⟩,⟨4,[],.int .i64 (((i:Nat):Int)+1)⟩]) (by rw [hln]) (F8 1 [1] (D2 (s':=(a9,cap10,g7,(l1++[10]),i+1)) [0,3,4] kr kr ⟨(O2 hO8 hln (by dsimp only; first | exact (Go.Sha.u8s_append _ _).symm | (rw [Go.Sha.u8s_append]; rfl))),(by dsimp only; omega),(by dsimp only; rw [List.append_assoc,← hst]; exact hT)⟩ (by dsimp only; omega))))
 have hst:B5 (s.data.toList.drop i)=[b]++B5 (s.data.toList.drop (i+1)):=lines_stay hlt hb (by rintro rfl; have:=hc4; simp at this)
 refine A2 (A3 (j:=3) [0,0,0] (k:=G4 s ((i:Nat):Int) (fun _=>by omega) ?_))
 have hb14:=E5 s ((i:Nat):Int)
 refine E3 39 (x:=.int .u8 (B2 s ((i:Nat):Int))) (y:=.int .u8 (b.toNat:Int)) (by rw [hbyte]) (H0 5 1 [.int .u8 (b.toNat:Int)] (fun b15=>L7 (inf:=Tryz.t5) 1 0 1 rfl rfl hO (by omega) (by show (l1.length+1) * 1≤140737488355328; omega) (fun v16 g17 hO18=>?_)))
 obtain ⟨a19,cap20,rfl,hcap21,hrd22⟩:=hO18.shape
 refine A5 [0] [0,3,4] (k:=B8 (A0 (A2 (A3 (j:=2) [0,0] (k:=D1 10 (((i:Nat):Int)+1) (by omega) (by omega) kr (A5 [0] [0,3,4] (k:=?_)))))))
 have hln:(l1.length+1)=(l1++[b]).length:=by first | exact List.length_append.symm | (rw [List.length_append]; rfl)
 refine L6 (E':=[⟨0,[],.string s⟩,⟨3,[],.slice a19 (l1.length+1) cap20⟩,⟨4,[],.int .i64 (((i:Nat):Int)+1)⟩]) kr (L6 (E':=[⟨0,[],.string s⟩,⟨3,[],.slice a19 ((l1++[b]).length) cap20⟩,⟨4,[],.int .i64 (((i:Nat):Int)+1)⟩]) (by rw [hln]) (F8 1 [1] (D2 (s':=(a19,cap20,g17,(l1++[b]),i+1)) [0,3,4] kr kr ⟨(O2 hO18 hln (by dsimp only; first | exact (Go.Sha.u8s_append _ _).symm | (rw [Go.Sha.u8s_append]; rfl))),(by dsimp only; omega),(by dsimp only; rw [List.append_assoc,← hst]; exact hT)⟩ (by dsimp only; omega))))
 have hno:¬ (i+1<s.data.toList.length∧s.data.toList.getD (i+1) 0=10):=by rw [G7]; exact fun h=>h13.2 h.1
 refine A2 (A3 (j:=2) [0,0] (k:=G4 s ((i:Nat):Int) (fun _=>by omega) ?_))
 have hb24:=E5 s ((i:Nat):Int)
 refine A3 (j:=4) [0] (k:=E3 14 (x:=.bool ((B2 s ((i:Nat):Int))==13)) (y:=.bool true) (by rw [hbyte,h13.1]; rfl) (A3 (j:=7) [0,0,0] (k:=N7 17 [(15,true)] (x:=.int .i64 (IntKind.wrap .i64 (((i:Nat):Int)+1))) (y:=.int .i64 (((i:Nat):Int)+1)) (by rw [w64 (by omega) (by omega)]) (A3 (j:=10) [0,0,0] (k:=N7 20 [(15,true)] (x:=.bool (decide ((((i:Nat):Int)+1)<(s.size:Int)))) (y:=.bool false) (by rw [show decide (((i:Nat):Int)+1<((s.size:Nat):Int))=false from decide_eq_false (by omega)]) (A5 [2,0,1,1,1,1,1,3] [0,3,4,28] (k:=A0 (C5 kr ?_))))))))
 refine A7 (A0 (A1 (A2 (A3 (j:=2) [0,0] (k:=G4 s ((i:Nat):Int) (fun _=>by omega) ?_)))))
 have hb25:=E5 s ((i:Nat):Int)
 refine E3 31 (x:=.int .u8 (B2 s ((i:Nat):Int))) (y:=.int .u8 (b.toNat:Int)) (by rw [hbyte]) (A5 [0] [0,3,4,32] (k:=A0 (B1 (b:=(b.toNat:Int)==13) kr (fun hc26=>?_) (fun hc26=>?_))))
 have hb13:b=13:=UInt8.toNat_inj.1 (by show b.toNat=13; have:=hc26; simp only [beq_iff_eq] at this; omega)
 have hst:B5 (s.data.toList.drop i)=[10]++B5 (s.data.toList.drop (i+1)):=by first | exact lines_turn hlt (by rw [← hb,hb13]) hno | exact absurd hb13 h13
 refine A2 (A3 (j:=1) [0] (k:=H0 5 1 [.int .u8 10] (fun b27=>L7 (inf:=Tryz.t5) 1 0 1 rfl rfl hO (by omega) (by show (l1.length+1) * 1≤140737488355328; omega) (fun v28 g29 hO30=>?_))))
 obtain ⟨a31,cap32,rfl,hcap33,hrd34⟩:=hO30.shape
 refine A5 [0] [0,3,4] (k:=B8 (A0 (A2 (A3 (j:=2) [0,0] (k:=D1 10 (((i:Nat):Int)+1) (by omega) (by omega) kr (A5 [0] [0,3,4] (k:=?_)))))))
 have hln:(l1.length+1)=(l1++[10]).length:=by first | exact List.length_append.symm | (rw [List.length_append]; rfl)
 refine L6 (E':=[⟨0,[],.string s⟩,⟨3,[],.slice a31 (l1.length+1) cap32⟩,⟨4,[],.int .i64 (((i:Nat):Int)+1)⟩]) kr (L6 (E':=[⟨0,[],.string s⟩,⟨3,[],.slice a31 ((l1++[10]).length) cap32⟩,⟨4,[],.int .i64 (((i:Nat):Int)+1)⟩]) (by rw [hln]) (F8 1 [1] (D2 (s':=(a31,cap32,g29,(l1++[10]),i+1)) [0,3,4] kr kr ⟨(O2 hO30 hln (by dsimp only; first | exact (Go.Sha.u8s_append _ _).symm | (rw [Go.Sha.u8s_append]; rfl))),(by dsimp only; omega),(by dsimp only; rw [List.append_assoc,← hst]; exact hT)⟩ (by dsimp only; omega))))
 have hst:B5 (s.data.toList.drop i)=[b]++B5 (s.data.toList.drop (i+1)):=lines_stay hlt hb (by rintro rfl; have:=hc26; simp at this)
 refine A2 (A3 (j:=3) [0,0,0] (k:=G4 s ((i:Nat):Int) (fun _=>by omega) ?_))
 have hb36:=E5 s ((i:Nat):Int)
 refine E3 39 (x:=.int .u8 (B2 s ((i:Nat):Int))) (y:=.int .u8 (b.toNat:Int)) (by rw [hbyte]) (H0 5 1 [.int .u8 (b.toNat:Int)] (fun b37=>L7 (inf:=Tryz.t5) 1 0 1 rfl rfl hO (by omega) (by show (l1.length+1) * 1≤140737488355328; omega) (fun v38 g39 hO40=>?_)))
 obtain ⟨a41,cap42,rfl,hcap43,hrd44⟩:=hO40.shape
 refine A5 [0] [0,3,4] (k:=B8 (A0 (A2 (A3 (j:=2) [0,0] (k:=D1 10 (((i:Nat):Int)+1) (by omega) (by omega) kr (A5 [0] [0,3,4] (k:=?_)))))))
 have hln:(l1.length+1)=(l1++[b]).length:=by first | exact List.length_append.symm | (rw [List.length_append]; rfl)
 refine L6 (E':=[⟨0,[],.string s⟩,⟨3,[],.slice a41 (l1.length+1) cap42⟩,⟨4,[],.int .i64 (((i:Nat):Int)+1)⟩]) kr (L6 (E':=[⟨0,[],.string s⟩,⟨3,[],.slice a41 ((l1++[b]).length) cap42⟩,⟨4,[],.int .i64 (((i:Nat):Int)+1)⟩]) (by rw [hln]) (F8 1 [1] (D2 (s':=(a41,cap42,g39,(l1++[b]),i+1)) [0,3,4] kr kr ⟨(O2 hO40 hln (by dsimp only; first | exact (Go.Sha.u8s_append _ _).symm | (rw [Go.Sha.u8s_append]; rfl))),(by dsimp only; omega),(by dsimp only; rw [List.append_assoc,← hst]; exact hT)⟩ (by dsimp only; omega))))
 have h14:=h13
 refine A2 (A3 (j:=2) [0,0] (k:=G4 s ((i:Nat):Int) (fun _=>by omega) ?_))
 have hb46:=E5 s ((i:Nat):Int)
 refine A3 (j:=4) [0] (k:=E3 14 (x:=.bool ((B2 s ((i:Nat):Int))==13)) (y:=.bool true) (by rw [hbyte,h13.1]; rfl) (A3 (j:=7) [0,0,0] (k:=N7 17 [(15,true)] (x:=.int .i64 (IntKind.wrap .i64 (((i:Nat):Int)+1))) (y:=.int .i64 (((i:Nat):Int)+1)) (by rw [w64 (by omega) (by omega)]) (A3 (j:=10) [0,0,0] (k:=N7 20 [(15,true)] (x:=.bool (decide ((((i:Nat):Int)+1)<(s.size:Int)))) (y:=.bool true) (by rw [show decide (((i:Nat):Int)+1<((s.size:Nat):Int))=true from decide_eq_true (by omega)]) (A3 (j:=15) [2,0,0,0,0] (k:=N7 25 [(22,true)] (x:=.int .i64 (IntKind.wrap .i64 (((i:Nat):Int)+1))) (y:=.int .i64 (((i:Nat):Int)+1)) (by rw [w64 (by omega) (by omega)]) (P4 (ch:=[(22,true)]) (s:=s) (kd:=.i64) (j:=((i:Nat):Int)+1) (hb:=(fun hc=>by have hg0:=Q9 (t:=22) (c:=[]) (b:=true) hc kr; (try simp at hg0); omega)) (k:=?_)))))))))
 have hb47:=E5 s (((i:Nat):Int)+1)
 refine N7 26 [(22,true)] (x:=.int .u8 (B2 s (((i:Nat):Int)+1))) (y:=.int .u8 (d.toNat:Int)) (by rw [hdyte]) (A5 [0,2] [0,3,4,28] (k:=A0 (B1 (b:=(d.toNat:Int)==10) kr (fun hc48=>?_) (fun hc48=>?_))))
 have hst:B5 (s.data.toList.drop i)=B5 (s.data.toList.drop (i+1)):=lines_skip (by rw [G7]; omega) (by rw [← hb,h13.1]) (by rw [← hd]; exact UInt8.toNat_inj.1 (by show d.toNat=10; have:=hc48; simp only [beq_iff_eq] at this; omega))
 refine E7 (A6 (B6 (A0 (A2 (A3 (j:=2) [0,0] (k:=D1 10 (((i:Nat):Int)+1) (by omega) (by omega) kr (A5 [0] [0,3,4] (k:=D2 (s':=(ra,rc,rg,l1,i+1)) [0,3,4] kr rfl ⟨hO,(by dsimp only; omega),(by dsimp only; rw [← hst]; exact hT)⟩ (by dsimp only; omega)))))))))
 have hno:¬ (i+1<s.data.toList.length∧s.data.toList.getD (i+1) 0=10):=by
  rintro ⟨_,h9⟩
  rw [← hd] at h9
  have:=hc48; rw [h9] at this; simp at this
 refine A7 (A0 (A1 (A2 (A3 (j:=2) [0,0] (k:=G4 s ((i:Nat):Int) (fun _=>by omega) ?_)))))
 have hb50:=E5 s ((i:Nat):Int)
 refine E3 31 (x:=.int .u8 (B2 s ((i:Nat):Int))) (y:=.int .u8 (b.toNat:Int)) (by rw [hbyte]) (A5 [0] [0,3,4,32] (k:=A0 (B1 (b:=(b.toNat:Int)==13) kr (fun hc51=>?_) (fun hc51=>?_))))
 have hb13:b=13:=UInt8.toNat_inj.1 (by show b.toNat=13; have:=hc51; simp only [beq_iff_eq] at this; omega)
 have hst:B5 (s.data.toList.drop i)=[10]++B5 (s.data.toList.drop (i+1)):=by first | exact lines_turn hlt (by rw [← hb,hb13]) hno | exact absurd hb13 h13
 refine A2 (A3 (j:=1) [0] (k:=H0 5 1 [.int .u8 10] (fun b52=>L7 (inf:=Tryz.t5) 1 0 1 rfl rfl hO (by omega) (by show (l1.length+1) * 1≤140737488355328; omega) (fun v53 g54 hO55=>?_))))
 obtain ⟨a56,cap57,rfl,hcap58,hrd59⟩:=hO55.shape
 refine A5 [0] [0,3,4] (k:=B8 (A0 (A2 (A3 (j:=2) [0,0] (k:=D1 10 (((i:Nat):Int)+1) (by omega) (by omega) kr (A5 [0] [0,3,4] (k:=?_)))))))
 have hln:(l1.length+1)=(l1++[10]).length:=by first | exact List.length_append.symm | (rw [List.length_append]; rfl)
 refine L6 (E':=[⟨0,[],.string s⟩,⟨3,[],.slice a56 (l1.length+1) cap57⟩,⟨4,[],.int .i64 (((i:Nat):Int)+1)⟩]) kr (L6 (E':=[⟨0,[],.string s⟩,⟨3,[],.slice a56 ((l1++[10]).length) cap57⟩,⟨4,[],.int .i64 (((i:Nat):Int)+1)⟩]) (by rw [hln]) (F8 1 [1] (D2 (s':=(a56,cap57,g54,(l1++[10]),i+1)) [0,3,4] kr kr ⟨(O2 hO55 hln (by dsimp only; first | exact (Go.Sha.u8s_append _ _).symm | (rw [Go.Sha.u8s_append]; rfl))),(by dsimp only; omega),(by dsimp only; rw [List.append_assoc,← hst]; exact hT)⟩ (by dsimp only; omega))))
 have hst:B5 (s.data.toList.drop i)=[b]++B5 (s.data.toList.drop (i+1)):=lines_stay hlt hb (by rintro rfl; have:=hc51; simp at this)
 refine A2 (A3 (j:=3) [0,0,0] (k:=G4 s ((i:Nat):Int) (fun _=>by omega) ?_))
 have hb61:=E5 s ((i:Nat):Int)
 refine E3 39 (x:=.int .u8 (B2 s ((i:Nat):Int))) (y:=.int .u8 (b.toNat:Int)) (by rw [hbyte]) (H0 5 1 [.int .u8 (b.toNat:Int)] (fun b62=>L7 (inf:=Tryz.t5) 1 0 1 rfl rfl hO (by omega) (by show (l1.length+1) * 1≤140737488355328; omega) (fun v63 g64 hO65=>?_)))
 obtain ⟨a66,cap67,rfl,hcap68,hrd69⟩:=hO65.shape
 refine A5 [0] [0,3,4] (k:=B8 (A0 (A2 (A3 (j:=2) [0,0] (k:=D1 10 (((i:Nat):Int)+1) (by omega) (by omega) kr (A5 [0] [0,3,4] (k:=?_)))))))
 have hln:(l1.length+1)=(l1++[b]).length:=by first | exact List.length_append.symm | (rw [List.length_append]; rfl)
 refine L6 (E':=[⟨0,[],.string s⟩,⟨3,[],.slice a66 (l1.length+1) cap67⟩,⟨4,[],.int .i64 (((i:Nat):Int)+1)⟩]) kr (L6 (E':=[⟨0,[],.string s⟩,⟨3,[],.slice a66 ((l1++[b]).length) cap67⟩,⟨4,[],.int .i64 (((i:Nat):Int)+1)⟩]) (by rw [hln]) (F8 1 [1] (D2 (s':=(a66,cap67,g64,(l1++[b]),i+1)) [0,3,4] kr kr ⟨(O2 hO65 hln (by dsimp only; first | exact (Go.Sha.u8s_append _ _).symm | (rw [Go.Sha.u8s_append]; rfl))),(by dsimp only; omega),(by dsimp only; rw [List.append_assoc,← hst]; exact hT)⟩ (by dsimp only; omega))))
 simp only [decide_eq_false_iff_not] at hc1
 refine E7 (A6 (A6 (B6 (A0 (A1 (A2 (A3 (j:=1) [0] (k:=Z8 (ch:=[]) (a:=ra) (cap:=rc) (e:=5) (S:=(inG rg)) (bk l1) (hrd:=F0 hO) (hS:=E0 0 rfl) (k:=?_)))))))))
 refine C0 (E':=[⟨2,[],.string (bk l1)⟩]) [0] [2] (k:=A0 (B4 (F8 1 [] (B7 [.tmp 2] [.string (bk l1)] (k:=?_)))))
 have he:l1=B5 s.data.toList:=by rw [← hT,List.drop_eq_nil_of_le (by rw [G7]; omega)]; rw [show B5 []=[] from by rw [B5]]; exact (List.append_nil _).symm
 exact ⟨congrArg Value.string (by rw [he]),rfl⟩
end Go.Proofs.YtcgmnagcgkhogabGreatDoor
namespace Go.Xml
open Go.Esc Go.Json Go.Lib
def Wr (l:List UInt8) (ps:List Int):Prop:=l=R7 ps∧∀ p∈ps,isR p∧N6 p=true∧p≠13
theorem Wr.pl {l:List UInt8} {ps:List Int} (h:Wr l ps):Pl l:=⟨ps,fun p hp=>⟨(h.2 p hp).1,(h.2 p hp).2.1⟩,h.1⟩
theorem pl_lit {l:List UInt8} (h1:J0 l=true) (h2:F9 l=l):Pl l:=pl_of h1 h2
end Go.Xml
namespace Go.Xml
open Go.Esc Go.Json Go.Lib
def ltX (f:Bool) (b:UInt8):Bool:=if f then fstX b else nxtX b
theorem lt_yes {f:Bool} {b:UInt8} (h:fstX b=true):ltX f b=true:=by
 unfold ltX; cases f
 exact (nxt_iff b).2 (.inl h)
 exact h
theorem lt_no {f:Bool} {b:UInt8} (h:fstX b=false):ltX f b=((!f)&&(((decide ((b.toNat:Int) ≥ 48)&&decide ((b.toNat:Int)≤57))||((b.toNat:Int)==45))||((b.toNat:Int)==46))):=by
 unfold ltX
 cases f
 rw [Bool.not_false,Bool.true_and,if_neg Bool.false_ne_true,Bool.eq_iff_iff,nxt_iff,h]
 simp only [Bool.or_eq_true,Bool.and_eq_true,decide_eq_true_eq,beq_iff_eq,Bool.false_eq_true,false_or]
 omega
 rw [if_pos rfl,h]; rfl
theorem lt_stop {l:List UInt8} {i:Nat} {b:UInt8} (hN:NmAt l i) (hi:i<l.length) (hb:b=l.getD i 0) (h:ltX (((i:Nat):Int)==0) b=false):nmX l=i:=by
 subst hb
 unfold ltX at h
 by_cases h0:i=0
 subst h0; exact nm_stop hN hi h (.inl rfl)
 rw [if_neg (by simp; omega)] at h
 refine nm_stop hN hi ?_ (.inr h)
 cases hf:fstX (l.getD i 0) with
 | false=>rfl
 | true=>rw [(nxt_iff _).2 (.inl hf)] at h; cases h
theorem lt_step {l:List UInt8} {i:Nat} {b:UInt8} (hN:NmAt l i) (hi:i<l.length) (hb:b=l.getD i 0) (h:ltX (((i:Nat):Int)==0) b=true):NmAt l (i+1):=by
 subst hb
 unfold ltX at h
 by_cases h0:i=0
 subst h0; exact nm_step hN hi (.inl h)
 rw [if_neg (by simp; omega)] at h
 exact nm_step hN hi (.inr ⟨h0,h⟩)
end Go.Xml
namespace Go.Proofs.YtcgmnagcgkhogabGreatDoor
open Go.Sw Go.Sha Go.Esc Go.RowKit Go.Json Go.Xml
theorem rletter_ (b:UInt8) (f:Bool) (W0:World) (H:List Grp):Tri Tryz.prog 98 #[.int .u8 (b.toNat:Int),.bool f] W0 H (fun v H'=>v=.bool (ltX f b)∧H'=H):=by
 refine D5 45 Tryz.func98 ?_
 refine A1 (G_p [0] [0,1] (k:=A0 (A1 (A1 (G_p [0,0,0,0,0,6,0,0,0,0,0,0,6,5,0,0,0,5,0,0,0,5] [0,1,26] (k:=A0 (B1 (b:=((((decide ((b.toNat:Int) ≥ 97))&&(decide ((b.toNat:Int)≤122)))||((decide ((b.toNat:Int) ≥ 65))&&(decide ((b.toNat:Int)≤90))))||((b.toNat:Int)==95))||(decide ((b.toNat:Int) ≥ 128))) kr (fun hc1=>?_) (fun hc1=>?_))))))))
 have hf:fstX b=true:=by
  have h9:=hc1
  rw [fst_iff]
  simp only [Bool.or_eq_true,Bool.and_eq_true,decide_eq_true_eq,beq_iff_eq] at h9
  omega
 refine A1 (C3 (E':=[⟨4,[],.bool true⟩]) [0] [4] (k:=A0 (B4 (A4 (B7 [.tmp 4] [.bool true] (k:=?_))))))
 exact ⟨congrArg Value.bool (lt_yes hf).symm,rfl⟩
 have hf:fstX b=false:=by
  have h9:=hc1
  rw [← Bool.not_eq_true,fst_iff]
  simp only [Bool.or_eq_false_iff,Bool.and_eq_false_iff,decide_eq_false_iff_not,beq_eq_false_iff_ne,ne_eq] at h9
  omega
 refine A7 (A0 (A1 (G_p [0,0,0,0,0,0,0,0,6,0,0,0,5,0,0,0,5,6,0] [4] (k:=A0 (B4 (B7 [.tmp 4] [.bool ((!f)&&((((decide ((b.toNat:Int) ≥ 48))&&(decide ((b.toNat:Int)≤57)))||((b.toNat:Int)==45))||((b.toNat:Int)==46)))] (k:=?_)))))))
 exact ⟨congrArg Value.bool (lt_no hf).symm,rfl⟩
theorem rxplain_ (s:ByteArray) (hs:s.size≤100000000) (W0:World) (H:List Grp):Tri Tryz.prog 8 #[.string s] W0 H (fun v H'=>v=.bool (J0 s.data.toList&&(F9 s.data.toList==s.data.toList))∧H'=H):=by
 refine D5 11 Tryz.func8 ?_
 refine A1 (C3 (E':=[⟨0,[],.string s⟩]) [0] [0] (k:=A0 (A1 (A2 (A3 (j:=1) [0] (k:=H6 Tryz.func24 (rvalid_ s (by omega) _ _) (A3 (j:=4) [0,0] (k:=P7 [(5,true)] Tryz.func25 (fun hc=>rplain_ s (by omega) _ _) ?_))))))))
 refine A5 [0,0,6,0] [2] (k:=A0 (B4 (B7 [.tmp 2] [.bool ((J0 s.data.toList)&&((bk (F9 s.data.toList)).toList==s.toList))] (k:=?_))))
 exact ⟨congrArg Value.bool (congrArg (J0 s.data.toList&&·) (bkB (F9 s.data.toList) s.data.toList)),rfl⟩
end Go.Proofs.YtcgmnagcgkhogabGreatDoor
namespace Go.Json
open Go.Lib Go.Esc Go.Sw
section
variable {val : List UInt8 → PR} {obj : Bool} {ns ns2 : List (List UInt8)} {vs : List JV} {l l2 l3 l4 : List UInt8} {v : JV} {e : Int} {c : UInt8}
end
section
variable {l : List UInt8} (c1 : ¬ l.take 4 = [110, 117, 108, 108]) (c2 : ¬ l.take 5 = [102, 97, 108, 115, 101]) (c3 : ¬ l.take 4 = [116, 114, 117, 101])
include c1 c2 c3
end
theorem drop_cons {l:List UInt8} {i:Nat} (h:i<l.length):l.drop i=l.getD i 0::l.drop (i+1):=by rw [List.drop_eq_getElem_cons h,List.getD_eq_getElem?_getD,List.getElem?_eq_getElem h]; rfl
end Go.Json
namespace Go.Xml
open Go.Esc Go.Json Go.Lib
theorem looks_eq {l w:List UInt8} {i:Nat} (hi:i≤l.length):(decide (((l.length:Nat):Int) - ((i:Nat):Int) ≥ ((w.length:Nat):Int))&&((bk ((l.drop i).take w.length)).toList==(bk w).toList))=w.isPrefixOf (l.drop i):=by
 rw [bkB,Bool.eq_iff_iff,Bool.and_eq_true,decide_eq_true_eq,beq_iff_eq,pre_iff]
 constructor
 exact fun h=>h.2
 intro h
 refine ⟨?_,h⟩
 have:=pre_le h
 rw [List.length_drop] at this; omega
def ToI (w l:List UInt8) (i j:Nat):Prop:=(j≤l.length∧idxL w (l.drop i)=(idxL w (l.drop j)).map (·+(j - i)))∨(j=l.length+1∧idxL w (l.drop i)=none)
theorem toI_0 {w l:List UInt8} {i:Nat} (h:i≤l.length):ToI w l i i:=.inl ⟨h,by
 rw [Nat.sub_self]
 cases idxL w (l.drop i) with
 | none=>rfl
 | some k=>rfl⟩
theorem idx_at {w l:List UInt8} (h:w.isPrefixOf l=true):idxL w l=some 0:=by
  cases l with
  | nil =>
    have:w=[]:=by cases w with | nil=>rfl | cons c w=>cases h
    rw [idxL,if_pos this]
  | cons b l=>rw [idxL,if_pos h]
theorem toI_yes {w l:List UInt8} {i j:Nat} (hT:ToI w l i j) (hj:j≤l.length) (h:w.isPrefixOf (l.drop j)=true):idxL w (l.drop i)=some (j - i):=by
 rcases hT with ⟨_,hT⟩ | ⟨hT,_⟩
 rw [hT,idx_at h]; simp
 omega
theorem toI_s {w l:List UInt8} {i j:Nat} (hij:i≤j) (hT:ToI w l i j) (hj:j≤l.length) (hw:w≠[]) (h:¬ w.isPrefixOf (l.drop j)=true):ToI w l i (j+1):=by
 rcases hT with ⟨_,hT⟩ | ⟨hT,_⟩
 rcases Nat.lt_or_ge j l.length with hlt | hge
 refine .inl ⟨hlt,?_⟩
 have e:l.drop j=l[j]::l.drop (j+1):=List.drop_eq_getElem_cons hlt
 rw [hT]
 conv=>lhs; rw [e,idxL,← e,if_neg h]
 cases idxL w (l.drop (j+1)) with
 | none=>rfl
 | some k=>show some (k+1+(j - i))=some (k+(j+1 - i)); congr 1; omega
 refine .inr ⟨by omega,?_⟩
 rw [hT,List.drop_eq_nil_of_le hge,idxL,if_neg hw]; rfl
 omega
theorem toI_no {w l:List UInt8} {i j:Nat} (hT:ToI w l i j) (hj:¬ j≤l.length):idxL w (l.drop i)=none:=by
 rcases hT with ⟨h,_⟩ | ⟨_,h⟩
 exact absurd h hj
 exact h
theorem W2 (l:List UInt8) {i j:Nat} (h:i≤j):(l.drop i).getD (j - i) 0=l.getD j 0:=by
 rw [List.getD_eq_getElem?_getD,List.getElem?_drop,show i+(j - i)=j by omega,List.getD_eq_getElem?_getD]
theorem ij_eq {i j:Nat} (h:i≤j):(((j:Nat):Int)==((i:Nat):Int))=(((j - i:Nat):Int)==0):=by
 rw [Bool.eq_iff_iff,beq_iff_eq,beq_iff_eq]; omega
theorem nmj_step {l:List UInt8} {i j:Nat} {b:UInt8} (hN:NmAt (l.drop i) (j - i)) (hij:i≤j) (hj:j<l.length) (hb:b=l.getD j 0) (h:ltX (((j:Nat):Int)==((i:Nat):Int)) b=true):NmAt (l.drop i) (j+1 - i):=by
 rw [ij_eq hij] at h
 rw [show j+1 - i=(j - i)+1 by omega]
 exact lt_step hN (by rw [List.length_drop]; omega) (by rw [W2 l hij]; exact hb) h
theorem nmj_stop {l:List UInt8} {i j:Nat} {b:UInt8} (hN:NmAt (l.drop i) (j - i)) (hij:i≤j) (hj:j<l.length) (hb:b=l.getD j 0) (h:ltX (((j:Nat):Int)==((i:Nat):Int)) b=false):nmX (l.drop i)=j - i:=by
 rw [ij_eq hij] at h
 exact lt_stop hN (by rw [List.length_drop]; omega) (by rw [W2 l hij]; exact hb) h
theorem nmj_end {l:List UInt8} {i j:Nat} (hN:NmAt (l.drop i) (j - i)) (hij:i≤j) (hj:j=l.length):nmX (l.drop i)=j - i:=by
 have:=nm_end hN (by rw [List.length_drop]; omega) (by rw [List.length_drop]; omega)
 rw [this,List.length_drop]; omega
theorem drop_pre {l w:List UInt8} {i:Nat} (h:w.isPrefixOf (l.drop i)=true) (hi:i≤l.length):i+w.length≤l.length:=by
 have:=pre_le h
 rw [List.length_drop] at this; omega
theorem nameE_0 {l:List UInt8} (h:nmX l=0):R3 l=none:=by unfold R3; rw [if_pos h]
theorem nameE_s {l:List UInt8} (h:nmX l≠0):R3 l=some (l.take (nmX l),l.drop (nmX l)):=by unfold R3; rw [if_neg h]
theorem qualE_0 {l:List UInt8} (h:nmX l=0):G5 l=none:=by unfold G5; rw [nameE_0 h]
theorem qualE_no {l:List UInt8} (h:nmX l≠0) (h2:¬ [58].isPrefixOf (l.drop (nmX l))=true):G5 l=some (⟨[],l.take (nmX l),false⟩,l.drop (nmX l)):=by unfold G5; rw [nameE_s h]; dsimp only; rw [if_neg h2]
theorem qualE_yes {l:List UInt8} (h:nmX l≠0) (h2:[58].isPrefixOf (l.drop (nmX l))=true):G5 l=(R3 ((l.drop (nmX l)).drop 1)).map fun x=>(⟨l.take (nmX l),x.1,true⟩,x.2):=by unfold G5; rw [nameE_s h]; dsimp only; rw [if_pos h2]
theorem take_nm {l:List UInt8}:(l.take (nmX l)=[]) ↔ nmX l=0:=by
 have h1:=nm_le l
 constructor
 intro h
 have:=congrArg List.length h
 rw [List.length_take,List.length_nil] at this; omega
 intro h; rw [h,List.take_zero]
end Go.Xml
namespace Go.Proofs.YtcgmnagcgkhogabGreatDoor
open Go.Sw Go.Sha Go.Esc Go.RowKit Go.Json Go.Xml
abbrev Y2 (t:Nat) (l:List UInt8) (z:Int):Grp:=[(t,.cells #[.string (bk l),.int .i64 z] 53 (0,0))]
theorem toNatT (i k:Nat):Int.toNat ((i:Int)+(k:Int))=i+k:=by omega
theorem ws_iffT {b:UInt8}:wsB b=true ↔ (b.toNat:Int)=32∨(b.toNat:Int)=9∨(b.toNat:Int)=10∨(b.toNat:Int)=13:=by
 unfold wsB
 simp only [Bool.or_eq_true,beq_iff_eq]
 have h1:(b.toNat:Int)=32 ↔ b=32:=u8_iff (n:=32) (by decide)
 have h2:(b.toNat:Int)=9 ↔ b=9:=u8_iff (n:=9) (by decide)
 have h3:(b.toNat:Int)=10 ↔ b=10:=u8_iff (n:=10) (by decide)
 have h4:(b.toNat:Int)=13 ↔ b=13:=u8_iff (n:=13) (by decide)
 rw [h1,h2,h3,h4]
 constructor
 rintro (((h | h) | h) | h)
 exact .inl h
 exact .inr (.inl h)
 exact .inr (.inr (.inl h))
 exact .inr (.inr (.inr h))
 rintro (h | h | h | h)
 exact .inl (.inl (.inl h))
 exact .inl (.inl (.inr h))
 exact .inl (.inr h)
 exact .inr h
theorem ext_midT (l:List UInt8) (i j:Nat):(bk l).extract i j=bk ((l.drop i).take (j - i)):=ByteArray.ext (Array.ext' (ext_list (bk l) i j))
theorem rTlooks_ (t:Nat) (l:List UInt8) (i:Nat) (hl:l.length≤1000000) (hi:i≤l.length) (w:List UInt8) (hw0:w.length≤100) (W0:World) (H:List Grp):Tri Tryz.prog 20 #[pt t,.string (bk w)] W0 ([(t,.cells #[.string (bk l),.int .i64 ((i:Nat):Int)] 53 (0,0))]::H) (fun v H'=>v=.bool (w.isPrefixOf (l.drop i))∧H'=([(t,.cells #[.string (bk l),.int .i64 ((i:Nat):Int)] 53 (0,0))]::H)):=by
 have hbz:=C9 l
 have hwz:=C9 w
 refine D5 38 Tryz.func20 ?_
 refine A1 (C3 (E':=[⟨0,[],pt t⟩,⟨1,[],.string (bk w)⟩]) [0] [0,1] (k:=A0 (A1 (H5 (k:=A3 (j:=3) [0,0,0] (k:=C1 0 0 rfl rfl (A3 (j:=8) [0,0,0,0] (k:=C1 0 1 rfl rfl ?_))))))))
 refine A3 (j:=10) [0] (k:=D1 14 (((bk l).size:Int) - ((i:Nat):Int)) (by omega) (by omega) kr (A3 (j:=17) [0,0,0,0,0,0,0] (k:=C2 (ch:=[(18,true)]) (b:=t) (off:=0) (v:=.string (bk l)) (hA:=At.grp 0 0 rfl rfl) (k:=A3 (j:=21) [0,0,0] (k:=C2 (ch:=[(18,true)]) (b:=t) (off:=1) (v:=.int .i64 ((i:Nat):Int)) (hA:=At.grp 0 0 rfl rfl) (k:=A3 (j:=25) [0,0,0] (k:=C2 (ch:=[(18,true)]) (b:=t) (off:=1) (v:=.int .i64 ((i:Nat):Int)) (hA:=At.grp 0 0 rfl rfl) (k:=?_))))))))
 have hw2:IntKind.wrap .i64 (((i:Nat):Int)+((bk w).size:Int))=((i:Nat):Int)+((bk w).size:Int):=w64 (by omega) (by omega)
 refine A3 (j:=29) [0,0,0] (k:=N7 33 [(18,true)] (x:=.int .i64 (IntKind.wrap .i64 (((i:Nat):Int)+((bk w).size:Int)))) (y:=.int .i64 (((i:Nat):Int)+((bk w).size:Int))) (by simp only [hw2]) (X5 (ch:=[(18,true)]) (s:=(bk l)) (vl:=(some (.int .i64 ((i:Nat):Int)))) (vh:=(some (.int .i64 (((i:Nat):Int)+((bk w).size:Int))))) (l:=((i:Nat):Int)) (h:=((i:Nat):Int)+((bk w).size:Int)) (hb:=(fun hc=>by have hg0:=Q9 (t:=18) (c:=[]) (b:=decide ((((bk l).size:Int) - ((i:Nat):Int)) ≥ ((bk w).size:Int))) hc kr; (try simp at hg0); omega)) (k:=N7 34 [(18,true)] (x:=.string ((bk l).extract i (Int.toNat (((i:Nat):Int)+((bk w).size:Int))))) (y:=.string (bk ((l.drop i).take w.length))) (by rw [toNatT,ext_midT,Nat.add_sub_cancel_left,C9]) (A5 [0,0,6,0] [4] (k:=A0 (B4 (B7 [.tmp 4] [.bool ((decide ((((bk l).size:Int) - ((i:Nat):Int)) ≥ ((bk w).size:Int)))&&((bk ((l.drop i).take w.length)).toList==(bk w).toList))] (k:=?_))))))))
 exact ⟨congrArg Value.bool (by rw [← looks_eq hi,C9,C9]),rfl⟩
theorem R9 (t:Nat) (l:List UInt8) (i:Nat) (hl:l.length≤1000000) (hi:i≤l.length) (w:List UInt8) (hw0:w.length≤100) (W0:World) (H:List Grp):Tri Tryz.prog 22 #[pt t,.string (bk w)] W0 ([(t,.cells #[.string (bk l),.int .i64 ((i:Nat):Int)] 53 (0,0))]::H) (fun v H'=>(w.isPrefixOf (l.drop i)=true∧i+w.length≤l.length∧v=.bool true∧H'=([(t,.cells #[.string (bk l),.int .i64 ((i+w.length:Nat):Int)] 53 (0,0))]::H))∨(w.isPrefixOf (l.drop i)=false∧v=.bool false∧H'=([(t,.cells #[.string (bk l),.int .i64 ((i:Nat):Int)] 53 (0,0))]::H))):=by
 have hwz:=C9 w
 refine D5 18 Tryz.func22 ?_
 refine A1 (C3 (E':=[⟨0,[],pt t⟩,⟨1,[],.string (bk w)⟩]) [0] [0,1] (k:=A0 (A1 (A1 (A2 (A3 (j:=2) [0,0] (k:=D9 Tryz.func20 (rTlooks_ t l i hl (by omega) w hw0 _ _) ?_)))))))
 rintro _ _ ⟨rfl,rfl⟩
 refine A5 [0] [0,1,8] (k:=A0 (B1 (b:=!(w.isPrefixOf (l.drop i))) kr (fun hc1=>?_) (fun hc1=>?_)))
 have hno:w.isPrefixOf (l.drop i)=false:=by simpa using hc1
 refine A1 (C3 (E':=[⟨4,[],.bool false⟩]) [0] [4] (k:=A0 (B4 (A4 (B7 [.tmp 4] [.bool false] (k:=?_))))))
 exact .inr ⟨hno,rfl,rfl⟩
 have hyes:w.isPrefixOf (l.drop i)=true:=by simpa using hc1
 have hle:=drop_pre hyes hi
 refine A7 (A0 (A1 (A2 (A3 (j:=3) [0,0,0] (k:=C1 0 1 rfl rfl ?_)))))
 have hw2:IntKind.wrap .i64 (((i:Nat):Int)+((bk w).size:Int))=((i:Nat):Int)+((bk w).size:Int):=w64 (by omega) (by omega)
 refine A3 (j:=7) [0,0,0] (k:=E3 15 (x:=.int .i64 (IntKind.wrap .i64 (((i:Nat):Int)+((bk w).size:Int)))) (y:=.int .i64 (((i:Nat):Int)+((bk w).size:Int))) (by simp only [hw2]) (E3 15 (x:=.int .i64 (((i:Nat):Int)+((bk w).size:Int))) (y:=.int .i64 ((i+w.length:Nat):Int)) (by rw [C9]; rfl) (A3 (j:=9) [0,0] (k:=D0 0 1 (.int .i64 ((i+w.length:Nat):Int)) rfl (C0 (E':=[]) [] [] (k:=A0 (A1 (C3 (E':=[⟨4,[],.bool true⟩]) [0] [4] (k:=?_)))))))))
 refine A0 (B4 (B7 [.tmp 4] [.bool true] (k:=?_)))
 exact .inl ⟨hyes,hle,rfl,rfl⟩
theorem rTblanks_ (t:Nat) (l:List UInt8) (i:Nat) (hl:l.length≤1000000) (hi:i≤l.length) (W0:World) (H:List Grp):Tri Tryz.prog 44 #[pt t] W0 ([(t,.cells #[.string (bk l),.int .i64 ((i:Nat):Int)] 53 (0,0))]::H) (fun v H'=>∃ j,l.drop j=blk (l.drop i)∧i≤j∧j≤l.length∧v=.int .i64 ((j:Int) - (i:Int))∧H'=Y2 t l (j:Int)::H):=by
 have hbz:=C9 l
 refine D5 79 Tryz.func44 ?_
 refine A1 (C3 (E':=[⟨0,[],pt t⟩]) [0] [0] (k:=A0 (A1 (A2 (A3 (j:=3) [0,0,0] (k:=C1 0 1 rfl rfl (A5 [0] [0,3] (k:=A0 ?_))))))))
 refine A1 (B3 (I6 (EI:=(fun ξ:Nat=>[⟨0,[],pt t⟩,⟨3,[],.int .i64 ((i:Nat):Int)⟩])) (HI:=(fun ξ:Nat=>([(t,.cells #[.string (bk l),.int .i64 ((ξ:Nat):Int)] 53 (0,0))]::H))) (Φ:=(fun ξ:Nat=>(i≤ξ)∧(ξ≤l.length)∧(blk (l.drop ξ)=blk (l.drop i)))) (μ:=(fun ξ:Nat=>l.length - ξ)) (s0:=(i)) [0,3] kr rfl ⟨(Nat.le_refl _),hi,rfl⟩ ?_))
 rintro j ⟨hij,hj,hT⟩
 refine A1 (A1 (H5 (k:=A3 (j:=3) [0,0,0] (k:=C1 0 1 rfl rfl (A3 (j:=7) [0,0,0] (k:=C1 0 0 rfl rfl (A3 (j:=14) [0,0,0,0,0,0] (k:=C2 (ch:=[(18,true)]) (b:=t) (off:=0) (v:=.string (bk l)) (hA:=At.grp 0 0 rfl rfl) (k:=?_)))))))))
 refine A3 (j:=18) [0,0,0] (k:=C2 (ch:=[(18,true)]) (b:=t) (off:=1) (v:=.int .i64 ((j:Nat):Int)) (hA:=At.grp 0 0 rfl rfl) (k:=P4 (ch:=[(18,true)]) (s:=(bk l)) (kd:=.i64) (j:=((j:Nat):Int)) (hb:=(fun hc=>by have hg0:=Q9 (t:=18) (c:=[]) (b:=decide (((j:Nat):Int)<((bk l).size:Int))) hc kr; (try simp at hg0); omega)) (k:=?_)))
 have hb1:=E5 (bk l) ((j:Nat):Int)
 refine A3 (j:=25) [0,0,0,0,0] (k:=C2 (ch:=[(29,false),(18,true)]) (b:=t) (off:=0) (v:=.string (bk l)) (hA:=At.grp 0 0 rfl rfl) (k:=A3 (j:=29) [0,0,0] (k:=C2 (ch:=[(29,false),(18,true)]) (b:=t) (off:=1) (v:=.int .i64 ((j:Nat):Int)) (hA:=At.grp 0 0 rfl rfl) (k:=P4 (ch:=[(29,false),(18,true)]) (s:=(bk l)) (kd:=.i64) (j:=((j:Nat):Int)) (hb:=(fun hc=>by have hg0:=Q9 (t:=29) (c:=[(18,true)]) (b:=(B2 (bk l) ((j:Nat):Int))==32) hc kr; have hg1:=Q9 (t:=18) (c:=[]) (b:=decide (((j:Nat):Int)<((bk l).size:Int))) (chB_tl hc) kr; (try simp at hg0 hg1); omega)) (k:=?_)))))
 have hb2:=E5 (bk l) ((j:Nat):Int)
 refine A3 (j:=37) [0,5,0,0,0,0] (k:=C2 (ch:=[(41,false),(18,true)]) (b:=t) (off:=0) (v:=.string (bk l)) (hA:=At.grp 0 0 rfl rfl) (k:=A3 (j:=41) [0,0,0] (k:=C2 (ch:=[(41,false),(18,true)]) (b:=t) (off:=1) (v:=.int .i64 ((j:Nat):Int)) (hA:=At.grp 0 0 rfl rfl) (k:=P4 (ch:=[(41,false),(18,true)]) (s:=(bk l)) (kd:=.i64) (j:=((j:Nat):Int)) (hb:=(fun hc=>by have hg0:=Q9 (t:=41) (c:=[(18,true)]) (b:=((B2 (bk l) ((j:Nat):Int))==32)||((B2 (bk l) ((j:Nat):Int))==9)) hc kr; have hg1:=Q9 (t:=18) (c:=[]) (b:=decide (((j:Nat):Int)<((bk l).size:Int))) (chB_tl hc) kr; (try simp at hg0 hg1); omega)) (k:=?_)))))
 have hb3:=E5 (bk l) ((j:Nat):Int)
 refine A3 (j:=49) [0,5,0,0,0,0] (k:=C2 (ch:=[(53,false),(18,true)]) (b:=t) (off:=0) (v:=.string (bk l)) (hA:=At.grp 0 0 rfl rfl) (k:=A3 (j:=53) [0,0,0] (k:=C2 (ch:=[(53,false),(18,true)]) (b:=t) (off:=1) (v:=.int .i64 ((j:Nat):Int)) (hA:=At.grp 0 0 rfl rfl) (k:=P4 (ch:=[(53,false),(18,true)]) (s:=(bk l)) (kd:=.i64) (j:=((j:Nat):Int)) (hb:=(fun hc=>by have hg0:=Q9 (t:=53) (c:=[(18,true)]) (b:=(((B2 (bk l) ((j:Nat):Int))==32)||((B2 (bk l) ((j:Nat):Int))==9))||((B2 (bk l) ((j:Nat):Int))==10)) hc kr; have hg1:=Q9 (t:=18) (c:=[]) (b:=decide (((j:Nat):Int)<((bk l).size:Int))) (chB_tl hc) kr; (try simp at hg0 hg1); omega)) (k:=?_)))))
 have hb4:=E5 (bk l) ((j:Nat):Int)
 refine A5 [0,5,6] [0,3,65] (k:=A0 (B1 (b:=(decide (((j:Nat):Int)<((bk l).size:Int)))&&(((((B2 (bk l) ((j:Nat):Int))==32)||((B2 (bk l) ((j:Nat):Int))==9))||((B2 (bk l) ((j:Nat):Int))==10))||((B2 (bk l) ((j:Nat):Int))==13))) kr (fun hc5=>?_) (fun hc5=>?_)))
 simp only [Bool.and_eq_true,Bool.or_eq_true,decide_eq_true_eq,beq_iff_eq,byteJ] at hc5
 have hw:wsB (l.getD j 0)=true:=ws_iffT.2 (by omega)
 refine A7 (A0 (B3 (A2 (A3 (j:=3) [0,0,0] (k:=C1 0 1 rfl rfl (A3 (j:=5) [0] (k:=D1 70 (((j:Nat):Int)+1) (by omega) (by omega) kr (A3 (j:=7) [0,0] (k:=?_)))))))))
 refine D0 0 1 (.int .i64 (((j:Nat):Int)+1)) rfl (A5 [] [0,3] (k:=B8 (D2 (s':=(j+1)) [0,3] kr kr ⟨(by omega),(by omega),((blk_yes (by omega) hw).symm.trans hT)⟩ (by omega))))
 simp only [Bool.and_eq_false_iff,Bool.or_eq_false_iff,decide_eq_false_iff_not,beq_eq_false_iff_ne,ne_eq,byteJ] at hc5
 have hw:l.length≤j∨wsB (l.getD j 0)=false:=by
  rcases Nat.lt_or_ge j l.length with h | h
  right; rw [← Bool.not_eq_true]; intro hn; have:=ws_iffT.1 hn; omega
  exact .inl h
 refine E7 (A6 (A6 (B6 (A0 (A1 (A2 (A3 (j:=3) [0,0,0] (k:=C1 0 1 rfl rfl ?_))))))))
 refine A3 (j:=6) [0,0] (k:=D1 78 (((j:Nat):Int) - ((i:Nat):Int)) (by omega) (by omega) kr (A5 [0] [2] (k:=A0 (B4 (B7 [.tmp 2] [.int .i64 (((j:Nat):Int) - ((i:Nat):Int))] (k:=?_))))))
 exact ⟨j,(blk_no hw).symm.trans hT,hij,hj,rfl,rfl⟩
theorem rTto_ (t:Nat) (l:List UInt8) (i:Nat) (hl:l.length≤1000000) (hi:i≤l.length) (w:List UInt8) (hw0:w.length≤100) (hwn:w≠[]) (W0:World) (H:List Grp):Tri Tryz.prog 76 #[pt t,.string (bk w)] W0 ([(t,.cells #[.string (bk l),.int .i64 ((i:Nat):Int)] 53 (0,0))]::H) (fun v H'=>(∃ k,idxL w (l.drop i)=some k∧i+k+w.length≤l.length∧v=.tuple #[.string (bk ((l.drop i).take k)),.bool true]∧H'=([(t,.cells #[.string (bk l),.int .i64 ((i+k+w.length:Nat):Int)] 53 (0,0))]::H))∨(idxL w (l.drop i)=none∧v=.tuple #[.string eB,.bool false]∧H'=([(t,.cells #[.string (bk l),.int .i64 ((l.length:Nat):Int)] 53 (0,0))]::H))):=by
 have hbz:=C9 l
 have hwz:=C9 w
 refine D5 60 Tryz.func76 ?_
 refine A1 (C3 (E':=[⟨0,[],pt t⟩,⟨1,[],.string (bk w)⟩]) [0,0] [0,1] (k:=A0 (A1 (A2 (A3 (j:=3) [0,0,0] (k:=C1 0 1 rfl rfl (A5 [0] [0,1,6] (k:=A0 ?_))))))))
 refine A1 (B3 (I6 (EI:=(fun ξ:Nat=>[⟨0,[],pt t⟩,⟨1,[],.string (bk w)⟩,⟨6,[],.int .i64 ((i:Nat):Int)⟩])) (HI:=(fun ξ:Nat=>([(t,.cells #[.string (bk l),.int .i64 ((ξ:Nat):Int)] 53 (0,0))]::H))) (Φ:=(fun ξ:Nat=>(i≤ξ)∧(ToI w l i ξ))) (μ:=(fun ξ:Nat=>l.length+1 - ξ)) (s0:=(i)) [0,1,6] kr rfl ⟨(Nat.le_refl _),(toI_0 hi)⟩ ?_))
 rintro j ⟨hij,hT⟩
 refine A1 (A1 (H5 (k:=A3 (j:=3) [0,0,0] (k:=C1 0 1 rfl rfl (A3 (j:=7) [0,0,0] (k:=C1 0 0 rfl rfl (A5 [0,0] [0,1,6,21] (k:=A0 ?_))))))))
 refine B1 (b:=decide (((j:Nat):Int)≤((bk l).size:Int))) kr (fun hc1=>?_) (fun hc1=>?_)
 simp only [decide_eq_true_eq] at hc1
 have hjl:j≤l.length:=by omega
 refine A7 (A0 (B3 (A1 (A1 (A2 (A3 (j:=2) [0,0] (k:=D9 Tryz.func20 (rTlooks_ t l j hl hjl w hw0 _ _) ?_)))))))
 rintro _ _ ⟨rfl,rfl⟩
 refine A5 [] [0,1,6,24] (k:=A0 (B1 (b:=(w.isPrefixOf (l.drop j))) kr (fun hc2=>?_) (fun hc2=>?_)))
 have hyes:w.isPrefixOf (l.drop j)=true:=hc2
 have hle:=drop_pre hyes hjl
 have hsome:=toI_yes hT hjl hyes
 obtain ⟨k,hk⟩:∃ k,j=i+k:=⟨j - i,by omega⟩
 rw [hk,Nat.add_sub_cancel_left] at hsome
 refine A1 (H5 (k:=A3 (j:=3) [0,0,0] (k:=C1 0 0 rfl rfl (A3 (j:=8) [0,0,0,0] (k:=C1 0 1 rfl rfl (M8 (bk l) ((i:Nat):Int) ((j:Nat):Int) (by (try intro _); (repeat' apply And.intro) <;> omega) (E3 34 (x:=.string ((bk l).extract i j)) (y:=.string (bk ((l.drop i).take k))) (by rw [ext_midT,hk,Nat.add_sub_cancel_left]) (A5 [0] [0,1,7] (k:=?_)))))))))
 refine A0 (A1 (A2 (A3 (j:=3) [0,0,0] (k:=C1 0 1 rfl rfl ?_))))
 have hw3:IntKind.wrap .i64 (((j:Nat):Int)+((bk w).size:Int))=((j:Nat):Int)+((bk w).size:Int):=w64 (by omega) (by omega)
 refine A3 (j:=7) [0,0,0] (k:=E3 41 (x:=.int .i64 (IntKind.wrap .i64 (((j:Nat):Int)+((bk w).size:Int)))) (y:=.int .i64 (((j:Nat):Int)+((bk w).size:Int))) (by simp only [hw3]) (E3 41 (x:=.int .i64 (((j:Nat):Int)+((bk w).size:Int))) (y:=.int .i64 ((i+k+w.length:Nat):Int)) (by rw [C9,hk]; rfl) (A3 (j:=9) [0,0] (k:=D0 0 1 (.int .i64 ((i+k+w.length:Nat):Int)) rfl (A5 [] [7] (k:=A0 (A1 (G_p [0,0,0] [4,5] (k:=?_)))))))))
 refine A0 (B4 (A4 (B0 (A4 (B0 (A4 (B7 [.tmp 4,.tmp 5] [.string (bk ((l.drop i).take k)),.bool true] (k:=?_))))))))
 exact .inl ⟨k,hsome,hk ▸ hle,rfl,rfl⟩
 have hno:¬ w.isPrefixOf (l.drop j)=true:=by rw [hc2]; decide
 refine A7 (A0 (A2 (A3 (j:=3) [0,0,0] (k:=C1 0 1 rfl rfl (A3 (j:=5) [0] (k:=D1 49 (((j:Nat):Int)+1) (by omega) (by omega) kr (A3 (j:=7) [0,0] (k:=D0 0 1 (.int .i64 (((j:Nat):Int)+1)) rfl ?_))))))))
 refine A5 [] [0,1,6] (k:=B8 (D2 (s':=(j+1)) [0,1,6] kr kr ⟨(by omega),(toI_s hij hT hjl hwn hno)⟩ (by omega)))
 simp only [decide_eq_false_iff_not] at hc1
 have hnone:=toI_no hT (by omega)
 refine E7 (A6 (A6 (B6 (A0 (A1 (A2 (A3 (j:=4) [0,0,0,0] (k:=C1 0 0 rfl rfl ?_))))))))
 refine A3 (j:=8) [0,0,0] (k:=D0 0 1 (.int .i64 ((bk l).size:Int)) rfl (C0 (E':=[]) [] [] (k:=A0 (A1 (G_p [0,0] [4,5] (k:=A0 (B4 (B7 [.tmp 4,.tmp 5] [.string eB,.bool false] (k:=?_)))))))))
 exact .inr ⟨hnone,rfl,rfl⟩
theorem rTname_ (t:Nat) (l:List UInt8) (i:Nat) (hl:l.length≤1000000) (hi:i≤l.length) (W0:World) (H:List Grp):Tri Tryz.prog 77 #[pt t] W0 ([(t,.cells #[.string (bk l),.int .i64 ((i:Nat):Int)] 53 (0,0))]::H) (fun v H'=>v=.string (bk ((l.drop i).take (nmX (l.drop i))))∧i+nmX (l.drop i)≤l.length∧H'=([(t,.cells #[.string (bk l),.int .i64 ((i+nmX (l.drop i):Nat):Int)] 53 (0,0))]::H)):=by
 have hbz:=C9 l
 refine D5 53 Tryz.func77 ?_
 refine A1 (C3 (E':=[⟨0,[],pt t⟩]) [0] [0] (k:=A0 (A1 (A2 (A3 (j:=3) [0,0,0] (k:=C1 0 1 rfl rfl (A5 [0] [0,3] (k:=A0 ?_))))))))
 refine A1 (B3 (I6 (EI:=(fun ξ:Nat=>[⟨0,[],pt t⟩,⟨3,[],.int .i64 ((i:Nat):Int)⟩])) (HI:=(fun ξ:Nat=>([(t,.cells #[.string (bk l),.int .i64 ((ξ:Nat):Int)] 53 (0,0))]::H))) (Φ:=(fun ξ:Nat=>(i≤ξ)∧(ξ≤l.length)∧(NmAt (l.drop i) (ξ - i)))) (μ:=(fun ξ:Nat=>l.length - ξ)) (s0:=(i)) [0,3] kr rfl ⟨(Nat.le_refl _),hi,(.inl (Nat.sub_self _))⟩ ?_))
 rintro j ⟨hij,hj,hN⟩
 obtain ⟨b,hb⟩:∃ b:UInt8,b=l.getD j 0:=⟨_,rfl⟩
 have hbyte:B2 (bk l) (j:Int)=(b.toNat:Int):=by rw [byteJ,hb]
 refine A1 (A1 (H5 (k:=A3 (j:=3) [0,0,0] (k:=C1 0 1 rfl rfl (A3 (j:=7) [0,0,0] (k:=C1 0 0 rfl rfl (A3 (j:=14) [0,0,0,0,0,0] (k:=C2 (ch:=[(18,true)]) (b:=t) (off:=0) (v:=.string (bk l)) (hA:=At.grp 0 0 rfl rfl) (k:=?_)))))))))
 refine A3 (j:=18) [0,0,0] (k:=C2 (ch:=[(18,true)]) (b:=t) (off:=1) (v:=.int .i64 ((j:Nat):Int)) (hA:=At.grp 0 0 rfl rfl) (k:=P4 (ch:=[(18,true)]) (s:=(bk l)) (kd:=.i64) (j:=((j:Nat):Int)) (hb:=(fun hc=>by have hg0:=Q9 (t:=18) (c:=[]) (b:=decide (((j:Nat):Int)<((bk l).size:Int))) hc kr; (try simp at hg0); omega)) (k:=?_)))
 have hb1:=E5 (bk l) ((j:Nat):Int)
 refine N7 27 [(18,true)] (x:=.int .u8 (B2 (bk l) ((j:Nat):Int))) (y:=.int .u8 (b.toNat:Int)) (by rw [hbyte]) (A3 (j:=23) [0,0,0] (k:=C2 (ch:=[(18,true)]) (b:=t) (off:=1) (v:=.int .i64 ((j:Nat):Int)) (hA:=At.grp 0 0 rfl rfl) (k:=A3 (j:=26) [0,0] (k:=P7 [(18,true)] Tryz.func98 (fun hc=>rletter_ b (((j:Nat):Int)==((i:Nat):Int)) _ _) (A5 [6] [0,3,35] (k:=A0 (B1 (b:=(decide (((j:Nat):Int)<((bk l).size:Int)))&&(ltX (((j:Nat):Int)==((i:Nat):Int)) b)) kr (fun hc2=>?_) (fun hc2=>?_))))))))
 have h9:=hc2
 simp only [Bool.and_eq_true,decide_eq_true_eq] at h9
 have hjl:j<l.length:=by omega
 have hlt:=h9.2
 refine A7 (A0 (B3 (A2 (A3 (j:=3) [0,0,0] (k:=C1 0 1 rfl rfl (A3 (j:=5) [0] (k:=D1 40 (((j:Nat):Int)+1) (by omega) (by omega) kr (A3 (j:=7) [0,0] (k:=?_)))))))))
 refine D0 0 1 (.int .i64 (((j:Nat):Int)+1)) rfl (A5 [] [0,3] (k:=B8 (D2 (s':=(j+1)) [0,3] kr kr ⟨(by omega),(by omega),(nmj_step hN hij hjl hb hlt)⟩ (by omega))))
 have h9:=hc2
 simp only [Bool.and_eq_false_iff,decide_eq_false_iff_not] at h9
 have hst:nmX (l.drop i)=j - i:=by
  rcases Nat.lt_or_ge j l.length with hjl | hjl
  exact nmj_stop hN hij hjl hb (h9.resolve_left (fun h=>by omega))
  exact nmj_end hN hij (by omega)
 refine E7 (A6 (A6 (B6 (A0 (A1 (H5 (k:=A3 (j:=3) [0,0,0] (k:=C1 0 0 rfl rfl ?_))))))))
 refine A3 (j:=8) [0,0,0,0] (k:=C1 0 1 rfl rfl (M8 (bk l) ((i:Nat):Int) ((j:Nat):Int) (by (try intro _); (repeat' apply And.intro) <;> omega) (E3 52 (x:=.string ((bk l).extract i j)) (y:=.string (bk ((l.drop i).take (nmX (l.drop i))))) (by rw [ext_midT,← hst]) (A5 [0] [2] (k:=A0 (B4 (B7 [.tmp 2] [.string (bk ((l.drop i).take (nmX (l.drop i))))] (k:=?_))))))))
 have hjj:j=i+nmX (l.drop i):=by omega
 rw [← hjj]
 exact ⟨rfl,hj,rfl⟩
end Go.Proofs.YtcgmnagcgkhogabGreatDoor
namespace Go.Proofs.YtcgmnagcgkhogabGreatDoor
open Go.Sw Go.Sha Go.Esc Go.RowKit Go.Json Go.Xml
theorem ne_nm {l:List UInt8}:(!((bk (l.take (nmX l))).toList==eB.toList))=!decide (nmX l=0):=by
 rw [bkN,Bool.eq_iff_iff]
 simp only [Bool.not_eq_true',beq_eq_false_iff_ne,decide_eq_false_iff_not,ne_eq,take_nm]
theorem mark_0 {l:List UInt8} (h:nmX l=0):(!((bk (l.take (nmX l))).toList==eB.toList))=(G5 l).isSome:=by rw [ne_nm,qualE_0 h,h]; rfl
theorem mark_1 {l:List UInt8} (h:nmX l≠0) (h2:[58].isPrefixOf (l.drop (nmX l))=false):(!((bk (l.take (nmX l))).toList==eB.toList))=(G5 l).isSome:=by rw [ne_nm,qualE_no h (by rw [h2]; decide),decide_eq_false h]; rfl
theorem mark_2 {l:List UInt8} (h:nmX l≠0) (h2:[58].isPrefixOf (l.drop (nmX l))=true):(!((bk (((l.drop (nmX l)).drop 1).take (nmX ((l.drop (nmX l)).drop 1)))).toList==eB.toList))=(G5 l).isSome:=by
 rw [ne_nm,qualE_yes h h2]
 by_cases h3:nmX ((l.drop (nmX l)).drop 1)=0
 rw [nameE_0 h3,h3]; rfl
 rw [nameE_s h3,decide_eq_false h3]; rfl
theorem mark_2v {l:List UInt8} (h:nmX l≠0) (h2:[58].isPrefixOf (l.drop (nmX l))=true) (x:QN × List UInt8) (hx:G5 l=some x):x=(⟨l.take (nmX l),((l.drop (nmX l)).drop 1).take (nmX ((l.drop (nmX l)).drop 1)),true⟩,((l.drop (nmX l)).drop 1).drop (nmX ((l.drop (nmX l)).drop 1))):=by
 rw [qualE_yes h h2] at hx
 by_cases h3:nmX ((l.drop (nmX l)).drop 1)=0
 rw [nameE_0 h3] at hx; cases hx
 rw [nameE_s h3] at hx; injection hx with hx; exact hx.symm
theorem as_0 {l:List UInt8}:J9 l=if [60,33,45,45].isPrefixOf l then ((L2 [45,45] (l.drop 4)).bind fun x=>O7 [62] x.2).map some else if [60,63].isPrefixOf l then ((R3 (l.drop 2)).bind fun x=>L2 [63,62] x.2).map fun x=>some x.2 else some none:=rfl
theorem as_1e {l:List UInt8} {i:Nat} (h1:[60,33,45,45].isPrefixOf (l.drop i)=true) (h:idxL [45,45] (l.drop (i+4))=none):J9 (l.drop i)=none:=by
 rw [as_0,if_pos h1,List.drop_drop]; unfold L2; rw [h]; rfl
theorem as_1u {l:List UInt8} {i k:Nat} (h1:[60,33,45,45].isPrefixOf (l.drop i)=true) (h:idxL [45,45] (l.drop (i+4))=some k):J9 (l.drop i)=(O7 [62] (l.drop (i+4+k+2))).map some:=by
 rw [as_0,if_pos h1,List.drop_drop]; unfold L2; rw [h]
 show (O7 [62] ((l.drop (i+4)).drop (k+2))).map some=_
 rw [List.drop_drop]; congr 3
theorem as_1 {l:List UInt8} {i k:Nat} (h1:[60,33,45,45].isPrefixOf (l.drop i)=true) (h:idxL [45,45] (l.drop (i+4))=some k) (h2:[62].isPrefixOf (l.drop (i+4+k+2))=true):J9 (l.drop i)=some (some (l.drop (i+4+k+2+1))):=by
 rw [as_1u h1 h]; unfold O7; rw [if_pos h2,List.drop_drop]; rfl
theorem as_1n {l:List UInt8} {i k:Nat} (h1:[60,33,45,45].isPrefixOf (l.drop i)=true) (h:idxL [45,45] (l.drop (i+4))=some k) (h2:[62].isPrefixOf (l.drop (i+4+k+2))=false):J9 (l.drop i)=none:=by
 rw [as_1u h1 h]; unfold O7; rw [if_neg (by rw [h2]; decide)]; rfl
theorem as_2z {l:List UInt8} {i:Nat} (h1:[60,33,45,45].isPrefixOf (l.drop i)=false) (h2:[60,63].isPrefixOf (l.drop i)=true) (h:nmX (l.drop (i+2))=0):J9 (l.drop i)=none:=by
 rw [as_0,if_neg (by rw [h1]; decide),if_pos h2,List.drop_drop,nameE_0 h]; rfl
theorem as_2u {l:List UInt8} {i:Nat} (h1:[60,33,45,45].isPrefixOf (l.drop i)=false) (h2:[60,63].isPrefixOf (l.drop i)=true) (h:¬ nmX (l.drop (i+2))=0):J9 (l.drop i)=(L2 [63,62] (l.drop (i+2+nmX (l.drop (i+2))))).map fun x=>some x.2:=by
 rw [as_0,if_neg (by rw [h1]; decide),if_pos h2,List.drop_drop,nameE_s h]
 show (L2 [63,62] ((l.drop (i+2)).drop _)).map _=_
 rw [List.drop_drop]
theorem as_2 {l:List UInt8} {i k:Nat} (h1:[60,33,45,45].isPrefixOf (l.drop i)=false) (h2:[60,63].isPrefixOf (l.drop i)=true) (h:¬ nmX (l.drop (i+2))=0) (h3:idxL [63,62] (l.drop (i+2+nmX (l.drop (i+2))))=some k):J9 (l.drop i)=some (some (l.drop (i+2+nmX (l.drop (i+2))+k+2))):=by
 rw [as_2u h1 h2 h]; unfold L2; rw [h3]
 show some (some ((l.drop _).drop (k+2)))=_
 rw [List.drop_drop]; congr 3
theorem as_2e {l:List UInt8} {i:Nat} (h1:[60,33,45,45].isPrefixOf (l.drop i)=false) (h2:[60,63].isPrefixOf (l.drop i)=true) (h:¬ nmX (l.drop (i+2))=0) (h3:idxL [63,62] (l.drop (i+2+nmX (l.drop (i+2))))=none):J9 (l.drop i)=none:=by
 rw [as_2u h1 h2 h]; unfold L2; rw [h3]; rfl
theorem as_3 {l:List UInt8} {i:Nat} (h1:[60,33,45,45].isPrefixOf (l.drop i)=false) (h2:[60,63].isPrefixOf (l.drop i)=false):J9 (l.drop i)=some none:=by
 rw [as_0,if_neg (by rw [h1]; decide),if_neg (by rw [h2]; decide)]
theorem ar_yes {l:List UInt8} {f j k z:Nat} (hb:l.drop k=blk (l.drop j)) (h:J9 (l.drop k)=some (some (l.drop z))):I3 (f+1) (l.drop j)=I3 f (l.drop z):=by rw [I3,← hb,h]
theorem ar_no {l:List UInt8} {f j k:Nat} (hb:l.drop k=blk (l.drop j)) (h:J9 (l.drop k)=some none):I3 (f+1) (l.drop j)=some (l.drop k):=by rw [I3,← hb,h]
theorem ar_bad {l:List UInt8} {f j k:Nat} (hb:l.drop k=blk (l.drop j)) (h:J9 (l.drop k)=none):I3 (f+1) (l.drop j)=none:=by rw [I3,← hb,h]
theorem blk_blk (l:List UInt8):blk (blk l)=blk l:=by
 cases h:blk l with
 | nil=>rfl
 | cons b t=>unfold blk; rw [List.dropWhile_cons,blk_nows b t h]; rfl
theorem ar_same {l:List UInt8} {f j k:Nat} (hb:l.drop k=blk (l.drop j)):I3 (f+1) (l.drop j)=I3 (f+1) (l.drop k):=by rw [I3,I3,hb,blk_blk]
theorem rTmark_ (t:Nat) (l:List UInt8) (i:Nat) (hl:l.length≤1000000) (hi:i≤l.length) (W0:World) (H:List Grp):Tri Tryz.prog 46 #[pt t] W0 ([(t,.cells #[.string (bk l),.int .i64 ((i:Nat):Int)] 53 (0,0))]::H) (fun v H'=>∃ q j,i≤j∧j≤l.length∧v=.tuple #[.agg #[.string (bk q.pre),.string (bk q.name),.string eB,.bool q.has],.bool (G5 (l.drop i)).isSome]∧(∀ x,G5 (l.drop i)=some x→x=(q,l.drop j))∧H'=Y2 t l (j:Int)::H):=by
 have hbz:=C9 l
 refine D5 26 Tryz.func46 ?_
 refine A1 (A2 (J1 (.agg #[.string eB,.string eB,.string eB,.bool false]) (fun b1=>C0 (E':=[⟨0,[],pt t⟩,⟨2,[],pt b1⟩]) [0] [0,2] (k:=A0 (A1 (A2 (A3 (j:=1) [0] (k:=M1 0 [1] ?_))))))))
 refine D9 Tryz.func77 (rTname_ t l i hl (by omega) _ _) ?_
 rintro _ _ ⟨rfl,hn2,rfl⟩
 refine A3 (j:=3) [0] (k:=J1 (.agg #[.string eB,.string eB,.string eB,.bool false]) (fun b3=>D0 0 0 (.agg #[.string eB,.string (bk ((l.drop i).take (nmX (l.drop i)))),.string eB,.bool false]) rfl (A5 [] [0,2,4] (k:=A0 (A1 (A1 ?_))))))
 by_cases hn0:nmX (l.drop i)=0
 have hok:=mark_0 hn0
 refine A2 (A3 (j:=1) [0] (k:=C1 0 1 rfl rfl (A3 (j:=3) [0] (k:=E3 10 (x:=.bool (!((bk ((l.drop i).take (nmX (l.drop i)))).toList==eB.toList))) (y:=.bool false) (by rw [ne_nm,decide_eq_true hn0]; rfl) (A5 [0,1,1,3] [0,2,4,14] (k:=A0 (C5 kr (A7 ?_))))))))
 refine A0 (A1 (H4 ([(b3,.cells #[.string eB,.string (bk ((l.drop i).take (nmX (l.drop i)))),.string eB,.bool false] 85 (0,0))]::[(t,.cells #[.string (bk l),.int .i64 ((i+nmX (l.drop i):Nat):Int)] 53 (0,0))]::H) kr (F6 0 kr (fun w h=>(h.pkT 1 [0,0])) (M9 0 0 4 rfl (G6 kr rfl)) (G1 (fuel:=4) [(1,0)] (fun w h=>(h.pkT 1 [0,0])) (k:=F6 2 kr (fun w h=>(h.pkT 1 [0,0])) (C1 0 1 rfl rfl (G6 kr rfl)) (GH_pure (E':=[⟨25,[],.bool (!((bk ((l.drop i).take (nmX (l.drop i)))).toList==eB.toList))⟩,⟨22,[],.agg #[.string eB,.string (bk ((l.drop i).take (nmX (l.drop i)))),.string eB,.bool false]⟩,⟨2,[],pt b1⟩]) 3 0 kr (fun w h=>(h.pkT 1 [0,0])) kr (GH_env (E':=[⟨25,[],.bool ((G5 (l.drop i)).isSome)⟩,⟨22,[],.agg #[.string eB,.string (bk ((l.drop i).take (nmX (l.drop i)))),.string eB,.bool false]⟩,⟨2,[],pt b1⟩]) (by rw [hok]) (C6 4 (k:=?_)))))))))
 refine D0 2 0 (.agg #[.string eB,.string (bk ((l.drop i).take (nmX (l.drop i)))),.string eB,.bool false]) rfl (A9 kr (fun w h=>(h.pkT 1 [0,0])) (G1 (fuel:=0) [(5,0)] (fun w h=>(h.pkT 1 [0,0])) (k:=D8 (E':=[⟨2,[],pt b1⟩,⟨3,[],.bool ((G5 (l.drop i)).isSome)⟩]) [2,3] (k:=A0 (B4 (J7 [.cell 2 85,.tmp 3] [.agg #[.string eB,.string (bk ((l.drop i).take (nmX (l.drop i)))),.string eB,.bool false],.bool ((G5 (l.drop i)).isSome)] rfl (.cons (.aq 2 0 rfl) (.cons .tq (.nil))) rfl ⟨_,?_,fun w h=>(h.pk 2 [1])⟩))))))
 exact ⟨⟨[],(l.drop i).take (nmX (l.drop i)),false⟩,_,Nat.le_add_right _ _,by omega,rfl,fun x hx=>(by rw [qualE_0 hn0] at hx; cases hx),rfl⟩
 refine A2 (A3 (j:=1) [0] (k:=C1 0 1 rfl rfl (A3 (j:=3) [0] (k:=E3 10 (x:=.bool (!((bk ((l.drop i).take (nmX (l.drop i)))).toList==eB.toList))) (y:=.bool true) (by rw [ne_nm,decide_eq_false hn0]; rfl) (A3 (j:=5) [0,0] (k:=M1 0 [1] (Q2 (ch:=[(11,true)]) (f:=22) (fst:=#[]) (caps:=#[]) (vs:=[pt t,.string (mB #[58])]) (hf:=Tryz.func22) (hsure:=M3 kr) (hc:=R9 t l (i+nmX (l.drop i)) hl (by omega) [58] (Nat.le_of_ble_eq_true rfl) _ _) (k:=?_))))))))
 rintro _ _ (⟨hk4,hk4l,rfl,rfl⟩ | ⟨hk4,rfl,rfl⟩)
 have hk4:[58].isPrefixOf (l.drop (i+nmX (l.drop i)))=true:=hk4
 have hk4l:(i+nmX (l.drop i))+1≤l.length:=hk4l
 rw [← List.drop_drop] at hk4
 have hok:=mark_2 hn0 hk4
 have hqv:=mark_2v hn0 hk4
 have e9:((l.drop i).drop (nmX (l.drop i))).drop 1=l.drop (i+nmX (l.drop i)+1):=by rw [List.drop_drop,List.drop_drop]; congr 1
 rw [e9] at hok hqv
 rw [List.drop_drop] at hqv
 refine A5 [2] [0,2,4,14] (k:=A0 (B9 kr (A1 (A2 (A3 (j:=1) [0] (k:=C1 1 1 rfl rfl (A3 (j:=3) [0] (k:=D0 1 0 (.string (bk ((l.drop i).take (nmX (l.drop i))))) rfl ?_))))))))
 refine A5 [] [0,2,4] (k:=A0 (A1 (A2 (A3 (j:=1) [0] (k:=D0 1 3 (.bool true) rfl (A5 [] [0,2,4] (k:=A0 (A2 ?_))))))))
 refine A3 (j:=1) [0] (k:=D9 Tryz.func77 (rTname_ t l (i+nmX (l.drop i)+1) hl (by omega) _ _) ?_)
 rintro _ _ ⟨rfl,hn5,rfl⟩
 refine A3 (j:=3) [0] (k:=D0 1 1 (.string (bk ((l.drop (i+nmX (l.drop i)+1)).take (nmX (l.drop (i+nmX (l.drop i)+1)))))) rfl (C0 (E':=[⟨2,[],pt b1⟩,⟨4,[],pt b3⟩]) [] [2,4] (k:=A0 (A1 (H4 ([(t,.cells #[.string (bk l),.int .i64 ((i+nmX (l.drop i)+1+nmX (l.drop (i+nmX (l.drop i)+1)):Nat):Int)] 53 (0,0))]::[(b3,.cells #[.string (bk ((l.drop i).take (nmX (l.drop i)))),.string (bk ((l.drop (i+nmX (l.drop i)+1)).take (nmX (l.drop (i+nmX (l.drop i)+1))))),.string eB,.bool true] 85 (0,0))]::H) kr (F6 0 kr (fun w h=>(h.pkT 1 [0,0])) (M9 1 0 4 rfl (G6 kr rfl)) (G1 (fuel:=4) [(1,0)] (fun w h=>(h.pkT 1 [0,0])) (k:=F6 2 kr (fun w h=>(h.pkT 1 [0,0])) (C1 1 1 rfl rfl (G6 kr rfl)) ?_))))))))
 refine GH_pure (E':=[⟨25,[],.bool (!((bk ((l.drop (i+nmX (l.drop i)+1)).take (nmX (l.drop (i+nmX (l.drop i)+1))))).toList==eB.toList))⟩,⟨22,[],.agg #[.string (bk ((l.drop i).take (nmX (l.drop i)))),.string (bk ((l.drop (i+nmX (l.drop i)+1)).take (nmX (l.drop (i+nmX (l.drop i)+1))))),.string eB,.bool true]⟩,⟨2,[],pt b1⟩]) 3 0 kr (fun w h=>(h.pkT 1 [0,0])) kr (GH_env (E':=[⟨25,[],.bool ((G5 (l.drop i)).isSome)⟩,⟨22,[],.agg #[.string (bk ((l.drop i).take (nmX (l.drop i)))),.string (bk ((l.drop (i+nmX (l.drop i)+1)).take (nmX (l.drop (i+nmX (l.drop i)+1))))),.string eB,.bool true]⟩,⟨2,[],pt b1⟩]) (by rw [hok]) (C6 4 (k:=D0 2 0 (.agg #[.string (bk ((l.drop i).take (nmX (l.drop i)))),.string (bk ((l.drop (i+nmX (l.drop i)+1)).take (nmX (l.drop (i+nmX (l.drop i)+1))))),.string eB,.bool true]) rfl (A9 kr (fun w h=>(h.pkT 1 [0,0])) (G1 (fuel:=0) [(5,0)] (fun w h=>(h.pkT 1 [0,0])) (k:=D8 (E':=[⟨2,[],pt b1⟩,⟨3,[],.bool ((G5 (l.drop i)).isSome)⟩]) [2,3] (k:=A0 (B4 ?_))))))))
 refine J7 [.cell 2 85,.tmp 3] [.agg #[.string (bk ((l.drop i).take (nmX (l.drop i)))),.string (bk ((l.drop (i+nmX (l.drop i)+1)).take (nmX (l.drop (i+nmX (l.drop i)+1))))),.string eB,.bool true],.bool ((G5 (l.drop i)).isSome)] rfl (.cons (.aq 2 0 rfl) (.cons .tq (.nil))) rfl ⟨_,?_,fun w h=>(h.pk 2 [0])⟩
 exact ⟨⟨(l.drop i).take (nmX (l.drop i)),(l.drop (i+nmX (l.drop i)+1)).take (nmX (l.drop (i+nmX (l.drop i)+1))),true⟩,_,by omega,by omega,rfl,hqv,rfl⟩
 have hk4:[58].isPrefixOf (l.drop (i+nmX (l.drop i)))=false:=hk4
 rw [← List.drop_drop] at hk4
 have hok:=mark_1 hn0 hk4
 refine A5 [2] [0,2,4,14] (k:=A0 (C5 kr (A7 (A0 (A1 (H4 ([(t,.cells #[.string (bk l),.int .i64 ((i+nmX (l.drop i):Nat):Int)] 53 (0,0))]::[(b3,.cells #[.string eB,.string (bk ((l.drop i).take (nmX (l.drop i)))),.string eB,.bool false] 85 (0,0))]::H) kr (F6 0 kr (fun w h=>(h.pk 1 [0,0])) (M9 1 0 4 rfl (G6 kr rfl)) (G1 (fuel:=4) [(1,0)] (fun w h=>(h.pk 1 [0,0])) (k:=?_)))))))))
 refine F6 2 kr (fun w h=>(h.pk 1 [0,0])) (C1 1 1 rfl rfl (G6 kr rfl)) (GH_pure (E':=[⟨25,[],.bool (!((bk ((l.drop i).take (nmX (l.drop i)))).toList==eB.toList))⟩,⟨22,[],.agg #[.string eB,.string (bk ((l.drop i).take (nmX (l.drop i)))),.string eB,.bool false]⟩,⟨2,[],pt b1⟩]) 3 0 kr (fun w h=>(h.pk 1 [0,0])) kr (GH_env (E':=[⟨25,[],.bool ((G5 (l.drop i)).isSome)⟩,⟨22,[],.agg #[.string eB,.string (bk ((l.drop i).take (nmX (l.drop i)))),.string eB,.bool false]⟩,⟨2,[],pt b1⟩]) (by rw [hok]) (C6 4 (k:=D0 2 0 (.agg #[.string eB,.string (bk ((l.drop i).take (nmX (l.drop i)))),.string eB,.bool false]) rfl (A9 kr (fun w h=>(h.pkT 1 [0,0])) (G1 (fuel:=0) [(5,0)] (fun w h=>(h.pkT 1 [0,0])) (k:=D8 (E':=[⟨2,[],pt b1⟩,⟨3,[],.bool ((G5 (l.drop i)).isSome)⟩]) [2,3] (k:=A0 ?_))))))))
 refine B4 (J7 [.cell 2 85,.tmp 3] [.agg #[.string eB,.string (bk ((l.drop i).take (nmX (l.drop i)))),.string eB,.bool false],.bool ((G5 (l.drop i)).isSome)] rfl (.cons (.aq 2 0 rfl) (.cons .tq (.nil))) rfl ⟨_,?_,fun w h=>(h.pk 2 [0])⟩)
 exact ⟨⟨[],(l.drop i).take (nmX (l.drop i)),false⟩,_,Nat.le_add_right _ _,by omega,rfl,fun x hx=>(by rw [qualE_no hn0 (by rw [hk4]; decide),List.drop_drop] at hx; injection hx with hx; exact hx.symm),rfl⟩
theorem rTaside_ (t:Nat) (l:List UInt8) (i:Nat) (hl:l.length≤1000000) (hi:i≤l.length) (W0:World) (H:List Grp):Tri Tryz.prog 45 #[pt t] W0 ([(t,.cells #[.string (bk l),.int .i64 ((i:Nat):Int)] 53 (0,0))]::H) (fun v H'=>∃ j,i≤j∧j≤l.length∧((i<j∧J9 (l.drop i)=some (some (l.drop j))∧v=.tuple #[.bool true,.bool true])∨(J9 (l.drop i)=some none∧j=i∧v=.tuple #[.bool false,.bool true])∨(J9 (l.drop i)=none∧v=.tuple #[.bool true,.bool false]))∧H'=Y2 t l (j:Int)::H):=by
 have hbz:=C9 l
 refine D5 31 Tryz.func45 ?_
 refine A1 (C3 (E':=[⟨0,[],pt t⟩]) [0,0] [0] (k:=A0 (A1 (A1 (A2 (A3 (j:=1) [0] (k:=D9 Tryz.func22 (R9 t l i hl (by omega) [60,33,45,45] (Nat.le_of_ble_eq_true rfl) _ _) ?_)))))))
 rintro _ _ (⟨hk1,hk1l,rfl,rfl⟩ | ⟨hk1,rfl,rfl⟩)
 have hk1:[60,33,45,45].isPrefixOf (l.drop i)=true:=hk1
 have hk1l:i+4≤l.length:=hk1l
 have h1:=hk1
 refine C0 (E':=[⟨0,[],pt t⟩,⟨9,[],.bool true⟩]) [] [0,9] (k:=A0 (B9 kr (A1 (A2 (A3 (j:=1) [0] (k:=D9 (vs:=[pt t,.string (mB #[45,45])]) Tryz.func76 (rTto_ t l (i+4) hl (by omega) [45,45] (Nat.le_of_ble_eq_true rfl) (List.cons_ne_nil _ _) _ _) ?_))))))
 rintro _ _ (⟨k2,hu2,hu2l,rfl,rfl⟩ | ⟨hu2,rfl,rfl⟩)
 have hu2:idxL [45,45] (l.drop (i+4))=some k2:=hu2
 have hu2l:(i+4)+k2+2≤l.length:=hu2l
 have h2:=hu2
 refine C0 (E':=[⟨0,[],pt t⟩,⟨5,[],.bool true⟩]) [0,0,0,0,0] [0,5] (k:=A0 (A1 (A2 (A3 (j:=3) [0,0,0] (k:=Q2 (ch:=[(16,true)]) (f:=22) (fst:=#[]) (caps:=#[]) (vs:=[pt t,.string (mB #[62])]) (hf:=Tryz.func22) (hsure:=M3 kr) (hc:=R9 t l (i+4+k2+2) hl (by omega) [62] (Nat.le_of_ble_eq_true rfl) _ _) (k:=?_))))))
 rintro _ _ (⟨hk3,hk3l,rfl,rfl⟩ | ⟨hk3,rfl,rfl⟩)
 have hk3:[62].isPrefixOf (l.drop (i+4+k2+2))=true:=hk3
 have hk3l:(i+4+k2+2)+1≤l.length:=hk3l
 have hA:=as_1 h1 h2 hk3
 refine A5 [2,0,0] [2,3] (k:=A0 (B4 (A4 (B7 [.tmp 2,.tmp 3] [.bool true,.bool true] (k:=?_)))))
 first | exact ⟨_,by omega,by omega,.inl ⟨by omega,hA,rfl⟩,rfl⟩ | exact ⟨_,by omega,by omega,.inr (.inl ⟨hA,rfl,rfl⟩),rfl⟩ | exact ⟨_,by omega,by omega,.inr (.inr ⟨hA,rfl⟩),rfl⟩
 have hk3:[62].isPrefixOf (l.drop (i+4+k2+2))=false:=hk3
 have hA:=as_1n h1 h2 hk3
 refine A5 [2,0,0] [2,3] (k:=A0 (B4 (A4 (B7 [.tmp 2,.tmp 3] [.bool true,.bool false] (k:=?_)))))
 first | exact ⟨_,by omega,by omega,.inl ⟨by omega,hA,rfl⟩,rfl⟩ | exact ⟨_,by omega,by omega,.inr (.inl ⟨hA,rfl,rfl⟩),rfl⟩ | exact ⟨_,by omega,by omega,.inr (.inr ⟨hA,rfl⟩),rfl⟩
 have hu2:idxL [45,45] (l.drop (i+4))=none:=hu2
 have hA:=as_1e h1 hu2
 refine C0 (E':=[⟨0,[],pt t⟩,⟨5,[],.bool false⟩]) [0,0,0,0,0] [0,5] (k:=A0 (A1 (G_p [0,0,1,1,3,0,0] [2,3] (k:=A0 (B4 (A4 (B7 [.tmp 2,.tmp 3] [.bool true,.bool false] (k:=?_))))))))
 first | exact ⟨_,by omega,by omega,.inl ⟨by omega,hA,rfl⟩,rfl⟩ | exact ⟨_,by omega,by omega,.inr (.inl ⟨hA,rfl,rfl⟩),rfl⟩ | exact ⟨_,by omega,by omega,.inr (.inr ⟨hA,rfl⟩),rfl⟩
 have hk1:[60,33,45,45].isPrefixOf (l.drop i)=false:=hk1
 have h1:=hk1
 refine C0 (E':=[⟨0,[],pt t⟩,⟨9,[],.bool false⟩]) [] [0,9] (k:=A0 (C5 kr (A7 (A0 (A1 (A1 (A2 (A3 (j:=1) [0] (k:=?_)))))))))
 refine D9 Tryz.func22 (R9 t l i hl (by omega) [60,63] (Nat.le_of_ble_eq_true rfl) _ _) ?_
 rintro _ _ (⟨hk4,hk4l,rfl,rfl⟩ | ⟨hk4,rfl,rfl⟩)
 have hk4:[60,63].isPrefixOf (l.drop i)=true:=hk4
 have hk4l:i+2≤l.length:=hk4l
 have h2:=hk4
 refine C0 (E':=[⟨0,[],pt t⟩,⟨21,[],.bool true⟩]) [] [0,21] (k:=A0 (B9 kr (A1 (A1 (A2 (A3 (j:=1) [0] (k:=D9 Tryz.func77 (rTname_ t l (i+2) hl (by omega) _ _) ?_)))))))
 rintro _ _ ⟨rfl,hn5,rfl⟩
 refine A5 [0] [0,24] (k:=A0 (B1 (b:=(bk ((l.drop (i+2)).take (nmX (l.drop (i+2))))).toList==eB.toList) kr (fun hc6=>?_) (fun hc6=>?_)))
 have hz:=take_nm.1 ((eqB _ _).1 hc6)
 have hA:=as_2z h1 h2 hz
 refine A1 (G_p [0,0] [2,3] (k:=A0 (B4 (A4 (A4 (B7 [.tmp 2,.tmp 3] [.bool true,.bool false] (k:=?_)))))))
 first | exact ⟨_,by omega,by omega,.inl ⟨by omega,hA,rfl⟩,rfl⟩ | exact ⟨_,by omega,by omega,.inr (.inl ⟨hA,rfl,rfl⟩),rfl⟩ | exact ⟨_,by omega,by omega,.inr (.inr ⟨hA,rfl⟩),rfl⟩
 have hz:¬ nmX (l.drop (i+2))=0:=fun h9=>(eqBf _ _).1 hc6 (take_nm.2 h9)
 refine A7 (A0 (A1 (A2 (A3 (j:=1) [0] (k:=D9 (vs:=[pt t,.string (mB #[63,62])]) Tryz.func76 (rTto_ t l (i+2+nmX (l.drop (i+2))) hl (by omega) [63,62] (Nat.le_of_ble_eq_true rfl) (List.cons_ne_nil _ _) _ _) ?_)))))
 rintro _ _ (⟨k7,hu7,hu7l,rfl,rfl⟩ | ⟨hu7,rfl,rfl⟩)
 have hu7:idxL [63,62] (l.drop (i+2+nmX (l.drop (i+2))))=some k7:=hu7
 have hu7l:(i+2+nmX (l.drop (i+2)))+k7+2≤l.length:=hu7l
 have hA:=as_2 h1 h2 hz hu7
 refine C0 (E':=[⟨7,[],.bool true⟩]) [0,0,0,0,0] [7] (k:=A0 (A1 (G_p [0,0,0] [2,3] (k:=A0 (B4 (A4 (B7 [.tmp 2,.tmp 3] [.bool true,.bool true] (k:=?_))))))))
 first | exact ⟨_,by omega,by omega,.inl ⟨by omega,hA,rfl⟩,rfl⟩ | exact ⟨_,by omega,by omega,.inr (.inl ⟨hA,rfl,rfl⟩),rfl⟩ | exact ⟨_,by omega,by omega,.inr (.inr ⟨hA,rfl⟩),rfl⟩
 have hu7:idxL [63,62] (l.drop (i+2+nmX (l.drop (i+2))))=none:=hu7
 have hA:=as_2e h1 h2 hz hu7
 refine C0 (E':=[⟨7,[],.bool false⟩]) [0,0,0,0,0] [7] (k:=A0 (A1 (G_p [0,0,0] [2,3] (k:=A0 (B4 (A4 (B7 [.tmp 2,.tmp 3] [.bool true,.bool false] (k:=?_))))))))
 first | exact ⟨_,by omega,by omega,.inl ⟨by omega,hA,rfl⟩,rfl⟩ | exact ⟨_,by omega,by omega,.inr (.inl ⟨hA,rfl,rfl⟩),rfl⟩ | exact ⟨_,by omega,by omega,.inr (.inr ⟨hA,rfl⟩),rfl⟩
 have hk4:[60,63].isPrefixOf (l.drop i)=false:=hk4
 have hA:=as_3 h1 hk4
 refine C0 (E':=[⟨0,[],pt t⟩,⟨21,[],.bool false⟩]) [] [0,21] (k:=A0 (C5 kr (A7 (A0 (A1 (G_p [0,0] [2,3] (k:=A0 (B4 ?_))))))))
 refine B7 [.tmp 2,.tmp 3] [.bool false,.bool true] (k:=?_)
 first | exact ⟨_,by omega,by omega,.inl ⟨by omega,hA,rfl⟩,rfl⟩ | exact ⟨_,by omega,by omega,.inr (.inl ⟨hA,rfl,rfl⟩),rfl⟩ | exact ⟨_,by omega,by omega,.inr (.inr ⟨hA,rfl⟩),rfl⟩
theorem rTaround_ (t:Nat) (l:List UInt8) (i:Nat) (hl:l.length≤1000000) (hi:i≤l.length) (W0:World) (H:List Grp):Tri Tryz.prog 21 #[pt t] W0 ([(t,.cells #[.string (bk l),.int .i64 ((i:Nat):Int)] 53 (0,0))]::H) (fun v H'=>∃ j,j≤l.length∧((I3 ((l.drop i).length+1) (l.drop i)=some (l.drop j)∧v=.bool true)∨(I3 ((l.drop i).length+1) (l.drop i)=none∧v=.bool false))∧H'=Y2 t l (j:Int)::H):=by
 have hbz:=C9 l
 refine D5 21 Tryz.func21 ?_
 refine A1 (C3 (E':=[⟨0,[],pt t⟩]) [0] [0] (k:=A0 (B3 (I6 (EI:=(fun ξ:Nat × Nat=>[⟨0,[],pt t⟩])) (HI:=(fun ξ:Nat × Nat=>([(t,.cells #[.string (bk l),.int .i64 ((ξ.1:Nat):Int)] 53 (0,0))]::H))) (Φ:=(fun ξ:Nat × Nat=>(ξ.1≤l.length)∧(l.length - ξ.1<ξ.2)∧(I3 ((l.drop i).length+1) (l.drop i)=I3 ξ.2 (l.drop ξ.1)))) (μ:=(fun ξ:Nat × Nat=>l.length - ξ.1)) (s0:=(i,((l.drop i).length+1))) [0] kr rfl ⟨hi,(by rw [List.length_drop]; omega),rfl⟩ ?_))))
 rintro ⟨j,f⟩ ⟨hj,hf,hT⟩
 dsimp only at hj hf hT
 obtain ⟨f1,rfl⟩:∃ f1,f=f1+1:=⟨f - 1,by omega⟩
 refine B3 (A1 (A2 (A3 (j:=1) [0] (k:=D9 Tryz.func44 (rTblanks_ t l j hl (by omega) _ _) ?_))))
 rintro _ _ ⟨i1,hbi1,hbi1g,hbi1l,rfl,rfl⟩
 refine A5 [0] [0,3] (k:=A0 (A1 (A2 (A3 (j:=1) [0] (k:=D9 Tryz.func45 (rTaside_ t l i1 hl (by omega) _ _) ?_)))))
 rintro _ _ ⟨z2,ha2g,ha2l,⟨ha2s,ha2,rfl⟩ | ⟨ha2,ha2s,rfl⟩ | ⟨ha2,rfl⟩,rfl⟩
 have hstep:=ar_yes (f:=f1) hbi1 ha2
 refine A5 [0,0,0,0,0] [0,3,4,5] (k:=A0 (A1 (A1 (G_p [0,0] [0,3,4,14] (k:=A0 (C5 kr (A7 (A0 ?_))))))))
 refine A1 (G_p [0,0,0,0,0,6] [0,20] (k:=A0 (B1 (b:=((((i1:Nat):Int) - ((j:Nat):Int))==0)&&false) kr (fun hc3=>?_) (fun hc3=>?_))))
 have h9:=hc3
 simp only [Bool.and_false,Bool.false_eq_true] at h9
 refine A7 (B8 (D2 (s':=(z2,f1)) [0] kr rfl ⟨(by dsimp only; omega),(by dsimp only; omega),(by dsimp only; rw [hT]; exact hstep)⟩ (by dsimp only; omega)))
 have hend:=ar_no (f:=f1) hbi1 ha2
 have hstep:=ar_same (f:=f1) hbi1
 rw [← ha2s] at hend hstep
 refine A5 [0,0,0,0,0] [0,3,4,5] (k:=A0 (A1 (A1 (G_p [0,0] [0,3,4,14] (k:=A0 (C5 kr (A7 (A0 ?_))))))))
 refine A1 (G_p [0,0,0,0,0,6] [0,20] (k:=A0 (B1 (b:=((((i1:Nat):Int) - ((j:Nat):Int))==0)&&true) kr (fun hc4=>?_) (fun hc4=>?_))))
 have h9:=hc4
 simp only [Bool.and_true,beq_iff_eq] at h9
 refine A1 (C3 (E':=[⟨2,[],.bool true⟩]) [0] [2] (k:=A0 (B4 (B0 (A4 (B0 (B7 [.tmp 2] [.bool true] (k:=?_))))))))
 first | exact ⟨_,by omega,.inl ⟨by rw [hT]; exact hend,rfl⟩,rfl⟩ | exact ⟨_,by omega,.inr ⟨by rw [hT]; exact hend,rfl⟩,rfl⟩
 have h9:=hc4
 simp only [Bool.and_true,beq_eq_false_iff_ne,ne_eq] at h9
 refine A7 (B8 (D2 (s':=(z2,(f1+1))) [0] kr rfl ⟨(by dsimp only; omega),(by dsimp only; omega),(by dsimp only; rw [hT]; exact hstep)⟩ (by dsimp only; omega)))
 have hend:=ar_bad (f:=f1) hbi1 ha2
 refine A5 [0,0,0,0,0] [0,3,4,5] (k:=A0 (A1 (A1 (G_p [0,0] [0,3,4,14] (k:=A0 (B9 kr (A1 (C3 (E':=[⟨2,[],.bool false⟩]) [0] [2] (k:=?_)))))))))
 refine A0 (B4 (A4 (B0 (A4 (B0 (B7 [.tmp 2] [.bool false] (k:=?_)))))))
 first | exact ⟨_,by omega,.inl ⟨by rw [hT]; exact hend,rfl⟩,rfl⟩ | exact ⟨_,by omega,.inr ⟨by rw [hT]; exact hend,rfl⟩,rfl⟩
end Go.Proofs.YtcgmnagcgkhogabGreatDoor
namespace Go.Proofs.YtcgmnagcgkhogabGreatDoor
open Go.Sw Go.Sha Go.Esc Go.RowKit
end Go.Proofs.YtcgmnagcgkhogabGreatDoor
namespace Go.Proofs.YtcgmnagcgkhogabGreatDoor
open Go.Sw Go.Sha Go.Esc Go.RowKit Go.Json Go.Xml
def spC (x:List UInt8 × List UInt8):List Value:=[.string (bk x.1),.string (bk x.2)]
def spV:SPX→List Value
 | []=>[]
 | x::r=>spV r++spC x
theorem spV_len:∀ sp:SPX,(spV sp).length=sp.length * 2
 | []=>rfl
 | x::r=>by rw [spV,List.length_append,spV_len r,List.length_cons]; show _+2=_; omega
theorem spV_at:∀ {sp:SPX} {k q:Nat} (hk:k<sp.length) (_:q<2),(spV sp)[k * 2+q]? = (spC (sp[sp.length - 1 - k]'(by omega)))[q]?
  | [],_,_,hk,_=>absurd hk (Nat.not_lt_zero _)
  | x::r,k,q,hk,hq=>by
    rw [List.length_cons] at hk
    rcases Nat.lt_or_ge k r.length with h | h
    rw [spV,List.getElem?_append_left (by rw [spV_len]; omega),spV_at h hq]
    congr 2
    rw [List.getElem_cons,dif_neg (by rw [List.length_cons]; omega)]
    congr 1
    rw [List.length_cons]; omega
    obtain rfl:k=r.length:=by omega
    rw [spV,List.getElem?_append_right (by rw [spV_len]; omega),spV_len,Nat.add_sub_cancel_left]
    congr 2
    rw [List.getElem_cons,dif_pos (by rw [List.length_cons]; omega)]
theorem look_step {sp:SPX} {k:Nat} {p:List UInt8} {x:List UInt8 × List UInt8} (hk:k<sp.length) (hx:x=sp[sp.length - 1 - k]'(by omega)):K5 (sp.drop (sp.length - (k+1))) p=if x.1=p then some x.2 else K5 (sp.drop (sp.length - k)) p:=by
 have e:sp.length - (k+1)=sp.length - 1 - k:=by omega
 rw [e,List.drop_eq_getElem_cons (show sp.length - 1 - k<sp.length by omega),← hx,show sp.length - 1 - k+1=sp.length - k by omega]
 unfold K5
 rw [List.find?_cons]
 by_cases h:x.1=p
 rw [if_pos h,show (x.1==p)=true from beq_iff_eq.2 h]; rfl
 rw [if_neg h,show (x.1==p)=false from beq_eq_false_iff_ne.2 h]
theorem rf_keep {l:List UInt8} {i:Nat} {b:UInt8} (hi:i<l.length) (hb:b=l.getD i 0) (h:b≠38):rfs (l.drop i)=(rfs (l.drop (i+1))).map ([b]++·):=by
 rw [drop_getD hi,← hb,X6,if_pos h]
theorem rf_38 {l:List UInt8} {i:Nat} {b:UInt8} (hi:i<l.length) (hb:b=l.getD i 0) (h:b=38):l.drop i=38::l.drop (i+1):=by rw [drop_getD hi,← hb,h]
theorem rf_bad0 {l:List UInt8} {i:Nat} (e:l.drop i=38::l.drop (i+1)) (h:(I7 (l.drop i)).2=0):rfs (l.drop i)=none:=by
 rw [e] at h ⊢
 rw [refD_eq] at h
 rw [X6,if_neg (by decide)]
 by_cases h0:(X7 (l.drop (i+1))).1<0
 rw [if_pos (.inl h0)]
 rw [if_neg h0] at h; simp at h
theorem rf_pos {l:List UInt8} {i:Nat} (e:l.drop i=38::l.drop (i+1)) (h:(I7 (l.drop i)).2≠0):¬ (X7 (l.drop (i+1))).1<0∧I7 (l.drop i)=((X7 (l.drop (i+1))).1,(X7 (l.drop (i+1))).2+1)∧isR (I7 (l.drop i)).1∧(I7 (l.drop i)).2≤(l.drop i).length:=by
 have hr:=refD_rng (l.drop (i+1))
 rw [← e] at hr
 have h1:=refD_eq (l.drop (i+1))
 rw [← e] at h1
 by_cases h0:(X7 (l.drop (i+1))).1<0
 rw [if_pos h0] at h1; rw [h1] at h; simp at h
 rw [if_neg h0] at h1
 refine ⟨h0,h1,hr.1 (by rw [h1]; exact h0),?_⟩
 have:=hr.2.1
 rw [e,List.length_cons]; rw [← e]; omega
theorem rf_bad1 {l:List UInt8} {i:Nat} (e:l.drop i=38::l.drop (i+1)) (h:(I7 (l.drop i)).2≠0) (hp:N6 (I7 (l.drop i)).1=false):rfs (l.drop i)=none:=by
 obtain ⟨h0,h1,_⟩:=rf_pos e h
 rw [h1] at hp
 rw [e,X6,if_neg (by decide),if_pos (.inr hp)]
theorem rf_go {l:List UInt8} {i:Nat} (e:l.drop i=38::l.drop (i+1)) (h:(I7 (l.drop i)).2≠0) (hp:N6 (I7 (l.drop i)).1=true):rfs (l.drop i)=(rfs (l.drop (i+(I7 (l.drop i)).2))).map (Lib.encodeRune (I7 (l.drop i)).1++·):=by
 obtain ⟨h0,h1,_⟩:=rf_pos e h
 rw [h1] at hp ⊢
 rw [e,X6,if_neg (by decide),if_neg (by rintro (h | h); exact h0 h; rw [hp] at h; cases h),List.drop_drop]
 congr 2
 show l.drop _=l.drop _
 congr 1; omega
theorem plain_pt {p:Int} (h:isR p):(F9 (R7 [p])==[])=!N6 p:=by
  have e:R7 [p]=Lib.encodeRune p++[]:=rfl
  have h2:=(enc_len p).1
  rw [e,plain_enc h]
  cases N6 p with
  | true =>
    rw [if_pos rfl]
    refine beq_eq_false_iff_ne.2 (fun hn=>?_)
    have:=congrArg List.length hn
    rw [List.length_append,List.length_nil] at this; omega
  | false=>rfl
theorem map_map_app {o:Option (List UInt8)} {a b:List UInt8}:(o.map (b++·)).map (a++·)=o.map ((a++b)++·):=by
 cases o with
 | none=>rfl
 | some x=>simp
theorem rTfind_ (sp:SPX) (a:Option Addr) (c:Nat) (S:Nat→Obj→Prop) (hrd:Rd S a (spV sp)) (hsl:sp.length≤1000000000) (p:List UInt8) (W0:World) (H:List Grp) (hS:∀ y o,S y o→At W0 H y o):Tri Tryz.prog 48 #[.slice a sp.length c,.string (bk p)] W0 H (fun v H'=>v=.tuple #[.string (bk ((K5 sp p).getD [])),.bool (K5 sp p).isSome]∧H'=H):=by
 refine D5 26 Tryz.func48 ?_
 refine A1 (G_p [0,0] [0,1] (k:=A0 (A1 (A1 (A2 (A3 (j:=3) [0,0,0] (k:=D1 9 (((sp.length:Nat):Int) - 1) (by omega) (by omega) kr (A5 [0] [0,1,6] (k:=?_)))))))))
 refine A0 (B3 (I6 (EI:=(fun ξ:Nat=>[⟨0,[],.slice a sp.length c⟩,⟨1,[],.string (bk p)⟩,⟨6,[],.int .i64 (((ξ:Nat):Int) - 1)⟩])) (HI:=(fun ξ:Nat=>H)) (Φ:=(fun ξ:Nat=>(ξ≤sp.length)∧(K5 sp p=K5 (sp.drop (sp.length - ξ)) p))) (μ:=(fun ξ:Nat=>ξ)) (s0:=(sp.length)) [0,1,6] kr rfl ⟨(Nat.le_refl _),(by rw [Nat.sub_self,List.drop_zero])⟩ ?_))
 rintro k ⟨hk,hT⟩
 refine A1 (A1 (G_p [0,0] [0,1,6,11] (k:=A0 (B1 (b:=decide ((((k:Nat):Int) - 1) ≥ 0)) kr (fun hc2=>?_) (fun hc2=>?_)))))
 simp only [decide_eq_true_eq,ge_iff_le] at hc2
 obtain ⟨k1,hk1⟩:∃ k1,k=k1+1:=⟨k - 1,by omega⟩
 have hlt:k1<sp.length:=by omega
 obtain ⟨x,hx⟩:∃ x,x=sp[sp.length - 1 - k1]'(by omega):=⟨_,rfl⟩
 refine A7 (A0 (A1 (B3 (A1 (A2 (A3 (j:=2) [0,0] (k:=E3 15 (x:=.int .i64 (((k:Nat):Int) - 1)) (y:=.int .i64 ((k1:Nat):Int)) (by rw [show (((k:Nat):Int) - 1)=((k1:Nat):Int) by omega]) (E4 sp.length ((k1:Nat):Int) 2 hrd (by exact ⟨by omega,by omega,by intro h; have:=congrArg List.length h; rw [spV_len] at this; simp only [List.length_nil] at this; omega⟩) ?_))))))))
 refine A3 (j:=4) [0] (k:=H9 (k1 * 2) (.string (bk x.1)) hrd (fun y o h=>hS y o h) (fun _=>(by have h9:=spV_at hlt (show 0<2 by omega); rw [← hx] at h9; exact h9)) (A5 [0,0] [0,1,6,20] (k:=A0 (B1 (b:=(bk x.1).toList==(bk p).toList) kr (fun hc3=>?_) (fun hc3=>?_)))))
 have heq:x.1=p:=(eqB _ _).1 hc3
 have hL:K5 sp p=some x.2:=by rw [hT,hk1,look_step hlt hx,if_pos heq]
 refine A1 (A2 (A3 (j:=2) [0,0] (k:=E3 22 (x:=.int .i64 (((k:Nat):Int) - 1)) (y:=.int .i64 ((k1:Nat):Int)) (by rw [show (((k:Nat):Int) - 1)=((k1:Nat):Int) by omega]) (E4 sp.length ((k1:Nat):Int) 2 hrd (by exact ⟨by omega,by omega,by intro h; have:=congrArg List.length h; rw [spV_len] at this; simp only [List.length_nil] at this; omega⟩) ?_))))
 have hw4:Addr.add (eltA a (k1 * 2)) 1=eltA a (k1 * 2+1):=A0i _ _ _
 refine A3 (j:=4) [0] (k:=E3 24 (x:=.pointer (some (Addr.add (eltA a (k1 * 2)) 1))) (y:=.pointer (some (eltA a (k1 * 2+1)))) (by simp only [hw4]) (H9 (k1 * 2+1) (.string (bk x.2)) hrd (fun y o h=>hS y o h) (fun _=>(by have h9:=spV_at hlt (show 1<2 by omega); rw [← hx] at h9; exact h9)) (A5 [0,0] [4,5] (k:=A0 (B4 (B0 (A4 (A4 ?_))))))))
 refine B0 (A4 (B7 [.tmp 4,.tmp 5] [.string (bk x.2),.bool true] (k:=?_)))
 exact ⟨by rw [hL]; rfl,rfl⟩
 have hne:¬ x.1=p:=(eqBf _ _).1 hc3
 refine A7 (B8 (A0 (A2 (A3 (j:=1) [0] (k:=E3 12 (x:=.int .i64 (((k:Nat):Int) - 1)) (y:=.int .i64 ((k1:Nat):Int)) (by rw [show (((k:Nat):Int) - 1)=((k1:Nat):Int) by omega]) (A3 (j:=2) [0] (k:=D1 13 (((k1:Nat):Int) - 1) (by omega) (by omega) kr (A5 [0] [0,1,6] (k:=?_)))))))))
 refine D2 (s':=(k1)) [0,1,6] kr rfl ⟨(by omega),(by rw [hT,hk1,look_step hlt hx,if_neg hne])⟩ (by omega)
 simp only [decide_eq_false_iff_not,ge_iff_le] at hc2
 have hL:K5 sp p=none:=by rw [hT,show k=0 by omega,Nat.sub_zero,List.drop_eq_nil_of_le (Nat.le_refl _)]; rfl
 refine E7 (A6 (A6 (B6 (A0 (A1 (G_p [0,0] [4,5] (k:=A0 (B4 ?_))))))))
 refine B7 [.tmp 4,.tmp 5] [.string eB,.bool false] (k:=?_)
 exact ⟨by rw [hL]; rfl,rfl⟩
theorem rrefX_ (s:ByteArray) (i:Nat) (hs:s.size≤1000000000000) (W0:World) (H:List Grp):Tri Tryz.prog 99 #[.string (s.extract i s.size)] W0 H (fun v H'=>v=.tuple #[.int .i64 (I7 (s.data.toList.drop i)).1,.int .i64 ((I7 (s.data.toList.drop i)).2:Int)]∧H'=H):=by
 have h:=rreference_ (s.extract i s.size) (by rw [ByteArray.size_extract]; omega) W0 H
 rwa [show (s.extract i s.size).data.toList=s.data.toList.drop i from by rw [ext_list,List.take_of_length_le (by rw [List.length_drop,G7]; omega)]] at h
theorem rTrefs_ (s:ByteArray) (hs:s.size≤100000000) (W0:World) (H:List Grp):Tri Tryz.prog 78 #[.string s] W0 H (fun v H'=>v=.tuple #[.string (bk ((rfs s.data.toList).getD [])),.bool (rfs s.data.toList).isSome]∧H'=H):=by
 refine D5 49 Tryz.func78 ?_
 refine A1 (C3 (E':=[⟨0,[],.string s⟩]) [0,0] [0] (k:=A0 (A1 (G_p [0] [0,4] (k:=A0 (A1 (A1 (G_p [0] [0,4,5] (k:=?_)))))))))
 refine A0 (B3 (R1 (H':=([]::H)) (fun w h=>h.flat (List.Perm.refl _)) (I6 (EI:=(fun ξ:Option Addr × Nat × Grp × List UInt8 × Nat=>[⟨0,[],.string s⟩,⟨4,[],.slice ξ.1 ξ.2.2.2.1.length ξ.2.1⟩,⟨5,[],.int .i64 ((ξ.2.2.2.2:Nat):Int)⟩])) (HI:=(fun ξ:Option Addr × Nat × Grp × List UInt8 × Nat=>(ξ.2.2.1::H))) (Φ:=(fun ξ:Option Addr × Nat × Grp × List UInt8 × Nat=>(Go.Sw.Own 5 1 (.slice ξ.1 ξ.2.2.2.1.length ξ.2.1) ξ.2.2.1 ξ.2.2.2.1.length (u8s ξ.2.2.2.1))∧(ξ.2.2.2.2≤s.size)∧(rfs s.data.toList=(rfs (s.data.toList.drop ξ.2.2.2.2)).map (ξ.2.2.2.1++·))∧(ξ.2.2.2.1.length≤4 * ξ.2.2.2.2))) (μ:=(fun ξ:Option Addr × Nat × Grp × List UInt8 × Nat=>s.size - ξ.2.2.2.2)) (s0:=(none,0,[],[],0)) [0,4,5] kr rfl ⟨Go.Sw.Own.nil,(by (try dsimp only); omega),(by cases h:rfs s.data.toList <;> simp [h]),(Nat.zero_le _)⟩ ?_)))
 rintro ⟨ra,rc,rg,l1,i⟩ ⟨hO,hi,hT,hl1⟩
 dsimp only at hO hi hT hl1
 obtain ⟨b,hb⟩:∃ b:UInt8,b=s.data.toList.getD i 0:=⟨_,rfl⟩
 have hbyte:B2 s (i:Int)=(b.toNat:Int):=by rw [I9,hb]
 refine A1 (A1 (G_p [0,0,0,0] [0,4,5,11] (k:=A0 (B1 (b:=decide (((i:Nat):Int)<(s.size:Int))) kr (fun hc1=>?_) (fun hc1=>?_)))))
 simp only [decide_eq_true_eq] at hc1
 have hll:i<s.data.toList.length:=by rw [G7]; omega
 refine A7 (A0 (B3 (A1 (A1 (A2 (A3 (j:=2) [0,0] (k:=G4 s ((i:Nat):Int) (fun _=>by omega) ?_)))))))
 have hb2:=E5 s ((i:Nat):Int)
 refine E3 14 (x:=.int .u8 (B2 s ((i:Nat):Int))) (y:=.int .u8 (b.toNat:Int)) (by rw [hbyte]) (A5 [0] [0,4,5,15] (k:=A0 (B1 (b:=(b.toNat:Int) != 38) kr (fun hc3=>?_) (fun hc3=>?_))))
 have hst:=rf_keep hll hb (by rintro rfl; simp at hc3)
 refine A1 (A2 (A3 (j:=3) [0,0,0] (k:=G4 s ((i:Nat):Int) (fun _=>by omega) ?_)))
 have hb4:=E5 s ((i:Nat):Int)
 refine E3 19 (x:=.int .u8 (B2 s ((i:Nat):Int))) (y:=.int .u8 (b.toNat:Int)) (by rw [hbyte]) (H0 5 1 [.int .u8 (b.toNat:Int)] (fun b5=>L7 (inf:=Tryz.t5) 1 0 1 rfl rfl hO (by omega) (by show (l1.length+1) * 1≤140737488355328; omega) (fun v6 g7 hO8=>?_)))
 obtain ⟨a9,cap10,rfl,hcap11,hrd12⟩:=hO8.shape
 refine A5 [0] [0,4,5] (k:=A0 (A1 (A2 (A3 (j:=2) [0,0] (k:=D1 23 (((i:Nat):Int)+1) (by omega) (by omega) kr (A5 [0] [0,4,5] (k:=A0 (E7 ?_))))))))
 refine A6 (B6 ?_)
 have hln:(l1.length+1)=(l1++[b]).length:=by first | exact List.length_append.symm | (rw [List.length_append]; rfl)
 refine L6 (E':=[⟨0,[],.string s⟩,⟨4,[],.slice a9 (l1.length+1) cap10⟩,⟨5,[],.int .i64 (((i:Nat):Int)+1)⟩]) kr (L6 (E':=[⟨0,[],.string s⟩,⟨4,[],.slice a9 ((l1++[b]).length) cap10⟩,⟨5,[],.int .i64 (((i:Nat):Int)+1)⟩]) (by rw [hln]) (F8 1 [1] (D2 (s':=(a9,cap10,g7,(l1++[b]),i+1)) [0,4,5] kr kr ⟨(O2 hO8 hln (by dsimp only; first | exact (Go.Sha.u8s_append _ _).symm | (rw [Go.Sha.u8s_append]; rfl))),(by dsimp only; omega),(by dsimp only; rw [hT,hst,map_map_app]),(by dsimp only; rw [List.length_append]; (try simp only [List.length_cons,List.length_nil]); omega)⟩ (by dsimp only; omega))))
 have he:=rf_38 hll hb (UInt8.toNat_inj.1 (by show b.toNat=38; have:=hc3; simp only [bne_eq_false_iff_eq] at this; omega))
 refine A7 (A0 (A1 (A2 (A3 (j:=2) [0,0] (k:=M8 s ((i:Nat):Int) (s.size:Int) (fun _=>by omega) (H6 Tryz.func99 (rrefX_ s i (by omega) _ _) (A5 [0,0,0,0,0] [0,4,5,6,7] (k:=A0 ?_))))))))
 refine A1 (A1 ?_)
 by_cases hn0:(I7 (s.data.toList.drop i)).2=0
 have hst:=rf_bad0 he hn0
 refine A2 (A3 (j:=2) [0,0] (k:=E3 32 (x:=.bool ((((I7 (s.data.toList.drop i)).2:Nat):Int)==0)) (y:=.bool true) (by rw [hn0]; rfl) (A5 [0,1,1,1,1,1,2] [0,4,5,6,7,39] (k:=A0 (B9 kr (A1 (G_p [0,0] [2,3] (k:=A0 ?_))))))))
 refine B4 (A4 (B0 (A4 (B0 (A4 (F8 1 [] (B7 [.tmp 2,.tmp 3] [.string eB,.bool false] (k:=?_))))))))
 first | exact ⟨by rw [hfin]; rfl,rfl⟩ | exact ⟨by rw [hT,hst]; rfl,rfl⟩
 obtain ⟨_,_,hpR,hpl⟩:=rf_pos he hn0
 have hpl2:(I7 (s.data.toList.drop i)).2≤s.size - i:=by rw [List.length_drop,G7] at hpl; exact hpl
 have hel:=enc_len (I7 (s.data.toList.drop i)).1
 refine A2 (A3 (j:=2) [0,0] (k:=E3 32 (x:=.bool ((((I7 (s.data.toList.drop i)).2:Nat):Int)==0)) (y:=.bool false) (by rw [show (((((I7 (s.data.toList.drop i)).2:Nat):Int)==0))=false from beq_eq_false_iff_ne.2 (by omega)]) (A3 (j:=4) [0,0] (k:=GL_buildSlice (i:=4) (ch:=[(33,false)]) (e:=3) (l:=[(0,.int .i64 ((I7 (s.data.toList.drop i)).1))]) (c:=[.int .i64 ((I7 (s.data.toList.drop i)).1)]) rfl rfl kr kr kr kr kr (fun b14=>Q2 (ch:=[(33,false)]) (f:=52) (fst:=#[]) (caps:=#[]) (vs:=[.slice (some ⟨b14,0,none⟩) 1 1]) (hf:=Tryz.func52) (hsure:=M3 kr) (hc:=text_ (some ⟨b14,0,none⟩) 1 ([((I7 (s.data.toList.drop i)).1)]) (inG [(b14,.cells #[.int .i64 ((I7 (s.data.toList.drop i)).1)] 3 (0,0))]) Rd.lit (fun x hx2=>List.mem_singleton.1 hx2 ▸ hpR) (Nat.le_of_ble_eq_true rfl) _ _ (E0 0 rfl)) (k:=?_))))))
 rintro _ _ ⟨rfl,rfl⟩
 refine P7 [(33,false)] Tryz.func25 (fun hc=>rplain_ (bk (R7 ([((I7 (s.data.toList.drop i)).1)]))) (by rw [C9]; simp only [R7,List.flatMap_cons,List.flatMap_nil,List.append_nil]; omega) _ _) (A5 [0,3] [0,4,5,6,7,39] (k:=A0 (B1 (b:=(bk (F9 (R7 ([((I7 (s.data.toList.drop i)).1)])))).toList==eB.toList) kr (fun hc15=>?_) (fun hc15=>?_))))
 have hst:=rf_bad1 he hn0 (by have h9:=hc15; rw [bkN,plain_pt hpR] at h9; simpa using h9)
 refine A1 (G_p [0,0] [2,3] (k:=A0 (B4 (A4 (B0 (A4 (B0 (A4 ?_))))))))
 refine F8 2 [] (B7 [.tmp 2,.tmp 3] [.string eB,.bool false] (k:=?_))
 first | exact ⟨by rw [hfin]; rfl,rfl⟩ | exact ⟨by rw [hT,hst]; rfl,rfl⟩
 have hst:=rf_go he hn0 (by have h9:=hc15; rw [bkN,plain_pt hpR] at h9; simpa using h9)
 refine A7 (A0 (A1 (A2 (A3 (j:=2) [0,0] (k:=D9 Tryz.func82 (one_ ((I7 (s.data.toList.drop i)).1) hpR _ _) ?_)))))
 rintro _ _ ⟨ob16,rfl,rfl⟩
 refine Z9 (i:=3) (ch:=[]) (t:=30) (tx:=30) (e:=5) (inf:=Tryz.t5) (s:=.slice ra l1.length rc) (x:=.slice (some ⟨ob16,0,none⟩) ((Lib.encodeRune ((I7 (s.data.toList.drop i)).1)).length) ((Lib.encodeRune ((I7 (s.data.toList.drop i)).1)).length)) (n:=l1.length) (m:=(Lib.encodeRune ((I7 (s.data.toList.drop i)).1)).length) (j:=2) (cs:=(u8s l1)) (news:=(u8s (Lib.encodeRune ((I7 (s.data.toList.drop i)).1)))) (g:=rg) (S:=(inG [(ob16,.cells (u8s (Lib.encodeRune ((I7 (s.data.toList.drop i)).1))).toArray 5 (0,0))])) rfl rfl rfl rfl kr kr kr rfl rfl (.inl ⟨5,kr⟩) (fun ⟨_,h⟩=>by cases h) (fun _=>⟨5,kr⟩) kr kr kr rfl hO (SrcOf.slice _ _ _ _ Rd.lit (fun h=>by cases h)) (E0 0 rfl) (by rw [show (u8s (Lib.encodeRune _)).length=_ from List.length_map _]; exact (Nat.mul_one _).symm) Go.Sha.u8_one (by omega) (by show (l1.length+(Lib.encodeRune ((I7 (s.data.toList.drop i)).1)).length) * 1≤140737488355328; omega) (fun v17 g18 hO19=>?_)
 obtain ⟨a20,cap21,rfl,hcap22,hrd23⟩:=hO19.shape
 refine A5 [0] [0,4,5,7] (k:=A0 (A2 (A3 (j:=3) [0,0,0] (k:=D1 46 (((i:Nat):Int)+(((I7 (s.data.toList.drop i)).2:Nat):Int)) (by omega) (by omega) kr (A5 [0] [0,4,5] (k:=B8 ?_))))))
 have hln:(l1.length+(Lib.encodeRune ((I7 (s.data.toList.drop i)).1)).length)=(l1++(Lib.encodeRune ((I7 (s.data.toList.drop i)).1))).length:=by first | exact List.length_append.symm | (rw [List.length_append]; rfl)
 refine L6 (E':=[⟨0,[],.string s⟩,⟨4,[],.slice a20 (l1.length+(Lib.encodeRune ((I7 (s.data.toList.drop i)).1)).length) cap21⟩,⟨5,[],.int .i64 (((i:Nat):Int)+(((I7 (s.data.toList.drop i)).2:Nat):Int))⟩]) kr (L6 (E':=[⟨0,[],.string s⟩,⟨4,[],.slice a20 ((l1++(Lib.encodeRune ((I7 (s.data.toList.drop i)).1))).length) cap21⟩,⟨5,[],.int .i64 (((i:Nat):Int)+(((I7 (s.data.toList.drop i)).2:Nat):Int))⟩]) (by rw [hln]) (F8 2 [2] (D2 (s':=(a20,cap21,g18,(l1++(Lib.encodeRune ((I7 (s.data.toList.drop i)).1))),i+(I7 (s.data.toList.drop i)).2)) [0,4,5] kr kr ⟨(O2 hO19 hln (by dsimp only; first | exact (Go.Sha.u8s_append _ _).symm | (rw [Go.Sha.u8s_append]; rfl))),(by dsimp only; omega),(by dsimp only; rw [hT,hst,map_map_app]),(by dsimp only; rw [List.length_append]; (try simp only [List.length_cons,List.length_nil]); omega)⟩ (by dsimp only; omega))))
 simp only [decide_eq_false_iff_not] at hc1
 have hfin:rfs s.data.toList=some l1:=by rw [hT,List.drop_eq_nil_of_le (by rw [G7]; omega)]; show some (l1++[])=_; rw [List.append_nil]
 refine E7 (A6 (A6 (B6 (A0 (A1 (A2 (A3 (j:=1) [0] (k:=Z8 (ch:=[]) (a:=ra) (cap:=rc) (e:=5) (S:=(inG rg)) (bk l1) (hrd:=F0 hO) (hS:=E0 0 rfl) (k:=?_)))))))))
 refine A5 [0,0] [2,3] (k:=A0 (B4 (F8 1 [] (B7 [.tmp 2,.tmp 3] [.string (bk l1),.bool true] (k:=?_)))))
 first | exact ⟨by rw [hfin]; rfl,rfl⟩ | exact ⟨by rw [hT,hst]; rfl,rfl⟩
end Go.Proofs.YtcgmnagcgkhogabGreatDoor
namespace Go.Xml
open Go.Esc Go.Json Go.Lib
theorem tg_open {f:Nat} {out:List AT} {l:List UInt8} {j z:Nat} (hb:l.drop z=blk (l.drop j)):Y7 (f+1) out (l.drop j)=if [47,62].isPrefixOf (l.drop z) then some (out,true,(l.drop z).drop 2) else if [62].isPrefixOf (l.drop z) then some (out,false,(l.drop z).drop 1) else if (l.drop z).length<(l.drop j).length then (match S3 (l.drop z) with | none=>none | some (x,r)=>Y7 f (out++[x]) r) else none:=by
 rw [Y7,← hb]; rfl
theorem tg_1 {f:Nat} {out:List AT} {l:List UInt8} {j z:Nat} (hb:l.drop z=blk (l.drop j)) (h:[47,62].isPrefixOf (l.drop z)=true):Y7 (f+1) out (l.drop j)=some (out,true,l.drop (z+2)):=by rw [tg_open hb,if_pos h,List.drop_drop]
theorem tg_2 {f:Nat} {out:List AT} {l:List UInt8} {j z:Nat} (hb:l.drop z=blk (l.drop j)) (h1:[47,62].isPrefixOf (l.drop z)=false) (h:[62].isPrefixOf (l.drop z)=true):Y7 (f+1) out (l.drop j)=some (out,false,l.drop (z+1)):=by rw [tg_open hb,if_neg (by rw [h1]; decide),if_pos h,List.drop_drop]
theorem tg_3 {f:Nat} {out:List AT} {l:List UInt8} {j z:Nat} (hb:l.drop z=blk (l.drop j)) (h1:[47,62].isPrefixOf (l.drop z)=false) (h2:[62].isPrefixOf (l.drop z)=false) (h:z=j):Y7 (f+1) out (l.drop j)=none:=by rw [tg_open hb,if_neg (by rw [h1]; decide),if_neg (by rw [h2]; decide),if_neg (by rw [h]; omega)]
theorem tg_4 {f:Nat} {out:List AT} {l:List UInt8} {j z:Nat} (hb:l.drop z=blk (l.drop j)) (h1:[47,62].isPrefixOf (l.drop z)=false) (h2:[62].isPrefixOf (l.drop z)=false) (h:S3 (l.drop z)=none):Y7 (f+1) out (l.drop j)=none:=by
 rw [tg_open hb,if_neg (by rw [h1]; decide),if_neg (by rw [h2]; decide)]
 split
 rw [h]
 rfl
theorem tg_5 {f:Nat} {out:List AT} {l:List UInt8} {j z y:Nat} {x:AT} (hb:l.drop z=blk (l.drop j)) (h1:[47,62].isPrefixOf (l.drop z)=false) (h2:[62].isPrefixOf (l.drop z)=false) (hz:j<z) (hl:z≤l.length) (h:S3 (l.drop z)=some (x,l.drop y)):Y7 (f+1) out (l.drop j)=Y7 f (out++[x]) (l.drop y):=by
 rw [tg_open hb,if_neg (by rw [h1]; decide),if_neg (by rw [h2]; decide),if_pos (by rw [List.length_drop,List.length_drop]; omega),h]
theorem at_q {l:List UInt8} (h:G5 l=none):S3 l=none:=by unfold S3; rw [h]
theorem at_e {l:List UInt8} {z y1 y2:Nat} {q:QN} (hq:G5 (l.drop z)=some (q,l.drop y1)) (hb:l.drop y2=blk (l.drop y1)) (h:[61].isPrefixOf (l.drop y2)=false):S3 (l.drop z)=none:=by
 unfold S3; rw [hq]; dsimp only; rw [← hb]; unfold O7; rw [if_neg (by rw [h]; decide)]
theorem at_c {l:List UInt8} {z y1 y2 y3:Nat} {q:QN} (hq:G5 (l.drop z)=some (q,l.drop y1)) (hb:l.drop y2=blk (l.drop y1)) (h:[61].isPrefixOf (l.drop y2)=true) (hb3:l.drop y3=blk (l.drop (y2+1))) :
  S3 (l.drop z)=match W7 (l.drop y3) with | none=>none | some (v,r2)=>if (60:UInt8)∈v then none else match refsE v with | none=>none | some x=>some (⟨q,x⟩,r2):=by
 unfold S3; rw [hq]; dsimp only; rw [← hb]; unfold O7; rw [if_pos h]; dsimp only [List.length_cons,List.length_nil]; rw [List.drop_drop,← hb3]; rfl
theorem quote_c {D:List UInt8} {c:UInt8} (hc:c=if [34].isPrefixOf D=true then 34 else 39):W7 D=if [c].isPrefixOf D then L2 [c] (D.drop 1) else none:=by
 unfold W7
 by_cases h:[34].isPrefixOf D=true
 rw [if_pos h] at hc ⊢; rw [hc,if_pos h]
 rw [if_neg h] at hc ⊢; rw [hc]
theorem at_w {l:List UInt8} {z y1 y2 y3:Nat} {q:QN} {c:UInt8} (hq:G5 (l.drop z)=some (q,l.drop y1)) (hb:l.drop y2=blk (l.drop y1)) (h:[61].isPrefixOf (l.drop y2)=true) (hb3:l.drop y3=blk (l.drop (y2+1))) (hc:c=if [34].isPrefixOf (l.drop y3)=true then 34 else 39) (hw:[c].isPrefixOf (l.drop y3)=false):S3 (l.drop z)=none:=by
 rw [at_c hq hb h hb3,quote_c hc,if_neg (by rw [hw]; decide)]
theorem at_all {l:List UInt8} {z y1 y2 y3 y4:Nat} {q:QN} {c:UInt8} {w:List UInt8} {ok:Bool} (hq:G5 (l.drop z)=some (q,l.drop y1)) (hb:l.drop y2=blk (l.drop y1)) (h:[61].isPrefixOf (l.drop y2)=true) (hb3:l.drop y3=blk (l.drop (y2+1))) (hc:c=if [34].isPrefixOf (l.drop y3)=true then 34 else 39) (hw:[c].isPrefixOf (l.drop y3)=true)
    (h1:ok=true→L2 [c] (l.drop (y3+1))=some (w,l.drop y4)) (h2:ok=false→L2 [c] (l.drop (y3+1))=none) :
    S3 (l.drop z)=if (ok&&!(w.any (·==60)))&&(rfs (B5 w)).isSome then some (⟨q,(rfs (B5 w)).getD []⟩,l.drop y4) else none:=by
  rw [at_c hq hb h hb3,quote_c hc,if_pos hw,List.drop_drop]
  cases ok with
  | false=>rw [h2 rfl]; rfl
  | true =>
    rw [h1 rfl]
    dsimp only
    unfold refsE
    by_cases h6:(60:UInt8)∈w
    rw [if_pos h6,show w.any (·==60)=true from List.any_eq_true.2 ⟨60,h6,rfl⟩]; rfl
    rw [if_neg h6,show w.any (·==60)=false from by
      rw [← Bool.not_eq_true,List.any_eq_true]
      rintro ⟨x,hx,he⟩
      rw [beq_iff_eq] at he; subst he; exact h6 hx]
    cases rfs (B5 w) with
    | none=>rfl
    | some x=>rfl
theorem any_snoc {w:List UInt8} {m:Nat} {b:UInt8} {ok v:Bool} (hm:m<w.length) (hb:b=w.getD m 0) (hv:v=(ok&&!((w.take m).any (·==60)))):(v&&((b.toNat:Int) != 60))=(ok&&!((w.take (m+1)).any (·==60))):=by
 rw [List.take_succ_eq_append_getElem hm,List.any_append,hv]
 have hb2:b=w[m]:=by rw [hb,List.getD_eq_getElem?_getD,List.getElem?_eq_getElem hm]; rfl
 have e:((b.toNat:Int) != 60)=!(w[m]==60):=by
  rw [← hb2,Bool.eq_iff_iff]
  simp only [bne_iff_ne,ne_eq,Bool.not_eq_true',beq_eq_false_iff_ne]
  constructor
  intro h h2; subst h2; exact h rfl
  intro h h2; exact h (UInt8.toNat_inj.1 (by show b.toNat=60; omega))
 rw [e]
 simp only [List.any_cons,List.any_nil,Bool.or_false]
 cases ok <;> cases (w.take m).any (·==60) <;> cases (w[m]==60) <;> rfl
end Go.Xml
namespace Go.Proofs.YtcgmnagcgkhogabGreatDoor
open Go.Sw Go.Sha Go.Esc Go.RowKit Go.Json Go.Xml
theorem rTto2_ (t:Nat) (l:List UInt8) (i:Nat) (hl:l.length≤1000000) (hi:i≤l.length) (w:List UInt8) (hw0:w.length≤100) (hwn:w≠[]) (W0:World) (H:List Grp):Tri Tryz.prog 76 #[pt t,.string (bk w)] W0 (Y2 t l (i:Int)::H) (fun v H'=>∃ (u:List UInt8) (ok:Bool) (y:Nat),i≤y∧y≤l.length∧u.length≤l.length∧v=.tuple #[.string (bk u),.bool ok]∧(ok=true→L2 w (l.drop i)=some (u,l.drop y))∧(ok=false→L2 w (l.drop i)=none)∧H'=Y2 t l (y:Int)::H):=by
 refine (rTto_ t l i hl hi w hw0 hwn W0 H).post fun v H' h=>⟨H',?_,fun _ h=>h⟩
 unfold L2
 rcases h with ⟨k,h,hl,hv,hH⟩ | ⟨h,hv,hH⟩
 refine ⟨_,_,_,by omega,hl,?_,hv,(fun _=>by rw [h,Option.map_some,List.drop_drop,← Nat.add_assoc]),(fun hn=>by cases hn),hH⟩
 rw [List.length_take,List.length_drop]; omega
 exact ⟨[],false,_,hi,Nat.le_refl _,Nat.zero_le _,hv,(fun hn=>by cases hn),(fun _=>by rw [h]; rfl),hH⟩
theorem mark_some {D:List UInt8} {y:QN × List UInt8} (h:(G5 D).isSome=true) (hq:∀ x,G5 D=some x→x=y):G5 D=some y:=by
 cases he:G5 D with
 | none=>rw [he] at h; cases h
 | some x=>rw [hq x he]
theorem fin_no {α:Type} {a b:Bool} {x y:α} (h:((!a)||(!b))=true):(if (a&&b)=true then x else y)=y:=by cases a <;> cases b <;> first | rfl | cases h
theorem fin_yes {α:Type} {a b:Bool} {x y:α} (h:((!a)||(!b))=false):(if (a&&b)=true then x else y)=x:=by cases a <;> cases b <;> first | rfl | cases h
theorem rTtag_ (t:Nat) (l:List UInt8) (i:Nat) (hl:l.length≤1000000) (hi:i≤l.length) (W0:World) (H:List Grp):Tri Tryz.prog 47 #[pt t] W0 ([(t,.cells #[.string (bk l),.int .i64 ((i:Nat):Int)] 53 (0,0))]::H) (fun v H'=>∃ j,i≤j∧j≤l.length∧((∃ ats c a cap g,Y7 ((l.drop i).length+1) [] (l.drop i)=some (ats,c,l.drop j)∧v=.tuple #[.slice a ats.length cap,.bool c,.bool true]∧Go.Sw.Own 85 4 (.slice a ats.length cap) g ats.length (atV ats)∧ats.length≤l.length∧H'=Y2 t l (j:Int)::g::H)∨(Y7 ((l.drop i).length+1) [] (l.drop i)=none∧v=.tuple #[.slice none 0 0,.bool false,.bool false]∧H'=Y2 t l (j:Int)::H))):=by
 have hbz:=C9 l
 refine D5 82 Tryz.func47 ?_
 refine A1 (C3 (E':=[⟨0,[],pt t⟩]) [0,0,0] [0] (k:=A0 (A1 (G_p [0] [0,5] (k:=A0 (B3 (R1 (H':=([]::[(t,.cells #[.string (bk l),.int .i64 ((i:Nat):Int)] 53 (0,0))]::H)) (fun w h=>h.flat (List.Perm.refl _)) (I6 (EI:=(fun ξ:Nat × Nat × Nat × Option Addr × Nat × Grp × List AT=>[⟨0,[],pt t⟩,⟨5,[],.slice ξ.2.2.2.1 ξ.2.2.1 ξ.2.2.2.2.1⟩])) (HI:=(fun ξ:Nat × Nat × Nat × Option Addr × Nat × Grp × List AT=>(ξ.2.2.2.2.2.1::[(t,.cells #[.string (bk l),.int .i64 ((ξ.1:Nat):Int)] 53 (0,0))]::H))) (Φ:=(fun ξ:Nat × Nat × Nat × Option Addr × Nat × Grp × List AT=>(i≤ξ.1)∧(ξ.1≤l.length)∧(l.length - ξ.1<ξ.2.1)∧(Go.Sw.Own 85 4 (.slice ξ.2.2.2.1 ξ.2.2.1 ξ.2.2.2.2.1) ξ.2.2.2.2.2.1 ξ.2.2.1 (atV ξ.2.2.2.2.2.2))∧(ξ.2.2.1=ξ.2.2.2.2.2.2.length)∧(ξ.2.2.1≤ξ.1)∧(Y7 ((l.drop i).length+1) [] (l.drop i)=Y7 ξ.2.1 ξ.2.2.2.2.2.2 (l.drop ξ.1)))) (μ:=(fun ξ:Nat × Nat × Nat × Option Addr × Nat × Grp × List AT=>l.length - ξ.1)) (s0:=(i,((l.drop i).length+1),0,none,0,[],[])) [0,5] kr kr ⟨(Nat.le_refl _),hi,(by dsimp only; rw [List.length_drop]; omega),Go.Sw.Own.nil,rfl,(Nat.zero_le _),rfl⟩ ?_))))))))
 rintro ⟨j,f,no,oa,oc,og,out⟩ ⟨hij,hj,hf,hO,hno,hnj,hT⟩
 dsimp only at hij hj hf hO hno hnj hT
 obtain ⟨f1,rfl⟩:∃ f1,f=f1+1:=⟨f - 1,by omega⟩
 refine B3 (A1 (A2 (A3 (j:=1) [0] (k:=M1 0 [1] (D9 Tryz.func44 (rTblanks_ t l j hl (by omega) _ _) ?_)))))
 rintro _ _ ⟨i1,hbi1,hbi1g,hbi1l,rfl,rfl⟩
 have hb1:=hbi1
 have hb1g:=hbi1g
 refine A5 [0] [0,5,6] (k:=A0 (A1 (A1 (A2 (A3 (j:=1) [0] (k:=D9 Tryz.func22 (R9 t l i1 hl (by omega) [47,62] (Nat.le_of_ble_eq_true rfl) _ _) ?_))))))
 rintro _ _ (⟨hk2,hk2l,rfl,rfl⟩ | ⟨hk2,rfl,rfl⟩)
 have hk2:[47,62].isPrefixOf (l.drop i1)=true:=hk2
 have hk2l:i1+2≤l.length:=hk2l
 have hfin:=tg_1 (f:=f1) (out:=out) hb1 hk2
 refine A5 [] [0,5,6,16] (k:=A0 (B9 kr (A1 (G_p [0,0,0,0] [2,3,4] (k:=A0 (B4 (A4 (B0 ?_))))))))
 refine A4 (B0 (B7 [.tmp 2,.tmp 3,.tmp 4] [.slice oa no oc,.bool true,.bool true] (k:=?_)))
 subst hno; exact ⟨_,by omega,by omega,.inl ⟨out,true,oa,oc,og,by rw [hT]; exact hfin,rfl,hO,by omega,rfl⟩⟩
 ·
  have hk2:[47,62].isPrefixOf (l.drop i1)=false:=hk2
  have h1:=hk2
  refine A5 [] [0,5,6,16] (k:=A0 (C5 kr (A7 (A0 (A1 (A1 (A2 (A3 (j:=1) [0] (k:=?_)))))))))
  refine D9 Tryz.func22 (R9 t l i1 hl (by omega) [62] (Nat.le_of_ble_eq_true rfl) _ _) ?_
  rintro _ _ (⟨hk3,hk3l,rfl,rfl⟩ | ⟨hk3,rfl,rfl⟩)
  have hk3:[62].isPrefixOf (l.drop i1)=true:=hk3
  have hk3l:i1+1≤l.length:=hk3l
  have hfin:=tg_2 (f:=f1) (out:=out) hb1 h1 hk3
  refine A5 [] [0,5,6,19] (k:=A0 (B9 kr (A1 (G_p [0,0,0,0] [2,3,4] (k:=A0 (B4 (A4 (B0 ?_))))))))
  refine A4 (B0 (B7 [.tmp 2,.tmp 3,.tmp 4] [.slice oa no oc,.bool false,.bool true] (k:=?_)))
  subst hno; exact ⟨_,by omega,by omega,.inl ⟨out,false,oa,oc,og,by rw [hT]; exact hfin,rfl,hO,by omega,rfl⟩⟩
  ·
   have hk3:[62].isPrefixOf (l.drop i1)=false:=hk3
   have h2:=hk3
   refine A5 [] [0,5,6,19] (k:=A0 (C5 kr (A7 (A0 (A1 (A2 (A3 (j:=1) [0] (k:=D9 Tryz.func46 (rTmark_ t l i1 hl (by omega) _ _) ?_))))))))
   rintro _ _ ⟨q4,z4,hq4g,hq4l,rfl,hq4,rfl⟩
   have hqv:=hq4
   refine A3 (j:=5) [0,0,0] (k:=J1 (.agg #[.string eB,.string eB,.string eB,.bool false]) (fun b5=>D0 0 0 (.agg #[.string (bk q4.pre),.string (bk q4.name),.string eB,.bool q4.has]) rfl (A5 [0] [0,5,6,7,8] (k:=A0 (A1 (A1 (G_p [0,0,0,0,0,5] [0,5,7,31] (k:=A0 ?_))))))))
   refine B1 (b:=(!((G5 (l.drop i1)).isSome))||((((i1:Nat):Int) - ((j:Nat):Int))==0)) kr (fun hc6=>?_) (fun hc6=>?_)
   have hfin:Y7 (f1+1) out (l.drop j)=none:=by
    have h9:=hc6
    rw [Bool.or_eq_true,Bool.not_eq_true',beq_iff_eq] at h9
    rcases h9 with h9 | h9
    exact tg_4 hb1 h1 h2 (at_q (by rwa [Option.isSome_eq_false_iff,Option.isNone_iff_eq_none] at h9))
    exact tg_3 hb1 h1 h2 (by omega)
   refine A1 (G_p [0,0,0] [2,3,4] (k:=A0 (B4 (A4 (B0 (A4 (B0 (F8 2 [1] ?_))))))))
   refine B7 [.tmp 2,.tmp 3,.tmp 4] [.slice none 0 0,.bool false,.bool false] (k:=?_)
   exact ⟨_,by omega,by omega,.inr ⟨by rw [hT]; exact hfin,rfl,rfl⟩⟩
   ·
    have h9:=hc6
    rw [Bool.or_eq_false_iff,Bool.not_eq_false',beq_eq_false_iff_ne] at h9
    have hq:=mark_some h9.1 hqv
    have hjz:j<_:=Nat.lt_of_le_of_ne hb1g (fun e=>h9.2 (by omega))
    refine A7 (A0 (A1 (A2 (A3 (j:=1) [0] (k:=M1 0 [1] (D9 Tryz.func44 (rTblanks_ t l z4 hl (by omega) _ _) ?_))))))
    rintro _ _ ⟨i7,hbi7,hbi7g,hbi7l,rfl,rfl⟩
    have hb2:=hbi7
    refine A5 [] [0,5,7] (k:=A0 (A1 (A1 (A2 (A3 (j:=1) [0] (k:=D9 Tryz.func22 (R9 t l i7 hl (by omega) [61] (Nat.le_of_ble_eq_true rfl) _ _) ?_))))))
    rintro _ _ (⟨hk8,hk8l,rfl,rfl⟩ | ⟨hk8,rfl,rfl⟩)
    ·
     have hk8:[61].isPrefixOf (l.drop i7)=true:=hk8
     have hk8l:i7+1≤l.length:=hk8l
     have h61:=hk8
     refine A5 [0] [0,5,7,36] (k:=A0 (C5 kr (A7 (A0 (A1 (A2 (A3 (j:=1) [0] (k:=D9 Tryz.func44 (rTblanks_ t l (i7+1) hl (by omega) _ _) ?_))))))))
     rintro _ _ ⟨i9,hbi9,hbi9g,hbi9l,rfl,rfl⟩
     have hb3:=hbi9
     refine A5 [] [0,5,7] (k:=A0 (A1 (G_p [0] [0,5,7,9] (k:=A0 (A1 (A1 (A2 (A3 (j:=1) [0] (k:=?_)))))))))
     refine D9 Tryz.func20 (rTlooks_ t l i9 hl (by omega) [34] (Nat.le_of_ble_eq_true rfl) _ _) ?_
     rintro _ _ ⟨rfl,rfl⟩
     refine A5 [] [0,5,7,9,40] (k:=A0 (P6 (T:=UInt8) (fun ξ:UInt8=>[⟨0,[],pt t⟩,⟨5,[],.slice oa no oc⟩,⟨7,[],pt b5⟩,⟨9,[],.string (bk [ξ])⟩]) (fun ξ:UInt8=>([(t,.cells #[.string (bk l),.int .i64 ((i9:Nat):Int)] 53 (0,0))]::[(b5,.cells #[.string (bk q4.pre),.string (bk q4.name),.string eB,.bool q4.has] 85 (0,0))]::og::H)) (fun ξ:UInt8=>(ξ=if [34].isPrefixOf (l.drop i9)=true then 34 else 39)) ?_ ?_))
     refine B1 (b:=([34].isPrefixOf (l.drop i9))) kr (fun hc10=>?_) (fun hc10=>?_)
     have hlk:=hc10
     refine G_p [0] [0,5,7,9] (k:=E6 (34) [0,5,7,9] kr (fun w h=>h) (by rw [if_pos hlk]))
     have hlk:=hc10
     refine A7 (E6 (39) [0,5,7,9] kr (fun w h=>h) (by rw [if_neg (by rw [hlk]; decide)]))
     ·
      rintro c hc
      try dsimp only at hc
      refine A0 (A1 (A1 (A2 (A3 (j:=2) [0,0] (k:=D9 Tryz.func22 (R9 t l i9 hl (by omega) ([c]) (Nat.le_of_ble_eq_true rfl) _ _) ?_)))))
      rintro _ _ (⟨hk11,hk11l,rfl,rfl⟩ | ⟨hk11,rfl,rfl⟩)
      have hk11:([c]).isPrefixOf (l.drop i9)=true:=hk11
      have hk11l:i9+([c]).length≤l.length:=hk11l
      have hw9:=hk11
      refine A5 [0] [0,5,7,9,44] (k:=A0 (C5 kr (A7 (A0 (A1 (A2 (A3 (j:=2) [0,0] (k:=D9 (vs:=[pt t,.string (bk [c])]) Tryz.func76 (rTto2_ t l (i9+([c]).length) hl (by omega) ([c]) (Nat.le_of_ble_eq_true rfl) (List.cons_ne_nil _ _) _ _) ?_))))))))
      rintro _ _ ⟨u9,ok9,y9,hyg9,hy9,hul9,rfl,hu1,hu2,rfl⟩
      refine A5 [0,0,0,0,0] [0,5,7,8,10] (k:=A0 (A1 (A1 (G_p [0] [0,5,7,8,10,11] (k:=A0 (B3 (I6 (EI:=(fun ξ:Nat × Bool=>[⟨0,[],pt t⟩,⟨5,[],.slice oa no oc⟩,⟨7,[],pt b5⟩,⟨8,[],.bool ξ.2⟩,⟨10,[],.string (bk u9)⟩,⟨11,[],.int .i64 ((ξ.1:Nat):Int)⟩])) (HI:=(fun ξ:Nat × Bool=>([(t,.cells #[.string (bk l),.int .i64 ((y9:Nat):Int)] 53 (0,0))]::[(b5,.cells #[.string (bk q4.pre),.string (bk q4.name),.string eB,.bool q4.has] 85 (0,0))]::og::H))) (Φ:=(fun ξ:Nat × Bool=>(ξ.1≤u9.length)∧(ξ.2=(ok9&&!((u9.take ξ.1).any (·==60)))))) (μ:=(fun ξ:Nat × Bool=>u9.length - ξ.1)) (s0:=(0,ok9)) [0,5,7,8,10,11] kr rfl ⟨(Nat.zero_le _),(by dsimp only; rw [List.take_zero]; show ok9=(ok9&&true); rw [Bool.and_true])⟩ ?_)))))))
      rintro ⟨m,v⟩ ⟨hm,hv⟩
      dsimp only at hm hv
      obtain ⟨b,hb⟩:∃ b:UInt8,b=u9.getD m 0:=⟨_,rfl⟩
      have hbyte:B2 (bk u9) (m:Int)=(b.toNat:Int):=by rw [byteJ,hb]
      refine A1 (A1 (G_p [0,0,0,0] [0,5,7,8,10,11,54] (k:=A0 (B1 (b:=decide (((m:Nat):Int)<((bk u9).size:Int))) kr (fun hc12=>?_) (fun hc12=>?_)))))
      simp only [decide_eq_true_eq] at hc12
      have hmu:m<u9.length:=by have:=C9 u9; omega
      refine A7 (A0 (A1 (B3 (A2 (A3 (j:=4) [0,0,0,0] (k:=P4 (ch:=[(58,true)]) (s:=(bk u9)) (kd:=.i64) (j:=((m:Nat):Int)) (hb:=(fun hc=>by have hg0:=Q9 (t:=58) (c:=[]) (b:=v) hc kr; (try simp at hg0); omega)) (k:=?_)))))))
      have hb13:=E5 (bk u9) ((m:Nat):Int)
      refine N7 61 [(58,true)] (x:=.int .u8 (B2 (bk u9) ((m:Nat):Int))) (y:=.int .u8 (b.toNat:Int)) (by rw [hbyte]) (A5 [0,6,0] [0,5,7,8,10,11] (k:=B8 (A0 (A2 (A3 (j:=2) [0,0] (k:=D1 56 (((m:Nat):Int)+1) (by omega) (by omega) kr (A5 [0] [0,5,7,8,10,11] (k:=D2 (s':=((m+1),v&&((b.toNat:Int) != 60))) [0,5,7,8,10,11] kr rfl ⟨(by dsimp only; omega),(by dsimp only; exact any_snoc hmu hb hv)⟩ (by dsimp only; omega)))))))))
      simp only [decide_eq_false_iff_not] at hc12
      have hmu:u9.take m=u9:=List.take_of_length_le (by have:=C9 u9; omega)
      rw [hmu] at hv
      have hA:=at_all hq hb2 h61 hb3 hc hw9 hu1 hu2
      rw [← hv] at hA
      refine E7 (A6 (A6 (B6 (A0 (A1 (A2 (A3 (j:=1) [0] (k:=H6 Tryz.func79 (rlines_ (bk u9) (by rw [C9]; omega) _ _) ?_))))))))
      refine H6 Tryz.func78 (rTrefs_ (bk (B5 u9)) (by rw [C9]; have:=N2 u9; omega) _ _) (A5 [0,0,0,0,0] [0,5,7,8,10,12] (k:=A0 (A1 (A1 (G_p [0,0,0,0,0,5] [0,5,7,10,75] (k:=A0 (B1 (b:=(!v)||(!((rfs (B5 u9)).isSome))) kr (fun hc15=>?_) (fun hc15=>?_))))))))
      have hfin:=tg_4 (f:=f1) (out:=out) hb1 h1 h2 (by rw [hA,fin_no hc15])
      refine A1 (G_p [0,0,0] [2,3,4] (k:=A0 (B4 (A4 (B0 (A4 (B0 (F8 2 [0] ?_))))))))
      refine B7 [.tmp 2,.tmp 3,.tmp 4] [.slice none 0 0,.bool false,.bool false] (k:=?_)
      exact ⟨_,by omega,by omega,.inr ⟨by rw [hT]; exact hfin,rfl,rfl⟩⟩
      rw [fin_yes hc15] at hA
      have hstep:=tg_5 (f:=f1) (out:=out) hb1 h1 h2 hjz (by omega) hA
      refine A7 (A0 (A1 (A2 (A3 (j:=2) [0,0] (k:=D0 1 2 (.string (bk ((rfs (B5 u9)).getD []))) rfl (A5 [] [0,5,7] (k:=A0 (A2 ?_))))))))
      refine A3 (j:=1) [0] (k:=M9 1 0 4 rfl (H0 85 1 [.string (bk q4.pre),.string (bk q4.name),.string (bk ((rfs (B5 u9)).getD [])),.bool q4.has] (fun b16=>L7 (inf:=Tryz.t85) 1 0 3 rfl rfl hO (by omega) (by show (no+1) * 56≤140737488355328; omega) (fun v17 g18 hO19=>?_))))
      obtain ⟨a20,cap21,rfl,hcap22,hrd23⟩:=hO19.shape
      refine A5 [0] [0,5] (k:=B8 (F8 2 [3,1] (D2 (s':=(y9,f1,(no+1),a20,cap21,g18,(out++[⟨q4,(rfs (B5 u9)).getD []⟩]))) [0,5] kr kr ⟨(by dsimp only; omega),(by dsimp only; omega),(by dsimp only; omega),(by dsimp only; rw [atV_app]; exact hO19),(by dsimp only; rw [List.length_append,List.length_cons,List.length_nil]; omega),(by dsimp only; omega),(by dsimp only; rw [hT]; exact hstep)⟩ (by dsimp only; omega))))
      have hk11:([c]).isPrefixOf (l.drop i9)=false:=hk11
      have hfin:=tg_4 (f:=f1) (out:=out) hb1 h1 h2 (at_w hq hb2 h61 hb3 hc hk11)
      refine A5 [0] [0,5,7,9,44] (k:=A0 (B9 kr (A1 (G_p [0,0,0] [2,3,4] (k:=A0 (B4 (A4 (B0 ?_))))))))
      refine A4 (B0 (F8 2 [0] (B7 [.tmp 2,.tmp 3,.tmp 4] [.slice none 0 0,.bool false,.bool false] (k:=?_))))
      exact ⟨_,by omega,by omega,.inr ⟨by rw [hT]; exact hfin,rfl,rfl⟩⟩
    have hk8:[61].isPrefixOf (l.drop i7)=false:=hk8
    have hfin:=tg_4 (f:=f1) (out:=out) hb1 h1 h2 (at_e hq hb2 hk8)
    refine A5 [0] [0,5,7,36] (k:=A0 (B9 kr (A1 (G_p [0,0,0] [2,3,4] (k:=A0 (B4 (A4 (B0 ?_))))))))
    refine A4 (B0 (F8 2 [0] (B7 [.tmp 2,.tmp 3,.tmp 4] [.slice none 0 0,.bool false,.bool false] (k:=?_))))
    exact ⟨_,by omega,by omega,.inr ⟨by rw [hT]; exact hfin,rfl,rfl⟩⟩
end Go.Proofs.YtcgmnagcgkhogabGreatDoor
namespace Go.Proofs.YtcgmnagcgkhogabGreatDoor
open Go.Sw Go.Sha Go.Esc Go.RowKit Go.Json Go.Xml
theorem rTadd_ (nb:Nat) (v0 v1 v2 v4:Value) (ks:List XN) (kn:Nat) (ka:Option Addr) (kc:Nat) (kg gs:Grp) (cs:List Value) (hkn:kn=ks.length) (hO:Go.Sw.Own 26 5 (.slice ka kn kc) kg kn cs) (hP:XRepL 59 26 ks cs gs) (s:List UInt8) (hs:s.length≤1000000000) (hb:kn≤1000002) (hlt:lastT ks≤1000000000000) (W0:World) (H:List Grp):Tri Tryz.prog 80 #[pt nb,.string (bk s)] W0 ([(nb,.cells #[v0,v1,v2,.slice ka kn kc,v4] 26 (0,0))]::kg::H) (fun _ H'=>∃ kn' ka' kc' kg' cs',kn'=(addX ks s).length∧Go.Sw.Own 26 5 (.slice ka' kn' kc') kg' kn' cs'∧XRepL 59 26 (addX ks s) cs' gs∧H'=[(nb,.cells #[v0,v1,v2,.slice ka' kn' kc',v4] 26 (0,0))]::kg'::H):=by
 have hcl:=hP.len
 refine D5 51 Tryz.func80 ?_
 refine A1 (A1 (G_p [0,0] [0,1,6] (k:=A0 (B1 (b:=(bk s).toList==eB.toList) kr (fun hc1=>?_) (fun hc1=>?_)))))
 have hs0:s=[]:=(eqB _ _).1 hc1
 refine B4 (A4 (B7 [] [] (k:=?_)))
 subst hs0; rw [add_nil]; exact ⟨_,_,_,_,_,hkn,hO,hP,rfl⟩
 have hs0:s≠[]:=(eqBf _ _).1 hc1
 refine A7 (A0 (A1 (A1 (A2 (A3 (j:=3) [0,0,0] (k:=C1 0 3 rfl rfl (A5 [0,0] [0,1,4] (k:=A0 ?_))))))))
 refine A1 ?_
 by_cases hk0:ks=[]
 have hn0:kn=0:=by rw [hkn,hk0]; rfl
 refine A2 (A3 (j:=2) [0,0] (k:=E3 13 (x:=.bool (decide (((kn:Nat):Int) > 0))) (y:=.bool false) (by rw [show decide (((kn:Nat):Int) > 0)=false from decide_eq_false (by omega)]) (A5 [0,1,1,1,1,1,1,1,1,1,1,3] [0,1,4,25] (k:=A0 (C5 kr (A7 (A0 (P6 (T:=Option Addr × Nat × Grp) (fun ξ:Option Addr × Nat × Grp=>[]) (fun ξ:Option Addr × Nat × Grp=>([(nb,.cells #[v0,v1,v2,.slice ξ.1 (kn+1) ξ.2.1,v4] 26 (0,0))]::ξ.2.2::H)) (fun ξ:Option Addr × Nat × Grp=>(Go.Sw.Own 26 5 (.slice ξ.1 (kn+1) ξ.2.1) ξ.2.2 (kn+1) (cs++[.string eB,.string eB,.slice none 0 0,.slice none 0 0,.string (bk s)]))) ?_ ?_))))))))
 refine H4 H kr (G1 (fuel:=13) [(0,0)] (fun w h=>(h.pk 2 [])) (k:=J4 (ad:=⟨nb,0,none⟩) 1 (hL:=(fun w h=>(h.pk 2 []))) (k:=G1 (fuel:=9) [(2,0),(4,0),(5,0)] (fun w h=>(h.pk 2 [])) (k:=H7 3 7 (k:=?_) (k':=?_)))))
 refine C1 0 3 rfl rfl (A9 kr (fun w h=>(h.pk 2 [])) (P9 (v:=.int .i64 ((kn:Nat):Int)) 6 (hL:=(fun w h=>(h.pk 2 []))) (k:=C6 7 (k:=H0 26 1 zN (fun b2=>A9 kr (fun w h=>(h.pk 3 [])) (M2 ([(b2,.cells zN.toArray 26 (0,0))]::H) (fun w h=>(h.pk 1 [])) (C6 8 (k:=L7 (inf:=Tryz.t26) 1 0 2 rfl rfl hO (by omega) (by show (kn+1) * 96≤140737488355328; omega) (fun v3 g4 hO5=>?_)))))))))
 obtain ⟨a6,cap7,rfl,hcap8,hrd9⟩:=hO5.shape
 refine A9 kr (fun w h=>(h.pkT 2 [0])) (J4 (ad:=⟨nb,0,none⟩) 11 (hL:=(fun w h=>(h.pkT 2 [0]))) (k:=G1 (fuel:=3) [(12,0)] (fun w h=>(h.pkT 2 [0])) (k:=H7 9 13 (k:=?_) (k':=?_))))
 refine E4 (a:=a6) (S:=(inG g4)) (cs:=(cs++zN)) (kn+1) ((kn:Nat):Int) 5 (F0 hO5) (by exact ⟨by omega,by omega,by intro h; have h2:=congrArg List.length h; rw [List.length_append] at h2; simp at h2⟩) (A9 kr (fun w h=>(h.pkT 2 [0])) (H7 10 13 (k:=?_) (k':=?_)))
 refine E2 (ch:=[]) (a:=a6) (q:=kn * 5) (len:=(kn+1)) (cap:=cap7) (v:=.agg #[.string eB,.string eB,.slice none 0 0,.slice none 0 0,.string (bk s)]) (g:=g4) (j:=2) (cs:=(cs++zN)) (cs':=(cs++[.string eB,.string eB,.slice none 0 0,.slice none 0 0,.string (bk s)])) (l:=[.string eB,.string eB,.slice none 0 0,.slice none 0 0,.string (bk s)]) (hO:=hO5) (hq:=(by rw [List.length_append,(show cs.length=kn * 5 by omega)]; exact Nat.le_refl _)) (h0:=List.cons_ne_nil _ _) (hcs:=F7 (z:=zN) (l:=[.string eB,.string eB,.slice none 0 0,.slice none 0 0,.string (bk s)]) (show cs.length=kn * 5 by omega) rfl) (k:=(fun g10 hO11=>?_))
 refine A9 kr (fun w h=>(h.pkT 2 [0])) (C6 13 (k:=D0 1 3 (.slice a6 (kn+1) cap7) rfl (A9 kr (fun w h=>(h.pkT 2 [0])) (D8 (E':=[]) [] (k:=E6 (a6,cap7,g10) [] kr (fun w h=>h.pkT 1 [1,1]) hO11)))))
 refine D0 1 3 (.slice a6 (kn+1) cap7) rfl (A9 kr (fun w h=>(h.pkT 2 [0])) (C6 10 (k:=E2 (ch:=[]) (a:=a6) (q:=kn * 5) (len:=(kn+1)) (cap:=cap7) (v:=.agg #[.string eB,.string eB,.slice none 0 0,.slice none 0 0,.string (bk s)]) (g:=g4) (j:=2) (cs:=(cs++zN)) (cs':=(cs++[.string eB,.string eB,.slice none 0 0,.slice none 0 0,.string (bk s)])) (l:=[.string eB,.string eB,.slice none 0 0,.slice none 0 0,.string (bk s)]) (hO:=hO5) (hq:=(by rw [List.length_append,(show cs.length=kn * 5 by omega)]; exact Nat.le_refl _)) (h0:=List.cons_ne_nil _ _) (hcs:=F7 (z:=zN) (l:=[.string eB,.string eB,.slice none 0 0,.slice none 0 0,.string (bk s)]) (show cs.length=kn * 5 by omega) rfl) (k:=(fun g12 hO13=>?_)))))
 refine A9 kr (fun w h=>(h.pkT 2 [0])) (D8 (E':=[]) [] (k:=E6 (a6,cap7,g12) [] kr (fun w h=>h.pkT 1 [1,1]) hO13))
 refine D0 1 3 (.slice a6 (kn+1) cap7) rfl (A9 kr (fun w h=>(h.pkT 2 [0])) (C6 9 (k:=E4 (a:=a6) (S:=(inG g4)) (cs:=(cs++zN)) (kn+1) ((kn:Nat):Int) 5 (F0 hO5) (by exact ⟨by omega,by omega,by intro h; have h2:=congrArg List.length h; rw [List.length_append] at h2; simp at h2⟩) (A9 kr (fun w h=>(h.pkT 2 [0])) (C6 10 (k:=E2 (ch:=[]) (a:=a6) (q:=kn * 5) (len:=(kn+1)) (cap:=cap7) (v:=.agg #[.string eB,.string eB,.slice none 0 0,.slice none 0 0,.string (bk s)]) (g:=g4) (j:=2) (cs:=(cs++zN)) (cs':=(cs++[.string eB,.string eB,.slice none 0 0,.slice none 0 0,.string (bk s)])) (l:=[.string eB,.string eB,.slice none 0 0,.slice none 0 0,.string (bk s)]) (hO:=hO5) (hq:=(by rw [List.length_append,(show cs.length=kn * 5 by omega)]; exact Nat.le_refl _)) (h0:=List.cons_ne_nil _ _) (hcs:=F7 (z:=zN) (l:=[.string eB,.string eB,.slice none 0 0,.slice none 0 0,.string (bk s)]) (show cs.length=kn * 5 by omega) rfl) (k:=(fun g14 hO15=>?_))))))))
 refine A9 kr (fun w h=>(h.pkT 2 [0])) (D8 (E':=[]) [] (k:=E6 (a6,cap7,g14) [] kr (fun w h=>h.pkT 1 [1,1]) hO15))
 refine H0 26 1 zN (fun b16=>A9 kr (fun w h=>(h.pk 3 [])) (M2 ([(b16,.cells zN.toArray 26 (0,0))]::H) (fun w h=>(h.pk 1 [])) (C6 3 (k:=C1 1 3 rfl rfl (A9 kr (fun w h=>(h.pk 2 [0])) (P9 (v:=.int .i64 ((kn:Nat):Int)) 6 (hL:=(fun w h=>(h.pk 2 [0]))) (k:=C6 8 (k:=L7 (inf:=Tryz.t26) 1 0 2 rfl rfl hO (by omega) (by show (kn+1) * 96≤140737488355328; omega) (fun v17 g18 hO19=>?_)))))))))
 obtain ⟨a20,cap21,rfl,hcap22,hrd23⟩:=hO19.shape
 refine A9 kr (fun w h=>(h.pkT 2 [0])) (J4 (ad:=⟨nb,0,none⟩) 11 (hL:=(fun w h=>(h.pkT 2 [0]))) (k:=G1 (fuel:=3) [(12,0)] (fun w h=>(h.pkT 2 [0])) (k:=H7 9 13 (k:=?_) (k':=?_))))
 refine E4 (a:=a20) (S:=(inG g18)) (cs:=(cs++zN)) (kn+1) ((kn:Nat):Int) 5 (F0 hO19) (by exact ⟨by omega,by omega,by intro h; have h2:=congrArg List.length h; rw [List.length_append] at h2; simp at h2⟩) (A9 kr (fun w h=>(h.pkT 2 [0])) (H7 10 13 (k:=?_) (k':=?_)))
 refine E2 (ch:=[]) (a:=a20) (q:=kn * 5) (len:=(kn+1)) (cap:=cap21) (v:=.agg #[.string eB,.string eB,.slice none 0 0,.slice none 0 0,.string (bk s)]) (g:=g18) (j:=2) (cs:=(cs++zN)) (cs':=(cs++[.string eB,.string eB,.slice none 0 0,.slice none 0 0,.string (bk s)])) (l:=[.string eB,.string eB,.slice none 0 0,.slice none 0 0,.string (bk s)]) (hO:=hO19) (hq:=(by rw [List.length_append,(show cs.length=kn * 5 by omega)]; exact Nat.le_refl _)) (h0:=List.cons_ne_nil _ _) (hcs:=F7 (z:=zN) (l:=[.string eB,.string eB,.slice none 0 0,.slice none 0 0,.string (bk s)]) (show cs.length=kn * 5 by omega) rfl) (k:=(fun g24 hO25=>?_))
 refine A9 kr (fun w h=>(h.pkT 2 [0])) (C6 13 (k:=D0 1 3 (.slice a20 (kn+1) cap21) rfl (A9 kr (fun w h=>(h.pkT 2 [0])) (D8 (E':=[]) [] (k:=E6 (a20,cap21,g24) [] kr (fun w h=>h.pkT 1 [1,1]) hO25)))))
 refine D0 1 3 (.slice a20 (kn+1) cap21) rfl (A9 kr (fun w h=>(h.pkT 2 [0])) (C6 10 (k:=E2 (ch:=[]) (a:=a20) (q:=kn * 5) (len:=(kn+1)) (cap:=cap21) (v:=.agg #[.string eB,.string eB,.slice none 0 0,.slice none 0 0,.string (bk s)]) (g:=g18) (j:=2) (cs:=(cs++zN)) (cs':=(cs++[.string eB,.string eB,.slice none 0 0,.slice none 0 0,.string (bk s)])) (l:=[.string eB,.string eB,.slice none 0 0,.slice none 0 0,.string (bk s)]) (hO:=hO19) (hq:=(by rw [List.length_append,(show cs.length=kn * 5 by omega)]; exact Nat.le_refl _)) (h0:=List.cons_ne_nil _ _) (hcs:=F7 (z:=zN) (l:=[.string eB,.string eB,.slice none 0 0,.slice none 0 0,.string (bk s)]) (show cs.length=kn * 5 by omega) rfl) (k:=(fun g26 hO27=>?_)))))
 refine A9 kr (fun w h=>(h.pkT 2 [0])) (D8 (E':=[]) [] (k:=E6 (a20,cap21,g26) [] kr (fun w h=>h.pkT 1 [1,1]) hO27))
 refine D0 1 3 (.slice a20 (kn+1) cap21) rfl (A9 kr (fun w h=>(h.pkT 2 [0])) (C6 9 (k:=E4 (a:=a20) (S:=(inG g18)) (cs:=(cs++zN)) (kn+1) ((kn:Nat):Int) 5 (F0 hO19) (by exact ⟨by omega,by omega,by intro h; have h2:=congrArg List.length h; rw [List.length_append] at h2; simp at h2⟩) (A9 kr (fun w h=>(h.pkT 2 [0])) (C6 10 (k:=E2 (ch:=[]) (a:=a20) (q:=kn * 5) (len:=(kn+1)) (cap:=cap21) (v:=.agg #[.string eB,.string eB,.slice none 0 0,.slice none 0 0,.string (bk s)]) (g:=g18) (j:=2) (cs:=(cs++zN)) (cs':=(cs++[.string eB,.string eB,.slice none 0 0,.slice none 0 0,.string (bk s)])) (l:=[.string eB,.string eB,.slice none 0 0,.slice none 0 0,.string (bk s)]) (hO:=hO19) (hq:=(by rw [List.length_append,(show cs.length=kn * 5 by omega)]; exact Nat.le_refl _)) (h0:=List.cons_ne_nil _ _) (hcs:=F7 (z:=zN) (l:=[.string eB,.string eB,.slice none 0 0,.slice none 0 0,.string (bk s)]) (show cs.length=kn * 5 by omega) rfl) (k:=(fun g28 hO29=>?_))))))))
 refine A9 kr (fun w h=>(h.pkT 2 [0])) (D8 (E':=[]) [] (k:=E6 (a20,cap21,g28) [] kr (fun w h=>h.pkT 1 [1,1]) hO29))
 rintro ⟨xa,xc,xg⟩ hxo
 dsimp only at hxo
 refine B7 [] [] (k:=?_)
 exact ⟨_,_,_,_,_,by rw [T8 hs0 (.inl hk0),List.length_append,hkn]; rfl,hxo,by rw [T8 hs0 (.inl hk0)]; have h2:=hP.snoc (XRep.text s); rwa [List.append_nil] at h2,rfl⟩
 obtain ⟨l0,v,cs0,c,g0,g1,e1,e2,e3,hP0,hPv⟩:=hP.last hk0
 have hcl0:=hP0.len
 have hvl:=hPv.len
 have hkl:kn=l0.length+1:=by rw [hkn,e1,List.length_append]; rfl
 refine A2 (A3 (j:=2) [0,0] (k:=E3 13 (x:=.bool (decide (((kn:Nat):Int) > 0))) (y:=.bool true) (by rw [show decide (((kn:Nat):Int) > 0)=true from decide_eq_true (by omega)]) (A3 (j:=6) [0,0,0,0] (k:=C2 (ch:=[(14,true)]) (b:=nb) (off:=3) (v:=.slice ka kn kc) (hA:=At.grp 0 0 rfl rfl) (k:=?_)))))
 have hw30:IntKind.wrap .i64 (((kn:Nat):Int) - 1)=((kn:Nat):Int) - 1:=w64 (by omega) (by omega)
 refine A3 (j:=9) [0,0] (k:=N7 20 [(14,true)] (x:=.int .i64 (IntKind.wrap .i64 (((kn:Nat):Int) - 1))) (y:=.int .i64 (((kn:Nat):Int) - 1)) (by simp only [hw30]) (K3 (ch:=[(14,true)]) (a:=ka) (len:=kn) (cap:=kc) (kd:=.i64) (j:=((kn:Nat):Int) - 1) (e:=26) (sz:=5) (S:=(inG kg)) (cs:=cs) (hrd:=F0 hO) (hb:=(fun hc=>by exact ⟨by omega,by omega,by intro h; have h2:=congrArg List.length h; rw [hcl,List.length_nil] at h2; omega⟩)) (k:=?_)))
 have hw31:Addr.add (eltA ka ((Int.toNat (((kn:Nat):Int) - 1)) * 5)) 1=eltA ka ((Int.toNat (((kn:Nat):Int) - 1)) * 5+1):=A0i _ _ _
 refine A3 (j:=11) [0] (k:=N7 22 [(14,true)] (x:=.pointer (some (Addr.add (eltA ka ((Int.toNat (((kn:Nat):Int) - 1)) * 5)) 1))) (y:=.pointer (some (eltA ka ((Int.toNat (((kn:Nat):Int) - 1)) * 5+1)))) (by simp only [hw31]) (GL_loadS (i:=11) (ch:=[(14,true)]) (a:=ka) (q:=(Int.toNat (((kn:Nat):Int) - 1)) * 5+1) (S:=(inG kg)) (cs:=cs) (v:=.string (bk v.name)) rfl rfl kr kr kr kr kr (F0 hO) (E0 1 rfl) (fun hc=>(by rw [e2,show Int.toNat (((kn:Nat):Int) - 1) * 5+1=cs0.length+1 by omega,List.getElem?_append_right (by omega),Nat.add_sub_cancel_left]; exact (kid_cells hPv).1)) ?_))
 refine A5 [0,2] [0,1,4,25] (k:=A0 (B1 (b:=(bk v.name).toList==eB.toList) kr (fun hc32=>?_) (fun hc32=>?_)))
 have hv:v.name=[]:=(eqB _ _).1 hc32
 refine A1 (A2 (A3 (j:=3) [0,0,0] (k:=C1 0 3 rfl rfl (A3 (j:=6) [0,0] (k:=D1 31 (((kn:Nat):Int) - 1) (by omega) (by omega) kr (E4 (a:=ka) (S:=(inG kg)) (cs:=cs) kn (((kn:Nat):Int) - 1) 5 (F0 hO) (by exact ⟨by omega,by omega,by intro h; have h2:=congrArg List.length h; rw [hcl,List.length_nil] at h2; omega⟩) ?_))))))
 have hw34:Addr.add (eltA ka ((Int.toNat (((kn:Nat):Int) - 1)) * 5)) 4=eltA ka ((Int.toNat (((kn:Nat):Int) - 1)) * 5+4):=A0i _ _ _
 refine A3 (j:=8) [0] (k:=E3 33 (x:=.pointer (some (Addr.add (eltA ka ((Int.toNat (((kn:Nat):Int) - 1)) * 5)) 4))) (y:=.pointer (some (eltA ka ((Int.toNat (((kn:Nat):Int) - 1)) * 5+4)))) (by simp only [hw34]) (H9 (a:=ka) (S:=(inG kg)) (cs:=cs) ((Int.toNat (((kn:Nat):Int) - 1)) * 5+4) (.string (bk v.text)) (F0 hO) (E0 1 rfl) (fun _=>(by rw [e2,show Int.toNat (((kn:Nat):Int) - 1) * 5+4=cs0.length+4 by omega,List.getElem?_append_right (by omega),Nat.add_sub_cancel_left]; exact (kid_cells hPv).2)) ?_))
 refine A3 (j:=10) [0] (k:=V4 (bk v.text) (bk s) (by intro _; rw [C9,C9]; have h2:=S0 l0 v; rw [← e1] at h2; omega) (E3 36 (x:=.string ((bk v.text)++(bk s))) (y:=.string (bk (v.text++s))) (by rw [bk_app]) (E4 (a:=ka) (S:=(inG kg)) (cs:=cs) kn (((kn:Nat):Int) - 1) 5 (F0 hO) (by exact ⟨by omega,by omega,by intro h; have h2:=congrArg List.length h; rw [hcl,List.length_nil] at h2; omega⟩) ?_)))
 have hw35:Addr.add (eltA ka ((Int.toNat (((kn:Nat):Int) - 1)) * 5)) 4=eltA ka ((Int.toNat (((kn:Nat):Int) - 1)) * 5+4):=A0i _ _ _
 refine A3 (j:=13) [0] (k:=E3 38 (x:=.pointer (some (Addr.add (eltA ka ((Int.toNat (((kn:Nat):Int) - 1)) * 5)) 4))) (y:=.pointer (some (eltA ka ((Int.toNat (((kn:Nat):Int) - 1)) * 5+4)))) (by simp only [hw35]) (GL_storeO (i:=13) (ch:=[]) (a:=ka) (q:=(Int.toNat (((kn:Nat):Int) - 1)) * 5+4) (len:=kn) (cap:=kc) (v:=.string (bk (v.text++s))) (g:=kg) (j:=1) (cs:=cs) (cs':=(cs0++c.set 4 (.string (bk (v.text++s))))) rfl rfl kr kr kr kr rfl kr kr kr rfl hO (by omega) (by rw [e2,show (Int.toNat (((kn:Nat):Int) - 1)) * 5+4=cs0.length+4 by omega,List.set_append_right _ _ (by omega),Nat.add_sub_cancel_left]) (fun g36 hO37=>?_)))
 refine C0 (E':=[]) [] [] (k:=A0 (B4 (A4 (B7 [] [] (k:=?_)))))
 exact ⟨_,_,_,_,_,by rw [e1,add_last hs0 hv,List.length_append]; exact hkl,hO37,by rw [e1,add_last hs0 hv,e3]; exact hP0.snoc (kid_text hPv hv s),rfl⟩
 have hv:v.name≠[]:=(eqBf _ _).1 hc32
 refine A7 (A0 (P6 (T:=Option Addr × Nat × Grp) (fun ξ:Option Addr × Nat × Grp=>[]) (fun ξ:Option Addr × Nat × Grp=>([(nb,.cells #[v0,v1,v2,.slice ξ.1 (kn+1) ξ.2.1,v4] 26 (0,0))]::ξ.2.2::H)) (fun ξ:Option Addr × Nat × Grp=>(Go.Sw.Own 26 5 (.slice ξ.1 (kn+1) ξ.2.1) ξ.2.2 (kn+1) (cs++[.string eB,.string eB,.slice none 0 0,.slice none 0 0,.string (bk s)]))) ?_ ?_))
 refine H4 H kr (G1 (fuel:=13) [(0,0)] (fun w h=>(h.pk 2 [])) (k:=J4 (ad:=⟨nb,0,none⟩) 1 (hL:=(fun w h=>(h.pk 2 []))) (k:=G1 (fuel:=9) [(2,0),(4,0),(5,0)] (fun w h=>(h.pk 2 [])) (k:=H7 3 7 (k:=?_) (k':=?_)))))
 refine C1 0 3 rfl rfl (A9 kr (fun w h=>(h.pk 2 [])) (P9 (v:=.int .i64 ((kn:Nat):Int)) 6 (hL:=(fun w h=>(h.pk 2 []))) (k:=C6 7 (k:=H0 26 1 zN (fun b38=>A9 kr (fun w h=>(h.pk 3 [])) (M2 ([(b38,.cells zN.toArray 26 (0,0))]::H) (fun w h=>(h.pk 1 [])) (C6 8 (k:=L7 (inf:=Tryz.t26) 1 0 2 rfl rfl hO (by omega) (by show (kn+1) * 96≤140737488355328; omega) (fun v39 g40 hO41=>?_)))))))))
 obtain ⟨a42,cap43,rfl,hcap44,hrd45⟩:=hO41.shape
 refine A9 kr (fun w h=>(h.pkT 2 [0])) (J4 (ad:=⟨nb,0,none⟩) 11 (hL:=(fun w h=>(h.pkT 2 [0]))) (k:=G1 (fuel:=3) [(12,0)] (fun w h=>(h.pkT 2 [0])) (k:=H7 9 13 (k:=?_) (k':=?_))))
 refine E4 (a:=a42) (S:=(inG g40)) (cs:=(cs++zN)) (kn+1) ((kn:Nat):Int) 5 (F0 hO41) (by exact ⟨by omega,by omega,by intro h; have h2:=congrArg List.length h; rw [List.length_append] at h2; simp at h2⟩) (A9 kr (fun w h=>(h.pkT 2 [0])) (H7 10 13 (k:=?_) (k':=?_)))
 refine E2 (ch:=[]) (a:=a42) (q:=kn * 5) (len:=(kn+1)) (cap:=cap43) (v:=.agg #[.string eB,.string eB,.slice none 0 0,.slice none 0 0,.string (bk s)]) (g:=g40) (j:=2) (cs:=(cs++zN)) (cs':=(cs++[.string eB,.string eB,.slice none 0 0,.slice none 0 0,.string (bk s)])) (l:=[.string eB,.string eB,.slice none 0 0,.slice none 0 0,.string (bk s)]) (hO:=hO41) (hq:=(by rw [List.length_append,(show cs.length=kn * 5 by omega)]; exact Nat.le_refl _)) (h0:=List.cons_ne_nil _ _) (hcs:=F7 (z:=zN) (l:=[.string eB,.string eB,.slice none 0 0,.slice none 0 0,.string (bk s)]) (show cs.length=kn * 5 by omega) rfl) (k:=(fun g46 hO47=>?_))
 refine A9 kr (fun w h=>(h.pkT 2 [0])) (C6 13 (k:=D0 1 3 (.slice a42 (kn+1) cap43) rfl (A9 kr (fun w h=>(h.pkT 2 [0])) (D8 (E':=[]) [] (k:=E6 (a42,cap43,g46) [] kr (fun w h=>h.pkT 1 [1,1]) hO47)))))
 refine D0 1 3 (.slice a42 (kn+1) cap43) rfl (A9 kr (fun w h=>(h.pkT 2 [0])) (C6 10 (k:=E2 (ch:=[]) (a:=a42) (q:=kn * 5) (len:=(kn+1)) (cap:=cap43) (v:=.agg #[.string eB,.string eB,.slice none 0 0,.slice none 0 0,.string (bk s)]) (g:=g40) (j:=2) (cs:=(cs++zN)) (cs':=(cs++[.string eB,.string eB,.slice none 0 0,.slice none 0 0,.string (bk s)])) (l:=[.string eB,.string eB,.slice none 0 0,.slice none 0 0,.string (bk s)]) (hO:=hO41) (hq:=(by rw [List.length_append,(show cs.length=kn * 5 by omega)]; exact Nat.le_refl _)) (h0:=List.cons_ne_nil _ _) (hcs:=F7 (z:=zN) (l:=[.string eB,.string eB,.slice none 0 0,.slice none 0 0,.string (bk s)]) (show cs.length=kn * 5 by omega) rfl) (k:=(fun g48 hO49=>?_)))))
 refine A9 kr (fun w h=>(h.pkT 2 [0])) (D8 (E':=[]) [] (k:=E6 (a42,cap43,g48) [] kr (fun w h=>h.pkT 1 [1,1]) hO49))
 refine D0 1 3 (.slice a42 (kn+1) cap43) rfl (A9 kr (fun w h=>(h.pkT 2 [0])) (C6 9 (k:=E4 (a:=a42) (S:=(inG g40)) (cs:=(cs++zN)) (kn+1) ((kn:Nat):Int) 5 (F0 hO41) (by exact ⟨by omega,by omega,by intro h; have h2:=congrArg List.length h; rw [List.length_append] at h2; simp at h2⟩) (A9 kr (fun w h=>(h.pkT 2 [0])) (C6 10 (k:=E2 (ch:=[]) (a:=a42) (q:=kn * 5) (len:=(kn+1)) (cap:=cap43) (v:=.agg #[.string eB,.string eB,.slice none 0 0,.slice none 0 0,.string (bk s)]) (g:=g40) (j:=2) (cs:=(cs++zN)) (cs':=(cs++[.string eB,.string eB,.slice none 0 0,.slice none 0 0,.string (bk s)])) (l:=[.string eB,.string eB,.slice none 0 0,.slice none 0 0,.string (bk s)]) (hO:=hO41) (hq:=(by rw [List.length_append,(show cs.length=kn * 5 by omega)]; exact Nat.le_refl _)) (h0:=List.cons_ne_nil _ _) (hcs:=F7 (z:=zN) (l:=[.string eB,.string eB,.slice none 0 0,.slice none 0 0,.string (bk s)]) (show cs.length=kn * 5 by omega) rfl) (k:=(fun g50 hO51=>?_))))))))
 refine A9 kr (fun w h=>(h.pkT 2 [0])) (D8 (E':=[]) [] (k:=E6 (a42,cap43,g50) [] kr (fun w h=>h.pkT 1 [1,1]) hO51))
 refine H0 26 1 zN (fun b52=>A9 kr (fun w h=>(h.pk 3 [])) (M2 ([(b52,.cells zN.toArray 26 (0,0))]::H) (fun w h=>(h.pk 1 [])) (C6 3 (k:=C1 1 3 rfl rfl (A9 kr (fun w h=>(h.pk 2 [0])) (P9 (v:=.int .i64 ((kn:Nat):Int)) 6 (hL:=(fun w h=>(h.pk 2 [0]))) (k:=C6 8 (k:=L7 (inf:=Tryz.t26) 1 0 2 rfl rfl hO (by omega) (by show (kn+1) * 96≤140737488355328; omega) (fun v53 g54 hO55=>?_)))))))))
 obtain ⟨a56,cap57,rfl,hcap58,hrd59⟩:=hO55.shape
 refine A9 kr (fun w h=>(h.pkT 2 [0])) (J4 (ad:=⟨nb,0,none⟩) 11 (hL:=(fun w h=>(h.pkT 2 [0]))) (k:=G1 (fuel:=3) [(12,0)] (fun w h=>(h.pkT 2 [0])) (k:=H7 9 13 (k:=?_) (k':=?_))))
 refine E4 (a:=a56) (S:=(inG g54)) (cs:=(cs++zN)) (kn+1) ((kn:Nat):Int) 5 (F0 hO55) (by exact ⟨by omega,by omega,by intro h; have h2:=congrArg List.length h; rw [List.length_append] at h2; simp at h2⟩) (A9 kr (fun w h=>(h.pkT 2 [0])) (H7 10 13 (k:=?_) (k':=?_)))
 refine E2 (ch:=[]) (a:=a56) (q:=kn * 5) (len:=(kn+1)) (cap:=cap57) (v:=.agg #[.string eB,.string eB,.slice none 0 0,.slice none 0 0,.string (bk s)]) (g:=g54) (j:=2) (cs:=(cs++zN)) (cs':=(cs++[.string eB,.string eB,.slice none 0 0,.slice none 0 0,.string (bk s)])) (l:=[.string eB,.string eB,.slice none 0 0,.slice none 0 0,.string (bk s)]) (hO:=hO55) (hq:=(by rw [List.length_append,(show cs.length=kn * 5 by omega)]; exact Nat.le_refl _)) (h0:=List.cons_ne_nil _ _) (hcs:=F7 (z:=zN) (l:=[.string eB,.string eB,.slice none 0 0,.slice none 0 0,.string (bk s)]) (show cs.length=kn * 5 by omega) rfl) (k:=(fun g60 hO61=>?_))
 refine A9 kr (fun w h=>(h.pkT 2 [0])) (C6 13 (k:=D0 1 3 (.slice a56 (kn+1) cap57) rfl (A9 kr (fun w h=>(h.pkT 2 [0])) (D8 (E':=[]) [] (k:=E6 (a56,cap57,g60) [] kr (fun w h=>h.pkT 1 [1,1]) hO61)))))
 refine D0 1 3 (.slice a56 (kn+1) cap57) rfl (A9 kr (fun w h=>(h.pkT 2 [0])) (C6 10 (k:=E2 (ch:=[]) (a:=a56) (q:=kn * 5) (len:=(kn+1)) (cap:=cap57) (v:=.agg #[.string eB,.string eB,.slice none 0 0,.slice none 0 0,.string (bk s)]) (g:=g54) (j:=2) (cs:=(cs++zN)) (cs':=(cs++[.string eB,.string eB,.slice none 0 0,.slice none 0 0,.string (bk s)])) (l:=[.string eB,.string eB,.slice none 0 0,.slice none 0 0,.string (bk s)]) (hO:=hO55) (hq:=(by rw [List.length_append,(show cs.length=kn * 5 by omega)]; exact Nat.le_refl _)) (h0:=List.cons_ne_nil _ _) (hcs:=F7 (z:=zN) (l:=[.string eB,.string eB,.slice none 0 0,.slice none 0 0,.string (bk s)]) (show cs.length=kn * 5 by omega) rfl) (k:=(fun g62 hO63=>?_)))))
 refine A9 kr (fun w h=>(h.pkT 2 [0])) (D8 (E':=[]) [] (k:=E6 (a56,cap57,g62) [] kr (fun w h=>h.pkT 1 [1,1]) hO63))
 refine D0 1 3 (.slice a56 (kn+1) cap57) rfl (A9 kr (fun w h=>(h.pkT 2 [0])) (C6 9 (k:=E4 (a:=a56) (S:=(inG g54)) (cs:=(cs++zN)) (kn+1) ((kn:Nat):Int) 5 (F0 hO55) (by exact ⟨by omega,by omega,by intro h; have h2:=congrArg List.length h; rw [List.length_append] at h2; simp at h2⟩) (A9 kr (fun w h=>(h.pkT 2 [0])) (C6 10 (k:=E2 (ch:=[]) (a:=a56) (q:=kn * 5) (len:=(kn+1)) (cap:=cap57) (v:=.agg #[.string eB,.string eB,.slice none 0 0,.slice none 0 0,.string (bk s)]) (g:=g54) (j:=2) (cs:=(cs++zN)) (cs':=(cs++[.string eB,.string eB,.slice none 0 0,.slice none 0 0,.string (bk s)])) (l:=[.string eB,.string eB,.slice none 0 0,.slice none 0 0,.string (bk s)]) (hO:=hO55) (hq:=(by rw [List.length_append,(show cs.length=kn * 5 by omega)]; exact Nat.le_refl _)) (h0:=List.cons_ne_nil _ _) (hcs:=F7 (z:=zN) (l:=[.string eB,.string eB,.slice none 0 0,.slice none 0 0,.string (bk s)]) (show cs.length=kn * 5 by omega) rfl) (k:=(fun g64 hO65=>?_))))))))
 refine A9 kr (fun w h=>(h.pkT 2 [0])) (D8 (E':=[]) [] (k:=E6 (a56,cap57,g64) [] kr (fun w h=>h.pkT 1 [1,1]) hO65))
 rintro ⟨xa,xc,xg⟩ hxo
 dsimp only at hxo
 refine B7 [] [] (k:=?_)
 exact ⟨_,_,_,_,_,by rw [T8 hs0 (.inr ⟨l0,v,e1,hv⟩),List.length_append,hkn]; rfl,hxo,by rw [T8 hs0 (.inr ⟨l0,v,e1,hv⟩)]; have h2:=hP.snoc (XRep.text s); rwa [List.append_nil] at h2,rfl⟩
end Go.Proofs.YtcgmnagcgkhogabGreatDoor
namespace Go.Xml
open Go.Esc Go.Json Go.Lib
theorem rfsF_len:∀ (n:Nat) (l x:List UInt8),rfsF n l=some x→x.length≤4 * l.length
  | 0,l,x,h=>by rw [rfsF] at h; injection h with h; subst h; exact Nat.zero_le _
  | n+1,[],x,h=>by rw [rfsF] at h; injection h with h; subst h; exact Nat.zero_le _
  | n+1,b::t,x,h=>by
    rw [rfsF] at h
    rw [List.length_cons]
    split at h
    cases hr:rfsF n t with
    | none=>rw [hr] at h; cases h
    | some y =>
      rw [hr] at h
      injection h with h
      have h1:=rfsF_len n t y hr
      rw [← h]; show ([b]++y).length≤_
      rw [List.length_append,List.length_cons,List.length_nil]; omega
    split at h
    cases h
    cases hr:rfsF n (t.drop (X7 t).2) with
    | none=>rw [hr] at h; cases h
    | some y =>
      rw [hr] at h
      injection h with h
      have h1:=rfsF_len n _ y hr
      have h2:=(enc_len (X7 t).1).2
      rw [List.length_drop] at h1
      rw [← h]; show (Lib.encodeRune _++y).length≤_
      rw [List.length_append]; omega
theorem rfs_len (l:List UInt8):((rfs l).getD []).length≤4 * l.length:=by
 cases h:rfs l with
 | none=>exact Nat.zero_le _
 | some x=>exact rfsF_len _ _ _ h
theorem pc_cdata {el:List UInt8→EX} {ks:List XN} {l:List UInt8} {i k:Nat} (h1:[60,33,91,67,68,65,84,65,91].isPrefixOf (l.drop i)=true) (h:idxL [93,93,62] (l.drop (i+9))=some k):M4 el ks (l.drop i)=.ok (addX ks (B5 ((l.drop (i+9)).take k)),l.drop (i+9+k+3)):=by
 unfold M4 L2
 rw [if_pos h1,List.drop_drop,h]
 show Except.ok (addX ks (B5 ((l.drop (i+9)).take k)),(l.drop (i+9)).drop (k+3))=_
 rw [List.drop_drop]; rfl
theorem pc_cdata0 {el:List UInt8→EX} {ks:List XN} {l:List UInt8} {i:Nat} (h1:[60,33,91,67,68,65,84,65,91].isPrefixOf (l.drop i)=true) (h:idxL [93,93,62] (l.drop (i+9))=none):M4 el ks (l.drop i)=.error 70:=by
 unfold M4 L2
 rw [if_pos h1,List.drop_drop,h]; rfl
theorem pc_else {el:List UInt8→EX} {ks:List XN} {D:List UInt8} (h1:[60,33,91,67,68,65,84,65,91].isPrefixOf D=false):M4 el ks D=match J9 D with
  | none=>.error 70
  | some (some r)=>.ok (ks,r)
  | some none=>if [60].isPrefixOf D then (match el (D.drop 1) with | .error e=>.error e | .ok (k,r)=>.ok (ks++[k],r)) else (match A0c D with | none=>.error 70 | some (x,r)=>.ok (addX ks x,r)):=by
 unfold M4; rw [if_neg (by rw [h1]; decide)]; rfl
theorem pc_bad {el:List UInt8→EX} {ks:List XN} {D:List UInt8} (h1:[60,33,91,67,68,65,84,65,91].isPrefixOf D=false) (h:J9 D=none):M4 el ks D=.error 70:=by rw [pc_else h1,h]
theorem pc_aside {el:List UInt8→EX} {ks:List XN} {D r:List UInt8} (h1:[60,33,91,67,68,65,84,65,91].isPrefixOf D=false) (h:J9 D=some (some r)):M4 el ks D=.ok (ks,r):=by rw [pc_else h1,h]
theorem pc_el {el:List UInt8→EX} {ks:List XN} {l:List UInt8} {i:Nat} {k:XN} {r:List UInt8} (h1:[60,33,91,67,68,65,84,65,91].isPrefixOf (l.drop i)=false) (h:J9 (l.drop i)=some none) (h2:[60].isPrefixOf (l.drop i)=true) (he:el (l.drop (i+1))=.ok (k,r)):M4 el ks (l.drop i)=.ok (ks++[k],r):=by rw [pc_else h1,h]; dsimp only; rw [if_pos h2,List.drop_drop,he]
theorem pc_el0 {el:List UInt8→EX} {ks:List XN} {l:List UInt8} {i:Nat} {e:Int} (h1:[60,33,91,67,68,65,84,65,91].isPrefixOf (l.drop i)=false) (h:J9 (l.drop i)=some none) (h2:[60].isPrefixOf (l.drop i)=true) (he:el (l.drop (i+1))=.error e):M4 el ks (l.drop i)=.error e:=by rw [pc_else h1,h]; dsimp only; rw [if_pos h2,List.drop_drop,he]
theorem pc_text {el:List UInt8→EX} {ks:List XN} {D:List UInt8} (h1:[60,33,91,67,68,65,84,65,91].isPrefixOf D=false) (h:J9 D=some none) (h2:[60].isPrefixOf D=false):M4 el ks D=match A0c D with | none=>.error 70 | some (x,r)=>.ok (addX ks x,r):=by rw [pc_else h1,h]; dsimp only; rw [if_neg (by rw [h2]; decide)]
structure TxI (l:List UInt8) (i j:Nat):Prop where
 ij:i≤j
 le:j≤l.length
 no:∀ m,i≤m→m<j→l.getD m 0≠60
 nb:∀ m,i≤m→m<j→[93,93,62].isPrefixOf (l.drop m)=false
theorem txI_0 {l:List UInt8} {i:Nat} (h:i≤l.length):TxI l i i:=⟨Nat.le_refl _,h,fun m h1 h2=>by omega,fun m h1 h2=>by omega⟩
theorem txI_s {l:List UInt8} {i j:Nat} (h:TxI l i j) (hj:j<l.length) (h1:l.getD j 0≠60) (h2:[93,93,62].isPrefixOf (l.drop j)=false):TxI l i (j+1) :=
 ⟨by have:=h.ij; omega,hj,fun m a b=>(Nat.lt_or_ge m j).elim (fun h9=>h.no m a h9) (fun h9=>by rw [show m=j by omega]; exact h1),
  fun m a b=>(Nat.lt_or_ge m j).elim (fun h9=>h.nb m a h9) (fun h9=>by rw [show m=j by omega]; exact h2)⟩
theorem idx_none {w:List UInt8}:∀ {l:List UInt8},w≠[]→(∀ m,m<l.length→w.isPrefixOf (l.drop m)=false)→idxL w l=none
  | [],hw,_=>by rw [idxL,if_neg hw]
  | b::l,hw,h=>by
    have h0:=h 0 (by rw [List.length_cons]; omega)
    rw [List.drop_zero] at h0
    rw [idxL,if_neg (by rw [h0]; decide),idx_none hw (fun m hm=>by have:=h (m+1) (by rw [List.length_cons]; omega); rwa [List.drop_succ_cons] at this)]; rfl
theorem idx_first {c:UInt8}:∀ {l:List UInt8} {k:Nat},k<l.length→(∀ m,m<k→l.getD m 0≠c)→l.getD k 0=c→idxL [c] l=some k
  | [],_,h,_,_=>absurd h (Nat.not_lt_zero _)
  | b::l,0,_,_,h=>by
    have:b=c:=h
    subst this
    rw [idxL,if_pos (by simp [List.isPrefixOf])]
  | b::l,k+1,hk,h,hc=>by
    have h0:b≠c:=h 0 (Nat.succ_pos _)
    rw [List.length_cons] at hk
    rw [idxL,if_neg (by simpa [List.isPrefixOf] using fun e=>h0 e.symm),idx_first (l:=l) (k:=k) (by omega) (fun m hm=>h (m+1) (by omega)) hc]; rfl
theorem idx_get {c:UInt8} {l:List UInt8} {k:Nat} (h:idxL [c] l=some k):l.getD k 0=c:=by
 have h1:=idx_pre h
 have h2:=idx_le h
 simp only [List.length_cons,List.length_nil] at h2
 rw [M5 l (show k<l.length by omega)] at h1
 exact (show c=l.getD k 0 by simpa [List.isPrefixOf] using h1).symm
theorem idx_nw {w:List UInt8} (hw:w≠[]):∀ {l:List UInt8},idxL w l=none→∀ m,w.isPrefixOf (l.drop m)=false
  | [],_,m=>by
    rw [List.drop_nil]; cases w with
    | nil=>exact absurd rfl hw
    | cons c w=>rfl
  | b::l,h,m=>by
    rw [idxL] at h
    split at h
    cases h
    rename_i h0
    cases m with
    | zero =>
      rw [List.drop_zero]
      cases h9:w.isPrefixOf (b::l) with
      | false=>rfl
      | true=>exact absurd h9 h0
    | succ m =>
      rw [List.drop_succ_cons]
      exact idx_nw hw (by cases hi:idxL w l with | none=>rfl | some x=>rw [hi] at h; cases h) m
theorem pre_take {w l:List UInt8} {n:Nat} (h:w.isPrefixOf (l.take n)=true):w.isPrefixOf l=true:=by
 rw [List.isPrefixOf_iff_prefix] at h ⊢
 exact h.trans (List.take_prefix _ _)
theorem tx_some {l:List UInt8} {i j:Nat} (h:TxI l i j) (hj:j<l.length) (hc:l.getD j 0=60):idxL [60] (l.drop i)=some (j - i)∧(idxL [93,93,62] ((l.drop i).take (j - i))).isSome=false:=by
  have hij:=h.ij
  refine ⟨idx_first (by rw [List.length_drop]; omega) (fun m hm=>?_) (by rw [W2 l hij]; exact hc),?_⟩
  have:=h.no (i+m) (by omega) (by omega)
  rwa [← W2 l (show i≤i+m by omega),Nat.add_sub_cancel_left] at this
  rw [idx_none (by decide) (fun m hm=>?_)]; rfl
  rw [List.length_take,List.length_drop] at hm
  cases hp:[93,93,62].isPrefixOf (((l.drop i).take (j - i)).drop m) with
  | false=>rfl
  | true =>
    rw [List.drop_take] at hp
    have h1:=pre_take hp
    rw [List.drop_drop,h.nb (i+m) (by omega) (by omega)] at h1; cases h1
theorem tx_none {l:List UInt8} {i j:Nat} (h:TxI l i j) (hj:j=l.length):idxL [60] (l.drop i)=none:=by
  refine idx_none (by decide) (fun m hm=>?_)
  rw [List.length_drop] at hm
  have h1:=h.no (i+m) (by omega) (by omega)
  cases hp:[60].isPrefixOf ((l.drop i).drop m) with
  | false=>rfl
  | true =>
    rw [List.drop_drop,M5 l (show i+m<l.length by omega)] at hp
    exact absurd (show (60:UInt8)=l.getD (i+m) 0 by simpa [List.isPrefixOf] using hp) (fun e=>h1 e.symm)
theorem tx_bad {l:List UInt8} {i j:Nat} (h:TxI l i j) (_:j<l.length) (hb:[93,93,62].isPrefixOf (l.drop j)=true):A0c (l.drop i)=none:=by
  have hij:=h.ij
  unfold A0c
  cases hk:idxL [60] (l.drop i) with
  | none=>rfl
  | some k =>
    have hlen:=pre_le hb
    rw [List.length_drop] at hlen
    simp only [List.length_cons,List.length_nil] at hlen
    have hkj:j - i+3≤k:=by
      rcases Nat.lt_or_ge k (j - i+3) with h9 | h9
      exfalso
      have hc:l.getD (i+k) 0=60:=by
        have:=idx_get hk
        rw [← W2 l (show i≤i+k by omega),Nat.add_sub_cancel_left]; exact this
      rcases Nat.lt_or_ge (i+k) j with h8 | h8
      exact h.no (i+k) (by omega) h8 hc
      obtain ⟨t,ht⟩:=List.isPrefixOf_iff_prefix.1 hb
      have e:l.getD (i+k) 0=(l.drop j).getD (i+k - j) 0:=(W2 l h8).symm
      rw [e,← ht] at hc
      rcases (show i+k - j=0∨i+k - j=1∨i+k - j=2 by omega) with h7 | h7 | h7 <;> (rw [h7] at hc; exact absurd hc (by show ¬ _=(60:UInt8); simp))
      exact h9
    dsimp only
    rw [if_pos]
    have:[93,93,62].isPrefixOf (((l.drop i).take k).drop (j - i))=true:=by
      rw [List.drop_take,List.drop_drop,show i+(j - i)=j by omega]
      obtain ⟨t,ht⟩:=List.isPrefixOf_iff_prefix.1 hb
      rw [List.isPrefixOf_iff_prefix,← ht,List.take_append,List.take_of_length_le (by simp; omega)]
      exact List.prefix_append _ _
    cases hi:idxL [93,93,62] ((l.drop i).take k) with
    | some _=>rfl
    | none=>exact absurd this (by rw [idx_nw (by decide) hi (j - i)]; decide)
theorem tx_ok {l:List UInt8} {i j:Nat} (h:TxI l i j) (hj:j<l.length) (hc:l.getD j 0=60):A0c (l.drop i)=(rfs (B5 ((l.drop i).take (j - i)))).map fun x=>(x,l.drop j):=by
 obtain ⟨h1,h2⟩:=tx_some h hj hc
 have hij:=h.ij
 unfold A0c
 rw [h1]
 dsimp only
 rw [if_neg (by rw [h2]; decide),List.drop_drop,show i+(j - i)=j by omega]
 unfold refsE
 cases rfs (B5 ((l.drop i).take (j - i))) <;> rfl
theorem tx_end {l:List UInt8} {i j:Nat} (h:TxI l i j) (hj:j=l.length):A0c (l.drop i)=none:=by
 unfold A0c; rw [tx_none h hj]
theorem tx_fail {l:List UInt8} {i j:Nat} (h:TxI l i j) (hs:j=l.length∨l.getD j 0=60) (hb:((!(rfs (B5 ((l.drop i).take (j - i)))).isSome)||(((j:Nat):Int)==((l.length:Nat):Int)))=true):A0c (l.drop i)=none:=by
 rcases Nat.lt_or_ge j l.length with hj | hj
 rw [tx_ok h hj (hs.resolve_left (by omega))]
 rw [Bool.or_eq_true,beq_iff_eq] at hb
 have hb:=hb.resolve_right (by omega)
 cases hr:rfs (B5 ((l.drop i).take (j - i))) with
 | none=>rfl
 | some x=>rw [hr] at hb; cases hb
 exact tx_end h (by have:=h.le; omega)
theorem tx_good {l:List UInt8} {i j:Nat} (h:TxI l i j) (hs:j=l.length∨l.getD j 0=60) (hb:((!(rfs (B5 ((l.drop i).take (j - i)))).isSome)||(((j:Nat):Int)==((l.length:Nat):Int)))=false):A0c (l.drop i)=some ((rfs (B5 ((l.drop i).take (j - i)))).getD [],l.drop j)∧j<l.length:=by
 rw [Bool.or_eq_false_iff,beq_eq_false_iff_ne] at hb
 have hj:j<l.length:=by have:=h.le; omega
 refine ⟨?_,hj⟩
 rw [tx_ok h hj (hs.resolve_left (by omega))]
 cases hr:rfs (B5 ((l.drop i).take (j - i))) with
 | none=>rw [hr] at hb; cases hb.1
 | some x=>rfl
theorem tx_go {l:List UInt8} {i j:Nat} (h:TxI l i j) (hj:j<l.length) (hc:l.getD j 0=60) (h2:[60].isPrefixOf (l.drop i)=false):i<j:=by
 rcases Nat.lt_or_ge i j with h9 | h9
 exact h9
 have:=h.ij
 obtain rfl:i=j:=by omega
 rw [M5 l hj,hc] at h2
 exact absurd h2 (by simp [List.isPrefixOf])
end Go.Xml
namespace Go.Proofs.YtcgmnagcgkhogabGreatDoor
open Go.Sw Go.Sha Go.Esc Go.RowKit Go.Json Go.Xml
theorem rTpiece_ (t:Nat) (l:List UInt8) (i:Nat) (hl:l.length≤1000000) (hi:i≤l.length) (nb:Nat) (v0 v1 v2 v4:Value) (ks:List XN) (kn:Nat) (ka:Option Addr) (kc:Nat) (kg gs:Grp) (cs:List Value) (hkn:kn=ks.length) (hO:Go.Sw.Own 26 5 (.slice ka kn kc) kg kn cs) (hP:XRepL 59 26 ks cs gs) (hb:kn≤i) (hlt:lastT ks≤4 * i) (d:Int) (hd:0≤d∧d≤24) (el:List UInt8→EX) (sa:Option Addr) (sn sc:Nat) (S:Nat→Obj→Prop) (hel:∀ (i:Nat),i≤l.length→∀ (W0:World) (H:List Grp),(∀ y o,S y o→At W0 H y o)→Tri Tryz.prog 23 #[pt t,.int .i64 (d+1),.slice sa sn sc] W0 (Y2 t l (i:Int)::H) (fun v H2=>(∃ k j c g,el (l.drop i)=.ok (k,l.drop j)∧i≤j∧j≤l.length∧k.text=[]∧XRep 59 26 k c g∧v=.tuple #[.agg c.toArray,.int .i64 0]∧H2=Y2 t l (j:Int)::g::H)∨(∃ e z,el (l.drop i)=.error e∧e≠0∧z≤l.length∧v=.tuple #[.agg zN.toArray,.int .i64 e]∧H2=Y2 t l ((z:Nat):Int)::H))) (W0:World) (H:List Grp) (hS:∀ y o,S y o→At W0 H y o):Tri Tryz.prog 49 #[pt t,pt nb,.int .i64 d,.slice sa sn sc] W0 ([(t,.cells #[.string (bk l),.int .i64 ((i:Nat):Int)] 53 (0,0))]::[(nb,.cells #[v0,v1,v2,.slice ka kn kc,v4] 26 (0,0))]::kg::gs::H) (fun v H'=>(∃ ks' j kn' ka' kc' kg' cs' gs',M4 el ks (l.drop i)=.ok (ks',l.drop j)∧i<j∧j≤l.length∧v=.int .i64 0∧kn'=ks'.length∧Go.Sw.Own 26 5 (.slice ka' kn' kc') kg' kn' cs'∧XRepL 59 26 ks' cs' gs'∧kn'≤j∧lastT ks'≤4 * j∧H'=Y2 t l (j:Int)::[(nb,.cells #[v0,v1,v2,.slice ka' kn' kc',v4] 26 (0,0))]::kg'::gs'::H)∨(∃ e z c kg',M4 el ks (l.drop i)=.error e∧e≠0∧z≤l.length∧v=.int .i64 e∧H'=Y2 t l ((z:Nat):Int)::[(nb,.cells c 26 (0,0))]::kg'::H)):=by
 have hbz:=C9 l
 have hcl:=hP.len
 refine D5 127 Tryz.func49 ?_
 refine A1 (G_p [0] [0,1,2,3] (k:=A0 (A1 (A1 (A2 (A3 (j:=1) [0] (k:=D9 Tryz.func22 (R9 t l i hl (by omega) [60,33,91,67,68,65,84,65,91] (Nat.le_of_ble_eq_true rfl) _ _) ?_)))))))
 rintro _ _ (⟨hk1,hk1l,rfl,rfl⟩ | ⟨hk1,rfl,rfl⟩)
 have hk1:[60,33,91,67,68,65,84,65,91].isPrefixOf (l.drop i)=true:=hk1
 have hk1l:i+9≤l.length:=hk1l
 have h1:=hk1
 refine A5 [] [0,1,2,3,18] (k:=A0 (B9 kr (A1 (A2 (A3 (j:=1) [0] (k:=D9 (vs:=[pt t,.string (mB #[93,93,62])]) Tryz.func76 (rTto_ t l (i+9) hl (by omega) [93,93,62] (Nat.le_of_ble_eq_true rfl) (List.cons_ne_nil _ _) _ _) ?_))))))
 rintro _ _ (⟨k2,hu2,hu2l,rfl,rfl⟩ | ⟨hu2,rfl,rfl⟩)
 have hu2:idxL [93,93,62] (l.drop (i+9))=some k2:=hu2
 have hu2l:(i+9)+k2+3≤l.length:=hu2l
 have hfin:=pc_cdata (el:=el) (ks:=ks) h1 hu2
 refine A5 [0,0,0,0,0] [1,9,10] (k:=A0 (A1 (A1 (G_p [0,0] [1,9,25] (k:=A0 (C5 kr (A7 (A0 ?_))))))))
 refine A1 (A2 (A3 (j:=2) [0,0] (k:=H6 Tryz.func79 (rlines_ (bk ((l.drop (i+9)).take k2)) (by rw [C9,List.length_take,List.length_drop]; omega) _ _) (M1 0 [1,1] (D9 Tryz.func80 (rTadd_ nb v0 v1 v2 v4 ks kn ka kc kg gs cs hkn hO hP (B5 ((l.drop (i+9)).take k2)) (by have hE9q:=N2 ((l.drop (i+9)).take k2); rw [List.length_take,List.length_drop] at hE9q; omega) (by omega) (by omega) _ _) ?_)))))
 rintro _ _ ⟨knE,kaE,kcE,kgE,csE,hkE,hOE,hPE,rfl⟩
 have hlnE:=add_len ks (B5 ((l.drop (i+9)).take k2))
 have hltE:=lastT_add ks (B5 ((l.drop (i+9)).take k2))
 refine C0 (E':=[]) [] [] (k:=A0 (A1 (C3 (E':=[⟨8,[],.int .i64 0⟩]) [0] [8] (k:=A0 (B4 (A4 (F8 0 [2,0,0,0] (B7 [.tmp 8] [.int .i64 0] (k:=?_)))))))))
 have hE9q:=N2 ((l.drop (i+9)).take k2); rw [List.length_take,List.length_drop] at hE9q
 exact .inl ⟨_,_,knE,kaE,kcE,kgE,csE,gs,hfin,by omega,by omega,rfl,hkE,hOE,hPE,by omega,by omega,rfl⟩
 have hu2:idxL [93,93,62] (l.drop (i+9))=none:=hu2
 have hfin:=pc_cdata0 (el:=el) (ks:=ks) h1 hu2
 refine A5 [0,0,0,0,0] [1,9,10] (k:=A0 (A1 (A1 (G_p [0,0] [1,9,25] (k:=A0 (B9 kr (A1 (C3 (E':=[⟨8,[],.int .i64 70⟩]) [0] [8] (k:=?_)))))))))
 refine A0 (B4 (A4 (A4 (F8 1 [0,0,0] (B7 [.tmp 8] [.int .i64 70] (k:=?_))))))
 exact .inr ⟨70,_,_,_,hfin,by decide,by omega,rfl,rfl⟩
 have hk1:[60,33,91,67,68,65,84,65,91].isPrefixOf (l.drop i)=false:=hk1
 have h1:=hk1
 refine A5 [] [0,1,2,3,18] (k:=A0 (C5 kr (A7 (A0 (A1 (A2 (A3 (j:=1) [0] (k:=D9 Tryz.func45 (rTaside_ t l i hl (by omega) _ _) ?_))))))))
 rintro _ _ ⟨z3,ha3g,ha3l,⟨ha3s,ha3,rfl⟩ | ⟨ha3,ha3s,rfl⟩ | ⟨ha3,rfl⟩,rfl⟩
 have hfin:=pc_aside (el:=el) (ks:=ks) h1 ha3
 refine A5 [0,0,0,0,0] [0,1,2,3,11,12] (k:=A0 (A1 (A1 (G_p [0,0] [0,1,2,3,11,36] (k:=A0 (C5 kr (A7 (A0 ?_))))))))
 refine A1 (A1 (G_p [0] [0,1,2,3,37] (k:=A0 (B9 kr (A1 (C3 (E':=[⟨8,[],.int .i64 0⟩]) [0] [8] (k:=A0 (B4 ?_))))))))
 refine A4 (B7 [.tmp 8] [.int .i64 0] (k:=?_))
 exact .inl ⟨ks,_,kn,ka,kc,kg,cs,gs,hfin,by omega,by omega,rfl,hkn,hO,hP,by omega,by omega,rfl⟩
 have has:=ha3
 refine A5 [0,0,0,0,0] [0,1,2,3,11,12] (k:=A0 (A1 (A1 (G_p [0,0] [0,1,2,3,11,36] (k:=A0 (C5 kr (A7 (A0 ?_))))))))
 refine A1 (A1 (G_p [0] [0,1,2,3,37] (k:=A0 (C5 kr (A7 (A0 (A1 (A1 ?_))))))))
 refine A2 (A3 (j:=1) [0] (k:=D9 Tryz.func22 (R9 t l z3 hl (by omega) [60] (Nat.le_of_ble_eq_true rfl) _ _) ?_))
 rintro _ _ (⟨hk4,hk4l,rfl,rfl⟩ | ⟨hk4,rfl,rfl⟩)
 have hk4:[60].isPrefixOf (l.drop z3)=true:=hk4
 have hk4l:z3+1≤l.length:=hk4l
 have h3:=hk4
 rw [ha3s] at h3
 refine A5 [] [0,1,2,3,39] (k:=A0 (B9 kr (A1 (A2 (A3 (j:=3) [0,0,0] (k:=D1 43 (d+1) (by omega) (by omega) kr (A3 (j:=4) [0] (k:=D9 Tryz.func23 (hel (z3+1) (by omega) _ _ (fun y o h=>At.cons (At.cons (At.cons (hS y o h))))) ?_))))))))
 rintro _ _ (⟨kE,jE,cE,gE,heE,hjEg,hjE,hkE,hJE,rfl,rfl⟩ | ⟨eE,zE,heE,hneE,hzE,rfl,rfl⟩)
 obtain ⟨eE0q,eE1q,eE2q,eE3q,eE4q,rfl,hEc⟩:=hJE.cells5
 refine A3 (j:=8) [0,0,0] (k:=J1 (.agg zN.toArray) (fun b6=>?_))
 refine GL_st (ch:=[]) (b:=b6) (off:=0) (v:=.agg #[eE0q,eE1q,eE2q,eE3q,eE4q]) (j:=0) ([(b6,.cells #[eE0q,eE1q,eE2q,eE3q,eE4q] 26 (0,0))]::[(t,.cells #[.string (bk l),.int .i64 ((jE:Nat):Int)] 53 (0,0))]::gE::[(nb,.cells #[v0,v1,v2,.slice ka kn kc,v4] 26 (0,0))]::kg::gs::H) (h1:=hEc) (hoff:=Nat.le_of_ble_eq_true rfl) (hfz:=(fun _ _=>thaw0)) (k:=A5 [0] [1,13,14] (k:=A0 (A1 (P6 (T:=Option Addr × Nat × Grp × List Value × Grp) (fun ξ:Option Addr × Nat × Grp × List Value × Grp=>[⟨14,[],.int .i64 0⟩]) (fun ξ:Option Addr × Nat × Grp × List Value × Grp=>([(b6,.cells #[eE0q,eE1q,eE2q,eE3q,eE4q] 26 (0,0))]::[(t,.cells #[.string (bk l),.int .i64 ((jE:Nat):Int)] 53 (0,0))]::ξ.2.2.2.2::[(nb,.cells #[v0,v1,v2,.slice ξ.1 (kn+1) ξ.2.1,v4] 26 (0,0))]::ξ.2.2.1::gs::H)) (fun ξ:Option Addr × Nat × Grp × List Value × Grp=>(Go.Sw.Own 26 5 (.slice ξ.1 (kn+1) ξ.2.1) ξ.2.2.1 (kn+1) (cs++ξ.2.2.2.1))∧(XRep 59 26 kE ξ.2.2.2.1 ξ.2.2.2.2)) ?_ ?_))))
 refine H4 ([(b6,.cells #[eE0q,eE1q,eE2q,eE3q,eE4q] 26 (0,0))]::gE::gs::H) kr (G1 (fuel:=12) [(0,0)] (fun w h=>(h.pk 3 [0,1,3])) (k:=J4 (ad:=⟨nb,0,none⟩) 1 (hL:=(fun w h=>(h.pk 3 [0,1,3]))) (k:=G1 (fuel:=10) [(2,0)] (fun w h=>(h.pk 3 [0,1,3])) (k:=F6 4 kr (fun w h=>(h.pk 3 [0,1,3])) (M9 0 0 5 rfl (G6 kr rfl)) (H7 3 6 (k:=?_) (k':=?_))))))
 refine C1 3 3 rfl rfl (A9 kr (fun w h=>(h.pk 3 [0,1,3])) (P9 (v:=.int .i64 ((kn:Nat):Int)) 5 (hL:=(fun w h=>(h.pk 3 [0,1,3]))) (k:=C6 6 (k:=H0 26 1 zN (fun b7=>A9 kr (fun w h=>(h.pk 4 [1,2,4])) (M2 ([(b7,.cells zN.toArray 26 (0,0))]::[(b6,.cells #[eE0q,eE1q,eE2q,eE3q,eE4q] 26 (0,0))]::gE::gs::H) (fun w h=>(h.pk 1 [1,1,1])) (C6 7 (k:=L7 (inf:=Tryz.t26) 1 0 5 rfl rfl hO (by omega) (by show (kn+1) * 96≤140737488355328; omega) (fun v8 g9 hO10=>?_)))))))))
 obtain ⟨a11,cap12,rfl,hcap13,hrd14⟩:=hO10.shape
 refine A9 kr (fun w h=>(h.pkT 3 [0,0,1,3])) (J4 (ad:=⟨nb,0,none⟩) 10 (hL:=(fun w h=>(h.pkT 3 [0,0,1,3]))) (k:=G1 (fuel:=3) [(11,0)] (fun w h=>(h.pkT 3 [0,0,1,3])) (k:=H7 8 12 (k:=?_) (k':=?_))))
 refine E4 (a:=a11) (S:=(inG g9)) (cs:=(cs++zN)) (kn+1) ((kn:Nat):Int) 5 (F0 hO10) (by exact ⟨by omega,by omega,by intro h; have h2:=congrArg List.length h; rw [List.length_append] at h2; simp at h2⟩) (A9 kr (fun w h=>(h.pkT 3 [0,0,1,3])) (H7 9 12 (k:=?_) (k':=?_)))
 refine E2 (ch:=[]) (a:=a11) (q:=kn * 5) (len:=(kn+1)) (cap:=cap12) (v:=.agg #[eE0q,eE1q,eE2q,eE3q,eE4q]) (g:=g9) (j:=5) (cs:=(cs++zN)) (cs':=(cs++[eE0q,eE1q,eE2q,eE3q,eE4q])) (l:=[eE0q,eE1q,eE2q,eE3q,eE4q]) (h1:=hEc) (hO:=hO10) (hq:=(by rw [List.length_append,(show cs.length=kn * 5 by rw [hP.len]; omega)]; exact Nat.le_refl _)) (h0:=List.cons_ne_nil _ _) (hcs:=F7 (z:=zN) (l:=[eE0q,eE1q,eE2q,eE3q,eE4q]) (show cs.length=kn * 5 by rw [hP.len]; omega) rfl) (k:=(fun g15 hO16=>?_))
 refine A9 kr (fun w h=>(h.pkT 3 [0,0,1,3])) (C6 12 (k:=D0 4 3 (.slice a11 (kn+1) cap12) rfl (A9 kr (fun w h=>(h.pkT 3 [0,0,1,3])) (D8 (E':=[⟨14,[],.int .i64 0⟩]) [14] (k:=E6 (a11,cap12,g15,[eE0q,eE1q,eE2q,eE3q,eE4q],gE) [14] kr (fun w h=>h.pkT 1 [1,1,1,1,1,1]) ⟨hO16,hJE⟩)))))
 refine D0 4 3 (.slice a11 (kn+1) cap12) rfl (A9 kr (fun w h=>(h.pkT 3 [0,0,1,3])) (C6 9 (k:=E2 (ch:=[]) (a:=a11) (q:=kn * 5) (len:=(kn+1)) (cap:=cap12) (v:=.agg #[eE0q,eE1q,eE2q,eE3q,eE4q]) (g:=g9) (j:=5) (cs:=(cs++zN)) (cs':=(cs++[eE0q,eE1q,eE2q,eE3q,eE4q])) (l:=[eE0q,eE1q,eE2q,eE3q,eE4q]) (h1:=hEc) (hO:=hO10) (hq:=(by rw [List.length_append,(show cs.length=kn * 5 by rw [hP.len]; omega)]; exact Nat.le_refl _)) (h0:=List.cons_ne_nil _ _) (hcs:=F7 (z:=zN) (l:=[eE0q,eE1q,eE2q,eE3q,eE4q]) (show cs.length=kn * 5 by rw [hP.len]; omega) rfl) (k:=(fun g17 hO18=>?_)))))
 refine A9 kr (fun w h=>(h.pkT 3 [0,0,1,3])) (D8 (E':=[⟨14,[],.int .i64 0⟩]) [14] (k:=E6 (a11,cap12,g17,[eE0q,eE1q,eE2q,eE3q,eE4q],gE) [14] kr (fun w h=>h.pkT 1 [1,1,1,1,1,1]) ⟨hO18,hJE⟩))
 refine D0 4 3 (.slice a11 (kn+1) cap12) rfl (A9 kr (fun w h=>(h.pkT 3 [0,0,1,3])) (C6 8 (k:=E4 (a:=a11) (S:=(inG g9)) (cs:=(cs++zN)) (kn+1) ((kn:Nat):Int) 5 (F0 hO10) (by exact ⟨by omega,by omega,by intro h; have h2:=congrArg List.length h; rw [List.length_append] at h2; simp at h2⟩) (A9 kr (fun w h=>(h.pkT 3 [0,0,1,3])) (C6 9 (k:=E2 (ch:=[]) (a:=a11) (q:=kn * 5) (len:=(kn+1)) (cap:=cap12) (v:=.agg #[eE0q,eE1q,eE2q,eE3q,eE4q]) (g:=g9) (j:=5) (cs:=(cs++zN)) (cs':=(cs++[eE0q,eE1q,eE2q,eE3q,eE4q])) (l:=[eE0q,eE1q,eE2q,eE3q,eE4q]) (h1:=hEc) (hO:=hO10) (hq:=(by rw [List.length_append,(show cs.length=kn * 5 by rw [hP.len]; omega)]; exact Nat.le_refl _)) (h0:=List.cons_ne_nil _ _) (hcs:=F7 (z:=zN) (l:=[eE0q,eE1q,eE2q,eE3q,eE4q]) (show cs.length=kn * 5 by rw [hP.len]; omega) rfl) (k:=(fun g19 hO20=>?_))))))))
 refine A9 kr (fun w h=>(h.pkT 3 [0,0,1,3])) (D8 (E':=[⟨14,[],.int .i64 0⟩]) [14] (k:=E6 (a11,cap12,g19,[eE0q,eE1q,eE2q,eE3q,eE4q],gE) [14] kr (fun w h=>h.pkT 1 [1,1,1,1,1,1]) ⟨hO20,hJE⟩))
 refine H0 26 1 zN (fun b21=>A9 kr (fun w h=>(h.pk 4 [1,2,4])) (M2 ([(b21,.cells zN.toArray 26 (0,0))]::[(b6,.cells #[eE0q,eE1q,eE2q,eE3q,eE4q] 26 (0,0))]::gE::gs::H) (fun w h=>(h.pk 1 [1,1,1])) (C6 3 (k:=C1 4 3 rfl rfl (A9 kr (fun w h=>(h.pk 3 [0,0,1,3])) (P9 (v:=.int .i64 ((kn:Nat):Int)) 5 (hL:=(fun w h=>(h.pk 3 [0,0,1,3]))) (k:=C6 7 (k:=L7 (inf:=Tryz.t26) 1 0 5 rfl rfl hO (by omega) (by show (kn+1) * 96≤140737488355328; omega) (fun v22 g23 hO24=>?_)))))))))
 obtain ⟨a25,cap26,rfl,hcap27,hrd28⟩:=hO24.shape
 refine A9 kr (fun w h=>(h.pkT 3 [0,0,1,3])) (J4 (ad:=⟨nb,0,none⟩) 10 (hL:=(fun w h=>(h.pkT 3 [0,0,1,3]))) (k:=G1 (fuel:=3) [(11,0)] (fun w h=>(h.pkT 3 [0,0,1,3])) (k:=H7 8 12 (k:=?_) (k':=?_))))
 refine E4 (a:=a25) (S:=(inG g23)) (cs:=(cs++zN)) (kn+1) ((kn:Nat):Int) 5 (F0 hO24) (by exact ⟨by omega,by omega,by intro h; have h2:=congrArg List.length h; rw [List.length_append] at h2; simp at h2⟩) (A9 kr (fun w h=>(h.pkT 3 [0,0,1,3])) (H7 9 12 (k:=?_) (k':=?_)))
 refine E2 (ch:=[]) (a:=a25) (q:=kn * 5) (len:=(kn+1)) (cap:=cap26) (v:=.agg #[eE0q,eE1q,eE2q,eE3q,eE4q]) (g:=g23) (j:=5) (cs:=(cs++zN)) (cs':=(cs++[eE0q,eE1q,eE2q,eE3q,eE4q])) (l:=[eE0q,eE1q,eE2q,eE3q,eE4q]) (h1:=hEc) (hO:=hO24) (hq:=(by rw [List.length_append,(show cs.length=kn * 5 by rw [hP.len]; omega)]; exact Nat.le_refl _)) (h0:=List.cons_ne_nil _ _) (hcs:=F7 (z:=zN) (l:=[eE0q,eE1q,eE2q,eE3q,eE4q]) (show cs.length=kn * 5 by rw [hP.len]; omega) rfl) (k:=(fun g29 hO30=>?_))
 refine A9 kr (fun w h=>(h.pkT 3 [0,0,1,3])) (C6 12 (k:=D0 4 3 (.slice a25 (kn+1) cap26) rfl (A9 kr (fun w h=>(h.pkT 3 [0,0,1,3])) (D8 (E':=[⟨14,[],.int .i64 0⟩]) [14] (k:=E6 (a25,cap26,g29,[eE0q,eE1q,eE2q,eE3q,eE4q],gE) [14] kr (fun w h=>h.pkT 1 [1,1,1,1,1,1]) ⟨hO30,hJE⟩)))))
 refine D0 4 3 (.slice a25 (kn+1) cap26) rfl (A9 kr (fun w h=>(h.pkT 3 [0,0,1,3])) (C6 9 (k:=E2 (ch:=[]) (a:=a25) (q:=kn * 5) (len:=(kn+1)) (cap:=cap26) (v:=.agg #[eE0q,eE1q,eE2q,eE3q,eE4q]) (g:=g23) (j:=5) (cs:=(cs++zN)) (cs':=(cs++[eE0q,eE1q,eE2q,eE3q,eE4q])) (l:=[eE0q,eE1q,eE2q,eE3q,eE4q]) (h1:=hEc) (hO:=hO24) (hq:=(by rw [List.length_append,(show cs.length=kn * 5 by rw [hP.len]; omega)]; exact Nat.le_refl _)) (h0:=List.cons_ne_nil _ _) (hcs:=F7 (z:=zN) (l:=[eE0q,eE1q,eE2q,eE3q,eE4q]) (show cs.length=kn * 5 by rw [hP.len]; omega) rfl) (k:=(fun g31 hO32=>?_)))))
 refine A9 kr (fun w h=>(h.pkT 3 [0,0,1,3])) (D8 (E':=[⟨14,[],.int .i64 0⟩]) [14] (k:=E6 (a25,cap26,g31,[eE0q,eE1q,eE2q,eE3q,eE4q],gE) [14] kr (fun w h=>h.pkT 1 [1,1,1,1,1,1]) ⟨hO32,hJE⟩))
 refine D0 4 3 (.slice a25 (kn+1) cap26) rfl (A9 kr (fun w h=>(h.pkT 3 [0,0,1,3])) (C6 8 (k:=E4 (a:=a25) (S:=(inG g23)) (cs:=(cs++zN)) (kn+1) ((kn:Nat):Int) 5 (F0 hO24) (by exact ⟨by omega,by omega,by intro h; have h2:=congrArg List.length h; rw [List.length_append] at h2; simp at h2⟩) (A9 kr (fun w h=>(h.pkT 3 [0,0,1,3])) (C6 9 (k:=E2 (ch:=[]) (a:=a25) (q:=kn * 5) (len:=(kn+1)) (cap:=cap26) (v:=.agg #[eE0q,eE1q,eE2q,eE3q,eE4q]) (g:=g23) (j:=5) (cs:=(cs++zN)) (cs':=(cs++[eE0q,eE1q,eE2q,eE3q,eE4q])) (l:=[eE0q,eE1q,eE2q,eE3q,eE4q]) (h1:=hEc) (hO:=hO24) (hq:=(by rw [List.length_append,(show cs.length=kn * 5 by rw [hP.len]; omega)]; exact Nat.le_refl _)) (h0:=List.cons_ne_nil _ _) (hcs:=F7 (z:=zN) (l:=[eE0q,eE1q,eE2q,eE3q,eE4q]) (show cs.length=kn * 5 by rw [hP.len]; omega) rfl) (k:=(fun g33 hO34=>?_))))))))
 refine A9 kr (fun w h=>(h.pkT 3 [0,0,1,3])) (D8 (E':=[⟨14,[],.int .i64 0⟩]) [14] (k:=E6 (a25,cap26,g33,[eE0q,eE1q,eE2q,eE3q,eE4q],gE) [14] kr (fun w h=>h.pkT 1 [1,1,1,1,1,1]) ⟨hO34,hJE⟩))
 rintro ⟨ya,yc,yg,c,gv⟩ ⟨hyo,hJ⟩
 dsimp only at hyo hJ
 refine A0 (A1 (C3 (E':=[⟨8,[],.int .i64 0⟩]) [0,0] [8] (k:=A0 (B4 (A4 (F8 1 [1,2,2,2,1] (F3 (H':=([(t,.cells #[.string (bk l),.int .i64 ((jE:Nat):Int)] 53 (0,0))]::[(nb,.cells #[v0,v1,v2,.slice ya (kn+1) yc,v4] 26 (0,0))]::yg::(gs++gv)::H)) (fun w h=>Sat.flat h (List.Perm.of_eq (by simp [pk]))) (B7 [.tmp 8] [.int .i64 0] (k:=?_)))))))))
 exact .inl ⟨ks++[kE],jE,kn+1,ya,yc,yg,_,_,pc_el h1 has h3 (by rw [← ha3s]; exact heE),by omega,hjE,rfl,by rw [List.length_append,hkn]; rfl,hyo,hP.snoc hJ,by omega,by rw [S0,hkE]; exact Nat.zero_le _,rfl⟩
 refine A3 (j:=8) [0,0,0] (k:=J1 (.agg zN.toArray) (fun b35=>D0 0 0 (.agg zN.toArray) rfl (A5 [0] [1,13,14] (k:=A0 (A1 (P6 (T:=Option Addr × Nat × Grp) (fun ξ:Option Addr × Nat × Grp=>[⟨14,[],.int .i64 eE⟩]) (fun ξ:Option Addr × Nat × Grp=>([(b35,.cells zN.toArray 26 (0,0))]::[(t,.cells #[.string (bk l),.int .i64 ((zE:Nat):Int)] 53 (0,0))]::[(nb,.cells #[v0,v1,v2,.slice ξ.1 (kn+1) ξ.2.1,v4] 26 (0,0))]::ξ.2.2::gs::H)) (fun ξ:Option Addr × Nat × Grp=>(Go.Sw.Own 26 5 (.slice ξ.1 (kn+1) ξ.2.1) ξ.2.2 (kn+1) (cs++zN))) ?_ ?_))))))
 refine H4 ([(b35,.cells zN.toArray 26 (0,0))]::gs::H) kr (G1 (fuel:=12) [(0,0)] (fun w h=>(h.pkT 3 [0,3])) (k:=J4 (ad:=⟨nb,0,none⟩) 1 (hL:=(fun w h=>(h.pkT 3 [0,3]))) (k:=G1 (fuel:=10) [(2,0)] (fun w h=>(h.pkT 3 [0,3])) (k:=F6 4 kr (fun w h=>(h.pkT 3 [0,3])) (M9 0 0 5 rfl (G6 kr rfl)) (H7 3 6 (k:=?_) (k':=?_))))))
 refine C1 2 3 rfl rfl (A9 kr (fun w h=>(h.pkT 3 [0,3])) (P9 (v:=.int .i64 ((kn:Nat):Int)) 5 (hL:=(fun w h=>(h.pkT 3 [0,3]))) (k:=C6 6 (k:=H0 26 1 zN (fun b36=>A9 kr (fun w h=>(h.pkT 4 [1,4])) (M2 ([(b36,.cells zN.toArray 26 (0,0))]::[(b35,.cells zN.toArray 26 (0,0))]::gs::H) (fun w h=>(h.pk 1 [1,1])) (C6 7 (k:=L7 (inf:=Tryz.t26) 1 0 4 rfl rfl hO (by omega) (by show (kn+1) * 96≤140737488355328; omega) (fun v37 g38 hO39=>?_)))))))))
 obtain ⟨a40,cap41,rfl,hcap42,hrd43⟩:=hO39.shape
 refine A9 kr (fun w h=>(h.pkT 3 [0,0,3])) (J4 (ad:=⟨nb,0,none⟩) 10 (hL:=(fun w h=>(h.pkT 3 [0,0,3]))) (k:=G1 (fuel:=3) [(11,0)] (fun w h=>(h.pkT 3 [0,0,3])) (k:=H7 8 12 (k:=?_) (k':=?_))))
 refine E4 (a:=a40) (S:=(inG g38)) (cs:=(cs++zN)) (kn+1) ((kn:Nat):Int) 5 (F0 hO39) (by exact ⟨by omega,by omega,by intro h; have h2:=congrArg List.length h; rw [List.length_append] at h2; simp at h2⟩) (A9 kr (fun w h=>(h.pkT 3 [0,0,3])) (H7 9 12 (k:=?_) (k':=?_)))
 refine E2 (ch:=[]) (a:=a40) (q:=kn * 5) (len:=(kn+1)) (cap:=cap41) (v:=.agg zN.toArray) (g:=g38) (j:=4) (cs:=(cs++zN)) (cs':=(cs++zN)) (l:=zN) (hO:=hO39) (hq:=(by rw [List.length_append,(show cs.length=kn * 5 by rw [hP.len]; omega)]; exact Nat.le_refl _)) (h0:=List.cons_ne_nil _ _) (hcs:=F7 (z:=zN) (l:=zN) (show cs.length=kn * 5 by rw [hP.len]; omega) rfl) (k:=(fun g44 hO45=>?_))
 refine A9 kr (fun w h=>(h.pkT 3 [0,0,3])) (C6 12 (k:=D0 3 3 (.slice a40 (kn+1) cap41) rfl (A9 kr (fun w h=>(h.pkT 3 [0,0,3])) (D8 (E':=[⟨14,[],.int .i64 eE⟩]) [14] (k:=E6 (a40,cap41,g44) [14] kr (fun w h=>h.pkT 1 [1,1,1,1,1]) hO45)))))
 refine D0 3 3 (.slice a40 (kn+1) cap41) rfl (A9 kr (fun w h=>(h.pkT 3 [0,0,3])) (C6 9 (k:=E2 (ch:=[]) (a:=a40) (q:=kn * 5) (len:=(kn+1)) (cap:=cap41) (v:=.agg zN.toArray) (g:=g38) (j:=4) (cs:=(cs++zN)) (cs':=(cs++zN)) (l:=zN) (hO:=hO39) (hq:=(by rw [List.length_append,(show cs.length=kn * 5 by rw [hP.len]; omega)]; exact Nat.le_refl _)) (h0:=List.cons_ne_nil _ _) (hcs:=F7 (z:=zN) (l:=zN) (show cs.length=kn * 5 by rw [hP.len]; omega) rfl) (k:=(fun g46 hO47=>?_)))))
 refine A9 kr (fun w h=>(h.pkT 3 [0,0,3])) (D8 (E':=[⟨14,[],.int .i64 eE⟩]) [14] (k:=E6 (a40,cap41,g46) [14] kr (fun w h=>h.pkT 1 [1,1,1,1,1]) hO47))
 refine D0 3 3 (.slice a40 (kn+1) cap41) rfl (A9 kr (fun w h=>(h.pkT 3 [0,0,3])) (C6 8 (k:=E4 (a:=a40) (S:=(inG g38)) (cs:=(cs++zN)) (kn+1) ((kn:Nat):Int) 5 (F0 hO39) (by exact ⟨by omega,by omega,by intro h; have h2:=congrArg List.length h; rw [List.length_append] at h2; simp at h2⟩) (A9 kr (fun w h=>(h.pkT 3 [0,0,3])) (C6 9 (k:=E2 (ch:=[]) (a:=a40) (q:=kn * 5) (len:=(kn+1)) (cap:=cap41) (v:=.agg zN.toArray) (g:=g38) (j:=4) (cs:=(cs++zN)) (cs':=(cs++zN)) (l:=zN) (hO:=hO39) (hq:=(by rw [List.length_append,(show cs.length=kn * 5 by rw [hP.len]; omega)]; exact Nat.le_refl _)) (h0:=List.cons_ne_nil _ _) (hcs:=F7 (z:=zN) (l:=zN) (show cs.length=kn * 5 by rw [hP.len]; omega) rfl) (k:=(fun g48 hO49=>?_))))))))
 refine A9 kr (fun w h=>(h.pkT 3 [0,0,3])) (D8 (E':=[⟨14,[],.int .i64 eE⟩]) [14] (k:=E6 (a40,cap41,g48) [14] kr (fun w h=>h.pkT 1 [1,1,1,1,1]) hO49))
 refine H0 26 1 zN (fun b50=>A9 kr (fun w h=>(h.pkT 4 [1,4])) (M2 ([(b50,.cells zN.toArray 26 (0,0))]::[(b35,.cells zN.toArray 26 (0,0))]::gs::H) (fun w h=>(h.pk 1 [1,1])) (C6 3 (k:=C1 3 3 rfl rfl (A9 kr (fun w h=>(h.pkT 3 [0,0,3])) (P9 (v:=.int .i64 ((kn:Nat):Int)) 5 (hL:=(fun w h=>(h.pkT 3 [0,0,3]))) (k:=C6 7 (k:=L7 (inf:=Tryz.t26) 1 0 4 rfl rfl hO (by omega) (by show (kn+1) * 96≤140737488355328; omega) (fun v51 g52 hO53=>?_)))))))))
 obtain ⟨a54,cap55,rfl,hcap56,hrd57⟩:=hO53.shape
 refine A9 kr (fun w h=>(h.pkT 3 [0,0,3])) (J4 (ad:=⟨nb,0,none⟩) 10 (hL:=(fun w h=>(h.pkT 3 [0,0,3]))) (k:=G1 (fuel:=3) [(11,0)] (fun w h=>(h.pkT 3 [0,0,3])) (k:=H7 8 12 (k:=?_) (k':=?_))))
 refine E4 (a:=a54) (S:=(inG g52)) (cs:=(cs++zN)) (kn+1) ((kn:Nat):Int) 5 (F0 hO53) (by exact ⟨by omega,by omega,by intro h; have h2:=congrArg List.length h; rw [List.length_append] at h2; simp at h2⟩) (A9 kr (fun w h=>(h.pkT 3 [0,0,3])) (H7 9 12 (k:=?_) (k':=?_)))
 refine E2 (ch:=[]) (a:=a54) (q:=kn * 5) (len:=(kn+1)) (cap:=cap55) (v:=.agg zN.toArray) (g:=g52) (j:=4) (cs:=(cs++zN)) (cs':=(cs++zN)) (l:=zN) (hO:=hO53) (hq:=(by rw [List.length_append,(show cs.length=kn * 5 by rw [hP.len]; omega)]; exact Nat.le_refl _)) (h0:=List.cons_ne_nil _ _) (hcs:=F7 (z:=zN) (l:=zN) (show cs.length=kn * 5 by rw [hP.len]; omega) rfl) (k:=(fun g58 hO59=>?_))
 refine A9 kr (fun w h=>(h.pkT 3 [0,0,3])) (C6 12 (k:=D0 3 3 (.slice a54 (kn+1) cap55) rfl (A9 kr (fun w h=>(h.pkT 3 [0,0,3])) (D8 (E':=[⟨14,[],.int .i64 eE⟩]) [14] (k:=E6 (a54,cap55,g58) [14] kr (fun w h=>h.pkT 1 [1,1,1,1,1]) hO59)))))
 refine D0 3 3 (.slice a54 (kn+1) cap55) rfl (A9 kr (fun w h=>(h.pkT 3 [0,0,3])) (C6 9 (k:=E2 (ch:=[]) (a:=a54) (q:=kn * 5) (len:=(kn+1)) (cap:=cap55) (v:=.agg zN.toArray) (g:=g52) (j:=4) (cs:=(cs++zN)) (cs':=(cs++zN)) (l:=zN) (hO:=hO53) (hq:=(by rw [List.length_append,(show cs.length=kn * 5 by rw [hP.len]; omega)]; exact Nat.le_refl _)) (h0:=List.cons_ne_nil _ _) (hcs:=F7 (z:=zN) (l:=zN) (show cs.length=kn * 5 by rw [hP.len]; omega) rfl) (k:=(fun g60 hO61=>?_)))))
 refine A9 kr (fun w h=>(h.pkT 3 [0,0,3])) (D8 (E':=[⟨14,[],.int .i64 eE⟩]) [14] (k:=E6 (a54,cap55,g60) [14] kr (fun w h=>h.pkT 1 [1,1,1,1,1]) hO61))
 refine D0 3 3 (.slice a54 (kn+1) cap55) rfl (A9 kr (fun w h=>(h.pkT 3 [0,0,3])) (C6 8 (k:=E4 (a:=a54) (S:=(inG g52)) (cs:=(cs++zN)) (kn+1) ((kn:Nat):Int) 5 (F0 hO53) (by exact ⟨by omega,by omega,by intro h; have h2:=congrArg List.length h; rw [List.length_append] at h2; simp at h2⟩) (A9 kr (fun w h=>(h.pkT 3 [0,0,3])) (C6 9 (k:=E2 (ch:=[]) (a:=a54) (q:=kn * 5) (len:=(kn+1)) (cap:=cap55) (v:=.agg zN.toArray) (g:=g52) (j:=4) (cs:=(cs++zN)) (cs':=(cs++zN)) (l:=zN) (hO:=hO53) (hq:=(by rw [List.length_append,(show cs.length=kn * 5 by rw [hP.len]; omega)]; exact Nat.le_refl _)) (h0:=List.cons_ne_nil _ _) (hcs:=F7 (z:=zN) (l:=zN) (show cs.length=kn * 5 by rw [hP.len]; omega) rfl) (k:=(fun g62 hO63=>?_))))))))
 refine A9 kr (fun w h=>(h.pkT 3 [0,0,3])) (D8 (E':=[⟨14,[],.int .i64 eE⟩]) [14] (k:=E6 (a54,cap55,g62) [14] kr (fun w h=>h.pkT 1 [1,1,1,1,1]) hO63))
 rintro ⟨ya,yc,yg⟩ hyo
 dsimp only at hyo
 refine A0 (A1 (C3 (E':=[⟨8,[],.int .i64 eE⟩]) [0,0] [8] (k:=A0 (B4 (A4 (F8 2 [1,1,1] (B7 [.tmp 8] [.int .i64 eE] (k:=?_))))))))
 exact .inr ⟨eE,zE,_,_,pc_el0 h1 has h3 (by rw [← ha3s]; exact heE),hneE,hzE,rfl,rfl⟩
 have hk4:[60].isPrefixOf (l.drop z3)=false:=hk4
 have h3:=hk4
 rw [ha3s] at h3
 have hpt:=pc_text (el:=el) (ks:=ks) h1 has h3
 refine A5 [] [0,1,2,3,39] (k:=A0 (C5 kr (A7 (A0 (A1 (A2 (A3 (j:=3) [0,0,0] (k:=C1 0 1 rfl rfl ?_))))))))
 refine A5 [0] [0,1,15] (k:=A0 (A1 (B3 (I6 (EI:=(fun ξ:Nat=>[⟨0,[],pt t⟩,⟨1,[],pt nb⟩,⟨15,[],.int .i64 ((z3:Nat):Int)⟩])) (HI:=(fun ξ:Nat=>([(t,.cells #[.string (bk l),.int .i64 ((ξ:Nat):Int)] 53 (0,0))]::[(nb,.cells #[v0,v1,v2,.slice ka kn kc,v4] 26 (0,0))]::kg::gs::H))) (Φ:=(fun ξ:Nat=>(TxI l i ξ))) (μ:=(fun ξ:Nat=>l.length - ξ)) (s0:=(z3)) [0,1,15] kr rfl (by rw [show z3=i by omega]; exact txI_0 hi) ?_))))
 rintro j hX
 have hij:=hX.ij
 have hjl:=hX.le
 obtain ⟨b,hbE⟩:∃ b:UInt8,b=l.getD j 0:=⟨_,rfl⟩
 have hbyte:B2 (bk l) (j:Int)=(b.toNat:Int):=by rw [byteJ,hbE]
 refine A1 (A1 (H5 (k:=A3 (j:=3) [0,0,0] (k:=C1 0 1 rfl rfl (A3 (j:=7) [0,0,0] (k:=C1 0 0 rfl rfl (A3 (j:=14) [0,0,0,0,0,0] (k:=C2 (ch:=[(74,true)]) (b:=t) (off:=0) (v:=.string (bk l)) (hA:=At.grp 0 0 rfl rfl) (k:=?_)))))))))
 refine A3 (j:=18) [0,0,0] (k:=C2 (ch:=[(74,true)]) (b:=t) (off:=1) (v:=.int .i64 ((j:Nat):Int)) (hA:=At.grp 0 0 rfl rfl) (k:=P4 (ch:=[(74,true)]) (s:=(bk l)) (kd:=.i64) (j:=((j:Nat):Int)) (hb:=(fun hc=>by have hg0:=Q9 (t:=74) (c:=[]) (b:=decide (((j:Nat):Int)<((bk l).size:Int))) hc kr; (try simp at hg0); omega)) (k:=?_)))
 have hb64:=E5 (bk l) ((j:Nat):Int)
 refine N7 83 [(74,true)] (x:=.int .u8 (B2 (bk l) ((j:Nat):Int))) (y:=.int .u8 (b.toNat:Int)) (by rw [hbyte]) (A5 [0,6] [0,1,15,85] (k:=A0 (B1 (b:=(decide (((j:Nat):Int)<((bk l).size:Int)))&&((b.toNat:Int) != 60)) kr (fun hc65=>?_) (fun hc65=>?_))))
 have hE9q:=hc65
 simp only [Bool.and_eq_true,decide_eq_true_eq,bne_iff_ne,ne_eq] at hE9q
 have hlt2:j<l.length:=by omega
 have hne:l.getD j 0≠60:=by rw [← hbE]; rintro rfl; exact hE9q.2 rfl
 refine A7 (A0 (B3 (A1 (A1 (A2 (A3 (j:=1) [0] (k:=D9 Tryz.func20 (rTlooks_ t l j hl (by omega) [93,93,62] (Nat.le_of_ble_eq_true rfl) _ _) ?_)))))))
 rintro _ _ ⟨rfl,rfl⟩
 refine A5 [] [0,1,15,87] (k:=A0 (B1 (b:=([93,93,62].isPrefixOf (l.drop j))) kr (fun hc66=>?_) (fun hc66=>?_)))
 have hfin:M4 el ks (l.drop i)=.error 70:=by rw [hpt,tx_bad hX hlt2 hc66]
 refine A1 (C3 (E':=[⟨8,[],.int .i64 70⟩]) [0] [8] (k:=A0 (B4 (A4 (B0 (A4 (B0 (A4 ?_))))))))
 refine F8 1 [0,0,0] (B7 [.tmp 8] [.int .i64 70] (k:=?_))
 exact .inr ⟨70,_,_,_,hfin,by decide,by omega,rfl,rfl⟩
 have hnb:=hc66
 refine A7 (A0 (A2 (A3 (j:=3) [0,0,0] (k:=C1 0 1 rfl rfl (A3 (j:=5) [0] (k:=D1 92 (((j:Nat):Int)+1) (by omega) (by omega) kr (A3 (j:=7) [0,0] (k:=D0 0 1 (.int .i64 (((j:Nat):Int)+1)) rfl ?_))))))))
 refine A5 [] [0,1,15] (k:=B8 (D2 (s':=(j+1)) [0,1,15] kr kr (txI_s hX hlt2 hne hnb) (by omega)))
 have hE9q:=hc65
 simp only [Bool.and_eq_false_iff,decide_eq_false_iff_not,bne_eq_false_iff_eq] at hE9q
 have hstop:j=l.length∨l.getD j 0=60:=by
  rcases hE9q with hE9q | hE9q
  left; omega
  right; rw [← hbE]; exact UInt8.toNat_inj.1 (by show b.toNat=60; omega)
 refine E7 (A6 (A6 (B6 (A0 (A1 (H5 (k:=A3 (j:=3) [0,0,0] (k:=C1 0 0 rfl rfl ?_))))))))
 refine A3 (j:=8) [0,0,0,0] (k:=C1 0 1 rfl rfl (M8 (bk l) ((z3:Nat):Int) ((j:Nat):Int) (by (try intro _); (repeat' apply And.intro) <;> omega) (E3 105 (x:=.string ((bk l).extract z3 j)) (y:=.string (bk ((l.drop i).take (j - i)))) (by rw [ha3s,ext_midT]) (H6 Tryz.func79 (rlines_ (bk ((l.drop i).take (j - i))) (by rw [C9,List.length_take,List.length_drop]; omega) _ _) (H6 Tryz.func78 (rTrefs_ (bk (B5 ((l.drop i).take (j - i)))) (by rw [C9]; have hE9q:=N2 ((l.drop i).take (j - i)); rw [List.length_take,List.length_drop] at hE9q; omega) _ _) (A5 [0,0,0,0,0] [0,1,12,16] (k:=A0 (A1 ?_))))))))
 refine A1 (H5 (k:=A3 (j:=6) [0,0,0,0,0,0] (k:=C2 (ch:=[(112,false)]) (b:=t) (off:=1) (v:=.int .i64 ((j:Nat):Int)) (hA:=At.grp 0 0 rfl rfl) (k:=A3 (j:=10) [0,0,0] (k:=C2 (ch:=[(112,false)]) (b:=t) (off:=0) (v:=.string (bk l)) (hA:=At.grp 0 0 rfl rfl) (k:=A5 [0,0,5] [1,16,123] (k:=A0 (B1 (b:=(!((rfs (B5 ((l.drop i).take (j - i)))).isSome))||(((j:Nat):Int)==((bk l).size:Int))) kr (fun hc68=>?_) (fun hc68=>?_)))))))))
 have hfin:M4 el ks (l.drop i)=.error 70:=by rw [hpt,tx_fail hX hstop (by have hE9q:=hc68; rw [C9] at hE9q; exact hE9q)]
 refine A1 (C3 (E':=[⟨8,[],.int .i64 70⟩]) [0] [8] (k:=A0 (B4 (A4 (F8 1 [0,0,0] (B7 [.tmp 8] [.int .i64 70] (k:=?_)))))))
 exact .inr ⟨70,_,_,_,hfin,by decide,by omega,rfl,rfl⟩
 obtain ⟨hte,hlt2⟩:=tx_good hX hstop (by have hE9q:=hc68; rw [C9] at hE9q; exact hE9q)
 have hgo:=tx_go hX hlt2 (hstop.resolve_left (by omega)) h3
 have hfin:M4 el ks (l.drop i)=.ok (addX ks ((rfs (B5 ((l.drop i).take (j - i)))).getD []),l.drop j):=by rw [hpt,hte]
 refine A7 (A0 (A1 (A2 (A3 (j:=2) [0,0] (k:=M1 0 [1,1] (D9 Tryz.func80 (rTadd_ nb v0 v1 v2 v4 ks kn ka kc kg gs cs hkn hO hP ((rfs (B5 ((l.drop i).take (j - i)))).getD []) (by have hE9q:=rfs_len (B5 ((l.drop i).take (j - i))); have hE8q:=N2 ((l.drop i).take (j - i)); rw [List.length_take,List.length_drop] at hE8q; omega) (by omega) (by omega) _ _) ?_))))))
 rintro _ _ ⟨knE,kaE,kcE,kgE,csE,hkE,hOE,hPE,rfl⟩
 have hlnE:=add_len ks ((rfs (B5 ((l.drop i).take (j - i)))).getD [])
 have hltE:=lastT_add ks ((rfs (B5 ((l.drop i).take (j - i)))).getD [])
 refine C0 (E':=[]) [] [] (k:=A0 (A1 (C3 (E':=[⟨8,[],.int .i64 0⟩]) [0] [8] (k:=A0 (B4 (F8 0 [2,0,0,0] (B7 [.tmp 8] [.int .i64 0] (k:=?_))))))))
 have hE9q:=rfs_len (B5 ((l.drop i).take (j - i))); have hE8q:=N2 ((l.drop i).take (j - i)); rw [List.length_take,List.length_drop] at hE8q
 exact .inl ⟨_,_,knE,kaE,kcE,kgE,csE,gs,hfin,hgo,by omega,rfl,hkE,hOE,hPE,by omega,by omega,rfl⟩
 have hfin:=pc_bad (el:=el) (ks:=ks) h1 ha3
 refine A5 [0,0,0,0,0] [0,1,2,3,11,12] (k:=A0 (A1 (A1 (G_p [0,0] [0,1,2,3,11,36] (k:=A0 (B9 kr (A1 (C3 (E':=[⟨8,[],.int .i64 70⟩]) [0] [8] (k:=?_)))))))))
 refine A0 (B4 (A4 (F8 1 [0,0,0] (B7 [.tmp 8] [.int .i64 70] (k:=?_)))))
 exact .inr ⟨70,_,_,_,hfin,by decide,by omega,rfl,rfl⟩
end Go.Proofs.YtcgmnagcgkhogabGreatDoor
namespace Go.Xml
open Go.Esc Go.Json Go.Lib
def QOk (q:QN):Prop:=(q.has=false→q.pre=[])∧q.name≠[]
theorem quQ_ok {l r:List UInt8} {q:QN} (h:G5 l=some (q,r)):QOk q:=by
 by_cases h0:nmX l=0
 rw [qualE_0 h0] at h; cases h
 by_cases h2:[58].isPrefixOf (l.drop (nmX l))=true
 rw [qualE_yes h0 h2] at h
 by_cases h3:nmX ((l.drop (nmX l)).drop 1)=0
 rw [nameE_0 h3] at h; cases h
 rw [nameE_s h3] at h; injection h with h; injection h with h _; subst h
 exact ⟨fun hn=>(by cases hn),fun hn=>h3 (take_nm.1 hn)⟩
 rw [qualE_no h0 h2] at h; injection h with h; injection h with h _; subst h
 exact ⟨fun _=>rfl,fun hn=>h0 (take_nm.1 hn)⟩
theorem atQ_ok {l r:List UInt8} {a:AT} (h:S3 l=some (a,r)):QOk a.q:=by
  unfold S3 at h
  cases hq:G5 l with
  | none=>rw [hq] at h; cases h
  | some y =>
    obtain ⟨q,r0⟩:=y
    rw [hq] at h; dsimp only at h
    cases h1:O7 [61] (blk r0) with
    | none=>rw [h1] at h; cases h
    | some r1 =>
      rw [h1] at h; dsimp only at h
      cases h2:W7 (blk r1) with
      | none=>rw [h2] at h; cases h
      | some y2 =>
        obtain ⟨v,r2⟩:=y2
        rw [h2] at h; dsimp only at h
        by_cases h3:(60:UInt8)∈v
        rw [if_pos h3] at h; cases h
        rw [if_neg h3] at h
        cases h4:refsE v with
        | none=>rw [h4] at h; cases h
        | some x=>rw [h4] at h; injection h with h; injection h with h _; subst h; exact quQ_ok hq
theorem tgQ_ok:∀ {n:Nat} {acc out:List AT} {c:Bool} {l r:List UInt8},(∀ a∈acc,QOk a.q)→Y7 n acc l=some (out,c,r)→∀ a∈out,QOk a.q
  | 0,_,_,_,_,_,_,h=>by cases h
  | n+1,acc,out,c,l,r,ha,h=>by
    unfold Y7 at h
    by_cases h1:[47,62].isPrefixOf (blk l)=true
    rw [if_pos h1] at h; injection h with h; injection h with h _; subst h; exact ha
    rw [if_neg h1] at h
    by_cases h2:[62].isPrefixOf (blk l)=true
    rw [if_pos h2] at h; injection h with h; injection h with h _; subst h; exact ha
    rw [if_neg h2] at h
    by_cases h3:(blk l).length<l.length
    rw [if_pos h3] at h
    cases h4:S3 (blk l) with
    | none=>rw [h4] at h; cases h
    | some y =>
      obtain ⟨x,r0⟩:=y
      rw [h4] at h
      refine tgQ_ok (fun a h5=>?_) h
      rcases List.mem_append.1 h5 with h5 | h5
      exact ha a h5
      rw [List.mem_singleton.1 h5]; exact atQ_ok h4
    rw [if_neg h3] at h; cases h
theorem decl_q {a b:AT} (h:a.q=b.q):M0 a=M0 b:=by unfold M0; rw [h]
theorem decl_inj {a b:AT} {p:List UInt8} (ha:QOk a.q) (hb:QOk b.q) (h1:M0 a=some p) (h2:M0 b=some p):a.q=b.q:=by
 obtain ⟨⟨pa,na,ka⟩,va⟩:=a
 obtain ⟨⟨pb,nb,kb⟩,vb⟩:=b
 unfold M0 at h1 h2
 dsimp only [QOk] at *
 cases ka <;> cases kb <;> simp at h1 h2 ha hb ⊢
 exact ⟨by rw [ha.1,hb.1],by rw [h1.1,h2.1]⟩
 exact absurd (h2.2.trans h1.2) hb
 exact absurd (h1.2.trans h2.2) ha
 exact ⟨by rw [h1.1,h2.1],by rw [h1.2,h2.2]⟩
def SeenAt (ats:List AT) (k:Nat) (seen:List (List UInt8)):Prop:=∀ p,p∈seen ↔ ∃ o∈ats.take k,M0 o=some p
theorem seen_0 (ats:List AT):SeenAt ats 0 []:=fun p=>⟨fun h=>absurd h List.not_mem_nil,fun ⟨o,h,_⟩=>absurd h (by rw [List.take_zero]; exact List.not_mem_nil)⟩
theorem take_at {α:Type} {l:List α} {k:Nat} (hk:k<l.length):l.take (k+1)=l.take k++[l[k]]:=by rw [List.take_add_one,List.getElem?_eq_getElem hk]; rfl
theorem seen_no {ats:List AT} {k:Nat} {seen:List (List UInt8)} {x:AT} (hk:k<ats.length) (hx:x=ats[k]) (h:SeenAt ats k seen) (hd:M0 x=none):SeenAt ats (k+1) seen:=fun p=>by
 rw [h p,take_at hk,← hx]
 constructor
 rintro ⟨o,h1,h2⟩; exact ⟨o,List.mem_append_left _ h1,h2⟩
 rintro ⟨o,h1,h2⟩
 rcases List.mem_append.1 h1 with h1 | h1
 exact ⟨o,h1,h2⟩
 rw [List.mem_singleton.1 h1,hd] at h2; cases h2
theorem seen_s {ats:List AT} {k:Nat} {seen:List (List UInt8)} {x:AT} {p:List UInt8} (hk:k<ats.length) (hx:x=ats[k]) (h:SeenAt ats k seen) (hd:M0 x=some p):SeenAt ats (k+1) (p::seen):=fun p2=>by
 rw [List.mem_cons,h p2,take_at hk,← hx]
 constructor
 rintro (rfl | ⟨o,h1,h2⟩)
 exact ⟨x,List.mem_append_right _ (List.mem_singleton.2 rfl),hd⟩
 exact ⟨o,List.mem_append_left _ h1,h2⟩
 rintro ⟨o,h1,h2⟩
 rcases List.mem_append.1 h1 with h1 | h1
 exact .inr ⟨o,h1,h2⟩
 rw [List.mem_singleton.1 h1,hd] at h2; injection h2 with h2; exact .inl h2.symm
theorem seen_new {ats:List AT} {k:Nat} {seen:List (List UInt8)} {x:AT} {p:List UInt8} (hq:∀ a∈ats,QOk a.q) (hx:x∈ats) (h:SeenAt ats k seen) (hd:M0 x=some p) (hn:∀ o∈ats.take k,o.q≠x.q):p ∉ seen:=fun hp=>by
 obtain ⟨o,h1,h2⟩:=(h p).1 hp
 exact hn o h1 (decl_inj (hq o (List.mem_of_mem_take h1)) (hq x hx) h2 hd)
theorem seen_dup {ats:List AT} {k:Nat} {seen:List (List UInt8)} {x o:AT} {p:List UInt8} (h:SeenAt ats k seen) (hd:M0 x=some p) (ho:o∈ats.take k) (he:o.q=x.q):p∈seen:=(h p).2 ⟨o,ho,by rw [decl_q he,hd]⟩
theorem spE_no {a:AT} {r:List AT} {seen:List (List UInt8)} {sp:SPX} (h:M0 a=none):spE (a::r) seen sp=spE r seen sp:=by rw [spE,h]
theorem spE_dup {a:AT} {r:List AT} {seen:List (List UInt8)} {sp:SPX} {p:List UInt8} (h:M0 a=some p) (hp:p∈seen):spE (a::r) seen sp=none:=by rw [spE,h]; exact if_pos (.inl hp)
theorem spE_nil {a:AT} {r:List AT} {seen:List (List UInt8)} {sp:SPX} {p:List UInt8} (h:M0 a=some p) (h1:a.q.has=true) (h2:a.value=[]):spE (a::r) seen sp=none:=by rw [spE,h]; exact if_pos (.inr ⟨h1,h2⟩)
theorem spE_go {a:AT} {r:List AT} {seen:List (List UInt8)} {sp:SPX} {p:List UInt8} (h:M0 a=some p) (hp:p ∉ seen) (hv:¬ (a.q.has=true∧a.value=[])):spE (a::r) seen sp=spE r (p::seen) ((p,a.value)::sp):=by rw [spE,h]; exact if_neg (fun h=>h.elim hp hv)
theorem mkE_skip {a:AT} {r:List AT} {out:List XA} {sp:SPX} (h:(M0 a).isSome=true):O3 (a::r) out sp=O3 r out sp:=by rw [O3,if_pos h]
def asX (sp:SPX) (a:AT):List UInt8:=if a.q.has then (K5 sp a.q.pre).getD [] else []
theorem mkE_bad {a:AT} {r:List AT} {out:List XA} {sp:SPX} (h:(M0 a).isSome=false) (h1:a.q.has=true) (h2:(K5 sp a.q.pre).isSome=false):O3 (a::r) out sp=none:=by
 rw [O3,if_neg (by rw [h]; decide),if_pos h1]
 unfold R5
 rw [if_pos ⟨rfl,by simpa using h2⟩]
theorem mkE_go {a:AT} {r:List AT} {out:List XA} {sp:SPX} (h:(M0 a).isSome=false) (h1:a.q.has=true→(K5 sp a.q.pre).isSome=true):O3 (a::r) out sp=if out.any (fun y=>y.space==asX sp a&&y.name==a.q.name) then none else O3 r (out++[⟨asX sp a,a.q.name,a.value⟩]) sp:=by
  rw [O3,if_neg (by rw [h]; decide)]
  unfold asX
  cases hh:a.q.has with
  | false=>rfl
  | true =>
    have h2:=h1 hh
    unfold R5
    rw [if_pos rfl,if_neg (by rintro ⟨_,h3⟩; rw [h3] at h2; cases h2)]
    rfl
theorem any_no {out:List XA} {f:XA→Bool} (h:∀ y∈out,f y=false):out.any f=false:=List.any_eq_false.2 (fun y hy=>by rw [h y hy]; decide)
theorem any_yes {out:List XA} {f:XA→Bool} {y:XA} (hy:y∈out) (h:f y=true):out.any f=true:=List.any_eq_true.2 ⟨y,hy,h⟩
section
variable {lv : Nat} {sp0 sp : SPX} {D r r1 : List UInt8} {a : QN} {ats : List AT} {c : Bool} {s : List UInt8} {m : List XA}
theorem el_q (h:G5 D=none):elE lv sp0 D=.error 70:=by unfold elE T5; rw [h]
theorem el_t (h:G5 D=some (a,r)) (h1:Y7 (r.length+1) [] r=none):elE lv sp0 D=.error 70:=by unfold elE T5; rw [h]; dsimp only; rw [h1]
theorem el_s (h:G5 D=some (a,r)) (h1:Y7 (r.length+1) [] r=some (ats,c,r1)) (h2:spE ats [] sp0=none):elE lv sp0 D=.error 70:=by unfold elE T5; rw [h]; dsimp only; rw [h1]; dsimp only; rw [h2]
theorem el_p (h:G5 D=some (a,r)) (h1:Y7 (r.length+1) [] r=some (ats,c,r1)) (h2:spE ats [] sp0=some sp) (h3:a.has=true) (h4:(K5 sp a.pre).isSome=false):elE lv sp0 D=.error 70:=by
 have h5:R5 a.pre a.has sp=none:=by unfold R5; rw [if_pos ⟨h3,by simpa using h4⟩]
 unfold elE T5; rw [h]; dsimp only; rw [h1]; dsimp only; rw [h2]; dsimp only; rw [h5]
theorem spE_ok (h:¬ (a.has=true∧(K5 sp a.pre).isSome=false)):R5 a.pre a.has sp=some ((K5 sp a.pre).getD []):=by
 unfold R5; rw [if_neg (by rintro ⟨h1,h2⟩; exact h ⟨h1,by rw [h2]; rfl⟩)]
theorem el_m (h:G5 D=some (a,r)) (h1:Y7 (r.length+1) [] r=some (ats,c,r1)) (h2:spE ats [] sp0=some sp) (h3:R5 a.pre a.has sp=some s) (h4:O3 ats [] sp=none):elE lv sp0 D=.error 70:=by
 unfold elE T5; rw [h]; dsimp only; rw [h1]; dsimp only; rw [h2]; dsimp only; rw [h3]; dsimp only; rw [h4]
theorem el_head (h:G5 D=some (a,r)) (h1:Y7 (r.length+1) [] r=some (ats,c,r1)) (h2:spE ats [] sp0=some sp) (h3:R5 a.pre a.has sp=some s) (h4:O3 ats [] sp=some m):T5 sp0 D=some (a,s,m,sp,c,r1):=by
 unfold T5; rw [h]; dsimp only; rw [h1]; dsimp only; rw [h2]; dsimp only; rw [h3]; dsimp only; rw [h4]
theorem el_0 (h:T5 sp0 D=some (a,s,m,sp,c,r1)):elE 0 sp0 D=.error 71:=by unfold elE; rw [h]
theorem el_c (h:T5 sp0 D=some (a,s,m,sp,true,r1)):elE (lv+1) sp0 D=.ok (.mk s a.name m [] [],r1):=by unfold elE; rw [h]; rfl
theorem el_n (h:T5 sp0 D=some (a,s,m,sp,false,r1)):elE (lv+1) sp0 D=match X2 (elE lv sp) (r1.length+1) [] r1 with
    | .error e=>.error e
    | .ok (ks,r2)=>match endE a r2 with
      | none=>.error 70
      | some r3=>.ok (.mk s a.name m ks [],r3):=by
  conv=>lhs; unfold elE; rw [h]
  rfl
end
theorem ct_end {el:List UInt8→EX} {n:Nat} {ks:List XN} {l:List UInt8} {i:Nat} (h:[60,47].isPrefixOf (l.drop i)=true):X2 el (n+1) ks (l.drop i)=.ok (ks,l.drop (i+2)):=by rw [X2,if_pos h,List.drop_drop]
theorem ct_err {el:List UInt8→EX} {n:Nat} {ks:List XN} {D:List UInt8} {e:Int} (h:[60,47].isPrefixOf D=false) (h2:M4 el ks D=.error e):X2 el (n+1) ks D=.error e:=by rw [X2,if_neg (by rw [h]; decide),h2]
theorem ct_go {el:List UInt8→EX} {n:Nat} {ks ks2:List XN} {D r:List UInt8} (h:[60,47].isPrefixOf D=false) (h2:M4 el ks D=.ok (ks2,r)):X2 el (n+1) ks D=X2 el n ks2 r:=by rw [X2,if_neg (by rw [h]; decide),h2]
theorem en_q {a:QN} {D:List UInt8} (h:G5 D=none):endE a D=none:=by unfold endE; rw [h]
theorem en_ne {a b:QN} {D r:List UInt8} (h:G5 D=some (b,r)) (h2:b≠a):endE a D=none:=by unfold endE; rw [h]; exact if_pos h2
theorem en_no {a:QN} {D:List UInt8} {l:List UInt8} {y z:Nat} (h:G5 D=some (a,l.drop y)) (hb:l.drop z=blk (l.drop y)) (h2:[62].isPrefixOf (l.drop z)=false):endE a D=none:=by
 unfold endE; rw [h]; dsimp only; rw [if_neg (fun h=>h rfl),← hb]; unfold O7; rw [if_neg (by rw [h2]; decide)]
theorem en_yes {a:QN} {D:List UInt8} {l:List UInt8} {y z:Nat} (h:G5 D=some (a,l.drop y)) (hb:l.drop z=blk (l.drop y)) (h2:[62].isPrefixOf (l.drop z)=true):endE a D=some (l.drop (z+1)):=by
 unfold endE; rw [h]; dsimp only; rw [if_neg (fun h=>h rfl),← hb]; unfold O7; rw [if_pos h2,List.drop_drop]; rfl
