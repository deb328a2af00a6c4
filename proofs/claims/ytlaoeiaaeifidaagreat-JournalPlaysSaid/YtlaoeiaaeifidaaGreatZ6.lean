/- What the document reads of a log is what the program reads. Plain: no program is in sight. (and what it stands on) -/
import Derived.Test.YtlaoeiaaeifidaaGreatZ5
namespace Go.Proofs.YtlaoeiaaeifidaaGreat
open Go.Sw Go.Lib Go.Vf Go.RowKit
theorem rKeep (x:Nat) (s:RS) (M:DM) (h:s.ok M) (hm:M.kept.length≤10000∧M.changes.length≤200000∧∀ c∈M.changes,c.l.length≤2) (dir:ByteArray) (n:Nat) (hn:n≤1000000) (W0:World) (H:List Grp):Tri Tryz.prog 74 #[pt x,.string dir,.int .i64 ((n:Nat):Int)] W0 ([(x,.cells #[.int .i64 M.room,.slice s.ba s.bn s.bc,.slice s.na s.nn s.nc,.slice s.ka s.kn s.kc,.slice s.ca s.cn s.cc,.bool M.fails,.bool M.once,.int .i64 M.calls] 106 (0,0))]::s.bg::s.cg::(s.Z++H)) (IsR x (M5 M dir n) (.tuple #[]) H):=by
 have hkn:=h.kn
 have hcn:=h.cn
 have hch:=h.chs.len
 obtain ⟨hm1,hm2,hm3⟩:=hm
 refine C8 (args:=[pt x,.string dir,.int .i64 ((n:Nat):Int)]) (n:=56) Tryz.func74 rfl rfl (Nat.le_of_ble_eq_true rfl) ?_
 refine A1 (G_p [0] [0,1,2,6] (k:=?_))
 refine A0 (A1 ?_)
 refine A1 (A2 ?_)
 refine A7 (j:=3) [0,0,0] (k:=A5 (ch:=[]) (b:=x) (off:=4) (v:=.slice s.ca s.cn s.cc) (hA:=At.grp 0 0 rfl rfl) (k:=?_))
 refine C4 [0,0] [0,1,2,6,14,15,16] (k:=A0 ?_)
 refine C5 (R8 (H':=([(x,.cells #[.int .i64 M.room,.slice s.ba s.bn s.bc,.slice s.na s.nn s.nc,.slice s.ka s.kn s.kc,.slice s.ca s.cn s.cc,.bool M.fails,.bool M.once,.int .i64 M.calls] 106 (0,0))]::s.bg::s.cg::[]::(s.Z++H))) (fun w h=>T7 (A:=[_,_,_]) h) ?_)
 refine I8 (EI:=(fun ξ:Nat × Nat × List CR × List Nm × Option Addr × Nat × Option Addr × Nat × Grp × List Grp=>[⟨0,[],pt x⟩,⟨1,[],.string dir⟩,⟨2,[],.int .i64 ((ξ.2.1:Nat):Int)⟩,⟨6,[],.slice ξ.2.2.2.2.2.2.1 ξ.2.2.1.length ξ.2.2.2.2.2.2.2.1⟩,⟨14,[],.slice s.ca s.cn s.cc⟩,⟨15,[],.int .i64 ((s.cn:Nat):Int)⟩,⟨16,[],.int .i64 ((ξ.1:Nat):Int)⟩])) (HI:=(fun ξ:Nat × Nat × List CR × List Nm × Option Addr × Nat × Option Addr × Nat × Grp × List Grp=>([(x,.cells #[.int .i64 M.room,.slice s.ba s.bn s.bc,.slice s.na s.nn s.nc,.slice ξ.2.2.2.2.1 ξ.2.2.2.1.length ξ.2.2.2.2.2.1,.slice s.ca s.cn s.cc,.bool M.fails,.bool M.once,.int .i64 M.calls] 106 (0,0))]::s.bg::s.cg::ξ.2.2.2.2.2.2.2.2.1::(ξ.2.2.2.2.2.2.2.2.2++H)))) (Φ:=(fun ξ:Nat × Nat × List CR × List Nm × Option Addr × Nat × Option Addr × Nat × Grp × List Grp=>(ξ.1≤s.cs.length)∧(keepR dir n M.kept (s.cs.take ξ.1)=(ξ.2.1,ξ.2.2.1,ξ.2.2.2.1))∧(Rd (inZ ξ.2.2.2.2.2.2.2.2.2) ξ.2.2.2.2.1 (nmC ξ.2.2.2.1))∧(Go.Sw.Own 123 2 (.slice ξ.2.2.2.2.2.2.1 ξ.2.2.1.length ξ.2.2.2.2.2.2.2.1) ξ.2.2.2.2.2.2.2.2.1 ξ.2.2.1.length (chC ξ.2.2.1))∧(∀ y o,inZ s.Z y o→inZ ξ.2.2.2.2.2.2.2.2.2 y o)∧(ξ.2.2.2.1.length≤10000+2 * ξ.1)∧(ξ.2.2.1.length≤ξ.1)∧(ξ.2.1≤n))) (μ:=(fun ξ:Nat × Nat × List CR × List Nm × Option Addr × Nat × Option Addr × Nat × Grp × List Grp=>s.cs.length - ξ.1)) (s0:=(0,n,[],M.kept,s.ka,s.kc,none,0,[],s.Z)) [0,1,2,6,14,15,16] kr (by rw [hkn]) ⟨(by omega),rfl,h.kept,Go.Sw.Own.nil,(fun _ _ h=>h),(by omega),(Nat.zero_le _),(Nat.le_refl _)⟩ ?_
 rintro ⟨k,nn,rs,kl,ka2,kc2,ra,rc,gr,Z2⟩ ⟨hk,hst,hkr,hO,hZ,hln,hrl,hnn1⟩
 replace hk:k≤s.cs.length:=hk
 replace hst:keepR dir n M.kept (s.cs.take k)=(nn,rs,kl):=hst
 replace hkr:Rd (inZ Z2) ka2 (nmC kl):=hkr
 replace hO:Go.Sw.Own 123 2 (.slice ra rs.length rc) gr rs.length (chC rs):=hO
 replace hZ:∀ y o,inZ s.Z y o→inZ Z2 y o:=hZ
 replace hln:kl.length≤10000+2 * k:=hln
 replace hrl:rs.length≤k:=hrl
 replace hnn1:nn≤n:=hnn1
 refine A1 (G_p [0] [0,1,2,6,14,15,16,17] (k:=?_))
 refine A0 (A1 ?_)
 refine C6 (b:=decide (((k:Nat):Int)<((s.cn:Nat):Int))) kr (fun hc1=>?_) (fun hc1=>?_)
 ·
  replace hc1:=of_decide_eq_true hc1
  obtain ⟨hcr,hcl⟩:=cr_at h.chs (k:=k) (by omega)
  have hcl2:(s.cs.getD k default).l.length≤2:=by (obtain ⟨c0,hc0,he0⟩:=hcl; rw [he0]; exact hm3 c0 hc0)
  refine B5 (A0 ?_)
  refine A1 (C5 ?_)
  refine A1 (A2 ?_)
  refine B7 (ch:=[]) (a:=s.ca) (len:=s.cn) (cap:=s.cc) (kd:=.i64) (j:=((k:Nat):Int)) (e:=123) (sz:=2) (S:=(inG s.cg)) (cs:=(chC s.cs)) (hrd:=D6 h.own2) (hb:=(fun _=>by exact ⟨by omega,by omega,chC_ne (i:=k) (by omega)⟩)) (k:=Q0 (ch:=[]) (a:=s.ca) (q:=k * 2) (S:=(inG s.cg)) (cs:=(chC s.cs)) (l:=[.string ((s.cs.getD k default).dir),.slice (s.cs.getD k default).a ((s.cs.getD k default).l.length) ((s.cs.getD k default).c)]) (hrd:=D6 h.own2) (hS:=C9 2 rfl) (hl:=List.cons_ne_nil _ _) (hv:=(fun _=>(fun m hm=>(P5 (by omega) m hm).trans (List.getElem?_eq_getElem hm)))) (k:=?_))
  refine K5 (ch:=[]) (z:=.agg #[.string (ByteArray.mk #[]),.slice none 0 0]) (k:=(fun b2=>?_))
  refine G4 (ch:=[]) (b:=b2) (off:=0) (v:=.agg #[.string ((s.cs.getD k default).dir),.slice (s.cs.getD k default).a ((s.cs.getD k default).l.length) ((s.cs.getD k default).c)]) (j:=0) ([(b2,.cells #[.string ((s.cs.getD k default).dir),.slice (s.cs.getD k default).a ((s.cs.getD k default).l.length) ((s.cs.getD k default).c)] 123 (0,0))]::[(x,.cells #[.int .i64 M.room,.slice s.ba s.bn s.bc,.slice s.na s.nn s.nc,.slice ka2 kl.length kc2,.slice s.ca s.cn s.cc,.bool M.fails,.bool M.once,.int .i64 M.calls] 106 (0,0))]::s.bg::s.cg::gr::(Z2++H)) (hoff:=Nat.le_of_ble_eq_true rfl) (hfz:=(fun _ _=>F0)) (k:=C4 [] [0,1,2,6,8,14,15,16] (k:=?_))
  refine A0 (A1 ?_)
  refine A1 (A2 ?_)
  refine A7 (j:=1) [0] (k:=A5 (ch:=[]) (b:=b2) (off:=0) (v:=.string ((s.cs.getD k default).dir)) (hA:=At.grp 0 0 rfl rfl) (k:=?_))
  refine C4 [0,0,0,0,0,5] [0,1,2,6,8,14,15,16,27] (k:=A0 ?_)
  refine C6 (b:=(!(((s.cs.getD k default).dir).toList==dir.toList))||(((nn:Nat):Int)==0)) kr (fun hc3=>?_) (fun hc3=>?_)
  ·
   have hc:=hc3
   refine A1 (A2 ?_)
   refine A7 (j:=1) [0] (k:=P8 (ch:=[]) (b:=b2) (off:=0) (l:=[.string ((s.cs.getD k default).dir),.slice (s.cs.getD k default).a ((s.cs.getD k default).l.length) ((s.cs.getD k default).c)]) (hA:=At.grp 0 0 rfl rfl) (k:=?_))
   refine C2 (ch:=[]) (e:=123) (l:=[(0,.agg #[.string ((s.cs.getD k default).dir),.slice (s.cs.getD k default).a ((s.cs.getD k default).l.length) ((s.cs.getD k default).c)])]) (c:=[.string ((s.cs.getD k default).dir),.slice (s.cs.getD k default).a ((s.cs.getD k default).l.length) ((s.cs.getD k default).c)]) (k:=(fun b4=>?_))
   refine E9 (i:=3) (ch:=[]) (t:=104) (tx:=104) (e:=123) (inf:=Tryz.t123) (s:=.slice ra rs.length rc) (x:=.slice (some ⟨b4,0,none⟩) 1 1) (n:=rs.length) (m:=1) (j:=5) (cs:=(chC rs)) (news:=[.string ((s.cs.getD k default).dir),.slice (s.cs.getD k default).a ((s.cs.getD k default).l.length) ((s.cs.getD k default).c)]) (g:=gr) (S:=(inG [(b4,.cells #[.string ((s.cs.getD k default).dir),.slice (s.cs.getD k default).a ((s.cs.getD k default).l.length) ((s.cs.getD k default).c)] 123 (0,0))])) rfl rfl rfl rfl kr kr kr rfl rfl (.inl ⟨123,kr⟩) (fun ⟨_,h⟩=>by cases h) (fun _=>⟨123,kr⟩) kr kr kr rfl hO (SrcOf.slice _ _ _ _ Rd.lit (fun h=>by cases h)) (C9 0 rfl) kr (by intro u hu; simp only [List.mem_cons,List.not_mem_nil,or_false] at hu; rcases hu with rfl | rfl <;> rfl) (by omega) (by show (rs.length+1) * 40≤140737488355328; omega) (fun v5 g6 hO7=>?_)
   obtain ⟨a8,cap9,rfl,hcap10,hrd11⟩:=hO7.shape
   refine C4 [0] [0,1,2,6,14,15,16] (k:=A0 ?_)
   refine G6 (A8 ?_)
   refine C7 (A0 ?_)
   refine A2 (A7 (j:=1) [0] (k:=?_))
   refine F2 51 (((k:Nat):Int)+1) (by omega) (by omega) kr (C4 [0] [0,1,2,6,14,15,16] (k:=?_))
   refine H8 (E':=[⟨0,[],pt x⟩,⟨1,[],.string dir⟩,⟨2,[],.int .i64 ((nn:Nat):Int)⟩,⟨6,[],.slice a8 (rs.length+1) cap9⟩,⟨14,[],.slice s.ca s.cn s.cc⟩,⟨15,[],.int .i64 ((s.cn:Nat):Int)⟩,⟨16,[],.int .i64 (((k:Nat):Int)+1)⟩]) kr (H8 (E':=[⟨0,[],pt x⟩,⟨1,[],.string dir⟩,⟨2,[],.int .i64 ((nn:Nat):Int)⟩,⟨6,[],.slice a8 ((rs++[(s.cs.getD k default)]).length) cap9⟩,⟨14,[],.slice s.ca s.cn s.cc⟩,⟨15,[],.int .i64 ((s.cn:Nat):Int)⟩,⟨16,[],.int .i64 (((k:Nat):Int)+1)⟩]) (by rw [List.length_append]; rfl) ?_)
   refine E0 (H':=([(x,.cells #[.int .i64 M.room,.slice s.ba s.bn s.bc,.slice s.na s.nn s.nc,.slice ka2 kl.length kc2,.slice s.ca s.cn s.cc,.bool M.fails,.bool M.once,.int .i64 M.calls] 106 (0,0))]::s.bg::s.cg::g6::(Z2++H))) (fun w h=>((h.erase 1).erase 0)) (N_heq (H':=([(x,.cells #[.int .i64 M.room,.slice s.ba s.bn s.bc,.slice s.na s.nn s.nc,.slice ka2 kl.length kc2,.slice s.ca s.cn s.cc,.bool M.fails,.bool M.once,.int .i64 M.calls] 106 (0,0))]::s.bg::s.cg::g6::(Z2++H))) rfl ?_)
   refine E5 (s':=(k+1,nn,rs++[(s.cs.getD k default)],kl,ka2,kc2,a8,cap9,g6,Z2)) [0,1,2,6,14,15,16] kr rfl ⟨(by omega),(keepR_put (by omega) hst hc),hkr,(own_chput hO7),hZ,(by show kl.length≤_; omega),(by show (rs++[(s.cs.getD k default)]).length≤_; rw [List.length_append]; show rs.length+1≤_; omega),hnn1⟩ (by omega)
  ·
   have hc:=hc3
   refine B5 (A0 ?_)
   refine A1 (A2 ?_)
   refine A7 (j:=2) [0,0] (k:=F2 33 (((nn:Nat):Int) - 1) (by omega) (by omega) kr ?_)
   refine C4 [0] [0,1,2,6,8,14,15,16] (k:=A0 ?_)
   refine A1 (A2 ?_)
   refine A7 (j:=1) [0] (k:=A5 (ch:=[]) (b:=b2) (off:=1) (v:=.slice (s.cs.getD k default).a ((s.cs.getD k default).l.length) ((s.cs.getD k default).c)) (hA:=At.grp 0 0 rfl rfl) (k:=?_))
   refine C4 [0,0] [0,1,2,6,14,15,16,35,36,37] (k:=A0 ?_)
   refine C5 (R8 (H':=([(x,.cells #[.int .i64 M.room,.slice s.ba s.bn s.bc,.slice s.na s.nn s.nc,.slice ka2 kl.length kc2,.slice s.ca s.cn s.cc,.bool M.fails,.bool M.once,.int .i64 M.calls] 106 (0,0))]::s.bg::s.cg::gr::(Z2++H))) (fun w h=>(h.erase 0)) ?_)
   refine I8 (EI:=(fun ξ:Nat × List Nm × Option Addr × Nat × List Grp=>[⟨0,[],pt x⟩,⟨1,[],.string dir⟩,⟨2,[],.int .i64 (((nn:Nat):Int) - 1)⟩,⟨6,[],.slice ra rs.length rc⟩,⟨14,[],.slice s.ca s.cn s.cc⟩,⟨15,[],.int .i64 ((s.cn:Nat):Int)⟩,⟨16,[],.int .i64 ((k:Nat):Int)⟩,⟨35,[],.slice (s.cs.getD k default).a ((s.cs.getD k default).l.length) ((s.cs.getD k default).c)⟩,⟨36,[],.int .i64 (((s.cs.getD k default).l.length:Nat):Int)⟩,⟨37,[],.int .i64 ((ξ.1:Nat):Int)⟩])) (HI:=(fun ξ:Nat × List Nm × Option Addr × Nat × List Grp=>([(x,.cells #[.int .i64 M.room,.slice s.ba s.bn s.bc,.slice s.na s.nn s.nc,.slice ξ.2.2.1 ξ.2.1.length ξ.2.2.2.1,.slice s.ca s.cn s.cc,.bool M.fails,.bool M.once,.int .i64 M.calls] 106 (0,0))]::s.bg::s.cg::gr::(ξ.2.2.2.2++H)))) (Φ:=(fun ξ:Nat × List Nm × Option Addr × Nat × List Grp=>(ξ.1≤(s.cs.getD k default).l.length)∧(ξ.2.1=J6 kl ((s.cs.getD k default).l.take ξ.1))∧(Rd (inZ ξ.2.2.2.2) ξ.2.2.1 (nmC ξ.2.1))∧(∀ y o,inZ s.Z y o→inZ ξ.2.2.2.2 y o)∧(ξ.2.1.length≤10000+2 * k+ξ.1))) (μ:=(fun ξ:Nat × List Nm × Option Addr × Nat × List Grp=>(s.cs.getD k default).l.length - ξ.1)) (s0:=(0,kl,ka2,kc2,Z2)) [0,1,2,6,14,15,16,35,36,37] kr rfl ⟨(by omega),rfl,hkr,hZ,(by show kl.length≤_; omega)⟩ ?_
   rintro ⟨j,kl3,ka3,kc3,Z3⟩ ⟨hj,hkl3,hk3,hZ3,hln3⟩
   replace hj:j≤(s.cs.getD k default).l.length:=hj
   replace hkl3:kl3=J6 kl ((s.cs.getD k default).l.take j):=hkl3
   replace hk3:Rd (inZ Z3) ka3 (nmC kl3):=hk3
   replace hZ3:∀ y o,inZ s.Z y o→inZ Z3 y o:=hZ3
   replace hln3:kl3.length≤10000+2 * k+j:=hln3
   refine A1 (G_p [0] [0,1,2,6,14,15,16,35,36,37,38] (k:=?_))
   refine A0 (A1 ?_)
   refine C6 (b:=decide (((j:Nat):Int)<(((s.cs.getD k default).l.length:Nat):Int))) kr (fun hc14=>?_) (fun hc14=>?_)
   ·
    replace hc14:=of_decide_eq_true hc14
    refine B5 (A0 ?_)
    refine A1 (C5 ?_)
    refine A1 (A2 ?_)
    refine B7 (ch:=[]) (a:=(s.cs.getD k default).a) (len:=(s.cs.getD k default).l.length) (cap:=(s.cs.getD k default).c) (kd:=.i64) (j:=((j:Nat):Int)) (e:=133) (sz:=2) (S:=(inZ s.Z)) (cs:=(nmC (s.cs.getD k default).l)) (hrd:=hcr) (hb:=(fun _=>by exact ⟨by omega,by omega,nmC_ne (i:=j) (by omega)⟩)) (k:=Q0 (ch:=[]) (a:=(s.cs.getD k default).a) (q:=j * 2) (S:=(inZ s.Z)) (cs:=(nmC (s.cs.getD k default).l)) (l:=[.string ((((s.cs.getD k default).l).getD j default).1),.int .i64 ((((s.cs.getD k default).l).getD j default).2)]) (hrd:=hcr) (hS:=(fun y o h=>(At.cons (At.cons (At.cons (At.cons (at_inZ (hZ3 y o h)))))))) (hl:=List.cons_ne_nil _ _) (hv:=(fun _=>(fun m hm=>(P5 (by omega) m hm).trans (List.getElem?_eq_getElem hm)))) (k:=?_))
    refine K5 (ch:=[]) (z:=.agg #[.string (ByteArray.mk #[]),.int .i64 0]) (k:=(fun b15=>?_))
    refine G4 (ch:=[]) (b:=b15) (off:=0) (v:=.agg #[.string ((((s.cs.getD k default).l).getD j default).1),.int .i64 ((((s.cs.getD k default).l).getD j default).2)]) (j:=0) ([(b15,.cells #[.string ((((s.cs.getD k default).l).getD j default).1),.int .i64 ((((s.cs.getD k default).l).getD j default).2)] 133 (0,0))]::[(x,.cells #[.int .i64 M.room,.slice s.ba s.bn s.bc,.slice s.na s.nn s.nc,.slice ka3 kl3.length kc3,.slice s.ca s.cn s.cc,.bool M.fails,.bool M.once,.int .i64 M.calls] 106 (0,0))]::s.bg::s.cg::gr::(Z3++H)) (hoff:=Nat.le_of_ble_eq_true rfl) (hfz:=(fun _ _=>F0)) (k:=C4 [] [0,1,2,6,10,14,15,16,35,36,37] (k:=?_))
    refine A0 (D7 ([(b15,.cells #[.string ((((s.cs.getD k default).l).getD j default).1),.int .i64 ((((s.cs.getD k default).l).getD j default).2)] 133 (0,0))]::s.bg::s.cg::gr::(Z3++H)) kr ?_)
    refine D0 (fuel:=8) [(0,0),(1,0)] (fun w h=>(h.erase 1)) (k:=G0 (ad:=⟨x,0,none⟩) 2 (hL:=(fun w h=>(h.erase 1))) (k:=?_))
    refine D0 (fuel:=6) [(3,0)] (fun w h=>(h.erase 1)) (k:=A9 5 (hL:=(fun w h=>(h.erase 1))) (hy:=P8 (i:=5) (ch:=[]) (b:=b15) (off:=0) (l:=[.string ((((s.cs.getD k default).l).getD j default).1),.int .i64 ((((s.cs.getD k default).l).getD j default).2)]) (hA:=At.grp 0 0 rfl rfl) (k:=B1 kr rfl)) (k:=?_))
    refine B9 4 (k:=A5 (ch:=[]) (b:=x) (off:=3) (v:=.slice ka3 kl3.length kc3) (hA:=At.grp 1 0 rfl rfl) (k:=?_))
    refine A6 kr (fun w h=>(h.erase 1)) (B9 6 (k:=?_))
    refine G2 Tryz.func95 (rWith ka3 kc3 (inZ Z3) kl3 (((s.cs.getD k default).l).getD j default) hk3 (by omega) _ _ (fun y o h=>(At.cons (At.cons (At.cons (At.cons (At.cons (at_inZ h)))))))) ?_
    rintro v H' ⟨g16,hO17,rfl⟩
    obtain ⟨na18,nc19,rfl,hnc20,hrw21⟩:=hO17.shape
    refine A6 kr (fun w h=>((h.erase 2).erase 0)) (I0 (g16::[(b15,.cells #[.string ((((s.cs.getD k default).l).getD j default).1),.int .i64 ((((s.cs.getD k default).l).getD j default).2)] 133 (0,0))]::s.bg::s.cg::gr::(Z3++H)) (fun w h=>(h.erase 0)) ?_)
    refine G0 (ad:=⟨x,0,none⟩) 7 (hL:=(fun w h=>(h.erase 2))) (k:=D0 (fuel:=1) [(8,0)] (fun w h=>(h.erase 2)) (k:=?_))
    refine B9 9 (k:=G4 (ch:=[]) (b:=x) (off:=3) (v:=.slice na18 ((N2 kl3 (((s.cs.getD k default).l).getD j default)).length) nc19) (j:=2) (g16::[(b15,.cells #[.string ((((s.cs.getD k default).l).getD j default).1),.int .i64 ((((s.cs.getD k default).l).getD j default).2)] 133 (0,0))]::[(x,.cells #[.int .i64 M.room,.slice s.ba s.bn s.bc,.slice s.na s.nn s.nc,.slice na18 ((N2 kl3 (((s.cs.getD k default).l).getD j default)).length) nc19,.slice s.ca s.cn s.cc,.bool M.fails,.bool M.once,.int .i64 M.calls] 106 (0,0))]::s.bg::s.cg::gr::(Z3++H)) (hoff:=Nat.le_of_ble_eq_true rfl) (hfz:=(fun _ _=>F0)) (k:=?_))
    refine A6 kr (fun w h=>(h.erase 2)) (D8 (E':=[⟨0,[],pt x⟩,⟨1,[],.string dir⟩,⟨2,[],.int .i64 (((nn:Nat):Int) - 1)⟩,⟨6,[],.slice ra rs.length rc⟩,⟨14,[],.slice s.ca s.cn s.cc⟩,⟨15,[],.int .i64 ((s.cn:Nat):Int)⟩,⟨16,[],.int .i64 ((k:Nat):Int)⟩,⟨35,[],.slice (s.cs.getD k default).a ((s.cs.getD k default).l.length) ((s.cs.getD k default).c)⟩,⟨36,[],.int .i64 (((s.cs.getD k default).l.length:Nat):Int)⟩,⟨37,[],.int .i64 ((j:Nat):Int)⟩]) [0,1,2,6,14,15,16,35,36,37] (k:=?_))
    refine D5 (A0 ?_)
    refine A2 (A7 (j:=1) [0] (k:=?_))
    refine F2 50 (((j:Nat):Int)+1) (by omega) (by omega) kr (C4 [0] [0,1,2,6,14,15,16,35,36,37] (k:=?_))
    refine E0 (H':=([(x,.cells #[.int .i64 M.room,.slice s.ba s.bn s.bc,.slice s.na s.nn s.nc,.slice na18 ((N2 kl3 (((s.cs.getD k default).l).getD j default)).length) nc19,.slice s.ca s.cn s.cc,.bool M.fails,.bool M.once,.int .i64 M.calls] 106 (0,0))]::s.bg::s.cg::gr::g16::(Z3++H))) (fun w h=>(((((h.front (j:=5) rfl).front (j:=5) rfl).front (j:=5) rfl).front (j:=5) rfl).erase 5)) (E5 (s':=(j+1,(N2 kl3 (((s.cs.getD k default).l).getD j default)),na18,nc19,(g16::Z3))) [0,1,2,6,14,15,16,35,36,37] kr rfl ⟨(by omega),(by show N2 kl3 _=_; rw [apply_snoc (by omega),hkl3]),(hrw21.mono fun y o h=>inZ_hd h),(fun y o h=>A0w (hZ3 y o h)),(by have:=with_le kl3 ((s.cs.getD k default).l.getD j default); show (N2 kl3 _).length≤_; omega)⟩ (by omega))
   ·
    replace hc14:=of_decide_eq_false hc14
    refine G6 (A8 ?_)
    refine A8 (C7 ?_)
    refine D5 (A0 ?_)
    refine A2 (A7 (j:=1) [0] (k:=?_))
    refine F2 51 (((k:Nat):Int)+1) (by omega) (by omega) kr (C4 [0] [0,1,2,6,14,15,16] (k:=?_))
    have hnp:0<nn:=by (simp only [Bool.or_eq_false_iff,beq_eq_false_iff_ne,ne_eq] at hc; omega)
    refine H8 (E':=[⟨0,[],pt x⟩,⟨1,[],.string dir⟩,⟨2,[],.int .i64 (((nn:Nat):Int) - 1)⟩,⟨6,[],.slice ra rs.length rc⟩,⟨14,[],.slice s.ca s.cn s.cc⟩,⟨15,[],.int .i64 ((s.cn:Nat):Int)⟩,⟨16,[],.int .i64 (((k:Nat):Int)+1)⟩]) kr (H8 (E':=[⟨0,[],pt x⟩,⟨1,[],.string dir⟩,⟨2,[],.int .i64 ((nn - 1:Nat):Int)⟩,⟨6,[],.slice ra rs.length rc⟩,⟨14,[],.slice s.ca s.cn s.cc⟩,⟨15,[],.int .i64 ((s.cn:Nat):Int)⟩,⟨16,[],.int .i64 (((k:Nat):Int)+1)⟩]) (by rw [show ((nn - 1:Nat):Int)=((nn:Nat):Int) - 1 by omega]) ?_)
    refine N_heq (H':=([(x,.cells #[.int .i64 M.room,.slice s.ba s.bn s.bc,.slice s.na s.nn s.nc,.slice ka3 kl3.length kc3,.slice s.ca s.cn s.cc,.bool M.fails,.bool M.once,.int .i64 M.calls] 106 (0,0))]::s.bg::s.cg::gr::(Z3++H))) rfl (E5 (s':=(k+1,nn - 1,rs,kl3,ka3,kc3,ra,rc,gr,Z3)) [0,1,2,6,14,15,16] kr rfl ⟨(by omega),(by have e:=keepR_not (by omega) hst hc; rw [e,hkl3,List.take_of_length_le (by omega)]),hk3,hO,hZ3,(by show kl3.length≤_; omega),(by show rs.length≤_; omega),(by show nn - 1≤n; omega)⟩ (by omega))
 ·
  replace hc1:=of_decide_eq_false hc1
  refine G6 (A8 ?_)
  refine A8 (C7 ?_)
  refine A0 (A2 ?_)
  refine A7 (j:=4) [0,0,0,0] (k:=G4 (ch:=[]) (b:=x) (off:=4) (v:=.slice ra rs.length rc) (j:=0) ([(x,.cells #[.int .i64 M.room,.slice s.ba s.bn s.bc,.slice s.na s.nn s.nc,.slice ka2 kl.length kc2,.slice ra rs.length rc,.bool M.fails,.bool M.once,.int .i64 M.calls] 106 (0,0))]::s.bg::s.cg::gr::(Z2++H)) (hoff:=Nat.le_of_ble_eq_true rfl) (hfz:=(fun _ _=>F0)) (k:=?_))
  refine D3 (E':=[]) [] [] (k:=E0 (H':=([(x,.cells #[.int .i64 M.room,.slice s.ba s.bn s.bc,.slice s.na s.nn s.nc,.slice ka2 kl.length kc2,.slice ra rs.length rc,.bool M.fails,.bool M.once,.int .i64 M.calls] 106 (0,0))]::s.bg::gr::(Z2++H))) (fun w h=>(h.erase 2)) ?_)
  refine C1 [] [] (k:=?_)
  exact ⟨rfl,_,ok_rkeep h hZ (by rw [List.take_of_length_le (by omega)] at hst; exact hst) hkr hO,rfl⟩
theorem rSyncDir (x:Nat) (s:RS) (M:DM) (h:s.ok M) (hm:V3 M) (d:ByteArray) (hd:d.size≤9223372036854775807) (W0:World) (H:List Grp):Tri Tryz.prog 61 #[pt x,.string d] W0 ([(x,.cells #[.int .i64 M.room,.slice s.ba s.bn s.bc,.slice s.na s.nn s.nc,.slice s.ka s.kn s.kc,.slice s.ca s.cn s.cc,.bool M.fails,.bool M.once,.int .i64 M.calls] 106 (0,0))]::s.bg::s.cg::(s.Z++H)) (IsR x (I4 M d).2 (.int .i64 (I4 M d).1) H):=by
 have hnn:=h.nn
 have hbn:=h.bn
 have hkn:=h.kn
 have hcn:=h.cn
 have hch:=h.chs.len
 have hus:=A0m hm.small fun x hx=>(h.well.names x hx).2
 have hsn:=hm.small.names
 have hsb:=hm.small.bodies
 have hsc:=hm.small.changes
 have hskn:M.kept.length≤10000:=Nat.le_trans (Nat.le_add_right _ _) hm.kept
 have hsca:=hm.small.calls
 refine C8 (args:=[pt x,.string d]) (n:=25) Tryz.func61 rfl rfl (Nat.le_of_ble_eq_true rfl) ?_
 refine A1 (B4 (E':=[⟨0,[],pt x⟩,⟨1,[],.string d⟩]) [0] [0,1] (k:=?_))
 refine A0 (A1 ?_)
 refine A1 (A2 ?_)
 refine A7 (j:=5) [0,0,0,0,0] (k:=J9 (ch:=[(9,false)]) (f:=11) (fst:=#[]) (caps:=#[]) (vs:=[.string d]) (v:=.bool (H0 d)) (hf:=Tryz.func11) (hc:=(fun hc=>refPart _ hd _ _)) (k:=?_))
 refine A7 (j:=7) [5] (k:=G2 Tryz.func65 (rCall x M.room M.calls (.slice s.ba s.bn s.bc) (.slice s.na s.nn s.nc) (.slice s.ka s.kn s.kc) (.slice s.ca s.cn s.cc) M.fails M.once ((d.toList==(ByteArray.mk #[]).toList)||(H0 d)) hsca _ _) ?_)
 rintro v H' ⟨rfl,rfl⟩
 refine C4 [0] [0,1,5] (k:=A0 ?_)
 refine A1 (G_p [0,0] [0,1,5,15] (k:=?_))
 refine A0 (C6 (b:=((B6 M.fails M.once M.calls ((d.toList==(ByteArray.mk #[]).toList)||(H0 d))).1) != 0) kr (fun hc1=>?_) (fun hc1=>?_))
 ·
  have he:V5 M (dirR d)≠0:=bne_iff_ne.1 hc1
  refine A1 (G_p [0,0] [4] (k:=?_))
  refine A0 (C3 ?_)
  refine B3 (C1 [.tmp 4] [.int .i64 ((B6 M.fails M.once M.calls ((d.toList==(ByteArray.mk #[]).toList)||(H0 d))).1)] (k:=?_))
  rw [Q5 he]
  exact ⟨rfl,s,L9 h _,rfl⟩
 ·
  have he:V5 M (dirR d)=0:=by (have h0:=hc1; simp only [bne_eq_false_iff_eq] at h0; exact h0)
  refine B5 (A0 ?_)
  refine A1 (A2 ?_)
  refine A7 (j:=5) [0,0,0,0,0] (k:=A5 (ch:=[]) (b:=x) (off:=4) (v:=.slice s.ca s.cn s.cc) (hA:=At.grp 0 0 rfl rfl) (k:=?_))
  refine A7 (j:=7) [0] (k:=G2 Tryz.func74 (rKeep x s (H5 M (dirR d)) (L9 h _) ⟨hskn,Nat.le_trans hsc (by decide),hm.chs⟩ d s.cn (by omega) _ H) ?_)
  rintro v H' ⟨rfl,sr2,hsr2,rfl⟩
  refine D3 (E':=[]) [] [] (k:=A0 ?_)
  refine A1 (B4 (E':=[⟨4,[],.int .i64 0⟩]) [0] [4] (k:=?_))
  refine A0 (C3 ?_)
  refine C1 [.tmp 4] [.int .i64 0] (k:=?_)
  rw [P2 he]
  have e:=keepM_all (H5 M (dirR d)) d
  rw [show (H5 M (dirR d)).changes.length=s.cn by rw [hcn,hch]; rfl] at e
  rw [e] at hsr2
  exact ⟨rfl,sr2,hsr2,by rw [e]; rfl⟩
end Go.Proofs.YtlaoeiaaeifidaaGreat
namespace Go.Vf
open Go.Sw Go.RowKit Go.Proofs.YtlaoeiaaeifidaaGreat
abbrev SortedB (l:List ByteArray):Prop:=l.Pairwise fun a b=>a.data.toList≤b.data.toList
theorem bl_eq:∀ x y:List UInt8,Op.bytesLess x y=decide (x<y)
  | [],[]=>by simp [Op.bytesLess]
  | _::_,[]=>by simp [Op.bytesLess]
  | [],_::_=>by simp [Op.bytesLess]
  | a::x,b::y=>by
    rw [Op.bytesLess,bl_eq x y,Bool.eq_iff_iff]
    simp only [Bool.or_eq_true,Bool.and_eq_true,decide_eq_true_eq,beq_iff_eq,List.cons_lt_cons_iff]
theorem bl_lt (a b:ByteArray):Op.bytesLess a.toList b.toList=decide (a.data.toList<b.data.toList):=by rw [bl_eq,Lib.toList_data,Lib.toList_data]
theorem sortB_sorted (ws:List ByteArray):SortedB (V7 ws):=by
  unfold V7 SortedB
  rw [List.pairwise_map]
  have h:=List.pairwise_mergeSort (le:=fun x y:List UInt8=>decide (x≤y)) (by intro a b c; simp only [decide_eq_true_eq]; exact List.le_trans) (by intro a b; simp only [Bool.or_eq_true,decide_eq_true_eq]; exact List.le_total a b) (ws.map fun s=>s.data.toList)
  exact h.imp fun {a b} hab=>by simpa using hab
theorem sorted_uniq {l ws:List ByteArray} (h:SortedB l) (hp:l.Perm ws):l=V7 ws :=
  (hp.trans (S9 ws).symm).eq_of_pairwise (le:=fun a b:ByteArray=>a.data.toList≤b.data.toList) (fun a b _ _ h1 h2=>by
    have e:=List.le_antisymm h1 h2
    have e2:a.data=b.data:=Array.toList_inj.1 e
    cases a; cases b; simp_all) h (sortB_sorted ws)
end Go.Vf
namespace Go.Vf
open Go.Sw Go.RowKit
theorem headD_drop {l:List Int} {u:Nat}:(l.drop u).headD 0=l.getD u 0:=by
  rw [List.headD_eq_head?_getD,List.head?_drop,List.getD_eq_getElem?_getD]
theorem getD_over {l:List Int} {u:Nat} (h:l.length≤u):l.getD u 0=0:=by
  rw [List.getD_eq_getElem?_getD,List.getElem?_eq_none h]; rfl
theorem nextK0 {m:Int} (hm:0<m):F1 0 m=0:=by
  unfold F1
  rw [Int.zero_tmod,Int.zero_add,Int.tmod_self]
theorem crashB_app:∀ (A B:List Body) (ks:List Int),I6 (A++B) ks=((I6 A ks).1++(I6 B (I6 A ks).2).1,(I6 B (I6 A ks).2).2)
  | [],B,ks=>rfl
  | b::A,B,ks=>by
    rw [List.cons_append,I6,I6]
    split
    · simp only; rw [crashB_app A B]; rfl
    · simp only; rw [crashB_app A B]; rfl
def CrB (Bs:List Body) (l:List Int) (j u:Nat) (X:List Body):Prop:=∃ P,I6 (Bs.take j) l=(P,l.drop u)∧X=P++Bs.drop j
theorem crb0 (Bs:List Body) (l:List Int):CrB Bs l 0 0 Bs:=⟨[],by simp [I6],by simp⟩
theorem crb_at {Bs X:List Body} {l:List Int} {j u:Nat} (h:CrB Bs l j u X) (hj:j≤Bs.length):X.length=Bs.length∧X.getD j default=Bs.getD j default:=by
  obtain ⟨P,h1,rfl⟩:=h
  have hP:P.length=j:=by
    have:=A0f (Bs:=Bs.take j) (ks:=l)
    rw [h1,List.length_take] at this
    show P.length=j
    have h2:P.length=min j Bs.length:=this
    omega
  refine ⟨by rw [List.length_append,List.length_drop]; omega,?_⟩
  rw [List.getD_eq_getElem?_getD,List.getD_eq_getElem?_getD,List.getElem?_append_right (by omega),List.getElem?_drop,hP,Nat.sub_self,Nat.add_zero]
theorem crb_set {Bs X:List Body} {l:List Int} {j u u':Nat} {Y:Body} (h:CrB Bs l j u X) (hj:j<Bs.length) (h1:I6 [Bs.getD j default] (l.drop u)=([Y],l.drop u')):CrB Bs l (j+1) u' (X.set j Y):=by
  obtain ⟨P,h2,rfl⟩:=h
  have hP:P.length=j:=by
    have:=A0f (Bs:=Bs.take j) (ks:=l)
    rw [h2,List.length_take] at this
    have h2:P.length=min j Bs.length:=this
    omega
  refine ⟨P++[Y],?_,?_⟩
  · rw [K8 (d:=default) hj,crashB_app,h2]
    show (P++(I6 [Bs.getD j default] (l.drop u)).1,(I6 [Bs.getD j default] (l.drop u)).2)=_
    rw [h1]
  · rw [List.set_append_right _ _ (by omega),hP,Nat.sub_self,List.drop_eq_getElem_cons hj,List.set_cons_zero,List.append_assoc]; rfl
theorem now_ne {b:Body} (hp:b.kept.size≤b.now.size∧b.kept=b.now.extract 0 b.kept.size) (h:(!(b.now.toList==b.kept.toList))=true):b.kept.size<b.now.size:=by
  rcases Nat.lt_or_ge b.kept.size b.now.size with h1 | h1
  · exact h1
  · exfalso
    have e:b.kept.size=b.now.size:=by omega
    have e2:b.kept=b.now:=by
      have h3:=hp.2
      rw [e] at h3
      exact h3.trans (pre_same b.now).2.symm
    rw [e2,beq_self_eq_true] at h
    cases h
theorem now_eq {b:Body} (h:(!(b.now.toList==b.kept.toList))=false):b.now=b.kept:=by
  rw [tlEq] at h
  simpa using h
theorem set_twice {X:List Body} {j:Nat} (hj:j<X.length) {n k:ByteArray}:((X.set j ⟨n,k⟩).set j ⟨((X.set j ⟨n,k⟩).getD j default).kept,((X.set j ⟨n,k⟩).getD j default).kept⟩)=X.set j ⟨k,k⟩:=by
  have e:(X.set j ⟨n,k⟩).getD j default=⟨n,k⟩:=by
    rw [List.getD_eq_getElem?_getD,List.getElem?_set_self hj]; rfl
  rw [e,List.set_set]
theorem crb_yes {Bs X:List Body} {l:List Int} {j u:Nat} (h:CrB Bs l j u X) (hj:j<Bs.length) (hp:∀ B∈Bs,B.kept.size≤B.now.size∧B.kept=B.now.extract 0 B.kept.size) (hne:(!((X.getD j default).now.toList==(X.getD j default).kept.toList))=true) {n:Int}
    (hn:n=F1 (l.getD u 0) (((X.getD j default).now.size:Int) - ((X.getD j default).kept.size:Int)+1)) :
    CrB Bs l (j+1) (u+1) ((X.set j ⟨(X.getD j default).now,(X.getD j default).now.extract 0 (Int.toNat (((X.getD j default).kept.size:Int)+n))⟩).set j ⟨((X.set j ⟨(X.getD j default).now,(X.getD j default).now.extract 0 (Int.toNat (((X.getD j default).kept.size:Int)+n))⟩).getD j default).kept,((X.set j ⟨(X.getD j default).now,(X.getD j default).now.extract 0 (Int.toNat (((X.getD j default).kept.size:Int)+n))⟩).getD j default).kept⟩):=by
  obtain ⟨hl,he⟩:=crb_at h (Nat.le_of_lt hj)
  rw [set_twice (by omega)]
  refine crb_set h hj ?_
  rw [he] at hne hn ⊢
  have hlt:=now_ne (hp _ (P3 hj)) hne
  have hb:=R6 (k:=l.getD u 0) (n:=((Bs.getD j default).now.size:Int) - ((Bs.getD j default).kept.size:Int)+1) (by omega)
  rw [I6,if_pos (by omega),headD_drop,List.drop_drop]
  subst hn
  have e:Int.toNat (((Bs.getD j default).kept.size:Int)+F1 (l.getD u 0) (((Bs.getD j default).now.size:Int) - ((Bs.getD j default).kept.size:Int)+1))=(Bs.getD j default).kept.size+(F1 (l.getD u 0) (((Bs.getD j default).now.size:Int) - ((Bs.getD j default).kept.size:Int)+1)).toNat:=by omega
  rw [e]
  rfl
theorem crb_no {Bs X:List Body} {l:List Int} {j u:Nat} (h:CrB Bs l j u X) (hj:j<Bs.length) (hne:(!((X.getD j default).now.toList==(X.getD j default).kept.toList))=false):CrB Bs l (j+1) u (X.set j ⟨(X.getD j default).kept,(X.getD j default).kept⟩):=by
  obtain ⟨hl,he⟩:=crb_at h (Nat.le_of_lt hj)
  refine crb_set h hj ?_
  rw [he] at hne ⊢
  have e:=now_eq hne
  rw [I6,if_neg (by rw [e]; omega)]; rfl
theorem crb_end {Bs X:List Body} {l:List Int} {j u:Nat} (h:CrB Bs l j u X) (hj:Bs.length≤j):X=(I6 Bs l).1∧(I6 Bs l).2=l.drop u:=by
  obtain ⟨P,h1,rfl⟩:=h
  rw [List.take_of_length_le hj] at h1
  rw [List.drop_eq_nil_of_le hj,List.append_nil,h1]; exact ⟨rfl,rfl⟩
theorem crb_pre {Bs X:List Body} {l:List Int} {u:Nat} (h:X=(I6 Bs l).1) (hs:∀ B∈Bs,B.now.size≤10000000∧B.kept.size≤B.now.size):∀ B∈X,B.kept.size≤B.now.size∧B.kept=B.now.extract 0 B.kept.size:=by
  subst h
  intro B hB
  have h1:=crashB_quiet hs B hB
  cases B
  simp only at h1
  subst h1
  exact pre_same _
theorem crashD_filter {l:List Ch} {d:ByteArray}:∀ {ds:List ByteArray} {ks:List Int} {K:List Nm},d ∉ ds→O3 l ds ks K=O3 (l.filter fun c=>!(d==c.dir)) ds ks K
  | [],_,_,_=>rfl
  | x::ds,ks,K,hx=>by
    rw [O3,O3]
    have hne:(x==d)=false:=by rw [baNe]; intro he; exact hx (by rw [he]; exact List.mem_cons_self)
    rw [chOf_filter,hne]
    simp only [Bool.false_eq_true,if_false]
    exact crashD_filter fun h=>hx (List.mem_cons_of_mem _ h)
theorem filt_mem {C:List Ch} {d x:ByteArray}:x∈(C.filter fun c=>!(d==c.dir)).map (·.dir) ↔ x∈C.map (·.dir)∧x≠d:=by
  constructor
  · intro h
    obtain ⟨c,hc,rfl⟩:=List.mem_map.1 h
    obtain ⟨h1,h2⟩:=List.mem_filter.1 hc
    refine ⟨List.mem_map.2 ⟨c,h1,rfl⟩,fun e=>?_⟩
    rw [e,show (d==d)=true from baEq.2 rfl] at h2
    cases h2
  · rintro ⟨h,hne⟩
    obtain ⟨c,hc,rfl⟩:=List.mem_map.1 h
    have h2:(d==c.dir)=false:=by rw [baNe]; exact fun e=>hne e.symm
    exact List.mem_map.2 ⟨c,List.mem_filter.2 ⟨hc,by rw [h2]; rfl⟩,rfl⟩
theorem dirs_cons {C:List Ch} {d:ByteArray} (hm:d∈C.map (·.dir)) (hl:∀ c∈C,Op.bytesLess c.dir.toList d.toList=false):S5 C=d::S5 (C.filter fun c=>!(d==c.dir)):=by
  have hin:∀ x,x∈S5 (C.filter fun c=>!(d==c.dir)) ↔ x∈C.map (·.dir)∧x≠d:=fun x=>by
    unfold S5
    rw [(S9 _).mem_iff,once_mem,filt_mem]
  refine (sorted_uniq (ws:=onceL (C.map (·.dir))) (List.pairwise_cons.2 ⟨fun x hx=>?_,sortB_sorted _⟩) ?_).symm
  · obtain ⟨h1,_⟩:=(hin x).1 hx
    obtain ⟨c,hc,rfl⟩:=List.mem_map.1 h1
    have:=hl c hc
    rwa [bl_lt,decide_eq_false_iff_not,List.not_lt] at this
  · refine (List.perm_ext_iff_of_nodup (List.nodup_cons.2 ⟨fun h=>((hin d).1 h).2 rfl,dirs_nodup _⟩) (A0a _)).2 fun x=>?_
    rw [List.mem_cons,hin,once_mem]
    constructor
    · rintro (rfl | h)
      · exact hm
      · exact h.1
    · intro h
      by_cases e:x=d
      · exact .inl e
      · exact .inr ⟨h,e⟩
structure CrD (M:DM) (l:List Int) (Mr:DM) (u:Nat):Prop where
  room:Mr.room=M.room
  bodies:Mr.bodies=(I6 M.bodies l).1
  once:Mr.once=M.once
  calls:Mr.calls=M.calls
  goal:O3 Mr.changes (S5 Mr.changes) (l.drop u) Mr.kept=O3 M.changes (S5 M.changes) (I6 M.bodies l).2 M.kept
  kept:Mr.kept.length+addsC Mr.changes≤10000
  chs:∀ c∈Mr.changes,c.l.length≤2
  len:u+Mr.changes.length≤M.bodies.length+M.changes.length
theorem dirsOf_nil:S5 []=[]:=(S9 _).eq_nil
theorem crd_end {M Mr:DM} {l:List Int} {u:Nat} (h:CrD M l Mr u) (h0:Mr.changes=[]):{ Mr with names:=Mr.kept,fails:=false }=V9 M l:=by
  have hg:=h.goal
  rw [h0,dirsOf_nil] at hg
  have hk:Mr.kept=O3 M.changes (S5 M.changes) (I6 M.bodies l).2 M.kept:=hg
  unfold V9
  rw [← hk,← h.bodies,← h.room,← h.once,← h.calls]
  cases Mr
  simp only at h0
  subst h0; rfl
def dropM (M:DM) (d:ByteArray):DM:={ M with changes:=M.changes.filter fun c=>!(d==c.dir) }
theorem keep_drop {M:DM} {d:ByteArray} {n:Nat}:(dropM (M5 M d n) d).changes=M.changes.filter fun c=>!(d==c.dir):=by
  show ((keepL d n M.kept M.changes).2.1).filter _=_
  unfold keepL
  rw [kstep_rest]; rfl
theorem keep_kept {M:DM} {d:ByteArray} {n:Nat}:(M5 M d n).kept=((J1 M.changes d).take n).foldl J6 M.kept:=by
  show (keepL d n M.kept M.changes).2.2=_
  unfold keepL
  rw [X1]
theorem drop_less {C:List Ch} {d:ByteArray} (hm:d∈C.map (·.dir)):(C.filter fun c=>!(d==c.dir)).length<C.length:=by
  obtain ⟨c,hc,rfl⟩:=List.mem_map.1 hm
  refine Nat.lt_of_le_of_ne (List.length_filter_le _ _) fun h=>?_
  have:=List.length_filter_eq_length_iff.1 h c hc
  rw [show (c.dir==c.dir)=true from baEq.2 rfl] at this
  cases this
theorem crd_step {M Mr:DM} {l:List Int} {u nn:Nat} {d:ByteArray} (h:CrD M l Mr u) (hm:d∈Mr.changes.map (·.dir)) (hl:∀ c∈Mr.changes,Op.bytesLess c.dir.toList d.toList=false)
    (hn:nn=(F1 (l.getD u 0) (((J1 Mr.changes d).length:Int)+1)).toNat):CrD M l (dropM (M5 Mr d nn) d) (u+1):=by
  have hk:(dropM (M5 Mr d nn) d).kept=((J1 Mr.changes d).take nn).foldl J6 Mr.kept:=keep_kept
  refine ⟨h.room,h.bodies,h.once,h.calls,?_,?_,fun c hc=>?_,?_⟩
  · rw [keep_drop,hk,← h.goal,dirs_cons hm hl,O3,headD_drop,← hn,List.drop_drop]
    refine (crashD_filter fun hx=>?_).symm
    unfold S5 at hx
    rw [(S9 _).mem_iff,once_mem,filt_mem] at hx
    exact hx.2 rfl
  · rw [keep_drop,hk]
    have h1:=fold_len ((J1 Mr.changes d).take nn) Mr.kept
    have h2:=addsL_take (J1 Mr.changes d) nn
    have h3:=addsC_split Mr.changes d
    have h4:=h.kept
    omega
  · rw [keep_drop] at hc
    exact h.chs c (List.mem_filter.1 hc).1
  · rw [keep_drop]
    have h1:=drop_less hm
    have h2:=h.len
    omega
theorem All2.filter {α β:Type} {R:α→β→Prop} {p:α→Bool} {q:β→Bool} (hpq:∀ a b,R a b→p a=q b):∀ {l:List α} {m:List β},All2 R l m→All2 R (l.filter p) (m.filter q)
  | [],[],.nil=>.nil
  | a::l,b::m,.cons h t=>by
    rw [List.filter_cons,List.filter_cons,hpq a b h]
    split
    · exact .cons h (All2.filter hpq t)
    · exact All2.filter hpq t
theorem dir_beq {a b:ByteArray}:(a==b)=(b.toList==a.toList):=by rw [tlEq,Bool.eq_iff_iff,baEq,baEq]; exact eq_comm
theorem ok_rdrop {s:RS} {M:DM} (h:s.ok M) {d:ByteArray} {rs:List CR} {a:Option Addr} {c:Nat} {g:Grp} (hr:rs=s.cs.filter fun c=>!(c.dir.toList==d.toList)) (hO:Go.Sw.Own 123 2 (.slice a rs.length c) g rs.length (chC rs)) :
    RS.ok { s with cn:=rs.length,ca:=a,cc:=c,cg:=g,cs:=rs } (dropM M d):=by
  refine ⟨h.bn,h.own,h.nn,h.names,h.kn,h.kept,rfl,hO,?_,⟨h.well.names,h.well.kept,fun c hc=>h.well.chs c (List.mem_filter.1 hc).1,h.well.pre⟩⟩
  subst hr
  exact All2.filter (fun a b hab=>by rw [hab.dir,dir_beq]) h.chs
def MinD (cs:List CR) (k:Nat) (ls:ByteArray):Prop:=(∃ c∈cs,c.dir=ls)∧∀ c∈cs.take k,Op.bytesLess c.dir.toList ls.toList=false
theorem min0 {cs:List CR} (h:0<cs.length):MinD cs 0 (cs.getD 0 default).dir:=⟨⟨_,P3 h,rfl⟩,fun c hc=>by rw [List.take_zero] at hc; cases hc⟩
theorem min_yes {cs:List CR} {k:Nat} {ls:ByteArray} (h:MinD cs k ls) (hk:k<cs.length) (hb:Op.bytesLess (cs.getD k default).dir.toList ls.toList=true):MinD cs (k+1) (cs.getD k default).dir:=by
  refine ⟨⟨_,P3 hk,rfl⟩,fun c hc=>?_⟩
  rw [bl_lt,decide_eq_false_iff_not,List.not_lt]
  rw [K8 (d:=default) hk] at hc
  rcases List.mem_append.1 hc with hc | hc
  · have h1:=h.2 c hc
    rw [bl_lt,decide_eq_false_iff_not,List.not_lt] at h1
    rw [bl_lt,decide_eq_true_eq] at hb
    exact List.le_trans (List.le_of_lt hb) h1
  · rw [List.mem_singleton.1 hc]; exact List.le_refl _
theorem min_no {cs:List CR} {k:Nat} {ls:ByteArray} (h:MinD cs k ls) (hk:k<cs.length) (hb:Op.bytesLess (cs.getD k default).dir.toList ls.toList=false):MinD cs (k+1) ls:=by
  refine ⟨h.1,fun c hc=>?_⟩
  rw [K8 (d:=default) hk] at hc
  rcases List.mem_append.1 hc with hc | hc
  · exact h.2 c hc
  · rw [List.mem_singleton.1 hc]; exact hb
theorem All2.memR {α β:Type} {R:α→β→Prop} {l:List α} {m:List β} (h:All2 R l m) {b:β} (hb:b∈m):∃ a∈l,R a b:=by
  induction h with
  | nil=>cases hb
  | cons hab _ ih =>
    rcases List.mem_cons.1 hb with rfl | hb
    · exact ⟨_,List.mem_cons_self,hab⟩
    · obtain ⟨a,ha,hr⟩:=ih hb
      exact ⟨a,List.mem_cons_of_mem _ ha,hr⟩
theorem min_end {Z:List Grp} {cs:List CR} {C:List Ch} (hR:All2 (CRok Z) cs C) {k:Nat} (hk:cs.length≤k) {ls:ByteArray} (h:MinD cs k ls):ls∈C.map (·.dir)∧∀ c∈C,Op.bytesLess c.dir.toList ls.toList=false:=by
  obtain ⟨⟨c,hc,rfl⟩,h2⟩:=h
  rw [List.take_of_length_le hk] at h2
  refine ⟨?_,fun C0 hC=>?_⟩
  · obtain ⟨C0,h3,h4⟩:=hR.mem hc
    exact List.mem_map.2 ⟨C0,h3,h4.dir.symm⟩
  · obtain ⟨c0,h3,h4⟩:=hR.memR hC
    have:=h2 c0 h3
    rwa [h4.dir] at this
def cntD (cs:List CR) (k:Nat) (ls:ByteArray):Nat:=1+((cs.take k).filter fun c=>c.dir.toList==ls.toList).length
theorem cnt_yes {cs:List CR} {k:Nat} {ls:ByteArray} (hk:k<cs.length) (h:((cs.getD k default).dir.toList==ls.toList)=true):cntD cs (k+1) ls=cntD cs k ls+1:=by
  unfold cntD
  rw [K8 (d:=default) hk,List.filter_append,List.length_append,List.filter_cons,if_pos h]; rfl
theorem cnt_no {cs:List CR} {k:Nat} {ls:ByteArray} (hk:k<cs.length) (h:((cs.getD k default).dir.toList==ls.toList)=false):cntD cs (k+1) ls=cntD cs k ls:=by
  unfold cntD
  rw [K8 (d:=default) hk,List.filter_append,List.length_append,List.filter_cons,if_neg (by rw [h]; decide)]; rfl
theorem cnt_le {cs:List CR} {k:Nat} {ls:ByteArray}:cntD cs k ls≤1+cs.length:=by
  unfold cntD
  have:=List.length_filter_le (fun c:CR=>c.dir.toList==ls.toList) (cs.take k)
  rw [List.length_take] at this
  omega
theorem cnt_end {Z:List Grp} {cs:List CR} {C:List Ch} (hR:All2 (CRok Z) cs C) {k:Nat} (hk:cs.length≤k) (ls:ByteArray):cntD cs k ls=(J1 C ls).length+1:=by
  unfold cntD J1
  rw [List.take_of_length_le hk,List.length_map,Nat.add_comm]
  have:=(All2.filter (p:=fun c:CR=>c.dir.toList==ls.toList) (q:=fun c:Ch=>ls==c.dir) (fun a b hab=>by rw [hab.dir,dir_beq]) hR).len
  rw [this]
theorem filt_put {cs:List CR} {k:Nat} {ls:ByteArray} (hk:k<cs.length) (h:(!((cs.getD k default).dir.toList==ls.toList))=true):(cs.take (k+1)).filter (fun c=>!(c.dir.toList==ls.toList))=(cs.take k).filter (fun c=>!(c.dir.toList==ls.toList))++[cs.getD k default]:=by
  rw [K8 (d:=default) hk,List.filter_append,List.filter_cons,if_pos h]; rfl
theorem filt_skip {cs:List CR} {k:Nat} {ls:ByteArray} (hk:k<cs.length) (h:(!((cs.getD k default).dir.toList==ls.toList))=false):(cs.take (k+1)).filter (fun c=>!(c.dir.toList==ls.toList))=(cs.take k).filter (fun c=>!(c.dir.toList==ls.toList)):=by
  rw [K8 (d:=default) hk,List.filter_append,List.filter_cons,if_neg (by rw [h]; decide)]; simp
theorem ok_rbodies {s:RS} {M:DM} (h:s.ok M) (hm:V3 M) {X:List Body} {l:List Int} {u:Nat} {g:Grp} (he:X=(I6 M.bodies l).1) (hu:(I6 M.bodies l).2=l.drop u) (hul:u≤M.bodies.length) (hO:Go.Sw.Own 113 2 (.slice s.ba s.bn s.bc) g s.bn (bdC X)) :
    RS.ok { s with bg:=g } { M with bodies:=X }∧CrD M l { M with bodies:=X } u:=by
  have hl:X.length=M.bodies.length:=by rw [he,A0f]
  refine ⟨⟨by show s.bn=X.length; rw [hl,h.bn],hO,h.nn,h.names,h.kn,h.kept,h.cn,h.own2,h.chs,⟨fun y hy=>?_,fun y hy=>?_,fun c hc y hy h0=>?_,crb_pre (u:=u) he hm.small.size⟩⟩,⟨rfl,he,rfl,rfl,by rw [hu],hm.kept,hm.chs,by show u+M.changes.length≤_; omega⟩⟩
  · show 0≤y.2∧y.2.toNat<X.length; rw [hl]; exact h.well.names y hy
  · show 0≤y.2∧y.2.toNat<X.length; rw [hl]; exact h.well.kept y hy
  · show y.2.toNat<X.length; rw [hl]; exact h.well.chs c hc y hy h0
theorem nmC_len (l:List Nm):(nmC l).length=l.length * 2:=cells2_len _ l
theorem nmC_one (l:List Nm):∀ u∈nmC l,Value.oneCell' u=true:=by
  intro u hu
  unfold nmC O4 at hu
  obtain ⟨x,_,hx⟩:=List.mem_flatMap.1 hu
  simp only [List.mem_cons,List.not_mem_nil,or_false] at hx
  rcases hx with rfl | rfl <;> rfl
theorem ok_rend {s:RS} {M:DM} (h:s.ok M) {a:Option Addr} {c n:Nat} {g:Grp} (hn:n=M.kept.length) (hr:Rd (inG g) a (nmC M.kept)):RS.ok { s with nn:=n,na:=a,nc:=c,Z:=g::s.Z } { M with names:=M.kept,fails:=false } :=
  ⟨h.bn,h.own,hn,hr.mono fun _ _ h=>inZ_hd h,h.kn,h.kept.mono fun _ _ h=>A0w h,h.cn,h.own2,h.chs.imp fun _ _ hc=>hc.mono fun _ _ h=>A0w h,⟨h.well.kept,h.well.kept,h.well.chs,h.well.pre⟩⟩
theorem rd_none {S:Nat→Obj→Prop} {a:Option Addr} {l:List Nm} {n:Nat} (h:Rd S a (nmC l)) (hn:n=l.length) (ha:a=none):n=0:=by
  subst ha
  rcases h with h | ⟨b,off,c,e,fz,h1,_⟩
  · have:=congrArg List.length h
    rw [nmC_len] at this
    simp only [List.length_nil] at this
    omega
  · cases h1
theorem intL_at {l:List Int} {u:Nat} (h:u<l.length):(l.map (Value.int .i64))[u]? = some (.int .i64 (l.getD u 0)):=by
  rw [List.getElem?_map,List.getElem?_eq_getElem h,List.getD_eq_getElem?_getD,List.getElem?_eq_getElem h]; rfl
theorem ints_ne {l:List Int} {u:Nat} (h:u<l.length):l.map (Value.int .i64)≠[]:=by
  intro e
  rw [List.map_eq_nil_iff] at e
  rw [e] at h; simp at h
theorem kstep_len {d:ByteArray}:∀ {l:List Ch} {n:Nat} {acc:List Ch} {K:List Nm},((l.foldl (X7 Ch.dir Ch.l d) (n,acc,K)).2.1).length≤acc.length+l.length
  | [],_,_,_=>Nat.le_refl _
  | x::l,n,acc,K=>by
    rw [List.foldl_cons,X7]
    split
    · have:=kstep_len (d:=d) (l:=l) (n:=n) (acc:=acc++[x]) (K:=K)
      rw [List.length_append,List.length_singleton] at this
      rw [List.length_cons]
      exact Nat.le_trans this (by omega)
    · have:=kstep_len (d:=d) (l:=l) (n:=n - 1) (acc:=acc) (K:=J6 K x.l)
      rw [List.length_cons]
      exact Nat.le_trans this (by omega)
theorem keep_len (M:DM) (d:ByteArray) (n:Nat):(M5 M d n).changes.length≤M.changes.length:=by
  have:=kstep_len (d:=d) (l:=M.changes) (n:=n) (acc:=[]) (K:=M.kept)
  rw [List.length_nil,Nat.zero_add] at this
  exact this
end Go.Vf
namespace Go.Proofs.YtlaoeiaaeifidaaGreat
open Go.Sw Go.Lib Go.Vf Go.RowKit
theorem rCrash (x:Nat) (s:RS) (M:DM) (h:s.ok M) (hm:V3 M) (l:List Int) (la:Option Addr) (lc:Nat) (Sk:Nat→Obj→Prop) (W0:World) (H:List Grp) (hrl:Rd Sk la (l.map (Value.int .i64))) (hli:∀ y∈l,-9223372036854775808≤y∧y≤9223372036854775807) (hSk:∀ y o,Sk y o→At W0 H y o):Tri Tryz.prog 29 #[pt x,.slice la l.length lc] W0 ([(x,.cells #[.int .i64 M.room,.slice s.ba s.bn s.bc,.slice s.na s.nn s.nc,.slice s.ka s.kn s.kc,.slice s.ca s.cn s.cc,.bool M.fails,.bool M.once,.int .i64 M.calls] 106 (0,0))]::s.bg::s.cg::(s.Z++H)) (IsR x (V9 M l) (.tuple #[]) H):=by
 have hnn:=h.nn
 have hbn:=h.bn
 have hkn:=h.kn
 have hcn:=h.cn
 have hch:=h.chs.len
 have hus:=A0m hm.small fun x hx=>(h.well.names x hx).2
 have hsn:=hm.small.names
 have hsb:=hm.small.bodies
 have hsc:=hm.small.changes
 have hskn:M.kept.length≤10000:=Nat.le_trans (Nat.le_add_right _ _) hm.kept
 have hsca:=hm.small.calls
 refine C8 (args:=[pt x,.slice la l.length lc]) (n:=192) Tryz.func29 rfl rfl (Nat.le_of_ble_eq_true rfl) ?_
 refine A1 (G_p [0] [0,1,4] (k:=?_))
 refine A0 (A1 ?_)
 refine A1 (A2 ?_)
 refine A7 (j:=3) [0,0,0] (k:=A5 (ch:=[]) (b:=x) (off:=1) (v:=.slice s.ba s.bn s.bc) (hA:=At.grp 0 0 rfl rfl) (k:=?_))
 refine C4 [0,0] [0,1,4,23,24] (k:=A0 ?_)
 refine C5 (I8 (EI:=(fun ξ:Nat × Nat × List Body × Grp=>[⟨0,[],pt x⟩,⟨1,[],.slice la l.length lc⟩,⟨4,[],.int .i64 ((ξ.2.1:Nat):Int)⟩,⟨23,[],.int .i64 ((s.bn:Nat):Int)⟩,⟨24,[],.int .i64 ((ξ.1:Nat):Int)⟩])) (HI:=(fun ξ:Nat × Nat × List Body × Grp=>([(x,.cells #[.int .i64 M.room,.slice s.ba s.bn s.bc,.slice s.na s.nn s.nc,.slice s.ka s.kn s.kc,.slice s.ca s.cn s.cc,.bool M.fails,.bool M.once,.int .i64 M.calls] 106 (0,0))]::ξ.2.2.2::s.cg::(s.Z++H)))) (Φ:=(fun ξ:Nat × Nat × List Body × Grp=>(ξ.1≤M.bodies.length)∧(ξ.2.1≤ξ.1)∧(CrB M.bodies l ξ.1 ξ.2.1 ξ.2.2.1)∧(Go.Sw.Own 113 2 (.slice s.ba s.bn s.bc) ξ.2.2.2 s.bn (bdC ξ.2.2.1)))) (μ:=(fun ξ:Nat × Nat × List Body × Grp=>M.bodies.length - ξ.1)) (s0:=(0,0,M.bodies,s.bg)) [0,1,4,23,24] kr rfl ⟨(by omega),(Nat.zero_le _),(crb0 _ _),h.own⟩ ?_)
 rintro ⟨j,u,X,bg2⟩ ⟨hj,hu,hX,hO2⟩
 replace hj:j≤M.bodies.length:=hj
 replace hu:u≤j:=hu
 replace hX:CrB M.bodies l j u X:=hX
 replace hO2:Go.Sw.Own 113 2 (.slice s.ba s.bn s.bc) bg2 s.bn (bdC X):=hO2
 obtain ⟨hXl,hXe⟩:=crb_at hX hj
 refine A1 (G_p [0] [0,1,4,23,24,25] (k:=?_))
 refine A0 (A1 ?_)
 refine C6 (b:=decide (((j:Nat):Int)<((s.bn:Nat):Int))) kr (fun hc1=>?_) (fun hc1=>?_)
 ·
  replace hc1:=of_decide_eq_true hc1
  refine B5 (A0 ?_)
  refine A1 (C5 ?_)
  refine A1 (G_p [0,0] [0,1,4,5,23,24] (k:=?_))
  refine A0 (A1 ?_)
  refine A2 (A7 (j:=3) [0,0,0] (k:=?_))
  refine A5 (ch:=[]) (b:=x) (off:=1) (v:=.slice s.ba s.bn s.bc) (hA:=At.grp 0 0 rfl rfl) (k:=A7 (j:=5) [0] (k:=?_))
  refine B7 (ch:=[]) (a:=s.ba) (len:=s.bn) (cap:=s.bc) (kd:=.i64) (j:=((j:Nat):Int)) (e:=113) (sz:=2) (S:=(inG bg2)) (cs:=(bdC X)) (hrd:=D6 hO2) (hb:=(fun _=>by exact ⟨by omega,by omega,bdC_ne (i:=j) (by omega)⟩)) (k:=C4 [0] [0,1,4,6,23,24] (k:=?_))
  refine A0 (A1 ?_)
  refine A1 (K4 (k:=?_))
  refine A7 (j:=3) [0,0,0] (k:=D4 (ch:=[]) (a:=s.ba) (q:=j * 2) (S:=(inG bg2)) (cs:=(bdC X)) (v:=.string ((X.getD j default).now)) (hrd:=D6 hO2) (hS:=C9 1 rfl) (hv:=(fun _=>(A0y (by omega)))) (k:=?_))
  have hw2:Addr.add (I9 s.ba (j * 2)) 1=I9 s.ba (j * 2+1):=W8 _ _ _
  refine P9 (E':=[⟨39,[],.pointer (some (I9 s.ba (j * 2+1)))⟩,⟨36,[],.string ((X.getD j default).now)⟩,⟨0,[],pt x⟩,⟨1,[],.slice la l.length lc⟩,⟨4,[],.int .i64 ((u:Nat):Int)⟩,⟨6,[],.pointer (some (I9 s.ba (j * 2)))⟩,⟨23,[],.int .i64 ((s.bn:Nat):Int)⟩,⟨24,[],.int .i64 ((j:Nat):Int)⟩]) [0,0,0] (Eq.trans (b:=some [⟨39,[],.pointer (some (Addr.add (I9 s.ba (j * 2)) 1))⟩,⟨36,[],.string ((X.getD j default).now)⟩,⟨0,[],pt x⟩,⟨1,[],.slice la l.length lc⟩,⟨4,[],.int .i64 ((u:Nat):Int)⟩,⟨6,[],.pointer (some (I9 s.ba (j * 2)))⟩,⟨23,[],.int .i64 ((s.bn:Nat):Int)⟩,⟨24,[],.int .i64 ((j:Nat):Int)⟩]) kr (by simp only [hw2])) (j:=7) rfl (D4 (ch:=[]) (a:=s.ba) (q:=j * 2+1) (S:=(inG bg2)) (cs:=(bdC X)) (v:=.string ((X.getD j default).kept)) (hrd:=D6 hO2) (hS:=C9 1 rfl) (hv:=(fun _=>(bdC_at1 (by omega)))) (k:=?_))
  refine C4 [0] [0,1,4,6,23,24,41] (k:=A0 ?_)
  refine C6 (b:=!(((X.getD j default).now).toList==((X.getD j default).kept).toList)) kr (fun hc3=>?_) (fun hc3=>?_)
  ·
   have hne:=hc3
   have hsz:=hm.small.size _ (P3 (l:=M.bodies) (i:=j) (by omega))
   rw [← hXe] at hsz
   have hlt2:=now_ne (b:=X.getD j default) (by rw [hXe]; exact h.well.pre _ (P3 (by omega))) hne
   refine A1 (G_p [0] [0,1,4,6,7,23,24] (k:=?_))
   refine A0 (A1 ?_)
   refine A1 (B4 (E':=[⟨0,[],pt x⟩,⟨1,[],.slice la l.length lc⟩,⟨4,[],.int .i64 ((u:Nat):Int)⟩,⟨6,[],.pointer (some (I9 s.ba (j * 2)))⟩,⟨7,[],.int .i64 0⟩,⟨23,[],.int .i64 ((s.bn:Nat):Int)⟩,⟨24,[],.int .i64 ((j:Nat):Int)⟩,⟨45,[],.bool (decide (((u:Nat):Int)<((l.length:Nat):Int)))⟩]) [0,0,0,0] [0,1,4,6,7,23,24,45] (k:=?_))
   refine A0 (G_join (T:=Int) (fun ξ:Int=>[⟨0,[],pt x⟩,⟨1,[],.slice la l.length lc⟩,⟨4,[],.int .i64 ((u:Nat):Int)⟩,⟨6,[],.pointer (some (I9 s.ba (j * 2)))⟩,⟨7,[],.int .i64 ξ⟩,⟨23,[],.int .i64 ((s.bn:Nat):Int)⟩,⟨24,[],.int .i64 ((j:Nat):Int)⟩]) (fun ξ:Int=>([(x,.cells #[.int .i64 M.room,.slice s.ba s.bn s.bc,.slice s.na s.nn s.nc,.slice s.ka s.kn s.kc,.slice s.ca s.cn s.cc,.bool M.fails,.bool M.once,.int .i64 M.calls] 106 (0,0))]::bg2::s.cg::(s.Z++H))) (fun ξ:Int=>(ξ=F1 (l.getD u 0) (((X.getD j default).now.size:Int) - ((X.getD j default).kept.size:Int)+1))) ?_ ?_)
   ·
    refine C6 (b:=decide (((u:Nat):Int)<((l.length:Nat):Int))) kr (fun hc4=>?_) (fun hc4=>?_)
    ·
     replace hc4:=of_decide_eq_true hc4
     refine A1 (K4 (k:=?_))
     refine A7 (j:=3) [0,0,0] (k:=D4 (ch:=[]) (a:=s.ba) (q:=j * 2) (S:=(inG bg2)) (cs:=(bdC X)) (v:=.string ((X.getD j default).now)) (hrd:=D6 hO2) (hS:=C9 1 rfl) (hv:=(fun _=>(A0y (by omega)))) (k:=?_))
     have hw5:Addr.add (I9 s.ba (j * 2)) 1=I9 s.ba (j * 2+1):=W8 _ _ _
     refine P9 (E':=[⟨53,[],.pointer (some (I9 s.ba (j * 2+1)))⟩,⟨50,[],.int .i64 (((X.getD j default).now).size:Int)⟩,⟨0,[],pt x⟩,⟨1,[],.slice la l.length lc⟩,⟨4,[],.int .i64 ((u:Nat):Int)⟩,⟨6,[],.pointer (some (I9 s.ba (j * 2)))⟩,⟨23,[],.int .i64 ((s.bn:Nat):Int)⟩,⟨24,[],.int .i64 ((j:Nat):Int)⟩]) [0,0,0,0] (Eq.trans (b:=some [⟨53,[],.pointer (some (Addr.add (I9 s.ba (j * 2)) 1))⟩,⟨50,[],.int .i64 (((X.getD j default).now).size:Int)⟩,⟨0,[],pt x⟩,⟨1,[],.slice la l.length lc⟩,⟨4,[],.int .i64 ((u:Nat):Int)⟩,⟨6,[],.pointer (some (I9 s.ba (j * 2)))⟩,⟨23,[],.int .i64 ((s.bn:Nat):Int)⟩,⟨24,[],.int .i64 ((j:Nat):Int)⟩]) kr (by simp only [hw5])) (j:=8) rfl (D4 (ch:=[]) (a:=s.ba) (q:=j * 2+1) (S:=(inG bg2)) (cs:=(bdC X)) (v:=.string ((X.getD j default).kept)) (hrd:=D6 hO2) (hS:=C9 1 rfl) (hv:=(fun _=>(bdC_at1 (by omega)))) (k:=?_))
     refine A7 (j:=11) [0,0] (k:=F2 56 ((((X.getD j default).now).size:Int) - (((X.getD j default).kept).size:Int)) (by omega) (by omega) kr ?_)
     refine A7 (j:=12) [0] (k:=F2 57 (((((X.getD j default).now).size:Int) - (((X.getD j default).kept).size:Int))+1) (by omega) (by omega) kr ?_)
     refine C4 [0] [0,1,4,6,8,23,24] (k:=A0 ?_)
     refine A2 (A7 (j:=2) [0,0] (k:=?_))
     refine B7 (ch:=[]) (a:=la) (len:=l.length) (cap:=lc) (kd:=.i64) (j:=((u:Nat):Int)) (e:=3) (sz:=1) (S:=Sk) (cs:=(l.map (Value.int .i64))) (hrd:=hrl) (hb:=(fun _=>by exact ⟨by omega,by omega,ints_ne (u:=u) (by omega)⟩)) (k:=D4 (ch:=[]) (a:=la) (q:=u * 1) (S:=Sk) (cs:=(l.map (Value.int .i64))) (v:=.int .i64 (l.getD u 0)) (hrd:=hrl) (hS:=(fun y o h=>(At.cons (At.cons (At.cons (X8 (hSk y o h))))))) (hv:=(fun _=>(by rw [Nat.mul_one]; exact intL_at (by omega)))) (k:=?_))
     refine A7 (j:=5) [0] (k:=GL_rem (ch:=[]) (kd:=.i64) (a:=(l.getD u 0)) (b:=((((X.getD j default).now).size:Int) - (((X.getD j default).kept).size:Int))+1) (hb:=(fun _=>by omega)) (k:=?_))
     have hrm8:=tmod_ne (l.getD u 0) (show 0<((((X.getD j default).now).size:Int) - (((X.getD j default).kept).size:Int))+1 by omega)
     refine A7 (j:=8) [0,0] (k:=F2 65 ((Int.tmod (l.getD u 0) (((((X.getD j default).now).size:Int) - (((X.getD j default).kept).size:Int))+1))+(((((X.getD j default).now).size:Int) - (((X.getD j default).kept).size:Int))+1)) (by omega) (by omega) kr ?_)
     refine A7 (j:=9) [0] (k:=GL_rem (ch:=[]) (kd:=.i64) (a:=(Int.tmod (l.getD u 0) (((((X.getD j default).now).size:Int) - (((X.getD j default).kept).size:Int))+1))+(((((X.getD j default).now).size:Int) - (((X.getD j default).kept).size:Int))+1)) (b:=((((X.getD j default).now).size:Int) - (((X.getD j default).kept).size:Int))+1) (hb:=(fun _=>by omega)) (k:=?_))
     have hrm10:=tmod_ne ((Int.tmod (l.getD u 0) (((((X.getD j default).now).size:Int) - (((X.getD j default).kept).size:Int))+1))+(((((X.getD j default).now).size:Int) - (((X.getD j default).kept).size:Int))+1)) (show 0<((((X.getD j default).now).size:Int) - (((X.getD j default).kept).size:Int))+1 by omega)
     refine P9 (E':=[⟨7,[],.int .i64 (Int.tmod ((Int.tmod (l.getD u 0) (((((X.getD j default).now).size:Int) - (((X.getD j default).kept).size:Int))+1))+(((((X.getD j default).now).size:Int) - (((X.getD j default).kept).size:Int))+1)) (((((X.getD j default).now).size:Int) - (((X.getD j default).kept).size:Int))+1))⟩,⟨0,[],pt x⟩,⟨1,[],.slice la l.length lc⟩,⟨4,[],.int .i64 ((u:Nat):Int)⟩,⟨6,[],.pointer (some (I9 s.ba (j * 2)))⟩,⟨23,[],.int .i64 ((s.bn:Nat):Int)⟩,⟨24,[],.int .i64 ((j:Nat):Int)⟩]) [0] kr (j:=11) rfl (GL_env (E':=[⟨7,[],.int .i64 (F1 (l.getD u 0) (((X.getD j default).now.size:Int) - ((X.getD j default).kept.size:Int)+1))⟩,⟨0,[],pt x⟩,⟨1,[],.slice la l.length lc⟩,⟨4,[],.int .i64 ((u:Nat):Int)⟩,⟨6,[],.pointer (some (I9 s.ba (j * 2)))⟩,⟨23,[],.int .i64 ((s.bn:Nat):Int)⟩,⟨24,[],.int .i64 ((j:Nat):Int)⟩]) rfl ?_)
     refine C4 [] [0,1,4,6,7,23,24] (k:=M9 ((F1 (l.getD u 0) (((X.getD j default).now.size:Int) - ((X.getD j default).kept.size:Int)+1))) [0,1,4,6,7,23,24] kr (fun w h=>h) rfl)
    ·
     replace hc4:=of_decide_eq_false hc4
     refine B5 (M9 (0) [0,1,4,6,7,23,24] kr (fun w h=>h) (by rw [getD_over (by omega),nextK0 (by omega)]))
   ·
    rintro nz hnk
    have hnb:=R6 (k:=l.getD u 0) (n:=(((X.getD j default).now.size:Int) - ((X.getD j default).kept.size:Int)+1)) (by omega)
    rw [← hnk] at hnb
    refine A0 (A1 ?_)
    refine A2 (A7 (j:=2) [0,0] (k:=?_))
    refine F2 69 (((u:Nat):Int)+1) (by omega) (by omega) kr (C4 [0] [0,1,4,6,7,23,24] (k:=?_))
    refine A0 (D7 ([(x,.cells #[.int .i64 M.room,.slice s.ba s.bn s.bc,.slice s.na s.nn s.nc,.slice s.ka s.kn s.kc,.slice s.ca s.cn s.cc,.bool M.fails,.bool M.once,.int .i64 M.calls] 106 (0,0))]::s.cg::(s.Z++H)) kr ?_)
    refine D0 (fuel:=14) [(0,0),(1,0)] (fun w h=>(h.erase 1)) (k:=G0 (ad:=(I9 s.ba (j * 2))) 2 (hL:=(fun w h=>(h.erase 1))) (k:=?_))
    refine D0 (fuel:=11) [(3,0),(5,0)] (fun w h=>(h.erase 1)) (k:=G0 (ad:=(I9 s.ba (j * 2))) 6 (hL:=(fun w h=>(h.erase 1))) (k:=?_))
    have hw12:Addr.add (I9 s.ba (j * 2)) 1=I9 s.ba (j * 2+1):=W8 _ _ _
    refine A1b (E':=[⟨77,[],.pointer (some (I9 s.ba (j * 2+1)))⟩,⟨73,[],.pointer (some (I9 s.ba (j * 2)))⟩,⟨70,[],.pointer (some (I9 s.ba (j * 2)))⟩,⟨0,[],pt x⟩,⟨1,[],.slice la l.length lc⟩,⟨4,[],.int .i64 (((u:Nat):Int)+1)⟩,⟨6,[],.pointer (some (I9 s.ba (j * 2)))⟩,⟨7,[],.int .i64 nz⟩,⟨23,[],.int .i64 ((s.bn:Nat):Int)⟩,⟨24,[],.int .i64 ((j:Nat):Int)⟩]) 7 0 kr (fun w h=>(h.erase 1)) (Eq.trans (b:=some [⟨77,[],.pointer (some (Addr.add (I9 s.ba (j * 2)) 1))⟩,⟨73,[],.pointer (some (I9 s.ba (j * 2)))⟩,⟨70,[],.pointer (some (I9 s.ba (j * 2)))⟩,⟨0,[],pt x⟩,⟨1,[],.slice la l.length lc⟩,⟨4,[],.int .i64 (((u:Nat):Int)+1)⟩,⟨6,[],.pointer (some (I9 s.ba (j * 2)))⟩,⟨7,[],.int .i64 nz⟩,⟨23,[],.int .i64 ((s.bn:Nat):Int)⟩,⟨24,[],.int .i64 ((j:Nat):Int)⟩]) kr (by simp only [hw12])) (D0 (fuel:=8) [(10,0)] (fun w h=>(h.erase 1)) (k:=?_))
    refine O0 4 8 (k:=?_) (k':=?_)
    ·
     refine D4 (ch:=[]) (a:=s.ba) (q:=j * 2) (S:=(inG bg2)) (cs:=(bdC X)) (v:=.string ((X.getD j default).now)) (hrd:=D6 hO2) (hS:=C9 1 rfl) (hv:=(fun _=>(A0y (by omega)))) (k:=A6 kr (fun w h=>(h.erase 1)) ?_)
     refine B9 8 (k:=D4 (ch:=[]) (a:=s.ba) (q:=j * 2+1) (S:=(inG bg2)) (cs:=(bdC X)) (v:=.string ((X.getD j default).kept)) (hrd:=D6 hO2) (hS:=C9 1 rfl) (hv:=(fun _=>(bdC_at1 (by omega)))) (k:=?_))
     refine A6 kr (fun w h=>(h.erase 1)) (R9 (v:=.int .i64 (((X.getD j default).kept).size:Int)) 9 (hL:=(fun w h=>(h.erase 1))) (k:=?_))
     refine D0 (fuel:=4) [(11,0)] (fun w h=>(h.erase 1)) (k:=O7 81 ((((X.getD j default).kept).size:Int)+nz) (by omega) (by omega) kr ?_)
     refine A9 12 (hL:=(fun w h=>(h.erase 1))) (hy:=L7 (i:=12) (ch:=[]) (s:=(X.getD j default).now) (vl:=none) (vh:=(some (.int .i64 ((((X.getD j default).kept).size:Int)+nz)))) (l:=0) (h:=(((X.getD j default).kept).size:Int)+nz) (hb:=(by omega)) (k:=B1 kr rfl)) (k:=G0 (ad:=(I9 s.ba (j * 2))) 13 (hL:=(fun w h=>(h.erase 1))) (k:=?_))
     have hw14:Addr.add (I9 s.ba (j * 2)) 1=I9 s.ba (j * 2+1):=W8 _ _ _
     refine A1b (E':=[⟨84,[],.pointer (some (I9 s.ba (j * 2+1)))⟩,⟨82,[],.string (((X.getD j default).now).extract 0 (Int.toNat ((((X.getD j default).kept).size:Int)+nz)))⟩,⟨0,[],pt x⟩,⟨1,[],.slice la l.length lc⟩,⟨4,[],.int .i64 (((u:Nat):Int)+1)⟩,⟨6,[],.pointer (some (I9 s.ba (j * 2)))⟩,⟨23,[],.int .i64 ((s.bn:Nat):Int)⟩,⟨24,[],.int .i64 ((j:Nat):Int)⟩]) 14 0 kr (fun w h=>(h.erase 1)) (Eq.trans (b:=some [⟨84,[],.pointer (some (Addr.add (I9 s.ba (j * 2)) 1))⟩,⟨82,[],.string (((X.getD j default).now).extract 0 (Int.toNat ((((X.getD j default).kept).size:Int)+nz)))⟩,⟨0,[],pt x⟩,⟨1,[],.slice la l.length lc⟩,⟨4,[],.int .i64 (((u:Nat):Int)+1)⟩,⟨6,[],.pointer (some (I9 s.ba (j * 2)))⟩,⟨23,[],.int .i64 ((s.bn:Nat):Int)⟩,⟨24,[],.int .i64 ((j:Nat):Int)⟩]) kr (by simp only [hw14])) (B9 15 (k:=?_))
     refine X9 (ch:=[]) (a:=s.ba) (q:=j * 2+1) (len:=s.bn) (cap:=s.bc) (v:=.string (((X.getD j default).now).extract 0 (Int.toNat ((((X.getD j default).kept).size:Int)+nz)))) (g:=bg2) (j:=1) (cs:=(bdC X)) (cs':=(bdC (X.set j ⟨(X.getD j default).now,((X.getD j default).now).extract 0 (Int.toNat ((((X.getD j default).kept).size:Int)+nz))⟩))) (hO:=hO2) (hq:=(by simp only [bdC_len,List.length_set]; omega)) (hcs:=bdC_kept) (k:=(fun g15 hO16=>?_))
     refine A6 kr (fun w h=>(h.erase 1)) (D8 (E':=[⟨0,[],pt x⟩,⟨1,[],.slice la l.length lc⟩,⟨4,[],.int .i64 (((u:Nat):Int)+1)⟩,⟨6,[],.pointer (some (I9 s.ba (j * 2)))⟩,⟨23,[],.int .i64 ((s.bn:Nat):Int)⟩,⟨24,[],.int .i64 ((j:Nat):Int)⟩]) [0,1,4,6,23,24] (k:=?_))
     refine A0 ?_
     have hw17:Addr.add (I9 s.ba (j * 2)) 1=I9 s.ba (j * 2+1):=W8 _ _ _
     refine A2 (P9 (E':=[⟨88,[],.pointer (some (I9 s.ba (j * 2+1)))⟩,⟨85,[],.pointer (some (I9 s.ba (j * 2)))⟩,⟨0,[],pt x⟩,⟨1,[],.slice la l.length lc⟩,⟨4,[],.int .i64 (((u:Nat):Int)+1)⟩,⟨23,[],.int .i64 ((s.bn:Nat):Int)⟩,⟨24,[],.int .i64 ((j:Nat):Int)⟩]) [0,0,0,0] (Eq.trans (b:=some [⟨88,[],.pointer (some (Addr.add (I9 s.ba (j * 2)) 1))⟩,⟨85,[],.pointer (some (I9 s.ba (j * 2)))⟩,⟨0,[],pt x⟩,⟨1,[],.slice la l.length lc⟩,⟨4,[],.int .i64 (((u:Nat):Int)+1)⟩,⟨23,[],.int .i64 ((s.bn:Nat):Int)⟩,⟨24,[],.int .i64 ((j:Nat):Int)⟩]) kr (by simp only [hw17])) (j:=4) rfl ?_)
     refine D4 (ch:=[]) (a:=s.ba) (q:=j * 2+1) (S:=(inG g15)) (cs:=(bdC (X.set j ⟨(X.getD j default).now,((X.getD j default).now).extract 0 (Int.toNat ((((X.getD j default).kept).size:Int)+nz))⟩))) (v:=.string (((X.set j ⟨(X.getD j default).now,((X.getD j default).now).extract 0 (Int.toNat ((((X.getD j default).kept).size:Int)+nz))⟩).getD j default).kept)) (hrd:=D6 hO16) (hS:=C9 1 rfl) (hv:=(fun _=>(bdC_at1 (by simp only [List.length_set]; omega)))) (k:=A7 (j:=7) [0,0] (k:=?_))
     refine X9 (ch:=[]) (a:=s.ba) (q:=j * 2) (len:=s.bn) (cap:=s.bc) (v:=.string (((X.set j ⟨(X.getD j default).now,((X.getD j default).now).extract 0 (Int.toNat ((((X.getD j default).kept).size:Int)+nz))⟩).getD j default).kept)) (g:=g15) (j:=1) (cs:=(bdC (X.set j ⟨(X.getD j default).now,((X.getD j default).now).extract 0 (Int.toNat ((((X.getD j default).kept).size:Int)+nz))⟩))) (cs':=(bdC ((X.set j ⟨(X.getD j default).now,((X.getD j default).now).extract 0 (Int.toNat ((((X.getD j default).kept).size:Int)+nz))⟩).set j ⟨((X.set j ⟨(X.getD j default).now,((X.getD j default).now).extract 0 (Int.toNat ((((X.getD j default).kept).size:Int)+nz))⟩).getD j default).kept,((X.set j ⟨(X.getD j default).now,((X.getD j default).now).extract 0 (Int.toNat ((((X.getD j default).kept).size:Int)+nz))⟩).getD j default).kept⟩))) (hO:=hO16) (hq:=(by simp only [bdC_len,List.length_set]; omega)) (hcs:=bdC_now) (k:=(fun g18 hO19=>?_))
     refine C4 [] [0,1,4,23,24] (k:=D5 ?_)
     refine A0 (A2 ?_)
     refine A7 (j:=1) [0] (k:=F2 92 (((j:Nat):Int)+1) (by omega) (by omega) kr ?_)
     refine C4 [0] [0,1,4,23,24] (k:=N_heq (H':=([(x,.cells #[.int .i64 M.room,.slice s.ba s.bn s.bc,.slice s.na s.nn s.nc,.slice s.ka s.kn s.kc,.slice s.ca s.cn s.cc,.bool M.fails,.bool M.once,.int .i64 M.calls] 106 (0,0))]::g18::s.cg::(s.Z++H))) rfl ?_)
     refine E5 (s':=(j+1,u+1,((X.set j ⟨(X.getD j default).now,((X.getD j default).now).extract 0 (Int.toNat ((((X.getD j default).kept).size:Int)+nz))⟩).set j ⟨((X.set j ⟨(X.getD j default).now,((X.getD j default).now).extract 0 (Int.toNat ((((X.getD j default).kept).size:Int)+nz))⟩).getD j default).kept,((X.set j ⟨(X.getD j default).now,((X.getD j default).now).extract 0 (Int.toNat ((((X.getD j default).kept).size:Int)+nz))⟩).getD j default).kept⟩),g18)) [0,1,4,23,24] kr rfl ⟨(by omega),(by show u+1≤j+1; omega),(crb_yes hX (by omega) h.well.pre hne hnk),hO19⟩ (by omega)
    ·
     refine D4 (ch:=[]) (a:=s.ba) (q:=j * 2+1) (S:=(inG bg2)) (cs:=(bdC X)) (v:=.string ((X.getD j default).kept)) (hrd:=D6 hO2) (hS:=C9 1 rfl) (hv:=(fun _=>(bdC_at1 (by omega)))) (k:=A6 kr (fun w h=>(h.erase 1)) ?_)
     refine R9 (v:=.int .i64 (((X.getD j default).kept).size:Int)) 9 (hL:=(fun w h=>(h.erase 1))) (k:=D0 (fuel:=5) [(11,0)] (fun w h=>(h.erase 1)) (k:=?_))
     refine O7 81 ((((X.getD j default).kept).size:Int)+nz) (by omega) (by omega) kr (B9 4 (k:=?_))
     refine D4 (ch:=[]) (a:=s.ba) (q:=j * 2) (S:=(inG bg2)) (cs:=(bdC X)) (v:=.string ((X.getD j default).now)) (hrd:=D6 hO2) (hS:=C9 1 rfl) (hv:=(fun _=>(A0y (by omega)))) (k:=A6 kr (fun w h=>(h.erase 1)) ?_)
     refine A9 12 (hL:=(fun w h=>(h.erase 1))) (hy:=L7 (i:=12) (ch:=[]) (s:=(X.getD j default).now) (vl:=none) (vh:=(some (.int .i64 ((((X.getD j default).kept).size:Int)+nz)))) (l:=0) (h:=(((X.getD j default).kept).size:Int)+nz) (hb:=(by omega)) (k:=B1 kr rfl)) (k:=G0 (ad:=(I9 s.ba (j * 2))) 13 (hL:=(fun w h=>(h.erase 1))) (k:=?_))
     have hw22:Addr.add (I9 s.ba (j * 2)) 1=I9 s.ba (j * 2+1):=W8 _ _ _
     refine A1b (E':=[⟨84,[],.pointer (some (I9 s.ba (j * 2+1)))⟩,⟨82,[],.string (((X.getD j default).now).extract 0 (Int.toNat ((((X.getD j default).kept).size:Int)+nz)))⟩,⟨0,[],pt x⟩,⟨1,[],.slice la l.length lc⟩,⟨4,[],.int .i64 (((u:Nat):Int)+1)⟩,⟨6,[],.pointer (some (I9 s.ba (j * 2)))⟩,⟨23,[],.int .i64 ((s.bn:Nat):Int)⟩,⟨24,[],.int .i64 ((j:Nat):Int)⟩]) 14 0 kr (fun w h=>(h.erase 1)) (Eq.trans (b:=some [⟨84,[],.pointer (some (Addr.add (I9 s.ba (j * 2)) 1))⟩,⟨82,[],.string (((X.getD j default).now).extract 0 (Int.toNat ((((X.getD j default).kept).size:Int)+nz)))⟩,⟨0,[],pt x⟩,⟨1,[],.slice la l.length lc⟩,⟨4,[],.int .i64 (((u:Nat):Int)+1)⟩,⟨6,[],.pointer (some (I9 s.ba (j * 2)))⟩,⟨23,[],.int .i64 ((s.bn:Nat):Int)⟩,⟨24,[],.int .i64 ((j:Nat):Int)⟩]) kr (by simp only [hw22])) (B9 15 (k:=?_))
     refine X9 (ch:=[]) (a:=s.ba) (q:=j * 2+1) (len:=s.bn) (cap:=s.bc) (v:=.string (((X.getD j default).now).extract 0 (Int.toNat ((((X.getD j default).kept).size:Int)+nz)))) (g:=bg2) (j:=1) (cs:=(bdC X)) (cs':=(bdC (X.set j ⟨(X.getD j default).now,((X.getD j default).now).extract 0 (Int.toNat ((((X.getD j default).kept).size:Int)+nz))⟩))) (hO:=hO2) (hq:=(by simp only [bdC_len,List.length_set]; omega)) (hcs:=bdC_kept) (k:=(fun g23 hO24=>?_))
     refine A6 kr (fun w h=>(h.erase 1)) (D8 (E':=[⟨0,[],pt x⟩,⟨1,[],.slice la l.length lc⟩,⟨4,[],.int .i64 (((u:Nat):Int)+1)⟩,⟨6,[],.pointer (some (I9 s.ba (j * 2)))⟩,⟨23,[],.int .i64 ((s.bn:Nat):Int)⟩,⟨24,[],.int .i64 ((j:Nat):Int)⟩]) [0,1,4,6,23,24] (k:=?_))
     refine A0 ?_
     have hw25:Addr.add (I9 s.ba (j * 2)) 1=I9 s.ba (j * 2+1):=W8 _ _ _
     refine A2 (P9 (E':=[⟨88,[],.pointer (some (I9 s.ba (j * 2+1)))⟩,⟨85,[],.pointer (some (I9 s.ba (j * 2)))⟩,⟨0,[],pt x⟩,⟨1,[],.slice la l.length lc⟩,⟨4,[],.int .i64 (((u:Nat):Int)+1)⟩,⟨23,[],.int .i64 ((s.bn:Nat):Int)⟩,⟨24,[],.int .i64 ((j:Nat):Int)⟩]) [0,0,0,0] (Eq.trans (b:=some [⟨88,[],.pointer (some (Addr.add (I9 s.ba (j * 2)) 1))⟩,⟨85,[],.pointer (some (I9 s.ba (j * 2)))⟩,⟨0,[],pt x⟩,⟨1,[],.slice la l.length lc⟩,⟨4,[],.int .i64 (((u:Nat):Int)+1)⟩,⟨23,[],.int .i64 ((s.bn:Nat):Int)⟩,⟨24,[],.int .i64 ((j:Nat):Int)⟩]) kr (by simp only [hw25])) (j:=4) rfl ?_)
     refine D4 (ch:=[]) (a:=s.ba) (q:=j * 2+1) (S:=(inG g23)) (cs:=(bdC (X.set j ⟨(X.getD j default).now,((X.getD j default).now).extract 0 (Int.toNat ((((X.getD j default).kept).size:Int)+nz))⟩))) (v:=.string (((X.set j ⟨(X.getD j default).now,((X.getD j default).now).extract 0 (Int.toNat ((((X.getD j default).kept).size:Int)+nz))⟩).getD j default).kept)) (hrd:=D6 hO24) (hS:=C9 1 rfl) (hv:=(fun _=>(bdC_at1 (by simp only [List.length_set]; omega)))) (k:=A7 (j:=7) [0,0] (k:=?_))
     refine X9 (ch:=[]) (a:=s.ba) (q:=j * 2) (len:=s.bn) (cap:=s.bc) (v:=.string (((X.set j ⟨(X.getD j default).now,((X.getD j default).now).extract 0 (Int.toNat ((((X.getD j default).kept).size:Int)+nz))⟩).getD j default).kept)) (g:=g23) (j:=1) (cs:=(bdC (X.set j ⟨(X.getD j default).now,((X.getD j default).now).extract 0 (Int.toNat ((((X.getD j default).kept).size:Int)+nz))⟩))) (cs':=(bdC ((X.set j ⟨(X.getD j default).now,((X.getD j default).now).extract 0 (Int.toNat ((((X.getD j default).kept).size:Int)+nz))⟩).set j ⟨((X.set j ⟨(X.getD j default).now,((X.getD j default).now).extract 0 (Int.toNat ((((X.getD j default).kept).size:Int)+nz))⟩).getD j default).kept,((X.set j ⟨(X.getD j default).now,((X.getD j default).now).extract 0 (Int.toNat ((((X.getD j default).kept).size:Int)+nz))⟩).getD j default).kept⟩))) (hO:=hO24) (hq:=(by simp only [bdC_len,List.length_set]; omega)) (hcs:=bdC_now) (k:=(fun g26 hO27=>?_))
     refine C4 [] [0,1,4,23,24] (k:=D5 ?_)
     refine A0 (A2 ?_)
     refine A7 (j:=1) [0] (k:=F2 92 (((j:Nat):Int)+1) (by omega) (by omega) kr ?_)
     refine C4 [0] [0,1,4,23,24] (k:=N_heq (H':=([(x,.cells #[.int .i64 M.room,.slice s.ba s.bn s.bc,.slice s.na s.nn s.nc,.slice s.ka s.kn s.kc,.slice s.ca s.cn s.cc,.bool M.fails,.bool M.once,.int .i64 M.calls] 106 (0,0))]::g26::s.cg::(s.Z++H))) rfl ?_)
     refine E5 (s':=(j+1,u+1,((X.set j ⟨(X.getD j default).now,((X.getD j default).now).extract 0 (Int.toNat ((((X.getD j default).kept).size:Int)+nz))⟩).set j ⟨((X.set j ⟨(X.getD j default).now,((X.getD j default).now).extract 0 (Int.toNat ((((X.getD j default).kept).size:Int)+nz))⟩).getD j default).kept,((X.set j ⟨(X.getD j default).now,((X.getD j default).now).extract 0 (Int.toNat ((((X.getD j default).kept).size:Int)+nz))⟩).getD j default).kept⟩),g26)) [0,1,4,23,24] kr rfl ⟨(by omega),(by show u+1≤j+1; omega),(crb_yes hX (by omega) h.well.pre hne hnk),hO27⟩ (by omega)
  ·
   have hne:=hc3
   refine B5 (A0 ?_)
   have hw29:Addr.add (I9 s.ba (j * 2)) 1=I9 s.ba (j * 2+1):=W8 _ _ _
   refine A2 (P9 (E':=[⟨88,[],.pointer (some (I9 s.ba (j * 2+1)))⟩,⟨85,[],.pointer (some (I9 s.ba (j * 2)))⟩,⟨0,[],pt x⟩,⟨1,[],.slice la l.length lc⟩,⟨4,[],.int .i64 ((u:Nat):Int)⟩,⟨23,[],.int .i64 ((s.bn:Nat):Int)⟩,⟨24,[],.int .i64 ((j:Nat):Int)⟩]) [0,0,0,0] (Eq.trans (b:=some [⟨88,[],.pointer (some (Addr.add (I9 s.ba (j * 2)) 1))⟩,⟨85,[],.pointer (some (I9 s.ba (j * 2)))⟩,⟨0,[],pt x⟩,⟨1,[],.slice la l.length lc⟩,⟨4,[],.int .i64 ((u:Nat):Int)⟩,⟨23,[],.int .i64 ((s.bn:Nat):Int)⟩,⟨24,[],.int .i64 ((j:Nat):Int)⟩]) kr (by simp only [hw29])) (j:=4) rfl ?_)
   refine D4 (ch:=[]) (a:=s.ba) (q:=j * 2+1) (S:=(inG bg2)) (cs:=(bdC X)) (v:=.string ((X.getD j default).kept)) (hrd:=D6 hO2) (hS:=C9 1 rfl) (hv:=(fun _=>(bdC_at1 (by omega)))) (k:=A7 (j:=7) [0,0] (k:=?_))
   refine X9 (ch:=[]) (a:=s.ba) (q:=j * 2) (len:=s.bn) (cap:=s.bc) (v:=.string ((X.getD j default).kept)) (g:=bg2) (j:=1) (cs:=(bdC X)) (cs':=(bdC (X.set j ⟨(X.getD j default).kept,(X.getD j default).kept⟩))) (hO:=hO2) (hq:=(by simp only [bdC_len,List.length_set]; omega)) (hcs:=bdC_now) (k:=(fun g30 hO31=>?_))
   refine C4 [] [0,1,4,23,24] (k:=D5 ?_)
   refine A0 (A2 ?_)
   refine A7 (j:=1) [0] (k:=F2 92 (((j:Nat):Int)+1) (by omega) (by omega) kr ?_)
   refine D3 (E':=[⟨0,[],pt x⟩,⟨1,[],.slice la l.length lc⟩,⟨4,[],.int .i64 ((u:Nat):Int)⟩,⟨23,[],.int .i64 ((s.bn:Nat):Int)⟩,⟨24,[],.int .i64 (((j:Nat):Int)+1)⟩]) [0] [0,1,4,23,24] (k:=N_heq (H':=([(x,.cells #[.int .i64 M.room,.slice s.ba s.bn s.bc,.slice s.na s.nn s.nc,.slice s.ka s.kn s.kc,.slice s.ca s.cn s.cc,.bool M.fails,.bool M.once,.int .i64 M.calls] 106 (0,0))]::g30::s.cg::(s.Z++H))) rfl ?_)
   refine E5 (s':=(j+1,u,(X.set j ⟨(X.getD j default).kept,(X.getD j default).kept⟩),g30)) [0,1,4,23,24] kr rfl ⟨(by omega),(by show u≤j+1; omega),(crb_no hX (by omega) hne),hO31⟩ (by omega)
 ·
  replace hc1:=of_decide_eq_false hc1
  refine G6 (A8 ?_)
  refine A8 (C7 ?_)
  refine A0 (A1 ?_)
  refine C5 ?_
  have hjn:M.bodies.length≤j:=by omega
  obtain ⟨hXb,hXu⟩:=crb_end hX hjn
  obtain ⟨hok0,hcr0⟩:=ok_rbodies h hm hXb hXu (by omega) hO2
  refine I8 (EI:=(fun ξ:RS × DM × Nat=>[⟨0,[],pt x⟩,⟨1,[],.slice la l.length lc⟩,⟨4,[],.int .i64 ((ξ.2.2:Nat):Int)⟩])) (HI:=(fun ξ:RS × DM × Nat=>([(x,.cells #[.int .i64 ξ.2.1.room,.slice ξ.1.ba ξ.1.bn ξ.1.bc,.slice ξ.1.na ξ.1.nn ξ.1.nc,.slice ξ.1.ka ξ.1.kn ξ.1.kc,.slice ξ.1.ca ξ.1.cn ξ.1.cc,.bool ξ.2.1.fails,.bool ξ.2.1.once,.int .i64 ξ.2.1.calls] 106 (0,0))]::ξ.1.bg::ξ.1.cg::(ξ.1.Z++H)))) (Φ:=(fun ξ:RS × DM × Nat=>(ξ.1.ok ξ.2.1)∧(CrD M l ξ.2.1 ξ.2.2))) (μ:=(fun ξ:RS × DM × Nat=>ξ.2.1.changes.length)) (s0:=({ s with bg:=bg2 },{ M with bodies:=X },u)) [0,1,4] kr rfl ⟨hok0,hcr0⟩ ?_
  rintro ⟨sr,Mr,u2⟩ ⟨hsr,hcr⟩
  replace hsr:sr.ok Mr:=hsr
  replace hcr:CrD M l Mr u2:=hcr
  have hcn3:=hsr.cn
  have hkn3:=hsr.kn
  have hck3:=hcr.kept
  have hch3:=hsr.chs.len
  have hcl3:=hcr.len
  refine A1 (A1 ?_)
  refine A2 (A7 (j:=3) [0,0,0] (k:=?_))
  refine A5 (ch:=[]) (b:=x) (off:=4) (v:=.slice sr.ca sr.cn sr.cc) (hA:=At.grp 0 0 rfl rfl) (k:=C4 [0,0] [0,1,4,98] (k:=?_))
  refine A0 (C6 (b:=decide (((sr.cn:Nat):Int) > 0)) kr (fun hc33=>?_) (fun hc33=>?_))
  ·
   replace hc33:=of_decide_eq_true hc33
   refine B5 (A0 ?_)
   refine C5 (A1 ?_)
   refine A2 (A7 (j:=3) [0,0,0] (k:=?_))
   refine A5 (ch:=[]) (b:=x) (off:=4) (v:=.slice sr.ca sr.cn sr.cc) (hA:=At.grp 0 0 rfl rfl) (k:=B7 (ch:=[]) (a:=sr.ca) (len:=sr.cn) (cap:=sr.cc) (kd:=.i64) (j:=0) (e:=123) (sz:=2) (S:=(inG sr.cg)) (cs:=(chC sr.cs)) (hrd:=D6 hsr.own2) (hb:=(fun _=>by exact ⟨by omega,by omega,chC_ne (i:=0) (by omega)⟩)) (k:=?_))
   refine A7 (j:=6) [0] (k:=D4 (ch:=[]) (a:=sr.ca) (q:=0 * 2) (S:=(inG sr.cg)) (cs:=(chC sr.cs)) (v:=.string ((sr.cs.getD 0 default).dir)) (hrd:=D6 hsr.own2) (hS:=C9 2 rfl) (hv:=(fun _=>(cells2_at0 (by omega)))) (k:=?_))
   refine C4 [0] [0,1,4,9] (k:=A0 ?_)
   refine A1 (G_p [0] [0,1,4,9,10] (k:=?_))
   refine A0 (A1 ?_)
   refine A1 (A2 ?_)
   refine A7 (j:=3) [0,0,0] (k:=A5 (ch:=[]) (b:=x) (off:=4) (v:=.slice sr.ca sr.cn sr.cc) (hA:=At.grp 0 0 rfl rfl) (k:=?_))
   refine C4 [0,0] [0,1,4,9,10,109,110,111] (k:=A0 ?_)
   refine C5 (I8 (EI:=(fun ξ:Nat × ByteArray=>[⟨0,[],pt x⟩,⟨1,[],.slice la l.length lc⟩,⟨4,[],.int .i64 ((u2:Nat):Int)⟩,⟨9,[],.string ξ.2⟩,⟨10,[],.int .i64 1⟩,⟨109,[],.slice sr.ca sr.cn sr.cc⟩,⟨110,[],.int .i64 ((sr.cn:Nat):Int)⟩,⟨111,[],.int .i64 ((ξ.1:Nat):Int)⟩])) (HI:=(fun ξ:Nat × ByteArray=>([(x,.cells #[.int .i64 Mr.room,.slice sr.ba sr.bn sr.bc,.slice sr.na sr.nn sr.nc,.slice sr.ka sr.kn sr.kc,.slice sr.ca sr.cn sr.cc,.bool Mr.fails,.bool Mr.once,.int .i64 Mr.calls] 106 (0,0))]::sr.bg::sr.cg::(sr.Z++H)))) (Φ:=(fun ξ:Nat × ByteArray=>(ξ.1≤sr.cs.length)∧(MinD sr.cs ξ.1 ξ.2))) (μ:=(fun ξ:Nat × ByteArray=>sr.cs.length - ξ.1)) (s0:=(0,(sr.cs.getD 0 default).dir)) [0,1,4,9,10,109,110,111] kr rfl ⟨(by omega),(min0 (by omega))⟩ ?_)
   rintro ⟨k3,ls⟩ ⟨hk3,hmn⟩
   replace hk3:k3≤sr.cs.length:=hk3
   replace hmn:MinD sr.cs k3 ls:=hmn
   refine A1 (G_p [0] [0,1,4,9,10,109,110,111,112] (k:=?_))
   refine A0 (A1 ?_)
   refine C6 (b:=decide (((k3:Nat):Int)<((sr.cn:Nat):Int))) kr (fun hc34=>?_) (fun hc34=>?_)
   ·
    replace hc34:=of_decide_eq_true hc34
    refine B5 (A0 ?_)
    refine A1 (C5 ?_)
    refine A1 (A2 ?_)
    refine B7 (ch:=[]) (a:=sr.ca) (len:=sr.cn) (cap:=sr.cc) (kd:=.i64) (j:=((k3:Nat):Int)) (e:=123) (sz:=2) (S:=(inG sr.cg)) (cs:=(chC sr.cs)) (hrd:=D6 hsr.own2) (hb:=(fun _=>by exact ⟨by omega,by omega,chC_ne (i:=k3) (by omega)⟩)) (k:=Q0 (ch:=[]) (a:=sr.ca) (q:=k3 * 2) (S:=(inG sr.cg)) (cs:=(chC sr.cs)) (l:=[.string ((sr.cs.getD k3 default).dir),.slice (sr.cs.getD k3 default).a ((sr.cs.getD k3 default).l.length) ((sr.cs.getD k3 default).c)]) (hrd:=D6 hsr.own2) (hS:=C9 2 rfl) (hl:=List.cons_ne_nil _ _) (hv:=(fun _=>(fun m hm=>(P5 (by omega) m hm).trans (List.getElem?_eq_getElem hm)))) (k:=?_))
    refine K5 (ch:=[]) (z:=.agg #[.string (ByteArray.mk #[]),.slice none 0 0]) (k:=(fun b35=>?_))
    refine G4 (ch:=[]) (b:=b35) (off:=0) (v:=.agg #[.string ((sr.cs.getD k3 default).dir),.slice (sr.cs.getD k3 default).a ((sr.cs.getD k3 default).l.length) ((sr.cs.getD k3 default).c)]) (j:=0) ([(b35,.cells #[.string ((sr.cs.getD k3 default).dir),.slice (sr.cs.getD k3 default).a ((sr.cs.getD k3 default).l.length) ((sr.cs.getD k3 default).c)] 123 (0,0))]::[(x,.cells #[.int .i64 Mr.room,.slice sr.ba sr.bn sr.bc,.slice sr.na sr.nn sr.nc,.slice sr.ka sr.kn sr.kc,.slice sr.ca sr.cn sr.cc,.bool Mr.fails,.bool Mr.once,.int .i64 Mr.calls] 106 (0,0))]::sr.bg::sr.cg::(sr.Z++H)) (hoff:=Nat.le_of_ble_eq_true rfl) (hfz:=(fun _ _=>F0)) (k:=C4 [] [0,1,4,9,10,12,109,110,111] (k:=?_))
    refine A0 (A1 ?_)
    refine A2 (A7 (j:=1) [0] (k:=?_))
    refine A5 (ch:=[]) (b:=b35) (off:=0) (v:=.string ((sr.cs.getD k3 default).dir)) (hA:=At.grp 0 0 rfl rfl) (k:=C4 [0,0] [0,1,4,9,10,12,109,110,111,118] (k:=?_))
    refine A0 (C6 (b:=Op.bytesLess ((sr.cs.getD k3 default).dir).toList ls.toList) kr (fun hc36=>?_) (fun hc36=>?_))
    ·
     have hlt3:=hc36
     refine A2 (A7 (j:=1) [0] (k:=?_))
     refine A5 (ch:=[]) (b:=b35) (off:=0) (v:=.string ((sr.cs.getD k3 default).dir)) (hA:=At.grp 0 0 rfl rfl) (k:=C4 [0] [0,1,4,9,10,109,110,111] (k:=?_))
     refine D5 (A0 ?_)
     refine A2 (A7 (j:=1) [0] (k:=?_))
     refine F2 121 (((k3:Nat):Int)+1) (by omega) (by omega) kr (C4 [0] [0,1,4,9,10,109,110,111] (k:=?_))
     refine E0 (H':=([(x,.cells #[.int .i64 Mr.room,.slice sr.ba sr.bn sr.bc,.slice sr.na sr.nn sr.nc,.slice sr.ka sr.kn sr.kc,.slice sr.ca sr.cn sr.cc,.bool Mr.fails,.bool Mr.once,.int .i64 Mr.calls] 106 (0,0))]::sr.bg::sr.cg::(sr.Z++H))) (fun w h=>(h.erase 0)) (E5 (s':=(k3+1,(sr.cs.getD k3 default).dir)) [0,1,4,9,10,109,110,111] kr rfl ⟨(by omega),(min_yes hmn (by omega) hlt3)⟩ (by omega))
    ·
     have hlt3:=hc36
     refine B5 (D5 ?_)
     refine A0 (A2 ?_)
     refine A7 (j:=1) [0] (k:=F2 121 (((k3:Nat):Int)+1) (by omega) (by omega) kr ?_)
     refine C4 [0] [0,1,4,9,10,109,110,111] (k:=E0 (H':=([(x,.cells #[.int .i64 Mr.room,.slice sr.ba sr.bn sr.bc,.slice sr.na sr.nn sr.nc,.slice sr.ka sr.kn sr.kc,.slice sr.ca sr.cn sr.cc,.bool Mr.fails,.bool Mr.once,.int .i64 Mr.calls] 106 (0,0))]::sr.bg::sr.cg::(sr.Z++H))) (fun w h=>(h.erase 0)) ?_)
     refine E5 (s':=(k3+1,ls)) [0,1,4,9,10,109,110,111] kr rfl ⟨(by omega),(min_no hmn (by omega) hlt3)⟩ (by omega)
   ·
    replace hc34:=of_decide_eq_false hc34
    refine G6 (A8 ?_)
    refine A8 (C7 ?_)
    refine A0 (A1 ?_)
    refine A1 (A2 ?_)
    refine A7 (j:=3) [0,0,0] (k:=A5 (ch:=[]) (b:=x) (off:=4) (v:=.slice sr.ca sr.cn sr.cc) (hA:=At.grp 0 0 rfl rfl) (k:=?_))
    refine C4 [0,0] [0,1,4,9,10,125,126,127] (k:=A0 ?_)
    refine C5 ?_
    have hmm:=min_end hsr.chs (by omega) hmn
    refine I8 (EI:=(fun ξ:Nat=>[⟨0,[],pt x⟩,⟨1,[],.slice la l.length lc⟩,⟨4,[],.int .i64 ((u2:Nat):Int)⟩,⟨9,[],.string ls⟩,⟨10,[],.int .i64 ((cntD sr.cs ξ ls:Nat):Int)⟩,⟨125,[],.slice sr.ca sr.cn sr.cc⟩,⟨126,[],.int .i64 ((sr.cn:Nat):Int)⟩,⟨127,[],.int .i64 ((ξ:Nat):Int)⟩])) (HI:=(fun ξ:Nat=>([(x,.cells #[.int .i64 Mr.room,.slice sr.ba sr.bn sr.bc,.slice sr.na sr.nn sr.nc,.slice sr.ka sr.kn sr.kc,.slice sr.ca sr.cn sr.cc,.bool Mr.fails,.bool Mr.once,.int .i64 Mr.calls] 106 (0,0))]::sr.bg::sr.cg::(sr.Z++H)))) (Φ:=(fun ξ:Nat=>(ξ≤sr.cs.length))) (μ:=(fun ξ:Nat=>sr.cs.length - ξ)) (s0:=(0)) [0,1,4,9,10,125,126,127] kr rfl (by omega) ?_
    rintro k4 hk4
    replace hk4:k4≤sr.cs.length:=hk4
    have hcl4:=cnt_le (cs:=sr.cs) (k:=k4) (ls:=ls)
    refine A1 (G_p [0] [0,1,4,9,10,125,126,127,128] (k:=?_))
    refine A0 (A1 ?_)
    refine C6 (b:=decide (((k4:Nat):Int)<((sr.cn:Nat):Int))) kr (fun hc39=>?_) (fun hc39=>?_)
    ·
     replace hc39:=of_decide_eq_true hc39
     refine B5 (A0 ?_)
     refine A1 (C5 ?_)
     refine A1 (A2 ?_)
     refine B7 (ch:=[]) (a:=sr.ca) (len:=sr.cn) (cap:=sr.cc) (kd:=.i64) (j:=((k4:Nat):Int)) (e:=123) (sz:=2) (S:=(inG sr.cg)) (cs:=(chC sr.cs)) (hrd:=D6 hsr.own2) (hb:=(fun _=>by exact ⟨by omega,by omega,chC_ne (i:=k4) (by omega)⟩)) (k:=Q0 (ch:=[]) (a:=sr.ca) (q:=k4 * 2) (S:=(inG sr.cg)) (cs:=(chC sr.cs)) (l:=[.string ((sr.cs.getD k4 default).dir),.slice (sr.cs.getD k4 default).a ((sr.cs.getD k4 default).l.length) ((sr.cs.getD k4 default).c)]) (hrd:=D6 hsr.own2) (hS:=C9 2 rfl) (hl:=List.cons_ne_nil _ _) (hv:=(fun _=>(fun m hm=>(P5 (by omega) m hm).trans (List.getElem?_eq_getElem hm)))) (k:=?_))
     refine K5 (ch:=[]) (z:=.agg #[.string (ByteArray.mk #[]),.slice none 0 0]) (k:=(fun b40=>?_))
     refine G4 (ch:=[]) (b:=b40) (off:=0) (v:=.agg #[.string ((sr.cs.getD k4 default).dir),.slice (sr.cs.getD k4 default).a ((sr.cs.getD k4 default).l.length) ((sr.cs.getD k4 default).c)]) (j:=0) ([(b40,.cells #[.string ((sr.cs.getD k4 default).dir),.slice (sr.cs.getD k4 default).a ((sr.cs.getD k4 default).l.length) ((sr.cs.getD k4 default).c)] 123 (0,0))]::[(x,.cells #[.int .i64 Mr.room,.slice sr.ba sr.bn sr.bc,.slice sr.na sr.nn sr.nc,.slice sr.ka sr.kn sr.kc,.slice sr.ca sr.cn sr.cc,.bool Mr.fails,.bool Mr.once,.int .i64 Mr.calls] 106 (0,0))]::sr.bg::sr.cg::(sr.Z++H)) (hoff:=Nat.le_of_ble_eq_true rfl) (hfz:=(fun _ _=>F0)) (k:=C4 [] [0,1,4,9,10,14,125,126,127] (k:=?_))
     refine A0 (A1 ?_)
     refine A2 (A7 (j:=1) [0] (k:=?_))
     refine A5 (ch:=[]) (b:=b40) (off:=0) (v:=.string ((sr.cs.getD k4 default).dir)) (hA:=At.grp 0 0 rfl rfl) (k:=C4 [0,0] [0,1,4,9,10,125,126,127,134] (k:=?_))
     refine A0 (C6 (b:=((sr.cs.getD k4 default).dir).toList==ls.toList) kr (fun hc41=>?_) (fun hc41=>?_))
     ·
      have heq4:=hc41
      refine A2 (A7 (j:=2) [0,0] (k:=?_))
      refine F2 136 (((cntD sr.cs k4 ls:Nat):Int)+1) (by omega) (by omega) kr (C4 [0] [0,1,4,9,10,125,126,127] (k:=?_))
      refine D5 (A0 ?_)
      refine A2 (A7 (j:=1) [0] (k:=?_))
      refine F2 137 (((k4:Nat):Int)+1) (by omega) (by omega) kr (C4 [0] [0,1,4,9,10,125,126,127] (k:=?_))
      refine H8 (E':=[⟨0,[],pt x⟩,⟨1,[],.slice la l.length lc⟩,⟨4,[],.int .i64 ((u2:Nat):Int)⟩,⟨9,[],.string ls⟩,⟨10,[],.int .i64 (((cntD sr.cs k4 ls:Nat):Int)+1)⟩,⟨125,[],.slice sr.ca sr.cn sr.cc⟩,⟨126,[],.int .i64 ((sr.cn:Nat):Int)⟩,⟨127,[],.int .i64 (((k4:Nat):Int)+1)⟩]) kr (H8 (E':=[⟨0,[],pt x⟩,⟨1,[],.slice la l.length lc⟩,⟨4,[],.int .i64 ((u2:Nat):Int)⟩,⟨9,[],.string ls⟩,⟨10,[],.int .i64 ((cntD sr.cs (k4+1) ls:Nat):Int)⟩,⟨125,[],.slice sr.ca sr.cn sr.cc⟩,⟨126,[],.int .i64 ((sr.cn:Nat):Int)⟩,⟨127,[],.int .i64 (((k4:Nat):Int)+1)⟩]) (by rw [cnt_yes (by omega) heq4]; rfl) ?_)
      refine E0 (H':=([(x,.cells #[.int .i64 Mr.room,.slice sr.ba sr.bn sr.bc,.slice sr.na sr.nn sr.nc,.slice sr.ka sr.kn sr.kc,.slice sr.ca sr.cn sr.cc,.bool Mr.fails,.bool Mr.once,.int .i64 Mr.calls] 106 (0,0))]::sr.bg::sr.cg::(sr.Z++H))) (fun w h=>(h.erase 0)) (E5 (s':=(k4+1)) [0,1,4,9,10,125,126,127] kr rfl (by omega) (by omega))
     ·
      have heq4:=hc41
      refine B5 (D5 ?_)
      refine A0 (A2 ?_)
      refine A7 (j:=1) [0] (k:=F2 137 (((k4:Nat):Int)+1) (by omega) (by omega) kr ?_)
      refine C4 [0] [0,1,4,9,10,125,126,127] (k:=H8 (E':=[⟨0,[],pt x⟩,⟨1,[],.slice la l.length lc⟩,⟨4,[],.int .i64 ((u2:Nat):Int)⟩,⟨9,[],.string ls⟩,⟨10,[],.int .i64 ((cntD sr.cs k4 ls:Nat):Int)⟩,⟨125,[],.slice sr.ca sr.cn sr.cc⟩,⟨126,[],.int .i64 ((sr.cn:Nat):Int)⟩,⟨127,[],.int .i64 (((k4:Nat):Int)+1)⟩]) kr ?_)
      refine H8 (E':=[⟨0,[],pt x⟩,⟨1,[],.slice la l.length lc⟩,⟨4,[],.int .i64 ((u2:Nat):Int)⟩,⟨9,[],.string ls⟩,⟨10,[],.int .i64 ((cntD sr.cs (k4+1) ls:Nat):Int)⟩,⟨125,[],.slice sr.ca sr.cn sr.cc⟩,⟨126,[],.int .i64 ((sr.cn:Nat):Int)⟩,⟨127,[],.int .i64 (((k4:Nat):Int)+1)⟩]) (by rw [cnt_no (by omega) heq4]) (E0 (H':=([(x,.cells #[.int .i64 Mr.room,.slice sr.ba sr.bn sr.bc,.slice sr.na sr.nn sr.nc,.slice sr.ka sr.kn sr.kc,.slice sr.ca sr.cn sr.cc,.bool Mr.fails,.bool Mr.once,.int .i64 Mr.calls] 106 (0,0))]::sr.bg::sr.cg::(sr.Z++H))) (fun w h=>(h.erase 0)) ?_)
      refine E5 (s':=(k4+1)) [0,1,4,9,10,125,126,127] kr rfl (by omega) (by omega)
    ·
     replace hc39:=of_decide_eq_false hc39
     have hcm:((cntD sr.cs k4 ls:Nat):Int)=((J1 Mr.changes ls).length:Int)+1:=by rw [cnt_end hsr.chs (by omega)]; rfl
     refine G6 (A8 ?_)
     refine A8 (C7 ?_)
     refine A0 (A1 ?_)
     refine G_p [0] [0,1,4,9,10,15] (k:=A0 ?_)
     refine A1 (A1 ?_)
     refine G_p [0,0,0,0] [0,1,4,9,10,15,141] (k:=A0 ?_)
     refine G_join (T:=Nat) (fun ξ:Nat=>[⟨0,[],pt x⟩,⟨1,[],.slice la l.length lc⟩,⟨4,[],.int .i64 ((u2:Nat):Int)⟩,⟨9,[],.string ls⟩,⟨15,[],.int .i64 ((ξ:Nat):Int)⟩]) (fun ξ:Nat=>([(x,.cells #[.int .i64 Mr.room,.slice sr.ba sr.bn sr.bc,.slice sr.na sr.nn sr.nc,.slice sr.ka sr.kn sr.kc,.slice sr.ca sr.cn sr.cc,.bool Mr.fails,.bool Mr.once,.int .i64 Mr.calls] 106 (0,0))]::sr.bg::sr.cg::(sr.Z++H))) (fun ξ:Nat=>(ξ=(F1 (l.getD u2 0) ((cntD sr.cs k4 ls:Nat):Int)).toNat)) ?_ ?_
     ·
      refine C6 (b:=decide (((u2:Nat):Int)<((l.length:Nat):Int))) kr (fun hc45=>?_) (fun hc45=>?_)
      ·
       replace hc45:=of_decide_eq_true hc45
       have hnb2:=R6 (k:=l.getD u2 0) (n:=((cntD sr.cs k4 ls:Nat):Int)) (by omega)
       refine A2 (A7 (j:=2) [0,0] (k:=?_))
       refine B7 (ch:=[]) (a:=la) (len:=l.length) (cap:=lc) (kd:=.i64) (j:=((u2:Nat):Int)) (e:=3) (sz:=1) (S:=Sk) (cs:=(l.map (Value.int .i64))) (hrd:=hrl) (hb:=(fun _=>by exact ⟨by omega,by omega,ints_ne (u:=u2) (by omega)⟩)) (k:=D4 (ch:=[]) (a:=la) (q:=u2 * 1) (S:=Sk) (cs:=(l.map (Value.int .i64))) (v:=.int .i64 (l.getD u2 0)) (hrd:=hrl) (hS:=(fun y o h=>(At.cons (At.cons (At.cons (X8 (hSk y o h))))))) (hv:=(fun _=>(by rw [Nat.mul_one]; exact intL_at (by omega)))) (k:=?_))
       refine A7 (j:=5) [0] (k:=GL_rem (ch:=[]) (kd:=.i64) (a:=(l.getD u2 0)) (b:=((cntD sr.cs k4 ls:Nat):Int)) (hb:=(fun _=>by omega)) (k:=?_))
       have hrm46:=tmod_ne (l.getD u2 0) (show 0<((cntD sr.cs k4 ls:Nat):Int) by omega)
       refine A7 (j:=8) [0,0] (k:=F2 149 ((Int.tmod (l.getD u2 0) ((cntD sr.cs k4 ls:Nat):Int))+((cntD sr.cs k4 ls:Nat):Int)) (by omega) (by omega) kr ?_)
       refine A7 (j:=9) [0] (k:=GL_rem (ch:=[]) (kd:=.i64) (a:=(Int.tmod (l.getD u2 0) ((cntD sr.cs k4 ls:Nat):Int))+((cntD sr.cs k4 ls:Nat):Int)) (b:=((cntD sr.cs k4 ls:Nat):Int)) (hb:=(fun _=>by omega)) (k:=?_))
       have hrm48:=tmod_ne ((Int.tmod (l.getD u2 0) ((cntD sr.cs k4 ls:Nat):Int))+((cntD sr.cs k4 ls:Nat):Int)) (show 0<((cntD sr.cs k4 ls:Nat):Int) by omega)
       refine P9 (E':=[⟨15,[],.int .i64 (Int.tmod ((Int.tmod (l.getD u2 0) ((cntD sr.cs k4 ls:Nat):Int))+((cntD sr.cs k4 ls:Nat):Int)) ((cntD sr.cs k4 ls:Nat):Int))⟩,⟨0,[],pt x⟩,⟨1,[],.slice la l.length lc⟩,⟨4,[],.int .i64 ((u2:Nat):Int)⟩,⟨9,[],.string ls⟩]) [0] kr (j:=11) rfl (GL_env (E':=[⟨15,[],.int .i64 ((Int.toNat (F1 (l.getD u2 0) ((cntD sr.cs k4 ls:Nat):Int)):Nat):Int)⟩,⟨0,[],pt x⟩,⟨1,[],.slice la l.length lc⟩,⟨4,[],.int .i64 ((u2:Nat):Int)⟩,⟨9,[],.string ls⟩]) (by rw [show Int.tmod (Int.tmod (l.getD u2 0) ((cntD sr.cs k4 ls:Nat):Int)+((cntD sr.cs k4 ls:Nat):Int)) ((cntD sr.cs k4 ls:Nat):Int)=_ from (Int.toNat_of_nonneg hnb2.1).symm]) ?_)
       refine C4 [] [0,1,4,9,15] (k:=M9 (Int.toNat (F1 (l.getD u2 0) ((cntD sr.cs k4 ls:Nat):Int))) [0,1,4,9,15] kr (fun w h=>h) rfl)
      ·
       replace hc45:=of_decide_eq_false hc45
       refine B5 (M9 (0) [0,1,4,9,15] kr (fun w h=>h) (by rw [getD_over (by omega),nextK0 (by omega)]; rfl))
     ·
      rintro nn hnn5
      have hnb2:=R6 (k:=l.getD u2 0) (n:=((cntD sr.cs k4 ls:Nat):Int)) (by omega)
      refine A0 (A1 ?_)
      refine A2 (A7 (j:=2) [0,0] (k:=?_))
      refine F2 153 (((u2:Nat):Int)+1) (by omega) (by omega) kr (C4 [0] [0,1,4,9,15] (k:=?_))
      refine A0 (A1 ?_)
      refine A2 (A7 (j:=3) [0,0,0] (k:=?_))
      refine G2 (vs:=[pt x,.string ls,.int .i64 ((nn:Nat):Int)]) Tryz.func74 (rKeep x sr Mr hsr ⟨Nat.le_trans (Nat.le_add_right _ _) hcr.kept,by omega,hcr.chs⟩ ls nn (by omega) _ H) ?_
      rintro v H' ⟨rfl,sr2,hsr2,rfl⟩
      have hcn2:=hsr2.cn
      have hch2:=hsr2.chs.len
      have hkl2:=keep_len Mr ls nn
      refine C4 [] [0,1,4,9] (k:=A0 ?_)
      refine A1 (G_p [0] [0,1,4,9,16] (k:=?_))
      refine A0 (A1 ?_)
      refine A1 (A2 ?_)
      refine A7 (j:=3) [0,0,0] (k:=A5 (ch:=[]) (b:=x) (off:=4) (v:=.slice sr2.ca sr2.cn sr2.cc) (hA:=At.grp 0 0 rfl rfl) (k:=?_))
      refine C4 [0,0] [0,1,4,9,16,161,162,163] (k:=A0 ?_)
      refine C5 (R8 (H':=([(x,.cells #[.int .i64 ((M5 Mr ls nn).room),.slice sr2.ba sr2.bn sr2.bc,.slice sr2.na sr2.nn sr2.nc,.slice sr2.ka sr2.kn sr2.kc,.slice sr2.ca sr2.cn sr2.cc,.bool ((M5 Mr ls nn).fails),.bool ((M5 Mr ls nn).once),.int .i64 ((M5 Mr ls nn).calls)] 106 (0,0))]::sr2.bg::sr2.cg::[]::(sr2.Z++H))) (fun w h=>T7 (A:=[_,_,_]) h) ?_)
      refine I8 (EI:=(fun ξ:Nat × List CR × Option Addr × Nat × Grp=>[⟨0,[],pt x⟩,⟨1,[],.slice la l.length lc⟩,⟨4,[],.int .i64 (((u2:Nat):Int)+1)⟩,⟨9,[],.string ls⟩,⟨16,[],.slice ξ.2.2.1 ξ.2.1.length ξ.2.2.2.1⟩,⟨161,[],.slice sr2.ca sr2.cn sr2.cc⟩,⟨162,[],.int .i64 ((sr2.cn:Nat):Int)⟩,⟨163,[],.int .i64 ((ξ.1:Nat):Int)⟩])) (HI:=(fun ξ:Nat × List CR × Option Addr × Nat × Grp=>([(x,.cells #[.int .i64 ((M5 Mr ls nn).room),.slice sr2.ba sr2.bn sr2.bc,.slice sr2.na sr2.nn sr2.nc,.slice sr2.ka sr2.kn sr2.kc,.slice sr2.ca sr2.cn sr2.cc,.bool ((M5 Mr ls nn).fails),.bool ((M5 Mr ls nn).once),.int .i64 ((M5 Mr ls nn).calls)] 106 (0,0))]::sr2.bg::sr2.cg::ξ.2.2.2.2::(sr2.Z++H)))) (Φ:=(fun ξ:Nat × List CR × Option Addr × Nat × Grp=>(ξ.1≤sr2.cs.length)∧(ξ.2.1=(sr2.cs.take ξ.1).filter fun c=>!(c.dir.toList==ls.toList))∧(Go.Sw.Own 123 2 (.slice ξ.2.2.1 ξ.2.1.length ξ.2.2.2.1) ξ.2.2.2.2 ξ.2.1.length (chC ξ.2.1))∧(ξ.2.1.length≤ξ.1))) (μ:=(fun ξ:Nat × List CR × Option Addr × Nat × Grp=>sr2.cs.length - ξ.1)) (s0:=(0,[],none,0,[])) [0,1,4,9,16,161,162,163] kr rfl ⟨(by omega),(by rw [List.take_zero]; rfl),Go.Sw.Own.nil,(Nat.le_refl _)⟩ ?_
      rintro ⟨k5,rs,ra,rc,gr⟩ ⟨hk5,hrs,hO5,hrl5⟩
      replace hk5:k5≤sr2.cs.length:=hk5
      replace hrs:rs=(sr2.cs.take k5).filter fun c=>!(c.dir.toList==ls.toList):=hrs
      replace hO5:Go.Sw.Own 123 2 (.slice ra rs.length rc) gr rs.length (chC rs):=hO5
      replace hrl5:rs.length≤k5:=hrl5
      refine A1 (G_p [0] [0,1,4,9,16,161,162,163,164] (k:=?_))
      refine A0 (A1 ?_)
      refine C6 (b:=decide (((k5:Nat):Int)<((sr2.cn:Nat):Int))) kr (fun hc50=>?_) (fun hc50=>?_)
      ·
       replace hc50:=of_decide_eq_true hc50
       refine B5 (A0 ?_)
       refine A1 (C5 ?_)
       refine A1 (A2 ?_)
       refine B7 (ch:=[]) (a:=sr2.ca) (len:=sr2.cn) (cap:=sr2.cc) (kd:=.i64) (j:=((k5:Nat):Int)) (e:=123) (sz:=2) (S:=(inG sr2.cg)) (cs:=(chC sr2.cs)) (hrd:=D6 hsr2.own2) (hb:=(fun _=>by exact ⟨by omega,by omega,chC_ne (i:=k5) (by omega)⟩)) (k:=Q0 (ch:=[]) (a:=sr2.ca) (q:=k5 * 2) (S:=(inG sr2.cg)) (cs:=(chC sr2.cs)) (l:=[.string ((sr2.cs.getD k5 default).dir),.slice (sr2.cs.getD k5 default).a ((sr2.cs.getD k5 default).l.length) ((sr2.cs.getD k5 default).c)]) (hrd:=D6 hsr2.own2) (hS:=C9 2 rfl) (hl:=List.cons_ne_nil _ _) (hv:=(fun _=>(fun m hm=>(P5 (by omega) m hm).trans (List.getElem?_eq_getElem hm)))) (k:=?_))
       refine K5 (ch:=[]) (z:=.agg #[.string (ByteArray.mk #[]),.slice none 0 0]) (k:=(fun b51=>?_))
       refine G4 (ch:=[]) (b:=b51) (off:=0) (v:=.agg #[.string ((sr2.cs.getD k5 default).dir),.slice (sr2.cs.getD k5 default).a ((sr2.cs.getD k5 default).l.length) ((sr2.cs.getD k5 default).c)]) (j:=0) ([(b51,.cells #[.string ((sr2.cs.getD k5 default).dir),.slice (sr2.cs.getD k5 default).a ((sr2.cs.getD k5 default).l.length) ((sr2.cs.getD k5 default).c)] 123 (0,0))]::[(x,.cells #[.int .i64 ((M5 Mr ls nn).room),.slice sr2.ba sr2.bn sr2.bc,.slice sr2.na sr2.nn sr2.nc,.slice sr2.ka sr2.kn sr2.kc,.slice sr2.ca sr2.cn sr2.cc,.bool ((M5 Mr ls nn).fails),.bool ((M5 Mr ls nn).once),.int .i64 ((M5 Mr ls nn).calls)] 106 (0,0))]::sr2.bg::sr2.cg::gr::(sr2.Z++H)) (hoff:=Nat.le_of_ble_eq_true rfl) (hfz:=(fun _ _=>F0)) (k:=C4 [] [0,1,4,9,16,18,161,162,163] (k:=?_))
       refine A0 (A1 ?_)
       refine A2 (A7 (j:=1) [0] (k:=?_))
       refine A5 (ch:=[]) (b:=b51) (off:=0) (v:=.string ((sr2.cs.getD k5 default).dir)) (hA:=At.grp 0 0 rfl rfl) (k:=C4 [0,0] [0,1,4,9,16,18,161,162,163,170] (k:=?_))
       refine A0 (C6 (b:=!(((sr2.cs.getD k5 default).dir).toList==ls.toList)) kr (fun hc52=>?_) (fun hc52=>?_))
       ·
        have hdn5:=hc52
        refine A2 (A7 (j:=1) [0] (k:=?_))
        refine P8 (ch:=[]) (b:=b51) (off:=0) (l:=[.string ((sr2.cs.getD k5 default).dir),.slice (sr2.cs.getD k5 default).a ((sr2.cs.getD k5 default).l.length) ((sr2.cs.getD k5 default).c)]) (hA:=At.grp 0 0 rfl rfl) (k:=C2 (ch:=[]) (e:=123) (l:=[(0,.agg #[.string ((sr2.cs.getD k5 default).dir),.slice (sr2.cs.getD k5 default).a ((sr2.cs.getD k5 default).l.length) ((sr2.cs.getD k5 default).c)])]) (c:=[.string ((sr2.cs.getD k5 default).dir),.slice (sr2.cs.getD k5 default).a ((sr2.cs.getD k5 default).l.length) ((sr2.cs.getD k5 default).c)]) (k:=(fun b53=>?_)))
        refine E9 (i:=3) (ch:=[]) (t:=104) (tx:=104) (e:=123) (inf:=Tryz.t123) (s:=.slice ra rs.length rc) (x:=.slice (some ⟨b53,0,none⟩) 1 1) (n:=rs.length) (m:=1) (j:=5) (cs:=(chC rs)) (news:=[.string ((sr2.cs.getD k5 default).dir),.slice (sr2.cs.getD k5 default).a ((sr2.cs.getD k5 default).l.length) ((sr2.cs.getD k5 default).c)]) (g:=gr) (S:=(inG [(b53,.cells #[.string ((sr2.cs.getD k5 default).dir),.slice (sr2.cs.getD k5 default).a ((sr2.cs.getD k5 default).l.length) ((sr2.cs.getD k5 default).c)] 123 (0,0))])) rfl rfl rfl rfl kr kr kr rfl rfl (.inl ⟨123,kr⟩) (fun ⟨_,h⟩=>by cases h) (fun _=>⟨123,kr⟩) kr kr kr rfl hO5 (SrcOf.slice _ _ _ _ Rd.lit (by first | exact rd_none hsr.kept hsr.kn | exact (fun h=>by cases h))) (C9 0 rfl) (by first | rfl | (rw [nmC_len,hsr.kn]; rfl)) (by first | exact nmC_one _ | exact (by intro u hu; simp only [List.mem_cons,List.not_mem_nil,or_false] at hu; rcases hu with rfl | rfl <;> rfl)) (by omega) (by show (rs.length+1) * 40≤140737488355328; omega) (fun v54 g55 hO56=>?_)
        obtain ⟨a57,cap58,rfl,hcap59,hrd60⟩:=hO56.shape
        refine C4 [0] [0,1,4,9,16,161,162,163] (k:=D5 ?_)
        refine A0 (A2 ?_)
        refine A7 (j:=1) [0] (k:=F2 175 (((k5:Nat):Int)+1) (by omega) (by omega) kr ?_)
        refine C4 [0] [0,1,4,9,16,161,162,163] (k:=H8 (E':=[⟨0,[],pt x⟩,⟨1,[],.slice la l.length lc⟩,⟨4,[],.int .i64 (((u2:Nat):Int)+1)⟩,⟨9,[],.string ls⟩,⟨16,[],.slice a57 (rs.length+1) cap58⟩,⟨161,[],.slice sr2.ca sr2.cn sr2.cc⟩,⟨162,[],.int .i64 ((sr2.cn:Nat):Int)⟩,⟨163,[],.int .i64 (((k5:Nat):Int)+1)⟩]) kr ?_)
        refine H8 (E':=[⟨0,[],pt x⟩,⟨1,[],.slice la l.length lc⟩,⟨4,[],.int .i64 (((u2:Nat):Int)+1)⟩,⟨9,[],.string ls⟩,⟨16,[],.slice a57 ((rs++[(sr2.cs.getD k5 default)]).length) cap58⟩,⟨161,[],.slice sr2.ca sr2.cn sr2.cc⟩,⟨162,[],.int .i64 ((sr2.cn:Nat):Int)⟩,⟨163,[],.int .i64 (((k5:Nat):Int)+1)⟩]) (by rw [List.length_append]; rfl) (E0 (H':=([(x,.cells #[.int .i64 ((M5 Mr ls nn).room),.slice sr2.ba sr2.bn sr2.bc,.slice sr2.na sr2.nn sr2.nc,.slice sr2.ka sr2.kn sr2.kc,.slice sr2.ca sr2.cn sr2.cc,.bool ((M5 Mr ls nn).fails),.bool ((M5 Mr ls nn).once),.int .i64 ((M5 Mr ls nn).calls)] 106 (0,0))]::sr2.bg::sr2.cg::g55::(sr2.Z++H))) (fun w h=>((h.erase 1).erase 0)) ?_)
        refine N_heq (H':=([(x,.cells #[.int .i64 ((M5 Mr ls nn).room),.slice sr2.ba sr2.bn sr2.bc,.slice sr2.na sr2.nn sr2.nc,.slice sr2.ka sr2.kn sr2.kc,.slice sr2.ca sr2.cn sr2.cc,.bool ((M5 Mr ls nn).fails),.bool ((M5 Mr ls nn).once),.int .i64 ((M5 Mr ls nn).calls)] 106 (0,0))]::sr2.bg::sr2.cg::g55::(sr2.Z++H))) rfl (E5 (s':=(k5+1,rs++[(sr2.cs.getD k5 default)],a57,cap58,g55)) [0,1,4,9,16,161,162,163] kr rfl ⟨(by omega),(by rw [filt_put (by omega) hdn5,← hrs]),(own_chput hO56),(by rw [List.length_append]; show rs.length+1≤_; omega)⟩ (by omega))
       ·
        have hdn5:=hc52
        refine B5 (D5 ?_)
        refine A0 (A2 ?_)
        refine A7 (j:=1) [0] (k:=F2 175 (((k5:Nat):Int)+1) (by omega) (by omega) kr ?_)
        refine C4 [0] [0,1,4,9,16,161,162,163] (k:=E0 (H':=([(x,.cells #[.int .i64 ((M5 Mr ls nn).room),.slice sr2.ba sr2.bn sr2.bc,.slice sr2.na sr2.nn sr2.nc,.slice sr2.ka sr2.kn sr2.kc,.slice sr2.ca sr2.cn sr2.cc,.bool ((M5 Mr ls nn).fails),.bool ((M5 Mr ls nn).once),.int .i64 ((M5 Mr ls nn).calls)] 106 (0,0))]::sr2.bg::sr2.cg::gr::(sr2.Z++H))) (fun w h=>(h.erase 0)) ?_)
        refine N_heq (H':=([(x,.cells #[.int .i64 ((M5 Mr ls nn).room),.slice sr2.ba sr2.bn sr2.bc,.slice sr2.na sr2.nn sr2.nc,.slice sr2.ka sr2.kn sr2.kc,.slice sr2.ca sr2.cn sr2.cc,.bool ((M5 Mr ls nn).fails),.bool ((M5 Mr ls nn).once),.int .i64 ((M5 Mr ls nn).calls)] 106 (0,0))]::sr2.bg::sr2.cg::gr::(sr2.Z++H))) rfl (E5 (s':=(k5+1,rs,ra,rc,gr)) [0,1,4,9,16,161,162,163] kr rfl ⟨(by omega),(by rw [filt_skip (by omega) hdn5,← hrs]),hO5,(by show rs.length≤_; omega)⟩ (by omega))
      ·
       replace hc50:=of_decide_eq_false hc50
       refine G6 (A8 ?_)
       refine A8 (C7 ?_)
       refine A0 (A2 ?_)
       refine A7 (j:=4) [0,0,0,0] (k:=G4 (ch:=[]) (b:=x) (off:=4) (v:=.slice ra rs.length rc) (j:=0) ([(x,.cells #[.int .i64 ((M5 Mr ls nn).room),.slice sr2.ba sr2.bn sr2.bc,.slice sr2.na sr2.nn sr2.nc,.slice sr2.ka sr2.kn sr2.kc,.slice ra rs.length rc,.bool ((M5 Mr ls nn).fails),.bool ((M5 Mr ls nn).once),.int .i64 ((M5 Mr ls nn).calls)] 106 (0,0))]::sr2.bg::sr2.cg::gr::(sr2.Z++H)) (hoff:=Nat.le_of_ble_eq_true rfl) (hfz:=(fun _ _=>F0)) (k:=?_))
       refine C4 [] [0,1,4] (k:=D5 ?_)
       refine E0 (H':=([(x,.cells #[.int .i64 ((M5 Mr ls nn).room),.slice sr2.ba sr2.bn sr2.bc,.slice sr2.na sr2.nn sr2.nc,.slice sr2.ka sr2.kn sr2.kc,.slice ra rs.length rc,.bool ((M5 Mr ls nn).fails),.bool ((M5 Mr ls nn).once),.int .i64 ((M5 Mr ls nn).calls)] 106 (0,0))]::sr2.bg::gr::(sr2.Z++H))) (fun w h=>(h.erase 2)) (N_heq (H':=([(x,.cells #[.int .i64 ((M5 Mr ls nn).room),.slice sr2.ba sr2.bn sr2.bc,.slice sr2.na sr2.nn sr2.nc,.slice sr2.ka sr2.kn sr2.kc,.slice ra rs.length rc,.bool ((M5 Mr ls nn).fails),.bool ((M5 Mr ls nn).once),.int .i64 ((M5 Mr ls nn).calls)] 106 (0,0))]::sr2.bg::gr::(sr2.Z++H))) rfl ?_)
       refine E5 (s':=({ sr2 with cn:=rs.length,ca:=ra,cc:=rc,cg:=gr,cs:=rs },(dropM (M5 Mr ls nn) ls),u2+1)) [0,1,4] kr rfl ⟨(ok_rdrop hsr2 (by rw [hrs,List.take_of_length_le (by omega)]) hO5),(crd_step hcr hmm.1 hmm.2 (by rw [hnn5,hcm]))⟩ (by show (dropM _ _).changes.length<Mr.changes.length; rw [keep_drop]; exact drop_less hmm.1)
  ·
   replace hc33:=of_decide_eq_false hc33
   have h0:Mr.changes=[]:=List.eq_nil_of_length_eq_zero (by omega)
   refine G6 (A8 ?_)
   refine A8 (C7 ?_)
   refine A0 (A1 ?_)
   refine A2 (A7 (j:=1) [0] (k:=?_))
   refine C2 (ch:=[]) (e:=133) (l:=[]) (c:=[]) (k:=(fun b63=>?_))
   refine A7 (j:=5) [0,0,0] (k:=A5 (ch:=[]) (b:=x) (off:=3) (v:=.slice sr.ka sr.kn sr.kc) (hA:=At.grp 1 0 rfl rfl) (k:=?_))
   refine E9 (i:=6) (ch:=[]) (t:=103) (tx:=103) (e:=133) (inf:=Tryz.t133) (s:=.slice (some ⟨b63,0,none⟩) 0 0) (x:=.slice sr.ka sr.kn sr.kc) (n:=0) (m:=sr.kn) (j:=0) (cs:=[]) (news:=(nmC Mr.kept)) (g:=[(b63,.cells #[] 133 (0,0))]) (S:=(inZ sr.Z)) rfl rfl rfl rfl kr kr kr rfl rfl (.inl ⟨133,kr⟩) (fun ⟨_,h⟩=>by cases h) (fun _=>⟨133,kr⟩) kr kr kr rfl (Go.Sw.Own.lit rfl) (SrcOf.slice _ _ _ _ hsr.kept (by first | exact rd_none hsr.kept hsr.kn | exact (fun h=>by cases h))) (fun y o h=>(At.cons (At.cons (At.cons (At.cons (at_inZ h)))))) (by first | rfl | (rw [nmC_len,hsr.kn]; rfl)) (by first | exact nmC_one _ | exact (by intro u hu; simp only [List.mem_cons,List.not_mem_nil,or_false] at hu; rcases hu with rfl | rfl <;> rfl)) (by omega) (by show (0+sr.kn) * 24≤140737488355328; omega) (fun v64 g65 hO66=>?_)
   obtain ⟨a67,cap68,rfl,hcap69,hrd70⟩:=hO66.shape
   refine A7 (j:=9) [0,0] (k:=G4 (ch:=[]) (b:=x) (off:=2) (v:=.slice a67 (0+sr.kn) cap68) (j:=1) (g65::[(x,.cells #[.int .i64 Mr.room,.slice sr.ba sr.bn sr.bc,.slice a67 (0+sr.kn) cap68,.slice sr.ka sr.kn sr.kc,.slice sr.ca sr.cn sr.cc,.bool Mr.fails,.bool Mr.once,.int .i64 Mr.calls] 106 (0,0))]::sr.bg::sr.cg::(sr.Z++H)) (hoff:=Nat.le_of_ble_eq_true rfl) (hfz:=(fun _ _=>F0)) (k:=?_))
   refine D3 (E':=[⟨0,[],pt x⟩]) [] [0] (k:=A0 ?_)
   refine A2 (A7 (j:=3) [0,0,0] (k:=?_))
   refine G4 (ch:=[]) (b:=x) (off:=5) (v:=.bool false) (j:=1) (g65::[(x,.cells #[.int .i64 Mr.room,.slice sr.ba sr.bn sr.bc,.slice a67 (0+sr.kn) cap68,.slice sr.ka sr.kn sr.kc,.slice sr.ca sr.cn sr.cc,.bool false,.bool Mr.once,.int .i64 Mr.calls] 106 (0,0))]::sr.bg::sr.cg::(sr.Z++H)) (hoff:=Nat.le_of_ble_eq_true rfl) (hfz:=(fun _ _=>F0)) (k:=D3 (E':=[]) [] [] (k:=?_))
   refine E0 (H':=([(x,.cells #[.int .i64 Mr.room,.slice sr.ba sr.bn sr.bc,.slice a67 (0+sr.kn) cap68,.slice sr.ka sr.kn sr.kc,.slice sr.ca sr.cn sr.cc,.bool false,.bool Mr.once,.int .i64 Mr.calls] 106 (0,0))]::sr.bg::sr.cg::g65::(sr.Z++H))) (fun w h=>(((h.front (j:=3) rfl).front (j:=3) rfl).front (j:=3) rfl)) (C1 [] [] (k:=?_))
   have e:=crd_end hcr h0
   rw [← e]
   exact ⟨rfl,_,ok_rend hsr (by omega) (D6 hO66),rfl⟩
end Go.Proofs.YtlaoeiaaeifidaaGreat
namespace Go.Sw
open Go.RowKit
theorem Sat.dropMid {W0:World} {K A L:List Grp} {w:World} (h:Sat W0 (K++(A++L)) w):Sat W0 (K++L) w :=
  h.subl (by rw [List.flatten_append,List.flatten_append,List.flatten_append]; exact List.Sublist.append (List.Sublist.refl _) (List.sublist_append_right _ _))
end Go.Sw
namespace Go.Vf
open Go.Sw Go.RowKit Go.Proofs Go.Proofs.YtlaoeiaaeifidaaGreat
theorem front2_to {K A X H:List Grp} {W0:World} {w:World} (hw:Sat W0 (K++(A++(X++H))) w):Sat W0 (X++(K++(A++H))) w:=K6 hw fun _ x=>by
  simp only [List.flatten_append,List.count_append]; omega
theorem front2_of {K A X H:List Grp} {W0:World} {w:World} (hw:Sat W0 (X++(K++(A++H))) w):Sat W0 (K++(A++(X++H))) w:=K6 hw fun _ x=>by
  simp only [List.flatten_append,List.count_append]; omega
theorem is_front2 {f:FuncId} {args:Array Value} {W0:World} {r:RS} {x:Nat} {N N':DM} {v0:Value} {K A H:List Grp} (h:Tri Tryz.prog f args W0 (r.G x N++(K++(A++H))) (IsR x N' v0 (K++(A++H)))) :
    Tri Tryz.prog f args W0 (K++(A++(r.G x N++H))) (fun v H'=>v=v0∧∃ r':RS,r'.ok N'∧H'=K++(A++(r'.G x N'++H))) :=
  Tri.heap (fun _ hw=>front2_to hw) (Tri.post h fun v H1 ⟨hv,s',hs,hH⟩=>⟨_,⟨hv,s',hs,rfl⟩,fun w hw=>by rw [hH] at hw; exact front2_of hw⟩)
end Go.Vf
namespace Go.Jr
open Go.Sw Go.Lib Go.Vf Go.Sha Go.Proofs Go.Proofs.YtlaoeiaaeifidaaGreat
theorem try_one (f:DM→Int × DM) (M:DM):tryM [f] M=((f M).1,(f M).2):=by
  rw [X4]; split
  · rfl
  · rename_i h
    have h0:(f M).1=0:=by simpa using h
    rw [h0]; rfl
theorem try_snoc:∀ (fs:List (DM→Int × DM)) (f:DM→Int × DM) (M:DM),tryM (fs++[f]) M=if ((tryM fs M).1==0)=true then ((f (tryM fs M).2).1,(f (tryM fs M).2).2) else tryM fs M
  | [],f,M=>by
    show tryM [f] M=if ((0:Int)==0)=true then ((f M).1,(f M).2) else (0,M)
    rw [if_pos (by decide),try_one]
  | g::fs,f,M=>by
    rw [List.cons_append,X4,X4,try_snoc fs f]
    by_cases h:((g M).1 != 0)=true
    · rw [if_pos h,if_pos h,if_neg (by simpa using h)]
    · rw [if_neg h,if_neg h]
theorem try_ok1 {fs:List (DM→Int × DM)} (f:DM→Int × DM) {M M2:DM} {e:Int} (h:tryM fs M=(e,M2)) (he:(e==0)=true):tryM (fs++[f]) M=((f M2).1,(f M2).2):=by rw [try_snoc,h,if_pos he]
theorem try_no1 {fs:List (DM→Int × DM)} (f:DM→Int × DM) {M M2:DM} {e:Int} (h:tryM fs M=(e,M2)) (he:(e==0)=false):tryM (fs++[f]) M=(e,M2):=by rw [try_snoc,h,if_neg (by rw [he]; decide)]
theorem addM_down {j:JM} {M:DM} {t:ByteArray} (h1:E8 t=true) (h2:j.down=true):addM j M t=(63,j,M):=by unfold addM; rw [h1,h2]; rfl
theorem addM_err {j:JM} {M M2:DM} {t:ByteArray} {e:Int} (h1:E8 t=true) (h2:j.down=false) (h:tryM (M3 j (B8 t)) M=(e,M2)) (he:(e != 0)=true):addM j M t=(e,failJ j e,M2):=by
  unfold addM; rw [h1,h2,if_neg (by decide),if_neg (by decide)]; simp only [h]; rw [if_pos he]
theorem addM_ok {j:JM} {M M2:DM} {t:ByteArray} {e:Int} (h1:E8 t=true) (h2:j.down=false) (h:tryM (M3 j (B8 t)) M=(e,M2)) (he:(e != 0)=false):addM j M t=(0,{ j with there:=true,L:=j.L++[t],size:=j.size+((B8 t).size:Int) },M2):=by
  unfold addM; rw [h1,h2,if_neg (by decide),if_neg (by decide)]; simp only [h]; rw [if_neg (by rw [he]; decide)]
theorem repM_down {j:JM} {M:DM} {ts:List ByteArray} (h1:ts.any (fun t=>!E8 t)=false) (h2:j.down=true):E3 j M ts=(63,j,M):=by unfold E3; rw [h1,h2]; rfl
theorem repM_err {j:JM} {M M2:DM} {ts:List ByteArray} {e:Int} (h1:ts.any (fun t=>!E8 t)=false) (h2:j.down=false) (h:tryM (E4 j.dir (A4 ts)) M=(e,M2)) (he:(e != 0)=true):E3 j M ts=(e,failJ j e,M2):=by
  unfold E3; rw [h1,h2,if_neg (by decide),if_neg (by decide)]; simp only [h]; rw [if_pos he]
theorem repM_ok {j:JM} {M M2:DM} {ts:List ByteArray} {e:Int} (h1:ts.any (fun t=>!E8 t)=false) (h2:j.down=false) (h:tryM (E4 j.dir (A4 ts)) M=(e,M2)) (he:(e != 0)=false):E3 j M ts=(0,{ j with there:=true,L:=ts,size:=((A4 ts).size:Int) },M2):=by
  unfold E3; rw [h1,h2,if_neg (by decide),if_neg (by decide)]; simp only [h]; rw [if_neg (by rw [he]; decide)]
theorem lit_new (d:ByteArray):d++ByteArray.mk #[47,110,101,119]=B0 d G7:=ext_L (by
  unfold B0; rw [toL,toL,toL,List.append_assoc]; rfl)
theorem T4 (d n:ByteArray):(B0 d n).size=d.size+1+n.size:=by unfold B0; rw [ByteArray.size_append,ByteArray.size_append]; rfl
def yAt (y x:Nat) (j:JM) (la:Option Addr) (lc:Nat):Grp:=[(y,.cells #[pt x,.string j.dir,.slice la j.L.length lc,.bool j.down,.bool j.there] 61 (0,0))]
def YR (res:Int × JM × DM) (y x:Nat) (H:List Grp):Value→List Grp→Prop:=fun v H' =>
  ∃ (la:Option Addr) (lc:Nat) (lg:Grp) (r:RS),v=.int .i64 res.1∧JOwn res.2.1 la lc lg∧r.ok res.2.2∧H'=yAt y x res.2.1 la lc::lg::(r.G x res.2.2++H)
theorem frontR_to {K X H:List Grp} {W0:World} {w:World} (hw:Sat W0 (K++(X++H)) w):Sat W0 (X++(K++H)) w:=K6 hw fun _ x=>by
  simp only [List.flatten_append,List.count_append]; omega
theorem R7 {f:FuncId} {args:Array Value} {W0:World} {r:RS} {x:Nat} {N N':DM} {v0:Value} {K H:List Grp} (h:Tri Tryz.prog f args W0 (r.G x N++(K++H)) (IsR x N' v0 (K++H))) :
    Tri Tryz.prog f args W0 (K++(r.G x N++H)) (fun v H'=>v=v0∧∃ r':RS,r'.ok N'∧H'=K++(r'.G x N'++H)) :=
  Tri.heap (fun _ hw=>frontR_to hw) (Tri.post h fun v H1 ⟨hv,s',hs,hH⟩=>⟨_,⟨hv,s',hs,rfl⟩,fun w hw=>by rw [hH] at hw; exact frontR_to hw⟩)
theorem is_frontRq {f:FuncId} {args:Array Value} {W0:World} {r:RS} {x:Nat} {N:DM} {v0:Value} {K H:List Grp} (h:Tri Tryz.prog f args W0 (r.G x N++(K++H)) (fun v H'=>v=v0∧H'=r.G x N++(K++H))) :
    Tri Tryz.prog f args W0 (K++(r.G x N++H)) (fun v H'=>v=v0∧H'=K++(r.G x N++H)) :=
  Tri.heap (fun _ hw=>frontR_to hw) (Tri.post h fun v H1 ⟨hv,hH⟩=>⟨_,⟨hv,rfl⟩,fun w hw=>by rw [hH] at hw; exact frontR_to hw⟩)
theorem yNew (room:Int) (K A:List Grp) (W0:World) (H:List Grp):Tri Tryz.prog 19 #[.int .i64 room] W0 (K++(A++H)) (fun v H'=>∃ x,v=pt x∧∃ r:RS,r.ok (newM room)∧H'=K++(A++(r.G x (newM room)++H))) :=
  Tri.post (rNew room W0 (K++(A++H))) fun v H1 ⟨x,hv,r,hr,hH⟩=>⟨_,⟨x,hv,r,hr,rfl⟩,fun w hw=>by rw [hH] at hw; exact front2_of hw⟩
theorem at_skip {W0:World} {g lg:Grp} {X H:List Grp} {b:Nat} {o:Obj} (h:At W0 (lg::H) b o):At W0 (g::lg::(X++H)) b o:=by
  rcases h with h | h
  · exact .inl h
  · refine .inr ?_
    simp only [List.flatten_cons,List.flatten_append,List.mem_append] at h ⊢
    rcases h with h | h
    · exact .inr (.inl h)
    · exact .inr (.inr (.inr h))
theorem N4 {z w i:Nat} {M:DM} (h:ScrI z w i M) (hz:z≤10000000) (hw:w≤10000) (hi:i≤10000):V3 M:=ScrI.small h hz hw hi
theorem front3_to {y lg:Grp} {K A X H:List Grp} {W0:World} {w:World} (hw:Sat W0 (y::lg::(K++(A++(X++H)))) w):Sat W0 (y::lg::(X++(K++(A++H)))) w:=K6 hw fun _ x=>by
  simp only [List.flatten_cons,List.flatten_append,List.count_append]; omega
theorem front3_of {y lg:Grp} {K A X H:List Grp} {W0:World} {w:World} (hw:Sat W0 (y::lg::(X++(K++(A++H)))) w):Sat W0 (y::lg::(K++(A++(X++H)))) w:=K6 hw fun _ x=>by
  simp only [List.flatten_cons,List.flatten_append,List.count_append]; omega
end Go.Jr
namespace Go.Sha
open Go.Sw
def U (x:Int):Prop:=0≤x∧x<4294967296
abbrev bv (x:Int):BitVec 32:=BitVec.ofInt 32 x
theorem w32_id {x:Int} (h:U x):w32 x=x:=by
  obtain ⟨h0,h1⟩:=h
  show IntKind.wrap .u32 x=x
  simp only [IntKind.wrap,IntKind.bits,IntKind.signed]
  simp only [show (2:Int) ^ 32=4294967296 from by decide]
  simp; omega
theorem U_bv (v:BitVec 32):U (v.toNat:Int):=⟨Int.natCast_nonneg _,by have:=v.isLt; omega⟩
theorem bv_nat (v:BitVec 32):bv (v.toNat:Int)=v:=by
  apply BitVec.eq_of_toNat_eq
  rw [BitVec.toNat_ofInt]
  have:=v.isLt
  omega
theorem xor32_eq (a b:Int):xor32 a b=((bv a ^^^ bv b).toNat:Int):=w32_id (U_bv _)
theorem or32_eq (a b:Int):or32 a b=((bv a ||| bv b).toNat:Int):=w32_id (U_bv _)
theorem and32_eq (a b:Int):and32 a b=((bv a &&& bv b).toNat:Int):=w32_id (U_bv _)
theorem not32_eq (a:Int):not32 a=((~~~ bv a).toNat:Int):=by
  have:(BitVec.ofInt (IntKind.bits .u32) 4294967295 ^^^ BitVec.ofInt (IntKind.bits .u32) a) = ~~~ bv a:=by
    show BitVec.ofInt 32 4294967295 ^^^ bv a = ~~~ bv a
    rw [show BitVec.ofInt 32 4294967295=BitVec.allOnes 32 from by decide]
    exact BitVec.allOnes_xor
  unfold not32
  rw [this]
  exact w32_id (U_bv _)
theorem bv_xor (a b:Int):bv (xor32 a b)=bv a ^^^ bv b:=by rw [xor32_eq,bv_nat]
theorem bv_or (a b:Int):bv (or32 a b)=bv a ||| bv b:=by rw [or32_eq,bv_nat]
theorem bv_and (a b:Int):bv (and32 a b)=bv a &&& bv b:=by rw [and32_eq,bv_nat]
theorem bv_not (a:Int):bv (not32 a) = ~~~ bv a:=by rw [not32_eq,bv_nat]
theorem U_w32 (x:Int):U (w32 x):=by
  show 0≤IntKind.wrap .u32 x∧IntKind.wrap .u32 x<4294967296
  simp only [IntKind.wrap,IntKind.bits,IntKind.signed,show (2:Int) ^ 32=4294967296 from by decide]
  simp; omega
theorem not_sub {e:Int} (h:U e):w32 (4294967295 - e)=not32 e:=by
  have h2:U (4294967295 - e):=⟨by have:=h.2; omega,by have:=h.1; omega⟩
  rw [w32_id h2,not32_eq,BitVec.toNat_not,BitVec.toNat_ofInt]
  have h3:=h.1; have h4:=h.2
  have e1:((e % ((2 ^ 32:Nat):Int)).toNat:Int)=e:=by
    rw [show ((2 ^ 32:Nat):Int)=4294967296 from by decide]; omega
  have e2:(e % ((2 ^ 32:Nat):Int)).toNat<4294967296:=by omega
  have e3:(2 ^ 32:Nat)=4294967296:=by decide
  rw [e3] at *
  omega
def chR (e f g:Int):Int:=or32 (and32 e f) (and32 (w32 (4294967295 - e)) g)
def majR (a b c:Int):Int:=or32 (or32 (and32 a b) (and32 a c)) (and32 b c)
theorem chR_eq {e:Int} (h:U e) (f g:Int):chR e f g=chP e f g:=by
  unfold chR chP
  rw [not_sub h,or32_eq,xor32_eq,bv_and,bv_and,bv_not]
  congr 2
  apply BitVec.eq_of_getLsbD_eq
  intro i hi
  simp only [BitVec.getLsbD_or,BitVec.getLsbD_xor,BitVec.getLsbD_and,BitVec.getLsbD_not]
  cases (bv e).getLsbD i <;> cases (bv f).getLsbD i <;> cases (bv g).getLsbD i <;> simp
theorem majR_eq (a b c:Int):majR a b c=majP a b c:=by
  unfold majR majP
  rw [or32_eq,xor32_eq,bv_or,bv_xor,bv_and,bv_and,bv_and]
  congr 2
  apply BitVec.eq_of_getLsbD_eq
  intro i hi
  simp only [BitVec.getLsbD_or,BitVec.getLsbD_xor,BitVec.getLsbD_and]
  cases (bv a).getLsbD i <;> cases (bv b).getLsbD i <;> cases (bv c).getLsbD i <;> rfl
theorem or32_comm (a b:Int):or32 a b=or32 b a:=by rw [or32_eq,or32_eq,BitVec.or_comm]
def rotR (x:Int) (n:Nat):Int:=or32 (Int.fdiv x (2 ^ n)) (w32 (x * 2 ^ (32 - n)))
theorem Y9 (x:Int) (n:Nat):rotR x n=V8 x n:=or32_comm _ _
theorem or_add {a b i:Nat} (hb:b<2 ^ i) (h:a * 2 ^ i+b<4294967296):or32 ((a * 2 ^ i:Nat):Int) (b:Int)=((a * 2 ^ i+b:Nat):Int):=by
  rw [or32_eq,BitVec.toNat_or,BitVec.toNat_ofInt,BitVec.toNat_ofInt]
  have e1:((((a * 2 ^ i:Nat):Int) % ((2 ^ 32:Nat):Int)).toNat)=a * 2 ^ i:=by
    have:a * 2 ^ i<4294967296:=by omega
    rw [show ((2 ^ 32:Nat):Int)=4294967296 from by decide]; omega
  have e2:(((b:Int) % ((2 ^ 32:Nat):Int)).toNat)=b:=by
    rw [show ((2 ^ 32:Nat):Int)=4294967296 from by decide]; omega
  rw [e1,e2,← Nat.shiftLeft_eq,← Nat.shiftLeft_add_eq_or_of_lt hb]
def wordR (a b c d:Int):Int:=w32 (w32 (w32 (w32 (w32 a * 16777216)+w32 (w32 b * 65536))+w32 (w32 c * 256))+w32 d)
theorem word_eq {a b c d:Nat} (ha:a<256) (hb:b<256) (hc:c<256) (hd:d<256):wordR a b c d=wordP a b c d:=by
  have i1:∀ {x:Int},0≤x→x<4294967296→w32 x=x:=fun h0 h1=>w32_id ⟨h0,h1⟩
  unfold wordR wordP
  rw [show ((2:Int) ^ 24)=16777216 from by decide,show ((2:Int) ^ 16)=65536 from by decide,show ((2:Int) ^ 8)=256 from by decide]
  rw [i1 (x:=(a:Int)) (by omega) (by omega),i1 (x:=(b:Int)) (by omega) (by omega),i1 (x:=(c:Int)) (by omega) (by omega),i1 (x:=(d:Int)) (by omega) (by omega)]
  rw [i1 (x:=(a:Int) * 16777216) (by omega) (by omega),i1 (x:=(b:Int) * 65536) (by omega) (by omega),i1 (x:=(c:Int) * 256) (by omega) (by omega)]
  rw [i1 (x:=(a:Int) * 16777216+(b:Int) * 65536) (by omega) (by omega),i1 (x:=(a:Int) * 16777216+(b:Int) * 65536+(c:Int) * 256) (by omega) (by omega),i1 (x:=(a:Int) * 16777216+(b:Int) * 65536+(c:Int) * 256+(d:Int)) (by omega) (by omega)]
  have h1:=or_add (a:=a) (b:=b * 65536) (i:=24) (by omega) (by omega)
  have h2:=or_add (a:=a * 256+b) (b:=c * 256) (i:=16) (by omega) (by omega)
  have h3:=or_add (a:=a * 65536+b * 256+c) (b:=d) (i:=8) (by omega) (by omega)
  rw [show ((a:Int) * 16777216)=((a * 2 ^ 24:Nat):Int) by omega,show ((b:Int) * 65536)=((b * 65536:Nat):Int) by omega,h1]
  rw [show ((a * 2 ^ 24+b * 65536:Nat):Int)=(((a * 256+b) * 2 ^ 16:Nat):Int) by omega,show ((c:Int) * 256)=((c * 256:Nat):Int) by omega,h2]
  rw [show (((a * 256+b) * 2 ^ 16+c * 256:Nat):Int)=(((a * 65536+b * 256+c) * 2 ^ 8:Nat):Int) by omega,h3]
  omega
end Go.Sha
namespace Go.Sw
theorem GL_shl {d:Bool} {P:Program} {ops:Array Oper} {i:Nat} {Q:G3} {n:Fr} {E:Env} {W0:World} {H:List Grp} {o:Oper} {ch:List (Nat × Bool)} {t ty:TypeId} {x y:Operand} {kd ky:IntKind} {a b:Int}
    (ho:ops[i]? = some o) (hop:o.op=.binOp .shl t x y ty) (hx:evO E ch x=some (.int kd a)) (hy:evO E ch y=some (.int ky b))
    (hch:F3 ops E o.guard=some ch) (hd:H7 n ch o.dst=true) (hk:K3 E ch=true) (hb:0≤b)
    (k:GL d P ops (i+1) Q n (Env.put E o.dst ch (.int kd (kd.wrap (a * 2 ^ (min b.toNat kd.bits))))) W0 H):GL d P ops i Q n E W0 H:=by
  refine J2 ho hch hd hk (fun r hr _ w _=>?_) k
  unfold execOp
  simp only [hop]
  rw [hr _ _ hx,hr _ _ hy]
  have hg:(eqGuard .shl t x y (.int kd a) (.int ky b)).run P w=.ok () w:=rfl
  have hs:(binOp .shl t (.int kd a) (.int ky b)).run P w=.ok (.int kd (kd.wrap (a * 2 ^ (min b.toNat kd.bits)))) w:=by
    simp only [binOp,Op.shift,if_neg (show ¬ b<0 by omega)]; rfl
  simp only [Sem.run_bind,hg,hs,Result.andThen_ok]
  exact ⟨rfl,rfl⟩
theorem GL_shr {d:Bool} {P:Program} {ops:Array Oper} {i:Nat} {Q:G3} {n:Fr} {E:Env} {W0:World} {H:List Grp} {o:Oper} {ch:List (Nat × Bool)} {t ty:TypeId} {x y:Operand} {kd ky:IntKind} {a b:Int}
    (ho:ops[i]? = some o) (hop:o.op=.binOp .shr t x y ty) (hx:evO E ch x=some (.int kd a)) (hy:evO E ch y=some (.int ky b))
    (hch:F3 ops E o.guard=some ch) (hd:H7 n ch o.dst=true) (hk:K3 E ch=true) (hb:0≤b)
    (k:GL d P ops (i+1) Q n (Env.put E o.dst ch (.int kd (a.fdiv (2 ^ (min b.toNat kd.bits))))) W0 H):GL d P ops i Q n E W0 H:=by
  refine J2 ho hch hd hk (fun r hr _ w _=>?_) k
  unfold execOp
  simp only [hop]
  rw [hr _ _ hx,hr _ _ hy]
  have hg:(eqGuard .shr t x y (.int kd a) (.int ky b)).run P w=.ok () w:=rfl
  have hs:(binOp .shr t (.int kd a) (.int ky b)).run P w=.ok (.int kd (a.fdiv (2 ^ (min b.toNat kd.bits)))) w:=by
    simp only [binOp,Op.shift,if_neg (show ¬ b<0 by omega)]; rfl
  simp only [Sem.run_bind,hg,hs,Result.andThen_ok]
  exact ⟨rfl,rfl⟩
end Go.Sw
namespace Go.Sha
open Go.Sw
def prU:Nat→List Nat
  | 0=>[]
  | i+1=>if (prU i).all (fun q=>(i+2) % q != 0) then prU i++[i+2] else prU i
theorem pr_yes {i:Nat} (h:(prU i).all (fun q=>(i+2) % q != 0)=true):prU (i+1)=prU i++[i+2]:=by rw [prU,if_pos h]
theorem pr_no {i:Nat} (h:(prU i).all (fun q=>(i+2) % q != 0)=false):prU (i+1)=prU i:=by rw [prU,if_neg (by rw [h]; decide)]
theorem pr_pre:∀ (i j:Nat),∃ r,prU (i+j)=prU i++r
  | i,0=>⟨[],by simp⟩
  | i,j+1=>by
    obtain ⟨r,hr⟩:=pr_pre i j
    show ∃ r,prU ((i+j)+1)=_
    rw [prU]
    split
    · exact ⟨r++[i+j+2],by rw [hr,List.append_assoc]⟩
    · exact ⟨r,hr⟩
theorem pr_all:∀ (i:Nat),∀ q∈prU i,2≤q∧q≤i+1
  | 0=>fun _ h=>absurd h List.not_mem_nil
  | i+1=>fun q hq=>by
    rw [prU] at hq
    split at hq
    · rcases List.mem_append.1 hq with hq | hq
      · have:=pr_all i q hq; omega
      · rw [List.mem_singleton.1 hq]; omega
    · have:=pr_all i q hq; omega
def pList:List Nat:=[2,3,5,7,11,13,17,19,23,29,31,37,41,43,47,53,59,61,67,71,73,79,83,89,97,101,103,107,109,113,127,131,137,139,149,151,157,163,167,173,179,181,191,193,197,199,211,223,227,229,233,239,241,251,257,263,269,271,277,281,283,293,307,311]
theorem pr_310:prU 310=pList:=by decide +kernel
theorem pr_lt {i:Nat} (h:(prU i).length<64):i<310:=by
  rcases Nat.lt_or_ge i 310 with h' | h'
  · exact h'
  · obtain ⟨r,hr⟩:=pr_pre 310 (i - 310)
    rw [show 310+(i - 310)=i by omega,pr_310] at hr
    rw [hr,List.length_append] at h
    have:pList.length=64:=rfl
    omega
theorem pr_take {i n:Nat} (hi:i≤310) (h:(prU i).length=n):prU i=pList.take n:=by
  obtain ⟨r,hr⟩:=pr_pre i (310 - i)
  rw [show i+(310 - i)=310 by omega,pr_310] at hr
  rw [hr,← h,List.take_left]
abbrev wU (x:Int):Int:=IntKind.wrap .u64 x
def tA0 (a:Int):Int:=Int.tmod a 4294967296
def tA1 (a:Int):Int:=wU (Int.tdiv a 4294967296)
def tLow (a b:Int):Int:=wU (tA0 a * tA0 b)
def tMid (a b:Int):Int:=wU (wU (tA1 a * tA0 b)+wU (Int.tdiv (tLow a b) 4294967296))
def tMid2 (a b:Int):Int:=wU (wU (tA0 a * tA1 b)+Int.tmod (tMid a b) 4294967296)
def tHi (a b:Int):Int:=wU (wU (wU (tA1 a * tA1 b)+wU (Int.tdiv (tMid a b) 4294967296))+wU (Int.tdiv (tMid2 a b) 4294967296))
def tLo (a b:Int):Int:=wU (wU (tMid2 a b * 4294967296)+Int.tmod (tLow a b) 4294967296)
def sB (j:Nat):Int:=IntKind.wrap .u64 (1 * 2 ^ (min (Int.toNat (IntKind.wrap .u64 (35 - (j:Int)))) (IntKind.bits .u64)))
def rY (x:Int) (j:Nat):Int:=wU (x+sB j)
def c2 (p y:Int):Bool:=decide (tHi y y<p)||((tHi y y==p)&&(tLo y y==0))
def rt2 (p:Int):Nat→Int
  | 0=>0
  | j+1=>if c2 p (rY (rt2 p j) j) then rY (rt2 p j) j else rt2 p j
def top3 (y:Int):Int:=wU (tLo (tHi y y) y+tHi (tLo y y) y)
def c3 (p y:Int):Bool:=decide (top3 y<wU (p * 4294967296))||((top3 y==wU (p * 4294967296))&&(tLo (tLo y y) y==0))
def rt3 (p:Int):Nat→Int
  | 0=>0
  | j+1=>if c3 p (rY (rt3 p j) j) then rY (rt3 p j) j else rt3 p j
def r2 (p:Int):Int:=IntKind.wrap .u32 (Int.tmod (rt2 p 36) 4294967296)
def r3 (p:Int):Int:=IntKind.wrap .u32 (Int.tmod (rt3 p 36) 4294967296)
theorem rt2_yes {p:Int} {j:Nat} (h:c2 p (rY (rt2 p j) j)=true):rt2 p (j+1)=rY (rt2 p j) j:=by rw [rt2,if_pos h]
theorem rt2_no {p:Int} {j:Nat} (h:c2 p (rY (rt2 p j) j)=false):rt2 p (j+1)=rt2 p j:=by rw [rt2,if_neg (by rw [h]; decide)]
theorem rt3_yes {p:Int} {j:Nat} (h:c3 p (rY (rt3 p j) j)=true):rt3 p (j+1)=rY (rt3 p j) j:=by rw [rt3,if_pos h]
theorem rt3_no {p:Int} {j:Nat} (h:c3 p (rY (rt3 p j) j)=false):rt3 p (j+1)=rt3 p j:=by rw [rt3,if_neg (by rw [h]; decide)]
def hTab:List Int:=[1779033703,3144134277,1013904242,2773480762,1359893119,2600822924,528734635,1541459225]
theorem tab2:(pList.take 8).map (fun q:Nat=>r2 (q:Int))=hTab:=by decide +kernel
theorem tab3:(pList.take 64).map (fun q:Nat=>r3 (q:Int))=kTab:=by decide +kernel
end Go.Sha
namespace Go.Proofs.YtlaoeiaaeifidaaGreat
open Go.Sw Go.Sha
def u64s (l:List Nat):List Value:=l.map fun q:Nat=>Value.int .u64 (q:Int)
theorem u64s_at {l:List Nat} {k q:Nat} (hq:q=k) (h:k<l.length):(u64s l)[q]? = some (.int .u64 ((l.getD k 0:Nat):Int)):=by
  subst hq; simp [u64s,List.getD,h]
theorem u64s_len (l:List Nat):(u64s l).length=l.length:=by simp [u64s]
theorem u64_one {n:Int}:∀ u∈[Value.int .u64 n],u.oneCell'=true:=fun u hu=>by rw [List.mem_singleton.1 hu]; rfl
theorem u32_one {n:Int}:∀ u∈[Value.int .u32 n],u.oneCell'=true:=fun u hu=>by rw [List.mem_singleton.1 hu]; rfl
theorem wU_id {x:Int} (h0:0≤x) (h1:x<18446744073709551616):IntKind.wrap .u64 x=x:=by
  simp only [IntKind.wrap,IntKind.bits,IntKind.signed,show (2:Int) ^ 64=18446744073709551616 from by decide]
  simp; omega
theorem u64_ne {l:List Nat} {k:Nat} (h:k<l.length):u64s l≠[]:=fun e=>by
  have:=congrArg List.length e; rw [u64s_len] at this; simp at this; subst this; exact absurd h (Nat.not_lt_zero _)
theorem getD_mem {l:List Nat} {k:Nat} (h:k<l.length):l.getD k 0∈l:=by rw [List.getD,List.getElem?_eq_getElem h]; exact List.getElem_mem h
theorem all_take {l:List Nat} {k p:Nat} (h:k<l.length) (hq:2≤l.getD k 0):((l.take (k+1)).all fun q=>p % q != 0)=(((l.take k).all fun q=>p % q != 0)&&(Int.tmod (p:Int) ((l.getD k 0:Nat):Int) != 0)):=by
  rw [List.take_add_one,List.getElem?_eq_getElem h,List.all_append]
  have e:l.getD k 0=l[k]:=by rw [List.getD,List.getElem?_eq_getElem h]; rfl
  rw [e]
  congr 1
  show ((p % l[k] != 0)&&true)=_
  rw [Bool.and_true,show Int.tmod (p:Int) ((l[k]:Nat):Int)=((p % l[k]:Nat):Int) from rfl]
  rw [Bool.eq_iff_iff]
  simp only [bne_iff_ne,ne_eq]
  omega
theorem own_u64 {ty:TypeId} {a:Option Addr} {c:Nat} {g:Grp} {l:List Nat} {x:Nat} {y:Int} (h:Go.Sw.Own ty 1 (.slice a (l.length+1) c) g (l.length+1) (u64s l++[.int .u64 y])) (hy:y=(x:Int)):Go.Sw.Own ty 1 (.slice a (l++[x]).length c) g (l++[x]).length (u64s (l++[x])):=by
  have e1:u64s (l++[x])=u64s l++[.int .u64 (x:Int)]:=by simp [u64s]
  rw [e1,List.length_append,← hy]; exact h
theorem own_eqL {ty:TypeId} {a:Option Addr} {c:Nat} {g:Grp} {l l':List Nat} (h:Go.Sw.Own ty 1 (.slice a l.length c) g l.length (u64s l)) (e:l=l'):Go.Sw.Own ty 1 (.slice a l'.length c) g l'.length (u64s l'):=by subst e; exact h
theorem turn7 (x:Int) (W0:World) (H:List Grp):Tri Tryz.prog 101 #[.int .u32 x,.int .u64 7] W0 H (fun v H'=>v=.int .u32 (V8 x 7)∧H'=H):=by
 refine C8 (args:=[.int .u32 x,.int .u64 7]) (n:=13) Tryz.func101 rfl rfl (Nat.le_of_ble_eq_true rfl) ?_
 refine A1 (G_p [0] [0,1] (k:=?_))
 refine A0 (A1 ?_)
 refine G_p [0,0,0,0,0,0,0,0,0] [4] (k:=A0 ?_)
 refine C3 (C1 [.tmp 4] [.int .u32 (IntKind.wrap .u32 ((BitVec.ofInt (IntKind.bits .u32) (Int.fdiv x (2 ^ 7)) ||| BitVec.ofInt (IntKind.bits .u32) (IntKind.wrap .u32 (x * 2 ^ 25))).toNat))] (k:=?_))
 exact ⟨by rw [← Y9]; rfl,rfl⟩
theorem turn18 (x:Int) (W0:World) (H:List Grp):Tri Tryz.prog 101 #[.int .u32 x,.int .u64 18] W0 H (fun v H'=>v=.int .u32 (V8 x 18)∧H'=H):=by
 refine C8 (args:=[.int .u32 x,.int .u64 18]) (n:=13) Tryz.func101 rfl rfl (Nat.le_of_ble_eq_true rfl) ?_
 refine A1 (G_p [0] [0,1] (k:=?_))
 refine A0 (A1 ?_)
 refine G_p [0,0,0,0,0,0,0,0,0] [4] (k:=A0 ?_)
 refine C3 (C1 [.tmp 4] [.int .u32 (IntKind.wrap .u32 ((BitVec.ofInt (IntKind.bits .u32) (Int.fdiv x (2 ^ 18)) ||| BitVec.ofInt (IntKind.bits .u32) (IntKind.wrap .u32 (x * 2 ^ 14))).toNat))] (k:=?_))
 exact ⟨by rw [← Y9]; rfl,rfl⟩
theorem turn17 (x:Int) (W0:World) (H:List Grp):Tri Tryz.prog 101 #[.int .u32 x,.int .u64 17] W0 H (fun v H'=>v=.int .u32 (V8 x 17)∧H'=H):=by
 refine C8 (args:=[.int .u32 x,.int .u64 17]) (n:=13) Tryz.func101 rfl rfl (Nat.le_of_ble_eq_true rfl) ?_
 refine A1 (G_p [0] [0,1] (k:=?_))
 refine A0 (A1 ?_)
 refine G_p [0,0,0,0,0,0,0,0,0] [4] (k:=A0 ?_)
 refine C3 (C1 [.tmp 4] [.int .u32 (IntKind.wrap .u32 ((BitVec.ofInt (IntKind.bits .u32) (Int.fdiv x (2 ^ 17)) ||| BitVec.ofInt (IntKind.bits .u32) (IntKind.wrap .u32 (x * 2 ^ 15))).toNat))] (k:=?_))
 exact ⟨by rw [← Y9]; rfl,rfl⟩
theorem turn19 (x:Int) (W0:World) (H:List Grp):Tri Tryz.prog 101 #[.int .u32 x,.int .u64 19] W0 H (fun v H'=>v=.int .u32 (V8 x 19)∧H'=H):=by
 refine C8 (args:=[.int .u32 x,.int .u64 19]) (n:=13) Tryz.func101 rfl rfl (Nat.le_of_ble_eq_true rfl) ?_
 refine A1 (G_p [0] [0,1] (k:=?_))
 refine A0 (A1 ?_)
 refine G_p [0,0,0,0,0,0,0,0,0] [4] (k:=A0 ?_)
 refine C3 (C1 [.tmp 4] [.int .u32 (IntKind.wrap .u32 ((BitVec.ofInt (IntKind.bits .u32) (Int.fdiv x (2 ^ 19)) ||| BitVec.ofInt (IntKind.bits .u32) (IntKind.wrap .u32 (x * 2 ^ 13))).toNat))] (k:=?_))
 exact ⟨by rw [← Y9]; rfl,rfl⟩
theorem turn6 (x:Int) (W0:World) (H:List Grp):Tri Tryz.prog 101 #[.int .u32 x,.int .u64 6] W0 H (fun v H'=>v=.int .u32 (V8 x 6)∧H'=H):=by
 refine C8 (args:=[.int .u32 x,.int .u64 6]) (n:=13) Tryz.func101 rfl rfl (Nat.le_of_ble_eq_true rfl) ?_
 refine A1 (G_p [0] [0,1] (k:=?_))
 refine A0 (A1 ?_)
 refine G_p [0,0,0,0,0,0,0,0,0] [4] (k:=A0 ?_)
 refine C3 (C1 [.tmp 4] [.int .u32 (IntKind.wrap .u32 ((BitVec.ofInt (IntKind.bits .u32) (Int.fdiv x (2 ^ 6)) ||| BitVec.ofInt (IntKind.bits .u32) (IntKind.wrap .u32 (x * 2 ^ 26))).toNat))] (k:=?_))
 exact ⟨by rw [← Y9]; rfl,rfl⟩
theorem turn11 (x:Int) (W0:World) (H:List Grp):Tri Tryz.prog 101 #[.int .u32 x,.int .u64 11] W0 H (fun v H'=>v=.int .u32 (V8 x 11)∧H'=H):=by
 refine C8 (args:=[.int .u32 x,.int .u64 11]) (n:=13) Tryz.func101 rfl rfl (Nat.le_of_ble_eq_true rfl) ?_
 refine A1 (G_p [0] [0,1] (k:=?_))
 refine A0 (A1 ?_)
 refine G_p [0,0,0,0,0,0,0,0,0] [4] (k:=A0 ?_)
 refine C3 (C1 [.tmp 4] [.int .u32 (IntKind.wrap .u32 ((BitVec.ofInt (IntKind.bits .u32) (Int.fdiv x (2 ^ 11)) ||| BitVec.ofInt (IntKind.bits .u32) (IntKind.wrap .u32 (x * 2 ^ 21))).toNat))] (k:=?_))
 exact ⟨by rw [← Y9]; rfl,rfl⟩
theorem turn25 (x:Int) (W0:World) (H:List Grp):Tri Tryz.prog 101 #[.int .u32 x,.int .u64 25] W0 H (fun v H'=>v=.int .u32 (V8 x 25)∧H'=H):=by
 refine C8 (args:=[.int .u32 x,.int .u64 25]) (n:=13) Tryz.func101 rfl rfl (Nat.le_of_ble_eq_true rfl) ?_
 refine A1 (G_p [0] [0,1] (k:=?_))
 refine A0 (A1 ?_)
 refine G_p [0,0,0,0,0,0,0,0,0] [4] (k:=A0 ?_)
 refine C3 (C1 [.tmp 4] [.int .u32 (IntKind.wrap .u32 ((BitVec.ofInt (IntKind.bits .u32) (Int.fdiv x (2 ^ 25)) ||| BitVec.ofInt (IntKind.bits .u32) (IntKind.wrap .u32 (x * 2 ^ 7))).toNat))] (k:=?_))
 exact ⟨by rw [← Y9]; rfl,rfl⟩
theorem turn2 (x:Int) (W0:World) (H:List Grp):Tri Tryz.prog 101 #[.int .u32 x,.int .u64 2] W0 H (fun v H'=>v=.int .u32 (V8 x 2)∧H'=H):=by
 refine C8 (args:=[.int .u32 x,.int .u64 2]) (n:=13) Tryz.func101 rfl rfl (Nat.le_of_ble_eq_true rfl) ?_
 refine A1 (G_p [0] [0,1] (k:=?_))
 refine A0 (A1 ?_)
 refine G_p [0,0,0,0,0,0,0,0,0] [4] (k:=A0 ?_)
 refine C3 (C1 [.tmp 4] [.int .u32 (IntKind.wrap .u32 ((BitVec.ofInt (IntKind.bits .u32) (Int.fdiv x (2 ^ 2)) ||| BitVec.ofInt (IntKind.bits .u32) (IntKind.wrap .u32 (x * 2 ^ 30))).toNat))] (k:=?_))
 exact ⟨by rw [← Y9]; rfl,rfl⟩
theorem turn13 (x:Int) (W0:World) (H:List Grp):Tri Tryz.prog 101 #[.int .u32 x,.int .u64 13] W0 H (fun v H'=>v=.int .u32 (V8 x 13)∧H'=H):=by
 refine C8 (args:=[.int .u32 x,.int .u64 13]) (n:=13) Tryz.func101 rfl rfl (Nat.le_of_ble_eq_true rfl) ?_
 refine A1 (G_p [0] [0,1] (k:=?_))
 refine A0 (A1 ?_)
 refine G_p [0,0,0,0,0,0,0,0,0] [4] (k:=A0 ?_)
 refine C3 (C1 [.tmp 4] [.int .u32 (IntKind.wrap .u32 ((BitVec.ofInt (IntKind.bits .u32) (Int.fdiv x (2 ^ 13)) ||| BitVec.ofInt (IntKind.bits .u32) (IntKind.wrap .u32 (x * 2 ^ 19))).toNat))] (k:=?_))
 exact ⟨by rw [← Y9]; rfl,rfl⟩
theorem turn22 (x:Int) (W0:World) (H:List Grp):Tri Tryz.prog 101 #[.int .u32 x,.int .u64 22] W0 H (fun v H'=>v=.int .u32 (V8 x 22)∧H'=H):=by
 refine C8 (args:=[.int .u32 x,.int .u64 22]) (n:=13) Tryz.func101 rfl rfl (Nat.le_of_ble_eq_true rfl) ?_
 refine A1 (G_p [0] [0,1] (k:=?_))
 refine A0 (A1 ?_)
 refine G_p [0,0,0,0,0,0,0,0,0] [4] (k:=A0 ?_)
 refine C3 (C1 [.tmp 4] [.int .u32 (IntKind.wrap .u32 ((BitVec.ofInt (IntKind.bits .u32) (Int.fdiv x (2 ^ 22)) ||| BitVec.ofInt (IntKind.bits .u32) (IntKind.wrap .u32 (x * 2 ^ 10))).toNat))] (k:=?_))
 exact ⟨by rw [← Y9]; rfl,rfl⟩
theorem primes_ (n:Nat) (hn:n≤64) (W0:World) (H:List Grp):Tri Tryz.prog 121 #[.int .i64 ((n:Nat):Int)] W0 H (fun v H'=>∃ a c g,v=.slice a n c∧Go.Sw.Own 163 1 (.slice a n c) g n (u64s (pList.take n))∧H'=g::H):=by
 refine C8 (args:=[.int .i64 ((n:Nat):Int)]) (n:=34) Tryz.func121 rfl rfl (Nat.le_of_ble_eq_true rfl) ?_
 refine A1 (B4 (E':=[⟨0,[],.int .i64 ((n:Nat):Int)⟩]) [0] [0] (k:=?_))
 refine A0 (A1 ?_)
 refine G_p [0] [0,3] (k:=A0 ?_)
 refine A1 (A1 ?_)
 refine G_p [0] [0,3,4] (k:=A0 ?_)
 refine C5 (R8 (H':=([]::H)) (fun w h=>Sat.flat h (List.Perm.refl _)) ?_)
 refine I8 (EI:=(fun ξ:Nat × Option Addr × Nat × Grp=>[⟨0,[],.int .i64 ((n:Nat):Int)⟩,⟨3,[],.slice ξ.2.1 ((prU ξ.1).length) ξ.2.2.1⟩,⟨4,[],.int .u64 ((ξ.1+2:Nat):Int)⟩])) (HI:=(fun ξ:Nat × Option Addr × Nat × Grp=>(ξ.2.2.2::H))) (Φ:=(fun ξ:Nat × Option Addr × Nat × Grp=>(ξ.1≤310)∧((prU ξ.1).length≤n)∧(Go.Sw.Own 163 1 (.slice ξ.2.1 (prU ξ.1).length ξ.2.2.1) ξ.2.2.2 (prU ξ.1).length (u64s (prU ξ.1))))) (μ:=(fun ξ:Nat × Option Addr × Nat × Grp=>310 - ξ.1)) (s0:=(0,none,0,[])) [0,3,4] kr rfl ⟨(by omega),(Nat.zero_le _),Go.Sw.Own.nil⟩ ?_
 rintro ⟨i,a,c,g⟩ ⟨hi,hl,ho⟩
 dsimp only at hi hl ho
 refine A1 (A1 ?_)
 refine G_p [0,0,0,0] [0,3,4,11] (k:=A0 ?_)
 refine C6 (b:=decide ((((prU i).length:Nat):Int)<((n:Nat):Int))) kr (fun hc1=>?_) (fun hc1=>?_)
 ·
  have hlt:(prU i).length<n:=by simpa using hc1
  have hi9:=pr_lt (i:=i) (by omega)
  refine B5 (A0 ?_)
  refine A1 (C5 ?_)
  refine A1 (G_p [0] [0,3,4,5] (k:=?_))
  refine A0 (A1 ?_)
  refine A1 (G_p [0,0,0] [0,3,4,5,14,15,16] (k:=?_))
  refine A0 (C5 ?_)
  refine I8 (EI:=(fun ξ:Nat × Bool=>[⟨0,[],.int .i64 ((n:Nat):Int)⟩,⟨3,[],.slice a ((prU i).length) c⟩,⟨4,[],.int .u64 ((i+2:Nat):Int)⟩,⟨5,[],.bool ξ.2⟩,⟨14,[],.slice a ((prU i).length) c⟩,⟨15,[],.int .i64 (((prU i).length:Nat):Int)⟩,⟨16,[],.int .i64 ((ξ.1:Nat):Int)⟩])) (HI:=(fun ξ:Nat × Bool=>(g::H))) (Φ:=(fun ξ:Nat × Bool=>(ξ.1≤(prU i).length)∧(ξ.2=((prU i).take ξ.1).all (fun q=>(i+2) % q != 0)))) (μ:=(fun ξ:Nat × Bool=>(prU i).length - ξ.1)) (s0:=(0,true)) [0,3,4,5,14,15,16] kr rfl ⟨(by omega),rfl⟩ ?_
  rintro ⟨k,b⟩ ⟨hk,hbk⟩
  dsimp only at hk hbk
  refine A1 (G_p [0] [0,3,4,5,14,15,16,17] (k:=?_))
  refine A0 (A1 ?_)
  refine C6 (b:=decide (((k:Nat):Int)<(((prU i).length:Nat):Int))) kr (fun hc2=>?_) (fun hc2=>?_)
  ·
   simp at hc2
   have hq2:=(pr_all i _ (getD_mem hc2)).1
   have hq3:=(pr_all i _ (getD_mem hc2)).2
   refine B5 (A0 ?_)
   refine A1 (C5 ?_)
   refine A1 (A2 ?_)
   refine B7 (ch:=[]) (a:=a) (len:=(prU i).length) (cap:=c) (kd:=.i64) (j:=((k:Nat):Int)) (e:=163) (sz:=1) (S:=(inG g)) (cs:=(u64s (prU i))) (hrd:=D6 ho) (hb:=(fun _=>by exact ⟨by omega,by omega,u64_ne (by omega)⟩)) (k:=D4 (ch:=[]) (a:=a) (q:=k * 1) (S:=(inG g)) (cs:=(u64s (prU i))) (v:=.int .u64 (((prU i).getD k 0:Nat):Int)) (hrd:=D6 ho) (hS:=C9 0 rfl) (hv:=(fun _=>(u64s_at (Nat.mul_one _) (by omega)))) (k:=?_))
   refine C4 [0] [0,3,4,5,7,14,15,16] (k:=A0 ?_)
   refine A2 (A7 (j:=4) [0,0,0,0] (k:=?_))
   refine GL_rem (ch:=[(21,true)]) (kd:=.u64) (a:=((i+2:Nat):Int)) (b:=(((prU i).getD k 0:Nat):Int)) (hb:=(fun _=>by omega)) (k:=C4 [0,6,0] [0,3,4,5,14,15,16] (k:=?_))
   refine D5 (A0 ?_)
   refine A2 (A7 (j:=1) [0] (k:=?_))
   refine F2 27 (((k:Nat):Int)+1) (by omega) (by omega) kr (C4 [0] [0,3,4,5,14,15,16] (k:=?_))
   refine E5 (s':=(k+1,b&&((Int.tmod ((i+2:Nat):Int) (((prU i).getD k 0:Nat):Int)) != 0))) [0,3,4,5,14,15,16] kr rfl ⟨(by dsimp only; omega),(by dsimp only; rw [all_take (by omega) hq2,hbk])⟩ (by dsimp only; omega)
  ·
   simp at hc2
   refine G6 (A8 ?_)
   refine A8 (C7 ?_)
   refine A0 (A1 ?_)
   refine G_p [0] [0,3,4,28] (k:=A0 ?_)
   refine C6 (b:=b) kr (fun hc4=>?_) (fun hc4=>?_)
   ·
    have hb:(prU i).all (fun q=>(i+2) % q != 0)=true:=by (rw [hbk,List.take_of_length_le (by omega)] at hc4; exact hc4)
    refine A2 (A7 (j:=2) [0,0] (k:=?_))
    refine C2 (ch:=[]) (e:=163) (l:=[(0,.int .u64 ((i+2:Nat):Int))]) (c:=[.int .u64 ((i+2:Nat):Int)]) (k:=(fun b5=>?_))
    refine E9 (i:=3) (ch:=[]) (t:=164) (tx:=164) (e:=163) (inf:=Tryz.t163) (s:=.slice a ((prU i).length) c) (x:=.slice (some ⟨b5,0,none⟩) 1 1) (n:=(prU i).length) (m:=1) (j:=1) (cs:=(u64s (prU i))) (news:=[.int .u64 ((i+2:Nat):Int)]) (g:=g) (S:=(inG [(b5,.cells #[.int .u64 ((i+2:Nat):Int)] 163 (0,0))])) rfl rfl rfl rfl kr kr kr rfl rfl (.inl ⟨163,kr⟩) (fun ⟨_,h⟩=>by cases h) (fun _=>⟨163,kr⟩) kr kr kr rfl ho (SrcOf.slice _ _ _ _ Rd.lit (fun h=>by cases h)) (C9 0 rfl) rfl u64_one (by omega) (by show ((prU i).length+1) * 8≤140737488355328; omega) (fun v6 g7 hO8=>?_)
    obtain ⟨a9,cap10,rfl,hcap11,hrd12⟩:=hO8.shape
    refine C4 [0] [0,3,4] (k:=D5 ?_)
    refine A0 (G_p [0,0,0] [0,3,4] (k:=?_))
    refine H8 (E':=[⟨0,[],.int .i64 ((n:Nat):Int)⟩,⟨3,[],.slice a9 ((prU i).length+1) cap10⟩,⟨4,[],.int .u64 (IntKind.wrap .u64 (((i+2:Nat):Int)+1))⟩]) kr (H8 (E':=[⟨0,[],.int .i64 ((n:Nat):Int)⟩,⟨3,[],.slice a9 ((prU (i+1)).length) cap10⟩,⟨4,[],.int .u64 ((i+1+2:Nat):Int)⟩]) (by rw [wU_id (x:=((i+2:Nat):Int)+1) (by omega) (by omega),show ((i+2:Nat):Int)+1=((i+1+2:Nat):Int) by omega,pr_yes hb,List.length_append]; rfl) ?_)
    refine E0 (H':=(g7::H)) (fun w h=>(h.erase 0)) (E5 (s':=(i+1,a9,cap10,g7)) [0,3,4] kr rfl ⟨(by dsimp only; omega),(by dsimp only; rw [pr_yes hb,List.length_append]; show (prU i).length+1≤n; omega),(own_eqL (own_u64 (x:=i+2) hO8 rfl) (pr_yes hb).symm)⟩ (by dsimp only; omega))
   ·
    have hb:(prU i).all (fun q=>(i+2) % q != 0)=false:=by (rw [hbk,List.take_of_length_le (by omega)] at hc4; exact hc4)
    refine B5 (D5 ?_)
    refine A0 (G_p [0,0,0] [0,3,4] (k:=?_))
    refine H8 (E':=[⟨0,[],.int .i64 ((n:Nat):Int)⟩,⟨3,[],.slice a ((prU i).length) c⟩,⟨4,[],.int .u64 (IntKind.wrap .u64 (((i+2:Nat):Int)+1))⟩]) kr (H8 (E':=[⟨0,[],.int .i64 ((n:Nat):Int)⟩,⟨3,[],.slice a ((prU (i+1)).length) c⟩,⟨4,[],.int .u64 ((i+1+2:Nat):Int)⟩]) (by rw [wU_id (x:=((i+2:Nat):Int)+1) (by omega) (by omega),show ((i+2:Nat):Int)+1=((i+1+2:Nat):Int) by omega,pr_no hb]) ?_)
    refine E5 (s':=(i+1,a,c,g)) [0,3,4] kr rfl ⟨(by dsimp only; omega),(by dsimp only; rw [pr_no hb]; exact hl),(own_eqL ho (pr_no hb).symm)⟩ (by dsimp only; omega)
 ·
  have hge:¬ (prU i).length<n:=by simpa using hc1
  refine G6 (A8 ?_)
  refine A8 (C7 ?_)
  refine A0 (A1 ?_)
  refine B4 (E':=[⟨2,[],.slice a ((prU i).length) c⟩]) [0,0] [2] (k:=A0 ?_)
  refine C3 (C1 [.tmp 2] [.slice a ((prU i).length) c] (k:=?_))
  have e9:(prU i).length=n:=by omega
  rw [pr_take hi e9] at ho
  have e8:(pList.take n).length=n:=by rw [← pr_take hi e9]; exact e9
  rw [e8] at ho
  exact ⟨_,_,_,by rw [e9]; rfl,ho,rfl⟩
theorem times_ (a b:Int) (W0:World) (H:List Grp):Tri Tryz.prog 137 #[.int .u64 a,.int .u64 b] W0 H (fun v H'=>v=.tuple #[.int .u64 (tHi a b),.int .u64 (tLo a b)]∧H'=H):=by
 refine C8 (args:=[.int .u64 a,.int .u64 b]) (n:=50) Tryz.func137 rfl rfl (Nat.le_of_ble_eq_true rfl) ?_
 refine A1 (G_p [0,0] [0,1] (k:=?_))
 refine A0 (A1 ?_)
 refine B4 (E':=[⟨1,[],.int .u64 b⟩,⟨6,[],.int .u64 (Int.tmod a 4294967296)⟩,⟨7,[],.int .u64 (IntKind.wrap .u64 (Int.tdiv a 4294967296))⟩]) [0,0,0,0,0,0] [1,6,7] (k:=H8 (E':=[⟨1,[],.int .u64 b⟩,⟨6,[],.int .u64 (tA0 a)⟩,⟨7,[],.int .u64 (tA1 a)⟩]) kr ?_)
 refine A0 (A1 ?_)
 refine B4 (E':=[⟨6,[],.int .u64 (tA0 a)⟩,⟨7,[],.int .u64 (tA1 a)⟩,⟨8,[],.int .u64 (Int.tmod b 4294967296)⟩,⟨9,[],.int .u64 (IntKind.wrap .u64 (Int.tdiv b 4294967296))⟩]) [0,0,0,0,0,0] [6,7,8,9] (k:=H8 (E':=[⟨6,[],.int .u64 (tA0 a)⟩,⟨7,[],.int .u64 (tA1 a)⟩,⟨8,[],.int .u64 (tA0 b)⟩,⟨9,[],.int .u64 (tA1 b)⟩]) kr ?_)
 refine A0 (A1 ?_)
 refine B4 (E':=[⟨6,[],.int .u64 (tA0 a)⟩,⟨7,[],.int .u64 (tA1 a)⟩,⟨8,[],.int .u64 (tA0 b)⟩,⟨9,[],.int .u64 (tA1 b)⟩,⟨10,[],.int .u64 (IntKind.wrap .u64 ((tA0 a) * (tA0 b)))⟩]) [0,0,0,0] [6,7,8,9,10] (k:=H8 (E':=[⟨6,[],.int .u64 (tA0 a)⟩,⟨7,[],.int .u64 (tA1 a)⟩,⟨8,[],.int .u64 (tA0 b)⟩,⟨9,[],.int .u64 (tA1 b)⟩,⟨10,[],.int .u64 (tLow a b)⟩]) kr ?_)
 refine A0 (A1 ?_)
 refine B4 (E':=[⟨6,[],.int .u64 (tA0 a)⟩,⟨7,[],.int .u64 (tA1 a)⟩,⟨9,[],.int .u64 (tA1 b)⟩,⟨10,[],.int .u64 (tLow a b)⟩,⟨11,[],.int .u64 (IntKind.wrap .u64 ((IntKind.wrap .u64 ((tA1 a) * (tA0 b)))+(IntKind.wrap .u64 (Int.tdiv (tLow a b) 4294967296))))⟩]) [0,0,0,0,0,0,0] [6,7,9,10,11] (k:=H8 (E':=[⟨6,[],.int .u64 (tA0 a)⟩,⟨7,[],.int .u64 (tA1 a)⟩,⟨9,[],.int .u64 (tA1 b)⟩,⟨10,[],.int .u64 (tLow a b)⟩,⟨11,[],.int .u64 (tMid a b)⟩]) kr ?_)
 refine A0 (A1 ?_)
 refine B4 (E':=[⟨7,[],.int .u64 (tA1 a)⟩,⟨9,[],.int .u64 (tA1 b)⟩,⟨10,[],.int .u64 (tLow a b)⟩,⟨11,[],.int .u64 (tMid a b)⟩,⟨12,[],.int .u64 (IntKind.wrap .u64 ((IntKind.wrap .u64 ((tA0 a) * (tA1 b)))+(Int.tmod (tMid a b) 4294967296)))⟩]) [0,0,0,0,0,0,0] [7,9,10,11,12] (k:=H8 (E':=[⟨7,[],.int .u64 (tA1 a)⟩,⟨9,[],.int .u64 (tA1 b)⟩,⟨10,[],.int .u64 (tLow a b)⟩,⟨11,[],.int .u64 (tMid a b)⟩,⟨12,[],.int .u64 (tMid2 a b)⟩]) kr ?_)
 refine A0 (A1 ?_)
 refine B4 (E':=[⟨4,[],.int .u64 (IntKind.wrap .u64 ((IntKind.wrap .u64 ((IntKind.wrap .u64 ((tA1 a) * (tA1 b)))+(IntKind.wrap .u64 (Int.tdiv (tMid a b) 4294967296))))+(IntKind.wrap .u64 (Int.tdiv (tMid2 a b) 4294967296))))⟩,⟨5,[],.int .u64 (IntKind.wrap .u64 ((IntKind.wrap .u64 ((tMid2 a b) * 4294967296))+(Int.tmod (tLow a b) 4294967296)))⟩]) [0,0,0,0,0,0,0,0,0,0,0,0,0,0,0,0] [4,5] (k:=H8 (E':=[⟨4,[],.int .u64 (tHi a b)⟩,⟨5,[],.int .u64 (tLo a b)⟩]) kr ?_)
 refine A0 (C3 ?_)
 refine C1 [.tmp 4,.tmp 5] [.int .u64 (tHi a b),.int .u64 (tLo a b)] (k:=?_)
 exact ⟨rfl,rfl⟩
theorem root2 (p:Int) (W0:World) (H:List Grp):Tri Tryz.prog 122 #[.int .u64 p,.int .i64 2] W0 H (fun v H'=>v=.int .u32 (r2 p)∧H'=H):=by
 refine C8 (args:=[.int .u64 p,.int .i64 2]) (n:=78) Tryz.func122 rfl rfl (Nat.le_of_ble_eq_true rfl) ?_
 refine A1 (G_p [0] [0,1] (k:=?_))
 refine A0 (A1 ?_)
 refine G_p [0] [0,1,5] (k:=A0 ?_)
 refine A1 (A1 ?_)
 refine G_p [0] [0,1,5,6] (k:=A0 ?_)
 refine C5 (I8 (EI:=(fun ξ:Nat=>[⟨0,[],.int .u64 p⟩,⟨1,[],.int .i64 2⟩,⟨5,[],.int .u64 (rt2 p ξ)⟩,⟨6,[],.int .i64 (35 - (ξ:Int))⟩])) (HI:=(fun ξ:Nat=>H)) (Φ:=(fun ξ:Nat=>(ξ≤36))) (μ:=(fun ξ:Nat=>36 - ξ)) (s0:=(0)) [0,1,5,6] kr rfl (by omega) ?_)
 rintro j hj
 refine A1 (A1 ?_)
 refine G_p [0,0] [0,1,5,6,16] (k:=A0 ?_)
 refine C6 (b:=decide ((35 - (j:Int)) ≥ 0)) kr (fun hc1=>?_) (fun hc1=>?_)
 ·
  have hj9:j≤35:=by (have:=of_decide_eq_true hc1; omega)
  refine B5 (A0 ?_)
  refine A1 (C5 ?_)
  refine A1 (A2 ?_)
  refine A7 (j:=3) [0,0,0] (k:=GL_shl (i:=3) (ch:=[]) (kd:=.u64) (ky:=.u64) (a:=1) (b:=IntKind.wrap .u64 (35 - (j:Int))) rfl rfl kr kr kr kr kr (by (show 0≤IntKind.wrap .u64 (35 - (j:Int))); rw [wU_id (by omega) (by omega)]; omega) ?_)
  refine D3 (E':=[⟨0,[],.int .u64 p⟩,⟨1,[],.int .i64 2⟩,⟨5,[],.int .u64 (rt2 p j)⟩,⟨6,[],.int .i64 (35 - (j:Int))⟩,⟨7,[],.int .u64 (IntKind.wrap .u64 ((rt2 p j)+(IntKind.wrap .u64 (1 * 2 ^ (min (Int.toNat (IntKind.wrap .u64 (35 - (j:Int)))) (IntKind.bits .u64))))))⟩]) [0,0] [0,1,5,6,7] (k:=H8 (E':=[⟨0,[],.int .u64 p⟩,⟨1,[],.int .i64 2⟩,⟨5,[],.int .u64 (rt2 p j)⟩,⟨6,[],.int .i64 (35 - (j:Int))⟩,⟨7,[],.int .u64 (rY (rt2 p j) j)⟩]) kr ?_)
  refine A0 (A1 ?_)
  refine A2 (A7 (j:=2) [0,0] (k:=?_))
  refine F6 (vs:=[.int .u64 (rY (rt2 p j) j),.int .u64 (rY (rt2 p j) j)]) Tryz.func137 (times_ _ _ _ _) (C4 [0,0,0,0,0] [0,1,5,6,7,8,9] (k:=?_))
  refine A0 (A1 ?_)
  refine A1 (G_p [0,0] [0,1,5,6,7,8,9,31] (k:=?_))
  refine A0 (I1 kr ?_)
  refine A1 (A1 ?_)
  refine G_p [0,0,0,0,0,0,0,0,0,0,6,5] [0,1,5,6,7,43] (k:=A0 ?_)
  refine C6 (b:=(decide ((tHi (rY (rt2 p j) j) (rY (rt2 p j) j))<p))||(((tHi (rY (rt2 p j) j) (rY (rt2 p j) j))==p)&&((tLo (rY (rt2 p j) j) (rY (rt2 p j) j))==0))) kr (fun hc2=>?_) (fun hc2=>?_)
  ·
   have hcc:c2 p (rY (rt2 p j) j)=true:=hc2
   refine G_p [0,0] [0,1,5,6] (k:=A0 ?_)
   refine G6 (A8 ?_)
   refine C7 (A0 ?_)
   refine A2 (A7 (j:=2) [0,0] (k:=?_))
   refine F2 18 ((35 - (j:Int)) - 1) (by omega) (by omega) kr (C4 [0] [0,1,5,6] (k:=?_))
   refine H8 (E':=[⟨0,[],.int .u64 p⟩,⟨1,[],.int .i64 2⟩,⟨5,[],.int .u64 (rY (rt2 p j) j)⟩,⟨6,[],.int .i64 ((35 - (j:Int)) - 1)⟩]) kr (H8 (E':=[⟨0,[],.int .u64 p⟩,⟨1,[],.int .i64 2⟩,⟨5,[],.int .u64 (rt2 p (j+1))⟩,⟨6,[],.int .i64 (35 - ((j+1:Nat):Int))⟩]) (by rw [rt2_yes hcc,show 35 - ((j+1:Nat):Int)=35 - (j:Int) - 1 by omega]) ?_)
   refine E5 (s':=(j+1)) [0,1,5,6] kr rfl (by omega) (by omega)
  ·
   have hcc:c2 p (rY (rt2 p j) j)=false:=hc2
   refine B5 (A0 ?_)
   refine G6 (A8 ?_)
   refine C7 (A0 ?_)
   refine A2 (A7 (j:=2) [0,0] (k:=?_))
   refine F2 18 ((35 - (j:Int)) - 1) (by omega) (by omega) kr (C4 [0] [0,1,5,6] (k:=?_))
   refine H8 (E':=[⟨0,[],.int .u64 p⟩,⟨1,[],.int .i64 2⟩,⟨5,[],.int .u64 (rt2 p j)⟩,⟨6,[],.int .i64 ((35 - (j:Int)) - 1)⟩]) kr (H8 (E':=[⟨0,[],.int .u64 p⟩,⟨1,[],.int .i64 2⟩,⟨5,[],.int .u64 (rt2 p (j+1))⟩,⟨6,[],.int .i64 (35 - ((j+1:Nat):Int))⟩]) (by rw [rt2_no hcc,show 35 - ((j+1:Nat):Int)=35 - (j:Int) - 1 by omega]) ?_)
   refine E5 (s':=(j+1)) [0,1,5,6] kr rfl (by omega) (by omega)
 ·
  have hj9:j=36:=by (have:=of_decide_eq_false hc1; omega)
  refine G6 (A8 ?_)
  refine A8 (C7 ?_)
  refine A0 (A1 ?_)
  refine G_p [0,0,0,0] [4] (k:=A0 ?_)
  refine C3 (C1 [.tmp 4] [.int .u32 (IntKind.wrap .u32 (Int.tmod (rt2 p j) 4294967296))] (k:=?_))
  exact ⟨by rw [hj9]; rfl,rfl⟩
theorem root3 (p:Int) (W0:World) (H:List Grp):Tri Tryz.prog 122 #[.int .u64 p,.int .i64 3] W0 H (fun v H'=>v=.int .u32 (r3 p)∧H'=H):=by
 refine C8 (args:=[.int .u64 p,.int .i64 3]) (n:=78) Tryz.func122 rfl rfl (Nat.le_of_ble_eq_true rfl) ?_
 refine A1 (G_p [0] [0,1] (k:=?_))
 refine A0 (A1 ?_)
 refine G_p [0] [0,1,5] (k:=A0 ?_)
 refine A1 (A1 ?_)
 refine G_p [0] [0,1,5,6] (k:=A0 ?_)
 refine C5 (I8 (EI:=(fun ξ:Nat=>[⟨0,[],.int .u64 p⟩,⟨1,[],.int .i64 3⟩,⟨5,[],.int .u64 (rt3 p ξ)⟩,⟨6,[],.int .i64 (35 - (ξ:Int))⟩])) (HI:=(fun ξ:Nat=>H)) (Φ:=(fun ξ:Nat=>(ξ≤36))) (μ:=(fun ξ:Nat=>36 - ξ)) (s0:=(0)) [0,1,5,6] kr rfl (by omega) ?_)
 rintro j hj
 refine A1 (A1 ?_)
 refine G_p [0,0] [0,1,5,6,16] (k:=A0 ?_)
 refine C6 (b:=decide ((35 - (j:Int)) ≥ 0)) kr (fun hc1=>?_) (fun hc1=>?_)
 ·
  have hj9:j≤35:=by (have:=of_decide_eq_true hc1; omega)
  refine B5 (A0 ?_)
  refine A1 (C5 ?_)
  refine A1 (A2 ?_)
  refine A7 (j:=3) [0,0,0] (k:=GL_shl (i:=3) (ch:=[]) (kd:=.u64) (ky:=.u64) (a:=1) (b:=IntKind.wrap .u64 (35 - (j:Int))) rfl rfl kr kr kr kr kr (by (show 0≤IntKind.wrap .u64 (35 - (j:Int))); rw [wU_id (by omega) (by omega)]; omega) ?_)
  refine D3 (E':=[⟨0,[],.int .u64 p⟩,⟨1,[],.int .i64 3⟩,⟨5,[],.int .u64 (rt3 p j)⟩,⟨6,[],.int .i64 (35 - (j:Int))⟩,⟨7,[],.int .u64 (IntKind.wrap .u64 ((rt3 p j)+(IntKind.wrap .u64 (1 * 2 ^ (min (Int.toNat (IntKind.wrap .u64 (35 - (j:Int)))) (IntKind.bits .u64))))))⟩]) [0,0] [0,1,5,6,7] (k:=H8 (E':=[⟨0,[],.int .u64 p⟩,⟨1,[],.int .i64 3⟩,⟨5,[],.int .u64 (rt3 p j)⟩,⟨6,[],.int .i64 (35 - (j:Int))⟩,⟨7,[],.int .u64 (rY (rt3 p j) j)⟩]) kr ?_)
  refine A0 (A1 ?_)
  refine A2 (A7 (j:=2) [0,0] (k:=?_))
  refine F6 (vs:=[.int .u64 (rY (rt3 p j) j),.int .u64 (rY (rt3 p j) j)]) Tryz.func137 (times_ _ _ _ _) (C4 [0,0,0,0,0] [0,1,5,6,7,8,9] (k:=?_))
  refine A0 (A1 ?_)
  refine A1 (G_p [0,0] [0,1,5,6,7,8,9,31] (k:=?_))
  refine A0 (I2 kr ?_)
  refine B5 (A0 ?_)
  refine A1 (A2 ?_)
  refine A7 (j:=2) [0,0] (k:=F6 (vs:=[.int .u64 (tLo (rY (rt3 p j) j) (rY (rt3 p j) j)),.int .u64 (rY (rt3 p j) j)]) Tryz.func137 (times_ _ _ _ _) ?_)
  refine C4 [0,0,0,0,0] [0,1,5,6,7,8,10,11] (k:=A0 ?_)
  refine A1 (A2 ?_)
  refine A7 (j:=2) [0,0] (k:=F6 (vs:=[.int .u64 (tHi (rY (rt3 p j) j) (rY (rt3 p j) j)),.int .u64 (rY (rt3 p j) j)]) Tryz.func137 (times_ _ _ _ _) ?_)
  refine C4 [0,0,0,0,0] [0,1,5,6,7,10,11,13] (k:=A0 ?_)
  refine A1 (B4 (E':=[⟨0,[],.int .u64 p⟩,⟨1,[],.int .i64 3⟩,⟨5,[],.int .u64 (rt3 p j)⟩,⟨6,[],.int .i64 (35 - (j:Int))⟩,⟨7,[],.int .u64 (rY (rt3 p j) j)⟩,⟨11,[],.int .u64 (tLo (tLo (rY (rt3 p j) j) (rY (rt3 p j) j)) (rY (rt3 p j) j))⟩,⟨14,[],.int .u64 (IntKind.wrap .u64 ((tLo (tHi (rY (rt3 p j) j) (rY (rt3 p j) j)) (rY (rt3 p j) j))+(tHi (tLo (rY (rt3 p j) j) (rY (rt3 p j) j)) (rY (rt3 p j) j))))⟩]) [0,0,0,0] [0,1,5,6,7,11,14] (k:=?_))
  refine H8 (E':=[⟨0,[],.int .u64 p⟩,⟨1,[],.int .i64 3⟩,⟨5,[],.int .u64 (rt3 p j)⟩,⟨6,[],.int .i64 (35 - (j:Int))⟩,⟨7,[],.int .u64 (rY (rt3 p j) j)⟩,⟨11,[],.int .u64 (tLo (tLo (rY (rt3 p j) j) (rY (rt3 p j) j)) (rY (rt3 p j) j))⟩,⟨14,[],.int .u64 (top3 (rY (rt3 p j) j))⟩]) kr (A0 ?_)
  refine A1 (G_p [0,0,0,0,0,0,0,0,0,0,0,0,6,5] [0,1,5,6,7,73] (k:=?_))
  refine A0 (C6 (b:=(decide ((top3 (rY (rt3 p j) j))<(IntKind.wrap .u64 (p * 4294967296))))||(((top3 (rY (rt3 p j) j))==(IntKind.wrap .u64 (p * 4294967296)))&&((tLo (tLo (rY (rt3 p j) j) (rY (rt3 p j) j)) (rY (rt3 p j) j))==0))) kr (fun hc2=>?_) (fun hc2=>?_))
  ·
   have hcc:c3 p (rY (rt3 p j) j)=true:=hc2
   refine G_p [0,0] [0,1,5,6] (k:=D5 ?_)
   refine A0 (A2 ?_)
   refine A7 (j:=2) [0,0] (k:=F2 18 ((35 - (j:Int)) - 1) (by omega) (by omega) kr ?_)
   refine C4 [0] [0,1,5,6] (k:=H8 (E':=[⟨0,[],.int .u64 p⟩,⟨1,[],.int .i64 3⟩,⟨5,[],.int .u64 (rY (rt3 p j) j)⟩,⟨6,[],.int .i64 ((35 - (j:Int)) - 1)⟩]) kr ?_)
   refine H8 (E':=[⟨0,[],.int .u64 p⟩,⟨1,[],.int .i64 3⟩,⟨5,[],.int .u64 (rt3 p (j+1))⟩,⟨6,[],.int .i64 (35 - ((j+1:Nat):Int))⟩]) (by rw [rt3_yes hcc,show 35 - ((j+1:Nat):Int)=35 - (j:Int) - 1 by omega]) (E5 (s':=(j+1)) [0,1,5,6] kr rfl (by omega) (by omega))
  ·
   have hcc:c3 p (rY (rt3 p j) j)=false:=hc2
   refine B5 (D5 ?_)
   refine A0 (A2 ?_)
   refine A7 (j:=2) [0,0] (k:=F2 18 ((35 - (j:Int)) - 1) (by omega) (by omega) kr ?_)
   refine C4 [0] [0,1,5,6] (k:=H8 (E':=[⟨0,[],.int .u64 p⟩,⟨1,[],.int .i64 3⟩,⟨5,[],.int .u64 (rt3 p j)⟩,⟨6,[],.int .i64 ((35 - (j:Int)) - 1)⟩]) kr ?_)
   refine H8 (E':=[⟨0,[],.int .u64 p⟩,⟨1,[],.int .i64 3⟩,⟨5,[],.int .u64 (rt3 p (j+1))⟩,⟨6,[],.int .i64 (35 - ((j+1:Nat):Int))⟩]) (by rw [rt3_no hcc,show 35 - ((j+1:Nat):Int)=35 - (j:Int) - 1 by omega]) (E5 (s':=(j+1)) [0,1,5,6] kr rfl (by omega) (by omega))
 ·
  have hj9:j=36:=by (have:=of_decide_eq_false hc1; omega)
  refine G6 (A8 ?_)
  refine A8 (C7 ?_)
  refine A0 (A1 ?_)
  refine G_p [0,0,0,0] [4] (k:=A0 ?_)
  refine C3 (C1 [.tmp 4] [.int .u32 (IntKind.wrap .u32 (Int.tmod (rt3 p j) 4294967296))] (k:=?_))
  exact ⟨by rw [hj9]; rfl,rfl⟩
end Go.Proofs.YtlaoeiaaeifidaaGreat
namespace Go.Sha
open Go.Sw
def tb2 (k:Nat):List Int:=(pList.take k).map fun q:Nat=>r2 (q:Int)
def tb3 (k:Nat):List Int:=(pList.take k).map fun q:Nat=>r3 (q:Int)
theorem pL_len:pList.length=64:=rfl
theorem tb_succ (f:Nat→Int) {k:Nat} (h:k<64):(pList.take (k+1)).map f=(pList.take k).map f++[f (pList.getD k 0)]:=by
  rw [List.take_add_one,List.getElem?_eq_getElem (by rw [pL_len]; exact h),List.map_append,List.getD,List.getElem?_eq_getElem (by rw [pL_len]; exact h)]; rfl
theorem tb2_succ {k:Nat} (h:k<64):tb2 (k+1)=tb2 k++[r2 ((pList.getD k 0:Nat):Int)]:=tb_succ (fun q:Nat=>r2 (q:Int)) h
theorem tb3_succ {k:Nat} (h:k<64):tb3 (k+1)=tb3 k++[r3 ((pList.getD k 0:Nat):Int)]:=tb_succ (fun q:Nat=>r3 (q:Int)) h
theorem tb2_all:tb2 8=hTab:=tab2
theorem tb3_all:tb3 64=kTab:=tab3
def e8 (n:Int) (j:Nat):UInt8:=b8 (n.fdiv (2 ^ (56 - 8 * j)))
theorem e8_take (n:Int) {j:Nat} (h:j<8):(T8 n).take (j+1)=(T8 n).take j++[e8 n j]:=by
  match j,h with
  | 0,_ | 1,_ | 2,_ | 3,_ | 4,_ | 5,_ | 6,_ | 7,_=>rfl
  | j+8,h=>exact absurd h (by omega)
theorem e8_val (n:Int) {j:Nat} (h:j<8):IntKind.wrap .u8 (Int.fdiv n (2 ^ (min (Int.toNat (IntKind.wrap .u64 (8 * (7 - (j:Int))))) (IntKind.bits .i64))))=((e8 n j).toNat:Int):=by
  have e:min (Int.toNat (IntKind.wrap .u64 (8 * (7 - (j:Int))))) (IntKind.bits .i64)=56 - 8 * j:=by
    match j,h with
    | 0,_ | 1,_ | 2,_ | 3,_ | 4,_ | 5,_ | 6,_ | 7,_=>decide
    | j+8,h=>exact absurd h (by omega)
  rw [e]; exact wrap_b8 _
theorem e8_sh (j:Nat):0≤IntKind.wrap .u64 (8 * (7 - (j:Int))):=by
  have e:∀ x:Int,IntKind.wrap .u64 x=x % 18446744073709551616:=fun x=>by first | rfl | simp [IntKind.wrap,IntKind.bits,IntKind.signed]
  rw [e]; omega
theorem e8_step (n:Int) (P:List UInt8) {j:Nat} (h:j<8) {x:Int} (hx:x=((e8 n j).toNat:Int)):(u8s P++u8s ((T8 n).take j))++[.int .u8 x]=u8s P++u8s ((T8 n).take (j+1)):=by
  subst hx
  rw [e8_take n h,Z4 ((T8 n).take j),List.append_assoc]; rfl
theorem e8_all (l:List UInt8) {k j:Nat} (hk:k=padZ l.length) (hj:j=8):u8s (padK l k)++u8s ((T8 ((8 * l.length:Nat):Int)).take j)=u8s (H4 l):=by
  subst hk; subst hj; rw [← Z4]; rfl
def S8l (s:S8):List Int:=[s.a,s.b,s.c,s.d,s.e,s.f,s.g,s.h]
theorem h_tab:S8l hIni=hTab:=rfl
def cB (p:List UInt8) (q:Nat):Nat→Int:=byt (L6 p q)
def fN (p:List UInt8):Nat→S8
  | 0=>hIni
  | q+1=>addS (fN p q) (rnds kAt (wAt (cB p q)) (fN p q) 64)
theorem foldB_take (p:List UInt8) (m:Nat):∀ k,k≤m→L4 p ((List.finRange m).take k)=fN p k
  | 0,_=>by rw [List.take_zero]; rfl
  | k+1,h=>by
    have e:(List.finRange m).take (k+1)=(List.finRange m).take k++[⟨k,h⟩]:=by
      rw [List.take_add_one,List.getElem?_eq_getElem (by simp; omega)]
      simp
    rw [e,foldB_snoc,foldB_take p m k (by omega)]; rfl
theorem sumS_fN (l:List UInt8):S3 l=fN (H4 l) ((H4 l).length / 64):=by
  have:=foldB_take (H4 l) ((H4 l).length / 64) _ (Nat.le_refl _)
  rw [← this,List.take_of_length_le (by simp)]; rfl
theorem U_e (p:List UInt8) (q i:Nat):U (rnds kAt (wAt (cB p q)) (fN p q) i).e:=by
  cases i with
  | succ i=>exact U_w32 _
  | zero=>cases q with
    | zero=>exact show U 1359893119 from ⟨by decide,by decide⟩
    | succ q=>exact U_w32 _
theorem cB_nat (p:List UInt8) (q j:Nat):∃ a:Nat,cB p q j=a∧a<256:=⟨((L6 p q).getD j 0).toNat,rfl,UInt8.toNat_lt _⟩
theorem w_lo (p:List UInt8) (q:Nat) {i:Nat} (h:i<16) {x:Int} (hx:x=wordR (cB p q (4 * i)) (cB p q (4 * i+1)) (cB p q (4 * i+2)) (cB p q (4 * i+3))):H6 (F7 (cB p q) i)++[.int .u32 x]=H6 (F7 (cB p q) (i+1)):=by
  obtain ⟨a,ha,ha'⟩:=cB_nat p q (4 * i)
  obtain ⟨b,hb,hb'⟩:=cB_nat p q (4 * i+1)
  obtain ⟨c,hc,hc'⟩:=cB_nat p q (4 * i+2)
  obtain ⟨d,hd,hd'⟩:=cB_nat p q (4 * i+3)
  rw [ha,hb,hc,hd,word_eq ha' hb' hc' hd'] at hx
  rw [F7,if_pos h,ha,hb,hc,hd]
  subst hx
  simp [H6]
theorem w_hi (B:Nat→Int) {i:Nat} (h:¬ i<16) {x:Int} (hx:x=w32 (w32 (w32 ((F7 B i).getD (i - 16) 0+sg0 ((F7 B i).getD (i - 15) 0))+(F7 B i).getD (i - 7) 0)+sg1 ((F7 B i).getD (i - 2) 0))):H6 (F7 B i)++[.int .u32 x]=H6 (F7 B (i+1)):=by
  rw [F7,if_neg h]; subst hx; simp [H6]
theorem S7 {l:List Int} {k q:Nat} (hq:q=k) (h:k<l.length):(H6 l)[q]? = some (.int .u32 (l.getD k 0)):=by
  subst hq; simp [H6,List.getD,h]
theorem wat_at (B:Nat→Int) {k q:Nat} (hq:q=k) (h:k<64):(H6 (F7 B 64))[q]? = some (.int .u32 (wAt B k)):=S7 hq (by rw [J5]; exact h)
theorem kat_at {k q:Nat} (hq:q=k) (h:k<64):(H6 kTab)[q]? = some (.int .u32 (kAt k)):=S7 hq h
def t1R (k w:Int) (s:S8):Int:=w32 (w32 (w32 (w32 (s.h+bs1 s.e)+chR s.e s.f s.g)+k)+w)
def t2R (s:S8):Int:=w32 (bs0 s.a+majR s.a s.b s.c)
theorem t1R_eq (k w:Int) {s:S8} (h:U s.e):t1R k w s=t1P k w s:=by unfold t1R t1P; rw [chR_eq h]
theorem t2R_eq (s:S8):t2R s=t2P s:=by unfold t2R t2P; rw [majR_eq]
theorem cell_at (p:List UInt8) {q j k m:Nat} (hm:p.length=64 * m) (hq:q<m) (hj:j<64) (hk:k=j):(((u8s p).drop (64 * q)))[k]? = some (.int .u8 (cB p q j)):=by
  subst hk
  rw [List.getElem?_drop,u8s_at (by omega)]
  unfold cB byt L6
  rw [List.getD,List.getD,List.getElem?_take,if_pos hj,List.getElem?_drop]
theorem drop_ne {p:List UInt8} {q m:Nat} (hm:p.length=64 * m) (hq:q<m):(u8s p).drop (64 * q)≠[]:=fun e=>by
  have:=congrArg List.length e
  rw [List.length_drop] at this
  simp only [u8s,List.length_map,List.length_nil] at this; omega
theorem rd_next {S:Nat→Obj→Prop} {a:Option Addr} {p:List UInt8} {q m c:Nat} (hm:p.length=64 * m) (h:Rd S a ((u8s p).drop (64 * q))) (hq:q<m) (hc:64 * (m - q)≤c):Rd S (J4 a c 64 1) ((u8s p).drop (64 * (q+1))):=by
  have:=h.cut (cap:=c) (l:=64) (sz:=1) (m:=64 * (m - (q+1))) (fun e=>by omega)
  rw [List.drop_drop,List.take_of_length_le (by rw [List.length_drop]; simp only [u8s,List.length_map]; omega)] at this
  rw [show 64 * (q+1)=64 * q+64 * 1 by omega]; exact this
theorem out_take (s:S8) {k:Nat} (h:k<8):(outB s).take (4 * (k+1))=(outB s).take (4 * k)++wordB (wd s k):=by
  match k,h with
  | 0,_ | 1,_ | 2,_ | 3,_ | 4,_ | 5,_ | 6,_ | 7,_=>rfl
  | k+8,h=>exact absurd h (by omega)
theorem out_step (s:S8) {k:Nat} (h:k<8):u8s ((outB s).take (4 * k))++[.int .u8 (IntKind.wrap .u8 (Int.fdiv (wd s k) (2 ^ 24))),.int .u8 (IntKind.wrap .u8 (Int.fdiv (wd s k) (2 ^ 16))),.int .u8 (IntKind.wrap .u8 (Int.fdiv (wd s k) (2 ^ 8))),.int .u8 (IntKind.wrap .u8 (wd s k))]=u8s ((outB s).take (4 * (k+1))):=by
  rw [out_take s h,Z4]
  unfold wordB
  simp only [u8s_cons]; rfl
theorem wd_cell (s:S8) {k q:Nat} (hq:q=k) (h:k<8):(H6 (S8l s))[q]? = some (.int .u32 (wd s k)):=S7 hq h
theorem S8l_add (s t:S8):H6 (S8l (addS s t))=[.int .u32 (w32 (s.a+t.a)),.int .u32 (w32 (s.b+t.b)),.int .u32 (w32 (s.c+t.c)),.int .u32 (w32 (s.d+t.d)),.int .u32 (w32 (s.e+t.e)),.int .u32 (w32 (s.f+t.f)),.int .u32 (w32 (s.g+t.g)),.int .u32 (w32 (s.h+t.h))]:=rfl
def hxT (x:Int):ByteArray:=digs.extract (Int.toNat (IntKind.wrap .u8 (Int.tdiv x 16))) (Int.toNat (IntKind.wrap .u8 (IntKind.wrap .u8 (Int.tdiv x 16)+1)))++digs.extract (Int.toNat (Int.tmod x 16)) (Int.toNat (IntKind.wrap .u8 (Int.tmod x 16+1)))
def hxs (l:List UInt8) (k:Nat):ByteArray:=ByteArray.mk (hexK l k).toArray
theorem hxT_all:(List.range 256).all (fun n=>(hxT ((n:Nat):Int)).data.toList==hex2 ((n:Nat):Int))=true:=by kernel_rfl
theorem hxs_succ (l:List UInt8) {k:Nat} (h:k<l.length):hxs l k++hxT (byt l k)=hxs l (k+1):=by
  have e:l.take (k+1)=l.take k++[l.getD k 0]:=by
    rw [List.take_add_one,List.getD,List.getElem?_eq_getElem h]; rfl
  have e2:=eq_of_beq (List.all_eq_true.1 hxT_all (l.getD k 0).toNat (List.mem_range.2 (UInt8.toNat_lt _)))
  apply ByteArray.ext
  apply Array.toList_inj.1
  rw [ByteArray.data_append,Array.toList_append]
  show hexK l k++(hxT (byt l k)).data.toList=hexK l (k+1)
  unfold hexK
  rw [e,List.flatMap_append]
  show _++(hxT (((l.getD k 0).toNat:Nat):Int)).data.toList=_
  rw [e2]; simp
theorem hxs_size (l:List UInt8) {k:Nat} (h:k≤l.length):(hxs l k).size=2 * k:=by
  show (hexK l k).toArray.size=2 * k
  rw [List.size_toArray]; exact hexK_len _ h
end Go.Sha
namespace Go.Proofs.YtlaoeiaaeifidaaGreat
open Go.Sw Go.Sha
theorem u64s_pL {n k q:Nat} (hn:n≤64) (hq:q=k) (h:k<n):(u64s (pList.take n))[q]? = some (.int .u64 ((pList.getD k 0:Nat):Int)):=by
  subst hq
  have hl:pList.length=64:=rfl
  rw [u64s_at rfl (by rw [List.length_take]; omega),List.getD,List.getD,List.getElem?_take,if_pos h]
theorem pL_ne {n:Nat} (hn:n≤64) (h:0<n):u64s (pList.take n)≠[]:=u64_ne (k:=0) (by rw [List.length_take]; show 0<min n 64; omega)
theorem tables_  (W0:World) (H:List Grp):Tri Tryz.prog 100 #[] W0 H (fun v H'=>∃ a c g a2 c2 g2,v=.tuple #[.slice a 8 c,.slice a2 64 c2]∧Go.Sw.Own 144 1 (.slice a 8 c) g 8 (H6 hTab)∧Go.Sw.Own 144 1 (.slice a2 64 c2) g2 64 (H6 kTab)∧H'=g::g2::H):=by
 refine C8 (args:=[]) (n:=34) Tryz.func100 rfl rfl (Nat.le_of_ble_eq_true rfl) ?_
 refine A1 (B4 (E':=[]) [0,0] [] (k:=?_))
 refine A0 (A1 ?_)
 refine G_p [0,0] [2,3] (k:=A0 ?_)
 refine A1 (A1 ?_)
 refine A2 (G2 Tryz.func121 (primes_ 8 (by omega) _ _) ?_)
 rintro v H' ⟨a3,cap4,g1,rfl,hO2,rfl⟩
 refine C4 [0,0] [2,3,8,9,10] (k:=A0 ?_)
 refine C5 (R8 (H':=([]::g1::H)) (fun w h=>Sat.flat h (List.Perm.refl _)) ?_)
 refine I8 (EI:=(fun ξ:Nat × Option Addr × Nat × Grp=>[⟨2,[],.slice ξ.2.1 ξ.1 ξ.2.2.1⟩,⟨3,[],.slice none 0 0⟩,⟨8,[],.slice a3 8 cap4⟩,⟨9,[],.int .i64 8⟩,⟨10,[],.int .i64 ((ξ.1:Nat):Int)⟩])) (HI:=(fun ξ:Nat × Option Addr × Nat × Grp=>(ξ.2.2.2::g1::H))) (Φ:=(fun ξ:Nat × Option Addr × Nat × Grp=>(ξ.1≤8)∧(Go.Sw.Own 144 1 (.slice ξ.2.1 ξ.1 ξ.2.2.1) ξ.2.2.2 ξ.1 (H6 (tb2 ξ.1))))) (μ:=(fun ξ:Nat × Option Addr × Nat × Grp=>8 - ξ.1)) (s0:=(0,none,0,[])) [2,3,8,9,10] kr rfl ⟨(Nat.zero_le _),Go.Sw.Own.nil⟩ ?_
 rintro ⟨k,ak,ck,gk⟩ ⟨hk,hok⟩
 dsimp only at hk hok
 refine A1 (G_p [0] [2,3,8,9,10,11] (k:=?_))
 refine A0 (A1 ?_)
 refine C6 (b:=decide (((k:Nat):Int)<8)) kr (fun hc5=>?_) (fun hc5=>?_)
 ·
  simp at hc5
  refine B5 (A0 ?_)
  refine A1 (C5 ?_)
  refine A1 (A2 ?_)
  refine B7 (ch:=[]) (a:=a3) (len:=8) (cap:=cap4) (kd:=.i64) (j:=((k:Nat):Int)) (e:=163) (sz:=1) (S:=(inG g1)) (cs:=(u64s (pList.take 8))) (hrd:=D6 hO2) (hb:=(fun _=>by exact ⟨by omega,by omega,pL_ne (by omega) (by omega)⟩)) (k:=D4 (ch:=[]) (a:=a3) (q:=k * 1) (S:=(inG g1)) (cs:=(u64s (pList.take 8))) (v:=.int .u64 ((pList.getD k 0:Nat):Int)) (hrd:=D6 hO2) (hS:=C9 1 rfl) (hv:=(fun _=>(u64s_pL (by omega) (Nat.mul_one _) (by omega)))) (k:=?_))
  refine C4 [0] [2,3,5,8,9,10] (k:=A0 ?_)
  refine A2 (A7 (j:=2) [0,0] (k:=?_))
  refine F6 (vs:=[.int .u64 ((pList.getD k 0:Nat):Int),.int .i64 2]) Tryz.func122 (root2 _ _ _) (C2 (ch:=[]) (e:=144) (l:=[(0,.int .u32 (r2 ((pList.getD k 0:Nat):Int)))]) (c:=[.int .u32 (r2 ((pList.getD k 0:Nat):Int))]) (k:=(fun b6=>?_)))
  refine E9 (i:=4) (ch:=[]) (t:=141) (tx:=141) (e:=144) (inf:=Tryz.t144) (s:=.slice ak k ck) (x:=.slice (some ⟨b6,0,none⟩) 1 1) (n:=k) (m:=1) (j:=1) (cs:=(H6 (tb2 k))) (news:=[.int .u32 (r2 ((pList.getD k 0:Nat):Int))]) (g:=gk) (S:=(inG [(b6,.cells #[.int .u32 (r2 ((pList.getD k 0:Nat):Int))] 144 (0,0))])) rfl rfl rfl rfl kr kr kr rfl rfl (.inl ⟨144,kr⟩) (fun ⟨_,h⟩=>by cases h) (fun _=>⟨144,kr⟩) kr kr kr rfl hok (SrcOf.slice _ _ _ _ Rd.lit (fun h=>by cases h)) (C9 0 rfl) rfl u32_one (by omega) (by show (k+1) * 4≤140737488355328; omega) (fun v7 g8 hO9=>?_)
  obtain ⟨a10,cap11,rfl,hcap12,hrd13⟩:=hO9.shape
  refine C4 [0] [2,3,8,9,10] (k:=D5 ?_)
  refine A0 (A2 ?_)
  refine A7 (j:=1) [0] (k:=F2 19 (((k:Nat):Int)+1) (by omega) (by omega) kr ?_)
  refine C4 [0] [2,3,8,9,10] (k:=E0 (H':=(g8::g1::H)) (fun w h=>(h.erase 0)) ?_)
  refine E5 (s':=(k+1,a10,cap11,g8)) [2,3,8,9,10] kr rfl ⟨(by dsimp only; omega),(Z9 hO9 (by rw [tb2_succ (by omega)]; simp [H6]))⟩ (by dsimp only; omega)
 ·
  have hk8:k=8:=by (have h9:=of_decide_eq_false hc5; omega)
  refine G6 (A8 ?_)
  refine A8 (C7 ?_)
  refine A0 (A1 ?_)
  refine A1 (A2 ?_)
  refine G2 Tryz.func121 (primes_ 64 (by omega) _ _) ?_
  rintro v H' ⟨a17,cap18,g15,rfl,hO16,rfl⟩
  refine C4 [0,0] [2,3,20,21,22] (k:=A0 ?_)
  refine C5 (R8 (H':=([]::g15::gk::g1::H)) (fun w h=>Sat.flat h (List.Perm.refl _)) ?_)
  refine I8 (EI:=(fun ξ:Nat × Option Addr × Nat × Grp=>[⟨2,[],.slice ak k ck⟩,⟨3,[],.slice ξ.2.1 ξ.1 ξ.2.2.1⟩,⟨20,[],.slice a17 64 cap18⟩,⟨21,[],.int .i64 64⟩,⟨22,[],.int .i64 ((ξ.1:Nat):Int)⟩])) (HI:=(fun ξ:Nat × Option Addr × Nat × Grp=>(ξ.2.2.2::g15::gk::g1::H))) (Φ:=(fun ξ:Nat × Option Addr × Nat × Grp=>(ξ.1≤64)∧(Go.Sw.Own 144 1 (.slice ξ.2.1 ξ.1 ξ.2.2.1) ξ.2.2.2 ξ.1 (H6 (tb3 ξ.1))))) (μ:=(fun ξ:Nat × Option Addr × Nat × Grp=>64 - ξ.1)) (s0:=(0,none,0,[])) [2,3,20,21,22] kr rfl ⟨(Nat.zero_le _),Go.Sw.Own.nil⟩ ?_
  rintro ⟨j,aj,cj,gj⟩ ⟨hj,hoj⟩
  dsimp only at hj hoj
  refine A1 (G_p [0] [2,3,20,21,22,23] (k:=?_))
  refine A0 (A1 ?_)
  refine C6 (b:=decide (((j:Nat):Int)<64)) kr (fun hc19=>?_) (fun hc19=>?_)
  ·
   simp at hc19
   refine B5 (A0 ?_)
   refine A1 (C5 ?_)
   refine A1 (A2 ?_)
   refine B7 (ch:=[]) (a:=a17) (len:=64) (cap:=cap18) (kd:=.i64) (j:=((j:Nat):Int)) (e:=163) (sz:=1) (S:=(inG g15)) (cs:=(u64s (pList.take 64))) (hrd:=D6 hO16) (hb:=(fun _=>by exact ⟨by omega,by omega,pL_ne (by omega) (by omega)⟩)) (k:=D4 (ch:=[]) (a:=a17) (q:=j * 1) (S:=(inG g15)) (cs:=(u64s (pList.take 64))) (v:=.int .u64 ((pList.getD j 0:Nat):Int)) (hrd:=D6 hO16) (hS:=C9 1 rfl) (hv:=(fun _=>(u64s_pL (by omega) (Nat.mul_one _) (by omega)))) (k:=?_))
   refine C4 [0] [2,3,7,20,21,22] (k:=A0 ?_)
   refine A2 (A7 (j:=2) [0,0] (k:=?_))
   refine F6 (vs:=[.int .u64 ((pList.getD j 0:Nat):Int),.int .i64 3]) Tryz.func122 (root3 _ _ _) (C2 (ch:=[]) (e:=144) (l:=[(0,.int .u32 (r3 ((pList.getD j 0:Nat):Int)))]) (c:=[.int .u32 (r3 ((pList.getD j 0:Nat):Int))]) (k:=(fun b20=>?_)))
   refine E9 (i:=4) (ch:=[]) (t:=141) (tx:=141) (e:=144) (inf:=Tryz.t144) (s:=.slice aj j cj) (x:=.slice (some ⟨b20,0,none⟩) 1 1) (n:=j) (m:=1) (j:=1) (cs:=(H6 (tb3 j))) (news:=[.int .u32 (r3 ((pList.getD j 0:Nat):Int))]) (g:=gj) (S:=(inG [(b20,.cells #[.int .u32 (r3 ((pList.getD j 0:Nat):Int))] 144 (0,0))])) rfl rfl rfl rfl kr kr kr rfl rfl (.inl ⟨144,kr⟩) (fun ⟨_,h⟩=>by cases h) (fun _=>⟨144,kr⟩) kr kr kr rfl hoj (SrcOf.slice _ _ _ _ Rd.lit (fun h=>by cases h)) (C9 0 rfl) rfl u32_one (by omega) (by show (j+1) * 4≤140737488355328; omega) (fun v21 g22 hO23=>?_)
   obtain ⟨a24,cap25,rfl,hcap26,hrd27⟩:=hO23.shape
   refine C4 [0] [2,3,20,21,22] (k:=D5 ?_)
   refine A0 (A2 ?_)
   refine A7 (j:=1) [0] (k:=F2 31 (((j:Nat):Int)+1) (by omega) (by omega) kr ?_)
   refine C4 [0] [2,3,20,21,22] (k:=E0 (H':=(g22::g15::gk::g1::H)) (fun w h=>(h.erase 0)) ?_)
   refine E5 (s':=(j+1,a24,cap25,g22)) [2,3,20,21,22] kr rfl ⟨(by dsimp only; omega),(Z9 hO23 (by rw [tb3_succ (by omega)]; simp [H6]))⟩ (by dsimp only; omega)
  ·
   have hk64:j=64:=by (have h9:=of_decide_eq_false hc19; omega)
   refine G6 (A8 ?_)
   refine A8 (C7 ?_)
   refine A0 (A1 ?_)
   refine G_p [0,0,0,0] [0,1] (k:=A0 ?_)
   refine C3 (E0 (H':=(gk::gj::H)) (fun w h=>(((h.front (j:=2) rfl).erase 3).erase 2)) ?_)
   refine C1 [.tmp 0,.tmp 1] [.slice ak k ck,.slice aj j cj] (k:=?_)
   subst hk8 hk64
   exact ⟨_,_,_,_,_,_,rfl,Z9 hok (by rw [tb2_all]),Z9 hoj (by rw [tb3_all]),rfl⟩
end Go.Proofs.YtlaoeiaaeifidaaGreat
namespace Go.Proofs.YtlaoeiaaeifidaaGreat
open Go.Sw Go.Sha
theorem Y6 {l:List Int} {k:Nat} (h:k<l.length):H6 l≠[]:=fun e=>by
  have:=congrArg List.length e; simp [H6] at this; subst this; exact absurd h (Nat.not_lt_zero _)
theorem own_u8n {ty:TypeId} {a:Option Addr} {n m c:Nat} {g:Grp} {cs cs':List Value} (h:Go.Sw.Own ty 1 (.slice a n c) g n cs) (e:n=m) (e2:cs=cs'):Go.Sw.Own ty 1 (.slice a m c) g m cs':=by subst e; subst e2; exact h
theorem rd_first {a:Option Addr} {c n:Nat} {g:Grp} {l:List UInt8} (h:Go.Sw.Own 5 1 (.slice a n c) g n (u8s l)):Rd (inG g) a ((u8s l).drop (64 * 0)):=D6 h
set_option maxRecDepth 4000 in
set_option maxHeartbeats 2000000 in
theorem rsum_ (ba:Option Addr) (bc:Nat) (S:Nat→Obj→Prop) (l:List UInt8) (hrd:Rd S ba (u8s l)) (h0:ba=none→l.length=0) (hn:l.length≤1099511627776) (W0:World) (H:List Grp) (hS:∀ y o,S y o→At W0 H y o):Tri Tryz.prog 81 #[.slice ba l.length bc] W0 H (fun v H'=>∃ a c g,v=.slice a 32 c∧Go.Sw.Own 5 1 (.slice a 32 c) g 32 (u8s (Y0 l))∧H'=g::H):=by
 refine C8 (args:=[.slice ba l.length bc]) (n:=314) Tryz.func81 rfl rfl (Nat.le_of_ble_eq_true rfl) ?_
 refine A1 (B4 (E':=[⟨0,[],.slice ba l.length bc⟩]) [0] [0] (k:=?_))
 refine A0 (A1 ?_)
 refine A2 (A7 (j:=3) [0,0,0] (k:=?_))
 refine F2 27 (8 * ((l.length:Nat):Int)) (by omega) (by omega) kr (D3 (E':=[⟨0,[],.slice ba l.length bc⟩,⟨3,[],.int .i64 (8 * ((l.length:Nat):Int))⟩]) [0] [0,3] (k:=?_))
 refine H8 (E':=[⟨0,[],.slice ba l.length bc⟩,⟨3,[],.int .i64 ((8 * l.length:Nat):Int)⟩]) (by rw [show ((8 * l.length:Nat):Int)=8 * ((l.length:Nat):Int) by omega]) (A0 ?_)
 refine A1 (A2 ?_)
 refine C2 (ch:=[]) (e:=5) (l:=[]) (c:=[]) (k:=(fun b2=>?_))
 refine A7 (j:=2) [0] (k:=E9 (i:=2) (ch:=[]) (t:=22) (tx:=22) (e:=5) (inf:=Tryz.t5) (s:=.slice (some ⟨b2,0,none⟩) 0 0) (x:=.slice ba l.length bc) (n:=0) (m:=l.length) (j:=0) (cs:=[]) (news:=(u8s l)) (g:=[(b2,.cells #[] 5 (0,0))]) (S:=S) rfl rfl rfl rfl kr kr kr rfl rfl (.inl ⟨5,kr⟩) (fun ⟨_,h⟩=>by cases h) (fun _=>⟨5,kr⟩) kr kr kr rfl (Go.Sw.Own.lit rfl) (SrcOf.slice _ _ _ _ hrd h0) (fun y o h=>(At.cons (hS y o h))) (show (u8s l).length=l.length * 1 by simp [u8s]) u8_one (by omega) (by show (0+l.length) * 1≤140737488355328; omega) (fun v3 g4 hO5=>?_))
 replace hO5:=T5 hO5
 obtain ⟨a6,cap7,rfl,hcap8,hrd9⟩:=hO5.shape
 refine C2 (ch:=[]) (e:=5) (l:=[(0,.int .u8 128)]) (c:=[.int .u8 128]) (k:=(fun b10=>?_))
 refine E9 (i:=4) (ch:=[]) (t:=22) (tx:=22) (e:=5) (inf:=Tryz.t5) (s:=.slice a6 l.length cap7) (x:=.slice (some ⟨b10,0,none⟩) 1 1) (n:=l.length) (m:=1) (j:=1) (cs:=(u8s l)) (news:=[.int .u8 128]) (g:=g4) (S:=(inG [(b10,.cells #[.int .u8 128] 5 (0,0))])) rfl rfl rfl rfl kr kr kr rfl rfl (.inl ⟨5,kr⟩) (fun ⟨_,h⟩=>by cases h) (fun _=>⟨5,kr⟩) kr kr kr rfl hO5 (SrcOf.slice _ _ _ _ Rd.lit (fun h=>by cases h)) (C9 0 rfl) rfl (by intro u hu; rw [List.mem_singleton.1 hu]; rfl) (by omega) (by show (l.length+1) * 1≤140737488355328; omega) (fun v11 g12 hO13=>?_)
 obtain ⟨a14,cap15,rfl,hcap16,hrd17⟩:=hO13.shape
 refine C4 [0] [0,3] (k:=A0 ?_)
 refine A1 (C5 ?_)
 refine R8 (H':=(g12::H)) (fun w h=>(h.erase 0)) (I8 (EI:=(fun ξ:Nat × Option Addr × Nat × Grp=>[⟨0,[],.slice ξ.2.1 (l.length+1+ξ.1) ξ.2.2.1⟩,⟨3,[],.int .i64 ((8 * l.length:Nat):Int)⟩])) (HI:=(fun ξ:Nat × Option Addr × Nat × Grp=>(ξ.2.2.2::H))) (Φ:=(fun ξ:Nat × Option Addr × Nat × Grp=>(ξ.1≤padZ l.length)∧(Go.Sw.Own 5 1 (.slice ξ.2.1 (l.length+1+ξ.1) ξ.2.2.1) ξ.2.2.2 (l.length+1+ξ.1) (u8s (padK l ξ.1))))) (μ:=(fun ξ:Nat × Option Addr × Nat × Grp=>padZ l.length - ξ.1)) (s0:=(0,a14,cap15,g12)) [0,3] kr rfl ⟨(Nat.zero_le _),(own_u8n hO13 (by omega) (padK_zero l))⟩ ?_)
 rintro ⟨k,a,c,g⟩ ⟨hk,ho⟩
 dsimp only at hk ho
 have hpz:=(pad_mod l.length).2
 refine A1 (A1 ?_)
 refine A2 (A7 (j:=3) [0,0,0] (k:=?_))
 have hw18:Int.tmod (((l.length+1+k):Nat):Int) 64=(((l.length+1+k):Nat):Int) % 64:=r64 (by omega)
 refine GL_w 35 hw18 kr (C4 [0] [0,3,36] (k:=?_))
 refine A0 (C6 (b:=((((l.length+1+k):Nat):Int) % 64) != 56) kr (fun hc19=>?_) (fun hc19=>?_))
 ·
  have hlt:=(pad_more hk).1 hc19
  refine B5 (A0 ?_)
  refine C5 (A2 ?_)
  refine A7 (j:=1) [0] (k:=C2 (ch:=[]) (e:=5) (l:=[(0,.int .u8 0)]) (c:=[.int .u8 0]) (k:=(fun b20=>?_)))
  refine E9 (i:=2) (ch:=[]) (t:=22) (tx:=22) (e:=5) (inf:=Tryz.t5) (s:=.slice a (l.length+1+k) c) (x:=.slice (some ⟨b20,0,none⟩) 1 1) (n:=(l.length+1+k)) (m:=1) (j:=1) (cs:=(u8s (padK l k))) (news:=[.int .u8 0]) (g:=g) (S:=(inG [(b20,.cells #[.int .u8 0] 5 (0,0))])) rfl rfl rfl rfl kr kr kr rfl rfl (.inl ⟨5,kr⟩) (fun ⟨_,h⟩=>by cases h) (fun _=>⟨5,kr⟩) kr kr kr rfl ho (SrcOf.slice _ _ _ _ Rd.lit (fun h=>by cases h)) (C9 0 rfl) rfl (by intro u hu; rw [List.mem_singleton.1 hu]; rfl) (by omega) (by show ((l.length+1+k)+1) * 1≤140737488355328; omega) (fun v21 g22 hO23=>?_)
  obtain ⟨a24,cap25,rfl,hcap26,hrd27⟩:=hO23.shape
  refine C4 [0] [0,3] (k:=D5 ?_)
  refine E0 (H':=(g22::H)) (fun w h=>(h.erase 0)) (E5 (s':=(k+1,a24,cap25,g22)) [0,3] kr rfl ⟨(by dsimp only; omega),(own_u8n hO23 (by omega) (padK_succ l k))⟩ (by dsimp only; omega))
 ·
  have hke:k=padZ l.length:=(pad_more hk).2 hc19
  refine G6 (A8 ?_)
  refine A8 (C7 ?_)
  refine A0 (A1 ?_)
  refine A1 (G_p [0] [0,3,4] (k:=?_))
  refine A0 (C5 ?_)
  refine I8 (EI:=(fun ξ:Nat × Option Addr × Nat × Grp=>[⟨0,[],.slice ξ.2.1 (l.length+1+k+ξ.1) ξ.2.2.1⟩,⟨3,[],.int .i64 ((8 * l.length:Nat):Int)⟩,⟨4,[],.int .i64 (7 - ((ξ.1:Nat):Int))⟩])) (HI:=(fun ξ:Nat × Option Addr × Nat × Grp=>(ξ.2.2.2::H))) (Φ:=(fun ξ:Nat × Option Addr × Nat × Grp=>(ξ.1≤8)∧(Go.Sw.Own 5 1 (.slice ξ.2.1 (l.length+1+k+ξ.1) ξ.2.2.1) ξ.2.2.2 (l.length+1+k+ξ.1) (u8s (padK l k)++u8s ((T8 ((8 * l.length:Nat):Int)).take ξ.1))))) (μ:=(fun ξ:Nat × Option Addr × Nat × Grp=>8 - ξ.1)) (s0:=(0,a,c,g)) [0,3,4] kr rfl ⟨(Nat.zero_le _),(own_u8n ho rfl (by rw [List.take_zero]; exact (List.append_nil _).symm))⟩ ?_
  rintro ⟨j,a,c,g⟩ ⟨hj,ho⟩
  dsimp only at hj ho
  refine A1 (A1 ?_)
  refine G_p [0,0] [0,3,4,41] (k:=A0 ?_)
  refine C6 (b:=decide ((7 - ((j:Nat):Int)) ≥ 0)) kr (fun hc28=>?_) (fun hc28=>?_)
  ·
   have hj9:=of_decide_eq_true hc28
   refine B5 (A0 ?_)
   refine A1 (C5 ?_)
   refine A2 (A7 (j:=4) [0,0,0,0] (k:=?_))
   refine F2 47 (8 * (7 - ((j:Nat):Int))) (by omega) (by omega) kr (A7 (j:=5) [0] (k:=?_))
   refine GL_shr (i:=5) (ch:=[]) (kd:=.i64) (ky:=.u64) (a:=((8 * l.length:Nat):Int)) (b:=IntKind.wrap .u64 (8 * (7 - ((j:Nat):Int)))) rfl rfl kr kr kr kr kr (e8_sh j) (A7 (j:=7) [0] (k:=?_))
   refine C2 (ch:=[]) (e:=5) (l:=[(0,.int .u8 (IntKind.wrap .u8 (Int.fdiv ((8 * l.length:Nat):Int) (2 ^ (min (Int.toNat (IntKind.wrap .u64 (8 * (7 - ((j:Nat):Int))))) (IntKind.bits .i64))))))]) (c:=[.int .u8 (IntKind.wrap .u8 (Int.fdiv ((8 * l.length:Nat):Int) (2 ^ (min (Int.toNat (IntKind.wrap .u64 (8 * (7 - ((j:Nat):Int))))) (IntKind.bits .i64)))))]) (k:=(fun b30=>?_))
   refine E9 (i:=8) (ch:=[]) (t:=22) (tx:=22) (e:=5) (inf:=Tryz.t5) (s:=.slice a (l.length+1+k+j) c) (x:=.slice (some ⟨b30,0,none⟩) 1 1) (n:=(l.length+1+k+j)) (m:=1) (j:=1) (cs:=(u8s (padK l k)++u8s ((T8 ((8 * l.length:Nat):Int)).take j))) (news:=[.int .u8 (IntKind.wrap .u8 (Int.fdiv ((8 * l.length:Nat):Int) (2 ^ (min (Int.toNat (IntKind.wrap .u64 (8 * (7 - ((j:Nat):Int))))) (IntKind.bits .i64)))))]) (g:=g) (S:=(inG [(b30,.cells #[.int .u8 (IntKind.wrap .u8 (Int.fdiv ((8 * l.length:Nat):Int) (2 ^ (min (Int.toNat (IntKind.wrap .u64 (8 * (7 - ((j:Nat):Int))))) (IntKind.bits .i64)))))] 5 (0,0))])) rfl rfl rfl rfl kr kr kr rfl rfl (.inl ⟨5,kr⟩) (fun ⟨_,h⟩=>by cases h) (fun _=>⟨5,kr⟩) kr kr kr rfl ho (SrcOf.slice _ _ _ _ Rd.lit (fun h=>by cases h)) (C9 0 rfl) rfl (by intro u hu; rw [List.mem_singleton.1 hu]; rfl) (by omega) (by show ((l.length+1+k+j)+1) * 1≤140737488355328; omega) (fun v31 g32 hO33=>?_)
   obtain ⟨a34,cap35,rfl,hcap36,hrd37⟩:=hO33.shape
   refine C4 [0] [0,3,4] (k:=D5 ?_)
   refine A0 (A2 ?_)
   refine A7 (j:=2) [0,0] (k:=F2 43 ((7 - ((j:Nat):Int)) - 1) (by omega) (by omega) kr ?_)
   refine C4 [0] [0,3,4] (k:=H8 (E':=[⟨0,[],.slice a34 ((l.length+1+k+j)+1) cap35⟩,⟨3,[],.int .i64 ((8 * l.length:Nat):Int)⟩,⟨4,[],.int .i64 ((7 - ((j:Nat):Int)) - 1)⟩]) kr ?_)
   refine H8 (E':=[⟨0,[],.slice a34 ((l.length+1+k+j)+1) cap35⟩,⟨3,[],.int .i64 ((8 * l.length:Nat):Int)⟩,⟨4,[],.int .i64 (7 - ((j+1:Nat):Int))⟩]) (by rw [show 7 - ((j+1:Nat):Int)=7 - ((j:Nat):Int) - 1 by omega]) (E0 (H':=(g32::H)) (fun w h=>(h.erase 0)) ?_)
   refine E5 (s':=(j+1,a34,cap35,g32)) [0,3,4] kr rfl ⟨(by dsimp only; omega),(own_u8n hO33 rfl (e8_step _ _ (by omega) (e8_val _ (by omega))))⟩ (by dsimp only; omega)
  ·
   have hj8:j=8:=by (have h9:=of_decide_eq_false hc28; omega)
   refine G6 (A8 ?_)
   refine A8 (C7 ?_)
   refine A0 (A1 ?_)
   refine A2 (G2 Tryz.func100 (tables_ _ _) ?_)
   rintro v H' ⟨ah39,ch40,gh41,ak42,ck43,gk44,rfl,hOh45,hOk46,rfl⟩
   refine C4 [0,0,0,0,0] [0,5,6] (k:=A0 ?_)
   refine A1 (C5 ?_)
   obtain ⟨hm6,hP⟩:=padB_m l hke
   have hO6:=own_u8n (m:=l.length+1+k+8) ho (by omega) (e8_all l hke hj8)
   have hc6:l.length+1+k+8≤c:=ownC_cap hO6
   obtain ⟨m,hm⟩:∃ m,m=((H4 l).length / 64):=⟨_,rfl⟩
   rw [← hm] at hm6 hP
   refine G_env (E':=[⟨0,[],.slice a (l.length+1+k+j) c⟩,⟨5,[],.slice ah39 8 ch40⟩,⟨6,[],.slice ak42 64 ck43⟩]) kr (I8 (EI:=(fun ξ:Nat × Option Addr × Nat × Option Addr × Nat × Grp × S8=>[⟨0,[],.slice ξ.2.1 (64 * (m - ξ.1)) ξ.2.2.1⟩,⟨5,[],.slice ξ.2.2.2.1 8 ξ.2.2.2.2.1⟩,⟨6,[],.slice ak42 64 ck43⟩])) (HI:=(fun ξ:Nat × Option Addr × Nat × Option Addr × Nat × Grp × S8=>(ξ.2.2.2.2.2.1::gk44::g::H))) (Φ:=(fun ξ:Nat × Option Addr × Nat × Option Addr × Nat × Grp × S8=>(ξ.1≤m)∧(Rd (inG g) ξ.2.1 ((u8s (H4 l)).drop (64 * ξ.1)))∧(64 * (m - ξ.1)≤ξ.2.2.1)∧(ξ.2.2.2.2.2.2=fN (H4 l) ξ.1)∧(Go.Sw.Own 144 1 (.slice ξ.2.2.2.1 8 ξ.2.2.2.2.1) ξ.2.2.2.2.2.1 8 (H6 (S8l ξ.2.2.2.2.2.2))))) (μ:=(fun ξ:Nat × Option Addr × Nat × Option Addr × Nat × Grp × S8=>m - ξ.1)) (s0:=(0,a,c,ah39,ch40,gh41,hIni)) [0,5,6] (by rw [show l.length+1+k+j=64 * (m - 0) by omega]; rfl) rfl ⟨(Nat.zero_le _),(rd_first hO6),(by dsimp only; omega),rfl,(Z9 hOh45 (by rw [← h_tab]))⟩ ?_)
   rintro ⟨q,aq,cq,a5,c5,g5,fs⟩ ⟨hq,hrq,hcq,hfs,ho5⟩
   dsimp only at hq hrq hcq hfs ho5
   refine A1 (A1 ?_)
   refine G_p [0,0,0] [0,5,6,59] (k:=A0 ?_)
   refine C6 (b:=decide ((((64 * (m - q)):Nat):Int) > 0)) kr (fun hc47=>?_) (fun hc47=>?_)
   ·
    have hlt:q<m:=by (have h9:=of_decide_eq_true hc47; omega)
    obtain ⟨B,hB⟩:∃ B,B=cB (H4 l) q:=⟨_,rfl⟩
    refine B5 (A0 ?_)
    refine A1 (C5 ?_)
    refine A1 (G_p [0] [0,5,6,7] (k:=?_))
    refine A0 (A1 ?_)
    refine A1 (G_p [0] [0,5,6,7,8] (k:=?_))
    refine A0 (C5 ?_)
    refine R8 (H':=([]::g5::gk44::g::H)) (fun w h=>Sat.flat h (List.Perm.refl _)) (I8 (EI:=(fun ξ:Nat × Option Addr × Nat × Grp=>[⟨0,[],.slice aq (64 * (m - q)) cq⟩,⟨5,[],.slice a5 8 c5⟩,⟨6,[],.slice ak42 64 ck43⟩,⟨7,[],.slice ξ.2.1 ξ.1 ξ.2.2.1⟩,⟨8,[],.int .i64 ((ξ.1:Nat):Int)⟩])) (HI:=(fun ξ:Nat × Option Addr × Nat × Grp=>(ξ.2.2.2::g5::gk44::g::H))) (Φ:=(fun ξ:Nat × Option Addr × Nat × Grp=>(ξ.1≤64)∧(Go.Sw.Own 144 1 (.slice ξ.2.1 ξ.1 ξ.2.2.1) ξ.2.2.2 ξ.1 (H6 (F7 B ξ.1))))) (μ:=(fun ξ:Nat × Option Addr × Nat × Grp=>64 - ξ.1)) (s0:=(0,none,0,[])) [0,5,6,7,8] kr rfl ⟨(Nat.zero_le _),Go.Sw.Own.nil⟩ ?_)
    rintro ⟨n,aw,cw,gw⟩ ⟨hn64,how⟩
    dsimp only at hn64 how
    refine A1 (A1 ?_)
    refine G_p [0,0] [0,5,6,7,8,63] (k:=A0 ?_)
    refine C6 (b:=decide (((n:Nat):Int)<64)) kr (fun hc48=>?_) (fun hc48=>?_)
    ·
     replace hc48:=of_decide_eq_true hc48
     refine B5 (A0 ?_)
     refine A1 (C5 ?_)
     refine A1 (A1 ?_)
     refine G_p [0,0] [0,5,6,7,8,67] (k:=A0 ?_)
     refine C6 (b:=decide (((n:Nat):Int)<16)) kr (fun hc49=>?_) (fun hc49=>?_)
     ·
      have hlo:n<16:=by (have h9:=of_decide_eq_true hc49; omega)
      refine A1 (D7 (g5::gk44::g::H) kr ?_)
      refine D0 (fuel:=33) [(0,0),(1,0),(2,0),(3,0)] (fun w h=>(h.erase 0)) (k:=O7 71 (4 * ((n:Nat):Int)) (by omega) (by omega) kr ?_)
      refine A9 4 (hL:=(fun w h=>(h.erase 0))) (hy:=B7 (i:=4) (ch:=[]) (a:=aq) (len:=(64 * (m - q))) (cap:=cq) (kd:=.i64) (j:=4 * ((n:Nat):Int)) (e:=5) (sz:=1) (S:=(inG g)) (cs:=((u8s (H4 l)).drop (64 * q))) (hrd:=hrq) (hb:=(fun _=>by exact ⟨by omega,by omega,drop_ne hP hlt⟩)) (k:=B1 kr rfl)) (k:=A9 5 kr (fun w h=>(h.erase 0)) (D4 (i:=5) (ch:=[]) (a:=aq) (q:=(Int.toNat (4 * ((n:Nat):Int))) * 1) (S:=(inG g)) (cs:=((u8s (H4 l)).drop (64 * q))) (v:=.int .u8 (B (4 * n))) rfl rfl kr kr kr kr kr hrq (C9 2 rfl) (fun _=>(by rw [hB]; exact cell_at (H4 l) hP hlt (j:=4 * n) (by omega) (by omega))) (B1 kr rfl)) ?_)
      refine D0 (fuel:=26) [(6,0),(7,0),(8,0),(9,0),(10,0)] (fun w h=>(h.erase 0)) (k:=O7 78 (4 * ((n:Nat):Int)) (by omega) (by omega) kr ?_)
      refine D0 (fuel:=25) [(11,0)] (fun w h=>(h.erase 0)) (k:=O7 79 ((4 * ((n:Nat):Int))+1) (by omega) (by omega) kr ?_)
      refine A9 12 (hL:=(fun w h=>(h.erase 0))) (hy:=B7 (i:=12) (ch:=[]) (a:=aq) (len:=(64 * (m - q))) (cap:=cq) (kd:=.i64) (j:=(4 * ((n:Nat):Int))+1) (e:=5) (sz:=1) (S:=(inG g)) (cs:=((u8s (H4 l)).drop (64 * q))) (hrd:=hrq) (hb:=(fun _=>by exact ⟨by omega,by omega,drop_ne hP hlt⟩)) (k:=B1 kr rfl)) (k:=A9 13 kr (fun w h=>(h.erase 0)) (D4 (i:=13) (ch:=[]) (a:=aq) (q:=(Int.toNat ((4 * ((n:Nat):Int))+1)) * 1) (S:=(inG g)) (cs:=((u8s (H4 l)).drop (64 * q))) (v:=.int .u8 (B (4 * n+1))) rfl rfl kr kr kr kr kr hrq (C9 2 rfl) (fun _=>(by rw [hB]; exact cell_at (H4 l) hP hlt (j:=4 * n+1) (by omega) (by omega))) (B1 kr rfl)) ?_)
      refine D0 (fuel:=17) [(14,0),(15,0),(16,0),(17,0),(18,0),(19,0)] (fun w h=>(h.erase 0)) (k:=O7 87 (4 * ((n:Nat):Int)) (by omega) (by omega) kr ?_)
      refine D0 (fuel:=16) [(20,0)] (fun w h=>(h.erase 0)) (k:=O7 88 ((4 * ((n:Nat):Int))+2) (by omega) (by omega) kr ?_)
      refine A9 21 (hL:=(fun w h=>(h.erase 0))) (hy:=B7 (i:=21) (ch:=[]) (a:=aq) (len:=(64 * (m - q))) (cap:=cq) (kd:=.i64) (j:=(4 * ((n:Nat):Int))+2) (e:=5) (sz:=1) (S:=(inG g)) (cs:=((u8s (H4 l)).drop (64 * q))) (hrd:=hrq) (hb:=(fun _=>by exact ⟨by omega,by omega,drop_ne hP hlt⟩)) (k:=B1 kr rfl)) (k:=A9 22 kr (fun w h=>(h.erase 0)) (D4 (i:=22) (ch:=[]) (a:=aq) (q:=(Int.toNat ((4 * ((n:Nat):Int))+2)) * 1) (S:=(inG g)) (cs:=((u8s (H4 l)).drop (64 * q))) (v:=.int .u8 (B (4 * n+2))) rfl rfl kr kr kr kr kr hrq (C9 2 rfl) (fun _=>(by rw [hB]; exact cell_at (H4 l) hP hlt (j:=4 * n+2) (by omega) (by omega))) (B1 kr rfl)) ?_)
      refine D0 (fuel:=8) [(23,0),(24,0),(25,0),(26,0),(27,0),(28,0)] (fun w h=>(h.erase 0)) (k:=O7 96 (4 * ((n:Nat):Int)) (by omega) (by omega) kr ?_)
      refine D0 (fuel:=7) [(29,0)] (fun w h=>(h.erase 0)) (k:=O7 97 ((4 * ((n:Nat):Int))+3) (by omega) (by omega) kr ?_)
      refine A9 30 (hL:=(fun w h=>(h.erase 0))) (hy:=B7 (i:=30) (ch:=[]) (a:=aq) (len:=(64 * (m - q))) (cap:=cq) (kd:=.i64) (j:=(4 * ((n:Nat):Int))+3) (e:=5) (sz:=1) (S:=(inG g)) (cs:=((u8s (H4 l)).drop (64 * q))) (hrd:=hrq) (hb:=(fun _=>by exact ⟨by omega,by omega,drop_ne hP hlt⟩)) (k:=B1 kr rfl)) (k:=A9 31 kr (fun w h=>(h.erase 0)) (D4 (i:=31) (ch:=[]) (a:=aq) (q:=(Int.toNat ((4 * ((n:Nat):Int))+3)) * 1) (S:=(inG g)) (cs:=((u8s (H4 l)).drop (64 * q))) (v:=.int .u8 (B (4 * n+3))) rfl rfl kr kr kr kr kr hrq (C9 2 rfl) (fun _=>(by rw [hB]; exact cell_at (H4 l) hP hlt (j:=4 * n+3) (by omega) (by omega))) (B1 kr rfl)) ?_)
      refine D0 (fuel:=3) [(32,0),(33,0)] (fun w h=>(h.erase 0)) (k:=B9 34 (k:=?_))
      refine C2 (ch:=[]) (e:=144) (l:=[(0,.int .u32 (IntKind.wrap .u32 ((IntKind.wrap .u32 ((IntKind.wrap .u32 ((IntKind.wrap .u32 ((IntKind.wrap .u32 (B (4 * n))) * 16777216))+(IntKind.wrap .u32 ((IntKind.wrap .u32 (B (4 * n+1))) * 65536))))+(IntKind.wrap .u32 ((IntKind.wrap .u32 (B (4 * n+2))) * 256))))+(IntKind.wrap .u32 (B (4 * n+3))))))]) (c:=[.int .u32 (IntKind.wrap .u32 ((IntKind.wrap .u32 ((IntKind.wrap .u32 ((IntKind.wrap .u32 ((IntKind.wrap .u32 (B (4 * n))) * 16777216))+(IntKind.wrap .u32 ((IntKind.wrap .u32 (B (4 * n+1))) * 65536))))+(IntKind.wrap .u32 ((IntKind.wrap .u32 (B (4 * n+2))) * 256))))+(IntKind.wrap .u32 (B (4 * n+3)))))]) (k:=(fun b57=>?_))
      refine A6 kr (fun w h=>((h.erase 1).erase 0)) (I0 ([(b57,.cells #[.int .u32 (IntKind.wrap .u32 ((IntKind.wrap .u32 ((IntKind.wrap .u32 ((IntKind.wrap .u32 ((IntKind.wrap .u32 (B (4 * n))) * 16777216))+(IntKind.wrap .u32 ((IntKind.wrap .u32 (B (4 * n+1))) * 65536))))+(IntKind.wrap .u32 ((IntKind.wrap .u32 (B (4 * n+2))) * 256))))+(IntKind.wrap .u32 (B (4 * n+3)))))] 144 (0,0))]::g5::gk44::g::H) (fun w h=>(h.erase 0)) ?_)
      refine B9 35 (k:=E9 (i:=35) (ch:=[]) (t:=141) (tx:=141) (e:=144) (inf:=Tryz.t144) (s:=.slice aw n cw) (x:=.slice (some ⟨b57,0,none⟩) 1 1) (n:=n) (m:=1) (j:=1) (cs:=(H6 (F7 B n))) (news:=[.int .u32 (IntKind.wrap .u32 ((IntKind.wrap .u32 ((IntKind.wrap .u32 ((IntKind.wrap .u32 ((IntKind.wrap .u32 (B (4 * n))) * 16777216))+(IntKind.wrap .u32 ((IntKind.wrap .u32 (B (4 * n+1))) * 65536))))+(IntKind.wrap .u32 ((IntKind.wrap .u32 (B (4 * n+2))) * 256))))+(IntKind.wrap .u32 (B (4 * n+3)))))]) (g:=gw) (S:=(inG [(b57,.cells #[.int .u32 (IntKind.wrap .u32 ((IntKind.wrap .u32 ((IntKind.wrap .u32 ((IntKind.wrap .u32 ((IntKind.wrap .u32 (B (4 * n))) * 16777216))+(IntKind.wrap .u32 ((IntKind.wrap .u32 (B (4 * n+1))) * 65536))))+(IntKind.wrap .u32 ((IntKind.wrap .u32 (B (4 * n+2))) * 256))))+(IntKind.wrap .u32 (B (4 * n+3)))))] 144 (0,0))])) rfl rfl rfl rfl kr kr kr rfl rfl (.inl ⟨144,kr⟩) (fun ⟨_,h⟩=>by cases h) (fun _=>⟨144,kr⟩) kr kr kr rfl how (SrcOf.slice _ _ _ _ Rd.lit (fun h=>by cases h)) (C9 0 rfl) rfl u32_one (by omega) (by show (n+1) * 4≤140737488355328; omega) (fun v58 g59 hO60=>?_))
      obtain ⟨a61,cap62,rfl,hcap63,hrd64⟩:=hO60.shape
      refine A6 kr (fun w h=>(h.erase 1)) (D0 (fuel:=0) [(36,0)] (fun w h=>(h.erase 1)) (k:=?_))
      refine D8 (E':=[⟨0,[],.slice aq (64 * (m - q)) cq⟩,⟨5,[],.slice a5 8 c5⟩,⟨6,[],.slice ak42 64 ck43⟩,⟨7,[],.slice a61 (n+1) cap62⟩,⟨8,[],.int .i64 ((n:Nat):Int)⟩]) [0,5,6,7,8] (k:=A0 ?_)
      refine G6 (A8 ?_)
      refine C7 (A0 ?_)
      refine A2 (A7 (j:=2) [0,0] (k:=?_))
      refine F2 65 (((n:Nat):Int)+1) (by omega) (by omega) kr (C4 [0] [0,5,6,7,8] (k:=?_))
      refine E0 (H':=(g59::g5::gk44::g::H)) (fun w h=>(h.erase 0)) (E5 (s':=(n+1,a61,cap62,g59)) [0,5,6,7,8] kr rfl ⟨(by dsimp only; omega),(Z9 hO60 (by subst hB; exact w_lo _ _ hlo rfl))⟩ (by dsimp only; omega))
     ·
      have hhi:¬ n<16:=by (have h9:=of_decide_eq_false hc49; omega)
      refine B5 (A0 ?_)
      refine A1 (K4 (k:=?_))
      refine A7 (j:=3) [0,0,0] (k:=F2 106 (((n:Nat):Int) - 15) (by omega) (by omega) kr ?_)
      refine B7 (ch:=[]) (a:=aw) (len:=n) (cap:=cw) (kd:=.i64) (j:=((n:Nat):Int) - 15) (e:=144) (sz:=1) (S:=(inG gw)) (cs:=(H6 (F7 B n))) (hrd:=D6 how) (hb:=(fun _=>by exact ⟨by omega,by omega,Y6 (k:=0) (by rw [J5]; omega)⟩)) (k:=D4 (ch:=[]) (a:=aw) (q:=(Int.toNat (((n:Nat):Int) - 15)) * 1) (S:=(inG gw)) (cs:=(H6 (F7 B n))) (v:=.int .u32 ((F7 B n).getD (n - 15) 0)) (hrd:=D6 how) (hS:=C9 0 rfl) (hv:=(fun _=>(S7 (by omega) (by rw [J5]; omega)))) (k:=?_))
      refine F6 Tryz.func101 (turn7 ((F7 B n).getD (n - 15) 0) _ _) (A7 (j:=9) [0,0,0] (k:=?_))
      refine F2 112 (((n:Nat):Int) - 15) (by omega) (by omega) kr (B7 (ch:=[]) (a:=aw) (len:=n) (cap:=cw) (kd:=.i64) (j:=((n:Nat):Int) - 15) (e:=144) (sz:=1) (S:=(inG gw)) (cs:=(H6 (F7 B n))) (hrd:=D6 how) (hb:=(fun _=>by exact ⟨by omega,by omega,Y6 (k:=0) (by rw [J5]; omega)⟩)) (k:=?_))
      refine D4 (ch:=[]) (a:=aw) (q:=(Int.toNat (((n:Nat):Int) - 15)) * 1) (S:=(inG gw)) (cs:=(H6 (F7 B n))) (v:=.int .u32 ((F7 B n).getD (n - 15) 0)) (hrd:=D6 how) (hS:=C9 0 rfl) (hv:=(fun _=>(S7 (by omega) (by rw [J5]; omega)))) (k:=F6 Tryz.func101 (turn18 ((F7 B n).getD (n - 15) 0) _ _) ?_)
      refine A7 (j:=16) [0,0,0,0] (k:=F2 119 (((n:Nat):Int) - 15) (by omega) (by omega) kr ?_)
      refine B7 (ch:=[]) (a:=aw) (len:=n) (cap:=cw) (kd:=.i64) (j:=((n:Nat):Int) - 15) (e:=144) (sz:=1) (S:=(inG gw)) (cs:=(H6 (F7 B n))) (hrd:=D6 how) (hb:=(fun _=>by exact ⟨by omega,by omega,Y6 (k:=0) (by rw [J5]; omega)⟩)) (k:=D4 (ch:=[]) (a:=aw) (q:=(Int.toNat (((n:Nat):Int) - 15)) * 1) (S:=(inG gw)) (cs:=(H6 (F7 B n))) (v:=.int .u32 ((F7 B n).getD (n - 15) 0)) (hrd:=D6 how) (hS:=C9 0 rfl) (hv:=(fun _=>(S7 (by omega) (by rw [J5]; omega)))) (k:=?_))
      refine D3 (E':=[⟨0,[],.slice aq (64 * (m - q)) cq⟩,⟨5,[],.slice a5 8 c5⟩,⟨6,[],.slice ak42 64 ck43⟩,⟨7,[],.slice aw n cw⟩,⟨8,[],.int .i64 ((n:Nat):Int)⟩,⟨9,[],.int .u32 (IntKind.wrap .u32 ((BitVec.ofInt (IntKind.bits .u32) (IntKind.wrap .u32 ((BitVec.ofInt (IntKind.bits .u32) (V8 ((F7 B n).getD (n - 15) 0) 7) ^^^ BitVec.ofInt (IntKind.bits .u32) (V8 ((F7 B n).getD (n - 15) 0) 18)).toNat)) ^^^ BitVec.ofInt (IntKind.bits .u32) (Int.fdiv ((F7 B n).getD (n - 15) 0) (2 ^ 3))).toNat))⟩]) [0,0,0] [0,5,6,7,8,9] (k:=H8 (E':=[⟨0,[],.slice aq (64 * (m - q)) cq⟩,⟨5,[],.slice a5 8 c5⟩,⟨6,[],.slice ak42 64 ck43⟩,⟨7,[],.slice aw n cw⟩,⟨8,[],.int .i64 ((n:Nat):Int)⟩,⟨9,[],.int .u32 (sg0 ((F7 B n).getD (n - 15) 0))⟩]) kr ?_)
      refine A0 (A1 ?_)
      refine K4 (k:=A7 (j:=3) [0,0,0] (k:=?_))
      refine F2 126 (((n:Nat):Int) - 2) (by omega) (by omega) kr (B7 (ch:=[]) (a:=aw) (len:=n) (cap:=cw) (kd:=.i64) (j:=((n:Nat):Int) - 2) (e:=144) (sz:=1) (S:=(inG gw)) (cs:=(H6 (F7 B n))) (hrd:=D6 how) (hb:=(fun _=>by exact ⟨by omega,by omega,Y6 (k:=0) (by rw [J5]; omega)⟩)) (k:=?_))
      refine D4 (ch:=[]) (a:=aw) (q:=(Int.toNat (((n:Nat):Int) - 2)) * 1) (S:=(inG gw)) (cs:=(H6 (F7 B n))) (v:=.int .u32 ((F7 B n).getD (n - 2) 0)) (hrd:=D6 how) (hS:=C9 0 rfl) (hv:=(fun _=>(S7 (by omega) (by rw [J5]; omega)))) (k:=F6 Tryz.func101 (turn17 ((F7 B n).getD (n - 2) 0) _ _) ?_)
      refine A7 (j:=9) [0,0,0] (k:=F2 132 (((n:Nat):Int) - 2) (by omega) (by omega) kr ?_)
      refine B7 (ch:=[]) (a:=aw) (len:=n) (cap:=cw) (kd:=.i64) (j:=((n:Nat):Int) - 2) (e:=144) (sz:=1) (S:=(inG gw)) (cs:=(H6 (F7 B n))) (hrd:=D6 how) (hb:=(fun _=>by exact ⟨by omega,by omega,Y6 (k:=0) (by rw [J5]; omega)⟩)) (k:=D4 (ch:=[]) (a:=aw) (q:=(Int.toNat (((n:Nat):Int) - 2)) * 1) (S:=(inG gw)) (cs:=(H6 (F7 B n))) (v:=.int .u32 ((F7 B n).getD (n - 2) 0)) (hrd:=D6 how) (hS:=C9 0 rfl) (hv:=(fun _=>(S7 (by omega) (by rw [J5]; omega)))) (k:=?_))
      refine F6 Tryz.func101 (turn19 ((F7 B n).getD (n - 2) 0) _ _) (A7 (j:=16) [0,0,0,0] (k:=?_))
      refine F2 139 (((n:Nat):Int) - 2) (by omega) (by omega) kr (B7 (ch:=[]) (a:=aw) (len:=n) (cap:=cw) (kd:=.i64) (j:=((n:Nat):Int) - 2) (e:=144) (sz:=1) (S:=(inG gw)) (cs:=(H6 (F7 B n))) (hrd:=D6 how) (hb:=(fun _=>by exact ⟨by omega,by omega,Y6 (k:=0) (by rw [J5]; omega)⟩)) (k:=?_))
      refine D4 (ch:=[]) (a:=aw) (q:=(Int.toNat (((n:Nat):Int) - 2)) * 1) (S:=(inG gw)) (cs:=(H6 (F7 B n))) (v:=.int .u32 ((F7 B n).getD (n - 2) 0)) (hrd:=D6 how) (hS:=C9 0 rfl) (hv:=(fun _=>(S7 (by omega) (by rw [J5]; omega)))) (k:=D3 (E':=[⟨0,[],.slice aq (64 * (m - q)) cq⟩,⟨5,[],.slice a5 8 c5⟩,⟨6,[],.slice ak42 64 ck43⟩,⟨7,[],.slice aw n cw⟩,⟨8,[],.int .i64 ((n:Nat):Int)⟩,⟨9,[],.int .u32 (sg0 ((F7 B n).getD (n - 15) 0))⟩,⟨10,[],.int .u32 (IntKind.wrap .u32 ((BitVec.ofInt (IntKind.bits .u32) (IntKind.wrap .u32 ((BitVec.ofInt (IntKind.bits .u32) (V8 ((F7 B n).getD (n - 2) 0) 17) ^^^ BitVec.ofInt (IntKind.bits .u32) (V8 ((F7 B n).getD (n - 2) 0) 19)).toNat)) ^^^ BitVec.ofInt (IntKind.bits .u32) (Int.fdiv ((F7 B n).getD (n - 2) 0) (2 ^ 10))).toNat))⟩]) [0,0,0] [0,5,6,7,8,9,10] (k:=?_))
      refine H8 (E':=[⟨0,[],.slice aq (64 * (m - q)) cq⟩,⟨5,[],.slice a5 8 c5⟩,⟨6,[],.slice ak42 64 ck43⟩,⟨7,[],.slice aw n cw⟩,⟨8,[],.int .i64 ((n:Nat):Int)⟩,⟨9,[],.int .u32 (sg0 ((F7 B n).getD (n - 15) 0))⟩,⟨10,[],.int .u32 (sg1 ((F7 B n).getD (n - 2) 0))⟩]) kr (A0 ?_)
      refine D7 (g5::gk44::g::H) kr (D0 (fuel:=15) [(0,0),(1,0),(2,0),(3,0)] (fun w h=>(h.erase 0)) (k:=?_))
      refine O7 147 (((n:Nat):Int) - 16) (by omega) (by omega) kr (A9 4 (hL:=(fun w h=>(h.erase 0))) (hy:=B7 (i:=4) (ch:=[]) (a:=aw) (len:=n) (cap:=cw) (kd:=.i64) (j:=((n:Nat):Int) - 16) (e:=144) (sz:=1) (S:=(inG gw)) (cs:=(H6 (F7 B n))) (hrd:=D6 how) (hb:=(fun _=>by exact ⟨by omega,by omega,Y6 (k:=0) (by rw [J5]; omega)⟩)) (k:=B1 kr rfl)) (k:=?_))
      refine D0 (fuel:=10) [(6,0),(8,0),(9,0),(10,0)] (fun w h=>(h.erase 0)) (k:=O7 154 (((n:Nat):Int) - 7) (by omega) (by omega) kr ?_)
      refine A9 11 (hL:=(fun w h=>(h.erase 0))) (hy:=B7 (i:=11) (ch:=[]) (a:=aw) (len:=n) (cap:=cw) (kd:=.i64) (j:=((n:Nat):Int) - 7) (e:=144) (sz:=1) (S:=(inG gw)) (cs:=(H6 (F7 B n))) (hrd:=D6 how) (hb:=(fun _=>by exact ⟨by omega,by omega,Y6 (k:=0) (by rw [J5]; omega)⟩)) (k:=B1 kr rfl)) (k:=D0 (fuel:=8) [(14,0)] (fun w h=>(h.erase 0)) (k:=?_))
      refine O0 5 12 (k:=?_) (k':=?_)
      ·
       refine D4 (ch:=[]) (a:=aw) (q:=(Int.toNat (((n:Nat):Int) - 16)) * 1) (S:=(inG gw)) (cs:=(H6 (F7 B n))) (v:=.int .u32 ((F7 B n).getD (n - 16) 0)) (hrd:=D6 how) (hS:=C9 0 rfl) (hv:=(fun _=>(S7 (by omega) (by rw [J5]; omega)))) (k:=A6 kr (fun w h=>(h.erase 0)) ?_)
       refine D0 (fuel:=6) [(7,0)] (fun w h=>(h.erase 0)) (k:=B9 12 (k:=?_))
       refine D4 (ch:=[]) (a:=aw) (q:=(Int.toNat (((n:Nat):Int) - 7)) * 1) (S:=(inG gw)) (cs:=(H6 (F7 B n))) (v:=.int .u32 ((F7 B n).getD (n - 7) 0)) (hrd:=D6 how) (hS:=C9 0 rfl) (hv:=(fun _=>(S7 (by omega) (by rw [J5]; omega)))) (k:=A6 kr (fun w h=>(h.erase 0)) ?_)
       refine D0 (fuel:=3) [(13,0),(15,0)] (fun w h=>(h.erase 0)) (k:=B9 16 (k:=?_))
       refine C2 (ch:=[]) (e:=144) (l:=[(0,.int .u32 (IntKind.wrap .u32 ((IntKind.wrap .u32 ((IntKind.wrap .u32 (((F7 B n).getD (n - 16) 0)+(sg0 ((F7 B n).getD (n - 15) 0))))+((F7 B n).getD (n - 7) 0)))+(sg1 ((F7 B n).getD (n - 2) 0)))))]) (c:=[.int .u32 (IntKind.wrap .u32 ((IntKind.wrap .u32 ((IntKind.wrap .u32 (((F7 B n).getD (n - 16) 0)+(sg0 ((F7 B n).getD (n - 15) 0))))+((F7 B n).getD (n - 7) 0)))+(sg1 ((F7 B n).getD (n - 2) 0))))]) (k:=(fun b74=>?_))
       refine A6 kr (fun w h=>((h.erase 1).erase 0)) (I0 ([(b74,.cells #[.int .u32 (IntKind.wrap .u32 ((IntKind.wrap .u32 ((IntKind.wrap .u32 (((F7 B n).getD (n - 16) 0)+(sg0 ((F7 B n).getD (n - 15) 0))))+((F7 B n).getD (n - 7) 0)))+(sg1 ((F7 B n).getD (n - 2) 0))))] 144 (0,0))]::g5::gk44::g::H) (fun w h=>(h.erase 0)) ?_)
       refine B9 17 (k:=E9 (i:=17) (ch:=[]) (t:=141) (tx:=141) (e:=144) (inf:=Tryz.t144) (s:=.slice aw n cw) (x:=.slice (some ⟨b74,0,none⟩) 1 1) (n:=n) (m:=1) (j:=1) (cs:=(H6 (F7 B n))) (news:=[.int .u32 (IntKind.wrap .u32 ((IntKind.wrap .u32 ((IntKind.wrap .u32 (((F7 B n).getD (n - 16) 0)+(sg0 ((F7 B n).getD (n - 15) 0))))+((F7 B n).getD (n - 7) 0)))+(sg1 ((F7 B n).getD (n - 2) 0))))]) (g:=gw) (S:=(inG [(b74,.cells #[.int .u32 (IntKind.wrap .u32 ((IntKind.wrap .u32 ((IntKind.wrap .u32 (((F7 B n).getD (n - 16) 0)+(sg0 ((F7 B n).getD (n - 15) 0))))+((F7 B n).getD (n - 7) 0)))+(sg1 ((F7 B n).getD (n - 2) 0))))] 144 (0,0))])) rfl rfl rfl rfl kr kr kr rfl rfl (.inl ⟨144,kr⟩) (fun ⟨_,h⟩=>by cases h) (fun _=>⟨144,kr⟩) kr kr kr rfl how (SrcOf.slice _ _ _ _ Rd.lit (fun h=>by cases h)) (C9 0 rfl) rfl u32_one (by omega) (by show (n+1) * 4≤140737488355328; omega) (fun v75 g76 hO77=>?_))
       obtain ⟨a78,cap79,rfl,hcap80,hrd81⟩:=hO77.shape
       refine A6 kr (fun w h=>(h.erase 1)) (D0 (fuel:=0) [(18,0)] (fun w h=>(h.erase 1)) (k:=?_))
       refine D8 (E':=[⟨0,[],.slice aq (64 * (m - q)) cq⟩,⟨5,[],.slice a5 8 c5⟩,⟨6,[],.slice ak42 64 ck43⟩,⟨7,[],.slice a78 (n+1) cap79⟩,⟨8,[],.int .i64 ((n:Nat):Int)⟩]) [0,5,6,7,8] (k:=D5 ?_)
       refine A0 (A2 ?_)
       refine A7 (j:=2) [0,0] (k:=F2 65 (((n:Nat):Int)+1) (by omega) (by omega) kr ?_)
       refine C4 [0] [0,5,6,7,8] (k:=E0 (H':=(g76::g5::gk44::g::H)) (fun w h=>(h.erase 0)) ?_)
       refine E5 (s':=(n+1,a78,cap79,g76)) [0,5,6,7,8] kr rfl ⟨(by dsimp only; omega),(Z9 hO77 (w_hi _ hhi rfl))⟩ (by dsimp only; omega)
      ·
       refine D4 (ch:=[]) (a:=aw) (q:=(Int.toNat (((n:Nat):Int) - 7)) * 1) (S:=(inG gw)) (cs:=(H6 (F7 B n))) (v:=.int .u32 ((F7 B n).getD (n - 7) 0)) (hrd:=D6 how) (hS:=C9 0 rfl) (hv:=(fun _=>(S7 (by omega) (by rw [J5]; omega)))) (k:=A6 kr (fun w h=>(h.erase 0)) ?_)
       refine B9 5 (k:=D4 (ch:=[]) (a:=aw) (q:=(Int.toNat (((n:Nat):Int) - 16)) * 1) (S:=(inG gw)) (cs:=(H6 (F7 B n))) (v:=.int .u32 ((F7 B n).getD (n - 16) 0)) (hrd:=D6 how) (hS:=C9 0 rfl) (hv:=(fun _=>(S7 (by omega) (by rw [J5]; omega)))) (k:=?_))
       refine A6 kr (fun w h=>(h.erase 0)) (D0 (fuel:=3) [(7,0),(13,0),(15,0)] (fun w h=>(h.erase 0)) (k:=?_))
       refine B9 16 (k:=C2 (ch:=[]) (e:=144) (l:=[(0,.int .u32 (IntKind.wrap .u32 ((IntKind.wrap .u32 ((IntKind.wrap .u32 (((F7 B n).getD (n - 16) 0)+(sg0 ((F7 B n).getD (n - 15) 0))))+((F7 B n).getD (n - 7) 0)))+(sg1 ((F7 B n).getD (n - 2) 0)))))]) (c:=[.int .u32 (IntKind.wrap .u32 ((IntKind.wrap .u32 ((IntKind.wrap .u32 (((F7 B n).getD (n - 16) 0)+(sg0 ((F7 B n).getD (n - 15) 0))))+((F7 B n).getD (n - 7) 0)))+(sg1 ((F7 B n).getD (n - 2) 0))))]) (k:=(fun b83=>?_)))
       refine A6 kr (fun w h=>((h.erase 1).erase 0)) (I0 ([(b83,.cells #[.int .u32 (IntKind.wrap .u32 ((IntKind.wrap .u32 ((IntKind.wrap .u32 (((F7 B n).getD (n - 16) 0)+(sg0 ((F7 B n).getD (n - 15) 0))))+((F7 B n).getD (n - 7) 0)))+(sg1 ((F7 B n).getD (n - 2) 0))))] 144 (0,0))]::g5::gk44::g::H) (fun w h=>(h.erase 0)) ?_)
       refine B9 17 (k:=E9 (i:=17) (ch:=[]) (t:=141) (tx:=141) (e:=144) (inf:=Tryz.t144) (s:=.slice aw n cw) (x:=.slice (some ⟨b83,0,none⟩) 1 1) (n:=n) (m:=1) (j:=1) (cs:=(H6 (F7 B n))) (news:=[.int .u32 (IntKind.wrap .u32 ((IntKind.wrap .u32 ((IntKind.wrap .u32 (((F7 B n).getD (n - 16) 0)+(sg0 ((F7 B n).getD (n - 15) 0))))+((F7 B n).getD (n - 7) 0)))+(sg1 ((F7 B n).getD (n - 2) 0))))]) (g:=gw) (S:=(inG [(b83,.cells #[.int .u32 (IntKind.wrap .u32 ((IntKind.wrap .u32 ((IntKind.wrap .u32 (((F7 B n).getD (n - 16) 0)+(sg0 ((F7 B n).getD (n - 15) 0))))+((F7 B n).getD (n - 7) 0)))+(sg1 ((F7 B n).getD (n - 2) 0))))] 144 (0,0))])) rfl rfl rfl rfl kr kr kr rfl rfl (.inl ⟨144,kr⟩) (fun ⟨_,h⟩=>by cases h) (fun _=>⟨144,kr⟩) kr kr kr rfl how (SrcOf.slice _ _ _ _ Rd.lit (fun h=>by cases h)) (C9 0 rfl) rfl u32_one (by omega) (by show (n+1) * 4≤140737488355328; omega) (fun v84 g85 hO86=>?_))
       obtain ⟨a87,cap88,rfl,hcap89,hrd90⟩:=hO86.shape
       refine A6 kr (fun w h=>(h.erase 1)) (D0 (fuel:=0) [(18,0)] (fun w h=>(h.erase 1)) (k:=?_))
       refine D8 (E':=[⟨0,[],.slice aq (64 * (m - q)) cq⟩,⟨5,[],.slice a5 8 c5⟩,⟨6,[],.slice ak42 64 ck43⟩,⟨7,[],.slice a87 (n+1) cap88⟩,⟨8,[],.int .i64 ((n:Nat):Int)⟩]) [0,5,6,7,8] (k:=D5 ?_)
       refine A0 (A2 ?_)
       refine A7 (j:=2) [0,0] (k:=F2 65 (((n:Nat):Int)+1) (by omega) (by omega) kr ?_)
       refine C4 [0] [0,5,6,7,8] (k:=E0 (H':=(g85::g5::gk44::g::H)) (fun w h=>(h.erase 0)) ?_)
       refine E5 (s':=(n+1,a87,cap88,g85)) [0,5,6,7,8] kr rfl ⟨(by dsimp only; omega),(Z9 hO86 (w_hi _ hhi rfl))⟩ (by dsimp only; omega)
    ·
     have hn9:n=64:=by (have h9:=of_decide_eq_false hc48; omega)
     refine G6 (A8 ?_)
     refine A8 (C7 ?_)
     refine A0 (A1 ?_)
     refine K4 (k:=A7 (j:=1) [0] (k:=?_))
     refine B7 (ch:=[]) (a:=a5) (len:=8) (cap:=c5) (kd:=.i64) (j:=0) (e:=144) (sz:=1) (S:=(inG g5)) (cs:=(H6 (S8l fs))) (hrd:=D6 ho5) (hb:=(fun _=>by exact ⟨by omega,by omega,List.cons_ne_nil _ _⟩)) (k:=D4 (ch:=[]) (a:=a5) (q:=0 * 1) (S:=(inG g5)) (cs:=(H6 (S8l fs))) (v:=.int .u32 fs.a) (hrd:=D6 ho5) (hS:=C9 1 rfl) (hv:=(fun _=>rfl)) (k:=?_))
     refine A7 (j:=4) [0] (k:=B7 (ch:=[]) (a:=a5) (len:=8) (cap:=c5) (kd:=.i64) (j:=1) (e:=144) (sz:=1) (S:=(inG g5)) (cs:=(H6 (S8l fs))) (hrd:=D6 ho5) (hb:=(fun _=>by exact ⟨by omega,by omega,List.cons_ne_nil _ _⟩)) (k:=?_))
     refine D4 (ch:=[]) (a:=a5) (q:=1 * 1) (S:=(inG g5)) (cs:=(H6 (S8l fs))) (v:=.int .u32 fs.b) (hrd:=D6 ho5) (hS:=C9 1 rfl) (hv:=(fun _=>rfl)) (k:=A7 (j:=7) [0] (k:=?_))
     refine B7 (ch:=[]) (a:=a5) (len:=8) (cap:=c5) (kd:=.i64) (j:=2) (e:=144) (sz:=1) (S:=(inG g5)) (cs:=(H6 (S8l fs))) (hrd:=D6 ho5) (hb:=(fun _=>by exact ⟨by omega,by omega,List.cons_ne_nil _ _⟩)) (k:=D4 (ch:=[]) (a:=a5) (q:=2 * 1) (S:=(inG g5)) (cs:=(H6 (S8l fs))) (v:=.int .u32 fs.c) (hrd:=D6 ho5) (hS:=C9 1 rfl) (hv:=(fun _=>rfl)) (k:=?_))
     refine A7 (j:=10) [0] (k:=B7 (ch:=[]) (a:=a5) (len:=8) (cap:=c5) (kd:=.i64) (j:=3) (e:=144) (sz:=1) (S:=(inG g5)) (cs:=(H6 (S8l fs))) (hrd:=D6 ho5) (hb:=(fun _=>by exact ⟨by omega,by omega,List.cons_ne_nil _ _⟩)) (k:=?_))
     refine D4 (ch:=[]) (a:=a5) (q:=3 * 1) (S:=(inG g5)) (cs:=(H6 (S8l fs))) (v:=.int .u32 fs.d) (hrd:=D6 ho5) (hS:=C9 1 rfl) (hv:=(fun _=>rfl)) (k:=A7 (j:=13) [0] (k:=?_))
     refine B7 (ch:=[]) (a:=a5) (len:=8) (cap:=c5) (kd:=.i64) (j:=4) (e:=144) (sz:=1) (S:=(inG g5)) (cs:=(H6 (S8l fs))) (hrd:=D6 ho5) (hb:=(fun _=>by exact ⟨by omega,by omega,List.cons_ne_nil _ _⟩)) (k:=D4 (ch:=[]) (a:=a5) (q:=4 * 1) (S:=(inG g5)) (cs:=(H6 (S8l fs))) (v:=.int .u32 fs.e) (hrd:=D6 ho5) (hS:=C9 1 rfl) (hv:=(fun _=>rfl)) (k:=?_))
     refine A7 (j:=16) [0] (k:=B7 (ch:=[]) (a:=a5) (len:=8) (cap:=c5) (kd:=.i64) (j:=5) (e:=144) (sz:=1) (S:=(inG g5)) (cs:=(H6 (S8l fs))) (hrd:=D6 ho5) (hb:=(fun _=>by exact ⟨by omega,by omega,List.cons_ne_nil _ _⟩)) (k:=?_))
     refine D4 (ch:=[]) (a:=a5) (q:=5 * 1) (S:=(inG g5)) (cs:=(H6 (S8l fs))) (v:=.int .u32 fs.f) (hrd:=D6 ho5) (hS:=C9 1 rfl) (hv:=(fun _=>rfl)) (k:=A7 (j:=19) [0] (k:=?_))
     refine B7 (ch:=[]) (a:=a5) (len:=8) (cap:=c5) (kd:=.i64) (j:=6) (e:=144) (sz:=1) (S:=(inG g5)) (cs:=(H6 (S8l fs))) (hrd:=D6 ho5) (hb:=(fun _=>by exact ⟨by omega,by omega,List.cons_ne_nil _ _⟩)) (k:=D4 (ch:=[]) (a:=a5) (q:=6 * 1) (S:=(inG g5)) (cs:=(H6 (S8l fs))) (v:=.int .u32 fs.g) (hrd:=D6 ho5) (hS:=C9 1 rfl) (hv:=(fun _=>rfl)) (k:=?_))
     refine A7 (j:=22) [0] (k:=B7 (ch:=[]) (a:=a5) (len:=8) (cap:=c5) (kd:=.i64) (j:=7) (e:=144) (sz:=1) (S:=(inG g5)) (cs:=(H6 (S8l fs))) (hrd:=D6 ho5) (hb:=(fun _=>by exact ⟨by omega,by omega,List.cons_ne_nil _ _⟩)) (k:=?_))
     refine D4 (ch:=[]) (a:=a5) (q:=7 * 1) (S:=(inG g5)) (cs:=(H6 (S8l fs))) (v:=.int .u32 fs.h) (hrd:=D6 ho5) (hS:=C9 1 rfl) (hv:=(fun _=>rfl)) (k:=C4 [0,0,0,0,0,0,0,0] [0,5,6,7,11,12,13,14,15,16,17,18] (k:=?_))
     refine A0 (A1 ?_)
     refine A1 (G_p [0] [0,5,6,7,11,12,13,14,15,16,17,18,19] (k:=?_))
     refine A0 (C5 ?_)
     refine I8 (EI:=(fun ξ:Nat × S8=>[⟨0,[],.slice aq (64 * (m - q)) cq⟩,⟨5,[],.slice a5 8 c5⟩,⟨6,[],.slice ak42 64 ck43⟩,⟨7,[],.slice aw n cw⟩,⟨11,[],.int .u32 ξ.2.a⟩,⟨12,[],.int .u32 ξ.2.b⟩,⟨13,[],.int .u32 ξ.2.c⟩,⟨14,[],.int .u32 ξ.2.d⟩,⟨15,[],.int .u32 ξ.2.e⟩,⟨16,[],.int .u32 ξ.2.f⟩,⟨17,[],.int .u32 ξ.2.g⟩,⟨18,[],.int .u32 ξ.2.h⟩,⟨19,[],.int .i64 ((ξ.1:Nat):Int)⟩])) (HI:=(fun ξ:Nat × S8=>(gw::g5::gk44::g::H))) (Φ:=(fun ξ:Nat × S8=>(ξ.1≤64)∧(ξ.2=rnds kAt (wAt B) fs ξ.1))) (μ:=(fun ξ:Nat × S8=>64 - ξ.1)) (s0:=(0,fs)) [0,5,6,7,11,12,13,14,15,16,17,18,19] kr rfl ⟨(Nat.zero_le _),rfl⟩ ?_
     rintro ⟨i,sv⟩ ⟨hi,hsv⟩
     dsimp only at hi hsv
     have hUe:U sv.e:=by (rw [hsv,hfs,hB]; exact U_e (H4 l) q i)
     refine A1 (A1 ?_)
     refine G_p [0,0] [0,5,6,7,11,12,13,14,15,16,17,18,19,187] (k:=A0 ?_)
     refine C6 (b:=decide (((i:Nat):Int)<64)) kr (fun hc92=>?_) (fun hc92=>?_)
     ·
      replace hc92:=of_decide_eq_true hc92
      refine B5 (A0 ?_)
      refine A1 (C5 ?_)
      refine A1 (K4 (k:=?_))
      refine A7 (j:=2) [0,0] (k:=F6 Tryz.func101 (turn6 sv.e _ _) ?_)
      refine A7 (j:=4) [0] (k:=F6 Tryz.func101 (turn11 sv.e _ _) ?_)
      refine A7 (j:=7) [0,0] (k:=F6 Tryz.func101 (turn25 sv.e _ _) ?_)
      refine A7 (j:=21) [0,0,0,0,0,0,0,0,0,0,0,0,0] (k:=B7 (ch:=[]) (a:=ak42) (len:=64) (cap:=ck43) (kd:=.i64) (j:=((i:Nat):Int)) (e:=144) (sz:=1) (S:=(inG gk44)) (cs:=(H6 kTab)) (hrd:=D6 hOk46) (hb:=(fun _=>by exact ⟨by omega,by omega,Y6 (k:=0) (by first | (show 0<kTab.length; decide) | (rw [J5]; omega))⟩)) (k:=?_))
      refine D4 (ch:=[]) (a:=ak42) (q:=i * 1) (S:=(inG gk44)) (cs:=(H6 kTab)) (v:=.int .u32 (kAt i)) (hrd:=D6 hOk46) (hS:=C9 2 rfl) (hv:=(fun _=>(kat_at (by omega) (by omega)))) (k:=A7 (j:=26) [0,0,0] (k:=?_))
      refine B7 (ch:=[]) (a:=aw) (len:=n) (cap:=cw) (kd:=.i64) (j:=((i:Nat):Int)) (e:=144) (sz:=1) (S:=(inG gw)) (cs:=(H6 (F7 B n))) (hrd:=D6 how) (hb:=(fun _=>by exact ⟨by omega,by omega,Y6 (k:=0) (by first | (show 0<kTab.length; decide) | (rw [J5]; omega))⟩)) (k:=D4 (ch:=[]) (a:=aw) (q:=i * 1) (S:=(inG gw)) (cs:=(H6 (F7 B n))) (v:=.int .u32 (wAt B i)) (hrd:=D6 how) (hS:=C9 0 rfl) (hv:=(fun _=>(by rw [hn9]; exact wat_at _ (by omega) (by omega)))) (k:=?_))
      refine D3 (E':=[⟨0,[],.slice aq (64 * (m - q)) cq⟩,⟨5,[],.slice a5 8 c5⟩,⟨6,[],.slice ak42 64 ck43⟩,⟨7,[],.slice aw n cw⟩,⟨11,[],.int .u32 sv.a⟩,⟨12,[],.int .u32 sv.b⟩,⟨13,[],.int .u32 sv.c⟩,⟨14,[],.int .u32 sv.d⟩,⟨15,[],.int .u32 sv.e⟩,⟨16,[],.int .u32 sv.f⟩,⟨17,[],.int .u32 sv.g⟩,⟨19,[],.int .i64 ((i:Nat):Int)⟩,⟨20,[],.int .u32 (IntKind.wrap .u32 ((IntKind.wrap .u32 ((IntKind.wrap .u32 ((IntKind.wrap .u32 (sv.h+(IntKind.wrap .u32 ((BitVec.ofInt (IntKind.bits .u32) (IntKind.wrap .u32 ((BitVec.ofInt (IntKind.bits .u32) (V8 sv.e 6) ^^^ BitVec.ofInt (IntKind.bits .u32) (V8 sv.e 11)).toNat)) ^^^ BitVec.ofInt (IntKind.bits .u32) (V8 sv.e 25)).toNat))))+(IntKind.wrap .u32 ((BitVec.ofInt (IntKind.bits .u32) (IntKind.wrap .u32 ((BitVec.ofInt (IntKind.bits .u32) sv.e &&& BitVec.ofInt (IntKind.bits .u32) sv.f).toNat)) ||| BitVec.ofInt (IntKind.bits .u32) (IntKind.wrap .u32 ((BitVec.ofInt (IntKind.bits .u32) (IntKind.wrap .u32 (4294967295 - sv.e)) &&& BitVec.ofInt (IntKind.bits .u32) sv.g).toNat))).toNat))))+(kAt i)))+(wAt B i)))⟩]) [0,0] [0,5,6,7,11,12,13,14,15,16,17,19,20] (k:=H8 (E':=[⟨0,[],.slice aq (64 * (m - q)) cq⟩,⟨5,[],.slice a5 8 c5⟩,⟨6,[],.slice ak42 64 ck43⟩,⟨7,[],.slice aw n cw⟩,⟨11,[],.int .u32 sv.a⟩,⟨12,[],.int .u32 sv.b⟩,⟨13,[],.int .u32 sv.c⟩,⟨14,[],.int .u32 sv.d⟩,⟨15,[],.int .u32 sv.e⟩,⟨16,[],.int .u32 sv.f⟩,⟨17,[],.int .u32 sv.g⟩,⟨19,[],.int .i64 ((i:Nat):Int)⟩,⟨20,[],.int .u32 (t1P (kAt i) (wAt B i) sv)⟩]) (Eq.trans (b:=[⟨0,[],.slice aq (64 * (m - q)) cq⟩,⟨5,[],.slice a5 8 c5⟩,⟨6,[],.slice ak42 64 ck43⟩,⟨7,[],.slice aw n cw⟩,⟨11,[],.int .u32 sv.a⟩,⟨12,[],.int .u32 sv.b⟩,⟨13,[],.int .u32 sv.c⟩,⟨14,[],.int .u32 sv.d⟩,⟨15,[],.int .u32 sv.e⟩,⟨16,[],.int .u32 sv.f⟩,⟨17,[],.int .u32 sv.g⟩,⟨19,[],.int .i64 ((i:Nat):Int)⟩,⟨20,[],.int .u32 (t1R (kAt i) (wAt B i) sv)⟩]) kr (by rw [t1R_eq _ _ hUe])) ?_)
      refine A0 (A1 ?_)
      refine A2 (A7 (j:=1) [0] (k:=?_))
      refine F6 Tryz.func101 (turn2 sv.a _ _) (A7 (j:=3) [0] (k:=?_))
      refine F6 Tryz.func101 (turn13 sv.a _ _) (A7 (j:=6) [0,0] (k:=?_))
      refine F6 Tryz.func101 (turn22 sv.a _ _) (D3 (E':=[⟨0,[],.slice aq (64 * (m - q)) cq⟩,⟨5,[],.slice a5 8 c5⟩,⟨6,[],.slice ak42 64 ck43⟩,⟨7,[],.slice aw n cw⟩,⟨11,[],.int .u32 sv.a⟩,⟨12,[],.int .u32 sv.b⟩,⟨13,[],.int .u32 sv.c⟩,⟨14,[],.int .u32 sv.d⟩,⟨15,[],.int .u32 sv.e⟩,⟨16,[],.int .u32 sv.f⟩,⟨17,[],.int .u32 sv.g⟩,⟨19,[],.int .i64 ((i:Nat):Int)⟩,⟨20,[],.int .u32 (t1P (kAt i) (wAt B i) sv)⟩,⟨21,[],.int .u32 (IntKind.wrap .u32 ((IntKind.wrap .u32 ((BitVec.ofInt (IntKind.bits .u32) (IntKind.wrap .u32 ((BitVec.ofInt (IntKind.bits .u32) (V8 sv.a 2) ^^^ BitVec.ofInt (IntKind.bits .u32) (V8 sv.a 13)).toNat)) ^^^ BitVec.ofInt (IntKind.bits .u32) (V8 sv.a 22)).toNat))+(IntKind.wrap .u32 ((BitVec.ofInt (IntKind.bits .u32) (IntKind.wrap .u32 ((BitVec.ofInt (IntKind.bits .u32) (IntKind.wrap .u32 ((BitVec.ofInt (IntKind.bits .u32) sv.a &&& BitVec.ofInt (IntKind.bits .u32) sv.b).toNat)) ||| BitVec.ofInt (IntKind.bits .u32) (IntKind.wrap .u32 ((BitVec.ofInt (IntKind.bits .u32) sv.a &&& BitVec.ofInt (IntKind.bits .u32) sv.c).toNat))).toNat)) ||| BitVec.ofInt (IntKind.bits .u32) (IntKind.wrap .u32 ((BitVec.ofInt (IntKind.bits .u32) sv.b &&& BitVec.ofInt (IntKind.bits .u32) sv.c).toNat))).toNat))))⟩]) [0,0,0,0,0,0,0,0,0,0,0,0,0,0] [0,5,6,7,11,12,13,14,15,16,17,19,20,21] (k:=?_))
      refine H8 (E':=[⟨0,[],.slice aq (64 * (m - q)) cq⟩,⟨5,[],.slice a5 8 c5⟩,⟨6,[],.slice ak42 64 ck43⟩,⟨7,[],.slice aw n cw⟩,⟨11,[],.int .u32 sv.a⟩,⟨12,[],.int .u32 sv.b⟩,⟨13,[],.int .u32 sv.c⟩,⟨14,[],.int .u32 sv.d⟩,⟨15,[],.int .u32 sv.e⟩,⟨16,[],.int .u32 sv.f⟩,⟨17,[],.int .u32 sv.g⟩,⟨19,[],.int .i64 ((i:Nat):Int)⟩,⟨20,[],.int .u32 (t1P (kAt i) (wAt B i) sv)⟩,⟨21,[],.int .u32 (t2P sv)⟩]) (Eq.trans (b:=[⟨0,[],.slice aq (64 * (m - q)) cq⟩,⟨5,[],.slice a5 8 c5⟩,⟨6,[],.slice ak42 64 ck43⟩,⟨7,[],.slice aw n cw⟩,⟨11,[],.int .u32 sv.a⟩,⟨12,[],.int .u32 sv.b⟩,⟨13,[],.int .u32 sv.c⟩,⟨14,[],.int .u32 sv.d⟩,⟨15,[],.int .u32 sv.e⟩,⟨16,[],.int .u32 sv.f⟩,⟨17,[],.int .u32 sv.g⟩,⟨19,[],.int .i64 ((i:Nat):Int)⟩,⟨20,[],.int .u32 (t1P (kAt i) (wAt B i) sv)⟩,⟨21,[],.int .u32 (t2R sv)⟩]) kr (by rw [t2R_eq])) (A0 ?_)
      refine G_p [0,0,0,0,0,0,0,0,0,0,0,0,0,0,0,0,0,0,0,0] [0,5,6,7,11,12,13,14,15,16,17,18,19] (k:=D5 ?_)
      refine A0 (A2 ?_)
      refine A7 (j:=2) [0,0] (k:=F2 189 (((i:Nat):Int)+1) (by omega) (by omega) kr ?_)
      refine C4 [0] [0,5,6,7,11,12,13,14,15,16,17,18,19] (k:=E5 (s':=(i+1,(rnd (kAt i) (wAt B i) sv))) [0,5,6,7,11,12,13,14,15,16,17,18,19] kr rfl ⟨(by dsimp only; omega),(by dsimp only; rw [hsv]; rfl)⟩ (by dsimp only; omega))
     ·
      have hi64:i=64:=by (have h9:=of_decide_eq_false hc92; omega)
      refine G6 (A8 ?_)
      refine A8 (C7 ?_)
      refine A0 (D7 (gw::g5::gk44::g::H) kr ?_)
      refine D0 (fuel:=41) [(0,0)] (fun w h=>h) (k:=A9 1 (hL:=(fun w h=>h)) (hy:=B7 (i:=1) (ch:=[]) (a:=a5) (len:=8) (cap:=c5) (kd:=.i64) (j:=0) (e:=144) (sz:=1) (S:=(inG g5)) (cs:=(H6 (S8l fs))) (hrd:=D6 ho5) (hb:=(fun _=>by exact ⟨by omega,by omega,List.cons_ne_nil _ _⟩)) (k:=B1 kr rfl)) (k:=?_))
      refine A9 2 kr (fun w h=>h) (D4 (i:=2) (ch:=[]) (a:=a5) (q:=0 * 1) (S:=(inG g5)) (cs:=(H6 (S8l fs))) (v:=.int .u32 fs.a) rfl rfl kr kr kr kr kr (D6 ho5) (C9 1 rfl) (fun _=>rfl) (B1 kr rfl)) (D0 (fuel:=36) [(3,0),(4,0),(5,0)] (fun w h=>h) (k:=?_))
      refine A9 6 (hL:=(fun w h=>h)) (hy:=B7 (i:=6) (ch:=[]) (a:=a5) (len:=8) (cap:=c5) (kd:=.i64) (j:=1) (e:=144) (sz:=1) (S:=(inG g5)) (cs:=(H6 (S8l fs))) (hrd:=D6 ho5) (hb:=(fun _=>by exact ⟨by omega,by omega,List.cons_ne_nil _ _⟩)) (k:=B1 kr rfl)) (k:=A9 7 kr (fun w h=>h) (D4 (i:=7) (ch:=[]) (a:=a5) (q:=1 * 1) (S:=(inG g5)) (cs:=(H6 (S8l fs))) (v:=.int .u32 fs.b) rfl rfl kr kr kr kr kr (D6 ho5) (C9 1 rfl) (fun _=>rfl) (B1 kr rfl)) ?_)
      refine D0 (fuel:=31) [(8,0),(9,0),(10,0)] (fun w h=>h) (k:=A9 11 (hL:=(fun w h=>h)) (hy:=B7 (i:=11) (ch:=[]) (a:=a5) (len:=8) (cap:=c5) (kd:=.i64) (j:=2) (e:=144) (sz:=1) (S:=(inG g5)) (cs:=(H6 (S8l fs))) (hrd:=D6 ho5) (hb:=(fun _=>by exact ⟨by omega,by omega,List.cons_ne_nil _ _⟩)) (k:=B1 kr rfl)) (k:=?_))
      refine A9 12 kr (fun w h=>h) (D4 (i:=12) (ch:=[]) (a:=a5) (q:=2 * 1) (S:=(inG g5)) (cs:=(H6 (S8l fs))) (v:=.int .u32 fs.c) rfl rfl kr kr kr kr kr (D6 ho5) (C9 1 rfl) (fun _=>rfl) (B1 kr rfl)) (D0 (fuel:=26) [(13,0),(14,0),(15,0)] (fun w h=>h) (k:=?_))
      refine A9 16 (hL:=(fun w h=>h)) (hy:=B7 (i:=16) (ch:=[]) (a:=a5) (len:=8) (cap:=c5) (kd:=.i64) (j:=3) (e:=144) (sz:=1) (S:=(inG g5)) (cs:=(H6 (S8l fs))) (hrd:=D6 ho5) (hb:=(fun _=>by exact ⟨by omega,by omega,List.cons_ne_nil _ _⟩)) (k:=B1 kr rfl)) (k:=A9 17 kr (fun w h=>h) (D4 (i:=17) (ch:=[]) (a:=a5) (q:=3 * 1) (S:=(inG g5)) (cs:=(H6 (S8l fs))) (v:=.int .u32 fs.d) rfl rfl kr kr kr kr kr (D6 ho5) (C9 1 rfl) (fun _=>rfl) (B1 kr rfl)) ?_)
      refine D0 (fuel:=21) [(18,0),(19,0),(20,0)] (fun w h=>h) (k:=A9 21 (hL:=(fun w h=>h)) (hy:=B7 (i:=21) (ch:=[]) (a:=a5) (len:=8) (cap:=c5) (kd:=.i64) (j:=4) (e:=144) (sz:=1) (S:=(inG g5)) (cs:=(H6 (S8l fs))) (hrd:=D6 ho5) (hb:=(fun _=>by exact ⟨by omega,by omega,List.cons_ne_nil _ _⟩)) (k:=B1 kr rfl)) (k:=?_))
      refine A9 22 kr (fun w h=>h) (D4 (i:=22) (ch:=[]) (a:=a5) (q:=4 * 1) (S:=(inG g5)) (cs:=(H6 (S8l fs))) (v:=.int .u32 fs.e) rfl rfl kr kr kr kr kr (D6 ho5) (C9 1 rfl) (fun _=>rfl) (B1 kr rfl)) (D0 (fuel:=16) [(23,0),(24,0),(25,0)] (fun w h=>h) (k:=?_))
      refine A9 26 (hL:=(fun w h=>h)) (hy:=B7 (i:=26) (ch:=[]) (a:=a5) (len:=8) (cap:=c5) (kd:=.i64) (j:=5) (e:=144) (sz:=1) (S:=(inG g5)) (cs:=(H6 (S8l fs))) (hrd:=D6 ho5) (hb:=(fun _=>by exact ⟨by omega,by omega,List.cons_ne_nil _ _⟩)) (k:=B1 kr rfl)) (k:=A9 27 kr (fun w h=>h) (D4 (i:=27) (ch:=[]) (a:=a5) (q:=5 * 1) (S:=(inG g5)) (cs:=(H6 (S8l fs))) (v:=.int .u32 fs.f) rfl rfl kr kr kr kr kr (D6 ho5) (C9 1 rfl) (fun _=>rfl) (B1 kr rfl)) ?_)
      refine D0 (fuel:=11) [(28,0),(29,0),(30,0)] (fun w h=>h) (k:=A9 31 (hL:=(fun w h=>h)) (hy:=B7 (i:=31) (ch:=[]) (a:=a5) (len:=8) (cap:=c5) (kd:=.i64) (j:=6) (e:=144) (sz:=1) (S:=(inG g5)) (cs:=(H6 (S8l fs))) (hrd:=D6 ho5) (hb:=(fun _=>by exact ⟨by omega,by omega,List.cons_ne_nil _ _⟩)) (k:=B1 kr rfl)) (k:=?_))
      refine A9 32 kr (fun w h=>h) (D4 (i:=32) (ch:=[]) (a:=a5) (q:=6 * 1) (S:=(inG g5)) (cs:=(H6 (S8l fs))) (v:=.int .u32 fs.g) rfl rfl kr kr kr kr kr (D6 ho5) (C9 1 rfl) (fun _=>rfl) (B1 kr rfl)) (D0 (fuel:=6) [(33,0),(34,0),(35,0)] (fun w h=>h) (k:=?_))
      refine A9 36 (hL:=(fun w h=>h)) (hy:=B7 (i:=36) (ch:=[]) (a:=a5) (len:=8) (cap:=c5) (kd:=.i64) (j:=7) (e:=144) (sz:=1) (S:=(inG g5)) (cs:=(H6 (S8l fs))) (hrd:=D6 ho5) (hb:=(fun _=>by exact ⟨by omega,by omega,List.cons_ne_nil _ _⟩)) (k:=B1 kr rfl)) (k:=A9 37 kr (fun w h=>h) (D4 (i:=37) (ch:=[]) (a:=a5) (q:=7 * 1) (S:=(inG g5)) (cs:=(H6 (S8l fs))) (v:=.int .u32 fs.h) rfl rfl kr kr kr kr kr (D6 ho5) (C9 1 rfl) (fun _=>rfl) (B1 kr rfl)) ?_)
      refine D0 (fuel:=2) [(38,0),(39,0)] (fun w h=>h) (k:=B9 40 (k:=?_))
      refine C2 (ch:=[]) (e:=144) (l:=[(0,.int .u32 (IntKind.wrap .u32 (fs.a+sv.a))),(1,.int .u32 (IntKind.wrap .u32 (fs.b+sv.b))),(2,.int .u32 (IntKind.wrap .u32 (fs.c+sv.c))),(3,.int .u32 (IntKind.wrap .u32 (fs.d+sv.d))),(4,.int .u32 (IntKind.wrap .u32 (fs.e+sv.e))),(5,.int .u32 (IntKind.wrap .u32 (fs.f+sv.f))),(6,.int .u32 (IntKind.wrap .u32 (fs.g+sv.g))),(7,.int .u32 (IntKind.wrap .u32 (fs.h+sv.h)))]) (c:=[.int .u32 (IntKind.wrap .u32 (fs.a+sv.a)),.int .u32 (IntKind.wrap .u32 (fs.b+sv.b)),.int .u32 (IntKind.wrap .u32 (fs.c+sv.c)),.int .u32 (IntKind.wrap .u32 (fs.d+sv.d)),.int .u32 (IntKind.wrap .u32 (fs.e+sv.e)),.int .u32 (IntKind.wrap .u32 (fs.f+sv.f)),.int .u32 (IntKind.wrap .u32 (fs.g+sv.g)),.int .u32 (IntKind.wrap .u32 (fs.h+sv.h))]) (k:=(fun b94=>?_))
      refine A6 kr (fun w h=>(h.erase 0)) (I0 ([(b94,.cells #[.int .u32 (IntKind.wrap .u32 (fs.a+sv.a)),.int .u32 (IntKind.wrap .u32 (fs.b+sv.b)),.int .u32 (IntKind.wrap .u32 (fs.c+sv.c)),.int .u32 (IntKind.wrap .u32 (fs.d+sv.d)),.int .u32 (IntKind.wrap .u32 (fs.e+sv.e)),.int .u32 (IntKind.wrap .u32 (fs.f+sv.f)),.int .u32 (IntKind.wrap .u32 (fs.g+sv.g)),.int .u32 (IntKind.wrap .u32 (fs.h+sv.h))] 144 (0,0))]::gw::g5::gk44::g::H) (fun w h=>(h.erase 0)) ?_)
      refine D0 (fuel:=0) [(41,0)] (fun w h=>h) (k:=D8 (E':=[⟨0,[],.slice aq (64 * (m - q)) cq⟩,⟨5,[],.slice (some ⟨b94,0,none⟩) 8 8⟩,⟨6,[],.slice ak42 64 ck43⟩]) [0,5,6] (k:=?_))
      refine D5 (A0 ?_)
      refine A2 (A7 (j:=1) [0] (k:=?_))
      refine O5 (ch:=[]) (a:=aq) (len:=(64 * (m - q))) (cap:=cq) (e:=5) (sz:=1) (vl:=(some (.int .i64 64))) (vh:=none) (l:=64) (h:=(((64 * (m - q)):Nat):Int)) (hb:=(fun _=>by omega)) (k:=C4 [0] [0,5,6] (k:=?_))
      refine H8 (E':=[⟨0,[],.slice (J4 aq cq 64 1) ((Int.toNat (((64 * (m - q)):Nat):Int)) - 64) (cq - 64)⟩,⟨5,[],.slice (some ⟨b94,0,none⟩) 8 8⟩,⟨6,[],.slice ak42 64 ck43⟩]) kr (H8 (E':=[⟨0,[],.slice (J4 aq cq 64 1) (64 * (m - (q+1))) (cq - 64)⟩,⟨5,[],.slice (some ⟨b94,0,none⟩) 8 8⟩,⟨6,[],.slice ak42 64 ck43⟩]) (by rw [show 64 * (m - (q+1))=64 * (m - q) - 64 by omega]; rfl) ?_)
      refine E0 (H':=([(b94,.cells #[.int .u32 (IntKind.wrap .u32 (fs.a+sv.a)),.int .u32 (IntKind.wrap .u32 (fs.b+sv.b)),.int .u32 (IntKind.wrap .u32 (fs.c+sv.c)),.int .u32 (IntKind.wrap .u32 (fs.d+sv.d)),.int .u32 (IntKind.wrap .u32 (fs.e+sv.e)),.int .u32 (IntKind.wrap .u32 (fs.f+sv.f)),.int .u32 (IntKind.wrap .u32 (fs.g+sv.g)),.int .u32 (IntKind.wrap .u32 (fs.h+sv.h))] 144 (0,0))]::gk44::g::H)) (fun w h=>((h.erase 2).erase 1)) (E5 (s':=(q+1,(J4 aq cq 64 1),cq - 64,(some ⟨b94,0,none⟩),8,[(b94,.cells #[.int .u32 (IntKind.wrap .u32 (fs.a+sv.a)),.int .u32 (IntKind.wrap .u32 (fs.b+sv.b)),.int .u32 (IntKind.wrap .u32 (fs.c+sv.c)),.int .u32 (IntKind.wrap .u32 (fs.d+sv.d)),.int .u32 (IntKind.wrap .u32 (fs.e+sv.e)),.int .u32 (IntKind.wrap .u32 (fs.f+sv.f)),.int .u32 (IntKind.wrap .u32 (fs.g+sv.g)),.int .u32 (IntKind.wrap .u32 (fs.h+sv.h))] 144 (0,0))],(addS fs sv))) [0,5,6] kr rfl ⟨(by dsimp only; omega),(rd_next hP hrq hlt hcq),(by dsimp only; omega),(by dsimp only; rw [hfs,hsv,hfs,hB,hi64]; rfl),(Z9 (Go.Sw.Own.lit rfl) (S8l_add _ _).symm)⟩ (by dsimp only; omega))
   ·
    have hqm:q=m:=by (have h9:=of_decide_eq_false hc47; omega)
    refine G6 (A8 ?_)
    refine A8 (C7 ?_)
    refine A0 (A1 ?_)
    refine G_p [0] [5,22] (k:=A0 ?_)
    refine A1 (A1 ?_)
    refine G_p [0,0,0] [22,292,293,294] (k:=A0 ?_)
    refine C5 (R8 (H':=([]::g5::gk44::g::H)) (fun w h=>Sat.flat h (List.Perm.refl _)) ?_)
    refine I8 (EI:=(fun ξ:Nat × Option Addr × Nat × Grp=>[⟨22,[],.slice ξ.2.1 (4 * ξ.1) ξ.2.2.1⟩,⟨292,[],.slice a5 8 c5⟩,⟨293,[],.int .i64 8⟩,⟨294,[],.int .i64 ((ξ.1:Nat):Int)⟩])) (HI:=(fun ξ:Nat × Option Addr × Nat × Grp=>(ξ.2.2.2::g5::gk44::g::H))) (Φ:=(fun ξ:Nat × Option Addr × Nat × Grp=>(ξ.1≤8)∧(Go.Sw.Own 5 1 (.slice ξ.2.1 (4 * ξ.1) ξ.2.2.1) ξ.2.2.2 (4 * ξ.1) (u8s ((outB fs).take (4 * ξ.1)))))) (μ:=(fun ξ:Nat × Option Addr × Nat × Grp=>8 - ξ.1)) (s0:=(0,none,0,[])) [22,292,293,294] kr rfl ⟨(Nat.zero_le _),Go.Sw.Own.nil⟩ ?_
    rintro ⟨t,ao,co,go⟩ ⟨ht,hot⟩
    dsimp only at ht hot
    refine A1 (G_p [0] [22,292,293,294,295] (k:=?_))
    refine A0 (A1 ?_)
    refine C6 (b:=decide (((t:Nat):Int)<8)) kr (fun hc95=>?_) (fun hc95=>?_)
    ·
     replace hc95:=of_decide_eq_true hc95
     refine B5 (A0 ?_)
     refine A1 (C5 ?_)
     refine A1 (A2 ?_)
     refine B7 (ch:=[]) (a:=a5) (len:=8) (cap:=c5) (kd:=.i64) (j:=((t:Nat):Int)) (e:=144) (sz:=1) (S:=(inG g5)) (cs:=(H6 (S8l fs))) (hrd:=D6 ho5) (hb:=(fun _=>by exact ⟨by omega,by omega,List.cons_ne_nil _ _⟩)) (k:=D4 (ch:=[]) (a:=a5) (q:=t * 1) (S:=(inG g5)) (cs:=(H6 (S8l fs))) (v:=.int .u32 (wd fs t)) (hrd:=D6 ho5) (hS:=C9 1 rfl) (hv:=(fun _=>(wd_cell _ (by omega) (by omega)))) (k:=?_))
     refine C4 [0] [22,24,292,293,294] (k:=A0 ?_)
     refine A2 (A7 (j:=12) [0,0,0,0,0,0,0,0,0,0,0,0] (k:=?_))
     refine C2 (ch:=[]) (e:=5) (l:=[(0,.int .u8 (IntKind.wrap .u8 (Int.fdiv (wd fs t) (2 ^ 24)))),(1,.int .u8 (IntKind.wrap .u8 (Int.fdiv (wd fs t) (2 ^ 16)))),(2,.int .u8 (IntKind.wrap .u8 (Int.fdiv (wd fs t) (2 ^ 8)))),(3,.int .u8 (IntKind.wrap .u8 (wd fs t)))]) (c:=[.int .u8 (IntKind.wrap .u8 (Int.fdiv (wd fs t) (2 ^ 24))),.int .u8 (IntKind.wrap .u8 (Int.fdiv (wd fs t) (2 ^ 16))),.int .u8 (IntKind.wrap .u8 (Int.fdiv (wd fs t) (2 ^ 8))),.int .u8 (IntKind.wrap .u8 (wd fs t))]) (k:=(fun b96=>?_))
     refine E9 (i:=13) (ch:=[]) (t:=22) (tx:=22) (e:=5) (inf:=Tryz.t5) (s:=.slice ao (4 * t) co) (x:=.slice (some ⟨b96,0,none⟩) 4 4) (n:=(4 * t)) (m:=4) (j:=1) (cs:=(u8s ((outB fs).take (4 * t)))) (news:=[.int .u8 (IntKind.wrap .u8 (Int.fdiv (wd fs t) (2 ^ 24))),.int .u8 (IntKind.wrap .u8 (Int.fdiv (wd fs t) (2 ^ 16))),.int .u8 (IntKind.wrap .u8 (Int.fdiv (wd fs t) (2 ^ 8))),.int .u8 (IntKind.wrap .u8 (wd fs t))]) (g:=go) (S:=(inG [(b96,.cells #[.int .u8 (IntKind.wrap .u8 (Int.fdiv (wd fs t) (2 ^ 24))),.int .u8 (IntKind.wrap .u8 (Int.fdiv (wd fs t) (2 ^ 16))),.int .u8 (IntKind.wrap .u8 (Int.fdiv (wd fs t) (2 ^ 8))),.int .u8 (IntKind.wrap .u8 (wd fs t))] 5 (0,0))])) rfl rfl rfl rfl kr kr kr rfl rfl (.inl ⟨5,kr⟩) (fun ⟨_,h⟩=>by cases h) (fun _=>⟨5,kr⟩) kr kr kr rfl hot (SrcOf.slice _ _ _ _ Rd.lit (fun h=>by cases h)) (C9 0 rfl) rfl (by intro u hu; simp only [List.mem_cons,List.not_mem_nil,or_false] at hu; rcases hu with rfl | rfl | rfl | rfl <;> rfl) (by omega) (by show ((4 * t)+4) * 1≤140737488355328; omega) (fun v97 g98 hO99=>?_)
     obtain ⟨a100,cap101,rfl,hcap102,hrd103⟩:=hO99.shape
     refine C4 [0] [22,292,293,294] (k:=D5 ?_)
     refine A0 (A2 ?_)
     refine A7 (j:=1) [0] (k:=F2 312 (((t:Nat):Int)+1) (by omega) (by omega) kr ?_)
     refine C4 [0] [22,292,293,294] (k:=H8 (E':=[⟨22,[],.slice a100 ((4 * t)+4) cap101⟩,⟨292,[],.slice a5 8 c5⟩,⟨293,[],.int .i64 8⟩,⟨294,[],.int .i64 (((t:Nat):Int)+1)⟩]) kr ?_)
     refine H8 (E':=[⟨22,[],.slice a100 (4 * (t+1)) cap101⟩,⟨292,[],.slice a5 8 c5⟩,⟨293,[],.int .i64 8⟩,⟨294,[],.int .i64 (((t:Nat):Int)+1)⟩]) (by rw [show 4 * (t+1)=4 * t+4 by omega]) (E0 (H':=(g98::g5::gk44::g::H)) (fun w h=>(h.erase 0)) ?_)
     refine E5 (s':=(t+1,a100,cap101,g98)) [22,292,293,294] kr rfl ⟨(by dsimp only; omega),(own_u8n hO99 (by omega) (out_step _ (by omega)))⟩ (by dsimp only; omega)
    ·
     have hj8b:t=8:=by (have h9:=of_decide_eq_false hc95; omega)
     refine G6 (A8 ?_)
     refine A8 (C7 ?_)
     refine A0 (A1 ?_)
     refine B4 (E':=[⟨2,[],.slice ao (4 * t) co⟩]) [0,0] [2] (k:=A0 ?_)
     refine C3 (E0 (H':=(go::H)) (fun w h=>(((h.erase 3).erase 2).erase 1)) ?_)
     refine C1 [.tmp 2] [.slice ao (4 * t) co] (k:=?_)
     refine ⟨_,_,_,by rw [hj8b]; rfl,?_,rfl⟩
     exact own_u8n hot (by omega) (by subst hj8b; unfold Y0; rw [sumS_fN,← hm,← hqm,← hfs,List.take_of_length_le (Nat.le_of_eq (outB_len _))])
end Go.Proofs.YtlaoeiaaeifidaaGreat
namespace Go.Jr
open Go.Sw Go.Lib Go.Vf Go.Sha Go.Proofs.YtlaoeiaaeifidaaGreat
theorem right_hit {t:ByteArray} {k:Nat} (hk:k<t.size) (hb:F5 t k=10):E8 t=false:=by
  rw [Bool.eq_false_iff]
  intro h
  exact noLf_noB (rightJ_iff.1 h).2 k hk hb
theorem right_end {t:ByteArray} (h:noB t 10 t.size):E8 t=decide ((t.size:Int)≤1048576):=by
  unfold E8
  have:lf t<0:=noLf_iff.2 (noLf_of h)
  rw [show decide (lf t ≥ 0)=false from decide_eq_false (by omega)]
  simp
theorem byte_ext {s:ByteArray} {a j:Nat}:F5 (s.extract a s.size) (j:Int)=F5 s ((a+j:Nat):Int):=by
  unfold F5
  rw [Int.toNat_natCast,Int.toNat_natCast,exL,List.take_of_length_le (by rw [lenL]; exact Nat.le_refl _),List.getElem?_drop]
theorem ex_ex (s:ByteArray) {a b c d:Nat} (h:d≤b - a):(s.extract a b).extract c d=s.extract (a+c) (a+d):=ext_L (by
  rw [exL,exL,exL,List.take_drop,List.take_take,List.drop_drop,show min (a+d) b=if a≤b then a+d else b by split <;> omega]
  split
  · rfl
  · rw [List.drop_of_length_le (by rw [List.length_take]; omega),List.drop_of_length_le (by rw [List.length_take]; omega)])
theorem ex_lf {s:ByteArray} {a i:Nat} (ha:a≤i) (hi:i<s.size) (hb:F5 s i=10):s.extract a i++lfB=s.extract a (i+1):=ext_L (by
  have hi':i<s.data.toList.length:=by rw [lenL]; exact hi
  rw [A0g hi] at hb
  rw [toL,exL,exL,List.take_add_one,List.getElem?_eq_getElem hi',List.drop_append_of_le_length (by rw [List.length_take]; omega),u8_10 hb]; rfl)
structure PI (s:ByteArray) (ts:List ByteArray) (i:Nat):Prop where
  at_:Parsed s ts (s.extract (A4 ts).size s.size)
  le:(A4 ts).size≤i
  ile:i≤s.size
  no:∀ j,(A4 ts).size≤j→j<i→F5 s (j:Int)≠10
theorem pi0 (s:ByteArray):PI s [] 0:=⟨by
  have e:s.extract (A4 []).size s.size=s:=ext_L (by rw [exL]; show (s.data.toList.take s.size).drop 0=_; rw [List.drop_zero,List.take_of_length_le (by rw [lenL]; exact Nat.le_refl _)])
  rw [e]; exact parsed0 s,Nat.zero_le _,Nat.zero_le _,fun j _ h=>absurd h (Nat.not_lt_zero j)⟩
theorem PI.skip {s:ByteArray} {ts:List ByteArray} {i:Nat} (h:PI s ts i) (hi:i<s.size) (hb:F5 s i≠10):PI s ts (i+1) :=
  ⟨h.at_,Nat.le_succ_of_le h.le,hi,fun j h1 h2=>by
    rcases Nat.lt_or_ge j i with h3 | h3
    · exact h.no j h1 h3
    · have:j=i:=by omega
      subst this; exact hb⟩
theorem PI.lf {s:ByteArray} {ts:List ByteArray} {i:Nat} (h:PI s ts i) (hi:i<s.size) (hb:F5 s i=10):Jr.lf (s.extract (A4 ts).size s.size)=((i - (A4 ts).size:Nat):Int):=by
  have:=h.le
  refine bIdx_eq (by omega) (by omega) (by rw [ByteArray.size_extract]; omega) ?_ fun j hj=>?_
  · rw [byte_ext,show (A4 ts).size+(i - (A4 ts).size)=i by omega]; exact hb
  · rw [byte_ext]; exact h.no _ (by omega) (by omega)
theorem PI.end_ {s:ByteArray} {ts:List ByteArray} {i:Nat} (h:PI s ts i) (hi:i=s.size):E7 s=(ts,s.extract (A4 ts).size s.size):=by
  subst hi
  refine Q8 h.at_ (cut_none1 (noLf_iff.2 (noLf_of fun j hj=>?_)))
  have:=h.le
  rw [ByteArray.size_extract] at hj
  rw [byte_ext]; exact h.no _ (by omega) (by omega)
def badB (s:ByteArray) (a i:Nat):Bool:=(decide ((i:Int) - (a:Int)<17)||!((B8 (s.extract (a+17) i)).toList==(s.extract a (i+1)).toList))||!E8 (s.extract (a+17) i)
theorem PI.seg {s:ByteArray} {ts:List ByteArray} {i:Nat} (h:PI s ts i) (hi:i<s.size) (hb:F5 s i=10):(s.extract (A4 ts).size s.size).extract 0 (Jr.lf (s.extract (A4 ts).size s.size)).toNat=s.extract (A4 ts).size i:=by
  have:=h.le
  rw [h.lf hi hb,Int.toNat_natCast,ex_ex s (by omega),Nat.add_zero,show (A4 ts).size+(i - (A4 ts).size)=i by omega]
theorem ok_bad {s:ByteArray} {a i:Nat} (ha:a≤i) (hi:i<s.size) (hb:F5 s i=10):okB (s.extract a i)=!badB s a i:=by
  have hz:(s.extract a i).size=i - a:=by rw [ByteArray.size_extract]; omega
  have he:=ex_lf ha hi hb
  unfold okB badB
  rcases Nat.lt_or_ge (i - a) 17 with h | h
  · rw [if_pos (by rw [hz]; omega),decide_eq_true (show (i:Int) - (a:Int)<17 by omega)]; rfl
  · rw [if_neg (by rw [hz]; omega),decide_eq_false (show ¬ (i:Int) - (a:Int)<17 by omega),hz,ex_ex s (Nat.le_refl _),show a+(i - a)=i by omega,show (s.extract a i++ByteArray.mk #[10])=s.extract a (i+1) from he]
    cases E8 (s.extract (a+17) i) <;> cases ((B8 (s.extract (a+17) i)).toList==(s.extract a (i+1)).toList) <;> rfl
theorem PI.bad {s:ByteArray} {ts:List ByteArray} {i:Nat} (h:PI s ts i) (hi:i<s.size) (hb:F5 s i=10) (hx:badB s (A4 ts).size i=true):E7 s=(ts,s.extract (A4 ts).size s.size):=by
  refine Q8 h.at_ (cut_none2 (by rw [h.lf hi hb]; omega) ?_)
  rw [h.seg hi hb,ok_bad h.le hi hb,hx]; rfl
theorem PI.good {s:ByteArray} {ts:List ByteArray} {i:Nat} (h:PI s ts i) (hi:i<s.size) (hb:F5 s i=10) (hx:badB s (A4 ts).size i=false) :
    PI s (ts++[s.extract ((A4 ts).size+17) i]) (i+1)∧(A4 (ts++[s.extract ((A4 ts).size+17) i])).size=i+1:=by
  have hle:=h.le
  have hz:(s.extract (A4 ts).size i).size=i - (A4 ts).size:=by rw [ByteArray.size_extract]; omega
  have hok:okB (s.extract (A4 ts).size i)=true:=by rw [ok_bad h.le hi hb,hx]; rfl
  have h17:17≤i - (A4 ts).size:=by
    unfold badB at hx
    simp only [Bool.or_eq_false_iff,decide_eq_false_iff_not] at hx
    have:=hx.1.1; omega
  have ht:V6 (s.extract (A4 ts).size i)=s.extract ((A4 ts).size+17) i:=by
    unfold V6
    rw [if_neg (by rw [hz]; omega),hz,ex_ex s (Nat.le_refl _),show (A4 ts).size+(i - (A4 ts).size)=i by omega]
  have h1:=parsed1 h.at_ (by rw [h.lf hi hb]; omega) (by rw [h.seg hi hb]; exact hok)
  rw [h.seg hi hb,ht,h.lf hi hb,Int.toNat_natCast] at h1
  have e:(s.extract (A4 ts).size s.size).extract (i - (A4 ts).size+1) (s.extract (A4 ts).size s.size).size=s.extract (i+1) s.size:=by
    have e1:(s.extract (A4 ts).size s.size).size=s.size - (A4 ts).size:=by rw [ByteArray.size_extract]; omega
    rw [e1,ex_ex s (Nat.le_refl _),show (A4 ts).size+(i - (A4 ts).size+1)=i+1 by omega,show (A4 ts).size+(s.size - (A4 ts).size)=s.size by omega]
  rw [e] at h1
  have hs:(A4 (ts++[s.extract ((A4 ts).size+17) i])).size=i+1:=by
    have:=h1.sz
    rw [ByteArray.size_extract] at this; omega
  refine ⟨⟨by rw [hs]; exact h1,by rw [hs]; exact Nat.le_refl _,hi,fun j h2 h3=>?_⟩,hs⟩
  rw [hs] at h2; omega
end Go.Jr
