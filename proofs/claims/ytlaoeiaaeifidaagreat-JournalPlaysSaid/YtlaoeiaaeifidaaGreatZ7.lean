/- JournalPlays: journals answer every script as the document says. No condition beyond the given statement's. (and what it stands on) -/
import Derived.Test.YtlaoeiaaeifidaaGreatZ6
namespace Go.Proofs.YtlaoeiaaeifidaaGreat
open Go.Sw Go.Sha Go.Lib Go.Jr
theorem hx_bd (x:Int) (h:0≤x∧x<256):0≤IntKind.wrap .u8 (Int.tdiv x 16)∧IntKind.wrap .u8 (Int.tdiv x 16)≤IntKind.wrap .u8 (IntKind.wrap .u8 (Int.tdiv x 16)+1)∧IntKind.wrap .u8 (IntKind.wrap .u8 (Int.tdiv x 16)+1)≤16∧0≤Int.tmod x 16∧Int.tmod x 16≤IntKind.wrap .u8 (Int.tmod x 16+1)∧IntKind.wrap .u8 (Int.tmod x 16+1)≤16:=by
  have e:∀ y:Int,IntKind.wrap .u8 y=y % 256:=fun y=>by first | rfl | simp [IntKind.wrap,IntKind.bits,IntKind.signed]
  obtain ⟨h0,h1⟩:=h
  rw [e,e,e,Int.tdiv_eq_ediv_of_nonneg h0,Int.tmod_eq_emod_of_nonneg h0]
  omega
theorem lit16:(ByteArray.mk #[48,49,50,51,52,53,54,55,56,57,97,98,99,100,101,102]).size=16:=rfl
theorem linesT_le {ts:List ByteArray} {n:Nat}:(A4 (ts.take n)).size≤(A4 ts).size:=by
  have:=congrArg ByteArray.size (A0c (ts.take n) (ts.drop n))
  rw [List.take_append_drop,ByteArray.size_append] at this; omega
theorem lines_take {ts:List ByteArray} {k:Nat} (h:k<ts.length):A4 (ts.take (k+1))=A4 (ts.take k)++B8 (ts.getD k default):=by
  rw [List.take_add_one,List.getElem?_eq_getElem h,List.getD,List.getElem?_eq_getElem h]; exact T1 _ _
theorem bad_def (s:ByteArray) (a i:Nat) (p q:Nat) (hp:p=a+17) (hq:q=i+1):((decide ((i:Int) - (a:Int)<17)||!((B8 (s.extract p i)).toList==(s.extract a q).toList))||!E8 (s.extract p i))=badB s a i:=by subst hp; subst hq; rfl
theorem bad17 {s:ByteArray} {a i:Nat} (h:badB s a i=false):a+17≤i:=by
  unfold badB at h
  have h8:=(Bool.or_eq_false_iff.1 (Bool.or_eq_false_iff.1 h).1).1
  simp only [decide_eq_false_iff_not] at h8; omega
theorem rhex_ (ba:Option Addr) (bc:Nat) (S:Nat→Obj→Prop) (l:List UInt8) (hrd:Rd S ba (u8s l)) (hn:l.length≤1000) (W0:World) (H:List Grp) (hS:∀ y o,S y o→At W0 H y o):Tri Tryz.prog 80 #[.slice ba l.length bc] W0 H (fun v H'=>v=.string (hxs l l.length)∧H'=H):=by
 refine C8 (args:=[.slice ba l.length bc]) (n:=32) Tryz.func80 rfl rfl (Nat.le_of_ble_eq_true rfl) ?_
 refine A1 (B4 (E':=[⟨0,[],.slice ba l.length bc⟩]) [0] [0] (k:=?_))
 refine A0 (A1 ?_)
 refine B4 (E':=[⟨0,[],.slice ba l.length bc⟩,⟨3,[],.string (ByteArray.mk #[])⟩]) [0] [0,3] (k:=H8 (E':=[⟨0,[],.slice ba l.length bc⟩,⟨3,[],.string (hxs l 0)⟩]) kr ?_)
 refine A0 (A1 ?_)
 refine A1 (G_p [0,0,0] [3,7,8,9] (k:=?_))
 refine A0 (C5 ?_)
 refine I8 (EI:=(fun ξ:Nat=>[⟨3,[],.string (hxs l ξ)⟩,⟨7,[],.slice ba l.length bc⟩,⟨8,[],.int .i64 ((l.length:Nat):Int)⟩,⟨9,[],.int .i64 ((ξ:Nat):Int)⟩])) (HI:=(fun ξ:Nat=>H)) (Φ:=(fun ξ:Nat=>(ξ≤l.length))) (μ:=(fun ξ:Nat=>l.length - ξ)) (s0:=(0)) [3,7,8,9] kr rfl (by omega) ?_
 rintro k hk
 have hxz:=hxs_size l hk
 refine A1 (G_p [0] [3,7,8,9,10] (k:=?_))
 refine A0 (A1 ?_)
 refine C6 (b:=decide (((k:Nat):Int)<((l.length:Nat):Int))) kr (fun hc1=>?_) (fun hc1=>?_)
 ·
  have hlt:k<l.length:=by (have h9:=of_decide_eq_true hc1; omega)
  refine B5 (A0 ?_)
  refine A1 (C5 ?_)
  refine A1 (A2 ?_)
  refine B7 (ch:=[]) (a:=ba) (len:=l.length) (cap:=bc) (kd:=.i64) (j:=((k:Nat):Int)) (e:=5) (sz:=1) (S:=S) (cs:=(u8s l)) (hrd:=hrd) (hb:=(fun _=>by exact ⟨by omega,by omega,by intro h; have h2:=congrArg List.length h; simp only [u8s,List.length_map,List.length_nil] at h2; omega⟩)) (k:=D4 (ch:=[]) (a:=ba) (q:=k * 1) (S:=S) (cs:=(u8s l)) (v:=.int .u8 (byt l k)) (hrd:=hrd) (hS:=(fun y o h=>(hS y o h))) (hv:=(fun _=>(byt_at (by omega) (by omega)))) (k:=?_))
  refine C4 [0] [3,5,7,8,9] (k:=A0 ?_)
  refine A1 (G_p [0] [3,5,6,7,8,9] (k:=?_))
  refine A0 (K4 (k:=?_))
  refine A7 (j:=7) [0,0,0,0,0,0,0] (k:=L7 (ch:=[]) (s:=(ByteArray.mk #[48,49,50,51,52,53,54,55,56,57,97,98,99,100,101,102])) (vl:=(some (.int .u8 (IntKind.wrap .u8 (Int.tdiv (byt l k) 16))))) (vh:=(some (.int .u8 (IntKind.wrap .u8 ((IntKind.wrap .u8 (Int.tdiv (byt l k) 16))+1))))) (l:=IntKind.wrap .u8 (Int.tdiv (byt l k) 16)) (h:=IntKind.wrap .u8 ((IntKind.wrap .u8 (Int.tdiv (byt l k) 16))+1)) (hb:=(by have hbd:=hx_bd (byt l k) (byt_rng l k); have:=lit16; first | omega | (simp only [ByteArray.size_append,ByteArray.size_extract]; omega))) (k:=?_))
  refine A7 (j:=14) [0,0,0,0,0,0] (k:=L7 (ch:=[]) (s:=(ByteArray.mk #[48,49,50,51,52,53,54,55,56,57,97,98,99,100,101,102])) (vl:=(some (.int .u8 (Int.tmod (byt l k) 16)))) (vh:=(some (.int .u8 (IntKind.wrap .u8 ((Int.tmod (byt l k) 16)+1))))) (l:=Int.tmod (byt l k) 16) (h:=IntKind.wrap .u8 ((Int.tmod (byt l k) 16)+1)) (hb:=(by have hbd:=hx_bd (byt l k) (byt_rng l k); have:=lit16; first | omega | (simp only [ByteArray.size_append,ByteArray.size_extract]; omega))) (k:=?_))
  refine K2 (ch:=[]) (s:=(ByteArray.mk #[48,49,50,51,52,53,54,55,56,57,97,98,99,100,101,102]).extract (Int.toNat (IntKind.wrap .u8 (Int.tdiv (byt l k) 16))) (Int.toNat (IntKind.wrap .u8 ((IntKind.wrap .u8 (Int.tdiv (byt l k) 16))+1)))) (u:=(ByteArray.mk #[48,49,50,51,52,53,54,55,56,57,97,98,99,100,101,102]).extract (Int.toNat (Int.tmod (byt l k) 16)) (Int.toNat (IntKind.wrap .u8 ((Int.tmod (byt l k) 16)+1)))) (hb:=(by have hbd:=hx_bd (byt l k) (byt_rng l k); have:=lit16; first | omega | (simp only [ByteArray.size_append,ByteArray.size_extract]; omega))) (k:=K2 (ch:=[]) (s:=hxs l k) (u:=((ByteArray.mk #[48,49,50,51,52,53,54,55,56,57,97,98,99,100,101,102]).extract (Int.toNat (IntKind.wrap .u8 (Int.tdiv (byt l k) 16))) (Int.toNat (IntKind.wrap .u8 ((IntKind.wrap .u8 (Int.tdiv (byt l k) 16))+1))))++((ByteArray.mk #[48,49,50,51,52,53,54,55,56,57,97,98,99,100,101,102]).extract (Int.toNat (Int.tmod (byt l k) 16)) (Int.toNat (IntKind.wrap .u8 ((Int.tmod (byt l k) 16)+1))))) (hb:=(by have hbd:=hx_bd (byt l k) (byt_rng l k); have:=lit16; first | omega | (simp only [ByteArray.size_append,ByteArray.size_extract]; omega))) (k:=?_))
  refine D3 (E':=[⟨3,[],.string ((hxs l k)++(((ByteArray.mk #[48,49,50,51,52,53,54,55,56,57,97,98,99,100,101,102]).extract (Int.toNat (IntKind.wrap .u8 (Int.tdiv (byt l k) 16))) (Int.toNat (IntKind.wrap .u8 ((IntKind.wrap .u8 (Int.tdiv (byt l k) 16))+1))))++((ByteArray.mk #[48,49,50,51,52,53,54,55,56,57,97,98,99,100,101,102]).extract (Int.toNat (Int.tmod (byt l k) 16)) (Int.toNat (IntKind.wrap .u8 ((Int.tmod (byt l k) 16)+1))))))⟩,⟨7,[],.slice ba l.length bc⟩,⟨8,[],.int .i64 ((l.length:Nat):Int)⟩,⟨9,[],.int .i64 ((k:Nat):Int)⟩]) [0] [3,7,8,9] (k:=H8 (E':=[⟨3,[],.string (hxs l (k+1))⟩,⟨7,[],.slice ba l.length bc⟩,⟨8,[],.int .i64 ((l.length:Nat):Int)⟩,⟨9,[],.int .i64 ((k:Nat):Int)⟩]) (by rw [← hxs_succ l hlt]; kernel_rfl) ?_)
  refine D5 (A0 ?_)
  refine A2 (A7 (j:=1) [0] (k:=?_))
  refine F2 30 (((k:Nat):Int)+1) (by omega) (by omega) kr (C4 [0] [3,7,8,9] (k:=?_))
  refine E5 (s':=(k+1)) [3,7,8,9] kr rfl (by omega) (by omega)
 ·
  have hke:k=l.length:=by (have h9:=of_decide_eq_false hc1; omega)
  refine G6 (A8 ?_)
  refine A8 (C7 ?_)
  refine A0 (A1 ?_)
  refine B4 (E':=[⟨2,[],.string (hxs l k)⟩]) [0,0] [2] (k:=A0 ?_)
  refine C3 (C1 [.tmp 2] [.string (hxs l k)] (k:=?_))
  exact ⟨by rw [hke]; rfl,rfl⟩
theorem rhexM (t:List UInt8) (ba:Option Addr) (bc:Nat) (S:Nat→Obj→Prop) (hrd:Rd S ba (u8s (Y0 t))) (W0:World) (H:List Grp) (hS:∀ y o,S y o→At W0 H y o) :
    Tri Tryz.prog 80 #[.slice ba 32 bc] W0 H (fun v H'=>v=.string (hexM t)∧H'=H):=rhex_ ba bc S (Y0 t) hrd (show 32≤1000 by omega) W0 H hS
theorem rline_ (s:ByteArray) (hs:s.size≤1099511627776) (W0:World) (H:List Grp):Tri Tryz.prog 43 #[.string s] W0 H (fun v H'=>v=.string (B8 s)∧H'=H):=by
 refine C8 (args:=[.string s]) (n:=12) Tryz.func43 rfl rfl (Nat.le_of_ble_eq_true rfl) ?_
 refine A1 (B4 (E':=[⟨0,[],.string s⟩]) [0] [0] (k:=?_))
 refine A0 (A1 ?_)
 refine A2 (A7 (j:=1) [0] (k:=?_))
 refine P6 (ch:=[]) (src:=9) (dst:=22) (e:=5) (s:=s) (k:=(fun b1 cap2 g3 hcap4 hrd5=>?_))
 refine G2 (vs:=[.slice (some ⟨b1,0,none⟩) s.size cap2]) Tryz.func81 (rsum_ (some ⟨b1,0,none⟩) cap2 (inG g3) s.data.toList hrd5 (fun h=>by cases h) (by rw [Array.length_toList]; show ByteArray.size _≤_; omega) _ _ (C9 0 rfl)) ?_
 rintro v H' ⟨a8,cap9,g6,rfl,hO7,rfl⟩
 refine F6 Tryz.func80 (rhexM s.data.toList a8 cap9 (inG g6) (D6 hO7) _ _ (C9 0 rfl)) (L7 (ch:=[]) (s:=hexM s.data.toList) (vl:=none) (vh:=(some (.int .i64 16))) (l:=0) (h:=16) (hb:=(by have:=A0d s.data.toList; first | (simp only [ByteArray.size_append,ByteArray.size_extract]; (try rw [this]); (try simp only [show ∀ x:UInt8,(ByteArray.mk #[x]).size=1 from fun _=>rfl]); omega) | omega)) (k:=?_))
 refine K2 (ch:=[]) (s:=(hexM s.data.toList).extract 0 16) (u:=(ByteArray.mk #[32])) (hb:=(by have:=A0d s.data.toList; first | (simp only [ByteArray.size_append,ByteArray.size_extract]; (try rw [this]); (try simp only [show ∀ x:UInt8,(ByteArray.mk #[x]).size=1 from fun _=>rfl]); omega) | omega)) (k:=A7 (j:=7) [0] (k:=?_))
 refine K2 (ch:=[]) (s:=((hexM s.data.toList).extract 0 16)++(ByteArray.mk #[32])) (u:=s) (hb:=(by have:=A0d s.data.toList; first | (simp only [ByteArray.size_append,ByteArray.size_extract]; (try rw [this]); (try simp only [show ∀ x:UInt8,(ByteArray.mk #[x]).size=1 from fun _=>rfl]); omega) | omega)) (k:=K2 (ch:=[]) (s:=(((hexM s.data.toList).extract 0 16)++(ByteArray.mk #[32]))++s) (u:=(ByteArray.mk #[10])) (hb:=(by have:=A0d s.data.toList; first | (simp only [ByteArray.size_append,ByteArray.size_extract]; (try rw [this]); (try simp only [show ∀ x:UInt8,(ByteArray.mk #[x]).size=1 from fun _=>rfl]); omega) | omega)) (k:=?_))
 refine C4 [0] [2] (k:=A0 ?_)
 refine C3 (E0 (H':=(g6::H)) (fun w h=>h.erase 1) ?_)
 refine E0 (H':=H) (fun w h=>h.erase 0) (C1 [.tmp 2] [.string (((((hexM s.data.toList).extract 0 16)++(ByteArray.mk #[32]))++s)++(ByteArray.mk #[10]))] (k:=?_))
 exact ⟨rfl,rfl⟩
theorem rright_ (s:ByteArray) (hs:s.size≤1099511627776) (W0:World) (H:List Grp):Tri Tryz.prog 31 #[.string s] W0 H (fun v H'=>v=.bool (E8 s)∧H'=H):=by
 refine C8 (args:=[.string s]) (n:=17) Tryz.func31 rfl rfl (Nat.le_of_ble_eq_true rfl) ?_
 refine A1 (B4 (E':=[⟨0,[],.string s⟩]) [0] [0] (k:=?_))
 refine A0 (A1 ?_)
 refine A1 (G_p [0] [0,3] (k:=?_))
 refine A0 (C5 ?_)
 refine I8 (EI:=(fun ξ:Nat=>[⟨0,[],.string s⟩,⟨3,[],.int .i64 ((ξ:Nat):Int)⟩])) (HI:=(fun ξ:Nat=>H)) (Φ:=(fun ξ:Nat=>(ξ≤s.size)∧(noB s 10 ξ))) (μ:=(fun ξ:Nat=>s.size - ξ)) (s0:=(0)) [0,3] kr rfl ⟨(by omega),noB_zero⟩ ?_
 rintro k ⟨hk,hno⟩
 refine A1 (A1 ?_)
 refine G_p [0,0,0,0] [0,3,7] (k:=A0 ?_)
 refine C6 (b:=decide (((k:Nat):Int)<(s.size:Int))) kr (fun hc1=>?_) (fun hc1=>?_)
 ·
  have hlt:k<s.size:=by (have h9:=of_decide_eq_true hc1; omega)
  refine B5 (A0 ?_)
  refine A1 (C5 ?_)
  refine A1 (A2 ?_)
  refine A7 (j:=2) [0,0] (k:=W9 (ch:=[]) (s:=s) (kd:=.i64) (j:=((k:Nat):Int)) (hb:=(fun _=>by omega)) (k:=?_))
  have hb2:=R0 s ((k:Nat):Int)
  refine C4 [0] [0,3,13] (k:=A0 ?_)
  refine C6 (b:=(F5 s ((k:Nat):Int))==10) kr (fun hc3=>?_) (fun hc3=>?_)
  ·
   have heq:F5 s k=10:=by simpa using hc3
   refine A1 (B4 (E':=[⟨2,[],.bool false⟩]) [0] [2] (k:=?_))
   refine A0 (C3 ?_)
   refine F8 (B3 ?_)
   refine B3 (F8 ?_)
   refine B3 (C1 [.tmp 2] [.bool false] (k:=?_))
   exact ⟨by rw [right_hit hlt heq]; rfl,rfl⟩
  ·
   have hne:F5 s k≠10:=by simpa using hc3
   refine B5 (D5 ?_)
   refine A0 (A2 ?_)
   refine A7 (j:=2) [0,0] (k:=F2 9 (((k:Nat):Int)+1) (by omega) (by omega) kr ?_)
   refine C4 [0] [0,3] (k:=E5 (s':=(k+1)) [0,3] kr rfl ⟨(by omega),(noB_succ hno hne)⟩ (by omega))
 ·
  have hke:k=s.size:=by (have h9:=of_decide_eq_false hc1; omega)
  refine G6 (A8 ?_)
  refine A8 (C7 ?_)
  refine A0 (A1 ?_)
  refine G_p [0,0,0,0] [2] (k:=A0 ?_)
  refine C3 (C1 [.tmp 2] [.bool (decide ((s.size:Int)≤1048576))] (k:=?_))
  exact ⟨by rw [right_end (hke ▸ hno)]; rfl,rfl⟩
theorem rlines_ (la:Option Addr) (lc:Nat) (S:Nat→Obj→Prop) (ts:List ByteArray) (hrd:Rd S la (strs ts)) (hl:ts.length≤1099511627776) (hz:(A4 ts).size≤1099511627776) (W0:World) (H:List Grp) (hS:∀ y o,S y o→At W0 H y o):Tri Tryz.prog 30 #[.slice la ts.length lc] W0 H (fun v H'=>v=.string (A4 ts)∧H'=H):=by
 refine C8 (args:=[.slice la ts.length lc]) (n:=18) Tryz.func30 rfl rfl (Nat.le_of_ble_eq_true rfl) ?_
 refine A1 (B4 (E':=[⟨0,[],.slice la ts.length lc⟩]) [0] [0] (k:=?_))
 refine A0 (A1 ?_)
 refine B4 (E':=[⟨0,[],.slice la ts.length lc⟩,⟨3,[],.string (ByteArray.mk #[])⟩]) [0] [0,3] (k:=H8 (E':=[⟨0,[],.slice la ts.length lc⟩,⟨3,[],.string (A4 (ts.take 0))⟩]) kr ?_)
 refine A0 (A1 ?_)
 refine A1 (G_p [0,0,0] [3,6,7,8] (k:=?_))
 refine A0 (C5 ?_)
 refine I8 (EI:=(fun ξ:Nat=>[⟨3,[],.string (A4 (ts.take ξ))⟩,⟨6,[],.slice la ts.length lc⟩,⟨7,[],.int .i64 ((ts.length:Nat):Int)⟩,⟨8,[],.int .i64 ((ξ:Nat):Int)⟩])) (HI:=(fun ξ:Nat=>H)) (Φ:=(fun ξ:Nat=>(ξ≤ts.length))) (μ:=(fun ξ:Nat=>ts.length - ξ)) (s0:=(0)) [3,6,7,8] kr rfl (by omega) ?_
 rintro k hk
 refine A1 (G_p [0] [3,6,7,8,9] (k:=?_))
 refine A0 (A1 ?_)
 refine C6 (b:=decide (((k:Nat):Int)<((ts.length:Nat):Int))) kr (fun hc1=>?_) (fun hc1=>?_)
 ·
  have hlt:k<ts.length:=by (have h9:=of_decide_eq_true hc1; omega)
  have hz1:=linesT_le (ts:=ts) (n:=k+1)
  rw [lines_take hlt,ByteArray.size_append,H9] at hz1
  refine B5 (A0 ?_)
  refine A1 (C5 ?_)
  refine A1 (A2 ?_)
  refine B7 (ch:=[]) (a:=la) (len:=ts.length) (cap:=lc) (kd:=.i64) (j:=((k:Nat):Int)) (e:=9) (sz:=1) (S:=S) (cs:=(strs ts)) (hrd:=hrd) (hb:=(fun _=>by exact ⟨by omega,by omega,strs_ne (by omega)⟩)) (k:=D4 (ch:=[]) (a:=la) (q:=k * 1) (S:=S) (cs:=(strs ts)) (v:=.string (ts.getD k default)) (hrd:=hrd) (hS:=(fun y o h=>(hS y o h))) (hv:=(fun _=>(by rw [Nat.mul_one]; exact A0n (by omega)))) (k:=?_))
  refine C4 [0] [3,5,6,7,8] (k:=A0 ?_)
  refine A2 (A7 (j:=2) [0,0] (k:=?_))
  refine F6 Tryz.func43 (rline_ (ts.getD k default) (by omega) _ _) (K2 (ch:=[]) (s:=A4 (ts.take k)) (u:=B8 (ts.getD k default)) (hb:=(by rw [H9]; omega)) (k:=?_))
  refine D3 (E':=[⟨3,[],.string ((A4 (ts.take k))++(B8 (ts.getD k default)))⟩,⟨6,[],.slice la ts.length lc⟩,⟨7,[],.int .i64 ((ts.length:Nat):Int)⟩,⟨8,[],.int .i64 ((k:Nat):Int)⟩]) [0] [3,6,7,8] (k:=H8 (E':=[⟨3,[],.string (A4 (ts.take (k+1)))⟩,⟨6,[],.slice la ts.length lc⟩,⟨7,[],.int .i64 ((ts.length:Nat):Int)⟩,⟨8,[],.int .i64 ((k:Nat):Int)⟩]) (by rw [lines_take hlt]) ?_)
  refine D5 (A0 ?_)
  refine A2 (A7 (j:=1) [0] (k:=?_))
  refine F2 16 (((k:Nat):Int)+1) (by omega) (by omega) kr (C4 [0] [3,6,7,8] (k:=?_))
  refine E5 (s':=(k+1)) [3,6,7,8] kr rfl (by omega) (by omega)
 ·
  have hke:k=ts.length:=by (have h9:=of_decide_eq_false hc1; omega)
  refine G6 (A8 ?_)
  refine A8 (C7 ?_)
  refine A0 (A1 ?_)
  refine B4 (E':=[⟨2,[],.string (A4 (ts.take k))⟩]) [0,0] [2] (k:=A0 ?_)
  refine C3 (C1 [.tmp 2] [.string (A4 (ts.take k))] (k:=?_))
  exact ⟨by rw [hke,List.take_of_length_le (Nat.le_refl _)]; rfl,rfl⟩
theorem rparse_ (s:ByteArray) (hs:s.size≤1099511627776) (W0:World) (H:List Grp):Tri Tryz.prog 12 #[.string s] W0 H (fun v H'=>∃ a c g,v=.tuple #[.slice a (E7 s).1.length c,.int .i64 ((A4 (E7 s).1).size:Int)]∧Go.Sw.Own 9 1 (.slice a (E7 s).1.length c) g (E7 s).1.length (strs (E7 s).1)∧H'=g::H):=by
 refine C8 (args:=[.string s]) (n:=58) Tryz.func12 rfl rfl (Nat.le_of_ble_eq_true rfl) ?_
 refine A1 (B4 (E':=[⟨0,[],.string s⟩]) [0,0] [0] (k:=?_))
 refine A0 (A1 ?_)
 refine G_p [0] [0,4] (k:=A0 ?_)
 refine A1 (G_p [0] [0,4,5] (k:=?_))
 refine A0 (A1 ?_)
 refine A1 (G_p [0] [0,4,5,6] (k:=?_))
 refine A0 (C5 ?_)
 refine R8 (H':=([]::H)) (fun w h=>Sat.flat h (List.Perm.refl _)) (I8 (EI:=(fun ξ:Nat × List ByteArray × Option Addr × Nat × Grp=>[⟨0,[],.string s⟩,⟨4,[],.slice ξ.2.2.1 ξ.2.1.length ξ.2.2.2.1⟩,⟨5,[],.int .i64 ((A4 ξ.2.1).size:Int)⟩,⟨6,[],.int .i64 ((ξ.1:Nat):Int)⟩])) (HI:=(fun ξ:Nat × List ByteArray × Option Addr × Nat × Grp=>(ξ.2.2.2.2::H))) (Φ:=(fun ξ:Nat × List ByteArray × Option Addr × Nat × Grp=>(PI s ξ.2.1 ξ.1)∧(Go.Sw.Own 9 1 (.slice ξ.2.2.1 ξ.2.1.length ξ.2.2.2.1) ξ.2.2.2.2 ξ.2.1.length (strs ξ.2.1)))) (μ:=(fun ξ:Nat × List ByteArray × Option Addr × Nat × Grp=>s.size - ξ.1)) (s0:=(0,[],none,0,[])) [0,4,5,6] kr rfl ⟨(pi0 s),Go.Sw.Own.nil⟩ ?_)
 rintro ⟨i,ts,a,c,g⟩ ⟨hp,ho⟩
 dsimp only at hp ho
 have hle:=hp.le
 have hile:=hp.ile
 have hlen:=hp.at_.len
 refine A1 (A1 ?_)
 refine G_p [0,0,0,0] [0,4,5,6,10] (k:=A0 ?_)
 refine C6 (b:=decide (((i:Nat):Int)<(s.size:Int))) kr (fun hc1=>?_) (fun hc1=>?_)
 ·
  have hlt:i<s.size:=by (have h9:=of_decide_eq_true hc1; omega)
  refine B5 (A0 ?_)
  refine A1 (C5 ?_)
  refine A1 (A1 ?_)
  refine A2 (A7 (j:=2) [0,0] (k:=?_))
  refine W9 (ch:=[]) (s:=s) (kd:=.i64) (j:=((i:Nat):Int)) (hb:=(by omega)) (k:=?_)
  have hb2:=R0 s ((i:Nat):Int)
  refine C4 [0] [0,4,5,6,16] (k:=A0 ?_)
  refine C6 (b:=(F5 s ((i:Nat):Int)) != 10) kr (fun hc3=>?_) (fun hc3=>?_)
  ·
   have hne:F5 s i≠10:=by simpa using hc3
   refine G6 (A8 ?_)
   refine C7 (A0 ?_)
   refine A2 (A7 (j:=2) [0,0] (k:=?_))
   refine F2 12 (((i:Nat):Int)+1) (by omega) (by omega) kr (C4 [0] [0,4,5,6] (k:=?_))
   refine E5 (s':=(i+1,ts,a,c,g)) [0,4,5,6] kr rfl ⟨(hp.skip hlt hne),ho⟩ (by dsimp only; omega)
  ·
   have heq:F5 s i=10:=by simpa using hc3
   refine B5 (A0 ?_)
   refine A1 (A1 ?_)
   refine K4 (k:=A7 (j:=3) [0,0,0] (k:=?_))
   refine F2 19 (((i:Nat):Int) - ((A4 ts).size:Int)) (by omega) (by omega) kr ?_
   have hw6:IntKind.wrap .i64 (((A4 ts).size:Int)+17)=((A4 ts).size:Int)+17:=w64 (by omega) (by omega)
   refine P9 (E':=[⟨25,[(21,false)],.int .i64 ((i:Nat):Int)⟩,⟨24,[(21,false)],.int .i64 (((A4 ts).size:Int)+17)⟩,⟨22,[(21,false)],.string s⟩,⟨21,[],.bool (decide ((((i:Nat):Int) - ((A4 ts).size:Int))<17))⟩,⟨0,[],.string s⟩,⟨4,[],.slice a ts.length c⟩,⟨5,[],.int .i64 ((A4 ts).size:Int)⟩,⟨6,[],.int .i64 ((i:Nat):Int)⟩]) [0,0,0,0,0,0] (Eq.trans (b:=some [⟨25,[(21,false)],.int .i64 ((i:Nat):Int)⟩,⟨24,[(21,false)],.int .i64 (IntKind.wrap .i64 (((A4 ts).size:Int)+17))⟩,⟨22,[(21,false)],.string s⟩,⟨21,[],.bool (decide ((((i:Nat):Int) - ((A4 ts).size:Int))<17))⟩,⟨0,[],.string s⟩,⟨4,[],.slice a ts.length c⟩,⟨5,[],.int .i64 ((A4 ts).size:Int)⟩,⟨6,[],.int .i64 ((i:Nat):Int)⟩]) kr (by simp only [hw6])) (j:=9) rfl (L7 (ch:=[(21,false)]) (s:=s) (vl:=(some (.int .i64 (((A4 ts).size:Int)+17)))) (vh:=(some (.int .i64 ((i:Nat):Int)))) (l:=((A4 ts).size:Int)+17) (h:=((i:Nat):Int)) (hb:=(fun hc=>by have hg0:=chB_hd (t:=21) (c:=[]) (b:=decide ((((i:Nat):Int) - ((A4 ts).size:Int))<17)) hc kr; first | omega | (simp only [decide_eq_false_iff_not] at hg0; omega) | (have h8:=(Bool.or_eq_false_iff.1 hg0).1; simp only [decide_eq_false_iff_not] at h8; omega))) (k:=?_))
   refine J9 (ch:=[(21,false)]) (f:=43) (fst:=#[]) (caps:=#[]) (vs:=[.string (s.extract (Int.toNat (((A4 ts).size:Int)+17)) i)]) (v:=.string (B8 (s.extract (Int.toNat (((A4 ts).size:Int)+17)) i))) (hf:=Tryz.func43) (hc:=(fun hc=>rline_ (s.extract (Int.toNat (((A4 ts).size:Int)+17)) i) (by simp only [ByteArray.size_extract]; omega) _ _)) (k:=?_)
   have hw7:IntKind.wrap .i64 (((i:Nat):Int)+1)=((i:Nat):Int)+1:=w64 (by omega) (by omega)
   refine P9 (E':=[⟨31,[(21,false)],.int .i64 (((i:Nat):Int)+1)⟩,⟨29,[(21,false)],.int .i64 ((A4 ts).size:Int)⟩,⟨28,[(21,false)],.string s⟩,⟨27,[(21,false)],.string (B8 (s.extract (Int.toNat (((A4 ts).size:Int)+17)) i))⟩,⟨21,[],.bool (decide ((((i:Nat):Int) - ((A4 ts).size:Int))<17))⟩,⟨0,[],.string s⟩,⟨4,[],.slice a ts.length c⟩,⟨5,[],.int .i64 ((A4 ts).size:Int)⟩,⟨6,[],.int .i64 ((i:Nat):Int)⟩]) [0,0,0,0] (Eq.trans (b:=some [⟨31,[(21,false)],.int .i64 (IntKind.wrap .i64 (((i:Nat):Int)+1))⟩,⟨29,[(21,false)],.int .i64 ((A4 ts).size:Int)⟩,⟨28,[(21,false)],.string s⟩,⟨27,[(21,false)],.string (B8 (s.extract (Int.toNat (((A4 ts).size:Int)+17)) i))⟩,⟨21,[],.bool (decide ((((i:Nat):Int) - ((A4 ts).size:Int))<17))⟩,⟨0,[],.string s⟩,⟨4,[],.slice a ts.length c⟩,⟨5,[],.int .i64 ((A4 ts).size:Int)⟩,⟨6,[],.int .i64 ((i:Nat):Int)⟩]) kr (by simp only [hw7])) (j:=15) rfl (L7 (ch:=[(21,false)]) (s:=s) (vl:=(some (.int .i64 ((A4 ts).size:Int)))) (vh:=(some (.int .i64 (((i:Nat):Int)+1)))) (l:=((A4 ts).size:Int)) (h:=((i:Nat):Int)+1) (hb:=(fun hc=>by have hg0:=chB_hd (t:=21) (c:=[]) (b:=decide ((((i:Nat):Int) - ((A4 ts).size:Int))<17)) hc kr; first | omega | (simp only [decide_eq_false_iff_not] at hg0; omega) | (have h8:=(Bool.or_eq_false_iff.1 hg0).1; simp only [decide_eq_false_iff_not] at h8; omega))) (k:=?_))
   have hw8:IntKind.wrap .i64 (((A4 ts).size:Int)+17)=((A4 ts).size:Int)+17:=w64 (by omega) (by omega)
   refine P9 (E':=[⟨39,[(35,false)],.int .i64 ((i:Nat):Int)⟩,⟨38,[(35,false)],.int .i64 (((A4 ts).size:Int)+17)⟩,⟨36,[(35,false)],.string s⟩,⟨35,[],.bool ((decide ((((i:Nat):Int) - ((A4 ts).size:Int))<17))||(!((B8 (s.extract (Int.toNat (((A4 ts).size:Int)+17)) i)).toList==(s.extract (A4 ts).size (Int.toNat (((i:Nat):Int)+1))).toList)))⟩,⟨0,[],.string s⟩,⟨4,[],.slice a ts.length c⟩,⟨5,[],.int .i64 ((A4 ts).size:Int)⟩,⟨6,[],.int .i64 ((i:Nat):Int)⟩]) [0,5,0,0,0,0,0] (Eq.trans (b:=some [⟨39,[(35,false)],.int .i64 ((i:Nat):Int)⟩,⟨38,[(35,false)],.int .i64 (IntKind.wrap .i64 (((A4 ts).size:Int)+17))⟩,⟨36,[(35,false)],.string s⟩,⟨35,[],.bool ((decide ((((i:Nat):Int) - ((A4 ts).size:Int))<17))||(!((B8 (s.extract (Int.toNat (((A4 ts).size:Int)+17)) i)).toList==(s.extract (A4 ts).size (Int.toNat (((i:Nat):Int)+1))).toList)))⟩,⟨0,[],.string s⟩,⟨4,[],.slice a ts.length c⟩,⟨5,[],.int .i64 ((A4 ts).size:Int)⟩,⟨6,[],.int .i64 ((i:Nat):Int)⟩]) kr (by simp only [hw8])) (j:=23) rfl (L7 (ch:=[(35,false)]) (s:=s) (vl:=(some (.int .i64 (((A4 ts).size:Int)+17)))) (vh:=(some (.int .i64 ((i:Nat):Int)))) (l:=((A4 ts).size:Int)+17) (h:=((i:Nat):Int)) (hb:=(fun hc=>by have hg0:=chB_hd (t:=35) (c:=[]) (b:=(decide ((((i:Nat):Int) - ((A4 ts).size:Int))<17))||(!((B8 (s.extract (Int.toNat (((A4 ts).size:Int)+17)) i)).toList==(s.extract (A4 ts).size (Int.toNat (((i:Nat):Int)+1))).toList))) hc kr; first | omega | (simp only [decide_eq_false_iff_not] at hg0; omega) | (have h8:=(Bool.or_eq_false_iff.1 hg0).1; simp only [decide_eq_false_iff_not] at h8; omega))) (k:=?_))
   refine J9 (ch:=[(35,false)]) (f:=31) (fst:=#[]) (caps:=#[]) (vs:=[.string (s.extract (Int.toNat (((A4 ts).size:Int)+17)) i)]) (v:=.bool (E8 (s.extract (Int.toNat (((A4 ts).size:Int)+17)) i))) (hf:=Tryz.func31) (hc:=(fun hc=>rright_ (s.extract (Int.toNat (((A4 ts).size:Int)+17)) i) (by simp only [ByteArray.size_extract]; omega) _ _)) (k:=C4 [0,5] [0,4,5,6,43] (k:=?_))
   refine A0 (C6 (b:=((decide ((((i:Nat):Int) - ((A4 ts).size:Int))<17))||(!((B8 (s.extract (Int.toNat (((A4 ts).size:Int)+17)) i)).toList==(s.extract (A4 ts).size (Int.toNat (((i:Nat):Int)+1))).toList)))||(!(E8 (s.extract (Int.toNat (((A4 ts).size:Int)+17)) i)))) kr (fun hc9=>?_) (fun hc9=>?_))
   ·
    have hpe:=hp.bad hlt heq ((bad_def s _ i _ _ (by omega) (by omega)).symm.trans hc9)
    refine A1 (G_p [0,0,0,0] [2,3] (k:=?_))
    refine A0 (C3 ?_)
    refine B3 (F8 ?_)
    refine B3 (B3 ?_)
    refine F8 (B3 ?_)
    refine C1 [.tmp 2,.tmp 3] [.slice a ts.length c,.int .i64 ((A4 ts).size:Int)] (k:=?_)
    rw [hpe]
    exact ⟨_,_,_,rfl,ho,rfl⟩
   ·
    have hbf:=(bad_def s (A4 ts).size i _ _ (by omega) (by omega)).symm.trans hc9
    have hg:=hp.good hlt heq hbf
    have h17:=bad17 hbf
    refine B5 (A0 ?_)
    refine A1 (A2 ?_)
    refine A7 (j:=4) [0,0,0,0] (k:=F2 49 (((A4 ts).size:Int)+17) (by omega) (by omega) kr ?_)
    refine A7 (j:=5) [0] (k:=L7 (ch:=[]) (s:=s) (vl:=(some (.int .i64 (((A4 ts).size:Int)+17)))) (vh:=(some (.int .i64 ((i:Nat):Int)))) (l:=((A4 ts).size:Int)+17) (h:=((i:Nat):Int)) (hb:=(by first | omega | (have:=hg.2; omega))) (k:=?_))
    refine C2 (ch:=[]) (e:=9) (l:=[(0,.string (s.extract (Int.toNat (((A4 ts).size:Int)+17)) i))]) (c:=[.string (s.extract (Int.toNat (((A4 ts).size:Int)+17)) i)]) (k:=(fun b11=>?_))
    refine E9 (i:=7) (ch:=[]) (t:=32) (tx:=32) (e:=9) (inf:=Tryz.t9) (s:=.slice a ts.length c) (x:=.slice (some ⟨b11,0,none⟩) 1 1) (n:=ts.length) (m:=1) (j:=1) (cs:=(strs ts)) (news:=[.string (s.extract (Int.toNat (((A4 ts).size:Int)+17)) i)]) (g:=g) (S:=(inG [(b11,.cells #[.string (s.extract (Int.toNat (((A4 ts).size:Int)+17)) i)] 9 (0,0))])) rfl rfl rfl rfl kr kr kr rfl rfl (.inl ⟨9,kr⟩) (fun ⟨_,h⟩=>by cases h) (fun _=>⟨9,kr⟩) kr kr kr rfl ho (SrcOf.slice _ _ _ _ Rd.lit (fun h=>by cases h)) (C9 0 rfl) rfl (P7 (ts:=[s.extract ((A4 ts).size+17) i])) (by omega) (by show (ts.length+1) * 16≤140737488355328; omega) (fun v12 g13 hO14=>?_)
    obtain ⟨a15,cap16,rfl,hcap17,hrd18⟩:=hO14.shape
    refine C4 [0] [0,4,6] (k:=A0 ?_)
    refine A2 (A7 (j:=2) [0,0] (k:=?_))
    refine F2 55 (((i:Nat):Int)+1) (by omega) (by omega) kr (C4 [0] [0,4,5,6] (k:=?_))
    refine D5 (A0 ?_)
    refine A2 (A7 (j:=2) [0,0] (k:=?_))
    refine F2 12 (((i:Nat):Int)+1) (by omega) (by omega) kr (D3 (E':=[⟨0,[],.string s⟩,⟨4,[],.slice a15 (ts.length+1) cap16⟩,⟨5,[],.int .i64 (((i:Nat):Int)+1)⟩,⟨6,[],.int .i64 (((i:Nat):Int)+1)⟩]) [0] [0,4,5,6] (k:=?_))
    refine H8 (E':=[⟨0,[],.string s⟩,⟨4,[],.slice a15 ((ts++[s.extract ((A4 ts).size+17) i]).length) cap16⟩,⟨5,[],.int .i64 ((A4 (ts++[s.extract ((A4 ts).size+17) i])).size:Int)⟩,⟨6,[],.int .i64 (((i:Nat):Int)+1)⟩]) (by rw [hg.2,List.length_append]; rfl) (E0 (H':=(g13::H)) (fun w h=>(h.erase 0)) ?_)
    refine E5 (s':=(i+1,(ts++[s.extract ((A4 ts).size+17) i]),a15,cap16,g13)) [0,4,5,6] kr rfl ⟨hg.1,(own_addS hO14)⟩ (by dsimp only; omega)
 ·
  have hie:i=s.size:=by (have h9:=of_decide_eq_false hc1; omega)
  have hpe:=hp.end_ hie
  refine G6 (A8 ?_)
  refine A8 (C7 ?_)
  refine A0 (A1 ?_)
  refine G_p [0,0,0,0] [2,3] (k:=A0 ?_)
  refine C3 (C1 [.tmp 2,.tmp 3] [.slice a ts.length c,.int .i64 ((A4 ts).size:Int)] (k:=?_))
  rw [hpe]
  exact ⟨_,_,_,rfl,ho,rfl⟩
end Go.Proofs.YtlaoeiaaeifidaaGreat
namespace Go.Proofs.YtlaoeiaaeifidaaGreat
open Go.Sw Go.Sha Go.Lib Go.Vf Go.Jr Go.RowKit
theorem yfail_ (y x:Nat) (dir:ByteArray) (lv:Value) (e:Int) (down there:Bool) (W0:World) (H:List Grp):Tri Tryz.prog 62 #[pt y,.int .i64 e] W0 ([(y,.cells #[pt x,.string dir,lv,.bool down,.bool there] 61 (0,0))]::H) (fun v H'=>v=.int .i64 e∧H'=([(y,.cells #[pt x,.string dir,lv,.bool (down||(e != 61)),.bool there] 61 (0,0))]::H)):=by
 refine C8 (args:=[pt y,.int .i64 e]) (n:=11) Tryz.func62 rfl rfl (Nat.le_of_ble_eq_true rfl) ?_
 refine A1 (B4 (E':=[⟨0,[],pt y⟩,⟨1,[],.int .i64 e⟩]) [0] [0,1] (k:=?_))
 refine A0 (A1 ?_)
 refine A1 (G_p [0,0] [0,1,6] (k:=?_))
 refine A0 (C6 (b:=e != 61) kr (fun hc1=>?_) (fun hc1=>?_))
 ·
  have hne:(e != 61)=true:=hc1
  refine A2 (A7 (j:=3) [0,0,0] (k:=?_))
  refine G4 (ch:=[]) (b:=y) (off:=3) (v:=.bool true) (j:=0) ([(y,.cells #[pt x,.string dir,lv,.bool true,.bool there] 61 (0,0))]::H) (hoff:=Nat.le_of_ble_eq_true rfl) (hfz:=(fun _ _=>F0)) (k:=D3 (E':=[⟨1,[],.int .i64 e⟩]) [] [1] (k:=?_))
  refine A0 (A1 ?_)
  refine B4 (E':=[⟨4,[],.int .i64 e⟩]) [0,0] [4] (k:=A0 ?_)
  refine C3 (C1 [.tmp 4] [.int .i64 e] (k:=?_))
  rw [hne]
  exact ⟨rfl,by first | rfl | rw [Bool.or_true] | rw [Bool.or_false]⟩
 ·
  have hne:(e != 61)=false:=hc1
  refine B5 (A0 ?_)
  refine A1 (B4 (E':=[⟨4,[],.int .i64 e⟩]) [0,0] [4] (k:=?_))
  refine A0 (C3 ?_)
  refine C1 [.tmp 4] [.int .i64 e] (k:=?_)
  rw [hne]
  exact ⟨rfl,by first | rfl | rw [Bool.or_true] | rw [Bool.or_false]⟩
set_option maxHeartbeats 1000000 in
theorem yaddTrue_ (y x:Nat) (r:RS) (M:DM) (hr:r.ok M) (z wn i:Nat) (hsc:ScrI z wn i M) (hz:z≤5000000) (hw:wn≤5000∧i≤5000) (dir:ByteArray) (la:Option Addr) (lc:Nat) (lg:Grp) (L:List ByteArray) (size:Int) (down:Bool) (hoL:JOwn (⟨dir,L,size,down,true⟩:JM) la lc lg) (hlen:L.length≤1000000) (hdz:dir.size≤1000000) (t:ByteArray) (ht:t.size≤4000000) (W0:World) (H:List Grp):Tri Tryz.prog 22 #[pt y,.string t] W0 ([(y,.cells #[pt x,.string dir,.slice la L.length lc,.bool down,.bool true] 61 (0,0))]::lg::(r.G x M++H)) (YR (addM ⟨dir,L,size,down,true⟩ M t) y x H):=by
 have hls:=H9 t
 have hup:ScrI (z+(t.size+18)) (wn+1) (i+1) M:=ScrI.up hsc (by omega) (by omega) (by omega)
 replace hoL:Go.Sw.Own 9 1 (.slice la L.length lc) lg L.length (strs L):=hoL
 refine C8 (args:=[pt y,.string t]) (n:=85) Tryz.func22 rfl rfl (Nat.le_of_ble_eq_true rfl) ?_
 refine A1 (B4 (E':=[⟨0,[],pt y⟩,⟨1,[],.string t⟩]) [0] [0,1] (k:=?_))
 refine A0 (A1 ?_)
 refine A1 (A2 ?_)
 refine A7 (j:=1) [0] (k:=F6 Tryz.func31 (rright_ t (by omega) _ _) ?_)
 refine C4 [0] [0,1,9] (k:=A0 ?_)
 refine C6 (b:=!(E8 t)) kr (fun hc1=>?_) (fun hc1=>?_)
 ·
  have hR:E8 t=false:=by simpa using hc1
  refine A1 (B4 (E':=[⟨4,[],.int .i64 2⟩]) [0] [4] (k:=?_))
  refine A0 (C3 ?_)
  refine B3 (C1 [.tmp 4] [.int .i64 2] (k:=?_))
  rw [add_bad hR]
  exact ⟨la,lc,lg,r,rfl,hoL,hr,rfl⟩
 ·
  have hR:E8 t=true:=by simpa using hc1
  refine B5 (A0 ?_)
  refine A1 (A1 ?_)
  refine A2 (A7 (j:=3) [0,0,0] (k:=?_))
  refine A5 (ch:=[]) (b:=y) (off:=3) (v:=.bool down) (hA:=At.grp 0 0 rfl rfl) (k:=C4 [] [0,1,13] (k:=?_))
  refine A0 (C6 (b:=down) kr (fun hc2=>?_) (fun hc2=>?_))
  ·
   have hD:down=true:=hc2
   refine A1 (B4 (E':=[⟨4,[],.int .i64 63⟩]) [0] [4] (k:=?_))
   refine A0 (C3 ?_)
   refine B3 (C1 [.tmp 4] [.int .i64 63] (k:=?_))
   rw [addM_down (j:=⟨dir,L,size,down,true⟩) hR hD]
   exact ⟨la,lc,lg,r,rfl,hoL,hr,rfl⟩
  ·
   have hD:down=false:=hc2
   refine B5 (A0 ?_)
   refine A1 (A2 ?_)
   refine A7 (j:=3) [0,0,0] (k:=A5 (ch:=[]) (b:=y) (off:=1) (v:=.string dir) (hA:=At.grp 0 0 rfl rfl) (k:=?_))
   refine K2 (ch:=[]) (s:=dir) (u:=(ByteArray.mk #[47,108,111,103])) (hb:=(by intro _; show dir.size+4≤_; omega)) (k:=D3 (E':=[⟨0,[],pt y⟩,⟨1,[],.string t⟩,⟨5,[],.string (dir++(ByteArray.mk #[47,108,111,103]))⟩]) [0] [0,1,5] (k:=?_))
   refine H8 (E':=[⟨0,[],pt y⟩,⟨1,[],.string t⟩,⟨5,[],.string (B0 dir logB)⟩]) (by rw [lit_log]) (A0 ?_)
   refine A1 (G_p [0] [0,1,5] (k:=?_))
   refine A0 (A1 ?_)
   refine A1 (A2 ?_)
   refine A7 (j:=3) [0,0,0] (k:=A5 (ch:=[]) (b:=y) (off:=4) (v:=.bool true) (hA:=At.grp 0 0 rfl rfl) (k:=?_))
   refine C4 [] [0,1,5,22] (k:=A0 ?_)
   refine I1 kr (D7 ([(y,.cells #[pt x,.string dir,.slice la L.length lc,.bool down,.bool true] 61 (0,0))]::lg::H) kr ?_)
   refine D0 (fuel:=8) [(0,0)] (fun w h=>(Sat.dropMid (K:=[_,_]) (A:=r.G x M) (L:=H) h)) (k:=G0 (ad:=⟨y,0,none⟩) 1 (hL:=(fun w h=>(Sat.dropMid (K:=[_,_]) (A:=r.G x M) (L:=H) h))) (k:=?_))
   refine D0 (fuel:=6) [(2,0)] (fun w h=>(Sat.dropMid (K:=[_,_]) (A:=r.G x M) (L:=H) h)) (k:=A9 3 (hL:=(fun w h=>(Sat.dropMid (K:=[_,_]) (A:=r.G x M) (L:=H) h))) (hy:=A5 (i:=3) (ch:=[]) (b:=y) (off:=0) (v:=pt x) (hA:=At.grp 0 0 rfl rfl) (k:=B1 kr rfl)) (k:=?_))
   refine D0 (fuel:=3) [(4,0),(5,0)] (fun w h=>(Sat.dropMid (K:=[_,_]) (A:=r.G x M) (L:=H) h)) (k:=B9 6 (k:=?_))
   refine F6 Tryz.func43 (rline_ t (by omega) _ _) (A6 kr (fun w h=>(Sat.dropMid (K:=[_,_]) (A:=r.G x M) (L:=H) h)) ?_)
   refine B9 7 (k:=G2 (vs:=[pt x,.string (B0 dir logB),.string (B8 t)]) Tryz.func27 (R7 (K:=[[(y,.cells #[pt x,.string dir,.slice la L.length lc,.bool down,.bool true] 61 (0,0))],lg]) (rAppend x r M hr (N4 hup (by omega) (by omega) (by omega)) (B0 dir logB) (B8 t) (by rw [T4]; show _+1+3≤_; omega) (by rw [H9]; omega) _ _)) ?_)
   rintro v H' ⟨rfl,r1,hr1,rfl⟩
   refine A6 kr (fun w h=>(Sat.dropMid (K:=[_,_]) (A:=r1.G x (F4 M (B0 dir logB) (B8 t)).2) (L:=H) h)) (D0 (fuel:=0) [(8,0)] (fun w h=>(Sat.dropMid (K:=[_,_]) (A:=r1.G x (F4 M (B0 dir logB) (B8 t)).2) (L:=H) h)) (k:=?_))
   refine D8 (E':=[⟨0,[],pt y⟩,⟨1,[],.string t⟩,⟨5,[],.string (B0 dir logB)⟩,⟨6,[],.int .i64 ((F4 M (B0 dir logB) (B8 t)).1)⟩]) [0,1,5,6] (k:=A0 ?_)
   refine A1 (A1 ?_)
   refine G_p [0,0] [0,1,5,6,40] (k:=A0 ?_)
   have ht0:=try_one (fun M=>F4 M (B0 dir logB) (B8 t)) M
   have hb1:ScrI (z+(t.size+18)) (wn+1) (i+1) (F4 M (B0 dir logB) (B8 t)).2:=(ScrI.up (H9 t ▸ sI_append hsc (B0 dir logB) (B8 t)) (Nat.le_refl _) (by omega) (by omega))
   refine G_join (T:=Int × DM × RS) (fun ξ:Int × DM × RS=>[⟨0,[],pt y⟩,⟨1,[],.string t⟩,⟨6,[],.int .i64 ξ.1⟩]) (fun ξ:Int × DM × RS=>([(y,.cells #[pt x,.string dir,.slice la L.length lc,.bool down,.bool true] 61 (0,0))]::lg::(ξ.2.2.G x ξ.2.1++H))) (fun ξ:Int × DM × RS=>(tryM [(fun M=>F4 M (B0 dir logB) (B8 t)),(fun M=>L8 M (B0 dir logB))] M=(ξ.1,ξ.2.1))∧(ξ.2.2.ok ξ.2.1)∧(ScrI (z+(t.size+18)) (wn+1) (i+1) ξ.2.1)) ?_ ?_
   ·
    refine C6 (b:=((F4 M (B0 dir logB) (B8 t)).1)==0) kr (fun hc3=>?_) (fun hc3=>?_)
    ·
     have hyes:=hc3
     refine A2 (A7 (j:=3) [0,0,0] (k:=?_))
     refine A5 (ch:=[]) (b:=y) (off:=0) (v:=pt x) (hA:=At.grp 0 0 rfl rfl) (k:=A7 (j:=5) [0] (k:=?_))
     refine G2 (vs:=[pt x,.string (B0 dir logB)]) Tryz.func60 (R7 (K:=[[(y,.cells #[pt x,.string dir,.slice la L.length lc,.bool down,.bool true] 61 (0,0))],lg]) (rSync x r1 (F4 M (B0 dir logB) (B8 t)).2 hr1 (N4 hb1 (by omega) (by omega) (by omega)) (B0 dir logB) (by rw [T4]; show _+1+3≤_; omega) _ _)) ?_
     rintro v H' ⟨rfl,r3,hr3,rfl⟩
     refine C4 [0] [0,1,6] (k:=M9 ((L8 (F4 M (B0 dir logB) (B8 t)).2 (B0 dir logB)).1,(L8 (F4 M (B0 dir logB) (B8 t)).2 (B0 dir logB)).2,r3) [0,1,6] kr (fun w h=>h) ⟨(try_ok1 _ ht0 hyes),hr3,(A0q hb1 (B0 dir logB))⟩)
    ·
     have hno:=hc3
     refine B5 (M9 ((F4 M (B0 dir logB) (B8 t)).1,(F4 M (B0 dir logB) (B8 t)).2,r1) [0,1,6] kr (fun w h=>h) ⟨(try_no1 _ ht0 hno),hr1,hb1⟩)
   ·
    rintro ⟨e2,M2,r2⟩ ⟨ht2,hr2,hs2⟩
    refine A0 (A1 ?_)
    refine A1 (A2 ?_)
    refine A7 (j:=6) [0,0,0,0,0,0] (k:=A5 (ch:=[(49,true)]) (b:=y) (off:=4) (v:=.bool true) (hA:=At.grp 0 0 rfl rfl) (k:=?_))
    refine C4 [0,6] [0,1,6,55] (k:=A0 ?_)
    refine C6 (b:=(e2==0)&&false) kr (fun hc4=>?_) (fun hc4=>?_)
    ·
     simp at hc4
    ·
     skip
     refine B5 (A0 ?_)
     refine A1 (A1 ?_)
     refine G_p [0,0] [0,1,6,66] (k:=A0 ?_)
     refine C6 (b:=e2 != 0) kr (fun hc5=>?_) (fun hc5=>?_)
     ·
      have hE:=hc5
      refine A1 (A2 ?_)
      refine A7 (j:=2) [0,0] (k:=G2 Tryz.func62 (yfail_ y x dir (.slice la L.length lc) e2 down true _ _) ?_)
      rintro v H' ⟨rfl,rfl⟩
      refine D3 (E':=[⟨4,[],.int .i64 e2⟩]) [0] [4] (k:=A0 ?_)
      refine C3 (B3 ?_)
      refine C1 [.tmp 4] [.int .i64 e2] (k:=?_)
      rw [addM_err (j:=⟨dir,L,size,down,true⟩) hR hD ht2 hE]
      exact ⟨la,lc,lg,r2,rfl,hoL,hr2,rfl⟩
     ·
      have hE:=hc5
      refine B5 (A0 ?_)
      refine A1 (A2 ?_)
      refine A7 (j:=3) [0,0,0] (k:=G4 (ch:=[]) (b:=y) (off:=4) (v:=.bool true) (j:=0) ([(y,.cells #[pt x,.string dir,.slice la L.length lc,.bool down,.bool true] 61 (0,0))]::lg::(r2.G x M2++H)) (hoff:=Nat.le_of_ble_eq_true rfl) (hfz:=(fun _ _=>F0)) (k:=?_))
      refine D3 (E':=[⟨0,[],pt y⟩,⟨1,[],.string t⟩]) [] [0,1] (k:=A0 ?_)
      refine A1 (A2 ?_)
      refine A7 (j:=1) [0] (k:=C2 (ch:=[]) (e:=9) (l:=[]) (c:=[]) (k:=(fun b6=>?_)))
      refine A7 (j:=5) [0,0,0] (k:=A5 (ch:=[]) (b:=y) (off:=2) (v:=.slice la L.length lc) (hA:=At.grp 1 0 rfl rfl) (k:=?_))
      refine E9 (i:=6) (ch:=[]) (t:=32) (tx:=32) (e:=9) (inf:=Tryz.t9) (s:=.slice (some ⟨b6,0,none⟩) 0 0) (x:=.slice la L.length lc) (n:=0) (m:=L.length) (j:=0) (cs:=[]) (news:=(strs L)) (g:=[(b6,.cells #[] 9 (0,0))]) (S:=(inG lg)) rfl rfl rfl rfl kr kr kr rfl rfl (.inl ⟨9,kr⟩) (fun ⟨_,h⟩=>by cases h) (fun _=>⟨9,kr⟩) kr kr kr rfl (Go.Sw.Own.lit rfl) (SrcOf.slice _ _ _ _ (D6 hoL) (A0t hoL)) (C9 2 rfl) (show (strs L).length=L.length * 1 by simp [strs]) P7 (by omega) (by show (0+L.length) * 16≤140737488355328; omega) (fun v7 g8 hO9=>?_)
      replace hO9:=T5 hO9
      obtain ⟨a10,cap11,rfl,hcap12,hrd13⟩:=hO9.shape
      refine A7 (j:=8) [0] (k:=C2 (ch:=[]) (e:=9) (l:=[(0,.string t)]) (c:=[.string t]) (k:=(fun b14=>?_)))
      refine E9 (i:=9) (ch:=[]) (t:=32) (tx:=32) (e:=9) (inf:=Tryz.t9) (s:=.slice a10 L.length cap11) (x:=.slice (some ⟨b14,0,none⟩) 1 1) (n:=L.length) (m:=1) (j:=1) (cs:=(strs L)) (news:=[.string t]) (g:=g8) (S:=(inG [(b14,.cells #[.string t] 9 (0,0))])) rfl rfl rfl rfl kr kr kr rfl rfl (.inl ⟨9,kr⟩) (fun ⟨_,h⟩=>by cases h) (fun _=>⟨9,kr⟩) kr kr kr rfl hO9 (SrcOf.slice _ _ _ _ Rd.lit (fun h=>by cases h)) (C9 0 rfl) rfl (P7 (ts:=[t])) (by omega) (by show (L.length+1) * 16≤140737488355328; omega) (fun v15 g16 hO17=>?_)
      obtain ⟨a18,cap19,rfl,hcap20,hrd21⟩:=hO17.shape
      refine A7 (j:=12) [0,0] (k:=G4 (ch:=[]) (b:=y) (off:=2) (v:=.slice a18 (L.length+1) cap19) (j:=2) ([(b14,.cells #[.string t] 9 (0,0))]::g16::[(y,.cells #[pt x,.string dir,.slice a18 (L.length+1) cap19,.bool down,.bool true] 61 (0,0))]::lg::(r2.G x M2++H)) (hoff:=Nat.le_of_ble_eq_true rfl) (hfz:=(fun _ _=>F0)) (k:=?_))
      refine D3 (E':=[]) [] [] (k:=A0 ?_)
      refine A1 (B4 (E':=[⟨4,[],.int .i64 0⟩]) [0] [4] (k:=?_))
      refine A0 (C3 ?_)
      refine E0 (H':=([(y,.cells #[pt x,.string dir,.slice a18 (L.length+1) cap19,.bool down,.bool true] 61 (0,0))]::g16::(r2.G x M2++H))) (fun w h=>((((h.front (j:=1) rfl).front (j:=2) rfl).erase 3).erase 2)) (C1 [.tmp 4] [.int .i64 0] (k:=?_))
      rw [addM_ok (j:=⟨dir,L,size,down,true⟩) hR hD ht2 hE]
      exact ⟨_,_,_,r2,rfl,own_addS hO17,hr2,by (show _=yAt y x _ _ _::_); unfold yAt; rw [List.length_append]; rfl⟩
set_option maxHeartbeats 1000000 in
theorem yaddFalse_ (y x:Nat) (r:RS) (M:DM) (hr:r.ok M) (z wn i:Nat) (hsc:ScrI z wn i M) (hz:z≤5000000) (hw:wn≤5000∧i≤5000) (dir:ByteArray) (la:Option Addr) (lc:Nat) (lg:Grp) (L:List ByteArray) (size:Int) (down:Bool) (hoL:JOwn (⟨dir,L,size,down,false⟩:JM) la lc lg) (hlen:L.length≤1000000) (hdz:dir.size≤1000000) (t:ByteArray) (ht:t.size≤4000000) (W0:World) (H:List Grp):Tri Tryz.prog 22 #[pt y,.string t] W0 ([(y,.cells #[pt x,.string dir,.slice la L.length lc,.bool down,.bool false] 61 (0,0))]::lg::(r.G x M++H)) (YR (addM ⟨dir,L,size,down,false⟩ M t) y x H):=by
 have hls:=H9 t
 have hup:ScrI (z+(t.size+18)) (wn+1) (i+1) M:=ScrI.up hsc (by omega) (by omega) (by omega)
 replace hoL:Go.Sw.Own 9 1 (.slice la L.length lc) lg L.length (strs L):=hoL
 refine C8 (args:=[pt y,.string t]) (n:=85) Tryz.func22 rfl rfl (Nat.le_of_ble_eq_true rfl) ?_
 refine A1 (B4 (E':=[⟨0,[],pt y⟩,⟨1,[],.string t⟩]) [0] [0,1] (k:=?_))
 refine A0 (A1 ?_)
 refine A1 (A2 ?_)
 refine A7 (j:=1) [0] (k:=F6 Tryz.func31 (rright_ t (by omega) _ _) ?_)
 refine C4 [0] [0,1,9] (k:=A0 ?_)
 refine C6 (b:=!(E8 t)) kr (fun hc1=>?_) (fun hc1=>?_)
 ·
  have hR:E8 t=false:=by simpa using hc1
  refine A1 (B4 (E':=[⟨4,[],.int .i64 2⟩]) [0] [4] (k:=?_))
  refine A0 (C3 ?_)
  refine B3 (C1 [.tmp 4] [.int .i64 2] (k:=?_))
  rw [add_bad hR]
  exact ⟨la,lc,lg,r,rfl,hoL,hr,rfl⟩
 ·
  have hR:E8 t=true:=by simpa using hc1
  refine B5 (A0 ?_)
  refine A1 (A1 ?_)
  refine A2 (A7 (j:=3) [0,0,0] (k:=?_))
  refine A5 (ch:=[]) (b:=y) (off:=3) (v:=.bool down) (hA:=At.grp 0 0 rfl rfl) (k:=C4 [] [0,1,13] (k:=?_))
  refine A0 (C6 (b:=down) kr (fun hc2=>?_) (fun hc2=>?_))
  ·
   have hD:down=true:=hc2
   refine A1 (B4 (E':=[⟨4,[],.int .i64 63⟩]) [0] [4] (k:=?_))
   refine A0 (C3 ?_)
   refine B3 (C1 [.tmp 4] [.int .i64 63] (k:=?_))
   rw [addM_down (j:=⟨dir,L,size,down,false⟩) hR hD]
   exact ⟨la,lc,lg,r,rfl,hoL,hr,rfl⟩
  ·
   have hD:down=false:=hc2
   refine B5 (A0 ?_)
   refine A1 (A2 ?_)
   refine A7 (j:=3) [0,0,0] (k:=A5 (ch:=[]) (b:=y) (off:=1) (v:=.string dir) (hA:=At.grp 0 0 rfl rfl) (k:=?_))
   refine K2 (ch:=[]) (s:=dir) (u:=(ByteArray.mk #[47,108,111,103])) (hb:=(by intro _; show dir.size+4≤_; omega)) (k:=D3 (E':=[⟨0,[],pt y⟩,⟨1,[],.string t⟩,⟨5,[],.string (dir++(ByteArray.mk #[47,108,111,103]))⟩]) [0] [0,1,5] (k:=?_))
   refine H8 (E':=[⟨0,[],pt y⟩,⟨1,[],.string t⟩,⟨5,[],.string (B0 dir logB)⟩]) (by rw [lit_log]) (A0 ?_)
   refine A1 (G_p [0] [0,1,5] (k:=?_))
   refine A0 (A1 ?_)
   refine A1 (A2 ?_)
   refine A7 (j:=3) [0,0,0] (k:=A5 (ch:=[]) (b:=y) (off:=4) (v:=.bool false) (hA:=At.grp 0 0 rfl rfl) (k:=?_))
   refine C4 [] [0,1,5,22] (k:=A0 ?_)
   refine I2 kr (D7 ([(y,.cells #[pt x,.string dir,.slice la L.length lc,.bool down,.bool false] 61 (0,0))]::lg::H) kr ?_)
   refine D0 (fuel:=8) [(0,0)] (fun w h=>(Sat.dropMid (K:=[_,_]) (A:=r.G x M) (L:=H) h)) (k:=G0 (ad:=⟨y,0,none⟩) 1 (hL:=(fun w h=>(Sat.dropMid (K:=[_,_]) (A:=r.G x M) (L:=H) h))) (k:=?_))
   refine D0 (fuel:=6) [(2,0)] (fun w h=>(Sat.dropMid (K:=[_,_]) (A:=r.G x M) (L:=H) h)) (k:=A9 3 (hL:=(fun w h=>(Sat.dropMid (K:=[_,_]) (A:=r.G x M) (L:=H) h))) (hy:=A5 (i:=3) (ch:=[]) (b:=y) (off:=0) (v:=pt x) (hA:=At.grp 0 0 rfl rfl) (k:=B1 kr rfl)) (k:=?_))
   refine D0 (fuel:=3) [(4,0),(5,0)] (fun w h=>(Sat.dropMid (K:=[_,_]) (A:=r.G x M) (L:=H) h)) (k:=B9 6 (k:=?_))
   refine F6 Tryz.func43 (rline_ t (by omega) _ _) (A6 kr (fun w h=>(Sat.dropMid (K:=[_,_]) (A:=r.G x M) (L:=H) h)) ?_)
   refine B9 7 (k:=G2 (vs:=[pt x,.string (B0 dir logB),.string (B8 t)]) Tryz.func59 (R7 (K:=[[(y,.cells #[pt x,.string dir,.slice la L.length lc,.bool down,.bool false] 61 (0,0))],lg]) (rWrite x r M hr (N4 hup (by omega) (by omega) (by omega)) (B0 dir logB) (B8 t) (by rw [T4]; show _+1+3≤_; omega) (by rw [H9]; omega) _ _)) ?_)
   rintro v H' ⟨rfl,r1,hr1,rfl⟩
   refine A6 kr (fun w h=>(Sat.dropMid (K:=[_,_]) (A:=r1.G x (D9 M (B0 dir logB) (B8 t)).2) (L:=H) h)) (D0 (fuel:=0) [(8,0)] (fun w h=>(Sat.dropMid (K:=[_,_]) (A:=r1.G x (D9 M (B0 dir logB) (B8 t)).2) (L:=H) h)) (k:=?_))
   refine D8 (E':=[⟨0,[],pt y⟩,⟨1,[],.string t⟩,⟨5,[],.string (B0 dir logB)⟩,⟨6,[],.int .i64 ((D9 M (B0 dir logB) (B8 t)).1)⟩]) [0,1,5,6] (k:=A0 ?_)
   refine A1 (A1 ?_)
   refine G_p [0,0] [0,1,5,6,40] (k:=A0 ?_)
   have ht0:=try_one (fun M=>D9 M (B0 dir logB) (B8 t)) M
   have hb1:ScrI (z+(t.size+18)) (wn+1) (i+1) (D9 M (B0 dir logB) (B8 t)).2:=(A0p (ScrI.up hsc (show z≤z+(t.size+18) by omega) (Nat.le_refl _) (Nat.le_refl _)) (B0 dir logB) (b:=B8 t) (by omega))
   refine G_join (T:=Int × DM × RS) (fun ξ:Int × DM × RS=>[⟨0,[],pt y⟩,⟨1,[],.string t⟩,⟨6,[],.int .i64 ξ.1⟩]) (fun ξ:Int × DM × RS=>([(y,.cells #[pt x,.string dir,.slice la L.length lc,.bool down,.bool false] 61 (0,0))]::lg::(ξ.2.2.G x ξ.2.1++H))) (fun ξ:Int × DM × RS=>(tryM [(fun M=>D9 M (B0 dir logB) (B8 t)),(fun M=>L8 M (B0 dir logB))] M=(ξ.1,ξ.2.1))∧(ξ.2.2.ok ξ.2.1)∧(ScrI (z+(t.size+18)) (wn+1) (i+1) ξ.2.1)) ?_ ?_
   ·
    refine C6 (b:=((D9 M (B0 dir logB) (B8 t)).1)==0) kr (fun hc3=>?_) (fun hc3=>?_)
    ·
     have hyes:=hc3
     refine A2 (A7 (j:=3) [0,0,0] (k:=?_))
     refine A5 (ch:=[]) (b:=y) (off:=0) (v:=pt x) (hA:=At.grp 0 0 rfl rfl) (k:=A7 (j:=5) [0] (k:=?_))
     refine G2 (vs:=[pt x,.string (B0 dir logB)]) Tryz.func60 (R7 (K:=[[(y,.cells #[pt x,.string dir,.slice la L.length lc,.bool down,.bool false] 61 (0,0))],lg]) (rSync x r1 (D9 M (B0 dir logB) (B8 t)).2 hr1 (N4 hb1 (by omega) (by omega) (by omega)) (B0 dir logB) (by rw [T4]; show _+1+3≤_; omega) _ _)) ?_
     rintro v H' ⟨rfl,r3,hr3,rfl⟩
     refine C4 [0] [0,1,6] (k:=M9 ((L8 (D9 M (B0 dir logB) (B8 t)).2 (B0 dir logB)).1,(L8 (D9 M (B0 dir logB) (B8 t)).2 (B0 dir logB)).2,r3) [0,1,6] kr (fun w h=>h) ⟨(try_ok1 _ ht0 hyes),hr3,(A0q hb1 (B0 dir logB))⟩)
    ·
     have hno:=hc3
     refine B5 (M9 ((D9 M (B0 dir logB) (B8 t)).1,(D9 M (B0 dir logB) (B8 t)).2,r1) [0,1,6] kr (fun w h=>h) ⟨(try_no1 _ ht0 hno),hr1,hb1⟩)
   ·
    rintro ⟨e2,M2,r2⟩ ⟨ht2,hr2,hs2⟩
    refine A0 (A1 ?_)
    refine A1 (A2 ?_)
    refine A7 (j:=6) [0,0,0,0,0,0] (k:=A5 (ch:=[(49,true)]) (b:=y) (off:=4) (v:=.bool false) (hA:=At.grp 0 0 rfl rfl) (k:=?_))
    refine C4 [0,6] [0,1,6,55] (k:=A0 ?_)
    refine G_join (T:=Int × DM × RS) (fun ξ:Int × DM × RS=>[⟨0,[],pt y⟩,⟨1,[],.string t⟩,⟨6,[],.int .i64 ξ.1⟩]) (fun ξ:Int × DM × RS=>([(y,.cells #[pt x,.string dir,.slice la L.length lc,.bool down,.bool false] 61 (0,0))]::lg::(ξ.2.2.G x ξ.2.1++H))) (fun ξ:Int × DM × RS=>(tryM [(fun M=>D9 M (B0 dir logB) (B8 t)),(fun M=>L8 M (B0 dir logB)),(fun M=>I4 M dir)] M=(ξ.1,ξ.2.1))∧(ξ.2.2.ok ξ.2.1)∧(ScrI (z+(t.size+18)) (wn+1) (i+1) ξ.2.1)) ?_ ?_
    ·
     refine C6 (b:=(e2==0)&&true) kr (fun hc4=>?_) (fun hc4=>?_)
     ·
      have hyes:=(Bool.and_eq_true_iff.1 hc4).1
      refine D7 ([(y,.cells #[pt x,.string dir,.slice la L.length lc,.bool down,.bool false] 61 (0,0))]::lg::H) kr (D0 (fuel:=9) [(0,0)] (fun w h=>(Sat.dropMid (K:=[_,_]) (A:=r2.G x M2) (L:=H) h)) (k:=?_))
      refine G0 (ad:=⟨y,0,none⟩) 1 (hL:=(fun w h=>(Sat.dropMid (K:=[_,_]) (A:=r2.G x M2) (L:=H) h))) (k:=D0 (fuel:=7) [(2,0)] (fun w h=>(Sat.dropMid (K:=[_,_]) (A:=r2.G x M2) (L:=H) h)) (k:=?_))
      refine A9 3 (hL:=(fun w h=>(Sat.dropMid (K:=[_,_]) (A:=r2.G x M2) (L:=H) h))) (hy:=A5 (i:=3) (ch:=[]) (b:=y) (off:=0) (v:=pt x) (hA:=At.grp 0 0 rfl rfl) (k:=B1 kr rfl)) (k:=D0 (fuel:=5) [(4,0)] (fun w h=>(Sat.dropMid (K:=[_,_]) (A:=r2.G x M2) (L:=H) h)) (k:=?_))
      refine G0 (ad:=⟨y,0,none⟩) 5 (hL:=(fun w h=>(Sat.dropMid (K:=[_,_]) (A:=r2.G x M2) (L:=H) h))) (k:=D0 (fuel:=3) [(6,0)] (fun w h=>(Sat.dropMid (K:=[_,_]) (A:=r2.G x M2) (L:=H) h)) (k:=?_))
      refine A9 7 (hL:=(fun w h=>(Sat.dropMid (K:=[_,_]) (A:=r2.G x M2) (L:=H) h))) (hy:=A5 (i:=7) (ch:=[]) (b:=y) (off:=1) (v:=.string dir) (hA:=At.grp 0 0 rfl rfl) (k:=B1 kr rfl)) (k:=B9 8 (k:=?_))
      refine G2 Tryz.func61 (R7 (K:=[[(y,.cells #[pt x,.string dir,.slice la L.length lc,.bool down,.bool false] 61 (0,0))],lg]) (rSyncDir x r2 M2 hr2 (N4 hs2 (by omega) (by omega) (by omega)) dir (by omega) _ _)) ?_
      rintro v H' ⟨rfl,r5,hr5,rfl⟩
      refine A6 kr (fun w h=>(Sat.dropMid (K:=[_,_]) (A:=r5.G x (I4 M2 dir).2) (L:=H) h)) (D0 (fuel:=0) [(9,0)] (fun w h=>(Sat.dropMid (K:=[_,_]) (A:=r5.G x (I4 M2 dir).2) (L:=H) h)) (k:=?_))
      refine D8 (E':=[⟨0,[],pt y⟩,⟨1,[],.string t⟩,⟨6,[],.int .i64 ((I4 M2 dir).1)⟩]) [0,1,6] (k:=M9 ((I4 M2 dir).1,(I4 M2 dir).2,r5) [0,1,6] kr (fun w h=>h) ⟨(try_ok1 _ ht2 hyes),hr5,(sI_sdir hs2 dir)⟩)
     ·
      have hno:=(Bool.and_eq_false_iff.1 hc4).resolve_right (by decide)
      refine B5 (M9 (e2,M2,r2) [0,1,6] kr (fun w h=>h) ⟨(try_no1 _ ht2 hno),hr2,hs2⟩)
    ·
     rintro ⟨e4,M4,r4⟩ ⟨ht4,hr4,hs4⟩
     refine A0 (A1 ?_)
     refine A1 (G_p [0,0] [0,1,6,66] (k:=?_))
     refine A0 (C6 (b:=e4 != 0) kr (fun hc5=>?_) (fun hc5=>?_))
     ·
      have hE:=hc5
      refine A1 (A2 ?_)
      refine A7 (j:=2) [0,0] (k:=G2 Tryz.func62 (yfail_ y x dir (.slice la L.length lc) e4 down false _ _) ?_)
      rintro v H' ⟨rfl,rfl⟩
      refine D3 (E':=[⟨4,[],.int .i64 e4⟩]) [0] [4] (k:=A0 ?_)
      refine C3 (B3 ?_)
      refine C1 [.tmp 4] [.int .i64 e4] (k:=?_)
      rw [addM_err (j:=⟨dir,L,size,down,false⟩) hR hD ht4 hE]
      exact ⟨la,lc,lg,r4,rfl,hoL,hr4,rfl⟩
     ·
      have hE:=hc5
      refine B5 (A0 ?_)
      refine A1 (A2 ?_)
      refine A7 (j:=3) [0,0,0] (k:=G4 (ch:=[]) (b:=y) (off:=4) (v:=.bool true) (j:=0) ([(y,.cells #[pt x,.string dir,.slice la L.length lc,.bool down,.bool true] 61 (0,0))]::lg::(r4.G x M4++H)) (hoff:=Nat.le_of_ble_eq_true rfl) (hfz:=(fun _ _=>F0)) (k:=?_))
      refine D3 (E':=[⟨0,[],pt y⟩,⟨1,[],.string t⟩]) [] [0,1] (k:=A0 ?_)
      refine A1 (A2 ?_)
      refine A7 (j:=1) [0] (k:=C2 (ch:=[]) (e:=9) (l:=[]) (c:=[]) (k:=(fun b6=>?_)))
      refine A7 (j:=5) [0,0,0] (k:=A5 (ch:=[]) (b:=y) (off:=2) (v:=.slice la L.length lc) (hA:=At.grp 1 0 rfl rfl) (k:=?_))
      refine E9 (i:=6) (ch:=[]) (t:=32) (tx:=32) (e:=9) (inf:=Tryz.t9) (s:=.slice (some ⟨b6,0,none⟩) 0 0) (x:=.slice la L.length lc) (n:=0) (m:=L.length) (j:=0) (cs:=[]) (news:=(strs L)) (g:=[(b6,.cells #[] 9 (0,0))]) (S:=(inG lg)) rfl rfl rfl rfl kr kr kr rfl rfl (.inl ⟨9,kr⟩) (fun ⟨_,h⟩=>by cases h) (fun _=>⟨9,kr⟩) kr kr kr rfl (Go.Sw.Own.lit rfl) (SrcOf.slice _ _ _ _ (D6 hoL) (A0t hoL)) (C9 2 rfl) (show (strs L).length=L.length * 1 by simp [strs]) P7 (by omega) (by show (0+L.length) * 16≤140737488355328; omega) (fun v7 g8 hO9=>?_)
      replace hO9:=T5 hO9
      obtain ⟨a10,cap11,rfl,hcap12,hrd13⟩:=hO9.shape
      refine A7 (j:=8) [0] (k:=C2 (ch:=[]) (e:=9) (l:=[(0,.string t)]) (c:=[.string t]) (k:=(fun b14=>?_)))
      refine E9 (i:=9) (ch:=[]) (t:=32) (tx:=32) (e:=9) (inf:=Tryz.t9) (s:=.slice a10 L.length cap11) (x:=.slice (some ⟨b14,0,none⟩) 1 1) (n:=L.length) (m:=1) (j:=1) (cs:=(strs L)) (news:=[.string t]) (g:=g8) (S:=(inG [(b14,.cells #[.string t] 9 (0,0))])) rfl rfl rfl rfl kr kr kr rfl rfl (.inl ⟨9,kr⟩) (fun ⟨_,h⟩=>by cases h) (fun _=>⟨9,kr⟩) kr kr kr rfl hO9 (SrcOf.slice _ _ _ _ Rd.lit (fun h=>by cases h)) (C9 0 rfl) rfl (P7 (ts:=[t])) (by omega) (by show (L.length+1) * 16≤140737488355328; omega) (fun v15 g16 hO17=>?_)
      obtain ⟨a18,cap19,rfl,hcap20,hrd21⟩:=hO17.shape
      refine A7 (j:=12) [0,0] (k:=G4 (ch:=[]) (b:=y) (off:=2) (v:=.slice a18 (L.length+1) cap19) (j:=2) ([(b14,.cells #[.string t] 9 (0,0))]::g16::[(y,.cells #[pt x,.string dir,.slice a18 (L.length+1) cap19,.bool down,.bool true] 61 (0,0))]::lg::(r4.G x M4++H)) (hoff:=Nat.le_of_ble_eq_true rfl) (hfz:=(fun _ _=>F0)) (k:=?_))
      refine D3 (E':=[]) [] [] (k:=A0 ?_)
      refine A1 (B4 (E':=[⟨4,[],.int .i64 0⟩]) [0] [4] (k:=?_))
      refine A0 (C3 ?_)
      refine E0 (H':=([(y,.cells #[pt x,.string dir,.slice a18 (L.length+1) cap19,.bool down,.bool true] 61 (0,0))]::g16::(r4.G x M4++H))) (fun w h=>((((h.front (j:=1) rfl).front (j:=2) rfl).erase 3).erase 2)) (C1 [.tmp 4] [.int .i64 0] (k:=?_))
      rw [addM_ok (j:=⟨dir,L,size,down,false⟩) hR hD ht4 hE]
      exact ⟨_,_,_,r4,rfl,own_addS hO17,hr4,by (show _=yAt y x _ _ _::_); unfold yAt; rw [List.length_append]; rfl⟩
end Go.Proofs.YtlaoeiaaeifidaaGreat
namespace Go.Proofs.YtlaoeiaaeifidaaGreat
open Go.Sw Go.Sha Go.Lib Go.Vf Go.Jr Go.RowKit
theorem yany_hit {ts:List ByteArray} {k:Nat} (hk:k<ts.length) (h:E8 (ts.getD k default)=false):ts.any (fun t=>!E8 t)=true:=by
  rw [List.any_eq_true]
  refine ⟨ts.getD k default,?_,by rw [h]; rfl⟩
  rw [List.getD,List.getElem?_eq_getElem hk]; exact List.getElem_mem hk
theorem yany_none {ts:List ByteArray} {k:Nat} (hk:ts.length≤k) (h:∀ j,j<k→E8 (ts.getD j default)=true):ts.any (fun t=>!E8 t)=false:=by
  rw [List.any_eq_false]
  intro t ht
  obtain ⟨j,hj,rfl⟩:=List.getElem_of_mem ht
  have:=h j (by omega)
  rw [List.getD,List.getElem?_eq_getElem hj] at this
  have e:(some ts[j]).getD (default:ByteArray)=ts[j]:=rfl
  rw [e] at this; rw [this]; decide
theorem yall_more {ts:List ByteArray} {k:Nat} (h:∀ j,j<k→E8 (ts.getD j default)=true) (hk:E8 (ts.getD k default)=true):∀ j,j<k+1→E8 (ts.getD j default)=true:=fun j hj=>by
  rcases Nat.lt_or_ge j k with h' | h'
  · exact h j h'
  · have:j=k:=by omega
    subst this; exact hk
theorem yrepM_bad {j:JM} {M:DM} {ts:List ByteArray} (h:ts.any (fun t=>!E8 t)=true):E3 j M ts=(2,j,M):=by unfold E3; rw [h]; rfl
theorem ygetD_le {ts:List ByteArray} {k:Nat} (hk:k<ts.length):(ts.getD k default).size≤(A4 ts).size:=by
  have h1:=linesT_le (ts:=ts) (n:=k+1)
  rw [lines_take hk,ByteArray.size_append,H9] at h1; omega
set_option maxHeartbeats 1000000 in
theorem yrep_ (y x:Nat) (r:RS) (M:DM) (hr:r.ok M) (z wn i:Nat) (hsc:ScrI z wn i M) (hz:z≤5000000) (hw:wn≤5000∧i≤5000) (dir:ByteArray) (la:Option Addr) (lc:Nat) (lg:Grp) (L:List ByteArray) (size:Int) (down:Bool) (there:Bool) (hoL:JOwn (⟨dir,L,size,down,there⟩:JM) la lc lg) (hdz:dir.size≤1000000) (ta:Option Addr) (tc:Nat) (ts:List ByteArray) (S:Nat→Obj→Prop) (hrd:Rd S ta (strs ts)) (hlt:ts.length≤10000000) (hn:ta=none→ts.length=0) (hbz:(A4 ts).size≤4000000) (W0:World) (H:List Grp) (hS:∀ y o,S y o→At W0 (lg::H) y o):Tri Tryz.prog 23 #[pt y,.slice ta ts.length tc] W0 ([(y,.cells #[pt x,.string dir,.slice la L.length lc,.bool down,.bool there] 61 (0,0))]::lg::(r.G x M++H)) (YR (E3 ⟨dir,L,size,down,there⟩ M ts) y x H):=by
 have hup:ScrI (z+(A4 ts).size) (wn+1) (i+1) M:=ScrI.up hsc (by omega) (by omega) (by omega)
 replace hoL:Go.Sw.Own 9 1 (.slice la L.length lc) lg L.length (strs L):=hoL
 refine C8 (args:=[pt y,.slice ta ts.length tc]) (n:=88) Tryz.func23 rfl rfl (Nat.le_of_ble_eq_true rfl) ?_
 refine A1 (G_p [0] [0,1] (k:=?_))
 refine A0 (A1 ?_)
 refine A1 (G_p [0,0,0] [0,1,8,9,10] (k:=?_))
 refine A0 (C5 ?_)
 refine I8 (EI:=(fun ξ:Nat=>[⟨0,[],pt y⟩,⟨1,[],.slice ta ts.length tc⟩,⟨8,[],.slice ta ts.length tc⟩,⟨9,[],.int .i64 ((ts.length:Nat):Int)⟩,⟨10,[],.int .i64 ((ξ:Nat):Int)⟩])) (HI:=(fun ξ:Nat=>([(y,.cells #[pt x,.string dir,.slice la L.length lc,.bool down,.bool there] 61 (0,0))]::lg::(r.G x M++H)))) (Φ:=(fun ξ:Nat=>(ξ≤ts.length)∧(∀ j,j<ξ→E8 (ts.getD j default)=true))) (μ:=(fun ξ:Nat=>ts.length - ξ)) (s0:=(0)) [0,1,8,9,10] kr rfl ⟨(by omega),(fun j h=>absurd h (Nat.not_lt_zero j))⟩ ?_
 rintro k ⟨hk,hA⟩
 refine A1 (G_p [0] [0,1,8,9,10,11] (k:=?_))
 refine A0 (A1 ?_)
 refine C6 (b:=decide (((k:Nat):Int)<((ts.length:Nat):Int))) kr (fun hc1=>?_) (fun hc1=>?_)
 ·
  have hkt:k<ts.length:=by (have h9:=of_decide_eq_true hc1; omega)
  refine B5 (A0 ?_)
  refine A1 (C5 ?_)
  refine A1 (A2 ?_)
  refine B7 (ch:=[]) (a:=ta) (len:=ts.length) (cap:=tc) (kd:=.i64) (j:=((k:Nat):Int)) (e:=9) (sz:=1) (S:=S) (cs:=(strs ts)) (hrd:=hrd) (hb:=(fun _=>by exact ⟨by omega,by omega,strs_ne (by omega)⟩)) (k:=D4 (ch:=[]) (a:=ta) (q:=k * 1) (S:=S) (cs:=(strs ts)) (v:=.string (ts.getD k default)) (hrd:=hrd) (hS:=(fun y_ o h=>at_skip (hS y_ o h))) (hv:=(fun _=>(by rw [Nat.mul_one]; exact A0n (by omega)))) (k:=?_))
  refine C4 [0] [0,1,6,8,9,10] (k:=A0 ?_)
  refine A1 (A2 ?_)
  refine A7 (j:=1) [0] (k:=F6 Tryz.func31 (rright_ (ts.getD k default) (by have:=ygetD_le hkt; omega) _ _) ?_)
  refine C4 [0] [0,1,8,9,10,16] (k:=A0 ?_)
  refine C6 (b:=!(E8 (ts.getD k default))) kr (fun hc2=>?_) (fun hc2=>?_)
  ·
   have hR:E8 (ts.getD k default)=false:=by simpa using hc2
   refine A1 (B4 (E':=[⟨4,[],.int .i64 2⟩]) [0] [4] (k:=?_))
   refine A0 (C3 ?_)
   refine F8 (B3 ?_)
   refine B3 (F8 ?_)
   refine B3 (C1 [.tmp 4] [.int .i64 2] (k:=?_))
   rw [yrepM_bad (yany_hit hkt hR)]
   exact ⟨la,lc,lg,r,rfl,hoL,hr,rfl⟩
  ·
   have hR:E8 (ts.getD k default)=true:=by simpa using hc2
   refine B5 (D5 ?_)
   refine A0 (A2 ?_)
   refine A7 (j:=1) [0] (k:=F2 17 (((k:Nat):Int)+1) (by omega) (by omega) kr ?_)
   refine C4 [0] [0,1,8,9,10] (k:=E5 (s':=(k+1)) [0,1,8,9,10] kr rfl ⟨(by omega),(yall_more hA hR)⟩ (by omega))
 ·
  have hkn:ts.length≤k:=by (have h9:=of_decide_eq_false hc1; omega)
  have hAll:=yany_none hkn hA
  refine G6 (A8 ?_)
  refine A8 (C7 ?_)
  refine A0 (A1 ?_)
  refine A1 (A2 ?_)
  refine A7 (j:=3) [0,0,0] (k:=A5 (ch:=[]) (b:=y) (off:=3) (v:=.bool down) (hA:=At.grp 0 0 rfl rfl) (k:=?_))
  refine C4 [] [0,1,21] (k:=A0 ?_)
  refine C6 (b:=down) kr (fun hc4=>?_) (fun hc4=>?_)
  ·
   have hD:down=true:=hc4
   refine A1 (B4 (E':=[⟨4,[],.int .i64 63⟩]) [0] [4] (k:=?_))
   refine A0 (C3 ?_)
   refine B3 (C1 [.tmp 4] [.int .i64 63] (k:=?_))
   rw [repM_down (j:=⟨dir,L,size,down,there⟩) hAll hD]
   exact ⟨la,lc,lg,r,rfl,hoL,hr,rfl⟩
  ·
   have hD:down=false:=hc4
   refine B5 (A0 ?_)
   refine A1 (D7 ([(y,.cells #[pt x,.string dir,.slice la L.length lc,.bool down,.bool there] 61 (0,0))]::lg::H) kr ?_)
   refine D0 (fuel:=12) [(0,0)] (fun w h=>(Sat.dropMid (K:=[_,_]) (A:=r.G x M) (L:=H) h)) (k:=G0 (ad:=⟨y,0,none⟩) 1 (hL:=(fun w h=>(Sat.dropMid (K:=[_,_]) (A:=r.G x M) (L:=H) h))) (k:=?_))
   refine D0 (fuel:=10) [(2,0)] (fun w h=>(Sat.dropMid (K:=[_,_]) (A:=r.G x M) (L:=H) h)) (k:=A9 3 (hL:=(fun w h=>(Sat.dropMid (K:=[_,_]) (A:=r.G x M) (L:=H) h))) (hy:=A5 (i:=3) (ch:=[]) (b:=y) (off:=0) (v:=pt x) (hA:=At.grp 0 0 rfl rfl) (k:=B1 kr rfl)) (k:=?_))
   refine D0 (fuel:=8) [(4,0)] (fun w h=>(Sat.dropMid (K:=[_,_]) (A:=r.G x M) (L:=H) h)) (k:=G0 (ad:=⟨y,0,none⟩) 5 (hL:=(fun w h=>(Sat.dropMid (K:=[_,_]) (A:=r.G x M) (L:=H) h))) (k:=?_))
   refine D0 (fuel:=6) [(6,0)] (fun w h=>(Sat.dropMid (K:=[_,_]) (A:=r.G x M) (L:=H) h)) (k:=A9 7 (hL:=(fun w h=>(Sat.dropMid (K:=[_,_]) (A:=r.G x M) (L:=H) h))) (hy:=A5 (i:=7) (ch:=[]) (b:=y) (off:=1) (v:=.string dir) (hA:=At.grp 0 0 rfl rfl) (k:=B1 kr rfl)) (k:=?_))
   refine A9 (E':=[⟨30,[],.string (dir++(ByteArray.mk #[47,110,101,119]))⟩,⟨29,[],.string dir⟩,⟨28,[],.pointer (some ⟨y,1,none⟩)⟩,⟨27,[],pt y⟩,⟨26,[],pt y⟩,⟨25,[],pt x⟩,⟨24,[],pt y⟩,⟨23,[],pt y⟩,⟨22,[],pt y⟩,⟨0,[],pt y⟩,⟨1,[],.slice ta ts.length tc⟩,⟨21,[],.bool down⟩]) 8 kr (fun w h=>(Sat.dropMid (K:=[_,_]) (A:=r.G x M) (L:=H) h)) ?_ ?_
   ·
    exact K2 (ch:=[]) (s:=dir) (u:=(ByteArray.mk #[47,110,101,119])) (hb:=(by intro _; show dir.size+4≤_; omega)) (k:=B1)
   refine GH_env (E':=[⟨30,[],.string (B0 dir G7)⟩,⟨29,[],.string dir⟩,⟨28,[],.pointer (some ⟨y,1,none⟩)⟩,⟨27,[],pt y⟩,⟨26,[],pt y⟩,⟨25,[],pt x⟩,⟨24,[],pt y⟩,⟨23,[],pt y⟩,⟨22,[],pt y⟩,⟨0,[],pt y⟩,⟨1,[],.slice ta ts.length tc⟩,⟨21,[],.bool down⟩]) (by rw [lit_new]) (D0 (fuel:=3) [(9,0)] (fun w h=>(Sat.dropMid (K:=[_,_]) (A:=r.G x M) (L:=H) h)) (k:=?_))
   refine B9 10 (k:=F6 Tryz.func30 (rlines_ ta tc S ts hrd (by omega) (by omega) _ _ (fun y_ o h=>at_skip (hS y_ o h))) ?_)
   refine A6 kr (fun w h=>(Sat.dropMid (K:=[_,_]) (A:=r.G x M) (L:=H) h)) (B9 11 (k:=?_))
   refine G2 (vs:=[pt x,.string (B0 dir G7),.string (A4 ts)]) Tryz.func59 (R7 (K:=[[(y,.cells #[pt x,.string dir,.slice la L.length lc,.bool down,.bool there] 61 (0,0))],lg]) (rWrite x r M hr (N4 hup (by omega) (by omega) (by omega)) (B0 dir G7) (A4 ts) (by rw [T4]; show _+1+3≤_; omega) (by omega) _ _)) ?_
   rintro v H' ⟨rfl,r1,hr1,rfl⟩
   refine A6 kr (fun w h=>(Sat.dropMid (K:=[_,_]) (A:=r1.G x (D9 M (B0 dir G7) (A4 ts)).2) (L:=H) h)) (D0 (fuel:=0) [(12,0)] (fun w h=>(Sat.dropMid (K:=[_,_]) (A:=r1.G x (D9 M (B0 dir G7) (A4 ts)).2) (L:=H) h)) (k:=?_))
   refine D8 (E':=[⟨0,[],pt y⟩,⟨1,[],.slice ta ts.length tc⟩,⟨7,[],.int .i64 ((D9 M (B0 dir G7) (A4 ts)).1)⟩]) [0,1,7] (k:=A0 ?_)
   refine A1 (A1 ?_)
   refine G_p [0,0] [0,1,7,35] (k:=A0 ?_)
   have ht0:=try_one (fun M=>D9 M (B0 dir G7) (A4 ts)) M
   have hb1:ScrI (z+(A4 ts).size) (wn+1) (i+1) (D9 M (B0 dir G7) (A4 ts)).2:=(A0p (ScrI.up hsc (show z≤z+(A4 ts).size by omega) (Nat.le_refl _) (Nat.le_refl _)) (B0 dir G7) (b:=A4 ts) (by omega))
   refine G_join (T:=Int × DM × RS) (fun ξ:Int × DM × RS=>[⟨0,[],pt y⟩,⟨1,[],.slice ta ts.length tc⟩,⟨7,[],.int .i64 ξ.1⟩]) (fun ξ:Int × DM × RS=>([(y,.cells #[pt x,.string dir,.slice la L.length lc,.bool down,.bool there] 61 (0,0))]::lg::(ξ.2.2.G x ξ.2.1++H))) (fun ξ:Int × DM × RS=>(tryM [(fun M=>D9 M (B0 dir G7) (A4 ts)),(fun M=>L8 M (B0 dir G7))] M=(ξ.1,ξ.2.1))∧(ξ.2.2.ok ξ.2.1)∧(ScrI (z+(A4 ts).size) (wn+1) (i+1) ξ.2.1)) ?_ ?_
   ·
    refine C6 (b:=((D9 M (B0 dir G7) (A4 ts)).1)==0) kr (fun hc5=>?_) (fun hc5=>?_)
    ·
     have hyes:=hc5
     refine D7 ([(y,.cells #[pt x,.string dir,.slice la L.length lc,.bool down,.bool there] 61 (0,0))]::lg::H) kr (D0 (fuel:=10) [(0,0)] (fun w h=>(Sat.dropMid (K:=[_,_]) (A:=r1.G x (D9 M (B0 dir G7) (A4 ts)).2) (L:=H) h)) (k:=?_))
     refine G0 (ad:=⟨y,0,none⟩) 1 (hL:=(fun w h=>(Sat.dropMid (K:=[_,_]) (A:=r1.G x (D9 M (B0 dir G7) (A4 ts)).2) (L:=H) h))) (k:=D0 (fuel:=8) [(2,0)] (fun w h=>(Sat.dropMid (K:=[_,_]) (A:=r1.G x (D9 M (B0 dir G7) (A4 ts)).2) (L:=H) h)) (k:=?_))
     refine A9 3 (hL:=(fun w h=>(Sat.dropMid (K:=[_,_]) (A:=r1.G x (D9 M (B0 dir G7) (A4 ts)).2) (L:=H) h))) (hy:=A5 (i:=3) (ch:=[]) (b:=y) (off:=0) (v:=pt x) (hA:=At.grp 0 0 rfl rfl) (k:=B1 kr rfl)) (k:=D0 (fuel:=6) [(4,0)] (fun w h=>(Sat.dropMid (K:=[_,_]) (A:=r1.G x (D9 M (B0 dir G7) (A4 ts)).2) (L:=H) h)) (k:=?_))
     refine G0 (ad:=⟨y,0,none⟩) 5 (hL:=(fun w h=>(Sat.dropMid (K:=[_,_]) (A:=r1.G x (D9 M (B0 dir G7) (A4 ts)).2) (L:=H) h))) (k:=D0 (fuel:=4) [(6,0)] (fun w h=>(Sat.dropMid (K:=[_,_]) (A:=r1.G x (D9 M (B0 dir G7) (A4 ts)).2) (L:=H) h)) (k:=?_))
     refine A9 7 (hL:=(fun w h=>(Sat.dropMid (K:=[_,_]) (A:=r1.G x (D9 M (B0 dir G7) (A4 ts)).2) (L:=H) h))) (hy:=A5 (i:=7) (ch:=[]) (b:=y) (off:=1) (v:=.string dir) (hA:=At.grp 0 0 rfl rfl) (k:=B1 kr rfl)) (k:=A9 (E':=[⟨44,[],.string (dir++(ByteArray.mk #[47,110,101,119]))⟩,⟨43,[],.string dir⟩,⟨42,[],.pointer (some ⟨y,1,none⟩)⟩,⟨41,[],pt y⟩,⟨40,[],pt y⟩,⟨39,[],pt x⟩,⟨38,[],pt y⟩,⟨37,[],pt y⟩,⟨36,[],pt y⟩,⟨0,[],pt y⟩,⟨1,[],.slice ta ts.length tc⟩,⟨7,[],.int .i64 ((D9 M (B0 dir G7) (A4 ts)).1)⟩,⟨35,[],.bool (((D9 M (B0 dir G7) (A4 ts)).1)==0)⟩]) 8 kr (fun w h=>(Sat.dropMid (K:=[_,_]) (A:=r1.G x (D9 M (B0 dir G7) (A4 ts)).2) (L:=H) h)) ?_ ?_)
     ·
      exact K2 (ch:=[]) (s:=dir) (u:=(ByteArray.mk #[47,110,101,119])) (hb:=(by intro _; show dir.size+4≤_; omega)) (k:=B1)
     refine GH_env (E':=[⟨44,[],.string (B0 dir G7)⟩,⟨43,[],.string dir⟩,⟨42,[],.pointer (some ⟨y,1,none⟩)⟩,⟨41,[],pt y⟩,⟨40,[],pt y⟩,⟨39,[],pt x⟩,⟨38,[],pt y⟩,⟨37,[],pt y⟩,⟨36,[],pt y⟩,⟨0,[],pt y⟩,⟨1,[],.slice ta ts.length tc⟩,⟨7,[],.int .i64 ((D9 M (B0 dir G7) (A4 ts)).1)⟩,⟨35,[],.bool (((D9 M (B0 dir G7) (A4 ts)).1)==0)⟩]) (by rw [lit_new]) (B9 9 (k:=?_))
     refine G2 (vs:=[pt x,.string (B0 dir G7)]) Tryz.func60 (R7 (K:=[[(y,.cells #[pt x,.string dir,.slice la L.length lc,.bool down,.bool there] 61 (0,0))],lg]) (rSync x r1 (D9 M (B0 dir G7) (A4 ts)).2 hr1 (N4 hb1 (by omega) (by omega) (by omega)) (B0 dir G7) (by rw [T4]; show _+1+3≤_; omega) _ _)) ?_
     rintro v H' ⟨rfl,r3,hr3,rfl⟩
     refine A6 kr (fun w h=>(Sat.dropMid (K:=[_,_]) (A:=r3.G x (L8 (D9 M (B0 dir G7) (A4 ts)).2 (B0 dir G7)).2) (L:=H) h)) (D0 (fuel:=0) [(10,0)] (fun w h=>(Sat.dropMid (K:=[_,_]) (A:=r3.G x (L8 (D9 M (B0 dir G7) (A4 ts)).2 (B0 dir G7)).2) (L:=H) h)) (k:=?_))
     refine D8 (E':=[⟨0,[],pt y⟩,⟨1,[],.slice ta ts.length tc⟩,⟨7,[],.int .i64 ((L8 (D9 M (B0 dir G7) (A4 ts)).2 (B0 dir G7)).1)⟩]) [0,1,7] (k:=M9 ((L8 (D9 M (B0 dir G7) (A4 ts)).2 (B0 dir G7)).1,(L8 (D9 M (B0 dir G7) (A4 ts)).2 (B0 dir G7)).2,r3) [0,1,7] kr (fun w h=>h) ⟨(try_ok1 _ ht0 hyes),hr3,(A0q hb1 (B0 dir G7))⟩)
    ·
     have hno:=hc5
     refine B5 (M9 ((D9 M (B0 dir G7) (A4 ts)).1,(D9 M (B0 dir G7) (A4 ts)).2,r1) [0,1,7] kr (fun w h=>h) ⟨(try_no1 _ ht0 hno),hr1,hb1⟩)
   ·
    rintro ⟨e2,M2,r2⟩ ⟨ht2,hr2,hs2⟩
    refine A0 (A1 ?_)
    refine A1 (G_p [0,0] [0,1,7,47] (k:=?_))
    refine A0 (G_join (T:=Int × DM × RS) (fun ξ:Int × DM × RS=>[⟨0,[],pt y⟩,⟨1,[],.slice ta ts.length tc⟩,⟨7,[],.int .i64 ξ.1⟩]) (fun ξ:Int × DM × RS=>([(y,.cells #[pt x,.string dir,.slice la L.length lc,.bool down,.bool there] 61 (0,0))]::lg::(ξ.2.2.G x ξ.2.1++H))) (fun ξ:Int × DM × RS=>(tryM [(fun M=>D9 M (B0 dir G7) (A4 ts)),(fun M=>L8 M (B0 dir G7)),(fun M=>J3 M (B0 dir G7) (B0 dir logB))] M=(ξ.1,ξ.2.1))∧(ξ.2.2.ok ξ.2.1)∧(ScrI (z+(A4 ts).size) (wn+2) (i+1) ξ.2.1)) ?_ ?_)
    ·
     refine C6 (b:=e2==0) kr (fun hc6=>?_) (fun hc6=>?_)
     ·
      have hyes:=hc6
      refine D7 ([(y,.cells #[pt x,.string dir,.slice la L.length lc,.bool down,.bool there] 61 (0,0))]::lg::H) kr (D0 (fuel:=15) [(0,0)] (fun w h=>(Sat.dropMid (K:=[_,_]) (A:=r2.G x M2) (L:=H) h)) (k:=?_))
      refine G0 (ad:=⟨y,0,none⟩) 1 (hL:=(fun w h=>(Sat.dropMid (K:=[_,_]) (A:=r2.G x M2) (L:=H) h))) (k:=D0 (fuel:=13) [(2,0)] (fun w h=>(Sat.dropMid (K:=[_,_]) (A:=r2.G x M2) (L:=H) h)) (k:=?_))
      refine A9 3 (hL:=(fun w h=>(Sat.dropMid (K:=[_,_]) (A:=r2.G x M2) (L:=H) h))) (hy:=A5 (i:=3) (ch:=[]) (b:=y) (off:=0) (v:=pt x) (hA:=At.grp 0 0 rfl rfl) (k:=B1 kr rfl)) (k:=D0 (fuel:=11) [(4,0)] (fun w h=>(Sat.dropMid (K:=[_,_]) (A:=r2.G x M2) (L:=H) h)) (k:=?_))
      refine G0 (ad:=⟨y,0,none⟩) 5 (hL:=(fun w h=>(Sat.dropMid (K:=[_,_]) (A:=r2.G x M2) (L:=H) h))) (k:=D0 (fuel:=9) [(6,0)] (fun w h=>(Sat.dropMid (K:=[_,_]) (A:=r2.G x M2) (L:=H) h)) (k:=?_))
      refine A9 7 (hL:=(fun w h=>(Sat.dropMid (K:=[_,_]) (A:=r2.G x M2) (L:=H) h))) (hy:=A5 (i:=7) (ch:=[]) (b:=y) (off:=1) (v:=.string dir) (hA:=At.grp 0 0 rfl rfl) (k:=B1 kr rfl)) (k:=A9 (E':=[⟨56,[],.string (dir++(ByteArray.mk #[47,110,101,119]))⟩,⟨55,[],.string dir⟩,⟨54,[],.pointer (some ⟨y,1,none⟩)⟩,⟨53,[],pt y⟩,⟨52,[],pt y⟩,⟨51,[],pt x⟩,⟨50,[],pt y⟩,⟨49,[],pt y⟩,⟨48,[],pt y⟩,⟨0,[],pt y⟩,⟨1,[],.slice ta ts.length tc⟩,⟨7,[],.int .i64 e2⟩,⟨47,[],.bool (e2==0)⟩]) 8 kr (fun w h=>(Sat.dropMid (K:=[_,_]) (A:=r2.G x M2) (L:=H) h)) ?_ ?_)
      ·
       exact K2 (ch:=[]) (s:=dir) (u:=(ByteArray.mk #[47,110,101,119])) (hb:=(by intro _; show dir.size+4≤_; omega)) (k:=B1)
      refine GH_env (E':=[⟨56,[],.string (B0 dir G7)⟩,⟨55,[],.string dir⟩,⟨54,[],.pointer (some ⟨y,1,none⟩)⟩,⟨53,[],pt y⟩,⟨52,[],pt y⟩,⟨51,[],pt x⟩,⟨50,[],pt y⟩,⟨49,[],pt y⟩,⟨48,[],pt y⟩,⟨0,[],pt y⟩,⟨1,[],.slice ta ts.length tc⟩,⟨7,[],.int .i64 e2⟩,⟨47,[],.bool (e2==0)⟩]) (by rw [lit_new]) (D0 (fuel:=6) [(9,0)] (fun w h=>(Sat.dropMid (K:=[_,_]) (A:=r2.G x M2) (L:=H) h)) (k:=?_))
      refine G0 (ad:=⟨y,0,none⟩) 10 (hL:=(fun w h=>(Sat.dropMid (K:=[_,_]) (A:=r2.G x M2) (L:=H) h))) (k:=D0 (fuel:=4) [(11,0)] (fun w h=>(Sat.dropMid (K:=[_,_]) (A:=r2.G x M2) (L:=H) h)) (k:=?_))
      refine A9 12 (hL:=(fun w h=>(Sat.dropMid (K:=[_,_]) (A:=r2.G x M2) (L:=H) h))) (hy:=A5 (i:=12) (ch:=[]) (b:=y) (off:=1) (v:=.string dir) (hA:=At.grp 0 0 rfl rfl) (k:=B1 kr rfl)) (k:=A9 (E':=[⟨61,[],.string (dir++(ByteArray.mk #[47,108,111,103]))⟩,⟨60,[],.string dir⟩,⟨59,[],.pointer (some ⟨y,1,none⟩)⟩,⟨58,[],pt y⟩,⟨57,[],pt y⟩,⟨56,[],.string (B0 dir G7)⟩,⟨55,[],.string dir⟩,⟨54,[],.pointer (some ⟨y,1,none⟩)⟩,⟨53,[],pt y⟩,⟨52,[],pt y⟩,⟨51,[],pt x⟩,⟨50,[],pt y⟩,⟨49,[],pt y⟩,⟨48,[],pt y⟩,⟨0,[],pt y⟩,⟨1,[],.slice ta ts.length tc⟩,⟨7,[],.int .i64 e2⟩,⟨47,[],.bool (e2==0)⟩]) 13 kr (fun w h=>(Sat.dropMid (K:=[_,_]) (A:=r2.G x M2) (L:=H) h)) ?_ ?_)
      ·
       exact K2 (ch:=[]) (s:=dir) (u:=(ByteArray.mk #[47,108,111,103])) (hb:=(by intro _; show dir.size+4≤_; omega)) (k:=B1)
      refine GH_env (E':=[⟨61,[],.string (B0 dir logB)⟩,⟨60,[],.string dir⟩,⟨59,[],.pointer (some ⟨y,1,none⟩)⟩,⟨58,[],pt y⟩,⟨57,[],pt y⟩,⟨56,[],.string (B0 dir G7)⟩,⟨55,[],.string dir⟩,⟨54,[],.pointer (some ⟨y,1,none⟩)⟩,⟨53,[],pt y⟩,⟨52,[],pt y⟩,⟨51,[],pt x⟩,⟨50,[],pt y⟩,⟨49,[],pt y⟩,⟨48,[],pt y⟩,⟨0,[],pt y⟩,⟨1,[],.slice ta ts.length tc⟩,⟨7,[],.int .i64 e2⟩,⟨47,[],.bool (e2==0)⟩]) (by rw [lit_log]) (B9 14 (k:=?_))
      refine G2 (vs:=[pt x,.string (B0 dir G7),.string (B0 dir logB)]) Tryz.func63 (R7 (K:=[[(y,.cells #[pt x,.string dir,.slice la L.length lc,.bool down,.bool there] 61 (0,0))],lg]) (rRename x r2 M2 hr2 (N4 hs2 (by omega) (by omega) (by omega)) (B0 dir G7) (B0 dir logB) (by rw [T4]; show _+1+3≤_; omega) (by rw [T4]; show _+1+3≤_; omega) _ _)) ?_
      rintro v H' ⟨rfl,r5,hr5,rfl⟩
      refine A6 kr (fun w h=>(Sat.dropMid (K:=[_,_]) (A:=r5.G x (J3 M2 (B0 dir G7) (B0 dir logB)).2) (L:=H) h)) (D0 (fuel:=0) [(15,0)] (fun w h=>(Sat.dropMid (K:=[_,_]) (A:=r5.G x (J3 M2 (B0 dir G7) (B0 dir logB)).2) (L:=H) h)) (k:=?_))
      refine D8 (E':=[⟨0,[],pt y⟩,⟨1,[],.slice ta ts.length tc⟩,⟨7,[],.int .i64 ((J3 M2 (B0 dir G7) (B0 dir logB)).1)⟩]) [0,1,7] (k:=M9 ((J3 M2 (B0 dir G7) (B0 dir logB)).1,(J3 M2 (B0 dir G7) (B0 dir logB)).2,r5) [0,1,7] kr (fun w h=>h) ⟨(try_ok1 _ ht2 hyes),hr5,(sI_rename hs2 (B0 dir G7) (B0 dir logB))⟩)
     ·
      have hno:=hc6
      refine B5 (M9 (e2,M2,r2) [0,1,7] kr (fun w h=>h) ⟨(try_no1 _ ht2 hno),hr2,(ScrI.up hs2 (Nat.le_refl _) (by omega) (Nat.le_refl _))⟩)
    ·
     rintro ⟨e4,M4,r4⟩ ⟨ht4,hr4,hs4⟩
     refine A0 (A1 ?_)
     refine A1 (G_p [0,0] [0,1,7,64] (k:=?_))
     refine A0 (G_join (T:=Int × DM × RS) (fun ξ:Int × DM × RS=>[⟨0,[],pt y⟩,⟨1,[],.slice ta ts.length tc⟩,⟨7,[],.int .i64 ξ.1⟩]) (fun ξ:Int × DM × RS=>([(y,.cells #[pt x,.string dir,.slice la L.length lc,.bool down,.bool there] 61 (0,0))]::lg::(ξ.2.2.G x ξ.2.1++H))) (fun ξ:Int × DM × RS=>(tryM [(fun M=>D9 M (B0 dir G7) (A4 ts)),(fun M=>L8 M (B0 dir G7)),(fun M=>J3 M (B0 dir G7) (B0 dir logB)),(fun M=>I4 M dir)] M=(ξ.1,ξ.2.1))∧(ξ.2.2.ok ξ.2.1)∧(ScrI (z+(A4 ts).size) (wn+2) (i+1) ξ.2.1)) ?_ ?_)
     ·
      refine C6 (b:=e4==0) kr (fun hc7=>?_) (fun hc7=>?_)
      ·
       have hyes:=hc7
       refine D7 ([(y,.cells #[pt x,.string dir,.slice la L.length lc,.bool down,.bool there] 61 (0,0))]::lg::H) kr (D0 (fuel:=9) [(0,0)] (fun w h=>(Sat.dropMid (K:=[_,_]) (A:=r4.G x M4) (L:=H) h)) (k:=?_))
       refine G0 (ad:=⟨y,0,none⟩) 1 (hL:=(fun w h=>(Sat.dropMid (K:=[_,_]) (A:=r4.G x M4) (L:=H) h))) (k:=D0 (fuel:=7) [(2,0)] (fun w h=>(Sat.dropMid (K:=[_,_]) (A:=r4.G x M4) (L:=H) h)) (k:=?_))
       refine A9 3 (hL:=(fun w h=>(Sat.dropMid (K:=[_,_]) (A:=r4.G x M4) (L:=H) h))) (hy:=A5 (i:=3) (ch:=[]) (b:=y) (off:=0) (v:=pt x) (hA:=At.grp 0 0 rfl rfl) (k:=B1 kr rfl)) (k:=D0 (fuel:=5) [(4,0)] (fun w h=>(Sat.dropMid (K:=[_,_]) (A:=r4.G x M4) (L:=H) h)) (k:=?_))
       refine G0 (ad:=⟨y,0,none⟩) 5 (hL:=(fun w h=>(Sat.dropMid (K:=[_,_]) (A:=r4.G x M4) (L:=H) h))) (k:=D0 (fuel:=3) [(6,0)] (fun w h=>(Sat.dropMid (K:=[_,_]) (A:=r4.G x M4) (L:=H) h)) (k:=?_))
       refine A9 7 (hL:=(fun w h=>(Sat.dropMid (K:=[_,_]) (A:=r4.G x M4) (L:=H) h))) (hy:=A5 (i:=7) (ch:=[]) (b:=y) (off:=1) (v:=.string dir) (hA:=At.grp 0 0 rfl rfl) (k:=B1 kr rfl)) (k:=B9 8 (k:=?_))
       refine G2 Tryz.func61 (R7 (K:=[[(y,.cells #[pt x,.string dir,.slice la L.length lc,.bool down,.bool there] 61 (0,0))],lg]) (rSyncDir x r4 M4 hr4 (N4 hs4 (by omega) (by omega) (by omega)) dir (by omega) _ _)) ?_
       rintro v H' ⟨rfl,r7,hr7,rfl⟩
       refine A6 kr (fun w h=>(Sat.dropMid (K:=[_,_]) (A:=r7.G x (I4 M4 dir).2) (L:=H) h)) (D0 (fuel:=0) [(9,0)] (fun w h=>(Sat.dropMid (K:=[_,_]) (A:=r7.G x (I4 M4 dir).2) (L:=H) h)) (k:=?_))
       refine D8 (E':=[⟨0,[],pt y⟩,⟨1,[],.slice ta ts.length tc⟩,⟨7,[],.int .i64 ((I4 M4 dir).1)⟩]) [0,1,7] (k:=M9 ((I4 M4 dir).1,(I4 M4 dir).2,r7) [0,1,7] kr (fun w h=>h) ⟨(try_ok1 _ ht4 hyes),hr7,(sI_sdir hs4 dir)⟩)
      ·
       have hno:=hc7
       refine B5 (M9 (e4,M4,r4) [0,1,7] kr (fun w h=>h) ⟨(try_no1 _ ht4 hno),hr4,hs4⟩)
     ·
      rintro ⟨e6,M6,r6⟩ ⟨ht6,hr6,hs6⟩
      refine A0 (A1 ?_)
      refine A1 (G_p [0,0] [0,1,7,75] (k:=?_))
      refine A0 (C6 (b:=e6 != 0) kr (fun hc8=>?_) (fun hc8=>?_))
      ·
       have hE:=hc8
       refine A1 (A2 ?_)
       refine A7 (j:=2) [0,0] (k:=G2 Tryz.func62 (yfail_ y x dir (.slice la L.length lc) e6 down there _ _) ?_)
       rintro v H' ⟨rfl,rfl⟩
       refine D3 (E':=[⟨4,[],.int .i64 e6⟩]) [0] [4] (k:=A0 ?_)
       refine C3 (B3 ?_)
       refine C1 [.tmp 4] [.int .i64 e6] (k:=?_)
       rw [repM_err (j:=⟨dir,L,size,down,there⟩) hAll hD ht6 hE]
       exact ⟨la,lc,lg,r6,rfl,hoL,hr6,rfl⟩
      ·
       have hE:=hc8
       refine B5 (A0 ?_)
       refine A1 (A2 ?_)
       refine A7 (j:=3) [0,0,0] (k:=G4 (ch:=[]) (b:=y) (off:=4) (v:=.bool true) (j:=0) ([(y,.cells #[pt x,.string dir,.slice la L.length lc,.bool down,.bool true] 61 (0,0))]::lg::(r6.G x M6++H)) (hoff:=Nat.le_of_ble_eq_true rfl) (hfz:=(fun _ _=>F0)) (k:=?_))
       refine C4 [] [0,1] (k:=A0 ?_)
       refine A1 (A2 ?_)
       refine A7 (j:=1) [0] (k:=C2 (ch:=[]) (e:=9) (l:=[]) (c:=[]) (k:=(fun b9=>?_)))
       refine A7 (j:=3) [0] (k:=E9 (i:=3) (ch:=[]) (t:=32) (tx:=32) (e:=9) (inf:=Tryz.t9) (s:=.slice (some ⟨b9,0,none⟩) 0 0) (x:=.slice ta ts.length tc) (n:=0) (m:=ts.length) (j:=0) (cs:=[]) (news:=(strs ts)) (g:=[(b9,.cells #[] 9 (0,0))]) (S:=S) rfl rfl rfl rfl kr kr kr rfl rfl (.inl ⟨9,kr⟩) (fun ⟨_,h⟩=>by cases h) (fun _=>⟨9,kr⟩) kr kr kr rfl (Go.Sw.Own.lit rfl) (SrcOf.slice _ _ _ _ hrd hn) (fun y_ o h=>At.cons (at_skip (hS y_ o h))) (show (strs ts).length=ts.length * 1 by simp [strs]) P7 (by omega) (by show (0+ts.length) * 16≤140737488355328; omega) (fun v10 g11 hO12=>?_))
       replace hO12:=T5 hO12
       obtain ⟨a13,cap14,rfl,hcap15,hrd16⟩:=hO12.shape
       refine A7 (j:=6) [0,0] (k:=G4 (ch:=[]) (b:=y) (off:=2) (v:=.slice a13 ts.length cap14) (j:=1) (g11::[(y,.cells #[pt x,.string dir,.slice a13 ts.length cap14,.bool down,.bool true] 61 (0,0))]::lg::(r6.G x M6++H)) (hoff:=Nat.le_of_ble_eq_true rfl) (hfz:=(fun _ _=>F0)) (k:=?_))
       refine D3 (E':=[]) [] [] (k:=A0 ?_)
       refine A1 (B4 (E':=[⟨4,[],.int .i64 0⟩]) [0] [4] (k:=?_))
       refine A0 (C3 ?_)
       refine E0 (H':=([(y,.cells #[pt x,.string dir,.slice a13 ts.length cap14,.bool down,.bool true] 61 (0,0))]::g11::(r6.G x M6++H))) (fun w h=>((h.front (j:=1) rfl).erase 2)) (C1 [.tmp 4] [.int .i64 0] (k:=?_))
       rw [repM_ok (j:=⟨dir,L,size,down,there⟩) hAll hD ht6 hE]
       exact ⟨_,_,_,r6,rfl,hO12,hr6,rfl⟩
end Go.Proofs.YtlaoeiaaeifidaaGreat
namespace Go.Proofs.YtlaoeiaaeifidaaGreat
open Go.Sw Go.Sha Go.Lib Go.Vf Go.Jr Go.RowKit
theorem yRead {r:RS} {N:DM} {b:ByteArray} {e:Int} (hr:r.ok N) (hm:V3 N) (x:Nat) (p:ByteArray) (K:List Grp) (W0:World) (H:List Grp) (he:K9 N p=(b,e)) :
    Tri Tryz.prog 58 #[.pointer (some ⟨x,0,none⟩),.string p] W0 (K++(r.G x N++H)) (fun v H'=>v=.tuple #[.string b,.int .i64 e]∧H'=K++(r.G x N++H)):=by
  have:=rRead x r N hr hm p W0 (K++H)
  rw [he] at this
  exact is_frontRq this
def YO (res:Int × Option JM × DM) (x:Nat) (H:List Grp):Value→List Grp→Prop:=fun v H' =>
  match res.2.1 with
  | none=>v=.tuple #[.pointer none,.int .i64 res.1]∧∃ r:RS,r.ok res.2.2∧H'=r.G x res.2.2++H
  | some j=>∃ (y:Nat) (la:Option Addr) (lc:Nat) (lg:Grp) (r:RS),v=.tuple #[pt y,.int .i64 res.1]∧JOwn j la lc lg∧r.ok res.2.2∧H'=yAt y x j la lc::lg::(r.G x res.2.2++H)
theorem rest_lt {c:ByteArray} (h:((A4 (E7 c).1).size:Int)<(c.size:Int)):(!((E7 c).2.toList==(ByteArray.mk #[]).toList))=true:=by
  have:=congrArg ByteArray.size (parse_back c)
  rw [ByteArray.size_append] at this
  cases hb:((E7 c).2.toList==(ByteArray.mk #[]).toList) with
  | false=>rfl
  | true =>
    have h1:=eq_of_beq hb
    rw [toList_data,toList_data] at h1
    have h2:(E7 c).2=ByteArray.mk #[]:=ByteArray.ext (Array.toList_inj.1 h1)
    rw [h2] at this
    have h3:(ByteArray.mk #[]).size=0:=rfl
    omega
theorem rest_ge {c:ByteArray} (h:¬ ((A4 (E7 c).1).size:Int)<(c.size:Int)):(!((E7 c).2.toList==(ByteArray.mk #[]).toList))=false:=by
  have:=congrArg ByteArray.size (parse_back c)
  rw [ByteArray.size_append] at this
  have h0:(E7 c).2.size=0:=by omega
  have h1:(E7 c).2.data.toList=[]:=List.eq_nil_of_length_eq_zero (by rw [Array.length_toList]; exact h0)
  have h2:(E7 c).2=ByteArray.mk #[]:=ByteArray.ext (Array.toList_inj.1 h1)
  rw [h2,beq_self_eq_true]; rfl
theorem readM_size {z w i:Nat} {M:DM} (h:ScrI z w i M) {p b:ByteArray} {e:Int} (he:K9 M p=(b,e)):b.size≤z:=by
  unfold K9 at he
  split at he
  · injection he with h1 h2; subst h1; exact Nat.zero_le _
  · injection he with h1 h2; subst h1
    rename_i k _
    unfold I7
    rw [List.getD_eq_getElem?_getD]
    by_cases hk:k.toNat<M.bodies.length
    · rw [List.getElem?_eq_getElem hk]; exact (h.size _ (List.getElem_mem hk)).1
    · rw [List.getElem?_eq_none (by omega)]; exact Nat.zero_le _
set_option maxHeartbeats 1000000 in
theorem yopen_ (x:Nat) (r:RS) (M:DM) (hr:r.ok M) (z wn i:Nat) (hsc:ScrI z wn i M) (hz:z≤1000000) (hw:wn≤5000∧i≤5000) (dir:ByteArray) (hdz:dir.size≤1000000) (W0:World) (H:List Grp):Tri Tryz.prog 20 #[pt x,.string dir] W0 (r.G x M++H) (YO (R4 M dir) x H):=by
 obtain ⟨⟨cc,e0⟩,hrd⟩:∃ q,K9 M (B0 dir logB)=q:=⟨_,rfl⟩
 have hcz:=readM_size hsc hrd
 have hpz:=parse_size cc
 have hpl:=lines_len (E7 cc).1
 obtain ⟨⟨e2,j2,M2⟩,hrep⟩:∃ q,E3 ⟨dir,(E7 cc).1,((A4 (E7 cc).1).size:Int),false,true⟩ M (E7 cc).1=q:=⟨_,rfl⟩
 refine C8 (args:=[pt x,.string dir]) (n:=52) Tryz.func20 rfl rfl (Nat.le_of_ble_eq_true rfl) ?_
 refine A1 (B4 (E':=[⟨0,[],pt x⟩,⟨1,[],.string dir⟩]) [0,0] [0,1] (k:=?_))
 refine A0 (A1 ?_)
 refine A1 (A2 ?_)
 refine A7 (j:=1) [0] (k:=F6 (vs:=[.string dir]) Tryz.func11 (refPart _ (by omega) _ _) ?_)
 refine C4 [0] [0,1,14] (k:=A0 ?_)
 refine C6 (b:=!(H0 dir)) kr (fun hc1=>?_) (fun hc1=>?_)
 ·
  have hg:(!A3 dir||decide (G5 dir ≥ 0))=true:=(good_part dir).trans hc1
  refine A1 (G_p [0,0] [4,5] (k:=?_))
  refine A0 (C3 ?_)
  refine B3 (C1 [.tmp 4,.tmp 5] [.pointer none,.int .i64 2] (k:=?_))
  rw [open_bad hg]
  exact ⟨rfl,r,hr,rfl⟩
 ·
  have hg:(!A3 dir||decide (G5 dir ≥ 0))=false:=(good_part dir).trans hc1
  refine B5 (A0 ?_)
  refine A1 (A2 ?_)
  refine A7 (j:=3) [0,0,0] (k:=R3 (ch:=[]) (v:=.agg #[pt x,.string dir,.slice none 0 0,.bool false,.bool false]) (k:=(fun b2=>?_)))
  refine C4 [0] [0,1,6] (k:=A0 ?_)
  refine A1 (A2 ?_)
  refine A7 (j:=2) [0,0] (k:=K2 (ch:=[]) (s:=dir) (u:=(ByteArray.mk #[47,108,111,103])) (hb:=(by intro _; show dir.size+4≤_; omega)) (k:=?_))
  refine GL_env (E':=[⟨22,[],.string (B0 dir logB)⟩,⟨21,[],.string dir⟩,⟨20,[],pt x⟩,⟨0,[],pt x⟩,⟨1,[],.string dir⟩,⟨6,[],pt b2⟩]) (by have hz:([⟨22,[],.string (dir++(ByteArray.mk #[47,108,111,103]))⟩,⟨21,[],.string dir⟩,⟨20,[],pt x⟩,⟨0,[],pt x⟩,⟨1,[],.string dir⟩,⟨6,[],pt b2⟩]:List Sl)=[⟨22,[],.string (B0 dir logB)⟩,⟨21,[],.string dir⟩,⟨20,[],pt x⟩,⟨0,[],pt x⟩,⟨1,[],.string dir⟩,⟨6,[],pt b2⟩]:=(by rw [lit_log]); exact Eq.trans kr hz) (G2 Tryz.func58 (yRead hr (N4 hsc (by omega) (by omega) (by omega)) x (B0 dir logB) [[(b2,.cells #[pt x,.string dir,.slice none 0 0,.bool false,.bool false] 61 (0,0))]] _ H hrd) ?_)
  rintro v H' ⟨rfl,rfl⟩
  refine C4 [0,0,0,0,0] [6,7,8] (k:=A0 ?_)
  refine A1 (A1 ?_)
  refine G_p [0,0] [6,7,27] (k:=A0 ?_)
  refine C6 (b:=e0 != 0) kr (fun hc3=>?_) (fun hc3=>?_)
  ·
   have hne:((K9 M (B0 dir logB)).2 != 0)=true:=by (rw [hrd]; exact hc3)
   refine A1 (B4 (E':=[⟨4,[],pt b2⟩,⟨5,[],.int .i64 0⟩]) [0,0,0] [4,5] (k:=?_))
   refine A0 (C3 ?_)
   refine B3 (E0 (H':=([(b2,.cells #[pt x,.string dir,.slice none 0 0,.bool false,.bool false] 61 (0,0))]::[]::(r.G x M++H))) (fun w h=>(Sat.flat h (List.Perm.refl _))) ?_)
   refine C1 [.tmp 4,.tmp 5] [pt b2,.int .i64 0] (k:=?_)
   rw [open_no hg hne]
   exact ⟨_,none,0,[],r,rfl,Go.Sw.Own.nil,hr,rfl⟩
  ·
   have hne:((K9 M (B0 dir logB)).2 != 0)=false:=by (rw [hrd]; exact hc3)
   have hpe:E7 (K9 M (B0 dir logB)).1=((E7 cc).1,(E7 cc).2):=by rw [hrd]
   refine B5 (A0 ?_)
   refine A1 (A2 ?_)
   refine A7 (j:=1) [0] (k:=G2 Tryz.func12 (rparse_ cc (by omega) _ _) ?_)
   rintro v H' ⟨la4,lc5,g6,rfl,hO7,rfl⟩
   refine C4 [0,0,0,0,0] [6,7,9,10] (k:=A0 ?_)
   refine A1 (A2 ?_)
   refine A7 (j:=3) [0,0,0] (k:=G4 (ch:=[]) (b:=b2) (off:=4) (v:=.bool true) (j:=1) (g6::[(b2,.cells #[pt x,.string dir,.slice none 0 0,.bool false,.bool true] 61 (0,0))]::(r.G x M++H)) (hoff:=Nat.le_of_ble_eq_true rfl) (hfz:=(fun _ _=>F0)) (k:=?_))
   refine D3 (E':=[⟨6,[],pt b2⟩,⟨7,[],.string cc⟩,⟨9,[],.slice la4 ((E7 cc).1.length) lc5⟩,⟨10,[],.int .i64 ((A4 (E7 cc).1).size:Int)⟩]) [] [6,7,9,10] (k:=A0 ?_)
   refine A1 (A2 ?_)
   refine A7 (j:=4) [0,0,0,0] (k:=G4 (ch:=[]) (b:=b2) (off:=2) (v:=.slice la4 ((E7 cc).1.length) lc5) (j:=1) (g6::[(b2,.cells #[pt x,.string dir,.slice la4 ((E7 cc).1.length) lc5,.bool false,.bool true] 61 (0,0))]::(r.G x M++H)) (hoff:=Nat.le_of_ble_eq_true rfl) (hfz:=(fun _ _=>F0)) (k:=?_))
   refine C4 [] [6,7,9,10] (k:=A0 ?_)
   refine A1 (A1 ?_)
   refine G_p [0,0,0,0] [6,9,44] (k:=A0 ?_)
   refine C6 (b:=decide (((A4 (E7 cc).1).size:Int)<(cc.size:Int))) kr (fun hc8=>?_) (fun hc8=>?_)
   ·
    have hlt:=of_decide_eq_true hc8
    have har:=rest_lt hlt
    refine A1 (A2 ?_)
    refine A7 (j:=2) [0,0] (k:=I5 rfl (H':=([(b2,.cells #[pt x,.string dir,.slice la4 ((E7 cc).1.length) lc5,.bool false,.bool true] 61 (0,0))]::g6::(r.G x M++H))) (fun w h=>(h.front (j:=1) rfl)) ?_)
    have hyr:=yrep_ b2 x r M hr z wn i hsc (by omega) hw dir la4 lc5 g6 (E7 cc).1 ((A4 (E7 cc).1).size:Int) false true hO7 hdz la4 lc5 (E7 cc).1 (inG g6) (D6 hO7) (by omega) (A0t hO7) (by omega) W0 H (C9 0 rfl)
    rw [hrep] at hyr
    refine G2 (vs:=[pt b2,.slice la4 ((E7 cc).1.length) lc5]) Tryz.func23 (hyr) ?_
    rintro v H' ⟨la9,lc10,lg11,r2,rfl,ho12,hr2,rfl⟩
    dsimp only at hr2 ho12
    refine D3 (E':=[⟨6,[],pt b2⟩,⟨11,[],.int .i64 e2⟩]) [0] [6,11] (k:=A0 ?_)
    refine A1 (G_p [0,0] [6,11,49] (k:=?_))
    refine A0 (C6 (b:=e2 != 0) kr (fun hc13=>?_) (fun hc13=>?_))
    ·
     have hre:=hc13
     refine A1 (G_p [0,0,0] [4,5] (k:=?_))
     refine A0 (C3 ?_)
     refine B3 (E0 (H':=(r2.G x M2++H)) (fun w h=>((h.erase 1).erase 0)) ?_)
     refine C1 [.tmp 4,.tmp 5] [.pointer none,.int .i64 e2] (k:=?_)
     rw [open_err hg hne hpe har (by rw [hrep]; exact hre),hrep]
     exact ⟨rfl,r2,hr2,rfl⟩
    ·
     have hre:=hc13
     refine B5 (A0 ?_)
     refine A1 (B4 (E':=[⟨4,[],pt b2⟩,⟨5,[],.int .i64 0⟩]) [0,0,0] [4,5] (k:=?_))
     refine A0 (C3 ?_)
     refine C1 [.tmp 4,.tmp 5] [pt b2,.int .i64 0] (k:=?_)
     rw [open_ok hg hne hpe har (by rw [hrep]; exact hre),hrep]
     exact ⟨_,_,_,_,r2,rfl,ho12,hr2,rfl⟩
   ·
    have hlt:=of_decide_eq_false hc8
    have har:=rest_ge hlt
    refine B5 (A0 ?_)
    refine A1 (B4 (E':=[⟨4,[],pt b2⟩,⟨5,[],.int .i64 0⟩]) [0,0,0] [4,5] (k:=?_))
    refine A0 (C3 ?_)
    refine E0 (H':=([(b2,.cells #[pt x,.string dir,.slice la4 ((E7 cc).1.length) lc5,.bool false,.bool true] 61 (0,0))]::g6::(r.G x M++H))) (fun w h=>(h.front (j:=1) rfl)) (C1 [.tmp 4,.tmp 5] [pt b2,.int .i64 0] (k:=?_))
    rw [open_whole hg hne hpe har]
    exact ⟨_,_,_,_,r,rfl,hO7,hr,rfl⟩
end Go.Proofs.YtlaoeiaaeifidaaGreat
namespace Go.Jr
open Go.Sw Go.Lib Go.Vf Go.Sha Go.Proofs Go.Proofs.YtlaoeiaaeifidaaGreat
structure PlSt (m:Nat) (j:JM) (M:DM):Prop where
  sc:Scr 1100 m M
  dir:j.dir.size≤200
  size:j.size=((A4 j.L).size:Int)
  ls:(A4 j.L).size≤1100 * m
theorem pl_up {m n:Nat} {M:DM} (h:Scr 1100 m M) (hn:m≤n):Scr 1100 n M:=ScrI.up h (Nat.mul_le_mul_left _ hn) hn hn
theorem PlSt.mono {m n:Nat} {j:JM} {M M':DM} (h:PlSt m j M) (hs:Scr 1100 n M') (hn:m≤n):PlSt n j M':=⟨hs,h.dir,h.size,Nat.le_trans h.ls (Nat.mul_le_mul_left _ hn)⟩
theorem PlSt.small {m:Nat} {j:JM} {M:DM} (h:PlSt m j M) (hm:m≤500):JSmall j:=by
  have h1:=lines_len j.L
  have h2:=h.ls
  have h3:=Nat.mul_le_mul_left 1100 hm
  have h4:=h.dir
  refine ⟨by omega,by omega,by rw [h.size]; omega⟩
theorem PlSt.room {m:Nat} {j:JM} {M:DM} (h:PlSt m j M) (hm:m≤500):RoomM M:=sc_room h.sc (by omega)
theorem pl_add {m:Nat} {j j':JM} {M M':DM} {t:ByteArray} {e:Int} (h:PlSt m j M) (ht:t.size≤1000) (he:addM j M t=(e,j',M')):PlSt (m+3) j' M':=by
  have hs:=pl_up (sc_add' h.sc ht he) (show m+2≤m+3 by omega)
  have h1:PlSt (m+3) j M':=h.mono hs (by omega)
  unfold addM at he
  split at he
  · injection he with _ he; injection he with he _; subst he; exact h1
  · split at he
    · injection he with _ he; injection he with he _; subst he; exact h1
    · dsimp only at he
      split at he
      · injection he with _ he; injection he with he _; subst he; exact ⟨hs,h1.dir,h1.size,h1.ls⟩
      · injection he with _ he; injection he with he _; subst he
        have hls:=H9 t
        refine ⟨hs,h1.dir,?_,?_⟩
        · show j.size+_=((A4 (j.L++[t])).size:Int)
          rw [T1,ByteArray.size_append,h.size]; omega
        · show (A4 (j.L++[t])).size≤_
          rw [T1,ByteArray.size_append,hls]
          have:=h.ls
          rw [Nat.mul_add]; omega
theorem pl_rep {m:Nat} {j j':JM} {M M':DM} {ts:List ByteArray} {e:Int} (h:PlSt m j M) (hz:(A4 ts).size≤1100 * m) (he:E3 j M ts=(e,j',M')):PlSt (m+3) j' M':=by
  have hs:=pl_up (sc_rep' h.sc hz he) (show m+2≤m+3 by omega)
  have h1:PlSt (m+3) j M':=h.mono hs (by omega)
  unfold E3 at he
  split at he
  · injection he with _ he; injection he with he _; subst he; exact h1
  · split at he
    · injection he with _ he; injection he with he _; subst he; exact h1
    · dsimp only at he
      split at he
      · injection he with _ he; injection he with he _; subst he; exact ⟨hs,h1.dir,h1.size,h1.ls⟩
      · injection he with _ he; injection he with he _; subst he
        exact ⟨hs,h1.dir,rfl,Nat.le_trans hz (Nat.mul_le_mul_left _ (by omega))⟩
theorem open_ne {M M':DM} {dir:ByteArray} {e:Int} (he:R4 M dir=(e,none,M')):(e==0)=false:=by
  unfold R4 at he
  split at he
  · injection he with he _; subst he; rfl
  · split at he
    · injection he with _ he; injection he with he _; cases he
    · dsimp only at he
      split at he
      · split at he
        · rename_i h1
          injection he with he _; subst he
          simpa using h1
        · injection he with _ he; injection he with he _; cases he
      · injection he with _ he; injection he with he _; cases he
theorem pl_open {m:Nat} {M M':DM} {dir:ByteArray} {j:JM} {e:Int} (h:Scr 1100 m M) (hd:dir.size≤200) (he:R4 M dir=(e,some j,M')):PlSt (m+2) j M'∧e=0:=by
  have hs:=sc_open' h he
  have hz:∀ p,(A4 (E7 (K9 M p).1).1).size≤1100 * m:=fun p=>Nat.le_trans (parse_size _) (readM_size h (show K9 M p=((K9 M p).1,(K9 M p).2) from rfl))
  have hz2:∀ p,(A4 (E7 (K9 M p).1).1).size≤1100 * (m+2):=fun p=>Nat.le_trans (hz p) (Nat.mul_le_mul_left _ (by omega))
  unfold R4 at he
  split at he
  · injection he with _ he; injection he with he _; cases he
  · split at he
    · injection he with h0 he; injection he with he _; injection he with he; subst he; subst h0
      exact ⟨⟨hs,hd,rfl,Nat.zero_le _⟩,rfl⟩
    · dsimp only at he
      split at he
      · split at he
        · injection he with _ he; injection he with he _; cases he
        · injection he with h0 he; injection he with hj hM; injection hj with hj; subst hj; subst h0
          refine ⟨?_,rfl⟩
          have h3:PlSt m ⟨dir,(E7 (K9 M (B0 dir logB)).1).1,((A4 (E7 (K9 M (B0 dir logB)).1).1).size:Int),false,true⟩ M:=⟨h,hd,rfl,hz _⟩
          have h4:=pl_rep h3 (hz _) (show E3 _ M _=((E3 ⟨dir,(E7 (K9 M (B0 dir logB)).1).1,((A4 (E7 (K9 M (B0 dir logB)).1).1).size:Int),false,true⟩ M (E7 (K9 M (B0 dir logB)).1).1).1,(E3 ⟨dir,(E7 (K9 M (B0 dir logB)).1).1,((A4 (E7 (K9 M (B0 dir logB)).1).1).size:Int),false,true⟩ M (E7 (K9 M (B0 dir logB)).1).1).2.1,(E3 ⟨dir,(E7 (K9 M (B0 dir logB)).1).1,((A4 (E7 (K9 M (B0 dir logB)).1).1).size:Int),false,true⟩ M (E7 (K9 M (B0 dir logB)).1).1).2.2) from rfl)
          refine ⟨hs,h4.dir,h4.size,?_⟩
          -- the list is the one that was read
          unfold E3
          split
          · exact hz2 _
          · split
            · exact hz2 _
            · dsimp only; split <;> exact hz2 _
      · injection he with h0 he; injection he with he _; injection he with he; subst he; subst h0
        exact ⟨⟨hs,hd,rfl,hz2 _⟩,rfl⟩
theorem yAddL {r:RS} {N N':DM} {j j':JM} {e:Int} {t:ByteArray} (hr:r.ok N) (hN:RoomM N) (hj:JSmall j) (ht:t.size≤4000000) (he:addM j N t=(e,j',N')) (K A:List Grp) (y x:Nat) {la:Option Addr} {lc:Nat} {lg:Grp} (ho:JOwn j la lc lg) (W0:World) (H:List Grp) :
    Tri Tryz.prog 22 #[pt y,.string t] W0 (yAt y x j la lc::lg::(K++(A++(r.G x N++H)))) (fun v H'=>∃ (la':Option Addr) (lc':Nat) (lg':Grp) (r':RS),v=.int .i64 e∧JOwn j' la' lc' lg'∧r'.ok N'∧H'=yAt y x j' la' lc'::lg'::(K++(A++(r'.G x N'++H)))):=by
  obtain ⟨z,w,i,h,h1,h2,h3⟩:=hN.ex
  obtain ⟨dir,L,size,down,there⟩:=j
  refine Tri.heap (fun _ hw=>front3_to hw) ?_
  cases there with
  | true =>
    refine Tri.post (yaddTrue_ y x r N hr z w i h h1 ⟨h2,h3⟩ dir la lc lg L size down ho hj.len hj.dir t ht W0 (K++(A++H))) fun v H1 hv=>?_
    unfold YR at hv
    rw [he] at hv
    obtain ⟨la',lc',lg',r',hv,ho',hr',rfl⟩:=hv
    exact ⟨_,⟨la',lc',lg',r',hv,ho',hr',rfl⟩,fun w hw=>front3_of hw⟩
  | false =>
    refine Tri.post (yaddFalse_ y x r N hr z w i h h1 ⟨h2,h3⟩ dir la lc lg L size down ho hj.len hj.dir t ht W0 (K++(A++H))) fun v H1 hv=>?_
    unfold YR at hv
    rw [he] at hv
    obtain ⟨la',lc',lg',r',hv,ho',hr',rfl⟩:=hv
    exact ⟨_,⟨la',lc',lg',r',hv,ho',hr',rfl⟩,fun w hw=>front3_of hw⟩
theorem yRepL {r:RS} {N N':DM} {j j':JM} {e:Int} {ts:List ByteArray} (hr:r.ok N) (hN:RoomM N) (hj:JSmall j) (hb:(A4 ts).size≤4000000) (he:E3 j N ts=(e,j',N')) (K A:List Grp) (y x:Nat) {la:Option Addr} {lc:Nat} {lg:Grp} (ho:JOwn j la lc lg)
    (ta:Option Addr) (tc:Nat) (S:Nat→Obj→Prop) (hrd:Rd S ta (strs ts)) (hn:ta=none→ts.length=0) (W0:World) (H:List Grp) (hS:∀ y o,S y o→At W0 [] y o) :
    Tri Tryz.prog 23 #[pt y,.slice ta ts.length tc] W0 (yAt y x j la lc::lg::(K++(A++(r.G x N++H)))) (fun v H'=>∃ (la':Option Addr) (lc':Nat) (lg':Grp) (r':RS),v=.int .i64 e∧JOwn j' la' lc' lg'∧r'.ok N'∧H'=yAt y x j' la' lc'::lg'::(K++(A++(r'.G x N'++H)))):=by
  obtain ⟨z,w,i,h,h1,h2,h3⟩:=hN.ex
  obtain ⟨dir,L,size,down,there⟩:=j
  have hl:=lines_len ts
  refine Tri.heap (fun _ hw=>front3_to hw) ?_
  refine Tri.post (yrep_ y x r N hr z w i h h1 ⟨h2,h3⟩ dir la lc lg L size down there ho hj.dir ta tc ts S hrd (by omega) hn hb W0 (K++(A++H)) (fun y o hy=>at_up (hS y o hy))) fun v H1 hv=>?_
  unfold YR at hv
  rw [he] at hv
  obtain ⟨la',lc',lg',r',hv,ho',hr',rfl⟩:=hv
  exact ⟨_,⟨la',lc',lg',r',hv,ho',hr',rfl⟩,fun w hw=>front3_of hw⟩
theorem yOpenL {r:RS} {N N':DM} {j:JM} {n:Nat} {dir:ByteArray} {e:Int} (hr:r.ok N) (hN:Scr 1100 n N) (hn:n≤500) (hd:dir.size≤1000000) (he:R4 N dir=(e,some j,N')) (K A:List Grp) (x:Nat) (W0:World) (H:List Grp) :
    Tri Tryz.prog 20 #[pt x,.string dir] W0 (K++(A++(r.G x N++H))) (fun v H'=>∃ (y:Nat) (la:Option Addr) (lc:Nat) (lg:Grp) (r':RS),v=.tuple #[pt y,.int .i64 e]∧JOwn j la lc lg∧r'.ok N'∧H'=yAt y x j la lc::lg::(K++(A++(r'.G x N'++H)))):=by
  have h3:=Nat.mul_le_mul_left 1100 hn
  refine Tri.heap (fun _ hw=>front2_to hw) (Tri.post (yopen_ x r N hr (1100 * n) n n hN (by omega) ⟨by omega,by omega⟩ dir hd W0 (K++(A++H))) fun v H1 hv=>?_)
  unfold YO at hv
  rw [he] at hv
  obtain ⟨y,la,lc,lg,r',hv,ho,hr',rfl⟩:=hv
  exact ⟨_,⟨y,la,lc,lg,r',hv,ho,hr',rfl⟩,fun w hw=>front3_of hw⟩
theorem yOpenNo {r:RS} {N N':DM} {n:Nat} {dir:ByteArray} {e:Int} (hr:r.ok N) (hN:Scr 1100 n N) (hn:n≤500) (hd:dir.size≤1000000) (he:R4 N dir=(e,none,N')) (K A:List Grp) (x:Nat) (W0:World) (H:List Grp) :
    Tri Tryz.prog 20 #[pt x,.string dir] W0 (K++(A++(r.G x N++H))) (fun v H'=>v=.tuple #[.pointer none,.int .i64 e]∧∃ r':RS,r'.ok N'∧H'=K++(A++(r'.G x N'++H))):=by
  have h3:=Nat.mul_le_mul_left 1100 hn
  refine Tri.heap (fun _ hw=>front2_to hw) (Tri.post (yopen_ x r N hr (1100 * n) n n hN (by omega) ⟨by omega,by omega⟩ dir hd W0 (K++(A++H))) fun v H1 hv=>?_)
  unfold YO at hv
  rw [he] at hv
  obtain ⟨hv,r',hr',rfl⟩:=hv
  exact ⟨_,⟨hv,r',hr',rfl⟩,fun w hw=>front2_of hw⟩
end Go.Jr
namespace Go.Proofs.YtlaoeiaaeifidaaGreat
open Go.Sw Go.Lib Go.Vf Go.Sha Go.Jr Go.RowKit
theorem long_hit {o:OpJ} {k:Nat} (hk:k<o.l.length) (h:1000<(o.l.getD k default).size):longJ o=true:=by
  unfold longJ
  rw [Bool.or_eq_true]
  refine .inl (List.any_eq_true.2 ⟨o.l.getD k default,?_,by rw [decide_eq_true_iff]; omega⟩)
  rw [List.getD,List.getElem?_eq_getElem hk]; exact List.getElem_mem hk
theorem long_rest {o:OpJ} {k:Nat} (hk:o.l.length≤k) (h:∀ j,j<k→(o.l.getD j default).size≤1000):longJ o=((decide ((o.t.size:Int) > 1000)||decide (((o.l.length:Nat):Int) > 20))||decide (((o.k.length:Nat):Int) > 50)):=by
  unfold longJ
  have:o.l.any (fun t=>decide ((t.size:Int) > 1000))=false:=by
    rw [List.any_eq_false]
    intro t ht
    obtain ⟨j,hj,rfl⟩:=List.getElem_of_mem ht
    have:=h j (by omega)
    rw [List.getD,List.getElem?_eq_getElem hj] at this
    rw [decide_eq_true_iff]
    have e:(some o.l[j]).getD (default:ByteArray)=o.l[j]:=rfl
    rw [e] at this; omega
  rw [this,Bool.false_or]
theorem le_succ {o:OpJ} {k:Nat} (h:∀ j,j<k→(o.l.getD j default).size≤1000) (hk:(o.l.getD k default).size≤1000):∀ j,j<k+1→(o.l.getD j default).size≤1000:=fun j hj=>by
  rcases Nat.lt_or_ge j k with h' | h'
  · exact h j h'
  · have:j=k:=by omega
    subst this; exact hk
theorem pl_lines {o:OpJ} (h1:∀ t∈o.l,t.size≤1000) (h2:o.l.length≤20) {k:Nat}:(A4 o.l).size≤1100 * (60+3 * k):=by
  have:=lines_le h1; omega
theorem long_ (o:OpJ) (S:Nat→Obj→Prop) (W0:World) (H:List Grp) (hO:OpOkJ S W0 [] o):Tri Tryz.prog 21 #[.agg #[.int .i64 o.kind,.int .i64 o.n,.string o.t,.slice o.la o.l.length o.lc,.slice o.ka o.k.length o.kc]] W0 H (fun v H'=>v=.bool (longJ o)∧H'=H):=by
 have hll:=hO.ll
 have hkl:=hO.kl
 refine C8 (args:=[.agg #[.int .i64 o.kind,.int .i64 o.n,.string o.t,.slice o.la o.l.length o.lc,.slice o.ka o.k.length o.kc]]) (n:=32) Tryz.func21 rfl rfl (Nat.le_of_ble_eq_true rfl) ?_
 refine A1 (A2 ?_)
 refine R3 (ch:=[]) (v:=.agg #[.int .i64 o.kind,.int .i64 o.n,.string o.t,.slice o.la o.l.length o.lc,.slice o.ka o.k.length o.kc]) (k:=(fun b1=>?_))
 refine D3 (E':=[⟨1,[],pt b1⟩]) [0] [1] (k:=A0 ?_)
 refine A1 (A1 ?_)
 refine A2 (A7 (j:=1) [0] (k:=?_))
 refine A5 (ch:=[]) (b:=b1) (off:=3) (v:=.slice o.la o.l.length o.lc) (hA:=At.grp 0 0 rfl rfl) (k:=C4 [0,0] [1,6,7,8] (k:=?_))
 refine A0 (C5 ?_)
 refine I8 (EI:=(fun ξ:Nat=>[⟨1,[],pt b1⟩,⟨6,[],.slice o.la o.l.length o.lc⟩,⟨7,[],.int .i64 ((o.l.length:Nat):Int)⟩,⟨8,[],.int .i64 ((ξ:Nat):Int)⟩])) (HI:=(fun ξ:Nat=>([(b1,.cells #[.int .i64 o.kind,.int .i64 o.n,.string o.t,.slice o.la o.l.length o.lc,.slice o.ka o.k.length o.kc] 51 (0,0))]::H))) (Φ:=(fun ξ:Nat=>(ξ≤o.l.length)∧(∀ j,j<ξ→(o.l.getD j default).size≤1000))) (μ:=(fun ξ:Nat=>o.l.length - ξ)) (s0:=(0)) [1,6,7,8] kr rfl ⟨(by omega),(fun j h=>absurd h (Nat.not_lt_zero j))⟩ ?_
 rintro k ⟨hk,hA⟩
 refine A1 (G_p [0] [1,6,7,8,9] (k:=?_))
 refine A0 (A1 ?_)
 refine C6 (b:=decide (((k:Nat):Int)<((o.l.length:Nat):Int))) kr (fun hc2=>?_) (fun hc2=>?_)
 ·
  simp at hc2
  refine B5 (A0 ?_)
  refine A1 (C5 ?_)
  refine A1 (A2 ?_)
  refine B7 (ch:=[]) (a:=o.la) (len:=o.l.length) (cap:=o.lc) (kd:=.i64) (j:=((k:Nat):Int)) (e:=9) (sz:=1) (S:=S) (cs:=(strs o.l)) (hrd:=hO.l) (hb:=(fun _=>by exact ⟨by omega,by omega,strs_ne (by omega)⟩)) (k:=D4 (ch:=[]) (a:=o.la) (q:=k * 1) (S:=S) (cs:=(strs o.l)) (v:=.string (o.l.getD k default)) (hrd:=hO.l) (hS:=(fun y o h=>at_up (hO.at_ y o h))) (hv:=(fun _=>(by rw [Nat.mul_one]; exact A0n (by omega)))) (k:=?_))
  refine C4 [0] [1,4,6,7,8] (k:=A0 ?_)
  refine A1 (G_p [0,0,0] [1,6,7,8,14] (k:=?_))
  refine A0 (C6 (b:=decide (((o.l.getD k default).size:Int) > 1000)) kr (fun hc3=>?_) (fun hc3=>?_))
  ·
   have hlg:1000<(o.l.getD k default).size:=by (have:=of_decide_eq_true hc3; omega)
   refine A1 (B4 (E':=[⟨2,[],.bool true⟩]) [0] [2] (k:=?_))
   refine A0 (C3 ?_)
   refine F8 (B3 ?_)
   refine B3 (F8 ?_)
   refine B3 (E0 (H':=H) (fun w h=>h.erase 0) ?_)
   refine C1 [.tmp 2] [.bool true] (k:=?_)
   exact ⟨by rw [long_hit (by omega) hlg]; rfl,rfl⟩
  ·
   have hle:(o.l.getD k default).size≤1000:=by (have:=of_decide_eq_false hc3; omega)
   refine B5 (D5 ?_)
   refine A0 (A2 ?_)
   refine A7 (j:=1) [0] (k:=F2 15 (((k:Nat):Int)+1) (by omega) (by omega) kr ?_)
   refine C4 [0] [1,6,7,8] (k:=E5 (s':=(k+1)) [1,6,7,8] kr rfl ⟨(by omega),(le_succ hA hle)⟩ (by omega))
 ·
  simp at hc2
  refine G6 (A8 ?_)
  refine A8 (C7 ?_)
  refine A0 (A1 ?_)
  refine A2 (A7 (j:=1) [0] (k:=?_))
  refine A5 (ch:=[]) (b:=b1) (off:=2) (v:=.string o.t) (hA:=At.grp 0 0 rfl rfl) (k:=A7 (j:=6) [0,0,0,0] (k:=?_))
  refine A5 (ch:=[(20,false)]) (b:=b1) (off:=3) (v:=.slice o.la o.l.length o.lc) (hA:=At.grp 0 0 rfl rfl) (k:=A7 (j:=12) [0,0,5,0,0] (k:=?_))
  refine A5 (ch:=[(26,false)]) (b:=b1) (off:=4) (v:=.slice o.ka o.k.length o.kc) (hA:=At.grp 0 0 rfl rfl) (k:=C4 [0,0,5,0] [2] (k:=?_))
  refine A0 (C3 ?_)
  refine E0 (H':=H) (fun w h=>h.erase 0) (C1 [.tmp 2] [.bool (((decide ((o.t.size:Int) > 1000))||(decide (((o.l.length:Nat):Int) > 20)))||(decide (((o.k.length:Nat):Int) > 50)))] (k:=?_))
  exact ⟨by rw [long_rest (by omega) hA]; rfl,rfl⟩
set_option maxRecDepth 4000 in
set_option maxHeartbeats 4000000 in
theorem journalPlays_ (room:Int) (ao:Option Addr) (co:Nat) (So:Nat→Obj→Prop) (ops:List OpJ) (W0:World) (hro:Rd So ao (ops.flatMap O8)) (hol:ops.length≤9223372036854775807) (hos:∀ o∈ops,OpOkJ So W0 [] o) (hSo:∀ y o,So y o→At W0 [] y o) (H:List Grp):Tri Tryz.prog 4 #[.int .i64 room,.slice ao ops.length co] W0 H (fun v H'=>v=.bool true∧∃ G,H'=G++H):=by
 obtain ⟨j0,hj0⟩:∃ j0:JM,j0=⟨dJ,[],0,false,false⟩:=⟨_,rfl⟩
 have hop0:R4 (newM room) dJ=(0,some j0,newM room):=by (rw [hj0]; exact open_fresh goodJ rfl)
 have hpl0:PlSt (60+3 * 0) j0 (newM room):=by (rw [hj0]; exact ⟨pl_up (scr_new 1100 room) (by omega),by decide,rfl,Nat.zero_le _⟩)
 refine C8 (args:=[.int .i64 room,.slice ao ops.length co]) (n:=159) Tryz.func4 rfl rfl (Nat.le_of_ble_eq_true rfl) ?_
 refine A1 (G_p [0] [0,1] (k:=?_))
 refine A0 (A1 ?_)
 refine A1 (A2 ?_)
 refine G2 Tryz.func7 (jFirst _ _) ?_
 rintro v H' ⟨rfl,G,rfl⟩
 refine C4 [0] [0,1,18] (k:=A0 ?_)
 refine I2 kr (B5 ?_)
 refine A0 (A1 ?_)
 refine A2 (A7 (j:=1) [0] (k:=?_))
 refine G2 Tryz.func8 (dNew room (M:=(newM room)) _ _ rfl) ?_
 rintro v H' ⟨d1,rfl,s1,hs1,rfl⟩
 refine A7 (j:=3) [0] (k:=G2 Tryz.func19 (yNew room [] (s1.G d1 (newM room)) _ (G++H)) ?_)
 rintro v H' ⟨x2,rfl,r2,hr2,rfl⟩
 refine C4 [0,0] [1,5,6] (k:=A0 ?_)
 refine A1 (A2 ?_)
 refine A7 (j:=1) [0] (k:=G2 Tryz.func10 (jOpen hs1 (sc_room (pl_up (scr_new 1100 room) (show 0≤60 by omega)) (by omega)) (by decide) hop0 ([]:List Grp) d1 _ (r2.G x2 (newM room)++(G++H))) ?_)
 rintro v H' ⟨jb3,ja4,jc5,jr6,s3,rfl,ho7,hs3,rfl⟩
 refine C4 [0,0,0,0,0] [1,5,6,7] (k:=A0 ?_)
 refine A1 (A2 ?_)
 refine A7 (j:=1) [0] (k:=G2 Tryz.func20 (yOpenL hr2 (pl_up (scr_new 1100 room) (show 0≤60 by omega)) (by omega) (by decide) hop0 ([(jAt jb3 d1 j0 ja4 jc5),jr6]:List Grp) (s3.G d1 (newM room)) x2 _ (G++H)) ?_)
 rintro v H' ⟨y8,la9,lc10,lg11,r4,rfl,ho12,hr4,rfl⟩
 refine C4 [0,0,0,0,0] [1,5,6,7,9] (k:=A0 ?_)
 refine A1 (A1 ?_)
 refine B4 (E':=[⟨5,[],pt d1⟩,⟨6,[],pt x2⟩,⟨7,[],pt jb3⟩,⟨9,[],pt y8⟩,⟨33,[],.slice ao ops.length co⟩,⟨34,[],.int .i64 ((ops.length:Nat):Int)⟩,⟨35,[],.int .i64 0⟩]) [0,0,0] [5,6,7,9,33,34,35] (k:=A0 ?_)
 refine C5 (R8 (H':=((jAt jb3 d1 j0 ja4 jc5)::jr6::(yAt y8 x2 j0 la9 lc10)::lg11::(s3.G d1 (newM room)++(r4.G x2 (newM room)++(G++H))))) (fun w h=>((((h.front (j:=1) rfl).front (j:=1) rfl).front (j:=3) rfl).front (j:=3) rfl)) ?_)
 refine I8 (EI:=(fun ξ:Nat × JM × DM × DS × RS × Nat × Option Addr × Nat × Grp × Nat × Option Addr × Nat × Grp=>[⟨5,[],pt d1⟩,⟨6,[],pt x2⟩,⟨7,[],pt ξ.2.2.2.2.2.1⟩,⟨9,[],pt ξ.2.2.2.2.2.2.2.2.2.1⟩,⟨33,[],.slice ao ops.length co⟩,⟨34,[],.int .i64 ((ops.length:Nat):Int)⟩,⟨35,[],.int .i64 ((ξ.1:Nat):Int)⟩])) (HI:=(fun ξ:Nat × JM × DM × DS × RS × Nat × Option Addr × Nat × Grp × Nat × Option Addr × Nat × Grp=>((jAt ξ.2.2.2.2.2.1 d1 ξ.2.1 ξ.2.2.2.2.2.2.1 ξ.2.2.2.2.2.2.2.1)::ξ.2.2.2.2.2.2.2.2.1::(yAt ξ.2.2.2.2.2.2.2.2.2.1 x2 ξ.2.1 ξ.2.2.2.2.2.2.2.2.2.2.1 ξ.2.2.2.2.2.2.2.2.2.2.2.1)::ξ.2.2.2.2.2.2.2.2.2.2.2.2::(ξ.2.2.2.1.G d1 ξ.2.2.1++(ξ.2.2.2.2.1.G x2 ξ.2.2.1++(G++H)))))) (Φ:=(fun ξ:Nat × JM × DM × DS × RS × Nat × Option Addr × Nat × Grp × Nat × Option Addr × Nat × Grp=>(ξ.1≤ops.length)∧(ξ.1≤50)∧(PlSt (60+3 * ξ.1) ξ.2.1 ξ.2.2.1)∧(ξ.2.2.2.1.ok ξ.2.2.1)∧(ξ.2.2.2.2.1.ok ξ.2.2.1)∧(JOwn ξ.2.1 ξ.2.2.2.2.2.2.1 ξ.2.2.2.2.2.2.2.1 ξ.2.2.2.2.2.2.2.2.1)∧(JOwn ξ.2.1 ξ.2.2.2.2.2.2.2.2.2.2.1 ξ.2.2.2.2.2.2.2.2.2.2.2.1 ξ.2.2.2.2.2.2.2.2.2.2.2.2))) (μ:=(fun ξ:Nat × JM × DM × DS × RS × Nat × Option Addr × Nat × Grp × Nat × Option Addr × Nat × Grp=>ops.length - ξ.1)) (s0:=(0,j0,(newM room),s3,r4,jb3,ja4,jc5,jr6,y8,la9,lc10,lg11)) [5,6,7,9,33,34,35] kr rfl ⟨(by omega),(by omega),hpl0,hs3,hr4,ho7,ho12⟩ ?_
 rintro ⟨k,jm,M,s,r,jb,ja,jc,jr,yb,la,lc,lg⟩ ⟨hk,hk50,hpl,hs,hr,hoj,hoy⟩
 dsimp only at hk hk50 hpl hs hr hoj hoy
 have hkm:60+3 * k≤210:=by omega
 have hkz:=Nat.mul_le_mul_left 1100 hkm
 refine A1 (G_p [0] [5,6,7,9,33,34,35,36] (k:=?_))
 refine A0 (A1 ?_)
 refine C6 (b:=decide (((k:Nat):Int)<((ops.length:Nat):Int))) kr (fun hc13=>?_) (fun hc13=>?_)
 ·
  replace hc13:=of_decide_eq_true hc13
  have hklt:k<ops.length:=by omega
  obtain ⟨o,ho⟩:∃ o,o=ops.getD k default:=⟨_,rfl⟩
  have hO:=hos o (by rw [ho]; exact opJ_mem (by omega))
  refine B5 (A0 ?_)
  refine A1 (C5 ?_)
  refine A1 (A2 ?_)
  refine A7 (j:=1) [0] (k:=B7 (ch:=[]) (a:=ao) (len:=ops.length) (cap:=co) (kd:=.i64) (j:=((k:Nat):Int)) (e:=51) (sz:=5) (S:=So) (cs:=(ops.flatMap O8)) (hrd:=hro) (hb:=(fun _=>by exact ⟨by omega,by omega,fun h=>by have:=congrArg List.length h; rw [opsJ_len] at this; have h0:ops.length * 5=0:=this; omega⟩)) (k:=?_))
  refine Q0 (ch:=[]) (a:=ao) (q:=k * 5) (S:=So) (cs:=(ops.flatMap O8)) (l:=[.int .i64 o.kind,.int .i64 o.n,.string o.t,.slice o.la o.l.length o.lc,.slice o.ka o.k.length o.kc]) (hrd:=hro) (hS:=(fun y o h=>at_up (hSo y o h))) (hl:=List.cons_ne_nil _ _) (hv:=(fun _=>(fun m hm=>(op_atJ (by omega) m hm).trans (by rw [← ho]; exact List.getElem?_eq_getElem (l:=O8 o) hm)))) (k:=?_)
  refine K5 (ch:=[]) (z:=.agg #[.int .i64 0,.int .i64 0,.string (ByteArray.mk #[]),.slice none 0 0,.slice none 0 0]) (k:=(fun b14=>?_))
  refine A7 (j:=5) [0] (k:=G4 (ch:=[]) (b:=b14) (off:=0) (v:=.agg #[.int .i64 o.kind,.int .i64 o.n,.string o.t,.slice o.la o.l.length o.lc,.slice o.ka o.k.length o.kc]) (j:=0) ([(b14,.cells #[.int .i64 o.kind,.int .i64 o.n,.string o.t,.slice o.la o.l.length o.lc,.slice o.ka o.k.length o.kc] 51 (0,0))]::(jAt jb d1 jm ja jc)::jr::(yAt yb x2 jm la lc)::lg::(s.G d1 M++(r.G x2 M++(G++H)))) (hoff:=Nat.le_of_ble_eq_true rfl) (hfz:=(fun _ _=>F0)) (k:=?_))
  refine C4 [] [5,6,7,9,11,12,33,34,35] (k:=A0 ?_)
  refine A1 (A1 ?_)
  refine A2 (A7 (j:=3) [0,0,0] (k:=?_))
  refine P8 (ch:=[(42,false)]) (b:=b14) (off:=0) (l:=[.int .i64 o.kind,.int .i64 o.n,.string o.t,.slice o.la o.l.length o.lc,.slice o.ka o.k.length o.kc]) (hA:=At.grp 0 0 rfl rfl) (k:=J9 (ch:=[(42,false)]) (f:=21) (fst:=#[]) (caps:=#[]) (vs:=[.agg #[.int .i64 o.kind,.int .i64 o.n,.string o.t,.slice o.la o.l.length o.lc,.slice o.ka o.k.length o.kc]]) (v:=.bool (longJ o)) (hf:=Tryz.func21) (hc:=(fun hc=>long_ o So _ _ hO)) (k:=?_))
  refine C4 [5] [5,6,7,9,12,33,34,35,45] (k:=A0 ?_)
  refine C6 (b:=(decide (((k:Nat):Int) ≥ 50))||(longJ o)) kr (fun hc15=>?_) (fun hc15=>?_)
  ·
   skip
   refine G6 (A8 ?_)
   refine A0z rfl (A8 ?_)
   refine A8 (C7 ?_)
   refine A0 (A1 ?_)
   refine B4 (E':=[⟨4,[],.bool true⟩]) [0] [4] (k:=A0 ?_)
   refine C3 (C1 [.tmp 4] [.bool true] (k:=?_))
   exact ⟨rfl,[[(b14,.cells #[.int .i64 o.kind,.int .i64 o.n,.string o.t,.slice o.la o.l.length o.lc,.slice o.ka o.k.length o.kc] 51 (0,0))],(jAt jb d1 jm ja jc),jr,(yAt yb x2 jm la lc),lg]++(s.G d1 M++(r.G x2 M++G)),by simp⟩
  ·
   have hb9:=Bool.or_eq_false_iff.1 hc15
   have hlg:longJ o=false∧k<50:=⟨hb9.2,by (have:=of_decide_eq_false hb9.1; omega)⟩
   obtain ⟨hos1,hot,hol,hok⟩:=longJ_no hlg.1
   refine B5 (A0 ?_)
   refine A1 (A1 ?_)
   refine A2 (A7 (j:=1) [0] (k:=?_))
   refine A5 (ch:=[]) (b:=b14) (off:=0) (v:=.int .i64 o.kind) (hA:=At.grp 0 0 rfl rfl) (k:=C4 [0,0] [5,6,7,9,12,33,34,35,49] (k:=?_))
   refine A0 (G_join (T:=JM × DM × DS × RS × Nat × Option Addr × Nat × Grp × Nat × Option Addr × Nat × Grp) (fun ξ:JM × DM × DS × RS × Nat × Option Addr × Nat × Grp × Nat × Option Addr × Nat × Grp=>[⟨5,[],pt d1⟩,⟨6,[],pt x2⟩,⟨7,[],pt ξ.2.2.2.2.1⟩,⟨9,[],pt ξ.2.2.2.2.2.2.2.2.1⟩,⟨33,[],.slice ao ops.length co⟩,⟨34,[],.int .i64 ((ops.length:Nat):Int)⟩,⟨35,[],.int .i64 ((k:Nat):Int)⟩]) (fun ξ:JM × DM × DS × RS × Nat × Option Addr × Nat × Grp × Nat × Option Addr × Nat × Grp=>((jAt ξ.2.2.2.2.1 d1 ξ.1 ξ.2.2.2.2.2.1 ξ.2.2.2.2.2.2.1)::ξ.2.2.2.2.2.2.2.1::[(ξ.2.2.2.2.2.2.2.2.1,.cells #[pt x2,.string ξ.1.dir,.slice ξ.2.2.2.2.2.2.2.2.2.1 ξ.1.L.length ξ.2.2.2.2.2.2.2.2.2.2.1,.bool ξ.1.down,.bool ξ.1.there] 61 (0,0))]::ξ.2.2.2.2.2.2.2.2.2.2.2::[(b14,.cells #[.int .i64 o.kind,.int .i64 o.n,.string o.t,.slice o.la o.l.length o.lc,.slice o.ka o.k.length o.kc] 51 (0,0))]::(ξ.2.2.1.G d1 ξ.2.1++(ξ.2.2.2.1.G x2 ξ.2.1++(G++H))))) (fun ξ:JM × DM × DS × RS × Nat × Option Addr × Nat × Grp × Nat × Option Addr × Nat × Grp=>(PlSt (60+3 * (k+1)) ξ.1 ξ.2.1)∧(ξ.2.2.1.ok ξ.2.1)∧(ξ.2.2.2.1.ok ξ.2.1)∧(JOwn ξ.1 ξ.2.2.2.2.2.1 ξ.2.2.2.2.2.2.1 ξ.2.2.2.2.2.2.2.1)∧(JOwn ξ.1 ξ.2.2.2.2.2.2.2.2.2.1 ξ.2.2.2.2.2.2.2.2.2.2.1 ξ.2.2.2.2.2.2.2.2.2.2.2)) ?_ ?_)
   ·
    refine C5 (A1 ?_)
    refine G_p [0,0] [5,6,7,9,12,33,34,35,49,87] (k:=A0 ?_)
    refine C6 (b:=(Int.tmod (IntKind.wrap .u64 o.kind) 6)==0) kr (fun hc16=>?_) (fun hc16=>?_)
    ·
     simp at hc16
     refine A1 (D7 ([(b14,.cells #[.int .i64 o.kind,.int .i64 o.n,.string o.t,.slice o.la o.l.length o.lc,.slice o.ka o.k.length o.kc] 51 (0,0))]::(G++H)) kr ?_)
     refine D0 (fuel:=7) [(0,0),(1,0)] (fun w h=>(Sat.dropMid (K:=[_]) (A:=r.G x2 M) (L:=(G++H)) (Sat.dropMid (K:=[_]) (A:=s.G d1 M) (L:=(r.G x2 M++(G++H))) ((((h.erase 4).erase 3).erase 2).erase 1)))) (k:=A9 2 (hL:=(fun w h=>(Sat.dropMid (K:=[_]) (A:=r.G x2 M) (L:=(G++H)) (Sat.dropMid (K:=[_]) (A:=s.G d1 M) (L:=(r.G x2 M++(G++H))) ((((h.erase 4).erase 3).erase 2).erase 1))))) (hy:=A5 (i:=2) (ch:=[]) (b:=b14) (off:=2) (v:=.string o.t) (hA:=At.grp 0 0 rfl rfl) (k:=B1 kr rfl)) (k:=?_))
     refine D0 (fuel:=4) [(4,0),(5,0)] (fun w h=>(Sat.dropMid (K:=[_]) (A:=r.G x2 M) (L:=(G++H)) (Sat.dropMid (K:=[_]) (A:=s.G d1 M) (L:=(r.G x2 M++(G++H))) ((((h.erase 4).erase 3).erase 2).erase 1)))) (k:=A9 6 (hL:=(fun w h=>(Sat.dropMid (K:=[_]) (A:=r.G x2 M) (L:=(G++H)) (Sat.dropMid (K:=[_]) (A:=s.G d1 M) (L:=(r.G x2 M++(G++H))) ((((h.erase 4).erase 3).erase 2).erase 1))))) (hy:=A5 (i:=6) (ch:=[]) (b:=b14) (off:=2) (v:=.string o.t) (hA:=At.grp 0 0 rfl rfl) (k:=B1 kr rfl)) (k:=?_))
     refine B9 3 (k:=I5 rfl (H':=((jAt jb d1 jm ja jc)::jr::[(b14,.cells #[.int .i64 o.kind,.int .i64 o.n,.string o.t,.slice o.la o.l.length o.lc,.slice o.ka o.k.length o.kc] 51 (0,0))]::(yAt yb x2 jm la lc)::lg::(s.G d1 M++(r.G x2 M++(G++H))))) (fun w h=>((h.front (j:=2) rfl).front (j:=2) rfl)) ?_)
     obtain ⟨⟨e1,j1,M1⟩,hadd⟩:∃ q,addM jm M o.t=q:=⟨_,rfl⟩
     have hpl1:=pl_add hpl hot hadd
     refine G2 Tryz.func17 (jAdd hs (sc_room hpl.sc (by omega)) (hpl.small (by omega)) (by omega) hadd ([[(b14,.cells #[.int .i64 o.kind,.int .i64 o.n,.string o.t,.slice o.la o.l.length o.lc,.slice o.ka o.k.length o.kc] 51 (0,0))],(yAt yb x2 jm la lc),lg]:List Grp) jb d1 hoj _ (r.G x2 M++(G++H))) ?_
     rintro v H' ⟨ja17,jc18,jr19,s6,rfl,ho20,hs6,rfl⟩
     refine A6 kr (fun w h=>(Sat.dropMid (K:=[_]) (A:=r.G x2 M) (L:=(G++H)) (Sat.dropMid (K:=[_]) (A:=s6.G d1 M1) (L:=(r.G x2 M++(G++H))) ((((h.erase 4).erase 3).erase 1).erase 0)))) (B9 7 (k:=?_))
     refine I5 rfl (H':=((yAt yb x2 jm la lc)::lg::(jAt jb d1 j1 ja17 jc18)::jr19::[(b14,.cells #[.int .i64 o.kind,.int .i64 o.n,.string o.t,.slice o.la o.l.length o.lc,.slice o.ka o.k.length o.kc] 51 (0,0))]::(s6.G d1 M1++(r.G x2 M++(G++H))))) (fun w h=>((h.front (j:=4) rfl).front (j:=4) rfl)) (G2 Tryz.func22 (yAddL hr (hpl.room (by omega)) (hpl.small (by omega)) (by omega) hadd ([(jAt jb d1 j1 ja17 jc18),jr19,[(b14,.cells #[.int .i64 o.kind,.int .i64 o.n,.string o.t,.slice o.la o.l.length o.lc,.slice o.ka o.k.length o.kc] 51 (0,0))]]:List Grp) (s6.G d1 M1) yb x2 hoy _ (G++H)) ?_)
     rintro v H' ⟨la21,lc22,lg23,r8,rfl,ho24,hr8,rfl⟩
     refine A6 kr (fun w h=>(Sat.dropMid (K:=[_]) (A:=r8.G x2 M1) (L:=(G++H)) (Sat.dropMid (K:=[_]) (A:=s6.G d1 M1) (L:=(r8.G x2 M1++(G++H))) ((((h.erase 3).erase 2).erase 1).erase 0)))) (D0 (fuel:=0) [(8,0)] (fun w h=>(Sat.dropMid (K:=[_]) (A:=r8.G x2 M1) (L:=(G++H)) (Sat.dropMid (K:=[_]) (A:=s6.G d1 M1) (L:=(r8.G x2 M1++(G++H))) ((((h.erase 3).erase 2).erase 1).erase 0)))) (k:=?_))
     refine D8 (E':=[⟨5,[],pt d1⟩,⟨6,[],pt x2⟩,⟨7,[],pt jb⟩,⟨9,[],pt yb⟩,⟨33,[],.slice ao ops.length co⟩,⟨34,[],.int .i64 ((ops.length:Nat):Int)⟩,⟨35,[],.int .i64 ((k:Nat):Int)⟩,⟨97,[],.bool (e1 != e1)⟩]) [5,6,7,9,33,34,35,97] (k:=A0 ?_)
     refine C6 (b:=e1 != e1) kr (fun hc25=>?_) (fun hc25=>?_)
     ·
      simp at hc25
     ·
      skip
      refine B5 (D5 ?_)
      refine E0 (H':=((jAt jb d1 j1 ja17 jc18)::jr19::(yAt yb x2 j1 la21 lc22)::lg23::[(b14,.cells #[.int .i64 o.kind,.int .i64 o.n,.string o.t,.slice o.la o.l.length o.lc,.slice o.ka o.k.length o.kc] 51 (0,0))]::(s6.G d1 M1++(r8.G x2 M1++(G++H))))) (fun w h=>(((((h.front (j:=4) rfl).front (j:=2) rfl).front (j:=2) rfl).front (j:=4) rfl).front (j:=4) rfl)) (M9 (j1,M1,s6,r8,jb,ja17,jc18,jr19,yb,la21,lc22,lg23) [5,6,7,9,33,34,35] kr (fun w h=>h) ⟨hpl1,hs6,hr8,ho20,ho24⟩)
    ·
     simp at hc16
     refine A1 (B4 (E':=[⟨5,[],pt d1⟩,⟨6,[],pt x2⟩,⟨7,[],pt jb⟩,⟨9,[],pt yb⟩,⟨12,[],pt b14⟩,⟨33,[],.slice ao ops.length co⟩,⟨34,[],.int .i64 ((ops.length:Nat):Int)⟩,⟨35,[],.int .i64 ((k:Nat):Int)⟩,⟨49,[],.int .u64 (Int.tmod (IntKind.wrap .u64 o.kind) 6)⟩,⟨98,[],.bool ((Int.tmod (IntKind.wrap .u64 o.kind) 6)==1)⟩]) [0,0] [5,6,7,9,12,33,34,35,49,98] (k:=?_))
     refine A0 (C6 (b:=(Int.tmod (IntKind.wrap .u64 o.kind) 6)==1) kr (fun hc26=>?_) (fun hc26=>?_))
     ·
      simp at hc26
      refine A1 (D7 ([(b14,.cells #[.int .i64 o.kind,.int .i64 o.n,.string o.t,.slice o.la o.l.length o.lc,.slice o.ka o.k.length o.kc] 51 (0,0))]::(G++H)) kr ?_)
      refine D0 (fuel:=9) [(0,0),(2,0)] (fun w h=>(Sat.dropMid (K:=[_]) (A:=r.G x2 M) (L:=(G++H)) (Sat.dropMid (K:=[_]) (A:=s.G d1 M) (L:=(r.G x2 M++(G++H))) ((((h.erase 4).erase 3).erase 2).erase 1)))) (k:=A9 3 (hL:=(fun w h=>(Sat.dropMid (K:=[_]) (A:=r.G x2 M) (L:=(G++H)) (Sat.dropMid (K:=[_]) (A:=s.G d1 M) (L:=(r.G x2 M++(G++H))) ((((h.erase 4).erase 3).erase 2).erase 1))))) (hy:=A5 (i:=3) (ch:=[]) (b:=b14) (off:=3) (v:=.slice o.la o.l.length o.lc) (hA:=At.grp 0 0 rfl rfl) (k:=B1 kr rfl)) (k:=?_))
      refine D0 (fuel:=6) [(6,0),(7,0)] (fun w h=>(Sat.dropMid (K:=[_]) (A:=r.G x2 M) (L:=(G++H)) (Sat.dropMid (K:=[_]) (A:=s.G d1 M) (L:=(r.G x2 M++(G++H))) ((((h.erase 4).erase 3).erase 2).erase 1)))) (k:=A9 8 (hL:=(fun w h=>(Sat.dropMid (K:=[_]) (A:=r.G x2 M) (L:=(G++H)) (Sat.dropMid (K:=[_]) (A:=s.G d1 M) (L:=(r.G x2 M++(G++H))) ((((h.erase 4).erase 3).erase 2).erase 1))))) (hy:=A5 (i:=8) (ch:=[]) (b:=b14) (off:=3) (v:=.slice o.la o.l.length o.lc) (hA:=At.grp 0 0 rfl rfl) (k:=B1 kr rfl)) (k:=?_))
      refine B9 1 (k:=C2 (ch:=[]) (e:=9) (l:=[]) (c:=[]) (k:=(fun b27=>?_)))
      refine A6 kr (fun w h=>(Sat.dropMid (K:=[_]) (A:=r.G x2 M) (L:=(G++H)) (Sat.dropMid (K:=[_]) (A:=s.G d1 M) (L:=(r.G x2 M++(G++H))) (((((h.erase 5).erase 4).erase 3).erase 2).erase 0)))) (B9 4 (k:=?_))
      refine E9 (i:=4) (ch:=[]) (t:=32) (tx:=32) (e:=9) (inf:=Tryz.t9) (s:=.slice (some ⟨b27,0,none⟩) 0 0) (x:=.slice o.la o.l.length o.lc) (n:=0) (m:=o.l.length) (j:=0) (cs:=[]) (news:=(strs o.l)) (g:=[(b27,.cells #[] 9 (0,0))]) (S:=So) rfl rfl rfl rfl kr kr kr rfl rfl (.inl ⟨9,kr⟩) (fun ⟨_,h⟩=>by cases h) (fun _=>⟨9,kr⟩) kr kr kr rfl (Go.Sw.Own.lit rfl) (SrcOf.slice _ _ _ _ hO.l hO.ln) (fun y o h=>at_up (hO.at_ y o h)) (show (strs o.l).length=o.l.length * 1 by simp [strs]) P7 (by omega) (by show (0+o.l.length) * 16≤140737488355328; omega) (fun v28 g29 hO30=>?_)
      replace hO30:=T5 hO30
      obtain ⟨a31,cap32,rfl,hcap33,hrd34⟩:=hO30.shape
      refine A6 kr (fun w h=>(Sat.dropMid (K:=[_]) (A:=r.G x2 M) (L:=(G++H)) (Sat.dropMid (K:=[_]) (A:=s.G d1 M) (L:=(r.G x2 M++(G++H))) (((((h.erase 5).erase 4).erase 3).erase 2).erase 0)))) (B9 5 (k:=?_))
      refine I5 rfl (H':=((jAt jb d1 jm ja jc)::jr::g29::[(b14,.cells #[.int .i64 o.kind,.int .i64 o.n,.string o.t,.slice o.la o.l.length o.lc,.slice o.ka o.k.length o.kc] 51 (0,0))]::(yAt yb x2 jm la lc)::lg::(s.G d1 M++(r.G x2 M++(G++H))))) (fun w h=>((h.front (j:=3) rfl).front (j:=3) rfl)) ?_
      obtain ⟨⟨e1,j1,M1⟩,hrep⟩:∃ q,E3 jm M o.l=q:=⟨_,rfl⟩
      have hpl1:=pl_rep hpl (pl_lines hos1 hol) hrep
      refine G2 Tryz.func18 (jRep (ts:=o.l) hs (sc_room hpl.sc (by omega)) (hpl.small (by omega)) (by have:=lines_le hos1; omega) hrep ([g29,[(b14,.cells #[.int .i64 o.kind,.int .i64 o.n,.string o.t,.slice o.la o.l.length o.lc,.slice o.ka o.k.length o.kc] 51 (0,0))],(yAt yb x2 jm la lc),lg]:List Grp) jb d1 hoj a31 cap32 (inG g29) (D6 hO30) (A0t hO30) _ (r.G x2 M++(G++H)) (C9 1 rfl)) ?_
      rintro v H' ⟨ja35,jc36,jr37,s10,rfl,ho38,hs10,rfl⟩
      refine A6 kr (fun w h=>(Sat.dropMid (K:=[_]) (A:=r.G x2 M) (L:=(G++H)) (Sat.dropMid (K:=[_]) (A:=s10.G d1 M1) (L:=(r.G x2 M++(G++H))) (((((h.erase 5).erase 4).erase 2).erase 1).erase 0)))) (B9 9 (k:=?_))
      refine I5 rfl (H':=((yAt yb x2 jm la lc)::lg::(jAt jb d1 j1 ja35 jc36)::jr37::g29::[(b14,.cells #[.int .i64 o.kind,.int .i64 o.n,.string o.t,.slice o.la o.l.length o.lc,.slice o.ka o.k.length o.kc] 51 (0,0))]::(s10.G d1 M1++(r.G x2 M++(G++H))))) (fun w h=>((h.front (j:=5) rfl).front (j:=5) rfl)) (G2 Tryz.func23 (yRepL hr (hpl.room (by omega)) (hpl.small (by omega)) (by have:=lines_le hos1; omega) hrep ([(jAt jb d1 j1 ja35 jc36),jr37,g29,[(b14,.cells #[.int .i64 o.kind,.int .i64 o.n,.string o.t,.slice o.la o.l.length o.lc,.slice o.ka o.k.length o.kc] 51 (0,0))]]:List Grp) (s10.G d1 M1) yb x2 hoy o.la o.lc So hO.l hO.ln _ (G++H) hO.at_) ?_)
      rintro v H' ⟨la39,lc40,lg41,r12,rfl,ho42,hr12,rfl⟩
      refine A6 kr (fun w h=>(Sat.dropMid (K:=[_]) (A:=r12.G x2 M1) (L:=(G++H)) (Sat.dropMid (K:=[_]) (A:=s10.G d1 M1) (L:=(r12.G x2 M1++(G++H))) (((((h.erase 4).erase 3).erase 2).erase 1).erase 0)))) (D0 (fuel:=0) [(10,0)] (fun w h=>(Sat.dropMid (K:=[_]) (A:=r12.G x2 M1) (L:=(G++H)) (Sat.dropMid (K:=[_]) (A:=s10.G d1 M1) (L:=(r12.G x2 M1++(G++H))) (((((h.erase 4).erase 3).erase 2).erase 1).erase 0)))) (k:=?_))
      refine D8 (E':=[⟨5,[],pt d1⟩,⟨6,[],pt x2⟩,⟨7,[],pt jb⟩,⟨9,[],pt yb⟩,⟨33,[],.slice ao ops.length co⟩,⟨34,[],.int .i64 ((ops.length:Nat):Int)⟩,⟨35,[],.int .i64 ((k:Nat):Int)⟩,⟨110,[],.bool (e1 != e1)⟩]) [5,6,7,9,33,34,35,110] (k:=A0 ?_)
      refine C6 (b:=e1 != e1) kr (fun hc43=>?_) (fun hc43=>?_)
      ·
       simp at hc43
      ·
       skip
       refine B5 (D5 ?_)
       refine E0 (H':=((jAt jb d1 j1 ja35 jc36)::jr37::(yAt yb x2 j1 la39 lc40)::lg41::[(b14,.cells #[.int .i64 o.kind,.int .i64 o.n,.string o.t,.slice o.la o.l.length o.lc,.slice o.ka o.k.length o.kc] 51 (0,0))]::(s10.G d1 M1++(r12.G x2 M1++(G++H))))) (fun w h=>((((((h.front (j:=5) rfl).front (j:=2) rfl).front (j:=2) rfl).front (j:=4) rfl).front (j:=4) rfl).erase 5)) (M9 (j1,M1,s10,r12,jb,ja35,jc36,jr37,yb,la39,lc40,lg41) [5,6,7,9,33,34,35] kr (fun w h=>h) ⟨hpl1,hs10,hr12,ho38,ho42⟩)
     ·
      simp at hc26
      refine A1 (G_p [0,0] [5,6,7,9,12,33,34,35,49,111] (k:=?_))
      refine A0 (C6 (b:=(Int.tmod (IntKind.wrap .u64 o.kind) 6)==2) kr (fun hc44=>?_) (fun hc44=>?_))
      ·
       simp at hc44
       refine A1 (A2 ?_)
       refine A7 (j:=2) [0,0] (k:=A5 (ch:=[]) (b:=b14) (off:=1) (v:=.int .i64 o.n) (hA:=At.grp 0 0 rfl rfl) (k:=?_))
       refine A7 (j:=4) [0] (k:=A5 (ch:=[]) (b:=b14) (off:=2) (v:=.string o.t) (hA:=At.grp 0 0 rfl rfl) (k:=?_))
       refine A7 (j:=6) [0] (k:=G2 Tryz.func24 (dFail hs d1 o.n (!(o.t.toList==(ByteArray.mk #[]).toList)) [[(b14,.cells #[.int .i64 o.kind,.int .i64 o.n,.string o.t,.slice o.la o.l.length o.lc,.slice o.ka o.k.length o.kc] 51 (0,0))],(jAt jb d1 jm ja jc),jr,(yAt yb x2 jm la lc),lg] _ (r.G x2 M++(G++H)) rfl) ?_)
       rintro v H' ⟨rfl,s13,hs13,rfl⟩
       refine C4 [] [5,6,7,9,12,33,34,35] (k:=A0 ?_)
       refine A2 (A7 (j:=2) [0,0] (k:=?_))
       refine A5 (ch:=[]) (b:=b14) (off:=1) (v:=.int .i64 o.n) (hA:=At.grp 0 0 rfl rfl) (k:=A7 (j:=4) [0] (k:=?_))
       refine A5 (ch:=[]) (b:=b14) (off:=2) (v:=.string o.t) (hA:=At.grp 0 0 rfl rfl) (k:=A7 (j:=6) [0] (k:=?_))
       refine G2 Tryz.func25 (is_front2 (K:=[[(b14,.cells #[.int .i64 o.kind,.int .i64 o.n,.string o.t,.slice o.la o.l.length o.lc,.slice o.ka o.k.length o.kc] 51 (0,0))],(jAt jb d1 jm ja jc),jr,(yAt yb x2 jm la lc),lg]) (A:=s13.G d1 (failM M o.n (!(o.t.toList==(ByteArray.mk #[]).toList)))) (rFail x2 r M hr o.n (!(o.t.toList==(ByteArray.mk #[]).toList)) _ _)) ?_
       rintro v H' ⟨rfl,r14,hr14,rfl⟩
       refine C4 [] [5,6,7,9,33,34,35] (k:=D5 ?_)
       refine E0 (H':=((jAt jb d1 jm ja jc)::jr::(yAt yb x2 jm la lc)::lg::[(b14,.cells #[.int .i64 o.kind,.int .i64 o.n,.string o.t,.slice o.la o.l.length o.lc,.slice o.ka o.k.length o.kc] 51 (0,0))]::(s13.G d1 (failM M o.n (!(o.t.toList==(ByteArray.mk #[]).toList)))++(r14.G x2 (failM M o.n (!(o.t.toList==(ByteArray.mk #[]).toList)))++(G++H))))) (fun w h=>((((h.front (j:=4) rfl).front (j:=4) rfl).front (j:=4) rfl).front (j:=4) rfl)) (M9 (jm,(failM M o.n (!(o.t.toList==(ByteArray.mk #[]).toList))),s13,r14,jb,ja,jc,jr,yb,la,lc,lg) [5,6,7,9,33,34,35] kr (fun w h=>h) ⟨(hpl.mono (pl_up (scr_fail hpl.sc hO.n _) (by omega)) (by omega)),hs13,hr14,hoj,hoy⟩)
      ·
       simp at hc44
       refine A1 (G_p [0,0] [5,6,7,9,12,33,34,35,127] (k:=?_))
       refine A0 (C6 (b:=(Int.tmod (IntKind.wrap .u64 o.kind) 6)==5) kr (fun hc45=>?_) (fun hc45=>?_))
       ·
        simp at hc45
        refine A1 (D7 ([(b14,.cells #[.int .i64 o.kind,.int .i64 o.n,.string o.t,.slice o.la o.l.length o.lc,.slice o.ka o.k.length o.kc] 51 (0,0))]::(G++H)) kr ?_)
        refine D0 (fuel:=8) [(0,0),(1,0)] (fun w h=>(Sat.dropMid (K:=[_]) (A:=r.G x2 M) (L:=(G++H)) (Sat.dropMid (K:=[_]) (A:=s.G d1 M) (L:=(r.G x2 M++(G++H))) ((((h.erase 4).erase 3).erase 2).erase 1)))) (k:=A9 2 (hL:=(fun w h=>(Sat.dropMid (K:=[_]) (A:=r.G x2 M) (L:=(G++H)) (Sat.dropMid (K:=[_]) (A:=s.G d1 M) (L:=(r.G x2 M++(G++H))) ((((h.erase 4).erase 3).erase 2).erase 1))))) (hy:=A5 (i:=2) (ch:=[]) (b:=b14) (off:=2) (v:=.string o.t) (hA:=At.grp 0 0 rfl rfl) (k:=B1 kr rfl)) (k:=?_))
        refine D0 (fuel:=5) [(5,0),(6,0)] (fun w h=>(Sat.dropMid (K:=[_]) (A:=r.G x2 M) (L:=(G++H)) (Sat.dropMid (K:=[_]) (A:=s.G d1 M) (L:=(r.G x2 M++(G++H))) ((((h.erase 4).erase 3).erase 2).erase 1)))) (k:=A9 7 (hL:=(fun w h=>(Sat.dropMid (K:=[_]) (A:=r.G x2 M) (L:=(G++H)) (Sat.dropMid (K:=[_]) (A:=s.G d1 M) (L:=(r.G x2 M++(G++H))) ((((h.erase 4).erase 3).erase 2).erase 1))))) (hy:=A5 (i:=7) (ch:=[]) (b:=b14) (off:=2) (v:=.string o.t) (hA:=At.grp 0 0 rfl rfl) (k:=B1 kr rfl)) (k:=?_))
        refine B9 3 (k:=P6 (ch:=[]) (src:=9) (dst:=22) (e:=5) (s:=o.t) (k:=(fun b46 cap47 g48 hcap49 hrd50=>?_)))
        refine A6 kr (fun w h=>(Sat.dropMid (K:=[_]) (A:=r.G x2 M) (L:=(G++H)) (Sat.dropMid (K:=[_]) (A:=s.G d1 M) (L:=(r.G x2 M++(G++H))) (((((h.erase 5).erase 4).erase 3).erase 2).erase 0)))) (I0 (g48::[(b14,.cells #[.int .i64 o.kind,.int .i64 o.n,.string o.t,.slice o.la o.l.length o.lc,.slice o.ka o.k.length o.kc] 51 (0,0))]::(G++H)) (fun w h=>(h.erase 0)) ?_)
        refine B9 4 (k:=G2 Tryz.func26 (dAppend hs (sc_room hpl.sc (by omega)).small d1 (ByteArray.mk #[106,47,108,111,103]) o.t (by decide) (by omega) [g48,[(b14,.cells #[.int .i64 o.kind,.int .i64 o.n,.string o.t,.slice o.la o.l.length o.lc,.slice o.ka o.k.length o.kc] 51 (0,0))],(jAt jb d1 jm ja jc),jr,(yAt yb x2 jm la lc),lg] _ (r.G x2 M++(G++H)) ⟨(some ⟨b46,0,none⟩),cap47,inG g48,rfl,.inr (.inr ⟨_,0,rfl⟩),hrd50,(C9 0 rfl)⟩ rfl) ?_)
        rintro v H' ⟨rfl,s15,hs15,rfl⟩
        refine A6 kr (fun w h=>(Sat.dropMid (K:=[_,_]) (A:=r.G x2 M) (L:=(G++H)) (Sat.dropMid (K:=[_,_]) (A:=s15.G d1 (F4 M (ByteArray.mk #[106,47,108,111,103]) o.t).2) (L:=(r.G x2 M++(G++H))) ((((h.erase 5).erase 4).erase 3).erase 2)))) (B9 8 (k:=?_))
        refine G2 Tryz.func27 (is_front2 (K:=[g48,[(b14,.cells #[.int .i64 o.kind,.int .i64 o.n,.string o.t,.slice o.la o.l.length o.lc,.slice o.ka o.k.length o.kc] 51 (0,0))],(jAt jb d1 jm ja jc),jr,(yAt yb x2 jm la lc),lg]) (A:=s15.G d1 (F4 M (ByteArray.mk #[106,47,108,111,103]) o.t).2) (rAppend x2 r M hr (N4 hpl.sc (by omega) (by omega) (by omega)) (ByteArray.mk #[106,47,108,111,103]) o.t (by decide) (by omega) _ _)) ?_
        rintro v H' ⟨rfl,r16,hr16,rfl⟩
        refine A6 kr (fun w h=>(Sat.dropMid (K:=[_,_]) (A:=r16.G x2 (F4 M (ByteArray.mk #[106,47,108,111,103]) o.t).2) (L:=(G++H)) (Sat.dropMid (K:=[_,_]) (A:=s15.G d1 (F4 M (ByteArray.mk #[106,47,108,111,103]) o.t).2) (L:=(r16.G x2 (F4 M (ByteArray.mk #[106,47,108,111,103]) o.t).2++(G++H))) ((((h.erase 5).erase 4).erase 3).erase 2)))) (D0 (fuel:=0) [(9,0)] (fun w h=>(Sat.dropMid (K:=[_,_]) (A:=r16.G x2 (F4 M (ByteArray.mk #[106,47,108,111,103]) o.t).2) (L:=(G++H)) (Sat.dropMid (K:=[_,_]) (A:=s15.G d1 (F4 M (ByteArray.mk #[106,47,108,111,103]) o.t).2) (L:=(r16.G x2 (F4 M (ByteArray.mk #[106,47,108,111,103]) o.t).2++(G++H))) ((((h.erase 5).erase 4).erase 3).erase 2)))) (k:=?_))
        refine D8 (E':=[⟨5,[],pt d1⟩,⟨6,[],pt x2⟩,⟨7,[],pt jb⟩,⟨9,[],pt yb⟩,⟨33,[],.slice ao ops.length co⟩,⟨34,[],.int .i64 ((ops.length:Nat):Int)⟩,⟨35,[],.int .i64 ((k:Nat):Int)⟩,⟨138,[],.bool (((F4 M (ByteArray.mk #[106,47,108,111,103]) o.t).1) != ((F4 M (ByteArray.mk #[106,47,108,111,103]) o.t).1))⟩]) [5,6,7,9,33,34,35,138] (k:=A0 ?_)
        refine C6 (b:=((F4 M (ByteArray.mk #[106,47,108,111,103]) o.t).1) != ((F4 M (ByteArray.mk #[106,47,108,111,103]) o.t).1)) kr (fun hc51=>?_) (fun hc51=>?_)
        ·
         simp at hc51
        ·
         skip
         refine B5 (D5 ?_)
         refine E0 (H':=((jAt jb d1 jm ja jc)::jr::(yAt yb x2 jm la lc)::lg::[(b14,.cells #[.int .i64 o.kind,.int .i64 o.n,.string o.t,.slice o.la o.l.length o.lc,.slice o.ka o.k.length o.kc] 51 (0,0))]::(s15.G d1 (F4 M (ByteArray.mk #[106,47,108,111,103]) o.t).2++(r16.G x2 (F4 M (ByteArray.mk #[106,47,108,111,103]) o.t).2++(G++H))))) (fun w h=>((((((h.front (j:=1) rfl).front (j:=5) rfl).front (j:=5) rfl).front (j:=5) rfl).front (j:=5) rfl).erase 5)) (M9 (jm,(F4 M (ByteArray.mk #[106,47,108,111,103]) o.t).2,s15,r16,jb,ja,jc,jr,yb,la,lc,lg) [5,6,7,9,33,34,35] kr (fun w h=>h) ⟨(hpl.mono (pl_up (scr_append hpl.sc _ (by omega)) (by omega)) (by omega)),hs15,hr16,hoj,hoy⟩)
       ·
        simp at hc45
        refine A1 (A1 ?_)
        refine A2 (A7 (j:=1) [0] (k:=?_))
        refine A5 (ch:=[]) (b:=b14) (off:=0) (v:=.int .i64 o.kind) (hA:=At.grp 0 0 rfl rfl) (k:=C4 [0,0,0] [5,6,7,9,12,33,34,35,54] (k:=?_))
        refine A0 (G_join (T:=DM × DS × RS) (fun ξ:DM × DS × RS=>[⟨5,[],pt d1⟩,⟨6,[],pt x2⟩,⟨7,[],pt jb⟩,⟨9,[],pt yb⟩,⟨33,[],.slice ao ops.length co⟩,⟨34,[],.int .i64 ((ops.length:Nat):Int)⟩,⟨35,[],.int .i64 ((k:Nat):Int)⟩]) (fun ξ:DM × DS × RS=>([(b14,.cells #[.int .i64 o.kind,.int .i64 o.n,.string o.t,.slice o.la o.l.length o.lc,.slice o.ka o.k.length o.kc] 51 (0,0))]::(jAt jb d1 jm ja jc)::jr::(yAt yb x2 jm la lc)::lg::(ξ.2.1.G d1 ξ.1++(ξ.2.2.G x2 ξ.1++(G++H))))) (fun ξ:DM × DS × RS=>(Scr 1100 (60+3 * k+1) ξ.1)∧(ξ.2.1.ok ξ.1)∧(ξ.2.2.ok ξ.1)) ?_ ?_)
        ·
         refine C6 (b:=(Int.tmod (IntKind.wrap .u64 o.kind) 6)==3) kr (fun hc52=>?_) (fun hc52=>?_)
         ·
          simp at hc52
          refine A1 (A2 ?_)
          refine A7 (j:=2) [0,0] (k:=A5 (ch:=[]) (b:=b14) (off:=4) (v:=.slice o.ka o.k.length o.kc) (hA:=At.grp 0 0 rfl rfl) (k:=?_))
          refine G2 Tryz.func28 (dCrash (M':=(V9 M o.k)) hs (sc_room hpl.sc (by omega)).small d1 o.k o.ka o.kc So ⟨hO.k,hO.kc,(show o.k.length≤1000000000 by omega),hO.ki⟩ [[(b14,.cells #[.int .i64 o.kind,.int .i64 o.n,.string o.t,.slice o.la o.l.length o.lc,.slice o.ka o.k.length o.kc] 51 (0,0))],(jAt jb d1 jm ja jc),jr,(yAt yb x2 jm la lc),lg] _ (r.G x2 M++(G++H)) (fun y o h=>at_up (hO.at_ y o h)) rfl) ?_
          rintro v H' ⟨rfl,s17,hs17,rfl⟩
          refine C4 [] [5,6,7,9,12,33,34,35] (k:=A0 ?_)
          refine A2 (A7 (j:=2) [0,0] (k:=?_))
          refine A5 (ch:=[]) (b:=b14) (off:=4) (v:=.slice o.ka o.k.length o.kc) (hA:=At.grp 0 0 rfl rfl) (k:=G2 Tryz.func29 (is_front2 (K:=[[(b14,.cells #[.int .i64 o.kind,.int .i64 o.n,.string o.t,.slice o.la o.l.length o.lc,.slice o.ka o.k.length o.kc] 51 (0,0))],(jAt jb d1 jm ja jc),jr,(yAt yb x2 jm la lc),lg]) (A:=s17.G d1 (V9 M o.k)) (rCrash x2 r M hr (N4 hpl.sc (by omega) (by omega) (by omega)) o.k o.ka o.kc So _ _ hO.k hO.ki (fun y o h=>at_up (hO.at_ y o h)))) ?_)
          rintro v H' ⟨rfl,r18,hr18,rfl⟩
          refine C4 [] [5,6,7,9,33,34,35] (k:=M9 ((V9 M o.k),s17,r18) [5,6,7,9,33,34,35] kr (fun w h=>h) ⟨(scr_crash hpl.sc o.k),hs17,hr18⟩)
         ·
          simp at hc52
          refine B5 (M9 (M,s,r) [5,6,7,9,33,34,35] kr (fun w h=>h) ⟨(pl_up hpl.sc (by omega)),hs,hr⟩)
        ·
         rintro ⟨Mc,sc,rc⟩ ⟨hscr,hsc,hrc⟩
         refine A0 (A1 ?_)
         obtain ⟨⟨e1,jo,M1⟩,hop⟩:∃ q,R4 Mc dJ=q:=⟨_,rfl⟩
         rcases jo with _ | j1
         ·
          have hne:=open_ne hop
          refine A2 (A7 (j:=1) [0] (k:=?_))
          refine G2 Tryz.func10 (jOpenNo hsc (sc_room hscr (by omega)) (by decide) hop ([[(b14,.cells #[.int .i64 o.kind,.int .i64 o.n,.string o.t,.slice o.la o.l.length o.lc,.slice o.ka o.k.length o.kc] 51 (0,0))],(jAt jb d1 jm ja jc),jr,(yAt yb x2 jm la lc),lg]:List Grp) d1 _ (rc.G x2 Mc++(G++H))) ?_
          rintro v H' ⟨rfl,s19,hs19,rfl⟩
          refine C4 [0,0,0,0,0] [5,6,7,9,13,14,33,34,35] (k:=A0 ?_)
          refine A1 (A2 ?_)
          refine A7 (j:=1) [0] (k:=G2 Tryz.func20 (yOpenNo hrc hscr (by omega) (by decide) hop ([[(b14,.cells #[.int .i64 o.kind,.int .i64 o.n,.string o.t,.slice o.la o.l.length o.lc,.slice o.ka o.k.length o.kc] 51 (0,0))],(jAt jb d1 jm ja jc),jr,(yAt yb x2 jm la lc),lg]:List Grp) (s19.G d1 M1) x2 _ (G++H)) ?_)
          rintro v H' ⟨rfl,r20,hr20,rfl⟩
          refine C4 [0,0,0,0,0] [5,6,7,9,13,14,15,16,33,34,35] (k:=A0 ?_)
          refine A1 (A1 ?_)
          refine A2 (P9 (E':=[⟨75,[],.bool (e1 != e1)⟩,⟨5,[],pt d1⟩,⟨6,[],pt x2⟩,⟨7,[],pt jb⟩,⟨9,[],pt yb⟩,⟨13,[],.pointer none⟩,⟨15,[],.pointer none⟩,⟨16,[],.int .i64 e1⟩,⟨33,[],.slice ao ops.length co⟩,⟨34,[],.int .i64 ((ops.length:Nat):Int)⟩,⟨35,[],.int .i64 ((k:Nat):Int)⟩]) [0,0,0] kr (j:=3) rfl ?_)
          refine GL_env (E':=[⟨75,[],.bool false⟩,⟨5,[],pt d1⟩,⟨6,[],pt x2⟩,⟨7,[],pt jb⟩,⟨9,[],pt yb⟩,⟨13,[],.pointer none⟩,⟨15,[],.pointer none⟩,⟨16,[],.int .i64 e1⟩,⟨33,[],.slice ao ops.length co⟩,⟨34,[],.int .i64 ((ops.length:Nat):Int)⟩,⟨35,[],.int .i64 ((k:Nat):Int)⟩]) (by rw [show (e1 != e1)=false from bne_self_eq_false _]) (P9 (E':=[⟨78,[(76,false)],.bool (e1==0)⟩,⟨76,[],.bool false⟩,⟨5,[],pt d1⟩,⟨6,[],pt x2⟩,⟨7,[],pt jb⟩,⟨9,[],pt yb⟩,⟨13,[],.pointer none⟩,⟨15,[],.pointer none⟩,⟨16,[],.int .i64 e1⟩,⟨33,[],.slice ao ops.length co⟩,⟨34,[],.int .i64 ((ops.length:Nat):Int)⟩,⟨35,[],.int .i64 ((k:Nat):Int)⟩]) [0,0,0] kr (j:=6) rfl ?_)
          refine GL_env (E':=[⟨78,[(76,false)],.bool false⟩,⟨76,[],.bool false⟩,⟨5,[],pt d1⟩,⟨6,[],pt x2⟩,⟨7,[],pt jb⟩,⟨9,[],pt yb⟩,⟨13,[],.pointer none⟩,⟨15,[],.pointer none⟩,⟨16,[],.int .i64 e1⟩,⟨33,[],.slice ao ops.length co⟩,⟨34,[],.int .i64 ((ops.length:Nat):Int)⟩,⟨35,[],.int .i64 ((k:Nat):Int)⟩]) (by rw [hne]) (C4 [0,0,0,3] [5,6,7,9,13,15,16,33,34,35,82] (k:=?_))
          refine A0 (I2 kr ?_)
          refine B5 (A0 ?_)
          refine A1 (A2 ?_)
          refine P9 (E':=[⟨84,[],.bool (e1==0)⟩,⟨5,[],pt d1⟩,⟨6,[],pt x2⟩,⟨7,[],pt jb⟩,⟨9,[],pt yb⟩,⟨13,[],.pointer none⟩,⟨15,[],.pointer none⟩,⟨33,[],.slice ao ops.length co⟩,⟨34,[],.int .i64 ((ops.length:Nat):Int)⟩,⟨35,[],.int .i64 ((k:Nat):Int)⟩]) [0,0] kr (j:=2) rfl (GL_env (E':=[⟨84,[],.bool false⟩,⟨5,[],pt d1⟩,⟨6,[],pt x2⟩,⟨7,[],pt jb⟩,⟨9,[],pt yb⟩,⟨13,[],.pointer none⟩,⟨15,[],.pointer none⟩,⟨33,[],.slice ao ops.length co⟩,⟨34,[],.int .i64 ((ops.length:Nat):Int)⟩,⟨35,[],.int .i64 ((k:Nat):Int)⟩]) (by rw [hne]) ?_)
          refine C4 [] [5,6,7,9,13,15,33,34,35,84] (k:=A0 ?_)
          refine I2 kr (B5 ?_)
          refine D5 (E0 (H':=((jAt jb d1 jm ja jc)::jr::(yAt yb x2 jm la lc)::lg::[(b14,.cells #[.int .i64 o.kind,.int .i64 o.n,.string o.t,.slice o.la o.l.length o.lc,.slice o.ka o.k.length o.kc] 51 (0,0))]::(s19.G d1 M1++(r20.G x2 M1++(G++H))))) (fun w h=>((((h.front (j:=4) rfl).front (j:=4) rfl).front (j:=4) rfl).front (j:=4) rfl)) ?_)
          refine M9 (jm,M1,s19,r20,jb,ja,jc,jr,yb,la,lc,lg) [5,6,7,9,33,34,35] kr (fun w h=>h) ⟨(hpl.mono (pl_up (sc_open' hscr hop) (by omega)) (by omega)),hs19,hr20,hoj,hoy⟩
         ·
          have hpo:=pl_open hscr (by decide) hop
          obtain rfl:=hpo.2
          refine A2 (A7 (j:=1) [0] (k:=?_))
          refine G2 Tryz.func10 (jOpen hsc (sc_room hscr (by omega)) (by decide) hop ([[(b14,.cells #[.int .i64 o.kind,.int .i64 o.n,.string o.t,.slice o.la o.l.length o.lc,.slice o.ka o.k.length o.kc] 51 (0,0))],(jAt jb d1 jm ja jc),jr,(yAt yb x2 jm la lc),lg]:List Grp) d1 _ (rc.G x2 Mc++(G++H))) ?_
          rintro v H' ⟨jb58,ja59,jc60,jr61,s21,rfl,ho62,hs21,rfl⟩
          refine C4 [0,0,0,0,0] [5,6,7,9,13,14,33,34,35] (k:=A0 ?_)
          refine A1 (A2 ?_)
          refine A7 (j:=1) [0] (k:=G2 Tryz.func20 (yOpenL hrc hscr (by omega) (by decide) hop ([(jAt jb58 d1 j1 ja59 jc60),jr61,[(b14,.cells #[.int .i64 o.kind,.int .i64 o.n,.string o.t,.slice o.la o.l.length o.lc,.slice o.ka o.k.length o.kc] 51 (0,0))],(jAt jb d1 jm ja jc),jr,(yAt yb x2 jm la lc),lg]:List Grp) (s21.G d1 M1) x2 _ (G++H)) ?_)
          rintro v H' ⟨y63,la64,lc65,lg66,r22,rfl,ho67,hr22,rfl⟩
          refine C4 [0,0,0,0,0] [5,6,7,9,13,14,15,16,33,34,35] (k:=A0 ?_)
          refine A1 (A1 ?_)
          refine G_p [0,0,0,0,0,0,0,0,0,3] [5,6,7,9,13,15,16,33,34,35,82] (k:=A0 ?_)
          refine I2 kr (B5 ?_)
          refine A0 (A1 ?_)
          refine G_p [0,0] [5,6,7,9,13,15,33,34,35,84] (k:=A0 ?_)
          refine I1 kr (G_p [0,0,0,0] [5,6,7,9,33,34,35] (k:=?_))
          refine D5 (E0 (H':=((jAt jb58 d1 j1 ja59 jc60)::jr61::(yAt y63 x2 j1 la64 lc65)::lg66::[(b14,.cells #[.int .i64 o.kind,.int .i64 o.n,.string o.t,.slice o.la o.l.length o.lc,.slice o.ka o.k.length o.kc] 51 (0,0))]::(s21.G d1 M1++(r22.G x2 M1++(G++H))))) (fun w h=>(((((((((h.front (j:=4) rfl).front (j:=2) rfl).front (j:=2) rfl).front (j:=4) rfl).front (j:=4) rfl).erase 8).erase 7).erase 6).erase 5)) ?_)
          refine M9 (j1,M1,s21,r22,jb58,ja59,jc60,jr61,y63,la64,lc65,lg66) [5,6,7,9,33,34,35] kr (fun w h=>h) ⟨(hpo.1.mono (pl_up hpo.1.sc (by omega)) (by omega)),hs21,hr22,ho62,ho67⟩
   ·
    rintro ⟨jm,M,s,r,jb,ja,jc,jr,yb,la,lc,lg⟩ ⟨hplJ,hs,hr,hoj,hoy⟩
    dsimp only at hplJ hs hr hoj hoy
    refine H8 (E':=[⟨5,[],pt d1⟩,⟨6,[],pt x2⟩,⟨7,[],pt jb⟩,⟨9,[],pt yb⟩,⟨33,[],.slice ao ops.length co⟩,⟨34,[],.int .i64 ((ops.length:Nat):Int)⟩,⟨35,[],.int .i64 ((k:Nat):Int)⟩]) rfl (A0 ?_)
    refine A1 (D7 ((jAt jb d1 jm ja jc)::jr::[(yb,.cells #[pt x2,.string jm.dir,.slice la jm.L.length lc,.bool jm.down,.bool jm.there] 61 (0,0))]::lg::[(b14,.cells #[.int .i64 o.kind,.int .i64 o.n,.string o.t,.slice o.la o.l.length o.lc,.slice o.ka o.k.length o.kc] 51 (0,0))]::(s.G d1 M++(r.G x2 M++(G++H)))) kr ?_)
    refine D0 (fuel:=17) [(0,0),(2,0)] (fun w h=>h) (k:=G0 (ad:=⟨yb,0,none⟩) 3 (hL:=(fun w h=>h)) (k:=?_))
    refine D0 (fuel:=15) [(4,0)] (fun w h=>h) (k:=A9 5 (hL:=(fun w h=>h)) (hy:=A5 (i:=5) (ch:=[]) (b:=yb) (off:=2) (v:=.slice la jm.L.length lc) (hA:=At.grp 2 0 rfl rfl) (k:=B1 kr rfl)) (k:=?_))
    refine B9 1 (k:=G2 Tryz.func15 (jRecords (hplJ.small (by omega)) jb d1 hoj _ _) ?_)
    rintro v H' ⟨la68,lc69,lg70,rfl,hrd71,rfl⟩
    refine A6 kr (fun w h=>(h.erase 0)) (I0 (lg70::(jAt jb d1 jm ja jc)::jr::[(yb,.cells #[pt x2,.string jm.dir,.slice la jm.L.length lc,.bool jm.down,.bool jm.there] 61 (0,0))]::lg::[(b14,.cells #[.int .i64 o.kind,.int .i64 o.n,.string o.t,.slice o.la o.l.length o.lc,.slice o.ka o.k.length o.kc] 51 (0,0))]::(s.G d1 M++(r.G x2 M++(G++H)))) (fun w h=>(h.erase 0)) ?_)
    refine B9 6 (k:=F6 Tryz.func14 (same_ la68 lc69 jm.L (inG lg70) hrd71 (by have:=(hplJ.small (by omega)).len; omega) la lc jm.L (inG lg) (D6 hoy) (by have:=(hplJ.small (by omega)).len; omega) _ _ (C9 0 rfl) (C9 4 rfl)) ?_)
    refine A6 kr (fun w h=>h) (A1b (E':=[⟨146,[],.bool (!(decide (jm.L=jm.L)))⟩,⟨5,[],pt d1⟩,⟨6,[],pt x2⟩,⟨7,[],pt jb⟩,⟨9,[],pt yb⟩,⟨33,[],.slice ao ops.length co⟩,⟨34,[],.int .i64 ((ops.length:Nat):Int)⟩,⟨35,[],.int .i64 ((k:Nat):Int)⟩]) 7 0 kr (fun w h=>h) kr ?_)
    refine GH_env (E':=[⟨146,[],.bool false⟩,⟨5,[],pt d1⟩,⟨6,[],pt x2⟩,⟨7,[],pt jb⟩,⟨9,[],pt yb⟩,⟨33,[],.slice ao ops.length co⟩,⟨34,[],.int .i64 ((ops.length:Nat):Int)⟩,⟨35,[],.int .i64 ((k:Nat):Int)⟩]) (by rw [show decide (jm.L=jm.L)=true from decide_eq_true rfl]; rfl) (D0 (fuel:=8) [(8,0),(9,0),(11,0)] (fun w h=>h) (k:=?_))
    refine GH_nilG (ad:=⟨yb,0,none⟩) 12 [(147,false)] rfl rfl kr kr kr kr kr kr kr (fun w h=>h) (D0 (fuel:=6) [(13,0)] (fun w h=>h) (k:=?_))
    refine A9 14 (hL:=(fun w h=>h)) (hy:=A5 (i:=14) (ch:=[(147,false)]) (b:=yb) (off:=2) (v:=.slice la jm.L.length lc) (hA:=At.grp 3 0 rfl rfl) (k:=B1 kr rfl)) (k:=B9 10 (k:=?_))
    refine I5 rfl (H':=((jAt jb d1 jm ja jc)::lg70::jr::[(yb,.cells #[pt x2,.string jm.dir,.slice la jm.L.length lc,.bool jm.down,.bool jm.there] 61 (0,0))]::lg::[(b14,.cells #[.int .i64 o.kind,.int .i64 o.n,.string o.t,.slice o.la o.l.length o.lc,.slice o.ka o.k.length o.kc] 51 (0,0))]::(s.G d1 M++(r.G x2 M++(G++H))))) (fun w h=>(h.front (j:=1) rfl)) (N1 (ch:=[(147,false)]) (f:=16) (fst:=#[]) (caps:=#[]) (vs:=[pt jb]) (hf:=Tryz.func16) (hsure:=J0 kr) (hc:=jSize jb d1 (a:=ja) (c:=jc) _ _) (k:=?_))
    rintro v H' ⟨rfl,rfl⟩
    refine A6 kr (fun w h=>((((((h.front (j:=5) rfl).front (j:=5) rfl).front (j:=5) rfl).front (j:=5) rfl).front (j:=4) rfl).front (j:=5) rfl)) (B9 15 (k:=?_))
    refine J9 (ch:=[(147,false)]) (f:=30) (fst:=#[]) (caps:=#[]) (vs:=[.slice la jm.L.length lc]) (v:=.string (A4 jm.L)) (hf:=Tryz.func30) (hc:=(fun hc=>rlines_ la lc (inG lg) jm.L (D6 hoy) (by have:=(hplJ.small (by omega)).len; omega) (by have:=hplJ.ls; omega) _ _ (C9 4 rfl))) (k:=A6 kr (fun w h=>((((((h.front (j:=5) rfl).front (j:=5) rfl).front (j:=5) rfl).front (j:=5) rfl).front (j:=4) rfl).front (j:=5) rfl)) ?_)
    refine B9 16 (k:=P9 (E':=[⟨155,[(147,false)],.int .i64 ((A4 jm.L).size:Int)⟩,⟨154,[(147,false)],.string (A4 jm.L)⟩,⟨149,[(147,false)],.int .i64 jm.size⟩,⟨153,[(147,false)],.slice la jm.L.length lc⟩,⟨152,[(147,false)],.pointer (some ⟨yb,2,none⟩)⟩,⟨151,[(147,false)],pt yb⟩,⟨150,[(147,false)],pt yb⟩,⟨148,[(147,false)],pt jb⟩,⟨147,[],.bool false⟩,⟨146,[],.bool false⟩,⟨5,[],pt d1⟩,⟨6,[],pt x2⟩,⟨7,[],pt jb⟩,⟨9,[],pt yb⟩,⟨33,[],.slice ao ops.length co⟩,⟨34,[],.int .i64 ((ops.length:Nat):Int)⟩,⟨35,[],.int .i64 ((k:Nat):Int)⟩]) [0] kr (j:=17) rfl ?_)
    refine A6 kr (fun w h=>((((((h.front (j:=5) rfl).front (j:=5) rfl).front (j:=5) rfl).front (j:=5) rfl).front (j:=4) rfl).front (j:=5) rfl)) (A1b (E':=[⟨156,[(147,false)],.bool (jm.size != ((A4 jm.L).size:Int))⟩,⟨147,[],.bool false⟩,⟨5,[],pt d1⟩,⟨6,[],pt x2⟩,⟨7,[],pt jb⟩,⟨9,[],pt yb⟩,⟨33,[],.slice ao ops.length co⟩,⟨34,[],.int .i64 ((ops.length:Nat):Int)⟩,⟨35,[],.int .i64 ((k:Nat):Int)⟩]) 17 0 kr (fun w h=>((((((h.front (j:=5) rfl).front (j:=5) rfl).front (j:=5) rfl).front (j:=5) rfl).front (j:=4) rfl).front (j:=5) rfl)) kr ?_)
    refine GH_env (E':=[⟨156,[(147,false)],.bool false⟩,⟨147,[],.bool false⟩,⟨5,[],pt d1⟩,⟨6,[],pt x2⟩,⟨7,[],pt jb⟩,⟨9,[],pt yb⟩,⟨33,[],.slice ao ops.length co⟩,⟨34,[],.int .i64 ((ops.length:Nat):Int)⟩,⟨35,[],.int .i64 ((k:Nat):Int)⟩]) (by rw [hplJ.size,show ((((A4 jm.L).size:Int)) != ((A4 jm.L).size:Int))=false from bne_self_eq_false _]) (D0 (fuel:=0) [(18,3)] (fun w h=>((((((h.front (j:=5) rfl).front (j:=5) rfl).front (j:=5) rfl).front (j:=5) rfl).front (j:=4) rfl).front (j:=5) rfl)) (k:=?_))
    refine D8 (E':=[⟨5,[],pt d1⟩,⟨6,[],pt x2⟩,⟨7,[],pt jb⟩,⟨9,[],pt yb⟩,⟨33,[],.slice ao ops.length co⟩,⟨34,[],.int .i64 ((ops.length:Nat):Int)⟩,⟨35,[],.int .i64 ((k:Nat):Int)⟩,⟨157,[],.bool false⟩]) [5,6,7,9,33,34,35,157] (k:=A0 ?_)
    refine I2 kr (B5 ?_)
    refine D5 (A0 ?_)
    refine A2 (A7 (j:=1) [0] (k:=?_))
    refine F2 158 (((k:Nat):Int)+1) (by omega) (by omega) kr (C4 [0] [5,6,7,9,33,34,35] (k:=?_))
    refine E0 (H':=((jAt jb d1 jm ja jc)::jr::[(yb,.cells #[pt x2,.string jm.dir,.slice la jm.L.length lc,.bool jm.down,.bool jm.there] 61 (0,0))]::lg::(s.G d1 M++(r.G x2 M++(G++H))))) (fun w h=>((h.erase 5).erase 1)) (E5 (s':=(k+1,jm,M,s,r,jb,ja,jc,jr,yb,la,lc,lg)) [5,6,7,9,33,34,35] kr rfl ⟨(by omega),(by dsimp only; omega),hplJ,hs,hr,hoj,hoy⟩ (by omega))
 ·
  skip
  refine G6 (A8 ?_)
  refine A8 (C7 ?_)
  refine A0 (A1 ?_)
  refine B4 (E':=[⟨4,[],.bool true⟩]) [0] [4] (k:=A0 ?_)
  refine C3 (C1 [.tmp 4] [.bool true] (k:=?_))
  exact ⟨rfl,[(jAt jb d1 jm ja jc),jr,(yAt yb x2 jm la lc),lg]++(s.G d1 M++(r.G x2 M++G)),by simp⟩
end Go.Proofs.YtlaoeiaaeifidaaGreat
namespace Go.Proofs.YtlaoeiaaeifidaaGreat
open Go Go.ChangeShapes Go.WideShapes Go.ChangeAt Go.RowKit Go.Sw Go.Vf
set_option maxRecDepth 100000 in
theorem journalPlays_lifted (os:Os) (started:os.Started) (H:Type) (enc:TypeId × Value→H) :
    ReturnsInHanded {} Tryz.checked os 4 .any (Rows.journalPlaysSpec.pre6 enc Tryz.prog Tryz.f4 Rows.journalPlaysRow.domain false) (Rows.journalPlaysSpec.post enc Tryz.prog Tryz.f4 false true false false):=by
  refine returnsInHanded_of_change (C:=Tryz.checked) ownKnob_ started (by kernel_rfl) Tryz.func4
    (ChangeSpec.witness6 (enc:=enc) (C:=Tryz.checked) false ⟨#[],#[.int .i64 0,.slice none 0 0],[]⟩ 8 (by kernel_rfl) (by kernel_rfl) (by kernel_rfl) (by kernel_rfl)) ?_
  intro W base args ds gs before hval0 hW hcnd _
  have hval:∀ (j:Nat) t v,Tryz.f4.params[j]? = some t→args[j]? = some v→Value.okWide Tryz.prog W .any base t v:=hval0
  have hW':=hW
  obtain ⟨p,q,hA0,hV,rfl,_,_⟩:=hW
  have hA:DataW.TrodAll enc Tryz.prog W 0 (fun _=>true) true Tryz.f4.params.toList args.toList ds p:=hA0
  rw [Tryz.params4] at hA hval
  obtain ⟨v0,v1,d0,d1,q0,q1,rfl,rfl,rfl,h0,h1⟩:=trodAll_two hA
  obtain ⟨rfl,rfl⟩:=trodVars_none hV
  obtain ⟨room,rfl⟩:=okWide_int Tryz.underlying3 (hval 0 3 v0 rfl rfl)
  obtain ⟨ao,co,ops,rfl,ho1,ho2,ho3,ho4⟩:=open_scriptJ (hval 1 43 v1 rfl rfl) h1
  simp only [List.append_nil] at hW'
  have hlt:∀ x∈q0++q1,x.block<W.heap.size:=fun x hx=>by simpa using hW'.lt x hx
  refine (journalPlays_ room ao co (SW W) ops W ho1 ho4 ho3 (fun y o h=>sw_at h) [] W (sat_nil W)).mono fun e W' ⟨v,H',he,⟨hv,G,hH⟩,hs⟩=>?_
  subst he; subst hv; subst hH
  have hb:=hs.below
  refine ⟨_,rfl,⟨_,_,_,[],q0++q1,[],hW',trodAll_mk1 (shut_bool Tryz.underlying4 _),?_,rfl,hb.frame _,fun h=>by cases h⟩⟩
  have k0:=Below.trod laidOut_ (by kernel_rfl) (of_decide_eq_true (by kernel_rfl)) h0 hb (fun x hx=>hlt x (by simp [hx]))
  have k1:=Below.trod laidOut_ (by kernel_rfl) (of_decide_eq_true (by kernel_rfl)) h1 hb (fun x hx=>hlt x (by simp [hx]))
  exact trodAll_mk2 k0 k1
theorem journalPlays_said:Rows.JournalPlaysSaid :=
  OpenClaim.holds_of_wide 4 Tryz.f4 rfl rfl rfl rfl rfl rfl rfl ⟨rfl,rfl,rfl,rfl,rfl⟩ rfl rfl rfl rfl rfl (by kernel_rfl) Tryz.func4 (by kernel_rfl)
    (of_decide_eq_true (by kernel_rfl)) (by unfold Func.isWrapper; first | (rw [if_pos (by decide +kernel)]; kernel_rfl) | (rw [if_neg (by decide +kernel)]; exact ⟨rfl,rfl⟩))
    (fun os started H enc _=>journalPlays_lifted os started H enc)
#print axioms journalPlays_said
end Go.Proofs.YtlaoeiaaeifidaaGreat
