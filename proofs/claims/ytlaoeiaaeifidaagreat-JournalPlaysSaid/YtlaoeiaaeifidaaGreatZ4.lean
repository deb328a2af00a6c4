/- Logs that are read: line by line; what stays small. No program is in sight. (and what it stands on) -/
import Derived.Test.YtlaoeiaaeifidaaGreatZ3
namespace Go.Proofs.YtlaoeiaaeifidaaGreat
open Go.Sw Go.Sha
theorem beginnings_  (W0:World) (H:List Grp):Tri Tryz.prog 125 #[] W0 H (fun v H'=>v=hIni.v∧H'=H):=by
 refine C8 (args:=[]) (n:=2) Tryz.func125 rfl rfl (Nat.le_of_ble_eq_true rfl) ?_
 refine A1 (A2 ?_)
 refine K5 (ch:=[]) (z:=.agg #[.int .u32 0,.int .u32 0,.int .u32 0,.int .u32 0,.int .u32 0,.int .u32 0,.int .u32 0,.int .u32 0]) (k:=(fun b1=>?_))
 refine D3 (E':=[⟨0,[],pt b1⟩]) [] [0] (k:=A0 ?_)
 refine A1 (A2 ?_)
 refine A7 (j:=1) [0] (k:=G4 (ch:=[]) (b:=b1) (off:=0) (v:=.agg #[.int .u32 1779033703,.int .u32 3144134277,.int .u32 1013904242,.int .u32 2773480762,.int .u32 1359893119,.int .u32 2600822924,.int .u32 528734635,.int .u32 1541459225]) (j:=0) ([(b1,.cells #[.int .u32 1779033703,.int .u32 3144134277,.int .u32 1013904242,.int .u32 2773480762,.int .u32 1359893119,.int .u32 2600822924,.int .u32 528734635,.int .u32 1541459225] 169 (0,0))]::H) (hoff:=Nat.le_of_ble_eq_true rfl) (hfz:=(fun _ _=>F0)) (k:=?_))
 refine D3 (E':=[⟨0,[],pt b1⟩]) [] [0] (k:=A0 ?_)
 refine C3 (N_retC [.cell 0 169] [.agg #[.int .u32 1779033703,.int .u32 3144134277,.int .u32 1013904242,.int .u32 2773480762,.int .u32 1359893119,.int .u32 2600822924,.int .u32 528734635,.int .u32 1541459225]] rfl (.cons (.agg (b:=b1) (off:=0) (l:=[.int .u32 1779033703,.int .u32 3144134277,.int .u32 1013904242,.int .u32 2773480762,.int .u32 1359893119,.int .u32 2600822924,.int .u32 528734635,.int .u32 1541459225]) kr kr kr (At.grp 0 0 rfl rfl) kr) (.nil)) rfl ⟨H,?_,fun w h=>(h.erase 0)⟩)
 exact ⟨rfl,rfl⟩
theorem rounds_  (W0:World) (H:List Grp):Tri Tryz.prog 126 #[] W0 H (fun v H'=>v=.agg Z0∧H'=H):=by
 refine C8 (args:=[]) (n:=2) Tryz.func126 rfl rfl (Nat.le_of_ble_eq_true rfl) ?_
 refine A1 (A2 ?_)
 refine K5 (ch:=[]) (z:=.agg #[.int .u32 0,.int .u32 0,.int .u32 0,.int .u32 0,.int .u32 0,.int .u32 0,.int .u32 0,.int .u32 0,.int .u32 0,.int .u32 0,.int .u32 0,.int .u32 0,.int .u32 0,.int .u32 0,.int .u32 0,.int .u32 0,.int .u32 0,.int .u32 0,.int .u32 0,.int .u32 0,.int .u32 0,.int .u32 0,.int .u32 0,.int .u32 0,.int .u32 0,.int .u32 0,.int .u32 0,.int .u32 0,.int .u32 0,.int .u32 0,.int .u32 0,.int .u32 0,.int .u32 0,.int .u32 0,.int .u32 0,.int .u32 0,.int .u32 0,.int .u32 0,.int .u32 0,.int .u32 0,.int .u32 0,.int .u32 0,.int .u32 0,.int .u32 0,.int .u32 0,.int .u32 0,.int .u32 0,.int .u32 0,.int .u32 0,.int .u32 0,.int .u32 0,.int .u32 0,.int .u32 0,.int .u32 0,.int .u32 0,.int .u32 0,.int .u32 0,.int .u32 0,.int .u32 0,.int .u32 0,.int .u32 0,.int .u32 0,.int .u32 0,.int .u32 0]) (k:=(fun b1=>?_))
 refine D3 (E':=[⟨0,[],pt b1⟩]) [] [0] (k:=A0 ?_)
 refine A1 (A2 ?_)
 refine A7 (j:=1) [0] (k:=G4 (ch:=[]) (b:=b1) (off:=0) (v:=.agg #[.int .u32 1116352408,.int .u32 1899447441,.int .u32 3049323471,.int .u32 3921009573,.int .u32 961987163,.int .u32 1508970993,.int .u32 2453635748,.int .u32 2870763221,.int .u32 3624381080,.int .u32 310598401,.int .u32 607225278,.int .u32 1426881987,.int .u32 1925078388,.int .u32 2162078206,.int .u32 2614888103,.int .u32 3248222580,.int .u32 3835390401,.int .u32 4022224774,.int .u32 264347078,.int .u32 604807628,.int .u32 770255983,.int .u32 1249150122,.int .u32 1555081692,.int .u32 1996064986,.int .u32 2554220882,.int .u32 2821834349,.int .u32 2952996808,.int .u32 3210313671,.int .u32 3336571891,.int .u32 3584528711,.int .u32 113926993,.int .u32 338241895,.int .u32 666307205,.int .u32 773529912,.int .u32 1294757372,.int .u32 1396182291,.int .u32 1695183700,.int .u32 1986661051,.int .u32 2177026350,.int .u32 2456956037,.int .u32 2730485921,.int .u32 2820302411,.int .u32 3259730800,.int .u32 3345764771,.int .u32 3516065817,.int .u32 3600352804,.int .u32 4094571909,.int .u32 275423344,.int .u32 430227734,.int .u32 506948616,.int .u32 659060556,.int .u32 883997877,.int .u32 958139571,.int .u32 1322822218,.int .u32 1537002063,.int .u32 1747873779,.int .u32 1955562222,.int .u32 2024104815,.int .u32 2227730452,.int .u32 2361852424,.int .u32 2428436474,.int .u32 2756734187,.int .u32 3204031479,.int .u32 3329325298]) (j:=0) ([(b1,.cells #[.int .u32 1116352408,.int .u32 1899447441,.int .u32 3049323471,.int .u32 3921009573,.int .u32 961987163,.int .u32 1508970993,.int .u32 2453635748,.int .u32 2870763221,.int .u32 3624381080,.int .u32 310598401,.int .u32 607225278,.int .u32 1426881987,.int .u32 1925078388,.int .u32 2162078206,.int .u32 2614888103,.int .u32 3248222580,.int .u32 3835390401,.int .u32 4022224774,.int .u32 264347078,.int .u32 604807628,.int .u32 770255983,.int .u32 1249150122,.int .u32 1555081692,.int .u32 1996064986,.int .u32 2554220882,.int .u32 2821834349,.int .u32 2952996808,.int .u32 3210313671,.int .u32 3336571891,.int .u32 3584528711,.int .u32 113926993,.int .u32 338241895,.int .u32 666307205,.int .u32 773529912,.int .u32 1294757372,.int .u32 1396182291,.int .u32 1695183700,.int .u32 1986661051,.int .u32 2177026350,.int .u32 2456956037,.int .u32 2730485921,.int .u32 2820302411,.int .u32 3259730800,.int .u32 3345764771,.int .u32 3516065817,.int .u32 3600352804,.int .u32 4094571909,.int .u32 275423344,.int .u32 430227734,.int .u32 506948616,.int .u32 659060556,.int .u32 883997877,.int .u32 958139571,.int .u32 1322822218,.int .u32 1537002063,.int .u32 1747873779,.int .u32 1955562222,.int .u32 2024104815,.int .u32 2227730452,.int .u32 2361852424,.int .u32 2428436474,.int .u32 2756734187,.int .u32 3204031479,.int .u32 3329325298] 171 (0,0))]::H) (hoff:=Nat.le_of_ble_eq_true rfl) (hfz:=(fun _ _=>F0)) (k:=?_))
 refine D3 (E':=[⟨0,[],pt b1⟩]) [] [0] (k:=A0 ?_)
 refine C3 (N_retC [.cell 0 171] [.agg #[.int .u32 1116352408,.int .u32 1899447441,.int .u32 3049323471,.int .u32 3921009573,.int .u32 961987163,.int .u32 1508970993,.int .u32 2453635748,.int .u32 2870763221,.int .u32 3624381080,.int .u32 310598401,.int .u32 607225278,.int .u32 1426881987,.int .u32 1925078388,.int .u32 2162078206,.int .u32 2614888103,.int .u32 3248222580,.int .u32 3835390401,.int .u32 4022224774,.int .u32 264347078,.int .u32 604807628,.int .u32 770255983,.int .u32 1249150122,.int .u32 1555081692,.int .u32 1996064986,.int .u32 2554220882,.int .u32 2821834349,.int .u32 2952996808,.int .u32 3210313671,.int .u32 3336571891,.int .u32 3584528711,.int .u32 113926993,.int .u32 338241895,.int .u32 666307205,.int .u32 773529912,.int .u32 1294757372,.int .u32 1396182291,.int .u32 1695183700,.int .u32 1986661051,.int .u32 2177026350,.int .u32 2456956037,.int .u32 2730485921,.int .u32 2820302411,.int .u32 3259730800,.int .u32 3345764771,.int .u32 3516065817,.int .u32 3600352804,.int .u32 4094571909,.int .u32 275423344,.int .u32 430227734,.int .u32 506948616,.int .u32 659060556,.int .u32 883997877,.int .u32 958139571,.int .u32 1322822218,.int .u32 1537002063,.int .u32 1747873779,.int .u32 1955562222,.int .u32 2024104815,.int .u32 2227730452,.int .u32 2361852424,.int .u32 2428436474,.int .u32 2756734187,.int .u32 3204031479,.int .u32 3329325298]] rfl (.cons (.agg (b:=b1) (off:=0) (l:=[.int .u32 1116352408,.int .u32 1899447441,.int .u32 3049323471,.int .u32 3921009573,.int .u32 961987163,.int .u32 1508970993,.int .u32 2453635748,.int .u32 2870763221,.int .u32 3624381080,.int .u32 310598401,.int .u32 607225278,.int .u32 1426881987,.int .u32 1925078388,.int .u32 2162078206,.int .u32 2614888103,.int .u32 3248222580,.int .u32 3835390401,.int .u32 4022224774,.int .u32 264347078,.int .u32 604807628,.int .u32 770255983,.int .u32 1249150122,.int .u32 1555081692,.int .u32 1996064986,.int .u32 2554220882,.int .u32 2821834349,.int .u32 2952996808,.int .u32 3210313671,.int .u32 3336571891,.int .u32 3584528711,.int .u32 113926993,.int .u32 338241895,.int .u32 666307205,.int .u32 773529912,.int .u32 1294757372,.int .u32 1396182291,.int .u32 1695183700,.int .u32 1986661051,.int .u32 2177026350,.int .u32 2456956037,.int .u32 2730485921,.int .u32 2820302411,.int .u32 3259730800,.int .u32 3345764771,.int .u32 3516065817,.int .u32 3600352804,.int .u32 4094571909,.int .u32 275423344,.int .u32 430227734,.int .u32 506948616,.int .u32 659060556,.int .u32 883997877,.int .u32 958139571,.int .u32 1322822218,.int .u32 1537002063,.int .u32 1747873779,.int .u32 1955562222,.int .u32 2024104815,.int .u32 2227730452,.int .u32 2361852424,.int .u32 2428436474,.int .u32 2756734187,.int .u32 3204031479,.int .u32 3329325298]) kr kr kr (At.grp 0 0 rfl rfl) kr) (.nil)) rfl ⟨H,?_,fun w h=>(h.erase 0)⟩)
 exact ⟨rfl,rfl⟩
theorem block_ (s:S8) (ba:Option Addr) (bc:Nat) (S:Nat→Obj→Prop) (l:List UInt8) (hl:l.length=64) (hrd:Rd S ba (u8s l)) (W0:World) (H:List Grp) (hS:∀ y o,S y o→At W0 H y o):Tri Tryz.prog 128 #[.agg #[.int .u32 s.a,.int .u32 s.b,.int .u32 s.c,.int .u32 s.d,.int .u32 s.e,.int .u32 s.f,.int .u32 s.g,.int .u32 s.h],.slice ba 64 bc,(.agg Z0)] W0 H (fun v H'=>v=(M0 (byt l) s).v∧H'=H):=by
 refine C8 (args:=[.agg #[.int .u32 s.a,.int .u32 s.b,.int .u32 s.c,.int .u32 s.d,.int .u32 s.e,.int .u32 s.f,.int .u32 s.g,.int .u32 s.h],.slice ba 64 bc,(.agg Z0)]) (n:=192) Tryz.func128 rfl rfl (Nat.le_of_ble_eq_true rfl) ?_
 refine A1 (A2 ?_)
 refine R3 (ch:=[]) (v:=.agg #[.int .u32 s.a,.int .u32 s.b,.int .u32 s.c,.int .u32 s.d,.int .u32 s.e,.int .u32 s.f,.int .u32 s.g,.int .u32 s.h]) (k:=(fun b1=>?_))
 refine R3 (ch:=[]) (v:=.agg Z0) (k:=(fun b2=>?_))
 refine K5 (ch:=[]) (z:=.agg #[.int .u32 0,.int .u32 0,.int .u32 0,.int .u32 0,.int .u32 0,.int .u32 0,.int .u32 0,.int .u32 0]) (k:=(fun b3=>?_))
 refine C4 [] [1,3,5,6] (k:=A0 ?_)
 refine A1 (A2 ?_)
 refine K5 (ch:=[]) (z:=.agg (Y5 (byt l) 0)) (k:=(fun b4=>?_))
 refine C4 [] [1,3,5,6,7] (k:=A0 ?_)
 refine A1 (A1 ?_)
 refine G_p [0] [1,3,5,6,7,22] (k:=A0 ?_)
 refine C5 (I8 (EI:=(fun ξ:Nat=>[⟨1,[],.slice ba 64 bc⟩,⟨3,[],pt b1⟩,⟨5,[],pt b2⟩,⟨6,[],pt b3⟩,⟨7,[],pt b4⟩,⟨22,[],.int .i64 ((ξ:Nat):Int)⟩])) (HI:=(fun ξ:Nat=>([(b4,.cells (Y5 (byt l) ξ) 171 (0,0))]::[(b3,.cells #[.int .u32 0,.int .u32 0,.int .u32 0,.int .u32 0,.int .u32 0,.int .u32 0,.int .u32 0,.int .u32 0] 169 (0,0))]::[(b2,.cells Z0 171 (0,0))]::[(b1,.cells #[.int .u32 s.a,.int .u32 s.b,.int .u32 s.c,.int .u32 s.d,.int .u32 s.e,.int .u32 s.f,.int .u32 s.g,.int .u32 s.h] 169 (0,0))]::H))) (Φ:=(fun ξ:Nat=>(ξ≤64))) (μ:=(fun ξ:Nat=>64 - ξ)) (s0:=(0)) [1,3,5,6,7,22] kr kr (by omega) ?_)
 rintro i hi
 refine A1 (G_p [0] [1,3,5,6,7,22,23] (k:=?_))
 refine A0 (A1 ?_)
 refine C6 (b:=decide (((i:Nat):Int)<64)) kr (fun hc5=>?_) (fun hc5=>?_)
 ·
  have hi2:=hc5
  rw [decide_eq_true_eq] at hi2
  refine B5 (A0 ?_)
  refine A1 (C5 ?_)
  refine A1 (G_p [0,0] [1,3,5,6,7,8,22] (k:=?_))
  refine A0 (A1 ?_)
  refine A1 (G_p [0,0] [1,3,5,6,7,8,22,26] (k:=?_))
  refine A0 (C6 (b:=decide (((i:Nat):Int)<16)) kr (fun hc6=>?_) (fun hc6=>?_))
  ·
   replace hc6:=of_decide_eq_true hc6
   refine A1 (D7 ([(b3,.cells #[.int .u32 0,.int .u32 0,.int .u32 0,.int .u32 0,.int .u32 0,.int .u32 0,.int .u32 0,.int .u32 0] 169 (0,0))]::[(b2,.cells Z0 171 (0,0))]::[(b1,.cells #[.int .u32 s.a,.int .u32 s.b,.int .u32 s.c,.int .u32 s.d,.int .u32 s.e,.int .u32 s.f,.int .u32 s.g,.int .u32 s.h] 169 (0,0))]::H) kr ?_)
   refine D0 (fuel:=32) [(0,0),(1,0),(2,0),(3,0)] (fun w h=>(h.erase 0)) (k:=O7 30 (4 * ((i:Nat):Int)) (by omega) (by omega) kr ?_)
   refine A9 4 (hL:=(fun w h=>(h.erase 0))) (hy:=B7 (i:=4) (ch:=[]) (a:=ba) (len:=64) (cap:=bc) (kd:=.i64) (j:=4 * ((i:Nat):Int)) (e:=5) (sz:=1) (S:=S) (cs:=(u8s l)) (hrd:=hrd) (hb:=(fun _=>by exact ⟨by omega,by omega,by intro h; have h2:=congrArg List.length h; simp only [u8s,List.length_map,List.length_nil] at h2; omega⟩)) (k:=B1 kr rfl)) (k:=A9 5 kr (fun w h=>(h.erase 0)) (D4 (i:=5) (ch:=[]) (a:=ba) (q:=(Int.toNat (4 * ((i:Nat):Int))) * 1) (S:=S) (cs:=(u8s l)) (v:=.int .u8 (byt l (4 * i))) rfl rfl kr kr kr kr kr hrd (fun y o h=>(At.cons (At.cons (At.cons (hS y o h))))) (fun _=>(byt_at (by omega) (by omega))) (B1 kr rfl)) ?_)
   refine D0 (fuel:=25) [(6,0),(7,0),(8,0),(9,0),(10,0)] (fun w h=>(h.erase 0)) (k:=O7 37 (4 * ((i:Nat):Int)) (by omega) (by omega) kr ?_)
   refine D0 (fuel:=24) [(11,0)] (fun w h=>(h.erase 0)) (k:=O7 38 ((4 * ((i:Nat):Int))+1) (by omega) (by omega) kr ?_)
   refine A9 12 (hL:=(fun w h=>(h.erase 0))) (hy:=B7 (i:=12) (ch:=[]) (a:=ba) (len:=64) (cap:=bc) (kd:=.i64) (j:=(4 * ((i:Nat):Int))+1) (e:=5) (sz:=1) (S:=S) (cs:=(u8s l)) (hrd:=hrd) (hb:=(fun _=>by exact ⟨by omega,by omega,by intro h; have h2:=congrArg List.length h; simp only [u8s,List.length_map,List.length_nil] at h2; omega⟩)) (k:=B1 kr rfl)) (k:=A9 13 kr (fun w h=>(h.erase 0)) (D4 (i:=13) (ch:=[]) (a:=ba) (q:=(Int.toNat ((4 * ((i:Nat):Int))+1)) * 1) (S:=S) (cs:=(u8s l)) (v:=.int .u8 (byt l (4 * i+1))) rfl rfl kr kr kr kr kr hrd (fun y o h=>(At.cons (At.cons (At.cons (hS y o h))))) (fun _=>(byt_at (by omega) (by omega))) (B1 kr rfl)) ?_)
   refine D0 (fuel:=16) [(14,0),(15,0),(16,0),(17,0),(18,0),(19,0)] (fun w h=>(h.erase 0)) (k:=O7 46 (4 * ((i:Nat):Int)) (by omega) (by omega) kr ?_)
   refine D0 (fuel:=15) [(20,0)] (fun w h=>(h.erase 0)) (k:=O7 47 ((4 * ((i:Nat):Int))+2) (by omega) (by omega) kr ?_)
   refine A9 21 (hL:=(fun w h=>(h.erase 0))) (hy:=B7 (i:=21) (ch:=[]) (a:=ba) (len:=64) (cap:=bc) (kd:=.i64) (j:=(4 * ((i:Nat):Int))+2) (e:=5) (sz:=1) (S:=S) (cs:=(u8s l)) (hrd:=hrd) (hb:=(fun _=>by exact ⟨by omega,by omega,by intro h; have h2:=congrArg List.length h; simp only [u8s,List.length_map,List.length_nil] at h2; omega⟩)) (k:=B1 kr rfl)) (k:=A9 22 kr (fun w h=>(h.erase 0)) (D4 (i:=22) (ch:=[]) (a:=ba) (q:=(Int.toNat ((4 * ((i:Nat):Int))+2)) * 1) (S:=S) (cs:=(u8s l)) (v:=.int .u8 (byt l (4 * i+2))) rfl rfl kr kr kr kr kr hrd (fun y o h=>(At.cons (At.cons (At.cons (hS y o h))))) (fun _=>(byt_at (by omega) (by omega))) (B1 kr rfl)) ?_)
   refine D0 (fuel:=7) [(23,0),(24,0),(25,0),(26,0),(27,0),(28,0)] (fun w h=>(h.erase 0)) (k:=O7 55 (4 * ((i:Nat):Int)) (by omega) (by omega) kr ?_)
   refine D0 (fuel:=6) [(29,0)] (fun w h=>(h.erase 0)) (k:=O7 56 ((4 * ((i:Nat):Int))+3) (by omega) (by omega) kr ?_)
   refine A9 30 (hL:=(fun w h=>(h.erase 0))) (hy:=B7 (i:=30) (ch:=[]) (a:=ba) (len:=64) (cap:=bc) (kd:=.i64) (j:=(4 * ((i:Nat):Int))+3) (e:=5) (sz:=1) (S:=S) (cs:=(u8s l)) (hrd:=hrd) (hb:=(fun _=>by exact ⟨by omega,by omega,by intro h; have h2:=congrArg List.length h; simp only [u8s,List.length_map,List.length_nil] at h2; omega⟩)) (k:=B1 kr rfl)) (k:=A9 31 kr (fun w h=>(h.erase 0)) (D4 (i:=31) (ch:=[]) (a:=ba) (q:=(Int.toNat ((4 * ((i:Nat):Int))+3)) * 1) (S:=S) (cs:=(u8s l)) (v:=.int .u8 (byt l (4 * i+3))) rfl rfl kr kr kr kr kr hrd (fun y o h=>(At.cons (At.cons (At.cons (hS y o h))))) (fun _=>(byt_at (by omega) (by omega))) (B1 kr rfl)) ?_)
   refine D0 (fuel:=2) [(32,0),(33,0)] (fun w h=>(h.erase 0)) (k:=A9 34 (hL:=(fun w h=>(h.erase 0))) (hy:=E2 (i:=34) (ch:=[]) (b:=b4) (off:=0) (len:=64) (sz:=1) (e:=144) (kd:=.i64) (j:=((i:Nat):Int)) (hb:=(fun _=>by exact ⟨by omega,by omega⟩)) (k:=B1 kr rfl)) (k:=?_))
   refine B9 35 (k:=M7 (ch:=[]) (b:=b4) (off:=0+Int.toNat ((i:Nat):Int) * 1) (v:=.int .u32 (IntKind.wrap .u32 ((BitVec.ofInt (IntKind.bits .u32) (IntKind.wrap .u32 ((BitVec.ofInt (IntKind.bits .u32) (IntKind.wrap .u32 ((BitVec.ofInt (IntKind.bits .u32) (IntKind.wrap .u32 ((IntKind.wrap .u32 (byt l (4 * i))) * 2 ^ 24)) ||| BitVec.ofInt (IntKind.bits .u32) (IntKind.wrap .u32 ((IntKind.wrap .u32 (byt l (4 * i+1))) * 2 ^ 16))).toNat)) ||| BitVec.ofInt (IntKind.bits .u32) (IntKind.wrap .u32 ((IntKind.wrap .u32 (byt l (4 * i+2))) * 2 ^ 8))).toNat)) ||| BitVec.ofInt (IntKind.bits .u32) (IntKind.wrap .u32 (byt l (4 * i+3)))).toNat))) (c:=(Y5 (byt l) i)) (c':=(Y5 (byt l) (i+1))) (j:=0) (m:=0) (H':=([(b4,.cells (Y5 (byt l) (i+1)) 171 (0,0))]::[(b3,.cells #[.int .u32 0,.int .u32 0,.int .u32 0,.int .u32 0,.int .u32 0,.int .u32 0,.int .u32 0,.int .u32 0] 169 (0,0))]::[(b2,.cells Z0 171 (0,0))]::[(b1,.cells #[.int .u32 s.a,.int .u32 s.b,.int .u32 s.c,.int .u32 s.d,.int .u32 s.e,.int .u32 s.f,.int .u32 s.g,.int .u32 s.h] 169 (0,0))]::H)) (hoff:=(by rw [wArr_size _ (by omega)]; show 0+Int.toNat _ * 1+1≤64; omega)) (hfz:=(fun _ _=>F0)) (hc':=wArr_set (byt l) (q:=((i:Nat):Int)) (by omega) (by omega) (by rw [if_pos (by omega)] <;> rfl)) (k:=?_))
   refine A6 kr (fun w h=>(h.erase 0)) (D8 (E':=[⟨1,[],.slice ba 64 bc⟩,⟨3,[],pt b1⟩,⟨5,[],pt b2⟩,⟨6,[],pt b3⟩,⟨7,[],pt b4⟩,⟨22,[],.int .i64 ((i:Nat):Int)⟩]) [1,3,5,6,7,22] (k:=?_))
   refine A0 (G6 ?_)
   refine A8 (C7 ?_)
   refine A0 (A2 ?_)
   refine A7 (j:=1) [0] (k:=F2 101 (((i:Nat):Int)+1) (by omega) (by omega) kr ?_)
   refine C4 [0] [1,3,5,6,7,22] (k:=E5 (s':=(i+1)) [1,3,5,6,7,22] kr rfl (by omega) (by omega))
  ·
   replace hc6:=of_decide_eq_false hc6
   refine B5 (A0 ?_)
   refine A1 (K4 (k:=?_))
   refine A7 (j:=2) [0,0] (k:=F2 63 (((i:Nat):Int) - 15) (by omega) (by omega) kr ?_)
   refine E2 (ch:=[]) (b:=b4) (off:=0) (len:=64) (sz:=1) (e:=144) (kd:=.i64) (j:=((i:Nat):Int) - 15) (hb:=(fun _=>by exact ⟨by omega,by omega⟩)) (k:=A5 (ch:=[]) (b:=b4) (off:=0+Int.toNat (((i:Nat):Int) - 15) * 1) (v:=.int .u32 ((F7 (byt l) i).getD (i - 15) 0)) (hA:=At.grp 0 0 rfl rfl) (hv:=wArr_at (byt l) (q:=(((i:Nat):Int) - 15)) (j:=i - 15) (by omega) (by omega)) (k:=?_))
   refine A7 (j:=6) [0,0] (k:=F2 67 (((i:Nat):Int) - 2) (by omega) (by omega) kr ?_)
   refine E2 (ch:=[]) (b:=b4) (off:=0) (len:=64) (sz:=1) (e:=144) (kd:=.i64) (j:=((i:Nat):Int) - 2) (hb:=(fun _=>by exact ⟨by omega,by omega⟩)) (k:=A5 (ch:=[]) (b:=b4) (off:=0+Int.toNat (((i:Nat):Int) - 2) * 1) (v:=.int .u32 ((F7 (byt l) i).getD (i - 2) 0)) (hA:=At.grp 0 0 rfl rfl) (hv:=wArr_at (byt l) (q:=(((i:Nat):Int) - 2)) (j:=i - 2) (by omega) (by omega)) (k:=?_))
   refine C4 [0,0] [1,3,5,6,7,8,9,10,22] (k:=A0 ?_)
   refine A1 (A2 ?_)
   refine A7 (j:=1) [0] (k:=F6 Tryz.func140 (rot7 ((F7 (byt l) i).getD (i - 15) 0) _ _) ?_)
   refine A7 (j:=3) [0] (k:=F6 Tryz.func140 (rot18 ((F7 (byt l) i).getD (i - 15) 0) _ _) ?_)
   refine D3 (E':=[⟨1,[],.slice ba 64 bc⟩,⟨3,[],pt b1⟩,⟨5,[],pt b2⟩,⟨6,[],pt b3⟩,⟨7,[],pt b4⟩,⟨8,[],.int .i64 ((i:Nat):Int)⟩,⟨10,[],.int .u32 ((F7 (byt l) i).getD (i - 2) 0)⟩,⟨11,[],.int .u32 (IntKind.wrap .u32 ((BitVec.ofInt (IntKind.bits .u32) (IntKind.wrap .u32 ((BitVec.ofInt (IntKind.bits .u32) (V8 ((F7 (byt l) i).getD (i - 15) 0) 7) ^^^ BitVec.ofInt (IntKind.bits .u32) (V8 ((F7 (byt l) i).getD (i - 15) 0) 18)).toNat)) ^^^ BitVec.ofInt (IntKind.bits .u32) (Int.fdiv ((F7 (byt l) i).getD (i - 15) 0) (2 ^ 3))).toNat))⟩,⟨22,[],.int .i64 ((i:Nat):Int)⟩]) [0,0,0,0,0] [1,3,5,6,7,8,10,11,22] (k:=H8 (E':=[⟨1,[],.slice ba 64 bc⟩,⟨3,[],pt b1⟩,⟨5,[],pt b2⟩,⟨6,[],pt b3⟩,⟨7,[],pt b4⟩,⟨8,[],.int .i64 ((i:Nat):Int)⟩,⟨10,[],.int .u32 ((F7 (byt l) i).getD (i - 2) 0)⟩,⟨11,[],.int .u32 (sg0 ((F7 (byt l) i).getD (i - 15) 0))⟩,⟨22,[],.int .i64 ((i:Nat):Int)⟩]) kr ?_)
   refine A0 (A1 ?_)
   refine A2 (A7 (j:=1) [0] (k:=?_))
   refine F6 Tryz.func140 (rot17 ((F7 (byt l) i).getD (i - 2) 0) _ _) (A7 (j:=3) [0] (k:=?_))
   refine F6 Tryz.func140 (rot19 ((F7 (byt l) i).getD (i - 2) 0) _ _) (D3 (E':=[⟨1,[],.slice ba 64 bc⟩,⟨3,[],pt b1⟩,⟨5,[],pt b2⟩,⟨6,[],pt b3⟩,⟨7,[],pt b4⟩,⟨8,[],.int .i64 ((i:Nat):Int)⟩,⟨11,[],.int .u32 (sg0 ((F7 (byt l) i).getD (i - 15) 0))⟩,⟨12,[],.int .u32 (IntKind.wrap .u32 ((BitVec.ofInt (IntKind.bits .u32) (IntKind.wrap .u32 ((BitVec.ofInt (IntKind.bits .u32) (V8 ((F7 (byt l) i).getD (i - 2) 0) 17) ^^^ BitVec.ofInt (IntKind.bits .u32) (V8 ((F7 (byt l) i).getD (i - 2) 0) 19)).toNat)) ^^^ BitVec.ofInt (IntKind.bits .u32) (Int.fdiv ((F7 (byt l) i).getD (i - 2) 0) (2 ^ 10))).toNat))⟩,⟨22,[],.int .i64 ((i:Nat):Int)⟩]) [0,0,0,0,0] [1,3,5,6,7,8,11,12,22] (k:=?_))
   refine H8 (E':=[⟨1,[],.slice ba 64 bc⟩,⟨3,[],pt b1⟩,⟨5,[],pt b2⟩,⟨6,[],pt b3⟩,⟨7,[],pt b4⟩,⟨8,[],.int .i64 ((i:Nat):Int)⟩,⟨11,[],.int .u32 (sg0 ((F7 (byt l) i).getD (i - 15) 0))⟩,⟨12,[],.int .u32 (sg1 ((F7 (byt l) i).getD (i - 2) 0))⟩,⟨22,[],.int .i64 ((i:Nat):Int)⟩]) kr (A0 ?_)
   refine D7 ([(b3,.cells #[.int .u32 0,.int .u32 0,.int .u32 0,.int .u32 0,.int .u32 0,.int .u32 0,.int .u32 0,.int .u32 0] 169 (0,0))]::[(b2,.cells Z0 171 (0,0))]::[(b1,.cells #[.int .u32 s.a,.int .u32 s.b,.int .u32 s.c,.int .u32 s.d,.int .u32 s.e,.int .u32 s.f,.int .u32 s.g,.int .u32 s.h] 169 (0,0))]::H) kr (D0 (fuel:=13) [(0,0),(1,0),(2,0)] (fun w h=>(h.erase 0)) (k:=?_))
   refine O7 88 (((i:Nat):Int) - 16) (by omega) (by omega) kr (A9 3 (hL:=(fun w h=>(h.erase 0))) (hy:=E2 (i:=3) (ch:=[]) (b:=b4) (off:=0) (len:=64) (sz:=1) (e:=144) (kd:=.i64) (j:=((i:Nat):Int) - 16) (hb:=(fun _=>by exact ⟨by omega,by omega⟩)) (k:=B1 kr rfl)) (k:=?_))
   refine D0 (fuel:=9) [(5,0),(7,0),(8,0)] (fun w h=>(h.erase 0)) (k:=O7 94 (((i:Nat):Int) - 7) (by omega) (by omega) kr ?_)
   refine A9 9 (hL:=(fun w h=>(h.erase 0))) (hy:=E2 (i:=9) (ch:=[]) (b:=b4) (off:=0) (len:=64) (sz:=1) (e:=144) (kd:=.i64) (j:=((i:Nat):Int) - 7) (hb:=(fun _=>by exact ⟨by omega,by omega⟩)) (k:=B1 kr rfl)) (k:=D0 (fuel:=7) [(12,0)] (fun w h=>(h.erase 0)) (k:=?_))
   refine O0 4 10 (k:=?_) (k':=?_)
   ·
    refine A5 (ch:=[]) (b:=b4) (off:=0+Int.toNat (((i:Nat):Int) - 16) * 1) (v:=.int .u32 ((F7 (byt l) i).getD (i - 16) 0)) (hA:=At.grp 0 0 rfl rfl) (hv:=wArr_at (byt l) (q:=(((i:Nat):Int) - 16)) (j:=i - 16) (by omega) (by omega)) (k:=A6 kr (fun w h=>(h.erase 0)) ?_)
    refine D0 (fuel:=5) [(6,0)] (fun w h=>(h.erase 0)) (k:=B9 10 (k:=?_))
    refine A5 (ch:=[]) (b:=b4) (off:=0+Int.toNat (((i:Nat):Int) - 7) * 1) (v:=.int .u32 ((F7 (byt l) i).getD (i - 7) 0)) (hA:=At.grp 0 0 rfl rfl) (hv:=wArr_at (byt l) (q:=(((i:Nat):Int) - 7)) (j:=i - 7) (by omega) (by omega)) (k:=A6 kr (fun w h=>(h.erase 0)) ?_)
    refine D0 (fuel:=2) [(11,0),(13,0)] (fun w h=>(h.erase 0)) (k:=A9 14 (hL:=(fun w h=>(h.erase 0))) (hy:=E2 (i:=14) (ch:=[]) (b:=b4) (off:=0) (len:=64) (sz:=1) (e:=144) (kd:=.i64) (j:=((i:Nat):Int)) (hb:=(fun _=>by exact ⟨by omega,by omega⟩)) (k:=B1 kr rfl)) (k:=?_))
    refine B9 15 (k:=M7 (ch:=[]) (b:=b4) (off:=0+Int.toNat ((i:Nat):Int) * 1) (v:=.int .u32 (IntKind.wrap .u32 ((IntKind.wrap .u32 ((IntKind.wrap .u32 (((F7 (byt l) i).getD (i - 16) 0)+(sg0 ((F7 (byt l) i).getD (i - 15) 0))))+((F7 (byt l) i).getD (i - 7) 0)))+(sg1 ((F7 (byt l) i).getD (i - 2) 0))))) (c:=(Y5 (byt l) i)) (c':=(Y5 (byt l) (i+1))) (j:=0) (m:=0) (H':=([(b4,.cells (Y5 (byt l) (i+1)) 171 (0,0))]::[(b3,.cells #[.int .u32 0,.int .u32 0,.int .u32 0,.int .u32 0,.int .u32 0,.int .u32 0,.int .u32 0,.int .u32 0] 169 (0,0))]::[(b2,.cells Z0 171 (0,0))]::[(b1,.cells #[.int .u32 s.a,.int .u32 s.b,.int .u32 s.c,.int .u32 s.d,.int .u32 s.e,.int .u32 s.f,.int .u32 s.g,.int .u32 s.h] 169 (0,0))]::H)) (hoff:=(by rw [wArr_size _ (by omega)]; show 0+Int.toNat _ * 1+1≤64; omega)) (hfz:=(fun _ _=>F0)) (hc':=wArr_set (byt l) (q:=((i:Nat):Int)) (by omega) (by omega) (by rw [if_neg (by omega)] <;> rfl)) (k:=?_))
    refine A6 kr (fun w h=>(h.erase 0)) (D8 (E':=[⟨1,[],.slice ba 64 bc⟩,⟨3,[],pt b1⟩,⟨5,[],pt b2⟩,⟨6,[],pt b3⟩,⟨7,[],pt b4⟩,⟨22,[],.int .i64 ((i:Nat):Int)⟩]) [1,3,5,6,7,22] (k:=?_))
    refine D5 (A0 ?_)
    refine A2 (A7 (j:=1) [0] (k:=?_))
    refine F2 101 (((i:Nat):Int)+1) (by omega) (by omega) kr (C4 [0] [1,3,5,6,7,22] (k:=?_))
    refine E5 (s':=(i+1)) [1,3,5,6,7,22] kr rfl (by omega) (by omega)
   ·
    refine A5 (ch:=[]) (b:=b4) (off:=0+Int.toNat (((i:Nat):Int) - 7) * 1) (v:=.int .u32 ((F7 (byt l) i).getD (i - 7) 0)) (hA:=At.grp 0 0 rfl rfl) (hv:=wArr_at (byt l) (q:=(((i:Nat):Int) - 7)) (j:=i - 7) (by omega) (by omega)) (k:=A6 kr (fun w h=>(h.erase 0)) ?_)
    refine B9 4 (k:=A5 (ch:=[]) (b:=b4) (off:=0+Int.toNat (((i:Nat):Int) - 16) * 1) (v:=.int .u32 ((F7 (byt l) i).getD (i - 16) 0)) (hA:=At.grp 0 0 rfl rfl) (hv:=wArr_at (byt l) (q:=(((i:Nat):Int) - 16)) (j:=i - 16) (by omega) (by omega)) (k:=?_))
    refine A6 kr (fun w h=>(h.erase 0)) (D0 (fuel:=2) [(6,0),(11,0),(13,0)] (fun w h=>(h.erase 0)) (k:=?_))
    refine A9 14 (hL:=(fun w h=>(h.erase 0))) (hy:=E2 (i:=14) (ch:=[]) (b:=b4) (off:=0) (len:=64) (sz:=1) (e:=144) (kd:=.i64) (j:=((i:Nat):Int)) (hb:=(fun _=>by exact ⟨by omega,by omega⟩)) (k:=B1 kr rfl)) (k:=B9 15 (k:=?_))
    refine M7 (ch:=[]) (b:=b4) (off:=0+Int.toNat ((i:Nat):Int) * 1) (v:=.int .u32 (IntKind.wrap .u32 ((IntKind.wrap .u32 ((IntKind.wrap .u32 (((F7 (byt l) i).getD (i - 16) 0)+(sg0 ((F7 (byt l) i).getD (i - 15) 0))))+((F7 (byt l) i).getD (i - 7) 0)))+(sg1 ((F7 (byt l) i).getD (i - 2) 0))))) (c:=(Y5 (byt l) i)) (c':=(Y5 (byt l) (i+1))) (j:=0) (m:=0) (H':=([(b4,.cells (Y5 (byt l) (i+1)) 171 (0,0))]::[(b3,.cells #[.int .u32 0,.int .u32 0,.int .u32 0,.int .u32 0,.int .u32 0,.int .u32 0,.int .u32 0,.int .u32 0] 169 (0,0))]::[(b2,.cells Z0 171 (0,0))]::[(b1,.cells #[.int .u32 s.a,.int .u32 s.b,.int .u32 s.c,.int .u32 s.d,.int .u32 s.e,.int .u32 s.f,.int .u32 s.g,.int .u32 s.h] 169 (0,0))]::H)) (hoff:=(by rw [wArr_size _ (by omega)]; show 0+Int.toNat _ * 1+1≤64; omega)) (hfz:=(fun _ _=>F0)) (hc':=wArr_set (byt l) (q:=((i:Nat):Int)) (by omega) (by omega) (by rw [if_neg (by omega)] <;> rfl)) (k:=A6 kr (fun w h=>(h.erase 0)) ?_)
    refine D8 (E':=[⟨1,[],.slice ba 64 bc⟩,⟨3,[],pt b1⟩,⟨5,[],pt b2⟩,⟨6,[],pt b3⟩,⟨7,[],pt b4⟩,⟨22,[],.int .i64 ((i:Nat):Int)⟩]) [1,3,5,6,7,22] (k:=D5 ?_)
    refine A0 (A2 ?_)
    refine A7 (j:=1) [0] (k:=F2 101 (((i:Nat):Int)+1) (by omega) (by omega) kr ?_)
    refine C4 [0] [1,3,5,6,7,22] (k:=E5 (s':=(i+1)) [1,3,5,6,7,22] kr rfl (by omega) (by omega))
 ·
  have hi2:i=64:=by (have h9:=of_decide_eq_false hc5; omega)
  refine G6 (A8 ?_)
  refine A8 (C7 ?_)
  refine A0 (A1 ?_)
  refine A2 (P8 (ch:=[]) (b:=b1) (off:=0) (l:=[.int .u32 s.a,.int .u32 s.b,.int .u32 s.c,.int .u32 s.d,.int .u32 s.e,.int .u32 s.f,.int .u32 s.g,.int .u32 s.h]) (hA:=At.grp 3 0 rfl rfl) (k:=?_))
  refine K5 (ch:=[]) (z:=.agg #[.int .u32 0,.int .u32 0,.int .u32 0,.int .u32 0,.int .u32 0,.int .u32 0,.int .u32 0,.int .u32 0]) (k:=(fun b21=>?_))
  refine G4 (ch:=[]) (b:=b21) (off:=0) (v:=.agg #[.int .u32 s.a,.int .u32 s.b,.int .u32 s.c,.int .u32 s.d,.int .u32 s.e,.int .u32 s.f,.int .u32 s.g,.int .u32 s.h]) (j:=0) ([(b21,.cells #[.int .u32 s.a,.int .u32 s.b,.int .u32 s.c,.int .u32 s.d,.int .u32 s.e,.int .u32 s.f,.int .u32 s.g,.int .u32 s.h] 169 (0,0))]::[(b4,.cells (Y5 (byt l) i) 171 (0,0))]::[(b3,.cells #[.int .u32 0,.int .u32 0,.int .u32 0,.int .u32 0,.int .u32 0,.int .u32 0,.int .u32 0,.int .u32 0] 169 (0,0))]::[(b2,.cells Z0 171 (0,0))]::[(b1,.cells #[.int .u32 s.a,.int .u32 s.b,.int .u32 s.c,.int .u32 s.d,.int .u32 s.e,.int .u32 s.f,.int .u32 s.g,.int .u32 s.h] 169 (0,0))]::H) (hoff:=Nat.le_of_ble_eq_true rfl) (hfz:=(fun _ _=>F0)) (k:=C4 [] [3,5,6,7,13] (k:=?_))
  refine A0 (A1 ?_)
  refine A1 (G_p [0] [3,5,6,7,13,103] (k:=?_))
  refine A0 (C5 ?_)
  refine I8 (EI:=(fun ξ:Nat × S8=>[⟨3,[],pt b1⟩,⟨5,[],pt b2⟩,⟨6,[],pt b3⟩,⟨7,[],pt b4⟩,⟨13,[],pt b21⟩,⟨103,[],.int .i64 ((ξ.1:Nat):Int)⟩])) (HI:=(fun ξ:Nat × S8=>([(b21,.cells #[.int .u32 ξ.2.a,.int .u32 ξ.2.b,.int .u32 ξ.2.c,.int .u32 ξ.2.d,.int .u32 ξ.2.e,.int .u32 ξ.2.f,.int .u32 ξ.2.g,.int .u32 ξ.2.h] 169 (0,0))]::[(b4,.cells (Y5 (byt l) 64) 171 (0,0))]::[(b3,.cells #[.int .u32 0,.int .u32 0,.int .u32 0,.int .u32 0,.int .u32 0,.int .u32 0,.int .u32 0,.int .u32 0] 169 (0,0))]::[(b2,.cells Z0 171 (0,0))]::[(b1,.cells #[.int .u32 s.a,.int .u32 s.b,.int .u32 s.c,.int .u32 s.d,.int .u32 s.e,.int .u32 s.f,.int .u32 s.g,.int .u32 s.h] 169 (0,0))]::H))) (Φ:=(fun ξ:Nat × S8=>(ξ.1≤64)∧(ξ.2=rnds kAt (wAt (byt l)) s ξ.1))) (μ:=(fun ξ:Nat × S8=>64 - ξ.1)) (s0:=(0,s)) [3,5,6,7,13,103] kr (by rw [hi2] <;> kernel_rfl) ⟨(Nat.zero_le _),rfl⟩ ?_
  rintro ⟨i,sv⟩ ⟨hi,hsv⟩
  dsimp only at hi hsv
  refine A1 (G_p [0] [3,5,6,7,13,103,104] (k:=?_))
  refine A0 (A1 ?_)
  refine C6 (b:=decide (((i:Nat):Int)<64)) kr (fun hc22=>?_) (fun hc22=>?_)
  ·
   replace hc22:=of_decide_eq_true hc22
   refine B5 (A0 ?_)
   refine A1 (C5 ?_)
   refine A1 (G_p [0,0] [3,5,6,7,13,14,103] (k:=?_))
   refine A0 (A1 ?_)
   refine K4 (k:=E2 (ch:=[]) (b:=b21) (off:=0) (len:=8) (sz:=1) (e:=144) (kd:=.i64) (j:=4) (hb:=(fun _=>⟨by decide,by decide⟩)) (k:=?_))
   refine A5 (ch:=[]) (b:=b21) (off:=4) (v:=.int .u32 sv.e) (hA:=At.grp 0 0 rfl rfl) (k:=E2 (ch:=[]) (b:=b21) (off:=0) (len:=8) (sz:=1) (e:=144) (kd:=.i64) (j:=0) (hb:=(fun _=>⟨by decide,by decide⟩)) (k:=?_))
   refine A5 (ch:=[]) (b:=b21) (off:=0) (v:=.int .u32 sv.a) (hA:=At.grp 0 0 rfl rfl) (k:=C4 [0,0] [3,5,6,7,13,14,15,16,103] (k:=?_))
   refine A0 (A1 ?_)
   refine A2 (A7 (j:=1) [0] (k:=?_))
   refine F6 Tryz.func140 (rot6 sv.e _ _) (A7 (j:=3) [0] (k:=?_))
   refine F6 Tryz.func140 (rot11 sv.e _ _) (A7 (j:=6) [0,0] (k:=?_))
   refine F6 Tryz.func140 (rot25 sv.e _ _) (D3 (E':=[⟨3,[],pt b1⟩,⟨5,[],pt b2⟩,⟨6,[],pt b3⟩,⟨7,[],pt b4⟩,⟨13,[],pt b21⟩,⟨14,[],.int .i64 ((i:Nat):Int)⟩,⟨15,[],.int .u32 sv.e⟩,⟨16,[],.int .u32 sv.a⟩,⟨17,[],.int .u32 (IntKind.wrap .u32 ((BitVec.ofInt (IntKind.bits .u32) (IntKind.wrap .u32 ((BitVec.ofInt (IntKind.bits .u32) (V8 sv.e 6) ^^^ BitVec.ofInt (IntKind.bits .u32) (V8 sv.e 11)).toNat)) ^^^ BitVec.ofInt (IntKind.bits .u32) (V8 sv.e 25)).toNat))⟩,⟨103,[],.int .i64 ((i:Nat):Int)⟩]) [0,0] [3,5,6,7,13,14,15,16,17,103] (k:=?_))
   refine H8 (E':=[⟨3,[],pt b1⟩,⟨5,[],pt b2⟩,⟨6,[],pt b3⟩,⟨7,[],pt b4⟩,⟨13,[],pt b21⟩,⟨14,[],.int .i64 ((i:Nat):Int)⟩,⟨15,[],.int .u32 sv.e⟩,⟨16,[],.int .u32 sv.a⟩,⟨17,[],.int .u32 (bs1 sv.e)⟩,⟨103,[],.int .i64 ((i:Nat):Int)⟩]) kr (A0 ?_)
   refine A1 (K4 (k:=?_))
   refine E2 (ch:=[]) (b:=b21) (off:=0) (len:=8) (sz:=1) (e:=144) (kd:=.i64) (j:=7) (hb:=(fun _=>⟨by decide,by decide⟩)) (k:=A5 (ch:=[]) (b:=b21) (off:=7) (v:=.int .u32 sv.h) (hA:=At.grp 0 0 rfl rfl) (k:=?_))
   refine A7 (j:=5) [0,0,0] (k:=E2 (ch:=[]) (b:=b21) (off:=0) (len:=8) (sz:=1) (e:=144) (kd:=.i64) (j:=5) (hb:=(fun _=>⟨by decide,by decide⟩)) (k:=?_))
   refine A5 (ch:=[]) (b:=b21) (off:=5) (v:=.int .u32 sv.f) (hA:=At.grp 0 0 rfl rfl) (k:=A7 (j:=10) [0,0,0] (k:=?_))
   refine E2 (ch:=[]) (b:=b21) (off:=0) (len:=8) (sz:=1) (e:=144) (kd:=.i64) (j:=6) (hb:=(fun _=>⟨by decide,by decide⟩)) (k:=A5 (ch:=[]) (b:=b21) (off:=6) (v:=.int .u32 sv.g) (hA:=At.grp 0 0 rfl rfl) (k:=?_))
   refine A7 (j:=16) [0,0,0,0] (k:=E2 (ch:=[]) (b:=b2) (off:=0) (len:=64) (sz:=1) (e:=144) (kd:=.i64) (j:=((i:Nat):Int)) (hb:=(fun _=>by exact ⟨by omega,by omega⟩)) (k:=?_))
   refine A5 (ch:=[]) (b:=b2) (off:=0+Int.toNat ((i:Nat):Int) * 1) (v:=.int .u32 (kAt i)) (hA:=At.grp 3 0 rfl rfl) (hv:=kArr_at (q:=((i:Nat):Int)) (j:=i) (by omega) (by omega)) (k:=A7 (j:=20) [0,0] (k:=?_))
   refine E2 (ch:=[]) (b:=b4) (off:=0) (len:=64) (sz:=1) (e:=144) (kd:=.i64) (j:=((i:Nat):Int)) (hb:=(fun _=>by exact ⟨by omega,by omega⟩)) (k:=A5 (ch:=[]) (b:=b4) (off:=0+Int.toNat ((i:Nat):Int) * 1) (v:=.int .u32 (wAt (byt l) i)) (hA:=At.grp 1 0 rfl rfl) (hv:=wArr_at (byt l) (q:=((i:Nat):Int)) (j:=i) (by omega) (by omega)) (k:=?_))
   refine D3 (E':=[⟨3,[],pt b1⟩,⟨5,[],pt b2⟩,⟨6,[],pt b3⟩,⟨7,[],pt b4⟩,⟨13,[],pt b21⟩,⟨16,[],.int .u32 sv.a⟩,⟨18,[],.int .u32 (IntKind.wrap .u32 ((IntKind.wrap .u32 ((IntKind.wrap .u32 ((IntKind.wrap .u32 (sv.h+(bs1 sv.e)))+(IntKind.wrap .u32 ((BitVec.ofInt (IntKind.bits .u32) (IntKind.wrap .u32 ((BitVec.ofInt (IntKind.bits .u32) sv.e &&& BitVec.ofInt (IntKind.bits .u32) sv.f).toNat)) ^^^ BitVec.ofInt (IntKind.bits .u32) (IntKind.wrap .u32 ((BitVec.ofInt (IntKind.bits .u32) (IntKind.wrap .u32 ((BitVec.ofInt (IntKind.bits .u32) 4294967295 ^^^ BitVec.ofInt (IntKind.bits .u32) sv.e).toNat)) &&& BitVec.ofInt (IntKind.bits .u32) sv.g).toNat))).toNat))))+(kAt i)))+(wAt (byt l) i)))⟩,⟨103,[],.int .i64 ((i:Nat):Int)⟩]) [0,0] [3,5,6,7,13,16,18,103] (k:=H8 (E':=[⟨3,[],pt b1⟩,⟨5,[],pt b2⟩,⟨6,[],pt b3⟩,⟨7,[],pt b4⟩,⟨13,[],pt b21⟩,⟨16,[],.int .u32 sv.a⟩,⟨18,[],.int .u32 (t1P (kAt i) (wAt (byt l) i) sv)⟩,⟨103,[],.int .i64 ((i:Nat):Int)⟩]) kr ?_)
   refine A0 (A1 ?_)
   refine A2 (A7 (j:=1) [0] (k:=?_))
   refine F6 Tryz.func140 (rot2 sv.a _ _) (A7 (j:=3) [0] (k:=?_))
   refine F6 Tryz.func140 (rot13 sv.a _ _) (A7 (j:=6) [0,0] (k:=?_))
   refine F6 Tryz.func140 (rot22 sv.a _ _) (D3 (E':=[⟨3,[],pt b1⟩,⟨5,[],pt b2⟩,⟨6,[],pt b3⟩,⟨7,[],pt b4⟩,⟨13,[],pt b21⟩,⟨16,[],.int .u32 sv.a⟩,⟨18,[],.int .u32 (t1P (kAt i) (wAt (byt l) i) sv)⟩,⟨19,[],.int .u32 (IntKind.wrap .u32 ((BitVec.ofInt (IntKind.bits .u32) (IntKind.wrap .u32 ((BitVec.ofInt (IntKind.bits .u32) (V8 sv.a 2) ^^^ BitVec.ofInt (IntKind.bits .u32) (V8 sv.a 13)).toNat)) ^^^ BitVec.ofInt (IntKind.bits .u32) (V8 sv.a 22)).toNat))⟩,⟨103,[],.int .i64 ((i:Nat):Int)⟩]) [0,0] [3,5,6,7,13,16,18,19,103] (k:=?_))
   refine H8 (E':=[⟨3,[],pt b1⟩,⟨5,[],pt b2⟩,⟨6,[],pt b3⟩,⟨7,[],pt b4⟩,⟨13,[],pt b21⟩,⟨16,[],.int .u32 sv.a⟩,⟨18,[],.int .u32 (t1P (kAt i) (wAt (byt l) i) sv)⟩,⟨19,[],.int .u32 (bs0 sv.a)⟩,⟨103,[],.int .i64 ((i:Nat):Int)⟩]) kr (A0 ?_)
   refine A1 (A2 ?_)
   refine A7 (j:=2) [0,0] (k:=E2 (ch:=[]) (b:=b21) (off:=0) (len:=8) (sz:=1) (e:=144) (kd:=.i64) (j:=1) (hb:=(fun _=>⟨by decide,by decide⟩)) (k:=?_))
   refine A5 (ch:=[]) (b:=b21) (off:=1) (v:=.int .u32 sv.b) (hA:=At.grp 0 0 rfl rfl) (k:=A7 (j:=6) [0,0] (k:=?_))
   refine E2 (ch:=[]) (b:=b21) (off:=0) (len:=8) (sz:=1) (e:=144) (kd:=.i64) (j:=2) (hb:=(fun _=>⟨by decide,by decide⟩)) (k:=A5 (ch:=[]) (b:=b21) (off:=2) (v:=.int .u32 sv.c) (hA:=At.grp 0 0 rfl rfl) (k:=?_))
   refine A7 (j:=10) [0,0] (k:=E2 (ch:=[]) (b:=b21) (off:=0) (len:=8) (sz:=1) (e:=144) (kd:=.i64) (j:=1) (hb:=(fun _=>⟨by decide,by decide⟩)) (k:=?_))
   refine A5 (ch:=[]) (b:=b21) (off:=1) (v:=.int .u32 sv.b) (hA:=At.grp 0 0 rfl rfl) (k:=E2 (ch:=[]) (b:=b21) (off:=0) (len:=8) (sz:=1) (e:=144) (kd:=.i64) (j:=2) (hb:=(fun _=>⟨by decide,by decide⟩)) (k:=?_))
   refine A5 (ch:=[]) (b:=b21) (off:=2) (v:=.int .u32 sv.c) (hA:=At.grp 0 0 rfl rfl) (k:=D3 (E':=[⟨3,[],pt b1⟩,⟨5,[],pt b2⟩,⟨6,[],pt b3⟩,⟨7,[],pt b4⟩,⟨13,[],pt b21⟩,⟨18,[],.int .u32 (t1P (kAt i) (wAt (byt l) i) sv)⟩,⟨20,[],.int .u32 (IntKind.wrap .u32 ((bs0 sv.a)+(IntKind.wrap .u32 ((BitVec.ofInt (IntKind.bits .u32) (IntKind.wrap .u32 ((BitVec.ofInt (IntKind.bits .u32) (IntKind.wrap .u32 ((BitVec.ofInt (IntKind.bits .u32) sv.a &&& BitVec.ofInt (IntKind.bits .u32) sv.b).toNat)) ^^^ BitVec.ofInt (IntKind.bits .u32) (IntKind.wrap .u32 ((BitVec.ofInt (IntKind.bits .u32) sv.a &&& BitVec.ofInt (IntKind.bits .u32) sv.c).toNat))).toNat)) ^^^ BitVec.ofInt (IntKind.bits .u32) (IntKind.wrap .u32 ((BitVec.ofInt (IntKind.bits .u32) sv.b &&& BitVec.ofInt (IntKind.bits .u32) sv.c).toNat))).toNat))))⟩,⟨103,[],.int .i64 ((i:Nat):Int)⟩]) [0,0,0,0] [3,5,6,7,13,18,20,103] (k:=?_))
   refine H8 (E':=[⟨3,[],pt b1⟩,⟨5,[],pt b2⟩,⟨6,[],pt b3⟩,⟨7,[],pt b4⟩,⟨13,[],pt b21⟩,⟨18,[],.int .u32 (t1P (kAt i) (wAt (byt l) i) sv)⟩,⟨20,[],.int .u32 (t2P sv)⟩,⟨103,[],.int .i64 ((i:Nat):Int)⟩]) kr (A0 ?_)
   refine A1 (D7 ([(b4,.cells (Y5 (byt l) 64) 171 (0,0))]::[(b3,.cells #[.int .u32 0,.int .u32 0,.int .u32 0,.int .u32 0,.int .u32 0,.int .u32 0,.int .u32 0,.int .u32 0] 169 (0,0))]::[(b2,.cells Z0 171 (0,0))]::[(b1,.cells #[.int .u32 s.a,.int .u32 s.b,.int .u32 s.c,.int .u32 s.d,.int .u32 s.e,.int .u32 s.f,.int .u32 s.g,.int .u32 s.h] 169 (0,0))]::H) kr ?_)
   refine A9 0 kr (fun w h=>(h.erase 0)) (GL_sliceArr (i:=0) (ch:=[]) (b:=b21) (off:=0) (len:=8) (sz:=1) (e:=144) (vl:=(some (.int .i64 1))) (vh:=none) (l:=1) (h:=8) rfl rfl kr kr kr kr kr kr kr kr kr kr (fun _=>by decide) (B1 kr rfl)) (A9 1 kr (fun w h=>(h.erase 0)) (GL_sliceArr (i:=1) (ch:=[]) (b:=b21) (off:=0) (len:=8) (sz:=1) (e:=144) (vl:=none) (vh:=(some (.int .i64 7))) (l:=0) (h:=7) rfl rfl kr kr kr kr kr kr kr kr kr kr (fun _=>by decide) (B1 kr rfl)) ?_)
   refine B9 2 (k:=GL_copy (i:=2) (ch:=[]) (dT:=141) (sT:=141) (el:=144) (b:=b21) (o1:=1) (n1:=7) (c1:=7) (a:=⟨b21,0,none⟩) (n2:=7) (c2:=8) (c:=#[.int .u32 sv.a,.int .u32 sv.b,.int .u32 sv.c,.int .u32 sv.d,.int .u32 sv.e,.int .u32 sv.f,.int .u32 sv.g,.int .u32 sv.h]) (c':=#[.int .u32 sv.a,.int .u32 sv.a,.int .u32 sv.b,.int .u32 sv.c,.int .u32 sv.d,.int .u32 sv.e,.int .u32 sv.f,.int .u32 sv.g]) (j:=0) (m:=0) (H':=([(b21,.cells #[.int .u32 sv.a,.int .u32 sv.a,.int .u32 sv.b,.int .u32 sv.c,.int .u32 sv.d,.int .u32 sv.e,.int .u32 sv.f,.int .u32 sv.g] 169 (0,0))]::[(b4,.cells (Y5 (byt l) 64) 171 (0,0))]::[(b3,.cells #[.int .u32 0,.int .u32 0,.int .u32 0,.int .u32 0,.int .u32 0,.int .u32 0,.int .u32 0,.int .u32 0] 169 (0,0))]::[(b2,.cells Z0 171 (0,0))]::[(b1,.cells #[.int .u32 s.a,.int .u32 s.b,.int .u32 s.c,.int .u32 s.d,.int .u32 s.e,.int .u32 s.f,.int .u32 s.g,.int .u32 s.h] 169 (0,0))]::H)) [.int .u32 sv.a,.int .u32 sv.b,.int .u32 sv.c,.int .u32 sv.d,.int .u32 sv.e,.int .u32 sv.f,.int .u32 sv.g] rfl rfl kr kr kr kr kr kr kr rfl rfl rfl (fun w hw k v hv=>cells_at (hw.has (b21,_) (List.mem_flatten.2 ⟨_,List.mem_of_getElem? (i:=0) rfl,List.mem_singleton.2 rfl⟩)) kr hv) (Nat.le_of_ble_eq_true rfl) kr kr kr ?_)
   refine A6 kr (fun w h=>(h.erase 0)) (D8 (E':=[⟨3,[],pt b1⟩,⟨5,[],pt b2⟩,⟨6,[],pt b3⟩,⟨7,[],pt b4⟩,⟨13,[],pt b21⟩,⟨18,[],.int .u32 (t1P (kAt i) (wAt (byt l) i) sv)⟩,⟨20,[],.int .u32 (t2P sv)⟩,⟨103,[],.int .i64 ((i:Nat):Int)⟩]) [3,5,6,7,13,18,20,103] (k:=?_))
   refine A0 (A1 ?_)
   refine A2 (E2 (ch:=[]) (b:=b21) (off:=0) (len:=8) (sz:=1) (e:=144) (kd:=.i64) (j:=4) (hb:=(fun _=>⟨by decide,by decide⟩)) (k:=?_))
   refine A5 (ch:=[]) (b:=b21) (off:=4) (v:=.int .u32 sv.d) (hA:=At.grp 0 0 rfl rfl) (k:=A7 (j:=4) [0,0] (k:=?_))
   refine E2 (ch:=[]) (b:=b21) (off:=0) (len:=8) (sz:=1) (e:=144) (kd:=.i64) (j:=4) (hb:=(fun _=>⟨by decide,by decide⟩)) (k:=G4 (ch:=[]) (b:=b21) (off:=4) (v:=.int .u32 (IntKind.wrap .u32 (sv.d+(t1P (kAt i) (wAt (byt l) i) sv)))) (j:=0) ([(b21,.cells #[.int .u32 sv.a,.int .u32 sv.a,.int .u32 sv.b,.int .u32 sv.c,.int .u32 (IntKind.wrap .u32 (sv.d+(t1P (kAt i) (wAt (byt l) i) sv))),.int .u32 sv.e,.int .u32 sv.f,.int .u32 sv.g] 169 (0,0))]::[(b4,.cells (Y5 (byt l) 64) 171 (0,0))]::[(b3,.cells #[.int .u32 0,.int .u32 0,.int .u32 0,.int .u32 0,.int .u32 0,.int .u32 0,.int .u32 0,.int .u32 0] 169 (0,0))]::[(b2,.cells Z0 171 (0,0))]::[(b1,.cells #[.int .u32 s.a,.int .u32 s.b,.int .u32 s.c,.int .u32 s.d,.int .u32 s.e,.int .u32 s.f,.int .u32 s.g,.int .u32 s.h] 169 (0,0))]::H) (hoff:=Nat.le_of_ble_eq_true rfl) (hfz:=(fun _ _=>F0)) (k:=?_))
   refine C4 [] [3,5,6,7,13,18,20,103] (k:=A0 ?_)
   refine A2 (A7 (j:=3) [0,0,0] (k:=?_))
   refine E2 (ch:=[]) (b:=b21) (off:=0) (len:=8) (sz:=1) (e:=144) (kd:=.i64) (j:=0) (hb:=(fun _=>⟨by decide,by decide⟩)) (k:=G4 (ch:=[]) (b:=b21) (off:=0) (v:=.int .u32 (IntKind.wrap .u32 ((t1P (kAt i) (wAt (byt l) i) sv)+(t2P sv)))) (j:=0) ([(b21,.cells #[.int .u32 (IntKind.wrap .u32 ((t1P (kAt i) (wAt (byt l) i) sv)+(t2P sv))),.int .u32 sv.a,.int .u32 sv.b,.int .u32 sv.c,.int .u32 (IntKind.wrap .u32 (sv.d+(t1P (kAt i) (wAt (byt l) i) sv))),.int .u32 sv.e,.int .u32 sv.f,.int .u32 sv.g] 169 (0,0))]::[(b4,.cells (Y5 (byt l) 64) 171 (0,0))]::[(b3,.cells #[.int .u32 0,.int .u32 0,.int .u32 0,.int .u32 0,.int .u32 0,.int .u32 0,.int .u32 0,.int .u32 0] 169 (0,0))]::[(b2,.cells Z0 171 (0,0))]::[(b1,.cells #[.int .u32 s.a,.int .u32 s.b,.int .u32 s.c,.int .u32 s.d,.int .u32 s.e,.int .u32 s.f,.int .u32 s.g,.int .u32 s.h] 169 (0,0))]::H) (hoff:=Nat.le_of_ble_eq_true rfl) (hfz:=(fun _ _=>F0)) (k:=?_))
   refine C4 [] [3,5,6,7,13,103] (k:=D5 ?_)
   refine A0 (A2 ?_)
   refine A7 (j:=1) [0] (k:=F2 178 (((i:Nat):Int)+1) (by omega) (by omega) kr ?_)
   refine C4 [0] [3,5,6,7,13,103] (k:=E5 (s':=(i+1,(rnd (kAt i) (wAt (byt l) i) sv))) [3,5,6,7,13,103] kr kr ⟨(by dsimp only; omega),(by dsimp only; rw [hsv]; rfl)⟩ (by dsimp only; omega))
  ·
   have hi3:i=64:=by (have h9:=of_decide_eq_false hc22; omega)
   refine G6 (A8 ?_)
   refine A8 (C7 ?_)
   refine A0 (A1 ?_)
   refine A1 (G_p [0] [3,6,13,179] (k:=?_))
   refine A0 (C5 ?_)
   refine G_rounds 9 (K7 ?_)
   refine A1 (G_p [0] [3,6,13,179,180] (k:=?_))
   refine A0 (A1 ?_)
   refine I1 kr (B5 ?_)
   refine A0 (A1 ?_)
   refine C5 (A1 ?_)
   refine G_p [0,0] [3,6,13,21,179] (k:=A0 ?_)
   refine D7 ([(b21,.cells #[.int .u32 sv.a,.int .u32 sv.b,.int .u32 sv.c,.int .u32 sv.d,.int .u32 sv.e,.int .u32 sv.f,.int .u32 sv.g,.int .u32 sv.h] 169 (0,0))]::[(b4,.cells (Y5 (byt l) 64) 171 (0,0))]::[(b3,.cells #[.int .u32 0,.int .u32 0,.int .u32 0,.int .u32 0,.int .u32 0,.int .u32 0,.int .u32 0,.int .u32 0] 169 (0,0))]::[(b2,.cells Z0 171 (0,0))]::H) kr (D0 (fuel:=8) [(0,0)] (fun w h=>(h.erase 4)) (k:=?_))
   refine A9 1 (hL:=(fun w h=>(h.erase 4))) (hy:=E2 (i:=1) (ch:=[]) (b:=b1) (off:=0) (len:=8) (sz:=1) (e:=144) (kd:=.i64) (j:=0) (hb:=(fun _=>⟨by decide,by decide⟩)) (k:=B1 kr rfl)) (k:=D0 (fuel:=6) [(3,0)] (fun w h=>(h.erase 4)) (k:=?_))
   refine A9 4 (hL:=(fun w h=>(h.erase 4))) (hy:=E2 (i:=4) (ch:=[]) (b:=b21) (off:=0) (len:=8) (sz:=1) (e:=144) (kd:=.i64) (j:=0) (hb:=(fun _=>⟨by decide,by decide⟩)) (k:=B1 kr rfl)) (k:=A9 5 (hL:=(fun w h=>(h.erase 4))) (hy:=A5 (i:=5) (ch:=[]) (b:=b21) (off:=0) (v:=.int .u32 sv.a) (hA:=At.grp 0 0 rfl rfl) (k:=B1 kr rfl)) (k:=?_))
   refine B9 2 (k:=A5 (ch:=[]) (b:=b1) (off:=0) (v:=.int .u32 s.a) (hA:=At.grp 4 0 rfl rfl) (k:=?_))
   refine A6 kr (fun w h=>(h.erase 4)) (D0 (fuel:=2) [(6,0)] (fun w h=>(h.erase 4)) (k:=?_))
   refine A9 7 (hL:=(fun w h=>(h.erase 4))) (hy:=E2 (i:=7) (ch:=[]) (b:=b1) (off:=0) (len:=8) (sz:=1) (e:=144) (kd:=.i64) (j:=0) (hb:=(fun _=>⟨by decide,by decide⟩)) (k:=B1 kr rfl)) (k:=B9 8 (k:=?_))
   refine G4 (ch:=[]) (b:=b1) (off:=0) (v:=.int .u32 (IntKind.wrap .u32 (s.a+sv.a))) (j:=4) ([(b21,.cells #[.int .u32 sv.a,.int .u32 sv.b,.int .u32 sv.c,.int .u32 sv.d,.int .u32 sv.e,.int .u32 sv.f,.int .u32 sv.g,.int .u32 sv.h] 169 (0,0))]::[(b4,.cells (Y5 (byt l) 64) 171 (0,0))]::[(b3,.cells #[.int .u32 0,.int .u32 0,.int .u32 0,.int .u32 0,.int .u32 0,.int .u32 0,.int .u32 0,.int .u32 0] 169 (0,0))]::[(b2,.cells Z0 171 (0,0))]::[(b1,.cells #[.int .u32 (IntKind.wrap .u32 (s.a+sv.a)),.int .u32 s.b,.int .u32 s.c,.int .u32 s.d,.int .u32 s.e,.int .u32 s.f,.int .u32 s.g,.int .u32 s.h] 169 (0,0))]::H) (hoff:=Nat.le_of_ble_eq_true rfl) (hfz:=(fun _ _=>F0)) (k:=A6 kr (fun w h=>(h.erase 4)) ?_)
   refine D8 (E':=[⟨3,[],pt b1⟩,⟨6,[],pt b3⟩,⟨13,[],pt b21⟩,⟨179,[],.int .i64 0⟩]) [3,6,13,179] (k:=D5 ?_)
   refine A0 (G_p [0,0] [3,6,13,179] (k:=?_))
   refine N_rd (K7 ?_)
   refine A1 (G_p [0] [3,6,13,179,180] (k:=?_))
   refine A0 (A1 ?_)
   refine I1 kr (B5 ?_)
   refine A0 (A1 ?_)
   refine C5 (A1 ?_)
   refine G_p [0,0] [3,6,13,21,179] (k:=A0 ?_)
   refine D7 ([(b21,.cells #[.int .u32 sv.a,.int .u32 sv.b,.int .u32 sv.c,.int .u32 sv.d,.int .u32 sv.e,.int .u32 sv.f,.int .u32 sv.g,.int .u32 sv.h] 169 (0,0))]::[(b4,.cells (Y5 (byt l) 64) 171 (0,0))]::[(b3,.cells #[.int .u32 0,.int .u32 0,.int .u32 0,.int .u32 0,.int .u32 0,.int .u32 0,.int .u32 0,.int .u32 0] 169 (0,0))]::[(b2,.cells Z0 171 (0,0))]::H) kr (D0 (fuel:=8) [(0,0)] (fun w h=>(h.erase 4)) (k:=?_))
   refine A9 1 (hL:=(fun w h=>(h.erase 4))) (hy:=E2 (i:=1) (ch:=[]) (b:=b1) (off:=0) (len:=8) (sz:=1) (e:=144) (kd:=.i64) (j:=1) (hb:=(fun _=>⟨by decide,by decide⟩)) (k:=B1 kr rfl)) (k:=D0 (fuel:=6) [(3,0)] (fun w h=>(h.erase 4)) (k:=?_))
   refine A9 4 (hL:=(fun w h=>(h.erase 4))) (hy:=E2 (i:=4) (ch:=[]) (b:=b21) (off:=0) (len:=8) (sz:=1) (e:=144) (kd:=.i64) (j:=1) (hb:=(fun _=>⟨by decide,by decide⟩)) (k:=B1 kr rfl)) (k:=A9 5 (hL:=(fun w h=>(h.erase 4))) (hy:=A5 (i:=5) (ch:=[]) (b:=b21) (off:=1) (v:=.int .u32 sv.b) (hA:=At.grp 0 0 rfl rfl) (k:=B1 kr rfl)) (k:=?_))
   refine B9 2 (k:=A5 (ch:=[]) (b:=b1) (off:=1) (v:=.int .u32 s.b) (hA:=At.grp 4 0 rfl rfl) (k:=?_))
   refine A6 kr (fun w h=>(h.erase 4)) (D0 (fuel:=2) [(6,0)] (fun w h=>(h.erase 4)) (k:=?_))
   refine A9 7 (hL:=(fun w h=>(h.erase 4))) (hy:=E2 (i:=7) (ch:=[]) (b:=b1) (off:=0) (len:=8) (sz:=1) (e:=144) (kd:=.i64) (j:=1) (hb:=(fun _=>⟨by decide,by decide⟩)) (k:=B1 kr rfl)) (k:=B9 8 (k:=?_))
   refine G4 (ch:=[]) (b:=b1) (off:=1) (v:=.int .u32 (IntKind.wrap .u32 (s.b+sv.b))) (j:=4) ([(b21,.cells #[.int .u32 sv.a,.int .u32 sv.b,.int .u32 sv.c,.int .u32 sv.d,.int .u32 sv.e,.int .u32 sv.f,.int .u32 sv.g,.int .u32 sv.h] 169 (0,0))]::[(b4,.cells (Y5 (byt l) 64) 171 (0,0))]::[(b3,.cells #[.int .u32 0,.int .u32 0,.int .u32 0,.int .u32 0,.int .u32 0,.int .u32 0,.int .u32 0,.int .u32 0] 169 (0,0))]::[(b2,.cells Z0 171 (0,0))]::[(b1,.cells #[.int .u32 (IntKind.wrap .u32 (s.a+sv.a)),.int .u32 (IntKind.wrap .u32 (s.b+sv.b)),.int .u32 s.c,.int .u32 s.d,.int .u32 s.e,.int .u32 s.f,.int .u32 s.g,.int .u32 s.h] 169 (0,0))]::H) (hoff:=Nat.le_of_ble_eq_true rfl) (hfz:=(fun _ _=>F0)) (k:=A6 kr (fun w h=>(h.erase 4)) ?_)
   refine D8 (E':=[⟨3,[],pt b1⟩,⟨6,[],pt b3⟩,⟨13,[],pt b21⟩,⟨179,[],.int .i64 1⟩]) [3,6,13,179] (k:=D5 ?_)
   refine A0 (G_p [0,0] [3,6,13,179] (k:=?_))
   refine N_rd (K7 ?_)
   refine A1 (G_p [0] [3,6,13,179,180] (k:=?_))
   refine A0 (A1 ?_)
   refine I1 kr (B5 ?_)
   refine A0 (A1 ?_)
   refine C5 (A1 ?_)
   refine G_p [0,0] [3,6,13,21,179] (k:=A0 ?_)
   refine D7 ([(b21,.cells #[.int .u32 sv.a,.int .u32 sv.b,.int .u32 sv.c,.int .u32 sv.d,.int .u32 sv.e,.int .u32 sv.f,.int .u32 sv.g,.int .u32 sv.h] 169 (0,0))]::[(b4,.cells (Y5 (byt l) 64) 171 (0,0))]::[(b3,.cells #[.int .u32 0,.int .u32 0,.int .u32 0,.int .u32 0,.int .u32 0,.int .u32 0,.int .u32 0,.int .u32 0] 169 (0,0))]::[(b2,.cells Z0 171 (0,0))]::H) kr (D0 (fuel:=8) [(0,0)] (fun w h=>(h.erase 4)) (k:=?_))
   refine A9 1 (hL:=(fun w h=>(h.erase 4))) (hy:=E2 (i:=1) (ch:=[]) (b:=b1) (off:=0) (len:=8) (sz:=1) (e:=144) (kd:=.i64) (j:=2) (hb:=(fun _=>⟨by decide,by decide⟩)) (k:=B1 kr rfl)) (k:=D0 (fuel:=6) [(3,0)] (fun w h=>(h.erase 4)) (k:=?_))
   refine A9 4 (hL:=(fun w h=>(h.erase 4))) (hy:=E2 (i:=4) (ch:=[]) (b:=b21) (off:=0) (len:=8) (sz:=1) (e:=144) (kd:=.i64) (j:=2) (hb:=(fun _=>⟨by decide,by decide⟩)) (k:=B1 kr rfl)) (k:=A9 5 (hL:=(fun w h=>(h.erase 4))) (hy:=A5 (i:=5) (ch:=[]) (b:=b21) (off:=2) (v:=.int .u32 sv.c) (hA:=At.grp 0 0 rfl rfl) (k:=B1 kr rfl)) (k:=?_))
   refine B9 2 (k:=A5 (ch:=[]) (b:=b1) (off:=2) (v:=.int .u32 s.c) (hA:=At.grp 4 0 rfl rfl) (k:=?_))
   refine A6 kr (fun w h=>(h.erase 4)) (D0 (fuel:=2) [(6,0)] (fun w h=>(h.erase 4)) (k:=?_))
   refine A9 7 (hL:=(fun w h=>(h.erase 4))) (hy:=E2 (i:=7) (ch:=[]) (b:=b1) (off:=0) (len:=8) (sz:=1) (e:=144) (kd:=.i64) (j:=2) (hb:=(fun _=>⟨by decide,by decide⟩)) (k:=B1 kr rfl)) (k:=B9 8 (k:=?_))
   refine G4 (ch:=[]) (b:=b1) (off:=2) (v:=.int .u32 (IntKind.wrap .u32 (s.c+sv.c))) (j:=4) ([(b21,.cells #[.int .u32 sv.a,.int .u32 sv.b,.int .u32 sv.c,.int .u32 sv.d,.int .u32 sv.e,.int .u32 sv.f,.int .u32 sv.g,.int .u32 sv.h] 169 (0,0))]::[(b4,.cells (Y5 (byt l) 64) 171 (0,0))]::[(b3,.cells #[.int .u32 0,.int .u32 0,.int .u32 0,.int .u32 0,.int .u32 0,.int .u32 0,.int .u32 0,.int .u32 0] 169 (0,0))]::[(b2,.cells Z0 171 (0,0))]::[(b1,.cells #[.int .u32 (IntKind.wrap .u32 (s.a+sv.a)),.int .u32 (IntKind.wrap .u32 (s.b+sv.b)),.int .u32 (IntKind.wrap .u32 (s.c+sv.c)),.int .u32 s.d,.int .u32 s.e,.int .u32 s.f,.int .u32 s.g,.int .u32 s.h] 169 (0,0))]::H) (hoff:=Nat.le_of_ble_eq_true rfl) (hfz:=(fun _ _=>F0)) (k:=A6 kr (fun w h=>(h.erase 4)) ?_)
   refine D8 (E':=[⟨3,[],pt b1⟩,⟨6,[],pt b3⟩,⟨13,[],pt b21⟩,⟨179,[],.int .i64 2⟩]) [3,6,13,179] (k:=D5 ?_)
   refine A0 (G_p [0,0] [3,6,13,179] (k:=?_))
   refine N_rd (K7 ?_)
   refine A1 (G_p [0] [3,6,13,179,180] (k:=?_))
   refine A0 (A1 ?_)
   refine I1 kr (B5 ?_)
   refine A0 (A1 ?_)
   refine C5 (A1 ?_)
   refine G_p [0,0] [3,6,13,21,179] (k:=A0 ?_)
   refine D7 ([(b21,.cells #[.int .u32 sv.a,.int .u32 sv.b,.int .u32 sv.c,.int .u32 sv.d,.int .u32 sv.e,.int .u32 sv.f,.int .u32 sv.g,.int .u32 sv.h] 169 (0,0))]::[(b4,.cells (Y5 (byt l) 64) 171 (0,0))]::[(b3,.cells #[.int .u32 0,.int .u32 0,.int .u32 0,.int .u32 0,.int .u32 0,.int .u32 0,.int .u32 0,.int .u32 0] 169 (0,0))]::[(b2,.cells Z0 171 (0,0))]::H) kr (D0 (fuel:=8) [(0,0)] (fun w h=>(h.erase 4)) (k:=?_))
   refine A9 1 (hL:=(fun w h=>(h.erase 4))) (hy:=E2 (i:=1) (ch:=[]) (b:=b1) (off:=0) (len:=8) (sz:=1) (e:=144) (kd:=.i64) (j:=3) (hb:=(fun _=>⟨by decide,by decide⟩)) (k:=B1 kr rfl)) (k:=D0 (fuel:=6) [(3,0)] (fun w h=>(h.erase 4)) (k:=?_))
   refine A9 4 (hL:=(fun w h=>(h.erase 4))) (hy:=E2 (i:=4) (ch:=[]) (b:=b21) (off:=0) (len:=8) (sz:=1) (e:=144) (kd:=.i64) (j:=3) (hb:=(fun _=>⟨by decide,by decide⟩)) (k:=B1 kr rfl)) (k:=A9 5 (hL:=(fun w h=>(h.erase 4))) (hy:=A5 (i:=5) (ch:=[]) (b:=b21) (off:=3) (v:=.int .u32 sv.d) (hA:=At.grp 0 0 rfl rfl) (k:=B1 kr rfl)) (k:=?_))
   refine B9 2 (k:=A5 (ch:=[]) (b:=b1) (off:=3) (v:=.int .u32 s.d) (hA:=At.grp 4 0 rfl rfl) (k:=?_))
   refine A6 kr (fun w h=>(h.erase 4)) (D0 (fuel:=2) [(6,0)] (fun w h=>(h.erase 4)) (k:=?_))
   refine A9 7 (hL:=(fun w h=>(h.erase 4))) (hy:=E2 (i:=7) (ch:=[]) (b:=b1) (off:=0) (len:=8) (sz:=1) (e:=144) (kd:=.i64) (j:=3) (hb:=(fun _=>⟨by decide,by decide⟩)) (k:=B1 kr rfl)) (k:=B9 8 (k:=?_))
   refine G4 (ch:=[]) (b:=b1) (off:=3) (v:=.int .u32 (IntKind.wrap .u32 (s.d+sv.d))) (j:=4) ([(b21,.cells #[.int .u32 sv.a,.int .u32 sv.b,.int .u32 sv.c,.int .u32 sv.d,.int .u32 sv.e,.int .u32 sv.f,.int .u32 sv.g,.int .u32 sv.h] 169 (0,0))]::[(b4,.cells (Y5 (byt l) 64) 171 (0,0))]::[(b3,.cells #[.int .u32 0,.int .u32 0,.int .u32 0,.int .u32 0,.int .u32 0,.int .u32 0,.int .u32 0,.int .u32 0] 169 (0,0))]::[(b2,.cells Z0 171 (0,0))]::[(b1,.cells #[.int .u32 (IntKind.wrap .u32 (s.a+sv.a)),.int .u32 (IntKind.wrap .u32 (s.b+sv.b)),.int .u32 (IntKind.wrap .u32 (s.c+sv.c)),.int .u32 (IntKind.wrap .u32 (s.d+sv.d)),.int .u32 s.e,.int .u32 s.f,.int .u32 s.g,.int .u32 s.h] 169 (0,0))]::H) (hoff:=Nat.le_of_ble_eq_true rfl) (hfz:=(fun _ _=>F0)) (k:=A6 kr (fun w h=>(h.erase 4)) ?_)
   refine D8 (E':=[⟨3,[],pt b1⟩,⟨6,[],pt b3⟩,⟨13,[],pt b21⟩,⟨179,[],.int .i64 3⟩]) [3,6,13,179] (k:=D5 ?_)
   refine A0 (G_p [0,0] [3,6,13,179] (k:=?_))
   refine N_rd (K7 ?_)
   refine A1 (G_p [0] [3,6,13,179,180] (k:=?_))
   refine A0 (A1 ?_)
   refine I1 kr (B5 ?_)
   refine A0 (A1 ?_)
   refine C5 (A1 ?_)
   refine G_p [0,0] [3,6,13,21,179] (k:=A0 ?_)
   refine D7 ([(b21,.cells #[.int .u32 sv.a,.int .u32 sv.b,.int .u32 sv.c,.int .u32 sv.d,.int .u32 sv.e,.int .u32 sv.f,.int .u32 sv.g,.int .u32 sv.h] 169 (0,0))]::[(b4,.cells (Y5 (byt l) 64) 171 (0,0))]::[(b3,.cells #[.int .u32 0,.int .u32 0,.int .u32 0,.int .u32 0,.int .u32 0,.int .u32 0,.int .u32 0,.int .u32 0] 169 (0,0))]::[(b2,.cells Z0 171 (0,0))]::H) kr (D0 (fuel:=8) [(0,0)] (fun w h=>(h.erase 4)) (k:=?_))
   refine A9 1 (hL:=(fun w h=>(h.erase 4))) (hy:=E2 (i:=1) (ch:=[]) (b:=b1) (off:=0) (len:=8) (sz:=1) (e:=144) (kd:=.i64) (j:=4) (hb:=(fun _=>⟨by decide,by decide⟩)) (k:=B1 kr rfl)) (k:=D0 (fuel:=6) [(3,0)] (fun w h=>(h.erase 4)) (k:=?_))
   refine A9 4 (hL:=(fun w h=>(h.erase 4))) (hy:=E2 (i:=4) (ch:=[]) (b:=b21) (off:=0) (len:=8) (sz:=1) (e:=144) (kd:=.i64) (j:=4) (hb:=(fun _=>⟨by decide,by decide⟩)) (k:=B1 kr rfl)) (k:=A9 5 (hL:=(fun w h=>(h.erase 4))) (hy:=A5 (i:=5) (ch:=[]) (b:=b21) (off:=4) (v:=.int .u32 sv.e) (hA:=At.grp 0 0 rfl rfl) (k:=B1 kr rfl)) (k:=?_))
   refine B9 2 (k:=A5 (ch:=[]) (b:=b1) (off:=4) (v:=.int .u32 s.e) (hA:=At.grp 4 0 rfl rfl) (k:=?_))
   refine A6 kr (fun w h=>(h.erase 4)) (D0 (fuel:=2) [(6,0)] (fun w h=>(h.erase 4)) (k:=?_))
   refine A9 7 (hL:=(fun w h=>(h.erase 4))) (hy:=E2 (i:=7) (ch:=[]) (b:=b1) (off:=0) (len:=8) (sz:=1) (e:=144) (kd:=.i64) (j:=4) (hb:=(fun _=>⟨by decide,by decide⟩)) (k:=B1 kr rfl)) (k:=B9 8 (k:=?_))
   refine G4 (ch:=[]) (b:=b1) (off:=4) (v:=.int .u32 (IntKind.wrap .u32 (s.e+sv.e))) (j:=4) ([(b21,.cells #[.int .u32 sv.a,.int .u32 sv.b,.int .u32 sv.c,.int .u32 sv.d,.int .u32 sv.e,.int .u32 sv.f,.int .u32 sv.g,.int .u32 sv.h] 169 (0,0))]::[(b4,.cells (Y5 (byt l) 64) 171 (0,0))]::[(b3,.cells #[.int .u32 0,.int .u32 0,.int .u32 0,.int .u32 0,.int .u32 0,.int .u32 0,.int .u32 0,.int .u32 0] 169 (0,0))]::[(b2,.cells Z0 171 (0,0))]::[(b1,.cells #[.int .u32 (IntKind.wrap .u32 (s.a+sv.a)),.int .u32 (IntKind.wrap .u32 (s.b+sv.b)),.int .u32 (IntKind.wrap .u32 (s.c+sv.c)),.int .u32 (IntKind.wrap .u32 (s.d+sv.d)),.int .u32 (IntKind.wrap .u32 (s.e+sv.e)),.int .u32 s.f,.int .u32 s.g,.int .u32 s.h] 169 (0,0))]::H) (hoff:=Nat.le_of_ble_eq_true rfl) (hfz:=(fun _ _=>F0)) (k:=A6 kr (fun w h=>(h.erase 4)) ?_)
   refine D8 (E':=[⟨3,[],pt b1⟩,⟨6,[],pt b3⟩,⟨13,[],pt b21⟩,⟨179,[],.int .i64 4⟩]) [3,6,13,179] (k:=D5 ?_)
   refine A0 (G_p [0,0] [3,6,13,179] (k:=?_))
   refine N_rd (K7 ?_)
   refine A1 (G_p [0] [3,6,13,179,180] (k:=?_))
   refine A0 (A1 ?_)
   refine I1 kr (B5 ?_)
   refine A0 (A1 ?_)
   refine C5 (A1 ?_)
   refine G_p [0,0] [3,6,13,21,179] (k:=A0 ?_)
   refine D7 ([(b21,.cells #[.int .u32 sv.a,.int .u32 sv.b,.int .u32 sv.c,.int .u32 sv.d,.int .u32 sv.e,.int .u32 sv.f,.int .u32 sv.g,.int .u32 sv.h] 169 (0,0))]::[(b4,.cells (Y5 (byt l) 64) 171 (0,0))]::[(b3,.cells #[.int .u32 0,.int .u32 0,.int .u32 0,.int .u32 0,.int .u32 0,.int .u32 0,.int .u32 0,.int .u32 0] 169 (0,0))]::[(b2,.cells Z0 171 (0,0))]::H) kr (D0 (fuel:=8) [(0,0)] (fun w h=>(h.erase 4)) (k:=?_))
   refine A9 1 (hL:=(fun w h=>(h.erase 4))) (hy:=E2 (i:=1) (ch:=[]) (b:=b1) (off:=0) (len:=8) (sz:=1) (e:=144) (kd:=.i64) (j:=5) (hb:=(fun _=>⟨by decide,by decide⟩)) (k:=B1 kr rfl)) (k:=D0 (fuel:=6) [(3,0)] (fun w h=>(h.erase 4)) (k:=?_))
   refine A9 4 (hL:=(fun w h=>(h.erase 4))) (hy:=E2 (i:=4) (ch:=[]) (b:=b21) (off:=0) (len:=8) (sz:=1) (e:=144) (kd:=.i64) (j:=5) (hb:=(fun _=>⟨by decide,by decide⟩)) (k:=B1 kr rfl)) (k:=A9 5 (hL:=(fun w h=>(h.erase 4))) (hy:=A5 (i:=5) (ch:=[]) (b:=b21) (off:=5) (v:=.int .u32 sv.f) (hA:=At.grp 0 0 rfl rfl) (k:=B1 kr rfl)) (k:=?_))
   refine B9 2 (k:=A5 (ch:=[]) (b:=b1) (off:=5) (v:=.int .u32 s.f) (hA:=At.grp 4 0 rfl rfl) (k:=?_))
   refine A6 kr (fun w h=>(h.erase 4)) (D0 (fuel:=2) [(6,0)] (fun w h=>(h.erase 4)) (k:=?_))
   refine A9 7 (hL:=(fun w h=>(h.erase 4))) (hy:=E2 (i:=7) (ch:=[]) (b:=b1) (off:=0) (len:=8) (sz:=1) (e:=144) (kd:=.i64) (j:=5) (hb:=(fun _=>⟨by decide,by decide⟩)) (k:=B1 kr rfl)) (k:=B9 8 (k:=?_))
   refine G4 (ch:=[]) (b:=b1) (off:=5) (v:=.int .u32 (IntKind.wrap .u32 (s.f+sv.f))) (j:=4) ([(b21,.cells #[.int .u32 sv.a,.int .u32 sv.b,.int .u32 sv.c,.int .u32 sv.d,.int .u32 sv.e,.int .u32 sv.f,.int .u32 sv.g,.int .u32 sv.h] 169 (0,0))]::[(b4,.cells (Y5 (byt l) 64) 171 (0,0))]::[(b3,.cells #[.int .u32 0,.int .u32 0,.int .u32 0,.int .u32 0,.int .u32 0,.int .u32 0,.int .u32 0,.int .u32 0] 169 (0,0))]::[(b2,.cells Z0 171 (0,0))]::[(b1,.cells #[.int .u32 (IntKind.wrap .u32 (s.a+sv.a)),.int .u32 (IntKind.wrap .u32 (s.b+sv.b)),.int .u32 (IntKind.wrap .u32 (s.c+sv.c)),.int .u32 (IntKind.wrap .u32 (s.d+sv.d)),.int .u32 (IntKind.wrap .u32 (s.e+sv.e)),.int .u32 (IntKind.wrap .u32 (s.f+sv.f)),.int .u32 s.g,.int .u32 s.h] 169 (0,0))]::H) (hoff:=Nat.le_of_ble_eq_true rfl) (hfz:=(fun _ _=>F0)) (k:=A6 kr (fun w h=>(h.erase 4)) ?_)
   refine D8 (E':=[⟨3,[],pt b1⟩,⟨6,[],pt b3⟩,⟨13,[],pt b21⟩,⟨179,[],.int .i64 5⟩]) [3,6,13,179] (k:=D5 ?_)
   refine A0 (G_p [0,0] [3,6,13,179] (k:=?_))
   refine N_rd (K7 ?_)
   refine A1 (G_p [0] [3,6,13,179,180] (k:=?_))
   refine A0 (A1 ?_)
   refine I1 kr (B5 ?_)
   refine A0 (A1 ?_)
   refine C5 (A1 ?_)
   refine G_p [0,0] [3,6,13,21,179] (k:=A0 ?_)
   refine D7 ([(b21,.cells #[.int .u32 sv.a,.int .u32 sv.b,.int .u32 sv.c,.int .u32 sv.d,.int .u32 sv.e,.int .u32 sv.f,.int .u32 sv.g,.int .u32 sv.h] 169 (0,0))]::[(b4,.cells (Y5 (byt l) 64) 171 (0,0))]::[(b3,.cells #[.int .u32 0,.int .u32 0,.int .u32 0,.int .u32 0,.int .u32 0,.int .u32 0,.int .u32 0,.int .u32 0] 169 (0,0))]::[(b2,.cells Z0 171 (0,0))]::H) kr (D0 (fuel:=8) [(0,0)] (fun w h=>(h.erase 4)) (k:=?_))
   refine A9 1 (hL:=(fun w h=>(h.erase 4))) (hy:=E2 (i:=1) (ch:=[]) (b:=b1) (off:=0) (len:=8) (sz:=1) (e:=144) (kd:=.i64) (j:=6) (hb:=(fun _=>⟨by decide,by decide⟩)) (k:=B1 kr rfl)) (k:=D0 (fuel:=6) [(3,0)] (fun w h=>(h.erase 4)) (k:=?_))
   refine A9 4 (hL:=(fun w h=>(h.erase 4))) (hy:=E2 (i:=4) (ch:=[]) (b:=b21) (off:=0) (len:=8) (sz:=1) (e:=144) (kd:=.i64) (j:=6) (hb:=(fun _=>⟨by decide,by decide⟩)) (k:=B1 kr rfl)) (k:=A9 5 (hL:=(fun w h=>(h.erase 4))) (hy:=A5 (i:=5) (ch:=[]) (b:=b21) (off:=6) (v:=.int .u32 sv.g) (hA:=At.grp 0 0 rfl rfl) (k:=B1 kr rfl)) (k:=?_))
   refine B9 2 (k:=A5 (ch:=[]) (b:=b1) (off:=6) (v:=.int .u32 s.g) (hA:=At.grp 4 0 rfl rfl) (k:=?_))
   refine A6 kr (fun w h=>(h.erase 4)) (D0 (fuel:=2) [(6,0)] (fun w h=>(h.erase 4)) (k:=?_))
   refine A9 7 (hL:=(fun w h=>(h.erase 4))) (hy:=E2 (i:=7) (ch:=[]) (b:=b1) (off:=0) (len:=8) (sz:=1) (e:=144) (kd:=.i64) (j:=6) (hb:=(fun _=>⟨by decide,by decide⟩)) (k:=B1 kr rfl)) (k:=B9 8 (k:=?_))
   refine G4 (ch:=[]) (b:=b1) (off:=6) (v:=.int .u32 (IntKind.wrap .u32 (s.g+sv.g))) (j:=4) ([(b21,.cells #[.int .u32 sv.a,.int .u32 sv.b,.int .u32 sv.c,.int .u32 sv.d,.int .u32 sv.e,.int .u32 sv.f,.int .u32 sv.g,.int .u32 sv.h] 169 (0,0))]::[(b4,.cells (Y5 (byt l) 64) 171 (0,0))]::[(b3,.cells #[.int .u32 0,.int .u32 0,.int .u32 0,.int .u32 0,.int .u32 0,.int .u32 0,.int .u32 0,.int .u32 0] 169 (0,0))]::[(b2,.cells Z0 171 (0,0))]::[(b1,.cells #[.int .u32 (IntKind.wrap .u32 (s.a+sv.a)),.int .u32 (IntKind.wrap .u32 (s.b+sv.b)),.int .u32 (IntKind.wrap .u32 (s.c+sv.c)),.int .u32 (IntKind.wrap .u32 (s.d+sv.d)),.int .u32 (IntKind.wrap .u32 (s.e+sv.e)),.int .u32 (IntKind.wrap .u32 (s.f+sv.f)),.int .u32 (IntKind.wrap .u32 (s.g+sv.g)),.int .u32 s.h] 169 (0,0))]::H) (hoff:=Nat.le_of_ble_eq_true rfl) (hfz:=(fun _ _=>F0)) (k:=A6 kr (fun w h=>(h.erase 4)) ?_)
   refine D8 (E':=[⟨3,[],pt b1⟩,⟨6,[],pt b3⟩,⟨13,[],pt b21⟩,⟨179,[],.int .i64 6⟩]) [3,6,13,179] (k:=D5 ?_)
   refine A0 (G_p [0,0] [3,6,13,179] (k:=?_))
   refine N_rd (K7 ?_)
   refine A1 (G_p [0] [3,6,13,179,180] (k:=?_))
   refine A0 (A1 ?_)
   refine I1 kr (B5 ?_)
   refine A0 (A1 ?_)
   refine C5 (A1 ?_)
   refine G_p [0,0] [3,6,13,21,179] (k:=A0 ?_)
   refine D7 ([(b21,.cells #[.int .u32 sv.a,.int .u32 sv.b,.int .u32 sv.c,.int .u32 sv.d,.int .u32 sv.e,.int .u32 sv.f,.int .u32 sv.g,.int .u32 sv.h] 169 (0,0))]::[(b4,.cells (Y5 (byt l) 64) 171 (0,0))]::[(b3,.cells #[.int .u32 0,.int .u32 0,.int .u32 0,.int .u32 0,.int .u32 0,.int .u32 0,.int .u32 0,.int .u32 0] 169 (0,0))]::[(b2,.cells Z0 171 (0,0))]::H) kr (D0 (fuel:=8) [(0,0)] (fun w h=>(h.erase 4)) (k:=?_))
   refine A9 1 (hL:=(fun w h=>(h.erase 4))) (hy:=E2 (i:=1) (ch:=[]) (b:=b1) (off:=0) (len:=8) (sz:=1) (e:=144) (kd:=.i64) (j:=7) (hb:=(fun _=>⟨by decide,by decide⟩)) (k:=B1 kr rfl)) (k:=D0 (fuel:=6) [(3,0)] (fun w h=>(h.erase 4)) (k:=?_))
   refine A9 4 (hL:=(fun w h=>(h.erase 4))) (hy:=E2 (i:=4) (ch:=[]) (b:=b21) (off:=0) (len:=8) (sz:=1) (e:=144) (kd:=.i64) (j:=7) (hb:=(fun _=>⟨by decide,by decide⟩)) (k:=B1 kr rfl)) (k:=A9 5 (hL:=(fun w h=>(h.erase 4))) (hy:=A5 (i:=5) (ch:=[]) (b:=b21) (off:=7) (v:=.int .u32 sv.h) (hA:=At.grp 0 0 rfl rfl) (k:=B1 kr rfl)) (k:=?_))
   refine B9 2 (k:=A5 (ch:=[]) (b:=b1) (off:=7) (v:=.int .u32 s.h) (hA:=At.grp 4 0 rfl rfl) (k:=?_))
   refine A6 kr (fun w h=>(h.erase 4)) (D0 (fuel:=2) [(6,0)] (fun w h=>(h.erase 4)) (k:=?_))
   refine A9 7 (hL:=(fun w h=>(h.erase 4))) (hy:=E2 (i:=7) (ch:=[]) (b:=b1) (off:=0) (len:=8) (sz:=1) (e:=144) (kd:=.i64) (j:=7) (hb:=(fun _=>⟨by decide,by decide⟩)) (k:=B1 kr rfl)) (k:=B9 8 (k:=?_))
   refine G4 (ch:=[]) (b:=b1) (off:=7) (v:=.int .u32 (IntKind.wrap .u32 (s.h+sv.h))) (j:=4) ([(b21,.cells #[.int .u32 sv.a,.int .u32 sv.b,.int .u32 sv.c,.int .u32 sv.d,.int .u32 sv.e,.int .u32 sv.f,.int .u32 sv.g,.int .u32 sv.h] 169 (0,0))]::[(b4,.cells (Y5 (byt l) 64) 171 (0,0))]::[(b3,.cells #[.int .u32 0,.int .u32 0,.int .u32 0,.int .u32 0,.int .u32 0,.int .u32 0,.int .u32 0,.int .u32 0] 169 (0,0))]::[(b2,.cells Z0 171 (0,0))]::[(b1,.cells #[.int .u32 (IntKind.wrap .u32 (s.a+sv.a)),.int .u32 (IntKind.wrap .u32 (s.b+sv.b)),.int .u32 (IntKind.wrap .u32 (s.c+sv.c)),.int .u32 (IntKind.wrap .u32 (s.d+sv.d)),.int .u32 (IntKind.wrap .u32 (s.e+sv.e)),.int .u32 (IntKind.wrap .u32 (s.f+sv.f)),.int .u32 (IntKind.wrap .u32 (s.g+sv.g)),.int .u32 (IntKind.wrap .u32 (s.h+sv.h))] 169 (0,0))]::H) (hoff:=Nat.le_of_ble_eq_true rfl) (hfz:=(fun _ _=>F0)) (k:=A6 kr (fun w h=>(h.erase 4)) ?_)
   refine D8 (E':=[⟨3,[],pt b1⟩,⟨6,[],pt b3⟩,⟨13,[],pt b21⟩,⟨179,[],.int .i64 7⟩]) [3,6,13,179] (k:=D5 ?_)
   refine A0 (G_p [0,0] [3,6,13,179] (k:=?_))
   refine N_rd (K7 ?_)
   refine A1 (G_p [0] [3,6,13,179,180] (k:=?_))
   refine A0 (A1 ?_)
   refine I2 kr (G6 ?_)
   refine A8 (A8 ?_)
   refine C7 (A0 ?_)
   refine A1 (A2 ?_)
   refine P8 (ch:=[]) (b:=b1) (off:=0) (l:=[.int .u32 (IntKind.wrap .u32 (s.a+sv.a)),.int .u32 (IntKind.wrap .u32 (s.b+sv.b)),.int .u32 (IntKind.wrap .u32 (s.c+sv.c)),.int .u32 (IntKind.wrap .u32 (s.d+sv.d)),.int .u32 (IntKind.wrap .u32 (s.e+sv.e)),.int .u32 (IntKind.wrap .u32 (s.f+sv.f)),.int .u32 (IntKind.wrap .u32 (s.g+sv.g)),.int .u32 (IntKind.wrap .u32 (s.h+sv.h))]) (hA:=At.grp 4 0 rfl rfl) (k:=G4 (ch:=[]) (b:=b3) (off:=0) (v:=.agg #[.int .u32 (IntKind.wrap .u32 (s.a+sv.a)),.int .u32 (IntKind.wrap .u32 (s.b+sv.b)),.int .u32 (IntKind.wrap .u32 (s.c+sv.c)),.int .u32 (IntKind.wrap .u32 (s.d+sv.d)),.int .u32 (IntKind.wrap .u32 (s.e+sv.e)),.int .u32 (IntKind.wrap .u32 (s.f+sv.f)),.int .u32 (IntKind.wrap .u32 (s.g+sv.g)),.int .u32 (IntKind.wrap .u32 (s.h+sv.h))]) (j:=2) ([(b21,.cells #[.int .u32 sv.a,.int .u32 sv.b,.int .u32 sv.c,.int .u32 sv.d,.int .u32 sv.e,.int .u32 sv.f,.int .u32 sv.g,.int .u32 sv.h] 169 (0,0))]::[(b4,.cells (Y5 (byt l) 64) 171 (0,0))]::[(b3,.cells #[.int .u32 (IntKind.wrap .u32 (s.a+sv.a)),.int .u32 (IntKind.wrap .u32 (s.b+sv.b)),.int .u32 (IntKind.wrap .u32 (s.c+sv.c)),.int .u32 (IntKind.wrap .u32 (s.d+sv.d)),.int .u32 (IntKind.wrap .u32 (s.e+sv.e)),.int .u32 (IntKind.wrap .u32 (s.f+sv.f)),.int .u32 (IntKind.wrap .u32 (s.g+sv.g)),.int .u32 (IntKind.wrap .u32 (s.h+sv.h))] 169 (0,0))]::[(b2,.cells Z0 171 (0,0))]::[(b1,.cells #[.int .u32 (IntKind.wrap .u32 (s.a+sv.a)),.int .u32 (IntKind.wrap .u32 (s.b+sv.b)),.int .u32 (IntKind.wrap .u32 (s.c+sv.c)),.int .u32 (IntKind.wrap .u32 (s.d+sv.d)),.int .u32 (IntKind.wrap .u32 (s.e+sv.e)),.int .u32 (IntKind.wrap .u32 (s.f+sv.f)),.int .u32 (IntKind.wrap .u32 (s.g+sv.g)),.int .u32 (IntKind.wrap .u32 (s.h+sv.h))] 169 (0,0))]::H) (hoff:=Nat.le_of_ble_eq_true rfl) (hfz:=(fun _ _=>F0)) (k:=?_))
   refine D3 (E':=[⟨6,[],pt b3⟩]) [] [6] (k:=A0 ?_)
   refine C3 (N_retC [.cell 6 169] [.agg #[.int .u32 (IntKind.wrap .u32 (s.a+sv.a)),.int .u32 (IntKind.wrap .u32 (s.b+sv.b)),.int .u32 (IntKind.wrap .u32 (s.c+sv.c)),.int .u32 (IntKind.wrap .u32 (s.d+sv.d)),.int .u32 (IntKind.wrap .u32 (s.e+sv.e)),.int .u32 (IntKind.wrap .u32 (s.f+sv.f)),.int .u32 (IntKind.wrap .u32 (s.g+sv.g)),.int .u32 (IntKind.wrap .u32 (s.h+sv.h))]] rfl (.cons (.agg (b:=b3) (off:=0) (l:=[.int .u32 (IntKind.wrap .u32 (s.a+sv.a)),.int .u32 (IntKind.wrap .u32 (s.b+sv.b)),.int .u32 (IntKind.wrap .u32 (s.c+sv.c)),.int .u32 (IntKind.wrap .u32 (s.d+sv.d)),.int .u32 (IntKind.wrap .u32 (s.e+sv.e)),.int .u32 (IntKind.wrap .u32 (s.f+sv.f)),.int .u32 (IntKind.wrap .u32 (s.g+sv.g)),.int .u32 (IntKind.wrap .u32 (s.h+sv.h))]) kr kr kr (At.grp 2 0 rfl rfl) kr) (.nil)) rfl ⟨H,?_,fun w h=>(((((h.erase 4).erase 3).erase 2).erase 1).erase 0)⟩)
   have hcm:M0 (byt l) s=addS s sv:=by (rw [hsv,hi3]; rfl)
   exact ⟨by rw [hcm]; kernel_rfl,rfl⟩
end Go.Proofs.YtlaoeiaaeifidaaGreat
namespace Go.Proofs.YtlaoeiaaeifidaaGreat
open Go.Sw Go.Sha
theorem grow_ (n:Nat) (hn:n≤1099511627776) (W0:World) (H:List Grp):Tri Tryz.prog 138 #[.slice none 0 0,.int .i64 ((n:Nat):Int)] W0 H (fun v H'=>∃ g,Go.Sw.Own 5 1 v g 0 []∧H'=g::H):=by
 refine C8 (args:=[.slice none 0 0,.int .i64 ((n:Nat):Int)]) (n:=27) Tryz.func138 rfl rfl (Nat.le_of_ble_eq_true rfl) ?_
 refine A1 (G_p [0] [0,1] (k:=?_))
 refine A0 (A1 ?_)
 refine A1 (G_p [0,0] [0,1,6] (k:=?_))
 refine A0 (C6 (b:=decide (((n:Nat):Int)<0)) kr (fun hc1=>?_) (fun hc1=>?_))
 ·
  have h9:=of_decide_eq_true hc1; exact absurd h9 (by omega)
 ·
  skip
  refine B5 (A0 ?_)
  refine A1 (A1 ?_)
  refine A2 (A7 (j:=7) [0,0,0,0,0,0,0] (k:=?_))
  refine F2 14 (((n:Nat):Int) - 0) (by omega) (by omega) kr (C4 [0] [0,1] (k:=?_))
  refine A0 (A1 ?_)
  refine G_p [0,0] [0,1,16] (k:=A0 ?_)
  refine C6 (b:=decide ((((n:Nat):Int) - 0) > 0)) kr (fun hc3=>?_) (fun hc3=>?_)
  ·
   have h0:=of_decide_eq_true hc3
   refine A2 (A7 (j:=3) [0,0,0] (k:=?_))
   refine O5 (ch:=[]) (a:=none) (len:=0) (cap:=0) (e:=5) (sz:=1) (vl:=none) (vh:=(some (.int .i64 0))) (l:=0) (h:=0) (hb:=(by omega)) (k:=GL_env (E':=[⟨20,[],.slice none 0 0⟩,⟨19,[],.int .i64 0⟩,⟨18,[],.slice none 0 0⟩,⟨17,[],.slice none 0 0⟩,⟨0,[],.slice none 0 0⟩,⟨1,[],.int .i64 (((n:Nat):Int) - 0)⟩,⟨16,[],.bool (decide ((((n:Nat):Int) - 0) > 0))⟩]) (by have hz:([⟨20,[],.slice (J4 none 0 0 1) (0 - 0) (0 - 0)⟩,⟨19,[],.int .i64 0⟩,⟨18,[],.slice none 0 0⟩,⟨17,[],.slice none 0 0⟩,⟨0,[],.slice none 0 0⟩,⟨1,[],.int .i64 (((n:Nat):Int) - 0)⟩,⟨16,[],.bool (decide ((((n:Nat):Int) - 0) > 0))⟩]:List Sl)=[⟨20,[],.slice none 0 0⟩,⟨19,[],.int .i64 0⟩,⟨18,[],.slice none 0 0⟩,⟨17,[],.slice none 0 0⟩,⟨0,[],.slice none 0 0⟩,⟨1,[],.int .i64 (((n:Nat):Int) - 0)⟩,⟨16,[],.bool (decide ((((n:Nat):Int) - 0) > 0))⟩]:=kr; exact Eq.trans kr hz) ?_)
   refine A7 (j:=5) [0] (k:=GL_appendZ (i:=5) (ch:=[]) (t:=22) (tn:=3) (e:=5) (inf:=Tryz.t5) (n:=n) (kn:=.i64) (kd:=.i64) rfl rfl rfl rfl kr kr kr kr rfl rfl (show 0<1 from Nat.one_pos) kr kr kr (by omega) (by omega) (show n * 1≤281474976710656 by omega) (fun b4 cap5 c6 hcap7 hlen8=>?_))
   refine A7 (j:=8) [0,0] (k:=O5 (ch:=[]) (a:=(some ⟨b4,0,none⟩)) (len:=n) (cap:=cap5) (e:=5) (sz:=1) (vl:=none) (vh:=(some (.int .i64 0))) (l:=0) (h:=0) (hb:=(by omega)) (k:=?_))
   refine GL_env (E':=[⟨25,[],.slice (some ⟨b4,0,none⟩) 0 cap5⟩,⟨24,[],.int .i64 0⟩,⟨23,[],.slice none 0 0⟩,⟨22,[],.slice (some ⟨b4,0,none⟩) n cap5⟩,⟨21,[],.int .i64 (((n:Nat):Int) - 0)⟩,⟨20,[],.slice none 0 0⟩,⟨19,[],.int .i64 0⟩,⟨18,[],.slice none 0 0⟩,⟨17,[],.slice none 0 0⟩,⟨0,[],.slice none 0 0⟩,⟨1,[],.int .i64 (((n:Nat):Int) - 0)⟩,⟨16,[],.bool (decide ((((n:Nat):Int) - 0) > 0))⟩]) (by have hz:([⟨25,[],.slice (J4 (some ⟨b4,0,none⟩) cap5 0 1) (0 - 0) (cap5 - 0)⟩,⟨24,[],.int .i64 0⟩,⟨23,[],.slice none 0 0⟩,⟨22,[],.slice (some ⟨b4,0,none⟩) n cap5⟩,⟨21,[],.int .i64 (((n:Nat):Int) - 0)⟩,⟨20,[],.slice none 0 0⟩,⟨19,[],.int .i64 0⟩,⟨18,[],.slice none 0 0⟩,⟨17,[],.slice none 0 0⟩,⟨0,[],.slice none 0 0⟩,⟨1,[],.int .i64 (((n:Nat):Int) - 0)⟩,⟨16,[],.bool (decide ((((n:Nat):Int) - 0) > 0))⟩]:List Sl)=[⟨25,[],.slice (some ⟨b4,0,none⟩) 0 cap5⟩,⟨24,[],.int .i64 0⟩,⟨23,[],.slice none 0 0⟩,⟨22,[],.slice (some ⟨b4,0,none⟩) n cap5⟩,⟨21,[],.int .i64 (((n:Nat):Int) - 0)⟩,⟨20,[],.slice none 0 0⟩,⟨19,[],.int .i64 0⟩,⟨18,[],.slice none 0 0⟩,⟨17,[],.slice none 0 0⟩,⟨0,[],.slice none 0 0⟩,⟨1,[],.int .i64 (((n:Nat):Int) - 0)⟩,⟨16,[],.bool (decide ((((n:Nat):Int) - 0) > 0))⟩]:=(by simp only [cutA_zero,Nat.sub_zero,Nat.sub_self]); exact Eq.trans kr hz) (C4 [0] [0] (k:=?_))
   refine A0 (A1 ?_)
   refine B4 (E':=[⟨4,[],.slice (some ⟨b4,0,none⟩) 0 cap5⟩]) [0,0] [4] (k:=A0 ?_)
   refine C3 (C1 [.tmp 4] [.slice (some ⟨b4,0,none⟩) 0 cap5] (k:=?_))
   exact ⟨_,own_cut0 hlen8,rfl⟩
  ·
   skip
   refine B5 (A0 ?_)
   refine A1 (B4 (E':=[⟨4,[],.slice none 0 0⟩]) [0,0] [4] (k:=?_))
   refine A0 (C3 ?_)
   refine E0 (H':=[]::H) (fun w h=>h.flat (List.Perm.refl _)) (C1 [.tmp 4] [.slice none 0 0] (k:=?_))
   exact ⟨[],Go.Sw.Own.nil,rfl⟩
theorem concat1 (pb:Nat) (xa:Option Addr) (n xc:Nat) (S:Nat→Obj→Prop) (l:List UInt8) (hl:l.length=n) (hrd:Rd S xa (u8s l)) (h0:xa=none→n=0) (hn:n≤1099511627776) (W0:World) (H:List Grp) (hS:∀ y o,S y o→At W0 H y o):Tri Tryz.prog 123 #[.slice (some ⟨pb,0,none⟩) 1 1] W0 ([(pb,.cells #[.slice xa n xc] 22 (0,0))]::H) (fun v H'=>∃ g,Go.Sw.Own 5 1 v g n (u8s l)∧H'=g::([(pb,.cells #[.slice xa n xc] 22 (0,0))]::H)):=by
 refine C8 (args:=[.slice (some ⟨pb,0,none⟩) 1 1]) (n:=36) Tryz.func123 rfl rfl (Nat.le_of_ble_eq_true rfl) ?_
 refine A1 (G_p [0] [0] (k:=?_))
 refine A0 (A1 ?_)
 refine G_p [0] [0,3] (k:=A0 ?_)
 refine A1 (A1 ?_)
 refine G_p [0,0,0] [0,3,9,10,11] (k:=A0 ?_)
 refine C5 (G_rounds 2 ?_)
 refine K7 (A1 ?_)
 refine G_p [0] [0,3,9,10,11,12] (k:=A0 ?_)
 refine A1 (I1 kr ?_)
 refine B5 (A0 ?_)
 refine A1 (C5 ?_)
 refine A1 (A2 ?_)
 refine B7 (ch:=[]) (a:=(some ⟨pb,0,none⟩)) (len:=1) (cap:=1) (kd:=.i64) (j:=0) (e:=22) (sz:=1) (S:=(inG [(pb,.cells #[.slice xa n xc] 22 (0,0))])) (cs:=[.slice xa n xc]) (hrd:=Rd.lit) (hb:=(fun _=>by exact ⟨by omega,by omega,by first | exact List.cons_ne_nil _ _ | (intro h; simp [strs] at h; simp [h] at *; omega)⟩)) (k:=D4 (ch:=[]) (a:=(some ⟨pb,0,none⟩)) (q:=0 * 1) (S:=(inG [(pb,.cells #[.slice xa n xc] 22 (0,0))])) (cs:=[.slice xa n xc]) (v:=.slice xa n xc) (hrd:=Rd.lit) (hS:=C9 0 rfl) (hv:=(fun _=>rfl)) (k:=?_))
 refine C4 [0] [0,3,5,9,10,11] (k:=A0 ?_)
 refine A1 (A2 ?_)
 refine A7 (j:=4) [0,0,0,0] (k:=F2 18 (0+((n:Nat):Int)) (by omega) (by omega) kr ?_)
 refine D3 (E':=[⟨0,[],.slice (some ⟨pb,0,none⟩) 1 1⟩,⟨3,[],.int .i64 (0+((n:Nat):Int))⟩,⟨9,[],.slice (some ⟨pb,0,none⟩) 1 1⟩,⟨10,[],.int .i64 1⟩,⟨11,[],.int .i64 0⟩]) [0] [0,3,9,10,11] (k:=H8 (E':=[⟨0,[],.slice (some ⟨pb,0,none⟩) 1 1⟩,⟨3,[],.int .i64 ((n:Nat):Int)⟩,⟨9,[],.slice (some ⟨pb,0,none⟩) 1 1⟩,⟨10,[],.int .i64 1⟩,⟨11,[],.int .i64 0⟩]) (by rw [Int.zero_add]) ?_)
 refine A0 (A1 ?_)
 refine G_p [0,0] [0,3,9,10,11,20] (k:=A0 ?_)
 refine C6 (b:=decide (((n:Nat):Int)<0)) kr (fun hc2=>?_) (fun hc2=>?_)
 ·
  have h9:=of_decide_eq_true hc2; exact absurd h9 (by omega)
 ·
  skip
  refine B5 (D5 ?_)
  refine A0 (G_p [0,0] [0,3,9,10,11] (k:=?_))
  refine N_rd (K7 ?_)
  refine A1 (G_p [0] [0,3,9,10,11,12] (k:=?_))
  refine A0 (A1 ?_)
  refine I2 kr (G6 ?_)
  refine A8 (A8 ?_)
  refine C7 (A0 ?_)
  refine A1 (A2 ?_)
  refine A7 (j:=1) [0] (k:=G2 Tryz.func138 (grow_ n hn _ _) ?_)
  rintro v5 H' ⟨g3,hO4,rfl⟩
  refine C4 [0] [0,6] (k:=A0 ?_)
  refine A1 (A1 ?_)
  refine G_p [0,0,0] [6,25,26,27] (k:=A0 ?_)
  refine C5 (G_rounds 2 ?_)
  refine K7 (A1 ?_)
  refine B4 (E':=[⟨6,[],v5⟩,⟨25,[],.slice (some ⟨pb,0,none⟩) 1 1⟩,⟨26,[],.int .i64 1⟩,⟨27,[],.int .i64 0⟩,⟨28,[],.bool true⟩]) [0] [6,25,26,27,28] (k:=A0 ?_)
  refine A1 (I1 kr ?_)
  refine B5 (A0 ?_)
  refine A1 (C5 ?_)
  refine A1 (A2 ?_)
  refine B7 (ch:=[]) (a:=(some ⟨pb,0,none⟩)) (len:=1) (cap:=1) (kd:=.i64) (j:=0) (e:=22) (sz:=1) (S:=(inG [(pb,.cells #[.slice xa n xc] 22 (0,0))])) (cs:=[.slice xa n xc]) (hrd:=Rd.lit) (hb:=(fun _=>by exact ⟨by omega,by omega,by first | exact List.cons_ne_nil _ _ | (intro h; simp [strs] at h; simp [h] at *; omega)⟩)) (k:=D4 (ch:=[]) (a:=(some ⟨pb,0,none⟩)) (q:=0 * 1) (S:=(inG [(pb,.cells #[.slice xa n xc] 22 (0,0))])) (cs:=[.slice xa n xc]) (v:=.slice xa n xc) (hrd:=Rd.lit) (hS:=C9 1 rfl) (hv:=(fun _=>rfl)) (k:=?_))
  refine C4 [0] [6,8,25,26,27] (k:=A0 ?_)
  refine A2 (A7 (j:=2) [0,0] (k:=?_))
  refine E9 (i:=2) (ch:=[]) (t:=22) (tx:=22) (e:=5) (inf:=Tryz.t5) (s:=v5) (x:=.slice xa n xc) (n:=0) (m:=n) (j:=0) (cs:=[]) (news:=(u8s l)) (g:=g3) (S:=S) rfl rfl rfl rfl kr kr kr rfl rfl (.inl ⟨5,kr⟩) (fun ⟨_,h⟩=>by cases h) (fun _=>⟨5,kr⟩) kr kr kr rfl hO4 (SrcOf.slice _ _ _ _ hrd h0) (fun y o h=>(At.cons (At.cons (hS y o h)))) (by show (u8s l).length=n * 1; simp [u8s,hl]) u8_one (by omega) (by show (0+n) * 1≤140737488355328; omega) (fun v6 g7 hO8=>?_)
  replace hO8:=T5 hO8
  refine C4 [0] [6,25,26,27] (k:=D5 ?_)
  refine A0 (G_p [0,0] [6,25,26,27] (k:=?_))
  refine N_rd (K7 ?_)
  refine A1 (G_p [0] [6,25,26,27,28] (k:=?_))
  refine A0 (A1 ?_)
  refine I2 kr (G6 ?_)
  refine A8 (A8 ?_)
  refine C7 (A0 ?_)
  refine A1 (B4 (E':=[⟨2,[],v6⟩]) [0,0] [2] (k:=?_))
  refine A0 (C3 ?_)
  refine C1 [.tmp 2] [v6] (k:=?_)
  exact ⟨_,hO8,rfl⟩
theorem chunk_ (a:Option Addr) (n c:Nat) (W0:World) (H:List Grp):Tri Tryz.prog 127 #[.slice a n c,.int .i64 64] W0 H (fun v H'=>∃ kb nb,v=.func (.func 139) #[] #[pt kb,pt nb]∧H'=[(nb,.cells #[.int .i64 64] 3 (0,0))]::[(kb,.cells #[.slice a n c] 22 (0,0))]::H):=by
 refine C8 (args:=[.slice a n c,.int .i64 64]) (n:=9) Tryz.func127 rfl rfl (Nat.le_of_ble_eq_true rfl) ?_
 refine A1 (A2 ?_)
 refine R3 (ch:=[]) (v:=.slice a n c) (k:=(fun b1=>?_))
 refine R3 (ch:=[]) (v:=.int .i64 64) (k:=(fun b2=>?_))
 refine D3 (E':=[⟨2,[],pt b1⟩,⟨3,[],pt b2⟩]) [0] [2,3] (k:=A0 ?_)
 refine A1 (A1 ?_)
 refine A2 (A5 (ch:=[]) (b:=b2) (off:=0) (v:=.int .i64 64) (hA:=At.grp 0 0 rfl rfl) (k:=?_))
 refine C4 [0] [2,3,6] (k:=A0 ?_)
 refine I2 kr (B5 ?_)
 refine A0 (A1 ?_)
 refine G_p [0,0] [4] (k:=A0 ?_)
 refine C3 (C1 [.tmp 4] [.func (.func 139) #[] #[pt b1,pt b2]] (k:=?_))
 exact ⟨_,_,rfl,rfl⟩
end Go.Proofs.YtlaoeiaaeifidaaGreat
namespace Go.Proofs.YtlaoeiaaeifidaaGreat
open Go.Sw Go.Sha
theorem sum_ (pb:Nat) (xa:Option Addr) (xc:Nat) (S:Nat→Obj→Prop) (l:List UInt8) (hrd:Rd S xa (u8s l)) (h0:xa=none→l.length=0) (hn:l.length≤1099511627776) (W0:World) (H:List Grp) (hS:∀ y o,S y o→At W0 H y o):Tri Tryz.prog 103 #[.slice (some ⟨pb,0,none⟩) 1 1] W0 ([(pb,.cells #[.slice xa l.length xc] 22 (0,0))]::H) (fun v H'=>v=.agg (u8s (Y0 l)).toArray∧H'=([(pb,.cells #[.slice xa l.length xc] 22 (0,0))]::H)):=by
 refine Tri_ofM (args:=[.slice (some ⟨pb,0,none⟩) 1 1]) (n:=73) Tryz.func103 rfl rfl (Nat.le_of_ble_eq_true rfl) ?_
 refine A1 (A2 ?_)
 refine K5 (ch:=[]) (z:=.agg z32) (k:=(fun b1=>?_))
 refine C4 [] [0,2] (k:=A0 ?_)
 refine A1 (A2 ?_)
 refine A7 (j:=1) [0] (k:=I5 rfl (H':=([(pb,.cells #[.slice xa l.length xc] 22 (0,0))]::[(b1,.cells z32 148 (0,0))]::H)) (fun w h=>(h.front (j:=1) rfl)) ?_)
 refine G2 Tryz.func123 (concat1 pb xa l.length xc S l rfl hrd h0 hn _ _ (fun y o h=>(At.cons (hS y o h)))) ?_
 rintro v4 H' ⟨g2,hO3,rfl⟩
 obtain ⟨a5,cap6,rfl,hcap7,hrd8⟩:=hO3.shape
 refine C4 [0] [2,3] (k:=A0 ?_)
 refine A1 (B4 (E':=[⟨2,[],pt b1⟩,⟨3,[],.slice a5 l.length cap6⟩,⟨4,[],.int .u64 (IntKind.wrap .u64 ((IntKind.wrap .u64 ((l.length:Nat):Int)) * 8))⟩]) [0,0,0,0,0] [2,3,4] (k:=?_))
 refine H8 (E':=[⟨2,[],pt b1⟩,⟨3,[],.slice a5 l.length cap6⟩,⟨4,[],.int .u64 ((8 * l.length:Nat):Int)⟩]) (by rw [len8 hn]) (A0 ?_)
 refine A1 (A2 ?_)
 refine A7 (j:=1) [0] (k:=C2 (ch:=[]) (e:=5) (l:=[(0,.int .u8 128)]) (c:=[.int .u8 128]) (k:=(fun b9=>?_)))
 refine E9 (i:=2) (ch:=[]) (t:=22) (tx:=22) (e:=5) (inf:=Tryz.t5) (s:=.slice a5 l.length cap6) (x:=.slice (some ⟨b9,0,none⟩) 1 1) (n:=l.length) (m:=1) (j:=1) (cs:=(u8s l)) (news:=[.int .u8 128]) (g:=g2) (S:=(inG [(b9,.cells #[.int .u8 128] 5 (0,0))])) rfl rfl rfl rfl kr kr kr rfl rfl (.inl ⟨5,kr⟩) (fun ⟨_,h⟩=>by cases h) (fun _=>⟨5,kr⟩) kr kr kr rfl hO3 (SrcOf.slice _ _ _ _ Rd.lit (fun h=>by cases h)) (C9 0 rfl) kr (by first | exact u8_one | (intro u hu; simp only [List.mem_cons,List.not_mem_nil,or_false] at hu; rcases hu with rfl; rfl)) (by omega) (by show (l.length+1) * 1≤140737488355328; omega) (fun v10 g11 hO12=>?_)
 obtain ⟨a13,cap14,rfl,hcap15,hrd16⟩:=hO12.shape
 refine C4 [0] [2,3,4] (k:=A0 ?_)
 refine A1 (C5 ?_)
 refine R8 (H':=(g11::[(b1,.cells z32 148 (0,0))]::[(pb,.cells #[.slice xa l.length xc] 22 (0,0))]::H)) (fun w h=>((((h.front (j:=2) rfl).front (j:=3) rfl).front (j:=3) rfl).erase 3)) (I8 (EI:=(fun ξ:Nat × Option Addr × Nat × Grp=>[⟨2,[],pt b1⟩,⟨3,[],.slice ξ.2.1 (l.length+1+ξ.1) ξ.2.2.1⟩,⟨4,[],.int .u64 ((8 * l.length:Nat):Int)⟩])) (HI:=(fun ξ:Nat × Option Addr × Nat × Grp=>(ξ.2.2.2::[(b1,.cells z32 148 (0,0))]::[(pb,.cells #[.slice xa l.length xc] 22 (0,0))]::H))) (Φ:=(fun ξ:Nat × Option Addr × Nat × Grp=>(ξ.1≤padZ l.length)∧(Go.Sw.Own 5 1 (.slice ξ.2.1 (l.length+1+ξ.1) ξ.2.2.1) ξ.2.2.2 (l.length+1+ξ.1) (u8s (padK l ξ.1))))) (μ:=(fun ξ:Nat × Option Addr × Nat × Grp=>padZ l.length - ξ.1)) (s0:=(0,a13,cap14,g11)) [2,3,4] kr rfl ⟨(by omega),(Z9 hO12 (padK_zero l))⟩ ?_)
 rintro ⟨k,a3,c3,g3⟩ ⟨hk,hO3⟩
 have hpz:=(pad_mod l.length).2
 refine A1 (A1 ?_)
 refine A2 (A7 (j:=3) [0,0,0] (k:=?_))
 have hw17:Int.tmod (((l.length+1+k):Nat):Int) 64=(((l.length+1+k):Nat):Int) % 64:=r64 (by omega)
 refine GL_w 22 hw17 kr (C4 [0] [2,3,4,23] (k:=?_))
 refine A0 (C6 (b:=((((l.length+1+k):Nat):Int) % 64) != 56) kr (fun hc18=>?_) (fun hc18=>?_))
 ·
  have hlt:=(pad_more hk).1 hc18
  refine B5 (A0 ?_)
  refine C5 (A2 ?_)
  refine A7 (j:=1) [0] (k:=C2 (ch:=[]) (e:=5) (l:=[(0,.int .u8 0)]) (c:=[.int .u8 0]) (k:=(fun b19=>?_)))
  refine E9 (i:=2) (ch:=[]) (t:=22) (tx:=22) (e:=5) (inf:=Tryz.t5) (s:=.slice a3 (l.length+1+k) c3) (x:=.slice (some ⟨b19,0,none⟩) 1 1) (n:=(l.length+1+k)) (m:=1) (j:=1) (cs:=(u8s (padK l k))) (news:=[.int .u8 0]) (g:=g3) (S:=(inG [(b19,.cells #[.int .u8 0] 5 (0,0))])) rfl rfl rfl rfl kr kr kr rfl rfl (.inl ⟨5,kr⟩) (fun ⟨_,h⟩=>by cases h) (fun _=>⟨5,kr⟩) kr kr kr rfl hO3 (SrcOf.slice _ _ _ _ Rd.lit (fun h=>by cases h)) (C9 0 rfl) kr (by first | exact u8_one | (intro u hu; simp only [List.mem_cons,List.not_mem_nil,or_false] at hu; rcases hu with rfl; rfl)) (by omega) (by show ((l.length+1+k)+1) * 1≤140737488355328; omega) (fun v20 g21 hO22=>?_)
  obtain ⟨a23,cap24,rfl,hcap25,hrd26⟩:=hO22.shape
  refine C4 [0] [2,3,4] (k:=D5 ?_)
  refine E0 (H':=(g21::[(b1,.cells z32 148 (0,0))]::[(pb,.cells #[.slice xa l.length xc] 22 (0,0))]::H)) (fun w h=>(h.erase 0)) (E5 (s':=(k+1,a23,cap24,g21)) [2,3,4] kr rfl ⟨(by omega),(Z9 hO22 (padK_succ l k))⟩ (by omega))
 ·
  have hke:k=padZ l.length:=(pad_more hk).2 hc18
  refine G6 (A8 ?_)
  refine A8 (C7 ?_)
  refine A0 (A1 ?_)
  refine A2 (A7 (j:=2) [0,0] (k:=?_))
  refine G2 Tryz.func124 (eight_ ((8 * l.length:Nat):Int) (by omega) (by omega) _ _) ?_
  rintro v29 H' ⟨g27,hO28,rfl⟩
  obtain ⟨a30,cap31,rfl,hcap32,hrd33⟩:=hO28.shape
  refine E9 (i:=3) (ch:=[]) (t:=22) (tx:=22) (e:=5) (inf:=Tryz.t5) (s:=.slice a3 (l.length+1+k) c3) (x:=.slice a30 8 cap31) (n:=(l.length+1+k)) (m:=8) (j:=1) (cs:=(u8s (padK l k))) (news:=(u8s (T8 ((8 * l.length:Nat):Int)))) (g:=g3) (S:=(inG g27)) rfl rfl rfl rfl kr kr kr rfl rfl (.inl ⟨5,kr⟩) (fun ⟨_,h⟩=>by cases h) (fun _=>⟨5,kr⟩) kr kr kr rfl hO3 (SrcOf.slice _ _ _ _ hrd33 (A0t hO28)) (C9 0 rfl) kr (by first | exact u8_one | (intro u hu; simp only [List.mem_cons,List.not_mem_nil,or_false] at hu; rcases hu with rfl; rfl)) (by omega) (by show ((l.length+1+k)+8) * 1≤140737488355328; omega) (fun v34 g35 hO36=>?_)
  obtain ⟨a37,cap38,rfl,hcap39,hrd40⟩:=hO36.shape
  refine C4 [0] [2,3] (k:=A0 ?_)
  refine A1 (A2 ?_)
  refine G2 Tryz.func125 (beginnings_ _ _) ?_
  rintro v H' ⟨rfl,rfl⟩
  refine G2 Tryz.func126 (rounds_ _ _) ?_
  rintro v H' ⟨rfl,rfl⟩
  refine K5 (ch:=[]) (z:=.agg #[.int .u32 0,.int .u32 0,.int .u32 0,.int .u32 0,.int .u32 0,.int .u32 0,.int .u32 0,.int .u32 0]) (k:=(fun b41=>?_))
  refine K5 (ch:=[]) (z:=.agg kz64) (k:=(fun b42=>?_))
  refine G4 (ch:=[]) (b:=b41) (off:=0) (v:=.agg #[.int .u32 1779033703,.int .u32 3144134277,.int .u32 1013904242,.int .u32 2773480762,.int .u32 1359893119,.int .u32 2600822924,.int .u32 528734635,.int .u32 1541459225]) (j:=1) ([(b42,.cells kz64 171 (0,0))]::[(b41,.cells #[.int .u32 1779033703,.int .u32 3144134277,.int .u32 1013904242,.int .u32 2773480762,.int .u32 1359893119,.int .u32 2600822924,.int .u32 528734635,.int .u32 1541459225] 169 (0,0))]::g27::g35::[(b1,.cells z32 148 (0,0))]::[(pb,.cells #[.slice xa l.length xc] 22 (0,0))]::H) (hoff:=Nat.le_of_ble_eq_true rfl) (hfz:=(fun _ _=>F0)) (k:=M7 (ch:=[]) (b:=b42) (off:=0) (v:=.agg Z0) (c:=kz64) (c':=Z0) (j:=0) (m:=0) (H':=([(b42,.cells Z0 171 (0,0))]::[(b41,.cells #[.int .u32 1779033703,.int .u32 3144134277,.int .u32 1013904242,.int .u32 2773480762,.int .u32 1359893119,.int .u32 2600822924,.int .u32 528734635,.int .u32 1541459225] 169 (0,0))]::g27::g35::[(b1,.cells z32 148 (0,0))]::[(pb,.cells #[.slice xa l.length xc] 22 (0,0))]::H)) (hoff:=Nat.le_of_ble_eq_true rfl) (hfz:=(fun _ _=>F0)) (k:=?_))
  refine C4 [] [2,3,5,6] (k:=A0 ?_)
  refine A1 (A1 ?_)
  refine A2 (A7 (j:=1) [0] (k:=?_))
  refine G2 Tryz.func127 (chunk_ a37 ((l.length+1+k)+8) cap38 _ _) ?_
  rintro v H' ⟨kb43,nb44,rfl,rfl⟩
  refine C4 [] [2,5,6,34] (k:=A0 ?_)
  refine C5 (G_env (E':=[⟨2,[],pt b1⟩,⟨5,[],pt b41⟩,⟨6,[],pt b42⟩,⟨34,[],.func (.func 139) #[] #[pt kb43,pt nb44]⟩]) kr ?_)
  obtain ⟨b6,hb6⟩:=own_some hO36 (by omega)
  obtain ⟨hm6,hP⟩:=padB_m l hke
  have hO6:=Z9 hO36 (padB_cs l hke)
  rw [hb6] at hO6
  have hc6:l.length+1+k+8≤cap38:=ownC_cap hO36
  refine R8 (H':=([(nb44,.cells #[.int .i64 64] 3 (0,0))]::[(kb43,.cells #[.slice (some ⟨b6,0,none⟩) (64 * ((H4 l).length / 64)) cap38] 22 (0,0))]::[(b42,.cells Z0 171 (0,0))]::[(b41,.cells #[.int .u32 1779033703,.int .u32 3144134277,.int .u32 1013904242,.int .u32 2773480762,.int .u32 1359893119,.int .u32 2600822924,.int .u32 528734635,.int .u32 1541459225] 169 (0,0))]::g27::g35::[(b1,.cells z32 148 (0,0))]::[(pb,.cells #[.slice xa l.length xc] 22 (0,0))]::H)) (fun w h=>by rw [hb6,hm6] at h; exact h) (G_rangeFunc (α:=Fin ((H4 l).length / 64)) (gf:=139) (lb:=#[pt kb43,pt nb44]) (encs:=fun x:Fin ((H4 l).length / 64)=>#[.slice (some ⟨b6,0+64 * x.1,none⟩) 64 64]) (S:=fun xs=>xs=List.finRange ((H4 l).length / 64)) (Sp:=fun _=>True) (N0:=((H4 l).length / 64)) rfl kr (enters_of Tryz.func139 kr rfl) [[(kb43,.cells #[.slice (some ⟨b6,0,none⟩) (64 * ((H4 l).length / 64)) cap38] 22 (0,0))],[(nb44,.cells #[.int .i64 64] 3 (0,0))]] (fun p hp=>by obtain ⟨g,hg,hp1⟩:=List.mem_flatten.1 hp; simp only [List.mem_cons,List.not_mem_nil,or_false] at hg; rcases hg with rfl | rfl; exact List.mem_flatten.2 ⟨_,List.mem_of_getElem? (i:=1) rfl,hp1⟩; exact List.mem_flatten.2 ⟨_,List.mem_of_getElem? (i:=0) rfl,hp1⟩) (fun w hs=>chunk_stops kb43 nb44 b6 0 cap38 ((H4 l).length / 64) (by omega) (by omega) w (hs.has (kb43,_) (List.mem_flatten.2 ⟨_,List.mem_of_getElem? (i:=1) rfl,List.mem_singleton.2 rfl⟩)) (hs.has (nb44,_) (List.mem_flatten.2 ⟨_,List.mem_of_getElem? (i:=0) rfl,List.mem_singleton.2 rfl⟩))) (fun pre=>([(nb44,.cells #[.int .i64 64] 3 (0,0))]::[(kb43,.cells #[.slice (some ⟨b6,0,none⟩) (64 * ((H4 l).length / 64)) cap38] 22 (0,0))]::[(b42,.cells Z0 171 (0,0))]::[(b41,.cells #[.int .u32 ((L4 (H4 l) pre).a),.int .u32 ((L4 (H4 l) pre).b),.int .u32 ((L4 (H4 l) pre).c),.int .u32 ((L4 (H4 l) pre).d),.int .u32 ((L4 (H4 l) pre).e),.int .u32 ((L4 (H4 l) pre).f),.int .u32 ((L4 (H4 l) pre).g),.int .u32 ((L4 (H4 l) pre).h)] 169 (0,0))]::g27::g35::[(b1,.cells z32 148 (0,0))]::[(pb,.cells #[.slice xa l.length xc] 22 (0,0))]::H)) (fun _ _ _=>False) kr (fun _ p hp=>by obtain ⟨g,hg,hp1⟩:=List.mem_flatten.1 hp; simp only [List.mem_cons,List.not_mem_nil,or_false] at hg; rcases hg with rfl | rfl; exact List.mem_flatten.2 ⟨_,List.mem_of_getElem? (i:=1) rfl,hp1⟩; exact List.mem_flatten.2 ⟨_,List.mem_of_getElem? (i:=0) rfl,hp1⟩) (fun xs=>calm_set (j:=3) (g':=[(b41,.cells #[.int .u32 ((L4 (H4 l) xs).a),.int .u32 ((L4 (H4 l) xs).b),.int .u32 ((L4 (H4 l) xs).c),.int .u32 ((L4 (H4 l) xs).d),.int .u32 ((L4 (H4 l) xs).e),.int .u32 ((L4 (H4 l) xs).f),.int .u32 ((L4 (H4 l) xs).g),.int .u32 ((L4 (H4 l) xs).h)] 169 (0,0))]) (fun p hp=>by rw [List.mem_singleton.1 hp]; rfl)) (fun _ _ _ h=>h.elim) (fun _=>rfl) (fun t ht=>by have h9:=List.mem_singleton.1 (Array.mem_toList_iff.2 ht); subst h9; exact Nat.le_of_ble_eq_true rfl) (fun x=>[⟨7,[],.slice (some ⟨b6,0+64 * x.1,none⟩) 64 64⟩,⟨2,[],pt b1⟩,⟨5,[],pt b41⟩,⟨6,[],pt b42⟩]) ?_ ?_ ?_ (fun _ _ _ _ _ h=>h.elim))
  ·
   exact fun r L D pre x=>GR_region rfl (fun _ _ h=>by cases h.1) (D3 (E':=[⟨7,[],.slice (some ⟨b6,0+64 * x.1,none⟩) 64 64⟩,⟨2,[],pt b1⟩,⟨5,[],pt b41⟩,⟨6,[],pt b42⟩]) [0] [7,2,5,6] rfl (by kernel_rfl) (fun a w ha hs=>⟨rfl,ha,hs⟩))
  ·
   intro r L D pre x hlen
   refine GR_block (GR_region rfl (fun _ _ h=>h) ?_)
   refine P8 (ch:=[]) (b:=b41) (off:=0) (l:=[.int .u32 ((L4 (H4 l) pre).a),.int .u32 ((L4 (H4 l) pre).b),.int .u32 ((L4 (H4 l) pre).c),.int .u32 ((L4 (H4 l) pre).d),.int .u32 ((L4 (H4 l) pre).e),.int .u32 ((L4 (H4 l) pre).f),.int .u32 ((L4 (H4 l) pre).g),.int .u32 ((L4 (H4 l) pre).h)]) (hA:=At.grp 5 0 rfl rfl) (k:=A7 (j:=2) [0] (k:=?_))
   refine P8 (ch:=[]) (b:=b42) (off:=0) (l:=(H6 kTab)) (hA:=At.grp 4 0 rfl rfl) (k:=G2 Tryz.func128 (block_ (L4 (H4 l) pre) (some ⟨b6,0+64 * x.1,none⟩) 64 (inG g35) (L6 (H4 l) x.1) (chunkOf_len hP x.2) (by rw [chunkOf_u8s]; exact own_rd_at hO6) _ _ (C9 7 rfl)) ?_)
   rintro v H' ⟨rfl,rfl⟩
   refine G4 (ch:=[]) (b:=b41) (off:=0) (v:=.agg #[.int .u32 ((M0 (byt (L6 (H4 l) x.1)) (L4 (H4 l) pre)).a),.int .u32 ((M0 (byt (L6 (H4 l) x.1)) (L4 (H4 l) pre)).b),.int .u32 ((M0 (byt (L6 (H4 l) x.1)) (L4 (H4 l) pre)).c),.int .u32 ((M0 (byt (L6 (H4 l) x.1)) (L4 (H4 l) pre)).d),.int .u32 ((M0 (byt (L6 (H4 l) x.1)) (L4 (H4 l) pre)).e),.int .u32 ((M0 (byt (L6 (H4 l) x.1)) (L4 (H4 l) pre)).f),.int .u32 ((M0 (byt (L6 (H4 l) x.1)) (L4 (H4 l) pre)).g),.int .u32 ((M0 (byt (L6 (H4 l) x.1)) (L4 (H4 l) pre)).h)]) (j:=5) (L::D::[(nb44,.cells #[.int .i64 64] 3 (0,0))]::[(kb43,.cells #[.slice (some ⟨b6,0,none⟩) (64 * ((H4 l).length / 64)) cap38] 22 (0,0))]::[(b42,.cells Z0 171 (0,0))]::[(b41,.cells #[.int .u32 ((M0 (byt (L6 (H4 l) x.1)) (L4 (H4 l) pre)).a),.int .u32 ((M0 (byt (L6 (H4 l) x.1)) (L4 (H4 l) pre)).b),.int .u32 ((M0 (byt (L6 (H4 l) x.1)) (L4 (H4 l) pre)).c),.int .u32 ((M0 (byt (L6 (H4 l) x.1)) (L4 (H4 l) pre)).d),.int .u32 ((M0 (byt (L6 (H4 l) x.1)) (L4 (H4 l) pre)).e),.int .u32 ((M0 (byt (L6 (H4 l) x.1)) (L4 (H4 l) pre)).f),.int .u32 ((M0 (byt (L6 (H4 l) x.1)) (L4 (H4 l) pre)).g),.int .u32 ((M0 (byt (L6 (H4 l) x.1)) (L4 (H4 l) pre)).h)] 169 (0,0))]::g27::g35::[(b1,.cells z32 148 (0,0))]::[(pb,.cells #[.slice xa l.length xc] 22 (0,0))]::H) (hoff:=Nat.le_of_ble_eq_true rfl) (hfz:=(fun _ _=>F0)) (k:=D3 (E':=[]) [] [] (k:=?_))
   intro a w ha hs
   show Sat W0 (L::D::([(nb44,.cells #[.int .i64 64] 3 (0,0))]::[(kb43,.cells #[.slice (some ⟨b6,0,none⟩) (64 * ((H4 l).length / 64)) cap38] 22 (0,0))]::[(b42,.cells Z0 171 (0,0))]::[(b41,.cells #[.int .u32 ((L4 (H4 l) (pre++[x])).a),.int .u32 ((L4 (H4 l) (pre++[x])).b),.int .u32 ((L4 (H4 l) (pre++[x])).c),.int .u32 ((L4 (H4 l) (pre++[x])).d),.int .u32 ((L4 (H4 l) (pre++[x])).e),.int .u32 ((L4 (H4 l) (pre++[x])).f),.int .u32 ((L4 (H4 l) (pre++[x])).g),.int .u32 ((L4 (H4 l) (pre++[x])).h)] 169 (0,0))]::g27::g35::[(b1,.cells z32 148 (0,0))]::[(pb,.cells #[.slice xa l.length xc] 22 (0,0))]::H)) w
   rw [foldB_snoc]
   exact hs
  ·
   intro D1 xs hxs
   subst hxs
   refine E0 (H':=([(D1,.deferred (some []))]::[(nb44,.cells #[.int .i64 64] 3 (0,0))]::[(kb43,.cells #[.slice (some ⟨b6,0,none⟩) (64 * ((H4 l).length / 64)) cap38] 22 (0,0))]::[(b42,.cells Z0 171 (0,0))]::[(b41,.cells #[.int .u32 ((S3 l).a),.int .u32 ((S3 l).b),.int .u32 ((S3 l).c),.int .u32 ((S3 l).d),.int .u32 ((S3 l).e),.int .u32 ((S3 l).f),.int .u32 ((S3 l).g),.int .u32 ((S3 l).h)] 169 (0,0))]::g27::g35::[(b1,.cells z32 148 (0,0))]::[(pb,.cells #[.slice xa l.length xc] 22 (0,0))]::H)) (fun w h=>h) (D5 ?_)
   refine A0 (A1 ?_)
   refine A2 (K5 (ch:=[]) (z:=.agg (oArr (S3 l) 0)) (k:=(fun b45=>?_)))
   refine C4 [] [2,5,8] (k:=A0 ?_)
   refine A1 (A1 ?_)
   refine A2 (P8 (ch:=[]) (b:=b41) (off:=0) (l:=[.int .u32 ((S3 l).a),.int .u32 ((S3 l).b),.int .u32 ((S3 l).c),.int .u32 ((S3 l).d),.int .u32 ((S3 l).e),.int .u32 ((S3 l).f),.int .u32 ((S3 l).g),.int .u32 ((S3 l).h)]) (hA:=At.grp 5 0 rfl rfl) (k:=?_))
   refine C4 [0] [2,8,40,41] (k:=A0 ?_)
   refine C5 (R8 (H':=([(b45,.cells (oArr (S3 l) 0) 148 (0,0))]::[(D1,.deferred (some []))]::[(b1,.cells z32 148 (0,0))]::[(pb,.cells #[.slice xa l.length xc] 22 (0,0))]::H)) (fun w h=>((((((h.erase 7).erase 6).erase 5).erase 4).erase 3).erase 2)) ?_)
   refine I8 (EI:=(fun ξ:Nat=>[⟨2,[],pt b1⟩,⟨8,[],pt b45⟩,⟨40,[],.agg #[.int .u32 ((S3 l).a),.int .u32 ((S3 l).b),.int .u32 ((S3 l).c),.int .u32 ((S3 l).d),.int .u32 ((S3 l).e),.int .u32 ((S3 l).f),.int .u32 ((S3 l).g),.int .u32 ((S3 l).h)]⟩,⟨41,[],.int .i64 ((ξ:Nat):Int)⟩])) (HI:=(fun ξ:Nat=>([(b45,.cells (oArr (S3 l) (4 * ξ)) 148 (0,0))]::[(D1,.deferred (some []))]::[(b1,.cells z32 148 (0,0))]::[(pb,.cells #[.slice xa l.length xc] 22 (0,0))]::H))) (Φ:=(fun ξ:Nat=>(ξ≤8))) (μ:=(fun ξ:Nat=>8 - ξ)) (s0:=(0)) [2,8,40,41] kr rfl (by omega) ?_
   rintro j hj
   refine A1 (G_p [0] [2,8,40,41,42] (k:=?_))
   refine A0 (A1 ?_)
   refine C6 (b:=decide (((j:Nat):Int)<8)) kr (fun hc46=>?_) (fun hc46=>?_)
   ·
    have hj8:=of_decide_eq_true hc46
    replace hj8:j<8:=by omega
    refine B5 (A0 ?_)
    refine A1 (C5 ?_)
    refine A1 (A2 ?_)
    refine A7 (j:=1) [0] (k:=GL_indexV (i:=1) (ch:=[]) (vs:=#[.int .u32 ((S3 l).a),.int .u32 ((S3 l).b),.int .u32 ((S3 l).c),.int .u32 ((S3 l).d),.int .u32 ((S3 l).e),.int .u32 ((S3 l).f),.int .u32 ((S3 l).g),.int .u32 ((S3 l).h)]) (kd:=.i64) (j:=((j:Nat):Int)) (len:=8) (e:=144) (v:=.int .u32 (wd (S3 l) j)) rfl rfl kr kr kr kr kr kr kr kr (fun _=>⟨by omega,by omega,by rw [Int.toNat_natCast]; exact wd_at _ hj8⟩) ?_)
    refine C4 [0,0] [2,8,9,10,40,41] (k:=A0 ?_)
    refine A2 (A7 (j:=2) [0,0] (k:=?_))
    refine F2 46 (4 * ((j:Nat):Int)) (by omega) (by omega) kr (A7 (j:=4) [0,0] (k:=?_))
    refine F2 48 (4 * ((j:Nat):Int)) (by omega) (by omega) kr (A7 (j:=5) [0] (k:=?_))
    refine F2 49 ((4 * ((j:Nat):Int))+1) (by omega) (by omega) kr (A7 (j:=7) [0,0] (k:=?_))
    refine F2 51 (4 * ((j:Nat):Int)) (by omega) (by omega) kr (A7 (j:=8) [0] (k:=?_))
    refine F2 52 ((4 * ((j:Nat):Int))+2) (by omega) (by omega) kr (A7 (j:=10) [0,0] (k:=?_))
    refine F2 54 (4 * ((j:Nat):Int)) (by omega) (by omega) kr (A7 (j:=11) [0] (k:=?_))
    refine F2 55 ((4 * ((j:Nat):Int))+3) (by omega) (by omega) kr (A7 (j:=22) [0,0,0,0,0,0,0,0,0,0,0] (k:=?_))
    refine E2 (ch:=[]) (b:=b45) (off:=0) (len:=32) (sz:=1) (e:=5) (kd:=.i64) (j:=4 * ((j:Nat):Int)) (hb:=(fun _=>by exact ⟨by omega,by omega⟩)) (k:=M7 (ch:=[]) (b:=b45) (off:=0+Int.toNat (4 * ((j:Nat):Int)) * 1) (v:=.int .u8 (IntKind.wrap .u8 (Int.fdiv (wd (S3 l) j) (2 ^ 24)))) (c:=(oArr (S3 l) (4 * j))) (c':=(oArr (S3 l) (4 * j+1))) (j:=0) (m:=0) (H':=([(b45,.cells (oArr (S3 l) (4 * j+1)) 148 (0,0))]::[(D1,.deferred (some []))]::[(b1,.cells z32 148 (0,0))]::[(pb,.cells #[.slice xa l.length xc] 22 (0,0))]::H)) (hoff:=(by rw [oArr_size _ (by omega)]; show 0+Int.toNat _ * 1+1≤32; omega)) (hfz:=(fun _ _=>F0)) (hc':=oArr_set _ (q:=(4 * ((j:Nat):Int))) (j:=4 * j) (by omega) (by omega) (by rw [(outB_at _ hj8).1,← wrap_b8])) (k:=?_))
    refine E2 (ch:=[]) (b:=b45) (off:=0) (len:=32) (sz:=1) (e:=5) (kd:=.i64) (j:=(4 * ((j:Nat):Int))+1) (hb:=(fun _=>by exact ⟨by omega,by omega⟩)) (k:=M7 (ch:=[]) (b:=b45) (off:=0+Int.toNat ((4 * ((j:Nat):Int))+1) * 1) (v:=.int .u8 (IntKind.wrap .u8 (Int.fdiv (wd (S3 l) j) (2 ^ 16)))) (c:=(oArr (S3 l) (4 * j+1))) (c':=(oArr (S3 l) (4 * j+2))) (j:=0) (m:=0) (H':=([(b45,.cells (oArr (S3 l) (4 * j+2)) 148 (0,0))]::[(D1,.deferred (some []))]::[(b1,.cells z32 148 (0,0))]::[(pb,.cells #[.slice xa l.length xc] 22 (0,0))]::H)) (hoff:=(by rw [oArr_size _ (by omega)]; show 0+Int.toNat _ * 1+1≤32; omega)) (hfz:=(fun _ _=>F0)) (hc':=oArr_set _ (q:=((4 * ((j:Nat):Int))+1)) (j:=4 * j+1) (by omega) (by omega) (by rw [(outB_at _ hj8).2.1,← wrap_b8])) (k:=?_))
    refine E2 (ch:=[]) (b:=b45) (off:=0) (len:=32) (sz:=1) (e:=5) (kd:=.i64) (j:=(4 * ((j:Nat):Int))+2) (hb:=(fun _=>by exact ⟨by omega,by omega⟩)) (k:=M7 (ch:=[]) (b:=b45) (off:=0+Int.toNat ((4 * ((j:Nat):Int))+2) * 1) (v:=.int .u8 (IntKind.wrap .u8 (Int.fdiv (wd (S3 l) j) (2 ^ 8)))) (c:=(oArr (S3 l) (4 * j+2))) (c':=(oArr (S3 l) (4 * j+3))) (j:=0) (m:=0) (H':=([(b45,.cells (oArr (S3 l) (4 * j+3)) 148 (0,0))]::[(D1,.deferred (some []))]::[(b1,.cells z32 148 (0,0))]::[(pb,.cells #[.slice xa l.length xc] 22 (0,0))]::H)) (hoff:=(by rw [oArr_size _ (by omega)]; show 0+Int.toNat _ * 1+1≤32; omega)) (hfz:=(fun _ _=>F0)) (hc':=oArr_set _ (q:=((4 * ((j:Nat):Int))+2)) (j:=4 * j+2) (by omega) (by omega) (by rw [(outB_at _ hj8).2.2.1,← wrap_b8])) (k:=?_))
    refine E2 (ch:=[]) (b:=b45) (off:=0) (len:=32) (sz:=1) (e:=5) (kd:=.i64) (j:=(4 * ((j:Nat):Int))+3) (hb:=(fun _=>by exact ⟨by omega,by omega⟩)) (k:=M7 (ch:=[]) (b:=b45) (off:=0+Int.toNat ((4 * ((j:Nat):Int))+3) * 1) (v:=.int .u8 (IntKind.wrap .u8 (wd (S3 l) j))) (c:=(oArr (S3 l) (4 * j+3))) (c':=(oArr (S3 l) (4 * j+4))) (j:=0) (m:=0) (H':=([(b45,.cells (oArr (S3 l) (4 * j+4)) 148 (0,0))]::[(D1,.deferred (some []))]::[(b1,.cells z32 148 (0,0))]::[(pb,.cells #[.slice xa l.length xc] 22 (0,0))]::H)) (hoff:=(by rw [oArr_size _ (by omega)]; show 0+Int.toNat _ * 1+1≤32; omega)) (hfz:=(fun _ _=>F0)) (hc':=oArr_set _ (q:=((4 * ((j:Nat):Int))+3)) (j:=4 * j+3) (by omega) (by omega) (by rw [(outB_at _ hj8).2.2.2,← wrap_b8])) (k:=?_))
    refine C4 [] [2,8,40,41] (k:=D5 ?_)
    refine A0 (A2 ?_)
    refine A7 (j:=1) [0] (k:=F2 71 (((j:Nat):Int)+1) (by omega) (by omega) kr ?_)
    refine C4 [0] [2,8,40,41] (k:=E5 (s':=(j+1)) [2,8,40,41] kr rfl (by omega) (by omega))
   ·
    have hj8:j=8:=by (have h9:=of_decide_eq_false hc46; omega)
    refine G6 (A8 ?_)
    refine A8 (C7 ?_)
    refine A0 (A1 ?_)
    refine A2 (P8 (ch:=[]) (b:=b45) (off:=0) (l:=(u8s (outB (S3 l)))) (hA:=At.grp 0 0 rfl rfl) (hv':=(by rw [hj8]; exact oload _)) (k:=?_))
    refine M7 (ch:=[]) (b:=b1) (off:=0) (v:=.agg (u8s (Y0 l)).toArray) (c:=z32) (c':=(u8s (Y0 l)).toArray) (j:=2) (m:=0) (H':=([(b45,.cells (oArr (S3 l) (4 * j)) 148 (0,0))]::[(D1,.deferred (some []))]::[(b1,.cells (u8s (Y0 l)).toArray 148 (0,0))]::[(pb,.cells #[.slice xa l.length xc] 22 (0,0))]::H)) (hoff:=Nat.le_of_ble_eq_true rfl) (hfz:=(fun _ _=>F0)) (k:=D3 (E':=[⟨2,[],pt b1⟩]) [] [2] (k:=?_))
    refine A0 (C3 ?_)
    refine E0 (H':=([(D1,.deferred (some []))]::[(b45,.cells (oArr (S3 l) (4 * j)) 148 (0,0))]::[(b1,.cells (u8s (Y0 l)).toArray 148 (0,0))]::[(pb,.cells #[.slice xa l.length xc] 22 (0,0))]::H)) (fun w h=>(h.front (j:=1) rfl)) (N_retM [.cell 2 148] [(.agg ((u8s (Y0 l))).toArray)] rfl rfl (.cons (.agg (b:=b1) (off:=0) (l:=(u8s (Y0 l))) kr kr kr (At.grp 1 0 rfl rfl) kr) (.nil)) rfl ⟨([(pb,.cells #[.slice xa l.length xc] 22 (0,0))]::H),?_,fun w h=>((h.erase 1).erase 0)⟩)
    exact ⟨rfl,rfl⟩
theorem hex_ (pb:Nat) (xa:Option Addr) (xc:Nat) (S:Nat→Obj→Prop) (l:List UInt8) (hrd:Rd S xa (u8s l)) (h0:xa=none→l.length=0) (hn:l.length≤1099511627776) (W0:World) (H:List Grp) (hS:∀ y o,S y o→At W0 H y o):Tri Tryz.prog 84 #[.slice (some ⟨pb,0,none⟩) 1 1] W0 ([(pb,.cells #[.slice xa l.length xc] 22 (0,0))]::H) (fun v H'=>v=.string (hexM l)∧H'=([(pb,.cells #[.slice xa l.length xc] 22 (0,0))]::H)):=by
 refine C8 (args:=[.slice (some ⟨pb,0,none⟩) 1 1]) (n:=23) Tryz.func84 rfl rfl (Nat.le_of_ble_eq_true rfl) ?_
 refine A1 (G_p [0] [0] (k:=?_))
 refine A0 (A1 ?_)
 refine G_p [0] [0,3] (k:=A0 ?_)
 refine A1 (A1 ?_)
 refine A2 (A7 (j:=1) [0] (k:=?_))
 refine G2 Tryz.func103 (sum_ pb xa xc S l hrd h0 hn _ _ (fun y o h=>(hS y o h))) ?_
 rintro v H' ⟨rfl,rfl⟩
 refine C4 [0] [3,7,8] (k:=A0 ?_)
 refine C5 (R8 (H':=([]::[(pb,.cells #[.slice xa l.length xc] 22 (0,0))]::H)) (fun w h=>h.flat (List.Perm.refl _)) ?_)
 refine I8 (EI:=(fun ξ:Nat × Value × Grp=>[⟨3,[],ξ.2.1⟩,⟨7,[],(.agg (u8s (Y0 l)).toArray)⟩,⟨8,[],.int .i64 ((ξ.1:Nat):Int)⟩])) (HI:=(fun ξ:Nat × Value × Grp=>(ξ.2.2::[(pb,.cells #[.slice xa l.length xc] 22 (0,0))]::H))) (Φ:=(fun ξ:Nat × Value × Grp=>(ξ.1≤32)∧(Go.Sw.Own 5 1 ξ.2.1 ξ.2.2 (2 * ξ.1) (u8s (hexK (Y0 l) ξ.1))))) (μ:=(fun ξ:Nat × Value × Grp=>32 - ξ.1)) (s0:=(0,.slice none 0 0,[])) [3,7,8] kr rfl ⟨(by omega),Go.Sw.Own.nil⟩ ?_
 rintro ⟨j,vh,gh⟩ ⟨hj,hOh⟩
 replace hOh:Go.Sw.Own 5 1 vh gh (2 * j) (u8s (hexK (Y0 l) j)):=hOh
 refine A1 (G_p [0] [3,7,8,9] (k:=?_))
 refine A0 (A1 ?_)
 refine C6 (b:=decide (((j:Nat):Int)<32)) kr (fun hc1=>?_) (fun hc1=>?_)
 ·
  have hj8:=of_decide_eq_true hc1
  refine B5 (A0 ?_)
  refine A1 (C5 ?_)
  refine A1 (A2 ?_)
  refine GL_indexV (i:=0) (ch:=[]) (vs:=(u8s (Y0 l)).toArray) (kd:=.i64) (j:=((j:Nat):Int)) (len:=32) (e:=5) (v:=.int .u8 (byt (Y0 l) j)) rfl rfl kr kr kr kr kr kr kr kr (fun _=>⟨by omega,by omega,by rw [Int.toNat_natCast,List.getElem?_toArray]; exact byt_at rfl (by show j<32; omega)⟩) ?_
  refine C4 [0] [3,5,7,8] (k:=A0 ?_)
  refine D7 ([(pb,.cells #[.slice xa l.length xc] 22 (0,0))]::H) kr (D0 (fuel:=7) [(0,0),(1,0),(2,0)] (fun w h=>(h.erase 0)) (k:=?_))
  refine A9 3 (hL:=(fun w h=>(h.erase 0))) (hy:=W9 (i:=3) (ch:=[]) (s:=(ByteArray.mk #[48,49,50,51,52,53,54,55,56,57,97,98,99,100,101,102])) (kd:=.u8) (j:=Int.fdiv (byt (Y0 l) j) (2 ^ 4)) (hb:=(by have:=nib_at (Y0 l) j; unfold low4 at this; intro _; exact ⟨by omega,by show _<16; omega⟩)) (k:=B1 kr rfl)) (k:=?_)
  have hb2:=R0 (ByteArray.mk #[48,49,50,51,52,53,54,55,56,57,97,98,99,100,101,102]) (Int.fdiv (byt (Y0 l) j) (2 ^ 4))
  refine D0 (fuel:=4) [(4,0),(5,0)] (fun w h=>(h.erase 0)) (k:=A9 6 (hL:=(fun w h=>(h.erase 0))) (hy:=W9 (i:=6) (ch:=[]) (s:=(ByteArray.mk #[48,49,50,51,52,53,54,55,56,57,97,98,99,100,101,102])) (kd:=.u8) (j:=IntKind.wrap .u8 ((BitVec.ofInt (IntKind.bits .u8) (byt (Y0 l) j) &&& BitVec.ofInt (IntKind.bits .u8) 15).toNat)) (hb:=(by have:=nib_at (Y0 l) j; unfold low4 at this; intro _; exact ⟨by omega,by show _<16; omega⟩)) (k:=B1 kr rfl)) (k:=?_))
  have hb3:=R0 (ByteArray.mk #[48,49,50,51,52,53,54,55,56,57,97,98,99,100,101,102]) (IntKind.wrap .u8 ((BitVec.ofInt (IntKind.bits .u8) (byt (Y0 l) j) &&& BitVec.ofInt (IntKind.bits .u8) 15).toNat))
  refine B9 7 (k:=C2 (ch:=[]) (e:=5) (l:=[(0,.int .u8 (F5 (ByteArray.mk #[48,49,50,51,52,53,54,55,56,57,97,98,99,100,101,102]) (Int.fdiv (byt (Y0 l) j) (2 ^ 4)))),(1,.int .u8 (F5 (ByteArray.mk #[48,49,50,51,52,53,54,55,56,57,97,98,99,100,101,102]) (IntKind.wrap .u8 ((BitVec.ofInt (IntKind.bits .u8) (byt (Y0 l) j) &&& BitVec.ofInt (IntKind.bits .u8) 15).toNat))))]) (c:=[.int .u8 (F5 (ByteArray.mk #[48,49,50,51,52,53,54,55,56,57,97,98,99,100,101,102]) (Int.fdiv (byt (Y0 l) j) (2 ^ 4))),.int .u8 (F5 (ByteArray.mk #[48,49,50,51,52,53,54,55,56,57,97,98,99,100,101,102]) (IntKind.wrap .u8 ((BitVec.ofInt (IntKind.bits .u8) (byt (Y0 l) j) &&& BitVec.ofInt (IntKind.bits .u8) 15).toNat)))]) (k:=(fun b4=>?_)))
  refine A6 kr (fun w h=>((h.erase 1).erase 0)) (I0 ([(b4,.cells #[.int .u8 (F5 (ByteArray.mk #[48,49,50,51,52,53,54,55,56,57,97,98,99,100,101,102]) (Int.fdiv (byt (Y0 l) j) (2 ^ 4))),.int .u8 (F5 (ByteArray.mk #[48,49,50,51,52,53,54,55,56,57,97,98,99,100,101,102]) (IntKind.wrap .u8 ((BitVec.ofInt (IntKind.bits .u8) (byt (Y0 l) j) &&& BitVec.ofInt (IntKind.bits .u8) 15).toNat)))] 5 (0,0))]::[(pb,.cells #[.slice xa l.length xc] 22 (0,0))]::H) (fun w h=>(h.erase 0)) ?_)
  refine B9 8 (k:=E9 (i:=8) (ch:=[]) (t:=22) (tx:=22) (e:=5) (inf:=Tryz.t5) (s:=vh) (x:=.slice (some ⟨b4,0,none⟩) 2 2) (n:=(2 * j)) (m:=2) (j:=1) (cs:=(u8s (hexK (Y0 l) j))) (news:=[.int .u8 (F5 (ByteArray.mk #[48,49,50,51,52,53,54,55,56,57,97,98,99,100,101,102]) (Int.fdiv (byt (Y0 l) j) (2 ^ 4))),.int .u8 (F5 (ByteArray.mk #[48,49,50,51,52,53,54,55,56,57,97,98,99,100,101,102]) (IntKind.wrap .u8 ((BitVec.ofInt (IntKind.bits .u8) (byt (Y0 l) j) &&& BitVec.ofInt (IntKind.bits .u8) 15).toNat)))]) (g:=gh) (S:=(inG [(b4,.cells #[.int .u8 (F5 (ByteArray.mk #[48,49,50,51,52,53,54,55,56,57,97,98,99,100,101,102]) (Int.fdiv (byt (Y0 l) j) (2 ^ 4))),.int .u8 (F5 (ByteArray.mk #[48,49,50,51,52,53,54,55,56,57,97,98,99,100,101,102]) (IntKind.wrap .u8 ((BitVec.ofInt (IntKind.bits .u8) (byt (Y0 l) j) &&& BitVec.ofInt (IntKind.bits .u8) 15).toNat)))] 5 (0,0))])) rfl rfl rfl rfl kr kr kr rfl rfl (.inl ⟨5,kr⟩) (fun ⟨_,h⟩=>by cases h) (fun _=>⟨5,kr⟩) kr kr kr rfl hOh (SrcOf.slice _ _ _ _ Rd.lit (fun h=>by cases h)) (C9 0 rfl) kr (by intro u hu; simp only [List.mem_cons,List.not_mem_nil,or_false] at hu; rcases hu with rfl | rfl <;> rfl) (by omega) (by show ((2 * j)+2) * 1≤140737488355328; omega) (fun v5 g6 hO7=>?_))
  refine A6 kr (fun w h=>(h.erase 1)) (I0 ([(b4,.cells #[.int .u8 (F5 (ByteArray.mk #[48,49,50,51,52,53,54,55,56,57,97,98,99,100,101,102]) (Int.fdiv (byt (Y0 l) j) (2 ^ 4))),.int .u8 (F5 (ByteArray.mk #[48,49,50,51,52,53,54,55,56,57,97,98,99,100,101,102]) (IntKind.wrap .u8 ((BitVec.ofInt (IntKind.bits .u8) (byt (Y0 l) j) &&& BitVec.ofInt (IntKind.bits .u8) 15).toNat)))] 5 (0,0))]::g6::[(pb,.cells #[.slice xa l.length xc] 22 (0,0))]::H) (fun w h=>(h.erase 1)) ?_)
  refine D0 (fuel:=0) [(9,0)] (fun w h=>h) (k:=D8 (E':=[⟨3,[],v5⟩,⟨7,[],(.agg (u8s (Y0 l)).toArray)⟩,⟨8,[],.int .i64 ((j:Nat):Int)⟩]) [3,7,8] (k:=?_))
  refine D5 (A0 ?_)
  refine A2 (A7 (j:=1) [0] (k:=?_))
  refine F2 20 (((j:Nat):Int)+1) (by omega) (by omega) kr (C4 [0] [3,7,8] (k:=?_))
  refine E0 (H':=(g6::[(pb,.cells #[.slice xa l.length xc] 22 (0,0))]::H)) (fun w h=>(h.erase 0)) (E5 (s':=(j+1,v5,g6)) [3,7,8] kr rfl ⟨(by omega),(Z9 hO7 (hexK_succ (Y0 l) (by show j<32; omega)))⟩ (by omega))
 ·
  have hj8:j=32:=by (have h9:=of_decide_eq_false hc1; omega)
  obtain ⟨ah,ch,hvh,hch,hrh⟩:=(own_hex hOh).shape
  refine G6 (A8 ?_)
  refine A8 (C7 ?_)
  refine A0 (A1 ?_)
  refine A2 (P9 (E':=[⟨21,[],vh⟩]) [0] kr (j:=1) rfl ?_)
  refine GL_env (E':=[⟨21,[],.slice ah ((ByteArray.mk (hexK (Y0 l) j).toArray).size) ch⟩]) (by rw [hvh,hex_size l hj]) (GL_bytesB (i:=1) (ch:=[]) (a:=ah) (cap:=ch) (e:=5) (S:=(inG gh)) (ByteArray.mk (hexK (Y0 l) j).toArray) rfl rfl kr kr kr kr kr kr kr hrh (C9 0 rfl) ?_)
  refine C4 [0] [2] (k:=A0 ?_)
  refine C3 (E0 (H':=([(pb,.cells #[.slice xa l.length xc] 22 (0,0))]::H)) (fun w h=>(h.erase 0)) ?_)
  refine C1 [.tmp 2] [.string (ByteArray.mk (hexK (Y0 l) j).toArray)] (k:=?_)
  exact ⟨by rw [hj8]; rfl,rfl⟩
end Go.Proofs.YtlaoeiaaeifidaaGreat
namespace Go.Vf
open Go.Sw Go.RowKit
def O4 {α:Type} (f:α→Value × Value) (l:List α):List Value:=l.flatMap fun x=>[(f x).1,(f x).2]
theorem cells2_len {α:Type} (f:α→Value × Value) (l:List α):(O4 f l).length=l.length * 2:=by
  unfold O4
  induction l with
  | nil=>rfl
  | cons x l ih=>rw [List.flatMap_cons,List.length_append,ih]; simp only [List.length_cons,List.length_nil]; omega
theorem cells2_app {α:Type} (f:α→Value × Value) (l r:List α):O4 f (l++r)=O4 f l++O4 f r:=by unfold O4; rw [List.flatMap_append]
theorem P5 {α:Type} [Inhabited α] {f:α→Value × Value} {l:List α} {i:Nat} (h:i<l.length):∀ m,m<2→(O4 f l)[i * 2+m]? = [(f (l.getD i default)).1,(f (l.getD i default)).2][m]? := by
  unfold O4
  induction l generalizing i with
  | nil=>simp at h
  | cons x l ih =>
    intro m hm
    rw [List.flatMap_cons]
    cases i with
    | zero=>rw [Nat.zero_mul,Nat.zero_add,List.getElem?_append_left (by show m<2; exact hm)]; rfl
    | succ i =>
      have e:(i+1) * 2+m=2+(i * 2+m):=by omega
      rw [e,List.getElem?_append_right (by show 2≤_; omega),show [(f x).1,(f x).2].length=2 from rfl,Nat.add_sub_cancel_left,ih (by simpa using h) m hm,List.getD_cons_succ]
theorem cells2_at0 {α:Type} [Inhabited α] {f:α→Value × Value} {l:List α} {i:Nat} (h:i<l.length):(O4 f l)[i * 2]? = some (f (l.getD i default)).1:=by
  have:=P5 (f:=f) h 0 (by omega)
  rwa [Nat.add_zero] at this
theorem cells2_at1 {α:Type} [Inhabited α] {f:α→Value × Value} {l:List α} {i:Nat} (h:i<l.length):(O4 f l)[i * 2+1]? = some (f (l.getD i default)).2:=P5 (f:=f) h 1 (by omega)
theorem cells2_ne {α:Type} {f:α→Value × Value} {l:List α} {i:Nat} (h:i<l.length):O4 f l≠[]:=by
  intro e
  have:=congrArg List.length e
  rw [cells2_len] at this
  simp only [List.length_nil] at this
  omega
def nmC (l:List Nm):List Value:=O4 (fun x=>(.string x.1,.int .i64 x.2)) l
def bdC (l:List Body):List Value:=O4 (fun x=>(.string x.now,.string x.kept)) l
structure CR where
  dir:ByteArray
  l:List Nm
  a:Option Addr
  c:Nat
instance:Inhabited CR:=⟨⟨ByteArray.mk #[],[],none,0⟩⟩
def chC (l:List CR):List Value:=O4 (fun x=>(.string x.dir,.slice x.a x.l.length x.c)) l
theorem nmC_app (l r:List Nm):nmC (l++r)=nmC l++nmC r:=cells2_app _ _ _
def atR (l:List Nm) (p:ByteArray):Int:=(E6 l p).getD (-1)
theorem at_hit {l:List Nm} {p:ByteArray} {k:Nat} (hk:k<l.length) (hno:E6 (l.take k) p=none) (he:((l.getD k default).1.toList==p.toList)=true):atR l p=(l.getD k default).2:=by
  unfold atR
  have h1:l=l.take k++(l.getD k default::l.drop (k+1)):=by
    rw [List.getD_eq_getElem?_getD,List.getElem?_eq_getElem hk]
    simp
  rw [h1,lookN_app,hno,E6,← h1]
  rw [tlEq,baEq] at he
  rw [he,if_pos (baEq.2 rfl)]
  simp
theorem at_miss {l:List Nm} {p:ByteArray} {k:Nat} (hk:k<l.length) (hno:E6 (l.take k) p=none) (he:((l.getD k default).1.toList==p.toList)=false):E6 (l.take (k+1)) p=none:=by
  rw [K8 (d:=default) hk,lookN_app,hno,E6]
  rw [if_neg]
  · rfl
  · intro h
    rw [baEq] at h
    rw [h,beq_self_eq_true] at he
    cases he
theorem at_none {l:List Nm} {p:ByteArray} (h:E6 l p=none):atR l p=-1:=by unfold atR; rw [h]; rfl
def outN (l:List Nm) (x:Nm) (k:Nat):List Nm:=(l.take k).filter fun n=>!(x.1==n.1)
theorem outN_len (l:List Nm) (x:Nm) (k:Nat):(outN l x k).length≤l.length:=by
  unfold outN
  exact Nat.le_trans (List.length_filter_le _ _) (by rw [List.length_take]; omega)
theorem outN_put {l:List Nm} {x:Nm} {k:Nat} (hk:k<l.length) (he:(!((l.getD k default).1.toList==x.1.toList))=true):outN l x (k+1)=outN l x k++[l.getD k default]:=by
  unfold outN
  rw [K8 (d:=default) hk,List.filter_append,List.filter_cons]
  rw [tlEq] at he
  have:(x.1==(l.getD k default).1)=false:=by
    rw [Bool.not_eq_true'] at he
    rw [baNe] at he ⊢; exact fun e=>he e.symm
  rw [this]; rfl
theorem outN_skip {l:List Nm} {x:Nm} {k:Nat} (hk:k<l.length) (he:(!((l.getD k default).1.toList==x.1.toList))=false):outN l x (k+1)=outN l x k:=by
  unfold outN
  rw [K8 (d:=default) hk,List.filter_append,List.filter_cons]
  rw [tlEq] at he
  have:(x.1==(l.getD k default).1)=true:=by
    rw [Bool.not_eq_false',baEq] at he
    rw [baEq]; exact he.symm
  rw [this]; simp
theorem own_put {l:List Nm} {x:Nm} {k:Nat} {v:Value} {g:Grp} (hk:k<l.length) (he:(!((l.getD k default).1.toList==x.1.toList))=true) (h:Go.Sw.Own 133 2 v g ((outN l x k).length+1) (nmC (outN l x k)++[.string (l.getD k default).1,.int .i64 (l.getD k default).2])):Go.Sw.Own 133 2 v g (outN l x (k+1)).length (nmC (outN l x (k+1))):=by
  rw [outN_put hk he,nmC_app,List.length_append]; exact h
theorem own_skip {l:List Nm} {x:Nm} {k:Nat} {v:Value} {g:Grp} (hk:k<l.length) (he:(!((l.getD k default).1.toList==x.1.toList))=false) (h:Go.Sw.Own 133 2 v g (outN l x k).length (nmC (outN l x k))):Go.Sw.Own 133 2 v g (outN l x (k+1)).length (nmC (outN l x (k+1))):=by
  rw [outN_skip hk he]; exact h
theorem with_out1 {l:List Nm} {x:Nm} {k:Nat} (hk:l.length≤k) (hx:x.2 ≥ 0):N2 l x=outN l x k++[x]:=by
  unfold N2 outN
  rw [List.take_of_length_le hk,if_pos hx]
theorem with_out0 {l:List Nm} {x:Nm} {k:Nat} (hk:l.length≤k) (hx:¬ x.2 ≥ 0):N2 l x=outN l x k:=by
  unfold N2 outN
  rw [List.take_of_length_le hk,if_neg hx,List.append_nil]
theorem own_with1 {l:List Nm} {x:Nm} {k:Nat} {v:Value} {g:Grp} (hk:l.length≤k) (hx:x.2 ≥ 0) (h:Go.Sw.Own 133 2 v g ((outN l x k).length+1) (nmC (outN l x k)++[.string x.1,.int .i64 x.2])):Go.Sw.Own 133 2 v g (N2 l x).length (nmC (N2 l x)):=by
  rw [with_out1 hk hx,nmC_app,List.length_append]; exact h
theorem own_with0 {l:List Nm} {x:Nm} {k:Nat} {v:Value} {g:Grp} (hk:l.length≤k) (hx:¬ x.2 ≥ 0) (h:Go.Sw.Own 133 2 v g (outN l x k).length (nmC (outN l x k))):Go.Sw.Own 133 2 v g (N2 l x).length (nmC (N2 l x)):=by
  rw [with_out0 hk hx]; exact h
end Go.Vf
namespace Go.Proofs.YtlaoeiaaeifidaaGreat
open Go.Sw Go.Lib Go.Vf Go.Sha Go.Jr
theorem strs_ne {ts:List ByteArray} (h:0<ts.length):strs ts≠[]:=fun e=>by
  have:=congrArg List.length e; simp [strs] at this; subst this; exact absurd h (by decide)
theorem any_hit {ts:List ByteArray} {k:Nat} (hk:k<ts.length) (h:(!E8 (ts.getD k default))=true):ts.any (fun t=>!E8 t)=true:=by
  rw [List.any_eq_true]
  refine ⟨ts.getD k default,?_,h⟩
  rw [List.getD,List.getElem?_eq_getElem hk]; exact List.getElem_mem hk
theorem any_none {ts:List ByteArray} (h:∀ j,j<ts.length→E8 (ts.getD j default)=true):ts.any (fun t=>!E8 t)=false:=by
  rw [List.any_eq_false]
  intro t ht
  obtain ⟨j,hj,rfl⟩:=List.getElem_of_mem ht
  have:=h j hj
  rw [List.getD,List.getElem?_eq_getElem hj] at this
  simpa using this
theorem all_succ {ts:List ByteArray} {k:Nat} (h:∀ j,j<k→E8 (ts.getD j default)=true) (hk:(!E8 (ts.getD k default))=false):∀ j,j<k+1→E8 (ts.getD j default)=true:=fun j hj=>by
  rcases Nat.lt_or_ge j k with h' | h'
  · exact h j h'
  · have:j=k:=by omega
    subst this; simpa using hk
def mayI (ts:List ByteArray) (down:Bool):Int:=if ts.any (fun t=>!E8 t) then 2 else if down then 63 else 0
def jG (jb d:Nat) (dir:ByteArray) (rv:Value) (size:Int) (down there:Bool):Grp:=[(jb,.cells #[pt d,.string dir,rv,.int .i64 size,.bool down,.bool there] 83 (0,0))]
theorem sliteIndexL (s:ByteArray) (W0:World) (H:List Grp):Tri Tryz.prog 99 #[.string s,.string (ByteArray.mk #[10])] W0 H (fun v H'=>v=.int .i64 (lf s)∧H'=H):=by
 refine C8 (args:=[.string s,.string (ByteArray.mk #[10])]) (n:=143) Tryz.func99 rfl rfl (Nat.le_of_ble_eq_true rfl) ?_
 refine A1 (G_p [0] [0,1] (k:=?_))
 refine A0 (A1 ?_)
 refine G_p [0,0,0] [0,1,5] (k:=A0 ?_)
 refine A1 (C5 ?_)
 refine A1 (G_p [0,0,0,0,0,0,3,0] [0,1,5,16] (k:=?_))
 refine A0 (C6 (b:=(ByteArray.mk #[10]).toList==s.toList) kr (fun hc1=>?_) (fun hc1=>?_))
 ·
  have hc1:=lf_one (by simpa using hc1)
  refine A1 (B4 (E':=[⟨4,[],.int .i64 0⟩]) [0] [4] (k:=?_))
  refine A0 (C3 ?_)
  refine F8 (B3 ?_)
  refine C1 [.tmp 4] [.int .i64 0] (k:=?_)
  exact ⟨by rw [hc1]; rfl,rfl⟩
 ·
  simp at hc1
  refine A1 (G_p [0,0,0] [0,1,5,24] (k:=?_))
  refine A0 (I1 kr ?_)
  refine A1 (A2 ?_)
  refine A7 (j:=2) [0,0] (k:=W9 (ch:=[]) (s:=(ByteArray.mk #[10])) (kd:=.i64) (j:=0) (hb:=(fun _=>by decide)) (k:=?_))
  refine F6 (vs:=[.string s,.int .u8 10]) Tryz.func117 (Y7 _ _ _ _) (D3 (E':=[⟨4,[],.int .i64 (bIdx s 10)⟩]) [0] [4] (k:=?_))
  refine A0 (C3 ?_)
  refine F8 (B3 ?_)
  refine C1 [.tmp 4] [.int .i64 (bIdx s 10)] (k:=?_)
  exact ⟨rfl,rfl⟩
theorem strIndexL (s:ByteArray) (W0:World) (H:List Grp):Tri Tryz.prog 77 #[.string s,.string (ByteArray.mk #[10])] W0 H (fun v H'=>v=.int .i64 (lf s)∧H'=H):=by
 refine C8 (args:=[.string s,.string (ByteArray.mk #[10])]) (n:=8) Tryz.func77 rfl rfl (Nat.le_of_ble_eq_true rfl) ?_
 refine A1 (G_p [0] [0,1] (k:=?_))
 refine A0 (A1 ?_)
 refine A2 (A7 (j:=2) [0,0] (k:=?_))
 refine F6 (vs:=[.string s,.string (ByteArray.mk #[10])]) Tryz.func99 (sliteIndexL _ _ _) (D3 (E':=[⟨4,[],.int .i64 (lf s)⟩]) [0] [4] (k:=?_))
 refine A0 (C3 ?_)
 refine C1 [.tmp 4] [.int .i64 (lf s)] (k:=?_)
 exact ⟨rfl,rfl⟩
theorem strIndexS (s:ByteArray) (W0:World) (H:List Grp):Tri Tryz.prog 77 #[.string s,.string (ByteArray.mk #[47])] W0 H (fun v H'=>v=.int .i64 (G5 s)∧H'=H):=by
 refine C8 (args:=[.string s,.string (ByteArray.mk #[47])]) (n:=8) Tryz.func77 rfl rfl (Nat.le_of_ble_eq_true rfl) ?_
 refine A1 (G_p [0] [0,1] (k:=?_))
 refine A0 (A1 ?_)
 refine A2 (A7 (j:=2) [0,0] (k:=?_))
 refine F6 (vs:=[.string s,.string (ByteArray.mk #[47])]) Tryz.func99 (sliteIndex _ _ _) (D3 (E':=[⟨4,[],.int .i64 (G5 s)⟩]) [0] [4] (k:=?_))
 refine A0 (C3 ?_)
 refine C1 [.tmp 4] [.int .i64 (G5 s)] (k:=?_)
 exact ⟨rfl,rfl⟩
theorem strContainsL (s:ByteArray) (W0:World) (H:List Grp):Tri Tryz.prog 39 #[.string s,.string (ByteArray.mk #[10])] W0 H (fun v H'=>v=.bool (decide (lf s ≥ 0))∧H'=H):=by
 refine C8 (args:=[.string s,.string (ByteArray.mk #[10])]) (n:=9) Tryz.func39 rfl rfl (Nat.le_of_ble_eq_true rfl) ?_
 refine A1 (G_p [0] [0,1] (k:=?_))
 refine A0 (A1 ?_)
 refine A2 (A7 (j:=2) [0,0] (k:=?_))
 refine F6 (vs:=[.string s,.string (ByteArray.mk #[10])]) Tryz.func77 (strIndexL _ _ _) (D3 (E':=[⟨4,[],.bool (decide ((lf s) ≥ 0))⟩]) [0,0] [4] (k:=?_))
 refine A0 (C3 ?_)
 refine C1 [.tmp 4] [.bool (decide ((lf s) ≥ 0))] (k:=?_)
 exact ⟨rfl,rfl⟩
theorem strContainsS (s:ByteArray) (W0:World) (H:List Grp):Tri Tryz.prog 39 #[.string s,.string (ByteArray.mk #[47])] W0 H (fun v H'=>v=.bool (decide (G5 s ≥ 0))∧H'=H):=by
 refine C8 (args:=[.string s,.string (ByteArray.mk #[47])]) (n:=9) Tryz.func39 rfl rfl (Nat.le_of_ble_eq_true rfl) ?_
 refine A1 (G_p [0] [0,1] (k:=?_))
 refine A0 (A1 ?_)
 refine A2 (A7 (j:=2) [0,0] (k:=?_))
 refine F6 (vs:=[.string s,.string (ByteArray.mk #[47])]) Tryz.func77 (strIndexS _ _ _) (C4 [0,0] [4] (k:=?_))
 refine A0 (C3 ?_)
 refine C1 [.tmp 4] [.bool (decide ((G5 s) ≥ 0))] (k:=?_)
 exact ⟨rfl,rfl⟩
theorem sliteCutL (s:ByteArray) (hs:s.size≤9223372036854775807) (W0:World) (H:List Grp):Tri Tryz.prog 78 #[.string s,.string (ByteArray.mk #[10])] W0 H (fun v H'=>v=.tuple (if lf s<0 then #[.string s,.string (ByteArray.mk #[]),.bool false] else #[.string (s.extract 0 (lf s).toNat),.string (s.extract ((lf s).toNat+1) s.size),.bool true])∧H'=H):=by
 have hsl:=lf_or s
 refine C8 (args:=[.string s,.string (ByteArray.mk #[10])]) (n:=23) Tryz.func78 rfl rfl (Nat.le_of_ble_eq_true rfl) ?_
 refine A1 (G_p [0,0,0] [0,1] (k:=?_))
 refine A0 (A1 ?_)
 refine A1 (A2 ?_)
 refine A7 (j:=2) [0,0] (k:=F6 (vs:=[.string s,.string (ByteArray.mk #[10])]) Tryz.func99 (sliteIndexL _ _ _) ?_)
 refine C4 [0] [0,1,7] (k:=A0 ?_)
 refine A1 (G_p [0,0] [0,1,7,12] (k:=?_))
 refine A0 (C6 (b:=decide ((lf s) ≥ 0)) kr (fun hc1=>?_) (fun hc1=>?_))
 ·
  simp at hc1
  refine A1 (K4 (k:=?_))
  refine A7 (j:=2) [0,0] (k:=L7 (ch:=[]) (s:=s) (vl:=none) (vh:=(some (.int .i64 (lf s)))) (l:=0) (h:=lf s) (hb:=(fun _=>by omega)) (k:=?_))
  refine A7 (j:=8) [0,0,0,0,0] (k:=F2 20 ((lf s)+1) (by omega) (by omega) kr ?_)
  refine L7 (ch:=[]) (s:=s) (vl:=(some (.int .i64 ((lf s)+1)))) (vh:=none) (l:=(lf s)+1) (h:=(s.size:Int)) (hb:=(fun _=>by omega)) (k:=C4 [0,0,0] [4,5,6] (k:=?_))
  refine A0 (C3 ?_)
  refine B3 (C1 [.tmp 4,.tmp 5,.tmp 6] [.string (s.extract 0 (Int.toNat (lf s))),.string (s.extract (Int.toNat ((lf s)+1)) s.size),.bool true] (k:=?_))
  exact ⟨by rw [if_neg (by omega),show (lf s+1).toNat=(lf s).toNat+1 from by omega]; rfl,rfl⟩
 ·
  simp at hc1
  refine B5 (A0 ?_)
  refine A1 (G_p [0,0,0,0] [4,5,6] (k:=?_))
  refine A0 (C3 ?_)
  refine C1 [.tmp 4,.tmp 5,.tmp 6] [.string s,.string (ByteArray.mk #[]),.bool false] (k:=?_)
  exact ⟨by rw [if_pos (by omega)]; rfl,rfl⟩
theorem stringsCutL (s:ByteArray) (hs:s.size≤9223372036854775807) (W0:World) (H:List Grp):Tri Tryz.prog 41 #[.string s,.string (ByteArray.mk #[10])] W0 H (fun v H'=>v=.tuple (if lf s<0 then #[.string s,.string (ByteArray.mk #[]),.bool false] else #[.string (s.extract 0 (lf s).toNat),.string (s.extract ((lf s).toNat+1) s.size),.bool true])∧H'=H):=by
 refine C8 (args:=[.string s,.string (ByteArray.mk #[10])]) (n:=13) Tryz.func41 rfl rfl (Nat.le_of_ble_eq_true rfl) ?_
 refine A1 (G_p [0,0,0] [0,1] (k:=?_))
 refine A0 (A1 ?_)
 refine A2 (A7 (j:=2) [0,0] (k:=?_))
 refine N1 (ch:=[]) (f:=78) (fst:=#[]) (caps:=#[]) (vs:=[.string s,.string (ByteArray.mk #[10])]) (hf:=Tryz.func78) (hsure:=J0 kr) (hc:=sliteCutL _ hs _ _) (k:=?_)
 rintro v H' ⟨rfl,rfl⟩
 by_cases hs1:lf s<0
 ·
  rw [if_pos hs1]
  refine C4 [0,0,0,0,0,0] [4,5,6] (k:=A0 ?_)
  refine C3 (C1 [.tmp 4,.tmp 5,.tmp 6] [.string s,.string (ByteArray.mk #[]),.bool false] (k:=?_))
  exact ⟨rfl,rfl⟩
 ·
  rw [if_neg hs1]
  obtain ⟨hs1a,hs1b,hs1c⟩:=lf_facts hs1
  refine C4 [0,0,0,0,0,0] [4,5,6] (k:=A0 ?_)
  refine C3 (C1 [.tmp 4,.tmp 5,.tmp 6] [.string (s.extract 0 (lf s).toNat),.string (s.extract ((lf s).toNat+1) s.size),.bool true] (k:=?_))
  exact ⟨rfl,rfl⟩
theorem right_ (t:ByteArray) (W0:World) (H:List Grp):Tri Tryz.prog 79 #[.string t] W0 H (fun v H'=>v=.bool (E8 t)∧H'=H):=by
 refine C8 (args:=[.string t]) (n:=11) Tryz.func79 rfl rfl (Nat.le_of_ble_eq_true rfl) ?_
 refine A1 (B4 (E':=[⟨0,[],.string t⟩]) [0] [0] (k:=?_))
 refine A0 (A1 ?_)
 refine A2 (A7 (j:=5) [0,0,0,0,0] (k:=?_))
 refine J9 (ch:=[(6,true)]) (f:=39) (fst:=#[]) (caps:=#[]) (vs:=[.string t,.string (ByteArray.mk #[10])]) (v:=.bool (decide (lf t ≥ 0))) (hf:=Tryz.func39) (hc:=(fun hc=>strContainsL _ _ _)) (k:=C4 [0,6,0] [2] (k:=?_))
 refine A0 (C3 ?_)
 refine C1 [.tmp 2] [.bool ((decide ((t.size:Int)≤1048576))&&(!(decide (lf t ≥ 0))))] (k:=?_)
 exact ⟨rfl,rfl⟩
theorem may1_ (t:ByteArray) (W0:World) (H:List Grp):Tri Tryz.prog 83 #[.string t] W0 H (fun v H'=>v=.bool (!E8 t)∧H'=H):=by
 refine C8 (args:=[.string t]) (n:=6) Tryz.func83 rfl rfl (Nat.le_of_ble_eq_true rfl) ?_
 refine A1 (B4 (E':=[⟨0,[],.string t⟩]) [0] [0] (k:=?_))
 refine A0 (A1 ?_)
 refine A2 (A7 (j:=1) [0] (k:=?_))
 refine F6 (vs:=[.string t]) Tryz.func79 (right_ _ _ _) (D3 (E':=[⟨2,[],.bool (!(E8 t))⟩]) [0,0] [2] (k:=?_))
 refine A0 (C3 ?_)
 refine C1 [.tmp 2] [.bool (!(E8 t))] (k:=?_)
 exact ⟨rfl,rfl⟩
theorem path_ (jb:Nat) (dp rv z b1 b2:Value) (dir name:ByteArray) (hs:dir.size+name.size≤1000000000) (W0:World) (H:List Grp) (hat:At W0 H jb (.cells #[dp,.string dir,rv,z,b1,b2] 83 (0,0))):Tri Tryz.prog 40 #[pt jb,.string name] W0 H (fun v H'=>v=.string (B0 dir name)∧H'=H):=by
 refine C8 (args:=[pt jb,.string name]) (n:=12) Tryz.func40 rfl rfl (Nat.le_of_ble_eq_true rfl) ?_
 refine A1 (B4 (E':=[⟨0,[],pt jb⟩,⟨1,[],.string name⟩]) [0] [0,1] (k:=?_))
 refine A0 (A1 ?_)
 refine A2 (A7 (j:=3) [0,0,0] (k:=?_))
 refine A5 (ch:=[]) (b:=jb) (off:=1) (v:=.string dir) (hA:=hat) (k:=K2 (ch:=[]) (s:=dir) (u:=(ByteArray.mk #[47])) (hb:=(fun _=>by first | omega | (simp only [ByteArray.size_append,show (ByteArray.mk #[47]).size=1 from rfl]; omega))) (k:=?_))
 refine A7 (j:=6) [0] (k:=K2 (ch:=[]) (s:=dir++(ByteArray.mk #[47])) (u:=name) (hb:=(fun _=>by first | omega | (simp only [ByteArray.size_append,show (ByteArray.mk #[47]).size=1 from rfl]; omega))) (k:=?_))
 refine C4 [0] [4] (k:=A0 ?_)
 refine C3 (C1 [.tmp 4] [.string ((dir++(ByteArray.mk #[47]))++name)] (k:=?_))
 exact ⟨rfl,rfl⟩
theorem line_ (t:ByteArray) (ht:t.size≤1000000000) (W0:World) (H:List Grp):Tri Tryz.prog 46 #[.string t] W0 H (fun v H'=>v=.string (B8 t)∧H'=H):=by
 refine C8 (args:=[.string t]) (n:=12) Tryz.func46 rfl rfl (Nat.le_of_ble_eq_true rfl) ?_
 refine A1 (B4 (E':=[⟨0,[],.string t⟩]) [0] [0] (k:=?_))
 refine A0 (A1 ?_)
 refine A2 (A7 (j:=1) [0] (k:=?_))
 refine P6 (ch:=[]) (src:=9) (dst:=22) (e:=5) (s:=t) (k:=(fun b1 cap2 g3 hcap4 hrd5=>?_))
 refine C2 (ch:=[]) (e:=22) (l:=[(0,.slice (some ⟨b1,0,none⟩) t.size cap2)]) (c:=[.slice (some ⟨b1,0,none⟩) t.size cap2]) (k:=(fun b6=>?_))
 refine G2 (vs:=[.slice (some ⟨b6,0,none⟩) 1 1]) Tryz.func84 (hex_ b6 (some ⟨b1,0,none⟩) cap2 (inG g3) t.data.toList hrd5 (fun h=>by cases h) (by rw [Array.length_toList]; show t.size≤_; omega) _ _ (C9 0 rfl)) ?_
 rintro v H' ⟨rfl,rfl⟩
 have hm64:=A0d t.data.toList
 refine L7 (ch:=[]) (s:=hexM t.data.toList) (vl:=none) (vh:=(some (.int .i64 16))) (l:=0) (h:=16) (hb:=(fun _=>by first | omega | (simp only [ByteArray.size_append,ByteArray.size_extract,show (ByteArray.mk #[32]).size=1 from rfl,show (ByteArray.mk #[10]).size=1 from rfl]; omega))) (k:=K2 (ch:=[]) (s:=(hexM t.data.toList).extract 0 16) (u:=(ByteArray.mk #[32])) (hb:=(fun _=>by first | omega | (simp only [ByteArray.size_append,ByteArray.size_extract,show (ByteArray.mk #[32]).size=1 from rfl,show (ByteArray.mk #[10]).size=1 from rfl]; omega))) (k:=?_))
 refine A7 (j:=7) [0] (k:=K2 (ch:=[]) (s:=((hexM t.data.toList).extract 0 16)++(ByteArray.mk #[32])) (u:=t) (hb:=(fun _=>by first | omega | (simp only [ByteArray.size_append,ByteArray.size_extract,show (ByteArray.mk #[32]).size=1 from rfl,show (ByteArray.mk #[10]).size=1 from rfl]; omega))) (k:=?_))
 refine K2 (ch:=[]) (s:=(((hexM t.data.toList).extract 0 16)++(ByteArray.mk #[32]))++t) (u:=(ByteArray.mk #[10])) (hb:=(fun _=>by first | omega | (simp only [ByteArray.size_append,ByteArray.size_extract,show (ByteArray.mk #[32]).size=1 from rfl,show (ByteArray.mk #[10]).size=1 from rfl]; omega))) (k:=C4 [0] [2] (k:=?_))
 refine A0 (C3 ?_)
 refine E0 (H':=([(b6,.cells #[.slice (some ⟨b1,0,none⟩) t.size cap2] 22 (0,0))]::H)) (fun w h=>h.erase 1) (E0 (H':=H) (fun w h=>h.erase 0) ?_)
 refine C1 [.tmp 2] [.string (((((hexM t.data.toList).extract 0 16)++(ByteArray.mk #[32]))++t)++(ByteArray.mk #[10]))] (k:=?_)
 exact ⟨rfl,rfl⟩
theorem text_ (s:ByteArray) (hs:s.size≤1000000000) (W0:World) (H:List Grp):Tri Tryz.prog 42 #[.string s] W0 H (fun v H'=>v=.tuple #[.string (V6 s),.bool (okB s)]∧H'=H):=by
 refine C8 (args:=[.string s]) (n:=20) Tryz.func42 rfl rfl (Nat.le_of_ble_eq_true rfl) ?_
 refine A1 (B4 (E':=[⟨0,[],.string s⟩]) [0,0] [0] (k:=?_))
 refine A0 (A1 ?_)
 refine A1 (G_p [0,0,0] [0,7] (k:=?_))
 refine A0 (C6 (b:=decide ((s.size:Int)≤16)) kr (fun hc1=>?_) (fun hc1=>?_))
 ·
  replace hc1:=of_decide_eq_true hc1
  refine A1 (G_p [0,0] [2,3] (k:=?_))
  refine A0 (C3 ?_)
  refine B3 (C1 [.tmp 2,.tmp 3] [.string (ByteArray.mk #[]),.bool false] (k:=?_))
  exact ⟨by simp [Q3,V6,okB,hc1],rfl⟩
 ·
  replace hc1:=of_decide_eq_false hc1
  refine B5 (A0 ?_)
  refine A1 (A2 ?_)
  refine A7 (j:=1) [0] (k:=L7 (ch:=[]) (s:=s) (vl:=(some (.int .i64 17))) (vh:=none) (l:=17) (h:=(s.size:Int)) (hb:=(fun _=>by first | omega | (simp only [ByteArray.size_append,show (ByteArray.mk #[10]).size=1 from rfl]; omega))) (k:=?_))
  refine C4 [0] [0,4] (k:=A0 ?_)
  refine A1 (A2 ?_)
  refine A7 (j:=2) [0,0] (k:=F6 (vs:=[.string (s.extract 17 s.size)]) Tryz.func79 (right_ _ _ _) ?_)
  refine A7 (j:=5) [0,0] (k:=J9 (ch:=[(13,true)]) (f:=46) (fst:=#[]) (caps:=#[]) (vs:=[.string (s.extract 17 s.size)]) (v:=.string (B8 (s.extract 17 s.size))) (hf:=Tryz.func46) (hc:=(fun hc=>line_ _ (by rw [ByteArray.size_extract]; omega) _ _)) (k:=?_))
  refine A7 (j:=7) [0] (k:=K2 (ch:=[(13,true)]) (s:=s) (u:=(ByteArray.mk #[10])) (hb:=(fun hc=>by have hg0:=chB_hd (t:=13) (c:=[]) (b:=E8 (s.extract 17 s.size)) hc kr; (try simp at hg0); first | omega | (simp only [ByteArray.size_append,show (ByteArray.mk #[10]).size=1 from rfl]; omega))) (k:=?_))
  refine C4 [0,6,0,0] [2,3] (k:=A0 ?_)
  refine C3 (C1 [.tmp 2,.tmp 3] [.string (s.extract 17 s.size),.bool ((E8 (s.extract 17 s.size))&&((B8 (s.extract 17 s.size)).toList==(s++(ByteArray.mk #[10])).toList))] (k:=?_))
  exact ⟨by simp [Q3,V6,okB,hc1],rfl⟩
theorem idxFunc_ (a:Option Addr) (c:Nat) (ts:List ByteArray) (S:Nat→Obj→Prop) (hrd:Rd S a (strs ts)) (hl:ts.length≤1000000000) (W0:World) (H:List Grp) (hS:∀ y o,S y o→At W0 H y o):Tri Tryz.prog 102 #[.slice a ts.length c,.func (.func 83) #[] #[]] W0 H (fun v H'=>(∃ r,v=.int .i64 r∧decide (r ≥ 0)=ts.any (fun t=>!E8 t))∧H'=H):=by
 refine C8 (args:=[.slice a ts.length c,.func (.func 83) #[] #[]]) (n:=19) Tryz.func102 rfl rfl (Nat.le_of_ble_eq_true rfl) ?_
 refine A1 (G_p [0] [0,1] (k:=?_))
 refine A0 (A1 ?_)
 refine A1 (G_p [0,0,0] [0,1,7,8] (k:=?_))
 refine A0 (C5 ?_)
 refine I8 (EI:=(fun ξ:Nat=>[⟨0,[],.slice a ts.length c⟩,⟨1,[],.func (.func 83) #[] #[]⟩,⟨7,[],.int .i64 ((ts.length:Nat):Int)⟩,⟨8,[],.int .i64 ((ξ:Nat):Int)⟩])) (HI:=(fun ξ:Nat=>H)) (Φ:=(fun ξ:Nat=>(ξ≤ts.length)∧(∀ j,j<ξ→E8 (ts.getD j default)=true))) (μ:=(fun ξ:Nat=>ts.length - ξ)) (s0:=(0)) [0,1,7,8] kr rfl ⟨(by omega),(fun j h=>absurd h (Nat.not_lt_zero j))⟩ ?_
 rintro k ⟨hk,hA⟩
 refine A1 (G_p [0] [0,1,7,8,9] (k:=?_))
 refine A0 (A1 ?_)
 refine C6 (b:=decide (((k:Nat):Int)<((ts.length:Nat):Int))) kr (fun hc1=>?_) (fun hc1=>?_)
 ·
  simp at hc1
  refine B5 (A0 ?_)
  refine A1 (C5 ?_)
  refine A1 (G_p [0,0] [0,1,5,7,8] (k:=?_))
  refine A0 (A1 ?_)
  refine A2 (A7 (j:=3) [0,0,0] (k:=?_))
  refine B7 (ch:=[]) (a:=a) (len:=ts.length) (cap:=c) (kd:=.i64) (j:=((k:Nat):Int)) (e:=9) (sz:=1) (S:=S) (cs:=(strs ts)) (hrd:=hrd) (hb:=(fun _=>by exact ⟨by omega,by omega,strs_ne (by omega)⟩)) (k:=D4 (ch:=[]) (a:=a) (q:=k * 1) (S:=S) (cs:=(strs ts)) (v:=.string (ts.getD k default)) (hrd:=hrd) (hS:=hS) (hv:=(fun _=>(by rw [Nat.mul_one]; exact A0n (by omega)))) (k:=?_))
  refine F6 (vs:=[.string (ts.getD k default)]) Tryz.func83 (may1_ _ _ _) (C4 [] [0,1,5,7,8,16] (k:=?_))
  refine A0 (C6 (b:=!E8 (ts.getD k default)) kr (fun hc2=>?_) (fun hc2=>?_))
  ·
   skip
   refine A1 (B4 (E':=[⟨4,[],.int .i64 ((k:Nat):Int)⟩]) [0,0] [4] (k:=?_))
   refine A0 (C3 ?_)
   refine F8 (B3 ?_)
   refine B3 (F8 ?_)
   refine B3 (C1 [.tmp 4] [.int .i64 ((k:Nat):Int)] (k:=?_))
   exact ⟨⟨_,rfl,by rw [any_hit (by omega) hc2]; simp⟩,rfl⟩
  ·
   skip
   refine B5 (D5 ?_)
   refine A0 (A2 ?_)
   refine A7 (j:=1) [0] (k:=F2 18 (((k:Nat):Int)+1) (by omega) (by omega) kr ?_)
   refine C4 [0] [0,1,7,8] (k:=E5 (s':=(k+1)) [0,1,7,8] kr rfl ⟨(by omega),(all_succ hA hc2)⟩ (by omega))
 ·
  simp at hc1
  refine G6 (A8 ?_)
  refine A8 (C7 ?_)
  refine A0 (A1 ?_)
  refine B4 (E':=[⟨4,[],.int .i64 (-1)⟩]) [0] [4] (k:=A0 ?_)
  refine C3 (C1 [.tmp 4] [.int .i64 (-1)] (k:=?_))
  exact ⟨⟨_,rfl,by rw [any_none (fun j h=>hA j (by omega))]; rfl⟩,rfl⟩
theorem containsFunc_ (a:Option Addr) (c:Nat) (ts:List ByteArray) (S:Nat→Obj→Prop) (hrd:Rd S a (strs ts)) (hl:ts.length≤1000000000) (W0:World) (H:List Grp) (hS:∀ y o,S y o→At W0 H y o):Tri Tryz.prog 82 #[.slice a ts.length c,.func (.func 83) #[] #[]] W0 H (fun v H'=>v=.bool (ts.any (fun t=>!E8 t))∧H'=H):=by
 refine C8 (args:=[.slice a ts.length c,.func (.func 83) #[] #[]]) (n:=9) Tryz.func82 rfl rfl (Nat.le_of_ble_eq_true rfl) ?_
 refine A1 (G_p [0] [0,1] (k:=?_))
 refine A0 (A1 ?_)
 refine A2 (A7 (j:=2) [0,0] (k:=?_))
 refine G2 Tryz.func102 (idxFunc_ a c ts S hrd hl _ _ hS) ?_
 rintro v H' ⟨⟨r1,rfl,hr2⟩,rfl⟩
 refine D3 (E':=[⟨4,[],.bool (decide (r1 ≥ 0))⟩]) [0,0] [4] (k:=A0 ?_)
 refine C3 (C1 [.tmp 4] [.bool (decide (r1 ≥ 0))] (k:=?_))
 exact ⟨by rw [← hr2]; rfl,rfl⟩
theorem may_ (a:Option Addr) (c:Nat) (ts:List ByteArray) (S:Nat→Obj→Prop) (hrd:Rd S a (strs ts)) (hl:ts.length≤1000000000) (jb:Nat) (dp rv z b2:Value) (dir:ByteArray) (down:Bool) (W0:World) (H:List Grp) (hat:At W0 H jb (.cells #[dp,.string dir,rv,z,.bool down,b2] 83 (0,0))) (hS:∀ y o,S y o→At W0 H y o):Tri Tryz.prog 45 #[pt jb,.slice a ts.length c] W0 H (fun v H'=>v=.int .i64 (mayI ts down)∧H'=H):=by
 refine C8 (args:=[pt jb,.slice a ts.length c]) (n:=16) Tryz.func45 rfl rfl (Nat.le_of_ble_eq_true rfl) ?_
 refine A1 (G_p [0] [0,1] (k:=?_))
 refine A0 (A1 ?_)
 refine C5 (A1 ?_)
 refine G_p [0,0,0] [0,1,5] (k:=A0 ?_)
 refine I2 kr (A1 ?_)
 refine A2 (A7 (j:=1) [0] (k:=?_))
 refine F6 (vs:=[.slice a ts.length c,.func (.func 83) #[] #[]]) Tryz.func82 (containsFunc_ _ _ ts S hrd (by omega) _ _ hS) (C4 [0] [0,8] (k:=?_))
 refine A0 (C6 (b:=ts.any (fun t=>!E8 t)) kr (fun hc1=>?_) (fun hc1=>?_))
 ·
  skip
  refine A1 (B4 (E':=[⟨4,[],.int .i64 2⟩]) [0] [4] (k:=?_))
  refine A0 (C3 ?_)
  refine F8 (B3 ?_)
  refine C1 [.tmp 4] [.int .i64 2] (k:=?_)
  exact ⟨by simp [Q3,mayI,hc1],rfl⟩
 ·
  skip
  refine A1 (A2 ?_)
  refine A7 (j:=3) [0,0,0] (k:=A5 (ch:=[]) (b:=jb) (off:=4) (v:=.bool down) (hA:=hat) (k:=?_))
  refine D3 (E':=[⟨11,[],.bool down⟩]) [0] [11] (k:=A0 ?_)
  refine C6 (b:=down) kr (fun hc2=>?_) (fun hc2=>?_)
  ·
   skip
   refine A1 (B4 (E':=[⟨4,[],.int .i64 63⟩]) [0] [4] (k:=?_))
   refine A0 (C3 ?_)
   refine F8 (B3 ?_)
   refine C1 [.tmp 4] [.int .i64 63] (k:=?_)
   exact ⟨by simp [Q3,mayI,hc1,hc2],rfl⟩
  ·
   skip
   refine B5 (D5 ?_)
   refine A0 (A1 ?_)
   refine B4 (E':=[⟨4,[],.int .i64 0⟩]) [0] [4] (k:=A0 ?_)
   refine C3 (C1 [.tmp 4] [.int .i64 0] (k:=?_))
   exact ⟨by simp [Q3,mayI,hc1,hc2],rfl⟩
end Go.Proofs.YtlaoeiaaeifidaaGreat
namespace Go.Sw
def FV (P:Program) (v:Value) (vs:List Value) (W0:World) (H:List Grp) (R:Value→List Grp→Prop):Prop :=
  ∃ f fst caps fn, v = .func (.func f) fst caps ∧ P.funcs[f]? = some fn ∧ (fn.name == "runtime.NumGoroutine") = false ∧ fn.body.isNone = false ∧ Tri P f (fst ++ vs.toArray ++ caps) W0 H R
theorem FV.of {P : Program} {vs : List Value} {W0 : World} {H : List Grp} {R : Value → List Grp → Prop} {f : FuncId} {fst caps : Array Value} {fn : Func} (hf : P.funcs[f]? = some fn) (hn : (fn.name == "runtime.NumGoroutine") = false) (hb : fn.body.isNone = false)
    (h:Tri P f (fst++vs.toArray++caps) W0 H R):FV P (.func (.func f) fst caps) vs W0 H R:=⟨f,fst,caps,fn,rfl,hf,hn,hb,h⟩
theorem GL_callV {P:Program} {ops:Array Oper} {i:Nat} {Q:G3} {n:Fr} {E:Env} {W0:World} {H:List Grp} {o:Oper} {ch:List (Nat × Bool)} {c:Call} {fo:Operand} {fv:Value} {vs:List Value} {R:Value→List Grp→Prop}
    (ho:ops[i]? = some o) (hop:o.op=.call c) (hce:c.callee=.value fo) (hfo:evO E ch fo=some fv) (hargs:evL (evO E ch) c.args.toList=some vs)
    (hch:F3 ops E o.guard=some ch) (hd:H7 n ch o.dst=true) (hsure:∀ β:Nat→Bool→Bool,(∀ s,s∈E→∀ w,β s.t w=(W4 s.v==some w))→chT β ch=true)
    (hc:FV P fv vs W0 H R)
    (k:∀ v H',R v H'→GL false P ops (i+1) Q n (Env.put E o.dst ch v) W0 H'):GL false P ops i Q n E W0 H:=by
  obtain ⟨f,fst,caps,fn,rfl,h1,h2,h3,h4⟩:=hc
  exact N1 ho hop hce hfo hargs h1 h2 h3 hch hd hsure h4 k
end Go.Sw
namespace Go.Proofs.YtlaoeiaaeifidaaGreat
open Go.Sw Go.Lib Go.Vf Go.Sha Go.Jr Go.RowKit
theorem Sat.takeMid {W0:World} {K A B:List Grp} {w:World} (h:Sat W0 (K++(A++B)) w):Sat W0 (K++A) w:=h.subl (by
  simp only [List.flatten_append]
  exact List.Sublist.append (List.Sublist.refl _) (List.sublist_append_left _ _))
theorem At.app {W0:World} {K B:List Grp} {b:Nat} {o:Obj} (h:At W0 K b o):At W0 (K++B) b o:=by
  rcases h with h | h
  · exact .inl h
  · exact .inr (by rw [List.flatten_append]; exact List.mem_append_left _ h)
theorem P7 {ts:List ByteArray}:∀ u∈strs ts,u.oneCell'=true:=fun u hu=>by
  obtain ⟨x,_,rfl⟩:=List.mem_map.1 hu; rfl
theorem fs_at {fs:List Value} {k:Nat} (h:k<fs.length):fs[k]? = some (fs.getD k default):=by
  rw [List.getD,List.getElem?_eq_getElem h]; rfl
theorem Y3 {dir name:ByteArray} (h:dir.size+name.size≤1000000000):(B0 dir name).size≤9223372036854775807:=by
  simp only [B0,ByteArray.size_append,show (ByteArray.mk #[47]).size=1 from rfl]; omega
theorem cSyncJ {s:DS} {M:DM} (hs:s.ok M) (hm:L5 M) (K:List Grp) (jb d:Nat) (dir:ByteArray) (rv:Value) (size:Int) (down there:Bool) (hdir:dir.size≤1000000) (bj bn:Nat) (name:ByteArray) (hname:name.size≤1000) (W0:World) (H:List Grp) (hJ:At W0 K jb (.cells #[pt d,.string dir,rv,.int .i64 size,.bool down,.bool there] 83 (0,0))) (hbj:At W0 K bj (.cells #[pt jb] 28 (0,0))) (hbn:At W0 K bn (.cells #[.string name] 9 (0,0))):Tri Tryz.prog 85 #[pt bj,pt bn] W0 (K++(s.G d M++H)) (IsK K d (L8 M (B0 dir name)).2 (.int .i64 (L8 M (B0 dir name)).1) H):=by
 refine C8 (args:=[pt bj,pt bn]) (n:=11) Tryz.func85 rfl rfl (Nat.le_of_ble_eq_true rfl) ?_
 refine A1 (B4 (E':=[⟨0,[],pt bj⟩,⟨1,[],pt bn⟩]) [0] [0,1] (k:=?_))
 refine A0 (A1 ?_)
 refine D7 K kr (A9 0 (hL:=(fun w h=>(Sat.takeMid (K:=[]) (A:=K) h))) (hy:=A5 (i:=0) (ch:=[]) (b:=bj) (off:=0) (v:=pt jb) (hA:=hbj) (k:=B1 kr rfl)) (k:=?_))
 refine G0 (ad:=⟨jb,0,none⟩) 1 (hL:=(fun w h=>(Sat.takeMid (K:=[]) (A:=K) h))) (k:=D0 (fuel:=6) [(2,0)] (fun w h=>(Sat.takeMid (K:=[]) (A:=K) h)) (k:=?_))
 refine A9 3 (hL:=(fun w h=>(Sat.takeMid (K:=[]) (A:=K) h))) (hy:=A5 (i:=3) (ch:=[]) (b:=jb) (off:=0) (v:=pt d) (hA:=hJ) (k:=B1 kr rfl)) (k:=A9 4 (hL:=(fun w h=>(Sat.takeMid (K:=[]) (A:=K) h))) (hy:=A5 (i:=4) (ch:=[]) (b:=bj) (off:=0) (v:=pt jb) (hA:=hbj) (k:=B1 kr rfl)) (k:=?_))
 refine A9 5 (hL:=(fun w h=>(Sat.takeMid (K:=[]) (A:=K) h))) (hy:=A5 (i:=5) (ch:=[]) (b:=bn) (off:=0) (v:=.string name) (hA:=hbn) (k:=B1 kr rfl)) (k:=B9 6 (k:=?_))
 refine F6 (vs:=[pt jb,.string name]) Tryz.func40 (path_ _ _ _ _ _ _ _ _ (by omega) _ _ (At.app hJ)) (A6 kr (fun w h=>(Sat.takeMid (K:=[]) (A:=K) h)) ?_)
 refine B9 7 (k:=G2 Tryz.func86 (dSync hs hm d (B0 dir name) (Y3 (by omega)) K _ H rfl) ?_)
 rintro v H' ⟨rfl,s1,hs1,rfl⟩
 refine A6 kr (fun w h=>(Sat.takeMid (K:=[]) (A:=K) h)) (D0 (fuel:=0) [(8,0)] (fun w h=>(Sat.takeMid (K:=[]) (A:=K) h)) (k:=?_))
 refine D8 (E':=[⟨2,[],.int .i64 ((L8 M (B0 dir name)).1)⟩]) [2] (k:=A0 ?_)
 refine C3 (C1 [.tmp 2] [.int .i64 ((L8 M (B0 dir name)).1)] (k:=?_))
 exact ⟨rfl,_,hs1,rfl⟩
theorem cSyncDirJ {s:DS} {M:DM} (hs:s.ok M) (hm:L5 M) (K:List Grp) (jb d:Nat) (dir:ByteArray) (rv:Value) (size:Int) (down there:Bool) (hdir:dir.size≤1000000)  (W0:World) (H:List Grp) (hJ:At W0 K jb (.cells #[pt d,.string dir,rv,.int .i64 size,.bool down,.bool there] 83 (0,0))) :Tri Tryz.prog 51 #[pt jb] W0 (K++(s.G d M++H)) (IsK K d (I4 M dir).2 (.int .i64 (I4 M dir).1) H):=by
 refine C8 (args:=[pt jb]) (n:=12) Tryz.func51 rfl rfl (Nat.le_of_ble_eq_true rfl) ?_
 refine A1 (B4 (E':=[⟨0,[],pt jb⟩]) [0] [0] (k:=?_))
 refine A0 (A1 ?_)
 refine D7 K kr (D0 (fuel:=9) [(0,0)] (fun w h=>(Sat.takeMid (K:=[]) (A:=K) h)) (k:=?_))
 refine G0 (ad:=⟨jb,0,none⟩) 1 (hL:=(fun w h=>(Sat.takeMid (K:=[]) (A:=K) h))) (k:=D0 (fuel:=7) [(2,0)] (fun w h=>(Sat.takeMid (K:=[]) (A:=K) h)) (k:=?_))
 refine A9 3 (hL:=(fun w h=>(Sat.takeMid (K:=[]) (A:=K) h))) (hy:=A5 (i:=3) (ch:=[]) (b:=jb) (off:=0) (v:=pt d) (hA:=hJ) (k:=B1 kr rfl)) (k:=D0 (fuel:=5) [(4,0)] (fun w h=>(Sat.takeMid (K:=[]) (A:=K) h)) (k:=?_))
 refine G0 (ad:=⟨jb,0,none⟩) 5 (hL:=(fun w h=>(Sat.takeMid (K:=[]) (A:=K) h))) (k:=D0 (fuel:=3) [(6,0)] (fun w h=>(Sat.takeMid (K:=[]) (A:=K) h)) (k:=?_))
 refine A9 7 (hL:=(fun w h=>(Sat.takeMid (K:=[]) (A:=K) h))) (hy:=A5 (i:=7) (ch:=[]) (b:=jb) (off:=1) (v:=.string dir) (hA:=hJ) (k:=B1 kr rfl)) (k:=B9 8 (k:=?_))
 refine G2 Tryz.func87 (dSyncDir hs hm d dir (by omega) K _ H rfl) ?_
 rintro v H' ⟨rfl,s1,hs1,rfl⟩
 refine A6 kr (fun w h=>(Sat.takeMid (K:=[]) (A:=K) h)) (D0 (fuel:=0) [(9,0)] (fun w h=>(Sat.takeMid (K:=[]) (A:=K) h)) (k:=?_))
 refine D8 (E':=[⟨2,[],.int .i64 ((I4 M dir).1)⟩]) [2] (k:=A0 ?_)
 refine C3 (C1 [.tmp 2] [.int .i64 ((I4 M dir).1)] (k:=?_))
 exact ⟨rfl,_,hs1,rfl⟩
theorem cAppJ {s:DS} {M:DM} (hs:s.ok M) (hm:L5 M) (K:List Grp) (jb d:Nat) (dir:ByteArray) (rv:Value) (size:Int) (down there:Bool) (hdir:dir.size≤1000000) (bj bl:Nat) (l:ByteArray) (hl:l.size≤1000000000) (W0:World) (H:List Grp) (hJ:At W0 K jb (.cells #[pt d,.string dir,rv,.int .i64 size,.bool down,.bool there] 83 (0,0))) (hbj:At W0 K bj (.cells #[pt jb] 28 (0,0))) (hbl:At W0 K bl (.cells #[.string l] 9 (0,0))):Tri Tryz.prog 48 #[pt bj,pt bl] W0 (K++(s.G d M++H)) (IsK K d (F4 M (B0 dir logB) l).2 (.int .i64 (F4 M (B0 dir logB) l).1) H):=by
 refine C8 (args:=[pt bj,pt bl]) (n:=12) Tryz.func48 rfl rfl (Nat.le_of_ble_eq_true rfl) ?_
 refine A1 (B4 (E':=[⟨0,[],pt bj⟩,⟨1,[],pt bl⟩]) [0] [0,1] (k:=?_))
 refine A0 (A1 ?_)
 refine D7 K kr (A9 0 (hL:=(fun w h=>(Sat.takeMid (K:=[]) (A:=K) h))) (hy:=A5 (i:=0) (ch:=[]) (b:=bj) (off:=0) (v:=pt jb) (hA:=hbj) (k:=B1 kr rfl)) (k:=?_))
 refine G0 (ad:=⟨jb,0,none⟩) 1 (hL:=(fun w h=>(Sat.takeMid (K:=[]) (A:=K) h))) (k:=D0 (fuel:=7) [(2,0)] (fun w h=>(Sat.takeMid (K:=[]) (A:=K) h)) (k:=?_))
 refine A9 3 (hL:=(fun w h=>(Sat.takeMid (K:=[]) (A:=K) h))) (hy:=A5 (i:=3) (ch:=[]) (b:=jb) (off:=0) (v:=pt d) (hA:=hJ) (k:=B1 kr rfl)) (k:=A9 4 (hL:=(fun w h=>(Sat.takeMid (K:=[]) (A:=K) h))) (hy:=A5 (i:=4) (ch:=[]) (b:=bj) (off:=0) (v:=pt jb) (hA:=hbj) (k:=B1 kr rfl)) (k:=?_))
 refine A9 6 (hL:=(fun w h=>(Sat.takeMid (K:=[]) (A:=K) h))) (hy:=A5 (i:=6) (ch:=[]) (b:=bl) (off:=0) (v:=.string l) (hA:=hbl) (k:=B1 kr rfl)) (k:=O0 5 7 (k:=?_) (k':=?_))
 ·
  refine F6 (vs:=[pt jb,.string (ByteArray.mk #[108,111,103])]) Tryz.func40 (path_ _ _ _ _ _ _ _ _ (show dir.size+3≤1000000000 by omega) _ _ (At.app hJ)) (A6 kr (fun w h=>(Sat.takeMid (K:=[]) (A:=K) h)) ?_)
  refine B9 7 (k:=P6 (ch:=[]) (src:=9) (dst:=22) (e:=5) (s:=l) (k:=(fun b1 cap2 g3 hcap4 hrd5=>?_)))
  refine A6 kr (fun w h=>(Sat.takeMid (K:=[]) (A:=K) (h.erase 0))) (I0 (g3::K) (fun w h=>(h.erase 0)) ?_)
  refine B9 8 (k:=G2 Tryz.func26 (dAppend hs hm d (B0 dir (ByteArray.mk #[108,111,103])) l (Y3 (show dir.size+3≤1000000000 by omega)) (by omega) ([g3]++K) _ H ⟨(some ⟨b1,0,none⟩),cap2,(inG g3),rfl,.inr (.inr ⟨b1,0,rfl⟩),hrd5,(C9 0 rfl)⟩ rfl) ?_)
  rintro v H' ⟨rfl,s1,hs1,rfl⟩
  refine A6 kr (fun w h=>(Sat.takeMid (K:=[_]) (A:=K) h)) (D0 (fuel:=0) [(9,0)] (fun w h=>(Sat.takeMid (K:=[_]) (A:=K) h)) (k:=?_))
  refine D8 (E':=[⟨2,[],.int .i64 ((F4 M (B0 dir (ByteArray.mk #[108,111,103])) l).1)⟩]) [2] (k:=A0 ?_)
  refine C3 (E0 (H':=(K++(s1.G d ((F4 M (B0 dir (ByteArray.mk #[108,111,103])) l).2)++H))) (fun w h=>h.erase 0) ?_)
  refine C1 [.tmp 2] [.int .i64 ((F4 M (B0 dir (ByteArray.mk #[108,111,103])) l).1)] (k:=?_)
  exact ⟨rfl,_,hs1,rfl⟩
 ·
  refine P6 (ch:=[]) (src:=9) (dst:=22) (e:=5) (s:=l) (k:=(fun b6 cap7 g8 hcap9 hrd10=>?_))
  refine A6 kr (fun w h=>(Sat.takeMid (K:=[]) (A:=K) (h.erase 0))) (I0 (g8::K) (fun w h=>(h.erase 0)) ?_)
  refine B9 5 (k:=F6 (vs:=[pt jb,.string (ByteArray.mk #[108,111,103])]) Tryz.func40 (path_ _ _ _ _ _ _ _ _ (show dir.size+3≤1000000000 by omega) _ _ (At.cons (At.app hJ))) ?_)
  refine A6 kr (fun w h=>(Sat.takeMid (K:=[_]) (A:=K) h)) (B9 8 (k:=?_))
  refine G2 Tryz.func26 (dAppend hs hm d (B0 dir (ByteArray.mk #[108,111,103])) l (Y3 (show dir.size+3≤1000000000 by omega)) (by omega) ([g8]++K) _ H ⟨(some ⟨b6,0,none⟩),cap7,(inG g8),rfl,.inr (.inr ⟨b6,0,rfl⟩),hrd10,(C9 0 rfl)⟩ rfl) ?_
  rintro v H' ⟨rfl,s2,hs2,rfl⟩
  refine A6 kr (fun w h=>(Sat.takeMid (K:=[_]) (A:=K) h)) (D0 (fuel:=0) [(9,0)] (fun w h=>(Sat.takeMid (K:=[_]) (A:=K) h)) (k:=?_))
  refine D8 (E':=[⟨2,[],.int .i64 ((F4 M (B0 dir (ByteArray.mk #[108,111,103])) l).1)⟩]) [2] (k:=A0 ?_)
  refine C3 (E0 (H':=(K++(s2.G d ((F4 M (B0 dir (ByteArray.mk #[108,111,103])) l).2)++H))) (fun w h=>h.erase 0) ?_)
  refine C1 [.tmp 2] [.int .i64 ((F4 M (B0 dir (ByteArray.mk #[108,111,103])) l).1)] (k:=?_)
  exact ⟨rfl,_,hs2,rfl⟩
theorem cWriJ {s:DS} {M:DM} (hs:s.ok M) (hm:L5 M) (K:List Grp) (jb d:Nat) (dir:ByteArray) (rv:Value) (size:Int) (down there:Bool) (hdir:dir.size≤1000000) (bj bl:Nat) (l:ByteArray) (hl:l.size≤1000000000) (W0:World) (H:List Grp) (hJ:At W0 K jb (.cells #[pt d,.string dir,rv,.int .i64 size,.bool down,.bool there] 83 (0,0))) (hbj:At W0 K bj (.cells #[pt jb] 28 (0,0))) (hbl:At W0 K bl (.cells #[.string l] 9 (0,0))):Tri Tryz.prog 50 #[pt bj,pt bl] W0 (K++(s.G d M++H)) (IsK K d (D9 M (B0 dir logB) l).2 (.int .i64 (D9 M (B0 dir logB) l).1) H):=by
 refine C8 (args:=[pt bj,pt bl]) (n:=12) Tryz.func50 rfl rfl (Nat.le_of_ble_eq_true rfl) ?_
 refine A1 (B4 (E':=[⟨0,[],pt bj⟩,⟨1,[],pt bl⟩]) [0] [0,1] (k:=?_))
 refine A0 (A1 ?_)
 refine D7 K kr (A9 0 (hL:=(fun w h=>(Sat.takeMid (K:=[]) (A:=K) h))) (hy:=A5 (i:=0) (ch:=[]) (b:=bj) (off:=0) (v:=pt jb) (hA:=hbj) (k:=B1 kr rfl)) (k:=?_))
 refine G0 (ad:=⟨jb,0,none⟩) 1 (hL:=(fun w h=>(Sat.takeMid (K:=[]) (A:=K) h))) (k:=D0 (fuel:=7) [(2,0)] (fun w h=>(Sat.takeMid (K:=[]) (A:=K) h)) (k:=?_))
 refine A9 3 (hL:=(fun w h=>(Sat.takeMid (K:=[]) (A:=K) h))) (hy:=A5 (i:=3) (ch:=[]) (b:=jb) (off:=0) (v:=pt d) (hA:=hJ) (k:=B1 kr rfl)) (k:=A9 4 (hL:=(fun w h=>(Sat.takeMid (K:=[]) (A:=K) h))) (hy:=A5 (i:=4) (ch:=[]) (b:=bj) (off:=0) (v:=pt jb) (hA:=hbj) (k:=B1 kr rfl)) (k:=?_))
 refine A9 6 (hL:=(fun w h=>(Sat.takeMid (K:=[]) (A:=K) h))) (hy:=A5 (i:=6) (ch:=[]) (b:=bl) (off:=0) (v:=.string l) (hA:=hbl) (k:=B1 kr rfl)) (k:=O0 5 7 (k:=?_) (k':=?_))
 ·
  refine F6 (vs:=[pt jb,.string (ByteArray.mk #[108,111,103])]) Tryz.func40 (path_ _ _ _ _ _ _ _ _ (show dir.size+3≤1000000000 by omega) _ _ (At.app hJ)) (A6 kr (fun w h=>(Sat.takeMid (K:=[]) (A:=K) h)) ?_)
  refine B9 7 (k:=P6 (ch:=[]) (src:=9) (dst:=22) (e:=5) (s:=l) (k:=(fun b1 cap2 g3 hcap4 hrd5=>?_)))
  refine A6 kr (fun w h=>(Sat.takeMid (K:=[]) (A:=K) (h.erase 0))) (I0 (g3::K) (fun w h=>(h.erase 0)) ?_)
  refine B9 8 (k:=G2 Tryz.func9 (dWrite hs hm d (B0 dir (ByteArray.mk #[108,111,103])) l (Y3 (show dir.size+3≤1000000000 by omega)) (by omega) ([g3]++K) _ H ⟨(some ⟨b1,0,none⟩),cap2,(inG g3),rfl,.inr (.inr ⟨b1,0,rfl⟩),hrd5,(C9 0 rfl)⟩ rfl) ?_)
  rintro v H' ⟨rfl,s1,hs1,rfl⟩
  refine A6 kr (fun w h=>(Sat.takeMid (K:=[_]) (A:=K) h)) (D0 (fuel:=0) [(9,0)] (fun w h=>(Sat.takeMid (K:=[_]) (A:=K) h)) (k:=?_))
  refine D8 (E':=[⟨2,[],.int .i64 ((D9 M (B0 dir (ByteArray.mk #[108,111,103])) l).1)⟩]) [2] (k:=A0 ?_)
  refine C3 (E0 (H':=(K++(s1.G d ((D9 M (B0 dir (ByteArray.mk #[108,111,103])) l).2)++H))) (fun w h=>h.erase 0) ?_)
  refine C1 [.tmp 2] [.int .i64 ((D9 M (B0 dir (ByteArray.mk #[108,111,103])) l).1)] (k:=?_)
  exact ⟨rfl,_,hs1,rfl⟩
 ·
  refine P6 (ch:=[]) (src:=9) (dst:=22) (e:=5) (s:=l) (k:=(fun b6 cap7 g8 hcap9 hrd10=>?_))
  refine A6 kr (fun w h=>(Sat.takeMid (K:=[]) (A:=K) (h.erase 0))) (I0 (g8::K) (fun w h=>(h.erase 0)) ?_)
  refine B9 5 (k:=F6 (vs:=[pt jb,.string (ByteArray.mk #[108,111,103])]) Tryz.func40 (path_ _ _ _ _ _ _ _ _ (show dir.size+3≤1000000000 by omega) _ _ (At.cons (At.app hJ))) ?_)
  refine A6 kr (fun w h=>(Sat.takeMid (K:=[_]) (A:=K) h)) (B9 8 (k:=?_))
  refine G2 Tryz.func9 (dWrite hs hm d (B0 dir (ByteArray.mk #[108,111,103])) l (Y3 (show dir.size+3≤1000000000 by omega)) (by omega) ([g8]++K) _ H ⟨(some ⟨b6,0,none⟩),cap7,(inG g8),rfl,.inr (.inr ⟨b6,0,rfl⟩),hrd10,(C9 0 rfl)⟩ rfl) ?_
  rintro v H' ⟨rfl,s2,hs2,rfl⟩
  refine A6 kr (fun w h=>(Sat.takeMid (K:=[_]) (A:=K) h)) (D0 (fuel:=0) [(9,0)] (fun w h=>(Sat.takeMid (K:=[_]) (A:=K) h)) (k:=?_))
  refine D8 (E':=[⟨2,[],.int .i64 ((D9 M (B0 dir (ByteArray.mk #[108,111,103])) l).1)⟩]) [2] (k:=A0 ?_)
  refine C3 (E0 (H':=(K++(s2.G d ((D9 M (B0 dir (ByteArray.mk #[108,111,103])) l).2)++H))) (fun w h=>h.erase 0) ?_)
  refine C1 [.tmp 2] [.int .i64 ((D9 M (B0 dir (ByteArray.mk #[108,111,103])) l).1)] (k:=?_)
  exact ⟨rfl,_,hs2,rfl⟩
theorem cRenJ {s:DS} {M:DM} (hs:s.ok M) (hm:L5 M) (K:List Grp) (jb d:Nat) (dir:ByteArray) (rv:Value) (size:Int) (down there:Bool) (hdir:dir.size≤1000000) (bj:Nat) (W0:World) (H:List Grp) (hJ:At W0 K jb (.cells #[pt d,.string dir,rv,.int .i64 size,.bool down,.bool there] 83 (0,0))) (hbj:At W0 K bj (.cells #[pt jb] 28 (0,0))):Tri Tryz.prog 55 #[pt bj] W0 (K++(s.G d M++H)) (IsK K d (J3 M (B0 dir G7) (B0 dir logB)).2 (.int .i64 (J3 M (B0 dir G7) (B0 dir logB)).1) H):=by
 refine C8 (args:=[pt bj]) (n:=11) Tryz.func55 rfl rfl (Nat.le_of_ble_eq_true rfl) ?_
 refine A1 (B4 (E':=[⟨0,[],pt bj⟩]) [0] [0] (k:=?_))
 refine A0 (A1 ?_)
 refine D7 K kr (A9 0 (hL:=(fun w h=>(Sat.takeMid (K:=[]) (A:=K) h))) (hy:=A5 (i:=0) (ch:=[]) (b:=bj) (off:=0) (v:=pt jb) (hA:=hbj) (k:=B1 kr rfl)) (k:=?_))
 refine G0 (ad:=⟨jb,0,none⟩) 1 (hL:=(fun w h=>(Sat.takeMid (K:=[]) (A:=K) h))) (k:=D0 (fuel:=7) [(2,0)] (fun w h=>(Sat.takeMid (K:=[]) (A:=K) h)) (k:=?_))
 refine A9 3 (hL:=(fun w h=>(Sat.takeMid (K:=[]) (A:=K) h))) (hy:=A5 (i:=3) (ch:=[]) (b:=jb) (off:=0) (v:=pt d) (hA:=hJ) (k:=B1 kr rfl)) (k:=A9 4 (hL:=(fun w h=>(Sat.takeMid (K:=[]) (A:=K) h))) (hy:=A5 (i:=4) (ch:=[]) (b:=bj) (off:=0) (v:=pt jb) (hA:=hbj) (k:=B1 kr rfl)) (k:=?_))
 refine A9 6 (hL:=(fun w h=>(Sat.takeMid (K:=[]) (A:=K) h))) (hy:=A5 (i:=6) (ch:=[]) (b:=bj) (off:=0) (v:=pt jb) (hA:=hbj) (k:=B1 kr rfl)) (k:=B9 5 (k:=?_))
 refine F6 (vs:=[pt jb,.string (ByteArray.mk #[110,101,119])]) Tryz.func40 (path_ _ _ _ _ _ _ _ _ (show dir.size+3≤1000000000 by omega) _ _ (At.app hJ)) (A6 kr (fun w h=>(Sat.takeMid (K:=[]) (A:=K) h)) ?_)
 refine B9 7 (k:=F6 (vs:=[pt jb,.string (ByteArray.mk #[108,111,103])]) Tryz.func40 (path_ _ _ _ _ _ _ _ _ (show dir.size+3≤1000000000 by omega) _ _ (At.app hJ)) ?_)
 refine A6 kr (fun w h=>(Sat.takeMid (K:=[]) (A:=K) h)) (B9 8 (k:=?_))
 refine G2 Tryz.func56 (dRename hs hm d (B0 dir (ByteArray.mk #[110,101,119])) (B0 dir (ByteArray.mk #[108,111,103])) (Y3 (show dir.size+3≤1000000000 by omega)) (Y3 (show dir.size+3≤1000000000 by omega)) K _ H rfl) ?_
 rintro v H' ⟨rfl,s1,hs1,rfl⟩
 refine A6 kr (fun w h=>(Sat.takeMid (K:=[]) (A:=K) h)) (D0 (fuel:=0) [(9,0)] (fun w h=>(Sat.takeMid (K:=[]) (A:=K) h)) (k:=?_))
 refine D8 (E':=[⟨1,[],.int .i64 ((J3 M (B0 dir (ByteArray.mk #[110,101,119])) (B0 dir (ByteArray.mk #[108,111,103]))).1)⟩]) [1] (k:=A0 ?_)
 refine C3 (C1 [.tmp 1] [.int .i64 ((J3 M (B0 dir (ByteArray.mk #[110,101,119])) (B0 dir (ByteArray.mk #[108,111,103]))).1)] (k:=?_))
 exact ⟨rfl,_,hs1,rfl⟩
end Go.Proofs.YtlaoeiaaeifidaaGreat
namespace Go.Proofs.YtlaoeiaaeifidaaGreat
open Go.Sw Go.Lib Go.Vf Go.Sha Go.Jr Go.RowKit
theorem try_ {σ:Type} (T:σ→List Grp) (fa:Option Addr) (fc:Nat) (fs:List Value) (S:Nat→Obj→Prop) (hrd:Rd S fa fs) (hl:fs.length≤1000) (jb d:Nat) (dir:ByteArray) (rv:Value) (size:Int) (down there:Bool) (W0:World) (H:List Grp) (hS:∀ s y o,S y o→At W0 (T s) y o) (Φ:Nat→σ→Prop) (Ψ:Int→σ→Prop) (hcall:∀ k s,k<fs.length→Φ k s→FV Tryz.prog (fs.getD k default) [] W0 (jG jb d dir rv size down there::T s) (fun v H'=>∃ e s',v=.int .i64 e∧(e=0→Φ (k+1) s')∧(e≠0→Ψ e s')∧H'=jG jb d dir rv size down there::T s')) (s0:σ) (h0:Φ 0 s0):Tri Tryz.prog 47 #[pt jb,.slice fa fs.length fc] W0 ([(jb,.cells #[pt d,.string dir,rv,.int .i64 size,.bool down,.bool there] 83 (0,0))]::(T s0)) (fun v H'=>(∃ s,Φ fs.length s∧v=.int .i64 0∧H'=jG jb d dir rv size down there::T s)∨(∃ e s,e≠0∧Ψ e s∧v=.int .i64 e∧H'=jG jb d dir rv size (down||(e != 61)) there::T s)):=by
 refine C8 (args:=[pt jb,.slice fa fs.length fc]) (n:=31) Tryz.func47 rfl rfl (Nat.le_of_ble_eq_true rfl) ?_
 refine A1 (G_p [0] [0,1] (k:=?_))
 refine A0 (A1 ?_)
 refine A1 (G_p [0,0,0] [0,8,9,10] (k:=?_))
 refine A0 (C5 ?_)
 refine I8 (EI:=(fun ξ:Nat × σ=>[⟨0,[],pt jb⟩,⟨8,[],.slice fa fs.length fc⟩,⟨9,[],.int .i64 ((fs.length:Nat):Int)⟩,⟨10,[],.int .i64 ((ξ.1:Nat):Int)⟩])) (HI:=(fun ξ:Nat × σ=>([(jb,.cells #[pt d,.string dir,rv,.int .i64 size,.bool down,.bool there] 83 (0,0))]::(T ξ.2)))) (Φ:=(fun ξ:Nat × σ=>(ξ.1≤fs.length)∧(Φ ξ.1 ξ.2))) (μ:=(fun ξ:Nat × σ=>fs.length - ξ.1)) (s0:=(0,s0)) [0,8,9,10] kr rfl ⟨(by omega),h0⟩ ?_
 rintro ⟨k,st⟩ ⟨hk,hΦ⟩
 refine A1 (G_p [0] [0,8,9,10,11] (k:=?_))
 refine A0 (A1 ?_)
 refine C6 (b:=decide (((k:Nat):Int)<((fs.length:Nat):Int))) kr (fun hc1=>?_) (fun hc1=>?_)
 ·
  simp at hc1
  refine B5 (A0 ?_)
  refine A1 (C5 ?_)
  refine A1 (A2 ?_)
  refine B7 (ch:=[]) (a:=fa) (len:=fs.length) (cap:=fc) (kd:=.i64) (j:=((k:Nat):Int)) (e:=91) (sz:=1) (S:=S) (cs:=fs) (hrd:=hrd) (hb:=(fun _=>by exact ⟨by omega,by omega,fun h=>by subst h; simp at hc1⟩)) (k:=D4 (ch:=[]) (a:=fa) (q:=k * 1) (S:=S) (cs:=fs) (v:=(fs.getD k default)) (hrd:=hrd) (hS:=(fun y o h=>At.cons (hS _ y o h))) (hv:=(fun _=>(by rw [Nat.mul_one]; exact fs_at (by omega)))) (k:=?_))
  refine C4 [0] [0,6,8,9,10] (k:=A0 ?_)
  refine A1 (A2 ?_)
  refine A7 (j:=1) [0] (k:=GL_callV (i:=1) (ch:=[]) (fv:=(fs.getD k default)) (vs:=[]) rfl rfl rfl kr kr kr kr (J0 kr) (hcall k st (by omega) hΦ) ?_)
  rintro v H' ⟨e2,st3,rfl,he4,hn5,rfl⟩
  refine C4 [0] [0,7,8,9,10] (k:=A0 ?_)
  refine A1 (G_p [0,0] [0,7,8,9,10,17] (k:=?_))
  refine A0 (C6 (b:=e2 != 0) kr (fun hc6=>?_) (fun hc6=>?_))
  ·
   have hcc:=hc6
   refine A1 (A2 ?_)
   refine A7 (j:=4) [0,0,0,0] (k:=A5 (ch:=[]) (b:=jb) (off:=4) (v:=.bool down) (hA:=At.grp 0 0 rfl rfl) (k:=?_))
   refine A7 (j:=11) [0,0,0,5,0,0] (k:=G4 (ch:=[]) (b:=jb) (off:=4) (v:=.bool (down||(e2 != 61))) (j:=0) ([(jb,.cells #[pt d,.string dir,rv,.int .i64 size,.bool (down||(e2 != 61)),.bool there] 83 (0,0))]::(T st3)) (hoff:=Nat.le_of_ble_eq_true rfl) (hfz:=(fun _ _=>F0)) (k:=?_))
   refine D3 (E':=[⟨7,[],.int .i64 e2⟩]) [] [7] (k:=A0 ?_)
   refine A1 (B4 (E':=[⟨4,[],.int .i64 e2⟩]) [0,0] [4] (k:=?_))
   refine A0 (C3 ?_)
   refine F8 (B3 ?_)
   refine B3 (F8 ?_)
   refine B3 (C1 [.tmp 4] [.int .i64 e2] (k:=?_))
   exact .inr ⟨_,_,by simpa using hcc,hn5 (by simpa using hcc),rfl,rfl⟩
  ·
   have hcf:=hc6
   refine B5 (D5 ?_)
   refine A0 (A2 ?_)
   refine A7 (j:=1) [0] (k:=F2 30 (((k:Nat):Int)+1) (by omega) (by omega) kr ?_)
   refine C4 [0] [0,8,9,10] (k:=E5 (s':=(k+1,st3)) [0,8,9,10] kr rfl ⟨(by omega),(he4 (by simpa using hcf))⟩ (by omega))
 ·
  simp at hc1
  refine G6 (A8 ?_)
  refine A8 (C7 ?_)
  refine A0 (A1 ?_)
  refine B4 (E':=[⟨4,[],.int .i64 0⟩]) [0] [4] (k:=A0 ?_)
  refine C3 (C1 [.tmp 4] [.int .i64 0] (k:=?_))
  exact .inl ⟨st,by rw [show fs.length=k by omega]; exact hΦ,rfl,rfl⟩
theorem mkSync_ (jb:Nat) (name:ByteArray) (W0:World) (H:List Grp):Tri Tryz.prog 49 #[pt jb,.string name] W0 H (fun v H'=>∃ b2 b3,v=.func (.func 85) #[] #[pt b2,pt b3]∧H'=[(b3,.cells #[.string name] 9 (0,0))]::[(b2,.cells #[pt jb] 28 (0,0))]::H):=by
 refine C8 (args:=[pt jb,.string name]) (n:=6) Tryz.func49 rfl rfl (Nat.le_of_ble_eq_true rfl) ?_
 refine A1 (A2 ?_)
 refine R3 (ch:=[]) (v:=pt jb) (k:=(fun b1=>?_))
 refine R3 (ch:=[]) (v:=.string name) (k:=(fun b2=>?_))
 refine D3 (E':=[⟨2,[],pt b1⟩,⟨3,[],pt b2⟩]) [0] [2,3] (k:=A0 ?_)
 refine A1 (G_p [0,0] [4] (k:=?_))
 refine A0 (C3 ?_)
 refine C1 [.tmp 4] [.func (.func 85) #[] #[pt b1,pt b2]] (k:=?_)
 exact ⟨_,_,rfl,rfl⟩
theorem cWriR {s:DS} {M:DM} (hs:s.ok M) (hm:L5 M) (K:List Grp) (jb d:Nat) (dir:ByteArray) (rv:Value) (size:Int) (down there:Bool) (hdir:dir.size≤1000000) (bj bb:Nat) (p v:Value) (g:Grp) (t:ByteArray) (hv:BOwn v g t) (ht:t.size≤1000000000) (W0:World) (H:List Grp) (hJ:At W0 K jb (.cells #[pt d,.string dir,rv,.int .i64 size,.bool down,.bool there] 83 (0,0))) (hbj:At W0 K bj (.cells #[pt jb] 28 (0,0))):Tri Tryz.prog 53 #[pt bj,pt bb] W0 ([(bb,.cells #[p,v] 95 (0,0))]::g::(K++(s.G d M++H))) (fun r H'=>r=.int .i64 (D9 M (B0 dir G7) t).1∧∃ s':DS,s'.ok (D9 M (B0 dir G7) t).2∧H'=bldG bb p v::(K++(s'.G d (D9 M (B0 dir G7) t).2++H))):=by
 refine C8 (args:=[pt bj,pt bb]) (n:=12) Tryz.func53 rfl rfl (Nat.le_of_ble_eq_true rfl) ?_
 refine A1 (B4 (E':=[⟨0,[],pt bj⟩,⟨1,[],pt bb⟩]) [0] [0,1] (k:=?_))
 refine A0 (A1 ?_)
 refine D7 K kr (A9 0 (hL:=(fun w h=>(Sat.takeMid (K:=[]) (A:=K) ((h.erase 1).erase 0)))) (hy:=A5 (i:=0) (ch:=[]) (b:=bj) (off:=0) (v:=pt jb) (hA:=hbj) (k:=B1 kr rfl)) (k:=?_))
 refine G0 (ad:=⟨jb,0,none⟩) 1 (hL:=(fun w h=>(Sat.takeMid (K:=[]) (A:=K) ((h.erase 1).erase 0)))) (k:=D0 (fuel:=7) [(2,0)] (fun w h=>(Sat.takeMid (K:=[]) (A:=K) ((h.erase 1).erase 0))) (k:=?_))
 refine A9 3 (hL:=(fun w h=>(Sat.takeMid (K:=[]) (A:=K) ((h.erase 1).erase 0)))) (hy:=A5 (i:=3) (ch:=[]) (b:=jb) (off:=0) (v:=pt d) (hA:=hJ) (k:=B1 kr rfl)) (k:=A9 4 (hL:=(fun w h=>(Sat.takeMid (K:=[]) (A:=K) ((h.erase 1).erase 0)))) (hy:=A5 (i:=4) (ch:=[]) (b:=bj) (off:=0) (v:=pt jb) (hA:=hbj) (k:=B1 kr rfl)) (k:=?_))
 refine B9 5 (k:=F6 (vs:=[pt jb,.string (ByteArray.mk #[110,101,119])]) Tryz.func40 (path_ _ _ _ _ _ _ _ _ (show dir.size+3≤1000000000 by omega) _ _ (At.cons (At.cons (At.app hJ)))) ?_)
 refine A6 kr (fun w h=>(Sat.takeMid (K:=[]) (A:=K) ((h.erase 1).erase 0))) (B9 6 (k:=?_))
 refine G2 Tryz.func54 (builderString bb p v g t hv (by omega) _ _) ?_
 rintro r H' ⟨rfl,rfl⟩
 refine A6 kr (fun w h=>(Sat.takeMid (K:=[]) (A:=K) (h.erase 0))) (B9 7 (k:=?_))
 refine P6 (ch:=[]) (src:=9) (dst:=22) (e:=5) (s:=t) (k:=(fun b1 cap2 g3 hcap4 hrd5=>?_))
 refine A6 kr (fun w h=>(Sat.takeMid (K:=[]) (A:=K) ((h.erase 1).erase 0))) (I0 (g3::K) (fun w h=>(h.erase 0)) ?_)
 refine B9 8 (k:=G2 Tryz.func9 (dWrite hs hm d (B0 dir (ByteArray.mk #[110,101,119])) t (Y3 (show dir.size+3≤1000000000 by omega)) (by omega) ([g3,[(bb,.cells #[p,v] 95 (0,0))]]++K) _ H ⟨(some ⟨b1,0,none⟩),cap2,(inG g3),rfl,.inr (.inr ⟨b1,0,rfl⟩),hrd5,(C9 0 rfl)⟩ rfl) ?_)
 rintro v H' ⟨rfl,s1,hs1,rfl⟩
 refine A6 kr (fun w h=>(Sat.takeMid (K:=[_]) (A:=K) (h.erase 1))) (D0 (fuel:=0) [(9,0)] (fun w h=>(Sat.takeMid (K:=[_]) (A:=K) (h.erase 1))) (k:=?_))
 refine D8 (E':=[⟨2,[],.int .i64 ((D9 M (B0 dir (ByteArray.mk #[110,101,119])) t).1)⟩]) [2] (k:=A0 ?_)
 refine C3 (E0 (H':=([(bb,.cells #[p,v] 95 (0,0))]::(K++(s1.G d ((D9 M (B0 dir (ByteArray.mk #[110,101,119])) t).2)++H)))) (fun w h=>(h.erase 0)) ?_)
 refine C1 [.tmp 2] [.int .i64 ((D9 M (B0 dir (ByteArray.mk #[110,101,119])) t).1)] (k:=?_)
 exact ⟨rfl,_,hs1,rfl⟩
theorem cloneNil (c:Nat) (W0:World) (H:List Grp):Tri Tryz.prog 44 #[.slice none 0 c] W0 H (fun v H'=>v=.slice none 0 0∧H'=H):=by
 refine C8 (args:=[.slice none 0 c]) (n:=8) Tryz.func44 rfl rfl (Nat.le_of_ble_eq_true rfl) ?_
 refine A1 (B4 (E':=[⟨0,[],.slice none 0 c⟩]) [0] [0] (k:=?_))
 refine A0 (A1 ?_)
 refine A1 (G_p [0,0] [0,4] (k:=?_))
 refine A0 (I1 kr ?_)
 refine A1 (B4 (E':=[⟨2,[],.slice none 0 0⟩]) [0] [2] (k:=?_))
 refine A0 (C3 ?_)
 refine B3 (C1 [.tmp 2] [.slice none 0 0] (k:=?_))
 exact ⟨rfl,rfl⟩
theorem cloneRow (a:Addr) (c:Nat) (ts:List ByteArray) (S:Nat→Obj→Prop) (hrd:Rd S (some a) (strs ts)) (hl:ts.length≤1000000) (W0:World) (H:List Grp) (hS:∀ y o,S y o→At W0 H y o):Tri Tryz.prog 44 #[.slice (some a) ts.length c] W0 H (fun v H'=>∃ g,Go.Sw.Own 9 1 v g ts.length (strs ts)∧H'=g::H):=by
 refine C8 (args:=[.slice (some a) ts.length c]) (n:=8) Tryz.func44 rfl rfl (Nat.le_of_ble_eq_true rfl) ?_
 refine A1 (B4 (E':=[⟨0,[],.slice (some a) ts.length c⟩]) [0] [0] (k:=?_))
 refine A0 (A1 ?_)
 refine A1 (G_p [0,0] [0,4] (k:=?_))
 refine A0 (I2 kr ?_)
 refine B5 (A0 ?_)
 refine A1 (A2 ?_)
 refine C2 (ch:=[]) (e:=9) (l:=[]) (c:=[]) (k:=(fun b1=>?_))
 refine A7 (j:=2) [0] (k:=E9 (i:=2) (ch:=[]) (t:=32) (tx:=32) (e:=9) (inf:=Tryz.t9) (s:=.slice (some ⟨b1,0,none⟩) 0 0) (x:=.slice (some a) ts.length c) (n:=0) (m:=ts.length) (j:=0) (cs:=[]) (news:=(strs ts)) (g:=[(b1,.cells #[] 9 (0,0))]) (S:=S) rfl rfl rfl rfl kr kr kr rfl rfl (.inl ⟨9,kr⟩) (fun ⟨_,h⟩=>by cases h) (fun _=>⟨9,kr⟩) kr kr kr rfl (Go.Sw.Own.lit rfl) (SrcOf.slice _ _ _ _ hrd (fun h=>by cases h)) (fun y o h=>(At.cons (hS y o h))) (show (strs ts).length=ts.length * 1 by simp [strs]) P7 (by omega) (by show (0+ts.length) * 16≤140737488355328; omega) (fun v2 g3 hO4=>?_))
 refine D3 (E':=[⟨2,[],v2⟩]) [0] [2] (k:=A0 ?_)
 refine C3 (C1 [.tmp 2] [v2] (k:=?_))
 exact ⟨_,T5 hO4,rfl⟩
theorem clone_ (a:Option Addr) (c:Nat) (ts:List ByteArray) (S:Nat→Obj→Prop) (hrd:Rd S a (strs ts)) (hl:ts.length≤1000000) (hn:a=none→ts.length=0) (W0:World) (H:List Grp) (hS:∀ y o,S y o→At W0 H y o):Tri Tryz.prog 44 #[.slice a ts.length c] W0 H (fun v H'=>∃ g,Go.Sw.Own 9 1 v g ts.length (strs ts)∧H'=g::H):=by
  cases a with
  | some a=>exact cloneRow a c ts S hrd hl W0 H hS
  | none =>
    have h0:ts=[]:=List.eq_nil_of_length_eq_zero (hn rfl)
    subst h0
    refine Tri.post (cloneNil c W0 H) fun v H1 ⟨h1,h2⟩=>⟨_,⟨[],by rw [h1]; exact Go.Sw.Own.nil,rfl⟩,fun w hw=>by rw [h2] at hw; exact hw.flat (List.Perm.refl _)⟩
end Go.Proofs.YtlaoeiaaeifidaaGreat
namespace Go.Proofs.YtlaoeiaaeifidaaGreat
open Go.Sw Go.Lib Go.Vf Go.Sha Go.Jr Go.RowKit
theorem X4 (f:DM→Int × DM) (r:List (DM→Int × DM)) (M:DM):tryM (f::r) M=if (f M).1 != 0 then f M else tryM r (f M).2:=rfl
theorem drop_getD {α:Type} {l:List α} {k:Nat} (d:α) (h:k<l.length):l.drop k=l.getD k d::l.drop (k+1):=by
  rw [List.drop_eq_getElem_cons h,List.getD,List.getElem?_eq_getElem h]; rfl
def idS:DM→Int × DM:=fun M=>(0,M)
theorem sat_dropMid {W0:World} {K A L:List Grp} {w:World} (h:Sat W0 (K++(A++L)) w):Sat W0 (K++L) w:=h.subl (by
  simp only [List.flatten_append]
  exact List.Sublist.append (List.Sublist.refl _) (List.sublist_append_right _ _))
abbrev TS:=DS × DM × List Grp
theorem tryJ {s:DS} {M:DM} (hs:s.ok M) (steps:List (DM→Int × DM)) (P:Nat→DM→Prop) (X:Nat→List Grp) (fa:Option Addr) (fc:Nat) (fs:List Value) (S:Nat→Obj→Prop) (hrd:Rd S fa fs) (hn:fs.length=steps.length) (hl:fs.length≤1000)
    (jb d:Nat) (dir:ByteArray) (rv:Value) (size:Int) (down there:Bool) (K:List Grp) (W0:World) (H:List Grp) (hS:∀ y o,S y o→At W0 K y o) (hP0:P 0 M)
    (hPs:∀ k M',k<fs.length→P k M'→((steps.getD k idS) M').1=0→P (k+1) ((steps.getD k idS) M').2)
    (hcall:∀ k (s:DS) M',k<fs.length→P k M'→s.ok M'→FV Tryz.prog (fs.getD k default) [] W0 (jG jb d dir rv size down there::(X k++(K++(s.G d M'++H)))) (fun v H'=>v=.int .i64 ((steps.getD k idS) M').1∧∃ s':DS,s'.ok ((steps.getD k idS) M').2∧H'=jG jb d dir rv size down there::(X (k+1)++(K++(s'.G d ((steps.getD k idS) M').2++H))))) :
    Tri Tryz.prog 47 #[pt jb,.slice fa fs.length fc] W0 (jG jb d dir rv size down there::(X 0++(K++(s.G d M++H)))) (fun v H'=>v=.int .i64 (tryM steps M).1∧∃ s':DS,s'.ok (tryM steps M).2∧H'=jG jb d dir rv size (if (tryM steps M).1 != 0 then down||((tryM steps M).1 != 61) else down) there::(K++(s'.G d (tryM steps M).2++H))):=by
  have:=try_ (σ:=TS) (fun x=>x.2.2++(K++(x.1.G d x.2.1++H))) fa fc fs S hrd hl jb d dir rv size down there W0 H
    (fun x y o h=>by
      rcases hS y o h with h | h
      · exact .inl h
      · exact .inr (by simp only [List.flatten_append,List.mem_append]; exact .inr (.inl h)))
    (fun k x=>x.1.ok x.2.1∧tryM steps M=tryM (steps.drop k) x.2.1∧P k x.2.1∧x.2.2=X k)
    (fun e x=>x.1.ok x.2.1∧tryM steps M=(e,x.2.1))
    (fun k x hk ⟨h1,h2,h3,h4⟩=>by
      obtain ⟨f,fst,caps,fn,hv,hf,hnm,hb,ht⟩:=hcall k x.1 x.2.1 hk h3 h1
      have hd:=drop_getD (l:=steps) idS (show k<steps.length by omega)
      refine ⟨f,fst,caps,fn,hv,hf,hnm,hb,?_⟩
      rw [← h4] at ht
      refine Tri.mono ht fun v H1 ⟨hv1,s',hs',hH⟩=>⟨((steps.getD k idS) x.2.1).1,(s',((steps.getD k idS) x.2.1).2,X (k+1)),hv1,fun h0=>⟨hs',?_,hPs k _ hk h3 h0,rfl⟩,fun hne=>⟨hs',?_⟩,hH⟩
      · rw [h2,hd,X4,h0]; rfl
      · rw [h2,hd,X4,if_pos (by simpa using hne)])
    (s,M,X 0) ⟨hs,rfl,hP0,rfl⟩
  refine Tri.post this fun v H1 h=>?_
  rcases h with ⟨x,⟨h1,h2,h3,h4⟩,rfl,rfl⟩ | ⟨e,x,hne,⟨h1,h2⟩,rfl,rfl⟩
  · have e:tryM steps M=(0,x.2.1):=by rw [h2,hn,List.drop_length]; rfl
    rw [e]
    exact ⟨_,⟨rfl,x.1,h1,rfl⟩,fun w hw=>sat_dropMid (K:=[_]) hw⟩
  · rw [h2]
    refine ⟨_,⟨rfl,x.1,h1,rfl⟩,fun w hw=>?_⟩
    rw [if_pos (by simpa using hne)]
    exact sat_dropMid (K:=[_]) hw
end Go.Proofs.YtlaoeiaaeifidaaGreat
namespace Go.Proofs.YtlaoeiaaeifidaaGreat
open Go.Sw Go.Lib Go.Vf Go.Sha Go.Jr Go.RowKit
theorem at_lit {W0:World} {K:List Grp} {b:Nat} {o:Obj} (h:At W0 K b o):∀ y o',inG [(b,o)] y o'→At W0 K y o':=fun y o' hy=>by
  have:=List.mem_singleton.1 hy
  simp only [Prod.mk.injEq] at this
  obtain ⟨rfl,rfl⟩:=this; exact h
def TryR (steps:List (DM→Int × DM)) (M:DM) (jb d:Nat) (dir:ByteArray) (rv:Value) (size:Int) (down there:Bool) (K:List Grp) (H:List Grp):Value→List Grp→Prop:=fun v H' =>
  v=.int .i64 (tryM steps M).1∧∃ s':DS,s'.ok (tryM steps M).2∧H'=jG jb d dir rv size (if (tryM steps M).1 != 0 then down||((tryM steps M).1 != 61) else down) there::(K++(s'.G d (tryM steps M).2++H))
def P0 (dir l:ByteArray):List (DM→Int × DM):=[fun M=>F4 M (B0 dir logB) l,fun M=>L8 M (B0 dir logB)]
def O9 (dir l:ByteArray):List (DM→Int × DM):=[fun M=>D9 M (B0 dir logB) l,fun M=>L8 M (B0 dir logB),fun M=>I4 M dir]
theorem three_le {dir:ByteArray}:dir.size≤1000000→logB.size≤1000:=fun _=>by show 3≤1000; omega
theorem tryApp {s:DS} {M:DM} (hs:s.ok M) (dir l:ByteArray) (hl:l.size≤1000000000) (hdir:dir.size≤1000000) (hm:L5 M) (hm1:L5 (F4 M (B0 dir logB) l).2)
    (jb d bj bl bj2 bn b:Nat) (rv:Value) (size:Int) (down there:Bool) (K:List Grp) (W0:World) (H:List Grp)
    (hb:At W0 K b (.cells #[.func (.func 48) #[] #[pt bj,pt bl],.func (.func 85) #[] #[pt bj2,pt bn]] 91 (0,0)))
    (hbj:At W0 K bj (.cells #[pt jb] 28 (0,0))) (hbl:At W0 K bl (.cells #[.string l] 9 (0,0))) (hbj2:At W0 K bj2 (.cells #[pt jb] 28 (0,0))) (hbn:At W0 K bn (.cells #[.string logB] 9 (0,0))) :
    Tri Tryz.prog 47 #[pt jb,.slice (some ⟨b,0,none⟩) 2 2] W0 (jG jb d dir rv size down there::(K++(s.G d M++H))) (TryR (P0 dir l) M jb d dir rv size down there K H) :=
  tryJ hs (P0 dir l) (fun k M'=>(k=0→M'=M)∧(k=1→M'=(F4 M (B0 dir logB) l).2)) (fun _=>[]) (some ⟨b,0,none⟩) 2 _ _ (Rd.lit (c:=[.func (.func 48) #[] #[pt bj,pt bl],.func (.func 85) #[] #[pt bj2,pt bn]])) rfl (by show 2≤1000; omega) jb d dir rv size down there K W0 H (at_lit hb)
    ⟨fun _=>rfl,fun h=>absurd h (by omega)⟩
    (fun k M' hk hP h0=>⟨fun h=>absurd h (by omega),fun h=>by
      have:k=0:=by omega
      subst this; rw [hP.1 rfl]; rfl⟩)
    (fun k s1 M' hk hP hs1=>by
      have hk2:k<2:=hk
      match k,hk2 with
      | 0,_=>obtain rfl:=hP.1 rfl; exact FV.of Tryz.func48 rfl rfl (cAppJ hs1 hm (jG jb d dir rv size down there::K) jb d dir rv size down there hdir bj bl l hl W0 H (At.grp 0 0 rfl rfl) (At.cons hbj) (At.cons hbl))
      | 1,_=>obtain rfl:=hP.2 rfl; exact FV.of Tryz.func85 rfl rfl (cSyncJ hs1 hm1 (jG jb d dir rv size down there::K) jb d dir rv size down there hdir bj2 bn logB (three_le hdir) W0 H (At.grp 0 0 rfl rfl) (At.cons hbj2) (At.cons hbn)))
theorem tryWri {s:DS} {M:DM} (hs:s.ok M) (dir l:ByteArray) (hl:l.size≤1000000000) (hdir:dir.size≤1000000) (hm:L5 M) (hm1:L5 (D9 M (B0 dir logB) l).2) (hm2:L5 (L8 (D9 M (B0 dir logB) l).2 (B0 dir logB)).2)
    (jb d bj bl bj2 bn b:Nat) (rv:Value) (size:Int) (down there:Bool) (K:List Grp) (W0:World) (H:List Grp)
    (hb:At W0 K b (.cells #[.func (.func 50) #[] #[pt bj,pt bl],.func (.func 85) #[] #[pt bj2,pt bn],.func (.func 51) #[pt jb] #[]] 91 (0,0)))
    (hbj:At W0 K bj (.cells #[pt jb] 28 (0,0))) (hbl:At W0 K bl (.cells #[.string l] 9 (0,0))) (hbj2:At W0 K bj2 (.cells #[pt jb] 28 (0,0))) (hbn:At W0 K bn (.cells #[.string logB] 9 (0,0))) :
    Tri Tryz.prog 47 #[pt jb,.slice (some ⟨b,0,none⟩) 3 3] W0 (jG jb d dir rv size down there::(K++(s.G d M++H))) (TryR (O9 dir l) M jb d dir rv size down there K H) :=
  tryJ hs (O9 dir l) (fun k M'=>(k=0→M'=M)∧(k=1→M'=(D9 M (B0 dir logB) l).2)∧(k=2→M'=(L8 (D9 M (B0 dir logB) l).2 (B0 dir logB)).2)) (fun _=>[]) (some ⟨b,0,none⟩) 3 _ _
    (Rd.lit (c:=[.func (.func 50) #[] #[pt bj,pt bl],.func (.func 85) #[] #[pt bj2,pt bn],.func (.func 51) #[pt jb] #[]])) rfl (by show 3≤1000; omega) jb d dir rv size down there K W0 H (at_lit hb)
    ⟨fun _=>rfl,fun h=>absurd h (by omega),fun h=>absurd h (by omega)⟩
    (fun k M' hk hP h0=>by
      have hk2:k<3:=hk
      match k,hk2 with
      | 0,_=>exact ⟨fun h=>absurd h (by omega),fun _=>by rw [hP.1 rfl]; rfl,fun h=>absurd h (by omega)⟩
      | 1,_=>exact ⟨fun h=>absurd h (by omega),fun h=>absurd h (by omega),fun _=>by rw [hP.2.1 rfl]; rfl⟩
      | 2,_=>exact ⟨fun h=>absurd h (by omega),fun h=>absurd h (by omega),fun h=>absurd h (by omega)⟩)
    (fun k s1 M' hk hP hs1=>by
      have hk2:k<3:=hk
      match k,hk2 with
      | 0,_=>obtain rfl:=hP.1 rfl; exact FV.of Tryz.func50 rfl rfl (cWriJ hs1 hm (jG jb d dir rv size down there::K) jb d dir rv size down there hdir bj bl l hl W0 H (At.grp 0 0 rfl rfl) (At.cons hbj) (At.cons hbl))
      | 1,_=>obtain rfl:=hP.2.1 rfl; exact FV.of Tryz.func85 rfl rfl (cSyncJ hs1 hm1 (jG jb d dir rv size down there::K) jb d dir rv size down there hdir bj2 bn logB (three_le hdir) W0 H (At.grp 0 0 rfl rfl) (At.cons hbj2) (At.cons hbn))
      | 2,_=>obtain rfl:=hP.2.2 rfl; exact FV.of Tryz.func51 rfl rfl (cSyncDirJ hs1 hm2 (jG jb d dir rv size down there::K) jb d dir rv size down there hdir W0 H (At.grp 0 0 rfl rfl)))
theorem tryRep {s:DS} {M:DM} (hs:s.ok M) (dir l:ByteArray) (hl:l.size≤1000000000) (hdir:dir.size≤1000000) (hm:L5 M) (hm1:L5 (D9 M (B0 dir G7) l).2) (hm2:L5 (L8 (D9 M (B0 dir G7) l).2 (B0 dir G7)).2)
    (hm3:L5 (J3 (L8 (D9 M (B0 dir G7) l).2 (B0 dir G7)).2 (B0 dir G7) (B0 dir logB)).2)
    (jb d bj bb bj2 bn b:Nat) (p v:Value) (g:Grp) (hv:BOwn v g l) (rv:Value) (size:Int) (down there:Bool) (K:List Grp) (W0:World) (H:List Grp)
    (hb:At W0 K b (.cells #[.func (.func 53) #[] #[pt bj,pt bb],.func (.func 85) #[] #[pt bj2,pt bn],.func (.func 55) #[] #[pt bj],.func (.func 51) #[pt jb] #[]] 91 (0,0)))
    (hbj:At W0 K bj (.cells #[pt jb] 28 (0,0))) (hbj2:At W0 K bj2 (.cells #[pt jb] 28 (0,0))) (hbn:At W0 K bn (.cells #[.string G7] 9 (0,0))) :
    Tri Tryz.prog 47 #[pt jb,.slice (some ⟨b,0,none⟩) 4 4] W0 (jG jb d dir rv size down there::g::(bldG bb p v::K++(s.G d M++H))) (TryR (E4 dir l) M jb d dir rv size down there (bldG bb p v::K) H) :=
  tryJ hs (E4 dir l) (fun k M'=>(k=0→M'=M)∧(k=1→M'=(D9 M (B0 dir G7) l).2)∧(k=2→M'=(L8 (D9 M (B0 dir G7) l).2 (B0 dir G7)).2)∧(k=3→M'=(J3 (L8 (D9 M (B0 dir G7) l).2 (B0 dir G7)).2 (B0 dir G7) (B0 dir logB)).2))
    (fun k=>if k=0 then [g] else []) (some ⟨b,0,none⟩) 4 _ _
    (Rd.lit (c:=[.func (.func 53) #[] #[pt bj,pt bb],.func (.func 85) #[] #[pt bj2,pt bn],.func (.func 55) #[] #[pt bj],.func (.func 51) #[pt jb] #[]])) rfl (by show 4≤1000; omega) jb d dir rv size down there (bldG bb p v::K) W0 H (fun y o h=>At.cons (at_lit hb y o h))
    ⟨fun _=>rfl,fun h=>absurd h (by omega),fun h=>absurd h (by omega),fun h=>absurd h (by omega)⟩
    (fun k M' hk hP h0=>by
      have hk2:k<4:=hk
      match k,hk2 with
      | 0,_=>exact ⟨fun h=>absurd h (by omega),fun _=>by rw [hP.1 rfl]; rfl,fun h=>absurd h (by omega),fun h=>absurd h (by omega)⟩
      | 1,_=>exact ⟨fun h=>absurd h (by omega),fun h=>absurd h (by omega),fun _=>by rw [hP.2.1 rfl]; rfl,fun h=>absurd h (by omega)⟩
      | 2,_=>exact ⟨fun h=>absurd h (by omega),fun h=>absurd h (by omega),fun h=>absurd h (by omega),fun _=>by rw [hP.2.2.1 rfl]; rfl⟩
      | 3,_=>exact ⟨fun h=>absurd h (by omega),fun h=>absurd h (by omega),fun h=>absurd h (by omega),fun h=>absurd h (by omega)⟩)
    (fun k s1 M' hk hP hs1=>by
      have hk2:k<4:=hk
      match k,hk2 with
      | 0,_ =>
        obtain rfl:=hP.1 rfl
        refine FV.of Tryz.func53 rfl rfl ?_
        refine Tri.heap (H':=bldG bb p v::g::((jG jb d dir rv size down there::K)++(s1.G d M'++H))) (fun w hw=>K6 hw fun _ x=>?_) (Tri.post (cWriR hs1 hm (jG jb d dir rv size down there::K) jb d dir rv size down there hdir bj bb p v g l hv hl W0 H (At.grp 0 0 rfl rfl) (At.cons hbj)) fun v1 H1 ⟨h1,s',h2,h3⟩=>⟨jG jb d dir rv size down there::(([]:List Grp)++((bldG bb p v::K)++(s'.G d (D9 M' (B0 dir G7) l).2++H))),⟨h1,s',h2,rfl⟩,fun w hw=>by
          rw [h3] at hw
          refine K6 hw fun _ x=>?_
          simp only [List.flatten_append,List.flatten_cons,List.count_append,List.cons_append,List.nil_append]; omega⟩)
        simp only [if_pos,List.flatten_append,List.flatten_cons,List.count_append,List.cons_append,List.nil_append]; omega
      | 1,_=>obtain rfl:=hP.2.1 rfl; exact FV.of Tryz.func85 rfl rfl (cSyncJ hs1 hm1 (jG jb d dir rv size down there::bldG bb p v::K) jb d dir rv size down there hdir bj2 bn G7 (three_le hdir) W0 H (At.grp 0 0 rfl rfl) (At.cons (At.cons hbj2)) (At.cons (At.cons hbn)))
      | 2,_=>obtain rfl:=hP.2.2.1 rfl; exact FV.of Tryz.func55 rfl rfl (cRenJ hs1 hm2 (jG jb d dir rv size down there::bldG bb p v::K) jb d dir rv size down there hdir bj W0 H (At.grp 0 0 rfl rfl) (At.cons (At.cons hbj)))
      | 3,_=>obtain rfl:=hP.2.2.2 rfl; exact FV.of Tryz.func51 rfl rfl (cSyncDirJ hs1 hm3 (jG jb d dir rv size down there::bldG bb p v::K) jb d dir rv size down there hdir W0 H (At.grp 0 0 rfl rfl)))
end Go.Proofs.YtlaoeiaaeifidaaGreat
namespace Go.Proofs.YtlaoeiaaeifidaaGreat
open Go.Sw Go.Lib Go.Vf Go.Sha Go.Jr Go.RowKit
def CallR (r:Int × JM × DM) (jb d:Nat) (K H:List Grp):Value→List Grp→Prop:=fun v H' =>
  ∃ (rv':Value) (rg':Grp) (s':DS),v=.int .i64 r.1∧Go.Sw.Own 9 1 rv' rg' r.2.1.L.length (strs r.2.1.L)∧s'.ok r.2.2∧H'=jG jb d r.2.1.dir rv' r.2.1.size r.2.1.down r.2.1.there::rg'::(K++(s'.G d r.2.2++H))
theorem mayI_no {ts:List ByteArray} {down:Bool} (h:¬ (mayI ts down != 0)=true):ts.any (fun t=>!E8 t)=false∧down=false:=by
  unfold mayI at h
  split at h
  · simp at h
  · rename_i h1
    split at h
    · simp at h
    · rename_i h2; exact ⟨by simpa using h1,by simpa using h2⟩
theorem mayI_add {dir:ByteArray} {L:List ByteArray} {size:Int} {down there:Bool} {M:DM} {t:ByteArray} (h:(mayI [t] down != 0)=true):addM ⟨dir,L,size,down,there⟩ M t=(mayI [t] down,⟨dir,L,size,down,there⟩,M):=by
  unfold addM mayI at *
  cases hr:E8 t <;> cases down <;> simp_all
theorem addM_go {dir:ByteArray} {L:List ByteArray} {size:Int} {down there:Bool} {M:DM} {t:ByteArray} (h:¬ (mayI [t] down != 0)=true) :
    addM ⟨dir,L,size,down,there⟩ M t=if (tryM (M3 ⟨dir,L,size,down,there⟩ (B8 t)) M).1 != 0 then ((tryM (M3 ⟨dir,L,size,down,there⟩ (B8 t)) M).1,failJ ⟨dir,L,size,down,there⟩ (tryM (M3 ⟨dir,L,size,down,there⟩ (B8 t)) M).1,(tryM (M3 ⟨dir,L,size,down,there⟩ (B8 t)) M).2)
      else (0,⟨dir,L++[t],size+((B8 t).size:Int),down,true⟩,(tryM (M3 ⟨dir,L,size,down,there⟩ (B8 t)) M).2):=by
  obtain ⟨h1,h2⟩:=mayI_no h
  have h3:E8 t=true:=by simpa using h1
  unfold addM
  rw [h3,if_neg (by decide),if_neg (by rw [show (JM.mk dir L size down there).down=down from rfl,h2]; decide)]
theorem add_err {dir:ByteArray} {L:List ByteArray} {size:Int} {down there:Bool} {M:DM} {t:ByteArray} {st:List (DM→Int × DM)} (h:¬ (mayI [t] down != 0)=true) (hst:M3 ⟨dir,L,size,down,there⟩ (B8 t)=st) (he:((tryM st M).1 != 0)=true) :
    addM ⟨dir,L,size,down,there⟩ M t=((tryM st M).1,⟨dir,L,size,down||((tryM st M).1 != 61),there⟩,(tryM st M).2):=by
  rw [addM_go h,hst,if_pos he]; rfl
theorem add_ok {dir:ByteArray} {L:List ByteArray} {size:Int} {down there:Bool} {M:DM} {t:ByteArray} {st:List (DM→Int × DM)} (h:¬ (mayI [t] down != 0)=true) (hst:M3 ⟨dir,L,size,down,there⟩ (B8 t)=st) (he:¬ ((tryM st M).1 != 0)=true) :
    addM ⟨dir,L,size,down,there⟩ M t=(0,⟨dir,L++[t],size+((B8 t).size:Int),down,true⟩,(tryM st M).2):=by
  rw [addM_go h,hst,if_neg he]
theorem mayI_rep {dir:ByteArray} {L ts:List ByteArray} {size:Int} {down there:Bool} {M:DM} (h:(mayI ts down != 0)=true):E3 ⟨dir,L,size,down,there⟩ M ts=(mayI ts down,⟨dir,L,size,down,there⟩,M):=by
  unfold E3 mayI at *
  cases hr:ts.any (fun t=>!E8 t) <;> cases down <;> simp_all
theorem repM_go {dir:ByteArray} {L ts:List ByteArray} {size:Int} {down there:Bool} {M:DM} (h:¬ (mayI ts down != 0)=true) :
    E3 ⟨dir,L,size,down,there⟩ M ts=if (tryM (E4 dir (A4 ts)) M).1 != 0 then ((tryM (E4 dir (A4 ts)) M).1,failJ ⟨dir,L,size,down,there⟩ (tryM (E4 dir (A4 ts)) M).1,(tryM (E4 dir (A4 ts)) M).2)
      else (0,⟨dir,ts,((A4 ts).size:Int),down,true⟩,(tryM (E4 dir (A4 ts)) M).2):=by
  obtain ⟨h1,h2⟩:=mayI_no h
  unfold E3
  rw [h1,if_neg (by decide),if_neg (by rw [show (JM.mk dir L size down there).down=down from rfl,h2]; decide)]
theorem rep_err {dir:ByteArray} {L ts:List ByteArray} {size:Int} {down there:Bool} {M:DM} (h:¬ (mayI ts down != 0)=true) (he:((tryM (E4 dir (A4 ts)) M).1 != 0)=true) :
    E3 ⟨dir,L,size,down,there⟩ M ts=((tryM (E4 dir (A4 ts)) M).1,⟨dir,L,size,down||((tryM (E4 dir (A4 ts)) M).1 != 61),there⟩,(tryM (E4 dir (A4 ts)) M).2):=by
  rw [repM_go h,if_pos he]; rfl
theorem rep_ok {dir:ByteArray} {L ts:List ByteArray} {size:Int} {down there:Bool} {M:DM} (h:¬ (mayI ts down != 0)=true) (he:¬ ((tryM (E4 dir (A4 ts)) M).1 != 0)=true) :
    E3 ⟨dir,L,size,down,there⟩ M ts=(0,⟨dir,ts,((A4 ts).size:Int),down,true⟩,(tryM (E4 dir (A4 ts)) M).2):=by
  rw [repM_go h,if_neg he]
theorem A0c:∀ (a b:List ByteArray),A4 (a++b)=A4 a++A4 b
  | [],b=>by show _=ByteArray.empty++_; rw [ByteArray.empty_append]; rfl
  | x::a,b=>by show B8 x++A4 (a++b)=(B8 x++A4 a)++_; rw [A0c a b,ByteArray.append_assoc]
theorem linesB_one (t:ByteArray):A4 [t]=B8 t:=by show B8 t++ByteArray.empty=_; rw [ByteArray.append_empty]
theorem linesB_succ {ts:List ByteArray} {k:Nat} (h:k<ts.length):A4 (ts.take (k+1))=A4 (ts.take k)++B8 (ts.getD k default):=by
  rw [List.take_add_one,List.getElem?_eq_getElem h,A0c,List.getD,List.getElem?_eq_getElem h]
  show _++A4 [_]=_
  rw [linesB_one]; rfl
theorem linesB_le {ts:List ByteArray} (k:Nat):(A4 (ts.take k)).size≤(A4 ts).size:=by
  conv=>rhs; rw [← List.take_append_drop k ts,A0c,ByteArray.size_append]
  omega
theorem lines_at {ts:List ByteArray} {k:Nat} (h:k<ts.length):(A4 (ts.take k)).size+(B8 (ts.getD k default)).size≤(A4 ts).size:=by
  have:=linesB_le (ts:=ts) (k+1)
  rw [linesB_succ h,ByteArray.size_append] at this; exact this
theorem bown_succ {v:Value} {g:Grp} {ts:List ByteArray} {k:Nat} (h:BOwn v g (A4 (ts.take k)++B8 (ts.getD k default))) (hk:k<ts.length):BOwn v g (A4 (ts.take (k+1))):=by rw [linesB_succ hk]; exact h
theorem bown_all {v:Value} {g:Grp} {ts:List ByteArray} {k:Nat} (h:BOwn v g (A4 (ts.take k))) (hk:ts.length≤k):BOwn v g (A4 ts):=by rw [List.take_of_length_le hk] at h; exact h
theorem own_add {e:TypeId} {v:Value} {g:Grp} {L:List ByteArray} {t:ByteArray} (h:Go.Sw.Own e 1 v g (L.length+1) (strs L++[.string t])):Go.Sw.Own e 1 v g (L++[t]).length (strs (L++[t])):=by
  have e1:strs (L++[t])=strs L++[.string t]:=by simp [strs]
  rw [e1,List.length_append]; exact h
theorem At.sub {W0:World} {K K':List Grp} {b:Nat} {o:Obj} (h:At W0 K b o) (hs:∀ p∈K.flatten,p∈K'.flatten):At W0 K' b o:=by
  rcases h with h | h
  · exact .inl h
  · exact .inr (hs _ h)
end Go.Proofs.YtlaoeiaaeifidaaGreat
namespace Go.Vf
open Go.Sw Go.RowKit Go.Proofs Go.Proofs.YtlaoeiaaeifidaaGreat
structure OpV where
  kind:Int
  path:ByteArray
  to:ByteArray
  ba:Option Addr
  bc:Nat
  b:ByteArray
  n:Int
  ka:Option Addr
  kc:Nat
  k:List Int
instance:Inhabited OpV:=⟨⟨0,ByteArray.mk #[],ByteArray.mk #[],none,0,ByteArray.mk #[],0,none,0,[]⟩⟩
def kindU (o:OpV):Int:=Int.tmod (IntKind.wrap .u64 o.kind) 8
def tryM (M:DM) (o:OpV):Int × DM :=
  if kindU o=0 then D9 M o.path o.b else if kindU o=1 then F4 M o.path o.b else if kindU o=2 then J3 M o.path o.to
  else if kindU o=3 then removeM M o.path else if kindU o=4 then L8 M o.path else I4 M o.path
end Go.Vf
namespace Go.Vf
open Go.Sw Go.Proofs.YtlaoeiaaeifidaaGreat
def p0:ByteArray:=ByteArray.mk #[]
theorem err_ok {M:DM} {r:Bool} (hr:r=true) (hf:M.fails=false):V5 M r=0∧H5 M r=M:=by
  subst hr
  unfold V5 H5 B6
  rw [hf]
  refine ⟨rfl,?_⟩
  cases M; simp only at hf; subst hf; rfl
theorem sz {a:ByteArray} (ha:a.size≤1000):a.size≤10000000∧a.size≤a.size:=by omega
end Go.Vf
namespace Go.Vf
open Go.Sw Go.Proofs.YtlaoeiaaeifidaaGreat
def fa:ByteArray:=ByteArray.mk #[97]
theorem fc:-9223372036854775808≤(0:Int)∧(0:Int)≤9223372036854775807:=by omega
end Go.Vf
namespace Go.Vf
open Go.Sw Go.Proofs.YtlaoeiaaeifidaaGreat
def adds (l:List Nm):Nat:=(l.filter fun x=>decide (0≤x.2)).length
def addsC (cs:List Ch):Nat:=(cs.map fun c=>adds c.l).sum
def addsL (ls:List (List Nm)):Nat:=(ls.map adds).sum
theorem with_len (l:List Nm) (x:Nm):(N2 l x).length≤l.length+(if 0≤x.2 then 1 else 0):=by
  unfold N2
  rw [List.length_append]
  have:=List.length_filter_le (fun n:Nm=>!(x.1==n.1)) l
  split <;> simp <;> omega
theorem apply_len:∀ (c l:List Nm),(J6 l c).length≤l.length+adds c
  | [],l=>Nat.le_refl _
  | x::c,l=>by
    have h1:=apply_len c (N2 l x)
    have h2:=with_len l x
    unfold adds at h1 ⊢
    rw [List.filter_cons]
    show (J6 (N2 l x) c).length≤_
    split
    · rename_i h
      rw [decide_eq_true_eq] at h
      rw [if_pos h] at h2
      rw [List.length_cons]; omega
    · rename_i h
      rw [decide_eq_true_eq] at h
      rw [if_neg h] at h2
      omega
theorem fold_len:∀ (ls:List (List Nm)) (l:List Nm),(ls.foldl J6 l).length≤l.length+addsL ls
  | [],l=>Nat.le_refl _
  | c::ls,l=>by
    have h1:=fold_len ls (J6 l c)
    have h2:=apply_len c l
    unfold addsL at h1 ⊢
    rw [List.map_cons,List.sum_cons]
    show (ls.foldl J6 (J6 l c)).length≤_
    omega
theorem addsC_app (a b:List Ch):addsC (a++b)=addsC a+addsC b:=by unfold addsC; rw [List.map_append,List.sum_append]
theorem addsC_split (l:List Ch) (d:ByteArray):addsC l=addsL (J1 l d)+addsC (l.filter fun c=>!(d==c.dir)):=by
  unfold addsC addsL J1
  induction l with
  | nil=>rfl
  | cons c l ih =>
    rw [List.filter_cons,List.filter_cons]
    cases d==c.dir
    · simp only [Bool.not_false,if_true,Bool.false_eq_true,if_false,List.map_cons,List.sum_cons]; omega
    · simp only [Bool.not_true,Bool.false_eq_true,if_false,if_true,List.map_cons,List.sum_cons]; omega
theorem addsL_take (ls:List (List Nm)) (n:Nat):addsL (ls.take n)≤addsL ls:=by
  unfold addsL
  induction ls generalizing n with
  | nil=>simp
  | cons c ls ih =>
    cases n with
    | zero=>simp
    | succ n=>rw [List.take_succ_cons,List.map_cons,List.map_cons,List.sum_cons,List.sum_cons]; have:=ih n; omega
theorem crashD_len:∀ (ds:List ByteArray) (l:List Ch) (ks:List Int) (K:List Nm),ds.Nodup→(O3 l ds ks K).length≤K.length+addsC l
  | [],l,_,K,_=>Nat.le_add_right _ _
  | d::ds,l,ks,K,hn=>by
    rw [List.nodup_cons] at hn
    rw [O3]
    have e:∀ (ds:List ByteArray) (ks:List Int) (K:List Nm),d ∉ ds→O3 l ds ks K=O3 (l.filter fun c=>!(d==c.dir)) ds ks K:=by
      intro ds
      induction ds with
      | nil=>intro _ _ _; rfl
      | cons x ds ih =>
        intro ks K hx
        rw [O3,O3]
        have hne:(x==d)=false:=by rw [baNe]; intro he; exact hx (by rw [he]; exact List.mem_cons_self)
        rw [chOf_filter,hne]
        simp only [Bool.false_eq_true,if_false]
        exact ih _ _ fun h=>hx (List.mem_cons_of_mem _ h)
    rw [e ds _ _ hn.1]
    have h1:=crashD_len ds (l.filter fun c=>!(d==c.dir)) (ks.drop 1) (((J1 l d).take (F1 (ks.headD 0) (((J1 l d).length:Int)+1)).toNat).foldl J6 K) hn.2
    have h2:=fold_len ((J1 l d).take (F1 (ks.headD 0) (((J1 l d).length:Int)+1)).toNat) K
    have h3:=addsL_take (J1 l d) (F1 (ks.headD 0) (((J1 l d).length:Int)+1)).toNat
    have h4:=addsC_split l d
    omega
theorem dirs_nodup (l:List Ch):(S5 l).Nodup:=(S9 _).nodup_iff.2 (A0a _)
def V4 (l:List Nm):Prop:=∀ x∈l,A3 x.1=true
theorem right_apply {c l:List Nm} (h:V4 l) (hc:V4 c):V4 (J6 l c):=fun y hy=>by
  rcases mem_apply hy with h1 | h1
  · exact h y h1
  · exact hc y h1.1
theorem right_fold:∀ {ls:List (List Nm)} {l:List Nm},V4 l→(∀ c∈ls,V4 c)→V4 (ls.foldl J6 l)
  | [],_,h,_=>h
  | c::ls,l,h,hc=>right_fold (ls:=ls) (right_apply h (hc c List.mem_cons_self)) fun x hx=>hc x (List.mem_cons_of_mem _ hx)
theorem chOf_mem {l:List Ch} {d:ByteArray} {x:List Nm} (h:x∈J1 l d):∃ c∈l,c.l=x:=by
  unfold J1 at h
  obtain ⟨c,hc,rfl⟩:=List.mem_map.1 h
  exact ⟨c,(List.mem_filter.1 hc).1,rfl⟩
theorem right_crash:∀ {ds:List ByteArray} {l:List Ch} {ks:List Int} {K:List Nm},V4 K→(∀ c∈l,V4 c.l)→V4 (O3 l ds ks K)
  | [],_,_,_,h,_=>h
  | d::ds,l,ks,K,h,hc=>by
    rw [O3]
    exact right_crash (ds:=ds) (right_fold h fun x hx=>by obtain ⟨c,hc1,rfl⟩:=chOf_mem (List.mem_of_mem_take hx); exact hc c hc1) hc
theorem part_size {s:ByteArray} (h:H0 s=true):s.size≤80:=by
  unfold H0 at h
  simp only [Bool.and_eq_true,decide_eq_true_eq] at h
  omega
theorem right_size {s:ByteArray} (h:A3 s=true):s.size≤161:=by
  unfold A3 at h
  split at h
  · have:=part_size h; omega
  · rename_i hs
    rw [Bool.and_eq_true] at h
    obtain ⟨h1,h2,h3⟩:=Q2 hs
    have a1:=part_size h.1
    have a2:=part_size h.2
    omega
theorem dir_size (s:ByteArray):(D2 s).size≤s.size:=by
  unfold D2
  split
  · exact Nat.zero_le _
  · rw [ByteArray.size_extract]; omega
structure CalI (w a r i j:Nat) (M:DM):Prop where
  room:M.room=1048576
  fails:M.fails=false
  calls:M.calls=0
  bodies:M.bodies.length≤j
  size:∀ B∈M.bodies,B.now.size≤999 * (a+1)+r∧B.kept.size≤B.now.size
  names:M.names.length≤w
  kept:M.kept.length+addsC M.changes≤w
  changes:M.changes.length≤i
  rn:V4 M.names
  rk:V4 M.kept
  rc:∀ c∈M.changes,V4 c.l∧c.dir.size≤161
theorem CalI.small {w a r i j:Nat} {M:DM} (h:CalI w a r i j M) (hw:w+a≤60) (hr:r≤8 * w) (hi:i≤60) (hj:j≤60):L5 M:=by
  refine ⟨by have:=h.bodies; omega,fun B hB=>?_,by have:=h.names; omega,by have:=h.changes; omega,by rw [h.calls]; omega,fun x hx=>by have:=right_size (h.rn x hx); omega,fun c hc=>by have:=(h.rc c hc).2; omega⟩
  obtain ⟨h1,h2⟩:=h.size B hB
  exact ⟨by have:999 * (a+1)+r≤10000000:=by omega
            omega,h2⟩
theorem err_right {M:DM} {r:Bool} (h:V5 M r=0):r=true:=by
  cases r
  · exact absurd (show (2:Int)=0 from h) (by decide)
  · rfl
theorem cal_up {w w' a a' r i i' j j':Nat} {M:DM} (h:CalI w a r i j M) (hw:w≤w') (ha:a≤a') (hi:i≤i') (hj:j≤j'):CalI w' a' r i' j' M :=
  ⟨h.room,h.fails,h.calls,Nat.le_trans h.bodies hj,fun B hB=>by obtain ⟨h1,h2⟩:=h.size B hB; exact ⟨by omega,h2⟩,Nat.le_trans h.names hw,Nat.le_trans h.kept hw,Nat.le_trans h.changes hi,h.rn,h.rk,h.rc⟩
def Cal (i:Nat) (M:DM):Prop:=∃ w a,w+a≤i∧CalI w a 0 i i M
theorem Cal.small {i:Nat} {M:DM} (h:Cal i M) (hi:i≤60):L5 M:=by
  obtain ⟨w,a,h1,h2⟩:=h
  exact h2.small (by omega) (Nat.zero_le _) hi hi
theorem Cal.stay {i:Nat} {M:DM} (h:Cal i M):Cal (i+1) M:=by
  obtain ⟨w,a,h1,h2⟩:=h
  exact ⟨w,a,by omega,cal_up h2 (Nat.le_refl _) (Nat.le_refl _) (by omega) (by omega)⟩
theorem crashB_quiet {n:Nat}:∀ {Bs:List Body} {ks:List Int},(∀ B∈Bs,B.now.size≤n∧B.kept.size≤B.now.size)→∀ B∈(I6 Bs ks).1,B.now=B.kept
  | [],_,_,B,hB=>by cases hB
  | x::r,ks,h,B,hB=>by
    have ih:=fun ks=>crashB_quiet (n:=n) (Bs:=r) (ks:=ks) fun B hB=>h B (List.mem_cons_of_mem _ hB)
    rw [I6] at hB
    split at hB
    · rcases List.mem_cons.1 hB with rfl | hB
      · rfl
      · exact ih _ B hB
    · rcases List.mem_cons.1 hB with rfl | hB
      · rfl
      · exact ih _ B hB
end Go.Vf
namespace Go.Sw
open Go.RowKit
theorem D6 {t:TypeId} {k:Nat} {a:Option Addr} {n c:Nat} {g:Grp} {cs:List Value} (h:Own t k (.slice a n c) g n cs):Rd (inG g) a cs:=by
  obtain ⟨a',c',he,_,hr⟩:=h.shape
  injection he with e1 e2 e3
  subst e1; exact hr
theorem W8 (a:Option Addr) (k j:Nat):Addr.add (I9 a k) j=I9 a (k+j):=by
  unfold I9 Addr.add
  by_cases hk:k=0
  · subst hk; simp
  · by_cases hj:j=0
    · subst hj; simp
    · rw [if_neg hj,if_neg hk,if_neg (by omega:¬ k+j=0)]
      simp only [Nat.add_assoc]
theorem X9 {P:Program} {ops:Array Oper} {i:Nat} {Q:G3} {n:Fr} {E:Env} {W0:World} {H:List Grp} {o:Oper} {ch:List (Nat × Bool)} {t et:TypeId} {x y:Operand} {a:Option Addr} {sz len cap q:Nat} {cs cs':List Value} {v:Value} {g:Grp} {j:Nat}
    (ho:ops[i]? = some o:=by exact rfl) (hop:o.op=.store t x y:=by exact rfl) (hx:evO E ch x=some (.pointer (some (I9 a q))):=by kernel_rfl) (hy:evO E ch y=some v:=by kernel_rfl)
    (hsz:Z6 P t=some v.cells.size:=by kernel_rfl) (h1:(v.cells.toList.all Value.oneCell')=true:=by kernel_rfl) (hvc:v.cells.toList=[v]:=by exact rfl)
    (hch:F3 ops E o.guard=some ch:=by kernel_rfl) (hd:H7 n ch o.dst=true:=by kernel_rfl) (hsure:P4 E ch=true:=by kernel_rfl)
    (hj:H[j]? = some g:=by exact rfl) (hO:Own et sz (.slice a len cap) g len cs) (hq:q<cs.length) (hcs:cs.set q v=cs')
    (k:∀ g',Own et sz (.slice a len cap) g' len cs'→GL false P ops (i+1) Q n (Env.put E o.dst ch undef) W0 (H.set j g')):GL false P ops i Q n E W0 H:=by
  obtain ⟨hl,⟨he,rfl,hn⟩ | ⟨b,cap',junk,he,rfl,hc,hjk⟩⟩:=hO
  · rw [hn] at hl; simp at hl; rw [hl] at hq; simp at hq
  · injection he with e1 e2 e3
    subst e1 e3 hcs
    have hel:I9 (some ⟨b,0,none⟩) q=⟨b,q,none⟩:=by show Addr.add ⟨b,0,none⟩ q=_; rw [N8,Nat.zero_add]
    rw [hel] at hx
    have hv1:v.cells.size=1:=by rw [← Array.length_toList,hvc]; rfl
    refine M7 (b:=b) (off:=q) (v:=v) (c:=(cs++junk).toArray) (c':=((cs.set q v)++junk).toArray) (e:=et) (fz:=(0,0)) (j:=j) (m:=0) ho hop hx hy hsz h1 hch hd hsure hj rfl (by rw [hv1,List.size_toArray,List.length_append]; omega) (fun _ _=>F0) ?_ rfl (k _ ⟨by rw [List.length_set]; exact hl,.inr ⟨b,cap,junk,rfl,rfl,hc,by rw [List.length_append,List.length_set,← List.length_append]; exact hjk⟩⟩)
    rw [hvc]
    have e1:cs++junk=cs.take q++[cs[q]]++(cs.drop (q+1)++junk):=by
      rw [← List.append_assoc]
      congr 1
      rw [List.append_assoc,List.singleton_append,← List.drop_eq_getElem_cons hq,List.take_append_drop]
    have e2:cs.set q v++junk=cs.take q++[v]++(cs.drop (q+1)++junk):=by
      rw [← List.append_assoc,List.set_eq_take_append_cons_drop,if_pos hq]
      simp
    have e3:(cs.take q).length=q:=by rw [List.length_take]; omega
    rw [e1,e2]
    have:=Z8 [v] (cs.take q) (cs.drop (q+1)++junk) [cs[q]] rfl
    rw [e3] at this
    exact this
end Go.Sw
namespace Go.Vf
open Go.Sw Go.RowKit
theorem cells2_set0 {α:Type} [Inhabited α] {f:α→Value × Value}:∀ {l:List α} {i:Nat} {y:α},(f y).2=(f (l.getD i default)).2→(O4 f l).set (i * 2) (f y).1=O4 f (l.set i y)
  | [],i,y,_=>by simp [O4]
  | x::l,0,y,h=>by
    show [(f x).1,(f x).2].set 0 (f y).1++_=[(f y).1,(f y).2]++_
    rw [h]; rfl
  | x::l,i+1,y,h=>by
    have e:(i+1) * 2=i * 2+1+1:=by omega
    rw [e]
    show (f x).1::(f x).2::((O4 f l).set (i * 2) (f y).1)=(f x).1::(f x).2::O4 f (l.set i y)
    rw [cells2_set0 (by simpa using h)]
theorem cells2_set1 {α:Type} [Inhabited α] {f:α→Value × Value}:∀ {l:List α} {i:Nat} {y:α},(f y).1=(f (l.getD i default)).1→(O4 f l).set (i * 2+1) (f y).2=O4 f (l.set i y)
  | [],i,y,_=>by simp [O4]
  | x::l,0,y,h=>by
    show [(f x).1,(f x).2].set 1 (f y).2++_=[(f y).1,(f y).2]++_
    rw [h]; rfl
  | x::l,i+1,y,h=>by
    have e:(i+1) * 2+1=i * 2+1+1+1:=by omega
    rw [e]
    show (f x).1::(f x).2::((O4 f l).set (i * 2+1) (f y).2)=(f x).1::(f x).2::O4 f (l.set i y)
    rw [cells2_set1 (by simpa using h)]
theorem bdC_len (l:List Body):(bdC l).length=l.length * 2:=cells2_len _ l
theorem bdC_now {l:List Body} {i:Nat} {b:ByteArray}:(bdC l).set (i * 2) (.string b)=bdC (l.set i ⟨b,(l.getD i default).kept⟩) :=
  cells2_set0 (f:=fun x:Body=>(.string x.now,.string x.kept)) (y:=⟨b,(l.getD i default).kept⟩) rfl
theorem bdC_kept {l:List Body} {i:Nat} {b:ByteArray}:(bdC l).set (i * 2+1) (.string b)=bdC (l.set i ⟨(l.getD i default).now,b⟩) :=
  cells2_set1 (f:=fun x:Body=>(.string x.now,.string x.kept)) (y:=⟨(l.getD i default).now,b⟩) rfl
structure RS where
  bn:Nat
  ba:Option Addr
  bc:Nat
  bg:Grp
  nn:Nat
  na:Option Addr
  nc:Nat
  kn:Nat
  ka:Option Addr
  kc:Nat
  cn:Nat
  ca:Option Addr
  cc:Nat
  cg:Grp
  cs:List CR
  Z:List Grp
def rkO (M:DM) (s:RS):Obj:=.cells #[.int .i64 M.room,.slice s.ba s.bn s.bc,.slice s.na s.nn s.nc,.slice s.ka s.kn s.kc,.slice s.ca s.cn s.cc,.bool M.fails,.bool M.once,.int .i64 M.calls] 106 (0,0)
def RS.G (s:RS) (x:Nat) (M:DM):List Grp:=[(x,rkO M s)]::s.bg::s.cg::s.Z
structure Well (M:DM):Prop where
  names:∀ y∈M.names,0≤y.2∧y.2.toNat<M.bodies.length
  kept:∀ y∈M.kept,0≤y.2∧y.2.toNat<M.bodies.length
  chs:∀ c∈M.changes,∀ y∈c.l,0≤y.2→y.2.toNat<M.bodies.length
  pre:∀ B∈M.bodies,B.kept.size≤B.now.size∧B.kept=B.now.extract 0 B.kept.size
structure CRok (Z:List Grp) (c:CR) (C:Ch):Prop where
  dir:c.dir=C.dir
  l:c.l=C.l
  rd:Rd (inZ Z) c.a (nmC c.l)
structure RS.ok (s:RS) (M:DM):Prop where
  bn:s.bn=M.bodies.length
  own:Go.Sw.Own 113 2 (.slice s.ba s.bn s.bc) s.bg s.bn (bdC M.bodies)
  nn:s.nn=M.names.length
  names:Rd (inZ s.Z) s.na (nmC M.names)
  kn:s.kn=M.kept.length
  kept:Rd (inZ s.Z) s.ka (nmC M.kept)
  cn:s.cn=s.cs.length
  own2:Go.Sw.Own 123 2 (.slice s.ca s.cn s.cc) s.cg s.cn (chC s.cs)
  chs:All2 (CRok s.Z) s.cs M.changes
  well:Well M
structure V3 (M:DM):Prop where
  small:L5 M
  kept:M.kept.length+addsC M.changes≤10000
  chs:∀ c∈M.changes,c.l.length≤2
def IsR (x:Nat) (M:DM) (v0:Value) (H:List Grp):Value→List Grp→Prop:=fun v H'=>v=v0∧∃ s:RS,s.ok M∧H'=s.G x M++H
theorem at_inZ {W0:World} {Z H:List Grp} {y:Nat} {o:Obj} (h:inZ Z y o):At W0 (Z++H) y o:=.inr (by rw [List.flatten_append]; exact List.mem_append_left _ h)
theorem A0w {g:Grp} {Z:List Grp} {y:Nat} {o:Obj} (h:inZ Z y o):inZ (g::Z) y o:=A0x (K:=[g]) h
theorem inZ_hd {g:Grp} {Z:List Grp} {y:Nat} {o:Obj} (h:inG g y o):inZ (g::Z) y o:=by
  show (y,o)∈(g::Z).flatten
  rw [List.flatten_cons]; exact List.mem_append_left _ h
theorem CRok.mono {Z Z2:List Grp} (hz:∀ y o,inZ Z y o→inZ Z2 y o) {c:CR} {C:Ch} (h:CRok Z c C):CRok Z2 c C:=⟨h.dir,h.l,h.rd.mono hz⟩
theorem L9 {s:RS} {M:DM} (h:s.ok M) (r:Bool):s.ok (H5 M r):=⟨h.bn,h.own,h.nn,h.names,h.kn,h.kept,h.cn,h.own2,h.chs,⟨h.well.names,h.well.kept,h.well.chs,h.well.pre⟩⟩
theorem chC_app (l r:List CR):chC (l++r)=chC l++chC r:=cells2_app _ _ _
theorem mem_applyW {n:Nat} {c l:List Nm} (h:∀ y∈l,0≤y.2∧y.2.toNat<n) (hc:∀ y∈c,0≤y.2→y.2.toNat<n):∀ y∈J6 l c,0≤y.2∧y.2.toNat<n:=fun y hy=>by
  rcases mem_apply hy with h1 | ⟨h1,h2⟩
  · exact h y h1
  · exact ⟨h2,hc y h1 h2⟩
theorem ok_rchange {s:RS} {M:DM} (h:s.ok M) {dir:ByteArray} {l nl:List Nm} {la na ca:Option Addr} {lc nc cc:Nat} {cg:Grp} {Z2:List Grp} (hZ:∀ y o,inZ s.Z y o→inZ Z2 y o) (hl:Rd (inZ s.Z) la (nmC l)) (hnl:nl=J6 M.names l) (hn:Rd (inZ Z2) na (nmC nl))
    (hc:Go.Sw.Own 123 2 (.slice ca (s.cn+1) cc) cg (s.cn+1) (chC s.cs++[.string dir,.slice la l.length lc])) (hix:∀ y∈l,0≤y.2→y.2.toNat<M.bodies.length) :
    RS.ok { s with nn:=nl.length,na:=na,nc:=nc,cn:=s.cn+1,ca:=ca,cc:=cc,cg:=cg,cs:=s.cs++[⟨dir,l,la,lc⟩],Z:=Z2 } (O2 M dir l):=by
  subst hnl
  refine ⟨h.bn,h.own,rfl,hn,h.kn,h.kept.mono hZ,by show s.cn+1=(s.cs++[_]).length; rw [List.length_append,h.cn]; rfl,by rw [chC_app]; exact hc,?_,?_⟩
  · exact (h.chs.imp fun _ _ hc=>hc.mono hZ).app (.cons ⟨rfl,rfl,hl.mono hZ⟩ .nil)
  · refine ⟨mem_applyW h.well.names hix,h.well.kept,fun c hc=>?_,h.well.pre⟩
    rcases List.mem_append.1 (show c∈M.changes++[⟨dir,l⟩] from hc) with hc | hc
    · exact h.well.chs c hc
    · rw [List.mem_singleton.1 hc]; exact hix
theorem apply_snoc {l c:List Nm} {k:Nat} (hk:k<c.length):J6 l (c.take (k+1))=N2 (J6 l (c.take k)) (c.getD k default):=by
  unfold J6
  rw [K8 (d:=default) hk,List.foldl_append]; rfl
theorem nmC_ne {l:List Nm} {i:Nat} (h:i<l.length):nmC l≠[]:=cells2_ne h
theorem bdC_ne {l:List Body} {i:Nat} (h:i<l.length):bdC l≠[]:=cells2_ne h
theorem chC_ne {l:List CR} {i:Nat} (h:i<l.length):chC l≠[]:=cells2_ne h
def usedK (M:DM) (k:Nat):Nat:=((M.names.take k).map fun x=>Z7 M x.2).sum
theorem usedK_succ {M:DM} {k:Nat} (h:k<M.names.length):usedK M (k+1)=usedK M k+Z7 M (M.names.getD k default).2:=by
  unfold usedK
  rw [K8 (d:=default) h,List.map_append,List.sum_append]; simp
theorem usedK_all {M:DM} {k:Nat} (h:M.names.length≤k):usedK M k=N9 M:=by unfold usedK N9; rw [List.take_of_length_le h]
theorem usedK_le (M:DM) (k:Nat):usedK M k≤N9 M:=by
  unfold usedK N9
  generalize M.names=l
  induction l generalizing k with
  | nil=>simp
  | cons x l ih =>
    cases k with
    | zero=>simp
    | succ k=>rw [List.take_succ_cons,List.map_cons,List.map_cons,List.sum_cons,List.sum_cons]; have:=ih k; omega
theorem A0y {l:List Body} {i:Nat} (h:i<l.length):(bdC l)[i * 2]? = some (.string (l.getD i default).now):=cells2_at0 (f:=fun x:Body=>(.string x.now,.string x.kept)) h
theorem bdC_at1 {l:List Body} {i:Nat} (h:i<l.length):(bdC l)[i * 2+1]? = some (.string (l.getD i default).kept):=cells2_at1 (f:=fun x:Body=>(.string x.now,.string x.kept)) h
theorem P3 {α:Type} [Inhabited α] {l:List α} {i:Nat} (h:i<l.length):l.getD i default∈l:=by
  rw [List.getD_eq_getElem?_getD,List.getElem?_eq_getElem h]; exact List.getElem_mem h
theorem with_le (l:List Nm) (x:Nm):(N2 l x).length≤l.length+1:=by
  unfold N2
  rw [List.length_append]
  have:=List.length_filter_le (fun n:Nm=>!(x.1==n.1)) l
  split <;> simp <;> omega
theorem atR_some {l:List Nm} {p:ByteArray} (h:0≤atR l p):E6 l p=some (atR l p):=by
  unfold atR at h ⊢
  cases hl:E6 l p with
  | none=>rw [hl] at h; exact absurd h (by decide)
  | some k=>rfl
theorem atR_no {l:List Nm} {p:ByteArray} (hl:∀ y∈l,0≤y.2) (h:atR l p<0):E6 l p=none:=by
  unfold atR at h
  cases hk:E6 l p with
  | none=>rfl
  | some k =>
    rw [hk] at h
    exact absurd (hl _ (T6 hk)) (by show ¬ (0≤k); have:k<0:=h; omega)
theorem ok_at {M:DM} (h:Well M) {p:ByteArray} (hk:0≤atR M.names p):(atR M.names p).toNat<M.bodies.length:=(h.names _ (T6 (atR_some hk))).2
theorem smallR_call {M:DM} (h:V3 M) (r:Bool) (hc:-9223372036854775808≤(H5 M r).calls∧(H5 M r).calls≤9223372036854775807):V3 (H5 M r) :=
  ⟨⟨h.small.bodies,h.small.size,h.small.names,h.small.changes,hc,h.small.paths,h.small.dirs⟩,h.kept,h.chs⟩
theorem callS_rng {f o r:Bool} {c:Int} (hc:-9223372036854775808≤c∧c≤9223372036854775807):-9223372036854775808≤(B6 f o c r).2.2∧(B6 f o c r).2.2≤9223372036854775807:=by
  unfold B6
  split
  · exact hc
  · split
    · exact hc
    · split
      · show -9223372036854775808≤c - 1∧c - 1≤9223372036854775807; omega
      · exact hc
theorem smallR_callM {M:DM} (h:V3 M) (r:Bool):V3 (H5 M r):=smallR_call h r (callS_rng h.small.calls)
theorem ok_rZ {s:RS} {M:DM} (h:s.ok M) (g:Grp):RS.ok { s with Z:=g::s.Z } M :=
  ⟨h.bn,h.own,h.nn,h.names.mono fun _ _ h=>A0w h,h.kn,h.kept.mono fun _ _ h=>A0w h,h.cn,h.own2,h.chs.imp fun _ _ hc=>hc.mono fun _ _ h=>A0w h,h.well⟩
theorem bdC_app (l r:List Body):bdC (l++r)=bdC l++bdC r:=cells2_app _ _ _
theorem ok_rbody {s:RS} {M:DM} (h:s.ok M) {b:ByteArray} {a:Option Addr} {c:Nat} {g:Grp} (hO:Go.Sw.Own 113 2 (.slice a (s.bn+1) c) g (s.bn+1) (bdC M.bodies++[.string b,.string (ByteArray.mk #[])])) :
    RS.ok { s with bn:=s.bn+1,ba:=a,bc:=c,bg:=g } { M with bodies:=M.bodies++[⟨b,ByteArray.mk #[]⟩] }:=by
  have hl:(M.bodies++[(⟨b,ByteArray.mk #[]⟩:Body)]).length=M.bodies.length+1:=by simp
  refine ⟨by show s.bn+1=_; rw [hl,h.bn],by rw [bdC_app]; exact hO,h.nn,h.names,h.kn,h.kept,h.cn,h.own2,h.chs,⟨fun y hy=>?_,fun y hy=>?_,fun c hc y hy h0=>?_,fun B hB=>?_⟩⟩
  · have:=h.well.names y hy; show 0≤y.2∧y.2.toNat<(M.bodies++[_]).length; rw [hl]; omega
  · have:=h.well.kept y hy; show 0≤y.2∧y.2.toNat<(M.bodies++[_]).length; rw [hl]; omega
  · have:=h.well.chs c hc y hy h0; show y.2.toNat<(M.bodies++[_]).length; rw [hl]; omega
  · rcases List.mem_append.1 (show B∈M.bodies++[_] from hB) with hB | hB
    · exact h.well.pre B hB
    · rw [List.mem_singleton.1 hB]; exact ⟨Nat.zero_le _,by show ByteArray.mk #[]=b.extract 0 0; simp; rfl⟩
theorem ok_rset {s:RS} {M:DM} (h:s.ok M) {k:Int} {B:Body} {g:Grp} (hO:Go.Sw.Own 113 2 (.slice s.ba s.bn s.bc) g s.bn (bdC (M.bodies.set k.toNat B))) (hB:B.kept.size≤B.now.size∧B.kept=B.now.extract 0 B.kept.size) :
    RS.ok { s with bg:=g } (N3 M k B):=by
  have hl:(M.bodies.set k.toNat B).length=M.bodies.length:=List.length_set
  refine ⟨by show s.bn=_; rw [h.bn]; exact hl.symm,hO,h.nn,h.names,h.kn,h.kept,h.cn,h.own2,h.chs,⟨fun y hy=>?_,fun y hy=>?_,fun c hc y hy h0=>?_,fun X hX=>?_⟩⟩
  · show 0≤y.2∧y.2.toNat<(M.bodies.set _ _).length; rw [hl]; exact h.well.names y hy
  · show 0≤y.2∧y.2.toNat<(M.bodies.set _ _).length; rw [hl]; exact h.well.kept y hy
  · show y.2.toNat<(M.bodies.set _ _).length; rw [hl]; exact h.well.chs c hc y hy h0
  · rcases List.mem_or_eq_of_mem_set (show X∈M.bodies.set k.toNat B from hX) with hX | rfl
    · exact h.well.pre X hX
    · exact hB
theorem pre_at {M:DM} (h:Well M) (k:Int):(I7 M k).kept.size≤(I7 M k).now.size∧(I7 M k).kept=(I7 M k).now.extract 0 (I7 M k).kept.size:=by
  unfold I7
  rw [List.getD_eq_getElem?_getD]
  by_cases hk:k.toNat<M.bodies.length
  · rw [List.getElem?_eq_getElem hk]; exact h.pre _ (List.getElem_mem hk)
  · rw [List.getElem?_eq_none (by omega)]; exact ⟨Nat.le_refl _,rfl⟩
theorem pre_app {x k b:ByteArray} (h:k.size≤x.size∧k=x.extract 0 k.size):k.size≤(x++b).size∧k=(x++b).extract 0 k.size:=by
  refine ⟨by rw [ByteArray.size_append]; omega,?_⟩
  refine h.2.trans ?_
  apply ByteArray.ext
  apply Array.ext'
  simp only [ByteArray.data_extract,ByteArray.data_append,Array.toList_extract,Array.toList_append]
  rw [List.extract_eq_take_drop,List.extract_eq_take_drop,List.drop_zero,List.drop_zero,Array.toList_append,List.take_append_of_le_length]
  have:=h.1
  show k.size - 0≤x.data.toList.length
  rw [Array.length_toList]
  exact this
theorem pre_same (x:ByteArray):x.size≤x.size∧x=x.extract 0 x.size:=⟨Nat.le_refl _,by simp⟩
theorem was_le {M:DM} (hm:L5 M) (p:ByteArray):wasM M p≤10000000:=by
  unfold wasM
  split
  · exact Nat.zero_le _
  · rename_i k _
    unfold Z7 I7
    rw [List.getD_eq_getElem?_getD]
    by_cases hk:k.toNat<M.bodies.length
    · rw [List.getElem?_eq_getElem hk]; exact (hm.size _ (List.getElem_mem hk)).1
    · rw [List.getElem?_eq_none (by omega)]; exact Nat.zero_le _
end Go.Vf
namespace Go.Vf
open Go.Sw Go.Proofs.YtlaoeiaaeifidaaGreat
structure ScrI (s w j:Nat) (M:DM):Prop where
  bodies:M.bodies.length≤j
  size:∀ B∈M.bodies,B.now.size≤s∧B.kept.size≤B.now.size
  names:M.names.length≤w
  kept:M.kept.length+addsC M.changes≤w
  changes:M.changes.length≤w
  calls:-9223372036854775808≤M.calls∧M.calls≤9223372036854775807
  rn:V4 M.names
  rk:V4 M.kept
  rc:∀ c∈M.changes,V4 c.l∧c.dir.size≤161∧c.l.length≤2
def Scr (z i:Nat) (M:DM):Prop:=ScrI (z * i) i i M
theorem ScrI.small {s w j:Nat} {M:DM} (h:ScrI s w j M) (hs:s≤10000000) (hw:w≤10000) (hj:j≤10000):V3 M:=by
  refine ⟨⟨by have:=h.bodies; omega,fun B hB=>⟨Nat.le_trans (h.size B hB).1 hs,(h.size B hB).2⟩,by have:=h.names; omega,by have:=h.changes; omega,h.calls,fun x hx=>by have:=right_size (h.rn x hx); omega,fun c hc=>by have:=(h.rc c hc).2.1; omega⟩,by have:=h.kept; omega,fun c hc=>(h.rc c hc).2.2⟩
theorem Scr.small {z i:Nat} {M:DM} (h:Scr z i M) (hi:i≤100) (hz:z≤5000):V3 M :=
  ScrI.small h (by have:=Nat.mul_le_mul hz hi; omega) (by omega) (by omega)
theorem ScrI.up {s s' w w' j j':Nat} {M:DM} (h:ScrI s w j M) (hs:s≤s') (hw:w≤w') (hj:j≤j'):ScrI s' w' j' M :=
  ⟨Nat.le_trans h.bodies hj,fun B hB=>⟨Nat.le_trans (h.size B hB).1 hs,(h.size B hB).2⟩,Nat.le_trans h.names hw,Nat.le_trans h.kept hw,Nat.le_trans h.changes hw,h.calls,h.rn,h.rk,h.rc⟩
theorem A0o {s w j:Nat} {M:DM} (h:ScrI s w j M) (r:Bool):ScrI s w j (H5 M r) :=
  ⟨h.bodies,h.size,h.names,h.kept,h.changes,callS_rng h.calls,h.rn,h.rk,h.rc⟩
theorem scr_change {s w j:Nat} {M:DM} (h:ScrI s w j M) {d:ByteArray} {l:List Nm} (hl:adds l≤1) (hll:l.length≤2) (hr:V4 l) (hd:d.size≤161):ScrI s (w+1) j (O2 M d l):=by
  refine ⟨h.bodies,h.size,?_,?_,?_,h.calls,right_apply h.rn hr,h.rk,fun c hc=>?_⟩
  · have h1:=apply_len l M.names
    have h2:=h.names
    show (J6 M.names l).length≤_
    omega
  · have h2:=h.kept
    show M.kept.length+addsC (M.changes++[⟨d,l⟩])≤_
    rw [addsC_app]
    have:addsC [⟨d,l⟩]=adds l:=by simp [addsC]
    omega
  · have h2:=h.changes
    show (M.changes++[_]).length≤_
    rw [List.length_append]; simp; omega
  · rcases List.mem_append.1 (show c∈M.changes++[⟨d,l⟩] from hc) with hc | hc
    · exact h.rc c hc
    · rw [List.mem_singleton.1 hc]; exact ⟨hr,hd,hll⟩
theorem scr_body {s w j:Nat} {M:DM} (h:ScrI s w j M) {b:ByteArray} (hb:b.size≤s):ScrI s w (j+1) { M with bodies:=M.bodies++[⟨b,ByteArray.mk #[]⟩] } :=
  ⟨by have:=h.bodies; show (M.bodies++[_]).length≤_; rw [List.length_append]; simp; omega,fun B hB=>by
    rcases List.mem_append.1 (show B∈M.bodies++[⟨b,ByteArray.mk #[]⟩] from hB) with hB | hB
    · exact h.size B hB
    · rw [List.mem_singleton.1 hB]; exact ⟨hb,Nat.zero_le _⟩,h.names,h.kept,h.changes,h.calls,h.rn,h.rk,h.rc⟩
theorem scr_at {s w j:Nat} {M:DM} (h:ScrI s w j M) (k:Int):(I7 M k).now.size≤s∧(I7 M k).kept.size≤(I7 M k).now.size:=by
  unfold I7
  rw [List.getD_eq_getElem?_getD]
  by_cases hk:k.toNat<M.bodies.length
  · rw [List.getElem?_eq_getElem hk]; exact h.size _ (List.getElem_mem hk)
  · rw [List.getElem?_eq_none (by omega)]; exact ⟨Nat.zero_le _,Nat.zero_le _⟩
theorem scr_set {s w j:Nat} {M:DM} (h:ScrI s w j M) (k:Int) {B:Body} (hB:B.now.size≤s∧B.kept.size≤B.now.size):ScrI s w j (N3 M k B) :=
  ⟨by show (M.bodies.set _ _).length≤_; rw [List.length_set]; exact h.bodies,fun x hx=>by
    rcases List.mem_or_eq_of_mem_set (show x∈M.bodies.set k.toNat B from hx) with hx | rfl
    · exact h.size x hx
    · exact hB,h.names,h.kept,h.changes,h.calls,h.rn,h.rk,h.rc⟩
theorem Scr.stay {z i:Nat} {M:DM} (h:Scr z i M):Scr z (i+1) M:=ScrI.up h (Nat.mul_le_mul_left _ (by omega)) (by omega) (by omega)
theorem Scr.mono {z i k:Nat} {M:DM} (h:Scr z i M) (hk:i≤k):Scr z k M:=ScrI.up h (Nat.mul_le_mul_left _ hk) hk hk
theorem Scr.call_ {z i:Nat} {M:DM} (h:Scr z i M) (r:Bool):Scr z i (H5 M r):=A0o h r
theorem sum1 (z i:Nat):z * (i+1)=z * i+z:=Nat.mul_succ z i
theorem scr_append {z i:Nat} {M:DM} (h:Scr z i M) (p:ByteArray) {b:ByteArray} (hb:b.size≤z):Scr z (i+1) (F4 M p b).2:=by
  have hc:=(h.call_ (A3 p)).stay
  by_cases he:V5 M (A3 p)=0
  · cases hl:E6 M.names p with
    | none=>rw [A0j he hl]; exact hc
    | some k =>
      by_cases hroom:(N9 M:Int)+(b.size:Int) > M.room
      · rw [V2 he hl hroom]; exact hc
      · rw [A0i he hl hroom]
        obtain ⟨s1,s2⟩:=scr_at h k
        exact scr_set hc k (by simp only [ByteArray.size_append]; rw [sum1]; omega)
  · rw [Q4 he]; exact hc
theorem scr_fail {z i:Nat} {M:DM} (h:Scr z i M) {n:Int} (hn:-9223372036854775808≤n∧n≤9223372036854775807) (o:Bool):Scr z (i+1) (failM M n o):=by
  have hc:=h.stay
  refine ⟨hc.bodies,hc.size,hc.names,hc.kept,hc.changes,?_,hc.rn,hc.rk,hc.rc⟩
  show -9223372036854775808≤(if 0 > n then 0 else n)∧(if 0 > n then 0 else n)≤9223372036854775807
  split <;> omega
theorem scr_crash {z i:Nat} {M:DM} (h:Scr z i M) (ks:List Int):Scr z (i+1) (V9 M ks):=by
  have hc:=h.stay
  have hk:=crashD_len (S5 M.changes) M.changes (I6 M.bodies ks).2 M.kept (dirs_nodup _)
  have h1:=hc.kept
  have hr:V4 (O3 M.changes (S5 M.changes) (I6 M.bodies ks).2 M.kept):=right_crash hc.rk fun c hm=>(hc.rc c hm).1
  have hs:=crashB_size (n:=z * (i+1)) (ks:=ks) hc.size
  refine ⟨?_,fun B hB=>⟨(hs B hB).1,Nat.le_of_eq (hs B hB).2⟩,?_,?_,Nat.zero_le _,hc.calls,hr,hr,fun c hm=>absurd hm List.not_mem_nil⟩
  · show (I6 M.bodies ks).1.length≤i+1
    rw [A0f]; exact hc.bodies
  · show (O3 _ _ _ _).length≤i+1
    omega
  · show (O3 M.changes (S5 M.changes) (I6 M.bodies ks).2 M.kept).length+0≤i+1
    omega
theorem scr_new (z:Nat) (room:Int):Scr z 0 (newM room) :=
  ⟨Nat.le_refl _,fun B hB=>absurd hB List.not_mem_nil,Nat.le_refl _,Nat.le_refl _,Nat.le_refl _,by show (-9223372036854775808:Int)≤0∧(0:Int)≤9223372036854775807; omega,fun x hx=>absurd hx List.not_mem_nil,fun x hx=>absurd hx List.not_mem_nil,fun c hc=>absurd hc List.not_mem_nil⟩
end Go.Vf
namespace Go.Proofs.YtlaoeiaaeifidaaGreat
open Go.Sw Go.Lib Go.Vf Go.Sha Go.Jr Go.RowKit
theorem own_addS {e:TypeId} {a:Option Addr} {c:Nat} {g:Grp} {L:List ByteArray} {t:ByteArray} (h:Go.Sw.Own e 1 (.slice a (L.length+1) c) g (L.length+1) (strs L++[.string t])):Go.Sw.Own e 1 (.slice a (L++[t]).length c) g (L++[t]).length (strs (L++[t])):=by
  have e1:strs (L++[t])=strs L++[.string t]:=by simp [strs]
  rw [e1,List.length_append]; exact h
theorem ok_line {s:ByteArray} (h:okB s=true):B8 (V6 s)=s++ByteArray.mk #[10]∧E8 (V6 s)=true:=by
  unfold okB at h
  unfold V6
  split at h
  · simp at h
  · rename_i h1
    rw [if_neg h1]
    simp only [Bool.and_eq_true,beq_iff_eq] at h
    refine ⟨?_,h.1⟩
    have:=h.2
    rw [toList_data,toList_data] at this
    exact ByteArray.ext (Array.toList_inj.1 this)
theorem ok_size {s:ByteArray} (h:okB s=true):(B8 (V6 s)).size=s.size+1:=by
  rw [(ok_line h).1,ByteArray.size_append]; rfl
theorem cut_none1 {all:ByteArray} (h:lf all<0):cutL all=none:=by unfold cutL; rw [if_pos h]
theorem cut_none2 {all:ByteArray} (h:¬ lf all<0) (hk:okB (all.extract 0 (lf all).toNat)=false):cutL all=none:=by unfold cutL; rw [if_neg h,hk]; rfl
theorem cut_some {all:ByteArray} (h:¬ lf all<0) (hk:okB (all.extract 0 (lf all).toNat)=true):cutL all=some (V6 (all.extract 0 (lf all).toNat),all.extract ((lf all).toNat+1) all.size):=by unfold cutL; rw [if_neg h,hk]; rfl
structure Parsed (full:ByteArray) (ts:List ByteArray) (all:ByteArray):Prop where
  eq:E7 full=(ts++(E7 all).1,(E7 all).2)
  sz:(A4 ts).size+all.size=full.size
  len:18 * ts.length≤(A4 ts).size
theorem parsed0 (full:ByteArray):Parsed full [] full:=⟨by simp,by show 0+_=_; omega,by show 18 * 0≤_; omega⟩
theorem T1 (ts:List ByteArray) (t:ByteArray):A4 (ts++[t])=A4 ts++B8 t:=by rw [A0c,linesB_one]
theorem parsed1 {full all:ByteArray} {ts:List ByteArray} (h:Parsed full ts all) (h1:¬ lf all<0) (hk:okB (all.extract 0 (lf all).toNat)=true) :
    Parsed full (ts++[V6 (all.extract 0 (lf all).toNat)]) (all.extract ((lf all).toNat+1) all.size):=by
  have hf:=lf_facts h1
  have hz:=ok_size hk
  refine ⟨?_,?_,?_⟩
  · rw [h.eq,parseB_some (cut_some h1 hk)]; simp
  · rw [T1,ByteArray.size_append,hz,← h.sz]; omega
  · rw [T1,ByteArray.size_append,List.length_append,H9]; have:=h.len; simp; omega
theorem Q8 {full all:ByteArray} {ts:List ByteArray} (h:Parsed full ts all) (hc:cutL all=none):E7 full=(ts,all):=by
  rw [h.eq,A0s hc]; simp
theorem size_step {ts:List ByteArray} {s:ByteArray} (h:okB s=true):((A4 ts).size:Int)+((s.size:Int)+1)=(((A4 (ts++[V6 s])).size:Nat):Int):=by
  rw [T1,ByteArray.size_append,ok_size h]; omega
def OpenR (r:Int × Option JM × DM) (d:Nat) (K H:List Grp):Value→List Grp→Prop:=fun v H' =>
  match r.2.1 with
  | none=>v=.tuple #[.pointer none,.int .i64 r.1]∧∃ s':DS,s'.ok r.2.2∧H'=K++(s'.G d r.2.2++H)
  | some j=>∃ (jb:Nat) (rv':Value) (rg':Grp) (s':DS),v=.tuple #[pt jb,.int .i64 r.1]∧Go.Sw.Own 9 1 rv' rg' j.L.length (strs j.L)∧s'.ok r.2.2∧H'=jG jb d j.dir rv' j.size j.down j.there::rg'::(K++(s'.G d r.2.2++H))
theorem open_bad {M:DM} {dir:ByteArray} (h:(!A3 dir||decide (G5 dir ≥ 0))=true):R4 M dir=(2,none,M):=by unfold R4; rw [if_pos h]
theorem open_no {M:DM} {dir:ByteArray} (h:(!A3 dir||decide (G5 dir ≥ 0))=false) (he:((K9 M (B0 dir logB)).2 != 0)=true):R4 M dir=(0,some ⟨dir,[],0,false,false⟩,M):=by
  unfold R4; rw [h,if_neg (by decide),if_pos he]
theorem open_whole {M:DM} {dir all:ByteArray} {ts:List ByteArray} (h:(!A3 dir||decide (G5 dir ≥ 0))=false) (he:((K9 M (B0 dir logB)).2 != 0)=false) (hp:E7 (K9 M (B0 dir logB)).1=(ts,all)) (ha:(!(all.toList==(ByteArray.mk #[]).toList))=false) :
    R4 M dir=(0,some ⟨dir,ts,((A4 ts).size:Int),false,true⟩,M):=by
  unfold R4; rw [h,if_neg (by decide),he,if_neg (by decide)]; simp only [hp]
  rw [if_neg (by simpa using ha)]
theorem open_err {M:DM} {dir all:ByteArray} {ts:List ByteArray} (h:(!A3 dir||decide (G5 dir ≥ 0))=false) (he:((K9 M (B0 dir logB)).2 != 0)=false) (hp:E7 (K9 M (B0 dir logB)).1=(ts,all)) (ha:(!(all.toList==(ByteArray.mk #[]).toList))=true)
    (hr:((E3 ⟨dir,ts,((A4 ts).size:Int),false,true⟩ M ts).1 != 0)=true) :
    R4 M dir=((E3 ⟨dir,ts,((A4 ts).size:Int),false,true⟩ M ts).1,none,(E3 ⟨dir,ts,((A4 ts).size:Int),false,true⟩ M ts).2.2):=by
  unfold R4; rw [h,if_neg (by decide),he,if_neg (by decide)]; simp only [hp]
  rw [if_pos (by simpa using ha),if_pos hr]
theorem open_ok {M:DM} {dir all:ByteArray} {ts:List ByteArray} (h:(!A3 dir||decide (G5 dir ≥ 0))=false) (he:((K9 M (B0 dir logB)).2 != 0)=false) (hp:E7 (K9 M (B0 dir logB)).1=(ts,all)) (ha:(!(all.toList==(ByteArray.mk #[]).toList))=true)
    (hr:((E3 ⟨dir,ts,((A4 ts).size:Int),false,true⟩ M ts).1 != 0)=false) :
    R4 M dir=(0,some (E3 ⟨dir,ts,((A4 ts).size:Int),false,true⟩ M ts).2.1,(E3 ⟨dir,ts,((A4 ts).size:Int),false,true⟩ M ts).2.2):=by
  unfold R4; rw [h,if_neg (by decide),he,if_neg (by decide)]; simp only [hp]
  rw [if_pos (by simpa using ha),hr]; rfl
theorem A0p {z w i:Nat} {M:DM} (h:ScrI z w i M) (p:ByteArray) {b:ByteArray} (hb:b.size≤z):ScrI z (w+1) (i+1) (D9 M p b).2:=by
  have hc:=A0o h (A3 p)
  by_cases he:V5 M (A3 p)=0
  · have hr:=err_right he
    by_cases hroom:(N9 M:Int) - (wasM M p:Int)+(b.size:Int) > M.room
    · rw [A0l he hroom]; exact ScrI.up hc (Nat.le_refl _) (by omega) (by omega)
    · rw [X3 he hroom]
      exact scr_change (w:=w) (scr_body hc hb) (by unfold adds; exact Nat.le_trans (List.length_filter_le _ _) (Nat.le_refl 1)) (Nat.le_of_ble_eq_true rfl) (fun x hx=>by rw [List.mem_singleton.1 hx]; exact hr) (by have:=dir_size p; have:=right_size hr; omega)
  · rw [writeM_err he]; exact ScrI.up hc (Nat.le_refl _) (by omega) (by omega)
theorem sI_append {z w i:Nat} {M:DM} (h:ScrI z w i M) (p b:ByteArray):ScrI (z+b.size) w i (F4 M p b).2:=by
  have hc:=ScrI.up (A0o h (A3 p)) (show z≤z+b.size by omega) (Nat.le_refl _) (Nat.le_refl _)
  by_cases he:V5 M (A3 p)=0
  · cases hl:E6 M.names p with
    | none=>rw [A0j he hl]; exact hc
    | some k =>
      by_cases hroom:(N9 M:Int)+(b.size:Int) > M.room
      · rw [V2 he hl hroom]; exact hc
      · rw [A0i he hl hroom]
        obtain ⟨s1,s2⟩:=scr_at h k
        exact scr_set hc k (by simp only [ByteArray.size_append]; omega)
  · rw [Q4 he]; exact hc
theorem sI_rename {z w i:Nat} {M:DM} (h:ScrI z w i M) (p q:ByteArray):ScrI z (w+1) i (J3 M p q).2:=by
  have hc:=ScrI.up (A0o h (renR p q)) (Nat.le_refl _) (show w≤w+1 by omega) (Nat.le_refl _)
  by_cases he:V5 M (renR p q)=0
  · have hr:=err_right he
    have hpq:A3 p=true∧A3 q=true:=by
      unfold renR at hr
      simp only [Bool.and_eq_true] at hr
      exact hr.1
    cases hl:E6 M.names p with
    | none=>rw [renameM_no he hl]; exact hc
    | some k =>
      cases hs:p==q with
      | true=>rw [Y2 he hl hs]; exact hc
      | false =>
        rw [X0 he hl hs]
        exact scr_change (w:=w) (A0o h (renR p q)) (by
          unfold adds
          rw [List.filter_cons,if_neg (by show ¬ decide ((0:Int)≤-1)=true; decide)]
          exact Nat.le_trans (List.length_filter_le _ _) (Nat.le_refl 1)) (Nat.le_of_ble_eq_true rfl) (fun x hx=>by
          rcases List.mem_cons.1 hx with rfl | hx
          · exact hpq.1
          · rw [List.mem_singleton.1 hx]; exact hpq.2) (by have:=dir_size q; have:=right_size hpq.2; omega)
  · rw [T0 he]; exact hc
theorem A0q {z w i:Nat} {M:DM} (h:ScrI z w i M) (p:ByteArray):ScrI z w i (L8 M p).2:=by
  have hc:=A0o h (A3 p)
  by_cases he:V5 M (A3 p)=0
  · cases hl:E6 M.names p with
    | none=>rw [syncM_no he hl]; exact hc
    | some k=>rw [syncM_ok he hl]; exact scr_set hc k ⟨(scr_at h k).1,Nat.le_refl _⟩
  · rw [Z5 he]; exact hc
end Go.Proofs.YtlaoeiaaeifidaaGreat
