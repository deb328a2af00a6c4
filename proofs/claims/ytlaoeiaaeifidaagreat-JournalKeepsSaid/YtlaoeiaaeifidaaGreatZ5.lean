/- Rows of things of two cells: names, bodies, changes of the document's disk. No program is in sight. (and what it stands on) -/
import Derived.Test.YtlaoeiaaeifidaaGreatZ4
namespace Go.Proofs.YtlaoeiaaeifidaaGreat
open Go.Sw Go.Sha
theorem beginnings_  (W0 : World) (H : List Grp) : Tri Tryz.prog 125 #[] W0 H (fun v H' => v = hIni.v ∧ H' = H) := by
 refine Tri_of (args := []) (n := 2) Tryz.func125 rfl rfl (Nat.le_of_ble_eq_true rfl) ?_
 refine G_seq ?_
 refine G_region ?_
 refine GL_alloc (i:=0) (ch:=[]) (z:=.agg #[.int .u32 0,.int .u32 0,.int .u32 0,.int .u32 0,.int .u32 0,.int .u32 0,.int .u32 0,.int .u32 0]) rfl rfl kr kr kr kr (fun b1=>?_)
 refine GL_fin (E':=[⟨0,[],pt b1⟩]) [] [0] rfl kr ?_
 refine N_then ?_
 refine G_seq ?_
 refine G_region ?_
 refine GL_pure (E':=[⟨1,[],.agg #[.int .u32 1779033703,.int .u32 3144134277,.int .u32 1013904242,.int .u32 2773480762,.int .u32 1359893119,.int .u32 2600822924,.int .u32 528734635,.int .u32 1541459225]⟩,⟨0,[],pt b1⟩]) [0] kr (j:=1) rfl ?_
 refine GL_store (i:=1) (ch:=[]) (b:=b1) (off:=0) (v:=.agg #[.int .u32 1779033703,.int .u32 3144134277,.int .u32 1013904242,.int .u32 2773480762,.int .u32 1359893119,.int .u32 2600822924,.int .u32 528734635,.int .u32 1541459225]) (c:=#[.int .u32 0,.int .u32 0,.int .u32 0,.int .u32 0,.int .u32 0,.int .u32 0,.int .u32 0,.int .u32 0]) (c':=#[.int .u32 1779033703,.int .u32 3144134277,.int .u32 1013904242,.int .u32 2773480762,.int .u32 1359893119,.int .u32 2600822924,.int .u32 528734635,.int .u32 1541459225]) (j:=0) (m:=0) (H':=([(b1,.cells #[.int .u32 1779033703,.int .u32 3144134277,.int .u32 1013904242,.int .u32 2773480762,.int .u32 1359893119,.int .u32 2600822924,.int .u32 528734635,.int .u32 1541459225] 169 (0,0))]::H)) rfl rfl kr kr kr kr kr kr kr rfl rfl (Nat.le_of_ble_eq_true rfl) (fun _ _=>thaw0) kr kr ?_
 refine GL_fin (E':=[⟨0,[],pt b1⟩]) [] [0] rfl kr ?_
 refine N_then ?_
 refine G_ret ?_
 refine N_retC [.cell 0 169] [.agg #[.int .u32 1779033703,.int .u32 3144134277,.int .u32 1013904242,.int .u32 2773480762,.int .u32 1359893119,.int .u32 2600822924,.int .u32 528734635,.int .u32 1541459225]] rfl (.cons (.agg (b:=b1) (off:=0) (l:=[.int .u32 1779033703,.int .u32 3144134277,.int .u32 1013904242,.int .u32 2773480762,.int .u32 1359893119,.int .u32 2600822924,.int .u32 528734635,.int .u32 1541459225]) kr kr kr (At.grp 0 0 rfl rfl) kr) (.nil)) rfl ⟨H,?_,fun w h=>(h.erase 0)⟩
 exact ⟨rfl, rfl⟩
theorem rounds_  (W0 : World) (H : List Grp) : Tri Tryz.prog 126 #[] W0 H (fun v H' => v = .agg kArr ∧ H' = H) := by
 refine Tri_of (args := []) (n := 2) Tryz.func126 rfl rfl (Nat.le_of_ble_eq_true rfl) ?_
 refine G_seq ?_
 refine G_region ?_
 refine GL_alloc (i:=0) (ch:=[]) (z:=.agg #[.int .u32 0,.int .u32 0,.int .u32 0,.int .u32 0,.int .u32 0,.int .u32 0,.int .u32 0,.int .u32 0,.int .u32 0,.int .u32 0,.int .u32 0,.int .u32 0,.int .u32 0,.int .u32 0,.int .u32 0,.int .u32 0,.int .u32 0,.int .u32 0,.int .u32 0,.int .u32 0,.int .u32 0,.int .u32 0,.int .u32 0,.int .u32 0,.int .u32 0,.int .u32 0,.int .u32 0,.int .u32 0,.int .u32 0,.int .u32 0,.int .u32 0,.int .u32 0,.int .u32 0,.int .u32 0,.int .u32 0,.int .u32 0,.int .u32 0,.int .u32 0,.int .u32 0,.int .u32 0,.int .u32 0,.int .u32 0,.int .u32 0,.int .u32 0,.int .u32 0,.int .u32 0,.int .u32 0,.int .u32 0,.int .u32 0,.int .u32 0,.int .u32 0,.int .u32 0,.int .u32 0,.int .u32 0,.int .u32 0,.int .u32 0,.int .u32 0,.int .u32 0,.int .u32 0,.int .u32 0,.int .u32 0,.int .u32 0,.int .u32 0,.int .u32 0]) rfl rfl kr kr kr kr (fun b1=>?_)
 refine GL_fin (E':=[⟨0,[],pt b1⟩]) [] [0] rfl kr ?_
 refine N_then ?_
 refine G_seq ?_
 refine G_region ?_
 refine GL_pure (E':=[⟨1,[],.agg #[.int .u32 1116352408,.int .u32 1899447441,.int .u32 3049323471,.int .u32 3921009573,.int .u32 961987163,.int .u32 1508970993,.int .u32 2453635748,.int .u32 2870763221,.int .u32 3624381080,.int .u32 310598401,.int .u32 607225278,.int .u32 1426881987,.int .u32 1925078388,.int .u32 2162078206,.int .u32 2614888103,.int .u32 3248222580,.int .u32 3835390401,.int .u32 4022224774,.int .u32 264347078,.int .u32 604807628,.int .u32 770255983,.int .u32 1249150122,.int .u32 1555081692,.int .u32 1996064986,.int .u32 2554220882,.int .u32 2821834349,.int .u32 2952996808,.int .u32 3210313671,.int .u32 3336571891,.int .u32 3584528711,.int .u32 113926993,.int .u32 338241895,.int .u32 666307205,.int .u32 773529912,.int .u32 1294757372,.int .u32 1396182291,.int .u32 1695183700,.int .u32 1986661051,.int .u32 2177026350,.int .u32 2456956037,.int .u32 2730485921,.int .u32 2820302411,.int .u32 3259730800,.int .u32 3345764771,.int .u32 3516065817,.int .u32 3600352804,.int .u32 4094571909,.int .u32 275423344,.int .u32 430227734,.int .u32 506948616,.int .u32 659060556,.int .u32 883997877,.int .u32 958139571,.int .u32 1322822218,.int .u32 1537002063,.int .u32 1747873779,.int .u32 1955562222,.int .u32 2024104815,.int .u32 2227730452,.int .u32 2361852424,.int .u32 2428436474,.int .u32 2756734187,.int .u32 3204031479,.int .u32 3329325298]⟩,⟨0,[],pt b1⟩]) [0] kr (j:=1) rfl ?_
 refine GL_store (i:=1) (ch:=[]) (b:=b1) (off:=0) (v:=.agg #[.int .u32 1116352408,.int .u32 1899447441,.int .u32 3049323471,.int .u32 3921009573,.int .u32 961987163,.int .u32 1508970993,.int .u32 2453635748,.int .u32 2870763221,.int .u32 3624381080,.int .u32 310598401,.int .u32 607225278,.int .u32 1426881987,.int .u32 1925078388,.int .u32 2162078206,.int .u32 2614888103,.int .u32 3248222580,.int .u32 3835390401,.int .u32 4022224774,.int .u32 264347078,.int .u32 604807628,.int .u32 770255983,.int .u32 1249150122,.int .u32 1555081692,.int .u32 1996064986,.int .u32 2554220882,.int .u32 2821834349,.int .u32 2952996808,.int .u32 3210313671,.int .u32 3336571891,.int .u32 3584528711,.int .u32 113926993,.int .u32 338241895,.int .u32 666307205,.int .u32 773529912,.int .u32 1294757372,.int .u32 1396182291,.int .u32 1695183700,.int .u32 1986661051,.int .u32 2177026350,.int .u32 2456956037,.int .u32 2730485921,.int .u32 2820302411,.int .u32 3259730800,.int .u32 3345764771,.int .u32 3516065817,.int .u32 3600352804,.int .u32 4094571909,.int .u32 275423344,.int .u32 430227734,.int .u32 506948616,.int .u32 659060556,.int .u32 883997877,.int .u32 958139571,.int .u32 1322822218,.int .u32 1537002063,.int .u32 1747873779,.int .u32 1955562222,.int .u32 2024104815,.int .u32 2227730452,.int .u32 2361852424,.int .u32 2428436474,.int .u32 2756734187,.int .u32 3204031479,.int .u32 3329325298]) (c:=#[.int .u32 0,.int .u32 0,.int .u32 0,.int .u32 0,.int .u32 0,.int .u32 0,.int .u32 0,.int .u32 0,.int .u32 0,.int .u32 0,.int .u32 0,.int .u32 0,.int .u32 0,.int .u32 0,.int .u32 0,.int .u32 0,.int .u32 0,.int .u32 0,.int .u32 0,.int .u32 0,.int .u32 0,.int .u32 0,.int .u32 0,.int .u32 0,.int .u32 0,.int .u32 0,.int .u32 0,.int .u32 0,.int .u32 0,.int .u32 0,.int .u32 0,.int .u32 0,.int .u32 0,.int .u32 0,.int .u32 0,.int .u32 0,.int .u32 0,.int .u32 0,.int .u32 0,.int .u32 0,.int .u32 0,.int .u32 0,.int .u32 0,.int .u32 0,.int .u32 0,.int .u32 0,.int .u32 0,.int .u32 0,.int .u32 0,.int .u32 0,.int .u32 0,.int .u32 0,.int .u32 0,.int .u32 0,.int .u32 0,.int .u32 0,.int .u32 0,.int .u32 0,.int .u32 0,.int .u32 0,.int .u32 0,.int .u32 0,.int .u32 0,.int .u32 0]) (c':=#[.int .u32 1116352408,.int .u32 1899447441,.int .u32 3049323471,.int .u32 3921009573,.int .u32 961987163,.int .u32 1508970993,.int .u32 2453635748,.int .u32 2870763221,.int .u32 3624381080,.int .u32 310598401,.int .u32 607225278,.int .u32 1426881987,.int .u32 1925078388,.int .u32 2162078206,.int .u32 2614888103,.int .u32 3248222580,.int .u32 3835390401,.int .u32 4022224774,.int .u32 264347078,.int .u32 604807628,.int .u32 770255983,.int .u32 1249150122,.int .u32 1555081692,.int .u32 1996064986,.int .u32 2554220882,.int .u32 2821834349,.int .u32 2952996808,.int .u32 3210313671,.int .u32 3336571891,.int .u32 3584528711,.int .u32 113926993,.int .u32 338241895,.int .u32 666307205,.int .u32 773529912,.int .u32 1294757372,.int .u32 1396182291,.int .u32 1695183700,.int .u32 1986661051,.int .u32 2177026350,.int .u32 2456956037,.int .u32 2730485921,.int .u32 2820302411,.int .u32 3259730800,.int .u32 3345764771,.int .u32 3516065817,.int .u32 3600352804,.int .u32 4094571909,.int .u32 275423344,.int .u32 430227734,.int .u32 506948616,.int .u32 659060556,.int .u32 883997877,.int .u32 958139571,.int .u32 1322822218,.int .u32 1537002063,.int .u32 1747873779,.int .u32 1955562222,.int .u32 2024104815,.int .u32 2227730452,.int .u32 2361852424,.int .u32 2428436474,.int .u32 2756734187,.int .u32 3204031479,.int .u32 3329325298]) (j:=0) (m:=0) (H':=([(b1,.cells #[.int .u32 1116352408,.int .u32 1899447441,.int .u32 3049323471,.int .u32 3921009573,.int .u32 961987163,.int .u32 1508970993,.int .u32 2453635748,.int .u32 2870763221,.int .u32 3624381080,.int .u32 310598401,.int .u32 607225278,.int .u32 1426881987,.int .u32 1925078388,.int .u32 2162078206,.int .u32 2614888103,.int .u32 3248222580,.int .u32 3835390401,.int .u32 4022224774,.int .u32 264347078,.int .u32 604807628,.int .u32 770255983,.int .u32 1249150122,.int .u32 1555081692,.int .u32 1996064986,.int .u32 2554220882,.int .u32 2821834349,.int .u32 2952996808,.int .u32 3210313671,.int .u32 3336571891,.int .u32 3584528711,.int .u32 113926993,.int .u32 338241895,.int .u32 666307205,.int .u32 773529912,.int .u32 1294757372,.int .u32 1396182291,.int .u32 1695183700,.int .u32 1986661051,.int .u32 2177026350,.int .u32 2456956037,.int .u32 2730485921,.int .u32 2820302411,.int .u32 3259730800,.int .u32 3345764771,.int .u32 3516065817,.int .u32 3600352804,.int .u32 4094571909,.int .u32 275423344,.int .u32 430227734,.int .u32 506948616,.int .u32 659060556,.int .u32 883997877,.int .u32 958139571,.int .u32 1322822218,.int .u32 1537002063,.int .u32 1747873779,.int .u32 1955562222,.int .u32 2024104815,.int .u32 2227730452,.int .u32 2361852424,.int .u32 2428436474,.int .u32 2756734187,.int .u32 3204031479,.int .u32 3329325298] 171 (0,0))]::H)) rfl rfl kr kr kr kr kr kr kr rfl rfl (Nat.le_of_ble_eq_true rfl) (fun _ _=>thaw0) kr kr ?_
 refine GL_fin (E':=[⟨0,[],pt b1⟩]) [] [0] rfl kr ?_
 refine N_then ?_
 refine G_ret ?_
 refine N_retC [.cell 0 171] [.agg #[.int .u32 1116352408,.int .u32 1899447441,.int .u32 3049323471,.int .u32 3921009573,.int .u32 961987163,.int .u32 1508970993,.int .u32 2453635748,.int .u32 2870763221,.int .u32 3624381080,.int .u32 310598401,.int .u32 607225278,.int .u32 1426881987,.int .u32 1925078388,.int .u32 2162078206,.int .u32 2614888103,.int .u32 3248222580,.int .u32 3835390401,.int .u32 4022224774,.int .u32 264347078,.int .u32 604807628,.int .u32 770255983,.int .u32 1249150122,.int .u32 1555081692,.int .u32 1996064986,.int .u32 2554220882,.int .u32 2821834349,.int .u32 2952996808,.int .u32 3210313671,.int .u32 3336571891,.int .u32 3584528711,.int .u32 113926993,.int .u32 338241895,.int .u32 666307205,.int .u32 773529912,.int .u32 1294757372,.int .u32 1396182291,.int .u32 1695183700,.int .u32 1986661051,.int .u32 2177026350,.int .u32 2456956037,.int .u32 2730485921,.int .u32 2820302411,.int .u32 3259730800,.int .u32 3345764771,.int .u32 3516065817,.int .u32 3600352804,.int .u32 4094571909,.int .u32 275423344,.int .u32 430227734,.int .u32 506948616,.int .u32 659060556,.int .u32 883997877,.int .u32 958139571,.int .u32 1322822218,.int .u32 1537002063,.int .u32 1747873779,.int .u32 1955562222,.int .u32 2024104815,.int .u32 2227730452,.int .u32 2361852424,.int .u32 2428436474,.int .u32 2756734187,.int .u32 3204031479,.int .u32 3329325298]] rfl (.cons (.agg (b:=b1) (off:=0) (l:=[.int .u32 1116352408,.int .u32 1899447441,.int .u32 3049323471,.int .u32 3921009573,.int .u32 961987163,.int .u32 1508970993,.int .u32 2453635748,.int .u32 2870763221,.int .u32 3624381080,.int .u32 310598401,.int .u32 607225278,.int .u32 1426881987,.int .u32 1925078388,.int .u32 2162078206,.int .u32 2614888103,.int .u32 3248222580,.int .u32 3835390401,.int .u32 4022224774,.int .u32 264347078,.int .u32 604807628,.int .u32 770255983,.int .u32 1249150122,.int .u32 1555081692,.int .u32 1996064986,.int .u32 2554220882,.int .u32 2821834349,.int .u32 2952996808,.int .u32 3210313671,.int .u32 3336571891,.int .u32 3584528711,.int .u32 113926993,.int .u32 338241895,.int .u32 666307205,.int .u32 773529912,.int .u32 1294757372,.int .u32 1396182291,.int .u32 1695183700,.int .u32 1986661051,.int .u32 2177026350,.int .u32 2456956037,.int .u32 2730485921,.int .u32 2820302411,.int .u32 3259730800,.int .u32 3345764771,.int .u32 3516065817,.int .u32 3600352804,.int .u32 4094571909,.int .u32 275423344,.int .u32 430227734,.int .u32 506948616,.int .u32 659060556,.int .u32 883997877,.int .u32 958139571,.int .u32 1322822218,.int .u32 1537002063,.int .u32 1747873779,.int .u32 1955562222,.int .u32 2024104815,.int .u32 2227730452,.int .u32 2361852424,.int .u32 2428436474,.int .u32 2756734187,.int .u32 3204031479,.int .u32 3329325298]) kr kr kr (At.grp 0 0 rfl rfl) kr) (.nil)) rfl ⟨H,?_,fun w h=>(h.erase 0)⟩
 exact ⟨rfl, rfl⟩
theorem block_ (s : S8) (ba : Option Addr) (bc : Nat) (S : Nat → Obj → Prop) (l : List UInt8) (hl : l.length = 64) (hrd : Rd S ba (u8s l)) (W0 : World) (H : List Grp) (hS : ∀ y o, S y o → At W0 H y o) : Tri Tryz.prog 128 #[.agg #[.int .u32 s.a, .int .u32 s.b, .int .u32 s.c, .int .u32 s.d, .int .u32 s.e, .int .u32 s.f, .int .u32 s.g, .int .u32 s.h], .slice ba 64 bc, (.agg kArr)] W0 H (fun v H' => v = (compress (byt l) s).v ∧ H' = H) := by
 refine Tri_of (args := [.agg #[.int .u32 s.a, .int .u32 s.b, .int .u32 s.c, .int .u32 s.d, .int .u32 s.e, .int .u32 s.f, .int .u32 s.g, .int .u32 s.h], .slice ba 64 bc, (.agg kArr)]) (n := 192) Tryz.func128 rfl rfl (Nat.le_of_ble_eq_true rfl) ?_
 refine G_seq ?_
 refine G_region ?_
 refine GL_box (i:=0) (ch:=[]) (v:=.agg #[.int .u32 s.a,.int .u32 s.b,.int .u32 s.c,.int .u32 s.d,.int .u32 s.e,.int .u32 s.f,.int .u32 s.g,.int .u32 s.h]) rfl rfl kr kr kr kr (fun b1=>?_)
 refine GL_box (i:=1) (ch:=[]) (v:=.agg kArr) rfl rfl kr kr kr kr (fun b2=>?_)
 refine GL_alloc (i:=2) (ch:=[]) (z:=.agg #[.int .u32 0,.int .u32 0,.int .u32 0,.int .u32 0,.int .u32 0,.int .u32 0,.int .u32 0,.int .u32 0]) rfl rfl kr kr kr kr (fun b3=>?_)
 refine GL_fin (E':=[⟨1,[],.slice ba 64 bc⟩,⟨3,[],pt b1⟩,⟨5,[],pt b2⟩,⟨6,[],pt b3⟩]) [] [1,3,5,6] rfl kr ?_
 refine N_then ?_
 refine G_seq ?_
 refine G_region ?_
 refine GL_alloc (i:=0) (ch:=[]) (z:=.agg (wArr (byt l) 0)) rfl rfl kr kr kr kr (fun b4=>?_)
 refine GL_fin (E':=[⟨1,[],.slice ba 64 bc⟩,⟨3,[],pt b1⟩,⟨5,[],pt b2⟩,⟨6,[],pt b3⟩,⟨7,[],pt b4⟩]) [] [1,3,5,6,7] rfl kr ?_
 refine N_then ?_
 refine G_seq ?_
 refine G_seq ?_
 refine G_pure (E':=[⟨1,[],.slice ba 64 bc⟩,⟨3,[],pt b1⟩,⟨5,[],pt b2⟩,⟨6,[],pt b3⟩,⟨7,[],pt b4⟩,⟨22,[],.int .i64 0⟩]) [0] [1,3,5,6,7,22] rfl kr ?_
 refine N_then ?_
 refine G_block ?_
 refine G_loop (EI:=(fun ξ : Nat=>[⟨1,[],.slice ba 64 bc⟩,⟨3,[],pt b1⟩,⟨5,[],pt b2⟩,⟨6,[],pt b3⟩,⟨7,[],pt b4⟩,⟨22,[],.int .i64 ((ξ : Nat) : Int)⟩])) (HI:=(fun ξ : Nat=>([(b4,.cells (wArr (byt l) ξ) 171 (0,0))]::[(b3,.cells #[.int .u32 0,.int .u32 0,.int .u32 0,.int .u32 0,.int .u32 0,.int .u32 0,.int .u32 0,.int .u32 0] 169 (0,0))]::[(b2,.cells kArr 171 (0,0))]::[(b1,.cells #[.int .u32 s.a,.int .u32 s.b,.int .u32 s.c,.int .u32 s.d,.int .u32 s.e,.int .u32 s.f,.int .u32 s.g,.int .u32 s.h] 169 (0,0))]::H))) (Φ:=(fun ξ : Nat=>(ξ ≤ 64))) (μ:=(fun ξ : Nat=>64 - ξ)) (s0:=(0)) [1,3,5,6,7,22] kr kr (by omega) ?_
 rintro i hi
 refine G_seq ?_
 refine G_pure (E':=[⟨1,[],.slice ba 64 bc⟩,⟨3,[],pt b1⟩,⟨5,[],pt b2⟩,⟨6,[],pt b3⟩,⟨7,[],pt b4⟩,⟨22,[],.int .i64 ((i : Nat) : Int)⟩,⟨23,[],.bool (decide (((i : Nat) : Int) < 64))⟩]) [0] [1,3,5,6,7,22,23] rfl kr ?_
 refine N_then ?_
 refine G_seq ?_
 refine G_cond (b:=decide (((i : Nat) : Int) < 64)) kr (fun hc5=>?_) (fun hc5=>?_)
 ·
  have hi2 := hc5
  rw [decide_eq_true_eq] at hi2
  refine G_skip ?_
  refine N_then ?_
  refine G_seq ?_
  refine G_block ?_
  refine G_seq ?_
  refine G_pure (E':=[⟨1,[],.slice ba 64 bc⟩,⟨3,[],pt b1⟩,⟨5,[],pt b2⟩,⟨6,[],pt b3⟩,⟨7,[],pt b4⟩,⟨8,[],.int .i64 ((i : Nat) : Int)⟩,⟨22,[],.int .i64 ((i : Nat) : Int)⟩]) [0,0] [1,3,5,6,7,8,22] rfl kr ?_
  refine N_then ?_
  refine G_seq ?_
  refine G_seq ?_
  refine G_pure (E':=[⟨1,[],.slice ba 64 bc⟩,⟨3,[],pt b1⟩,⟨5,[],pt b2⟩,⟨6,[],pt b3⟩,⟨7,[],pt b4⟩,⟨8,[],.int .i64 ((i : Nat) : Int)⟩,⟨22,[],.int .i64 ((i : Nat) : Int)⟩,⟨26,[],.bool (decide (((i : Nat) : Int) < 16))⟩]) [0,0] [1,3,5,6,7,8,22,26] rfl kr ?_
  refine N_then ?_
  refine G_cond (b:=decide (((i : Nat) : Int) < 16)) kr (fun hc6=>?_) (fun hc6=>?_)
  ·
   replace hc6 := of_decide_eq_true hc6
   refine G_seq ?_
   refine G_regionH ([(b3,.cells #[.int .u32 0,.int .u32 0,.int .u32 0,.int .u32 0,.int .u32 0,.int .u32 0,.int .u32 0,.int .u32 0] 169 (0,0))]::[(b2,.cells kArr 171 (0,0))]::[(b1,.cells #[.int .u32 s.a,.int .u32 s.b,.int .u32 s.c,.int .u32 s.d,.int .u32 s.e,.int .u32 s.f,.int .u32 s.g,.int .u32 s.h] 169 (0,0))]::H) kr ?_
   refine GH_pure (E':=[⟨27,[],.int .i64 ((i : Nat) : Int)⟩,⟨1,[],.slice ba 64 bc⟩,⟨3,[],pt b1⟩,⟨5,[],pt b2⟩,⟨6,[],pt b3⟩,⟨7,[],pt b4⟩,⟨8,[],.int .i64 ((i : Nat) : Int)⟩,⟨22,[],.int .i64 ((i : Nat) : Int)⟩]) 0 0 kr (fun w h=>(h.erase 0)) kr ?_
   refine GH_pure (E':=[⟨28,[],.slice ba 64 bc⟩,⟨27,[],.int .i64 ((i : Nat) : Int)⟩,⟨1,[],.slice ba 64 bc⟩,⟨3,[],pt b1⟩,⟨5,[],pt b2⟩,⟨6,[],pt b3⟩,⟨7,[],pt b4⟩,⟨8,[],.int .i64 ((i : Nat) : Int)⟩,⟨22,[],.int .i64 ((i : Nat) : Int)⟩]) 1 0 kr (fun w h=>(h.erase 0)) kr ?_
   refine GH_pure (E':=[⟨29,[],.int .i64 ((i : Nat) : Int)⟩,⟨28,[],.slice ba 64 bc⟩,⟨27,[],.int .i64 ((i : Nat) : Int)⟩,⟨1,[],.slice ba 64 bc⟩,⟨3,[],pt b1⟩,⟨5,[],pt b2⟩,⟨6,[],pt b3⟩,⟨7,[],pt b4⟩,⟨8,[],.int .i64 ((i : Nat) : Int)⟩,⟨22,[],.int .i64 ((i : Nat) : Int)⟩]) 2 0 kr (fun w h=>(h.erase 0)) kr ?_
   have hw7 : IntKind.wrap .i64 (4 * ((i : Nat) : Int)) = 4 * ((i : Nat) : Int) := w64 (by omega) (by omega)
   refine GH_pure (E':=[⟨30,[],.int .i64 (4 * ((i : Nat) : Int))⟩,⟨28,[],.slice ba 64 bc⟩,⟨27,[],.int .i64 ((i : Nat) : Int)⟩,⟨1,[],.slice ba 64 bc⟩,⟨3,[],pt b1⟩,⟨5,[],pt b2⟩,⟨6,[],pt b3⟩,⟨7,[],pt b4⟩,⟨8,[],.int .i64 ((i : Nat) : Int)⟩,⟨22,[],.int .i64 ((i : Nat) : Int)⟩]) 3 0 kr (fun w h=>(h.erase 0)) (Eq.trans (b:=some [⟨30,[],.int .i64 (IntKind.wrap .i64 (4 * ((i : Nat) : Int)))⟩,⟨28,[],.slice ba 64 bc⟩,⟨27,[],.int .i64 ((i : Nat) : Int)⟩,⟨1,[],.slice ba 64 bc⟩,⟨3,[],pt b1⟩,⟨5,[],pt b2⟩,⟨6,[],pt b3⟩,⟨7,[],pt b4⟩,⟨8,[],.int .i64 ((i : Nat) : Int)⟩,⟨22,[],.int .i64 ((i : Nat) : Int)⟩]) kr (by simp only [hw7])) ?_
   refine GH_take' (E':=[⟨31,[],.pointer (some (eltA ba ((Int.toNat (4 * ((i : Nat) : Int))) * 1)))⟩,⟨30,[],.int .i64 (4 * ((i : Nat) : Int))⟩,⟨28,[],.slice ba 64 bc⟩,⟨27,[],.int .i64 ((i : Nat) : Int)⟩,⟨1,[],.slice ba 64 bc⟩,⟨3,[],pt b1⟩,⟨5,[],pt b2⟩,⟨6,[],pt b3⟩,⟨7,[],pt b4⟩,⟨8,[],.int .i64 ((i : Nat) : Int)⟩,⟨22,[],.int .i64 ((i : Nat) : Int)⟩]) 4 kr (fun w h=>(h.erase 0)) ?_ ?_
   ·
    refine GL_indexAddr (i:=4) (ch:=[]) (a:=ba) (len:=64) (cap:=bc) (kd:=.i64) (j:=4 * ((i : Nat) : Int)) (e:=5) (sz:=1) (S:=S) (cs:=(u8s l)) rfl rfl kr kr kr kr kr kr kr hrd (fun _=>by exact ⟨by omega,by omega,by intro h; have h2:=congrArg List.length h; simp only [u8s,List.length_map,List.length_nil] at h2; omega⟩) ?_
    exact GL_yend kr kr
   refine GH_take' (E':=[⟨32,[],.int .u8 (byt l (4 * i))⟩,⟨31,[],.pointer (some (eltA ba ((Int.toNat (4 * ((i : Nat) : Int))) * 1)))⟩,⟨30,[],.int .i64 (4 * ((i : Nat) : Int))⟩,⟨28,[],.slice ba 64 bc⟩,⟨27,[],.int .i64 ((i : Nat) : Int)⟩,⟨1,[],.slice ba 64 bc⟩,⟨3,[],pt b1⟩,⟨5,[],pt b2⟩,⟨6,[],pt b3⟩,⟨7,[],pt b4⟩,⟨8,[],.int .i64 ((i : Nat) : Int)⟩,⟨22,[],.int .i64 ((i : Nat) : Int)⟩]) 5 kr (fun w h=>(h.erase 0)) ?_ ?_
   ·
    refine GL_loadS (i:=5) (ch:=[]) (a:=ba) (q:=(Int.toNat (4 * ((i : Nat) : Int))) * 1) (S:=S) (cs:=(u8s l)) (v:=.int .u8 (byt l (4 * i))) rfl rfl kr kr kr kr kr hrd (fun y o h=>(At.cons (At.cons (At.cons (hS y o h))))) (fun _=>(byt_at (by omega) (by omega))) ?_
    exact GL_yend kr kr
   refine GH_pure (E':=[⟨33,[],.int .u32 (IntKind.wrap .u32 (byt l (4 * i)))⟩,⟨27,[],.int .i64 ((i : Nat) : Int)⟩,⟨1,[],.slice ba 64 bc⟩,⟨3,[],pt b1⟩,⟨5,[],pt b2⟩,⟨6,[],pt b3⟩,⟨7,[],pt b4⟩,⟨8,[],.int .i64 ((i : Nat) : Int)⟩,⟨22,[],.int .i64 ((i : Nat) : Int)⟩]) 6 0 kr (fun w h=>(h.erase 0)) kr ?_
   refine GH_pure (E':=[⟨34,[],.int .u32 (IntKind.wrap .u32 ((IntKind.wrap .u32 (byt l (4 * i))) * 2 ^ 24))⟩,⟨27,[],.int .i64 ((i : Nat) : Int)⟩,⟨1,[],.slice ba 64 bc⟩,⟨3,[],pt b1⟩,⟨5,[],pt b2⟩,⟨6,[],pt b3⟩,⟨7,[],pt b4⟩,⟨8,[],.int .i64 ((i : Nat) : Int)⟩,⟨22,[],.int .i64 ((i : Nat) : Int)⟩]) 7 0 kr (fun w h=>(h.erase 0)) kr ?_
   refine GH_pure (E':=[⟨35,[],.slice ba 64 bc⟩,⟨34,[],.int .u32 (IntKind.wrap .u32 ((IntKind.wrap .u32 (byt l (4 * i))) * 2 ^ 24))⟩,⟨27,[],.int .i64 ((i : Nat) : Int)⟩,⟨1,[],.slice ba 64 bc⟩,⟨3,[],pt b1⟩,⟨5,[],pt b2⟩,⟨6,[],pt b3⟩,⟨7,[],pt b4⟩,⟨8,[],.int .i64 ((i : Nat) : Int)⟩,⟨22,[],.int .i64 ((i : Nat) : Int)⟩]) 8 0 kr (fun w h=>(h.erase 0)) kr ?_
   refine GH_pure (E':=[⟨36,[],.int .i64 ((i : Nat) : Int)⟩,⟨35,[],.slice ba 64 bc⟩,⟨34,[],.int .u32 (IntKind.wrap .u32 ((IntKind.wrap .u32 (byt l (4 * i))) * 2 ^ 24))⟩,⟨27,[],.int .i64 ((i : Nat) : Int)⟩,⟨1,[],.slice ba 64 bc⟩,⟨3,[],pt b1⟩,⟨5,[],pt b2⟩,⟨6,[],pt b3⟩,⟨7,[],pt b4⟩,⟨8,[],.int .i64 ((i : Nat) : Int)⟩,⟨22,[],.int .i64 ((i : Nat) : Int)⟩]) 9 0 kr (fun w h=>(h.erase 0)) kr ?_
   have hw8 : IntKind.wrap .i64 (4 * ((i : Nat) : Int)) = 4 * ((i : Nat) : Int) := w64 (by omega) (by omega)
   refine GH_pure (E':=[⟨37,[],.int .i64 (4 * ((i : Nat) : Int))⟩,⟨35,[],.slice ba 64 bc⟩,⟨34,[],.int .u32 (IntKind.wrap .u32 ((IntKind.wrap .u32 (byt l (4 * i))) * 2 ^ 24))⟩,⟨27,[],.int .i64 ((i : Nat) : Int)⟩,⟨1,[],.slice ba 64 bc⟩,⟨3,[],pt b1⟩,⟨5,[],pt b2⟩,⟨6,[],pt b3⟩,⟨7,[],pt b4⟩,⟨8,[],.int .i64 ((i : Nat) : Int)⟩,⟨22,[],.int .i64 ((i : Nat) : Int)⟩]) 10 0 kr (fun w h=>(h.erase 0)) (Eq.trans (b:=some [⟨37,[],.int .i64 (IntKind.wrap .i64 (4 * ((i : Nat) : Int)))⟩,⟨35,[],.slice ba 64 bc⟩,⟨34,[],.int .u32 (IntKind.wrap .u32 ((IntKind.wrap .u32 (byt l (4 * i))) * 2 ^ 24))⟩,⟨27,[],.int .i64 ((i : Nat) : Int)⟩,⟨1,[],.slice ba 64 bc⟩,⟨3,[],pt b1⟩,⟨5,[],pt b2⟩,⟨6,[],pt b3⟩,⟨7,[],pt b4⟩,⟨8,[],.int .i64 ((i : Nat) : Int)⟩,⟨22,[],.int .i64 ((i : Nat) : Int)⟩]) kr (by simp only [hw8])) ?_
   have hw9 : IntKind.wrap .i64 ((4 * ((i : Nat) : Int)) + 1) = (4 * ((i : Nat) : Int)) + 1 := w64 (by omega) (by omega)
   refine GH_pure (E':=[⟨38,[],.int .i64 ((4 * ((i : Nat) : Int))+1)⟩,⟨35,[],.slice ba 64 bc⟩,⟨34,[],.int .u32 (IntKind.wrap .u32 ((IntKind.wrap .u32 (byt l (4 * i))) * 2 ^ 24))⟩,⟨27,[],.int .i64 ((i : Nat) : Int)⟩,⟨1,[],.slice ba 64 bc⟩,⟨3,[],pt b1⟩,⟨5,[],pt b2⟩,⟨6,[],pt b3⟩,⟨7,[],pt b4⟩,⟨8,[],.int .i64 ((i : Nat) : Int)⟩,⟨22,[],.int .i64 ((i : Nat) : Int)⟩]) 11 0 kr (fun w h=>(h.erase 0)) (Eq.trans (b:=some [⟨38,[],.int .i64 (IntKind.wrap .i64 ((4 * ((i : Nat) : Int))+1))⟩,⟨35,[],.slice ba 64 bc⟩,⟨34,[],.int .u32 (IntKind.wrap .u32 ((IntKind.wrap .u32 (byt l (4 * i))) * 2 ^ 24))⟩,⟨27,[],.int .i64 ((i : Nat) : Int)⟩,⟨1,[],.slice ba 64 bc⟩,⟨3,[],pt b1⟩,⟨5,[],pt b2⟩,⟨6,[],pt b3⟩,⟨7,[],pt b4⟩,⟨8,[],.int .i64 ((i : Nat) : Int)⟩,⟨22,[],.int .i64 ((i : Nat) : Int)⟩]) kr (by simp only [hw9])) ?_
   refine GH_take' (E':=[⟨39,[],.pointer (some (eltA ba ((Int.toNat ((4 * ((i : Nat) : Int))+1)) * 1)))⟩,⟨38,[],.int .i64 ((4 * ((i : Nat) : Int))+1)⟩,⟨35,[],.slice ba 64 bc⟩,⟨34,[],.int .u32 (IntKind.wrap .u32 ((IntKind.wrap .u32 (byt l (4 * i))) * 2 ^ 24))⟩,⟨27,[],.int .i64 ((i : Nat) : Int)⟩,⟨1,[],.slice ba 64 bc⟩,⟨3,[],pt b1⟩,⟨5,[],pt b2⟩,⟨6,[],pt b3⟩,⟨7,[],pt b4⟩,⟨8,[],.int .i64 ((i : Nat) : Int)⟩,⟨22,[],.int .i64 ((i : Nat) : Int)⟩]) 12 kr (fun w h=>(h.erase 0)) ?_ ?_
   ·
    refine GL_indexAddr (i:=12) (ch:=[]) (a:=ba) (len:=64) (cap:=bc) (kd:=.i64) (j:=(4 * ((i : Nat) : Int))+1) (e:=5) (sz:=1) (S:=S) (cs:=(u8s l)) rfl rfl kr kr kr kr kr kr kr hrd (fun _=>by exact ⟨by omega,by omega,by intro h; have h2:=congrArg List.length h; simp only [u8s,List.length_map,List.length_nil] at h2; omega⟩) ?_
    exact GL_yend kr kr
   refine GH_take' (E':=[⟨40,[],.int .u8 (byt l (4 * i+1))⟩,⟨39,[],.pointer (some (eltA ba ((Int.toNat ((4 * ((i : Nat) : Int))+1)) * 1)))⟩,⟨38,[],.int .i64 ((4 * ((i : Nat) : Int))+1)⟩,⟨35,[],.slice ba 64 bc⟩,⟨34,[],.int .u32 (IntKind.wrap .u32 ((IntKind.wrap .u32 (byt l (4 * i))) * 2 ^ 24))⟩,⟨27,[],.int .i64 ((i : Nat) : Int)⟩,⟨1,[],.slice ba 64 bc⟩,⟨3,[],pt b1⟩,⟨5,[],pt b2⟩,⟨6,[],pt b3⟩,⟨7,[],pt b4⟩,⟨8,[],.int .i64 ((i : Nat) : Int)⟩,⟨22,[],.int .i64 ((i : Nat) : Int)⟩]) 13 kr (fun w h=>(h.erase 0)) ?_ ?_
   ·
    refine GL_loadS (i:=13) (ch:=[]) (a:=ba) (q:=(Int.toNat ((4 * ((i : Nat) : Int))+1)) * 1) (S:=S) (cs:=(u8s l)) (v:=.int .u8 (byt l (4 * i+1))) rfl rfl kr kr kr kr kr hrd (fun y o h=>(At.cons (At.cons (At.cons (hS y o h))))) (fun _=>(byt_at (by omega) (by omega))) ?_
    exact GL_yend kr kr
   refine GH_pure (E':=[⟨41,[],.int .u32 (IntKind.wrap .u32 (byt l (4 * i+1)))⟩,⟨34,[],.int .u32 (IntKind.wrap .u32 ((IntKind.wrap .u32 (byt l (4 * i))) * 2 ^ 24))⟩,⟨27,[],.int .i64 ((i : Nat) : Int)⟩,⟨1,[],.slice ba 64 bc⟩,⟨3,[],pt b1⟩,⟨5,[],pt b2⟩,⟨6,[],pt b3⟩,⟨7,[],pt b4⟩,⟨8,[],.int .i64 ((i : Nat) : Int)⟩,⟨22,[],.int .i64 ((i : Nat) : Int)⟩]) 14 0 kr (fun w h=>(h.erase 0)) kr ?_
   refine GH_pure (E':=[⟨42,[],.int .u32 (IntKind.wrap .u32 ((IntKind.wrap .u32 (byt l (4 * i+1))) * 2 ^ 16))⟩,⟨34,[],.int .u32 (IntKind.wrap .u32 ((IntKind.wrap .u32 (byt l (4 * i))) * 2 ^ 24))⟩,⟨27,[],.int .i64 ((i : Nat) : Int)⟩,⟨1,[],.slice ba 64 bc⟩,⟨3,[],pt b1⟩,⟨5,[],pt b2⟩,⟨6,[],pt b3⟩,⟨7,[],pt b4⟩,⟨8,[],.int .i64 ((i : Nat) : Int)⟩,⟨22,[],.int .i64 ((i : Nat) : Int)⟩]) 15 0 kr (fun w h=>(h.erase 0)) kr ?_
   refine GH_pure (E':=[⟨43,[],.int .u32 (IntKind.wrap .u32 ((BitVec.ofInt (IntKind.bits .u32) (IntKind.wrap .u32 ((IntKind.wrap .u32 (byt l (4 * i))) * 2 ^ 24)) ||| BitVec.ofInt (IntKind.bits .u32) (IntKind.wrap .u32 ((IntKind.wrap .u32 (byt l (4 * i+1))) * 2 ^ 16))).toNat))⟩,⟨27,[],.int .i64 ((i : Nat) : Int)⟩,⟨1,[],.slice ba 64 bc⟩,⟨3,[],pt b1⟩,⟨5,[],pt b2⟩,⟨6,[],pt b3⟩,⟨7,[],pt b4⟩,⟨8,[],.int .i64 ((i : Nat) : Int)⟩,⟨22,[],.int .i64 ((i : Nat) : Int)⟩]) 16 0 kr (fun w h=>(h.erase 0)) kr ?_
   refine GH_pure (E':=[⟨44,[],.slice ba 64 bc⟩,⟨43,[],.int .u32 (IntKind.wrap .u32 ((BitVec.ofInt (IntKind.bits .u32) (IntKind.wrap .u32 ((IntKind.wrap .u32 (byt l (4 * i))) * 2 ^ 24)) ||| BitVec.ofInt (IntKind.bits .u32) (IntKind.wrap .u32 ((IntKind.wrap .u32 (byt l (4 * i+1))) * 2 ^ 16))).toNat))⟩,⟨27,[],.int .i64 ((i : Nat) : Int)⟩,⟨1,[],.slice ba 64 bc⟩,⟨3,[],pt b1⟩,⟨5,[],pt b2⟩,⟨6,[],pt b3⟩,⟨7,[],pt b4⟩,⟨8,[],.int .i64 ((i : Nat) : Int)⟩,⟨22,[],.int .i64 ((i : Nat) : Int)⟩]) 17 0 kr (fun w h=>(h.erase 0)) kr ?_
   refine GH_pure (E':=[⟨45,[],.int .i64 ((i : Nat) : Int)⟩,⟨44,[],.slice ba 64 bc⟩,⟨43,[],.int .u32 (IntKind.wrap .u32 ((BitVec.ofInt (IntKind.bits .u32) (IntKind.wrap .u32 ((IntKind.wrap .u32 (byt l (4 * i))) * 2 ^ 24)) ||| BitVec.ofInt (IntKind.bits .u32) (IntKind.wrap .u32 ((IntKind.wrap .u32 (byt l (4 * i+1))) * 2 ^ 16))).toNat))⟩,⟨27,[],.int .i64 ((i : Nat) : Int)⟩,⟨1,[],.slice ba 64 bc⟩,⟨3,[],pt b1⟩,⟨5,[],pt b2⟩,⟨6,[],pt b3⟩,⟨7,[],pt b4⟩,⟨8,[],.int .i64 ((i : Nat) : Int)⟩,⟨22,[],.int .i64 ((i : Nat) : Int)⟩]) 18 0 kr (fun w h=>(h.erase 0)) kr ?_
   have hw10 : IntKind.wrap .i64 (4 * ((i : Nat) : Int)) = 4 * ((i : Nat) : Int) := w64 (by omega) (by omega)
   refine GH_pure (E':=[⟨46,[],.int .i64 (4 * ((i : Nat) : Int))⟩,⟨44,[],.slice ba 64 bc⟩,⟨43,[],.int .u32 (IntKind.wrap .u32 ((BitVec.ofInt (IntKind.bits .u32) (IntKind.wrap .u32 ((IntKind.wrap .u32 (byt l (4 * i))) * 2 ^ 24)) ||| BitVec.ofInt (IntKind.bits .u32) (IntKind.wrap .u32 ((IntKind.wrap .u32 (byt l (4 * i+1))) * 2 ^ 16))).toNat))⟩,⟨27,[],.int .i64 ((i : Nat) : Int)⟩,⟨1,[],.slice ba 64 bc⟩,⟨3,[],pt b1⟩,⟨5,[],pt b2⟩,⟨6,[],pt b3⟩,⟨7,[],pt b4⟩,⟨8,[],.int .i64 ((i : Nat) : Int)⟩,⟨22,[],.int .i64 ((i : Nat) : Int)⟩]) 19 0 kr (fun w h=>(h.erase 0)) (Eq.trans (b:=some [⟨46,[],.int .i64 (IntKind.wrap .i64 (4 * ((i : Nat) : Int)))⟩,⟨44,[],.slice ba 64 bc⟩,⟨43,[],.int .u32 (IntKind.wrap .u32 ((BitVec.ofInt (IntKind.bits .u32) (IntKind.wrap .u32 ((IntKind.wrap .u32 (byt l (4 * i))) * 2 ^ 24)) ||| BitVec.ofInt (IntKind.bits .u32) (IntKind.wrap .u32 ((IntKind.wrap .u32 (byt l (4 * i+1))) * 2 ^ 16))).toNat))⟩,⟨27,[],.int .i64 ((i : Nat) : Int)⟩,⟨1,[],.slice ba 64 bc⟩,⟨3,[],pt b1⟩,⟨5,[],pt b2⟩,⟨6,[],pt b3⟩,⟨7,[],pt b4⟩,⟨8,[],.int .i64 ((i : Nat) : Int)⟩,⟨22,[],.int .i64 ((i : Nat) : Int)⟩]) kr (by simp only [hw10])) ?_
   have hw11 : IntKind.wrap .i64 ((4 * ((i : Nat) : Int)) + 2) = (4 * ((i : Nat) : Int)) + 2 := w64 (by omega) (by omega)
   refine GH_pure (E':=[⟨47,[],.int .i64 ((4 * ((i : Nat) : Int))+2)⟩,⟨44,[],.slice ba 64 bc⟩,⟨43,[],.int .u32 (IntKind.wrap .u32 ((BitVec.ofInt (IntKind.bits .u32) (IntKind.wrap .u32 ((IntKind.wrap .u32 (byt l (4 * i))) * 2 ^ 24)) ||| BitVec.ofInt (IntKind.bits .u32) (IntKind.wrap .u32 ((IntKind.wrap .u32 (byt l (4 * i+1))) * 2 ^ 16))).toNat))⟩,⟨27,[],.int .i64 ((i : Nat) : Int)⟩,⟨1,[],.slice ba 64 bc⟩,⟨3,[],pt b1⟩,⟨5,[],pt b2⟩,⟨6,[],pt b3⟩,⟨7,[],pt b4⟩,⟨8,[],.int .i64 ((i : Nat) : Int)⟩,⟨22,[],.int .i64 ((i : Nat) : Int)⟩]) 20 0 kr (fun w h=>(h.erase 0)) (Eq.trans (b:=some [⟨47,[],.int .i64 (IntKind.wrap .i64 ((4 * ((i : Nat) : Int))+2))⟩,⟨44,[],.slice ba 64 bc⟩,⟨43,[],.int .u32 (IntKind.wrap .u32 ((BitVec.ofInt (IntKind.bits .u32) (IntKind.wrap .u32 ((IntKind.wrap .u32 (byt l (4 * i))) * 2 ^ 24)) ||| BitVec.ofInt (IntKind.bits .u32) (IntKind.wrap .u32 ((IntKind.wrap .u32 (byt l (4 * i+1))) * 2 ^ 16))).toNat))⟩,⟨27,[],.int .i64 ((i : Nat) : Int)⟩,⟨1,[],.slice ba 64 bc⟩,⟨3,[],pt b1⟩,⟨5,[],pt b2⟩,⟨6,[],pt b3⟩,⟨7,[],pt b4⟩,⟨8,[],.int .i64 ((i : Nat) : Int)⟩,⟨22,[],.int .i64 ((i : Nat) : Int)⟩]) kr (by simp only [hw11])) ?_
   refine GH_take' (E':=[⟨48,[],.pointer (some (eltA ba ((Int.toNat ((4 * ((i : Nat) : Int))+2)) * 1)))⟩,⟨47,[],.int .i64 ((4 * ((i : Nat) : Int))+2)⟩,⟨44,[],.slice ba 64 bc⟩,⟨43,[],.int .u32 (IntKind.wrap .u32 ((BitVec.ofInt (IntKind.bits .u32) (IntKind.wrap .u32 ((IntKind.wrap .u32 (byt l (4 * i))) * 2 ^ 24)) ||| BitVec.ofInt (IntKind.bits .u32) (IntKind.wrap .u32 ((IntKind.wrap .u32 (byt l (4 * i+1))) * 2 ^ 16))).toNat))⟩,⟨27,[],.int .i64 ((i : Nat) : Int)⟩,⟨1,[],.slice ba 64 bc⟩,⟨3,[],pt b1⟩,⟨5,[],pt b2⟩,⟨6,[],pt b3⟩,⟨7,[],pt b4⟩,⟨8,[],.int .i64 ((i : Nat) : Int)⟩,⟨22,[],.int .i64 ((i : Nat) : Int)⟩]) 21 kr (fun w h=>(h.erase 0)) ?_ ?_
   ·
    refine GL_indexAddr (i:=21) (ch:=[]) (a:=ba) (len:=64) (cap:=bc) (kd:=.i64) (j:=(4 * ((i : Nat) : Int))+2) (e:=5) (sz:=1) (S:=S) (cs:=(u8s l)) rfl rfl kr kr kr kr kr kr kr hrd (fun _=>by exact ⟨by omega,by omega,by intro h; have h2:=congrArg List.length h; simp only [u8s,List.length_map,List.length_nil] at h2; omega⟩) ?_
    exact GL_yend kr kr
   refine GH_take' (E':=[⟨49,[],.int .u8 (byt l (4 * i+2))⟩,⟨48,[],.pointer (some (eltA ba ((Int.toNat ((4 * ((i : Nat) : Int))+2)) * 1)))⟩,⟨47,[],.int .i64 ((4 * ((i : Nat) : Int))+2)⟩,⟨44,[],.slice ba 64 bc⟩,⟨43,[],.int .u32 (IntKind.wrap .u32 ((BitVec.ofInt (IntKind.bits .u32) (IntKind.wrap .u32 ((IntKind.wrap .u32 (byt l (4 * i))) * 2 ^ 24)) ||| BitVec.ofInt (IntKind.bits .u32) (IntKind.wrap .u32 ((IntKind.wrap .u32 (byt l (4 * i+1))) * 2 ^ 16))).toNat))⟩,⟨27,[],.int .i64 ((i : Nat) : Int)⟩,⟨1,[],.slice ba 64 bc⟩,⟨3,[],pt b1⟩,⟨5,[],pt b2⟩,⟨6,[],pt b3⟩,⟨7,[],pt b4⟩,⟨8,[],.int .i64 ((i : Nat) : Int)⟩,⟨22,[],.int .i64 ((i : Nat) : Int)⟩]) 22 kr (fun w h=>(h.erase 0)) ?_ ?_
   ·
    refine GL_loadS (i:=22) (ch:=[]) (a:=ba) (q:=(Int.toNat ((4 * ((i : Nat) : Int))+2)) * 1) (S:=S) (cs:=(u8s l)) (v:=.int .u8 (byt l (4 * i+2))) rfl rfl kr kr kr kr kr hrd (fun y o h=>(At.cons (At.cons (At.cons (hS y o h))))) (fun _=>(byt_at (by omega) (by omega))) ?_
    exact GL_yend kr kr
   refine GH_pure (E':=[⟨50,[],.int .u32 (IntKind.wrap .u32 (byt l (4 * i+2)))⟩,⟨43,[],.int .u32 (IntKind.wrap .u32 ((BitVec.ofInt (IntKind.bits .u32) (IntKind.wrap .u32 ((IntKind.wrap .u32 (byt l (4 * i))) * 2 ^ 24)) ||| BitVec.ofInt (IntKind.bits .u32) (IntKind.wrap .u32 ((IntKind.wrap .u32 (byt l (4 * i+1))) * 2 ^ 16))).toNat))⟩,⟨27,[],.int .i64 ((i : Nat) : Int)⟩,⟨1,[],.slice ba 64 bc⟩,⟨3,[],pt b1⟩,⟨5,[],pt b2⟩,⟨6,[],pt b3⟩,⟨7,[],pt b4⟩,⟨8,[],.int .i64 ((i : Nat) : Int)⟩,⟨22,[],.int .i64 ((i : Nat) : Int)⟩]) 23 0 kr (fun w h=>(h.erase 0)) kr ?_
   refine GH_pure (E':=[⟨51,[],.int .u32 (IntKind.wrap .u32 ((IntKind.wrap .u32 (byt l (4 * i+2))) * 2 ^ 8))⟩,⟨43,[],.int .u32 (IntKind.wrap .u32 ((BitVec.ofInt (IntKind.bits .u32) (IntKind.wrap .u32 ((IntKind.wrap .u32 (byt l (4 * i))) * 2 ^ 24)) ||| BitVec.ofInt (IntKind.bits .u32) (IntKind.wrap .u32 ((IntKind.wrap .u32 (byt l (4 * i+1))) * 2 ^ 16))).toNat))⟩,⟨27,[],.int .i64 ((i : Nat) : Int)⟩,⟨1,[],.slice ba 64 bc⟩,⟨3,[],pt b1⟩,⟨5,[],pt b2⟩,⟨6,[],pt b3⟩,⟨7,[],pt b4⟩,⟨8,[],.int .i64 ((i : Nat) : Int)⟩,⟨22,[],.int .i64 ((i : Nat) : Int)⟩]) 24 0 kr (fun w h=>(h.erase 0)) kr ?_
   refine GH_pure (E':=[⟨52,[],.int .u32 (IntKind.wrap .u32 ((BitVec.ofInt (IntKind.bits .u32) (IntKind.wrap .u32 ((BitVec.ofInt (IntKind.bits .u32) (IntKind.wrap .u32 ((IntKind.wrap .u32 (byt l (4 * i))) * 2 ^ 24)) ||| BitVec.ofInt (IntKind.bits .u32) (IntKind.wrap .u32 ((IntKind.wrap .u32 (byt l (4 * i+1))) * 2 ^ 16))).toNat)) ||| BitVec.ofInt (IntKind.bits .u32) (IntKind.wrap .u32 ((IntKind.wrap .u32 (byt l (4 * i+2))) * 2 ^ 8))).toNat))⟩,⟨27,[],.int .i64 ((i : Nat) : Int)⟩,⟨1,[],.slice ba 64 bc⟩,⟨3,[],pt b1⟩,⟨5,[],pt b2⟩,⟨6,[],pt b3⟩,⟨7,[],pt b4⟩,⟨8,[],.int .i64 ((i : Nat) : Int)⟩,⟨22,[],.int .i64 ((i : Nat) : Int)⟩]) 25 0 kr (fun w h=>(h.erase 0)) kr ?_
   refine GH_pure (E':=[⟨53,[],.slice ba 64 bc⟩,⟨52,[],.int .u32 (IntKind.wrap .u32 ((BitVec.ofInt (IntKind.bits .u32) (IntKind.wrap .u32 ((BitVec.ofInt (IntKind.bits .u32) (IntKind.wrap .u32 ((IntKind.wrap .u32 (byt l (4 * i))) * 2 ^ 24)) ||| BitVec.ofInt (IntKind.bits .u32) (IntKind.wrap .u32 ((IntKind.wrap .u32 (byt l (4 * i+1))) * 2 ^ 16))).toNat)) ||| BitVec.ofInt (IntKind.bits .u32) (IntKind.wrap .u32 ((IntKind.wrap .u32 (byt l (4 * i+2))) * 2 ^ 8))).toNat))⟩,⟨27,[],.int .i64 ((i : Nat) : Int)⟩,⟨1,[],.slice ba 64 bc⟩,⟨3,[],pt b1⟩,⟨5,[],pt b2⟩,⟨6,[],pt b3⟩,⟨7,[],pt b4⟩,⟨8,[],.int .i64 ((i : Nat) : Int)⟩,⟨22,[],.int .i64 ((i : Nat) : Int)⟩]) 26 0 kr (fun w h=>(h.erase 0)) kr ?_
   refine GH_pure (E':=[⟨54,[],.int .i64 ((i : Nat) : Int)⟩,⟨53,[],.slice ba 64 bc⟩,⟨52,[],.int .u32 (IntKind.wrap .u32 ((BitVec.ofInt (IntKind.bits .u32) (IntKind.wrap .u32 ((BitVec.ofInt (IntKind.bits .u32) (IntKind.wrap .u32 ((IntKind.wrap .u32 (byt l (4 * i))) * 2 ^ 24)) ||| BitVec.ofInt (IntKind.bits .u32) (IntKind.wrap .u32 ((IntKind.wrap .u32 (byt l (4 * i+1))) * 2 ^ 16))).toNat)) ||| BitVec.ofInt (IntKind.bits .u32) (IntKind.wrap .u32 ((IntKind.wrap .u32 (byt l (4 * i+2))) * 2 ^ 8))).toNat))⟩,⟨27,[],.int .i64 ((i : Nat) : Int)⟩,⟨1,[],.slice ba 64 bc⟩,⟨3,[],pt b1⟩,⟨5,[],pt b2⟩,⟨6,[],pt b3⟩,⟨7,[],pt b4⟩,⟨22,[],.int .i64 ((i : Nat) : Int)⟩]) 27 0 kr (fun w h=>(h.erase 0)) kr ?_
   have hw12 : IntKind.wrap .i64 (4 * ((i : Nat) : Int)) = 4 * ((i : Nat) : Int) := w64 (by omega) (by omega)
   refine GH_pure (E':=[⟨55,[],.int .i64 (4 * ((i : Nat) : Int))⟩,⟨53,[],.slice ba 64 bc⟩,⟨52,[],.int .u32 (IntKind.wrap .u32 ((BitVec.ofInt (IntKind.bits .u32) (IntKind.wrap .u32 ((BitVec.ofInt (IntKind.bits .u32) (IntKind.wrap .u32 ((IntKind.wrap .u32 (byt l (4 * i))) * 2 ^ 24)) ||| BitVec.ofInt (IntKind.bits .u32) (IntKind.wrap .u32 ((IntKind.wrap .u32 (byt l (4 * i+1))) * 2 ^ 16))).toNat)) ||| BitVec.ofInt (IntKind.bits .u32) (IntKind.wrap .u32 ((IntKind.wrap .u32 (byt l (4 * i+2))) * 2 ^ 8))).toNat))⟩,⟨27,[],.int .i64 ((i : Nat) : Int)⟩,⟨1,[],.slice ba 64 bc⟩,⟨3,[],pt b1⟩,⟨5,[],pt b2⟩,⟨6,[],pt b3⟩,⟨7,[],pt b4⟩,⟨22,[],.int .i64 ((i : Nat) : Int)⟩]) 28 0 kr (fun w h=>(h.erase 0)) (Eq.trans (b:=some [⟨55,[],.int .i64 (IntKind.wrap .i64 (4 * ((i : Nat) : Int)))⟩,⟨53,[],.slice ba 64 bc⟩,⟨52,[],.int .u32 (IntKind.wrap .u32 ((BitVec.ofInt (IntKind.bits .u32) (IntKind.wrap .u32 ((BitVec.ofInt (IntKind.bits .u32) (IntKind.wrap .u32 ((IntKind.wrap .u32 (byt l (4 * i))) * 2 ^ 24)) ||| BitVec.ofInt (IntKind.bits .u32) (IntKind.wrap .u32 ((IntKind.wrap .u32 (byt l (4 * i+1))) * 2 ^ 16))).toNat)) ||| BitVec.ofInt (IntKind.bits .u32) (IntKind.wrap .u32 ((IntKind.wrap .u32 (byt l (4 * i+2))) * 2 ^ 8))).toNat))⟩,⟨27,[],.int .i64 ((i : Nat) : Int)⟩,⟨1,[],.slice ba 64 bc⟩,⟨3,[],pt b1⟩,⟨5,[],pt b2⟩,⟨6,[],pt b3⟩,⟨7,[],pt b4⟩,⟨22,[],.int .i64 ((i : Nat) : Int)⟩]) kr (by simp only [hw12])) ?_
   have hw13 : IntKind.wrap .i64 ((4 * ((i : Nat) : Int)) + 3) = (4 * ((i : Nat) : Int)) + 3 := w64 (by omega) (by omega)
   refine GH_pure (E':=[⟨56,[],.int .i64 ((4 * ((i : Nat) : Int))+3)⟩,⟨53,[],.slice ba 64 bc⟩,⟨52,[],.int .u32 (IntKind.wrap .u32 ((BitVec.ofInt (IntKind.bits .u32) (IntKind.wrap .u32 ((BitVec.ofInt (IntKind.bits .u32) (IntKind.wrap .u32 ((IntKind.wrap .u32 (byt l (4 * i))) * 2 ^ 24)) ||| BitVec.ofInt (IntKind.bits .u32) (IntKind.wrap .u32 ((IntKind.wrap .u32 (byt l (4 * i+1))) * 2 ^ 16))).toNat)) ||| BitVec.ofInt (IntKind.bits .u32) (IntKind.wrap .u32 ((IntKind.wrap .u32 (byt l (4 * i+2))) * 2 ^ 8))).toNat))⟩,⟨27,[],.int .i64 ((i : Nat) : Int)⟩,⟨1,[],.slice ba 64 bc⟩,⟨3,[],pt b1⟩,⟨5,[],pt b2⟩,⟨6,[],pt b3⟩,⟨7,[],pt b4⟩,⟨22,[],.int .i64 ((i : Nat) : Int)⟩]) 29 0 kr (fun w h=>(h.erase 0)) (Eq.trans (b:=some [⟨56,[],.int .i64 (IntKind.wrap .i64 ((4 * ((i : Nat) : Int))+3))⟩,⟨53,[],.slice ba 64 bc⟩,⟨52,[],.int .u32 (IntKind.wrap .u32 ((BitVec.ofInt (IntKind.bits .u32) (IntKind.wrap .u32 ((BitVec.ofInt (IntKind.bits .u32) (IntKind.wrap .u32 ((IntKind.wrap .u32 (byt l (4 * i))) * 2 ^ 24)) ||| BitVec.ofInt (IntKind.bits .u32) (IntKind.wrap .u32 ((IntKind.wrap .u32 (byt l (4 * i+1))) * 2 ^ 16))).toNat)) ||| BitVec.ofInt (IntKind.bits .u32) (IntKind.wrap .u32 ((IntKind.wrap .u32 (byt l (4 * i+2))) * 2 ^ 8))).toNat))⟩,⟨27,[],.int .i64 ((i : Nat) : Int)⟩,⟨1,[],.slice ba 64 bc⟩,⟨3,[],pt b1⟩,⟨5,[],pt b2⟩,⟨6,[],pt b3⟩,⟨7,[],pt b4⟩,⟨22,[],.int .i64 ((i : Nat) : Int)⟩]) kr (by simp only [hw13])) ?_
   refine GH_take' (E':=[⟨57,[],.pointer (some (eltA ba ((Int.toNat ((4 * ((i : Nat) : Int))+3)) * 1)))⟩,⟨56,[],.int .i64 ((4 * ((i : Nat) : Int))+3)⟩,⟨53,[],.slice ba 64 bc⟩,⟨52,[],.int .u32 (IntKind.wrap .u32 ((BitVec.ofInt (IntKind.bits .u32) (IntKind.wrap .u32 ((BitVec.ofInt (IntKind.bits .u32) (IntKind.wrap .u32 ((IntKind.wrap .u32 (byt l (4 * i))) * 2 ^ 24)) ||| BitVec.ofInt (IntKind.bits .u32) (IntKind.wrap .u32 ((IntKind.wrap .u32 (byt l (4 * i+1))) * 2 ^ 16))).toNat)) ||| BitVec.ofInt (IntKind.bits .u32) (IntKind.wrap .u32 ((IntKind.wrap .u32 (byt l (4 * i+2))) * 2 ^ 8))).toNat))⟩,⟨27,[],.int .i64 ((i : Nat) : Int)⟩,⟨1,[],.slice ba 64 bc⟩,⟨3,[],pt b1⟩,⟨5,[],pt b2⟩,⟨6,[],pt b3⟩,⟨7,[],pt b4⟩,⟨22,[],.int .i64 ((i : Nat) : Int)⟩]) 30 kr (fun w h=>(h.erase 0)) ?_ ?_
   ·
    refine GL_indexAddr (i:=30) (ch:=[]) (a:=ba) (len:=64) (cap:=bc) (kd:=.i64) (j:=(4 * ((i : Nat) : Int))+3) (e:=5) (sz:=1) (S:=S) (cs:=(u8s l)) rfl rfl kr kr kr kr kr kr kr hrd (fun _=>by exact ⟨by omega,by omega,by intro h; have h2:=congrArg List.length h; simp only [u8s,List.length_map,List.length_nil] at h2; omega⟩) ?_
    exact GL_yend kr kr
   refine GH_take' (E':=[⟨58,[],.int .u8 (byt l (4 * i+3))⟩,⟨57,[],.pointer (some (eltA ba ((Int.toNat ((4 * ((i : Nat) : Int))+3)) * 1)))⟩,⟨56,[],.int .i64 ((4 * ((i : Nat) : Int))+3)⟩,⟨53,[],.slice ba 64 bc⟩,⟨52,[],.int .u32 (IntKind.wrap .u32 ((BitVec.ofInt (IntKind.bits .u32) (IntKind.wrap .u32 ((BitVec.ofInt (IntKind.bits .u32) (IntKind.wrap .u32 ((IntKind.wrap .u32 (byt l (4 * i))) * 2 ^ 24)) ||| BitVec.ofInt (IntKind.bits .u32) (IntKind.wrap .u32 ((IntKind.wrap .u32 (byt l (4 * i+1))) * 2 ^ 16))).toNat)) ||| BitVec.ofInt (IntKind.bits .u32) (IntKind.wrap .u32 ((IntKind.wrap .u32 (byt l (4 * i+2))) * 2 ^ 8))).toNat))⟩,⟨27,[],.int .i64 ((i : Nat) : Int)⟩,⟨1,[],.slice ba 64 bc⟩,⟨3,[],pt b1⟩,⟨5,[],pt b2⟩,⟨6,[],pt b3⟩,⟨7,[],pt b4⟩,⟨22,[],.int .i64 ((i : Nat) : Int)⟩]) 31 kr (fun w h=>(h.erase 0)) ?_ ?_
   ·
    refine GL_loadS (i:=31) (ch:=[]) (a:=ba) (q:=(Int.toNat ((4 * ((i : Nat) : Int))+3)) * 1) (S:=S) (cs:=(u8s l)) (v:=.int .u8 (byt l (4 * i+3))) rfl rfl kr kr kr kr kr hrd (fun y o h=>(At.cons (At.cons (At.cons (hS y o h))))) (fun _=>(byt_at (by omega) (by omega))) ?_
    exact GL_yend kr kr
   refine GH_pure (E':=[⟨59,[],.int .u32 (IntKind.wrap .u32 (byt l (4 * i+3)))⟩,⟨52,[],.int .u32 (IntKind.wrap .u32 ((BitVec.ofInt (IntKind.bits .u32) (IntKind.wrap .u32 ((BitVec.ofInt (IntKind.bits .u32) (IntKind.wrap .u32 ((IntKind.wrap .u32 (byt l (4 * i))) * 2 ^ 24)) ||| BitVec.ofInt (IntKind.bits .u32) (IntKind.wrap .u32 ((IntKind.wrap .u32 (byt l (4 * i+1))) * 2 ^ 16))).toNat)) ||| BitVec.ofInt (IntKind.bits .u32) (IntKind.wrap .u32 ((IntKind.wrap .u32 (byt l (4 * i+2))) * 2 ^ 8))).toNat))⟩,⟨27,[],.int .i64 ((i : Nat) : Int)⟩,⟨1,[],.slice ba 64 bc⟩,⟨3,[],pt b1⟩,⟨5,[],pt b2⟩,⟨6,[],pt b3⟩,⟨7,[],pt b4⟩,⟨22,[],.int .i64 ((i : Nat) : Int)⟩]) 32 0 kr (fun w h=>(h.erase 0)) kr ?_
   refine GH_pure (E':=[⟨60,[],.int .u32 (IntKind.wrap .u32 ((BitVec.ofInt (IntKind.bits .u32) (IntKind.wrap .u32 ((BitVec.ofInt (IntKind.bits .u32) (IntKind.wrap .u32 ((BitVec.ofInt (IntKind.bits .u32) (IntKind.wrap .u32 ((IntKind.wrap .u32 (byt l (4 * i))) * 2 ^ 24)) ||| BitVec.ofInt (IntKind.bits .u32) (IntKind.wrap .u32 ((IntKind.wrap .u32 (byt l (4 * i+1))) * 2 ^ 16))).toNat)) ||| BitVec.ofInt (IntKind.bits .u32) (IntKind.wrap .u32 ((IntKind.wrap .u32 (byt l (4 * i+2))) * 2 ^ 8))).toNat)) ||| BitVec.ofInt (IntKind.bits .u32) (IntKind.wrap .u32 (byt l (4 * i+3)))).toNat))⟩,⟨27,[],.int .i64 ((i : Nat) : Int)⟩,⟨1,[],.slice ba 64 bc⟩,⟨3,[],pt b1⟩,⟨5,[],pt b2⟩,⟨6,[],pt b3⟩,⟨7,[],pt b4⟩,⟨22,[],.int .i64 ((i : Nat) : Int)⟩]) 33 0 kr (fun w h=>(h.erase 0)) kr ?_
   refine GH_take' (E':=[⟨61,[],.pointer (some ⟨b4,0+Int.toNat ((i : Nat) : Int) * 1,none⟩)⟩,⟨60,[],.int .u32 (IntKind.wrap .u32 ((BitVec.ofInt (IntKind.bits .u32) (IntKind.wrap .u32 ((BitVec.ofInt (IntKind.bits .u32) (IntKind.wrap .u32 ((BitVec.ofInt (IntKind.bits .u32) (IntKind.wrap .u32 ((IntKind.wrap .u32 (byt l (4 * i))) * 2 ^ 24)) ||| BitVec.ofInt (IntKind.bits .u32) (IntKind.wrap .u32 ((IntKind.wrap .u32 (byt l (4 * i+1))) * 2 ^ 16))).toNat)) ||| BitVec.ofInt (IntKind.bits .u32) (IntKind.wrap .u32 ((IntKind.wrap .u32 (byt l (4 * i+2))) * 2 ^ 8))).toNat)) ||| BitVec.ofInt (IntKind.bits .u32) (IntKind.wrap .u32 (byt l (4 * i+3)))).toNat))⟩,⟨27,[],.int .i64 ((i : Nat) : Int)⟩,⟨1,[],.slice ba 64 bc⟩,⟨3,[],pt b1⟩,⟨5,[],pt b2⟩,⟨6,[],pt b3⟩,⟨7,[],pt b4⟩,⟨22,[],.int .i64 ((i : Nat) : Int)⟩]) 34 kr (fun w h=>(h.erase 0)) ?_ ?_
   ·
    refine GL_indexArr (i:=34) (ch:=[]) (b:=b4) (off:=0) (len:=64) (sz:=1) (e:=144) (kd:=.i64) (j:=((i : Nat) : Int)) rfl rfl kr kr kr kr kr kr kr (fun _=>by exact ⟨by omega,by omega⟩) ?_
    exact GL_yend kr kr
   refine GH_eff 35 kr kr kr ?_
   refine GL_store (i:=35) (ch:=[]) (b:=b4) (off:=0+Int.toNat ((i : Nat) : Int) * 1) (v:=.int .u32 (IntKind.wrap .u32 ((BitVec.ofInt (IntKind.bits .u32) (IntKind.wrap .u32 ((BitVec.ofInt (IntKind.bits .u32) (IntKind.wrap .u32 ((BitVec.ofInt (IntKind.bits .u32) (IntKind.wrap .u32 ((IntKind.wrap .u32 (byt l (4 * i))) * 2 ^ 24)) ||| BitVec.ofInt (IntKind.bits .u32) (IntKind.wrap .u32 ((IntKind.wrap .u32 (byt l (4 * i+1))) * 2 ^ 16))).toNat)) ||| BitVec.ofInt (IntKind.bits .u32) (IntKind.wrap .u32 ((IntKind.wrap .u32 (byt l (4 * i+2))) * 2 ^ 8))).toNat)) ||| BitVec.ofInt (IntKind.bits .u32) (IntKind.wrap .u32 (byt l (4 * i+3)))).toNat))) (c:=(wArr (byt l) i)) (c':=(wArr (byt l) (i+1))) (j:=0) (m:=0) (H':=([(b4,.cells (wArr (byt l) (i+1)) 171 (0,0))]::[(b3,.cells #[.int .u32 0,.int .u32 0,.int .u32 0,.int .u32 0,.int .u32 0,.int .u32 0,.int .u32 0,.int .u32 0] 169 (0,0))]::[(b2,.cells kArr 171 (0,0))]::[(b1,.cells #[.int .u32 s.a,.int .u32 s.b,.int .u32 s.c,.int .u32 s.d,.int .u32 s.e,.int .u32 s.f,.int .u32 s.g,.int .u32 s.h] 169 (0,0))]::H)) rfl rfl kr kr kr kr kr kr kr rfl rfl (by rw [wArr_size _ (by omega)]; show 0+Int.toNat _ * 1+1 ≤ 64; omega) (fun _ _=>thaw0) (wArr_set (byt l) (q:=((i : Nat) : Int)) (by omega) (by omega) (by rw [if_pos (by omega)] <;> rfl)) kr ?_
   refine GH_back kr (fun w h=>(h.erase 0)) ?_
   refine GH_done (E':=[⟨1,[],.slice ba 64 bc⟩,⟨3,[],pt b1⟩,⟨5,[],pt b2⟩,⟨6,[],pt b3⟩,⟨7,[],pt b4⟩,⟨22,[],.int .i64 ((i : Nat) : Int)⟩]) [1,3,5,6,7,22] kr kr ?_
   refine N_then ?_
   refine G_exit ?_
   refine N_then_exit ?_
   refine N_block_exit ?_
   refine N_then ?_
   have hw14 : IntKind.wrap .i64 (((i : Nat) : Int) + 1) = ((i : Nat) : Int) + 1 := w64 (by omega) (by omega)
   refine G_pure (E':=[⟨1,[],.slice ba 64 bc⟩,⟨3,[],pt b1⟩,⟨5,[],pt b2⟩,⟨6,[],pt b3⟩,⟨7,[],pt b4⟩,⟨22,[],.int .i64 (((i : Nat) : Int)+1)⟩]) [0,0] [1,3,5,6,7,22] rfl (Eq.trans (b:=some [⟨1,[],.slice ba 64 bc⟩,⟨3,[],pt b1⟩,⟨5,[],pt b2⟩,⟨6,[],pt b3⟩,⟨7,[],pt b4⟩,⟨22,[],.int .i64 (IntKind.wrap .i64 (((i : Nat) : Int)+1))⟩]) kr (by simp only [hw14])) ?_
   refine N_round (s':=(i+1)) [1,3,5,6,7,22] kr rfl (by omega) (by omega)
  ·
   replace hc6 := of_decide_eq_false hc6
   refine G_skip ?_
   refine N_then ?_
   refine G_seq ?_
   have hw15 : IntKind.wrap .i64 (((i : Nat) : Int) - 15) = ((i : Nat) : Int) - 15 := w64 (by omega) (by omega)
   refine G_regionD kr kr ?_
   refine GL_pure (E':=[⟨63,[],.int .i64 (((i : Nat) : Int) - 15)⟩,⟨1,[],.slice ba 64 bc⟩,⟨3,[],pt b1⟩,⟨5,[],pt b2⟩,⟨6,[],pt b3⟩,⟨7,[],pt b4⟩,⟨8,[],.int .i64 ((i : Nat) : Int)⟩,⟨22,[],.int .i64 ((i : Nat) : Int)⟩]) [0,0] (Eq.trans (b:=some [⟨63,[],.int .i64 (IntKind.wrap .i64 (((i : Nat) : Int) - 15))⟩,⟨1,[],.slice ba 64 bc⟩,⟨3,[],pt b1⟩,⟨5,[],pt b2⟩,⟨6,[],pt b3⟩,⟨7,[],pt b4⟩,⟨8,[],.int .i64 ((i : Nat) : Int)⟩,⟨22,[],.int .i64 ((i : Nat) : Int)⟩]) kr (by simp only [hw15])) (j:=2) rfl ?_
   refine GL_indexArr (i:=2) (ch:=[]) (b:=b4) (off:=0) (len:=64) (sz:=1) (e:=144) (kd:=.i64) (j:=((i : Nat) : Int) - 15) rfl rfl kr kr kr kr kr kr kr (fun _=>by exact ⟨by omega,by omega⟩) ?_
   refine GL_load (i:=3) (ch:=[]) (b:=b4) (off:=0+Int.toNat (((i : Nat) : Int) - 15) * 1) (v:=.int .u32 ((wsch (byt l) i).getD (i - 15) 0)) rfl rfl kr kr kr kr kr (At.grp 0 0 rfl rfl) (wArr_at (byt l) (q:=(((i : Nat) : Int) - 15)) (j:=i - 15) (by omega) (by omega)) ?_
   have hw16 : IntKind.wrap .i64 (((i : Nat) : Int) - 2) = ((i : Nat) : Int) - 2 := w64 (by omega) (by omega)
   refine GL_pure (E':=[⟨67,[],.int .i64 (((i : Nat) : Int) - 2)⟩,⟨65,[],.int .u32 ((wsch (byt l) i).getD (i - 15) 0)⟩,⟨1,[],.slice ba 64 bc⟩,⟨3,[],pt b1⟩,⟨5,[],pt b2⟩,⟨6,[],pt b3⟩,⟨7,[],pt b4⟩,⟨8,[],.int .i64 ((i : Nat) : Int)⟩,⟨22,[],.int .i64 ((i : Nat) : Int)⟩]) [0,0] (Eq.trans (b:=some [⟨67,[],.int .i64 (IntKind.wrap .i64 (((i : Nat) : Int) - 2))⟩,⟨65,[],.int .u32 ((wsch (byt l) i).getD (i - 15) 0)⟩,⟨1,[],.slice ba 64 bc⟩,⟨3,[],pt b1⟩,⟨5,[],pt b2⟩,⟨6,[],pt b3⟩,⟨7,[],pt b4⟩,⟨8,[],.int .i64 ((i : Nat) : Int)⟩,⟨22,[],.int .i64 ((i : Nat) : Int)⟩]) kr (by simp only [hw16])) (j:=6) rfl ?_
   refine GL_indexArr (i:=6) (ch:=[]) (b:=b4) (off:=0) (len:=64) (sz:=1) (e:=144) (kd:=.i64) (j:=((i : Nat) : Int) - 2) rfl rfl kr kr kr kr kr kr kr (fun _=>by exact ⟨by omega,by omega⟩) ?_
   refine GL_load (i:=7) (ch:=[]) (b:=b4) (off:=0+Int.toNat (((i : Nat) : Int) - 2) * 1) (v:=.int .u32 ((wsch (byt l) i).getD (i - 2) 0)) rfl rfl kr kr kr kr kr (At.grp 0 0 rfl rfl) (wArr_at (byt l) (q:=(((i : Nat) : Int) - 2)) (j:=i - 2) (by omega) (by omega)) ?_
   refine GL_fin (E':=[⟨1,[],.slice ba 64 bc⟩,⟨3,[],pt b1⟩,⟨5,[],pt b2⟩,⟨6,[],pt b3⟩,⟨7,[],pt b4⟩,⟨8,[],.int .i64 ((i : Nat) : Int)⟩,⟨9,[],.int .u32 ((wsch (byt l) i).getD (i - 15) 0)⟩,⟨10,[],.int .u32 ((wsch (byt l) i).getD (i - 2) 0)⟩,⟨22,[],.int .i64 ((i : Nat) : Int)⟩]) [0,0] [1,3,5,6,7,8,9,10,22] rfl kr ?_
   refine N_then ?_
   refine G_seq ?_
   refine G_region ?_
   refine GL_pure (E':=[⟨70,[],.int .u32 ((wsch (byt l) i).getD (i - 15) 0)⟩,⟨1,[],.slice ba 64 bc⟩,⟨3,[],pt b1⟩,⟨5,[],pt b2⟩,⟨6,[],pt b3⟩,⟨7,[],pt b4⟩,⟨8,[],.int .i64 ((i : Nat) : Int)⟩,⟨9,[],.int .u32 ((wsch (byt l) i).getD (i - 15) 0)⟩,⟨10,[],.int .u32 ((wsch (byt l) i).getD (i - 2) 0)⟩,⟨22,[],.int .i64 ((i : Nat) : Int)⟩]) [0] kr (j:=1) rfl ?_
   refine GL_callQ (i:=1) (ch:=[]) (f:=140) (fst:=#[]) (caps:=#[]) (vs:=[.int .u32 ((wsch (byt l) i).getD (i - 15) 0),.int .i64 (-7)]) (v:=.int .u32 (rotr ((wsch (byt l) i).getD (i - 15) 0) 7)) rfl rfl rfl kr kr Tryz.func140 rfl rfl kr kr kr (fun _=>rot7 ((wsch (byt l) i).getD (i - 15) 0) _ _) ?_
   refine GL_pure (E':=[⟨72,[],.int .u32 ((wsch (byt l) i).getD (i - 15) 0)⟩,⟨71,[],.int .u32 (rotr ((wsch (byt l) i).getD (i - 15) 0) 7)⟩,⟨1,[],.slice ba 64 bc⟩,⟨3,[],pt b1⟩,⟨5,[],pt b2⟩,⟨6,[],pt b3⟩,⟨7,[],pt b4⟩,⟨8,[],.int .i64 ((i : Nat) : Int)⟩,⟨9,[],.int .u32 ((wsch (byt l) i).getD (i - 15) 0)⟩,⟨10,[],.int .u32 ((wsch (byt l) i).getD (i - 2) 0)⟩,⟨22,[],.int .i64 ((i : Nat) : Int)⟩]) [0] kr (j:=3) rfl ?_
   refine GL_callQ (i:=3) (ch:=[]) (f:=140) (fst:=#[]) (caps:=#[]) (vs:=[.int .u32 ((wsch (byt l) i).getD (i - 15) 0),.int .i64 (-18)]) (v:=.int .u32 (rotr ((wsch (byt l) i).getD (i - 15) 0) 18)) rfl rfl rfl kr kr Tryz.func140 rfl rfl kr kr kr (fun _=>rot18 ((wsch (byt l) i).getD (i - 15) 0) _ _) ?_
   refine GL_fin (E':=[⟨1,[],.slice ba 64 bc⟩,⟨3,[],pt b1⟩,⟨5,[],pt b2⟩,⟨6,[],pt b3⟩,⟨7,[],pt b4⟩,⟨8,[],.int .i64 ((i : Nat) : Int)⟩,⟨10,[],.int .u32 ((wsch (byt l) i).getD (i - 2) 0)⟩,⟨11,[],.int .u32 (IntKind.wrap .u32 ((BitVec.ofInt (IntKind.bits .u32) (IntKind.wrap .u32 ((BitVec.ofInt (IntKind.bits .u32) (rotr ((wsch (byt l) i).getD (i - 15) 0) 7) ^^^ BitVec.ofInt (IntKind.bits .u32) (rotr ((wsch (byt l) i).getD (i - 15) 0) 18)).toNat)) ^^^ BitVec.ofInt (IntKind.bits .u32) (Int.fdiv ((wsch (byt l) i).getD (i - 15) 0) (2 ^ 3))).toNat))⟩,⟨22,[],.int .i64 ((i : Nat) : Int)⟩]) [0,0,0,0,0] [1,3,5,6,7,8,10,11,22] rfl kr ?_
   refine N_env (E':=[⟨1,[],.slice ba 64 bc⟩,⟨3,[],pt b1⟩,⟨5,[],pt b2⟩,⟨6,[],pt b3⟩,⟨7,[],pt b4⟩,⟨8,[],.int .i64 ((i : Nat) : Int)⟩,⟨10,[],.int .u32 ((wsch (byt l) i).getD (i - 2) 0)⟩,⟨11,[],.int .u32 (sg0 ((wsch (byt l) i).getD (i - 15) 0))⟩,⟨22,[],.int .i64 ((i : Nat) : Int)⟩]) kr ?_
   refine N_then ?_
   refine G_seq ?_
   refine G_region ?_
   refine GL_pure (E':=[⟨78,[],.int .u32 ((wsch (byt l) i).getD (i - 2) 0)⟩,⟨1,[],.slice ba 64 bc⟩,⟨3,[],pt b1⟩,⟨5,[],pt b2⟩,⟨6,[],pt b3⟩,⟨7,[],pt b4⟩,⟨8,[],.int .i64 ((i : Nat) : Int)⟩,⟨10,[],.int .u32 ((wsch (byt l) i).getD (i - 2) 0)⟩,⟨11,[],.int .u32 (sg0 ((wsch (byt l) i).getD (i - 15) 0))⟩,⟨22,[],.int .i64 ((i : Nat) : Int)⟩]) [0] kr (j:=1) rfl ?_
   refine GL_callQ (i:=1) (ch:=[]) (f:=140) (fst:=#[]) (caps:=#[]) (vs:=[.int .u32 ((wsch (byt l) i).getD (i - 2) 0),.int .i64 (-17)]) (v:=.int .u32 (rotr ((wsch (byt l) i).getD (i - 2) 0) 17)) rfl rfl rfl kr kr Tryz.func140 rfl rfl kr kr kr (fun _=>rot17 ((wsch (byt l) i).getD (i - 2) 0) _ _) ?_
   refine GL_pure (E':=[⟨80,[],.int .u32 ((wsch (byt l) i).getD (i - 2) 0)⟩,⟨79,[],.int .u32 (rotr ((wsch (byt l) i).getD (i - 2) 0) 17)⟩,⟨1,[],.slice ba 64 bc⟩,⟨3,[],pt b1⟩,⟨5,[],pt b2⟩,⟨6,[],pt b3⟩,⟨7,[],pt b4⟩,⟨8,[],.int .i64 ((i : Nat) : Int)⟩,⟨10,[],.int .u32 ((wsch (byt l) i).getD (i - 2) 0)⟩,⟨11,[],.int .u32 (sg0 ((wsch (byt l) i).getD (i - 15) 0))⟩,⟨22,[],.int .i64 ((i : Nat) : Int)⟩]) [0] kr (j:=3) rfl ?_
   refine GL_callQ (i:=3) (ch:=[]) (f:=140) (fst:=#[]) (caps:=#[]) (vs:=[.int .u32 ((wsch (byt l) i).getD (i - 2) 0),.int .i64 (-19)]) (v:=.int .u32 (rotr ((wsch (byt l) i).getD (i - 2) 0) 19)) rfl rfl rfl kr kr Tryz.func140 rfl rfl kr kr kr (fun _=>rot19 ((wsch (byt l) i).getD (i - 2) 0) _ _) ?_
   refine GL_fin (E':=[⟨1,[],.slice ba 64 bc⟩,⟨3,[],pt b1⟩,⟨5,[],pt b2⟩,⟨6,[],pt b3⟩,⟨7,[],pt b4⟩,⟨8,[],.int .i64 ((i : Nat) : Int)⟩,⟨11,[],.int .u32 (sg0 ((wsch (byt l) i).getD (i - 15) 0))⟩,⟨12,[],.int .u32 (IntKind.wrap .u32 ((BitVec.ofInt (IntKind.bits .u32) (IntKind.wrap .u32 ((BitVec.ofInt (IntKind.bits .u32) (rotr ((wsch (byt l) i).getD (i - 2) 0) 17) ^^^ BitVec.ofInt (IntKind.bits .u32) (rotr ((wsch (byt l) i).getD (i - 2) 0) 19)).toNat)) ^^^ BitVec.ofInt (IntKind.bits .u32) (Int.fdiv ((wsch (byt l) i).getD (i - 2) 0) (2 ^ 10))).toNat))⟩,⟨22,[],.int .i64 ((i : Nat) : Int)⟩]) [0,0,0,0,0] [1,3,5,6,7,8,11,12,22] rfl kr ?_
   refine N_env (E':=[⟨1,[],.slice ba 64 bc⟩,⟨3,[],pt b1⟩,⟨5,[],pt b2⟩,⟨6,[],pt b3⟩,⟨7,[],pt b4⟩,⟨8,[],.int .i64 ((i : Nat) : Int)⟩,⟨11,[],.int .u32 (sg0 ((wsch (byt l) i).getD (i - 15) 0))⟩,⟨12,[],.int .u32 (sg1 ((wsch (byt l) i).getD (i - 2) 0))⟩,⟨22,[],.int .i64 ((i : Nat) : Int)⟩]) kr ?_
   refine N_then ?_
   refine G_regionH ([(b3,.cells #[.int .u32 0,.int .u32 0,.int .u32 0,.int .u32 0,.int .u32 0,.int .u32 0,.int .u32 0,.int .u32 0] 169 (0,0))]::[(b2,.cells kArr 171 (0,0))]::[(b1,.cells #[.int .u32 s.a,.int .u32 s.b,.int .u32 s.c,.int .u32 s.d,.int .u32 s.e,.int .u32 s.f,.int .u32 s.g,.int .u32 s.h] 169 (0,0))]::H) kr ?_
   refine GH_pure (E':=[⟨86,[],.int .i64 ((i : Nat) : Int)⟩,⟨1,[],.slice ba 64 bc⟩,⟨3,[],pt b1⟩,⟨5,[],pt b2⟩,⟨6,[],pt b3⟩,⟨7,[],pt b4⟩,⟨8,[],.int .i64 ((i : Nat) : Int)⟩,⟨11,[],.int .u32 (sg0 ((wsch (byt l) i).getD (i - 15) 0))⟩,⟨12,[],.int .u32 (sg1 ((wsch (byt l) i).getD (i - 2) 0))⟩,⟨22,[],.int .i64 ((i : Nat) : Int)⟩]) 0 0 kr (fun w h=>(h.erase 0)) kr ?_
   refine GH_pure (E':=[⟨87,[],.int .i64 ((i : Nat) : Int)⟩,⟨86,[],.int .i64 ((i : Nat) : Int)⟩,⟨1,[],.slice ba 64 bc⟩,⟨3,[],pt b1⟩,⟨5,[],pt b2⟩,⟨6,[],pt b3⟩,⟨7,[],pt b4⟩,⟨8,[],.int .i64 ((i : Nat) : Int)⟩,⟨11,[],.int .u32 (sg0 ((wsch (byt l) i).getD (i - 15) 0))⟩,⟨12,[],.int .u32 (sg1 ((wsch (byt l) i).getD (i - 2) 0))⟩,⟨22,[],.int .i64 ((i : Nat) : Int)⟩]) 1 0 kr (fun w h=>(h.erase 0)) kr ?_
   have hw17 : IntKind.wrap .i64 (((i : Nat) : Int) - 16) = ((i : Nat) : Int) - 16 := w64 (by omega) (by omega)
   refine GH_pure (E':=[⟨88,[],.int .i64 (((i : Nat) : Int) - 16)⟩,⟨86,[],.int .i64 ((i : Nat) : Int)⟩,⟨1,[],.slice ba 64 bc⟩,⟨3,[],pt b1⟩,⟨5,[],pt b2⟩,⟨6,[],pt b3⟩,⟨7,[],pt b4⟩,⟨8,[],.int .i64 ((i : Nat) : Int)⟩,⟨11,[],.int .u32 (sg0 ((wsch (byt l) i).getD (i - 15) 0))⟩,⟨12,[],.int .u32 (sg1 ((wsch (byt l) i).getD (i - 2) 0))⟩,⟨22,[],.int .i64 ((i : Nat) : Int)⟩]) 2 0 kr (fun w h=>(h.erase 0)) (Eq.trans (b:=some [⟨88,[],.int .i64 (IntKind.wrap .i64 (((i : Nat) : Int) - 16))⟩,⟨86,[],.int .i64 ((i : Nat) : Int)⟩,⟨1,[],.slice ba 64 bc⟩,⟨3,[],pt b1⟩,⟨5,[],pt b2⟩,⟨6,[],pt b3⟩,⟨7,[],pt b4⟩,⟨8,[],.int .i64 ((i : Nat) : Int)⟩,⟨11,[],.int .u32 (sg0 ((wsch (byt l) i).getD (i - 15) 0))⟩,⟨12,[],.int .u32 (sg1 ((wsch (byt l) i).getD (i - 2) 0))⟩,⟨22,[],.int .i64 ((i : Nat) : Int)⟩]) kr (by simp only [hw17])) ?_
   refine GH_take' (E':=[⟨89,[],.pointer (some ⟨b4,0+Int.toNat (((i : Nat) : Int) - 16) * 1,none⟩)⟩,⟨88,[],.int .i64 (((i : Nat) : Int) - 16)⟩,⟨86,[],.int .i64 ((i : Nat) : Int)⟩,⟨1,[],.slice ba 64 bc⟩,⟨3,[],pt b1⟩,⟨5,[],pt b2⟩,⟨6,[],pt b3⟩,⟨7,[],pt b4⟩,⟨8,[],.int .i64 ((i : Nat) : Int)⟩,⟨11,[],.int .u32 (sg0 ((wsch (byt l) i).getD (i - 15) 0))⟩,⟨12,[],.int .u32 (sg1 ((wsch (byt l) i).getD (i - 2) 0))⟩,⟨22,[],.int .i64 ((i : Nat) : Int)⟩]) 3 kr (fun w h=>(h.erase 0)) ?_ ?_
   ·
    refine GL_indexArr (i:=3) (ch:=[]) (b:=b4) (off:=0) (len:=64) (sz:=1) (e:=144) (kd:=.i64) (j:=((i : Nat) : Int) - 16) rfl rfl kr kr kr kr kr kr kr (fun _=>by exact ⟨by omega,by omega⟩) ?_
    exact GL_yend kr kr
   refine GH_pure (E':=[⟨91,[],.int .u32 (sg0 ((wsch (byt l) i).getD (i - 15) 0))⟩,⟨89,[],.pointer (some ⟨b4,0+Int.toNat (((i : Nat) : Int) - 16) * 1,none⟩)⟩,⟨86,[],.int .i64 ((i : Nat) : Int)⟩,⟨1,[],.slice ba 64 bc⟩,⟨3,[],pt b1⟩,⟨5,[],pt b2⟩,⟨6,[],pt b3⟩,⟨7,[],pt b4⟩,⟨8,[],.int .i64 ((i : Nat) : Int)⟩,⟨12,[],.int .u32 (sg1 ((wsch (byt l) i).getD (i - 2) 0))⟩,⟨22,[],.int .i64 ((i : Nat) : Int)⟩]) 5 0 kr (fun w h=>(h.erase 0)) kr ?_
   refine GH_pure (E':=[⟨93,[],.int .i64 ((i : Nat) : Int)⟩,⟨91,[],.int .u32 (sg0 ((wsch (byt l) i).getD (i - 15) 0))⟩,⟨89,[],.pointer (some ⟨b4,0+Int.toNat (((i : Nat) : Int) - 16) * 1,none⟩)⟩,⟨86,[],.int .i64 ((i : Nat) : Int)⟩,⟨1,[],.slice ba 64 bc⟩,⟨3,[],pt b1⟩,⟨5,[],pt b2⟩,⟨6,[],pt b3⟩,⟨7,[],pt b4⟩,⟨12,[],.int .u32 (sg1 ((wsch (byt l) i).getD (i - 2) 0))⟩,⟨22,[],.int .i64 ((i : Nat) : Int)⟩]) 7 0 kr (fun w h=>(h.erase 0)) kr ?_
   have hw18 : IntKind.wrap .i64 (((i : Nat) : Int) - 7) = ((i : Nat) : Int) - 7 := w64 (by omega) (by omega)
   refine GH_pure (E':=[⟨94,[],.int .i64 (((i : Nat) : Int) - 7)⟩,⟨91,[],.int .u32 (sg0 ((wsch (byt l) i).getD (i - 15) 0))⟩,⟨89,[],.pointer (some ⟨b4,0+Int.toNat (((i : Nat) : Int) - 16) * 1,none⟩)⟩,⟨86,[],.int .i64 ((i : Nat) : Int)⟩,⟨1,[],.slice ba 64 bc⟩,⟨3,[],pt b1⟩,⟨5,[],pt b2⟩,⟨6,[],pt b3⟩,⟨7,[],pt b4⟩,⟨12,[],.int .u32 (sg1 ((wsch (byt l) i).getD (i - 2) 0))⟩,⟨22,[],.int .i64 ((i : Nat) : Int)⟩]) 8 0 kr (fun w h=>(h.erase 0)) (Eq.trans (b:=some [⟨94,[],.int .i64 (IntKind.wrap .i64 (((i : Nat) : Int) - 7))⟩,⟨91,[],.int .u32 (sg0 ((wsch (byt l) i).getD (i - 15) 0))⟩,⟨89,[],.pointer (some ⟨b4,0+Int.toNat (((i : Nat) : Int) - 16) * 1,none⟩)⟩,⟨86,[],.int .i64 ((i : Nat) : Int)⟩,⟨1,[],.slice ba 64 bc⟩,⟨3,[],pt b1⟩,⟨5,[],pt b2⟩,⟨6,[],pt b3⟩,⟨7,[],pt b4⟩,⟨12,[],.int .u32 (sg1 ((wsch (byt l) i).getD (i - 2) 0))⟩,⟨22,[],.int .i64 ((i : Nat) : Int)⟩]) kr (by simp only [hw18])) ?_
   refine GH_take' (E':=[⟨95,[],.pointer (some ⟨b4,0+Int.toNat (((i : Nat) : Int) - 7) * 1,none⟩)⟩,⟨94,[],.int .i64 (((i : Nat) : Int) - 7)⟩,⟨91,[],.int .u32 (sg0 ((wsch (byt l) i).getD (i - 15) 0))⟩,⟨89,[],.pointer (some ⟨b4,0+Int.toNat (((i : Nat) : Int) - 16) * 1,none⟩)⟩,⟨86,[],.int .i64 ((i : Nat) : Int)⟩,⟨1,[],.slice ba 64 bc⟩,⟨3,[],pt b1⟩,⟨5,[],pt b2⟩,⟨6,[],pt b3⟩,⟨7,[],pt b4⟩,⟨12,[],.int .u32 (sg1 ((wsch (byt l) i).getD (i - 2) 0))⟩,⟨22,[],.int .i64 ((i : Nat) : Int)⟩]) 9 kr (fun w h=>(h.erase 0)) ?_ ?_
   ·
    refine GL_indexArr (i:=9) (ch:=[]) (b:=b4) (off:=0) (len:=64) (sz:=1) (e:=144) (kd:=.i64) (j:=((i : Nat) : Int) - 7) rfl rfl kr kr kr kr kr kr kr (fun _=>by exact ⟨by omega,by omega⟩) ?_
    exact GL_yend kr kr
   refine GH_pure (E':=[⟨98,[],.int .u32 (sg1 ((wsch (byt l) i).getD (i - 2) 0))⟩,⟨95,[],.pointer (some ⟨b4,0+Int.toNat (((i : Nat) : Int) - 7) * 1,none⟩)⟩,⟨91,[],.int .u32 (sg0 ((wsch (byt l) i).getD (i - 15) 0))⟩,⟨89,[],.pointer (some ⟨b4,0+Int.toNat (((i : Nat) : Int) - 16) * 1,none⟩)⟩,⟨86,[],.int .i64 ((i : Nat) : Int)⟩,⟨1,[],.slice ba 64 bc⟩,⟨3,[],pt b1⟩,⟨5,[],pt b2⟩,⟨6,[],pt b3⟩,⟨7,[],pt b4⟩,⟨22,[],.int .i64 ((i : Nat) : Int)⟩]) 12 0 kr (fun w h=>(h.erase 0)) kr ?_
   refine GH_eff2 4 10 kr kr kr kr kr ?_ ?_
   ·
    refine GL_load (i:=4) (ch:=[]) (b:=b4) (off:=0+Int.toNat (((i : Nat) : Int) - 16) * 1) (v:=.int .u32 ((wsch (byt l) i).getD (i - 16) 0)) rfl rfl kr kr kr kr kr (At.grp 0 0 rfl rfl) (wArr_at (byt l) (q:=(((i : Nat) : Int) - 16)) (j:=i - 16) (by omega) (by omega)) ?_
    refine GH_back kr (fun w h=>(h.erase 0)) ?_
    refine GH_pure (E':=[⟨92,[],.int .u32 (IntKind.wrap .u32 (((wsch (byt l) i).getD (i - 16) 0)+(sg0 ((wsch (byt l) i).getD (i - 15) 0))))⟩,⟨98,[],.int .u32 (sg1 ((wsch (byt l) i).getD (i - 2) 0))⟩,⟨95,[],.pointer (some ⟨b4,0+Int.toNat (((i : Nat) : Int) - 7) * 1,none⟩)⟩,⟨86,[],.int .i64 ((i : Nat) : Int)⟩,⟨1,[],.slice ba 64 bc⟩,⟨3,[],pt b1⟩,⟨5,[],pt b2⟩,⟨6,[],pt b3⟩,⟨7,[],pt b4⟩,⟨22,[],.int .i64 ((i : Nat) : Int)⟩]) 6 0 kr (fun w h=>(h.erase 0)) kr ?_
    refine GH_eff 10 kr kr kr ?_
    refine GL_load (i:=10) (ch:=[]) (b:=b4) (off:=0+Int.toNat (((i : Nat) : Int) - 7) * 1) (v:=.int .u32 ((wsch (byt l) i).getD (i - 7) 0)) rfl rfl kr kr kr kr kr (At.grp 0 0 rfl rfl) (wArr_at (byt l) (q:=(((i : Nat) : Int) - 7)) (j:=i - 7) (by omega) (by omega)) ?_
    refine GH_back kr (fun w h=>(h.erase 0)) ?_
    refine GH_pure (E':=[⟨97,[],.int .u32 (IntKind.wrap .u32 ((IntKind.wrap .u32 (((wsch (byt l) i).getD (i - 16) 0)+(sg0 ((wsch (byt l) i).getD (i - 15) 0))))+((wsch (byt l) i).getD (i - 7) 0)))⟩,⟨98,[],.int .u32 (sg1 ((wsch (byt l) i).getD (i - 2) 0))⟩,⟨86,[],.int .i64 ((i : Nat) : Int)⟩,⟨1,[],.slice ba 64 bc⟩,⟨3,[],pt b1⟩,⟨5,[],pt b2⟩,⟨6,[],pt b3⟩,⟨7,[],pt b4⟩,⟨22,[],.int .i64 ((i : Nat) : Int)⟩]) 11 0 kr (fun w h=>(h.erase 0)) kr ?_
    refine GH_pure (E':=[⟨99,[],.int .u32 (IntKind.wrap .u32 ((IntKind.wrap .u32 ((IntKind.wrap .u32 (((wsch (byt l) i).getD (i - 16) 0)+(sg0 ((wsch (byt l) i).getD (i - 15) 0))))+((wsch (byt l) i).getD (i - 7) 0)))+(sg1 ((wsch (byt l) i).getD (i - 2) 0))))⟩,⟨86,[],.int .i64 ((i : Nat) : Int)⟩,⟨1,[],.slice ba 64 bc⟩,⟨3,[],pt b1⟩,⟨5,[],pt b2⟩,⟨6,[],pt b3⟩,⟨7,[],pt b4⟩,⟨22,[],.int .i64 ((i : Nat) : Int)⟩]) 13 0 kr (fun w h=>(h.erase 0)) kr ?_
    refine GH_take' (E':=[⟨100,[],.pointer (some ⟨b4,0+Int.toNat ((i : Nat) : Int) * 1,none⟩)⟩,⟨99,[],.int .u32 (IntKind.wrap .u32 ((IntKind.wrap .u32 ((IntKind.wrap .u32 (((wsch (byt l) i).getD (i - 16) 0)+(sg0 ((wsch (byt l) i).getD (i - 15) 0))))+((wsch (byt l) i).getD (i - 7) 0)))+(sg1 ((wsch (byt l) i).getD (i - 2) 0))))⟩,⟨86,[],.int .i64 ((i : Nat) : Int)⟩,⟨1,[],.slice ba 64 bc⟩,⟨3,[],pt b1⟩,⟨5,[],pt b2⟩,⟨6,[],pt b3⟩,⟨7,[],pt b4⟩,⟨22,[],.int .i64 ((i : Nat) : Int)⟩]) 14 kr (fun w h=>(h.erase 0)) ?_ ?_
    ·
     refine GL_indexArr (i:=14) (ch:=[]) (b:=b4) (off:=0) (len:=64) (sz:=1) (e:=144) (kd:=.i64) (j:=((i : Nat) : Int)) rfl rfl kr kr kr kr kr kr kr (fun _=>by exact ⟨by omega,by omega⟩) ?_
     exact GL_yend kr kr
    refine GH_eff 15 kr kr kr ?_
    refine GL_store (i:=15) (ch:=[]) (b:=b4) (off:=0+Int.toNat ((i : Nat) : Int) * 1) (v:=.int .u32 (IntKind.wrap .u32 ((IntKind.wrap .u32 ((IntKind.wrap .u32 (((wsch (byt l) i).getD (i - 16) 0)+(sg0 ((wsch (byt l) i).getD (i - 15) 0))))+((wsch (byt l) i).getD (i - 7) 0)))+(sg1 ((wsch (byt l) i).getD (i - 2) 0))))) (c:=(wArr (byt l) i)) (c':=(wArr (byt l) (i+1))) (j:=0) (m:=0) (H':=([(b4,.cells (wArr (byt l) (i+1)) 171 (0,0))]::[(b3,.cells #[.int .u32 0,.int .u32 0,.int .u32 0,.int .u32 0,.int .u32 0,.int .u32 0,.int .u32 0,.int .u32 0] 169 (0,0))]::[(b2,.cells kArr 171 (0,0))]::[(b1,.cells #[.int .u32 s.a,.int .u32 s.b,.int .u32 s.c,.int .u32 s.d,.int .u32 s.e,.int .u32 s.f,.int .u32 s.g,.int .u32 s.h] 169 (0,0))]::H)) rfl rfl kr kr kr kr kr kr kr rfl rfl (by rw [wArr_size _ (by omega)]; show 0+Int.toNat _ * 1+1 ≤ 64; omega) (fun _ _=>thaw0) (wArr_set (byt l) (q:=((i : Nat) : Int)) (by omega) (by omega) (by rw [if_neg (by omega)] <;> rfl)) kr ?_
    refine GH_back kr (fun w h=>(h.erase 0)) ?_
    refine GH_done (E':=[⟨1,[],.slice ba 64 bc⟩,⟨3,[],pt b1⟩,⟨5,[],pt b2⟩,⟨6,[],pt b3⟩,⟨7,[],pt b4⟩,⟨22,[],.int .i64 ((i : Nat) : Int)⟩]) [1,3,5,6,7,22] kr kr ?_
    refine N_block ?_
    refine N_then ?_
    have hw19 : IntKind.wrap .i64 (((i : Nat) : Int) + 1) = ((i : Nat) : Int) + 1 := w64 (by omega) (by omega)
    refine G_pure (E':=[⟨1,[],.slice ba 64 bc⟩,⟨3,[],pt b1⟩,⟨5,[],pt b2⟩,⟨6,[],pt b3⟩,⟨7,[],pt b4⟩,⟨22,[],.int .i64 (((i : Nat) : Int)+1)⟩]) [0,0] [1,3,5,6,7,22] rfl (Eq.trans (b:=some [⟨1,[],.slice ba 64 bc⟩,⟨3,[],pt b1⟩,⟨5,[],pt b2⟩,⟨6,[],pt b3⟩,⟨7,[],pt b4⟩,⟨22,[],.int .i64 (IntKind.wrap .i64 (((i : Nat) : Int)+1))⟩]) kr (by simp only [hw19])) ?_
    refine N_round (s':=(i+1)) [1,3,5,6,7,22] kr rfl (by omega) (by omega)
   ·
    refine GL_load (i:=10) (ch:=[]) (b:=b4) (off:=0+Int.toNat (((i : Nat) : Int) - 7) * 1) (v:=.int .u32 ((wsch (byt l) i).getD (i - 7) 0)) rfl rfl kr kr kr kr kr (At.grp 0 0 rfl rfl) (wArr_at (byt l) (q:=(((i : Nat) : Int) - 7)) (j:=i - 7) (by omega) (by omega)) ?_
    refine GH_back kr (fun w h=>(h.erase 0)) ?_
    refine GH_eff 4 kr kr kr ?_
    refine GL_load (i:=4) (ch:=[]) (b:=b4) (off:=0+Int.toNat (((i : Nat) : Int) - 16) * 1) (v:=.int .u32 ((wsch (byt l) i).getD (i - 16) 0)) rfl rfl kr kr kr kr kr (At.grp 0 0 rfl rfl) (wArr_at (byt l) (q:=(((i : Nat) : Int) - 16)) (j:=i - 16) (by omega) (by omega)) ?_
    refine GH_back kr (fun w h=>(h.erase 0)) ?_
    refine GH_pure (E':=[⟨92,[],.int .u32 (IntKind.wrap .u32 (((wsch (byt l) i).getD (i - 16) 0)+(sg0 ((wsch (byt l) i).getD (i - 15) 0))))⟩,⟨96,[],.int .u32 ((wsch (byt l) i).getD (i - 7) 0)⟩,⟨98,[],.int .u32 (sg1 ((wsch (byt l) i).getD (i - 2) 0))⟩,⟨86,[],.int .i64 ((i : Nat) : Int)⟩,⟨1,[],.slice ba 64 bc⟩,⟨3,[],pt b1⟩,⟨5,[],pt b2⟩,⟨6,[],pt b3⟩,⟨7,[],pt b4⟩,⟨22,[],.int .i64 ((i : Nat) : Int)⟩]) 6 0 kr (fun w h=>(h.erase 0)) kr ?_
    refine GH_pure (E':=[⟨97,[],.int .u32 (IntKind.wrap .u32 ((IntKind.wrap .u32 (((wsch (byt l) i).getD (i - 16) 0)+(sg0 ((wsch (byt l) i).getD (i - 15) 0))))+((wsch (byt l) i).getD (i - 7) 0)))⟩,⟨98,[],.int .u32 (sg1 ((wsch (byt l) i).getD (i - 2) 0))⟩,⟨86,[],.int .i64 ((i : Nat) : Int)⟩,⟨1,[],.slice ba 64 bc⟩,⟨3,[],pt b1⟩,⟨5,[],pt b2⟩,⟨6,[],pt b3⟩,⟨7,[],pt b4⟩,⟨22,[],.int .i64 ((i : Nat) : Int)⟩]) 11 0 kr (fun w h=>(h.erase 0)) kr ?_
    refine GH_pure (E':=[⟨99,[],.int .u32 (IntKind.wrap .u32 ((IntKind.wrap .u32 ((IntKind.wrap .u32 (((wsch (byt l) i).getD (i - 16) 0)+(sg0 ((wsch (byt l) i).getD (i - 15) 0))))+((wsch (byt l) i).getD (i - 7) 0)))+(sg1 ((wsch (byt l) i).getD (i - 2) 0))))⟩,⟨86,[],.int .i64 ((i : Nat) : Int)⟩,⟨1,[],.slice ba 64 bc⟩,⟨3,[],pt b1⟩,⟨5,[],pt b2⟩,⟨6,[],pt b3⟩,⟨7,[],pt b4⟩,⟨22,[],.int .i64 ((i : Nat) : Int)⟩]) 13 0 kr (fun w h=>(h.erase 0)) kr ?_
    refine GH_take' (E':=[⟨100,[],.pointer (some ⟨b4,0+Int.toNat ((i : Nat) : Int) * 1,none⟩)⟩,⟨99,[],.int .u32 (IntKind.wrap .u32 ((IntKind.wrap .u32 ((IntKind.wrap .u32 (((wsch (byt l) i).getD (i - 16) 0)+(sg0 ((wsch (byt l) i).getD (i - 15) 0))))+((wsch (byt l) i).getD (i - 7) 0)))+(sg1 ((wsch (byt l) i).getD (i - 2) 0))))⟩,⟨86,[],.int .i64 ((i : Nat) : Int)⟩,⟨1,[],.slice ba 64 bc⟩,⟨3,[],pt b1⟩,⟨5,[],pt b2⟩,⟨6,[],pt b3⟩,⟨7,[],pt b4⟩,⟨22,[],.int .i64 ((i : Nat) : Int)⟩]) 14 kr (fun w h=>(h.erase 0)) ?_ ?_
    ·
     refine GL_indexArr (i:=14) (ch:=[]) (b:=b4) (off:=0) (len:=64) (sz:=1) (e:=144) (kd:=.i64) (j:=((i : Nat) : Int)) rfl rfl kr kr kr kr kr kr kr (fun _=>by exact ⟨by omega,by omega⟩) ?_
     exact GL_yend kr kr
    refine GH_eff 15 kr kr kr ?_
    refine GL_store (i:=15) (ch:=[]) (b:=b4) (off:=0+Int.toNat ((i : Nat) : Int) * 1) (v:=.int .u32 (IntKind.wrap .u32 ((IntKind.wrap .u32 ((IntKind.wrap .u32 (((wsch (byt l) i).getD (i - 16) 0)+(sg0 ((wsch (byt l) i).getD (i - 15) 0))))+((wsch (byt l) i).getD (i - 7) 0)))+(sg1 ((wsch (byt l) i).getD (i - 2) 0))))) (c:=(wArr (byt l) i)) (c':=(wArr (byt l) (i+1))) (j:=0) (m:=0) (H':=([(b4,.cells (wArr (byt l) (i+1)) 171 (0,0))]::[(b3,.cells #[.int .u32 0,.int .u32 0,.int .u32 0,.int .u32 0,.int .u32 0,.int .u32 0,.int .u32 0,.int .u32 0] 169 (0,0))]::[(b2,.cells kArr 171 (0,0))]::[(b1,.cells #[.int .u32 s.a,.int .u32 s.b,.int .u32 s.c,.int .u32 s.d,.int .u32 s.e,.int .u32 s.f,.int .u32 s.g,.int .u32 s.h] 169 (0,0))]::H)) rfl rfl kr kr kr kr kr kr kr rfl rfl (by rw [wArr_size _ (by omega)]; show 0+Int.toNat _ * 1+1 ≤ 64; omega) (fun _ _=>thaw0) (wArr_set (byt l) (q:=((i : Nat) : Int)) (by omega) (by omega) (by rw [if_neg (by omega)] <;> rfl)) kr ?_
    refine GH_back kr (fun w h=>(h.erase 0)) ?_
    refine GH_done (E':=[⟨1,[],.slice ba 64 bc⟩,⟨3,[],pt b1⟩,⟨5,[],pt b2⟩,⟨6,[],pt b3⟩,⟨7,[],pt b4⟩,⟨22,[],.int .i64 ((i : Nat) : Int)⟩]) [1,3,5,6,7,22] kr kr ?_
    refine N_block ?_
    refine N_then ?_
    have hw20 : IntKind.wrap .i64 (((i : Nat) : Int) + 1) = ((i : Nat) : Int) + 1 := w64 (by omega) (by omega)
    refine G_pure (E':=[⟨1,[],.slice ba 64 bc⟩,⟨3,[],pt b1⟩,⟨5,[],pt b2⟩,⟨6,[],pt b3⟩,⟨7,[],pt b4⟩,⟨22,[],.int .i64 (((i : Nat) : Int)+1)⟩]) [0,0] [1,3,5,6,7,22] rfl (Eq.trans (b:=some [⟨1,[],.slice ba 64 bc⟩,⟨3,[],pt b1⟩,⟨5,[],pt b2⟩,⟨6,[],pt b3⟩,⟨7,[],pt b4⟩,⟨22,[],.int .i64 (IntKind.wrap .i64 (((i : Nat) : Int)+1))⟩]) kr (by simp only [hw20])) ?_
    refine N_round (s':=(i+1)) [1,3,5,6,7,22] kr rfl (by omega) (by omega)
 ·
  have hi2 : i = 64 := by (have h9 := of_decide_eq_false hc5; omega)
  refine G_exit ?_
  refine N_then_exit ?_
  refine N_then_exit ?_
  refine N_block_exit ?_
  refine N_then ?_
  refine G_seq ?_
  refine G_region ?_
  refine GL_loadA (i:=0) (ch:=[]) (b:=b1) (off:=0) (l:=[.int .u32 s.a,.int .u32 s.b,.int .u32 s.c,.int .u32 s.d,.int .u32 s.e,.int .u32 s.f,.int .u32 s.g,.int .u32 s.h]) rfl rfl kr kr kr kr kr kr (At.grp 3 0 rfl rfl) kr ?_
  refine GL_alloc (i:=1) (ch:=[]) (z:=.agg #[.int .u32 0,.int .u32 0,.int .u32 0,.int .u32 0,.int .u32 0,.int .u32 0,.int .u32 0,.int .u32 0]) rfl rfl kr kr kr kr (fun b21=>?_)
  refine GL_store (i:=2) (ch:=[]) (b:=b21) (off:=0) (v:=.agg #[.int .u32 s.a,.int .u32 s.b,.int .u32 s.c,.int .u32 s.d,.int .u32 s.e,.int .u32 s.f,.int .u32 s.g,.int .u32 s.h]) (c:=#[.int .u32 0,.int .u32 0,.int .u32 0,.int .u32 0,.int .u32 0,.int .u32 0,.int .u32 0,.int .u32 0]) (c':=#[.int .u32 s.a,.int .u32 s.b,.int .u32 s.c,.int .u32 s.d,.int .u32 s.e,.int .u32 s.f,.int .u32 s.g,.int .u32 s.h]) (j:=0) (m:=0) (H':=([(b21,.cells #[.int .u32 s.a,.int .u32 s.b,.int .u32 s.c,.int .u32 s.d,.int .u32 s.e,.int .u32 s.f,.int .u32 s.g,.int .u32 s.h] 169 (0,0))]::[(b4,.cells (wArr (byt l) i) 171 (0,0))]::[(b3,.cells #[.int .u32 0,.int .u32 0,.int .u32 0,.int .u32 0,.int .u32 0,.int .u32 0,.int .u32 0,.int .u32 0] 169 (0,0))]::[(b2,.cells kArr 171 (0,0))]::[(b1,.cells #[.int .u32 s.a,.int .u32 s.b,.int .u32 s.c,.int .u32 s.d,.int .u32 s.e,.int .u32 s.f,.int .u32 s.g,.int .u32 s.h] 169 (0,0))]::H)) rfl rfl kr kr kr kr kr kr kr rfl rfl (Nat.le_of_ble_eq_true rfl) (fun _ _=>thaw0) kr kr ?_
  refine GL_fin (E':=[⟨3,[],pt b1⟩,⟨5,[],pt b2⟩,⟨6,[],pt b3⟩,⟨7,[],pt b4⟩,⟨13,[],pt b21⟩]) [] [3,5,6,7,13] rfl kr ?_
  refine N_then ?_
  refine G_seq ?_
  refine G_seq ?_
  refine G_pure (E':=[⟨3,[],pt b1⟩,⟨5,[],pt b2⟩,⟨6,[],pt b3⟩,⟨7,[],pt b4⟩,⟨13,[],pt b21⟩,⟨103,[],.int .i64 0⟩]) [0] [3,5,6,7,13,103] rfl kr ?_
  refine N_then ?_
  refine G_block ?_
  refine G_loop (EI:=(fun ξ : Nat=>[⟨3,[],pt b1⟩,⟨5,[],pt b2⟩,⟨6,[],pt b3⟩,⟨7,[],pt b4⟩,⟨13,[],pt b21⟩,⟨103,[],.int .i64 ((ξ : Nat) : Int)⟩])) (HI:=(fun ξ : Nat=>([(b21,.cells #[.int .u32 ((rnds kAt (wAt (byt l)) s ξ).a),.int .u32 ((rnds kAt (wAt (byt l)) s ξ).b),.int .u32 ((rnds kAt (wAt (byt l)) s ξ).c),.int .u32 ((rnds kAt (wAt (byt l)) s ξ).d),.int .u32 ((rnds kAt (wAt (byt l)) s ξ).e),.int .u32 ((rnds kAt (wAt (byt l)) s ξ).f),.int .u32 ((rnds kAt (wAt (byt l)) s ξ).g),.int .u32 ((rnds kAt (wAt (byt l)) s ξ).h)] 169 (0,0))]::[(b4,.cells (wArr (byt l) 64) 171 (0,0))]::[(b3,.cells #[.int .u32 0,.int .u32 0,.int .u32 0,.int .u32 0,.int .u32 0,.int .u32 0,.int .u32 0,.int .u32 0] 169 (0,0))]::[(b2,.cells kArr 171 (0,0))]::[(b1,.cells #[.int .u32 s.a,.int .u32 s.b,.int .u32 s.c,.int .u32 s.d,.int .u32 s.e,.int .u32 s.f,.int .u32 s.g,.int .u32 s.h] 169 (0,0))]::H))) (Φ:=(fun ξ : Nat=>(ξ ≤ 64))) (μ:=(fun ξ : Nat=>64 - ξ)) (s0:=(0)) [3,5,6,7,13,103] kr (by rw [hi2]; kernel_rfl) (by omega) ?_
  rintro i hi
  refine G_seq ?_
  refine G_pure (E':=[⟨3,[],pt b1⟩,⟨5,[],pt b2⟩,⟨6,[],pt b3⟩,⟨7,[],pt b4⟩,⟨13,[],pt b21⟩,⟨103,[],.int .i64 ((i : Nat) : Int)⟩,⟨104,[],.bool (decide (((i : Nat) : Int) < 64))⟩]) [0] [3,5,6,7,13,103,104] rfl kr ?_
  refine N_then ?_
  refine G_seq ?_
  refine G_cond (b:=decide (((i : Nat) : Int) < 64)) kr (fun hc22=>?_) (fun hc22=>?_)
  ·
   replace hc22 := of_decide_eq_true hc22
   refine G_skip ?_
   refine N_then ?_
   refine G_seq ?_
   refine G_block ?_
   refine G_seq ?_
   refine G_pure (E':=[⟨3,[],pt b1⟩,⟨5,[],pt b2⟩,⟨6,[],pt b3⟩,⟨7,[],pt b4⟩,⟨13,[],pt b21⟩,⟨14,[],.int .i64 ((i : Nat) : Int)⟩,⟨103,[],.int .i64 ((i : Nat) : Int)⟩]) [0,0] [3,5,6,7,13,14,103] rfl kr ?_
   refine N_then ?_
   refine G_seq ?_
   refine G_regionD kr kr ?_
   refine GL_indexArr (i:=0) (ch:=[]) (b:=b21) (off:=0) (len:=8) (sz:=1) (e:=144) (kd:=.i64) (j:=4) rfl rfl kr kr kr kr kr kr kr (fun _=>⟨by decide,by decide⟩) ?_
   refine GL_load (i:=1) (ch:=[]) (b:=b21) (off:=4) (v:=.int .u32 ((rnds kAt (wAt (byt l)) s i).e)) rfl rfl kr kr kr kr kr (At.grp 0 0 rfl rfl) rfl ?_
   refine GL_indexArr (i:=2) (ch:=[]) (b:=b21) (off:=0) (len:=8) (sz:=1) (e:=144) (kd:=.i64) (j:=0) rfl rfl kr kr kr kr kr kr kr (fun _=>⟨by decide,by decide⟩) ?_
   refine GL_load (i:=3) (ch:=[]) (b:=b21) (off:=0) (v:=.int .u32 ((rnds kAt (wAt (byt l)) s i).a)) rfl rfl kr kr kr kr kr (At.grp 0 0 rfl rfl) rfl ?_
   refine GL_fin (E':=[⟨3,[],pt b1⟩,⟨5,[],pt b2⟩,⟨6,[],pt b3⟩,⟨7,[],pt b4⟩,⟨13,[],pt b21⟩,⟨14,[],.int .i64 ((i : Nat) : Int)⟩,⟨15,[],.int .u32 ((rnds kAt (wAt (byt l)) s i).e)⟩,⟨16,[],.int .u32 ((rnds kAt (wAt (byt l)) s i).a)⟩,⟨103,[],.int .i64 ((i : Nat) : Int)⟩]) [0,0] [3,5,6,7,13,14,15,16,103] rfl kr ?_
   refine N_then ?_
   refine G_seq ?_
   refine G_region ?_
   refine GL_pure (E':=[⟨110,[],.int .u32 ((rnds kAt (wAt (byt l)) s i).e)⟩,⟨3,[],pt b1⟩,⟨5,[],pt b2⟩,⟨6,[],pt b3⟩,⟨7,[],pt b4⟩,⟨13,[],pt b21⟩,⟨14,[],.int .i64 ((i : Nat) : Int)⟩,⟨15,[],.int .u32 ((rnds kAt (wAt (byt l)) s i).e)⟩,⟨16,[],.int .u32 ((rnds kAt (wAt (byt l)) s i).a)⟩,⟨103,[],.int .i64 ((i : Nat) : Int)⟩]) [0] kr (j:=1) rfl ?_
   refine GL_callQ (i:=1) (ch:=[]) (f:=140) (fst:=#[]) (caps:=#[]) (vs:=[.int .u32 ((rnds kAt (wAt (byt l)) s i).e),.int .i64 (-6)]) (v:=.int .u32 (rotr ((rnds kAt (wAt (byt l)) s i).e) 6)) rfl rfl rfl kr kr Tryz.func140 rfl rfl kr kr kr (fun _=>rot6 ((rnds kAt (wAt (byt l)) s i).e) _ _) ?_
   refine GL_pure (E':=[⟨112,[],.int .u32 ((rnds kAt (wAt (byt l)) s i).e)⟩,⟨111,[],.int .u32 (rotr ((rnds kAt (wAt (byt l)) s i).e) 6)⟩,⟨3,[],pt b1⟩,⟨5,[],pt b2⟩,⟨6,[],pt b3⟩,⟨7,[],pt b4⟩,⟨13,[],pt b21⟩,⟨14,[],.int .i64 ((i : Nat) : Int)⟩,⟨15,[],.int .u32 ((rnds kAt (wAt (byt l)) s i).e)⟩,⟨16,[],.int .u32 ((rnds kAt (wAt (byt l)) s i).a)⟩,⟨103,[],.int .i64 ((i : Nat) : Int)⟩]) [0] kr (j:=3) rfl ?_
   refine GL_callQ (i:=3) (ch:=[]) (f:=140) (fst:=#[]) (caps:=#[]) (vs:=[.int .u32 ((rnds kAt (wAt (byt l)) s i).e),.int .i64 (-11)]) (v:=.int .u32 (rotr ((rnds kAt (wAt (byt l)) s i).e) 11)) rfl rfl rfl kr kr Tryz.func140 rfl rfl kr kr kr (fun _=>rot11 ((rnds kAt (wAt (byt l)) s i).e) _ _) ?_
   refine GL_pure (E':=[⟨115,[],.int .u32 ((rnds kAt (wAt (byt l)) s i).e)⟩,⟨114,[],.int .u32 (IntKind.wrap .u32 ((BitVec.ofInt (IntKind.bits .u32) (rotr ((rnds kAt (wAt (byt l)) s i).e) 6) ^^^ BitVec.ofInt (IntKind.bits .u32) (rotr ((rnds kAt (wAt (byt l)) s i).e) 11)).toNat))⟩,⟨3,[],pt b1⟩,⟨5,[],pt b2⟩,⟨6,[],pt b3⟩,⟨7,[],pt b4⟩,⟨13,[],pt b21⟩,⟨14,[],.int .i64 ((i : Nat) : Int)⟩,⟨15,[],.int .u32 ((rnds kAt (wAt (byt l)) s i).e)⟩,⟨16,[],.int .u32 ((rnds kAt (wAt (byt l)) s i).a)⟩,⟨103,[],.int .i64 ((i : Nat) : Int)⟩]) [0,0] kr (j:=6) rfl ?_
   refine GL_callQ (i:=6) (ch:=[]) (f:=140) (fst:=#[]) (caps:=#[]) (vs:=[.int .u32 ((rnds kAt (wAt (byt l)) s i).e),.int .i64 (-25)]) (v:=.int .u32 (rotr ((rnds kAt (wAt (byt l)) s i).e) 25)) rfl rfl rfl kr kr Tryz.func140 rfl rfl kr kr kr (fun _=>rot25 ((rnds kAt (wAt (byt l)) s i).e) _ _) ?_
   refine GL_fin (E':=[⟨3,[],pt b1⟩,⟨5,[],pt b2⟩,⟨6,[],pt b3⟩,⟨7,[],pt b4⟩,⟨13,[],pt b21⟩,⟨14,[],.int .i64 ((i : Nat) : Int)⟩,⟨15,[],.int .u32 ((rnds kAt (wAt (byt l)) s i).e)⟩,⟨16,[],.int .u32 ((rnds kAt (wAt (byt l)) s i).a)⟩,⟨17,[],.int .u32 (IntKind.wrap .u32 ((BitVec.ofInt (IntKind.bits .u32) (IntKind.wrap .u32 ((BitVec.ofInt (IntKind.bits .u32) (rotr ((rnds kAt (wAt (byt l)) s i).e) 6) ^^^ BitVec.ofInt (IntKind.bits .u32) (rotr ((rnds kAt (wAt (byt l)) s i).e) 11)).toNat)) ^^^ BitVec.ofInt (IntKind.bits .u32) (rotr ((rnds kAt (wAt (byt l)) s i).e) 25)).toNat))⟩,⟨103,[],.int .i64 ((i : Nat) : Int)⟩]) [0,0] [3,5,6,7,13,14,15,16,17,103] rfl kr ?_
   refine N_env (E':=[⟨3,[],pt b1⟩,⟨5,[],pt b2⟩,⟨6,[],pt b3⟩,⟨7,[],pt b4⟩,⟨13,[],pt b21⟩,⟨14,[],.int .i64 ((i : Nat) : Int)⟩,⟨15,[],.int .u32 ((rnds kAt (wAt (byt l)) s i).e)⟩,⟨16,[],.int .u32 ((rnds kAt (wAt (byt l)) s i).a)⟩,⟨17,[],.int .u32 (bs1 (rnds kAt (wAt (byt l)) s i).e)⟩,⟨103,[],.int .i64 ((i : Nat) : Int)⟩]) kr ?_
   refine N_then ?_
   refine G_seq ?_
   refine G_regionD kr kr ?_
   refine GL_indexArr (i:=0) (ch:=[]) (b:=b21) (off:=0) (len:=8) (sz:=1) (e:=144) (kd:=.i64) (j:=7) rfl rfl kr kr kr kr kr kr kr (fun _=>⟨by decide,by decide⟩) ?_
   refine GL_load (i:=1) (ch:=[]) (b:=b21) (off:=7) (v:=.int .u32 ((rnds kAt (wAt (byt l)) s i).h)) rfl rfl kr kr kr kr kr (At.grp 0 0 rfl rfl) rfl ?_
   refine GL_pure (E':=[⟨122,[],.int .u32 ((rnds kAt (wAt (byt l)) s i).e)⟩,⟨121,[],.int .u32 (IntKind.wrap .u32 (((rnds kAt (wAt (byt l)) s i).h)+(bs1 (rnds kAt (wAt (byt l)) s i).e)))⟩,⟨3,[],pt b1⟩,⟨5,[],pt b2⟩,⟨6,[],pt b3⟩,⟨7,[],pt b4⟩,⟨13,[],pt b21⟩,⟨14,[],.int .i64 ((i : Nat) : Int)⟩,⟨15,[],.int .u32 ((rnds kAt (wAt (byt l)) s i).e)⟩,⟨16,[],.int .u32 ((rnds kAt (wAt (byt l)) s i).a)⟩,⟨103,[],.int .i64 ((i : Nat) : Int)⟩]) [0,0,0] kr (j:=5) rfl ?_
   refine GL_indexArr (i:=5) (ch:=[]) (b:=b21) (off:=0) (len:=8) (sz:=1) (e:=144) (kd:=.i64) (j:=5) rfl rfl kr kr kr kr kr kr kr (fun _=>⟨by decide,by decide⟩) ?_
   refine GL_load (i:=6) (ch:=[]) (b:=b21) (off:=5) (v:=.int .u32 ((rnds kAt (wAt (byt l)) s i).f)) rfl rfl kr kr kr kr kr (At.grp 0 0 rfl rfl) rfl ?_
   refine GL_pure (E':=[⟨127,[],.int .u32 (IntKind.wrap .u32 ((BitVec.ofInt (IntKind.bits .u32) 4294967295 ^^^ BitVec.ofInt (IntKind.bits .u32) ((rnds kAt (wAt (byt l)) s i).e)).toNat))⟩,⟨125,[],.int .u32 (IntKind.wrap .u32 ((BitVec.ofInt (IntKind.bits .u32) ((rnds kAt (wAt (byt l)) s i).e) &&& BitVec.ofInt (IntKind.bits .u32) ((rnds kAt (wAt (byt l)) s i).f)).toNat))⟩,⟨121,[],.int .u32 (IntKind.wrap .u32 (((rnds kAt (wAt (byt l)) s i).h)+(bs1 (rnds kAt (wAt (byt l)) s i).e)))⟩,⟨3,[],pt b1⟩,⟨5,[],pt b2⟩,⟨6,[],pt b3⟩,⟨7,[],pt b4⟩,⟨13,[],pt b21⟩,⟨14,[],.int .i64 ((i : Nat) : Int)⟩,⟨16,[],.int .u32 ((rnds kAt (wAt (byt l)) s i).a)⟩,⟨103,[],.int .i64 ((i : Nat) : Int)⟩]) [0,0,0] kr (j:=10) rfl ?_
   refine GL_indexArr (i:=10) (ch:=[]) (b:=b21) (off:=0) (len:=8) (sz:=1) (e:=144) (kd:=.i64) (j:=6) rfl rfl kr kr kr kr kr kr kr (fun _=>⟨by decide,by decide⟩) ?_
   refine GL_load (i:=11) (ch:=[]) (b:=b21) (off:=6) (v:=.int .u32 ((rnds kAt (wAt (byt l)) s i).g)) rfl rfl kr kr kr kr kr (At.grp 0 0 rfl rfl) rfl ?_
   refine GL_pure (E':=[⟨133,[],.int .i64 ((i : Nat) : Int)⟩,⟨132,[],.int .u32 (IntKind.wrap .u32 ((IntKind.wrap .u32 (((rnds kAt (wAt (byt l)) s i).h)+(bs1 (rnds kAt (wAt (byt l)) s i).e)))+(IntKind.wrap .u32 ((BitVec.ofInt (IntKind.bits .u32) (IntKind.wrap .u32 ((BitVec.ofInt (IntKind.bits .u32) ((rnds kAt (wAt (byt l)) s i).e) &&& BitVec.ofInt (IntKind.bits .u32) ((rnds kAt (wAt (byt l)) s i).f)).toNat)) ^^^ BitVec.ofInt (IntKind.bits .u32) (IntKind.wrap .u32 ((BitVec.ofInt (IntKind.bits .u32) (IntKind.wrap .u32 ((BitVec.ofInt (IntKind.bits .u32) 4294967295 ^^^ BitVec.ofInt (IntKind.bits .u32) ((rnds kAt (wAt (byt l)) s i).e)).toNat)) &&& BitVec.ofInt (IntKind.bits .u32) ((rnds kAt (wAt (byt l)) s i).g)).toNat))).toNat))))⟩,⟨3,[],pt b1⟩,⟨5,[],pt b2⟩,⟨6,[],pt b3⟩,⟨7,[],pt b4⟩,⟨13,[],pt b21⟩,⟨14,[],.int .i64 ((i : Nat) : Int)⟩,⟨16,[],.int .u32 ((rnds kAt (wAt (byt l)) s i).a)⟩,⟨103,[],.int .i64 ((i : Nat) : Int)⟩]) [0,0,0,0] kr (j:=16) rfl ?_
   refine GL_indexArr (i:=16) (ch:=[]) (b:=b2) (off:=0) (len:=64) (sz:=1) (e:=144) (kd:=.i64) (j:=((i : Nat) : Int)) rfl rfl kr kr kr kr kr kr kr (fun _=>by exact ⟨by omega,by omega⟩) ?_
   refine GL_load (i:=17) (ch:=[]) (b:=b2) (off:=0+Int.toNat ((i : Nat) : Int) * 1) (v:=.int .u32 (kAt i)) rfl rfl kr kr kr kr kr (At.grp 3 0 rfl rfl) (kArr_at (q:=((i : Nat) : Int)) (j:=i) (by omega) (by omega)) ?_
   refine GL_pure (E':=[⟨137,[],.int .i64 ((i : Nat) : Int)⟩,⟨136,[],.int .u32 (IntKind.wrap .u32 ((IntKind.wrap .u32 ((IntKind.wrap .u32 (((rnds kAt (wAt (byt l)) s i).h)+(bs1 (rnds kAt (wAt (byt l)) s i).e)))+(IntKind.wrap .u32 ((BitVec.ofInt (IntKind.bits .u32) (IntKind.wrap .u32 ((BitVec.ofInt (IntKind.bits .u32) ((rnds kAt (wAt (byt l)) s i).e) &&& BitVec.ofInt (IntKind.bits .u32) ((rnds kAt (wAt (byt l)) s i).f)).toNat)) ^^^ BitVec.ofInt (IntKind.bits .u32) (IntKind.wrap .u32 ((BitVec.ofInt (IntKind.bits .u32) (IntKind.wrap .u32 ((BitVec.ofInt (IntKind.bits .u32) 4294967295 ^^^ BitVec.ofInt (IntKind.bits .u32) ((rnds kAt (wAt (byt l)) s i).e)).toNat)) &&& BitVec.ofInt (IntKind.bits .u32) ((rnds kAt (wAt (byt l)) s i).g)).toNat))).toNat))))+(kAt i)))⟩,⟨3,[],pt b1⟩,⟨5,[],pt b2⟩,⟨6,[],pt b3⟩,⟨7,[],pt b4⟩,⟨13,[],pt b21⟩,⟨16,[],.int .u32 ((rnds kAt (wAt (byt l)) s i).a)⟩,⟨103,[],.int .i64 ((i : Nat) : Int)⟩]) [0,0] kr (j:=20) rfl ?_
   refine GL_indexArr (i:=20) (ch:=[]) (b:=b4) (off:=0) (len:=64) (sz:=1) (e:=144) (kd:=.i64) (j:=((i : Nat) : Int)) rfl rfl kr kr kr kr kr kr kr (fun _=>by exact ⟨by omega,by omega⟩) ?_
   refine GL_load (i:=21) (ch:=[]) (b:=b4) (off:=0+Int.toNat ((i : Nat) : Int) * 1) (v:=.int .u32 (wAt (byt l) i)) rfl rfl kr kr kr kr kr (At.grp 1 0 rfl rfl) (wArr_at (byt l) (q:=((i : Nat) : Int)) (j:=i) (by omega) (by omega)) ?_
   refine GL_fin (E':=[⟨3,[],pt b1⟩,⟨5,[],pt b2⟩,⟨6,[],pt b3⟩,⟨7,[],pt b4⟩,⟨13,[],pt b21⟩,⟨16,[],.int .u32 ((rnds kAt (wAt (byt l)) s i).a)⟩,⟨18,[],.int .u32 (IntKind.wrap .u32 ((IntKind.wrap .u32 ((IntKind.wrap .u32 ((IntKind.wrap .u32 (((rnds kAt (wAt (byt l)) s i).h)+(bs1 (rnds kAt (wAt (byt l)) s i).e)))+(IntKind.wrap .u32 ((BitVec.ofInt (IntKind.bits .u32) (IntKind.wrap .u32 ((BitVec.ofInt (IntKind.bits .u32) ((rnds kAt (wAt (byt l)) s i).e) &&& BitVec.ofInt (IntKind.bits .u32) ((rnds kAt (wAt (byt l)) s i).f)).toNat)) ^^^ BitVec.ofInt (IntKind.bits .u32) (IntKind.wrap .u32 ((BitVec.ofInt (IntKind.bits .u32) (IntKind.wrap .u32 ((BitVec.ofInt (IntKind.bits .u32) 4294967295 ^^^ BitVec.ofInt (IntKind.bits .u32) ((rnds kAt (wAt (byt l)) s i).e)).toNat)) &&& BitVec.ofInt (IntKind.bits .u32) ((rnds kAt (wAt (byt l)) s i).g)).toNat))).toNat))))+(kAt i)))+(wAt (byt l) i)))⟩,⟨103,[],.int .i64 ((i : Nat) : Int)⟩]) [0,0] [3,5,6,7,13,16,18,103] rfl kr ?_
   refine N_env (E':=[⟨3,[],pt b1⟩,⟨5,[],pt b2⟩,⟨6,[],pt b3⟩,⟨7,[],pt b4⟩,⟨13,[],pt b21⟩,⟨16,[],.int .u32 ((rnds kAt (wAt (byt l)) s i).a)⟩,⟨18,[],.int .u32 (t1P (kAt i) (wAt (byt l) i) (rnds kAt (wAt (byt l)) s i))⟩,⟨103,[],.int .i64 ((i : Nat) : Int)⟩]) kr ?_
   refine N_then ?_
   refine G_seq ?_
   refine G_region ?_
   refine GL_pure (E':=[⟨141,[],.int .u32 ((rnds kAt (wAt (byt l)) s i).a)⟩,⟨3,[],pt b1⟩,⟨5,[],pt b2⟩,⟨6,[],pt b3⟩,⟨7,[],pt b4⟩,⟨13,[],pt b21⟩,⟨16,[],.int .u32 ((rnds kAt (wAt (byt l)) s i).a)⟩,⟨18,[],.int .u32 (t1P (kAt i) (wAt (byt l) i) (rnds kAt (wAt (byt l)) s i))⟩,⟨103,[],.int .i64 ((i : Nat) : Int)⟩]) [0] kr (j:=1) rfl ?_
   refine GL_callQ (i:=1) (ch:=[]) (f:=140) (fst:=#[]) (caps:=#[]) (vs:=[.int .u32 ((rnds kAt (wAt (byt l)) s i).a),.int .i64 (-2)]) (v:=.int .u32 (rotr ((rnds kAt (wAt (byt l)) s i).a) 2)) rfl rfl rfl kr kr Tryz.func140 rfl rfl kr kr kr (fun _=>rot2 ((rnds kAt (wAt (byt l)) s i).a) _ _) ?_
   refine GL_pure (E':=[⟨143,[],.int .u32 ((rnds kAt (wAt (byt l)) s i).a)⟩,⟨142,[],.int .u32 (rotr ((rnds kAt (wAt (byt l)) s i).a) 2)⟩,⟨3,[],pt b1⟩,⟨5,[],pt b2⟩,⟨6,[],pt b3⟩,⟨7,[],pt b4⟩,⟨13,[],pt b21⟩,⟨16,[],.int .u32 ((rnds kAt (wAt (byt l)) s i).a)⟩,⟨18,[],.int .u32 (t1P (kAt i) (wAt (byt l) i) (rnds kAt (wAt (byt l)) s i))⟩,⟨103,[],.int .i64 ((i : Nat) : Int)⟩]) [0] kr (j:=3) rfl ?_
   refine GL_callQ (i:=3) (ch:=[]) (f:=140) (fst:=#[]) (caps:=#[]) (vs:=[.int .u32 ((rnds kAt (wAt (byt l)) s i).a),.int .i64 (-13)]) (v:=.int .u32 (rotr ((rnds kAt (wAt (byt l)) s i).a) 13)) rfl rfl rfl kr kr Tryz.func140 rfl rfl kr kr kr (fun _=>rot13 ((rnds kAt (wAt (byt l)) s i).a) _ _) ?_
   refine GL_pure (E':=[⟨146,[],.int .u32 ((rnds kAt (wAt (byt l)) s i).a)⟩,⟨145,[],.int .u32 (IntKind.wrap .u32 ((BitVec.ofInt (IntKind.bits .u32) (rotr ((rnds kAt (wAt (byt l)) s i).a) 2) ^^^ BitVec.ofInt (IntKind.bits .u32) (rotr ((rnds kAt (wAt (byt l)) s i).a) 13)).toNat))⟩,⟨3,[],pt b1⟩,⟨5,[],pt b2⟩,⟨6,[],pt b3⟩,⟨7,[],pt b4⟩,⟨13,[],pt b21⟩,⟨16,[],.int .u32 ((rnds kAt (wAt (byt l)) s i).a)⟩,⟨18,[],.int .u32 (t1P (kAt i) (wAt (byt l) i) (rnds kAt (wAt (byt l)) s i))⟩,⟨103,[],.int .i64 ((i : Nat) : Int)⟩]) [0,0] kr (j:=6) rfl ?_
   refine GL_callQ (i:=6) (ch:=[]) (f:=140) (fst:=#[]) (caps:=#[]) (vs:=[.int .u32 ((rnds kAt (wAt (byt l)) s i).a),.int .i64 (-22)]) (v:=.int .u32 (rotr ((rnds kAt (wAt (byt l)) s i).a) 22)) rfl rfl rfl kr kr Tryz.func140 rfl rfl kr kr kr (fun _=>rot22 ((rnds kAt (wAt (byt l)) s i).a) _ _) ?_
   refine GL_fin (E':=[⟨3,[],pt b1⟩,⟨5,[],pt b2⟩,⟨6,[],pt b3⟩,⟨7,[],pt b4⟩,⟨13,[],pt b21⟩,⟨16,[],.int .u32 ((rnds kAt (wAt (byt l)) s i).a)⟩,⟨18,[],.int .u32 (t1P (kAt i) (wAt (byt l) i) (rnds kAt (wAt (byt l)) s i))⟩,⟨19,[],.int .u32 (IntKind.wrap .u32 ((BitVec.ofInt (IntKind.bits .u32) (IntKind.wrap .u32 ((BitVec.ofInt (IntKind.bits .u32) (rotr ((rnds kAt (wAt (byt l)) s i).a) 2) ^^^ BitVec.ofInt (IntKind.bits .u32) (rotr ((rnds kAt (wAt (byt l)) s i).a) 13)).toNat)) ^^^ BitVec.ofInt (IntKind.bits .u32) (rotr ((rnds kAt (wAt (byt l)) s i).a) 22)).toNat))⟩,⟨103,[],.int .i64 ((i : Nat) : Int)⟩]) [0,0] [3,5,6,7,13,16,18,19,103] rfl kr ?_
   refine N_env (E':=[⟨3,[],pt b1⟩,⟨5,[],pt b2⟩,⟨6,[],pt b3⟩,⟨7,[],pt b4⟩,⟨13,[],pt b21⟩,⟨16,[],.int .u32 ((rnds kAt (wAt (byt l)) s i).a)⟩,⟨18,[],.int .u32 (t1P (kAt i) (wAt (byt l) i) (rnds kAt (wAt (byt l)) s i))⟩,⟨19,[],.int .u32 (bs0 (rnds kAt (wAt (byt l)) s i).a)⟩,⟨103,[],.int .i64 ((i : Nat) : Int)⟩]) kr ?_
   refine N_then ?_
   refine G_seq ?_
   refine G_region ?_
   refine GL_pure (E':=[⟨150,[],.int .u32 ((rnds kAt (wAt (byt l)) s i).a)⟩,⟨149,[],.int .u32 (bs0 (rnds kAt (wAt (byt l)) s i).a)⟩,⟨3,[],pt b1⟩,⟨5,[],pt b2⟩,⟨6,[],pt b3⟩,⟨7,[],pt b4⟩,⟨13,[],pt b21⟩,⟨16,[],.int .u32 ((rnds kAt (wAt (byt l)) s i).a)⟩,⟨18,[],.int .u32 (t1P (kAt i) (wAt (byt l) i) (rnds kAt (wAt (byt l)) s i))⟩,⟨103,[],.int .i64 ((i : Nat) : Int)⟩]) [0,0] kr (j:=2) rfl ?_
   refine GL_indexArr (i:=2) (ch:=[]) (b:=b21) (off:=0) (len:=8) (sz:=1) (e:=144) (kd:=.i64) (j:=1) rfl rfl kr kr kr kr kr kr kr (fun _=>⟨by decide,by decide⟩) ?_
   refine GL_load (i:=3) (ch:=[]) (b:=b21) (off:=1) (v:=.int .u32 ((rnds kAt (wAt (byt l)) s i).b)) rfl rfl kr kr kr kr kr (At.grp 0 0 rfl rfl) rfl ?_
   refine GL_pure (E':=[⟨154,[],.int .u32 ((rnds kAt (wAt (byt l)) s i).a)⟩,⟨153,[],.int .u32 (IntKind.wrap .u32 ((BitVec.ofInt (IntKind.bits .u32) ((rnds kAt (wAt (byt l)) s i).a) &&& BitVec.ofInt (IntKind.bits .u32) ((rnds kAt (wAt (byt l)) s i).b)).toNat))⟩,⟨149,[],.int .u32 (bs0 (rnds kAt (wAt (byt l)) s i).a)⟩,⟨3,[],pt b1⟩,⟨5,[],pt b2⟩,⟨6,[],pt b3⟩,⟨7,[],pt b4⟩,⟨13,[],pt b21⟩,⟨18,[],.int .u32 (t1P (kAt i) (wAt (byt l) i) (rnds kAt (wAt (byt l)) s i))⟩,⟨103,[],.int .i64 ((i : Nat) : Int)⟩]) [0,0] kr (j:=6) rfl ?_
   refine GL_indexArr (i:=6) (ch:=[]) (b:=b21) (off:=0) (len:=8) (sz:=1) (e:=144) (kd:=.i64) (j:=2) rfl rfl kr kr kr kr kr kr kr (fun _=>⟨by decide,by decide⟩) ?_
   refine GL_load (i:=7) (ch:=[]) (b:=b21) (off:=2) (v:=.int .u32 ((rnds kAt (wAt (byt l)) s i).c)) rfl rfl kr kr kr kr kr (At.grp 0 0 rfl rfl) rfl ?_
   refine GL_pure (E':=[⟨158,[],.int .u32 (IntKind.wrap .u32 ((BitVec.ofInt (IntKind.bits .u32) (IntKind.wrap .u32 ((BitVec.ofInt (IntKind.bits .u32) ((rnds kAt (wAt (byt l)) s i).a) &&& BitVec.ofInt (IntKind.bits .u32) ((rnds kAt (wAt (byt l)) s i).b)).toNat)) ^^^ BitVec.ofInt (IntKind.bits .u32) (IntKind.wrap .u32 ((BitVec.ofInt (IntKind.bits .u32) ((rnds kAt (wAt (byt l)) s i).a) &&& BitVec.ofInt (IntKind.bits .u32) ((rnds kAt (wAt (byt l)) s i).c)).toNat))).toNat))⟩,⟨149,[],.int .u32 (bs0 (rnds kAt (wAt (byt l)) s i).a)⟩,⟨3,[],pt b1⟩,⟨5,[],pt b2⟩,⟨6,[],pt b3⟩,⟨7,[],pt b4⟩,⟨13,[],pt b21⟩,⟨18,[],.int .u32 (t1P (kAt i) (wAt (byt l) i) (rnds kAt (wAt (byt l)) s i))⟩,⟨103,[],.int .i64 ((i : Nat) : Int)⟩]) [0,0] kr (j:=10) rfl ?_
   refine GL_indexArr (i:=10) (ch:=[]) (b:=b21) (off:=0) (len:=8) (sz:=1) (e:=144) (kd:=.i64) (j:=1) rfl rfl kr kr kr kr kr kr kr (fun _=>⟨by decide,by decide⟩) ?_
   refine GL_load (i:=11) (ch:=[]) (b:=b21) (off:=1) (v:=.int .u32 ((rnds kAt (wAt (byt l)) s i).b)) rfl rfl kr kr kr kr kr (At.grp 0 0 rfl rfl) rfl ?_
   refine GL_indexArr (i:=12) (ch:=[]) (b:=b21) (off:=0) (len:=8) (sz:=1) (e:=144) (kd:=.i64) (j:=2) rfl rfl kr kr kr kr kr kr kr (fun _=>⟨by decide,by decide⟩) ?_
   refine GL_load (i:=13) (ch:=[]) (b:=b21) (off:=2) (v:=.int .u32 ((rnds kAt (wAt (byt l)) s i).c)) rfl rfl kr kr kr kr kr (At.grp 0 0 rfl rfl) rfl ?_
   refine GL_fin (E':=[⟨3,[],pt b1⟩,⟨5,[],pt b2⟩,⟨6,[],pt b3⟩,⟨7,[],pt b4⟩,⟨13,[],pt b21⟩,⟨18,[],.int .u32 (t1P (kAt i) (wAt (byt l) i) (rnds kAt (wAt (byt l)) s i))⟩,⟨20,[],.int .u32 (IntKind.wrap .u32 ((bs0 (rnds kAt (wAt (byt l)) s i).a)+(IntKind.wrap .u32 ((BitVec.ofInt (IntKind.bits .u32) (IntKind.wrap .u32 ((BitVec.ofInt (IntKind.bits .u32) (IntKind.wrap .u32 ((BitVec.ofInt (IntKind.bits .u32) ((rnds kAt (wAt (byt l)) s i).a) &&& BitVec.ofInt (IntKind.bits .u32) ((rnds kAt (wAt (byt l)) s i).b)).toNat)) ^^^ BitVec.ofInt (IntKind.bits .u32) (IntKind.wrap .u32 ((BitVec.ofInt (IntKind.bits .u32) ((rnds kAt (wAt (byt l)) s i).a) &&& BitVec.ofInt (IntKind.bits .u32) ((rnds kAt (wAt (byt l)) s i).c)).toNat))).toNat)) ^^^ BitVec.ofInt (IntKind.bits .u32) (IntKind.wrap .u32 ((BitVec.ofInt (IntKind.bits .u32) ((rnds kAt (wAt (byt l)) s i).b) &&& BitVec.ofInt (IntKind.bits .u32) ((rnds kAt (wAt (byt l)) s i).c)).toNat))).toNat))))⟩,⟨103,[],.int .i64 ((i : Nat) : Int)⟩]) [0,0,0,0] [3,5,6,7,13,18,20,103] rfl kr ?_
   refine N_env (E':=[⟨3,[],pt b1⟩,⟨5,[],pt b2⟩,⟨6,[],pt b3⟩,⟨7,[],pt b4⟩,⟨13,[],pt b21⟩,⟨18,[],.int .u32 (t1P (kAt i) (wAt (byt l) i) (rnds kAt (wAt (byt l)) s i))⟩,⟨20,[],.int .u32 (t2P (rnds kAt (wAt (byt l)) s i))⟩,⟨103,[],.int .i64 ((i : Nat) : Int)⟩]) kr ?_
   refine N_then ?_
   refine G_seq ?_
   refine G_regionH ([(b4,.cells (wArr (byt l) 64) 171 (0,0))]::[(b3,.cells #[.int .u32 0,.int .u32 0,.int .u32 0,.int .u32 0,.int .u32 0,.int .u32 0,.int .u32 0,.int .u32 0] 169 (0,0))]::[(b2,.cells kArr 171 (0,0))]::[(b1,.cells #[.int .u32 s.a,.int .u32 s.b,.int .u32 s.c,.int .u32 s.d,.int .u32 s.e,.int .u32 s.f,.int .u32 s.g,.int .u32 s.h] 169 (0,0))]::H) kr ?_
   refine GH_take' (E':=[⟨166,[],.slice (some ⟨b21,1,none⟩) 7 7⟩,⟨3,[],pt b1⟩,⟨5,[],pt b2⟩,⟨6,[],pt b3⟩,⟨7,[],pt b4⟩,⟨13,[],pt b21⟩,⟨18,[],.int .u32 (t1P (kAt i) (wAt (byt l) i) (rnds kAt (wAt (byt l)) s i))⟩,⟨20,[],.int .u32 (t2P (rnds kAt (wAt (byt l)) s i))⟩,⟨103,[],.int .i64 ((i : Nat) : Int)⟩]) 0 kr (fun w h=>(h.erase 0)) ?_ ?_
   ·
    refine GL_sliceArr (i:=0) (ch:=[]) (b:=b21) (off:=0) (len:=8) (sz:=1) (e:=144) (vl:=(some (.int .i64 1))) (vh:=none) (l:=1) (h:=8) rfl rfl kr kr kr kr kr kr kr kr kr kr (fun _=>by decide) ?_
    exact GL_yend kr kr
   refine GH_take' (E':=[⟨167,[],.slice (some ⟨b21,0,none⟩) 7 8⟩,⟨166,[],.slice (some ⟨b21,1,none⟩) 7 7⟩,⟨3,[],pt b1⟩,⟨5,[],pt b2⟩,⟨6,[],pt b3⟩,⟨7,[],pt b4⟩,⟨13,[],pt b21⟩,⟨18,[],.int .u32 (t1P (kAt i) (wAt (byt l) i) (rnds kAt (wAt (byt l)) s i))⟩,⟨20,[],.int .u32 (t2P (rnds kAt (wAt (byt l)) s i))⟩,⟨103,[],.int .i64 ((i : Nat) : Int)⟩]) 1 kr (fun w h=>(h.erase 0)) ?_ ?_
   ·
    refine GL_sliceArr (i:=1) (ch:=[]) (b:=b21) (off:=0) (len:=8) (sz:=1) (e:=144) (vl:=none) (vh:=(some (.int .i64 7))) (l:=0) (h:=7) rfl rfl kr kr kr kr kr kr kr kr kr kr (fun _=>by decide) ?_
    exact GL_yend kr kr
   refine GH_eff 2 kr kr kr ?_
   refine GL_copy (i:=2) (ch:=[]) (dT:=141) (sT:=141) (el:=144) (b:=b21) (o1:=1) (n1:=7) (c1:=7) (a:=⟨b21,0,none⟩) (n2:=7) (c2:=8) (c:=#[.int .u32 ((rnds kAt (wAt (byt l)) s i).a),.int .u32 ((rnds kAt (wAt (byt l)) s i).b),.int .u32 ((rnds kAt (wAt (byt l)) s i).c),.int .u32 ((rnds kAt (wAt (byt l)) s i).d),.int .u32 ((rnds kAt (wAt (byt l)) s i).e),.int .u32 ((rnds kAt (wAt (byt l)) s i).f),.int .u32 ((rnds kAt (wAt (byt l)) s i).g),.int .u32 ((rnds kAt (wAt (byt l)) s i).h)]) (c':=#[.int .u32 ((rnds kAt (wAt (byt l)) s i).a),.int .u32 ((rnds kAt (wAt (byt l)) s i).a),.int .u32 ((rnds kAt (wAt (byt l)) s i).b),.int .u32 ((rnds kAt (wAt (byt l)) s i).c),.int .u32 ((rnds kAt (wAt (byt l)) s i).d),.int .u32 ((rnds kAt (wAt (byt l)) s i).e),.int .u32 ((rnds kAt (wAt (byt l)) s i).f),.int .u32 ((rnds kAt (wAt (byt l)) s i).g)]) (j:=0) (m:=0) (H':=([(b21,.cells #[.int .u32 ((rnds kAt (wAt (byt l)) s i).a),.int .u32 ((rnds kAt (wAt (byt l)) s i).a),.int .u32 ((rnds kAt (wAt (byt l)) s i).b),.int .u32 ((rnds kAt (wAt (byt l)) s i).c),.int .u32 ((rnds kAt (wAt (byt l)) s i).d),.int .u32 ((rnds kAt (wAt (byt l)) s i).e),.int .u32 ((rnds kAt (wAt (byt l)) s i).f),.int .u32 ((rnds kAt (wAt (byt l)) s i).g)] 169 (0,0))]::[(b4,.cells (wArr (byt l) 64) 171 (0,0))]::[(b3,.cells #[.int .u32 0,.int .u32 0,.int .u32 0,.int .u32 0,.int .u32 0,.int .u32 0,.int .u32 0,.int .u32 0] 169 (0,0))]::[(b2,.cells kArr 171 (0,0))]::[(b1,.cells #[.int .u32 s.a,.int .u32 s.b,.int .u32 s.c,.int .u32 s.d,.int .u32 s.e,.int .u32 s.f,.int .u32 s.g,.int .u32 s.h] 169 (0,0))]::H)) [.int .u32 ((rnds kAt (wAt (byt l)) s i).a),.int .u32 ((rnds kAt (wAt (byt l)) s i).b),.int .u32 ((rnds kAt (wAt (byt l)) s i).c),.int .u32 ((rnds kAt (wAt (byt l)) s i).d),.int .u32 ((rnds kAt (wAt (byt l)) s i).e),.int .u32 ((rnds kAt (wAt (byt l)) s i).f),.int .u32 ((rnds kAt (wAt (byt l)) s i).g)] rfl rfl kr kr kr kr kr kr kr rfl rfl rfl (fun w hw k v hv=>cells_at (hw.has (b21,_) (List.mem_flatten.2 ⟨_,List.mem_of_getElem? (i:=0) rfl,List.mem_singleton.2 rfl⟩)) kr hv) (Nat.le_of_ble_eq_true rfl) kr kr kr ?_
   refine GH_back kr (fun w h=>(h.erase 0)) ?_
   refine GH_done (E':=[⟨3,[],pt b1⟩,⟨5,[],pt b2⟩,⟨6,[],pt b3⟩,⟨7,[],pt b4⟩,⟨13,[],pt b21⟩,⟨18,[],.int .u32 (t1P (kAt i) (wAt (byt l) i) (rnds kAt (wAt (byt l)) s i))⟩,⟨20,[],.int .u32 (t2P (rnds kAt (wAt (byt l)) s i))⟩,⟨103,[],.int .i64 ((i : Nat) : Int)⟩]) [3,5,6,7,13,18,20,103] kr kr ?_
   refine N_then ?_
   refine G_seq ?_
   refine G_region ?_
   refine GL_indexArr (i:=0) (ch:=[]) (b:=b21) (off:=0) (len:=8) (sz:=1) (e:=144) (kd:=.i64) (j:=4) rfl rfl kr kr kr kr kr kr kr (fun _=>⟨by decide,by decide⟩) ?_
   refine GL_load (i:=1) (ch:=[]) (b:=b21) (off:=4) (v:=.int .u32 ((rnds kAt (wAt (byt l)) s i).d)) rfl rfl kr kr kr kr kr (At.grp 0 0 rfl rfl) rfl ?_
   refine GL_pure (E':=[⟨172,[],.int .u32 (IntKind.wrap .u32 (((rnds kAt (wAt (byt l)) s i).d)+(t1P (kAt i) (wAt (byt l) i) (rnds kAt (wAt (byt l)) s i))))⟩,⟨3,[],pt b1⟩,⟨5,[],pt b2⟩,⟨6,[],pt b3⟩,⟨7,[],pt b4⟩,⟨13,[],pt b21⟩,⟨18,[],.int .u32 (t1P (kAt i) (wAt (byt l) i) (rnds kAt (wAt (byt l)) s i))⟩,⟨20,[],.int .u32 (t2P (rnds kAt (wAt (byt l)) s i))⟩,⟨103,[],.int .i64 ((i : Nat) : Int)⟩]) [0,0] kr (j:=4) rfl ?_
   refine GL_indexArr (i:=4) (ch:=[]) (b:=b21) (off:=0) (len:=8) (sz:=1) (e:=144) (kd:=.i64) (j:=4) rfl rfl kr kr kr kr kr kr kr (fun _=>⟨by decide,by decide⟩) ?_
   refine GL_store (i:=5) (ch:=[]) (b:=b21) (off:=4) (v:=.int .u32 (IntKind.wrap .u32 (((rnds kAt (wAt (byt l)) s i).d)+(t1P (kAt i) (wAt (byt l) i) (rnds kAt (wAt (byt l)) s i))))) (c:=#[.int .u32 ((rnds kAt (wAt (byt l)) s i).a),.int .u32 ((rnds kAt (wAt (byt l)) s i).a),.int .u32 ((rnds kAt (wAt (byt l)) s i).b),.int .u32 ((rnds kAt (wAt (byt l)) s i).c),.int .u32 ((rnds kAt (wAt (byt l)) s i).d),.int .u32 ((rnds kAt (wAt (byt l)) s i).e),.int .u32 ((rnds kAt (wAt (byt l)) s i).f),.int .u32 ((rnds kAt (wAt (byt l)) s i).g)]) (c':=#[.int .u32 ((rnds kAt (wAt (byt l)) s i).a),.int .u32 ((rnds kAt (wAt (byt l)) s i).a),.int .u32 ((rnds kAt (wAt (byt l)) s i).b),.int .u32 ((rnds kAt (wAt (byt l)) s i).c),.int .u32 (IntKind.wrap .u32 (((rnds kAt (wAt (byt l)) s i).d)+(t1P (kAt i) (wAt (byt l) i) (rnds kAt (wAt (byt l)) s i)))),.int .u32 ((rnds kAt (wAt (byt l)) s i).e),.int .u32 ((rnds kAt (wAt (byt l)) s i).f),.int .u32 ((rnds kAt (wAt (byt l)) s i).g)]) (j:=0) (m:=0) (H':=([(b21,.cells #[.int .u32 ((rnds kAt (wAt (byt l)) s i).a),.int .u32 ((rnds kAt (wAt (byt l)) s i).a),.int .u32 ((rnds kAt (wAt (byt l)) s i).b),.int .u32 ((rnds kAt (wAt (byt l)) s i).c),.int .u32 (IntKind.wrap .u32 (((rnds kAt (wAt (byt l)) s i).d)+(t1P (kAt i) (wAt (byt l) i) (rnds kAt (wAt (byt l)) s i)))),.int .u32 ((rnds kAt (wAt (byt l)) s i).e),.int .u32 ((rnds kAt (wAt (byt l)) s i).f),.int .u32 ((rnds kAt (wAt (byt l)) s i).g)] 169 (0,0))]::[(b4,.cells (wArr (byt l) 64) 171 (0,0))]::[(b3,.cells #[.int .u32 0,.int .u32 0,.int .u32 0,.int .u32 0,.int .u32 0,.int .u32 0,.int .u32 0,.int .u32 0] 169 (0,0))]::[(b2,.cells kArr 171 (0,0))]::[(b1,.cells #[.int .u32 s.a,.int .u32 s.b,.int .u32 s.c,.int .u32 s.d,.int .u32 s.e,.int .u32 s.f,.int .u32 s.g,.int .u32 s.h] 169 (0,0))]::H)) rfl rfl kr kr kr kr kr kr kr rfl rfl (Nat.le_of_ble_eq_true rfl) (fun _ _=>thaw0) kr kr ?_
   refine GL_fin (E':=[⟨3,[],pt b1⟩,⟨5,[],pt b2⟩,⟨6,[],pt b3⟩,⟨7,[],pt b4⟩,⟨13,[],pt b21⟩,⟨18,[],.int .u32 (t1P (kAt i) (wAt (byt l) i) (rnds kAt (wAt (byt l)) s i))⟩,⟨20,[],.int .u32 (t2P (rnds kAt (wAt (byt l)) s i))⟩,⟨103,[],.int .i64 ((i : Nat) : Int)⟩]) [] [3,5,6,7,13,18,20,103] rfl kr ?_
   refine N_then ?_
   refine G_region ?_
   refine GL_pure (E':=[⟨176,[],.int .u32 (IntKind.wrap .u32 ((t1P (kAt i) (wAt (byt l) i) (rnds kAt (wAt (byt l)) s i))+(t2P (rnds kAt (wAt (byt l)) s i))))⟩,⟨3,[],pt b1⟩,⟨5,[],pt b2⟩,⟨6,[],pt b3⟩,⟨7,[],pt b4⟩,⟨13,[],pt b21⟩,⟨103,[],.int .i64 ((i : Nat) : Int)⟩]) [0,0,0] kr (j:=3) rfl ?_
   refine GL_indexArr (i:=3) (ch:=[]) (b:=b21) (off:=0) (len:=8) (sz:=1) (e:=144) (kd:=.i64) (j:=0) rfl rfl kr kr kr kr kr kr kr (fun _=>⟨by decide,by decide⟩) ?_
   refine GL_store (i:=4) (ch:=[]) (b:=b21) (off:=0) (v:=.int .u32 (IntKind.wrap .u32 ((t1P (kAt i) (wAt (byt l) i) (rnds kAt (wAt (byt l)) s i))+(t2P (rnds kAt (wAt (byt l)) s i))))) (c:=#[.int .u32 ((rnds kAt (wAt (byt l)) s i).a),.int .u32 ((rnds kAt (wAt (byt l)) s i).a),.int .u32 ((rnds kAt (wAt (byt l)) s i).b),.int .u32 ((rnds kAt (wAt (byt l)) s i).c),.int .u32 (IntKind.wrap .u32 (((rnds kAt (wAt (byt l)) s i).d)+(t1P (kAt i) (wAt (byt l) i) (rnds kAt (wAt (byt l)) s i)))),.int .u32 ((rnds kAt (wAt (byt l)) s i).e),.int .u32 ((rnds kAt (wAt (byt l)) s i).f),.int .u32 ((rnds kAt (wAt (byt l)) s i).g)]) (c':=#[.int .u32 (IntKind.wrap .u32 ((t1P (kAt i) (wAt (byt l) i) (rnds kAt (wAt (byt l)) s i))+(t2P (rnds kAt (wAt (byt l)) s i)))),.int .u32 ((rnds kAt (wAt (byt l)) s i).a),.int .u32 ((rnds kAt (wAt (byt l)) s i).b),.int .u32 ((rnds kAt (wAt (byt l)) s i).c),.int .u32 (IntKind.wrap .u32 (((rnds kAt (wAt (byt l)) s i).d)+(t1P (kAt i) (wAt (byt l) i) (rnds kAt (wAt (byt l)) s i)))),.int .u32 ((rnds kAt (wAt (byt l)) s i).e),.int .u32 ((rnds kAt (wAt (byt l)) s i).f),.int .u32 ((rnds kAt (wAt (byt l)) s i).g)]) (j:=0) (m:=0) (H':=([(b21,.cells #[.int .u32 (IntKind.wrap .u32 ((t1P (kAt i) (wAt (byt l) i) (rnds kAt (wAt (byt l)) s i))+(t2P (rnds kAt (wAt (byt l)) s i)))),.int .u32 ((rnds kAt (wAt (byt l)) s i).a),.int .u32 ((rnds kAt (wAt (byt l)) s i).b),.int .u32 ((rnds kAt (wAt (byt l)) s i).c),.int .u32 (IntKind.wrap .u32 (((rnds kAt (wAt (byt l)) s i).d)+(t1P (kAt i) (wAt (byt l) i) (rnds kAt (wAt (byt l)) s i)))),.int .u32 ((rnds kAt (wAt (byt l)) s i).e),.int .u32 ((rnds kAt (wAt (byt l)) s i).f),.int .u32 ((rnds kAt (wAt (byt l)) s i).g)] 169 (0,0))]::[(b4,.cells (wArr (byt l) 64) 171 (0,0))]::[(b3,.cells #[.int .u32 0,.int .u32 0,.int .u32 0,.int .u32 0,.int .u32 0,.int .u32 0,.int .u32 0,.int .u32 0] 169 (0,0))]::[(b2,.cells kArr 171 (0,0))]::[(b1,.cells #[.int .u32 s.a,.int .u32 s.b,.int .u32 s.c,.int .u32 s.d,.int .u32 s.e,.int .u32 s.f,.int .u32 s.g,.int .u32 s.h] 169 (0,0))]::H)) rfl rfl kr kr kr kr kr kr kr rfl rfl (Nat.le_of_ble_eq_true rfl) (fun _ _=>thaw0) kr kr ?_
   refine GL_fin (E':=[⟨3,[],pt b1⟩,⟨5,[],pt b2⟩,⟨6,[],pt b3⟩,⟨7,[],pt b4⟩,⟨13,[],pt b21⟩,⟨103,[],.int .i64 ((i : Nat) : Int)⟩]) [] [3,5,6,7,13,103] rfl kr ?_
   refine N_block ?_
   refine N_then ?_
   have hw23 : IntKind.wrap .i64 (((i : Nat) : Int) + 1) = ((i : Nat) : Int) + 1 := w64 (by omega) (by omega)
   refine G_pure (E':=[⟨3,[],pt b1⟩,⟨5,[],pt b2⟩,⟨6,[],pt b3⟩,⟨7,[],pt b4⟩,⟨13,[],pt b21⟩,⟨103,[],.int .i64 (((i : Nat) : Int)+1)⟩]) [0,0] [3,5,6,7,13,103] rfl (Eq.trans (b:=some [⟨3,[],pt b1⟩,⟨5,[],pt b2⟩,⟨6,[],pt b3⟩,⟨7,[],pt b4⟩,⟨13,[],pt b21⟩,⟨103,[],.int .i64 (IntKind.wrap .i64 (((i : Nat) : Int)+1))⟩]) kr (by simp only [hw23])) ?_
   refine N_round (s':=(i+1)) [3,5,6,7,13,103] kr kr (by omega) (by omega)
  ·
   have hi3 : i = 64 := by (have h9 := of_decide_eq_false hc22; omega)
   refine G_exit ?_
   refine N_then_exit ?_
   refine N_then_exit ?_
   refine N_block_exit ?_
   refine N_then ?_
   refine G_seq ?_
   refine G_seq ?_
   refine G_pure (E':=[⟨3,[],pt b1⟩,⟨6,[],pt b3⟩,⟨13,[],pt b21⟩,⟨179,[],.int .i64 0⟩]) [0] [3,6,13,179] rfl kr ?_
   refine N_then ?_
   refine G_block ?_
   refine G_rounds 9 ?_
   refine GRd_succ ?_
   refine G_seq ?_
   refine G_pure (E':=[⟨3,[],pt b1⟩,⟨6,[],pt b3⟩,⟨13,[],pt b21⟩,⟨179,[],.int .i64 0⟩,⟨180,[],.bool true⟩]) [0] [3,6,13,179,180] rfl kr ?_
   refine N_then ?_
   refine G_seq ?_
   refine G_condt kr ?_
   refine G_skip ?_
   refine N_then ?_
   refine G_seq ?_
   refine G_block ?_
   refine G_seq ?_
   refine G_pure (E':=[⟨3,[],pt b1⟩,⟨6,[],pt b3⟩,⟨13,[],pt b21⟩,⟨21,[],.int .i64 0⟩,⟨179,[],.int .i64 0⟩]) [0,0] [3,6,13,21,179] rfl kr ?_
   refine N_then ?_
   refine G_regionH ([(b21,.cells #[.int .u32 ((rnds kAt (wAt (byt l)) s i).a),.int .u32 ((rnds kAt (wAt (byt l)) s i).b),.int .u32 ((rnds kAt (wAt (byt l)) s i).c),.int .u32 ((rnds kAt (wAt (byt l)) s i).d),.int .u32 ((rnds kAt (wAt (byt l)) s i).e),.int .u32 ((rnds kAt (wAt (byt l)) s i).f),.int .u32 ((rnds kAt (wAt (byt l)) s i).g),.int .u32 ((rnds kAt (wAt (byt l)) s i).h)] 169 (0,0))]::[(b4,.cells (wArr (byt l) 64) 171 (0,0))]::[(b3,.cells #[.int .u32 0,.int .u32 0,.int .u32 0,.int .u32 0,.int .u32 0,.int .u32 0,.int .u32 0,.int .u32 0] 169 (0,0))]::[(b2,.cells kArr 171 (0,0))]::H) kr ?_
   refine GH_pure (E':=[⟨182,[],.int .i64 0⟩,⟨3,[],pt b1⟩,⟨6,[],pt b3⟩,⟨13,[],pt b21⟩,⟨21,[],.int .i64 0⟩,⟨179,[],.int .i64 0⟩]) 0 0 kr (fun w h=>(h.erase 4)) kr ?_
   refine GH_take' (E':=[⟨183,[],pt b1⟩,⟨182,[],.int .i64 0⟩,⟨3,[],pt b1⟩,⟨6,[],pt b3⟩,⟨13,[],pt b21⟩,⟨21,[],.int .i64 0⟩,⟨179,[],.int .i64 0⟩]) 1 kr (fun w h=>(h.erase 4)) ?_ ?_
   ·
    refine GL_indexArr (i:=1) (ch:=[]) (b:=b1) (off:=0) (len:=8) (sz:=1) (e:=144) (kd:=.i64) (j:=0) rfl rfl kr kr kr kr kr kr kr (fun _=>⟨by decide,by decide⟩) ?_
    exact GL_yend kr kr
   refine GH_pure (E':=[⟨185,[],.int .i64 0⟩,⟨183,[],pt b1⟩,⟨182,[],.int .i64 0⟩,⟨3,[],pt b1⟩,⟨6,[],pt b3⟩,⟨13,[],pt b21⟩,⟨179,[],.int .i64 0⟩]) 3 0 kr (fun w h=>(h.erase 4)) kr ?_
   refine GH_take' (E':=[⟨186,[],pt b21⟩,⟨185,[],.int .i64 0⟩,⟨183,[],pt b1⟩,⟨182,[],.int .i64 0⟩,⟨3,[],pt b1⟩,⟨6,[],pt b3⟩,⟨13,[],pt b21⟩,⟨179,[],.int .i64 0⟩]) 4 kr (fun w h=>(h.erase 4)) ?_ ?_
   ·
    refine GL_indexArr (i:=4) (ch:=[]) (b:=b21) (off:=0) (len:=8) (sz:=1) (e:=144) (kd:=.i64) (j:=0) rfl rfl kr kr kr kr kr kr kr (fun _=>⟨by decide,by decide⟩) ?_
    exact GL_yend kr kr
   refine GH_take' (E':=[⟨187,[],.int .u32 ((rnds kAt (wAt (byt l)) s i).a)⟩,⟨186,[],pt b21⟩,⟨185,[],.int .i64 0⟩,⟨183,[],pt b1⟩,⟨182,[],.int .i64 0⟩,⟨3,[],pt b1⟩,⟨6,[],pt b3⟩,⟨13,[],pt b21⟩,⟨179,[],.int .i64 0⟩]) 5 kr (fun w h=>(h.erase 4)) ?_ ?_
   ·
    refine GL_load (i:=5) (ch:=[]) (b:=b21) (off:=0) (v:=.int .u32 ((rnds kAt (wAt (byt l)) s i).a)) rfl rfl kr kr kr kr kr (At.grp 0 0 rfl rfl) rfl ?_
    exact GL_yend kr kr
   refine GH_eff 2 kr kr kr ?_
   refine GL_load (i:=2) (ch:=[]) (b:=b1) (off:=0) (v:=.int .u32 s.a) rfl rfl kr kr kr kr kr (At.grp 4 0 rfl rfl) rfl ?_
   refine GH_back kr (fun w h=>(h.erase 4)) ?_
   refine GH_pure (E':=[⟨188,[],.int .u32 (IntKind.wrap .u32 (s.a+((rnds kAt (wAt (byt l)) s i).a)))⟩,⟨182,[],.int .i64 0⟩,⟨3,[],pt b1⟩,⟨6,[],pt b3⟩,⟨13,[],pt b21⟩,⟨179,[],.int .i64 0⟩]) 6 0 kr (fun w h=>(h.erase 4)) kr ?_
   refine GH_take' (E':=[⟨189,[],pt b1⟩,⟨188,[],.int .u32 (IntKind.wrap .u32 (s.a+((rnds kAt (wAt (byt l)) s i).a)))⟩,⟨182,[],.int .i64 0⟩,⟨3,[],pt b1⟩,⟨6,[],pt b3⟩,⟨13,[],pt b21⟩,⟨179,[],.int .i64 0⟩]) 7 kr (fun w h=>(h.erase 4)) ?_ ?_
   ·
    refine GL_indexArr (i:=7) (ch:=[]) (b:=b1) (off:=0) (len:=8) (sz:=1) (e:=144) (kd:=.i64) (j:=0) rfl rfl kr kr kr kr kr kr kr (fun _=>⟨by decide,by decide⟩) ?_
    exact GL_yend kr kr
   refine GH_eff 8 kr kr kr ?_
   refine GL_store (i:=8) (ch:=[]) (b:=b1) (off:=0) (v:=.int .u32 (IntKind.wrap .u32 (s.a+((rnds kAt (wAt (byt l)) s i).a)))) (c:=#[.int .u32 s.a,.int .u32 s.b,.int .u32 s.c,.int .u32 s.d,.int .u32 s.e,.int .u32 s.f,.int .u32 s.g,.int .u32 s.h]) (c':=#[.int .u32 (IntKind.wrap .u32 (s.a+((rnds kAt (wAt (byt l)) s i).a))),.int .u32 s.b,.int .u32 s.c,.int .u32 s.d,.int .u32 s.e,.int .u32 s.f,.int .u32 s.g,.int .u32 s.h]) (j:=4) (m:=0) (H':=([(b21,.cells #[.int .u32 ((rnds kAt (wAt (byt l)) s i).a),.int .u32 ((rnds kAt (wAt (byt l)) s i).b),.int .u32 ((rnds kAt (wAt (byt l)) s i).c),.int .u32 ((rnds kAt (wAt (byt l)) s i).d),.int .u32 ((rnds kAt (wAt (byt l)) s i).e),.int .u32 ((rnds kAt (wAt (byt l)) s i).f),.int .u32 ((rnds kAt (wAt (byt l)) s i).g),.int .u32 ((rnds kAt (wAt (byt l)) s i).h)] 169 (0,0))]::[(b4,.cells (wArr (byt l) 64) 171 (0,0))]::[(b3,.cells #[.int .u32 0,.int .u32 0,.int .u32 0,.int .u32 0,.int .u32 0,.int .u32 0,.int .u32 0,.int .u32 0] 169 (0,0))]::[(b2,.cells kArr 171 (0,0))]::[(b1,.cells #[.int .u32 (IntKind.wrap .u32 (s.a+((rnds kAt (wAt (byt l)) s i).a))),.int .u32 s.b,.int .u32 s.c,.int .u32 s.d,.int .u32 s.e,.int .u32 s.f,.int .u32 s.g,.int .u32 s.h] 169 (0,0))]::H)) rfl rfl kr kr kr kr kr kr kr rfl rfl (Nat.le_of_ble_eq_true rfl) (fun _ _=>thaw0) kr kr ?_
   refine GH_back kr (fun w h=>(h.erase 4)) ?_
   refine GH_done (E':=[⟨3,[],pt b1⟩,⟨6,[],pt b3⟩,⟨13,[],pt b21⟩,⟨179,[],.int .i64 0⟩]) [3,6,13,179] kr kr ?_
   refine N_block ?_
   refine N_then ?_
   refine G_pure (E':=[⟨3,[],pt b1⟩,⟨6,[],pt b3⟩,⟨13,[],pt b21⟩,⟨179,[],.int .i64 1⟩]) [0,0] [3,6,13,179] rfl kr ?_
   refine N_rd ?_
   refine GRd_succ ?_
   refine G_seq ?_
   refine G_pure (E':=[⟨3,[],pt b1⟩,⟨6,[],pt b3⟩,⟨13,[],pt b21⟩,⟨179,[],.int .i64 1⟩,⟨180,[],.bool true⟩]) [0] [3,6,13,179,180] rfl kr ?_
   refine N_then ?_
   refine G_seq ?_
   refine G_condt kr ?_
   refine G_skip ?_
   refine N_then ?_
   refine G_seq ?_
   refine G_block ?_
   refine G_seq ?_
   refine G_pure (E':=[⟨3,[],pt b1⟩,⟨6,[],pt b3⟩,⟨13,[],pt b21⟩,⟨21,[],.int .i64 1⟩,⟨179,[],.int .i64 1⟩]) [0,0] [3,6,13,21,179] rfl kr ?_
   refine N_then ?_
   refine G_regionH ([(b21,.cells #[.int .u32 ((rnds kAt (wAt (byt l)) s i).a),.int .u32 ((rnds kAt (wAt (byt l)) s i).b),.int .u32 ((rnds kAt (wAt (byt l)) s i).c),.int .u32 ((rnds kAt (wAt (byt l)) s i).d),.int .u32 ((rnds kAt (wAt (byt l)) s i).e),.int .u32 ((rnds kAt (wAt (byt l)) s i).f),.int .u32 ((rnds kAt (wAt (byt l)) s i).g),.int .u32 ((rnds kAt (wAt (byt l)) s i).h)] 169 (0,0))]::[(b4,.cells (wArr (byt l) 64) 171 (0,0))]::[(b3,.cells #[.int .u32 0,.int .u32 0,.int .u32 0,.int .u32 0,.int .u32 0,.int .u32 0,.int .u32 0,.int .u32 0] 169 (0,0))]::[(b2,.cells kArr 171 (0,0))]::H) kr ?_
   refine GH_pure (E':=[⟨182,[],.int .i64 1⟩,⟨3,[],pt b1⟩,⟨6,[],pt b3⟩,⟨13,[],pt b21⟩,⟨21,[],.int .i64 1⟩,⟨179,[],.int .i64 1⟩]) 0 0 kr (fun w h=>(h.erase 4)) kr ?_
   refine GH_take' (E':=[⟨183,[],.pointer (some ⟨b1,1,none⟩)⟩,⟨182,[],.int .i64 1⟩,⟨3,[],pt b1⟩,⟨6,[],pt b3⟩,⟨13,[],pt b21⟩,⟨21,[],.int .i64 1⟩,⟨179,[],.int .i64 1⟩]) 1 kr (fun w h=>(h.erase 4)) ?_ ?_
   ·
    refine GL_indexArr (i:=1) (ch:=[]) (b:=b1) (off:=0) (len:=8) (sz:=1) (e:=144) (kd:=.i64) (j:=1) rfl rfl kr kr kr kr kr kr kr (fun _=>⟨by decide,by decide⟩) ?_
    exact GL_yend kr kr
   refine GH_pure (E':=[⟨185,[],.int .i64 1⟩,⟨183,[],.pointer (some ⟨b1,1,none⟩)⟩,⟨182,[],.int .i64 1⟩,⟨3,[],pt b1⟩,⟨6,[],pt b3⟩,⟨13,[],pt b21⟩,⟨179,[],.int .i64 1⟩]) 3 0 kr (fun w h=>(h.erase 4)) kr ?_
   refine GH_take' (E':=[⟨186,[],.pointer (some ⟨b21,1,none⟩)⟩,⟨185,[],.int .i64 1⟩,⟨183,[],.pointer (some ⟨b1,1,none⟩)⟩,⟨182,[],.int .i64 1⟩,⟨3,[],pt b1⟩,⟨6,[],pt b3⟩,⟨13,[],pt b21⟩,⟨179,[],.int .i64 1⟩]) 4 kr (fun w h=>(h.erase 4)) ?_ ?_
   ·
    refine GL_indexArr (i:=4) (ch:=[]) (b:=b21) (off:=0) (len:=8) (sz:=1) (e:=144) (kd:=.i64) (j:=1) rfl rfl kr kr kr kr kr kr kr (fun _=>⟨by decide,by decide⟩) ?_
    exact GL_yend kr kr
   refine GH_take' (E':=[⟨187,[],.int .u32 ((rnds kAt (wAt (byt l)) s i).b)⟩,⟨186,[],.pointer (some ⟨b21,1,none⟩)⟩,⟨185,[],.int .i64 1⟩,⟨183,[],.pointer (some ⟨b1,1,none⟩)⟩,⟨182,[],.int .i64 1⟩,⟨3,[],pt b1⟩,⟨6,[],pt b3⟩,⟨13,[],pt b21⟩,⟨179,[],.int .i64 1⟩]) 5 kr (fun w h=>(h.erase 4)) ?_ ?_
   ·
    refine GL_load (i:=5) (ch:=[]) (b:=b21) (off:=1) (v:=.int .u32 ((rnds kAt (wAt (byt l)) s i).b)) rfl rfl kr kr kr kr kr (At.grp 0 0 rfl rfl) rfl ?_
    exact GL_yend kr kr
   refine GH_eff 2 kr kr kr ?_
   refine GL_load (i:=2) (ch:=[]) (b:=b1) (off:=1) (v:=.int .u32 s.b) rfl rfl kr kr kr kr kr (At.grp 4 0 rfl rfl) rfl ?_
   refine GH_back kr (fun w h=>(h.erase 4)) ?_
   refine GH_pure (E':=[⟨188,[],.int .u32 (IntKind.wrap .u32 (s.b+((rnds kAt (wAt (byt l)) s i).b)))⟩,⟨182,[],.int .i64 1⟩,⟨3,[],pt b1⟩,⟨6,[],pt b3⟩,⟨13,[],pt b21⟩,⟨179,[],.int .i64 1⟩]) 6 0 kr (fun w h=>(h.erase 4)) kr ?_
   refine GH_take' (E':=[⟨189,[],.pointer (some ⟨b1,1,none⟩)⟩,⟨188,[],.int .u32 (IntKind.wrap .u32 (s.b+((rnds kAt (wAt (byt l)) s i).b)))⟩,⟨182,[],.int .i64 1⟩,⟨3,[],pt b1⟩,⟨6,[],pt b3⟩,⟨13,[],pt b21⟩,⟨179,[],.int .i64 1⟩]) 7 kr (fun w h=>(h.erase 4)) ?_ ?_
   ·
    refine GL_indexArr (i:=7) (ch:=[]) (b:=b1) (off:=0) (len:=8) (sz:=1) (e:=144) (kd:=.i64) (j:=1) rfl rfl kr kr kr kr kr kr kr (fun _=>⟨by decide,by decide⟩) ?_
    exact GL_yend kr kr
   refine GH_eff 8 kr kr kr ?_
   refine GL_store (i:=8) (ch:=[]) (b:=b1) (off:=1) (v:=.int .u32 (IntKind.wrap .u32 (s.b+((rnds kAt (wAt (byt l)) s i).b)))) (c:=#[.int .u32 (IntKind.wrap .u32 (s.a+((rnds kAt (wAt (byt l)) s i).a))),.int .u32 s.b,.int .u32 s.c,.int .u32 s.d,.int .u32 s.e,.int .u32 s.f,.int .u32 s.g,.int .u32 s.h]) (c':=#[.int .u32 (IntKind.wrap .u32 (s.a+((rnds kAt (wAt (byt l)) s i).a))),.int .u32 (IntKind.wrap .u32 (s.b+((rnds kAt (wAt (byt l)) s i).b))),.int .u32 s.c,.int .u32 s.d,.int .u32 s.e,.int .u32 s.f,.int .u32 s.g,.int .u32 s.h]) (j:=4) (m:=0) (H':=([(b21,.cells #[.int .u32 ((rnds kAt (wAt (byt l)) s i).a),.int .u32 ((rnds kAt (wAt (byt l)) s i).b),.int .u32 ((rnds kAt (wAt (byt l)) s i).c),.int .u32 ((rnds kAt (wAt (byt l)) s i).d),.int .u32 ((rnds kAt (wAt (byt l)) s i).e),.int .u32 ((rnds kAt (wAt (byt l)) s i).f),.int .u32 ((rnds kAt (wAt (byt l)) s i).g),.int .u32 ((rnds kAt (wAt (byt l)) s i).h)] 169 (0,0))]::[(b4,.cells (wArr (byt l) 64) 171 (0,0))]::[(b3,.cells #[.int .u32 0,.int .u32 0,.int .u32 0,.int .u32 0,.int .u32 0,.int .u32 0,.int .u32 0,.int .u32 0] 169 (0,0))]::[(b2,.cells kArr 171 (0,0))]::[(b1,.cells #[.int .u32 (IntKind.wrap .u32 (s.a+((rnds kAt (wAt (byt l)) s i).a))),.int .u32 (IntKind.wrap .u32 (s.b+((rnds kAt (wAt (byt l)) s i).b))),.int .u32 s.c,.int .u32 s.d,.int .u32 s.e,.int .u32 s.f,.int .u32 s.g,.int .u32 s.h] 169 (0,0))]::H)) rfl rfl kr kr kr kr kr kr kr rfl rfl (Nat.le_of_ble_eq_true rfl) (fun _ _=>thaw0) kr kr ?_
   refine GH_back kr (fun w h=>(h.erase 4)) ?_
   refine GH_done (E':=[⟨3,[],pt b1⟩,⟨6,[],pt b3⟩,⟨13,[],pt b21⟩,⟨179,[],.int .i64 1⟩]) [3,6,13,179] kr kr ?_
   refine N_block ?_
   refine N_then ?_
   refine G_pure (E':=[⟨3,[],pt b1⟩,⟨6,[],pt b3⟩,⟨13,[],pt b21⟩,⟨179,[],.int .i64 2⟩]) [0,0] [3,6,13,179] rfl kr ?_
   refine N_rd ?_
   refine GRd_succ ?_
   refine G_seq ?_
   refine G_pure (E':=[⟨3,[],pt b1⟩,⟨6,[],pt b3⟩,⟨13,[],pt b21⟩,⟨179,[],.int .i64 2⟩,⟨180,[],.bool true⟩]) [0] [3,6,13,179,180] rfl kr ?_
   refine N_then ?_
   refine G_seq ?_
   refine G_condt kr ?_
   refine G_skip ?_
   refine N_then ?_
   refine G_seq ?_
   refine G_block ?_
   refine G_seq ?_
   refine G_pure (E':=[⟨3,[],pt b1⟩,⟨6,[],pt b3⟩,⟨13,[],pt b21⟩,⟨21,[],.int .i64 2⟩,⟨179,[],.int .i64 2⟩]) [0,0] [3,6,13,21,179] rfl kr ?_
   refine N_then ?_
   refine G_regionH ([(b21,.cells #[.int .u32 ((rnds kAt (wAt (byt l)) s i).a),.int .u32 ((rnds kAt (wAt (byt l)) s i).b),.int .u32 ((rnds kAt (wAt (byt l)) s i).c),.int .u32 ((rnds kAt (wAt (byt l)) s i).d),.int .u32 ((rnds kAt (wAt (byt l)) s i).e),.int .u32 ((rnds kAt (wAt (byt l)) s i).f),.int .u32 ((rnds kAt (wAt (byt l)) s i).g),.int .u32 ((rnds kAt (wAt (byt l)) s i).h)] 169 (0,0))]::[(b4,.cells (wArr (byt l) 64) 171 (0,0))]::[(b3,.cells #[.int .u32 0,.int .u32 0,.int .u32 0,.int .u32 0,.int .u32 0,.int .u32 0,.int .u32 0,.int .u32 0] 169 (0,0))]::[(b2,.cells kArr 171 (0,0))]::H) kr ?_
   refine GH_pure (E':=[⟨182,[],.int .i64 2⟩,⟨3,[],pt b1⟩,⟨6,[],pt b3⟩,⟨13,[],pt b21⟩,⟨21,[],.int .i64 2⟩,⟨179,[],.int .i64 2⟩]) 0 0 kr (fun w h=>(h.erase 4)) kr ?_
   refine GH_take' (E':=[⟨183,[],.pointer (some ⟨b1,2,none⟩)⟩,⟨182,[],.int .i64 2⟩,⟨3,[],pt b1⟩,⟨6,[],pt b3⟩,⟨13,[],pt b21⟩,⟨21,[],.int .i64 2⟩,⟨179,[],.int .i64 2⟩]) 1 kr (fun w h=>(h.erase 4)) ?_ ?_
   ·
    refine GL_indexArr (i:=1) (ch:=[]) (b:=b1) (off:=0) (len:=8) (sz:=1) (e:=144) (kd:=.i64) (j:=2) rfl rfl kr kr kr kr kr kr kr (fun _=>⟨by decide,by decide⟩) ?_
    exact GL_yend kr kr
   refine GH_pure (E':=[⟨185,[],.int .i64 2⟩,⟨183,[],.pointer (some ⟨b1,2,none⟩)⟩,⟨182,[],.int .i64 2⟩,⟨3,[],pt b1⟩,⟨6,[],pt b3⟩,⟨13,[],pt b21⟩,⟨179,[],.int .i64 2⟩]) 3 0 kr (fun w h=>(h.erase 4)) kr ?_
   refine GH_take' (E':=[⟨186,[],.pointer (some ⟨b21,2,none⟩)⟩,⟨185,[],.int .i64 2⟩,⟨183,[],.pointer (some ⟨b1,2,none⟩)⟩,⟨182,[],.int .i64 2⟩,⟨3,[],pt b1⟩,⟨6,[],pt b3⟩,⟨13,[],pt b21⟩,⟨179,[],.int .i64 2⟩]) 4 kr (fun w h=>(h.erase 4)) ?_ ?_
   ·
    refine GL_indexArr (i:=4) (ch:=[]) (b:=b21) (off:=0) (len:=8) (sz:=1) (e:=144) (kd:=.i64) (j:=2) rfl rfl kr kr kr kr kr kr kr (fun _=>⟨by decide,by decide⟩) ?_
    exact GL_yend kr kr
   refine GH_take' (E':=[⟨187,[],.int .u32 ((rnds kAt (wAt (byt l)) s i).c)⟩,⟨186,[],.pointer (some ⟨b21,2,none⟩)⟩,⟨185,[],.int .i64 2⟩,⟨183,[],.pointer (some ⟨b1,2,none⟩)⟩,⟨182,[],.int .i64 2⟩,⟨3,[],pt b1⟩,⟨6,[],pt b3⟩,⟨13,[],pt b21⟩,⟨179,[],.int .i64 2⟩]) 5 kr (fun w h=>(h.erase 4)) ?_ ?_
   ·
    refine GL_load (i:=5) (ch:=[]) (b:=b21) (off:=2) (v:=.int .u32 ((rnds kAt (wAt (byt l)) s i).c)) rfl rfl kr kr kr kr kr (At.grp 0 0 rfl rfl) rfl ?_
    exact GL_yend kr kr
   refine GH_eff 2 kr kr kr ?_
   refine GL_load (i:=2) (ch:=[]) (b:=b1) (off:=2) (v:=.int .u32 s.c) rfl rfl kr kr kr kr kr (At.grp 4 0 rfl rfl) rfl ?_
   refine GH_back kr (fun w h=>(h.erase 4)) ?_
   refine GH_pure (E':=[⟨188,[],.int .u32 (IntKind.wrap .u32 (s.c+((rnds kAt (wAt (byt l)) s i).c)))⟩,⟨182,[],.int .i64 2⟩,⟨3,[],pt b1⟩,⟨6,[],pt b3⟩,⟨13,[],pt b21⟩,⟨179,[],.int .i64 2⟩]) 6 0 kr (fun w h=>(h.erase 4)) kr ?_
   refine GH_take' (E':=[⟨189,[],.pointer (some ⟨b1,2,none⟩)⟩,⟨188,[],.int .u32 (IntKind.wrap .u32 (s.c+((rnds kAt (wAt (byt l)) s i).c)))⟩,⟨182,[],.int .i64 2⟩,⟨3,[],pt b1⟩,⟨6,[],pt b3⟩,⟨13,[],pt b21⟩,⟨179,[],.int .i64 2⟩]) 7 kr (fun w h=>(h.erase 4)) ?_ ?_
   ·
    refine GL_indexArr (i:=7) (ch:=[]) (b:=b1) (off:=0) (len:=8) (sz:=1) (e:=144) (kd:=.i64) (j:=2) rfl rfl kr kr kr kr kr kr kr (fun _=>⟨by decide,by decide⟩) ?_
    exact GL_yend kr kr
   refine GH_eff 8 kr kr kr ?_
   refine GL_store (i:=8) (ch:=[]) (b:=b1) (off:=2) (v:=.int .u32 (IntKind.wrap .u32 (s.c+((rnds kAt (wAt (byt l)) s i).c)))) (c:=#[.int .u32 (IntKind.wrap .u32 (s.a+((rnds kAt (wAt (byt l)) s i).a))),.int .u32 (IntKind.wrap .u32 (s.b+((rnds kAt (wAt (byt l)) s i).b))),.int .u32 s.c,.int .u32 s.d,.int .u32 s.e,.int .u32 s.f,.int .u32 s.g,.int .u32 s.h]) (c':=#[.int .u32 (IntKind.wrap .u32 (s.a+((rnds kAt (wAt (byt l)) s i).a))),.int .u32 (IntKind.wrap .u32 (s.b+((rnds kAt (wAt (byt l)) s i).b))),.int .u32 (IntKind.wrap .u32 (s.c+((rnds kAt (wAt (byt l)) s i).c))),.int .u32 s.d,.int .u32 s.e,.int .u32 s.f,.int .u32 s.g,.int .u32 s.h]) (j:=4) (m:=0) (H':=([(b21,.cells #[.int .u32 ((rnds kAt (wAt (byt l)) s i).a),.int .u32 ((rnds kAt (wAt (byt l)) s i).b),.int .u32 ((rnds kAt (wAt (byt l)) s i).c),.int .u32 ((rnds kAt (wAt (byt l)) s i).d),.int .u32 ((rnds kAt (wAt (byt l)) s i).e),.int .u32 ((rnds kAt (wAt (byt l)) s i).f),.int .u32 ((rnds kAt (wAt (byt l)) s i).g),.int .u32 ((rnds kAt (wAt (byt l)) s i).h)] 169 (0,0))]::[(b4,.cells (wArr (byt l) 64) 171 (0,0))]::[(b3,.cells #[.int .u32 0,.int .u32 0,.int .u32 0,.int .u32 0,.int .u32 0,.int .u32 0,.int .u32 0,.int .u32 0] 169 (0,0))]::[(b2,.cells kArr 171 (0,0))]::[(b1,.cells #[.int .u32 (IntKind.wrap .u32 (s.a+((rnds kAt (wAt (byt l)) s i).a))),.int .u32 (IntKind.wrap .u32 (s.b+((rnds kAt (wAt (byt l)) s i).b))),.int .u32 (IntKind.wrap .u32 (s.c+((rnds kAt (wAt (byt l)) s i).c))),.int .u32 s.d,.int .u32 s.e,.int .u32 s.f,.int .u32 s.g,.int .u32 s.h] 169 (0,0))]::H)) rfl rfl kr kr kr kr kr kr kr rfl rfl (Nat.le_of_ble_eq_true rfl) (fun _ _=>thaw0) kr kr ?_
   refine GH_back kr (fun w h=>(h.erase 4)) ?_
   refine GH_done (E':=[⟨3,[],pt b1⟩,⟨6,[],pt b3⟩,⟨13,[],pt b21⟩,⟨179,[],.int .i64 2⟩]) [3,6,13,179] kr kr ?_
   refine N_block ?_
   refine N_then ?_
   refine G_pure (E':=[⟨3,[],pt b1⟩,⟨6,[],pt b3⟩,⟨13,[],pt b21⟩,⟨179,[],.int .i64 3⟩]) [0,0] [3,6,13,179] rfl kr ?_
   refine N_rd ?_
   refine GRd_succ ?_
   refine G_seq ?_
   refine G_pure (E':=[⟨3,[],pt b1⟩,⟨6,[],pt b3⟩,⟨13,[],pt b21⟩,⟨179,[],.int .i64 3⟩,⟨180,[],.bool true⟩]) [0] [3,6,13,179,180] rfl kr ?_
   refine N_then ?_
   refine G_seq ?_
   refine G_condt kr ?_
   refine G_skip ?_
   refine N_then ?_
   refine G_seq ?_
   refine G_block ?_
   refine G_seq ?_
   refine G_pure (E':=[⟨3,[],pt b1⟩,⟨6,[],pt b3⟩,⟨13,[],pt b21⟩,⟨21,[],.int .i64 3⟩,⟨179,[],.int .i64 3⟩]) [0,0] [3,6,13,21,179] rfl kr ?_
   refine N_then ?_
   refine G_regionH ([(b21,.cells #[.int .u32 ((rnds kAt (wAt (byt l)) s i).a),.int .u32 ((rnds kAt (wAt (byt l)) s i).b),.int .u32 ((rnds kAt (wAt (byt l)) s i).c),.int .u32 ((rnds kAt (wAt (byt l)) s i).d),.int .u32 ((rnds kAt (wAt (byt l)) s i).e),.int .u32 ((rnds kAt (wAt (byt l)) s i).f),.int .u32 ((rnds kAt (wAt (byt l)) s i).g),.int .u32 ((rnds kAt (wAt (byt l)) s i).h)] 169 (0,0))]::[(b4,.cells (wArr (byt l) 64) 171 (0,0))]::[(b3,.cells #[.int .u32 0,.int .u32 0,.int .u32 0,.int .u32 0,.int .u32 0,.int .u32 0,.int .u32 0,.int .u32 0] 169 (0,0))]::[(b2,.cells kArr 171 (0,0))]::H) kr ?_
   refine GH_pure (E':=[⟨182,[],.int .i64 3⟩,⟨3,[],pt b1⟩,⟨6,[],pt b3⟩,⟨13,[],pt b21⟩,⟨21,[],.int .i64 3⟩,⟨179,[],.int .i64 3⟩]) 0 0 kr (fun w h=>(h.erase 4)) kr ?_
   refine GH_take' (E':=[⟨183,[],.pointer (some ⟨b1,3,none⟩)⟩,⟨182,[],.int .i64 3⟩,⟨3,[],pt b1⟩,⟨6,[],pt b3⟩,⟨13,[],pt b21⟩,⟨21,[],.int .i64 3⟩,⟨179,[],.int .i64 3⟩]) 1 kr (fun w h=>(h.erase 4)) ?_ ?_
   ·
    refine GL_indexArr (i:=1) (ch:=[]) (b:=b1) (off:=0) (len:=8) (sz:=1) (e:=144) (kd:=.i64) (j:=3) rfl rfl kr kr kr kr kr kr kr (fun _=>⟨by decide,by decide⟩) ?_
    exact GL_yend kr kr
   refine GH_pure (E':=[⟨185,[],.int .i64 3⟩,⟨183,[],.pointer (some ⟨b1,3,none⟩)⟩,⟨182,[],.int .i64 3⟩,⟨3,[],pt b1⟩,⟨6,[],pt b3⟩,⟨13,[],pt b21⟩,⟨179,[],.int .i64 3⟩]) 3 0 kr (fun w h=>(h.erase 4)) kr ?_
   refine GH_take' (E':=[⟨186,[],.pointer (some ⟨b21,3,none⟩)⟩,⟨185,[],.int .i64 3⟩,⟨183,[],.pointer (some ⟨b1,3,none⟩)⟩,⟨182,[],.int .i64 3⟩,⟨3,[],pt b1⟩,⟨6,[],pt b3⟩,⟨13,[],pt b21⟩,⟨179,[],.int .i64 3⟩]) 4 kr (fun w h=>(h.erase 4)) ?_ ?_
   ·
    refine GL_indexArr (i:=4) (ch:=[]) (b:=b21) (off:=0) (len:=8) (sz:=1) (e:=144) (kd:=.i64) (j:=3) rfl rfl kr kr kr kr kr kr kr (fun _=>⟨by decide,by decide⟩) ?_
    exact GL_yend kr kr
   refine GH_take' (E':=[⟨187,[],.int .u32 ((rnds kAt (wAt (byt l)) s i).d)⟩,⟨186,[],.pointer (some ⟨b21,3,none⟩)⟩,⟨185,[],.int .i64 3⟩,⟨183,[],.pointer (some ⟨b1,3,none⟩)⟩,⟨182,[],.int .i64 3⟩,⟨3,[],pt b1⟩,⟨6,[],pt b3⟩,⟨13,[],pt b21⟩,⟨179,[],.int .i64 3⟩]) 5 kr (fun w h=>(h.erase 4)) ?_ ?_
   ·
    refine GL_load (i:=5) (ch:=[]) (b:=b21) (off:=3) (v:=.int .u32 ((rnds kAt (wAt (byt l)) s i).d)) rfl rfl kr kr kr kr kr (At.grp 0 0 rfl rfl) rfl ?_
    exact GL_yend kr kr
   refine GH_eff 2 kr kr kr ?_
   refine GL_load (i:=2) (ch:=[]) (b:=b1) (off:=3) (v:=.int .u32 s.d) rfl rfl kr kr kr kr kr (At.grp 4 0 rfl rfl) rfl ?_
   refine GH_back kr (fun w h=>(h.erase 4)) ?_
   refine GH_pure (E':=[⟨188,[],.int .u32 (IntKind.wrap .u32 (s.d+((rnds kAt (wAt (byt l)) s i).d)))⟩,⟨182,[],.int .i64 3⟩,⟨3,[],pt b1⟩,⟨6,[],pt b3⟩,⟨13,[],pt b21⟩,⟨179,[],.int .i64 3⟩]) 6 0 kr (fun w h=>(h.erase 4)) kr ?_
   refine GH_take' (E':=[⟨189,[],.pointer (some ⟨b1,3,none⟩)⟩,⟨188,[],.int .u32 (IntKind.wrap .u32 (s.d+((rnds kAt (wAt (byt l)) s i).d)))⟩,⟨182,[],.int .i64 3⟩,⟨3,[],pt b1⟩,⟨6,[],pt b3⟩,⟨13,[],pt b21⟩,⟨179,[],.int .i64 3⟩]) 7 kr (fun w h=>(h.erase 4)) ?_ ?_
   ·
    refine GL_indexArr (i:=7) (ch:=[]) (b:=b1) (off:=0) (len:=8) (sz:=1) (e:=144) (kd:=.i64) (j:=3) rfl rfl kr kr kr kr kr kr kr (fun _=>⟨by decide,by decide⟩) ?_
    exact GL_yend kr kr
   refine GH_eff 8 kr kr kr ?_
   refine GL_store (i:=8) (ch:=[]) (b:=b1) (off:=3) (v:=.int .u32 (IntKind.wrap .u32 (s.d+((rnds kAt (wAt (byt l)) s i).d)))) (c:=#[.int .u32 (IntKind.wrap .u32 (s.a+((rnds kAt (wAt (byt l)) s i).a))),.int .u32 (IntKind.wrap .u32 (s.b+((rnds kAt (wAt (byt l)) s i).b))),.int .u32 (IntKind.wrap .u32 (s.c+((rnds kAt (wAt (byt l)) s i).c))),.int .u32 s.d,.int .u32 s.e,.int .u32 s.f,.int .u32 s.g,.int .u32 s.h]) (c':=#[.int .u32 (IntKind.wrap .u32 (s.a+((rnds kAt (wAt (byt l)) s i).a))),.int .u32 (IntKind.wrap .u32 (s.b+((rnds kAt (wAt (byt l)) s i).b))),.int .u32 (IntKind.wrap .u32 (s.c+((rnds kAt (wAt (byt l)) s i).c))),.int .u32 (IntKind.wrap .u32 (s.d+((rnds kAt (wAt (byt l)) s i).d))),.int .u32 s.e,.int .u32 s.f,.int .u32 s.g,.int .u32 s.h]) (j:=4) (m:=0) (H':=([(b21,.cells #[.int .u32 ((rnds kAt (wAt (byt l)) s i).a),.int .u32 ((rnds kAt (wAt (byt l)) s i).b),.int .u32 ((rnds kAt (wAt (byt l)) s i).c),.int .u32 ((rnds kAt (wAt (byt l)) s i).d),.int .u32 ((rnds kAt (wAt (byt l)) s i).e),.int .u32 ((rnds kAt (wAt (byt l)) s i).f),.int .u32 ((rnds kAt (wAt (byt l)) s i).g),.int .u32 ((rnds kAt (wAt (byt l)) s i).h)] 169 (0,0))]::[(b4,.cells (wArr (byt l) 64) 171 (0,0))]::[(b3,.cells #[.int .u32 0,.int .u32 0,.int .u32 0,.int .u32 0,.int .u32 0,.int .u32 0,.int .u32 0,.int .u32 0] 169 (0,0))]::[(b2,.cells kArr 171 (0,0))]::[(b1,.cells #[.int .u32 (IntKind.wrap .u32 (s.a+((rnds kAt (wAt (byt l)) s i).a))),.int .u32 (IntKind.wrap .u32 (s.b+((rnds kAt (wAt (byt l)) s i).b))),.int .u32 (IntKind.wrap .u32 (s.c+((rnds kAt (wAt (byt l)) s i).c))),.int .u32 (IntKind.wrap .u32 (s.d+((rnds kAt (wAt (byt l)) s i).d))),.int .u32 s.e,.int .u32 s.f,.int .u32 s.g,.int .u32 s.h] 169 (0,0))]::H)) rfl rfl kr kr kr kr kr kr kr rfl rfl (Nat.le_of_ble_eq_true rfl) (fun _ _=>thaw0) kr kr ?_
   refine GH_back kr (fun w h=>(h.erase 4)) ?_
   refine GH_done (E':=[⟨3,[],pt b1⟩,⟨6,[],pt b3⟩,⟨13,[],pt b21⟩,⟨179,[],.int .i64 3⟩]) [3,6,13,179] kr kr ?_
   refine N_block ?_
   refine N_then ?_
   refine G_pure (E':=[⟨3,[],pt b1⟩,⟨6,[],pt b3⟩,⟨13,[],pt b21⟩,⟨179,[],.int .i64 4⟩]) [0,0] [3,6,13,179] rfl kr ?_
   refine N_rd ?_
   refine GRd_succ ?_
   refine G_seq ?_
   refine G_pure (E':=[⟨3,[],pt b1⟩,⟨6,[],pt b3⟩,⟨13,[],pt b21⟩,⟨179,[],.int .i64 4⟩,⟨180,[],.bool true⟩]) [0] [3,6,13,179,180] rfl kr ?_
   refine N_then ?_
   refine G_seq ?_
   refine G_condt kr ?_
   refine G_skip ?_
   refine N_then ?_
   refine G_seq ?_
   refine G_block ?_
   refine G_seq ?_
   refine G_pure (E':=[⟨3,[],pt b1⟩,⟨6,[],pt b3⟩,⟨13,[],pt b21⟩,⟨21,[],.int .i64 4⟩,⟨179,[],.int .i64 4⟩]) [0,0] [3,6,13,21,179] rfl kr ?_
   refine N_then ?_
   refine G_regionH ([(b21,.cells #[.int .u32 ((rnds kAt (wAt (byt l)) s i).a),.int .u32 ((rnds kAt (wAt (byt l)) s i).b),.int .u32 ((rnds kAt (wAt (byt l)) s i).c),.int .u32 ((rnds kAt (wAt (byt l)) s i).d),.int .u32 ((rnds kAt (wAt (byt l)) s i).e),.int .u32 ((rnds kAt (wAt (byt l)) s i).f),.int .u32 ((rnds kAt (wAt (byt l)) s i).g),.int .u32 ((rnds kAt (wAt (byt l)) s i).h)] 169 (0,0))]::[(b4,.cells (wArr (byt l) 64) 171 (0,0))]::[(b3,.cells #[.int .u32 0,.int .u32 0,.int .u32 0,.int .u32 0,.int .u32 0,.int .u32 0,.int .u32 0,.int .u32 0] 169 (0,0))]::[(b2,.cells kArr 171 (0,0))]::H) kr ?_
   refine GH_pure (E':=[⟨182,[],.int .i64 4⟩,⟨3,[],pt b1⟩,⟨6,[],pt b3⟩,⟨13,[],pt b21⟩,⟨21,[],.int .i64 4⟩,⟨179,[],.int .i64 4⟩]) 0 0 kr (fun w h=>(h.erase 4)) kr ?_
   refine GH_take' (E':=[⟨183,[],.pointer (some ⟨b1,4,none⟩)⟩,⟨182,[],.int .i64 4⟩,⟨3,[],pt b1⟩,⟨6,[],pt b3⟩,⟨13,[],pt b21⟩,⟨21,[],.int .i64 4⟩,⟨179,[],.int .i64 4⟩]) 1 kr (fun w h=>(h.erase 4)) ?_ ?_
   ·
    refine GL_indexArr (i:=1) (ch:=[]) (b:=b1) (off:=0) (len:=8) (sz:=1) (e:=144) (kd:=.i64) (j:=4) rfl rfl kr kr kr kr kr kr kr (fun _=>⟨by decide,by decide⟩) ?_
    exact GL_yend kr kr
   refine GH_pure (E':=[⟨185,[],.int .i64 4⟩,⟨183,[],.pointer (some ⟨b1,4,none⟩)⟩,⟨182,[],.int .i64 4⟩,⟨3,[],pt b1⟩,⟨6,[],pt b3⟩,⟨13,[],pt b21⟩,⟨179,[],.int .i64 4⟩]) 3 0 kr (fun w h=>(h.erase 4)) kr ?_
   refine GH_take' (E':=[⟨186,[],.pointer (some ⟨b21,4,none⟩)⟩,⟨185,[],.int .i64 4⟩,⟨183,[],.pointer (some ⟨b1,4,none⟩)⟩,⟨182,[],.int .i64 4⟩,⟨3,[],pt b1⟩,⟨6,[],pt b3⟩,⟨13,[],pt b21⟩,⟨179,[],.int .i64 4⟩]) 4 kr (fun w h=>(h.erase 4)) ?_ ?_
   ·
    refine GL_indexArr (i:=4) (ch:=[]) (b:=b21) (off:=0) (len:=8) (sz:=1) (e:=144) (kd:=.i64) (j:=4) rfl rfl kr kr kr kr kr kr kr (fun _=>⟨by decide,by decide⟩) ?_
    exact GL_yend kr kr
   refine GH_take' (E':=[⟨187,[],.int .u32 ((rnds kAt (wAt (byt l)) s i).e)⟩,⟨186,[],.pointer (some ⟨b21,4,none⟩)⟩,⟨185,[],.int .i64 4⟩,⟨183,[],.pointer (some ⟨b1,4,none⟩)⟩,⟨182,[],.int .i64 4⟩,⟨3,[],pt b1⟩,⟨6,[],pt b3⟩,⟨13,[],pt b21⟩,⟨179,[],.int .i64 4⟩]) 5 kr (fun w h=>(h.erase 4)) ?_ ?_
   ·
    refine GL_load (i:=5) (ch:=[]) (b:=b21) (off:=4) (v:=.int .u32 ((rnds kAt (wAt (byt l)) s i).e)) rfl rfl kr kr kr kr kr (At.grp 0 0 rfl rfl) rfl ?_
    exact GL_yend kr kr
   refine GH_eff 2 kr kr kr ?_
   refine GL_load (i:=2) (ch:=[]) (b:=b1) (off:=4) (v:=.int .u32 s.e) rfl rfl kr kr kr kr kr (At.grp 4 0 rfl rfl) rfl ?_
   refine GH_back kr (fun w h=>(h.erase 4)) ?_
   refine GH_pure (E':=[⟨188,[],.int .u32 (IntKind.wrap .u32 (s.e+((rnds kAt (wAt (byt l)) s i).e)))⟩,⟨182,[],.int .i64 4⟩,⟨3,[],pt b1⟩,⟨6,[],pt b3⟩,⟨13,[],pt b21⟩,⟨179,[],.int .i64 4⟩]) 6 0 kr (fun w h=>(h.erase 4)) kr ?_
   refine GH_take' (E':=[⟨189,[],.pointer (some ⟨b1,4,none⟩)⟩,⟨188,[],.int .u32 (IntKind.wrap .u32 (s.e+((rnds kAt (wAt (byt l)) s i).e)))⟩,⟨182,[],.int .i64 4⟩,⟨3,[],pt b1⟩,⟨6,[],pt b3⟩,⟨13,[],pt b21⟩,⟨179,[],.int .i64 4⟩]) 7 kr (fun w h=>(h.erase 4)) ?_ ?_
   ·
    refine GL_indexArr (i:=7) (ch:=[]) (b:=b1) (off:=0) (len:=8) (sz:=1) (e:=144) (kd:=.i64) (j:=4) rfl rfl kr kr kr kr kr kr kr (fun _=>⟨by decide,by decide⟩) ?_
    exact GL_yend kr kr
   refine GH_eff 8 kr kr kr ?_
   refine GL_store (i:=8) (ch:=[]) (b:=b1) (off:=4) (v:=.int .u32 (IntKind.wrap .u32 (s.e+((rnds kAt (wAt (byt l)) s i).e)))) (c:=#[.int .u32 (IntKind.wrap .u32 (s.a+((rnds kAt (wAt (byt l)) s i).a))),.int .u32 (IntKind.wrap .u32 (s.b+((rnds kAt (wAt (byt l)) s i).b))),.int .u32 (IntKind.wrap .u32 (s.c+((rnds kAt (wAt (byt l)) s i).c))),.int .u32 (IntKind.wrap .u32 (s.d+((rnds kAt (wAt (byt l)) s i).d))),.int .u32 s.e,.int .u32 s.f,.int .u32 s.g,.int .u32 s.h]) (c':=#[.int .u32 (IntKind.wrap .u32 (s.a+((rnds kAt (wAt (byt l)) s i).a))),.int .u32 (IntKind.wrap .u32 (s.b+((rnds kAt (wAt (byt l)) s i).b))),.int .u32 (IntKind.wrap .u32 (s.c+((rnds kAt (wAt (byt l)) s i).c))),.int .u32 (IntKind.wrap .u32 (s.d+((rnds kAt (wAt (byt l)) s i).d))),.int .u32 (IntKind.wrap .u32 (s.e+((rnds kAt (wAt (byt l)) s i).e))),.int .u32 s.f,.int .u32 s.g,.int .u32 s.h]) (j:=4) (m:=0) (H':=([(b21,.cells #[.int .u32 ((rnds kAt (wAt (byt l)) s i).a),.int .u32 ((rnds kAt (wAt (byt l)) s i).b),.int .u32 ((rnds kAt (wAt (byt l)) s i).c),.int .u32 ((rnds kAt (wAt (byt l)) s i).d),.int .u32 ((rnds kAt (wAt (byt l)) s i).e),.int .u32 ((rnds kAt (wAt (byt l)) s i).f),.int .u32 ((rnds kAt (wAt (byt l)) s i).g),.int .u32 ((rnds kAt (wAt (byt l)) s i).h)] 169 (0,0))]::[(b4,.cells (wArr (byt l) 64) 171 (0,0))]::[(b3,.cells #[.int .u32 0,.int .u32 0,.int .u32 0,.int .u32 0,.int .u32 0,.int .u32 0,.int .u32 0,.int .u32 0] 169 (0,0))]::[(b2,.cells kArr 171 (0,0))]::[(b1,.cells #[.int .u32 (IntKind.wrap .u32 (s.a+((rnds kAt (wAt (byt l)) s i).a))),.int .u32 (IntKind.wrap .u32 (s.b+((rnds kAt (wAt (byt l)) s i).b))),.int .u32 (IntKind.wrap .u32 (s.c+((rnds kAt (wAt (byt l)) s i).c))),.int .u32 (IntKind.wrap .u32 (s.d+((rnds kAt (wAt (byt l)) s i).d))),.int .u32 (IntKind.wrap .u32 (s.e+((rnds kAt (wAt (byt l)) s i).e))),.int .u32 s.f,.int .u32 s.g,.int .u32 s.h] 169 (0,0))]::H)) rfl rfl kr kr kr kr kr kr kr rfl rfl (Nat.le_of_ble_eq_true rfl) (fun _ _=>thaw0) kr kr ?_
   refine GH_back kr (fun w h=>(h.erase 4)) ?_
   refine GH_done (E':=[⟨3,[],pt b1⟩,⟨6,[],pt b3⟩,⟨13,[],pt b21⟩,⟨179,[],.int .i64 4⟩]) [3,6,13,179] kr kr ?_
   refine N_block ?_
   refine N_then ?_
   refine G_pure (E':=[⟨3,[],pt b1⟩,⟨6,[],pt b3⟩,⟨13,[],pt b21⟩,⟨179,[],.int .i64 5⟩]) [0,0] [3,6,13,179] rfl kr ?_
   refine N_rd ?_
   refine GRd_succ ?_
   refine G_seq ?_
   refine G_pure (E':=[⟨3,[],pt b1⟩,⟨6,[],pt b3⟩,⟨13,[],pt b21⟩,⟨179,[],.int .i64 5⟩,⟨180,[],.bool true⟩]) [0] [3,6,13,179,180] rfl kr ?_
   refine N_then ?_
   refine G_seq ?_
   refine G_condt kr ?_
   refine G_skip ?_
   refine N_then ?_
   refine G_seq ?_
   refine G_block ?_
   refine G_seq ?_
   refine G_pure (E':=[⟨3,[],pt b1⟩,⟨6,[],pt b3⟩,⟨13,[],pt b21⟩,⟨21,[],.int .i64 5⟩,⟨179,[],.int .i64 5⟩]) [0,0] [3,6,13,21,179] rfl kr ?_
   refine N_then ?_
   refine G_regionH ([(b21,.cells #[.int .u32 ((rnds kAt (wAt (byt l)) s i).a),.int .u32 ((rnds kAt (wAt (byt l)) s i).b),.int .u32 ((rnds kAt (wAt (byt l)) s i).c),.int .u32 ((rnds kAt (wAt (byt l)) s i).d),.int .u32 ((rnds kAt (wAt (byt l)) s i).e),.int .u32 ((rnds kAt (wAt (byt l)) s i).f),.int .u32 ((rnds kAt (wAt (byt l)) s i).g),.int .u32 ((rnds kAt (wAt (byt l)) s i).h)] 169 (0,0))]::[(b4,.cells (wArr (byt l) 64) 171 (0,0))]::[(b3,.cells #[.int .u32 0,.int .u32 0,.int .u32 0,.int .u32 0,.int .u32 0,.int .u32 0,.int .u32 0,.int .u32 0] 169 (0,0))]::[(b2,.cells kArr 171 (0,0))]::H) kr ?_
   refine GH_pure (E':=[⟨182,[],.int .i64 5⟩,⟨3,[],pt b1⟩,⟨6,[],pt b3⟩,⟨13,[],pt b21⟩,⟨21,[],.int .i64 5⟩,⟨179,[],.int .i64 5⟩]) 0 0 kr (fun w h=>(h.erase 4)) kr ?_
   refine GH_take' (E':=[⟨183,[],.pointer (some ⟨b1,5,none⟩)⟩,⟨182,[],.int .i64 5⟩,⟨3,[],pt b1⟩,⟨6,[],pt b3⟩,⟨13,[],pt b21⟩,⟨21,[],.int .i64 5⟩,⟨179,[],.int .i64 5⟩]) 1 kr (fun w h=>(h.erase 4)) ?_ ?_
   ·
    refine GL_indexArr (i:=1) (ch:=[]) (b:=b1) (off:=0) (len:=8) (sz:=1) (e:=144) (kd:=.i64) (j:=5) rfl rfl kr kr kr kr kr kr kr (fun _=>⟨by decide,by decide⟩) ?_
    exact GL_yend kr kr
   refine GH_pure (E':=[⟨185,[],.int .i64 5⟩,⟨183,[],.pointer (some ⟨b1,5,none⟩)⟩,⟨182,[],.int .i64 5⟩,⟨3,[],pt b1⟩,⟨6,[],pt b3⟩,⟨13,[],pt b21⟩,⟨179,[],.int .i64 5⟩]) 3 0 kr (fun w h=>(h.erase 4)) kr ?_
   refine GH_take' (E':=[⟨186,[],.pointer (some ⟨b21,5,none⟩)⟩,⟨185,[],.int .i64 5⟩,⟨183,[],.pointer (some ⟨b1,5,none⟩)⟩,⟨182,[],.int .i64 5⟩,⟨3,[],pt b1⟩,⟨6,[],pt b3⟩,⟨13,[],pt b21⟩,⟨179,[],.int .i64 5⟩]) 4 kr (fun w h=>(h.erase 4)) ?_ ?_
   ·
    refine GL_indexArr (i:=4) (ch:=[]) (b:=b21) (off:=0) (len:=8) (sz:=1) (e:=144) (kd:=.i64) (j:=5) rfl rfl kr kr kr kr kr kr kr (fun _=>⟨by decide,by decide⟩) ?_
    exact GL_yend kr kr
   refine GH_take' (E':=[⟨187,[],.int .u32 ((rnds kAt (wAt (byt l)) s i).f)⟩,⟨186,[],.pointer (some ⟨b21,5,none⟩)⟩,⟨185,[],.int .i64 5⟩,⟨183,[],.pointer (some ⟨b1,5,none⟩)⟩,⟨182,[],.int .i64 5⟩,⟨3,[],pt b1⟩,⟨6,[],pt b3⟩,⟨13,[],pt b21⟩,⟨179,[],.int .i64 5⟩]) 5 kr (fun w h=>(h.erase 4)) ?_ ?_
   ·
    refine GL_load (i:=5) (ch:=[]) (b:=b21) (off:=5) (v:=.int .u32 ((rnds kAt (wAt (byt l)) s i).f)) rfl rfl kr kr kr kr kr (At.grp 0 0 rfl rfl) rfl ?_
    exact GL_yend kr kr
   refine GH_eff 2 kr kr kr ?_
   refine GL_load (i:=2) (ch:=[]) (b:=b1) (off:=5) (v:=.int .u32 s.f) rfl rfl kr kr kr kr kr (At.grp 4 0 rfl rfl) rfl ?_
   refine GH_back kr (fun w h=>(h.erase 4)) ?_
   refine GH_pure (E':=[⟨188,[],.int .u32 (IntKind.wrap .u32 (s.f+((rnds kAt (wAt (byt l)) s i).f)))⟩,⟨182,[],.int .i64 5⟩,⟨3,[],pt b1⟩,⟨6,[],pt b3⟩,⟨13,[],pt b21⟩,⟨179,[],.int .i64 5⟩]) 6 0 kr (fun w h=>(h.erase 4)) kr ?_
   refine GH_take' (E':=[⟨189,[],.pointer (some ⟨b1,5,none⟩)⟩,⟨188,[],.int .u32 (IntKind.wrap .u32 (s.f+((rnds kAt (wAt (byt l)) s i).f)))⟩,⟨182,[],.int .i64 5⟩,⟨3,[],pt b1⟩,⟨6,[],pt b3⟩,⟨13,[],pt b21⟩,⟨179,[],.int .i64 5⟩]) 7 kr (fun w h=>(h.erase 4)) ?_ ?_
   ·
    refine GL_indexArr (i:=7) (ch:=[]) (b:=b1) (off:=0) (len:=8) (sz:=1) (e:=144) (kd:=.i64) (j:=5) rfl rfl kr kr kr kr kr kr kr (fun _=>⟨by decide,by decide⟩) ?_
    exact GL_yend kr kr
   refine GH_eff 8 kr kr kr ?_
   refine GL_store (i:=8) (ch:=[]) (b:=b1) (off:=5) (v:=.int .u32 (IntKind.wrap .u32 (s.f+((rnds kAt (wAt (byt l)) s i).f)))) (c:=#[.int .u32 (IntKind.wrap .u32 (s.a+((rnds kAt (wAt (byt l)) s i).a))),.int .u32 (IntKind.wrap .u32 (s.b+((rnds kAt (wAt (byt l)) s i).b))),.int .u32 (IntKind.wrap .u32 (s.c+((rnds kAt (wAt (byt l)) s i).c))),.int .u32 (IntKind.wrap .u32 (s.d+((rnds kAt (wAt (byt l)) s i).d))),.int .u32 (IntKind.wrap .u32 (s.e+((rnds kAt (wAt (byt l)) s i).e))),.int .u32 s.f,.int .u32 s.g,.int .u32 s.h]) (c':=#[.int .u32 (IntKind.wrap .u32 (s.a+((rnds kAt (wAt (byt l)) s i).a))),.int .u32 (IntKind.wrap .u32 (s.b+((rnds kAt (wAt (byt l)) s i).b))),.int .u32 (IntKind.wrap .u32 (s.c+((rnds kAt (wAt (byt l)) s i).c))),.int .u32 (IntKind.wrap .u32 (s.d+((rnds kAt (wAt (byt l)) s i).d))),.int .u32 (IntKind.wrap .u32 (s.e+((rnds kAt (wAt (byt l)) s i).e))),.int .u32 (IntKind.wrap .u32 (s.f+((rnds kAt (wAt (byt l)) s i).f))),.int .u32 s.g,.int .u32 s.h]) (j:=4) (m:=0) (H':=([(b21,.cells #[.int .u32 ((rnds kAt (wAt (byt l)) s i).a),.int .u32 ((rnds kAt (wAt (byt l)) s i).b),.int .u32 ((rnds kAt (wAt (byt l)) s i).c),.int .u32 ((rnds kAt (wAt (byt l)) s i).d),.int .u32 ((rnds kAt (wAt (byt l)) s i).e),.int .u32 ((rnds kAt (wAt (byt l)) s i).f),.int .u32 ((rnds kAt (wAt (byt l)) s i).g),.int .u32 ((rnds kAt (wAt (byt l)) s i).h)] 169 (0,0))]::[(b4,.cells (wArr (byt l) 64) 171 (0,0))]::[(b3,.cells #[.int .u32 0,.int .u32 0,.int .u32 0,.int .u32 0,.int .u32 0,.int .u32 0,.int .u32 0,.int .u32 0] 169 (0,0))]::[(b2,.cells kArr 171 (0,0))]::[(b1,.cells #[.int .u32 (IntKind.wrap .u32 (s.a+((rnds kAt (wAt (byt l)) s i).a))),.int .u32 (IntKind.wrap .u32 (s.b+((rnds kAt (wAt (byt l)) s i).b))),.int .u32 (IntKind.wrap .u32 (s.c+((rnds kAt (wAt (byt l)) s i).c))),.int .u32 (IntKind.wrap .u32 (s.d+((rnds kAt (wAt (byt l)) s i).d))),.int .u32 (IntKind.wrap .u32 (s.e+((rnds kAt (wAt (byt l)) s i).e))),.int .u32 (IntKind.wrap .u32 (s.f+((rnds kAt (wAt (byt l)) s i).f))),.int .u32 s.g,.int .u32 s.h] 169 (0,0))]::H)) rfl rfl kr kr kr kr kr kr kr rfl rfl (Nat.le_of_ble_eq_true rfl) (fun _ _=>thaw0) kr kr ?_
   refine GH_back kr (fun w h=>(h.erase 4)) ?_
   refine GH_done (E':=[⟨3,[],pt b1⟩,⟨6,[],pt b3⟩,⟨13,[],pt b21⟩,⟨179,[],.int .i64 5⟩]) [3,6,13,179] kr kr ?_
   refine N_block ?_
   refine N_then ?_
   refine G_pure (E':=[⟨3,[],pt b1⟩,⟨6,[],pt b3⟩,⟨13,[],pt b21⟩,⟨179,[],.int .i64 6⟩]) [0,0] [3,6,13,179] rfl kr ?_
   refine N_rd ?_
   refine GRd_succ ?_
   refine G_seq ?_
   refine G_pure (E':=[⟨3,[],pt b1⟩,⟨6,[],pt b3⟩,⟨13,[],pt b21⟩,⟨179,[],.int .i64 6⟩,⟨180,[],.bool true⟩]) [0] [3,6,13,179,180] rfl kr ?_
   refine N_then ?_
   refine G_seq ?_
   refine G_condt kr ?_
   refine G_skip ?_
   refine N_then ?_
   refine G_seq ?_
   refine G_block ?_
   refine G_seq ?_
   refine G_pure (E':=[⟨3,[],pt b1⟩,⟨6,[],pt b3⟩,⟨13,[],pt b21⟩,⟨21,[],.int .i64 6⟩,⟨179,[],.int .i64 6⟩]) [0,0] [3,6,13,21,179] rfl kr ?_
   refine N_then ?_
   refine G_regionH ([(b21,.cells #[.int .u32 ((rnds kAt (wAt (byt l)) s i).a),.int .u32 ((rnds kAt (wAt (byt l)) s i).b),.int .u32 ((rnds kAt (wAt (byt l)) s i).c),.int .u32 ((rnds kAt (wAt (byt l)) s i).d),.int .u32 ((rnds kAt (wAt (byt l)) s i).e),.int .u32 ((rnds kAt (wAt (byt l)) s i).f),.int .u32 ((rnds kAt (wAt (byt l)) s i).g),.int .u32 ((rnds kAt (wAt (byt l)) s i).h)] 169 (0,0))]::[(b4,.cells (wArr (byt l) 64) 171 (0,0))]::[(b3,.cells #[.int .u32 0,.int .u32 0,.int .u32 0,.int .u32 0,.int .u32 0,.int .u32 0,.int .u32 0,.int .u32 0] 169 (0,0))]::[(b2,.cells kArr 171 (0,0))]::H) kr ?_
   refine GH_pure (E':=[⟨182,[],.int .i64 6⟩,⟨3,[],pt b1⟩,⟨6,[],pt b3⟩,⟨13,[],pt b21⟩,⟨21,[],.int .i64 6⟩,⟨179,[],.int .i64 6⟩]) 0 0 kr (fun w h=>(h.erase 4)) kr ?_
   refine GH_take' (E':=[⟨183,[],.pointer (some ⟨b1,6,none⟩)⟩,⟨182,[],.int .i64 6⟩,⟨3,[],pt b1⟩,⟨6,[],pt b3⟩,⟨13,[],pt b21⟩,⟨21,[],.int .i64 6⟩,⟨179,[],.int .i64 6⟩]) 1 kr (fun w h=>(h.erase 4)) ?_ ?_
   ·
    refine GL_indexArr (i:=1) (ch:=[]) (b:=b1) (off:=0) (len:=8) (sz:=1) (e:=144) (kd:=.i64) (j:=6) rfl rfl kr kr kr kr kr kr kr (fun _=>⟨by decide,by decide⟩) ?_
    exact GL_yend kr kr
   refine GH_pure (E':=[⟨185,[],.int .i64 6⟩,⟨183,[],.pointer (some ⟨b1,6,none⟩)⟩,⟨182,[],.int .i64 6⟩,⟨3,[],pt b1⟩,⟨6,[],pt b3⟩,⟨13,[],pt b21⟩,⟨179,[],.int .i64 6⟩]) 3 0 kr (fun w h=>(h.erase 4)) kr ?_
   refine GH_take' (E':=[⟨186,[],.pointer (some ⟨b21,6,none⟩)⟩,⟨185,[],.int .i64 6⟩,⟨183,[],.pointer (some ⟨b1,6,none⟩)⟩,⟨182,[],.int .i64 6⟩,⟨3,[],pt b1⟩,⟨6,[],pt b3⟩,⟨13,[],pt b21⟩,⟨179,[],.int .i64 6⟩]) 4 kr (fun w h=>(h.erase 4)) ?_ ?_
   ·
    refine GL_indexArr (i:=4) (ch:=[]) (b:=b21) (off:=0) (len:=8) (sz:=1) (e:=144) (kd:=.i64) (j:=6) rfl rfl kr kr kr kr kr kr kr (fun _=>⟨by decide,by decide⟩) ?_
    exact GL_yend kr kr
   refine GH_take' (E':=[⟨187,[],.int .u32 ((rnds kAt (wAt (byt l)) s i).g)⟩,⟨186,[],.pointer (some ⟨b21,6,none⟩)⟩,⟨185,[],.int .i64 6⟩,⟨183,[],.pointer (some ⟨b1,6,none⟩)⟩,⟨182,[],.int .i64 6⟩,⟨3,[],pt b1⟩,⟨6,[],pt b3⟩,⟨13,[],pt b21⟩,⟨179,[],.int .i64 6⟩]) 5 kr (fun w h=>(h.erase 4)) ?_ ?_
   ·
    refine GL_load (i:=5) (ch:=[]) (b:=b21) (off:=6) (v:=.int .u32 ((rnds kAt (wAt (byt l)) s i).g)) rfl rfl kr kr kr kr kr (At.grp 0 0 rfl rfl) rfl ?_
    exact GL_yend kr kr
   refine GH_eff 2 kr kr kr ?_
   refine GL_load (i:=2) (ch:=[]) (b:=b1) (off:=6) (v:=.int .u32 s.g) rfl rfl kr kr kr kr kr (At.grp 4 0 rfl rfl) rfl ?_
   refine GH_back kr (fun w h=>(h.erase 4)) ?_
   refine GH_pure (E':=[⟨188,[],.int .u32 (IntKind.wrap .u32 (s.g+((rnds kAt (wAt (byt l)) s i).g)))⟩,⟨182,[],.int .i64 6⟩,⟨3,[],pt b1⟩,⟨6,[],pt b3⟩,⟨13,[],pt b21⟩,⟨179,[],.int .i64 6⟩]) 6 0 kr (fun w h=>(h.erase 4)) kr ?_
   refine GH_take' (E':=[⟨189,[],.pointer (some ⟨b1,6,none⟩)⟩,⟨188,[],.int .u32 (IntKind.wrap .u32 (s.g+((rnds kAt (wAt (byt l)) s i).g)))⟩,⟨182,[],.int .i64 6⟩,⟨3,[],pt b1⟩,⟨6,[],pt b3⟩,⟨13,[],pt b21⟩,⟨179,[],.int .i64 6⟩]) 7 kr (fun w h=>(h.erase 4)) ?_ ?_
   ·
    refine GL_indexArr (i:=7) (ch:=[]) (b:=b1) (off:=0) (len:=8) (sz:=1) (e:=144) (kd:=.i64) (j:=6) rfl rfl kr kr kr kr kr kr kr (fun _=>⟨by decide,by decide⟩) ?_
    exact GL_yend kr kr
   refine GH_eff 8 kr kr kr ?_
   refine GL_store (i:=8) (ch:=[]) (b:=b1) (off:=6) (v:=.int .u32 (IntKind.wrap .u32 (s.g+((rnds kAt (wAt (byt l)) s i).g)))) (c:=#[.int .u32 (IntKind.wrap .u32 (s.a+((rnds kAt (wAt (byt l)) s i).a))),.int .u32 (IntKind.wrap .u32 (s.b+((rnds kAt (wAt (byt l)) s i).b))),.int .u32 (IntKind.wrap .u32 (s.c+((rnds kAt (wAt (byt l)) s i).c))),.int .u32 (IntKind.wrap .u32 (s.d+((rnds kAt (wAt (byt l)) s i).d))),.int .u32 (IntKind.wrap .u32 (s.e+((rnds kAt (wAt (byt l)) s i).e))),.int .u32 (IntKind.wrap .u32 (s.f+((rnds kAt (wAt (byt l)) s i).f))),.int .u32 s.g,.int .u32 s.h]) (c':=#[.int .u32 (IntKind.wrap .u32 (s.a+((rnds kAt (wAt (byt l)) s i).a))),.int .u32 (IntKind.wrap .u32 (s.b+((rnds kAt (wAt (byt l)) s i).b))),.int .u32 (IntKind.wrap .u32 (s.c+((rnds kAt (wAt (byt l)) s i).c))),.int .u32 (IntKind.wrap .u32 (s.d+((rnds kAt (wAt (byt l)) s i).d))),.int .u32 (IntKind.wrap .u32 (s.e+((rnds kAt (wAt (byt l)) s i).e))),.int .u32 (IntKind.wrap .u32 (s.f+((rnds kAt (wAt (byt l)) s i).f))),.int .u32 (IntKind.wrap .u32 (s.g+((rnds kAt (wAt (byt l)) s i).g))),.int .u32 s.h]) (j:=4) (m:=0) (H':=([(b21,.cells #[.int .u32 ((rnds kAt (wAt (byt l)) s i).a),.int .u32 ((rnds kAt (wAt (byt l)) s i).b),.int .u32 ((rnds kAt (wAt (byt l)) s i).c),.int .u32 ((rnds kAt (wAt (byt l)) s i).d),.int .u32 ((rnds kAt (wAt (byt l)) s i).e),.int .u32 ((rnds kAt (wAt (byt l)) s i).f),.int .u32 ((rnds kAt (wAt (byt l)) s i).g),.int .u32 ((rnds kAt (wAt (byt l)) s i).h)] 169 (0,0))]::[(b4,.cells (wArr (byt l) 64) 171 (0,0))]::[(b3,.cells #[.int .u32 0,.int .u32 0,.int .u32 0,.int .u32 0,.int .u32 0,.int .u32 0,.int .u32 0,.int .u32 0] 169 (0,0))]::[(b2,.cells kArr 171 (0,0))]::[(b1,.cells #[.int .u32 (IntKind.wrap .u32 (s.a+((rnds kAt (wAt (byt l)) s i).a))),.int .u32 (IntKind.wrap .u32 (s.b+((rnds kAt (wAt (byt l)) s i).b))),.int .u32 (IntKind.wrap .u32 (s.c+((rnds kAt (wAt (byt l)) s i).c))),.int .u32 (IntKind.wrap .u32 (s.d+((rnds kAt (wAt (byt l)) s i).d))),.int .u32 (IntKind.wrap .u32 (s.e+((rnds kAt (wAt (byt l)) s i).e))),.int .u32 (IntKind.wrap .u32 (s.f+((rnds kAt (wAt (byt l)) s i).f))),.int .u32 (IntKind.wrap .u32 (s.g+((rnds kAt (wAt (byt l)) s i).g))),.int .u32 s.h] 169 (0,0))]::H)) rfl rfl kr kr kr kr kr kr kr rfl rfl (Nat.le_of_ble_eq_true rfl) (fun _ _=>thaw0) kr kr ?_
   refine GH_back kr (fun w h=>(h.erase 4)) ?_
   refine GH_done (E':=[⟨3,[],pt b1⟩,⟨6,[],pt b3⟩,⟨13,[],pt b21⟩,⟨179,[],.int .i64 6⟩]) [3,6,13,179] kr kr ?_
   refine N_block ?_
   refine N_then ?_
   refine G_pure (E':=[⟨3,[],pt b1⟩,⟨6,[],pt b3⟩,⟨13,[],pt b21⟩,⟨179,[],.int .i64 7⟩]) [0,0] [3,6,13,179] rfl kr ?_
   refine N_rd ?_
   refine GRd_succ ?_
   refine G_seq ?_
   refine G_pure (E':=[⟨3,[],pt b1⟩,⟨6,[],pt b3⟩,⟨13,[],pt b21⟩,⟨179,[],.int .i64 7⟩,⟨180,[],.bool true⟩]) [0] [3,6,13,179,180] rfl kr ?_
   refine N_then ?_
   refine G_seq ?_
   refine G_condt kr ?_
   refine G_skip ?_
   refine N_then ?_
   refine G_seq ?_
   refine G_block ?_
   refine G_seq ?_
   refine G_pure (E':=[⟨3,[],pt b1⟩,⟨6,[],pt b3⟩,⟨13,[],pt b21⟩,⟨21,[],.int .i64 7⟩,⟨179,[],.int .i64 7⟩]) [0,0] [3,6,13,21,179] rfl kr ?_
   refine N_then ?_
   refine G_regionH ([(b21,.cells #[.int .u32 ((rnds kAt (wAt (byt l)) s i).a),.int .u32 ((rnds kAt (wAt (byt l)) s i).b),.int .u32 ((rnds kAt (wAt (byt l)) s i).c),.int .u32 ((rnds kAt (wAt (byt l)) s i).d),.int .u32 ((rnds kAt (wAt (byt l)) s i).e),.int .u32 ((rnds kAt (wAt (byt l)) s i).f),.int .u32 ((rnds kAt (wAt (byt l)) s i).g),.int .u32 ((rnds kAt (wAt (byt l)) s i).h)] 169 (0,0))]::[(b4,.cells (wArr (byt l) 64) 171 (0,0))]::[(b3,.cells #[.int .u32 0,.int .u32 0,.int .u32 0,.int .u32 0,.int .u32 0,.int .u32 0,.int .u32 0,.int .u32 0] 169 (0,0))]::[(b2,.cells kArr 171 (0,0))]::H) kr ?_
   refine GH_pure (E':=[⟨182,[],.int .i64 7⟩,⟨3,[],pt b1⟩,⟨6,[],pt b3⟩,⟨13,[],pt b21⟩,⟨21,[],.int .i64 7⟩,⟨179,[],.int .i64 7⟩]) 0 0 kr (fun w h=>(h.erase 4)) kr ?_
   refine GH_take' (E':=[⟨183,[],.pointer (some ⟨b1,7,none⟩)⟩,⟨182,[],.int .i64 7⟩,⟨3,[],pt b1⟩,⟨6,[],pt b3⟩,⟨13,[],pt b21⟩,⟨21,[],.int .i64 7⟩,⟨179,[],.int .i64 7⟩]) 1 kr (fun w h=>(h.erase 4)) ?_ ?_
   ·
    refine GL_indexArr (i:=1) (ch:=[]) (b:=b1) (off:=0) (len:=8) (sz:=1) (e:=144) (kd:=.i64) (j:=7) rfl rfl kr kr kr kr kr kr kr (fun _=>⟨by decide,by decide⟩) ?_
    exact GL_yend kr kr
   refine GH_pure (E':=[⟨185,[],.int .i64 7⟩,⟨183,[],.pointer (some ⟨b1,7,none⟩)⟩,⟨182,[],.int .i64 7⟩,⟨3,[],pt b1⟩,⟨6,[],pt b3⟩,⟨13,[],pt b21⟩,⟨179,[],.int .i64 7⟩]) 3 0 kr (fun w h=>(h.erase 4)) kr ?_
   refine GH_take' (E':=[⟨186,[],.pointer (some ⟨b21,7,none⟩)⟩,⟨185,[],.int .i64 7⟩,⟨183,[],.pointer (some ⟨b1,7,none⟩)⟩,⟨182,[],.int .i64 7⟩,⟨3,[],pt b1⟩,⟨6,[],pt b3⟩,⟨13,[],pt b21⟩,⟨179,[],.int .i64 7⟩]) 4 kr (fun w h=>(h.erase 4)) ?_ ?_
   ·
    refine GL_indexArr (i:=4) (ch:=[]) (b:=b21) (off:=0) (len:=8) (sz:=1) (e:=144) (kd:=.i64) (j:=7) rfl rfl kr kr kr kr kr kr kr (fun _=>⟨by decide,by decide⟩) ?_
    exact GL_yend kr kr
   refine GH_take' (E':=[⟨187,[],.int .u32 ((rnds kAt (wAt (byt l)) s i).h)⟩,⟨186,[],.pointer (some ⟨b21,7,none⟩)⟩,⟨185,[],.int .i64 7⟩,⟨183,[],.pointer (some ⟨b1,7,none⟩)⟩,⟨182,[],.int .i64 7⟩,⟨3,[],pt b1⟩,⟨6,[],pt b3⟩,⟨13,[],pt b21⟩,⟨179,[],.int .i64 7⟩]) 5 kr (fun w h=>(h.erase 4)) ?_ ?_
   ·
    refine GL_load (i:=5) (ch:=[]) (b:=b21) (off:=7) (v:=.int .u32 ((rnds kAt (wAt (byt l)) s i).h)) rfl rfl kr kr kr kr kr (At.grp 0 0 rfl rfl) rfl ?_
    exact GL_yend kr kr
   refine GH_eff 2 kr kr kr ?_
   refine GL_load (i:=2) (ch:=[]) (b:=b1) (off:=7) (v:=.int .u32 s.h) rfl rfl kr kr kr kr kr (At.grp 4 0 rfl rfl) rfl ?_
   refine GH_back kr (fun w h=>(h.erase 4)) ?_
   refine GH_pure (E':=[⟨188,[],.int .u32 (IntKind.wrap .u32 (s.h+((rnds kAt (wAt (byt l)) s i).h)))⟩,⟨182,[],.int .i64 7⟩,⟨3,[],pt b1⟩,⟨6,[],pt b3⟩,⟨13,[],pt b21⟩,⟨179,[],.int .i64 7⟩]) 6 0 kr (fun w h=>(h.erase 4)) kr ?_
   refine GH_take' (E':=[⟨189,[],.pointer (some ⟨b1,7,none⟩)⟩,⟨188,[],.int .u32 (IntKind.wrap .u32 (s.h+((rnds kAt (wAt (byt l)) s i).h)))⟩,⟨182,[],.int .i64 7⟩,⟨3,[],pt b1⟩,⟨6,[],pt b3⟩,⟨13,[],pt b21⟩,⟨179,[],.int .i64 7⟩]) 7 kr (fun w h=>(h.erase 4)) ?_ ?_
   ·
    refine GL_indexArr (i:=7) (ch:=[]) (b:=b1) (off:=0) (len:=8) (sz:=1) (e:=144) (kd:=.i64) (j:=7) rfl rfl kr kr kr kr kr kr kr (fun _=>⟨by decide,by decide⟩) ?_
    exact GL_yend kr kr
   refine GH_eff 8 kr kr kr ?_
   refine GL_store (i:=8) (ch:=[]) (b:=b1) (off:=7) (v:=.int .u32 (IntKind.wrap .u32 (s.h+((rnds kAt (wAt (byt l)) s i).h)))) (c:=#[.int .u32 (IntKind.wrap .u32 (s.a+((rnds kAt (wAt (byt l)) s i).a))),.int .u32 (IntKind.wrap .u32 (s.b+((rnds kAt (wAt (byt l)) s i).b))),.int .u32 (IntKind.wrap .u32 (s.c+((rnds kAt (wAt (byt l)) s i).c))),.int .u32 (IntKind.wrap .u32 (s.d+((rnds kAt (wAt (byt l)) s i).d))),.int .u32 (IntKind.wrap .u32 (s.e+((rnds kAt (wAt (byt l)) s i).e))),.int .u32 (IntKind.wrap .u32 (s.f+((rnds kAt (wAt (byt l)) s i).f))),.int .u32 (IntKind.wrap .u32 (s.g+((rnds kAt (wAt (byt l)) s i).g))),.int .u32 s.h]) (c':=#[.int .u32 (IntKind.wrap .u32 (s.a+((rnds kAt (wAt (byt l)) s i).a))),.int .u32 (IntKind.wrap .u32 (s.b+((rnds kAt (wAt (byt l)) s i).b))),.int .u32 (IntKind.wrap .u32 (s.c+((rnds kAt (wAt (byt l)) s i).c))),.int .u32 (IntKind.wrap .u32 (s.d+((rnds kAt (wAt (byt l)) s i).d))),.int .u32 (IntKind.wrap .u32 (s.e+((rnds kAt (wAt (byt l)) s i).e))),.int .u32 (IntKind.wrap .u32 (s.f+((rnds kAt (wAt (byt l)) s i).f))),.int .u32 (IntKind.wrap .u32 (s.g+((rnds kAt (wAt (byt l)) s i).g))),.int .u32 (IntKind.wrap .u32 (s.h+((rnds kAt (wAt (byt l)) s i).h)))]) (j:=4) (m:=0) (H':=([(b21,.cells #[.int .u32 ((rnds kAt (wAt (byt l)) s i).a),.int .u32 ((rnds kAt (wAt (byt l)) s i).b),.int .u32 ((rnds kAt (wAt (byt l)) s i).c),.int .u32 ((rnds kAt (wAt (byt l)) s i).d),.int .u32 ((rnds kAt (wAt (byt l)) s i).e),.int .u32 ((rnds kAt (wAt (byt l)) s i).f),.int .u32 ((rnds kAt (wAt (byt l)) s i).g),.int .u32 ((rnds kAt (wAt (byt l)) s i).h)] 169 (0,0))]::[(b4,.cells (wArr (byt l) 64) 171 (0,0))]::[(b3,.cells #[.int .u32 0,.int .u32 0,.int .u32 0,.int .u32 0,.int .u32 0,.int .u32 0,.int .u32 0,.int .u32 0] 169 (0,0))]::[(b2,.cells kArr 171 (0,0))]::[(b1,.cells #[.int .u32 (IntKind.wrap .u32 (s.a+((rnds kAt (wAt (byt l)) s i).a))),.int .u32 (IntKind.wrap .u32 (s.b+((rnds kAt (wAt (byt l)) s i).b))),.int .u32 (IntKind.wrap .u32 (s.c+((rnds kAt (wAt (byt l)) s i).c))),.int .u32 (IntKind.wrap .u32 (s.d+((rnds kAt (wAt (byt l)) s i).d))),.int .u32 (IntKind.wrap .u32 (s.e+((rnds kAt (wAt (byt l)) s i).e))),.int .u32 (IntKind.wrap .u32 (s.f+((rnds kAt (wAt (byt l)) s i).f))),.int .u32 (IntKind.wrap .u32 (s.g+((rnds kAt (wAt (byt l)) s i).g))),.int .u32 (IntKind.wrap .u32 (s.h+((rnds kAt (wAt (byt l)) s i).h)))] 169 (0,0))]::H)) rfl rfl kr kr kr kr kr kr kr rfl rfl (Nat.le_of_ble_eq_true rfl) (fun _ _=>thaw0) kr kr ?_
   refine GH_back kr (fun w h=>(h.erase 4)) ?_
   refine GH_done (E':=[⟨3,[],pt b1⟩,⟨6,[],pt b3⟩,⟨13,[],pt b21⟩,⟨179,[],.int .i64 7⟩]) [3,6,13,179] kr kr ?_
   refine N_block ?_
   refine N_then ?_
   refine G_pure (E':=[⟨3,[],pt b1⟩,⟨6,[],pt b3⟩,⟨13,[],pt b21⟩,⟨179,[],.int .i64 8⟩]) [0,0] [3,6,13,179] rfl kr ?_
   refine N_rd ?_
   refine GRd_succ ?_
   refine G_seq ?_
   refine G_pure (E':=[⟨3,[],pt b1⟩,⟨6,[],pt b3⟩,⟨13,[],pt b21⟩,⟨179,[],.int .i64 8⟩,⟨180,[],.bool false⟩]) [0] [3,6,13,179,180] rfl kr ?_
   refine N_then ?_
   refine G_seq ?_
   refine G_condf kr ?_
   refine G_exit ?_
   refine N_then_exit ?_
   refine N_then_exit ?_
   refine N_block_exit ?_
   refine N_then ?_
   refine G_seq ?_
   refine G_region ?_
   refine GL_loadA (i:=0) (ch:=[]) (b:=b1) (off:=0) (l:=[.int .u32 (IntKind.wrap .u32 (s.a+((rnds kAt (wAt (byt l)) s i).a))),.int .u32 (IntKind.wrap .u32 (s.b+((rnds kAt (wAt (byt l)) s i).b))),.int .u32 (IntKind.wrap .u32 (s.c+((rnds kAt (wAt (byt l)) s i).c))),.int .u32 (IntKind.wrap .u32 (s.d+((rnds kAt (wAt (byt l)) s i).d))),.int .u32 (IntKind.wrap .u32 (s.e+((rnds kAt (wAt (byt l)) s i).e))),.int .u32 (IntKind.wrap .u32 (s.f+((rnds kAt (wAt (byt l)) s i).f))),.int .u32 (IntKind.wrap .u32 (s.g+((rnds kAt (wAt (byt l)) s i).g))),.int .u32 (IntKind.wrap .u32 (s.h+((rnds kAt (wAt (byt l)) s i).h)))]) rfl rfl kr kr kr kr kr kr (At.grp 4 0 rfl rfl) kr ?_
   refine GL_store (i:=1) (ch:=[]) (b:=b3) (off:=0) (v:=.agg #[.int .u32 (IntKind.wrap .u32 (s.a+((rnds kAt (wAt (byt l)) s i).a))),.int .u32 (IntKind.wrap .u32 (s.b+((rnds kAt (wAt (byt l)) s i).b))),.int .u32 (IntKind.wrap .u32 (s.c+((rnds kAt (wAt (byt l)) s i).c))),.int .u32 (IntKind.wrap .u32 (s.d+((rnds kAt (wAt (byt l)) s i).d))),.int .u32 (IntKind.wrap .u32 (s.e+((rnds kAt (wAt (byt l)) s i).e))),.int .u32 (IntKind.wrap .u32 (s.f+((rnds kAt (wAt (byt l)) s i).f))),.int .u32 (IntKind.wrap .u32 (s.g+((rnds kAt (wAt (byt l)) s i).g))),.int .u32 (IntKind.wrap .u32 (s.h+((rnds kAt (wAt (byt l)) s i).h)))]) (c:=#[.int .u32 0,.int .u32 0,.int .u32 0,.int .u32 0,.int .u32 0,.int .u32 0,.int .u32 0,.int .u32 0]) (c':=#[.int .u32 (IntKind.wrap .u32 (s.a+((rnds kAt (wAt (byt l)) s i).a))),.int .u32 (IntKind.wrap .u32 (s.b+((rnds kAt (wAt (byt l)) s i).b))),.int .u32 (IntKind.wrap .u32 (s.c+((rnds kAt (wAt (byt l)) s i).c))),.int .u32 (IntKind.wrap .u32 (s.d+((rnds kAt (wAt (byt l)) s i).d))),.int .u32 (IntKind.wrap .u32 (s.e+((rnds kAt (wAt (byt l)) s i).e))),.int .u32 (IntKind.wrap .u32 (s.f+((rnds kAt (wAt (byt l)) s i).f))),.int .u32 (IntKind.wrap .u32 (s.g+((rnds kAt (wAt (byt l)) s i).g))),.int .u32 (IntKind.wrap .u32 (s.h+((rnds kAt (wAt (byt l)) s i).h)))]) (j:=2) (m:=0) (H':=([(b21,.cells #[.int .u32 ((rnds kAt (wAt (byt l)) s i).a),.int .u32 ((rnds kAt (wAt (byt l)) s i).b),.int .u32 ((rnds kAt (wAt (byt l)) s i).c),.int .u32 ((rnds kAt (wAt (byt l)) s i).d),.int .u32 ((rnds kAt (wAt (byt l)) s i).e),.int .u32 ((rnds kAt (wAt (byt l)) s i).f),.int .u32 ((rnds kAt (wAt (byt l)) s i).g),.int .u32 ((rnds kAt (wAt (byt l)) s i).h)] 169 (0,0))]::[(b4,.cells (wArr (byt l) 64) 171 (0,0))]::[(b3,.cells #[.int .u32 (IntKind.wrap .u32 (s.a+((rnds kAt (wAt (byt l)) s i).a))),.int .u32 (IntKind.wrap .u32 (s.b+((rnds kAt (wAt (byt l)) s i).b))),.int .u32 (IntKind.wrap .u32 (s.c+((rnds kAt (wAt (byt l)) s i).c))),.int .u32 (IntKind.wrap .u32 (s.d+((rnds kAt (wAt (byt l)) s i).d))),.int .u32 (IntKind.wrap .u32 (s.e+((rnds kAt (wAt (byt l)) s i).e))),.int .u32 (IntKind.wrap .u32 (s.f+((rnds kAt (wAt (byt l)) s i).f))),.int .u32 (IntKind.wrap .u32 (s.g+((rnds kAt (wAt (byt l)) s i).g))),.int .u32 (IntKind.wrap .u32 (s.h+((rnds kAt (wAt (byt l)) s i).h)))] 169 (0,0))]::[(b2,.cells kArr 171 (0,0))]::[(b1,.cells #[.int .u32 (IntKind.wrap .u32 (s.a+((rnds kAt (wAt (byt l)) s i).a))),.int .u32 (IntKind.wrap .u32 (s.b+((rnds kAt (wAt (byt l)) s i).b))),.int .u32 (IntKind.wrap .u32 (s.c+((rnds kAt (wAt (byt l)) s i).c))),.int .u32 (IntKind.wrap .u32 (s.d+((rnds kAt (wAt (byt l)) s i).d))),.int .u32 (IntKind.wrap .u32 (s.e+((rnds kAt (wAt (byt l)) s i).e))),.int .u32 (IntKind.wrap .u32 (s.f+((rnds kAt (wAt (byt l)) s i).f))),.int .u32 (IntKind.wrap .u32 (s.g+((rnds kAt (wAt (byt l)) s i).g))),.int .u32 (IntKind.wrap .u32 (s.h+((rnds kAt (wAt (byt l)) s i).h)))] 169 (0,0))]::H)) rfl rfl kr kr kr kr kr kr kr rfl rfl (Nat.le_of_ble_eq_true rfl) (fun _ _=>thaw0) kr kr ?_
   refine GL_fin (E':=[⟨6,[],pt b3⟩]) [] [6] rfl kr ?_
   refine N_then ?_
   refine G_ret ?_
   refine N_retC [.cell 6 169] [.agg #[.int .u32 (IntKind.wrap .u32 (s.a+((rnds kAt (wAt (byt l)) s i).a))),.int .u32 (IntKind.wrap .u32 (s.b+((rnds kAt (wAt (byt l)) s i).b))),.int .u32 (IntKind.wrap .u32 (s.c+((rnds kAt (wAt (byt l)) s i).c))),.int .u32 (IntKind.wrap .u32 (s.d+((rnds kAt (wAt (byt l)) s i).d))),.int .u32 (IntKind.wrap .u32 (s.e+((rnds kAt (wAt (byt l)) s i).e))),.int .u32 (IntKind.wrap .u32 (s.f+((rnds kAt (wAt (byt l)) s i).f))),.int .u32 (IntKind.wrap .u32 (s.g+((rnds kAt (wAt (byt l)) s i).g))),.int .u32 (IntKind.wrap .u32 (s.h+((rnds kAt (wAt (byt l)) s i).h)))]] rfl (.cons (.agg (b:=b3) (off:=0) (l:=[.int .u32 (IntKind.wrap .u32 (s.a+((rnds kAt (wAt (byt l)) s i).a))),.int .u32 (IntKind.wrap .u32 (s.b+((rnds kAt (wAt (byt l)) s i).b))),.int .u32 (IntKind.wrap .u32 (s.c+((rnds kAt (wAt (byt l)) s i).c))),.int .u32 (IntKind.wrap .u32 (s.d+((rnds kAt (wAt (byt l)) s i).d))),.int .u32 (IntKind.wrap .u32 (s.e+((rnds kAt (wAt (byt l)) s i).e))),.int .u32 (IntKind.wrap .u32 (s.f+((rnds kAt (wAt (byt l)) s i).f))),.int .u32 (IntKind.wrap .u32 (s.g+((rnds kAt (wAt (byt l)) s i).g))),.int .u32 (IntKind.wrap .u32 (s.h+((rnds kAt (wAt (byt l)) s i).h)))]) kr kr kr (At.grp 2 0 rfl rfl) kr) (.nil)) rfl ⟨H,?_,fun w h=>(((((h.erase 4).erase 3).erase 2).erase 1).erase 0)⟩
   exact ⟨by rw [hi3]; kernel_rfl, rfl⟩
end Go.Proofs.YtlaoeiaaeifidaaGreat
namespace Go.Proofs.YtlaoeiaaeifidaaGreat
open Go.Sw Go.Sha
theorem grow_ (n : Nat) (hn : n ≤ 1099511627776) (W0 : World) (H : List Grp) : Tri Tryz.prog 138 #[.slice none 0 0, .int .i64 ((n : Nat) : Int)] W0 H (fun v H' => ∃ g, Go.Sw.Own 5 1 v g 0 [] ∧ H' = g :: H) := by
 refine Tri_of (args := [.slice none 0 0, .int .i64 ((n : Nat) : Int)]) (n := 27) Tryz.func138 rfl rfl (Nat.le_of_ble_eq_true rfl) ?_
 refine G_seq ?_
 refine G_pure (E':=[⟨0,[],.slice none 0 0⟩,⟨1,[],.int .i64 ((n : Nat) : Int)⟩]) [0] [0,1] rfl kr ?_
 refine N_then ?_
 refine G_seq ?_
 refine G_seq ?_
 refine G_pure (E':=[⟨0,[],.slice none 0 0⟩,⟨1,[],.int .i64 ((n : Nat) : Int)⟩,⟨6,[],.bool (decide (((n : Nat) : Int) < 0))⟩]) [0,0] [0,1,6] rfl kr ?_
 refine N_then ?_
 refine G_cond (b:=decide (((n : Nat) : Int) < 0)) kr (fun hc1=>?_) (fun hc1=>?_)
 ·
  have h9 := of_decide_eq_true hc1; exact absurd h9 (by omega)
 ·
  skip
  refine G_skip ?_
  refine N_then ?_
  refine G_seq ?_
  refine G_seq ?_
  have hw2 : IntKind.wrap .i64 (((n : Nat) : Int) - 0) = ((n : Nat) : Int) - 0 := w64 (by omega) (by omega)
  refine G_pure (E':=[⟨0,[],.slice none 0 0⟩,⟨1,[],.int .i64 (((n : Nat) : Int) - 0)⟩]) [0,0,0,0,0,0,0,0] [0,1] rfl (Eq.trans (b:=some [⟨0,[],.slice none 0 0⟩,⟨1,[],.int .i64 (IntKind.wrap .i64 (((n : Nat) : Int) - 0))⟩]) kr (by simp only [hw2])) ?_
  refine N_then ?_
  refine G_seq ?_
  refine G_pure (E':=[⟨0,[],.slice none 0 0⟩,⟨1,[],.int .i64 (((n : Nat) : Int) - 0)⟩,⟨16,[],.bool (decide ((((n : Nat) : Int) - 0) > 0))⟩]) [0,0] [0,1,16] rfl kr ?_
  refine N_then ?_
  refine G_cond (b:=decide ((((n : Nat) : Int) - 0) > 0)) kr (fun hc3=>?_) (fun hc3=>?_)
  ·
   have h0 := of_decide_eq_true hc3
   refine G_region ?_
   refine GL_pure (E':=[⟨19,[],.int .i64 0⟩,⟨17,[],.slice none 0 0⟩,⟨0,[],.slice none 0 0⟩,⟨1,[],.int .i64 (((n : Nat) : Int) - 0)⟩]) [0,0,0] kr (j:=3) rfl ?_
   refine GL_sliceL (i:=3) (ch:=[]) (a:=none) (len:=0) (cap:=0) (e:=5) (sz:=1) (vl:=none) (vh:=(some (.int .i64 0))) (l:=0) (h:=0) rfl rfl kr kr kr kr kr kr kr kr kr kr (by omega) ?_
   refine GL_env (E':=[⟨20,[],.slice none 0 0⟩,⟨19,[],.int .i64 0⟩,⟨17,[],.slice none 0 0⟩,⟨0,[],.slice none 0 0⟩,⟨1,[],.int .i64 (((n : Nat) : Int) - 0)⟩]) (by have hz : ([⟨20,[],.slice (cutA none 0 0 1) (0 - 0) (0 - 0)⟩,⟨19,[],.int .i64 0⟩,⟨17,[],.slice none 0 0⟩,⟨0,[],.slice none 0 0⟩,⟨1,[],.int .i64 (((n : Nat) : Int) - 0)⟩] : List Sl) = [⟨20,[],.slice none 0 0⟩,⟨19,[],.int .i64 0⟩,⟨17,[],.slice none 0 0⟩,⟨0,[],.slice none 0 0⟩,⟨1,[],.int .i64 (((n : Nat) : Int) - 0)⟩]:=kr; exact Eq.trans kr hz) ?_
   refine GL_pure (E':=[⟨21,[],.int .i64 (((n : Nat) : Int) - 0)⟩,⟨20,[],.slice none 0 0⟩,⟨0,[],.slice none 0 0⟩]) [0] kr (j:=5) rfl ?_
   refine GL_appendZ (i:=5) (ch:=[]) (t:=22) (tn:=3) (e:=5) (inf:=Tryz.t5) (n:=n) (kn:=.i64) (kd:=.i64) rfl rfl rfl rfl kr kr kr kr rfl rfl (show 0 < 1 from Nat.one_pos) kr kr kr (by omega) (by omega) (show n * 1 ≤ 281474976710656 by omega) (fun b4 cap5 c6 hcap7 hlen8=>?_)
   refine GL_pure (E':=[⟨24,[],.int .i64 0⟩,⟨22,[],.slice (some ⟨b4,0,none⟩) n cap5⟩,⟨0,[],.slice none 0 0⟩]) [0,0] kr (j:=8) rfl ?_
   refine GL_sliceL (i:=8) (ch:=[]) (a:=(some ⟨b4,0,none⟩)) (len:=n) (cap:=cap5) (e:=5) (sz:=1) (vl:=none) (vh:=(some (.int .i64 0))) (l:=0) (h:=0) rfl rfl kr kr kr kr kr kr kr kr kr kr (by omega) ?_
   refine GL_env (E':=[⟨25,[],.slice (some ⟨b4,0,none⟩) 0 cap5⟩,⟨24,[],.int .i64 0⟩,⟨22,[],.slice (some ⟨b4,0,none⟩) n cap5⟩,⟨0,[],.slice none 0 0⟩]) (by have hz : ([⟨25,[],.slice (cutA (some ⟨b4,0,none⟩) cap5 0 1) (0 - 0) (cap5 - 0)⟩,⟨24,[],.int .i64 0⟩,⟨22,[],.slice (some ⟨b4,0,none⟩) n cap5⟩,⟨0,[],.slice none 0 0⟩] : List Sl) = [⟨25,[],.slice (some ⟨b4,0,none⟩) 0 cap5⟩,⟨24,[],.int .i64 0⟩,⟨22,[],.slice (some ⟨b4,0,none⟩) n cap5⟩,⟨0,[],.slice none 0 0⟩]:=(by simp only [cutA_zero,Nat.sub_zero,Nat.sub_self]); exact Eq.trans kr hz) ?_
   refine GL_fin (E':=[⟨0,[],.slice (some ⟨b4,0,none⟩) 0 cap5⟩]) [0] [0] rfl kr ?_
   refine N_then ?_
   refine G_seq ?_
   refine G_pure (E':=[⟨4,[],.slice (some ⟨b4,0,none⟩) 0 cap5⟩]) [0,0] [4] rfl kr ?_
   refine N_then ?_
   refine G_ret ?_
   refine N_ret [.tmp 4] [.slice (some ⟨b4,0,none⟩) 0 cap5] rfl kr rfl ?_
   exact ⟨_, own_cut0 hlen8, rfl⟩
  ·
   skip
   refine G_skip ?_
   refine N_then ?_
   refine G_seq ?_
   refine G_pure (E':=[⟨4,[],.slice none 0 0⟩]) [0,0] [4] rfl kr ?_
   refine N_then ?_
   refine G_ret ?_
   refine N_heap (H':=[]::H) (fun w h=>h.flat (List.Perm.refl _)) ?_
   refine N_ret [.tmp 4] [.slice none 0 0] rfl kr rfl ?_
   exact ⟨[], Go.Sw.Own.nil, rfl⟩
theorem concat1 (pb : Nat) (xa : Option Addr) (n xc : Nat) (S : Nat → Obj → Prop) (l : List UInt8) (hl : l.length = n) (hrd : Rd S xa (u8s l)) (h0 : xa = none → n = 0) (hn : n ≤ 1099511627776) (W0 : World) (H : List Grp) (hS : ∀ y o, S y o → At W0 H y o) : Tri Tryz.prog 123 #[.slice (some ⟨pb, 0, none⟩) 1 1] W0 ([(pb, .cells #[.slice xa n xc] 22 (0, 0))] :: H) (fun v H' => ∃ g, Go.Sw.Own 5 1 v g n (u8s l) ∧ H' = g :: ([(pb, .cells #[.slice xa n xc] 22 (0, 0))] :: H)) := by
 refine Tri_of (args := [.slice (some ⟨pb, 0, none⟩) 1 1]) (n := 36) Tryz.func123 rfl rfl (Nat.le_of_ble_eq_true rfl) ?_
 refine G_seq ?_
 refine G_pure (E':=[⟨0,[],.slice (some ⟨pb,0,none⟩) 1 1⟩]) [0] [0] rfl kr ?_
 refine N_then ?_
 refine G_seq ?_
 refine G_pure (E':=[⟨0,[],.slice (some ⟨pb,0,none⟩) 1 1⟩,⟨3,[],.int .i64 0⟩]) [0] [0,3] rfl kr ?_
 refine N_then ?_
 refine G_seq ?_
 refine G_seq ?_
 refine G_pure (E':=[⟨0,[],.slice (some ⟨pb,0,none⟩) 1 1⟩,⟨3,[],.int .i64 0⟩,⟨9,[],.slice (some ⟨pb,0,none⟩) 1 1⟩,⟨10,[],.int .i64 1⟩,⟨11,[],.int .i64 0⟩]) [0,0,0] [0,3,9,10,11] rfl kr ?_
 refine N_then ?_
 refine G_block ?_
 refine G_rounds 2 ?_
 refine GRd_succ ?_
 refine G_seq ?_
 refine G_pure (E':=[⟨0,[],.slice (some ⟨pb,0,none⟩) 1 1⟩,⟨3,[],.int .i64 0⟩,⟨9,[],.slice (some ⟨pb,0,none⟩) 1 1⟩,⟨10,[],.int .i64 1⟩,⟨11,[],.int .i64 0⟩,⟨12,[],.bool true⟩]) [0] [0,3,9,10,11,12] rfl kr ?_
 refine N_then ?_
 refine G_seq ?_
 refine G_condt kr ?_
 refine G_skip ?_
 refine N_then ?_
 refine G_seq ?_
 refine G_block ?_
 refine G_seq ?_
 refine G_region ?_
 refine GL_indexAddr (i:=0) (ch:=[]) (a:=(some ⟨pb,0,none⟩)) (len:=1) (cap:=1) (kd:=.i64) (j:=0) (e:=22) (sz:=1) (S:=(inG [(pb,.cells #[.slice xa n xc] 22 (0,0))])) (cs:=[.slice xa n xc]) rfl rfl kr kr kr kr kr kr kr Rd.lit (fun _=>by exact ⟨by omega,by omega,by first | exact List.cons_ne_nil _ _ | (intro h; simp [strs] at h; simp [h] at *; omega)⟩) ?_
 refine GL_loadS (i:=1) (ch:=[]) (a:=(some ⟨pb,0,none⟩)) (q:=0 * 1) (S:=(inG [(pb,.cells #[.slice xa n xc] 22 (0,0))])) (cs:=[.slice xa n xc]) (v:=.slice xa n xc) rfl rfl kr kr kr kr kr Rd.lit (at_inG 0 rfl) (fun _=>rfl) ?_
 refine GL_fin (E':=[⟨0,[],.slice (some ⟨pb,0,none⟩) 1 1⟩,⟨3,[],.int .i64 0⟩,⟨5,[],.slice xa n xc⟩,⟨9,[],.slice (some ⟨pb,0,none⟩) 1 1⟩,⟨10,[],.int .i64 1⟩,⟨11,[],.int .i64 0⟩]) [0] [0,3,5,9,10,11] rfl kr ?_
 refine N_then ?_
 refine G_seq ?_
 have hw1 : IntKind.wrap .i64 (0 + ((n : Nat) : Int)) = 0 + ((n : Nat) : Int) := w64 (by omega) (by omega)
 refine G_pure (E':=[⟨0,[],.slice (some ⟨pb,0,none⟩) 1 1⟩,⟨3,[],.int .i64 (0+((n : Nat) : Int))⟩,⟨9,[],.slice (some ⟨pb,0,none⟩) 1 1⟩,⟨10,[],.int .i64 1⟩,⟨11,[],.int .i64 0⟩]) [0,0,0,0,0] [0,3,9,10,11] rfl (Eq.trans (b:=some [⟨0,[],.slice (some ⟨pb,0,none⟩) 1 1⟩,⟨3,[],.int .i64 (IntKind.wrap .i64 (0+((n : Nat) : Int)))⟩,⟨9,[],.slice (some ⟨pb,0,none⟩) 1 1⟩,⟨10,[],.int .i64 1⟩,⟨11,[],.int .i64 0⟩]) kr (by simp only [hw1])) ?_
 refine N_env (E':=[⟨0,[],.slice (some ⟨pb,0,none⟩) 1 1⟩,⟨3,[],.int .i64 ((n : Nat) : Int)⟩,⟨9,[],.slice (some ⟨pb,0,none⟩) 1 1⟩,⟨10,[],.int .i64 1⟩,⟨11,[],.int .i64 0⟩]) (by rw [Int.zero_add]) ?_
 refine N_then ?_
 refine G_seq ?_
 refine G_pure (E':=[⟨0,[],.slice (some ⟨pb,0,none⟩) 1 1⟩,⟨3,[],.int .i64 ((n : Nat) : Int)⟩,⟨9,[],.slice (some ⟨pb,0,none⟩) 1 1⟩,⟨10,[],.int .i64 1⟩,⟨11,[],.int .i64 0⟩,⟨20,[],.bool (decide (((n : Nat) : Int) < 0))⟩]) [0,0] [0,3,9,10,11,20] rfl kr ?_
 refine N_then ?_
 refine G_cond (b:=decide (((n : Nat) : Int) < 0)) kr (fun hc2=>?_) (fun hc2=>?_)
 ·
  have h9 := of_decide_eq_true hc2; exact absurd h9 (by omega)
 ·
  skip
  refine G_skip ?_
  refine N_block ?_
  refine N_then ?_
  refine G_pure (E':=[⟨0,[],.slice (some ⟨pb,0,none⟩) 1 1⟩,⟨3,[],.int .i64 ((n : Nat) : Int)⟩,⟨9,[],.slice (some ⟨pb,0,none⟩) 1 1⟩,⟨10,[],.int .i64 1⟩,⟨11,[],.int .i64 1⟩]) [0,0] [0,3,9,10,11] rfl kr ?_
  refine N_rd ?_
  refine GRd_succ ?_
  refine G_seq ?_
  refine G_pure (E':=[⟨0,[],.slice (some ⟨pb,0,none⟩) 1 1⟩,⟨3,[],.int .i64 ((n : Nat) : Int)⟩,⟨9,[],.slice (some ⟨pb,0,none⟩) 1 1⟩,⟨10,[],.int .i64 1⟩,⟨11,[],.int .i64 1⟩,⟨12,[],.bool false⟩]) [0] [0,3,9,10,11,12] rfl kr ?_
  refine N_then ?_
  refine G_seq ?_
  refine G_condf kr ?_
  refine G_exit ?_
  refine N_then_exit ?_
  refine N_then_exit ?_
  refine N_block_exit ?_
  refine N_then ?_
  refine G_seq ?_
  refine G_region ?_
  refine GL_pure (E':=[⟨23,[],.int .i64 ((n : Nat) : Int)⟩,⟨0,[],.slice (some ⟨pb,0,none⟩) 1 1⟩]) [0] kr (j:=1) rfl ?_
  refine GL_call (i:=1) (ch:=[]) (f:=138) (fst:=#[]) (caps:=#[]) (vs:=[.slice none 0 0,.int .i64 ((n : Nat) : Int)]) rfl rfl rfl kr kr Tryz.func138 rfl rfl kr kr (chSure_of kr) (grow_ n hn _ _) ?_
  rintro v5 H' ⟨g3, hO4, rfl⟩
  refine GL_fin (E':=[⟨0,[],.slice (some ⟨pb,0,none⟩) 1 1⟩,⟨6,[],v5⟩]) [0] [0,6] rfl kr ?_
  refine N_then ?_
  refine G_seq ?_
  refine G_seq ?_
  refine G_pure (E':=[⟨6,[],v5⟩,⟨25,[],.slice (some ⟨pb,0,none⟩) 1 1⟩,⟨26,[],.int .i64 1⟩,⟨27,[],.int .i64 0⟩]) [0,0,0] [6,25,26,27] rfl kr ?_
  refine N_then ?_
  refine G_block ?_
  refine G_rounds 2 ?_
  refine GRd_succ ?_
  refine G_seq ?_
  refine G_pure (E':=[⟨6,[],v5⟩,⟨25,[],.slice (some ⟨pb,0,none⟩) 1 1⟩,⟨26,[],.int .i64 1⟩,⟨27,[],.int .i64 0⟩,⟨28,[],.bool true⟩]) [0] [6,25,26,27,28] rfl kr ?_
  refine N_then ?_
  refine G_seq ?_
  refine G_condt kr ?_
  refine G_skip ?_
  refine N_then ?_
  refine G_seq ?_
  refine G_block ?_
  refine G_seq ?_
  refine G_region ?_
  refine GL_indexAddr (i:=0) (ch:=[]) (a:=(some ⟨pb,0,none⟩)) (len:=1) (cap:=1) (kd:=.i64) (j:=0) (e:=22) (sz:=1) (S:=(inG [(pb,.cells #[.slice xa n xc] 22 (0,0))])) (cs:=[.slice xa n xc]) rfl rfl kr kr kr kr kr kr kr Rd.lit (fun _=>by exact ⟨by omega,by omega,by first | exact List.cons_ne_nil _ _ | (intro h; simp [strs] at h; simp [h] at *; omega)⟩) ?_
  refine GL_loadS (i:=1) (ch:=[]) (a:=(some ⟨pb,0,none⟩)) (q:=0 * 1) (S:=(inG [(pb,.cells #[.slice xa n xc] 22 (0,0))])) (cs:=[.slice xa n xc]) (v:=.slice xa n xc) rfl rfl kr kr kr kr kr Rd.lit (at_inG 1 rfl) (fun _=>rfl) ?_
  refine GL_fin (E':=[⟨6,[],v5⟩,⟨8,[],.slice xa n xc⟩,⟨25,[],.slice (some ⟨pb,0,none⟩) 1 1⟩,⟨26,[],.int .i64 1⟩,⟨27,[],.int .i64 0⟩]) [0] [6,8,25,26,27] rfl kr ?_
  refine N_then ?_
  refine G_region ?_
  refine GL_pure (E':=[⟨32,[],.slice xa n xc⟩,⟨31,[],v5⟩,⟨6,[],v5⟩,⟨25,[],.slice (some ⟨pb,0,none⟩) 1 1⟩,⟨26,[],.int .i64 1⟩,⟨27,[],.int .i64 0⟩]) [0,0] kr (j:=2) rfl ?_
  refine GL_append (i:=2) (ch:=[]) (t:=22) (tx:=22) (e:=5) (inf:=Tryz.t5) (s:=v5) (x:=.slice xa n xc) (n:=0) (m:=n) (j:=0) (cs:=[]) (news:=(u8s l)) (g:=g3) (S:=S) rfl rfl rfl rfl kr kr kr rfl rfl (.inl ⟨5,kr⟩) (fun ⟨_,h⟩=>by cases h) (fun _=>⟨5,kr⟩) kr kr kr rfl hO4 (SrcOf.slice _ _ _ _ hrd h0) (fun y o h=>(At.cons (At.cons (hS y o h)))) (by show (u8s l).length = n * 1; simp [u8s,hl]) u8_one (by omega) (by show (0+n) * 1 ≤ 140737488355328; omega) (fun v6 g7 hO8=>?_)
  replace hO8 := own_from0 hO8
  refine GL_fin (E':=[⟨6,[],v6⟩,⟨25,[],.slice (some ⟨pb,0,none⟩) 1 1⟩,⟨26,[],.int .i64 1⟩,⟨27,[],.int .i64 0⟩]) [0] [6,25,26,27] rfl kr ?_
  refine N_block ?_
  refine N_then ?_
  refine G_pure (E':=[⟨6,[],v6⟩,⟨25,[],.slice (some ⟨pb,0,none⟩) 1 1⟩,⟨26,[],.int .i64 1⟩,⟨27,[],.int .i64 1⟩]) [0,0] [6,25,26,27] rfl kr ?_
  refine N_rd ?_
  refine GRd_succ ?_
  refine G_seq ?_
  refine G_pure (E':=[⟨6,[],v6⟩,⟨25,[],.slice (some ⟨pb,0,none⟩) 1 1⟩,⟨26,[],.int .i64 1⟩,⟨27,[],.int .i64 1⟩,⟨28,[],.bool false⟩]) [0] [6,25,26,27,28] rfl kr ?_
  refine N_then ?_
  refine G_seq ?_
  refine G_condf kr ?_
  refine G_exit ?_
  refine N_then_exit ?_
  refine N_then_exit ?_
  refine N_block_exit ?_
  refine N_then ?_
  refine G_seq ?_
  refine G_pure (E':=[⟨2,[],v6⟩]) [0,0] [2] rfl kr ?_
  refine N_then ?_
  refine G_ret ?_
  refine N_ret [.tmp 2] [v6] rfl kr rfl ?_
  exact ⟨_, hO8, rfl⟩
theorem chunk_ (a : Option Addr) (n c : Nat) (W0 : World) (H : List Grp) : Tri Tryz.prog 127 #[.slice a n c, .int .i64 64] W0 H (fun v H' => ∃ kb nb, v = .func (.func 139) #[] #[pt kb, pt nb] ∧ H' = [(nb, .cells #[.int .i64 64] 3 (0, 0))] :: [(kb, .cells #[.slice a n c] 22 (0, 0))] :: H) := by
 refine Tri_of (args := [.slice a n c, .int .i64 64]) (n := 9) Tryz.func127 rfl rfl (Nat.le_of_ble_eq_true rfl) ?_
 refine G_seq ?_
 refine G_region ?_
 refine GL_box (i:=0) (ch:=[]) (v:=.slice a n c) rfl rfl kr kr kr kr (fun b1=>?_)
 refine GL_box (i:=1) (ch:=[]) (v:=.int .i64 64) rfl rfl kr kr kr kr (fun b2=>?_)
 refine GL_fin (E':=[⟨2,[],pt b1⟩,⟨3,[],pt b2⟩]) [0] [2,3] rfl kr ?_
 refine N_then ?_
 refine G_seq ?_
 refine G_seq ?_
 refine G_region ?_
 refine GL_load (i:=0) (ch:=[]) (b:=b2) (off:=0) (v:=.int .i64 64) rfl rfl kr kr kr kr kr (At.grp 0 0 rfl rfl) rfl ?_
 refine GL_fin (E':=[⟨2,[],pt b1⟩,⟨3,[],pt b2⟩,⟨6,[],.bool false⟩]) [0] [2,3,6] rfl kr ?_
 refine N_then ?_
 refine G_condf kr ?_
 refine G_skip ?_
 refine N_then ?_
 refine G_seq ?_
 refine G_pure (E':=[⟨4,[],.func (.func 139) #[] #[pt b1,pt b2]⟩]) [0,0] [4] rfl kr ?_
 refine N_then ?_
 refine G_ret ?_
 refine N_ret [.tmp 4] [.func (.func 139) #[] #[pt b1,pt b2]] rfl kr rfl ?_
 exact ⟨_, _, rfl, rfl⟩
end Go.Proofs.YtlaoeiaaeifidaaGreat
namespace Go.Proofs.YtlaoeiaaeifidaaGreat
open Go.Sw Go.Sha
theorem sum_ (pb : Nat) (xa : Option Addr) (xc : Nat) (S : Nat → Obj → Prop) (l : List UInt8) (hrd : Rd S xa (u8s l)) (h0 : xa = none → l.length = 0) (hn : l.length ≤ 1099511627776) (W0 : World) (H : List Grp) (hS : ∀ y o, S y o → At W0 H y o) : Tri Tryz.prog 103 #[.slice (some ⟨pb, 0, none⟩) 1 1] W0 ([(pb, .cells #[.slice xa l.length xc] 22 (0, 0))] :: H) (fun v H' => v = .agg (u8s (sumB l)).toArray ∧ H' = ([(pb, .cells #[.slice xa l.length xc] 22 (0, 0))] :: H)) := by
 refine Tri_ofM (args := [.slice (some ⟨pb, 0, none⟩) 1 1]) (n := 73) Tryz.func103 rfl rfl (Nat.le_of_ble_eq_true rfl) ?_
 refine G_seq ?_
 refine G_region ?_
 refine GL_alloc (i:=0) (ch:=[]) (z:=.agg z32) rfl rfl kr kr kr kr (fun b1=>?_)
 refine GL_fin (E':=[⟨0,[],.slice (some ⟨pb,0,none⟩) 1 1⟩,⟨2,[],pt b1⟩]) [] [0,2] rfl kr ?_
 refine N_then ?_
 refine G_seq ?_
 refine G_region ?_
 refine GL_pure (E':=[⟨11,[],.slice (some ⟨pb,0,none⟩) 1 1⟩,⟨2,[],pt b1⟩]) [0] kr (j:=1) rfl ?_
 refine GL_heap rfl (H':=([(pb,.cells #[.slice xa l.length xc] 22 (0,0))]::[(b1,.cells z32 148 (0,0))]::H)) (fun w h=>(h.front (j:=1) rfl)) ?_
 refine GL_call (i:=1) (ch:=[]) (f:=123) (fst:=#[]) (caps:=#[]) (vs:=[.slice (some ⟨pb,0,none⟩) 1 1]) rfl rfl rfl kr kr Tryz.func123 rfl rfl kr kr (chSure_of kr) (concat1 pb xa l.length xc S l rfl hrd h0 hn _ _ (fun y o h=>(At.cons (hS y o h)))) ?_
 rintro v4 H' ⟨g2, hO3, rfl⟩
 obtain ⟨a5, cap6, rfl, hcap7, hrd8⟩ := hO3.shape
 refine GL_fin (E':=[⟨2,[],pt b1⟩,⟨3,[],.slice a5 l.length cap6⟩]) [0] [2,3] rfl kr ?_
 refine N_then ?_
 refine G_seq ?_
 refine G_pure (E':=[⟨2,[],pt b1⟩,⟨3,[],.slice a5 l.length cap6⟩,⟨4,[],.int .u64 (IntKind.wrap .u64 ((IntKind.wrap .u64 ((l.length : Nat) : Int)) * 8))⟩]) [0,0,0,0,0] [2,3,4] rfl kr ?_
 refine N_env (E':=[⟨2,[],pt b1⟩,⟨3,[],.slice a5 l.length cap6⟩,⟨4,[],.int .u64 ((8 * l.length : Nat) : Int)⟩]) (by rw [len8 hn]) ?_
 refine N_then ?_
 refine G_seq ?_
 refine G_region ?_
 refine GL_pure (E':=[⟨17,[],.slice a5 l.length cap6⟩,⟨2,[],pt b1⟩,⟨3,[],.slice a5 l.length cap6⟩,⟨4,[],.int .u64 ((8 * l.length : Nat) : Int)⟩]) [0] kr (j:=1) rfl ?_
 refine GL_buildSlice (i:=1) (ch:=[]) (e:=5) (l:=[(0,.int .u8 128)]) (c:=[.int .u8 128]) rfl rfl kr kr kr kr kr (fun b9=>?_)
 refine GL_append (i:=2) (ch:=[]) (t:=22) (tx:=22) (e:=5) (inf:=Tryz.t5) (s:=.slice a5 l.length cap6) (x:=.slice (some ⟨b9,0,none⟩) 1 1) (n:=l.length) (m:=1) (j:=1) (cs:=(u8s l)) (news:=[.int .u8 128]) (g:=g2) (S:=(inG [(b9,.cells #[.int .u8 128] 5 (0,0))])) rfl rfl rfl rfl kr kr kr rfl rfl (.inl ⟨5,kr⟩) (fun ⟨_,h⟩=>by cases h) (fun _=>⟨5,kr⟩) kr kr kr rfl hO3 (SrcOf.slice _ _ _ _ Rd.lit (fun h=>by cases h)) (at_inG 0 rfl) kr (by first | exact u8_one | (intro u hu; simp only [List.mem_cons,List.not_mem_nil,or_false] at hu; rcases hu with rfl; rfl)) (by omega) (by show (l.length+1) * 1 ≤ 140737488355328; omega) (fun v10 g11 hO12=>?_)
 obtain ⟨a13, cap14, rfl, hcap15, hrd16⟩ := hO12.shape
 refine GL_fin (E':=[⟨2,[],pt b1⟩,⟨3,[],.slice a13 (l.length+1) cap14⟩,⟨4,[],.int .u64 ((8 * l.length : Nat) : Int)⟩]) [0] [2,3,4] rfl kr ?_
 refine N_then ?_
 refine G_seq ?_
 refine G_block ?_
 refine G_heap (H':=(g11::[(b1,.cells z32 148 (0,0))]::[(pb,.cells #[.slice xa l.length xc] 22 (0,0))]::H)) (fun w h=>((((h.front (j:=2) rfl).front (j:=3) rfl).front (j:=3) rfl).erase 3)) ?_
 refine G_loop (EI:=(fun ξ : Nat × Option Addr × Nat × Grp=>[⟨2,[],pt b1⟩,⟨3,[],.slice ξ.2.1 (l.length+1+ξ.1) ξ.2.2.1⟩,⟨4,[],.int .u64 ((8 * l.length : Nat) : Int)⟩])) (HI:=(fun ξ : Nat × Option Addr × Nat × Grp=>(ξ.2.2.2::[(b1,.cells z32 148 (0,0))]::[(pb,.cells #[.slice xa l.length xc] 22 (0,0))]::H))) (Φ:=(fun ξ : Nat × Option Addr × Nat × Grp=>(ξ.1 ≤ padZ l.length)∧(Go.Sw.Own 5 1 (.slice ξ.2.1 (l.length+1+ξ.1) ξ.2.2.1) ξ.2.2.2 (l.length+1+ξ.1) (u8s (padK l ξ.1))))) (μ:=(fun ξ : Nat × Option Addr × Nat × Grp=>padZ l.length - ξ.1)) (s0:=(0,a13,cap14,g11)) [2,3,4] kr rfl ⟨(by omega),(own_cs hO12 (padK_zero l))⟩ ?_
 rintro ⟨k, a3, c3, g3⟩ ⟨hk, hO3⟩
 have hpz := (pad_mod l.length).2
 refine G_seq ?_
 refine G_seq ?_
 have hw17 : Int.tmod (((l.length + 1 + k) : Nat) : Int) 64 = (((l.length + 1 + k) : Nat) : Int) % 64 := r64 (by omega)
 refine G_pure (E':=[⟨2,[],pt b1⟩,⟨3,[],.slice a3 (l.length+1+k) c3⟩,⟨4,[],.int .u64 ((8 * l.length : Nat) : Int)⟩,⟨23,[],.bool (((((l.length+1+k) : Nat) : Int) % 64) != 56)⟩]) [0,0,0,0] [2,3,4,23] rfl (Eq.trans (b:=some [⟨2,[],pt b1⟩,⟨3,[],.slice a3 (l.length+1+k) c3⟩,⟨4,[],.int .u64 ((8 * l.length : Nat) : Int)⟩,⟨23,[],.bool ((Int.tmod (((l.length+1+k) : Nat) : Int) 64) != 56)⟩]) kr (by simp only [hw17])) ?_
 refine N_then ?_
 refine G_cond (b:=((((l.length+1+k) : Nat) : Int) % 64) != 56) kr (fun hc18=>?_) (fun hc18=>?_)
 ·
  have hlt := (pad_more hk).1 hc18
  refine G_skip ?_
  refine N_then ?_
  refine G_block ?_
  refine G_region ?_
  refine GL_pure (E':=[⟨24,[],.slice a3 (l.length+1+k) c3⟩,⟨2,[],pt b1⟩,⟨3,[],.slice a3 (l.length+1+k) c3⟩,⟨4,[],.int .u64 ((8 * l.length : Nat) : Int)⟩]) [0] kr (j:=1) rfl ?_
  refine GL_buildSlice (i:=1) (ch:=[]) (e:=5) (l:=[(0,.int .u8 0)]) (c:=[.int .u8 0]) rfl rfl kr kr kr kr kr (fun b19=>?_)
  refine GL_append (i:=2) (ch:=[]) (t:=22) (tx:=22) (e:=5) (inf:=Tryz.t5) (s:=.slice a3 (l.length+1+k) c3) (x:=.slice (some ⟨b19,0,none⟩) 1 1) (n:=(l.length+1+k)) (m:=1) (j:=1) (cs:=(u8s (padK l k))) (news:=[.int .u8 0]) (g:=g3) (S:=(inG [(b19,.cells #[.int .u8 0] 5 (0,0))])) rfl rfl rfl rfl kr kr kr rfl rfl (.inl ⟨5,kr⟩) (fun ⟨_,h⟩=>by cases h) (fun _=>⟨5,kr⟩) kr kr kr rfl hO3 (SrcOf.slice _ _ _ _ Rd.lit (fun h=>by cases h)) (at_inG 0 rfl) kr (by first | exact u8_one | (intro u hu; simp only [List.mem_cons,List.not_mem_nil,or_false] at hu; rcases hu with rfl; rfl)) (by omega) (by show ((l.length+1+k)+1) * 1 ≤ 140737488355328; omega) (fun v20 g21 hO22=>?_)
  obtain ⟨a23, cap24, rfl, hcap25, hrd26⟩ := hO22.shape
  refine GL_fin (E':=[⟨2,[],pt b1⟩,⟨3,[],.slice a23 ((l.length+1+k)+1) cap24⟩,⟨4,[],.int .u64 ((8 * l.length : Nat) : Int)⟩]) [0] [2,3,4] rfl kr ?_
  refine N_block ?_
  refine N_heap (H':=(g21::[(b1,.cells z32 148 (0,0))]::[(pb,.cells #[.slice xa l.length xc] 22 (0,0))]::H)) (fun w h=>(h.erase 0)) ?_
  refine N_round (s':=(k+1,a23,cap24,g21)) [2,3,4] kr rfl ⟨(by omega),(own_cs hO22 (padK_succ l k))⟩ (by omega)
 ·
  have hke : k = padZ l.length := (pad_more hk).2 hc18
  refine G_exit ?_
  refine N_then_exit ?_
  refine N_then_exit ?_
  refine N_block_exit ?_
  refine N_then ?_
  refine G_seq ?_
  refine G_region ?_
  refine GL_pure (E':=[⟨28,[],.int .u64 ((8 * l.length : Nat) : Int)⟩,⟨27,[],.slice a3 (l.length+1+k) c3⟩,⟨2,[],pt b1⟩,⟨3,[],.slice a3 (l.length+1+k) c3⟩]) [0,0] kr (j:=2) rfl ?_
  refine GL_call (i:=2) (ch:=[]) (f:=124) (fst:=#[]) (caps:=#[]) (vs:=[.int .u64 ((8 * l.length : Nat) : Int)]) rfl rfl rfl kr kr Tryz.func124 rfl rfl kr kr (chSure_of kr) (eight_ ((8 * l.length : Nat) : Int) (by omega) (by omega) _ _) ?_
  rintro v29 H' ⟨g27, hO28, rfl⟩
  obtain ⟨a30, cap31, rfl, hcap32, hrd33⟩ := hO28.shape
  refine GL_append (i:=3) (ch:=[]) (t:=22) (tx:=22) (e:=5) (inf:=Tryz.t5) (s:=.slice a3 (l.length+1+k) c3) (x:=.slice a30 8 cap31) (n:=(l.length+1+k)) (m:=8) (j:=1) (cs:=(u8s (padK l k))) (news:=(u8s (eightB ((8 * l.length : Nat) : Int)))) (g:=g3) (S:=(inG g27)) rfl rfl rfl rfl kr kr kr rfl rfl (.inl ⟨5,kr⟩) (fun ⟨_,h⟩=>by cases h) (fun _=>⟨5,kr⟩) kr kr kr rfl hO3 (SrcOf.slice _ _ _ _ hrd33 (own_none hO28)) (at_inG 0 rfl) kr (by first | exact u8_one | (intro u hu; simp only [List.mem_cons,List.not_mem_nil,or_false] at hu; rcases hu with rfl; rfl)) (by omega) (by show ((l.length+1+k)+8) * 1 ≤ 140737488355328; omega) (fun v34 g35 hO36=>?_)
  obtain ⟨a37, cap38, rfl, hcap39, hrd40⟩ := hO36.shape
  refine GL_fin (E':=[⟨2,[],pt b1⟩,⟨3,[],.slice a37 ((l.length+1+k)+8) cap38⟩]) [0] [2,3] rfl kr ?_
  refine N_then ?_
  refine G_seq ?_
  refine G_region ?_
  refine GL_call (i:=0) (ch:=[]) (f:=125) (fst:=#[]) (caps:=#[]) (vs:=[]) rfl rfl rfl kr kr Tryz.func125 rfl rfl kr kr (chSure_of kr) (beginnings_ _ _) ?_
  rintro v H' ⟨rfl, rfl⟩
  refine GL_call (i:=1) (ch:=[]) (f:=126) (fst:=#[]) (caps:=#[]) (vs:=[]) rfl rfl rfl kr kr Tryz.func126 rfl rfl kr kr (chSure_of kr) (rounds_ _ _) ?_
  rintro v H' ⟨rfl, rfl⟩
  refine GL_alloc (i:=2) (ch:=[]) (z:=.agg #[.int .u32 0,.int .u32 0,.int .u32 0,.int .u32 0,.int .u32 0,.int .u32 0,.int .u32 0,.int .u32 0]) rfl rfl kr kr kr kr (fun b41=>?_)
  refine GL_alloc (i:=3) (ch:=[]) (z:=.agg kz64) rfl rfl kr kr kr kr (fun b42=>?_)
  refine GL_store (i:=4) (ch:=[]) (b:=b41) (off:=0) (v:=.agg #[.int .u32 1779033703,.int .u32 3144134277,.int .u32 1013904242,.int .u32 2773480762,.int .u32 1359893119,.int .u32 2600822924,.int .u32 528734635,.int .u32 1541459225]) (c:=#[.int .u32 0,.int .u32 0,.int .u32 0,.int .u32 0,.int .u32 0,.int .u32 0,.int .u32 0,.int .u32 0]) (c':=#[.int .u32 1779033703,.int .u32 3144134277,.int .u32 1013904242,.int .u32 2773480762,.int .u32 1359893119,.int .u32 2600822924,.int .u32 528734635,.int .u32 1541459225]) (j:=1) (m:=0) (H':=([(b42,.cells kz64 171 (0,0))]::[(b41,.cells #[.int .u32 1779033703,.int .u32 3144134277,.int .u32 1013904242,.int .u32 2773480762,.int .u32 1359893119,.int .u32 2600822924,.int .u32 528734635,.int .u32 1541459225] 169 (0,0))]::g27::g35::[(b1,.cells z32 148 (0,0))]::[(pb,.cells #[.slice xa l.length xc] 22 (0,0))]::H)) rfl rfl kr kr kr kr kr kr kr rfl rfl (Nat.le_of_ble_eq_true rfl) (fun _ _=>thaw0) kr kr ?_
  refine GL_store (i:=5) (ch:=[]) (b:=b42) (off:=0) (v:=.agg kArr) (c:=kz64) (c':=kArr) (j:=0) (m:=0) (H':=([(b42,.cells kArr 171 (0,0))]::[(b41,.cells #[.int .u32 1779033703,.int .u32 3144134277,.int .u32 1013904242,.int .u32 2773480762,.int .u32 1359893119,.int .u32 2600822924,.int .u32 528734635,.int .u32 1541459225] 169 (0,0))]::g27::g35::[(b1,.cells z32 148 (0,0))]::[(pb,.cells #[.slice xa l.length xc] 22 (0,0))]::H)) rfl rfl kr kr kr kr kr kr kr rfl rfl (Nat.le_of_ble_eq_true rfl) (fun _ _=>thaw0) kr kr ?_
  refine GL_fin (E':=[⟨2,[],pt b1⟩,⟨3,[],.slice a37 ((l.length+1+k)+8) cap38⟩,⟨5,[],pt b41⟩,⟨6,[],pt b42⟩]) [] [2,3,5,6] rfl kr ?_
  refine N_then ?_
  refine G_seq ?_
  refine G_seq ?_
  refine G_region ?_
  refine GL_pure (E':=[⟨33,[],.slice a37 ((l.length+1+k)+8) cap38⟩,⟨2,[],pt b1⟩,⟨5,[],pt b41⟩,⟨6,[],pt b42⟩]) [0] kr (j:=1) rfl ?_
  refine GL_call (i:=1) (ch:=[]) (f:=127) (fst:=#[]) (caps:=#[]) (vs:=[.slice a37 ((l.length+1+k)+8) cap38,.int .i64 64]) rfl rfl rfl kr kr Tryz.func127 rfl rfl kr kr (chSure_of kr) (chunk_ a37 ((l.length+1+k)+8) cap38 _ _) ?_
  rintro v H' ⟨kb43, nb44, rfl, rfl⟩
  refine GL_fin (E':=[⟨2,[],pt b1⟩,⟨5,[],pt b41⟩,⟨6,[],pt b42⟩,⟨34,[],.func (.func 139) #[] #[pt kb43,pt nb44]⟩]) [] [2,5,6,34] rfl kr ?_
  refine N_then ?_
  refine G_block ?_
  obtain ⟨b6, hb6⟩ := own_some hO36 (by omega)
  obtain ⟨hm6, hP⟩ := padB_m l hke
  have hO6 := own_cs hO36 (padB_cs l hke)
  rw [hb6] at hO6
  have hc6 : l.length + 1 + k + 8 ≤ cap38 := ownC_cap hO36
  refine G_heap (H':=([(nb44,.cells #[.int .i64 64] 3 (0,0))]::[(kb43,.cells #[.slice (some ⟨b6,0,none⟩) (64 * ((padB l).length / 64)) cap38] 22 (0,0))]::[(b42,.cells kArr 171 (0,0))]::[(b41,.cells #[.int .u32 1779033703,.int .u32 3144134277,.int .u32 1013904242,.int .u32 2773480762,.int .u32 1359893119,.int .u32 2600822924,.int .u32 528734635,.int .u32 1541459225] 169 (0,0))]::g27::g35::[(b1,.cells z32 148 (0,0))]::[(pb,.cells #[.slice xa l.length xc] 22 (0,0))]::H)) (fun w h=>by rw [hb6,hm6] at h; exact h) ?_
  refine G_rangeFunc (α:=Fin ((padB l).length / 64)) (gf:=139) (lb:=#[pt kb43,pt nb44]) (encs:=fun x : Fin ((padB l).length / 64)=>#[.slice (some ⟨b6,0+64 * x.1,none⟩) 64 64]) (S:=fun xs=>xs = List.finRange ((padB l).length / 64)) (Sp:=fun _=>True) (N0:=((padB l).length / 64)) rfl kr (enters_of Tryz.func139 kr rfl) [[(kb43,.cells #[.slice (some ⟨b6,0,none⟩) (64 * ((padB l).length / 64)) cap38] 22 (0,0))],[(nb44,.cells #[.int .i64 64] 3 (0,0))]] (fun p hp=>by obtain ⟨g,hg,hp1⟩:=List.mem_flatten.1 hp; simp only [List.mem_cons,List.not_mem_nil,or_false] at hg; rcases hg with rfl | rfl; exact List.mem_flatten.2 ⟨_,List.mem_of_getElem? (i:=1) rfl,hp1⟩; exact List.mem_flatten.2 ⟨_,List.mem_of_getElem? (i:=0) rfl,hp1⟩) (fun w hs=>chunk_stops kb43 nb44 b6 0 cap38 ((padB l).length / 64) (by omega) (by omega) w (hs.has (kb43,_) (List.mem_flatten.2 ⟨_,List.mem_of_getElem? (i:=1) rfl,List.mem_singleton.2 rfl⟩)) (hs.has (nb44,_) (List.mem_flatten.2 ⟨_,List.mem_of_getElem? (i:=0) rfl,List.mem_singleton.2 rfl⟩))) (fun pre=>([(nb44,.cells #[.int .i64 64] 3 (0,0))]::[(kb43,.cells #[.slice (some ⟨b6,0,none⟩) (64 * ((padB l).length / 64)) cap38] 22 (0,0))]::[(b42,.cells kArr 171 (0,0))]::[(b41,.cells #[.int .u32 ((foldB (padB l) pre).a),.int .u32 ((foldB (padB l) pre).b),.int .u32 ((foldB (padB l) pre).c),.int .u32 ((foldB (padB l) pre).d),.int .u32 ((foldB (padB l) pre).e),.int .u32 ((foldB (padB l) pre).f),.int .u32 ((foldB (padB l) pre).g),.int .u32 ((foldB (padB l) pre).h)] 169 (0,0))]::g27::g35::[(b1,.cells z32 148 (0,0))]::[(pb,.cells #[.slice xa l.length xc] 22 (0,0))]::H)) (fun _ _ _=>False) kr (fun _ p hp=>by obtain ⟨g,hg,hp1⟩:=List.mem_flatten.1 hp; simp only [List.mem_cons,List.not_mem_nil,or_false] at hg; rcases hg with rfl | rfl; exact List.mem_flatten.2 ⟨_,List.mem_of_getElem? (i:=1) rfl,hp1⟩; exact List.mem_flatten.2 ⟨_,List.mem_of_getElem? (i:=0) rfl,hp1⟩) (fun xs=>calm_set (j:=3) (g':=[(b41,.cells #[.int .u32 ((foldB (padB l) xs).a),.int .u32 ((foldB (padB l) xs).b),.int .u32 ((foldB (padB l) xs).c),.int .u32 ((foldB (padB l) xs).d),.int .u32 ((foldB (padB l) xs).e),.int .u32 ((foldB (padB l) xs).f),.int .u32 ((foldB (padB l) xs).g),.int .u32 ((foldB (padB l) xs).h)] 169 (0,0))]) (fun p hp=>by rw [List.mem_singleton.1 hp]; rfl)) (fun _ _ _ h=>h.elim) (fun _=>rfl) (fun t ht=>by have h9:=List.mem_singleton.1 (Array.mem_toList_iff.2 ht); subst h9; exact Nat.le_of_ble_eq_true rfl) (fun x=>[⟨7,[],.slice (some ⟨b6,0+64 * x.1,none⟩) 64 64⟩,⟨2,[],pt b1⟩,⟨5,[],pt b41⟩,⟨6,[],pt b42⟩]) ?_ ?_ ?_ (fun _ _ _ _ _ h=>h.elim)
  ·
   exact fun r L D pre x => GR_region rfl (fun _ _ h => by cases h.1) (GL_fin (E' := [⟨7, [], .slice (some ⟨b6, 0 + 64 * x.1, none⟩) 64 64⟩, ⟨2, [], pt b1⟩, ⟨5, [], pt b41⟩, ⟨6, [], pt b42⟩]) [0] [7, 2, 5, 6] rfl (by kernel_rfl) (fun a w ha hs => ⟨rfl, ha, hs⟩))
  ·
   intro r L D pre x hlen
   refine GR_block ?_
   refine GR_region rfl (fun _ _ h => h) ?_
   refine GL_loadA (i:=0) (ch:=[]) (b:=b41) (off:=0) (l:=[.int .u32 ((foldB (padB l) pre).a),.int .u32 ((foldB (padB l) pre).b),.int .u32 ((foldB (padB l) pre).c),.int .u32 ((foldB (padB l) pre).d),.int .u32 ((foldB (padB l) pre).e),.int .u32 ((foldB (padB l) pre).f),.int .u32 ((foldB (padB l) pre).g),.int .u32 ((foldB (padB l) pre).h)]) rfl rfl kr kr kr kr kr kr (At.grp 5 0 rfl rfl) kr ?_
   refine GL_pure (E':=[⟨37,[],.slice (some ⟨b6,0+64 * x.1,none⟩) 64 64⟩,⟨36,[],.agg #[.int .u32 ((foldB (padB l) pre).a),.int .u32 ((foldB (padB l) pre).b),.int .u32 ((foldB (padB l) pre).c),.int .u32 ((foldB (padB l) pre).d),.int .u32 ((foldB (padB l) pre).e),.int .u32 ((foldB (padB l) pre).f),.int .u32 ((foldB (padB l) pre).g),.int .u32 ((foldB (padB l) pre).h)]⟩,⟨5,[],pt b41⟩,⟨6,[],pt b42⟩]) [0] kr (j:=2) rfl ?_
   refine GL_loadA (i:=2) (ch:=[]) (b:=b42) (off:=0) (l:=(u32s kTab)) rfl rfl kr kr kr kr kr kr (At.grp 4 0 rfl rfl) kr ?_
   refine GL_call (i:=3) (ch:=[]) (f:=128) (fst:=#[]) (caps:=#[]) (vs:=[.agg #[.int .u32 ((foldB (padB l) pre).a),.int .u32 ((foldB (padB l) pre).b),.int .u32 ((foldB (padB l) pre).c),.int .u32 ((foldB (padB l) pre).d),.int .u32 ((foldB (padB l) pre).e),.int .u32 ((foldB (padB l) pre).f),.int .u32 ((foldB (padB l) pre).g),.int .u32 ((foldB (padB l) pre).h)],.slice (some ⟨b6,0+64 * x.1,none⟩) 64 64,(.agg (u32s kTab).toArray)]) rfl rfl rfl kr kr Tryz.func128 rfl rfl kr kr (chSure_of kr) (block_ (foldB (padB l) pre) (some ⟨b6,0+64 * x.1,none⟩) 64 (inG g35) (chunkOf (padB l) x.1) (chunkOf_len hP x.2) (by rw [chunkOf_u8s]; exact own_rd_at hO6) _ _ (at_inG 7 rfl)) ?_
   rintro v H' ⟨rfl, rfl⟩
   refine GL_store (i:=4) (ch:=[]) (b:=b41) (off:=0) (v:=.agg #[.int .u32 ((compress (byt (chunkOf (padB l) x.1)) (foldB (padB l) pre)).a),.int .u32 ((compress (byt (chunkOf (padB l) x.1)) (foldB (padB l) pre)).b),.int .u32 ((compress (byt (chunkOf (padB l) x.1)) (foldB (padB l) pre)).c),.int .u32 ((compress (byt (chunkOf (padB l) x.1)) (foldB (padB l) pre)).d),.int .u32 ((compress (byt (chunkOf (padB l) x.1)) (foldB (padB l) pre)).e),.int .u32 ((compress (byt (chunkOf (padB l) x.1)) (foldB (padB l) pre)).f),.int .u32 ((compress (byt (chunkOf (padB l) x.1)) (foldB (padB l) pre)).g),.int .u32 ((compress (byt (chunkOf (padB l) x.1)) (foldB (padB l) pre)).h)]) (c:=#[.int .u32 ((foldB (padB l) pre).a),.int .u32 ((foldB (padB l) pre).b),.int .u32 ((foldB (padB l) pre).c),.int .u32 ((foldB (padB l) pre).d),.int .u32 ((foldB (padB l) pre).e),.int .u32 ((foldB (padB l) pre).f),.int .u32 ((foldB (padB l) pre).g),.int .u32 ((foldB (padB l) pre).h)]) (c':=#[.int .u32 ((compress (byt (chunkOf (padB l) x.1)) (foldB (padB l) pre)).a),.int .u32 ((compress (byt (chunkOf (padB l) x.1)) (foldB (padB l) pre)).b),.int .u32 ((compress (byt (chunkOf (padB l) x.1)) (foldB (padB l) pre)).c),.int .u32 ((compress (byt (chunkOf (padB l) x.1)) (foldB (padB l) pre)).d),.int .u32 ((compress (byt (chunkOf (padB l) x.1)) (foldB (padB l) pre)).e),.int .u32 ((compress (byt (chunkOf (padB l) x.1)) (foldB (padB l) pre)).f),.int .u32 ((compress (byt (chunkOf (padB l) x.1)) (foldB (padB l) pre)).g),.int .u32 ((compress (byt (chunkOf (padB l) x.1)) (foldB (padB l) pre)).h)]) (j:=5) (m:=0) (H':=(L::D::[(nb44,.cells #[.int .i64 64] 3 (0,0))]::[(kb43,.cells #[.slice (some ⟨b6,0,none⟩) (64 * ((padB l).length / 64)) cap38] 22 (0,0))]::[(b42,.cells kArr 171 (0,0))]::[(b41,.cells #[.int .u32 ((compress (byt (chunkOf (padB l) x.1)) (foldB (padB l) pre)).a),.int .u32 ((compress (byt (chunkOf (padB l) x.1)) (foldB (padB l) pre)).b),.int .u32 ((compress (byt (chunkOf (padB l) x.1)) (foldB (padB l) pre)).c),.int .u32 ((compress (byt (chunkOf (padB l) x.1)) (foldB (padB l) pre)).d),.int .u32 ((compress (byt (chunkOf (padB l) x.1)) (foldB (padB l) pre)).e),.int .u32 ((compress (byt (chunkOf (padB l) x.1)) (foldB (padB l) pre)).f),.int .u32 ((compress (byt (chunkOf (padB l) x.1)) (foldB (padB l) pre)).g),.int .u32 ((compress (byt (chunkOf (padB l) x.1)) (foldB (padB l) pre)).h)] 169 (0,0))]::g27::g35::[(b1,.cells z32 148 (0,0))]::[(pb,.cells #[.slice xa l.length xc] 22 (0,0))]::H)) rfl rfl kr kr kr kr kr kr kr rfl rfl (Nat.le_of_ble_eq_true rfl) (fun _ _=>thaw0) kr kr ?_
   refine GL_fin (E':=[]) [] [] rfl kr ?_
   intro a w ha hs
   show Sat W0 (L :: D :: ([(nb44, .cells #[.int .i64 64] 3 (0, 0))] :: [(kb43, .cells #[.slice (some ⟨b6, 0, none⟩) (64 * ((padB l).length / 64)) cap38] 22 (0, 0))] :: [(b42, .cells kArr 171 (0, 0))] :: [(b41, .cells #[.int .u32 ((foldB (padB l) (pre ++ [x])).a), .int .u32 ((foldB (padB l) (pre ++ [x])).b), .int .u32 ((foldB (padB l) (pre ++ [x])).c), .int .u32 ((foldB (padB l) (pre ++ [x])).d), .int .u32 ((foldB (padB l) (pre ++ [x])).e), .int .u32 ((foldB (padB l) (pre ++ [x])).f), .int .u32 ((foldB (padB l) (pre ++ [x])).g), .int .u32 ((foldB (padB l) (pre ++ [x])).h)] 169 (0, 0))] :: g27 :: g35 :: [(b1, .cells z32 148 (0, 0))] :: [(pb, .cells #[.slice xa l.length xc] 22 (0, 0))] :: H)) w
   rw [foldB_snoc]
   exact hs
  ·
   intro D1 xs hxs
   subst hxs
   refine N_heap (H':=([(D1,.deferred (some []))]::[(nb44,.cells #[.int .i64 64] 3 (0,0))]::[(kb43,.cells #[.slice (some ⟨b6,0,none⟩) (64 * ((padB l).length / 64)) cap38] 22 (0,0))]::[(b42,.cells kArr 171 (0,0))]::[(b41,.cells #[.int .u32 ((sumS l).a),.int .u32 ((sumS l).b),.int .u32 ((sumS l).c),.int .u32 ((sumS l).d),.int .u32 ((sumS l).e),.int .u32 ((sumS l).f),.int .u32 ((sumS l).g),.int .u32 ((sumS l).h)] 169 (0,0))]::g27::g35::[(b1,.cells z32 148 (0,0))]::[(pb,.cells #[.slice xa l.length xc] 22 (0,0))]::H)) (fun w h=>h) ?_
   refine N_block ?_
   refine N_then ?_
   refine G_seq ?_
   refine G_region ?_
   refine GL_alloc (i:=0) (ch:=[]) (z:=.agg (oArr (sumS l) 0)) rfl rfl kr kr kr kr (fun b45=>?_)
   refine GL_fin (E':=[⟨2,[],pt b1⟩,⟨5,[],pt b41⟩,⟨8,[],pt b45⟩]) [] [2,5,8] rfl kr ?_
   refine N_then ?_
   refine G_seq ?_
   refine G_seq ?_
   refine G_region ?_
   refine GL_loadA (i:=0) (ch:=[]) (b:=b41) (off:=0) (l:=[.int .u32 ((sumS l).a),.int .u32 ((sumS l).b),.int .u32 ((sumS l).c),.int .u32 ((sumS l).d),.int .u32 ((sumS l).e),.int .u32 ((sumS l).f),.int .u32 ((sumS l).g),.int .u32 ((sumS l).h)]) rfl rfl kr kr kr kr kr kr (At.grp 5 0 rfl rfl) kr ?_
   refine GL_fin (E':=[⟨2,[],pt b1⟩,⟨8,[],pt b45⟩,⟨40,[],.agg #[.int .u32 ((sumS l).a),.int .u32 ((sumS l).b),.int .u32 ((sumS l).c),.int .u32 ((sumS l).d),.int .u32 ((sumS l).e),.int .u32 ((sumS l).f),.int .u32 ((sumS l).g),.int .u32 ((sumS l).h)]⟩,⟨41,[],.int .i64 0⟩]) [0] [2,8,40,41] rfl kr ?_
   refine N_then ?_
   refine G_block ?_
   refine G_heap (H':=([(b45,.cells (oArr (sumS l) 0) 148 (0,0))]::[(D1,.deferred (some []))]::[(b1,.cells z32 148 (0,0))]::[(pb,.cells #[.slice xa l.length xc] 22 (0,0))]::H)) (fun w h=>((((((h.erase 7).erase 6).erase 5).erase 4).erase 3).erase 2)) ?_
   refine G_loop (EI:=(fun ξ : Nat=>[⟨2,[],pt b1⟩,⟨8,[],pt b45⟩,⟨40,[],.agg #[.int .u32 ((sumS l).a),.int .u32 ((sumS l).b),.int .u32 ((sumS l).c),.int .u32 ((sumS l).d),.int .u32 ((sumS l).e),.int .u32 ((sumS l).f),.int .u32 ((sumS l).g),.int .u32 ((sumS l).h)]⟩,⟨41,[],.int .i64 ((ξ : Nat) : Int)⟩])) (HI:=(fun ξ : Nat=>([(b45,.cells (oArr (sumS l) (4 * ξ)) 148 (0,0))]::[(D1,.deferred (some []))]::[(b1,.cells z32 148 (0,0))]::[(pb,.cells #[.slice xa l.length xc] 22 (0,0))]::H))) (Φ:=(fun ξ : Nat=>(ξ ≤ 8))) (μ:=(fun ξ : Nat=>8 - ξ)) (s0:=(0)) [2,8,40,41] kr rfl (by omega) ?_
   rintro j hj
   refine G_seq ?_
   refine G_pure (E':=[⟨2,[],pt b1⟩,⟨8,[],pt b45⟩,⟨40,[],.agg #[.int .u32 ((sumS l).a),.int .u32 ((sumS l).b),.int .u32 ((sumS l).c),.int .u32 ((sumS l).d),.int .u32 ((sumS l).e),.int .u32 ((sumS l).f),.int .u32 ((sumS l).g),.int .u32 ((sumS l).h)]⟩,⟨41,[],.int .i64 ((j : Nat) : Int)⟩,⟨42,[],.bool (decide (((j : Nat) : Int) < 8))⟩]) [0] [2,8,40,41,42] rfl kr ?_
   refine N_then ?_
   refine G_seq ?_
   refine G_cond (b:=decide (((j : Nat) : Int) < 8)) kr (fun hc46=>?_) (fun hc46=>?_)
   ·
    have hj8 := of_decide_eq_true hc46
    replace hj8 : j < 8 := by omega
    refine G_skip ?_
    refine N_then ?_
    refine G_seq ?_
    refine G_block ?_
    refine G_seq ?_
    refine G_region ?_
    refine GL_pure (E':=[⟨43,[],.int .i64 ((j : Nat) : Int)⟩,⟨2,[],pt b1⟩,⟨8,[],pt b45⟩,⟨40,[],.agg #[.int .u32 ((sumS l).a),.int .u32 ((sumS l).b),.int .u32 ((sumS l).c),.int .u32 ((sumS l).d),.int .u32 ((sumS l).e),.int .u32 ((sumS l).f),.int .u32 ((sumS l).g),.int .u32 ((sumS l).h)]⟩,⟨41,[],.int .i64 ((j : Nat) : Int)⟩]) [0] kr (j:=1) rfl ?_
    refine GL_indexV (i:=1) (ch:=[]) (vs:=#[.int .u32 ((sumS l).a),.int .u32 ((sumS l).b),.int .u32 ((sumS l).c),.int .u32 ((sumS l).d),.int .u32 ((sumS l).e),.int .u32 ((sumS l).f),.int .u32 ((sumS l).g),.int .u32 ((sumS l).h)]) (kd:=.i64) (j:=((j : Nat) : Int)) (len:=8) (e:=144) (v:=.int .u32 (wd (sumS l) j)) rfl rfl kr kr kr kr kr kr kr kr (fun _=>⟨by omega,by omega,by rw [Int.toNat_natCast]; exact wd_at _ hj8⟩) ?_
    refine GL_fin (E':=[⟨2,[],pt b1⟩,⟨8,[],pt b45⟩,⟨9,[],.int .i64 ((j : Nat) : Int)⟩,⟨10,[],.int .u32 (wd (sumS l) j)⟩,⟨40,[],.agg #[.int .u32 ((sumS l).a),.int .u32 ((sumS l).b),.int .u32 ((sumS l).c),.int .u32 ((sumS l).d),.int .u32 ((sumS l).e),.int .u32 ((sumS l).f),.int .u32 ((sumS l).g),.int .u32 ((sumS l).h)]⟩,⟨41,[],.int .i64 ((j : Nat) : Int)⟩]) [0,0] [2,8,9,10,40,41] rfl kr ?_
    refine N_then ?_
    have hw47 : IntKind.wrap .i64 (4 * ((j : Nat) : Int)) = 4 * ((j : Nat) : Int) := w64 (by omega) (by omega)
    have hw48 : IntKind.wrap .i64 (4 * ((j : Nat) : Int)) = 4 * ((j : Nat) : Int) := w64 (by omega) (by omega)
    have hw49 : IntKind.wrap .i64 ((4 * ((j : Nat) : Int)) + 1) = (4 * ((j : Nat) : Int)) + 1 := w64 (by omega) (by omega)
    have hw50 : IntKind.wrap .i64 (4 * ((j : Nat) : Int)) = 4 * ((j : Nat) : Int) := w64 (by omega) (by omega)
    have hw51 : IntKind.wrap .i64 ((4 * ((j : Nat) : Int)) + 2) = (4 * ((j : Nat) : Int)) + 2 := w64 (by omega) (by omega)
    have hw52 : IntKind.wrap .i64 (4 * ((j : Nat) : Int)) = 4 * ((j : Nat) : Int) := w64 (by omega) (by omega)
    have hw53 : IntKind.wrap .i64 ((4 * ((j : Nat) : Int)) + 3) = (4 * ((j : Nat) : Int)) + 3 := w64 (by omega) (by omega)
    refine G_region ?_
    refine GL_pure (E':=[⟨66,[],.int .u8 (IntKind.wrap .u8 (wd (sumS l) j))⟩,⟨64,[],.int .u8 (IntKind.wrap .u8 (Int.fdiv (wd (sumS l) j) (2 ^ 8)))⟩,⟨61,[],.int .u8 (IntKind.wrap .u8 (Int.fdiv (wd (sumS l) j) (2 ^ 16)))⟩,⟨58,[],.int .u8 (IntKind.wrap .u8 (Int.fdiv (wd (sumS l) j) (2 ^ 24)))⟩,⟨55,[],.int .i64 ((4 * ((j : Nat) : Int))+3)⟩,⟨52,[],.int .i64 ((4 * ((j : Nat) : Int))+2)⟩,⟨49,[],.int .i64 ((4 * ((j : Nat) : Int))+1)⟩,⟨46,[],.int .i64 (4 * ((j : Nat) : Int))⟩,⟨2,[],pt b1⟩,⟨8,[],pt b45⟩,⟨40,[],.agg #[.int .u32 ((sumS l).a),.int .u32 ((sumS l).b),.int .u32 ((sumS l).c),.int .u32 ((sumS l).d),.int .u32 ((sumS l).e),.int .u32 ((sumS l).f),.int .u32 ((sumS l).g),.int .u32 ((sumS l).h)]⟩,⟨41,[],.int .i64 ((j : Nat) : Int)⟩]) [0,0,0,0,0,0,0,0,0,0,0,0,0,0,0,0,0,0,0,0,0,0] (Eq.trans (b:=some [⟨66,[],.int .u8 (IntKind.wrap .u8 (wd (sumS l) j))⟩,⟨64,[],.int .u8 (IntKind.wrap .u8 (Int.fdiv (wd (sumS l) j) (2 ^ 8)))⟩,⟨61,[],.int .u8 (IntKind.wrap .u8 (Int.fdiv (wd (sumS l) j) (2 ^ 16)))⟩,⟨58,[],.int .u8 (IntKind.wrap .u8 (Int.fdiv (wd (sumS l) j) (2 ^ 24)))⟩,⟨55,[],.int .i64 (IntKind.wrap .i64 ((IntKind.wrap .i64 (4 * ((j : Nat) : Int)))+3))⟩,⟨52,[],.int .i64 (IntKind.wrap .i64 ((IntKind.wrap .i64 (4 * ((j : Nat) : Int)))+2))⟩,⟨49,[],.int .i64 (IntKind.wrap .i64 ((IntKind.wrap .i64 (4 * ((j : Nat) : Int)))+1))⟩,⟨46,[],.int .i64 (IntKind.wrap .i64 (4 * ((j : Nat) : Int)))⟩,⟨2,[],pt b1⟩,⟨8,[],pt b45⟩,⟨40,[],.agg #[.int .u32 ((sumS l).a),.int .u32 ((sumS l).b),.int .u32 ((sumS l).c),.int .u32 ((sumS l).d),.int .u32 ((sumS l).e),.int .u32 ((sumS l).f),.int .u32 ((sumS l).g),.int .u32 ((sumS l).h)]⟩,⟨41,[],.int .i64 ((j : Nat) : Int)⟩]) kr (by simp only [hw47,hw49,hw51,hw53])) (j:=22) rfl ?_
    refine GL_indexArr (i:=22) (ch:=[]) (b:=b45) (off:=0) (len:=32) (sz:=1) (e:=5) (kd:=.i64) (j:=4 * ((j : Nat) : Int)) rfl rfl kr kr kr kr kr kr kr (fun _=>by exact ⟨by omega,by omega⟩) ?_
    refine GL_store (i:=23) (ch:=[]) (b:=b45) (off:=0+Int.toNat (4 * ((j : Nat) : Int)) * 1) (v:=.int .u8 (IntKind.wrap .u8 (Int.fdiv (wd (sumS l) j) (2 ^ 24)))) (c:=(oArr (sumS l) (4 * j))) (c':=(oArr (sumS l) (4 * j+1))) (j:=0) (m:=0) (H':=([(b45,.cells (oArr (sumS l) (4 * j+1)) 148 (0,0))]::[(D1,.deferred (some []))]::[(b1,.cells z32 148 (0,0))]::[(pb,.cells #[.slice xa l.length xc] 22 (0,0))]::H)) rfl rfl kr kr kr kr kr kr kr rfl rfl (by rw [oArr_size _ (by omega)]; show 0+Int.toNat _ * 1+1 ≤ 32; omega) (fun _ _=>thaw0) (oArr_set _ (q:=(4 * ((j : Nat) : Int))) (j:=4 * j) (by omega) (by omega) (by rw [(outB_at _ hj8).1,← wrap_b8])) kr ?_
    refine GL_indexArr (i:=24) (ch:=[]) (b:=b45) (off:=0) (len:=32) (sz:=1) (e:=5) (kd:=.i64) (j:=(4 * ((j : Nat) : Int))+1) rfl rfl kr kr kr kr kr kr kr (fun _=>by exact ⟨by omega,by omega⟩) ?_
    refine GL_store (i:=25) (ch:=[]) (b:=b45) (off:=0+Int.toNat ((4 * ((j : Nat) : Int))+1) * 1) (v:=.int .u8 (IntKind.wrap .u8 (Int.fdiv (wd (sumS l) j) (2 ^ 16)))) (c:=(oArr (sumS l) (4 * j+1))) (c':=(oArr (sumS l) (4 * j+2))) (j:=0) (m:=0) (H':=([(b45,.cells (oArr (sumS l) (4 * j+2)) 148 (0,0))]::[(D1,.deferred (some []))]::[(b1,.cells z32 148 (0,0))]::[(pb,.cells #[.slice xa l.length xc] 22 (0,0))]::H)) rfl rfl kr kr kr kr kr kr kr rfl rfl (by rw [oArr_size _ (by omega)]; show 0+Int.toNat _ * 1+1 ≤ 32; omega) (fun _ _=>thaw0) (oArr_set _ (q:=((4 * ((j : Nat) : Int))+1)) (j:=4 * j+1) (by omega) (by omega) (by rw [(outB_at _ hj8).2.1,← wrap_b8])) kr ?_
    refine GL_indexArr (i:=26) (ch:=[]) (b:=b45) (off:=0) (len:=32) (sz:=1) (e:=5) (kd:=.i64) (j:=(4 * ((j : Nat) : Int))+2) rfl rfl kr kr kr kr kr kr kr (fun _=>by exact ⟨by omega,by omega⟩) ?_
    refine GL_store (i:=27) (ch:=[]) (b:=b45) (off:=0+Int.toNat ((4 * ((j : Nat) : Int))+2) * 1) (v:=.int .u8 (IntKind.wrap .u8 (Int.fdiv (wd (sumS l) j) (2 ^ 8)))) (c:=(oArr (sumS l) (4 * j+2))) (c':=(oArr (sumS l) (4 * j+3))) (j:=0) (m:=0) (H':=([(b45,.cells (oArr (sumS l) (4 * j+3)) 148 (0,0))]::[(D1,.deferred (some []))]::[(b1,.cells z32 148 (0,0))]::[(pb,.cells #[.slice xa l.length xc] 22 (0,0))]::H)) rfl rfl kr kr kr kr kr kr kr rfl rfl (by rw [oArr_size _ (by omega)]; show 0+Int.toNat _ * 1+1 ≤ 32; omega) (fun _ _=>thaw0) (oArr_set _ (q:=((4 * ((j : Nat) : Int))+2)) (j:=4 * j+2) (by omega) (by omega) (by rw [(outB_at _ hj8).2.2.1,← wrap_b8])) kr ?_
    refine GL_indexArr (i:=28) (ch:=[]) (b:=b45) (off:=0) (len:=32) (sz:=1) (e:=5) (kd:=.i64) (j:=(4 * ((j : Nat) : Int))+3) rfl rfl kr kr kr kr kr kr kr (fun _=>by exact ⟨by omega,by omega⟩) ?_
    refine GL_store (i:=29) (ch:=[]) (b:=b45) (off:=0+Int.toNat ((4 * ((j : Nat) : Int))+3) * 1) (v:=.int .u8 (IntKind.wrap .u8 (wd (sumS l) j))) (c:=(oArr (sumS l) (4 * j+3))) (c':=(oArr (sumS l) (4 * j+4))) (j:=0) (m:=0) (H':=([(b45,.cells (oArr (sumS l) (4 * j+4)) 148 (0,0))]::[(D1,.deferred (some []))]::[(b1,.cells z32 148 (0,0))]::[(pb,.cells #[.slice xa l.length xc] 22 (0,0))]::H)) rfl rfl kr kr kr kr kr kr kr rfl rfl (by rw [oArr_size _ (by omega)]; show 0+Int.toNat _ * 1+1 ≤ 32; omega) (fun _ _=>thaw0) (oArr_set _ (q:=((4 * ((j : Nat) : Int))+3)) (j:=4 * j+3) (by omega) (by omega) (by rw [(outB_at _ hj8).2.2.2,← wrap_b8])) kr ?_
    refine GL_fin (E':=[⟨2,[],pt b1⟩,⟨8,[],pt b45⟩,⟨40,[],.agg #[.int .u32 ((sumS l).a),.int .u32 ((sumS l).b),.int .u32 ((sumS l).c),.int .u32 ((sumS l).d),.int .u32 ((sumS l).e),.int .u32 ((sumS l).f),.int .u32 ((sumS l).g),.int .u32 ((sumS l).h)]⟩,⟨41,[],.int .i64 ((j : Nat) : Int)⟩]) [] [2,8,40,41] rfl kr ?_
    refine N_block ?_
    refine N_then ?_
    have hw54 : IntKind.wrap .i64 (((j : Nat) : Int) + 1) = ((j : Nat) : Int) + 1 := w64 (by omega) (by omega)
    refine G_pure (E':=[⟨2,[],pt b1⟩,⟨8,[],pt b45⟩,⟨40,[],.agg #[.int .u32 ((sumS l).a),.int .u32 ((sumS l).b),.int .u32 ((sumS l).c),.int .u32 ((sumS l).d),.int .u32 ((sumS l).e),.int .u32 ((sumS l).f),.int .u32 ((sumS l).g),.int .u32 ((sumS l).h)]⟩,⟨41,[],.int .i64 (((j : Nat) : Int)+1)⟩]) [0,0] [2,8,40,41] rfl (Eq.trans (b:=some [⟨2,[],pt b1⟩,⟨8,[],pt b45⟩,⟨40,[],.agg #[.int .u32 ((sumS l).a),.int .u32 ((sumS l).b),.int .u32 ((sumS l).c),.int .u32 ((sumS l).d),.int .u32 ((sumS l).e),.int .u32 ((sumS l).f),.int .u32 ((sumS l).g),.int .u32 ((sumS l).h)]⟩,⟨41,[],.int .i64 (IntKind.wrap .i64 (((j : Nat) : Int)+1))⟩]) kr (by simp only [hw54])) ?_
    refine N_round (s':=(j+1)) [2,8,40,41] kr rfl (by omega) (by omega)
   ·
    have hj8 : j = 8 := by (have h9 := of_decide_eq_false hc46; omega)
    refine G_exit ?_
    refine N_then_exit ?_
    refine N_then_exit ?_
    refine N_block_exit ?_
    refine N_then ?_
    refine G_seq ?_
    refine G_region ?_
    refine GL_loadA (i:=0) (ch:=[]) (b:=b45) (off:=0) (l:=(u8s (outB (sumS l)))) rfl rfl kr kr kr kr kr kr (At.grp 0 0 rfl rfl) (by rw [hj8]; exact oload _) ?_
    refine GL_store (i:=1) (ch:=[]) (b:=b1) (off:=0) (v:=.agg (u8s (sumB l)).toArray) (c:=z32) (c':=(u8s (sumB l)).toArray) (j:=2) (m:=0) (H':=([(b45,.cells (oArr (sumS l) (4 * j)) 148 (0,0))]::[(D1,.deferred (some []))]::[(b1,.cells (u8s (sumB l)).toArray 148 (0,0))]::[(pb,.cells #[.slice xa l.length xc] 22 (0,0))]::H)) rfl rfl kr kr kr kr kr kr kr rfl rfl (Nat.le_of_ble_eq_true rfl) (fun _ _=>thaw0) kr kr ?_
    refine GL_fin (E':=[⟨2,[],pt b1⟩]) [] [2] rfl kr ?_
    refine N_then ?_
    refine G_ret ?_
    refine N_heap (H':=([(D1,.deferred (some []))]::[(b45,.cells (oArr (sumS l) (4 * j)) 148 (0,0))]::[(b1,.cells (u8s (sumB l)).toArray 148 (0,0))]::[(pb,.cells #[.slice xa l.length xc] 22 (0,0))]::H)) (fun w h=>(h.front (j:=1) rfl)) ?_
    refine N_retM [.cell 2 148] [(.agg ((u8s (sumB l))).toArray)] rfl rfl (.cons (.agg (b:=b1) (off:=0) (l:=(u8s (sumB l))) kr kr kr (At.grp 1 0 rfl rfl) kr) (.nil)) rfl ⟨([(pb,.cells #[.slice xa l.length xc] 22 (0,0))]::H),?_,fun w h=>((h.erase 1).erase 0)⟩
    exact ⟨rfl, rfl⟩
theorem hex_ (pb : Nat) (xa : Option Addr) (xc : Nat) (S : Nat → Obj → Prop) (l : List UInt8) (hrd : Rd S xa (u8s l)) (h0 : xa = none → l.length = 0) (hn : l.length ≤ 1099511627776) (W0 : World) (H : List Grp) (hS : ∀ y o, S y o → At W0 H y o) : Tri Tryz.prog 84 #[.slice (some ⟨pb, 0, none⟩) 1 1] W0 ([(pb, .cells #[.slice xa l.length xc] 22 (0, 0))] :: H) (fun v H' => v = .string (hexM l) ∧ H' = ([(pb, .cells #[.slice xa l.length xc] 22 (0, 0))] :: H)) := by
 refine Tri_of (args := [.slice (some ⟨pb, 0, none⟩) 1 1]) (n := 23) Tryz.func84 rfl rfl (Nat.le_of_ble_eq_true rfl) ?_
 refine G_seq ?_
 refine G_pure (E':=[⟨0,[],.slice (some ⟨pb,0,none⟩) 1 1⟩]) [0] [0] rfl kr ?_
 refine N_then ?_
 refine G_seq ?_
 refine G_pure (E':=[⟨0,[],.slice (some ⟨pb,0,none⟩) 1 1⟩,⟨3,[],.slice none 0 0⟩]) [0] [0,3] rfl kr ?_
 refine N_then ?_
 refine G_seq ?_
 refine G_seq ?_
 refine G_region ?_
 refine GL_pure (E':=[⟨6,[],.slice (some ⟨pb,0,none⟩) 1 1⟩,⟨3,[],.slice none 0 0⟩]) [0] kr (j:=1) rfl ?_
 refine GL_call (i:=1) (ch:=[]) (f:=103) (fst:=#[]) (caps:=#[]) (vs:=[.slice (some ⟨pb,0,none⟩) 1 1]) rfl rfl rfl kr kr Tryz.func103 rfl rfl kr kr (chSure_of kr) (sum_ pb xa xc S l hrd h0 hn _ _ (fun y o h=>(hS y o h))) ?_
 rintro v H' ⟨rfl, rfl⟩
 refine GL_fin (E':=[⟨3,[],.slice none 0 0⟩,⟨7,[],(.agg (u8s (sumB l)).toArray)⟩,⟨8,[],.int .i64 0⟩]) [0] [3,7,8] rfl kr ?_
 refine N_then ?_
 refine G_block ?_
 refine G_heap (H':=([]::[(pb,.cells #[.slice xa l.length xc] 22 (0,0))]::H)) (fun w h=>h.flat (List.Perm.refl _)) ?_
 refine G_loop (EI:=(fun ξ : Nat × Value × Grp=>[⟨3,[],ξ.2.1⟩,⟨7,[],(.agg (u8s (sumB l)).toArray)⟩,⟨8,[],.int .i64 ((ξ.1 : Nat) : Int)⟩])) (HI:=(fun ξ : Nat × Value × Grp=>(ξ.2.2::[(pb,.cells #[.slice xa l.length xc] 22 (0,0))]::H))) (Φ:=(fun ξ : Nat × Value × Grp=>(ξ.1 ≤ 32)∧(Go.Sw.Own 5 1 ξ.2.1 ξ.2.2 (2 * ξ.1) (u8s (hexK (sumB l) ξ.1))))) (μ:=(fun ξ : Nat × Value × Grp=>32 - ξ.1)) (s0:=(0,.slice none 0 0,[])) [3,7,8] kr rfl ⟨(by omega),Go.Sw.Own.nil⟩ ?_
 rintro ⟨j, vh, gh⟩ ⟨hj, hOh⟩
 replace hOh : Go.Sw.Own 5 1 vh gh (2 * j) (u8s (hexK (sumB l) j)) := hOh
 refine G_seq ?_
 refine G_pure (E':=[⟨3,[],vh⟩,⟨7,[],(.agg (u8s (sumB l)).toArray)⟩,⟨8,[],.int .i64 ((j : Nat) : Int)⟩,⟨9,[],.bool (decide (((j : Nat) : Int) < 32))⟩]) [0] [3,7,8,9] rfl kr ?_
 refine N_then ?_
 refine G_seq ?_
 refine G_cond (b:=decide (((j : Nat) : Int) < 32)) kr (fun hc1=>?_) (fun hc1=>?_)
 ·
  have hj8 := of_decide_eq_true hc1
  refine G_skip ?_
  refine N_then ?_
  refine G_seq ?_
  refine G_block ?_
  refine G_seq ?_
  refine G_region ?_
  refine GL_indexV (i:=0) (ch:=[]) (vs:=(u8s (sumB l)).toArray) (kd:=.i64) (j:=((j : Nat) : Int)) (len:=32) (e:=5) (v:=.int .u8 (byt (sumB l) j)) rfl rfl kr kr kr kr kr kr kr kr (fun _=>⟨by omega,by omega,by rw [Int.toNat_natCast,List.getElem?_toArray]; exact byt_at rfl (by show j < 32; omega)⟩) ?_
  refine GL_fin (E':=[⟨3,[],vh⟩,⟨5,[],.int .u8 (byt (sumB l) j)⟩,⟨7,[],(.agg (u8s (sumB l)).toArray)⟩,⟨8,[],.int .i64 ((j : Nat) : Int)⟩]) [0] [3,5,7,8] rfl kr ?_
  refine N_then ?_
  refine G_regionH ([(pb,.cells #[.slice xa l.length xc] 22 (0,0))]::H) kr ?_
  refine GH_pure (E':=[⟨11,[],vh⟩,⟨3,[],vh⟩,⟨5,[],.int .u8 (byt (sumB l) j)⟩,⟨7,[],(.agg (u8s (sumB l)).toArray)⟩,⟨8,[],.int .i64 ((j : Nat) : Int)⟩]) 0 0 kr (fun w h=>(h.erase 0)) kr ?_
  refine GH_pure (E':=[⟨12,[],.int .u8 (byt (sumB l) j)⟩,⟨11,[],vh⟩,⟨3,[],vh⟩,⟨5,[],.int .u8 (byt (sumB l) j)⟩,⟨7,[],(.agg (u8s (sumB l)).toArray)⟩,⟨8,[],.int .i64 ((j : Nat) : Int)⟩]) 1 0 kr (fun w h=>(h.erase 0)) kr ?_
  refine GH_pure (E':=[⟨13,[],.int .u8 (Int.fdiv (byt (sumB l) j) (2 ^ 4))⟩,⟨11,[],vh⟩,⟨3,[],vh⟩,⟨5,[],.int .u8 (byt (sumB l) j)⟩,⟨7,[],(.agg (u8s (sumB l)).toArray)⟩,⟨8,[],.int .i64 ((j : Nat) : Int)⟩]) 2 0 kr (fun w h=>(h.erase 0)) kr ?_
  refine GH_take' (E':=[⟨14,[],.int .u8 (byteAt (ByteArray.mk #[48,49,50,51,52,53,54,55,56,57,97,98,99,100,101,102]) (Int.fdiv (byt (sumB l) j) (2 ^ 4)))⟩,⟨13,[],.int .u8 (Int.fdiv (byt (sumB l) j) (2 ^ 4))⟩,⟨11,[],vh⟩,⟨3,[],vh⟩,⟨5,[],.int .u8 (byt (sumB l) j)⟩,⟨7,[],(.agg (u8s (sumB l)).toArray)⟩,⟨8,[],.int .i64 ((j : Nat) : Int)⟩]) 3 kr (fun w h=>(h.erase 0)) ?_ ?_
  ·
   refine GL_index (i:=3) (ch:=[]) (s:=(ByteArray.mk #[48,49,50,51,52,53,54,55,56,57,97,98,99,100,101,102])) (kd:=.u8) (j:=Int.fdiv (byt (sumB l) j) (2 ^ 4)) rfl rfl kr kr kr kr kr kr (by have:=nib_at (sumB l) j; unfold low4 at this; intro _; exact ⟨by omega,by show _ < 16; omega⟩) ?_
   have hb2 := byteAt_rng (ByteArray.mk #[48, 49, 50, 51, 52, 53, 54, 55, 56, 57, 97, 98, 99, 100, 101, 102]) (Int.fdiv (byt (sumB l) j) (2 ^ 4))
   exact GL_yend kr kr
  refine GH_pure (E':=[⟨15,[],.int .u8 (byt (sumB l) j)⟩,⟨14,[],.int .u8 (byteAt (ByteArray.mk #[48,49,50,51,52,53,54,55,56,57,97,98,99,100,101,102]) (Int.fdiv (byt (sumB l) j) (2 ^ 4)))⟩,⟨11,[],vh⟩,⟨3,[],vh⟩,⟨7,[],(.agg (u8s (sumB l)).toArray)⟩,⟨8,[],.int .i64 ((j : Nat) : Int)⟩]) 4 0 kr (fun w h=>(h.erase 0)) kr ?_
  refine GH_pure (E':=[⟨16,[],.int .u8 (IntKind.wrap .u8 ((BitVec.ofInt (IntKind.bits .u8) (byt (sumB l) j) &&& BitVec.ofInt (IntKind.bits .u8) 15).toNat))⟩,⟨14,[],.int .u8 (byteAt (ByteArray.mk #[48,49,50,51,52,53,54,55,56,57,97,98,99,100,101,102]) (Int.fdiv (byt (sumB l) j) (2 ^ 4)))⟩,⟨11,[],vh⟩,⟨3,[],vh⟩,⟨7,[],(.agg (u8s (sumB l)).toArray)⟩,⟨8,[],.int .i64 ((j : Nat) : Int)⟩]) 5 0 kr (fun w h=>(h.erase 0)) kr ?_
  refine GH_take' (E':=[⟨17,[],.int .u8 (byteAt (ByteArray.mk #[48,49,50,51,52,53,54,55,56,57,97,98,99,100,101,102]) (IntKind.wrap .u8 ((BitVec.ofInt (IntKind.bits .u8) (byt (sumB l) j) &&& BitVec.ofInt (IntKind.bits .u8) 15).toNat)))⟩,⟨16,[],.int .u8 (IntKind.wrap .u8 ((BitVec.ofInt (IntKind.bits .u8) (byt (sumB l) j) &&& BitVec.ofInt (IntKind.bits .u8) 15).toNat))⟩,⟨14,[],.int .u8 (byteAt (ByteArray.mk #[48,49,50,51,52,53,54,55,56,57,97,98,99,100,101,102]) (Int.fdiv (byt (sumB l) j) (2 ^ 4)))⟩,⟨11,[],vh⟩,⟨3,[],vh⟩,⟨7,[],(.agg (u8s (sumB l)).toArray)⟩,⟨8,[],.int .i64 ((j : Nat) : Int)⟩]) 6 kr (fun w h=>(h.erase 0)) ?_ ?_
  ·
   refine GL_index (i:=6) (ch:=[]) (s:=(ByteArray.mk #[48,49,50,51,52,53,54,55,56,57,97,98,99,100,101,102])) (kd:=.u8) (j:=IntKind.wrap .u8 ((BitVec.ofInt (IntKind.bits .u8) (byt (sumB l) j) &&& BitVec.ofInt (IntKind.bits .u8) 15).toNat)) rfl rfl kr kr kr kr kr kr (by have:=nib_at (sumB l) j; unfold low4 at this; intro _; exact ⟨by omega,by show _ < 16; omega⟩) ?_
   have hb3 := byteAt_rng (ByteArray.mk #[48, 49, 50, 51, 52, 53, 54, 55, 56, 57, 97, 98, 99, 100, 101, 102]) (IntKind.wrap .u8 ((BitVec.ofInt (IntKind.bits .u8) (byt (sumB l) j) &&& BitVec.ofInt (IntKind.bits .u8) 15).toNat))
   exact GL_yend kr kr
  refine GH_eff 7 kr kr kr ?_
  refine GL_buildSlice (i:=7) (ch:=[]) (e:=5) (l:=[(0,.int .u8 (byteAt (ByteArray.mk #[48,49,50,51,52,53,54,55,56,57,97,98,99,100,101,102]) (Int.fdiv (byt (sumB l) j) (2 ^ 4)))),(1,.int .u8 (byteAt (ByteArray.mk #[48,49,50,51,52,53,54,55,56,57,97,98,99,100,101,102]) (IntKind.wrap .u8 ((BitVec.ofInt (IntKind.bits .u8) (byt (sumB l) j) &&& BitVec.ofInt (IntKind.bits .u8) 15).toNat))))]) (c:=[.int .u8 (byteAt (ByteArray.mk #[48,49,50,51,52,53,54,55,56,57,97,98,99,100,101,102]) (Int.fdiv (byt (sumB l) j) (2 ^ 4))),.int .u8 (byteAt (ByteArray.mk #[48,49,50,51,52,53,54,55,56,57,97,98,99,100,101,102]) (IntKind.wrap .u8 ((BitVec.ofInt (IntKind.bits .u8) (byt (sumB l) j) &&& BitVec.ofInt (IntKind.bits .u8) 15).toNat)))]) rfl rfl kr kr kr kr kr (fun b4=>?_)
  refine GH_back kr (fun w h=>((h.erase 1).erase 0)) ?_
  refine GH_more ([(b4,.cells #[.int .u8 (byteAt (ByteArray.mk #[48,49,50,51,52,53,54,55,56,57,97,98,99,100,101,102]) (Int.fdiv (byt (sumB l) j) (2 ^ 4))),.int .u8 (byteAt (ByteArray.mk #[48,49,50,51,52,53,54,55,56,57,97,98,99,100,101,102]) (IntKind.wrap .u8 ((BitVec.ofInt (IntKind.bits .u8) (byt (sumB l) j) &&& BitVec.ofInt (IntKind.bits .u8) 15).toNat)))] 5 (0,0))]::[(pb,.cells #[.slice xa l.length xc] 22 (0,0))]::H) (fun w h=>(h.erase 0)) ?_
  refine GH_eff 8 kr kr kr ?_
  refine GL_append (i:=8) (ch:=[]) (t:=22) (tx:=22) (e:=5) (inf:=Tryz.t5) (s:=vh) (x:=.slice (some ⟨b4,0,none⟩) 2 2) (n:=(2 * j)) (m:=2) (j:=1) (cs:=(u8s (hexK (sumB l) j))) (news:=[.int .u8 (byteAt (ByteArray.mk #[48,49,50,51,52,53,54,55,56,57,97,98,99,100,101,102]) (Int.fdiv (byt (sumB l) j) (2 ^ 4))),.int .u8 (byteAt (ByteArray.mk #[48,49,50,51,52,53,54,55,56,57,97,98,99,100,101,102]) (IntKind.wrap .u8 ((BitVec.ofInt (IntKind.bits .u8) (byt (sumB l) j) &&& BitVec.ofInt (IntKind.bits .u8) 15).toNat)))]) (g:=gh) (S:=(inG [(b4,.cells #[.int .u8 (byteAt (ByteArray.mk #[48,49,50,51,52,53,54,55,56,57,97,98,99,100,101,102]) (Int.fdiv (byt (sumB l) j) (2 ^ 4))),.int .u8 (byteAt (ByteArray.mk #[48,49,50,51,52,53,54,55,56,57,97,98,99,100,101,102]) (IntKind.wrap .u8 ((BitVec.ofInt (IntKind.bits .u8) (byt (sumB l) j) &&& BitVec.ofInt (IntKind.bits .u8) 15).toNat)))] 5 (0,0))])) rfl rfl rfl rfl kr kr kr rfl rfl (.inl ⟨5,kr⟩) (fun ⟨_,h⟩=>by cases h) (fun _=>⟨5,kr⟩) kr kr kr rfl hOh (SrcOf.slice _ _ _ _ Rd.lit (fun h=>by cases h)) (at_inG 0 rfl) kr (by intro u hu; simp only [List.mem_cons,List.not_mem_nil,or_false] at hu; rcases hu with rfl | rfl <;> rfl) (by omega) (by show ((2 * j)+2) * 1 ≤ 140737488355328; omega) (fun v5 g6 hO7=>?_)
  refine GH_back kr (fun w h=>(h.erase 1)) ?_
  refine GH_more ([(b4,.cells #[.int .u8 (byteAt (ByteArray.mk #[48,49,50,51,52,53,54,55,56,57,97,98,99,100,101,102]) (Int.fdiv (byt (sumB l) j) (2 ^ 4))),.int .u8 (byteAt (ByteArray.mk #[48,49,50,51,52,53,54,55,56,57,97,98,99,100,101,102]) (IntKind.wrap .u8 ((BitVec.ofInt (IntKind.bits .u8) (byt (sumB l) j) &&& BitVec.ofInt (IntKind.bits .u8) 15).toNat)))] 5 (0,0))]::g6::[(pb,.cells #[.slice xa l.length xc] 22 (0,0))]::H) (fun w h=>(h.erase 1)) ?_
  refine GH_pure (E':=[⟨3,[],v5⟩,⟨7,[],(.agg (u8s (sumB l)).toArray)⟩,⟨8,[],.int .i64 ((j : Nat) : Int)⟩]) 9 0 kr (fun w h=>h) kr ?_
  refine GH_done (E':=[⟨3,[],v5⟩,⟨7,[],(.agg (u8s (sumB l)).toArray)⟩,⟨8,[],.int .i64 ((j : Nat) : Int)⟩]) [3,7,8] kr kr ?_
  refine N_block ?_
  refine N_then ?_
  have hw8 : IntKind.wrap .i64 (((j : Nat) : Int) + 1) = ((j : Nat) : Int) + 1 := w64 (by omega) (by omega)
  refine G_pure (E':=[⟨3,[],v5⟩,⟨7,[],(.agg (u8s (sumB l)).toArray)⟩,⟨8,[],.int .i64 (((j : Nat) : Int)+1)⟩]) [0,0] [3,7,8] rfl (Eq.trans (b:=some [⟨3,[],v5⟩,⟨7,[],(.agg (u8s (sumB l)).toArray)⟩,⟨8,[],.int .i64 (IntKind.wrap .i64 (((j : Nat) : Int)+1))⟩]) kr (by simp only [hw8])) ?_
  refine N_heap (H':=(g6::[(pb,.cells #[.slice xa l.length xc] 22 (0,0))]::H)) (fun w h=>(h.erase 0)) ?_
  refine N_round (s':=(j+1,v5,g6)) [3,7,8] kr rfl ⟨(by omega),(own_cs hO7 (hexK_succ (sumB l) (by show j < 32; omega)))⟩ (by omega)
 ·
  have hj8 : j = 32 := by (have h9 := of_decide_eq_false hc1; omega)
  obtain ⟨ah, ch, hvh, hch, hrh⟩ := (own_hex hOh).shape
  refine G_exit ?_
  refine N_then_exit ?_
  refine N_then_exit ?_
  refine N_block_exit ?_
  refine N_then ?_
  refine G_seq ?_
  refine G_region ?_
  refine GL_pure (E':=[⟨21,[],vh⟩]) [0] kr (j:=1) rfl ?_
  refine GL_env (E':=[⟨21,[],.slice ah ((ByteArray.mk (hexK (sumB l) j).toArray).size) ch⟩]) (by rw [hvh,hex_size l hj]) ?_
  refine GL_bytesB (i:=1) (ch:=[]) (a:=ah) (cap:=ch) (e:=5) (S:=(inG gh)) (ByteArray.mk (hexK (sumB l) j).toArray) rfl rfl kr kr kr kr kr kr kr hrh (at_inG 0 rfl) ?_
  refine GL_fin (E':=[⟨2,[],.string (ByteArray.mk (hexK (sumB l) j).toArray)⟩]) [0] [2] rfl kr ?_
  refine N_then ?_
  refine G_ret ?_
  refine N_heap (H':=([(pb,.cells #[.slice xa l.length xc] 22 (0,0))]::H)) (fun w h=>(h.erase 0)) ?_
  refine N_ret [.tmp 2] [.string (ByteArray.mk (hexK (sumB l) j).toArray)] rfl kr rfl ?_
  exact ⟨by rw [hj8]; rfl, rfl⟩
end Go.Proofs.YtlaoeiaaeifidaaGreat
namespace Go.Vf
open Go.Sw Go.RowKit
def cells2 {α : Type} (f : α → Value × Value) (l : List α) : List Value := l.flatMap fun x => [(f x).1, (f x).2]
def nmC (l : List Nm) : List Value := cells2 (fun x => (.string x.1, .int .i64 x.2)) l
def bdC (l : List Body) : List Value := cells2 (fun x => (.string x.now, .string x.kept)) l
structure CR where
  dir : ByteArray
  l : List Nm
  a : Option Addr
  c : Nat
instance : Inhabited CR := ⟨⟨ByteArray.mk #[], [], none, 0⟩⟩
def chC (l : List CR) : List Value := cells2 (fun x => (.string x.dir, .slice x.a x.l.length x.c)) l
end Go.Vf
