/- Interfaces held against nil, and against integers of the same type. General over the program. (and what it stands on) -/
import Derived.Test.YtbnfbffiehoapaaGreatDoorZ1
import Derived.Lib.Bytealg
import Derived.Lib.CountLaws
import Derived.Lib.Builder
import Derived.Lib.UnsafeStr
import Derived.Shelf.Strings.Repeat
import Derived.Shelf.Strconv.SyntaxError
import Derived.Shelf.LaysM
namespace Go.Proofs.YtbnfbffiehoapaaGreatDoor
open Go.Sw
def bsr (l:List (Nat × Value)) (t:Value):Array Value:=((List.range 256).map (fun k=>(l.lookup k).getD (.slice none 0 0))++[t]).toArray
def G7:List Value:=[.string (ByteArray.mk #[39]),.string (ByteArray.mk #[34]),.string (ByteArray.mk #[62]),.string (ByteArray.mk #[60]),.string (ByteArray.mk #[38])]
def buildR (b:Nat) (a:Option Addr) (cap:Nat) (g:Grp) (H:List Grp) (x:Value) (H':List Grp):Prop:=∃ c aT cT gT a38 c38 g38 a60 c60 g60 a62 c62 g62 a34 c34 g34 a39 c39 g39,x=.iface 112 (pt c)∧Go.Sw.Own 9 1 (.slice aT 5 cT) gT 5 G7∧(Rd (inG g38) (some ⟨a38,0,none⟩) (u8s (ByteArray.mk #[38,97,109,112,59]).data.toList)∧Rd (inG g60) (some ⟨a60,0,none⟩) (u8s (ByteArray.mk #[38,108,116,59]).data.toList)∧Rd (inG g62) (some ⟨a62,0,none⟩) (u8s (ByteArray.mk #[38,103,116,59]).data.toList)∧Rd (inG g34) (some ⟨a34,0,none⟩) (u8s (ByteArray.mk #[38,113,117,111,116,59]).data.toList)∧Rd (inG g39) (some ⟨a39,0,none⟩) (u8s (ByteArray.mk #[38,35,51,57,59]).data.toList))∧H'=[(c,.cells (bsr [(34,.slice (some ⟨a34,0,none⟩) 6 c34),(38,.slice (some ⟨a38,0,none⟩) 5 c38),(39,.slice (some ⟨a39,0,none⟩) 5 c39),(60,.slice (some ⟨a60,0,none⟩) 4 c60),(62,.slice (some ⟨a62,0,none⟩) 4 c62)] (.slice aT 5 cT)) 111 (0,0))]::gT::g38::g60::g62::g34::g39::([(b,.cells #[.int .u32 0,.int .i32 1,.int .u32 0,.nilIface,.slice a 10 cap] 71 (0,0))]::g::H)
theorem build_ (b:Nat) (a:Option Addr) (cap:Nat) (g:Grp) (hr:Rd (inG g) a G2) (W0:World) (H:List Grp):Tri Tryz.prog 59 #[pt b] W0 ([(b,.cells #[.int .u32 0,.int .i32 1,.int .u32 0,.nilIface,.slice a 10 cap] 71 (0,0))]::g::H) (buildR b a cap g H):=by
  refine C2 (args:=[pt b]) (n:=132) Tryz.func59 rfl rfl (Nat.le_of_ble_eq_true rfl) ?_
  refine A1 (B3 (E':=[⟨0,[],pt b⟩]) [0] [0] (k:=?_))
  refine A0 (A1 ?_)
  refine A2 (A5 (j:=3) [0,0,0] (k:=?_))
  refine E0 (ch:=[]) (b:=b) (off:=4) (v:=.slice a 10 cap) (hA:=At.grp 0 0 rfl rfl) (hv:=rfl) (k:=B4 (E':=[⟨3,[],.slice a 10 cap⟩]) [0] [3] (k:=?_))
  refine A0 (A1 ?_)
  refine A1 (G_p [0,0,0,0,1,1,1,1,1,3] [3,28] (k:=?_))
  refine A0 (D6 kr ?_)
  refine A7 (A0 ?_)
  refine A1 (G_p [0] [3,4] (k:=?_))
  refine A0 (A1 ?_)
  refine A1 (G_p [0] [3,4,5] (k:=?_))
  refine A0 (B8 ?_)
  refine M8 6 (E4 ?_)
  refine A1 (A1 ?_)
  refine G_p [0,0,0,0] [3,4,5,40] (k:=A0 ?_)
  refine B9 kr (A7 ?_)
  refine A0 (A1 ?_)
  refine B8 (A1 ?_)
  refine A1 (A2 ?_)
  refine A5 (j:=2) [0,0] (k:=C1 (ch:=[]) (a:=a) (len:=10) (cap:=cap) (kd:=.i64) (j:=0) (e:=9) (sz:=1) (S:=(inG g)) (cs:=G2) (hrd:=hr) (hb:=(fun _=>by exact ⟨by decide,by decide,by intro h; cases h⟩)) (k:=?_))
  refine E6 (ch:=[]) (a:=a) (q:=0 * 1) (S:=(inG g)) (cs:=G2) (v:=.string (ByteArray.mk #[38])) (hrd:=hr) (hS:=C7 1 rfl) (hv:=(fun _=>rfl)) (k:=A9 [0,0] [3,4,5,48] (k:=?_))
  refine A0 (D6 kr ?_)
  refine A7 (A0 ?_)
  refine A1 (A2 ?_)
  refine A5 (j:=3) [0,0,0] (k:=C1 (ch:=[]) (a:=a) (len:=10) (cap:=cap) (kd:=.i64) (j:=1) (e:=9) (sz:=1) (S:=(inG g)) (cs:=G2) (hrd:=hr) (hb:=(fun _=>by exact ⟨by decide,by decide,by intro h; cases h⟩)) (k:=?_))
  refine E6 (ch:=[]) (a:=a) (q:=1 * 1) (S:=(inG g)) (cs:=G2) (v:=.string (ByteArray.mk #[38,97,109,112,59])) (hrd:=hr) (hS:=C7 1 rfl) (hv:=(fun _=>rfl)) (k:=B4 (E':=[⟨3,[],.slice a 10 cap⟩,⟨4,[],.bool true⟩,⟨5,[],.int .i64 0⟩,⟨58,[],.bool true⟩]) [0,0] [3,4,5,58] (k:=?_))
  refine A0 (B9 kr ?_)
  refine G_p [0] [3,4,5] (k:=B7 ?_)
  refine A0 (G_p [0,0,0] [3,4,5] (k:=?_))
  refine N_rd (E4 ?_)
  refine A1 (A1 ?_)
  refine G_p [0,0,0,0] [3,4,5,40] (k:=A0 ?_)
  refine B9 kr (A7 ?_)
  refine A0 (A1 ?_)
  refine B8 (A1 ?_)
  refine A1 (A2 ?_)
  refine A5 (j:=2) [0,0] (k:=C1 (ch:=[]) (a:=a) (len:=10) (cap:=cap) (kd:=.i64) (j:=2) (e:=9) (sz:=1) (S:=(inG g)) (cs:=G2) (hrd:=hr) (hb:=(fun _=>by exact ⟨by decide,by decide,by intro h; cases h⟩)) (k:=?_))
  refine E6 (ch:=[]) (a:=a) (q:=2 * 1) (S:=(inG g)) (cs:=G2) (v:=.string (ByteArray.mk #[60])) (hrd:=hr) (hS:=C7 1 rfl) (hv:=(fun _=>rfl)) (k:=A9 [0,0] [3,4,5,48] (k:=?_))
  refine A0 (D6 kr ?_)
  refine A7 (A0 ?_)
  refine A1 (A2 ?_)
  refine A5 (j:=3) [0,0,0] (k:=C1 (ch:=[]) (a:=a) (len:=10) (cap:=cap) (kd:=.i64) (j:=3) (e:=9) (sz:=1) (S:=(inG g)) (cs:=G2) (hrd:=hr) (hb:=(fun _=>by exact ⟨by decide,by decide,by intro h; cases h⟩)) (k:=?_))
  refine E6 (ch:=[]) (a:=a) (q:=3 * 1) (S:=(inG g)) (cs:=G2) (v:=.string (ByteArray.mk #[38,108,116,59])) (hrd:=hr) (hS:=C7 1 rfl) (hv:=(fun _=>rfl)) (k:=A9 [0,0] [3,4,5,58] (k:=?_))
  refine A0 (B9 kr ?_)
  refine B3 (E':=[⟨3,[],.slice a 10 cap⟩,⟨4,[],.bool false⟩,⟨5,[],.int .i64 2⟩]) [0] [3,4,5] (k:=B7 ?_)
  refine A0 (G_p [0,0,0] [3,4,5] (k:=?_))
  refine N_rd (E4 ?_)
  refine A1 (A1 ?_)
  refine G_p [0,0,0,0] [3,4,5,40] (k:=A0 ?_)
  refine B9 kr (A7 ?_)
  refine A0 (A1 ?_)
  refine B8 (A1 ?_)
  refine A1 (A2 ?_)
  refine A5 (j:=2) [0,0] (k:=C1 (ch:=[]) (a:=a) (len:=10) (cap:=cap) (kd:=.i64) (j:=4) (e:=9) (sz:=1) (S:=(inG g)) (cs:=G2) (hrd:=hr) (hb:=(fun _=>by exact ⟨by decide,by decide,by intro h; cases h⟩)) (k:=?_))
  refine E6 (ch:=[]) (a:=a) (q:=4 * 1) (S:=(inG g)) (cs:=G2) (v:=.string (ByteArray.mk #[62])) (hrd:=hr) (hS:=C7 1 rfl) (hv:=(fun _=>rfl)) (k:=A9 [0,0] [3,4,5,48] (k:=?_))
  refine A0 (D6 kr ?_)
  refine A7 (A0 ?_)
  refine A1 (A2 ?_)
  refine A5 (j:=3) [0,0,0] (k:=C1 (ch:=[]) (a:=a) (len:=10) (cap:=cap) (kd:=.i64) (j:=5) (e:=9) (sz:=1) (S:=(inG g)) (cs:=G2) (hrd:=hr) (hb:=(fun _=>by exact ⟨by decide,by decide,by intro h; cases h⟩)) (k:=?_))
  refine E6 (ch:=[]) (a:=a) (q:=5 * 1) (S:=(inG g)) (cs:=G2) (v:=.string (ByteArray.mk #[38,103,116,59])) (hrd:=hr) (hS:=C7 1 rfl) (hv:=(fun _=>rfl)) (k:=A9 [0,0] [3,4,5,58] (k:=?_))
  refine A0 (B9 kr ?_)
  refine G_p [0] [3,4,5] (k:=B7 ?_)
  refine A0 (B3 (E':=[⟨3,[],.slice a 10 cap⟩,⟨4,[],.bool false⟩,⟨5,[],.int .i64 6⟩]) [0,0,0] [3,4,5] (k:=?_))
  refine N_rd (E4 ?_)
  refine A1 (A1 ?_)
  refine G_p [0,0,0,0] [3,4,5,40] (k:=A0 ?_)
  refine B9 kr (A7 ?_)
  refine A0 (A1 ?_)
  refine B8 (A1 ?_)
  refine A1 (A2 ?_)
  refine A5 (j:=2) [0,0] (k:=C1 (ch:=[]) (a:=a) (len:=10) (cap:=cap) (kd:=.i64) (j:=6) (e:=9) (sz:=1) (S:=(inG g)) (cs:=G2) (hrd:=hr) (hb:=(fun _=>by exact ⟨by decide,by decide,by intro h; cases h⟩)) (k:=?_))
  refine E6 (ch:=[]) (a:=a) (q:=6 * 1) (S:=(inG g)) (cs:=G2) (v:=.string (ByteArray.mk #[34])) (hrd:=hr) (hS:=C7 1 rfl) (hv:=(fun _=>rfl)) (k:=A9 [0,0] [3,4,5,48] (k:=?_))
  refine A0 (D6 kr ?_)
  refine A7 (A0 ?_)
  refine A1 (A2 ?_)
  refine A5 (j:=3) [0,0,0] (k:=C1 (ch:=[]) (a:=a) (len:=10) (cap:=cap) (kd:=.i64) (j:=7) (e:=9) (sz:=1) (S:=(inG g)) (cs:=G2) (hrd:=hr) (hb:=(fun _=>by exact ⟨by decide,by decide,by intro h; cases h⟩)) (k:=?_))
  refine E6 (ch:=[]) (a:=a) (q:=7 * 1) (S:=(inG g)) (cs:=G2) (v:=.string (ByteArray.mk #[38,113,117,111,116,59])) (hrd:=hr) (hS:=C7 1 rfl) (hv:=(fun _=>rfl)) (k:=A9 [0,0] [3,4,5,58] (k:=?_))
  refine A0 (B9 kr ?_)
  refine G_p [0] [3,4,5] (k:=B7 ?_)
  refine A0 (G_p [0,0,0] [3,4,5] (k:=?_))
  refine N_rd (E4 ?_)
  refine A1 (A1 ?_)
  refine B3 (E':=[⟨3,[],.slice a 10 cap⟩,⟨4,[],.bool false⟩,⟨5,[],.int .i64 8⟩,⟨40,[],.bool true⟩]) [0,0,0,0] [3,4,5,40] (k:=A0 ?_)
  refine B9 kr (A7 ?_)
  refine A0 (A1 ?_)
  refine B8 (A1 ?_)
  refine A1 (A2 ?_)
  refine A5 (j:=2) [0,0] (k:=C1 (ch:=[]) (a:=a) (len:=10) (cap:=cap) (kd:=.i64) (j:=8) (e:=9) (sz:=1) (S:=(inG g)) (cs:=G2) (hrd:=hr) (hb:=(fun _=>by exact ⟨by decide,by decide,by intro h; cases h⟩)) (k:=?_))
  refine E6 (ch:=[]) (a:=a) (q:=8 * 1) (S:=(inG g)) (cs:=G2) (v:=.string (ByteArray.mk #[39])) (hrd:=hr) (hS:=C7 1 rfl) (hv:=(fun _=>rfl)) (k:=A9 [0,0] [3,4,5,48] (k:=?_))
  refine A0 (D6 kr ?_)
  refine A7 (A0 ?_)
  refine A1 (A2 ?_)
  refine A5 (j:=3) [0,0,0] (k:=C1 (ch:=[]) (a:=a) (len:=10) (cap:=cap) (kd:=.i64) (j:=9) (e:=9) (sz:=1) (S:=(inG g)) (cs:=G2) (hrd:=hr) (hb:=(fun _=>by exact ⟨by decide,by decide,by intro h; cases h⟩)) (k:=?_))
  refine E6 (ch:=[]) (a:=a) (q:=9 * 1) (S:=(inG g)) (cs:=G2) (v:=.string (ByteArray.mk #[38,35,51,57,59])) (hrd:=hr) (hS:=C7 1 rfl) (hv:=(fun _=>rfl)) (k:=A9 [0,0] [3,4,5,58] (k:=?_))
  refine A0 (B9 kr ?_)
  refine G_p [0] [3,4,5] (k:=B7 ?_)
  refine A0 (G_p [0,0,0] [3,4,5] (k:=?_))
  refine N_rd (E4 ?_)
  refine A1 (A1 ?_)
  refine G_p [0,0,0,0] [3,4,5,40] (k:=A0 ?_)
  refine D6 kr (G8 ?_)
  refine B5 (B5 ?_)
  refine C9 (A0 ?_)
  refine A1 (A1 ?_)
  refine B3 (E':=[⟨3,[],.slice a 10 cap⟩,⟨59,[],.bool false⟩]) [0] [3,59] (k:=A0 ?_)
  refine D6 kr (A7 ?_)
  refine A0 (A1 ?_)
  refine A2 (A5 (j:=3) [0,0,0] (k:=?_))
  refine GL_makeLC (i:=3) (ch:=[]) (t:=55) (e:=9) (inf:=Tryz.t9) (l:=0) (m:=5) (c:=[.string (ByteArray.mk #[]),.string (ByteArray.mk #[]),.string (ByteArray.mk #[]),.string (ByteArray.mk #[]),.string (ByteArray.mk #[])]) rfl rfl kr kr kr kr rfl (by decide) (by decide) (by decide) (by decide) kr kr kr kr (fun b1=>A5 (j:=5) [0] (k:=?_))
  refine N1 (ch:=[]) (z:=.agg (bsr [] (.slice none 0 0))) (k:=(fun b2=>?_))
  refine GL_st (ch:=[]) (b:=b2) (off:=0) (v:=.agg (bsr [] (.slice (some ⟨b1,0,none⟩) 0 5))) (j:=0) ([(b2,.cells (bsr [] (.slice (some ⟨b1,0,none⟩) 0 5)) 111 (0,0))]::[(b1,.cells #[.string (ByteArray.mk #[]),.string (ByteArray.mk #[]),.string (ByteArray.mk #[]),.string (ByteArray.mk #[]),.string (ByteArray.mk #[])] 9 (0,0))]::[(b,.cells #[.int .u32 0,.int .i32 1,.int .u32 0,.nilIface,.slice a 10 cap] 71 (0,0))]::g::H) (hoff:=Nat.le_of_ble_eq_true kr) (hfz:=(fun _ _=>J6)) (k:=A9 [] [3,11] (k:=?_))
  refine A0 (A1 ?_)
  refine A1 (G_p [0,0,0,0] [3,11,12] (k:=?_))
  refine A0 (B8 ?_)
  refine M8 6 (E4 ?_)
  refine A1 (A1 ?_)
  refine G_p [0,0] [3,11,12,100] (k:=A0 ?_)
  refine B9 kr (A7 ?_)
  refine A0 (A1 ?_)
  refine B8 (A1 ?_)
  refine A2 (A5 (j:=2) [0,0] (k:=?_))
  refine C1 (ch:=[]) (a:=a) (len:=10) (cap:=cap) (kd:=.i64) (j:=8) (e:=9) (sz:=1) (S:=(inG g)) (cs:=G2) (hrd:=hr) (hb:=(fun _=>by exact ⟨by decide,by decide,by intro h; cases h⟩)) (k:=E6 (ch:=[]) (a:=a) (q:=8 * 1) (S:=(inG g)) (cs:=G2) (v:=.string (ByteArray.mk #[39])) (hrd:=hr) (hS:=C7 3 rfl) (hv:=(fun _=>rfl)) (k:=?_))
  refine D8 (ch:=[]) (s:=(ByteArray.mk #[39])) (kd:=.i64) (j:=0) (hb:=(fun _=>by decide)) (k:=A9 [0] [3,11,12,13] (k:=?_))
  refine A0 (A1 ?_)
  refine A2 (A5 (j:=3) [0,0,0] (k:=?_))
  refine C1 (ch:=[]) (a:=a) (len:=10) (cap:=cap) (kd:=.i64) (j:=9) (e:=9) (sz:=1) (S:=(inG g)) (cs:=G2) (hrd:=hr) (hb:=(fun _=>by exact ⟨by decide,by decide,by intro h; cases h⟩)) (k:=E6 (ch:=[]) (a:=a) (q:=9 * 1) (S:=(inG g)) (cs:=G2) (v:=.string (ByteArray.mk #[38,35,51,57,59])) (hrd:=hr) (hS:=C7 3 rfl) (hv:=(fun _=>rfl)) (k:=?_))
  refine A9 [0] [3,11,12,13,14] (k:=A0 ?_)
  refine A1 (A1 ?_)
  refine A2 (A5 (j:=2) [0,0] (k:=?_))
  refine D2 (ch:=[]) (b:=b2) (off:=0) (len:=256) (sz:=1) (e:=37) (kd:=.u8) (j:=39) (hb:=(fun _=>⟨by decide,by decide⟩)) (k:=E0 (ch:=[]) (b:=b2) (off:=39) (v:=.slice none 0 0) (hA:=At.grp 0 0 rfl rfl) (k:=?_))
  refine B4 (E':=[⟨3,[],.slice a 10 cap⟩,⟨11,[],pt b2⟩,⟨12,[],.int .i64 8⟩,⟨13,[],.int .u8 39⟩,⟨14,[],.string (ByteArray.mk #[38,35,51,57,59])⟩,⟨117,[],.bool true⟩]) [0] [3,11,12,13,14,117] (k:=A0 ?_)
  refine B9 kr (A2 ?_)
  refine A5 (j:=1) [0] (k:=E0 (ch:=[]) (b:=b2) (off:=256) (v:=.slice (some ⟨b1,0,none⟩) 0 5) (hA:=At.grp 0 0 rfl rfl) (k:=?_))
  refine A5 (j:=3) [0] (k:=C4 (ch:=[]) (e:=5) (l:=[(0,.int .u8 39)]) (c:=[.int .u8 39]) (k:=(fun b3=>?_)))
  refine G1 (ch:=[]) (a:=⟨b3,0,none⟩) (cap:=1) (e:=5) (S:=(inG [(b3,.cells #[.int .u8 39] 5 (0,0))])) ([39]) (hrd:=Rd.lit (c:=[.int .u8 39])) (hS:=C7 0 rfl) (k:=C4 (ch:=[]) (e:=9) (l:=[(0,.string (ByteArray.mk #[39]))]) (c:=[.string (ByteArray.mk #[39])]) (k:=(fun b4=>?_)))
  refine F2 (i:=6) (ch:=[]) (t:=55) (tx:=55) (e:=9) (inf:=Tryz.t9) (s:=.slice (some ⟨b1,0,none⟩) 0 5) (x:=.slice (some ⟨b4,0,none⟩) 1 1) (n:=0) (m:=1) (j:=3) (cs:=[]) (news:=[.string (ByteArray.mk #[39])]) (g:=[(b1,.cells #[.string (ByteArray.mk #[]),.string (ByteArray.mk #[]),.string (ByteArray.mk #[]),.string (ByteArray.mk #[]),.string (ByteArray.mk #[])] 9 (0,0))]) (S:=(inG [(b4,.cells #[.string (ByteArray.mk #[39])] 9 (0,0))])) rfl rfl rfl rfl kr kr kr rfl rfl (.inl ⟨9,kr⟩) (fun ⟨_,h⟩=>by cases h) (fun _=>⟨9,kr⟩) kr kr kr rfl (own_cut0 (c:=[.string (ByteArray.mk #[]),.string (ByteArray.mk #[]),.string (ByteArray.mk #[]),.string (ByteArray.mk #[]),.string (ByteArray.mk #[])]) rfl) (SrcOf.slice _ _ _ _ Rd.lit (fun h=>by cases h)) (C7 0 rfl) kr (by intro u hu; rcases List.mem_singleton.1 hu with rfl; rfl) (by omega) (by show (0+1) * 16≤140737488355328; omega) (fun v5 g6 hO7=>?_)
  obtain ⟨a8,cap9,rfl,hcap10,hrd11⟩:=hO7.shape
  refine A5 (j:=8) [0] (k:=GL_st (ch:=[]) (b:=b2) (off:=256) (v:=.slice a8 (0+1) cap9) (j:=2) ([(b4,.cells #[.string (ByteArray.mk #[39])] 9 (0,0))]::[(b3,.cells #[.int .u8 39] 5 (0,0))]::[(b2,.cells (bsr [] (.slice a8 (0+1) cap9)) 111 (0,0))]::g6::[(b,.cells #[.int .u32 0,.int .i32 1,.int .u32 0,.nilIface,.slice a 10 cap] 71 (0,0))]::g::H) (hoff:=Nat.le_of_ble_eq_true kr) (hfz:=(fun _ _=>J6)) (k:=?_))
  refine A9 [] [3,11,12,13,14] (k:=A0 ?_)
  refine A2 (A5 (j:=2) [0,0] (k:=?_))
  refine H9 (ch:=[]) (src:=9) (dst:=37) (e:=5) (s:=(ByteArray.mk #[38,35,51,57,59])) (k:=(fun b12 cap13 g14 hcap15 hrd16=>?_))
  refine A5 (j:=4) [0] (k:=D2 (ch:=[]) (b:=b2) (off:=0) (len:=256) (sz:=1) (e:=37) (kd:=.u8) (j:=39) (hb:=(fun _=>⟨by decide,by decide⟩)) (k:=?_))
  refine GL_st (ch:=[]) (b:=b2) (off:=39) (v:=.slice (some ⟨b12,0,none⟩) ((ByteArray.mk #[38,35,51,57,59]).size) cap13) (j:=3) (g14::[(b4,.cells #[.string (ByteArray.mk #[39])] 9 (0,0))]::[(b3,.cells #[.int .u8 39] 5 (0,0))]::[(b2,.cells (bsr [(39,.slice (some ⟨b12,0,none⟩) ((ByteArray.mk #[38,35,51,57,59]).size) cap13)] (.slice a8 (0+1) cap9)) 111 (0,0))]::g6::[(b,.cells #[.int .u32 0,.int .i32 1,.int .u32 0,.nilIface,.slice a 10 cap] 71 (0,0))]::g::H) (hoff:=Nat.le_of_ble_eq_true kr) (hfz:=(fun _ _=>J6)) (k:=A9 [] [3,11,12] (k:=?_))
  refine B7 (A0 ?_)
  refine G_p [0,0,0] [3,11,12] (k:=N_rd ?_)
  refine E4 (A1 ?_)
  refine A1 (G_p [0,0] [3,11,12,100] (k:=?_))
  refine A0 (B9 kr ?_)
  refine A7 (A0 ?_)
  refine A1 (B8 ?_)
  refine A1 (A2 ?_)
  refine A5 (j:=2) [0,0] (k:=C1 (ch:=[]) (a:=a) (len:=10) (cap:=cap) (kd:=.i64) (j:=6) (e:=9) (sz:=1) (S:=(inG g)) (cs:=G2) (hrd:=hr) (hb:=(fun _=>by exact ⟨by decide,by decide,by intro h; cases h⟩)) (k:=?_))
  refine E6 (ch:=[]) (a:=a) (q:=6 * 1) (S:=(inG g)) (cs:=G2) (v:=.string (ByteArray.mk #[34])) (hrd:=hr) (hS:=C7 6 rfl) (hv:=(fun _=>rfl)) (k:=D8 (ch:=[]) (s:=(ByteArray.mk #[34])) (kd:=.i64) (j:=0) (hb:=(fun _=>by decide)) (k:=?_))
  refine A9 [0] [3,11,12,13] (k:=A0 ?_)
  refine A1 (A2 ?_)
  refine A5 (j:=3) [0,0,0] (k:=C1 (ch:=[]) (a:=a) (len:=10) (cap:=cap) (kd:=.i64) (j:=7) (e:=9) (sz:=1) (S:=(inG g)) (cs:=G2) (hrd:=hr) (hb:=(fun _=>by exact ⟨by decide,by decide,by intro h; cases h⟩)) (k:=?_))
  refine E6 (ch:=[]) (a:=a) (q:=7 * 1) (S:=(inG g)) (cs:=G2) (v:=.string (ByteArray.mk #[38,113,117,111,116,59])) (hrd:=hr) (hS:=C7 6 rfl) (hv:=(fun _=>rfl)) (k:=B4 (E':=[⟨3,[],.slice a 10 cap⟩,⟨11,[],pt b2⟩,⟨12,[],.int .i64 6⟩,⟨13,[],.int .u8 34⟩,⟨14,[],.string (ByteArray.mk #[38,113,117,111,116,59])⟩]) [0] [3,11,12,13,14] (k:=?_))
  refine A0 (A1 ?_)
  refine A1 (A2 ?_)
  refine A5 (j:=2) [0,0] (k:=D2 (ch:=[]) (b:=b2) (off:=0) (len:=256) (sz:=1) (e:=37) (kd:=.u8) (j:=34) (hb:=(fun _=>⟨by decide,by decide⟩)) (k:=?_))
  refine E0 (ch:=[]) (b:=b2) (off:=34) (v:=.slice none 0 0) (hA:=At.grp 3 0 rfl rfl) (k:=A9 [0] [3,11,12,13,14,117] (k:=?_))
  refine A0 (B9 kr ?_)
  refine A2 (A5 (j:=1) [0] (k:=?_))
  refine E0 (ch:=[]) (b:=b2) (off:=256) (v:=.slice a8 (0+1) cap9) (hA:=At.grp 3 0 rfl rfl) (k:=A5 (j:=3) [0] (k:=?_))
  refine C4 (ch:=[]) (e:=5) (l:=[(0,.int .u8 34)]) (c:=[.int .u8 34]) (k:=(fun b17=>?_))
  refine G1 (ch:=[]) (a:=⟨b17,0,none⟩) (cap:=1) (e:=5) (S:=(inG [(b17,.cells #[.int .u8 34] 5 (0,0))])) ([34]) (hrd:=Rd.lit (c:=[.int .u8 34])) (hS:=C7 0 rfl) (k:=C4 (ch:=[]) (e:=9) (l:=[(0,.string (ByteArray.mk #[34]))]) (c:=[.string (ByteArray.mk #[34])]) (k:=(fun b18=>?_)))
  refine F2 (i:=6) (ch:=[]) (t:=55) (tx:=55) (e:=9) (inf:=Tryz.t9) (s:=.slice a8 (0+1) cap9) (x:=.slice (some ⟨b18,0,none⟩) 1 1) (n:=(0+1)) (m:=1) (j:=6) (cs:=([]++[.string (ByteArray.mk #[39])])) (news:=[.string (ByteArray.mk #[34])]) (g:=g6) (S:=(inG [(b18,.cells #[.string (ByteArray.mk #[34])] 9 (0,0))])) rfl rfl rfl rfl kr kr kr rfl rfl (.inl ⟨9,kr⟩) (fun ⟨_,h⟩=>by cases h) (fun _=>⟨9,kr⟩) kr kr kr rfl hO7 (SrcOf.slice _ _ _ _ Rd.lit (fun h=>by cases h)) (C7 0 rfl) kr (by intro u hu; rcases List.mem_singleton.1 hu with rfl; rfl) (by omega) (by show ((0+1)+1) * 16≤140737488355328; omega) (fun v19 g20 hO21=>?_)
  obtain ⟨a22,cap23,rfl,hcap24,hrd25⟩:=hO21.shape
  refine A5 (j:=8) [0] (k:=GL_st (ch:=[]) (b:=b2) (off:=256) (v:=.slice a22 ((0+1)+1) cap23) (j:=5) ([(b18,.cells #[.string (ByteArray.mk #[34])] 9 (0,0))]::[(b17,.cells #[.int .u8 34] 5 (0,0))]::g14::[(b4,.cells #[.string (ByteArray.mk #[39])] 9 (0,0))]::[(b3,.cells #[.int .u8 39] 5 (0,0))]::[(b2,.cells (bsr [(39,.slice (some ⟨b12,0,none⟩) ((ByteArray.mk #[38,35,51,57,59]).size) cap13)] (.slice a22 ((0+1)+1) cap23)) 111 (0,0))]::g20::[(b,.cells #[.int .u32 0,.int .i32 1,.int .u32 0,.nilIface,.slice a 10 cap] 71 (0,0))]::g::H) (hoff:=Nat.le_of_ble_eq_true kr) (hfz:=(fun _ _=>J6)) (k:=?_))
  refine A9 [] [3,11,12,13,14] (k:=A0 ?_)
  refine A2 (A5 (j:=2) [0,0] (k:=?_))
  refine H9 (ch:=[]) (src:=9) (dst:=37) (e:=5) (s:=(ByteArray.mk #[38,113,117,111,116,59])) (k:=(fun b26 cap27 g28 hcap29 hrd30=>?_))
  refine A5 (j:=4) [0] (k:=D2 (ch:=[]) (b:=b2) (off:=0) (len:=256) (sz:=1) (e:=37) (kd:=.u8) (j:=34) (hb:=(fun _=>⟨by decide,by decide⟩)) (k:=?_))
  refine GL_st (ch:=[]) (b:=b2) (off:=34) (v:=.slice (some ⟨b26,0,none⟩) ((ByteArray.mk #[38,113,117,111,116,59]).size) cap27) (j:=6) (g28::[(b18,.cells #[.string (ByteArray.mk #[34])] 9 (0,0))]::[(b17,.cells #[.int .u8 34] 5 (0,0))]::g14::[(b4,.cells #[.string (ByteArray.mk #[39])] 9 (0,0))]::[(b3,.cells #[.int .u8 39] 5 (0,0))]::[(b2,.cells (bsr [(34,.slice (some ⟨b26,0,none⟩) ((ByteArray.mk #[38,113,117,111,116,59]).size) cap27),(39,.slice (some ⟨b12,0,none⟩) ((ByteArray.mk #[38,35,51,57,59]).size) cap13)] (.slice a22 ((0+1)+1) cap23)) 111 (0,0))]::g20::[(b,.cells #[.int .u32 0,.int .i32 1,.int .u32 0,.nilIface,.slice a 10 cap] 71 (0,0))]::g::H) (hoff:=Nat.le_of_ble_eq_true kr) (hfz:=(fun _ _=>J6)) (k:=A9 [] [3,11,12] (k:=?_))
  refine B7 (A0 ?_)
  refine G_p [0,0,0] [3,11,12] (k:=N_rd ?_)
  refine E4 (A1 ?_)
  refine A1 (G_p [0,0] [3,11,12,100] (k:=?_))
  refine A0 (B9 kr ?_)
  refine A7 (A0 ?_)
  refine A1 (B8 ?_)
  refine A1 (A2 ?_)
  refine A5 (j:=2) [0,0] (k:=C1 (ch:=[]) (a:=a) (len:=10) (cap:=cap) (kd:=.i64) (j:=4) (e:=9) (sz:=1) (S:=(inG g)) (cs:=G2) (hrd:=hr) (hb:=(fun _=>by exact ⟨by decide,by decide,by intro h; cases h⟩)) (k:=?_))
  refine E6 (ch:=[]) (a:=a) (q:=4 * 1) (S:=(inG g)) (cs:=G2) (v:=.string (ByteArray.mk #[62])) (hrd:=hr) (hS:=C7 9 rfl) (hv:=(fun _=>rfl)) (k:=D8 (ch:=[]) (s:=(ByteArray.mk #[62])) (kd:=.i64) (j:=0) (hb:=(fun _=>by decide)) (k:=?_))
  refine B4 (E':=[⟨3,[],.slice a 10 cap⟩,⟨11,[],pt b2⟩,⟨12,[],.int .i64 4⟩,⟨13,[],.int .u8 62⟩]) [0] [3,11,12,13] (k:=A0 ?_)
  refine A1 (A2 ?_)
  refine A5 (j:=3) [0,0,0] (k:=C1 (ch:=[]) (a:=a) (len:=10) (cap:=cap) (kd:=.i64) (j:=5) (e:=9) (sz:=1) (S:=(inG g)) (cs:=G2) (hrd:=hr) (hb:=(fun _=>by exact ⟨by decide,by decide,by intro h; cases h⟩)) (k:=?_))
  refine E6 (ch:=[]) (a:=a) (q:=5 * 1) (S:=(inG g)) (cs:=G2) (v:=.string (ByteArray.mk #[38,103,116,59])) (hrd:=hr) (hS:=C7 9 rfl) (hv:=(fun _=>rfl)) (k:=A9 [0] [3,11,12,13,14] (k:=?_))
  refine A0 (A1 ?_)
  refine A1 (A2 ?_)
  refine A5 (j:=2) [0,0] (k:=D2 (ch:=[]) (b:=b2) (off:=0) (len:=256) (sz:=1) (e:=37) (kd:=.u8) (j:=62) (hb:=(fun _=>⟨by decide,by decide⟩)) (k:=?_))
  refine E0 (ch:=[]) (b:=b2) (off:=62) (v:=.slice none 0 0) (hA:=At.grp 6 0 rfl rfl) (k:=A9 [0] [3,11,12,13,14,117] (k:=?_))
  refine A0 (B9 kr ?_)
  refine A2 (A5 (j:=1) [0] (k:=?_))
  refine E0 (ch:=[]) (b:=b2) (off:=256) (v:=.slice a22 ((0+1)+1) cap23) (hA:=At.grp 6 0 rfl rfl) (k:=A5 (j:=3) [0] (k:=?_))
  refine C4 (ch:=[]) (e:=5) (l:=[(0,.int .u8 62)]) (c:=[.int .u8 62]) (k:=(fun b31=>?_))
  refine G1 (ch:=[]) (a:=⟨b31,0,none⟩) (cap:=1) (e:=5) (S:=(inG [(b31,.cells #[.int .u8 62] 5 (0,0))])) ([62]) (hrd:=Rd.lit (c:=[.int .u8 62])) (hS:=C7 0 rfl) (k:=C4 (ch:=[]) (e:=9) (l:=[(0,.string (ByteArray.mk #[62]))]) (c:=[.string (ByteArray.mk #[62])]) (k:=(fun b32=>?_)))
  refine F2 (i:=6) (ch:=[]) (t:=55) (tx:=55) (e:=9) (inf:=Tryz.t9) (s:=.slice a22 ((0+1)+1) cap23) (x:=.slice (some ⟨b32,0,none⟩) 1 1) (n:=((0+1)+1)) (m:=1) (j:=9) (cs:=(([]++[.string (ByteArray.mk #[39])])++[.string (ByteArray.mk #[34])])) (news:=[.string (ByteArray.mk #[62])]) (g:=g20) (S:=(inG [(b32,.cells #[.string (ByteArray.mk #[62])] 9 (0,0))])) rfl rfl rfl rfl kr kr kr rfl rfl (.inl ⟨9,kr⟩) (fun ⟨_,h⟩=>by cases h) (fun _=>⟨9,kr⟩) kr kr kr rfl hO21 (SrcOf.slice _ _ _ _ Rd.lit (fun h=>by cases h)) (C7 0 rfl) kr (by intro u hu; rcases List.mem_singleton.1 hu with rfl; rfl) (by omega) (by show (((0+1)+1)+1) * 16≤140737488355328; omega) (fun v33 g34 hO35=>?_)
  obtain ⟨a36,cap37,rfl,hcap38,hrd39⟩:=hO35.shape
  refine A5 (j:=8) [0] (k:=GL_st (ch:=[]) (b:=b2) (off:=256) (v:=.slice a36 (((0+1)+1)+1) cap37) (j:=8) ([(b32,.cells #[.string (ByteArray.mk #[62])] 9 (0,0))]::[(b31,.cells #[.int .u8 62] 5 (0,0))]::g28::[(b18,.cells #[.string (ByteArray.mk #[34])] 9 (0,0))]::[(b17,.cells #[.int .u8 34] 5 (0,0))]::g14::[(b4,.cells #[.string (ByteArray.mk #[39])] 9 (0,0))]::[(b3,.cells #[.int .u8 39] 5 (0,0))]::[(b2,.cells (bsr [(34,.slice (some ⟨b26,0,none⟩) ((ByteArray.mk #[38,113,117,111,116,59]).size) cap27),(39,.slice (some ⟨b12,0,none⟩) ((ByteArray.mk #[38,35,51,57,59]).size) cap13)] (.slice a36 (((0+1)+1)+1) cap37)) 111 (0,0))]::g34::[(b,.cells #[.int .u32 0,.int .i32 1,.int .u32 0,.nilIface,.slice a 10 cap] 71 (0,0))]::g::H) (hoff:=Nat.le_of_ble_eq_true kr) (hfz:=(fun _ _=>J6)) (k:=?_))
  refine A9 [] [3,11,12,13,14] (k:=A0 ?_)
  refine A2 (A5 (j:=2) [0,0] (k:=?_))
  refine H9 (ch:=[]) (src:=9) (dst:=37) (e:=5) (s:=(ByteArray.mk #[38,103,116,59])) (k:=(fun b40 cap41 g42 hcap43 hrd44=>?_))
  refine A5 (j:=4) [0] (k:=D2 (ch:=[]) (b:=b2) (off:=0) (len:=256) (sz:=1) (e:=37) (kd:=.u8) (j:=62) (hb:=(fun _=>⟨by decide,by decide⟩)) (k:=?_))
  refine GL_st (ch:=[]) (b:=b2) (off:=62) (v:=.slice (some ⟨b40,0,none⟩) ((ByteArray.mk #[38,103,116,59]).size) cap41) (j:=9) (g42::[(b32,.cells #[.string (ByteArray.mk #[62])] 9 (0,0))]::[(b31,.cells #[.int .u8 62] 5 (0,0))]::g28::[(b18,.cells #[.string (ByteArray.mk #[34])] 9 (0,0))]::[(b17,.cells #[.int .u8 34] 5 (0,0))]::g14::[(b4,.cells #[.string (ByteArray.mk #[39])] 9 (0,0))]::[(b3,.cells #[.int .u8 39] 5 (0,0))]::[(b2,.cells (bsr [(34,.slice (some ⟨b26,0,none⟩) ((ByteArray.mk #[38,113,117,111,116,59]).size) cap27),(39,.slice (some ⟨b12,0,none⟩) ((ByteArray.mk #[38,35,51,57,59]).size) cap13),(62,.slice (some ⟨b40,0,none⟩) ((ByteArray.mk #[38,103,116,59]).size) cap41)] (.slice a36 (((0+1)+1)+1) cap37)) 111 (0,0))]::g34::[(b,.cells #[.int .u32 0,.int .i32 1,.int .u32 0,.nilIface,.slice a 10 cap] 71 (0,0))]::g::H) (hoff:=Nat.le_of_ble_eq_true kr) (hfz:=(fun _ _=>J6)) (k:=A9 [] [3,11,12] (k:=?_))
  refine B7 (A0 ?_)
  refine G_p [0,0,0] [3,11,12] (k:=N_rd ?_)
  refine E4 (A1 ?_)
  refine A1 (B3 (E':=[⟨3,[],.slice a 10 cap⟩,⟨11,[],pt b2⟩,⟨12,[],.int .i64 2⟩,⟨100,[],.bool true⟩]) [0,0] [3,11,12,100] (k:=?_))
  refine A0 (B9 kr ?_)
  refine A7 (A0 ?_)
  refine A1 (B8 ?_)
  refine A1 (A2 ?_)
  refine A5 (j:=2) [0,0] (k:=C1 (ch:=[]) (a:=a) (len:=10) (cap:=cap) (kd:=.i64) (j:=2) (e:=9) (sz:=1) (S:=(inG g)) (cs:=G2) (hrd:=hr) (hb:=(fun _=>by exact ⟨by decide,by decide,by intro h; cases h⟩)) (k:=?_))
  refine E6 (ch:=[]) (a:=a) (q:=2 * 1) (S:=(inG g)) (cs:=G2) (v:=.string (ByteArray.mk #[60])) (hrd:=hr) (hS:=C7 12 rfl) (hv:=(fun _=>rfl)) (k:=D8 (ch:=[]) (s:=(ByteArray.mk #[60])) (kd:=.i64) (j:=0) (hb:=(fun _=>by decide)) (k:=?_))
  refine A9 [0] [3,11,12,13] (k:=A0 ?_)
  refine A1 (A2 ?_)
  refine A5 (j:=3) [0,0,0] (k:=C1 (ch:=[]) (a:=a) (len:=10) (cap:=cap) (kd:=.i64) (j:=3) (e:=9) (sz:=1) (S:=(inG g)) (cs:=G2) (hrd:=hr) (hb:=(fun _=>by exact ⟨by decide,by decide,by intro h; cases h⟩)) (k:=?_))
  refine E6 (ch:=[]) (a:=a) (q:=3 * 1) (S:=(inG g)) (cs:=G2) (v:=.string (ByteArray.mk #[38,108,116,59])) (hrd:=hr) (hS:=C7 12 rfl) (hv:=(fun _=>rfl)) (k:=A9 [0] [3,11,12,13,14] (k:=?_))
  refine A0 (A1 ?_)
  refine A1 (A2 ?_)
  refine A5 (j:=2) [0,0] (k:=D2 (ch:=[]) (b:=b2) (off:=0) (len:=256) (sz:=1) (e:=37) (kd:=.u8) (j:=60) (hb:=(fun _=>⟨by decide,by decide⟩)) (k:=?_))
  refine E0 (ch:=[]) (b:=b2) (off:=60) (v:=.slice none 0 0) (hA:=At.grp 9 0 rfl rfl) (k:=A9 [0] [3,11,12,13,14,117] (k:=?_))
  refine A0 (B9 kr ?_)
  refine A2 (A5 (j:=1) [0] (k:=?_))
  refine E0 (ch:=[]) (b:=b2) (off:=256) (v:=.slice a36 (((0+1)+1)+1) cap37) (hA:=At.grp 9 0 rfl rfl) (k:=A5 (j:=3) [0] (k:=?_))
  refine C4 (ch:=[]) (e:=5) (l:=[(0,.int .u8 60)]) (c:=[.int .u8 60]) (k:=(fun b45=>?_))
  refine G1 (ch:=[]) (a:=⟨b45,0,none⟩) (cap:=1) (e:=5) (S:=(inG [(b45,.cells #[.int .u8 60] 5 (0,0))])) ([60]) (hrd:=Rd.lit (c:=[.int .u8 60])) (hS:=C7 0 rfl) (k:=C4 (ch:=[]) (e:=9) (l:=[(0,.string (ByteArray.mk #[60]))]) (c:=[.string (ByteArray.mk #[60])]) (k:=(fun b46=>?_)))
  refine F2 (i:=6) (ch:=[]) (t:=55) (tx:=55) (e:=9) (inf:=Tryz.t9) (s:=.slice a36 (((0+1)+1)+1) cap37) (x:=.slice (some ⟨b46,0,none⟩) 1 1) (n:=(((0+1)+1)+1)) (m:=1) (j:=12) (cs:=((([]++[.string (ByteArray.mk #[39])])++[.string (ByteArray.mk #[34])])++[.string (ByteArray.mk #[62])])) (news:=[.string (ByteArray.mk #[60])]) (g:=g34) (S:=(inG [(b46,.cells #[.string (ByteArray.mk #[60])] 9 (0,0))])) rfl rfl rfl rfl kr kr kr rfl rfl (.inl ⟨9,kr⟩) (fun ⟨_,h⟩=>by cases h) (fun _=>⟨9,kr⟩) kr kr kr rfl hO35 (SrcOf.slice _ _ _ _ Rd.lit (fun h=>by cases h)) (C7 0 rfl) kr (by intro u hu; rcases List.mem_singleton.1 hu with rfl; rfl) (by omega) (by show ((((0+1)+1)+1)+1) * 16≤140737488355328; omega) (fun v47 g48 hO49=>?_)
  obtain ⟨a50,cap51,rfl,hcap52,hrd53⟩:=hO49.shape
  refine A5 (j:=8) [0] (k:=GL_st (ch:=[]) (b:=b2) (off:=256) (v:=.slice a50 ((((0+1)+1)+1)+1) cap51) (j:=11) ([(b46,.cells #[.string (ByteArray.mk #[60])] 9 (0,0))]::[(b45,.cells #[.int .u8 60] 5 (0,0))]::g42::[(b32,.cells #[.string (ByteArray.mk #[62])] 9 (0,0))]::[(b31,.cells #[.int .u8 62] 5 (0,0))]::g28::[(b18,.cells #[.string (ByteArray.mk #[34])] 9 (0,0))]::[(b17,.cells #[.int .u8 34] 5 (0,0))]::g14::[(b4,.cells #[.string (ByteArray.mk #[39])] 9 (0,0))]::[(b3,.cells #[.int .u8 39] 5 (0,0))]::[(b2,.cells (bsr [(34,.slice (some ⟨b26,0,none⟩) ((ByteArray.mk #[38,113,117,111,116,59]).size) cap27),(39,.slice (some ⟨b12,0,none⟩) ((ByteArray.mk #[38,35,51,57,59]).size) cap13),(62,.slice (some ⟨b40,0,none⟩) ((ByteArray.mk #[38,103,116,59]).size) cap41)] (.slice a50 ((((0+1)+1)+1)+1) cap51)) 111 (0,0))]::g48::[(b,.cells #[.int .u32 0,.int .i32 1,.int .u32 0,.nilIface,.slice a 10 cap] 71 (0,0))]::g::H) (hoff:=Nat.le_of_ble_eq_true kr) (hfz:=(fun _ _=>J6)) (k:=?_))
  refine A9 [] [3,11,12,13,14] (k:=A0 ?_)
  refine A2 (A5 (j:=2) [0,0] (k:=?_))
  refine H9 (ch:=[]) (src:=9) (dst:=37) (e:=5) (s:=(ByteArray.mk #[38,108,116,59])) (k:=(fun b54 cap55 g56 hcap57 hrd58=>?_))
  refine A5 (j:=4) [0] (k:=D2 (ch:=[]) (b:=b2) (off:=0) (len:=256) (sz:=1) (e:=37) (kd:=.u8) (j:=60) (hb:=(fun _=>⟨by decide,by decide⟩)) (k:=?_))
  refine GL_st (ch:=[]) (b:=b2) (off:=60) (v:=.slice (some ⟨b54,0,none⟩) ((ByteArray.mk #[38,108,116,59]).size) cap55) (j:=12) (g56::[(b46,.cells #[.string (ByteArray.mk #[60])] 9 (0,0))]::[(b45,.cells #[.int .u8 60] 5 (0,0))]::g42::[(b32,.cells #[.string (ByteArray.mk #[62])] 9 (0,0))]::[(b31,.cells #[.int .u8 62] 5 (0,0))]::g28::[(b18,.cells #[.string (ByteArray.mk #[34])] 9 (0,0))]::[(b17,.cells #[.int .u8 34] 5 (0,0))]::g14::[(b4,.cells #[.string (ByteArray.mk #[39])] 9 (0,0))]::[(b3,.cells #[.int .u8 39] 5 (0,0))]::[(b2,.cells (bsr [(34,.slice (some ⟨b26,0,none⟩) ((ByteArray.mk #[38,113,117,111,116,59]).size) cap27),(39,.slice (some ⟨b12,0,none⟩) ((ByteArray.mk #[38,35,51,57,59]).size) cap13),(60,.slice (some ⟨b54,0,none⟩) ((ByteArray.mk #[38,108,116,59]).size) cap55),(62,.slice (some ⟨b40,0,none⟩) ((ByteArray.mk #[38,103,116,59]).size) cap41)] (.slice a50 ((((0+1)+1)+1)+1) cap51)) 111 (0,0))]::g48::[(b,.cells #[.int .u32 0,.int .i32 1,.int .u32 0,.nilIface,.slice a 10 cap] 71 (0,0))]::g::H) (hoff:=Nat.le_of_ble_eq_true kr) (hfz:=(fun _ _=>J6)) (k:=A9 [] [3,11,12] (k:=?_))
  refine B7 (A0 ?_)
  refine B3 (E':=[⟨3,[],.slice a 10 cap⟩,⟨11,[],pt b2⟩,⟨12,[],.int .i64 0⟩]) [0,0,0] [3,11,12] (k:=N_rd ?_)
  refine E4 (A1 ?_)
  refine A1 (G_p [0,0] [3,11,12,100] (k:=?_))
  refine A0 (B9 kr ?_)
  refine A7 (A0 ?_)
  refine A1 (B8 ?_)
  refine A1 (A2 ?_)
  refine A5 (j:=2) [0,0] (k:=C1 (ch:=[]) (a:=a) (len:=10) (cap:=cap) (kd:=.i64) (j:=0) (e:=9) (sz:=1) (S:=(inG g)) (cs:=G2) (hrd:=hr) (hb:=(fun _=>by exact ⟨by decide,by decide,by intro h; cases h⟩)) (k:=?_))
  refine E6 (ch:=[]) (a:=a) (q:=0 * 1) (S:=(inG g)) (cs:=G2) (v:=.string (ByteArray.mk #[38])) (hrd:=hr) (hS:=C7 15 rfl) (hv:=(fun _=>rfl)) (k:=D8 (ch:=[]) (s:=(ByteArray.mk #[38])) (kd:=.i64) (j:=0) (hb:=(fun _=>by decide)) (k:=?_))
  refine A9 [0] [3,11,12,13] (k:=A0 ?_)
  refine A1 (A2 ?_)
  refine A5 (j:=3) [0,0,0] (k:=C1 (ch:=[]) (a:=a) (len:=10) (cap:=cap) (kd:=.i64) (j:=1) (e:=9) (sz:=1) (S:=(inG g)) (cs:=G2) (hrd:=hr) (hb:=(fun _=>by exact ⟨by decide,by decide,by intro h; cases h⟩)) (k:=?_))
  refine E6 (ch:=[]) (a:=a) (q:=1 * 1) (S:=(inG g)) (cs:=G2) (v:=.string (ByteArray.mk #[38,97,109,112,59])) (hrd:=hr) (hS:=C7 15 rfl) (hv:=(fun _=>rfl)) (k:=A9 [0] [3,11,12,13,14] (k:=?_))
  refine A0 (A1 ?_)
  refine A1 (A2 ?_)
  refine A5 (j:=2) [0,0] (k:=D2 (ch:=[]) (b:=b2) (off:=0) (len:=256) (sz:=1) (e:=37) (kd:=.u8) (j:=38) (hb:=(fun _=>⟨by decide,by decide⟩)) (k:=?_))
  refine E0 (ch:=[]) (b:=b2) (off:=38) (v:=.slice none 0 0) (hA:=At.grp 12 0 rfl rfl) (k:=A9 [0] [3,11,12,13,14,117] (k:=?_))
  refine A0 (B9 kr ?_)
  refine A2 (A5 (j:=1) [0] (k:=?_))
  refine E0 (ch:=[]) (b:=b2) (off:=256) (v:=.slice a50 ((((0+1)+1)+1)+1) cap51) (hA:=At.grp 12 0 rfl rfl) (k:=A5 (j:=3) [0] (k:=?_))
  refine C4 (ch:=[]) (e:=5) (l:=[(0,.int .u8 38)]) (c:=[.int .u8 38]) (k:=(fun b59=>?_))
  refine G1 (ch:=[]) (a:=⟨b59,0,none⟩) (cap:=1) (e:=5) (S:=(inG [(b59,.cells #[.int .u8 38] 5 (0,0))])) ([38]) (hrd:=Rd.lit (c:=[.int .u8 38])) (hS:=C7 0 rfl) (k:=C4 (ch:=[]) (e:=9) (l:=[(0,.string (ByteArray.mk #[38]))]) (c:=[.string (ByteArray.mk #[38])]) (k:=(fun b60=>?_)))
  refine F2 (i:=6) (ch:=[]) (t:=55) (tx:=55) (e:=9) (inf:=Tryz.t9) (s:=.slice a50 ((((0+1)+1)+1)+1) cap51) (x:=.slice (some ⟨b60,0,none⟩) 1 1) (n:=((((0+1)+1)+1)+1)) (m:=1) (j:=15) (cs:=(((([]++[.string (ByteArray.mk #[39])])++[.string (ByteArray.mk #[34])])++[.string (ByteArray.mk #[62])])++[.string (ByteArray.mk #[60])])) (news:=[.string (ByteArray.mk #[38])]) (g:=g48) (S:=(inG [(b60,.cells #[.string (ByteArray.mk #[38])] 9 (0,0))])) rfl rfl rfl rfl kr kr kr rfl rfl (.inl ⟨9,kr⟩) (fun ⟨_,h⟩=>by cases h) (fun _=>⟨9,kr⟩) kr kr kr rfl hO49 (SrcOf.slice _ _ _ _ Rd.lit (fun h=>by cases h)) (C7 0 rfl) kr (by intro u hu; rcases List.mem_singleton.1 hu with rfl; rfl) (by omega) (by show (((((0+1)+1)+1)+1)+1) * 16≤140737488355328; omega) (fun v61 g62 hO63=>?_)
  obtain ⟨a64,cap65,rfl,hcap66,hrd67⟩:=hO63.shape
  refine A5 (j:=8) [0] (k:=GL_st (ch:=[]) (b:=b2) (off:=256) (v:=.slice a64 (((((0+1)+1)+1)+1)+1) cap65) (j:=14) ([(b60,.cells #[.string (ByteArray.mk #[38])] 9 (0,0))]::[(b59,.cells #[.int .u8 38] 5 (0,0))]::g56::[(b46,.cells #[.string (ByteArray.mk #[60])] 9 (0,0))]::[(b45,.cells #[.int .u8 60] 5 (0,0))]::g42::[(b32,.cells #[.string (ByteArray.mk #[62])] 9 (0,0))]::[(b31,.cells #[.int .u8 62] 5 (0,0))]::g28::[(b18,.cells #[.string (ByteArray.mk #[34])] 9 (0,0))]::[(b17,.cells #[.int .u8 34] 5 (0,0))]::g14::[(b4,.cells #[.string (ByteArray.mk #[39])] 9 (0,0))]::[(b3,.cells #[.int .u8 39] 5 (0,0))]::[(b2,.cells (bsr [(34,.slice (some ⟨b26,0,none⟩) ((ByteArray.mk #[38,113,117,111,116,59]).size) cap27),(39,.slice (some ⟨b12,0,none⟩) ((ByteArray.mk #[38,35,51,57,59]).size) cap13),(60,.slice (some ⟨b54,0,none⟩) ((ByteArray.mk #[38,108,116,59]).size) cap55),(62,.slice (some ⟨b40,0,none⟩) ((ByteArray.mk #[38,103,116,59]).size) cap41)] (.slice a64 (((((0+1)+1)+1)+1)+1) cap65)) 111 (0,0))]::g62::[(b,.cells #[.int .u32 0,.int .i32 1,.int .u32 0,.nilIface,.slice a 10 cap] 71 (0,0))]::g::H) (hoff:=Nat.le_of_ble_eq_true kr) (hfz:=(fun _ _=>J6)) (k:=?_))
  refine A9 [] [3,11,12,13,14] (k:=A0 ?_)
  refine A2 (A5 (j:=2) [0,0] (k:=?_))
  refine H9 (ch:=[]) (src:=9) (dst:=37) (e:=5) (s:=(ByteArray.mk #[38,97,109,112,59])) (k:=(fun b68 cap69 g70 hcap71 hrd72=>?_))
  refine A5 (j:=4) [0] (k:=D2 (ch:=[]) (b:=b2) (off:=0) (len:=256) (sz:=1) (e:=37) (kd:=.u8) (j:=38) (hb:=(fun _=>⟨by decide,by decide⟩)) (k:=?_))
  refine GL_st (ch:=[]) (b:=b2) (off:=38) (v:=.slice (some ⟨b68,0,none⟩) ((ByteArray.mk #[38,97,109,112,59]).size) cap69) (j:=15) (g70::[(b60,.cells #[.string (ByteArray.mk #[38])] 9 (0,0))]::[(b59,.cells #[.int .u8 38] 5 (0,0))]::g56::[(b46,.cells #[.string (ByteArray.mk #[60])] 9 (0,0))]::[(b45,.cells #[.int .u8 60] 5 (0,0))]::g42::[(b32,.cells #[.string (ByteArray.mk #[62])] 9 (0,0))]::[(b31,.cells #[.int .u8 62] 5 (0,0))]::g28::[(b18,.cells #[.string (ByteArray.mk #[34])] 9 (0,0))]::[(b17,.cells #[.int .u8 34] 5 (0,0))]::g14::[(b4,.cells #[.string (ByteArray.mk #[39])] 9 (0,0))]::[(b3,.cells #[.int .u8 39] 5 (0,0))]::[(b2,.cells (bsr [(34,.slice (some ⟨b26,0,none⟩) ((ByteArray.mk #[38,113,117,111,116,59]).size) cap27),(38,.slice (some ⟨b68,0,none⟩) ((ByteArray.mk #[38,97,109,112,59]).size) cap69),(39,.slice (some ⟨b12,0,none⟩) ((ByteArray.mk #[38,35,51,57,59]).size) cap13),(60,.slice (some ⟨b54,0,none⟩) ((ByteArray.mk #[38,108,116,59]).size) cap55),(62,.slice (some ⟨b40,0,none⟩) ((ByteArray.mk #[38,103,116,59]).size) cap41)] (.slice a64 (((((0+1)+1)+1)+1)+1) cap65)) 111 (0,0))]::g62::[(b,.cells #[.int .u32 0,.int .i32 1,.int .u32 0,.nilIface,.slice a 10 cap] 71 (0,0))]::g::H) (hoff:=Nat.le_of_ble_eq_true kr) (hfz:=(fun _ _=>J6)) (k:=B4 (E':=[⟨3,[],.slice a 10 cap⟩,⟨11,[],pt b2⟩,⟨12,[],.int .i64 0⟩]) [] [3,11,12] (k:=?_))
  refine B7 (A0 ?_)
  refine G_p [0,0,0] [3,11,12] (k:=N_rd ?_)
  refine E4 (A1 ?_)
  refine A1 (G_p [0,0] [3,11,12,100] (k:=?_))
  refine A0 (D6 kr ?_)
  refine G8 (B5 ?_)
  refine B5 (C9 ?_)
  refine A0 (A1 ?_)
  refine B3 (E':=[⟨2,[],.iface 112 (pt b2)⟩]) [0,0] [2] (k:=A0 ?_)
  refine B6 (D9 (H':=(g70::[(b60,.cells #[.string (ByteArray.mk #[38])] 9 (0,0))]::[(b59,.cells #[.int .u8 38] 5 (0,0))]::g56::[(b46,.cells #[.string (ByteArray.mk #[60])] 9 (0,0))]::[(b45,.cells #[.int .u8 60] 5 (0,0))]::g42::[(b32,.cells #[.string (ByteArray.mk #[62])] 9 (0,0))]::[(b31,.cells #[.int .u8 62] 5 (0,0))]::g28::[(b18,.cells #[.string (ByteArray.mk #[34])] 9 (0,0))]::[(b17,.cells #[.int .u8 34] 5 (0,0))]::g14::[(b4,.cells #[.string (ByteArray.mk #[39])] 9 (0,0))]::[(b2,.cells (bsr [(34,.slice (some ⟨b26,0,none⟩) ((ByteArray.mk #[38,113,117,111,116,59]).size) cap27),(38,.slice (some ⟨b68,0,none⟩) ((ByteArray.mk #[38,97,109,112,59]).size) cap69),(39,.slice (some ⟨b12,0,none⟩) ((ByteArray.mk #[38,35,51,57,59]).size) cap13),(60,.slice (some ⟨b54,0,none⟩) ((ByteArray.mk #[38,108,116,59]).size) cap55),(62,.slice (some ⟨b40,0,none⟩) ((ByteArray.mk #[38,103,116,59]).size) cap41)] (.slice a64 (((((0+1)+1)+1)+1)+1) cap65)) 111 (0,0))]::g62::[(b,.cells #[.int .u32 0,.int .i32 1,.int .u32 0,.nilIface,.slice a 10 cap] 71 (0,0))]::g::H)) (fun w h=>h.erase 14) ?_)
  refine D9 (H':=(g70::[(b60,.cells #[.string (ByteArray.mk #[38])] 9 (0,0))]::[(b59,.cells #[.int .u8 38] 5 (0,0))]::g56::[(b46,.cells #[.string (ByteArray.mk #[60])] 9 (0,0))]::[(b45,.cells #[.int .u8 60] 5 (0,0))]::g42::[(b32,.cells #[.string (ByteArray.mk #[62])] 9 (0,0))]::[(b31,.cells #[.int .u8 62] 5 (0,0))]::g28::[(b18,.cells #[.string (ByteArray.mk #[34])] 9 (0,0))]::[(b17,.cells #[.int .u8 34] 5 (0,0))]::g14::[(b2,.cells (bsr [(34,.slice (some ⟨b26,0,none⟩) ((ByteArray.mk #[38,113,117,111,116,59]).size) cap27),(38,.slice (some ⟨b68,0,none⟩) ((ByteArray.mk #[38,97,109,112,59]).size) cap69),(39,.slice (some ⟨b12,0,none⟩) ((ByteArray.mk #[38,35,51,57,59]).size) cap13),(60,.slice (some ⟨b54,0,none⟩) ((ByteArray.mk #[38,108,116,59]).size) cap55),(62,.slice (some ⟨b40,0,none⟩) ((ByteArray.mk #[38,103,116,59]).size) cap41)] (.slice a64 (((((0+1)+1)+1)+1)+1) cap65)) 111 (0,0))]::g62::[(b,.cells #[.int .u32 0,.int .i32 1,.int .u32 0,.nilIface,.slice a 10 cap] 71 (0,0))]::g::H)) (fun w h=>h.erase 13) (D9 (H':=(g70::[(b60,.cells #[.string (ByteArray.mk #[38])] 9 (0,0))]::[(b59,.cells #[.int .u8 38] 5 (0,0))]::g56::[(b46,.cells #[.string (ByteArray.mk #[60])] 9 (0,0))]::[(b45,.cells #[.int .u8 60] 5 (0,0))]::g42::[(b32,.cells #[.string (ByteArray.mk #[62])] 9 (0,0))]::[(b31,.cells #[.int .u8 62] 5 (0,0))]::g28::[(b18,.cells #[.string (ByteArray.mk #[34])] 9 (0,0))]::g14::[(b2,.cells (bsr [(34,.slice (some ⟨b26,0,none⟩) ((ByteArray.mk #[38,113,117,111,116,59]).size) cap27),(38,.slice (some ⟨b68,0,none⟩) ((ByteArray.mk #[38,97,109,112,59]).size) cap69),(39,.slice (some ⟨b12,0,none⟩) ((ByteArray.mk #[38,35,51,57,59]).size) cap13),(60,.slice (some ⟨b54,0,none⟩) ((ByteArray.mk #[38,108,116,59]).size) cap55),(62,.slice (some ⟨b40,0,none⟩) ((ByteArray.mk #[38,103,116,59]).size) cap41)] (.slice a64 (((((0+1)+1)+1)+1)+1) cap65)) 111 (0,0))]::g62::[(b,.cells #[.int .u32 0,.int .i32 1,.int .u32 0,.nilIface,.slice a 10 cap] 71 (0,0))]::g::H)) (fun w h=>h.erase 11) ?_)
  refine D9 (H':=(g70::[(b60,.cells #[.string (ByteArray.mk #[38])] 9 (0,0))]::[(b59,.cells #[.int .u8 38] 5 (0,0))]::g56::[(b46,.cells #[.string (ByteArray.mk #[60])] 9 (0,0))]::[(b45,.cells #[.int .u8 60] 5 (0,0))]::g42::[(b32,.cells #[.string (ByteArray.mk #[62])] 9 (0,0))]::[(b31,.cells #[.int .u8 62] 5 (0,0))]::g28::g14::[(b2,.cells (bsr [(34,.slice (some ⟨b26,0,none⟩) ((ByteArray.mk #[38,113,117,111,116,59]).size) cap27),(38,.slice (some ⟨b68,0,none⟩) ((ByteArray.mk #[38,97,109,112,59]).size) cap69),(39,.slice (some ⟨b12,0,none⟩) ((ByteArray.mk #[38,35,51,57,59]).size) cap13),(60,.slice (some ⟨b54,0,none⟩) ((ByteArray.mk #[38,108,116,59]).size) cap55),(62,.slice (some ⟨b40,0,none⟩) ((ByteArray.mk #[38,103,116,59]).size) cap41)] (.slice a64 (((((0+1)+1)+1)+1)+1) cap65)) 111 (0,0))]::g62::[(b,.cells #[.int .u32 0,.int .i32 1,.int .u32 0,.nilIface,.slice a 10 cap] 71 (0,0))]::g::H)) (fun w h=>h.erase 10) (D9 (H':=(g70::[(b60,.cells #[.string (ByteArray.mk #[38])] 9 (0,0))]::[(b59,.cells #[.int .u8 38] 5 (0,0))]::g56::[(b46,.cells #[.string (ByteArray.mk #[60])] 9 (0,0))]::[(b45,.cells #[.int .u8 60] 5 (0,0))]::g42::[(b32,.cells #[.string (ByteArray.mk #[62])] 9 (0,0))]::g28::g14::[(b2,.cells (bsr [(34,.slice (some ⟨b26,0,none⟩) ((ByteArray.mk #[38,113,117,111,116,59]).size) cap27),(38,.slice (some ⟨b68,0,none⟩) ((ByteArray.mk #[38,97,109,112,59]).size) cap69),(39,.slice (some ⟨b12,0,none⟩) ((ByteArray.mk #[38,35,51,57,59]).size) cap13),(60,.slice (some ⟨b54,0,none⟩) ((ByteArray.mk #[38,108,116,59]).size) cap55),(62,.slice (some ⟨b40,0,none⟩) ((ByteArray.mk #[38,103,116,59]).size) cap41)] (.slice a64 (((((0+1)+1)+1)+1)+1) cap65)) 111 (0,0))]::g62::[(b,.cells #[.int .u32 0,.int .i32 1,.int .u32 0,.nilIface,.slice a 10 cap] 71 (0,0))]::g::H)) (fun w h=>h.erase 8) ?_)
  refine D9 (H':=(g70::[(b60,.cells #[.string (ByteArray.mk #[38])] 9 (0,0))]::[(b59,.cells #[.int .u8 38] 5 (0,0))]::g56::[(b46,.cells #[.string (ByteArray.mk #[60])] 9 (0,0))]::[(b45,.cells #[.int .u8 60] 5 (0,0))]::g42::g28::g14::[(b2,.cells (bsr [(34,.slice (some ⟨b26,0,none⟩) ((ByteArray.mk #[38,113,117,111,116,59]).size) cap27),(38,.slice (some ⟨b68,0,none⟩) ((ByteArray.mk #[38,97,109,112,59]).size) cap69),(39,.slice (some ⟨b12,0,none⟩) ((ByteArray.mk #[38,35,51,57,59]).size) cap13),(60,.slice (some ⟨b54,0,none⟩) ((ByteArray.mk #[38,108,116,59]).size) cap55),(62,.slice (some ⟨b40,0,none⟩) ((ByteArray.mk #[38,103,116,59]).size) cap41)] (.slice a64 (((((0+1)+1)+1)+1)+1) cap65)) 111 (0,0))]::g62::[(b,.cells #[.int .u32 0,.int .i32 1,.int .u32 0,.nilIface,.slice a 10 cap] 71 (0,0))]::g::H)) (fun w h=>h.erase 7) (D9 (H':=(g70::[(b60,.cells #[.string (ByteArray.mk #[38])] 9 (0,0))]::[(b59,.cells #[.int .u8 38] 5 (0,0))]::g56::[(b46,.cells #[.string (ByteArray.mk #[60])] 9 (0,0))]::g42::g28::g14::[(b2,.cells (bsr [(34,.slice (some ⟨b26,0,none⟩) ((ByteArray.mk #[38,113,117,111,116,59]).size) cap27),(38,.slice (some ⟨b68,0,none⟩) ((ByteArray.mk #[38,97,109,112,59]).size) cap69),(39,.slice (some ⟨b12,0,none⟩) ((ByteArray.mk #[38,35,51,57,59]).size) cap13),(60,.slice (some ⟨b54,0,none⟩) ((ByteArray.mk #[38,108,116,59]).size) cap55),(62,.slice (some ⟨b40,0,none⟩) ((ByteArray.mk #[38,103,116,59]).size) cap41)] (.slice a64 (((((0+1)+1)+1)+1)+1) cap65)) 111 (0,0))]::g62::[(b,.cells #[.int .u32 0,.int .i32 1,.int .u32 0,.nilIface,.slice a 10 cap] 71 (0,0))]::g::H)) (fun w h=>h.erase 5) ?_)
  refine D9 (H':=(g70::[(b60,.cells #[.string (ByteArray.mk #[38])] 9 (0,0))]::[(b59,.cells #[.int .u8 38] 5 (0,0))]::g56::g42::g28::g14::[(b2,.cells (bsr [(34,.slice (some ⟨b26,0,none⟩) ((ByteArray.mk #[38,113,117,111,116,59]).size) cap27),(38,.slice (some ⟨b68,0,none⟩) ((ByteArray.mk #[38,97,109,112,59]).size) cap69),(39,.slice (some ⟨b12,0,none⟩) ((ByteArray.mk #[38,35,51,57,59]).size) cap13),(60,.slice (some ⟨b54,0,none⟩) ((ByteArray.mk #[38,108,116,59]).size) cap55),(62,.slice (some ⟨b40,0,none⟩) ((ByteArray.mk #[38,103,116,59]).size) cap41)] (.slice a64 (((((0+1)+1)+1)+1)+1) cap65)) 111 (0,0))]::g62::[(b,.cells #[.int .u32 0,.int .i32 1,.int .u32 0,.nilIface,.slice a 10 cap] 71 (0,0))]::g::H)) (fun w h=>h.erase 4) (D9 (H':=(g70::[(b60,.cells #[.string (ByteArray.mk #[38])] 9 (0,0))]::g56::g42::g28::g14::[(b2,.cells (bsr [(34,.slice (some ⟨b26,0,none⟩) ((ByteArray.mk #[38,113,117,111,116,59]).size) cap27),(38,.slice (some ⟨b68,0,none⟩) ((ByteArray.mk #[38,97,109,112,59]).size) cap69),(39,.slice (some ⟨b12,0,none⟩) ((ByteArray.mk #[38,35,51,57,59]).size) cap13),(60,.slice (some ⟨b54,0,none⟩) ((ByteArray.mk #[38,108,116,59]).size) cap55),(62,.slice (some ⟨b40,0,none⟩) ((ByteArray.mk #[38,103,116,59]).size) cap41)] (.slice a64 (((((0+1)+1)+1)+1)+1) cap65)) 111 (0,0))]::g62::[(b,.cells #[.int .u32 0,.int .i32 1,.int .u32 0,.nilIface,.slice a 10 cap] 71 (0,0))]::g::H)) (fun w h=>h.erase 2) ?_)
  refine D9 (H':=(g70::g56::g42::g28::g14::[(b2,.cells (bsr [(34,.slice (some ⟨b26,0,none⟩) ((ByteArray.mk #[38,113,117,111,116,59]).size) cap27),(38,.slice (some ⟨b68,0,none⟩) ((ByteArray.mk #[38,97,109,112,59]).size) cap69),(39,.slice (some ⟨b12,0,none⟩) ((ByteArray.mk #[38,35,51,57,59]).size) cap13),(60,.slice (some ⟨b54,0,none⟩) ((ByteArray.mk #[38,108,116,59]).size) cap55),(62,.slice (some ⟨b40,0,none⟩) ((ByteArray.mk #[38,103,116,59]).size) cap41)] (.slice a64 (((((0+1)+1)+1)+1)+1) cap65)) 111 (0,0))]::g62::[(b,.cells #[.int .u32 0,.int .i32 1,.int .u32 0,.nilIface,.slice a 10 cap] 71 (0,0))]::g::H)) (fun w h=>h.erase 1) (D9 (H':=([(b2,.cells (bsr [(34,.slice (some ⟨b26,0,none⟩) ((ByteArray.mk #[38,113,117,111,116,59]).size) cap27),(38,.slice (some ⟨b68,0,none⟩) ((ByteArray.mk #[38,97,109,112,59]).size) cap69),(39,.slice (some ⟨b12,0,none⟩) ((ByteArray.mk #[38,35,51,57,59]).size) cap13),(60,.slice (some ⟨b54,0,none⟩) ((ByteArray.mk #[38,108,116,59]).size) cap55),(62,.slice (some ⟨b40,0,none⟩) ((ByteArray.mk #[38,103,116,59]).size) cap41)] (.slice a64 (((((0+1)+1)+1)+1)+1) cap65)) 111 (0,0))]::g62::g70::g56::g42::g28::g14::[(b,.cells #[.int .u32 0,.int .i32 1,.int .u32 0,.nilIface,.slice a 10 cap] 71 (0,0))]::g::H)) (fun w h=>(((((((((h.front (j:=8) rfl).front (j:=8) rfl).front (j:=6) rfl).front (j:=6) rfl).front (j:=6) rfl).front (j:=6) rfl).front (j:=6) rfl).front (j:=8) rfl).front (j:=8) rfl)) ?_)
  refine B2 [.tmp 2] [.iface 112 (pt b2)] (k:=?_)
  refine ⟨b2,a64,cap65,g62,b68,cap69,g70,b54,cap55,g56,b40,cap41,g42,b26,cap27,g28,b12,cap13,g14,rfl,?_,⟨hrd72,hrd58,hrd44,hrd30,hrd16⟩,?_⟩
  · exact hO63
  · kernel_rfl
def htmlRep (g:Grp) (x:Value) (K:List Grp):Prop:=∃ c aT cT gT a38 c38 g38 a60 c60 g60 a62 c62 g62 a34 c34 g34 a39 c39 g39,x=.iface 112 (pt c)∧Go.Sw.Own 9 1 (.slice aT 5 cT) gT 5 G7∧(Rd (inG g38) (some ⟨a38,0,none⟩) (u8s (ByteArray.mk #[38,97,109,112,59]).data.toList)∧Rd (inG g60) (some ⟨a60,0,none⟩) (u8s (ByteArray.mk #[38,108,116,59]).data.toList)∧Rd (inG g62) (some ⟨a62,0,none⟩) (u8s (ByteArray.mk #[38,103,116,59]).data.toList)∧Rd (inG g34) (some ⟨a34,0,none⟩) (u8s (ByteArray.mk #[38,113,117,111,116,59]).data.toList)∧Rd (inG g39) (some ⟨a39,0,none⟩) (u8s (ByteArray.mk #[38,35,51,57,59]).data.toList))∧K=[[(c,.cells (bsr [(34,.slice (some ⟨a34,0,none⟩) 6 c34),(38,.slice (some ⟨a38,0,none⟩) 5 c38),(39,.slice (some ⟨a39,0,none⟩) 5 c39),(60,.slice (some ⟨a60,0,none⟩) 4 c60),(62,.slice (some ⟨a62,0,none⟩) 4 c62)] (.slice aT 5 cT)) 111 (0,0))],gT,g38,g60,g62,g34,g39,g]
theorem buildOnce_ (b:Nat) (a:Option Addr) (cap:Nat) (g:Grp) (hr:Rd (inG g) a G2) (W0:World) (H:List Grp):Tri Tryz.prog 42 #[pt b] W0 ([(b,.cells #[.int .u32 0,.int .i32 1,.int .u32 0,.nilIface,.slice a 10 cap] 71 (0,0))]::g::H) (fun _ H'=>∃ r2 K2,htmlRep g r2 K2∧H'=repG b 0 1 r2 (.slice none 0 0)::(K2++H)):=by
 refine C2 (args:=[pt b]) (n:=10) Tryz.func42 rfl rfl (Nat.le_of_ble_eq_true rfl) ?_
 refine A1 (A2 ?_)
 refine A5 (j:=2) [0,0] (k:=E5 Tryz.func59 (build_ b a cap g hr _ _) ?_)
 rintro _ _ ⟨c,aT,cT,gT,a38,c38,g38,a60,c60,g60,a62,c62,g62,a34,c34,g34,a39,c39,g39,rfl,hT,hR,rfl⟩
 refine A5 (j:=5) [0,0] (k:=GL_st (ch:=[]) (b:=b) (off:=3) (v:=.iface 112 (pt c)) (j:=7) ([(c,.cells (bsr [(34,.slice (some ⟨a34,0,none⟩) 6 c34),(38,.slice (some ⟨a38,0,none⟩) 5 c38),(39,.slice (some ⟨a39,0,none⟩) 5 c39),(60,.slice (some ⟨a60,0,none⟩) 4 c60),(62,.slice (some ⟨a62,0,none⟩) 4 c62)] (.slice aT 5 cT)) 111 (0,0))]::gT::g38::g60::g62::g34::g39::[(b,.cells #[.int .u32 0,.int .i32 1,.int .u32 0,.iface 112 (pt c),.slice a 10 cap] 71 (0,0))]::g::H) (hoff:=Nat.le_of_ble_eq_true rfl) (hfz:=(fun _ _=>J6)) (k:=?_))
 refine B4 (E':=[⟨0,[],pt b⟩]) [] [0] (k:=A0 ?_)
 refine A2 (A5 (j:=3) [0,0,0] (k:=?_))
 refine GL_st (ch:=[]) (b:=b) (off:=4) (v:=.slice none 0 0) (j:=7) ([(c,.cells (bsr [(34,.slice (some ⟨a34,0,none⟩) 6 c34),(38,.slice (some ⟨a38,0,none⟩) 5 c38),(39,.slice (some ⟨a39,0,none⟩) 5 c39),(60,.slice (some ⟨a60,0,none⟩) 4 c60),(62,.slice (some ⟨a62,0,none⟩) 4 c62)] (.slice aT 5 cT)) 111 (0,0))]::gT::g38::g60::g62::g34::g39::[(b,.cells #[.int .u32 0,.int .i32 1,.int .u32 0,.iface 112 (pt c),.slice none 0 0] 71 (0,0))]::g::H) (hoff:=Nat.le_of_ble_eq_true rfl) (hfz:=(fun _ _=>J6)) (k:=B4 (E':=[]) [] [] (k:=?_))
 refine D9 (H':=([(b,.cells #[.int .u32 0,.int .i32 1,.int .u32 0,.iface 112 (pt c),.slice none 0 0] 71 (0,0))]::[(c,.cells (bsr [(34,.slice (some ⟨a34,0,none⟩) 6 c34),(38,.slice (some ⟨a38,0,none⟩) 5 c38),(39,.slice (some ⟨a39,0,none⟩) 5 c39),(60,.slice (some ⟨a60,0,none⟩) 4 c60),(62,.slice (some ⟨a62,0,none⟩) 4 c62)] (.slice aT 5 cT)) 111 (0,0))]::gT::g38::g60::g62::g34::g39::g::H)) (fun w h=>(((((((((h.front (j:=8) rfl).front (j:=7) rfl).front (j:=7) rfl).front (j:=7) rfl).front (j:=7) rfl).front (j:=7) rfl).front (j:=7) rfl).front (j:=7) rfl).front (j:=8) rfl)) (B2 [] [] (k:=?_))
 exact ⟨_,_,⟨c,aT,cT,gT,a38,c38,g38,a60,c60,g60,a62,c62,g62,a34,c34,g34,a39,c39,g39,rfl,hT,hR,rfl⟩,rfl⟩
theorem htmlOnce (b:Nat) (a:Option Addr) (cap:Nat) (g:Grp) (hr:Rd (inG g) a G2) (W0:World) (H:List Grp):Tri Tryz.prog 41 #[pt b,.func (.func 42) #[pt b] #[]] W0 (repG b 0 0 .nilIface (.slice a 10 cap)::([g]++H)) (fun _ H'=>∃ r2 K2,htmlRep g r2 K2∧H'=repG b 1 0 r2 (.slice none 0 0)::(K2++H)) :=
  onceDo_ b .nilIface (.slice a 10 cap) (.slice none 0 0) [g] (htmlRep g) (fun W0 H=>buildOnce_ b a cap g hr W0 H) W0 H
theorem repReplace_ (b:Nat) (a:Option Addr) (cap:Nat) (g:Grp) (hr:Rd (inG g) a G2) (x y:ByteArray) (hrep:∀ c aT cT gT a38 c38 g38 a60 c60 g60 a62 c62 g62 a34 c34 g34 a39 c39 g39 W0 H,Go.Sw.Own 9 1 (.slice aT 5 cT) gT 5 G7→(Rd (inG g38) (some ⟨a38,0,none⟩) (u8s (ByteArray.mk #[38,97,109,112,59]).data.toList)∧Rd (inG g60) (some ⟨a60,0,none⟩) (u8s (ByteArray.mk #[38,108,116,59]).data.toList)∧Rd (inG g62) (some ⟨a62,0,none⟩) (u8s (ByteArray.mk #[38,103,116,59]).data.toList)∧Rd (inG g34) (some ⟨a34,0,none⟩) (u8s (ByteArray.mk #[38,113,117,111,116,59]).data.toList)∧Rd (inG g39) (some ⟨a39,0,none⟩) (u8s (ByteArray.mk #[38,35,51,57,59]).data.toList))→Tri Tryz.prog 155 #[pt c,.string x] W0 ([(c,.cells (bsr [(34,.slice (some ⟨a34,0,none⟩) 6 c34),(38,.slice (some ⟨a38,0,none⟩) 5 c38),(39,.slice (some ⟨a39,0,none⟩) 5 c39),(60,.slice (some ⟨a60,0,none⟩) 4 c60),(62,.slice (some ⟨a62,0,none⟩) 4 c62)] (.slice aT 5 cT)) 111 (0,0))]::gT::g38::g60::g62::g34::g39::H) (fun v H'=>v=.string y∧H'=[(c,.cells (bsr [(34,.slice (some ⟨a34,0,none⟩) 6 c34),(38,.slice (some ⟨a38,0,none⟩) 5 c38),(39,.slice (some ⟨a39,0,none⟩) 5 c39),(60,.slice (some ⟨a60,0,none⟩) 4 c60),(62,.slice (some ⟨a62,0,none⟩) 4 c62)] (.slice aT 5 cT)) 111 (0,0))]::gT::g38::g60::g62::g34::g39::H)) (W0:World) (H:List Grp):Tri Tryz.prog 24 #[pt b,.string x] W0 ([(b,.cells #[.int .u32 0,.int .i32 0,.int .u32 0,.nilIface,.slice a 10 cap] 71 (0,0))]::g::H) (fun v H'=>v=.string y∧H'=H):=by
 refine C2 (args:=[pt b,.string x]) (n:=17) Tryz.func24 rfl rfl (Nat.le_of_ble_eq_true rfl) ?_
 refine A1 (B3 (E':=[⟨0,[],pt b⟩,⟨1,[],.string x⟩]) [0] [0,1] (k:=?_))
 refine A0 (A1 ?_)
 refine A2 (A5 (j:=5) [0,0,0,0,0] (k:=?_))
 refine E5 Tryz.func41 (htmlOnce b a cap g hr _ _) ?_
 rintro _ _ ⟨_,_,⟨c,aT,cT,gT,a38,c38,g38,a60,c60,g60,a62,c62,g62,a34,c34,g34,a39,c39,g39,rfl,hT,hR,rfl⟩,rfl⟩
 refine B4 (E':=[⟨0,[],pt b⟩,⟨1,[],.string x⟩]) [] [0,1] (k:=A0 ?_)
 refine A1 (A2 ?_)
 refine A5 (j:=3) [0,0,0] (k:=E0 (ch:=[]) (b:=b) (off:=3) (v:=.iface 112 (pt c)) (hA:=At.grp 0 0 rfl rfl) (hv:=rfl) (k:=?_))
 refine A5 (j:=5) [0] (k:=GL_heap rfl (H':=([(c,.cells (bsr [(34,.slice (some ⟨a34,0,none⟩) 6 c34),(38,.slice (some ⟨a38,0,none⟩) 5 c38),(39,.slice (some ⟨a39,0,none⟩) 5 c39),(60,.slice (some ⟨a60,0,none⟩) 4 c60),(62,.slice (some ⟨a62,0,none⟩) 4 c62)] (.slice aT 5 cT)) 111 (0,0))]::gT::g38::g60::g62::g34::g39::[(b,.cells #[.int .u32 1,.int .i32 0,.int .u32 0,.iface 112 (pt c),.slice none 0 0] 71 (0,0))]::g::H)) (fun w h=>(((((((h.front (j:=7) rfl).front (j:=7) rfl).front (j:=7) rfl).front (j:=7) rfl).front (j:=7) rfl).front (j:=7) rfl).front (j:=7) rfl)) ?_)
 refine GL_invoke (i:=5) (t:=112) (rv:=pt c) (f:=155) (vs:=[.string x]) (av:=#[pt c,.string x]) rfl rfl rfl kr kr rfl kr (fun _=>by kernel_rfl) (hrep c aT cT gT a38 c38 g38 a60 c60 g60 a62 c62 g62 a34 c34 g34 a39 c39 g39 _ _ hT hR) ?_
 rintro _ _ ⟨rfl,rfl⟩
 refine B4 (E':=[⟨4,[],.string y⟩]) [0] [4] (k:=A0 ?_)
 refine B6 (D9 (H':=([(c,.cells (bsr [(34,.slice (some ⟨a34,0,none⟩) 6 c34),(38,.slice (some ⟨a38,0,none⟩) 5 c38),(39,.slice (some ⟨a39,0,none⟩) 5 c39),(60,.slice (some ⟨a60,0,none⟩) 4 c60),(62,.slice (some ⟨a62,0,none⟩) 4 c62)] (.slice aT 5 cT)) 111 (0,0))]::gT::g38::g60::g62::g34::g39::[(b,.cells #[.int .u32 1,.int .i32 0,.int .u32 0,.iface 112 (pt c),.slice none 0 0] 71 (0,0))]::H)) (fun w h=>h.erase 8) ?_)
 refine D9 (H':=([(c,.cells (bsr [(34,.slice (some ⟨a34,0,none⟩) 6 c34),(38,.slice (some ⟨a38,0,none⟩) 5 c38),(39,.slice (some ⟨a39,0,none⟩) 5 c39),(60,.slice (some ⟨a60,0,none⟩) 4 c60),(62,.slice (some ⟨a62,0,none⟩) 4 c62)] (.slice aT 5 cT)) 111 (0,0))]::gT::g38::g60::g62::g34::g39::H)) (fun w h=>h.erase 7) (D9 (H':=([(c,.cells (bsr [(34,.slice (some ⟨a34,0,none⟩) 6 c34),(38,.slice (some ⟨a38,0,none⟩) 5 c38),(39,.slice (some ⟨a39,0,none⟩) 5 c39),(60,.slice (some ⟨a60,0,none⟩) 4 c60),(62,.slice (some ⟨a62,0,none⟩) 4 c62)] (.slice aT 5 cT)) 111 (0,0))]::gT::g38::g60::g62::g34::H)) (fun w h=>h.erase 6) ?_)
 refine D9 (H':=([(c,.cells (bsr [(34,.slice (some ⟨a34,0,none⟩) 6 c34),(38,.slice (some ⟨a38,0,none⟩) 5 c38),(39,.slice (some ⟨a39,0,none⟩) 5 c39),(60,.slice (some ⟨a60,0,none⟩) 4 c60),(62,.slice (some ⟨a62,0,none⟩) 4 c62)] (.slice aT 5 cT)) 111 (0,0))]::gT::g38::g60::g62::H)) (fun w h=>h.erase 5) (D9 (H':=([(c,.cells (bsr [(34,.slice (some ⟨a34,0,none⟩) 6 c34),(38,.slice (some ⟨a38,0,none⟩) 5 c38),(39,.slice (some ⟨a39,0,none⟩) 5 c39),(60,.slice (some ⟨a60,0,none⟩) 4 c60),(62,.slice (some ⟨a62,0,none⟩) 4 c62)] (.slice aT 5 cT)) 111 (0,0))]::gT::g38::g60::H)) (fun w h=>h.erase 4) ?_)
 refine D9 (H':=([(c,.cells (bsr [(34,.slice (some ⟨a34,0,none⟩) 6 c34),(38,.slice (some ⟨a38,0,none⟩) 5 c38),(39,.slice (some ⟨a39,0,none⟩) 5 c39),(60,.slice (some ⟨a60,0,none⟩) 4 c60),(62,.slice (some ⟨a62,0,none⟩) 4 c62)] (.slice aT 5 cT)) 111 (0,0))]::gT::g38::H)) (fun w h=>h.erase 3) (D9 (H':=([(c,.cells (bsr [(34,.slice (some ⟨a34,0,none⟩) 6 c34),(38,.slice (some ⟨a38,0,none⟩) 5 c38),(39,.slice (some ⟨a39,0,none⟩) 5 c39),(60,.slice (some ⟨a60,0,none⟩) 4 c60),(62,.slice (some ⟨a62,0,none⟩) 4 c62)] (.slice aT 5 cT)) 111 (0,0))]::gT::H)) (fun w h=>h.erase 2) ?_)
 refine D9 (H':=([(c,.cells (bsr [(34,.slice (some ⟨a34,0,none⟩) 6 c34),(38,.slice (some ⟨a38,0,none⟩) 5 c38),(39,.slice (some ⟨a39,0,none⟩) 5 c39),(60,.slice (some ⟨a60,0,none⟩) 4 c60),(62,.slice (some ⟨a62,0,none⟩) 4 c62)] (.slice aT 5 cT)) 111 (0,0))]::H)) (fun w h=>h.erase 1) (D9 (H':=H) (fun w h=>h.erase 0) ?_)
 refine B2 [.tmp 4] [.string y] (k:=?_)
 exact ⟨rfl,rfl⟩
end Go.Proofs.YtbnfbffiehoapaaGreatDoor
namespace Go.Sw
open Go.Esc
theorem rd_cell {S:Nat→Obj→Prop} {a:Addr} {cs:List Value} {W0:World} {H:List Grp} (hrd:Rd S (some a) cs) (hS:∀ b o,S b o→At W0 H b o):∀ w,Sat W0 H w→∀ k v,cs[k]? = some v→w.cell? (a.add k)=some v:=by
  intro w hs k v hv
  obtain ⟨b,off,c,t,fz,h1,h2,h3,h4⟩:=hrd.elt hv
  have ha:a.add k=⟨b,off+k,none⟩:=h3
  rw [ha]; exact J8 (hs.at (hS _ _ h2)) h4
theorem cut_some {b n j:Nat} (h:j<n):cutA (some ⟨b,0,none⟩) n j 1=some ⟨b,j,none⟩:=by
  unfold cutA; rw [if_neg (by omega)]; simp [H7]
def rowZ (l:List UInt8) (k:Nat):Array Value:=(u8s l++List.replicate k (Value.int .u8 0)).toArray
theorem rowZ_size (l:List UInt8) (k:Nat):(rowZ l k).size=l.length+k:=by simp [rowZ,u8s]
theorem madeZ (n:Nat):madeCells (Value.int .u8 0).cells (n * 1)=rowZ [] n:=by
  have e:madeCells (Value.int .u8 0).cells (n * 1)=Array.replicate n (Value.int .u8 0):=by
    apply Array.ext
    · simp [madeCells]
    · intro i h1 h2
      simp [madeCells,Value.cells,Nat.mod_one]
  rw [e]; simp [rowZ,u8s]
theorem rowZ_set (l:List UInt8) (k:Nat) (b:UInt8) {q:Nat} (hq:q=l.length):setRow (rowZ l (k+1)) q [.int .u8 (b.toNat:Int)]=rowZ (l++[b]) k:=by
  subst hq
  have:=setRow_mid [.int .u8 (b.toNat:Int)] (u8s l) (List.replicate k (.int .u8 0)) [.int .u8 0] rfl
  rw [show (u8s l).length=l.length from List.length_map _] at this
  unfold rowZ
  rw [show u8s l++List.replicate (k+1) (Value.int .u8 0)=u8s l++[.int .u8 0]++List.replicate k (.int .u8 0) by simp [List.replicate_succ],this]
  simp [u8s]
theorem rowZ_copy (l t:List UInt8) (k:Nat) (hk:t.length≤k):((rowZ l k).toList.take l.length++u8s t++(rowZ l k).toList.drop (l.length+(u8s t).length)).toArray=rowZ (l++t) (k - t.length):=by
  unfold rowZ
  have e:(u8s l).length=l.length:=List.length_map _
  have e2:(u8s t).length=t.length:=List.length_map _
  rw [e2]
  congr 1
  have h1:(u8s l++List.replicate k (Value.int .u8 0)).take l.length=u8s l:=by rw [← e,List.take_left]
  have h2:(u8s l++List.replicate k (Value.int .u8 0)).drop (l.length+t.length)=List.replicate (k - t.length) (.int .u8 0):=by rw [← e,List.drop_append,List.drop_replicate,List.drop_eq_nil_of_le (by omega),List.nil_append]; congr 1; omega
  rw [h1,h2]
  simp [u8s]
theorem rowZ_rd {b:Nat} (l:List UInt8) {k:Nat} (hk:k=0):Rd (inG [(b,.cells (rowZ l k) 5 (0,0))]) (some ⟨b,0,none⟩) (u8s l):=by
  subst hk
  have:rowZ l 0=(u8s l).toArray:=by simp [rowZ]
  rw [this]; exact Rd.lit
end Go.Sw
namespace Go.Proofs.YtbnfbffiehoapaaGreatDoor
open Go.Sw Go.Esc
theorem tab_case (t a38 a60 a62 a34 a39 c38 c60 c62 c34 c39:_) (x:UInt8) :
    (∃ A L C u,(A,L,C,u)∈[(a38,5,c38,[38,97,109,112,59]),(a60,4,c60,[38,108,116,59]),(a62,4,c62,[38,103,116,59]),(a34,6,c34,[38,113,117,111,116,59]),(a39,5,c39,[38,35,51,57,59])]∧A8 x=some u∧L=u.length ∧
      (bsr [(34,.slice (some ⟨a34,0,none⟩) 6 c34),(38,.slice (some ⟨a38,0,none⟩) 5 c38),(39,.slice (some ⟨a39,0,none⟩) 5 c39),(60,.slice (some ⟨a60,0,none⟩) 4 c60),(62,.slice (some ⟨a62,0,none⟩) 4 c62)] t)[x.toNat]? = some (.slice (some ⟨A,0,none⟩) L C)) ∨
    (A8 x=none∧(bsr [(34,.slice (some ⟨a34,0,none⟩) 6 c34),(38,.slice (some ⟨a38,0,none⟩) 5 c38),(39,.slice (some ⟨a39,0,none⟩) 5 c39),(60,.slice (some ⟨a60,0,none⟩) 4 c60),(62,.slice (some ⟨a62,0,none⟩) 4 c62)] t)[x.toNat]? = some (.slice none 0 0)):=by
  have hx:=x.toNat_lt
  unfold bsr
  rw [List.getElem?_toArray,List.getElem?_append_left (by simpa using hx),List.getElem?_map,List.getElem?_range hx]
  simp only [Option.map_some]
  by_cases h1:x=38
  · subst h1; exact .inl ⟨a38,5,c38,_,by simp,rfl,rfl,rfl⟩
  by_cases h2:x=60
  · subst h2; exact .inl ⟨a60,4,c60,_,by simp,rfl,rfl,rfl⟩
  by_cases h3:x=62
  · subst h3; exact .inl ⟨a62,4,c62,_,by simp,rfl,rfl,rfl⟩
  by_cases h4:x=34
  · subst h4; exact .inl ⟨a34,6,c34,_,by simp,rfl,rfl,rfl⟩
  by_cases h5:x=39
  · subst h5; exact .inl ⟨a39,5,c39,_,by simp,rfl,rfl,rfl⟩
  refine .inr ⟨by simp [A8,h1,h2,h3,h4,h5],?_⟩
  have n1:x.toNat≠38:=fun h=>h1 (UInt8.toNat_inj.1 h)
  have n2:x.toNat≠60:=fun h=>h2 (UInt8.toNat_inj.1 h)
  have n3:x.toNat≠62:=fun h=>h3 (UInt8.toNat_inj.1 h)
  have n4:x.toNat≠34:=fun h=>h4 (UInt8.toNat_inj.1 h)
  have n5:x.toNat≠39:=fun h=>h5 (UInt8.toNat_inj.1 h)
  have e:∀ (k m:Nat),m≠k→(m==k)=false:=fun k m h=>beq_eq_false_iff_ne.2 h
  simp only [List.lookup,e _ _ n1,e _ _ n2,e _ _ n3,e _ _ n4,e _ _ n5,Option.getD_none]
end Go.Proofs.YtbnfbffiehoapaaGreatDoor
namespace Go.Proofs.YtbnfbffiehoapaaGreatDoor
open Go.Sw Go.Esc
theorem run_cnt {P:Program} (s:ByteArray) (k:Nat) (w:World):(Extern.BytealgCount.count #[.string s,.int .u8 (k:Int)]).run P w=.ok (.int .i64 (s.data.toList.count k.toUInt8:Int)) w:=by
  rw [Lib.run_countString]; rfl
theorem tab_row {a38 c38 a60 c60 a62 c62 a34 c34 a39 c39:Nat} {g38 g60 g62 g34 g39:Grp} (h:Rd (inG g38) (some ⟨a38,0,none⟩) (u8s (ByteArray.mk #[38,97,109,112,59]).data.toList)∧Rd (inG g60) (some ⟨a60,0,none⟩) (u8s (ByteArray.mk #[38,108,116,59]).data.toList)∧Rd (inG g62) (some ⟨a62,0,none⟩) (u8s (ByteArray.mk #[38,103,116,59]).data.toList)∧Rd (inG g34) (some ⟨a34,0,none⟩) (u8s (ByteArray.mk #[38,113,117,111,116,59]).data.toList)∧Rd (inG g39) (some ⟨a39,0,none⟩) (u8s (ByteArray.mk #[38,35,51,57,59]).data.toList)) {A L C:Nat} {u:List UInt8} (hm:(A,L,C,u)∈[(a38,5,c38,([38,97,109,112,59]:List UInt8)),(a60,4,c60,[38,108,116,59]),(a62,4,c62,[38,103,116,59]),(a34,6,c34,[38,113,117,111,116,59]),(a39,5,c39,[38,35,51,57,59])]) (W0:World) (X Y Z:Grp) (H:List Grp) :
    ∃ Q,Rd Q (some ⟨A,0,none⟩) (u8s u)∧∀ y o,Q y o→At W0 (X::Y::Z::([g38,g60,g62,g34,g39]++H)) y o:=by
  obtain ⟨h1,h2,h3,h4,h5⟩:=h
  have at5:∀ g,g∈[g38,g60,g62,g34,g39]→∀ y o,inG g y o→At W0 (X::Y::Z::([g38,g60,g62,g34,g39]++H)) y o:=fun g hg y o h=>At.mem (List.mem_cons_of_mem _ (List.mem_cons_of_mem _ (List.mem_cons_of_mem _ (List.mem_append_left H hg)))) h
  simp only [List.mem_cons,List.not_mem_nil,or_false,Prod.mk.injEq] at hm
  rcases hm with ⟨rfl,rfl,rfl,rfl⟩ | ⟨rfl,rfl,rfl,rfl⟩ | ⟨rfl,rfl,rfl,rfl⟩ | ⟨rfl,rfl,rfl,rfl⟩ | ⟨rfl,rfl,rfl,rfl⟩
  · exact ⟨_,h1,at5 _ (by simp)⟩
  · exact ⟨_,h2,at5 _ (by simp)⟩
  · exact ⟨_,h3,at5 _ (by simp)⟩
  · exact ⟨_,h4,at5 _ (by simp)⟩
  · exact ⟨_,h5,at5 _ (by simp)⟩
theorem I3 (l:List UInt8) {i:Nat} (h:i<l.length):l.take (i+1)=l.take i++[l.getD i 0]:=by
  rw [List.take_succ_eq_append_getElem h]; congr 2; simp [List.getD,h]
def anyR (l:List UInt8):Bool:=l.any fun b=>(A8 b).isSome
theorem anyR_snoc (l:List UInt8) (b:UInt8):anyR (l++[b])=(anyR l||(A8 b).isSome):=by simp [anyR]
theorem L4 (b:UInt8) {u:List UInt8} (h:A8 b=some u):C0 A8 [b]=u:=by simp [C0,h]
theorem J2 (b:UInt8) (h:A8 b=none):C0 A8 [b]=[b]:=by simp [C0,h]
theorem anyR_same (l:List UInt8) (h:anyR l=false):C0 A8 l=l:=by
  refine outR_same _ _ fun b hb=>?_
  unfold anyR at h
  rw [List.any_eq_false] at h
  have:=h b hb
  cases hr:A8 b with
  | none=>rfl
  | some u=>rw [hr] at this; exact absurd rfl this
theorem byteAt_getD (s:ByteArray) (i:Nat):A3 s (i:Int)=((s.data.toList.getD i 0).toNat:Int):=by unfold A3; rw [Int.toNat_natCast,List.getD_eq_getElem?_getD]
theorem outR_split (l:List UInt8) {i:Nat} (h:i<l.length):C0 A8 l=C0 A8 (l.take i)++(C0 A8 [l.getD i 0]++C0 A8 (l.drop (i+1))):=by
  rw [← K0,← K0,← List.append_assoc,← I3 l h,List.take_append_drop]
theorem u_pos {b:UInt8} {u:List UInt8} (h:A8 b=some u):4≤u.length∧u.length≤6:=by
  unfold A8 at h
  (repeat' split at h) <;> first | (injection h with h; subst h; exact ⟨by decide,by decide⟩) | cases h
theorem outR_le6 (l:List UInt8):l.length≤(C0 A8 l).length∧(C0 A8 l).length≤6 * l.length:=by
  induction l with
  | nil=>exact ⟨Nat.le_refl _,Nat.le_refl _⟩
  | cons b l ih =>
    rw [outR_cons,List.length_append,List.length_cons]
    have:1≤((A8 b).getD [b]).length∧((A8 b).getD [b]).length≤6:=by
      cases h:A8 b with
      | none=>exact ⟨Nat.le_refl _,by show 1≤6; decide⟩
      | some u=>have:=u_pos h; show 1≤u.length∧u.length≤6; omega
    omega
theorem cell_ix (s:ByteArray) (i:Nat):0+Int.toNat (A3 s (i:Int)) * 1=(s.data.toList.getD i 0).toNat:=by rw [byteAt_getD,Int.toNat_natCast]; omega
theorem row_rd {b:Nat} (l:List UInt8) (k:Nat):Rd (inG [(b,.cells (rowZ l k) 5 (0,0))]) (some ⟨b,0,none⟩) (rowZ l k).toList:=by
  have:Rd (inG [(b,.cells (rowZ l k).toList.toArray 5 (0,0))]) (some ⟨b,0,none⟩) (rowZ l k).toList:=Rd.lit
  rwa [Array.toArray_toList] at this
theorem u8s_one (u:List UInt8):((u8s u).all Value.oneCell')=true:=by
  rw [List.all_eq_true]; intro x hx; obtain ⟨b,_,rfl⟩:=List.mem_map.1 hx; rfl
theorem count_39 (s:ByteArray) (W0:World) (H:List Grp):Tri Tryz.prog 157 #[.string s,.string (ByteArray.mk #[39])] W0 H (fun v H'=>v=.int .i64 (s.data.toList.count 39:Int)∧H'=H):=by
 refine C2 (args:=[.string s,.string (ByteArray.mk #[39])]) (n:=34) Tryz.func157 rfl rfl (Nat.le_of_ble_eq_true rfl) ?_
 refine A1 (G_p [0] [0,1] (k:=?_))
 refine A0 (A1 ?_)
 refine A1 (G_p [0,0,0] [0,1,9] (k:=?_))
 refine A0 (D6 kr ?_)
 refine A7 (A0 ?_)
 refine A1 (A1 ?_)
 refine G_p [0,0,0] [0,1,15] (k:=A0 ?_)
 refine B9 kr (A1 ?_)
 refine A2 (A5 (j:=2) [0,0] (k:=?_))
 refine D8 (ch:=[]) (s:=(ByteArray.mk #[39])) (kd:=.i64) (j:=0) (hb:=(fun _=>by decide)) (k:=L2 (ch:=[]) (f:=159) (vs:=[.string s,.int .u8 39]) (v:=.int .i64 (s.data.toList.count 39:Int)) (e:=Extern.BytealgCount.count) (hf:=Tryz.func159) (hrun:=(fun w=>run_cnt s 39 w)) (k:=?_))
 refine A9 [0] [4] (k:=A0 ?_)
 refine B6 (A4 ?_)
 refine B2 [.tmp 4] [.int .i64 (s.data.toList.count 39:Int)] (k:=?_)
 exact ⟨rfl,rfl⟩
theorem count_34 (s:ByteArray) (W0:World) (H:List Grp):Tri Tryz.prog 157 #[.string s,.string (ByteArray.mk #[34])] W0 H (fun v H'=>v=.int .i64 (s.data.toList.count 34:Int)∧H'=H):=by
 refine C2 (args:=[.string s,.string (ByteArray.mk #[34])]) (n:=34) Tryz.func157 rfl rfl (Nat.le_of_ble_eq_true rfl) ?_
 refine A1 (G_p [0] [0,1] (k:=?_))
 refine A0 (A1 ?_)
 refine A1 (G_p [0,0,0] [0,1,9] (k:=?_))
 refine A0 (D6 kr ?_)
 refine A7 (A0 ?_)
 refine A1 (A1 ?_)
 refine G_p [0,0,0] [0,1,15] (k:=A0 ?_)
 refine B9 kr (A1 ?_)
 refine A2 (A5 (j:=2) [0,0] (k:=?_))
 refine D8 (ch:=[]) (s:=(ByteArray.mk #[34])) (kd:=.i64) (j:=0) (hb:=(fun _=>by decide)) (k:=L2 (ch:=[]) (f:=159) (vs:=[.string s,.int .u8 34]) (v:=.int .i64 (s.data.toList.count 34:Int)) (e:=Extern.BytealgCount.count) (hf:=Tryz.func159) (hrun:=(fun w=>run_cnt s 34 w)) (k:=?_))
 refine A9 [0] [4] (k:=A0 ?_)
 refine B6 (A4 ?_)
 refine B2 [.tmp 4] [.int .i64 (s.data.toList.count 34:Int)] (k:=?_)
 exact ⟨rfl,rfl⟩
theorem count_62 (s:ByteArray) (W0:World) (H:List Grp):Tri Tryz.prog 157 #[.string s,.string (ByteArray.mk #[62])] W0 H (fun v H'=>v=.int .i64 (s.data.toList.count 62:Int)∧H'=H):=by
 refine C2 (args:=[.string s,.string (ByteArray.mk #[62])]) (n:=34) Tryz.func157 rfl rfl (Nat.le_of_ble_eq_true rfl) ?_
 refine A1 (G_p [0] [0,1] (k:=?_))
 refine A0 (A1 ?_)
 refine A1 (G_p [0,0,0] [0,1,9] (k:=?_))
 refine A0 (D6 kr ?_)
 refine A7 (A0 ?_)
 refine A1 (A1 ?_)
 refine G_p [0,0,0] [0,1,15] (k:=A0 ?_)
 refine B9 kr (A1 ?_)
 refine A2 (A5 (j:=2) [0,0] (k:=?_))
 refine D8 (ch:=[]) (s:=(ByteArray.mk #[62])) (kd:=.i64) (j:=0) (hb:=(fun _=>by decide)) (k:=L2 (ch:=[]) (f:=159) (vs:=[.string s,.int .u8 62]) (v:=.int .i64 (s.data.toList.count 62:Int)) (e:=Extern.BytealgCount.count) (hf:=Tryz.func159) (hrun:=(fun w=>run_cnt s 62 w)) (k:=?_))
 refine A9 [0] [4] (k:=A0 ?_)
 refine B6 (A4 ?_)
 refine B2 [.tmp 4] [.int .i64 (s.data.toList.count 62:Int)] (k:=?_)
 exact ⟨rfl,rfl⟩
theorem count_60 (s:ByteArray) (W0:World) (H:List Grp):Tri Tryz.prog 157 #[.string s,.string (ByteArray.mk #[60])] W0 H (fun v H'=>v=.int .i64 (s.data.toList.count 60:Int)∧H'=H):=by
 refine C2 (args:=[.string s,.string (ByteArray.mk #[60])]) (n:=34) Tryz.func157 rfl rfl (Nat.le_of_ble_eq_true rfl) ?_
 refine A1 (G_p [0] [0,1] (k:=?_))
 refine A0 (A1 ?_)
 refine A1 (G_p [0,0,0] [0,1,9] (k:=?_))
 refine A0 (D6 kr ?_)
 refine A7 (A0 ?_)
 refine A1 (A1 ?_)
 refine G_p [0,0,0] [0,1,15] (k:=A0 ?_)
 refine B9 kr (A1 ?_)
 refine A2 (A5 (j:=2) [0,0] (k:=?_))
 refine D8 (ch:=[]) (s:=(ByteArray.mk #[60])) (kd:=.i64) (j:=0) (hb:=(fun _=>by decide)) (k:=L2 (ch:=[]) (f:=159) (vs:=[.string s,.int .u8 60]) (v:=.int .i64 (s.data.toList.count 60:Int)) (e:=Extern.BytealgCount.count) (hf:=Tryz.func159) (hrun:=(fun w=>run_cnt s 60 w)) (k:=?_))
 refine A9 [0] [4] (k:=A0 ?_)
 refine B6 (A4 ?_)
 refine B2 [.tmp 4] [.int .i64 (s.data.toList.count 60:Int)] (k:=?_)
 exact ⟨rfl,rfl⟩
theorem count_38 (s:ByteArray) (W0:World) (H:List Grp):Tri Tryz.prog 157 #[.string s,.string (ByteArray.mk #[38])] W0 H (fun v H'=>v=.int .i64 (s.data.toList.count 38:Int)∧H'=H):=by
 refine C2 (args:=[.string s,.string (ByteArray.mk #[38])]) (n:=34) Tryz.func157 rfl rfl (Nat.le_of_ble_eq_true rfl) ?_
 refine A1 (G_p [0] [0,1] (k:=?_))
 refine A0 (A1 ?_)
 refine A1 (G_p [0,0,0] [0,1,9] (k:=?_))
 refine A0 (D6 kr ?_)
 refine A7 (A0 ?_)
 refine A1 (A1 ?_)
 refine G_p [0,0,0] [0,1,15] (k:=A0 ?_)
 refine B9 kr (A1 ?_)
 refine A2 (A5 (j:=2) [0,0] (k:=?_))
 refine D8 (ch:=[]) (s:=(ByteArray.mk #[38])) (kd:=.i64) (j:=0) (hb:=(fun _=>by decide)) (k:=L2 (ch:=[]) (f:=159) (vs:=[.string s,.int .u8 38]) (v:=.int .i64 (s.data.toList.count 38:Int)) (e:=Extern.BytealgCount.count) (hf:=Tryz.func159) (hrun:=(fun w=>run_cnt s 38 w)) (k:=?_))
 refine A9 [0] [4] (k:=A0 ?_)
 refine B6 (A4 ?_)
 refine B2 [.tmp 4] [.int .i64 (s.data.toList.count 38:Int)] (k:=?_)
 exact ⟨rfl,rfl⟩
theorem tabReplace_ (c c38 c60 c62 c34 c39:Nat) (aT:Option Addr) (cT:Nat) (gT:Grp) (a38 a60 a62 a34 a39:Nat) (g38 g60 g62 g34 g39:Grp) (s:ByteArray) (hs:s.size≤2000000) (hT:Go.Sw.Own 9 1 (.slice aT 5 cT) gT 5 G7) (hR:Rd (inG g38) (some ⟨a38,0,none⟩) (u8s (ByteArray.mk #[38,97,109,112,59]).data.toList)∧Rd (inG g60) (some ⟨a60,0,none⟩) (u8s (ByteArray.mk #[38,108,116,59]).data.toList)∧Rd (inG g62) (some ⟨a62,0,none⟩) (u8s (ByteArray.mk #[38,103,116,59]).data.toList)∧Rd (inG g34) (some ⟨a34,0,none⟩) (u8s (ByteArray.mk #[38,113,117,111,116,59]).data.toList)∧Rd (inG g39) (some ⟨a39,0,none⟩) (u8s (ByteArray.mk #[38,35,51,57,59]).data.toList)) (W0:World) (H:List Grp):Tri Tryz.prog 155 #[pt c,.string s] W0 ([(c,.cells (bsr [(34,.slice (some ⟨a34,0,none⟩) 6 c34),(38,.slice (some ⟨a38,0,none⟩) 5 c38),(39,.slice (some ⟨a39,0,none⟩) 5 c39),(60,.slice (some ⟨a60,0,none⟩) 4 c60),(62,.slice (some ⟨a62,0,none⟩) 4 c62)] (.slice aT 5 cT)) 111 (0,0))]::gT::g38::g60::g62::g34::g39::H) (fun v H'=>v=.string ⟨(C0 A8 s.data.toList).toArray⟩∧H'=([(c,.cells (bsr [(34,.slice (some ⟨a34,0,none⟩) 6 c34),(38,.slice (some ⟨a38,0,none⟩) 5 c38),(39,.slice (some ⟨a39,0,none⟩) 5 c39),(60,.slice (some ⟨a60,0,none⟩) 4 c60),(62,.slice (some ⟨a62,0,none⟩) 4 c62)] (.slice aT 5 cT)) 111 (0,0))]::gT::g38::g60::g62::g34::g39::H)):=by
 have hrT:Rd (inG gT) aT G7:=by
  obtain ⟨a',c',he,_,hr⟩:=hT.shape
  injection he with h1 h2 h3; subst h1; exact hr
 have ho6:=outR_le6 s.data.toList
 rw [show s.data.toList.length=s.size from Array.length_toList] at ho6
 have hlen:s.data.toList.length=s.size:=Array.length_toList
 have hcnt38:=List.count_le_length (a:=(38:UInt8)) (l:=s.data.toList)
 have hcnt60:=List.count_le_length (a:=(60:UInt8)) (l:=s.data.toList)
 have hcnt62:=List.count_le_length (a:=(62:UInt8)) (l:=s.data.toList)
 have hcnt34:=List.count_le_length (a:=(34:UInt8)) (l:=s.data.toList)
 have hcnt39:=List.count_le_length (a:=(39:UInt8)) (l:=s.data.toList)
 refine C2 (args:=[pt c,.string s]) (n:=122) Tryz.func155 rfl rfl (Nat.le_of_ble_eq_true rfl) ?_
 refine A1 (B3 (E':=[⟨0,[],pt c⟩,⟨1,[],.string s⟩]) [0] [0,1] (k:=?_))
 refine A0 (A1 ?_)
 refine G_p [0,0,0] [0,1,5] (k:=A0 ?_)
 refine A1 (G_p [0] [0,1,5,6] (k:=?_))
 refine A0 (A1 ?_)
 refine A1 (A2 ?_)
 refine A5 (j:=3) [0,0,0] (k:=E0 (ch:=[]) (b:=c) (off:=256) (v:=.slice aT 5 cT) (hA:=At.grp 0 0 rfl rfl) (k:=?_))
 refine A9 [0,0,0,0,0] [0,1,5,6,26] (k:=A0 ?_)
 refine G_join (T:=Int × Bool) (fun ξ:Int × Bool=>[⟨0,[],pt c⟩,⟨1,[],.string s⟩,⟨5,[],.int .i64 ξ.1⟩,⟨6,[],.bool ξ.2⟩]) (fun ξ:Int × Bool=>([(c,.cells (bsr [(34,.slice (some ⟨a34,0,none⟩) 6 c34),(38,.slice (some ⟨a38,0,none⟩) 5 c38),(39,.slice (some ⟨a39,0,none⟩) 5 c39),(60,.slice (some ⟨a60,0,none⟩) 4 c60),(62,.slice (some ⟨a62,0,none⟩) 4 c62)] (.slice aT 5 cT)) 111 (0,0))]::gT::g38::g60::g62::g34::g39::H)) (fun ξ:Int × Bool=>(ξ.1=((C0 A8 s.data.toList).length:Int))∧(ξ.2=false→(C0 A8 s.data.toList)=s.data.toList)) ?_ ?_
 ·
  refine B1 (b:=decide (40≤(s.size:Int))) kr (fun hc1=>?_) (fun hc1=>?_)
  ·
   try simp only [decide_eq_true_eq] at hc1
   refine A1 (A2 ?_)
   refine A5 (j:=3) [0,0,0] (k:=E0 (ch:=[]) (b:=c) (off:=256) (v:=.slice aT 5 cT) (hA:=At.grp 0 0 rfl rfl) (k:=?_))
   refine A9 [0,0] [0,1,5,6,30,31,32] (k:=A0 ?_)
   refine B8 (M8 6 ?_)
   refine E4 (A1 ?_)
   refine G_p [0] [0,1,5,6,30,31,32,33] (k:=A0 ?_)
   refine A1 (B9 kr ?_)
   refine A7 (A0 ?_)
   refine A1 (B8 ?_)
   refine A1 (A2 ?_)
   refine C1 (ch:=[]) (a:=aT) (len:=5) (cap:=cT) (kd:=.i64) (j:=0) (e:=9) (sz:=1) (S:=(inG gT)) (cs:=G7) (hrd:=hrT) (hb:=(fun _=>by exact ⟨by decide,by decide,by intro h; cases h⟩)) (k:=E6 (ch:=[]) (a:=aT) (q:=0 * 1) (S:=(inG gT)) (cs:=G7) (v:=.string (ByteArray.mk #[39])) (hrd:=hrT) (hS:=C7 1 rfl) (hv:=(fun _=>rfl)) (k:=?_))
   refine B4 (E':=[⟨0,[],pt c⟩,⟨1,[],.string s⟩,⟨5,[],.int .i64 (s.size:Int)⟩,⟨6,[],.bool false⟩,⟨8,[],.string (ByteArray.mk #[39])⟩,⟨30,[],.slice aT 5 cT⟩,⟨31,[],.int .i64 5⟩,⟨32,[],.int .i64 0⟩]) [0] [0,1,5,6,8,30,31,32] (k:=A0 ?_)
   refine A1 (A2 ?_)
   refine A5 (j:=2) [0,0] (k:=I2 Tryz.func157 (count_39 s _ _) ?_)
   refine A9 [0] [0,1,5,6,8,9,30,31,32] (k:=A0 ?_)
   refine A1 (G_p [0,0] [0,1,5,6,8,9,30,31,32,40] (k:=?_))
   refine A0 (G_join (T:=Int × Bool) (fun ξ:Int × Bool=>[⟨0,[],pt c⟩,⟨1,[],.string s⟩,⟨5,[],.int .i64 ξ.1⟩,⟨6,[],.bool ξ.2⟩,⟨30,[],.slice aT 5 cT⟩,⟨31,[],.int .i64 5⟩,⟨32,[],.int .i64 0⟩]) (fun ξ:Int × Bool=>([(c,.cells (bsr [(34,.slice (some ⟨a34,0,none⟩) 6 c34),(38,.slice (some ⟨a38,0,none⟩) 5 c38),(39,.slice (some ⟨a39,0,none⟩) 5 c39),(60,.slice (some ⟨a60,0,none⟩) 4 c60),(62,.slice (some ⟨a62,0,none⟩) 4 c62)] (.slice aT 5 cT)) 111 (0,0))]::gT::g38::g60::g62::g34::g39::H)) (fun ξ:Int × Bool=>(ξ.1=(s.size:Int)+(s.data.toList.count 39:Int) * 4)∧(ξ.2=false→false=false∧s.data.toList.count 39=0)) ?_ ?_)
   ·
    refine B1 (b:=(s.data.toList.count 39:Int) != 0) kr (fun hc2=>?_) (fun hc2=>?_)
    ·
     try simp only [decide_eq_true_eq,decide_eq_false_iff_not] at hc2
     refine A1 (J4 (k:=?_))
     refine A5 (j:=4) [0,0,0,0] (k:=D8 (ch:=[]) (s:=(ByteArray.mk #[39])) (kd:=.i64) (j:=0) (hb:=(fun _=>by decide)) (k:=?_))
     refine A5 (j:=7) [0,0] (k:=D2 (ch:=[]) (b:=c) (off:=0) (len:=256) (sz:=1) (e:=37) (kd:=.u8) (j:=39) (hb:=(fun _=>⟨by decide,by decide⟩)) (k:=?_))
     refine E0 (ch:=[]) (b:=c) (off:=39) (v:=.slice (some ⟨a39,0,none⟩) 5 c39) (hA:=At.grp 0 0 rfl rfl) (k:=A5 (j:=12) [0,0,0] (k:=?_))
     refine D1 52 ((s.data.toList.count 39:Int) * 4) (by omega) (by omega) kr (A5 (j:=13) [0] (k:=?_))
     refine D1 53 ((s.size:Int)+((s.data.toList.count 39:Int) * 4)) (by omega) (by omega) kr (A9 [0] [0,1,5,30,31,32] (k:=?_))
     refine A0 (G_p [0] [0,1,5,6,30,31,32] (k:=?_))
     refine N_join ((s.size:Int)+((s.data.toList.count 39:Int) * 4),true) [0,1,5,6,30,31,32] kr (fun w h=>h) ⟨(by first | rfl | (simp only [bne_eq_false_iff_eq] at *; omega)),(by intro h; dsimp only at h; first | exact Bool.noConfusion h | (simp only [bne_eq_false_iff_eq] at *; exact ⟨h,by omega⟩))⟩
    ·
     try simp only [decide_eq_true_eq,decide_eq_false_iff_not] at hc2
     refine A7 (N_join ((s.size:Int),false) [0,1,5,6,30,31,32] kr (fun w h=>h) ⟨(by first | rfl | (simp only [bne_eq_false_iff_eq] at *; omega)),(by intro h; dsimp only at h; first | exact Bool.noConfusion h | (simp only [bne_eq_false_iff_eq] at *; exact ⟨h,by omega⟩))⟩)
   ·
    rintro ⟨n1,b1⟩ ⟨hn1,hb1⟩
    refine B7 (A0 ?_)
    refine G_p [0,0] [0,1,5,6,30,31,32] (k:=N_rd ?_)
    refine E4 (A1 ?_)
    refine G_p [0] [0,1,5,6,30,31,32,33] (k:=A0 ?_)
    refine A1 (B9 kr ?_)
    refine A7 (A0 ?_)
    refine A1 (B8 ?_)
    refine A1 (A2 ?_)
    refine C1 (ch:=[]) (a:=aT) (len:=5) (cap:=cT) (kd:=.i64) (j:=1) (e:=9) (sz:=1) (S:=(inG gT)) (cs:=G7) (hrd:=hrT) (hb:=(fun _=>by exact ⟨by decide,by decide,by intro h; cases h⟩)) (k:=E6 (ch:=[]) (a:=aT) (q:=1 * 1) (S:=(inG gT)) (cs:=G7) (v:=.string (ByteArray.mk #[34])) (hrd:=hrT) (hS:=C7 1 rfl) (hv:=(fun _=>rfl)) (k:=?_))
    refine A9 [0] [0,1,5,6,8,30,31,32] (k:=A0 ?_)
    refine A1 (A2 ?_)
    refine A5 (j:=2) [0,0] (k:=I2 Tryz.func157 (count_34 s _ _) ?_)
    refine A9 [0] [0,1,5,6,8,9,30,31,32] (k:=A0 ?_)
    refine A1 (G_p [0,0] [0,1,5,6,8,9,30,31,32,40] (k:=?_))
    refine A0 (G_join (T:=Int × Bool) (fun ξ:Int × Bool=>[⟨0,[],pt c⟩,⟨1,[],.string s⟩,⟨5,[],.int .i64 ξ.1⟩,⟨6,[],.bool ξ.2⟩,⟨30,[],.slice aT 5 cT⟩,⟨31,[],.int .i64 5⟩,⟨32,[],.int .i64 1⟩]) (fun ξ:Int × Bool=>([(c,.cells (bsr [(34,.slice (some ⟨a34,0,none⟩) 6 c34),(38,.slice (some ⟨a38,0,none⟩) 5 c38),(39,.slice (some ⟨a39,0,none⟩) 5 c39),(60,.slice (some ⟨a60,0,none⟩) 4 c60),(62,.slice (some ⟨a62,0,none⟩) 4 c62)] (.slice aT 5 cT)) 111 (0,0))]::gT::g38::g60::g62::g34::g39::H)) (fun ξ:Int × Bool=>(ξ.1=n1+(s.data.toList.count 34:Int) * 5)∧(ξ.2=false→b1=false∧s.data.toList.count 34=0)) ?_ ?_)
    ·
     refine B1 (b:=(s.data.toList.count 34:Int) != 0) kr (fun hc5=>?_) (fun hc5=>?_)
     ·
      try simp only [decide_eq_true_eq,decide_eq_false_iff_not] at hc5
      refine A1 (J4 (k:=?_))
      refine A5 (j:=4) [0,0,0,0] (k:=D8 (ch:=[]) (s:=(ByteArray.mk #[34])) (kd:=.i64) (j:=0) (hb:=(fun _=>by decide)) (k:=?_))
      refine A5 (j:=7) [0,0] (k:=D2 (ch:=[]) (b:=c) (off:=0) (len:=256) (sz:=1) (e:=37) (kd:=.u8) (j:=34) (hb:=(fun _=>⟨by decide,by decide⟩)) (k:=?_))
      refine E0 (ch:=[]) (b:=c) (off:=34) (v:=.slice (some ⟨a34,0,none⟩) 6 c34) (hA:=At.grp 0 0 rfl rfl) (k:=A5 (j:=12) [0,0,0] (k:=?_))
      refine D1 52 ((s.data.toList.count 34:Int) * 5) (by omega) (by omega) kr (A5 (j:=13) [0] (k:=?_))
      refine D1 53 (n1+((s.data.toList.count 34:Int) * 5)) (by omega) (by omega) kr (B4 (E':=[⟨0,[],pt c⟩,⟨1,[],.string s⟩,⟨5,[],.int .i64 (n1+((s.data.toList.count 34:Int) * 5))⟩,⟨30,[],.slice aT 5 cT⟩,⟨31,[],.int .i64 5⟩,⟨32,[],.int .i64 1⟩]) [0] [0,1,5,30,31,32] (k:=?_))
      refine A0 (G_p [0] [0,1,5,6,30,31,32] (k:=?_))
      refine N_join (n1+((s.data.toList.count 34:Int) * 5),true) [0,1,5,6,30,31,32] kr (fun w h=>h) ⟨(by first | rfl | (simp only [bne_eq_false_iff_eq] at *; omega)),(by intro h; dsimp only at h; first | exact Bool.noConfusion h | (simp only [bne_eq_false_iff_eq] at *; exact ⟨h,by omega⟩))⟩
     ·
      try simp only [decide_eq_true_eq,decide_eq_false_iff_not] at hc5
      refine A7 (N_join (n1,b1) [0,1,5,6,30,31,32] kr (fun w h=>h) ⟨(by first | rfl | (simp only [bne_eq_false_iff_eq] at *; omega)),(by intro h; dsimp only at h; first | exact Bool.noConfusion h | (simp only [bne_eq_false_iff_eq] at *; exact ⟨h,by omega⟩))⟩)
    ·
     rintro ⟨n2,b2⟩ ⟨hn2,hb2⟩
     refine B7 (A0 ?_)
     refine G_p [0,0] [0,1,5,6,30,31,32] (k:=N_rd ?_)
     refine E4 (A1 ?_)
     refine G_p [0] [0,1,5,6,30,31,32,33] (k:=A0 ?_)
     refine A1 (B9 kr ?_)
     refine A7 (A0 ?_)
     refine A1 (B8 ?_)
     refine A1 (A2 ?_)
     refine C1 (ch:=[]) (a:=aT) (len:=5) (cap:=cT) (kd:=.i64) (j:=2) (e:=9) (sz:=1) (S:=(inG gT)) (cs:=G7) (hrd:=hrT) (hb:=(fun _=>by exact ⟨by decide,by decide,by intro h; cases h⟩)) (k:=E6 (ch:=[]) (a:=aT) (q:=2 * 1) (S:=(inG gT)) (cs:=G7) (v:=.string (ByteArray.mk #[62])) (hrd:=hrT) (hS:=C7 1 rfl) (hv:=(fun _=>rfl)) (k:=?_))
     refine A9 [0] [0,1,5,6,8,30,31,32] (k:=A0 ?_)
     refine A1 (A2 ?_)
     refine A5 (j:=2) [0,0] (k:=I2 Tryz.func157 (count_62 s _ _) ?_)
     refine A9 [0] [0,1,5,6,8,9,30,31,32] (k:=A0 ?_)
     refine A1 (G_p [0,0] [0,1,5,6,8,9,30,31,32,40] (k:=?_))
     refine A0 (G_join (T:=Int × Bool) (fun ξ:Int × Bool=>[⟨0,[],pt c⟩,⟨1,[],.string s⟩,⟨5,[],.int .i64 ξ.1⟩,⟨6,[],.bool ξ.2⟩,⟨30,[],.slice aT 5 cT⟩,⟨31,[],.int .i64 5⟩,⟨32,[],.int .i64 2⟩]) (fun ξ:Int × Bool=>([(c,.cells (bsr [(34,.slice (some ⟨a34,0,none⟩) 6 c34),(38,.slice (some ⟨a38,0,none⟩) 5 c38),(39,.slice (some ⟨a39,0,none⟩) 5 c39),(60,.slice (some ⟨a60,0,none⟩) 4 c60),(62,.slice (some ⟨a62,0,none⟩) 4 c62)] (.slice aT 5 cT)) 111 (0,0))]::gT::g38::g60::g62::g34::g39::H)) (fun ξ:Int × Bool=>(ξ.1=n2+(s.data.toList.count 62:Int) * 3)∧(ξ.2=false→b2=false∧s.data.toList.count 62=0)) ?_ ?_)
     ·
      refine B1 (b:=(s.data.toList.count 62:Int) != 0) kr (fun hc8=>?_) (fun hc8=>?_)
      ·
       try simp only [decide_eq_true_eq,decide_eq_false_iff_not] at hc8
       refine A1 (J4 (k:=?_))
       refine A5 (j:=4) [0,0,0,0] (k:=D8 (ch:=[]) (s:=(ByteArray.mk #[62])) (kd:=.i64) (j:=0) (hb:=(fun _=>by decide)) (k:=?_))
       refine A5 (j:=7) [0,0] (k:=D2 (ch:=[]) (b:=c) (off:=0) (len:=256) (sz:=1) (e:=37) (kd:=.u8) (j:=62) (hb:=(fun _=>⟨by decide,by decide⟩)) (k:=?_))
       refine E0 (ch:=[]) (b:=c) (off:=62) (v:=.slice (some ⟨a62,0,none⟩) 4 c62) (hA:=At.grp 0 0 rfl rfl) (k:=A5 (j:=12) [0,0,0] (k:=?_))
       refine D1 52 ((s.data.toList.count 62:Int) * 3) (by omega) (by omega) kr (A5 (j:=13) [0] (k:=?_))
       refine D1 53 (n2+((s.data.toList.count 62:Int) * 3)) (by omega) (by omega) kr (B4 (E':=[⟨0,[],pt c⟩,⟨1,[],.string s⟩,⟨5,[],.int .i64 (n2+((s.data.toList.count 62:Int) * 3))⟩,⟨30,[],.slice aT 5 cT⟩,⟨31,[],.int .i64 5⟩,⟨32,[],.int .i64 2⟩]) [0] [0,1,5,30,31,32] (k:=?_))
       refine A0 (G_p [0] [0,1,5,6,30,31,32] (k:=?_))
       refine N_join (n2+((s.data.toList.count 62:Int) * 3),true) [0,1,5,6,30,31,32] kr (fun w h=>h) ⟨(by first | rfl | (simp only [bne_eq_false_iff_eq] at *; omega)),(by intro h; dsimp only at h; first | exact Bool.noConfusion h | (simp only [bne_eq_false_iff_eq] at *; exact ⟨h,by omega⟩))⟩
      ·
       try simp only [decide_eq_true_eq,decide_eq_false_iff_not] at hc8
       refine A7 (N_join (n2,b2) [0,1,5,6,30,31,32] kr (fun w h=>h) ⟨(by first | rfl | (simp only [bne_eq_false_iff_eq] at *; omega)),(by intro h; dsimp only at h; first | exact Bool.noConfusion h | (simp only [bne_eq_false_iff_eq] at *; exact ⟨h,by omega⟩))⟩)
     ·
      rintro ⟨n3,b3⟩ ⟨hn3,hb3⟩
      refine B7 (A0 ?_)
      refine G_p [0,0] [0,1,5,6,30,31,32] (k:=N_rd ?_)
      refine E4 (A1 ?_)
      refine G_p [0] [0,1,5,6,30,31,32,33] (k:=A0 ?_)
      refine A1 (B9 kr ?_)
      refine A7 (A0 ?_)
      refine A1 (B8 ?_)
      refine A1 (A2 ?_)
      refine C1 (ch:=[]) (a:=aT) (len:=5) (cap:=cT) (kd:=.i64) (j:=3) (e:=9) (sz:=1) (S:=(inG gT)) (cs:=G7) (hrd:=hrT) (hb:=(fun _=>by exact ⟨by decide,by decide,by intro h; cases h⟩)) (k:=E6 (ch:=[]) (a:=aT) (q:=3 * 1) (S:=(inG gT)) (cs:=G7) (v:=.string (ByteArray.mk #[60])) (hrd:=hrT) (hS:=C7 1 rfl) (hv:=(fun _=>rfl)) (k:=?_))
      refine A9 [0] [0,1,5,6,8,30,31,32] (k:=A0 ?_)
      refine A1 (A2 ?_)
      refine A5 (j:=2) [0,0] (k:=I2 Tryz.func157 (count_60 s _ _) ?_)
      refine A9 [0] [0,1,5,6,8,9,30,31,32] (k:=A0 ?_)
      refine A1 (G_p [0,0] [0,1,5,6,8,9,30,31,32,40] (k:=?_))
      refine A0 (G_join (T:=Int × Bool) (fun ξ:Int × Bool=>[⟨0,[],pt c⟩,⟨1,[],.string s⟩,⟨5,[],.int .i64 ξ.1⟩,⟨6,[],.bool ξ.2⟩,⟨30,[],.slice aT 5 cT⟩,⟨31,[],.int .i64 5⟩,⟨32,[],.int .i64 3⟩]) (fun ξ:Int × Bool=>([(c,.cells (bsr [(34,.slice (some ⟨a34,0,none⟩) 6 c34),(38,.slice (some ⟨a38,0,none⟩) 5 c38),(39,.slice (some ⟨a39,0,none⟩) 5 c39),(60,.slice (some ⟨a60,0,none⟩) 4 c60),(62,.slice (some ⟨a62,0,none⟩) 4 c62)] (.slice aT 5 cT)) 111 (0,0))]::gT::g38::g60::g62::g34::g39::H)) (fun ξ:Int × Bool=>(ξ.1=n3+(s.data.toList.count 60:Int) * 3)∧(ξ.2=false→b3=false∧s.data.toList.count 60=0)) ?_ ?_)
      ·
       refine B1 (b:=(s.data.toList.count 60:Int) != 0) kr (fun hc11=>?_) (fun hc11=>?_)
       ·
        try simp only [decide_eq_true_eq,decide_eq_false_iff_not] at hc11
        refine A1 (J4 (k:=?_))
        refine A5 (j:=4) [0,0,0,0] (k:=D8 (ch:=[]) (s:=(ByteArray.mk #[60])) (kd:=.i64) (j:=0) (hb:=(fun _=>by decide)) (k:=?_))
        refine A5 (j:=7) [0,0] (k:=D2 (ch:=[]) (b:=c) (off:=0) (len:=256) (sz:=1) (e:=37) (kd:=.u8) (j:=60) (hb:=(fun _=>⟨by decide,by decide⟩)) (k:=?_))
        refine E0 (ch:=[]) (b:=c) (off:=60) (v:=.slice (some ⟨a60,0,none⟩) 4 c60) (hA:=At.grp 0 0 rfl rfl) (k:=A5 (j:=12) [0,0,0] (k:=?_))
        refine D1 52 ((s.data.toList.count 60:Int) * 3) (by omega) (by omega) kr (A5 (j:=13) [0] (k:=?_))
        refine D1 53 (n3+((s.data.toList.count 60:Int) * 3)) (by omega) (by omega) kr (B4 (E':=[⟨0,[],pt c⟩,⟨1,[],.string s⟩,⟨5,[],.int .i64 (n3+((s.data.toList.count 60:Int) * 3))⟩,⟨30,[],.slice aT 5 cT⟩,⟨31,[],.int .i64 5⟩,⟨32,[],.int .i64 3⟩]) [0] [0,1,5,30,31,32] (k:=?_))
        refine A0 (G_p [0] [0,1,5,6,30,31,32] (k:=?_))
        refine N_join (n3+((s.data.toList.count 60:Int) * 3),true) [0,1,5,6,30,31,32] kr (fun w h=>h) ⟨(by first | rfl | (simp only [bne_eq_false_iff_eq] at *; omega)),(by intro h; dsimp only at h; first | exact Bool.noConfusion h | (simp only [bne_eq_false_iff_eq] at *; exact ⟨h,by omega⟩))⟩
       ·
        try simp only [decide_eq_true_eq,decide_eq_false_iff_not] at hc11
        refine A7 (N_join (n3,b3) [0,1,5,6,30,31,32] kr (fun w h=>h) ⟨(by first | rfl | (simp only [bne_eq_false_iff_eq] at *; omega)),(by intro h; dsimp only at h; first | exact Bool.noConfusion h | (simp only [bne_eq_false_iff_eq] at *; exact ⟨h,by omega⟩))⟩)
      ·
       rintro ⟨n4,b4⟩ ⟨hn4,hb4⟩
       refine B7 (A0 ?_)
       refine G_p [0,0] [0,1,5,6,30,31,32] (k:=N_rd ?_)
       refine E4 (A1 ?_)
       refine G_p [0] [0,1,5,6,30,31,32,33] (k:=A0 ?_)
       refine A1 (B9 kr ?_)
       refine A7 (A0 ?_)
       refine A1 (B8 ?_)
       refine A1 (A2 ?_)
       refine C1 (ch:=[]) (a:=aT) (len:=5) (cap:=cT) (kd:=.i64) (j:=4) (e:=9) (sz:=1) (S:=(inG gT)) (cs:=G7) (hrd:=hrT) (hb:=(fun _=>by exact ⟨by decide,by decide,by intro h; cases h⟩)) (k:=E6 (ch:=[]) (a:=aT) (q:=4 * 1) (S:=(inG gT)) (cs:=G7) (v:=.string (ByteArray.mk #[38])) (hrd:=hrT) (hS:=C7 1 rfl) (hv:=(fun _=>rfl)) (k:=?_))
       refine A9 [0] [0,1,5,6,8,30,31,32] (k:=A0 ?_)
       refine A1 (A2 ?_)
       refine A5 (j:=2) [0,0] (k:=I2 Tryz.func157 (count_38 s _ _) ?_)
       refine A9 [0] [0,1,5,6,8,9,30,31,32] (k:=A0 ?_)
       refine A1 (G_p [0,0] [0,1,5,6,8,9,30,31,32,40] (k:=?_))
       refine A0 (G_join (T:=Int × Bool) (fun ξ:Int × Bool=>[⟨0,[],pt c⟩,⟨1,[],.string s⟩,⟨5,[],.int .i64 ξ.1⟩,⟨6,[],.bool ξ.2⟩,⟨30,[],.slice aT 5 cT⟩,⟨31,[],.int .i64 5⟩,⟨32,[],.int .i64 4⟩]) (fun ξ:Int × Bool=>([(c,.cells (bsr [(34,.slice (some ⟨a34,0,none⟩) 6 c34),(38,.slice (some ⟨a38,0,none⟩) 5 c38),(39,.slice (some ⟨a39,0,none⟩) 5 c39),(60,.slice (some ⟨a60,0,none⟩) 4 c60),(62,.slice (some ⟨a62,0,none⟩) 4 c62)] (.slice aT 5 cT)) 111 (0,0))]::gT::g38::g60::g62::g34::g39::H)) (fun ξ:Int × Bool=>(ξ.1=n4+(s.data.toList.count 38:Int) * 4)∧(ξ.2=false→b4=false∧s.data.toList.count 38=0)) ?_ ?_)
       ·
        refine B1 (b:=(s.data.toList.count 38:Int) != 0) kr (fun hc14=>?_) (fun hc14=>?_)
        ·
         try simp only [decide_eq_true_eq,decide_eq_false_iff_not] at hc14
         refine A1 (J4 (k:=?_))
         refine A5 (j:=4) [0,0,0,0] (k:=D8 (ch:=[]) (s:=(ByteArray.mk #[38])) (kd:=.i64) (j:=0) (hb:=(fun _=>by decide)) (k:=?_))
         refine A5 (j:=7) [0,0] (k:=D2 (ch:=[]) (b:=c) (off:=0) (len:=256) (sz:=1) (e:=37) (kd:=.u8) (j:=38) (hb:=(fun _=>⟨by decide,by decide⟩)) (k:=?_))
         refine E0 (ch:=[]) (b:=c) (off:=38) (v:=.slice (some ⟨a38,0,none⟩) 5 c38) (hA:=At.grp 0 0 rfl rfl) (k:=A5 (j:=12) [0,0,0] (k:=?_))
         refine D1 52 ((s.data.toList.count 38:Int) * 4) (by omega) (by omega) kr (A5 (j:=13) [0] (k:=?_))
         refine D1 53 (n4+((s.data.toList.count 38:Int) * 4)) (by omega) (by omega) kr (B4 (E':=[⟨0,[],pt c⟩,⟨1,[],.string s⟩,⟨5,[],.int .i64 (n4+((s.data.toList.count 38:Int) * 4))⟩,⟨30,[],.slice aT 5 cT⟩,⟨31,[],.int .i64 5⟩,⟨32,[],.int .i64 4⟩]) [0] [0,1,5,30,31,32] (k:=?_))
         refine A0 (G_p [0] [0,1,5,6,30,31,32] (k:=?_))
         refine N_join (n4+((s.data.toList.count 38:Int) * 4),true) [0,1,5,6,30,31,32] kr (fun w h=>h) ⟨(by first | rfl | (simp only [bne_eq_false_iff_eq] at *; omega)),(by intro h; dsimp only at h; first | exact Bool.noConfusion h | (simp only [bne_eq_false_iff_eq] at *; exact ⟨h,by omega⟩))⟩
        ·
         try simp only [decide_eq_true_eq,decide_eq_false_iff_not] at hc14
         refine A7 (N_join (n4,b4) [0,1,5,6,30,31,32] kr (fun w h=>h) ⟨(by first | rfl | (simp only [bne_eq_false_iff_eq] at *; omega)),(by intro h; dsimp only at h; first | exact Bool.noConfusion h | (simp only [bne_eq_false_iff_eq] at *; exact ⟨h,by omega⟩))⟩)
       ·
        rintro ⟨n5,b5⟩ ⟨hn5,hb5⟩
        refine B7 (A0 ?_)
        refine G_p [0,0] [0,1,5,6,30,31,32] (k:=N_rd ?_)
        refine E4 (A1 ?_)
        refine G_p [0] [0,1,5,6,30,31,32,33] (k:=A0 ?_)
        refine A1 (D6 kr ?_)
        refine G8 (B5 ?_)
        refine B5 (C9 ?_)
        refine N_join (n5,b5) [0,1,5,6] kr (fun w h=>h) ⟨(by rw [htmlR_count,show s.data.toList.length=s.size from Array.length_toList]; omega),(by intro h; obtain ⟨h1,h2⟩:=hb5 h; obtain ⟨h3,h4⟩:=hb4 h1; obtain ⟨h5,h6⟩:=hb3 h3; obtain ⟨h7,h8⟩:=hb2 h5; obtain ⟨_,h10⟩:=hb1 h7; exact htmlR_same _ h10 h8 h6 h4 h2)⟩
  ·
   try simp only [decide_eq_false_iff_not] at hc1
   refine A1 (G_p [0] [0,1,5,6,10] (k:=?_))
   refine A0 (B8 ?_)
   refine M2 (EI:=(fun ξ:Nat × Int × Bool=>[⟨0,[],pt c⟩,⟨1,[],.string s⟩,⟨5,[],.int .i64 ξ.2.1⟩,⟨6,[],.bool ξ.2.2⟩,⟨10,[],.int .i64 (ξ.1:Int)⟩])) (HI:=(fun ξ:Nat × Int × Bool=>([(c,.cells (bsr [(34,.slice (some ⟨a34,0,none⟩) 6 c34),(38,.slice (some ⟨a38,0,none⟩) 5 c38),(39,.slice (some ⟨a39,0,none⟩) 5 c39),(60,.slice (some ⟨a60,0,none⟩) 4 c60),(62,.slice (some ⟨a62,0,none⟩) 4 c62)] (.slice aT 5 cT)) 111 (0,0))]::gT::g38::g60::g62::g34::g39::H))) (Φ:=(fun ξ:Nat × Int × Bool=>(ξ.1≤s.size)∧(ξ.2.1=((C0 A8 (s.data.toList.take ξ.1)).length:Int)+s.size - ξ.1)∧(ξ.2.2=anyR (s.data.toList.take ξ.1)))) (μ:=(fun ξ:Nat × Int × Bool=>s.size - ξ.1)) (s0:=(0,(s.size:Int),false)) [0,1,5,6,10] kr rfl ⟨(by omega),(by dsimp only; simp [outR_nil]),rfl⟩ ?_
   rintro ⟨i,ns,ac⟩ ⟨hi,hns,hac⟩
   dsimp only at hi hns hac
   have hto:=outR_le6 (s.data.toList.take i)
   rw [List.length_take,hlen,Nat.min_eq_left hi] at hto
   refine A1 (A1 ?_)
   refine G_p [0,0,0,0] [0,1,5,6,10,58] (k:=A0 ?_)
   refine B1 (b:=decide ((i:Int)<(s.size:Int))) kr (fun hc17=>?_) (fun hc17=>?_)
   ·
    try simp only [decide_eq_true_eq] at hc17
    refine A7 (A0 ?_)
    refine A1 (B8 ?_)
    refine A1 (A2 ?_)
    refine A5 (j:=2) [0,0] (k:=D8 (ch:=[]) (s:=s) (kd:=.i64) (j:=(i:Int)) (hb:=(fun _=>by omega)) (k:=?_))
    have hb18:=D4 s (i:Int)
    refine A9 [0] [0,1,5,6,10,11] (k:=A0 ?_)
    refine A1 (A2 ?_)
    refine A5 (j:=4) [0,0,0,0] (k:=D2 (ch:=[]) (b:=c) (off:=0) (len:=256) (sz:=1) (e:=37) (kd:=.u8) (j:=A3 s (i:Int)) (hb:=(fun _=>by have hbx:=D4 s (i:Int); exact ⟨by omega,by omega⟩)) (k:=?_))
    rcases tab_case (.slice aT 5 cT) a38 a60 a62 a34 a39 c38 c60 c62 c34 c39 (s.data.toList.getD i 0) with ⟨A,L,C,u,hmem,hu,hL,hcell⟩ | ⟨hu,hcell⟩
    ·
     have hu4:=u_pos hu
     have hsp:=congrArg List.length (outR_split s.data.toList (show i<s.data.toList.length by omega))
     rw [L4 _ hu] at hsp
     simp only [List.length_append] at hsp
     refine E0 (ch:=[]) (b:=c) (off:=0+Int.toNat (A3 s (i:Int)) * 1) (v:=.slice (some ⟨A,0,none⟩) L C) (hA:=At.grp 0 0 rfl rfl) (hv:=(by rw [cell_ix]; exact hcell)) (k:=A9 [0] [0,1,5,6,10,11,70] (k:=?_))
     refine A0 (B9 kr ?_)
     refine A1 (A2 ?_)
     refine A5 (j:=5) [0,0,0,0,0] (k:=D2 (ch:=[]) (b:=c) (off:=0) (len:=256) (sz:=1) (e:=37) (kd:=.u8) (j:=A3 s (i:Int)) (hb:=(fun _=>by have hbx:=D4 s (i:Int); exact ⟨by omega,by omega⟩)) (k:=?_))
     refine E0 (ch:=[]) (b:=c) (off:=0+Int.toNat (A3 s (i:Int)) * 1) (v:=.slice (some ⟨A,0,none⟩) L C) (hA:=At.grp 0 0 rfl rfl) (hv:=(by rw [cell_ix]; exact hcell)) (k:=A5 (j:=9) [0,0] (k:=?_))
     refine D1 79 (((L:Nat):Int) - 1) (by omega) (by omega) kr (A5 (j:=10) [0] (k:=?_))
     refine D1 80 (ns+(((L:Nat):Int) - 1)) (by omega) (by omega) kr (A9 [0] [0,1,5,10] (k:=?_))
     refine A0 (G_p [0] [0,1,5,6,10] (k:=?_))
     refine B7 (A0 ?_)
     refine A2 (A5 (j:=2) [0,0] (k:=?_))
     refine D1 60 ((i:Int)+1) (by omega) (by omega) kr (B4 (E':=[⟨0,[],pt c⟩,⟨1,[],.string s⟩,⟨5,[],.int .i64 (ns+(((L:Nat):Int) - 1))⟩,⟨6,[],.bool true⟩,⟨10,[],.int .i64 ((i:Int)+1)⟩]) [0] [0,1,5,6,10] (k:=?_))
     refine E9 (s':=(i+1,ns+(((L:Nat):Int) - 1),true)) [0,1,5,6,10] kr rfl ⟨(by omega),(by dsimp only; rw [I3 _ (show i<s.data.toList.length by omega),K0,List.length_append]; first | (rw [L4 _ hu]; omega) | (rw [J2 _ hu]; simp only [List.length_cons,List.length_nil]; omega)),(by dsimp only; rw [I3 _ (show i<s.data.toList.length by omega),anyR_snoc,hu]; simp [])⟩ (by omega)
    ·
     have hsp:=congrArg List.length (outR_split s.data.toList (show i<s.data.toList.length by omega))
     rw [J2 _ hu] at hsp
     simp only [List.length_append,List.length_cons,List.length_nil] at hsp
     refine E0 (ch:=[]) (b:=c) (off:=0+Int.toNat (A3 s (i:Int)) * 1) (v:=.slice none 0 0) (hA:=At.grp 0 0 rfl rfl) (hv:=(by rw [cell_ix]; exact hcell)) (k:=A9 [0] [0,1,5,6,10,11,70] (k:=?_))
     refine A0 (D6 kr ?_)
     refine A7 (B7 ?_)
     refine A0 (A2 ?_)
     refine A5 (j:=2) [0,0] (k:=D1 60 ((i:Int)+1) (by omega) (by omega) kr ?_)
     refine A9 [0] [0,1,5,6,10] (k:=E9 (s':=(i+1,ns,ac)) [0,1,5,6,10] kr rfl ⟨(by omega),(by dsimp only; rw [I3 _ (show i<s.data.toList.length by omega),K0,List.length_append]; first | (rw [L4 _ hu]; omega) | (rw [J2 _ hu]; simp only [List.length_cons,List.length_nil]; omega)),(by dsimp only; rw [I3 _ (show i<s.data.toList.length by omega),anyR_snoc,hu]; simp [hac])⟩ (by omega))
   ·
    try simp only [decide_eq_false_iff_not] at hc17
    refine G8 (B5 ?_)
    refine B5 (C9 ?_)
    refine N_join (ns,ac) [0,1,5,6] kr (fun w h=>h) ⟨(by rw [show i=s.data.toList.length by rw [show s.data.toList.length=s.size from Array.length_toList]; omega] at hns; rw [List.take_length] at hns; omega),(by intro h; rw [show i=s.data.toList.length by rw [show s.data.toList.length=s.size from Array.length_toList]; omega] at hac; rw [List.take_length] at hac; exact anyR_same _ (by rw [← hac]; exact h))⟩
 ·
  rintro ⟨ns,ac⟩ ⟨hN,hA⟩
  dsimp only at hN hA
  refine N_env (E':=[⟨0,[],pt c⟩,⟨1,[],.string s⟩,⟨5,[],.int .i64 ((C0 A8 s.data.toList).length:Int)⟩,⟨6,[],.bool ac⟩]) (by dsimp only; rw [hN]) (A0 ?_)
  refine A1 (A1 ?_)
  refine G_p [0,0] [0,1,5,82] (k:=A0 ?_)
  refine B1 (b:=!ac) kr (fun hc23=>?_) (fun hc23=>?_)
  ·
   try simp only [decide_eq_true_eq,decide_eq_false_iff_not] at hc23
   refine A1 (B3 (E':=[⟨4,[],.string s⟩]) [0,0] [4] (k:=?_))
   refine A0 (B6 ?_)
   refine A4 (B2 [.tmp 4] [.string s] (k:=?_))
   exact ⟨congrArg Value.string (by rw [hA (by first | assumption | simp_all)]),rfl⟩
  ·
   try simp only [decide_eq_true_eq,decide_eq_false_iff_not] at hc23
   refine A7 (A0 ?_)
   refine A1 (A2 ?_)
   refine A5 (j:=1) [0] (k:=GL_makeS (i:=1) (ch:=[]) (t:=37) (e:=5) (inf:=Tryz.t5) (l:=(C0 A8 s.data.toList).length) (c:=(rowZ [] (C0 A8 s.data.toList).length).toList) rfl rfl kr kr kr kr rfl (by show (1:Int) * _≤_; omega) (by omega) (by show (C0 A8 s.data.toList).length * 1≤16777216; omega) (by rw [Array.toArray_toList]; exact madeZ _) kr kr kr (fun B=>?_))
   refine A9 [0] [0,1,12] (k:=A0 ?_)
   refine A1 (G_p [0] [0,1,12,13] (k:=?_))
   refine A0 (A1 ?_)
   refine A1 (G_p [0] [0,1,12,13,14] (k:=?_))
   refine A0 (B8 ?_)
   refine G_heap (H':=([(B,.cells (rowZ [] ((C0 A8 s.data.toList).length)) 5 (0,0))]::[(c,.cells (bsr [(34,.slice (some ⟨a34,0,none⟩) 6 c34),(38,.slice (some ⟨a38,0,none⟩) 5 c38),(39,.slice (some ⟨a39,0,none⟩) 5 c39),(60,.slice (some ⟨a60,0,none⟩) 4 c60),(62,.slice (some ⟨a62,0,none⟩) 4 c62)] (.slice aT 5 cT)) 111 (0,0))]::gT::g38::g60::g62::g34::g39::H)) (fun w h=>by rw [Array.toArray_toList] at h; exact h) (M2 (EI:=(fun ξ:Nat × Nat=>[⟨0,[],pt c⟩,⟨1,[],.string s⟩,⟨12,[],.slice (some ⟨B,0,none⟩) ((C0 A8 s.data.toList).length) ((C0 A8 s.data.toList).length)⟩,⟨13,[],.int .i64 ((C0 A8 (s.data.toList.take ξ.1)).length:Int)⟩,⟨14,[],.int .i64 (ξ.1:Int)⟩])) (HI:=(fun ξ:Nat × Nat=>([(B,.cells (rowZ (C0 A8 (s.data.toList.take ξ.1)) (ξ.2)) 5 (0,0))]::[(c,.cells (bsr [(34,.slice (some ⟨a34,0,none⟩) 6 c34),(38,.slice (some ⟨a38,0,none⟩) 5 c38),(39,.slice (some ⟨a39,0,none⟩) 5 c39),(60,.slice (some ⟨a60,0,none⟩) 4 c60),(62,.slice (some ⟨a62,0,none⟩) 4 c62)] (.slice aT 5 cT)) 111 (0,0))]::gT::g38::g60::g62::g34::g39::H))) (Φ:=(fun ξ:Nat × Nat=>(ξ.1≤s.size)∧(ξ.2+(C0 A8 (s.data.toList.take ξ.1)).length=(C0 A8 s.data.toList).length))) (μ:=(fun ξ:Nat × Nat=>s.size - ξ.1)) (s0:=(0,(C0 A8 s.data.toList).length)) [0,1,12,13,14] kr rfl ⟨(by omega),(by simp [outR_nil])⟩ ?_)
   rintro ⟨i,k⟩ ⟨hi,hk⟩
   dsimp only at hi hk
   have hto:=outR_le6 (s.data.toList.take i)
   rw [List.length_take,hlen,Nat.min_eq_left hi] at hto
   have hto2:=outR_le6 (s.data.toList.drop (i+1))
   refine A1 (A1 ?_)
   refine G_p [0,0,0,0] [0,1,12,13,14,89] (k:=A0 ?_)
   refine B1 (b:=decide ((i:Int)<(s.size:Int))) kr (fun hc24=>?_) (fun hc24=>?_)
   ·
    try simp only [decide_eq_true_eq] at hc24
    refine A7 (A0 ?_)
    refine A1 (B8 ?_)
    refine A1 (A2 ?_)
    refine A5 (j:=2) [0,0] (k:=D8 (ch:=[]) (s:=s) (kd:=.i64) (j:=(i:Int)) (hb:=(fun _=>by omega)) (k:=?_))
    have hb25:=D4 s (i:Int)
    refine A9 [0] [0,1,12,13,14,15] (k:=A0 ?_)
    refine A1 (A2 ?_)
    refine A5 (j:=4) [0,0,0,0] (k:=D2 (ch:=[]) (b:=c) (off:=0) (len:=256) (sz:=1) (e:=37) (kd:=.u8) (j:=A3 s (i:Int)) (hb:=(fun _=>by have hbx:=D4 s (i:Int); exact ⟨by omega,by omega⟩)) (k:=?_))
    rcases tab_case (.slice aT 5 cT) a38 a60 a62 a34 a39 c38 c60 c62 c34 c39 (s.data.toList.getD i 0) with ⟨A,L,C,u,hmem,hu,hL,hcell⟩ | ⟨hu,hcell⟩
    ·
     have hu4:=u_pos hu
     have hsp:=congrArg List.length (outR_split s.data.toList (show i<s.data.toList.length by omega))
     rw [L4 _ hu] at hsp
     simp only [List.length_append] at hsp
     refine E0 (ch:=[]) (b:=c) (off:=0+Int.toNat (A3 s (i:Int)) * 1) (v:=.slice (some ⟨A,0,none⟩) L C) (hA:=At.grp 1 0 rfl rfl) (hv:=(by rw [cell_ix]; exact hcell)) (k:=A9 [0] [0,1,12,13,14,15,101] (k:=?_))
     refine A0 (B9 kr ?_)
     refine G_regionH ([(c,.cells (bsr [(34,.slice (some ⟨a34,0,none⟩) 6 c34),(38,.slice (some ⟨a38,0,none⟩) 5 c38),(39,.slice (some ⟨a39,0,none⟩) 5 c39),(60,.slice (some ⟨a60,0,none⟩) 4 c60),(62,.slice (some ⟨a62,0,none⟩) 4 c62)] (.slice aT 5 cT)) 111 (0,0))]::gT::g38::g60::g62::g34::g39::H) kr (GH_p (fuel:=10) [(0,0),(1,0),(2,0)] (fun w h=>(h.erase 0)) (k:=?_))
     refine N2 (E':=[⟨105,[],.slice (cutA (some ⟨B,0,none⟩) ((C0 A8 s.data.toList).length) (Int.toNat ((C0 A8 (s.data.toList.take i)).length:Int)) 1) ((Int.toNat (((C0 A8 s.data.toList).length:Nat):Int)) - (Int.toNat ((C0 A8 (s.data.toList.take i)).length:Int))) ((C0 A8 s.data.toList).length - (Int.toNat ((C0 A8 (s.data.toList.take i)).length:Int)))⟩,⟨104,[],.int .i64 ((C0 A8 (s.data.toList.take i)).length:Int)⟩,⟨103,[],.slice (some ⟨B,0,none⟩) ((C0 A8 s.data.toList).length) ((C0 A8 s.data.toList).length)⟩,⟨102,[],.int .i64 ((C0 A8 (s.data.toList.take i)).length:Int)⟩,⟨0,[],pt c⟩,⟨1,[],.string s⟩,⟨12,[],.slice (some ⟨B,0,none⟩) ((C0 A8 s.data.toList).length) ((C0 A8 s.data.toList).length)⟩,⟨13,[],.int .i64 ((C0 A8 (s.data.toList.take i)).length:Int)⟩,⟨14,[],.int .i64 (i:Int)⟩,⟨15,[],.int .u8 (A3 s (i:Int))⟩,⟨101,[],.bool true⟩]) 3 kr (fun w h=>(h.erase 0)) ?_ ?_
     ·
      exact GL_sliceL (i:=3) (ch:=[]) (a:=(some ⟨B,0,none⟩)) (len:=(C0 A8 s.data.toList).length) (cap:=(C0 A8 s.data.toList).length) (e:=5) (sz:=1) (vl:=(some (.int .i64 ((C0 A8 (s.data.toList.take i)).length:Int)))) (vh:=none) (l:=((C0 A8 (s.data.toList.take i)).length:Int)) (h:=(((C0 A8 s.data.toList).length:Nat):Int)) rfl rfl kr kr kr kr kr kr kr kr kr kr (fun _=>by omega) (GL_yend kr kr)
     refine GH_env (E':=[⟨105,[],.slice (some ⟨B,(C0 A8 (s.data.toList.take i)).length,none⟩) ((C0 A8 s.data.toList).length - (C0 A8 (s.data.toList.take i)).length) ((C0 A8 s.data.toList).length - (C0 A8 (s.data.toList.take i)).length)⟩,⟨104,[],.int .i64 ((C0 A8 (s.data.toList.take i)).length:Int)⟩,⟨103,[],.slice (some ⟨B,0,none⟩) ((C0 A8 s.data.toList).length) ((C0 A8 s.data.toList).length)⟩,⟨102,[],.int .i64 ((C0 A8 (s.data.toList.take i)).length:Int)⟩,⟨0,[],pt c⟩,⟨1,[],.string s⟩,⟨12,[],.slice (some ⟨B,0,none⟩) ((C0 A8 s.data.toList).length) ((C0 A8 s.data.toList).length)⟩,⟨13,[],.int .i64 ((C0 A8 (s.data.toList.take i)).length:Int)⟩,⟨14,[],.int .i64 (i:Int)⟩,⟨15,[],.int .u8 (A3 s (i:Int))⟩,⟨101,[],.bool true⟩]) (by rw [Int.toNat_natCast,Int.toNat_natCast,cut_some (by omega)]) (GH_p (fuel:=7) [(4,0),(5,0)] (fun w h=>(h.erase 0)) (k:=?_))
     refine GH_nil (ad:=⟨c,0,none⟩) 6 (hL:=(fun w h=>(h.erase 0))) (k:=GH_p (fuel:=5) [(7,0)] (fun w h=>(h.erase 0)) (k:=?_))
     refine N2 8 (hL:=(fun w h=>(h.erase 0))) (hy:=D2 (i:=8) (ch:=[]) (b:=c) (off:=0) (len:=256) (sz:=1) (e:=37) (kd:=.u8) (j:=A3 s (i:Int)) (hb:=(fun _=>by have hbx:=D4 s (i:Int); exact ⟨by omega,by omega⟩)) (k:=GL_yend kr rfl)) (k:=N2 9 kr (fun w h=>(h.erase 0)) (E0 (i:=9) (ch:=[]) (b:=c) (off:=0+Int.toNat (A3 s (i:Int)) * 1) (v:=.slice (some ⟨A,0,none⟩) L C) rfl rfl kr kr kr kr kr (At.grp 0 0 rfl rfl) (by rw [cell_ix]; exact hcell) (GL_yend kr rfl)) ?_)
     refine GH_eff 10 (k:=?_)
     obtain ⟨Q,hrd,hQ⟩:=tab_row hR hmem W0 [(B,.cells (rowZ (C0 A8 (s.data.toList.take i)) (k)) 5 (0,0))] [(c,.cells (bsr [(34,.slice (some ⟨a34,0,none⟩) 6 c34),(38,.slice (some ⟨a38,0,none⟩) 5 c38),(39,.slice (some ⟨a39,0,none⟩) 5 c39),(60,.slice (some ⟨a60,0,none⟩) 4 c60),(62,.slice (some ⟨a62,0,none⟩) 4 c62)] (.slice aT 5 cT)) 111 (0,0))] gT H
     refine GL_copy (i:=10) (ch:=[]) (dT:=37) (sT:=37) (el:=5) (b:=B) (o1:=(C0 A8 (s.data.toList.take i)).length) (n1:=((C0 A8 s.data.toList).length - (C0 A8 (s.data.toList.take i)).length)) (c1:=((C0 A8 s.data.toList).length - (C0 A8 (s.data.toList.take i)).length)) (a:=⟨A,0,none⟩) (n2:=L) (c2:=C) (c:=rowZ (C0 A8 (s.data.toList.take i)) k) (c':=rowZ (C0 A8 (s.data.toList.take i)++u) (k - u.length)) (j:=0) (m:=0) (H':=([(B,.cells (rowZ (C0 A8 (s.data.toList.take i)++u) (k - u.length)) 5 (0,0))]::[(c,.cells (bsr [(34,.slice (some ⟨a34,0,none⟩) 6 c34),(38,.slice (some ⟨a38,0,none⟩) 5 c38),(39,.slice (some ⟨a39,0,none⟩) 5 c39),(60,.slice (some ⟨a60,0,none⟩) 4 c60),(62,.slice (some ⟨a62,0,none⟩) 4 c62)] (.slice aT 5 cT)) 111 (0,0))]::gT::g38::g60::g62::g34::g39::H)) (u8s u) rfl rfl kr kr kr kr kr kr kr rfl rfl (by rw [show (u8s u).length=u.length from List.length_map _,hL]; exact (Nat.min_eq_left (by omega)).symm) (rd_cell hrd hQ) (by rw [rowZ_size,show (u8s u).length=u.length from List.length_map _]; omega) (u8s_one u) (rowZ_copy _ _ _ (by omega)) kr ?_
     have hul:(u8s u).length=u.length:=List.length_map _
     refine GH_back kr (fun w h=>(h.erase 0)) (GH_p (fuel:=1) [(11,0)] (fun w h=>(h.erase 0)) (k:=?_))
     refine GH_wi 113 (((C0 A8 (s.data.toList.take i)).length:Int)+((u8s u).length:Int)) (by omega) (by omega) kr (GH_p (fuel:=0) [(12,0)] (fun w h=>(h.erase 0)) (k:=?_))
     refine GH_done (E':=[⟨0,[],pt c⟩,⟨1,[],.string s⟩,⟨12,[],.slice (some ⟨B,0,none⟩) ((C0 A8 s.data.toList).length) ((C0 A8 s.data.toList).length)⟩,⟨13,[],.int .i64 (((C0 A8 (s.data.toList.take i)).length:Int)+((u8s u).length:Int))⟩,⟨14,[],.int .i64 (i:Int)⟩]) [0,1,12,13,14] (k:=B7 ?_)
     refine A0 (A2 ?_)
     refine A5 (j:=2) [0,0] (k:=D1 91 ((i:Int)+1) (by omega) (by omega) kr ?_)
     refine A9 [0] [0,1,12,13,14] (k:=?_)
     have hj2:((C0 A8 (s.data.toList.take i)).length:Int)+((u8s u).length:Int)=((C0 A8 (s.data.toList.take (i+1))).length:Int):=by rw [I3 _ (show i<s.data.toList.length by omega),K0,List.length_append]; first | (rw [L4 _ hu,show (u8s u).length=u.length from List.length_map _]; omega) | (rw [J2 _ hu]; simp only [List.length_cons,List.length_nil]; omega)
     refine N_env (E':=[⟨0,[],pt c⟩,⟨1,[],.string s⟩,⟨12,[],.slice (some ⟨B,0,none⟩) ((C0 A8 s.data.toList).length) ((C0 A8 s.data.toList).length)⟩,⟨13,[],.int .i64 (((C0 A8 (s.data.toList.take i)).length:Int)+((u8s u).length:Int))⟩,⟨14,[],.int .i64 ((i:Int)+1)⟩]) kr (N_env (E':=[⟨0,[],pt c⟩,⟨1,[],.string s⟩,⟨12,[],.slice (some ⟨B,0,none⟩) ((C0 A8 s.data.toList).length) ((C0 A8 s.data.toList).length)⟩,⟨13,[],.int .i64 ((C0 A8 (s.data.toList.take (i+1))).length:Int)⟩,⟨14,[],.int .i64 ((i:Int)+1)⟩]) (by rw [hj2]) ?_)
     have hl2:(C0 A8 (s.data.toList.take i)++u)=C0 A8 (s.data.toList.take (i+1)):=by rw [I3 _ (show i<s.data.toList.length by omega),K0]; first | rw [L4 _ hu] | rw [J2 _ hu]
     refine N_heq (H':=([(B,.cells (rowZ (C0 A8 (s.data.toList.take (i+1))) (k - u.length)) 5 (0,0))]::[(c,.cells (bsr [(34,.slice (some ⟨a34,0,none⟩) 6 c34),(38,.slice (some ⟨a38,0,none⟩) 5 c38),(39,.slice (some ⟨a39,0,none⟩) 5 c39),(60,.slice (some ⟨a60,0,none⟩) 4 c60),(62,.slice (some ⟨a62,0,none⟩) 4 c62)] (.slice aT 5 cT)) 111 (0,0))]::gT::g38::g60::g62::g34::g39::H)) (by rw [hl2]) (E9 (s':=(i+1,k - u.length)) [0,1,12,13,14] kr rfl ⟨(by omega),(by dsimp only; rw [← hl2,List.length_append]; first | omega | (simp only [List.length_cons,List.length_nil]; omega))⟩ (by omega))
    ·
     have hsp:=congrArg List.length (outR_split s.data.toList (show i<s.data.toList.length by omega))
     rw [J2 _ hu] at hsp
     simp only [List.length_append,List.length_cons,List.length_nil] at hsp
     refine E0 (ch:=[]) (b:=c) (off:=0+Int.toNat (A3 s (i:Int)) * 1) (v:=.slice none 0 0) (hA:=At.grp 1 0 rfl rfl) (hv:=(by rw [cell_ix]; exact hcell)) (k:=A9 [0] [0,1,12,13,14,15,101] (k:=?_))
     refine A0 (D6 kr ?_)
     refine A1 (A2 ?_)
     refine A5 (j:=3) [0,0,0] (k:=C1 (ch:=[]) (a:=(some ⟨B,0,none⟩)) (len:=(C0 A8 s.data.toList).length) (cap:=(C0 A8 s.data.toList).length) (kd:=.i64) (j:=((C0 A8 (s.data.toList.take i)).length:Int)) (e:=5) (sz:=1) (S:=inG [(B,.cells (rowZ (C0 A8 (s.data.toList.take i)) (k)) 5 (0,0))]) (cs:=(rowZ (C0 A8 (s.data.toList.take i)) k).toList) (hrd:=row_rd _ _) (hb:=(fun _=>⟨by omega,by omega,by intro h; have:=congrArg List.length h; rw [Array.length_toList,rowZ_size] at this; simp only [List.length_nil] at this; omega⟩)) (k:=?_))
     refine E3 (E':=[⟨117,[],.pointer (some ⟨B,0+Int.toNat ((C0 A8 (s.data.toList.take i)).length:Int) * 1,none⟩)⟩,⟨116,[],.int .u8 (A3 s (i:Int))⟩,⟨115,[],.int .i64 ((C0 A8 (s.data.toList.take i)).length:Int)⟩,⟨114,[],.slice (some ⟨B,0,none⟩) ((C0 A8 s.data.toList).length) ((C0 A8 s.data.toList).length)⟩,⟨0,[],pt c⟩,⟨1,[],.string s⟩,⟨12,[],.slice (some ⟨B,0,none⟩) ((C0 A8 s.data.toList).length) ((C0 A8 s.data.toList).length)⟩,⟨13,[],.int .i64 ((C0 A8 (s.data.toList.take i)).length:Int)⟩,⟨14,[],.int .i64 (i:Int)⟩,⟨15,[],.int .u8 (A3 s (i:Int))⟩,⟨101,[],.bool false⟩]) (by have hz:([⟨117,[],.pointer (some (eltA (some ⟨B,0,none⟩) (Int.toNat ((C0 A8 (s.data.toList.take i)).length:Int) * 1)))⟩,⟨116,[],.int .u8 (A3 s (i:Int))⟩,⟨115,[],.int .i64 ((C0 A8 (s.data.toList.take i)).length:Int)⟩,⟨114,[],.slice (some ⟨B,0,none⟩) ((C0 A8 s.data.toList).length) ((C0 A8 s.data.toList).length)⟩,⟨0,[],pt c⟩,⟨1,[],.string s⟩,⟨12,[],.slice (some ⟨B,0,none⟩) ((C0 A8 s.data.toList).length) ((C0 A8 s.data.toList).length)⟩,⟨13,[],.int .i64 ((C0 A8 (s.data.toList.take i)).length:Int)⟩,⟨14,[],.int .i64 (i:Int)⟩,⟨15,[],.int .u8 (A3 s (i:Int))⟩,⟨101,[],.bool false⟩]:List Sl)=[⟨117,[],.pointer (some ⟨B,0+Int.toNat ((C0 A8 (s.data.toList.take i)).length:Int) * 1,none⟩)⟩,⟨116,[],.int .u8 (A3 s (i:Int))⟩,⟨115,[],.int .i64 ((C0 A8 (s.data.toList.take i)).length:Int)⟩,⟨114,[],.slice (some ⟨B,0,none⟩) ((C0 A8 s.data.toList).length) ((C0 A8 s.data.toList).length)⟩,⟨0,[],pt c⟩,⟨1,[],.string s⟩,⟨12,[],.slice (some ⟨B,0,none⟩) ((C0 A8 s.data.toList).length) ((C0 A8 s.data.toList).length)⟩,⟨13,[],.int .i64 ((C0 A8 (s.data.toList.take i)).length:Int)⟩,⟨14,[],.int .i64 (i:Int)⟩,⟨15,[],.int .u8 (A3 s (i:Int))⟩,⟨101,[],.bool false⟩]:=(by rw [show Go.Sw.eltA (some ⟨B,0,none⟩) (Int.toNat ((C0 A8 (s.data.toList.take i)).length:Int) * 1)=⟨B,0+Int.toNat ((C0 A8 (s.data.toList.take i)).length:Int) * 1,none⟩ from H7 _ _ _]); exact Eq.trans kr hz) (K3 (ch:=[]) (b:=B) (off:=0+Int.toNat ((C0 A8 (s.data.toList.take i)).length:Int) * 1) (v:=.int .u8 (A3 s (i:Int))) (c:=(rowZ (C0 A8 (s.data.toList.take i)) (k))) (c':=(rowZ (C0 A8 (s.data.toList.take i)++[s.data.toList.getD i 0]) (k - 1))) (j:=0) (m:=0) (H':=([(B,.cells (rowZ (C0 A8 (s.data.toList.take i)++[s.data.toList.getD i 0]) (k - 1)) 5 (0,0))]::[(c,.cells (bsr [(34,.slice (some ⟨a34,0,none⟩) 6 c34),(38,.slice (some ⟨a38,0,none⟩) 5 c38),(39,.slice (some ⟨a39,0,none⟩) 5 c39),(60,.slice (some ⟨a60,0,none⟩) 4 c60),(62,.slice (some ⟨a62,0,none⟩) 4 c62)] (.slice aT 5 cT)) 111 (0,0))]::gT::g38::g60::g62::g34::g39::H)) (hoff:=(by rw [rowZ_size]; show 0+_ * 1+1≤_; rw [Int.toNat_natCast]; omega)) (hfz:=(fun _ _=>J6)) (hc':=(by obtain ⟨k',rfl⟩:∃ k',k=k'+1:=⟨k - 1,by omega⟩; rw [Nat.add_sub_cancel]; show setRow _ _ [.int .u8 (A3 s (i:Int))]=_; rw [byteAt_getD]; exact rowZ_set _ _ _ (by rw [Int.toNat_natCast]; omega))) (k:=?_))
     refine A9 [] [0,1,12,13,14] (k:=A0 ?_)
     refine A2 (A5 (j:=2) [0,0] (k:=?_))
     refine D1 119 (((C0 A8 (s.data.toList.take i)).length:Int)+1) (by omega) (by omega) kr (A9 [0] [0,1,12,13,14] (k:=?_))
     refine B7 (A0 ?_)
     refine A2 (A5 (j:=2) [0,0] (k:=?_))
     refine D1 91 ((i:Int)+1) (by omega) (by omega) kr (B4 (E':=[⟨0,[],pt c⟩,⟨1,[],.string s⟩,⟨12,[],.slice (some ⟨B,0,none⟩) ((C0 A8 s.data.toList).length) ((C0 A8 s.data.toList).length)⟩,⟨13,[],.int .i64 (((C0 A8 (s.data.toList.take i)).length:Int)+1)⟩,⟨14,[],.int .i64 ((i:Int)+1)⟩]) [0] [0,1,12,13,14] (k:=?_))
     have hj2:((C0 A8 (s.data.toList.take i)).length:Int)+1=((C0 A8 (s.data.toList.take (i+1))).length:Int):=by rw [I3 _ (show i<s.data.toList.length by omega),K0,List.length_append]; first | (rw [L4 _ hu,show (u8s u).length=u.length from List.length_map _]; omega) | (rw [J2 _ hu]; simp only [List.length_cons,List.length_nil]; omega)
     refine N_env (E':=[⟨0,[],pt c⟩,⟨1,[],.string s⟩,⟨12,[],.slice (some ⟨B,0,none⟩) ((C0 A8 s.data.toList).length) ((C0 A8 s.data.toList).length)⟩,⟨13,[],.int .i64 ((C0 A8 (s.data.toList.take (i+1))).length:Int)⟩,⟨14,[],.int .i64 ((i:Int)+1)⟩]) (by rw [hj2]) ?_
     have hl2:(C0 A8 (s.data.toList.take i)++[s.data.toList.getD i 0])=C0 A8 (s.data.toList.take (i+1)):=by rw [I3 _ (show i<s.data.toList.length by omega),K0]; first | rw [L4 _ hu] | rw [J2 _ hu]
     refine N_heq (H':=([(B,.cells (rowZ (C0 A8 (s.data.toList.take (i+1))) (k - 1)) 5 (0,0))]::[(c,.cells (bsr [(34,.slice (some ⟨a34,0,none⟩) 6 c34),(38,.slice (some ⟨a38,0,none⟩) 5 c38),(39,.slice (some ⟨a39,0,none⟩) 5 c39),(60,.slice (some ⟨a60,0,none⟩) 4 c60),(62,.slice (some ⟨a62,0,none⟩) 4 c62)] (.slice aT 5 cT)) 111 (0,0))]::gT::g38::g60::g62::g34::g39::H)) (by rw [hl2]) (E9 (s':=(i+1,k - 1)) [0,1,12,13,14] kr rfl ⟨(by omega),(by dsimp only; rw [← hl2,List.length_append]; first | omega | (simp only [List.length_cons,List.length_nil]; omega))⟩ (by omega))
   ·
    try simp only [decide_eq_false_iff_not] at hc24
    refine G8 (B5 ?_)
    refine B5 (C9 ?_)
    refine A0 (A1 ?_)
    refine A2 (A5 (j:=1) [0] (k:=?_))
    refine G1 (ch:=[]) (a:=⟨B,0,none⟩) (cap:=(C0 A8 s.data.toList).length) (e:=5) (S:=(inG [(B,.cells (rowZ (C0 A8 (s.data.toList.take i)) (k)) 5 (0,0))])) (C0 A8 s.data.toList) (hrd:=(by have e1:s.data.toList.take i=s.data.toList:=List.take_of_length_le (by omega); have e2:k=0:=(by rw [e1] at hk; omega); rw [e1,e2]; exact rowZ_rd _ rfl)) (hS:=C7 0 rfl) (k:=A9 [0] [4] (k:=?_))
    refine A0 (B6 ?_)
    refine D9 (H':=([(c,.cells (bsr [(34,.slice (some ⟨a34,0,none⟩) 6 c34),(38,.slice (some ⟨a38,0,none⟩) 5 c38),(39,.slice (some ⟨a39,0,none⟩) 5 c39),(60,.slice (some ⟨a60,0,none⟩) 4 c60),(62,.slice (some ⟨a62,0,none⟩) 4 c62)] (.slice aT 5 cT)) 111 (0,0))]::gT::g38::g60::g62::g34::g39::H)) (fun w h=>(h.erase 0)) (B2 [.tmp 4] [.string ⟨(C0 A8 s.data.toList).toArray⟩] (k:=?_))
    exact ⟨rfl,rfl⟩
end Go.Proofs.YtbnfbffiehoapaaGreatDoor
namespace Go.Sw
open Go.RowKit
theorem shape_of {w:World} {b:Nat} {c:Array Value} {e:TypeId} {fz:Nat × Nat} (h:w.heap[b]? = some (.cells c e fz)):w.shape? b=some (e,c.size):=by simp [World.shape?,h]
theorem GL_toUnsafe {d:Bool} {P:Program} {ops:Array Oper} {i:Nat} {Q:D0} {n:Fr} {E:Env} {W0:World} {H:List Grp} {o:Oper} {ch:List (Nat × Bool)} {src dst t e:TypeId} {x:Operand} {inf:TypeInfo} {b:Nat} {c:Array Value} {fz:Nat × Nat}
    (ho:ops[i]? = some o) (hop:o.op=.convert src dst x) (hx:evO E ch x=some (.pointer (some ⟨b,0,none⟩))) (hs:P.underlying src=some (.pointer t)) (hdd:P.underlying dst=some .unsafePointer) (ht:P.info? t=some inf) (hj:(inf.size != 0)=true)
    (hch:D5 ops E o.guard=some ch) (hd:F1 n ch o.dst=true) (hk:G3 E ch=true)
    (hA:At W0 H b (.cells c e fz)) (hc:(c.size != 0)=true)
    (k:GL d P ops (i+1) Q n (Env.put E o.dst ch (.pointer (some ⟨b,0,none⟩))) W0 H):GL d P ops i Q n E W0 H:=by
  refine F3 ho hch hd hk (fun r hr _ w hsat=>?_) k
  unfold execOp
  simp only [hop]
  rw [hr _ _ hx]
  have:=Go.Lib.run_to_unsafe (P:=P) w ⟨b,0,none⟩ hs hdd ht (by simpa using hj) (shape_of (hsat.at hA)) (Nat.pos_of_ne_zero (by simpa using hc))
  simp only [Sem.run_bind,this,Result.andThen_ok]
  exact ⟨rfl,rfl⟩
theorem GL_fromUnsafe {d:Bool} {P:Program} {ops:Array Oper} {i:Nat} {Q:D0} {n:Fr} {E:Env} {W0:World} {H:List Grp} {o:Oper} {ch:List (Nat × Bool)} {src dst u e:TypeId} {x:Operand} {inf:TypeInfo} {b:Nat} {c:Array Value} {fz:Nat × Nat}
    (ho:ops[i]? = some o) (hop:o.op=.convert src dst x) (hx:evO E ch x=some (.pointer (some ⟨b,0,none⟩))) (hs:P.underlying src=some .unsafePointer) (hdd:P.underlying dst=some (.pointer u)) (ht:P.info? u=some inf)
    (hch:D5 ops E o.guard=some ch) (hd:F1 n ch o.dst=true) (hk:G3 E ch=true)
    (hA:At W0 H b (.cells c e fz)) (hlies:liesAt P P.depth e (c.size / P.cellsOf e) 0 u 1=true)
    (k:GL d P ops (i+1) Q n (Env.put E o.dst ch (.pointer (some ⟨b,0,none⟩))) W0 H):GL d P ops i Q n E W0 H:=by
  refine F3 ho hch hd hk (fun r hr _ w hsat=>?_) k
  unfold execOp
  simp only [hop]
  rw [hr _ _ hx]
  have:=Go.Lib.run_from_unsafe (P:=P) w ⟨b,0,none⟩ hs hdd ht (shape_of (hsat.at hA)) hlies
  simp only [Sem.run_bind,this,Result.andThen_ok]
  exact ⟨rfl,rfl⟩
theorem GL_neqPtr {d:Bool} {P:Program} {ops:Array Oper} {i:Nat} {Q:D0} {n:Fr} {E:Env} {W0:World} {H:List Grp} {o:Oper} {ch:List (Nat × Bool)} {tp te:TypeId} {x y:Operand} {inf:TypeInfo} {a:Addr}
    (ho:ops[i]? = some o) (hop:o.op=.binOp .neq tp x y tp) (hx:evO E ch x=some (.pointer (some a))) (hy:evO E ch y=some (.pointer (some a))) (hp:P.underlying tp=some (.pointer te)) (ht:P.info? te=some inf)
    (hch:D5 ops E o.guard=some ch) (hd:F1 n ch o.dst=true) (hk:G3 E ch=true)
    (k:GL d P ops (i+1) Q n (Env.put E o.dst ch (.bool false)) W0 H):GL d P ops i Q n E W0 H:=by
  refine F3 ho hch hd hk (fun r hr _ w hsat=>?_) k
  unfold execOp
  simp only [hop]
  rw [hr _ _ hx,hr _ _ hy]
  have:=Go.Lib.run_neq_ptr_same (P:=P) w a hp ht
  have hg:(eqGuard .neq tp x y (.pointer (some a)) (.pointer (some a))).run P w=.ok () w:=rfl
  simp only [Sem.run_bind,hg,this,Result.andThen_ok]
  exact ⟨rfl,rfl⟩
theorem GL_sliceData {d:Bool} {P:Program} {ops:Array Oper} {i:Nat} {Q:D0} {n:Fr} {E:Env} {W0:World} {H:List Grp} {o:Oper} {ch:List (Nat × Bool)} {c:Call} {a:Option Addr} {l cap:Nat}
    (ho:ops[i]? = some o:=by exact rfl) (hop:o.op=.call c:=by exact rfl) (hce:c.callee=.builtin .unsafeSliceData:=by exact rfl) (hargs:evL (evO E ch) c.args.toList=some [.slice a l cap]:=by kernel_rfl) (hc:a=none∨cap≠0)
    (hch:D5 ops E o.guard=some ch:=by kernel_rfl) (hd:F1 n ch o.dst=true:=by kernel_rfl) (hk:G3 E ch=true:=by kernel_rfl)
    (k:GL d P ops (i+1) Q n (Env.put E o.dst ch (.pointer a)) W0 H):GL d P ops i Q n E W0 H:=by
  refine F3 ho hch hd hk (fun r hr _ w hsat=>?_) k
  unfold execOp
  have hrun:(Builtin.unsafeSliceData_ c.argTypes o.type #[.slice a l cap]).run P w=.ok (.pointer a) w:=by
    cases a with
    | none=>exact Go.Lib.run_unsafeSliceData_nil (P:=P) w _ _ l cap
    | some a=>exact Go.Lib.run_unsafeSliceData_row (P:=P) w _ _ a l cap (by simpa using hc)
  simp only [hop,resolve,hce,H6 hr hargs,Sem.run_bind,Sem.run_pure,Result.andThen_ok,invoke,Go.builtin,hrun]
  exact ⟨rfl,rfl⟩
theorem GL_sliceData0 {P:Program} {ops:Array Oper} {i:Nat} {Q:D0} {n:Fr} {E:Env} {W0:World} {H:List Grp} {o:Oper} {ch:List (Nat × Bool)} {c:Call} {b:Nat} {l:Nat} {e:TypeId} {cs:Array Value} {et:TypeId} {fz:Nat × Nat}
    (ho:ops[i]? = some o) (hop:o.op=.call c) (hce:c.callee=.builtin .unsafeSliceData) (hargs:evL (evO E ch) c.args.toList=some [.slice (some ⟨b,0,none⟩) l 0]) (hp:P.underlying o.type=some (.pointer e))
    (hch:D5 ops E o.guard=some ch) (hd:F1 n ch o.dst=true) (hsure:H0 E ch=true) (hA:At W0 H b (.cells cs et fz))
    (k:∀ v,GL false P ops (i+1) Q n (Env.put E o.dst ch (.pointer (some ⟨v,0,none⟩))) W0 ([(v,.view ⟨b,0,none⟩ e)]::H)):GL false P ops i Q n E W0 H:=by
  refine GL_eff (R:=fun v H1=>∃ q,v=.pointer (some ⟨q,0,none⟩)∧H1=[(q,.view ⟨b,0,none⟩ e)]::H) ho hch hd hsure (fun r hr w hs=>?_) (by rintro v H1 ⟨q,rfl,rfl⟩; exact k q)
  have hrun:=Go.Lib.run_unsafeSliceData_zero (P:=P) w c.argTypes o.type e hp ⟨b,0,none⟩ l _ (shape_of (hs.at hA))
  refine ⟨_,w.alloc (.view ⟨b,0,none⟩ e),_,⟨w.heap.size,rfl,rfl⟩,hs.new rfl rfl rfl rfl,.inl ?_⟩
  unfold execOp
  simp only [hop,resolve,hce,H6 hr hargs,Sem.run_bind,Sem.run_pure,Result.andThen_ok,invoke,Go.builtin,hrun]
theorem M9 {d:Bool} {P:Program} {ops:Array Oper} {i:Nat} {Q:D0} {n:Fr} {E:Env} {W0:World} {H:List Grp} {o:Oper} {ch:List (Nat × Bool)} {c:Call} {p:Option Addr} {pt it:TypeId}
    (ho:ops[i]? = some o:=by exact rfl) (hop:o.op=.call c:=by exact rfl) (hce:c.callee=.builtin .unsafeString:=by exact rfl) (hat:c.argTypes=#[pt,it]:=by exact rfl) (hargs:evL (evO E ch) c.args.toList=some [.pointer p,.int .i64 0]:=by kernel_rfl)
    (hch:D5 ops E o.guard=some ch:=by kernel_rfl) (hd:F1 n ch o.dst=true:=by kernel_rfl) (hk:G3 E ch=true:=by kernel_rfl)
    (k:GL d P ops (i+1) Q n (Env.put E o.dst ch (.string .empty)) W0 H):GL d P ops i Q n E W0 H:=by
  refine F3 ho hch hd hk (fun r hr _ w hsat=>?_) k
  unfold execOp
  simp only [hop,resolve,hce,hat,H6 hr hargs,Sem.run_bind,Sem.run_pure,Result.andThen_ok,invoke,Go.builtin,Go.Lib.run_unsafeString_none]
  exact ⟨rfl,rfl⟩
theorem freeze_wr {w:World} {b n:Nat} {c:Array Value} {e:TypeId} (h:w.heap[b]? = some (.cells c e (0,0))) (hn:n≠0):Wr b (.cells c e (0,n)) w (w.freeze ⟨b,0,none⟩ n):=by
  have hb:b<w.heap.size:=by
    rcases Nat.lt_or_ge b w.heap.size with h' | h'
    · exact h'
    · simp [Array.getElem?_eq_none h'] at h
  unfold World.freeze
  rw [if_neg hn]
  refine ⟨rfl,rfl,rfl,by simp,?_,fun k hk=>?_⟩
  · simp only [Array.getElem?_modify,h]
    simp
  · simp only [Array.getElem?_modify]
    rw [if_neg (Ne.symm hk)]
theorem GL_unsafeStr {P:Program} {ops:Array Oper} {i:Nat} {Q:D0} {n:Fr} {E:Env} {W0:World} {H:List Grp} {o:Oper} {ch:List (Nat × Bool)} {c:Call} {b j:Nat} {pt it e:TypeId} {cs:Array Value} {l:List UInt8}
    (ho:ops[i]? = some o) (hop:o.op=.call c) (hce:c.callee=.builtin .unsafeString) (hat:c.argTypes=#[pt,it]) (hargs:evL (evO E ch) c.args.toList=some [.pointer (some ⟨b,0,none⟩),.int .i64 (l.length:Int)])
    (hp:P.underlying pt=some (.pointer e)) (hc1:(P.cellsOf e==1)=true)
    (hch:D5 ops E o.guard=some ch) (hd:F1 n ch o.dst=true) (hsure:H0 E ch=true)
    (hj:H[j]? = some [(b,.cells cs e (0,0))]) (h0:l≠[]) (hlc:l.length≤cs.size) (hmax:l.length≤9223372036854775807) (hcell:∀ (k:Nat) x,l[k]? = some x→cs[k]? = some (.int .u8 (x.toNat:Int)))
    (k:GL false P ops (i+1) Q n (Env.put E o.dst ch (.string ⟨l.toArray⟩)) W0 (H.set j [(b,.cells cs e (0,l.length))])):GL false P ops i Q n E W0 H:=by
  refine GL_eff (R:=fun v H1=>v=.string ⟨l.toArray⟩∧H1=H.set j [(b,.cells cs e (0,l.length))]) ho hch hd hsure (fun r hr w hs=>?_) (by rintro v H1 ⟨rfl,rfl⟩; exact k)
  have hi:([(b,Obj.cells cs e (0,0))]:Grp)[0]? = some (b,.cells cs e (0,0)):=rfl
  have hblk:=hs.has _ (List.mem_flatten.2 ⟨_,List.mem_of_getElem? hj,List.mem_of_getElem? hi⟩)
  have hrun:=Go.Lib.run_unsafeString_row (P:=P) w pt it o.type e hp (by simpa using hc1) b cs.size (shape_of hblk) l h0 hlc hmax (fun k x hx=>by
    have:=hcell k x hx
    rw [H7,Nat.zero_add]
    exact J8 hblk this)
  refine ⟨_,_,_,⟨rfl,rfl⟩,hs.wr hj hi (freeze_wr hblk (by simpa using h0)),.inl ?_⟩
  unfold execOp
  simp only [hop,resolve,hce,hat,H6 hr hargs,Sem.run_bind,Sem.run_pure,Result.andThen_ok,invoke,Go.builtin,hrun]
def Bld (b:Nat) (p:Value):Prop:=p=.pointer none∨p=.pointer (some ⟨b,0,none⟩)
theorem bld0 {b:Nat}:Bld b (.pointer none):=.inl rfl
theorem bld1 {b:Nat}:Bld b (.pointer (some ⟨b,0,none⟩)):=.inr rfl
end Go.Sw
namespace Go.Sha
open Go.Sw
structure S8 where
  a:Int
  b:Int
  c:Int
  d:Int
  e:Int
  f:Int
  g:Int
  h:Int
theorem u8s_at {l:List UInt8} {k:Nat} (h:k<l.length):(u8s l)[k]? = some (.int .u8 ((l.getD k 0).toNat:Int)):=by
  simp [u8s,h,List.getD]
def S8.v (s:S8):Value:=.agg #[.int .u32 s.a,.int .u32 s.b,.int .u32 s.c,.int .u32 s.d,.int .u32 s.e,.int .u32 s.f,.int .u32 s.g,.int .u32 s.h]
def b8 (y:Int):UInt8:=UInt8.ofNat (y % 256).toNat
def wd (s:S8) (k:Nat):Int:=[s.a,s.b,s.c,s.d,s.e,s.f,s.g,s.h].getD k 0
theorem u8s_append (a b:List UInt8):u8s (a++b)=u8s a++u8s b:=by simp [u8s]
def digs:ByteArray:=ByteArray.mk #[48,49,50,51,52,53,54,55,56,57,97,98,99,100,101,102]
def hd (i:Int):UInt8:=UInt8.ofNat (A3 digs i).toNat
theorem u8_one {l:List UInt8}:∀ u∈u8s l,u.oneCell'=true:=by
  intro u hu
  obtain ⟨b,_,rfl⟩:=List.mem_map.1 hu
  rfl
end Go.Sha
namespace Go.Proofs.YtbnfbffiehoapaaGreatDoor
open Go.Sw Go.Sha
theorem bytes_len (t:ByteArray):(u8s t.data.toList).length=t.size:=by
  rw [show (u8s t.data.toList).length=_ from List.length_map _,Array.length_toList]; rfl
theorem own_text {v:Value} {g:Grp} {n m:Nat} {t s:ByteArray} (h:Go.Sw.Own 5 1 v g n (u8s t.data.toList++u8s s.data.toList)) (hn:n=m) (hm:m=(t++s).size):Go.Sw.Own 5 1 v g (t++s).size (u8s (t++s).data.toList):=by
  have e:u8s (t++s).data.toList=u8s t.data.toList++u8s s.data.toList:=by rw [ByteArray.data_append,Array.toList_append]; exact List.map_append
  rw [← hm,← hn,e]; exact h
def bldG (b:Nat) (p v:Value):Grp:=[(b,.cells #[p,v] 39 (0,0))]
def BOwn (v:Value) (g:Grp) (t:ByteArray):Prop:=Go.Sw.Own 5 1 v g t.size (u8s t.data.toList)
theorem cc0 (b:Nat) (v:Value) (W0:World) (H:List Grp):Tri Tryz.prog 47 #[pt b] W0 ([(b,.cells #[.pointer none,v] 39 (0,0))]::H) (fun r H'=>r=.tuple #[]∧H'=bldG b (.pointer (some ⟨b,0,none⟩)) v::H):=by
 refine C2 (args:=[pt b]) (n:=20) Tryz.func47 rfl rfl (Nat.le_of_ble_eq_true rfl) ?_
 refine A1 (A2 ?_)
 refine A5 (j:=3) [0,0,0] (k:=E0 (ch:=[]) (b:=b) (off:=0) (v:=.pointer none) (hA:=At.grp 0 0 rfl rfl) (hv:=rfl) (k:=?_))
 refine B4 (E':=[⟨0,[],pt b⟩,⟨6,[],.bool true⟩]) [0] [0,6] (k:=A0 ?_)
 refine B9 kr (A2 ?_)
 refine A5 (j:=2) [0,0] (k:=GL_toUnsafe (i:=2) (ch:=[]) (inf:=Tryz.t39) (t:=39) (e:=39) (b:=b) rfl rfl kr kr kr kr kr kr kr kr (At.grp 0 0 rfl rfl) rfl ?_)
 refine L2 (ch:=[]) (f:=61) (vs:=[pt b]) (v:=pt b) (e:=Extern.AbiNoEscape.same) (hf:=Tryz.func61) (hrun:=(fun w=>Go.Lib.run_noEscape w _)) (k:=GL_fromUnsafe (i:=4) (ch:=[]) (inf:=Tryz.t39) (u:=39) (e:=39) (b:=b) rfl rfl kr kr kr kr kr kr kr (At.grp 0 0 rfl rfl) kr ?_)
 refine A5 (j:=7) [0,0] (k:=GL_st (ch:=[]) (b:=b) (off:=0) (v:=pt b) (j:=0) ([(b,.cells #[pt b,v] 39 (0,0))]::H) (hoff:=Nat.le_of_ble_eq_true rfl) (hfz:=(fun _ _=>J6)) (k:=?_))
 refine B4 (E':=[]) [] [] (k:=B2 [] [] (k:=?_))
 exact ⟨rfl,rfl⟩
theorem cc1 (b:Nat) (v:Value) (W0:World) (H:List Grp):Tri Tryz.prog 47 #[pt b] W0 ([(b,.cells #[pt b,v] 39 (0,0))]::H) (fun r H'=>r=.tuple #[]∧H'=bldG b (.pointer (some ⟨b,0,none⟩)) v::H):=by
 refine C2 (args:=[pt b]) (n:=20) Tryz.func47 rfl rfl (Nat.le_of_ble_eq_true rfl) ?_
 refine A1 (A2 ?_)
 refine A5 (j:=3) [0,0,0] (k:=E0 (ch:=[]) (b:=b) (off:=0) (v:=pt b) (hA:=At.grp 0 0 rfl rfl) (hv:=rfl) (k:=?_))
 refine B4 (E':=[⟨0,[],pt b⟩,⟨6,[],.bool false⟩]) [0] [0,6] (k:=A0 ?_)
 refine D6 kr (A1 ?_)
 refine A2 (A5 (j:=3) [0,0,0] (k:=?_))
 refine E0 (ch:=[]) (b:=b) (off:=0) (v:=pt b) (hA:=At.grp 0 0 rfl rfl) (hv:=rfl) (k:=A5 (j:=5) [0] (k:=?_))
 refine GL_neqPtr (i:=5) (ch:=[]) (inf:=Tryz.t39) (te:=39) (a:=⟨b,0,none⟩) rfl rfl kr kr kr kr kr kr kr (B4 (E':=[⟨19,[],.bool false⟩]) [] [19] (k:=?_))
 refine A0 (D6 kr ?_)
 refine A7 (B2 [] [] (k:=?_))
 exact ⟨rfl,rfl⟩
theorem copyCheck_ (b:Nat) (p v:Value) (hp:Bld b p) (W0:World) (H:List Grp):Tri Tryz.prog 47 #[pt b] W0 (bldG b p v::H) (fun r H'=>r=.tuple #[]∧H'=bldG b (.pointer (some ⟨b,0,none⟩)) v::H):=by
  rcases hp with rfl | rfl
  · exact cc0 b v W0 H
  · exact cc1 b v W0 H
theorem writeString_ (b:Nat) (p v:Value) (g:Grp) (t s:ByteArray) (hp:Bld b p) (hv:BOwn v g t) (hs:t.size+s.size≤140737488355328) (W0:World) (H:List Grp):Tri Tryz.prog 28 #[pt b,.string s] W0 ([(b,.cells #[p,v] 39 (0,0))]::g::H) (fun r H'=>r=.tuple #[.int .i64 (s.size:Int),.nilIface]∧∃ v' g',BOwn v' g' (t++s)∧H'=bldG b (.pointer (some ⟨b,0,none⟩)) v'::g'::H):=by
 refine C2 (args:=[pt b,.string s]) (n:=19) Tryz.func28 rfl rfl (Nat.le_of_ble_eq_true rfl) ?_
 refine A1 (B3 (E':=[⟨0,[],pt b⟩,⟨1,[],.string s⟩]) [0,0] [0,1] (k:=?_))
 refine A0 (A1 ?_)
 refine A2 (A5 (j:=1) [0] (k:=?_))
 refine E5 Tryz.func47 (copyCheck_ b (p) (v) hp _ _) ?_
 rintro r H' ⟨rfl,rfl⟩
 refine B4 (E':=[⟨0,[],pt b⟩,⟨1,[],.string s⟩]) [] [0,1] (k:=A0 ?_)
 refine A1 (A2 ?_)
 refine A5 (j:=4) [0,0,0,0] (k:=E0 (ch:=[]) (b:=b) (off:=1) (v:=v) (hA:=At.grp 0 0 rfl rfl) (hv:=rfl) (k:=?_))
 refine A5 (j:=6) [0] (k:=F2 (i:=6) (ch:=[]) (t:=37) (tx:=9) (e:=5) (inf:=Tryz.t5) (s:=v) (x:=.string s) (n:=t.size) (m:=s.size) (j:=1) (cs:=(u8s t.data.toList)) (news:=(u8s s.data.toList)) (g:=g) (S:=(inB W0)) rfl rfl rfl rfl kr kr kr rfl rfl (.inr ⟨kr,rfl⟩) (fun _=>⟨rfl,kr⟩) (fun ⟨_,_,_,h⟩=>by cases h) kr kr kr rfl hv (SrcOf.str s) at_inB (by rw [show (u8s s.data.toList).length=_ from List.length_map _,Array.length_toList]; exact (Nat.mul_one _).symm) u8_one (by omega) (by show (t.size+s.size) * 1≤140737488355328; omega) (fun v1 g2 hO3=>?_))
 obtain ⟨a4,cap5,rfl,hcap6,hrd7⟩:=hO3.shape
 refine A5 (j:=9) [0,0] (k:=GL_st (ch:=[]) (b:=b) (off:=1) (v:=.slice a4 (t.size+s.size) cap5) (j:=0) ([(b,.cells #[pt b,.slice a4 (t.size+s.size) cap5] 39 (0,0))]::g2::H) (hoff:=Nat.le_of_ble_eq_true rfl) (hfz:=(fun _ _=>J6)) (k:=?_))
 refine B4 (E':=[⟨1,[],.string s⟩]) [] [1] (k:=A0 ?_)
 refine A1 (G_p [0,0,0,0] [4,5] (k:=?_))
 refine A0 (B6 ?_)
 refine B2 [.tmp 4,.tmp 5] [.int .i64 (s.size:Int),.nilIface] (k:=?_)
 exact ⟨rfl,_,_,own_text hO3 rfl (by simp [ByteArray.size_append]),rfl⟩
theorem writeString (b:Nat) (p v:Value) (g:Grp) (t s:ByteArray) (hp:Bld b p) (hv:BOwn v g t) (hs:t.size+s.size≤140737488355328) (W0:World) (H:List Grp):Tri Tryz.prog 28 #[pt b,.string s] W0 (bldG b p v::g::H) (fun r H'=>r=.tuple #[.int .i64 (s.size:Int),.nilIface]∧∃ v' g',BOwn v' g' (t++s)∧H'=bldG b (.pointer (some ⟨b,0,none⟩)) v'::g'::H):=writeString_ b p v g t s hp hv hs W0 H
theorem bStr0 (b:Nat) (p:Value) (W0:World) (H:List Grp):Tri Tryz.prog 29 #[pt b] W0 ([(b,.cells #[p,.slice none 0 0] 39 (0,0))]::H) (fun v H'=>v=.string .empty∧H'=bldG b p (.slice none 0 0)::H):=by
 refine C2 (args:=[pt b]) (n:=14) Tryz.func29 rfl rfl (Nat.le_of_ble_eq_true rfl) ?_
 refine A1 (B3 (E':=[⟨0,[],pt b⟩]) [0] [0] (k:=?_))
 refine A0 (A1 ?_)
 refine J4 (k:=A5 (j:=3) [0,0,0] (k:=?_))
 refine E0 (ch:=[]) (b:=b) (off:=1) (v:=.slice none 0 0) (hA:=At.grp 0 0 rfl rfl) (hv:=rfl) (k:=GL_sliceData (ch:=[]) (a:=none) (l:=0) (cap:=0) (hc:=.inl rfl) (k:=?_))
 refine A5 (j:=8) [0,0,0] (k:=E0 (ch:=[]) (b:=b) (off:=1) (v:=.slice none 0 0) (hA:=At.grp 0 0 rfl rfl) (hv:=rfl) (k:=?_))
 refine A5 (j:=10) [0] (k:=M9 (ch:=[]) (p:=none) (pt:=75) (it:=3) (k:=?_))
 refine B4 (E':=[⟨2,[],.string .empty⟩]) [0] [2] (k:=A0 ?_)
 refine B6 (B2 [.tmp 2] [.string .empty] (k:=?_))
 exact ⟨rfl,rfl⟩
theorem bStr1 (b:Nat) (p:Value) (a:Nat) (cs:Array Value) (W0:World) (H:List Grp):Tri Tryz.prog 29 #[pt b] W0 ([(b,.cells #[p,.slice (some ⟨a,0,none⟩) 0 0] 39 (0,0))]::[(a,.cells cs 5 (0,0))]::H) (fun v H'=>v=.string .empty∧∃ x,H'=x::bldG b p (.slice (some ⟨a,0,none⟩) 0 0)::[(a,.cells cs 5 (0,0))]::H):=by
 refine C2 (args:=[pt b]) (n:=14) Tryz.func29 rfl rfl (Nat.le_of_ble_eq_true rfl) ?_
 refine A1 (B3 (E':=[⟨0,[],pt b⟩]) [0] [0] (k:=?_))
 refine A0 (A1 ?_)
 refine G_regionH ([(b,.cells #[p,.slice (some ⟨a,0,none⟩) 0 0] 39 (0,0))]::[(a,.cells cs 5 (0,0))]::H) kr (GH_p (fuel:=11) [(0,0)] (fun w h=>h) (k:=?_))
 refine GH_nil (ad:=⟨b,0,none⟩) 1 (hL:=(fun w h=>h)) (k:=GH_p (fuel:=9) [(2,0)] (fun w h=>h) (k:=?_))
 refine N2 3 kr (fun w h=>h) (E0 (i:=3) (ch:=[]) (b:=b) (off:=1) (v:=.slice (some ⟨a,0,none⟩) 0 0) rfl rfl kr kr kr kr kr (At.grp 0 0 rfl rfl) rfl (GL_yend kr rfl)) (GH_p (fuel:=7) [(5,0)] (fun w h=>h) (k:=?_))
 refine GH_nil (ad:=⟨b,0,none⟩) 6 (hL:=(fun w h=>h)) (k:=GH_p (fuel:=5) [(7,0)] (fun w h=>h) (k:=?_))
 refine N2 8 kr (fun w h=>h) (E0 (i:=8) (ch:=[]) (b:=b) (off:=1) (v:=.slice (some ⟨a,0,none⟩) 0 0) rfl rfl kr kr kr kr kr (At.grp 0 0 rfl rfl) rfl (GL_yend kr rfl)) (GH_pev (v:=.int .i64 0) 9 rfl rfl kr kr kr kr kr (fun w h=>h) ?_)
 refine GH_eff 4 (k:=GL_sliceData0 (i:=4) (ch:=[]) (b:=a) (l:=0) (e:=5) rfl rfl rfl kr kr kr kr kr (At.grp 1 0 rfl rfl) (fun b1=>?_))
 refine GH_back kr (fun w h=>(h.erase 0)) (GH_more ([(b1,.view ⟨a,0,none⟩ 5)]::[(b,.cells #[p,.slice (some ⟨a,0,none⟩) 0 0] 39 (0,0))]::[(a,.cells cs 5 (0,0))]::H) (fun w h=>(h.erase 0)) ?_)
 refine GH_eff 10 (k:=M9 (ch:=[]) (p:=some ⟨b1,0,none⟩) (pt:=75) (it:=3) (k:=?_))
 refine GH_back kr (fun w h=>h) (GH_p (fuel:=0) [(11,0)] (fun w h=>h) (k:=?_))
 refine GH_done (E':=[⟨2,[],.string .empty⟩]) [2] (k:=A0 ?_)
 refine B6 (B2 [.tmp 2] [.string .empty] (k:=?_))
 exact ⟨rfl,_,rfl⟩
theorem bStr2 (b:Nat) (p:Value) (a:Nat) (cs:Array Value) (c:Nat) (hc:c≠0) (W0:World) (H:List Grp):Tri Tryz.prog 29 #[pt b] W0 ([(b,.cells #[p,.slice (some ⟨a,0,none⟩) 0 c] 39 (0,0))]::[(a,.cells cs 5 (0,0))]::H) (fun v H'=>v=.string .empty∧H'=bldG b p (.slice (some ⟨a,0,none⟩) 0 c)::[(a,.cells cs 5 (0,0))]::H):=by
 refine C2 (args:=[pt b]) (n:=14) Tryz.func29 rfl rfl (Nat.le_of_ble_eq_true rfl) ?_
 refine A1 (B3 (E':=[⟨0,[],pt b⟩]) [0] [0] (k:=?_))
 refine A0 (A1 ?_)
 refine J4 (k:=A5 (j:=3) [0,0,0] (k:=?_))
 refine E0 (ch:=[]) (b:=b) (off:=1) (v:=.slice (some ⟨a,0,none⟩) 0 c) (hA:=At.grp 0 0 rfl rfl) (hv:=rfl) (k:=GL_sliceData (ch:=[]) (a:=(some ⟨a,0,none⟩)) (l:=0) (cap:=c) (hc:=.inr hc) (k:=?_))
 refine A5 (j:=8) [0,0,0] (k:=E0 (ch:=[]) (b:=b) (off:=1) (v:=.slice (some ⟨a,0,none⟩) 0 c) (hA:=At.grp 0 0 rfl rfl) (hv:=rfl) (k:=?_))
 refine A5 (j:=10) [0] (k:=M9 (ch:=[]) (p:=some ⟨a,0,none⟩) (pt:=75) (it:=3) (k:=?_))
 refine B4 (E':=[⟨2,[],.string .empty⟩]) [0] [2] (k:=A0 ?_)
 refine B6 (B2 [.tmp 2] [.string .empty] (k:=?_))
 exact ⟨rfl,rfl⟩
theorem bStr3 (b:Nat) (p:Value) (a:Nat) (cs:Array Value) (c:Nat) (l:List UInt8) (hc:c≠0) (h0:l≠[]) (hlc:l.length≤cs.size) (hmax:l.length≤9223372036854775807) (hcell:∀ (k:Nat) x,l[k]? = some x→cs[k]? = some (.int .u8 (x.toNat:Int))) (W0:World) (H:List Grp):Tri Tryz.prog 29 #[pt b] W0 ([(b,.cells #[p,.slice (some ⟨a,0,none⟩) l.length c] 39 (0,0))]::[(a,.cells cs 5 (0,0))]::H) (fun v H'=>v=.string ⟨l.toArray⟩∧H'=bldG b p (.slice (some ⟨a,0,none⟩) l.length c)::[(a,.cells cs 5 (0,l.length))]::H):=by
 refine C2 (args:=[pt b]) (n:=14) Tryz.func29 rfl rfl (Nat.le_of_ble_eq_true rfl) ?_
 refine A1 (B3 (E':=[⟨0,[],pt b⟩]) [0] [0] (k:=?_))
 refine A0 (A1 ?_)
 refine G_regionH ([(b,.cells #[p,.slice (some ⟨a,0,none⟩) l.length c] 39 (0,0))]::H) kr (GH_p (fuel:=11) [(0,0)] (fun w h=>(h.erase 1)) (k:=?_))
 refine GH_nil (ad:=⟨b,0,none⟩) 1 (hL:=(fun w h=>(h.erase 1))) (k:=GH_p (fuel:=9) [(2,0)] (fun w h=>(h.erase 1)) (k:=?_))
 refine N2 3 kr (fun w h=>(h.erase 1)) (E0 (i:=3) (ch:=[]) (b:=b) (off:=1) (v:=.slice (some ⟨a,0,none⟩) l.length c) rfl rfl kr kr kr kr kr (At.grp 0 0 rfl rfl) rfl (GL_yend kr rfl)) (GH_p (fuel:=7) [(5,0)] (fun w h=>(h.erase 1)) (k:=?_))
 refine GH_nil (ad:=⟨b,0,none⟩) 6 (hL:=(fun w h=>(h.erase 1))) (k:=GH_p (fuel:=5) [(7,0)] (fun w h=>(h.erase 1)) (k:=?_))
 refine N2 8 kr (fun w h=>(h.erase 1)) (E0 (i:=8) (ch:=[]) (b:=b) (off:=1) (v:=.slice (some ⟨a,0,none⟩) l.length c) rfl rfl kr kr kr kr kr (At.grp 0 0 rfl rfl) rfl (GL_yend kr rfl)) (GH_pev (v:=.int .i64 ((l.length:Nat):Int)) 9 rfl rfl kr kr kr kr kr (fun w h=>(h.erase 1)) ?_)
 refine GH_eff 4 (k:=GL_sliceData (ch:=[]) (a:=(some ⟨a,0,none⟩)) (l:=l.length) (cap:=c) (hc:=.inr hc) (k:=?_))
 refine GH_back kr (fun w h=>(h.erase 1)) (GH_eff 10 (k:=?_))
 refine GL_unsafeStr (i:=10) (ch:=[]) (b:=a) (j:=1) (pt:=75) (it:=3) (e:=5) (cs:=cs) (l:=l) rfl rfl rfl rfl kr kr kr kr kr kr rfl h0 hlc hmax hcell (GH_back kr (fun w h=>(h.erase 1)) ?_)
 refine GH_p (fuel:=0) [(11,0)] (fun w h=>(h.erase 1)) (k:=GH_done (E':=[⟨2,[],.string ⟨l.toArray⟩⟩]) [2] (k:=?_))
 refine A0 (B6 ?_)
 refine B2 [.tmp 2] [.string ⟨l.toArray⟩] (k:=?_)
 exact ⟨rfl,rfl⟩
theorem u8_at (t:ByteArray) (junk:List Value) (k:Nat) (x:UInt8) (h:t.data.toList[k]? = some x):((u8s t.data.toList++junk).toArray)[k]? = some (.int .u8 (x.toNat:Int)):=by
  obtain ⟨hk,hx⟩:=List.getElem?_eq_some_iff.1 h
  rw [List.getElem?_toArray,List.getElem?_append_left (by simpa [u8s] using hk)]
  simp [u8s,h]
theorem I5 (b:Nat) (p v:Value) (g:Grp) (t:ByteArray) (hv:BOwn v g t) (hs:t.size≤140737488355328) (W0:World) (H:List Grp):Tri Tryz.prog 29 #[pt b] W0 (bldG b p v::g::H) (fun r H'=>r=.string t∧H'=bldG b p v::H):=by
  obtain ⟨hl,⟨rfl,rfl,h0⟩ | ⟨a,cap,junk,rfl,rfl,hcap,hj⟩⟩:=hv
  · have ht:t=.empty:=by cases t with | mk d=>(have:d=#[]:=Array.eq_empty_of_size_eq_zero h0); rw [this]; rfl
    subst ht
    exact Tri.heap (fun _ h=>h.erase 1) (bStr0 b p W0 H)
  · by_cases h0:t.size=0
    · have ht:t=.empty:=by cases t with | mk d=>(have:d=#[]:=Array.eq_empty_of_size_eq_zero h0); rw [this]; rfl
      by_cases hc:cap=0
      · subst hc; subst ht
        exact Tri.post (bStr1 b p a _ W0 H) fun v H' ⟨h1,x,h2⟩=>⟨_,⟨h1,rfl⟩,fun w hw=>by rw [h2] at hw; exact (hw.erase 2).erase 0⟩
      · subst ht
        exact Tri.post (bStr2 b p a _ cap hc W0 H) fun v H' ⟨h1,h2⟩=>⟨_,⟨h1,rfl⟩,fun w hw=>by rw [h2] at hw; exact hw.erase 1⟩
    · have hcap0:cap≠0:=by omega
      have hlen:t.data.toList.length=t.size:=Array.length_toList
      have:=bStr3 b p a (u8s t.data.toList++junk).toArray cap t.data.toList hcap0 (fun h=>h0 (by rw [← hlen,h]; rfl)) (by rw [List.size_toArray,List.length_append,bytes_len,hlen]; omega) (by omega) (u8_at t junk) W0 H
      rw [hlen] at this
      exact Tri.post this fun v H' ⟨h1,h2⟩=>⟨_,⟨by rw [h1],rfl⟩,fun w hw=>by rw [h2] at hw; exact hw.erase 1⟩
end Go.Proofs.YtbnfbffiehoapaaGreatDoor
namespace Go.Proofs.YtbnfbffiehoapaaGreatDoor
open Go.Sw Go.Sha Go.Esc
theorem w8m (x:Int):IntKind.wrap .u8 x=x % 256:=by first | rfl | simp [IntKind.wrap,IntKind.bits,IntKind.signed]
theorem w32u {x:Int} (h0:0≤x) (h1:x<4294967296):IntKind.wrap .u32 x=x:=by
  rw [show IntKind.wrap .u32 x=x % 4294967296 from by first | rfl | simp [IntKind.wrap,IntKind.bits,IntKind.signed]]; omega
theorem or192 {y:Int} (h0:0≤y) (h1:y<32):IntKind.wrap .u8 ((BitVec.ofInt (IntKind.bits .u8) 192 ||| BitVec.ofInt (IntKind.bits .u8) y).toNat)=192+y:=by
  have h:∀ n:Fin 32,IntKind.wrap .u8 ((BitVec.ofInt (IntKind.bits .u8) 192 ||| BitVec.ofInt (IntKind.bits .u8) (n.val:Int)).toNat)=192+(n.val:Int):=by decide +kernel
  have:=h ⟨y.toNat,by omega⟩
  simpa [show ((y.toNat:Nat):Int)=y by omega] using this
theorem or224 {y:Int} (h0:0≤y) (h1:y<16):IntKind.wrap .u8 ((BitVec.ofInt (IntKind.bits .u8) 224 ||| BitVec.ofInt (IntKind.bits .u8) y).toNat)=224+y:=by
  have h:∀ n:Fin 16,IntKind.wrap .u8 ((BitVec.ofInt (IntKind.bits .u8) 224 ||| BitVec.ofInt (IntKind.bits .u8) (n.val:Int)).toNat)=224+(n.val:Int):=by decide +kernel
  have:=h ⟨y.toNat,by omega⟩
  simpa [show ((y.toNat:Nat):Int)=y by omega] using this
theorem or240 {y:Int} (h0:0≤y) (h1:y<8):IntKind.wrap .u8 ((BitVec.ofInt (IntKind.bits .u8) 240 ||| BitVec.ofInt (IntKind.bits .u8) y).toNat)=240+y:=by
  have h:∀ n:Fin 8,IntKind.wrap .u8 ((BitVec.ofInt (IntKind.bits .u8) 240 ||| BitVec.ofInt (IntKind.bits .u8) (n.val:Int)).toNat)=240+(n.val:Int):=by decide +kernel
  have:=h ⟨y.toNat,by omega⟩
  simpa [show ((y.toNat:Nat):Int)=y by omega] using this
theorem lo63 {y:Int} (h0:0≤y) (h1:y<256):IntKind.wrap .u8 ((BitVec.ofInt (IntKind.bits .u8) 128 ||| BitVec.ofInt (IntKind.bits .u8) (IntKind.wrap .u8 ((BitVec.ofInt (IntKind.bits .u8) y &&& BitVec.ofInt (IntKind.bits .u8) 63).toNat))).toNat)=128+y % 64:=by
  have h:∀ n:Fin 256,IntKind.wrap .u8 ((BitVec.ofInt (IntKind.bits .u8) 128 ||| BitVec.ofInt (IntKind.bits .u8) (IntKind.wrap .u8 ((BitVec.ofInt (IntKind.bits .u8) (n.val:Int) &&& BitVec.ofInt (IntKind.bits .u8) 63).toNat))).toNat)=128+(n.val:Int) % 64:=by decide +kernel
  have:=h ⟨y.toNat,by omega⟩
  simpa [show ((y.toNat:Nat):Int)=y by omega] using this
theorem hi2 {r:Int} (h0:128≤r) (h1:r≤2047):IntKind.wrap .u8 ((BitVec.ofInt (IntKind.bits .u8) 192 ||| BitVec.ofInt (IntKind.bits .u8) (IntKind.wrap .u8 (Int.fdiv r (2 ^ 6)))).toNat)=192+r / 64:=by
  rw [w8m (Int.fdiv r (2 ^ 6)),Int.fdiv_eq_ediv_of_nonneg _ (by decide),or192 (by omega) (by omega)]; omega
theorem hi3 {r:Int} (h0:2048≤r) (h1:r≤65535):IntKind.wrap .u8 ((BitVec.ofInt (IntKind.bits .u8) 224 ||| BitVec.ofInt (IntKind.bits .u8) (IntKind.wrap .u8 (Int.fdiv r (2 ^ 12)))).toNat)=224+r / 4096:=by
  rw [w8m (Int.fdiv r (2 ^ 12)),Int.fdiv_eq_ediv_of_nonneg _ (by decide),or224 (by omega) (by omega)]; omega
theorem hi4 {r:Int} (h0:65536≤r) (h1:r≤1114111):IntKind.wrap .u8 ((BitVec.ofInt (IntKind.bits .u8) 240 ||| BitVec.ofInt (IntKind.bits .u8) (IntKind.wrap .u8 (Int.fdiv r (2 ^ 18)))).toNat)=240+r / 262144:=by
  rw [w8m (Int.fdiv r (2 ^ 18)),Int.fdiv_eq_ediv_of_nonneg _ (by decide),or240 (by omega) (by omega)]; omega
theorem lo0 {r:Int} (h0:0≤r):IntKind.wrap .u8 ((BitVec.ofInt (IntKind.bits .u8) 128 ||| BitVec.ofInt (IntKind.bits .u8) (IntKind.wrap .u8 ((BitVec.ofInt (IntKind.bits .u8) (IntKind.wrap .u8 r) &&& BitVec.ofInt (IntKind.bits .u8) 63).toNat))).toNat)=128+r % 64:=by
  rw [w8m r,lo63 (by omega) (by omega)]; omega
theorem lo6 {r:Int} (h0:0≤r):IntKind.wrap .u8 ((BitVec.ofInt (IntKind.bits .u8) 128 ||| BitVec.ofInt (IntKind.bits .u8) (IntKind.wrap .u8 ((BitVec.ofInt (IntKind.bits .u8) (IntKind.wrap .u8 (Int.fdiv r (2 ^ 6))) &&& BitVec.ofInt (IntKind.bits .u8) 63).toNat))).toNat)=128+r / 64 % 64:=by
  rw [w8m (Int.fdiv r (2 ^ 6)),Int.fdiv_eq_ediv_of_nonneg _ (by decide),lo63 (by omega) (by omega)]; omega
theorem lo12 {r:Int} (h0:0≤r):IntKind.wrap .u8 ((BitVec.ofInt (IntKind.bits .u8) 128 ||| BitVec.ofInt (IntKind.bits .u8) (IntKind.wrap .u8 ((BitVec.ofInt (IntKind.bits .u8) (IntKind.wrap .u8 (Int.fdiv r (2 ^ 12))) &&& BitVec.ofInt (IntKind.bits .u8) 63).toNat))).toNat)=128+r / 4096 % 64:=by
  rw [w8m (Int.fdiv r (2 ^ 12)),Int.fdiv_eq_ediv_of_nonneg _ (by decide),lo63 (by omega) (by omega)]; omega
def encB (r:Int):ByteArray:=⟨(Lib.encodeRune r).toArray⟩
theorem G0 (r:Int):(encB r).data.toList=Lib.encodeRune r:=by simp [encB]
theorem encB_size (r:Int):1≤(encB r).size∧(encB r).size≤4:=by
  have:=Lib.encodeRuneZ_length r
  have e:(encB r).size=(Lib.encodeRuneZ r).length:=by simp [encB,ByteArray.size,Lib.encodeRune]
  omega
theorem M4 (r:Int):u8s (Lib.encodeRune r)=(Lib.encodeRuneZ r).map (Value.int .u8):=by
  unfold u8s Lib.encodeRune
  rw [List.map_map]
  refine List.map_congr_left fun x hx=>?_
  have:=Lib.encodeRuneZ_byte r x hx
  show Value.int .u8 ((x.toNat.toUInt8.toNat:Nat):Int)=_
  rw [byteZ x this.1 this.2]; congr 1; omega
theorem own_put {v:Value} {g:Grp} {n m:Nat} {t s:ByteArray} {cs:List Value} (h:Go.Sw.Own 5 1 v g (n+m) (u8s t.data.toList++cs)) (hn:n=t.size) (hc:cs=u8s s.data.toList) (hm:m=s.size):BOwn v g (t++s):=by
  subst hc; subst hn; subst hm
  exact own_text h rfl (by simp)
theorem appNon_ (v:Value) (g:Grp) (t:ByteArray) (r:Int) (hv:BOwn v g t) (hr:isR r) (hna:128≤r) (hs:t.size+4≤140737488355328) (W0:World) (H:List Grp):Tri Tryz.prog 65 #[v,.int .i32 r] W0 (g::H) (fun x H'=>∃ v' g',x=v'∧BOwn v' g' (t++encB r)∧H'=g'::H):=by
 obtain ⟨hr0,hr1,hr2⟩:=hr
 refine C2 (args:=[v,.int .i32 r]) (n:=78) Tryz.func65 rfl rfl (Nat.le_of_ble_eq_true rfl) ?_
 refine A1 (B3 (E':=[⟨0,[],v⟩,⟨1,[],.int .i32 r⟩]) [0] [0,1] (k:=?_))
 refine A0 (A1 ?_)
 have hw1:IntKind.wrap .u32 r=r:=w32u (by omega) (by omega)
 refine B3 (E':=[⟨0,[],v⟩,⟨1,[],.int .i32 r⟩,⟨5,[],.int .u32 r⟩]) [0,0,0] [0,1,5] rfl (Eq.trans (b:=some [⟨0,[],v⟩,⟨1,[],.int .i32 r⟩,⟨5,[],.int .u32 (IntKind.wrap .u32 r)⟩]) kr (by simp only [hw1])) (A0 ?_)
 refine B8 (A1 ?_)
 refine G_p [0,0,0] [0,1,5,11] (k:=A0 ?_)
 refine B1 (b:=decide (r≤2047)) kr (fun hc2=>?_) (fun hc2=>?_)
 ·
  simp only [decide_eq_true_eq] at hc2
  refine A1 (A2 ?_)
  refine D7 (E':=[⟨18,[],.int .u8 (IntKind.wrap .u8 ((BitVec.ofInt (IntKind.bits .u8) 192 ||| BitVec.ofInt (IntKind.bits .u8) (IntKind.wrap .u8 (Int.fdiv r (2 ^ 6)))).toNat))⟩,⟨14,[],v⟩,⟨1,[],.int .i32 r⟩]) (j:=5) [0,0,0,0,0] (k:=E3 (E':=[⟨18,[],.int .u8 (192+r / 64)⟩,⟨14,[],v⟩,⟨1,[],.int .i32 r⟩]) (by rw [hi2 (by omega) (by omega)]) ?_)
  refine D7 (E':=[⟨22,[],.int .u8 (IntKind.wrap .u8 ((BitVec.ofInt (IntKind.bits .u8) 128 ||| BitVec.ofInt (IntKind.bits .u8) (IntKind.wrap .u8 ((BitVec.ofInt (IntKind.bits .u8) (IntKind.wrap .u8 r) &&& BitVec.ofInt (IntKind.bits .u8) 63).toNat))).toNat))⟩,⟨18,[],.int .u8 (192+r / 64)⟩,⟨14,[],v⟩]) (j:=9) [0,0,0,0] (k:=E3 (E':=[⟨22,[],.int .u8 (128+r % 64)⟩,⟨18,[],.int .u8 (192+r / 64)⟩,⟨14,[],v⟩]) (by rw [lo0 (by omega)]) ?_)
  refine C4 (ch:=[]) (e:=5) (l:=[(0,.int .u8 (192+r / 64)),(1,.int .u8 (128+r % 64))]) (c:=[.int .u8 (192+r / 64),.int .u8 (128+r % 64)]) (k:=(fun b3=>?_))
  refine F2 (i:=10) (ch:=[]) (t:=37) (tx:=37) (e:=5) (inf:=Tryz.t5) (s:=v) (x:=.slice (some ⟨b3,0,none⟩) 2 2) (n:=t.size) (m:=2) (j:=1) (cs:=(u8s t.data.toList)) (news:=[.int .u8 (192+r / 64),.int .u8 (128+r % 64)]) (g:=g) (S:=(inG [(b3,.cells #[.int .u8 (192+r / 64),.int .u8 (128+r % 64)] 5 (0,0))])) rfl rfl rfl rfl kr kr kr rfl rfl (.inl ⟨5,kr⟩) (fun ⟨_,h⟩=>by cases h) (fun _=>⟨5,kr⟩) kr kr kr rfl hv (SrcOf.slice _ _ _ _ Rd.lit (fun h=>by cases h)) (C7 0 rfl) kr (by intro u hu; simp only [List.mem_cons,List.not_mem_nil,or_false] at hu; (first | (rcases hu with rfl | rfl | rfl | rfl) | (rcases hu with rfl | rfl | rfl) | (rcases hu with rfl | rfl) | subst hu) <;> rfl) (by omega) (by show (t.size+2) * 1≤140737488355328; omega) (fun v4 g5 hO6=>?_)
  obtain ⟨a7,cap8,rfl,hcap9,hrd10⟩:=hO6.shape
  refine B4 (E':=[⟨4,[],.slice a7 (t.size+2) cap8⟩]) [0] [4] (k:=A0 ?_)
  refine B6 (B0 ?_)
  refine D9 (H':=(g5::H)) (fun w h=>(h.erase 0)) (B2 [.tmp 4] [.slice a7 (t.size+2) cap8] (k:=?_))
  exact ⟨_,_,rfl,own_put hO6 rfl (by rw [G0,M4,Lib.encodeRuneZ_two (r:=r) (by omega) (by omega)]; rfl) (by simp [encB,ByteArray.size,Lib.encodeRune,Lib.encodeRuneZ_two (r:=r) (by omega) (by omega)]),rfl⟩
 ·
  simp only [decide_eq_false_iff_not] at hc2
  refine A1 (A1 ?_)
  refine G_p [0,0,0] [0,1,5,25] (k:=A0 ?_)
  refine B1 (b:=decide (r<55296)) kr (fun hc11=>?_) (fun hc11=>?_)
  ·
   simp only [decide_eq_true_eq] at hc11
   refine A7 (A0 ?_)
   refine B1 (b:=decide (r<55296)) kr (fun hc12=>?_) (fun hc12=>?_)
   ·
    simp only [decide_eq_true_eq] at hc12
    refine A1 (A2 ?_)
    refine D7 (E':=[⟨38,[],.int .u8 (IntKind.wrap .u8 ((BitVec.ofInt (IntKind.bits .u8) 224 ||| BitVec.ofInt (IntKind.bits .u8) (IntKind.wrap .u8 (Int.fdiv r (2 ^ 12)))).toNat))⟩,⟨34,[],v⟩,⟨1,[],.int .i32 r⟩]) (j:=5) [0,0,0,0,0] (k:=E3 (E':=[⟨38,[],.int .u8 (224+r / 4096)⟩,⟨34,[],v⟩,⟨1,[],.int .i32 r⟩]) (by rw [hi3 (by omega) (by omega)]) ?_)
    refine D7 (E':=[⟨43,[],.int .u8 (IntKind.wrap .u8 ((BitVec.ofInt (IntKind.bits .u8) 128 ||| BitVec.ofInt (IntKind.bits .u8) (IntKind.wrap .u8 ((BitVec.ofInt (IntKind.bits .u8) (IntKind.wrap .u8 (Int.fdiv r (2 ^ 6))) &&& BitVec.ofInt (IntKind.bits .u8) 63).toNat))).toNat))⟩,⟨38,[],.int .u8 (224+r / 4096)⟩,⟨34,[],v⟩,⟨1,[],.int .i32 r⟩]) (j:=10) [0,0,0,0,0] (k:=E3 (E':=[⟨43,[],.int .u8 (128+r / 64 % 64)⟩,⟨38,[],.int .u8 (224+r / 4096)⟩,⟨34,[],v⟩,⟨1,[],.int .i32 r⟩]) (by rw [lo6 (by omega)]) ?_)
    refine D7 (E':=[⟨47,[],.int .u8 (IntKind.wrap .u8 ((BitVec.ofInt (IntKind.bits .u8) 128 ||| BitVec.ofInt (IntKind.bits .u8) (IntKind.wrap .u8 ((BitVec.ofInt (IntKind.bits .u8) (IntKind.wrap .u8 r) &&& BitVec.ofInt (IntKind.bits .u8) 63).toNat))).toNat))⟩,⟨43,[],.int .u8 (128+r / 64 % 64)⟩,⟨38,[],.int .u8 (224+r / 4096)⟩,⟨34,[],v⟩]) (j:=14) [0,0,0,0] (k:=E3 (E':=[⟨47,[],.int .u8 (128+r % 64)⟩,⟨43,[],.int .u8 (128+r / 64 % 64)⟩,⟨38,[],.int .u8 (224+r / 4096)⟩,⟨34,[],v⟩]) (by rw [lo0 (by omega)]) ?_)
    refine C4 (ch:=[]) (e:=5) (l:=[(0,.int .u8 (224+r / 4096)),(1,.int .u8 (128+r / 64 % 64)),(2,.int .u8 (128+r % 64))]) (c:=[.int .u8 (224+r / 4096),.int .u8 (128+r / 64 % 64),.int .u8 (128+r % 64)]) (k:=(fun b13=>?_))
    refine F2 (i:=15) (ch:=[]) (t:=37) (tx:=37) (e:=5) (inf:=Tryz.t5) (s:=v) (x:=.slice (some ⟨b13,0,none⟩) 3 3) (n:=t.size) (m:=3) (j:=1) (cs:=(u8s t.data.toList)) (news:=[.int .u8 (224+r / 4096),.int .u8 (128+r / 64 % 64),.int .u8 (128+r % 64)]) (g:=g) (S:=(inG [(b13,.cells #[.int .u8 (224+r / 4096),.int .u8 (128+r / 64 % 64),.int .u8 (128+r % 64)] 5 (0,0))])) rfl rfl rfl rfl kr kr kr rfl rfl (.inl ⟨5,kr⟩) (fun ⟨_,h⟩=>by cases h) (fun _=>⟨5,kr⟩) kr kr kr rfl hv (SrcOf.slice _ _ _ _ Rd.lit (fun h=>by cases h)) (C7 0 rfl) kr (by intro u hu; simp only [List.mem_cons,List.not_mem_nil,or_false] at hu; (first | (rcases hu with rfl | rfl | rfl | rfl) | (rcases hu with rfl | rfl | rfl) | (rcases hu with rfl | rfl) | subst hu) <;> rfl) (by omega) (by show (t.size+3) * 1≤140737488355328; omega) (fun v14 g15 hO16=>?_)
    obtain ⟨a17,cap18,rfl,hcap19,hrd20⟩:=hO16.shape
    refine B4 (E':=[⟨4,[],.slice a17 (t.size+3) cap18⟩]) [0] [4] (k:=A0 ?_)
    refine B6 (B0 ?_)
    refine D9 (H':=(g15::H)) (fun w h=>(h.erase 0)) (B2 [.tmp 4] [.slice a17 (t.size+3) cap18] (k:=?_))
    exact ⟨_,_,rfl,own_put hO16 rfl (by rw [G0,M4,Lib.encodeRuneZ_three (r:=r) (by omega)]; rfl) (by simp [encB,ByteArray.size,Lib.encodeRune,Lib.encodeRuneZ_three (r:=r) (by omega)]),rfl⟩
   ·
    simp only [decide_eq_false_iff_not] at hc12; omega
  ·
   simp only [decide_eq_false_iff_not] at hc11
   refine G_p [0,0,0,0,0,6,0] [0,1,5,25] (k:=A0 ?_)
   refine B1 (b:=(decide (57343<r))&&(decide (r≤65535))) kr (fun hc21=>?_) (fun hc21=>?_)
   ·
    simp only [Bool.and_eq_true,decide_eq_true_eq] at hc21
    refine A1 (A2 ?_)
    refine D7 (E':=[⟨38,[],.int .u8 (IntKind.wrap .u8 ((BitVec.ofInt (IntKind.bits .u8) 224 ||| BitVec.ofInt (IntKind.bits .u8) (IntKind.wrap .u8 (Int.fdiv r (2 ^ 12)))).toNat))⟩,⟨34,[],v⟩,⟨1,[],.int .i32 r⟩]) (j:=5) [0,0,0,0,0] (k:=E3 (E':=[⟨38,[],.int .u8 (224+r / 4096)⟩,⟨34,[],v⟩,⟨1,[],.int .i32 r⟩]) (by rw [hi3 (by omega) (by omega)]) ?_)
    refine D7 (E':=[⟨43,[],.int .u8 (IntKind.wrap .u8 ((BitVec.ofInt (IntKind.bits .u8) 128 ||| BitVec.ofInt (IntKind.bits .u8) (IntKind.wrap .u8 ((BitVec.ofInt (IntKind.bits .u8) (IntKind.wrap .u8 (Int.fdiv r (2 ^ 6))) &&& BitVec.ofInt (IntKind.bits .u8) 63).toNat))).toNat))⟩,⟨38,[],.int .u8 (224+r / 4096)⟩,⟨34,[],v⟩,⟨1,[],.int .i32 r⟩]) (j:=10) [0,0,0,0,0] (k:=E3 (E':=[⟨43,[],.int .u8 (128+r / 64 % 64)⟩,⟨38,[],.int .u8 (224+r / 4096)⟩,⟨34,[],v⟩,⟨1,[],.int .i32 r⟩]) (by rw [lo6 (by omega)]) ?_)
    refine D7 (E':=[⟨47,[],.int .u8 (IntKind.wrap .u8 ((BitVec.ofInt (IntKind.bits .u8) 128 ||| BitVec.ofInt (IntKind.bits .u8) (IntKind.wrap .u8 ((BitVec.ofInt (IntKind.bits .u8) (IntKind.wrap .u8 r) &&& BitVec.ofInt (IntKind.bits .u8) 63).toNat))).toNat))⟩,⟨43,[],.int .u8 (128+r / 64 % 64)⟩,⟨38,[],.int .u8 (224+r / 4096)⟩,⟨34,[],v⟩]) (j:=14) [0,0,0,0] (k:=E3 (E':=[⟨47,[],.int .u8 (128+r % 64)⟩,⟨43,[],.int .u8 (128+r / 64 % 64)⟩,⟨38,[],.int .u8 (224+r / 4096)⟩,⟨34,[],v⟩]) (by rw [lo0 (by omega)]) ?_)
    refine C4 (ch:=[]) (e:=5) (l:=[(0,.int .u8 (224+r / 4096)),(1,.int .u8 (128+r / 64 % 64)),(2,.int .u8 (128+r % 64))]) (c:=[.int .u8 (224+r / 4096),.int .u8 (128+r / 64 % 64),.int .u8 (128+r % 64)]) (k:=(fun b22=>?_))
    refine F2 (i:=15) (ch:=[]) (t:=37) (tx:=37) (e:=5) (inf:=Tryz.t5) (s:=v) (x:=.slice (some ⟨b22,0,none⟩) 3 3) (n:=t.size) (m:=3) (j:=1) (cs:=(u8s t.data.toList)) (news:=[.int .u8 (224+r / 4096),.int .u8 (128+r / 64 % 64),.int .u8 (128+r % 64)]) (g:=g) (S:=(inG [(b22,.cells #[.int .u8 (224+r / 4096),.int .u8 (128+r / 64 % 64),.int .u8 (128+r % 64)] 5 (0,0))])) rfl rfl rfl rfl kr kr kr rfl rfl (.inl ⟨5,kr⟩) (fun ⟨_,h⟩=>by cases h) (fun _=>⟨5,kr⟩) kr kr kr rfl hv (SrcOf.slice _ _ _ _ Rd.lit (fun h=>by cases h)) (C7 0 rfl) kr (by intro u hu; simp only [List.mem_cons,List.not_mem_nil,or_false] at hu; (first | (rcases hu with rfl | rfl | rfl | rfl) | (rcases hu with rfl | rfl | rfl) | (rcases hu with rfl | rfl) | subst hu) <;> rfl) (by omega) (by show (t.size+3) * 1≤140737488355328; omega) (fun v23 g24 hO25=>?_)
    obtain ⟨a26,cap27,rfl,hcap28,hrd29⟩:=hO25.shape
    refine B4 (E':=[⟨4,[],.slice a26 (t.size+3) cap27⟩]) [0] [4] (k:=A0 ?_)
    refine B6 (B0 ?_)
    refine D9 (H':=(g24::H)) (fun w h=>(h.erase 0)) (B2 [.tmp 4] [.slice a26 (t.size+3) cap27] (k:=?_))
    exact ⟨_,_,rfl,own_put hO25 rfl (by rw [G0,M4,Lib.encodeRuneZ_three (r:=r) (by omega)]; rfl) (by simp [encB,ByteArray.size,Lib.encodeRune,Lib.encodeRuneZ_three (r:=r) (by omega)]),rfl⟩
   ·
    simp only [Bool.and_eq_false_iff,decide_eq_false_iff_not] at hc21
    refine A1 (G_p [0,0,0,0,0,6,0] [0,1,50] (k:=?_))
    refine A0 (B1 (b:=(decide (r > 65535))&&(decide (r≤1114111))) kr (fun hc30=>?_) (fun hc30=>?_))
    ·
     simp only [Bool.and_eq_true,decide_eq_true_eq,gt_iff_lt] at hc30
     refine A1 (A2 ?_)
     refine D7 (E':=[⟨61,[],.int .u8 (IntKind.wrap .u8 ((BitVec.ofInt (IntKind.bits .u8) 240 ||| BitVec.ofInt (IntKind.bits .u8) (IntKind.wrap .u8 (Int.fdiv r (2 ^ 18)))).toNat))⟩,⟨57,[],v⟩,⟨1,[],.int .i32 r⟩]) (j:=5) [0,0,0,0,0] (k:=E3 (E':=[⟨61,[],.int .u8 (240+r / 262144)⟩,⟨57,[],v⟩,⟨1,[],.int .i32 r⟩]) (by rw [hi4 (by omega) (by omega)]) ?_)
     refine D7 (E':=[⟨66,[],.int .u8 (IntKind.wrap .u8 ((BitVec.ofInt (IntKind.bits .u8) 128 ||| BitVec.ofInt (IntKind.bits .u8) (IntKind.wrap .u8 ((BitVec.ofInt (IntKind.bits .u8) (IntKind.wrap .u8 (Int.fdiv r (2 ^ 12))) &&& BitVec.ofInt (IntKind.bits .u8) 63).toNat))).toNat))⟩,⟨61,[],.int .u8 (240+r / 262144)⟩,⟨57,[],v⟩,⟨1,[],.int .i32 r⟩]) (j:=10) [0,0,0,0,0] (k:=E3 (E':=[⟨66,[],.int .u8 (128+r / 4096 % 64)⟩,⟨61,[],.int .u8 (240+r / 262144)⟩,⟨57,[],v⟩,⟨1,[],.int .i32 r⟩]) (by rw [lo12 (by omega)]) ?_)
     refine D7 (E':=[⟨71,[],.int .u8 (IntKind.wrap .u8 ((BitVec.ofInt (IntKind.bits .u8) 128 ||| BitVec.ofInt (IntKind.bits .u8) (IntKind.wrap .u8 ((BitVec.ofInt (IntKind.bits .u8) (IntKind.wrap .u8 (Int.fdiv r (2 ^ 6))) &&& BitVec.ofInt (IntKind.bits .u8) 63).toNat))).toNat))⟩,⟨66,[],.int .u8 (128+r / 4096 % 64)⟩,⟨61,[],.int .u8 (240+r / 262144)⟩,⟨57,[],v⟩,⟨1,[],.int .i32 r⟩]) (j:=15) [0,0,0,0,0] (k:=E3 (E':=[⟨71,[],.int .u8 (128+r / 64 % 64)⟩,⟨66,[],.int .u8 (128+r / 4096 % 64)⟩,⟨61,[],.int .u8 (240+r / 262144)⟩,⟨57,[],v⟩,⟨1,[],.int .i32 r⟩]) (by rw [lo6 (by omega)]) ?_)
     refine D7 (E':=[⟨75,[],.int .u8 (IntKind.wrap .u8 ((BitVec.ofInt (IntKind.bits .u8) 128 ||| BitVec.ofInt (IntKind.bits .u8) (IntKind.wrap .u8 ((BitVec.ofInt (IntKind.bits .u8) (IntKind.wrap .u8 r) &&& BitVec.ofInt (IntKind.bits .u8) 63).toNat))).toNat))⟩,⟨71,[],.int .u8 (128+r / 64 % 64)⟩,⟨66,[],.int .u8 (128+r / 4096 % 64)⟩,⟨61,[],.int .u8 (240+r / 262144)⟩,⟨57,[],v⟩]) (j:=19) [0,0,0,0] (k:=E3 (E':=[⟨75,[],.int .u8 (128+r % 64)⟩,⟨71,[],.int .u8 (128+r / 64 % 64)⟩,⟨66,[],.int .u8 (128+r / 4096 % 64)⟩,⟨61,[],.int .u8 (240+r / 262144)⟩,⟨57,[],v⟩]) (by rw [lo0 (by omega)]) ?_)
     refine C4 (ch:=[]) (e:=5) (l:=[(0,.int .u8 (240+r / 262144)),(1,.int .u8 (128+r / 4096 % 64)),(2,.int .u8 (128+r / 64 % 64)),(3,.int .u8 (128+r % 64))]) (c:=[.int .u8 (240+r / 262144),.int .u8 (128+r / 4096 % 64),.int .u8 (128+r / 64 % 64),.int .u8 (128+r % 64)]) (k:=(fun b31=>?_))
     refine F2 (i:=20) (ch:=[]) (t:=37) (tx:=37) (e:=5) (inf:=Tryz.t5) (s:=v) (x:=.slice (some ⟨b31,0,none⟩) 4 4) (n:=t.size) (m:=4) (j:=1) (cs:=(u8s t.data.toList)) (news:=[.int .u8 (240+r / 262144),.int .u8 (128+r / 4096 % 64),.int .u8 (128+r / 64 % 64),.int .u8 (128+r % 64)]) (g:=g) (S:=(inG [(b31,.cells #[.int .u8 (240+r / 262144),.int .u8 (128+r / 4096 % 64),.int .u8 (128+r / 64 % 64),.int .u8 (128+r % 64)] 5 (0,0))])) rfl rfl rfl rfl kr kr kr rfl rfl (.inl ⟨5,kr⟩) (fun ⟨_,h⟩=>by cases h) (fun _=>⟨5,kr⟩) kr kr kr rfl hv (SrcOf.slice _ _ _ _ Rd.lit (fun h=>by cases h)) (C7 0 rfl) kr (by intro u hu; simp only [List.mem_cons,List.not_mem_nil,or_false] at hu; (first | (rcases hu with rfl | rfl | rfl | rfl) | (rcases hu with rfl | rfl | rfl) | (rcases hu with rfl | rfl) | subst hu) <;> rfl) (by omega) (by show (t.size+4) * 1≤140737488355328; omega) (fun v32 g33 hO34=>?_)
     obtain ⟨a35,cap36,rfl,hcap37,hrd38⟩:=hO34.shape
     refine B4 (E':=[⟨4,[],.slice a35 (t.size+4) cap36⟩]) [0] [4] (k:=A0 ?_)
     refine B6 (B0 ?_)
     refine D9 (H':=(g33::H)) (fun w h=>(h.erase 0)) (B2 [.tmp 4] [.slice a35 (t.size+4) cap36] (k:=?_))
     exact ⟨_,_,rfl,own_put hO34 rfl (by rw [G0,M4,Lib.encodeRuneZ_four (r:=r) (by omega) (by omega)]; rfl) (by simp [encB,ByteArray.size,Lib.encodeRune,Lib.encodeRuneZ_four (r:=r) (by omega) (by omega)]),rfl⟩
    ·
     simp only [Bool.and_eq_false_iff,decide_eq_false_iff_not,gt_iff_lt] at hc30; omega
theorem appRune_ (v:Value) (g:Grp) (t:ByteArray) (r:Int) (hv:BOwn v g t) (hr:isR r) (hs:t.size+4≤140737488355328) (W0:World) (H:List Grp):Tri Tryz.prog 50 #[v,.int .i32 r] W0 (g::H) (fun x H'=>∃ v' g',x=v'∧BOwn v' g' (t++encB r)∧H'=g'::H):=by
 obtain ⟨hr0,hr1,hr2⟩:=hr
 refine C2 (args:=[v,.int .i32 r]) (n:=16) Tryz.func50 rfl rfl (Nat.le_of_ble_eq_true rfl) ?_
 refine A1 (B3 (E':=[⟨0,[],v⟩,⟨1,[],.int .i32 r⟩]) [0] [0,1] (k:=?_))
 refine A0 (A1 ?_)
 refine A1 ?_
 have hw1:IntKind.wrap .u32 r=r:=w32u (by omega) (by omega)
 refine B3 (E':=[⟨0,[],v⟩,⟨1,[],.int .i32 r⟩,⟨7,[],.bool (decide (r≤127))⟩]) [0,0,0] [0,1,7] rfl (Eq.trans (b:=some [⟨0,[],v⟩,⟨1,[],.int .i32 r⟩,⟨7,[],.bool (decide ((IntKind.wrap .u32 r)≤127))⟩]) kr (by simp only [hw1])) (A0 ?_)
 refine B1 (b:=decide (r≤127)) kr (fun hc2=>?_) (fun hc2=>?_)
 ·
  simp only [decide_eq_true_eq] at hc2
  refine A1 ?_
  have hw3:IntKind.wrap .u8 r=r:=(by rw [w8m]; omega)
  refine A2 (D7 (E':=[⟨10,[],.int .u8 r⟩,⟨8,[],v⟩]) [0,0,0] (Eq.trans (b:=some [⟨10,[],.int .u8 (IntKind.wrap .u8 r)⟩,⟨8,[],v⟩]) kr (by simp only [hw3])) (j:=3) rfl ?_)
  refine C4 (ch:=[]) (e:=5) (l:=[(0,.int .u8 r)]) (c:=[.int .u8 r]) (k:=(fun b4=>?_))
  refine F2 (i:=4) (ch:=[]) (t:=37) (tx:=37) (e:=5) (inf:=Tryz.t5) (s:=v) (x:=.slice (some ⟨b4,0,none⟩) 1 1) (n:=t.size) (m:=1) (j:=1) (cs:=(u8s t.data.toList)) (news:=[.int .u8 r]) (g:=g) (S:=(inG [(b4,.cells #[.int .u8 r] 5 (0,0))])) rfl rfl rfl rfl kr kr kr rfl rfl (.inl ⟨5,kr⟩) (fun ⟨_,h⟩=>by cases h) (fun _=>⟨5,kr⟩) kr kr kr rfl hv (SrcOf.slice _ _ _ _ Rd.lit (fun h=>by cases h)) (C7 0 rfl) kr (by intro u hu; simp only [List.mem_cons,List.not_mem_nil,or_false] at hu; (first | (rcases hu with rfl | rfl | rfl | rfl) | (rcases hu with rfl | rfl | rfl) | (rcases hu with rfl | rfl) | subst hu) <;> rfl) (by omega) (by show (t.size+1) * 1≤140737488355328; omega) (fun v5 g6 hO7=>?_)
  obtain ⟨a8,cap9,rfl,hcap10,hrd11⟩:=hO7.shape
  refine B4 (E':=[⟨4,[],.slice a8 (t.size+1) cap9⟩]) [0] [4] (k:=A0 ?_)
  refine B6 (A4 ?_)
  refine D9 (H':=(g6::H)) (fun w h=>(h.erase 0)) (B2 [.tmp 4] [.slice a8 (t.size+1) cap9] (k:=?_))
  exact ⟨_,_,rfl,own_put hO7 rfl (by rw [G0,M4,Lib.encodeRuneZ_one (r:=r) (by omega) (by omega)]; rfl) (by simp [encB,ByteArray.size,Lib.encodeRune,Lib.encodeRuneZ_one (r:=r) (by omega) (by omega)]),rfl⟩
 ·
  simp only [decide_eq_false_iff_not] at hc2
  refine A7 (A0 ?_)
  refine A1 (A2 ?_)
  refine A5 (j:=2) [0,0] (k:=E5 Tryz.func65 (appNon_ v g t r hv ⟨hr0,hr1,hr2⟩ (by omega) (by omega) _ _) ?_)
  rintro v12 _ ⟨_,g13,rfl,hO14,rfl⟩
  refine B4 (E':=[⟨4,[],v12⟩]) [0] [4] (k:=A0 ?_)
  refine B6 (B2 [.tmp 4] [v12] (k:=?_))
  exact ⟨_,_,rfl,hO14,rfl⟩
theorem writeRune_ (b:Nat) (p:Value) (a:Option Addr) (cap:Nat) (g:Grp) (t:ByteArray) (r:Int) (hp:Bld b p) (hv:BOwn (.slice a t.size cap) g t) (hr:isR r) (hs:t.size+4≤140737488355328) (W0:World) (H:List Grp):Tri Tryz.prog 32 #[pt b,.int .i32 r] W0 ([(b,.cells #[p,.slice a t.size cap] 39 (0,0))]::g::H) (fun x H'=>∃ n,x=.tuple #[.int .i64 n,.nilIface]∧∃ v' g',BOwn v' g' (t++encB r)∧H'=bldG b (.pointer (some ⟨b,0,none⟩)) v'::g'::H):=by
 obtain ⟨hr0,hr1,hr2⟩:=hr
 refine C2 (args:=[pt b,.int .i32 r]) (n:=30) Tryz.func32 rfl rfl (Nat.le_of_ble_eq_true rfl) ?_
 refine A1 (B3 (E':=[⟨0,[],pt b⟩,⟨1,[],.int .i32 r⟩]) [0,0] [0,1] (k:=?_))
 refine A0 (A1 ?_)
 refine A2 (A5 (j:=1) [0] (k:=?_))
 refine E5 Tryz.func47 (copyCheck_ b (p) (.slice a t.size cap) hp _ _) ?_
 rintro r H' ⟨rfl,rfl⟩
 refine B4 (E':=[⟨0,[],pt b⟩,⟨1,[],.int .i32 r⟩]) [] [0,1] (k:=A0 ?_)
 refine A1 (A2 ?_)
 refine A5 (j:=3) [0,0,0] (k:=E0 (ch:=[]) (b:=b) (off:=1) (v:=.slice a t.size cap) (hA:=At.grp 0 0 rfl rfl) (hv:=rfl) (k:=?_))
 refine A9 [0,0] [0,1,6] (k:=A0 ?_)
 refine A1 (A2 ?_)
 refine A5 (j:=4) [0,0,0,0] (k:=E0 (ch:=[]) (b:=b) (off:=1) (v:=.slice a t.size cap) (hA:=At.grp 0 0 rfl rfl) (hv:=rfl) (k:=?_))
 refine A5 (j:=6) [0] (k:=GL_heap rfl (H':=(g::[(b,.cells #[pt b,.slice a t.size cap] 39 (0,0))]::H)) (fun w h=>(h.front (j:=1) rfl)) ?_)
 refine E5 Tryz.func50 (appRune_ (.slice a t.size cap) g t r hv ⟨hr0,hr1,hr2⟩ (by omega) _ _) ?_
 rintro v1 _ ⟨_,g2,rfl,hO3,rfl⟩
 obtain ⟨a4,cap5,rfl,-,-⟩:=hO3.shape
 refine A5 (j:=9) [0,0] (k:=GL_st (ch:=[]) (b:=b) (off:=1) (v:=.slice a4 ((t++encB r).size) cap5) (j:=1) (g2::[(b,.cells #[pt b,.slice a4 ((t++encB r).size) cap5] 39 (0,0))]::H) (hoff:=Nat.le_of_ble_eq_true rfl) (hfz:=(fun _ _=>J6)) (k:=?_))
 refine A9 [] [0,6] (k:=A0 ?_)
 refine A1 (A2 ?_)
 refine A5 (j:=3) [0,0,0] (k:=E0 (ch:=[]) (b:=b) (off:=1) (v:=.slice a4 ((t++encB r).size) cap5) (hA:=At.grp 1 0 rfl rfl) (hv:=rfl) (k:=?_))
 refine A9 [0,0,0,0,0] [4,5] (k:=A0 ?_)
 refine B6 (D9 (H':=([(b,.cells #[pt b,.slice a4 ((t++encB r).size) cap5] 39 (0,0))]::g2::H)) (fun w h=>(h.front (j:=1) rfl)) ?_)
 refine B2 [.tmp 4,.tmp 5] [.int .i64 (IntKind.wrap .i64 ((((t++encB r).size:Nat):Int) - ((t.size:Nat):Int))),.nilIface] (k:=?_)
 exact ⟨_,rfl,_,_,hO3,rfl⟩
theorem writeRune (b:Nat) (p v:Value) (g:Grp) (t:ByteArray) (r:Int) (hp:Bld b p) (hv:BOwn v g t) (hr:isR r) (hs:t.size+4≤140737488355328) (W0:World) (H:List Grp):Tri Tryz.prog 32 #[pt b,.int .i32 r] W0 (bldG b p v::g::H) (fun _ H'=>∃ v' g',BOwn v' g' (t++encB r)∧H'=bldG b (.pointer (some ⟨b,0,none⟩)) v'::g'::H):=by
  obtain ⟨a,cap,rfl,_,_⟩:=Go.Sw.Own.shape hv
  exact (writeRune_ b p a cap g t r hp hv hr hs W0 H).post fun v H' ⟨_,_,v',g',h1,h2⟩=>⟨H',⟨v',g',h1,h2⟩,fun _ h=>h⟩
theorem writeByte_ (b:Nat) (p v:Value) (g:Grp) (t:ByteArray) (c:UInt8) (hp:Bld b p) (hv:BOwn v g t) (hs:t.size+1≤140737488355328) (W0:World) (H:List Grp):Tri Tryz.prog 31 #[pt b,.int .u8 (c.toNat:Int)] W0 ([(b,.cells #[p,v] 39 (0,0))]::g::H) (fun x H'=>x=.nilIface∧∃ v' g',BOwn v' g' (t++⟨#[c]⟩)∧H'=bldG b (.pointer (some ⟨b,0,none⟩)) v'::g'::H):=by
 refine C2 (args:=[pt b,.int .u8 (c.toNat:Int)]) (n:=17) Tryz.func31 rfl rfl (Nat.le_of_ble_eq_true rfl) ?_
 refine A1 (G_p [0] [0,1] (k:=?_))
 refine A0 (A1 ?_)
 refine A2 (A5 (j:=1) [0] (k:=?_))
 refine E5 Tryz.func47 (copyCheck_ b (p) (v) hp _ _) ?_
 rintro r H' ⟨rfl,rfl⟩
 refine A9 [] [0,1] (k:=A0 ?_)
 refine A1 (A2 ?_)
 refine A5 (j:=4) [0,0,0,0] (k:=E0 (ch:=[]) (b:=b) (off:=1) (v:=v) (hA:=At.grp 0 0 rfl rfl) (hv:=rfl) (k:=?_))
 refine A5 (j:=6) [0] (k:=C4 (ch:=[]) (e:=5) (l:=[(0,.int .u8 (c.toNat:Int))]) (c:=[.int .u8 (c.toNat:Int)]) (k:=(fun b1=>?_)))
 refine F2 (i:=7) (ch:=[]) (t:=37) (tx:=37) (e:=5) (inf:=Tryz.t5) (s:=v) (x:=.slice (some ⟨b1,0,none⟩) 1 1) (n:=t.size) (m:=1) (j:=2) (cs:=(u8s t.data.toList)) (news:=[.int .u8 (c.toNat:Int)]) (g:=g) (S:=(inG [(b1,.cells #[.int .u8 (c.toNat:Int)] 5 (0,0))])) rfl rfl rfl rfl kr kr kr rfl rfl (.inl ⟨5,kr⟩) (fun ⟨_,h⟩=>by cases h) (fun _=>⟨5,kr⟩) kr kr kr rfl hv (SrcOf.slice _ _ _ _ Rd.lit (fun h=>by cases h)) (C7 0 rfl) kr (by intro u hu; simp only [List.mem_cons,List.not_mem_nil,or_false] at hu; (first | (rcases hu with rfl | rfl | rfl | rfl) | (rcases hu with rfl | rfl | rfl) | (rcases hu with rfl | rfl) | subst hu) <;> rfl) (by omega) (by show (t.size+1) * 1≤140737488355328; omega) (fun v2 g3 hO4=>?_)
 obtain ⟨a5,cap6,rfl,hcap7,hrd8⟩:=hO4.shape
 refine A5 (j:=10) [0,0] (k:=GL_st (ch:=[]) (b:=b) (off:=1) (v:=.slice a5 (t.size+1) cap6) (j:=1) ([(b1,.cells #[.int .u8 (c.toNat:Int)] 5 (0,0))]::[(b,.cells #[pt b,.slice a5 (t.size+1) cap6] 39 (0,0))]::g3::H) (hoff:=Nat.le_of_ble_eq_true rfl) (hfz:=(fun _ _=>J6)) (k:=?_))
 refine B4 (E':=[]) [] [] (k:=A0 ?_)
 refine A1 (B3 (E':=[⟨4,[],.nilIface⟩]) [0] [4] (k:=?_))
 refine A0 (B6 ?_)
 refine D9 (H':=([(b,.cells #[pt b,.slice a5 (t.size+1) cap6] 39 (0,0))]::g3::H)) (fun w h=>(h.erase 0)) (B2 [.tmp 4] [.nilIface] (k:=?_))
 exact ⟨rfl,_,_,own_put (s:=⟨#[c]⟩) hO4 rfl rfl rfl,rfl⟩
end Go.Proofs.YtbnfbffiehoapaaGreatDoor
namespace Go.Sw
open Go.RowKit
def dcR (s:ByteArray) (i:Nat):Int:=((Utf8.decode s i).1:Int)
def dcW (s:ByteArray) (i:Nat):Nat:=(Utf8.decode s i).2
theorem dc_rng (s:ByteArray) (i:Nat):0≤dcR s i∧dcR s i≤1114111∧1≤dcW s i∧dcW s i≤4:=by
  have hb:∀ k,(s.get! k).toNat<256:=fun k=>UInt8.toNat_lt _
  unfold dcR dcW Utf8.decode
  dsimp only
  have h0:=hb (i+0); have h1:=hb (i+1); have h2:=hb (i+2); have h3:=hb (i+3)
  simp only [Utf8.runeError]
  split
  · refine ⟨by omega,by omega,by omega,by omega⟩
  split
  · split <;> refine ⟨by omega,by omega,by omega,by omega⟩
  split
  · split <;> refine ⟨by omega,by omega,by omega,by omega⟩
  split
  · split
    · rename_i hv
      simp only [Utf8.valid,Bool.and_eq_true,decide_eq_true_eq,Bool.or_eq_true] at hv
      refine ⟨by omega,by omega,by omega,by omega⟩
    · refine ⟨by omega,by omega,by omega,by omega⟩
  · refine ⟨by omega,by omega,by omega,by omega⟩
theorem GL_rangeS {P:Program} {ops:Array Oper} {i:Nat} {Q:D0} {n:Fr} {E:Env} {W0:World} {H:List Grp} {o:Oper} {ch:List (Nat × Bool)} {t:TypeId} {x:Operand} {s:ByteArray}
    (ho:ops[i]? = some o) (hop:o.op=.range t x) (hx:evO E ch x=some (.string s)) (hu:P.underlying t=some .string)
    (hch:D5 ops E o.guard=some ch) (hd:F1 n ch o.dst=true) (hsure:H0 E ch=true)
    (kk:∀ b,GL false P ops (i+1) Q n (Env.put E o.dst ch (.pointer (some ⟨b,0,none⟩))) W0 ([(b,.stringIter s 0)]::H)):GL false P ops i Q n E W0 H :=
  GL_new (f:=fun b=>.pointer (some ⟨b,0,none⟩)) ho hch hd hsure (fun r hr w=>by
    unfold execOp; simp only [hop]; rw [hr _ _ hx]
    simp only [Instr.range,Sem.run_bind,run_underlying hu,Result.andThen_ok,Sem.run_pure,run_newObj]; rfl) kk
theorem GL_nextS {P:Program} {ops:Array Oper} {i:Nat} {Q:D0} {n:Fr} {E:Env} {W0:World} {H:List Grp} {o:Oper} {ch:List (Nat × Bool)} {x:Operand} {it p j:Nat} {s:ByteArray}
    (ho:ops[i]? = some o) (hop:o.op=.next x true) (hx:evO E ch x=some (.pointer (some ⟨it,0,none⟩)))
    (hch:D5 ops E o.guard=some ch) (hd:F1 n ch o.dst=true) (hsure:H0 E ch=true)
    (hj:H[j]? = some [(it,.stringIter s p)])
    (kEnd:¬ p<s.size→GL false P ops (i+1) Q n (Env.put E o.dst ch (.tuple #[.bool false])) W0 H)
    (kMore:p<s.size→GL false P ops (i+1) Q n (Env.put E o.dst ch (.tuple #[.bool true,.int .i64 ((p:Nat):Int),.int .i32 (dcR s p)])) W0 (H.set j [(it,.stringIter s (p+dcW s p))])) :
    GL false P ops i Q n E W0 H:=by
  refine GL_eff (R:=fun v H1=>(¬ p<s.size∧v=.tuple #[.bool false]∧H1=H)∨(p<s.size∧v=.tuple #[.bool true,.int .i64 ((p:Nat):Int),.int .i32 (dcR s p)]∧H1=H.set j [(it,.stringIter s (p+dcW s p))]))
    ho hch hd hsure (fun rr hr w hs=>?_) (by
      rintro v H1 (⟨h1,rfl,rfl⟩ | ⟨h1,rfl,rfl⟩)
      · exact kEnd h1
      · exact kMore h1)
  have hi:([(it,Obj.stringIter s p)]:Grp)[0]? = some (it,.stringIter s p):=rfl
  have hblk:=hs.has _ (List.mem_flatten.2 ⟨_,List.mem_of_getElem? hj,List.mem_of_getElem? hi⟩)
  have hit:=run_getObj_iter (P:=P) hblk rfl
  have hexec:(execOp rr o).run P w=((Instr.next (.pointer (some ⟨it,0,none⟩)) true o.type).run P w).andThen fun v w'=>.ok (.value v) w':=by
    unfold execOp
    simp only [hop]
    rw [hr _ _ hx]
    simp only [Sem.run_bind,Sem.run_pure]
  by_cases hp:p<s.size
  · obtain ⟨w',hr',hw'⟩:=Wr_setObj (P:=P) hblk (o':=.stringIter s (p+dcW s p)) rfl
    refine ⟨_,w',_,.inr ⟨hp,rfl,rfl⟩,hs.wr hj hi hw',.inl ?_⟩
    rw [hexec]
    have e:(Instr.next (.pointer (some ⟨it,0,none⟩)) true o.type).run P w=.ok (.tuple #[.bool true,.int .i64 ((p:Nat):Int),.int .i32 (dcR s p)]) w':=by
      have hr2:(setObj it (.stringIter s (p+(Utf8.decode s p).2))).run P w=.ok () w':=hr'
      simp only [Instr.next,Sem.run_bind,hit,Result.andThen_ok,if_pos hp]
      cases hd:Utf8.decode s p with
      | mk c wd =>
        rw [hd] at hr2
        simp only [hr2,Result.andThen_ok,Sem.run_pure]
        unfold dcR
        rw [hd]; rfl
    rw [e]; rfl
  · refine ⟨_,w,_,.inl ⟨hp,rfl,rfl⟩,hs,.inl ?_⟩
    rw [hexec]
    simp only [Instr.next,Sem.run_bind,hit,Result.andThen_ok,if_neg hp,Sem.run_pure]
end Go.Sw
namespace Go.Proofs.YtbnfbffiehoapaaGreatDoor
open Go.Sw Go.Sha Go.Esc
theorem bown0:BOwn (.slice none 0 0) [] .empty:=by simpa [BOwn,u8s] using Go.Sw.Own.nil
theorem I0 (b:Nat) (p v:Value) (g:Grp) (t s:ByteArray) (hp:Bld b p) (hv:BOwn v g t) (hs:t.size+s.size≤140737488355328) (W0:World) (H:List Grp):Tri Tryz.prog 28 #[pt b,.string s] W0 (bldG b p v::g::H) (fun _ H'=>∃ v' g',BOwn v' g' (t++s)∧H'=bldG b (.pointer (some ⟨b,0,none⟩)) v'::g'::H) :=
  (writeString b p v g t s hp hv hs W0 H).post fun v H' ⟨_,v',g',h1,h2⟩=>⟨H',⟨v',g',h1,h2⟩,fun _ h=>h⟩
theorem G9 (b:Nat) (p v:Value) (g:Grp) (t:ByteArray) (c:UInt8) (hp:Bld b p) (hv:BOwn v g t) (hs:t.size+1≤140737488355328) (W0:World) (H:List Grp):Tri Tryz.prog 31 #[pt b,.int .u8 (c.toNat:Int)] W0 (bldG b p v::g::H) (fun _ H'=>∃ v' g',BOwn v' g' (t++⟨#[c]⟩)∧H'=bldG b (.pointer (some ⟨b,0,none⟩)) v'::g'::H) :=
  (writeByte_ b p v g t c hp hv hs W0 H).post fun v H' ⟨_,v',g',h1,h2⟩=>⟨H',⟨v',g',h1,h2⟩,fun _ h=>h⟩
theorem isR_dc (s:ByteArray) (q:Nat):isR (dcR s q):=by unfold dcR; rw [← Lib.decodeL_drop]; exact decodeL_isR _
theorem drop_ne {s:ByteArray} {q:Nat} (h:q<s.size):s.data.toList.drop q≠[]:=by
  intro h0; have:=congrArg List.length h0; rw [List.length_drop,Array.length_toList] at this
  have e:s.size=s.data.size:=rfl
  simp only [List.length_nil] at this; omega
theorem L3 {s:ByteArray} {q:Nat} (h:q<s.size):A6 (s.data.toList.drop q)=dcR s q::A6 (s.data.toList.drop (q+dcW s q)):=by
  rw [L6 _ (drop_ne h),List.drop_drop]; unfold dcR dcW; rw [Lib.decodeL_drop]
theorem dcW_le {s:ByteArray} {q:Nat} (h:q<s.size):q+dcW s q≤s.size:=by
  have:=Lib.decodeL_le _ (drop_ne h)
  rw [Lib.decodeL_drop,List.length_drop,Array.length_toList] at this
  have e:s.size=s.data.size:=rfl
  unfold dcW; omega
theorem runes_end {s:ByteArray} {q:Nat} (h:s.size≤q):A6 (s.data.toList.drop q)=[]:=by
  rw [List.drop_eq_nil_of_le (by rw [Array.length_toList]; exact h)]; rfl
theorem sz1 (b:UInt8):(⟨#[b]⟩:ByteArray).size=1:=rfl
theorem ls1 (b:UInt8):(⟨#[b]⟩:ByteArray).data.toList=[b]:=rfl
theorem ba_eq {o:ByteArray} {l:List UInt8} (h:o.data.toList=l):o=⟨l.toArray⟩:=by subst h; rfl
theorem E7 (a b:ByteArray):(a++b).data.toList=a.data.toList++b.data.toList:=by rw [ByteArray.data_append,Array.toList_append]
theorem C6 (a b:ByteArray):(a++b).size=a.size+b.size:=by simp
theorem plainF_ (r:Int) (W0:World) (H:List Grp):Tri Tryz.prog 44 #[.int .i32 r] W0 H (fun v H'=>v=.bool (K9 r)∧H'=H):=by
 refine C2 (args:=[.int .i32 r]) (n:=25) Tryz.func44 rfl rfl (Nat.le_of_ble_eq_true rfl) ?_
 refine A1 (B3 (E':=[⟨0,[],.int .i32 r⟩]) [0] [0] (k:=?_))
 refine A0 (A1 ?_)
 refine G_p [0,0,0,0,0,6,0,0,0,6,0,0,0,5,0,0,0,5,0,0,0,5,0] [2] (k:=A0 ?_)
 refine B6 (B2 [.tmp 2] [.bool ((((((decide (r ≥ 32))&&(r != 65534))&&(r != 65535))||(r==9))||(r==10))||(r==13))] (k:=?_))
 refine ⟨congrArg Value.bool ?_,rfl⟩
 unfold K9; rfl
theorem keepPlain_ (s:ByteArray) (hs:s.size≤1000000000000) (W0:World) (H:List Grp):Tri Tryz.prog 43 #[.string s,.func (.func 44) #[] #[]] W0 H (fun v H'=>v=.string ⟨(G5 s.data.toList).toArray⟩∧H'=H):=by
 refine C2 (args:=[.string s,.func (.func 44) #[] #[]]) (n:=19) Tryz.func43 rfl rfl (Nat.le_of_ble_eq_true rfl) ?_
 refine A1 (G_p [0] [0,1] (k:=?_))
 refine A0 (A1 ?_)
 refine A2 (N1 (ch:=[]) (z:=.agg #[.pointer none,.slice none 0 0]) (k:=(fun b1=>?_)))
 refine GL_heap rfl (H':=([(b1,.cells #[.pointer none,.slice none 0 0] 39 (0,0))]::[]::H)) (fun w h=>h.flat (List.Perm.refl _)) (A9 [] [0,1,5] (k:=?_))
 refine A0 (A1 ?_)
 refine A1 (A2 ?_)
 refine A5 (j:=1) [0] (k:=GL_rangeS (i:=1) (ch:=[]) (s:=s) rfl rfl kr kr kr kr kr (fun it2=>?_))
 refine A9 [] [1,5,9] (k:=A0 ?_)
 refine B8 (G_heap (H':=([(b1,.cells #[.pointer none,.slice none 0 0] 39 (0,0))]::[]::[(it2,.stringIter s 0)]::H)) (fun w h=>((h.front (j:=2) rfl).front (j:=2) rfl)) ?_)
 refine M2 (EI:=(fun ξ:Value × Value × Grp × ByteArray × Nat=>[⟨1,[],.func (.func 44) #[] #[]⟩,⟨5,[],pt b1⟩,⟨9,[],pt it2⟩])) (HI:=(fun ξ:Value × Value × Grp × ByteArray × Nat=>([(b1,.cells #[ξ.1,ξ.2.1] 39 (0,0))]::ξ.2.2.1::[(it2,.stringIter s ξ.2.2.2.2)]::H))) (Φ:=(fun ξ:Value × Value × Grp × ByteArray × Nat=>(Bld b1 ξ.1)∧(BOwn ξ.2.1 ξ.2.2.1 ξ.2.2.2.1)∧(ξ.2.2.2.2≤s.size)∧(ξ.2.2.2.1.size≤4 * ξ.2.2.2.2)∧(ξ.2.2.2.1.data.toList++C3 ((A6 (s.data.toList.drop ξ.2.2.2.2)).filter K9)=G5 s.data.toList))) (μ:=(fun ξ:Value × Value × Grp × ByteArray × Nat=>s.size - ξ.2.2.2.2)) (s0:=(.pointer none,.slice none 0 0,[],.empty,0)) [1,5,9] kr rfl ⟨bld0,bown0,(by (try dsimp only); omega),(Nat.zero_le _),(by rfl)⟩ ?_
 rintro ⟨p,v,g,t,q⟩ ⟨hbp,hB,hq,ht,hT⟩
 dsimp only at hbp hB hq ht hT
 refine A1 (A2 ?_)
 refine GL_nextS (i:=0) (ch:=[]) (it:=it2) (p:=q) (s:=s) (j:=2) rfl rfl kr kr kr kr rfl (fun hend3=>?_) (fun hmore4=>?_)
 ·
  have hxe:=hend3
  refine A9 [0] [1,5,9,10,11] (k:=A0 ?_)
  refine A1 (D6 kr ?_)
  refine G8 (B5 ?_)
  refine B5 (C9 ?_)
  refine A0 (A1 ?_)
  refine A2 (E5 Tryz.func29 (I5 b1 (p) (v) g t hB (by omega) _ _) ?_)
  rintro _ _ ⟨rfl,rfl⟩
  refine B4 (E':=[⟨4,[],.string t⟩]) [0] [4] (k:=A0 ?_)
  refine B6 (D9 (H':=H) (fun w h=>((h.erase 1).erase 0)) ?_)
  refine B2 [.tmp 4] [.string t] (k:=?_)
  exact ⟨congrArg Value.string (ba_eq (by rw [← hT,runes_end (by omega),List.filter_nil,encL_nil,List.append_nil])),rfl⟩
 ·
  have hdc:=dc_rng s q
  have hxm:=hmore4
  refine A9 [0] [1,5,9,10,11] (k:=A0 ?_)
  refine A1 (B9 kr ?_)
  refine A7 (A0 ?_)
  refine B8 (A1 ?_)
  refine G_p [0,0] [1,5,7,9] (k:=A0 ?_)
  refine A1 (A2 ?_)
  refine A5 (j:=2) [0,0] (k:=I2 Tryz.func44 (plainF_ (dcR s q) _ _) ?_)
  refine A9 [] [1,5,7,9,15] (k:=A0 ?_)
  refine B1 (b:=K9 (dcR s q)) kr (fun hc5=>?_) (fun hc5=>?_)
  ·
   have hc:=hc5
   refine A2 (A5 (j:=1) [0] (k:=?_))
   refine E5 (vs:=[pt b1,.int .i32 (dcR s q)]) Tryz.func32 (writeRune b1 (p) (v) g t (dcR s q) hbp hB (isR_dc _ _) (by omega) _ _) ?_
   rintro _ _ ⟨v6,g7,hB8,rfl⟩
   refine A9 [] [1,5,9] (k:=B7 ?_)
   refine E9 (s':=(pt b1,v6,g7,(t++encB (dcR s q)),q+dcW s q)) [1,5,9] kr rfl ⟨bld1,hB8,(dcW_le hxm),(by dsimp only; first | (have:=encB_size (dcR s q); rw [C6]; omega) | omega),(by dsimp only; rw [← hT,L3 hxm,List.filter_cons]; first | (rw [if_pos hc,L0,E7,G0,List.append_assoc]) | (rw [if_neg (by rw [hc]; decide)]))⟩ (by (try dsimp only); omega)
  ·
   have hc:=hc5
   refine A7 (B7 ?_)
   refine E9 (s':=(p,v,g,t,q+dcW s q)) [1,5,9] kr rfl ⟨hbp,hB,(dcW_le hxm),(by dsimp only; first | (have:=encB_size (dcR s q); rw [C6]; omega) | omega),(by dsimp only; rw [← hT,L3 hxm,List.filter_cons]; first | (rw [if_pos hc,L0,E7,G0,List.append_assoc]) | (rw [if_neg (by rw [hc]; decide)]))⟩ (by (try dsimp only); omega)
theorem plain_ (s:ByteArray) (hs:s.size≤1000000000000) (W0:World) (H:List Grp):Tri Tryz.prog 25 #[.string s] W0 H (fun v H'=>v=.string (bk (G5 s.data.toList))∧H'=H):=by
 refine C2 (args:=[.string s]) (n:=5) Tryz.func25 rfl rfl (Nat.le_of_ble_eq_true rfl) ?_
 refine A1 (B3 (E':=[⟨0,[],.string s⟩]) [0] [0] (k:=?_))
 refine A0 (A1 ?_)
 refine A2 (A5 (j:=1) [0] (k:=?_))
 refine I2 Tryz.func43 (keepPlain_ s (by omega) _ _) (A9 [0] [2] (k:=?_))
 refine A0 (B6 ?_)
 refine B2 [.tmp 2] [.string (bk (G5 s.data.toList))] (k:=?_)
 exact ⟨rfl,rfl⟩
end Go.Proofs.YtbnfbffiehoapaaGreatDoor
namespace Go.Proofs
open Go.Shelf
def Tryz.laysM279_ren:Go.Shelf.Ren:=⟨fun | 279=>97 | 316=>116 | n=>n,fun | 9=>9 | 168=>139 | 75=>42 | 210=>158 | 3=>3 | 4=>4 | 37=>37 | 0=>0 | 127=>75 | 80=>45 | 5=>5 | n=>n,fun | 15=>4 | n=>n⟩
theorem Tryz.laysM279:Go.Proofs.LaysM.n279 Tryz.prog Tryz.laysM279_ren:={
  mixed:=by kernel_rfl
  f279:=Tryz.func97.trans (congrArg some (by kernel_rfl))
  f316:=Tryz.func116.trans (congrArg some (by kernel_rfl))
  t0:=Tryz.underlying0
  a0:=Tryz.isAgg0
  z0:=Tryz.sizeOf0
  v0:=Tryz.zeroValue0
  t3:=Tryz.underlying3
  a3:=Tryz.isAgg3
  z3:=Tryz.sizeOf3
  v3:=Tryz.zeroValue3
  t4:=Tryz.underlying4
  a4:=Tryz.isAgg4
  z4:=Tryz.sizeOf4
  v4:=Tryz.zeroValue4
  t9:=Tryz.underlying9
  a9:=Tryz.isAgg9
  z9:=Tryz.sizeOf9
  v9:=Tryz.zeroValue9
  t37:=Tryz.underlying37
  a37:=Tryz.isAgg37
  z37:=Tryz.sizeOf37
  v37:=Tryz.zeroValue37
  t75:=Tryz.underlying42
  a75:=Tryz.isAgg42
  z75:=Tryz.sizeOf42
  v75:=Tryz.zeroValue42
  t127:=Tryz.underlying75
  a127:=Tryz.isAgg75
  z127:=Tryz.sizeOf75
  v127:=Tryz.zeroValue75
  t168:=Tryz.underlying139
  a168:=Tryz.isAgg139
  z168:=Tryz.sizeOf139
  v168:=Tryz.zeroValue139
  t210:=Tryz.underlying158
  a210:=Tryz.isAgg158
  z210:=Tryz.sizeOf158
  v210:=Tryz.zeroValue158
  g15:=by kernel_rfl
  t5:=Tryz.underlying5
  a5:=Tryz.isAgg5
  z5:=Tryz.sizeOf5
  v5:=Tryz.zeroValue5
  t80:=Tryz.underlying45
  a80:=Tryz.isAgg45
  z80:=Tryz.sizeOf45
  v80:=Tryz.zeroValue45
  i0:=by kernel_rfl
  i3:=by kernel_rfl
  i4:=by kernel_rfl
  i5:=by kernel_rfl
  i9:=by kernel_rfl
  i37:=by kernel_rfl
  i75:=by kernel_rfl
  i80:=by kernel_rfl
  i127:=by kernel_rfl
  i168:=by kernel_rfl
  i210:=by kernel_rfl
  m15:=by kernel_rfl }
open Go.RowKit in
theorem Tryz.strconv_syntaxError (fn s:ByteArray) (ev:Value) (w:World) (hlim:s.size≤281474976710656) (hv:w.cell? ⟨4,0,none⟩=some ev) (hev:ev=.nilIface∨∃ te pe,ev=.iface te pe) :
    Calls Tryz.prog 97 #[.string fn,.string s] w fun e w'=>∃ N,e=.returned (.pointer (some ⟨N,0,none⟩))∧w.heap.size≤N∧w'.heap[N]? = some (.cells #[.string fn,.string s,ev] 158 (0,0))∧Below w.heap.size w w':=Any.strconv_syntaxError Tryz.laysM279 fn s ev w hlim hv hev
def Tryz.lays105_ren:Go.Shelf.Ren:=⟨fun | 105=>54 | 212=>68 | 99=>69 | 165=>70 | 166=>28 | 170=>71 | 169=>29 | 263=>86 | 264=>87 | 206=>79 | 240=>47 | 241=>88 | 276=>61 | 277=>106 | n=>n,fun | 9=>9 | 3=>3 | 4=>4 | 20=>20 | 0=>0 | 46=>53 | 109=>90 | 5=>5 | 72=>39 | 76=>43 | 51=>59 | 146=>119 | 53=>86 | 148=>121 | 70=>36 | 37=>37 | 75=>42 | 127=>75 | 164=>84 | 80=>45 | n=>n,fun | n=>n⟩
theorem Tryz.lays105:Go.Proofs.Lays.n105 Tryz.prog Tryz.lays105_ren:={
  mixed:=by kernel_rfl
  f99:=Tryz.func69.trans (congrArg some (by kernel_rfl))
  f105:=Tryz.func54.trans (congrArg some (by kernel_rfl))
  f165:=Tryz.func70.trans (congrArg some (by kernel_rfl))
  f166:=Tryz.func28.trans (congrArg some (by kernel_rfl))
  f169:=Tryz.func29.trans (congrArg some (by kernel_rfl))
  f170:=Tryz.func71.trans (congrArg some (by kernel_rfl))
  f206:=Tryz.func79.trans (congrArg some (by kernel_rfl))
  f212:=Tryz.func68.trans (congrArg some (by kernel_rfl))
  f240:=Tryz.func47.trans (congrArg some (by kernel_rfl))
  f241:=Tryz.func88.trans (congrArg some (by kernel_rfl))
  f263:=Tryz.func86.trans (congrArg some (by kernel_rfl))
  f264:=Tryz.func87.trans (congrArg some (by kernel_rfl))
  f276:=Tryz.func61.trans (congrArg some (by kernel_rfl))
  f277:=Tryz.func106.trans (congrArg some (by kernel_rfl))
  t0:=Tryz.underlying0
  a0:=Tryz.isAgg0
  z0:=Tryz.sizeOf0
  v0:=Tryz.zeroValue0
  t3:=Tryz.underlying3
  a3:=Tryz.isAgg3
  z3:=Tryz.sizeOf3
  v3:=Tryz.zeroValue3
  t4:=Tryz.underlying4
  a4:=Tryz.isAgg4
  z4:=Tryz.sizeOf4
  v4:=Tryz.zeroValue4
  t5:=Tryz.underlying5
  a5:=Tryz.isAgg5
  z5:=Tryz.sizeOf5
  v5:=Tryz.zeroValue5
  t9:=Tryz.underlying9
  a9:=Tryz.isAgg9
  z9:=Tryz.sizeOf9
  v9:=Tryz.zeroValue9
  t20:=Tryz.underlying20
  a20:=Tryz.isAgg20
  z20:=Tryz.sizeOf20
  v20:=Tryz.zeroValue20
  t37:=Tryz.underlying37
  a37:=Tryz.isAgg37
  z37:=Tryz.sizeOf37
  v37:=Tryz.zeroValue37
  t46:=Tryz.underlying53
  a46:=Tryz.isAgg53
  z46:=Tryz.sizeOf53
  v46:=Tryz.zeroValue53
  t51:=Tryz.underlying59
  a51:=Tryz.isAgg59
  z51:=Tryz.sizeOf59
  v51:=Tryz.zeroValue59
  t53:=Tryz.underlying86
  a53:=Tryz.isAgg86
  z53:=Tryz.sizeOf86
  v53:=Tryz.zeroValue86
  t70:=Tryz.underlying36
  a70:=Tryz.isAgg36
  z70:=Tryz.sizeOf36
  v70:=Tryz.zeroValue36
  t72:=Tryz.underlying39
  a72:=Tryz.isAgg39
  z72:=Tryz.sizeOf39
  v72:=Tryz.zeroValue39
  t75:=Tryz.underlying42
  a75:=Tryz.isAgg42
  z75:=Tryz.sizeOf42
  v75:=Tryz.zeroValue42
  t76:=Tryz.underlying43
  a76:=Tryz.isAgg43
  z76:=Tryz.sizeOf43
  v76:=Tryz.zeroValue43
  t109:=Tryz.underlying90
  a109:=Tryz.isAgg90
  z109:=Tryz.sizeOf90
  v109:=Tryz.zeroValue90
  t127:=Tryz.underlying75
  a127:=Tryz.isAgg75
  z127:=Tryz.sizeOf75
  v127:=Tryz.zeroValue75
  t146:=Tryz.underlying119
  a146:=Tryz.isAgg119
  z146:=Tryz.sizeOf119
  v146:=Tryz.zeroValue119
  t148:=Tryz.underlying121
  a148:=Tryz.isAgg121
  z148:=Tryz.sizeOf121
  v148:=Tryz.zeroValue121
  t164:=Tryz.underlying84
  a164:=Tryz.isAgg84
  z164:=Tryz.sizeOf84
  v164:=Tryz.zeroValue84 }
theorem Tryz.Builder_Extra_105:Builder.Extra Tryz.prog Tryz.lays105_ren:={
  sizeBuilder:=by kernel_rfl
  liesBuilder:=by kernel_rfl
  t5:=Tryz.underlying5
  a5:=Tryz.isAgg5
  z5:=Tryz.sizeOf5
  v5:=Tryz.zeroValue5
  infoByte:=by kernel_rfl
  cellsByte:=by kernel_rfl
  sizeByte:=by kernel_rfl
  neB5:=by decide }
open Go.RowKit Go.Lib in
theorem Tryz.strings_Repeat (s:ByteArray) (c:Nat) (w:World) (hc:c≤9223372036854775807) (hlen:s.size * c≤140737488355328) :
    Calls Tryz.prog 54 #[.string s,.int .i64 c] w fun e w'=>e=.returned (.string ⟨(Lib.repeatL s.data.toList c).toArray⟩)∧Below w.heap.size w w':=Any.strings_Repeat Tryz.lays105 Tryz.Builder_Extra_105 s c w hc hlen
end Go.Proofs
namespace Go.Proofs.YtbnfbffiehoapaaGreatDoor
open Go.Sw Go.Sha Go.Esc
theorem lowC:∀ n:Fin 256,(digC (n.val:Int)=if 48≤(n.val:Int)∧(n.val:Int)≤57 then (n.val:Int) - 48 else if 97≤IntKind.wrap .u8 ((BitVec.ofInt (IntKind.bits .u8) (n.val:Int) ||| BitVec.ofInt (IntKind.bits .u8) 32).toNat)∧IntKind.wrap .u8 ((BitVec.ofInt (IntKind.bits .u8) (n.val:Int) ||| BitVec.ofInt (IntKind.bits .u8) 32).toNat)≤102 then IntKind.wrap .u8 ((BitVec.ofInt (IntKind.bits .u8) (n.val:Int) ||| BitVec.ofInt (IntKind.bits .u8) 32).toNat) - 87 else -1)∧0≤IntKind.wrap .u8 ((BitVec.ofInt (IntKind.bits .u8) (n.val:Int) ||| BitVec.ofInt (IntKind.bits .u8) 32).toNat)∧IntKind.wrap .u8 ((BitVec.ofInt (IntKind.bits .u8) (n.val:Int) ||| BitVec.ofInt (IntKind.bits .u8) 32).toNat)<256:=by decide +kernel
def lowI (c:Int):Int:=IntKind.wrap .u8 ((BitVec.ofInt (IntKind.bits .u8) c ||| BitVec.ofInt (IntKind.bits .u8) 32).toNat)
theorem low_dig {c:Int} (h0:0≤c) (h1:c<256):(digC c=if 48≤c∧c≤57 then c - 48 else if 97≤lowI c∧lowI c≤102 then lowI c - 87 else -1)∧0≤lowI c∧lowI c<256:=by
  have:=lowC ⟨c.toNat,by omega⟩
  simp only [show ((c.toNat:Nat):Int)=c by omega] at this
  exact this
def dgI (c:Int):Int:=if 48≤c∧c≤57 then c - 48 else lowI c - 87
theorem dgI1 {c:Int} (h:48≤c∧c≤57):IntKind.wrap .u8 (c - 48)=dgI c:=by rw [w8m]; unfold dgI; rw [if_pos h]; omega
theorem dgI2 {c:Int} (h0:¬ (48≤c∧c≤57)) (h:97≤lowI c∧lowI c≤122):IntKind.wrap .u8 (IntKind.wrap .u8 (lowI c - 97)+10)=dgI c:=by rw [w8m,w8m]; unfold dgI; rw [if_neg h0]; omega
theorem dg_ok {c base:Int} (h:(48≤c∧c≤57)∨(97≤lowI c∧lowI c≤122)) (hc:0≤c∧c<256) (hb:10≤base∧base≤16):(dgI c<base→digB c base=dgI c∧0≤dgI c)∧(base≤dgI c→digB c base<0):=by
  have hl:=low_dig hc.1 hc.2
  have h1:=hl.1; have h2:=hl.2
  unfold dgI digB; rw [h1]
  refine ⟨fun h3=>?_,fun h3=>?_⟩ <;> (repeat' split) <;> (try split at h3) <;> omega
theorem dg_no {c base:Int} (h0:¬ (48≤c∧c≤57)) (h:¬ (97≤lowI c∧lowI c≤122)) (hc:0≤c∧c<256) (hb:10≤base):digB c base<0:=by
  have hl:=low_dig hc.1 hc.2
  have h1:=hl.1
  unfold digB; rw [h1]; (repeat' split) <;> omega
theorem byte_rng (b:UInt8):0≤(b.toNat:Int)∧(b.toNat:Int)<256:=⟨Int.natCast_nonneg _,by have:=b.toNat_lt; omega⟩
theorem size0 {s:ByteArray} (h:(s.toList==(ByteArray.mk #[]).toList)=true):s.size=0:=by
  rw [beq_iff_eq,Lib.toList_data,Lib.toList_data] at h
  have:=congrArg List.length h
  rw [Array.length_toList] at this; exact this
theorem pow16 {k:Nat} (h:k≤7):(16:Int) ^ k≤268435456:=by
  have:(16:Nat) ^ k≤16 ^ 7:=Nat.pow_le_pow_right (by decide) h
  have e:((16 ^ k:Nat):Int)=(16:Int) ^ k:=by simp
  rw [← e]; omega
theorem w64u {x:Int} (h0:0≤x) (h1:x<18446744073709551616):IntKind.wrap .u64 x=x:=by
  rw [show IntKind.wrap .u64 x=x % 18446744073709551616 from by first | rfl | simp [IntKind.wrap,IntKind.bits,IntKind.signed]]; omega
theorem M0 {base a n:Int} {l:List UInt8} {k:Nat} (hV:numV base a l=numV base n (l.drop k)) (hk:k<l.length) (h:digB ((l.getD k 0).toNat:Int) base<0):numV base a l=none:=by
  rw [hV,H5 _ hk,M1,if_pos h]
theorem lower_ (c:Int) (W0:World) (H:List Grp):Tri Tryz.prog 95 #[.int .u8 c] W0 H (fun v H'=>v=.int .u8 (lowI c)∧H'=H):=by
 refine C2 (args:=[.int .u8 c]) (n:=5) Tryz.func95 rfl rfl (Nat.le_of_ble_eq_true rfl) ?_
 refine A1 (B3 (E':=[⟨0,[],.int .u8 c⟩]) [0] [0] (k:=?_))
 refine A0 (A1 ?_)
 refine G_p [0,0,0] [2] (k:=A0 ?_)
 refine B6 (B2 [.tmp 2] [.int .u8 (IntKind.wrap .u8 ((BitVec.ofInt (IntKind.bits .u8) c ||| BitVec.ofInt (IntKind.bits .u8) 32).toNat))] (k:=?_))
 exact ⟨rfl,rfl⟩
theorem inner10_ (s:ByteArray) (h0:0<s.size) (hs:s.size≤7) (W0:World) (H:List Grp):Tri Tryz.prog 80 #[.string s,.int .i64 10,.int .i64 32] W0 H (fun v H'=>((∃ n,numV 10 0 s.data.toList=some n∧0≤n∧n<16 ^ s.size∧v=.tuple #[.int .u64 n,.nilIface])∨(numV 10 0 s.data.toList=none∧v=.tuple #[.int .u64 0,.iface 137 (.int .i64 2)]))∧H'=H):=by
 have hlen:s.data.toList.length=s.size:=Array.length_toList
 refine C2 (args:=[.string s,.int .i64 10,.int .i64 32]) (n:=172) Tryz.func80 rfl rfl (Nat.le_of_ble_eq_true rfl) ?_
 refine A1 (G_p [0,0] [0,1,2] (k:=?_))
 refine A0 (A1 ?_)
 refine A1 (G_p [0,0] [0,1,2,19] (k:=?_))
 refine A0 (B1 (b:=s.toList==(ByteArray.mk #[]).toList) kr (fun hc1=>?_) (fun hc1=>?_))
 ·
  exact absurd (size0 hc1) (by omega)
 ·
  skip
  refine A7 (A0 ?_)
  refine A1 (G_p [0,0,0] [0,1,2,8] (k:=?_))
  refine A0 (A1 ?_)
  refine G_p [0,0] [0,1,2,8,9] (k:=A0 ?_)
  refine A1 (B8 ?_)
  refine A1 (G_p [0,0,0,0,0,2,0] [0,1,2,8,9,25] (k:=?_))
  refine A0 (B9 kr ?_)
  refine A7 (B7 ?_)
  refine A0 (A1 ?_)
  refine A1 (B3 (E':=[⟨0,[],.string s⟩,⟨1,[],.int .i64 10⟩,⟨2,[],.int .i64 32⟩,⟨8,[],.bool false⟩,⟨9,[],.string s⟩,⟨77,[],.bool false⟩]) [0,0] [0,1,2,8,9,77] (k:=?_))
  refine A0 (D6 kr ?_)
  refine A1 (G_p [0,0,0,0,0,3] [0,1,2,8,9,83] (k:=?_))
  refine A0 (D6 kr ?_)
  refine A7 (A0 ?_)
  refine A1 (G_p [0] [0,1,2,8,9] (k:=?_))
  refine A0 (A1 ?_)
  refine A1 (G_p [0] [0,1,2,8,9,85] (k:=?_))
  refine A0 (B8 ?_)
  refine A1 (G_p [0,0] [0,1,2,8,9,85,90] (k:=?_))
  refine A0 (B9 kr ?_)
  refine G_p [0] [0,1,2,8,9,10] (k:=B7 ?_)
  refine A0 (A1 ?_)
  refine B3 (E':=[⟨0,[],.string s⟩,⟨1,[],.int .i64 10⟩,⟨8,[],.bool false⟩,⟨9,[],.string s⟩,⟨10,[],.int .u64 1844674407370955162⟩,⟨11,[],.int .u64 4294967295⟩]) [0,0,0,0,0] [0,1,8,9,10,11] (k:=A0 ?_)
  refine A1 (G_p [0] [0,1,8,9,10,11,12] (k:=?_))
  refine A0 (A1 ?_)
  refine G_p [0] [0,1,8,9,10,11,12,13] (k:=A0 ?_)
  refine A1 (A1 ?_)
  refine A2 (A5 (j:=1) [0] (k:=?_))
  refine H9 (ch:=[]) (src:=9) (dst:=37) (e:=5) (s:=s) (k:=(fun b2 cap3 g4 hcap5 hrd6=>?_))
  refine A9 [0,0] [1,8,9,10,11,12,13,99,100,101] (k:=A0 ?_)
  refine B8 (M2 (EI:=(fun ξ:Nat × Int=>[⟨1,[],.int .i64 10⟩,⟨8,[],.bool false⟩,⟨9,[],.string s⟩,⟨10,[],.int .u64 1844674407370955162⟩,⟨11,[],.int .u64 4294967295⟩,⟨12,[],.bool false⟩,⟨13,[],.int .u64 ξ.2⟩,⟨99,[],.slice (some ⟨b2,0,none⟩) s.size cap3⟩,⟨100,[],.int .i64 ((s.size:Nat):Int)⟩,⟨101,[],.int .i64 (ξ.1:Int)⟩])) (HI:=(fun ξ:Nat × Int=>(g4::H))) (Φ:=(fun ξ:Nat × Int=>(ξ.1≤s.size)∧(0≤ξ.2)∧(ξ.2<16 ^ ξ.1)∧(numV 10 0 s.data.toList=numV 10 ξ.2 (s.data.toList.drop ξ.1)))) (μ:=(fun ξ:Nat × Int=>s.size - ξ.1)) (s0:=(0,0)) [1,8,9,10,11,12,13,99,100,101] kr rfl ⟨(by omega),(Int.le_refl _),(by decide),rfl⟩ ?_)
  rintro ⟨k,n⟩ ⟨hk,hn0,hn1,hV⟩
  dsimp only at hk hn0 hn1 hV
  have hp:=pow16 (show k≤7 by omega)
  have hcr:=byte_rng (s.data.toList.getD k 0)
  refine A1 (G_p [0] [1,8,9,10,11,12,13,99,100,101,102] (k:=?_))
  refine A0 (A1 ?_)
  refine B1 (b:=decide ((k:Int)<((s.size:Nat):Int))) kr (fun hc7=>?_) (fun hc7=>?_)
  ·
   simp only [decide_eq_true_eq] at hc7
   refine A7 (A0 ?_)
   refine A1 (B8 ?_)
   refine A1 (A2 ?_)
   refine C1 (ch:=[]) (a:=(some ⟨b2,0,none⟩)) (len:=s.size) (cap:=cap3) (kd:=.i64) (j:=(k:Int)) (e:=5) (sz:=1) (S:=(inG g4)) (cs:=(u8s s.data.toList)) (hrd:=hrd6) (hb:=(fun _=>by exact ⟨by omega,by omega,by intro h; have:=congrArg List.length h; rw [show (Go.Sw.u8s s.data.toList).length=s.size from (List.length_map _).trans hlen] at this; simp only [List.length_nil] at this; omega⟩)) (k:=E6 (ch:=[]) (a:=(some ⟨b2,0,none⟩)) (q:=(Int.toNat (k:Int)) * 1) (S:=(inG g4)) (cs:=(u8s s.data.toList)) (v:=.int .u8 ((s.data.toList.getD k 0).toNat:Int)) (hrd:=hrd6) (hS:=C7 0 rfl) (hv:=(fun _=>(by rw [Nat.mul_one,Int.toNat_natCast]; exact Go.Sha.u8s_at (by rw [hlen]; omega)))) (k:=?_))
   refine A9 [0] [1,8,9,10,11,12,13,15,99,100,101] (k:=A0 ?_)
   refine A1 (G_p [0] [1,8,9,10,11,12,13,15,99,100,101] (k:=?_))
   refine A0 (A1 ?_)
   refine B8 (A1 ?_)
   refine G_p [0,0,0,0,6,0] [1,8,9,10,11,12,13,15,99,100,101,106] (k:=A0 ?_)
   refine B1 (b:=(((s.data.toList.getD k 0).toNat:Int)==95)&&false) kr (fun hc8=>?_) (fun hc8=>?_)
   ·
    simp at hc8
   ·
    skip
    refine A1 (G_p [0,0,0,0,0,6,0] [1,8,9,10,11,12,13,15,99,100,101,112] (k:=?_))
    refine A0 (B1 (b:=(decide (48≤((s.data.toList.getD k 0).toNat:Int)))&&(decide (((s.data.toList.getD k 0).toNat:Int)≤57))) kr (fun hc9=>?_) (fun hc9=>?_))
    ·
     simp only [Bool.and_eq_true,decide_eq_true_eq] at hc9
     refine A2 (D7 (E':=[⟨120,[],.int .u8 (IntKind.wrap .u8 (((s.data.toList.getD k 0).toNat:Int) - 48))⟩,⟨1,[],.int .i64 10⟩,⟨8,[],.bool false⟩,⟨9,[],.string s⟩,⟨10,[],.int .u64 1844674407370955162⟩,⟨11,[],.int .u64 4294967295⟩,⟨12,[],.bool false⟩,⟨13,[],.int .u64 n⟩,⟨99,[],.slice (some ⟨b2,0,none⟩) s.size cap3⟩,⟨100,[],.int .i64 ((s.size:Nat):Int)⟩,⟨101,[],.int .i64 (k:Int)⟩]) (j:=2) [0,0] (k:=?_))
     refine E3 (E':=[⟨120,[],.int .u8 (dgI ((s.data.toList.getD k 0).toNat:Int))⟩,⟨1,[],.int .i64 10⟩,⟨8,[],.bool false⟩,⟨9,[],.string s⟩,⟨10,[],.int .u64 1844674407370955162⟩,⟨11,[],.int .u64 4294967295⟩,⟨12,[],.bool false⟩,⟨13,[],.int .u64 n⟩,⟨99,[],.slice (some ⟨b2,0,none⟩) s.size cap3⟩,⟨100,[],.int .i64 ((s.size:Nat):Int)⟩,⟨101,[],.int .i64 (k:Int)⟩]) (by rw [dgI1 (c:=((s.data.toList.getD k 0).toNat:Int)) (by omega)]) (B4 (E':=[⟨1,[],.int .i64 10⟩,⟨8,[],.bool false⟩,⟨9,[],.string s⟩,⟨10,[],.int .u64 1844674407370955162⟩,⟨11,[],.int .u64 4294967295⟩,⟨12,[],.bool false⟩,⟨13,[],.int .u64 n⟩,⟨16,[],.int .u8 (dgI ((s.data.toList.getD k 0).toNat:Int))⟩,⟨99,[],.slice (some ⟨b2,0,none⟩) s.size cap3⟩,⟨100,[],.int .i64 ((s.size:Nat):Int)⟩,⟨101,[],.int .i64 (k:Int)⟩]) [0] [1,8,9,10,11,12,13,16,99,100,101] (k:=?_))
     refine B7 (A0 ?_)
     refine A1 (A1 ?_)
     refine G_p [0,0,0,0] [1,8,9,10,11,12,13,16,99,100,101,137] (k:=A0 ?_)
     refine B1 (b:=decide ((dgI ((s.data.toList.getD k 0).toNat:Int)) ≥ 10)) kr (fun hc10=>?_) (fun hc10=>?_)
     ·
      simp only [ge_iff_le,decide_eq_true_eq] at hc10
      have hdg:=(dg_ok (c:=((s.data.toList.getD k 0).toNat:Int)) (base:=10) (by omega) hcr (by omega)).2 (by omega)
      refine A1 (G_p [0,0,0] [6,7] (k:=?_))
      refine A0 (B6 ?_)
      refine A4 (B0 ?_)
      refine A4 (A4 ?_)
      refine B0 (A4 ?_)
      refine D9 (H':=H) (fun w h=>(h.erase 0)) (B2 [.tmp 6,.tmp 7] [.int .u64 0,.iface 137 (.int .i64 2)] (k:=?_))
      exact ⟨.inr ⟨M0 hV (show k<s.data.toList.length by rw [hlen]; omega) hdg,rfl⟩,rfl⟩
     ·
      simp only [ge_iff_le,decide_eq_false_iff_not] at hc10
      have hdg:=(dg_ok (c:=((s.data.toList.getD k 0).toNat:Int)) (base:=10) (by omega) hcr (by omega)).1 (by omega)
      refine A7 (A0 ?_)
      refine A1 (A1 ?_)
      refine G_p [0,0,0] [1,8,9,10,11,12,13,16,99,100,101,141] (k:=A0 ?_)
      refine B1 (b:=decide (n ≥ 1844674407370955162)) kr (fun hc11=>?_) (fun hc11=>?_)
      ·
       simp only [ge_iff_le,decide_eq_true_eq] at hc11; omega
      ·
       simp only [ge_iff_le,decide_eq_false_iff_not] at hc11
       refine A7 (A0 ?_)
       refine A1 (A2 ?_)
       refine D7 (E':=[⟨147,[],.int .u64 (IntKind.wrap .u64 (n * 10))⟩,⟨1,[],.int .i64 10⟩,⟨8,[],.bool false⟩,⟨9,[],.string s⟩,⟨10,[],.int .u64 1844674407370955162⟩,⟨11,[],.int .u64 4294967295⟩,⟨12,[],.bool false⟩,⟨13,[],.int .u64 n⟩,⟨16,[],.int .u8 (dgI ((s.data.toList.getD k 0).toNat:Int))⟩,⟨99,[],.slice (some ⟨b2,0,none⟩) s.size cap3⟩,⟨100,[],.int .i64 ((s.size:Nat):Int)⟩,⟨101,[],.int .i64 (k:Int)⟩]) (j:=4) [0,0,0,0] (k:=E3 (E':=[⟨147,[],.int .u64 (n * 10)⟩,⟨1,[],.int .i64 10⟩,⟨8,[],.bool false⟩,⟨9,[],.string s⟩,⟨10,[],.int .u64 1844674407370955162⟩,⟨11,[],.int .u64 4294967295⟩,⟨12,[],.bool false⟩,⟨13,[],.int .u64 n⟩,⟨16,[],.int .u8 (dgI ((s.data.toList.getD k 0).toNat:Int))⟩,⟨99,[],.slice (some ⟨b2,0,none⟩) s.size cap3⟩,⟨100,[],.int .i64 ((s.size:Nat):Int)⟩,⟨101,[],.int .i64 (k:Int)⟩]) (by rw [w64u (x:=n * 10) (by omega) (by omega)]) ?_)
       refine A9 [0] [1,8,9,10,11,12,13,16,99,100,101] (k:=A0 ?_)
       refine A1 ?_
       have hw12:IntKind.wrap .u64 (dgI ((s.data.toList.getD k 0).toNat:Int))=(dgI ((s.data.toList.getD k 0).toNat:Int)):=w64u (by omega) (by omega)
       refine A2 (D7 (E':=[⟨151,[],.int .u64 (IntKind.wrap .u64 ((n * 10)+(dgI ((s.data.toList.getD k 0).toNat:Int))))⟩,⟨1,[],.int .i64 10⟩,⟨8,[],.bool false⟩,⟨9,[],.string s⟩,⟨10,[],.int .u64 1844674407370955162⟩,⟨11,[],.int .u64 4294967295⟩,⟨12,[],.bool false⟩,⟨13,[],.int .u64 (n * 10)⟩,⟨99,[],.slice (some ⟨b2,0,none⟩) s.size cap3⟩,⟨100,[],.int .i64 ((s.size:Nat):Int)⟩,⟨101,[],.int .i64 (k:Int)⟩]) [0,0,0,0] (Eq.trans (b:=some [⟨151,[],.int .u64 (IntKind.wrap .u64 ((n * 10)+(IntKind.wrap .u64 (dgI ((s.data.toList.getD k 0).toNat:Int)))))⟩,⟨1,[],.int .i64 10⟩,⟨8,[],.bool false⟩,⟨9,[],.string s⟩,⟨10,[],.int .u64 1844674407370955162⟩,⟨11,[],.int .u64 4294967295⟩,⟨12,[],.bool false⟩,⟨13,[],.int .u64 (n * 10)⟩,⟨99,[],.slice (some ⟨b2,0,none⟩) s.size cap3⟩,⟨100,[],.int .i64 ((s.size:Nat):Int)⟩,⟨101,[],.int .i64 (k:Int)⟩]) kr (by simp only [hw12])) (j:=4) rfl ?_)
       refine E3 (E':=[⟨151,[],.int .u64 (n * 10+dgI ((s.data.toList.getD k 0).toNat:Int))⟩,⟨1,[],.int .i64 10⟩,⟨8,[],.bool false⟩,⟨9,[],.string s⟩,⟨10,[],.int .u64 1844674407370955162⟩,⟨11,[],.int .u64 4294967295⟩,⟨12,[],.bool false⟩,⟨13,[],.int .u64 (n * 10)⟩,⟨99,[],.slice (some ⟨b2,0,none⟩) s.size cap3⟩,⟨100,[],.int .i64 ((s.size:Nat):Int)⟩,⟨101,[],.int .i64 (k:Int)⟩]) (by rw [w64u (x:=n * 10+dgI ((s.data.toList.getD k 0).toNat:Int)) (by omega) (by omega)]) (A9 [0] [1,8,9,10,11,12,13,17,99,100,101] (k:=?_))
       refine A0 (A1 ?_)
       refine A1 (G_p [0,0,0,0,0,0,0,5] [1,8,9,10,11,12,17,99,100,101,159] (k:=?_))
       refine A0 (B1 (b:=(decide ((n * 10+dgI ((s.data.toList.getD k 0).toNat:Int))<(n * 10)))||(decide ((n * 10+dgI ((s.data.toList.getD k 0).toNat:Int)) > 4294967295))) kr (fun hc13=>?_) (fun hc13=>?_))
       ·
        simp only [gt_iff_lt,Bool.or_eq_true,decide_eq_true_eq] at hc13; omega
       ·
        simp only [gt_iff_lt,Bool.or_eq_false_iff,decide_eq_false_iff_not] at hc13
        refine A7 (A0 ?_)
        refine B3 (E':=[⟨1,[],.int .i64 10⟩,⟨8,[],.bool false⟩,⟨9,[],.string s⟩,⟨10,[],.int .u64 1844674407370955162⟩,⟨11,[],.int .u64 4294967295⟩,⟨12,[],.bool false⟩,⟨13,[],.int .u64 (n * 10+dgI ((s.data.toList.getD k 0).toNat:Int))⟩,⟨99,[],.slice (some ⟨b2,0,none⟩) s.size cap3⟩,⟨100,[],.int .i64 ((s.size:Nat):Int)⟩,⟨101,[],.int .i64 (k:Int)⟩]) [0,0] [1,8,9,10,11,12,13,99,100,101] (k:=B7 ?_)
        refine A0 (A2 ?_)
        refine A5 (j:=1) [0] (k:=D1 163 ((k:Int)+1) (by omega) (by omega) kr ?_)
        refine A9 [0] [1,8,9,10,11,12,13,99,100,101] (k:=E9 (s':=(k+1,(n * 10+dgI ((s.data.toList.getD k 0).toNat:Int)))) [1,8,9,10,11,12,13,99,100,101] kr rfl ⟨(by dsimp only; omega),(by dsimp only; omega),(by dsimp only; rw [Int.pow_succ]; omega),(by dsimp only; rw [hV,H5 _ (show k<s.data.toList.length by rw [hlen]; omega),M1,hdg.1,if_neg (by omega),Int.mul_comm])⟩ (by dsimp only; omega))
    ·
     simp only [Bool.and_eq_false_iff,decide_eq_false_iff_not] at hc9
     refine A1 (A2 ?_)
     refine A5 (j:=1) [0] (k:=I2 Tryz.func95 (lower_ ((s.data.toList.getD k 0).toNat:Int) _ _) ?_)
     refine A5 (j:=5) [0,0,0] (k:=F8 (ch:=[(125,true)]) (f:=95) (fst:=#[]) (caps:=#[]) (vs:=[.int .u8 ((s.data.toList.getD k 0).toNat:Int)]) (v:=.int .u8 (lowI ((s.data.toList.getD k 0).toNat:Int))) (hf:=Tryz.func95) (hc:=(fun hc=>lower_ ((s.data.toList.getD k 0).toNat:Int) _ _)) (k:=?_))
     refine B4 (E':=[⟨1,[],.int .i64 10⟩,⟨8,[],.bool false⟩,⟨9,[],.string s⟩,⟨10,[],.int .u64 1844674407370955162⟩,⟨11,[],.int .u64 4294967295⟩,⟨12,[],.bool false⟩,⟨13,[],.int .u64 n⟩,⟨15,[],.int .u8 ((s.data.toList.getD k 0).toNat:Int)⟩,⟨99,[],.slice (some ⟨b2,0,none⟩) s.size cap3⟩,⟨100,[],.int .i64 ((s.size:Nat):Int)⟩,⟨101,[],.int .i64 (k:Int)⟩,⟨121,[],.bool ((decide (97≤(lowI ((s.data.toList.getD k 0).toNat:Int))))&&(decide ((lowI ((s.data.toList.getD k 0).toNat:Int))≤122)))⟩]) [0,6,0] [1,8,9,10,11,12,13,15,99,100,101,121] (k:=A0 ?_)
     refine B1 (b:=(decide (97≤(lowI ((s.data.toList.getD k 0).toNat:Int))))&&(decide ((lowI ((s.data.toList.getD k 0).toNat:Int))≤122))) kr (fun hc15=>?_) (fun hc15=>?_)
     ·
      simp only [Bool.and_eq_true,decide_eq_true_eq] at hc15
      refine A2 (A5 (j:=1) [0] (k:=?_))
      refine I2 Tryz.func95 (lower_ ((s.data.toList.getD k 0).toNat:Int) _ _) (D7 (E':=[⟨133,[],.int .u8 (IntKind.wrap .u8 ((IntKind.wrap .u8 ((lowI ((s.data.toList.getD k 0).toNat:Int)) - 97))+10))⟩,⟨1,[],.int .i64 10⟩,⟨8,[],.bool false⟩,⟨9,[],.string s⟩,⟨10,[],.int .u64 1844674407370955162⟩,⟨11,[],.int .u64 4294967295⟩,⟨12,[],.bool false⟩,⟨13,[],.int .u64 n⟩,⟨99,[],.slice (some ⟨b2,0,none⟩) s.size cap3⟩,⟨100,[],.int .i64 ((s.size:Nat):Int)⟩,⟨101,[],.int .i64 (k:Int)⟩]) (j:=4) [0,0] (k:=?_))
      refine E3 (E':=[⟨133,[],.int .u8 (dgI ((s.data.toList.getD k 0).toNat:Int))⟩,⟨1,[],.int .i64 10⟩,⟨8,[],.bool false⟩,⟨9,[],.string s⟩,⟨10,[],.int .u64 1844674407370955162⟩,⟨11,[],.int .u64 4294967295⟩,⟨12,[],.bool false⟩,⟨13,[],.int .u64 n⟩,⟨99,[],.slice (some ⟨b2,0,none⟩) s.size cap3⟩,⟨100,[],.int .i64 ((s.size:Nat):Int)⟩,⟨101,[],.int .i64 (k:Int)⟩]) (by rw [dgI2 (c:=((s.data.toList.getD k 0).toNat:Int)) (by omega) (by omega)]) (A9 [0] [1,8,9,10,11,12,13,16,99,100,101] (k:=?_))
      refine B7 (A0 ?_)
      refine A1 (A1 ?_)
      refine G_p [0,0,0,0] [1,8,9,10,11,12,13,16,99,100,101,137] (k:=A0 ?_)
      refine B1 (b:=decide ((dgI ((s.data.toList.getD k 0).toNat:Int)) ≥ 10)) kr (fun hc16=>?_) (fun hc16=>?_)
      ·
       simp only [ge_iff_le,decide_eq_true_eq] at hc16
       have hdg:=(dg_ok (c:=((s.data.toList.getD k 0).toNat:Int)) (base:=10) (by omega) hcr (by omega)).2 (by omega)
       refine A1 (G_p [0,0,0] [6,7] (k:=?_))
       refine A0 (B6 ?_)
       refine A4 (B0 ?_)
       refine A4 (A4 ?_)
       refine B0 (A4 ?_)
       refine D9 (H':=H) (fun w h=>(h.erase 0)) (B2 [.tmp 6,.tmp 7] [.int .u64 0,.iface 137 (.int .i64 2)] (k:=?_))
       exact ⟨.inr ⟨M0 hV (show k<s.data.toList.length by rw [hlen]; omega) hdg,rfl⟩,rfl⟩
      ·
       simp only [ge_iff_le,decide_eq_false_iff_not] at hc16
       have hdg:=(dg_ok (c:=((s.data.toList.getD k 0).toNat:Int)) (base:=10) (by omega) hcr (by omega)).1 (by omega)
       refine A7 (A0 ?_)
       refine A1 (A1 ?_)
       refine G_p [0,0,0] [1,8,9,10,11,12,13,16,99,100,101,141] (k:=A0 ?_)
       refine B1 (b:=decide (n ≥ 1844674407370955162)) kr (fun hc17=>?_) (fun hc17=>?_)
       ·
        simp only [ge_iff_le,decide_eq_true_eq] at hc17; omega
       ·
        simp only [ge_iff_le,decide_eq_false_iff_not] at hc17
        refine A7 (A0 ?_)
        refine A1 (A2 ?_)
        refine D7 (E':=[⟨147,[],.int .u64 (IntKind.wrap .u64 (n * 10))⟩,⟨1,[],.int .i64 10⟩,⟨8,[],.bool false⟩,⟨9,[],.string s⟩,⟨10,[],.int .u64 1844674407370955162⟩,⟨11,[],.int .u64 4294967295⟩,⟨12,[],.bool false⟩,⟨13,[],.int .u64 n⟩,⟨16,[],.int .u8 (dgI ((s.data.toList.getD k 0).toNat:Int))⟩,⟨99,[],.slice (some ⟨b2,0,none⟩) s.size cap3⟩,⟨100,[],.int .i64 ((s.size:Nat):Int)⟩,⟨101,[],.int .i64 (k:Int)⟩]) (j:=4) [0,0,0,0] (k:=E3 (E':=[⟨147,[],.int .u64 (n * 10)⟩,⟨1,[],.int .i64 10⟩,⟨8,[],.bool false⟩,⟨9,[],.string s⟩,⟨10,[],.int .u64 1844674407370955162⟩,⟨11,[],.int .u64 4294967295⟩,⟨12,[],.bool false⟩,⟨13,[],.int .u64 n⟩,⟨16,[],.int .u8 (dgI ((s.data.toList.getD k 0).toNat:Int))⟩,⟨99,[],.slice (some ⟨b2,0,none⟩) s.size cap3⟩,⟨100,[],.int .i64 ((s.size:Nat):Int)⟩,⟨101,[],.int .i64 (k:Int)⟩]) (by rw [w64u (x:=n * 10) (by omega) (by omega)]) ?_)
        refine A9 [0] [1,8,9,10,11,12,13,16,99,100,101] (k:=A0 ?_)
        refine A1 ?_
        have hw18:IntKind.wrap .u64 (dgI ((s.data.toList.getD k 0).toNat:Int))=(dgI ((s.data.toList.getD k 0).toNat:Int)):=w64u (by omega) (by omega)
        refine A2 (D7 (E':=[⟨151,[],.int .u64 (IntKind.wrap .u64 ((n * 10)+(dgI ((s.data.toList.getD k 0).toNat:Int))))⟩,⟨1,[],.int .i64 10⟩,⟨8,[],.bool false⟩,⟨9,[],.string s⟩,⟨10,[],.int .u64 1844674407370955162⟩,⟨11,[],.int .u64 4294967295⟩,⟨12,[],.bool false⟩,⟨13,[],.int .u64 (n * 10)⟩,⟨99,[],.slice (some ⟨b2,0,none⟩) s.size cap3⟩,⟨100,[],.int .i64 ((s.size:Nat):Int)⟩,⟨101,[],.int .i64 (k:Int)⟩]) [0,0,0,0] (Eq.trans (b:=some [⟨151,[],.int .u64 (IntKind.wrap .u64 ((n * 10)+(IntKind.wrap .u64 (dgI ((s.data.toList.getD k 0).toNat:Int)))))⟩,⟨1,[],.int .i64 10⟩,⟨8,[],.bool false⟩,⟨9,[],.string s⟩,⟨10,[],.int .u64 1844674407370955162⟩,⟨11,[],.int .u64 4294967295⟩,⟨12,[],.bool false⟩,⟨13,[],.int .u64 (n * 10)⟩,⟨99,[],.slice (some ⟨b2,0,none⟩) s.size cap3⟩,⟨100,[],.int .i64 ((s.size:Nat):Int)⟩,⟨101,[],.int .i64 (k:Int)⟩]) kr (by simp only [hw18])) (j:=4) rfl ?_)
        refine E3 (E':=[⟨151,[],.int .u64 (n * 10+dgI ((s.data.toList.getD k 0).toNat:Int))⟩,⟨1,[],.int .i64 10⟩,⟨8,[],.bool false⟩,⟨9,[],.string s⟩,⟨10,[],.int .u64 1844674407370955162⟩,⟨11,[],.int .u64 4294967295⟩,⟨12,[],.bool false⟩,⟨13,[],.int .u64 (n * 10)⟩,⟨99,[],.slice (some ⟨b2,0,none⟩) s.size cap3⟩,⟨100,[],.int .i64 ((s.size:Nat):Int)⟩,⟨101,[],.int .i64 (k:Int)⟩]) (by rw [w64u (x:=n * 10+dgI ((s.data.toList.getD k 0).toNat:Int)) (by omega) (by omega)]) (A9 [0] [1,8,9,10,11,12,13,17,99,100,101] (k:=?_))
        refine A0 (A1 ?_)
        refine A1 (B3 (E':=[⟨1,[],.int .i64 10⟩,⟨8,[],.bool false⟩,⟨9,[],.string s⟩,⟨10,[],.int .u64 1844674407370955162⟩,⟨11,[],.int .u64 4294967295⟩,⟨12,[],.bool false⟩,⟨17,[],.int .u64 (n * 10+dgI ((s.data.toList.getD k 0).toNat:Int))⟩,⟨99,[],.slice (some ⟨b2,0,none⟩) s.size cap3⟩,⟨100,[],.int .i64 ((s.size:Nat):Int)⟩,⟨101,[],.int .i64 (k:Int)⟩,⟨159,[],.bool ((decide ((n * 10+dgI ((s.data.toList.getD k 0).toNat:Int))<(n * 10)))||(decide ((n * 10+dgI ((s.data.toList.getD k 0).toNat:Int)) > 4294967295)))⟩]) [0,0,0,0,0,0,0,5] [1,8,9,10,11,12,17,99,100,101,159] (k:=?_))
        refine A0 (B1 (b:=(decide ((n * 10+dgI ((s.data.toList.getD k 0).toNat:Int))<(n * 10)))||(decide ((n * 10+dgI ((s.data.toList.getD k 0).toNat:Int)) > 4294967295))) kr (fun hc19=>?_) (fun hc19=>?_))
        ·
         simp only [gt_iff_lt,Bool.or_eq_true,decide_eq_true_eq] at hc19; omega
        ·
         simp only [gt_iff_lt,Bool.or_eq_false_iff,decide_eq_false_iff_not] at hc19
         refine A7 (A0 ?_)
         refine G_p [0,0] [1,8,9,10,11,12,13,99,100,101] (k:=B7 ?_)
         refine A0 (A2 ?_)
         refine A5 (j:=1) [0] (k:=D1 163 ((k:Int)+1) (by omega) (by omega) kr ?_)
         refine A9 [0] [1,8,9,10,11,12,13,99,100,101] (k:=E9 (s':=(k+1,(n * 10+dgI ((s.data.toList.getD k 0).toNat:Int)))) [1,8,9,10,11,12,13,99,100,101] kr rfl ⟨(by dsimp only; omega),(by dsimp only; omega),(by dsimp only; rw [Int.pow_succ]; omega),(by dsimp only; rw [hV,H5 _ (show k<s.data.toList.length by rw [hlen]; omega),M1,hdg.1,if_neg (by omega),Int.mul_comm])⟩ (by dsimp only; omega))
     ·
      simp only [Bool.and_eq_false_iff,decide_eq_false_iff_not] at hc15
      refine A1 (G_p [0,0,0] [6,7] (k:=?_))
      refine A0 (B6 ?_)
      refine B0 (A4 ?_)
      refine B0 (A4 ?_)
      refine A4 (B0 ?_)
      refine A4 (D9 (H':=H) (fun w h=>(h.erase 0)) ?_)
      refine B2 [.tmp 6,.tmp 7] [.int .u64 0,.iface 137 (.int .i64 2)] (k:=?_)
      exact ⟨.inr ⟨M0 hV (show k<s.data.toList.length by rw [hlen]; omega) (dg_no (by omega) (by omega) hcr (by decide)),rfl⟩,rfl⟩
  ·
   simp only [decide_eq_false_iff_not] at hc7
   refine G8 (B5 ?_)
   refine B5 (C9 ?_)
   refine A0 (A1 ?_)
   refine A1 (G_p [0,0,1,1,1,3] [13,169] (k:=?_))
   refine A0 (D6 kr ?_)
   refine A7 (A0 ?_)
   refine A1 (G_p [0,0,0] [6,7] (k:=?_))
   refine A0 (B6 ?_)
   refine D9 (H':=H) (fun w h=>(h.erase 0)) (B2 [.tmp 6,.tmp 7] [.int .u64 n,.nilIface] (k:=?_))
   exact ⟨.inl ⟨n,by rw [hV,List.drop_eq_nil_of_le (by rw [hlen]; omega),numV_nil],hn0,by rw [show s.size=k by omega]; exact hn1,rfl⟩,rfl⟩
theorem inner16_ (s:ByteArray) (h0:0<s.size) (hs:s.size≤7) (W0:World) (H:List Grp):Tri Tryz.prog 80 #[.string s,.int .i64 16,.int .i64 32] W0 H (fun v H'=>((∃ n,numV 16 0 s.data.toList=some n∧0≤n∧n<16 ^ s.size∧v=.tuple #[.int .u64 n,.nilIface])∨(numV 16 0 s.data.toList=none∧v=.tuple #[.int .u64 0,.iface 137 (.int .i64 2)]))∧H'=H):=by
 have hlen:s.data.toList.length=s.size:=Array.length_toList
 refine C2 (args:=[.string s,.int .i64 16,.int .i64 32]) (n:=172) Tryz.func80 rfl rfl (Nat.le_of_ble_eq_true rfl) ?_
 refine A1 (G_p [0,0] [0,1,2] (k:=?_))
 refine A0 (A1 ?_)
 refine A1 (G_p [0,0] [0,1,2,19] (k:=?_))
 refine A0 (B1 (b:=s.toList==(ByteArray.mk #[]).toList) kr (fun hc1=>?_) (fun hc1=>?_))
 ·
  exact absurd (size0 hc1) (by omega)
 ·
  skip
  refine A7 (A0 ?_)
  refine A1 (G_p [0,0,0] [0,1,2,8] (k:=?_))
  refine A0 (A1 ?_)
  refine G_p [0,0] [0,1,2,8,9] (k:=A0 ?_)
  refine A1 (B8 ?_)
  refine A1 (G_p [0,0,0,0,0,2,0] [0,1,2,8,9,25] (k:=?_))
  refine A0 (B9 kr ?_)
  refine A7 (B7 ?_)
  refine A0 (A1 ?_)
  refine A1 (B3 (E':=[⟨0,[],.string s⟩,⟨1,[],.int .i64 16⟩,⟨2,[],.int .i64 32⟩,⟨8,[],.bool false⟩,⟨9,[],.string s⟩,⟨77,[],.bool false⟩]) [0,0] [0,1,2,8,9,77] (k:=?_))
  refine A0 (D6 kr ?_)
  refine A1 (G_p [0,0,0,0,0,3] [0,1,2,8,9,83] (k:=?_))
  refine A0 (D6 kr ?_)
  refine A7 (A0 ?_)
  refine A1 (G_p [0] [0,1,2,8,9] (k:=?_))
  refine A0 (A1 ?_)
  refine A1 (G_p [0] [0,1,2,8,9,85] (k:=?_))
  refine A0 (B8 ?_)
  refine A1 (G_p [0,0] [0,1,2,8,9,85,90] (k:=?_))
  refine A0 (D6 kr ?_)
  refine A1 (G_p [0,0] [0,1,2,8,9,92] (k:=?_))
  refine A0 (B9 kr ?_)
  refine B3 (E':=[⟨0,[],.string s⟩,⟨1,[],.int .i64 16⟩,⟨2,[],.int .i64 32⟩,⟨8,[],.bool false⟩,⟨9,[],.string s⟩,⟨10,[],.int .u64 1152921504606846976⟩]) [0] [0,1,2,8,9,10] (k:=B7 ?_)
  refine A0 (A1 ?_)
  refine G_p [0,0,0,0,0] [0,1,8,9,10,11] (k:=A0 ?_)
  refine A1 (G_p [0] [0,1,8,9,10,11,12] (k:=?_))
  refine A0 (A1 ?_)
  refine G_p [0] [0,1,8,9,10,11,12,13] (k:=A0 ?_)
  refine A1 (A1 ?_)
  refine A2 (A5 (j:=1) [0] (k:=?_))
  refine H9 (ch:=[]) (src:=9) (dst:=37) (e:=5) (s:=s) (k:=(fun b2 cap3 g4 hcap5 hrd6=>?_))
  refine A9 [0,0] [1,8,9,10,11,12,13,99,100,101] (k:=A0 ?_)
  refine B8 (M2 (EI:=(fun ξ:Nat × Int=>[⟨1,[],.int .i64 16⟩,⟨8,[],.bool false⟩,⟨9,[],.string s⟩,⟨10,[],.int .u64 1152921504606846976⟩,⟨11,[],.int .u64 4294967295⟩,⟨12,[],.bool false⟩,⟨13,[],.int .u64 ξ.2⟩,⟨99,[],.slice (some ⟨b2,0,none⟩) s.size cap3⟩,⟨100,[],.int .i64 ((s.size:Nat):Int)⟩,⟨101,[],.int .i64 (ξ.1:Int)⟩])) (HI:=(fun ξ:Nat × Int=>(g4::H))) (Φ:=(fun ξ:Nat × Int=>(ξ.1≤s.size)∧(0≤ξ.2)∧(ξ.2<16 ^ ξ.1)∧(numV 16 0 s.data.toList=numV 16 ξ.2 (s.data.toList.drop ξ.1)))) (μ:=(fun ξ:Nat × Int=>s.size - ξ.1)) (s0:=(0,0)) [1,8,9,10,11,12,13,99,100,101] kr rfl ⟨(by omega),(Int.le_refl _),(by decide),rfl⟩ ?_)
  rintro ⟨k,n⟩ ⟨hk,hn0,hn1,hV⟩
  dsimp only at hk hn0 hn1 hV
  have hp:=pow16 (show k≤7 by omega)
  have hcr:=byte_rng (s.data.toList.getD k 0)
  refine A1 (G_p [0] [1,8,9,10,11,12,13,99,100,101,102] (k:=?_))
  refine A0 (A1 ?_)
  refine B1 (b:=decide ((k:Int)<((s.size:Nat):Int))) kr (fun hc7=>?_) (fun hc7=>?_)
  ·
   simp only [decide_eq_true_eq] at hc7
   refine A7 (A0 ?_)
   refine A1 (B8 ?_)
   refine A1 (A2 ?_)
   refine C1 (ch:=[]) (a:=(some ⟨b2,0,none⟩)) (len:=s.size) (cap:=cap3) (kd:=.i64) (j:=(k:Int)) (e:=5) (sz:=1) (S:=(inG g4)) (cs:=(u8s s.data.toList)) (hrd:=hrd6) (hb:=(fun _=>by exact ⟨by omega,by omega,by intro h; have:=congrArg List.length h; rw [show (Go.Sw.u8s s.data.toList).length=s.size from (List.length_map _).trans hlen] at this; simp only [List.length_nil] at this; omega⟩)) (k:=E6 (ch:=[]) (a:=(some ⟨b2,0,none⟩)) (q:=(Int.toNat (k:Int)) * 1) (S:=(inG g4)) (cs:=(u8s s.data.toList)) (v:=.int .u8 ((s.data.toList.getD k 0).toNat:Int)) (hrd:=hrd6) (hS:=C7 0 rfl) (hv:=(fun _=>(by rw [Nat.mul_one,Int.toNat_natCast]; exact Go.Sha.u8s_at (by rw [hlen]; omega)))) (k:=?_))
   refine A9 [0] [1,8,9,10,11,12,13,15,99,100,101] (k:=A0 ?_)
   refine A1 (G_p [0] [1,8,9,10,11,12,13,15,99,100,101] (k:=?_))
   refine A0 (A1 ?_)
   refine B8 (A1 ?_)
   refine G_p [0,0,0,0,6,0] [1,8,9,10,11,12,13,15,99,100,101,106] (k:=A0 ?_)
   refine B1 (b:=(((s.data.toList.getD k 0).toNat:Int)==95)&&false) kr (fun hc8=>?_) (fun hc8=>?_)
   ·
    simp at hc8
   ·
    skip
    refine A1 (G_p [0,0,0,0,0,6,0] [1,8,9,10,11,12,13,15,99,100,101,112] (k:=?_))
    refine A0 (B1 (b:=(decide (48≤((s.data.toList.getD k 0).toNat:Int)))&&(decide (((s.data.toList.getD k 0).toNat:Int)≤57))) kr (fun hc9=>?_) (fun hc9=>?_))
    ·
     simp only [Bool.and_eq_true,decide_eq_true_eq] at hc9
     refine A2 (D7 (E':=[⟨120,[],.int .u8 (IntKind.wrap .u8 (((s.data.toList.getD k 0).toNat:Int) - 48))⟩,⟨1,[],.int .i64 16⟩,⟨8,[],.bool false⟩,⟨9,[],.string s⟩,⟨10,[],.int .u64 1152921504606846976⟩,⟨11,[],.int .u64 4294967295⟩,⟨12,[],.bool false⟩,⟨13,[],.int .u64 n⟩,⟨99,[],.slice (some ⟨b2,0,none⟩) s.size cap3⟩,⟨100,[],.int .i64 ((s.size:Nat):Int)⟩,⟨101,[],.int .i64 (k:Int)⟩]) (j:=2) [0,0] (k:=?_))
     refine E3 (E':=[⟨120,[],.int .u8 (dgI ((s.data.toList.getD k 0).toNat:Int))⟩,⟨1,[],.int .i64 16⟩,⟨8,[],.bool false⟩,⟨9,[],.string s⟩,⟨10,[],.int .u64 1152921504606846976⟩,⟨11,[],.int .u64 4294967295⟩,⟨12,[],.bool false⟩,⟨13,[],.int .u64 n⟩,⟨99,[],.slice (some ⟨b2,0,none⟩) s.size cap3⟩,⟨100,[],.int .i64 ((s.size:Nat):Int)⟩,⟨101,[],.int .i64 (k:Int)⟩]) (by rw [dgI1 (c:=((s.data.toList.getD k 0).toNat:Int)) (by omega)]) (B4 (E':=[⟨1,[],.int .i64 16⟩,⟨8,[],.bool false⟩,⟨9,[],.string s⟩,⟨10,[],.int .u64 1152921504606846976⟩,⟨11,[],.int .u64 4294967295⟩,⟨12,[],.bool false⟩,⟨13,[],.int .u64 n⟩,⟨16,[],.int .u8 (dgI ((s.data.toList.getD k 0).toNat:Int))⟩,⟨99,[],.slice (some ⟨b2,0,none⟩) s.size cap3⟩,⟨100,[],.int .i64 ((s.size:Nat):Int)⟩,⟨101,[],.int .i64 (k:Int)⟩]) [0] [1,8,9,10,11,12,13,16,99,100,101] (k:=?_))
     refine B7 (A0 ?_)
     refine A1 (A1 ?_)
     refine G_p [0,0,0,0] [1,8,9,10,11,12,13,16,99,100,101,137] (k:=A0 ?_)
     refine B1 (b:=decide ((dgI ((s.data.toList.getD k 0).toNat:Int)) ≥ 16)) kr (fun hc10=>?_) (fun hc10=>?_)
     ·
      simp only [ge_iff_le,decide_eq_true_eq] at hc10
      have hdg:=(dg_ok (c:=((s.data.toList.getD k 0).toNat:Int)) (base:=16) (by omega) hcr (by omega)).2 (by omega)
      refine A1 (G_p [0,0,0] [6,7] (k:=?_))
      refine A0 (B6 ?_)
      refine A4 (B0 ?_)
      refine A4 (A4 ?_)
      refine B0 (A4 ?_)
      refine D9 (H':=H) (fun w h=>(h.erase 0)) (B2 [.tmp 6,.tmp 7] [.int .u64 0,.iface 137 (.int .i64 2)] (k:=?_))
      exact ⟨.inr ⟨M0 hV (show k<s.data.toList.length by rw [hlen]; omega) hdg,rfl⟩,rfl⟩
     ·
      simp only [ge_iff_le,decide_eq_false_iff_not] at hc10
      have hdg:=(dg_ok (c:=((s.data.toList.getD k 0).toNat:Int)) (base:=16) (by omega) hcr (by omega)).1 (by omega)
      refine A7 (A0 ?_)
      refine A1 (A1 ?_)
      refine G_p [0,0,0] [1,8,9,10,11,12,13,16,99,100,101,141] (k:=A0 ?_)
      refine B1 (b:=decide (n ≥ 1152921504606846976)) kr (fun hc11=>?_) (fun hc11=>?_)
      ·
       simp only [ge_iff_le,decide_eq_true_eq] at hc11; omega
      ·
       simp only [ge_iff_le,decide_eq_false_iff_not] at hc11
       refine A7 (A0 ?_)
       refine A1 (A2 ?_)
       refine D7 (E':=[⟨147,[],.int .u64 (IntKind.wrap .u64 (n * 16))⟩,⟨1,[],.int .i64 16⟩,⟨8,[],.bool false⟩,⟨9,[],.string s⟩,⟨10,[],.int .u64 1152921504606846976⟩,⟨11,[],.int .u64 4294967295⟩,⟨12,[],.bool false⟩,⟨13,[],.int .u64 n⟩,⟨16,[],.int .u8 (dgI ((s.data.toList.getD k 0).toNat:Int))⟩,⟨99,[],.slice (some ⟨b2,0,none⟩) s.size cap3⟩,⟨100,[],.int .i64 ((s.size:Nat):Int)⟩,⟨101,[],.int .i64 (k:Int)⟩]) (j:=4) [0,0,0,0] (k:=E3 (E':=[⟨147,[],.int .u64 (n * 16)⟩,⟨1,[],.int .i64 16⟩,⟨8,[],.bool false⟩,⟨9,[],.string s⟩,⟨10,[],.int .u64 1152921504606846976⟩,⟨11,[],.int .u64 4294967295⟩,⟨12,[],.bool false⟩,⟨13,[],.int .u64 n⟩,⟨16,[],.int .u8 (dgI ((s.data.toList.getD k 0).toNat:Int))⟩,⟨99,[],.slice (some ⟨b2,0,none⟩) s.size cap3⟩,⟨100,[],.int .i64 ((s.size:Nat):Int)⟩,⟨101,[],.int .i64 (k:Int)⟩]) (by rw [w64u (x:=n * 16) (by omega) (by omega)]) ?_)
       refine A9 [0] [1,8,9,10,11,12,13,16,99,100,101] (k:=A0 ?_)
       refine A1 ?_
       have hw12:IntKind.wrap .u64 (dgI ((s.data.toList.getD k 0).toNat:Int))=(dgI ((s.data.toList.getD k 0).toNat:Int)):=w64u (by omega) (by omega)
       refine A2 (D7 (E':=[⟨151,[],.int .u64 (IntKind.wrap .u64 ((n * 16)+(dgI ((s.data.toList.getD k 0).toNat:Int))))⟩,⟨1,[],.int .i64 16⟩,⟨8,[],.bool false⟩,⟨9,[],.string s⟩,⟨10,[],.int .u64 1152921504606846976⟩,⟨11,[],.int .u64 4294967295⟩,⟨12,[],.bool false⟩,⟨13,[],.int .u64 (n * 16)⟩,⟨99,[],.slice (some ⟨b2,0,none⟩) s.size cap3⟩,⟨100,[],.int .i64 ((s.size:Nat):Int)⟩,⟨101,[],.int .i64 (k:Int)⟩]) [0,0,0,0] (Eq.trans (b:=some [⟨151,[],.int .u64 (IntKind.wrap .u64 ((n * 16)+(IntKind.wrap .u64 (dgI ((s.data.toList.getD k 0).toNat:Int)))))⟩,⟨1,[],.int .i64 16⟩,⟨8,[],.bool false⟩,⟨9,[],.string s⟩,⟨10,[],.int .u64 1152921504606846976⟩,⟨11,[],.int .u64 4294967295⟩,⟨12,[],.bool false⟩,⟨13,[],.int .u64 (n * 16)⟩,⟨99,[],.slice (some ⟨b2,0,none⟩) s.size cap3⟩,⟨100,[],.int .i64 ((s.size:Nat):Int)⟩,⟨101,[],.int .i64 (k:Int)⟩]) kr (by simp only [hw12])) (j:=4) rfl ?_)
       refine E3 (E':=[⟨151,[],.int .u64 (n * 16+dgI ((s.data.toList.getD k 0).toNat:Int))⟩,⟨1,[],.int .i64 16⟩,⟨8,[],.bool false⟩,⟨9,[],.string s⟩,⟨10,[],.int .u64 1152921504606846976⟩,⟨11,[],.int .u64 4294967295⟩,⟨12,[],.bool false⟩,⟨13,[],.int .u64 (n * 16)⟩,⟨99,[],.slice (some ⟨b2,0,none⟩) s.size cap3⟩,⟨100,[],.int .i64 ((s.size:Nat):Int)⟩,⟨101,[],.int .i64 (k:Int)⟩]) (by rw [w64u (x:=n * 16+dgI ((s.data.toList.getD k 0).toNat:Int)) (by omega) (by omega)]) (A9 [0] [1,8,9,10,11,12,13,17,99,100,101] (k:=?_))
       refine A0 (A1 ?_)
       refine A1 (G_p [0,0,0,0,0,0,0,5] [1,8,9,10,11,12,17,99,100,101,159] (k:=?_))
       refine A0 (B1 (b:=(decide ((n * 16+dgI ((s.data.toList.getD k 0).toNat:Int))<(n * 16)))||(decide ((n * 16+dgI ((s.data.toList.getD k 0).toNat:Int)) > 4294967295))) kr (fun hc13=>?_) (fun hc13=>?_))
       ·
        simp only [gt_iff_lt,Bool.or_eq_true,decide_eq_true_eq] at hc13; omega
       ·
        simp only [gt_iff_lt,Bool.or_eq_false_iff,decide_eq_false_iff_not] at hc13
        refine A7 (A0 ?_)
        refine B3 (E':=[⟨1,[],.int .i64 16⟩,⟨8,[],.bool false⟩,⟨9,[],.string s⟩,⟨10,[],.int .u64 1152921504606846976⟩,⟨11,[],.int .u64 4294967295⟩,⟨12,[],.bool false⟩,⟨13,[],.int .u64 (n * 16+dgI ((s.data.toList.getD k 0).toNat:Int))⟩,⟨99,[],.slice (some ⟨b2,0,none⟩) s.size cap3⟩,⟨100,[],.int .i64 ((s.size:Nat):Int)⟩,⟨101,[],.int .i64 (k:Int)⟩]) [0,0] [1,8,9,10,11,12,13,99,100,101] (k:=B7 ?_)
        refine A0 (A2 ?_)
        refine A5 (j:=1) [0] (k:=D1 163 ((k:Int)+1) (by omega) (by omega) kr ?_)
        refine A9 [0] [1,8,9,10,11,12,13,99,100,101] (k:=E9 (s':=(k+1,(n * 16+dgI ((s.data.toList.getD k 0).toNat:Int)))) [1,8,9,10,11,12,13,99,100,101] kr rfl ⟨(by dsimp only; omega),(by dsimp only; omega),(by dsimp only; rw [Int.pow_succ]; omega),(by dsimp only; rw [hV,H5 _ (show k<s.data.toList.length by rw [hlen]; omega),M1,hdg.1,if_neg (by omega),Int.mul_comm])⟩ (by dsimp only; omega))
    ·
     simp only [Bool.and_eq_false_iff,decide_eq_false_iff_not] at hc9
     refine A1 (A2 ?_)
     refine A5 (j:=1) [0] (k:=I2 Tryz.func95 (lower_ ((s.data.toList.getD k 0).toNat:Int) _ _) ?_)
     refine A5 (j:=5) [0,0,0] (k:=F8 (ch:=[(125,true)]) (f:=95) (fst:=#[]) (caps:=#[]) (vs:=[.int .u8 ((s.data.toList.getD k 0).toNat:Int)]) (v:=.int .u8 (lowI ((s.data.toList.getD k 0).toNat:Int))) (hf:=Tryz.func95) (hc:=(fun hc=>lower_ ((s.data.toList.getD k 0).toNat:Int) _ _)) (k:=?_))
     refine B4 (E':=[⟨1,[],.int .i64 16⟩,⟨8,[],.bool false⟩,⟨9,[],.string s⟩,⟨10,[],.int .u64 1152921504606846976⟩,⟨11,[],.int .u64 4294967295⟩,⟨12,[],.bool false⟩,⟨13,[],.int .u64 n⟩,⟨15,[],.int .u8 ((s.data.toList.getD k 0).toNat:Int)⟩,⟨99,[],.slice (some ⟨b2,0,none⟩) s.size cap3⟩,⟨100,[],.int .i64 ((s.size:Nat):Int)⟩,⟨101,[],.int .i64 (k:Int)⟩,⟨121,[],.bool ((decide (97≤(lowI ((s.data.toList.getD k 0).toNat:Int))))&&(decide ((lowI ((s.data.toList.getD k 0).toNat:Int))≤122)))⟩]) [0,6,0] [1,8,9,10,11,12,13,15,99,100,101,121] (k:=A0 ?_)
     refine B1 (b:=(decide (97≤(lowI ((s.data.toList.getD k 0).toNat:Int))))&&(decide ((lowI ((s.data.toList.getD k 0).toNat:Int))≤122))) kr (fun hc15=>?_) (fun hc15=>?_)
     ·
      simp only [Bool.and_eq_true,decide_eq_true_eq] at hc15
      refine A2 (A5 (j:=1) [0] (k:=?_))
      refine I2 Tryz.func95 (lower_ ((s.data.toList.getD k 0).toNat:Int) _ _) (D7 (E':=[⟨133,[],.int .u8 (IntKind.wrap .u8 ((IntKind.wrap .u8 ((lowI ((s.data.toList.getD k 0).toNat:Int)) - 97))+10))⟩,⟨1,[],.int .i64 16⟩,⟨8,[],.bool false⟩,⟨9,[],.string s⟩,⟨10,[],.int .u64 1152921504606846976⟩,⟨11,[],.int .u64 4294967295⟩,⟨12,[],.bool false⟩,⟨13,[],.int .u64 n⟩,⟨99,[],.slice (some ⟨b2,0,none⟩) s.size cap3⟩,⟨100,[],.int .i64 ((s.size:Nat):Int)⟩,⟨101,[],.int .i64 (k:Int)⟩]) (j:=4) [0,0] (k:=?_))
      refine E3 (E':=[⟨133,[],.int .u8 (dgI ((s.data.toList.getD k 0).toNat:Int))⟩,⟨1,[],.int .i64 16⟩,⟨8,[],.bool false⟩,⟨9,[],.string s⟩,⟨10,[],.int .u64 1152921504606846976⟩,⟨11,[],.int .u64 4294967295⟩,⟨12,[],.bool false⟩,⟨13,[],.int .u64 n⟩,⟨99,[],.slice (some ⟨b2,0,none⟩) s.size cap3⟩,⟨100,[],.int .i64 ((s.size:Nat):Int)⟩,⟨101,[],.int .i64 (k:Int)⟩]) (by rw [dgI2 (c:=((s.data.toList.getD k 0).toNat:Int)) (by omega) (by omega)]) (A9 [0] [1,8,9,10,11,12,13,16,99,100,101] (k:=?_))
      refine B7 (A0 ?_)
      refine A1 (A1 ?_)
      refine G_p [0,0,0,0] [1,8,9,10,11,12,13,16,99,100,101,137] (k:=A0 ?_)
      refine B1 (b:=decide ((dgI ((s.data.toList.getD k 0).toNat:Int)) ≥ 16)) kr (fun hc16=>?_) (fun hc16=>?_)
      ·
       simp only [ge_iff_le,decide_eq_true_eq] at hc16
       have hdg:=(dg_ok (c:=((s.data.toList.getD k 0).toNat:Int)) (base:=16) (by omega) hcr (by omega)).2 (by omega)
       refine A1 (G_p [0,0,0] [6,7] (k:=?_))
       refine A0 (B6 ?_)
       refine A4 (B0 ?_)
       refine A4 (A4 ?_)
       refine B0 (A4 ?_)
       refine D9 (H':=H) (fun w h=>(h.erase 0)) (B2 [.tmp 6,.tmp 7] [.int .u64 0,.iface 137 (.int .i64 2)] (k:=?_))
       exact ⟨.inr ⟨M0 hV (show k<s.data.toList.length by rw [hlen]; omega) hdg,rfl⟩,rfl⟩
      ·
       simp only [ge_iff_le,decide_eq_false_iff_not] at hc16
       have hdg:=(dg_ok (c:=((s.data.toList.getD k 0).toNat:Int)) (base:=16) (by omega) hcr (by omega)).1 (by omega)
       refine A7 (A0 ?_)
       refine A1 (A1 ?_)
       refine G_p [0,0,0] [1,8,9,10,11,12,13,16,99,100,101,141] (k:=A0 ?_)
       refine B1 (b:=decide (n ≥ 1152921504606846976)) kr (fun hc17=>?_) (fun hc17=>?_)
       ·
        simp only [ge_iff_le,decide_eq_true_eq] at hc17; omega
       ·
        simp only [ge_iff_le,decide_eq_false_iff_not] at hc17
        refine A7 (A0 ?_)
        refine A1 (A2 ?_)
        refine D7 (E':=[⟨147,[],.int .u64 (IntKind.wrap .u64 (n * 16))⟩,⟨1,[],.int .i64 16⟩,⟨8,[],.bool false⟩,⟨9,[],.string s⟩,⟨10,[],.int .u64 1152921504606846976⟩,⟨11,[],.int .u64 4294967295⟩,⟨12,[],.bool false⟩,⟨13,[],.int .u64 n⟩,⟨16,[],.int .u8 (dgI ((s.data.toList.getD k 0).toNat:Int))⟩,⟨99,[],.slice (some ⟨b2,0,none⟩) s.size cap3⟩,⟨100,[],.int .i64 ((s.size:Nat):Int)⟩,⟨101,[],.int .i64 (k:Int)⟩]) (j:=4) [0,0,0,0] (k:=E3 (E':=[⟨147,[],.int .u64 (n * 16)⟩,⟨1,[],.int .i64 16⟩,⟨8,[],.bool false⟩,⟨9,[],.string s⟩,⟨10,[],.int .u64 1152921504606846976⟩,⟨11,[],.int .u64 4294967295⟩,⟨12,[],.bool false⟩,⟨13,[],.int .u64 n⟩,⟨16,[],.int .u8 (dgI ((s.data.toList.getD k 0).toNat:Int))⟩,⟨99,[],.slice (some ⟨b2,0,none⟩) s.size cap3⟩,⟨100,[],.int .i64 ((s.size:Nat):Int)⟩,⟨101,[],.int .i64 (k:Int)⟩]) (by rw [w64u (x:=n * 16) (by omega) (by omega)]) ?_)
        refine A9 [0] [1,8,9,10,11,12,13,16,99,100,101] (k:=A0 ?_)
        refine A1 ?_
        have hw18:IntKind.wrap .u64 (dgI ((s.data.toList.getD k 0).toNat:Int))=(dgI ((s.data.toList.getD k 0).toNat:Int)):=w64u (by omega) (by omega)
        refine A2 (D7 (E':=[⟨151,[],.int .u64 (IntKind.wrap .u64 ((n * 16)+(dgI ((s.data.toList.getD k 0).toNat:Int))))⟩,⟨1,[],.int .i64 16⟩,⟨8,[],.bool false⟩,⟨9,[],.string s⟩,⟨10,[],.int .u64 1152921504606846976⟩,⟨11,[],.int .u64 4294967295⟩,⟨12,[],.bool false⟩,⟨13,[],.int .u64 (n * 16)⟩,⟨99,[],.slice (some ⟨b2,0,none⟩) s.size cap3⟩,⟨100,[],.int .i64 ((s.size:Nat):Int)⟩,⟨101,[],.int .i64 (k:Int)⟩]) [0,0,0,0] (Eq.trans (b:=some [⟨151,[],.int .u64 (IntKind.wrap .u64 ((n * 16)+(IntKind.wrap .u64 (dgI ((s.data.toList.getD k 0).toNat:Int)))))⟩,⟨1,[],.int .i64 16⟩,⟨8,[],.bool false⟩,⟨9,[],.string s⟩,⟨10,[],.int .u64 1152921504606846976⟩,⟨11,[],.int .u64 4294967295⟩,⟨12,[],.bool false⟩,⟨13,[],.int .u64 (n * 16)⟩,⟨99,[],.slice (some ⟨b2,0,none⟩) s.size cap3⟩,⟨100,[],.int .i64 ((s.size:Nat):Int)⟩,⟨101,[],.int .i64 (k:Int)⟩]) kr (by simp only [hw18])) (j:=4) rfl ?_)
        refine E3 (E':=[⟨151,[],.int .u64 (n * 16+dgI ((s.data.toList.getD k 0).toNat:Int))⟩,⟨1,[],.int .i64 16⟩,⟨8,[],.bool false⟩,⟨9,[],.string s⟩,⟨10,[],.int .u64 1152921504606846976⟩,⟨11,[],.int .u64 4294967295⟩,⟨12,[],.bool false⟩,⟨13,[],.int .u64 (n * 16)⟩,⟨99,[],.slice (some ⟨b2,0,none⟩) s.size cap3⟩,⟨100,[],.int .i64 ((s.size:Nat):Int)⟩,⟨101,[],.int .i64 (k:Int)⟩]) (by rw [w64u (x:=n * 16+dgI ((s.data.toList.getD k 0).toNat:Int)) (by omega) (by omega)]) (A9 [0] [1,8,9,10,11,12,13,17,99,100,101] (k:=?_))
        refine A0 (A1 ?_)
        refine A1 (B3 (E':=[⟨1,[],.int .i64 16⟩,⟨8,[],.bool false⟩,⟨9,[],.string s⟩,⟨10,[],.int .u64 1152921504606846976⟩,⟨11,[],.int .u64 4294967295⟩,⟨12,[],.bool false⟩,⟨17,[],.int .u64 (n * 16+dgI ((s.data.toList.getD k 0).toNat:Int))⟩,⟨99,[],.slice (some ⟨b2,0,none⟩) s.size cap3⟩,⟨100,[],.int .i64 ((s.size:Nat):Int)⟩,⟨101,[],.int .i64 (k:Int)⟩,⟨159,[],.bool ((decide ((n * 16+dgI ((s.data.toList.getD k 0).toNat:Int))<(n * 16)))||(decide ((n * 16+dgI ((s.data.toList.getD k 0).toNat:Int)) > 4294967295)))⟩]) [0,0,0,0,0,0,0,5] [1,8,9,10,11,12,17,99,100,101,159] (k:=?_))
        refine A0 (B1 (b:=(decide ((n * 16+dgI ((s.data.toList.getD k 0).toNat:Int))<(n * 16)))||(decide ((n * 16+dgI ((s.data.toList.getD k 0).toNat:Int)) > 4294967295))) kr (fun hc19=>?_) (fun hc19=>?_))
        ·
         simp only [gt_iff_lt,Bool.or_eq_true,decide_eq_true_eq] at hc19; omega
        ·
         simp only [gt_iff_lt,Bool.or_eq_false_iff,decide_eq_false_iff_not] at hc19
         refine A7 (A0 ?_)
         refine G_p [0,0] [1,8,9,10,11,12,13,99,100,101] (k:=B7 ?_)
         refine A0 (A2 ?_)
         refine A5 (j:=1) [0] (k:=D1 163 ((k:Int)+1) (by omega) (by omega) kr ?_)
         refine A9 [0] [1,8,9,10,11,12,13,99,100,101] (k:=E9 (s':=(k+1,(n * 16+dgI ((s.data.toList.getD k 0).toNat:Int)))) [1,8,9,10,11,12,13,99,100,101] kr rfl ⟨(by dsimp only; omega),(by dsimp only; omega),(by dsimp only; rw [Int.pow_succ]; omega),(by dsimp only; rw [hV,H5 _ (show k<s.data.toList.length by rw [hlen]; omega),M1,hdg.1,if_neg (by omega),Int.mul_comm])⟩ (by dsimp only; omega))
     ·
      simp only [Bool.and_eq_false_iff,decide_eq_false_iff_not] at hc15
      refine A1 (G_p [0,0,0] [6,7] (k:=?_))
      refine A0 (B6 ?_)
      refine B0 (A4 ?_)
      refine B0 (A4 ?_)
      refine A4 (B0 ?_)
      refine A4 (D9 (H':=H) (fun w h=>(h.erase 0)) ?_)
      refine B2 [.tmp 6,.tmp 7] [.int .u64 0,.iface 137 (.int .i64 2)] (k:=?_)
      exact ⟨.inr ⟨M0 hV (show k<s.data.toList.length by rw [hlen]; omega) (dg_no (by omega) (by omega) hcr (by decide)),rfl⟩,rfl⟩
  ·
   simp only [decide_eq_false_iff_not] at hc7
   refine G8 (B5 ?_)
   refine B5 (C9 ?_)
   refine A0 (A1 ?_)
   refine A1 (G_p [0,0,1,1,1,3] [13,169] (k:=?_))
   refine A0 (D6 kr ?_)
   refine A7 (A0 ?_)
   refine A1 (G_p [0,0,0] [6,7] (k:=?_))
   refine A0 (B6 ?_)
   refine D9 (H':=H) (fun w h=>(h.erase 0)) (B2 [.tmp 6,.tmp 7] [.int .u64 n,.nilIface] (k:=?_))
   exact ⟨.inl ⟨n,by rw [hV,List.drop_eq_nil_of_le (by rw [hlen]; omega),numV_nil],hn0,by rw [show s.size=k by omega]; exact hn1,rfl⟩,rfl⟩
end Go.Proofs.YtbnfbffiehoapaaGreatDoor
namespace Go.Sw
def isIfT (P:Program) (t:TypeId):Bool:=match P.underlying t with | some (.interface _)=>true | _=>false
theorem isIfT_ms {P:Program} {t:TypeId} (h:isIfT P t=true):∃ ms,P.underlying t=some (.interface ms):=by
  unfold isIfT at h; split at h
  · rename_i ms he; exact ⟨ms,he⟩
  · cases h
def isIntT (P:Program) (t:TypeId):Bool:=match P.underlying t with | some (.int _)=>true | _=>false
theorem isIntT_k {P:Program} {t:TypeId} (h:isIntT P t=true):∃ k,P.underlying t=some (.int k):=by
  unfold isIntT at h; split at h
  · rename_i k he; exact ⟨k,he⟩
  · cases h
theorem run_ifNil {P:Program} (w:World) {t:TypeId} {ms:Array (String × TypeId)} {v:Value} {e ne:Bool} (ht:P.underlying t=some (.interface ms)) (hv:(v=.nilIface∧e=true)∨((∃ a b,v=.iface a b)∧e=false)) :
    (binOp (if ne then .neq else .eql) t v .nilIface).run P w=.ok (.bool (ne ^^ e)) w:=by
  have h:∀ d:Nat,(Op.equalIn (d+1) t v .nilIface).run P w=.ok e w:=fun d=>by
    rcases hv with ⟨rfl,rfl⟩ | ⟨⟨a,b,rfl⟩,rfl⟩ <;> simp [Op.equalIn,run_underlying ht]
  cases ne
  · show (binOp .eql t v .nilIface).run P w=_
    rcases hv with ⟨rfl,rfl⟩ | ⟨⟨a,b,rfl⟩,rfl⟩ <;> (simp only [binOp]; simp [Op.equal,Op.maxDepth,h 9999])
  · show (binOp .neq t v .nilIface).run P w=_
    rcases hv with ⟨rfl,rfl⟩ | ⟨⟨a,b,rfl⟩,rfl⟩ <;> (simp only [binOp]; simp [Op.equal,Op.maxDepth,h 9999])
theorem J1 {d:Bool} {P:Program} {ops:Array Oper} {i:Nat} {Q:D0} {n:Fr} {E:Env} {W0:World} {H:List Grp} {o:Oper} {ch:List (Nat × Bool)} {t t2:TypeId} {x:Operand} {v:Value} {e:Bool} (ne:Bool)
    (ho:ops[i]? = some o:=by exact rfl) (hop:o.op=.binOp (if ne then .neq else .eql) t x (.const .nilIface) t2:=by exact rfl) (hx:evO E ch x=some v:=by kernel_rfl) (ht:isIfT P t=true:=by kernel_rfl) (hv:(v=.nilIface∧e=true)∨((∃ a b,v=.iface a b)∧e=false))
    (hch:D5 ops E o.guard=some ch:=by kernel_rfl) (hd:F1 n ch o.dst=true:=by kernel_rfl) (hk:G3 E ch=true:=by kernel_rfl)
    (k:GL d P ops (i+1) Q n (Env.put E o.dst ch (.bool (ne ^^ e))) W0 H):GL d P ops i Q n E W0 H:=by
  refine F3 ho hch hd hk (fun r hr _ w hsat=>?_) k
  unfold execOp
  simp only [hop]
  rw [hr _ _ hx,hr (.const .nilIface) .nilIface rfl]
  obtain ⟨ms,ht⟩:=isIfT_ms ht
  have:=run_ifNil (P:=P) w (ne:=ne) ht hv
  have hg:(eqGuard (if ne then .neq else .eql) t x (.const .nilIface) v .nilIface).run P w=.ok () w:=by
    rcases hv with ⟨rfl,rfl⟩ | ⟨⟨a,b,rfl⟩,rfl⟩ <;> cases ne <;> cases x <;> rfl
  simp only [Sem.run_bind,hg,this,Result.andThen_ok]
  exact ⟨rfl,rfl⟩
theorem run_ifInt {P:Program} (w:World) {t tx:TypeId} {ms:Array (String × TypeId)} {k q:IntKind} (a b:Int)
    (ht:P.underlying t=some (.interface ms)) (hc:(P.info? tx).map (·.comparable)=some true) (hx:P.underlying tx=some (.int q)) :
    (binOp .eql t (.iface tx (.int k a)) (.iface tx (.int k b))).run P w=.ok (.bool (a==b)) w:=by
  cases hi:P.info? tx with
  | none=>simp [hi] at hc
  | some i =>
    have hcc:i.comparable=true:=by simpa [hi] using hc
    have h:∀ d:Nat,(Op.equalIn (d+2) t (.iface tx (.int k a)) (.iface tx (.int k b))).run P w=.ok (a==b) w:=fun d=>by
      simp [Op.equalIn,run_underlying ht,run_underlying hx,typeInfo,hi,hcc]
    simp only [binOp]
    simp [Op.equal,Op.maxDepth,h 9998]
theorem GL_ifInt {d:Bool} {P:Program} {ops:Array Oper} {i:Nat} {Q:D0} {n:Fr} {E:Env} {W0:World} {H:List Grp} {o:Oper} {ch:List (Nat × Bool)} {t t2 tx:TypeId} {x y:Operand} {kd:IntKind} {a b:Int}
    (ho:ops[i]? = some o) (hop:o.op=.binOp .eql t x y t2) (hx:evO E ch x=some (.iface tx (.int kd a))) (hy:evO E ch y=some (.iface tx (.int kd b))) (ht:isIfT P t=true) (hc:(P.info? tx).map (·.comparable)=some true) (hq:isIntT P tx=true)
    (hch:D5 ops E o.guard=some ch) (hd:F1 n ch o.dst=true) (hk:G3 E ch=true)
    (k:GL d P ops (i+1) Q n (Env.put E o.dst ch (.bool (a==b))) W0 H):GL d P ops i Q n E W0 H:=by
  refine F3 ho hch hd hk (fun r hr _ w hsat=>?_) k
  unfold execOp
  simp only [hop]
  rw [hr _ _ hx,hr _ _ hy]
  obtain ⟨ms,ht⟩:=isIfT_ms ht
  obtain ⟨q,hq⟩:=isIntT_k hq
  have:=run_ifInt (P:=P) w a b ht hc hq (k:=kd)
  have hg:(eqGuard .eql t x y (.iface tx (.int kd a)) (.iface tx (.int kd b))).run P w=.ok () w:=rfl
  simp only [Sem.run_bind,hg,this,Result.andThen_ok]
  exact ⟨rfl,rfl⟩
end Go.Sw
