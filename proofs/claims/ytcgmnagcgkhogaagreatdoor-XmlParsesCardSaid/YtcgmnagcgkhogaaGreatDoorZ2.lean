/- What the walks of XML's reader say, road by road. Plain. (and what it stands on) -/
import Derived.Test.YtcgmnagcgkhogaaGreatDoorZ1
import Derived.Lib.Bytealg
import Derived.Lib.CountLaws
import Derived.Lib.Builder
import Derived.Lib.UnsafeStr
import Derived.Shelf.Unicode.DecodeSlow
import Derived.Lib.IndexMore
namespace Go.Proofs.YtcgmnagcgkhogaaGreatDoor
open Go.Sw
def bsr (l:List (Nat × Value)) (t:Value):Array Value:=((List.range 256).map (fun k=>(l.lookup k).getD (.slice none 0 0))++[t]).toArray
def htmlOlds:List Value:=[.string (mB #[39]),.string (mB #[34]),.string (mB #[62]),.string (mB #[60]),.string (mB #[38])]
def buildR (b:Nat) (a:Option Addr) (cap:Nat) (g:Grp) (H:List Grp) (x:Value) (H':List Grp):Prop:=∃ c aT cT gT a38 c38 g38 a60 c60 g60 a62 c62 g62 a34 c34 g34 a39 c39 g39,x=.iface 184 (pt c)∧Go.Sw.Own 9 1 (.slice aT 5 cT) gT 5 htmlOlds∧(Rd (inG g38) (some ⟨a38,0,none⟩) (u8s (mB #[38,97,109,112,59]).data.toList)∧Rd (inG g60) (some ⟨a60,0,none⟩) (u8s (mB #[38,108,116,59]).data.toList)∧Rd (inG g62) (some ⟨a62,0,none⟩) (u8s (mB #[38,103,116,59]).data.toList)∧Rd (inG g34) (some ⟨a34,0,none⟩) (u8s (mB #[38,113,117,111,116,59]).data.toList)∧Rd (inG g39) (some ⟨a39,0,none⟩) (u8s (mB #[38,35,51,57,59]).data.toList))∧H'=[(c,.cells (bsr [(34,.slice (some ⟨a34,0,none⟩) 6 c34),(38,.slice (some ⟨a38,0,none⟩) 5 c38),(39,.slice (some ⟨a39,0,none⟩) 5 c39),(60,.slice (some ⟨a60,0,none⟩) 4 c60),(62,.slice (some ⟨a62,0,none⟩) 4 c62)] (.slice aT 5 cT)) 183 (0,0))]::gT::g38::g60::g62::g34::g39::([(b,.cells #[.int .u32 0,.int .i32 1,.int .u32 0,.nilIface,.slice a 10 cap] 150 (0,0))]::g::H)
theorem build_ (b:Nat) (a:Option Addr) (cap:Nat) (g:Grp) (hr:Rd (inG g) a htmlT) (W0:World) (H:List Grp):Tri Tryz.prog 111 #[pt b] W0 ([(b,.cells #[.int .u32 0,.int .i32 1,.int .u32 0,.nilIface,.slice a 10 cap] 150 (0,0))]::g::H) (buildR b a cap g H):=by
 refine D5 132 Tryz.func111 ?_
 refine A1 (C3 (E':=[⟨0,[],pt b⟩]) [0] [0] (k:=A0 (A1 (A2 (A3 (j:=3) [0,0,0] (k:=C1 0 4 rfl rfl (C0 (E':=[⟨3,[],.slice a 10 cap⟩]) [0] [3] (k:=A0 ?_))))))))
 refine A1 (A1 (G_p [0,0,0,0,1,1,1,1,1,3] [3,28] (k:=A0 (C5 kr (A7 (A0 (A1 (G_p [0] [3,4] (k:=?_)))))))))
 refine A0 (A1 (A1 (G_p [0] [3,4,5] (k:=A0 (B3 (O0 6 (F5 (A1 ?_))))))))
 refine A1 (G_p [0,0,0,0] [3,4,5,40] (k:=A0 (B9 kr (A7 (A0 (A1 (B3 (A1 ?_))))))))
 refine A1 (A2 (A3 (j:=2) [0,0] (k:=E4 10 0 1 hr (by exact ⟨by decide,by decide,by intro h; cases h⟩) (H7 (0 * 1) (.string (mB #[38])) hr (E0 1 rfl) (fun _=>rfl) (A5 [0,0] [3,4,5,48] (k:=A0 (C5 kr (A7 ?_))))))))
 refine A0 (A1 (A2 (A3 (j:=3) [0,0,0] (k:=E4 10 1 1 hr (by exact ⟨by decide,by decide,by intro h; cases h⟩) (H7 (1 * 1) (.string aC) hr (E0 1 rfl) (fun _=>rfl) (A5 [0,0] [3,4,5,58] (k:=A0 (B9 kr ?_))))))))
 refine G_p [0] [3,4,5] (k:=B8 (A0 (G_p [0,0,0] [3,4,5] (k:=Z4 (F5 (A1 (A1 (G_p [0,0,0,0] [3,4,5,40] (k:=?_)))))))))
 refine A0 (B9 kr (A7 (A0 (A1 (B3 (A1 (A1 (A2 ?_))))))))
 refine A3 (j:=2) [0,0] (k:=E4 10 2 1 hr (by exact ⟨by decide,by decide,by intro h; cases h⟩) (H7 (2 * 1) (.string (mB #[60])) hr (E0 1 rfl) (fun _=>rfl) (A5 [0,0] [3,4,5,48] (k:=A0 (C5 kr (A7 (A0 (A1 ?_))))))))
 refine A2 (A3 (j:=3) [0,0,0] (k:=E4 10 3 1 hr (by exact ⟨by decide,by decide,by intro h; cases h⟩) (H7 (3 * 1) (.string aE) hr (E0 1 rfl) (fun _=>rfl) (A5 [0,0] [3,4,5,58] (k:=A0 (B9 kr (G_p [0] [3,4,5] (k:=B8 ?_))))))))
 refine A0 (G_p [0,0,0] [3,4,5] (k:=Z4 (F5 (A1 (A1 (G_p [0,0,0,0] [3,4,5,40] (k:=A0 (B9 kr ?_))))))))
 refine A7 (A0 (A1 (B3 (A1 (A1 (A2 (A3 (j:=2) [0,0] (k:=E4 10 4 1 hr (by exact ⟨by decide,by decide,by intro h; cases h⟩) ?_))))))))
 refine H7 (4 * 1) (.string (mB #[62])) hr (E0 1 rfl) (fun _=>rfl) (C0 (E':=[⟨3,[],.slice a 10 cap⟩,⟨4,[],.bool false⟩,⟨5,[],.int .i64 4⟩,⟨48,[],.bool false⟩]) [0,0] [3,4,5,48] (k:=A0 (C5 kr (A7 (A0 (A1 (A2 (A3 (j:=3) [0,0,0] (k:=?_)))))))))
 refine E4 10 5 1 hr (by exact ⟨by decide,by decide,by intro h; cases h⟩) (H7 (5 * 1) (.string aD) hr (E0 1 rfl) (fun _=>rfl) (A5 [0,0] [3,4,5,58] (k:=A0 (B9 kr (G_p [0] [3,4,5] (k:=B8 (A0 (G_p [0,0,0] [3,4,5] (k:=?_)))))))))
 refine Z4 (F5 (A1 (A1 (G_p [0,0,0,0] [3,4,5,40] (k:=A0 (B9 kr (A7 (A0 ?_))))))))
 refine A1 (B3 (A1 (A1 (A2 (A3 (j:=2) [0,0] (k:=E4 10 6 1 hr (by exact ⟨by decide,by decide,by intro h; cases h⟩) (H7 (6 * 1) (.string (mB #[34])) hr (E0 1 rfl) (fun _=>rfl) (A5 [0,0] [3,4,5,48] (k:=?_)))))))))
 refine A0 (C5 kr (A7 (A0 (A1 (A2 (A3 (j:=3) [0,0,0] (k:=E4 10 7 1 hr (by exact ⟨by decide,by decide,by intro h; cases h⟩) (H7 (7 * 1) (.string aB) hr (E0 1 rfl) (fun _=>rfl) ?_))))))))
 refine A5 [0,0] [3,4,5,58] (k:=A0 (B9 kr (G_p [0] [3,4,5] (k:=B8 (A0 (G_p [0,0,0] [3,4,5] (k:=Z4 (F5 ?_))))))))
 refine A1 (A1 (G_p [0,0,0,0] [3,4,5,40] (k:=A0 (B9 kr (A7 (A0 (A1 (B3 ?_))))))))
 refine A1 (A1 (A2 (A3 (j:=2) [0,0] (k:=E4 10 8 1 hr (by exact ⟨by decide,by decide,by intro h; cases h⟩) (H7 (8 * 1) (.string (mB #[39])) hr (E0 1 rfl) (fun _=>rfl) (A5 [0,0] [3,4,5,48] (k:=A0 (C5 kr ?_))))))))
 refine A7 (A0 (A1 (A2 (A3 (j:=3) [0,0,0] (k:=E4 10 9 1 hr (by exact ⟨by decide,by decide,by intro h; cases h⟩) (H7 (9 * 1) (.string aG) hr (E0 1 rfl) (fun _=>rfl) (A5 [0,0] [3,4,5,58] (k:=A0 ?_))))))))
 refine B9 kr (G_p [0] [3,4,5] (k:=B8 (A0 (G_p [0,0,0] [3,4,5] (k:=Z4 (F5 (A1 (A1 ?_))))))))
 refine G_p [0,0,0,0] [3,4,5,40] (k:=A0 (C5 kr (E7 (A6 (A6 (B6 (A0 (A1 ?_))))))))
 refine A1 (C3 (E':=[⟨3,[],.slice a 10 cap⟩,⟨59,[],.bool false⟩]) [0] [3,59] (k:=A0 (C5 kr (A7 (A0 (A1 (A2 (A3 (j:=3) [0,0,0] (k:=?_)))))))))
 refine GL_makeLC (i:=3) (ch:=[]) (t:=131) (e:=9) (inf:=Tryz.t9) (l:=0) (m:=5) (c:=[.string eB,.string eB,.string eB,.string eB,.string eB]) rfl rfl kr kr kr kr rfl (by decide) (by decide) (by decide) (by decide) kr kr kr kr (fun b1=>A3 (j:=5) [0] (k:=J0 (.agg (bsr [] (.slice none 0 0))) (fun b2=>X2 0 0 (.agg (bsr [] (.slice (some ⟨b1,0,none⟩) 0 5))) (bsr [] (.slice (some ⟨b1,0,none⟩) 0 5)) rfl (A5 [] [3,11] (k:=A0 (A1 (A1 (G_p [0,0,0,0] [3,11,12] (k:=?_)))))))))
 refine A0 (B3 (O0 6 (F5 (A1 (A1 (G_p [0,0] [3,11,12,100] (k:=A0 (B9 kr ?_))))))))
 refine A7 (A0 (A1 (B3 (A1 (A2 (A3 (j:=2) [0,0] (k:=E4 10 8 1 hr (by exact ⟨by decide,by decide,by intro h; cases h⟩) (H7 (8 * 1) (.string (mB #[39])) hr (E0 3 rfl) (fun _=>rfl) ?_))))))))
 refine G3 (mB #[39]) 0 (fun _=>by decide) (A5 [0] [3,11,12,13] (k:=A0 (A1 (A2 (A3 (j:=3) [0,0,0] (k:=E4 10 9 1 hr (by exact ⟨by decide,by decide,by intro h; cases h⟩) (H7 (9 * 1) (.string aG) hr (E0 3 rfl) (fun _=>rfl) (A5 [0] [3,11,12,13,14] (k:=?_)))))))))
 refine A0 (A1 (A1 (A2 (A3 (j:=2) [0,0] (k:=E9 (ch:=[]) (b:=b2) (off:=0) (len:=256) (sz:=1) (e:=22) (kd:=.u8) (j:=39) (hb:=(fun _=>⟨by decide,by decide⟩)) (k:=C1 (v:=.slice none 0 0) 0 39 rfl kr (A5 [0] [3,11,12,13,14,117] (k:=A0 ?_))))))))
 refine B9 kr (A2 (A3 (j:=1) [0] (k:=C1 (v:=.slice (some ⟨b1,0,none⟩) 0 5) 0 256 rfl kr (A3 (j:=3) [0] (k:=G8 5 1 [.int .u8 39] (fun b3=>N5 (ch:=[]) (a:=⟨b3,0,none⟩) (cap:=1) (e:=5) (S:=(inG [(b3,.cells #[.int .u8 39] 5 (0,0))])) ([39]) (hrd:=Rd.lit (c:=[.int .u8 39])) (hS:=E0 0 rfl) (k:=G8 9 1 [.string (mB #[39])] (fun b4=>L8 (inf:=Tryz.t9) (e:=9) (s:=.slice (some ⟨b1,0,none⟩) 0 5) 1 0 3 rfl rfl (own_cut0 (c:=[.string eB,.string eB,.string eB,.string eB,.string eB]) rfl) (by omega) (by show (0+1) * 16≤140737488355328; omega) (fun v5 g6 hO7=>?_)))))))))
 obtain ⟨a8,cap9,rfl,hcap10,hrd11⟩:=hO7.shape
 refine A3 (j:=8) [0] (k:=X2 2 256 (.slice a8 (0+1) cap9) (bsr [] (.slice a8 (0+1) cap9)) rfl (A5 [] [3,11,12,13,14] (k:=A0 (A2 (A3 (j:=2) [0,0] (k:=O8 (ch:=[]) (src:=9) (dst:=22) (e:=5) (s:=aG) (k:=(fun b12 cap13 g14 hcap15 hrd16=>?_))))))))
 refine A3 (j:=4) [0] (k:=E9 (ch:=[]) (b:=b2) (off:=0) (len:=256) (sz:=1) (e:=22) (kd:=.u8) (j:=39) (hb:=(fun _=>⟨by decide,by decide⟩)) (k:=X2 3 39 (.slice (some ⟨b12,0,none⟩) (aG.size) cap13) (bsr [(39,.slice (some ⟨b12,0,none⟩) (aG.size) cap13)] (.slice a8 (0+1) cap9)) rfl (A5 [] [3,11,12] (k:=B8 (A0 (G_p [0,0,0] [3,11,12] (k:=Z4 (F5 ?_))))))))
 refine A1 (A1 (G_p [0,0] [3,11,12,100] (k:=A0 (B9 kr (A7 (A0 (A1 (B3 ?_))))))))
 refine A1 (A2 (A3 (j:=2) [0,0] (k:=E4 10 6 1 hr (by exact ⟨by decide,by decide,by intro h; cases h⟩) (H7 (6 * 1) (.string (mB #[34])) hr (E0 6 rfl) (fun _=>rfl) (G3 (mB #[34]) 0 (fun _=>by decide) (A5 [0] [3,11,12,13] (k:=A0 (A1 ?_))))))))
 refine A2 (A3 (j:=3) [0,0,0] (k:=E4 10 7 1 hr (by exact ⟨by decide,by decide,by intro h; cases h⟩) (H7 (7 * 1) (.string aB) hr (E0 6 rfl) (fun _=>rfl) (A5 [0] [3,11,12,13,14] (k:=A0 (A1 (A1 (A2 ?_))))))))
 refine A3 (j:=2) [0,0] (k:=E9 (ch:=[]) (b:=b2) (off:=0) (len:=256) (sz:=1) (e:=22) (kd:=.u8) (j:=34) (hb:=(fun _=>⟨by decide,by decide⟩)) (k:=C1 (v:=.slice none 0 0) 3 34 rfl kr (A5 [0] [3,11,12,13,14,117] (k:=A0 (B9 kr (A2 (A3 (j:=1) [0] (k:=C1 (v:=.slice a8 (0+1) cap9) 3 256 rfl kr ?_))))))))
 refine A3 (j:=3) [0] (k:=G8 5 1 [.int .u8 34] (fun b17=>N5 (ch:=[]) (a:=⟨b17,0,none⟩) (cap:=1) (e:=5) (S:=(inG [(b17,.cells #[.int .u8 34] 5 (0,0))])) ([34]) (hrd:=Rd.lit (c:=[.int .u8 34])) (hS:=E0 0 rfl) (k:=G8 9 1 [.string (mB #[34])] (fun b18=>L8 (inf:=Tryz.t9) 1 0 6 rfl rfl hO7 (by omega) (by show ((0+1)+1) * 16≤140737488355328; omega) (fun v19 g20 hO21=>?_)))))
 obtain ⟨a22,cap23,rfl,hcap24,hrd25⟩:=hO21.shape
 refine A3 (j:=8) [0] (k:=X2 5 256 (.slice a22 ((0+1)+1) cap23) (bsr [(39,.slice (some ⟨b12,0,none⟩) (aG.size) cap13)] (.slice a22 ((0+1)+1) cap23)) rfl (A5 [] [3,11,12,13,14] (k:=A0 (A2 (A3 (j:=2) [0,0] (k:=O8 (ch:=[]) (src:=9) (dst:=22) (e:=5) (s:=aB) (k:=(fun b26 cap27 g28 hcap29 hrd30=>?_))))))))
 refine A3 (j:=4) [0] (k:=E9 (ch:=[]) (b:=b2) (off:=0) (len:=256) (sz:=1) (e:=22) (kd:=.u8) (j:=34) (hb:=(fun _=>⟨by decide,by decide⟩)) (k:=X2 6 34 (.slice (some ⟨b26,0,none⟩) (aB.size) cap27) (bsr [(34,.slice (some ⟨b26,0,none⟩) (aB.size) cap27),(39,.slice (some ⟨b12,0,none⟩) (aG.size) cap13)] (.slice a22 ((0+1)+1) cap23)) rfl (C0 (E':=[⟨3,[],.slice a 10 cap⟩,⟨11,[],pt b2⟩,⟨12,[],.int .i64 6⟩]) [] [3,11,12] (k:=B8 (A0 (G_p [0,0,0] [3,11,12] (k:=Z4 (F5 ?_))))))))
 refine A1 (A1 (G_p [0,0] [3,11,12,100] (k:=A0 (B9 kr (A7 (A0 (A1 (B3 ?_))))))))
 refine A1 (A2 (A3 (j:=2) [0,0] (k:=E4 10 4 1 hr (by exact ⟨by decide,by decide,by intro h; cases h⟩) (H7 (4 * 1) (.string (mB #[62])) hr (E0 9 rfl) (fun _=>rfl) (G3 (mB #[62]) 0 (fun _=>by decide) (A5 [0] [3,11,12,13] (k:=A0 (A1 ?_))))))))
 refine A2 (A3 (j:=3) [0,0,0] (k:=E4 10 5 1 hr (by exact ⟨by decide,by decide,by intro h; cases h⟩) (H7 (5 * 1) (.string aD) hr (E0 9 rfl) (fun _=>rfl) (A5 [0] [3,11,12,13,14] (k:=A0 (A1 (A1 (A2 ?_))))))))
 refine A3 (j:=2) [0,0] (k:=E9 (ch:=[]) (b:=b2) (off:=0) (len:=256) (sz:=1) (e:=22) (kd:=.u8) (j:=62) (hb:=(fun _=>⟨by decide,by decide⟩)) (k:=C1 (v:=.slice none 0 0) 6 62 rfl kr (A5 [0] [3,11,12,13,14,117] (k:=A0 (B9 kr (A2 (A3 (j:=1) [0] (k:=C1 (v:=.slice a22 ((0+1)+1) cap23) 6 256 rfl kr ?_))))))))
 refine A3 (j:=3) [0] (k:=G8 5 1 [.int .u8 62] (fun b31=>N5 (ch:=[]) (a:=⟨b31,0,none⟩) (cap:=1) (e:=5) (S:=(inG [(b31,.cells #[.int .u8 62] 5 (0,0))])) ([62]) (hrd:=Rd.lit (c:=[.int .u8 62])) (hS:=E0 0 rfl) (k:=G8 9 1 [.string (mB #[62])] (fun b32=>L8 (inf:=Tryz.t9) 1 0 9 rfl rfl hO21 (by omega) (by show (((0+1)+1)+1) * 16≤140737488355328; omega) (fun v33 g34 hO35=>?_)))))
 obtain ⟨a36,cap37,rfl,hcap38,hrd39⟩:=hO35.shape
 refine A3 (j:=8) [0] (k:=GL_st (ch:=[]) (b:=b2) (off:=256) (v:=.slice a36 (((0+1)+1)+1) cap37) (j:=8) ([(b32,.cells #[.string (mB #[62])] 9 (0,0))]::[(b31,.cells #[.int .u8 62] 5 (0,0))]::g28::[(b18,.cells #[.string (mB #[34])] 9 (0,0))]::[(b17,.cells #[.int .u8 34] 5 (0,0))]::g14::[(b4,.cells #[.string (mB #[39])] 9 (0,0))]::[(b3,.cells #[.int .u8 39] 5 (0,0))]::[(b2,.cells (bsr [(34,.slice (some ⟨b26,0,none⟩) (aB.size) cap27),(39,.slice (some ⟨b12,0,none⟩) (aG.size) cap13)] (.slice a36 (((0+1)+1)+1) cap37)) 183 (0,0))]::g34::[(b,.cells #[.int .u32 0,.int .i32 1,.int .u32 0,.nilIface,.slice a 10 cap] 150 (0,0))]::g::H) (h1:=kr) (hoff:=Nat.le_of_ble_eq_true kr) (hfz:=(fun _ _=>thaw0)) (k:=A5 [] [3,11,12,13,14] (k:=A0 (A2 (A3 (j:=2) [0,0] (k:=O8 (ch:=[]) (src:=9) (dst:=22) (e:=5) (s:=aD) (k:=(fun b40 cap41 g42 hcap43 hrd44=>?_))))))))
 refine A3 (j:=4) [0] (k:=E9 (ch:=[]) (b:=b2) (off:=0) (len:=256) (sz:=1) (e:=22) (kd:=.u8) (j:=62) (hb:=(fun _=>⟨by decide,by decide⟩)) (k:=X2 9 62 (.slice (some ⟨b40,0,none⟩) (aD.size) cap41) (bsr [(34,.slice (some ⟨b26,0,none⟩) (aB.size) cap27),(39,.slice (some ⟨b12,0,none⟩) (aG.size) cap13),(62,.slice (some ⟨b40,0,none⟩) (aD.size) cap41)] (.slice a36 (((0+1)+1)+1) cap37)) rfl (A5 [] [3,11,12] (k:=B8 (A0 (G_p [0,0,0] [3,11,12] (k:=Z4 (F5 ?_))))))))
 refine A1 (A1 (G_p [0,0] [3,11,12,100] (k:=A0 (B9 kr (A7 (A0 (A1 (B3 ?_))))))))
 refine A1 (A2 (A3 (j:=2) [0,0] (k:=E4 10 2 1 hr (by exact ⟨by decide,by decide,by intro h; cases h⟩) (H7 (2 * 1) (.string (mB #[60])) hr (E0 12 rfl) (fun _=>rfl) (G3 (mB #[60]) 0 (fun _=>by decide) (A5 [0] [3,11,12,13] (k:=A0 (A1 ?_))))))))
 refine A2 (A3 (j:=3) [0,0,0] (k:=E4 10 3 1 hr (by exact ⟨by decide,by decide,by intro h; cases h⟩) (H7 (3 * 1) (.string aE) hr (E0 12 rfl) (fun _=>rfl) (A5 [0] [3,11,12,13,14] (k:=A0 (A1 (A1 (A2 ?_))))))))
 refine A3 (j:=2) [0,0] (k:=E9 (ch:=[]) (b:=b2) (off:=0) (len:=256) (sz:=1) (e:=22) (kd:=.u8) (j:=60) (hb:=(fun _=>⟨by decide,by decide⟩)) (k:=C1 (v:=.slice none 0 0) 9 60 rfl kr (A5 [0] [3,11,12,13,14,117] (k:=A0 (B9 kr (A2 (A3 (j:=1) [0] (k:=C1 (v:=.slice a36 (((0+1)+1)+1) cap37) 9 256 rfl kr ?_))))))))
 refine A3 (j:=3) [0] (k:=G8 5 1 [.int .u8 60] (fun b45=>N5 (ch:=[]) (a:=⟨b45,0,none⟩) (cap:=1) (e:=5) (S:=(inG [(b45,.cells #[.int .u8 60] 5 (0,0))])) ([60]) (hrd:=Rd.lit (c:=[.int .u8 60])) (hS:=E0 0 rfl) (k:=G8 9 1 [.string (mB #[60])] (fun b46=>L8 (inf:=Tryz.t9) 1 0 12 rfl rfl hO35 (by omega) (by show ((((0+1)+1)+1)+1) * 16≤140737488355328; omega) (fun v47 g48 hO49=>?_)))))
 obtain ⟨a50,cap51,rfl,hcap52,hrd53⟩:=hO49.shape
 refine A3 (j:=8) [0] (k:=X2 11 256 (.slice a50 ((((0+1)+1)+1)+1) cap51) (bsr [(34,.slice (some ⟨b26,0,none⟩) (aB.size) cap27),(39,.slice (some ⟨b12,0,none⟩) (aG.size) cap13),(62,.slice (some ⟨b40,0,none⟩) (aD.size) cap41)] (.slice a50 ((((0+1)+1)+1)+1) cap51)) rfl (A5 [] [3,11,12,13,14] (k:=A0 (A2 (A3 (j:=2) [0,0] (k:=O8 (ch:=[]) (src:=9) (dst:=22) (e:=5) (s:=aE) (k:=(fun b54 cap55 g56 hcap57 hrd58=>?_))))))))
 refine A3 (j:=4) [0] (k:=E9 (ch:=[]) (b:=b2) (off:=0) (len:=256) (sz:=1) (e:=22) (kd:=.u8) (j:=60) (hb:=(fun _=>⟨by decide,by decide⟩)) (k:=X2 12 60 (.slice (some ⟨b54,0,none⟩) (aE.size) cap55) (bsr [(34,.slice (some ⟨b26,0,none⟩) (aB.size) cap27),(39,.slice (some ⟨b12,0,none⟩) (aG.size) cap13),(60,.slice (some ⟨b54,0,none⟩) (aE.size) cap55),(62,.slice (some ⟨b40,0,none⟩) (aD.size) cap41)] (.slice a50 ((((0+1)+1)+1)+1) cap51)) rfl (A5 [] [3,11,12] (k:=B8 (A0 (C3 (E':=[⟨3,[],.slice a 10 cap⟩,⟨11,[],pt b2⟩,⟨12,[],.int .i64 0⟩]) [0,0,0] [3,11,12] (k:=Z4 (F5 ?_))))))))
 refine A1 (A1 (G_p [0,0] [3,11,12,100] (k:=A0 (B9 kr (A7 (A0 (A1 (B3 ?_))))))))
 refine A1 (A2 (A3 (j:=2) [0,0] (k:=E4 10 0 1 hr (by exact ⟨by decide,by decide,by intro h; cases h⟩) (H7 (0 * 1) (.string (mB #[38])) hr (E0 15 rfl) (fun _=>rfl) (G3 (mB #[38]) 0 (fun _=>by decide) (A5 [0] [3,11,12,13] (k:=A0 (A1 ?_))))))))
 refine A2 (A3 (j:=3) [0,0,0] (k:=E4 10 1 1 hr (by exact ⟨by decide,by decide,by intro h; cases h⟩) (H7 (1 * 1) (.string aC) hr (E0 15 rfl) (fun _=>rfl) (A5 [0] [3,11,12,13,14] (k:=A0 (A1 (A1 (A2 ?_))))))))
 refine A3 (j:=2) [0,0] (k:=E9 (ch:=[]) (b:=b2) (off:=0) (len:=256) (sz:=1) (e:=22) (kd:=.u8) (j:=38) (hb:=(fun _=>⟨by decide,by decide⟩)) (k:=C1 (v:=.slice none 0 0) 12 38 rfl kr (A5 [0] [3,11,12,13,14,117] (k:=A0 (B9 kr (A2 (A3 (j:=1) [0] (k:=C1 (v:=.slice a50 ((((0+1)+1)+1)+1) cap51) 12 256 rfl kr ?_))))))))
 refine A3 (j:=3) [0] (k:=G8 5 1 [.int .u8 38] (fun b59=>N5 (ch:=[]) (a:=⟨b59,0,none⟩) (cap:=1) (e:=5) (S:=(inG [(b59,.cells #[.int .u8 38] 5 (0,0))])) ([38]) (hrd:=Rd.lit (c:=[.int .u8 38])) (hS:=E0 0 rfl) (k:=G8 9 1 [.string (mB #[38])] (fun b60=>L8 (inf:=Tryz.t9) 1 0 15 rfl rfl hO49 (by omega) (by show (((((0+1)+1)+1)+1)+1) * 16≤140737488355328; omega) (fun v61 g62 hO63=>?_)))))
 obtain ⟨a64,cap65,rfl,hcap66,hrd67⟩:=hO63.shape
 refine A3 (j:=8) [0] (k:=X2 14 256 (.slice a64 (((((0+1)+1)+1)+1)+1) cap65) (bsr [(34,.slice (some ⟨b26,0,none⟩) (aB.size) cap27),(39,.slice (some ⟨b12,0,none⟩) (aG.size) cap13),(60,.slice (some ⟨b54,0,none⟩) (aE.size) cap55),(62,.slice (some ⟨b40,0,none⟩) (aD.size) cap41)] (.slice a64 (((((0+1)+1)+1)+1)+1) cap65)) rfl (A5 [] [3,11,12,13,14] (k:=A0 (A2 (A3 (j:=2) [0,0] (k:=O8 (ch:=[]) (src:=9) (dst:=22) (e:=5) (s:=aC) (k:=(fun b68 cap69 g70 hcap71 hrd72=>?_))))))))
 refine A3 (j:=4) [0] (k:=E9 (ch:=[]) (b:=b2) (off:=0) (len:=256) (sz:=1) (e:=22) (kd:=.u8) (j:=38) (hb:=(fun _=>⟨by decide,by decide⟩)) (k:=X2 15 38 (.slice (some ⟨b68,0,none⟩) (aC.size) cap69) (bsr [(34,.slice (some ⟨b26,0,none⟩) (aB.size) cap27),(38,.slice (some ⟨b68,0,none⟩) (aC.size) cap69),(39,.slice (some ⟨b12,0,none⟩) (aG.size) cap13),(60,.slice (some ⟨b54,0,none⟩) (aE.size) cap55),(62,.slice (some ⟨b40,0,none⟩) (aD.size) cap41)] (.slice a64 (((((0+1)+1)+1)+1)+1) cap65)) rfl (A5 [] [3,11,12] (k:=B8 (A0 (G_p [0,0,0] [3,11,12] (k:=Z4 (F5 ?_))))))))
 refine A1 (A1 (G_p [0,0] [3,11,12,100] (k:=A0 (C5 kr (E7 (A6 (A6 (B6 ?_))))))))
 refine A0 (A1 (C3 (E':=[⟨2,[],.iface 184 (pt b2)⟩]) [0,0] [2] (k:=A0 (B4 (F3 (H':=(g70::[(b60,.cells #[.string (mB #[38])] 9 (0,0))]::[(b59,.cells #[.int .u8 38] 5 (0,0))]::g56::[(b46,.cells #[.string (mB #[60])] 9 (0,0))]::[(b45,.cells #[.int .u8 60] 5 (0,0))]::g42::[(b32,.cells #[.string (mB #[62])] 9 (0,0))]::[(b31,.cells #[.int .u8 62] 5 (0,0))]::g28::[(b18,.cells #[.string (mB #[34])] 9 (0,0))]::[(b17,.cells #[.int .u8 34] 5 (0,0))]::g14::[(b4,.cells #[.string (mB #[39])] 9 (0,0))]::[(b2,.cells (bsr [(34,.slice (some ⟨b26,0,none⟩) (aB.size) cap27),(38,.slice (some ⟨b68,0,none⟩) (aC.size) cap69),(39,.slice (some ⟨b12,0,none⟩) (aG.size) cap13),(60,.slice (some ⟨b54,0,none⟩) (aE.size) cap55),(62,.slice (some ⟨b40,0,none⟩) (aD.size) cap41)] (.slice a64 (((((0+1)+1)+1)+1)+1) cap65)) 183 (0,0))]::g62::[(b,.cells #[.int .u32 0,.int .i32 1,.int .u32 0,.nilIface,.slice a 10 cap] 150 (0,0))]::g::H)) (fun w h=>h.erase 14) (F3 (H':=(g70::[(b60,.cells #[.string (mB #[38])] 9 (0,0))]::[(b59,.cells #[.int .u8 38] 5 (0,0))]::g56::[(b46,.cells #[.string (mB #[60])] 9 (0,0))]::[(b45,.cells #[.int .u8 60] 5 (0,0))]::g42::[(b32,.cells #[.string (mB #[62])] 9 (0,0))]::[(b31,.cells #[.int .u8 62] 5 (0,0))]::g28::[(b18,.cells #[.string (mB #[34])] 9 (0,0))]::[(b17,.cells #[.int .u8 34] 5 (0,0))]::g14::[(b2,.cells (bsr [(34,.slice (some ⟨b26,0,none⟩) (aB.size) cap27),(38,.slice (some ⟨b68,0,none⟩) (aC.size) cap69),(39,.slice (some ⟨b12,0,none⟩) (aG.size) cap13),(60,.slice (some ⟨b54,0,none⟩) (aE.size) cap55),(62,.slice (some ⟨b40,0,none⟩) (aD.size) cap41)] (.slice a64 (((((0+1)+1)+1)+1)+1) cap65)) 183 (0,0))]::g62::[(b,.cells #[.int .u32 0,.int .i32 1,.int .u32 0,.nilIface,.slice a 10 cap] 150 (0,0))]::g::H)) (fun w h=>h.erase 13) (F3 (H':=(g70::[(b60,.cells #[.string (mB #[38])] 9 (0,0))]::[(b59,.cells #[.int .u8 38] 5 (0,0))]::g56::[(b46,.cells #[.string (mB #[60])] 9 (0,0))]::[(b45,.cells #[.int .u8 60] 5 (0,0))]::g42::[(b32,.cells #[.string (mB #[62])] 9 (0,0))]::[(b31,.cells #[.int .u8 62] 5 (0,0))]::g28::[(b18,.cells #[.string (mB #[34])] 9 (0,0))]::g14::[(b2,.cells (bsr [(34,.slice (some ⟨b26,0,none⟩) (aB.size) cap27),(38,.slice (some ⟨b68,0,none⟩) (aC.size) cap69),(39,.slice (some ⟨b12,0,none⟩) (aG.size) cap13),(60,.slice (some ⟨b54,0,none⟩) (aE.size) cap55),(62,.slice (some ⟨b40,0,none⟩) (aD.size) cap41)] (.slice a64 (((((0+1)+1)+1)+1)+1) cap65)) 183 (0,0))]::g62::[(b,.cells #[.int .u32 0,.int .i32 1,.int .u32 0,.nilIface,.slice a 10 cap] 150 (0,0))]::g::H)) (fun w h=>h.erase 11) (F3 (H':=(g70::[(b60,.cells #[.string (mB #[38])] 9 (0,0))]::[(b59,.cells #[.int .u8 38] 5 (0,0))]::g56::[(b46,.cells #[.string (mB #[60])] 9 (0,0))]::[(b45,.cells #[.int .u8 60] 5 (0,0))]::g42::[(b32,.cells #[.string (mB #[62])] 9 (0,0))]::[(b31,.cells #[.int .u8 62] 5 (0,0))]::g28::g14::[(b2,.cells (bsr [(34,.slice (some ⟨b26,0,none⟩) (aB.size) cap27),(38,.slice (some ⟨b68,0,none⟩) (aC.size) cap69),(39,.slice (some ⟨b12,0,none⟩) (aG.size) cap13),(60,.slice (some ⟨b54,0,none⟩) (aE.size) cap55),(62,.slice (some ⟨b40,0,none⟩) (aD.size) cap41)] (.slice a64 (((((0+1)+1)+1)+1)+1) cap65)) 183 (0,0))]::g62::[(b,.cells #[.int .u32 0,.int .i32 1,.int .u32 0,.nilIface,.slice a 10 cap] 150 (0,0))]::g::H)) (fun w h=>h.erase 10) ?_))))))))
 refine F3 (H':=(g70::[(b60,.cells #[.string (mB #[38])] 9 (0,0))]::[(b59,.cells #[.int .u8 38] 5 (0,0))]::g56::[(b46,.cells #[.string (mB #[60])] 9 (0,0))]::[(b45,.cells #[.int .u8 60] 5 (0,0))]::g42::[(b32,.cells #[.string (mB #[62])] 9 (0,0))]::g28::g14::[(b2,.cells (bsr [(34,.slice (some ⟨b26,0,none⟩) (aB.size) cap27),(38,.slice (some ⟨b68,0,none⟩) (aC.size) cap69),(39,.slice (some ⟨b12,0,none⟩) (aG.size) cap13),(60,.slice (some ⟨b54,0,none⟩) (aE.size) cap55),(62,.slice (some ⟨b40,0,none⟩) (aD.size) cap41)] (.slice a64 (((((0+1)+1)+1)+1)+1) cap65)) 183 (0,0))]::g62::[(b,.cells #[.int .u32 0,.int .i32 1,.int .u32 0,.nilIface,.slice a 10 cap] 150 (0,0))]::g::H)) (fun w h=>h.erase 8) (F3 (H':=(g70::[(b60,.cells #[.string (mB #[38])] 9 (0,0))]::[(b59,.cells #[.int .u8 38] 5 (0,0))]::g56::[(b46,.cells #[.string (mB #[60])] 9 (0,0))]::[(b45,.cells #[.int .u8 60] 5 (0,0))]::g42::g28::g14::[(b2,.cells (bsr [(34,.slice (some ⟨b26,0,none⟩) (aB.size) cap27),(38,.slice (some ⟨b68,0,none⟩) (aC.size) cap69),(39,.slice (some ⟨b12,0,none⟩) (aG.size) cap13),(60,.slice (some ⟨b54,0,none⟩) (aE.size) cap55),(62,.slice (some ⟨b40,0,none⟩) (aD.size) cap41)] (.slice a64 (((((0+1)+1)+1)+1)+1) cap65)) 183 (0,0))]::g62::[(b,.cells #[.int .u32 0,.int .i32 1,.int .u32 0,.nilIface,.slice a 10 cap] 150 (0,0))]::g::H)) (fun w h=>h.erase 7) (F3 (H':=(g70::[(b60,.cells #[.string (mB #[38])] 9 (0,0))]::[(b59,.cells #[.int .u8 38] 5 (0,0))]::g56::[(b46,.cells #[.string (mB #[60])] 9 (0,0))]::g42::g28::g14::[(b2,.cells (bsr [(34,.slice (some ⟨b26,0,none⟩) (aB.size) cap27),(38,.slice (some ⟨b68,0,none⟩) (aC.size) cap69),(39,.slice (some ⟨b12,0,none⟩) (aG.size) cap13),(60,.slice (some ⟨b54,0,none⟩) (aE.size) cap55),(62,.slice (some ⟨b40,0,none⟩) (aD.size) cap41)] (.slice a64 (((((0+1)+1)+1)+1)+1) cap65)) 183 (0,0))]::g62::[(b,.cells #[.int .u32 0,.int .i32 1,.int .u32 0,.nilIface,.slice a 10 cap] 150 (0,0))]::g::H)) (fun w h=>h.erase 5) (F3 (H':=(g70::[(b60,.cells #[.string (mB #[38])] 9 (0,0))]::[(b59,.cells #[.int .u8 38] 5 (0,0))]::g56::g42::g28::g14::[(b2,.cells (bsr [(34,.slice (some ⟨b26,0,none⟩) (aB.size) cap27),(38,.slice (some ⟨b68,0,none⟩) (aC.size) cap69),(39,.slice (some ⟨b12,0,none⟩) (aG.size) cap13),(60,.slice (some ⟨b54,0,none⟩) (aE.size) cap55),(62,.slice (some ⟨b40,0,none⟩) (aD.size) cap41)] (.slice a64 (((((0+1)+1)+1)+1)+1) cap65)) 183 (0,0))]::g62::[(b,.cells #[.int .u32 0,.int .i32 1,.int .u32 0,.nilIface,.slice a 10 cap] 150 (0,0))]::g::H)) (fun w h=>h.erase 4) (F3 (H':=(g70::[(b60,.cells #[.string (mB #[38])] 9 (0,0))]::g56::g42::g28::g14::[(b2,.cells (bsr [(34,.slice (some ⟨b26,0,none⟩) (aB.size) cap27),(38,.slice (some ⟨b68,0,none⟩) (aC.size) cap69),(39,.slice (some ⟨b12,0,none⟩) (aG.size) cap13),(60,.slice (some ⟨b54,0,none⟩) (aE.size) cap55),(62,.slice (some ⟨b40,0,none⟩) (aD.size) cap41)] (.slice a64 (((((0+1)+1)+1)+1)+1) cap65)) 183 (0,0))]::g62::[(b,.cells #[.int .u32 0,.int .i32 1,.int .u32 0,.nilIface,.slice a 10 cap] 150 (0,0))]::g::H)) (fun w h=>h.erase 2) (F3 (H':=(g70::g56::g42::g28::g14::[(b2,.cells (bsr [(34,.slice (some ⟨b26,0,none⟩) (aB.size) cap27),(38,.slice (some ⟨b68,0,none⟩) (aC.size) cap69),(39,.slice (some ⟨b12,0,none⟩) (aG.size) cap13),(60,.slice (some ⟨b54,0,none⟩) (aE.size) cap55),(62,.slice (some ⟨b40,0,none⟩) (aD.size) cap41)] (.slice a64 (((((0+1)+1)+1)+1)+1) cap65)) 183 (0,0))]::g62::[(b,.cells #[.int .u32 0,.int .i32 1,.int .u32 0,.nilIface,.slice a 10 cap] 150 (0,0))]::g::H)) (fun w h=>h.erase 1) (F8 0 [5,5,0,0,0,0,0,0,0] (B7 [.tmp 2] [.iface 184 (pt b2)] (k:=?_))))))))
 refine ⟨b2,a64,cap65,g62,b68,cap69,g70,b54,cap55,g56,b40,cap41,g42,b26,cap27,g28,b12,cap13,g14,rfl,?_,⟨hrd72,hrd58,hrd44,hrd30,hrd16⟩,?_⟩
 exact hO63
 kernel_rfl
def htmlRep (g:Grp) (x:Value) (K:List Grp):Prop:=∃ c aT cT gT a38 c38 g38 a60 c60 g60 a62 c62 g62 a34 c34 g34 a39 c39 g39,x=.iface 184 (pt c)∧Go.Sw.Own 9 1 (.slice aT 5 cT) gT 5 htmlOlds∧(Rd (inG g38) (some ⟨a38,0,none⟩) (u8s (mB #[38,97,109,112,59]).data.toList)∧Rd (inG g60) (some ⟨a60,0,none⟩) (u8s (mB #[38,108,116,59]).data.toList)∧Rd (inG g62) (some ⟨a62,0,none⟩) (u8s (mB #[38,103,116,59]).data.toList)∧Rd (inG g34) (some ⟨a34,0,none⟩) (u8s (mB #[38,113,117,111,116,59]).data.toList)∧Rd (inG g39) (some ⟨a39,0,none⟩) (u8s (mB #[38,35,51,57,59]).data.toList))∧K=[[(c,.cells (bsr [(34,.slice (some ⟨a34,0,none⟩) 6 c34),(38,.slice (some ⟨a38,0,none⟩) 5 c38),(39,.slice (some ⟨a39,0,none⟩) 5 c39),(60,.slice (some ⟨a60,0,none⟩) 4 c60),(62,.slice (some ⟨a62,0,none⟩) 4 c62)] (.slice aT 5 cT)) 183 (0,0))],gT,g38,g60,g62,g34,g39,g]
theorem buildOnce_ (b:Nat) (a:Option Addr) (cap:Nat) (g:Grp) (hr:Rd (inG g) a htmlT) (W0:World) (H:List Grp):Tri Tryz.prog 94 #[pt b] W0 ([(b,.cells #[.int .u32 0,.int .i32 1,.int .u32 0,.nilIface,.slice a 10 cap] 150 (0,0))]::g::H) (fun _ H'=>∃ r2 K2,htmlRep g r2 K2∧H'=repG b 0 1 r2 (.slice none 0 0)::(K2++H)):=by
 refine D5 10 Tryz.func94 ?_
 refine A1 (A2 (A3 (j:=2) [0,0] (k:=D9 Tryz.func111 (build_ b a cap g hr _ _) ?_)))
 rintro _ _ ⟨c,aT,cT,gT,a38,c38,g38,a60,c60,g60,a62,c62,g62,a34,c34,g34,a39,c39,g39,rfl,hT,hR,rfl⟩
 refine A3 (j:=5) [0,0] (k:=C9 7 3 (.iface 184 (pt c)) rfl (C0 (E':=[⟨0,[],pt b⟩]) [] [0] (k:=A0 (A2 (A3 (j:=3) [0,0,0] (k:=C9 7 4 (.slice none 0 0) rfl (C0 (E':=[]) [] [] (k:=F8 0 [7,0,0,0,0,0,0,0,0] ?_))))))))
 refine B7 [] [] (k:=?_)
 exact ⟨_,_,⟨c,aT,cT,gT,a38,c38,g38,a60,c60,g60,a62,c62,g62,a34,c34,g34,a39,c39,g39,rfl,hT,hR,rfl⟩,rfl⟩
theorem htmlOnce (b:Nat) (a:Option Addr) (cap:Nat) (g:Grp) (hr:Rd (inG g) a htmlT) (W0:World) (H:List Grp):Tri Tryz.prog 93 #[pt b,.func (.func 94) #[pt b] #[]] W0 (repG b 0 0 .nilIface (.slice a 10 cap)::([g]++H)) (fun _ H'=>∃ r2 K2,htmlRep g r2 K2∧H'=repG b 1 0 r2 (.slice none 0 0)::(K2++H)) :=
 onceDo_ b .nilIface (.slice a 10 cap) (.slice none 0 0) [g] (htmlRep g) (fun W0 H=>buildOnce_ b a cap g hr W0 H) W0 H
theorem repReplace_ (b:Nat) (a:Option Addr) (cap:Nat) (g:Grp) (hr:Rd (inG g) a htmlT) (x y:ByteArray) (hrep:∀ c aT cT gT a38 c38 g38 a60 c60 g60 a62 c62 g62 a34 c34 g34 a39 c39 g39 W0 H,Go.Sw.Own 9 1 (.slice aT 5 cT) gT 5 htmlOlds→(Rd (inG g38) (some ⟨a38,0,none⟩) (u8s aC.data.toList)∧Rd (inG g60) (some ⟨a60,0,none⟩) (u8s aE.data.toList)∧Rd (inG g62) (some ⟨a62,0,none⟩) (u8s aD.data.toList)∧Rd (inG g34) (some ⟨a34,0,none⟩) (u8s aB.data.toList)∧Rd (inG g39) (some ⟨a39,0,none⟩) (u8s aG.data.toList))→Tri Tryz.prog 211 #[pt c,.string x] W0 ([(c,.cells (bsr [(34,.slice (some ⟨a34,0,none⟩) 6 c34),(38,.slice (some ⟨a38,0,none⟩) 5 c38),(39,.slice (some ⟨a39,0,none⟩) 5 c39),(60,.slice (some ⟨a60,0,none⟩) 4 c60),(62,.slice (some ⟨a62,0,none⟩) 4 c62)] (.slice aT 5 cT)) 183 (0,0))]::gT::g38::g60::g62::g34::g39::H) (fun v H'=>v=.string y∧H'=[(c,.cells (bsr [(34,.slice (some ⟨a34,0,none⟩) 6 c34),(38,.slice (some ⟨a38,0,none⟩) 5 c38),(39,.slice (some ⟨a39,0,none⟩) 5 c39),(60,.slice (some ⟨a60,0,none⟩) 4 c60),(62,.slice (some ⟨a62,0,none⟩) 4 c62)] (.slice aT 5 cT)) 183 (0,0))]::gT::g38::g60::g62::g34::g39::H)) (W0:World) (H:List Grp):Tri Tryz.prog 71 #[pt b,.string x] W0 ([(b,.cells #[.int .u32 0,.int .i32 0,.int .u32 0,.nilIface,.slice a 10 cap] 150 (0,0))]::g::H) (fun v H'=>v=.string y∧H'=H):=by
 refine D5 17 Tryz.func71 ?_
 refine A1 (C3 (E':=[⟨0,[],pt b⟩,⟨1,[],.string x⟩]) [0] [0,1] (k:=A0 (A1 (A2 (A3 (j:=5) [0,0,0,0,0] (k:=D9 Tryz.func93 (htmlOnce b a cap g hr _ _) ?_))))))
 rintro _ _ ⟨_,_,⟨c,aT,cT,gT,a38,c38,g38,a60,c60,g60,a62,c62,g62,a34,c34,g34,a39,c39,g39,rfl,hT,hR,rfl⟩,rfl⟩
 refine C0 (E':=[⟨0,[],pt b⟩,⟨1,[],.string x⟩]) [] [0,1] (k:=A0 (A1 (A2 (A3 (j:=3) [0,0,0] (k:=C1 0 3 rfl rfl (A3 (j:=5) [0] (k:=M1 0 [1,1,1,1,1,1,1] (T2 (t:=184) (rv:=pt c) (f:=211) (vs:=[.string x]) (av:=#[pt c,.string x]) (hm:=(fun _=>by kernel_rfl)) (hc:=hrep c aT cT gT a38 c38 g38 a60 c60 g60 a62 c62 g62 a34 c34 g34 a39 c39 g39 _ _ hT hR) (k:=?_)))))))))
 rintro _ _ ⟨rfl,rfl⟩
 refine C0 (E':=[⟨4,[],.string y⟩]) [0] [4] (k:=A0 (B4 (F3 (H':=([(c,.cells (bsr [(34,.slice (some ⟨a34,0,none⟩) 6 c34),(38,.slice (some ⟨a38,0,none⟩) 5 c38),(39,.slice (some ⟨a39,0,none⟩) 5 c39),(60,.slice (some ⟨a60,0,none⟩) 4 c60),(62,.slice (some ⟨a62,0,none⟩) 4 c62)] (.slice aT 5 cT)) 183 (0,0))]::gT::g38::g60::g62::g34::g39::[(b,.cells #[.int .u32 1,.int .i32 0,.int .u32 0,.iface 184 (pt c),.slice none 0 0] 150 (0,0))]::H)) (fun w h=>h.erase 8) (F3 (H':=([(c,.cells (bsr [(34,.slice (some ⟨a34,0,none⟩) 6 c34),(38,.slice (some ⟨a38,0,none⟩) 5 c38),(39,.slice (some ⟨a39,0,none⟩) 5 c39),(60,.slice (some ⟨a60,0,none⟩) 4 c60),(62,.slice (some ⟨a62,0,none⟩) 4 c62)] (.slice aT 5 cT)) 183 (0,0))]::gT::g38::g60::g62::g34::g39::H)) (fun w h=>h.erase 7) (F3 (H':=([(c,.cells (bsr [(34,.slice (some ⟨a34,0,none⟩) 6 c34),(38,.slice (some ⟨a38,0,none⟩) 5 c38),(39,.slice (some ⟨a39,0,none⟩) 5 c39),(60,.slice (some ⟨a60,0,none⟩) 4 c60),(62,.slice (some ⟨a62,0,none⟩) 4 c62)] (.slice aT 5 cT)) 183 (0,0))]::gT::g38::g60::g62::g34::H)) (fun w h=>h.erase 6) (F3 (H':=([(c,.cells (bsr [(34,.slice (some ⟨a34,0,none⟩) 6 c34),(38,.slice (some ⟨a38,0,none⟩) 5 c38),(39,.slice (some ⟨a39,0,none⟩) 5 c39),(60,.slice (some ⟨a60,0,none⟩) 4 c60),(62,.slice (some ⟨a62,0,none⟩) 4 c62)] (.slice aT 5 cT)) 183 (0,0))]::gT::g38::g60::g62::H)) (fun w h=>h.erase 5) (F3 (H':=([(c,.cells (bsr [(34,.slice (some ⟨a34,0,none⟩) 6 c34),(38,.slice (some ⟨a38,0,none⟩) 5 c38),(39,.slice (some ⟨a39,0,none⟩) 5 c39),(60,.slice (some ⟨a60,0,none⟩) 4 c60),(62,.slice (some ⟨a62,0,none⟩) 4 c62)] (.slice aT 5 cT)) 183 (0,0))]::gT::g38::g60::H)) (fun w h=>h.erase 4) (F3 (H':=([(c,.cells (bsr [(34,.slice (some ⟨a34,0,none⟩) 6 c34),(38,.slice (some ⟨a38,0,none⟩) 5 c38),(39,.slice (some ⟨a39,0,none⟩) 5 c39),(60,.slice (some ⟨a60,0,none⟩) 4 c60),(62,.slice (some ⟨a62,0,none⟩) 4 c62)] (.slice aT 5 cT)) 183 (0,0))]::gT::g38::H)) (fun w h=>h.erase 3) ?_))))))))
 refine F3 (H':=([(c,.cells (bsr [(34,.slice (some ⟨a34,0,none⟩) 6 c34),(38,.slice (some ⟨a38,0,none⟩) 5 c38),(39,.slice (some ⟨a39,0,none⟩) 5 c39),(60,.slice (some ⟨a60,0,none⟩) 4 c60),(62,.slice (some ⟨a62,0,none⟩) 4 c62)] (.slice aT 5 cT)) 183 (0,0))]::gT::H)) (fun w h=>h.erase 2) (F3 (H':=([(c,.cells (bsr [(34,.slice (some ⟨a34,0,none⟩) 6 c34),(38,.slice (some ⟨a38,0,none⟩) 5 c38),(39,.slice (some ⟨a39,0,none⟩) 5 c39),(60,.slice (some ⟨a60,0,none⟩) 4 c60),(62,.slice (some ⟨a62,0,none⟩) 4 c62)] (.slice aT 5 cT)) 183 (0,0))]::H)) (fun w h=>h.erase 1) (F3 (H':=H) (fun w h=>h.erase 0) (B7 [.tmp 4] [.string y] (k:=?_))))
 exact ⟨rfl,rfl⟩
end Go.Proofs.YtcgmnagcgkhogaaGreatDoor
namespace Go.Sw
open Go.Esc
theorem rd_cell {S:Nat→Obj→Prop} {a:Addr} {cs:List Value} {W0:World} {H:List Grp} (hrd:Rd S (some a) cs) (hS:∀ b o,S b o→At W0 H b o):∀ w,Sat W0 H w→∀ k v,cs[k]? = some v→w.cell? (a.add k)=some v:=by
 intro w hs k v hv
 obtain ⟨b,off,c,t,fz,h1,h2,h3,h4⟩:=hrd.elt hv
 have ha:a.add k=⟨b,off+k,none⟩:=h3
 rw [ha]; exact T5 (hs.at (hS _ _ h2)) h4
theorem cut_some {b n j:Nat} (h:j<n):cutA (some ⟨b,0,none⟩) n j 1=some ⟨b,j,none⟩:=by
 unfold cutA; rw [if_neg (by omega)]; simp [O7]
def T4 (l:List UInt8) (k:Nat):Array Value:=(u8s l++List.replicate k (Value.int .u8 0)).toArray
theorem W4 (l:List UInt8) (k:Nat):(T4 l k).size=l.length+k:=by simp [T4,u8s]
theorem madeZ (n:Nat):madeCells (Value.int .u8 0).cells (n * 1)=T4 [] n:=by
 have e:madeCells (Value.int .u8 0).cells (n * 1)=Array.replicate n (Value.int .u8 0):=by
  apply Array.ext
  simp [madeCells]
  intro i h1 h2
  simp [madeCells,Value.cells,Nat.mod_one]
 rw [e]; simp [T4,u8s]
theorem rowZ_set (l:List UInt8) (k:Nat) (b:UInt8) {q:Nat} (hq:q=l.length):setRow (T4 l (k+1)) q [.int .u8 (b.toNat:Int)]=T4 (l++[b]) k:=by
 subst hq
 have:=Y7 [.int .u8 (b.toNat:Int)] (u8s l) (List.replicate k (.int .u8 0)) [.int .u8 0] rfl
 rw [show (u8s l).length=l.length from List.length_map _] at this
 unfold T4
 rw [show u8s l++List.replicate (k+1) (Value.int .u8 0)=u8s l++[.int .u8 0]++List.replicate k (.int .u8 0) by simp [List.replicate_succ],this]
 simp [u8s]
theorem rowZ_copy (l t:List UInt8) (k:Nat) (hk:t.length≤k):((T4 l k).toList.take l.length++u8s t++(T4 l k).toList.drop (l.length+(u8s t).length)).toArray=T4 (l++t) (k - t.length):=by
 unfold T4
 have e:(u8s l).length=l.length:=List.length_map _
 have e2:(u8s t).length=t.length:=List.length_map _
 rw [e2]
 congr 1
 have h1:(u8s l++List.replicate k (Value.int .u8 0)).take l.length=u8s l:=by rw [← e,List.take_left]
 have h2:(u8s l++List.replicate k (Value.int .u8 0)).drop (l.length+t.length)=List.replicate (k - t.length) (.int .u8 0):=by rw [← e,List.drop_append,List.drop_replicate,List.drop_eq_nil_of_le (by omega),List.nil_append]; congr 1; omega
 rw [h1,h2]
 simp [u8s]
theorem rowZ_rd {b:Nat} (l:List UInt8) {k:Nat} (hk:k=0):Rd (inG [(b,.cells (T4 l k) 5 (0,0))]) (some ⟨b,0,none⟩) (u8s l):=by
 subst hk
 have:T4 l 0=(u8s l).toArray:=by simp [T4]
 rw [this]; exact Rd.lit
end Go.Sw
namespace Go.Proofs.YtcgmnagcgkhogaaGreatDoor
open Go.Sw Go.Esc
theorem tab_case (t a38 a60 a62 a34 a39 c38 c60 c62 c34 c39:_) (x:UInt8) :
  (∃ A L C u,(A,L,C,u)∈[(a38,5,c38,[38,97,109,112,59]),(a60,4,c60,[38,108,116,59]),(a62,4,c62,[38,103,116,59]),(a34,6,c34,[38,113,117,111,116,59]),(a39,5,c39,[38,35,51,57,59])]∧D3 x=some u∧L=u.length ∧
   (bsr [(34,.slice (some ⟨a34,0,none⟩) 6 c34),(38,.slice (some ⟨a38,0,none⟩) 5 c38),(39,.slice (some ⟨a39,0,none⟩) 5 c39),(60,.slice (some ⟨a60,0,none⟩) 4 c60),(62,.slice (some ⟨a62,0,none⟩) 4 c62)] t)[x.toNat]? = some (.slice (some ⟨A,0,none⟩) L C)) ∨
  (D3 x=none∧(bsr [(34,.slice (some ⟨a34,0,none⟩) 6 c34),(38,.slice (some ⟨a38,0,none⟩) 5 c38),(39,.slice (some ⟨a39,0,none⟩) 5 c39),(60,.slice (some ⟨a60,0,none⟩) 4 c60),(62,.slice (some ⟨a62,0,none⟩) 4 c62)] t)[x.toNat]? = some (.slice none 0 0)):=by
 have hx:=x.toNat_lt
 unfold bsr
 rw [List.getElem?_toArray,List.getElem?_append_left (by simpa using hx),List.getElem?_map,List.getElem?_range hx]
 simp only [Option.map_some]
 by_cases h1:x=38
 subst h1; exact .inl ⟨a38,5,c38,_,by simp,rfl,rfl,rfl⟩
 by_cases h2:x=60
 subst h2; exact .inl ⟨a60,4,c60,_,by simp,rfl,rfl,rfl⟩
 by_cases h3:x=62
 subst h3; exact .inl ⟨a62,4,c62,_,by simp,rfl,rfl,rfl⟩
 by_cases h4:x=34
 subst h4; exact .inl ⟨a34,6,c34,_,by simp,rfl,rfl,rfl⟩
 by_cases h5:x=39
 subst h5; exact .inl ⟨a39,5,c39,_,by simp,rfl,rfl,rfl⟩
 refine .inr ⟨by simp [D3,h1,h2,h3,h4,h5],?_⟩
 have n1:x.toNat≠38:=fun h=>h1 (UInt8.toNat_inj.1 h)
 have n2:x.toNat≠60:=fun h=>h2 (UInt8.toNat_inj.1 h)
 have n3:x.toNat≠62:=fun h=>h3 (UInt8.toNat_inj.1 h)
 have n4:x.toNat≠34:=fun h=>h4 (UInt8.toNat_inj.1 h)
 have n5:x.toNat≠39:=fun h=>h5 (UInt8.toNat_inj.1 h)
 have e:∀ (k m:Nat),m≠k→(m==k)=false:=fun k m h=>beq_eq_false_iff_ne.2 h
 simp only [List.lookup,e _ _ n1,e _ _ n2,e _ _ n3,e _ _ n4,e _ _ n5,Option.getD_none]
end Go.Proofs.YtcgmnagcgkhogaaGreatDoor
namespace Go.Proofs.YtcgmnagcgkhogaaGreatDoor
open Go.Sw Go.Esc
theorem run_cnt {P:Program} (s:ByteArray) (k:Nat) (w:World):(Extern.BytealgCount.count #[.string s,.int .u8 (k:Int)]).run P w=.ok (.int .i64 (s.data.toList.count k.toUInt8:Int)) w:=by
 rw [Lib.run_countString]; rfl
theorem tab_row {a38 c38 a60 c60 a62 c62 a34 c34 a39 c39:Nat} {g38 g60 g62 g34 g39:Grp} (h:Rd (inG g38) (some ⟨a38,0,none⟩) (u8s (mB #[38,97,109,112,59]).data.toList)∧Rd (inG g60) (some ⟨a60,0,none⟩) (u8s (mB #[38,108,116,59]).data.toList)∧Rd (inG g62) (some ⟨a62,0,none⟩) (u8s (mB #[38,103,116,59]).data.toList)∧Rd (inG g34) (some ⟨a34,0,none⟩) (u8s (mB #[38,113,117,111,116,59]).data.toList)∧Rd (inG g39) (some ⟨a39,0,none⟩) (u8s (mB #[38,35,51,57,59]).data.toList)) {A L C:Nat} {u:List UInt8} (hm:(A,L,C,u)∈[(a38,5,c38,([38,97,109,112,59]:List UInt8)),(a60,4,c60,[38,108,116,59]),(a62,4,c62,[38,103,116,59]),(a34,6,c34,[38,113,117,111,116,59]),(a39,5,c39,[38,35,51,57,59])]) (W0:World) (X Y Z:Grp) (H:List Grp) :
  ∃ Q,Rd Q (some ⟨A,0,none⟩) (u8s u)∧∀ y o,Q y o→At W0 (X::Y::Z::([g38,g60,g62,g34,g39]++H)) y o:=by
 obtain ⟨h1,h2,h3,h4,h5⟩:=h
 have at5:∀ g,g∈[g38,g60,g62,g34,g39]→∀ y o,inG g y o→At W0 (X::Y::Z::([g38,g60,g62,g34,g39]++H)) y o:=fun g hg y o h=>At.mem (List.mem_cons_of_mem _ (List.mem_cons_of_mem _ (List.mem_cons_of_mem _ (List.mem_append_left H hg)))) h
 simp only [List.mem_cons,List.not_mem_nil,or_false,Prod.mk.injEq] at hm
 rcases hm with ⟨rfl,rfl,rfl,rfl⟩ | ⟨rfl,rfl,rfl,rfl⟩ | ⟨rfl,rfl,rfl,rfl⟩ | ⟨rfl,rfl,rfl,rfl⟩ | ⟨rfl,rfl,rfl,rfl⟩
 exact ⟨_,h1,at5 _ (by simp)⟩
 exact ⟨_,h2,at5 _ (by simp)⟩
 exact ⟨_,h3,at5 _ (by simp)⟩
 exact ⟨_,h4,at5 _ (by simp)⟩
 exact ⟨_,h5,at5 _ (by simp)⟩
theorem take_succ (l:List UInt8) {i:Nat} (h:i<l.length):l.take (i+1)=l.take i++[l.getD i 0]:=by
 rw [List.take_succ_eq_append_getElem h]; congr 2; simp [List.getD,h]
def anyR (l:List UInt8):Bool:=l.any fun b=>(D3 b).isSome
theorem anyR_snoc (l:List UInt8) (b:UInt8):anyR (l++[b])=(anyR l||(D3 b).isSome):=by simp [anyR]
theorem X8 (b:UInt8) {u:List UInt8} (h:D3 b=some u):C7 D3 [b]=u:=by simp [C7,h]
theorem S9 (b:UInt8) (h:D3 b=none):C7 D3 [b]=[b]:=by simp [C7,h]
theorem anyR_same (l:List UInt8) (h:anyR l=false):C7 D3 l=l:=by
 refine outR_same _ _ fun b hb=>?_
 unfold anyR at h
 rw [List.any_eq_false] at h
 have:=h b hb
 cases hr:D3 b with
 | none=>rfl
 | some u=>rw [hr] at this; exact absurd rfl this
theorem byteAt_getD (s:ByteArray) (i:Nat):B2 s (i:Int)=((s.data.toList.getD i 0).toNat:Int):=by unfold B2; rw [Int.toNat_natCast,List.getD_eq_getElem?_getD]
theorem outR_split (l:List UInt8) {i:Nat} (h:i<l.length):C7 D3 l=C7 D3 (l.take i)++(C7 D3 [l.getD i 0]++C7 D3 (l.drop (i+1))):=by
 rw [← N9,← N9,← List.append_assoc,← take_succ l h,List.take_append_drop]
theorem u_pos {b:UInt8} {u:List UInt8} (h:D3 b=some u):4≤u.length∧u.length≤6:=by
 unfold D3 at h
 (repeat' split at h) <;> first | (injection h with h; subst h; exact ⟨by decide,by decide⟩) | cases h
theorem outR_le6 (l:List UInt8):l.length≤(C7 D3 l).length∧(C7 D3 l).length≤6 * l.length:=by
  induction l with
  | nil=>exact ⟨Nat.le_refl _,Nat.le_refl _⟩
  | cons b l ih =>
    rw [Y9,List.length_append,List.length_cons]
    have:1≤((D3 b).getD [b]).length∧((D3 b).getD [b]).length≤6:=by
      cases h:D3 b with
      | none=>exact ⟨Nat.le_refl _,by show 1≤6; decide⟩
      | some u=>have:=u_pos h; show 1≤u.length∧u.length≤6; omega
    omega
theorem T6 (s:ByteArray) (i:Nat):0+Int.toNat (B2 s (i:Int)) * 1=(s.data.toList.getD i 0).toNat:=by rw [byteAt_getD,Int.toNat_natCast]; omega
theorem row_rd {b:Nat} (l:List UInt8) (k:Nat):Rd (inG [(b,.cells (T4 l k) 5 (0,0))]) (some ⟨b,0,none⟩) (T4 l k).toList:=by
 have:Rd (inG [(b,.cells (T4 l k).toList.toArray 5 (0,0))]) (some ⟨b,0,none⟩) (T4 l k).toList:=Rd.lit
 rwa [Array.toArray_toList] at this
theorem u8s_one (u:List UInt8):((u8s u).all Value.oneCell')=true:=by
 rw [List.all_eq_true]; intro x hx; obtain ⟨b,_,rfl⟩:=List.mem_map.1 hx; rfl
theorem count_39 (s:ByteArray) (W0:World) (H:List Grp):Tri Tryz.prog 121 #[.string s,.string (mB #[39])] W0 H (fun v H'=>v=.int .i64 (s.data.toList.count 39:Int)∧H'=H):=by
 refine D5 34 Tryz.func121 ?_
 refine A1 (G_p [0] [0,1] (k:=A0 (A1 (A1 (G_p [0,0,0] [0,1,9] (k:=A0 (C5 kr (A7 ?_))))))))
 refine A0 (A1 (A1 (G_p [0,0,0] [0,1,15] (k:=A0 (B9 kr (A1 (A2 (A3 (j:=2) [0,0] (k:=?_)))))))))
 refine G3 (mB #[39]) 0 (fun _=>by decide) (R3 (ch:=[]) (f:=134) (vs:=[.string s,.int .u8 39]) (v:=.int .i64 (s.data.toList.count 39:Int)) (e:=Extern.BytealgCount.count) (hf:=Tryz.func134) (hrun:=(fun w=>run_cnt s 39 w)) (k:=A5 [0] [4] (k:=A0 (B4 (A4 (B7 [.tmp 4] [.int .i64 (s.data.toList.count 39:Int)] (k:=?_)))))))
 exact ⟨rfl,rfl⟩
theorem count_34 (s:ByteArray) (W0:World) (H:List Grp):Tri Tryz.prog 121 #[.string s,.string (mB #[34])] W0 H (fun v H'=>v=.int .i64 (s.data.toList.count 34:Int)∧H'=H):=by
 refine D5 34 Tryz.func121 ?_
 refine A1 (G_p [0] [0,1] (k:=A0 (A1 (A1 (G_p [0,0,0] [0,1,9] (k:=A0 (C5 kr (A7 ?_))))))))
 refine A0 (A1 (A1 (G_p [0,0,0] [0,1,15] (k:=A0 (B9 kr (A1 (A2 (A3 (j:=2) [0,0] (k:=?_)))))))))
 refine G3 (mB #[34]) 0 (fun _=>by decide) (R3 (ch:=[]) (f:=134) (vs:=[.string s,.int .u8 34]) (v:=.int .i64 (s.data.toList.count 34:Int)) (e:=Extern.BytealgCount.count) (hf:=Tryz.func134) (hrun:=(fun w=>run_cnt s 34 w)) (k:=A5 [0] [4] (k:=A0 (B4 (A4 (B7 [.tmp 4] [.int .i64 (s.data.toList.count 34:Int)] (k:=?_)))))))
 exact ⟨rfl,rfl⟩
theorem count_62 (s:ByteArray) (W0:World) (H:List Grp):Tri Tryz.prog 121 #[.string s,.string (mB #[62])] W0 H (fun v H'=>v=.int .i64 (s.data.toList.count 62:Int)∧H'=H):=by
 refine D5 34 Tryz.func121 ?_
 refine A1 (G_p [0] [0,1] (k:=A0 (A1 (A1 (G_p [0,0,0] [0,1,9] (k:=A0 (C5 kr (A7 ?_))))))))
 refine A0 (A1 (A1 (G_p [0,0,0] [0,1,15] (k:=A0 (B9 kr (A1 (A2 (A3 (j:=2) [0,0] (k:=?_)))))))))
 refine G3 (mB #[62]) 0 (fun _=>by decide) (R3 (ch:=[]) (f:=134) (vs:=[.string s,.int .u8 62]) (v:=.int .i64 (s.data.toList.count 62:Int)) (e:=Extern.BytealgCount.count) (hf:=Tryz.func134) (hrun:=(fun w=>run_cnt s 62 w)) (k:=A5 [0] [4] (k:=A0 (B4 (A4 (B7 [.tmp 4] [.int .i64 (s.data.toList.count 62:Int)] (k:=?_)))))))
 exact ⟨rfl,rfl⟩
theorem count_60 (s:ByteArray) (W0:World) (H:List Grp):Tri Tryz.prog 121 #[.string s,.string (mB #[60])] W0 H (fun v H'=>v=.int .i64 (s.data.toList.count 60:Int)∧H'=H):=by
 refine D5 34 Tryz.func121 ?_
 refine A1 (G_p [0] [0,1] (k:=A0 (A1 (A1 (G_p [0,0,0] [0,1,9] (k:=A0 (C5 kr (A7 ?_))))))))
 refine A0 (A1 (A1 (G_p [0,0,0] [0,1,15] (k:=A0 (B9 kr (A1 (A2 (A3 (j:=2) [0,0] (k:=?_)))))))))
 refine G3 (mB #[60]) 0 (fun _=>by decide) (R3 (ch:=[]) (f:=134) (vs:=[.string s,.int .u8 60]) (v:=.int .i64 (s.data.toList.count 60:Int)) (e:=Extern.BytealgCount.count) (hf:=Tryz.func134) (hrun:=(fun w=>run_cnt s 60 w)) (k:=A5 [0] [4] (k:=A0 (B4 (A4 (B7 [.tmp 4] [.int .i64 (s.data.toList.count 60:Int)] (k:=?_)))))))
 exact ⟨rfl,rfl⟩
theorem count_38 (s:ByteArray) (W0:World) (H:List Grp):Tri Tryz.prog 121 #[.string s,.string (mB #[38])] W0 H (fun v H'=>v=.int .i64 (s.data.toList.count 38:Int)∧H'=H):=by
 refine D5 34 Tryz.func121 ?_
 refine A1 (G_p [0] [0,1] (k:=A0 (A1 (A1 (G_p [0,0,0] [0,1,9] (k:=A0 (C5 kr (A7 ?_))))))))
 refine A0 (A1 (A1 (G_p [0,0,0] [0,1,15] (k:=A0 (B9 kr (A1 (A2 (A3 (j:=2) [0,0] (k:=?_)))))))))
 refine G3 (mB #[38]) 0 (fun _=>by decide) (R3 (ch:=[]) (f:=134) (vs:=[.string s,.int .u8 38]) (v:=.int .i64 (s.data.toList.count 38:Int)) (e:=Extern.BytealgCount.count) (hf:=Tryz.func134) (hrun:=(fun w=>run_cnt s 38 w)) (k:=A5 [0] [4] (k:=A0 (B4 (A4 (B7 [.tmp 4] [.int .i64 (s.data.toList.count 38:Int)] (k:=?_)))))))
 exact ⟨rfl,rfl⟩
theorem tabReplace_ (c c38 c60 c62 c34 c39:Nat) (aT:Option Addr) (cT:Nat) (gT:Grp) (a38 a60 a62 a34 a39:Nat) (g38 g60 g62 g34 g39:Grp) (s:ByteArray) (hs:s.size≤2000000) (hT:Go.Sw.Own 9 1 (.slice aT 5 cT) gT 5 htmlOlds) (hR:Rd (inG g38) (some ⟨a38,0,none⟩) (u8s aC.data.toList)∧Rd (inG g60) (some ⟨a60,0,none⟩) (u8s aE.data.toList)∧Rd (inG g62) (some ⟨a62,0,none⟩) (u8s aD.data.toList)∧Rd (inG g34) (some ⟨a34,0,none⟩) (u8s aB.data.toList)∧Rd (inG g39) (some ⟨a39,0,none⟩) (u8s aG.data.toList)) (W0:World) (H:List Grp):Tri Tryz.prog 211 #[pt c,.string s] W0 ([(c,.cells (bsr [(34,.slice (some ⟨a34,0,none⟩) 6 c34),(38,.slice (some ⟨a38,0,none⟩) 5 c38),(39,.slice (some ⟨a39,0,none⟩) 5 c39),(60,.slice (some ⟨a60,0,none⟩) 4 c60),(62,.slice (some ⟨a62,0,none⟩) 4 c62)] (.slice aT 5 cT)) 183 (0,0))]::gT::g38::g60::g62::g34::g39::H) (fun v H'=>v=.string ⟨(C7 D3 s.data.toList).toArray⟩∧H'=([(c,.cells (bsr [(34,.slice (some ⟨a34,0,none⟩) 6 c34),(38,.slice (some ⟨a38,0,none⟩) 5 c38),(39,.slice (some ⟨a39,0,none⟩) 5 c39),(60,.slice (some ⟨a60,0,none⟩) 4 c60),(62,.slice (some ⟨a62,0,none⟩) 4 c62)] (.slice aT 5 cT)) 183 (0,0))]::gT::g38::g60::g62::g34::g39::H)):=by
 have hrT:Rd (inG gT) aT htmlOlds:=by
  obtain ⟨a',c',he,_,hr⟩:=hT.shape
  injection he with h1 h2 h3; subst h1; exact hr
 have ho6:=outR_le6 s.data.toList
 rw [show s.data.toList.length=s.size from Array.length_toList] at ho6
 have hlen:s.data.toList.length=s.size:=Array.length_toList
 have hcnt38:=List.count_le_length (a:=(38:UInt8)) (l:=s.data.toList)
 have hcnt60:=List.count_le_length (a:=(60:UInt8)) (l:=s.data.toList)
 have hcnt62:=List.count_le_length (a:=(62:UInt8)) (l:=s.data.toList)
 have hcnt34:=List.count_le_length (a:=(34:UInt8)) (l:=s.data.toList)
 have hcnt39:=List.count_le_length (a:=(39:UInt8)) (l:=s.data.toList)
 refine D5 122 Tryz.func211 ?_
 refine A1 (C3 (E':=[⟨0,[],pt c⟩,⟨1,[],.string s⟩]) [0] [0,1] (k:=A0 (A1 (G_p [0,0,0] [0,1,5] (k:=A0 (A1 (G_p [0] [0,1,5,6] (k:=A0 ?_))))))))
 refine A1 (A1 (A2 (A3 (j:=3) [0,0,0] (k:=C2 (ch:=[]) (b:=c) (off:=256) (v:=.slice aT 5 cT) (hA:=At.grp 0 0 rfl rfl) (hv:=kr) (k:=A5 [0,0,0,0,0] [0,1,5,6,26] (k:=A0 (P7 (T:=Int × Bool) (fun ξ:Int × Bool=>[⟨0,[],pt c⟩,⟨1,[],.string s⟩,⟨5,[],.int .i64 ξ.1⟩,⟨6,[],.bool ξ.2⟩]) (fun ξ:Int × Bool=>([(c,.cells (bsr [(34,.slice (some ⟨a34,0,none⟩) 6 c34),(38,.slice (some ⟨a38,0,none⟩) 5 c38),(39,.slice (some ⟨a39,0,none⟩) 5 c39),(60,.slice (some ⟨a60,0,none⟩) 4 c60),(62,.slice (some ⟨a62,0,none⟩) 4 c62)] (.slice aT 5 cT)) 183 (0,0))]::gT::g38::g60::g62::g34::g39::H)) (fun ξ:Int × Bool=>(ξ.1=((C7 D3 s.data.toList).length:Int))∧(ξ.2=false→(C7 D3 s.data.toList)=s.data.toList)) ?_ ?_)))))))
 ·
  refine B1 (b:=decide (40≤(s.size:Int))) kr (fun hc1=>?_) (fun hc1=>?_)
  ·
   try simp only [decide_eq_true_eq] at hc1
   refine A1 (A2 (A3 (j:=3) [0,0,0] (k:=C2 (ch:=[]) (b:=c) (off:=256) (v:=.slice aT 5 cT) (hA:=At.grp 0 0 rfl rfl) (hv:=kr) (k:=A5 [0,0] [0,1,5,6,30,31,32] (k:=A0 (B3 (O0 6 (F5 ?_))))))))
   refine A1 (G_p [0] [0,1,5,6,30,31,32,33] (k:=A0 (A1 (B9 kr (A7 (A0 (A1 (B3 ?_))))))))
   refine A1 (A2 (E4 5 0 1 hrT (by exact ⟨by decide,by decide,by intro h; cases h⟩) (H7 (0 * 1) (.string (mB #[39])) hrT (E0 1 rfl) (fun _=>rfl) (A5 [0] [0,1,5,6,8,30,31,32] (k:=A0 (A1 (A2 (A3 (j:=2) [0,0] (k:=?_)))))))))
   refine H5 Tryz.func121 (count_39 s _ _) (A5 [0] [0,1,5,6,8,9,30,31,32] (k:=A0 (A1 (G_p [0,0] [0,1,5,6,8,9,30,31,32,40] (k:=A0 (P7 (T:=Int × Bool) (fun ξ:Int × Bool=>[⟨0,[],pt c⟩,⟨1,[],.string s⟩,⟨5,[],.int .i64 ξ.1⟩,⟨6,[],.bool ξ.2⟩,⟨30,[],.slice aT 5 cT⟩,⟨31,[],.int .i64 5⟩,⟨32,[],.int .i64 0⟩]) (fun ξ:Int × Bool=>([(c,.cells (bsr [(34,.slice (some ⟨a34,0,none⟩) 6 c34),(38,.slice (some ⟨a38,0,none⟩) 5 c38),(39,.slice (some ⟨a39,0,none⟩) 5 c39),(60,.slice (some ⟨a60,0,none⟩) 4 c60),(62,.slice (some ⟨a62,0,none⟩) 4 c62)] (.slice aT 5 cT)) 183 (0,0))]::gT::g38::g60::g62::g34::g39::H)) (fun ξ:Int × Bool=>(ξ.1=(s.size:Int)+(s.data.toList.count 39:Int) * 4)∧(ξ.2=false→false=false∧s.data.toList.count 39=0)) ?_ ?_))))))
   ·
    refine B1 (b:=(s.data.toList.count 39:Int) != 0) kr (fun hc2=>?_) (fun hc2=>?_)
    ·
     try simp only [decide_eq_true_eq,decide_eq_false_iff_not] at hc2
     refine A1 (H4 (k:=A3 (j:=4) [0,0,0,0] (k:=G3 (mB #[39]) 0 (fun _=>by decide) (A3 (j:=7) [0,0] (k:=E9 (ch:=[]) (b:=c) (off:=0) (len:=256) (sz:=1) (e:=22) (kd:=.u8) (j:=39) (hb:=(fun _=>⟨by decide,by decide⟩)) (k:=C2 (ch:=[]) (b:=c) (off:=39) (v:=.slice (some ⟨a39,0,none⟩) 5 c39) (hA:=At.grp 0 0 rfl rfl) (hv:=kr) (k:=A3 (j:=12) [0,0,0] (k:=D1 52 ((s.data.toList.count 39:Int) * 4) (by omega) (by omega) kr ?_))))))))
     refine A3 (j:=13) [0] (k:=D1 53 ((s.size:Int)+((s.data.toList.count 39:Int) * 4)) (by omega) (by omega) kr (A5 [0] [0,1,5,30,31,32] (k:=A0 (G_p [0] [0,1,5,6,30,31,32] (k:=E6 ((s.size:Int)+((s.data.toList.count 39:Int) * 4),true) [0,1,5,6,30,31,32] kr (fun w h=>h) ⟨(by first | rfl | (simp only [bne_eq_false_iff_eq] at *; omega)),(by intro h; dsimp only at h; first | exact Bool.noConfusion h | (simp only [bne_eq_false_iff_eq] at *; exact ⟨h,by omega⟩))⟩)))))
    ·
     try simp only [decide_eq_true_eq,decide_eq_false_iff_not] at hc2
     refine A7 (E6 ((s.size:Int),false) [0,1,5,6,30,31,32] kr (fun w h=>h) ⟨(by first | rfl | (simp only [bne_eq_false_iff_eq] at *; omega)),(by intro h; dsimp only at h; first | exact Bool.noConfusion h | (simp only [bne_eq_false_iff_eq] at *; exact ⟨h,by omega⟩))⟩)
   ·
    rintro ⟨n1,b1⟩ ⟨hn1,hb1⟩
    refine B8 (A0 (G_p [0,0] [0,1,5,6,30,31,32] (k:=Z4 (F5 (A1 (G_p [0] [0,1,5,6,30,31,32,33] (k:=A0 (A1 ?_))))))))
    refine B9 kr (A7 (A0 (A1 (B3 (A1 (A2 (E4 5 1 1 hrT (by exact ⟨by decide,by decide,by intro h; cases h⟩) (H7 (1 * 1) (.string (mB #[34])) hrT (E0 1 rfl) (fun _=>rfl) ?_))))))))
    refine A5 [0] [0,1,5,6,8,30,31,32] (k:=A0 (A1 (A2 (A3 (j:=2) [0,0] (k:=H5 Tryz.func121 (count_34 s _ _) (A5 [0] [0,1,5,6,8,9,30,31,32] (k:=A0 (A1 ?_))))))))
    refine G_p [0,0] [0,1,5,6,8,9,30,31,32,40] (k:=A0 (P7 (T:=Int × Bool) (fun ξ:Int × Bool=>[⟨0,[],pt c⟩,⟨1,[],.string s⟩,⟨5,[],.int .i64 ξ.1⟩,⟨6,[],.bool ξ.2⟩,⟨30,[],.slice aT 5 cT⟩,⟨31,[],.int .i64 5⟩,⟨32,[],.int .i64 1⟩]) (fun ξ:Int × Bool=>([(c,.cells (bsr [(34,.slice (some ⟨a34,0,none⟩) 6 c34),(38,.slice (some ⟨a38,0,none⟩) 5 c38),(39,.slice (some ⟨a39,0,none⟩) 5 c39),(60,.slice (some ⟨a60,0,none⟩) 4 c60),(62,.slice (some ⟨a62,0,none⟩) 4 c62)] (.slice aT 5 cT)) 183 (0,0))]::gT::g38::g60::g62::g34::g39::H)) (fun ξ:Int × Bool=>(ξ.1=n1+(s.data.toList.count 34:Int) * 5)∧(ξ.2=false→b1=false∧s.data.toList.count 34=0)) ?_ ?_))
    ·
     refine B1 (b:=(s.data.toList.count 34:Int) != 0) kr (fun hc5=>?_) (fun hc5=>?_)
     ·
      try simp only [decide_eq_true_eq,decide_eq_false_iff_not] at hc5
      refine A1 (H4 (k:=A3 (j:=4) [0,0,0,0] (k:=G3 (mB #[34]) 0 (fun _=>by decide) (A3 (j:=7) [0,0] (k:=E9 (ch:=[]) (b:=c) (off:=0) (len:=256) (sz:=1) (e:=22) (kd:=.u8) (j:=34) (hb:=(fun _=>⟨by decide,by decide⟩)) (k:=C2 (ch:=[]) (b:=c) (off:=34) (v:=.slice (some ⟨a34,0,none⟩) 6 c34) (hA:=At.grp 0 0 rfl rfl) (hv:=kr) (k:=A3 (j:=12) [0,0,0] (k:=D1 52 ((s.data.toList.count 34:Int) * 5) (by omega) (by omega) kr ?_))))))))
      refine A3 (j:=13) [0] (k:=D1 53 (n1+((s.data.toList.count 34:Int) * 5)) (by omega) (by omega) kr (A5 [0] [0,1,5,30,31,32] (k:=A0 (G_p [0] [0,1,5,6,30,31,32] (k:=E6 (n1+((s.data.toList.count 34:Int) * 5),true) [0,1,5,6,30,31,32] kr (fun w h=>h) ⟨(by first | rfl | (simp only [bne_eq_false_iff_eq] at *; omega)),(by intro h; dsimp only at h; first | exact Bool.noConfusion h | (simp only [bne_eq_false_iff_eq] at *; exact ⟨h,by omega⟩))⟩)))))
     ·
      try simp only [decide_eq_true_eq,decide_eq_false_iff_not] at hc5
      refine A7 (E6 (n1,b1) [0,1,5,6,30,31,32] kr (fun w h=>h) ⟨(by first | rfl | (simp only [bne_eq_false_iff_eq] at *; omega)),(by intro h; dsimp only at h; first | exact Bool.noConfusion h | (simp only [bne_eq_false_iff_eq] at *; exact ⟨h,by omega⟩))⟩)
    ·
     rintro ⟨n2,b2⟩ ⟨hn2,hb2⟩
     refine B8 (A0 (G_p [0,0] [0,1,5,6,30,31,32] (k:=Z4 (F5 (A1 (G_p [0] [0,1,5,6,30,31,32,33] (k:=A0 (A1 ?_))))))))
     refine B9 kr (A7 (A0 (A1 (B3 (A1 (A2 (E4 5 2 1 hrT (by exact ⟨by decide,by decide,by intro h; cases h⟩) (H7 (2 * 1) (.string (mB #[62])) hrT (E0 1 rfl) (fun _=>rfl) ?_))))))))
     refine A5 [0] [0,1,5,6,8,30,31,32] (k:=A0 (A1 (A2 (A3 (j:=2) [0,0] (k:=H5 Tryz.func121 (count_62 s _ _) (A5 [0] [0,1,5,6,8,9,30,31,32] (k:=A0 (A1 ?_))))))))
     refine G_p [0,0] [0,1,5,6,8,9,30,31,32,40] (k:=A0 (P7 (T:=Int × Bool) (fun ξ:Int × Bool=>[⟨0,[],pt c⟩,⟨1,[],.string s⟩,⟨5,[],.int .i64 ξ.1⟩,⟨6,[],.bool ξ.2⟩,⟨30,[],.slice aT 5 cT⟩,⟨31,[],.int .i64 5⟩,⟨32,[],.int .i64 2⟩]) (fun ξ:Int × Bool=>([(c,.cells (bsr [(34,.slice (some ⟨a34,0,none⟩) 6 c34),(38,.slice (some ⟨a38,0,none⟩) 5 c38),(39,.slice (some ⟨a39,0,none⟩) 5 c39),(60,.slice (some ⟨a60,0,none⟩) 4 c60),(62,.slice (some ⟨a62,0,none⟩) 4 c62)] (.slice aT 5 cT)) 183 (0,0))]::gT::g38::g60::g62::g34::g39::H)) (fun ξ:Int × Bool=>(ξ.1=n2+(s.data.toList.count 62:Int) * 3)∧(ξ.2=false→b2=false∧s.data.toList.count 62=0)) ?_ ?_))
     ·
      refine B1 (b:=(s.data.toList.count 62:Int) != 0) kr (fun hc8=>?_) (fun hc8=>?_)
      ·
       try simp only [decide_eq_true_eq,decide_eq_false_iff_not] at hc8
       refine A1 (H4 (k:=A3 (j:=4) [0,0,0,0] (k:=G3 (mB #[62]) 0 (fun _=>by decide) (A3 (j:=7) [0,0] (k:=E9 (ch:=[]) (b:=c) (off:=0) (len:=256) (sz:=1) (e:=22) (kd:=.u8) (j:=62) (hb:=(fun _=>⟨by decide,by decide⟩)) (k:=C2 (ch:=[]) (b:=c) (off:=62) (v:=.slice (some ⟨a62,0,none⟩) 4 c62) (hA:=At.grp 0 0 rfl rfl) (hv:=kr) (k:=A3 (j:=12) [0,0,0] (k:=D1 52 ((s.data.toList.count 62:Int) * 3) (by omega) (by omega) kr ?_))))))))
       refine A3 (j:=13) [0] (k:=D1 53 (n2+((s.data.toList.count 62:Int) * 3)) (by omega) (by omega) kr (A5 [0] [0,1,5,30,31,32] (k:=A0 (G_p [0] [0,1,5,6,30,31,32] (k:=E6 (n2+((s.data.toList.count 62:Int) * 3),true) [0,1,5,6,30,31,32] kr (fun w h=>h) ⟨(by first | rfl | (simp only [bne_eq_false_iff_eq] at *; omega)),(by intro h; dsimp only at h; first | exact Bool.noConfusion h | (simp only [bne_eq_false_iff_eq] at *; exact ⟨h,by omega⟩))⟩)))))
      ·
       try simp only [decide_eq_true_eq,decide_eq_false_iff_not] at hc8
       refine A7 (E6 (n2,b2) [0,1,5,6,30,31,32] kr (fun w h=>h) ⟨(by first | rfl | (simp only [bne_eq_false_iff_eq] at *; omega)),(by intro h; dsimp only at h; first | exact Bool.noConfusion h | (simp only [bne_eq_false_iff_eq] at *; exact ⟨h,by omega⟩))⟩)
     ·
      rintro ⟨n3,b3⟩ ⟨hn3,hb3⟩
      refine B8 (A0 (G_p [0,0] [0,1,5,6,30,31,32] (k:=Z4 (F5 (A1 (G_p [0] [0,1,5,6,30,31,32,33] (k:=A0 (A1 ?_))))))))
      refine B9 kr (A7 (A0 (A1 (B3 (A1 (A2 (E4 5 3 1 hrT (by exact ⟨by decide,by decide,by intro h; cases h⟩) (H7 (3 * 1) (.string (mB #[60])) hrT (E0 1 rfl) (fun _=>rfl) ?_))))))))
      refine A5 [0] [0,1,5,6,8,30,31,32] (k:=A0 (A1 (A2 (A3 (j:=2) [0,0] (k:=H5 Tryz.func121 (count_60 s _ _) (A5 [0] [0,1,5,6,8,9,30,31,32] (k:=A0 (A1 ?_))))))))
      refine G_p [0,0] [0,1,5,6,8,9,30,31,32,40] (k:=A0 (P7 (T:=Int × Bool) (fun ξ:Int × Bool=>[⟨0,[],pt c⟩,⟨1,[],.string s⟩,⟨5,[],.int .i64 ξ.1⟩,⟨6,[],.bool ξ.2⟩,⟨30,[],.slice aT 5 cT⟩,⟨31,[],.int .i64 5⟩,⟨32,[],.int .i64 3⟩]) (fun ξ:Int × Bool=>([(c,.cells (bsr [(34,.slice (some ⟨a34,0,none⟩) 6 c34),(38,.slice (some ⟨a38,0,none⟩) 5 c38),(39,.slice (some ⟨a39,0,none⟩) 5 c39),(60,.slice (some ⟨a60,0,none⟩) 4 c60),(62,.slice (some ⟨a62,0,none⟩) 4 c62)] (.slice aT 5 cT)) 183 (0,0))]::gT::g38::g60::g62::g34::g39::H)) (fun ξ:Int × Bool=>(ξ.1=n3+(s.data.toList.count 60:Int) * 3)∧(ξ.2=false→b3=false∧s.data.toList.count 60=0)) ?_ ?_))
      ·
       refine B1 (b:=(s.data.toList.count 60:Int) != 0) kr (fun hc11=>?_) (fun hc11=>?_)
       ·
        try simp only [decide_eq_true_eq,decide_eq_false_iff_not] at hc11
        refine A1 (H4 (k:=A3 (j:=4) [0,0,0,0] (k:=G3 (mB #[60]) 0 (fun _=>by decide) (A3 (j:=7) [0,0] (k:=E9 (ch:=[]) (b:=c) (off:=0) (len:=256) (sz:=1) (e:=22) (kd:=.u8) (j:=60) (hb:=(fun _=>⟨by decide,by decide⟩)) (k:=C2 (ch:=[]) (b:=c) (off:=60) (v:=.slice (some ⟨a60,0,none⟩) 4 c60) (hA:=At.grp 0 0 rfl rfl) (hv:=kr) (k:=A3 (j:=12) [0,0,0] (k:=D1 52 ((s.data.toList.count 60:Int) * 3) (by omega) (by omega) kr ?_))))))))
        refine A3 (j:=13) [0] (k:=D1 53 (n3+((s.data.toList.count 60:Int) * 3)) (by omega) (by omega) kr (A5 [0] [0,1,5,30,31,32] (k:=A0 (G_p [0] [0,1,5,6,30,31,32] (k:=E6 (n3+((s.data.toList.count 60:Int) * 3),true) [0,1,5,6,30,31,32] kr (fun w h=>h) ⟨(by first | rfl | (simp only [bne_eq_false_iff_eq] at *; omega)),(by intro h; dsimp only at h; first | exact Bool.noConfusion h | (simp only [bne_eq_false_iff_eq] at *; exact ⟨h,by omega⟩))⟩)))))
       ·
        try simp only [decide_eq_true_eq,decide_eq_false_iff_not] at hc11
        refine A7 (E6 (n3,b3) [0,1,5,6,30,31,32] kr (fun w h=>h) ⟨(by first | rfl | (simp only [bne_eq_false_iff_eq] at *; omega)),(by intro h; dsimp only at h; first | exact Bool.noConfusion h | (simp only [bne_eq_false_iff_eq] at *; exact ⟨h,by omega⟩))⟩)
      ·
       rintro ⟨n4,b4⟩ ⟨hn4,hb4⟩
       refine B8 (A0 (G_p [0,0] [0,1,5,6,30,31,32] (k:=Z4 (F5 (A1 (G_p [0] [0,1,5,6,30,31,32,33] (k:=A0 (A1 ?_))))))))
       refine B9 kr (A7 (A0 (A1 (B3 (A1 (A2 (E4 5 4 1 hrT (by exact ⟨by decide,by decide,by intro h; cases h⟩) (H7 (4 * 1) (.string (mB #[38])) hrT (E0 1 rfl) (fun _=>rfl) ?_))))))))
       refine A5 [0] [0,1,5,6,8,30,31,32] (k:=A0 (A1 (A2 (A3 (j:=2) [0,0] (k:=H5 Tryz.func121 (count_38 s _ _) (A5 [0] [0,1,5,6,8,9,30,31,32] (k:=A0 (A1 ?_))))))))
       refine G_p [0,0] [0,1,5,6,8,9,30,31,32,40] (k:=A0 (P7 (T:=Int × Bool) (fun ξ:Int × Bool=>[⟨0,[],pt c⟩,⟨1,[],.string s⟩,⟨5,[],.int .i64 ξ.1⟩,⟨6,[],.bool ξ.2⟩,⟨30,[],.slice aT 5 cT⟩,⟨31,[],.int .i64 5⟩,⟨32,[],.int .i64 4⟩]) (fun ξ:Int × Bool=>([(c,.cells (bsr [(34,.slice (some ⟨a34,0,none⟩) 6 c34),(38,.slice (some ⟨a38,0,none⟩) 5 c38),(39,.slice (some ⟨a39,0,none⟩) 5 c39),(60,.slice (some ⟨a60,0,none⟩) 4 c60),(62,.slice (some ⟨a62,0,none⟩) 4 c62)] (.slice aT 5 cT)) 183 (0,0))]::gT::g38::g60::g62::g34::g39::H)) (fun ξ:Int × Bool=>(ξ.1=n4+(s.data.toList.count 38:Int) * 4)∧(ξ.2=false→b4=false∧s.data.toList.count 38=0)) ?_ ?_))
       ·
        refine B1 (b:=(s.data.toList.count 38:Int) != 0) kr (fun hc14=>?_) (fun hc14=>?_)
        ·
         try simp only [decide_eq_true_eq,decide_eq_false_iff_not] at hc14
         refine A1 (H4 (k:=A3 (j:=4) [0,0,0,0] (k:=G3 (mB #[38]) 0 (fun _=>by decide) (A3 (j:=7) [0,0] (k:=E9 (ch:=[]) (b:=c) (off:=0) (len:=256) (sz:=1) (e:=22) (kd:=.u8) (j:=38) (hb:=(fun _=>⟨by decide,by decide⟩)) (k:=C2 (ch:=[]) (b:=c) (off:=38) (v:=.slice (some ⟨a38,0,none⟩) 5 c38) (hA:=At.grp 0 0 rfl rfl) (hv:=kr) (k:=A3 (j:=12) [0,0,0] (k:=D1 52 ((s.data.toList.count 38:Int) * 4) (by omega) (by omega) kr ?_))))))))
         refine A3 (j:=13) [0] (k:=D1 53 (n4+((s.data.toList.count 38:Int) * 4)) (by omega) (by omega) kr (A5 [0] [0,1,5,30,31,32] (k:=A0 (G_p [0] [0,1,5,6,30,31,32] (k:=E6 (n4+((s.data.toList.count 38:Int) * 4),true) [0,1,5,6,30,31,32] kr (fun w h=>h) ⟨(by first | rfl | (simp only [bne_eq_false_iff_eq] at *; omega)),(by intro h; dsimp only at h; first | exact Bool.noConfusion h | (simp only [bne_eq_false_iff_eq] at *; exact ⟨h,by omega⟩))⟩)))))
        ·
         try simp only [decide_eq_true_eq,decide_eq_false_iff_not] at hc14
         refine A7 (E6 (n4,b4) [0,1,5,6,30,31,32] kr (fun w h=>h) ⟨(by first | rfl | (simp only [bne_eq_false_iff_eq] at *; omega)),(by intro h; dsimp only at h; first | exact Bool.noConfusion h | (simp only [bne_eq_false_iff_eq] at *; exact ⟨h,by omega⟩))⟩)
       rintro ⟨n5,b5⟩ ⟨hn5,hb5⟩
       refine B8 (A0 (G_p [0,0] [0,1,5,6,30,31,32] (k:=Z4 (F5 (A1 (G_p [0] [0,1,5,6,30,31,32,33] (k:=A0 (A1 ?_))))))))
       refine C5 kr (E7 (A6 (A6 (B6 (E6 (n5,b5) [0,1,5,6] kr (fun w h=>h) ⟨(by rw [htmlR_count,show s.data.toList.length=s.size from Array.length_toList]; omega),(by intro h; obtain ⟨h1,h2⟩:=hb5 h; obtain ⟨h3,h4⟩:=hb4 h1; obtain ⟨h5,h6⟩:=hb3 h3; obtain ⟨h7,h8⟩:=hb2 h5; obtain ⟨_,h10⟩:=hb1 h7; exact htmlR_same _ h10 h8 h6 h4 h2)⟩)))))
  ·
   try simp only [decide_eq_false_iff_not] at hc1
   refine A1 (G_p [0] [0,1,5,6,10] (k:=A0 (B3 (I5 (EI:=(fun ξ:Nat × Int × Bool=>[⟨0,[],pt c⟩,⟨1,[],.string s⟩,⟨5,[],.int .i64 ξ.2.1⟩,⟨6,[],.bool ξ.2.2⟩,⟨10,[],.int .i64 (ξ.1:Int)⟩])) (HI:=(fun ξ:Nat × Int × Bool=>([(c,.cells (bsr [(34,.slice (some ⟨a34,0,none⟩) 6 c34),(38,.slice (some ⟨a38,0,none⟩) 5 c38),(39,.slice (some ⟨a39,0,none⟩) 5 c39),(60,.slice (some ⟨a60,0,none⟩) 4 c60),(62,.slice (some ⟨a62,0,none⟩) 4 c62)] (.slice aT 5 cT)) 183 (0,0))]::gT::g38::g60::g62::g34::g39::H))) (Φ:=(fun ξ:Nat × Int × Bool=>(ξ.1≤s.size)∧(ξ.2.1=((C7 D3 (s.data.toList.take ξ.1)).length:Int)+s.size - ξ.1)∧(ξ.2.2=anyR (s.data.toList.take ξ.1)))) (μ:=(fun ξ:Nat × Int × Bool=>s.size - ξ.1)) (s0:=(0,(s.size:Int),false)) [0,1,5,6,10] kr rfl ⟨(by omega),(by dsimp only; simp [outR_nil]),rfl⟩ ?_))))
   rintro ⟨i,ns,ac⟩ ⟨hi,hns,hac⟩
   dsimp only at hi hns hac
   have hto:=outR_le6 (s.data.toList.take i)
   rw [List.length_take,hlen,Nat.min_eq_left hi] at hto
   refine A1 (A1 (G_p [0,0,0,0] [0,1,5,6,10,58] (k:=A0 (B1 (b:=decide ((i:Int)<(s.size:Int))) kr (fun hc17=>?_) (fun hc17=>?_)))))
   ·
    try simp only [decide_eq_true_eq] at hc17
    refine A7 (A0 (A1 (B3 (A1 (A2 (A3 (j:=2) [0,0] (k:=G3 s (i:Int) (fun _=>by omega) ?_)))))))
    have hb18:=E5 s (i:Int)
    refine A5 [0] [0,1,5,6,10,11] (k:=A0 (A1 (A2 (A3 (j:=4) [0,0,0,0] (k:=E9 (ch:=[]) (b:=c) (off:=0) (len:=256) (sz:=1) (e:=22) (kd:=.u8) (j:=B2 s (i:Int)) (hb:=(fun _=>by have hbx:=E5 s (i:Int); exact ⟨by omega,by omega⟩)) (k:=?_))))))
    rcases tab_case (.slice aT 5 cT) a38 a60 a62 a34 a39 c38 c60 c62 c34 c39 (s.data.toList.getD i 0) with ⟨A,L,C,u,hmem,hu,hL,hcell⟩ | ⟨hu,hcell⟩
    have hu4:=u_pos hu
    have hsp:=congrArg List.length (outR_split s.data.toList (show i<s.data.toList.length by omega))
    rw [X8 _ hu] at hsp
    simp only [List.length_append] at hsp
    refine C2 (ch:=[]) (b:=c) (off:=0+Int.toNat (B2 s (i:Int)) * 1) (v:=.slice (some ⟨A,0,none⟩) L C) (hA:=At.grp 0 0 rfl rfl) (hv:=(by rw [T6]; exact hcell)) (k:=A5 [0] [0,1,5,6,10,11,70] (k:=A0 (B9 kr (A1 (A2 (A3 (j:=5) [0,0,0,0,0] (k:=E9 (ch:=[]) (b:=c) (off:=0) (len:=256) (sz:=1) (e:=22) (kd:=.u8) (j:=B2 s (i:Int)) (hb:=(fun _=>by have hbx:=E5 s (i:Int); exact ⟨by omega,by omega⟩)) (k:=C2 (ch:=[]) (b:=c) (off:=0+Int.toNat (B2 s (i:Int)) * 1) (v:=.slice (some ⟨A,0,none⟩) L C) (hA:=At.grp 0 0 rfl rfl) (hv:=(by rw [T6]; exact hcell)) (k:=?_)))))))))
    refine A3 (j:=9) [0,0] (k:=D1 79 (((L:Nat):Int) - 1) (by omega) (by omega) kr (A3 (j:=10) [0] (k:=D1 80 (ns+(((L:Nat):Int) - 1)) (by omega) (by omega) kr (A5 [0] [0,1,5,10] (k:=A0 (G_p [0] [0,1,5,6,10] (k:=B8 (A0 ?_))))))))
    refine A2 (A3 (j:=2) [0,0] (k:=D1 60 ((i:Int)+1) (by omega) (by omega) kr (A5 [0] [0,1,5,6,10] (k:=D2 (s':=(i+1,ns+(((L:Nat):Int) - 1),true)) [0,1,5,6,10] kr rfl ⟨(by omega),(by dsimp only; rw [take_succ _ (show i<s.data.toList.length by omega),N9,List.length_append]; first | (rw [X8 _ hu]; omega) | (rw [S9 _ hu]; simp only [List.length_cons,List.length_nil]; omega)),(by dsimp only; rw [take_succ _ (show i<s.data.toList.length by omega),anyR_snoc,hu]; simp [])⟩ (by omega)))))
    have hsp:=congrArg List.length (outR_split s.data.toList (show i<s.data.toList.length by omega))
    rw [S9 _ hu] at hsp
    simp only [List.length_append,List.length_cons,List.length_nil] at hsp
    refine C2 (ch:=[]) (b:=c) (off:=0+Int.toNat (B2 s (i:Int)) * 1) (v:=.slice none 0 0) (hA:=At.grp 0 0 rfl rfl) (hv:=(by rw [T6]; exact hcell)) (k:=A5 [0] [0,1,5,6,10,11,70] (k:=A0 (C5 kr (A7 (B8 (A0 (A2 (A3 (j:=2) [0,0] (k:=?_)))))))))
    refine D1 60 ((i:Int)+1) (by omega) (by omega) kr (A5 [0] [0,1,5,6,10] (k:=D2 (s':=(i+1,ns,ac)) [0,1,5,6,10] kr rfl ⟨(by omega),(by dsimp only; rw [take_succ _ (show i<s.data.toList.length by omega),N9,List.length_append]; first | (rw [X8 _ hu]; omega) | (rw [S9 _ hu]; simp only [List.length_cons,List.length_nil]; omega)),(by dsimp only; rw [take_succ _ (show i<s.data.toList.length by omega),anyR_snoc,hu]; simp [hac])⟩ (by omega)))
   ·
    try simp only [decide_eq_false_iff_not] at hc17
    refine E7 (A6 (A6 (B6 (E6 (ns,ac) [0,1,5,6] kr (fun w h=>h) ⟨(by rw [show i=s.data.toList.length by rw [show s.data.toList.length=s.size from Array.length_toList]; omega] at hns; rw [List.take_length] at hns; omega),(by intro h; rw [show i=s.data.toList.length by rw [show s.data.toList.length=s.size from Array.length_toList]; omega] at hac; rw [List.take_length] at hac; exact anyR_same _ (by rw [← hac]; exact h))⟩))))
 ·
  rintro ⟨ns,ac⟩ ⟨hN,hA⟩
  dsimp only at hN hA
  refine L7 (E':=[⟨0,[],pt c⟩,⟨1,[],.string s⟩,⟨5,[],.int .i64 ((C7 D3 s.data.toList).length:Int)⟩,⟨6,[],.bool ac⟩]) (by dsimp only; rw [hN]) (A0 (A1 (A1 (G_p [0,0] [0,1,5,82] (k:=A0 (B1 (b:=!ac) kr (fun hc23=>?_) (fun hc23=>?_)))))))
  ·
   try simp only [decide_eq_true_eq,decide_eq_false_iff_not] at hc23
   refine A1 (C3 (E':=[⟨4,[],.string s⟩]) [0,0] [4] (k:=A0 (B4 (A4 (B7 [.tmp 4] [.string s] (k:=?_))))))
   exact ⟨congrArg Value.string (by rw [hA (by first | assumption | simp_all)]),rfl⟩
  ·
   try simp only [decide_eq_true_eq,decide_eq_false_iff_not] at hc23
   refine A7 (A0 (A1 (A2 (A3 (j:=1) [0] (k:=GL_makeS (ch:=[]) (t:=22) (e:=5) (inf:=Tryz.t5) (l:=(C7 D3 s.data.toList).length) (c:=(T4 [] (C7 D3 s.data.toList).length).toList) (hz:=rfl) (hb:=(by show (1:Int) * _≤_; omega)) (hl:=(by omega)) (hm:=(by show (C7 D3 s.data.toList).length * 1≤16777216; omega)) (hc:=(by rw [Array.toArray_toList]; exact madeZ _)) (k:=(fun B=>A5 [0] [0,1,12] (k:=A0 (A1 ?_)))))))))
   refine G_p [0] [0,1,12,13] (k:=A0 (A1 (A1 (G_p [0] [0,1,12,13,14] (k:=A0 (B3 (R2 (H':=([(B,.cells (T4 [] ((C7 D3 s.data.toList).length)) 5 (0,0))]::[(c,.cells (bsr [(34,.slice (some ⟨a34,0,none⟩) 6 c34),(38,.slice (some ⟨a38,0,none⟩) 5 c38),(39,.slice (some ⟨a39,0,none⟩) 5 c39),(60,.slice (some ⟨a60,0,none⟩) 4 c60),(62,.slice (some ⟨a62,0,none⟩) 4 c62)] (.slice aT 5 cT)) 183 (0,0))]::gT::g38::g60::g62::g34::g39::H)) (fun w h=>by rw [Array.toArray_toList] at h; exact h) (I5 (EI:=(fun ξ:Nat × Nat=>[⟨0,[],pt c⟩,⟨1,[],.string s⟩,⟨12,[],.slice (some ⟨B,0,none⟩) ((C7 D3 s.data.toList).length) ((C7 D3 s.data.toList).length)⟩,⟨13,[],.int .i64 ((C7 D3 (s.data.toList.take ξ.1)).length:Int)⟩,⟨14,[],.int .i64 (ξ.1:Int)⟩])) (HI:=(fun ξ:Nat × Nat=>([(B,.cells (T4 (C7 D3 (s.data.toList.take ξ.1)) (ξ.2)) 5 (0,0))]::[(c,.cells (bsr [(34,.slice (some ⟨a34,0,none⟩) 6 c34),(38,.slice (some ⟨a38,0,none⟩) 5 c38),(39,.slice (some ⟨a39,0,none⟩) 5 c39),(60,.slice (some ⟨a60,0,none⟩) 4 c60),(62,.slice (some ⟨a62,0,none⟩) 4 c62)] (.slice aT 5 cT)) 183 (0,0))]::gT::g38::g60::g62::g34::g39::H))) (Φ:=(fun ξ:Nat × Nat=>(ξ.1≤s.size)∧(ξ.2+(C7 D3 (s.data.toList.take ξ.1)).length=(C7 D3 s.data.toList).length))) (μ:=(fun ξ:Nat × Nat=>s.size - ξ.1)) (s0:=(0,(C7 D3 s.data.toList).length)) [0,1,12,13,14] kr rfl ⟨(by omega),(by simp [outR_nil])⟩ ?_))))))))
   rintro ⟨i,k⟩ ⟨hi,hk⟩
   dsimp only at hi hk
   have hto:=outR_le6 (s.data.toList.take i)
   rw [List.length_take,hlen,Nat.min_eq_left hi] at hto
   have hto2:=outR_le6 (s.data.toList.drop (i+1))
   refine A1 (A1 (G_p [0,0,0,0] [0,1,12,13,14,89] (k:=A0 (B1 (b:=decide ((i:Int)<(s.size:Int))) kr (fun hc24=>?_) (fun hc24=>?_)))))
   ·
    try simp only [decide_eq_true_eq] at hc24
    refine A7 (A0 (A1 (B3 (A1 (A2 (A3 (j:=2) [0,0] (k:=G3 s (i:Int) (fun _=>by omega) ?_)))))))
    have hb25:=E5 s (i:Int)
    refine A5 [0] [0,1,12,13,14,15] (k:=A0 (A1 (A2 (A3 (j:=4) [0,0,0,0] (k:=E9 (ch:=[]) (b:=c) (off:=0) (len:=256) (sz:=1) (e:=22) (kd:=.u8) (j:=B2 s (i:Int)) (hb:=(fun _=>by have hbx:=E5 s (i:Int); exact ⟨by omega,by omega⟩)) (k:=?_))))))
    rcases tab_case (.slice aT 5 cT) a38 a60 a62 a34 a39 c38 c60 c62 c34 c39 (s.data.toList.getD i 0) with ⟨A,L,C,u,hmem,hu,hL,hcell⟩ | ⟨hu,hcell⟩
    have hu4:=u_pos hu
    have hsp:=congrArg List.length (outR_split s.data.toList (show i<s.data.toList.length by omega))
    rw [X8 _ hu] at hsp
    simp only [List.length_append] at hsp
    refine C2 (ch:=[]) (b:=c) (off:=0+Int.toNat (B2 s (i:Int)) * 1) (v:=.slice (some ⟨A,0,none⟩) L C) (hA:=At.grp 1 0 rfl rfl) (hv:=(by rw [T6]; exact hcell)) (k:=A5 [0] [0,1,12,13,14,15,101] (k:=A0 (B9 kr (H3 ([(c,.cells (bsr [(34,.slice (some ⟨a34,0,none⟩) 6 c34),(38,.slice (some ⟨a38,0,none⟩) 5 c38),(39,.slice (some ⟨a39,0,none⟩) 5 c39),(60,.slice (some ⟨a60,0,none⟩) 4 c60),(62,.slice (some ⟨a62,0,none⟩) 4 c62)] (.slice aT 5 cT)) 183 (0,0))]::gT::g38::g60::g62::g34::g39::H) kr (G0 (fuel:=10) [(0,0),(1,0),(2,0)] (fun w h=>(h.pk 1 [1,1,1,1,1,1,1])) (k:=F6 (E':=[⟨105,[],.slice (cutA (some ⟨B,0,none⟩) ((C7 D3 s.data.toList).length) (Int.toNat ((C7 D3 (s.data.toList.take i)).length:Int)) 1) ((Int.toNat (((C7 D3 s.data.toList).length:Nat):Int)) - (Int.toNat ((C7 D3 (s.data.toList.take i)).length:Int))) ((C7 D3 s.data.toList).length - (Int.toNat ((C7 D3 (s.data.toList.take i)).length:Int)))⟩,⟨104,[],.int .i64 ((C7 D3 (s.data.toList.take i)).length:Int)⟩,⟨103,[],.slice (some ⟨B,0,none⟩) ((C7 D3 s.data.toList).length) ((C7 D3 s.data.toList).length)⟩,⟨102,[],.int .i64 ((C7 D3 (s.data.toList.take i)).length:Int)⟩,⟨0,[],pt c⟩,⟨1,[],.string s⟩,⟨12,[],.slice (some ⟨B,0,none⟩) ((C7 D3 s.data.toList).length) ((C7 D3 s.data.toList).length)⟩,⟨13,[],.int .i64 ((C7 D3 (s.data.toList.take i)).length:Int)⟩,⟨14,[],.int .i64 (i:Int)⟩,⟨15,[],.int .u8 (B2 s (i:Int))⟩,⟨101,[],.bool true⟩]) 3 kr (fun w h=>(h.pk 1 [1,1,1,1,1,1,1])) ?_ ?_))))))
    exact GL_sliceL (ch:=[]) (a:=(some ⟨B,0,none⟩)) (len:=(C7 D3 s.data.toList).length) (cap:=(C7 D3 s.data.toList).length) (e:=5) (sz:=1) (vl:=(some (.int .i64 ((C7 D3 (s.data.toList.take i)).length:Int)))) (vh:=none) (l:=((C7 D3 (s.data.toList.take i)).length:Int)) (h:=(((C7 D3 s.data.toList).length:Nat):Int)) (hb:=(fun _=>by omega)) (k:=G5)
    refine GH_env (E':=[⟨105,[],.slice (some ⟨B,(C7 D3 (s.data.toList.take i)).length,none⟩) ((C7 D3 s.data.toList).length - (C7 D3 (s.data.toList.take i)).length) ((C7 D3 s.data.toList).length - (C7 D3 (s.data.toList.take i)).length)⟩,⟨104,[],.int .i64 ((C7 D3 (s.data.toList.take i)).length:Int)⟩,⟨103,[],.slice (some ⟨B,0,none⟩) ((C7 D3 s.data.toList).length) ((C7 D3 s.data.toList).length)⟩,⟨102,[],.int .i64 ((C7 D3 (s.data.toList.take i)).length:Int)⟩,⟨0,[],pt c⟩,⟨1,[],.string s⟩,⟨12,[],.slice (some ⟨B,0,none⟩) ((C7 D3 s.data.toList).length) ((C7 D3 s.data.toList).length)⟩,⟨13,[],.int .i64 ((C7 D3 (s.data.toList.take i)).length:Int)⟩,⟨14,[],.int .i64 (i:Int)⟩,⟨15,[],.int .u8 (B2 s (i:Int))⟩,⟨101,[],.bool true⟩]) (by rw [Int.toNat_natCast,Int.toNat_natCast,cut_some (by omega)]) (G0 (fuel:=7) [(4,0),(5,0)] (fun w h=>(h.pk 1 [1,1,1,1,1,1,1])) (k:=J3 (ad:=⟨c,0,none⟩) 6 (hL:=(fun w h=>(h.pk 1 [1,1,1,1,1,1,1]))) (k:=G0 (fuel:=5) [(7,0)] (fun w h=>(h.pk 1 [1,1,1,1,1,1,1])) (k:=F6 8 (hL:=(fun w h=>(h.pk 1 [1,1,1,1,1,1,1]))) (hy:=E9 (i:=8) (ch:=[]) (b:=c) (off:=0) (len:=256) (sz:=1) (e:=22) (kd:=.u8) (j:=B2 s (i:Int)) (hb:=(fun _=>by have hbx:=E5 s (i:Int); exact ⟨by omega,by omega⟩)) (k:=G5 kr rfl)) (k:=F6 9 kr (fun w h=>(h.pk 1 [1,1,1,1,1,1,1])) (C2 (i:=9) (ch:=[]) (b:=c) (off:=0+Int.toNat (B2 s (i:Int)) * 1) (v:=.slice (some ⟨A,0,none⟩) L C) rfl rfl kr kr kr kr kr (At.grp 0 0 rfl rfl) (by rw [T6]; exact hcell) (G5 kr rfl)) (C6 10 (k:=?_)))))))
    obtain ⟨Q,hrd,hQ⟩:=tab_row hR hmem W0 [(B,.cells (T4 (C7 D3 (s.data.toList.take i)) (k)) 5 (0,0))] [(c,.cells (bsr [(34,.slice (some ⟨a34,0,none⟩) 6 c34),(38,.slice (some ⟨a38,0,none⟩) 5 c38),(39,.slice (some ⟨a39,0,none⟩) 5 c39),(60,.slice (some ⟨a60,0,none⟩) 4 c60),(62,.slice (some ⟨a62,0,none⟩) 4 c62)] (.slice aT 5 cT)) 183 (0,0))] gT H
    refine GL_copy (i:=10) (ch:=[]) (dT:=22) (sT:=22) (el:=5) (b:=B) (o1:=(C7 D3 (s.data.toList.take i)).length) (n1:=((C7 D3 s.data.toList).length - (C7 D3 (s.data.toList.take i)).length)) (c1:=((C7 D3 s.data.toList).length - (C7 D3 (s.data.toList.take i)).length)) (a:=⟨A,0,none⟩) (n2:=L) (c2:=C) (c:=T4 (C7 D3 (s.data.toList.take i)) k) (c':=T4 (C7 D3 (s.data.toList.take i)++u) (k - u.length)) (j:=0) (m:=0) (H':=([(B,.cells (T4 (C7 D3 (s.data.toList.take i)++u) (k - u.length)) 5 (0,0))]::[(c,.cells (bsr [(34,.slice (some ⟨a34,0,none⟩) 6 c34),(38,.slice (some ⟨a38,0,none⟩) 5 c38),(39,.slice (some ⟨a39,0,none⟩) 5 c39),(60,.slice (some ⟨a60,0,none⟩) 4 c60),(62,.slice (some ⟨a62,0,none⟩) 4 c62)] (.slice aT 5 cT)) 183 (0,0))]::gT::g38::g60::g62::g34::g39::H)) (u8s u) rfl rfl kr kr kr kr kr kr kr rfl rfl (by rw [show (u8s u).length=u.length from List.length_map _,hL]; exact (Nat.min_eq_left (by omega)).symm) (rd_cell hrd hQ) (by rw [W4,show (u8s u).length=u.length from List.length_map _]; omega) (u8s_one u) (rowZ_copy _ _ _ (by omega)) kr ?_
    have hul:(u8s u).length=u.length:=List.length_map _
    refine A9 kr (fun w h=>(h.pk 1 [1,1,1,1,1,1,1])) (G0 (fuel:=1) [(11,0)] (fun w h=>(h.pk 1 [1,1,1,1,1,1,1])) (k:=GH_wi 113 (((C7 D3 (s.data.toList.take i)).length:Int)+((u8s u).length:Int)) (by omega) (by omega) kr (G0 (fuel:=0) [(12,0)] (fun w h=>(h.pk 1 [1,1,1,1,1,1,1])) (k:=D8 (E':=[⟨0,[],pt c⟩,⟨1,[],.string s⟩,⟨12,[],.slice (some ⟨B,0,none⟩) ((C7 D3 s.data.toList).length) ((C7 D3 s.data.toList).length)⟩,⟨13,[],.int .i64 (((C7 D3 (s.data.toList.take i)).length:Int)+((u8s u).length:Int))⟩,⟨14,[],.int .i64 (i:Int)⟩]) [0,1,12,13,14] (k:=B8 (A0 (A2 (A3 (j:=2) [0,0] (k:=?_)))))))))
    refine D1 91 ((i:Int)+1) (by omega) (by omega) kr (A5 [0] [0,1,12,13,14] (k:=?_))
    have hj2:((C7 D3 (s.data.toList.take i)).length:Int)+((u8s u).length:Int)=((C7 D3 (s.data.toList.take (i+1))).length:Int):=by rw [take_succ _ (show i<s.data.toList.length by omega),N9,List.length_append]; first | (rw [X8 _ hu,show (u8s u).length=u.length from List.length_map _]; omega) | (rw [S9 _ hu]; simp only [List.length_cons,List.length_nil]; omega)
    refine L7 (E':=[⟨0,[],pt c⟩,⟨1,[],.string s⟩,⟨12,[],.slice (some ⟨B,0,none⟩) ((C7 D3 s.data.toList).length) ((C7 D3 s.data.toList).length)⟩,⟨13,[],.int .i64 (((C7 D3 (s.data.toList.take i)).length:Int)+((u8s u).length:Int))⟩,⟨14,[],.int .i64 ((i:Int)+1)⟩]) kr (L7 (E':=[⟨0,[],pt c⟩,⟨1,[],.string s⟩,⟨12,[],.slice (some ⟨B,0,none⟩) ((C7 D3 s.data.toList).length) ((C7 D3 s.data.toList).length)⟩,⟨13,[],.int .i64 ((C7 D3 (s.data.toList.take (i+1))).length:Int)⟩,⟨14,[],.int .i64 ((i:Int)+1)⟩]) (by rw [hj2]) ?_)
    have hl2:(C7 D3 (s.data.toList.take i)++u)=C7 D3 (s.data.toList.take (i+1)):=by rw [take_succ _ (show i<s.data.toList.length by omega),N9]; first | rw [X8 _ hu] | rw [S9 _ hu]
    refine R5 (H':=([(B,.cells (T4 (C7 D3 (s.data.toList.take (i+1))) (k - u.length)) 5 (0,0))]::[(c,.cells (bsr [(34,.slice (some ⟨a34,0,none⟩) 6 c34),(38,.slice (some ⟨a38,0,none⟩) 5 c38),(39,.slice (some ⟨a39,0,none⟩) 5 c39),(60,.slice (some ⟨a60,0,none⟩) 4 c60),(62,.slice (some ⟨a62,0,none⟩) 4 c62)] (.slice aT 5 cT)) 183 (0,0))]::gT::g38::g60::g62::g34::g39::H)) (by rw [hl2]) (D2 (s':=(i+1,k - u.length)) [0,1,12,13,14] kr rfl ⟨(by omega),(by dsimp only; rw [← hl2,List.length_append]; first | omega | (simp only [List.length_cons,List.length_nil]; omega))⟩ (by omega))
    have hsp:=congrArg List.length (outR_split s.data.toList (show i<s.data.toList.length by omega))
    rw [S9 _ hu] at hsp
    simp only [List.length_append,List.length_cons,List.length_nil] at hsp
    refine C2 (ch:=[]) (b:=c) (off:=0+Int.toNat (B2 s (i:Int)) * 1) (v:=.slice none 0 0) (hA:=At.grp 1 0 rfl rfl) (hv:=(by rw [T6]; exact hcell)) (k:=A5 [0] [0,1,12,13,14,15,101] (k:=A0 (C5 kr (A1 (A2 (A3 (j:=3) [0,0,0] (k:=J9 (ch:=[]) (a:=(some ⟨B,0,none⟩)) (len:=(C7 D3 s.data.toList).length) (cap:=(C7 D3 s.data.toList).length) (kd:=.i64) (j:=((C7 D3 (s.data.toList.take i)).length:Int)) (e:=5) (sz:=1) (S:=inG [(B,.cells (T4 (C7 D3 (s.data.toList.take i)) (k)) 5 (0,0))]) (cs:=(T4 (C7 D3 (s.data.toList.take i)) k).toList) (hrd:=row_rd _ _) (hb:=(fun _=>⟨by omega,by omega,by intro h; have:=congrArg List.length h; rw [Array.length_toList,W4] at this; simp only [List.length_nil] at this; omega⟩)) (k:=GL_env (E':=[⟨117,[],.pointer (some ⟨B,0+Int.toNat ((C7 D3 (s.data.toList.take i)).length:Int) * 1,none⟩)⟩,⟨116,[],.int .u8 (B2 s (i:Int))⟩,⟨115,[],.int .i64 ((C7 D3 (s.data.toList.take i)).length:Int)⟩,⟨114,[],.slice (some ⟨B,0,none⟩) ((C7 D3 s.data.toList).length) ((C7 D3 s.data.toList).length)⟩,⟨0,[],pt c⟩,⟨1,[],.string s⟩,⟨12,[],.slice (some ⟨B,0,none⟩) ((C7 D3 s.data.toList).length) ((C7 D3 s.data.toList).length)⟩,⟨13,[],.int .i64 ((C7 D3 (s.data.toList.take i)).length:Int)⟩,⟨14,[],.int .i64 (i:Int)⟩,⟨15,[],.int .u8 (B2 s (i:Int))⟩,⟨101,[],.bool false⟩]) (by have hz:([⟨117,[],.pointer (some (eltA (some ⟨B,0,none⟩) (Int.toNat ((C7 D3 (s.data.toList.take i)).length:Int) * 1)))⟩,⟨116,[],.int .u8 (B2 s (i:Int))⟩,⟨115,[],.int .i64 ((C7 D3 (s.data.toList.take i)).length:Int)⟩,⟨114,[],.slice (some ⟨B,0,none⟩) ((C7 D3 s.data.toList).length) ((C7 D3 s.data.toList).length)⟩,⟨0,[],pt c⟩,⟨1,[],.string s⟩,⟨12,[],.slice (some ⟨B,0,none⟩) ((C7 D3 s.data.toList).length) ((C7 D3 s.data.toList).length)⟩,⟨13,[],.int .i64 ((C7 D3 (s.data.toList.take i)).length:Int)⟩,⟨14,[],.int .i64 (i:Int)⟩,⟨15,[],.int .u8 (B2 s (i:Int))⟩,⟨101,[],.bool false⟩]:List Sl)=[⟨117,[],.pointer (some ⟨B,0+Int.toNat ((C7 D3 (s.data.toList.take i)).length:Int) * 1,none⟩)⟩,⟨116,[],.int .u8 (B2 s (i:Int))⟩,⟨115,[],.int .i64 ((C7 D3 (s.data.toList.take i)).length:Int)⟩,⟨114,[],.slice (some ⟨B,0,none⟩) ((C7 D3 s.data.toList).length) ((C7 D3 s.data.toList).length)⟩,⟨0,[],pt c⟩,⟨1,[],.string s⟩,⟨12,[],.slice (some ⟨B,0,none⟩) ((C7 D3 s.data.toList).length) ((C7 D3 s.data.toList).length)⟩,⟨13,[],.int .i64 ((C7 D3 (s.data.toList.take i)).length:Int)⟩,⟨14,[],.int .i64 (i:Int)⟩,⟨15,[],.int .u8 (B2 s (i:Int))⟩,⟨101,[],.bool false⟩]:=(by rw [show Go.Sw.eltA (some ⟨B,0,none⟩) (Int.toNat ((C7 D3 (s.data.toList.take i)).length:Int) * 1)=⟨B,0+Int.toNat ((C7 D3 (s.data.toList.take i)).length:Int) * 1,none⟩ from O7 _ _ _]); exact Eq.trans kr hz) ?_))))))))
    refine P1 (ch:=[]) (b:=B) (off:=0+Int.toNat ((C7 D3 (s.data.toList.take i)).length:Int) * 1) (v:=.int .u8 (B2 s (i:Int))) (c:=(T4 (C7 D3 (s.data.toList.take i)) (k))) (c':=(T4 (C7 D3 (s.data.toList.take i)++[s.data.toList.getD i 0]) (k - 1))) (j:=0) (m:=0) (H':=([(B,.cells (T4 (C7 D3 (s.data.toList.take i)++[s.data.toList.getD i 0]) (k - 1)) 5 (0,0))]::[(c,.cells (bsr [(34,.slice (some ⟨a34,0,none⟩) 6 c34),(38,.slice (some ⟨a38,0,none⟩) 5 c38),(39,.slice (some ⟨a39,0,none⟩) 5 c39),(60,.slice (some ⟨a60,0,none⟩) 4 c60),(62,.slice (some ⟨a62,0,none⟩) 4 c62)] (.slice aT 5 cT)) 183 (0,0))]::gT::g38::g60::g62::g34::g39::H)) (hoff:=(by rw [W4]; show 0+_ * 1+1≤_; rw [Int.toNat_natCast]; omega)) (hfz:=(fun _ _=>thaw0)) (hc':=(by obtain ⟨k',rfl⟩:∃ k',k=k'+1:=⟨k - 1,by omega⟩; rw [Nat.add_sub_cancel]; show setRow _ _ [.int .u8 (B2 s (i:Int))]=_; rw [byteAt_getD]; exact rowZ_set _ _ _ (by rw [Int.toNat_natCast]; omega))) (hH':=kr) (k:=A5 [] [0,1,12,13,14] (k:=A0 (A2 (A3 (j:=2) [0,0] (k:=D1 119 (((C7 D3 (s.data.toList.take i)).length:Int)+1) (by omega) (by omega) kr (A5 [0] [0,1,12,13,14] (k:=B8 (A0 ?_))))))))
    refine A2 (A3 (j:=2) [0,0] (k:=D1 91 ((i:Int)+1) (by omega) (by omega) kr (A5 [0] [0,1,12,13,14] (k:=?_))))
    have hj2:((C7 D3 (s.data.toList.take i)).length:Int)+1=((C7 D3 (s.data.toList.take (i+1))).length:Int):=by rw [take_succ _ (show i<s.data.toList.length by omega),N9,List.length_append]; first | (rw [X8 _ hu,show (u8s u).length=u.length from List.length_map _]; omega) | (rw [S9 _ hu]; simp only [List.length_cons,List.length_nil]; omega)
    refine L7 (E':=[⟨0,[],pt c⟩,⟨1,[],.string s⟩,⟨12,[],.slice (some ⟨B,0,none⟩) ((C7 D3 s.data.toList).length) ((C7 D3 s.data.toList).length)⟩,⟨13,[],.int .i64 (((C7 D3 (s.data.toList.take i)).length:Int)+1)⟩,⟨14,[],.int .i64 ((i:Int)+1)⟩]) kr (L7 (E':=[⟨0,[],pt c⟩,⟨1,[],.string s⟩,⟨12,[],.slice (some ⟨B,0,none⟩) ((C7 D3 s.data.toList).length) ((C7 D3 s.data.toList).length)⟩,⟨13,[],.int .i64 ((C7 D3 (s.data.toList.take (i+1))).length:Int)⟩,⟨14,[],.int .i64 ((i:Int)+1)⟩]) (by rw [hj2]) ?_)
    have hl2:(C7 D3 (s.data.toList.take i)++[s.data.toList.getD i 0])=C7 D3 (s.data.toList.take (i+1)):=by rw [take_succ _ (show i<s.data.toList.length by omega),N9]; first | rw [X8 _ hu] | rw [S9 _ hu]
    refine R5 (H':=([(B,.cells (T4 (C7 D3 (s.data.toList.take (i+1))) (k - 1)) 5 (0,0))]::[(c,.cells (bsr [(34,.slice (some ⟨a34,0,none⟩) 6 c34),(38,.slice (some ⟨a38,0,none⟩) 5 c38),(39,.slice (some ⟨a39,0,none⟩) 5 c39),(60,.slice (some ⟨a60,0,none⟩) 4 c60),(62,.slice (some ⟨a62,0,none⟩) 4 c62)] (.slice aT 5 cT)) 183 (0,0))]::gT::g38::g60::g62::g34::g39::H)) (by rw [hl2]) (D2 (s':=(i+1,k - 1)) [0,1,12,13,14] kr rfl ⟨(by omega),(by dsimp only; rw [← hl2,List.length_append]; first | omega | (simp only [List.length_cons,List.length_nil]; omega))⟩ (by omega))
   ·
    try simp only [decide_eq_false_iff_not] at hc24
    refine E7 (A6 (A6 (B6 (A0 (A1 (A2 (A3 (j:=1) [0] (k:=N5 (ch:=[]) (a:=⟨B,0,none⟩) (cap:=(C7 D3 s.data.toList).length) (e:=5) (S:=(inG [(B,.cells (T4 (C7 D3 (s.data.toList.take i)) (k)) 5 (0,0))])) (C7 D3 s.data.toList) (hrd:=(by have e1:s.data.toList.take i=s.data.toList:=List.take_of_length_le (by omega); have e2:k=0:=(by rw [e1] at hk; omega); rw [e1,e2]; exact rowZ_rd _ rfl)) (hS:=E0 0 rfl) (k:=?_)))))))))
    refine A5 [0] [4] (k:=A0 (B4 (F8 1 [1,1,1,1,1,1,1] (B7 [.tmp 4] [.string ⟨(C7 D3 s.data.toList).toArray⟩] (k:=?_)))))
    exact ⟨rfl,rfl⟩
end Go.Proofs.YtcgmnagcgkhogaaGreatDoor
namespace Go.Sw
open Go.RowKit
theorem shape_of {w:World} {b:Nat} {c:Array Value} {e:TypeId} {fz:Nat × Nat} (h:w.heap[b]? = some (.cells c e fz)):w.shape? b=some (e,c.size):=by simp [World.shape?,h]
theorem GL_toUnsafe {d:Bool} {P:Program} {ops:Array Oper} {i:Nat} {Q:F0} {n:Fr} {E:Env} {W0:World} {H:List Grp} {o:Oper} {ch:List (Nat × Bool)} {src dst t e:TypeId} {x:Operand} {inf:TypeInfo} {b:Nat} {c:Array Value} {fz:Nat × Nat}
  (ho:ops[i]? = some o) (hop:o.op=.convert src dst x) (hx:evO E ch x=some (.pointer (some ⟨b,0,none⟩))) (hs:P.underlying src=some (.pointer t)) (hdd:P.underlying dst=some .unsafePointer) (ht:P.info? t=some inf) (hj:(inf.size != 0)=true)
  (hch:D7 ops E o.guard=some ch) (hd:G1 n ch o.dst=true) (hk:K5 E ch=true)
  (hA:At W0 H b (.cells c e fz)) (hc:(c.size != 0)=true)
  (k:GL d P ops (i+1) Q n (Env.put E o.dst ch (.pointer (some ⟨b,0,none⟩))) W0 H):GL d P ops i Q n E W0 H:=by
 refine J1 ho hch hd hk (fun r hr _ w hsat=>?_) k
 unfold execOp
 simp only [hop]
 rw [hr _ _ hx]
 have:=Go.Lib.run_to_unsafe (P:=P) w ⟨b,0,none⟩ hs hdd ht (by simpa using hj) (shape_of (hsat.at hA)) (Nat.pos_of_ne_zero (by simpa using hc))
 simp only [Sem.run_bind,this,Result.andThen_ok]
 exact ⟨rfl,rfl⟩
theorem GL_fromUnsafe {d:Bool} {P:Program} {ops:Array Oper} {i:Nat} {Q:F0} {n:Fr} {E:Env} {W0:World} {H:List Grp} {o:Oper} {ch:List (Nat × Bool)} {src dst u e:TypeId} {x:Operand} {inf:TypeInfo} {b:Nat} {c:Array Value} {fz:Nat × Nat}
  (ho:ops[i]? = some o) (hop:o.op=.convert src dst x) (hx:evO E ch x=some (.pointer (some ⟨b,0,none⟩))) (hs:P.underlying src=some .unsafePointer) (hdd:P.underlying dst=some (.pointer u)) (ht:P.info? u=some inf)
  (hch:D7 ops E o.guard=some ch) (hd:G1 n ch o.dst=true) (hk:K5 E ch=true)
  (hA:At W0 H b (.cells c e fz)) (hlies:liesAt P P.depth e (c.size / P.cellsOf e) 0 u 1=true)
  (k:GL d P ops (i+1) Q n (Env.put E o.dst ch (.pointer (some ⟨b,0,none⟩))) W0 H):GL d P ops i Q n E W0 H:=by
 refine J1 ho hch hd hk (fun r hr _ w hsat=>?_) k
 unfold execOp
 simp only [hop]
 rw [hr _ _ hx]
 have:=Go.Lib.run_from_unsafe (P:=P) w ⟨b,0,none⟩ hs hdd ht (shape_of (hsat.at hA)) hlies
 simp only [Sem.run_bind,this,Result.andThen_ok]
 exact ⟨rfl,rfl⟩
theorem GL_neqPtr {d:Bool} {P:Program} {ops:Array Oper} {i:Nat} {Q:F0} {n:Fr} {E:Env} {W0:World} {H:List Grp} {o:Oper} {ch:List (Nat × Bool)} {tp te:TypeId} {x y:Operand} {inf:TypeInfo} {a:Addr}
  (ho:ops[i]? = some o) (hop:o.op=.binOp .neq tp x y tp) (hx:evO E ch x=some (.pointer (some a))) (hy:evO E ch y=some (.pointer (some a))) (hp:P.underlying tp=some (.pointer te)) (ht:P.info? te=some inf)
  (hch:D7 ops E o.guard=some ch) (hd:G1 n ch o.dst=true) (hk:K5 E ch=true)
  (k:GL d P ops (i+1) Q n (Env.put E o.dst ch (.bool false)) W0 H):GL d P ops i Q n E W0 H:=by
 refine J1 ho hch hd hk (fun r hr _ w hsat=>?_) k
 unfold execOp
 simp only [hop]
 rw [hr _ _ hx,hr _ _ hy]
 have:=Go.Lib.run_neq_ptr_same (P:=P) w a hp ht
 have hg:(eqGuard .neq tp x y (.pointer (some a)) (.pointer (some a))).run P w=.ok () w:=rfl
 simp only [Sem.run_bind,hg,this,Result.andThen_ok]
 exact ⟨rfl,rfl⟩
theorem GL_sliceData {d:Bool} {P:Program} {ops:Array Oper} {i:Nat} {Q:F0} {n:Fr} {E:Env} {W0:World} {H:List Grp} {o:Oper} {ch:List (Nat × Bool)} {c:Call} {a:Option Addr} {l cap:Nat}
  (ho:ops[i]? = some o:=by exact rfl) (hop:o.op=.call c:=by exact rfl) (hce:c.callee=.builtin .unsafeSliceData:=by exact rfl) (hargs:evL (evO E ch) c.args.toList=some [.slice a l cap]:=by kernel_rfl) (hc:a=none∨cap≠0)
  (hch:D7 ops E o.guard=some ch:=by kernel_rfl) (hd:G1 n ch o.dst=true:=by kernel_rfl) (hk:K5 E ch=true:=by kernel_rfl)
  (k:GL d P ops (i+1) Q n (Env.put E o.dst ch (.pointer a)) W0 H):GL d P ops i Q n E W0 H:=by
 refine J1 ho hch hd hk (fun r hr _ w hsat=>?_) k
 unfold execOp
 have hrun:(Builtin.unsafeSliceData_ c.argTypes o.type #[.slice a l cap]).run P w=.ok (.pointer a) w:=by
  cases a with
  | none=>exact Go.Lib.run_unsafeSliceData_nil (P:=P) w _ _ l cap
  | some a=>exact Go.Lib.run_unsafeSliceData_row (P:=P) w _ _ a l cap (by simpa using hc)
 simp only [hop,resolve,hce,P0 hr hargs,Sem.run_bind,Sem.run_pure,Result.andThen_ok,invoke,Go.builtin,hrun]
 exact ⟨rfl,rfl⟩
theorem GL_sliceData0 {P:Program} {ops:Array Oper} {i:Nat} {Q:F0} {n:Fr} {E:Env} {W0:World} {H:List Grp} {o:Oper} {ch:List (Nat × Bool)} {c:Call} {b:Nat} {l:Nat} {e:TypeId} {cs:Array Value} {et:TypeId} {fz:Nat × Nat}
  (ho:ops[i]? = some o) (hop:o.op=.call c) (hce:c.callee=.builtin .unsafeSliceData) (hargs:evL (evO E ch) c.args.toList=some [.slice (some ⟨b,0,none⟩) l 0]) (hp:P.underlying o.type=some (.pointer e))
  (hch:D7 ops E o.guard=some ch) (hd:G1 n ch o.dst=true) (hsure:M5 E ch=true) (hA:At W0 H b (.cells cs et fz))
  (k:∀ v,GL false P ops (i+1) Q n (Env.put E o.dst ch (.pointer (some ⟨v,0,none⟩))) W0 ([(v,.view ⟨b,0,none⟩ e)]::H)):GL false P ops i Q n E W0 H:=by
 refine GL_eff (R:=fun v H1=>∃ q,v=.pointer (some ⟨q,0,none⟩)∧H1=[(q,.view ⟨b,0,none⟩ e)]::H) ho hch hd hsure (fun r hr w hs=>?_) (by rintro v H1 ⟨q,rfl,rfl⟩; exact k q)
 have hrun:=Go.Lib.run_unsafeSliceData_zero (P:=P) w c.argTypes o.type e hp ⟨b,0,none⟩ l _ (shape_of (hs.at hA))
 refine ⟨_,w.alloc (.view ⟨b,0,none⟩ e),_,⟨w.heap.size,rfl,rfl⟩,hs.new rfl rfl rfl rfl,.inl ?_⟩
 unfold execOp
 simp only [hop,resolve,hce,P0 hr hargs,Sem.run_bind,Sem.run_pure,Result.andThen_ok,invoke,Go.builtin,hrun]
theorem A0i {d:Bool} {P:Program} {ops:Array Oper} {i:Nat} {Q:F0} {n:Fr} {E:Env} {W0:World} {H:List Grp} {o:Oper} {ch:List (Nat × Bool)} {c:Call} {p:Option Addr} {pt it:TypeId}
  (ho:ops[i]? = some o:=by exact rfl) (hop:o.op=.call c:=by exact rfl) (hce:c.callee=.builtin .unsafeString:=by exact rfl) (hat:c.argTypes=#[pt,it]:=by exact rfl) (hargs:evL (evO E ch) c.args.toList=some [.pointer p,.int .i64 0]:=by kernel_rfl)
  (hch:D7 ops E o.guard=some ch:=by kernel_rfl) (hd:G1 n ch o.dst=true:=by kernel_rfl) (hk:K5 E ch=true:=by kernel_rfl)
  (k:GL d P ops (i+1) Q n (Env.put E o.dst ch (.string .empty)) W0 H):GL d P ops i Q n E W0 H:=by
 refine J1 ho hch hd hk (fun r hr _ w hsat=>?_) k
 unfold execOp
 simp only [hop,resolve,hce,hat,P0 hr hargs,Sem.run_bind,Sem.run_pure,Result.andThen_ok,invoke,Go.builtin,Go.Lib.run_unsafeString_none]
 exact ⟨rfl,rfl⟩
theorem freeze_wr {w:World} {b n:Nat} {c:Array Value} {e:TypeId} (h:w.heap[b]? = some (.cells c e (0,0))) (hn:n≠0):Wr b (.cells c e (0,n)) w (w.freeze ⟨b,0,none⟩ n):=by
 have hb:b<w.heap.size:=by
  rcases Nat.lt_or_ge b w.heap.size with h' | h'
  exact h'
  simp [Array.getElem?_eq_none h'] at h
 unfold World.freeze
 rw [if_neg hn]
 refine ⟨rfl,rfl,rfl,by simp,?_,fun k hk=>?_⟩
 simp only [Array.getElem?_modify,h]
 simp
 simp only [Array.getElem?_modify]
 rw [if_neg (Ne.symm hk)]
theorem GL_unsafeStr {P:Program} {ops:Array Oper} {i:Nat} {Q:F0} {n:Fr} {E:Env} {W0:World} {H:List Grp} {o:Oper} {ch:List (Nat × Bool)} {c:Call} {b j:Nat} {pt it e:TypeId} {cs:Array Value} {l:List UInt8}
  (ho:ops[i]? = some o) (hop:o.op=.call c) (hce:c.callee=.builtin .unsafeString) (hat:c.argTypes=#[pt,it]) (hargs:evL (evO E ch) c.args.toList=some [.pointer (some ⟨b,0,none⟩),.int .i64 (l.length:Int)])
  (hp:P.underlying pt=some (.pointer e)) (hc1:(P.cellsOf e==1)=true)
  (hch:D7 ops E o.guard=some ch) (hd:G1 n ch o.dst=true) (hsure:M5 E ch=true)
  (hj:H[j]? = some [(b,.cells cs e (0,0))]) (h0:l≠[]) (hlc:l.length≤cs.size) (hmax:l.length≤9223372036854775807) (hcell:∀ (k:Nat) x,l[k]? = some x→cs[k]? = some (.int .u8 (x.toNat:Int)))
  (k:GL false P ops (i+1) Q n (Env.put E o.dst ch (.string ⟨l.toArray⟩)) W0 (H.set j [(b,.cells cs e (0,l.length))])):GL false P ops i Q n E W0 H:=by
 refine GL_eff (R:=fun v H1=>v=.string ⟨l.toArray⟩∧H1=H.set j [(b,.cells cs e (0,l.length))]) ho hch hd hsure (fun r hr w hs=>?_) (by rintro v H1 ⟨rfl,rfl⟩; exact k)
 have hi:([(b,Obj.cells cs e (0,0))]:Grp)[0]? = some (b,.cells cs e (0,0)):=rfl
 have hblk:=hs.has _ (List.mem_flatten.2 ⟨_,List.mem_of_getElem? hj,List.mem_of_getElem? hi⟩)
 have hrun:=Go.Lib.run_unsafeString_row (P:=P) w pt it o.type e hp (by simpa using hc1) b cs.size (shape_of hblk) l h0 hlc hmax (fun k x hx=>by
  have:=hcell k x hx
  rw [O7,Nat.zero_add]
  exact T5 hblk this)
 refine ⟨_,_,_,⟨rfl,rfl⟩,hs.wr hj hi (freeze_wr hblk (by simpa using h0)),.inl ?_⟩
 unfold execOp
 simp only [hop,resolve,hce,hat,P0 hr hargs,Sem.run_bind,Sem.run_pure,Result.andThen_ok,invoke,Go.builtin,hrun]
def Bld (b:Nat) (p:Value):Prop:=p=.pointer none∨p=.pointer (some ⟨b,0,none⟩)
theorem bld0 {b:Nat}:Bld b (.pointer none):=.inl rfl
theorem bld1 {b:Nat}:Bld b (.pointer (some ⟨b,0,none⟩)):=.inr rfl
end Go.Sw
namespace Go.Proofs.YtcgmnagcgkhogaaGreatDoor
open Go.Sw Go.Sha
theorem bytes_len (t:ByteArray):(u8s t.data.toList).length=t.size:=by
 rw [show (u8s t.data.toList).length=_ from List.length_map _,Array.length_toList]; rfl
theorem own_text {v:Value} {g:Grp} {n m:Nat} {t s:ByteArray} (h:Go.Sw.Own 5 1 v g n (u8s t.data.toList++u8s s.data.toList)) (hn:n=m) (hm:m=(t++s).size):Go.Sw.Own 5 1 v g (t++s).size (u8s (t++s).data.toList):=by
 have e:u8s (t++s).data.toList=u8s t.data.toList++u8s s.data.toList:=by rw [ByteArray.data_append,Array.toList_append]; exact List.map_append
 rw [← hm,← hn,e]; exact h
def bldG (b:Nat) (p v:Value):Grp:=[(b,.cells #[p,v] 64 (0,0))]
def BOwn (v:Value) (g:Grp) (t:ByteArray):Prop:=Go.Sw.Own 5 1 v g t.size (u8s t.data.toList)
theorem cc0 (b:Nat) (v:Value) (W0:World) (H:List Grp):Tri Tryz.prog 81 #[pt b] W0 ([(b,.cells #[.pointer none,v] 64 (0,0))]::H) (fun r H'=>r=.tuple #[]∧H'=bldG b (.pointer (some ⟨b,0,none⟩)) v::H):=by
 refine D5 20 Tryz.func81 ?_
 refine A1 (A2 (A3 (j:=3) [0,0,0] (k:=C1 0 0 rfl rfl (C0 (E':=[⟨0,[],pt b⟩,⟨6,[],.bool true⟩]) [0] [0,6] (k:=A0 (B9 kr (A2 (A3 (j:=2) [0,0] (k:=?_)))))))))
 refine GL_toUnsafe (i:=2) (ch:=[]) (inf:=Tryz.t64) (t:=64) (e:=64) (b:=b) rfl rfl kr kr kr kr kr kr kr kr (At.grp 0 0 rfl rfl) rfl (R3 (ch:=[]) (f:=100) (vs:=[pt b]) (v:=pt b) (e:=Extern.AbiNoEscape.same) (hf:=Tryz.func100) (hrun:=(fun w=>Go.Lib.run_noEscape w _)) (k:=GL_fromUnsafe (i:=4) (ch:=[]) (inf:=Tryz.t64) (u:=64) (e:=64) (b:=b) rfl rfl kr kr kr kr kr kr kr (At.grp 0 0 rfl rfl) kr (A3 (j:=7) [0,0] (k:=C9 0 0 (pt b) rfl (C0 (E':=[]) [] [] (k:=B7 [] [] (k:=?_)))))))
 exact ⟨rfl,rfl⟩
theorem cc1 (b:Nat) (v:Value) (W0:World) (H:List Grp):Tri Tryz.prog 81 #[pt b] W0 ([(b,.cells #[pt b,v] 64 (0,0))]::H) (fun r H'=>r=.tuple #[]∧H'=bldG b (.pointer (some ⟨b,0,none⟩)) v::H):=by
 refine D5 20 Tryz.func81 ?_
 refine A1 (A2 (A3 (j:=3) [0,0,0] (k:=C1 0 0 rfl rfl (C0 (E':=[⟨0,[],pt b⟩,⟨6,[],.bool false⟩]) [0] [0,6] (k:=A0 (C5 kr (A1 (A2 ?_))))))))
 refine A3 (j:=3) [0,0,0] (k:=C1 0 0 rfl rfl (A3 (j:=5) [0] (k:=GL_neqPtr (i:=5) (ch:=[]) (inf:=Tryz.t64) (te:=64) (a:=⟨b,0,none⟩) rfl rfl kr kr kr kr kr kr kr (C0 (E':=[⟨19,[],.bool false⟩]) [] [19] (k:=A0 (C5 kr (A7 (B7 [] [] (k:=?_)))))))))
 exact ⟨rfl,rfl⟩
theorem copyCheck_ (b:Nat) (p v:Value) (hp:Bld b p) (W0:World) (H:List Grp):Tri Tryz.prog 81 #[pt b] W0 (bldG b p v::H) (fun r H'=>r=.tuple #[]∧H'=bldG b (.pointer (some ⟨b,0,none⟩)) v::H):=by
 rcases hp with rfl | rfl
 exact cc0 b v W0 H
 exact cc1 b v W0 H
theorem writeString_ (b:Nat) (p v:Value) (g:Grp) (t s:ByteArray) (hp:Bld b p) (hv:BOwn v g t) (hs:t.size+s.size≤140737488355328) (W0:World) (H:List Grp):Tri Tryz.prog 53 #[pt b,.string s] W0 ([(b,.cells #[p,v] 64 (0,0))]::g::H) (fun r H'=>r=.tuple #[.int .i64 (s.size:Int),.nilIface]∧∃ v' g',BOwn v' g' (t++s)∧H'=bldG b (.pointer (some ⟨b,0,none⟩)) v'::g'::H):=by
 refine D5 19 Tryz.func53 ?_
 refine A1 (C3 (E':=[⟨0,[],pt b⟩,⟨1,[],.string s⟩]) [0,0] [0,1] (k:=A0 (A1 (A2 (A3 (j:=1) [0] (k:=D9 Tryz.func81 (copyCheck_ b (p) (v) hp _ _) ?_))))))
 rintro r H' ⟨rfl,rfl⟩
 refine C0 (E':=[⟨0,[],pt b⟩,⟨1,[],.string s⟩]) [] [0,1] (k:=A0 (A1 (A2 (A3 (j:=4) [0,0,0,0] (k:=C1 0 1 rfl rfl (A3 (j:=6) [0] (k:=X4 (i:=6) (ch:=[]) (t:=22) (tx:=9) (e:=5) (inf:=Tryz.t5) (s:=v) (x:=.string s) (n:=t.size) (m:=s.size) (j:=1) (cs:=(u8s t.data.toList)) (news:=(u8s s.data.toList)) (g:=g) (S:=(inB W0)) rfl rfl rfl rfl kr kr kr rfl rfl (.inr ⟨kr,rfl⟩) (fun _=>⟨rfl,kr⟩) (fun ⟨_,_,_,h⟩=>by cases h) kr kr kr rfl hv (SrcOf.str s) at_inB (by rw [show (u8s s.data.toList).length=_ from List.length_map _,Array.length_toList]; exact (Nat.mul_one _).symm) u8_one (by omega) (by show (t.size+s.size) * 1≤140737488355328; omega) (fun v1 g2 hO3=>?_))))))))
 obtain ⟨a4,cap5,rfl,hcap6,hrd7⟩:=hO3.shape
 refine A3 (j:=9) [0,0] (k:=C9 0 1 (.slice a4 (t.size+s.size) cap5) rfl (C0 (E':=[⟨1,[],.string s⟩]) [] [1] (k:=A0 (A1 (G_p [0,0,0,0] [4,5] (k:=A0 (B4 (B7 [.tmp 4,.tmp 5] [.int .i64 (s.size:Int),.nilIface] (k:=?_)))))))))
 exact ⟨rfl,_,_,own_text hO3 rfl (by simp [ByteArray.size_append]),rfl⟩
theorem writeString (b:Nat) (p v:Value) (g:Grp) (t s:ByteArray) (hp:Bld b p) (hv:BOwn v g t) (hs:t.size+s.size≤140737488355328) (W0:World) (H:List Grp):Tri Tryz.prog 53 #[pt b,.string s] W0 (bldG b p v::g::H) (fun r H'=>r=.tuple #[.int .i64 (s.size:Int),.nilIface]∧∃ v' g',BOwn v' g' (t++s)∧H'=bldG b (.pointer (some ⟨b,0,none⟩)) v'::g'::H):=writeString_ b p v g t s hp hv hs W0 H
theorem bStr0 (b:Nat) (p:Value) (W0:World) (H:List Grp):Tri Tryz.prog 27 #[pt b] W0 ([(b,.cells #[p,.slice none 0 0] 64 (0,0))]::H) (fun v H'=>v=.string .empty∧H'=bldG b p (.slice none 0 0)::H):=by
 refine D5 14 Tryz.func27 ?_
 refine A1 (C3 (E':=[⟨0,[],pt b⟩]) [0] [0] (k:=A0 (A1 (H4 (k:=A3 (j:=3) [0,0,0] (k:=C1 0 1 rfl rfl (GL_sliceData (ch:=[]) (a:=none) (l:=0) (cap:=0) (hc:=.inl rfl) (k:=A3 (j:=8) [0,0,0] (k:=?_)))))))))
 refine C1 0 1 rfl rfl (A3 (j:=10) [0] (k:=A0i (ch:=[]) (p:=none) (pt:=100) (it:=3) (k:=C0 (E':=[⟨2,[],.string .empty⟩]) [0] [2] (k:=A0 (B4 (B7 [.tmp 2] [.string .empty] (k:=?_)))))))
 exact ⟨rfl,rfl⟩
theorem bStr1 (b:Nat) (p:Value) (a:Nat) (cs:Array Value) (W0:World) (H:List Grp):Tri Tryz.prog 27 #[pt b] W0 ([(b,.cells #[p,.slice (some ⟨a,0,none⟩) 0 0] 64 (0,0))]::[(a,.cells cs 5 (0,0))]::H) (fun v H'=>v=.string .empty∧∃ x,H'=x::bldG b p (.slice (some ⟨a,0,none⟩) 0 0)::[(a,.cells cs 5 (0,0))]::H):=by
 refine D5 14 Tryz.func27 ?_
 refine A1 (C3 (E':=[⟨0,[],pt b⟩]) [0] [0] (k:=A0 (A1 (H3 ([(b,.cells #[p,.slice (some ⟨a,0,none⟩) 0 0] 64 (0,0))]::[(a,.cells cs 5 (0,0))]::H) kr (G0 (fuel:=11) [(0,0)] (fun w h=>h) (k:=J3 (ad:=⟨b,0,none⟩) 1 (hL:=(fun w h=>h)) (k:=G0 (fuel:=9) [(2,0)] (fun w h=>h) (k:=F6 3 kr (fun w h=>h) (C1 0 1 rfl rfl (G5 kr rfl)) ?_))))))))
 refine G0 (fuel:=7) [(5,0)] (fun w h=>h) (k:=J3 (ad:=⟨b,0,none⟩) 6 (hL:=(fun w h=>h)) (k:=G0 (fuel:=5) [(7,0)] (fun w h=>h) (k:=F6 8 kr (fun w h=>h) (C1 0 1 rfl rfl (G5 kr rfl)) (Q0 (v:=.int .i64 0) 9 (hL:=(fun w h=>h)) (k:=C6 4 (k:=GL_sliceData0 (i:=4) (ch:=[]) (b:=a) (l:=0) (e:=5) rfl rfl rfl kr kr kr kr kr (At.grp 1 0 rfl rfl) (fun b1=>A9 kr (fun w h=>(h.pk 1 [1,1])) (M2 ([(b1,.view ⟨a,0,none⟩ 5)]::[(b,.cells #[p,.slice (some ⟨a,0,none⟩) 0 0] 64 (0,0))]::[(a,.cells cs 5 (0,0))]::H) (fun w h=>(h.pk 1 [1,1])) ?_))))))))
 refine C6 10 (k:=A0i (ch:=[]) (p:=some ⟨b1,0,none⟩) (pt:=100) (it:=3) (k:=A9 kr (fun w h=>h) (G0 (fuel:=0) [(11,0)] (fun w h=>h) (k:=D8 (E':=[⟨2,[],.string .empty⟩]) [2] (k:=A0 (B4 (B7 [.tmp 2] [.string .empty] (k:=?_))))))))
 exact ⟨rfl,_,rfl⟩
theorem bStr2 (b:Nat) (p:Value) (a:Nat) (cs:Array Value) (c:Nat) (hc:c≠0) (W0:World) (H:List Grp):Tri Tryz.prog 27 #[pt b] W0 ([(b,.cells #[p,.slice (some ⟨a,0,none⟩) 0 c] 64 (0,0))]::[(a,.cells cs 5 (0,0))]::H) (fun v H'=>v=.string .empty∧H'=bldG b p (.slice (some ⟨a,0,none⟩) 0 c)::[(a,.cells cs 5 (0,0))]::H):=by
 refine D5 14 Tryz.func27 ?_
 refine A1 (C3 (E':=[⟨0,[],pt b⟩]) [0] [0] (k:=A0 (A1 (H4 (k:=A3 (j:=3) [0,0,0] (k:=C1 0 1 rfl rfl (GL_sliceData (ch:=[]) (a:=(some ⟨a,0,none⟩)) (l:=0) (cap:=c) (hc:=.inr hc) (k:=A3 (j:=8) [0,0,0] (k:=?_)))))))))
 refine C1 0 1 rfl rfl (A3 (j:=10) [0] (k:=A0i (ch:=[]) (p:=some ⟨a,0,none⟩) (pt:=100) (it:=3) (k:=C0 (E':=[⟨2,[],.string .empty⟩]) [0] [2] (k:=A0 (B4 (B7 [.tmp 2] [.string .empty] (k:=?_)))))))
 exact ⟨rfl,rfl⟩
theorem bStr3 (b:Nat) (p:Value) (a:Nat) (cs:Array Value) (c:Nat) (l:List UInt8) (hc:c≠0) (h0:l≠[]) (hlc:l.length≤cs.size) (hmax:l.length≤9223372036854775807) (hcell:∀ (k:Nat) x,l[k]? = some x→cs[k]? = some (.int .u8 (x.toNat:Int))) (W0:World) (H:List Grp):Tri Tryz.prog 27 #[pt b] W0 ([(b,.cells #[p,.slice (some ⟨a,0,none⟩) l.length c] 64 (0,0))]::[(a,.cells cs 5 (0,0))]::H) (fun v H'=>v=.string ⟨l.toArray⟩∧H'=bldG b p (.slice (some ⟨a,0,none⟩) l.length c)::[(a,.cells cs 5 (0,l.length))]::H):=by
 refine D5 14 Tryz.func27 ?_
 refine A1 (C3 (E':=[⟨0,[],pt b⟩]) [0] [0] (k:=A0 (A1 (H3 ([(b,.cells #[p,.slice (some ⟨a,0,none⟩) l.length c] 64 (0,0))]::H) kr (G0 (fuel:=11) [(0,0)] (fun w h=>(h.pk 1 [0])) (k:=J3 (ad:=⟨b,0,none⟩) 1 (hL:=(fun w h=>(h.pk 1 [0]))) (k:=G0 (fuel:=9) [(2,0)] (fun w h=>(h.pk 1 [0])) (k:=F6 3 kr (fun w h=>(h.pk 1 [0])) (C1 0 1 rfl rfl (G5 kr rfl)) ?_))))))))
 refine G0 (fuel:=7) [(5,0)] (fun w h=>(h.pk 1 [0])) (k:=J3 (ad:=⟨b,0,none⟩) 6 (hL:=(fun w h=>(h.pk 1 [0]))) (k:=G0 (fuel:=5) [(7,0)] (fun w h=>(h.pk 1 [0])) (k:=F6 8 kr (fun w h=>(h.pk 1 [0])) (C1 0 1 rfl rfl (G5 kr rfl)) (Q0 (v:=.int .i64 ((l.length:Nat):Int)) 9 (hL:=(fun w h=>(h.pk 1 [0]))) (k:=C6 4 (k:=GL_sliceData (ch:=[]) (a:=(some ⟨a,0,none⟩)) (l:=l.length) (cap:=c) (hc:=.inr hc) (k:=A9 kr (fun w h=>(h.pk 1 [0])) (C6 10 (k:=?_)))))))))
 refine GL_unsafeStr (i:=10) (ch:=[]) (b:=a) (j:=1) (pt:=100) (it:=3) (e:=5) (cs:=cs) (l:=l) rfl rfl rfl rfl kr kr kr kr kr kr rfl h0 hlc hmax hcell (A9 kr (fun w h=>(h.pk 1 [0])) (G0 (fuel:=0) [(11,0)] (fun w h=>(h.pk 1 [0])) (k:=D8 (E':=[⟨2,[],.string ⟨l.toArray⟩⟩]) [2] (k:=A0 (B4 (B7 [.tmp 2] [.string ⟨l.toArray⟩] (k:=?_)))))))
 exact ⟨rfl,rfl⟩
theorem u8_at (t:ByteArray) (junk:List Value) (k:Nat) (x:UInt8) (h:t.data.toList[k]? = some x):((u8s t.data.toList++junk).toArray)[k]? = some (.int .u8 (x.toNat:Int)):=by
 obtain ⟨hk,hx⟩:=List.getElem?_eq_some_iff.1 h
 rw [List.getElem?_toArray,List.getElem?_append_left (by simpa [u8s] using hk)]
 simp [u8s,h]
theorem A0g (b:Nat) (p v:Value) (g:Grp) (t:ByteArray) (hv:BOwn v g t) (hs:t.size≤140737488355328) (W0:World) (H:List Grp):Tri Tryz.prog 27 #[pt b] W0 (bldG b p v::g::H) (fun r H'=>r=.string t∧H'=bldG b p v::H):=by
 obtain ⟨hl,⟨rfl,rfl,h0⟩ | ⟨a,cap,junk,rfl,rfl,hcap,hj⟩⟩:=hv
 have ht:t=.empty:=by cases t with | mk d=>(have:d=#[]:=Array.eq_empty_of_size_eq_zero h0); rw [this]; rfl
 subst ht
 exact Tri.heap (fun _ h=>h.erase 1) (bStr0 b p W0 H)
 by_cases h0:t.size=0
 have ht:t=.empty:=by cases t with | mk d=>(have:d=#[]:=Array.eq_empty_of_size_eq_zero h0); rw [this]; rfl
 by_cases hc:cap=0
 subst hc; subst ht
 exact Tri.post (bStr1 b p a _ W0 H) fun v H' ⟨h1,x,h2⟩=>⟨_,⟨h1,rfl⟩,fun w hw=>by rw [h2] at hw; exact (hw.erase 2).erase 0⟩
 subst ht
 exact Tri.post (bStr2 b p a _ cap hc W0 H) fun v H' ⟨h1,h2⟩=>⟨_,⟨h1,rfl⟩,fun w hw=>by rw [h2] at hw; exact hw.erase 1⟩
 have hcap0:cap≠0:=by omega
 have hlen:t.data.toList.length=t.size:=Array.length_toList
 have:=bStr3 b p a (u8s t.data.toList++junk).toArray cap t.data.toList hcap0 (fun h=>h0 (by rw [← hlen,h]; rfl)) (by rw [List.size_toArray,List.length_append,bytes_len,hlen]; omega) (by omega) (u8_at t junk) W0 H
 rw [hlen] at this
 exact Tri.post this fun v H' ⟨h1,h2⟩=>⟨_,⟨by rw [h1],rfl⟩,fun w hw=>by rw [h2] at hw; exact hw.erase 1⟩
end Go.Proofs.YtcgmnagcgkhogaaGreatDoor
namespace Go.Proofs.YtcgmnagcgkhogaaGreatDoor
open Go.Sw Go.Sha Go.Esc
theorem w8m (x:Int):IntKind.wrap .u8 x=x % 256:=by first | rfl | simp [IntKind.wrap,IntKind.bits,IntKind.signed]
theorem w32u {x:Int} (h0:0≤x) (h1:x<4294967296):IntKind.wrap .u32 x=x:=by
 rw [show IntKind.wrap .u32 x=x % 4294967296 from by first | rfl | simp [IntKind.wrap,IntKind.bits,IntKind.signed]]; omega
theorem or192 {y:Int} (h0:0≤y) (h1:y<32):IntKind.wrap .u8 ((BitVec.ofInt (IntKind.bits .u8) 192 ||| BitVec.ofInt (IntKind.bits .u8) y).toNat)=192+y:=by
 have h:∀ n:Fin 32,IntKind.wrap .u8 ((BitVec.ofInt (IntKind.bits .u8) 192 ||| BitVec.ofInt (IntKind.bits .u8) (n.val:Int)).toNat)=192+(n.val:Int):=by decide +kernel
 have:=h ⟨y.toNat,by omega⟩
 simpa [show ((y.toNat:Nat):Int)=y by omega] using this
theorem or224 {y:Int} (h0:0≤y) (h1:y<16):IntKind.wrap .u8 ((BitVec.ofInt (IntKind.bits .u8) 224 ||| BitVec.ofInt (IntKind.bits .u8) y).toNat)=224+y:=by
 have h:∀ n:Fin 16,IntKind.wrap .u8 ((BitVec.ofInt (IntKind.bits .u8) 224 ||| BitVec.ofInt (IntKind.bits .u8) (n.val:Int)).toNat)=224+(n.val:Int):=by decide +kernel
 have:=h ⟨y.toNat,by omega⟩
 simpa [show ((y.toNat:Nat):Int)=y by omega] using this
theorem or240 {y:Int} (h0:0≤y) (h1:y<8):IntKind.wrap .u8 ((BitVec.ofInt (IntKind.bits .u8) 240 ||| BitVec.ofInt (IntKind.bits .u8) y).toNat)=240+y:=by
 have h:∀ n:Fin 8,IntKind.wrap .u8 ((BitVec.ofInt (IntKind.bits .u8) 240 ||| BitVec.ofInt (IntKind.bits .u8) (n.val:Int)).toNat)=240+(n.val:Int):=by decide +kernel
 have:=h ⟨y.toNat,by omega⟩
 simpa [show ((y.toNat:Nat):Int)=y by omega] using this
theorem lo63 {y:Int} (h0:0≤y) (h1:y<256):IntKind.wrap .u8 ((BitVec.ofInt (IntKind.bits .u8) 128 ||| BitVec.ofInt (IntKind.bits .u8) (IntKind.wrap .u8 ((BitVec.ofInt (IntKind.bits .u8) y &&& BitVec.ofInt (IntKind.bits .u8) 63).toNat))).toNat)=128+y % 64:=by
 have h:∀ n:Fin 256,IntKind.wrap .u8 ((BitVec.ofInt (IntKind.bits .u8) 128 ||| BitVec.ofInt (IntKind.bits .u8) (IntKind.wrap .u8 ((BitVec.ofInt (IntKind.bits .u8) (n.val:Int) &&& BitVec.ofInt (IntKind.bits .u8) 63).toNat))).toNat)=128+(n.val:Int) % 64:=by decide +kernel
 have:=h ⟨y.toNat,by omega⟩
 simpa [show ((y.toNat:Nat):Int)=y by omega] using this
theorem hi2 {r:Int} (h0:128≤r) (h1:r≤2047):IntKind.wrap .u8 ((BitVec.ofInt (IntKind.bits .u8) 192 ||| BitVec.ofInt (IntKind.bits .u8) (IntKind.wrap .u8 (Int.fdiv r (2 ^ 6)))).toNat)=192+r / 64:=by
 rw [w8m (Int.fdiv r (2 ^ 6)),Int.fdiv_eq_ediv_of_nonneg _ (by decide),or192 (by omega) (by omega)]; omega
theorem hi3 {r:Int} (h0:2048≤r) (h1:r≤65535):IntKind.wrap .u8 ((BitVec.ofInt (IntKind.bits .u8) 224 ||| BitVec.ofInt (IntKind.bits .u8) (IntKind.wrap .u8 (Int.fdiv r (2 ^ 12)))).toNat)=224+r / 4096:=by
 rw [w8m (Int.fdiv r (2 ^ 12)),Int.fdiv_eq_ediv_of_nonneg _ (by decide),or224 (by omega) (by omega)]; omega
theorem hi4 {r:Int} (h0:65536≤r) (h1:r≤1114111):IntKind.wrap .u8 ((BitVec.ofInt (IntKind.bits .u8) 240 ||| BitVec.ofInt (IntKind.bits .u8) (IntKind.wrap .u8 (Int.fdiv r (2 ^ 18)))).toNat)=240+r / 262144:=by
 rw [w8m (Int.fdiv r (2 ^ 18)),Int.fdiv_eq_ediv_of_nonneg _ (by decide),or240 (by omega) (by omega)]; omega
theorem lo0 {r:Int} (_:0≤r):IntKind.wrap .u8 ((BitVec.ofInt (IntKind.bits .u8) 128 ||| BitVec.ofInt (IntKind.bits .u8) (IntKind.wrap .u8 ((BitVec.ofInt (IntKind.bits .u8) (IntKind.wrap .u8 r) &&& BitVec.ofInt (IntKind.bits .u8) 63).toNat))).toNat)=128+r % 64:=by
 rw [w8m r,lo63 (by omega) (by omega)]; omega
theorem lo6 {r:Int} (_:0≤r):IntKind.wrap .u8 ((BitVec.ofInt (IntKind.bits .u8) 128 ||| BitVec.ofInt (IntKind.bits .u8) (IntKind.wrap .u8 ((BitVec.ofInt (IntKind.bits .u8) (IntKind.wrap .u8 (Int.fdiv r (2 ^ 6))) &&& BitVec.ofInt (IntKind.bits .u8) 63).toNat))).toNat)=128+r / 64 % 64:=by
 rw [w8m (Int.fdiv r (2 ^ 6)),Int.fdiv_eq_ediv_of_nonneg _ (by decide),lo63 (by omega) (by omega)]; omega
theorem lo12 {r:Int} (_:0≤r):IntKind.wrap .u8 ((BitVec.ofInt (IntKind.bits .u8) 128 ||| BitVec.ofInt (IntKind.bits .u8) (IntKind.wrap .u8 ((BitVec.ofInt (IntKind.bits .u8) (IntKind.wrap .u8 (Int.fdiv r (2 ^ 12))) &&& BitVec.ofInt (IntKind.bits .u8) 63).toNat))).toNat)=128+r / 4096 % 64:=by
 rw [w8m (Int.fdiv r (2 ^ 12)),Int.fdiv_eq_ediv_of_nonneg _ (by decide),lo63 (by omega) (by omega)]; omega
def encB (r:Int):ByteArray:=⟨(Lib.encodeRune r).toArray⟩
theorem T1 (r:Int):(encB r).data.toList=Lib.encodeRune r:=by simp [encB]
theorem encB_size (r:Int):1≤(encB r).size∧(encB r).size≤4:=by
 have:=Lib.encodeRuneZ_length r
 have e:(encB r).size=(Lib.encodeRuneZ r).length:=by simp [encB,ByteArray.size,Lib.encodeRune]
 omega
theorem Z9 (r:Int):u8s (Lib.encodeRune r)=(Lib.encodeRuneZ r).map (Value.int .u8):=by
 unfold u8s Lib.encodeRune
 rw [List.map_map]
 refine List.map_congr_left fun x hx=>?_
 have:=Lib.encodeRuneZ_byte r x hx
 show Value.int .u8 ((x.toNat.toUInt8.toNat:Nat):Int)=_
 rw [byteZ x this.1 this.2]; congr 1; omega
theorem own_put {v:Value} {g:Grp} {n m:Nat} {t s:ByteArray} {cs:List Value} (h:Go.Sw.Own 5 1 v g (n+m) (u8s t.data.toList++cs)) (hn:n=t.size) (hc:cs=u8s s.data.toList) (hm:m=s.size):BOwn v g (t++s):=by
 subst hc; subst hn; subst hm
 exact own_text h rfl (by simp)
theorem appNon_ (v:Value) (g:Grp) (t:ByteArray) (r:Int) (hv:BOwn v g t) (hr:isR r) (hna:128≤r) (hs:t.size+4≤140737488355328) (W0:World) (H:List Grp):Tri Tryz.prog 101 #[v,.int .i32 r] W0 (g::H) (fun x H'=>∃ v' g',x=v'∧BOwn v' g' (t++encB r)∧H'=g'::H):=by
 obtain ⟨hr0,hr1,hr2⟩:=hr
 refine D5 78 Tryz.func101 ?_
 refine A1 (C3 (E':=[⟨0,[],v⟩,⟨1,[],.int .i32 r⟩]) [0] [0,1] (k:=A0 (A1 ?_)))
 have hw1:IntKind.wrap .u32 r=r:=w32u (by omega) (by omega)
 refine A2 (A3 (j:=3) [0,0,0] (k:=E3 5 (x:=.int .u32 (IntKind.wrap .u32 r)) (y:=.int .u32 r) (by simp only [hw1]) (A5 [] [0,1,5] (k:=A0 (B3 (A1 (G_p [0,0,0] [0,1,5,11] (k:=A0 ?_))))))))
 refine B1 (b:=decide (r≤2047)) kr (fun hc2=>?_) (fun hc2=>?_)
 simp only [decide_eq_true_eq] at hc2
 refine A1 (A2 (A3 (j:=5) [0,0,0,0,0] (k:=E3 18 (x:=.int .u8 (IntKind.wrap .u8 ((BitVec.ofInt (IntKind.bits .u8) 192 ||| BitVec.ofInt (IntKind.bits .u8) (IntKind.wrap .u8 (Int.fdiv r (2 ^ 6)))).toNat))) (y:=.int .u8 (192+r / 64)) (by rw [hi2 (by omega) (by omega)]) (A3 (j:=9) [0,0,0,0] (k:=E3 22 (x:=.int .u8 (IntKind.wrap .u8 ((BitVec.ofInt (IntKind.bits .u8) 128 ||| BitVec.ofInt (IntKind.bits .u8) (IntKind.wrap .u8 ((BitVec.ofInt (IntKind.bits .u8) (IntKind.wrap .u8 r) &&& BitVec.ofInt (IntKind.bits .u8) 63).toNat))).toNat))) (y:=.int .u8 (128+r % 64)) (by rw [lo0 (by omega)]) (G8 5 2 [.int .u8 (192+r / 64),.int .u8 (128+r % 64)] (fun b3=>L8 (inf:=Tryz.t5) 2 0 1 rfl rfl hv (by omega) (by show (t.size+2) * 1≤140737488355328; omega) (fun v4 g5 hO6=>?_))))))))
 obtain ⟨a7,cap8,rfl,hcap9,hrd10⟩:=hO6.shape
 refine C0 (E':=[⟨4,[],.slice a7 (t.size+2) cap8⟩]) [0] [4] (k:=A0 (B4 (B0 (F8 1 [1] (B7 [.tmp 4] [.slice a7 (t.size+2) cap8] (k:=?_))))))
 exact ⟨_,_,rfl,own_put hO6 rfl (by rw [T1,Z9,Lib.encodeRuneZ_two (r:=r) (by omega) (by omega)]; rfl) (by simp [encB,ByteArray.size,Lib.encodeRune,Lib.encodeRuneZ_two (r:=r) (by omega) (by omega)]),rfl⟩
 simp only [decide_eq_false_iff_not] at hc2
 refine A1 (A1 (G_p [0,0,0] [0,1,5,25] (k:=A0 (B1 (b:=decide (r<55296)) kr (fun hc11=>?_) (fun hc11=>?_)))))
 simp only [decide_eq_true_eq] at hc11
 refine A7 (A0 (B1 (b:=decide (r<55296)) kr (fun hc12=>?_) (fun hc12=>?_)))
 simp only [decide_eq_true_eq] at hc12
 refine A1 (A2 (A3 (j:=5) [0,0,0,0,0] (k:=E3 38 (x:=.int .u8 (IntKind.wrap .u8 ((BitVec.ofInt (IntKind.bits .u8) 224 ||| BitVec.ofInt (IntKind.bits .u8) (IntKind.wrap .u8 (Int.fdiv r (2 ^ 12)))).toNat))) (y:=.int .u8 (224+r / 4096)) (by rw [hi3 (by omega) (by omega)]) (A3 (j:=10) [0,0,0,0,0] (k:=E3 43 (x:=.int .u8 (IntKind.wrap .u8 ((BitVec.ofInt (IntKind.bits .u8) 128 ||| BitVec.ofInt (IntKind.bits .u8) (IntKind.wrap .u8 ((BitVec.ofInt (IntKind.bits .u8) (IntKind.wrap .u8 (Int.fdiv r (2 ^ 6))) &&& BitVec.ofInt (IntKind.bits .u8) 63).toNat))).toNat))) (y:=.int .u8 (128+r / 64 % 64)) (by rw [lo6 (by omega)]) (A3 (j:=14) [0,0,0,0] (k:=E3 47 (x:=.int .u8 (IntKind.wrap .u8 ((BitVec.ofInt (IntKind.bits .u8) 128 ||| BitVec.ofInt (IntKind.bits .u8) (IntKind.wrap .u8 ((BitVec.ofInt (IntKind.bits .u8) (IntKind.wrap .u8 r) &&& BitVec.ofInt (IntKind.bits .u8) 63).toNat))).toNat))) (y:=.int .u8 (128+r % 64)) (by rw [lo0 (by omega)]) (G8 5 3 [.int .u8 (224+r / 4096),.int .u8 (128+r / 64 % 64),.int .u8 (128+r % 64)] (fun b13=>?_)))))))))
 refine L8 (inf:=Tryz.t5) 3 0 1 rfl rfl hv (by omega) (by show (t.size+3) * 1≤140737488355328; omega) (fun v14 g15 hO16=>?_)
 obtain ⟨a17,cap18,rfl,hcap19,hrd20⟩:=hO16.shape
 refine C0 (E':=[⟨4,[],.slice a17 (t.size+3) cap18⟩]) [0] [4] (k:=A0 (B4 (B0 (F8 1 [1] (B7 [.tmp 4] [.slice a17 (t.size+3) cap18] (k:=?_))))))
 exact ⟨_,_,rfl,own_put hO16 rfl (by rw [T1,Z9,Lib.encodeRuneZ_three (r:=r) (by omega)]; rfl) (by simp [encB,ByteArray.size,Lib.encodeRune,Lib.encodeRuneZ_three (r:=r) (by omega)]),rfl⟩
 simp only [decide_eq_false_iff_not] at hc12; omega
 simp only [decide_eq_false_iff_not] at hc11
 refine G_p [0,0,0,0,0,6,0] [0,1,5,25] (k:=A0 (B1 (b:=(decide (57343<r))&&(decide (r≤65535))) kr (fun hc21=>?_) (fun hc21=>?_)))
 simp only [Bool.and_eq_true,decide_eq_true_eq] at hc21
 refine A1 (A2 (A3 (j:=5) [0,0,0,0,0] (k:=E3 38 (x:=.int .u8 (IntKind.wrap .u8 ((BitVec.ofInt (IntKind.bits .u8) 224 ||| BitVec.ofInt (IntKind.bits .u8) (IntKind.wrap .u8 (Int.fdiv r (2 ^ 12)))).toNat))) (y:=.int .u8 (224+r / 4096)) (by rw [hi3 (by omega) (by omega)]) (A3 (j:=10) [0,0,0,0,0] (k:=E3 43 (x:=.int .u8 (IntKind.wrap .u8 ((BitVec.ofInt (IntKind.bits .u8) 128 ||| BitVec.ofInt (IntKind.bits .u8) (IntKind.wrap .u8 ((BitVec.ofInt (IntKind.bits .u8) (IntKind.wrap .u8 (Int.fdiv r (2 ^ 6))) &&& BitVec.ofInt (IntKind.bits .u8) 63).toNat))).toNat))) (y:=.int .u8 (128+r / 64 % 64)) (by rw [lo6 (by omega)]) (A3 (j:=14) [0,0,0,0] (k:=E3 47 (x:=.int .u8 (IntKind.wrap .u8 ((BitVec.ofInt (IntKind.bits .u8) 128 ||| BitVec.ofInt (IntKind.bits .u8) (IntKind.wrap .u8 ((BitVec.ofInt (IntKind.bits .u8) (IntKind.wrap .u8 r) &&& BitVec.ofInt (IntKind.bits .u8) 63).toNat))).toNat))) (y:=.int .u8 (128+r % 64)) (by rw [lo0 (by omega)]) (G8 5 3 [.int .u8 (224+r / 4096),.int .u8 (128+r / 64 % 64),.int .u8 (128+r % 64)] (fun b22=>?_)))))))))
 refine L8 (inf:=Tryz.t5) 3 0 1 rfl rfl hv (by omega) (by show (t.size+3) * 1≤140737488355328; omega) (fun v23 g24 hO25=>?_)
 obtain ⟨a26,cap27,rfl,hcap28,hrd29⟩:=hO25.shape
 refine C0 (E':=[⟨4,[],.slice a26 (t.size+3) cap27⟩]) [0] [4] (k:=A0 (B4 (B0 (F8 1 [1] (B7 [.tmp 4] [.slice a26 (t.size+3) cap27] (k:=?_))))))
 exact ⟨_,_,rfl,own_put hO25 rfl (by rw [T1,Z9,Lib.encodeRuneZ_three (r:=r) (by omega)]; rfl) (by simp [encB,ByteArray.size,Lib.encodeRune,Lib.encodeRuneZ_three (r:=r) (by omega)]),rfl⟩
 simp only [Bool.and_eq_false_iff,decide_eq_false_iff_not] at hc21
 refine A1 (G_p [0,0,0,0,0,6,0] [0,1,50] (k:=A0 (B1 (b:=(decide (r > 65535))&&(decide (r≤1114111))) kr (fun hc30=>?_) (fun hc30=>?_))))
 simp only [Bool.and_eq_true,decide_eq_true_eq,gt_iff_lt] at hc30
 refine A1 (A2 (A3 (j:=5) [0,0,0,0,0] (k:=E3 61 (x:=.int .u8 (IntKind.wrap .u8 ((BitVec.ofInt (IntKind.bits .u8) 240 ||| BitVec.ofInt (IntKind.bits .u8) (IntKind.wrap .u8 (Int.fdiv r (2 ^ 18)))).toNat))) (y:=.int .u8 (240+r / 262144)) (by rw [hi4 (by omega) (by omega)]) (A3 (j:=10) [0,0,0,0,0] (k:=E3 66 (x:=.int .u8 (IntKind.wrap .u8 ((BitVec.ofInt (IntKind.bits .u8) 128 ||| BitVec.ofInt (IntKind.bits .u8) (IntKind.wrap .u8 ((BitVec.ofInt (IntKind.bits .u8) (IntKind.wrap .u8 (Int.fdiv r (2 ^ 12))) &&& BitVec.ofInt (IntKind.bits .u8) 63).toNat))).toNat))) (y:=.int .u8 (128+r / 4096 % 64)) (by rw [lo12 (by omega)]) (A3 (j:=15) [0,0,0,0,0] (k:=E3 71 (x:=.int .u8 (IntKind.wrap .u8 ((BitVec.ofInt (IntKind.bits .u8) 128 ||| BitVec.ofInt (IntKind.bits .u8) (IntKind.wrap .u8 ((BitVec.ofInt (IntKind.bits .u8) (IntKind.wrap .u8 (Int.fdiv r (2 ^ 6))) &&& BitVec.ofInt (IntKind.bits .u8) 63).toNat))).toNat))) (y:=.int .u8 (128+r / 64 % 64)) (by rw [lo6 (by omega)]) (A3 (j:=19) [0,0,0,0] (k:=?_)))))))))
 refine E3 75 (x:=.int .u8 (IntKind.wrap .u8 ((BitVec.ofInt (IntKind.bits .u8) 128 ||| BitVec.ofInt (IntKind.bits .u8) (IntKind.wrap .u8 ((BitVec.ofInt (IntKind.bits .u8) (IntKind.wrap .u8 r) &&& BitVec.ofInt (IntKind.bits .u8) 63).toNat))).toNat))) (y:=.int .u8 (128+r % 64)) (by rw [lo0 (by omega)]) (G8 5 4 [.int .u8 (240+r / 262144),.int .u8 (128+r / 4096 % 64),.int .u8 (128+r / 64 % 64),.int .u8 (128+r % 64)] (fun b31=>L8 (inf:=Tryz.t5) 4 0 1 rfl rfl hv (by omega) (by show (t.size+4) * 1≤140737488355328; omega) (fun v32 g33 hO34=>?_)))
 obtain ⟨a35,cap36,rfl,hcap37,hrd38⟩:=hO34.shape
 refine C0 (E':=[⟨4,[],.slice a35 (t.size+4) cap36⟩]) [0] [4] (k:=A0 (B4 (B0 (F8 1 [1] (B7 [.tmp 4] [.slice a35 (t.size+4) cap36] (k:=?_))))))
 exact ⟨_,_,rfl,own_put hO34 rfl (by rw [T1,Z9,Lib.encodeRuneZ_four (r:=r) (by omega) (by omega)]; rfl) (by simp [encB,ByteArray.size,Lib.encodeRune,Lib.encodeRuneZ_four (r:=r) (by omega) (by omega)]),rfl⟩
 simp only [Bool.and_eq_false_iff,decide_eq_false_iff_not,gt_iff_lt] at hc30; omega
theorem appRune_ (v:Value) (g:Grp) (t:ByteArray) (r:Int) (hv:BOwn v g t) (hr:isR r) (hs:t.size+4≤140737488355328) (W0:World) (H:List Grp):Tri Tryz.prog 82 #[v,.int .i32 r] W0 (g::H) (fun x H'=>∃ v' g',x=v'∧BOwn v' g' (t++encB r)∧H'=g'::H):=by
 obtain ⟨hr0,hr1,hr2⟩:=hr
 refine D5 16 Tryz.func82 ?_
 refine A1 (C3 (E':=[⟨0,[],v⟩,⟨1,[],.int .i32 r⟩]) [0] [0,1] (k:=A0 (A1 (A1 ?_))))
 have hw1:IntKind.wrap .u32 r=r:=w32u (by omega) (by omega)
 refine A2 (A3 (j:=3) [0,0,0] (k:=E3 7 (x:=.bool (decide ((IntKind.wrap .u32 r)≤127))) (y:=.bool (decide (r≤127))) (by simp only [hw1]) (A5 [] [0,1,7] (k:=A0 (B1 (b:=decide (r≤127)) kr (fun hc2=>?_) (fun hc2=>?_))))))
 simp only [decide_eq_true_eq] at hc2
 refine A1 ?_
 have hw3:IntKind.wrap .u8 r=r:=(by rw [w8m]; omega)
 refine A2 (A3 (j:=3) [0,0,0] (k:=E3 10 (x:=.int .u8 (IntKind.wrap .u8 r)) (y:=.int .u8 r) (by simp only [hw3]) (G8 5 1 [.int .u8 r] (fun b4=>L8 (inf:=Tryz.t5) 1 0 1 rfl rfl hv (by omega) (by show (t.size+1) * 1≤140737488355328; omega) (fun v5 g6 hO7=>?_)))))
 obtain ⟨a8,cap9,rfl,hcap10,hrd11⟩:=hO7.shape
 refine C0 (E':=[⟨4,[],.slice a8 (t.size+1) cap9⟩]) [0] [4] (k:=A0 (B4 (A4 (F8 1 [1] (B7 [.tmp 4] [.slice a8 (t.size+1) cap9] (k:=?_))))))
 exact ⟨_,_,rfl,own_put hO7 rfl (by rw [T1,Z9,Lib.encodeRuneZ_one (r:=r) (by omega) (by omega)]; rfl) (by simp [encB,ByteArray.size,Lib.encodeRune,Lib.encodeRuneZ_one (r:=r) (by omega) (by omega)]),rfl⟩
 simp only [decide_eq_false_iff_not] at hc2
 refine A7 (A0 (A1 (A2 (A3 (j:=2) [0,0] (k:=D9 Tryz.func101 (appNon_ v g t r hv ⟨hr0,hr1,hr2⟩ (by omega) (by omega) _ _) ?_)))))
 rintro v12 _ ⟨_,g13,rfl,hO14,rfl⟩
 refine C0 (E':=[⟨4,[],v12⟩]) [0] [4] (k:=A0 (B4 (B7 [.tmp 4] [v12] (k:=?_))))
 exact ⟨_,_,rfl,hO14,rfl⟩
theorem writeRune_ (b:Nat) (p:Value) (a:Option Addr) (cap:Nat) (g:Grp) (t:ByteArray) (r:Int) (hp:Bld b p) (hv:BOwn (.slice a t.size cap) g t) (hr:isR r) (hs:t.size+4≤140737488355328) (W0:World) (H:List Grp):Tri Tryz.prog 59 #[pt b,.int .i32 r] W0 ([(b,.cells #[p,.slice a t.size cap] 64 (0,0))]::g::H) (fun x H'=>∃ n,x=.tuple #[.int .i64 n,.nilIface]∧∃ v' g',BOwn v' g' (t++encB r)∧H'=bldG b (.pointer (some ⟨b,0,none⟩)) v'::g'::H):=by
 obtain ⟨hr0,hr1,hr2⟩:=hr
 refine D5 30 Tryz.func59 ?_
 refine A1 (C3 (E':=[⟨0,[],pt b⟩,⟨1,[],.int .i32 r⟩]) [0,0] [0,1] (k:=A0 (A1 (A2 (A3 (j:=1) [0] (k:=D9 Tryz.func81 (copyCheck_ b (p) (.slice a t.size cap) hp _ _) ?_))))))
 rintro r H' ⟨rfl,rfl⟩
 refine C0 (E':=[⟨0,[],pt b⟩,⟨1,[],.int .i32 r⟩]) [] [0,1] (k:=A0 (A1 (A2 (A3 (j:=3) [0,0,0] (k:=C1 0 1 rfl rfl (A5 [0,0] [0,1,6] (k:=A0 (A1 ?_))))))))
 refine A2 (A3 (j:=4) [0,0,0,0] (k:=C1 0 1 rfl rfl (A3 (j:=6) [0] (k:=M1 0 [1] (D9 Tryz.func82 (appRune_ (.slice a t.size cap) g t r hv ⟨hr0,hr1,hr2⟩ (by omega) _ _) ?_)))))
 rintro v1 _ ⟨_,g2,rfl,hO3,rfl⟩
 obtain ⟨a4,cap5,rfl,-,-⟩:=hO3.shape
 refine A3 (j:=9) [0,0] (k:=C9 1 1 (.slice a4 ((t++encB r).size) cap5) rfl (A5 [] [0,6] (k:=A0 (A1 (A2 (A3 (j:=3) [0,0,0] (k:=C1 1 1 rfl rfl (A5 [0,0,0,0,0] [4,5] (k:=?_)))))))))
 refine A0 (B4 (F8 0 [1,0] (B7 [.tmp 4,.tmp 5] [.int .i64 (IntKind.wrap .i64 ((((t++encB r).size:Nat):Int) - ((t.size:Nat):Int))),.nilIface] (k:=?_))))
 exact ⟨_,rfl,_,_,hO3,rfl⟩
theorem writeRune (b:Nat) (p v:Value) (g:Grp) (t:ByteArray) (r:Int) (hp:Bld b p) (hv:BOwn v g t) (hr:isR r) (hs:t.size+4≤140737488355328) (W0:World) (H:List Grp):Tri Tryz.prog 59 #[pt b,.int .i32 r] W0 (bldG b p v::g::H) (fun _ H'=>∃ v' g',BOwn v' g' (t++encB r)∧H'=bldG b (.pointer (some ⟨b,0,none⟩)) v'::g'::H):=by
 obtain ⟨a,cap,rfl,_,_⟩:=Go.Sw.Own.shape hv
 exact (writeRune_ b p a cap g t r hp hv hr hs W0 H).post fun v H' ⟨_,_,v',g',h1,h2⟩=>⟨H',⟨v',g',h1,h2⟩,fun _ h=>h⟩
theorem writeByte_ (b:Nat) (p v:Value) (g:Grp) (t:ByteArray) (c:UInt8) (hp:Bld b p) (hv:BOwn v g t) (hs:t.size+1≤140737488355328) (W0:World) (H:List Grp):Tri Tryz.prog 56 #[pt b,.int .u8 (c.toNat:Int)] W0 ([(b,.cells #[p,v] 64 (0,0))]::g::H) (fun x H'=>x=.nilIface∧∃ v' g',BOwn v' g' (t++⟨#[c]⟩)∧H'=bldG b (.pointer (some ⟨b,0,none⟩)) v'::g'::H):=by
 refine D5 17 Tryz.func56 ?_
 refine A1 (G_p [0] [0,1] (k:=A0 (A1 (A2 (A3 (j:=1) [0] (k:=D9 Tryz.func81 (copyCheck_ b (p) (v) hp _ _) ?_))))))
 rintro r H' ⟨rfl,rfl⟩
 refine A5 [] [0,1] (k:=A0 (A1 (A2 (A3 (j:=4) [0,0,0,0] (k:=C1 0 1 rfl rfl (A3 (j:=6) [0] (k:=G8 5 1 [.int .u8 (c.toNat:Int)] (fun b1=>L8 (inf:=Tryz.t5) 1 0 2 rfl rfl hv (by omega) (by show (t.size+1) * 1≤140737488355328; omega) (fun v2 g3 hO4=>?_)))))))))
 obtain ⟨a5,cap6,rfl,hcap7,hrd8⟩:=hO4.shape
 refine A3 (j:=10) [0,0] (k:=C9 1 1 (.slice a5 (t.size+1) cap6) rfl (C0 (E':=[]) [] [] (k:=A0 (A1 (C3 (E':=[⟨4,[],.nilIface⟩]) [0] [4] (k:=A0 (B4 (F8 1 [1,1] ?_))))))))
 refine B7 [.tmp 4] [.nilIface] (k:=?_)
 exact ⟨rfl,_,_,own_put (s:=⟨#[c]⟩) hO4 rfl rfl rfl,rfl⟩
end Go.Proofs.YtcgmnagcgkhogaaGreatDoor
namespace Go.Proofs.YtcgmnagcgkhogaaGreatDoor
open Go.Sw Go.Sha Go.Esc
theorem bown0:BOwn (.slice none 0 0) [] .empty:=by simpa [BOwn,u8s] using Go.Sw.Own.nil
theorem O5 (b:Nat) (p v:Value) (g:Grp) (t s:ByteArray) (hp:Bld b p) (hv:BOwn v g t) (hs:t.size+s.size≤140737488355328) (W0:World) (H:List Grp):Tri Tryz.prog 53 #[pt b,.string s] W0 (bldG b p v::g::H) (fun _ H'=>∃ v' g',BOwn v' g' (t++s)∧H'=bldG b (.pointer (some ⟨b,0,none⟩)) v'::g'::H) :=
 (writeString b p v g t s hp hv hs W0 H).post fun _ H' ⟨_,v',g',h1,h2⟩=>⟨H',⟨v',g',h1,h2⟩,fun _ h=>h⟩
theorem writeByteC (b:Nat) (p v:Value) (g:Grp) (t:ByteArray) (c:UInt8) (hp:Bld b p) (hv:BOwn v g t) (hs:t.size+1≤140737488355328) (W0:World) (H:List Grp):Tri Tryz.prog 56 #[pt b,.int .u8 (c.toNat:Int)] W0 (bldG b p v::g::H) (fun _ H'=>∃ v' g',BOwn v' g' (t++⟨#[c]⟩)∧H'=bldG b (.pointer (some ⟨b,0,none⟩)) v'::g'::H) :=
 (writeByte_ b p v g t c hp hv hs W0 H).post fun _ H' ⟨_,v',g',h1,h2⟩=>⟨H',⟨v',g',h1,h2⟩,fun _ h=>h⟩
theorem isR_dc (s:ByteArray) (q:Nat):isR (dcR s q):=by unfold dcR; rw [← Lib.decodeL_drop]; exact decodeL_isR _
theorem drop_ne {s:ByteArray} {q:Nat} (h:q<s.size):s.data.toList.drop q≠[]:=by
 intro h0; have:=congrArg List.length h0; rw [List.length_drop,Array.length_toList] at this
 have e:s.size=s.data.size:=rfl
 simp only [List.length_nil] at this; omega
theorem runes_at {s:ByteArray} {q:Nat} (h:q<s.size):K6 (s.data.toList.drop q)=dcR s q::K6 (s.data.toList.drop (q+dcW s q)):=by
 rw [Y8 _ (drop_ne h),List.drop_drop]; unfold dcR dcW; rw [Lib.decodeL_drop]
theorem dcW_le {s:ByteArray} {q:Nat} (h:q<s.size):q+dcW s q≤s.size:=by
 have:=Lib.decodeL_le _ (drop_ne h)
 rw [Lib.decodeL_drop,List.length_drop,Array.length_toList] at this
 have e:s.size=s.data.size:=rfl
 unfold dcW; omega
theorem runes_end {s:ByteArray} {q:Nat} (h:s.size≤q):K6 (s.data.toList.drop q)=[]:=by
 rw [List.drop_eq_nil_of_le (by rw [Array.length_toList]; exact h)]; rfl
theorem sz1 (b:UInt8):(⟨#[b]⟩:ByteArray).size=1:=rfl
theorem ba_eq {o:ByteArray} {l:List UInt8} (h:o.data.toList=l):o=⟨l.toArray⟩:=by subst h; rfl
theorem M7 (a b:ByteArray):(a++b).data.toList=a.data.toList++b.data.toList:=by rw [ByteArray.data_append,Array.toList_append]
theorem I8 (a b:ByteArray):(a++b).size=a.size+b.size:=by simp
theorem plainF_ (r:Int) (W0:World) (H:List Grp):Tri Tryz.prog 31 #[.int .i32 r] W0 H (fun v H'=>v=.bool (N6 r)∧H'=H):=by
 refine D5 25 Tryz.func31 ?_
 refine A1 (C3 (E':=[⟨0,[],.int .i32 r⟩]) [0] [0] (k:=A0 (A1 (G_p [0,0,0,0,0,6,0,0,0,6,0,0,0,5,0,0,0,5,0,0,0,5,0] [2] (k:=A0 (B4 (B7 [.tmp 2] [.bool ((((((decide (r ≥ 32))&&(r != 65534))&&(r != 65535))||(r==9))||(r==10))||(r==13))] (k:=?_))))))))
 refine ⟨congrArg Value.bool ?_,rfl⟩
 unfold N6; rfl
theorem keepPlain_ (s:ByteArray) (hs:s.size≤1000000000000) (W0:World) (H:List Grp):Tri Tryz.prog 30 #[.string s,.func (.func 31) #[] #[]] W0 H (fun v H'=>v=.string ⟨(I0 s.data.toList).toArray⟩∧H'=H):=by
 refine D5 19 Tryz.func30 ?_
 refine A1 (G_p [0] [0,1] (k:=A0 (A1 (A2 (J0 (.agg #[.pointer none,.slice none 0 0]) (fun b1=>GL_heap rfl (H':=([(b1,.cells #[.pointer none,.slice none 0 0] 64 (0,0))]::[]::H)) (fun w h=>h.flat (List.Perm.refl _)) (A5 [] [0,1,5] (k:=A0 ?_))))))))
 refine A1 (A1 (A2 (A3 (j:=1) [0] (k:=GL_rangeS (i:=1) (ch:=[]) (s:=s) rfl rfl kr kr kr kr kr (fun it2=>A5 [] [1,5,9] (k:=A0 (B3 (G_pkT 0 [1,1,0] ([(b1,.cells #[.pointer none,.slice none 0 0] 64 (0,0))]::[]::[(it2,.stringIter s 0)]::H) ?_))))))))
 refine I5 (EI:=(fun ξ:Value × Value × Grp × ByteArray × Nat=>[⟨1,[],.func (.func 31) #[] #[]⟩,⟨5,[],pt b1⟩,⟨9,[],pt it2⟩])) (HI:=(fun ξ:Value × Value × Grp × ByteArray × Nat=>([(b1,.cells #[ξ.1,ξ.2.1] 64 (0,0))]::ξ.2.2.1::[(it2,.stringIter s ξ.2.2.2.2)]::H))) (Φ:=(fun ξ:Value × Value × Grp × ByteArray × Nat=>(Bld b1 ξ.1)∧(BOwn ξ.2.1 ξ.2.2.1 ξ.2.2.2.1)∧(ξ.2.2.2.2≤s.size)∧(ξ.2.2.2.1.size≤4 * ξ.2.2.2.2)∧(ξ.2.2.2.1.data.toList++S6 ((K6 (s.data.toList.drop ξ.2.2.2.2)).filter N6)=I0 s.data.toList))) (μ:=(fun ξ:Value × Value × Grp × ByteArray × Nat=>s.size - ξ.2.2.2.2)) (s0:=(.pointer none,.slice none 0 0,[],.empty,0)) [1,5,9] kr rfl ⟨bld0,bown0,(by (try dsimp only); omega),(Nat.zero_le _),(by rfl)⟩ ?_
 rintro ⟨p,v,g,t,q⟩ ⟨hbp,hB,hq,ht,hT⟩
 dsimp only at hbp hB hq ht hT
 refine A1 (A2 (GL_nextS (i:=0) (ch:=[]) (it:=it2) (p:=q) (s:=s) (j:=2) rfl rfl kr kr kr kr rfl (fun hend3=>?_) (fun hmore4=>?_)))
 have hxe:=hend3
 refine A5 [0] [1,5,9,10,11] (k:=A0 (A1 (C5 kr (E7 (A6 (A6 (B6 (A0 ?_))))))))
 refine A1 (A2 (D9 Tryz.func27 (A0g b1 (p) (v) g t hB (by omega) _ _) ?_))
 rintro _ _ ⟨rfl,rfl⟩
 refine C0 (E':=[⟨4,[],.string t⟩]) [0] [4] (k:=A0 (B4 (F8 2 [] (B7 [.tmp 4] [.string t] (k:=?_)))))
 exact ⟨congrArg Value.string (ba_eq (by rw [← hT,runes_end (by omega),List.filter_nil,encL_nil,List.append_nil])),rfl⟩
 have hdc:=dc_rng s q
 have hxm:=hmore4
 refine A5 [0] [1,5,9,10,11] (k:=A0 (A1 (B9 kr (A7 (A0 (B3 (A1 (G_p [0,0] [1,5,7,9] (k:=?_)))))))))
 refine A0 (A1 (A2 (A3 (j:=2) [0,0] (k:=H5 Tryz.func31 (plainF_ (dcR s q) _ _) (A5 [] [1,5,7,9,15] (k:=A0 (B1 (b:=N6 (dcR s q)) kr (fun hc5=>?_) (fun hc5=>?_))))))))
 have hc:=hc5
 refine A2 (A3 (j:=1) [0] (k:=D9 (vs:=[pt b1,.int .i32 (dcR s q)]) Tryz.func59 (writeRune b1 (p) (v) g t (dcR s q) hbp hB (isR_dc _ _) (by omega) _ _) ?_))
 rintro _ _ ⟨v6,g7,hB8,rfl⟩
 refine A5 [] [1,5,9] (k:=B8 (D2 (s':=(pt b1,v6,g7,(t++encB (dcR s q)),q+dcW s q)) [1,5,9] kr rfl ⟨bld1,hB8,(dcW_le hxm),(by dsimp only; first | (have:=encB_size (dcR s q); rw [I8]; omega) | omega),(by dsimp only; rw [← hT,runes_at hxm,List.filter_cons]; first | (rw [if_pos hc,L3,M7,T1,List.append_assoc]) | (rw [if_neg (by rw [hc]; decide)]))⟩ (by (try dsimp only); omega)))
 have hc:=hc5
 refine A7 (B8 (D2 (s':=(p,v,g,t,q+dcW s q)) [1,5,9] kr rfl ⟨hbp,hB,(dcW_le hxm),(by dsimp only; first | (have:=encB_size (dcR s q); rw [I8]; omega) | omega),(by dsimp only; rw [← hT,runes_at hxm,List.filter_cons]; first | (rw [if_pos hc,L3,M7,T1,List.append_assoc]) | (rw [if_neg (by rw [hc]; decide)]))⟩ (by (try dsimp only); omega)))
theorem plain_ (s:ByteArray) (hs:s.size≤1000000000000) (W0:World) (H:List Grp):Tri Tryz.prog 14 #[.string s] W0 H (fun v H'=>v=.string (bk (I0 s.data.toList))∧H'=H):=by
 refine D5 5 Tryz.func14 ?_
 refine A1 (C3 (E':=[⟨0,[],.string s⟩]) [0] [0] (k:=A0 (A1 (A2 (A3 (j:=1) [0] (k:=H5 Tryz.func30 (keepPlain_ s (by omega) _ _) (A5 [0] [2] (k:=A0 ?_))))))))
 refine B4 (B7 [.tmp 2] [.string (bk (I0 s.data.toList))] (k:=?_))
 exact ⟨rfl,rfl⟩
end Go.Proofs.YtcgmnagcgkhogaaGreatDoor
namespace Go.Proofs.YtcgmnagcgkhogaaGreatDoor
open Go.Sw Go.Sha Go.Esc
theorem lowC:∀ n:Fin 256,(digC (n.val:Int)=if 48≤(n.val:Int)∧(n.val:Int)≤57 then (n.val:Int) - 48 else if 97≤IntKind.wrap .u8 ((BitVec.ofInt (IntKind.bits .u8) (n.val:Int) ||| BitVec.ofInt (IntKind.bits .u8) 32).toNat)∧IntKind.wrap .u8 ((BitVec.ofInt (IntKind.bits .u8) (n.val:Int) ||| BitVec.ofInt (IntKind.bits .u8) 32).toNat)≤102 then IntKind.wrap .u8 ((BitVec.ofInt (IntKind.bits .u8) (n.val:Int) ||| BitVec.ofInt (IntKind.bits .u8) 32).toNat) - 87 else -1)∧0≤IntKind.wrap .u8 ((BitVec.ofInt (IntKind.bits .u8) (n.val:Int) ||| BitVec.ofInt (IntKind.bits .u8) 32).toNat)∧IntKind.wrap .u8 ((BitVec.ofInt (IntKind.bits .u8) (n.val:Int) ||| BitVec.ofInt (IntKind.bits .u8) 32).toNat)<256:=by decide +kernel
def lowI (c:Int):Int:=IntKind.wrap .u8 ((BitVec.ofInt (IntKind.bits .u8) c ||| BitVec.ofInt (IntKind.bits .u8) 32).toNat)
theorem low_dig {c:Int} (h0:0≤c) (h1:c<256):(digC c=if 48≤c∧c≤57 then c - 48 else if 97≤lowI c∧lowI c≤102 then lowI c - 87 else -1)∧0≤lowI c∧lowI c<256:=by
 have:=lowC ⟨c.toNat,by omega⟩
 simp only [show ((c.toNat:Nat):Int)=c by omega] at this
 exact this
def dgI (c:Int):Int:=if 48≤c∧c≤57 then c - 48 else lowI c - 87
theorem dgI1 {c:Int} (h:48≤c∧c≤57):IntKind.wrap .u8 (c - 48)=dgI c:=by rw [w8m]; unfold dgI; rw [if_pos h]; omega
theorem dgI2 {c:Int} (h0:¬ (48≤c∧c≤57)) (h:97≤lowI c∧lowI c≤122):IntKind.wrap .u8 (IntKind.wrap .u8 (lowI c - 97)+10)=dgI c:=by rw [w8m,w8m]; unfold dgI; rw [if_neg h0]; omega
theorem dg_ok {c base:Int} (h:(48≤c∧c≤57)∨(97≤lowI c∧lowI c≤122)) (hc:0≤c∧c<256) (hb:10≤base∧base≤16):(dgI c<base→W9 c base=dgI c∧0≤dgI c)∧(base≤dgI c→W9 c base<0):=by
 have hl:=low_dig hc.1 hc.2
 have h1:=hl.1; have h2:=hl.2
 unfold dgI W9; rw [h1]
 refine ⟨fun h3=>?_,fun h3=>?_⟩ <;> (repeat' split) <;> (try split at h3) <;> omega
theorem dg_no {c base:Int} (h0:¬ (48≤c∧c≤57)) (h:¬ (97≤lowI c∧lowI c≤122)) (hc:0≤c∧c<256) (hb:10≤base):W9 c base<0:=by
 have hl:=low_dig hc.1 hc.2
 have h1:=hl.1
 unfold W9; rw [h1]; (repeat' split) <;> omega
theorem byte_rng (b:UInt8):0≤(b.toNat:Int)∧(b.toNat:Int)<256:=⟨Int.natCast_nonneg _,by have:=b.toNat_lt; omega⟩
theorem size0 {s:ByteArray} (h:(s.toList==eB.toList)=true):s.size=0:=by
 rw [beq_iff_eq,Lib.toList_data,Lib.toList_data] at h
 have:=congrArg List.length h
 rw [Array.length_toList] at this; exact this
theorem pow16 {k:Nat} (h:k≤7):(16:Int) ^ k≤268435456:=by
 have:(16:Nat) ^ k≤16 ^ 7:=Nat.pow_le_pow_right (by decide) h
 have e:((16 ^ k:Nat):Int)=(16:Int) ^ k:=by simp
 rw [← e]; omega
theorem w64u {x:Int} (h0:0≤x) (h1:x<18446744073709551616):IntKind.wrap .u64 x=x:=by
 rw [show IntKind.wrap .u64 x=x % 18446744073709551616 from by first | rfl | simp [IntKind.wrap,IntKind.bits,IntKind.signed]]; omega
theorem Z0 {base a n:Int} {l:List UInt8} {k:Nat} (hV:numV base a l=numV base n (l.drop k)) (hk:k<l.length) (h:W9 ((l.getD k 0).toNat:Int) base<0):numV base a l=none:=by
 rw [hV,M4 _ hk,W7,if_pos h]
theorem lower_ (c:Int) (W0:World) (H:List Grp):Tri Tryz.prog 153 #[.int .u8 c] W0 H (fun v H'=>v=.int .u8 (lowI c)∧H'=H):=by
 refine D5 5 Tryz.func153 ?_
 refine A1 (C3 (E':=[⟨0,[],.int .u8 c⟩]) [0] [0] (k:=A0 (A1 (G_p [0,0,0] [2] (k:=A0 (B4 (B7 [.tmp 2] [.int .u8 (IntKind.wrap .u8 ((BitVec.ofInt (IntKind.bits .u8) c ||| BitVec.ofInt (IntKind.bits .u8) 32).toNat))] (k:=?_))))))))
 exact ⟨rfl,rfl⟩
theorem inner10_ (s:ByteArray) (h0:0<s.size) (hs:s.size≤7) (W0:World) (H:List Grp):Tri Tryz.prog 142 #[.string s,.int .i64 10,.int .i64 32] W0 H (fun v H'=>((∃ n,numV 10 0 s.data.toList=some n∧0≤n∧n<16 ^ s.size∧v=.tuple #[.int .u64 n,.nilIface])∨(numV 10 0 s.data.toList=none∧v=.tuple #[.int .u64 0,.iface 214 (.int .i64 2)]))∧H'=H):=by
 have hlen:s.data.toList.length=s.size:=Array.length_toList
 refine D5 172 Tryz.func142 ?_
 refine A1 (G_p [0,0] [0,1,2] (k:=A0 (A1 (A1 (G_p [0,0] [0,1,2,19] (k:=A0 (B1 (b:=s.toList==eB.toList) kr (fun hc1=>?_) (fun hc1=>?_))))))))
 exact absurd (size0 hc1) (by omega)
 refine A7 (A0 (A1 (G_p [0,0,0] [0,1,2,8] (k:=A0 (A1 (G_p [0,0] [0,1,2,8,9] (k:=A0 (A1 ?_))))))))
 refine B3 (A1 (G_p [0,0,0,0,0,2,0] [0,1,2,8,9,25] (k:=A0 (B9 kr (A7 (B8 (A0 (A1 ?_))))))))
 refine A1 (G_p [0,0] [0,1,2,8,9,77] (k:=A0 (C5 kr (A1 (G_p [0,0,0,0,0,3] [0,1,2,8,9,83] (k:=A0 (C5 kr (A7 ?_))))))))
 refine A0 (A1 (G_p [0] [0,1,2,8,9] (k:=A0 (A1 (A1 (G_p [0] [0,1,2,8,9,85] (k:=A0 (B3 ?_))))))))
 refine A1 (G_p [0,0] [0,1,2,8,9,85,90] (k:=A0 (B9 kr (G_p [0] [0,1,2,8,9,10] (k:=B8 (A0 (A1 (G_p [0,0,0,0,0] [0,1,8,9,10,11] (k:=?_)))))))))
 refine A0 (A1 (G_p [0] [0,1,8,9,10,11,12] (k:=A0 (A1 (G_p [0] [0,1,8,9,10,11,12,13] (k:=A0 (A1 (A1 ?_))))))))
 refine A2 (A3 (j:=1) [0] (k:=O8 (ch:=[]) (src:=9) (dst:=22) (e:=5) (s:=s) (k:=(fun b2 cap3 g4 hcap5 hrd6=>?_))))
 refine C0 (E':=[⟨1,[],.int .i64 10⟩,⟨8,[],.bool false⟩,⟨9,[],.string s⟩,⟨10,[],.int .u64 1844674407370955162⟩,⟨11,[],.int .u64 4294967295⟩,⟨12,[],.bool false⟩,⟨13,[],.int .u64 0⟩,⟨99,[],.slice (some ⟨b2,0,none⟩) s.size cap3⟩,⟨100,[],.int .i64 ((s.size:Nat):Int)⟩,⟨101,[],.int .i64 0⟩]) [0,0] [1,8,9,10,11,12,13,99,100,101] (k:=A0 (B3 (I5 (EI:=(fun ξ:Nat × Int=>[⟨1,[],.int .i64 10⟩,⟨8,[],.bool false⟩,⟨9,[],.string s⟩,⟨10,[],.int .u64 1844674407370955162⟩,⟨11,[],.int .u64 4294967295⟩,⟨12,[],.bool false⟩,⟨13,[],.int .u64 ξ.2⟩,⟨99,[],.slice (some ⟨b2,0,none⟩) s.size cap3⟩,⟨100,[],.int .i64 ((s.size:Nat):Int)⟩,⟨101,[],.int .i64 (ξ.1:Int)⟩])) (HI:=(fun ξ:Nat × Int=>(g4::H))) (Φ:=(fun ξ:Nat × Int=>(ξ.1≤s.size)∧(0≤ξ.2)∧(ξ.2<16 ^ ξ.1)∧(numV 10 0 s.data.toList=numV 10 ξ.2 (s.data.toList.drop ξ.1)))) (μ:=(fun ξ:Nat × Int=>s.size - ξ.1)) (s0:=(0,0)) [1,8,9,10,11,12,13,99,100,101] kr rfl ⟨(by omega),(Int.le_refl _),(by decide),rfl⟩ ?_)))
 rintro ⟨k,n⟩ ⟨hk,hn0,hn1,hV⟩
 dsimp only at hk hn0 hn1 hV
 have hp:=pow16 (show k≤7 by omega)
 have hcr:=byte_rng (s.data.toList.getD k 0)
 refine A1 (G_p [0] [1,8,9,10,11,12,13,99,100,101,102] (k:=A0 (A1 (B1 (b:=decide ((k:Int)<((s.size:Nat):Int))) kr (fun hc7=>?_) (fun hc7=>?_)))))
 simp only [decide_eq_true_eq] at hc7
 refine A7 (A0 (A1 (B3 (A1 (A2 (E4 s.size (k:Int) 1 hrd6 (by exact ⟨by omega,by omega,by intro h; have:=congrArg List.length h; rw [show (Go.Sw.u8s s.data.toList).length=s.size from (List.length_map _).trans hlen] at this; simp only [List.length_nil] at this; omega⟩) (H7 ((Int.toNat (k:Int)) * 1) (.int .u8 ((s.data.toList.getD k 0).toNat:Int)) hrd6 (E0 0 rfl) (fun _=>(by rw [Nat.mul_one,Int.toNat_natCast]; exact Go.Sha.u8s_at (by rw [hlen]; omega))) (A5 [0] [1,8,9,10,11,12,13,15,99,100,101] (k:=?_)))))))))
 refine A0 (A1 (G_p [0] [1,8,9,10,11,12,13,15,99,100,101] (k:=A0 (A1 (B3 (A1 (G_p [0,0,0,0,6,0] [1,8,9,10,11,12,13,15,99,100,101,106] (k:=A0 ?_))))))))
 refine B1 (b:=(((s.data.toList.getD k 0).toNat:Int)==95)&&false) kr (fun hc8=>?_) (fun hc8=>?_)
 simp at hc8
 refine A1 (G_p [0,0,0,0,0,6,0] [1,8,9,10,11,12,13,15,99,100,101,112] (k:=A0 (B1 (b:=(decide (48≤((s.data.toList.getD k 0).toNat:Int)))&&(decide (((s.data.toList.getD k 0).toNat:Int)≤57))) kr (fun hc9=>?_) (fun hc9=>?_))))
 simp only [Bool.and_eq_true,decide_eq_true_eq] at hc9
 refine A2 (A3 (j:=2) [0,0] (k:=E3 120 (x:=.int .u8 (IntKind.wrap .u8 (((s.data.toList.getD k 0).toNat:Int) - 48))) (y:=.int .u8 (dgI ((s.data.toList.getD k 0).toNat:Int))) (by rw [dgI1 (c:=((s.data.toList.getD k 0).toNat:Int)) (by omega)]) (A5 [0] [1,8,9,10,11,12,13,16,99,100,101] (k:=B8 (A0 (A1 (A1 (G_p [0,0,0,0] [1,8,9,10,11,12,13,16,99,100,101,137] (k:=?_)))))))))
 refine A0 (B1 (b:=decide ((dgI ((s.data.toList.getD k 0).toNat:Int)) ≥ 10)) kr (fun hc10=>?_) (fun hc10=>?_))
 simp only [ge_iff_le,decide_eq_true_eq] at hc10
 have hdg:=(dg_ok (c:=((s.data.toList.getD k 0).toNat:Int)) (base:=10) (by omega) hcr (by omega)).2 (by omega)
 refine A1 (G_p [0,0,0] [6,7] (k:=A0 (B4 (A4 (B0 (A4 (A4 (B0 ?_))))))))
 refine A4 (F8 1 [] (B7 [.tmp 6,.tmp 7] [.int .u64 0,.iface 214 (.int .i64 2)] (k:=?_)))
 exact ⟨.inr ⟨Z0 hV (show k<s.data.toList.length by rw [hlen]; omega) hdg,rfl⟩,rfl⟩
 simp only [ge_iff_le,decide_eq_false_iff_not] at hc10
 have hdg:=(dg_ok (c:=((s.data.toList.getD k 0).toNat:Int)) (base:=10) (by omega) hcr (by omega)).1 (by omega)
 refine A7 (A0 (A1 (A1 (G_p [0,0,0] [1,8,9,10,11,12,13,16,99,100,101,141] (k:=A0 (B1 (b:=decide (n ≥ 1844674407370955162)) kr (fun hc11=>?_) (fun hc11=>?_)))))))
 simp only [ge_iff_le,decide_eq_true_eq] at hc11; omega
 simp only [ge_iff_le,decide_eq_false_iff_not] at hc11
 refine A7 (A0 (A1 (A2 (A3 (j:=4) [0,0,0,0] (k:=E3 147 (x:=.int .u64 (IntKind.wrap .u64 (n * 10))) (y:=.int .u64 (n * 10)) (by rw [w64u (x:=n * 10) (by omega) (by omega)]) (A5 [0] [1,8,9,10,11,12,13,16,99,100,101] (k:=A0 (A1 ?_))))))))
 have hw12:IntKind.wrap .u64 (dgI ((s.data.toList.getD k 0).toNat:Int))=(dgI ((s.data.toList.getD k 0).toNat:Int)):=w64u (by omega) (by omega)
 refine A2 (A3 (j:=4) [0,0,0,0] (k:=E3 151 (x:=.int .u64 (IntKind.wrap .u64 ((n * 10)+(IntKind.wrap .u64 (dgI ((s.data.toList.getD k 0).toNat:Int)))))) (y:=.int .u64 (IntKind.wrap .u64 ((n * 10)+(dgI ((s.data.toList.getD k 0).toNat:Int))))) (by simp only [hw12]) (E3 151 (x:=.int .u64 (IntKind.wrap .u64 ((n * 10)+(dgI ((s.data.toList.getD k 0).toNat:Int))))) (y:=.int .u64 (n * 10+dgI ((s.data.toList.getD k 0).toNat:Int))) (by rw [w64u (x:=n * 10+dgI ((s.data.toList.getD k 0).toNat:Int)) (by omega) (by omega)]) (A5 [0] [1,8,9,10,11,12,13,17,99,100,101] (k:=A0 (A1 (A1 (G_p [0,0,0,0,0,0,0,5] [1,8,9,10,11,12,17,99,100,101,159] (k:=?_)))))))))
 refine A0 (B1 (b:=(decide ((n * 10+dgI ((s.data.toList.getD k 0).toNat:Int))<(n * 10)))||(decide ((n * 10+dgI ((s.data.toList.getD k 0).toNat:Int)) > 4294967295))) kr (fun hc13=>?_) (fun hc13=>?_))
 simp only [gt_iff_lt,Bool.or_eq_true,decide_eq_true_eq] at hc13; omega
 simp only [gt_iff_lt,Bool.or_eq_false_iff,decide_eq_false_iff_not] at hc13
 refine A7 (A0 (G_p [0,0] [1,8,9,10,11,12,13,99,100,101] (k:=B8 (A0 (A2 (A3 (j:=1) [0] (k:=D1 163 ((k:Int)+1) (by omega) (by omega) kr (A5 [0] [1,8,9,10,11,12,13,99,100,101] (k:=?_)))))))))
 refine D2 (s':=(k+1,(n * 10+dgI ((s.data.toList.getD k 0).toNat:Int)))) [1,8,9,10,11,12,13,99,100,101] kr rfl ⟨(by dsimp only; omega),(by dsimp only; omega),(by dsimp only; rw [Int.pow_succ]; omega),(by dsimp only; rw [hV,M4 _ (show k<s.data.toList.length by rw [hlen]; omega),W7,hdg.1,if_neg (by omega),Int.mul_comm])⟩ (by dsimp only; omega)
 simp only [Bool.and_eq_false_iff,decide_eq_false_iff_not] at hc9
 refine A1 (A2 (A3 (j:=1) [0] (k:=H5 Tryz.func153 (lower_ ((s.data.toList.getD k 0).toNat:Int) _ _) (A3 (j:=5) [0,0,0] (k:=P9 [(125,true)] Tryz.func153 (fun hc=>lower_ ((s.data.toList.getD k 0).toNat:Int) _ _) (A5 [0,6,0] [1,8,9,10,11,12,13,15,99,100,101,121] (k:=A0 (B1 (b:=(decide (97≤(lowI ((s.data.toList.getD k 0).toNat:Int))))&&(decide ((lowI ((s.data.toList.getD k 0).toNat:Int))≤122))) kr (fun hc15=>?_) (fun hc15=>?_)))))))))
 simp only [Bool.and_eq_true,decide_eq_true_eq] at hc15
 refine A2 (A3 (j:=1) [0] (k:=H5 Tryz.func153 (lower_ ((s.data.toList.getD k 0).toNat:Int) _ _) (A3 (j:=4) [0,0] (k:=E3 133 (x:=.int .u8 (IntKind.wrap .u8 ((IntKind.wrap .u8 ((lowI ((s.data.toList.getD k 0).toNat:Int)) - 97))+10))) (y:=.int .u8 (dgI ((s.data.toList.getD k 0).toNat:Int))) (by rw [dgI2 (c:=((s.data.toList.getD k 0).toNat:Int)) (by omega) (by omega)]) (A5 [0] [1,8,9,10,11,12,13,16,99,100,101] (k:=B8 (A0 (A1 ?_))))))))
 refine A1 (G_p [0,0,0,0] [1,8,9,10,11,12,13,16,99,100,101,137] (k:=A0 (B1 (b:=decide ((dgI ((s.data.toList.getD k 0).toNat:Int)) ≥ 10)) kr (fun hc16=>?_) (fun hc16=>?_))))
 simp only [ge_iff_le,decide_eq_true_eq] at hc16
 have hdg:=(dg_ok (c:=((s.data.toList.getD k 0).toNat:Int)) (base:=10) (by omega) hcr (by omega)).2 (by omega)
 refine A1 (G_p [0,0,0] [6,7] (k:=A0 (B4 (A4 (B0 (A4 (A4 (B0 ?_))))))))
 refine A4 (F8 1 [] (B7 [.tmp 6,.tmp 7] [.int .u64 0,.iface 214 (.int .i64 2)] (k:=?_)))
 exact ⟨.inr ⟨Z0 hV (show k<s.data.toList.length by rw [hlen]; omega) hdg,rfl⟩,rfl⟩
 simp only [ge_iff_le,decide_eq_false_iff_not] at hc16
 have hdg:=(dg_ok (c:=((s.data.toList.getD k 0).toNat:Int)) (base:=10) (by omega) hcr (by omega)).1 (by omega)
 refine A7 (A0 (A1 (A1 (G_p [0,0,0] [1,8,9,10,11,12,13,16,99,100,101,141] (k:=A0 (B1 (b:=decide (n ≥ 1844674407370955162)) kr (fun hc17=>?_) (fun hc17=>?_)))))))
 simp only [ge_iff_le,decide_eq_true_eq] at hc17; omega
 simp only [ge_iff_le,decide_eq_false_iff_not] at hc17
 refine A7 (A0 (A1 (A2 (A3 (j:=4) [0,0,0,0] (k:=E3 147 (x:=.int .u64 (IntKind.wrap .u64 (n * 10))) (y:=.int .u64 (n * 10)) (by rw [w64u (x:=n * 10) (by omega) (by omega)]) (A5 [0] [1,8,9,10,11,12,13,16,99,100,101] (k:=A0 (A1 ?_))))))))
 have hw18:IntKind.wrap .u64 (dgI ((s.data.toList.getD k 0).toNat:Int))=(dgI ((s.data.toList.getD k 0).toNat:Int)):=w64u (by omega) (by omega)
 refine A2 (A3 (j:=4) [0,0,0,0] (k:=E3 151 (x:=.int .u64 (IntKind.wrap .u64 ((n * 10)+(IntKind.wrap .u64 (dgI ((s.data.toList.getD k 0).toNat:Int)))))) (y:=.int .u64 (IntKind.wrap .u64 ((n * 10)+(dgI ((s.data.toList.getD k 0).toNat:Int))))) (by simp only [hw18]) (E3 151 (x:=.int .u64 (IntKind.wrap .u64 ((n * 10)+(dgI ((s.data.toList.getD k 0).toNat:Int))))) (y:=.int .u64 (n * 10+dgI ((s.data.toList.getD k 0).toNat:Int))) (by rw [w64u (x:=n * 10+dgI ((s.data.toList.getD k 0).toNat:Int)) (by omega) (by omega)]) (A5 [0] [1,8,9,10,11,12,13,17,99,100,101] (k:=A0 (A1 (A1 (G_p [0,0,0,0,0,0,0,5] [1,8,9,10,11,12,17,99,100,101,159] (k:=?_)))))))))
 refine A0 (B1 (b:=(decide ((n * 10+dgI ((s.data.toList.getD k 0).toNat:Int))<(n * 10)))||(decide ((n * 10+dgI ((s.data.toList.getD k 0).toNat:Int)) > 4294967295))) kr (fun hc19=>?_) (fun hc19=>?_))
 simp only [gt_iff_lt,Bool.or_eq_true,decide_eq_true_eq] at hc19; omega
 simp only [gt_iff_lt,Bool.or_eq_false_iff,decide_eq_false_iff_not] at hc19
 refine A7 (A0 (G_p [0,0] [1,8,9,10,11,12,13,99,100,101] (k:=B8 (A0 (A2 (A3 (j:=1) [0] (k:=D1 163 ((k:Int)+1) (by omega) (by omega) kr (A5 [0] [1,8,9,10,11,12,13,99,100,101] (k:=?_)))))))))
 refine D2 (s':=(k+1,(n * 10+dgI ((s.data.toList.getD k 0).toNat:Int)))) [1,8,9,10,11,12,13,99,100,101] kr rfl ⟨(by dsimp only; omega),(by dsimp only; omega),(by dsimp only; rw [Int.pow_succ]; omega),(by dsimp only; rw [hV,M4 _ (show k<s.data.toList.length by rw [hlen]; omega),W7,hdg.1,if_neg (by omega),Int.mul_comm])⟩ (by dsimp only; omega)
 simp only [Bool.and_eq_false_iff,decide_eq_false_iff_not] at hc15
 refine A1 (G_p [0,0,0] [6,7] (k:=A0 (B4 (B0 (A4 (B0 (A4 (A4 ?_))))))))
 refine B0 (A4 (F8 1 [] (B7 [.tmp 6,.tmp 7] [.int .u64 0,.iface 214 (.int .i64 2)] (k:=?_))))
 exact ⟨.inr ⟨Z0 hV (show k<s.data.toList.length by rw [hlen]; omega) (dg_no (by omega) (by omega) hcr (by decide)),rfl⟩,rfl⟩
 simp only [decide_eq_false_iff_not] at hc7
 refine E7 (A6 (A6 (B6 (A0 (A1 (A1 (G_p [0,0,1,1,1,3] [13,169] (k:=A0 ?_))))))))
 refine C5 kr (A7 (A0 (A1 (G_p [0,0,0] [6,7] (k:=A0 (B4 (F8 1 [] (B7 [.tmp 6,.tmp 7] [.int .u64 n,.nilIface] (k:=?_)))))))))
 exact ⟨.inl ⟨n,by rw [hV,List.drop_eq_nil_of_le (by rw [hlen]; omega),numV_nil],hn0,by rw [show s.size=k by omega]; exact hn1,rfl⟩,rfl⟩
theorem inner16_ (s:ByteArray) (h0:0<s.size) (hs:s.size≤7) (W0:World) (H:List Grp):Tri Tryz.prog 142 #[.string s,.int .i64 16,.int .i64 32] W0 H (fun v H'=>((∃ n,numV 16 0 s.data.toList=some n∧0≤n∧n<16 ^ s.size∧v=.tuple #[.int .u64 n,.nilIface])∨(numV 16 0 s.data.toList=none∧v=.tuple #[.int .u64 0,.iface 214 (.int .i64 2)]))∧H'=H):=by
 have hlen:s.data.toList.length=s.size:=Array.length_toList
 refine D5 172 Tryz.func142 ?_
 refine A1 (G_p [0,0] [0,1,2] (k:=A0 (A1 (A1 (G_p [0,0] [0,1,2,19] (k:=A0 (B1 (b:=s.toList==eB.toList) kr (fun hc1=>?_) (fun hc1=>?_))))))))
 exact absurd (size0 hc1) (by omega)
 refine A7 (A0 (A1 (G_p [0,0,0] [0,1,2,8] (k:=A0 (A1 (G_p [0,0] [0,1,2,8,9] (k:=A0 (A1 ?_))))))))
 refine B3 (A1 (G_p [0,0,0,0,0,2,0] [0,1,2,8,9,25] (k:=A0 (B9 kr (A7 (B8 (A0 (A1 ?_))))))))
 refine A1 (G_p [0,0] [0,1,2,8,9,77] (k:=A0 (C5 kr (A1 (G_p [0,0,0,0,0,3] [0,1,2,8,9,83] (k:=A0 (C5 kr (A7 ?_))))))))
 refine A0 (A1 (G_p [0] [0,1,2,8,9] (k:=A0 (A1 (A1 (G_p [0] [0,1,2,8,9,85] (k:=A0 (B3 ?_))))))))
 refine A1 (G_p [0,0] [0,1,2,8,9,85,90] (k:=A0 (C5 kr (A1 (G_p [0,0] [0,1,2,8,9,92] (k:=A0 (B9 kr (G_p [0] [0,1,2,8,9,10] (k:=?_)))))))))
 refine B8 (A0 (A1 (G_p [0,0,0,0,0] [0,1,8,9,10,11] (k:=A0 (A1 (G_p [0] [0,1,8,9,10,11,12] (k:=A0 (A1 ?_))))))))
 refine C3 (E':=[⟨0,[],.string s⟩,⟨1,[],.int .i64 16⟩,⟨8,[],.bool false⟩,⟨9,[],.string s⟩,⟨10,[],.int .u64 1152921504606846976⟩,⟨11,[],.int .u64 4294967295⟩,⟨12,[],.bool false⟩,⟨13,[],.int .u64 0⟩]) [0] [0,1,8,9,10,11,12,13] (k:=A0 (A1 (A1 (A2 (A3 (j:=1) [0] (k:=O8 (ch:=[]) (src:=9) (dst:=22) (e:=5) (s:=s) (k:=(fun b2 cap3 g4 hcap5 hrd6=>?_))))))))
 refine A5 [0,0] [1,8,9,10,11,12,13,99,100,101] (k:=A0 (B3 (I5 (EI:=(fun ξ:Nat × Int=>[⟨1,[],.int .i64 16⟩,⟨8,[],.bool false⟩,⟨9,[],.string s⟩,⟨10,[],.int .u64 1152921504606846976⟩,⟨11,[],.int .u64 4294967295⟩,⟨12,[],.bool false⟩,⟨13,[],.int .u64 ξ.2⟩,⟨99,[],.slice (some ⟨b2,0,none⟩) s.size cap3⟩,⟨100,[],.int .i64 ((s.size:Nat):Int)⟩,⟨101,[],.int .i64 (ξ.1:Int)⟩])) (HI:=(fun ξ:Nat × Int=>(g4::H))) (Φ:=(fun ξ:Nat × Int=>(ξ.1≤s.size)∧(0≤ξ.2)∧(ξ.2<16 ^ ξ.1)∧(numV 16 0 s.data.toList=numV 16 ξ.2 (s.data.toList.drop ξ.1)))) (μ:=(fun ξ:Nat × Int=>s.size - ξ.1)) (s0:=(0,0)) [1,8,9,10,11,12,13,99,100,101] kr rfl ⟨(by omega),(Int.le_refl _),(by decide),rfl⟩ ?_)))
 rintro ⟨k,n⟩ ⟨hk,hn0,hn1,hV⟩
 dsimp only at hk hn0 hn1 hV
 have hp:=pow16 (show k≤7 by omega)
 have hcr:=byte_rng (s.data.toList.getD k 0)
 refine A1 (G_p [0] [1,8,9,10,11,12,13,99,100,101,102] (k:=A0 (A1 (B1 (b:=decide ((k:Int)<((s.size:Nat):Int))) kr (fun hc7=>?_) (fun hc7=>?_)))))
 simp only [decide_eq_true_eq] at hc7
 refine A7 (A0 (A1 (B3 (A1 (A2 (E4 s.size (k:Int) 1 hrd6 (by exact ⟨by omega,by omega,by intro h; have:=congrArg List.length h; rw [show (Go.Sw.u8s s.data.toList).length=s.size from (List.length_map _).trans hlen] at this; simp only [List.length_nil] at this; omega⟩) (H7 ((Int.toNat (k:Int)) * 1) (.int .u8 ((s.data.toList.getD k 0).toNat:Int)) hrd6 (E0 0 rfl) (fun _=>(by rw [Nat.mul_one,Int.toNat_natCast]; exact Go.Sha.u8s_at (by rw [hlen]; omega))) (A5 [0] [1,8,9,10,11,12,13,15,99,100,101] (k:=?_)))))))))
 refine A0 (A1 (G_p [0] [1,8,9,10,11,12,13,15,99,100,101] (k:=A0 (A1 (B3 (A1 (G_p [0,0,0,0,6,0] [1,8,9,10,11,12,13,15,99,100,101,106] (k:=A0 ?_))))))))
 refine B1 (b:=(((s.data.toList.getD k 0).toNat:Int)==95)&&false) kr (fun hc8=>?_) (fun hc8=>?_)
 simp at hc8
 refine A1 (G_p [0,0,0,0,0,6,0] [1,8,9,10,11,12,13,15,99,100,101,112] (k:=A0 (B1 (b:=(decide (48≤((s.data.toList.getD k 0).toNat:Int)))&&(decide (((s.data.toList.getD k 0).toNat:Int)≤57))) kr (fun hc9=>?_) (fun hc9=>?_))))
 simp only [Bool.and_eq_true,decide_eq_true_eq] at hc9
 refine A2 (A3 (j:=2) [0,0] (k:=E3 120 (x:=.int .u8 (IntKind.wrap .u8 (((s.data.toList.getD k 0).toNat:Int) - 48))) (y:=.int .u8 (dgI ((s.data.toList.getD k 0).toNat:Int))) (by rw [dgI1 (c:=((s.data.toList.getD k 0).toNat:Int)) (by omega)]) (A5 [0] [1,8,9,10,11,12,13,16,99,100,101] (k:=B8 (A0 (A1 (A1 (G_p [0,0,0,0] [1,8,9,10,11,12,13,16,99,100,101,137] (k:=?_)))))))))
 refine A0 (B1 (b:=decide ((dgI ((s.data.toList.getD k 0).toNat:Int)) ≥ 16)) kr (fun hc10=>?_) (fun hc10=>?_))
 simp only [ge_iff_le,decide_eq_true_eq] at hc10
 have hdg:=(dg_ok (c:=((s.data.toList.getD k 0).toNat:Int)) (base:=16) (by omega) hcr (by omega)).2 (by omega)
 refine A1 (G_p [0,0,0] [6,7] (k:=A0 (B4 (A4 (B0 (A4 (A4 (B0 ?_))))))))
 refine A4 (F8 1 [] (B7 [.tmp 6,.tmp 7] [.int .u64 0,.iface 214 (.int .i64 2)] (k:=?_)))
 exact ⟨.inr ⟨Z0 hV (show k<s.data.toList.length by rw [hlen]; omega) hdg,rfl⟩,rfl⟩
 simp only [ge_iff_le,decide_eq_false_iff_not] at hc10
 have hdg:=(dg_ok (c:=((s.data.toList.getD k 0).toNat:Int)) (base:=16) (by omega) hcr (by omega)).1 (by omega)
 refine A7 (A0 (A1 (A1 (G_p [0,0,0] [1,8,9,10,11,12,13,16,99,100,101,141] (k:=A0 (B1 (b:=decide (n ≥ 1152921504606846976)) kr (fun hc11=>?_) (fun hc11=>?_)))))))
 simp only [ge_iff_le,decide_eq_true_eq] at hc11; omega
 simp only [ge_iff_le,decide_eq_false_iff_not] at hc11
 refine A7 (A0 (A1 (A2 (A3 (j:=4) [0,0,0,0] (k:=E3 147 (x:=.int .u64 (IntKind.wrap .u64 (n * 16))) (y:=.int .u64 (n * 16)) (by rw [w64u (x:=n * 16) (by omega) (by omega)]) (A5 [0] [1,8,9,10,11,12,13,16,99,100,101] (k:=A0 (A1 ?_))))))))
 have hw12:IntKind.wrap .u64 (dgI ((s.data.toList.getD k 0).toNat:Int))=(dgI ((s.data.toList.getD k 0).toNat:Int)):=w64u (by omega) (by omega)
 refine A2 (A3 (j:=4) [0,0,0,0] (k:=E3 151 (x:=.int .u64 (IntKind.wrap .u64 ((n * 16)+(IntKind.wrap .u64 (dgI ((s.data.toList.getD k 0).toNat:Int)))))) (y:=.int .u64 (IntKind.wrap .u64 ((n * 16)+(dgI ((s.data.toList.getD k 0).toNat:Int))))) (by simp only [hw12]) (E3 151 (x:=.int .u64 (IntKind.wrap .u64 ((n * 16)+(dgI ((s.data.toList.getD k 0).toNat:Int))))) (y:=.int .u64 (n * 16+dgI ((s.data.toList.getD k 0).toNat:Int))) (by rw [w64u (x:=n * 16+dgI ((s.data.toList.getD k 0).toNat:Int)) (by omega) (by omega)]) (A5 [0] [1,8,9,10,11,12,13,17,99,100,101] (k:=A0 (A1 (A1 (G_p [0,0,0,0,0,0,0,5] [1,8,9,10,11,12,17,99,100,101,159] (k:=?_)))))))))
 refine A0 (B1 (b:=(decide ((n * 16+dgI ((s.data.toList.getD k 0).toNat:Int))<(n * 16)))||(decide ((n * 16+dgI ((s.data.toList.getD k 0).toNat:Int)) > 4294967295))) kr (fun hc13=>?_) (fun hc13=>?_))
 simp only [gt_iff_lt,Bool.or_eq_true,decide_eq_true_eq] at hc13; omega
 simp only [gt_iff_lt,Bool.or_eq_false_iff,decide_eq_false_iff_not] at hc13
 refine A7 (A0 (G_p [0,0] [1,8,9,10,11,12,13,99,100,101] (k:=B8 (A0 (A2 (A3 (j:=1) [0] (k:=D1 163 ((k:Int)+1) (by omega) (by omega) kr (A5 [0] [1,8,9,10,11,12,13,99,100,101] (k:=?_)))))))))
 refine D2 (s':=(k+1,(n * 16+dgI ((s.data.toList.getD k 0).toNat:Int)))) [1,8,9,10,11,12,13,99,100,101] kr rfl ⟨(by dsimp only; omega),(by dsimp only; omega),(by dsimp only; rw [Int.pow_succ]; omega),(by dsimp only; rw [hV,M4 _ (show k<s.data.toList.length by rw [hlen]; omega),W7,hdg.1,if_neg (by omega),Int.mul_comm])⟩ (by dsimp only; omega)
 simp only [Bool.and_eq_false_iff,decide_eq_false_iff_not] at hc9
 refine A1 (A2 (A3 (j:=1) [0] (k:=H5 Tryz.func153 (lower_ ((s.data.toList.getD k 0).toNat:Int) _ _) (A3 (j:=5) [0,0,0] (k:=P9 [(125,true)] Tryz.func153 (fun hc=>lower_ ((s.data.toList.getD k 0).toNat:Int) _ _) (A5 [0,6,0] [1,8,9,10,11,12,13,15,99,100,101,121] (k:=A0 (B1 (b:=(decide (97≤(lowI ((s.data.toList.getD k 0).toNat:Int))))&&(decide ((lowI ((s.data.toList.getD k 0).toNat:Int))≤122))) kr (fun hc15=>?_) (fun hc15=>?_)))))))))
 simp only [Bool.and_eq_true,decide_eq_true_eq] at hc15
 refine A2 (A3 (j:=1) [0] (k:=H5 Tryz.func153 (lower_ ((s.data.toList.getD k 0).toNat:Int) _ _) (A3 (j:=4) [0,0] (k:=E3 133 (x:=.int .u8 (IntKind.wrap .u8 ((IntKind.wrap .u8 ((lowI ((s.data.toList.getD k 0).toNat:Int)) - 97))+10))) (y:=.int .u8 (dgI ((s.data.toList.getD k 0).toNat:Int))) (by rw [dgI2 (c:=((s.data.toList.getD k 0).toNat:Int)) (by omega) (by omega)]) (A5 [0] [1,8,9,10,11,12,13,16,99,100,101] (k:=B8 (A0 (A1 ?_))))))))
 refine A1 (G_p [0,0,0,0] [1,8,9,10,11,12,13,16,99,100,101,137] (k:=A0 (B1 (b:=decide ((dgI ((s.data.toList.getD k 0).toNat:Int)) ≥ 16)) kr (fun hc16=>?_) (fun hc16=>?_))))
 simp only [ge_iff_le,decide_eq_true_eq] at hc16
 have hdg:=(dg_ok (c:=((s.data.toList.getD k 0).toNat:Int)) (base:=16) (by omega) hcr (by omega)).2 (by omega)
 refine A1 (G_p [0,0,0] [6,7] (k:=A0 (B4 (A4 (B0 (A4 (A4 (B0 ?_))))))))
 refine A4 (F8 1 [] (B7 [.tmp 6,.tmp 7] [.int .u64 0,.iface 214 (.int .i64 2)] (k:=?_)))
 exact ⟨.inr ⟨Z0 hV (show k<s.data.toList.length by rw [hlen]; omega) hdg,rfl⟩,rfl⟩
 simp only [ge_iff_le,decide_eq_false_iff_not] at hc16
 have hdg:=(dg_ok (c:=((s.data.toList.getD k 0).toNat:Int)) (base:=16) (by omega) hcr (by omega)).1 (by omega)
 refine A7 (A0 (A1 (A1 (G_p [0,0,0] [1,8,9,10,11,12,13,16,99,100,101,141] (k:=A0 (B1 (b:=decide (n ≥ 1152921504606846976)) kr (fun hc17=>?_) (fun hc17=>?_)))))))
 simp only [ge_iff_le,decide_eq_true_eq] at hc17; omega
 simp only [ge_iff_le,decide_eq_false_iff_not] at hc17
 refine A7 (A0 (A1 (A2 (A3 (j:=4) [0,0,0,0] (k:=E3 147 (x:=.int .u64 (IntKind.wrap .u64 (n * 16))) (y:=.int .u64 (n * 16)) (by rw [w64u (x:=n * 16) (by omega) (by omega)]) (A5 [0] [1,8,9,10,11,12,13,16,99,100,101] (k:=A0 (A1 ?_))))))))
 have hw18:IntKind.wrap .u64 (dgI ((s.data.toList.getD k 0).toNat:Int))=(dgI ((s.data.toList.getD k 0).toNat:Int)):=w64u (by omega) (by omega)
 refine A2 (A3 (j:=4) [0,0,0,0] (k:=E3 151 (x:=.int .u64 (IntKind.wrap .u64 ((n * 16)+(IntKind.wrap .u64 (dgI ((s.data.toList.getD k 0).toNat:Int)))))) (y:=.int .u64 (IntKind.wrap .u64 ((n * 16)+(dgI ((s.data.toList.getD k 0).toNat:Int))))) (by simp only [hw18]) (E3 151 (x:=.int .u64 (IntKind.wrap .u64 ((n * 16)+(dgI ((s.data.toList.getD k 0).toNat:Int))))) (y:=.int .u64 (n * 16+dgI ((s.data.toList.getD k 0).toNat:Int))) (by rw [w64u (x:=n * 16+dgI ((s.data.toList.getD k 0).toNat:Int)) (by omega) (by omega)]) (A5 [0] [1,8,9,10,11,12,13,17,99,100,101] (k:=A0 (A1 (A1 (G_p [0,0,0,0,0,0,0,5] [1,8,9,10,11,12,17,99,100,101,159] (k:=?_)))))))))
 refine A0 (B1 (b:=(decide ((n * 16+dgI ((s.data.toList.getD k 0).toNat:Int))<(n * 16)))||(decide ((n * 16+dgI ((s.data.toList.getD k 0).toNat:Int)) > 4294967295))) kr (fun hc19=>?_) (fun hc19=>?_))
 simp only [gt_iff_lt,Bool.or_eq_true,decide_eq_true_eq] at hc19; omega
 simp only [gt_iff_lt,Bool.or_eq_false_iff,decide_eq_false_iff_not] at hc19
 refine A7 (A0 (G_p [0,0] [1,8,9,10,11,12,13,99,100,101] (k:=B8 (A0 (A2 (A3 (j:=1) [0] (k:=D1 163 ((k:Int)+1) (by omega) (by omega) kr (A5 [0] [1,8,9,10,11,12,13,99,100,101] (k:=?_)))))))))
 refine D2 (s':=(k+1,(n * 16+dgI ((s.data.toList.getD k 0).toNat:Int)))) [1,8,9,10,11,12,13,99,100,101] kr rfl ⟨(by dsimp only; omega),(by dsimp only; omega),(by dsimp only; rw [Int.pow_succ]; omega),(by dsimp only; rw [hV,M4 _ (show k<s.data.toList.length by rw [hlen]; omega),W7,hdg.1,if_neg (by omega),Int.mul_comm])⟩ (by dsimp only; omega)
 simp only [Bool.and_eq_false_iff,decide_eq_false_iff_not] at hc15
 refine A1 (G_p [0,0,0] [6,7] (k:=A0 (B4 (B0 (A4 (B0 (A4 (A4 ?_))))))))
 refine B0 (A4 (F8 1 [] (B7 [.tmp 6,.tmp 7] [.int .u64 0,.iface 214 (.int .i64 2)] (k:=?_))))
 exact ⟨.inr ⟨Z0 hV (show k<s.data.toList.length by rw [hlen]; omega) (dg_no (by omega) (by omega) hcr (by decide)),rfl⟩,rfl⟩
 simp only [decide_eq_false_iff_not] at hc7
 refine E7 (A6 (A6 (B6 (A0 (A1 (A1 (G_p [0,0,1,1,1,3] [13,169] (k:=A0 ?_))))))))
 refine C5 kr (A7 (A0 (A1 (G_p [0,0,0] [6,7] (k:=A0 (B4 (F8 1 [] (B7 [.tmp 6,.tmp 7] [.int .u64 n,.nilIface] (k:=?_)))))))))
 exact ⟨.inl ⟨n,by rw [hV,List.drop_eq_nil_of_le (by rw [hlen]; omega),numV_nil],hn0,by rw [show s.size=k by omega]; exact hn1,rfl⟩,rfl⟩
end Go.Proofs.YtcgmnagcgkhogaaGreatDoor
namespace Go.Sw
def isIfT (P:Program) (t:TypeId):Bool:=match P.underlying t with | some (.interface _)=>true | _=>false
theorem isIfT_ms {P:Program} {t:TypeId} (h:isIfT P t=true):∃ ms,P.underlying t=some (.interface ms):=by
 unfold isIfT at h; split at h
 rename_i ms he; exact ⟨ms,he⟩
 cases h
def isIntT (P:Program) (t:TypeId):Bool:=match P.underlying t with | some (.int _)=>true | _=>false
theorem isIntT_k {P:Program} {t:TypeId} (h:isIntT P t=true):∃ k,P.underlying t=some (.int k):=by
 unfold isIntT at h; split at h
 rename_i k he; exact ⟨k,he⟩
 cases h
theorem run_ifNil {P:Program} (w:World) {t:TypeId} {ms:Array (String × TypeId)} {v:Value} {e ne:Bool} (ht:P.underlying t=some (.interface ms)) (hv:(v=.nilIface∧e=true)∨((∃ a b,v=.iface a b)∧e=false)) :
  (binOp (if ne then .neq else .eql) t v .nilIface).run P w=.ok (.bool (ne ^^ e)) w:=by
 have h:∀ d:Nat,(Op.equalIn (d+1) t v .nilIface).run P w=.ok e w:=fun d=>by
  rcases hv with ⟨rfl,rfl⟩ | ⟨⟨a,b,rfl⟩,rfl⟩ <;> simp [Op.equalIn,run_underlying ht]
 cases ne
 show (binOp .eql t v .nilIface).run P w=_
 rcases hv with ⟨rfl,rfl⟩ | ⟨⟨a,b,rfl⟩,rfl⟩ <;> (simp only [binOp]; simp [Op.equal,Op.maxDepth,h 9999])
 show (binOp .neq t v .nilIface).run P w=_
 rcases hv with ⟨rfl,rfl⟩ | ⟨⟨a,b,rfl⟩,rfl⟩ <;> (simp only [binOp]; simp [Op.equal,Op.maxDepth,h 9999])
theorem Q2 {d:Bool} {P:Program} {ops:Array Oper} {i:Nat} {Q:F0} {n:Fr} {E:Env} {W0:World} {H:List Grp} {o:Oper} {ch:List (Nat × Bool)} {t t2:TypeId} {x:Operand} {v:Value} {e:Bool} (ne:Bool)
  (ho:ops[i]? = some o:=by exact rfl) (hop:o.op=.binOp (if ne then .neq else .eql) t x (.const .nilIface) t2:=by exact rfl) (hx:evO E ch x=some v:=by kernel_rfl) (ht:isIfT P t=true:=by kernel_rfl) (hv:(v=.nilIface∧e=true)∨((∃ a b,v=.iface a b)∧e=false))
  (hch:D7 ops E o.guard=some ch:=by kernel_rfl) (hd:G1 n ch o.dst=true:=by kernel_rfl) (hk:K5 E ch=true:=by kernel_rfl)
  (k:GL d P ops (i+1) Q n (Env.put E o.dst ch (.bool (ne ^^ e))) W0 H):GL d P ops i Q n E W0 H:=by
 refine J1 ho hch hd hk (fun r hr _ w hsat=>?_) k
 unfold execOp
 simp only [hop]
 rw [hr _ _ hx,hr (.const .nilIface) .nilIface rfl]
 obtain ⟨ms,ht⟩:=isIfT_ms ht
 have:=run_ifNil (P:=P) w (ne:=ne) ht hv
 have hg:(eqGuard (if ne then .neq else .eql) t x (.const .nilIface) v .nilIface).run P w=.ok () w:=by
  rcases hv with ⟨rfl,rfl⟩ | ⟨⟨a,b,rfl⟩,rfl⟩ <;> cases ne <;> cases x <;> rfl
 simp only [Sem.run_bind,hg,this,Result.andThen_ok]
 exact ⟨rfl,rfl⟩
theorem run_ifInt {P:Program} (w:World) {t tx:TypeId} {ms:Array (String × TypeId)} {k q:IntKind} (a b:Int)
    (ht:P.underlying t=some (.interface ms)) (hc:(P.info? tx).map (·.comparable)=some true) (hx:P.underlying tx=some (.int q)) :
    (binOp .eql t (.iface tx (.int k a)) (.iface tx (.int k b))).run P w=.ok (.bool (a==b)) w:=by
  cases hi:P.info? tx with
  | none=>simp [hi] at hc
  | some i =>
    have hcc:i.comparable=true:=by simpa [hi] using hc
    have h:∀ d:Nat,(Op.equalIn (d+2) t (.iface tx (.int k a)) (.iface tx (.int k b))).run P w=.ok (a==b) w:=fun d=>by
      simp [Op.equalIn,run_underlying ht,run_underlying hx,typeInfo,hi,hcc]
    simp only [binOp]
    simp [Op.equal,Op.maxDepth,h 9998]
theorem GL_ifInt {d:Bool} {P:Program} {ops:Array Oper} {i:Nat} {Q:F0} {n:Fr} {E:Env} {W0:World} {H:List Grp} {o:Oper} {ch:List (Nat × Bool)} {t t2 tx:TypeId} {x y:Operand} {kd:IntKind} {a b:Int}
  (ho:ops[i]? = some o) (hop:o.op=.binOp .eql t x y t2) (hx:evO E ch x=some (.iface tx (.int kd a))) (hy:evO E ch y=some (.iface tx (.int kd b))) (ht:isIfT P t=true) (hc:(P.info? tx).map (·.comparable)=some true) (hq:isIntT P tx=true)
  (hch:D7 ops E o.guard=some ch) (hd:G1 n ch o.dst=true) (hk:K5 E ch=true)
  (k:GL d P ops (i+1) Q n (Env.put E o.dst ch (.bool (a==b))) W0 H):GL d P ops i Q n E W0 H:=by
 refine J1 ho hch hd hk (fun r hr _ w hsat=>?_) k
 unfold execOp
 simp only [hop]
 rw [hr _ _ hx,hr _ _ hy]
 obtain ⟨ms,ht⟩:=isIfT_ms ht
 obtain ⟨q,hq⟩:=isIntT_k hq
 have:=run_ifInt (P:=P) w a b ht hc hq (k:=kd)
 have hg:(eqGuard .eql t x y (.iface tx (.int kd a)) (.iface tx (.int kd b))).run P w=.ok () w:=rfl
 simp only [Sem.run_bind,hg,this,Result.andThen_ok]
 exact ⟨rfl,rfl⟩
end Go.Sw
namespace Go.Proofs.YtcgmnagcgkhogaaGreatDoor
open Go.Sw Go.Sha Go.Esc Go.RowKit
theorem Tri_ex {P:Program} {f:FuncId} {args:Array Value} {W0:World} {H:List Grp} {K:Value→Prop}
  (h:∀ w,Sat W0 H w→Calls P f args w fun e w'=>(∃ v,e=.returned v∧K v)∧Below w.heap.size w w'):Tri P f args W0 H (fun u H'=>K u∧H'=H) :=
 fun w hs=>(h w hs).mono fun e w' ⟨⟨v,he,hk⟩,hb⟩=>⟨v,H,he,⟨hk,rfl⟩,by
  have hlt:∀ p,p∈H.flatten→p.1<w.heap.size:=fun p hp=>by
   have:=hs.has p hp
   rcases Nat.lt_or_ge p.1 w.heap.size with h' | h'
   exact h'
   simp [Array.getElem?_eq_none h'] at this
  exact ⟨hs.below.trans (hb.mono hs.below.size),hs.nodup,fun p hp=>by rw [hb.block _ (hlt p hp)]; exact hs.has p hp,hs.high⟩⟩
structure V4 (W0:World):Prop where
 err:∃ ev,3<W0.heap.size∧W0.cell? ⟨3,0,none⟩=some ev∧(ev=.nilIface∨∃ te pe,ev=.iface te pe)
 tz:∃ c e fz,7<W0.heap.size∧W0.heap[7]? = some (.cells c e fz)∧c[15]? = some (.int .u8 4)
 utf:Lib.Utf8Tabs 0 1 W0
theorem cell_base {W0:World} {H:List Grp} {w:World} (hs:Sat W0 H w) {b off:Nat} {v:Value} (hb:b<W0.heap.size) (h:W0.cell? ⟨b,off,none⟩=some v):w.cell? ⟨b,off,none⟩=some v:=by
 rw [← h]; unfold World.cell?; simp only [hs.below.block b hb]
theorem synErr (fn s:ByteArray) (hs:s.size≤281474976710656) (W0:World) (H:List Grp) (hW:V4 W0):Tri Tryz.prog 155 #[.string fn,.string s] W0 H (fun v H'=>(∃ N,v=pt N)∧H'=H) :=
 Tri_ex (fun w hw=>by
  obtain ⟨ev,h1,h2,h3⟩:=hW.err
  exact (Tryz.strconv_syntaxError fn s ev w hs (cell_base hw h1 h2) h3).mono fun e w' ⟨N,h1,_,_,h4⟩=>⟨⟨_,h1,N,rfl⟩,h4⟩)
theorem toErr_ (fn s:ByteArray) (hs:s.size≤1000000000000) (b c:Int) (W0:World) (H:List Grp) (hW:V4 W0):Tri Tryz.prog 143 #[.string fn,.string s,.int .i64 b,.int .i64 c,.iface 214 (.int .i64 2)] W0 H (fun v H'=>(∃ N,v=.iface 216 (pt N))∧H'=H):=by
 refine D5 43 Tryz.func143 ?_
 refine A1 (G_p [0] [0,1,2,3,4] (k:=A0 (A1 (A1 (G_p [0] [0,1,2,3,4,11] (k:=A0 (B3 (A1 ?_))))))))
 refine A2 (A3 (j:=1) [0] (k:=GL_ifInt (i:=1) (ch:=[]) (tx:=214) (kd:=.i64) (a:=2) (b:=2) rfl rfl kr kr kr kr kr kr kr kr (A5 [0] [0,1,2,3,4,11,12] (k:=A0 (B9 kr (A1 (A2 (A3 (j:=2) [0,0] (k:=?_)))))))))
 refine D9 Tryz.func155 (synErr fn s (by omega) _ _ hW) ?_
 rintro _ _ ⟨⟨N,rfl⟩,rfl⟩
 refine C0 (E':=[⟨10,[],.iface 216 (pt N)⟩]) [0,0] [10] (k:=A0 (B4 (B0 (A4 (B7 [.tmp 10] [.iface 216 (pt N)] (k:=?_))))))
 exact ⟨⟨N,rfl⟩,rfl⟩
theorem parse10_ (s:ByteArray) (h0:0<s.size) (hs:s.size≤7) (W0:World) (H:List Grp) (hW:V4 W0):Tri Tryz.prog 135 #[.string s,.int .i64 10,.int .i64 32] W0 H (fun v H'=>((∃ n,numV 10 0 s.data.toList=some n∧0≤n∧n<16 ^ s.size∧v=.tuple #[.int .u64 n,.nilIface])∨(numV 10 0 s.data.toList=none∧∃ N,v=.tuple #[.int .u64 0,.iface 216 (pt N)]))∧H'=H):=by
 refine D5 26 Tryz.func135 ?_
 refine A1 (G_p [0,0] [0,1,2] (k:=A0 (A1 (A2 (A3 (j:=3) [0,0,0] (k:=D9 Tryz.func142 (inner10_ s h0 hs _ _) ?_))))))
 rintro _ _ ⟨⟨n,hV,hn0,hn1,rfl⟩ | ⟨hV,rfl⟩,rfl⟩
 refine A5 [0,0,0,0,0] [0,1,2,8,9] (k:=A0 (A1 (A1 (A2 (A3 (j:=1) [0] (k:=Q2 (ch:=[]) (v:=.nilIface) (e:=true) true (hv:=.inl ⟨rfl,rfl⟩) (k:=A5 [] [0,1,2,8,9,18] (k:=A0 ?_))))))))
 refine C5 kr (A7 (A0 (A1 (G_p [0,0,0] [6,7] (k:=A0 (B4 (B7 [.tmp 6,.tmp 7] [.int .u64 n,.nilIface] (k:=?_))))))))
 exact ⟨.inl ⟨n,hV,hn0,hn1,rfl⟩,rfl⟩
 refine A5 [0,0,0,0,0] [0,1,2,8,9] (k:=A0 (A1 (A1 (A2 (A3 (j:=1) [0] (k:=Q2 (ch:=[]) (v:=.iface 214 (.int .i64 2)) (e:=false) true (hv:=.inr ⟨⟨_,_,rfl⟩,rfl⟩) (k:=A5 [] [0,1,2,8,9,18] (k:=A0 ?_))))))))
 refine B9 kr (A1 (A2 (A3 (j:=5) [0,0,0,0,0] (k:=D9 Tryz.func143 (toErr_ (mB #[80,97,114,115,101,85,105,110,116]) s (by omega) 10 32 _ _ hW) ?_))))
 rintro _ _ ⟨⟨N,rfl⟩,rfl⟩
 refine A5 [0,0] [6,7] (k:=A0 (B4 (A4 (B7 [.tmp 6,.tmp 7] [.int .u64 0,.iface 216 (pt N)] (k:=?_)))))
 exact ⟨.inr ⟨hV,N,rfl⟩,rfl⟩
theorem parse16_ (s:ByteArray) (h0:0<s.size) (hs:s.size≤7) (W0:World) (H:List Grp) (hW:V4 W0):Tri Tryz.prog 135 #[.string s,.int .i64 16,.int .i64 32] W0 H (fun v H'=>((∃ n,numV 16 0 s.data.toList=some n∧0≤n∧n<16 ^ s.size∧v=.tuple #[.int .u64 n,.nilIface])∨(numV 16 0 s.data.toList=none∧∃ N,v=.tuple #[.int .u64 0,.iface 216 (pt N)]))∧H'=H):=by
 refine D5 26 Tryz.func135 ?_
 refine A1 (G_p [0,0] [0,1,2] (k:=A0 (A1 (A2 (A3 (j:=3) [0,0,0] (k:=D9 Tryz.func142 (inner16_ s h0 hs _ _) ?_))))))
 rintro _ _ ⟨⟨n,hV,hn0,hn1,rfl⟩ | ⟨hV,rfl⟩,rfl⟩
 refine A5 [0,0,0,0,0] [0,1,2,8,9] (k:=A0 (A1 (A1 (A2 (A3 (j:=1) [0] (k:=Q2 (ch:=[]) (v:=.nilIface) (e:=true) true (hv:=.inl ⟨rfl,rfl⟩) (k:=A5 [] [0,1,2,8,9,18] (k:=A0 ?_))))))))
 refine C5 kr (A7 (A0 (A1 (G_p [0,0,0] [6,7] (k:=A0 (B4 (B7 [.tmp 6,.tmp 7] [.int .u64 n,.nilIface] (k:=?_))))))))
 exact ⟨.inl ⟨n,hV,hn0,hn1,rfl⟩,rfl⟩
 refine A5 [0,0,0,0,0] [0,1,2,8,9] (k:=A0 (A1 (A1 (A2 (A3 (j:=1) [0] (k:=Q2 (ch:=[]) (v:=.iface 214 (.int .i64 2)) (e:=false) true (hv:=.inr ⟨⟨_,_,rfl⟩,rfl⟩) (k:=A5 [] [0,1,2,8,9,18] (k:=A0 ?_))))))))
 refine B9 kr (A1 (A2 (A3 (j:=5) [0,0,0,0,0] (k:=D9 Tryz.func143 (toErr_ (mB #[80,97,114,115,101,85,105,110,116]) s (by omega) 16 32 _ _ hW) ?_))))
 rintro _ _ ⟨⟨N,rfl⟩,rfl⟩
 refine A5 [0,0] [6,7] (k:=A0 (B4 (A4 (B7 [.tmp 6,.tmp 7] [.int .u64 0,.iface 216 (pt N)] (k:=?_)))))
 exact ⟨.inr ⟨hV,N,rfl⟩,rfl⟩
theorem vRune_ (r:Int) (W0:World) (H:List Grp):Tri Tryz.prog 131 #[.int .i32 r] W0 H (fun v H'=>v=.bool (isB r)∧H'=H):=by
 refine D5 17 Tryz.func131 ?_
 refine A1 (C3 (E':=[⟨0,[],.int .i32 r⟩]) [0] [0] (k:=A0 (A1 (B3 (A1 (G_p [0,0,0,0,0,6,0] [0,3] (k:=A0 (B1 (b:=(decide (0≤r))&&(decide (r<55296))) kr (fun hc1=>?_) (fun hc1=>?_)))))))))
 simp only [Bool.and_eq_true,decide_eq_true_eq] at hc1
 refine A1 (C3 (E':=[⟨2,[],.bool true⟩]) [0] [2] (k:=A0 (B4 (B0 (A4 (B7 [.tmp 2] [.bool true] (k:=?_)))))))
 refine ⟨congrArg Value.bool ?_,rfl⟩
 first | (symm; rw [isB_iff]; unfold isR; omega) | (symm; rw [← Bool.not_eq_true,isB_iff]; unfold isR; omega)
 simp only [Bool.and_eq_false_iff,decide_eq_false_iff_not] at hc1
 refine A1 (G_p [0,0,0,0,0,6,0] [10] (k:=A0 (B1 (b:=(decide (57343<r))&&(decide (r≤1114111))) kr (fun hc2=>?_) (fun hc2=>?_))))
 simp only [Bool.and_eq_true,decide_eq_true_eq] at hc2
 refine A1 (C3 (E':=[⟨2,[],.bool true⟩]) [0] [2] (k:=A0 (B4 (B0 (A4 (B7 [.tmp 2] [.bool true] (k:=?_)))))))
 refine ⟨congrArg Value.bool ?_,rfl⟩
 first | (symm; rw [isB_iff]; unfold isR; omega) | (symm; rw [← Bool.not_eq_true,isB_iff]; unfold isR; omega)
 simp only [Bool.and_eq_false_iff,decide_eq_false_iff_not] at hc2
 refine A7 (B8 (A0 (A1 (C3 (E':=[⟨2,[],.bool false⟩]) [0] [2] (k:=A0 (B4 (B7 [.tmp 2] [.bool false] (k:=?_))))))))
 refine ⟨congrArg Value.bool ?_,rfl⟩
 first | (symm; rw [isB_iff]; unfold isR; omega) | (symm; rw [← Bool.not_eq_true,isB_iff]; unfold isR; omega)
theorem hasP_ (s t:ByteArray) (_:s.size≤1000000000000) (ht:t.size≤1000000000000) (W0:World) (H:List Grp):Tri Tryz.prog 57 #[.string s,.string t] W0 H (fun v H'=>v=.bool (H9 s t)∧H'=H):=by
 refine D5 18 Tryz.func57 ?_
 refine A1 (C3 (E':=[⟨0,[],.string s⟩,⟨1,[],.string t⟩]) [0] [0,1] (k:=A0 (A1 (A2 (A3 (j:=9) [0,0,0,0,0,0,0,0,0] (k:=X3 (ch:=[(10,true)]) (s:=s) (vl:=none) (vh:=(some (.int .i64 (t.size:Int)))) (l:=0) (h:=(t.size:Int)) (hb:=(fun hc=>by have hg0:=R0 (t:=10) (c:=[]) (b:=decide ((s.size:Int) ≥ (t.size:Int))) hc kr; (try simp at hg0); omega)) (k:=A5 [0,0,6,0] [4] (k:=A0 ?_))))))))
 refine B4 (B7 [.tmp 4] [.bool ((decide ((s.size:Int) ≥ (t.size:Int)))&&((s.extract 0 t.size).toList==t.toList))] (k:=?_))
 exact ⟨by unfold H9; rfl,rfl⟩
theorem cutP0_ (s t:ByteArray) (hs:s.size≤1000000000000) (ht:t.size≤1000000000000) (W0:World) (H:List Grp):Tri Tryz.prog 87 #[.string s,.string t] W0 H (fun v H'=>v=(if H9 s t then .tuple #[.string (s.extract t.size s.size),.bool true] else .tuple #[.string s,.bool false])∧H'=H):=by
 refine D5 15 Tryz.func87 ?_
 refine A1 (C3 (E':=[⟨0,[],.string s⟩,⟨1,[],.string t⟩]) [0,0] [0,1] (k:=A0 (A1 (A1 (A2 (A3 (j:=2) [0,0] (k:=H5 Tryz.func57 (hasP_ s t (by omega) (by first | omega | decide) _ _) (A5 [0] [0,1,9] (k:=?_)))))))))
 refine A0 (B1 (b:=!(H9 s t)) kr (fun hc1=>?_) (fun hc1=>?_))
 have hsp:H9 s t=false:=by simpa using hc1
 refine A1 (G_p [0,0,0] [4,5] (k:=A0 (B4 (A4 (B7 [.tmp 4,.tmp 5] [.string s,.bool false] (k:=?_))))))
 exact ⟨by rw [if_neg (by rw [hsp]; decide)]; rfl,rfl⟩
 have hsp:H9 s t=true:=by simpa using hc1
 have hle:t.size≤s.size:=by unfold H9 at hsp; simp only [Bool.and_eq_true,decide_eq_true_eq] at hsp; omega
 refine A7 (A0 (A1 (A2 (A3 (j:=3) [0,0,0] (k:=M6 s (t.size:Int) (s.size:Int) (fun _=>by omega) (A5 [0,0] [4,5] (k:=A0 (B4 ?_))))))))
 refine B7 [.tmp 4,.tmp 5] [.string (s.extract t.size s.size),.bool true] (k:=?_)
 exact ⟨by rw [if_pos hsp]; rfl,rfl⟩
theorem cutP_ (s t:ByteArray) (hs:s.size≤1000000000000) (ht:t.size≤1000000000000) (W0:World) (H:List Grp):Tri Tryz.prog 63 #[.string s,.string t] W0 H (fun v H'=>v=(if H9 s t then .tuple #[.string (s.extract t.size s.size),.bool true] else .tuple #[.string s,.bool false])∧H'=H):=by
 refine D5 11 Tryz.func63 ?_
 refine A1 (C3 (E':=[⟨0,[],.string s⟩,⟨1,[],.string t⟩]) [0,0] [0,1] (k:=A0 (A1 (A2 (A3 (j:=2) [0,0] (k:=D9 Tryz.func87 (cutP0_ s t (by omega) (by first | omega | decide) _ _) ?_))))))
 rintro _ _ ⟨rfl,rfl⟩
 cases hsp:H9 s t
 all_goals simp only [Bool.false_eq_true,if_false,if_true]
 refine A5 [0,0,0,0] [4,5] (k:=A0 (B4 (B7 [.tmp 4,.tmp 5] [.string s,.bool false] (k:=?_))))
 exact ⟨rfl,rfl⟩
 refine A5 [0,0,0,0] [4,5] (k:=A0 (B4 (B7 [.tmp 4,.tmp 5] [.string (s.extract t.size s.size),.bool true] (k:=?_))))
 exact ⟨rfl,rfl⟩
theorem idx0_ (s:ByteArray) (c:Int) (W0:World) (H:List Grp):Tri Tryz.prog 107 #[.string s,.int .u8 c] W0 H (fun v H'=>v=.int .i64 (bIdx s c)∧H'=H):=by
 refine D5 8 Tryz.func107 ?_
 refine A1 (G_p [0] [0,1] (k:=A0 (A1 (A2 (A3 (j:=2) [0,0] (k:=R3 (ch:=[]) (f:=122) (vs:=[.string s,.int .u8 c]) (v:=.int .i64 (bIdx s c)) (e:=Extern.BytealgIndexByte.indexByte) (hf:=Tryz.func122) (hrun:=(fun w=>run_indexByte_string s c w)) (k:=C0 (E':=[⟨4,[],.int .i64 (bIdx s c)⟩]) [0] [4] (k:=A0 ?_))))))))
 refine B4 (B7 [.tmp 4] [.int .i64 (bIdx s c)] (k:=?_))
 exact ⟨rfl,rfl⟩
theorem idx_ (s:ByteArray) (c:Int) (W0:World) (H:List Grp):Tri Tryz.prog 90 #[.string s,.int .u8 c] W0 H (fun v H'=>v=.int .i64 (bIdx s c)∧H'=H):=by
 refine D5 8 Tryz.func90 ?_
 refine A1 (G_p [0] [0,1] (k:=A0 (A1 (A2 (A3 (j:=2) [0,0] (k:=H5 Tryz.func107 (idx0_ s c _ _) (C0 (E':=[⟨4,[],.int .i64 (bIdx s c)⟩]) [0] [4] (k:=A0 ?_))))))))
 refine B4 (B7 [.tmp 4] [.int .i64 (bIdx s c)] (k:=?_))
 exact ⟨rfl,rfl⟩
end Go.Proofs.YtcgmnagcgkhogaaGreatDoor
namespace Go.Xml
open Go.Esc Go.Json
structure XA where
 space:List UInt8
 name:List UInt8
 value:List UInt8
 deriving DecidableEq
inductive XN where
 | mk (space name:List UInt8) (attrs:List XA) (kids:List XN) (text:List UInt8)
def XN.space:XN→List UInt8 | .mk s _ _ _ _=>s
def XN.name:XN→List UInt8 | .mk _ n _ _ _=>n
def XN.attrs:XN→List XA | .mk _ _ a _ _=>a
def XN.kids:XN→List XN | .mk _ _ _ k _=>k
def XN.text:XN→List UInt8 | .mk _ _ _ _ t=>t
def J2:XN:=.mk [] [] [] [] []
abbrev XS:=List UInt8 × Int
def F9 (e:Int) (q:XS):XS:=(q.1,if q.2=0 then e else q.2)
def G7 (w:List UInt8) (q:XS):Bool × XS:=if w.isPrefixOf q.1 then (true,(q.1.drop w.length,q.2)) else (false,q)
def D4 (w:List UInt8) (q:XS):XS:=if w.isPrefixOf q.1 then (q.1.drop w.length,q.2) else F9 70 q
def L6 (q:XS):Bool × XS:=(decide ((blk q.1).length<q.1.length),(blk q.1,q.2))
def idxL (w:List UInt8):List UInt8→Option Nat
 | []=>if w=[] then some 0 else none
 | b::t=>if w.isPrefixOf (b::t) then some 0 else (idxL w t).map (·+1)
def I1 (w:List UInt8) (q:XS):List UInt8 × XS :=
 match idxL w q.1 with
 | none=>([],F9 70 q)
 | some i=>(q.1.take i,(q.1.drop (i+w.length),q.2))
def fstX (b:UInt8):Bool:=(decide (97≤b.toNat)&&decide (b.toNat≤122))||(decide (65≤b.toNat)&&decide (b.toNat≤90))||b==95||decide (128≤b.toNat)
def nxtX (b:UInt8):Bool:=fstX b||dgB b||b==45||b==46
def nmX:List UInt8→Nat
 | []=>0
 | b::t=>if fstX b then 1+(t.takeWhile nxtX).length else 0
def L9 (q:XS):List UInt8 × XS:=(q.1.take (nmX q.1),if nmX q.1=0 then F9 70 q else (q.1.drop (nmX q.1),q.2))
structure QN where
 pre:List UInt8
 name:List UInt8
 has:Bool
 deriving DecidableEq
def A8 (q:XS):QN × XS :=
 let a:=L9 q
 let t:=G7 [58] a.2
 if t.1 then (⟨a.1,(L9 t.2).1,true⟩,(L9 t.2).2) else (⟨[],a.1,false⟩,t.2)
def B5:List UInt8→List UInt8
 | []=>[]
 | 13::10::t=>10::B5 t
 | b::t=>(if b=13 then 10 else b)::B5 t
def C8 (c:UInt8):List UInt8→List UInt8 × List (List UInt8)
 | []=>([],[])
 | b::t=>let r:=C8 c t; if b=c then ([],r.1::r.2) else (b::r.1,r.2)
def badX (p:List UInt8):Bool :=
 match idxL [59] p with
 | none=>true
 | some i=>unL (38::p.take (i+1))==38::p.take (i+1)
def O4 (s:List UInt8) (q:XS):List UInt8 × XS :=
 let s1:=B5 s
 let q1:=if (C8 38 s1).2.any badX then F9 70 q else q
 (unL s1,if I0 (unL s1)≠unL s1 then F9 70 q1 else q1)
def I2 (q:XS):Bool × XS :=
 if (G7 [60,33,45,45] q).1 then (true,D4 [62] (I1 [45,45] (G7 [60,33,45,45] q).2).2)
 else if (G7 [60,63] q).1 then (true,(I1 [63,62] (L9 (G7 [60,63] q).2).2).2) else (false,q)
def C4:Nat→XS→XS
 | 0,q=>q
 | n+1,q=>if q.2≠0 then q else if (L6 q).1 then C4 n (L6 q).2 else if (I2 (L6 q).2).1 then C4 n (I2 (L6 q).2).2 else (I2 (L6 q).2).2
structure AT where
 q:QN
 value:List UInt8
def F2 (q:XS):List UInt8 × XS :=
 if (G7 [34] q).1 then I1 [34] (G7 [34] q).2 else if (G7 [39] q).1 then I1 [39] (G7 [39] q).2 else ([],F9 70 q)
def Y6 (q:XS):AT × XS :=
 let a:=A8 q
 let v:=F2 (L6 (D4 [61] (L6 a.2).2)).2
 let q1:=if (60:UInt8)∈v.1 then F9 70 v.2 else v.2
 (⟨a.1,(O4 v.1 q1).1⟩,(O4 v.1 q1).2)
def F4:Nat→List AT→XS→List AT × XS
 | 0,acc,q=>(acc,q)
 | n+1,acc,q=>if q.2≠0 then (acc,q) else if (L6 q).1∧¬ [62].isPrefixOf (blk q.1)∧¬ [47,62].isPrefixOf (blk q.1) then F4 n (acc++[(Y6 (L6 q).2).1]) (Y6 (L6 q).2).2 else (acc,(L6 q).2)
abbrev SPX:=List (List UInt8 × List UInt8)
def K7 (sp:SPX) (p:List UInt8):Option (List UInt8):=(sp.find? fun x=>x.1==p).map (·.2)
def xmlns:List UInt8:=[120,109,108,110,115]
def M0 (a:AT):Option (List UInt8):=if a.q.has=false∧a.q.name=xmlns then some [] else if a.q.has=true∧a.q.pre=xmlns then some a.q.name else none
def M9:List AT→List (List UInt8)→SPX→XS→SPX × XS
  | [],_,sp,q=>(sp,q)
  | a::r,seen,sp,q =>
    match M0 a with
    | none=>M9 r seen sp q
    | some p=>M9 r (p::seen) ((p,a.value)::sp) (if p∈seen∨a.q.has=true∧a.value=[] then F9 70 q else q)
def K8 (p:List UInt8) (has:Bool) (sp:SPX) (q:XS):List UInt8 × XS:=((K7 sp p).getD [],if has=true∧K7 sp p=none then F9 70 q else q)
def O6:List AT→List XA→SPX→XS→List XA × XS
  | [],out,_,q=>(out,q)
  | a::r,out,sp,q =>
    if (M0 a).isSome then O6 r out sp q else
    let s:=if a.q.has then K8 a.q.pre true sp q else ([],q)
    O6 r (out++[⟨s.1,a.q.name,a.value⟩]) sp (if out.any (fun y=>y.space==s.1&&y.name==a.q.name) then F9 70 s.2 else s.2)
def addX (ks:List XN) (s:List UInt8):List XN :=
 if s=[] then ks else
 match ks.getLast? with
 | some (.mk sp [] at_ kk t)=>ks.dropLast++[.mk sp [] at_ kk (t++s)]
 | _=>ks++[.mk [] [] [] [] s]
def G6 (el:XS→XN × XS):Nat→List XN→XS→List XN × XS
  | 0,ks,q=>(ks,q)
  | n+1,ks,q =>
    if q.2≠0 then (ks,q) else if (G7 [60,47] q).1 then (ks,(G7 [60,47] q).2)
    else if (G7 [60,33,91,67,68,65,84,65,91] q).1 then
      let u:=I1 [93,93,62] (G7 [60,33,91,67,68,65,84,65,91] q).2
      G6 el n (addX ks (B5 u.1)) u.2
    else if (I2 q).1 then G6 el n ks (I2 q).2
    else if (G7 [60] q).1 then G6 el n (ks++[(el (G7 [60] q).2).1]) (el (G7 [60] q).2).2
    else
      match idxL [60] q.1 with
      | none=>(ks,F9 70 q)
      | some i =>
        if (idxL [93,93,62] (q.1.take i)).isSome then (ks,F9 70 q) else
        let r:=O4 (q.1.take i) (q.1.drop i,q.2)
        G6 el n (addX ks r.1) r.2
def tagX (n:Nat) (acc:List AT) (q:XS):List AT × Bool × XS :=
 ((F4 n acc q).1,(G7 [47,62] (F4 n acc q).2).1,if (G7 [47,62] (F4 n acc q).2).1 then (G7 [47,62] (F4 n acc q).2).2 else D4 [62] (G7 [47,62] (F4 n acc q).2).2)
def T9 (a:QN) (k:List XN × XS) (s:List UInt8) (m:List XA):XN × XS :=
 (.mk s a.name m k.1 [],if (A8 k.2).1≠a then F9 70 (D4 [62] (L6 (A8 k.2).2).2) else D4 [62] (L6 (A8 k.2).2).2)
def I3:SPX:=[([120,109,108],[104,116,116,112,58,47,47,119,119,119,46,119,51,46,111,114,103,47,88,77,76,47,49,57,57,56,47,110,97,109,101,115,112,97,99,101]),([],[])]
def D6 (l:List UInt8):List UInt8:=if [239,187,191].isPrefixOf l then l.drop 3 else l
def elX:Nat→SPX→XS→XN × XS
  | lv,sp0,q =>
    let a:=A8 q
    let t:=tagX (a.2.1.length+1) [] a.2
    if t.2.2.2≠0 then (J2,t.2.2) else
    let sp:=M9 t.1 [] sp0 t.2.2
    let s:=K8 a.1.pre a.1.has sp.1 sp.2
    let m:=O6 t.1 [] sp.1 s.2
    match lv with
    | 0=>(.mk s.1 a.1.name m.1 [] [],F9 71 m.2)
    | lv+1 =>
      if t.2.1=true∨m.2.2≠0 then (.mk s.1 a.1.name m.1 [] [],m.2) else T9 a.1 (G6 (elX lv sp.1) (m.2.1.length+1) [] m.2) s.1 m.1
def I4 (l0:List UInt8):XN × Int :=
 if 65536<l0.length then (J2,72) else
 let l:=D6 l0
 if K4 l=false∨I0 l≠l then (J2,70) else
 let q:=D4 [60] (C4 (l.length+1) (l,0))
 let n:=if q.2=0 then elX 24 I3 q else (J2,q)
 let q2:=C4 (n.2.1.length+1) n.2
 let q3:=if q2.1≠[] then F9 70 q2 else q2
 if q3.2≠0 then (J2,q3.2) else (n.1,0)
end Go.Xml
namespace Go.Xml
open Go.Esc Go.Json
theorem Y5 (e:Int) (q:XS):(F9 e q).1=q.1:=rfl
theorem flt_ne {e:Int} {q:XS} (h:q.2≠0):F9 e q=q:=by unfold F9; rw [if_neg h]
theorem flt_0 {e:Int} {q:XS} (h:q.2=0):F9 e q=(q.1,e):=by unfold F9; rw [if_pos h]
theorem take_le (w:List UInt8) (q:XS):(G7 w q).2.1.length≤q.1.length:=by
 unfold G7; split
 show (q.1.drop _).length≤_; rw [List.length_drop]; omega
 exact Nat.le_refl _
theorem take_e (w:List UInt8) (q:XS):(G7 w q).2.2=q.2:=by unfold G7; split <;> rfl
theorem take_lt {w:List UInt8} {q:XS} (h:(G7 w q).1=true) (hw:w≠[]):(G7 w q).2.1.length<q.1.length:=by
 unfold G7 at h ⊢; split
 rename_i hp
 have h1:=(List.isPrefixOf_iff_prefix.1 hp).length_le
 have h2:0<w.length:=List.length_pos_iff.2 hw
 show (q.1.drop _).length<_; rw [List.length_drop]; omega
 rename_i hp; rw [if_neg hp] at h; cases h
theorem must_le (w:List UInt8) (q:XS):(D4 w q).1.length≤q.1.length:=by
 unfold D4; split
 show (q.1.drop _).length≤_; rw [List.length_drop]; omega
 rw [Y5]; exact Nat.le_refl _
theorem must_ne {w:List UInt8} {q:XS} (h:q.2≠0):(D4 w q).2=q.2:=by
 unfold D4; split
 rfl
 rw [flt_ne h]
theorem Z2 (l:List UInt8):(blk l).length≤l.length:=by
 unfold blk
 exact (List.dropWhile_suffix _).length_le
theorem skip_le (q:XS):(L6 q).2.1.length≤q.1.length:=Z2 q.1
theorem idx_le:∀ {w l:List UInt8} {i:Nat},idxL w l=some i→i+w.length≤l.length
  | w,[],i,h=>by
    unfold idxL at h
    split at h
    rename_i hw; injection h with h; subst h; rw [hw]; exact Nat.le_refl _
    cases h
  | w,b::t,i,h=>by
    unfold idxL at h
    split at h
    rename_i hp; injection h with h; subst h; have:=(List.isPrefixOf_iff_prefix.1 hp).length_le; omega
    cases hq:idxL w t with
    | none=>rw [hq] at h; cases h
    | some j=>rw [hq] at h; injection h with h; have:=idx_le hq; have h2:j+1=i:=h; rw [List.length_cons]; omega
theorem S4 (w:List UInt8) (q:XS):(I1 w q).2.1.length≤q.1.length:=by
 unfold I1
 cases h:idxL w q.1 with
 | none=>show (F9 70 q).1.length≤_; rw [Y5]; exact Nat.le_refl _
 | some i=>show (q.1.drop _).length≤_; rw [List.length_drop]; omega
theorem until_ne {w:List UInt8} {q:XS} (h:q.2≠0):(I1 w q).2.2=q.2:=by
 unfold I1
 cases hi:idxL w q.1 with
 | none=>show (F9 70 q).2=_; rw [flt_ne h]
 | some i=>rfl
theorem name_le (q:XS):(L9 q).2.1.length≤q.1.length:=by
 unfold L9; dsimp only; split
 rw [Y5]; exact Nat.le_refl _
 show (q.1.drop _).length≤_; rw [List.length_drop]; omega
theorem name_ne {q:XS} (h:q.2≠0):(L9 q).2.2=q.2:=by
 unfold L9; dsimp only; split
 rw [flt_ne h]
 rfl
theorem qual_le (q:XS):(A8 q).2.1.length≤q.1.length:=by
 unfold A8; dsimp only
 have h1:=name_le q
 have h2:=take_le [58] (L9 q).2
 split
 have h3:=name_le (G7 [58] (L9 q).2).2
 show (L9 _).2.1.length≤_; omega
 show (G7 _ _).2.1.length≤_; omega
theorem qual_ne {q:XS} (h:q.2≠0):(A8 q).2.2=q.2:=by
 unfold A8; dsimp only
 have h1:=name_ne h
 have h2:=take_e [58] (L9 q).2
 split
 show (L9 _).2.2=_; rw [name_ne (by rw [h2,h1]; exact h),h2,h1]
 show (G7 _ _).2.2=_; rw [h2,h1]
theorem refs_len (s:List UInt8) (q:XS):(O4 s q).2.1=q.1:=by
 unfold O4; dsimp only
 split <;> split <;> simp only [Y5]
theorem refs_ne {s:List UInt8} {q:XS} (h:q.2≠0):(O4 s q).2=q:=by
 unfold O4; dsimp only
 split <;> split <;> simp only [flt_ne h]
theorem A0h (q:XS):(I2 q).2.1.length≤q.1.length:=by
 unfold I2
 split
 have h1:=take_le [60,33,45,45] q
 have h2:=S4 [45,45] (G7 [60,33,45,45] q).2
 have h3:=must_le [62] (I1 [45,45] (G7 [60,33,45,45] q).2).2
 show (D4 _ _).1.length≤_; omega
 split
 have h1:=take_le [60,63] q
 have h2:=name_le (G7 [60,63] q).2
 have h3:=S4 [63,62] (L9 (G7 [60,63] q).2).2
 show (I1 _ _).2.1.length≤_; omega
 exact Nat.le_refl _
theorem aside_lt {q:XS} (h:(I2 q).1=true):(I2 q).2.1.length<q.1.length:=by
 unfold I2 at h ⊢
 split
 rename_i hc
 have h1:=take_lt hc (by decide)
 have h2:=S4 [45,45] (G7 [60,33,45,45] q).2
 have h3:=must_le [62] (I1 [45,45] (G7 [60,33,45,45] q).2).2
 show (D4 _ _).1.length<_; omega
 rename_i hc; rw [if_neg hc] at h
 split
 rename_i hd
 have h1:=take_lt hd (by decide)
 have h2:=name_le (G7 [60,63] q).2
 have h3:=S4 [63,62] (L9 (G7 [60,63] q).2).2
 show (I1 _ _).2.1.length<_; omega
 rename_i hd; rw [if_neg hd] at h; cases h
theorem lines_cr (t:List UInt8):B5 (13::10::t)=10::B5 t:=by rw [B5]
theorem N2:∀ l:List UInt8,(B5 l).length≤l.length
  | []=>Nat.le_refl _
  | [b]=>by unfold B5; split <;> simp_all [B5]
  | b::c::t=>by
    have h1:=N2 t
    have h2:=N2 (c::t)
    unfold B5
    split
    simp
    rename_i u h; injection h with _ h; injection h with _ h; subst h; simp only [List.length_cons]; omega
    rename_i u h; injection h with _ h; subst h; simp only [List.length_cons] at h2 ⊢; omega
end Go.Xml
namespace Go.Esc
open Go.Lib Go.Sw
theorem enc_byte {p:Int} (h:isR p):(p≤127∧encodeRune p=[p.toNat.toUInt8])∨(128≤p∧∀ b∈encodeRune p,128≤b.toNat):=by
 unfold isR at h
 by_cases h1:p≤127
 exact .inl ⟨h1,enc_one h.1 h1⟩
 refine .inr ⟨by omega,fun b hb=>?_⟩
 unfold encodeRune at hb
 obtain ⟨x,hx,rfl⟩:=List.mem_map.1 hb
 have hr:=encodeRuneZ_byte p x hx
 rw [byteZ x hr.1 hr.2]
 unfold encodeRuneZ at hx
 rw [if_neg (by omega)] at hx
 split at hx
 simp only [List.mem_cons,List.not_mem_nil,or_false] at hx; omega
 split at hx
 simp only [List.mem_cons,List.not_mem_nil,or_false] at hx; omega
 split at hx
 simp only [List.mem_cons,List.not_mem_nil,or_false] at hx; omega
 simp only [List.mem_cons,List.not_mem_nil,or_false] at hx; omega
theorem u8_ne {p:Int} (h0:0≤p) (h1:p≤127) {c:Nat} (hc:c<256) (h:p≠(c:Int)):p.toNat.toUInt8≠UInt8.ofNat c:=by
 intro he
 have:=congrArg UInt8.toNat he
 rw [byteZ p h0 (by omega)] at this
 simp [UInt8.toNat_ofNat',Nat.mod_eq_of_lt hc] at this
 omega
theorem enc_no {p:Int} (h:isR p) {c:Nat} (hc:c<128) (hp:p≠(c:Int)):∀ b∈encodeRune p,b≠UInt8.ofNat c:=by
 intro b hb
 rcases enc_byte h with ⟨h1,he⟩ | ⟨h1,he⟩
 rw [he] at hb
 obtain rfl:=List.mem_singleton.1 hb
 exact u8_ne h.1 h1 (by omega) hp
 have:=he b hb
 intro hx; rw [hx] at this
 simp [UInt8.toNat_ofNat',Nat.mod_eq_of_lt (show c<256 by omega)] at this
 omega
theorem html_len (l:List UInt8):(A0d l).length≤24 * l.length:=by
  have h1:=plain_len l
  have h2:∀ m:List UInt8,(C7 D3 m).length≤6 * m.length:=by
    intro m
    induction m with
    | nil=>exact Nat.le_refl _
    | cons b m ih =>
      rw [Y9,List.length_append,List.length_cons]
      have:((D3 b).getD [b]).length≤6:=by
        unfold D3; (repeat' split) <;> simp
      omega
  have h3:=h2 (I0 l)
  unfold A0d; omega
theorem un_len (l:List UInt8):(unL l).length≤4 * l.length:=by
  suffices ∀ n (l:List UInt8),l.length≤n→(unL l).length≤4 * l.length from this l.length l (Nat.le_refl _)
  intro n
  induction n with
  | zero=>intro l hl; rw [List.eq_nil_of_length_eq_zero (by omega:l.length=0)]; exact Nat.le_refl _
  | succ n ih =>
    intro l hl
    cases l with
    | nil=>exact Nat.le_refl _
    | cons b t =>
      rw [List.length_cons] at hl
      rw [Q7,List.length_cons]
      split
      have:=ih t (by omega); rw [List.length_cons]; omega
      split
      have:=ih t (by omega); rw [List.length_cons]; omega
      have h1:=ih (t.drop (X7 t).2) (by rw [List.length_drop]; omega)
      have h2:=(enc_len (X7 t).1).2
      rw [List.length_drop] at h1
      rw [List.length_append]; omega
end Go.Esc
namespace Go.Json
open Go.Lib Go.Esc
mutual
/-- what a value is written as -/
def prP:JV→List UInt8
  | .mk k t ns l=>if k=0 then [110,117,108,108] else if k=1 then [102,97,108,115,101] else if k=2 then [116,114,117,101] else if k=3 then t else if k=4 then jsonL t
    else (if k=6 then 123 else 91)::(prL (k==6) true ns l++[endB (k==6)])
def prL:Bool→Bool→List (List UInt8)→List JV→List UInt8
 | _,_,_,[]=>[]
 | obj,fst,ns,v::l=>(if fst then [] else [44])++((if obj then jsonL (ns.headD [])++[58] else [])++(prP v++prL obj false ns.tail l))
end
end Go.Json
namespace Go.Xml
open Go.Esc Go.Json Go.Lib
theorem enc_split:∀ (ps:List Int) (a b:List UInt8),(∀ p∈ps,isR p)→S6 ps=a++b→(∀ c t,b=c::t→c.toNat<128)→∃ pa pb,ps=pa++pb∧a=S6 pa∧b=S6 pb
  | ps,[],b,_,h,_=>⟨[],ps,rfl,rfl,by rw [h]; rfl⟩
  | [],x::a,b,_,h,_=>by rw [encL_nil] at h; cases h
  | p::ps,x::a,b,hp,h,hb=>by
    rw [L3] at h
    have hpR:=hp p List.mem_cons_self
    by_cases hl:(encodeRune p).length≤(x::a).length
    have e:x::a=encodeRune p++(x::a).drop (encodeRune p).length:=by
      have h1:=congrArg (List.take (encodeRune p).length) h
      rw [List.take_left,List.take_append_of_le_length hl] at h1
      conv=>lhs; rw [← List.take_append_drop (encodeRune p).length (x::a),← h1]
    rw [e,List.append_assoc] at h
    obtain ⟨pa,pb,e1,e2,e3⟩:=enc_split ps _ b (fun q hq=>hp q (List.mem_cons_of_mem _ hq)) (List.append_cancel_left h) hb
    exact ⟨p::pa,pb,by rw [e1]; rfl,by rw [L3,← e2]; exact e,e3⟩
    cases b with
    | nil =>
      rw [List.append_nil] at h
      have:=congrArg List.length h
      rw [List.length_append] at this; omega
    | cons c t =>
      have hc:=hb c t rfl
      have hin:(encodeRune p)[(x::a).length]? = some c:=by
        have h1:(encodeRune p++S6 ps)[(x::a).length]? = some c:=by rw [h,List.getElem?_append_right (Nat.le_refl _),Nat.sub_self]; rfl
        rwa [List.getElem?_append_left (by omega)] at h1
      have hm:=List.mem_of_getElem? hin
      by_cases hpc:p=(c.toNat:Int)
      exfalso
      have h1:(encodeRune p).length=1:=by rw [enc_one (by omega) (by omega)]; rfl
      rw [h1,List.length_cons] at hl; omega
      exact absurd (by simp) (enc_no hpR (c:=c.toNat) hc hpc c hm)
def Pl (l:List UInt8):Prop:=∃ ps,(∀ p∈ps,isR p∧N6 p=true)∧l=S6 ps
theorem Pl.nil:Pl []:=⟨[],fun _ h=>absurd h List.not_mem_nil,rfl⟩
theorem Pl.split {a b:List UInt8} (h:Pl (a++b)) (hb:∀ c t,b=c::t→c.toNat<128):Pl a∧Pl b:=by
 obtain ⟨ps,h1,h2⟩:=h
 obtain ⟨pa,pb,rfl,e1,e2⟩:=enc_split ps a b (fun p hp=>(h1 p hp).1) h2.symm hb
 exact ⟨⟨pa,fun p hp=>h1 p (List.mem_append_left _ hp),e1⟩,⟨pb,fun p hp=>h1 p (List.mem_append_right _ hp),e2⟩⟩
theorem pl_of {l:List UInt8} (_:K4 l=true) (hp:I0 l=l):Pl l :=
 ⟨(K6 l).filter N6,fun p hq=>⟨runes_isR l p (List.mem_filter.1 hq).1,(List.mem_filter.1 hq).2⟩,hp.symm⟩
theorem plain_enc {p:Int} (h:isR p) (t:List UInt8):I0 (encodeRune p++t)=(if N6 p then encodeRune p else [])++I0 t:=by
 unfold I0
 rw [runes_enc1 h,List.filter_cons]
 split
 rw [L3]
 rfl
end Go.Xml
namespace Go.Esc
open Go.Lib Go.Sw
def rdP (l:List UInt8):Int × Nat:=if badL l then (-1,1) else (((decodeL l).1:Int),(decodeL l).2)
theorem R7 {l:List UInt8} (h:decodeN l.length (l.getD 0 0).toNat (l.getD 1 0).toNat (l.getD 2 0).toNat (l.getD 3 0).toNat=(65533,1)):rdP l=(-1,1):=by
 have e:decodeL l=(65533,1):=by rw [decodeL_N,h]
 unfold rdP; rw [if_pos (show badL l by unfold badL; rw [e]; exact ⟨rfl,rfl⟩)]
theorem rdP_ok {l:List UInt8} {p m:Nat} (h:decodeN l.length (l.getD 0 0).toNat (l.getD 1 0).toNat (l.getD 2 0).toNat (l.getD 3 0).toNat=(p,m)) (hb:p≠65533∨m≠1):rdP l=((p:Int),m):=by
 have e:decodeL l=(p,m):=by rw [decodeL_N,h]
 unfold rdP; rw [if_neg (show ¬ badL l by unfold badL; rw [e]; dsimp only; omega),e]
def bt (s:ByteArray) (k:Nat):Nat:=(s.data.toList.getD k 0).toNat
theorem bt_eq (s:ByteArray) (k:Nat):B2 s (k:Int)=(bt s k:Int):=I9 s k
theorem S0 {n b0 b1 b2 b3:Nat} (h:¬ b0<128∧¬ (194≤b0∧b0<224∧1<n∧b1 / 64=2)∧¬ (224≤b0∧b0<240∧2<n∧b1 / 64=2∧b2 / 64=2∧2048≤b0 % 16 * 4096+b1 % 64 * 64+b2 % 64∧(b0 % 16 * 4096+b1 % 64 * 64+b2 % 64<55296∨57344≤b0 % 16 * 4096+b1 % 64 * 64+b2 % 64)) ∧
  ¬ (240≤b0∧b0<245∧3<n∧b1 / 64=2∧b2 / 64=2∧b3 / 64=2∧65536≤b0 % 8 * 262144+b1 % 64 * 4096+b2 % 64 * 64+b3 % 64∧b0 % 8 * 262144+b1 % 64 * 4096+b2 % 64 * 64+b3 % 64≤1114111)):decodeN n b0 b1 b2 b3=(65533,1):=by
 obtain ⟨h1,h2,h3,h4⟩:=h
 rcases decodeN_shape n b0 b1 b2 b3 with ⟨c,e⟩ | ⟨c1,c2,c3,cv,e⟩ | ⟨c1,c2,c3,c4,cv,cs,e⟩ | ⟨c1,c2,c3,c4,c5,cv,cw,e⟩ | e
 exact absurd c h1
 exact absurd ⟨by omega,by omega,c2,c3⟩ h2
 exact absurd ⟨by omega,by omega,c2,c3,c4,cv,cs⟩ h3
 exact absurd ⟨by omega,by omega,c2,c3,c4,c5,cv,cw⟩ h4
 exact e
theorem dec1 {n b0 b1 b2 b3:Nat} (h:b0<128):decodeN n b0 b1 b2 b3=(b0,1):=by unfold decodeN; rw [if_pos h]
theorem dec2 {n b0 b1 b2 b3:Nat} (h:194≤b0∧b0<224∧1<n∧b1 / 64=2):decodeN n b0 b1 b2 b3=(b0 % 32 * 64+b1 % 64,2):=by
 unfold decodeN; rw [if_neg (by omega),if_pos ⟨by omega,by omega,by omega⟩,if_pos (by omega)]
theorem dec3 {n b0 b1 b2 b3:Nat} (h:224≤b0∧b0<240∧2<n∧b1 / 64=2∧b2 / 64=2∧2048≤b0 % 16 * 4096+b1 % 64 * 64+b2 % 64∧(b0 % 16 * 4096+b1 % 64 * 64+b2 % 64<55296∨57344≤b0 % 16 * 4096+b1 % 64 * 64+b2 % 64)):decodeN n b0 b1 b2 b3=(b0 % 16 * 4096+b1 % 64 * 64+b2 % 64,3):=by
 unfold decodeN; rw [if_neg (by omega),if_neg (by omega),if_pos (by omega),if_pos (by omega)]
theorem dec4 {n b0 b1 b2 b3:Nat} (h:240≤b0∧b0<245∧3<n∧b1 / 64=2∧b2 / 64=2∧b3 / 64=2∧65536≤b0 % 8 * 262144+b1 % 64 * 4096+b2 % 64 * 64+b3 % 64∧b0 % 8 * 262144+b1 % 64 * 4096+b2 % 64 * 64+b3 % 64≤1114111):decodeN n b0 b1 b2 b3=(b0 % 8 * 262144+b1 % 64 * 4096+b2 % 64 * 64+b3 % 64,4):=by
 unfold decodeN; rw [if_neg (by omega),if_neg (by omega),if_neg (by omega),if_pos (by omega),if_pos (by omega)]
theorem rdP_step (l:List UInt8) (hne:l≠[]):pts l=(rdP l).1::pts (l.drop (rdP l).2):=by
 rw [pts_step l hne]
 unfold rdP
 split
 rename_i h; rw [h.2]
 rfl
theorem rdP_w (l:List UInt8) (hne:l≠[]):1≤(rdP l).2∧(rdP l).2≤l.length∧-1≤(rdP l).1∧(rdP l).1≤1114111:=by
 have h1:=decodeL_width l
 have h2:=decodeL_le l hne
 have h3:=decodeL_rune l
 have h4:=List.length_pos_iff.2 hne
 unfold rdP; split <;> dsimp only <;> omega
def intV (ps:List Int):List Value:=ps.map (Value.int .i64)
theorem iv_len (ps:List Int):(intV ps).length=ps.length:=List.length_map _
theorem iv_app (a b:List Int):intV (a++b)=intV a++intV b:=List.map_append
theorem iv_at {ps:List Int} {k:Nat} (h:k<ps.length):(intV ps)[k]? = some (.int .i64 (ps.getD k 0)):=by
 unfold intV; rw [List.getElem?_map,List.getElem?_eq_getElem h]; simp [List.getD,h]
theorem getDI_get (l:List Int) {j:Nat} (h:j<l.length):l.getD j 0=l[j]:=by simp [List.getD,h]
theorem takeI (l:List Int) {k:Nat} (h:k<l.length):l.take (k+1)=l.take k++[l.getD k 0]:=by
 rw [List.take_succ_eq_append_getElem h,getDI_get _ h]
theorem memI {l:List Int} {k:Nat} (h:k<l.length):l.getD k 0∈l:=by rw [getDI_get _ h]; exact List.getElem_mem _
theorem iv_ne {ps:List Int} {k:Nat} (h:k<ps.length):intV ps≠[]:=by
 intro h0; have:=congrArg List.length h0; rw [iv_len,List.length_nil] at this; omega
theorem pts_len (l:List UInt8):(pts l).length≤l.length:=by
 have:=runes_len l
 rw [runes_pts,List.length_map] at this; exact this
theorem O2 {et:TypeId} {sz:Nat} {a:Option Addr} {c:Nat} {g:Grp} {n n':Nat} {cs cs':List Value} (h:Sw.Own et sz (.slice a n c) g n cs) (hn:n=n') (hc:cs=cs'):Sw.Own et sz (.slice a n' c) g n' cs':=hn ▸ hc ▸ h
theorem dropR_ne {s:ByteArray} {q:Nat} (h:q<s.size):s.data.toList.drop q≠[]:=by
 intro h0; have:=congrArg List.length h0; rw [List.length_drop,H0,List.length_nil] at this; omega
theorem P4 (s:ByteArray) (k:Nat):(s.extract k s.size).size=s.size - k:=by rw [ByteArray.size_extract,Nat.min_self]
theorem pts_next {s:ByteArray} {i:Nat} (h:i<s.size):pts (s.data.toList.drop i)=(rdP (s.extract i s.size).data.toList).1::pts (s.data.toList.drop (i+(rdP (s.extract i s.size).data.toList).2)):=by
 rw [N3,rdP_step _ (dropR_ne h),List.drop_drop]
end Go.Esc
namespace Go.Esc
open Go.Lib Go.Sw
def G9 (base:Int):Nat→Int→List UInt8→Int × Nat
 | 0,a,_=>(a,0)
 | _+1,a,[]=>(a,0)
 | m+1,a,c::t=>if W9 (c.toNat:Int) base<0 then (a,0) else ((G9 base m (base * a+W9 (c.toNat:Int) base) t).1,(G9 base m (base * a+W9 (c.toNat:Int) base) t).2+1)
theorem numD_le (base:Int):∀ (m:Nat) (a:Int) (l:List UInt8),(G9 base m a l).2≤m∧(G9 base m a l).2≤l.length
  | 0,_,_=>⟨Nat.le_refl _,Nat.zero_le _⟩
  | _+1,_,[]=>⟨Nat.zero_le _,Nat.le_refl _⟩
  | m+1,a,c::t=>by
    unfold G9
    split
    exact ⟨Nat.zero_le _,Nat.zero_le _⟩
    have:=numD_le base m (base * a+W9 (c.toNat:Int) base) t
    rw [List.length_cons]; dsimp only; omega
theorem numD_all (base:Int):∀ (m:Nat) (a v:Int) (d t:List UInt8),numV base a d=some v→d.length=m∨(d.length<m∧∀ c t',t=c::t'→W9 (c.toNat:Int) base<0)→G9 base m a (d++t)=(v,d.length)
  | 0,a,v,d,t,hv,hm=>by
    obtain rfl:d=[]:=List.eq_nil_of_length_eq_zero (by omega)
    rw [numV_nil] at hv; injection hv with hv; subst hv; rfl
  | m+1,a,v,[],t,hv,hm=>by
    rw [numV_nil] at hv; injection hv with hv; subst hv
    rw [List.nil_append]
    cases t with
    | nil=>rfl
    | cons c t' =>
      rcases hm with hm | hm
      simp at hm
      unfold G9; rw [if_pos (hm.2 c t' rfl)]; rfl
  | m+1,a,v,c::d,t,hv,hm=>by
    rw [W7] at hv
    split at hv
    cases hv
    rename_i hc
    rw [List.length_cons] at hm
    have hm':d.length=m∨(d.length<m∧∀ c t',t=c::t'→W9 (c.toNat:Int) base<0):=by
      rcases hm with h | h
      exact .inl (by omega)
      exact .inr ⟨by omega,h.2⟩
    rw [List.cons_append,G9,if_neg hc,numD_all base m _ v d t hv hm']
    rfl
theorem numD_part (base:Int):∀ (m:Nat) (a:Int) (d t:List UInt8),(∀ c t',t=c::t'→W9 (c.toNat:Int) base<0)→(G9 base m a (d++t)).2=d.length→d.length≤m∧numV base a d=some (G9 base m a (d++t)).1
  | 0,a,d,t,ht,h=>by
    have:d.length=0:=by rw [← h]; rfl
    obtain rfl:=List.eq_nil_of_length_eq_zero this
    exact ⟨Nat.le_refl _,rfl⟩
  | m+1,a,[],t,ht,h=>by
    refine ⟨Nat.zero_le _,?_⟩
    rw [numV_nil,List.nil_append]
    cases t with
    | nil=>rfl
    | cons c t'=>unfold G9; rw [if_pos (ht c t' rfl)]
  | m+1,a,c::d,t,ht,h=>by
    rw [List.cons_append,List.length_cons] at h ⊢
    unfold G9 at h ⊢
    split at h
    simp at h
    rename_i hc
    rw [if_neg hc]
    dsimp only at h ⊢
    obtain ⟨h1,h2⟩:=numD_part base m (base * a+W9 (c.toNat:Int) base) d t ht (by omega)
    exact ⟨by omega,by rw [W7,if_neg hc]; exact h2⟩
theorem numD_le' (base:Int) (hb:base≤16):∀ (m:Nat) (a:Int) (d t:List UInt8),(∀ c t',t=c::t'→W9 (c.toNat:Int) base<0)→(G9 base m a (d++t)).2≤d.length
  | 0,_,_,_,_=>Nat.zero_le _
  | m+1,a,[],t,ht=>by
    rw [List.nil_append]
    cases t with
    | nil=>exact Nat.le_refl _
    | cons c t'=>unfold G9; rw [if_pos (ht c t' rfl)]; exact Nat.le_refl _
  | m+1,a,c::d,t,ht=>by
    rw [List.cons_append,List.length_cons]
    unfold G9
    split
    exact Nat.zero_le _
    have:=numD_le' base hb m (base * a+W9 (c.toNat:Int) base) d t ht
    dsimp only; omega
theorem d59 (base:Int) (u:List UInt8):∀ c t',(59::u:List UInt8)=c::t'→W9 (c.toNat:Int) base<0:=by
 intro c t' h
 injection h with h1 h2
 subst h1
 have:digC ((59:UInt8).toNat:Int)=-1:=by decide
 unfold W9; rw [this]; split <;> decide
def refN (at_:Nat) (r:Int × Nat) (l:List UInt8):Int × Nat :=
 if r.2=0∨l.length≤at_+r.2∨l.getD (at_+r.2) 0≠59∨r.1=0∨isB r.1=false then (-1,0) else (r.1,at_+r.2+1)
def I7 (l:List UInt8):Int × Nat :=
 if l.take 5=[38,97,109,112,59] then (38,5) else if l.take 4=[38,108,116,59] then (60,4) else if l.take 4=[38,103,116,59] then (62,4) else if l.take 6=[38,113,117,111,116,59] then (34,6) else if l.take 6=[38,97,112,111,115,59] then (39,6)
 else if l.take 3=[38,35,120]∨l.take 3=[38,35,88] then refN 3 (G9 16 6 0 (l.drop 3)) l else if l.take 2=[38,35] then refN 2 (G9 10 7 0 (l.drop 2)) l else (-1,0)
theorem take_no {q p u:List UInt8} (hq:∀ b∈q,b≠59) (hp:∀ b∈p,b≠59):(p++59::u).take (q.length+1)=q++[59] ↔ p=q:=by
  constructor
  intro h
  induction q generalizing p with
  | nil =>
    cases p with
    | nil=>rfl
    | cons b p=>simp at h; exact absurd h (hp b List.mem_cons_self)
  | cons c q ih =>
    cases p with
    | nil=>simp at h; exact absurd h.1.symm (hq c List.mem_cons_self)
    | cons b p =>
      simp only [List.cons_append,List.length_cons,List.take_succ_cons,List.cons.injEq] at h
      rw [h.1,ih (fun x hx=>hq x (List.mem_cons_of_mem _ hx)) (fun x hx=>hp x (List.mem_cons_of_mem _ hx)) h.2]
  rintro rfl
  rw [show p.length+1=(p++[59]).length by simp,show p++59::u=(p++[59])++u by simp,List.take_left]
theorem take_pre {q p u:List UInt8} (hq:∀ b∈q,b≠59):(p++59::u).take q.length=q ↔ p.take q.length=q:=by
  induction q generalizing p with
  | nil=>simp
  | cons c q ih =>
    cases p with
    | nil=>simp only [List.nil_append,List.length_cons,List.take_succ_cons,List.cons.injEq,List.take_nil]; exact ⟨fun h=>absurd h.1.symm (hq c List.mem_cons_self),fun h=>by cases h⟩
    | cons b p=>simp only [List.cons_append,List.length_cons,List.take_succ_cons,List.cons.injEq,ih (fun x hx=>hq x (List.mem_cons_of_mem _ hx))]
theorem take_all {q t:List UInt8} (hq:59∈q) (ht:∀ b∈t,b≠59) {n:Nat}:(t.take n)≠q:=by
 rintro rfl; exact ht 59 (List.mem_of_mem_take hq) rfl
theorem getD_in {l:List UInt8} {k:Nat} (h:k<l.length):l.getD k 0∈l:=by rw [getD_get _ h]; exact List.getElem_mem _
theorem refN_eq {pre d u:List UInt8} {base:Int} {m:Nat} (hb:base≤16) (hd:∀ b∈d,b≠59) :
    refN pre.length (G9 base m 0 (d++59::u)) (pre++(d++59::u))=if K9 d base m<0 then (-1,0) else (K9 d base m,pre.length+d.length+1):=by
  have hk:=numD_le base m 0 (d++59::u)
  have hk2:=numD_le' base hb m 0 d (59::u) (d59 base u)
  have hlen:(pre++(d++59::u)).length=pre.length+d.length+1+u.length:=by simp; omega
  have hget:∀ k,(pre++(d++59::u)).getD (pre.length+k) 0=(d++59::u).getD k 0:=by
    intro k; simp only [List.getD]; rw [List.getElem?_append_right (Nat.le_add_right _ _),Nat.add_sub_cancel_left]
  by_cases hall:(G9 base m 0 (d++59::u)).2=d.length
  obtain ⟨h1,h2⟩:=numD_part base m 0 d (59::u) (d59 base u) hall
  have h59:(d++59::u).getD d.length 0=59:=by simp [List.getD]
  unfold refN K9
  rw [hall,hlen,hget,h59,h2]
  dsimp only
  by_cases h0:d.length=0
  rw [if_pos (show d.length=0∨_ from .inl h0)]; rw [if_pos (show d.length=0∨m<d.length from .inl h0)]; rw [if_pos (by decide)]
  rw [if_neg (show ¬ (d.length=0∨m<d.length) by omega)]
  by_cases hn:(G9 base m 0 (d++59::u)).1=0∨isB (G9 base m 0 (d++59::u)).1=false
  rw [if_pos hn,if_pos (by right; right; right; exact hn),if_pos (by decide)]
  rw [if_neg hn]
  have hr:isR (G9 base m 0 (d++59::u)).1:=isB_iff.1 (by cases hq:isB (G9 base m 0 (d++59::u)).1 with | true=>rfl | false=>exact absurd (.inr hq) hn)
  have:=hr.1
  rw [if_neg (by
    rintro (h | h | h | h)
    exact h0 h
    omega
    exact h rfl
    exact hn h),if_neg (by omega)]
  have hlt:(G9 base m 0 (d++59::u)).2<d.length:=by omega
  have hne:(d++59::u).getD (G9 base m 0 (d++59::u)).2 0≠59:=by
    have e:(d++59::u).getD (G9 base m 0 (d++59::u)).2 0=d.getD (G9 base m 0 (d++59::u)).2 0:=by
      simp only [List.getD,List.getElem?_append_left hlt]
    rw [e]; exact hd _ (getD_in hlt)
  have hnum:K9 d base m<0:=by
    unfold K9
    split
    decide
    rename_i hc
    cases hv:numV base 0 d with
    | none=>decide
    | some v =>
      have:=numD_all base m 0 v d (59::u) hv (by
        rcases Nat.lt_or_ge d.length m with h | h
        exact .inr ⟨h,d59 base u⟩
        exact .inl (by omega))
      rw [this] at hlt; exact absurd hlt (Nat.lt_irrefl _)
  unfold refN
  rw [hget,if_pos (.inr (.inr (.inl hne))),if_pos hnum]
theorem find59:∀ t:List UInt8,¬ (∀ b∈t,b≠59)→∃ p u,t=p++59::u∧∀ b∈p,b≠59
  | [],h=>absurd (fun b hb=>by cases hb) h
  | b::t,h=>by
    by_cases hb:b=59
    exact ⟨[],t,by rw [hb]; rfl,by intro x hx; cases hx⟩
    obtain ⟨p,u,e,hp⟩:=find59 t (fun h2=>h fun x hx=>by
      rcases List.mem_cons.1 hx with hx | hx
      rw [hx]; exact hb
      exact h2 x hx)
    exact ⟨b::p,u,by rw [e]; rfl,fun x hx=>by
      rcases List.mem_cons.1 hx with hx | hx
      rw [hx]; exact hb
      exact hp x hx⟩
theorem refD_eq (t:List UInt8):I7 (38::t)=if (X7 t).1<0 then (-1,0) else ((X7 t).1,(X7 t).2+1):=by
 by_cases h59:∀ b∈t,b≠59
 -- no end in sight
 have h38:∀ b∈(38::t),b≠59:=by
  intro b hb; rcases List.mem_cons.1 hb with rfl | hb
  decide
  exact h59 b hb
 have hc:X7 t=(-1,0):=by unfold X7; rw [idxL_none h59,if_neg (Nat.lt_irrefl _)]
 have hN:∀ k r,refN k r (38::t)=(-1,0):=by
  intro k r
  unfold refN
  by_cases hl:(38::t).length≤k+r.2
  rw [if_pos (.inr (.inl hl))]
  rw [if_pos (.inr (.inr (.inl (h38 _ (getD_in (by omega))))))]
 rw [hc,if_pos (by decide)]
 unfold I7
 rw [if_neg (take_all (by decide) h38),if_neg (take_all (by decide) h38),if_neg (take_all (by decide) h38),if_neg (take_all (by decide) h38),if_neg (take_all (by decide) h38),hN,hN]
 split
 rfl
 split <;> rfl
 -- t=p++59::u
 obtain ⟨p,u,rfl,hp⟩:=find59 t h59
 rw [refC_at hp]
 dsimp only
 have nm:∀ q:List UInt8,(∀ b∈q,b≠59)→((38::(p++59::u)).take (q.length+2)=38::(q++[59]) ↔ p=q):=by
  intro q hq
  rw [List.take_succ_cons,List.cons.injEq,take_no hq hp]; simp
 have pr:∀ q:List UInt8,(∀ b∈q,b≠59)→((38::(p++59::u)).take (q.length+1)=38::q ↔ p.take q.length=q):=by
  intro q hq
  rw [List.take_succ_cons,List.cons.injEq,take_pre hq]; simp
 have n1:(38::(p++59::u)).take 5=[38,97,109,112,59] ↔ p=[97,109,112]:=nm [97,109,112] (by decide)
 have n2:(38::(p++59::u)).take 4=[38,108,116,59] ↔ p=[108,116]:=nm [108,116] (by decide)
 have n3:(38::(p++59::u)).take 4=[38,103,116,59] ↔ p=[103,116]:=nm [103,116] (by decide)
 have n4:(38::(p++59::u)).take 6=[38,113,117,111,116,59] ↔ p=[113,117,111,116]:=nm [113,117,111,116] (by decide)
 have n5:(38::(p++59::u)).take 6=[38,97,112,111,115,59] ↔ p=[97,112,111,115]:=nm [97,112,111,115] (by decide)
 have p1:(38::(p++59::u)).take 3=[38,35,120] ↔ p.take 2=[35,120]:=pr [35,120] (by decide)
 have p2:(38::(p++59::u)).take 3=[38,35,88] ↔ p.take 2=[35,88]:=pr [35,88] (by decide)
 have p3:(38::(p++59::u)).take 2=[38,35] ↔ p.take 1=[35]:=pr [35] (by decide)
 unfold I7 refM
 by_cases c1:p=[97,109,112]
 rw [if_pos (n1.2 c1),if_pos c1,c1]; rfl
 rw [if_neg (fun h=>c1 (n1.1 h)),if_neg c1]
 by_cases c2:p=[108,116]
 rw [if_pos (n2.2 c2),if_pos c2,c2]; rfl
 rw [if_neg (fun h=>c2 (n2.1 h)),if_neg c2]
 by_cases c3:p=[103,116]
 rw [if_pos (n3.2 c3),if_pos c3,c3]; rfl
 rw [if_neg (fun h=>c3 (n3.1 h)),if_neg c3]
 by_cases c4:p=[113,117,111,116]
 rw [if_pos (n4.2 c4),if_pos c4,c4]; rfl
 rw [if_neg (fun h=>c4 (n4.1 h)),if_neg c4]
 by_cases c5:p=[97,112,111,115]
 rw [if_pos (n5.2 c5),if_pos c5,c5]; rfl
 rw [if_neg (fun h=>c5 (n5.1 h)),if_neg c5]
 have split2:∀ {a b:UInt8},p.take 2=[a,b]→p=a::b::p.drop 2:=fun h=>by
  have:=List.take_append_drop 2 p; rw [h] at this; exact this.symm
 have go:∀ {a b:UInt8} {base:Int} {m:Nat},base≤16→p.take 2=[a,b]→refN 3 (G9 base m 0 ((38::(p++59::u)).drop 3)) (38::(p++59::u))=if K9 (p.drop 2) base m<0 then (-1,0) else (K9 (p.drop 2) base m,p.length+1+1):=by
  intro a b base m hb h
  have e:=split2 h
  have hd:∀ x∈p.drop 2,x≠59:=fun x hx=>hp x (List.mem_of_mem_drop hx)
  have:=refN_eq (pre:=[38,a,b]) (d:=p.drop 2) (u:=u) (base:=base) (m:=m) hb hd
  have e1:[38,a,b]++(p.drop 2++59::u)=38::(p++59::u):=by
   rw [show [38,a,b]++(p.drop 2++59::u)=38::((a::b::p.drop 2)++59::u) from rfl,← e]
  have e2:(38::(p++59::u)).drop 3=p.drop 2++59::u:=by rw [← e1]; rfl
  have e3:[38,a,b].length+(p.drop 2).length+1=p.length+1+1:=by
   have:=congrArg List.length e; simp only [List.length_cons] at this; simp only [List.length_cons,List.length_nil]; omega
  rw [e1,e3] at this
  rw [e2]; exact this
 by_cases d1:p.take 2=[35,120]
 rw [if_pos (.inl (p1.2 d1)),if_pos d1,go (by decide) d1]
 by_cases d2:p.take 2=[35,88]
 rw [if_pos (.inr (p2.2 d2)),if_neg d1,if_pos d2,go (by decide) d2]
 rw [if_neg (by rintro (h | h); exact d1 (p1.1 h); exact d2 (p2.1 h)),if_neg d1,if_neg d2]
 by_cases d3:p.take 1=[35]
 rw [if_pos (p3.2 d3),if_pos d3]
 have e:p=35::p.drop 1:=by have:=List.take_append_drop 1 p; rw [d3] at this; exact this.symm
 have hd:∀ x∈p.drop 1,x≠59:=fun x hx=>hp x (List.mem_of_mem_drop hx)
 have:=refN_eq (pre:=[38,35]) (d:=p.drop 1) (u:=u) (base:=10) (m:=7) (by decide) hd
 have e1:[38,35]++(p.drop 1++59::u)=38::(p++59::u):=by
  rw [show [38,35]++(p.drop 1++59::u)=38::((35::p.drop 1)++59::u) from rfl,← e]
 have e2:(38::(p++59::u)).drop 2=p.drop 1++59::u:=by rw [← e1]; rfl
 have e3:([38,35]:List UInt8).length+(p.drop 1).length+1=p.length+1+1:=by
  have:=congrArg List.length e; simp only [List.length_cons] at this; simp only [List.length_cons,List.length_nil]; omega
 rw [e1,e3] at this
 rw [e2]; exact this
 rw [if_neg (fun h=>d3 (p3.1 h)),if_neg d3,if_pos (by decide)]
theorem unD_cons (c:UInt8) (t:List UInt8):unL (c::t)=if c≠38 then c::unL t else if (I7 (c::t)).1<0 then c::unL t else encodeRune (I7 (c::t)).1++unL ((c::t).drop (I7 (c::t)).2):=by
 rw [Q7]
 by_cases h:c=38
 subst h
 simp only [ne_eq,not_true_eq_false,if_false]
 rw [refD_eq]
 by_cases hr:(X7 t).1<0
 simp only [if_pos hr]; rw [if_pos (by decide)]
 simp only [if_neg hr]; rfl
 rw [if_pos h,if_pos h]
theorem refD_rng (t:List UInt8):(¬ (I7 (38::t)).1<0→isR (I7 (38::t)).1)∧(I7 (38::t)).2≤t.length+1∧(¬ (I7 (38::t)).1<0→1≤(I7 (38::t)).2)∧-1≤(I7 (38::t)).1:=by
 have hc:(X7 t).2≤t.length∧(¬ (X7 t).1<0→isR (X7 t).1):=by
  unfold X7
  dsimp only
  split
  rename_i h; exact ⟨by dsimp only; omega,fun hr=>refM_isR hr⟩
  exact ⟨Nat.zero_le _,fun h=>absurd (by decide) h⟩
 rw [refD_eq]
 by_cases hr:(X7 t).1<0
 rw [if_pos hr]; exact ⟨fun h=>absurd (by decide) h,Nat.zero_le _,fun h=>absurd (by decide) h,by decide⟩
 rw [if_neg hr]; exact ⟨fun _=>hc.2 hr,by dsimp only; omega,fun _=>by dsimp only; omega,by dsimp only; omega⟩
end Go.Esc
namespace Go.Xml
open Go.Esc Go.Json Go.Lib
def rfsF:Nat→List UInt8→Option (List UInt8)
 | 0,_=>some []
 | _+1,[]=>some []
 | n+1,b::t=>if b≠38 then (rfsF n t).map ([b]++·) else if (X7 t).1<0∨N6 (X7 t).1=false then none else (rfsF n (t.drop (X7 t).2)).map (encodeRune (X7 t).1++·)
def rfs (l:List UInt8):Option (List UInt8):=rfsF l.length l
theorem rfsF_nil:∀ n,rfsF n []=some []
 | 0=>rfl
 | _+1=>rfl
theorem rfsF_fuel:∀ (n m:Nat) (l:List UInt8),l.length≤n→l.length≤m→rfsF n l=rfsF m l
  | _,_,[],_,_=>by rw [rfsF_nil,rfsF_nil]
  | 0,_,_::_,h,_=>by simp at h
  | _+1,0,_::_,_,h=>by simp at h
  | n+1,m+1,b::t,hn,hm=>by
    simp only [List.length_cons] at hn hm
    simp only [rfsF]
    rw [rfsF_fuel n m t (by omega) (by omega),rfsF_fuel n m (t.drop (X7 t).2) (by rw [List.length_drop]; omega) (by rw [List.length_drop]; omega)]
theorem X6 (b:UInt8) (t:List UInt8):rfs (b::t)=if b≠38 then (rfs t).map ([b]++·) else if (X7 t).1<0∨N6 (X7 t).1=false then none else (rfs (t.drop (X7 t).2)).map (encodeRune (X7 t).1++·):=by
 unfold rfs
 rw [List.length_cons,rfsF,rfsF_fuel t.length (t.drop (X7 t).2).length _ (by rw [List.length_drop]; omega) (Nat.le_refl _)]
theorem rfs_keep:∀ (a t:List UInt8),(∀ b∈a,b≠38)→rfs (a++t)=(rfs t).map (a++·)
  | [],t,_=>by cases h:rfs t <;> simp [h]
  | b::a,t,h=>by
    rw [List.cons_append,X6,if_pos (h b List.mem_cons_self),rfs_keep a t (fun c hc=>h c (List.mem_cons_of_mem _ hc)),Option.map_map]; rfl
theorem W6:∀ (a t:List UInt8),(∀ b∈a,b≠38)→C8 38 (a++t)=(a++(C8 38 t).1,(C8 38 t).2)
  | [],t,_=>rfl
  | b::a,t,h=>by
    rw [List.cons_append,C8,W6 a t (fun c hc=>h c (List.mem_cons_of_mem _ hc))]
    dsimp only
    rw [if_neg (h b List.mem_cons_self)]; rfl
theorem un_keepL:∀ (a t:List UInt8),(∀ b∈a,b≠38)→unL (a++t)=a++unL t
  | [],t,_=>rfl
  | b::a,t,h=>by
    rw [List.cons_append,unD_cons,if_pos (h b List.mem_cons_self),un_keepL a t (fun c hc=>h c (List.mem_cons_of_mem _ hc))]; rfl
theorem dig38 (base:Int):W9 ((38:UInt8).toNat:Int) base<0:=by
 have:digC ((38:UInt8).toNat:Int)=-1:=by decide
 unfold W9; rw [this]; split <;> decide
theorem numV_dig {base:Int}:∀ {a v:Int} {l:List UInt8},numV base a l=some v→∀ b∈l,b≠38
  | _,_,[],_=>fun _ h=>absurd h List.not_mem_nil
  | a,v,c::t,h=>by
    rw [numV] at h
    split at h
    cases h
    rename_i hc
    intro b hb
    rcases List.mem_cons.1 hb with rfl | hb
    intro he; subst he; exact hc (dig38 base)
    exact numV_dig h b hb
theorem num_no {base:Int} {m:Nat} {l:List UInt8} (h:0≤K9 l base m):∀ b∈l,b≠38:=by
 unfold K9 at h
 split at h
 omega
 cases hv:numV base 0 l with
 | none=>rw [hv] at h; simp at h
 | some v=>exact numV_dig hv
theorem drop_no {l:List UInt8} {n:Nat} {p:List UInt8} (hp:l.take n=p) (hq:∀ b∈p,b≠38) (h:∀ b∈l.drop n,b≠38):∀ b∈l,b≠38:=by
 intro b hb
 rw [← List.take_append_drop n l,hp] at hb
 exact (List.mem_append.1 hb).elim (hq b) (h b)
theorem ref_no {t:List UInt8} (h:0≤refM t):∀ b∈t,b≠38:=by
 unfold refM at h
 by_cases h1:t=[97,109,112]
 subst h1; decide
 rw [if_neg h1] at h
 by_cases h2:t=[108,116]
 subst h2; decide
 rw [if_neg h2] at h
 by_cases h3:t=[103,116]
 subst h3; decide
 rw [if_neg h3] at h
 by_cases h4:t=[113,117,111,116]
 subst h4; decide
 rw [if_neg h4] at h
 by_cases h5:t=[97,112,111,115]
 subst h5; decide
 rw [if_neg h5] at h
 by_cases h6:t.take 2=[35,120]
 rw [if_pos h6] at h; exact drop_no h6 (by decide) (num_no h)
 rw [if_neg h6] at h
 by_cases h7:t.take 2=[35,88]
 rw [if_pos h7] at h; exact drop_no h7 (by decide) (num_no h)
 rw [if_neg h7] at h
 by_cases h8:t.take 1=[35]
 rw [if_pos h8] at h; exact drop_no h8 (by decide) (num_no h)
 rw [if_neg h8] at h; omega
theorem ref_none {t:List UInt8} (h:∀ b∈t,b≠59):(X7 t).1<0:=by
 have hi:Go.Esc.idxL 59 t=t.length:=by
  unfold Go.Esc.idxL
  rw [List.findIdx_eq_length]
  intro b hb; simpa using h b hb
 unfold X7
 rw [hi]
 dsimp only
 rw [if_neg (Nat.lt_irrefl _)]; decide
theorem idx59:∀ {p u:List UInt8},(∀ b∈p,b≠59)→idxL [59] (p++59::u)=some p.length
  | [],u,_=>by simp [idxL,List.isPrefixOf]
  | b::p,u,h=>by
    have hb:b≠59:=h b List.mem_cons_self
    rw [List.cons_append,idxL,idx59 (fun c hc=>h c (List.mem_cons_of_mem _ hc)),if_neg (by simpa [List.isPrefixOf] using fun e=>hb e.symm)]
    rfl
theorem idx59_no:∀ {p:List UInt8},(∀ b∈p,b≠59)→idxL [59] p=none
  | [],_=>by simp [idxL]
  | b::p,h=>by
    have hb:b≠59:=h b List.mem_cons_self
    rw [idxL,idx59_no (fun c hc=>h c (List.mem_cons_of_mem _ hc)),if_neg (by simpa [List.isPrefixOf] using fun e=>hb e.symm)]
    rfl
theorem bad_at {p r:List UInt8} (h59:∀ b∈p,b≠59) (h38:∀ b∈p,b≠38):badX (p++59::r)=decide (refM p<0):=by
 have ht:(p++59::r).take (p.length+1)=p++[59]:=by
  rw [show p++59::r=(p++[59])++r by simp,List.take_left' (by simp)]
 unfold badX
 rw [idx59 h59]
 dsimp only
 rw [ht,show p++[59]=p++59::[] from rfl,Q7,if_neg (by simp),refC_at h59]
 dsimp only
 by_cases hr:refM p<0
 rw [if_pos hr,unL_app p _ h38]
 simp [hr,Q7,unL_nil]
 have hd:(p++([59]:List UInt8)).drop (p.length+1)=[]:=by simp
 rw [if_neg hr,hd,unL_nil,List.append_nil,decide_eq_false hr]
 rw [beq_eq_false_iff_ne]
 intro e
 rcases enc_byte (refM_isR hr) with ⟨_,h⟩ | ⟨_,h⟩
 rw [h] at e; simp at e
 have:=h 38 (by rw [e]; exact List.mem_cons_self)
 exact absurd this (by decide)
theorem bad_no {p:List UInt8} (h59:∀ b∈p,b≠59):badX p=true:=by unfold badX; rw [idx59_no h59]
theorem plain_shrinks {qs:List Int} (h:∀ q∈qs,isR q):(I0 (S6 qs)).length≤(S6 qs).length:=by
  unfold I0
  rw [runes_enc0 h]
  clear h
  induction qs with
  | nil=>exact Nat.le_refl _
  | cons q qs ih =>
    rw [List.filter_cons,L3,List.length_append]
    split
    rw [L3,List.length_append]; omega
    omega
theorem part_at (c:UInt8):∀ t:List UInt8,(∀ b∈t,b≠c)∨∃ p u,t=p++c::u∧∀ b∈p,b≠c
  | []=>.inl fun _ h=>absurd h List.not_mem_nil
  | b::t=>by
    by_cases hb:b=c
    exact .inr ⟨[],t,by rw [hb]; rfl,fun _ h=>absurd h List.not_mem_nil⟩
    rcases part_at c t with h | ⟨p,u,e,h⟩
    exact .inl fun x hx=>by rcases List.mem_cons.1 hx with rfl | hx; exact hb; exact h x hx
    exact .inr ⟨b::p,u,by rw [e]; rfl,fun x hx=>by rcases List.mem_cons.1 hx with rfl | hx; exact hb; exact h x hx⟩
theorem enc_tail {ps:List Int} {c:UInt8} {u:List UInt8} (hp:∀ p∈ps,isR p) (hc:c.toNat<128) (h:S6 ps=c::u):∃ qs,ps=(c.toNat:Int)::qs∧u=S6 qs:=by
  cases ps with
  | nil=>cases h
  | cons q qs =>
    rw [L3] at h
    have hq:=hp q List.mem_cons_self
    rcases enc_byte hq with ⟨h1,e⟩ | ⟨h1,e⟩
    rw [e] at h
    injection h with e1 e2
    refine ⟨qs,?_,e2.symm⟩
    have h0:0≤q:=hq.1
    rw [← e1,byteZ q h0 (by omega)]
    congr 1; omega
    have hne:=enc_ne q []
    cases he:encodeRune q with
    | nil=>rw [he] at hne; exact absurd rfl hne
    | cons b t =>
      rw [he] at h e
      injection h with e1 _
      have:=e b List.mem_cons_self
      rw [e1] at this; omega
theorem pieces_sub:∀ (t:List UInt8),∀ b∈(C8 38 t).1,b∈t
  | [],_,h=>h
  | c::t,b,h=>by
    rw [C8] at h; (try dsimp only at h)
    split at h
    exact absurd h List.not_mem_nil
    rcases List.mem_cons.1 h with rfl | h
    exact List.mem_cons_self
    exact List.mem_cons_of_mem _ (pieces_sub t b h)
theorem pieces_short {p u:List UInt8} (h:¬ ∀ b∈p,b≠38) (h59:∀ b∈p,b≠59):∀ b∈(C8 38 (p++u)).1,b≠59:=by
 rcases part_at 38 p with h1 | ⟨a,c,e,h1⟩
 exact absurd h1 h
 ·
  subst e
  rw [List.append_assoc,W6 a _ h1,List.cons_append,C8]
  try dsimp only
  rw [if_pos rfl,List.append_nil]
  exact fun b hb=>h59 b (List.mem_append_left _ hb)
theorem encodeRune_pos (p:Int):0<(encodeRune p).length:=by
 have:=enc_ne p []
 rw [List.append_nil] at this
 exact List.length_pos_iff.2 this
theorem rfs_main:∀ (n:Nat) (ps:List Int),ps.length≤n→(∀ p∈ps,isR p∧N6 p=true)→(∃ qs,(∀ q∈qs,isR q)∧unL (S6 ps)=S6 qs)∧rfs (S6 ps)=if (C8 38 (S6 ps)).2.any badX=true∨I0 (unL (S6 ps))≠unL (S6 ps) then none else some (unL (S6 ps))
  | n,[],_,_=>⟨⟨[],fun _ h=>absurd h List.not_mem_nil,rfl⟩,by decide⟩
  | 0,p::ps,h,_=>by simp at h
  | n+1,p::ps,h,hp=>by
    obtain ⟨hpR,hpP⟩:=hp p List.mem_cons_self
    have hps:=fun q hq=>hp q (List.mem_cons_of_mem p hq)
    rw [List.length_cons] at h
    by_cases hp38:p=38
    subst hp38
    have e0:S6 (38::ps)=38::S6 ps:=by rw [L3,enc_one (by decide) (by decide)]; rfl
    rw [e0]
    generalize ht:S6 ps=t
    rcases part_at 59 t with h59 | ⟨p0,u,e,h59⟩
    -- no ';' is left
    obtain ⟨⟨qs,hq1,hq2⟩,_⟩:=rfs_main n ps (by omega) hps
    rw [ht] at hq2
    have hr:=ref_none h59
    refine ⟨⟨38::qs,fun q hq=>by rcases List.mem_cons.1 hq with rfl | hq; exact hpR; exact hq1 q hq,?_⟩,?_⟩
    rw [Q7,if_neg (by simp),if_pos hr,hq2,L3,enc_one (by decide) (by decide)]; rfl
    rw [X6,if_neg (by simp),if_pos (.inl hr),if_pos]
    refine .inl ?_
    rw [C8]; (try dsimp only); rw [if_pos rfl]
    rw [List.any_cons,bad_no (fun b hb=>h59 b (pieces_sub t b hb)),Bool.true_or]
    have hpR2:∀ q∈ps,isR q:=fun q hq=>(hps q hq).1
    obtain ⟨pa,pb,e1,e2,e3⟩:=enc_split ps p0 (59::u) hpR2 (by rw [ht,e]) (fun c t hc=>by injection hc with h1 _; rw [← h1]; decide)
    have hpb:∀ q∈pb,isR q∧N6 q=true:=fun q hq=>hps q (by rw [e1]; exact List.mem_append_right _ hq)
    obtain ⟨pc,e4,e5⟩:=enc_tail (fun q hq=>(hpb q hq).1) (by decide) e3.symm
    have hpc:∀ q∈pc,isR q∧N6 q=true:=fun q hq=>hpb q (by rw [e4]; exact List.mem_cons_of_mem _ hq)
    have hlen:pc.length≤n:=by
      have:=congrArg List.length e1
      rw [e4,List.length_append,List.length_cons] at this; omega
    obtain ⟨⟨qs,hq1,hq2⟩,hq3⟩:=rfs_main n pc hlen hpc
    rw [← e5] at hq2 hq3
    have hrc:X7 t=(refM p0,p0.length+1):=by rw [e]; exact refC_at h59
    have hdr:t.drop (p0.length+1)=u:=by rw [e,show p0++59::u=(p0++[59])++u by simp,List.drop_left' (by simp)]
    by_cases hr:refM p0<0
    obtain ⟨⟨qt,ht1,ht2⟩,_⟩:=rfs_main n ps (by omega) hps
    rw [ht] at ht2
    refine ⟨⟨38::qt,fun q hq=>by rcases List.mem_cons.1 hq with rfl | hq; exact hpR; exact ht1 q hq,?_⟩,?_⟩
    rw [Q7,if_neg (by simp),hrc,if_pos hr,ht2,L3,enc_one (by decide) (by decide)]; rfl
    rw [X6,if_neg (by simp),hrc,if_pos (.inl hr),if_pos]
    refine .inl ?_
    rw [C8]; (try dsimp only); rw [if_pos rfl,List.any_cons]
    by_cases h38:∀ b∈p0,b≠38
    rw [e,W6 p0 _ h38,C8]; (try dsimp only); rw [if_neg (by decide),bad_at h59 h38,decide_eq_true hr,Bool.true_or]
    rw [e,bad_no (pieces_short h38 h59),Bool.true_or]
    have h38:=ref_no (t:=p0) (by omega)
    have hx:=refM_isR hr
    have hun:unL (38::t)=encodeRune (refM p0)++unL u:=by rw [Q7,if_neg (by simp),hrc,if_neg hr,hdr]
    have hpi:(C8 38 (38::t)).2.any badX=(C8 38 u).2.any badX:=by
      rw [C8]; (try dsimp only); rw [if_pos rfl,List.any_cons,e,W6 p0 _ h38,C8]; (try dsimp only)
      rw [if_neg (by decide),bad_at h59 h38,decide_eq_false hr,Bool.false_or]
    refine ⟨⟨refM p0::qs,fun q hq=>by rcases List.mem_cons.1 hq with rfl | hq; exact hx; exact hq1 q hq,by rw [hun,hq2]; rfl⟩,?_⟩
    rw [X6,if_neg (by simp),hrc,hun,hpi,plain_enc hx]
    dsimp only
    rw [hdr,hq3]
    cases hpl:N6 (refM p0) with
    | false =>
      rw [if_pos (.inr rfl),if_pos]
      refine .inr fun hc=>?_
      have h1:=congrArg List.length hc
      have h2:=plain_shrinks hq1
      have h3:0<(encodeRune (refM p0)).length:=(encodeRune_pos _)
      rw [hq2] at h1
      simp only [Bool.false_eq_true,if_false,List.nil_append,List.length_append] at h1
      omega
    | true =>
      rw [if_neg (by rintro (h | h); exact hr h; cases h)]
      simp only [if_true]
      by_cases hc:(C8 38 u).2.any badX=true∨I0 (unL u)≠unL u
      rw [if_pos hc,if_pos (hc.imp id (fun h e=>h (List.append_cancel_left e)))]; rfl
      rw [if_neg hc,if_neg (fun h=>hc (h.imp id (fun h e=>h (by rw [e]))))]; rfl
    have hne:∀ b∈encodeRune p,b≠38:=fun b hb=>by simpa using enc_no hpR (c:=38) (by decide) hp38 b hb
    obtain ⟨⟨qs,hq1,hq2⟩,hq3⟩:=rfs_main n ps (by omega) hps
    rw [L3,un_keepL _ _ hne,W6 _ _ hne,rfs_keep _ _ hne,hq3,plain_enc hpR,hpP]
    simp only [if_true]
    refine ⟨⟨p::qs,fun q hq=>by rcases List.mem_cons.1 hq with rfl | hq; exact hpR; exact hq1 q hq,by rw [hq2]; rfl⟩,?_⟩
    by_cases hc:(C8 38 (S6 ps)).2.any badX=true∨I0 (unL (S6 ps))≠unL (S6 ps)
    rw [if_pos hc,if_pos (hc.imp id (fun h e=>h (List.append_cancel_left e)))]; rfl
    rw [if_neg hc,if_neg (fun h=>hc (h.imp id (fun h e=>h (by rw [e]))))]; rfl
end Go.Xml
namespace Go.Xml
open Go.Esc Go.Json Go.Lib
def R4 (l:List UInt8):Option (List UInt8 × List UInt8):=if nmX l=0 then none else some (l.take (nmX l),l.drop (nmX l))
def G4 (l:List UInt8):Option (QN × List UInt8) :=
 match R4 l with
 | none=>none
 | some (a,r)=>if [58].isPrefixOf r then (R4 (r.drop 1)).map fun x=>(⟨a,x.1,true⟩,x.2) else some (⟨[],a,false⟩,r)
theorem name_ok {l:List UInt8}:match R4 l with | some x=>L9 (l,0)=(x.1,(x.2,0)) | none=>(L9 (l,0)).2.2=70:=by
 unfold R4 L9
 by_cases h:nmX l=0
 rw [if_pos h]; dsimp only; rw [if_pos h]; rfl
 rw [if_neg h]; dsimp only; rw [if_neg h]
theorem qual_ok {l:List UInt8}:match G4 l with | some x=>A8 (l,0)=(x.1,(x.2,0)) | none=>(A8 (l,0)).2.2=70:=by
  have h1:=name_ok (l:=l)
  unfold G4 A8
  dsimp only
  cases hn:R4 l with
  | none =>
    rw [hn] at h1
    dsimp only at h1 ⊢
    have h2:=take_e [58] (L9 (l,0)).2
    split
    show (L9 _).2.2=70
    rw [name_ne (by rw [h2,h1]; decide),h2,h1]
    show (G7 _ _).2.2=70
    rw [h2,h1]
  | some x =>
    rw [hn] at h1
    dsimp only at h1 ⊢
    rw [h1]
    dsimp only
    unfold G7
    dsimp only
    by_cases hp:[58].isPrefixOf x.2=true
    rw [if_pos hp,if_pos hp]
    dsimp only
    have h3:=name_ok (l:=x.2.drop 1)
    cases hm:R4 (x.2.drop 1) with
    | none=>rw [hm] at h3; exact h3
    | some y =>
      rw [hm] at h3
      show (if true=true then _ else _)=_
      rw [if_pos rfl]
      show ((⟨x.1,(L9 (x.2.drop 1,0)).1,true⟩:QN),(L9 (x.2.drop 1,0)).2)=_
      rw [h3]
    rw [if_neg hp,if_neg hp]
    rfl
def L1 (w l:List UInt8):Option (List UInt8 × List UInt8):=(idxL w l).map fun i=>(l.take i,l.drop (i+w.length))
theorem until_ok {w l:List UInt8}:match L1 w l with | some x=>I1 w (l,0)=(x.1,(x.2,0)) | none=>(I1 w (l,0)).2.2=70:=by
 unfold L1 I1
 cases idxL w l with
 | none=>rfl
 | some i=>rfl
def O9 (w l:List UInt8):Option (List UInt8):=if w.isPrefixOf l then some (l.drop w.length) else none
theorem must_ok {w l:List UInt8}:match O9 w l with | some x=>D4 w (l,0)=(x,0) | none=>(D4 w (l,0)).2=70:=by
 unfold O9 D4
 by_cases h:w.isPrefixOf l=true
 rw [if_pos h]; dsimp only; rw [if_pos h]
 rw [if_neg h]; dsimp only; rw [if_neg h]; rfl
def K0 (l:List UInt8):Option (Option (List UInt8)) :=
 if [60,33,45,45].isPrefixOf l then ((L1 [45,45] (l.drop 4)).bind fun x=>O9 [62] x.2).map some
 else if [60,63].isPrefixOf l then ((R4 (l.drop 2)).bind fun x=>L1 [63,62] x.2).map fun x=>some x.2 else some none
theorem take_0 {w l:List UInt8}:G7 w (l,0)=if w.isPrefixOf l then (true,(l.drop w.length,0)) else (false,(l,0)):=rfl
theorem take_yes {w l:List UInt8} (h:w.isPrefixOf l=true):G7 w (l,0)=(true,(l.drop w.length,0)):=by rw [take_0,if_pos h]
theorem take_no {w l:List UInt8} (h:¬ w.isPrefixOf l=true):G7 w (l,0)=(false,(l,0)):=by rw [take_0,if_neg h]
theorem aside_ok {l:List UInt8}:match K0 l with | some (some r)=>I2 (l,0)=(true,(r,0)) | some none=>I2 (l,0)=(false,(l,0)) | none=>(I2 (l,0)).1=true∧(I2 (l,0)).2.2=70:=by
  unfold K0 I2
  by_cases h1:[60,33,45,45].isPrefixOf l=true
  rw [if_pos h1,take_yes h1,if_pos rfl]
  dsimp only [List.length_cons,List.length_nil]
  have hu:=until_ok (w:=[45,45]) (l:=l.drop 4)
  cases hE:L1 [45,45] (l.drop 4) with
  | none =>
    rw [hE] at hu
    dsimp only at hu
    exact ⟨rfl,by rw [must_ne (by rw [hu]; decide),hu]⟩
  | some x =>
    rw [hE] at hu
    dsimp only at hu
    rw [Option.bind_some,hu]
    have hm:=must_ok (w:=[62]) (l:=x.2)
    cases hM:O9 [62] x.2 with
    | none=>rw [hM] at hm; exact ⟨rfl,hm⟩
    | some y=>rw [hM] at hm; exact congrArg (Prod.mk true) hm
  rw [if_neg h1,take_no h1]
  simp only [Bool.false_eq_true,if_false]
  by_cases h2:[60,63].isPrefixOf l=true
  rw [if_pos h2,take_yes h2,if_pos rfl]
  dsimp only [List.length_cons,List.length_nil]
  have hn:=name_ok (l:=l.drop 2)
  cases hE:R4 (l.drop 2) with
  | none =>
    rw [hE] at hn
    dsimp only at hn
    exact ⟨rfl,by rw [until_ne (by rw [hn]; decide),hn]⟩
  | some x =>
    rw [hE] at hn
    dsimp only at hn
    rw [Option.bind_some,hn]
    have hm:=until_ok (w:=[63,62]) (l:=x.2)
    cases hM:L1 [63,62] x.2 with
    | none=>rw [hM] at hm; exact ⟨rfl,hm⟩
    | some y=>rw [hM] at hm; exact congrArg (fun z:List UInt8 × XS=>(true,z.2)) hm
  rw [if_neg h2,take_no h2]
  simp only [Bool.false_eq_true,if_false]
end Go.Xml
namespace Go.Xml
open Go.Esc Go.Json Go.Lib
def I6:Nat→List UInt8→Option (List UInt8)
  | 0,l=>some l
  | n+1,l =>
    match K0 (blk l) with
    | none=>none
    | some (some r)=>I6 n r
    | some none=>some (blk l)
def W5 (l:List UInt8):Option (List UInt8 × List UInt8):=if [34].isPrefixOf l then L1 [34] (l.drop 1) else if [39].isPrefixOf l then L1 [39] (l.drop 1) else none
def refsE (s:List UInt8):Option (List UInt8):=rfs (B5 s)
def S1 (l:List UInt8):Option (AT × List UInt8) :=
  match G4 l with
  | none=>none
  | some (a,r) =>
    match O9 [61] (blk r) with
    | none=>none
    | some r1 =>
      match W5 (blk r1) with
      | none=>none
      | some (v,r2)=>if (60:UInt8)∈v then none else match refsE v with
        | none=>none
        | some x=>some (⟨a,x⟩,r2)
def tagE:Nat→List AT→List UInt8→Option (List AT × Bool × List UInt8)
  | 0,_,_=>none
  | n+1,acc,l =>
    if [47,62].isPrefixOf (blk l) then some (acc,true,(blk l).drop 2)
    else if [62].isPrefixOf (blk l) then some (acc,false,(blk l).drop 1)
    else if (blk l).length<l.length then match S1 (blk l) with
      | none=>none
      | some (x,r)=>tagE n (acc++[x]) r
    else none
def spE:List AT→List (List UInt8)→SPX→Option SPX
  | [],_,sp=>some sp
  | a::r,seen,sp =>
    match M0 a with
    | none=>spE r seen sp
    | some p=>if p∈seen∨a.q.has=true∧a.value=[] then none else spE r (p::seen) ((p,a.value)::sp)
def R6 (p:List UInt8) (has:Bool) (sp:SPX):Option (List UInt8):=if has=true∧K7 sp p=none then none else some ((K7 sp p).getD [])
def O3:List AT→List XA→SPX→Option (List XA)
  | [],out,_=>some out
  | a::r,out,sp =>
    if (M0 a).isSome then O3 r out sp else
    match (if a.q.has then R6 a.q.pre true sp else some []) with
    | none=>none
    | some s=>if out.any (fun y=>y.space==s&&y.name==a.q.name) then none else O3 r (out++[⟨s,a.q.name,a.value⟩]) sp
def A0a (l:List UInt8):Option (List UInt8 × List UInt8) :=
  match idxL [60] l with
  | none=>none
  | some i=>if (idxL [93,93,62] (l.take i)).isSome then none else match refsE (l.take i) with
    | none=>none
    | some x=>some (x,l.drop i)
abbrev EX:=Except Int (XN × List UInt8)
def N1 (el:List UInt8→EX) (ks:List XN) (l:List UInt8):Except Int (List XN × List UInt8) :=
  if [60,33,91,67,68,65,84,65,91].isPrefixOf l then match L1 [93,93,62] (l.drop 9) with
    | none=>.error 70
    | some (s,r)=>.ok (addX ks (B5 s),r)
  else match K0 l with
    | none=>.error 70
    | some (some r)=>.ok (ks,r)
    | some none =>
      if [60].isPrefixOf l then match el (l.drop 1) with
        | .error e=>.error e
        | .ok (k,r)=>.ok (ks++[k],r)
      else match A0a l with
        | none=>.error 70
        | some (x,r)=>.ok (addX ks x,r)
def X0 (el:List UInt8→EX):Nat→List XN→List UInt8→Except Int (List XN × List UInt8)
  | 0,_,_=>.error 70
  | n+1,ks,l =>
    if [60,47].isPrefixOf l then .ok (ks,l.drop 2) else match N1 el ks l with
      | .error e=>.error e
      | .ok (ks2,r)=>X0 el n ks2 r
def X5 (sp0:SPX) (l:List UInt8):Option (QN × List UInt8 × List XA × SPX × Bool × List UInt8) :=
  match G4 l with
  | none=>none
  | some (a,r) =>
    match tagE (r.length+1) [] r with
    | none=>none
    | some (ats,c,r1) =>
      match spE ats [] sp0 with
      | none=>none
      | some sp =>
        match R6 a.pre a.has sp with
        | none=>none
        | some s =>
          match O3 ats [] sp with
          | none=>none
          | some m=>some (a,s,m,sp,c,r1)
def endE (a:QN) (l:List UInt8):Option (List UInt8) :=
 match G4 l with
 | none=>none
 | some (b,r)=>if b≠a then none else O9 [62] (blk r)
def elE:Nat→SPX→List UInt8→EX
  | lv,sp0,l =>
    match X5 sp0 l with
    | none=>.error 70
    | some (a,s,m,sp,c,r1) =>
      match lv with
      | 0=>.error 71
      | lv+1 =>
        if c then .ok (.mk s a.name m [] [],r1) else
        match X0 (elE lv sp) (r1.length+1) [] r1 with
        | .error e=>.error e
        | .ok (ks,r2) =>
          match endE a r2 with
          | none=>.error 70
          | some r3=>.ok (.mk s a.name m ks [],r3)
def parE (l0:List UInt8):XN × Int :=
  if 65536<l0.length then (J2,72) else
  if K4 (D6 l0)=false∨I0 (D6 l0)≠D6 l0 then (J2,70) else
  match I6 ((D6 l0).length+1) (D6 l0) with
  | none=>(J2,70)
  | some r =>
    match O9 [60] r with
    | none=>(J2,70)
    | some r1 =>
      match elE 24 I3 r1 with
      | .error e=>(J2,e)
      | .ok (k,r2) =>
        match I6 (r2.length+1) r2 with
        | none=>(J2,70)
        | some r3=>if r3=[] then (k,0) else (J2,70)
theorem Pl.tail {c:UInt8} {u:List UInt8} (h:Pl (c::u)) (hc:c.toNat<128):Pl u:=by
 obtain ⟨ps,h1,h2⟩:=h
 obtain ⟨qs,e1,e2⟩:=enc_tail (fun p hp=>(h1 p hp).1) hc h2.symm
 exact ⟨qs,fun q hq=>h1 q (by rw [e1]; exact List.mem_cons_of_mem _ hq),e2⟩
theorem Pl.behind:∀ {w r:List UInt8},Pl (w++r)→(∀ b∈w,b.toNat<128)→Pl r
 | [],_,h,_=>h
 | b::w,_,h,hw=>Pl.behind (w:=w) (Pl.tail h (hw b List.mem_cons_self)) (fun c hc=>hw c (List.mem_cons_of_mem _ hc))
theorem pre_eq {w l:List UInt8} (h:w.isPrefixOf l=true):l=w++l.drop w.length:=by
 obtain ⟨t,rfl⟩:=List.isPrefixOf_iff_prefix.1 h
 rw [List.drop_left]
theorem Pl.pre {w l:List UInt8} (h:Pl l) (hp:w.isPrefixOf l=true) (hw:∀ b∈w,b.toNat<128):Pl (l.drop w.length):=Pl.behind (w:=w) (by rw [← pre_eq hp]; exact h) hw
theorem idx_pre:∀ {w l:List UInt8} {i:Nat},idxL w l=some i→w.isPrefixOf (l.drop i)=true
  | w,[],i,h=>by
    unfold idxL at h
    split at h
    rename_i hw; subst hw; rfl
    cases h
  | w,b::t,i,h=>by
    unfold idxL at h
    split at h
    rename_i hp; injection h with h; subst h; exact hp
    cases hq:idxL w t with
    | none=>rw [hq] at h; cases h
    | some j=>rw [hq] at h; injection h with h; have h2:j+1=i:=h; rw [← h2,List.drop_succ_cons]; exact idx_pre hq
theorem Pl.at {w l:List UInt8} {i:Nat} (h:Pl l) (hi:idxL w l=some i) (hw:w≠[]) (ha:∀ b∈w,b.toNat<128):Pl (l.take i)∧Pl (l.drop i)∧Pl (l.drop (i+w.length)):=by
 have hp:=idx_pre hi
 have h1:Pl (l.take i++l.drop i):=by rw [List.take_append_drop]; exact h
 have h2:=h1.split (fun c t e=>by
  have h3:=pre_eq hp
  rw [e] at h3
  cases w with
  | nil=>exact absurd rfl hw
  | cons b w=>injection h3 with h3 _; rw [h3]; exact ha b List.mem_cons_self)
 refine ⟨h2.1,h2.2,?_⟩
 have h4:=h2.2.pre hp ha
 rwa [List.drop_drop] at h4
theorem Y4 (b:UInt8) (l:List UInt8):nmX (b::l)=if fstX b=true then 1+(l.takeWhile nxtX).length else 0:=rfl
theorem nm_split (l:List UInt8):∀ c t,l.drop (nmX l)=c::t→nmX l=0∨c.toNat<128:=by
  cases l with
  | nil=>intro c t h; exact .inl rfl
  | cons b l =>
    intro c t h
    rw [Y4] at h ⊢
    by_cases hb:fstX b=true
    rw [if_pos hb] at h
    refine .inr ?_
    rw [Nat.add_comm,List.drop_succ_cons,show l.drop (l.takeWhile nxtX).length=l.dropWhile nxtX from by
      conv=>lhs; arg 2; rw [← List.takeWhile_append_dropWhile (p:=nxtX) (l:=l)]
      rw [List.drop_left]] at h
    have hh:nxtX c=false:=by
      have h2:=List.head?_dropWhile_not nxtX l
      rw [h] at h2
      simpa using h2
    by_cases hc:c.toNat<128
    exact hc
    exfalso
    unfold nxtX fstX at hh
    simp [show 128≤c.toNat by omega] at hh
    exact .inl (if_neg hb)
theorem Pl.nm {l:List UInt8} (h:Pl l) (h0:nmX l≠0):Pl (l.take (nmX l))∧Pl (l.drop (nmX l)) :=
 Pl.split (by rw [List.take_append_drop]; exact h) (fun c t e=>(nm_split l c t e).resolve_left h0)
theorem Pl.blk:∀ {l:List UInt8},Pl l→Pl (blk l)
  | [],h=>h
  | b::t,h=>by
    show Pl ((b::t).dropWhile wsB)
    rw [List.dropWhile_cons]
    split
    rename_i hb
    refine Pl.blk (h.tail ?_)
    unfold wsB at hb
    simp only [Bool.or_eq_true,beq_iff_eq] at hb
    rcases hb with ((rfl | rfl) | rfl) | rfl <;> decide
    exact h
theorem blk_idem (l:List UInt8):blk (blk l)=blk l:=by
  unfold blk
  induction l with
  | nil=>rfl
  | cons b t ih =>
    rw [List.dropWhile_cons]
    split
    exact ih
    rename_i hb; rw [List.dropWhile_cons,if_neg hb]
theorem blk_same {l:List UInt8} (h:¬ (blk l).length<l.length):blk l=l:=by
 have h1:blk l <:+ l:=List.dropWhile_suffix _
 exact h1.eq_of_length (by have:=Z2 l; omega)
theorem name_pl {l:List UInt8} {x:List UInt8 × List UInt8} (h:Pl l) (hn:R4 l=some x):Pl x.1∧Pl x.2∧x.2.length<l.length∧x.1≠[]:=by
  unfold R4 at hn
  split at hn
  cases hn
  rename_i h0
  injection hn with hn; subst hn
  have h1:=h.nm h0
  have h2:nmX l≤l.length:=by
    cases l with
    | nil=>exact Nat.le_refl _
    | cons b l =>
      rw [Y4]; split
      have:=(List.takeWhile_prefix nxtX (l:=l)).length_le; rw [List.length_cons]; omega
      exact Nat.zero_le _
  refine ⟨h1.1,h1.2,?_,?_⟩
  show (l.drop _).length<_; rw [List.length_drop]; omega
  intro e; have:=congrArg List.length e; rw [List.length_take,List.length_nil] at this; omega
theorem qual_pl {l:List UInt8} {x:QN × List UInt8} (h:Pl l) (hn:G4 l=some x):Pl x.2∧x.2.length<l.length∧x.1.name≠[]∧(x.1.has=false→x.1.pre=[]):=by
  unfold G4 at hn
  cases h1:R4 l with
  | none=>rw [h1] at hn; cases hn
  | some y =>
    rw [h1] at hn
    dsimp only at hn
    obtain ⟨p1,p2,p3,p4⟩:=name_pl h h1
    split at hn
    rename_i hp
    cases h2:R4 (y.2.drop 1) with
    | none=>rw [h2] at hn; cases hn
    | some z =>
      rw [h2] at hn; injection hn with hn; subst hn
      obtain ⟨q1,q2,q3,q4⟩:=name_pl (p2.pre hp (by decide)) h2
      rw [List.length_drop] at q3
      exact ⟨q2,by show z.2.length<_; omega,q4,fun h=>by cases h⟩
    injection hn with hn; subst hn
    exact ⟨p2,p3,p4,fun _=>rfl⟩
theorem until_pl {w l:List UInt8} {x:List UInt8 × List UInt8} (h:Pl l) (hw:w≠[]) (ha:∀ b∈w,b.toNat<128) (hn:L1 w l=some x):Pl x.1∧Pl x.2∧x.2.length<l.length:=by
  unfold L1 at hn
  cases hi:idxL w l with
  | none=>rw [hi] at hn; cases hn
  | some i =>
    rw [hi] at hn; injection hn with hn; subst hn
    obtain ⟨h1,_,h2⟩:=h.at hi hw ha
    have h3:=idx_le hi
    have h4:0<w.length:=List.length_pos_iff.2 hw
    exact ⟨h1,h2,by show (l.drop _).length<_; rw [List.length_drop]; omega⟩
theorem must_pl {w l r:List UInt8} (h:Pl l) (hw:w≠[]) (ha:∀ b∈w,b.toNat<128) (hn:O9 w l=some r):Pl r∧r.length<l.length:=by
 unfold O9 at hn
 split at hn
 rename_i hp
 injection hn with hn; subst hn
 have h3:=(List.isPrefixOf_iff_prefix.1 hp).length_le
 have h4:0<w.length:=List.length_pos_iff.2 hw
 exact ⟨h.pre hp ha,by rw [List.length_drop]; omega⟩
 cases hn
theorem aside_pl {l r:List UInt8} (h:Pl l) (hn:K0 l=some (some r)):Pl r∧r.length<l.length:=by
  unfold K0 at hn
  split at hn
  rename_i hp
  have h1:=h.pre hp (by decide)
  cases hu:L1 [45,45] (l.drop 4) with
  | none=>rw [hu] at hn; cases hn
  | some x =>
    rw [hu,Option.bind_some] at hn
    cases hm:O9 [62] x.2 with
    | none=>rw [hm] at hn; cases hn
    | some y =>
      rw [hm] at hn; injection hn with hn; injection hn with hn; subst hn
      obtain ⟨_,h2,h3⟩:=until_pl h1 (by decide) (by decide) hu
      obtain ⟨h4,h5⟩:=must_pl h2 (by decide) (by decide) hm
      rw [List.length_drop] at h3
      exact ⟨h4,by omega⟩
  split at hn
  rename_i hp
  have h1:=h.pre hp (by decide)
  cases hu:R4 (l.drop 2) with
  | none=>rw [hu] at hn; cases hn
  | some x =>
    rw [hu,Option.bind_some] at hn
    cases hm:L1 [63,62] x.2 with
    | none=>rw [hm] at hn; cases hn
    | some y =>
      rw [hm] at hn; injection hn with hn; injection hn with hn; subst hn
      obtain ⟨_,h2,h3,_⟩:=name_pl h1 hu
      obtain ⟨_,h4,h5⟩:=until_pl h2 (by decide) (by decide) hm
      rw [List.length_drop] at h3
      exact ⟨h4,by show y.2.length<_; omega⟩
  cases hn
theorem quote_pl {l:List UInt8} {x:List UInt8 × List UInt8} (h:Pl l) (hn:W5 l=some x):Pl x.1∧Pl x.2∧x.2.length<l.length:=by
 unfold W5 at hn
 split at hn
 rename_i hp
 obtain ⟨h1,h2,h3⟩:=until_pl (h.pre hp (by decide)) (by decide) (by decide) hn
 change x.2.length<(l.drop 1).length at h3
 rw [List.length_drop] at h3
 exact ⟨h1,h2,by omega⟩
 split at hn
 rename_i hp
 obtain ⟨h1,h2,h3⟩:=until_pl (h.pre hp (by decide)) (by decide) (by decide) hn
 change x.2.length<(l.drop 1).length at h3
 rw [List.length_drop] at h3
 exact ⟨h1,h2,by omega⟩
 cases hn
theorem attr_pl {l:List UInt8} {x:AT × List UInt8} (h:Pl l) (hn:S1 l=some x):Pl x.2∧x.2.length<l.length∧x.1.q.name≠[]∧(x.1.q.has=false→x.1.q.pre=[]):=by
  unfold S1 at hn
  cases h1:G4 l with
  | none=>rw [h1] at hn; cases hn
  | some a =>
    obtain ⟨a,r⟩:=a
    rw [h1] at hn; dsimp only at hn
    obtain ⟨p1,p2,p3,p4⟩:=qual_pl h h1
    dsimp only at p1 p2 p3 p4
    cases h2:O9 [61] (blk r) with
    | none=>rw [h2] at hn; cases hn
    | some r1 =>
      rw [h2] at hn; dsimp only at hn
      obtain ⟨q1,q2⟩:=must_pl p1.blk (by decide) (by decide) h2
      cases h3:W5 (blk r1) with
      | none=>rw [h3] at hn; cases hn
      | some v =>
        obtain ⟨v,r2⟩:=v
        rw [h3] at hn; dsimp only at hn
        obtain ⟨_,s2,s3⟩:=quote_pl q1.blk h3
        split at hn
        cases hn
        cases h4:refsE v with
        | none=>rw [h4] at hn; cases hn
        | some y =>
          rw [h4] at hn; injection hn with hn; subst hn
          have b1:=Z2 r
          have b2:=Z2 r1
          dsimp only at s2 s3
          exact ⟨s2,by dsimp only; omega,p3,p4⟩
theorem text_pl {l:List UInt8} {x:List UInt8 × List UInt8} (h:Pl l) (hn:A0a l=some x) (h60:[60].isPrefixOf l=false):Pl x.2∧x.2.length<l.length:=by
  unfold A0a at hn
  cases hi:idxL [60] l with
  | none=>rw [hi] at hn; cases hn
  | some i =>
    rw [hi] at hn; dsimp only at hn
    split at hn
    cases hn
    cases h4:refsE (l.take i) with
    | none=>rw [h4] at hn; cases hn
    | some y =>
      rw [h4] at hn; injection hn with hn; subst hn
      have h5:=idx_le hi
      refine ⟨(h.at hi (by decide) (by decide)).2.1,?_⟩
      show (l.drop i).length<_
      rw [List.length_drop]
      have h6:i≠0:=by
        rintro rfl
        have:=idx_pre hi
        rw [List.drop_zero,h60] at this; cases this
      have h7:([60]:List UInt8).length=1:=rfl
      omega
end Go.Xml
namespace Go.Xml
open Go.Esc Go.Json Go.Lib
theorem lines_no {b:UInt8} (h:b≠13):∀ t,B5 (b::t)=b::B5 t:=by
  intro t
  cases t with
  | nil=>simp [B5,h]
  | cons c t =>
    rw [B5]
    rw [if_neg h]
    intro u e1 _; exact h e1
theorem lines_13 {t:List UInt8} (h:∀ u,t≠10::u):B5 (13::t)=10::B5 t:=by
  cases t with
  | nil=>rfl
  | cons c t =>
    rw [B5]
    rfl
    intro u _ e2; exact h u e2
theorem lines_keep:∀ (a t:List UInt8),(∀ b∈a,b≠13)→B5 (a++t)=a++B5 t
 | [],_,_=>rfl
 | b::a,t,h=>by rw [List.cons_append,lines_no (h b List.mem_cons_self),lines_keep a t (fun c hc=>h c (List.mem_cons_of_mem _ hc))]; rfl
theorem lines_enc:∀ (n:Nat) (ps:List Int),ps.length≤n→(∀ p∈ps,isR p∧N6 p=true)→∃ qs,(∀ q∈qs,isR q∧N6 q=true)∧B5 (S6 ps)=S6 qs∧qs.length≤ps.length
  | _,[],_,_=>⟨[],fun _ h=>absurd h List.not_mem_nil,rfl,Nat.le_refl _⟩
  | 0,p::ps,h,_=>by simp at h
  | n+1,p::ps,h,hp=>by
    have hps:=fun q hq=>hp q (List.mem_cons_of_mem p hq)
    obtain ⟨hpR,hpP⟩:=hp p List.mem_cons_self
    rw [List.length_cons] at h
    have h10:isR 10∧N6 10=true:=⟨by unfold isR; decide,by decide⟩
    by_cases h13:p=13
    subst h13
    have e0:S6 (13::ps)=13::S6 ps:=by rw [L3,enc_one (by decide) (by decide)]; rfl
    have e1:∀ qs,S6 (10::qs)=10::S6 qs:=fun qs=>by rw [L3,enc_one (by decide) (by decide)]; rfl
    rw [e0]
    by_cases hc:∃ u,S6 ps=10::u
    obtain ⟨u,hu⟩:=hc
    obtain ⟨qs,e2,e3⟩:=enc_tail (fun q hq=>(hps q hq).1) (by decide) hu
    rw [hu,lines_cr,e3]
    obtain ⟨rs,hr,e4,hz⟩:=lines_enc n qs (by rw [e2,List.length_cons] at h; omega) (fun q hq=>hps q (by rw [e2]; exact List.mem_cons_of_mem _ hq))
    exact ⟨10::rs,fun q hq=>by rcases List.mem_cons.1 hq with rfl | hq; exact h10; exact hr q hq,by rw [e1,e4],by rw [e2,List.length_cons,List.length_cons,List.length_cons]; omega⟩
    rw [lines_13 (fun u e=>hc ⟨u,e⟩)]
    obtain ⟨rs,hr,e4,hz⟩:=lines_enc n ps (by omega) hps
    exact ⟨10::rs,fun q hq=>by rcases List.mem_cons.1 hq with rfl | hq; exact h10; exact hr q hq,by rw [e1,e4],by rw [List.length_cons,List.length_cons]; omega⟩
    have hne:∀ b∈encodeRune p,b≠13:=fun b hb=>by simpa using enc_no hpR (c:=13) (by decide) h13 b hb
    obtain ⟨rs,hr,e4,hz⟩:=lines_enc n ps (by omega) hps
    exact ⟨p::rs,fun q hq=>by rcases List.mem_cons.1 hq with rfl | hq; exact ⟨hpR,hpP⟩; exact hr q hq,by rw [L3,lines_keep _ _ hne,e4,L3],by rw [List.length_cons,List.length_cons]; omega⟩
theorem Pl.lines {l:List UInt8} (h:Pl l):Pl (B5 l):=by
 obtain ⟨ps,hp,rfl⟩:=h
 obtain ⟨qs,hq,e,_⟩:=lines_enc ps.length ps (Nat.le_refl _) hp
 exact ⟨qs,hq,e⟩
theorem refs_ok {s l:List UInt8} (h:Pl s):match refsE s with | some x=>O4 s (l,0)=(x,(l,0)) | none=>(O4 s (l,0)).2.2=70:=by
 obtain ⟨qs,hq,hl⟩:=h.lines
 have hm:=(rfs_main qs.length qs (Nat.le_refl _) hq).2
 unfold refsE O4
 rw [hl,hm]
 dsimp only
 by_cases hb:(C8 38 (S6 qs)).2.any badX=true
 rw [if_pos (.inl hb),if_pos hb]
 dsimp only
 rw [flt_0 (e:=70) (q:=(l,0)) rfl]
 split
 rw [flt_ne (show (70:Int)≠0 by decide)]
 rfl
 by_cases hp:I0 (unL (S6 qs))≠unL (S6 qs)
 rw [if_pos (.inr hp),if_neg hb,if_pos hp]; rfl
 rw [if_neg (fun h=>h.elim hb hp),if_neg hb,if_neg hp]
theorem around_ne {n:Nat} {q:XS} (h:q.2≠0):C4 n q=q:=by
 cases n with
 | zero=>rfl
 | succ n=>unfold C4; rw [if_pos h]
theorem Z3 (n m:Nat) (l:List UInt8) (hp:Pl l) (hn:l.length<n) (hm:l.length<m):match I6 n l with | some r=>C4 m (l,0)=(r,0)∧Pl r∧r.length≤l.length | none=>(C4 m (l,0)).2=70:=by
  obtain ⟨n,rfl⟩:∃ k,n=k+1:=⟨n - 1,by omega⟩
  obtain ⟨m,rfl⟩:∃ k,m=k+1:=⟨m - 1,by omega⟩
  have hs:L6 (l,0)=(decide ((blk l).length<l.length),(blk l,0)):=rfl
  rw [C4,if_neg (by simp),hs]
  dsimp only
  by_cases hb:(blk l).length<l.length
  rw [if_pos (decide_eq_true hb)]
  have ih:=Z3 (n+1) m (blk l) hp.blk (by omega) (by omega)
  have he:I6 (n+1) (blk l)=I6 (n+1) l:=by rw [I6,I6,blk_idem]
  rw [he] at ih
  revert ih
  cases I6 (n+1) l with
  | none=>exact id
  | some r=>exact fun ih=>⟨ih.1,ih.2.1,by have:=ih.2.2; omega⟩
  rw [if_neg (by rw [decide_eq_false hb]; decide),blk_same hb]
  have ha:=aside_ok (l:=l)
  rw [I6,blk_same hb]
  cases hA:K0 l with
  | none =>
    rw [hA] at ha
    dsimp only at ha ⊢
    rw [if_pos ha.1,around_ne (by rw [ha.2]; decide),ha.2]
  | some x =>
    cases x with
    | none=>rw [hA] at ha; dsimp only at ha ⊢; rw [ha]; dsimp only; rw [if_neg Bool.false_ne_true]; exact ⟨rfl,hp,Nat.le_refl _⟩
    | some r =>
      obtain ⟨h1,h2⟩:=aside_pl hp hA
      rw [hA] at ha; dsimp only at ha ⊢
      rw [ha,if_pos rfl]
      have ih:=Z3 n m r h1 (by omega) (by omega)
      revert ih
      cases I6 n r with
      | none=>exact id
      | some r=>exact fun ih=>⟨ih.1,ih.2.1,by have:=ih.2.2; omega⟩
termination_by l.length
theorem quote_ok {l:List UInt8}:match W5 l with | some x=>F2 (l,0)=(x.1,(x.2,0)) | none=>(F2 (l,0)).2.2=70:=by
 unfold W5 F2
 by_cases h1:[34].isPrefixOf l=true
 rw [if_pos h1,take_yes h1,if_pos rfl]; exact until_ok
 rw [if_neg h1,take_no h1]
 simp only [Bool.false_eq_true,if_false]
 by_cases h2:[39].isPrefixOf l=true
 rw [if_pos h2,take_yes h2,if_pos rfl]; exact until_ok
 rw [if_neg h2,take_no h2]
 simp only [Bool.false_eq_true,if_false]; rfl
theorem quote_ne {q:XS} (h:q.2≠0):(F2 q).2.2=q.2:=by
 have t1:=take_e [34] q
 have t2:=take_e [39] q
 unfold F2
 split
 rw [until_ne (by rw [t1]; exact h),t1]
 split
 rw [until_ne (by rw [t2]; exact h),t2]
 show (F9 70 q).2=_; rw [flt_ne h]
def valX (v:List UInt8 × XS):List UInt8 × XS:=O4 v.1 (if (60:UInt8)∈v.1 then F9 70 v.2 else v.2)
theorem val_ne {v:List UInt8 × XS} (h:v.2.2≠0):(valX v).2.2=v.2.2:=by
 unfold valX
 have:(if (60:UInt8)∈v.1 then F9 70 v.2 else v.2)=v.2:=by split; exact flt_ne h; rfl
 rw [this,refs_ne h]
theorem attrX_eq (q:XS):Y6 q=(⟨(A8 q).1,(valX (F2 (L6 (D4 [61] (L6 (A8 q).2).2)).2)).1⟩,(valX (F2 (L6 (D4 [61] (L6 (A8 q).2).2)).2)).2):=rfl
theorem skip_e (q:XS):(L6 q).2.2=q.2:=rfl
theorem attr_ne {q:XS} (h:(A8 q).2.2≠0):(Y6 q).2.2=(A8 q).2.2:=by
 rw [attrX_eq]
 have h1:(D4 [61] (L6 (A8 q).2).2).2=(A8 q).2.2:=must_ne h
 have h2:(F2 (L6 (D4 [61] (L6 (A8 q).2).2)).2).2.2=(A8 q).2.2:=by rw [quote_ne (by rw [skip_e,h1]; exact h),skip_e,h1]
 exact (val_ne (v:=F2 (L6 (D4 [61] (L6 (A8 q).2).2)).2) (by rw [h2]; exact h)).trans h2
theorem attr_ok {l:List UInt8} (h:Pl l):match S1 l with | some x=>Y6 (l,0)=(x.1,(x.2,0)) | none=>(Y6 (l,0)).2.2=70:=by
  have h1:=qual_ok (l:=l)
  unfold S1
  cases hq:G4 l with
  | none =>
    rw [hq] at h1
    dsimp only at h1 ⊢
    rw [attr_ne (by rw [h1]; decide),h1]
  | some a =>
    obtain ⟨a,r⟩:=a
    obtain ⟨p1,p2,_,_⟩:=qual_pl h hq
    rw [hq] at h1
    dsimp only at h1 p1 p2 ⊢
    rw [attrX_eq,h1]
    have s1:(L6 (r,0)).2=(blk r,0):=rfl
    dsimp only
    rw [s1]
    have h2:=must_ok (w:=[61]) (l:=blk r)
    cases hm:O9 [61] (blk r) with
    | none =>
      rw [hm] at h2
      dsimp only at h2 ⊢
      have h3:(F2 (L6 (D4 [61] (blk r,0))).2).2.2=70:=by rw [quote_ne (by rw [skip_e,h2]; decide),skip_e,h2]
      rw [val_ne (by rw [h3]; decide),h3]
    | some r1 =>
      obtain ⟨q1,q2⟩:=must_pl p1.blk (by decide) (by decide) hm
      rw [hm] at h2
      dsimp only at h2 ⊢
      rw [h2]
      have s2:(L6 (r1,0)).2=(blk r1,0):=rfl
      rw [s2]
      have h3:=quote_ok (l:=blk r1)
      cases hv:W5 (blk r1) with
      | none =>
        rw [hv] at h3
        dsimp only at h3 ⊢
        rw [val_ne (by rw [h3]; decide),h3]
      | some v =>
        obtain ⟨v,r2⟩:=v
        obtain ⟨v1,v2,_⟩:=quote_pl q1.blk hv
        rw [hv] at h3
        dsimp only at h3 v1 ⊢
        rw [h3]
        unfold valX
        dsimp only
        by_cases h60:(60:UInt8)∈v
        rw [if_pos h60,if_pos h60,flt_0 rfl]
        dsimp only
        rw [refs_ne (show (70:Int)≠0 by decide)]
        rw [if_neg h60,if_neg h60]
        have h4:=refs_ok (l:=r2) v1
        cases hr:refsE v with
        | none=>rw [hr] at h4; exact h4
        | some x=>rw [hr] at h4; dsimp only at h4 ⊢; rw [h4]
theorem attrs_ne {n:Nat} {acc:List AT} {q:XS} (h:q.2≠0):F4 n acc q=(acc,q):=by
 cases n with
 | zero=>rfl
 | succ n=>rw [F4,if_pos h]
theorem tag_ne {n:Nat} {acc:List AT} {q:XS} (h:q.2≠0):(tagX n acc q).2.2.2=q.2:=by
 unfold tagX
 rw [attrs_ne h]
 dsimp only
 have t1:=take_e [47,62] q
 split
 exact t1
 rw [must_ne (by rw [t1]; exact h),t1]
theorem tag_stop {m:Nat} {acc:List AT} {l r:List UInt8} (h:F4 m acc (l,0)=(acc,(r,0))):tagX m acc (l,0)=(acc,[47,62].isPrefixOf r,if [47,62].isPrefixOf r then (r.drop 2,0) else D4 [62] (r,0)):=by
 unfold tagX
 rw [h,take_0]
 by_cases h1:[47,62].isPrefixOf r=true
 rw [if_pos h1,if_pos h1,h1]; rfl
 rw [if_neg h1,if_neg h1,Bool.eq_false_iff.2 h1]; rfl
theorem tag_ok:∀ (n m:Nat) (acc:List AT) (l:List UInt8),Pl l→l.length<n→l.length<m→match tagE n acc l with | some x=>tagX m acc (l,0)=(x.1,x.2.1,(x.2.2,0))∧Pl x.2.2∧x.2.2.length<l.length | none=>(tagX m acc (l,0)).2.2.2=70
  | 0,_,_,_,_,h,_=>absurd h (Nat.not_lt_zero _)
  | _+1,0,_,_,_,_,h=>absurd h (Nat.not_lt_zero _)
  | n+1,m+1,acc,l,hp,hn,hm=>by
    have hs:L6 (l,0)=(decide ((blk l).length<l.length),(blk l,0)):=rfl
    have hA:F4 (m+1) acc (l,0)=if (blk l).length<l.length∧¬ [62].isPrefixOf (blk l)=true∧¬ [47,62].isPrefixOf (blk l)=true then F4 m (acc++[(Y6 (blk l,0)).1]) (Y6 (blk l,0)).2 else (acc,(blk l,0)):=by
      rw [F4,if_neg (by simp),hs]
      dsimp only
      by_cases hb:(blk l).length<l.length
      simp only [hb,decide_true,true_and]
      rw [if_neg (fun h=>hb (by simpa using h.1)),if_neg (fun h=>hb h.1)]
    rw [tagE]
    by_cases h1:[47,62].isPrefixOf (blk l)=true
    rw [if_pos h1,tag_stop (hA.trans (if_neg fun h=>h.2.2 h1)),if_pos h1,h1]
    dsimp only
    have:=(List.isPrefixOf_iff_prefix.1 h1).length_le
    have h2:([47,62]:List UInt8).length=2:=rfl
    have h3:=Z2 l
    exact ⟨rfl,hp.blk.pre h1 (by decide),by rw [List.length_drop]; omega⟩
    rw [if_neg h1]
    by_cases h2:[62].isPrefixOf (blk l)=true
    rw [if_pos h2,tag_stop (hA.trans (if_neg fun h=>h.2.1 h2)),if_neg h1]
    dsimp only
    have:=(List.isPrefixOf_iff_prefix.1 h2).length_le
    have h4:([62]:List UInt8).length=1:=rfl
    have h3:=Z2 l
    refine ⟨?_,hp.blk.pre h2 (by decide),by rw [List.length_drop]; omega⟩
    unfold D4
    rw [if_pos h2,Bool.eq_false_iff.2 h1]; rfl
    rw [if_neg h2]
    by_cases hb:(blk l).length<l.length
    rw [if_pos hb]
    have hA2:=hA.trans (if_pos ⟨hb,h2,h1⟩)
    have h3:=attr_ok hp.blk
    cases hx:S1 (blk l) with
    | none =>
      rw [hx] at h3
      dsimp only at h3 ⊢
      have e:tagX (m+1) acc (l,0)=tagX m (acc++[(Y6 (blk l,0)).1]) (Y6 (blk l,0)).2:=by unfold tagX; rw [hA2]
      rw [e,tag_ne (by rw [h3]; decide),h3]
    | some x =>
      obtain ⟨x,r⟩:=x
      obtain ⟨p1,p2,_,_⟩:=attr_pl hp.blk hx
      rw [hx] at h3
      dsimp only at h3 p1 p2 ⊢
      have e:tagX (m+1) acc (l,0)=tagX m (acc++[x]) (r,0):=by unfold tagX; rw [hA2,h3]
      rw [e]
      have ih:=tag_ok n m (acc++[x]) r p1 (by omega) (by omega)
      revert ih
      cases tagE n (acc++[x]) r with
      | none=>exact id
      | some y=>exact fun ih=>⟨ih.1,ih.2.1,by have:=ih.2.2; omega⟩
    rw [if_neg hb,tag_stop (hA.trans (if_neg fun h=>hb h.1)),if_neg h1]
    dsimp only
    unfold D4
    rw [if_neg h2]; rfl
theorem sp_ne:∀ {ats:List AT} {seen:List (List UInt8)} {sp:SPX} {q:XS},q.2≠0→(M9 ats seen sp q).2=q
  | [],_,_,_,_=>rfl
  | a::r,seen,sp,q,h=>by
    rw [M9]
    cases M0 a with
    | none=>exact sp_ne h
    | some p =>
      dsimp only
      have:(if p∈seen∨a.q.has=true∧a.value=[] then F9 70 q else q)=q:=by split; exact flt_ne h; rfl
      rw [this]; exact sp_ne h
theorem sp_ok:∀ (ats:List AT) (seen:List (List UInt8)) (sp:SPX) (l:List UInt8),match spE ats seen sp with | some x=>M9 ats seen sp (l,0)=(x,(l,0)) | none=>(M9 ats seen sp (l,0)).2.2=70
  | [],_,_,_=>rfl
  | a::r,seen,sp,l=>by
    rw [M9,spE]
    cases M0 a with
    | none=>exact sp_ok r seen sp l
    | some p =>
      dsimp only
      by_cases hc:p∈seen∨a.q.has=true∧a.value=[]
      rw [if_pos hc,if_pos hc,flt_0 rfl]
      dsimp only
      rw [sp_ne (show (70:Int)≠0 by decide)]
      rw [if_neg hc,if_neg hc]; exact sp_ok r _ _ l
theorem space_ne {p:List UInt8} {has:Bool} {sp:SPX} {q:XS} (h:q.2≠0):(K8 p has sp q).2=q:=by
 unfold K8; dsimp only; split
 exact flt_ne h
 rfl
theorem space_ok {p:List UInt8} {has:Bool} {sp:SPX} {l:List UInt8}:match R6 p has sp with | some x=>K8 p has sp (l,0)=(x,(l,0)) | none=>(K8 p has sp (l,0)).2.2=70:=by
 unfold R6 K8
 by_cases hc:has=true∧K7 sp p=none
 rw [if_pos hc,if_pos hc]; rfl
 rw [if_neg hc,if_neg hc]
theorem X9:∀ {ats:List AT} {out:List XA} {sp:SPX} {q:XS},q.2≠0→(O6 ats out sp q).2=q
  | [],_,_,_,_=>rfl
  | a::r,out,sp,q,h=>by
    rw [O6]
    split
    exact X9 h
    dsimp only
    have h1:(if a.q.has=true then K8 a.q.pre true sp q else ([],q)).2=q:=by split; exact space_ne h; rfl
    have h2:∀ b:Bool,(if b=true then F9 70 (if a.q.has=true then K8 a.q.pre true sp q else ([],q)).2 else (if a.q.has=true then K8 a.q.pre true sp q else ([],q)).2)=q:=by
      intro b; rw [h1]; split; exact flt_ne h; rfl
    rw [h2]; exact X9 h
theorem marks_ok:∀ (ats:List AT) (out:List XA) (sp:SPX) (l:List UInt8),match O3 ats out sp with | some x=>O6 ats out sp (l,0)=(x,(l,0)) | none=>(O6 ats out sp (l,0)).2.2=70
  | [],_,_,_=>rfl
  | a::r,out,sp,l=>by
    rw [O6,O3]
    by_cases hd:(M0 a).isSome=true
    rw [if_pos hd,if_pos hd]; exact marks_ok r out sp l
    rw [if_neg hd,if_neg hd]
    dsimp only
    have hs:match (if a.q.has=true then R6 a.q.pre true sp else some []) with | some x=>(if a.q.has=true then K8 a.q.pre true sp (l,0) else ([],(l,0)))=(x,(l,0)) | none=>(if a.q.has=true then K8 a.q.pre true sp (l,0) else ([],(l,0))).2.2=70:=by
      by_cases hh:a.q.has=true
      rw [if_pos hh,if_pos hh]; exact space_ok
      rw [if_neg hh,if_neg hh]
    revert hs
    cases (if a.q.has=true then R6 a.q.pre true sp else some []) with
    | none =>
      intro hs
      dsimp only at hs ⊢
      generalize (if a.q.has=true then K8 a.q.pre true sp (l,0) else ([],(l,0)))=y at hs
      have h2:∀ b:Bool,(if b=true then F9 70 y.2 else y.2)=y.2:=by
        intro b; split; exact flt_ne (by rw [hs]; decide); rfl
      rw [h2,X9 (by rw [hs]; decide),hs]
    | some s =>
      intro hs
      dsimp only at hs ⊢
      rw [hs]
      dsimp only
      by_cases hb:(out.any fun y=>y.space==s&&y.name==a.q.name)=true
      rw [if_pos hb,if_pos hb,flt_0 rfl]
      dsimp only
      rw [X9 (show (70:Int)≠0 by decide)]
      rw [if_neg hb,if_neg hb]; exact marks_ok r _ sp l
def ElOk (el:List UInt8→EX) (ex:XS→XN × XS):Prop:=∀ l,Pl l→match el l with | .ok x=>ex (l,0)=(x.1,(x.2,0))∧Pl x.2∧x.2.length<l.length | .error e=>(ex (l,0)).2.2=e∧e≠0
theorem cont_ne {ex:XS→XN × XS} {n:Nat} {ks:List XN} {q:XS} (h:q.2≠0):G6 ex n ks q=(ks,q):=by
 cases n with
 | zero=>rfl
 | succ n=>rw [G6,if_pos h]
theorem piece_ok {el:List UInt8→EX} {ex:XS→XN × XS} (hel:ElOk el ex) (m:Nat) (ks:List XN) (l:List UInt8) (hp:Pl l) (h0:¬ [60,47].isPrefixOf l=true):match N1 el ks l with | .ok x=>G6 ex (m+1) ks (l,0)=G6 ex m x.1 (x.2,0)∧Pl x.2∧x.2.length<l.length | .error e=>(G6 ex (m+1) ks (l,0)).2.2=e∧e≠0:=by
  have ht:∀ w:List UInt8,(G7 w (l,0)).1=w.isPrefixOf l:=fun w=>by
    rw [take_0]
    by_cases h:w.isPrefixOf l=true
    rw [if_pos h,h]
    rw [if_neg h,Bool.eq_false_iff.2 h]
  have ht2:∀ w:List UInt8,w.isPrefixOf l=true→(G7 w (l,0)).2=(l.drop w.length,0):=fun w h=>by rw [take_0,if_pos h]
  rw [G6,if_neg (by simp)]
  unfold N1
  rw [ht,ht,ht,if_neg h0]
  by_cases h1:[60,33,91,67,68,65,84,65,91].isPrefixOf l=true
  rw [if_pos h1,if_pos h1,ht2 _ h1]
  dsimp only [List.length_cons,List.length_nil]
  have p0:=hp.pre h1 (by decide)
  have hu:=until_ok (w:=[93,93,62]) (l:=l.drop 9)
  cases hU:L1 [93,93,62] (l.drop 9) with
  | none =>
    rw [hU] at hu
    dsimp only at hu ⊢
    rw [cont_ne (by rw [hu]; decide)]
    exact ⟨hu,by decide⟩
  | some x =>
    obtain ⟨x,r⟩:=x
    obtain ⟨_,p2,p3⟩:=until_pl p0 (by decide) (by decide) hU
    change r.length<(l.drop 9).length at p3
    rw [List.length_drop] at p3
    rw [hU] at hu
    dsimp only at hu ⊢
    rw [hu]
    exact ⟨rfl,p2,by omega⟩
  rw [if_neg h1,if_neg h1]
  have ha:=aside_ok (l:=l)
  cases hA:K0 l with
  | none =>
    rw [hA] at ha
    dsimp only at ha ⊢
    rw [if_pos ha.1,cont_ne (by rw [ha.2]; decide)]
    exact ⟨ha.2,by decide⟩
  | some x =>
    cases x with
    | some r =>
      obtain ⟨p2,p3⟩:=aside_pl hp hA
      rw [hA] at ha
      dsimp only at ha ⊢
      rw [ha,if_pos rfl]
      exact ⟨rfl,p2,p3⟩
    | none =>
      rw [hA] at ha
      dsimp only at ha ⊢
      rw [ha]
      dsimp only
      rw [if_neg Bool.false_ne_true]
      by_cases h2:[60].isPrefixOf l=true
      rw [if_pos h2,if_pos h2,ht2 _ h2]
      dsimp only [List.length_cons,List.length_nil]
      have p0:=hp.pre h2 (by decide)
      have h3:=hel (l.drop 1) p0
      cases hE:el (l.drop 1) with
      | error e =>
        rw [hE] at h3
        dsimp only at h3 ⊢
        rw [cont_ne (by rw [h3.1]; exact h3.2)]
        exact h3
      | ok x =>
        obtain ⟨x,r⟩:=x
        rw [hE] at h3
        dsimp only at h3 ⊢
        rw [h3.1]
        have h4:=h3.2.2
        rw [List.length_drop] at h4
        exact ⟨rfl,h3.2.1,by omega⟩
      rw [if_neg h2,if_neg h2]
      have tp:=fun x h=>text_pl (x:=x) hp h (Bool.eq_false_iff.2 h2)
      unfold A0a at tp ⊢
      cases hi:idxL [60] l with
      | none=>exact ⟨rfl,by decide⟩
      | some i =>
        rw [hi] at tp
        dsimp only at tp ⊢
        by_cases h3:(idxL [93,93,62] (l.take i)).isSome=true
        rw [if_pos h3,if_pos h3]; exact ⟨rfl,by decide⟩
        rw [if_neg h3] at tp
        rw [if_neg h3,if_neg h3]
        have hr:=refs_ok (l:=l.drop i) (hp.at hi (by decide) (by decide)).1
        cases hR:refsE (l.take i) with
        | none =>
          rw [hR] at hr
          dsimp only at hr ⊢
          rw [cont_ne (by rw [hr]; decide)]
          exact ⟨hr,by decide⟩
        | some x =>
          rw [hR] at hr tp
          dsimp only at hr tp ⊢
          rw [hr]
          obtain ⟨t1,t2⟩:=tp _ rfl
          exact ⟨rfl,t1,t2⟩
theorem cont_ok {el:List UInt8→EX} {ex:XS→XN × XS} (hel:ElOk el ex):∀ (n m:Nat) (ks:List XN) (l:List UInt8),Pl l→l.length<n→l.length<m→match X0 el n ks l with | .ok x=>G6 ex m ks (l,0)=(x.1,(x.2,0))∧Pl x.2∧x.2.length<l.length | .error e=>(G6 ex m ks (l,0)).2.2=e∧e≠0
  | 0,_,_,_,_,h,_=>absurd h (Nat.not_lt_zero _)
  | _+1,0,_,_,_,_,h=>absurd h (Nat.not_lt_zero _)
  | n+1,m+1,ks,l,hp,hn,hm=>by
    rw [X0]
    by_cases h0:[60,47].isPrefixOf l=true
    rw [if_pos h0]
    dsimp only
    rw [G6,if_neg (by simp),take_0,if_pos h0,if_pos rfl]
    have:=(List.isPrefixOf_iff_prefix.1 h0).length_le
    have h2:([60,47]:List UInt8).length=2:=rfl
    exact ⟨rfl,hp.pre h0 (by decide),by rw [List.length_drop]; omega⟩
    rw [if_neg h0]
    have h1:=piece_ok hel m ks l hp h0
    cases hP:N1 el ks l with
    | error e=>rw [hP] at h1; exact h1
    | ok x =>
      obtain ⟨k2,r⟩:=x
      rw [hP] at h1
      dsimp only at h1 ⊢
      rw [h1.1]
      have ih:=cont_ok hel n m k2 r h1.2.1 (by have:=h1.2.2; omega) (by have:=h1.2.2; omega)
      revert ih
      cases X0 el n k2 r with
      | error e=>exact id
      | ok y=>exact fun ih=>⟨ih.1,ih.2.1,by have:=ih.2.2; have:=h1.2.2; omega⟩
theorem elX_eq (lv:Nat) (sp0:SPX) (q:XS):elX lv sp0 q =
    let a:=A8 q
    let t:=tagX (a.2.1.length+1) [] a.2
    if t.2.2.2≠0 then (J2,t.2.2) else
    let sp:=M9 t.1 [] sp0 t.2.2
    let s:=K8 a.1.pre a.1.has sp.1 sp.2
    let m:=O6 t.1 [] sp.1 s.2
    match lv with
    | 0=>(.mk s.1 a.1.name m.1 [] [],F9 71 m.2)
    | lv+1 =>
      if t.2.1=true∨m.2.2≠0 then (.mk s.1 a.1.name m.1 [] [],m.2) else T9 a.1 (G6 (elX lv sp.1) (m.2.1.length+1) [] m.2) s.1 m.1:=by
  rw [elX]
  all_goals (cases lv <;> dsimp only)
theorem end_ok {a:QN} {s:List UInt8} {m:List XA} {ks:List XN} {l:List UInt8} (hp:Pl l):match endE a l with | some r=>T9 a (ks,(l,0)) s m=(.mk s a.name m ks [],(r,0))∧Pl r∧r.length<l.length | none=>(T9 a (ks,(l,0)) s m).2.2=70:=by
  have h1:=qual_ok (l:=l)
  unfold endE T9
  dsimp only
  cases hq:G4 l with
  | none =>
    rw [hq] at h1
    dsimp only at h1 ⊢
    have h2:(D4 [62] (L6 (A8 (l,0)).2).2).2=70:=by rw [must_ne (by rw [skip_e,h1]; decide),skip_e,h1]
    split
    rw [flt_ne (by rw [h2]; decide),h2]
    exact h2
  | some b =>
    obtain ⟨b,r⟩:=b
    obtain ⟨p1,p2,_,_⟩:=qual_pl hp hq
    rw [hq] at h1
    dsimp only at h1 p1 p2 ⊢
    rw [h1]
    dsimp only
    have s1:(L6 (r,0)).2=(blk r,0):=rfl
    rw [s1]
    have h2:=must_ok (w:=[62]) (l:=blk r)
    by_cases hb:b≠a
    rw [if_pos hb,if_pos hb]
    dsimp only
    cases hm:O9 [62] (blk r) with
    | none=>rw [hm] at h2; dsimp only at h2; rw [flt_ne (by rw [h2]; decide),h2]
    | some x=>rw [hm] at h2; dsimp only at h2; rw [h2]; rfl
    rw [if_neg hb,if_neg hb]
    cases hm:O9 [62] (blk r) with
    | none=>rw [hm] at h2; exact h2
    | some x =>
      obtain ⟨q1,q2⟩:=must_pl p1.blk (by decide) (by decide) hm
      rw [hm] at h2
      have:=Z2 r
      exact ⟨congrArg (Prod.mk _) h2,q1,by omega⟩
theorem close_ne {a:QN} {k:List XN × XS} {s:List UInt8} {m:List XA} (h:k.2.2≠0):(T9 a k s m).2.2=k.2.2:=by
 unfold T9
 dsimp only
 have h1:=qual_ne h
 have h2:(D4 [62] (L6 (A8 k.2).2).2).2=k.2.2:=by rw [must_ne (by rw [skip_e,h1]; exact h),skip_e,h1]
 split
 rw [flt_ne (by rw [h2]; exact h),h2]
 exact h2
theorem el_ok:∀ (lv:Nat) (sp0:SPX),ElOk (elE lv sp0) (elX lv sp0):=by
  intro lv
  induction lv with
  | zero =>
    intro sp0 l hp
    have hx:=elX_eq 0 sp0 (l,0)
    dsimp only at hx
    rw [elE]
    unfold X5
    have h1:=qual_ok (l:=l)
    cases hq:G4 l with
    | none =>
      rw [hq] at h1
      dsimp only at h1 ⊢
      have ht:=tag_ne (n:=(A8 (l,0)).2.1.length+1) (acc:=[]) (q:=(A8 (l,0)).2) (by rw [h1]; decide)
      rw [h1] at ht
      rw [hx,if_pos (by rw [ht]; decide)]
      exact ⟨ht,by decide⟩
    | some a =>
      obtain ⟨a,r⟩:=a
      obtain ⟨p1,p2,_,_⟩:=qual_pl hp hq
      rw [hq] at h1
      dsimp only at h1 p1 p2 ⊢
      rw [h1] at hx
      dsimp only at hx
      have h2:=tag_ok (r.length+1) (r.length+1) [] r p1 (Nat.lt_succ_self _) (Nat.lt_succ_self _)
      cases hT:tagE (r.length+1) [] r with
      | none =>
        rw [hT] at h2
        dsimp only at h2 ⊢
        rw [hx,if_pos (by rw [h2]; decide)]
        exact ⟨h2,by decide⟩
      | some t =>
        obtain ⟨ats,c,r1⟩:=t
        rw [hT] at h2
        dsimp only at h2 ⊢
        rw [h2.1] at hx
        dsimp only at hx
        rw [if_neg (by decide)] at hx
        have h3:=sp_ok ats [] sp0 r1
        cases hS:spE ats [] sp0 with
        | none =>
          rw [hS] at h3
          dsimp only at h3 ⊢
          rw [space_ne (by rw [h3]; decide),X9 (by rw [h3]; decide),flt_ne (by rw [h3]; decide)] at hx
          rw [hx]; exact ⟨h3,by decide⟩
        | some sp =>
          rw [hS] at h3
          dsimp only at h3 ⊢
          rw [h3] at hx
          dsimp only at hx
          have h4:=space_ok (p:=a.pre) (has:=a.has) (sp:=sp) (l:=r1)
          cases hP:R6 a.pre a.has sp with
          | none =>
            rw [hP] at h4
            dsimp only at h4 ⊢
            rw [X9 (by rw [h4]; decide),flt_ne (by rw [h4]; decide)] at hx
            rw [hx]; exact ⟨h4,by decide⟩
          | some s =>
            rw [hP] at h4
            dsimp only at h4 ⊢
            rw [h4] at hx
            dsimp only at hx
            have h5:=marks_ok ats [] sp r1
            cases hM:O3 ats [] sp with
            | none =>
              rw [hM] at h5
              dsimp only at h5 ⊢
              rw [flt_ne (by rw [h5]; decide)] at hx
              rw [hx]; exact ⟨h5,by decide⟩
            | some m =>
              rw [hM] at h5
              dsimp only at h5 ⊢
              rw [h5] at hx
              rw [hx]; exact ⟨rfl,by decide⟩
  | succ lv ih =>
    intro sp0 l hp
    have hx:=elX_eq (lv+1) sp0 (l,0)
    dsimp only at hx
    rw [elE]
    unfold X5
    have h1:=qual_ok (l:=l)
    cases hq:G4 l with
    | none =>
      rw [hq] at h1
      dsimp only at h1 ⊢
      have ht:=tag_ne (n:=(A8 (l,0)).2.1.length+1) (acc:=[]) (q:=(A8 (l,0)).2) (by rw [h1]; decide)
      rw [h1] at ht
      rw [hx,if_pos (by rw [ht]; decide)]
      exact ⟨ht,by decide⟩
    | some a =>
      obtain ⟨a,r⟩:=a
      obtain ⟨p1,p2,_,_⟩:=qual_pl hp hq
      rw [hq] at h1
      dsimp only at h1 p1 p2 ⊢
      rw [h1] at hx
      dsimp only at hx
      have h2:=tag_ok (r.length+1) (r.length+1) [] r p1 (Nat.lt_succ_self _) (Nat.lt_succ_self _)
      cases hT:tagE (r.length+1) [] r with
      | none =>
        rw [hT] at h2
        dsimp only at h2 ⊢
        rw [hx,if_pos (by rw [h2]; decide)]
        exact ⟨h2,by decide⟩
      | some t =>
        obtain ⟨ats,c,r1⟩:=t
        rw [hT] at h2
        dsimp only at h2 ⊢
        rw [h2.1] at hx
        dsimp only at hx
        rw [if_neg (by decide)] at hx
        have h3:=sp_ok ats [] sp0 r1
        cases hS:spE ats [] sp0 with
        | none =>
          rw [hS] at h3
          dsimp only at h3 ⊢
          rw [space_ne (by rw [h3]; decide),X9 (by rw [h3]; decide),if_pos (.inr (by rw [h3]; decide))] at hx
          rw [hx]; exact ⟨h3,by decide⟩
        | some sp =>
          rw [hS] at h3
          dsimp only at h3 ⊢
          rw [h3] at hx
          dsimp only at hx
          have h4:=space_ok (p:=a.pre) (has:=a.has) (sp:=sp) (l:=r1)
          cases hP:R6 a.pre a.has sp with
          | none =>
            rw [hP] at h4
            dsimp only at h4 ⊢
            rw [X9 (by rw [h4]; decide),if_pos (.inr (by rw [h4]; decide))] at hx
            rw [hx]; exact ⟨h4,by decide⟩
          | some s =>
            rw [hP] at h4
            dsimp only at h4 ⊢
            rw [h4] at hx
            dsimp only at hx
            have h5:=marks_ok ats [] sp r1
            cases hM:O3 ats [] sp with
            | none =>
              rw [hM] at h5
              dsimp only at h5 ⊢
              rw [if_pos (.inr (by rw [h5]; decide))] at hx
              rw [hx]; exact ⟨h5,by decide⟩
            | some m =>
              rw [hM] at h5
              dsimp only at h5 ⊢
              rw [h5] at hx
              dsimp only at hx
              by_cases hc:c=true
              rw [if_pos (.inl hc)] at hx
              rw [if_pos hc]
              exact ⟨hx,h2.2.1,by have:=h2.2.2; show r1.length<_; have h9:r1.length<r.length:=this; omega⟩
              rw [if_neg (by rintro (h | h); exact hc h; exact h rfl)] at hx
              rw [if_neg hc]
              have h6:=cont_ok (ih sp) (r1.length+1) (r1.length+1) [] r1 h2.2.1 (Nat.lt_succ_self _) (Nat.lt_succ_self _)
              cases hC:X0 (elE lv sp) (r1.length+1) [] r1 with
              | error e =>
                rw [hC] at h6
                dsimp only at h6 ⊢
                rw [hx,close_ne (by rw [h6.1]; exact h6.2)]
                exact h6
              | ok k =>
                obtain ⟨ks,r2⟩:=k
                rw [hC] at h6
                dsimp only at h6 ⊢
                rw [h6.1] at hx
                have h7:=end_ok (a:=a) (s:=s) (m:=m) (ks:=ks) h6.2.1
                cases hE:endE a r2 with
                | none =>
                  rw [hE] at h7
                  dsimp only at h7 ⊢
                  rw [hx]; exact ⟨h7,by decide⟩
                | some r3 =>
                  rw [hE] at h7
                  dsimp only at h7 ⊢
                  rw [hx]
                  exact ⟨h7.1,h7.2.1,by have:=h7.2.2; have:=h6.2.2; have:=h2.2.2; omega⟩
theorem par_ok (l0:List UInt8):I4 l0=parE l0:=by
  unfold I4 parE
  by_cases hlen:65536<l0.length
  rw [if_pos hlen,if_pos hlen]
  rw [if_neg hlen,if_neg hlen]
  dsimp only
  generalize D6 l0=l
  by_cases hv:K4 l=false∨I0 l≠l
  rw [if_pos hv,if_pos hv]
  rw [if_neg hv,if_neg hv]
  have hp:Pl l:=pl_of (by cases h:K4 l; exact absurd (.inl h) hv; rfl) (by by_cases h:I0 l=l; exact h; exact absurd (.inr h) hv)
  have h1:=Z3 (l.length+1) (l.length+1) l hp (Nat.lt_succ_self _) (Nat.lt_succ_self _)
  have bad:∀ q:XS,q.2≠0→(let n:=if q.2=0 then elX 24 I3 q else (J2,q); let q2:=C4 (n.2.1.length+1) n.2; let q3:=if q2.1≠[] then F9 70 q2 else q2; if q3.2≠0 then (J2,q3.2) else (n.1,0))=(J2,q.2):=by
    intro q hq
    dsimp only
    rw [if_neg hq]
    dsimp only
    rw [around_ne hq,flt_ne hq]
    simp only [ite_self]
    rw [if_pos hq]
  cases hA:I6 (l.length+1) l with
  | none =>
    rw [hA] at h1
    dsimp only at h1 ⊢
    have h2:(D4 [60] (C4 (l.length+1) (l,0))).2=70:=by rw [must_ne (by rw [h1]; decide),h1]
    refine (bad _ (by rw [h2]; decide)).trans ?_
    rw [h2]
  | some r =>
    rw [hA] at h1
    dsimp only at h1 ⊢
    rw [h1.1]
    have h2:=must_ok (w:=[60]) (l:=r)
    cases hM:O9 [60] r with
    | none =>
      rw [hM] at h2
      dsimp only at h2 ⊢
      refine (bad _ (by rw [h2]; decide)).trans ?_
      rw [h2]
    | some r1 =>
      obtain ⟨p1,p2⟩:=must_pl h1.2.1 (by decide) (by decide) hM
      rw [hM] at h2
      dsimp only at h2 ⊢
      rw [h2]
      dsimp only
      rw [if_pos rfl]
      have h3:=el_ok 24 I3 r1 p1
      cases hE:elE 24 I3 r1 with
      | error e =>
        rw [hE] at h3
        dsimp only at h3 ⊢
        rw [around_ne (by rw [h3.1]; exact h3.2),flt_ne (by rw [h3.1]; exact h3.2)]
        simp only [ite_self]
        rw [if_pos (by rw [h3.1]; exact h3.2),h3.1]
      | ok k =>
        obtain ⟨k,r2⟩:=k
        rw [hE] at h3
        dsimp only at h3 ⊢
        rw [h3.1]
        dsimp only
        have h4:=Z3 (r2.length+1) (r2.length+1) r2 h3.2.1 (Nat.lt_succ_self _) (Nat.lt_succ_self _)
        cases hB:I6 (r2.length+1) r2 with
        | none =>
          rw [hB] at h4
          dsimp only at h4 ⊢
          rw [flt_ne (by rw [h4]; decide)]
          simp only [ite_self]
          rw [if_pos (by rw [h4]; decide),h4]
        | some r3 =>
          rw [hB] at h4
          dsimp only at h4 ⊢
          rw [h4.1]
          by_cases h5:r3=[]
          subst h5; rfl
          have e:(if (r3,(0:Int)).1≠[] then F9 70 (r3,0) else (r3,0))=(r3,70):=(if_pos h5).trans (flt_0 rfl)
          rw [e,if_neg h5]; rfl
end Go.Xml
namespace Go.Xml
open Go.Esc Go.Json
theorem pre_iff {w l:List UInt8}:l.take w.length=w ↔ w.isPrefixOf l=true:=by
 rw [List.isPrefixOf_iff_prefix,List.prefix_iff_eq_take]; exact ⟨Eq.symm,Eq.symm⟩
theorem idx_lib:∀ (l w:List UInt8),Lib.index l w=match idxL w l with | some i=>(i:Int) | none=>-1
  | [],w=>by
    unfold Lib.index idxL
    cases w with
    | nil=>rfl
    | cons b w=>rfl
  | b::l,w=>by
    rw [Lib.index,idxL,idx_lib l w]
    by_cases h:w.isPrefixOf (b::l)=true
    rw [if_pos h,if_pos h]; rfl
    rw [if_neg h,if_neg h]
    cases idxL w l with
    | none=>rfl
    | some i =>
      dsimp only [Option.map]
      show (if ((i:Int)==-1)=true then (-1:Int) else (i:Int)+1)=((i+1:Nat):Int)
      rw [if_neg (show ¬ ((i:Int)==-1)=true by rw [beq_iff_eq]; intro h; have:=Int.natCast_nonneg i; omega)]; rfl
theorem cut_none {l w:List UInt8} (h:idxL w l=none):Lib.cut l w=(l,[],false):=by
 unfold Lib.cut; rw [idx_lib,h]; rfl
theorem cut_some {l w:List UInt8} {i:Nat} (h:idxL w l=some i):Lib.cut l w=(l.take i,l.drop (i+w.length),true):=by
 unfold Lib.cut; rw [idx_lib,h]; dsimp only
 rw [if_pos (Int.natCast_nonneg i),Int.toNat_natCast]
theorem contains_idx (l w:List UInt8):Lib.contains l w=(idxL w l).isSome:=by
 unfold Lib.contains; rw [idx_lib]
 cases idxL w l with
 | none=>rfl
 | some i=>exact decide_eq_true (Int.natCast_nonneg i)
theorem idx_mem (c:UInt8):∀ l:List UInt8,(idxL [c] l).isSome=decide (c∈l)
  | []=>rfl
  | b::l=>by
    rw [idxL]
    by_cases h:b=c
    subst h; rw [if_pos (by simp [List.isPrefixOf])]; simp
    rw [if_neg (by simpa [List.isPrefixOf] using fun e=>h e.symm)]
    have ih:=idx_mem c l
    rw [Option.isSome_map,ih]
    simp [show ¬ c=b from fun e=>h e.symm]
theorem blk_trimX (l:List UInt8):Lib.trimLeftS l [32,9,13,10]=blk l:=by
 unfold Lib.trimLeftS blk
 congr 1
 funext b
 unfold wsB
 simp only [List.contains_cons,List.contains_nil,Bool.or_false]
 cases b==32 <;> cases b==9 <;> cases b==13 <;> cases b==10 <;> rfl
theorem must_yes {w:List UInt8} {q:XS} (h:w.isPrefixOf q.1=true):D4 w q=(q.1.drop w.length,q.2):=if_pos h
theorem must_no {w:List UInt8} {q:XS} (h:¬ w.isPrefixOf q.1=true):D4 w q=F9 70 q:=if_neg h
theorem Q8 {w:List UInt8} {q:XS} (h:w.isPrefixOf q.1=true):G7 w q=(true,(q.1.drop w.length,q.2)):=if_pos h
theorem N8 {w:List UInt8} {q:XS} (h:¬ w.isPrefixOf q.1=true):G7 w q=(false,q):=if_neg h
theorem until_none {w:List UInt8} {q:XS} (h:idxL w q.1=none):I1 w q=([],F9 70 q):=by unfold I1; rw [h]
theorem until_some {w:List UInt8} {q:XS} {i:Nat} (h:idxL w q.1=some i):I1 w q=(q.1.take i,(q.1.drop (i+w.length),q.2)):=by unfold I1; rw [h]
theorem fst_iff (b:UInt8):fstX b=true ↔ (97≤b.toNat∧b.toNat≤122)∨(65≤b.toNat∧b.toNat≤90)∨b.toNat=95∨128≤b.toNat:=by
 unfold fstX
 have h95:(b==95)=true ↔ b.toNat=95:=by rw [beq_iff_eq]; exact ⟨fun h=>by rw [h]; rfl,fun h=>UInt8.toNat_inj.1 h⟩
 simp only [Bool.or_eq_true,Bool.and_eq_true,decide_eq_true_eq,h95,or_assoc]
theorem nxt_iff (b:UInt8):nxtX b=true ↔ fstX b=true∨(48≤b.toNat∧b.toNat≤57)∨b.toNat=45∨b.toNat=46:=by
 unfold nxtX dgB
 have h45:(b==45)=true ↔ b.toNat=45:=by rw [beq_iff_eq]; exact ⟨fun h=>by rw [h]; rfl,fun h=>UInt8.toNat_inj.1 h⟩
 have h46:(b==46)=true ↔ b.toNat=46:=by rw [beq_iff_eq]; exact ⟨fun h=>by rw [h]; rfl,fun h=>UInt8.toNat_inj.1 h⟩
 simp only [Bool.or_eq_true,Bool.and_eq_true,decide_eq_true_eq,h45,h46,or_assoc]
def NmAt (l:List UInt8) (i:Nat):Prop:=i=0∨(0<i∧nmX l=i+((l.drop i).takeWhile nxtX).length)
theorem nm_le (l:List UInt8):nmX l≤l.length:=by
  cases l with
  | nil=>exact Nat.le_refl _
  | cons b l =>
    rw [Y4]; split
    have:=(List.takeWhile_prefix nxtX (l:=l)).length_le; rw [List.length_cons]; omega
    exact Nat.zero_le _
theorem nm_stop {l:List UInt8} {i:Nat} (h:NmAt l i) (hi:i<l.length) (hf:fstX (l.getD i 0)=false) (hn:i=0∨nxtX (l.getD i 0)=false):nmX l=i:=by
 have hd:=M4 l hi
 rcases h with rfl | ⟨h0,h⟩
 rw [List.drop_zero] at hd
 rw [hd,Y4,hf]; rfl
 have hn:=hn.resolve_left (by omega)
 rw [h,hd,List.takeWhile_cons,hn]; rfl
theorem nm_step {l:List UInt8} {i:Nat} (h:NmAt l i) (hi:i<l.length) (hf:fstX (l.getD i 0)=true∨(i≠0∧nxtX (l.getD i 0)=true)):NmAt l (i+1):=by
 have hd:=M4 l hi
 refine .inr ⟨Nat.succ_pos _,?_⟩
 rcases h with rfl | ⟨h0,h⟩
 have hf:=hf.resolve_right (fun h=>h.1 rfl)
 rw [List.drop_zero] at hd
 conv=>lhs; rw [hd,Y4,hf]
 rfl
 have hn:nxtX (l.getD i 0)=true:=hf.elim (fun h=>(nxt_iff _).2 (.inl h)) (·.2)
 rw [h,hd,List.takeWhile_cons,hn]
 simp only [if_true,List.length_cons]; omega
theorem nm_end {l:List UInt8} {i:Nat} (h:NmAt l i) (hi:l.length≤i) (h2:i≤l.length):nmX l=l.length:=by
 rcases h with rfl | ⟨h0,h⟩
 have:l=[]:=List.eq_nil_of_length_eq_zero (by omega)
 subst this; rfl
 rw [h,List.drop_eq_nil_of_le hi]; show i+0=_; omega
theorem nameX_0 {q:XS} (h:nmX q.1=0):L9 q=([],F9 70 q):=by unfold L9; rw [if_pos h,h]; rfl
theorem nameX_s {q:XS} (h:nmX q.1≠0):L9 q=(q.1.take (nmX q.1),(q.1.drop (nmX q.1),q.2)):=by unfold L9; rw [if_neg h]
theorem qual_no {q:XS} (h:¬ [58].isPrefixOf (L9 q).2.1=true):A8 q=(⟨[],(L9 q).1,false⟩,(L9 q).2):=by
 unfold A8; dsimp only; rw [N8 h]; rfl
theorem qual_yes {q:XS} (h:[58].isPrefixOf (L9 q).2.1=true):A8 q=(⟨(L9 q).1,(L9 ((L9 q).2.1.drop 1,(L9 q).2.2)).1,true⟩,(L9 ((L9 q).2.1.drop 1,(L9 q).2.2)).2):=by
 unfold A8; dsimp only; rw [Q8 h]; rfl
theorem aside_1 {q:XS} (h:[60,33,45,45].isPrefixOf q.1=true):I2 q=(true,D4 [62] (I1 [45,45] (q.1.drop 4,q.2)).2):=by unfold I2; rw [Q8 h]; rfl
theorem aside_2 {q:XS} (h1:¬ [60,33,45,45].isPrefixOf q.1=true) (h:[60,63].isPrefixOf q.1=true):I2 q=(true,(I1 [63,62] (L9 (q.1.drop 2,q.2)).2).2):=by unfold I2; rw [N8 h1,Q8 h]; rfl
theorem aside_3 {q:XS} (h1:¬ [60,33,45,45].isPrefixOf q.1=true) (h:¬ [60,63].isPrefixOf q.1=true):I2 q=(false,q):=by unfold I2; rw [N8 h1,N8 h]; rfl
theorem around_skip {m:Nat} {q:XS} (h0:q.2=0) (h:(blk q.1).length<q.1.length):C4 (m+1) q=C4 m (blk q.1,q.2):=by
 rw [C4,if_neg (fun h=>h h0)]
 rw [if_pos (show (L6 q).1=true from decide_eq_true h)]; rfl
theorem around_aside {m:Nat} {q:XS} (h0:q.2=0) (h:¬ (blk q.1).length<q.1.length) (ha:(I2 (blk q.1,q.2)).1=true):C4 (m+1) q=C4 m (I2 (blk q.1,q.2)).2:=by
 rw [C4,if_neg (fun h=>h h0)]
 rw [if_neg (show ¬ (L6 q).1=true from fun hh=>h (of_decide_eq_true hh)),if_pos (show (I2 (L6 q).2).1=true from ha)]; rfl
theorem around_end {m:Nat} {q:XS} (h0:q.2=0) (h:¬ (blk q.1).length<q.1.length) (ha:¬ (I2 (blk q.1,q.2)).1=true):C4 (m+1) q=(I2 (blk q.1,q.2)).2:=by
 rw [C4,if_neg (fun h=>h h0)]
 rw [if_neg (show ¬ (L6 q).1=true from fun hh=>h (of_decide_eq_true hh)),if_neg (show ¬ (I2 (L6 q).2).1=true from ha)]; rfl
end Go.Xml
