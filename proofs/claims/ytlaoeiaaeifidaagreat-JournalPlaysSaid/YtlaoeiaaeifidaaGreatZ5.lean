/- What is kept of a directory's changes: the document's way, one by one. No program is in sight. (and what it stands on) -/
import Derived.Test.YtlaoeiaaeifidaaGreatZ4
namespace Go.Proofs.YtlaoeiaaeifidaaGreat
open Go.Sw Go.Lib Go.Vf Go.Sha Go.Jr Go.RowKit
theorem addTrue_ {s:DS} {M:DM} (hs:s.ok M) (hm:L5 M) (K:List Grp) (jb d:Nat) (dir:ByteArray) (rv:Value) (rg:Grp) (L:List ByteArray) (size:Int) (down:Bool) (ho:Go.Sw.Own 9 1 rv rg L.length (strs L)) (hdir:dir.size≤1000000) (hL:L.length≤1000000) (hz:0≤size∧size≤1000000000000) (t:ByteArray) (ht:t.size≤100000000) (hm1:L5 (F4 M (B0 dir logB) (B8 t)).2) (W0:World) (H:List Grp):Tri Tryz.prog 17 #[pt jb,.string t] W0 ([(jb,.cells #[pt d,.string dir,rv,.int .i64 size,.bool down,.bool true] 83 (0,0))]::rg::(K++(s.G d M++H))) (CallR (addM ⟨dir,L,size,down,true⟩ M t) jb d K H):=by
 have hls:=H9 t
 refine C8 (args:=[pt jb,.string t]) (n:=60) Tryz.func17 rfl rfl (Nat.le_of_ble_eq_true rfl) ?_
 refine A1 (A2 ?_)
 refine R3 (ch:=[]) (v:=pt jb) (k:=(fun b1=>?_))
 refine D3 (E':=[⟨1,[],.string t⟩,⟨2,[],pt b1⟩]) [0] [1,2] (k:=A0 ?_)
 refine A1 (A1 ?_)
 refine A2 (A5 (ch:=[]) (b:=b1) (off:=0) (v:=pt jb) (hA:=At.grp 0 0 rfl rfl) (k:=?_))
 refine A7 (j:=2) [0] (k:=C2 (ch:=[]) (e:=9) (l:=[(0,.string t)]) (c:=[.string t]) (k:=(fun b2=>?_)))
 refine F6 Tryz.func45 (may_ (some ⟨b2,0,none⟩) 1 [t] (inG [(b2,.cells #[.string t] 9 (0,0))]) Rd.lit (by first | (show 1≤1000000000; omega) | omega) jb (pt d) rv (.int .i64 size) (.bool true) dir down _ _ (At.grp 2 0 rfl rfl) (C9 0 rfl)) (C4 [0] [1,2,5] (k:=?_))
 refine A0 (A1 ?_)
 refine G_p [0,0] [1,2,5,13] (k:=A0 ?_)
 refine C6 (b:=(mayI [t] down) != 0) kr (fun hc3=>?_) (fun hc3=>?_)
 ·
  have hmc:=hc3
  refine A1 (B4 (E':=[⟨4,[],.int .i64 (mayI [t] down)⟩]) [0,0] [4] (k:=?_))
  refine A0 (C3 ?_)
  refine B3 (E0 (H':=([(jb,.cells #[pt d,.string dir,rv,.int .i64 size,.bool down,.bool true] 83 (0,0))]::rg::(K++(s.G d M++H)))) (fun w h=>((h.erase 1).erase 0)) ?_)
  refine C1 [.tmp 4] [.int .i64 (mayI [t] down)] (k:=?_)
  rw [mayI_add hmc]; exact ⟨rv,rg,s,rfl,ho,hs,rfl⟩
 ·
  have hmn:=Bool.eq_false_iff.1 hc3
  refine B5 (A0 ?_)
  refine A1 (A2 ?_)
  refine A7 (j:=1) [0] (k:=F6 (vs:=[.string t]) Tryz.func46 (line_ _ (by omega) _ _) ?_)
  refine K5 (ch:=[]) (z:=.string (ByteArray.mk #[])) (k:=(fun b4=>?_))
  refine G4 (ch:=[]) (b:=b4) (off:=0) (v:=.string (B8 t)) (j:=0) ([(b4,.cells #[.string (B8 t)] 9 (0,0))]::[(b2,.cells #[.string t] 9 (0,0))]::[(b1,.cells #[pt jb] 28 (0,0))]::[(jb,.cells #[pt d,.string dir,rv,.int .i64 size,.bool down,.bool true] 83 (0,0))]::rg::(K++(s.G d M++H))) (hoff:=Nat.le_of_ble_eq_true rfl) (hfz:=(fun _ _=>F0)) (k:=C4 [] [1,2,6] (k:=?_))
  refine A0 (A1 ?_)
  refine G_p [0] [1,2,6] (k:=A0 ?_)
  refine A1 (A1 ?_)
  refine A2 (A5 (ch:=[]) (b:=b1) (off:=0) (v:=pt jb) (hA:=At.grp 2 0 rfl rfl) (k:=?_))
  refine A7 (j:=3) [0,0] (k:=A5 (ch:=[]) (b:=jb) (off:=5) (v:=.bool true) (hA:=At.grp 3 0 rfl rfl) (k:=?_))
  refine C4 [] [1,2,6,20] (k:=A0 ?_)
  refine I1 kr (D7 ([(b4,.cells #[.string (B8 t)] 9 (0,0))]::[(b2,.cells #[.string t] 9 (0,0))]::[(b1,.cells #[pt jb] 28 (0,0))]::K) kr ?_)
  refine A9 0 (hL:=(fun w h=>(Sat.takeMid (K:=[_,_,_]) (A:=K) ((h.erase 4).erase 3)))) (hy:=A5 (i:=0) (ch:=[]) (b:=b1) (off:=0) (v:=pt jb) (hA:=At.grp 2 0 rfl rfl) (k:=B1 kr rfl)) (k:=D0 (fuel:=5) [(1,0)] (fun w h=>(Sat.takeMid (K:=[_,_,_]) (A:=K) ((h.erase 4).erase 3))) (k:=?_))
  refine A9 2 (hL:=(fun w h=>(Sat.takeMid (K:=[_,_,_]) (A:=K) ((h.erase 4).erase 3)))) (hy:=A5 (i:=2) (ch:=[]) (b:=b1) (off:=0) (v:=pt jb) (hA:=At.grp 2 0 rfl rfl) (k:=B1 kr rfl)) (k:=B9 3 (k:=?_))
  refine G2 Tryz.func49 (mkSync_ jb (ByteArray.mk #[108,111,103]) _ _) ?_
  rintro v H' ⟨b5,b6,rfl,rfl⟩
  refine A6 kr (fun w h=>(Sat.takeMid (K:=[_,_,_]) (A:=K) ((((h.erase 6).erase 5).erase 1).erase 0))) (I0 ([(b6,.cells #[.string (ByteArray.mk #[108,111,103])] 9 (0,0))]::[(b5,.cells #[pt jb] 28 (0,0))]::[(b4,.cells #[.string (B8 t)] 9 (0,0))]::[(b2,.cells #[.string t] 9 (0,0))]::[(b1,.cells #[pt jb] 28 (0,0))]::K) (fun w h=>((h.erase 1).erase 0)) ?_)
  refine B9 4 (k:=C2 (ch:=[]) (e:=91) (l:=[(0,.func (.func 48) #[] #[pt b1,pt b4]),(1,.func (.func 85) #[] #[pt b5,pt b6])]) (c:=[.func (.func 48) #[] #[pt b1,pt b4],.func (.func 85) #[] #[pt b5,pt b6]]) (k:=(fun b7=>?_)))
  refine A6 kr (fun w h=>(Sat.takeMid (K:=[_,_,_,_,_]) (A:=K) (((h.erase 7).erase 6).erase 0))) (I0 ([(b7,.cells #[.func (.func 48) #[] #[pt b1,pt b4],.func (.func 85) #[] #[pt b5,pt b6]] 91 (0,0))]::[(b6,.cells #[.string (ByteArray.mk #[108,111,103])] 9 (0,0))]::[(b5,.cells #[pt jb] 28 (0,0))]::[(b4,.cells #[.string (B8 t)] 9 (0,0))]::[(b2,.cells #[.string t] 9 (0,0))]::[(b1,.cells #[pt jb] 28 (0,0))]::K) (fun w h=>(h.erase 0)) ?_)
  refine B9 5 (k:=I5 rfl (H':=([(jb,.cells #[pt d,.string dir,rv,.int .i64 size,.bool down,.bool true] 83 (0,0))]::[(b7,.cells #[.func (.func 48) #[] #[pt b1,pt b4],.func (.func 85) #[] #[pt b5,pt b6]] 91 (0,0))]::[(b6,.cells #[.string (ByteArray.mk #[108,111,103])] 9 (0,0))]::[(b5,.cells #[pt jb] 28 (0,0))]::[(b4,.cells #[.string (B8 t)] 9 (0,0))]::[(b2,.cells #[.string t] 9 (0,0))]::[(b1,.cells #[pt jb] 28 (0,0))]::rg::(K++(s.G d M++H)))) (fun w h=>(h.front (j:=6) rfl)) ?_)
  refine G2 Tryz.func47 (tryApp hs dir (B8 t) (by rw [hls]; omega) hdir hm hm1 jb d b1 b4 b5 b6 b7 rv size down true ([[(b7,.cells #[.func (.func 48) #[] #[pt b1,pt b4],.func (.func 85) #[] #[pt b5,pt b6]] 91 (0,0))],[(b6,.cells #[.string (ByteArray.mk #[108,111,103])] 9 (0,0))],[(b5,.cells #[pt jb] 28 (0,0))],[(b4,.cells #[.string (B8 t)] 9 (0,0))],[(b2,.cells #[.string t] 9 (0,0))],[(b1,.cells #[pt jb] 28 (0,0))],rg]++K) _ H (At.grp 0 0 rfl rfl) (At.grp 5 0 rfl rfl) (At.grp 3 0 rfl rfl) (At.grp 2 0 rfl rfl) (At.grp 1 0 rfl rfl)) ?_
  rintro v H' ⟨rfl,s2,hs2,rfl⟩
  refine A6 kr (fun w h=>(Sat.takeMid (K:=[_,_,_,_,_,_]) (A:=K) ((h.erase 7).erase 0))) (D0 (fuel:=0) [(6,0)] (fun w h=>(Sat.takeMid (K:=[_,_,_,_,_,_]) (A:=K) ((h.erase 7).erase 0))) (k:=?_))
  refine D8 (E':=[⟨1,[],.string t⟩,⟨2,[],pt b1⟩,⟨6,[],pt b4⟩,⟨7,[],.int .i64 ((tryM (P0 dir (B8 t)) M).1)⟩]) [1,2,6,7] (k:=A0 ?_)
  refine A1 (A1 ?_)
  refine G_p [0,0] [1,2,6,7,36] (k:=A0 ?_)
  refine C6 (b:=((tryM (P0 dir (B8 t)) M).1) != 0) kr (fun hc8=>?_) (fun hc8=>?_)
  ·
   have hec:=hc8
   refine A1 (G_p [0,0] [4] (k:=?_))
   refine A0 (C3 ?_)
   refine B3 (E0 (H':=([(jb,.cells #[pt d,.string dir,rv,.int .i64 size,.bool (if (tryM (P0 dir (B8 t)) M).1 != 0 then down||((tryM (P0 dir (B8 t)) M).1 != 61) else down),.bool true] 83 (0,0))]::rg::(K++(s2.G d (tryM (P0 dir (B8 t)) M).2++H)))) (fun w h=>((((((h.erase 6).erase 5).erase 4).erase 3).erase 2).erase 1)) ?_)
   refine C1 [.tmp 4] [.int .i64 ((tryM (P0 dir (B8 t)) M).1)] (k:=?_)
   rw [add_err hmn (show M3 ⟨dir,L,size,down,true⟩ (B8 t)=(P0 dir (B8 t)) from rfl) hec]; exact ⟨rv,rg,_,rfl,ho,hs2,by simp only [hec,if_true]; rfl⟩
  ·
   have hen:=Bool.eq_false_iff.1 hc8
   refine B5 (A0 ?_)
   refine A1 (A2 ?_)
   refine A5 (ch:=[]) (b:=b1) (off:=0) (v:=pt jb) (hA:=At.grp 6 0 rfl rfl) (k:=A7 (j:=3) [0,0] (k:=?_))
   refine G4 (ch:=[]) (b:=jb) (off:=5) (v:=.bool true) (j:=0) ([(jb,.cells #[pt d,.string dir,rv,.int .i64 size,.bool (if (tryM (P0 dir (B8 t)) M).1 != 0 then down||((tryM (P0 dir (B8 t)) M).1 != 61) else down),.bool true] 83 (0,0))]::[(b7,.cells #[.func (.func 48) #[] #[pt b1,pt b4],.func (.func 85) #[] #[pt b5,pt b6]] 91 (0,0))]::[(b6,.cells #[.string (ByteArray.mk #[108,111,103])] 9 (0,0))]::[(b5,.cells #[pt jb] 28 (0,0))]::[(b4,.cells #[.string (B8 t)] 9 (0,0))]::[(b2,.cells #[.string t] 9 (0,0))]::[(b1,.cells #[pt jb] 28 (0,0))]::rg::(K++(s2.G d (tryM (P0 dir (B8 t)) M).2++H))) (hoff:=Nat.le_of_ble_eq_true rfl) (hfz:=(fun _ _=>F0)) (k:=C4 [] [1,2,6] (k:=?_))
   refine A0 (A1 ?_)
   refine D7 ([(b7,.cells #[.func (.func 48) #[] #[pt b1,pt b4],.func (.func 85) #[] #[pt b5,pt b6]] 91 (0,0))]::[(b6,.cells #[.string (ByteArray.mk #[108,111,103])] 9 (0,0))]::[(b5,.cells #[pt jb] 28 (0,0))]::[(b4,.cells #[.string (B8 t)] 9 (0,0))]::[(b2,.cells #[.string t] 9 (0,0))]::[(b1,.cells #[pt jb] 28 (0,0))]::K) kr (A9 0 (hL:=(fun w h=>(Sat.takeMid (K:=[_,_,_,_,_,_]) (A:=K) ((h.erase 7).erase 0)))) (hy:=A5 (i:=0) (ch:=[]) (b:=b1) (off:=0) (v:=pt jb) (hA:=At.grp 5 0 rfl rfl) (k:=B1 kr rfl)) (k:=?_))
   refine A9 1 (hL:=(fun w h=>(Sat.takeMid (K:=[_,_,_,_,_,_]) (A:=K) ((h.erase 7).erase 0)))) (hy:=A5 (i:=1) (ch:=[]) (b:=b1) (off:=0) (v:=pt jb) (hA:=At.grp 5 0 rfl rfl) (k:=B1 kr rfl)) (k:=G0 (ad:=⟨jb,0,none⟩) 2 (hL:=(fun w h=>(Sat.takeMid (K:=[_,_,_,_,_,_]) (A:=K) ((h.erase 7).erase 0)))) (k:=?_))
   refine D0 (fuel:=6) [(3,0),(5,0)] (fun w h=>(Sat.takeMid (K:=[_,_,_,_,_,_]) (A:=K) ((h.erase 7).erase 0))) (k:=O0 4 6 (k:=?_) (k':=?_))
   ·
    refine A5 (ch:=[]) (b:=jb) (off:=2) (v:=rv) (hA:=At.grp 0 0 rfl rfl) (k:=A6 kr (fun w h=>(Sat.takeMid (K:=[_,_,_,_,_,_]) (A:=K) ((h.erase 7).erase 0))) ?_)
    refine B9 6 (k:=C2 (ch:=[]) (e:=9) (l:=[(0,.string t)]) (c:=[.string t]) (k:=(fun b9=>?_)))
    refine A6 kr (fun w h=>(Sat.takeMid (K:=[_,_,_,_,_,_]) (A:=K) (((h.erase 8).erase 1).erase 0))) (I0 ([(b9,.cells #[.string t] 9 (0,0))]::[(b7,.cells #[.func (.func 48) #[] #[pt b1,pt b4],.func (.func 85) #[] #[pt b5,pt b6]] 91 (0,0))]::[(b6,.cells #[.string (ByteArray.mk #[108,111,103])] 9 (0,0))]::[(b5,.cells #[pt jb] 28 (0,0))]::[(b4,.cells #[.string (B8 t)] 9 (0,0))]::[(b2,.cells #[.string t] 9 (0,0))]::[(b1,.cells #[pt jb] 28 (0,0))]::K) (fun w h=>(h.erase 0)) ?_)
    refine B9 7 (k:=E9 (i:=7) (ch:=[]) (t:=32) (tx:=32) (e:=9) (inf:=Tryz.t9) (s:=rv) (x:=.slice (some ⟨b9,0,none⟩) 1 1) (n:=L.length) (m:=1) (j:=8) (cs:=(strs L)) (news:=[.string t]) (g:=rg) (S:=(inG [(b9,.cells #[.string t] 9 (0,0))])) rfl rfl rfl rfl kr kr kr rfl rfl (.inl ⟨9,kr⟩) (fun ⟨_,h⟩=>by cases h) (fun _=>⟨9,kr⟩) kr kr kr rfl ho (SrcOf.slice _ _ _ _ Rd.lit (fun h=>by cases h)) (C9 0 rfl) rfl (P7 (ts:=[t])) (by omega) (by show (L.length+1) * 16≤140737488355328; omega) (fun v10 g11 hO12=>?_))
    obtain ⟨a13,cap14,rfl,hcap15,hrd16⟩:=hO12.shape
    refine A6 kr (fun w h=>(Sat.takeMid (K:=[_,_,_,_,_,_,_]) (A:=K) ((h.erase 8).erase 1))) (I0 ([(b9,.cells #[.string t] 9 (0,0))]::[(b7,.cells #[.func (.func 48) #[] #[pt b1,pt b4],.func (.func 85) #[] #[pt b5,pt b6]] 91 (0,0))]::[(b6,.cells #[.string (ByteArray.mk #[108,111,103])] 9 (0,0))]::[(b5,.cells #[pt jb] 28 (0,0))]::[(b4,.cells #[.string (B8 t)] 9 (0,0))]::[(b2,.cells #[.string t] 9 (0,0))]::[(b1,.cells #[pt jb] 28 (0,0))]::g11::K) (fun w h=>(h.erase 7)) ?_)
    refine G0 (ad:=⟨jb,0,none⟩) 8 (hL:=(fun w h=>(Sat.takeMid (K:=[_,_,_,_,_,_,_,_]) (A:=K) (h.erase 1)))) (k:=D0 (fuel:=1) [(9,0)] (fun w h=>(Sat.takeMid (K:=[_,_,_,_,_,_,_,_]) (A:=K) (h.erase 1))) (k:=?_))
    refine B9 10 (k:=G4 (ch:=[]) (b:=jb) (off:=2) (v:=.slice a13 (L.length+1) cap14) (j:=1) ([(b9,.cells #[.string t] 9 (0,0))]::[(jb,.cells #[pt d,.string dir,.slice a13 (L.length+1) cap14,.int .i64 size,.bool (if (tryM (P0 dir (B8 t)) M).1 != 0 then down||((tryM (P0 dir (B8 t)) M).1 != 61) else down),.bool true] 83 (0,0))]::[(b7,.cells #[.func (.func 48) #[] #[pt b1,pt b4],.func (.func 85) #[] #[pt b5,pt b6]] 91 (0,0))]::[(b6,.cells #[.string (ByteArray.mk #[108,111,103])] 9 (0,0))]::[(b5,.cells #[pt jb] 28 (0,0))]::[(b4,.cells #[.string (B8 t)] 9 (0,0))]::[(b2,.cells #[.string t] 9 (0,0))]::[(b1,.cells #[pt jb] 28 (0,0))]::g11::(K++(s2.G d (tryM (P0 dir (B8 t)) M).2++H))) (hoff:=Nat.le_of_ble_eq_true rfl) (hfz:=(fun _ _=>F0)) (k:=?_))
    refine A6 kr (fun w h=>(Sat.takeMid (K:=[_,_,_,_,_,_,_,_]) (A:=K) (h.erase 1))) (D8 (E':=[⟨2,[],pt b1⟩,⟨6,[],pt b4⟩]) [2,6] (k:=?_))
    refine A0 (A1 ?_)
    refine D7 ([(b9,.cells #[.string t] 9 (0,0))]::[(b7,.cells #[.func (.func 48) #[] #[pt b1,pt b4],.func (.func 85) #[] #[pt b5,pt b6]] 91 (0,0))]::[(b6,.cells #[.string (ByteArray.mk #[108,111,103])] 9 (0,0))]::[(b5,.cells #[pt jb] 28 (0,0))]::[(b4,.cells #[.string (B8 t)] 9 (0,0))]::[(b2,.cells #[.string t] 9 (0,0))]::[(b1,.cells #[pt jb] 28 (0,0))]::g11::K) kr (A9 0 (hL:=(fun w h=>(Sat.takeMid (K:=[_,_,_,_,_,_,_,_]) (A:=K) (h.erase 1)))) (hy:=A5 (i:=0) (ch:=[]) (b:=b1) (off:=0) (v:=pt jb) (hA:=At.grp 6 0 rfl rfl) (k:=B1 kr rfl)) (k:=?_))
    refine G0 (ad:=⟨jb,0,none⟩) 1 (hL:=(fun w h=>(Sat.takeMid (K:=[_,_,_,_,_,_,_,_]) (A:=K) (h.erase 1)))) (k:=D0 (fuel:=7) [(2,0)] (fun w h=>(Sat.takeMid (K:=[_,_,_,_,_,_,_,_]) (A:=K) (h.erase 1))) (k:=?_))
    refine A9 4 (hL:=(fun w h=>(Sat.takeMid (K:=[_,_,_,_,_,_,_,_]) (A:=K) (h.erase 1)))) (hy:=A5 (i:=4) (ch:=[]) (b:=b4) (off:=0) (v:=.string (B8 t)) (hA:=At.grp 4 0 rfl rfl) (k:=B1 kr rfl)) (k:=R9 (v:=.int .i64 ((B8 t).size:Int)) 5 (hL:=(fun w h=>(Sat.takeMid (K:=[_,_,_,_,_,_,_,_]) (A:=K) (h.erase 1)))) (k:=?_))
    refine B9 3 (k:=A5 (ch:=[]) (b:=jb) (off:=3) (v:=.int .i64 size) (hA:=At.grp 1 0 rfl rfl) (k:=?_))
    refine A6 kr (fun w h=>(Sat.takeMid (K:=[_,_,_,_,_,_,_,_]) (A:=K) (h.erase 1))) (D0 (fuel:=3) [(6,0)] (fun w h=>(Sat.takeMid (K:=[_,_,_,_,_,_,_,_]) (A:=K) (h.erase 1))) (k:=?_))
    refine O7 57 (size+((B8 t).size:Int)) (by omega) (by omega) kr (G0 (ad:=⟨jb,0,none⟩) 7 (hL:=(fun w h=>(Sat.takeMid (K:=[_,_,_,_,_,_,_,_]) (A:=K) (h.erase 1)))) (k:=?_))
    refine D0 (fuel:=1) [(8,0)] (fun w h=>(Sat.takeMid (K:=[_,_,_,_,_,_,_,_]) (A:=K) (h.erase 1))) (k:=B9 9 (k:=?_))
    refine G4 (ch:=[]) (b:=jb) (off:=3) (v:=.int .i64 (size+((B8 t).size:Int))) (j:=1) ([(b9,.cells #[.string t] 9 (0,0))]::[(jb,.cells #[pt d,.string dir,.slice a13 (L.length+1) cap14,.int .i64 (size+((B8 t).size:Int)),.bool (if (tryM (P0 dir (B8 t)) M).1 != 0 then down||((tryM (P0 dir (B8 t)) M).1 != 61) else down),.bool true] 83 (0,0))]::[(b7,.cells #[.func (.func 48) #[] #[pt b1,pt b4],.func (.func 85) #[] #[pt b5,pt b6]] 91 (0,0))]::[(b6,.cells #[.string (ByteArray.mk #[108,111,103])] 9 (0,0))]::[(b5,.cells #[pt jb] 28 (0,0))]::[(b4,.cells #[.string (B8 t)] 9 (0,0))]::[(b2,.cells #[.string t] 9 (0,0))]::[(b1,.cells #[pt jb] 28 (0,0))]::g11::(K++(s2.G d (tryM (P0 dir (B8 t)) M).2++H))) (hoff:=Nat.le_of_ble_eq_true rfl) (hfz:=(fun _ _=>F0)) (k:=A6 kr (fun w h=>(Sat.takeMid (K:=[_,_,_,_,_,_,_,_]) (A:=K) (h.erase 1))) ?_)
    refine D8 (E':=[]) [] (k:=A0 ?_)
    refine A1 (B4 (E':=[⟨4,[],.int .i64 0⟩]) [0] [4] (k:=?_))
    refine A0 (C3 ?_)
    refine E0 (H':=([(jb,.cells #[pt d,.string dir,.slice a13 (L.length+1) cap14,.int .i64 (size+((B8 t).size:Int)),.bool (if (tryM (P0 dir (B8 t)) M).1 != 0 then down||((tryM (P0 dir (B8 t)) M).1 != 61) else down),.bool true] 83 (0,0))]::g11::(K++(s2.G d (tryM (P0 dir (B8 t)) M).2++H)))) (fun w h=>(((((((h.erase 7).erase 6).erase 5).erase 4).erase 3).erase 2).erase 0)) (C1 [.tmp 4] [.int .i64 0] (k:=?_))
    rw [add_ok hmn (show M3 ⟨dir,L,size,down,true⟩ (B8 t)=(P0 dir (B8 t)) from rfl) hen]; exact ⟨_,_,_,rfl,(own_add hO12),hs2,by simp only [hen]; rfl⟩
   ·
    refine C2 (ch:=[]) (e:=9) (l:=[(0,.string t)]) (c:=[.string t]) (k:=(fun b18=>?_))
    refine A6 kr (fun w h=>(Sat.takeMid (K:=[_,_,_,_,_,_]) (A:=K) (((h.erase 8).erase 1).erase 0))) (I0 ([(b18,.cells #[.string t] 9 (0,0))]::[(b7,.cells #[.func (.func 48) #[] #[pt b1,pt b4],.func (.func 85) #[] #[pt b5,pt b6]] 91 (0,0))]::[(b6,.cells #[.string (ByteArray.mk #[108,111,103])] 9 (0,0))]::[(b5,.cells #[pt jb] 28 (0,0))]::[(b4,.cells #[.string (B8 t)] 9 (0,0))]::[(b2,.cells #[.string t] 9 (0,0))]::[(b1,.cells #[pt jb] 28 (0,0))]::K) (fun w h=>(h.erase 0)) ?_)
    refine B9 4 (k:=A5 (ch:=[]) (b:=jb) (off:=2) (v:=rv) (hA:=At.grp 1 0 rfl rfl) (k:=?_))
    refine A6 kr (fun w h=>(Sat.takeMid (K:=[_,_,_,_,_,_,_]) (A:=K) ((h.erase 8).erase 1))) (B9 7 (k:=?_))
    refine E9 (i:=7) (ch:=[]) (t:=32) (tx:=32) (e:=9) (inf:=Tryz.t9) (s:=rv) (x:=.slice (some ⟨b18,0,none⟩) 1 1) (n:=L.length) (m:=1) (j:=8) (cs:=(strs L)) (news:=[.string t]) (g:=rg) (S:=(inG [(b18,.cells #[.string t] 9 (0,0))])) rfl rfl rfl rfl kr kr kr rfl rfl (.inl ⟨9,kr⟩) (fun ⟨_,h⟩=>by cases h) (fun _=>⟨9,kr⟩) kr kr kr rfl ho (SrcOf.slice _ _ _ _ Rd.lit (fun h=>by cases h)) (C9 0 rfl) rfl (P7 (ts:=[t])) (by omega) (by show (L.length+1) * 16≤140737488355328; omega) (fun v19 g20 hO21=>?_)
    obtain ⟨a22,cap23,rfl,hcap24,hrd25⟩:=hO21.shape
    refine A6 kr (fun w h=>(Sat.takeMid (K:=[_,_,_,_,_,_,_]) (A:=K) ((h.erase 8).erase 1))) (I0 ([(b18,.cells #[.string t] 9 (0,0))]::[(b7,.cells #[.func (.func 48) #[] #[pt b1,pt b4],.func (.func 85) #[] #[pt b5,pt b6]] 91 (0,0))]::[(b6,.cells #[.string (ByteArray.mk #[108,111,103])] 9 (0,0))]::[(b5,.cells #[pt jb] 28 (0,0))]::[(b4,.cells #[.string (B8 t)] 9 (0,0))]::[(b2,.cells #[.string t] 9 (0,0))]::[(b1,.cells #[pt jb] 28 (0,0))]::g20::K) (fun w h=>(h.erase 7)) ?_)
    refine G0 (ad:=⟨jb,0,none⟩) 8 (hL:=(fun w h=>(Sat.takeMid (K:=[_,_,_,_,_,_,_,_]) (A:=K) (h.erase 1)))) (k:=D0 (fuel:=1) [(9,0)] (fun w h=>(Sat.takeMid (K:=[_,_,_,_,_,_,_,_]) (A:=K) (h.erase 1))) (k:=?_))
    refine B9 10 (k:=G4 (ch:=[]) (b:=jb) (off:=2) (v:=.slice a22 (L.length+1) cap23) (j:=1) ([(b18,.cells #[.string t] 9 (0,0))]::[(jb,.cells #[pt d,.string dir,.slice a22 (L.length+1) cap23,.int .i64 size,.bool (if (tryM (P0 dir (B8 t)) M).1 != 0 then down||((tryM (P0 dir (B8 t)) M).1 != 61) else down),.bool true] 83 (0,0))]::[(b7,.cells #[.func (.func 48) #[] #[pt b1,pt b4],.func (.func 85) #[] #[pt b5,pt b6]] 91 (0,0))]::[(b6,.cells #[.string (ByteArray.mk #[108,111,103])] 9 (0,0))]::[(b5,.cells #[pt jb] 28 (0,0))]::[(b4,.cells #[.string (B8 t)] 9 (0,0))]::[(b2,.cells #[.string t] 9 (0,0))]::[(b1,.cells #[pt jb] 28 (0,0))]::g20::(K++(s2.G d (tryM (P0 dir (B8 t)) M).2++H))) (hoff:=Nat.le_of_ble_eq_true rfl) (hfz:=(fun _ _=>F0)) (k:=?_))
    refine A6 kr (fun w h=>(Sat.takeMid (K:=[_,_,_,_,_,_,_,_]) (A:=K) (h.erase 1))) (D8 (E':=[⟨2,[],pt b1⟩,⟨6,[],pt b4⟩]) [2,6] (k:=?_))
    refine A0 (A1 ?_)
    refine D7 ([(b18,.cells #[.string t] 9 (0,0))]::[(b7,.cells #[.func (.func 48) #[] #[pt b1,pt b4],.func (.func 85) #[] #[pt b5,pt b6]] 91 (0,0))]::[(b6,.cells #[.string (ByteArray.mk #[108,111,103])] 9 (0,0))]::[(b5,.cells #[pt jb] 28 (0,0))]::[(b4,.cells #[.string (B8 t)] 9 (0,0))]::[(b2,.cells #[.string t] 9 (0,0))]::[(b1,.cells #[pt jb] 28 (0,0))]::g20::K) kr (A9 0 (hL:=(fun w h=>(Sat.takeMid (K:=[_,_,_,_,_,_,_,_]) (A:=K) (h.erase 1)))) (hy:=A5 (i:=0) (ch:=[]) (b:=b1) (off:=0) (v:=pt jb) (hA:=At.grp 6 0 rfl rfl) (k:=B1 kr rfl)) (k:=?_))
    refine G0 (ad:=⟨jb,0,none⟩) 1 (hL:=(fun w h=>(Sat.takeMid (K:=[_,_,_,_,_,_,_,_]) (A:=K) (h.erase 1)))) (k:=D0 (fuel:=7) [(2,0)] (fun w h=>(Sat.takeMid (K:=[_,_,_,_,_,_,_,_]) (A:=K) (h.erase 1))) (k:=?_))
    refine A9 4 (hL:=(fun w h=>(Sat.takeMid (K:=[_,_,_,_,_,_,_,_]) (A:=K) (h.erase 1)))) (hy:=A5 (i:=4) (ch:=[]) (b:=b4) (off:=0) (v:=.string (B8 t)) (hA:=At.grp 4 0 rfl rfl) (k:=B1 kr rfl)) (k:=R9 (v:=.int .i64 ((B8 t).size:Int)) 5 (hL:=(fun w h=>(Sat.takeMid (K:=[_,_,_,_,_,_,_,_]) (A:=K) (h.erase 1)))) (k:=?_))
    refine B9 3 (k:=A5 (ch:=[]) (b:=jb) (off:=3) (v:=.int .i64 size) (hA:=At.grp 1 0 rfl rfl) (k:=?_))
    refine A6 kr (fun w h=>(Sat.takeMid (K:=[_,_,_,_,_,_,_,_]) (A:=K) (h.erase 1))) (D0 (fuel:=3) [(6,0)] (fun w h=>(Sat.takeMid (K:=[_,_,_,_,_,_,_,_]) (A:=K) (h.erase 1))) (k:=?_))
    refine O7 57 (size+((B8 t).size:Int)) (by omega) (by omega) kr (G0 (ad:=⟨jb,0,none⟩) 7 (hL:=(fun w h=>(Sat.takeMid (K:=[_,_,_,_,_,_,_,_]) (A:=K) (h.erase 1)))) (k:=?_))
    refine D0 (fuel:=1) [(8,0)] (fun w h=>(Sat.takeMid (K:=[_,_,_,_,_,_,_,_]) (A:=K) (h.erase 1))) (k:=B9 9 (k:=?_))
    refine G4 (ch:=[]) (b:=jb) (off:=3) (v:=.int .i64 (size+((B8 t).size:Int))) (j:=1) ([(b18,.cells #[.string t] 9 (0,0))]::[(jb,.cells #[pt d,.string dir,.slice a22 (L.length+1) cap23,.int .i64 (size+((B8 t).size:Int)),.bool (if (tryM (P0 dir (B8 t)) M).1 != 0 then down||((tryM (P0 dir (B8 t)) M).1 != 61) else down),.bool true] 83 (0,0))]::[(b7,.cells #[.func (.func 48) #[] #[pt b1,pt b4],.func (.func 85) #[] #[pt b5,pt b6]] 91 (0,0))]::[(b6,.cells #[.string (ByteArray.mk #[108,111,103])] 9 (0,0))]::[(b5,.cells #[pt jb] 28 (0,0))]::[(b4,.cells #[.string (B8 t)] 9 (0,0))]::[(b2,.cells #[.string t] 9 (0,0))]::[(b1,.cells #[pt jb] 28 (0,0))]::g20::(K++(s2.G d (tryM (P0 dir (B8 t)) M).2++H))) (hoff:=Nat.le_of_ble_eq_true rfl) (hfz:=(fun _ _=>F0)) (k:=A6 kr (fun w h=>(Sat.takeMid (K:=[_,_,_,_,_,_,_,_]) (A:=K) (h.erase 1))) ?_)
    refine D8 (E':=[]) [] (k:=A0 ?_)
    refine A1 (B4 (E':=[⟨4,[],.int .i64 0⟩]) [0] [4] (k:=?_))
    refine A0 (C3 ?_)
    refine E0 (H':=([(jb,.cells #[pt d,.string dir,.slice a22 (L.length+1) cap23,.int .i64 (size+((B8 t).size:Int)),.bool (if (tryM (P0 dir (B8 t)) M).1 != 0 then down||((tryM (P0 dir (B8 t)) M).1 != 61) else down),.bool true] 83 (0,0))]::g20::(K++(s2.G d (tryM (P0 dir (B8 t)) M).2++H)))) (fun w h=>(((((((h.erase 7).erase 6).erase 5).erase 4).erase 3).erase 2).erase 0)) (C1 [.tmp 4] [.int .i64 0] (k:=?_))
    rw [add_ok hmn (show M3 ⟨dir,L,size,down,true⟩ (B8 t)=(P0 dir (B8 t)) from rfl) hen]; exact ⟨_,_,_,rfl,(own_add hO21),hs2,by simp only [hen]; rfl⟩
theorem addFalse_ {s:DS} {M:DM} (hs:s.ok M) (hm:L5 M) (K:List Grp) (jb d:Nat) (dir:ByteArray) (rv:Value) (rg:Grp) (L:List ByteArray) (size:Int) (down:Bool) (ho:Go.Sw.Own 9 1 rv rg L.length (strs L)) (hdir:dir.size≤1000000) (hL:L.length≤1000000) (hz:0≤size∧size≤1000000000000) (t:ByteArray) (ht:t.size≤100000000) (hm1:L5 (D9 M (B0 dir logB) (B8 t)).2) (hm2:L5 (L8 (D9 M (B0 dir logB) (B8 t)).2 (B0 dir logB)).2) (W0:World) (H:List Grp):Tri Tryz.prog 17 #[pt jb,.string t] W0 ([(jb,.cells #[pt d,.string dir,rv,.int .i64 size,.bool down,.bool false] 83 (0,0))]::rg::(K++(s.G d M++H))) (CallR (addM ⟨dir,L,size,down,false⟩ M t) jb d K H):=by
 have hls:=H9 t
 refine C8 (args:=[pt jb,.string t]) (n:=60) Tryz.func17 rfl rfl (Nat.le_of_ble_eq_true rfl) ?_
 refine A1 (A2 ?_)
 refine R3 (ch:=[]) (v:=pt jb) (k:=(fun b1=>?_))
 refine D3 (E':=[⟨1,[],.string t⟩,⟨2,[],pt b1⟩]) [0] [1,2] (k:=A0 ?_)
 refine A1 (A1 ?_)
 refine A2 (A5 (ch:=[]) (b:=b1) (off:=0) (v:=pt jb) (hA:=At.grp 0 0 rfl rfl) (k:=?_))
 refine A7 (j:=2) [0] (k:=C2 (ch:=[]) (e:=9) (l:=[(0,.string t)]) (c:=[.string t]) (k:=(fun b2=>?_)))
 refine F6 Tryz.func45 (may_ (some ⟨b2,0,none⟩) 1 [t] (inG [(b2,.cells #[.string t] 9 (0,0))]) Rd.lit (by first | (show 1≤1000000000; omega) | omega) jb (pt d) rv (.int .i64 size) (.bool false) dir down _ _ (At.grp 2 0 rfl rfl) (C9 0 rfl)) (C4 [0] [1,2,5] (k:=?_))
 refine A0 (A1 ?_)
 refine G_p [0,0] [1,2,5,13] (k:=A0 ?_)
 refine C6 (b:=(mayI [t] down) != 0) kr (fun hc3=>?_) (fun hc3=>?_)
 ·
  have hmc:=hc3
  refine A1 (B4 (E':=[⟨4,[],.int .i64 (mayI [t] down)⟩]) [0,0] [4] (k:=?_))
  refine A0 (C3 ?_)
  refine B3 (E0 (H':=([(jb,.cells #[pt d,.string dir,rv,.int .i64 size,.bool down,.bool false] 83 (0,0))]::rg::(K++(s.G d M++H)))) (fun w h=>((h.erase 1).erase 0)) ?_)
  refine C1 [.tmp 4] [.int .i64 (mayI [t] down)] (k:=?_)
  rw [mayI_add hmc]; exact ⟨rv,rg,s,rfl,ho,hs,rfl⟩
 ·
  have hmn:=Bool.eq_false_iff.1 hc3
  refine B5 (A0 ?_)
  refine A1 (A2 ?_)
  refine A7 (j:=1) [0] (k:=F6 (vs:=[.string t]) Tryz.func46 (line_ _ (by omega) _ _) ?_)
  refine K5 (ch:=[]) (z:=.string (ByteArray.mk #[])) (k:=(fun b4=>?_))
  refine G4 (ch:=[]) (b:=b4) (off:=0) (v:=.string (B8 t)) (j:=0) ([(b4,.cells #[.string (B8 t)] 9 (0,0))]::[(b2,.cells #[.string t] 9 (0,0))]::[(b1,.cells #[pt jb] 28 (0,0))]::[(jb,.cells #[pt d,.string dir,rv,.int .i64 size,.bool down,.bool false] 83 (0,0))]::rg::(K++(s.G d M++H))) (hoff:=Nat.le_of_ble_eq_true rfl) (hfz:=(fun _ _=>F0)) (k:=C4 [] [1,2,6] (k:=?_))
  refine A0 (A1 ?_)
  refine G_p [0] [1,2,6] (k:=A0 ?_)
  refine A1 (A1 ?_)
  refine A2 (A5 (ch:=[]) (b:=b1) (off:=0) (v:=pt jb) (hA:=At.grp 2 0 rfl rfl) (k:=?_))
  refine A7 (j:=3) [0,0] (k:=A5 (ch:=[]) (b:=jb) (off:=5) (v:=.bool false) (hA:=At.grp 3 0 rfl rfl) (k:=?_))
  refine C4 [] [1,2,6,20] (k:=A0 ?_)
  refine I2 kr (D7 ([(b4,.cells #[.string (B8 t)] 9 (0,0))]::[(b2,.cells #[.string t] 9 (0,0))]::[(b1,.cells #[pt jb] 28 (0,0))]::K) kr ?_)
  refine A9 0 (hL:=(fun w h=>(Sat.takeMid (K:=[_,_,_]) (A:=K) ((h.erase 4).erase 3)))) (hy:=A5 (i:=0) (ch:=[]) (b:=b1) (off:=0) (v:=pt jb) (hA:=At.grp 2 0 rfl rfl) (k:=B1 kr rfl)) (k:=D0 (fuel:=7) [(1,0)] (fun w h=>(Sat.takeMid (K:=[_,_,_]) (A:=K) ((h.erase 4).erase 3))) (k:=?_))
  refine A9 2 (hL:=(fun w h=>(Sat.takeMid (K:=[_,_,_]) (A:=K) ((h.erase 4).erase 3)))) (hy:=A5 (i:=2) (ch:=[]) (b:=b1) (off:=0) (v:=pt jb) (hA:=At.grp 2 0 rfl rfl) (k:=B1 kr rfl)) (k:=A9 4 (hL:=(fun w h=>(Sat.takeMid (K:=[_,_,_]) (A:=K) ((h.erase 4).erase 3)))) (hy:=A5 (i:=4) (ch:=[]) (b:=b1) (off:=0) (v:=pt jb) (hA:=At.grp 2 0 rfl rfl) (k:=B1 kr rfl)) (k:=?_))
  refine D0 (fuel:=4) [(5,0)] (fun w h=>(Sat.takeMid (K:=[_,_,_]) (A:=K) ((h.erase 4).erase 3))) (k:=B9 3 (k:=?_))
  refine G2 Tryz.func49 (mkSync_ jb (ByteArray.mk #[108,111,103]) _ _) ?_
  rintro v H' ⟨b5,b6,rfl,rfl⟩
  refine A6 kr (fun w h=>(Sat.takeMid (K:=[_,_,_]) (A:=K) ((((h.erase 6).erase 5).erase 1).erase 0))) (I0 ([(b6,.cells #[.string (ByteArray.mk #[108,111,103])] 9 (0,0))]::[(b5,.cells #[pt jb] 28 (0,0))]::[(b4,.cells #[.string (B8 t)] 9 (0,0))]::[(b2,.cells #[.string t] 9 (0,0))]::[(b1,.cells #[pt jb] 28 (0,0))]::K) (fun w h=>((h.erase 1).erase 0)) ?_)
  refine B9 6 (k:=C2 (ch:=[]) (e:=91) (l:=[(0,.func (.func 50) #[] #[pt b1,pt b4]),(1,.func (.func 85) #[] #[pt b5,pt b6]),(2,.func (.func 51) #[pt jb] #[])]) (c:=[.func (.func 50) #[] #[pt b1,pt b4],.func (.func 85) #[] #[pt b5,pt b6],.func (.func 51) #[pt jb] #[]]) (k:=(fun b7=>?_)))
  refine A6 kr (fun w h=>(Sat.takeMid (K:=[_,_,_,_,_]) (A:=K) (((h.erase 7).erase 6).erase 0))) (I0 ([(b7,.cells #[.func (.func 50) #[] #[pt b1,pt b4],.func (.func 85) #[] #[pt b5,pt b6],.func (.func 51) #[pt jb] #[]] 91 (0,0))]::[(b6,.cells #[.string (ByteArray.mk #[108,111,103])] 9 (0,0))]::[(b5,.cells #[pt jb] 28 (0,0))]::[(b4,.cells #[.string (B8 t)] 9 (0,0))]::[(b2,.cells #[.string t] 9 (0,0))]::[(b1,.cells #[pt jb] 28 (0,0))]::K) (fun w h=>(h.erase 0)) ?_)
  refine B9 7 (k:=I5 rfl (H':=([(jb,.cells #[pt d,.string dir,rv,.int .i64 size,.bool down,.bool false] 83 (0,0))]::[(b7,.cells #[.func (.func 50) #[] #[pt b1,pt b4],.func (.func 85) #[] #[pt b5,pt b6],.func (.func 51) #[pt jb] #[]] 91 (0,0))]::[(b6,.cells #[.string (ByteArray.mk #[108,111,103])] 9 (0,0))]::[(b5,.cells #[pt jb] 28 (0,0))]::[(b4,.cells #[.string (B8 t)] 9 (0,0))]::[(b2,.cells #[.string t] 9 (0,0))]::[(b1,.cells #[pt jb] 28 (0,0))]::rg::(K++(s.G d M++H)))) (fun w h=>(h.front (j:=6) rfl)) ?_)
  refine G2 Tryz.func47 (tryWri hs dir (B8 t) (by rw [hls]; omega) hdir hm hm1 hm2 jb d b1 b4 b5 b6 b7 rv size down false ([[(b7,.cells #[.func (.func 50) #[] #[pt b1,pt b4],.func (.func 85) #[] #[pt b5,pt b6],.func (.func 51) #[pt jb] #[]] 91 (0,0))],[(b6,.cells #[.string (ByteArray.mk #[108,111,103])] 9 (0,0))],[(b5,.cells #[pt jb] 28 (0,0))],[(b4,.cells #[.string (B8 t)] 9 (0,0))],[(b2,.cells #[.string t] 9 (0,0))],[(b1,.cells #[pt jb] 28 (0,0))],rg]++K) _ H (At.grp 0 0 rfl rfl) (At.grp 5 0 rfl rfl) (At.grp 3 0 rfl rfl) (At.grp 2 0 rfl rfl) (At.grp 1 0 rfl rfl)) ?_
  rintro v H' ⟨rfl,s2,hs2,rfl⟩
  refine A6 kr (fun w h=>(Sat.takeMid (K:=[_,_,_,_,_,_]) (A:=K) ((h.erase 7).erase 0))) (D0 (fuel:=0) [(8,0)] (fun w h=>(Sat.takeMid (K:=[_,_,_,_,_,_]) (A:=K) ((h.erase 7).erase 0))) (k:=?_))
  refine D8 (E':=[⟨1,[],.string t⟩,⟨2,[],pt b1⟩,⟨6,[],pt b4⟩,⟨7,[],.int .i64 ((tryM (O9 dir (B8 t)) M).1)⟩]) [1,2,6,7] (k:=A0 ?_)
  refine A1 (A1 ?_)
  refine G_p [0,0] [1,2,6,7,36] (k:=A0 ?_)
  refine C6 (b:=((tryM (O9 dir (B8 t)) M).1) != 0) kr (fun hc8=>?_) (fun hc8=>?_)
  ·
   have hec:=hc8
   refine A1 (G_p [0,0] [4] (k:=?_))
   refine A0 (C3 ?_)
   refine B3 (E0 (H':=([(jb,.cells #[pt d,.string dir,rv,.int .i64 size,.bool (if (tryM (O9 dir (B8 t)) M).1 != 0 then down||((tryM (O9 dir (B8 t)) M).1 != 61) else down),.bool false] 83 (0,0))]::rg::(K++(s2.G d (tryM (O9 dir (B8 t)) M).2++H)))) (fun w h=>((((((h.erase 6).erase 5).erase 4).erase 3).erase 2).erase 1)) ?_)
   refine C1 [.tmp 4] [.int .i64 ((tryM (O9 dir (B8 t)) M).1)] (k:=?_)
   rw [add_err hmn (show M3 ⟨dir,L,size,down,false⟩ (B8 t)=(O9 dir (B8 t)) from rfl) hec]; exact ⟨rv,rg,_,rfl,ho,hs2,by simp only [hec,if_true]; rfl⟩
  ·
   have hen:=Bool.eq_false_iff.1 hc8
   refine B5 (A0 ?_)
   refine A1 (A2 ?_)
   refine A5 (ch:=[]) (b:=b1) (off:=0) (v:=pt jb) (hA:=At.grp 6 0 rfl rfl) (k:=A7 (j:=3) [0,0] (k:=?_))
   refine G4 (ch:=[]) (b:=jb) (off:=5) (v:=.bool true) (j:=0) ([(jb,.cells #[pt d,.string dir,rv,.int .i64 size,.bool (if (tryM (O9 dir (B8 t)) M).1 != 0 then down||((tryM (O9 dir (B8 t)) M).1 != 61) else down),.bool true] 83 (0,0))]::[(b7,.cells #[.func (.func 50) #[] #[pt b1,pt b4],.func (.func 85) #[] #[pt b5,pt b6],.func (.func 51) #[pt jb] #[]] 91 (0,0))]::[(b6,.cells #[.string (ByteArray.mk #[108,111,103])] 9 (0,0))]::[(b5,.cells #[pt jb] 28 (0,0))]::[(b4,.cells #[.string (B8 t)] 9 (0,0))]::[(b2,.cells #[.string t] 9 (0,0))]::[(b1,.cells #[pt jb] 28 (0,0))]::rg::(K++(s2.G d (tryM (O9 dir (B8 t)) M).2++H))) (hoff:=Nat.le_of_ble_eq_true rfl) (hfz:=(fun _ _=>F0)) (k:=C4 [] [1,2,6] (k:=?_))
   refine A0 (A1 ?_)
   refine D7 ([(b7,.cells #[.func (.func 50) #[] #[pt b1,pt b4],.func (.func 85) #[] #[pt b5,pt b6],.func (.func 51) #[pt jb] #[]] 91 (0,0))]::[(b6,.cells #[.string (ByteArray.mk #[108,111,103])] 9 (0,0))]::[(b5,.cells #[pt jb] 28 (0,0))]::[(b4,.cells #[.string (B8 t)] 9 (0,0))]::[(b2,.cells #[.string t] 9 (0,0))]::[(b1,.cells #[pt jb] 28 (0,0))]::K) kr (A9 0 (hL:=(fun w h=>(Sat.takeMid (K:=[_,_,_,_,_,_]) (A:=K) ((h.erase 7).erase 0)))) (hy:=A5 (i:=0) (ch:=[]) (b:=b1) (off:=0) (v:=pt jb) (hA:=At.grp 5 0 rfl rfl) (k:=B1 kr rfl)) (k:=?_))
   refine A9 1 (hL:=(fun w h=>(Sat.takeMid (K:=[_,_,_,_,_,_]) (A:=K) ((h.erase 7).erase 0)))) (hy:=A5 (i:=1) (ch:=[]) (b:=b1) (off:=0) (v:=pt jb) (hA:=At.grp 5 0 rfl rfl) (k:=B1 kr rfl)) (k:=G0 (ad:=⟨jb,0,none⟩) 2 (hL:=(fun w h=>(Sat.takeMid (K:=[_,_,_,_,_,_]) (A:=K) ((h.erase 7).erase 0)))) (k:=?_))
   refine D0 (fuel:=6) [(3,0),(5,0)] (fun w h=>(Sat.takeMid (K:=[_,_,_,_,_,_]) (A:=K) ((h.erase 7).erase 0))) (k:=O0 4 6 (k:=?_) (k':=?_))
   ·
    refine A5 (ch:=[]) (b:=jb) (off:=2) (v:=rv) (hA:=At.grp 0 0 rfl rfl) (k:=A6 kr (fun w h=>(Sat.takeMid (K:=[_,_,_,_,_,_]) (A:=K) ((h.erase 7).erase 0))) ?_)
    refine B9 6 (k:=C2 (ch:=[]) (e:=9) (l:=[(0,.string t)]) (c:=[.string t]) (k:=(fun b9=>?_)))
    refine A6 kr (fun w h=>(Sat.takeMid (K:=[_,_,_,_,_,_]) (A:=K) (((h.erase 8).erase 1).erase 0))) (I0 ([(b9,.cells #[.string t] 9 (0,0))]::[(b7,.cells #[.func (.func 50) #[] #[pt b1,pt b4],.func (.func 85) #[] #[pt b5,pt b6],.func (.func 51) #[pt jb] #[]] 91 (0,0))]::[(b6,.cells #[.string (ByteArray.mk #[108,111,103])] 9 (0,0))]::[(b5,.cells #[pt jb] 28 (0,0))]::[(b4,.cells #[.string (B8 t)] 9 (0,0))]::[(b2,.cells #[.string t] 9 (0,0))]::[(b1,.cells #[pt jb] 28 (0,0))]::K) (fun w h=>(h.erase 0)) ?_)
    refine B9 7 (k:=E9 (i:=7) (ch:=[]) (t:=32) (tx:=32) (e:=9) (inf:=Tryz.t9) (s:=rv) (x:=.slice (some ⟨b9,0,none⟩) 1 1) (n:=L.length) (m:=1) (j:=8) (cs:=(strs L)) (news:=[.string t]) (g:=rg) (S:=(inG [(b9,.cells #[.string t] 9 (0,0))])) rfl rfl rfl rfl kr kr kr rfl rfl (.inl ⟨9,kr⟩) (fun ⟨_,h⟩=>by cases h) (fun _=>⟨9,kr⟩) kr kr kr rfl ho (SrcOf.slice _ _ _ _ Rd.lit (fun h=>by cases h)) (C9 0 rfl) rfl (P7 (ts:=[t])) (by omega) (by show (L.length+1) * 16≤140737488355328; omega) (fun v10 g11 hO12=>?_))
    obtain ⟨a13,cap14,rfl,hcap15,hrd16⟩:=hO12.shape
    refine A6 kr (fun w h=>(Sat.takeMid (K:=[_,_,_,_,_,_,_]) (A:=K) ((h.erase 8).erase 1))) (I0 ([(b9,.cells #[.string t] 9 (0,0))]::[(b7,.cells #[.func (.func 50) #[] #[pt b1,pt b4],.func (.func 85) #[] #[pt b5,pt b6],.func (.func 51) #[pt jb] #[]] 91 (0,0))]::[(b6,.cells #[.string (ByteArray.mk #[108,111,103])] 9 (0,0))]::[(b5,.cells #[pt jb] 28 (0,0))]::[(b4,.cells #[.string (B8 t)] 9 (0,0))]::[(b2,.cells #[.string t] 9 (0,0))]::[(b1,.cells #[pt jb] 28 (0,0))]::g11::K) (fun w h=>(h.erase 7)) ?_)
    refine G0 (ad:=⟨jb,0,none⟩) 8 (hL:=(fun w h=>(Sat.takeMid (K:=[_,_,_,_,_,_,_,_]) (A:=K) (h.erase 1)))) (k:=D0 (fuel:=1) [(9,0)] (fun w h=>(Sat.takeMid (K:=[_,_,_,_,_,_,_,_]) (A:=K) (h.erase 1))) (k:=?_))
    refine B9 10 (k:=G4 (ch:=[]) (b:=jb) (off:=2) (v:=.slice a13 (L.length+1) cap14) (j:=1) ([(b9,.cells #[.string t] 9 (0,0))]::[(jb,.cells #[pt d,.string dir,.slice a13 (L.length+1) cap14,.int .i64 size,.bool (if (tryM (O9 dir (B8 t)) M).1 != 0 then down||((tryM (O9 dir (B8 t)) M).1 != 61) else down),.bool true] 83 (0,0))]::[(b7,.cells #[.func (.func 50) #[] #[pt b1,pt b4],.func (.func 85) #[] #[pt b5,pt b6],.func (.func 51) #[pt jb] #[]] 91 (0,0))]::[(b6,.cells #[.string (ByteArray.mk #[108,111,103])] 9 (0,0))]::[(b5,.cells #[pt jb] 28 (0,0))]::[(b4,.cells #[.string (B8 t)] 9 (0,0))]::[(b2,.cells #[.string t] 9 (0,0))]::[(b1,.cells #[pt jb] 28 (0,0))]::g11::(K++(s2.G d (tryM (O9 dir (B8 t)) M).2++H))) (hoff:=Nat.le_of_ble_eq_true rfl) (hfz:=(fun _ _=>F0)) (k:=?_))
    refine A6 kr (fun w h=>(Sat.takeMid (K:=[_,_,_,_,_,_,_,_]) (A:=K) (h.erase 1))) (D8 (E':=[⟨2,[],pt b1⟩,⟨6,[],pt b4⟩]) [2,6] (k:=?_))
    refine A0 (A1 ?_)
    refine D7 ([(b9,.cells #[.string t] 9 (0,0))]::[(b7,.cells #[.func (.func 50) #[] #[pt b1,pt b4],.func (.func 85) #[] #[pt b5,pt b6],.func (.func 51) #[pt jb] #[]] 91 (0,0))]::[(b6,.cells #[.string (ByteArray.mk #[108,111,103])] 9 (0,0))]::[(b5,.cells #[pt jb] 28 (0,0))]::[(b4,.cells #[.string (B8 t)] 9 (0,0))]::[(b2,.cells #[.string t] 9 (0,0))]::[(b1,.cells #[pt jb] 28 (0,0))]::g11::K) kr (A9 0 (hL:=(fun w h=>(Sat.takeMid (K:=[_,_,_,_,_,_,_,_]) (A:=K) (h.erase 1)))) (hy:=A5 (i:=0) (ch:=[]) (b:=b1) (off:=0) (v:=pt jb) (hA:=At.grp 6 0 rfl rfl) (k:=B1 kr rfl)) (k:=?_))
    refine G0 (ad:=⟨jb,0,none⟩) 1 (hL:=(fun w h=>(Sat.takeMid (K:=[_,_,_,_,_,_,_,_]) (A:=K) (h.erase 1)))) (k:=D0 (fuel:=7) [(2,0)] (fun w h=>(Sat.takeMid (K:=[_,_,_,_,_,_,_,_]) (A:=K) (h.erase 1))) (k:=?_))
    refine A9 4 (hL:=(fun w h=>(Sat.takeMid (K:=[_,_,_,_,_,_,_,_]) (A:=K) (h.erase 1)))) (hy:=A5 (i:=4) (ch:=[]) (b:=b4) (off:=0) (v:=.string (B8 t)) (hA:=At.grp 4 0 rfl rfl) (k:=B1 kr rfl)) (k:=R9 (v:=.int .i64 ((B8 t).size:Int)) 5 (hL:=(fun w h=>(Sat.takeMid (K:=[_,_,_,_,_,_,_,_]) (A:=K) (h.erase 1)))) (k:=?_))
    refine B9 3 (k:=A5 (ch:=[]) (b:=jb) (off:=3) (v:=.int .i64 size) (hA:=At.grp 1 0 rfl rfl) (k:=?_))
    refine A6 kr (fun w h=>(Sat.takeMid (K:=[_,_,_,_,_,_,_,_]) (A:=K) (h.erase 1))) (D0 (fuel:=3) [(6,0)] (fun w h=>(Sat.takeMid (K:=[_,_,_,_,_,_,_,_]) (A:=K) (h.erase 1))) (k:=?_))
    refine O7 57 (size+((B8 t).size:Int)) (by omega) (by omega) kr (G0 (ad:=⟨jb,0,none⟩) 7 (hL:=(fun w h=>(Sat.takeMid (K:=[_,_,_,_,_,_,_,_]) (A:=K) (h.erase 1)))) (k:=?_))
    refine D0 (fuel:=1) [(8,0)] (fun w h=>(Sat.takeMid (K:=[_,_,_,_,_,_,_,_]) (A:=K) (h.erase 1))) (k:=B9 9 (k:=?_))
    refine G4 (ch:=[]) (b:=jb) (off:=3) (v:=.int .i64 (size+((B8 t).size:Int))) (j:=1) ([(b9,.cells #[.string t] 9 (0,0))]::[(jb,.cells #[pt d,.string dir,.slice a13 (L.length+1) cap14,.int .i64 (size+((B8 t).size:Int)),.bool (if (tryM (O9 dir (B8 t)) M).1 != 0 then down||((tryM (O9 dir (B8 t)) M).1 != 61) else down),.bool true] 83 (0,0))]::[(b7,.cells #[.func (.func 50) #[] #[pt b1,pt b4],.func (.func 85) #[] #[pt b5,pt b6],.func (.func 51) #[pt jb] #[]] 91 (0,0))]::[(b6,.cells #[.string (ByteArray.mk #[108,111,103])] 9 (0,0))]::[(b5,.cells #[pt jb] 28 (0,0))]::[(b4,.cells #[.string (B8 t)] 9 (0,0))]::[(b2,.cells #[.string t] 9 (0,0))]::[(b1,.cells #[pt jb] 28 (0,0))]::g11::(K++(s2.G d (tryM (O9 dir (B8 t)) M).2++H))) (hoff:=Nat.le_of_ble_eq_true rfl) (hfz:=(fun _ _=>F0)) (k:=A6 kr (fun w h=>(Sat.takeMid (K:=[_,_,_,_,_,_,_,_]) (A:=K) (h.erase 1))) ?_)
    refine D8 (E':=[]) [] (k:=A0 ?_)
    refine A1 (B4 (E':=[⟨4,[],.int .i64 0⟩]) [0] [4] (k:=?_))
    refine A0 (C3 ?_)
    refine E0 (H':=([(jb,.cells #[pt d,.string dir,.slice a13 (L.length+1) cap14,.int .i64 (size+((B8 t).size:Int)),.bool (if (tryM (O9 dir (B8 t)) M).1 != 0 then down||((tryM (O9 dir (B8 t)) M).1 != 61) else down),.bool true] 83 (0,0))]::g11::(K++(s2.G d (tryM (O9 dir (B8 t)) M).2++H)))) (fun w h=>(((((((h.erase 7).erase 6).erase 5).erase 4).erase 3).erase 2).erase 0)) (C1 [.tmp 4] [.int .i64 0] (k:=?_))
    rw [add_ok hmn (show M3 ⟨dir,L,size,down,false⟩ (B8 t)=(O9 dir (B8 t)) from rfl) hen]; exact ⟨_,_,_,rfl,(own_add hO12),hs2,by simp only [hen]; rfl⟩
   ·
    refine C2 (ch:=[]) (e:=9) (l:=[(0,.string t)]) (c:=[.string t]) (k:=(fun b18=>?_))
    refine A6 kr (fun w h=>(Sat.takeMid (K:=[_,_,_,_,_,_]) (A:=K) (((h.erase 8).erase 1).erase 0))) (I0 ([(b18,.cells #[.string t] 9 (0,0))]::[(b7,.cells #[.func (.func 50) #[] #[pt b1,pt b4],.func (.func 85) #[] #[pt b5,pt b6],.func (.func 51) #[pt jb] #[]] 91 (0,0))]::[(b6,.cells #[.string (ByteArray.mk #[108,111,103])] 9 (0,0))]::[(b5,.cells #[pt jb] 28 (0,0))]::[(b4,.cells #[.string (B8 t)] 9 (0,0))]::[(b2,.cells #[.string t] 9 (0,0))]::[(b1,.cells #[pt jb] 28 (0,0))]::K) (fun w h=>(h.erase 0)) ?_)
    refine B9 4 (k:=A5 (ch:=[]) (b:=jb) (off:=2) (v:=rv) (hA:=At.grp 1 0 rfl rfl) (k:=?_))
    refine A6 kr (fun w h=>(Sat.takeMid (K:=[_,_,_,_,_,_,_]) (A:=K) ((h.erase 8).erase 1))) (B9 7 (k:=?_))
    refine E9 (i:=7) (ch:=[]) (t:=32) (tx:=32) (e:=9) (inf:=Tryz.t9) (s:=rv) (x:=.slice (some ⟨b18,0,none⟩) 1 1) (n:=L.length) (m:=1) (j:=8) (cs:=(strs L)) (news:=[.string t]) (g:=rg) (S:=(inG [(b18,.cells #[.string t] 9 (0,0))])) rfl rfl rfl rfl kr kr kr rfl rfl (.inl ⟨9,kr⟩) (fun ⟨_,h⟩=>by cases h) (fun _=>⟨9,kr⟩) kr kr kr rfl ho (SrcOf.slice _ _ _ _ Rd.lit (fun h=>by cases h)) (C9 0 rfl) rfl (P7 (ts:=[t])) (by omega) (by show (L.length+1) * 16≤140737488355328; omega) (fun v19 g20 hO21=>?_)
    obtain ⟨a22,cap23,rfl,hcap24,hrd25⟩:=hO21.shape
    refine A6 kr (fun w h=>(Sat.takeMid (K:=[_,_,_,_,_,_,_]) (A:=K) ((h.erase 8).erase 1))) (I0 ([(b18,.cells #[.string t] 9 (0,0))]::[(b7,.cells #[.func (.func 50) #[] #[pt b1,pt b4],.func (.func 85) #[] #[pt b5,pt b6],.func (.func 51) #[pt jb] #[]] 91 (0,0))]::[(b6,.cells #[.string (ByteArray.mk #[108,111,103])] 9 (0,0))]::[(b5,.cells #[pt jb] 28 (0,0))]::[(b4,.cells #[.string (B8 t)] 9 (0,0))]::[(b2,.cells #[.string t] 9 (0,0))]::[(b1,.cells #[pt jb] 28 (0,0))]::g20::K) (fun w h=>(h.erase 7)) ?_)
    refine G0 (ad:=⟨jb,0,none⟩) 8 (hL:=(fun w h=>(Sat.takeMid (K:=[_,_,_,_,_,_,_,_]) (A:=K) (h.erase 1)))) (k:=D0 (fuel:=1) [(9,0)] (fun w h=>(Sat.takeMid (K:=[_,_,_,_,_,_,_,_]) (A:=K) (h.erase 1))) (k:=?_))
    refine B9 10 (k:=G4 (ch:=[]) (b:=jb) (off:=2) (v:=.slice a22 (L.length+1) cap23) (j:=1) ([(b18,.cells #[.string t] 9 (0,0))]::[(jb,.cells #[pt d,.string dir,.slice a22 (L.length+1) cap23,.int .i64 size,.bool (if (tryM (O9 dir (B8 t)) M).1 != 0 then down||((tryM (O9 dir (B8 t)) M).1 != 61) else down),.bool true] 83 (0,0))]::[(b7,.cells #[.func (.func 50) #[] #[pt b1,pt b4],.func (.func 85) #[] #[pt b5,pt b6],.func (.func 51) #[pt jb] #[]] 91 (0,0))]::[(b6,.cells #[.string (ByteArray.mk #[108,111,103])] 9 (0,0))]::[(b5,.cells #[pt jb] 28 (0,0))]::[(b4,.cells #[.string (B8 t)] 9 (0,0))]::[(b2,.cells #[.string t] 9 (0,0))]::[(b1,.cells #[pt jb] 28 (0,0))]::g20::(K++(s2.G d (tryM (O9 dir (B8 t)) M).2++H))) (hoff:=Nat.le_of_ble_eq_true rfl) (hfz:=(fun _ _=>F0)) (k:=?_))
    refine A6 kr (fun w h=>(Sat.takeMid (K:=[_,_,_,_,_,_,_,_]) (A:=K) (h.erase 1))) (D8 (E':=[⟨2,[],pt b1⟩,⟨6,[],pt b4⟩]) [2,6] (k:=?_))
    refine A0 (A1 ?_)
    refine D7 ([(b18,.cells #[.string t] 9 (0,0))]::[(b7,.cells #[.func (.func 50) #[] #[pt b1,pt b4],.func (.func 85) #[] #[pt b5,pt b6],.func (.func 51) #[pt jb] #[]] 91 (0,0))]::[(b6,.cells #[.string (ByteArray.mk #[108,111,103])] 9 (0,0))]::[(b5,.cells #[pt jb] 28 (0,0))]::[(b4,.cells #[.string (B8 t)] 9 (0,0))]::[(b2,.cells #[.string t] 9 (0,0))]::[(b1,.cells #[pt jb] 28 (0,0))]::g20::K) kr (A9 0 (hL:=(fun w h=>(Sat.takeMid (K:=[_,_,_,_,_,_,_,_]) (A:=K) (h.erase 1)))) (hy:=A5 (i:=0) (ch:=[]) (b:=b1) (off:=0) (v:=pt jb) (hA:=At.grp 6 0 rfl rfl) (k:=B1 kr rfl)) (k:=?_))
    refine G0 (ad:=⟨jb,0,none⟩) 1 (hL:=(fun w h=>(Sat.takeMid (K:=[_,_,_,_,_,_,_,_]) (A:=K) (h.erase 1)))) (k:=D0 (fuel:=7) [(2,0)] (fun w h=>(Sat.takeMid (K:=[_,_,_,_,_,_,_,_]) (A:=K) (h.erase 1))) (k:=?_))
    refine A9 4 (hL:=(fun w h=>(Sat.takeMid (K:=[_,_,_,_,_,_,_,_]) (A:=K) (h.erase 1)))) (hy:=A5 (i:=4) (ch:=[]) (b:=b4) (off:=0) (v:=.string (B8 t)) (hA:=At.grp 4 0 rfl rfl) (k:=B1 kr rfl)) (k:=R9 (v:=.int .i64 ((B8 t).size:Int)) 5 (hL:=(fun w h=>(Sat.takeMid (K:=[_,_,_,_,_,_,_,_]) (A:=K) (h.erase 1)))) (k:=?_))
    refine B9 3 (k:=A5 (ch:=[]) (b:=jb) (off:=3) (v:=.int .i64 size) (hA:=At.grp 1 0 rfl rfl) (k:=?_))
    refine A6 kr (fun w h=>(Sat.takeMid (K:=[_,_,_,_,_,_,_,_]) (A:=K) (h.erase 1))) (D0 (fuel:=3) [(6,0)] (fun w h=>(Sat.takeMid (K:=[_,_,_,_,_,_,_,_]) (A:=K) (h.erase 1))) (k:=?_))
    refine O7 57 (size+((B8 t).size:Int)) (by omega) (by omega) kr (G0 (ad:=⟨jb,0,none⟩) 7 (hL:=(fun w h=>(Sat.takeMid (K:=[_,_,_,_,_,_,_,_]) (A:=K) (h.erase 1)))) (k:=?_))
    refine D0 (fuel:=1) [(8,0)] (fun w h=>(Sat.takeMid (K:=[_,_,_,_,_,_,_,_]) (A:=K) (h.erase 1))) (k:=B9 9 (k:=?_))
    refine G4 (ch:=[]) (b:=jb) (off:=3) (v:=.int .i64 (size+((B8 t).size:Int))) (j:=1) ([(b18,.cells #[.string t] 9 (0,0))]::[(jb,.cells #[pt d,.string dir,.slice a22 (L.length+1) cap23,.int .i64 (size+((B8 t).size:Int)),.bool (if (tryM (O9 dir (B8 t)) M).1 != 0 then down||((tryM (O9 dir (B8 t)) M).1 != 61) else down),.bool true] 83 (0,0))]::[(b7,.cells #[.func (.func 50) #[] #[pt b1,pt b4],.func (.func 85) #[] #[pt b5,pt b6],.func (.func 51) #[pt jb] #[]] 91 (0,0))]::[(b6,.cells #[.string (ByteArray.mk #[108,111,103])] 9 (0,0))]::[(b5,.cells #[pt jb] 28 (0,0))]::[(b4,.cells #[.string (B8 t)] 9 (0,0))]::[(b2,.cells #[.string t] 9 (0,0))]::[(b1,.cells #[pt jb] 28 (0,0))]::g20::(K++(s2.G d (tryM (O9 dir (B8 t)) M).2++H))) (hoff:=Nat.le_of_ble_eq_true rfl) (hfz:=(fun _ _=>F0)) (k:=A6 kr (fun w h=>(Sat.takeMid (K:=[_,_,_,_,_,_,_,_]) (A:=K) (h.erase 1))) ?_)
    refine D8 (E':=[]) [] (k:=A0 ?_)
    refine A1 (B4 (E':=[⟨4,[],.int .i64 0⟩]) [0] [4] (k:=?_))
    refine A0 (C3 ?_)
    refine E0 (H':=([(jb,.cells #[pt d,.string dir,.slice a22 (L.length+1) cap23,.int .i64 (size+((B8 t).size:Int)),.bool (if (tryM (O9 dir (B8 t)) M).1 != 0 then down||((tryM (O9 dir (B8 t)) M).1 != 61) else down),.bool true] 83 (0,0))]::g20::(K++(s2.G d (tryM (O9 dir (B8 t)) M).2++H)))) (fun w h=>(((((((h.erase 7).erase 6).erase 5).erase 4).erase 3).erase 2).erase 0)) (C1 [.tmp 4] [.int .i64 0] (k:=?_))
    rw [add_ok hmn (show M3 ⟨dir,L,size,down,false⟩ (B8 t)=(O9 dir (B8 t)) from rfl) hen]; exact ⟨_,_,_,rfl,(own_add hO21),hs2,by simp only [hen]; rfl⟩
theorem repTrue_ {s:DS} {M:DM} (hs:s.ok M) (hm:L5 M) (K:List Grp) (jb d:Nat) (dir:ByteArray) (rv:Value) (rg:Grp) (L:List ByteArray) (size:Int) (down:Bool) (ho:Go.Sw.Own 9 1 rv rg L.length (strs L)) (hdir:dir.size≤1000000) (hL:L.length≤1000000) (hz:0≤size∧size≤1000000000000) (a:Option Addr) (c:Nat) (ts:List ByteArray) (S:Nat→Obj→Prop) (hrd:Rd S a (strs ts)) (hts:ts.length≤1000000) (hn:a=none→ts.length=0) (hlb:(A4 ts).size≤1000000000) (hm1:L5 (D9 M (B0 dir G7) (A4 ts)).2) (hm2:L5 (L8 (D9 M (B0 dir G7) (A4 ts)).2 (B0 dir G7)).2) (hm3:L5 (J3 (L8 (D9 M (B0 dir G7) (A4 ts)).2 (B0 dir G7)).2 (B0 dir G7) (B0 dir logB)).2) (W0:World) (H:List Grp) (hS:∀ y o,S y o→At W0 (rg::K) y o):Tri Tryz.prog 18 #[pt jb,.slice a ts.length c] W0 ([(jb,.cells #[pt d,.string dir,rv,.int .i64 size,.bool down,.bool true] 83 (0,0))]::rg::(K++(s.G d M++H))) (CallR (E3 ⟨dir,L,size,down,true⟩ M ts) jb d K H):=by
 refine C8 (args:=[pt jb,.slice a ts.length c]) (n:=50) Tryz.func18 rfl rfl (Nat.le_of_ble_eq_true rfl) ?_
 refine A1 (A2 ?_)
 refine R3 (ch:=[]) (v:=pt jb) (k:=(fun b1=>?_))
 refine C4 [0] [1,2] (k:=A0 ?_)
 refine A1 (A1 ?_)
 refine A2 (A5 (ch:=[]) (b:=b1) (off:=0) (v:=pt jb) (hA:=At.grp 0 0 rfl rfl) (k:=?_))
 refine A7 (j:=2) [0] (k:=F6 Tryz.func45 (may_ a c ts S hrd (by first | (show 1≤1000000000; omega) | omega) jb (pt d) rv (.int .i64 size) (.bool true) dir down _ _ (At.grp 1 0 rfl rfl) (fun y o h=>At.sub (hS y o h) (fun q hq=>by simp only [List.flatten_cons,List.flatten_append,List.mem_append] at hq ⊢; rcases hq with hq | hq <;> simp [hq]))) ?_)
 refine C4 [0] [1,2,5] (k:=A0 ?_)
 refine A1 (G_p [0,0] [1,2,5,14] (k:=?_))
 refine A0 (C6 (b:=(mayI ts down) != 0) kr (fun hc2=>?_) (fun hc2=>?_))
 ·
  have hmc:=hc2
  refine A1 (B4 (E':=[⟨4,[],.int .i64 (mayI ts down)⟩]) [0,0] [4] (k:=?_))
  refine A0 (C3 ?_)
  refine B3 (E0 (H':=([(jb,.cells #[pt d,.string dir,rv,.int .i64 size,.bool down,.bool true] 83 (0,0))]::rg::(K++(s.G d M++H)))) (fun w h=>(h.erase 0)) ?_)
  refine C1 [.tmp 4] [.int .i64 (mayI ts down)] (k:=?_)
  rw [mayI_rep hmc]; exact ⟨rv,rg,s,rfl,ho,hs,rfl⟩
 ·
  have hmn:=Bool.eq_false_iff.1 hc2
  refine B5 (A0 ?_)
  refine A1 (A2 ?_)
  refine K5 (ch:=[]) (z:=.agg #[.pointer none,.slice none 0 0]) (k:=(fun b3=>?_))
  refine C4 [] [1,2,6] (k:=A0 ?_)
  refine A1 (A1 ?_)
  refine G_p [0,0,0] [1,2,6,16,17,18] (k:=A0 ?_)
  refine C5 (R8 (H':=([(b3,.cells #[.pointer none,.slice none 0 0] 95 (0,0))]::[]::[(b1,.cells #[pt jb] 28 (0,0))]::[(jb,.cells #[pt d,.string dir,rv,.int .i64 size,.bool down,.bool true] 83 (0,0))]::rg::(K++(s.G d M++H)))) (fun w h=>Sat.flat h (List.Perm.refl _)) ?_)
  refine I8 (EI:=(fun ξ:Nat × Value × Value × Grp=>[⟨1,[],.slice a ts.length c⟩,⟨2,[],pt b1⟩,⟨6,[],pt b3⟩,⟨16,[],.slice a ts.length c⟩,⟨17,[],.int .i64 ((ts.length:Nat):Int)⟩,⟨18,[],.int .i64 ((ξ.1:Nat):Int)⟩])) (HI:=(fun ξ:Nat × Value × Value × Grp=>([(b3,.cells #[ξ.2.1,ξ.2.2.1] 95 (0,0))]::ξ.2.2.2::[(b1,.cells #[pt jb] 28 (0,0))]::[(jb,.cells #[pt d,.string dir,rv,.int .i64 size,.bool down,.bool true] 83 (0,0))]::rg::(K++(s.G d M++H))))) (Φ:=(fun ξ:Nat × Value × Value × Grp=>(ξ.1≤ts.length)∧(Bld b3 ξ.2.1)∧(BOwn ξ.2.2.1 ξ.2.2.2 (A4 (ts.take ξ.1))))) (μ:=(fun ξ:Nat × Value × Value × Grp=>ts.length - ξ.1)) (s0:=(0,.pointer none,.slice none 0 0,[])) [1,2,6,16,17,18] kr rfl ⟨(by omega),bld0,(by simpa [BOwn,A4,u8s] using Go.Sw.Own.nil)⟩ ?_
  rintro ⟨k,p,v,g⟩ ⟨hk,hbp,hB⟩
  refine A1 (G_p [0] [1,2,6,16,17,18,19] (k:=?_))
  refine A0 (A1 ?_)
  refine C6 (b:=decide (((k:Nat):Int)<((ts.length:Nat):Int))) kr (fun hc4=>?_) (fun hc4=>?_)
  ·
   simp at hc4
   refine B5 (A0 ?_)
   refine A1 (C5 ?_)
   refine A1 (A2 ?_)
   refine B7 (ch:=[]) (a:=a) (len:=ts.length) (cap:=c) (kd:=.i64) (j:=((k:Nat):Int)) (e:=9) (sz:=1) (S:=S) (cs:=(strs ts)) (hrd:=hrd) (hb:=(fun _=>by exact ⟨by omega,by omega,strs_ne (by omega)⟩)) (k:=D4 (ch:=[]) (a:=a) (q:=k * 1) (S:=S) (cs:=(strs ts)) (v:=.string (ts.getD k default)) (hrd:=hrd) (hS:=(fun y o h=>At.sub (hS y o h) (fun q hq=>by simp only [List.flatten_cons,List.flatten_append,List.mem_append] at hq ⊢; rcases hq with hq | hq <;> simp [hq]))) (hv:=(fun _=>(by rw [Nat.mul_one]; exact A0n (by omega)))) (k:=?_))
   refine C4 [0] [1,2,6,8,16,17,18] (k:=A0 ?_)
   refine A2 (A7 (j:=1) [0] (k:=?_))
   refine F6 (vs:=[.string (ts.getD k default)]) Tryz.func46 (line_ _ (by have:=lines_at (show k<ts.length by omega); have:=H9 (ts.getD k default); omega) _ _) (G2 Tryz.func52 (writeString b3 (p) (v) g (A4 (ts.take k)) (B8 (ts.getD k default)) hbp hB (by have:=lines_at (show k<ts.length by omega); omega) _ _) ?_)
   rintro r H' ⟨rfl,v5,g6,hB7,rfl⟩
   refine C4 [] [1,2,6,16,17,18] (k:=D5 ?_)
   refine A0 (A2 ?_)
   refine A7 (j:=1) [0] (k:=F2 25 (((k:Nat):Int)+1) (by omega) (by omega) kr ?_)
   refine C4 [0] [1,2,6,16,17,18] (k:=E5 (s':=(k+1,.pointer (some ⟨b3,0,none⟩),v5,g6)) [1,2,6,16,17,18] kr rfl ⟨(by omega),bld1,(bown_succ hB7 (by omega))⟩ (by omega))
  ·
   simp at hc4
   refine G6 (A8 ?_)
   refine A8 (C7 ?_)
   refine A0 (A1 ?_)
   refine D7 ([(b3,.cells #[p,v] 95 (0,0))]::[(b1,.cells #[pt jb] 28 (0,0))]::K) kr (A9 0 (hL:=(fun w h=>(Sat.takeMid (K:=[_,_]) (A:=K) (((h.erase 4).erase 3).erase 1)))) (hy:=A5 (i:=0) (ch:=[]) (b:=b1) (off:=0) (v:=pt jb) (hA:=At.grp 1 0 rfl rfl) (k:=B1 kr rfl)) (k:=?_))
   refine D0 (fuel:=8) [(1,0)] (fun w h=>(Sat.takeMid (K:=[_,_]) (A:=K) (((h.erase 4).erase 3).erase 1))) (k:=A9 2 (hL:=(fun w h=>(Sat.takeMid (K:=[_,_]) (A:=K) (((h.erase 4).erase 3).erase 1)))) (hy:=A5 (i:=2) (ch:=[]) (b:=b1) (off:=0) (v:=pt jb) (hA:=At.grp 1 0 rfl rfl) (k:=B1 kr rfl)) (k:=?_))
   refine D0 (fuel:=6) [(4,0)] (fun w h=>(Sat.takeMid (K:=[_,_]) (A:=K) (((h.erase 4).erase 3).erase 1))) (k:=A9 5 (hL:=(fun w h=>(Sat.takeMid (K:=[_,_]) (A:=K) (((h.erase 4).erase 3).erase 1)))) (hy:=A5 (i:=5) (ch:=[]) (b:=b1) (off:=0) (v:=pt jb) (hA:=At.grp 1 0 rfl rfl) (k:=B1 kr rfl)) (k:=?_))
   refine D0 (fuel:=4) [(6,0)] (fun w h=>(Sat.takeMid (K:=[_,_]) (A:=K) (((h.erase 4).erase 3).erase 1))) (k:=B9 3 (k:=?_))
   refine G2 Tryz.func49 (mkSync_ jb (ByteArray.mk #[110,101,119]) _ _) ?_
   rintro v H' ⟨b9,b10,rfl,rfl⟩
   refine A6 kr (fun w h=>(Sat.takeMid (K:=[_,_]) (A:=K) (((((h.erase 6).erase 5).erase 3).erase 1).erase 0))) (I0 ([(b10,.cells #[.string (ByteArray.mk #[110,101,119])] 9 (0,0))]::[(b9,.cells #[pt jb] 28 (0,0))]::[(b3,.cells #[p,v] 95 (0,0))]::[(b1,.cells #[pt jb] 28 (0,0))]::K) (fun w h=>((h.erase 1).erase 0)) ?_)
   refine B9 7 (k:=C2 (ch:=[]) (e:=91) (l:=[(0,.func (.func 53) #[] #[pt b1,pt b3]),(1,.func (.func 85) #[] #[pt b9,pt b10]),(2,.func (.func 55) #[] #[pt b1]),(3,.func (.func 51) #[pt jb] #[])]) (c:=[.func (.func 53) #[] #[pt b1,pt b3],.func (.func 85) #[] #[pt b9,pt b10],.func (.func 55) #[] #[pt b1],.func (.func 51) #[pt jb] #[]]) (k:=(fun b11=>?_)))
   refine A6 kr (fun w h=>(Sat.takeMid (K:=[_,_,_,_]) (A:=K) ((((h.erase 7).erase 6).erase 4).erase 0))) (I0 ([(b11,.cells #[.func (.func 53) #[] #[pt b1,pt b3],.func (.func 85) #[] #[pt b9,pt b10],.func (.func 55) #[] #[pt b1],.func (.func 51) #[pt jb] #[]] 91 (0,0))]::[(b10,.cells #[.string (ByteArray.mk #[110,101,119])] 9 (0,0))]::[(b9,.cells #[pt jb] 28 (0,0))]::[(b3,.cells #[p,v] 95 (0,0))]::[(b1,.cells #[pt jb] 28 (0,0))]::K) (fun w h=>(h.erase 0)) ?_)
   refine B9 8 (k:=I5 rfl (H':=([(jb,.cells #[pt d,.string dir,rv,.int .i64 size,.bool down,.bool true] 83 (0,0))]::g::[(b3,.cells #[p,v] 95 (0,0))]::[(b11,.cells #[.func (.func 53) #[] #[pt b1,pt b3],.func (.func 85) #[] #[pt b9,pt b10],.func (.func 55) #[] #[pt b1],.func (.func 51) #[pt jb] #[]] 91 (0,0))]::[(b10,.cells #[.string (ByteArray.mk #[110,101,119])] 9 (0,0))]::[(b9,.cells #[pt jb] 28 (0,0))]::[(b1,.cells #[pt jb] 28 (0,0))]::rg::(K++(s.G d M++H)))) (fun w h=>(((h.front (j:=3) rfl).front (j:=4) rfl).front (j:=6) rfl)) ?_)
   refine G2 Tryz.func47 (tryRep hs dir (A4 ts) hlb hdir hm hm1 hm2 hm3 jb d b1 b3 b9 b10 b11 (p) (v) g (bown_all hB (by omega)) rv size down true ([[(b11,.cells #[.func (.func 53) #[] #[pt b1,pt b3],.func (.func 85) #[] #[pt b9,pt b10],.func (.func 55) #[] #[pt b1],.func (.func 51) #[pt jb] #[]] 91 (0,0))],[(b10,.cells #[.string (ByteArray.mk #[110,101,119])] 9 (0,0))],[(b9,.cells #[pt jb] 28 (0,0))],[(b1,.cells #[pt jb] 28 (0,0))],rg]++K) _ H (At.grp 0 0 rfl rfl) (At.grp 3 0 rfl rfl) (At.grp 2 0 rfl rfl) (At.grp 1 0 rfl rfl)) ?_
   rintro v H' ⟨rfl,s2,hs2,rfl⟩
   refine A6 kr (fun w h=>(Sat.takeMid (K:=[_,_,_,_,_]) (A:=K) (((((((h.front (j:=5) rfl).front (j:=2) rfl).front (j:=5) rfl).front (j:=5) rfl).front (j:=5) rfl).erase 6).erase 5))) (D0 (fuel:=0) [(9,0)] (fun w h=>(Sat.takeMid (K:=[_,_,_,_,_]) (A:=K) (((((((h.front (j:=5) rfl).front (j:=2) rfl).front (j:=5) rfl).front (j:=5) rfl).front (j:=5) rfl).erase 6).erase 5))) (k:=?_))
   refine D8 (E':=[⟨1,[],.slice a ts.length c⟩,⟨2,[],pt b1⟩,⟨6,[],pt b3⟩,⟨9,[],.int .i64 ((tryM (E4 dir (A4 ts)) M).1)⟩]) [1,2,6,9] (k:=A0 ?_)
   refine A1 (A1 ?_)
   refine G_p [0,0] [1,2,6,9,36] (k:=A0 ?_)
   refine C6 (b:=((tryM (E4 dir (A4 ts)) M).1) != 0) kr (fun hc12=>?_) (fun hc12=>?_)
   ·
    have hec:=hc12
    refine A1 (G_p [0,0] [4] (k:=?_))
    refine A0 (C3 ?_)
    refine B3 (E0 (H':=([(jb,.cells #[pt d,.string dir,rv,.int .i64 size,.bool (if (tryM (E4 dir (A4 ts)) M).1 != 0 then down||((tryM (E4 dir (A4 ts)) M).1 != 61) else down),.bool true] 83 (0,0))]::rg::(K++(s2.G d (tryM (E4 dir (A4 ts)) M).2++H)))) (fun w h=>(((((h.erase 5).erase 4).erase 3).erase 2).erase 1)) ?_)
    refine C1 [.tmp 4] [.int .i64 ((tryM (E4 dir (A4 ts)) M).1)] (k:=?_)
    rw [rep_err hmn hec]; exact ⟨rv,rg,_,rfl,ho,hs2,by simp only [hec,if_true]; rfl⟩
   ·
    have hen:=Bool.eq_false_iff.1 hc12
    refine B5 (A0 ?_)
    refine A1 (A2 ?_)
    refine A5 (ch:=[]) (b:=b1) (off:=0) (v:=pt jb) (hA:=At.grp 5 0 rfl rfl) (k:=A7 (j:=3) [0,0] (k:=?_))
    refine G4 (ch:=[]) (b:=jb) (off:=5) (v:=.bool true) (j:=0) ([(jb,.cells #[pt d,.string dir,rv,.int .i64 size,.bool (if (tryM (E4 dir (A4 ts)) M).1 != 0 then down||((tryM (E4 dir (A4 ts)) M).1 != 61) else down),.bool true] 83 (0,0))]::[(b3,.cells #[p,v] 95 (0,0))]::[(b11,.cells #[.func (.func 53) #[] #[pt b1,pt b3],.func (.func 85) #[] #[pt b9,pt b10],.func (.func 55) #[] #[pt b1],.func (.func 51) #[pt jb] #[]] 91 (0,0))]::[(b10,.cells #[.string (ByteArray.mk #[110,101,119])] 9 (0,0))]::[(b9,.cells #[pt jb] 28 (0,0))]::[(b1,.cells #[pt jb] 28 (0,0))]::rg::(K++(s2.G d (tryM (E4 dir (A4 ts)) M).2++H))) (hoff:=Nat.le_of_ble_eq_true rfl) (hfz:=(fun _ _=>F0)) (k:=C4 [] [1,2,6] (k:=?_))
    refine A0 (A1 ?_)
    refine D7 ([(b3,.cells #[p,v] 95 (0,0))]::[(b11,.cells #[.func (.func 53) #[] #[pt b1,pt b3],.func (.func 85) #[] #[pt b9,pt b10],.func (.func 55) #[] #[pt b1],.func (.func 51) #[pt jb] #[]] 91 (0,0))]::[(b10,.cells #[.string (ByteArray.mk #[110,101,119])] 9 (0,0))]::[(b9,.cells #[pt jb] 28 (0,0))]::[(b1,.cells #[pt jb] 28 (0,0))]::K) kr (A9 0 (hL:=(fun w h=>(Sat.takeMid (K:=[_,_,_,_,_]) (A:=K) ((h.erase 6).erase 0)))) (hy:=A5 (i:=0) (ch:=[]) (b:=b1) (off:=0) (v:=pt jb) (hA:=At.grp 4 0 rfl rfl) (k:=B1 kr rfl)) (k:=?_))
    refine A9 1 (hL:=(fun w h=>(Sat.takeMid (K:=[_,_,_,_,_]) (A:=K) ((h.erase 6).erase 0)))) (hy:=A5 (i:=1) (ch:=[]) (b:=b1) (off:=0) (v:=pt jb) (hA:=At.grp 4 0 rfl rfl) (k:=B1 kr rfl)) (k:=D0 (fuel:=8) [(2,0)] (fun w h=>(Sat.takeMid (K:=[_,_,_,_,_]) (A:=K) ((h.erase 6).erase 0))) (k:=?_))
    refine B9 3 (k:=G2 Tryz.func44 (clone_ a c ts S hrd hts hn _ _ (fun y o h=>At.sub (hS y o h) (fun q hq=>by simp only [List.flatten_cons,List.flatten_append,List.mem_append] at hq ⊢; rcases hq with hq | hq <;> simp [hq]))) ?_)
    rintro v H' ⟨g13,hO14,rfl⟩
    obtain ⟨a15,c16,rfl,hc17,hrd18⟩:=Go.Sw.Own.shape hO14
    refine A6 kr (fun w h=>(Sat.takeMid (K:=[_,_,_,_,_]) (A:=K) (((h.erase 7).erase 1).erase 0))) (I0 (g13::[(b3,.cells #[p,v] 95 (0,0))]::[(b11,.cells #[.func (.func 53) #[] #[pt b1,pt b3],.func (.func 85) #[] #[pt b9,pt b10],.func (.func 55) #[] #[pt b1],.func (.func 51) #[pt jb] #[]] 91 (0,0))]::[(b10,.cells #[.string (ByteArray.mk #[110,101,119])] 9 (0,0))]::[(b9,.cells #[pt jb] 28 (0,0))]::[(b1,.cells #[pt jb] 28 (0,0))]::K) (fun w h=>(h.erase 0)) ?_)
    refine B9 4 (k:=I5 rfl (H':=([(b3,.cells #[p,v] 95 (0,0))]::g13::[(jb,.cells #[pt d,.string dir,rv,.int .i64 size,.bool (if (tryM (E4 dir (A4 ts)) M).1 != 0 then down||((tryM (E4 dir (A4 ts)) M).1 != 61) else down),.bool true] 83 (0,0))]::[(b11,.cells #[.func (.func 53) #[] #[pt b1,pt b3],.func (.func 85) #[] #[pt b9,pt b10],.func (.func 55) #[] #[pt b1],.func (.func 51) #[pt jb] #[]] 91 (0,0))]::[(b10,.cells #[.string (ByteArray.mk #[110,101,119])] 9 (0,0))]::[(b9,.cells #[pt jb] 28 (0,0))]::[(b1,.cells #[pt jb] 28 (0,0))]::rg::(K++(s2.G d (tryM (E4 dir (A4 ts)) M).2++H)))) (fun w h=>(h.front (j:=2) rfl)) ?_)
    refine G2 (vs:=[pt b3]) Tryz.func57 (builderLen b3 (p) (v) _ (A4 ts) (bown_all hB (by omega)) _ _) ?_
    rintro r H' ⟨rfl,rfl⟩
    refine A6 kr (fun w h=>(Sat.takeMid (K:=[_,_,_,_,_,_]) (A:=K) ((((((((h.front (j:=6) rfl).front (j:=6) rfl).front (j:=6) rfl).front (j:=6) rfl).front (j:=4) rfl).front (j:=5) rfl).erase 7).erase 6))) (G0 (ad:=⟨jb,0,none⟩) 5 (hL:=(fun w h=>(Sat.takeMid (K:=[_,_,_,_,_,_]) (A:=K) ((((((((h.front (j:=6) rfl).front (j:=6) rfl).front (j:=6) rfl).front (j:=6) rfl).front (j:=4) rfl).front (j:=5) rfl).erase 7).erase 6)))) (k:=?_))
    refine D0 (fuel:=4) [(6,0)] (fun w h=>(Sat.takeMid (K:=[_,_,_,_,_,_]) (A:=K) ((((((((h.front (j:=6) rfl).front (j:=6) rfl).front (j:=6) rfl).front (j:=6) rfl).front (j:=4) rfl).front (j:=5) rfl).erase 7).erase 6))) (k:=B9 7 (k:=?_))
    refine G4 (ch:=[]) (b:=jb) (off:=2) (v:=.slice a15 ts.length c16) (j:=2) ([(b3,.cells #[p,v] 95 (0,0))]::g13::[(jb,.cells #[pt d,.string dir,.slice a15 ts.length c16,.int .i64 size,.bool (if (tryM (E4 dir (A4 ts)) M).1 != 0 then down||((tryM (E4 dir (A4 ts)) M).1 != 61) else down),.bool true] 83 (0,0))]::[(b11,.cells #[.func (.func 53) #[] #[pt b1,pt b3],.func (.func 85) #[] #[pt b9,pt b10],.func (.func 55) #[] #[pt b1],.func (.func 51) #[pt jb] #[]] 91 (0,0))]::[(b10,.cells #[.string (ByteArray.mk #[110,101,119])] 9 (0,0))]::[(b9,.cells #[pt jb] 28 (0,0))]::[(b1,.cells #[pt jb] 28 (0,0))]::rg::(K++(s2.G d (tryM (E4 dir (A4 ts)) M).2++H))) (hoff:=Nat.le_of_ble_eq_true rfl) (hfz:=(fun _ _=>F0)) (k:=A6 kr (fun w h=>(Sat.takeMid (K:=[_,_,_,_,_,_]) (A:=K) ((((((((h.front (j:=6) rfl).front (j:=6) rfl).front (j:=6) rfl).front (j:=6) rfl).front (j:=4) rfl).front (j:=5) rfl).erase 7).erase 6))) ?_)
    refine G0 (ad:=⟨jb,0,none⟩) 8 (hL:=(fun w h=>(Sat.takeMid (K:=[_,_,_,_,_,_]) (A:=K) ((((((((h.front (j:=6) rfl).front (j:=6) rfl).front (j:=6) rfl).front (j:=6) rfl).front (j:=4) rfl).front (j:=5) rfl).erase 7).erase 6)))) (k:=D0 (fuel:=1) [(9,0)] (fun w h=>(Sat.takeMid (K:=[_,_,_,_,_,_]) (A:=K) ((((((((h.front (j:=6) rfl).front (j:=6) rfl).front (j:=6) rfl).front (j:=6) rfl).front (j:=4) rfl).front (j:=5) rfl).erase 7).erase 6))) (k:=?_))
    refine B9 10 (k:=G4 (ch:=[]) (b:=jb) (off:=3) (v:=.int .i64 (((A4 ts).size:Nat):Int)) (j:=2) ([(b3,.cells #[p,v] 95 (0,0))]::g13::[(jb,.cells #[pt d,.string dir,.slice a15 ts.length c16,.int .i64 (((A4 ts).size:Nat):Int),.bool (if (tryM (E4 dir (A4 ts)) M).1 != 0 then down||((tryM (E4 dir (A4 ts)) M).1 != 61) else down),.bool true] 83 (0,0))]::[(b11,.cells #[.func (.func 53) #[] #[pt b1,pt b3],.func (.func 85) #[] #[pt b9,pt b10],.func (.func 55) #[] #[pt b1],.func (.func 51) #[pt jb] #[]] 91 (0,0))]::[(b10,.cells #[.string (ByteArray.mk #[110,101,119])] 9 (0,0))]::[(b9,.cells #[pt jb] 28 (0,0))]::[(b1,.cells #[pt jb] 28 (0,0))]::rg::(K++(s2.G d (tryM (E4 dir (A4 ts)) M).2++H))) (hoff:=Nat.le_of_ble_eq_true rfl) (hfz:=(fun _ _=>F0)) (k:=?_))
    refine A6 kr (fun w h=>(Sat.takeMid (K:=[_,_,_,_,_,_]) (A:=K) ((((((((h.front (j:=6) rfl).front (j:=6) rfl).front (j:=6) rfl).front (j:=6) rfl).front (j:=4) rfl).front (j:=5) rfl).erase 7).erase 6))) (D8 (E':=[]) [] (k:=?_))
    refine A0 (A1 ?_)
    refine B4 (E':=[⟨4,[],.int .i64 0⟩]) [0] [4] (k:=A0 ?_)
    refine C3 (E0 (H':=([(jb,.cells #[pt d,.string dir,.slice a15 ts.length c16,.int .i64 (((A4 ts).size:Nat):Int),.bool (if (tryM (E4 dir (A4 ts)) M).1 != 0 then down||((tryM (E4 dir (A4 ts)) M).1 != 61) else down),.bool true] 83 (0,0))]::g13::(K++(s2.G d (tryM (E4 dir (A4 ts)) M).2++H)))) (fun w h=>((((((((h.front (j:=1) rfl).front (j:=2) rfl).erase 7).erase 6).erase 5).erase 4).erase 3).erase 2)) ?_)
    refine C1 [.tmp 4] [.int .i64 0] (k:=?_)
    rw [rep_ok hmn hen]; exact ⟨_,_,_,rfl,hO14,hs2,by simp only [hen]; rfl⟩
theorem repFalse_ {s:DS} {M:DM} (hs:s.ok M) (hm:L5 M) (K:List Grp) (jb d:Nat) (dir:ByteArray) (rv:Value) (rg:Grp) (L:List ByteArray) (size:Int) (down:Bool) (ho:Go.Sw.Own 9 1 rv rg L.length (strs L)) (hdir:dir.size≤1000000) (hL:L.length≤1000000) (hz:0≤size∧size≤1000000000000) (a:Option Addr) (c:Nat) (ts:List ByteArray) (S:Nat→Obj→Prop) (hrd:Rd S a (strs ts)) (hts:ts.length≤1000000) (hn:a=none→ts.length=0) (hlb:(A4 ts).size≤1000000000) (hm1:L5 (D9 M (B0 dir G7) (A4 ts)).2) (hm2:L5 (L8 (D9 M (B0 dir G7) (A4 ts)).2 (B0 dir G7)).2) (hm3:L5 (J3 (L8 (D9 M (B0 dir G7) (A4 ts)).2 (B0 dir G7)).2 (B0 dir G7) (B0 dir logB)).2) (W0:World) (H:List Grp) (hS:∀ y o,S y o→At W0 (rg::K) y o):Tri Tryz.prog 18 #[pt jb,.slice a ts.length c] W0 ([(jb,.cells #[pt d,.string dir,rv,.int .i64 size,.bool down,.bool false] 83 (0,0))]::rg::(K++(s.G d M++H))) (CallR (E3 ⟨dir,L,size,down,false⟩ M ts) jb d K H):=by
 refine C8 (args:=[pt jb,.slice a ts.length c]) (n:=50) Tryz.func18 rfl rfl (Nat.le_of_ble_eq_true rfl) ?_
 refine A1 (A2 ?_)
 refine R3 (ch:=[]) (v:=pt jb) (k:=(fun b1=>?_))
 refine C4 [0] [1,2] (k:=A0 ?_)
 refine A1 (A1 ?_)
 refine A2 (A5 (ch:=[]) (b:=b1) (off:=0) (v:=pt jb) (hA:=At.grp 0 0 rfl rfl) (k:=?_))
 refine A7 (j:=2) [0] (k:=F6 Tryz.func45 (may_ a c ts S hrd (by first | (show 1≤1000000000; omega) | omega) jb (pt d) rv (.int .i64 size) (.bool false) dir down _ _ (At.grp 1 0 rfl rfl) (fun y o h=>At.sub (hS y o h) (fun q hq=>by simp only [List.flatten_cons,List.flatten_append,List.mem_append] at hq ⊢; rcases hq with hq | hq <;> simp [hq]))) ?_)
 refine C4 [0] [1,2,5] (k:=A0 ?_)
 refine A1 (G_p [0,0] [1,2,5,14] (k:=?_))
 refine A0 (C6 (b:=(mayI ts down) != 0) kr (fun hc2=>?_) (fun hc2=>?_))
 ·
  have hmc:=hc2
  refine A1 (B4 (E':=[⟨4,[],.int .i64 (mayI ts down)⟩]) [0,0] [4] (k:=?_))
  refine A0 (C3 ?_)
  refine B3 (E0 (H':=([(jb,.cells #[pt d,.string dir,rv,.int .i64 size,.bool down,.bool false] 83 (0,0))]::rg::(K++(s.G d M++H)))) (fun w h=>(h.erase 0)) ?_)
  refine C1 [.tmp 4] [.int .i64 (mayI ts down)] (k:=?_)
  rw [mayI_rep hmc]; exact ⟨rv,rg,s,rfl,ho,hs,rfl⟩
 ·
  have hmn:=Bool.eq_false_iff.1 hc2
  refine B5 (A0 ?_)
  refine A1 (A2 ?_)
  refine K5 (ch:=[]) (z:=.agg #[.pointer none,.slice none 0 0]) (k:=(fun b3=>?_))
  refine C4 [] [1,2,6] (k:=A0 ?_)
  refine A1 (A1 ?_)
  refine G_p [0,0,0] [1,2,6,16,17,18] (k:=A0 ?_)
  refine C5 (R8 (H':=([(b3,.cells #[.pointer none,.slice none 0 0] 95 (0,0))]::[]::[(b1,.cells #[pt jb] 28 (0,0))]::[(jb,.cells #[pt d,.string dir,rv,.int .i64 size,.bool down,.bool false] 83 (0,0))]::rg::(K++(s.G d M++H)))) (fun w h=>Sat.flat h (List.Perm.refl _)) ?_)
  refine I8 (EI:=(fun ξ:Nat × Value × Value × Grp=>[⟨1,[],.slice a ts.length c⟩,⟨2,[],pt b1⟩,⟨6,[],pt b3⟩,⟨16,[],.slice a ts.length c⟩,⟨17,[],.int .i64 ((ts.length:Nat):Int)⟩,⟨18,[],.int .i64 ((ξ.1:Nat):Int)⟩])) (HI:=(fun ξ:Nat × Value × Value × Grp=>([(b3,.cells #[ξ.2.1,ξ.2.2.1] 95 (0,0))]::ξ.2.2.2::[(b1,.cells #[pt jb] 28 (0,0))]::[(jb,.cells #[pt d,.string dir,rv,.int .i64 size,.bool down,.bool false] 83 (0,0))]::rg::(K++(s.G d M++H))))) (Φ:=(fun ξ:Nat × Value × Value × Grp=>(ξ.1≤ts.length)∧(Bld b3 ξ.2.1)∧(BOwn ξ.2.2.1 ξ.2.2.2 (A4 (ts.take ξ.1))))) (μ:=(fun ξ:Nat × Value × Value × Grp=>ts.length - ξ.1)) (s0:=(0,.pointer none,.slice none 0 0,[])) [1,2,6,16,17,18] kr rfl ⟨(by omega),bld0,(by simpa [BOwn,A4,u8s] using Go.Sw.Own.nil)⟩ ?_
  rintro ⟨k,p,v,g⟩ ⟨hk,hbp,hB⟩
  refine A1 (G_p [0] [1,2,6,16,17,18,19] (k:=?_))
  refine A0 (A1 ?_)
  refine C6 (b:=decide (((k:Nat):Int)<((ts.length:Nat):Int))) kr (fun hc4=>?_) (fun hc4=>?_)
  ·
   simp at hc4
   refine B5 (A0 ?_)
   refine A1 (C5 ?_)
   refine A1 (A2 ?_)
   refine B7 (ch:=[]) (a:=a) (len:=ts.length) (cap:=c) (kd:=.i64) (j:=((k:Nat):Int)) (e:=9) (sz:=1) (S:=S) (cs:=(strs ts)) (hrd:=hrd) (hb:=(fun _=>by exact ⟨by omega,by omega,strs_ne (by omega)⟩)) (k:=D4 (ch:=[]) (a:=a) (q:=k * 1) (S:=S) (cs:=(strs ts)) (v:=.string (ts.getD k default)) (hrd:=hrd) (hS:=(fun y o h=>At.sub (hS y o h) (fun q hq=>by simp only [List.flatten_cons,List.flatten_append,List.mem_append] at hq ⊢; rcases hq with hq | hq <;> simp [hq]))) (hv:=(fun _=>(by rw [Nat.mul_one]; exact A0n (by omega)))) (k:=?_))
   refine C4 [0] [1,2,6,8,16,17,18] (k:=A0 ?_)
   refine A2 (A7 (j:=1) [0] (k:=?_))
   refine F6 (vs:=[.string (ts.getD k default)]) Tryz.func46 (line_ _ (by have:=lines_at (show k<ts.length by omega); have:=H9 (ts.getD k default); omega) _ _) (G2 Tryz.func52 (writeString b3 (p) (v) g (A4 (ts.take k)) (B8 (ts.getD k default)) hbp hB (by have:=lines_at (show k<ts.length by omega); omega) _ _) ?_)
   rintro r H' ⟨rfl,v5,g6,hB7,rfl⟩
   refine C4 [] [1,2,6,16,17,18] (k:=D5 ?_)
   refine A0 (A2 ?_)
   refine A7 (j:=1) [0] (k:=F2 25 (((k:Nat):Int)+1) (by omega) (by omega) kr ?_)
   refine C4 [0] [1,2,6,16,17,18] (k:=E5 (s':=(k+1,.pointer (some ⟨b3,0,none⟩),v5,g6)) [1,2,6,16,17,18] kr rfl ⟨(by omega),bld1,(bown_succ hB7 (by omega))⟩ (by omega))
  ·
   simp at hc4
   refine G6 (A8 ?_)
   refine A8 (C7 ?_)
   refine A0 (A1 ?_)
   refine D7 ([(b3,.cells #[p,v] 95 (0,0))]::[(b1,.cells #[pt jb] 28 (0,0))]::K) kr (A9 0 (hL:=(fun w h=>(Sat.takeMid (K:=[_,_]) (A:=K) (((h.erase 4).erase 3).erase 1)))) (hy:=A5 (i:=0) (ch:=[]) (b:=b1) (off:=0) (v:=pt jb) (hA:=At.grp 1 0 rfl rfl) (k:=B1 kr rfl)) (k:=?_))
   refine D0 (fuel:=8) [(1,0)] (fun w h=>(Sat.takeMid (K:=[_,_]) (A:=K) (((h.erase 4).erase 3).erase 1))) (k:=A9 2 (hL:=(fun w h=>(Sat.takeMid (K:=[_,_]) (A:=K) (((h.erase 4).erase 3).erase 1)))) (hy:=A5 (i:=2) (ch:=[]) (b:=b1) (off:=0) (v:=pt jb) (hA:=At.grp 1 0 rfl rfl) (k:=B1 kr rfl)) (k:=?_))
   refine D0 (fuel:=6) [(4,0)] (fun w h=>(Sat.takeMid (K:=[_,_]) (A:=K) (((h.erase 4).erase 3).erase 1))) (k:=A9 5 (hL:=(fun w h=>(Sat.takeMid (K:=[_,_]) (A:=K) (((h.erase 4).erase 3).erase 1)))) (hy:=A5 (i:=5) (ch:=[]) (b:=b1) (off:=0) (v:=pt jb) (hA:=At.grp 1 0 rfl rfl) (k:=B1 kr rfl)) (k:=?_))
   refine D0 (fuel:=4) [(6,0)] (fun w h=>(Sat.takeMid (K:=[_,_]) (A:=K) (((h.erase 4).erase 3).erase 1))) (k:=B9 3 (k:=?_))
   refine G2 Tryz.func49 (mkSync_ jb (ByteArray.mk #[110,101,119]) _ _) ?_
   rintro v H' ⟨b9,b10,rfl,rfl⟩
   refine A6 kr (fun w h=>(Sat.takeMid (K:=[_,_]) (A:=K) (((((h.erase 6).erase 5).erase 3).erase 1).erase 0))) (I0 ([(b10,.cells #[.string (ByteArray.mk #[110,101,119])] 9 (0,0))]::[(b9,.cells #[pt jb] 28 (0,0))]::[(b3,.cells #[p,v] 95 (0,0))]::[(b1,.cells #[pt jb] 28 (0,0))]::K) (fun w h=>((h.erase 1).erase 0)) ?_)
   refine B9 7 (k:=C2 (ch:=[]) (e:=91) (l:=[(0,.func (.func 53) #[] #[pt b1,pt b3]),(1,.func (.func 85) #[] #[pt b9,pt b10]),(2,.func (.func 55) #[] #[pt b1]),(3,.func (.func 51) #[pt jb] #[])]) (c:=[.func (.func 53) #[] #[pt b1,pt b3],.func (.func 85) #[] #[pt b9,pt b10],.func (.func 55) #[] #[pt b1],.func (.func 51) #[pt jb] #[]]) (k:=(fun b11=>?_)))
   refine A6 kr (fun w h=>(Sat.takeMid (K:=[_,_,_,_]) (A:=K) ((((h.erase 7).erase 6).erase 4).erase 0))) (I0 ([(b11,.cells #[.func (.func 53) #[] #[pt b1,pt b3],.func (.func 85) #[] #[pt b9,pt b10],.func (.func 55) #[] #[pt b1],.func (.func 51) #[pt jb] #[]] 91 (0,0))]::[(b10,.cells #[.string (ByteArray.mk #[110,101,119])] 9 (0,0))]::[(b9,.cells #[pt jb] 28 (0,0))]::[(b3,.cells #[p,v] 95 (0,0))]::[(b1,.cells #[pt jb] 28 (0,0))]::K) (fun w h=>(h.erase 0)) ?_)
   refine B9 8 (k:=I5 rfl (H':=([(jb,.cells #[pt d,.string dir,rv,.int .i64 size,.bool down,.bool false] 83 (0,0))]::g::[(b3,.cells #[p,v] 95 (0,0))]::[(b11,.cells #[.func (.func 53) #[] #[pt b1,pt b3],.func (.func 85) #[] #[pt b9,pt b10],.func (.func 55) #[] #[pt b1],.func (.func 51) #[pt jb] #[]] 91 (0,0))]::[(b10,.cells #[.string (ByteArray.mk #[110,101,119])] 9 (0,0))]::[(b9,.cells #[pt jb] 28 (0,0))]::[(b1,.cells #[pt jb] 28 (0,0))]::rg::(K++(s.G d M++H)))) (fun w h=>(((h.front (j:=3) rfl).front (j:=4) rfl).front (j:=6) rfl)) ?_)
   refine G2 Tryz.func47 (tryRep hs dir (A4 ts) hlb hdir hm hm1 hm2 hm3 jb d b1 b3 b9 b10 b11 (p) (v) g (bown_all hB (by omega)) rv size down false ([[(b11,.cells #[.func (.func 53) #[] #[pt b1,pt b3],.func (.func 85) #[] #[pt b9,pt b10],.func (.func 55) #[] #[pt b1],.func (.func 51) #[pt jb] #[]] 91 (0,0))],[(b10,.cells #[.string (ByteArray.mk #[110,101,119])] 9 (0,0))],[(b9,.cells #[pt jb] 28 (0,0))],[(b1,.cells #[pt jb] 28 (0,0))],rg]++K) _ H (At.grp 0 0 rfl rfl) (At.grp 3 0 rfl rfl) (At.grp 2 0 rfl rfl) (At.grp 1 0 rfl rfl)) ?_
   rintro v H' ⟨rfl,s2,hs2,rfl⟩
   refine A6 kr (fun w h=>(Sat.takeMid (K:=[_,_,_,_,_]) (A:=K) (((((((h.front (j:=5) rfl).front (j:=2) rfl).front (j:=5) rfl).front (j:=5) rfl).front (j:=5) rfl).erase 6).erase 5))) (D0 (fuel:=0) [(9,0)] (fun w h=>(Sat.takeMid (K:=[_,_,_,_,_]) (A:=K) (((((((h.front (j:=5) rfl).front (j:=2) rfl).front (j:=5) rfl).front (j:=5) rfl).front (j:=5) rfl).erase 6).erase 5))) (k:=?_))
   refine D8 (E':=[⟨1,[],.slice a ts.length c⟩,⟨2,[],pt b1⟩,⟨6,[],pt b3⟩,⟨9,[],.int .i64 ((tryM (E4 dir (A4 ts)) M).1)⟩]) [1,2,6,9] (k:=A0 ?_)
   refine A1 (A1 ?_)
   refine G_p [0,0] [1,2,6,9,36] (k:=A0 ?_)
   refine C6 (b:=((tryM (E4 dir (A4 ts)) M).1) != 0) kr (fun hc12=>?_) (fun hc12=>?_)
   ·
    have hec:=hc12
    refine A1 (G_p [0,0] [4] (k:=?_))
    refine A0 (C3 ?_)
    refine B3 (E0 (H':=([(jb,.cells #[pt d,.string dir,rv,.int .i64 size,.bool (if (tryM (E4 dir (A4 ts)) M).1 != 0 then down||((tryM (E4 dir (A4 ts)) M).1 != 61) else down),.bool false] 83 (0,0))]::rg::(K++(s2.G d (tryM (E4 dir (A4 ts)) M).2++H)))) (fun w h=>(((((h.erase 5).erase 4).erase 3).erase 2).erase 1)) ?_)
    refine C1 [.tmp 4] [.int .i64 ((tryM (E4 dir (A4 ts)) M).1)] (k:=?_)
    rw [rep_err hmn hec]; exact ⟨rv,rg,_,rfl,ho,hs2,by simp only [hec,if_true]; rfl⟩
   ·
    have hen:=Bool.eq_false_iff.1 hc12
    refine B5 (A0 ?_)
    refine A1 (A2 ?_)
    refine A5 (ch:=[]) (b:=b1) (off:=0) (v:=pt jb) (hA:=At.grp 5 0 rfl rfl) (k:=A7 (j:=3) [0,0] (k:=?_))
    refine G4 (ch:=[]) (b:=jb) (off:=5) (v:=.bool true) (j:=0) ([(jb,.cells #[pt d,.string dir,rv,.int .i64 size,.bool (if (tryM (E4 dir (A4 ts)) M).1 != 0 then down||((tryM (E4 dir (A4 ts)) M).1 != 61) else down),.bool true] 83 (0,0))]::[(b3,.cells #[p,v] 95 (0,0))]::[(b11,.cells #[.func (.func 53) #[] #[pt b1,pt b3],.func (.func 85) #[] #[pt b9,pt b10],.func (.func 55) #[] #[pt b1],.func (.func 51) #[pt jb] #[]] 91 (0,0))]::[(b10,.cells #[.string (ByteArray.mk #[110,101,119])] 9 (0,0))]::[(b9,.cells #[pt jb] 28 (0,0))]::[(b1,.cells #[pt jb] 28 (0,0))]::rg::(K++(s2.G d (tryM (E4 dir (A4 ts)) M).2++H))) (hoff:=Nat.le_of_ble_eq_true rfl) (hfz:=(fun _ _=>F0)) (k:=C4 [] [1,2,6] (k:=?_))
    refine A0 (A1 ?_)
    refine D7 ([(b3,.cells #[p,v] 95 (0,0))]::[(b11,.cells #[.func (.func 53) #[] #[pt b1,pt b3],.func (.func 85) #[] #[pt b9,pt b10],.func (.func 55) #[] #[pt b1],.func (.func 51) #[pt jb] #[]] 91 (0,0))]::[(b10,.cells #[.string (ByteArray.mk #[110,101,119])] 9 (0,0))]::[(b9,.cells #[pt jb] 28 (0,0))]::[(b1,.cells #[pt jb] 28 (0,0))]::K) kr (A9 0 (hL:=(fun w h=>(Sat.takeMid (K:=[_,_,_,_,_]) (A:=K) ((h.erase 6).erase 0)))) (hy:=A5 (i:=0) (ch:=[]) (b:=b1) (off:=0) (v:=pt jb) (hA:=At.grp 4 0 rfl rfl) (k:=B1 kr rfl)) (k:=?_))
    refine A9 1 (hL:=(fun w h=>(Sat.takeMid (K:=[_,_,_,_,_]) (A:=K) ((h.erase 6).erase 0)))) (hy:=A5 (i:=1) (ch:=[]) (b:=b1) (off:=0) (v:=pt jb) (hA:=At.grp 4 0 rfl rfl) (k:=B1 kr rfl)) (k:=D0 (fuel:=8) [(2,0)] (fun w h=>(Sat.takeMid (K:=[_,_,_,_,_]) (A:=K) ((h.erase 6).erase 0))) (k:=?_))
    refine B9 3 (k:=G2 Tryz.func44 (clone_ a c ts S hrd hts hn _ _ (fun y o h=>At.sub (hS y o h) (fun q hq=>by simp only [List.flatten_cons,List.flatten_append,List.mem_append] at hq ⊢; rcases hq with hq | hq <;> simp [hq]))) ?_)
    rintro v H' ⟨g13,hO14,rfl⟩
    obtain ⟨a15,c16,rfl,hc17,hrd18⟩:=Go.Sw.Own.shape hO14
    refine A6 kr (fun w h=>(Sat.takeMid (K:=[_,_,_,_,_]) (A:=K) (((h.erase 7).erase 1).erase 0))) (I0 (g13::[(b3,.cells #[p,v] 95 (0,0))]::[(b11,.cells #[.func (.func 53) #[] #[pt b1,pt b3],.func (.func 85) #[] #[pt b9,pt b10],.func (.func 55) #[] #[pt b1],.func (.func 51) #[pt jb] #[]] 91 (0,0))]::[(b10,.cells #[.string (ByteArray.mk #[110,101,119])] 9 (0,0))]::[(b9,.cells #[pt jb] 28 (0,0))]::[(b1,.cells #[pt jb] 28 (0,0))]::K) (fun w h=>(h.erase 0)) ?_)
    refine B9 4 (k:=I5 rfl (H':=([(b3,.cells #[p,v] 95 (0,0))]::g13::[(jb,.cells #[pt d,.string dir,rv,.int .i64 size,.bool (if (tryM (E4 dir (A4 ts)) M).1 != 0 then down||((tryM (E4 dir (A4 ts)) M).1 != 61) else down),.bool true] 83 (0,0))]::[(b11,.cells #[.func (.func 53) #[] #[pt b1,pt b3],.func (.func 85) #[] #[pt b9,pt b10],.func (.func 55) #[] #[pt b1],.func (.func 51) #[pt jb] #[]] 91 (0,0))]::[(b10,.cells #[.string (ByteArray.mk #[110,101,119])] 9 (0,0))]::[(b9,.cells #[pt jb] 28 (0,0))]::[(b1,.cells #[pt jb] 28 (0,0))]::rg::(K++(s2.G d (tryM (E4 dir (A4 ts)) M).2++H)))) (fun w h=>(h.front (j:=2) rfl)) ?_)
    refine G2 (vs:=[pt b3]) Tryz.func57 (builderLen b3 (p) (v) _ (A4 ts) (bown_all hB (by omega)) _ _) ?_
    rintro r H' ⟨rfl,rfl⟩
    refine A6 kr (fun w h=>(Sat.takeMid (K:=[_,_,_,_,_,_]) (A:=K) ((((((((h.front (j:=6) rfl).front (j:=6) rfl).front (j:=6) rfl).front (j:=6) rfl).front (j:=4) rfl).front (j:=5) rfl).erase 7).erase 6))) (G0 (ad:=⟨jb,0,none⟩) 5 (hL:=(fun w h=>(Sat.takeMid (K:=[_,_,_,_,_,_]) (A:=K) ((((((((h.front (j:=6) rfl).front (j:=6) rfl).front (j:=6) rfl).front (j:=6) rfl).front (j:=4) rfl).front (j:=5) rfl).erase 7).erase 6)))) (k:=?_))
    refine D0 (fuel:=4) [(6,0)] (fun w h=>(Sat.takeMid (K:=[_,_,_,_,_,_]) (A:=K) ((((((((h.front (j:=6) rfl).front (j:=6) rfl).front (j:=6) rfl).front (j:=6) rfl).front (j:=4) rfl).front (j:=5) rfl).erase 7).erase 6))) (k:=B9 7 (k:=?_))
    refine G4 (ch:=[]) (b:=jb) (off:=2) (v:=.slice a15 ts.length c16) (j:=2) ([(b3,.cells #[p,v] 95 (0,0))]::g13::[(jb,.cells #[pt d,.string dir,.slice a15 ts.length c16,.int .i64 size,.bool (if (tryM (E4 dir (A4 ts)) M).1 != 0 then down||((tryM (E4 dir (A4 ts)) M).1 != 61) else down),.bool true] 83 (0,0))]::[(b11,.cells #[.func (.func 53) #[] #[pt b1,pt b3],.func (.func 85) #[] #[pt b9,pt b10],.func (.func 55) #[] #[pt b1],.func (.func 51) #[pt jb] #[]] 91 (0,0))]::[(b10,.cells #[.string (ByteArray.mk #[110,101,119])] 9 (0,0))]::[(b9,.cells #[pt jb] 28 (0,0))]::[(b1,.cells #[pt jb] 28 (0,0))]::rg::(K++(s2.G d (tryM (E4 dir (A4 ts)) M).2++H))) (hoff:=Nat.le_of_ble_eq_true rfl) (hfz:=(fun _ _=>F0)) (k:=A6 kr (fun w h=>(Sat.takeMid (K:=[_,_,_,_,_,_]) (A:=K) ((((((((h.front (j:=6) rfl).front (j:=6) rfl).front (j:=6) rfl).front (j:=6) rfl).front (j:=4) rfl).front (j:=5) rfl).erase 7).erase 6))) ?_)
    refine G0 (ad:=⟨jb,0,none⟩) 8 (hL:=(fun w h=>(Sat.takeMid (K:=[_,_,_,_,_,_]) (A:=K) ((((((((h.front (j:=6) rfl).front (j:=6) rfl).front (j:=6) rfl).front (j:=6) rfl).front (j:=4) rfl).front (j:=5) rfl).erase 7).erase 6)))) (k:=D0 (fuel:=1) [(9,0)] (fun w h=>(Sat.takeMid (K:=[_,_,_,_,_,_]) (A:=K) ((((((((h.front (j:=6) rfl).front (j:=6) rfl).front (j:=6) rfl).front (j:=6) rfl).front (j:=4) rfl).front (j:=5) rfl).erase 7).erase 6))) (k:=?_))
    refine B9 10 (k:=G4 (ch:=[]) (b:=jb) (off:=3) (v:=.int .i64 (((A4 ts).size:Nat):Int)) (j:=2) ([(b3,.cells #[p,v] 95 (0,0))]::g13::[(jb,.cells #[pt d,.string dir,.slice a15 ts.length c16,.int .i64 (((A4 ts).size:Nat):Int),.bool (if (tryM (E4 dir (A4 ts)) M).1 != 0 then down||((tryM (E4 dir (A4 ts)) M).1 != 61) else down),.bool true] 83 (0,0))]::[(b11,.cells #[.func (.func 53) #[] #[pt b1,pt b3],.func (.func 85) #[] #[pt b9,pt b10],.func (.func 55) #[] #[pt b1],.func (.func 51) #[pt jb] #[]] 91 (0,0))]::[(b10,.cells #[.string (ByteArray.mk #[110,101,119])] 9 (0,0))]::[(b9,.cells #[pt jb] 28 (0,0))]::[(b1,.cells #[pt jb] 28 (0,0))]::rg::(K++(s2.G d (tryM (E4 dir (A4 ts)) M).2++H))) (hoff:=Nat.le_of_ble_eq_true rfl) (hfz:=(fun _ _=>F0)) (k:=?_))
    refine A6 kr (fun w h=>(Sat.takeMid (K:=[_,_,_,_,_,_]) (A:=K) ((((((((h.front (j:=6) rfl).front (j:=6) rfl).front (j:=6) rfl).front (j:=6) rfl).front (j:=4) rfl).front (j:=5) rfl).erase 7).erase 6))) (D8 (E':=[]) [] (k:=?_))
    refine A0 (A1 ?_)
    refine B4 (E':=[⟨4,[],.int .i64 0⟩]) [0] [4] (k:=A0 ?_)
    refine C3 (E0 (H':=([(jb,.cells #[pt d,.string dir,.slice a15 ts.length c16,.int .i64 (((A4 ts).size:Nat):Int),.bool (if (tryM (E4 dir (A4 ts)) M).1 != 0 then down||((tryM (E4 dir (A4 ts)) M).1 != 61) else down),.bool true] 83 (0,0))]::g13::(K++(s2.G d (tryM (E4 dir (A4 ts)) M).2++H)))) (fun w h=>((((((((h.front (j:=1) rfl).front (j:=2) rfl).erase 7).erase 6).erase 5).erase 4).erase 3).erase 2)) ?_)
    refine C1 [.tmp 4] [.int .i64 0] (k:=?_)
    rw [rep_ok hmn hen]; exact ⟨_,_,_,rfl,hO14,hs2,by simp only [hen]; rfl⟩
end Go.Proofs.YtlaoeiaaeifidaaGreat
namespace Go.Proofs.YtlaoeiaaeifidaaGreat
open Go.Sw Go.Lib Go.Vf Go.Sha Go.Jr Go.RowKit
theorem read_le {z w i:Nat} {M:DM} (h:ScrI z w i M) (p:ByteArray):(K9 M p).1.size≤z:=by
  unfold K9
  split
  · exact Nat.zero_le _
  · exact (scr_at h _).1
theorem Y1 {z w i:Nat} {M:DM} (h:ScrI z w i M) (hz:z≤10000000) (hw:w≤10000) (hi:i≤10000):L5 M:=(ScrI.small h hz hw hi).small
structure Rep3 (M:DM) (dir b:ByteArray):Prop where
  m0:L5 M
  m1:L5 (D9 M (B0 dir G7) b).2
  m2:L5 (L8 (D9 M (B0 dir G7) b).2 (B0 dir G7)).2
  m3:L5 (J3 (L8 (D9 M (B0 dir G7) b).2 (B0 dir G7)).2 (B0 dir G7) (B0 dir logB)).2
theorem rep3 {z w i:Nat} {M:DM} (h:ScrI z w i M) (hz:z≤10000000) (hw:w≤9000∧i≤9000) (dir:ByteArray) {b:ByteArray} (hb:b.size≤z):Rep3 M dir b:=by
  have h1:=A0p h (B0 dir G7) hb
  have h2:=A0q h1 (B0 dir G7)
  have h3:=sI_rename h2 (B0 dir G7) (B0 dir logB)
  exact ⟨Y1 h hz (by omega) (by omega),Y1 h1 hz (by omega) (by omega),Y1 h2 hz (by omega) (by omega),Y1 h3 hz (by omega) (by omega)⟩
theorem lines_len (ts:List ByteArray):18 * ts.length≤(A4 ts).size:=by
  induction ts with
  | nil=>exact Nat.zero_le _
  | cons t r ih=>show 18 * (r.length+1)≤(B8 t++A4 r).size; rw [ByteArray.size_append,H9]; omega
theorem repOpen {s:DS} {M:DM} (hs:s.ok M) {z wn i:Nat} (hsc:ScrI z wn i M) (hzb:z≤5000000) (hwb:wn≤5000∧i≤5000) (K:List Grp) (jb d:Nat) (dir:ByteArray) (ra:Option Addr) (rc:Nat) (rg:Grp) (ts:List ByteArray)
    (ho:Go.Sw.Own 9 1 (.slice ra ts.length rc) rg ts.length (strs ts)) (hdir:dir.size≤1000000) (hlb:(A4 ts).size≤z) (W0:World) (H:List Grp) :
    Tri Tryz.prog 18 #[pt jb,.slice ra ts.length rc] W0 (jG jb d dir (.slice ra ts.length rc) ((A4 ts).size:Int) false true::rg::(K++(s.G d M++H))) (CallR (E3 ⟨dir,ts,((A4 ts).size:Int),false,true⟩ M ts) jb d K H) :=
  have h3:=rep3 hsc (by omega) (by omega) dir hlb
  have hl:=lines_len ts
  repTrue_ hs h3.m0 K jb d dir (.slice ra ts.length rc) rg ts ((A4 ts).size:Int) false ho hdir (by omega) (by omega) ra rc ts (inG rg) (D6 ho) (by omega) (A0t ho) (by omega) h3.m1 h3.m2 h3.m3 W0 H (C9 0 rfl)
end Go.Proofs.YtlaoeiaaeifidaaGreat
namespace Go.Jr
open Go.Sw Go.Lib Go.Vf Go.Sha Go.Proofs.YtlaoeiaaeifidaaGreat
structure Pth (dir:ByteArray):Prop where
  rp:A3 (B0 dir logB)=true
  rq:A3 (B0 dir G7)=true
  dp:D2 (B0 dir logB)=dir
  dq:D2 (B0 dir G7)=dir
  dr:dirR dir=true
  ne:(B0 dir G7==B0 dir logB)=false
theorem Pth.rn {dir:ByteArray} (h:Pth dir):renR (B0 dir G7) (B0 dir logB)=true:=by unfold renR; rw [h.rp,h.rq,h.dp,h.dq,beq_self_eq_true]; rfl
theorem Pth.ne' {dir:ByteArray} (h:Pth dir):(B0 dir logB==B0 dir G7)=false:=by
  have:=h.ne
  rw [beq_eq_false_iff_ne] at this ⊢
  exact Ne.symm this
theorem lookN_snoc {l:List Nm} {p:ByteArray} {k:Int} (h:E6 l p=none):E6 (l++[(p,k)]) p=some k:=by
  induction l with
  | nil=>show (if p==p then some k else none)=_; rw [if_pos (beq_self_eq_true p)]
  | cons n r ih =>
    rw [E6] at h
    rw [List.cons_append,E6]
    split at h
    · cases h
    · rename_i h1; rw [if_neg h1]; exact ih h
theorem lookN_filter (l:List Nm) (p:ByteArray):E6 (l.filter fun n=>!(p==n.1)) p=none:=by
  induction l with
  | nil=>rfl
  | cons n r ih =>
    rw [List.filter_cons]
    split
    · rename_i h1; rw [E6,if_neg (by simpa using h1)]; exact ih
    · exact ih
theorem look_with {l:List Nm} {p:ByteArray} {k:Int} (hk:0≤k):E6 (N2 l (p,k)) p=some k:=by
  unfold N2; rw [if_pos hk]; exact lookN_snoc (lookN_filter l p)
theorem lookN_app {l r:List Nm} {p:ByteArray}:E6 (l++r) p=match E6 l p with | some k=>some k | none=>E6 r p:=by
  induction l with
  | nil=>rfl
  | cons n l ih =>
    rw [List.cons_append,E6,E6]
    split
    · rfl
    · exact ih
def wriD (M:DM) (dir l:ByteArray):DM:={ M with bodies:=M.bodies++[⟨l,l⟩],names:=N2 M.names (B0 dir logB,(M.bodies.length:Int)),kept:=(J1 (M.changes++([⟨dir,[(B0 dir logB,(M.bodies.length:Int))]⟩]:List Ch)) dir).foldl J6 M.kept,changes:=(M.changes++([⟨dir,[(B0 dir logB,(M.bodies.length:Int))]⟩]:List Ch)).filter fun c=>!(dir==c.dir) }
def appD (M:DM) (k:Int) (l:ByteArray):DM:=N3 M k ⟨(I7 M k).now++l,(I7 M k).now++l⟩
def repN (N:List Nm) (dir:ByteArray) (n:Int):List Nm:=J6 (N2 N (B0 dir G7,n)) [(B0 dir G7,-1),(B0 dir logB,n)]
def repC (cs:List Ch) (dir:ByteArray) (n:Int):List Ch:=(cs++([⟨dir,[(B0 dir G7,n)]⟩]:List Ch))++([⟨dir,[(B0 dir G7,-1),(B0 dir logB,n)]⟩]:List Ch)
def repD (M:DM) (dir b:ByteArray):DM:={ M with bodies:=M.bodies++[⟨b,b⟩],names:=repN M.names dir (M.bodies.length:Int),kept:=(J1 (repC M.changes dir (M.bodies.length:Int)) dir).foldl J6 M.kept,changes:=(repC M.changes dir (M.bodies.length:Int)).filter fun c=>!(dir==c.dir) }
theorem getD_snoc {α:Type} (l:List α) (x d:α):(l++[x]).getD l.length d=x:=by simp [List.getD]
theorem set_snoc {α:Type} (l:List α) (x y:α):(l++[x]).set l.length y=l++[y]:=by simp
def wr1 (M:DM) (p b:ByteArray):DM:=O2 { M with bodies:=M.bodies++[⟨b,ByteArray.mk #[]⟩] } (D2 p) [(p,(M.bodies.length:Int))]
def wr2 (M:DM) (p b:ByteArray):DM:=O2 { M with bodies:=M.bodies++[⟨b,b⟩] } (D2 p) [(p,(M.bodies.length:Int))]
theorem write_run {M:DM} {p b:ByteArray} (hr:A3 p=true) (hf:M.fails=false) (hroom:(N9 M:Int) - (wasM M p:Int)+(b.size:Int)≤M.room) :
    D9 M p b=(0,wr1 M p b):=by
  obtain ⟨h1,h2⟩:=err_ok hr hf
  rw [X3 h1 (by omega),h2]; rfl
theorem sync_run {M:DM} {p:ByteArray} {k:Int} (hr:A3 p=true) (hf:M.fails=false) (hl:E6 M.names p=some k):L8 M p=(0,N3 M k ⟨(I7 M k).now,(I7 M k).now⟩):=by
  obtain ⟨h1,h2⟩:=err_ok hr hf
  rw [syncM_ok h1 hl,h2]
theorem sdir_run {M:DM} {d:ByteArray} (hr:dirR d=true) (hf:M.fails=false):I4 M d=(0,{ M with kept:=(J1 M.changes d).foldl J6 M.kept,changes:=M.changes.filter fun c=>!(d==c.dir) }):=by
  obtain ⟨h1,h2⟩:=err_ok hr hf
  rw [P2 h1,h2]
theorem ren_run {M:DM} {p q:ByteArray} {k:Int} (hr:renR p q=true) (hf:M.fails=false) (hl:E6 M.names p=some k) (hne:(p==q)=false):J3 M p q=(0,O2 M (D2 q) [(p,-1),(q,k)]):=by
  obtain ⟨h1,h2⟩:=err_ok hr hf
  rw [X0 h1 hl hne,h2]
theorem app_run {M:DM} {p b:ByteArray} {k:Int} (hr:A3 p=true) (hf:M.fails=false) (hl:E6 M.names p=some k) (hroom:(N9 M:Int)+(b.size:Int)≤M.room):F4 M p b=(0,N3 M k ⟨(I7 M k).now++b,(I7 M k).kept⟩):=by
  obtain ⟨h1,h2⟩:=err_ok hr hf
  rw [A0i h1 hl (by omega),h2]
theorem try_ok {f:DM→Int × DM} {r:List (DM→Int × DM)} {M M':DM} (h:f M=(0,M')):tryM (f::r) M=tryM r M':=by
  rw [X4,h]; rfl
theorem sync_new {M:DM} {p b:ByteArray} (hr:A3 p=true) (hf:M.fails=false):L8 (wr1 M p b) p=(0,wr2 M p b):=by
  rw [sync_run (M:=wr1 M p b) hr hf (k:=(M.bodies.length:Int)) (look_with (l:=M.names) (Int.natCast_nonneg _))]
  unfold N3 I7 wr1 wr2 O2
  simp only [Int.toNat_natCast,getD_snoc,set_snoc]
theorem wri_run {M:DM} {dir l:ByteArray} (h:Pth dir) (hf:M.fails=false) (hroom:(N9 M:Int) - (wasM M (B0 dir logB):Int)+(l.size:Int)≤M.room):tryM (O9 dir l) M=(0,wriD M dir l):=by
  unfold O9
  rw [try_ok (write_run h.rp hf hroom),try_ok (sync_new h.rp hf),try_ok (sdir_run (M:=wr2 M (B0 dir logB) l) h.dr hf)]
  unfold wr2 O2 wriD
  rw [h.dp]; rfl
theorem rep_run {M:DM} {dir b:ByteArray} (h:Pth dir) (hf:M.fails=false) (hroom:(N9 M:Int) - (wasM M (B0 dir G7):Int)+(b.size:Int)≤M.room):tryM (E4 dir b) M=(0,repD M dir b):=by
  unfold E4
  rw [try_ok (write_run h.rq hf hroom),try_ok (sync_new h.rq hf),try_ok (ren_run (M:=wr2 M (B0 dir G7) b) h.rn hf (look_with (l:=M.names) (Int.natCast_nonneg M.bodies.length)) h.ne),
    try_ok (sdir_run (M:=O2 (wr2 M (B0 dir G7) b) (D2 (B0 dir logB)) [(B0 dir G7,-1),(B0 dir logB,(M.bodies.length:Int))]) h.dr hf)]
  unfold wr2 O2 repD repC repN
  simp only [h.dp,h.dq]; rfl
theorem set_set {M:DM} {k:Int} {A B:Body}:N3 (N3 M k A) k B=N3 M k B:=by unfold N3; simp
theorem body_set {M:DM} {k:Int} {A:Body} (hk:k.toNat<M.bodies.length):I7 (N3 M k A) k=A:=by unfold I7 N3; simp [List.getD,hk]
theorem app_run2 {M:DM} {dir l:ByteArray} {k:Int} (h:Pth dir) (hf:M.fails=false) (hl:E6 M.names (B0 dir logB)=some k) (hk:k.toNat<M.bodies.length) (hroom:(N9 M:Int)+(l.size:Int)≤M.room):tryM (P0 dir l) M=(0,appD M k l):=by
  unfold P0
  rw [try_ok (app_run h.rp hf hl hroom),try_ok (sync_run (M:=N3 M k ⟨(I7 M k).now++l,(I7 M k).kept⟩) h.rp hf (k:=k) hl)]
  rw [body_set hk,set_set]
  rfl
theorem add_first {M:DM} {dir t:ByteArray} (h:Pth dir) (hf:M.fails=false) (ht:E8 t=true) (hroom:(N9 M:Int) - (wasM M (B0 dir logB):Int)+((B8 t).size:Int)≤M.room) :
    addM ⟨dir,[],0,false,false⟩ M t=(0,⟨dir,[t],((B8 t).size:Int),false,true⟩,wriD M dir (B8 t)):=by
  have hw:=wri_run h hf hroom
  have h0:¬ (mayI [t] false != 0)=true:=by simp [mayI,ht]
  rw [add_ok h0 (show M3 ⟨dir,[],0,false,false⟩ (B8 t)=O9 dir (B8 t) from rfl) (by rw [hw]; simp),hw]
  simp
theorem add_next {M:DM} {dir t:ByteArray} {L:List ByteArray} {z k:Int} (h:Pth dir) (hf:M.fails=false) (ht:E8 t=true) (hl:E6 M.names (B0 dir logB)=some k) (hk:k.toNat<M.bodies.length) (hroom:(N9 M:Int)+((B8 t).size:Int)≤M.room) :
    addM ⟨dir,L,z,false,true⟩ M t=(0,⟨dir,L++[t],z+((B8 t).size:Int),false,true⟩,appD M k (B8 t)):=by
  have hw:=app_run2 h hf hl hk hroom
  have h0:¬ (mayI [t] false != 0)=true:=by simp [mayI,ht]
  rw [add_ok h0 (show M3 ⟨dir,L,z,false,true⟩ (B8 t)=P0 dir (B8 t) from rfl) (by rw [hw]; simp),hw]
theorem add_bad {M:DM} {j:JM} {t:ByteArray} (ht:E8 t=false):addM j M t=(2,j,M):=by unfold addM; rw [ht]; rfl
theorem rep_good {M:DM} {dir:ByteArray} {L ts:List ByteArray} {z:Int} {th:Bool} (h:Pth dir) (hf:M.fails=false) (ht:∀ t∈ts,E8 t=true) (hroom:(N9 M:Int) - (wasM M (B0 dir G7):Int)+((A4 ts).size:Int)≤M.room) :
    E3 ⟨dir,L,z,false,th⟩ M ts=(0,⟨dir,ts,((A4 ts).size:Int),false,true⟩,repD M dir (A4 ts)):=by
  have hw:=rep_run (b:=A4 ts) h hf hroom
  have h0:¬ (mayI ts false != 0)=true:=by
    have:ts.any (fun t=>!E8 t)=false:=by rw [List.any_eq_false]; intro t h1; rw [ht t h1]; decide
    simp [mayI,this]
  rw [rep_ok h0 (by rw [hw]; simp),hw]
end Go.Jr
namespace Go.Jr
open Go.Sw Go.Lib Go.Vf Go.Sha Go.Proofs.YtlaoeiaaeifidaaGreat
theorem u8_10 {x:UInt8} (h:((x.toNat:Nat):Int)=10):x=10:=UInt8.toNat_inj.1 (by
  have:((10:UInt8).toNat:Int)=10:=rfl
  omega)
def NoLf (s:ByteArray):Prop:=∀ x∈s.data.toList,x≠10
theorem A0g {s:ByteArray} {j:Nat} (h:j<s.size):F5 s (j:Int)=((s.data.toList[j]'(by rw [Array.length_toList]; exact h)).toNat:Int):=by
  unfold F5
  rw [Int.toNat_natCast,List.getElem?_eq_getElem (by rw [Array.length_toList]; exact h)]; rfl
theorem noLf_noB {s:ByteArray} (h:NoLf s):noB s 10 s.size:=fun j hj e=>by
  rw [A0g hj] at e
  exact absurd (u8_10 e) (h _ (List.getElem_mem _))
theorem noLf_of {s:ByteArray} (h:noB s 10 s.size):NoLf s:=fun x hx e=>by
  obtain ⟨j,hj,rfl⟩:=List.getElem_of_mem hx
  have hj':j<s.size:=by rw [Array.length_toList] at hj; exact hj
  refine h j hj' ?_
  rw [A0g hj',e]; rfl
theorem noLf_iff {s:ByteArray}:lf s<0 ↔ NoLf s:=by
  rcases V1 s (c:=10) (by omega) (by omega) with ⟨k,hk,he,hb,_⟩ | ⟨he,hn⟩
  · have:lf s=k:=he
    refine ⟨fun h=>absurd h (by omega),fun h=>absurd hb (noLf_noB h k hk)⟩
  · have:lf s=-1:=he
    exact ⟨fun _=>noLf_of hn,fun _=>by omega⟩
theorem rightJ_iff {t:ByteArray}:E8 t=true ↔ t.size≤1048576∧NoLf t:=by
  unfold E8
  rw [← noLf_iff]
  simp only [Bool.and_eq_true,decide_eq_true_eq,Bool.not_eq_true',decide_eq_false_iff_not]
  omega
theorem toL (a b:ByteArray):(a++b).data.toList=a.data.toList++b.data.toList:=by rw [ByteArray.data_append,Array.toList_append]
theorem lenL (a:ByteArray):a.data.toList.length=a.size:=Array.length_toList
theorem ext_L {a b:ByteArray} (h:a.data.toList=b.data.toList):a=b:=ByteArray.ext (Array.toList_inj.1 h)
theorem exL (a:ByteArray) (i j:Nat):(a.extract i j).data.toList=(a.data.toList.take j).drop i:=by
  rw [ByteArray.data_extract,Array.toList_extract,List.extract_eq_take_drop,List.drop_take]
def lfB:ByteArray:=ByteArray.mk #[10]
theorem lf_at {a b:ByteArray} (h:NoLf a):lf ((a++lfB)++b)=a.size:=by
  have hz:a.size<((a++lfB)++b).size:=by simp only [ByteArray.size_append]; show a.size<a.size+1+b.size; omega
  refine bIdx_eq (by omega) (by omega) hz ?_ ?_
  · rw [A0g hz]
    simp only [toL]
    rw [List.getElem_append_left (by rw [List.length_append,lenL]; show a.size<a.size+1; omega),List.getElem_append_right (by rw [lenL]; omega)]
    simp only [lenL,Nat.sub_self]; rfl
  · intro j hj e
    rw [A0g (show j<((a++lfB)++b).size by omega)] at e
    simp only [toL] at e
    rw [List.getElem_append_left (by rw [List.length_append,lenL]; omega),List.getElem_append_left (by rw [lenL]; omega)] at e
    exact absurd (u8_10 e) (h _ (List.getElem_mem _))
theorem ex_head {a b:ByteArray}:((a++lfB)++b).extract 0 a.size=a:=ext_L (by
  rw [exL,toL,toL,List.drop_zero,List.append_assoc,← lenL,List.take_left])
theorem ex_tail {a b:ByteArray}:((a++lfB)++b).extract (a.size+1) ((a++lfB)++b).size=b:=ext_L (by
  rw [exL,← lenL ((a++lfB)++b),List.take_length,toL,toL]
  rw [show a.size+1=(a.data.toList++lfB.data.toList).length by rw [List.length_append,lenL]; rfl,List.drop_left])
theorem hex2_no:(List.range 256).all (fun n=>(hex2 ((n:Nat):Int)).all fun b=>b != 10)=true:=by decide +kernel
theorem hexK_no (l:List UInt8) (j:Nat):∀ x∈hexK l j,x≠10:=fun x hx=>by
  unfold hexK at hx
  obtain ⟨b,_,hb⟩:=List.mem_flatMap.1 hx
  have:=List.all_eq_true.1 hex2_no b.toNat (List.mem_range.2 b.toNat_lt)
  have:=List.all_eq_true.1 this x hb
  simpa using this
theorem hx_no (t:ByteArray):NoLf (hx t):=fun x hx'=>by
  unfold hx at hx'
  rw [exL] at hx'
  exact hexK_no (Y0 t.data.toList) 32 x (List.mem_of_mem_take (List.mem_of_mem_drop hx'))
theorem noLf_app {a b:ByteArray} (ha:NoLf a) (hb:NoLf b):NoLf (a++b):=fun x hx=>by
  rw [toL] at hx
  rcases List.mem_append.1 hx with h | h
  · exact ha x h
  · exact hb x h
def bodyL (t:ByteArray):ByteArray:=(hx t++ByteArray.mk #[32])++t
theorem lineB_eq (t:ByteArray):B8 t=bodyL t++lfB:=rfl
theorem bodyL_size (t:ByteArray):(bodyL t).size=t.size+17:=by
  simp only [bodyL,ByteArray.size_append,hx_size]; show 16+1+t.size=_; omega
theorem bodyL_no {t:ByteArray} (h:E8 t=true):NoLf (bodyL t) :=
  noLf_app (noLf_app (hx_no t) (fun x hx=>by
    have:x=32:=by simpa using hx
    rw [this]; decide)) (rightJ_iff.1 h).2
theorem bodyL_text (t:ByteArray):(bodyL t).extract 17 (bodyL t).size=t:=ext_L (by
  rw [exL,← lenL (bodyL t),List.take_length,bodyL,toL]
  rw [show 17=(hx t++ByteArray.mk #[32]).data.toList.length by rw [lenL,ByteArray.size_append,hx_size]; rfl,List.drop_left])
theorem bodyL_ok {t:ByteArray} (h:E8 t=true):okB (bodyL t)=true∧V6 (bodyL t)=t:=by
  have h1:¬ ((bodyL t).size:Int)≤16:=by rw [bodyL_size]; omega
  unfold okB V6
  rw [if_neg h1,if_neg h1,bodyL_text,h]
  exact ⟨by rw [show B8 t=bodyL t++ByteArray.mk #[10] from rfl,beq_self_eq_true]; rfl,rfl⟩
theorem cut_line {t r:ByteArray} (h:E8 t=true):cutL (B8 t++r)=some (t,r):=by
  have e:lf (B8 t++r)=(bodyL t).size:=by rw [lineB_eq]; exact lf_at (bodyL_no h)
  have e1:(B8 t++r).extract 0 (lf (B8 t++r)).toNat=bodyL t:=by rw [e,Int.toNat_natCast,lineB_eq]; exact ex_head
  have e2:(B8 t++r).extract ((lf (B8 t++r)).toNat+1) (B8 t++r).size=r:=by rw [e,Int.toNat_natCast,lineB_eq]; exact ex_tail
  rw [cut_some (by rw [e]; omega) (by rw [e1]; exact (bodyL_ok h).1),e1,e2,(bodyL_ok h).2]
theorem parse_app:∀ {ts:List ByteArray} {x:ByteArray},(∀ t∈ts,E8 t=true)→E7 (A4 ts++x)=(ts++(E7 x).1,(E7 x).2)
  | [],x,_=>by show E7 (ByteArray.empty++x)=_; rw [ByteArray.empty_append]; simp
  | t::ts,x,h=>by
    show E7 ((B8 t++A4 ts)++x)=_
    rw [ByteArray.append_assoc,parseB_some (cut_line (h t List.mem_cons_self)),parse_app fun u hu=>h u (List.mem_cons_of_mem _ hu)]
    rfl
theorem parse_noLf {x:ByteArray} (h:NoLf x):E7 x=([],x):=A0s (cut_none1 (noLf_iff.2 h))
theorem noLf_empty:NoLf ByteArray.empty:=fun x hx=>by simp at hx
theorem parse_lines {ts:List ByteArray} (h:∀ t∈ts,E8 t=true):E7 (A4 ts)=(ts,.empty):=by
  have:=parse_app (x:=.empty) h
  rw [ByteArray.append_empty,parse_noLf noLf_empty] at this
  simpa using this
end Go.Jr
namespace Go.Proofs.YtlaoeiaaeifidaaGreat
open Go.Sw Go.Lib Go.Vf Go.Sha Go.Jr Go.RowKit
theorem open_ {s:DS} {M:DM} (hs:s.ok M) (z wn i:Nat) (hsc:ScrI z wn i M) (hzb:z≤5000000) (hwb:wn≤5000∧i≤5000) (K:List Grp) (d:Nat) (dir:ByteArray) (hdir:dir.size≤1000000) (W0:World) (H:List Grp):Tri Tryz.prog 10 #[pt d,.string dir] W0 (K++(s.G d M++H)) (OpenR (R4 M dir) d K H):=by
 have hsz:∀ B∈M.bodies,B.now.size≤10000000:=fun B hB=>by have:=(hsc.size B hB).1; omega
 have hfull:(K9 M (B0 dir logB)).1.size≤z:=read_le hsc _
 refine C8 (args:=[pt d,.string dir]) (n:=96) Tryz.func10 rfl rfl (Nat.le_of_ble_eq_true rfl) ?_
 refine A1 (B4 (E':=[⟨0,[],pt d⟩,⟨1,[],.string dir⟩]) [0,0] [0,1] (k:=?_))
 refine A0 (A1 ?_)
 refine C5 (A1 ?_)
 refine G_p [0,0,0] [0,1,16] (k:=A0 ?_)
 refine I2 kr (A1 ?_)
 refine A2 (A7 (j:=1) [0] (k:=?_))
 refine F6 (vs:=[.string dir]) Tryz.func34 (T2 _ (by omega) _ _) (A7 (j:=5) [0,0,0] (k:=?_))
 refine J9 (ch:=[(23,false)]) (f:=39) (fst:=#[]) (caps:=#[]) (vs:=[.string dir,.string (ByteArray.mk #[47])]) (v:=.bool (decide (G5 dir ≥ 0))) (hf:=Tryz.func39) (hc:=(fun hc=>strContainsS _ _ _)) (k:=C4 [5,0] [0,1,19] (k:=?_))
 refine A0 (C6 (b:=(!(A3 dir))||(decide (G5 dir ≥ 0))) kr (fun hc1=>?_) (fun hc1=>?_))
 ·
  have hbad:=hc1
  refine A1 (G_p [0,0] [4,5] (k:=?_))
  refine A0 (C3 ?_)
  refine F8 (B3 ?_)
  refine C1 [.tmp 4,.tmp 5] [.pointer none,.int .i64 2] (k:=?_)
  rw [open_bad hbad]; exact ⟨rfl,s,hs,rfl⟩
 ·
  have hgood:=hc1
  refine B5 (D5 ?_)
  refine A0 (A1 ?_)
  refine A2 (A7 (j:=3) [0,0,0] (k:=?_))
  refine R3 (ch:=[]) (v:=.agg #[pt d,.string dir,.slice none 0 0,.int .i64 0,.bool false,.bool false]) (k:=(fun b2=>?_))
  refine D3 (E':=[⟨0,[],pt d⟩,⟨6,[],pt b2⟩]) [0] [0,6] (k:=A0 ?_)
  refine A1 (A2 ?_)
  refine A7 (j:=2) [0,0] (k:=F6 (vs:=[pt b2,.string (ByteArray.mk #[108,111,103])]) Tryz.func40 (path_ _ _ _ _ _ _ _ _ (show dir.size+3≤1000000000 by omega) _ _ (At.grp 0 0 rfl rfl)) ?_)
  refine G2 Tryz.func13 (dRead (b:=(K9 M (B0 dir logB)).1) (e:=(K9 M (B0 dir logB)).2) hs hsz d (B0 dir logB) (([[(b2,.cells #[pt d,.string dir,.slice none 0 0,.int .i64 0,.bool false,.bool false] 83 (0,0))]]:List Grp)++K) _ H rfl) ?_
  rintro v H' ⟨ra3,rc4,g5,rfl,hrc6,hrd7,rfl⟩
  refine C4 [0,0,0,0,0] [6,7,8] (k:=A0 ?_)
  refine A1 (A1 ?_)
  refine G_p [0,0] [6,7,39] (k:=A0 ?_)
  refine C6 (b:=((K9 M (B0 dir logB)).2) != 0) kr (fun hc8=>?_) (fun hc8=>?_)
  ·
   have hne:=hc8
   refine A1 (B4 (E':=[⟨4,[],pt b2⟩,⟨5,[],.int .i64 0⟩]) [0,0,0] [4,5] (k:=?_))
   refine A0 (C3 ?_)
   refine B3 (E0 (H':=([(b2,.cells #[pt d,.string dir,.slice none 0 0,.int .i64 0,.bool false,.bool false] 83 (0,0))]::[]::(K++(s.G d M++H)))) (fun w h=>Sat.flat (h.erase 0) (List.Perm.refl _)) ?_)
   refine C1 [.tmp 4,.tmp 5] [pt b2,.int .i64 0] (k:=?_)
   rw [open_no hgood hne]; exact ⟨_,_,_,_,rfl,Go.Sw.Own.nil,hs,rfl⟩
  ·
   have hok:=hc8
   refine B5 (A0 ?_)
   refine A1 (A2 ?_)
   refine A7 (j:=3) [0,0,0] (k:=G4 (ch:=[]) (b:=b2) (off:=5) (v:=.bool true) (j:=1) (g5::[(b2,.cells #[pt d,.string dir,.slice none 0 0,.int .i64 0,.bool false,.bool true] 83 (0,0))]::(K++(s.G d M++H))) (hoff:=Nat.le_of_ble_eq_true rfl) (hfz:=(fun _ _=>F0)) (k:=?_))
   refine C4 [] [6,7] (k:=A0 ?_)
   refine A1 (A2 ?_)
   refine A7 (j:=1) [0] (k:=GL_bytesB (i:=1) (ch:=[]) (a:=ra3) (cap:=rc4) (e:=5) (S:=(inG g5)) ((K9 M (B0 dir logB)).1) rfl rfl kr kr kr kr kr kr kr hrd7 (C9 0 rfl) ?_)
   refine C4 [0] [6,9] (k:=A0 ?_)
   refine A1 (C5 ?_)
   refine R8 (H':=([(b2,.cells #[pt d,.string dir,.slice none 0 0,.int .i64 0,.bool false,.bool true] 83 (0,0))]::[]::g5::(K++(s.G d M++H)))) (fun w h=>Sat.flat (h.front (j:=1) rfl) (List.Perm.refl _)) (I8 (EI:=(fun ξ:ByteArray × List ByteArray × Option Addr × Nat × Grp=>[⟨6,[],pt b2⟩,⟨9,[],.string ξ.1⟩])) (HI:=(fun ξ:ByteArray × List ByteArray × Option Addr × Nat × Grp=>([(b2,.cells #[pt d,.string dir,.slice ξ.2.2.1 ξ.2.1.length ξ.2.2.2.1,.int .i64 ((A4 ξ.2.1).size:Int),.bool false,.bool true] 83 (0,0))]::ξ.2.2.2.2::g5::(K++(s.G d M++H))))) (Φ:=(fun ξ:ByteArray × List ByteArray × Option Addr × Nat × Grp=>(Parsed (K9 M (B0 dir logB)).1 ξ.2.1 ξ.1)∧(Go.Sw.Own 9 1 (.slice ξ.2.2.1 ξ.2.1.length ξ.2.2.2.1) ξ.2.2.2.2 ξ.2.1.length (strs ξ.2.1)))) (μ:=(fun ξ:ByteArray × List ByteArray × Option Addr × Nat × Grp=>ξ.1.size)) (s0:=((K9 M (B0 dir logB)).1,[],none,0,[])) [6,9] kr rfl ⟨(parsed0 _),Go.Sw.Own.nil⟩ ?_)
   rintro ⟨all,ts,ra,rc,rg⟩ ⟨hpz,ho⟩
   dsimp only at hpz ho
   have hpl:=hpz.len
   have hps:=hpz.sz
   have hfz:=hfull
   refine C5 (A1 ?_)
   refine A2 (A7 (j:=1) [0] (k:=?_))
   refine N1 (ch:=[]) (f:=41) (fst:=#[]) (caps:=#[]) (vs:=[.string all,.string (ByteArray.mk #[10])]) (hf:=Tryz.func41) (hsure:=J0 kr) (hc:=stringsCutL _ (by first | omega | (simp only [ByteArray.size_extract]; omega)) _ _) (k:=?_)
   rintro v H' ⟨rfl,rfl⟩
   by_cases hs9:lf all<0
   ·
    rw [if_pos hs9]
    refine C4 [0,0,0,0,0,0,0] [6,9,10,11,12] (k:=A0 ?_)
    refine A1 (A2 ?_)
    refine A7 (j:=1) [0] (k:=F6 (vs:=[.string all]) Tryz.func42 (text_ _ (by first | omega | (rw [ByteArray.size_extract]; omega)) _ _) ?_)
    refine C4 [0,0,0,0,0] [6,9,10,11,12,13,14] (k:=A0 ?_)
    refine A1 (A1 ?_)
    refine G_p [0,0,0,1,1,2] [6,9,10,11,13,62] (k:=A0 ?_)
    refine I1 kr (G6 ?_)
    refine A8 (A0z rfl ?_)
    refine A8 (C7 ?_)
    refine A0 (A1 ?_)
    refine A1 (G_p [0,0] [6,85] (k:=?_))
    refine A0 (C6 (b:=!(all.toList==(ByteArray.mk #[]).toList)) kr (fun hc10=>?_) (fun hc10=>?_))
    ·
     have hall:=hc10
     refine A1 (A2 ?_)
     refine A7 (j:=4) [0,0,0,0] (k:=A5 (ch:=[]) (b:=b2) (off:=2) (v:=.slice ra ts.length rc) (hA:=At.grp 0 0 rfl rfl) (k:=?_))
     refine G2 Tryz.func18 (repOpen hs hsc hzb hwb ([g5]++K) b2 d dir ra rc rg ts ho hdir (by omega) W0 H) ?_
     rintro v H' ⟨rv11,g12,s13,rfl,hO14,hs15,rfl⟩
     refine C4 [0] [6,15] (k:=A0 ?_)
     refine A1 (B4 (E':=[⟨6,[],pt b2⟩,⟨15,[],.int .i64 ((E3 ⟨dir,ts,((A4 ts).size:Int),false,true⟩ M ts).1)⟩,⟨93,[],.bool (((E3 ⟨dir,ts,((A4 ts).size:Int),false,true⟩ M ts).1) != 0)⟩]) [0,0] [6,15,93] (k:=?_))
     refine A0 (C6 (b:=((E3 ⟨dir,ts,((A4 ts).size:Int),false,true⟩ M ts).1) != 0) kr (fun hc16=>?_) (fun hc16=>?_))
     ·
      have herr:=hc16
      refine A1 (G_p [0,0,0] [4,5] (k:=?_))
      refine A0 (C3 ?_)
      refine B3 (E0 (H':=(K++(s13.G d (E3 ⟨dir,ts,((A4 ts).size:Int),false,true⟩ M ts).2.2++H))) (fun w h=>(((h.erase 2).erase 1).erase 0)) ?_)
      refine C1 [.tmp 4,.tmp 5] [.pointer none,.int .i64 ((E3 ⟨dir,ts,((A4 ts).size:Int),false,true⟩ M ts).1)] (k:=?_)
      rw [open_err hgood hok (Q8 hpz (cut_none1 hs9)) hall herr]; exact ⟨rfl,_,hs15,rfl⟩
     ·
      have herr:=hc16
      refine B5 (A0 ?_)
      refine A1 (B4 (E':=[⟨4,[],pt b2⟩,⟨5,[],.int .i64 0⟩]) [0,0,0] [4,5] (k:=?_))
      refine A0 (C3 ?_)
      refine E0 (H':=([(b2,.cells #[pt d,.string ((E3 ⟨dir,ts,((A4 ts).size:Int),false,true⟩ M ts).2.1.dir),rv11,.int .i64 ((E3 ⟨dir,ts,((A4 ts).size:Int),false,true⟩ M ts).2.1.size),.bool ((E3 ⟨dir,ts,((A4 ts).size:Int),false,true⟩ M ts).2.1.down),.bool ((E3 ⟨dir,ts,((A4 ts).size:Int),false,true⟩ M ts).2.1.there)] 83 (0,0))]::g12::(K++(s13.G d (E3 ⟨dir,ts,((A4 ts).size:Int),false,true⟩ M ts).2.2++H)))) (fun w h=>(h.erase 2)) (C1 [.tmp 4,.tmp 5] [pt b2,.int .i64 0] (k:=?_))
      rw [open_ok hgood hok (Q8 hpz (cut_none1 hs9)) hall herr]; exact ⟨_,_,_,_,rfl,hO14,hs15,rfl⟩
    ·
     have hall:=hc10
     refine B5 (A0 ?_)
     refine A1 (B4 (E':=[⟨4,[],pt b2⟩,⟨5,[],.int .i64 0⟩]) [0,0,0] [4,5] (k:=?_))
     refine A0 (C3 ?_)
     refine E0 (H':=([(b2,.cells #[pt d,.string dir,.slice ra ts.length rc,.int .i64 ((A4 ts).size:Int),.bool false,.bool true] 83 (0,0))]::rg::(K++(s.G d M++H)))) (fun w h=>(h.erase 2)) (C1 [.tmp 4,.tmp 5] [pt b2,.int .i64 0] (k:=?_))
     rw [open_whole hgood hok (Q8 hpz (cut_none1 hs9)) hall]; exact ⟨_,_,_,_,rfl,ho,hs,rfl⟩
   ·
    rw [if_neg hs9]
    obtain ⟨hs9a,hs9b,hs9c⟩:=lf_facts hs9
    refine C4 [0,0,0,0,0,0,0] [6,9,10,11,12] (k:=A0 ?_)
    refine A1 (A2 ?_)
    refine A7 (j:=1) [0] (k:=F6 (vs:=[.string (all.extract 0 (lf all).toNat)]) Tryz.func42 (text_ _ (by first | omega | (rw [ByteArray.size_extract]; omega)) _ _) ?_)
    refine C4 [0,0,0,0,0] [6,9,10,11,12,13,14] (k:=A0 ?_)
    refine A1 (A1 ?_)
    refine G_p [0,0,0,0,0,3] [6,9,10,11,13,62] (k:=A0 ?_)
    refine C6 (b:=!(okB (all.extract 0 (lf all).toNat))) kr (fun hc17=>?_) (fun hc17=>?_)
    ·
     have hkn:okB (all.extract 0 (lf all).toNat)=false:=by simpa using hc17
     refine G6 (A8 ?_)
     refine A0z rfl (A8 ?_)
     refine C7 (A0 ?_)
     refine A1 (A1 ?_)
     refine G_p [0,0] [6,85] (k:=A0 ?_)
     refine C6 (b:=!(all.toList==(ByteArray.mk #[]).toList)) kr (fun hc18=>?_) (fun hc18=>?_)
     ·
      have hall:=hc18
      refine A1 (A2 ?_)
      refine A7 (j:=4) [0,0,0,0] (k:=A5 (ch:=[]) (b:=b2) (off:=2) (v:=.slice ra ts.length rc) (hA:=At.grp 0 0 rfl rfl) (k:=?_))
      refine G2 Tryz.func18 (repOpen hs hsc hzb hwb ([g5]++K) b2 d dir ra rc rg ts ho hdir (by omega) W0 H) ?_
      rintro v H' ⟨rv19,g20,s21,rfl,hO22,hs23,rfl⟩
      refine C4 [0] [6,15] (k:=A0 ?_)
      refine A1 (B4 (E':=[⟨6,[],pt b2⟩,⟨15,[],.int .i64 ((E3 ⟨dir,ts,((A4 ts).size:Int),false,true⟩ M ts).1)⟩,⟨93,[],.bool (((E3 ⟨dir,ts,((A4 ts).size:Int),false,true⟩ M ts).1) != 0)⟩]) [0,0] [6,15,93] (k:=?_))
      refine A0 (C6 (b:=((E3 ⟨dir,ts,((A4 ts).size:Int),false,true⟩ M ts).1) != 0) kr (fun hc24=>?_) (fun hc24=>?_))
      ·
       have herr:=hc24
       refine A1 (G_p [0,0,0] [4,5] (k:=?_))
       refine A0 (C3 ?_)
       refine B3 (E0 (H':=(K++(s21.G d (E3 ⟨dir,ts,((A4 ts).size:Int),false,true⟩ M ts).2.2++H))) (fun w h=>(((h.erase 2).erase 1).erase 0)) ?_)
       refine C1 [.tmp 4,.tmp 5] [.pointer none,.int .i64 ((E3 ⟨dir,ts,((A4 ts).size:Int),false,true⟩ M ts).1)] (k:=?_)
       rw [open_err hgood hok (Q8 hpz (cut_none2 hs9 hkn)) hall herr]; exact ⟨rfl,_,hs23,rfl⟩
      ·
       have herr:=hc24
       refine B5 (A0 ?_)
       refine A1 (B4 (E':=[⟨4,[],pt b2⟩,⟨5,[],.int .i64 0⟩]) [0,0,0] [4,5] (k:=?_))
       refine A0 (C3 ?_)
       refine E0 (H':=([(b2,.cells #[pt d,.string ((E3 ⟨dir,ts,((A4 ts).size:Int),false,true⟩ M ts).2.1.dir),rv19,.int .i64 ((E3 ⟨dir,ts,((A4 ts).size:Int),false,true⟩ M ts).2.1.size),.bool ((E3 ⟨dir,ts,((A4 ts).size:Int),false,true⟩ M ts).2.1.down),.bool ((E3 ⟨dir,ts,((A4 ts).size:Int),false,true⟩ M ts).2.1.there)] 83 (0,0))]::g20::(K++(s21.G d (E3 ⟨dir,ts,((A4 ts).size:Int),false,true⟩ M ts).2.2++H)))) (fun w h=>(h.erase 2)) (C1 [.tmp 4,.tmp 5] [pt b2,.int .i64 0] (k:=?_))
       rw [open_ok hgood hok (Q8 hpz (cut_none2 hs9 hkn)) hall herr]; exact ⟨_,_,_,_,rfl,hO22,hs23,rfl⟩
     ·
      have hall:=hc18
      refine B5 (A0 ?_)
      refine A1 (B4 (E':=[⟨4,[],pt b2⟩,⟨5,[],.int .i64 0⟩]) [0,0,0] [4,5] (k:=?_))
      refine A0 (C3 ?_)
      refine E0 (H':=([(b2,.cells #[pt d,.string dir,.slice ra ts.length rc,.int .i64 ((A4 ts).size:Int),.bool false,.bool true] 83 (0,0))]::rg::(K++(s.G d M++H)))) (fun w h=>(h.erase 2)) (C1 [.tmp 4,.tmp 5] [pt b2,.int .i64 0] (k:=?_))
      rw [open_whole hgood hok (Q8 hpz (cut_none2 hs9 hkn)) hall]; exact ⟨_,_,_,_,rfl,ho,hs,rfl⟩
    ·
     have hky:okB (all.extract 0 (lf all).toNat)=true:=by simpa using hc17
     refine B5 (A0 ?_)
     refine A1 (A2 ?_)
     refine A7 (j:=4) [0,0,0,0] (k:=A5 (ch:=[]) (b:=b2) (off:=2) (v:=.slice ra ts.length rc) (hA:=At.grp 0 0 rfl rfl) (k:=?_))
     refine A7 (j:=6) [0] (k:=C2 (ch:=[]) (e:=9) (l:=[(0,.string (V6 (all.extract 0 (lf all).toNat)))]) (c:=[.string (V6 (all.extract 0 (lf all).toNat))]) (k:=(fun b25=>?_)))
     refine E9 (i:=7) (ch:=[]) (t:=32) (tx:=32) (e:=9) (inf:=Tryz.t9) (s:=.slice ra ts.length rc) (x:=.slice (some ⟨b25,0,none⟩) 1 1) (n:=ts.length) (m:=1) (j:=2) (cs:=(strs ts)) (news:=[.string (V6 (all.extract 0 (lf all).toNat))]) (g:=rg) (S:=(inG [(b25,.cells #[.string (V6 (all.extract 0 (lf all).toNat))] 9 (0,0))])) rfl rfl rfl rfl kr kr kr rfl rfl (.inl ⟨9,kr⟩) (fun ⟨_,h⟩=>by cases h) (fun _=>⟨9,kr⟩) kr kr kr rfl ho (SrcOf.slice _ _ _ _ Rd.lit (fun h=>by cases h)) (C9 0 rfl) rfl (P7 (ts:=[V6 (all.extract 0 (lf all).toNat)])) (by omega) (by show (ts.length+1) * 16≤140737488355328; omega) (fun v26 g27 hO28=>?_)
     obtain ⟨a29,cap30,rfl,hcap31,hrd32⟩:=hO28.shape
     refine A7 (j:=10) [0,0] (k:=G4 (ch:=[]) (b:=b2) (off:=2) (v:=.slice a29 (ts.length+1) cap30) (j:=1) ([(b25,.cells #[.string (V6 (all.extract 0 (lf all).toNat))] 9 (0,0))]::[(b2,.cells #[pt d,.string dir,.slice a29 (ts.length+1) cap30,.int .i64 ((A4 ts).size:Int),.bool false,.bool true] 83 (0,0))]::g27::g5::(K++(s.G d M++H))) (hoff:=Nat.le_of_ble_eq_true rfl) (hfz:=(fun _ _=>F0)) (k:=?_))
     refine C4 [] [6,10,11] (k:=A0 ?_)
     refine A1 (A2 ?_)
     refine A7 (j:=3) [0,0,0] (k:=A5 (ch:=[]) (b:=b2) (off:=3) (v:=.int .i64 ((A4 ts).size:Int)) (hA:=At.grp 1 0 rfl rfl) (k:=?_))
     refine A7 (j:=7) [0,0,0] (k:=F2 79 (((all.extract 0 (lf all).toNat).size:Int)+1) (by omega) (by omega) kr ?_)
     refine A7 (j:=8) [0] (k:=F2 80 (((A4 ts).size:Int)+(((all.extract 0 (lf all).toNat).size:Int)+1)) (by omega) (by omega) kr ?_)
     refine A7 (j:=10) [0,0] (k:=G4 (ch:=[]) (b:=b2) (off:=3) (v:=.int .i64 (((A4 ts).size:Int)+(((all.extract 0 (lf all).toNat).size:Int)+1))) (j:=1) ([(b25,.cells #[.string (V6 (all.extract 0 (lf all).toNat))] 9 (0,0))]::[(b2,.cells #[pt d,.string dir,.slice a29 (ts.length+1) cap30,.int .i64 (((A4 ts).size:Int)+(((all.extract 0 (lf all).toNat).size:Int)+1)),.bool false,.bool true] 83 (0,0))]::g27::g5::(K++(s.G d M++H))) (hoff:=Nat.le_of_ble_eq_true rfl) (hfz:=(fun _ _=>F0)) (k:=?_))
     refine C4 [] [6,11] (k:=A0 ?_)
     refine B4 (E':=[⟨6,[],pt b2⟩,⟨9,[],.string (all.extract ((lf all).toNat+1) all.size)⟩]) [0,0] [6,9] (k:=D5 ?_)
     refine E0 (H':=([(b2,.cells #[pt d,.string dir,.slice a29 (ts.length+1) cap30,.int .i64 (((A4 ts).size:Int)+(((all.extract 0 (lf all).toNat).size:Int)+1)),.bool false,.bool true] 83 (0,0))]::g27::g5::(K++(s.G d M++H)))) (fun w h=>(h.erase 0)) (N_heq (H':=([(b2,.cells #[pt d,.string dir,.slice a29 ((ts++[V6 (all.extract 0 (lf all).toNat)]).length) cap30,.int .i64 ((A4 (ts++[V6 (all.extract 0 (lf all).toNat)])).size:Int),.bool false,.bool true] 83 (0,0))]::g27::g5::(K++(s.G d M++H)))) (by rw [← size_step (ts:=ts) hky,List.length_append]; rfl) ?_)
     refine E5 (s':=((all.extract ((lf all).toNat+1) all.size),(ts++[V6 (all.extract 0 (lf all).toNat)]),a29,cap30,g27)) [6,9] kr rfl ⟨(parsed1 hpz hs9 hky),(own_addS hO28)⟩ (by have h9:=(lf_facts hs9).2.2; dsimp only; omega)
theorem records_ (jb d:Nat) (dir:ByteArray) (a:Option Addr) (c:Nat) (rg:Grp) (L:List ByteArray) (size:Int) (down there:Bool) (ho:Go.Sw.Own 9 1 (.slice a L.length c) rg L.length (strs L)) (hL:L.length≤1000000) (W0:World) (H:List Grp):Tri Tryz.prog 15 #[pt jb] W0 ([(jb,.cells #[pt d,.string dir,.slice a L.length c,.int .i64 size,.bool down,.bool there] 83 (0,0))]::rg::H) (fun v H'=>∃ g,Go.Sw.Own 9 1 v g L.length (strs L)∧H'=g::jG jb d dir (.slice a L.length c) size down there::rg::H):=by
 refine C8 (args:=[pt jb]) (n:=10) Tryz.func15 rfl rfl (Nat.le_of_ble_eq_true rfl) ?_
 refine A1 (B4 (E':=[⟨0,[],pt jb⟩]) [0] [0] (k:=?_))
 refine A0 (A1 ?_)
 refine A1 (B4 (E':=[⟨0,[],pt jb⟩,⟨4,[],.bool false⟩]) [0,0] [0,4] (k:=?_))
 refine A0 (I2 kr ?_)
 refine B5 (A0 ?_)
 refine A1 (A2 ?_)
 refine A7 (j:=3) [0,0,0] (k:=A5 (ch:=[]) (b:=jb) (off:=2) (v:=.slice a L.length c) (hA:=At.grp 0 0 rfl rfl) (k:=?_))
 refine G2 Tryz.func44 (clone_ a c L (inG rg) (D6 ho) hL (A0t ho) _ _ (C9 1 rfl)) ?_
 rintro v H' ⟨g1,hO2,rfl⟩
 refine D3 (E':=[⟨2,[],v⟩]) [0] [2] (k:=A0 ?_)
 refine C3 (C1 [.tmp 2] [v] (k:=?_))
 exact ⟨_,hO2,rfl⟩
theorem size_ (jb d:Nat) (dir:ByteArray) (a:Option Addr) (c:Nat)  (L:List ByteArray) (size:Int) (down there:Bool) (W0:World) (H:List Grp):Tri Tryz.prog 16 #[pt jb] W0 ([(jb,.cells #[pt d,.string dir,.slice a L.length c,.int .i64 size,.bool down,.bool there] 83 (0,0))]::H) (fun v H'=>v=.int .i64 size∧H'=([(jb,.cells #[pt d,.string dir,.slice a L.length c,.int .i64 size,.bool down,.bool there] 83 (0,0))]::H)):=by
 refine C8 (args:=[pt jb]) (n:=9) Tryz.func16 rfl rfl (Nat.le_of_ble_eq_true rfl) ?_
 refine A1 (B4 (E':=[⟨0,[],pt jb⟩]) [0] [0] (k:=?_))
 refine A0 (A1 ?_)
 refine A1 (B4 (E':=[⟨0,[],pt jb⟩,⟨4,[],.bool false⟩]) [0,0] [0,4] (k:=?_))
 refine A0 (I2 kr ?_)
 refine B5 (A0 ?_)
 refine A1 (A2 ?_)
 refine A7 (j:=3) [0,0,0] (k:=A5 (ch:=[]) (b:=jb) (off:=3) (v:=.int .i64 size) (hA:=At.grp 0 0 rfl rfl) (k:=?_))
 refine D3 (E':=[⟨2,[],.int .i64 size⟩]) [0] [2] (k:=A0 ?_)
 refine C3 (C1 [.tmp 2] [.int .i64 size] (k:=?_))
 exact ⟨rfl,rfl⟩
theorem openNil_ (dir:ByteArray) (W0:World) (H:List Grp):Tri Tryz.prog 10 #[.pointer none,.string dir] W0 H (fun v H'=>v=.tuple #[.pointer none,.int .i64 1]∧H'=H):=by
 refine C8 (args:=[.pointer none,.string dir]) (n:=96) Tryz.func10 rfl rfl (Nat.le_of_ble_eq_true rfl) ?_
 refine A1 (G_p [0,0] [0,1] (k:=?_))
 refine A0 (A1 ?_)
 refine C5 (A1 ?_)
 refine G_p [0,0,0] [0,1,16] (k:=A0 ?_)
 refine I1 kr (A1 ?_)
 refine G_p [0,0] [4,5] (k:=A0 ?_)
 refine C3 (F8 ?_)
 refine B3 (C1 [.tmp 4,.tmp 5] [.pointer none,.int .i64 1] (k:=?_))
 exact ⟨rfl,rfl⟩
end Go.Proofs.YtlaoeiaaeifidaaGreat
namespace Go.Proofs.YtlaoeiaaeifidaaGreat
open Go.Sw Go.Lib Go.Vf Go.Sha Go.Jr Go.RowKit
def jAt (jb d:Nat) (j:JM) (a:Option Addr) (c:Nat):Grp:=jG jb d j.dir (.slice a j.L.length c) j.size j.down j.there
def JOwn (j:JM) (a:Option Addr) (c:Nat) (rg:Grp):Prop:=Go.Sw.Own 9 1 (.slice a j.L.length c) rg j.L.length (strs j.L)
structure JSmall (j:JM):Prop where
  dir:j.dir.size≤1000000
  len:j.L.length≤1000000
  size:0≤j.size∧j.size≤1000000000000
structure RoomM (M:DM):Prop where
  ex:∃ z w i,ScrI z w i M∧z≤5000000∧w≤5000∧i≤5000
theorem RoomM.of {z w i:Nat} {M:DM} (h:ScrI z w i M) (hz:z≤5000000) (hw:w≤5000) (hi:i≤5000):RoomM M:=⟨z,w,i,h,hz,hw,hi⟩
theorem RoomM.small {M:DM} (h:RoomM M):L5 M:=by
  obtain ⟨z,w,i,h,h1,h2,h3⟩:=h.ex
  exact Y1 h (by omega) (by omega) (by omega)
theorem jOpen {s:DS} {M M':DM} {dir:ByteArray} {j:JM} (hs:s.ok M) (hM:RoomM M) (hdir:dir.size≤1000000) (he:R4 M dir=(0,some j,M')) (K:List Grp) (d:Nat) (W0:World) (H:List Grp) :
    Tri Tryz.prog 10 #[pt d,.string dir] W0 (K++(s.G d M++H)) (fun v H'=>∃ (jb:Nat) (a:Option Addr) (c:Nat) (rg:Grp) (s':DS),v=.tuple #[pt jb,.int .i64 0]∧JOwn j a c rg∧s'.ok M'∧H'=jAt jb d j a c::rg::(K++(s'.G d M'++H))):=by
  obtain ⟨z,w,i,h,h1,h2,h3⟩:=hM.ex
  refine Tri.mono (open_ hs z w i h h1 ⟨h2,h3⟩ K d dir hdir W0 H) fun v H' hr=>?_
  unfold OpenR at hr
  rw [he] at hr
  obtain ⟨jb,rv,rg,s',hv,ho,hs',hH⟩:=hr
  obtain ⟨a,c,rfl,_,_⟩:=Go.Sw.Own.shape ho
  exact ⟨jb,a,c,rg,s',hv,ho,hs',hH⟩
theorem jOpenNo {s:DS} {M M':DM} {dir:ByteArray} {e:Int} (hs:s.ok M) (hM:RoomM M) (hdir:dir.size≤1000000) (he:R4 M dir=(e,none,M')) (K:List Grp) (d:Nat) (W0:World) (H:List Grp) :
    Tri Tryz.prog 10 #[pt d,.string dir] W0 (K++(s.G d M++H)) (fun v H'=>v=.tuple #[.pointer none,.int .i64 e]∧∃ s':DS,s'.ok M'∧H'=K++(s'.G d M'++H)):=by
  obtain ⟨z,w,i,h,h1,h2,h3⟩:=hM.ex
  refine Tri.mono (open_ hs z w i h h1 ⟨h2,h3⟩ K d dir hdir W0 H) fun v H' hr=>?_
  unfold OpenR at hr
  rw [he] at hr
  exact hr
theorem callR_to {r:Int × JM × DM} {e:Int} {j':JM} {M':DM} {jb d:Nat} {K H:List Grp} {v:Value} {H':List Grp} (h:CallR r jb d K H v H') (he:r=(e,j',M')) :
    ∃ (a:Option Addr) (c:Nat) (rg:Grp) (s':DS),v=.int .i64 e∧JOwn j' a c rg∧s'.ok M'∧H'=jAt jb d j' a c::rg::(K++(s'.G d M'++H)):=by
  subst he
  obtain ⟨rv,rg,s',hv,ho,hs',hH⟩:=h
  obtain ⟨a,c,rfl,_,_⟩:=Go.Sw.Own.shape ho
  exact ⟨a,c,rg,s',hv,ho,hs',hH⟩
theorem jAdd {s:DS} {M M':DM} {j j':JM} {t:ByteArray} {e:Int} (hs:s.ok M) (hM:RoomM M) (hj:JSmall j) (ht:t.size≤4000000) (he:addM j M t=(e,j',M')) (K:List Grp) (jb d:Nat) {a:Option Addr} {c:Nat} {rg:Grp} (ho:JOwn j a c rg) (W0:World) (H:List Grp) :
    Tri Tryz.prog 17 #[pt jb,.string t] W0 (jAt jb d j a c::rg::(K++(s.G d M++H))) (fun v H'=>∃ (a':Option Addr) (c':Nat) (rg':Grp) (s':DS),v=.int .i64 e∧JOwn j' a' c' rg'∧s'.ok M'∧H'=jAt jb d j' a' c'::rg'::(K++(s'.G d M'++H))):=by
  obtain ⟨z,w,i,h,h1,h2,h3⟩:=hM.ex
  obtain ⟨dir,L,size,down,there⟩:=j
  have hls:=H9 t
  cases there with
  | true =>
    have hm1:=Y1 (sI_append h (B0 dir logB) (B8 t)) (by omega) (by omega) (by omega)
    exact Tri.mono (addTrue_ hs hM.small K jb d dir _ rg L size down ho hj.dir hj.len hj.size t (by omega) hm1 W0 H) fun v H' hr=>callR_to hr he
  | false =>
    have hw:=A0p (ScrI.up h (show z≤z+(B8 t).size by omega) (Nat.le_refl _) (Nat.le_refl _)) (B0 dir logB) (b:=B8 t) (by omega)
    have hm1:=Y1 hw (by omega) (by omega) (by omega)
    have hm2:=Y1 (A0q hw (B0 dir logB)) (by omega) (by omega) (by omega)
    exact Tri.mono (addFalse_ hs hM.small K jb d dir _ rg L size down ho hj.dir hj.len hj.size t (by omega) hm1 hm2 W0 H) fun v H' hr=>callR_to hr he
theorem jRep {s:DS} {M M':DM} {j j':JM} {ts:List ByteArray} {e:Int} (hs:s.ok M) (hM:RoomM M) (hj:JSmall j) (hb:(A4 ts).size≤4000000) (he:E3 j M ts=(e,j',M')) (K:List Grp) (jb d:Nat) {a:Option Addr} {c:Nat} {rg:Grp} (ho:JOwn j a c rg)
    (ta:Option Addr) (tc:Nat) (S:Nat→Obj→Prop) (hrd:Rd S ta (strs ts)) (hn:ta=none→ts.length=0) (W0:World) (H:List Grp) (hS:∀ y o,S y o→At W0 (rg::K) y o) :
    Tri Tryz.prog 18 #[pt jb,.slice ta ts.length tc] W0 (jAt jb d j a c::rg::(K++(s.G d M++H))) (fun v H'=>∃ (a':Option Addr) (c':Nat) (rg':Grp) (s':DS),v=.int .i64 e∧JOwn j' a' c' rg'∧s'.ok M'∧H'=jAt jb d j' a' c'::rg'::(K++(s'.G d M'++H))):=by
  obtain ⟨z,w,i,h,h1,h2,h3⟩:=hM.ex
  obtain ⟨dir,L,size,down,there⟩:=j
  have hl:=lines_len ts
  have r3:=rep3 (ScrI.up h (show z≤z+(A4 ts).size by omega) (Nat.le_refl _) (Nat.le_refl _)) (by omega) (by omega) dir (b:=A4 ts) (by omega)
  cases there with
  | true=>exact Tri.mono (repTrue_ hs hM.small K jb d dir _ rg L size down ho hj.dir hj.len hj.size ta tc ts S hrd (by omega) hn (by omega) r3.m1 r3.m2 r3.m3 W0 H hS) fun v H' hr=>callR_to hr he
  | false=>exact Tri.mono (repFalse_ hs hM.small K jb d dir _ rg L size down ho hj.dir hj.len hj.size ta tc ts S hrd (by omega) hn (by omega) r3.m1 r3.m2 r3.m3 W0 H hS) fun v H' hr=>callR_to hr he
theorem jRecords {j:JM} (hj:JSmall j) (jb d:Nat) {a:Option Addr} {c:Nat} {rg:Grp} (ho:JOwn j a c rg) (W0:World) (H:List Grp) :
    Tri Tryz.prog 15 #[pt jb] W0 (jAt jb d j a c::rg::H) (fun v H'=>∃ (a':Option Addr) (c':Nat) (g:Grp),v=.slice a' j.L.length c'∧Rd (inG g) a' (strs j.L)∧H'=g::jAt jb d j a c::rg::H):=by
  obtain ⟨dir,L,size,down,there⟩:=j
  refine Tri.mono (records_ jb d dir a c rg L size down there ho hj.len W0 H) fun v H' ⟨g,hg,hH⟩=>?_
  obtain ⟨a',c',rfl,_,hr⟩:=Go.Sw.Own.shape hg
  exact ⟨a',c',g,rfl,hr,hH⟩
theorem jSize {j:JM} (jb d:Nat) {a:Option Addr} {c:Nat} (W0:World) (H:List Grp) :
    Tri Tryz.prog 16 #[pt jb] W0 (jAt jb d j a c::H) (fun v H'=>v=.int .i64 j.size∧H'=jAt jb d j a c::H):=by
  obtain ⟨dir,L,size,down,there⟩:=j
  exact size_ jb d dir a c L size down there W0 H
end Go.Proofs.YtlaoeiaaeifidaaGreat
namespace Go.Jr
open Go.Sw Go.Lib Go.Vf Go.Sha Go.Proofs.YtlaoeiaaeifidaaGreat
def Good (dir:ByteArray):Prop:=(!A3 dir||decide (G5 dir ≥ 0))=false
theorem open_fresh {M:DM} {dir:ByteArray} (hd:Good dir) (hl:E6 M.names (B0 dir logB)=none):R4 M dir=(0,some ⟨dir,[],0,false,false⟩,M) :=
  open_no hd (by unfold K9; rw [hl]; rfl)
theorem open_log {M:DM} {dir:ByteArray} {k:Int} {L:List ByteArray} (hd:Good dir) (hl:E6 M.names (B0 dir logB)=some k) (hb:(I7 M k).now=A4 L) (hL:∀ t∈L,E8 t=true) :
    R4 M dir=(0,some ⟨dir,L,((A4 L).size:Int),false,true⟩,M):=by
  have hr:K9 M (B0 dir logB)=(A4 L,0):=by rw [readM_ok hl,hb]
  exact open_whole hd (by rw [hr]; rfl) (by rw [hr]; exact parse_lines hL) (by rw [show (ByteArray.empty.toList==(ByteArray.mk #[]).toList)=true from beq_self_eq_true _]; rfl)
def oneM (room:Int) (p c:ByteArray):DM:=⟨room,[⟨c,c⟩],[(p,0)],[(p,0)],[],false,false,0⟩
def twoM (room:Int) (p c b:ByteArray):DM:=⟨room,[⟨c,c⟩,⟨b,b⟩],[(p,1)],[(p,1)],[],false,false,0⟩
theorem new0 {room:Int} (h:0≤room):newM room=⟨room,[],[],[],[],false,false,0⟩:=by unfold newM; rw [if_neg (by omega)]
theorem wri_one {room:Int} {dir l:ByteArray} (h:0≤room):wriD (newM room) dir l=oneM room (B0 dir logB) l:=by
  rw [new0 h]
  unfold wriD oneM J1 N2 J6
  simp [N2]
theorem app_one {room:Int} {p c l:ByteArray}:appD (oneM room p c) 0 l=oneM room p (c++l):=by unfold appD N3 I7 oneM; simp
theorem used_one {room:Int} {p c:ByteArray}:N9 (oneM room p c)=c.size:=by show c.size+0=_; omega
theorem look_one {room:Int} {p c:ByteArray}:E6 (oneM room p c).names p=some 0:=by show (if p==p then some (0:Int) else none)=_; rw [if_pos (beq_self_eq_true p)]
theorem rep_two {room:Int} {dir c b:ByteArray} (h:Pth dir):repD (oneM room (B0 dir logB) c) dir b=twoM room (B0 dir logB) c b:=by
  unfold repD repN repC twoM oneM J1
  have e1:=h.ne
  have e2:=h.ne'
  simp [J6,N2,e1,e2]
theorem crash_one {room:Int} {p c:ByteArray} {ks:List Int}:V9 (oneM room p c) ks=oneM room p c:=by
  unfold V9 oneM
  simp [I6,S5,onceL,V7,O3]
theorem roomy_new {room:Int} (h:0≤room):RoomM (newM room):=RoomM.of (scr_new 0 room) (by omega) (by omega) (by omega)
theorem roomy_one {room:Int} {p c:ByteArray} (hp:A3 p=true) (hc:c.size≤5000000):RoomM (oneM room p c) :=
  RoomM.of (z:=5000000) (w:=10) (i:=10) ⟨by show 1≤10; omega,fun B hB=>by rw [List.mem_singleton.1 hB]; exact ⟨hc,Nat.le_refl _⟩,by show 1≤10; omega,by show 1+0≤10; omega,by show 0≤10; omega,by show (-9223372036854775808:Int)≤0∧(0:Int)≤9223372036854775807; omega,
    fun x hx=>by rw [List.mem_singleton.1 hx]; exact hp,fun x hx=>by rw [List.mem_singleton.1 hx]; exact hp,fun c hc=>absurd hc List.not_mem_nil⟩ (by omega) (by omega) (by omega)
def dJ:ByteArray:=ByteArray.mk #[106]
def tA:ByteArray:=ByteArray.mk #[97]
def tB:ByteArray:=ByteArray.mk #[98]
def tBn:ByteArray:=ByteArray.mk #[98,10]
def tC:ByteArray:=ByteArray.mk #[99]
theorem pthJ:Pth dJ:=⟨by decide +kernel,by decide +kernel,by decide +kernel,by decide +kernel,by decide +kernel,by decide +kernel⟩
theorem goodJ:Good dJ:=by unfold Good; decide +kernel
theorem rA:E8 tA=true:=by decide +kernel
theorem rB_:E8 tB=true:=by decide +kernel
theorem rBn:E8 tBn=false:=by decide +kernel
theorem rC:E8 tC=true:=by decide +kernel
def pJl:ByteArray:=B0 dJ logB
def fJ0:JM:=⟨dJ,[],0,false,false⟩
def fJ1:JM:=⟨dJ,[tA],19,false,true⟩
def fJ2:JM:=⟨dJ,[tA,tB],38,false,true⟩
def fJ3:JM:=⟨dJ,[tC],19,false,true⟩
def gM0:DM:=newM 10000
def gM1:DM:=oneM 10000 pJl (B8 tA)
def gM2:DM:=oneM 10000 pJl (A4 [tA,tB])
def gM3:DM:=twoM 10000 pJl (A4 [tA,tB]) (A4 [tC])
theorem l1 (t:ByteArray):A4 [t]=B8 t:=linesB_one t
theorem zA:(B8 tA).size=19:=H9 tA
theorem zAB:(A4 [tA,tB]).size=38:=by show (B8 tA++A4 [tB]).size=38; rw [l1,ByteArray.size_append,H9,H9]; rfl
theorem zC:(A4 [tC]).size=19:=by rw [l1]; exact H9 tC
theorem f_open0:R4 gM0 dJ=(0,some fJ0,gM0):=open_fresh goodJ (by rw [show gM0=_ from new0 (by decide)]; rfl)
theorem f_add1:addM fJ0 gM0 tA=(0,fJ1,gM1):=by
  have:=add_first (M:=gM0) (t:=tA) pthJ (by rw [show gM0=_ from new0 (by decide)]) rA (by rw [show gM0=_ from new0 (by decide),zA]; show ((0:Nat):Int) - ((0:Nat):Int)+((19:Nat):Int)≤10000; omega)
  rw [show wriD gM0 dJ (B8 tA)=gM1 from wri_one (by decide),zA] at this
  exact this
theorem f_add2:addM fJ1 gM1 tBn=(2,fJ1,gM1):=add_bad rBn
theorem f_add3:addM fJ1 gM1 tB=(0,fJ2,gM2):=by
  have:=add_next (M:=gM1) (t:=tB) (L:=[tA]) (z:=19) (k:=0) pthJ rfl rB_ look_one (by show 0<1; omega) (by rw [show gM1=oneM 10000 pJl (B8 tA) from rfl,used_one,zA,H9]; show ((19:Nat):Int)+((1+18:Nat):Int)≤10000; omega)
  rw [show appD gM1 0 (B8 tB)=oneM 10000 pJl (B8 tA++B8 tB) from app_one,H9] at this
  rw [show gM2=oneM 10000 pJl (B8 tA++A4 [tB]) from rfl,l1]
  exact this
theorem f_crash:V9 gM2 []=gM2:=crash_one
theorem f_right2:∀ t∈[tA,tB],E8 t=true:=fun t h=>by
  rcases List.mem_cons.1 h with rfl | h
  · exact rA
  · rw [List.mem_singleton.1 h]; exact rB_
theorem f_open2:R4 gM2 dJ=(0,some fJ2,gM2):=by
  have:=open_log (M:=gM2) (k:=0) (L:=[tA,tB]) goodJ look_one rfl f_right2
  rw [zAB] at this; exact this
theorem f_rep:E3 fJ2 gM2 [tC]=(0,fJ3,gM3):=by
  have:=rep_good (M:=gM2) (dir:=dJ) (L:=[tA,tB]) (ts:=[tC]) (z:=38) (th:=true) pthJ rfl (fun t h=>by rw [List.mem_singleton.1 h]; exact rC) (by rw [show gM2=oneM 10000 pJl (A4 [tA,tB]) from rfl,used_one,zAB,zC]; show ((38:Nat):Int) - ((0:Nat):Int)+((19:Nat):Int)≤10000; omega)
  rw [show repD gM2 dJ (A4 [tC])=gM3 from rep_two pthJ,zC] at this
  exact this
theorem g_r0:RoomM gM0:=roomy_new (by decide)
theorem g_r1:RoomM gM1:=roomy_one pthJ.rp (by rw [zA]; omega)
theorem g_r2:RoomM gM2:=roomy_one pthJ.rp (by rw [zAB]; omega)
theorem g_s0:JSmall fJ0:=⟨by decide,by decide,by decide⟩
theorem g_s1:JSmall fJ1:=⟨by decide,by decide,by decide⟩
theorem g_s2:JSmall fJ2:=⟨by decide,by decide,by decide⟩
theorem g_s3:JSmall fJ3:=⟨by decide,by decide,by decide⟩
end Go.Jr
namespace Go.Jr
open Go.Sw Go.Lib Go.Vf Go.Sha Go.Proofs.YtlaoeiaaeifidaaGreat
def qJn:ByteArray:=B0 dJ G7
def nm (a b:Option Nat):List Nm:=(match a with | some k=>[(pJl,(k:Int))] | none=>[])++(match b with | some k=>[(qJn,(k:Int))] | none=>[])
theorem crashB_at:∀ {Bs:List Body} {ks:List Int} {k:Nat} {B:Body},Bs[k]? = some B→∃ x,(I6 Bs ks).1[k]? = some ⟨x,x⟩∧((B.now.size≤B.kept.size∧x=B.kept)∨∃ m,B.kept.size≤m∧x=B.now.extract 0 m)
  | [],_,_,_,h=>by simp at h
  | b::r,ks,0,B,h=>by
    have e:b=B:=by simpa using h
    subst e
    unfold I6
    by_cases hc:(b.now.size:Int) - (b.kept.size:Int) > 0
    · rw [if_pos hc]; exact ⟨_,rfl,.inr ⟨_,Nat.le_add_right _ _,rfl⟩⟩
    · rw [if_neg hc]; exact ⟨_,rfl,.inl ⟨by omega,rfl⟩⟩
  | b::r,ks,k+1,B,h=>by
    have h':r[k]? = some B:=by simpa using h
    unfold I6
    by_cases hc:(b.now.size:Int) - (b.kept.size:Int) > 0
    · rw [if_pos hc]; exact crashB_at (ks:=ks.drop 1) h'
    · rw [if_neg hc]; exact crashB_at (ks:=ks) h'
theorem ext_self {c:ByteArray} {m:Nat} (h:c.size≤m):c.extract 0 m=c:=ext_L (by
  rw [exL,List.drop_zero,List.take_of_length_le (by rw [lenL]; exact h)])
theorem crashB_same' {Bs:List Body} {ks:List Int} {k:Nat} {c:ByteArray} (h:Bs[k]? = some ⟨c,c⟩):(I6 Bs ks).1[k]? = some ⟨c,c⟩:=by
  obtain ⟨x,h1,h2⟩:=crashB_at (ks:=ks) h
  have:x=c:=by
    rcases h2 with ⟨_,h2⟩ | ⟨m,h2,h3⟩
    · exact h2
    · rw [h3]; exact ext_self h2
  rw [h1,this]
structure Base (lg:Option ByteArray) (M:DM):Prop where
  room:M.room=1048576
  once:M.fails=true→M.once=false
  ex:∃ a b:Option Nat,M.names=nm a b∧M.kept=nm a b∧M.changes=[] ∧
    (match lg,a with | none,none=>True | some c,some k=>M.bodies[k]? = some ⟨c,c⟩∧c.size≤60000 | _,_=>False) ∧
    (∀ k,b=some k→∃ B,M.bodies[k]? = some B∧B.now.size≤60000∧B.kept.size≤60000)
theorem crash_none {M:DM} {ks:List Int} (h:M.changes=[]):V9 M ks={ M with bodies:=(I6 M.bodies ks).1,names:=M.kept,kept:=M.kept,changes:=[],fails:=false }:=by
  unfold V9
  rw [h]
  simp [S5,onceL,V7,O3]
theorem Base.crash {lg:Option ByteArray} {M:DM} (h:Base lg M) (ks:List Int):Base lg (V9 M ks):=by
  obtain ⟨a,b,h1,h2,h3,h4,h5⟩:=h.ex
  rw [crash_none h3]
  refine ⟨h.room,(fun h=>by cases h),a,b,h2,h2,rfl,?_,fun k hk=>?_⟩
  · cases lg <;> cases a <;> simp only at h4 ⊢
    exact ⟨crashB_same' h4.1,h4.2⟩
  · obtain ⟨B,hB,hz⟩:=h5 k hk
    obtain ⟨x,hx,hx2⟩:=crashB_at (ks:=ks) hB
    have:x.size≤60000:=by
      rcases hx2 with ⟨h6,rfl⟩ | ⟨m,_,rfl⟩
      · exact hz.2
      · rw [ByteArray.size_extract]; have:=hz.1; omega
    exact ⟨_,hx,this,this⟩
theorem app_old {l:List Body} {k:Nat} {B x:Body} (h:l[k]? = some B):(l++[x])[k]? = some B:=by
  obtain ⟨hk,_⟩:=List.getElem?_eq_some_iff.1 h
  rw [List.getElem?_append_left hk]; exact h
def LogIn (lg:Option ByteArray) (a:Option Nat) (bs:List Body):Prop:=match lg,a with | none,none=>True | some c,some k=>bs[k]? = some ⟨c,c⟩∧c.size≤60000 | _,_=>False
def NewIn (b:Option Nat) (bs:List Body):Prop:=∀ k,b=some k→∃ B,bs[k]? = some B∧B.now.size≤60000∧B.kept.size≤60000
theorem LogIn.app {lg:Option ByteArray} {a:Option Nat} {bs:List Body} (h:LogIn lg a bs) (x:Body):LogIn lg a (bs++[x]):=by
  cases lg <;> cases a <;> simp only [LogIn] at h ⊢
  exact ⟨app_old h.1,h.2⟩
theorem NewIn.app {b:Option Nat} {bs:List Body} (h:NewIn b bs) (x:Body):NewIn b (bs++[x]):=fun k hk=>by
  obtain ⟨B,hB,hz⟩:=h k hk
  exact ⟨B,app_old hB,hz⟩
theorem LogIn.crash {lg:Option ByteArray} {a:Option Nat} {bs:List Body} (h:LogIn lg a bs) (ks:List Int):LogIn lg a (I6 bs ks).1:=by
  cases lg <;> cases a <;> simp only [LogIn] at h ⊢
  exact ⟨crashB_same' h.1,h.2⟩
theorem new_crash {bs:List Body} {k:Nat} {B:Body} (h:bs[k]? = some B) (hz:B.now.size≤60000∧B.kept.size≤60000) (ks:List Int):∃ B',(I6 bs ks).1[k]? = some B'∧B'.now.size≤60000∧B'.kept.size≤60000:=by
  obtain ⟨x,hx,hx2⟩:=crashB_at (ks:=ks) h
  have:x.size≤60000:=by
    rcases hx2 with ⟨h6,rfl⟩ | ⟨m,_,rfl⟩
    · exact hz.2
    · rw [ByteArray.size_extract]; have:=hz.1; omega
  exact ⟨_,hx,this,this⟩
theorem NewIn.crash {b:Option Nat} {bs:List Body} (h:NewIn b bs) (ks:List Int):NewIn b (I6 bs ks).1:=fun k hk=>by
  obtain ⟨B,hB,hz⟩:=h k hk
  exact new_crash hB hz ks
theorem Base.of {lg:Option ByteArray} {M:DM} {a b:Option Nat} (h1:M.room=1048576) (h2:M.fails=true→M.once=false) (h3:M.names=nm a b) (h4:M.kept=nm a b) (h5:M.changes=[]) (h6:LogIn lg a M.bodies) (h7:NewIn b M.bodies):Base lg M:=⟨h1,h2,a,b,h3,h4,h5,h6,h7⟩
theorem Base.parts {lg:Option ByteArray} {M:DM} (h:Base lg M):∃ a b:Option Nat,M.names=nm a b∧M.kept=nm a b∧M.changes=[]∧LogIn lg a M.bodies∧NewIn b M.bodies:=h.ex
theorem LogIn.set {c:ByteArray} {k:Nat} {bs:List Body} (h:LogIn (some c) (some k) bs):k<bs.length:=(List.getElem?_eq_some_iff.1 h.1).1
theorem NewIn.set {b:Option Nat} {bs:List Body} (h:NewIn b bs) (k:Nat) {x:Body} (hz:x.now.size≤60000∧x.kept.size≤60000):NewIn b (bs.set k x):=fun j hj=>by
  obtain ⟨B,hB,hBz⟩:=h j hj
  by_cases e:k=j
  · subst e
    have:=(List.getElem?_eq_some_iff.1 hB).1
    exact ⟨x,by simp [this],hz⟩
  · exact ⟨B,by rw [List.getElem?_set_ne e]; exact hB,hBz⟩
end Go.Jr
namespace Go.Jr
open Go.Sw Go.Lib Go.Vf Go.Sha Go.Proofs.YtlaoeiaaeifidaaGreat
theorem split_lf {all:ByteArray} (h:¬ lf all<0):(all.extract 0 (lf all).toNat++lfB)++all.extract ((lf all).toNat+1) all.size=all:=by
  rcases V1 all (c:=10) (by omega) (by omega) with ⟨k,hk,he,hb,_⟩ | ⟨he,_⟩
  · have e:lf all=k:=he
    rw [e,Int.toNat_natCast]
    rw [A0g hk] at hb
    have h10:=u8_10 hb
    refine ext_L ?_
    have hk':k<all.data.toList.length:=by rw [lenL]; exact hk
    rw [toL,toL,exL,exL,List.drop_zero,show all.size=all.data.toList.length from (lenL all).symm,List.take_length]
    show (all.data.toList.take k++[10])++all.data.toList.drop (k+1)=all.data.toList
    rw [List.append_assoc,← h10]
    rw [show [all.data.toList[k]]++all.data.toList.drop (k+1)=all.data.toList.drop k from (List.drop_eq_getElem_cons hk').symm,List.take_append_drop]
  · exact absurd (show lf all<0 by rw [lf,he]; omega) h
theorem cut_eq {all t r:ByteArray} (h:cutL all=some (t,r)):E8 t=true∧B8 t++r=all:=by
  unfold cutL at h
  split at h
  · simp at h
  · rename_i h1
    split at h
    · rename_i h2
      simp only [Option.some.injEq,Prod.mk.injEq] at h
      obtain ⟨rfl,rfl⟩:=h
      refine ⟨(ok_line h2).2,?_⟩
      rw [(ok_line h2).1]
      exact split_lf h1
    · simp at h
theorem parse_eq:∀ (n:Nat) (all:ByteArray),all.size≤n→(∀ t∈(E7 all).1,E8 t=true)∧A4 (E7 all).1++(E7 all).2=all:=by
  intro n
  induction n with
  | zero =>
    intro all h
    cases hc:cutL all with
    | none=>rw [A0s hc]; exact ⟨fun _ h=>absurd h List.not_mem_nil,ByteArray.empty_append⟩
    | some x=>have:=cutL_lt (t:=x.1) (r:=x.2) hc; omega
  | succ n ih =>
    intro all h
    cases hc:cutL all with
    | none=>rw [A0s hc]; exact ⟨fun _ h=>absurd h List.not_mem_nil,ByteArray.empty_append⟩
    | some x =>
      obtain ⟨t,r⟩:=x
      have h1:=cutL_lt hc
      obtain ⟨h2,h3⟩:=ih r (by omega)
      obtain ⟨h4,h5⟩:=cut_eq hc
      rw [parseB_some hc]
      refine ⟨fun u hu=>?_,?_⟩
      · rcases List.mem_cons.1 hu with rfl | hu
        · exact h4
        · exact h2 u hu
      · show (B8 t++A4 (E7 r).1)++(E7 r).2=all
        rw [ByteArray.append_assoc,h3,h5]
theorem parse_back (c:ByteArray):A4 (E7 c).1++(E7 c).2=c:=(parse_eq c.size c (Nat.le_refl _)).2
theorem parse_size (c:ByteArray):(A4 (E7 c).1).size≤c.size:=by
  have:=congrArg ByteArray.size (parse_back c)
  rw [ByteArray.size_append] at this; omega
theorem sI_sdir {z w i:Nat} {M:DM} (h:ScrI z w i M) (d:ByteArray):ScrI z w i (I4 M d).2:=by
  have hc:=A0o h (dirR d)
  by_cases he:V5 M (dirR d)=0
  · rw [P2 he]
    have e1:=fold_len (J1 M.changes d) M.kept
    have e2:=addsC_split M.changes d
    have e3:M.kept.length+addsC M.changes≤w:=hc.kept
    have e4:M.changes.length≤w:=hc.changes
    have e5:=List.length_filter_le (fun c:Ch=>!(d==c.dir)) M.changes
    refine ⟨hc.bodies,hc.size,hc.names,?_,?_,hc.calls,hc.rn,right_fold hc.rk fun x hx=>?_,fun c hm=>hc.rc c (List.mem_filter.1 hm).1⟩
    · show ((J1 M.changes d).foldl J6 M.kept).length+addsC (M.changes.filter _)≤w
      omega
    · show (M.changes.filter _).length≤w
      omega
    · obtain ⟨c,hm,rfl⟩:=chOf_mem hx
      exact (hc.rc c hm).1
  · rw [Q5 he]; exact hc
theorem sI_try {z w i:Nat} {f:DM→Int × DM} {r:List (DM→Int × DM)} {M:DM} (h1:ScrI z w i (f M).2) (h2:ScrI z w i (tryM r (f M).2).2):ScrI z w i (tryM (f::r) M).2:=by
  rw [X4]; split
  · exact h1
  · exact h2
theorem sI_app {z w i:Nat} {M:DM} (h:ScrI z w i M) (dir l:ByteArray):ScrI (z+l.size) (w+1) (i+1) (tryM (P0 dir l) M).2:=by
  have h1:=ScrI.up (sI_append h (B0 dir logB) l) (Nat.le_refl _) (show w≤w+1 by omega) (show i≤i+1 by omega)
  have h2:=A0q h1 (B0 dir logB)
  exact sI_try h1 (sI_try h2 h2)
theorem sI_wri {z w i:Nat} {M:DM} (h:ScrI z w i M) (dir l:ByteArray):ScrI (z+l.size) (w+1) (i+1) (tryM (O9 dir l) M).2:=by
  have h1:=A0p (ScrI.up h (show z≤z+l.size by omega) (Nat.le_refl _) (Nat.le_refl _)) (B0 dir logB) (b:=l) (by omega)
  have h2:=A0q h1 (B0 dir logB)
  have h3:=sI_sdir h2 dir
  exact sI_try h1 (sI_try h2 (sI_try h3 h3))
theorem sI_repl {z w i:Nat} {M:DM} (h:ScrI z w i M) (dir:ByteArray) {b:ByteArray} (hb:b.size≤z):ScrI z (w+2) (i+1) (tryM (E4 dir b) M).2:=by
  have h1:=ScrI.up (A0p h (B0 dir G7) hb) (Nat.le_refl _) (show w+1≤w+2 by omega) (Nat.le_refl _)
  have h1':=A0p h (B0 dir G7) hb
  have h2':=A0q h1' (B0 dir G7)
  have h2:=A0q h1 (B0 dir G7)
  have h3:=sI_rename h2' (B0 dir G7) (B0 dir logB)
  have h4:=sI_sdir h3 dir
  exact sI_try h1 (sI_try h2 (sI_try h3 (sI_try h4 h4)))
theorem sI_addM {z w i:Nat} {M:DM} (h:ScrI z w i M) (j:JM) (t:ByteArray):ScrI (z+(t.size+18)) (w+1) (i+1) (addM j M t).2.2:=by
  have hup:=ScrI.up h (show z≤z+(t.size+18) by omega) (show w≤w+1 by omega) (show i≤i+1 by omega)
  rw [← H9]
  rw [← H9] at hup
  unfold addM
  split
  · exact hup
  · split
    · exact hup
    · have hs:ScrI (z+(B8 t).size) (w+1) (i+1) (tryM (M3 j (B8 t)) M).2:=by
        unfold M3
        split
        · exact sI_app h j.dir (B8 t)
        · exact sI_wri h j.dir (B8 t)
      simp only
      split <;> exact hs
theorem sI_repM {z w i:Nat} {M:DM} (h:ScrI z w i M) (j:JM) {ts:List ByteArray} (hz:(A4 ts).size≤z):ScrI z (w+2) (i+1) (E3 j M ts).2.2:=by
  have hup:=ScrI.up h (Nat.le_refl z) (show w≤w+2 by omega) (show i≤i+1 by omega)
  unfold E3
  split
  · exact hup
  · split
    · exact hup
    · have hs:=sI_repl h j.dir hz
      simp only
      split <;> exact hs
theorem sI_openM {z w i:Nat} {M:DM} (h:ScrI z w i M) (dir:ByteArray):ScrI z (w+2) (i+1) (R4 M dir).2.2:=by
  have hup:=ScrI.up h (Nat.le_refl z) (show w≤w+2 by omega) (show i≤i+1 by omega)
  unfold R4
  split
  · exact hup
  · split
    · exact hup
    · simp only
      split
      · have hs:=sI_repM (ts:=(E7 (K9 M (B0 dir logB)).1).1) h ⟨dir,(E7 (K9 M (B0 dir logB)).1).1,((A4 (E7 (K9 M (B0 dir logB)).1).1).size:Int),false,true⟩ (Nat.le_trans (parse_size _) (read_le h _))
        split <;> exact hs
      · exact hup
end Go.Jr
namespace Go.Jr
open Go.Sw Go.Lib Go.Vf Go.Sha Go.RowKit Go.Proofs.YtlaoeiaaeifidaaGreat
structure OpJ where
  kind:Int
  n:Int
  t:ByteArray
  la:Option Addr
  lc:Nat
  l:List ByteArray
  ka:Option Addr
  kc:Nat
  k:List Int
instance:Inhabited OpJ:=⟨⟨0,0,ByteArray.mk #[],none,0,[],none,0,[]⟩⟩
def O8 (o:OpJ):List Value:=[.int .i64 o.kind,.int .i64 o.n,.string o.t,.slice o.la o.l.length o.lc,.slice o.ka o.k.length o.kc]
structure OpOkJ (S:Nat→Obj→Prop) (W0:World) (H:List Grp) (o:OpJ):Prop where
  kind:-9223372036854775808≤o.kind∧o.kind≤9223372036854775807
  n:-9223372036854775808≤o.n∧o.n≤9223372036854775807
  t:o.t.size≤9223372036854775807
  l:Rd S o.la (strs o.l)
  ln:o.la=none→o.l.length=0
  ll:o.l.length≤9223372036854775807
  ls:∀ t∈o.l,t.size≤9223372036854775807
  k:Rd S o.ka (o.k.map (Value.int .i64))
  kc:o.k.length≤o.kc
  ki:∀ x∈o.k,-9223372036854775808≤x∧x≤9223372036854775807
  kl:o.k.length≤9223372036854775807
  at_:∀ y o,S y o→At W0 H y o
theorem opsJ_len (l:List OpJ):(l.flatMap O8).length=l.length * 5:=by
  induction l with
  | nil=>rfl
  | cons o l ih=>rw [List.flatMap_cons,List.length_append,ih,List.length_cons]; show 5+_=_; omega
theorem op_atJ {l:List OpJ} {i:Nat} (h:i<l.length):∀ m,m<5→(l.flatMap O8)[i * 5+m]? = (O8 (l.getD i default))[m]? := by
  induction l generalizing i with
  | nil=>simp at h
  | cons o l ih =>
    intro m hm
    rw [List.flatMap_cons]
    cases i with
    | zero =>
      rw [Nat.zero_mul,Nat.zero_add,List.getElem?_append_left (by show m<5; exact hm)]; rfl
    | succ i =>
      have e:(i+1) * 5+m=5+(i * 5+m):=by omega
      rw [e,List.getElem?_append_right (by show 5≤_; omega),show (O8 o).length=5 from rfl,Nat.add_sub_cancel_left,ih (by simpa using h) m hm,List.getD_cons_succ]
theorem opJ_mem {l:List OpJ} {k:Nat} (h:k<l.length):l.getD k default∈l:=by
  rw [List.getD,List.getElem?_eq_getElem h]; exact List.getElem_mem h
def longJ (o:OpJ):Bool:=o.l.any (fun t=>decide ((t.size:Int) > 1000))||((decide ((o.t.size:Int) > 1000)||decide (((o.l.length:Nat):Int) > 20))||decide (((o.k.length:Nat):Int) > 50))
theorem longJ_no {o:OpJ} (h:longJ o=false):(∀ t∈o.l,t.size≤1000)∧o.t.size≤1000∧o.l.length≤20∧o.k.length≤50:=by
  unfold longJ at h
  simp only [Bool.or_eq_false_iff,decide_eq_false_iff_not,List.any_eq_false,decide_eq_true_eq] at h
  obtain ⟨h1,⟨h2,h3⟩,h4⟩:=h
  exact ⟨fun t ht=>by have:=h1 t ht; omega,by omega,by omega,by omega⟩
theorem lines_le:∀ {ts:List ByteArray},(∀ t∈ts,t.size≤1000)→(A4 ts).size≤1018 * ts.length
  | [],_=>Nat.zero_le _
  | t::R,h=>by
    have ih:=lines_le (ts:=R) fun u hu=>h u (List.mem_cons_of_mem _ hu)
    have ht:=h t List.mem_cons_self
    show (B8 t++A4 R).size≤1018 * (R.length+1)
    rw [ByteArray.size_append,H9]; omega
theorem sc_room {n:Nat} {M:DM} (h:Scr 1100 n M) (hn:n≤1000):RoomM M:=RoomM.of h (by have:=Nat.mul_le_mul_left 1100 hn; omega) (by omega) (by omega)
theorem sc_add {n:Nat} {M:DM} (h:Scr 1100 n M) (j:JM) {t:ByteArray} (ht:t.size≤1000):Scr 1100 (n+2) (addM j M t).2.2:=ScrI.up (sI_addM h j t) (by rw [Nat.mul_add]; omega) (by omega) (by omega)
theorem sc_rep {n:Nat} {M:DM} (h:Scr 1100 n M) (j:JM) {ts:List ByteArray} (hz:(A4 ts).size≤1100 * n):Scr 1100 (n+2) (E3 j M ts).2.2:=ScrI.up (sI_repM h j hz) (by rw [Nat.mul_add]; omega) (by omega) (by omega)
theorem sc_open {n:Nat} {M:DM} (h:Scr 1100 n M) (dir:ByteArray):Scr 1100 (n+2) (R4 M dir).2.2:=ScrI.up (sI_openM h dir) (by rw [Nat.mul_add]; omega) (by omega) (by omega)
theorem sc_add' {n:Nat} {M M':DM} {j j':JM} {t:ByteArray} {e:Int} (h:Scr 1100 n M) (ht:t.size≤1000) (he:addM j M t=(e,j',M')):Scr 1100 (n+2) M':=by have:=sc_add h j ht; rw [he] at this; exact this
theorem sc_rep' {n:Nat} {M M':DM} {j j':JM} {ts:List ByteArray} {e:Int} (h:Scr 1100 n M) (hz:(A4 ts).size≤1100 * n) (he:E3 j M ts=(e,j',M')):Scr 1100 (n+2) M':=by have:=sc_rep h j hz; rw [he] at this; exact this
theorem sc_open' {n:Nat} {M M':DM} {j:Option JM} {dir:ByteArray} {e:Int} (h:Scr 1100 n M) (he:R4 M dir=(e,j,M')):Scr 1100 (n+2) M':=by have:=sc_open h dir; rw [he] at this; exact this
end Go.Jr
namespace Go.Proofs.YtlaoeiaaeifidaaGreat
open Go Go.ChangeShapes Go.WideShapes Go.ChangeAt Go.RowKit Go.Sw Go.Vf Go.Jr
theorem cells_opJ:Tryz.prog.cellsOf 51=5:=by kernel_rfl
theorem cells_ss:Tryz.prog.cellsOf 32=1:=by kernel_rfl
set_option maxRecDepth 100000 in
theorem opJ_core {H:Type} {enc:TypeId × Value→H} {W:World} {cs:List Value} {x:DataW H × List MemPlace} {fuel:Nat} (hf:DataW.trod enc Tryz.prog W 0 (fun _=>true) true fuel 51 cs=some x) :
    ∃ o:OpJ,cs=O8 o∧OpOkJ (SW W) W [] o:=by
  obtain ⟨xs,n,rfl,rfl,hl,hx,hs⟩:=DataW.trod_struct Tryz.underlying51 hf
  have hl5:cs.length=5:=by rw [hl]; kernel_rfl
  obtain ⟨c0,c1,c2,c3,c4,rfl⟩:∃ c0 c1 c2 c3 c4,cs=[c0,c1,c2,c3,c4]:=by
    match cs,hl5 with
    | [c0,c1,c2,c3,c4],_=>exact ⟨c0,c1,c2,c3,c4,rfl⟩
  have h0:DataW.trod enc Tryz.prog W 0 (fun _=>true) true n 3 ((List.drop 0 [c0,c1,c2,c3,c4]).take (Tryz.prog.cellsOf 3))=xs[0]? := hs 0 _ rfl
  rw [cells_int] at h0
  have h1:DataW.trod enc Tryz.prog W 0 (fun _=>true) true n 3 ((List.drop 1 [c0,c1,c2,c3,c4]).take (Tryz.prog.cellsOf 3))=xs[1]? := hs 1 _ rfl
  rw [cells_int] at h1
  have h2:DataW.trod enc Tryz.prog W 0 (fun _=>true) true n 9 ((List.drop 2 [c0,c1,c2,c3,c4]).take (Tryz.prog.cellsOf 9))=xs[2]? := hs 2 _ rfl
  rw [cells_str] at h2
  have h3:DataW.trod enc Tryz.prog W 0 (fun _=>true) true n 32 ((List.drop 3 [c0,c1,c2,c3,c4]).take (Tryz.prog.cellsOf 32))=xs[3]? := hs 3 _ rfl
  rw [cells_ss] at h3
  have h4:DataW.trod enc Tryz.prog W 0 (fun _=>true) true n 49 ((List.drop 4 [c0,c1,c2,c3,c4]).take (Tryz.prog.cellsOf 49))=xs[4]? := hs 4 _ rfl
  rw [cells_is] at h4
  have hx5:xs.length=5:=by rw [hx]; rfl
  rw [List.getElem?_eq_getElem (by omega)] at h0 h1 h2 h3 h4
  simp only [List.drop_succ_cons,List.drop_zero,List.take_succ_cons,List.take_zero] at h0 h1 h2 h3 h4
  obtain ⟨kd,e0,_,w0⟩:=DataW.trod_int Tryz.underlying3 h0
  obtain ⟨m,e1,_,w1⟩:=DataW.trod_int Tryz.underlying3 h1
  obtain ⟨t,e2,_,w2⟩:=DataW.trod_string Tryz.underlying9 h2
  obtain ⟨la,lc,l,e3,w3⟩:=strs_core h3
  obtain ⟨ka,kc,k,e4,w4,w41,w42,w43⟩:=ints_core h4
  injection e0 with e0 _
  injection e1 with e1 _
  injection e2 with e2 _
  injection e3 with e3 _
  injection e4 with e4 _
  subst e0 e1 e2 e3 e4
  have hml:maxLen≤9223372036854775807:=by decide
  exact ⟨⟨kd,m,t,la,lc,l,ka,kc,k⟩,rfl,⟨wf_i64 w0,wf_i64 w1,by show t.size≤_; omega,w3.rd,w3.nil,w3.len,w3.size,w4,w41,w42,w43,fun y o h=>sw_at h⟩⟩
theorem add_add5 (a:Addr) (i j:Nat) (h:i≤j):(a.add i).add (j - i)=a.add j:=add_add1 a i j h
set_option maxRecDepth 100000 in
theorem open_scriptJ {H:Type} {enc:TypeId × Value→H} {W:World} {v:Value} {d:DataW H} {p:List MemPlace} {r:Reach} {b0:Nat} (hval:Value.okWide Tryz.prog W r b0 43 v) (h0:DataW.Trod enc Tryz.prog W 0 (fun _=>true) true 43 v d p) :
    ∃ (a:Option Addr) (c:Nat) (l:List OpJ),v=.slice a l.length c∧Rd (SW W) a (l.flatMap O8)∧l.length≤c∧(∀ o∈l,OpOkJ (SW W) W [] o)∧l.length≤9223372036854775807:=by
  obtain ⟨a0,len,cap,rfl⟩:=okWide_slice Tryz.underlying43 hval
  obtain ⟨fuel,hf⟩:=h0
  have hml:maxLen≤9223372036854775807:=by decide
  rcases DataW.trod_slice Tryz.underlying43 hf with ⟨hcs,_⟩ | ⟨a,len',cap',elems,rest,n,rfl,hcs,_,_,hl,hm,hlen,hel,_,_⟩
  · simp [Value.cells] at hcs
    obtain ⟨rfl,rfl,rfl⟩:=hcs
    exact ⟨none,0,[],rfl,.inl rfl,Nat.le_refl _,fun _ h=>absurd h List.not_mem_nil,by decide⟩
  · simp [Value.cells] at hcs
    obtain ⟨rfl,rfl,rfl⟩:=hcs
    rw [cells_opJ] at hel
    have each:∀ i,i<len→∃ o:OpJ,OpOkJ (SW W) W [] o∧∀ j,j<5→W.cell? ((a.add (i * 5)).add j)=(O8 o)[j]? := by
      intro i hi
      have h:=hel i hi
      rw [List.getElem?_eq_getElem (by omega)] at h
      obtain ⟨cs,hc,ht⟩:=Option.bind_eq_some_iff.1 h
      obtain ⟨o,rfl,ho⟩:=opJ_core ht
      exact ⟨o,ho,(World.cells?_some hc).2.2⟩
    have build:∀ m,m≤len→∃ l:List OpJ,l.length=m∧(∀ o∈l,OpOkJ (SW W) W [] o)∧∀ j u,(l.flatMap O8)[j]? = some u→W.cell? (a.add j)=some u:=by
      intro m
      induction m with
      | zero=>intro _; exact ⟨[],rfl,fun _ h=>absurd h List.not_mem_nil,fun j u h=>by simp at h⟩
      | succ m ih =>
        intro hm1
        obtain ⟨l,h1,h2,h3⟩:=ih (by omega)
        obtain ⟨o,ho,hc⟩:=each m (by omega)
        have hll:(l.flatMap O8).length=m * 5:=by rw [opsJ_len,h1]
        refine ⟨l++[o],by simp [h1],fun x hx=>?_,fun j u hu=>?_⟩
        · rcases List.mem_append.1 hx with hx | hx
          · exact h2 x hx
          · rw [List.mem_singleton.1 hx]; exact ho
        · rw [List.flatMap_append] at hu
          rcases Nat.lt_or_ge j (m * 5) with hlt | hge
          · rw [List.getElem?_append_left (by omega)] at hu
            exact h3 j u hu
          · rw [List.getElem?_append_right (by omega),hll] at hu
            simp only [List.flatMap_cons,List.flatMap_nil,List.append_nil] at hu
            have hj:j - m * 5<5:=by
              rcases Nat.lt_or_ge (j - m * 5) 5 with h | h
              · exact h
              · rw [List.getElem?_eq_none (by exact h)] at hu; cases hu
            have h4:=hc (j - m * 5) hj
            rw [hu,add_add5 a (m * 5) j hge] at h4
            exact h4
    obtain ⟨l,h1,h2,h3⟩:=build len (Nat.le_refl _)
    refine ⟨some a,cap,l,by rw [h1],?_,by omega,h2,by omega⟩
    by_cases h0:l.flatMap O8=[]
    · rw [h0]; exact .inl rfl
    · exact (rd_cells h0 h3).2
end Go.Proofs.YtlaoeiaaeifidaaGreat
namespace Go.Proofs.YtlaoeiaaeifidaaGreat
open Go.Sw Go.Lib Go.Vf Go.Sha Go.Jr Go.RowKit
theorem same_no {A B:List ByteArray} {k:Nat} (hk:k<A.length) (h:(!((A.getD k default).toList==(B.getD k default).toList))=true):A≠B:=fun e=>by
  subst e; simp at h
theorem same_yes {A B:List ByteArray} {k:Nat} (hl:A.length=B.length) (hk:A.length≤k) (h:∀ j,j<k→A.getD j default=B.getD j default):A=B:=by
  apply List.ext_getElem hl
  intro j h1 h2
  have:=h j (by omega)
  simpa [List.getD,h1,h2] using this
theorem same_succ {A B:List ByteArray} {k:Nat} (h:∀ j,j<k→A.getD j default=B.getD j default) (hk:(!((A.getD k default).toList==(B.getD k default).toList))=false):∀ j,j<k+1→A.getD j default=B.getD j default:=fun j hj=>by
  rcases Nat.lt_or_ge j k with h' | h'
  · exact h j h'
  · have:j=k:=by omega
    subst this
    have h1:(A.getD j default).toList=(B.getD j default).toList:=by simpa using hk
    rw [toList_data,toList_data] at h1
    exact ByteArray.ext (Array.toList_inj.1 h1)
theorem same_ (a1:Option Addr) (c1:Nat) (L1:List ByteArray) (S1:Nat→Obj→Prop) (hrd1:Rd S1 a1 (strs L1)) (hl1:L1.length≤1000000000) (a2:Option Addr) (c2:Nat) (L2:List ByteArray) (S2:Nat→Obj→Prop) (hrd2:Rd S2 a2 (strs L2)) (hl2:L2.length≤1000000000) (W0:World) (H:List Grp) (hS1:∀ y o,S1 y o→At W0 H y o) (hS2:∀ y o,S2 y o→At W0 H y o):Tri Tryz.prog 14 #[.slice a1 L1.length c1,.slice a2 L2.length c2] W0 H (fun v H'=>v=.bool (decide (L1=L2))∧H'=H):=by
 refine C8 (args:=[.slice a1 L1.length c1,.slice a2 L2.length c2]) (n:=26) Tryz.func14 rfl rfl (Nat.le_of_ble_eq_true rfl) ?_
 refine A1 (G_p [0] [0,1] (k:=?_))
 refine A0 (A1 ?_)
 refine A1 (G_p [0,0,0,0,0] [0,1,10] (k:=?_))
 refine A0 (C6 (b:=((L1.length:Nat):Int) != ((L2.length:Nat):Int)) kr (fun hc1=>?_) (fun hc1=>?_))
 ·
  have hne:¬ L1.length=L2.length:=fun e9=>by simp [e9] at hc1
  refine A1 (B4 (E':=[⟨4,[],.bool false⟩]) [0] [4] (k:=?_))
  refine A0 (C3 ?_)
  refine B3 (C1 [.tmp 4] [.bool false] (k:=?_))
  exact ⟨by rw [decide_eq_false (fun e=>hne (by rw [e]))]; rfl,rfl⟩
 ·
  have heq:L1.length=L2.length:=by (have h9:(L1.length:Int)=L2.length:=by simpa using hc1); omega
  refine B5 (A0 ?_)
  refine A1 (A1 ?_)
  refine G_p [0,0,0] [0,1,12,13] (k:=A0 ?_)
  refine C5 (I8 (EI:=(fun ξ:Nat=>[⟨0,[],.slice a1 L1.length c1⟩,⟨1,[],.slice a2 L2.length c2⟩,⟨12,[],.int .i64 ((L1.length:Nat):Int)⟩,⟨13,[],.int .i64 ((ξ:Nat):Int)⟩])) (HI:=(fun ξ:Nat=>H)) (Φ:=(fun ξ:Nat=>(ξ≤L1.length)∧(∀ j,j<ξ→L1.getD j default=L2.getD j default))) (μ:=(fun ξ:Nat=>L1.length - ξ)) (s0:=(0)) [0,1,12,13] kr rfl ⟨(by omega),(fun j h=>absurd h (Nat.not_lt_zero j))⟩ ?_)
  rintro k ⟨hk,hA⟩
  refine A1 (G_p [0] [0,1,12,13,14] (k:=?_))
  refine A0 (A1 ?_)
  refine C6 (b:=decide (((k:Nat):Int)<((L1.length:Nat):Int))) kr (fun hc2=>?_) (fun hc2=>?_)
  ·
   simp at hc2
   refine B5 (A0 ?_)
   refine A1 (C5 ?_)
   refine A1 (G_p [0,0] [0,1,5,12,13] (k:=?_))
   refine A0 (A1 ?_)
   refine K4 (k:=A7 (j:=2) [0,0] (k:=?_))
   refine B7 (ch:=[]) (a:=a1) (len:=L1.length) (cap:=c1) (kd:=.i64) (j:=((k:Nat):Int)) (e:=9) (sz:=1) (S:=S1) (cs:=(strs L1)) (hrd:=hrd1) (hb:=(fun _=>by exact ⟨by omega,by omega,strs_ne (by omega)⟩)) (k:=D4 (ch:=[]) (a:=a1) (q:=k * 1) (S:=S1) (cs:=(strs L1)) (v:=.string (L1.getD k default)) (hrd:=hrd1) (hS:=hS1) (hv:=(fun _=>(by rw [Nat.mul_one]; exact A0n (by omega)))) (k:=?_))
   refine A7 (j:=6) [0,0] (k:=B7 (ch:=[]) (a:=a2) (len:=L2.length) (cap:=c2) (kd:=.i64) (j:=((k:Nat):Int)) (e:=9) (sz:=1) (S:=S2) (cs:=(strs L2)) (hrd:=hrd2) (hb:=(fun _=>by exact ⟨by omega,by omega,strs_ne (by omega)⟩)) (k:=?_))
   refine D4 (ch:=[]) (a:=a2) (q:=k * 1) (S:=S2) (cs:=(strs L2)) (v:=.string (L2.getD k default)) (hrd:=hrd2) (hS:=hS2) (hv:=(fun _=>(by rw [Nat.mul_one]; exact A0n (by omega)))) (k:=C4 [0] [0,1,12,13,24] (k:=?_))
   refine A0 (C6 (b:=!((L1.getD k default).toList==(L2.getD k default).toList)) kr (fun hc3=>?_) (fun hc3=>?_))
   ·
    skip
    refine A1 (B4 (E':=[⟨4,[],.bool false⟩]) [0] [4] (k:=?_))
    refine A0 (C3 ?_)
    refine F8 (B3 ?_)
    refine B3 (F8 ?_)
    refine B3 (C1 [.tmp 4] [.bool false] (k:=?_))
    exact ⟨by rw [decide_eq_false (same_no (by omega) hc3)]; rfl,rfl⟩
   ·
    skip
    refine B5 (D5 ?_)
    refine A0 (A2 ?_)
    refine A7 (j:=1) [0] (k:=F2 25 (((k:Nat):Int)+1) (by omega) (by omega) kr ?_)
    refine C4 [0] [0,1,12,13] (k:=E5 (s':=(k+1)) [0,1,12,13] kr rfl ⟨(by omega),(same_succ hA hc3)⟩ (by omega))
  ·
   simp at hc2
   refine G6 (A8 ?_)
   refine A8 (C7 ?_)
   refine A0 (A1 ?_)
   refine B4 (E':=[⟨4,[],.bool true⟩]) [0] [4] (k:=A0 ?_)
   refine C3 (C1 [.tmp 4] [.bool true] (k:=?_))
   exact ⟨by rw [decide_eq_true (same_yes heq (by omega) hA)]; rfl,rfl⟩
set_option maxRecDepth 4000 in
set_option maxHeartbeats 1000000 in
theorem jFirst  (W0:World) (H:List Grp):Tri Tryz.prog 7 #[] W0 H (fun v H'=>v=.bool true∧∃ G,H'=G++H):=by
 refine C8 (args:=[]) (n:=75) Tryz.func7 rfl rfl (Nat.le_of_ble_eq_true rfl) ?_
 refine A1 (B4 (E':=[]) [0] [] (k:=?_))
 refine A0 (A1 ?_)
 refine A2 (G2 Tryz.func8 (dNew 10000 (M:=gM0) _ _ rfl) ?_)
 rintro v H' ⟨d1,rfl,s1,hs1,rfl⟩
 refine D3 (E':=[⟨1,[],pt d1⟩]) [0] [1] (k:=A0 ?_)
 refine A1 (A2 ?_)
 refine A7 (j:=1) [0] (k:=G2 Tryz.func10 (jOpen hs1 g_r0 (by decide) f_open0 ([]:List Grp) d1 _ H) ?_)
 rintro v H' ⟨jb2,ja3,jc4,jr5,s2,rfl,ho6,hs2,rfl⟩
 refine C4 [0,0,0,0,0] [1,2,3] (k:=A0 ?_)
 refine A1 (A1 ?_)
 refine A2 (A7 (j:=8) [0,0,0,0,0,3,0,0] (k:=?_))
 refine N1 (ch:=[(20,false)]) (f:=17) (fst:=#[]) (caps:=#[]) (vs:=[pt jb2,.string (ByteArray.mk #[97])]) (hf:=Tryz.func17) (hsure:=J0 kr) (hc:=jAdd hs2 g_r0 g_s0 (by decide) f_add1 ([]:List Grp) jb2 d1 ho6 _ H) (k:=?_)
 rintro v H' ⟨ja7,jc8,jr9,s4,rfl,ho10,hs4,rfl⟩
 refine A7 (j:=13) [0,3,0,0] (k:=N1 (ch:=[(25,false)]) (f:=17) (fst:=#[]) (caps:=#[]) (vs:=[pt jb2,.string (ByteArray.mk #[98,10])]) (hf:=Tryz.func17) (hsure:=J0 kr) (hc:=jAdd hs4 g_r1 g_s1 (by decide) f_add2 ([]:List Grp) jb2 d1 ho10 _ H) (k:=?_))
 rintro v H' ⟨ja11,jc12,jr13,s6,rfl,ho14,hs6,rfl⟩
 refine A7 (j:=18) [0,3,0,0] (k:=N1 (ch:=[(30,false)]) (f:=17) (fst:=#[]) (caps:=#[]) (vs:=[pt jb2,.string (ByteArray.mk #[98])]) (hf:=Tryz.func17) (hsure:=J0 kr) (hc:=jAdd hs6 g_r1 g_s1 (by decide) f_add3 ([]:List Grp) jb2 d1 ho14 _ H) (k:=?_))
 rintro v H' ⟨ja15,jc16,jr17,s8,rfl,ho18,hs8,rfl⟩
 refine D3 (E':=[⟨1,[],pt d1⟩,⟨34,[],.bool false⟩]) [0,3] [1,34] (k:=A0 ?_)
 refine I2 kr (B5 ?_)
 refine A0 (A1 ?_)
 refine A2 (A7 (j:=1) [0] (k:=?_))
 refine G2 (vs:=[pt d1,.slice none 0 0]) Tryz.func28 (dCrash (M':=gM2) hs8 g_r2.small d1 ([]) none 0 (fun _ _=>False) ⟨.inl rfl,by decide,by decide,fun _ h=>absurd h List.not_mem_nil⟩ [(jAt jb2 d1 fJ2 ja15 jc16),jr17] _ H (fun _ _ h=>h.elim) f_crash) ?_
 rintro v H' ⟨rfl,s9,hs9,rfl⟩
 refine D3 (E':=[⟨1,[],pt d1⟩]) [] [1] (k:=A0 ?_)
 refine A1 (A2 ?_)
 refine A7 (j:=1) [0] (k:=G2 Tryz.func10 (jOpen hs9 g_r2 (by decide) f_open2 ([(jAt jb2 d1 fJ2 ja15 jc16),jr17]:List Grp) d1 _ H) ?_)
 rintro v H' ⟨jb19,ja20,jc21,jr22,s10,rfl,ho23,hs10,rfl⟩
 refine D3 (E':=[⟨4,[],pt jb19⟩,⟨5,[],.int .i64 0⟩]) [0,0,0,0,0] [4,5] (k:=A0 ?_)
 refine A1 (A2 ?_)
 refine G2 (vs:=[.pointer none,.string (ByteArray.mk #[106])]) Tryz.func10 (openNil_ _ _ _) ?_
 rintro v H' ⟨rfl,rfl⟩
 refine C4 [0,0,0,0,0] [4,5,7] (k:=A0 ?_)
 refine A1 (A2 ?_)
 refine A7 (j:=4) [0,0,0,0] (k:=N1 (ch:=[(48,true)]) (f:=15) (fst:=#[]) (caps:=#[]) (vs:=[pt jb19]) (hf:=Tryz.func15) (hsure:=J0 kr) (hc:=jRecords g_s2 jb19 d1 ho23 _ _) (k:=?_))
 rintro v H' ⟨la24,lc25,lg26,rfl,hrd27,rfl⟩
 refine C2 (ch:=[(48,true)]) (e:=9) (l:=[(0,.string (ByteArray.mk #[97])),(1,.string (ByteArray.mk #[98]))]) (c:=[.string (ByteArray.mk #[97]),.string (ByteArray.mk #[98])]) (k:=(fun b28=>?_))
 refine J9 (ch:=[(48,true)]) (f:=14) (fst:=#[]) (caps:=#[]) (vs:=[.slice la24 fJ2.L.length lc25,.slice (some ⟨b28,0,none⟩) 2 2]) (v:=.bool (decide (fJ2.L=[(ByteArray.mk #[97]),(ByteArray.mk #[98])]))) (hf:=Tryz.func14) (hc:=(fun hc=>same_ la24 lc25 fJ2.L (inG lg26) hrd27 (by decide) (some ⟨b28,0,none⟩) 2 ([(ByteArray.mk #[97]),(ByteArray.mk #[98])]) (inG [(b28,.cells #[.string (ByteArray.mk #[97]),.string (ByteArray.mk #[98])] 9 (0,0))]) Rd.lit (by decide) _ _ (C9 1 rfl) (C9 0 rfl))) (k:=GL_env (E':=[⟨52,[(48,true)],.bool true⟩,⟨51,[(48,true)],.slice (some ⟨b28,0,none⟩) 2 2⟩,⟨50,[(48,true)],.slice la24 fJ2.L.length lc25⟩,⟨49,[(48,true)],pt jb19⟩,⟨48,[],.bool true⟩,⟨47,[],.bool true⟩,⟨46,[],.int .i64 0⟩,⟨4,[],pt jb19⟩,⟨5,[],.int .i64 0⟩,⟨7,[],.int .i64 1⟩]) (by have hz:([⟨52,[(48,true)],.bool (decide (fJ2.L=[(ByteArray.mk #[97]),(ByteArray.mk #[98])]))⟩,⟨51,[(48,true)],.slice (some ⟨b28,0,none⟩) 2 2⟩,⟨50,[(48,true)],.slice la24 fJ2.L.length lc25⟩,⟨49,[(48,true)],pt jb19⟩,⟨48,[],.bool true⟩,⟨47,[],.bool true⟩,⟨46,[],.int .i64 0⟩,⟨4,[],pt jb19⟩,⟨5,[],.int .i64 0⟩,⟨7,[],.int .i64 1⟩]:List Sl)=[⟨52,[(48,true)],.bool true⟩,⟨51,[(48,true)],.slice (some ⟨b28,0,none⟩) 2 2⟩,⟨50,[(48,true)],.slice la24 fJ2.L.length lc25⟩,⟨49,[(48,true)],pt jb19⟩,⟨48,[],.bool true⟩,⟨47,[],.bool true⟩,⟨46,[],.int .i64 0⟩,⟨4,[],pt jb19⟩,⟨5,[],.int .i64 0⟩,⟨7,[],.int .i64 1⟩]:=(by rw [show decide (fJ2.L=[(ByteArray.mk #[97]),(ByteArray.mk #[98])])=true from by decide +kernel]); exact Eq.trans kr hz) ?_)
 refine A7 (j:=10) [2,0,0] (k:=I5 rfl (H':=((jAt jb19 d1 fJ2 ja20 jc21)::[(b28,.cells #[.string (ByteArray.mk #[97]),.string (ByteArray.mk #[98])] 9 (0,0))]::lg26::jr22::(jAt jb2 d1 fJ2 ja15 jc16)::jr17::(s10.G d1 gM2++H))) (fun w h=>(h.front (j:=2) rfl)) ?_)
 refine N1 (ch:=[(54,true)]) (f:=16) (fst:=#[]) (caps:=#[]) (vs:=[pt jb19]) (hf:=Tryz.func16) (hsure:=J0 kr) (hc:=jSize jb19 d1 (a:=ja20) (c:=jc21) _ _) (k:=?_)
 rintro v H' ⟨rfl,rfl⟩
 refine A7 (j:=15) [0,2,0,0] (k:=C2 (ch:=[(59,true)]) (e:=9) (l:=[(0,.string (ByteArray.mk #[99]))]) (c:=[.string (ByteArray.mk #[99])]) (k:=(fun b29=>?_)))
 refine I5 rfl (H':=((jAt jb19 d1 fJ2 ja20 jc21)::jr22::[(b29,.cells #[.string (ByteArray.mk #[99])] 9 (0,0))]::[(b28,.cells #[.string (ByteArray.mk #[97]),.string (ByteArray.mk #[98])] 9 (0,0))]::lg26::(jAt jb2 d1 fJ2 ja15 jc16)::jr17::(s10.G d1 gM2++H))) (fun w h=>((h.front (j:=4) rfl).front (j:=2) rfl)) (N1 (ch:=[(59,true)]) (f:=18) (fst:=#[]) (caps:=#[]) (vs:=[pt jb19,.slice (some ⟨b29,0,none⟩) 1 1]) (hf:=Tryz.func18) (hsure:=J0 kr) (hc:=jRep (ts:=[(ByteArray.mk #[99])]) hs10 g_r2 g_s2 (Nat.le_trans (Nat.le_of_eq zC) (by omega)) f_rep ([[(b29,.cells #[.string (ByteArray.mk #[99])] 9 (0,0))],[(b28,.cells #[.string (ByteArray.mk #[97]),.string (ByteArray.mk #[98])] 9 (0,0))],lg26,(jAt jb2 d1 fJ2 ja15 jc16),jr17]:List Grp) jb19 d1 ho23 (some ⟨b29,0,none⟩) 1 (inG [(b29,.cells #[.string (ByteArray.mk #[99])] 9 (0,0))]) Rd.lit (fun h=>by cases h) _ H (C9 1 rfl)) (k:=?_))
 rintro v H' ⟨ja30,jc31,jr32,s12,rfl,ho33,hs12,rfl⟩
 refine A7 (j:=21) [0,2,0,0] (k:=N1 (ch:=[(65,true)]) (f:=15) (fst:=#[]) (caps:=#[]) (vs:=[pt jb19]) (hf:=Tryz.func15) (hsure:=J0 kr) (hc:=jRecords g_s3 jb19 d1 ho33 _ _) (k:=?_))
 rintro v H' ⟨la34,lc35,lg36,rfl,hrd37,rfl⟩
 refine C2 (ch:=[(65,true)]) (e:=9) (l:=[(0,.string (ByteArray.mk #[99]))]) (c:=[.string (ByteArray.mk #[99])]) (k:=(fun b38=>?_))
 refine J9 (ch:=[(65,true)]) (f:=14) (fst:=#[]) (caps:=#[]) (vs:=[.slice la34 fJ3.L.length lc35,.slice (some ⟨b38,0,none⟩) 1 1]) (v:=.bool (decide (fJ3.L=[(ByteArray.mk #[99])]))) (hf:=Tryz.func14) (hc:=(fun hc=>same_ la34 lc35 fJ3.L (inG lg36) hrd37 (by decide) (some ⟨b38,0,none⟩) 1 ([(ByteArray.mk #[99])]) (inG [(b38,.cells #[.string (ByteArray.mk #[99])] 9 (0,0))]) Rd.lit (by decide) _ _ (C9 1 rfl) (C9 0 rfl))) (k:=GL_env (E':=[⟨69,[(65,true)],.bool true⟩,⟨68,[(65,true)],.slice (some ⟨b38,0,none⟩) 1 1⟩,⟨67,[(65,true)],.slice la34 fJ3.L.length lc35⟩,⟨66,[(65,true)],pt jb19⟩,⟨65,[],.bool true⟩,⟨64,[],.bool true⟩,⟨63,[(59,true)],.bool true⟩,⟨62,[(59,true)],.int .i64 0⟩,⟨61,[(59,true)],.slice (some ⟨b29,0,none⟩) 1 1⟩,⟨60,[(59,true)],pt jb19⟩,⟨59,[],.bool true⟩,⟨58,[],.bool true⟩,⟨57,[(54,true)],.bool true⟩,⟨56,[(54,true)],.int .i64 38⟩,⟨55,[(54,true)],pt jb19⟩,⟨54,[],.bool true⟩,⟨53,[],.bool true⟩,⟨52,[(48,true)],.bool true⟩,⟨51,[(48,true)],.slice (some ⟨b28,0,none⟩) 2 2⟩,⟨50,[(48,true)],.slice la24 fJ2.L.length lc25⟩,⟨49,[(48,true)],pt jb19⟩,⟨48,[],.bool true⟩,⟨47,[],.bool true⟩,⟨46,[],.int .i64 0⟩,⟨4,[],pt jb19⟩,⟨5,[],.int .i64 0⟩,⟨7,[],.int .i64 1⟩]) (by have hz:([⟨69,[(65,true)],.bool (decide (fJ3.L=[(ByteArray.mk #[99])]))⟩,⟨68,[(65,true)],.slice (some ⟨b38,0,none⟩) 1 1⟩,⟨67,[(65,true)],.slice la34 fJ3.L.length lc35⟩,⟨66,[(65,true)],pt jb19⟩,⟨65,[],.bool true⟩,⟨64,[],.bool true⟩,⟨63,[(59,true)],.bool true⟩,⟨62,[(59,true)],.int .i64 0⟩,⟨61,[(59,true)],.slice (some ⟨b29,0,none⟩) 1 1⟩,⟨60,[(59,true)],pt jb19⟩,⟨59,[],.bool true⟩,⟨58,[],.bool true⟩,⟨57,[(54,true)],.bool true⟩,⟨56,[(54,true)],.int .i64 38⟩,⟨55,[(54,true)],pt jb19⟩,⟨54,[],.bool true⟩,⟨53,[],.bool true⟩,⟨52,[(48,true)],.bool true⟩,⟨51,[(48,true)],.slice (some ⟨b28,0,none⟩) 2 2⟩,⟨50,[(48,true)],.slice la24 fJ2.L.length lc25⟩,⟨49,[(48,true)],pt jb19⟩,⟨48,[],.bool true⟩,⟨47,[],.bool true⟩,⟨46,[],.int .i64 0⟩,⟨4,[],pt jb19⟩,⟨5,[],.int .i64 0⟩,⟨7,[],.int .i64 1⟩]:List Sl)=[⟨69,[(65,true)],.bool true⟩,⟨68,[(65,true)],.slice (some ⟨b38,0,none⟩) 1 1⟩,⟨67,[(65,true)],.slice la34 fJ3.L.length lc35⟩,⟨66,[(65,true)],pt jb19⟩,⟨65,[],.bool true⟩,⟨64,[],.bool true⟩,⟨63,[(59,true)],.bool true⟩,⟨62,[(59,true)],.int .i64 0⟩,⟨61,[(59,true)],.slice (some ⟨b29,0,none⟩) 1 1⟩,⟨60,[(59,true)],pt jb19⟩,⟨59,[],.bool true⟩,⟨58,[],.bool true⟩,⟨57,[(54,true)],.bool true⟩,⟨56,[(54,true)],.int .i64 38⟩,⟨55,[(54,true)],pt jb19⟩,⟨54,[],.bool true⟩,⟨53,[],.bool true⟩,⟨52,[(48,true)],.bool true⟩,⟨51,[(48,true)],.slice (some ⟨b28,0,none⟩) 2 2⟩,⟨50,[(48,true)],.slice la24 fJ2.L.length lc25⟩,⟨49,[(48,true)],pt jb19⟩,⟨48,[],.bool true⟩,⟨47,[],.bool true⟩,⟨46,[],.int .i64 0⟩,⟨4,[],pt jb19⟩,⟨5,[],.int .i64 0⟩,⟨7,[],.int .i64 1⟩]:=(by rw [show decide (fJ3.L=[(ByteArray.mk #[99])])=true from by decide +kernel]); exact Eq.trans kr hz) ?_)
 refine D3 (E':=[⟨0,[],.bool true⟩]) [2,0,0,0,2,0] [0] (k:=A0 ?_)
 refine C3 (C1 [.tmp 0] [.bool true] (k:=?_))
 exact ⟨rfl,[[(b38,.cells #[.string (ByteArray.mk #[99])] 9 (0,0))],lg36,(jAt jb19 d1 fJ3 ja30 jc31),jr32,[(b29,.cells #[.string (ByteArray.mk #[99])] 9 (0,0))],[(b28,.cells #[.string (ByteArray.mk #[97]),.string (ByteArray.mk #[98])] 9 (0,0))],lg26,(jAt jb2 d1 fJ2 ja15 jc16),jr17]++s12.G d1 gM3,by simp⟩
end Go.Proofs.YtlaoeiaaeifidaaGreat
namespace Go.Jr
open Go.Sw Go.Lib Go.Vf Go.Sha Go.Proofs.YtlaoeiaaeifidaaGreat
theorem part_no47 {d:ByteArray} (h:H0 d=true):noB d 47 d.size:=fun j hj e=>by
  unfold H0 at h
  simp only [Bool.and_eq_true] at h
  have:=List.all_eq_true.1 h.1.1.1.1 j (List.mem_range.2 hj)
  rw [e] at this
  exact absurd this (by decide)
theorem part_size {d:ByteArray} (h:H0 d=true):d.size≤80:=by
  unfold H0 at h
  simp only [Bool.and_eq_true,decide_eq_true_eq] at h
  have:=h.1.1.2; omega
theorem no47_slash {d:ByteArray} (h:noB d 47 d.size):G5 d<0:=by
  rcases V1 d (c:=47) (by omega) (by omega) with ⟨k,hk,_,hb,_⟩ | ⟨he,_⟩
  · exact absurd hb (h k hk)
  · show bIdx d 47<0; omega
theorem good_part (d:ByteArray):(!A3 d||decide (G5 d ≥ 0))=!H0 d:=by
  rcases Int.lt_or_le (G5 d) 0 with h | h
  · unfold A3
    rw [if_pos h,show decide (G5 d ≥ 0)=false from decide_eq_false (by omega),Bool.or_false]
  · rw [show decide (G5 d ≥ 0)=true from decide_eq_true h,Bool.or_true]
    cases hp:H0 d with
    | false=>rfl
    | true=>exact absurd (no47_slash (part_no47 hp)) (by omega)
theorem lit_log (d:ByteArray):d++ByteArray.mk #[47,108,111,103]=B0 d logB:=ext_L (by
  unfold B0; rw [toL,toL,toL,List.append_assoc]; rfl)
end Go.Jr
namespace Go.Proofs.YtlaoeiaaeifidaaGreat
open Go.Sw Go.Lib Go.Vf Go.RowKit
theorem rAt (na:Option Addr) (nc:Nat) (S:Nat→Obj→Prop) (l:List Nm) (p:ByteArray) (hrd:Rd S na (nmC l)) (hl:l.length≤1000000) (W0:World) (H:List Grp) (hS:∀ y o,S y o→At W0 H y o):Tri Tryz.prog 67 #[.slice na l.length nc,.string p] W0 H (fun v H'=>v=.int .i64 (atR l p)∧H'=H):=by
 refine C8 (args:=[.slice na l.length nc,.string p]) (n:=20) Tryz.func67 rfl rfl (Nat.le_of_ble_eq_true rfl) ?_
 refine A1 (G_p [0] [0,1] (k:=?_))
 refine A0 (A1 ?_)
 refine A1 (G_p [0,0,0] [1,7,8,9] (k:=?_))
 refine A0 (C5 ?_)
 refine I8 (EI:=(fun ξ:Nat=>[⟨1,[],.string p⟩,⟨7,[],.slice na l.length nc⟩,⟨8,[],.int .i64 ((l.length:Nat):Int)⟩,⟨9,[],.int .i64 ((ξ:Nat):Int)⟩])) (HI:=(fun ξ:Nat=>H)) (Φ:=(fun ξ:Nat=>(ξ≤l.length)∧(E6 (l.take ξ) p=none))) (μ:=(fun ξ:Nat=>l.length - ξ)) (s0:=(0)) [1,7,8,9] kr rfl ⟨(by omega),rfl⟩ ?_
 rintro k ⟨hk,hno⟩
 replace hk:k≤l.length:=hk
 replace hno:E6 (l.take k) p=none:=hno
 refine A1 (G_p [0] [1,7,8,9,10] (k:=?_))
 refine A0 (A1 ?_)
 refine C6 (b:=decide (((k:Nat):Int)<((l.length:Nat):Int))) kr (fun hc1=>?_) (fun hc1=>?_)
 ·
  replace hc1:=of_decide_eq_true hc1
  refine B5 (A0 ?_)
  refine A1 (C5 ?_)
  refine A1 (A2 ?_)
  refine B7 (ch:=[]) (a:=na) (len:=l.length) (cap:=nc) (kd:=.i64) (j:=((k:Nat):Int)) (e:=133) (sz:=2) (S:=S) (cs:=(nmC l)) (hrd:=hrd) (hb:=(fun _=>by exact ⟨by omega,by omega,cells2_ne (i:=0) (by omega)⟩)) (k:=Q0 (ch:=[]) (a:=na) (q:=k * 2) (S:=S) (cs:=(nmC l)) (l:=[.string ((l.getD k default).1),.int .i64 ((l.getD k default).2)]) (hrd:=hrd) (hS:=(fun y o h=>(hS y o h))) (hl:=List.cons_ne_nil _ _) (hv:=(fun _=>(fun m hm=>(P5 (by omega) m hm).trans (List.getElem?_eq_getElem hm)))) (k:=?_))
  refine K5 (ch:=[]) (z:=.agg #[.string (ByteArray.mk #[]),.int .i64 0]) (k:=(fun b2=>?_))
  refine G4 (ch:=[]) (b:=b2) (off:=0) (v:=.agg #[.string ((l.getD k default).1),.int .i64 ((l.getD k default).2)]) (j:=0) ([(b2,.cells #[.string ((l.getD k default).1),.int .i64 ((l.getD k default).2)] 133 (0,0))]::H) (hoff:=Nat.le_of_ble_eq_true rfl) (hfz:=(fun _ _=>F0)) (k:=C4 [] [1,6,7,8,9] (k:=?_))
  refine A0 (A1 ?_)
  refine A2 (A7 (j:=1) [0] (k:=?_))
  refine A5 (ch:=[]) (b:=b2) (off:=0) (v:=.string ((l.getD k default).1)) (hA:=At.grp 0 0 rfl rfl) (k:=C4 [0,0] [1,6,7,8,9,16] (k:=?_))
  refine A0 (C6 (b:=((l.getD k default).1).toList==p.toList) kr (fun hc3=>?_) (fun hc3=>?_))
  ·
   have he:=hc3
   refine A1 (A2 ?_)
   refine A7 (j:=1) [0] (k:=A5 (ch:=[]) (b:=b2) (off:=1) (v:=.int .i64 ((l.getD k default).2)) (hA:=At.grp 0 0 rfl rfl) (k:=?_))
   refine C4 [0] [4] (k:=A0 ?_)
   refine C3 (F8 ?_)
   refine B3 (B3 ?_)
   refine F8 (B3 ?_)
   refine E0 (H':=H) (fun w h=>h.erase 0) (C1 [.tmp 4] [.int .i64 ((l.getD k default).2)] (k:=?_))
   exact ⟨by rw [at_hit (by omega) hno he]; rfl,rfl⟩
  ·
   have he:=hc3
   refine B5 (D5 ?_)
   refine A0 (A2 ?_)
   refine A7 (j:=1) [0] (k:=F2 19 (((k:Nat):Int)+1) (by omega) (by omega) kr ?_)
   refine C4 [0] [1,7,8,9] (k:=E0 (H':=H) (fun w h=>(h.erase 0)) ?_)
   refine E5 (s':=(k+1)) [1,7,8,9] kr rfl ⟨(by omega),(at_miss (by omega) hno he)⟩ (by omega)
 ·
  replace hc1:=of_decide_eq_false hc1
  refine G6 (A8 ?_)
  refine A8 (C7 ?_)
  refine A0 (A1 ?_)
  refine B4 (E':=[⟨4,[],.int .i64 (-1)⟩]) [0] [4] (k:=A0 ?_)
  refine C3 (C1 [.tmp 4] [.int .i64 (-1)] (k:=?_))
  exact ⟨by rw [at_none (by rw [List.take_of_length_le (by omega)] at hno; exact hno)]; rfl,rfl⟩
theorem rAtN (na:Option Addr) (nc:Nat) (S:Nat→Obj→Prop) (l:List Nm) (p:ByteArray) (hrd:Rd S na (nmC l)) (hl:l.length≤1000000) (W0:World) (H:List Grp) (hS:∀ y o,S y o→At W0 H y o) (n:Nat) (hn:n=l.length):Tri Tryz.prog 67 #[.slice na n nc,.string p] W0 H (fun v H'=>v=.int .i64 (atR l p)∧H'=H):=by
  subst hn; exact rAt na nc S l p hrd hl W0 H hS
theorem rWith (na:Option Addr) (nc:Nat) (S:Nat→Obj→Prop) (l:List Nm) (x:Nm) (hrd:Rd S na (nmC l)) (hl:l.length≤1000000) (W0:World) (H:List Grp) (hS:∀ y o,S y o→At W0 H y o):Tri Tryz.prog 95 #[.slice na l.length nc,.agg #[.string x.1,.int .i64 x.2]] W0 H (fun v H'=>∃ g,Go.Sw.Own 133 2 v g (N2 l x).length (nmC (N2 l x))∧H'=g::H):=by
 refine C8 (args:=[.slice na l.length nc,.agg #[.string x.1,.int .i64 x.2]]) (n:=32) Tryz.func95 rfl rfl (Nat.le_of_ble_eq_true rfl) ?_
 refine A1 (A2 ?_)
 refine R3 (ch:=[]) (v:=.agg #[.string x.1,.int .i64 x.2]) (k:=(fun b1=>?_))
 refine C4 [0] [0,3] (k:=A0 ?_)
 refine A1 (G_p [0] [0,3,5] (k:=?_))
 refine A0 (A1 ?_)
 refine A1 (G_p [0,0,0] [3,5,8,9,10] (k:=?_))
 refine A0 (C5 ?_)
 refine R8 (H':=([]::[(b1,.cells #[.string x.1,.int .i64 x.2] 133 (0,0))]::H)) (fun w h=>T7 (A:=[]) h) (I8 (EI:=(fun ξ:Nat × Value × Grp=>[⟨3,[],pt b1⟩,⟨5,[],ξ.2.1⟩,⟨8,[],.slice na l.length nc⟩,⟨9,[],.int .i64 ((l.length:Nat):Int)⟩,⟨10,[],.int .i64 ((ξ.1:Nat):Int)⟩])) (HI:=(fun ξ:Nat × Value × Grp=>(ξ.2.2::[(b1,.cells #[.string x.1,.int .i64 x.2] 133 (0,0))]::H))) (Φ:=(fun ξ:Nat × Value × Grp=>(ξ.1≤l.length)∧(Go.Sw.Own 133 2 ξ.2.1 ξ.2.2 (outN l x ξ.1).length (nmC (outN l x ξ.1))))) (μ:=(fun ξ:Nat × Value × Grp=>l.length - ξ.1)) (s0:=(0,.slice none 0 0,[])) [3,5,8,9,10] kr rfl ⟨(by omega),Go.Sw.Own.nil⟩ ?_)
 rintro ⟨k,vn,gn⟩ ⟨hk,hO⟩
 replace hk:k≤l.length:=hk
 replace hO:Go.Sw.Own 133 2 vn gn (outN l x k).length (nmC (outN l x k)):=hO
 have hol:=outN_len l x k
 refine A1 (G_p [0] [3,5,8,9,10,11] (k:=?_))
 refine A0 (A1 ?_)
 refine C6 (b:=decide (((k:Nat):Int)<((l.length:Nat):Int))) kr (fun hc2=>?_) (fun hc2=>?_)
 ·
  replace hc2:=of_decide_eq_true hc2
  refine B5 (A0 ?_)
  refine A1 (C5 ?_)
  refine A1 (A2 ?_)
  refine B7 (ch:=[]) (a:=na) (len:=l.length) (cap:=nc) (kd:=.i64) (j:=((k:Nat):Int)) (e:=133) (sz:=2) (S:=S) (cs:=(nmC l)) (hrd:=hrd) (hb:=(fun _=>by exact ⟨by omega,by omega,cells2_ne (i:=0) (by omega)⟩)) (k:=Q0 (ch:=[]) (a:=na) (q:=k * 2) (S:=S) (cs:=(nmC l)) (l:=[.string ((l.getD k default).1),.int .i64 ((l.getD k default).2)]) (hrd:=hrd) (hS:=(fun y o h=>(At.cons (At.cons (hS y o h))))) (hl:=List.cons_ne_nil _ _) (hv:=(fun _=>(fun m hm=>(P5 (by omega) m hm).trans (List.getElem?_eq_getElem hm)))) (k:=?_))
  refine K5 (ch:=[]) (z:=.agg #[.string (ByteArray.mk #[]),.int .i64 0]) (k:=(fun b3=>?_))
  refine G4 (ch:=[]) (b:=b3) (off:=0) (v:=.agg #[.string ((l.getD k default).1),.int .i64 ((l.getD k default).2)]) (j:=0) ([(b3,.cells #[.string ((l.getD k default).1),.int .i64 ((l.getD k default).2)] 133 (0,0))]::gn::[(b1,.cells #[.string x.1,.int .i64 x.2] 133 (0,0))]::H) (hoff:=Nat.le_of_ble_eq_true rfl) (hfz:=(fun _ _=>F0)) (k:=C4 [] [3,5,7,8,9,10] (k:=?_))
  refine A0 (A1 ?_)
  refine A2 (A7 (j:=1) [0] (k:=?_))
  refine A5 (ch:=[]) (b:=b3) (off:=0) (v:=.string ((l.getD k default).1)) (hA:=At.grp 0 0 rfl rfl) (k:=A7 (j:=3) [0] (k:=?_))
  refine A5 (ch:=[]) (b:=b1) (off:=0) (v:=.string x.1) (hA:=At.grp 2 0 rfl rfl) (k:=C4 [0] [3,5,7,8,9,10,18] (k:=?_))
  refine A0 (C6 (b:=!(((l.getD k default).1).toList==x.1.toList)) kr (fun hc4=>?_) (fun hc4=>?_))
  ·
   have he:=hc4
   refine A2 (A7 (j:=1) [0] (k:=?_))
   refine P8 (ch:=[]) (b:=b3) (off:=0) (l:=[.string ((l.getD k default).1),.int .i64 ((l.getD k default).2)]) (hA:=At.grp 0 0 rfl rfl) (k:=C2 (ch:=[]) (e:=133) (l:=[(0,.agg #[.string ((l.getD k default).1),.int .i64 ((l.getD k default).2)])]) (c:=[.string ((l.getD k default).1),.int .i64 ((l.getD k default).2)]) (k:=(fun b5=>?_)))
   refine E9 (i:=3) (ch:=[]) (t:=103) (tx:=103) (e:=133) (inf:=Tryz.t133) (s:=vn) (x:=.slice (some ⟨b5,0,none⟩) 1 1) (n:=(outN l x k).length) (m:=1) (j:=2) (cs:=(nmC (outN l x k))) (news:=[.string ((l.getD k default).1),.int .i64 ((l.getD k default).2)]) (g:=gn) (S:=(inG [(b5,.cells #[.string ((l.getD k default).1),.int .i64 ((l.getD k default).2)] 133 (0,0))])) rfl rfl rfl rfl kr kr kr rfl rfl (.inl ⟨133,kr⟩) (fun ⟨_,h⟩=>by cases h) (fun _=>⟨133,kr⟩) kr kr kr rfl hO (SrcOf.slice _ _ _ _ Rd.lit (fun h=>by cases h)) (C9 0 rfl) kr (by intro u hu; simp only [List.mem_cons,List.not_mem_nil,or_false] at hu; rcases hu with rfl | rfl <;> rfl) (by omega) (by show ((outN l x k).length+1) * 24≤140737488355328; omega) (fun v6 g7 hO8=>C4 [0] [3,5,8,9,10] (k:=?_))
   refine D5 (A0 ?_)
   refine A2 (A7 (j:=1) [0] (k:=?_))
   refine F2 23 (((k:Nat):Int)+1) (by omega) (by omega) kr (C4 [0] [3,5,8,9,10] (k:=?_))
   refine E0 (H':=(g7::[(b1,.cells #[.string x.1,.int .i64 x.2] 133 (0,0))]::H)) (fun w h=>((h.erase 1).erase 0)) (E5 (s':=(k+1,v6,g7)) [3,5,8,9,10] kr rfl ⟨(by omega),(own_put (by omega) he hO8)⟩ (by omega))
  ·
   have he:=hc4
   refine B5 (D5 ?_)
   refine A0 (A2 ?_)
   refine A7 (j:=1) [0] (k:=F2 23 (((k:Nat):Int)+1) (by omega) (by omega) kr ?_)
   refine C4 [0] [3,5,8,9,10] (k:=E0 (H':=(gn::[(b1,.cells #[.string x.1,.int .i64 x.2] 133 (0,0))]::H)) (fun w h=>(h.erase 0)) ?_)
   refine E5 (s':=(k+1,vn,gn)) [3,5,8,9,10] kr rfl ⟨(by omega),(own_skip (by omega) he hO)⟩ (by omega)
 ·
  replace hc2:=of_decide_eq_false hc2
  refine G6 (A8 ?_)
  refine A8 (C7 ?_)
  refine A0 (A1 ?_)
  refine A1 (A2 ?_)
  refine A7 (j:=1) [0] (k:=A5 (ch:=[]) (b:=b1) (off:=1) (v:=.int .i64 x.2) (hA:=At.grp 1 0 rfl rfl) (k:=?_))
  refine C4 [0] [3,5,26] (k:=A0 ?_)
  refine C6 (b:=decide (x.2 ≥ 0)) kr (fun hc11=>?_) (fun hc11=>?_)
  ·
   have hx:=of_decide_eq_true hc11
   refine A2 (A7 (j:=1) [0] (k:=?_))
   refine P8 (ch:=[]) (b:=b1) (off:=0) (l:=[.string x.1,.int .i64 x.2]) (hA:=At.grp 1 0 rfl rfl) (k:=C2 (ch:=[]) (e:=133) (l:=[(0,.agg #[.string x.1,.int .i64 x.2])]) (c:=[.string x.1,.int .i64 x.2]) (k:=(fun b12=>?_)))
   refine E9 (i:=3) (ch:=[]) (t:=103) (tx:=103) (e:=133) (inf:=Tryz.t133) (s:=vn) (x:=.slice (some ⟨b12,0,none⟩) 1 1) (n:=(outN l x k).length) (m:=1) (j:=1) (cs:=(nmC (outN l x k))) (news:=[.string x.1,.int .i64 x.2]) (g:=gn) (S:=(inG [(b12,.cells #[.string x.1,.int .i64 x.2] 133 (0,0))])) rfl rfl rfl rfl kr kr kr rfl rfl (.inl ⟨133,kr⟩) (fun ⟨_,h⟩=>by cases h) (fun _=>⟨133,kr⟩) kr kr kr rfl hO (SrcOf.slice _ _ _ _ Rd.lit (fun h=>by cases h)) (C9 0 rfl) kr (by intro u hu; simp only [List.mem_cons,List.not_mem_nil,or_false] at hu; rcases hu with rfl | rfl <;> rfl) (by omega) (by show ((outN l x k).length+1) * 24≤140737488355328; omega) (fun v13 g14 hO15=>D3 (E':=[⟨5,[],v13⟩]) [0] [5] (k:=?_))
   refine A0 (A1 ?_)
   refine B4 (E':=[⟨4,[],v13⟩]) [0,0] [4] (k:=A0 ?_)
   refine C3 (E0 (H':=(g14::H)) (fun w h=>((h.erase 2).erase 0)) ?_)
   refine C1 [.tmp 4] [v13] (k:=?_)
   exact ⟨_,own_with1 (by omega) hx hO15,rfl⟩
  ·
   have hx:=of_decide_eq_false hc11
   refine B5 (A0 ?_)
   refine A1 (B4 (E':=[⟨4,[],vn⟩]) [0,0] [4] (k:=?_))
   refine A0 (C3 ?_)
   refine E0 (H':=(gn::H)) (fun w h=>(h.erase 1)) (C1 [.tmp 4] [vn] (k:=?_))
   exact ⟨_,own_with0 (by omega) hx hO,rfl⟩
end Go.Proofs.YtlaoeiaaeifidaaGreat
namespace Go.Proofs.YtlaoeiaaeifidaaGreat
open Go.Sw Go.Lib Go.Vf Go.RowKit
theorem rCall (x:Nat) (room calls:Int) (v1 v2 v3 v4:Value) (fails once right:Bool) (hc:-9223372036854775808≤calls∧calls≤9223372036854775807) (W0:World) (H:List Grp):Tri Tryz.prog 65 #[pt x,.bool right] W0 ([(x,.cells #[.int .i64 room,v1,v2,v3,v4,.bool fails,.bool once,.int .i64 calls] 106 (0,0))]::H) (fun v H'=>v=.int .i64 (B6 fails once calls right).1∧H'=([(x,.cells #[.int .i64 room,v1,v2,v3,v4,.bool ((B6 fails once calls right).2.1),.bool once,.int .i64 ((B6 fails once calls right).2.2)] 106 (0,0))]::H)):=by
 refine C8 (args:=[pt x,.bool right]) (n:=31) Tryz.func65 rfl rfl (Nat.le_of_ble_eq_true rfl) ?_
 refine A1 (B4 (E':=[⟨0,[],pt x⟩,⟨1,[],.bool right⟩]) [0] [0,1] (k:=?_))
 refine A0 (A1 ?_)
 refine A1 (B4 (E':=[⟨0,[],pt x⟩,⟨6,[],.bool (!right)⟩]) [0,0] [0,6] (k:=?_))
 refine A0 (C6 (b:=!right) kr (fun hc1=>?_) (fun hc1=>?_))
 ·
  have hr:=hc1
  refine A1 (B4 (E':=[⟨4,[],.int .i64 2⟩]) [0] [4] (k:=?_))
  refine A0 (C3 ?_)
  refine B3 (C1 [.tmp 4] [.int .i64 2] (k:=?_))
  rw [callS_arg (by simpa using hr)]
  exact ⟨rfl,rfl⟩
 ·
  have hr:=hc1
  refine B5 (A0 ?_)
  refine A1 (A1 ?_)
  refine A2 (A7 (j:=3) [0,0,0] (k:=?_))
  refine A5 (ch:=[]) (b:=x) (off:=5) (v:=.bool fails) (hA:=At.grp 0 0 rfl rfl) (k:=C4 [0] [0,11] (k:=?_))
  refine A0 (C6 (b:=!fails) kr (fun hc2=>?_) (fun hc2=>?_))
  ·
   have hf:=hc2
   refine A1 (B4 (E':=[⟨4,[],.int .i64 0⟩]) [0] [4] (k:=?_))
   refine A0 (C3 ?_)
   refine B3 (C1 [.tmp 4] [.int .i64 0] (k:=?_))
   rw [callS_ok (by simpa using hr) (by simpa using hf)]
   exact ⟨rfl,rfl⟩
  ·
   have hf:=hc2
   refine B5 (A0 ?_)
   refine A1 (A1 ?_)
   refine A2 (A7 (j:=3) [0,0,0] (k:=?_))
   refine A5 (ch:=[]) (b:=x) (off:=7) (v:=.int .i64 calls) (hA:=At.grp 0 0 rfl rfl) (k:=C4 [0] [0,16] (k:=?_))
   refine A0 (C6 (b:=decide (calls > 0)) kr (fun hc3=>?_) (fun hc3=>?_))
   ·
    have hp:=of_decide_eq_true hc3
    replace hc3:=hp
    refine A1 (A2 ?_)
    refine A7 (j:=3) [0,0,0] (k:=A5 (ch:=[]) (b:=x) (off:=7) (v:=.int .i64 calls) (hA:=At.grp 0 0 rfl rfl) (k:=?_))
    refine A7 (j:=5) [0] (k:=F2 21 (calls - 1) (by omega) (by omega) kr ?_)
    refine A7 (j:=7) [0,0] (k:=G4 (ch:=[]) (b:=x) (off:=7) (v:=.int .i64 (calls - 1)) (j:=0) ([(x,.cells #[.int .i64 room,v1,v2,v3,v4,.bool fails,.bool once,.int .i64 (calls - 1)] 106 (0,0))]::H) (hoff:=Nat.le_of_ble_eq_true rfl) (hfz:=(fun _ _=>F0)) (k:=?_))
    refine D3 (E':=[]) [] [] (k:=A0 ?_)
    refine A1 (B4 (E':=[⟨4,[],.int .i64 0⟩]) [0] [4] (k:=?_))
    refine A0 (C3 ?_)
    refine B3 (C1 [.tmp 4] [.int .i64 0] (k:=?_))
    rw [callS_dec (by simpa using hr) (by simpa using hf) (decide_eq_true hp)]
    exact ⟨rfl,rfl⟩
   ·
    have hp:=of_decide_eq_false hc3
    replace hc3:=hp
    refine B5 (A0 ?_)
    refine A1 (A1 ?_)
    refine A2 (A7 (j:=3) [0,0,0] (k:=?_))
    refine A5 (ch:=[]) (b:=x) (off:=6) (v:=.bool once) (hA:=At.grp 0 0 rfl rfl) (k:=D3 (E':=[⟨0,[],pt x⟩,⟨27,[],.bool once⟩]) [] [0,27] (k:=?_))
    refine A0 (C6 (b:=once) kr (fun hc5=>?_) (fun hc5=>?_))
    ·
     have ho:=hc5
     refine A2 (A7 (j:=3) [0,0,0] (k:=?_))
     refine G4 (ch:=[]) (b:=x) (off:=5) (v:=.bool false) (j:=0) ([(x,.cells #[.int .i64 room,v1,v2,v3,v4,.bool false,.bool once,.int .i64 calls] 106 (0,0))]::H) (hoff:=Nat.le_of_ble_eq_true rfl) (hfz:=(fun _ _=>F0)) (k:=D3 (E':=[]) [] [] (k:=?_))
     refine A0 (A1 ?_)
     refine B4 (E':=[⟨4,[],.int .i64 62⟩]) [0] [4] (k:=A0 ?_)
     refine C3 (C1 [.tmp 4] [.int .i64 62] (k:=?_))
     obtain rfl:once=true:=ho
     rw [callS_no (by simpa using hr) (by simpa using hf) (decide_eq_false hp)]
     exact ⟨rfl,rfl⟩
    ·
     have ho:=hc5
     refine B5 (A0 ?_)
     refine A1 (B4 (E':=[⟨4,[],.int .i64 62⟩]) [0] [4] (k:=?_))
     refine A0 (C3 ?_)
     refine C1 [.tmp 4] [.int .i64 62] (k:=?_)
     obtain rfl:once=false:=ho
     obtain rfl:fails=true:=by simpa using hf
     rw [callS_no (by simpa using hr) (by simp) (decide_eq_false hp)]
     exact ⟨rfl,rfl⟩
theorem rUsed (x:Nat) (s:RS) (M:DM) (h:s.ok M) (hm:V3 M) (W0:World) (H:List Grp):Tri Tryz.prog 68 #[pt x] W0 ([(x,.cells #[.int .i64 M.room,.slice s.ba s.bn s.bc,.slice s.na s.nn s.nc,.slice s.ka s.kn s.kc,.slice s.ca s.cn s.cc,.bool M.fails,.bool M.once,.int .i64 M.calls] 106 (0,0))]::s.bg::s.cg::(s.Z++H)) (fun v H'=>v=.int .i64 ((N9 M:Nat):Int)∧H'=s.G x M++H):=by
 have hnn:=h.nn
 have hbn:=h.bn
 have hkn:=h.kn
 have hcn:=h.cn
 have hch:=h.chs.len
 have hus:=A0m hm.small fun x hx=>(h.well.names x hx).2
 have hsn:=hm.small.names
 have hsb:=hm.small.bodies
 have hsc:=hm.small.changes
 have hskn:M.kept.length≤10000:=Nat.le_trans (Nat.le_add_right _ _) hm.kept
 have hsca:=hm.small.calls
 refine C8 (args:=[pt x]) (n:=29) Tryz.func68 rfl rfl (Nat.le_of_ble_eq_true rfl) ?_
 refine A1 (B4 (E':=[⟨0,[],pt x⟩]) [0] [0] (k:=?_))
 refine A0 (A1 ?_)
 refine B4 (E':=[⟨0,[],pt x⟩,⟨3,[],.int .i64 0⟩]) [0] [0,3] (k:=A0 ?_)
 refine A1 (A1 ?_)
 refine A2 (A7 (j:=3) [0,0,0] (k:=?_))
 refine A5 (ch:=[]) (b:=x) (off:=2) (v:=.slice s.na s.nn s.nc) (hA:=At.grp 0 0 rfl rfl) (k:=C4 [0,0] [0,3,9,10,11] (k:=?_))
 refine A0 (C5 ?_)
 refine I8 (EI:=(fun ξ:Nat=>[⟨0,[],pt x⟩,⟨3,[],.int .i64 ((usedK M ξ:Nat):Int)⟩,⟨9,[],.slice s.na s.nn s.nc⟩,⟨10,[],.int .i64 ((s.nn:Nat):Int)⟩,⟨11,[],.int .i64 ((ξ:Nat):Int)⟩])) (HI:=(fun ξ:Nat=>([(x,.cells #[.int .i64 M.room,.slice s.ba s.bn s.bc,.slice s.na s.nn s.nc,.slice s.ka s.kn s.kc,.slice s.ca s.cn s.cc,.bool M.fails,.bool M.once,.int .i64 M.calls] 106 (0,0))]::s.bg::s.cg::(s.Z++H)))) (Φ:=(fun ξ:Nat=>(ξ≤M.names.length))) (μ:=(fun ξ:Nat=>M.names.length - ξ)) (s0:=(0)) [0,3,9,10,11] kr rfl (by omega) ?_
 rintro k hk
 replace hk:k≤M.names.length:=hk
 refine A1 (G_p [0] [0,3,9,10,11,12] (k:=?_))
 refine A0 (A1 ?_)
 refine C6 (b:=decide (((k:Nat):Int)<((s.nn:Nat):Int))) kr (fun hc1=>?_) (fun hc1=>?_)
 ·
  replace hc1:=of_decide_eq_true hc1
  have hks:=usedK_succ (M:=M) (k:=k) (by omega)
  have hkl:=usedK_le M (k+1)
  obtain ⟨hi0,hi1⟩:=h.well.names _ (P3 (l:=M.names) (i:=k) (by omega))
  have hsz:Z7 M (M.names.getD k default).2=(M.bodies.getD (Int.toNat (M.names.getD k default).2) default).now.size:=rfl
  rw [hsz] at hks
  refine B5 (A0 ?_)
  refine A1 (C5 ?_)
  refine A1 (A2 ?_)
  refine B7 (ch:=[]) (a:=s.na) (len:=s.nn) (cap:=s.nc) (kd:=.i64) (j:=((k:Nat):Int)) (e:=133) (sz:=2) (S:=(inZ s.Z)) (cs:=(nmC M.names)) (hrd:=h.names) (hb:=(fun _=>by exact ⟨by omega,by omega,nmC_ne (i:=k) (by omega)⟩)) (k:=Q0 (ch:=[]) (a:=s.na) (q:=k * 2) (S:=(inZ s.Z)) (cs:=(nmC M.names)) (l:=[.string ((M.names.getD k default).1),.int .i64 ((M.names.getD k default).2)]) (hrd:=h.names) (hS:=(fun y o h=>(At.cons (At.cons (At.cons (at_inZ h)))))) (hl:=List.cons_ne_nil _ _) (hv:=(fun _=>(fun m hm=>(P5 (by omega) m hm).trans (List.getElem?_eq_getElem hm)))) (k:=?_))
  refine K5 (ch:=[]) (z:=.agg #[.string (ByteArray.mk #[]),.int .i64 0]) (k:=(fun b2=>?_))
  refine G4 (ch:=[]) (b:=b2) (off:=0) (v:=.agg #[.string ((M.names.getD k default).1),.int .i64 ((M.names.getD k default).2)]) (j:=0) ([(b2,.cells #[.string ((M.names.getD k default).1),.int .i64 ((M.names.getD k default).2)] 133 (0,0))]::[(x,.cells #[.int .i64 M.room,.slice s.ba s.bn s.bc,.slice s.na s.nn s.nc,.slice s.ka s.kn s.kc,.slice s.ca s.cn s.cc,.bool M.fails,.bool M.once,.int .i64 M.calls] 106 (0,0))]::s.bg::s.cg::(s.Z++H)) (hoff:=Nat.le_of_ble_eq_true rfl) (hfz:=(fun _ _=>F0)) (k:=C4 [] [0,3,5,9,10,11] (k:=?_))
  refine A0 (K4 (k:=?_))
  refine A7 (j:=4) [0,0,0,0] (k:=A5 (ch:=[]) (b:=x) (off:=1) (v:=.slice s.ba s.bn s.bc) (hA:=At.grp 1 0 rfl rfl) (k:=?_))
  refine A7 (j:=6) [0] (k:=A5 (ch:=[]) (b:=b2) (off:=1) (v:=.int .i64 ((M.names.getD k default).2)) (hA:=At.grp 0 0 rfl rfl) (k:=?_))
  refine B7 (ch:=[]) (a:=s.ba) (len:=s.bn) (cap:=s.bc) (kd:=.i64) (j:=(M.names.getD k default).2) (e:=113) (sz:=2) (S:=(inG s.bg)) (cs:=(bdC M.bodies)) (hrd:=D6 h.own) (hb:=(fun _=>by exact ⟨by omega,by omega,bdC_ne hi1⟩)) (k:=A7 (j:=9) [0] (k:=?_))
  refine D4 (ch:=[]) (a:=s.ba) (q:=(Int.toNat ((M.names.getD k default).2)) * 2) (S:=(inG s.bg)) (cs:=(bdC M.bodies)) (v:=.string ((M.bodies.getD (Int.toNat ((M.names.getD k default).2)) default).now)) (hrd:=D6 h.own) (hS:=C9 2 rfl) (hv:=(fun _=>(A0y (by omega)))) (k:=A7 (j:=12) [0,0] (k:=?_))
  refine F2 26 (((usedK M k:Nat):Int)+(((M.bodies.getD (Int.toNat ((M.names.getD k default).2)) default).now).size:Int)) (by omega) (by omega) kr (C4 [0] [0,3,9,10,11] (k:=?_))
  refine D5 (A0 ?_)
  refine A2 (A7 (j:=1) [0] (k:=?_))
  refine F2 27 (((k:Nat):Int)+1) (by omega) (by omega) kr (C4 [0] [0,3,9,10,11] (k:=?_))
  refine H8 (E':=[⟨0,[],pt x⟩,⟨3,[],.int .i64 (((usedK M k:Nat):Int)+(((M.bodies.getD (Int.toNat ((M.names.getD k default).2)) default).now).size:Int))⟩,⟨9,[],.slice s.na s.nn s.nc⟩,⟨10,[],.int .i64 ((s.nn:Nat):Int)⟩,⟨11,[],.int .i64 (((k:Nat):Int)+1)⟩]) kr (H8 (E':=[⟨0,[],pt x⟩,⟨3,[],.int .i64 ((usedK M (k+1):Nat):Int)⟩,⟨9,[],.slice s.na s.nn s.nc⟩,⟨10,[],.int .i64 ((s.nn:Nat):Int)⟩,⟨11,[],.int .i64 (((k:Nat):Int)+1)⟩]) (by rw [hks]; rfl) ?_)
  refine E0 (H':=([(x,.cells #[.int .i64 M.room,.slice s.ba s.bn s.bc,.slice s.na s.nn s.nc,.slice s.ka s.kn s.kc,.slice s.ca s.cn s.cc,.bool M.fails,.bool M.once,.int .i64 M.calls] 106 (0,0))]::s.bg::s.cg::(s.Z++H))) (fun w h=>(h.erase 0)) (E5 (s':=(k+1)) [0,3,9,10,11] kr rfl (by omega) (by omega))
 ·
  replace hc1:=of_decide_eq_false hc1
  refine G6 (A8 ?_)
  refine A8 (C7 ?_)
  refine A0 (A1 ?_)
  refine G_p [0,0] [2] (k:=A0 ?_)
  refine C3 (C1 [.tmp 2] [.int .i64 ((usedK M k:Nat):Int)] (k:=?_))
  exact ⟨by rw [usedK_all (M:=M) (k:=k) (by omega)]; rfl,rfl⟩
end Go.Proofs.YtlaoeiaaeifidaaGreat
namespace Go.Proofs.YtlaoeiaaeifidaaGreat
open Go.Sw Go.Lib Go.Vf Go.RowKit
theorem rChange (x:Nat) (s:RS) (M:DM) (h:s.ok M) (hsn:M.names.length≤10000) (hsc:M.changes.length≤1000000) (dir:ByteArray) (l:List Nm) (la:Option Addr) (lc:Nat) (hl:Rd (inZ s.Z) la (nmC l)) (hll:l.length≤2) (hix:∀ y∈l,0≤y.2→y.2.toNat<M.bodies.length) (W0:World) (H:List Grp):Tri Tryz.prog 89 #[pt x,.string dir,.slice la l.length lc] W0 ([(x,.cells #[.int .i64 M.room,.slice s.ba s.bn s.bc,.slice s.na s.nn s.nc,.slice s.ka s.kn s.kc,.slice s.ca s.cn s.cc,.bool M.fails,.bool M.once,.int .i64 M.calls] 106 (0,0))]::s.bg::s.cg::(s.Z++H)) (IsR x (O2 M dir l) (.tuple #[]) H):=by
 have hnn:=h.nn
 have hbn:=h.bn
 have hcn:=h.cn
 have hch:=h.chs.len
 refine C8 (args:=[pt x,.string dir,.slice la l.length lc]) (n:=36) Tryz.func89 rfl rfl (Nat.le_of_ble_eq_true rfl) ?_
 refine A1 (A1 ?_)
 refine G_p [0,0,0] [0,1,2,8,9,10] (k:=A0 ?_)
 refine C5 (I8 (EI:=(fun ξ:Nat × List Nm × Option Addr × Nat × List Grp=>[⟨0,[],pt x⟩,⟨1,[],.string dir⟩,⟨2,[],.slice la l.length lc⟩,⟨8,[],.slice la l.length lc⟩,⟨9,[],.int .i64 ((l.length:Nat):Int)⟩,⟨10,[],.int .i64 ((ξ.1:Nat):Int)⟩])) (HI:=(fun ξ:Nat × List Nm × Option Addr × Nat × List Grp=>([(x,.cells #[.int .i64 M.room,.slice s.ba s.bn s.bc,.slice ξ.2.2.1 ξ.2.1.length ξ.2.2.2.1,.slice s.ka s.kn s.kc,.slice s.ca s.cn s.cc,.bool M.fails,.bool M.once,.int .i64 M.calls] 106 (0,0))]::s.bg::s.cg::(ξ.2.2.2.2++H)))) (Φ:=(fun ξ:Nat × List Nm × Option Addr × Nat × List Grp=>(ξ.1≤l.length)∧(ξ.2.1=J6 M.names (l.take ξ.1))∧(Rd (inZ ξ.2.2.2.2) ξ.2.2.1 (nmC ξ.2.1))∧(∀ y o,inZ s.Z y o→inZ ξ.2.2.2.2 y o)∧(ξ.2.1.length≤10000+ξ.1))) (μ:=(fun ξ:Nat × List Nm × Option Addr × Nat × List Grp=>l.length - ξ.1)) (s0:=(0,M.names,s.na,s.nc,s.Z)) [0,1,2,8,9,10] kr (by rw [hnn]) ⟨(by omega),rfl,h.names,(fun _ _ h=>h),(by omega)⟩ ?_)
 rintro ⟨k,nl,na2,nc2,Z2⟩ ⟨hk,hnl,hn2,hZ,hlen⟩
 replace hk:k≤l.length:=hk
 replace hnl:nl=J6 M.names (l.take k):=hnl
 replace hn2:Rd (inZ Z2) na2 (nmC nl):=hn2
 replace hZ:∀ y o,inZ s.Z y o→inZ Z2 y o:=hZ
 replace hlen:nl.length≤10000+k:=hlen
 refine A1 (G_p [0] [0,1,2,8,9,10,11] (k:=?_))
 refine A0 (A1 ?_)
 refine C6 (b:=decide (((k:Nat):Int)<((l.length:Nat):Int))) kr (fun hc1=>?_) (fun hc1=>?_)
 ·
  replace hc1:=of_decide_eq_true hc1
  refine B5 (A0 ?_)
  refine A1 (C5 ?_)
  refine A1 (A2 ?_)
  refine B7 (ch:=[]) (a:=la) (len:=l.length) (cap:=lc) (kd:=.i64) (j:=((k:Nat):Int)) (e:=133) (sz:=2) (S:=(inZ s.Z)) (cs:=(nmC l)) (hrd:=hl) (hb:=(fun _=>by exact ⟨by omega,by omega,nmC_ne (i:=k) (by omega)⟩)) (k:=Q0 (ch:=[]) (a:=la) (q:=k * 2) (S:=(inZ s.Z)) (cs:=(nmC l)) (l:=[.string ((l.getD k default).1),.int .i64 ((l.getD k default).2)]) (hrd:=hl) (hS:=(fun y o h=>(At.cons (At.cons (At.cons (at_inZ (hZ y o h))))))) (hl:=List.cons_ne_nil _ _) (hv:=(fun _=>(fun m hm=>(P5 (by omega) m hm).trans (List.getElem?_eq_getElem hm)))) (k:=?_))
  refine K5 (ch:=[]) (z:=.agg #[.string (ByteArray.mk #[]),.int .i64 0]) (k:=(fun b2=>?_))
  refine G4 (ch:=[]) (b:=b2) (off:=0) (v:=.agg #[.string ((l.getD k default).1),.int .i64 ((l.getD k default).2)]) (j:=0) ([(b2,.cells #[.string ((l.getD k default).1),.int .i64 ((l.getD k default).2)] 133 (0,0))]::[(x,.cells #[.int .i64 M.room,.slice s.ba s.bn s.bc,.slice na2 nl.length nc2,.slice s.ka s.kn s.kc,.slice s.ca s.cn s.cc,.bool M.fails,.bool M.once,.int .i64 M.calls] 106 (0,0))]::s.bg::s.cg::(Z2++H)) (hoff:=Nat.le_of_ble_eq_true rfl) (hfz:=(fun _ _=>F0)) (k:=C4 [] [0,1,2,7,8,9,10] (k:=?_))
  refine A0 (D7 ([(b2,.cells #[.string ((l.getD k default).1),.int .i64 ((l.getD k default).2)] 133 (0,0))]::s.bg::s.cg::(Z2++H)) kr ?_)
  refine D0 (fuel:=8) [(0,0),(1,0)] (fun w h=>(h.erase 1)) (k:=G0 (ad:=⟨x,0,none⟩) 2 (hL:=(fun w h=>(h.erase 1))) (k:=?_))
  refine D0 (fuel:=6) [(3,0)] (fun w h=>(h.erase 1)) (k:=A9 5 (hL:=(fun w h=>(h.erase 1))) (hy:=P8 (i:=5) (ch:=[]) (b:=b2) (off:=0) (l:=[.string ((l.getD k default).1),.int .i64 ((l.getD k default).2)]) (hA:=At.grp 0 0 rfl rfl) (k:=B1 kr rfl)) (k:=?_))
  refine B9 4 (k:=A5 (ch:=[]) (b:=x) (off:=2) (v:=.slice na2 nl.length nc2) (hA:=At.grp 1 0 rfl rfl) (k:=?_))
  refine A6 kr (fun w h=>(h.erase 1)) (B9 6 (k:=?_))
  refine G2 Tryz.func95 (rWith na2 nc2 (inZ Z2) nl (l.getD k default) hn2 (by omega) _ _ (fun y o h=>(At.cons (At.cons (At.cons (At.cons (at_inZ h))))))) ?_
  rintro v H' ⟨g3,hO4,rfl⟩
  obtain ⟨na5,nc6,rfl,hnc7,hrw8⟩:=hO4.shape
  refine A6 kr (fun w h=>((h.erase 2).erase 0)) (I0 (g3::[(b2,.cells #[.string ((l.getD k default).1),.int .i64 ((l.getD k default).2)] 133 (0,0))]::s.bg::s.cg::(Z2++H)) (fun w h=>(h.erase 0)) ?_)
  refine G0 (ad:=⟨x,0,none⟩) 7 (hL:=(fun w h=>(h.erase 2))) (k:=D0 (fuel:=1) [(8,0)] (fun w h=>(h.erase 2)) (k:=?_))
  refine B9 9 (k:=G4 (ch:=[]) (b:=x) (off:=2) (v:=.slice na5 ((N2 nl (l.getD k default)).length) nc6) (j:=2) (g3::[(b2,.cells #[.string ((l.getD k default).1),.int .i64 ((l.getD k default).2)] 133 (0,0))]::[(x,.cells #[.int .i64 M.room,.slice s.ba s.bn s.bc,.slice na5 ((N2 nl (l.getD k default)).length) nc6,.slice s.ka s.kn s.kc,.slice s.ca s.cn s.cc,.bool M.fails,.bool M.once,.int .i64 M.calls] 106 (0,0))]::s.bg::s.cg::(Z2++H)) (hoff:=Nat.le_of_ble_eq_true rfl) (hfz:=(fun _ _=>F0)) (k:=?_))
  refine A6 kr (fun w h=>(h.erase 2)) (D8 (E':=[⟨0,[],pt x⟩,⟨1,[],.string dir⟩,⟨2,[],.slice la l.length lc⟩,⟨8,[],.slice la l.length lc⟩,⟨9,[],.int .i64 ((l.length:Nat):Int)⟩,⟨10,[],.int .i64 ((k:Nat):Int)⟩]) [0,1,2,8,9,10] (k:=?_))
  refine D5 (A0 ?_)
  refine A2 (A7 (j:=1) [0] (k:=?_))
  refine F2 23 (((k:Nat):Int)+1) (by omega) (by omega) kr (C4 [0] [0,1,2,8,9,10] (k:=?_))
  refine E0 (H':=([(x,.cells #[.int .i64 M.room,.slice s.ba s.bn s.bc,.slice na5 ((N2 nl (l.getD k default)).length) nc6,.slice s.ka s.kn s.kc,.slice s.ca s.cn s.cc,.bool M.fails,.bool M.once,.int .i64 M.calls] 106 (0,0))]::s.bg::s.cg::g3::(Z2++H))) (fun w h=>((((h.front (j:=4) rfl).front (j:=4) rfl).front (j:=4) rfl).erase 4)) (E5 (s':=(k+1,(N2 nl (l.getD k default)),na5,nc6,(g3::Z2))) [0,1,2,8,9,10] kr rfl ⟨(by omega),(by show N2 nl _=_; rw [apply_snoc (by omega),hnl]),(hrw8.mono fun y o h=>inZ_hd h),(fun y o h=>A0w (hZ y o h)),(by have:=with_le nl (l.getD k default); show (N2 nl _).length≤_; omega)⟩ (by omega))
 ·
  replace hc1:=of_decide_eq_false hc1
  refine G6 (A8 ?_)
  refine A8 (C7 ?_)
  refine A0 (A2 ?_)
  refine A7 (j:=4) [0,0,0,0] (k:=A5 (ch:=[]) (b:=x) (off:=4) (v:=.slice s.ca s.cn s.cc) (hA:=At.grp 0 0 rfl rfl) (k:=?_))
  refine A7 (j:=8) [0,0,0] (k:=C2 (ch:=[]) (e:=123) (l:=[(0,.agg #[.string dir,.slice la l.length lc])]) (c:=[.string dir,.slice la l.length lc]) (k:=(fun b10=>?_)))
  refine E9 (i:=9) (ch:=[]) (t:=104) (tx:=104) (e:=123) (inf:=Tryz.t123) (s:=.slice s.ca s.cn s.cc) (x:=.slice (some ⟨b10,0,none⟩) 1 1) (n:=s.cn) (m:=1) (j:=3) (cs:=(chC s.cs)) (news:=[.string dir,.slice la l.length lc]) (g:=s.cg) (S:=(inG [(b10,.cells #[.string dir,.slice la l.length lc] 123 (0,0))])) rfl rfl rfl rfl kr kr kr rfl rfl (.inl ⟨123,kr⟩) (fun ⟨_,h⟩=>by cases h) (fun _=>⟨123,kr⟩) kr kr kr rfl h.own2 (SrcOf.slice _ _ _ _ Rd.lit (fun h=>by cases h)) (C9 0 rfl) kr (by intro u hu; simp only [List.mem_cons,List.not_mem_nil,or_false] at hu; rcases hu with rfl | rfl <;> rfl) (by omega) (by show (s.cn+1) * 40≤140737488355328; omega) (fun v11 g12 hO13=>?_)
  obtain ⟨a14,cap15,rfl,hcap16,hrd17⟩:=hO13.shape
  refine A7 (j:=12) [0,0] (k:=G4 (ch:=[]) (b:=x) (off:=4) (v:=.slice a14 (s.cn+1) cap15) (j:=1) ([(b10,.cells #[.string dir,.slice la l.length lc] 123 (0,0))]::[(x,.cells #[.int .i64 M.room,.slice s.ba s.bn s.bc,.slice na2 nl.length nc2,.slice s.ka s.kn s.kc,.slice a14 (s.cn+1) cap15,.bool M.fails,.bool M.once,.int .i64 M.calls] 106 (0,0))]::s.bg::g12::(Z2++H)) (hoff:=Nat.le_of_ble_eq_true rfl) (hfz:=(fun _ _=>F0)) (k:=?_))
  refine D3 (E':=[]) [] [] (k:=E0 (H':=([(x,.cells #[.int .i64 M.room,.slice s.ba s.bn s.bc,.slice na2 nl.length nc2,.slice s.ka s.kn s.kc,.slice a14 (s.cn+1) cap15,.bool M.fails,.bool M.once,.int .i64 M.calls] 106 (0,0))]::s.bg::g12::(Z2++H))) (fun w h=>(h.erase 0)) ?_)
  refine C1 [] [] (k:=?_)
  exact ⟨rfl,_,ok_rchange h hZ hl (by rw [hnl,List.take_of_length_le (by omega)]) hn2 hO13 hix,rfl⟩
end Go.Proofs.YtlaoeiaaeifidaaGreat
namespace Go.Proofs.YtlaoeiaaeifidaaGreat
open Go.Sw Go.Lib Go.Vf Go.RowKit
theorem rWrite (x:Nat) (s:RS) (M:DM) (h:s.ok M) (hm:V3 M) (p b:ByteArray) (hp:p.size≤9223372036854775807) (hb:b.size≤1000000000) (W0:World) (H:List Grp):Tri Tryz.prog 59 #[pt x,.string p,.string b] W0 ([(x,.cells #[.int .i64 M.room,.slice s.ba s.bn s.bc,.slice s.na s.nn s.nc,.slice s.ka s.kn s.kc,.slice s.ca s.cn s.cc,.bool M.fails,.bool M.once,.int .i64 M.calls] 106 (0,0))]::s.bg::s.cg::(s.Z++H)) (IsR x (D9 M p b).2 (.int .i64 (D9 M p b).1) H):=by
 have hnn:=h.nn
 have hbn:=h.bn
 have hkn:=h.kn
 have hcn:=h.cn
 have hch:=h.chs.len
 have hus:=A0m hm.small fun x hx=>(h.well.names x hx).2
 have hsn:=hm.small.names
 have hsb:=hm.small.bodies
 have hsc:=hm.small.changes
 have hskn:M.kept.length≤10000:=Nat.le_trans (Nat.le_add_right _ _) hm.kept
 have hsca:=hm.small.calls
 have hnb:∀ y∈M.names,0≤y.2:=fun y hy=>(h.well.names y hy).1
 refine C8 (args:=[pt x,.string p,.string b]) (n:=71) Tryz.func59 rfl rfl (Nat.le_of_ble_eq_true rfl) ?_
 refine A1 (G_p [0] [0,1,2] (k:=?_))
 refine A0 (A1 ?_)
 refine A1 (A2 ?_)
 refine A7 (j:=2) [0,0] (k:=F6 (vs:=[.string p]) Tryz.func66 (refRight _ hp _ _) ?_)
 refine G2 Tryz.func65 (rCall x M.room M.calls (.slice s.ba s.bn s.bc) (.slice s.na s.nn s.nc) (.slice s.ka s.kn s.kc) (.slice s.ca s.cn s.cc) M.fails M.once (A3 p) hsca _ _) ?_
 rintro v H' ⟨rfl,rfl⟩
 refine C4 [0] [0,1,2,7] (k:=A0 ?_)
 refine A1 (G_p [0,0] [0,1,2,7,15] (k:=?_))
 refine A0 (C6 (b:=((B6 M.fails M.once M.calls (A3 p)).1) != 0) kr (fun hc1=>?_) (fun hc1=>?_))
 ·
  have he:V5 M (A3 p)≠0:=bne_iff_ne.1 hc1
  refine A1 (G_p [0,0] [6] (k:=?_))
  refine A0 (C3 ?_)
  refine B3 (C1 [.tmp 6] [.int .i64 ((B6 M.fails M.once M.calls (A3 p)).1)] (k:=?_))
  rw [writeM_err he]
  exact ⟨rfl,s,L9 h _,rfl⟩
 ·
  have he:V5 M (A3 p)=0:=by (have h0:=hc1; simp only [bne_eq_false_iff_eq] at h0; exact h0)
  refine B5 (A0 ?_)
  refine A1 (A2 ?_)
  refine A7 (j:=1) [0] (k:=G2 (vs:=[pt x]) Tryz.func68 (rUsed x s (H5 M (A3 p)) (L9 h _) (smallR_callM hm _) _ H) ?_)
  rintro v H' ⟨rfl,rfl⟩
  refine C4 [0] [0,1,2,8] (k:=A0 ?_)
  refine A1 (A1 ?_)
  refine A2 (A7 (j:=3) [0,0,0] (k:=?_))
  refine A5 (ch:=[]) (b:=x) (off:=2) (v:=.slice s.na s.nn s.nc) (hA:=At.grp 0 0 rfl rfl) (k:=A7 (j:=5) [0] (k:=?_))
  refine G2 Tryz.func67 (rAtN s.na s.nc (inZ s.Z) M.names p h.names (by omega) _ _ (fun y o h=>(At.cons (At.cons (At.cons (at_inZ h))))) s.nn hnn) ?_
  rintro v H' ⟨rfl,rfl⟩
  refine C4 [0] [0,1,2,8,9] (k:=A0 ?_)
  refine A1 (B4 (E':=[⟨0,[],pt x⟩,⟨1,[],.string p⟩,⟨2,[],.string b⟩,⟨8,[],.int .i64 ((N9 M:Nat):Int)⟩,⟨9,[],.int .i64 (atR M.names p)⟩,⟨26,[],.bool (decide ((atR M.names p) ≥ 0))⟩]) [0,0] [0,1,2,8,9,26] (k:=?_))
  refine A0 (G_join (T:=Int) (fun ξ:Int=>[⟨0,[],pt x⟩,⟨1,[],.string p⟩,⟨2,[],.string b⟩,⟨8,[],.int .i64 ξ⟩]) (fun ξ:Int=>([(x,.cells #[.int .i64 M.room,.slice s.ba s.bn s.bc,.slice s.na s.nn s.nc,.slice s.ka s.kn s.kc,.slice s.ca s.cn s.cc,.bool ((B6 M.fails M.once M.calls (A3 p)).2.1),.bool M.once,.int .i64 ((B6 M.fails M.once M.calls (A3 p)).2.2)] 106 (0,0))]::s.bg::s.cg::(s.Z++H))) (fun ξ:Int=>(ξ=(N9 M:Int) - (wasM M p:Int))) ?_ ?_)
  ·
   refine C6 (b:=decide ((atR M.names p) ≥ 0)) kr (fun hc2=>?_) (fun hc2=>?_)
   ·
    have hk:=of_decide_eq_true hc2
    have hlk:=atR_some hk
    have hki:=ok_at h.well hk
    have hsz:=hm.small.size _ (P3 (l:=M.bodies) (i:=(atR M.names p).toNat) hki)
    have hw:wasM M p=(M.bodies.getD (Int.toNat (atR M.names p)) default).now.size:=by (unfold wasM; rw [hlk]; rfl)
    refine A2 (A7 (j:=4) [0,0,0,0] (k:=?_))
    refine A5 (ch:=[]) (b:=x) (off:=1) (v:=.slice s.ba s.bn s.bc) (hA:=At.grp 0 0 rfl rfl) (k:=A7 (j:=6) [0] (k:=?_))
    refine B7 (ch:=[]) (a:=s.ba) (len:=s.bn) (cap:=s.bc) (kd:=.i64) (j:=(atR M.names p)) (e:=113) (sz:=2) (S:=(inG s.bg)) (cs:=(bdC M.bodies)) (hrd:=D6 h.own) (hb:=(fun _=>by exact ⟨by omega,by omega,bdC_ne hki⟩)) (k:=A7 (j:=8) [0] (k:=?_))
    refine D4 (ch:=[]) (a:=s.ba) (q:=(Int.toNat (atR M.names p)) * 2) (S:=(inG s.bg)) (cs:=(bdC M.bodies)) (v:=.string ((M.bodies.getD (Int.toNat (atR M.names p)) default).now)) (hrd:=D6 h.own) (hS:=C9 1 rfl) (hv:=(fun _=>(A0y (by omega)))) (k:=A7 (j:=11) [0,0] (k:=?_))
    refine F2 37 (((N9 M:Nat):Int) - (((M.bodies.getD (Int.toNat (atR M.names p)) default).now).size:Int)) (by omega) (by omega) kr (C4 [0] [0,1,2,8] (k:=?_))
    refine M9 (((N9 M:Nat):Int) - (((M.bodies.getD (Int.toNat (atR M.names p)) default).now).size:Int)) [0,1,2,8] kr (fun w h=>h) (by first | (rw [hw]; done) | (rw [hw]; omega))
   ·
    have hlk:=atR_no (p:=p) hnb (by have h0:=of_decide_eq_false hc2; omega)
    have hw:wasM M p=0:=by (unfold wasM; rw [hlk])
    refine B5 (M9 (((N9 M:Nat):Int)) [0,1,2,8] kr (fun w h=>h) (by first | (rw [hw]; done) | (rw [hw]; omega)))
  ·
   rintro uz huz
   have hwl:=was_le hm.small p
   refine A0 (A1 ?_)
   refine A1 (A2 ?_)
   refine A7 (j:=4) [0,0,0,0] (k:=F2 41 (uz+(b.size:Int)) (by omega) (by omega) kr ?_)
   refine A7 (j:=7) [0,0,0] (k:=A5 (ch:=[]) (b:=x) (off:=0) (v:=.int .i64 M.room) (hA:=At.grp 0 0 rfl rfl) (k:=?_))
   refine C4 [0] [0,1,2,46] (k:=A0 ?_)
   refine C6 (b:=decide ((uz+(b.size:Int)) > M.room)) kr (fun hc5=>?_) (fun hc5=>?_)
   ·
    have hroom:(N9 M:Int) - (wasM M p:Int)+(b.size:Int) > M.room:=by (have h0:=of_decide_eq_true hc5; omega)
    refine A1 (B4 (E':=[⟨6,[],.int .i64 61⟩]) [0] [6] (k:=?_))
    refine A0 (C3 ?_)
    refine B3 (C1 [.tmp 6] [.int .i64 61] (k:=?_))
    rw [A0l he  hroom]
    exact ⟨rfl,s,L9 h _,rfl⟩
   ·
    have hroom:¬ (N9 M:Int) - (wasM M p:Int)+(b.size:Int) > M.room:=by (have h0:=of_decide_eq_false hc5; omega)
    refine B5 (A0 ?_)
    refine A1 (A2 ?_)
    refine A7 (j:=4) [0,0,0,0] (k:=A5 (ch:=[]) (b:=x) (off:=1) (v:=.slice s.ba s.bn s.bc) (hA:=At.grp 0 0 rfl rfl) (k:=?_))
    refine A7 (j:=7) [0,0] (k:=C2 (ch:=[]) (e:=113) (l:=[(0,.agg #[.string b,.string (ByteArray.mk #[])])]) (c:=[.string b,.string (ByteArray.mk #[])]) (k:=(fun b6=>?_)))
    refine E9 (i:=8) (ch:=[]) (t:=102) (tx:=102) (e:=113) (inf:=Tryz.t113) (s:=.slice s.ba s.bn s.bc) (x:=.slice (some ⟨b6,0,none⟩) 1 1) (n:=s.bn) (m:=1) (j:=2) (cs:=(bdC M.bodies)) (news:=[.string b,.string (ByteArray.mk #[])]) (g:=s.bg) (S:=(inG [(b6,.cells #[.string b,.string (ByteArray.mk #[])] 113 (0,0))])) rfl rfl rfl rfl kr kr kr rfl rfl (.inl ⟨113,kr⟩) (fun ⟨_,h⟩=>by cases h) (fun _=>⟨113,kr⟩) kr kr kr rfl h.own (SrcOf.slice _ _ _ _ Rd.lit (fun h=>by cases h)) (C9 0 rfl) kr (by intro u hu; simp only [List.mem_cons,List.not_mem_nil,or_false] at hu; rcases hu with rfl | rfl <;> rfl) (by omega) (by show (s.bn+1) * 32≤140737488355328; omega) (fun v7 g8 hO9=>?_)
    obtain ⟨a10,cap11,rfl,hcap12,hrd13⟩:=hO9.shape
    refine A7 (j:=11) [0,0] (k:=G4 (ch:=[]) (b:=x) (off:=1) (v:=.slice a10 (s.bn+1) cap11) (j:=1) ([(b6,.cells #[.string b,.string (ByteArray.mk #[])] 113 (0,0))]::[(x,.cells #[.int .i64 M.room,.slice a10 (s.bn+1) cap11,.slice s.na s.nn s.nc,.slice s.ka s.kn s.kc,.slice s.ca s.cn s.cc,.bool ((B6 M.fails M.once M.calls (A3 p)).2.1),.bool M.once,.int .i64 ((B6 M.fails M.once M.calls (A3 p)).2.2)] 106 (0,0))]::g8::s.cg::(s.Z++H)) (hoff:=Nat.le_of_ble_eq_true rfl) (hfz:=(fun _ _=>F0)) (k:=?_))
    refine D3 (E':=[⟨0,[],pt x⟩,⟨1,[],.string p⟩]) [] [0,1] (k:=A0 ?_)
    refine A1 (D7 H kr ?_)
    refine D0 (fuel:=9) [(0,0),(1,0),(3,0),(4,0)] (fun w h=>(Sat.dropApp ((((h.erase 3).erase 2).erase 1).erase 0))) (k:=G0 (ad:=⟨x,0,none⟩) 5 (hL:=(fun w h=>(Sat.dropApp ((((h.erase 3).erase 2).erase 1).erase 0)))) (k:=?_))
    refine D0 (fuel:=7) [(6,0)] (fun w h=>(Sat.dropApp ((((h.erase 3).erase 2).erase 1).erase 0))) (k:=O0 2 7 (k:=?_) (k':=?_))
    ·
     refine F6 (vs:=[.string p]) Tryz.func90 (refDir _ hp _ _) (A6 kr (fun w h=>(Sat.dropApp ((((h.erase 3).erase 2).erase 1).erase 0))) ?_)
     refine B9 7 (k:=A5 (ch:=[]) (b:=x) (off:=1) (v:=.slice a10 (s.bn+1) cap11) (hA:=At.grp 1 0 rfl rfl) (k:=?_))
     refine A6 kr (fun w h=>(Sat.dropApp ((((h.erase 3).erase 2).erase 1).erase 0))) (R9 (v:=.int .i64 (((s.bn+1):Nat):Int)) 8 (hL:=(fun w h=>(Sat.dropApp ((((h.erase 3).erase 2).erase 1).erase 0)))) (k:=?_))
     have hw14:IntKind.wrap .i64 ((((s.bn+1):Nat):Int) - 1)=(((s.bn+1):Nat):Int) - 1:=w64 (by omega) (by omega)
     refine A1b (E':=[⟨67,[],.int .i64 ((((s.bn+1):Nat):Int) - 1)⟩,⟨60,[],.string (D2 p)⟩,⟨61,[],.string p⟩,⟨58,[],pt x⟩]) 9 0 kr (fun w h=>(Sat.dropApp ((((h.erase 3).erase 2).erase 1).erase 0))) (Eq.trans (b:=some [⟨67,[],.int .i64 (IntKind.wrap .i64 ((((s.bn+1):Nat):Int) - 1))⟩,⟨60,[],.string (D2 p)⟩,⟨61,[],.string p⟩,⟨58,[],pt x⟩]) kr (by simp only [hw14])) (GH_env (E':=[⟨67,[],.int .i64 ((M.bodies.length:Nat):Int)⟩,⟨60,[],.string (D2 p)⟩,⟨61,[],.string p⟩,⟨58,[],pt x⟩]) (by rw [show ((((s.bn+1):Nat):Int) - 1)=((M.bodies.length:Nat):Int) by omega]) ?_)
     refine D0 (fuel:=2) [(10,0)] (fun w h=>(Sat.dropApp ((((h.erase 3).erase 2).erase 1).erase 0))) (k:=B9 11 (k:=?_))
     refine C2 (ch:=[]) (e:=133) (l:=[(0,.agg #[.string p,.int .i64 ((M.bodies.length:Nat):Int)])]) (c:=[.string p,.int .i64 ((M.bodies.length:Nat):Int)]) (k:=(fun b15=>?_))
     refine A6 kr (fun w h=>(Sat.dropApp (((((h.erase 4).erase 3).erase 2).erase 1).erase 0))) (B9 12 (k:=?_))
     refine I5 rfl (H':=([(x,.cells #[.int .i64 M.room,.slice a10 (s.bn+1) cap11,.slice s.na s.nn s.nc,.slice s.ka s.kn s.kc,.slice s.ca s.cn s.cc,.bool ((B6 M.fails M.once M.calls (A3 p)).2.1),.bool M.once,.int .i64 ((B6 M.fails M.once M.calls (A3 p)).2.2)] 106 (0,0))]::g8::s.cg::[(b15,.cells #[.string p,.int .i64 ((M.bodies.length:Nat):Int)] 133 (0,0))]::[(b6,.cells #[.string b,.string (ByteArray.mk #[])] 113 (0,0))]::(s.Z++H))) (fun w h=>(((h.front (j:=4) rfl).front (j:=4) rfl).front (j:=4) rfl)) (G2 (vs:=[pt x,.string (D2 p),.slice (some ⟨b15,0,none⟩) 1 1]) Tryz.func89 (rChange x { s with bn:=s.bn+1,ba:=a10,bc:=cap11,bg:=g8,Z:=[(b15,.cells #[.string p,.int .i64 ((M.bodies.length:Nat):Int)] 133 (0,0))]::[(b6,.cells #[.string b,.string (ByteArray.mk #[])] 113 (0,0))]::s.Z } { H5 M (A3 p) with bodies:=M.bodies++[⟨b,ByteArray.mk #[]⟩] } (ok_rZ (ok_rZ (ok_rbody (L9 h _) hO9) _) _) hsn (by show M.changes.length≤_; omega) (D2 p) [(p,((M.bodies.length:Nat):Int))] (some ⟨b15,0,none⟩) 1 (Rd.mono (Rd.lit (c:=[.string p,.int .i64 ((M.bodies.length:Nat):Int)])) (fun _ _ h=>inZ_hd h)) (Nat.le_of_ble_eq_true rfl) (fun y hy _=>by rw [List.mem_singleton.1 hy]; show _<(M.bodies++[_]).length; simp) _ H) ?_)
     rintro v H' ⟨rfl,sr2,hsr2,rfl⟩
     refine A6 kr (fun w h=>(Sat.dropApp h)) (D8 (E':=[]) [] (k:=?_))
     refine A0 (A1 ?_)
     refine B4 (E':=[⟨6,[],.int .i64 0⟩]) [0] [6] (k:=A0 ?_)
     refine C3 (C1 [.tmp 6] [.int .i64 0] (k:=?_))
     rw [X3 he hroom]
     exact ⟨rfl,sr2,hsr2,rfl⟩
    ·
     refine A5 (ch:=[]) (b:=x) (off:=1) (v:=.slice a10 (s.bn+1) cap11) (hA:=At.grp 1 0 rfl rfl) (k:=A6 kr (fun w h=>(Sat.dropApp ((((h.erase 3).erase 2).erase 1).erase 0))) ?_)
     refine R9 (v:=.int .i64 (((s.bn+1):Nat):Int)) 8 (hL:=(fun w h=>(Sat.dropApp ((((h.erase 3).erase 2).erase 1).erase 0)))) (k:=?_)
     have hw16:IntKind.wrap .i64 ((((s.bn+1):Nat):Int) - 1)=(((s.bn+1):Nat):Int) - 1:=w64 (by omega) (by omega)
     refine A1b (E':=[⟨67,[],.int .i64 ((((s.bn+1):Nat):Int) - 1)⟩,⟨61,[],.string p⟩,⟨59,[],.string p⟩,⟨58,[],pt x⟩]) 9 0 kr (fun w h=>(Sat.dropApp ((((h.erase 3).erase 2).erase 1).erase 0))) (Eq.trans (b:=some [⟨67,[],.int .i64 (IntKind.wrap .i64 ((((s.bn+1):Nat):Int) - 1))⟩,⟨61,[],.string p⟩,⟨59,[],.string p⟩,⟨58,[],pt x⟩]) kr (by simp only [hw16])) (GH_env (E':=[⟨67,[],.int .i64 ((M.bodies.length:Nat):Int)⟩,⟨61,[],.string p⟩,⟨59,[],.string p⟩,⟨58,[],pt x⟩]) (by rw [show ((((s.bn+1):Nat):Int) - 1)=((M.bodies.length:Nat):Int) by omega]) ?_)
     refine D0 (fuel:=3) [(10,0)] (fun w h=>(Sat.dropApp ((((h.erase 3).erase 2).erase 1).erase 0))) (k:=O0 2 11 (k:=?_) (k':=?_))
     ·
      refine F6 (vs:=[.string p]) Tryz.func90 (refDir _ hp _ _) (A6 kr (fun w h=>(Sat.dropApp ((((h.erase 3).erase 2).erase 1).erase 0))) ?_)
      refine B9 11 (k:=C2 (ch:=[]) (e:=133) (l:=[(0,.agg #[.string p,.int .i64 ((M.bodies.length:Nat):Int)])]) (c:=[.string p,.int .i64 ((M.bodies.length:Nat):Int)]) (k:=(fun b17=>?_)))
      refine A6 kr (fun w h=>(Sat.dropApp (((((h.erase 4).erase 3).erase 2).erase 1).erase 0))) (B9 12 (k:=?_))
      refine I5 rfl (H':=([(x,.cells #[.int .i64 M.room,.slice a10 (s.bn+1) cap11,.slice s.na s.nn s.nc,.slice s.ka s.kn s.kc,.slice s.ca s.cn s.cc,.bool ((B6 M.fails M.once M.calls (A3 p)).2.1),.bool M.once,.int .i64 ((B6 M.fails M.once M.calls (A3 p)).2.2)] 106 (0,0))]::g8::s.cg::[(b17,.cells #[.string p,.int .i64 ((M.bodies.length:Nat):Int)] 133 (0,0))]::[(b6,.cells #[.string b,.string (ByteArray.mk #[])] 113 (0,0))]::(s.Z++H))) (fun w h=>(((h.front (j:=4) rfl).front (j:=4) rfl).front (j:=4) rfl)) (G2 (vs:=[pt x,.string (D2 p),.slice (some ⟨b17,0,none⟩) 1 1]) Tryz.func89 (rChange x { s with bn:=s.bn+1,ba:=a10,bc:=cap11,bg:=g8,Z:=[(b17,.cells #[.string p,.int .i64 ((M.bodies.length:Nat):Int)] 133 (0,0))]::[(b6,.cells #[.string b,.string (ByteArray.mk #[])] 113 (0,0))]::s.Z } { H5 M (A3 p) with bodies:=M.bodies++[⟨b,ByteArray.mk #[]⟩] } (ok_rZ (ok_rZ (ok_rbody (L9 h _) hO9) _) _) hsn (by show M.changes.length≤_; omega) (D2 p) [(p,((M.bodies.length:Nat):Int))] (some ⟨b17,0,none⟩) 1 (Rd.mono (Rd.lit (c:=[.string p,.int .i64 ((M.bodies.length:Nat):Int)])) (fun _ _ h=>inZ_hd h)) (Nat.le_of_ble_eq_true rfl) (fun y hy _=>by rw [List.mem_singleton.1 hy]; show _<(M.bodies++[_]).length; simp) _ H) ?_)
      rintro v H' ⟨rfl,sr4,hsr4,rfl⟩
      refine A6 kr (fun w h=>(Sat.dropApp h)) (D8 (E':=[]) [] (k:=?_))
      refine A0 (A1 ?_)
      refine B4 (E':=[⟨6,[],.int .i64 0⟩]) [0] [6] (k:=A0 ?_)
      refine C3 (C1 [.tmp 6] [.int .i64 0] (k:=?_))
      rw [X3 he hroom]
      exact ⟨rfl,sr4,hsr4,rfl⟩
     ·
      refine C2 (ch:=[]) (e:=133) (l:=[(0,.agg #[.string p,.int .i64 ((M.bodies.length:Nat):Int)])]) (c:=[.string p,.int .i64 ((M.bodies.length:Nat):Int)]) (k:=(fun b18=>?_))
      refine A6 kr (fun w h=>(Sat.dropApp (((((h.erase 4).erase 3).erase 2).erase 1).erase 0))) (B9 2 (k:=?_))
      refine F6 (vs:=[.string p]) Tryz.func90 (refDir _ hp _ _) (A6 kr (fun w h=>(Sat.dropApp (((((h.erase 4).erase 3).erase 2).erase 1).erase 0))) ?_)
      refine B9 12 (k:=I5 rfl (H':=([(x,.cells #[.int .i64 M.room,.slice a10 (s.bn+1) cap11,.slice s.na s.nn s.nc,.slice s.ka s.kn s.kc,.slice s.ca s.cn s.cc,.bool ((B6 M.fails M.once M.calls (A3 p)).2.1),.bool M.once,.int .i64 ((B6 M.fails M.once M.calls (A3 p)).2.2)] 106 (0,0))]::g8::s.cg::[(b18,.cells #[.string p,.int .i64 ((M.bodies.length:Nat):Int)] 133 (0,0))]::[(b6,.cells #[.string b,.string (ByteArray.mk #[])] 113 (0,0))]::(s.Z++H))) (fun w h=>(((h.front (j:=4) rfl).front (j:=4) rfl).front (j:=4) rfl)) ?_)
      refine G2 (vs:=[pt x,.string (D2 p),.slice (some ⟨b18,0,none⟩) 1 1]) Tryz.func89 (rChange x { s with bn:=s.bn+1,ba:=a10,bc:=cap11,bg:=g8,Z:=[(b18,.cells #[.string p,.int .i64 ((M.bodies.length:Nat):Int)] 133 (0,0))]::[(b6,.cells #[.string b,.string (ByteArray.mk #[])] 113 (0,0))]::s.Z } { H5 M (A3 p) with bodies:=M.bodies++[⟨b,ByteArray.mk #[]⟩] } (ok_rZ (ok_rZ (ok_rbody (L9 h _) hO9) _) _) hsn (by show M.changes.length≤_; omega) (D2 p) [(p,((M.bodies.length:Nat):Int))] (some ⟨b18,0,none⟩) 1 (Rd.mono (Rd.lit (c:=[.string p,.int .i64 ((M.bodies.length:Nat):Int)])) (fun _ _ h=>inZ_hd h)) (Nat.le_of_ble_eq_true rfl) (fun y hy _=>by rw [List.mem_singleton.1 hy]; show _<(M.bodies++[_]).length; simp) _ H) ?_
      rintro v H' ⟨rfl,sr6,hsr6,rfl⟩
      refine A6 kr (fun w h=>(Sat.dropApp h)) (D8 (E':=[]) [] (k:=?_))
      refine A0 (A1 ?_)
      refine B4 (E':=[⟨6,[],.int .i64 0⟩]) [0] [6] (k:=A0 ?_)
      refine C3 (C1 [.tmp 6] [.int .i64 0] (k:=?_))
      rw [X3 he hroom]
      exact ⟨rfl,sr6,hsr6,rfl⟩
theorem rAppend (x:Nat) (s:RS) (M:DM) (h:s.ok M) (hm:V3 M) (p b:ByteArray) (hp:p.size≤9223372036854775807) (hb:b.size≤1000000000) (W0:World) (H:List Grp):Tri Tryz.prog 27 #[pt x,.string p,.string b] W0 ([(x,.cells #[.int .i64 M.room,.slice s.ba s.bn s.bc,.slice s.na s.nn s.nc,.slice s.ka s.kn s.kc,.slice s.ca s.cn s.cc,.bool M.fails,.bool M.once,.int .i64 M.calls] 106 (0,0))]::s.bg::s.cg::(s.Z++H)) (IsR x (F4 M p b).2 (.int .i64 (F4 M p b).1) H):=by
 have hnn:=h.nn
 have hbn:=h.bn
 have hkn:=h.kn
 have hcn:=h.cn
 have hch:=h.chs.len
 have hus:=A0m hm.small fun x hx=>(h.well.names x hx).2
 have hsn:=hm.small.names
 have hsb:=hm.small.bodies
 have hsc:=hm.small.changes
 have hskn:M.kept.length≤10000:=Nat.le_trans (Nat.le_add_right _ _) hm.kept
 have hsca:=hm.small.calls
 have hnb:∀ y∈M.names,0≤y.2:=fun y hy=>(h.well.names y hy).1
 refine C8 (args:=[pt x,.string p,.string b]) (n:=46) Tryz.func27 rfl rfl (Nat.le_of_ble_eq_true rfl) ?_
 refine A1 (G_p [0] [0,1,2] (k:=?_))
 refine A0 (A1 ?_)
 refine A1 (A2 ?_)
 refine A7 (j:=2) [0,0] (k:=F6 (vs:=[.string p]) Tryz.func66 (refRight _ hp _ _) ?_)
 refine G2 Tryz.func65 (rCall x M.room M.calls (.slice s.ba s.bn s.bc) (.slice s.na s.nn s.nc) (.slice s.ka s.kn s.kc) (.slice s.ca s.cn s.cc) M.fails M.once (A3 p) hsca _ _) ?_
 rintro v H' ⟨rfl,rfl⟩
 refine C4 [0] [0,1,2,7] (k:=A0 ?_)
 refine A1 (G_p [0,0] [0,1,2,7,14] (k:=?_))
 refine A0 (C6 (b:=((B6 M.fails M.once M.calls (A3 p)).1) != 0) kr (fun hc1=>?_) (fun hc1=>?_))
 ·
  have he:V5 M (A3 p)≠0:=bne_iff_ne.1 hc1
  refine A1 (G_p [0,0] [6] (k:=?_))
  refine A0 (C3 ?_)
  refine B3 (C1 [.tmp 6] [.int .i64 ((B6 M.fails M.once M.calls (A3 p)).1)] (k:=?_))
  rw [Q4 he]
  exact ⟨rfl,s,L9 h _,rfl⟩
 ·
  have he:V5 M (A3 p)=0:=by (have h0:=hc1; simp only [bne_eq_false_iff_eq] at h0; exact h0)
  refine B5 (A0 ?_)
  refine A1 (A2 ?_)
  refine A7 (j:=3) [0,0,0] (k:=A5 (ch:=[]) (b:=x) (off:=2) (v:=.slice s.na s.nn s.nc) (hA:=At.grp 0 0 rfl rfl) (k:=?_))
  refine A7 (j:=5) [0] (k:=G2 Tryz.func67 (rAtN s.na s.nc (inZ s.Z) M.names p h.names (by omega) _ _ (fun y o h=>(At.cons (At.cons (At.cons (at_inZ h))))) s.nn hnn) ?_)
  rintro v H' ⟨rfl,rfl⟩
  refine C4 [0] [0,2,8] (k:=A0 ?_)
  refine A1 (A1 ?_)
  refine G_p [0,0] [0,2,8,23] (k:=A0 ?_)
  refine C6 (b:=decide ((atR M.names p)<0)) kr (fun hc2=>?_) (fun hc2=>?_)
  ·
   have hk:=of_decide_eq_true hc2
   have hlk:=atR_no hnb hk
   refine A1 (B4 (E':=[⟨6,[],.int .i64 60⟩]) [0] [6] (k:=?_))
   refine A0 (C3 ?_)
   refine B3 (C1 [.tmp 6] [.int .i64 60] (k:=?_))
   rw [A0j he hlk]
   exact ⟨rfl,s,L9 h _,rfl⟩
  ·
   have hk:0≤atR M.names p:=by (have h0:=of_decide_eq_false hc2; omega)
   have hlk:=atR_some hk
   have hki:=ok_at h.well hk
   have hsz:=hm.small.size _ (P3 (l:=M.bodies) (i:=(atR M.names p).toNat) hki)
   refine B5 (A0 ?_)
   refine A1 (A1 ?_)
   refine D7 ([(x,.cells #[.int .i64 M.room,.slice s.ba s.bn s.bc,.slice s.na s.nn s.nc,.slice s.ka s.kn s.kc,.slice s.ca s.cn s.cc,.bool ((B6 M.fails M.once M.calls (A3 p)).2.1),.bool M.once,.int .i64 ((B6 M.fails M.once M.calls (A3 p)).2.2)] 106 (0,0))]::s.bg::s.cg::(s.Z++H)) kr (D0 (fuel:=8) [(0,0),(2,0)] (fun w h=>h) (k:=?_))
   refine R9 (v:=.int .i64 (b.size:Int)) 3 (hL:=(fun w h=>h)) (k:=D0 (fuel:=6) [(5,0)] (fun w h=>h) (k:=?_))
   refine G0 (ad:=⟨x,0,none⟩) 6 (hL:=(fun w h=>h)) (k:=D0 (fuel:=4) [(7,0)] (fun w h=>h) (k:=?_))
   refine A9 8 (hL:=(fun w h=>h)) (hy:=A5 (i:=8) (ch:=[]) (b:=x) (off:=0) (v:=.int .i64 M.room) (hA:=At.grp 0 0 rfl rfl) (k:=B1 kr rfl)) (k:=B9 1 (k:=?_))
   refine G2 (vs:=[pt x]) Tryz.func68 (rUsed x s (H5 M (A3 p)) (L9 h _) (smallR_callM hm _) _ H) ?_
   rintro v H' ⟨rfl,rfl⟩
   refine A6 kr (fun w h=>h) (D0 (fuel:=1) [(4,0)] (fun w h=>h) (k:=?_))
   refine O7 28 (((N9 M:Nat):Int)+(b.size:Int)) (by omega) (by omega) kr (D0 (fuel:=0) [(9,0)] (fun w h=>h) (k:=?_))
   refine D8 (E':=[⟨0,[],pt x⟩,⟨2,[],.string b⟩,⟨8,[],.int .i64 (atR M.names p)⟩,⟨33,[],.bool (decide ((((N9 M:Nat):Int)+(b.size:Int)) > M.room))⟩]) [0,2,8,33] (k:=A0 ?_)
   refine C6 (b:=decide ((((N9 M:Nat):Int)+(b.size:Int)) > M.room)) kr (fun hc4=>?_) (fun hc4=>?_)
   ·
    have hroom:(N9 M:Int)+(b.size:Int) > M.room:=by (have h0:=of_decide_eq_true hc4; omega)
    refine A1 (B4 (E':=[⟨6,[],.int .i64 61⟩]) [0] [6] (k:=?_))
    refine A0 (C3 ?_)
    refine B3 (C1 [.tmp 6] [.int .i64 61] (k:=?_))
    rw [V2 he hlk hroom]
    exact ⟨rfl,s,L9 h _,rfl⟩
   ·
    have hroom:¬ (N9 M:Int)+(b.size:Int) > M.room:=by (have h0:=of_decide_eq_false hc4; omega)
    refine B5 (A0 ?_)
    refine A1 (A2 ?_)
    refine A7 (j:=3) [0,0,0] (k:=A5 (ch:=[]) (b:=x) (off:=1) (v:=.slice s.ba s.bn s.bc) (hA:=At.grp 0 0 rfl rfl) (k:=?_))
    refine A7 (j:=5) [0] (k:=B7 (ch:=[]) (a:=s.ba) (len:=s.bn) (cap:=s.bc) (kd:=.i64) (j:=(atR M.names p)) (e:=113) (sz:=2) (S:=(inG s.bg)) (cs:=(bdC M.bodies)) (hrd:=D6 h.own) (hb:=(fun _=>by exact ⟨by omega,by omega,bdC_ne hki⟩)) (k:=?_))
    refine A7 (j:=7) [0] (k:=D4 (ch:=[]) (a:=s.ba) (q:=(Int.toNat (atR M.names p)) * 2) (S:=(inG s.bg)) (cs:=(bdC M.bodies)) (v:=.string ((M.bodies.getD (Int.toNat (atR M.names p)) default).now)) (hrd:=D6 h.own) (hS:=C9 1 rfl) (hv:=(fun _=>(A0y (by omega)))) (k:=?_))
    refine A7 (j:=9) [0] (k:=K2 (ch:=[]) (s:=(M.bodies.getD (Int.toNat (atR M.names p)) default).now) (u:=b) (hb:=(by omega)) (k:=?_))
    refine B7 (ch:=[]) (a:=s.ba) (len:=s.bn) (cap:=s.bc) (kd:=.i64) (j:=(atR M.names p)) (e:=113) (sz:=2) (S:=(inG s.bg)) (cs:=(bdC M.bodies)) (hrd:=D6 h.own) (hb:=(fun _=>by exact ⟨by omega,by omega,bdC_ne hki⟩)) (k:=A7 (j:=12) [0] (k:=?_))
    refine X9 (ch:=[]) (a:=s.ba) (q:=(Int.toNat (atR M.names p)) * 2) (len:=s.bn) (cap:=s.bc) (v:=.string (((M.bodies.getD (Int.toNat (atR M.names p)) default).now)++b)) (g:=s.bg) (j:=1) (cs:=(bdC M.bodies)) (cs':=(bdC (M.bodies.set (Int.toNat (atR M.names p)) ⟨((M.bodies.getD (Int.toNat (atR M.names p)) default).now)++b,(M.bodies.getD (Int.toNat (atR M.names p)) default).kept⟩))) (hO:=h.own) (hq:=(by rw [bdC_len]; omega)) (hcs:=bdC_now) (k:=(fun g5 hO6=>?_))
    refine D3 (E':=[]) [] [] (k:=A0 ?_)
    refine A1 (B4 (E':=[⟨6,[],.int .i64 0⟩]) [0] [6] (k:=?_))
    refine A0 (C3 ?_)
    refine C1 [.tmp 6] [.int .i64 0] (k:=?_)
    rw [A0i he hlk hroom]
    exact ⟨rfl,_,ok_rset (L9 h _) hO6 (pre_app (pre_at h.well _)),rfl⟩
theorem rRead (x:Nat) (s:RS) (M:DM) (h:s.ok M) (hm:V3 M) (p:ByteArray) (W0:World) (H:List Grp):Tri Tryz.prog 58 #[pt x,.string p] W0 ([(x,.cells #[.int .i64 M.room,.slice s.ba s.bn s.bc,.slice s.na s.nn s.nc,.slice s.ka s.kn s.kc,.slice s.ca s.cn s.cc,.bool M.fails,.bool M.once,.int .i64 M.calls] 106 (0,0))]::s.bg::s.cg::(s.Z++H)) (fun v H'=>v=.tuple #[.string (K9 M p).1,.int .i64 (K9 M p).2]∧H'=s.G x M++H):=by
 have hnn:=h.nn
 have hbn:=h.bn
 have hkn:=h.kn
 have hcn:=h.cn
 have hch:=h.chs.len
 have hus:=A0m hm.small fun x hx=>(h.well.names x hx).2
 have hsn:=hm.small.names
 have hsb:=hm.small.bodies
 have hsc:=hm.small.changes
 have hskn:M.kept.length≤10000:=Nat.le_trans (Nat.le_add_right _ _) hm.kept
 have hsca:=hm.small.calls
 have hnb:∀ y∈M.names,0≤y.2:=fun y hy=>(h.well.names y hy).1
 refine C8 (args:=[pt x,.string p]) (n:=23) Tryz.func58 rfl rfl (Nat.le_of_ble_eq_true rfl) ?_
 refine A1 (B4 (E':=[⟨0,[],pt x⟩,⟨1,[],.string p⟩]) [0,0] [0,1] (k:=?_))
 refine A0 (A1 ?_)
 refine A2 (A7 (j:=3) [0,0,0] (k:=?_))
 refine A5 (ch:=[]) (b:=x) (off:=2) (v:=.slice s.na s.nn s.nc) (hA:=At.grp 0 0 rfl rfl) (k:=A7 (j:=5) [0] (k:=?_))
 refine G2 Tryz.func67 (rAtN s.na s.nc (inZ s.Z) M.names p h.names (by omega) _ _ (fun y o h=>(At.cons (At.cons (At.cons (at_inZ h))))) s.nn hnn) ?_
 rintro v H' ⟨rfl,rfl⟩
 refine C4 [0] [0,6] (k:=A0 ?_)
 refine A1 (A1 ?_)
 refine G_p [0,0] [0,6,14] (k:=A0 ?_)
 refine C6 (b:=decide ((atR M.names p)<0)) kr (fun hc1=>?_) (fun hc1=>?_)
 ·
  have hk:=of_decide_eq_true hc1
  have hlk:=atR_no hnb hk
  refine A1 (G_p [0,0] [4,5] (k:=?_))
  refine A0 (C3 ?_)
  refine B3 (C1 [.tmp 4,.tmp 5] [.string (ByteArray.mk #[]),.int .i64 60] (k:=?_))
  rw [readM_no hlk]
  exact ⟨rfl,rfl⟩
 ·
  have hk:0≤atR M.names p:=by (have h0:=of_decide_eq_false hc1; omega)
  have hlk:=atR_some hk
  have hki:=ok_at h.well hk
  have hsz:=hm.small.size _ (P3 (l:=M.bodies) (i:=(atR M.names p).toNat) hki)
  refine B5 (A0 ?_)
  refine A1 (A2 ?_)
  refine A7 (j:=3) [0,0,0] (k:=A5 (ch:=[]) (b:=x) (off:=1) (v:=.slice s.ba s.bn s.bc) (hA:=At.grp 0 0 rfl rfl) (k:=?_))
  refine A7 (j:=5) [0] (k:=B7 (ch:=[]) (a:=s.ba) (len:=s.bn) (cap:=s.bc) (kd:=.i64) (j:=(atR M.names p)) (e:=113) (sz:=2) (S:=(inG s.bg)) (cs:=(bdC M.bodies)) (hrd:=D6 h.own) (hb:=(fun _=>by exact ⟨by omega,by omega,bdC_ne hki⟩)) (k:=?_))
  refine A7 (j:=7) [0] (k:=D4 (ch:=[]) (a:=s.ba) (q:=(Int.toNat (atR M.names p)) * 2) (S:=(inG s.bg)) (cs:=(bdC M.bodies)) (v:=.string ((M.bodies.getD (Int.toNat (atR M.names p)) default).now)) (hrd:=D6 h.own) (hS:=C9 1 rfl) (hv:=(fun _=>(A0y (by omega)))) (k:=?_))
  refine C4 [0,0] [4,5] (k:=A0 ?_)
  refine C3 (C1 [.tmp 4,.tmp 5] [.string ((M.bodies.getD (Int.toNat (atR M.names p)) default).now),.int .i64 0] (k:=?_))
  rw [readM_ok hlk]
  exact ⟨rfl,rfl⟩
theorem rRename (x:Nat) (s:RS) (M:DM) (h:s.ok M) (hm:V3 M) (p q:ByteArray) (hp:p.size≤9223372036854775807) (hq:q.size≤9223372036854775807) (W0:World) (H:List Grp):Tri Tryz.prog 63 #[pt x,.string p,.string q] W0 ([(x,.cells #[.int .i64 M.room,.slice s.ba s.bn s.bc,.slice s.na s.nn s.nc,.slice s.ka s.kn s.kc,.slice s.ca s.cn s.cc,.bool M.fails,.bool M.once,.int .i64 M.calls] 106 (0,0))]::s.bg::s.cg::(s.Z++H)) (IsR x (J3 M p q).2 (.int .i64 (J3 M p q).1) H):=by
  have hnn:=h.nn
  have hbn:=h.bn
  have hkn:=h.kn
  have hcn:=h.cn
  have hch:=h.chs.len
  have hus:=A0m hm.small fun x hx=>(h.well.names x hx).2
  have hsn:=hm.small.names
  have hsb:=hm.small.bodies
  have hsc:=hm.small.changes
  have hskn:M.kept.length≤10000:=Nat.le_trans (Nat.le_add_right _ _) hm.kept
  have hsca:=hm.small.calls
  have hnb:∀ y∈M.names,0≤y.2:=fun y hy=>(h.well.names y hy).1
  refine C8 (args:=[pt x,.string p,.string q]) (n:=48) Tryz.func63 rfl rfl (Nat.le_of_ble_eq_true rfl) ?_
  refine A1 (G_p [0] [0,1,2] (k:=?_))
  refine A0 (A1 ?_)
  refine A1 (A2 ?_)
  refine A7 (j:=2) [0,0] (k:=F6 (vs:=[.string p]) Tryz.func66 (refRight _ hp _ _) ?_)
  refine A7 (j:=5) [0,0] (k:=J9 (ch:=[(12,true)]) (f:=66) (fst:=#[]) (caps:=#[]) (vs:=[.string q]) (v:=.bool (A3 q)) (hf:=Tryz.func66) (hc:=(fun hc=>refRight _ hq _ _)) (k:=?_))
  refine A7 (j:=9) [6,0,0] (k:=J9 (ch:=[(16,true)]) (f:=90) (fst:=#[]) (caps:=#[]) (vs:=[.string p]) (v:=.string (D2 p)) (hf:=Tryz.func90) (hc:=(fun hc=>refDir _ hp _ _)) (k:=?_))
  refine A7 (j:=11) [0] (k:=J9 (ch:=[(16,true)]) (f:=90) (fst:=#[]) (caps:=#[]) (vs:=[.string q]) (v:=.string (D2 q)) (hf:=Tryz.func90) (hc:=(fun hc=>refDir _ hq _ _)) (k:=?_))
  refine A7 (j:=14) [0,6] (k:=G2 Tryz.func65 (rCall x M.room M.calls (.slice s.ba s.bn s.bc) (.slice s.na s.nn s.nc) (.slice s.ka s.kn s.kc) (.slice s.ca s.cn s.cc) M.fails M.once (((A3 p)&&(A3 q))&&((D2 p).toList==(D2 q).toList)) hsca _ _) ?_)
  rintro v H' ⟨rfl,rfl⟩
  refine C4 [0] [0,1,2,7] (k:=A0 ?_)
  refine A1 (G_p [0,0] [0,1,2,7,25] (k:=?_))
  refine A0 (C6 (b:=((B6 M.fails M.once M.calls (((A3 p)&&(A3 q))&&((D2 p).toList==(D2 q).toList))).1) != 0) kr (fun hc1=>?_) (fun hc1=>?_))
  ·
    have he:V5 M (renR p q)≠0:=bne_iff_ne.1 hc1
    refine A1 (G_p [0,0] [6] (k:=?_))
    refine A0 (C3 ?_)
    refine B3 (C1 [.tmp 6] [.int .i64 ((B6 M.fails M.once M.calls (((A3 p)&&(A3 q))&&((D2 p).toList==(D2 q).toList))).1)] (k:=?_))
    rw [T0 he]
    exact ⟨rfl,s,L9 h _,rfl⟩
  ·
    have he:V5 M (renR p q)=0:=by (have h0:=hc1; simp only [bne_eq_false_iff_eq] at h0; exact h0)
    refine B5 (A0 ?_)
    refine A1 (A2 ?_)
    refine A7 (j:=3) [0,0,0] (k:=A5 (ch:=[]) (b:=x) (off:=2) (v:=.slice s.na s.nn s.nc) (hA:=At.grp 0 0 rfl rfl) (k:=?_))
    refine A7 (j:=5) [0] (k:=G2 Tryz.func67 (rAtN s.na s.nc (inZ s.Z) M.names p h.names (by omega) _ _ (fun y o h=>(At.cons (At.cons (At.cons (at_inZ h))))) s.nn hnn) ?_)
    rintro v H' ⟨rfl,rfl⟩
    refine C4 [0] [0,1,2,8] (k:=A0 ?_)
    refine A1 (A1 ?_)
    refine G_p [0,0] [0,1,2,8,34] (k:=A0 ?_)
    refine C6 (b:=decide ((atR M.names p)<0)) kr (fun hc2=>?_) (fun hc2=>?_)
    ·
      have hk:=of_decide_eq_true hc2
      have hlk:=atR_no hnb hk
      refine A1 (B4 (E':=[⟨6,[],.int .i64 60⟩]) [0] [6] (k:=?_))
      refine A0 (C3 ?_)
      refine B3 (C1 [.tmp 6] [.int .i64 60] (k:=?_))
      rw [renameM_no he hlk]
      exact ⟨rfl,s,L9 h _,rfl⟩
    ·
      have hk:0≤atR M.names p:=by (have h0:=of_decide_eq_false hc2; omega)
      have hlk:=atR_some hk
      have hki:=ok_at h.well hk
      have hsz:=hm.small.size _ (P3 (l:=M.bodies) (i:=(atR M.names p).toNat) hki)
      refine B5 (A0 ?_)
      refine A1 (A1 ?_)
      refine B4 (E':=[⟨0,[],pt x⟩,⟨1,[],.string p⟩,⟨2,[],.string q⟩,⟨8,[],.int .i64 (atR M.names p)⟩,⟨37,[],.bool (!(p.toList==q.toList))⟩]) [0,0,0] [0,1,2,8,37] (k:=A0 ?_)
      refine C6 (b:=!(p.toList==q.toList)) kr (fun hc3=>?_) (fun hc3=>?_)
      ·
        have hs:(p==q)=false:=by (have h0:=hc3; rw [tlEq] at h0; simpa using h0)
        refine A2 (A7 (j:=2) [0,0] (k:=?_))
        refine F6 (vs:=[.string q]) Tryz.func90 (refDir _ hq _ _) (A7 (j:=8) [0,0,0,0,0] (k:=?_))
        refine C2 (ch:=[]) (e:=133) (l:=[(0,.agg #[.string p,.int .i64 (-1)]),(1,.agg #[.string q,.int .i64 (atR M.names p)])]) (c:=[.string p,.int .i64 (-1),.string q,.int .i64 (atR M.names p)]) (k:=(fun b4=>?_))
        refine I5 rfl (H':=([(x,.cells #[.int .i64 M.room,.slice s.ba s.bn s.bc,.slice s.na s.nn s.nc,.slice s.ka s.kn s.kc,.slice s.ca s.cn s.cc,.bool ((B6 M.fails M.once M.calls (((A3 p)&&(A3 q))&&((D2 p).toList==(D2 q).toList))).2.1),.bool M.once,.int .i64 ((B6 M.fails M.once M.calls (((A3 p)&&(A3 q))&&((D2 p).toList==(D2 q).toList))).2.2)] 106 (0,0))]::s.bg::s.cg::[(b4,.cells #[.string p,.int .i64 (-1),.string q,.int .i64 (atR M.names p)] 133 (0,0))]::(s.Z++H))) (fun w h=>(((h.front (j:=3) rfl).front (j:=3) rfl).front (j:=3) rfl)) ?_
        refine G2 (vs:=[pt x,.string (D2 q),.slice (some ⟨b4,0,none⟩) 2 2]) Tryz.func89 (rChange x { s with Z:=[(b4,.cells #[.string p,.int .i64 (-1),.string q,.int .i64 (atR M.names p)] 133 (0,0))]::s.Z } (H5 M (renR p q)) (ok_rZ (L9 h _) _) hsn (by show M.changes.length≤_; omega) (D2 q) [(p,(-1)),(q,(atR M.names p))] (some ⟨b4,0,none⟩) 2 (Rd.mono (Rd.lit (c:=[.string p,.int .i64 (-1),.string q,.int .i64 (atR M.names p)])) (fun _ _ h=>inZ_hd h)) (Nat.le_of_ble_eq_true rfl) (fun y hy h0=>by
                    rcases List.mem_cons.1 hy with rfl | hy
                    · exact absurd h0 (show ¬ (0:Int)≤-1 by decide)
                    · rw [List.mem_singleton.1 hy]; exact hki) _ H) ?_
        rintro v H' ⟨rfl,sr2,hsr2,rfl⟩
        refine D3 (E':=[]) [] [] (k:=A0 ?_)
        refine A1 (B4 (E':=[⟨6,[],.int .i64 0⟩]) [0] [6] (k:=?_))
        refine A0 (C3 ?_)
        refine C1 [.tmp 6] [.int .i64 0] (k:=?_)
        rw [X0 he hlk hs]
        exact ⟨rfl,sr2,hsr2,rfl⟩
      ·
        have hs:(p==q)=true:=by (have h0:=hc3; rw [tlEq] at h0; simpa using h0)
        refine B5 (A0 ?_)
        refine A1 (B4 (E':=[⟨6,[],.int .i64 0⟩]) [0] [6] (k:=?_))
        refine A0 (C3 ?_)
        refine C1 [.tmp 6] [.int .i64 0] (k:=?_)
        rw [Y2 he hlk hs]
        exact ⟨rfl,s,L9 h _,rfl⟩
theorem rSync (x:Nat) (s:RS) (M:DM) (h:s.ok M) (hm:V3 M) (p:ByteArray) (hp:p.size≤9223372036854775807) (W0:World) (H:List Grp):Tri Tryz.prog 60 #[pt x,.string p] W0 ([(x,.cells #[.int .i64 M.room,.slice s.ba s.bn s.bc,.slice s.na s.nn s.nc,.slice s.ka s.kn s.kc,.slice s.ca s.cn s.cc,.bool M.fails,.bool M.once,.int .i64 M.calls] 106 (0,0))]::s.bg::s.cg::(s.Z++H)) (IsR x (L8 M p).2 (.int .i64 (L8 M p).1) H):=by
 have hnn:=h.nn
 have hbn:=h.bn
 have hkn:=h.kn
 have hcn:=h.cn
 have hch:=h.chs.len
 have hus:=A0m hm.small fun x hx=>(h.well.names x hx).2
 have hsn:=hm.small.names
 have hsb:=hm.small.bodies
 have hsc:=hm.small.changes
 have hskn:M.kept.length≤10000:=Nat.le_trans (Nat.le_add_right _ _) hm.kept
 have hsca:=hm.small.calls
 have hnb:∀ y∈M.names,0≤y.2:=fun y hy=>(h.well.names y hy).1
 refine C8 (args:=[pt x,.string p]) (n:=37) Tryz.func60 rfl rfl (Nat.le_of_ble_eq_true rfl) ?_
 refine A1 (B4 (E':=[⟨0,[],pt x⟩,⟨1,[],.string p⟩]) [0] [0,1] (k:=?_))
 refine A0 (A1 ?_)
 refine A1 (A2 ?_)
 refine A7 (j:=2) [0,0] (k:=F6 (vs:=[.string p]) Tryz.func66 (refRight _ hp _ _) ?_)
 refine G2 Tryz.func65 (rCall x M.room M.calls (.slice s.ba s.bn s.bc) (.slice s.na s.nn s.nc) (.slice s.ka s.kn s.kc) (.slice s.ca s.cn s.cc) M.fails M.once (A3 p) hsca _ _) ?_
 rintro v H' ⟨rfl,rfl⟩
 refine C4 [0] [0,1,5] (k:=A0 ?_)
 refine A1 (G_p [0,0] [0,1,5,12] (k:=?_))
 refine A0 (C6 (b:=((B6 M.fails M.once M.calls (A3 p)).1) != 0) kr (fun hc1=>?_) (fun hc1=>?_))
 ·
  have he:V5 M (A3 p)≠0:=bne_iff_ne.1 hc1
  refine A1 (G_p [0,0] [4] (k:=?_))
  refine A0 (C3 ?_)
  refine B3 (C1 [.tmp 4] [.int .i64 ((B6 M.fails M.once M.calls (A3 p)).1)] (k:=?_))
  rw [Z5 he]
  exact ⟨rfl,s,L9 h _,rfl⟩
 ·
  have he:V5 M (A3 p)=0:=by (have h0:=hc1; simp only [bne_eq_false_iff_eq] at h0; exact h0)
  refine B5 (A0 ?_)
  refine A1 (A2 ?_)
  refine A7 (j:=3) [0,0,0] (k:=A5 (ch:=[]) (b:=x) (off:=2) (v:=.slice s.na s.nn s.nc) (hA:=At.grp 0 0 rfl rfl) (k:=?_))
  refine A7 (j:=5) [0] (k:=G2 Tryz.func67 (rAtN s.na s.nc (inZ s.Z) M.names p h.names (by omega) _ _ (fun y o h=>(At.cons (At.cons (At.cons (at_inZ h))))) s.nn hnn) ?_)
  rintro v H' ⟨rfl,rfl⟩
  refine C4 [0] [0,6] (k:=A0 ?_)
  refine A1 (A1 ?_)
  refine G_p [0,0] [0,6,21] (k:=A0 ?_)
  refine C6 (b:=decide ((atR M.names p)<0)) kr (fun hc2=>?_) (fun hc2=>?_)
  ·
   have hk:=of_decide_eq_true hc2
   have hlk:=atR_no hnb hk
   refine A1 (B4 (E':=[⟨4,[],.int .i64 60⟩]) [0] [4] (k:=?_))
   refine A0 (C3 ?_)
   refine B3 (C1 [.tmp 4] [.int .i64 60] (k:=?_))
   rw [syncM_no he hlk]
   exact ⟨rfl,s,L9 h _,rfl⟩
  ·
   have hk:0≤atR M.names p:=by (have h0:=of_decide_eq_false hc2; omega)
   have hlk:=atR_some hk
   have hki:=ok_at h.well hk
   have hsz:=hm.small.size _ (P3 (l:=M.bodies) (i:=(atR M.names p).toNat) hki)
   refine B5 (A0 ?_)
   refine A1 (D7 ([(x,.cells #[.int .i64 M.room,.slice s.ba s.bn s.bc,.slice s.na s.nn s.nc,.slice s.ka s.kn s.kc,.slice s.ca s.cn s.cc,.bool ((B6 M.fails M.once M.calls (A3 p)).2.1),.bool M.once,.int .i64 ((B6 M.fails M.once M.calls (A3 p)).2.2)] 106 (0,0))]::s.cg::(s.Z++H)) kr ?_)
   refine D0 (fuel:=15) [(0,0)] (fun w h=>(h.erase 1)) (k:=G0 (ad:=⟨x,0,none⟩) 1 (hL:=(fun w h=>(h.erase 1))) (k:=?_))
   refine D0 (fuel:=13) [(2,0)] (fun w h=>(h.erase 1)) (k:=A9 3 (hL:=(fun w h=>(h.erase 1))) (hy:=A5 (i:=3) (ch:=[]) (b:=x) (off:=1) (v:=.slice s.ba s.bn s.bc) (hA:=At.grp 0 0 rfl rfl) (k:=B1 kr rfl)) (k:=?_))
   refine D0 (fuel:=10) [(4,0),(5,0)] (fun w h=>(h.erase 1)) (k:=G0 (ad:=⟨x,0,none⟩) 6 (hL:=(fun w h=>(h.erase 1))) (k:=?_))
   refine D0 (fuel:=8) [(7,0)] (fun w h=>(h.erase 1)) (k:=A9 8 (hL:=(fun w h=>(h.erase 1))) (hy:=A5 (i:=8) (ch:=[]) (b:=x) (off:=1) (v:=.slice s.ba s.bn s.bc) (hA:=At.grp 0 0 rfl rfl) (k:=B1 kr rfl)) (k:=?_))
   refine D0 (fuel:=6) [(9,0)] (fun w h=>(h.erase 1)) (k:=A9 10 (hL:=(fun w h=>(h.erase 1))) (hy:=B7 (i:=10) (ch:=[]) (a:=s.ba) (len:=s.bn) (cap:=s.bc) (kd:=.i64) (j:=(atR M.names p)) (e:=113) (sz:=2) (S:=(inG s.bg)) (cs:=(bdC M.bodies)) (hrd:=D6 h.own) (hb:=(fun _=>by exact ⟨by omega,by omega,bdC_ne hki⟩)) (k:=B1 kr rfl)) (k:=?_))
   refine D0 (fuel:=4) [(11,0)] (fun w h=>(h.erase 1)) (k:=B9 12 (k:=?_))
   refine D4 (ch:=[]) (a:=s.ba) (q:=(Int.toNat (atR M.names p)) * 2) (S:=(inG s.bg)) (cs:=(bdC M.bodies)) (v:=.string ((M.bodies.getD (Int.toNat (atR M.names p)) default).now)) (hrd:=D6 h.own) (hS:=C9 1 rfl) (hv:=(fun _=>(A0y (by omega)))) (k:=A6 kr (fun w h=>(h.erase 1)) ?_)
   refine A9 13 (hL:=(fun w h=>(h.erase 1))) (hy:=B7 (i:=13) (ch:=[]) (a:=s.ba) (len:=s.bn) (cap:=s.bc) (kd:=.i64) (j:=(atR M.names p)) (e:=113) (sz:=2) (S:=(inG s.bg)) (cs:=(bdC M.bodies)) (hrd:=D6 h.own) (hb:=(fun _=>by exact ⟨by omega,by omega,bdC_ne hki⟩)) (k:=B1 kr rfl)) (k:=?_)
   have hw3:Addr.add (I9 s.ba ((Int.toNat (atR M.names p)) * 2)) 1=I9 s.ba ((Int.toNat (atR M.names p)) * 2+1):=W8 _ _ _
   refine A1b (E':=[⟨36,[],.pointer (some (I9 s.ba ((Int.toNat (atR M.names p)) * 2+1)))⟩,⟨34,[],.string ((M.bodies.getD (Int.toNat (atR M.names p)) default).now)⟩]) 14 0 kr (fun w h=>(h.erase 1)) (Eq.trans (b:=some [⟨36,[],.pointer (some (Addr.add (I9 s.ba ((Int.toNat (atR M.names p)) * 2)) 1))⟩,⟨34,[],.string ((M.bodies.getD (Int.toNat (atR M.names p)) default).now)⟩]) kr (by simp only [hw3])) (B9 15 (k:=?_))
   refine X9 (ch:=[]) (a:=s.ba) (q:=(Int.toNat (atR M.names p)) * 2+1) (len:=s.bn) (cap:=s.bc) (v:=.string ((M.bodies.getD (Int.toNat (atR M.names p)) default).now)) (g:=s.bg) (j:=1) (cs:=(bdC M.bodies)) (cs':=(bdC (M.bodies.set (Int.toNat (atR M.names p)) ⟨(M.bodies.getD (Int.toNat (atR M.names p)) default).now,(M.bodies.getD (Int.toNat (atR M.names p)) default).now⟩))) (hO:=h.own) (hq:=(by rw [bdC_len]; omega)) (hcs:=bdC_kept) (k:=(fun g4 hO5=>?_))
   refine A6 kr (fun w h=>(h.erase 1)) (D8 (E':=[]) [] (k:=?_))
   refine A0 (A1 ?_)
   refine B4 (E':=[⟨4,[],.int .i64 0⟩]) [0] [4] (k:=A0 ?_)
   refine C3 (C1 [.tmp 4] [.int .i64 0] (k:=?_))
   rw [syncM_ok he hlk]
   exact ⟨rfl,_,ok_rset (L9 h _) hO5 (pre_same _),rfl⟩
theorem rFail (x:Nat) (s:RS) (M:DM) (h:s.ok M) (n:Int) (o:Bool) (W0:World) (H:List Grp):Tri Tryz.prog 25 #[pt x,.int .i64 n,.bool o] W0 ([(x,.cells #[.int .i64 M.room,.slice s.ba s.bn s.bc,.slice s.na s.nn s.nc,.slice s.ka s.kn s.kc,.slice s.ca s.cn s.cc,.bool M.fails,.bool M.once,.int .i64 M.calls] 106 (0,0))]::s.bg::s.cg::(s.Z++H)) (IsR x (failM M n o) (.tuple #[]) H):=by
 skip
 refine C8 (args:=[pt x,.int .i64 n,.bool o]) (n:=18) Tryz.func25 rfl rfl (Nat.le_of_ble_eq_true rfl) ?_
 refine A1 (A2 ?_)
 refine A7 (j:=3) [0,0,0] (k:=G4 (ch:=[]) (b:=x) (off:=5) (v:=.bool true) (j:=0) ([(x,.cells #[.int .i64 M.room,.slice s.ba s.bn s.bc,.slice s.na s.nn s.nc,.slice s.ka s.kn s.kc,.slice s.ca s.cn s.cc,.bool true,.bool M.once,.int .i64 M.calls] 106 (0,0))]::s.bg::s.cg::(s.Z++H)) (hoff:=Nat.le_of_ble_eq_true rfl) (hfz:=(fun _ _=>F0)) (k:=?_))
 refine C4 [] [0,1,2] (k:=A0 ?_)
 refine A1 (A2 ?_)
 refine A7 (j:=4) [0,0,0,0] (k:=G4 (ch:=[]) (b:=x) (off:=6) (v:=.bool o) (j:=0) ([(x,.cells #[.int .i64 M.room,.slice s.ba s.bn s.bc,.slice s.na s.nn s.nc,.slice s.ka s.kn s.kc,.slice s.ca s.cn s.cc,.bool true,.bool o,.int .i64 M.calls] 106 (0,0))]::s.bg::s.cg::(s.Z++H)) (hoff:=Nat.le_of_ble_eq_true rfl) (hfz:=(fun _ _=>F0)) (k:=?_))
 refine D3 (E':=[⟨0,[],pt x⟩,⟨1,[],.int .i64 n⟩]) [] [0,1] (k:=A0 ?_)
 refine A2 (A7 (j:=5) [0,0,0,0,0] (k:=?_))
 refine G4 (ch:=[]) (b:=x) (off:=7) (v:=.int .i64 (if 0 > n then 0 else n)) (j:=0) ([(x,.cells #[.int .i64 M.room,.slice s.ba s.bn s.bc,.slice s.na s.nn s.nc,.slice s.ka s.kn s.kc,.slice s.ca s.cn s.cc,.bool true,.bool o,.int .i64 (if 0 > n then 0 else n)] 106 (0,0))]::s.bg::s.cg::(s.Z++H)) (hoff:=Nat.le_of_ble_eq_true rfl) (hfz:=(fun _ _=>F0)) (k:=D3 (E':=[]) [] [] (k:=?_))
 refine C1 [] [] (k:=?_)
 exact ⟨rfl,s,⟨h.bn,h.own,h.nn,h.names,h.kn,h.kept,h.cn,h.own2,h.chs,⟨h.well.names,h.well.kept,h.well.chs,h.well.pre⟩⟩,rfl⟩
theorem rNew0 (room:Int) (W0:World) (H:List Grp):Tri Tryz.prog 19 #[.int .i64 room] W0 H (fun v H'=>∃ x,v=.pointer (some ⟨x,0,none⟩)∧H'=[(x,.cells #[.int .i64 (if 0 > room then 0 else room),.slice none 0 0,.slice none 0 0,.slice none 0 0,.slice none 0 0,.bool false,.bool false,.int .i64 0] 106 (0,0))]::H):=by
 refine C8 (args:=[.int .i64 room]) (n:=7) Tryz.func19 rfl rfl (Nat.le_of_ble_eq_true rfl) ?_
 refine A1 (B4 (E':=[⟨0,[],.int .i64 room⟩]) [0] [0] (k:=?_))
 refine A0 (A1 ?_)
 refine A2 (A7 (j:=3) [0,0,0] (k:=?_))
 refine R3 (ch:=[]) (v:=.agg #[.int .i64 (if 0 > room then 0 else room),.slice none 0 0,.slice none 0 0,.slice none 0 0,.slice none 0 0,.bool false,.bool false,.int .i64 0]) (k:=(fun b1=>?_))
 refine D3 (E':=[⟨2,[],pt b1⟩]) [0] [2] (k:=A0 ?_)
 refine C3 (C1 [.tmp 2] [pt b1] (k:=?_))
 exact ⟨_,rfl,rfl⟩
theorem rNew (room:Int) (W0:World) (H:List Grp):Tri Tryz.prog 19 #[.int .i64 room] W0 H (fun v H'=>∃ x,v=.pointer (some ⟨x,0,none⟩)∧∃ s:RS,s.ok (newM room)∧H'=s.G x (newM room)++H) :=
  Tri.post (rNew0 room W0 H) fun v H1 ⟨x,hv,hH⟩=>⟨_,⟨x,hv,⟨0,none,0,[],0,none,0,0,none,0,0,none,0,[],[],[]⟩,⟨rfl,Go.Sw.Own.nil,rfl,.inl rfl,rfl,.inl rfl,rfl,Go.Sw.Own.nil,.nil,⟨fun y hy=>absurd hy List.not_mem_nil,fun y hy=>absurd hy List.not_mem_nil,fun c hc=>absurd hc List.not_mem_nil,fun B hB=>absurd hB List.not_mem_nil⟩⟩,rfl⟩,fun w hw=>by
    rw [hH] at hw
    exact T7 (A:=[_,_]) (T7 (A:=[_]) hw)⟩
end Go.Proofs.YtlaoeiaaeifidaaGreat
namespace Go.Vf
open Go.Sw Go.RowKit
def X7 {α:Type} (dirOf:α→ByteArray) (lOf:α→List Nm) (d:ByteArray) (st:Nat × List α × List Nm) (c:α):Nat × List α × List Nm :=
  if !((dirOf c).toList==d.toList)||st.1==0 then (st.1,st.2.1++[c],st.2.2) else (st.1 - 1,st.2.1,J6 st.2.2 (lOf c))
def keepL (d:ByteArray) (n:Nat) (K:List Nm) (l:List Ch):Nat × List Ch × List Nm:=l.foldl (X7 Ch.dir Ch.l d) (n,[],K)
def keepR (d:ByteArray) (n:Nat) (K:List Nm) (l:List CR):Nat × List CR × List Nm:=l.foldl (X7 CR.dir CR.l d) (n,[],K)
def M5 (M:DM) (d:ByteArray) (n:Nat):DM:={ M with kept:=(keepL d n M.kept M.changes).2.2,changes:=(keepL d n M.kept M.changes).2.1 }
theorem keepR_put {d:ByteArray} {n n1:Nat} {K kl:List Nm} {l rs:List CR} {k:Nat} (hk:k<l.length) (h:keepR d n K (l.take k)=(n1,rs,kl)) (hc:(!((l.getD k default).dir.toList==d.toList)||((n1:Nat):Int)==0)=true):keepR d n K (l.take (k+1))=(n1,rs++[l.getD k default],kl):=by
  unfold keepR at h ⊢
  rw [K8 (d:=default) hk,List.foldl_append,h,List.foldl_cons,List.foldl_nil,X7,if_pos]
  simp only [Bool.or_eq_true,beq_iff_eq] at hc ⊢
  rcases hc with hc | hc
  · exact .inl hc
  · exact .inr (by omega)
theorem keepR_not {d:ByteArray} {n n1:Nat} {K kl:List Nm} {l rs:List CR} {k:Nat} (hk:k<l.length) (h:keepR d n K (l.take k)=(n1,rs,kl)) (hc:(!((l.getD k default).dir.toList==d.toList)||((n1:Nat):Int)==0)=false):keepR d n K (l.take (k+1))=(n1 - 1,rs,J6 kl (l.getD k default).l):=by
  unfold keepR at h ⊢
  rw [K8 (d:=default) hk,List.foldl_append,h,List.foldl_cons,List.foldl_nil,X7,if_neg]
  simp only [Bool.or_eq_false_iff,beq_eq_false_iff_ne,ne_eq] at hc
  simp only [Bool.or_eq_true,beq_iff_eq,not_or]
  exact ⟨by rw [hc.1]; decide,fun e=>hc.2 (by omega)⟩
theorem keep_rel {Z:List Grp} {d:ByteArray}:∀ {cs:List CR} {C:List Ch},All2 (CRok Z) cs C→∀ {n:Nat} {rs:List CR} {RS:List Ch} {K:List Nm},All2 (CRok Z) rs RS →
    (cs.foldl (X7 CR.dir CR.l d) (n,rs,K)).1=(C.foldl (X7 Ch.dir Ch.l d) (n,RS,K)).1∧All2 (CRok Z) (cs.foldl (X7 CR.dir CR.l d) (n,rs,K)).2.1 (C.foldl (X7 Ch.dir Ch.l d) (n,RS,K)).2.1∧(cs.foldl (X7 CR.dir CR.l d) (n,rs,K)).2.2=(C.foldl (X7 Ch.dir Ch.l d) (n,RS,K)).2.2
  | [],[],.nil,n,rs,RS,K,h=>⟨rfl,h,rfl⟩
  | c::cs,C::CS,.cons h1 ht,n,rs,RS,K,h=>by
    rw [List.foldl_cons,List.foldl_cons,X7,X7,h1.dir,h1.l]
    split
    · exact keep_rel ht (h.app (.cons h1 .nil))
    · exact keep_rel ht h
theorem kstep_mem {d:ByteArray}:∀ {l:List Ch} {n:Nat} {acc:List Ch} {K:List Nm},∀ c∈(l.foldl (X7 Ch.dir Ch.l d) (n,acc,K)).2.1,c∈acc∨c∈l
  | [],_,_,_,c,hc=>.inl hc
  | x::l,n,acc,K,c,hc=>by
    rw [List.foldl_cons,X7] at hc
    split at hc
    · rcases kstep_mem c hc with h | h
      · rcases List.mem_append.1 h with h | h
        · exact .inl h
        · rw [List.mem_singleton.1 h]; exact .inr List.mem_cons_self
      · exact .inr (List.mem_cons_of_mem _ h)
    · rcases kstep_mem c hc with h | h
      · exact .inl h
      · exact .inr (List.mem_cons_of_mem _ h)
theorem X1 {d:ByteArray}:∀ {l:List Ch} {n:Nat} {acc:List Ch} {K:List Nm},(l.foldl (X7 Ch.dir Ch.l d) (n,acc,K)).2.2=((J1 l d).take n).foldl J6 K
  | [],_,_,_=>by simp [J1]
  | x::l,n,acc,K=>by
    rw [List.foldl_cons,X7]
    have e:(d==x.dir)=((x.dir).toList==d.toList):=by rw [tlEq,Bool.eq_iff_iff,baEq,baEq]; exact eq_comm
    cases h:(x.dir).toList==d.toList
    · simp only [Bool.not_false,Bool.true_or,if_true]
      rw [X1,J1,J1,List.filter_cons,e,h]; simp
    · simp only [Bool.not_true,Bool.false_or]
      rw [show J1 (x::l) d=x.l::J1 l d by rw [J1,J1,List.filter_cons,e,h]; simp]
      cases n with
      | zero=>simp only [beq_self_eq_true,if_true]; rw [X1]; simp
      | succ n=>rw [if_neg (by simp)]; rw [X1]; simp
theorem kstep_rest {d:ByteArray}:∀ {l:List Ch} {n:Nat} {acc:List Ch} {K:List Nm},((l.foldl (X7 Ch.dir Ch.l d) (n,acc,K)).2.1).filter (fun c=>!(d==c.dir))=acc.filter (fun c=>!(d==c.dir))++l.filter (fun c=>!(d==c.dir))
  | [],_,_,_=>by simp
  | x::l,n,acc,K=>by
    rw [List.foldl_cons,X7]
    have e:(d==x.dir)=((x.dir).toList==d.toList):=by rw [tlEq,Bool.eq_iff_iff,baEq,baEq]; exact eq_comm
    split
    · rw [kstep_rest,List.filter_append,List.append_assoc,← List.filter_append]; rfl
    · rename_i h
      simp only [Bool.or_eq_true,beq_iff_eq,not_or,Bool.not_eq_true',Bool.not_eq_false] at h
      rw [kstep_rest,List.filter_cons,e,h.1]; simp
theorem kstep_all {d:ByteArray}:∀ {l:List Ch} {n:Nat} {acc:List Ch} {K:List Nm},(J1 l d).length≤n→(l.foldl (X7 Ch.dir Ch.l d) (n,acc,K)).2.1=acc++l.filter (fun c=>!(d==c.dir))
  | [],_,_,_,_=>by simp
  | x::l,n,acc,K,hn=>by
    rw [List.foldl_cons,X7]
    have e:(d==x.dir)=((x.dir).toList==d.toList):=by rw [tlEq,Bool.eq_iff_iff,baEq,baEq]; exact eq_comm
    cases h:(x.dir).toList==d.toList
    · have ec:J1 (x::l) d=J1 l d:=by rw [J1,J1,List.filter_cons,e,h]; simp
      simp only [Bool.not_false,Bool.true_or,if_true]
      rw [kstep_all (by rwa [ec] at hn),List.filter_cons,e,h]; simp
    · have ec:J1 (x::l) d=x.l::J1 l d:=by rw [J1,J1,List.filter_cons,e,h]; simp
      rw [ec,List.length_cons] at hn
      rw [if_neg (by simp; omega),kstep_all (by omega),List.filter_cons,e,h]; simp
theorem chOf_len (l:List Ch) (d:ByteArray):(J1 l d).length≤l.length:=by unfold J1; rw [List.length_map]; exact List.length_filter_le _ _
theorem keepM_all (M:DM) (d:ByteArray):M5 M d M.changes.length={ M with kept:=(J1 M.changes d).foldl J6 M.kept,changes:=M.changes.filter fun c=>!(d==c.dir) }:=by
  unfold M5 keepL
  rw [X1,kstep_all (chOf_len _ _),List.take_of_length_le (chOf_len _ _),List.nil_append]
theorem applyW_fold {n:Nat}:∀ {ls:List (List Nm)} {K:List Nm},(∀ y∈K,0≤y.2∧y.2.toNat<n)→(∀ c∈ls,∀ y∈c,0≤y.2→y.2.toNat<n)→∀ y∈ls.foldl J6 K,0≤y.2∧y.2.toNat<n
  | [],_,h,_=>h
  | c::ls,K,h,hc=>applyW_fold (ls:=ls) (mem_applyW h (hc c List.mem_cons_self)) fun x hx=>hc x (List.mem_cons_of_mem _ hx)
theorem well_keep {M:DM} (h:Well M) (d:ByteArray) (n:Nat):Well (M5 M d n):=by
  refine ⟨h.names,?_,fun c hc=>?_,h.pre⟩
  · show ∀ y∈(keepL d n M.kept M.changes).2.2,_
    unfold keepL
    rw [X1]
    refine applyW_fold h.kept fun c hc=>?_
    have hm:=List.mem_of_mem_take hc
    unfold J1 at hm
    obtain ⟨C,hC,rfl⟩:=List.mem_map.1 hm
    exact h.chs C (List.mem_filter.1 hC).1
  · rcases kstep_mem c (show c∈(keepL d n M.kept M.changes).2.1 from hc) with h1 | h1
    · cases h1
    · exact h.chs c h1
theorem ok_rkeep {s:RS} {M:DM} (h:s.ok M) {d:ByteArray} {n n1:Nat} {rs:List CR} {kl:List Nm} {Z2:List Grp} {ka ra:Option Addr} {kc rc:Nat} {gr:Grp} (hZ:∀ y o,inZ s.Z y o→inZ Z2 y o) (he:keepR d n M.kept s.cs=(n1,rs,kl)) (hk:Rd (inZ Z2) ka (nmC kl)) (hO:Go.Sw.Own 123 2 (.slice ra rs.length rc) gr rs.length (chC rs)) :
    RS.ok { s with kn:=kl.length,ka:=ka,kc:=kc,cn:=rs.length,ca:=ra,cc:=rc,cg:=gr,cs:=rs,Z:=Z2 } (M5 M d n):=by
  have hr:=keep_rel (d:=d) (h.chs.imp fun _ _ hc=>hc.mono hZ) (n:=n) (K:=M.kept) (.nil (R:=CRok Z2))
  rw [show s.cs.foldl (X7 CR.dir CR.l d) (n,[],M.kept)=(n1,rs,kl) from he] at hr
  obtain ⟨_,h2,h3⟩:=hr
  have hkl:(keepL d n M.kept M.changes).2.2=kl:=h3.symm
  refine ⟨h.bn,h.own,h.nn,h.names.mono hZ,?_,?_,rfl,hO,h2,well_keep h.well d n⟩
  · show kl.length=(keepL d n M.kept M.changes).2.2.length; rw [hkl]
  · show Rd (inZ Z2) ka (nmC (keepL d n M.kept M.changes).2.2); rw [hkl]; exact hk
theorem cr_at {Z:List Grp} {cs:List CR} {C:List Ch} (h:All2 (CRok Z) cs C) {k:Nat} (hk:k<cs.length):Rd (inZ Z) (cs.getD k default).a (nmC (cs.getD k default).l)∧∃ c∈C,(cs.getD k default).l=c.l:=by
  have h1:=h.get default ⟨ByteArray.mk #[],[]⟩ k hk
  refine ⟨h1.rd,_,?_,h1.l⟩
  rw [List.getD_eq_getElem?_getD,List.getElem?_eq_getElem (by rw [← h.len]; exact hk)]
  exact List.getElem_mem _
theorem own_chput {rs:List CR} {c:CR} {a:Option Addr} {cap:Nat} {g:Grp} (h:Go.Sw.Own 123 2 (.slice a (rs.length+1) cap) g (rs.length+1) (chC rs++[.string c.dir,.slice c.a c.l.length c.c])):Go.Sw.Own 123 2 (.slice a (rs++[c]).length cap) g (rs++[c]).length (chC (rs++[c])):=by
  rw [chC_app,List.length_append]; exact h
end Go.Vf
